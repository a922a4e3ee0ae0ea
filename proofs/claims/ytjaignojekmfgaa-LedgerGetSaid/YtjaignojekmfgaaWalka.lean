/-
  Each function keeps its contract, if what it asks holds (printed by a program).
-/
import Derived.Test.YtjaignojekmfgaaFacts
import Derived.Test.YtjaignojekmfgaaPure
namespace Go.Proofs.Ytjaignojekmfgaa
open Go.RowKit Go.Bv Go.Md
set_option linter.unusedSimpArgs false
theorem cmp_isNaN_uint64_ok (p0 : Int) (r0 : Bool) (h : cmp_isNaN_uint64_Ret p0 r0) : SoundH Try.prog 37 [.d (.int .u64 p0)] [] (.d (.bool r0)) [] := by
  refine sound_of Try.func37 rfl Try.ntmps37 (by simp) fun G0 w0 => ?_
  unfold cmp_isNaN_uint64_Ret at h
  refine sat_seq ?_
  refine sat_region fun K hK => ?_
  simp only [v1, v2, v3, v4, v5, v6, v7, v8, v9, tf1, tu, litOk, appOk, appS, growD, Nat.reduceEqDiff, Nat.reduceLT, Nat.reduceAdd, Nat.reduceLeDiff, Nat.reduceMul, Nat.reduceBEq, Nat.reduceSub, Int.reduceLE, Int.reduceToNat, Int.reduceLT, Int.reduceNeg, encSIDBalanceNonce, encSLIDAmountNonce, encSAccounts, encSKindIDAmount, List.map_append, List.length_append, List.length_map, List.map_take, List.map_drop, List.length_drop, List.length_take, Nat.le_refl, true_and]
  refine hK _ ?_
  clear hK K
  try simp only [s_thN, s_thE, s_thR, s_blN, s_blE, s_blM, s_blR, Nat.reduceEqDiff]
  refine sat_seq ?_
  refine sat_region fun K hK => ?_
  simp only [v1, v2, v3, v4, v5, v6, v7, v8, v9, tf1, tu, litOk, appOk, appS, growD, Nat.reduceEqDiff, Nat.reduceLT, Nat.reduceAdd, Nat.reduceLeDiff, Nat.reduceMul, Nat.reduceBEq, Nat.reduceSub, Int.reduceLE, Int.reduceToNat, Int.reduceLT, Int.reduceNeg, encSIDBalanceNonce, encSLIDAmountNonce, encSAccounts, encSKindIDAmount, List.map_append, List.length_append, List.length_map, List.map_take, List.map_drop, List.length_drop, List.length_take, Nat.le_refl, true_and]
  refine hK _ ?_
  clear hK K
  try simp only [s_thN, s_thE, s_thR, s_blN, s_blE, s_blM, s_blR, Nat.reduceEqDiff]
  subst h
  refine sat_ret (retN [] ?_)
  simp only [v1, v2, v3, v4, v5, v6, v7, v8, v9, tf1, tu, litOk, appOk, appS, growD, Nat.reduceEqDiff, Nat.reduceLT, Nat.reduceAdd, Nat.reduceLeDiff, Nat.reduceMul, Nat.reduceBEq, Nat.reduceSub, Int.reduceLE, Int.reduceToNat, Int.reduceLT, Int.reduceNeg, encSIDBalanceNonce, encSLIDAmountNonce, encSAccounts, encSKindIDAmount, vl, Try.results37, e_sp0, e_sp1, List.map_append, List.length_append, List.length_map, List.map_take, List.map_drop, List.length_drop, List.length_take, Nat.le_refl, true_and]
theorem cmp_Compare_uint64_ok (p0 : Int) (p1 : Int) (r0 : Int) (h : cmp_Compare_uint64_Ret p0 p1 r0) : SoundH Try.prog 36 [.d (.int .u64 p0), .d (.int .u64 p1)] [] (.d (.int .i64 r0)) [] := by
  refine sound_of Try.func36 rfl Try.ntmps36 (by simp) fun G0 w0 => ?_
  unfold cmp_Compare_uint64_Ret at h
  refine sat_seq ?_
  refine sat_region fun K hK => ?_
  simp only [v1, v2, v3, v4, v5, v6, v7, v8, v9, tf1, tu, litOk, appOk, appS, growD, Nat.reduceEqDiff, Nat.reduceLT, Nat.reduceAdd, Nat.reduceLeDiff, Nat.reduceMul, Nat.reduceBEq, Nat.reduceSub, Int.reduceLE, Int.reduceToNat, Int.reduceLT, Int.reduceNeg, encSIDBalanceNonce, encSLIDAmountNonce, encSAccounts, encSKindIDAmount, List.map_append, List.length_append, List.length_map, List.map_take, List.map_drop, List.length_drop, List.length_take, Nat.le_refl, true_and]
  refine hK _ ?_
  clear hK K
  try simp only [s_thN, s_thE, s_thR, s_blN, s_blE, s_blM, s_blR, Nat.reduceEqDiff]
  refine sat_seq ?_
  obtain ⟨y1, hr1, h⟩ := h
  refine sat_region fun K hK => ?_
  simp only [v1, v2, v3, v4, v5, v6, v7, v8, v9, tf1, tu, litOk, appOk, appS, growD, Nat.reduceEqDiff, Nat.reduceLT, Nat.reduceAdd, Nat.reduceLeDiff, Nat.reduceMul, Nat.reduceBEq, Nat.reduceSub, Int.reduceLE, Int.reduceToNat, Int.reduceLT, Int.reduceNeg, encSIDBalanceNonce, encSLIDAmountNonce, encSAccounts, encSKindIDAmount, List.map_append, List.length_append, List.length_map, List.map_take, List.map_drop, List.length_drop, List.length_take, Nat.le_refl, true_and]
  refine a_call [] (cmp_isNaN_uint64_ok p0 y1 hr1) bd37 (by simp only [v1, v2, v3, v4, v5, v6, v7, v8, v9, tf1, tu, litOk, appOk, appS, growD, Nat.reduceEqDiff, Nat.reduceLT, Nat.reduceAdd, Nat.reduceLeDiff, Nat.reduceMul, Nat.reduceBEq, Nat.reduceSub, Int.reduceLE, Int.reduceToNat, Int.reduceLT, Int.reduceNeg, encSIDBalanceNonce, encSLIDAmountNonce, encSAccounts, encSKindIDAmount, callOk, vl, List.map_append, List.length_append, List.length_map, List.map_take, List.map_drop, List.length_drop, List.length_take, Nat.le_refl, true_and]) ?_
  simp only [v1, v2, v3, v4, v5, v6, v7, v8, v9, tf1, tu, litOk, appOk, appS, growD, Nat.reduceEqDiff, Nat.reduceLT, Nat.reduceAdd, Nat.reduceLeDiff, Nat.reduceMul, Nat.reduceBEq, Nat.reduceSub, Int.reduceLE, Int.reduceToNat, Int.reduceLT, Int.reduceNeg, encSIDBalanceNonce, encSLIDAmountNonce, encSAccounts, encSKindIDAmount, List.map_append, List.length_append, List.length_map, List.map_take, List.map_drop, List.length_drop, List.length_take, Nat.le_refl, true_and]
  refine hK _ ?_
  clear hK K
  try simp only [s_thN, s_thE, s_thR, s_blN, s_blE, s_blM, s_blR, Nat.reduceEqDiff]
  refine sat_seq ?_
  obtain ⟨y2, hr2, h⟩ := h
  refine sat_region fun K hK => ?_
  simp only [v1, v2, v3, v4, v5, v6, v7, v8, v9, tf1, tu, litOk, appOk, appS, growD, Nat.reduceEqDiff, Nat.reduceLT, Nat.reduceAdd, Nat.reduceLeDiff, Nat.reduceMul, Nat.reduceBEq, Nat.reduceSub, Int.reduceLE, Int.reduceToNat, Int.reduceLT, Int.reduceNeg, encSIDBalanceNonce, encSLIDAmountNonce, encSAccounts, encSKindIDAmount, List.map_append, List.length_append, List.length_map, List.map_take, List.map_drop, List.length_drop, List.length_take, Nat.le_refl, true_and]
  refine a_call [] (cmp_isNaN_uint64_ok p1 y2 hr2) bd37 (by simp only [v1, v2, v3, v4, v5, v6, v7, v8, v9, tf1, tu, litOk, appOk, appS, growD, Nat.reduceEqDiff, Nat.reduceLT, Nat.reduceAdd, Nat.reduceLeDiff, Nat.reduceMul, Nat.reduceBEq, Nat.reduceSub, Int.reduceLE, Int.reduceToNat, Int.reduceLT, Int.reduceNeg, encSIDBalanceNonce, encSLIDAmountNonce, encSAccounts, encSKindIDAmount, callOk, vl, List.map_append, List.length_append, List.length_map, List.map_take, List.map_drop, List.length_drop, List.length_take, Nat.le_refl, true_and]) ?_
  simp only [v1, v2, v3, v4, v5, v6, v7, v8, v9, tf1, tu, litOk, appOk, appS, growD, Nat.reduceEqDiff, Nat.reduceLT, Nat.reduceAdd, Nat.reduceLeDiff, Nat.reduceMul, Nat.reduceBEq, Nat.reduceSub, Int.reduceLE, Int.reduceToNat, Int.reduceLT, Int.reduceNeg, encSIDBalanceNonce, encSLIDAmountNonce, encSAccounts, encSKindIDAmount, List.map_append, List.length_append, List.length_map, List.map_take, List.map_drop, List.length_drop, List.length_take, Nat.le_refl, true_and]
  refine hK _ ?_
  clear hK K
  try simp only [s_thN, s_thE, s_thR, s_blN, s_blE, s_blM, s_blR, Nat.reduceEqDiff]
  refine sat_seq ?_
  refine sat_seq ?_
  refine sat_region fun K hK => ?_
  simp only [v1, v2, v3, v4, v5, v6, v7, v8, v9, tf1, tu, litOk, appOk, appS, growD, Nat.reduceEqDiff, Nat.reduceLT, Nat.reduceAdd, Nat.reduceLeDiff, Nat.reduceMul, Nat.reduceBEq, Nat.reduceSub, Int.reduceLE, Int.reduceToNat, Int.reduceLT, Int.reduceNeg, encSIDBalanceNonce, encSLIDAmountNonce, encSAccounts, encSKindIDAmount, List.map_append, List.length_append, List.length_map, List.map_take, List.map_drop, List.length_drop, List.length_take, Nat.le_refl, true_and]
  refine hK _ ?_
  clear hK K
  try simp only [s_thN, s_thE, s_thR, s_blN, s_blE, s_blM, s_blR, Nat.reduceEqDiff]
  refine sat_cond rfl (fun hb1 => ?_) (fun hb1 => ?_)
  · replace h := h.1 hb1
    refine sat_seq ?_
    refine sat_seq ?_
    refine sat_region fun K hK => ?_
    simp only [v1, v2, v3, v4, v5, v6, v7, v8, v9, tf1, tu, litOk, appOk, appS, growD, Nat.reduceEqDiff, Nat.reduceLT, Nat.reduceAdd, Nat.reduceLeDiff, Nat.reduceMul, Nat.reduceBEq, Nat.reduceSub, Int.reduceLE, Int.reduceToNat, Int.reduceLT, Int.reduceNeg, encSIDBalanceNonce, encSLIDAmountNonce, encSAccounts, encSKindIDAmount, List.map_append, List.length_append, List.length_map, List.map_take, List.map_drop, List.length_drop, List.length_take, Nat.le_refl, true_and]
    refine hK _ ?_
    clear hK K
    try simp only [s_thN, s_thE, s_thR, s_blN, s_blE, s_blM, s_blR, Nat.reduceEqDiff]
    refine sat_cond rfl (fun hb2 => ?_) (fun hb2 => ?_)
    · replace h := h.1 hb2
      refine sat_seq ?_
      refine sat_region fun K hK => ?_
      simp only [v1, v2, v3, v4, v5, v6, v7, v8, v9, tf1, tu, litOk, appOk, appS, growD, Nat.reduceEqDiff, Nat.reduceLT, Nat.reduceAdd, Nat.reduceLeDiff, Nat.reduceMul, Nat.reduceBEq, Nat.reduceSub, Int.reduceLE, Int.reduceToNat, Int.reduceLT, Int.reduceNeg, encSIDBalanceNonce, encSLIDAmountNonce, encSAccounts, encSKindIDAmount, List.map_append, List.length_append, List.length_map, List.map_take, List.map_drop, List.length_drop, List.length_take, Nat.le_refl, true_and]
      refine hK _ ?_
      clear hK K
      try simp only [s_thN, s_thE, s_thR, s_blN, s_blE, s_blM, s_blR, Nat.reduceEqDiff]
      subst h
      refine sat_ret (retN [] ?_)
      simp only [v1, v2, v3, v4, v5, v6, v7, v8, v9, tf1, tu, litOk, appOk, appS, growD, Nat.reduceEqDiff, Nat.reduceLT, Nat.reduceAdd, Nat.reduceLeDiff, Nat.reduceMul, Nat.reduceBEq, Nat.reduceSub, Int.reduceLE, Int.reduceToNat, Int.reduceLT, Int.reduceNeg, encSIDBalanceNonce, encSLIDAmountNonce, encSAccounts, encSKindIDAmount, vl, Try.results36, e_sp0, e_sp1, List.map_append, List.length_append, List.length_map, List.map_take, List.map_drop, List.length_drop, List.length_take, Nat.le_refl, true_and]
    · replace h := h.2 hb2
      refine sat_skip ?_
      try simp only [s_thN, s_thE, s_thR, s_blN, s_blE, s_blM, s_blR, Nat.reduceEqDiff]
      refine sat_seq ?_
      refine sat_region fun K hK => ?_
      simp only [v1, v2, v3, v4, v5, v6, v7, v8, v9, tf1, tu, litOk, appOk, appS, growD, Nat.reduceEqDiff, Nat.reduceLT, Nat.reduceAdd, Nat.reduceLeDiff, Nat.reduceMul, Nat.reduceBEq, Nat.reduceSub, Int.reduceLE, Int.reduceToNat, Int.reduceLT, Int.reduceNeg, encSIDBalanceNonce, encSLIDAmountNonce, encSAccounts, encSKindIDAmount, List.map_append, List.length_append, List.length_map, List.map_take, List.map_drop, List.length_drop, List.length_take, Nat.le_refl, true_and]
      refine hK _ ?_
      clear hK K
      try simp only [s_thN, s_thE, s_thR, s_blN, s_blE, s_blM, s_blR, Nat.reduceEqDiff]
      subst h
      refine sat_ret (retN [] ?_)
      simp only [v1, v2, v3, v4, v5, v6, v7, v8, v9, tf1, tu, litOk, appOk, appS, growD, Nat.reduceEqDiff, Nat.reduceLT, Nat.reduceAdd, Nat.reduceLeDiff, Nat.reduceMul, Nat.reduceBEq, Nat.reduceSub, Int.reduceLE, Int.reduceToNat, Int.reduceLT, Int.reduceNeg, encSIDBalanceNonce, encSLIDAmountNonce, encSAccounts, encSKindIDAmount, vl, Try.results36, e_sp0, e_sp1, List.map_append, List.length_append, List.length_map, List.map_take, List.map_drop, List.length_drop, List.length_take, Nat.le_refl, true_and]
  · replace h := h.2 hb1
    refine sat_skip ?_
    try simp only [s_thN, s_thE, s_thR, s_blN, s_blE, s_blM, s_blR, Nat.reduceEqDiff]
    refine sat_seq ?_
    refine sat_seq ?_
    refine sat_region fun K hK => ?_
    simp only [v1, v2, v3, v4, v5, v6, v7, v8, v9, tf1, tu, litOk, appOk, appS, growD, Nat.reduceEqDiff, Nat.reduceLT, Nat.reduceAdd, Nat.reduceLeDiff, Nat.reduceMul, Nat.reduceBEq, Nat.reduceSub, Int.reduceLE, Int.reduceToNat, Int.reduceLT, Int.reduceNeg, encSIDBalanceNonce, encSLIDAmountNonce, encSAccounts, encSKindIDAmount, List.map_append, List.length_append, List.length_map, List.map_take, List.map_drop, List.length_drop, List.length_take, Nat.le_refl, true_and]
    refine hK _ ?_
    clear hK K
    try simp only [s_thN, s_thE, s_thR, s_blN, s_blE, s_blM, s_blR, Nat.reduceEqDiff]
    refine sat_cond rfl (fun hb3 => ?_) (fun hb3 => ?_)
    · replace h := h.1 hb3
      refine sat_seq ?_
      refine sat_region fun K hK => ?_
      simp only [v1, v2, v3, v4, v5, v6, v7, v8, v9, tf1, tu, litOk, appOk, appS, growD, Nat.reduceEqDiff, Nat.reduceLT, Nat.reduceAdd, Nat.reduceLeDiff, Nat.reduceMul, Nat.reduceBEq, Nat.reduceSub, Int.reduceLE, Int.reduceToNat, Int.reduceLT, Int.reduceNeg, encSIDBalanceNonce, encSLIDAmountNonce, encSAccounts, encSKindIDAmount, List.map_append, List.length_append, List.length_map, List.map_take, List.map_drop, List.length_drop, List.length_take, Nat.le_refl, true_and]
      refine hK _ ?_
      clear hK K
      try simp only [s_thN, s_thE, s_thR, s_blN, s_blE, s_blM, s_blR, Nat.reduceEqDiff]
      subst h
      refine sat_ret (retN [] ?_)
      simp only [v1, v2, v3, v4, v5, v6, v7, v8, v9, tf1, tu, litOk, appOk, appS, growD, Nat.reduceEqDiff, Nat.reduceLT, Nat.reduceAdd, Nat.reduceLeDiff, Nat.reduceMul, Nat.reduceBEq, Nat.reduceSub, Int.reduceLE, Int.reduceToNat, Int.reduceLT, Int.reduceNeg, encSIDBalanceNonce, encSLIDAmountNonce, encSAccounts, encSKindIDAmount, vl, Try.results36, e_sp0, e_sp1, List.map_append, List.length_append, List.length_map, List.map_take, List.map_drop, List.length_drop, List.length_take, Nat.le_refl, true_and]
    · replace h := h.2 hb3
      refine sat_skip ?_
      try simp only [s_thN, s_thE, s_thR, s_blN, s_blE, s_blM, s_blR, Nat.reduceEqDiff]
      refine sat_seq ?_
      refine sat_seq ?_
      refine sat_region fun K hK => ?_
      simp only [v1, v2, v3, v4, v5, v6, v7, v8, v9, tf1, tu, litOk, appOk, appS, growD, Nat.reduceEqDiff, Nat.reduceLT, Nat.reduceAdd, Nat.reduceLeDiff, Nat.reduceMul, Nat.reduceBEq, Nat.reduceSub, Int.reduceLE, Int.reduceToNat, Int.reduceLT, Int.reduceNeg, encSIDBalanceNonce, encSLIDAmountNonce, encSAccounts, encSKindIDAmount, List.map_append, List.length_append, List.length_map, List.map_take, List.map_drop, List.length_drop, List.length_take, Nat.le_refl, true_and]
      refine hK _ ?_
      clear hK K
      try simp only [s_thN, s_thE, s_thR, s_blN, s_blE, s_blM, s_blR, Nat.reduceEqDiff]
      refine sat_cond rfl (fun hb4 => ?_) (fun hb4 => ?_)
      · replace h := h.1 hb4
        refine sat_seq ?_
        refine sat_region fun K hK => ?_
        simp only [v1, v2, v3, v4, v5, v6, v7, v8, v9, tf1, tu, litOk, appOk, appS, growD, Nat.reduceEqDiff, Nat.reduceLT, Nat.reduceAdd, Nat.reduceLeDiff, Nat.reduceMul, Nat.reduceBEq, Nat.reduceSub, Int.reduceLE, Int.reduceToNat, Int.reduceLT, Int.reduceNeg, encSIDBalanceNonce, encSLIDAmountNonce, encSAccounts, encSKindIDAmount, List.map_append, List.length_append, List.length_map, List.map_take, List.map_drop, List.length_drop, List.length_take, Nat.le_refl, true_and]
        refine hK _ ?_
        clear hK K
        try simp only [s_thN, s_thE, s_thR, s_blN, s_blE, s_blM, s_blR, Nat.reduceEqDiff]
        subst h
        refine sat_ret (retN [] ?_)
        simp only [v1, v2, v3, v4, v5, v6, v7, v8, v9, tf1, tu, litOk, appOk, appS, growD, Nat.reduceEqDiff, Nat.reduceLT, Nat.reduceAdd, Nat.reduceLeDiff, Nat.reduceMul, Nat.reduceBEq, Nat.reduceSub, Int.reduceLE, Int.reduceToNat, Int.reduceLT, Int.reduceNeg, encSIDBalanceNonce, encSLIDAmountNonce, encSAccounts, encSKindIDAmount, vl, Try.results36, e_sp0, e_sp1, List.map_append, List.length_append, List.length_map, List.map_take, List.map_drop, List.length_drop, List.length_take, Nat.le_refl, true_and]
      · replace h := h.2 hb4
        refine sat_skip ?_
        try simp only [s_thN, s_thE, s_thR, s_blN, s_blE, s_blM, s_blR, Nat.reduceEqDiff]
        refine sat_seq ?_
        refine sat_seq ?_
        refine sat_region fun K hK => ?_
        simp only [v1, v2, v3, v4, v5, v6, v7, v8, v9, tf1, tu, litOk, appOk, appS, growD, Nat.reduceEqDiff, Nat.reduceLT, Nat.reduceAdd, Nat.reduceLeDiff, Nat.reduceMul, Nat.reduceBEq, Nat.reduceSub, Int.reduceLE, Int.reduceToNat, Int.reduceLT, Int.reduceNeg, encSIDBalanceNonce, encSLIDAmountNonce, encSAccounts, encSKindIDAmount, List.map_append, List.length_append, List.length_map, List.map_take, List.map_drop, List.length_drop, List.length_take, Nat.le_refl, true_and]
        refine hK _ ?_
        clear hK K
        try simp only [s_thN, s_thE, s_thR, s_blN, s_blE, s_blM, s_blR, Nat.reduceEqDiff]
        refine sat_cond rfl (fun hb5 => ?_) (fun hb5 => ?_)
        · replace h := h.1 hb5
          refine sat_seq ?_
          refine sat_region fun K hK => ?_
          simp only [v1, v2, v3, v4, v5, v6, v7, v8, v9, tf1, tu, litOk, appOk, appS, growD, Nat.reduceEqDiff, Nat.reduceLT, Nat.reduceAdd, Nat.reduceLeDiff, Nat.reduceMul, Nat.reduceBEq, Nat.reduceSub, Int.reduceLE, Int.reduceToNat, Int.reduceLT, Int.reduceNeg, encSIDBalanceNonce, encSLIDAmountNonce, encSAccounts, encSKindIDAmount, List.map_append, List.length_append, List.length_map, List.map_take, List.map_drop, List.length_drop, List.length_take, Nat.le_refl, true_and]
          refine hK _ ?_
          clear hK K
          try simp only [s_thN, s_thE, s_thR, s_blN, s_blE, s_blM, s_blR, Nat.reduceEqDiff]
          subst h
          refine sat_ret (retN [] ?_)
          simp only [v1, v2, v3, v4, v5, v6, v7, v8, v9, tf1, tu, litOk, appOk, appS, growD, Nat.reduceEqDiff, Nat.reduceLT, Nat.reduceAdd, Nat.reduceLeDiff, Nat.reduceMul, Nat.reduceBEq, Nat.reduceSub, Int.reduceLE, Int.reduceToNat, Int.reduceLT, Int.reduceNeg, encSIDBalanceNonce, encSLIDAmountNonce, encSAccounts, encSKindIDAmount, vl, Try.results36, e_sp0, e_sp1, List.map_append, List.length_append, List.length_map, List.map_take, List.map_drop, List.length_drop, List.length_take, Nat.le_refl, true_and]
        · replace h := h.2 hb5
          refine sat_skip ?_
          try simp only [s_thN, s_thE, s_thR, s_blN, s_blE, s_blM, s_blR, Nat.reduceEqDiff]
          refine sat_seq ?_
          refine sat_region fun K hK => ?_
          simp only [v1, v2, v3, v4, v5, v6, v7, v8, v9, tf1, tu, litOk, appOk, appS, growD, Nat.reduceEqDiff, Nat.reduceLT, Nat.reduceAdd, Nat.reduceLeDiff, Nat.reduceMul, Nat.reduceBEq, Nat.reduceSub, Int.reduceLE, Int.reduceToNat, Int.reduceLT, Int.reduceNeg, encSIDBalanceNonce, encSLIDAmountNonce, encSAccounts, encSKindIDAmount, List.map_append, List.length_append, List.length_map, List.map_take, List.map_drop, List.length_drop, List.length_take, Nat.le_refl, true_and]
          refine hK _ ?_
          clear hK K
          try simp only [s_thN, s_thE, s_thR, s_blN, s_blE, s_blM, s_blR, Nat.reduceEqDiff]
          subst h
          refine sat_ret (retN [] ?_)
          simp only [v1, v2, v3, v4, v5, v6, v7, v8, v9, tf1, tu, litOk, appOk, appS, growD, Nat.reduceEqDiff, Nat.reduceLT, Nat.reduceAdd, Nat.reduceLeDiff, Nat.reduceMul, Nat.reduceBEq, Nat.reduceSub, Int.reduceLE, Int.reduceToNat, Int.reduceLT, Int.reduceNeg, encSIDBalanceNonce, encSLIDAmountNonce, encSAccounts, encSKindIDAmount, vl, Try.results36, e_sp0, e_sp1, List.map_append, List.length_append, List.length_map, List.map_take, List.map_drop, List.length_drop, List.length_take, Nat.le_refl, true_and]
theorem ledger_find_1_ok (p0 : SIDBalanceNonce) (p1 : Int) (r0 : Int) (h : ledger_find_1_Ret p0 p1 r0) : SoundH Try.prog 35 [.agg [.d (.int .u64 p0.ID), .d (.int .u64 p0.Balance), .d (.int .u64 p0.Nonce)], .d (.int .u64 p1)] [] (.d (.int .i64 r0)) [] := by
  refine sound_of Try.func35 rfl Try.ntmps35 (by simp) fun G0 w0 => ?_
  unfold ledger_find_1_Ret at h
  refine sat_seq ?_
  refine sat_region fun K hK => ?_
  simp only [v1, v2, v3, v4, v5, v6, v7, v8, v9, tf1, tu, litOk, appOk, appS, growD, Nat.reduceEqDiff, Nat.reduceLT, Nat.reduceAdd, Nat.reduceLeDiff, Nat.reduceMul, Nat.reduceBEq, Nat.reduceSub, Int.reduceLE, Int.reduceToNat, Int.reduceLT, Int.reduceNeg, encSIDBalanceNonce, encSLIDAmountNonce, encSAccounts, encSKindIDAmount, List.map_append, List.length_append, List.length_map, List.map_take, List.map_drop, List.length_drop, List.length_take, Nat.le_refl, true_and]
  refine hK _ ?_
  clear hK K
  try simp only [s_thN, s_thE, s_thR, s_blN, s_blE, s_blM, s_blR, Nat.reduceEqDiff]
  refine sat_seq ?_
  obtain ⟨y1, hr1, h⟩ := h
  refine sat_region fun K hK => ?_
  simp only [v1, v2, v3, v4, v5, v6, v7, v8, v9, tf1, tu, litOk, appOk, appS, growD, Nat.reduceEqDiff, Nat.reduceLT, Nat.reduceAdd, Nat.reduceLeDiff, Nat.reduceMul, Nat.reduceBEq, Nat.reduceSub, Int.reduceLE, Int.reduceToNat, Int.reduceLT, Int.reduceNeg, encSIDBalanceNonce, encSLIDAmountNonce, encSAccounts, encSKindIDAmount, List.map_append, List.length_append, List.length_map, List.map_take, List.map_drop, List.length_drop, List.length_take, Nat.le_refl, true_and]
  refine a_call [] (cmp_Compare_uint64_ok p0.ID p1 y1 hr1) bd36 (by simp only [v1, v2, v3, v4, v5, v6, v7, v8, v9, tf1, tu, litOk, appOk, appS, growD, Nat.reduceEqDiff, Nat.reduceLT, Nat.reduceAdd, Nat.reduceLeDiff, Nat.reduceMul, Nat.reduceBEq, Nat.reduceSub, Int.reduceLE, Int.reduceToNat, Int.reduceLT, Int.reduceNeg, encSIDBalanceNonce, encSLIDAmountNonce, encSAccounts, encSKindIDAmount, callOk, vl, List.map_append, List.length_append, List.length_map, List.map_take, List.map_drop, List.length_drop, List.length_take, Nat.le_refl, true_and]) ?_
  simp only [v1, v2, v3, v4, v5, v6, v7, v8, v9, tf1, tu, litOk, appOk, appS, growD, Nat.reduceEqDiff, Nat.reduceLT, Nat.reduceAdd, Nat.reduceLeDiff, Nat.reduceMul, Nat.reduceBEq, Nat.reduceSub, Int.reduceLE, Int.reduceToNat, Int.reduceLT, Int.reduceNeg, encSIDBalanceNonce, encSLIDAmountNonce, encSAccounts, encSKindIDAmount, List.map_append, List.length_append, List.length_map, List.map_take, List.map_drop, List.length_drop, List.length_take, Nat.le_refl, true_and]
  refine hK _ ?_
  clear hK K
  try simp only [s_thN, s_thE, s_thR, s_blN, s_blE, s_blM, s_blR, Nat.reduceEqDiff]
  subst h
  refine sat_ret (retN [] ?_)
  simp only [v1, v2, v3, v4, v5, v6, v7, v8, v9, tf1, tu, litOk, appOk, appS, growD, Nat.reduceEqDiff, Nat.reduceLT, Nat.reduceAdd, Nat.reduceLeDiff, Nat.reduceMul, Nat.reduceBEq, Nat.reduceSub, Int.reduceLE, Int.reduceToNat, Int.reduceLT, Int.reduceNeg, encSIDBalanceNonce, encSLIDAmountNonce, encSAccounts, encSKindIDAmount, vl, Try.results35, e_sp0, e_sp1, List.map_append, List.length_append, List.length_map, List.map_take, List.map_drop, List.length_drop, List.length_take, Nat.le_refl, true_and]
theorem slices_BinarySearchFunc_ledger_Account_ledger_Account_uint64_edger_find_1_ok (p0 : List SIDBalanceNonce) (p1 : Int) (r0 : Int) (r1 : Bool) (h : slices_BinarySearchFunc_ledger_Account_ledger_Account_uint64_edger_find_1_Ret p0 p1 r0 r1) : SoundH Try.prog 34 [.d (.slice 3 (List.map encSIDBalanceNonce p0)), .d (.int .u64 p1), .k (.func (.func 35) #[] #[])] [] (.tup [.d (.int .i64 r0), .d (.bool r1)]) [] := by
  refine sound_of Try.func34 rfl Try.ntmps34 (by simp) fun G0 w0 => ?_
  unfold slices_BinarySearchFunc_ledger_Account_ledger_Account_uint64_edger_find_1_Ret at h
  refine sat_seq ?_
  refine sat_region fun K hK => ?_
  simp only [v1, v2, v3, v4, v5, v6, v7, v8, v9, tf1, tu, litOk, appOk, appS, growD, Nat.reduceEqDiff, Nat.reduceLT, Nat.reduceAdd, Nat.reduceLeDiff, Nat.reduceMul, Nat.reduceBEq, Nat.reduceSub, Int.reduceLE, Int.reduceToNat, Int.reduceLT, Int.reduceNeg, encSIDBalanceNonce, encSLIDAmountNonce, encSAccounts, encSKindIDAmount, List.map_append, List.length_append, List.length_map, List.map_take, List.map_drop, List.length_drop, List.length_take, Nat.le_refl, true_and]
  refine hK _ ?_
  clear hK K
  try simp only [s_thN, s_thE, s_thR, s_blN, s_blE, s_blM, s_blR, Nat.reduceEqDiff]
  refine sat_seq ?_
  refine sat_region fun K hK => ?_
  simp only [v1, v2, v3, v4, v5, v6, v7, v8, v9, tf1, tu, litOk, appOk, appS, growD, Nat.reduceEqDiff, Nat.reduceLT, Nat.reduceAdd, Nat.reduceLeDiff, Nat.reduceMul, Nat.reduceBEq, Nat.reduceSub, Int.reduceLE, Int.reduceToNat, Int.reduceLT, Int.reduceNeg, encSIDBalanceNonce, encSLIDAmountNonce, encSAccounts, encSKindIDAmount, List.map_append, List.length_append, List.length_map, List.map_take, List.map_drop, List.length_drop, List.length_take, Nat.le_refl, true_and]
  refine hK _ ?_
  clear hK K
  try simp only [s_thN, s_thE, s_thR, s_blN, s_blE, s_blM, s_blR, Nat.reduceEqDiff]
  refine sat_seq ?_
  refine sat_region fun K hK => ?_
  simp only [v1, v2, v3, v4, v5, v6, v7, v8, v9, tf1, tu, litOk, appOk, appS, growD, Nat.reduceEqDiff, Nat.reduceLT, Nat.reduceAdd, Nat.reduceLeDiff, Nat.reduceMul, Nat.reduceBEq, Nat.reduceSub, Int.reduceLE, Int.reduceToNat, Int.reduceLT, Int.reduceNeg, encSIDBalanceNonce, encSLIDAmountNonce, encSAccounts, encSKindIDAmount, List.map_append, List.length_append, List.length_map, List.map_take, List.map_drop, List.length_drop, List.length_take, Nat.le_refl, true_and]
  refine hK _ ?_
  clear hK K
  try simp only [s_thN, s_thE, s_thR, s_blN, s_blE, s_blM, s_blR, Nat.reduceEqDiff]
  refine sat_seq ?_
  refine sat_block ?_
  obtain ⟨inv, μ, h0, hs⟩ := h
  refine sat_loop (ι := Int × Int) (fun x => ⟨[(0, .d (.slice 3 (List.map encSIDBalanceNonce p0))), (1, .d (.int .u64 p1)), (2, .k (.func (.func 35) #[] #[])), (8, .d (.int .i64 ((List.length p0 : Nat) : Int))), (9, .d (.int .i64 x.1)), (10, .d (.int .i64 x.2))], [], 0⟩) inv μ (0, ((List.length p0 : Nat) : Int)) h0 (by simp only [v1, v2, v3, v4, v5, v6, v7, v8, v9, tf1, tu, litOk, appOk, appS, growD, Nat.reduceEqDiff, Nat.reduceLT, Nat.reduceAdd, Nat.reduceLeDiff, Nat.reduceMul, Nat.reduceBEq, Nat.reduceSub, Int.reduceLE, Int.reduceToNat, Int.reduceLT, Int.reduceNeg, encSIDBalanceNonce, encSLIDAmountNonce, encSAccounts, encSKindIDAmount, vl, List.map_append, List.length_append, List.length_map, List.map_take, List.map_drop, List.length_drop, List.length_take, Nat.le_refl, true_and]) ?_
  rintro ⟨j3, j4⟩ hi
  have h : slices_BinarySearchFunc_ledger_Account_ledger_Account_uint64_edger_find_1_L2 p0 p1 r0 r1 _ j3 j4 := hs _ hi
  clear hs h0 hi
  generalize hnx : (fun s => inv s ∧ μ s < μ (j3, j4)) = nx1 at h
  show Sat _ _ _ _ _ _ ⟨[(0, .d (.slice 3 (List.map encSIDBalanceNonce p0))), (1, .d (.int .u64 p1)), (2, .k (.func (.func 35) #[] #[])), (8, .d (.int .i64 ((List.length p0 : Nat) : Int))), (9, .d (.int .i64 j3)), (10, .d (.int .i64 j4))], [], 0⟩ _
  unfold slices_BinarySearchFunc_ledger_Account_ledger_Account_uint64_edger_find_1_L2 at h
  refine sat_seq ?_
  refine sat_seq ?_
  refine sat_region fun K hK => ?_
  simp only [v1, v2, v3, v4, v5, v6, v7, v8, v9, tf1, tu, litOk, appOk, appS, growD, Nat.reduceEqDiff, Nat.reduceLT, Nat.reduceAdd, Nat.reduceLeDiff, Nat.reduceMul, Nat.reduceBEq, Nat.reduceSub, Int.reduceLE, Int.reduceToNat, Int.reduceLT, Int.reduceNeg, encSIDBalanceNonce, encSLIDAmountNonce, encSAccounts, encSKindIDAmount, List.map_append, List.length_append, List.length_map, List.map_take, List.map_drop, List.length_drop, List.length_take, Nat.le_refl, true_and]
  refine hK _ ?_
  clear hK K
  try simp only [s_thN, s_thE, s_thR, s_blN, s_blE, s_blM, s_blR, Nat.reduceEqDiff]
  refine sat_cond rfl (fun hb1 => ?_) (fun hb1 => ?_)
  · replace h := h.1 hb1
    refine sat_skip ?_
    try simp only [s_thN, s_thE, s_thR, s_blN, s_blE, s_blM, s_blR, Nat.reduceEqDiff]
    refine sat_block ?_
    refine sat_seq ?_
    refine sat_region fun K hK => ?_
    simp only [v1, v2, v3, v4, v5, v6, v7, v8, v9, tf1, tu, litOk, appOk, appS, growD, Nat.reduceEqDiff, Nat.reduceLT, Nat.reduceAdd, Nat.reduceLeDiff, Nat.reduceMul, Nat.reduceBEq, Nat.reduceSub, Int.reduceLE, Int.reduceToNat, Int.reduceLT, Int.reduceNeg, encSIDBalanceNonce, encSLIDAmountNonce, encSAccounts, encSKindIDAmount, List.map_append, List.length_append, List.length_map, List.map_take, List.map_drop, List.length_drop, List.length_take, Nat.le_refl, true_and]
    refine hK _ ?_
    clear hK K
    try simp only [s_thN, s_thE, s_thR, s_blN, s_blE, s_blM, s_blR, Nat.reduceEqDiff]
    refine sat_seq ?_
    obtain ⟨c1, c2, y1, hr1, h⟩ := h
    refine sat_region fun K hK => ?_
    simp only [v1, v2, v3, v4, v5, v6, v7, v8, v9, tf1, tu, litOk, appOk, appS, growD, Nat.reduceEqDiff, Nat.reduceLT, Nat.reduceAdd, Nat.reduceLeDiff, Nat.reduceMul, Nat.reduceBEq, Nat.reduceSub, Int.reduceLE, Int.reduceToNat, Int.reduceLT, Int.reduceNeg, encSIDBalanceNonce, encSLIDAmountNonce, encSAccounts, encSKindIDAmount, c1, c2, elt_ix encSIDBalanceNonce p0 (IntKind.i64.wrap (ishr .u64 (IntKind.u64.wrap (IntKind.i64.wrap (j3 + j4))) 1)) c1 c2, List.map_append, List.length_append, List.length_map, List.map_take, List.map_drop, List.length_drop, List.length_take, Nat.le_refl, true_and]
    refine a_call [] (ledger_find_1_ok (ix p0 (IntKind.i64.wrap (ishr .u64 (IntKind.u64.wrap (IntKind.i64.wrap (j3 + j4))) 1))) p1 y1 hr1) bd35 (by simp only [v1, v2, v3, v4, v5, v6, v7, v8, v9, tf1, tu, litOk, appOk, appS, growD, Nat.reduceEqDiff, Nat.reduceLT, Nat.reduceAdd, Nat.reduceLeDiff, Nat.reduceMul, Nat.reduceBEq, Nat.reduceSub, Int.reduceLE, Int.reduceToNat, Int.reduceLT, Int.reduceNeg, encSIDBalanceNonce, encSLIDAmountNonce, encSAccounts, encSKindIDAmount, callOk, vl, List.map_append, List.length_append, List.length_map, List.map_take, List.map_drop, List.length_drop, List.length_take, Nat.le_refl, true_and]) ?_
    simp only [v1, v2, v3, v4, v5, v6, v7, v8, v9, tf1, tu, litOk, appOk, appS, growD, Nat.reduceEqDiff, Nat.reduceLT, Nat.reduceAdd, Nat.reduceLeDiff, Nat.reduceMul, Nat.reduceBEq, Nat.reduceSub, Int.reduceLE, Int.reduceToNat, Int.reduceLT, Int.reduceNeg, encSIDBalanceNonce, encSLIDAmountNonce, encSAccounts, encSKindIDAmount, List.map_append, List.length_append, List.length_map, List.map_take, List.map_drop, List.length_drop, List.length_take, Nat.le_refl, true_and]
    refine hK _ ?_
    clear hK K
    try simp only [s_thN, s_thE, s_thR, s_blN, s_blE, s_blM, s_blR, Nat.reduceEqDiff]
    refine sat_cond rfl (fun hb2 => ?_) (fun hb2 => ?_)
    · replace h := h.1 hb2
      refine sat_region fun K hK => ?_
      simp only [v1, v2, v3, v4, v5, v6, v7, v8, v9, tf1, tu, litOk, appOk, appS, growD, Nat.reduceEqDiff, Nat.reduceLT, Nat.reduceAdd, Nat.reduceLeDiff, Nat.reduceMul, Nat.reduceBEq, Nat.reduceSub, Int.reduceLE, Int.reduceToNat, Int.reduceLT, Int.reduceNeg, encSIDBalanceNonce, encSLIDAmountNonce, encSAccounts, encSKindIDAmount, List.map_append, List.length_append, List.length_map, List.map_take, List.map_drop, List.length_drop, List.length_take, Nat.le_refl, true_and]
      refine hK _ ?_
      clear hK K
      try simp only [s_thN, s_thE, s_thR, s_blN, s_blE, s_blM, s_blR, Nat.reduceEqDiff]
      rw [← hnx] at h
      exact ⟨(IntKind.i64.wrap ((IntKind.i64.wrap (ishr .u64 (IntKind.u64.wrap (IntKind.i64.wrap (j3 + j4))) 1)) + 1), j4), h.1, h.2, by simp only [v1, v2, v3, v4, v5, v6, v7, v8, v9, tf1, tu, litOk, appOk, appS, growD, Nat.reduceEqDiff, Nat.reduceLT, Nat.reduceAdd, Nat.reduceLeDiff, Nat.reduceMul, Nat.reduceBEq, Nat.reduceSub, Int.reduceLE, Int.reduceToNat, Int.reduceLT, Int.reduceNeg, encSIDBalanceNonce, encSLIDAmountNonce, encSAccounts, encSKindIDAmount, vl, List.map_append, List.length_append, List.length_map, List.map_take, List.map_drop, List.length_drop, List.length_take, Nat.le_refl, true_and]⟩
    · replace h := h.2 hb2
      refine sat_region fun K hK => ?_
      simp only [v1, v2, v3, v4, v5, v6, v7, v8, v9, tf1, tu, litOk, appOk, appS, growD, Nat.reduceEqDiff, Nat.reduceLT, Nat.reduceAdd, Nat.reduceLeDiff, Nat.reduceMul, Nat.reduceBEq, Nat.reduceSub, Int.reduceLE, Int.reduceToNat, Int.reduceLT, Int.reduceNeg, encSIDBalanceNonce, encSLIDAmountNonce, encSAccounts, encSKindIDAmount, List.map_append, List.length_append, List.length_map, List.map_take, List.map_drop, List.length_drop, List.length_take, Nat.le_refl, true_and]
      refine hK _ ?_
      clear hK K
      try simp only [s_thN, s_thE, s_thR, s_blN, s_blE, s_blM, s_blR, Nat.reduceEqDiff]
      rw [← hnx] at h
      exact ⟨(j3, IntKind.i64.wrap (ishr .u64 (IntKind.u64.wrap (IntKind.i64.wrap (j3 + j4))) 1)), h.1, h.2, by simp only [v1, v2, v3, v4, v5, v6, v7, v8, v9, tf1, tu, litOk, appOk, appS, growD, Nat.reduceEqDiff, Nat.reduceLT, Nat.reduceAdd, Nat.reduceLeDiff, Nat.reduceMul, Nat.reduceBEq, Nat.reduceSub, Int.reduceLE, Int.reduceToNat, Int.reduceLT, Int.reduceNeg, encSIDBalanceNonce, encSLIDAmountNonce, encSAccounts, encSKindIDAmount, vl, List.map_append, List.length_append, List.length_map, List.map_take, List.map_drop, List.length_drop, List.length_take, Nat.le_refl, true_and]⟩
  · replace h := h.2 hb1
    refine sat_exit ?_
    try simp only [s_thN, s_thE, s_thR, s_blN, s_blE, s_blM, s_blR, Nat.reduceEqDiff]
    refine sat_join (ι := Int × Bool) (fun x => ⟨[(6, .d (.int .i64 x.1)), (7, .d (.bool x.2))], [], 0⟩) (fun x => slices_BinarySearchFunc_ledger_Account_ledger_Account_uint64_edger_find_1_J1 r0 r1 x.1 x.2) ?_ ?_
    · obtain ⟨c3, c4, y2, hr2, h⟩ := h
      refine sat_region fun K hK => ?_
      simp only [v1, v2, v3, v4, v5, v6, v7, v8, v9, tf1, tu, litOk, appOk, appS, growD, Nat.reduceEqDiff, Nat.reduceLT, Nat.reduceAdd, Nat.reduceLeDiff, Nat.reduceMul, Nat.reduceBEq, Nat.reduceSub, Int.reduceLE, Int.reduceToNat, Int.reduceLT, Int.reduceNeg, encSIDBalanceNonce, encSLIDAmountNonce, encSAccounts, encSKindIDAmount, List.map_append, List.length_append, List.length_map, List.map_take, List.map_drop, List.length_drop, List.length_take, Nat.le_refl, true_and]
      refine A_guard_split (by simp only [v1, v2, v3, v4, v5, v6, v7, v8, v9, tf1, tu, litOk, appOk, appS, growD, Nat.reduceEqDiff, Nat.reduceLT, Nat.reduceAdd, Nat.reduceLeDiff, Nat.reduceMul, Nat.reduceBEq, Nat.reduceSub, Int.reduceLE, Int.reduceToNat, Int.reduceLT, Int.reduceNeg, encSIDBalanceNonce, encSLIDAmountNonce, encSAccounts, encSKindIDAmount]; rfl) (fun hg1 => ?_) (fun hg1 => ?_)
      · replace c3 := c3 (by simp only [v1, v2, v3, v4, v5, v6, v7, v8, v9, tf1, tu, litOk, appOk, appS, growD, Nat.reduceEqDiff, Nat.reduceLT, Nat.reduceAdd, Nat.reduceLeDiff, Nat.reduceMul, Nat.reduceBEq, Nat.reduceSub, Int.reduceLE, Int.reduceToNat, Int.reduceLT, Int.reduceNeg, encSIDBalanceNonce, encSLIDAmountNonce, encSAccounts, encSKindIDAmount, hg1])
        replace c4 := c4 (by simp only [v1, v2, v3, v4, v5, v6, v7, v8, v9, tf1, tu, litOk, appOk, appS, growD, Nat.reduceEqDiff, Nat.reduceLT, Nat.reduceAdd, Nat.reduceLeDiff, Nat.reduceMul, Nat.reduceBEq, Nat.reduceSub, Int.reduceLE, Int.reduceToNat, Int.reduceLT, Int.reduceNeg, encSIDBalanceNonce, encSLIDAmountNonce, encSAccounts, encSKindIDAmount, hg1])
        simp only [v1, v2, v3, v4, v5, v6, v7, v8, v9, tf1, tu, litOk, appOk, appS, growD, Nat.reduceEqDiff, Nat.reduceLT, Nat.reduceAdd, Nat.reduceLeDiff, Nat.reduceMul, Nat.reduceBEq, Nat.reduceSub, Int.reduceLE, Int.reduceToNat, Int.reduceLT, Int.reduceNeg, encSIDBalanceNonce, encSLIDAmountNonce, encSAccounts, encSKindIDAmount, hg1, List.map_append, List.length_append, List.length_map, List.map_take, List.map_drop, List.length_drop, List.length_take, Nat.le_refl, true_and, c3, c4, elt_ix encSIDBalanceNonce p0 j3 c3 c4]
        replace hr2 := hr2 (by simp only [v1, v2, v3, v4, v5, v6, v7, v8, v9, tf1, tu, litOk, appOk, appS, growD, Nat.reduceEqDiff, Nat.reduceLT, Nat.reduceAdd, Nat.reduceLeDiff, Nat.reduceMul, Nat.reduceBEq, Nat.reduceSub, Int.reduceLE, Int.reduceToNat, Int.reduceLT, Int.reduceNeg, encSIDBalanceNonce, encSLIDAmountNonce, encSAccounts, encSKindIDAmount, hg1])
        refine a_call [] (ledger_find_1_ok (ix p0 j3) p1 y2 hr2) bd35 (by simp only [v1, v2, v3, v4, v5, v6, v7, v8, v9, tf1, tu, litOk, appOk, appS, growD, Nat.reduceEqDiff, Nat.reduceLT, Nat.reduceAdd, Nat.reduceLeDiff, Nat.reduceMul, Nat.reduceBEq, Nat.reduceSub, Int.reduceLE, Int.reduceToNat, Int.reduceLT, Int.reduceNeg, encSIDBalanceNonce, encSLIDAmountNonce, encSAccounts, encSKindIDAmount, callOk, vl, hg1, List.map_append, List.length_append, List.length_map, List.map_take, List.map_drop, List.length_drop, List.length_take, Nat.le_refl, true_and]) ?_
        simp only [v1, v2, v3, v4, v5, v6, v7, v8, v9, tf1, tu, litOk, appOk, appS, growD, Nat.reduceEqDiff, Nat.reduceLT, Nat.reduceAdd, Nat.reduceLeDiff, Nat.reduceMul, Nat.reduceBEq, Nat.reduceSub, Int.reduceLE, Int.reduceToNat, Int.reduceLT, Int.reduceNeg, encSIDBalanceNonce, encSLIDAmountNonce, encSAccounts, encSKindIDAmount, hg1, List.map_append, List.length_append, List.length_map, List.map_take, List.map_drop, List.length_drop, List.length_take, Nat.le_refl, true_and]
        refine hK _ ?_
        clear hK K
        try simp only [s_thN, s_thE, s_thR, s_blN, s_blE, s_blM, s_blR, Nat.reduceEqDiff]
        exact ⟨(j3, (decide (j3 < ((List.length p0 : Nat) : Int))) && (y2 == 0)), h, by simp only [v1, v2, v3, v4, v5, v6, v7, v8, v9, tf1, tu, litOk, appOk, appS, growD, Nat.reduceEqDiff, Nat.reduceLT, Nat.reduceAdd, Nat.reduceLeDiff, Nat.reduceMul, Nat.reduceBEq, Nat.reduceSub, Int.reduceLE, Int.reduceToNat, Int.reduceLT, Int.reduceNeg, encSIDBalanceNonce, encSLIDAmountNonce, encSAccounts, encSKindIDAmount, vl, hg1, List.map_append, List.length_append, List.length_map, List.map_take, List.map_drop, List.length_drop, List.length_take, Nat.le_refl, true_and]⟩
      · simp only [v1, v2, v3, v4, v5, v6, v7, v8, v9, tf1, tu, litOk, appOk, appS, growD, Nat.reduceEqDiff, Nat.reduceLT, Nat.reduceAdd, Nat.reduceLeDiff, Nat.reduceMul, Nat.reduceBEq, Nat.reduceSub, Int.reduceLE, Int.reduceToNat, Int.reduceLT, Int.reduceNeg, encSIDBalanceNonce, encSLIDAmountNonce, encSAccounts, encSKindIDAmount, hg1, List.map_append, List.length_append, List.length_map, List.map_take, List.map_drop, List.length_drop, List.length_take, Nat.le_refl, true_and]
        refine hK _ ?_
        clear hK K
        try simp only [s_thN, s_thE, s_thR, s_blN, s_blE, s_blM, s_blR, Nat.reduceEqDiff]
        exact ⟨(j3, (decide (j3 < ((List.length p0 : Nat) : Int))) && (y2 == 0)), h, by simp only [v1, v2, v3, v4, v5, v6, v7, v8, v9, tf1, tu, litOk, appOk, appS, growD, Nat.reduceEqDiff, Nat.reduceLT, Nat.reduceAdd, Nat.reduceLeDiff, Nat.reduceMul, Nat.reduceBEq, Nat.reduceSub, Int.reduceLE, Int.reduceToNat, Int.reduceLT, Int.reduceNeg, encSIDBalanceNonce, encSLIDAmountNonce, encSAccounts, encSKindIDAmount, vl, hg1, List.map_append, List.length_append, List.length_map, List.map_take, List.map_drop, List.length_drop, List.length_take, Nat.le_refl, true_and]⟩
    · rintro ⟨j5, b1⟩ h
      have h : slices_BinarySearchFunc_ledger_Account_ledger_Account_uint64_edger_find_1_J1 r0 r1 j5 b1 := h
      show Sat _ _ _ _ _ _ ⟨[(6, .d (.int .i64 j5)), (7, .d (.bool b1))], [], 0⟩ _
      unfold slices_BinarySearchFunc_ledger_Account_ledger_Account_uint64_edger_find_1_J1 at h
      obtain ⟨rfl, rfl⟩ := h
      refine sat_ret (retN [] ?_)
      simp only [v1, v2, v3, v4, v5, v6, v7, v8, v9, tf1, tu, litOk, appOk, appS, growD, Nat.reduceEqDiff, Nat.reduceLT, Nat.reduceAdd, Nat.reduceLeDiff, Nat.reduceMul, Nat.reduceBEq, Nat.reduceSub, Int.reduceLE, Int.reduceToNat, Int.reduceLT, Int.reduceNeg, encSIDBalanceNonce, encSLIDAmountNonce, encSAccounts, encSKindIDAmount, vl, Try.results34, e_sp0, e_sp1, List.map_append, List.length_append, List.length_map, List.map_take, List.map_drop, List.length_drop, List.length_take, Nat.le_refl, true_and]
theorem ledger_find_ok (p0 : SAccounts) (p1 : Int) (r0 : Int) (r1 : Bool) (h : ledger_find_Ret p0 p1 r0 r1) : SoundH Try.prog 31 [.agg [.d (.slice 3 (List.map encSIDBalanceNonce p0.Accounts))], .d (.int .u64 p1)] [] (.tup [.d (.int .i64 r0), .d (.bool r1)]) [] := by
  refine sound_of Try.func31 rfl Try.ntmps31 (by simp) fun G0 w0 => ?_
  unfold ledger_find_Ret at h
  refine sat_seq ?_
  refine sat_region fun K hK => ?_
  simp only [v1, v2, v3, v4, v5, v6, v7, v8, v9, tf1, tu, litOk, appOk, appS, growD, Nat.reduceEqDiff, Nat.reduceLT, Nat.reduceAdd, Nat.reduceLeDiff, Nat.reduceMul, Nat.reduceBEq, Nat.reduceSub, Int.reduceLE, Int.reduceToNat, Int.reduceLT, Int.reduceNeg, encSIDBalanceNonce, encSLIDAmountNonce, encSAccounts, encSKindIDAmount, List.map_append, List.length_append, List.length_map, List.map_take, List.map_drop, List.length_drop, List.length_take, Nat.le_refl, true_and]
  refine hK _ ?_
  clear hK K
  try simp only [s_thN, s_thE, s_thR, s_blN, s_blE, s_blM, s_blR, Nat.reduceEqDiff]
  refine sat_seq ?_
  obtain ⟨y1, y2, hr1, h⟩ := h
  refine sat_region fun K hK => ?_
  simp only [v1, v2, v3, v4, v5, v6, v7, v8, v9, tf1, tu, litOk, appOk, appS, growD, Nat.reduceEqDiff, Nat.reduceLT, Nat.reduceAdd, Nat.reduceLeDiff, Nat.reduceMul, Nat.reduceBEq, Nat.reduceSub, Int.reduceLE, Int.reduceToNat, Int.reduceLT, Int.reduceNeg, encSIDBalanceNonce, encSLIDAmountNonce, encSAccounts, encSKindIDAmount, List.map_append, List.length_append, List.length_map, List.map_take, List.map_drop, List.length_drop, List.length_take, Nat.le_refl, true_and]
  refine a_call [] (slices_BinarySearchFunc_ledger_Account_ledger_Account_uint64_edger_find_1_ok p0.Accounts p1 y1 y2 hr1) bd34 (by simp only [v1, v2, v3, v4, v5, v6, v7, v8, v9, tf1, tu, litOk, appOk, appS, growD, Nat.reduceEqDiff, Nat.reduceLT, Nat.reduceAdd, Nat.reduceLeDiff, Nat.reduceMul, Nat.reduceBEq, Nat.reduceSub, Int.reduceLE, Int.reduceToNat, Int.reduceLT, Int.reduceNeg, encSIDBalanceNonce, encSLIDAmountNonce, encSAccounts, encSKindIDAmount, callOk, vl, List.map_append, List.length_append, List.length_map, List.map_take, List.map_drop, List.length_drop, List.length_take, Nat.le_refl, true_and]) ?_
  simp only [v1, v2, v3, v4, v5, v6, v7, v8, v9, tf1, tu, litOk, appOk, appS, growD, Nat.reduceEqDiff, Nat.reduceLT, Nat.reduceAdd, Nat.reduceLeDiff, Nat.reduceMul, Nat.reduceBEq, Nat.reduceSub, Int.reduceLE, Int.reduceToNat, Int.reduceLT, Int.reduceNeg, encSIDBalanceNonce, encSLIDAmountNonce, encSAccounts, encSKindIDAmount, List.map_append, List.length_append, List.length_map, List.map_take, List.map_drop, List.length_drop, List.length_take, Nat.le_refl, true_and]
  refine hK _ ?_
  clear hK K
  try simp only [s_thN, s_thE, s_thR, s_blN, s_blE, s_blM, s_blR, Nat.reduceEqDiff]
  obtain ⟨rfl, rfl⟩ := h
  refine sat_ret (retN [] ?_)
  simp only [v1, v2, v3, v4, v5, v6, v7, v8, v9, tf1, tu, litOk, appOk, appS, growD, Nat.reduceEqDiff, Nat.reduceLT, Nat.reduceAdd, Nat.reduceLeDiff, Nat.reduceMul, Nat.reduceBEq, Nat.reduceSub, Int.reduceLE, Int.reduceToNat, Int.reduceLT, Int.reduceNeg, encSIDBalanceNonce, encSLIDAmountNonce, encSAccounts, encSKindIDAmount, vl, Try.results31, e_sp0, e_sp1, List.map_append, List.length_append, List.length_map, List.map_take, List.map_drop, List.length_drop, List.length_take, Nat.le_refl, true_and]
theorem ledger_Get_ok (p0 : SAccounts) (p1 : Int) (r0 : Int) (r1 : Int) (h : ledger_Get_Ret p0 p1 r0 r1) : SoundH Try.prog 25 [.agg [.d (.slice 3 (List.map encSIDBalanceNonce p0.Accounts))], .d (.int .u64 p1)] [] (.tup [.d (.int .u64 r0), .d (.int .u64 r1)]) [] := by
  refine sound_of Try.func25 rfl Try.ntmps25 (by simp) fun G0 w0 => ?_
  unfold ledger_Get_Ret at h
  refine sat_seq ?_
  refine sat_region fun K hK => ?_
  simp only [v1, v2, v3, v4, v5, v6, v7, v8, v9, tf1, tu, litOk, appOk, appS, growD, Nat.reduceEqDiff, Nat.reduceLT, Nat.reduceAdd, Nat.reduceLeDiff, Nat.reduceMul, Nat.reduceBEq, Nat.reduceSub, Int.reduceLE, Int.reduceToNat, Int.reduceLT, Int.reduceNeg, encSIDBalanceNonce, encSLIDAmountNonce, encSAccounts, encSKindIDAmount, List.map_append, List.length_append, List.length_map, List.map_take, List.map_drop, List.length_drop, List.length_take, Nat.le_refl, true_and]
  refine hK _ ?_
  clear hK K
  try simp only [s_thN, s_thE, s_thR, s_blN, s_blE, s_blM, s_blR, Nat.reduceEqDiff]
  refine sat_seq ?_
  obtain ⟨y1, y2, hr1, h⟩ := h
  refine sat_region fun K hK => ?_
  simp only [v1, v2, v3, v4, v5, v6, v7, v8, v9, tf1, tu, litOk, appOk, appS, growD, Nat.reduceEqDiff, Nat.reduceLT, Nat.reduceAdd, Nat.reduceLeDiff, Nat.reduceMul, Nat.reduceBEq, Nat.reduceSub, Int.reduceLE, Int.reduceToNat, Int.reduceLT, Int.reduceNeg, encSIDBalanceNonce, encSLIDAmountNonce, encSAccounts, encSKindIDAmount, List.map_append, List.length_append, List.length_map, List.map_take, List.map_drop, List.length_drop, List.length_take, Nat.le_refl, true_and]
  refine a_call [] (ledger_find_ok p0 p1 y1 y2 hr1) bd31 (by simp only [v1, v2, v3, v4, v5, v6, v7, v8, v9, tf1, tu, litOk, appOk, appS, growD, Nat.reduceEqDiff, Nat.reduceLT, Nat.reduceAdd, Nat.reduceLeDiff, Nat.reduceMul, Nat.reduceBEq, Nat.reduceSub, Int.reduceLE, Int.reduceToNat, Int.reduceLT, Int.reduceNeg, encSIDBalanceNonce, encSLIDAmountNonce, encSAccounts, encSKindIDAmount, callOk, vl, List.map_append, List.length_append, List.length_map, List.map_take, List.map_drop, List.length_drop, List.length_take, Nat.le_refl, true_and]) ?_
  simp only [v1, v2, v3, v4, v5, v6, v7, v8, v9, tf1, tu, litOk, appOk, appS, growD, Nat.reduceEqDiff, Nat.reduceLT, Nat.reduceAdd, Nat.reduceLeDiff, Nat.reduceMul, Nat.reduceBEq, Nat.reduceSub, Int.reduceLE, Int.reduceToNat, Int.reduceLT, Int.reduceNeg, encSIDBalanceNonce, encSLIDAmountNonce, encSAccounts, encSKindIDAmount, List.map_append, List.length_append, List.length_map, List.map_take, List.map_drop, List.length_drop, List.length_take, Nat.le_refl, true_and]
  refine hK _ ?_
  clear hK K
  try simp only [s_thN, s_thE, s_thR, s_blN, s_blE, s_blM, s_blR, Nat.reduceEqDiff]
  refine sat_seq ?_
  refine sat_seq ?_
  refine sat_region fun K hK => ?_
  simp only [v1, v2, v3, v4, v5, v6, v7, v8, v9, tf1, tu, litOk, appOk, appS, growD, Nat.reduceEqDiff, Nat.reduceLT, Nat.reduceAdd, Nat.reduceLeDiff, Nat.reduceMul, Nat.reduceBEq, Nat.reduceSub, Int.reduceLE, Int.reduceToNat, Int.reduceLT, Int.reduceNeg, encSIDBalanceNonce, encSLIDAmountNonce, encSAccounts, encSKindIDAmount, List.map_append, List.length_append, List.length_map, List.map_take, List.map_drop, List.length_drop, List.length_take, Nat.le_refl, true_and]
  refine hK _ ?_
  clear hK K
  try simp only [s_thN, s_thE, s_thR, s_blN, s_blE, s_blM, s_blR, Nat.reduceEqDiff]
  refine sat_cond rfl (fun hb1 => ?_) (fun hb1 => ?_)
  · replace h := h.1 hb1
    refine sat_seq ?_
    refine sat_region fun K hK => ?_
    simp only [v1, v2, v3, v4, v5, v6, v7, v8, v9, tf1, tu, litOk, appOk, appS, growD, Nat.reduceEqDiff, Nat.reduceLT, Nat.reduceAdd, Nat.reduceLeDiff, Nat.reduceMul, Nat.reduceBEq, Nat.reduceSub, Int.reduceLE, Int.reduceToNat, Int.reduceLT, Int.reduceNeg, encSIDBalanceNonce, encSLIDAmountNonce, encSAccounts, encSKindIDAmount, List.map_append, List.length_append, List.length_map, List.map_take, List.map_drop, List.length_drop, List.length_take, Nat.le_refl, true_and]
    refine hK _ ?_
    clear hK K
    try simp only [s_thN, s_thE, s_thR, s_blN, s_blE, s_blM, s_blR, Nat.reduceEqDiff]
    obtain ⟨rfl, rfl⟩ := h
    refine sat_ret (retN [] ?_)
    simp only [v1, v2, v3, v4, v5, v6, v7, v8, v9, tf1, tu, litOk, appOk, appS, growD, Nat.reduceEqDiff, Nat.reduceLT, Nat.reduceAdd, Nat.reduceLeDiff, Nat.reduceMul, Nat.reduceBEq, Nat.reduceSub, Int.reduceLE, Int.reduceToNat, Int.reduceLT, Int.reduceNeg, encSIDBalanceNonce, encSLIDAmountNonce, encSAccounts, encSKindIDAmount, vl, Try.results25, e_sp0, e_sp1, List.map_append, List.length_append, List.length_map, List.map_take, List.map_drop, List.length_drop, List.length_take, Nat.le_refl, true_and]
  · replace h := h.2 hb1
    refine sat_skip ?_
    try simp only [s_thN, s_thE, s_thR, s_blN, s_blE, s_blM, s_blR, Nat.reduceEqDiff]
    refine sat_seq ?_
    obtain ⟨c1, c2, c3, c4, h⟩ := h
    refine sat_drawn 1 mix (by kernel_rfl) fun K hK => ?_
    simp only [v1, v2, v3, v4, v5, v6, v7, v8, v9, tf1, tu, litOk, appOk, appS, growD, Nat.reduceEqDiff, Nat.reduceLT, Nat.reduceAdd, Nat.reduceLeDiff, Nat.reduceMul, Nat.reduceBEq, Nat.reduceSub, Int.reduceLE, Int.reduceToNat, Int.reduceLT, Int.reduceNeg, encSIDBalanceNonce, encSLIDAmountNonce, encSAccounts, encSKindIDAmount, c1, c2, elt_ix encSIDBalanceNonce p0.Accounts y1 c1 c2, c3, c4, elt_ix encSIDBalanceNonce p0.Accounts y1 c3 c4, List.map_append, List.length_append, List.length_map, List.map_take, List.map_drop, List.length_drop, List.length_take, Nat.le_refl, true_and]
    refine hK _ ?_
    clear hK K
    try simp only [s_thN, s_thE, s_thR, s_blN, s_blE, s_blM, s_blR, Nat.reduceEqDiff]
    obtain ⟨rfl, rfl⟩ := h
    refine sat_ret (retN [] ?_)
    simp only [v1, v2, v3, v4, v5, v6, v7, v8, v9, tf1, tu, litOk, appOk, appS, growD, Nat.reduceEqDiff, Nat.reduceLT, Nat.reduceAdd, Nat.reduceLeDiff, Nat.reduceMul, Nat.reduceBEq, Nat.reduceSub, Int.reduceLE, Int.reduceToNat, Int.reduceLT, Int.reduceNeg, encSIDBalanceNonce, encSLIDAmountNonce, encSAccounts, encSKindIDAmount, vl, Try.results25, e_sp0, e_sp1, List.map_append, List.length_append, List.length_map, List.map_take, List.map_drop, List.length_drop, List.length_take, Nat.le_refl, true_and]
theorem ledger_exceeds_ok (p0 : Int) (p1 : Int) (r0 : Bool) (h : ledger_exceeds_Ret p0 p1 r0) : SoundH Try.prog 28 [.d (.int .u64 p0), .d (.int .u64 p1)] [] (.d (.bool r0)) [] := by
  refine sound_of Try.func28 rfl Try.ntmps28 (by simp) fun G0 w0 => ?_
  unfold ledger_exceeds_Ret at h
  refine sat_seq ?_
  refine sat_region fun K hK => ?_
  simp only [v1, v2, v3, v4, v5, v6, v7, v8, v9, tf1, tu, litOk, appOk, appS, growD, Nat.reduceEqDiff, Nat.reduceLT, Nat.reduceAdd, Nat.reduceLeDiff, Nat.reduceMul, Nat.reduceBEq, Nat.reduceSub, Int.reduceLE, Int.reduceToNat, Int.reduceLT, Int.reduceNeg, encSIDBalanceNonce, encSLIDAmountNonce, encSAccounts, encSKindIDAmount, List.map_append, List.length_append, List.length_map, List.map_take, List.map_drop, List.length_drop, List.length_take, Nat.le_refl, true_and]
  refine hK _ ?_
  clear hK K
  try simp only [s_thN, s_thE, s_thR, s_blN, s_blE, s_blM, s_blR, Nat.reduceEqDiff]
  refine sat_join (ι := Bool) (fun x => ⟨[(4, .d (.bool x))], [], 0⟩) (fun x => ledger_exceeds_J1 r0 x) ?_ ?_
  · refine sat_region fun K hK => ?_
    simp only [v1, v2, v3, v4, v5, v6, v7, v8, v9, tf1, tu, litOk, appOk, appS, growD, Nat.reduceEqDiff, Nat.reduceLT, Nat.reduceAdd, Nat.reduceLeDiff, Nat.reduceMul, Nat.reduceBEq, Nat.reduceSub, Int.reduceLE, Int.reduceToNat, Int.reduceLT, Int.reduceNeg, encSIDBalanceNonce, encSLIDAmountNonce, encSAccounts, encSKindIDAmount, List.map_append, List.length_append, List.length_map, List.map_take, List.map_drop, List.length_drop, List.length_take, Nat.le_refl, true_and]
    refine A_guard_split (by simp only [v1, v2, v3, v4, v5, v6, v7, v8, v9, tf1, tu, litOk, appOk, appS, growD, Nat.reduceEqDiff, Nat.reduceLT, Nat.reduceAdd, Nat.reduceLeDiff, Nat.reduceMul, Nat.reduceBEq, Nat.reduceSub, Int.reduceLE, Int.reduceToNat, Int.reduceLT, Int.reduceNeg, encSIDBalanceNonce, encSLIDAmountNonce, encSAccounts, encSKindIDAmount]; rfl) (fun hg1 => ?_) (fun hg1 => ?_)
    · simp only [v1, v2, v3, v4, v5, v6, v7, v8, v9, tf1, tu, litOk, appOk, appS, growD, Nat.reduceEqDiff, Nat.reduceLT, Nat.reduceAdd, Nat.reduceLeDiff, Nat.reduceMul, Nat.reduceBEq, Nat.reduceSub, Int.reduceLE, Int.reduceToNat, Int.reduceLT, Int.reduceNeg, encSIDBalanceNonce, encSLIDAmountNonce, encSAccounts, encSKindIDAmount, hg1, List.map_append, List.length_append, List.length_map, List.map_take, List.map_drop, List.length_drop, List.length_take, Nat.le_refl, true_and]
      refine hK _ ?_
      clear hK K
      try simp only [s_thN, s_thE, s_thR, s_blN, s_blE, s_blM, s_blR, Nat.reduceEqDiff]
      exact ⟨(decide (9223372036854775807 < p0)) || (decide (IntKind.u64.wrap (9223372036854775807 - p0) < p1)), h, by simp only [v1, v2, v3, v4, v5, v6, v7, v8, v9, tf1, tu, litOk, appOk, appS, growD, Nat.reduceEqDiff, Nat.reduceLT, Nat.reduceAdd, Nat.reduceLeDiff, Nat.reduceMul, Nat.reduceBEq, Nat.reduceSub, Int.reduceLE, Int.reduceToNat, Int.reduceLT, Int.reduceNeg, encSIDBalanceNonce, encSLIDAmountNonce, encSAccounts, encSKindIDAmount, vl, hg1, List.map_append, List.length_append, List.length_map, List.map_take, List.map_drop, List.length_drop, List.length_take, Nat.le_refl, true_and]⟩
    · simp only [v1, v2, v3, v4, v5, v6, v7, v8, v9, tf1, tu, litOk, appOk, appS, growD, Nat.reduceEqDiff, Nat.reduceLT, Nat.reduceAdd, Nat.reduceLeDiff, Nat.reduceMul, Nat.reduceBEq, Nat.reduceSub, Int.reduceLE, Int.reduceToNat, Int.reduceLT, Int.reduceNeg, encSIDBalanceNonce, encSLIDAmountNonce, encSAccounts, encSKindIDAmount, hg1, List.map_append, List.length_append, List.length_map, List.map_take, List.map_drop, List.length_drop, List.length_take, Nat.le_refl, true_and]
      refine hK _ ?_
      clear hK K
      try simp only [s_thN, s_thE, s_thR, s_blN, s_blE, s_blM, s_blR, Nat.reduceEqDiff]
      exact ⟨(decide (9223372036854775807 < p0)) || (decide (IntKind.u64.wrap (9223372036854775807 - p0) < p1)), h, by simp only [v1, v2, v3, v4, v5, v6, v7, v8, v9, tf1, tu, litOk, appOk, appS, growD, Nat.reduceEqDiff, Nat.reduceLT, Nat.reduceAdd, Nat.reduceLeDiff, Nat.reduceMul, Nat.reduceBEq, Nat.reduceSub, Int.reduceLE, Int.reduceToNat, Int.reduceLT, Int.reduceNeg, encSIDBalanceNonce, encSLIDAmountNonce, encSAccounts, encSKindIDAmount, vl, hg1, List.map_append, List.length_append, List.length_map, List.map_take, List.map_drop, List.length_drop, List.length_take, Nat.le_refl, true_and]⟩
  · intro b1 h
    have h : ledger_exceeds_J1 r0 b1 := h
    show Sat _ _ _ _ _ _ ⟨[(4, .d (.bool b1))], [], 0⟩ _
    unfold ledger_exceeds_J1 at h
    subst h
    refine sat_ret (retN [] ?_)
    simp only [v1, v2, v3, v4, v5, v6, v7, v8, v9, tf1, tu, litOk, appOk, appS, growD, Nat.reduceEqDiff, Nat.reduceLT, Nat.reduceAdd, Nat.reduceLeDiff, Nat.reduceMul, Nat.reduceBEq, Nat.reduceSub, Int.reduceLE, Int.reduceToNat, Int.reduceLT, Int.reduceNeg, encSIDBalanceNonce, encSLIDAmountNonce, encSAccounts, encSKindIDAmount, vl, Try.results28, e_sp0, e_sp1, List.map_append, List.length_append, List.length_map, List.map_take, List.map_drop, List.length_drop, List.length_take, Nat.le_refl, true_and]
theorem slices_Clone_ledger_Account_ledger_Account_ok (p0 : List SIDBalanceNonce) (r0 : List SIDBalanceNonce) (h : slices_Clone_ledger_Account_ledger_Account_Ret p0 r0) : SoundH Try.prog 33 [.d (.slice 3 (List.map encSIDBalanceNonce p0))] [] (.own 0 3 (List.map encSIDBalanceNonce r0)) [.tip (List.length r0)] := by
  refine sound_of Try.func33 rfl Try.ntmps33 (by simp) fun G0 w0 => ?_
  unfold slices_Clone_ledger_Account_ledger_Account_Ret at h
  refine sat_seq ?_
  refine sat_region fun K hK => ?_
  simp only [v1, v2, v3, v4, v5, v6, v7, v8, v9, tf1, tu, litOk, appOk, appS, growD, Nat.reduceEqDiff, Nat.reduceLT, Nat.reduceAdd, Nat.reduceLeDiff, Nat.reduceMul, Nat.reduceBEq, Nat.reduceSub, Int.reduceLE, Int.reduceToNat, Int.reduceLT, Int.reduceNeg, encSIDBalanceNonce, encSLIDAmountNonce, encSAccounts, encSKindIDAmount, List.map_append, List.length_append, List.length_map, List.map_take, List.map_drop, List.length_drop, List.length_take, Nat.le_refl, true_and]
  refine hK _ ?_
  clear hK K
  try simp only [s_thN, s_thE, s_thR, s_blN, s_blE, s_blM, s_blR, Nat.reduceEqDiff]
  refine sat_seq ?_
  refine sat_seq ?_
  refine sat_region fun K hK => ?_
  simp only [v1, v2, v3, v4, v5, v6, v7, v8, v9, tf1, tu, litOk, appOk, appS, growD, Nat.reduceEqDiff, Nat.reduceLT, Nat.reduceAdd, Nat.reduceLeDiff, Nat.reduceMul, Nat.reduceBEq, Nat.reduceSub, Int.reduceLE, Int.reduceToNat, Int.reduceLT, Int.reduceNeg, encSIDBalanceNonce, encSLIDAmountNonce, encSAccounts, encSKindIDAmount, List.map_append, List.length_append, List.length_map, List.map_take, List.map_drop, List.length_drop, List.length_take, Nat.le_refl, true_and]
  refine A_isNil _ _ _ _ _ _ _ _ _ _ (by simp only [v1, v2, v3, v4, v5, v6, v7, v8, v9, tf1, tu, litOk, appOk, appS, growD, Nat.reduceEqDiff, Nat.reduceLT, Nat.reduceAdd, Nat.reduceLeDiff, Nat.reduceMul, Nat.reduceBEq, Nat.reduceSub, Int.reduceLE, Int.reduceToNat, Int.reduceLT, Int.reduceNeg, encSIDBalanceNonce, encSLIDAmountNonce, encSAccounts, encSKindIDAmount]) fun z1 hz => ?_
  replace h := h z1 (fun q => by have q := hz q; simp only [v1, v2, v3, v4, v5, v6, v7, v8, v9, tf1, tu, litOk, appOk, appS, growD, Nat.reduceEqDiff, Nat.reduceLT, Nat.reduceAdd, Nat.reduceLeDiff, Nat.reduceMul, Nat.reduceBEq, Nat.reduceSub, Int.reduceLE, Int.reduceToNat, Int.reduceLT, Int.reduceNeg, encSIDBalanceNonce, encSLIDAmountNonce, encSAccounts, encSKindIDAmount, List.map_eq_nil_iff] at q; exact q)
  simp only [v1, v2, v3, v4, v5, v6, v7, v8, v9, tf1, tu, litOk, appOk, appS, growD, Nat.reduceEqDiff, Nat.reduceLT, Nat.reduceAdd, Nat.reduceLeDiff, Nat.reduceMul, Nat.reduceBEq, Nat.reduceSub, Int.reduceLE, Int.reduceToNat, Int.reduceLT, Int.reduceNeg, encSIDBalanceNonce, encSLIDAmountNonce, encSAccounts, encSKindIDAmount, List.map_append, List.length_append, List.length_map, List.map_take, List.map_drop, List.length_drop, List.length_take, Nat.le_refl, true_and]
  refine hK _ ?_
  clear hK K
  try simp only [s_thN, s_thE, s_thR, s_blN, s_blE, s_blM, s_blR, Nat.reduceEqDiff]
  refine sat_cond rfl (fun hb1 => ?_) (fun hb1 => ?_)
  · replace h := h.1 hb1
    refine sat_seq ?_
    refine sat_region fun K hK => ?_
    simp only [v1, v2, v3, v4, v5, v6, v7, v8, v9, tf1, tu, litOk, appOk, appS, growD, Nat.reduceEqDiff, Nat.reduceLT, Nat.reduceAdd, Nat.reduceLeDiff, Nat.reduceMul, Nat.reduceBEq, Nat.reduceSub, Int.reduceLE, Int.reduceToNat, Int.reduceLT, Int.reduceNeg, encSIDBalanceNonce, encSLIDAmountNonce, encSAccounts, encSKindIDAmount, List.map_append, List.length_append, List.length_map, List.map_take, List.map_drop, List.length_drop, List.length_take, Nat.le_refl, true_and]
    refine hK _ ?_
    clear hK K
    try simp only [s_thN, s_thE, s_thR, s_blN, s_blE, s_blM, s_blR, Nat.reduceEqDiff]
    refine sat_tok 2 (sz := 3) (l := List.map encSIDBalanceNonce ([] : List SIDBalanceNonce)) (by simp only [v1, v2, v3, v4, v5, v6, v7, v8, v9, tf1, tu, litOk, appOk, appS, growD, Nat.reduceEqDiff, Nat.reduceLT, Nat.reduceAdd, Nat.reduceLeDiff, Nat.reduceMul, Nat.reduceBEq, Nat.reduceSub, Int.reduceLE, Int.reduceToNat, Int.reduceLT, Int.reduceNeg, encSIDBalanceNonce, encSLIDAmountNonce, encSAccounts, encSKindIDAmount, e_gfF, e_gfN]) ?_
    simp only [v1, v2, v3, v4, v5, v6, v7, v8, v9, tf1, tu, litOk, appOk, appS, growD, Nat.reduceEqDiff, Nat.reduceLT, Nat.reduceAdd, Nat.reduceLeDiff, Nat.reduceMul, Nat.reduceBEq, Nat.reduceSub, Int.reduceLE, Int.reduceToNat, Int.reduceLT, Int.reduceNeg, encSIDBalanceNonce, encSLIDAmountNonce, encSAccounts, encSKindIDAmount, List.map_append, List.length_append, List.length_map, List.map_take, List.map_drop, List.length_drop, List.length_take, Nat.le_refl, true_and]
    subst h
    refine sat_ret (retN [0] ?_)
    simp only [v1, v2, v3, v4, v5, v6, v7, v8, v9, tf1, tu, litOk, appOk, appS, growD, Nat.reduceEqDiff, Nat.reduceLT, Nat.reduceAdd, Nat.reduceLeDiff, Nat.reduceMul, Nat.reduceBEq, Nat.reduceSub, Int.reduceLE, Int.reduceToNat, Int.reduceLT, Int.reduceNeg, encSIDBalanceNonce, encSLIDAmountNonce, encSAccounts, encSKindIDAmount, vl, Try.results33, e_sp0, e_sp1, List.map_append, List.length_append, List.length_map, List.map_take, List.map_drop, List.length_drop, List.length_take, Nat.le_refl, true_and]
  · replace h := h.2 hb1
    refine sat_skip ?_
    try simp only [s_thN, s_thE, s_thR, s_blN, s_blE, s_blM, s_blR, Nat.reduceEqDiff]
    refine sat_seq ?_
    obtain ⟨c1, c2, h⟩ := h
    refine sat_region fun K hK => ?_
    simp only [v1, v2, v3, v4, v5, v6, v7, v8, v9, tf1, tu, litOk, appOk, appS, growD, Nat.reduceEqDiff, Nat.reduceLT, Nat.reduceAdd, Nat.reduceLeDiff, Nat.reduceMul, Nat.reduceBEq, Nat.reduceSub, Int.reduceLE, Int.reduceToNat, Int.reduceLT, Int.reduceNeg, encSIDBalanceNonce, encSLIDAmountNonce, encSAccounts, encSKindIDAmount, c1, c2, List.map_append, List.length_append, List.length_map, List.map_take, List.map_drop, List.length_drop, List.length_take, Nat.le_refl, true_and]
    refine hK _ ?_
    clear hK K
    try simp only [s_thN, s_thE, s_thR, s_blN, s_blE, s_blM, s_blR, Nat.reduceEqDiff]
    subst h
    refine sat_ret (retN [1] ?_)
    simp only [v1, v2, v3, v4, v5, v6, v7, v8, v9, tf1, tu, litOk, appOk, appS, growD, Nat.reduceEqDiff, Nat.reduceLT, Nat.reduceAdd, Nat.reduceLeDiff, Nat.reduceMul, Nat.reduceBEq, Nat.reduceSub, Int.reduceLE, Int.reduceToNat, Int.reduceLT, Int.reduceNeg, encSIDBalanceNonce, encSLIDAmountNonce, encSAccounts, encSKindIDAmount, vl, Try.results33, e_sp0, e_sp1, List.map_append, List.length_append, List.length_map, List.map_take, List.map_drop, List.length_drop, List.length_take, Nat.le_refl, true_and]
theorem ledger_set_ok (p0 : SAccounts) (p1 : SIDBalanceNonce) (r0 : SAccounts) (h : ledger_set_Ret p0 p1 r0) : SoundH Try.prog 29 [.agg [.d (.slice 3 (List.map encSIDBalanceNonce p0.Accounts))], .agg [.d (.int .u64 p1.ID), .d (.int .u64 p1.Balance), .d (.int .u64 p1.Nonce)]] [] (.agg [.d (.slice 3 (List.map encSIDBalanceNonce r0.Accounts))]) [] := by
  refine sound_of Try.func29 rfl Try.ntmps29 (by simp) fun G0 w0 => ?_
  unfold ledger_set_Ret at h
  refine sat_seq ?_
  refine sat_region fun K hK => ?_
  simp only [v1, v2, v3, v4, v5, v6, v7, v8, v9, tf1, tu, litOk, appOk, appS, growD, Nat.reduceEqDiff, Nat.reduceLT, Nat.reduceAdd, Nat.reduceLeDiff, Nat.reduceMul, Nat.reduceBEq, Nat.reduceSub, Int.reduceLE, Int.reduceToNat, Int.reduceLT, Int.reduceNeg, encSIDBalanceNonce, encSLIDAmountNonce, encSAccounts, encSKindIDAmount, List.map_append, List.length_append, List.length_map, List.map_take, List.map_drop, List.length_drop, List.length_take, Nat.le_refl, true_and]
  refine hK _ ?_
  clear hK K
  try simp only [s_thN, s_thE, s_thR, s_blN, s_blE, s_blM, s_blR, Nat.reduceEqDiff]
  refine sat_seq ?_
  obtain ⟨y1, y2, hr1, h⟩ := h
  refine sat_region fun K hK => ?_
  simp only [v1, v2, v3, v4, v5, v6, v7, v8, v9, tf1, tu, litOk, appOk, appS, growD, Nat.reduceEqDiff, Nat.reduceLT, Nat.reduceAdd, Nat.reduceLeDiff, Nat.reduceMul, Nat.reduceBEq, Nat.reduceSub, Int.reduceLE, Int.reduceToNat, Int.reduceLT, Int.reduceNeg, encSIDBalanceNonce, encSLIDAmountNonce, encSAccounts, encSKindIDAmount, List.map_append, List.length_append, List.length_map, List.map_take, List.map_drop, List.length_drop, List.length_take, Nat.le_refl, true_and]
  refine a_call [] (ledger_find_ok p0 p1.ID y1 y2 hr1) bd31 (by simp only [v1, v2, v3, v4, v5, v6, v7, v8, v9, tf1, tu, litOk, appOk, appS, growD, Nat.reduceEqDiff, Nat.reduceLT, Nat.reduceAdd, Nat.reduceLeDiff, Nat.reduceMul, Nat.reduceBEq, Nat.reduceSub, Int.reduceLE, Int.reduceToNat, Int.reduceLT, Int.reduceNeg, encSIDBalanceNonce, encSLIDAmountNonce, encSAccounts, encSKindIDAmount, callOk, vl, List.map_append, List.length_append, List.length_map, List.map_take, List.map_drop, List.length_drop, List.length_take, Nat.le_refl, true_and]) ?_
  simp only [v1, v2, v3, v4, v5, v6, v7, v8, v9, tf1, tu, litOk, appOk, appS, growD, Nat.reduceEqDiff, Nat.reduceLT, Nat.reduceAdd, Nat.reduceLeDiff, Nat.reduceMul, Nat.reduceBEq, Nat.reduceSub, Int.reduceLE, Int.reduceToNat, Int.reduceLT, Int.reduceNeg, encSIDBalanceNonce, encSLIDAmountNonce, encSAccounts, encSKindIDAmount, List.map_append, List.length_append, List.length_map, List.map_take, List.map_drop, List.length_drop, List.length_take, Nat.le_refl, true_and]
  refine hK _ ?_
  clear hK K
  try simp only [s_thN, s_thE, s_thR, s_blN, s_blE, s_blM, s_blR, Nat.reduceEqDiff]
  refine sat_seq ?_
  obtain ⟨c1, c2, y3, hr2, h⟩ := h
  refine sat_region fun K hK => ?_
  simp only [v1, v2, v3, v4, v5, v6, v7, v8, v9, tf1, tu, litOk, appOk, appS, growD, Nat.reduceEqDiff, Nat.reduceLT, Nat.reduceAdd, Nat.reduceLeDiff, Nat.reduceMul, Nat.reduceBEq, Nat.reduceSub, Int.reduceLE, Int.reduceToNat, Int.reduceLT, Int.reduceNeg, encSIDBalanceNonce, encSLIDAmountNonce, encSAccounts, encSKindIDAmount, c1, c2, List.map_append, List.length_append, List.length_map, List.map_take, List.map_drop, List.length_drop, List.length_take, Nat.le_refl, true_and]
  refine a_call [] (slices_Clone_ledger_Account_ledger_Account_ok (List.take y1.toNat p0.Accounts) y3 hr2) bd33 (by simp only [v1, v2, v3, v4, v5, v6, v7, v8, v9, tf1, tu, litOk, appOk, appS, growD, Nat.reduceEqDiff, Nat.reduceLT, Nat.reduceAdd, Nat.reduceLeDiff, Nat.reduceMul, Nat.reduceBEq, Nat.reduceSub, Int.reduceLE, Int.reduceToNat, Int.reduceLT, Int.reduceNeg, encSIDBalanceNonce, encSLIDAmountNonce, encSAccounts, encSKindIDAmount, callOk, vl, List.map_append, List.length_append, List.length_map, List.map_take, List.map_drop, List.length_drop, List.length_take, Nat.le_refl, true_and]) ?_
  simp only [v1, v2, v3, v4, v5, v6, v7, v8, v9, tf1, tu, litOk, appOk, appS, growD, Nat.reduceEqDiff, Nat.reduceLT, Nat.reduceAdd, Nat.reduceLeDiff, Nat.reduceMul, Nat.reduceBEq, Nat.reduceSub, Int.reduceLE, Int.reduceToNat, Int.reduceLT, Int.reduceNeg, encSIDBalanceNonce, encSLIDAmountNonce, encSAccounts, encSKindIDAmount, List.map_append, List.length_append, List.length_map, List.map_take, List.map_drop, List.length_drop, List.length_take, Nat.le_refl, true_and]
  refine hK _ ?_
  clear hK K
  try simp only [s_thN, s_thE, s_thR, s_blN, s_blE, s_blM, s_blR, Nat.reduceEqDiff]
  refine sat_join (ι := (List SIDBalanceNonce)) (fun x => ⟨[(2, .ptr 0 0), (4, .ptr 2 0), (5, .d (.int .i64 y1)), (6, .d (.bool y2)), (7, .own 3 3 (List.map encSIDBalanceNonce x))], [(0, .cells [.d (.slice 3 (List.map encSIDBalanceNonce p0.Accounts))]), (2, .cells [.full 3 (List.map encSIDBalanceNonce ([] : List SIDBalanceNonce))]), (3, .tip (List.length x))], 4⟩) (fun x => ledger_set_J2 p0 r0 y1 y2 x) ?_ ?_
  · refine sat_join (ι := Bool) (fun x => ⟨[(2, .ptr 0 0), (3, .ptr 1 0), (4, .ptr 2 0), (5, .d (.int .i64 y1)), (6, .d (.bool y2)), (7, .own 3 3 (List.map encSIDBalanceNonce y3)), (27, .d (.bool x))], [(0, .cells [.d (.slice 3 (List.map encSIDBalanceNonce p0.Accounts))]), (1, .cells [.d (.int .u64 p1.ID), .d (.int .u64 p1.Balance), .d (.int .u64 p1.Nonce)]), (2, .cells [.full 3 (List.map encSIDBalanceNonce ([] : List SIDBalanceNonce))]), (3, .tip (List.length y3))], 4⟩) (fun x => ledger_set_J3 p0 p1 r0 y1 y2 y3 x) ?_ ?_
    · refine sat_region fun K hK => ?_
      simp only [v1, v2, v3, v4, v5, v6, v7, v8, v9, tf1, tu, litOk, appOk, appS, growD, Nat.reduceEqDiff, Nat.reduceLT, Nat.reduceAdd, Nat.reduceLeDiff, Nat.reduceMul, Nat.reduceBEq, Nat.reduceSub, Int.reduceLE, Int.reduceToNat, Int.reduceLT, Int.reduceNeg, encSIDBalanceNonce, encSLIDAmountNonce, encSAccounts, encSKindIDAmount, List.map_append, List.length_append, List.length_map, List.map_take, List.map_drop, List.length_drop, List.length_take, Nat.le_refl, true_and]
      refine A_guard_split (by simp only [v1, v2, v3, v4, v5, v6, v7, v8, v9, tf1, tu, litOk, appOk, appS, growD, Nat.reduceEqDiff, Nat.reduceLT, Nat.reduceAdd, Nat.reduceLeDiff, Nat.reduceMul, Nat.reduceBEq, Nat.reduceSub, Int.reduceLE, Int.reduceToNat, Int.reduceLT, Int.reduceNeg, encSIDBalanceNonce, encSLIDAmountNonce, encSAccounts, encSKindIDAmount]; rfl) (fun hg1 => ?_) (fun hg1 => ?_)
      · simp only [v1, v2, v3, v4, v5, v6, v7, v8, v9, tf1, tu, litOk, appOk, appS, growD, Nat.reduceEqDiff, Nat.reduceLT, Nat.reduceAdd, Nat.reduceLeDiff, Nat.reduceMul, Nat.reduceBEq, Nat.reduceSub, Int.reduceLE, Int.reduceToNat, Int.reduceLT, Int.reduceNeg, encSIDBalanceNonce, encSLIDAmountNonce, encSAccounts, encSKindIDAmount, hg1, List.map_append, List.length_append, List.length_map, List.map_take, List.map_drop, List.length_drop, List.length_take, Nat.le_refl, true_and]
        refine hK _ ?_
        clear hK K
        try simp only [s_thN, s_thE, s_thR, s_blN, s_blE, s_blM, s_blR, Nat.reduceEqDiff]
        exact ⟨(p1.Balance != 0) || (p1.Nonce != 0), h, by simp only [v1, v2, v3, v4, v5, v6, v7, v8, v9, tf1, tu, litOk, appOk, appS, growD, Nat.reduceEqDiff, Nat.reduceLT, Nat.reduceAdd, Nat.reduceLeDiff, Nat.reduceMul, Nat.reduceBEq, Nat.reduceSub, Int.reduceLE, Int.reduceToNat, Int.reduceLT, Int.reduceNeg, encSIDBalanceNonce, encSLIDAmountNonce, encSAccounts, encSKindIDAmount, vl, hg1, List.map_append, List.length_append, List.length_map, List.map_take, List.map_drop, List.length_drop, List.length_take, Nat.le_refl, true_and]⟩
      · simp only [v1, v2, v3, v4, v5, v6, v7, v8, v9, tf1, tu, litOk, appOk, appS, growD, Nat.reduceEqDiff, Nat.reduceLT, Nat.reduceAdd, Nat.reduceLeDiff, Nat.reduceMul, Nat.reduceBEq, Nat.reduceSub, Int.reduceLE, Int.reduceToNat, Int.reduceLT, Int.reduceNeg, encSIDBalanceNonce, encSLIDAmountNonce, encSAccounts, encSKindIDAmount, hg1, List.map_append, List.length_append, List.length_map, List.map_take, List.map_drop, List.length_drop, List.length_take, Nat.le_refl, true_and]
        refine hK _ ?_
        clear hK K
        try simp only [s_thN, s_thE, s_thR, s_blN, s_blE, s_blM, s_blR, Nat.reduceEqDiff]
        exact ⟨(p1.Balance != 0) || (p1.Nonce != 0), h, by simp only [v1, v2, v3, v4, v5, v6, v7, v8, v9, tf1, tu, litOk, appOk, appS, growD, Nat.reduceEqDiff, Nat.reduceLT, Nat.reduceAdd, Nat.reduceLeDiff, Nat.reduceMul, Nat.reduceBEq, Nat.reduceSub, Int.reduceLE, Int.reduceToNat, Int.reduceLT, Int.reduceNeg, encSIDBalanceNonce, encSLIDAmountNonce, encSAccounts, encSKindIDAmount, vl, hg1, List.map_append, List.length_append, List.length_map, List.map_take, List.map_drop, List.length_drop, List.length_take, Nat.le_refl, true_and]⟩
    · intro b1 h
      have h : ledger_set_J3 p0 p1 r0 y1 y2 y3 b1 := h
      show Sat _ _ _ _ _ _ ⟨[(2, .ptr 0 0), (3, .ptr 1 0), (4, .ptr 2 0), (5, .d (.int .i64 y1)), (6, .d (.bool y2)), (7, .own 3 3 (List.map encSIDBalanceNonce y3)), (27, .d (.bool b1))], [(0, .cells [.d (.slice 3 (List.map encSIDBalanceNonce p0.Accounts))]), (1, .cells [.d (.int .u64 p1.ID), .d (.int .u64 p1.Balance), .d (.int .u64 p1.Nonce)]), (2, .cells [.full 3 (List.map encSIDBalanceNonce ([] : List SIDBalanceNonce))]), (3, .tip (List.length y3))], 4⟩ _
      unfold ledger_set_J3 at h
      refine sat_cond rfl (fun hb1 => ?_) (fun hb1 => ?_)
      · replace h := h.1 hb1
        obtain ⟨c3, c4, h⟩ := h
        refine sat_region fun K hK => ?_
        simp only [v1, v2, v3, v4, v5, v6, v7, v8, v9, tf1, tu, litOk, appOk, appS, growD, Nat.reduceEqDiff, Nat.reduceLT, Nat.reduceAdd, Nat.reduceLeDiff, Nat.reduceMul, Nat.reduceBEq, Nat.reduceSub, Int.reduceLE, Int.reduceToNat, Int.reduceLT, Int.reduceNeg, encSIDBalanceNonce, encSLIDAmountNonce, encSAccounts, encSKindIDAmount, c3, c4, List.map_append, List.length_append, List.length_map, List.map_take, List.map_drop, List.length_drop, List.length_take, Nat.le_refl, true_and]
        refine hK _ ?_
        clear hK K
        try simp only [s_thN, s_thE, s_thR, s_blN, s_blE, s_blM, s_blR, Nat.reduceEqDiff]
        exact ⟨y3 ++ [p1], h, by simp only [v1, v2, v3, v4, v5, v6, v7, v8, v9, tf1, tu, litOk, appOk, appS, growD, Nat.reduceEqDiff, Nat.reduceLT, Nat.reduceAdd, Nat.reduceLeDiff, Nat.reduceMul, Nat.reduceBEq, Nat.reduceSub, Int.reduceLE, Int.reduceToNat, Int.reduceLT, Int.reduceNeg, encSIDBalanceNonce, encSLIDAmountNonce, encSAccounts, encSKindIDAmount, vl, List.map_append, List.length_append, List.length_map, List.map_take, List.map_drop, List.length_drop, List.length_take, Nat.le_refl, true_and]⟩
      · replace h := h.2 hb1
        refine sat_skip ?_
        try simp only [s_thN, s_thE, s_thR, s_blN, s_blE, s_blM, s_blR, Nat.reduceEqDiff]
        exact ⟨y3, h, by simp only [v1, v2, v3, v4, v5, v6, v7, v8, v9, tf1, tu, litOk, appOk, appS, growD, Nat.reduceEqDiff, Nat.reduceLT, Nat.reduceAdd, Nat.reduceLeDiff, Nat.reduceMul, Nat.reduceBEq, Nat.reduceSub, Int.reduceLE, Int.reduceToNat, Int.reduceLT, Int.reduceNeg, encSIDBalanceNonce, encSLIDAmountNonce, encSAccounts, encSKindIDAmount, vl, List.map_append, List.length_append, List.length_map, List.map_take, List.map_drop, List.length_drop, List.length_take, Nat.le_refl, true_and]⟩
  · intro j1 h
    have h : ledger_set_J2 p0 r0 y1 y2 j1 := h
    show Sat _ _ _ _ _ _ ⟨[(2, .ptr 0 0), (4, .ptr 2 0), (5, .d (.int .i64 y1)), (6, .d (.bool y2)), (7, .own 3 3 (List.map encSIDBalanceNonce j1))], [(0, .cells [.d (.slice 3 (List.map encSIDBalanceNonce p0.Accounts))]), (2, .cells [.full 3 (List.map encSIDBalanceNonce ([] : List SIDBalanceNonce))]), (3, .tip (List.length j1))], 4⟩ _
    unfold ledger_set_J2 at h
    refine sat_join (ι := Int) (fun x => ⟨[(2, .ptr 0 0), (4, .ptr 2 0), (5, .d (.int .i64 x)), (7, .own 3 3 (List.map encSIDBalanceNonce j1))], [(0, .cells [.d (.slice 3 (List.map encSIDBalanceNonce p0.Accounts))]), (2, .cells [.full 3 (List.map encSIDBalanceNonce ([] : List SIDBalanceNonce))]), (3, .tip (List.length j1))], 4⟩) (fun x => ledger_set_J1 p0 r0 j1 x) ?_ ?_
    · refine sat_seq ?_
      refine sat_region fun K hK => ?_
      simp only [v1, v2, v3, v4, v5, v6, v7, v8, v9, tf1, tu, litOk, appOk, appS, growD, Nat.reduceEqDiff, Nat.reduceLT, Nat.reduceAdd, Nat.reduceLeDiff, Nat.reduceMul, Nat.reduceBEq, Nat.reduceSub, Int.reduceLE, Int.reduceToNat, Int.reduceLT, Int.reduceNeg, encSIDBalanceNonce, encSLIDAmountNonce, encSAccounts, encSKindIDAmount, List.map_append, List.length_append, List.length_map, List.map_take, List.map_drop, List.length_drop, List.length_take, Nat.le_refl, true_and]
      refine hK _ ?_
      clear hK K
      try simp only [s_thN, s_thE, s_thR, s_blN, s_blE, s_blM, s_blR, Nat.reduceEqDiff]
      refine sat_cond rfl (fun hb1 => ?_) (fun hb1 => ?_)
      · replace h := h.1 hb1
        refine sat_region fun K hK => ?_
        simp only [v1, v2, v3, v4, v5, v6, v7, v8, v9, tf1, tu, litOk, appOk, appS, growD, Nat.reduceEqDiff, Nat.reduceLT, Nat.reduceAdd, Nat.reduceLeDiff, Nat.reduceMul, Nat.reduceBEq, Nat.reduceSub, Int.reduceLE, Int.reduceToNat, Int.reduceLT, Int.reduceNeg, encSIDBalanceNonce, encSLIDAmountNonce, encSAccounts, encSKindIDAmount, List.map_append, List.length_append, List.length_map, List.map_take, List.map_drop, List.length_drop, List.length_take, Nat.le_refl, true_and]
        refine hK _ ?_
        clear hK K
        try simp only [s_thN, s_thE, s_thR, s_blN, s_blE, s_blM, s_blR, Nat.reduceEqDiff]
        exact ⟨IntKind.i64.wrap (y1 + 1), h, by simp only [v1, v2, v3, v4, v5, v6, v7, v8, v9, tf1, tu, litOk, appOk, appS, growD, Nat.reduceEqDiff, Nat.reduceLT, Nat.reduceAdd, Nat.reduceLeDiff, Nat.reduceMul, Nat.reduceBEq, Nat.reduceSub, Int.reduceLE, Int.reduceToNat, Int.reduceLT, Int.reduceNeg, encSIDBalanceNonce, encSLIDAmountNonce, encSAccounts, encSKindIDAmount, vl, List.map_append, List.length_append, List.length_map, List.map_take, List.map_drop, List.length_drop, List.length_take, Nat.le_refl, true_and]⟩
      · replace h := h.2 hb1
        refine sat_skip ?_
        try simp only [s_thN, s_thE, s_thR, s_blN, s_blE, s_blM, s_blR, Nat.reduceEqDiff]
        exact ⟨y1, h, by simp only [v1, v2, v3, v4, v5, v6, v7, v8, v9, tf1, tu, litOk, appOk, appS, growD, Nat.reduceEqDiff, Nat.reduceLT, Nat.reduceAdd, Nat.reduceLeDiff, Nat.reduceMul, Nat.reduceBEq, Nat.reduceSub, Int.reduceLE, Int.reduceToNat, Int.reduceLT, Int.reduceNeg, encSIDBalanceNonce, encSLIDAmountNonce, encSAccounts, encSKindIDAmount, vl, List.map_append, List.length_append, List.length_map, List.map_take, List.map_drop, List.length_drop, List.length_take, Nat.le_refl, true_and]⟩
    · intro j2 h
      have h : ledger_set_J1 p0 r0 j1 j2 := h
      show Sat _ _ _ _ _ _ ⟨[(2, .ptr 0 0), (4, .ptr 2 0), (5, .d (.int .i64 j2)), (7, .own 3 3 (List.map encSIDBalanceNonce j1))], [(0, .cells [.d (.slice 3 (List.map encSIDBalanceNonce p0.Accounts))]), (2, .cells [.full 3 (List.map encSIDBalanceNonce ([] : List SIDBalanceNonce))]), (3, .tip (List.length j1))], 4⟩ _
      unfold ledger_set_J1 at h
      refine sat_seq ?_
      obtain ⟨c3, c4, c5, c6, h⟩ := h
      refine sat_region fun K hK => ?_
      simp only [v1, v2, v3, v4, v5, v6, v7, v8, v9, tf1, tu, litOk, appOk, appS, growD, Nat.reduceEqDiff, Nat.reduceLT, Nat.reduceAdd, Nat.reduceLeDiff, Nat.reduceMul, Nat.reduceBEq, Nat.reduceSub, Int.reduceLE, Int.reduceToNat, Int.reduceLT, Int.reduceNeg, encSIDBalanceNonce, encSLIDAmountNonce, encSAccounts, encSKindIDAmount, c3, c4, c5, c6, List.map_append, List.length_append, List.length_map, List.map_take, List.map_drop, List.length_drop, List.length_take, Nat.le_refl, true_and]
      refine hK _ ?_
      clear hK K
      try simp only [s_thN, s_thE, s_thR, s_blN, s_blE, s_blM, s_blR, Nat.reduceEqDiff]
      subst h
      refine sat_ret (retN [] ?_)
      simp only [v1, v2, v3, v4, v5, v6, v7, v8, v9, tf1, tu, litOk, appOk, appS, growD, Nat.reduceEqDiff, Nat.reduceLT, Nat.reduceAdd, Nat.reduceLeDiff, Nat.reduceMul, Nat.reduceBEq, Nat.reduceSub, Int.reduceLE, Int.reduceToNat, Int.reduceLT, Int.reduceNeg, encSIDBalanceNonce, encSLIDAmountNonce, encSAccounts, encSKindIDAmount, vl, Try.results29, e_sp0, e_sp1, List.map_append, List.length_append, List.length_map, List.map_take, List.map_drop, List.length_drop, List.length_take, Nat.le_refl, true_and]
theorem ledger_Credit_ok (p0 : SAccounts) (p1 : Int) (p2 : Int) (r0 : SAccounts) (r1 : Int) (h : ledger_Credit_Ret p0 p1 p2 r0 r1) : SoundH Try.prog 11 [.agg [.d (.slice 3 (List.map encSIDBalanceNonce p0.Accounts))], .d (.int .u64 p1), .d (.int .u64 p2)] [] (.tup [.agg [.d (.slice 3 (List.map encSIDBalanceNonce r0.Accounts))], .d (.int .i64 r1)]) [] := by
  refine sound_of Try.func11 rfl Try.ntmps11 (by simp) fun G0 w0 => ?_
  unfold ledger_Credit_Ret at h
  refine sat_seq ?_
  refine sat_region fun K hK => ?_
  simp only [v1, v2, v3, v4, v5, v6, v7, v8, v9, tf1, tu, litOk, appOk, appS, growD, Nat.reduceEqDiff, Nat.reduceLT, Nat.reduceAdd, Nat.reduceLeDiff, Nat.reduceMul, Nat.reduceBEq, Nat.reduceSub, Int.reduceLE, Int.reduceToNat, Int.reduceLT, Int.reduceNeg, encSIDBalanceNonce, encSLIDAmountNonce, encSAccounts, encSKindIDAmount, List.map_append, List.length_append, List.length_map, List.map_take, List.map_drop, List.length_drop, List.length_take, Nat.le_refl, true_and]
  refine hK _ ?_
  clear hK K
  try simp only [s_thN, s_thE, s_thR, s_blN, s_blE, s_blM, s_blR, Nat.reduceEqDiff]
  refine sat_seq ?_
  obtain ⟨y1, y2, hr1, h⟩ := h
  refine sat_region fun K hK => ?_
  simp only [v1, v2, v3, v4, v5, v6, v7, v8, v9, tf1, tu, litOk, appOk, appS, growD, Nat.reduceEqDiff, Nat.reduceLT, Nat.reduceAdd, Nat.reduceLeDiff, Nat.reduceMul, Nat.reduceBEq, Nat.reduceSub, Int.reduceLE, Int.reduceToNat, Int.reduceLT, Int.reduceNeg, encSIDBalanceNonce, encSLIDAmountNonce, encSAccounts, encSKindIDAmount, List.map_append, List.length_append, List.length_map, List.map_take, List.map_drop, List.length_drop, List.length_take, Nat.le_refl, true_and]
  refine a_call [] (ledger_Get_ok p0 p1 y1 y2 hr1) bd25 (by simp only [v1, v2, v3, v4, v5, v6, v7, v8, v9, tf1, tu, litOk, appOk, appS, growD, Nat.reduceEqDiff, Nat.reduceLT, Nat.reduceAdd, Nat.reduceLeDiff, Nat.reduceMul, Nat.reduceBEq, Nat.reduceSub, Int.reduceLE, Int.reduceToNat, Int.reduceLT, Int.reduceNeg, encSIDBalanceNonce, encSLIDAmountNonce, encSAccounts, encSKindIDAmount, callOk, vl, List.map_append, List.length_append, List.length_map, List.map_take, List.map_drop, List.length_drop, List.length_take, Nat.le_refl, true_and]) ?_
  simp only [v1, v2, v3, v4, v5, v6, v7, v8, v9, tf1, tu, litOk, appOk, appS, growD, Nat.reduceEqDiff, Nat.reduceLT, Nat.reduceAdd, Nat.reduceLeDiff, Nat.reduceMul, Nat.reduceBEq, Nat.reduceSub, Int.reduceLE, Int.reduceToNat, Int.reduceLT, Int.reduceNeg, encSIDBalanceNonce, encSLIDAmountNonce, encSAccounts, encSKindIDAmount, List.map_append, List.length_append, List.length_map, List.map_take, List.map_drop, List.length_drop, List.length_take, Nat.le_refl, true_and]
  refine hK _ ?_
  clear hK K
  try simp only [s_thN, s_thE, s_thR, s_blN, s_blE, s_blM, s_blR, Nat.reduceEqDiff]
  refine sat_seq ?_
  refine sat_seq ?_
  obtain ⟨y3, hr2, h⟩ := h
  refine sat_region fun K hK => ?_
  simp only [v1, v2, v3, v4, v5, v6, v7, v8, v9, tf1, tu, litOk, appOk, appS, growD, Nat.reduceEqDiff, Nat.reduceLT, Nat.reduceAdd, Nat.reduceLeDiff, Nat.reduceMul, Nat.reduceBEq, Nat.reduceSub, Int.reduceLE, Int.reduceToNat, Int.reduceLT, Int.reduceNeg, encSIDBalanceNonce, encSLIDAmountNonce, encSAccounts, encSKindIDAmount, List.map_append, List.length_append, List.length_map, List.map_take, List.map_drop, List.length_drop, List.length_take, Nat.le_refl, true_and]
  refine a_call [] (ledger_exceeds_ok y1 p2 y3 hr2) bd28 (by simp only [v1, v2, v3, v4, v5, v6, v7, v8, v9, tf1, tu, litOk, appOk, appS, growD, Nat.reduceEqDiff, Nat.reduceLT, Nat.reduceAdd, Nat.reduceLeDiff, Nat.reduceMul, Nat.reduceBEq, Nat.reduceSub, Int.reduceLE, Int.reduceToNat, Int.reduceLT, Int.reduceNeg, encSIDBalanceNonce, encSLIDAmountNonce, encSAccounts, encSKindIDAmount, callOk, vl, List.map_append, List.length_append, List.length_map, List.map_take, List.map_drop, List.length_drop, List.length_take, Nat.le_refl, true_and]) ?_
  simp only [v1, v2, v3, v4, v5, v6, v7, v8, v9, tf1, tu, litOk, appOk, appS, growD, Nat.reduceEqDiff, Nat.reduceLT, Nat.reduceAdd, Nat.reduceLeDiff, Nat.reduceMul, Nat.reduceBEq, Nat.reduceSub, Int.reduceLE, Int.reduceToNat, Int.reduceLT, Int.reduceNeg, encSIDBalanceNonce, encSLIDAmountNonce, encSAccounts, encSKindIDAmount, List.map_append, List.length_append, List.length_map, List.map_take, List.map_drop, List.length_drop, List.length_take, Nat.le_refl, true_and]
  refine hK _ ?_
  clear hK K
  try simp only [s_thN, s_thE, s_thR, s_blN, s_blE, s_blM, s_blR, Nat.reduceEqDiff]
  refine sat_cond rfl (fun hb1 => ?_) (fun hb1 => ?_)
  · replace h := h.1 hb1
    refine sat_seq ?_
    refine sat_region fun K hK => ?_
    simp only [v1, v2, v3, v4, v5, v6, v7, v8, v9, tf1, tu, litOk, appOk, appS, growD, Nat.reduceEqDiff, Nat.reduceLT, Nat.reduceAdd, Nat.reduceLeDiff, Nat.reduceMul, Nat.reduceBEq, Nat.reduceSub, Int.reduceLE, Int.reduceToNat, Int.reduceLT, Int.reduceNeg, encSIDBalanceNonce, encSLIDAmountNonce, encSAccounts, encSKindIDAmount, List.map_append, List.length_append, List.length_map, List.map_take, List.map_drop, List.length_drop, List.length_take, Nat.le_refl, true_and]
    refine hK _ ?_
    clear hK K
    try simp only [s_thN, s_thE, s_thR, s_blN, s_blE, s_blM, s_blR, Nat.reduceEqDiff]
    obtain ⟨rfl, rfl⟩ := h
    refine sat_ret (retN [] ?_)
    simp only [v1, v2, v3, v4, v5, v6, v7, v8, v9, tf1, tu, litOk, appOk, appS, growD, Nat.reduceEqDiff, Nat.reduceLT, Nat.reduceAdd, Nat.reduceLeDiff, Nat.reduceMul, Nat.reduceBEq, Nat.reduceSub, Int.reduceLE, Int.reduceToNat, Int.reduceLT, Int.reduceNeg, encSIDBalanceNonce, encSLIDAmountNonce, encSAccounts, encSKindIDAmount, vl, Try.results11, e_sp0, e_sp1, List.map_append, List.length_append, List.length_map, List.map_take, List.map_drop, List.length_drop, List.length_take, Nat.le_refl, true_and]
  · replace h := h.2 hb1
    refine sat_skip ?_
    try simp only [s_thN, s_thE, s_thR, s_blN, s_blE, s_blM, s_blR, Nat.reduceEqDiff]
    refine sat_seq ?_
    obtain ⟨y4, hr3, h⟩ := h
    refine sat_region fun K hK => ?_
    simp only [v1, v2, v3, v4, v5, v6, v7, v8, v9, tf1, tu, litOk, appOk, appS, growD, Nat.reduceEqDiff, Nat.reduceLT, Nat.reduceAdd, Nat.reduceLeDiff, Nat.reduceMul, Nat.reduceBEq, Nat.reduceSub, Int.reduceLE, Int.reduceToNat, Int.reduceLT, Int.reduceNeg, encSIDBalanceNonce, encSLIDAmountNonce, encSAccounts, encSKindIDAmount, List.map_append, List.length_append, List.length_map, List.map_take, List.map_drop, List.length_drop, List.length_take, Nat.le_refl, true_and]
    refine a_call [] (ledger_set_ok p0 (SIDBalanceNonce.mk p1 (IntKind.u64.wrap (y1 + p2)) y2) y4 hr3) bd29 (by simp only [v1, v2, v3, v4, v5, v6, v7, v8, v9, tf1, tu, litOk, appOk, appS, growD, Nat.reduceEqDiff, Nat.reduceLT, Nat.reduceAdd, Nat.reduceLeDiff, Nat.reduceMul, Nat.reduceBEq, Nat.reduceSub, Int.reduceLE, Int.reduceToNat, Int.reduceLT, Int.reduceNeg, encSIDBalanceNonce, encSLIDAmountNonce, encSAccounts, encSKindIDAmount, callOk, vl, List.map_append, List.length_append, List.length_map, List.map_take, List.map_drop, List.length_drop, List.length_take, Nat.le_refl, true_and]) ?_
    simp only [v1, v2, v3, v4, v5, v6, v7, v8, v9, tf1, tu, litOk, appOk, appS, growD, Nat.reduceEqDiff, Nat.reduceLT, Nat.reduceAdd, Nat.reduceLeDiff, Nat.reduceMul, Nat.reduceBEq, Nat.reduceSub, Int.reduceLE, Int.reduceToNat, Int.reduceLT, Int.reduceNeg, encSIDBalanceNonce, encSLIDAmountNonce, encSAccounts, encSKindIDAmount, List.map_append, List.length_append, List.length_map, List.map_take, List.map_drop, List.length_drop, List.length_take, Nat.le_refl, true_and]
    refine hK _ ?_
    clear hK K
    try simp only [s_thN, s_thE, s_thR, s_blN, s_blE, s_blM, s_blR, Nat.reduceEqDiff]
    obtain ⟨rfl, rfl⟩ := h
    refine sat_ret (retN [] ?_)
    simp only [v1, v2, v3, v4, v5, v6, v7, v8, v9, tf1, tu, litOk, appOk, appS, growD, Nat.reduceEqDiff, Nat.reduceLT, Nat.reduceAdd, Nat.reduceLeDiff, Nat.reduceMul, Nat.reduceBEq, Nat.reduceSub, Int.reduceLE, Int.reduceToNat, Int.reduceLT, Int.reduceNeg, encSIDBalanceNonce, encSLIDAmountNonce, encSAccounts, encSKindIDAmount, vl, Try.results11, e_sp0, e_sp1, List.map_append, List.length_append, List.length_map, List.map_take, List.map_drop, List.length_drop, List.length_take, Nat.le_refl, true_and]
theorem ledger_Debit_ok (p0 : SAccounts) (p1 : Int) (p2 : Int) (p3 : Int) (r0 : SAccounts) (r1 : Int) (h : ledger_Debit_Ret p0 p1 p2 p3 r0 r1) : SoundH Try.prog 18 [.agg [.d (.slice 3 (List.map encSIDBalanceNonce p0.Accounts))], .d (.int .u64 p1), .d (.int .u64 p2), .d (.int .u64 p3)] [] (.tup [.agg [.d (.slice 3 (List.map encSIDBalanceNonce r0.Accounts))], .d (.int .i64 r1)]) [] := by
  refine sound_of Try.func18 rfl Try.ntmps18 (by simp) fun G0 w0 => ?_
  unfold ledger_Debit_Ret at h
  refine sat_seq ?_
  refine sat_region fun K hK => ?_
  simp only [v1, v2, v3, v4, v5, v6, v7, v8, v9, tf1, tu, litOk, appOk, appS, growD, Nat.reduceEqDiff, Nat.reduceLT, Nat.reduceAdd, Nat.reduceLeDiff, Nat.reduceMul, Nat.reduceBEq, Nat.reduceSub, Int.reduceLE, Int.reduceToNat, Int.reduceLT, Int.reduceNeg, encSIDBalanceNonce, encSLIDAmountNonce, encSAccounts, encSKindIDAmount, List.map_append, List.length_append, List.length_map, List.map_take, List.map_drop, List.length_drop, List.length_take, Nat.le_refl, true_and]
  refine hK _ ?_
  clear hK K
  try simp only [s_thN, s_thE, s_thR, s_blN, s_blE, s_blM, s_blR, Nat.reduceEqDiff]
  refine sat_seq ?_
  obtain ⟨y1, y2, hr1, h⟩ := h
  refine sat_region fun K hK => ?_
  simp only [v1, v2, v3, v4, v5, v6, v7, v8, v9, tf1, tu, litOk, appOk, appS, growD, Nat.reduceEqDiff, Nat.reduceLT, Nat.reduceAdd, Nat.reduceLeDiff, Nat.reduceMul, Nat.reduceBEq, Nat.reduceSub, Int.reduceLE, Int.reduceToNat, Int.reduceLT, Int.reduceNeg, encSIDBalanceNonce, encSLIDAmountNonce, encSAccounts, encSKindIDAmount, List.map_append, List.length_append, List.length_map, List.map_take, List.map_drop, List.length_drop, List.length_take, Nat.le_refl, true_and]
  refine a_call [] (ledger_Get_ok p0 p1 y1 y2 hr1) bd25 (by simp only [v1, v2, v3, v4, v5, v6, v7, v8, v9, tf1, tu, litOk, appOk, appS, growD, Nat.reduceEqDiff, Nat.reduceLT, Nat.reduceAdd, Nat.reduceLeDiff, Nat.reduceMul, Nat.reduceBEq, Nat.reduceSub, Int.reduceLE, Int.reduceToNat, Int.reduceLT, Int.reduceNeg, encSIDBalanceNonce, encSLIDAmountNonce, encSAccounts, encSKindIDAmount, callOk, vl, List.map_append, List.length_append, List.length_map, List.map_take, List.map_drop, List.length_drop, List.length_take, Nat.le_refl, true_and]) ?_
  simp only [v1, v2, v3, v4, v5, v6, v7, v8, v9, tf1, tu, litOk, appOk, appS, growD, Nat.reduceEqDiff, Nat.reduceLT, Nat.reduceAdd, Nat.reduceLeDiff, Nat.reduceMul, Nat.reduceBEq, Nat.reduceSub, Int.reduceLE, Int.reduceToNat, Int.reduceLT, Int.reduceNeg, encSIDBalanceNonce, encSLIDAmountNonce, encSAccounts, encSKindIDAmount, List.map_append, List.length_append, List.length_map, List.map_take, List.map_drop, List.length_drop, List.length_take, Nat.le_refl, true_and]
  refine hK _ ?_
  clear hK K
  try simp only [s_thN, s_thE, s_thR, s_blN, s_blE, s_blM, s_blR, Nat.reduceEqDiff]
  refine sat_seq ?_
  refine sat_seq ?_
  refine sat_region fun K hK => ?_
  simp only [v1, v2, v3, v4, v5, v6, v7, v8, v9, tf1, tu, litOk, appOk, appS, growD, Nat.reduceEqDiff, Nat.reduceLT, Nat.reduceAdd, Nat.reduceLeDiff, Nat.reduceMul, Nat.reduceBEq, Nat.reduceSub, Int.reduceLE, Int.reduceToNat, Int.reduceLT, Int.reduceNeg, encSIDBalanceNonce, encSLIDAmountNonce, encSAccounts, encSKindIDAmount, List.map_append, List.length_append, List.length_map, List.map_take, List.map_drop, List.length_drop, List.length_take, Nat.le_refl, true_and]
  refine hK _ ?_
  clear hK K
  try simp only [s_thN, s_thE, s_thR, s_blN, s_blE, s_blM, s_blR, Nat.reduceEqDiff]
  refine sat_cond rfl (fun hb1 => ?_) (fun hb1 => ?_)
  · replace h := h.1 hb1
    refine sat_seq ?_
    refine sat_region fun K hK => ?_
    simp only [v1, v2, v3, v4, v5, v6, v7, v8, v9, tf1, tu, litOk, appOk, appS, growD, Nat.reduceEqDiff, Nat.reduceLT, Nat.reduceAdd, Nat.reduceLeDiff, Nat.reduceMul, Nat.reduceBEq, Nat.reduceSub, Int.reduceLE, Int.reduceToNat, Int.reduceLT, Int.reduceNeg, encSIDBalanceNonce, encSLIDAmountNonce, encSAccounts, encSKindIDAmount, List.map_append, List.length_append, List.length_map, List.map_take, List.map_drop, List.length_drop, List.length_take, Nat.le_refl, true_and]
    refine hK _ ?_
    clear hK K
    try simp only [s_thN, s_thE, s_thR, s_blN, s_blE, s_blM, s_blR, Nat.reduceEqDiff]
    obtain ⟨rfl, rfl⟩ := h
    refine sat_ret (retN [] ?_)
    simp only [v1, v2, v3, v4, v5, v6, v7, v8, v9, tf1, tu, litOk, appOk, appS, growD, Nat.reduceEqDiff, Nat.reduceLT, Nat.reduceAdd, Nat.reduceLeDiff, Nat.reduceMul, Nat.reduceBEq, Nat.reduceSub, Int.reduceLE, Int.reduceToNat, Int.reduceLT, Int.reduceNeg, encSIDBalanceNonce, encSLIDAmountNonce, encSAccounts, encSKindIDAmount, vl, Try.results18, e_sp0, e_sp1, List.map_append, List.length_append, List.length_map, List.map_take, List.map_drop, List.length_drop, List.length_take, Nat.le_refl, true_and]
  · replace h := h.2 hb1
    refine sat_skip ?_
    try simp only [s_thN, s_thE, s_thR, s_blN, s_blE, s_blM, s_blR, Nat.reduceEqDiff]
    refine sat_seq ?_
    refine sat_join (ι := Bool) (fun x => ⟨[(1, .d (.int .u64 p1)), (2, .d (.int .u64 p2)), (3, .d (.int .u64 p3)), (4, .ptr 0 0), (8, .ptr 1 0), (10, .d (.int .u64 y1)), (27, .d (.bool x))], [(0, .cells [.d (.slice 3 (List.map encSIDBalanceNonce p0.Accounts))]), (1, .cells [.full 3 (List.map encSIDBalanceNonce ([] : List SIDBalanceNonce))])], 2⟩) (fun x => ledger_Debit_J1 p0 p1 p2 p3 r0 r1 y1 x) ?_ ?_
    · refine sat_region fun K hK => ?_
      simp only [v1, v2, v3, v4, v5, v6, v7, v8, v9, tf1, tu, litOk, appOk, appS, growD, Nat.reduceEqDiff, Nat.reduceLT, Nat.reduceAdd, Nat.reduceLeDiff, Nat.reduceMul, Nat.reduceBEq, Nat.reduceSub, Int.reduceLE, Int.reduceToNat, Int.reduceLT, Int.reduceNeg, encSIDBalanceNonce, encSLIDAmountNonce, encSAccounts, encSKindIDAmount, List.map_append, List.length_append, List.length_map, List.map_take, List.map_drop, List.length_drop, List.length_take, Nat.le_refl, true_and]
      refine A_guard_split (by simp only [v1, v2, v3, v4, v5, v6, v7, v8, v9, tf1, tu, litOk, appOk, appS, growD, Nat.reduceEqDiff, Nat.reduceLT, Nat.reduceAdd, Nat.reduceLeDiff, Nat.reduceMul, Nat.reduceBEq, Nat.reduceSub, Int.reduceLE, Int.reduceToNat, Int.reduceLT, Int.reduceNeg, encSIDBalanceNonce, encSLIDAmountNonce, encSAccounts, encSKindIDAmount]; rfl) (fun hg1 => ?_) (fun hg1 => ?_)
      · simp only [v1, v2, v3, v4, v5, v6, v7, v8, v9, tf1, tu, litOk, appOk, appS, growD, Nat.reduceEqDiff, Nat.reduceLT, Nat.reduceAdd, Nat.reduceLeDiff, Nat.reduceMul, Nat.reduceBEq, Nat.reduceSub, Int.reduceLE, Int.reduceToNat, Int.reduceLT, Int.reduceNeg, encSIDBalanceNonce, encSLIDAmountNonce, encSAccounts, encSKindIDAmount, hg1, List.map_append, List.length_append, List.length_map, List.map_take, List.map_drop, List.length_drop, List.length_take, Nat.le_refl, true_and]
        refine hK _ ?_
        clear hK K
        try simp only [s_thN, s_thE, s_thR, s_blN, s_blE, s_blM, s_blR, Nat.reduceEqDiff]
        exact ⟨(p3 != y2) || (p3 == 18446744073709551615), h, by simp only [v1, v2, v3, v4, v5, v6, v7, v8, v9, tf1, tu, litOk, appOk, appS, growD, Nat.reduceEqDiff, Nat.reduceLT, Nat.reduceAdd, Nat.reduceLeDiff, Nat.reduceMul, Nat.reduceBEq, Nat.reduceSub, Int.reduceLE, Int.reduceToNat, Int.reduceLT, Int.reduceNeg, encSIDBalanceNonce, encSLIDAmountNonce, encSAccounts, encSKindIDAmount, vl, hg1, List.map_append, List.length_append, List.length_map, List.map_take, List.map_drop, List.length_drop, List.length_take, Nat.le_refl, true_and]⟩
      · simp only [v1, v2, v3, v4, v5, v6, v7, v8, v9, tf1, tu, litOk, appOk, appS, growD, Nat.reduceEqDiff, Nat.reduceLT, Nat.reduceAdd, Nat.reduceLeDiff, Nat.reduceMul, Nat.reduceBEq, Nat.reduceSub, Int.reduceLE, Int.reduceToNat, Int.reduceLT, Int.reduceNeg, encSIDBalanceNonce, encSLIDAmountNonce, encSAccounts, encSKindIDAmount, hg1, List.map_append, List.length_append, List.length_map, List.map_take, List.map_drop, List.length_drop, List.length_take, Nat.le_refl, true_and]
        refine hK _ ?_
        clear hK K
        try simp only [s_thN, s_thE, s_thR, s_blN, s_blE, s_blM, s_blR, Nat.reduceEqDiff]
        exact ⟨(p3 != y2) || (p3 == 18446744073709551615), h, by simp only [v1, v2, v3, v4, v5, v6, v7, v8, v9, tf1, tu, litOk, appOk, appS, growD, Nat.reduceEqDiff, Nat.reduceLT, Nat.reduceAdd, Nat.reduceLeDiff, Nat.reduceMul, Nat.reduceBEq, Nat.reduceSub, Int.reduceLE, Int.reduceToNat, Int.reduceLT, Int.reduceNeg, encSIDBalanceNonce, encSLIDAmountNonce, encSAccounts, encSKindIDAmount, vl, hg1, List.map_append, List.length_append, List.length_map, List.map_take, List.map_drop, List.length_drop, List.length_take, Nat.le_refl, true_and]⟩
    · intro b1 h
      have h : ledger_Debit_J1 p0 p1 p2 p3 r0 r1 y1 b1 := h
      show Sat _ _ _ _ _ _ ⟨[(1, .d (.int .u64 p1)), (2, .d (.int .u64 p2)), (3, .d (.int .u64 p3)), (4, .ptr 0 0), (8, .ptr 1 0), (10, .d (.int .u64 y1)), (27, .d (.bool b1))], [(0, .cells [.d (.slice 3 (List.map encSIDBalanceNonce p0.Accounts))]), (1, .cells [.full 3 (List.map encSIDBalanceNonce ([] : List SIDBalanceNonce))])], 2⟩ _
      unfold ledger_Debit_J1 at h
      refine sat_cond rfl (fun hb2 => ?_) (fun hb2 => ?_)
      · replace h := h.1 hb2
        refine sat_seq ?_
        refine sat_region fun K hK => ?_
        simp only [v1, v2, v3, v4, v5, v6, v7, v8, v9, tf1, tu, litOk, appOk, appS, growD, Nat.reduceEqDiff, Nat.reduceLT, Nat.reduceAdd, Nat.reduceLeDiff, Nat.reduceMul, Nat.reduceBEq, Nat.reduceSub, Int.reduceLE, Int.reduceToNat, Int.reduceLT, Int.reduceNeg, encSIDBalanceNonce, encSLIDAmountNonce, encSAccounts, encSKindIDAmount, List.map_append, List.length_append, List.length_map, List.map_take, List.map_drop, List.length_drop, List.length_take, Nat.le_refl, true_and]
        refine hK _ ?_
        clear hK K
        try simp only [s_thN, s_thE, s_thR, s_blN, s_blE, s_blM, s_blR, Nat.reduceEqDiff]
        obtain ⟨rfl, rfl⟩ := h
        refine sat_ret (retN [] ?_)
        simp only [v1, v2, v3, v4, v5, v6, v7, v8, v9, tf1, tu, litOk, appOk, appS, growD, Nat.reduceEqDiff, Nat.reduceLT, Nat.reduceAdd, Nat.reduceLeDiff, Nat.reduceMul, Nat.reduceBEq, Nat.reduceSub, Int.reduceLE, Int.reduceToNat, Int.reduceLT, Int.reduceNeg, encSIDBalanceNonce, encSLIDAmountNonce, encSAccounts, encSKindIDAmount, vl, Try.results18, e_sp0, e_sp1, List.map_append, List.length_append, List.length_map, List.map_take, List.map_drop, List.length_drop, List.length_take, Nat.le_refl, true_and]
      · replace h := h.2 hb2
        refine sat_skip ?_
        try simp only [s_thN, s_thE, s_thR, s_blN, s_blE, s_blM, s_blR, Nat.reduceEqDiff]
        refine sat_seq ?_
        refine sat_seq ?_
        refine sat_region fun K hK => ?_
        simp only [v1, v2, v3, v4, v5, v6, v7, v8, v9, tf1, tu, litOk, appOk, appS, growD, Nat.reduceEqDiff, Nat.reduceLT, Nat.reduceAdd, Nat.reduceLeDiff, Nat.reduceMul, Nat.reduceBEq, Nat.reduceSub, Int.reduceLE, Int.reduceToNat, Int.reduceLT, Int.reduceNeg, encSIDBalanceNonce, encSLIDAmountNonce, encSAccounts, encSKindIDAmount, List.map_append, List.length_append, List.length_map, List.map_take, List.map_drop, List.length_drop, List.length_take, Nat.le_refl, true_and]
        refine hK _ ?_
        clear hK K
        try simp only [s_thN, s_thE, s_thR, s_blN, s_blE, s_blM, s_blR, Nat.reduceEqDiff]
        refine sat_cond rfl (fun hb3 => ?_) (fun hb3 => ?_)
        · replace h := h.1 hb3
          refine sat_seq ?_
          refine sat_region fun K hK => ?_
          simp only [v1, v2, v3, v4, v5, v6, v7, v8, v9, tf1, tu, litOk, appOk, appS, growD, Nat.reduceEqDiff, Nat.reduceLT, Nat.reduceAdd, Nat.reduceLeDiff, Nat.reduceMul, Nat.reduceBEq, Nat.reduceSub, Int.reduceLE, Int.reduceToNat, Int.reduceLT, Int.reduceNeg, encSIDBalanceNonce, encSLIDAmountNonce, encSAccounts, encSKindIDAmount, List.map_append, List.length_append, List.length_map, List.map_take, List.map_drop, List.length_drop, List.length_take, Nat.le_refl, true_and]
          refine hK _ ?_
          clear hK K
          try simp only [s_thN, s_thE, s_thR, s_blN, s_blE, s_blM, s_blR, Nat.reduceEqDiff]
          obtain ⟨rfl, rfl⟩ := h
          refine sat_ret (retN [] ?_)
          simp only [v1, v2, v3, v4, v5, v6, v7, v8, v9, tf1, tu, litOk, appOk, appS, growD, Nat.reduceEqDiff, Nat.reduceLT, Nat.reduceAdd, Nat.reduceLeDiff, Nat.reduceMul, Nat.reduceBEq, Nat.reduceSub, Int.reduceLE, Int.reduceToNat, Int.reduceLT, Int.reduceNeg, encSIDBalanceNonce, encSLIDAmountNonce, encSAccounts, encSKindIDAmount, vl, Try.results18, e_sp0, e_sp1, List.map_append, List.length_append, List.length_map, List.map_take, List.map_drop, List.length_drop, List.length_take, Nat.le_refl, true_and]
        · replace h := h.2 hb3
          refine sat_skip ?_
          try simp only [s_thN, s_thE, s_thR, s_blN, s_blE, s_blM, s_blR, Nat.reduceEqDiff]
          refine sat_seq ?_
          obtain ⟨y3, hr2, h⟩ := h
          refine sat_region fun K hK => ?_
          simp only [v1, v2, v3, v4, v5, v6, v7, v8, v9, tf1, tu, litOk, appOk, appS, growD, Nat.reduceEqDiff, Nat.reduceLT, Nat.reduceAdd, Nat.reduceLeDiff, Nat.reduceMul, Nat.reduceBEq, Nat.reduceSub, Int.reduceLE, Int.reduceToNat, Int.reduceLT, Int.reduceNeg, encSIDBalanceNonce, encSLIDAmountNonce, encSAccounts, encSKindIDAmount, List.map_append, List.length_append, List.length_map, List.map_take, List.map_drop, List.length_drop, List.length_take, Nat.le_refl, true_and]
          refine a_call [] (ledger_set_ok p0 (SIDBalanceNonce.mk p1 (IntKind.u64.wrap (y1 - p2)) (IntKind.u64.wrap (p3 + 1))) y3 hr2) bd29 (by simp only [v1, v2, v3, v4, v5, v6, v7, v8, v9, tf1, tu, litOk, appOk, appS, growD, Nat.reduceEqDiff, Nat.reduceLT, Nat.reduceAdd, Nat.reduceLeDiff, Nat.reduceMul, Nat.reduceBEq, Nat.reduceSub, Int.reduceLE, Int.reduceToNat, Int.reduceLT, Int.reduceNeg, encSIDBalanceNonce, encSLIDAmountNonce, encSAccounts, encSKindIDAmount, callOk, vl, List.map_append, List.length_append, List.length_map, List.map_take, List.map_drop, List.length_drop, List.length_take, Nat.le_refl, true_and]) ?_
          simp only [v1, v2, v3, v4, v5, v6, v7, v8, v9, tf1, tu, litOk, appOk, appS, growD, Nat.reduceEqDiff, Nat.reduceLT, Nat.reduceAdd, Nat.reduceLeDiff, Nat.reduceMul, Nat.reduceBEq, Nat.reduceSub, Int.reduceLE, Int.reduceToNat, Int.reduceLT, Int.reduceNeg, encSIDBalanceNonce, encSLIDAmountNonce, encSAccounts, encSKindIDAmount, List.map_append, List.length_append, List.length_map, List.map_take, List.map_drop, List.length_drop, List.length_take, Nat.le_refl, true_and]
          refine hK _ ?_
          clear hK K
          try simp only [s_thN, s_thE, s_thR, s_blN, s_blE, s_blM, s_blR, Nat.reduceEqDiff]
          obtain ⟨rfl, rfl⟩ := h
          refine sat_ret (retN [] ?_)
          simp only [v1, v2, v3, v4, v5, v6, v7, v8, v9, tf1, tu, litOk, appOk, appS, growD, Nat.reduceEqDiff, Nat.reduceLT, Nat.reduceAdd, Nat.reduceLeDiff, Nat.reduceMul, Nat.reduceBEq, Nat.reduceSub, Int.reduceLE, Int.reduceToNat, Int.reduceLT, Int.reduceNeg, encSIDBalanceNonce, encSLIDAmountNonce, encSAccounts, encSKindIDAmount, vl, Try.results18, e_sp0, e_sp1, List.map_append, List.length_append, List.length_map, List.map_take, List.map_drop, List.length_drop, List.length_take, Nat.le_refl, true_and]
theorem ledger_Undebit_ok (p0 : SAccounts) (p1 : Int) (p2 : Int) (p3 : Int) (r0 : SAccounts) (r1 : Int) (h : ledger_Undebit_Ret p0 p1 p2 p3 r0 r1) : SoundH Try.prog 20 [.agg [.d (.slice 3 (List.map encSIDBalanceNonce p0.Accounts))], .d (.int .u64 p1), .d (.int .u64 p2), .d (.int .u64 p3)] [] (.tup [.agg [.d (.slice 3 (List.map encSIDBalanceNonce r0.Accounts))], .d (.int .i64 r1)]) [] := by
  refine sound_of Try.func20 rfl Try.ntmps20 (by simp) fun G0 w0 => ?_
  unfold ledger_Undebit_Ret at h
  refine sat_seq ?_
  refine sat_region fun K hK => ?_
  simp only [v1, v2, v3, v4, v5, v6, v7, v8, v9, tf1, tu, litOk, appOk, appS, growD, Nat.reduceEqDiff, Nat.reduceLT, Nat.reduceAdd, Nat.reduceLeDiff, Nat.reduceMul, Nat.reduceBEq, Nat.reduceSub, Int.reduceLE, Int.reduceToNat, Int.reduceLT, Int.reduceNeg, encSIDBalanceNonce, encSLIDAmountNonce, encSAccounts, encSKindIDAmount, List.map_append, List.length_append, List.length_map, List.map_take, List.map_drop, List.length_drop, List.length_take, Nat.le_refl, true_and]
  refine hK _ ?_
  clear hK K
  try simp only [s_thN, s_thE, s_thR, s_blN, s_blE, s_blM, s_blR, Nat.reduceEqDiff]
  refine sat_seq ?_
  obtain ⟨y1, y2, hr1, h⟩ := h
  refine sat_region fun K hK => ?_
  simp only [v1, v2, v3, v4, v5, v6, v7, v8, v9, tf1, tu, litOk, appOk, appS, growD, Nat.reduceEqDiff, Nat.reduceLT, Nat.reduceAdd, Nat.reduceLeDiff, Nat.reduceMul, Nat.reduceBEq, Nat.reduceSub, Int.reduceLE, Int.reduceToNat, Int.reduceLT, Int.reduceNeg, encSIDBalanceNonce, encSLIDAmountNonce, encSAccounts, encSKindIDAmount, List.map_append, List.length_append, List.length_map, List.map_take, List.map_drop, List.length_drop, List.length_take, Nat.le_refl, true_and]
  refine a_call [] (ledger_Get_ok p0 p1 y1 y2 hr1) bd25 (by simp only [v1, v2, v3, v4, v5, v6, v7, v8, v9, tf1, tu, litOk, appOk, appS, growD, Nat.reduceEqDiff, Nat.reduceLT, Nat.reduceAdd, Nat.reduceLeDiff, Nat.reduceMul, Nat.reduceBEq, Nat.reduceSub, Int.reduceLE, Int.reduceToNat, Int.reduceLT, Int.reduceNeg, encSIDBalanceNonce, encSLIDAmountNonce, encSAccounts, encSKindIDAmount, callOk, vl, List.map_append, List.length_append, List.length_map, List.map_take, List.map_drop, List.length_drop, List.length_take, Nat.le_refl, true_and]) ?_
  simp only [v1, v2, v3, v4, v5, v6, v7, v8, v9, tf1, tu, litOk, appOk, appS, growD, Nat.reduceEqDiff, Nat.reduceLT, Nat.reduceAdd, Nat.reduceLeDiff, Nat.reduceMul, Nat.reduceBEq, Nat.reduceSub, Int.reduceLE, Int.reduceToNat, Int.reduceLT, Int.reduceNeg, encSIDBalanceNonce, encSLIDAmountNonce, encSAccounts, encSKindIDAmount, List.map_append, List.length_append, List.length_map, List.map_take, List.map_drop, List.length_drop, List.length_take, Nat.le_refl, true_and]
  refine hK _ ?_
  clear hK K
  try simp only [s_thN, s_thE, s_thR, s_blN, s_blE, s_blM, s_blR, Nat.reduceEqDiff]
  refine sat_seq ?_
  refine sat_join (ι := Bool) (fun x => ⟨[(1, .d (.int .u64 p1)), (2, .d (.int .u64 p2)), (3, .d (.int .u64 p3)), (4, .ptr 0 0), (8, .ptr 1 0), (10, .d (.int .u64 y1)), (11, .d (.int .u64 y2)), (28, .d (.bool x))], [(0, .cells [.d (.slice 3 (List.map encSIDBalanceNonce p0.Accounts))]), (1, .cells [.full 3 (List.map encSIDBalanceNonce ([] : List SIDBalanceNonce))])], 2⟩) (fun x => ledger_Undebit_J1 p0 p1 p2 p3 r0 r1 y1 y2 x) ?_ ?_
  · obtain ⟨y3, hr2, h⟩ := h
    refine sat_region fun K hK => ?_
    simp only [v1, v2, v3, v4, v5, v6, v7, v8, v9, tf1, tu, litOk, appOk, appS, growD, Nat.reduceEqDiff, Nat.reduceLT, Nat.reduceAdd, Nat.reduceLeDiff, Nat.reduceMul, Nat.reduceBEq, Nat.reduceSub, Int.reduceLE, Int.reduceToNat, Int.reduceLT, Int.reduceNeg, encSIDBalanceNonce, encSLIDAmountNonce, encSAccounts, encSKindIDAmount, List.map_append, List.length_append, List.length_map, List.map_take, List.map_drop, List.length_drop, List.length_take, Nat.le_refl, true_and]
    refine A_guard_split (by simp only [v1, v2, v3, v4, v5, v6, v7, v8, v9, tf1, tu, litOk, appOk, appS, growD, Nat.reduceEqDiff, Nat.reduceLT, Nat.reduceAdd, Nat.reduceLeDiff, Nat.reduceMul, Nat.reduceBEq, Nat.reduceSub, Int.reduceLE, Int.reduceToNat, Int.reduceLT, Int.reduceNeg, encSIDBalanceNonce, encSLIDAmountNonce, encSAccounts, encSKindIDAmount]; rfl) (fun hg1 => ?_) (fun hg1 => ?_)
    · simp only [v1, v2, v3, v4, v5, v6, v7, v8, v9, tf1, tu, litOk, appOk, appS, growD, Nat.reduceEqDiff, Nat.reduceLT, Nat.reduceAdd, Nat.reduceLeDiff, Nat.reduceMul, Nat.reduceBEq, Nat.reduceSub, Int.reduceLE, Int.reduceToNat, Int.reduceLT, Int.reduceNeg, encSIDBalanceNonce, encSLIDAmountNonce, encSAccounts, encSKindIDAmount, hg1, List.map_append, List.length_append, List.length_map, List.map_take, List.map_drop, List.length_drop, List.length_take, Nat.le_refl, true_and]
      refine hK _ ?_
      clear hK K
      try simp only [s_thN, s_thE, s_thR, s_blN, s_blE, s_blM, s_blR, Nat.reduceEqDiff]
      exact ⟨((p2 == 0) || y3) || (y2 == 0), h, by simp only [v1, v2, v3, v4, v5, v6, v7, v8, v9, tf1, tu, litOk, appOk, appS, growD, Nat.reduceEqDiff, Nat.reduceLT, Nat.reduceAdd, Nat.reduceLeDiff, Nat.reduceMul, Nat.reduceBEq, Nat.reduceSub, Int.reduceLE, Int.reduceToNat, Int.reduceLT, Int.reduceNeg, encSIDBalanceNonce, encSLIDAmountNonce, encSAccounts, encSKindIDAmount, vl, hg1, List.map_append, List.length_append, List.length_map, List.map_take, List.map_drop, List.length_drop, List.length_take, Nat.le_refl, true_and]⟩
    · simp only [v1, v2, v3, v4, v5, v6, v7, v8, v9, tf1, tu, litOk, appOk, appS, growD, Nat.reduceEqDiff, Nat.reduceLT, Nat.reduceAdd, Nat.reduceLeDiff, Nat.reduceMul, Nat.reduceBEq, Nat.reduceSub, Int.reduceLE, Int.reduceToNat, Int.reduceLT, Int.reduceNeg, encSIDBalanceNonce, encSLIDAmountNonce, encSAccounts, encSKindIDAmount, hg1, List.map_append, List.length_append, List.length_map, List.map_take, List.map_drop, List.length_drop, List.length_take, Nat.le_refl, true_and]
      replace hr2 := hr2 (by simp only [v1, v2, v3, v4, v5, v6, v7, v8, v9, tf1, tu, litOk, appOk, appS, growD, Nat.reduceEqDiff, Nat.reduceLT, Nat.reduceAdd, Nat.reduceLeDiff, Nat.reduceMul, Nat.reduceBEq, Nat.reduceSub, Int.reduceLE, Int.reduceToNat, Int.reduceLT, Int.reduceNeg, encSIDBalanceNonce, encSLIDAmountNonce, encSAccounts, encSKindIDAmount, hg1])
      refine a_call [] (ledger_exceeds_ok y1 p2 y3 hr2) bd28 (by simp only [v1, v2, v3, v4, v5, v6, v7, v8, v9, tf1, tu, litOk, appOk, appS, growD, Nat.reduceEqDiff, Nat.reduceLT, Nat.reduceAdd, Nat.reduceLeDiff, Nat.reduceMul, Nat.reduceBEq, Nat.reduceSub, Int.reduceLE, Int.reduceToNat, Int.reduceLT, Int.reduceNeg, encSIDBalanceNonce, encSLIDAmountNonce, encSAccounts, encSKindIDAmount, callOk, vl, hg1, List.map_append, List.length_append, List.length_map, List.map_take, List.map_drop, List.length_drop, List.length_take, Nat.le_refl, true_and]) ?_
      simp only [v1, v2, v3, v4, v5, v6, v7, v8, v9, tf1, tu, litOk, appOk, appS, growD, Nat.reduceEqDiff, Nat.reduceLT, Nat.reduceAdd, Nat.reduceLeDiff, Nat.reduceMul, Nat.reduceBEq, Nat.reduceSub, Int.reduceLE, Int.reduceToNat, Int.reduceLT, Int.reduceNeg, encSIDBalanceNonce, encSLIDAmountNonce, encSAccounts, encSKindIDAmount, hg1, List.map_append, List.length_append, List.length_map, List.map_take, List.map_drop, List.length_drop, List.length_take, Nat.le_refl, true_and]
      refine A_guard_split (by simp only [v1, v2, v3, v4, v5, v6, v7, v8, v9, tf1, tu, litOk, appOk, appS, growD, Nat.reduceEqDiff, Nat.reduceLT, Nat.reduceAdd, Nat.reduceLeDiff, Nat.reduceMul, Nat.reduceBEq, Nat.reduceSub, Int.reduceLE, Int.reduceToNat, Int.reduceLT, Int.reduceNeg, encSIDBalanceNonce, encSLIDAmountNonce, encSAccounts, encSKindIDAmount, hg1]; rfl) (fun hg2 => ?_) (fun hg2 => ?_)
      · simp only [v1, v2, v3, v4, v5, v6, v7, v8, v9, tf1, tu, litOk, appOk, appS, growD, Nat.reduceEqDiff, Nat.reduceLT, Nat.reduceAdd, Nat.reduceLeDiff, Nat.reduceMul, Nat.reduceBEq, Nat.reduceSub, Int.reduceLE, Int.reduceToNat, Int.reduceLT, Int.reduceNeg, encSIDBalanceNonce, encSLIDAmountNonce, encSAccounts, encSKindIDAmount, hg1, hg2, List.map_append, List.length_append, List.length_map, List.map_take, List.map_drop, List.length_drop, List.length_take, Nat.le_refl, true_and]
        refine hK _ ?_
        clear hK K
        try simp only [s_thN, s_thE, s_thR, s_blN, s_blE, s_blM, s_blR, Nat.reduceEqDiff]
        exact ⟨((p2 == 0) || y3) || (y2 == 0), h, by simp only [v1, v2, v3, v4, v5, v6, v7, v8, v9, tf1, tu, litOk, appOk, appS, growD, Nat.reduceEqDiff, Nat.reduceLT, Nat.reduceAdd, Nat.reduceLeDiff, Nat.reduceMul, Nat.reduceBEq, Nat.reduceSub, Int.reduceLE, Int.reduceToNat, Int.reduceLT, Int.reduceNeg, encSIDBalanceNonce, encSLIDAmountNonce, encSAccounts, encSKindIDAmount, vl, hg1, hg2, List.map_append, List.length_append, List.length_map, List.map_take, List.map_drop, List.length_drop, List.length_take, Nat.le_refl, true_and]⟩
      · simp only [v1, v2, v3, v4, v5, v6, v7, v8, v9, tf1, tu, litOk, appOk, appS, growD, Nat.reduceEqDiff, Nat.reduceLT, Nat.reduceAdd, Nat.reduceLeDiff, Nat.reduceMul, Nat.reduceBEq, Nat.reduceSub, Int.reduceLE, Int.reduceToNat, Int.reduceLT, Int.reduceNeg, encSIDBalanceNonce, encSLIDAmountNonce, encSAccounts, encSKindIDAmount, hg1, hg2, List.map_append, List.length_append, List.length_map, List.map_take, List.map_drop, List.length_drop, List.length_take, Nat.le_refl, true_and]
        refine hK _ ?_
        clear hK K
        try simp only [s_thN, s_thE, s_thR, s_blN, s_blE, s_blM, s_blR, Nat.reduceEqDiff]
        exact ⟨((p2 == 0) || y3) || (y2 == 0), h, by simp only [v1, v2, v3, v4, v5, v6, v7, v8, v9, tf1, tu, litOk, appOk, appS, growD, Nat.reduceEqDiff, Nat.reduceLT, Nat.reduceAdd, Nat.reduceLeDiff, Nat.reduceMul, Nat.reduceBEq, Nat.reduceSub, Int.reduceLE, Int.reduceToNat, Int.reduceLT, Int.reduceNeg, encSIDBalanceNonce, encSLIDAmountNonce, encSAccounts, encSKindIDAmount, vl, hg1, hg2, List.map_append, List.length_append, List.length_map, List.map_take, List.map_drop, List.length_drop, List.length_take, Nat.le_refl, true_and]⟩
  · intro b1 h
    have h : ledger_Undebit_J1 p0 p1 p2 p3 r0 r1 y1 y2 b1 := h
    show Sat _ _ _ _ _ _ ⟨[(1, .d (.int .u64 p1)), (2, .d (.int .u64 p2)), (3, .d (.int .u64 p3)), (4, .ptr 0 0), (8, .ptr 1 0), (10, .d (.int .u64 y1)), (11, .d (.int .u64 y2)), (28, .d (.bool b1))], [(0, .cells [.d (.slice 3 (List.map encSIDBalanceNonce p0.Accounts))]), (1, .cells [.full 3 (List.map encSIDBalanceNonce ([] : List SIDBalanceNonce))])], 2⟩ _
    unfold ledger_Undebit_J1 at h
    refine sat_cond rfl (fun hb1 => ?_) (fun hb1 => ?_)
    · replace h := h.1 hb1
      refine sat_seq ?_
      refine sat_region fun K hK => ?_
      simp only [v1, v2, v3, v4, v5, v6, v7, v8, v9, tf1, tu, litOk, appOk, appS, growD, Nat.reduceEqDiff, Nat.reduceLT, Nat.reduceAdd, Nat.reduceLeDiff, Nat.reduceMul, Nat.reduceBEq, Nat.reduceSub, Int.reduceLE, Int.reduceToNat, Int.reduceLT, Int.reduceNeg, encSIDBalanceNonce, encSLIDAmountNonce, encSAccounts, encSKindIDAmount, List.map_append, List.length_append, List.length_map, List.map_take, List.map_drop, List.length_drop, List.length_take, Nat.le_refl, true_and]
      refine hK _ ?_
      clear hK K
      try simp only [s_thN, s_thE, s_thR, s_blN, s_blE, s_blM, s_blR, Nat.reduceEqDiff]
      obtain ⟨rfl, rfl⟩ := h
      refine sat_ret (retN [] ?_)
      simp only [v1, v2, v3, v4, v5, v6, v7, v8, v9, tf1, tu, litOk, appOk, appS, growD, Nat.reduceEqDiff, Nat.reduceLT, Nat.reduceAdd, Nat.reduceLeDiff, Nat.reduceMul, Nat.reduceBEq, Nat.reduceSub, Int.reduceLE, Int.reduceToNat, Int.reduceLT, Int.reduceNeg, encSIDBalanceNonce, encSLIDAmountNonce, encSAccounts, encSKindIDAmount, vl, Try.results20, e_sp0, e_sp1, List.map_append, List.length_append, List.length_map, List.map_take, List.map_drop, List.length_drop, List.length_take, Nat.le_refl, true_and]
    · replace h := h.2 hb1
      refine sat_skip ?_
      try simp only [s_thN, s_thE, s_thR, s_blN, s_blE, s_blM, s_blR, Nat.reduceEqDiff]
      refine sat_seq ?_
      refine sat_seq ?_
      refine sat_region fun K hK => ?_
      simp only [v1, v2, v3, v4, v5, v6, v7, v8, v9, tf1, tu, litOk, appOk, appS, growD, Nat.reduceEqDiff, Nat.reduceLT, Nat.reduceAdd, Nat.reduceLeDiff, Nat.reduceMul, Nat.reduceBEq, Nat.reduceSub, Int.reduceLE, Int.reduceToNat, Int.reduceLT, Int.reduceNeg, encSIDBalanceNonce, encSLIDAmountNonce, encSAccounts, encSKindIDAmount, List.map_append, List.length_append, List.length_map, List.map_take, List.map_drop, List.length_drop, List.length_take, Nat.le_refl, true_and]
      refine hK _ ?_
      clear hK K
      try simp only [s_thN, s_thE, s_thR, s_blN, s_blE, s_blM, s_blR, Nat.reduceEqDiff]
      refine sat_cond rfl (fun hb2 => ?_) (fun hb2 => ?_)
      · replace h := h.1 hb2
        refine sat_seq ?_
        refine sat_region fun K hK => ?_
        simp only [v1, v2, v3, v4, v5, v6, v7, v8, v9, tf1, tu, litOk, appOk, appS, growD, Nat.reduceEqDiff, Nat.reduceLT, Nat.reduceAdd, Nat.reduceLeDiff, Nat.reduceMul, Nat.reduceBEq, Nat.reduceSub, Int.reduceLE, Int.reduceToNat, Int.reduceLT, Int.reduceNeg, encSIDBalanceNonce, encSLIDAmountNonce, encSAccounts, encSKindIDAmount, List.map_append, List.length_append, List.length_map, List.map_take, List.map_drop, List.length_drop, List.length_take, Nat.le_refl, true_and]
        refine hK _ ?_
        clear hK K
        try simp only [s_thN, s_thE, s_thR, s_blN, s_blE, s_blM, s_blR, Nat.reduceEqDiff]
        obtain ⟨rfl, rfl⟩ := h
        refine sat_ret (retN [] ?_)
        simp only [v1, v2, v3, v4, v5, v6, v7, v8, v9, tf1, tu, litOk, appOk, appS, growD, Nat.reduceEqDiff, Nat.reduceLT, Nat.reduceAdd, Nat.reduceLeDiff, Nat.reduceMul, Nat.reduceBEq, Nat.reduceSub, Int.reduceLE, Int.reduceToNat, Int.reduceLT, Int.reduceNeg, encSIDBalanceNonce, encSLIDAmountNonce, encSAccounts, encSKindIDAmount, vl, Try.results20, e_sp0, e_sp1, List.map_append, List.length_append, List.length_map, List.map_take, List.map_drop, List.length_drop, List.length_take, Nat.le_refl, true_and]
      · replace h := h.2 hb2
        refine sat_skip ?_
        try simp only [s_thN, s_thE, s_thR, s_blN, s_blE, s_blM, s_blR, Nat.reduceEqDiff]
        refine sat_seq ?_
        obtain ⟨y4, hr3, h⟩ := h
        refine sat_region fun K hK => ?_
        simp only [v1, v2, v3, v4, v5, v6, v7, v8, v9, tf1, tu, litOk, appOk, appS, growD, Nat.reduceEqDiff, Nat.reduceLT, Nat.reduceAdd, Nat.reduceLeDiff, Nat.reduceMul, Nat.reduceBEq, Nat.reduceSub, Int.reduceLE, Int.reduceToNat, Int.reduceLT, Int.reduceNeg, encSIDBalanceNonce, encSLIDAmountNonce, encSAccounts, encSKindIDAmount, List.map_append, List.length_append, List.length_map, List.map_take, List.map_drop, List.length_drop, List.length_take, Nat.le_refl, true_and]
        refine a_call [] (ledger_set_ok p0 (SIDBalanceNonce.mk p1 (IntKind.u64.wrap (y1 + p2)) p3) y4 hr3) bd29 (by simp only [v1, v2, v3, v4, v5, v6, v7, v8, v9, tf1, tu, litOk, appOk, appS, growD, Nat.reduceEqDiff, Nat.reduceLT, Nat.reduceAdd, Nat.reduceLeDiff, Nat.reduceMul, Nat.reduceBEq, Nat.reduceSub, Int.reduceLE, Int.reduceToNat, Int.reduceLT, Int.reduceNeg, encSIDBalanceNonce, encSLIDAmountNonce, encSAccounts, encSKindIDAmount, callOk, vl, List.map_append, List.length_append, List.length_map, List.map_take, List.map_drop, List.length_drop, List.length_take, Nat.le_refl, true_and]) ?_
        simp only [v1, v2, v3, v4, v5, v6, v7, v8, v9, tf1, tu, litOk, appOk, appS, growD, Nat.reduceEqDiff, Nat.reduceLT, Nat.reduceAdd, Nat.reduceLeDiff, Nat.reduceMul, Nat.reduceBEq, Nat.reduceSub, Int.reduceLE, Int.reduceToNat, Int.reduceLT, Int.reduceNeg, encSIDBalanceNonce, encSLIDAmountNonce, encSAccounts, encSKindIDAmount, List.map_append, List.length_append, List.length_map, List.map_take, List.map_drop, List.length_drop, List.length_take, Nat.le_refl, true_and]
        refine hK _ ?_
        clear hK K
        try simp only [s_thN, s_thE, s_thR, s_blN, s_blE, s_blM, s_blR, Nat.reduceEqDiff]
        obtain ⟨rfl, rfl⟩ := h
        refine sat_ret (retN [] ?_)
        simp only [v1, v2, v3, v4, v5, v6, v7, v8, v9, tf1, tu, litOk, appOk, appS, growD, Nat.reduceEqDiff, Nat.reduceLT, Nat.reduceAdd, Nat.reduceLeDiff, Nat.reduceMul, Nat.reduceBEq, Nat.reduceSub, Int.reduceLE, Int.reduceToNat, Int.reduceLT, Int.reduceNeg, encSIDBalanceNonce, encSLIDAmountNonce, encSAccounts, encSKindIDAmount, vl, Try.results20, e_sp0, e_sp1, List.map_append, List.length_append, List.length_map, List.map_take, List.map_drop, List.length_drop, List.length_take, Nat.le_refl, true_and]
theorem ledger_Uncredit_ok (p0 : SAccounts) (p1 : Int) (p2 : Int) (r0 : SAccounts) (r1 : Int) (h : ledger_Uncredit_Ret p0 p1 p2 r0 r1) : SoundH Try.prog 14 [.agg [.d (.slice 3 (List.map encSIDBalanceNonce p0.Accounts))], .d (.int .u64 p1), .d (.int .u64 p2)] [] (.tup [.agg [.d (.slice 3 (List.map encSIDBalanceNonce r0.Accounts))], .d (.int .i64 r1)]) [] := by
  refine sound_of Try.func14 rfl Try.ntmps14 (by simp) fun G0 w0 => ?_
  unfold ledger_Uncredit_Ret at h
  refine sat_seq ?_
  refine sat_region fun K hK => ?_
  simp only [v1, v2, v3, v4, v5, v6, v7, v8, v9, tf1, tu, litOk, appOk, appS, growD, Nat.reduceEqDiff, Nat.reduceLT, Nat.reduceAdd, Nat.reduceLeDiff, Nat.reduceMul, Nat.reduceBEq, Nat.reduceSub, Int.reduceLE, Int.reduceToNat, Int.reduceLT, Int.reduceNeg, encSIDBalanceNonce, encSLIDAmountNonce, encSAccounts, encSKindIDAmount, List.map_append, List.length_append, List.length_map, List.map_take, List.map_drop, List.length_drop, List.length_take, Nat.le_refl, true_and]
  refine hK _ ?_
  clear hK K
  try simp only [s_thN, s_thE, s_thR, s_blN, s_blE, s_blM, s_blR, Nat.reduceEqDiff]
  refine sat_seq ?_
  obtain ⟨y1, y2, hr1, h⟩ := h
  refine sat_region fun K hK => ?_
  simp only [v1, v2, v3, v4, v5, v6, v7, v8, v9, tf1, tu, litOk, appOk, appS, growD, Nat.reduceEqDiff, Nat.reduceLT, Nat.reduceAdd, Nat.reduceLeDiff, Nat.reduceMul, Nat.reduceBEq, Nat.reduceSub, Int.reduceLE, Int.reduceToNat, Int.reduceLT, Int.reduceNeg, encSIDBalanceNonce, encSLIDAmountNonce, encSAccounts, encSKindIDAmount, List.map_append, List.length_append, List.length_map, List.map_take, List.map_drop, List.length_drop, List.length_take, Nat.le_refl, true_and]
  refine a_call [] (ledger_Get_ok p0 p1 y1 y2 hr1) bd25 (by simp only [v1, v2, v3, v4, v5, v6, v7, v8, v9, tf1, tu, litOk, appOk, appS, growD, Nat.reduceEqDiff, Nat.reduceLT, Nat.reduceAdd, Nat.reduceLeDiff, Nat.reduceMul, Nat.reduceBEq, Nat.reduceSub, Int.reduceLE, Int.reduceToNat, Int.reduceLT, Int.reduceNeg, encSIDBalanceNonce, encSLIDAmountNonce, encSAccounts, encSKindIDAmount, callOk, vl, List.map_append, List.length_append, List.length_map, List.map_take, List.map_drop, List.length_drop, List.length_take, Nat.le_refl, true_and]) ?_
  simp only [v1, v2, v3, v4, v5, v6, v7, v8, v9, tf1, tu, litOk, appOk, appS, growD, Nat.reduceEqDiff, Nat.reduceLT, Nat.reduceAdd, Nat.reduceLeDiff, Nat.reduceMul, Nat.reduceBEq, Nat.reduceSub, Int.reduceLE, Int.reduceToNat, Int.reduceLT, Int.reduceNeg, encSIDBalanceNonce, encSLIDAmountNonce, encSAccounts, encSKindIDAmount, List.map_append, List.length_append, List.length_map, List.map_take, List.map_drop, List.length_drop, List.length_take, Nat.le_refl, true_and]
  refine hK _ ?_
  clear hK K
  try simp only [s_thN, s_thE, s_thR, s_blN, s_blE, s_blM, s_blR, Nat.reduceEqDiff]
  refine sat_seq ?_
  refine sat_seq ?_
  refine sat_region fun K hK => ?_
  simp only [v1, v2, v3, v4, v5, v6, v7, v8, v9, tf1, tu, litOk, appOk, appS, growD, Nat.reduceEqDiff, Nat.reduceLT, Nat.reduceAdd, Nat.reduceLeDiff, Nat.reduceMul, Nat.reduceBEq, Nat.reduceSub, Int.reduceLE, Int.reduceToNat, Int.reduceLT, Int.reduceNeg, encSIDBalanceNonce, encSLIDAmountNonce, encSAccounts, encSKindIDAmount, List.map_append, List.length_append, List.length_map, List.map_take, List.map_drop, List.length_drop, List.length_take, Nat.le_refl, true_and]
  refine hK _ ?_
  clear hK K
  try simp only [s_thN, s_thE, s_thR, s_blN, s_blE, s_blM, s_blR, Nat.reduceEqDiff]
  refine sat_cond rfl (fun hb1 => ?_) (fun hb1 => ?_)
  · replace h := h.1 hb1
    refine sat_seq ?_
    refine sat_region fun K hK => ?_
    simp only [v1, v2, v3, v4, v5, v6, v7, v8, v9, tf1, tu, litOk, appOk, appS, growD, Nat.reduceEqDiff, Nat.reduceLT, Nat.reduceAdd, Nat.reduceLeDiff, Nat.reduceMul, Nat.reduceBEq, Nat.reduceSub, Int.reduceLE, Int.reduceToNat, Int.reduceLT, Int.reduceNeg, encSIDBalanceNonce, encSLIDAmountNonce, encSAccounts, encSKindIDAmount, List.map_append, List.length_append, List.length_map, List.map_take, List.map_drop, List.length_drop, List.length_take, Nat.le_refl, true_and]
    refine hK _ ?_
    clear hK K
    try simp only [s_thN, s_thE, s_thR, s_blN, s_blE, s_blM, s_blR, Nat.reduceEqDiff]
    obtain ⟨rfl, rfl⟩ := h
    refine sat_ret (retN [] ?_)
    simp only [v1, v2, v3, v4, v5, v6, v7, v8, v9, tf1, tu, litOk, appOk, appS, growD, Nat.reduceEqDiff, Nat.reduceLT, Nat.reduceAdd, Nat.reduceLeDiff, Nat.reduceMul, Nat.reduceBEq, Nat.reduceSub, Int.reduceLE, Int.reduceToNat, Int.reduceLT, Int.reduceNeg, encSIDBalanceNonce, encSLIDAmountNonce, encSAccounts, encSKindIDAmount, vl, Try.results14, e_sp0, e_sp1, List.map_append, List.length_append, List.length_map, List.map_take, List.map_drop, List.length_drop, List.length_take, Nat.le_refl, true_and]
  · replace h := h.2 hb1
    refine sat_skip ?_
    try simp only [s_thN, s_thE, s_thR, s_blN, s_blE, s_blM, s_blR, Nat.reduceEqDiff]
    refine sat_seq ?_
    obtain ⟨y3, hr2, h⟩ := h
    refine sat_region fun K hK => ?_
    simp only [v1, v2, v3, v4, v5, v6, v7, v8, v9, tf1, tu, litOk, appOk, appS, growD, Nat.reduceEqDiff, Nat.reduceLT, Nat.reduceAdd, Nat.reduceLeDiff, Nat.reduceMul, Nat.reduceBEq, Nat.reduceSub, Int.reduceLE, Int.reduceToNat, Int.reduceLT, Int.reduceNeg, encSIDBalanceNonce, encSLIDAmountNonce, encSAccounts, encSKindIDAmount, List.map_append, List.length_append, List.length_map, List.map_take, List.map_drop, List.length_drop, List.length_take, Nat.le_refl, true_and]
    refine a_call [] (ledger_set_ok p0 (SIDBalanceNonce.mk p1 (IntKind.u64.wrap (y1 - p2)) y2) y3 hr2) bd29 (by simp only [v1, v2, v3, v4, v5, v6, v7, v8, v9, tf1, tu, litOk, appOk, appS, growD, Nat.reduceEqDiff, Nat.reduceLT, Nat.reduceAdd, Nat.reduceLeDiff, Nat.reduceMul, Nat.reduceBEq, Nat.reduceSub, Int.reduceLE, Int.reduceToNat, Int.reduceLT, Int.reduceNeg, encSIDBalanceNonce, encSLIDAmountNonce, encSAccounts, encSKindIDAmount, callOk, vl, List.map_append, List.length_append, List.length_map, List.map_take, List.map_drop, List.length_drop, List.length_take, Nat.le_refl, true_and]) ?_
    simp only [v1, v2, v3, v4, v5, v6, v7, v8, v9, tf1, tu, litOk, appOk, appS, growD, Nat.reduceEqDiff, Nat.reduceLT, Nat.reduceAdd, Nat.reduceLeDiff, Nat.reduceMul, Nat.reduceBEq, Nat.reduceSub, Int.reduceLE, Int.reduceToNat, Int.reduceLT, Int.reduceNeg, encSIDBalanceNonce, encSLIDAmountNonce, encSAccounts, encSKindIDAmount, List.map_append, List.length_append, List.length_map, List.map_take, List.map_drop, List.length_drop, List.length_take, Nat.le_refl, true_and]
    refine hK _ ?_
    clear hK K
    try simp only [s_thN, s_thE, s_thR, s_blN, s_blE, s_blM, s_blR, Nat.reduceEqDiff]
    obtain ⟨rfl, rfl⟩ := h
    refine sat_ret (retN [] ?_)
    simp only [v1, v2, v3, v4, v5, v6, v7, v8, v9, tf1, tu, litOk, appOk, appS, growD, Nat.reduceEqDiff, Nat.reduceLT, Nat.reduceAdd, Nat.reduceLeDiff, Nat.reduceMul, Nat.reduceBEq, Nat.reduceSub, Int.reduceLE, Int.reduceToNat, Int.reduceLT, Int.reduceNeg, encSIDBalanceNonce, encSLIDAmountNonce, encSAccounts, encSKindIDAmount, vl, Try.results14, e_sp0, e_sp1, List.map_append, List.length_append, List.length_map, List.map_take, List.map_drop, List.length_drop, List.length_take, Nat.le_refl, true_and]
theorem moidorelaw44_awake_ok (r0 : Bool) (h : moidorelaw44_awake_Ret r0) : SoundH Try.prog 9 [] [] (.d (.bool r0)) [] := by
  refine sound_of Try.func9 rfl Try.ntmps9 (by simp) fun G0 w0 => ?_
  unfold moidorelaw44_awake_Ret at h
  refine sat_seq ?_
  refine sat_region fun K hK => ?_
  simp only [v1, v2, v3, v4, v5, v6, v7, v8, v9, tf1, tu, litOk, appOk, appS, growD, Nat.reduceEqDiff, Nat.reduceLT, Nat.reduceAdd, Nat.reduceLeDiff, Nat.reduceMul, Nat.reduceBEq, Nat.reduceSub, Int.reduceLE, Int.reduceToNat, Int.reduceLT, Int.reduceNeg, encSIDBalanceNonce, encSLIDAmountNonce, encSAccounts, encSKindIDAmount, List.map_append, List.length_append, List.length_map, List.map_take, List.map_drop, List.length_drop, List.length_take, Nat.le_refl, true_and]
  refine hK _ ?_
  clear hK K
  try simp only [s_thN, s_thE, s_thR, s_blN, s_blE, s_blM, s_blR, Nat.reduceEqDiff]
  refine sat_seq ?_
  obtain ⟨y1, y2, hr1, h⟩ := h
  refine sat_region fun K hK => ?_
  simp only [v1, v2, v3, v4, v5, v6, v7, v8, v9, tf1, tu, litOk, appOk, appS, growD, Nat.reduceEqDiff, Nat.reduceLT, Nat.reduceAdd, Nat.reduceLeDiff, Nat.reduceMul, Nat.reduceBEq, Nat.reduceSub, Int.reduceLE, Int.reduceToNat, Int.reduceLT, Int.reduceNeg, encSIDBalanceNonce, encSLIDAmountNonce, encSAccounts, encSKindIDAmount, List.map_append, List.length_append, List.length_map, List.map_take, List.map_drop, List.length_drop, List.length_take, Nat.le_refl, true_and]
  refine a_call [] (ledger_Credit_ok (SAccounts.mk ([] : List SIDBalanceNonce)) 5 10 y1 y2 hr1) bd11 (by simp only [v1, v2, v3, v4, v5, v6, v7, v8, v9, tf1, tu, litOk, appOk, appS, growD, Nat.reduceEqDiff, Nat.reduceLT, Nat.reduceAdd, Nat.reduceLeDiff, Nat.reduceMul, Nat.reduceBEq, Nat.reduceSub, Int.reduceLE, Int.reduceToNat, Int.reduceLT, Int.reduceNeg, encSIDBalanceNonce, encSLIDAmountNonce, encSAccounts, encSKindIDAmount, callOk, vl, List.map_append, List.length_append, List.length_map, List.map_take, List.map_drop, List.length_drop, List.length_take, Nat.le_refl, true_and]) ?_
  simp only [v1, v2, v3, v4, v5, v6, v7, v8, v9, tf1, tu, litOk, appOk, appS, growD, Nat.reduceEqDiff, Nat.reduceLT, Nat.reduceAdd, Nat.reduceLeDiff, Nat.reduceMul, Nat.reduceBEq, Nat.reduceSub, Int.reduceLE, Int.reduceToNat, Int.reduceLT, Int.reduceNeg, encSIDBalanceNonce, encSLIDAmountNonce, encSAccounts, encSKindIDAmount, List.map_append, List.length_append, List.length_map, List.map_take, List.map_drop, List.length_drop, List.length_take, Nat.le_refl, true_and]
  refine hK _ ?_
  clear hK K
  try simp only [s_thN, s_thE, s_thR, s_blN, s_blE, s_blM, s_blR, Nat.reduceEqDiff]
  refine sat_seq ?_
  obtain ⟨y3, y4, hr2, h⟩ := h
  refine sat_region fun K hK => ?_
  simp only [v1, v2, v3, v4, v5, v6, v7, v8, v9, tf1, tu, litOk, appOk, appS, growD, Nat.reduceEqDiff, Nat.reduceLT, Nat.reduceAdd, Nat.reduceLeDiff, Nat.reduceMul, Nat.reduceBEq, Nat.reduceSub, Int.reduceLE, Int.reduceToNat, Int.reduceLT, Int.reduceNeg, encSIDBalanceNonce, encSLIDAmountNonce, encSAccounts, encSKindIDAmount, List.map_append, List.length_append, List.length_map, List.map_take, List.map_drop, List.length_drop, List.length_take, Nat.le_refl, true_and]
  refine a_call [] (ledger_Debit_ok y1 5 10 0 y3 y4 hr2) bd18 (by simp only [v1, v2, v3, v4, v5, v6, v7, v8, v9, tf1, tu, litOk, appOk, appS, growD, Nat.reduceEqDiff, Nat.reduceLT, Nat.reduceAdd, Nat.reduceLeDiff, Nat.reduceMul, Nat.reduceBEq, Nat.reduceSub, Int.reduceLE, Int.reduceToNat, Int.reduceLT, Int.reduceNeg, encSIDBalanceNonce, encSLIDAmountNonce, encSAccounts, encSKindIDAmount, callOk, vl, List.map_append, List.length_append, List.length_map, List.map_take, List.map_drop, List.length_drop, List.length_take, Nat.le_refl, true_and]) ?_
  simp only [v1, v2, v3, v4, v5, v6, v7, v8, v9, tf1, tu, litOk, appOk, appS, growD, Nat.reduceEqDiff, Nat.reduceLT, Nat.reduceAdd, Nat.reduceLeDiff, Nat.reduceMul, Nat.reduceBEq, Nat.reduceSub, Int.reduceLE, Int.reduceToNat, Int.reduceLT, Int.reduceNeg, encSIDBalanceNonce, encSLIDAmountNonce, encSAccounts, encSKindIDAmount, List.map_append, List.length_append, List.length_map, List.map_take, List.map_drop, List.length_drop, List.length_take, Nat.le_refl, true_and]
  refine hK _ ?_
  clear hK K
  try simp only [s_thN, s_thE, s_thR, s_blN, s_blE, s_blM, s_blR, Nat.reduceEqDiff]
  refine sat_seq ?_
  obtain ⟨y5, y6, hr3, h⟩ := h
  refine sat_region fun K hK => ?_
  simp only [v1, v2, v3, v4, v5, v6, v7, v8, v9, tf1, tu, litOk, appOk, appS, growD, Nat.reduceEqDiff, Nat.reduceLT, Nat.reduceAdd, Nat.reduceLeDiff, Nat.reduceMul, Nat.reduceBEq, Nat.reduceSub, Int.reduceLE, Int.reduceToNat, Int.reduceLT, Int.reduceNeg, encSIDBalanceNonce, encSLIDAmountNonce, encSAccounts, encSKindIDAmount, List.map_append, List.length_append, List.length_map, List.map_take, List.map_drop, List.length_drop, List.length_take, Nat.le_refl, true_and]
  refine a_call [] (ledger_Debit_ok y3 5 10 0 y5 y6 hr3) bd18 (by simp only [v1, v2, v3, v4, v5, v6, v7, v8, v9, tf1, tu, litOk, appOk, appS, growD, Nat.reduceEqDiff, Nat.reduceLT, Nat.reduceAdd, Nat.reduceLeDiff, Nat.reduceMul, Nat.reduceBEq, Nat.reduceSub, Int.reduceLE, Int.reduceToNat, Int.reduceLT, Int.reduceNeg, encSIDBalanceNonce, encSLIDAmountNonce, encSAccounts, encSKindIDAmount, callOk, vl, List.map_append, List.length_append, List.length_map, List.map_take, List.map_drop, List.length_drop, List.length_take, Nat.le_refl, true_and]) ?_
  simp only [v1, v2, v3, v4, v5, v6, v7, v8, v9, tf1, tu, litOk, appOk, appS, growD, Nat.reduceEqDiff, Nat.reduceLT, Nat.reduceAdd, Nat.reduceLeDiff, Nat.reduceMul, Nat.reduceBEq, Nat.reduceSub, Int.reduceLE, Int.reduceToNat, Int.reduceLT, Int.reduceNeg, encSIDBalanceNonce, encSLIDAmountNonce, encSAccounts, encSKindIDAmount, List.map_append, List.length_append, List.length_map, List.map_take, List.map_drop, List.length_drop, List.length_take, Nat.le_refl, true_and]
  refine hK _ ?_
  clear hK K
  try simp only [s_thN, s_thE, s_thR, s_blN, s_blE, s_blM, s_blR, Nat.reduceEqDiff]
  refine sat_seq ?_
  obtain ⟨y7, y8, hr4, h⟩ := h
  refine sat_region fun K hK => ?_
  simp only [v1, v2, v3, v4, v5, v6, v7, v8, v9, tf1, tu, litOk, appOk, appS, growD, Nat.reduceEqDiff, Nat.reduceLT, Nat.reduceAdd, Nat.reduceLeDiff, Nat.reduceMul, Nat.reduceBEq, Nat.reduceSub, Int.reduceLE, Int.reduceToNat, Int.reduceLT, Int.reduceNeg, encSIDBalanceNonce, encSLIDAmountNonce, encSAccounts, encSKindIDAmount, List.map_append, List.length_append, List.length_map, List.map_take, List.map_drop, List.length_drop, List.length_take, Nat.le_refl, true_and]
  refine a_call [] (ledger_Undebit_ok y3 5 10 0 y7 y8 hr4) bd20 (by simp only [v1, v2, v3, v4, v5, v6, v7, v8, v9, tf1, tu, litOk, appOk, appS, growD, Nat.reduceEqDiff, Nat.reduceLT, Nat.reduceAdd, Nat.reduceLeDiff, Nat.reduceMul, Nat.reduceBEq, Nat.reduceSub, Int.reduceLE, Int.reduceToNat, Int.reduceLT, Int.reduceNeg, encSIDBalanceNonce, encSLIDAmountNonce, encSAccounts, encSKindIDAmount, callOk, vl, List.map_append, List.length_append, List.length_map, List.map_take, List.map_drop, List.length_drop, List.length_take, Nat.le_refl, true_and]) ?_
  simp only [v1, v2, v3, v4, v5, v6, v7, v8, v9, tf1, tu, litOk, appOk, appS, growD, Nat.reduceEqDiff, Nat.reduceLT, Nat.reduceAdd, Nat.reduceLeDiff, Nat.reduceMul, Nat.reduceBEq, Nat.reduceSub, Int.reduceLE, Int.reduceToNat, Int.reduceLT, Int.reduceNeg, encSIDBalanceNonce, encSLIDAmountNonce, encSAccounts, encSKindIDAmount, List.map_append, List.length_append, List.length_map, List.map_take, List.map_drop, List.length_drop, List.length_take, Nat.le_refl, true_and]
  refine hK _ ?_
  clear hK K
  try simp only [s_thN, s_thE, s_thR, s_blN, s_blE, s_blM, s_blR, Nat.reduceEqDiff]
  refine sat_seq ?_
  obtain ⟨y9, y10, hr5, h⟩ := h
  refine sat_region fun K hK => ?_
  simp only [v1, v2, v3, v4, v5, v6, v7, v8, v9, tf1, tu, litOk, appOk, appS, growD, Nat.reduceEqDiff, Nat.reduceLT, Nat.reduceAdd, Nat.reduceLeDiff, Nat.reduceMul, Nat.reduceBEq, Nat.reduceSub, Int.reduceLE, Int.reduceToNat, Int.reduceLT, Int.reduceNeg, encSIDBalanceNonce, encSLIDAmountNonce, encSAccounts, encSKindIDAmount, List.map_append, List.length_append, List.length_map, List.map_take, List.map_drop, List.length_drop, List.length_take, Nat.le_refl, true_and]
  refine a_call [] (ledger_Uncredit_ok y7 5 10 y9 y10 hr5) bd14 (by simp only [v1, v2, v3, v4, v5, v6, v7, v8, v9, tf1, tu, litOk, appOk, appS, growD, Nat.reduceEqDiff, Nat.reduceLT, Nat.reduceAdd, Nat.reduceLeDiff, Nat.reduceMul, Nat.reduceBEq, Nat.reduceSub, Int.reduceLE, Int.reduceToNat, Int.reduceLT, Int.reduceNeg, encSIDBalanceNonce, encSLIDAmountNonce, encSAccounts, encSKindIDAmount, callOk, vl, List.map_append, List.length_append, List.length_map, List.map_take, List.map_drop, List.length_drop, List.length_take, Nat.le_refl, true_and]) ?_
  simp only [v1, v2, v3, v4, v5, v6, v7, v8, v9, tf1, tu, litOk, appOk, appS, growD, Nat.reduceEqDiff, Nat.reduceLT, Nat.reduceAdd, Nat.reduceLeDiff, Nat.reduceMul, Nat.reduceBEq, Nat.reduceSub, Int.reduceLE, Int.reduceToNat, Int.reduceLT, Int.reduceNeg, encSIDBalanceNonce, encSLIDAmountNonce, encSAccounts, encSKindIDAmount, List.map_append, List.length_append, List.length_map, List.map_take, List.map_drop, List.length_drop, List.length_take, Nat.le_refl, true_and]
  refine hK _ ?_
  clear hK K
  try simp only [s_thN, s_thE, s_thR, s_blN, s_blE, s_blM, s_blR, Nat.reduceEqDiff]
  refine sat_seq ?_
  obtain ⟨y11, y12, hr6, h⟩ := h
  refine sat_region fun K hK => ?_
  simp only [v1, v2, v3, v4, v5, v6, v7, v8, v9, tf1, tu, litOk, appOk, appS, growD, Nat.reduceEqDiff, Nat.reduceLT, Nat.reduceAdd, Nat.reduceLeDiff, Nat.reduceMul, Nat.reduceBEq, Nat.reduceSub, Int.reduceLE, Int.reduceToNat, Int.reduceLT, Int.reduceNeg, encSIDBalanceNonce, encSLIDAmountNonce, encSAccounts, encSKindIDAmount, List.map_append, List.length_append, List.length_map, List.map_take, List.map_drop, List.length_drop, List.length_take, Nat.le_refl, true_and]
  refine a_call [] (ledger_Get_ok y3 5 y11 y12 hr6) bd25 (by simp only [v1, v2, v3, v4, v5, v6, v7, v8, v9, tf1, tu, litOk, appOk, appS, growD, Nat.reduceEqDiff, Nat.reduceLT, Nat.reduceAdd, Nat.reduceLeDiff, Nat.reduceMul, Nat.reduceBEq, Nat.reduceSub, Int.reduceLE, Int.reduceToNat, Int.reduceLT, Int.reduceNeg, encSIDBalanceNonce, encSLIDAmountNonce, encSAccounts, encSKindIDAmount, callOk, vl, List.map_append, List.length_append, List.length_map, List.map_take, List.map_drop, List.length_drop, List.length_take, Nat.le_refl, true_and]) ?_
  simp only [v1, v2, v3, v4, v5, v6, v7, v8, v9, tf1, tu, litOk, appOk, appS, growD, Nat.reduceEqDiff, Nat.reduceLT, Nat.reduceAdd, Nat.reduceLeDiff, Nat.reduceMul, Nat.reduceBEq, Nat.reduceSub, Int.reduceLE, Int.reduceToNat, Int.reduceLT, Int.reduceNeg, encSIDBalanceNonce, encSLIDAmountNonce, encSAccounts, encSKindIDAmount, List.map_append, List.length_append, List.length_map, List.map_take, List.map_drop, List.length_drop, List.length_take, Nat.le_refl, true_and]
  refine hK _ ?_
  clear hK K
  try simp only [s_thN, s_thE, s_thR, s_blN, s_blE, s_blM, s_blR, Nat.reduceEqDiff]
  refine sat_join (ι := Bool) (fun x => ⟨[(0, .d (.bool x))], [], 5⟩) (fun x => moidorelaw44_awake_J1 r0 x) ?_ ?_
  · refine sat_region fun K hK => ?_
    simp only [v1, v2, v3, v4, v5, v6, v7, v8, v9, tf1, tu, litOk, appOk, appS, growD, Nat.reduceEqDiff, Nat.reduceLT, Nat.reduceAdd, Nat.reduceLeDiff, Nat.reduceMul, Nat.reduceBEq, Nat.reduceSub, Int.reduceLE, Int.reduceToNat, Int.reduceLT, Int.reduceNeg, encSIDBalanceNonce, encSLIDAmountNonce, encSAccounts, encSKindIDAmount, List.map_append, List.length_append, List.length_map, List.map_take, List.map_drop, List.length_drop, List.length_take, Nat.le_refl, true_and]
    refine A_guard_split (by simp only [v1, v2, v3, v4, v5, v6, v7, v8, v9, tf1, tu, litOk, appOk, appS, growD, Nat.reduceEqDiff, Nat.reduceLT, Nat.reduceAdd, Nat.reduceLeDiff, Nat.reduceMul, Nat.reduceBEq, Nat.reduceSub, Int.reduceLE, Int.reduceToNat, Int.reduceLT, Int.reduceNeg, encSIDBalanceNonce, encSLIDAmountNonce, encSAccounts, encSKindIDAmount]; rfl) (fun hg1 => ?_) (fun hg1 => ?_)
    · simp only [v1, v2, v3, v4, v5, v6, v7, v8, v9, tf1, tu, litOk, appOk, appS, growD, Nat.reduceEqDiff, Nat.reduceLT, Nat.reduceAdd, Nat.reduceLeDiff, Nat.reduceMul, Nat.reduceBEq, Nat.reduceSub, Int.reduceLE, Int.reduceToNat, Int.reduceLT, Int.reduceNeg, encSIDBalanceNonce, encSLIDAmountNonce, encSAccounts, encSKindIDAmount, hg1, List.map_append, List.length_append, List.length_map, List.map_take, List.map_drop, List.length_drop, List.length_take, Nat.le_refl, true_and]
      refine A_guard_split (by simp only [v1, v2, v3, v4, v5, v6, v7, v8, v9, tf1, tu, litOk, appOk, appS, growD, Nat.reduceEqDiff, Nat.reduceLT, Nat.reduceAdd, Nat.reduceLeDiff, Nat.reduceMul, Nat.reduceBEq, Nat.reduceSub, Int.reduceLE, Int.reduceToNat, Int.reduceLT, Int.reduceNeg, encSIDBalanceNonce, encSLIDAmountNonce, encSAccounts, encSKindIDAmount, hg1]; rfl) (fun hg2 => ?_) (fun hg2 => ?_)
      · simp only [v1, v2, v3, v4, v5, v6, v7, v8, v9, tf1, tu, litOk, appOk, appS, growD, Nat.reduceEqDiff, Nat.reduceLT, Nat.reduceAdd, Nat.reduceLeDiff, Nat.reduceMul, Nat.reduceBEq, Nat.reduceSub, Int.reduceLE, Int.reduceToNat, Int.reduceLT, Int.reduceNeg, encSIDBalanceNonce, encSLIDAmountNonce, encSAccounts, encSKindIDAmount, hg1, hg2, List.map_append, List.length_append, List.length_map, List.map_take, List.map_drop, List.length_drop, List.length_take, Nat.le_refl, true_and]
        refine A_guard_split (by simp only [v1, v2, v3, v4, v5, v6, v7, v8, v9, tf1, tu, litOk, appOk, appS, growD, Nat.reduceEqDiff, Nat.reduceLT, Nat.reduceAdd, Nat.reduceLeDiff, Nat.reduceMul, Nat.reduceBEq, Nat.reduceSub, Int.reduceLE, Int.reduceToNat, Int.reduceLT, Int.reduceNeg, encSIDBalanceNonce, encSLIDAmountNonce, encSAccounts, encSKindIDAmount, hg1, hg2]; rfl) (fun hg3 => ?_) (fun hg3 => ?_)
        · simp only [v1, v2, v3, v4, v5, v6, v7, v8, v9, tf1, tu, litOk, appOk, appS, growD, Nat.reduceEqDiff, Nat.reduceLT, Nat.reduceAdd, Nat.reduceLeDiff, Nat.reduceMul, Nat.reduceBEq, Nat.reduceSub, Int.reduceLE, Int.reduceToNat, Int.reduceLT, Int.reduceNeg, encSIDBalanceNonce, encSLIDAmountNonce, encSAccounts, encSKindIDAmount, hg1, hg2, hg3, List.map_append, List.length_append, List.length_map, List.map_take, List.map_drop, List.length_drop, List.length_take, Nat.le_refl, true_and]
          refine A_guard_split (by simp only [v1, v2, v3, v4, v5, v6, v7, v8, v9, tf1, tu, litOk, appOk, appS, growD, Nat.reduceEqDiff, Nat.reduceLT, Nat.reduceAdd, Nat.reduceLeDiff, Nat.reduceMul, Nat.reduceBEq, Nat.reduceSub, Int.reduceLE, Int.reduceToNat, Int.reduceLT, Int.reduceNeg, encSIDBalanceNonce, encSLIDAmountNonce, encSAccounts, encSKindIDAmount, hg1, hg2, hg3]; rfl) (fun hg4 => ?_) (fun hg4 => ?_)
          · simp only [v1, v2, v3, v4, v5, v6, v7, v8, v9, tf1, tu, litOk, appOk, appS, growD, Nat.reduceEqDiff, Nat.reduceLT, Nat.reduceAdd, Nat.reduceLeDiff, Nat.reduceMul, Nat.reduceBEq, Nat.reduceSub, Int.reduceLE, Int.reduceToNat, Int.reduceLT, Int.reduceNeg, encSIDBalanceNonce, encSLIDAmountNonce, encSAccounts, encSKindIDAmount, hg1, hg2, hg3, hg4, List.map_append, List.length_append, List.length_map, List.map_take, List.map_drop, List.length_drop, List.length_take, Nat.le_refl, true_and]
            refine A_guard_split (by simp only [v1, v2, v3, v4, v5, v6, v7, v8, v9, tf1, tu, litOk, appOk, appS, growD, Nat.reduceEqDiff, Nat.reduceLT, Nat.reduceAdd, Nat.reduceLeDiff, Nat.reduceMul, Nat.reduceBEq, Nat.reduceSub, Int.reduceLE, Int.reduceToNat, Int.reduceLT, Int.reduceNeg, encSIDBalanceNonce, encSLIDAmountNonce, encSAccounts, encSKindIDAmount, hg1, hg2, hg3, hg4]; rfl) (fun hg5 => ?_) (fun hg5 => ?_)
            · simp only [v1, v2, v3, v4, v5, v6, v7, v8, v9, tf1, tu, litOk, appOk, appS, growD, Nat.reduceEqDiff, Nat.reduceLT, Nat.reduceAdd, Nat.reduceLeDiff, Nat.reduceMul, Nat.reduceBEq, Nat.reduceSub, Int.reduceLE, Int.reduceToNat, Int.reduceLT, Int.reduceNeg, encSIDBalanceNonce, encSLIDAmountNonce, encSAccounts, encSKindIDAmount, hg1, hg2, hg3, hg4, hg5, List.map_append, List.length_append, List.length_map, List.map_take, List.map_drop, List.length_drop, List.length_take, Nat.le_refl, true_and]
              refine A_guard_split (by simp only [v1, v2, v3, v4, v5, v6, v7, v8, v9, tf1, tu, litOk, appOk, appS, growD, Nat.reduceEqDiff, Nat.reduceLT, Nat.reduceAdd, Nat.reduceLeDiff, Nat.reduceMul, Nat.reduceBEq, Nat.reduceSub, Int.reduceLE, Int.reduceToNat, Int.reduceLT, Int.reduceNeg, encSIDBalanceNonce, encSLIDAmountNonce, encSAccounts, encSKindIDAmount, hg1, hg2, hg3, hg4, hg5]; rfl) (fun hg6 => ?_) (fun hg6 => ?_)
              · simp only [v1, v2, v3, v4, v5, v6, v7, v8, v9, tf1, tu, litOk, appOk, appS, growD, Nat.reduceEqDiff, Nat.reduceLT, Nat.reduceAdd, Nat.reduceLeDiff, Nat.reduceMul, Nat.reduceBEq, Nat.reduceSub, Int.reduceLE, Int.reduceToNat, Int.reduceLT, Int.reduceNeg, encSIDBalanceNonce, encSLIDAmountNonce, encSAccounts, encSKindIDAmount, hg1, hg2, hg3, hg4, hg5, hg6, List.map_append, List.length_append, List.length_map, List.map_take, List.map_drop, List.length_drop, List.length_take, Nat.le_refl, true_and]
                refine A_guard_split (by simp only [v1, v2, v3, v4, v5, v6, v7, v8, v9, tf1, tu, litOk, appOk, appS, growD, Nat.reduceEqDiff, Nat.reduceLT, Nat.reduceAdd, Nat.reduceLeDiff, Nat.reduceMul, Nat.reduceBEq, Nat.reduceSub, Int.reduceLE, Int.reduceToNat, Int.reduceLT, Int.reduceNeg, encSIDBalanceNonce, encSLIDAmountNonce, encSAccounts, encSKindIDAmount, hg1, hg2, hg3, hg4, hg5, hg6]; rfl) (fun hg7 => ?_) (fun hg7 => ?_)
                · simp only [v1, v2, v3, v4, v5, v6, v7, v8, v9, tf1, tu, litOk, appOk, appS, growD, Nat.reduceEqDiff, Nat.reduceLT, Nat.reduceAdd, Nat.reduceLeDiff, Nat.reduceMul, Nat.reduceBEq, Nat.reduceSub, Int.reduceLE, Int.reduceToNat, Int.reduceLT, Int.reduceNeg, encSIDBalanceNonce, encSLIDAmountNonce, encSAccounts, encSKindIDAmount, hg1, hg2, hg3, hg4, hg5, hg6, hg7, List.map_append, List.length_append, List.length_map, List.map_take, List.map_drop, List.length_drop, List.length_take, Nat.le_refl, true_and]
                  refine hK _ ?_
                  clear hK K
                  try simp only [s_thN, s_thE, s_thR, s_blN, s_blE, s_blM, s_blR, Nat.reduceEqDiff]
                  exact ⟨(((((((y2 == 0) && (y4 == 0)) && (y6 == 20)) && (y8 == 0)) && (y10 == 0)) && (y11 == 0)) && (y12 == 1)) && (((List.length y9.Accounts : Nat) : Int) == 0), h, by simp only [v1, v2, v3, v4, v5, v6, v7, v8, v9, tf1, tu, litOk, appOk, appS, growD, Nat.reduceEqDiff, Nat.reduceLT, Nat.reduceAdd, Nat.reduceLeDiff, Nat.reduceMul, Nat.reduceBEq, Nat.reduceSub, Int.reduceLE, Int.reduceToNat, Int.reduceLT, Int.reduceNeg, encSIDBalanceNonce, encSLIDAmountNonce, encSAccounts, encSKindIDAmount, vl, hg1, hg2, hg3, hg4, hg5, hg6, hg7, List.map_append, List.length_append, List.length_map, List.map_take, List.map_drop, List.length_drop, List.length_take, Nat.le_refl, true_and]⟩
                · simp only [v1, v2, v3, v4, v5, v6, v7, v8, v9, tf1, tu, litOk, appOk, appS, growD, Nat.reduceEqDiff, Nat.reduceLT, Nat.reduceAdd, Nat.reduceLeDiff, Nat.reduceMul, Nat.reduceBEq, Nat.reduceSub, Int.reduceLE, Int.reduceToNat, Int.reduceLT, Int.reduceNeg, encSIDBalanceNonce, encSLIDAmountNonce, encSAccounts, encSKindIDAmount, hg1, hg2, hg3, hg4, hg5, hg6, hg7, List.map_append, List.length_append, List.length_map, List.map_take, List.map_drop, List.length_drop, List.length_take, Nat.le_refl, true_and]
                  refine hK _ ?_
                  clear hK K
                  try simp only [s_thN, s_thE, s_thR, s_blN, s_blE, s_blM, s_blR, Nat.reduceEqDiff]
                  exact ⟨(((((((y2 == 0) && (y4 == 0)) && (y6 == 20)) && (y8 == 0)) && (y10 == 0)) && (y11 == 0)) && (y12 == 1)) && (((List.length y9.Accounts : Nat) : Int) == 0), h, by simp only [v1, v2, v3, v4, v5, v6, v7, v8, v9, tf1, tu, litOk, appOk, appS, growD, Nat.reduceEqDiff, Nat.reduceLT, Nat.reduceAdd, Nat.reduceLeDiff, Nat.reduceMul, Nat.reduceBEq, Nat.reduceSub, Int.reduceLE, Int.reduceToNat, Int.reduceLT, Int.reduceNeg, encSIDBalanceNonce, encSLIDAmountNonce, encSAccounts, encSKindIDAmount, vl, hg1, hg2, hg3, hg4, hg5, hg6, hg7, List.map_append, List.length_append, List.length_map, List.map_take, List.map_drop, List.length_drop, List.length_take, Nat.le_refl, true_and]⟩
              · simp only [v1, v2, v3, v4, v5, v6, v7, v8, v9, tf1, tu, litOk, appOk, appS, growD, Nat.reduceEqDiff, Nat.reduceLT, Nat.reduceAdd, Nat.reduceLeDiff, Nat.reduceMul, Nat.reduceBEq, Nat.reduceSub, Int.reduceLE, Int.reduceToNat, Int.reduceLT, Int.reduceNeg, encSIDBalanceNonce, encSLIDAmountNonce, encSAccounts, encSKindIDAmount, hg1, hg2, hg3, hg4, hg5, hg6, List.map_append, List.length_append, List.length_map, List.map_take, List.map_drop, List.length_drop, List.length_take, Nat.le_refl, true_and]
                refine hK _ ?_
                clear hK K
                try simp only [s_thN, s_thE, s_thR, s_blN, s_blE, s_blM, s_blR, Nat.reduceEqDiff]
                exact ⟨(((((((y2 == 0) && (y4 == 0)) && (y6 == 20)) && (y8 == 0)) && (y10 == 0)) && (y11 == 0)) && (y12 == 1)) && (((List.length y9.Accounts : Nat) : Int) == 0), h, by simp only [v1, v2, v3, v4, v5, v6, v7, v8, v9, tf1, tu, litOk, appOk, appS, growD, Nat.reduceEqDiff, Nat.reduceLT, Nat.reduceAdd, Nat.reduceLeDiff, Nat.reduceMul, Nat.reduceBEq, Nat.reduceSub, Int.reduceLE, Int.reduceToNat, Int.reduceLT, Int.reduceNeg, encSIDBalanceNonce, encSLIDAmountNonce, encSAccounts, encSKindIDAmount, vl, hg1, hg2, hg3, hg4, hg5, hg6, List.map_append, List.length_append, List.length_map, List.map_take, List.map_drop, List.length_drop, List.length_take, Nat.le_refl, true_and]⟩
            · simp only [v1, v2, v3, v4, v5, v6, v7, v8, v9, tf1, tu, litOk, appOk, appS, growD, Nat.reduceEqDiff, Nat.reduceLT, Nat.reduceAdd, Nat.reduceLeDiff, Nat.reduceMul, Nat.reduceBEq, Nat.reduceSub, Int.reduceLE, Int.reduceToNat, Int.reduceLT, Int.reduceNeg, encSIDBalanceNonce, encSLIDAmountNonce, encSAccounts, encSKindIDAmount, hg1, hg2, hg3, hg4, hg5, List.map_append, List.length_append, List.length_map, List.map_take, List.map_drop, List.length_drop, List.length_take, Nat.le_refl, true_and]
              refine hK _ ?_
              clear hK K
              try simp only [s_thN, s_thE, s_thR, s_blN, s_blE, s_blM, s_blR, Nat.reduceEqDiff]
              exact ⟨(((((((y2 == 0) && (y4 == 0)) && (y6 == 20)) && (y8 == 0)) && (y10 == 0)) && (y11 == 0)) && (y12 == 1)) && (((List.length y9.Accounts : Nat) : Int) == 0), h, by simp only [v1, v2, v3, v4, v5, v6, v7, v8, v9, tf1, tu, litOk, appOk, appS, growD, Nat.reduceEqDiff, Nat.reduceLT, Nat.reduceAdd, Nat.reduceLeDiff, Nat.reduceMul, Nat.reduceBEq, Nat.reduceSub, Int.reduceLE, Int.reduceToNat, Int.reduceLT, Int.reduceNeg, encSIDBalanceNonce, encSLIDAmountNonce, encSAccounts, encSKindIDAmount, vl, hg1, hg2, hg3, hg4, hg5, List.map_append, List.length_append, List.length_map, List.map_take, List.map_drop, List.length_drop, List.length_take, Nat.le_refl, true_and]⟩
          · simp only [v1, v2, v3, v4, v5, v6, v7, v8, v9, tf1, tu, litOk, appOk, appS, growD, Nat.reduceEqDiff, Nat.reduceLT, Nat.reduceAdd, Nat.reduceLeDiff, Nat.reduceMul, Nat.reduceBEq, Nat.reduceSub, Int.reduceLE, Int.reduceToNat, Int.reduceLT, Int.reduceNeg, encSIDBalanceNonce, encSLIDAmountNonce, encSAccounts, encSKindIDAmount, hg1, hg2, hg3, hg4, List.map_append, List.length_append, List.length_map, List.map_take, List.map_drop, List.length_drop, List.length_take, Nat.le_refl, true_and]
            refine hK _ ?_
            clear hK K
            try simp only [s_thN, s_thE, s_thR, s_blN, s_blE, s_blM, s_blR, Nat.reduceEqDiff]
            exact ⟨(((((((y2 == 0) && (y4 == 0)) && (y6 == 20)) && (y8 == 0)) && (y10 == 0)) && (y11 == 0)) && (y12 == 1)) && (((List.length y9.Accounts : Nat) : Int) == 0), h, by simp only [v1, v2, v3, v4, v5, v6, v7, v8, v9, tf1, tu, litOk, appOk, appS, growD, Nat.reduceEqDiff, Nat.reduceLT, Nat.reduceAdd, Nat.reduceLeDiff, Nat.reduceMul, Nat.reduceBEq, Nat.reduceSub, Int.reduceLE, Int.reduceToNat, Int.reduceLT, Int.reduceNeg, encSIDBalanceNonce, encSLIDAmountNonce, encSAccounts, encSKindIDAmount, vl, hg1, hg2, hg3, hg4, List.map_append, List.length_append, List.length_map, List.map_take, List.map_drop, List.length_drop, List.length_take, Nat.le_refl, true_and]⟩
        · simp only [v1, v2, v3, v4, v5, v6, v7, v8, v9, tf1, tu, litOk, appOk, appS, growD, Nat.reduceEqDiff, Nat.reduceLT, Nat.reduceAdd, Nat.reduceLeDiff, Nat.reduceMul, Nat.reduceBEq, Nat.reduceSub, Int.reduceLE, Int.reduceToNat, Int.reduceLT, Int.reduceNeg, encSIDBalanceNonce, encSLIDAmountNonce, encSAccounts, encSKindIDAmount, hg1, hg2, hg3, List.map_append, List.length_append, List.length_map, List.map_take, List.map_drop, List.length_drop, List.length_take, Nat.le_refl, true_and]
          refine hK _ ?_
          clear hK K
          try simp only [s_thN, s_thE, s_thR, s_blN, s_blE, s_blM, s_blR, Nat.reduceEqDiff]
          exact ⟨(((((((y2 == 0) && (y4 == 0)) && (y6 == 20)) && (y8 == 0)) && (y10 == 0)) && (y11 == 0)) && (y12 == 1)) && (((List.length y9.Accounts : Nat) : Int) == 0), h, by simp only [v1, v2, v3, v4, v5, v6, v7, v8, v9, tf1, tu, litOk, appOk, appS, growD, Nat.reduceEqDiff, Nat.reduceLT, Nat.reduceAdd, Nat.reduceLeDiff, Nat.reduceMul, Nat.reduceBEq, Nat.reduceSub, Int.reduceLE, Int.reduceToNat, Int.reduceLT, Int.reduceNeg, encSIDBalanceNonce, encSLIDAmountNonce, encSAccounts, encSKindIDAmount, vl, hg1, hg2, hg3, List.map_append, List.length_append, List.length_map, List.map_take, List.map_drop, List.length_drop, List.length_take, Nat.le_refl, true_and]⟩
      · simp only [v1, v2, v3, v4, v5, v6, v7, v8, v9, tf1, tu, litOk, appOk, appS, growD, Nat.reduceEqDiff, Nat.reduceLT, Nat.reduceAdd, Nat.reduceLeDiff, Nat.reduceMul, Nat.reduceBEq, Nat.reduceSub, Int.reduceLE, Int.reduceToNat, Int.reduceLT, Int.reduceNeg, encSIDBalanceNonce, encSLIDAmountNonce, encSAccounts, encSKindIDAmount, hg1, hg2, List.map_append, List.length_append, List.length_map, List.map_take, List.map_drop, List.length_drop, List.length_take, Nat.le_refl, true_and]
        refine hK _ ?_
        clear hK K
        try simp only [s_thN, s_thE, s_thR, s_blN, s_blE, s_blM, s_blR, Nat.reduceEqDiff]
        exact ⟨(((((((y2 == 0) && (y4 == 0)) && (y6 == 20)) && (y8 == 0)) && (y10 == 0)) && (y11 == 0)) && (y12 == 1)) && (((List.length y9.Accounts : Nat) : Int) == 0), h, by simp only [v1, v2, v3, v4, v5, v6, v7, v8, v9, tf1, tu, litOk, appOk, appS, growD, Nat.reduceEqDiff, Nat.reduceLT, Nat.reduceAdd, Nat.reduceLeDiff, Nat.reduceMul, Nat.reduceBEq, Nat.reduceSub, Int.reduceLE, Int.reduceToNat, Int.reduceLT, Int.reduceNeg, encSIDBalanceNonce, encSLIDAmountNonce, encSAccounts, encSKindIDAmount, vl, hg1, hg2, List.map_append, List.length_append, List.length_map, List.map_take, List.map_drop, List.length_drop, List.length_take, Nat.le_refl, true_and]⟩
    · simp only [v1, v2, v3, v4, v5, v6, v7, v8, v9, tf1, tu, litOk, appOk, appS, growD, Nat.reduceEqDiff, Nat.reduceLT, Nat.reduceAdd, Nat.reduceLeDiff, Nat.reduceMul, Nat.reduceBEq, Nat.reduceSub, Int.reduceLE, Int.reduceToNat, Int.reduceLT, Int.reduceNeg, encSIDBalanceNonce, encSLIDAmountNonce, encSAccounts, encSKindIDAmount, hg1, List.map_append, List.length_append, List.length_map, List.map_take, List.map_drop, List.length_drop, List.length_take, Nat.le_refl, true_and]
      refine hK _ ?_
      clear hK K
      try simp only [s_thN, s_thE, s_thR, s_blN, s_blE, s_blM, s_blR, Nat.reduceEqDiff]
      exact ⟨(((((((y2 == 0) && (y4 == 0)) && (y6 == 20)) && (y8 == 0)) && (y10 == 0)) && (y11 == 0)) && (y12 == 1)) && (((List.length y9.Accounts : Nat) : Int) == 0), h, by simp only [v1, v2, v3, v4, v5, v6, v7, v8, v9, tf1, tu, litOk, appOk, appS, growD, Nat.reduceEqDiff, Nat.reduceLT, Nat.reduceAdd, Nat.reduceLeDiff, Nat.reduceMul, Nat.reduceBEq, Nat.reduceSub, Int.reduceLE, Int.reduceToNat, Int.reduceLT, Int.reduceNeg, encSIDBalanceNonce, encSLIDAmountNonce, encSAccounts, encSKindIDAmount, vl, hg1, List.map_append, List.length_append, List.length_map, List.map_take, List.map_drop, List.length_drop, List.length_take, Nat.le_refl, true_and]⟩
  · intro b1 h
    have h : moidorelaw44_awake_J1 r0 b1 := h
    show Sat _ _ _ _ _ _ ⟨[(0, .d (.bool b1))], [], 5⟩ _
    unfold moidorelaw44_awake_J1 at h
    subst h
    refine sat_ret (retN [] ?_)
    simp only [v1, v2, v3, v4, v5, v6, v7, v8, v9, tf1, tu, litOk, appOk, appS, growD, Nat.reduceEqDiff, Nat.reduceLT, Nat.reduceAdd, Nat.reduceLeDiff, Nat.reduceMul, Nat.reduceBEq, Nat.reduceSub, Int.reduceLE, Int.reduceToNat, Int.reduceLT, Int.reduceNeg, encSIDBalanceNonce, encSLIDAmountNonce, encSAccounts, encSKindIDAmount, vl, Try.results9, e_sp0, e_sp1, List.map_append, List.length_append, List.length_map, List.map_take, List.map_drop, List.length_drop, List.length_take, Nat.le_refl, true_and]
theorem moidoreref44_Valid_ok (p0 : List SIDBalanceNonce) (r0 : Bool) (h : moidoreref44_Valid_Ret p0 r0) : SoundH Try.prog 23 [.d (.slice 3 (List.map encSIDBalanceNonce p0))] [] (.d (.bool r0)) [] := by
  refine sound_of Try.func23 rfl Try.ntmps23 (by simp) fun G0 w0 => ?_
  unfold moidoreref44_Valid_Ret at h
  refine sat_seq ?_
  refine sat_region fun K hK => ?_
  simp only [v1, v2, v3, v4, v5, v6, v7, v8, v9, tf1, tu, litOk, appOk, appS, growD, Nat.reduceEqDiff, Nat.reduceLT, Nat.reduceAdd, Nat.reduceLeDiff, Nat.reduceMul, Nat.reduceBEq, Nat.reduceSub, Int.reduceLE, Int.reduceToNat, Int.reduceLT, Int.reduceNeg, encSIDBalanceNonce, encSLIDAmountNonce, encSAccounts, encSKindIDAmount, List.map_append, List.length_append, List.length_map, List.map_take, List.map_drop, List.length_drop, List.length_take, Nat.le_refl, true_and]
  refine hK _ ?_
  clear hK K
  try simp only [s_thN, s_thE, s_thR, s_blN, s_blE, s_blM, s_blR, Nat.reduceEqDiff]
  refine sat_seq ?_
  refine sat_seq ?_
  refine sat_region fun K hK => ?_
  simp only [v1, v2, v3, v4, v5, v6, v7, v8, v9, tf1, tu, litOk, appOk, appS, growD, Nat.reduceEqDiff, Nat.reduceLT, Nat.reduceAdd, Nat.reduceLeDiff, Nat.reduceMul, Nat.reduceBEq, Nat.reduceSub, Int.reduceLE, Int.reduceToNat, Int.reduceLT, Int.reduceNeg, encSIDBalanceNonce, encSLIDAmountNonce, encSAccounts, encSKindIDAmount, List.map_append, List.length_append, List.length_map, List.map_take, List.map_drop, List.length_drop, List.length_take, Nat.le_refl, true_and]
  refine hK _ ?_
  clear hK K
  try simp only [s_thN, s_thE, s_thR, s_blN, s_blE, s_blM, s_blR, Nat.reduceEqDiff]
  refine sat_block ?_
  obtain ⟨inv, μ, h0, hs⟩ := h
  refine sat_loop (ι := Int) (fun x => ⟨[(0, .d (.slice 3 (List.map encSIDBalanceNonce p0))), (3, .d (.int .i64 x))], [], 0⟩) inv μ 0 h0 (by simp only [v1, v2, v3, v4, v5, v6, v7, v8, v9, tf1, tu, litOk, appOk, appS, growD, Nat.reduceEqDiff, Nat.reduceLT, Nat.reduceAdd, Nat.reduceLeDiff, Nat.reduceMul, Nat.reduceBEq, Nat.reduceSub, Int.reduceLE, Int.reduceToNat, Int.reduceLT, Int.reduceNeg, encSIDBalanceNonce, encSLIDAmountNonce, encSAccounts, encSKindIDAmount, vl, List.map_append, List.length_append, List.length_map, List.map_take, List.map_drop, List.length_drop, List.length_take, Nat.le_refl, true_and]) ?_
  intro j2 hi
  have h : moidoreref44_Valid_L2 p0 r0 _ j2 := hs _ hi
  clear hs h0 hi
  generalize hnx : (fun s => inv s ∧ μ s < μ j2) = nx1 at h
  show Sat _ _ _ _ _ _ ⟨[(0, .d (.slice 3 (List.map encSIDBalanceNonce p0))), (3, .d (.int .i64 j2))], [], 0⟩ _
  unfold moidoreref44_Valid_L2 at h
  refine sat_seq ?_
  refine sat_seq ?_
  refine sat_region fun K hK => ?_
  simp only [v1, v2, v3, v4, v5, v6, v7, v8, v9, tf1, tu, litOk, appOk, appS, growD, Nat.reduceEqDiff, Nat.reduceLT, Nat.reduceAdd, Nat.reduceLeDiff, Nat.reduceMul, Nat.reduceBEq, Nat.reduceSub, Int.reduceLE, Int.reduceToNat, Int.reduceLT, Int.reduceNeg, encSIDBalanceNonce, encSLIDAmountNonce, encSAccounts, encSKindIDAmount, List.map_append, List.length_append, List.length_map, List.map_take, List.map_drop, List.length_drop, List.length_take, Nat.le_refl, true_and]
  refine hK _ ?_
  clear hK K
  try simp only [s_thN, s_thE, s_thR, s_blN, s_blE, s_blM, s_blR, Nat.reduceEqDiff]
  refine sat_cond rfl (fun hb1 => ?_) (fun hb1 => ?_)
  · replace h := h.1 hb1
    refine sat_skip ?_
    try simp only [s_thN, s_thE, s_thR, s_blN, s_blE, s_blM, s_blR, Nat.reduceEqDiff]
    refine sat_seq ?_
    refine sat_block ?_
    refine sat_join (ι := Bool) (fun x => ⟨[(0, .d (.slice 3 (List.map encSIDBalanceNonce p0))), (3, .d (.int .i64 j2)), (57, .d (.bool x))], [], 0⟩) (fun x => moidoreref44_Valid_J1 r0 nx1 j2 x) ?_ ?_
    · obtain ⟨c1, c2, c3, c4, c5, c6, c7, c8, c9, c10, c11, c12, h⟩ := h
      refine sat_drawn 1 mix (by kernel_rfl) fun K hK => ?_
      simp only [v1, v2, v3, v4, v5, v6, v7, v8, v9, tf1, tu, litOk, appOk, appS, growD, Nat.reduceEqDiff, Nat.reduceLT, Nat.reduceAdd, Nat.reduceLeDiff, Nat.reduceMul, Nat.reduceBEq, Nat.reduceSub, Int.reduceLE, Int.reduceToNat, Int.reduceLT, Int.reduceNeg, encSIDBalanceNonce, encSLIDAmountNonce, encSAccounts, encSKindIDAmount, c1, c2, elt_ix encSIDBalanceNonce p0 j2 c1 c2, List.map_append, List.length_append, List.length_map, List.map_take, List.map_drop, List.length_drop, List.length_take, Nat.le_refl, true_and]
      refine D_guard_split (by simp only [v1, v2, v3, v4, v5, v6, v7, v8, v9, tf1, tu, litOk, appOk, appS, growD, Nat.reduceEqDiff, Nat.reduceLT, Nat.reduceAdd, Nat.reduceLeDiff, Nat.reduceMul, Nat.reduceBEq, Nat.reduceSub, Int.reduceLE, Int.reduceToNat, Int.reduceLT, Int.reduceNeg, encSIDBalanceNonce, encSLIDAmountNonce, encSAccounts, encSKindIDAmount]; rfl) (fun hg1 => ?_) (fun hg1 => ?_)
      · simp only [v1, v2, v3, v4, v5, v6, v7, v8, v9, tf1, tu, litOk, appOk, appS, growD, Nat.reduceEqDiff, Nat.reduceLT, Nat.reduceAdd, Nat.reduceLeDiff, Nat.reduceMul, Nat.reduceBEq, Nat.reduceSub, Int.reduceLE, Int.reduceToNat, Int.reduceLT, Int.reduceNeg, encSIDBalanceNonce, encSLIDAmountNonce, encSAccounts, encSKindIDAmount, hg1, List.map_append, List.length_append, List.length_map, List.map_take, List.map_drop, List.length_drop, List.length_take, Nat.le_refl, true_and]
        refine hK _ ?_
        clear hK K
        try simp only [s_thN, s_thE, s_thR, s_blN, s_blE, s_blM, s_blR, Nat.reduceEqDiff]
        exact ⟨(((decide (18446744069414584321 ≤ (ix p0 j2).ID)) || (decide (9223372036854775807 < (ix p0 j2).Balance))) || ((((ix p0 j2).Balance) == 0) && (((ix p0 j2).Nonce) == 0))) || ((decide (0 < j2)) && (decide ((ix p0 j2).ID ≤ (ix p0 (IntKind.i64.wrap (j2 - 1))).ID))), h, by simp only [v1, v2, v3, v4, v5, v6, v7, v8, v9, tf1, tu, litOk, appOk, appS, growD, Nat.reduceEqDiff, Nat.reduceLT, Nat.reduceAdd, Nat.reduceLeDiff, Nat.reduceMul, Nat.reduceBEq, Nat.reduceSub, Int.reduceLE, Int.reduceToNat, Int.reduceLT, Int.reduceNeg, encSIDBalanceNonce, encSLIDAmountNonce, encSAccounts, encSKindIDAmount, vl, hg1, List.map_append, List.length_append, List.length_map, List.map_take, List.map_drop, List.length_drop, List.length_take, Nat.le_refl, true_and]⟩
      · replace c3 := c3 (by simp only [v1, v2, v3, v4, v5, v6, v7, v8, v9, tf1, tu, litOk, appOk, appS, growD, Nat.reduceEqDiff, Nat.reduceLT, Nat.reduceAdd, Nat.reduceLeDiff, Nat.reduceMul, Nat.reduceBEq, Nat.reduceSub, Int.reduceLE, Int.reduceToNat, Int.reduceLT, Int.reduceNeg, encSIDBalanceNonce, encSLIDAmountNonce, encSAccounts, encSKindIDAmount, hg1])
        replace c4 := c4 (by simp only [v1, v2, v3, v4, v5, v6, v7, v8, v9, tf1, tu, litOk, appOk, appS, growD, Nat.reduceEqDiff, Nat.reduceLT, Nat.reduceAdd, Nat.reduceLeDiff, Nat.reduceMul, Nat.reduceBEq, Nat.reduceSub, Int.reduceLE, Int.reduceToNat, Int.reduceLT, Int.reduceNeg, encSIDBalanceNonce, encSLIDAmountNonce, encSAccounts, encSKindIDAmount, hg1])
        simp only [v1, v2, v3, v4, v5, v6, v7, v8, v9, tf1, tu, litOk, appOk, appS, growD, Nat.reduceEqDiff, Nat.reduceLT, Nat.reduceAdd, Nat.reduceLeDiff, Nat.reduceMul, Nat.reduceBEq, Nat.reduceSub, Int.reduceLE, Int.reduceToNat, Int.reduceLT, Int.reduceNeg, encSIDBalanceNonce, encSLIDAmountNonce, encSAccounts, encSKindIDAmount, hg1, List.map_append, List.length_append, List.length_map, List.map_take, List.map_drop, List.length_drop, List.length_take, Nat.le_refl, true_and, c3, c4, elt_ix encSIDBalanceNonce p0 j2 c3 c4]
        refine D_guard_split (by simp only [v1, v2, v3, v4, v5, v6, v7, v8, v9, tf1, tu, litOk, appOk, appS, growD, Nat.reduceEqDiff, Nat.reduceLT, Nat.reduceAdd, Nat.reduceLeDiff, Nat.reduceMul, Nat.reduceBEq, Nat.reduceSub, Int.reduceLE, Int.reduceToNat, Int.reduceLT, Int.reduceNeg, encSIDBalanceNonce, encSLIDAmountNonce, encSAccounts, encSKindIDAmount, hg1]; rfl) (fun hg2 => ?_) (fun hg2 => ?_)
        · simp only [v1, v2, v3, v4, v5, v6, v7, v8, v9, tf1, tu, litOk, appOk, appS, growD, Nat.reduceEqDiff, Nat.reduceLT, Nat.reduceAdd, Nat.reduceLeDiff, Nat.reduceMul, Nat.reduceBEq, Nat.reduceSub, Int.reduceLE, Int.reduceToNat, Int.reduceLT, Int.reduceNeg, encSIDBalanceNonce, encSLIDAmountNonce, encSAccounts, encSKindIDAmount, hg1, hg2, List.map_append, List.length_append, List.length_map, List.map_take, List.map_drop, List.length_drop, List.length_take, Nat.le_refl, true_and]
          refine hK _ ?_
          clear hK K
          try simp only [s_thN, s_thE, s_thR, s_blN, s_blE, s_blM, s_blR, Nat.reduceEqDiff]
          exact ⟨(((decide (18446744069414584321 ≤ (ix p0 j2).ID)) || (decide (9223372036854775807 < (ix p0 j2).Balance))) || ((((ix p0 j2).Balance) == 0) && (((ix p0 j2).Nonce) == 0))) || ((decide (0 < j2)) && (decide ((ix p0 j2).ID ≤ (ix p0 (IntKind.i64.wrap (j2 - 1))).ID))), h, by simp only [v1, v2, v3, v4, v5, v6, v7, v8, v9, tf1, tu, litOk, appOk, appS, growD, Nat.reduceEqDiff, Nat.reduceLT, Nat.reduceAdd, Nat.reduceLeDiff, Nat.reduceMul, Nat.reduceBEq, Nat.reduceSub, Int.reduceLE, Int.reduceToNat, Int.reduceLT, Int.reduceNeg, encSIDBalanceNonce, encSLIDAmountNonce, encSAccounts, encSKindIDAmount, vl, hg1, hg2, List.map_append, List.length_append, List.length_map, List.map_take, List.map_drop, List.length_drop, List.length_take, Nat.le_refl, true_and]⟩
        · replace c5 := c5 (by simp only [v1, v2, v3, v4, v5, v6, v7, v8, v9, tf1, tu, litOk, appOk, appS, growD, Nat.reduceEqDiff, Nat.reduceLT, Nat.reduceAdd, Nat.reduceLeDiff, Nat.reduceMul, Nat.reduceBEq, Nat.reduceSub, Int.reduceLE, Int.reduceToNat, Int.reduceLT, Int.reduceNeg, encSIDBalanceNonce, encSLIDAmountNonce, encSAccounts, encSKindIDAmount, hg1, hg2])
          replace c6 := c6 (by simp only [v1, v2, v3, v4, v5, v6, v7, v8, v9, tf1, tu, litOk, appOk, appS, growD, Nat.reduceEqDiff, Nat.reduceLT, Nat.reduceAdd, Nat.reduceLeDiff, Nat.reduceMul, Nat.reduceBEq, Nat.reduceSub, Int.reduceLE, Int.reduceToNat, Int.reduceLT, Int.reduceNeg, encSIDBalanceNonce, encSLIDAmountNonce, encSAccounts, encSKindIDAmount, hg1, hg2])
          simp only [v1, v2, v3, v4, v5, v6, v7, v8, v9, tf1, tu, litOk, appOk, appS, growD, Nat.reduceEqDiff, Nat.reduceLT, Nat.reduceAdd, Nat.reduceLeDiff, Nat.reduceMul, Nat.reduceBEq, Nat.reduceSub, Int.reduceLE, Int.reduceToNat, Int.reduceLT, Int.reduceNeg, encSIDBalanceNonce, encSLIDAmountNonce, encSAccounts, encSKindIDAmount, hg1, hg2, List.map_append, List.length_append, List.length_map, List.map_take, List.map_drop, List.length_drop, List.length_take, Nat.le_refl, true_and, c5, c6, elt_ix encSIDBalanceNonce p0 j2 c5 c6]
          refine D_guard_split (by simp only [v1, v2, v3, v4, v5, v6, v7, v8, v9, tf1, tu, litOk, appOk, appS, growD, Nat.reduceEqDiff, Nat.reduceLT, Nat.reduceAdd, Nat.reduceLeDiff, Nat.reduceMul, Nat.reduceBEq, Nat.reduceSub, Int.reduceLE, Int.reduceToNat, Int.reduceLT, Int.reduceNeg, encSIDBalanceNonce, encSLIDAmountNonce, encSAccounts, encSKindIDAmount, hg1, hg2]; rfl) (fun hg3 => ?_) (fun hg3 => ?_)
          · replace c7 := c7 (by simp only [v1, v2, v3, v4, v5, v6, v7, v8, v9, tf1, tu, litOk, appOk, appS, growD, Nat.reduceEqDiff, Nat.reduceLT, Nat.reduceAdd, Nat.reduceLeDiff, Nat.reduceMul, Nat.reduceBEq, Nat.reduceSub, Int.reduceLE, Int.reduceToNat, Int.reduceLT, Int.reduceNeg, encSIDBalanceNonce, encSLIDAmountNonce, encSAccounts, encSKindIDAmount, hg1, hg2, hg3]) (by simp only [v1, v2, v3, v4, v5, v6, v7, v8, v9, tf1, tu, litOk, appOk, appS, growD, Nat.reduceEqDiff, Nat.reduceLT, Nat.reduceAdd, Nat.reduceLeDiff, Nat.reduceMul, Nat.reduceBEq, Nat.reduceSub, Int.reduceLE, Int.reduceToNat, Int.reduceLT, Int.reduceNeg, encSIDBalanceNonce, encSLIDAmountNonce, encSAccounts, encSKindIDAmount, hg1, hg2, hg3])
            replace c8 := c8 (by simp only [v1, v2, v3, v4, v5, v6, v7, v8, v9, tf1, tu, litOk, appOk, appS, growD, Nat.reduceEqDiff, Nat.reduceLT, Nat.reduceAdd, Nat.reduceLeDiff, Nat.reduceMul, Nat.reduceBEq, Nat.reduceSub, Int.reduceLE, Int.reduceToNat, Int.reduceLT, Int.reduceNeg, encSIDBalanceNonce, encSLIDAmountNonce, encSAccounts, encSKindIDAmount, hg1, hg2, hg3]) (by simp only [v1, v2, v3, v4, v5, v6, v7, v8, v9, tf1, tu, litOk, appOk, appS, growD, Nat.reduceEqDiff, Nat.reduceLT, Nat.reduceAdd, Nat.reduceLeDiff, Nat.reduceMul, Nat.reduceBEq, Nat.reduceSub, Int.reduceLE, Int.reduceToNat, Int.reduceLT, Int.reduceNeg, encSIDBalanceNonce, encSLIDAmountNonce, encSAccounts, encSKindIDAmount, hg1, hg2, hg3])
            simp only [v1, v2, v3, v4, v5, v6, v7, v8, v9, tf1, tu, litOk, appOk, appS, growD, Nat.reduceEqDiff, Nat.reduceLT, Nat.reduceAdd, Nat.reduceLeDiff, Nat.reduceMul, Nat.reduceBEq, Nat.reduceSub, Int.reduceLE, Int.reduceToNat, Int.reduceLT, Int.reduceNeg, encSIDBalanceNonce, encSLIDAmountNonce, encSAccounts, encSKindIDAmount, hg1, hg2, hg3, List.map_append, List.length_append, List.length_map, List.map_take, List.map_drop, List.length_drop, List.length_take, Nat.le_refl, true_and, c7, c8, elt_ix encSIDBalanceNonce p0 j2 c7 c8]
            refine D_guard_split (by simp only [v1, v2, v3, v4, v5, v6, v7, v8, v9, tf1, tu, litOk, appOk, appS, growD, Nat.reduceEqDiff, Nat.reduceLT, Nat.reduceAdd, Nat.reduceLeDiff, Nat.reduceMul, Nat.reduceBEq, Nat.reduceSub, Int.reduceLE, Int.reduceToNat, Int.reduceLT, Int.reduceNeg, encSIDBalanceNonce, encSLIDAmountNonce, encSAccounts, encSKindIDAmount, hg1, hg2, hg3]; rfl) (fun hg4 => ?_) (fun hg4 => ?_)
            · simp only [v1, v2, v3, v4, v5, v6, v7, v8, v9, tf1, tu, litOk, appOk, appS, growD, Nat.reduceEqDiff, Nat.reduceLT, Nat.reduceAdd, Nat.reduceLeDiff, Nat.reduceMul, Nat.reduceBEq, Nat.reduceSub, Int.reduceLE, Int.reduceToNat, Int.reduceLT, Int.reduceNeg, encSIDBalanceNonce, encSLIDAmountNonce, encSAccounts, encSKindIDAmount, hg1, hg2, hg3, hg4, List.map_append, List.length_append, List.length_map, List.map_take, List.map_drop, List.length_drop, List.length_take, Nat.le_refl, true_and]
              refine hK _ ?_
              clear hK K
              try simp only [s_thN, s_thE, s_thR, s_blN, s_blE, s_blM, s_blR, Nat.reduceEqDiff]
              exact ⟨(((decide (18446744069414584321 ≤ (ix p0 j2).ID)) || (decide (9223372036854775807 < (ix p0 j2).Balance))) || ((((ix p0 j2).Balance) == 0) && (((ix p0 j2).Nonce) == 0))) || ((decide (0 < j2)) && (decide ((ix p0 j2).ID ≤ (ix p0 (IntKind.i64.wrap (j2 - 1))).ID))), h, by simp only [v1, v2, v3, v4, v5, v6, v7, v8, v9, tf1, tu, litOk, appOk, appS, growD, Nat.reduceEqDiff, Nat.reduceLT, Nat.reduceAdd, Nat.reduceLeDiff, Nat.reduceMul, Nat.reduceBEq, Nat.reduceSub, Int.reduceLE, Int.reduceToNat, Int.reduceLT, Int.reduceNeg, encSIDBalanceNonce, encSLIDAmountNonce, encSAccounts, encSKindIDAmount, vl, hg1, hg2, hg3, hg4, List.map_append, List.length_append, List.length_map, List.map_take, List.map_drop, List.length_drop, List.length_take, Nat.le_refl, true_and]⟩
            · simp only [v1, v2, v3, v4, v5, v6, v7, v8, v9, tf1, tu, litOk, appOk, appS, growD, Nat.reduceEqDiff, Nat.reduceLT, Nat.reduceAdd, Nat.reduceLeDiff, Nat.reduceMul, Nat.reduceBEq, Nat.reduceSub, Int.reduceLE, Int.reduceToNat, Int.reduceLT, Int.reduceNeg, encSIDBalanceNonce, encSLIDAmountNonce, encSAccounts, encSKindIDAmount, hg1, hg2, hg3, hg4, List.map_append, List.length_append, List.length_map, List.map_take, List.map_drop, List.length_drop, List.length_take, Nat.le_refl, true_and]
              refine D_guard_split (by simp only [v1, v2, v3, v4, v5, v6, v7, v8, v9, tf1, tu, litOk, appOk, appS, growD, Nat.reduceEqDiff, Nat.reduceLT, Nat.reduceAdd, Nat.reduceLeDiff, Nat.reduceMul, Nat.reduceBEq, Nat.reduceSub, Int.reduceLE, Int.reduceToNat, Int.reduceLT, Int.reduceNeg, encSIDBalanceNonce, encSLIDAmountNonce, encSAccounts, encSKindIDAmount, hg1, hg2, hg3, hg4]; rfl) (fun hg5 => ?_) (fun hg5 => ?_)
              · replace c9 := c9 (by simp only [v1, v2, v3, v4, v5, v6, v7, v8, v9, tf1, tu, litOk, appOk, appS, growD, Nat.reduceEqDiff, Nat.reduceLT, Nat.reduceAdd, Nat.reduceLeDiff, Nat.reduceMul, Nat.reduceBEq, Nat.reduceSub, Int.reduceLE, Int.reduceToNat, Int.reduceLT, Int.reduceNeg, encSIDBalanceNonce, encSLIDAmountNonce, encSAccounts, encSKindIDAmount, hg1, hg2, hg3, hg4, hg5]) (by simp only [v1, v2, v3, v4, v5, v6, v7, v8, v9, tf1, tu, litOk, appOk, appS, growD, Nat.reduceEqDiff, Nat.reduceLT, Nat.reduceAdd, Nat.reduceLeDiff, Nat.reduceMul, Nat.reduceBEq, Nat.reduceSub, Int.reduceLE, Int.reduceToNat, Int.reduceLT, Int.reduceNeg, encSIDBalanceNonce, encSLIDAmountNonce, encSAccounts, encSKindIDAmount, hg1, hg2, hg3, hg4, hg5])
                replace c10 := c10 (by simp only [v1, v2, v3, v4, v5, v6, v7, v8, v9, tf1, tu, litOk, appOk, appS, growD, Nat.reduceEqDiff, Nat.reduceLT, Nat.reduceAdd, Nat.reduceLeDiff, Nat.reduceMul, Nat.reduceBEq, Nat.reduceSub, Int.reduceLE, Int.reduceToNat, Int.reduceLT, Int.reduceNeg, encSIDBalanceNonce, encSLIDAmountNonce, encSAccounts, encSKindIDAmount, hg1, hg2, hg3, hg4, hg5]) (by simp only [v1, v2, v3, v4, v5, v6, v7, v8, v9, tf1, tu, litOk, appOk, appS, growD, Nat.reduceEqDiff, Nat.reduceLT, Nat.reduceAdd, Nat.reduceLeDiff, Nat.reduceMul, Nat.reduceBEq, Nat.reduceSub, Int.reduceLE, Int.reduceToNat, Int.reduceLT, Int.reduceNeg, encSIDBalanceNonce, encSLIDAmountNonce, encSAccounts, encSKindIDAmount, hg1, hg2, hg3, hg4, hg5])
                replace c11 := c11 (by simp only [v1, v2, v3, v4, v5, v6, v7, v8, v9, tf1, tu, litOk, appOk, appS, growD, Nat.reduceEqDiff, Nat.reduceLT, Nat.reduceAdd, Nat.reduceLeDiff, Nat.reduceMul, Nat.reduceBEq, Nat.reduceSub, Int.reduceLE, Int.reduceToNat, Int.reduceLT, Int.reduceNeg, encSIDBalanceNonce, encSLIDAmountNonce, encSAccounts, encSKindIDAmount, hg1, hg2, hg3, hg4, hg5]) (by simp only [v1, v2, v3, v4, v5, v6, v7, v8, v9, tf1, tu, litOk, appOk, appS, growD, Nat.reduceEqDiff, Nat.reduceLT, Nat.reduceAdd, Nat.reduceLeDiff, Nat.reduceMul, Nat.reduceBEq, Nat.reduceSub, Int.reduceLE, Int.reduceToNat, Int.reduceLT, Int.reduceNeg, encSIDBalanceNonce, encSLIDAmountNonce, encSAccounts, encSKindIDAmount, hg1, hg2, hg3, hg4, hg5])
                replace c12 := c12 (by simp only [v1, v2, v3, v4, v5, v6, v7, v8, v9, tf1, tu, litOk, appOk, appS, growD, Nat.reduceEqDiff, Nat.reduceLT, Nat.reduceAdd, Nat.reduceLeDiff, Nat.reduceMul, Nat.reduceBEq, Nat.reduceSub, Int.reduceLE, Int.reduceToNat, Int.reduceLT, Int.reduceNeg, encSIDBalanceNonce, encSLIDAmountNonce, encSAccounts, encSKindIDAmount, hg1, hg2, hg3, hg4, hg5]) (by simp only [v1, v2, v3, v4, v5, v6, v7, v8, v9, tf1, tu, litOk, appOk, appS, growD, Nat.reduceEqDiff, Nat.reduceLT, Nat.reduceAdd, Nat.reduceLeDiff, Nat.reduceMul, Nat.reduceBEq, Nat.reduceSub, Int.reduceLE, Int.reduceToNat, Int.reduceLT, Int.reduceNeg, encSIDBalanceNonce, encSLIDAmountNonce, encSAccounts, encSKindIDAmount, hg1, hg2, hg3, hg4, hg5])
                simp only [v1, v2, v3, v4, v5, v6, v7, v8, v9, tf1, tu, litOk, appOk, appS, growD, Nat.reduceEqDiff, Nat.reduceLT, Nat.reduceAdd, Nat.reduceLeDiff, Nat.reduceMul, Nat.reduceBEq, Nat.reduceSub, Int.reduceLE, Int.reduceToNat, Int.reduceLT, Int.reduceNeg, encSIDBalanceNonce, encSLIDAmountNonce, encSAccounts, encSKindIDAmount, hg1, hg2, hg3, hg4, hg5, List.map_append, List.length_append, List.length_map, List.map_take, List.map_drop, List.length_drop, List.length_take, Nat.le_refl, true_and, c11, c12, elt_ix encSIDBalanceNonce p0 (IntKind.i64.wrap (j2 - 1)) c11 c12, c9, c10, elt_ix encSIDBalanceNonce p0 j2 c9 c10]
                refine hK _ ?_
                clear hK K
                try simp only [s_thN, s_thE, s_thR, s_blN, s_blE, s_blM, s_blR, Nat.reduceEqDiff]
                exact ⟨(((decide (18446744069414584321 ≤ (ix p0 j2).ID)) || (decide (9223372036854775807 < (ix p0 j2).Balance))) || ((((ix p0 j2).Balance) == 0) && (((ix p0 j2).Nonce) == 0))) || ((decide (0 < j2)) && (decide ((ix p0 j2).ID ≤ (ix p0 (IntKind.i64.wrap (j2 - 1))).ID))), h, by simp only [v1, v2, v3, v4, v5, v6, v7, v8, v9, tf1, tu, litOk, appOk, appS, growD, Nat.reduceEqDiff, Nat.reduceLT, Nat.reduceAdd, Nat.reduceLeDiff, Nat.reduceMul, Nat.reduceBEq, Nat.reduceSub, Int.reduceLE, Int.reduceToNat, Int.reduceLT, Int.reduceNeg, encSIDBalanceNonce, encSLIDAmountNonce, encSAccounts, encSKindIDAmount, vl, hg1, hg2, hg3, hg4, hg5, List.map_append, List.length_append, List.length_map, List.map_take, List.map_drop, List.length_drop, List.length_take, Nat.le_refl, true_and]⟩
              · simp only [v1, v2, v3, v4, v5, v6, v7, v8, v9, tf1, tu, litOk, appOk, appS, growD, Nat.reduceEqDiff, Nat.reduceLT, Nat.reduceAdd, Nat.reduceLeDiff, Nat.reduceMul, Nat.reduceBEq, Nat.reduceSub, Int.reduceLE, Int.reduceToNat, Int.reduceLT, Int.reduceNeg, encSIDBalanceNonce, encSLIDAmountNonce, encSAccounts, encSKindIDAmount, hg1, hg2, hg3, hg4, hg5, List.map_append, List.length_append, List.length_map, List.map_take, List.map_drop, List.length_drop, List.length_take, Nat.le_refl, true_and]
                refine hK _ ?_
                clear hK K
                try simp only [s_thN, s_thE, s_thR, s_blN, s_blE, s_blM, s_blR, Nat.reduceEqDiff]
                exact ⟨(((decide (18446744069414584321 ≤ (ix p0 j2).ID)) || (decide (9223372036854775807 < (ix p0 j2).Balance))) || ((((ix p0 j2).Balance) == 0) && (((ix p0 j2).Nonce) == 0))) || ((decide (0 < j2)) && (decide ((ix p0 j2).ID ≤ (ix p0 (IntKind.i64.wrap (j2 - 1))).ID))), h, by simp only [v1, v2, v3, v4, v5, v6, v7, v8, v9, tf1, tu, litOk, appOk, appS, growD, Nat.reduceEqDiff, Nat.reduceLT, Nat.reduceAdd, Nat.reduceLeDiff, Nat.reduceMul, Nat.reduceBEq, Nat.reduceSub, Int.reduceLE, Int.reduceToNat, Int.reduceLT, Int.reduceNeg, encSIDBalanceNonce, encSLIDAmountNonce, encSAccounts, encSKindIDAmount, vl, hg1, hg2, hg3, hg4, hg5, List.map_append, List.length_append, List.length_map, List.map_take, List.map_drop, List.length_drop, List.length_take, Nat.le_refl, true_and]⟩
          · simp only [v1, v2, v3, v4, v5, v6, v7, v8, v9, tf1, tu, litOk, appOk, appS, growD, Nat.reduceEqDiff, Nat.reduceLT, Nat.reduceAdd, Nat.reduceLeDiff, Nat.reduceMul, Nat.reduceBEq, Nat.reduceSub, Int.reduceLE, Int.reduceToNat, Int.reduceLT, Int.reduceNeg, encSIDBalanceNonce, encSLIDAmountNonce, encSAccounts, encSKindIDAmount, hg1, hg2, hg3, List.map_append, List.length_append, List.length_map, List.map_take, List.map_drop, List.length_drop, List.length_take, Nat.le_refl, true_and]
            refine D_guard_split (by simp only [v1, v2, v3, v4, v5, v6, v7, v8, v9, tf1, tu, litOk, appOk, appS, growD, Nat.reduceEqDiff, Nat.reduceLT, Nat.reduceAdd, Nat.reduceLeDiff, Nat.reduceMul, Nat.reduceBEq, Nat.reduceSub, Int.reduceLE, Int.reduceToNat, Int.reduceLT, Int.reduceNeg, encSIDBalanceNonce, encSLIDAmountNonce, encSAccounts, encSKindIDAmount, hg1, hg2, hg3]; rfl) (fun hg6 => ?_) (fun hg6 => ?_)
            · replace c9 := c9 (by simp only [v1, v2, v3, v4, v5, v6, v7, v8, v9, tf1, tu, litOk, appOk, appS, growD, Nat.reduceEqDiff, Nat.reduceLT, Nat.reduceAdd, Nat.reduceLeDiff, Nat.reduceMul, Nat.reduceBEq, Nat.reduceSub, Int.reduceLE, Int.reduceToNat, Int.reduceLT, Int.reduceNeg, encSIDBalanceNonce, encSLIDAmountNonce, encSAccounts, encSKindIDAmount, hg1, hg2, hg3, hg6]) (by simp only [v1, v2, v3, v4, v5, v6, v7, v8, v9, tf1, tu, litOk, appOk, appS, growD, Nat.reduceEqDiff, Nat.reduceLT, Nat.reduceAdd, Nat.reduceLeDiff, Nat.reduceMul, Nat.reduceBEq, Nat.reduceSub, Int.reduceLE, Int.reduceToNat, Int.reduceLT, Int.reduceNeg, encSIDBalanceNonce, encSLIDAmountNonce, encSAccounts, encSKindIDAmount, hg1, hg2, hg3, hg6])
              replace c10 := c10 (by simp only [v1, v2, v3, v4, v5, v6, v7, v8, v9, tf1, tu, litOk, appOk, appS, growD, Nat.reduceEqDiff, Nat.reduceLT, Nat.reduceAdd, Nat.reduceLeDiff, Nat.reduceMul, Nat.reduceBEq, Nat.reduceSub, Int.reduceLE, Int.reduceToNat, Int.reduceLT, Int.reduceNeg, encSIDBalanceNonce, encSLIDAmountNonce, encSAccounts, encSKindIDAmount, hg1, hg2, hg3, hg6]) (by simp only [v1, v2, v3, v4, v5, v6, v7, v8, v9, tf1, tu, litOk, appOk, appS, growD, Nat.reduceEqDiff, Nat.reduceLT, Nat.reduceAdd, Nat.reduceLeDiff, Nat.reduceMul, Nat.reduceBEq, Nat.reduceSub, Int.reduceLE, Int.reduceToNat, Int.reduceLT, Int.reduceNeg, encSIDBalanceNonce, encSLIDAmountNonce, encSAccounts, encSKindIDAmount, hg1, hg2, hg3, hg6])
              replace c11 := c11 (by simp only [v1, v2, v3, v4, v5, v6, v7, v8, v9, tf1, tu, litOk, appOk, appS, growD, Nat.reduceEqDiff, Nat.reduceLT, Nat.reduceAdd, Nat.reduceLeDiff, Nat.reduceMul, Nat.reduceBEq, Nat.reduceSub, Int.reduceLE, Int.reduceToNat, Int.reduceLT, Int.reduceNeg, encSIDBalanceNonce, encSLIDAmountNonce, encSAccounts, encSKindIDAmount, hg1, hg2, hg3, hg6]) (by simp only [v1, v2, v3, v4, v5, v6, v7, v8, v9, tf1, tu, litOk, appOk, appS, growD, Nat.reduceEqDiff, Nat.reduceLT, Nat.reduceAdd, Nat.reduceLeDiff, Nat.reduceMul, Nat.reduceBEq, Nat.reduceSub, Int.reduceLE, Int.reduceToNat, Int.reduceLT, Int.reduceNeg, encSIDBalanceNonce, encSLIDAmountNonce, encSAccounts, encSKindIDAmount, hg1, hg2, hg3, hg6])
              replace c12 := c12 (by simp only [v1, v2, v3, v4, v5, v6, v7, v8, v9, tf1, tu, litOk, appOk, appS, growD, Nat.reduceEqDiff, Nat.reduceLT, Nat.reduceAdd, Nat.reduceLeDiff, Nat.reduceMul, Nat.reduceBEq, Nat.reduceSub, Int.reduceLE, Int.reduceToNat, Int.reduceLT, Int.reduceNeg, encSIDBalanceNonce, encSLIDAmountNonce, encSAccounts, encSKindIDAmount, hg1, hg2, hg3, hg6]) (by simp only [v1, v2, v3, v4, v5, v6, v7, v8, v9, tf1, tu, litOk, appOk, appS, growD, Nat.reduceEqDiff, Nat.reduceLT, Nat.reduceAdd, Nat.reduceLeDiff, Nat.reduceMul, Nat.reduceBEq, Nat.reduceSub, Int.reduceLE, Int.reduceToNat, Int.reduceLT, Int.reduceNeg, encSIDBalanceNonce, encSLIDAmountNonce, encSAccounts, encSKindIDAmount, hg1, hg2, hg3, hg6])
              simp only [v1, v2, v3, v4, v5, v6, v7, v8, v9, tf1, tu, litOk, appOk, appS, growD, Nat.reduceEqDiff, Nat.reduceLT, Nat.reduceAdd, Nat.reduceLeDiff, Nat.reduceMul, Nat.reduceBEq, Nat.reduceSub, Int.reduceLE, Int.reduceToNat, Int.reduceLT, Int.reduceNeg, encSIDBalanceNonce, encSLIDAmountNonce, encSAccounts, encSKindIDAmount, hg1, hg2, hg3, hg6, List.map_append, List.length_append, List.length_map, List.map_take, List.map_drop, List.length_drop, List.length_take, Nat.le_refl, true_and, c11, c12, elt_ix encSIDBalanceNonce p0 (IntKind.i64.wrap (j2 - 1)) c11 c12, c9, c10, elt_ix encSIDBalanceNonce p0 j2 c9 c10]
              refine hK _ ?_
              clear hK K
              try simp only [s_thN, s_thE, s_thR, s_blN, s_blE, s_blM, s_blR, Nat.reduceEqDiff]
              exact ⟨(((decide (18446744069414584321 ≤ (ix p0 j2).ID)) || (decide (9223372036854775807 < (ix p0 j2).Balance))) || ((((ix p0 j2).Balance) == 0) && (((ix p0 j2).Nonce) == 0))) || ((decide (0 < j2)) && (decide ((ix p0 j2).ID ≤ (ix p0 (IntKind.i64.wrap (j2 - 1))).ID))), h, by simp only [v1, v2, v3, v4, v5, v6, v7, v8, v9, tf1, tu, litOk, appOk, appS, growD, Nat.reduceEqDiff, Nat.reduceLT, Nat.reduceAdd, Nat.reduceLeDiff, Nat.reduceMul, Nat.reduceBEq, Nat.reduceSub, Int.reduceLE, Int.reduceToNat, Int.reduceLT, Int.reduceNeg, encSIDBalanceNonce, encSLIDAmountNonce, encSAccounts, encSKindIDAmount, vl, hg1, hg2, hg3, hg6, List.map_append, List.length_append, List.length_map, List.map_take, List.map_drop, List.length_drop, List.length_take, Nat.le_refl, true_and]⟩
            · simp only [v1, v2, v3, v4, v5, v6, v7, v8, v9, tf1, tu, litOk, appOk, appS, growD, Nat.reduceEqDiff, Nat.reduceLT, Nat.reduceAdd, Nat.reduceLeDiff, Nat.reduceMul, Nat.reduceBEq, Nat.reduceSub, Int.reduceLE, Int.reduceToNat, Int.reduceLT, Int.reduceNeg, encSIDBalanceNonce, encSLIDAmountNonce, encSAccounts, encSKindIDAmount, hg1, hg2, hg3, hg6, List.map_append, List.length_append, List.length_map, List.map_take, List.map_drop, List.length_drop, List.length_take, Nat.le_refl, true_and]
              refine hK _ ?_
              clear hK K
              try simp only [s_thN, s_thE, s_thR, s_blN, s_blE, s_blM, s_blR, Nat.reduceEqDiff]
              exact ⟨(((decide (18446744069414584321 ≤ (ix p0 j2).ID)) || (decide (9223372036854775807 < (ix p0 j2).Balance))) || ((((ix p0 j2).Balance) == 0) && (((ix p0 j2).Nonce) == 0))) || ((decide (0 < j2)) && (decide ((ix p0 j2).ID ≤ (ix p0 (IntKind.i64.wrap (j2 - 1))).ID))), h, by simp only [v1, v2, v3, v4, v5, v6, v7, v8, v9, tf1, tu, litOk, appOk, appS, growD, Nat.reduceEqDiff, Nat.reduceLT, Nat.reduceAdd, Nat.reduceLeDiff, Nat.reduceMul, Nat.reduceBEq, Nat.reduceSub, Int.reduceLE, Int.reduceToNat, Int.reduceLT, Int.reduceNeg, encSIDBalanceNonce, encSLIDAmountNonce, encSAccounts, encSKindIDAmount, vl, hg1, hg2, hg3, hg6, List.map_append, List.length_append, List.length_map, List.map_take, List.map_drop, List.length_drop, List.length_take, Nat.le_refl, true_and]⟩
    · intro b1 h
      have h : moidoreref44_Valid_J1 r0 nx1 j2 b1 := h
      show Sat _ _ _ _ _ _ ⟨[(0, .d (.slice 3 (List.map encSIDBalanceNonce p0))), (3, .d (.int .i64 j2)), (57, .d (.bool b1))], [], 0⟩ _
      unfold moidoreref44_Valid_J1 at h
      refine sat_cond rfl (fun hb2 => ?_) (fun hb2 => ?_)
      · replace h := h.1 hb2
        refine sat_seq ?_
        refine sat_region fun K hK => ?_
        simp only [v1, v2, v3, v4, v5, v6, v7, v8, v9, tf1, tu, litOk, appOk, appS, growD, Nat.reduceEqDiff, Nat.reduceLT, Nat.reduceAdd, Nat.reduceLeDiff, Nat.reduceMul, Nat.reduceBEq, Nat.reduceSub, Int.reduceLE, Int.reduceToNat, Int.reduceLT, Int.reduceNeg, encSIDBalanceNonce, encSLIDAmountNonce, encSAccounts, encSKindIDAmount, List.map_append, List.length_append, List.length_map, List.map_take, List.map_drop, List.length_drop, List.length_take, Nat.le_refl, true_and]
        refine hK _ ?_
        clear hK K
        try simp only [s_thN, s_thE, s_thR, s_blN, s_blE, s_blM, s_blR, Nat.reduceEqDiff]
        subst h
        refine sat_ret (retN [] ?_)
        simp only [v1, v2, v3, v4, v5, v6, v7, v8, v9, tf1, tu, litOk, appOk, appS, growD, Nat.reduceEqDiff, Nat.reduceLT, Nat.reduceAdd, Nat.reduceLeDiff, Nat.reduceMul, Nat.reduceBEq, Nat.reduceSub, Int.reduceLE, Int.reduceToNat, Int.reduceLT, Int.reduceNeg, encSIDBalanceNonce, encSLIDAmountNonce, encSAccounts, encSKindIDAmount, vl, Try.results23, e_sp0, e_sp1, List.map_append, List.length_append, List.length_map, List.map_take, List.map_drop, List.length_drop, List.length_take, Nat.le_refl, true_and]
      · replace h := h.2 hb2
        refine sat_skip ?_
        try simp only [s_thN, s_thE, s_thR, s_blN, s_blE, s_blM, s_blR, Nat.reduceEqDiff]
        refine sat_region fun K hK => ?_
        simp only [v1, v2, v3, v4, v5, v6, v7, v8, v9, tf1, tu, litOk, appOk, appS, growD, Nat.reduceEqDiff, Nat.reduceLT, Nat.reduceAdd, Nat.reduceLeDiff, Nat.reduceMul, Nat.reduceBEq, Nat.reduceSub, Int.reduceLE, Int.reduceToNat, Int.reduceLT, Int.reduceNeg, encSIDBalanceNonce, encSLIDAmountNonce, encSAccounts, encSKindIDAmount, List.map_append, List.length_append, List.length_map, List.map_take, List.map_drop, List.length_drop, List.length_take, Nat.le_refl, true_and]
        refine hK _ ?_
        clear hK K
        try simp only [s_thN, s_thE, s_thR, s_blN, s_blE, s_blM, s_blR, Nat.reduceEqDiff]
        rw [← hnx] at h
        exact ⟨IntKind.i64.wrap (j2 + 1), h.1, h.2, by simp only [v1, v2, v3, v4, v5, v6, v7, v8, v9, tf1, tu, litOk, appOk, appS, growD, Nat.reduceEqDiff, Nat.reduceLT, Nat.reduceAdd, Nat.reduceLeDiff, Nat.reduceMul, Nat.reduceBEq, Nat.reduceSub, Int.reduceLE, Int.reduceToNat, Int.reduceLT, Int.reduceNeg, encSIDBalanceNonce, encSLIDAmountNonce, encSAccounts, encSKindIDAmount, vl, List.map_append, List.length_append, List.length_map, List.map_take, List.map_drop, List.length_drop, List.length_take, Nat.le_refl, true_and]⟩
  · replace h := h.2 hb1
    refine sat_exit ?_
    try simp only [s_thN, s_thE, s_thR, s_blN, s_blE, s_blM, s_blR, Nat.reduceEqDiff]
    refine sat_seq ?_
    refine sat_region fun K hK => ?_
    simp only [v1, v2, v3, v4, v5, v6, v7, v8, v9, tf1, tu, litOk, appOk, appS, growD, Nat.reduceEqDiff, Nat.reduceLT, Nat.reduceAdd, Nat.reduceLeDiff, Nat.reduceMul, Nat.reduceBEq, Nat.reduceSub, Int.reduceLE, Int.reduceToNat, Int.reduceLT, Int.reduceNeg, encSIDBalanceNonce, encSLIDAmountNonce, encSAccounts, encSKindIDAmount, List.map_append, List.length_append, List.length_map, List.map_take, List.map_drop, List.length_drop, List.length_take, Nat.le_refl, true_and]
    refine hK _ ?_
    clear hK K
    try simp only [s_thN, s_thE, s_thR, s_blN, s_blE, s_blM, s_blR, Nat.reduceEqDiff]
    subst h
    refine sat_ret (retN [] ?_)
    simp only [v1, v2, v3, v4, v5, v6, v7, v8, v9, tf1, tu, litOk, appOk, appS, growD, Nat.reduceEqDiff, Nat.reduceLT, Nat.reduceAdd, Nat.reduceLeDiff, Nat.reduceMul, Nat.reduceBEq, Nat.reduceSub, Int.reduceLE, Int.reduceToNat, Int.reduceLT, Int.reduceNeg, encSIDBalanceNonce, encSLIDAmountNonce, encSAccounts, encSKindIDAmount, vl, Try.results23, e_sp0, e_sp1, List.map_append, List.length_append, List.length_map, List.map_take, List.map_drop, List.length_drop, List.length_take, Nat.le_refl, true_and]
theorem moidorelaw44_Case_right_ok (p0 : SLIDAmountNonce) (r0 : Bool) (h : moidorelaw44_Case_right_Ret p0 r0) : SoundH Try.prog 10 [.agg [.d (.slice 3 (List.map encSIDBalanceNonce p0.L)), .d (.int .u64 p0.ID), .d (.int .u64 p0.Amount), .d (.int .u64 p0.Nonce)]] [] (.d (.bool r0)) [] := by
  refine sound_of Try.func10 rfl Try.ntmps10 (by simp) fun G0 w0 => ?_
  unfold moidorelaw44_Case_right_Ret at h
  refine sat_seq ?_
  refine sat_region fun K hK => ?_
  simp only [v1, v2, v3, v4, v5, v6, v7, v8, v9, tf1, tu, litOk, appOk, appS, growD, Nat.reduceEqDiff, Nat.reduceLT, Nat.reduceAdd, Nat.reduceLeDiff, Nat.reduceMul, Nat.reduceBEq, Nat.reduceSub, Int.reduceLE, Int.reduceToNat, Int.reduceLT, Int.reduceNeg, encSIDBalanceNonce, encSLIDAmountNonce, encSAccounts, encSKindIDAmount, List.map_append, List.length_append, List.length_map, List.map_take, List.map_drop, List.length_drop, List.length_take, Nat.le_refl, true_and]
  refine hK _ ?_
  clear hK K
  try simp only [s_thN, s_thE, s_thR, s_blN, s_blE, s_blM, s_blR, Nat.reduceEqDiff]
  refine sat_join (ι := Bool) (fun x => ⟨[(2, .d (.bool x))], [], 1⟩) (fun x => moidorelaw44_Case_right_J1 r0 x) ?_ ?_
  · obtain ⟨y1, hr1, h⟩ := h
    refine sat_region fun K hK => ?_
    simp only [v1, v2, v3, v4, v5, v6, v7, v8, v9, tf1, tu, litOk, appOk, appS, growD, Nat.reduceEqDiff, Nat.reduceLT, Nat.reduceAdd, Nat.reduceLeDiff, Nat.reduceMul, Nat.reduceBEq, Nat.reduceSub, Int.reduceLE, Int.reduceToNat, Int.reduceLT, Int.reduceNeg, encSIDBalanceNonce, encSLIDAmountNonce, encSAccounts, encSKindIDAmount, List.map_append, List.length_append, List.length_map, List.map_take, List.map_drop, List.length_drop, List.length_take, Nat.le_refl, true_and]
    refine A_guard_split (by simp only [v1, v2, v3, v4, v5, v6, v7, v8, v9, tf1, tu, litOk, appOk, appS, growD, Nat.reduceEqDiff, Nat.reduceLT, Nat.reduceAdd, Nat.reduceLeDiff, Nat.reduceMul, Nat.reduceBEq, Nat.reduceSub, Int.reduceLE, Int.reduceToNat, Int.reduceLT, Int.reduceNeg, encSIDBalanceNonce, encSLIDAmountNonce, encSAccounts, encSKindIDAmount]; rfl) (fun hg1 => ?_) (fun hg1 => ?_)
    · simp only [v1, v2, v3, v4, v5, v6, v7, v8, v9, tf1, tu, litOk, appOk, appS, growD, Nat.reduceEqDiff, Nat.reduceLT, Nat.reduceAdd, Nat.reduceLeDiff, Nat.reduceMul, Nat.reduceBEq, Nat.reduceSub, Int.reduceLE, Int.reduceToNat, Int.reduceLT, Int.reduceNeg, encSIDBalanceNonce, encSLIDAmountNonce, encSAccounts, encSKindIDAmount, hg1, List.map_append, List.length_append, List.length_map, List.map_take, List.map_drop, List.length_drop, List.length_take, Nat.le_refl, true_and]
      replace hr1 := hr1 (by simp only [v1, v2, v3, v4, v5, v6, v7, v8, v9, tf1, tu, litOk, appOk, appS, growD, Nat.reduceEqDiff, Nat.reduceLT, Nat.reduceAdd, Nat.reduceLeDiff, Nat.reduceMul, Nat.reduceBEq, Nat.reduceSub, Int.reduceLE, Int.reduceToNat, Int.reduceLT, Int.reduceNeg, encSIDBalanceNonce, encSLIDAmountNonce, encSAccounts, encSKindIDAmount, hg1])
      refine a_call [] (moidoreref44_Valid_ok p0.L y1 hr1) bd23 (by simp only [v1, v2, v3, v4, v5, v6, v7, v8, v9, tf1, tu, litOk, appOk, appS, growD, Nat.reduceEqDiff, Nat.reduceLT, Nat.reduceAdd, Nat.reduceLeDiff, Nat.reduceMul, Nat.reduceBEq, Nat.reduceSub, Int.reduceLE, Int.reduceToNat, Int.reduceLT, Int.reduceNeg, encSIDBalanceNonce, encSLIDAmountNonce, encSAccounts, encSKindIDAmount, callOk, vl, hg1, List.map_append, List.length_append, List.length_map, List.map_take, List.map_drop, List.length_drop, List.length_take, Nat.le_refl, true_and]) ?_
      simp only [v1, v2, v3, v4, v5, v6, v7, v8, v9, tf1, tu, litOk, appOk, appS, growD, Nat.reduceEqDiff, Nat.reduceLT, Nat.reduceAdd, Nat.reduceLeDiff, Nat.reduceMul, Nat.reduceBEq, Nat.reduceSub, Int.reduceLE, Int.reduceToNat, Int.reduceLT, Int.reduceNeg, encSIDBalanceNonce, encSLIDAmountNonce, encSAccounts, encSKindIDAmount, hg1, List.map_append, List.length_append, List.length_map, List.map_take, List.map_drop, List.length_drop, List.length_take, Nat.le_refl, true_and]
      refine A_guard_split (by simp only [v1, v2, v3, v4, v5, v6, v7, v8, v9, tf1, tu, litOk, appOk, appS, growD, Nat.reduceEqDiff, Nat.reduceLT, Nat.reduceAdd, Nat.reduceLeDiff, Nat.reduceMul, Nat.reduceBEq, Nat.reduceSub, Int.reduceLE, Int.reduceToNat, Int.reduceLT, Int.reduceNeg, encSIDBalanceNonce, encSLIDAmountNonce, encSAccounts, encSKindIDAmount, hg1]; rfl) (fun hg2 => ?_) (fun hg2 => ?_)
      · simp only [v1, v2, v3, v4, v5, v6, v7, v8, v9, tf1, tu, litOk, appOk, appS, growD, Nat.reduceEqDiff, Nat.reduceLT, Nat.reduceAdd, Nat.reduceLeDiff, Nat.reduceMul, Nat.reduceBEq, Nat.reduceSub, Int.reduceLE, Int.reduceToNat, Int.reduceLT, Int.reduceNeg, encSIDBalanceNonce, encSLIDAmountNonce, encSAccounts, encSKindIDAmount, hg1, hg2, List.map_append, List.length_append, List.length_map, List.map_take, List.map_drop, List.length_drop, List.length_take, Nat.le_refl, true_and]
        refine hK _ ?_
        clear hK K
        try simp only [s_thN, s_thE, s_thR, s_blN, s_blE, s_blM, s_blR, Nat.reduceEqDiff]
        exact ⟨((decide (((List.length p0.L : Nat) : Int) ≤ 20)) && y1) && (decide (p0.ID < 18446744069414584321)), h, by simp only [v1, v2, v3, v4, v5, v6, v7, v8, v9, tf1, tu, litOk, appOk, appS, growD, Nat.reduceEqDiff, Nat.reduceLT, Nat.reduceAdd, Nat.reduceLeDiff, Nat.reduceMul, Nat.reduceBEq, Nat.reduceSub, Int.reduceLE, Int.reduceToNat, Int.reduceLT, Int.reduceNeg, encSIDBalanceNonce, encSLIDAmountNonce, encSAccounts, encSKindIDAmount, vl, hg1, hg2, List.map_append, List.length_append, List.length_map, List.map_take, List.map_drop, List.length_drop, List.length_take, Nat.le_refl, true_and]⟩
      · simp only [v1, v2, v3, v4, v5, v6, v7, v8, v9, tf1, tu, litOk, appOk, appS, growD, Nat.reduceEqDiff, Nat.reduceLT, Nat.reduceAdd, Nat.reduceLeDiff, Nat.reduceMul, Nat.reduceBEq, Nat.reduceSub, Int.reduceLE, Int.reduceToNat, Int.reduceLT, Int.reduceNeg, encSIDBalanceNonce, encSLIDAmountNonce, encSAccounts, encSKindIDAmount, hg1, hg2, List.map_append, List.length_append, List.length_map, List.map_take, List.map_drop, List.length_drop, List.length_take, Nat.le_refl, true_and]
        refine hK _ ?_
        clear hK K
        try simp only [s_thN, s_thE, s_thR, s_blN, s_blE, s_blM, s_blR, Nat.reduceEqDiff]
        exact ⟨((decide (((List.length p0.L : Nat) : Int) ≤ 20)) && y1) && (decide (p0.ID < 18446744069414584321)), h, by simp only [v1, v2, v3, v4, v5, v6, v7, v8, v9, tf1, tu, litOk, appOk, appS, growD, Nat.reduceEqDiff, Nat.reduceLT, Nat.reduceAdd, Nat.reduceLeDiff, Nat.reduceMul, Nat.reduceBEq, Nat.reduceSub, Int.reduceLE, Int.reduceToNat, Int.reduceLT, Int.reduceNeg, encSIDBalanceNonce, encSLIDAmountNonce, encSAccounts, encSKindIDAmount, vl, hg1, hg2, List.map_append, List.length_append, List.length_map, List.map_take, List.map_drop, List.length_drop, List.length_take, Nat.le_refl, true_and]⟩
    · simp only [v1, v2, v3, v4, v5, v6, v7, v8, v9, tf1, tu, litOk, appOk, appS, growD, Nat.reduceEqDiff, Nat.reduceLT, Nat.reduceAdd, Nat.reduceLeDiff, Nat.reduceMul, Nat.reduceBEq, Nat.reduceSub, Int.reduceLE, Int.reduceToNat, Int.reduceLT, Int.reduceNeg, encSIDBalanceNonce, encSLIDAmountNonce, encSAccounts, encSKindIDAmount, hg1, List.map_append, List.length_append, List.length_map, List.map_take, List.map_drop, List.length_drop, List.length_take, Nat.le_refl, true_and]
      refine hK _ ?_
      clear hK K
      try simp only [s_thN, s_thE, s_thR, s_blN, s_blE, s_blM, s_blR, Nat.reduceEqDiff]
      exact ⟨((decide (((List.length p0.L : Nat) : Int) ≤ 20)) && y1) && (decide (p0.ID < 18446744069414584321)), h, by simp only [v1, v2, v3, v4, v5, v6, v7, v8, v9, tf1, tu, litOk, appOk, appS, growD, Nat.reduceEqDiff, Nat.reduceLT, Nat.reduceAdd, Nat.reduceLeDiff, Nat.reduceMul, Nat.reduceBEq, Nat.reduceSub, Int.reduceLE, Int.reduceToNat, Int.reduceLT, Int.reduceNeg, encSIDBalanceNonce, encSLIDAmountNonce, encSAccounts, encSKindIDAmount, vl, hg1, List.map_append, List.length_append, List.length_map, List.map_take, List.map_drop, List.length_drop, List.length_take, Nat.le_refl, true_and]⟩
  · intro b1 h
    have h : moidorelaw44_Case_right_J1 r0 b1 := h
    show Sat _ _ _ _ _ _ ⟨[(2, .d (.bool b1))], [], 1⟩ _
    unfold moidorelaw44_Case_right_J1 at h
    subst h
    refine sat_ret (retN [] ?_)
    simp only [v1, v2, v3, v4, v5, v6, v7, v8, v9, tf1, tu, litOk, appOk, appS, growD, Nat.reduceEqDiff, Nat.reduceLT, Nat.reduceAdd, Nat.reduceLeDiff, Nat.reduceMul, Nat.reduceBEq, Nat.reduceSub, Int.reduceLE, Int.reduceToNat, Int.reduceLT, Int.reduceNeg, encSIDBalanceNonce, encSLIDAmountNonce, encSAccounts, encSKindIDAmount, vl, Try.results10, e_sp0, e_sp1, List.map_append, List.length_append, List.length_map, List.map_take, List.map_drop, List.length_drop, List.length_take, Nat.le_refl, true_and]
theorem moidorelaw44_own_ok (p0 : List SIDBalanceNonce) (r0 : SAccounts) (h : moidorelaw44_own_Ret p0 r0) : SoundH Try.prog 12 [.d (.slice 3 (List.map encSIDBalanceNonce p0))] [] (.agg [.d (.slice 3 (List.map encSIDBalanceNonce r0.Accounts))]) [] := by
  refine sound_of Try.func12 rfl Try.ntmps12 (by simp) fun G0 w0 => ?_
  unfold moidorelaw44_own_Ret at h
  refine sat_seq ?_
  refine sat_region fun K hK => ?_
  simp only [v1, v2, v3, v4, v5, v6, v7, v8, v9, tf1, tu, litOk, appOk, appS, growD, Nat.reduceEqDiff, Nat.reduceLT, Nat.reduceAdd, Nat.reduceLeDiff, Nat.reduceMul, Nat.reduceBEq, Nat.reduceSub, Int.reduceLE, Int.reduceToNat, Int.reduceLT, Int.reduceNeg, encSIDBalanceNonce, encSLIDAmountNonce, encSAccounts, encSKindIDAmount, List.map_append, List.length_append, List.length_map, List.map_take, List.map_drop, List.length_drop, List.length_take, Nat.le_refl, true_and]
  refine hK _ ?_
  clear hK K
  try simp only [s_thN, s_thE, s_thR, s_blN, s_blE, s_blM, s_blR, Nat.reduceEqDiff]
  refine sat_seq ?_
  refine sat_region fun K hK => ?_
  simp only [v1, v2, v3, v4, v5, v6, v7, v8, v9, tf1, tu, litOk, appOk, appS, growD, Nat.reduceEqDiff, Nat.reduceLT, Nat.reduceAdd, Nat.reduceLeDiff, Nat.reduceMul, Nat.reduceBEq, Nat.reduceSub, Int.reduceLE, Int.reduceToNat, Int.reduceLT, Int.reduceNeg, encSIDBalanceNonce, encSLIDAmountNonce, encSAccounts, encSKindIDAmount, List.map_append, List.length_append, List.length_map, List.map_take, List.map_drop, List.length_drop, List.length_take, Nat.le_refl, true_and]
  refine hK _ ?_
  clear hK K
  try simp only [s_thN, s_thE, s_thR, s_blN, s_blE, s_blM, s_blR, Nat.reduceEqDiff]
  refine sat_seq ?_
  refine sat_seq ?_
  refine sat_region fun K hK => ?_
  simp only [v1, v2, v3, v4, v5, v6, v7, v8, v9, tf1, tu, litOk, appOk, appS, growD, Nat.reduceEqDiff, Nat.reduceLT, Nat.reduceAdd, Nat.reduceLeDiff, Nat.reduceMul, Nat.reduceBEq, Nat.reduceSub, Int.reduceLE, Int.reduceToNat, Int.reduceLT, Int.reduceNeg, encSIDBalanceNonce, encSLIDAmountNonce, encSAccounts, encSKindIDAmount, List.map_append, List.length_append, List.length_map, List.map_take, List.map_drop, List.length_drop, List.length_take, Nat.le_refl, true_and]
  refine hK _ ?_
  clear hK K
  try simp only [s_thN, s_thE, s_thR, s_blN, s_blE, s_blM, s_blR, Nat.reduceEqDiff]
  refine sat_block ?_
  refine sat_tokc 0 0 (sz := 3) (l := List.map encSIDBalanceNonce ([] : List SIDBalanceNonce)) (by simp only [v1, v2, v3, v4, v5, v6, v7, v8, v9, tf1, tu, litOk, appOk, appS, growD, Nat.reduceEqDiff, Nat.reduceLT, Nat.reduceAdd, Nat.reduceLeDiff, Nat.reduceMul, Nat.reduceBEq, Nat.reduceSub, Int.reduceLE, Int.reduceToNat, Int.reduceLT, Int.reduceNeg, encSIDBalanceNonce, encSLIDAmountNonce, encSAccounts, encSKindIDAmount]; rfl) rfl (by simp only [v1, v2, v3, v4, v5, v6, v7, v8, v9, tf1, tu, litOk, appOk, appS, growD, Nat.reduceEqDiff, Nat.reduceLT, Nat.reduceAdd, Nat.reduceLeDiff, Nat.reduceMul, Nat.reduceBEq, Nat.reduceSub, Int.reduceLE, Int.reduceToNat, Int.reduceLT, Int.reduceNeg, encSIDBalanceNonce, encSLIDAmountNonce, encSAccounts, encSKindIDAmount, e_gfF, e_gfN]) ?_
  simp only [v1, v2, v3, v4, v5, v6, v7, v8, v9, tf1, tu, litOk, appOk, appS, growD, Nat.reduceEqDiff, Nat.reduceLT, Nat.reduceAdd, Nat.reduceLeDiff, Nat.reduceMul, Nat.reduceBEq, Nat.reduceSub, Int.reduceLE, Int.reduceToNat, Int.reduceLT, Int.reduceNeg, encSIDBalanceNonce, encSLIDAmountNonce, encSAccounts, encSKindIDAmount, List.set_cons_zero, List.set_cons_succ, List.map_append, List.length_append, List.length_map, List.map_take, List.map_drop, List.length_drop, List.length_take, Nat.le_refl, true_and]
  refine sat_tokc 1 0 (sz := 3) (l := List.map encSIDBalanceNonce ([] : List SIDBalanceNonce)) (by simp only [v1, v2, v3, v4, v5, v6, v7, v8, v9, tf1, tu, litOk, appOk, appS, growD, Nat.reduceEqDiff, Nat.reduceLT, Nat.reduceAdd, Nat.reduceLeDiff, Nat.reduceMul, Nat.reduceBEq, Nat.reduceSub, Int.reduceLE, Int.reduceToNat, Int.reduceLT, Int.reduceNeg, encSIDBalanceNonce, encSLIDAmountNonce, encSAccounts, encSKindIDAmount]; rfl) rfl (by simp only [v1, v2, v3, v4, v5, v6, v7, v8, v9, tf1, tu, litOk, appOk, appS, growD, Nat.reduceEqDiff, Nat.reduceLT, Nat.reduceAdd, Nat.reduceLeDiff, Nat.reduceMul, Nat.reduceBEq, Nat.reduceSub, Int.reduceLE, Int.reduceToNat, Int.reduceLT, Int.reduceNeg, encSIDBalanceNonce, encSLIDAmountNonce, encSAccounts, encSKindIDAmount, e_gfF, e_gfN]) ?_
  simp only [v1, v2, v3, v4, v5, v6, v7, v8, v9, tf1, tu, litOk, appOk, appS, growD, Nat.reduceEqDiff, Nat.reduceLT, Nat.reduceAdd, Nat.reduceLeDiff, Nat.reduceMul, Nat.reduceBEq, Nat.reduceSub, Int.reduceLE, Int.reduceToNat, Int.reduceLT, Int.reduceNeg, encSIDBalanceNonce, encSLIDAmountNonce, encSAccounts, encSKindIDAmount, List.set_cons_zero, List.set_cons_succ, List.map_append, List.length_append, List.length_map, List.map_take, List.map_drop, List.length_drop, List.length_take, Nat.le_refl, true_and]
  obtain ⟨inv, μ, h0, hs⟩ := h
  refine sat_loop (ι := Int × (List SIDBalanceNonce)) (fun x => ⟨[(2, .ptr 0 0), (3, .ptr 1 0), (6, .d (.slice 3 (List.map encSIDBalanceNonce p0))), (7, .d (.int .i64 ((List.length p0 : Nat) : Int))), (8, .d (.int .i64 x.1))], [(0, .cells [.own 2 3 (List.map encSIDBalanceNonce ([] : List SIDBalanceNonce))]), (1, .cells [.own 3 3 (List.map encSIDBalanceNonce x.2)]), (2, .tip (List.length ([] : List SIDBalanceNonce))), (3, .tip (List.length x.2))], 4⟩) inv μ (0, ([] : List SIDBalanceNonce)) h0 (by simp only [v1, v2, v3, v4, v5, v6, v7, v8, v9, tf1, tu, litOk, appOk, appS, growD, Nat.reduceEqDiff, Nat.reduceLT, Nat.reduceAdd, Nat.reduceLeDiff, Nat.reduceMul, Nat.reduceBEq, Nat.reduceSub, Int.reduceLE, Int.reduceToNat, Int.reduceLT, Int.reduceNeg, encSIDBalanceNonce, encSLIDAmountNonce, encSAccounts, encSKindIDAmount, vl, List.map_append, List.length_append, List.length_map, List.map_take, List.map_drop, List.length_drop, List.length_take, Nat.le_refl, true_and]) ?_
  rintro ⟨j3, j4⟩ hi
  have h : moidorelaw44_own_L1 p0 r0 _ j3 j4 := hs _ hi
  clear hs h0 hi
  generalize hnx : (fun s => inv s ∧ μ s < μ (j3, j4)) = nx1 at h
  show Sat _ _ _ _ _ _ ⟨[(2, .ptr 0 0), (3, .ptr 1 0), (6, .d (.slice 3 (List.map encSIDBalanceNonce p0))), (7, .d (.int .i64 ((List.length p0 : Nat) : Int))), (8, .d (.int .i64 j3))], [(0, .cells [.own 2 3 (List.map encSIDBalanceNonce ([] : List SIDBalanceNonce))]), (1, .cells [.own 3 3 (List.map encSIDBalanceNonce j4)]), (2, .tip (List.length ([] : List SIDBalanceNonce))), (3, .tip (List.length j4))], 4⟩ _
  unfold moidorelaw44_own_L1 at h
  refine sat_seq ?_
  refine sat_region fun K hK => ?_
  simp only [v1, v2, v3, v4, v5, v6, v7, v8, v9, tf1, tu, litOk, appOk, appS, growD, Nat.reduceEqDiff, Nat.reduceLT, Nat.reduceAdd, Nat.reduceLeDiff, Nat.reduceMul, Nat.reduceBEq, Nat.reduceSub, Int.reduceLE, Int.reduceToNat, Int.reduceLT, Int.reduceNeg, encSIDBalanceNonce, encSLIDAmountNonce, encSAccounts, encSKindIDAmount, List.map_append, List.length_append, List.length_map, List.map_take, List.map_drop, List.length_drop, List.length_take, Nat.le_refl, true_and]
  refine hK _ ?_
  clear hK K
  try simp only [s_thN, s_thE, s_thR, s_blN, s_blE, s_blM, s_blR, Nat.reduceEqDiff]
  refine sat_seq ?_
  refine sat_cond rfl (fun hb1 => ?_) (fun hb1 => ?_)
  · replace h := h.1 hb1
    refine sat_skip ?_
    try simp only [s_thN, s_thE, s_thR, s_blN, s_blE, s_blM, s_blR, Nat.reduceEqDiff]
    refine sat_seq ?_
    refine sat_block ?_
    refine sat_seq ?_
    obtain ⟨c1, c2, h⟩ := h
    refine sat_region fun K hK => ?_
    simp only [v1, v2, v3, v4, v5, v6, v7, v8, v9, tf1, tu, litOk, appOk, appS, growD, Nat.reduceEqDiff, Nat.reduceLT, Nat.reduceAdd, Nat.reduceLeDiff, Nat.reduceMul, Nat.reduceBEq, Nat.reduceSub, Int.reduceLE, Int.reduceToNat, Int.reduceLT, Int.reduceNeg, encSIDBalanceNonce, encSLIDAmountNonce, encSAccounts, encSKindIDAmount, c1, c2, elt_ix encSIDBalanceNonce p0 j3 c1 c2, List.map_append, List.length_append, List.length_map, List.map_take, List.map_drop, List.length_drop, List.length_take, Nat.le_refl, true_and]
    refine hK _ ?_
    clear hK K
    try simp only [s_thN, s_thE, s_thR, s_blN, s_blE, s_blM, s_blR, Nat.reduceEqDiff]
    obtain ⟨c3, c4, h⟩ := h
    refine sat_region fun K hK => ?_
    simp only [v1, v2, v3, v4, v5, v6, v7, v8, v9, tf1, tu, litOk, appOk, appS, growD, Nat.reduceEqDiff, Nat.reduceLT, Nat.reduceAdd, Nat.reduceLeDiff, Nat.reduceMul, Nat.reduceBEq, Nat.reduceSub, Int.reduceLE, Int.reduceToNat, Int.reduceLT, Int.reduceNeg, encSIDBalanceNonce, encSLIDAmountNonce, encSAccounts, encSKindIDAmount, c3, c4, List.map_append, List.length_append, List.length_map, List.map_take, List.map_drop, List.length_drop, List.length_take, Nat.le_refl, true_and]
    refine hK _ ?_
    clear hK K
    try simp only [s_thN, s_thE, s_thR, s_blN, s_blE, s_blM, s_blR, Nat.reduceEqDiff]
    refine sat_region fun K hK => ?_
    simp only [v1, v2, v3, v4, v5, v6, v7, v8, v9, tf1, tu, litOk, appOk, appS, growD, Nat.reduceEqDiff, Nat.reduceLT, Nat.reduceAdd, Nat.reduceLeDiff, Nat.reduceMul, Nat.reduceBEq, Nat.reduceSub, Int.reduceLE, Int.reduceToNat, Int.reduceLT, Int.reduceNeg, encSIDBalanceNonce, encSLIDAmountNonce, encSAccounts, encSKindIDAmount, List.map_append, List.length_append, List.length_map, List.map_take, List.map_drop, List.length_drop, List.length_take, Nat.le_refl, true_and]
    refine hK _ ?_
    clear hK K
    try simp only [s_thN, s_thE, s_thR, s_blN, s_blE, s_blM, s_blR, Nat.reduceEqDiff]
    rw [← hnx] at h
    exact ⟨(IntKind.i64.wrap (j3 + 1), j4 ++ [(ix p0 j3)]), h.1, h.2, by simp only [v1, v2, v3, v4, v5, v6, v7, v8, v9, tf1, tu, litOk, appOk, appS, growD, Nat.reduceEqDiff, Nat.reduceLT, Nat.reduceAdd, Nat.reduceLeDiff, Nat.reduceMul, Nat.reduceBEq, Nat.reduceSub, Int.reduceLE, Int.reduceToNat, Int.reduceLT, Int.reduceNeg, encSIDBalanceNonce, encSLIDAmountNonce, encSAccounts, encSKindIDAmount, vl, List.map_append, List.length_append, List.length_map, List.map_take, List.map_drop, List.length_drop, List.length_take, Nat.le_refl, true_and]⟩
  · replace h := h.2 hb1
    refine sat_exit ?_
    try simp only [s_thN, s_thE, s_thR, s_blN, s_blE, s_blM, s_blR, Nat.reduceEqDiff]
    refine sat_seq ?_
    refine sat_region fun K hK => ?_
    simp only [v1, v2, v3, v4, v5, v6, v7, v8, v9, tf1, tu, litOk, appOk, appS, growD, Nat.reduceEqDiff, Nat.reduceLT, Nat.reduceAdd, Nat.reduceLeDiff, Nat.reduceMul, Nat.reduceBEq, Nat.reduceSub, Int.reduceLE, Int.reduceToNat, Int.reduceLT, Int.reduceNeg, encSIDBalanceNonce, encSLIDAmountNonce, encSAccounts, encSKindIDAmount, List.map_append, List.length_append, List.length_map, List.map_take, List.map_drop, List.length_drop, List.length_take, Nat.le_refl, true_and]
    refine hK _ ?_
    clear hK K
    try simp only [s_thN, s_thE, s_thR, s_blN, s_blE, s_blM, s_blR, Nat.reduceEqDiff]
    subst h
    refine sat_ret (retN [] ?_)
    simp only [v1, v2, v3, v4, v5, v6, v7, v8, v9, tf1, tu, litOk, appOk, appS, growD, Nat.reduceEqDiff, Nat.reduceLT, Nat.reduceAdd, Nat.reduceLeDiff, Nat.reduceMul, Nat.reduceBEq, Nat.reduceSub, Int.reduceLE, Int.reduceToNat, Int.reduceLT, Int.reduceNeg, encSIDBalanceNonce, encSLIDAmountNonce, encSAccounts, encSKindIDAmount, vl, Try.results12, e_sp0, e_sp1, List.map_append, List.length_append, List.length_map, List.map_take, List.map_drop, List.length_drop, List.length_take, Nat.le_refl, true_and]
theorem moidoreref44_Get_ok (p0 : List SIDBalanceNonce) (p1 : Int) (r0 : SIDBalanceNonce) (h : moidoreref44_Get_Ret p0 p1 r0) : SoundH Try.prog 24 [.d (.slice 3 (List.map encSIDBalanceNonce p0)), .d (.int .u64 p1)] [] (.agg [.d (.int .u64 r0.ID), .d (.int .u64 r0.Balance), .d (.int .u64 r0.Nonce)]) [] := by
  refine sound_of Try.func24 rfl Try.ntmps24 (by simp) fun G0 w0 => ?_
  unfold moidoreref44_Get_Ret at h
  refine sat_seq ?_
  refine sat_region fun K hK => ?_
  simp only [v1, v2, v3, v4, v5, v6, v7, v8, v9, tf1, tu, litOk, appOk, appS, growD, Nat.reduceEqDiff, Nat.reduceLT, Nat.reduceAdd, Nat.reduceLeDiff, Nat.reduceMul, Nat.reduceBEq, Nat.reduceSub, Int.reduceLE, Int.reduceToNat, Int.reduceLT, Int.reduceNeg, encSIDBalanceNonce, encSLIDAmountNonce, encSAccounts, encSKindIDAmount, List.map_append, List.length_append, List.length_map, List.map_take, List.map_drop, List.length_drop, List.length_take, Nat.le_refl, true_and]
  refine hK _ ?_
  clear hK K
  try simp only [s_thN, s_thE, s_thR, s_blN, s_blE, s_blM, s_blR, Nat.reduceEqDiff]
  refine sat_seq ?_
  refine sat_seq ?_
  refine sat_region fun K hK => ?_
  simp only [v1, v2, v3, v4, v5, v6, v7, v8, v9, tf1, tu, litOk, appOk, appS, growD, Nat.reduceEqDiff, Nat.reduceLT, Nat.reduceAdd, Nat.reduceLeDiff, Nat.reduceMul, Nat.reduceBEq, Nat.reduceSub, Int.reduceLE, Int.reduceToNat, Int.reduceLT, Int.reduceNeg, encSIDBalanceNonce, encSLIDAmountNonce, encSAccounts, encSKindIDAmount, List.map_append, List.length_append, List.length_map, List.map_take, List.map_drop, List.length_drop, List.length_take, Nat.le_refl, true_and]
  refine hK _ ?_
  clear hK K
  try simp only [s_thN, s_thE, s_thR, s_blN, s_blE, s_blM, s_blR, Nat.reduceEqDiff]
  refine sat_block ?_
  obtain ⟨inv, μ, h0, hs⟩ := h
  refine sat_loop (ι := Int) (fun x => ⟨[(0, .d (.slice 3 (List.map encSIDBalanceNonce p0))), (1, .d (.int .u64 p1)), (4, .ptr 0 0), (5, .d (.int .i64 x))], [(0, .cells [.d (.int .u64 0), .d (.int .u64 0), .d (.int .u64 0)])], 1⟩) inv μ 0 h0 (by simp only [v1, v2, v3, v4, v5, v6, v7, v8, v9, tf1, tu, litOk, appOk, appS, growD, Nat.reduceEqDiff, Nat.reduceLT, Nat.reduceAdd, Nat.reduceLeDiff, Nat.reduceMul, Nat.reduceBEq, Nat.reduceSub, Int.reduceLE, Int.reduceToNat, Int.reduceLT, Int.reduceNeg, encSIDBalanceNonce, encSLIDAmountNonce, encSAccounts, encSKindIDAmount, vl, List.map_append, List.length_append, List.length_map, List.map_take, List.map_drop, List.length_drop, List.length_take, Nat.le_refl, true_and]) ?_
  intro j2 hi
  have h : moidoreref44_Get_L1 p0 p1 r0 _ j2 := hs _ hi
  clear hs h0 hi
  generalize hnx : (fun s => inv s ∧ μ s < μ j2) = nx1 at h
  show Sat _ _ _ _ _ _ ⟨[(0, .d (.slice 3 (List.map encSIDBalanceNonce p0))), (1, .d (.int .u64 p1)), (4, .ptr 0 0), (5, .d (.int .i64 j2))], [(0, .cells [.d (.int .u64 0), .d (.int .u64 0), .d (.int .u64 0)])], 1⟩ _
  unfold moidoreref44_Get_L1 at h
  refine sat_seq ?_
  refine sat_seq ?_
  refine sat_region fun K hK => ?_
  simp only [v1, v2, v3, v4, v5, v6, v7, v8, v9, tf1, tu, litOk, appOk, appS, growD, Nat.reduceEqDiff, Nat.reduceLT, Nat.reduceAdd, Nat.reduceLeDiff, Nat.reduceMul, Nat.reduceBEq, Nat.reduceSub, Int.reduceLE, Int.reduceToNat, Int.reduceLT, Int.reduceNeg, encSIDBalanceNonce, encSLIDAmountNonce, encSAccounts, encSKindIDAmount, List.map_append, List.length_append, List.length_map, List.map_take, List.map_drop, List.length_drop, List.length_take, Nat.le_refl, true_and]
  refine hK _ ?_
  clear hK K
  try simp only [s_thN, s_thE, s_thR, s_blN, s_blE, s_blM, s_blR, Nat.reduceEqDiff]
  refine sat_cond rfl (fun hb1 => ?_) (fun hb1 => ?_)
  · replace h := h.1 hb1
    refine sat_skip ?_
    try simp only [s_thN, s_thE, s_thR, s_blN, s_blE, s_blM, s_blR, Nat.reduceEqDiff]
    refine sat_seq ?_
    refine sat_block ?_
    refine sat_seq ?_
    obtain ⟨c1, c2, h⟩ := h
    refine sat_region fun K hK => ?_
    simp only [v1, v2, v3, v4, v5, v6, v7, v8, v9, tf1, tu, litOk, appOk, appS, growD, Nat.reduceEqDiff, Nat.reduceLT, Nat.reduceAdd, Nat.reduceLeDiff, Nat.reduceMul, Nat.reduceBEq, Nat.reduceSub, Int.reduceLE, Int.reduceToNat, Int.reduceLT, Int.reduceNeg, encSIDBalanceNonce, encSLIDAmountNonce, encSAccounts, encSKindIDAmount, c1, c2, elt_ix encSIDBalanceNonce p0 j2 c1 c2, List.map_append, List.length_append, List.length_map, List.map_take, List.map_drop, List.length_drop, List.length_take, Nat.le_refl, true_and]
    refine hK _ ?_
    clear hK K
    try simp only [s_thN, s_thE, s_thR, s_blN, s_blE, s_blM, s_blR, Nat.reduceEqDiff]
    refine sat_cond rfl (fun hb2 => ?_) (fun hb2 => ?_)
    · replace h := h.1 hb2
      refine sat_seq ?_
      obtain ⟨c3, c4, h⟩ := h
      refine sat_region fun K hK => ?_
      simp only [v1, v2, v3, v4, v5, v6, v7, v8, v9, tf1, tu, litOk, appOk, appS, growD, Nat.reduceEqDiff, Nat.reduceLT, Nat.reduceAdd, Nat.reduceLeDiff, Nat.reduceMul, Nat.reduceBEq, Nat.reduceSub, Int.reduceLE, Int.reduceToNat, Int.reduceLT, Int.reduceNeg, encSIDBalanceNonce, encSLIDAmountNonce, encSAccounts, encSKindIDAmount, c3, c4, elt_ix encSIDBalanceNonce p0 j2 c3 c4, List.map_append, List.length_append, List.length_map, List.map_take, List.map_drop, List.length_drop, List.length_take, Nat.le_refl, true_and]
      refine hK _ ?_
      clear hK K
      try simp only [s_thN, s_thE, s_thR, s_blN, s_blE, s_blM, s_blR, Nat.reduceEqDiff]
      subst h
      refine sat_ret (retN [] ?_)
      simp only [v1, v2, v3, v4, v5, v6, v7, v8, v9, tf1, tu, litOk, appOk, appS, growD, Nat.reduceEqDiff, Nat.reduceLT, Nat.reduceAdd, Nat.reduceLeDiff, Nat.reduceMul, Nat.reduceBEq, Nat.reduceSub, Int.reduceLE, Int.reduceToNat, Int.reduceLT, Int.reduceNeg, encSIDBalanceNonce, encSLIDAmountNonce, encSAccounts, encSKindIDAmount, vl, Try.results24, e_sp0, e_sp1, List.map_append, List.length_append, List.length_map, List.map_take, List.map_drop, List.length_drop, List.length_take, Nat.le_refl, true_and]
    · replace h := h.2 hb2
      refine sat_skip ?_
      try simp only [s_thN, s_thE, s_thR, s_blN, s_blE, s_blM, s_blR, Nat.reduceEqDiff]
      refine sat_region fun K hK => ?_
      simp only [v1, v2, v3, v4, v5, v6, v7, v8, v9, tf1, tu, litOk, appOk, appS, growD, Nat.reduceEqDiff, Nat.reduceLT, Nat.reduceAdd, Nat.reduceLeDiff, Nat.reduceMul, Nat.reduceBEq, Nat.reduceSub, Int.reduceLE, Int.reduceToNat, Int.reduceLT, Int.reduceNeg, encSIDBalanceNonce, encSLIDAmountNonce, encSAccounts, encSKindIDAmount, List.map_append, List.length_append, List.length_map, List.map_take, List.map_drop, List.length_drop, List.length_take, Nat.le_refl, true_and]
      refine hK _ ?_
      clear hK K
      try simp only [s_thN, s_thE, s_thR, s_blN, s_blE, s_blM, s_blR, Nat.reduceEqDiff]
      rw [← hnx] at h
      exact ⟨IntKind.i64.wrap (j2 + 1), h.1, h.2, by simp only [v1, v2, v3, v4, v5, v6, v7, v8, v9, tf1, tu, litOk, appOk, appS, growD, Nat.reduceEqDiff, Nat.reduceLT, Nat.reduceAdd, Nat.reduceLeDiff, Nat.reduceMul, Nat.reduceBEq, Nat.reduceSub, Int.reduceLE, Int.reduceToNat, Int.reduceLT, Int.reduceNeg, encSIDBalanceNonce, encSLIDAmountNonce, encSAccounts, encSKindIDAmount, vl, List.map_append, List.length_append, List.length_map, List.map_take, List.map_drop, List.length_drop, List.length_take, Nat.le_refl, true_and]⟩
  · replace h := h.2 hb1
    refine sat_exit ?_
    try simp only [s_thN, s_thE, s_thR, s_blN, s_blE, s_blM, s_blR, Nat.reduceEqDiff]
    refine sat_seq ?_
    refine sat_region fun K hK => ?_
    simp only [v1, v2, v3, v4, v5, v6, v7, v8, v9, tf1, tu, litOk, appOk, appS, growD, Nat.reduceEqDiff, Nat.reduceLT, Nat.reduceAdd, Nat.reduceLeDiff, Nat.reduceMul, Nat.reduceBEq, Nat.reduceSub, Int.reduceLE, Int.reduceToNat, Int.reduceLT, Int.reduceNeg, encSIDBalanceNonce, encSLIDAmountNonce, encSAccounts, encSKindIDAmount, List.map_append, List.length_append, List.length_map, List.map_take, List.map_drop, List.length_drop, List.length_take, Nat.le_refl, true_and]
    refine hK _ ?_
    clear hK K
    try simp only [s_thN, s_thE, s_thR, s_blN, s_blE, s_blM, s_blR, Nat.reduceEqDiff]
    subst h
    refine sat_ret (retN [] ?_)
    simp only [v1, v2, v3, v4, v5, v6, v7, v8, v9, tf1, tu, litOk, appOk, appS, growD, Nat.reduceEqDiff, Nat.reduceLT, Nat.reduceAdd, Nat.reduceLeDiff, Nat.reduceMul, Nat.reduceBEq, Nat.reduceSub, Int.reduceLE, Int.reduceToNat, Int.reduceLT, Int.reduceNeg, encSIDBalanceNonce, encSLIDAmountNonce, encSAccounts, encSKindIDAmount, vl, Try.results24, e_sp0, e_sp1, List.map_append, List.length_append, List.length_map, List.map_take, List.map_drop, List.length_drop, List.length_take, Nat.le_refl, true_and]
end Go.Proofs.Ytjaignojekmfgaa
