/-
  The laws 'LedgerDebit' and 'LedgerValid', in plain terms.
-/
import Derived.Test.YtjaignojekmfgaaP3
namespace Go.Md
open Go Go.Bv

theorem r_rdebit (l : List Acc) (id amt non : Int) (h : Ok l) (ha : 0 ≤ amt) (ha' : amt < 18446744073709551616) (hn : 0 ≤ non) (hn' : non < 18446744073709551616) : moidoreref44_Debit_Ret l id amt non (debitA l id amt non).1 (debitA l id amt non).2 := by
  obtain ⟨g1, g2⟩ := getA_ok h id
  refine ⟨_, r_rget l id (by have := h.2.1; omega), fun hh => ?_, fun hh => ?_⟩
  · have : amt = 0 := by simpa using hh
    simp [debitA, this]
  · have h0 : amt ≠ 0 := by simpa using hh
    simp only [debitA, if_neg h0]
    refine ⟨fun hh => ?_, fun hh => ?_⟩
    · have : non ≠ (getA l id).Nonce ∨ non = 18446744073709551615 := by simpa using hh
      simp [this]
    · have h1 : ¬ (non ≠ (getA l id).Nonce ∨ non = 18446744073709551615) := by simpa using hh
      simp only [if_neg h1]
      refine ⟨fun hh => ?_, fun hh => ?_⟩
      · have := of_decide_eq_true hh
        simp [this]
      · have h2 := of_decide_eq_false hh
        simp only [if_neg h2]
        have h3 : non ≠ 18446744073709551615 := fun e => h1 (.inr e)
        have h4 : non = (getA l id).Nonce := Classical.byContradiction fun e => h1 (.inl e)
        rw [wrap_u64 _ (by omega) (by omega), wrap_u64 ((getA l id).Nonce + 1) (by omega) (by omega), getA_id, h4]
        exact ⟨_, r_rset l _ h.1 h.2.1 (by simp only; omega) (by simp only; omega), rfl, by trivial⟩
theorem r_rundebit (l : List Acc) (id amt non : Int) (h : Ok l) (ha : 0 ≤ amt) (ha' : amt < 18446744073709551616) (hn : 0 ≤ non) (hn' : non < 18446744073709551616) : moidoreref44_Undebit_Ret l id amt non (undebitA l id amt non).1 (undebitA l id amt non).2 := by
  obtain ⟨g1, g2⟩ := getA_ok h id
  refine ⟨_, r_rget l id (by have := h.2.1; omega), ?_⟩
  rw [wrap_u64 (9223372036854775807 - (getA l id).Balance) (by omega) (by omega)]
  refine ⟨fun hh => ?_, fun hh => ?_⟩
  · have : amt = 0 ∨ 9223372036854775807 - (getA l id).Balance < amt ∨ (getA l id).Nonce = 0 := by simpa [or_assoc] using hh
    simp [undebitA, this]
  · have h0 : ¬ (amt = 0 ∨ 9223372036854775807 - (getA l id).Balance < amt ∨ (getA l id).Nonce = 0) := by
      intro hc
      have : (((amt == 0) || decide (9223372036854775807 - (getA l id).Balance < amt)) || ((getA l id).Nonce == 0)) = true := by simpa [or_assoc] using hc
      rw [hh] at this; cases this
    have hn0 : (getA l id).Nonce ≠ 0 := fun e => h0 (.inr (.inr e))
    have hex : ¬ 9223372036854775807 - (getA l id).Balance < amt := fun e => h0 (.inr (.inl e))
    simp only [undebitA, if_neg h0]
    rw [wrap_u64 ((getA l id).Nonce - 1) (by omega) (by omega)]
    refine ⟨fun hh => ?_, fun hh => ?_⟩
    · have : (getA l id).Nonce - 1 ≠ non := by simpa using hh
      simp [this]
    · have h1 : (getA l id).Nonce - 1 = non := by simpa using hh
      simp only [if_neg (fun e => e h1 : ¬ ((getA l id).Nonce - 1 ≠ non))]
      rw [wrap_u64 _ (by omega) (by omega), getA_id, h1]
      exact ⟨_, r_rset l _ h.1 h.2.1 (by simp only; omega) (by simp only; omega), rfl, by trivial⟩
theorem debit_len (l : List Acc) (id amt non : Int) (hl : l.length ≤ 1000) : (debitA l id amt non).1.length ≤ 1001 := by
  unfold debitA
  split
  · simp
  · split
    · simp
    · split
      · simp
      · have := put_len l ⟨id, (getA l id).Balance - amt, non + 1⟩
        simp only; omega
theorem undebit_len (l : List Acc) (id amt non : Int) (hl : l.length ≤ 1000) : (undebitA l id amt non).1.length ≤ 1001 := by
  unfold undebitA
  split
  · simp
  · split
    · simp
    · have := put_len l ⟨id, (getA l id).Balance + amt, non⟩
      simp only; omega
theorem law_debit (p : SLIDAmountNonce) (h : CaseOk p) : moidorelaw44_LedgerDebit_Ret p true := by
  refine ⟨true, r_awake, rightB p, fun _ => r_right p, fun hb => ⟨true, r_awake, rfl⟩, fun hb => ?_⟩
  have hr : rightB p = true := by simpa using hb
  have hk := right_ok h hr
  obtain ⟨_, _, hA, hN⟩ := h
  refine ⟨_, r_own _ hk.2.1, _, _, r_debit p.L p.ID p.Amount p.Nonce hk hA.1 hA.2 hN.1 hN.2, _, _, r_rdebit p.L p.ID p.Amount p.Nonce hk hA.1 hA.2 hN.1 hN.2, _, r_own _ hk.2.1, _, _, r_undebit p.L p.ID p.Amount p.Nonce hk hA.1 hA.2 hN.1 hN.2,
    _, _, r_rundebit p.L p.ID p.Amount p.Nonce hk hA.1 hA.2 hN.1 hN.2, _, fun _ => r_back _ (debit_len _ _ _ _ hk.2.1), true, fun _ => r_same _ (debit_len _ _ _ _ hk.2.1), _, fun _ => r_back _ (undebit_len _ _ _ _ hk.2.1), true, fun _ => r_same _ (undebit_len _ _ _ _ hk.2.1), ?_⟩
  simp [moidorelaw44_LedgerDebit_J1]
theorem r_lvalid (l : List Acc) (hl : l.length ≤ 1000) : ledger_Valid_Ret ⟨l⟩ (validB l) := by
  refine ⟨fun s => ∃ i : Nat, s = (i : Int) ∧ i ≤ l.length ∧ ∀ k, k < i → badB l (k : Int) = false, fun s => (l.length - s).toNat, ⟨0, rfl, by omega, fun k h => by omega⟩, ?_⟩
  rintro _ ⟨i, rfl, hi, hk⟩
  have hbad : i < l.length → badB l i = true → false = validB l := by
    intro h hb
    symm
    unfold validB
    rw [List.all_eq_false]
    exact ⟨i, by simp; omega, by simp [hb]⟩
  unfold ledger_Valid_L3
  refine ⟨fun h => ?_, fun h => ?_⟩
  · have h := of_decide_eq_true h
    simp only at h
    refine ⟨by omega, h, fun hb => hbad (by omega) ?_, fun hb => ⟨fun h0 => ?_, fun h0 => ?_, fun hb2 => hbad (by omega) ?_, fun hb2 => ?_⟩⟩
    · unfold badB; rw [hb]; rfl
    · have h0 := of_decide_eq_true h0
      rw [wrap_i64 _ (by omega) (by omega)]; omega
    · have h0 := of_decide_eq_true h0
      simp only
      rw [wrap_i64 _ (by omega) (by omega)]; omega
    · unfold badB; rw [hb]; exact hb2
    · have hb3 : badB l i = false := by unfold badB; rw [hb]; exact hb2
      rw [inc_i64 _ (by omega)]
      refine ⟨⟨i + 1, rfl, by omega, fun k hk' => ?_⟩, by simp only; omega⟩
      rcases Nat.lt_or_ge k i with h5 | h5
      · exact hk k h5
      · have : k = i := by omega
        subst this; exact hb3
  · have h := of_decide_eq_false h
    simp only at h
    symm
    unfold validB
    rw [List.all_eq_true]
    intro k hm
    have : k < i := by simp at hm; omega
    simp [hk k this]
theorem law_valid (l : List Acc) : moidorelaw44_LedgerValid_Ret l true := by
  by_cases hl : 20 < ((l.length : Nat) : Int)
  · refine ⟨true, r_awake, ⟨l⟩, fun _ h => ?_, true, fun _ h => ?_, true, fun _ h => ?_, ?_⟩
    · exact absurd hl (of_decide_eq_false h)
    · exact absurd hl (of_decide_eq_false h)
    · exact absurd hl (of_decide_eq_false h)
    · simp [moidorelaw44_LedgerValid_J1, hl]
  · refine ⟨true, r_awake, ⟨l⟩, fun _ _ => r_own l (by omega), validB l, fun _ _ => r_lvalid l (by omega), validB l, fun _ _ => r_valid l (by omega), ?_⟩
    simp [moidorelaw44_LedgerValid_J1]
end Go.Md
