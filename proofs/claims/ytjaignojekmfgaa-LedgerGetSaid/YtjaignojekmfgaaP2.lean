/-
  What the ledger's functions give.
-/
import Derived.Test.YtjaignojekmfgaaP1
namespace Go.Md
open Go Go.Bv

def cmp3 (a b : Int) : Int := if a < b then -1 else if b < a then 1 else 0
theorem cmp3_lt {a b : Int} : (cmp3 a b < 0) ↔ a < b := by unfold cmp3; split <;> (try split) <;> omega
theorem cmp3_eq {a b : Int} : (cmp3 a b = 0) ↔ a = b := by unfold cmp3; split <;> (try split) <;> omega
theorem r_nan (a : Int) : cmp_isNaN_uint64_Ret a false := by simp [cmp_isNaN_uint64_Ret]
theorem r_cmp (a b : Int) : cmp_Compare_uint64_Ret a b (cmp3 a b) := by
  refine ⟨false, r_nan a, false, r_nan b, ?_⟩
  simp only [Bool.false_eq_true, false_implies, true_implies, true_and, decide_eq_true_eq, decide_eq_false_iff_not]
  unfold cmp3
  refine ⟨fun h => by simp [h], fun h => ⟨fun h2 => by simp [h, h2], fun h2 => by simp [h, h2]⟩⟩
theorem r_find1 (a : Acc) (t : Int) : ledger_find_1_Ret a t (cmp3 a.ID t) := ⟨_, r_cmp _ _, rfl⟩
theorem r_bs (l : List Acc) (t : Int) (hs : Srt l) (hl : l.length < 4611686018427387904) : slices_BinarySearchFunc_ledger_Account_ledger_Account_uint64_edger_find_1_Ret l t (lb l t) (fnd l t) := by
  refine ⟨fun s => ∃ i j : Nat, s = ((i : Int), (j : Int)) ∧ i ≤ j ∧ j ≤ l.length ∧ (∀ k (h : k < l.length), k < i → l[k].ID < t) ∧ (∀ k (h : k < l.length), j ≤ k → t ≤ l[k].ID), fun s => (s.2 - s.1).toNat, ⟨0, l.length, rfl, by omega, by omega, fun k h hk => by omega, fun k h hk => by omega⟩, ?_⟩
  rintro _ ⟨i, j, rfl, hij, hj, h1, h2⟩
  unfold slices_BinarySearchFunc_ledger_Account_ledger_Account_uint64_edger_find_1_L2
  simp only [decide_eq_true_eq, decide_eq_false_iff_not]
  refine ⟨fun hlt => ?_, fun hlt => ?_⟩
  · have hlt' : i < j := by omega
    rw [mid_eq i j (by omega)]
    have hm : (i + j) / 2 < l.length := by omega
    refine ⟨by omega, by omega, _, r_find1 _ _, fun hc => ?_, fun hc => ?_⟩
    · rw [cmp3_lt, ix_get _ _ hm] at hc
      rw [inc_i64 _ (by omega)]
      refine ⟨⟨(i + j) / 2 + 1, j, rfl, by omega, hj, fun k h hk => ?_, h2⟩, by (try simp only); omega⟩
      rcases Nat.lt_or_ge k ((i + j) / 2) with h5 | h5
      · have := hs _ _ h5 hm; omega
      · have : k = (i + j) / 2 := by omega
        subst this; exact hc
    · rw [cmp3_lt, ix_get _ _ hm] at hc
      refine ⟨⟨i, (i + j) / 2, rfl, by omega, by omega, h1, fun k h hk => ?_⟩, by (try simp only); omega⟩
      rcases Nat.lt_or_ge ((i + j) / 2) k with h5 | h5
      · have := hs _ _ h5 h; omega
      · have : k = (i + j) / 2 := by omega
        subst this; omega
  · have : i = j := by omega
    subst this
    have hb : lb l t = i := lb_eq l t i hj h1 (fun h => h2 i h (by omega))
    refine ⟨fun h => by omega, fun h => h, _, fun _ => r_find1 _ _, ?_, ?_⟩
    · rw [hb]
    · unfold fnd
      rw [hb]
      by_cases hi : i < l.length
      · rw [ix_get _ _ hi, List.getElem?_eq_getElem hi]
        have : ((i : Int) < (l.length : Int)) := by omega
        simp only [this, decide_true, Bool.true_and]
        rw [Bool.eq_iff_iff]
        simp [cmp3_eq]
      · rw [List.getElem?_eq_none (by omega)]
        have : ¬ ((i : Int) < (l.length : Int)) := by omega
        simp [this]
theorem r_find (l : List Acc) (t : Int) (hs : Srt l) (hl : l.length < 4611686018427387904) : ledger_find_Ret ⟨l⟩ t (lb l t) (fnd l t) := ⟨_, _, r_bs l t hs hl, rfl, rfl⟩
theorem r_get (l : List Acc) (t : Int) (hs : Srt l) (hl : l.length < 4611686018427387904) : ledger_Get_Ret ⟨l⟩ t (getA l t).Balance (getA l t).Nonce := by
  refine ⟨_, _, r_find l t hs hl, fun h => ?_, fun h => ?_⟩
  · have hf : fnd l t = false := by simpa using h
    rw [getA_no hs hf]
    exact ⟨rfl, rfl⟩
  · have hf : fnd l t = true := by simpa using h
    obtain ⟨hb, _⟩ := fnd_true hf
    rw [getA_of hs hf hb]
    refine ⟨by omega, by simp only; omega, by omega, by simp only; omega, ?_, ?_⟩ <;> simp only [ix_get _ _ hb]
theorem r_exc (b a : Int) (hb : 0 ≤ b) (hb' : b ≤ 9223372036854775807) : ledger_exceeds_Ret b a (decide (9223372036854775807 - b < a)) := by
  unfold ledger_exceeds_Ret ledger_exceeds_J1
  rw [wrap_u64 _ (by omega) (by omega)]
  rw [Bool.eq_iff_iff]
  simp
  omega
theorem r_clone (l : List Acc) (hl : l.length ≤ 100000) : slices_Clone_ledger_Account_ledger_Account_Ret l l := by
  intro z hz
  refine ⟨fun h => (hz h).symm, fun _ => ⟨(small24 _ hl).1, (small24 _ hl).2, rfl⟩⟩
theorem put_len (l : List Acc) (a : Acc) : (putA l a).length ≤ l.length + 1 := by
  have := lb_le l a.ID
  unfold putA
  simp only [List.length_append, List.length_take, List.length_drop]
  split <;> simp <;> omega
theorem r_set (l : List Acc) (a : Acc) (hs : Srt l) (hl : l.length ≤ 1000) : ledger_set_Ret ⟨l⟩ a ⟨putA l a⟩ := by
  have hlb := lb_le l a.ID
  refine ⟨_, _, r_find l a.ID hs (by omega), by omega, by simp only; omega, _, r_clone _ (by simp; omega), ?_⟩
  have hJ1 : ∀ m : List Acc, m = l.take (lb l a.ID) ++ (if a.Balance ≠ 0 ∨ a.Nonce ≠ 0 then [a] else []) → ledger_set_J2 ⟨l⟩ ⟨putA l a⟩ (lb l a.ID) (fnd l a.ID) m := by
    intro m hm
    have hml : m.length ≤ 1001 := by
      rw [hm]; simp only [List.length_append, List.length_take]; split <;> simp <;> omega
    refine ⟨fun hf => ?_, fun hf => ?_⟩
    · obtain ⟨hb, _⟩ := fnd_true hf
      rw [inc_i64 _ (by omega)]
      refine ⟨by omega, by simp only; omega, (small24 _ (by simp only; omega)).1, (small24 _ (by simp only; omega)).2, ?_⟩
      simp only [List.take_length, SAccounts.mk.injEq]
      rw [hm]
      unfold putA
      rw [hf]
      rfl
    · refine ⟨by omega, by simp only; omega, (small24 _ (by simp only; omega)).1, (small24 _ (by simp only; omega)).2, ?_⟩
      simp only [List.take_length, SAccounts.mk.injEq]
      rw [hm]
      unfold putA
      rw [hf]
      rfl
  have hc : ((a.Balance != 0) || (a.Nonce != 0)) = true ↔ (a.Balance ≠ 0 ∨ a.Nonce ≠ 0) := by simp
  refine ⟨fun h => ?_, fun h => ?_⟩
  · refine ⟨(small24 _ (by simp; omega)).1, (small24 _ (by simp; omega)).2, hJ1 _ ?_⟩
    rw [if_pos (hc.1 h)]
    rfl
  · refine hJ1 _ ?_
    rw [if_neg (fun hh => by rw [hc.2 hh] at h; cases h)]
    simp
theorem r_credit (l : List Acc) (id amt : Int) (h : Ok l) (ha : 0 ≤ amt) (ha' : amt < 18446744073709551616) : ledger_Credit_Ret ⟨l⟩ id amt ⟨(creditA l id amt).1⟩ (creditA l id amt).2 := by
  obtain ⟨g1, g2⟩ := getA_ok h id
  refine ⟨_, _, r_get l id h.1 (by have := h.2.1; omega), _, r_exc _ _ g1.1 g1.2, fun hh => ?_, fun hh => ?_⟩
  · have := of_decide_eq_true hh
    simp [creditA, this]
  · have := of_decide_eq_false hh
    simp only [creditA, if_neg this]
    rw [wrap_u64 _ (by omega) (by omega)]
    exact ⟨_, r_set l _ h.1 h.2.1, rfl, by trivial⟩
theorem r_uncredit (l : List Acc) (id amt : Int) (h : Ok l) (ha : 0 ≤ amt) (ha' : amt < 18446744073709551616) : ledger_Uncredit_Ret ⟨l⟩ id amt ⟨(uncreditA l id amt).1⟩ (uncreditA l id amt).2 := by
  obtain ⟨g1, g2⟩ := getA_ok h id
  refine ⟨_, _, r_get l id h.1 (by have := h.2.1; omega), fun hh => ?_, fun hh => ?_⟩
  · have := of_decide_eq_true hh
    simp [uncreditA, this]
  · have := of_decide_eq_false hh
    simp only [uncreditA, if_neg this]
    rw [wrap_u64 _ (by omega) (by omega)]
    exact ⟨_, r_set l _ h.1 h.2.1, rfl, by trivial⟩
theorem r_debit (l : List Acc) (id amt non : Int) (h : Ok l) (ha : 0 ≤ amt) (ha' : amt < 18446744073709551616) (hn : 0 ≤ non) (hn' : non < 18446744073709551616) : ledger_Debit_Ret ⟨l⟩ id amt non ⟨(debitA l id amt non).1⟩ (debitA l id amt non).2 := by
  obtain ⟨g1, g2⟩ := getA_ok h id
  refine ⟨_, _, r_get l id h.1 (by have := h.2.1; omega), fun hh => ?_, fun hh => ?_⟩
  · have : amt = 0 := by simpa using hh
    simp [debitA, this]
  · have h0 : amt ≠ 0 := by simpa using hh
    simp only [debitA, if_neg h0]
    refine ⟨fun hh => ?_, fun hh => ?_⟩
    · have : non ≠ (getA l id).Nonce ∨ non = 18446744073709551615 := by simpa using hh
      simp [this]
    · have h1 : ¬ (non ≠ (getA l id).Nonce ∨ non = 18446744073709551615) := by simpa using hh
      simp only [if_neg h1]
      refine ⟨fun hh => ?_, fun hh => ?_⟩
      · have := of_decide_eq_true hh
        simp [this]
      · have h2 := of_decide_eq_false hh
        simp only [if_neg h2]
        have : non ≠ 18446744073709551615 := fun e => h1 (.inr e)
        rw [wrap_u64 _ (by omega) (by omega), wrap_u64 (non + 1) (by omega) (by omega)]
        exact ⟨_, r_set l _ h.1 h.2.1, rfl, by trivial⟩
theorem r_undebit (l : List Acc) (id amt non : Int) (h : Ok l) (ha : 0 ≤ amt) (ha' : amt < 18446744073709551616) (hn : 0 ≤ non) (hn' : non < 18446744073709551616) : ledger_Undebit_Ret ⟨l⟩ id amt non ⟨(undebitA l id amt non).1⟩ (undebitA l id amt non).2 := by
  obtain ⟨g1, g2⟩ := getA_ok h id
  refine ⟨_, _, r_get l id h.1 (by have := h.2.1; omega), _, fun _ => r_exc _ _ g1.1 g1.2, fun hh => ?_, fun hh => ?_⟩
  · have : amt = 0 ∨ 9223372036854775807 - (getA l id).Balance < amt ∨ (getA l id).Nonce = 0 := by simpa [or_assoc] using hh
    simp [undebitA, this]
  · have h0 : ¬ (amt = 0 ∨ 9223372036854775807 - (getA l id).Balance < amt ∨ (getA l id).Nonce = 0) := by
      intro hc
      have : (((amt == 0) || decide (9223372036854775807 - (getA l id).Balance < amt)) || ((getA l id).Nonce == 0)) = true := by simpa [or_assoc] using hc
      rw [hh] at this; cases this
    have hn0 : (getA l id).Nonce ≠ 0 := fun e => h0 (.inr (.inr e))
    have hex : ¬ 9223372036854775807 - (getA l id).Balance < amt := fun e => h0 (.inr (.inl e))
    simp only [undebitA, if_neg h0]
    rw [wrap_u64 ((getA l id).Nonce - 1) (by omega) (by omega)]
    refine ⟨fun hh => ?_, fun hh => ?_⟩
    · have : (getA l id).Nonce - 1 ≠ non := by simpa using hh
      simp [this]
    · have h1 : ¬ ((getA l id).Nonce - 1 ≠ non) := by simpa using hh
      simp only [if_neg h1]
      rw [wrap_u64 _ (by omega) (by omega)]
      exact ⟨_, r_set l _ h.1 h.2.1, rfl, by trivial⟩
theorem ok_nil : Ok [] := ⟨fun i j _ h => by simp at h, by simp, by simp⟩
theorem ok_one (a : Acc) (h : AccOk a) : Ok [a] := ⟨fun i j h1 h2 => by simp at h2; omega, by simp, by simpa using h⟩
theorem r_awake : moidorelaw44_awake_Ret true := by
  have e1 : creditA [] 5 10 = ([⟨5, 10, 0⟩], 0) := rfl
  have e2 : debitA [⟨5, 10, 0⟩] 5 10 0 = ([⟨5, 0, 1⟩], 0) := rfl
  have e3 : debitA [⟨5, 0, 1⟩] 5 10 0 = ([], 20) := rfl
  have e4 : undebitA [⟨5, 0, 1⟩] 5 10 0 = ([⟨5, 10, 0⟩], 0) := rfl
  have e5 : uncreditA [⟨5, 10, 0⟩] 5 10 = ([], 0) := rfl
  have e6 : getA [⟨5, 0, 1⟩] 5 = ⟨5, 0, 1⟩ := rfl
  have k1 : Ok [⟨5, 10, 0⟩] := ok_one _ (by simp [AccOk])
  have k2 : Ok [⟨5, 0, 1⟩] := ok_one _ (by simp [AccOk])
  have h1 := r_credit [] 5 10 ok_nil (by decide) (by decide)
  have h2 := r_debit [⟨5, 10, 0⟩] 5 10 0 k1 (by decide) (by decide) (by decide) (by decide)
  have h3 := r_debit [⟨5, 0, 1⟩] 5 10 0 k2 (by decide) (by decide) (by decide) (by decide)
  have h4 := r_undebit [⟨5, 0, 1⟩] 5 10 0 k2 (by decide) (by decide) (by decide) (by decide)
  have h5 := r_uncredit [⟨5, 10, 0⟩] 5 10 k1 (by decide) (by decide)
  have h6 := r_get [⟨5, 0, 1⟩] 5 k2.1 (by decide)
  rw [e1] at h1; rw [e2] at h2; rw [e3] at h3; rw [e4] at h4; rw [e5] at h5; rw [e6] at h6
  exact ⟨_, _, h1, _, _, h2, _, _, h3, _, _, h4, _, _, h5, _, _, h6, rfl⟩
end Go.Md
