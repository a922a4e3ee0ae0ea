/-
  The law 'LedgerGet', in plain terms.
-/
import Derived.Test.YtjaignojekmfgaaP3
namespace Go.Md
open Go Go.Bv

def totA : Int → List Acc → Int × Int
  | s, [] => (s, 0)
  | s, a :: r => if 18446744073709551616 ≤ s + a.Balance then (0, 3) else totA (s + a.Balance) r
theorem tot_drop (s : Int) (l : List Acc) (i : Nat) (h : i < l.length) : totA s (l.drop i) = if 18446744073709551616 ≤ s + l[i].Balance then (0, 3) else totA (s + l[i].Balance) (l.drop (i + 1)) := by
  rw [List.drop_eq_getElem_cons h]
  rfl
theorem r_total (l : List Acc) (h : Ok l) : ledger_Total_Ret ⟨l⟩ (totA 0 l).1 (totA 0 l).2 := by
  have hl := h.2.1
  refine ⟨fun s => ∃ (i : Nat) (t : Int), s = (t, (i : Int)) ∧ i ≤ l.length ∧ (0 ≤ t ∧ t < 18446744073709551616) ∧ totA t (l.drop i) = totA 0 l, fun s => (l.length - s.2).toNat, ⟨0, 0, rfl, by omega, by omega, rfl⟩, ?_⟩
  rintro _ ⟨i, t, rfl, hi, ht, he⟩
  refine ⟨fun hc => ?_, fun hc => ?_⟩
  · have hc := of_decide_eq_true hc
    simp only at hc
    have hi' : i < l.length := by omega
    have hb := h.2.2 _ (List.getElem_mem hi')
    unfold AccOk at hb
    rw [tot_drop _ _ _ hi'] at he
    simp only [ix_get _ _ hi']
    refine ⟨by omega, hc, ht.1, by omega, fun hx => ?_, fun hx => ?_⟩
    · have hx : (t + l[i].Balance + 0) / 18446744073709551616 ≠ 0 := by simpa using hx
      rw [if_pos (by omega)] at he
      rw [← he]
      exact ⟨rfl, rfl⟩
    · have hx : (t + l[i].Balance + 0) / 18446744073709551616 = 0 := by simpa using hx
      rw [if_neg (by omega)] at he
      rw [inc_i64 _ (by omega)]
      have e : (t + l[i].Balance + 0) % 18446744073709551616 = t + l[i].Balance := by omega
      rw [e]
      exact ⟨⟨i + 1, _, rfl, by omega, by omega, he⟩, by (try simp only); omega⟩
  · have hc := of_decide_eq_false hc
    simp only at hc
    have : i = l.length := by omega
    subst this
    rw [List.drop_length] at he
    rw [← he]
    exact ⟨rfl, rfl⟩
theorem r_rtotal (l : List Acc) (h : Ok l) : moidoreref44_Total_Ret l (totA 0 l).1 (totA 0 l).2 := by
  have hl := h.2.1
  refine ⟨fun s => ∃ (i : Nat) (t : Int), s = (t, (i : Int)) ∧ i ≤ l.length ∧ (0 ≤ t ∧ t < 18446744073709551616) ∧ totA t (l.drop i) = totA 0 l, fun s => (l.length - s.2).toNat, ⟨0, 0, rfl, by omega, by omega, rfl⟩, ?_⟩
  rintro _ ⟨i, t, rfl, hi, ht, he⟩
  refine ⟨fun hc => ?_, fun hc => ?_⟩
  · have hc := of_decide_eq_true hc
    simp only at hc
    have hi' : i < l.length := by omega
    have hb := h.2.2 _ (List.getElem_mem hi')
    unfold AccOk at hb
    rw [tot_drop _ _ _ hi'] at he
    simp only [ix_get _ _ hi']
    have hwr : 18446744073709551616 ≤ t + l[i].Balance → IntKind.u64.wrap (t + l[i].Balance) = t + l[i].Balance - 18446744073709551616 := by
      intro hge
      have : IntKind.u64.wrap (t + l[i].Balance) = (t + l[i].Balance) % 18446744073709551616 := by
        simp [IntKind.wrap, IntKind.signed, IntKind.bits]
      rw [this]; omega
    refine ⟨by omega, hc, fun hx => ?_, fun hx => ?_⟩
    · have hx := of_decide_eq_true hx
      rcases Int.lt_or_le (t + l[i].Balance) 18446744073709551616 with hlt | hge
      · rw [wrap_u64 _ (by omega) hlt] at hx; omega
      · rw [if_pos hge] at he
        rw [← he]
        exact ⟨rfl, rfl⟩
    · have hx := of_decide_eq_false hx
      rcases Int.lt_or_le (t + l[i].Balance) 18446744073709551616 with hlt | hge
      · rw [if_neg (by omega)] at he
        rw [wrap_u64 _ (by omega) hlt, inc_i64 _ (by omega)]
        exact ⟨by omega, hc, ⟨i + 1, _, rfl, by omega, by omega, he⟩, by (try simp only); omega⟩
      · rw [hwr hge] at hx; omega
  · have hc := of_decide_eq_false hc
    simp only at hc
    have : i = l.length := by omega
    subst this
    rw [List.drop_length] at he
    rw [← he]
    exact ⟨rfl, rfl⟩
theorem law_get (p : SLIDAmountNonce) (h : CaseOk p) : moidorelaw44_LedgerGet_Ret p true := by
  refine ⟨true, r_awake, rightB p, fun _ => r_right p, fun hb => ⟨true, r_awake, rfl⟩, fun hb => ?_⟩
  have hr : rightB p = true := by simpa using hb
  have hk := right_ok h hr
  have hl := hk.2.1
  refine ⟨_, r_own _ hk.2.1, _, _, r_get p.L p.ID hk.1 (by omega), _, r_own _ hk.2.1, _, _, r_total _ hk, _, _, r_rtotal _ hk, _, r_rget p.L p.ID (by omega), ?_⟩
  simp [moidorelaw44_LedgerGet_J1]
end Go.Md
