/-
  What the plain model's functions give, and the law's own.
-/
import Derived.Test.YtjaignojekmfgaaP2
namespace Go.Md
open Go Go.Bv

def badB (p0 : List Acc) (j2 : Int) : Bool := (((decide (18446744069414584321 ≤ (ix p0 j2).ID)) || (decide (9223372036854775807 < (ix p0 j2).Balance))) || ((((ix p0 j2).Balance) == 0) && (((ix p0 j2).Nonce) == 0))) || ((decide (0 < j2)) && (decide ((ix p0 j2).ID ≤ (ix p0 (IntKind.i64.wrap (j2 - 1))).ID)))
def validB (l : List Acc) : Bool := (List.range l.length).all fun i => !badB l (i : Int)
theorem r_valid (l : List Acc) (hl : l.length ≤ 1000) : moidoreref44_Valid_Ret l (validB l) := by
  refine ⟨fun s => ∃ i : Nat, s = (i : Int) ∧ i ≤ l.length ∧ ∀ k, k < i → badB l (k : Int) = false, fun s => (l.length - s).toNat, ⟨0, rfl, by omega, fun k h => by omega⟩, ?_⟩
  rintro _ ⟨i, rfl, hi, hk⟩
  unfold moidoreref44_Valid_L2
  refine ⟨fun h => ?_, fun h => ?_⟩
  · have h := of_decide_eq_true h
    refine ⟨by omega, h, fun _ => by omega, fun _ => h, fun _ => by omega, fun _ => h, fun _ _ => by omega, fun _ _ => h, fun _ _ => by omega, fun _ _ => h, fun _ h0 => ?_, fun _ h0 => ?_, ?_, ?_⟩
    · have h0 := of_decide_eq_true h0
      rw [wrap_i64 _ (by omega) (by omega)]; omega
    · have h0 := of_decide_eq_true h0
      rw [wrap_i64 _ (by omega) (by omega)]; omega
    · intro hb
      have hb : badB l i = true := hb
      symm
      unfold validB
      rw [List.all_eq_false]
      exact ⟨i, by simp; omega, by simp [hb]⟩
    · intro hb
      have hb : badB l i = false := hb
      rw [inc_i64 _ (by omega)]
      refine ⟨⟨i + 1, rfl, by omega, fun k hk' => ?_⟩, by simp only; omega⟩
      rcases Nat.lt_or_ge k i with h5 | h5
      · exact hk k h5
      · have : k = i := by omega
        subst this; exact hb
  · have h := of_decide_eq_false h
    symm
    unfold validB
    rw [List.all_eq_true]
    intro k hm
    have : k < i := by simp at hm; omega
    simp [hk k this]
def W64 (a : Acc) : Prop := (0 ≤ a.ID ∧ a.ID < 18446744073709551616) ∧ (0 ≤ a.Balance ∧ a.Balance < 18446744073709551616) ∧ 0 ≤ a.Nonce ∧ a.Nonce < 18446744073709551616
theorem valid_ok {l : List Acc} (hw : ∀ a ∈ l, W64 a) (hl : l.length ≤ 1000) (h : validB l = true) : Ok l := by
  unfold validB at h
  rw [List.all_eq_true] at h
  have h' : ∀ i (hi : i < l.length), badB l (i : Int) = false := fun i hi => by simpa using h i (by simpa using hi)
  have hadj : ∀ i (hi : i + 1 < l.length), l[i].ID < l[i + 1].ID := by
    intro i hi
    have := h' (i + 1) hi
    unfold badB at this
    rw [ix_get _ _ hi] at this
    have e : IntKind.i64.wrap (((i + 1 : Nat) : Int) - 1) = (i : Int) := by rw [wrap_i64 _ (by omega) (by omega)]; omega
    rw [e, ix_get _ _ (by omega)] at this
    simp only [Bool.or_eq_false_iff, Bool.and_eq_false_iff, decide_eq_false_iff_not] at this
    obtain ⟨_, h1 | h1⟩ := this
    · omega
    · omega
  refine ⟨?_, hl, fun a ha => ?_⟩
  · intro i j hij hj
    induction j with
    | zero => omega
    | succ j ih =>
      have := hadj j hj
      rcases Nat.lt_or_ge i j with h5 | h5
      · have := ih h5 (by omega); omega
      · have : i = j := by omega
        subst this; assumption
  · obtain ⟨k, hk, rfl⟩ := List.getElem_of_mem ha
    have h1 := h' k hk
    have h2 := hw _ ha
    unfold badB at h1
    rw [ix_get _ _ hk] at h1
    simp only [Bool.or_eq_false_iff, decide_eq_false_iff_not] at h1
    unfold AccOk
    unfold W64 at h2
    omega
def rightB (p : SLIDAmountNonce) : Bool := ((decide (((List.length p.L : Nat) : Int) ≤ 20)) && validB p.L) && (decide (p.ID < 18446744069414584321))
theorem r_right (p : SLIDAmountNonce) : moidorelaw44_Case_right_Ret p (rightB p) := ⟨validB p.L, fun h => r_valid _ (by have := of_decide_eq_true h; omega), rfl⟩
theorem r_own (l : List Acc) (hl : l.length ≤ 1000) : moidorelaw44_own_Ret l ⟨l⟩ := by
  refine ⟨fun s => ∃ i : Nat, s = ((i : Int), l.take i) ∧ i ≤ l.length, fun s => (l.length - s.1).toNat, ⟨0, rfl, by omega⟩, ?_⟩
  rintro _ ⟨i, rfl, hi⟩
  refine ⟨fun h => ?_, fun h => ?_⟩
  · have h := of_decide_eq_true h
    simp only at h
    have hs := small24 ((l.take i).length + 1) (by simp; omega)
    refine ⟨by simp only; omega, h, hs.1, hs.2, ?_⟩
    simp only
    rw [inc_i64 _ (by omega), ix_get _ _ (by omega), ← List.take_succ_eq_append_getElem]
    exact ⟨⟨i + 1, rfl, by omega⟩, by (try simp only); omega⟩
  · have h := of_decide_eq_false h
    simp only at h
    have : i = l.length := by omega
    subst this
    simp
theorem r_back (l : List Acc) (hl : l.length ≤ 1001) : moidorelaw44_back_Ret ⟨l⟩ l := by
  refine ⟨fun s => ∃ i : Nat, s = (l.take i, (i : Int)) ∧ i ≤ l.length, fun s => (l.length - s.2).toNat, ⟨0, rfl, by omega⟩, ?_⟩
  rintro _ ⟨i, rfl, hi⟩
  refine ⟨fun h => ?_, fun h => ?_⟩
  · have h := of_decide_eq_true h
    simp only at h
    have hs := small24 ((l.take i).length + 1) (by simp; omega)
    refine ⟨by simp only; omega, h, hs.1, hs.2, ?_⟩
    simp only
    rw [inc_i64 _ (by omega), ix_get _ _ (by omega), ← List.take_succ_eq_append_getElem]
    exact ⟨⟨i + 1, rfl, by omega⟩, by (try simp only); omega⟩
  · have h := of_decide_eq_false h
    simp only at h
    have : i = l.length := by omega
    subst this
    simp
theorem r_same (l : List Acc) (hl : l.length ≤ 1001) : moidoreref44_Same_Ret l l true := by
  refine ⟨fun h => by simp at h, fun _ => ?_⟩
  refine ⟨fun s => ∃ i : Nat, s = (i : Int) ∧ i ≤ l.length, fun s => (l.length - s).toNat, ⟨0, rfl, by omega⟩, ?_⟩
  rintro _ ⟨i, rfl, hi⟩
  refine ⟨fun h => ?_, fun h => rfl⟩
  have h := of_decide_eq_true h
  refine ⟨by omega, h, by omega, h, fun hb => by simp at hb, fun _ => ?_⟩
  rw [inc_i64 _ (by omega)]
  exact ⟨⟨i + 1, rfl, by omega⟩, by simp only; omega⟩
theorem r_rget (l : List Acc) (t : Int) (hl : l.length ≤ 1001) : moidoreref44_Get_Ret l t (getA l t) := by
  refine ⟨fun s => ∃ i : Nat, s = (i : Int) ∧ i ≤ l.length ∧ ∀ k (h : k < l.length), k < i → l[k].ID ≠ t, fun s => (l.length - s).toNat, ⟨0, rfl, by omega, fun k _ h => by omega⟩, ?_⟩
  rintro _ ⟨i, rfl, hi, hk⟩
  refine ⟨fun h => ?_, fun h => ?_⟩
  · have h := of_decide_eq_true h
    have hi' : i < l.length := by omega
    rw [ix_get _ _ hi']
    refine ⟨by omega, h, fun he => ⟨by omega, h, ?_⟩, fun he => ?_⟩
    · exact (getA_at hi' (by simpa using he) hk).symm
    · rw [inc_i64 _ (by omega)]
      refine ⟨⟨i + 1, rfl, by omega, fun k h1 h2 => ?_⟩, by simp only; omega⟩
      rcases Nat.lt_or_ge k i with h5 | h5
      · exact hk k h1 h5
      · have : k = i := by omega
        subst this; simpa using he
  · have h := of_decide_eq_false h
    exact (getA_none (fun k hk' => hk k hk' (by omega))).symm
theorem r_rset (l : List Acc) (a : Acc) (hs : Srt l) (hl : l.length ≤ 1000) (hb : 0 ≤ a.Balance) (hn : 0 ≤ a.Nonce) : moidoreref44_set_Ret l a (putA l a) := by
  have hJ3 : ∀ m : List Acc, m = l.take (lb l a.ID) ++ (if a.Balance ≠ 0 ∨ a.Nonce ≠ 0 then [a] else []) → moidoreref44_set_J3 l a (putA l a) m := by
    intro m hm
    have hml : m.length ≤ 1001 := by
      have := lb_le l a.ID
      rw [hm]; simp only [List.length_append, List.length_take]; split <;> simp <;> omega
    refine ⟨fun s => ∃ i : Nat, s = (m ++ (l.take i).filter (fun x => decide (a.ID < x.ID)), (i : Int)) ∧ i ≤ l.length, fun s => (l.length - s.2).toNat, ⟨0, by simp, by omega⟩, ?_⟩
    rintro _ ⟨i, rfl, hi⟩
    refine ⟨fun h => ?_, fun h => ?_⟩
    · have h := of_decide_eq_true h
      simp only at h
      have hi' : i < l.length := by omega
      have hfl : ((l.take i).filter (fun x => decide (a.ID < x.ID))).length ≤ i := by
        have := List.length_filter_le (fun x => decide (a.ID < x.ID)) (l.take i)
        simp at this ⊢
        omega
      have hs := small24 ((m ++ (l.take i).filter (fun x => decide (a.ID < x.ID))).length + 1) (by rw [List.length_append]; omega)
      have e1 : (l.take (i + 1)).filter (fun x => decide (a.ID < x.ID)) = (l.take i).filter (fun x => decide (a.ID < x.ID)) ++ (if a.ID < l[i].ID then [l[i]] else []) := by
        rw [List.take_succ_eq_append_getElem hi', List.filter_append]
        congr 1
        simp only [List.filter_cons, List.filter_nil, decide_eq_true_eq]
      simp only [ix_get _ _ hi']
      refine ⟨by omega, h, fun hc => ⟨by omega, h, hs.1, hs.2, ?_⟩, fun hc => ?_⟩
      · have hc := of_decide_eq_true hc
        unfold moidoreref44_set_J1
        rw [inc_i64 _ (by omega)]
        refine ⟨⟨i + 1, ?_, by omega⟩, by (try simp only); omega⟩
        rw [e1, if_pos hc, List.append_assoc]
      · have hc := of_decide_eq_false hc
        unfold moidoreref44_set_J1
        rw [inc_i64 _ (by omega)]
        refine ⟨⟨i + 1, ?_, by omega⟩, by (try simp only); omega⟩
        rw [e1, if_neg hc, List.append_nil]
    · have h := of_decide_eq_false h
      simp only at h
      have : i = l.length := by omega
      subst this
      simp only [List.take_length]
      rw [tail_eq hs, hm]
      rfl
  have hJ4 : moidoreref44_set_J4 l a (putA l a) (l.take (lb l a.ID)) ((decide (0 < a.Balance)) || (decide (0 < a.Nonce))) := by
    have hc : ((decide (0 < a.Balance)) || (decide (0 < a.Nonce))) = true ↔ (a.Balance ≠ 0 ∨ a.Nonce ≠ 0) := by simp; omega
    have hs := small24 ((l.take (lb l a.ID)).length + 1) (by simp; omega)
    refine ⟨fun h => ⟨hs.1, hs.2, hJ3 _ ?_⟩, fun h => hJ3 _ ?_⟩
    · rw [if_pos (hc.1 h)]
    · rw [if_neg (fun hh => by rw [hc.2 hh] at h; cases h)]
      simp
  refine ⟨fun s => ∃ i : Nat, s = (l.take i, (i : Int)) ∧ i ≤ l.length ∧ ∀ k (h : k < l.length), k < i → l[k].ID < a.ID, fun s => (l.length - s.2).toNat, ⟨0, rfl, by omega, fun k _ h => by omega⟩, ?_⟩
  rintro _ ⟨i, rfl, hi, hk⟩
  refine ⟨fun h => by simp only; omega, fun h => by simpa using h, ?_, ?_⟩
  · intro h
    simp only [Bool.and_eq_true, decide_eq_true_eq] at h
    have hi' : i < l.length := by omega
    have hs := small24 ((l.take i).length + 1) (by simp; omega)
    rw [ix_get _ _ hi'] at h
    simp only [ix_get _ _ hi']
    refine ⟨by omega, h.1, hs.1, hs.2, ?_⟩
    rw [inc_i64 _ (by omega), ← List.take_succ_eq_append_getElem]
    refine ⟨⟨i + 1, rfl, by omega, fun k h1 h2 => ?_⟩, by (try simp only); omega⟩
    rcases Nat.lt_or_ge k i with h5 | h5
    · exact hk k h1 h5
    · have : k = i := by omega
      subst this; exact h.2
  · intro h
    have : lb l a.ID = i := by
      refine lb_eq l a.ID i hi hk fun hi' => ?_
      rw [ix_get _ _ hi'] at h
      simp only [Bool.and_eq_false_iff, decide_eq_false_iff_not] at h
      omega
    rw [this] at hJ4
    exact hJ4
theorem r_rcredit (l : List Acc) (id amt : Int) (h : Ok l) (ha : 0 ≤ amt) (ha' : amt < 18446744073709551616) : moidoreref44_Credit_Ret l id amt (creditA l id amt).1 (creditA l id amt).2 := by
  obtain ⟨g1, g2⟩ := getA_ok h id
  refine ⟨_, r_rget l id (by have := h.2.1; omega), ?_⟩
  rw [wrap_u64 (9223372036854775807 - (getA l id).Balance) (by omega) (by omega), getA_id]
  refine ⟨fun hh => ?_, fun hh => ?_⟩
  · have := of_decide_eq_true hh
    simp [creditA, this]
  · have := of_decide_eq_false hh
    simp only [creditA, if_neg this]
    rw [wrap_u64 _ (by omega) (by omega)]
    exact ⟨_, r_rset l _ h.1 h.2.1 (by simp only; omega) (by simp only; omega), rfl, by trivial⟩
theorem r_runcredit (l : List Acc) (id amt : Int) (h : Ok l) (ha : 0 ≤ amt) (ha' : amt < 18446744073709551616) : moidoreref44_Uncredit_Ret l id amt (uncreditA l id amt).1 (uncreditA l id amt).2 := by
  obtain ⟨g1, g2⟩ := getA_ok h id
  refine ⟨_, r_rget l id (by have := h.2.1; omega), ?_⟩
  rw [getA_id]
  refine ⟨fun hh => ?_, fun hh => ?_⟩
  · have := of_decide_eq_true hh
    simp [uncreditA, this]
  · have := of_decide_eq_false hh
    simp only [uncreditA, if_neg this]
    rw [wrap_u64 _ (by omega) (by omega)]
    exact ⟨_, r_rset l _ h.1 h.2.1 (by simp only; omega) (by simp only; omega), rfl, by trivial⟩
theorem credit_len (l : List Acc) (id amt : Int) (hl : l.length ≤ 1000) : (creditA l id amt).1.length ≤ 1001 := by
  unfold creditA
  split
  · simp
  · have := put_len l ⟨id, (getA l id).Balance + amt, (getA l id).Nonce⟩
    simp only; omega
theorem uncredit_len (l : List Acc) (id amt : Int) (hl : l.length ≤ 1000) : (uncreditA l id amt).1.length ≤ 1001 := by
  unfold uncreditA
  split
  · simp
  · have := put_len l ⟨id, (getA l id).Balance - amt, (getA l id).Nonce⟩
    simp only; omega
def CaseOk (p : SLIDAmountNonce) : Prop := (∀ a ∈ p.L, W64 a) ∧ (0 ≤ p.ID ∧ p.ID < 18446744073709551616) ∧ (0 ≤ p.Amount ∧ p.Amount < 18446744073709551616) ∧ 0 ≤ p.Nonce ∧ p.Nonce < 18446744073709551616
theorem right_ok {p : SLIDAmountNonce} (h : CaseOk p) (hr : rightB p = true) : Ok p.L := by
  simp only [rightB, Bool.and_eq_true, decide_eq_true_eq] at hr
  exact valid_ok h.1 (by omega) hr.1.2
theorem law_credit (p : SLIDAmountNonce) (h : CaseOk p) : moidorelaw44_LedgerCredit_Ret p true := by
  refine ⟨true, r_awake, rightB p, fun _ => r_right p, fun hb => ⟨true, r_awake, rfl⟩, fun hb => ?_⟩
  have hr : rightB p = true := by simpa using hb
  have hk := right_ok h hr
  obtain ⟨_, _, hA, _⟩ := h
  refine ⟨_, r_own _ hk.2.1, _, _, r_credit p.L p.ID p.Amount hk hA.1 hA.2, _, _, r_rcredit p.L p.ID p.Amount hk hA.1 hA.2, _, r_own _ hk.2.1, _, _, r_uncredit p.L p.ID p.Amount hk hA.1 hA.2,
    _, _, r_runcredit p.L p.ID p.Amount hk hA.1 hA.2, _, fun _ => r_back _ (credit_len _ _ _ hk.2.1), true, fun _ => r_same _ (credit_len _ _ _ hk.2.1), _, fun _ => r_back _ (uncredit_len _ _ _ hk.2.1), true, fun _ => r_same _ (uncredit_len _ _ _ hk.2.1), ?_⟩
  simp [moidorelaw44_LedgerCredit_J1]
end Go.Md
