/-
  The law 'LedgerMatchesModel', in plain terms.
-/
import Derived.Test.YtjaignojekmfgaaP5
namespace Go.Md
open Go Go.Bv

def Good (n : Nat) (l : List Acc) : Prop := Ok l ∧ Nz l ∧ l.length ≤ n
theorem good_nil (n : Nat) : Good n [] := ⟨ok_nil, by simp [Nz], by simp⟩
theorem good_put {l : List Acc} {x : Acc} {n : Nat} (h : Good n l) (hn : n ≤ 900) (hx : AccOk x) : Good (n + 1) (putA l x) := by
  obtain ⟨h1, h2, h3⟩ := h
  refine ⟨put_ok h1 (by omega) hx, ?_, by have := put_len l x; omega⟩
  obtain ⟨a, m, b, hS⟩ := spl_of h1.1 x.ID
  rw [put_spl h1.1 hS]
  obtain ⟨rfl, _, _, _⟩ := hS
  intro y hy
  simp only [List.mem_append] at hy
  rcases hy with hy | hy | hy
  · exact h2 y (by simp [hy])
  · split at hy
    · rename_i hz; simp at hy; subst hy; exact hz
    · simp at hy
  · exact h2 y (by simp [hy])
theorem good_valid {l : List Acc} {n : Nat} (h : Good n l) (hn : n ≤ 1000) : validB l = true := by
  obtain ⟨h1, h2, h3⟩ := h
  unfold validB
  rw [List.all_eq_true]
  intro k hk
  have hk : k < l.length := by simpa using hk
  have g1 := h1.2.2 _ (List.getElem_mem hk)
  have g2 := h2 _ (List.getElem_mem hk)
  have : badB l (k : Int) = false := by
    unfold badB
    rw [ix_get _ _ hk]
    simp only [Bool.or_eq_false_iff, Bool.and_eq_false_iff, decide_eq_false_iff_not, beq_eq_false_iff_ne]
    unfold AccOk at g1
    refine ⟨⟨⟨by omega, by omega⟩, g2⟩, ?_⟩
    rcases Nat.eq_zero_or_pos k with h0 | h0
    · left; omega
    · right
      have e : IntKind.i64.wrap ((k : Int) - 1) = ((k - 1 : Nat) : Int) := by rw [wrap_i64 _ (by omega) (by omega)]; omega
      rw [e, ix_get _ _ (by omega)]
      have := h1.1 (k - 1) k (by omega) hk
      omega
  simp [this]
theorem good_credit {l : List Acc} {n : Nat} {id amt : Int} (h : Good n l) (hn : n ≤ 900) (hid : 0 ≤ id ∧ id < 18446744069414584321) (ha : 0 ≤ amt) : Good (n + 1) (creditA l id amt).1 := by
  obtain ⟨g1, g2⟩ := getA_ok h.1 id
  unfold creditA
  split
  · exact good_nil _
  · exact good_put h hn ⟨hid, by simp only; omega, g2⟩
theorem good_uncredit {l : List Acc} {n : Nat} {id amt : Int} (h : Good n l) (hn : n ≤ 900) (hid : 0 ≤ id ∧ id < 18446744069414584321) (ha : 0 ≤ amt) : Good (n + 1) (uncreditA l id amt).1 := by
  obtain ⟨g1, g2⟩ := getA_ok h.1 id
  unfold uncreditA
  split
  · exact good_nil _
  · exact good_put h hn ⟨hid, by simp only; omega, g2⟩
theorem good_debit {l : List Acc} {n : Nat} {id amt non : Int} (h : Good n l) (hn : n ≤ 900) (hid : 0 ≤ id ∧ id < 18446744069414584321) (ha : 0 ≤ amt) (hN : 0 ≤ non ∧ non < 18446744073709551616) : Good (n + 1) (debitA l id amt non).1 := by
  obtain ⟨g1, g2⟩ := getA_ok h.1 id
  unfold debitA
  split
  · exact good_nil _
  · split
    · exact good_nil _
    · split
      · exact good_nil _
      · rename_i h1 _
        have : non ≠ 18446744073709551615 := fun e => h1 (.inr e)
        exact good_put h hn ⟨hid, by simp only; omega, by simp only; omega⟩
theorem good_undebit {l : List Acc} {n : Nat} {id amt non : Int} (h : Good n l) (hn : n ≤ 900) (hid : 0 ≤ id ∧ id < 18446744069414584321) (ha : 0 ≤ amt) (hN : 0 ≤ non ∧ non < 18446744073709551616) : Good (n + 1) (undebitA l id amt non).1 := by
  obtain ⟨g1, g2⟩ := getA_ok h.1 id
  unfold undebitA
  split
  · exact good_nil _
  · split
    · exact good_nil _
    · rename_i h1 _
      have : ¬ 9223372036854775807 - (getA l id).Balance < amt := fun e => h1 (.inr (.inl e))
      exact good_put h hn ⟨hid, by simp only; omega, by simp only; omega⟩
def StepOk (s : SKindIDAmount) : Prop := (0 ≤ s.Kind ∧ s.Kind < 256) ∧ (0 ≤ s.ID ∧ s.ID < 18446744073709551616) ∧ 0 ≤ s.Amount ∧ s.Amount < 18446744073709551616
theorem u64_range (n : Int) (h : -1 ≤ n) (h2 : n < 18446744073709551616) : 0 ≤ IntKind.u64.wrap n ∧ IntKind.u64.wrap n < 18446744073709551616 := by
  rcases Int.lt_or_le n 0 with h0 | h0
  · have : n = -1 := by omega
    subst this
    decide
  · rw [wrap_u64 n h0 h2]; omega
theorem law_match (p : List SKindIDAmount) (hp : ∀ s ∈ p, StepOk s) : moidorelaw44_LedgerMatchesModel_Ret p true := by
  refine ⟨true, r_awake, fun _ => ⟨true, r_awake, rfl⟩, fun hb => ?_⟩
  have hl : p.length ≤ 40 := by simp at hb; omega
  refine ⟨fun s => ∃ (i : Nat) (l : List Acc), s = (l, (i : Int), l) ∧ i ≤ p.length ∧ Good i l, fun s => (p.length - s.2.1).toNat, ⟨0, [], rfl, by omega, good_nil 0⟩, ?_⟩
  rintro _ ⟨i, l, rfl, hi, hg⟩
  refine ⟨fun h => ?_, fun _ => rfl⟩
  have h := of_decide_eq_true h
  simp only at h
  have hi' : i < p.length := by omega
  simp only [ix_get _ _ hi']
  obtain ⟨hK, hI, hA⟩ := hp _ (List.getElem_mem hi')
  refine ⟨by omega, h, fun _ => by trivial, fun hid => ?_⟩
  have hid := of_decide_eq_false hid
  have hid' : 0 ≤ (p[i]).ID ∧ (p[i]).ID < 18446744069414584321 := by omega
  obtain ⟨g1, g2⟩ := getA_ok hg.1 (p[i]).ID
  have hw := u64_range ((getA l (p[i]).ID).Nonce - 1) (by omega) (by omega)
  have hJ2 : ∀ l', Good (i + 1) l' → moidorelaw44_LedgerMatchesModel_J2 true (fun s' => (∃ (i : Nat) (l : List Acc), s' = (l, (i : Int), l) ∧ i ≤ p.length ∧ Good i l) ∧ (p.length - s'.2.1).toNat < (p.length - ((l, (i : Int), l) : List Acc × Int × List Acc).2.1).toNat) i l' l' := by
    intro l' hg'
    refine ⟨_, r_back l' (by have := hg'.2.2; omega), true, r_same l' (by have := hg'.2.2; omega), true, fun _ => ?_, fun hh => by simp at hh, fun _ => ?_⟩
    · have := r_lvalid l' (by have := hg'.2.2; omega)
      rw [good_valid hg' (by omega)] at this
      exact this
    · rw [inc_i64 _ (by omega)]
      exact ⟨⟨i + 1, l', rfl, by omega, hg'⟩, by simp only; omega⟩
  have hJ3 : ∀ (l' : List Acc) (c : Int), Good (i + 1) l' → moidorelaw44_LedgerMatchesModel_J3 true (fun s' => (∃ (i : Nat) (l : List Acc), s' = (l, (i : Int), l) ∧ i ≤ p.length ∧ Good i l) ∧ (p.length - s'.2.1).toNat < (p.length - ((l, (i : Int), l) : List Acc × Int × List Acc).2.1).toNat) l i l l' c c l' := by
    intro l' c hg'
    refine ⟨fun hh => by simp at hh, fun _ => ⟨fun _ => hJ2 l' hg', fun _ => hJ2 l ⟨hg.1, hg.2.1, by have := hg.2.2; omega⟩⟩⟩
  have hlen : l.length ≤ 1000 := by have := hg.2.2; omega
  refine ⟨_, r_rget l _ (by omega), fun _ => ?_, fun _ => ⟨fun _ => ?_, fun _ => ⟨fun _ => ?_, fun _ => ?_⟩⟩⟩
  · exact ⟨_, _, r_credit l _ _ hg.1 hA.1 hA.2, _, _, r_rcredit l _ _ hg.1 hA.1 hA.2, hJ3 _ _ (good_credit hg (by omega) hid' hA.1)⟩
  · exact ⟨_, _, r_debit l _ _ _ hg.1 hA.1 hA.2 g2.1 g2.2, _, _, r_rdebit l _ _ _ hg.1 hA.1 hA.2 g2.1 g2.2, hJ3 _ _ (good_debit hg (by omega) hid' hA.1 g2)⟩
  · exact ⟨_, _, r_uncredit l _ _ hg.1 hA.1 hA.2, _, _, r_runcredit l _ _ hg.1 hA.1 hA.2, hJ3 _ _ (good_uncredit hg (by omega) hid' hA.1)⟩
  · exact ⟨_, _, r_undebit l _ _ _ hg.1 hA.1 hA.2 hw.1 hw.2, _, _, r_rundebit l _ _ _ hg.1 hA.1 hA.2 hw.1 hw.2, hJ3 _ _ (good_undebit hg (by omega) hid' hA.1 hw)⟩
end Go.Md
