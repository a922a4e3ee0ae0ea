/-
  The law 'LedgerUndo', in plain terms.
-/
import Derived.Test.YtjaignojekmfgaaP4
namespace Go.Md
open Go Go.Bv

theorem srt_pw {l : List Acc} : Srt l ↔ l.Pairwise (fun a b => a.ID < b.ID) := by
  rw [List.pairwise_iff_getElem]
  exact ⟨fun h i j hi hj hij => h i j hij hj, fun h i j hij hj => h i j (by omega) hj hij⟩
def Mid (id : Int) (m : List Acc) : Prop := m = [] ∨ ∃ x : Acc, m = [x] ∧ x.ID = id
def Spl (l : List Acc) (id : Int) (a m b : List Acc) : Prop := l = a ++ (m ++ b) ∧ (∀ x ∈ a, x.ID < id) ∧ Mid id m ∧ ∀ x ∈ b, id < x.ID
theorem spl_of {l : List Acc} (hs : Srt l) (id : Int) : ∃ a m b, Spl l id a m b := by
  rw [srt_pw] at hs
  induction l with
  | nil => exact ⟨[], [], [], rfl, by simp, .inl rfl, by simp⟩
  | cons x r ih =>
    obtain ⟨h1, h2⟩ := List.pairwise_cons.1 hs
    by_cases hx : x.ID < id
    · obtain ⟨a, m, b, rfl, g1, g2, g3⟩ := ih h2
      refine ⟨x :: a, m, b, rfl, ?_, g2, g3⟩
      intro y hy
      rcases List.mem_cons.1 hy with rfl | hy
      · exact hx
      · exact g1 y hy
    · by_cases he : x.ID = id
      · exact ⟨[], [x], r, rfl, by simp, .inr ⟨x, rfl, he⟩, fun y hy => by have := h1 y hy; omega⟩
      · refine ⟨[], [], x :: r, rfl, by simp, .inl rfl, ?_⟩
        intro y hy
        rcases List.mem_cons.1 hy with rfl | hy
        · omega
        · have := h1 y hy; omega
theorem take_lb (l : List Acc) (t : Int) : l.take (lb l t) = l.takeWhile (fun a => decide (a.ID < t)) := (List.prefix_iff_eq_take.1 (List.takeWhile_prefix _)).symm
theorem put_spl {l a m b : List Acc} {x : Acc} (hs : Srt l) (h : Spl l x.ID a m b) : putA l x = a ++ ((if x.Balance ≠ 0 ∨ x.Nonce ≠ 0 then [x] else []) ++ b) := by
  obtain ⟨rfl, h1, h2, h3⟩ := h
  unfold putA
  rw [← tail_eq hs, take_lb, List.append_assoc]
  have e1 : (a ++ (m ++ b)).takeWhile (fun y => decide (y.ID < x.ID)) = a := by
    rw [List.takeWhile_append_of_pos (by intro y hy; simpa using h1 y hy)]
    have : (m ++ b).takeWhile (fun y => decide (y.ID < x.ID)) = [] := by
      rcases h2 with rfl | ⟨y, rfl, hy⟩
      · cases b with
        | nil => rfl
        | cons y b => rw [List.nil_append, List.takeWhile_cons, if_neg]; have := h3 y (by simp); simp; omega
      · rw [List.cons_append, List.takeWhile_cons, if_neg]; simp; omega
    rw [this, List.append_nil]
  have e2 : (a ++ (m ++ b)).filter (fun y => decide (x.ID < y.ID)) = b := by
    rw [List.filter_append, List.filter_append]
    have f1 : a.filter (fun y => decide (x.ID < y.ID)) = [] := by
      rw [List.filter_eq_nil_iff]; intro y hy; have := h1 y hy; simp; omega
    have f2 : m.filter (fun y => decide (x.ID < y.ID)) = [] := by
      rw [List.filter_eq_nil_iff]; intro y hy
      rcases h2 with rfl | ⟨z, rfl, hz⟩
      · simp at hy
      · simp at hy; subst hy; simp; omega
    have f3 : b.filter (fun y => decide (x.ID < y.ID)) = b := by
      rw [List.filter_eq_self]; intro y hy; have := h3 y hy; simpa using this
    rw [f1, f2, f3]; rfl
  rw [e1, e2]
theorem get_spl {l a m b : List Acc} {id : Int} (h : Spl l id a m b) : getA l id = m.headD ⟨id, 0, 0⟩ := by
  obtain ⟨rfl, h1, h2, h3⟩ := h
  unfold getA
  have f1 : a.find? (fun y => decide (y.ID = id)) = none := by
    rw [List.find?_eq_none]; intro y hy; have := h1 y hy; simp; omega
  have f3 : b.find? (fun y => decide (y.ID = id)) = none := by
    rw [List.find?_eq_none]; intro y hy; have := h3 y hy; simp; omega
  rw [List.find?_append, List.find?_append, f1, f3]
  rcases h2 with rfl | ⟨x, rfl, hx⟩
  · rfl
  · simp [hx]
theorem srt_spl {a m b : List Acc} {id : Int} {l : List Acc} (hs : Srt l) (h : Spl l id a m b) {m' : List Acc} (hm : Mid id m') : Srt (a ++ (m' ++ b)) := by
  obtain ⟨rfl, h1, h2, h3⟩ := h
  rw [srt_pw] at hs ⊢
  rw [List.pairwise_append] at hs ⊢
  obtain ⟨k1, k2, k3⟩ := hs
  rw [List.pairwise_append] at k2 ⊢
  obtain ⟨_, k4, _⟩ := k2
  refine ⟨k1, ⟨?_, k4, ?_⟩, ?_⟩
  · rcases hm with rfl | ⟨x, rfl, _⟩ <;> simp
  · intro x hx y hy
    rcases hm with rfl | ⟨z, rfl, hz⟩
    · simp at hx
    · simp at hx; subst hx; have := h3 y hy; omega
  · intro x hx y hy
    have h4 := h1 x hx
    rcases List.mem_append.1 hy with hy | hy
    · rcases hm with rfl | ⟨z, rfl, hz⟩
      · simp at hy
      · simp at hy; subst hy; omega
    · have := h3 y hy; omega
theorem mid_put (x : Acc) : Mid x.ID (if x.Balance ≠ 0 ∨ x.Nonce ≠ 0 then [x] else []) := by
  split
  · exact .inr ⟨x, rfl, rfl⟩
  · exact .inl rfl
theorem put_ok {l : List Acc} {x : Acc} (h : Ok l) (hl : l.length ≤ 999) (hx : AccOk x) : Ok (putA l x) := by
  obtain ⟨a, m, b, hS⟩ := spl_of h.1 x.ID
  refine ⟨?_, by have := put_len l x; omega, ?_⟩
  · rw [put_spl h.1 hS]
    exact srt_spl h.1 hS (mid_put x)
  · rw [put_spl h.1 hS]
    intro y hy
    obtain ⟨rfl, _, _, _⟩ := hS
    simp only [List.mem_append] at hy
    rcases hy with hy | hy | hy
    · exact h.2.2 y (by simp [hy])
    · split at hy
      · simp at hy; subst hy; exact hx
      · simp at hy
    · exact h.2.2 y (by simp [hy])
def Nz (l : List Acc) : Prop := ∀ a ∈ l, a.Balance ≠ 0 ∨ a.Nonce ≠ 0
theorem get_put {l : List Acc} {x : Acc} (hs : Srt l) : getA (putA l x) x.ID = x := by
  obtain ⟨a, m, b, hS⟩ := spl_of hs x.ID
  rw [put_spl hs hS]
  rw [get_spl (m := if x.Balance ≠ 0 ∨ x.Nonce ≠ 0 then [x] else []) ⟨rfl, hS.2.1, mid_put x, hS.2.2.2⟩]
  split
  · rfl
  · rename_i h
    obtain ⟨i, bl, n⟩ := x
    simp only [not_or, Decidable.not_not] at h
    obtain ⟨rfl, rfl⟩ := h
    rfl
theorem put_put {l : List Acc} {x : Acc} (hs : Srt l) (hz : Nz l) : putA (putA l x) (getA l x.ID) = l := by
  obtain ⟨a, m, b, hS⟩ := spl_of hs x.ID
  have hid := getA_id l x.ID
  have hs' : Srt (putA l x) := by rw [put_spl hs hS]; exact srt_spl hs hS (mid_put x)
  have hS' : Spl (putA l x) (getA l x.ID).ID a (if x.Balance ≠ 0 ∨ x.Nonce ≠ 0 then [x] else []) b := by
    rw [hid, put_spl hs hS]
    exact ⟨rfl, hS.2.1, mid_put x, hS.2.2.2⟩
  rw [put_spl hs' hS', get_spl hS]
  obtain ⟨rfl, h1, h2, h3⟩ := hS
  rcases h2 with rfl | ⟨y, rfl, hy⟩
  · simp
  · have := hz y (by simp)
    simp [this]
theorem valid_nz {l : List Acc} (h : validB l = true) : Nz l := by
  unfold validB at h
  rw [List.all_eq_true] at h
  intro a ha
  obtain ⟨k, hk, rfl⟩ := List.getElem_of_mem ha
  have h1 : badB l (k : Int) = false := by simpa using h k (by simpa using hk)
  unfold badB at h1
  rw [ix_get _ _ hk] at h1
  simp only [Bool.or_eq_false_iff, Bool.and_eq_false_iff, beq_eq_false_iff_ne] at h1
  exact h1.1.2
theorem undo_credit {l : List Acc} {id amt : Int} (h : Ok l) (hz : Nz l) (ha : 0 ≤ amt) (hc : (creditA l id amt).2 = 0) : uncreditA (creditA l id amt).1 id amt = (l, 0) := by
  obtain ⟨g1, g2⟩ := getA_ok h id
  unfold creditA at hc ⊢
  split at hc
  · simp at hc
  · rename_i hx
    rw [if_neg hx]
    unfold uncreditA
    have e : getA (putA l ⟨id, (getA l id).Balance + amt, (getA l id).Nonce⟩) id = ⟨id, (getA l id).Balance + amt, (getA l id).Nonce⟩ := get_put (x := ⟨id, _, _⟩) h.1
    simp only [e]
    rw [if_neg (by omega)]
    have e2 : (⟨id, (getA l id).Balance + amt - amt, (getA l id).Nonce⟩ : Acc) = getA l id := by
      have := getA_id l id
      cases hg : getA l id with
      | mk i b n => rw [hg] at this; simp only at this; subst this; simp
    rw [e2]
    have e3 := put_put (x := ⟨id, (getA l id).Balance + amt, (getA l id).Nonce⟩) h.1 hz
    simp only at e3
    rw [e3]
theorem undo_debit {l : List Acc} {id amt non : Int} (h : Ok l) (hz : Nz l) (ha : 0 ≤ amt) (hn : 0 ≤ non) (hc : (debitA l id amt non).2 = 0) : undebitA (debitA l id amt non).1 id amt non = (l, 0) := by
  obtain ⟨g1, g2⟩ := getA_ok h id
  unfold debitA at hc ⊢
  split at hc
  · simp at hc
  · rename_i hx0
    split at hc
    · simp at hc
    · rename_i hx1
      split at hc
      · simp at hc
      · rename_i hx2
        rw [if_neg hx0, if_neg hx1, if_neg hx2]
        have hnon : non = (getA l id).Nonce := Classical.byContradiction fun e => hx1 (.inl e)
        unfold undebitA
        have e : getA (putA l ⟨id, (getA l id).Balance - amt, non + 1⟩) id = ⟨id, (getA l id).Balance - amt, non + 1⟩ := get_put (x := ⟨id, _, _⟩) h.1
        simp only [e]
        rw [if_neg (by omega), if_neg (by omega)]
        have e2 : (⟨id, (getA l id).Balance - amt + amt, non⟩ : Acc) = getA l id := by
          have := getA_id l id
          cases hg : getA l id with
          | mk i b n => rw [hg] at this hnon; simp only at this hnon; subst this; subst hnon; simp
        rw [e2]
        have e3 := put_put (x := ⟨id, (getA l id).Balance - amt, non + 1⟩) h.1 hz
        simp only at e3
        rw [e3]
theorem credit_ok {l : List Acc} {id amt : Int} (h : Ok l) (hl : l.length ≤ 999) (hid : 0 ≤ id ∧ id < 18446744069414584321) (ha : 0 ≤ amt) : Ok (creditA l id amt).1 := by
  obtain ⟨g1, g2⟩ := getA_ok h id
  unfold creditA
  split
  · exact ok_nil
  · exact put_ok h hl ⟨hid, by simp only; omega, g2⟩
theorem debit_ok {l : List Acc} {id amt non : Int} (h : Ok l) (hl : l.length ≤ 999) (hid : 0 ≤ id ∧ id < 18446744069414584321) (ha : 0 ≤ amt) (hn : 0 ≤ non ∧ non < 18446744073709551616) : Ok (debitA l id amt non).1 := by
  obtain ⟨g1, g2⟩ := getA_ok h id
  unfold debitA
  split
  · exact ok_nil
  · split
    · exact ok_nil
    · split
      · exact ok_nil
      · rename_i h1 _
        have : non ≠ 18446744073709551615 := fun e => h1 (.inr e)
        exact put_ok h hl ⟨hid, by simp only; omega, by simp only; omega⟩
theorem law_undo (p : SLIDAmountNonce) (h : CaseOk p) : moidorelaw44_LedgerUndo_Ret p true := by
  refine ⟨true, r_awake, rightB p, fun _ => r_right p, fun hb => ⟨true, r_awake, rfl⟩, fun hb => ?_⟩
  have hr : rightB p = true := by simpa using hb
  have hk := right_ok h hr
  simp only [rightB, Bool.and_eq_true, decide_eq_true_eq] at hr
  have hz := valid_nz hr.1.2
  have hl : p.L.length ≤ 999 := by omega
  obtain ⟨_, hI, hA, hN⟩ := h
  have hid : 0 ≤ p.ID ∧ p.ID < 18446744069414584321 := ⟨hI.1, hr.2⟩
  have hJ1 : moidorelaw44_LedgerUndo_J1 p true ⟨p.L⟩ := ⟨_, r_back _ (by omega), true, r_same _ (by omega), rfl⟩
  have hJ3 : moidorelaw44_LedgerUndo_J3 p true ⟨p.L⟩ := by
    refine ⟨_, _, r_debit p.L p.ID p.Amount p.Nonce hk hA.1 hA.2 hN.1 hN.2, fun h0 => ?_, fun _ => hJ1⟩
    have h0 : (debitA p.L p.ID p.Amount p.Nonce).2 = 0 := by simpa using h0
    have e := undo_debit hk hz hA.1 hN.1 h0
    have hu := r_undebit (debitA p.L p.ID p.Amount p.Nonce).1 p.ID p.Amount p.Nonce (debit_ok hk hl hid hA.1 hN) hA.1 hA.2 hN.1 hN.2
    rw [e] at hu
    exact ⟨_, _, hu, _, fun _ => r_back _ (by simp only; omega), true, fun _ => r_same _ (by simp only; omega), fun hh => by simp at hh, fun _ => hJ1⟩
  refine ⟨_, r_own _ hk.2.1, _, _, r_credit p.L p.ID p.Amount hk hA.1 hA.2, fun h0 => ?_, fun _ => hJ3⟩
  have h0 : (creditA p.L p.ID p.Amount).2 = 0 := by simpa using h0
  have e := undo_credit hk hz hA.1 h0
  have hu := r_uncredit (creditA p.L p.ID p.Amount).1 p.ID p.Amount (credit_ok hk hl hid hA.1) hA.1 hA.2
  rw [e] at hu
  exact ⟨_, _, hu, _, fun _ => r_back _ (by simp only; omega), true, fun _ => r_same _ (by simp only; omega), fun hh => by simp at hh, fun _ => hJ3⟩
end Go.Md
