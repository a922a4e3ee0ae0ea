/-
  Plain facts on accounts and their lists: no program in sight.
-/
import Derived.Test.YtjaignojekmfgaaPure
namespace Go.Md
open Go Go.Bv

abbrev Acc := SIDBalanceNonce
def lb (l : List Acc) (t : Int) : Nat := (l.takeWhile (fun a => decide (a.ID < t))).length
def fnd (l : List Acc) (t : Int) : Bool := match l[lb l t]? with
  | some a => decide (a.ID = t)
  | none => false
def Srt (l : List Acc) : Prop := ∀ i j (_ : i < j) (hj : j < l.length), l[i].ID < l[j].ID
theorem lb_eq (l : List Acc) (t : Int) (i : Nat) (hi : i ≤ l.length) (h1 : ∀ k (h : k < l.length), k < i → l[k].ID < t) (h2 : ∀ h : i < l.length, t ≤ l[i].ID) : lb l t = i := by
  unfold lb
  induction l generalizing i with
  | nil => simp at hi; simp [hi]
  | cons a l ih =>
    cases i with
    | zero =>
      have := h2 (by simp)
      simp at this
      rw [List.takeWhile_cons, if_neg (by simp; omega)]
      rfl
    | succ i =>
      have h0 := h1 0 (by simp) (by omega)
      simp at h0
      rw [List.takeWhile_cons, if_pos (by simpa using h0), List.length_cons, ih i (by simpa using hi) (fun k h hk => by have := h1 (k + 1) (by simpa using h) (by omega); simpa using this) (fun h => by have := h2 (by simpa using h); simpa using this)]
theorem lb_le (l : List Acc) (t : Int) : lb l t ≤ l.length := (List.takeWhile_sublist _).length_le
theorem lb_spec (l : List Acc) (t : Int) : (∀ k (h : k < l.length), k < lb l t → l[k].ID < t) ∧ ∀ h : lb l t < l.length, t ≤ l[lb l t].ID := by
  unfold lb
  induction l with
  | nil => exact ⟨fun k h => absurd h (by simp), fun h => absurd h (by simp)⟩
  | cons a l ih =>
    by_cases ha : a.ID < t
    · simp only [List.takeWhile_cons, ha, decide_true, if_true, List.length_cons]
      refine ⟨fun k h hk => ?_, fun h => ?_⟩
      · cases k with
        | zero => exact ha
        | succ k => simpa using ih.1 k (by simpa using h) (by simpa using hk)
      · simpa using ih.2 (by simpa using h)
    · simp only [List.takeWhile_cons, ha, decide_false, Bool.false_eq_true, if_false, List.length_nil]
      exact ⟨fun k h hk => absurd hk (Nat.not_lt_zero _), fun h => by simpa using ha⟩
theorem fnd_true {l : List Acc} {t : Int} (h : fnd l t = true) : ∃ hl : lb l t < l.length, l[lb l t].ID = t := by
  unfold fnd at h
  split at h
  · rename_i a ha
    obtain ⟨h1, h2⟩ := List.getElem?_eq_some_iff.1 ha
    exact ⟨h1, by rw [h2]; simpa using h⟩
  · cases h
def getA (l : List Acc) (t : Int) : Acc := match l.find? (fun a => decide (a.ID = t)) with
  | some a => a
  | none => ⟨t, 0, 0⟩
theorem getA_of {l : List Acc} {t : Int} (hs : Srt l) (h : fnd l t = true) (hl : lb l t < l.length) : getA l t = l[lb l t] := by
  obtain ⟨_, he⟩ := fnd_true h
  unfold getA
  have : l.find? (fun a => decide (a.ID = t)) = some l[lb l t] := by
    rw [List.find?_eq_some_iff_getElem]
    refine ⟨by simpa using he, lb l t, hl, rfl, fun j hj => ?_⟩
    have := (lb_spec l t).1 j (by omega) hj
    simp; omega
  rw [this]
theorem getA_no {l : List Acc} {t : Int} (hs : Srt l) (h : fnd l t = false) : getA l t = ⟨t, 0, 0⟩ := by
  unfold getA
  have : l.find? (fun a => decide (a.ID = t)) = none := by
    rw [List.find?_eq_none]
    intro a ha hat
    simp only [decide_eq_true_eq] at hat
    obtain ⟨k, hk, rfl⟩ := List.getElem_of_mem ha
    obtain ⟨g1, g2⟩ := lb_spec l t
    rcases Nat.lt_or_ge k (lb l t) with h1 | h1
    · have := g1 k hk h1; omega
    · have h2 : lb l t < l.length := by omega
      have h3 := g2 h2
      have h4 : l[lb l t].ID ≠ t := by
        intro he
        have : fnd l t = true := by unfold fnd; rw [List.getElem?_eq_getElem h2]; simpa using he
        rw [h] at this; cases this
      rcases Nat.lt_or_ge (lb l t) k with h5 | h5
      · have := hs _ _ h5 hk; omega
      · have : k = lb l t := by omega
        subst this; omega
  rw [this]
def AccOk (a : Acc) : Prop := (0 ≤ a.ID ∧ a.ID < 18446744069414584321) ∧ (0 ≤ a.Balance ∧ a.Balance ≤ 9223372036854775807) ∧ 0 ≤ a.Nonce ∧ a.Nonce < 18446744073709551616
def Ok (l : List Acc) : Prop := Srt l ∧ l.length ≤ 1000 ∧ ∀ a ∈ l, AccOk a
theorem getA_ok {l : List Acc} (h : Ok l) (t : Int) : (0 ≤ (getA l t).Balance ∧ (getA l t).Balance ≤ 9223372036854775807) ∧ 0 ≤ (getA l t).Nonce ∧ (getA l t).Nonce < 18446744073709551616 := by
  unfold getA
  split
  · rename_i a ha
    exact (h.2.2 a (List.mem_of_find?_eq_some ha)).2
  · simp
theorem getA_at {l : List Acc} {t : Int} {i : Nat} (hi : i < l.length) (he : l[i].ID = t) (hb : ∀ k (h : k < l.length), k < i → l[k].ID ≠ t) : getA l t = l[i] := by
  unfold getA
  have : l.find? (fun a => decide (a.ID = t)) = some l[i] := by
    rw [List.find?_eq_some_iff_getElem]
    exact ⟨by simpa using he, i, hi, rfl, fun j hj => by have := hb j (by omega) hj; simpa using this⟩
  rw [this]
theorem getA_none {l : List Acc} {t : Int} (hb : ∀ k (h : k < l.length), l[k].ID ≠ t) : getA l t = ⟨t, 0, 0⟩ := by
  unfold getA
  have : l.find? (fun a => decide (a.ID = t)) = none := by
    rw [List.find?_eq_none]
    intro a ha hat
    obtain ⟨k, hk, rfl⟩ := List.getElem_of_mem ha
    exact hb k hk (by simpa using hat)
  rw [this]
theorem getA_id (l : List Acc) (t : Int) : (getA l t).ID = t := by
  unfold getA
  split
  · rename_i a ha; simpa using List.find?_some ha
  · rfl
def putA (l : List Acc) (a : Acc) : List Acc := l.take (lb l a.ID) ++ (if a.Balance ≠ 0 ∨ a.Nonce ≠ 0 then [a] else []) ++ l.drop (lb l a.ID + if fnd l a.ID then 1 else 0)
def creditA (l : List Acc) (id amt : Int) : List Acc × Int :=
  if 9223372036854775807 - (getA l id).Balance < amt then ([], 1) else (putA l ⟨id, (getA l id).Balance + amt, (getA l id).Nonce⟩, 0)
def uncreditA (l : List Acc) (id amt : Int) : List Acc × Int :=
  if (getA l id).Balance < amt then ([], 1) else (putA l ⟨id, (getA l id).Balance - amt, (getA l id).Nonce⟩, 0)
def debitA (l : List Acc) (id amt non : Int) : List Acc × Int :=
  if amt = 0 then ([], 1) else if non ≠ (getA l id).Nonce ∨ non = 18446744073709551615 then ([], 20) else if (getA l id).Balance < amt then ([], 15) else (putA l ⟨id, (getA l id).Balance - amt, non + 1⟩, 0)
def undebitA (l : List Acc) (id amt non : Int) : List Acc × Int :=
  if amt = 0 ∨ 9223372036854775807 - (getA l id).Balance < amt ∨ (getA l id).Nonce = 0 then ([], 1) else if (getA l id).Nonce - 1 ≠ non then ([], 20) else (putA l ⟨id, (getA l id).Balance + amt, non⟩, 0)
theorem tail_eq {l : List Acc} (hs : Srt l) (t : Int) : l.filter (fun x => decide (t < x.ID)) = l.drop (lb l t + if fnd l t then 1 else 0) := by
  obtain ⟨g1, g2⟩ := lb_spec l t
  have key : ∀ (i : Nat), (∀ k (h : k < l.length), k < i → l[k].ID ≤ t) → (∀ k (h : k < l.length), i ≤ k → t < l[k].ID) → l.filter (fun x => decide (t < x.ID)) = l.drop i := by
    intro i h1 h2
    rw [← List.take_append_drop i l, List.filter_append, List.take_append_drop]
    have e1 : (l.take i).filter (fun x => decide (t < x.ID)) = [] := by
      rw [List.filter_eq_nil_iff]
      intro x hx
      obtain ⟨k, hk, rfl⟩ := List.getElem_of_mem hx
      rw [List.length_take] at hk
      have := h1 k (by omega) (by omega)
      rw [List.getElem_take]
      simp; omega
    have e2 : (l.drop i).filter (fun x => decide (t < x.ID)) = l.drop i := by
      rw [List.filter_eq_self]
      intro x hx
      obtain ⟨k, hk, rfl⟩ := List.getElem_of_mem hx
      rw [List.length_drop] at hk
      have := h2 (i + k) (by omega) (by omega)
      rw [List.getElem_drop]
      simp; omega
    rw [e1, e2, List.nil_append]
  apply key
  · intro k h hk
    split at hk
    · rename_i hf
      obtain ⟨h1, h2⟩ := fnd_true hf
      rcases Nat.lt_or_ge k (lb l t) with h3 | h3
      · have := g1 k h h3; omega
      · have : k = lb l t := by omega
        subst this; omega
    · have := g1 k h (by omega); omega
  · intro k h hk
    split at hk
    · rename_i hf
      obtain ⟨h1, h2⟩ := fnd_true hf
      have := hs (lb l t) k (by omega) h
      omega
    · rename_i hf
      have h1 : lb l t < l.length := by omega
      have h2 := g2 h1
      have h3 : l[lb l t].ID ≠ t := by
        intro he
        apply hf
        unfold fnd; rw [List.getElem?_eq_getElem h1]; simpa using he
      rcases Nat.lt_or_ge (lb l t) k with h5 | h5
      · have := hs _ _ h5 h; omega
      · have : k = lb l t := by omega
        subst this; omega
theorem inc_i64 (i : Nat) (h : i < 4611686018427387904) : IntKind.i64.wrap ((i : Int) + 1) = ((i + 1 : Nat) : Int) := by rw [wrap_i64 _ (by omega) (by omega)]; omega
theorem mid_eq (i j : Nat) (h : i + j < 9223372036854775808) : IntKind.i64.wrap (ishr .u64 (IntKind.u64.wrap (IntKind.i64.wrap (↑i + ↑j))) 1) = (((i + j) / 2 : Nat) : Int) := by
  have e1 : IntKind.i64.wrap ((i : Int) + j) = (i : Int) + j := wrap_i64 _ (by omega) (by omega)
  have e2 : IntKind.u64.wrap ((i : Int) + j) = (i : Int) + j := wrap_u64 _ (by omega) (by omega)
  have e : (2 : Int) ^ min (1 : Int).toNat IntKind.u64.bits = 2 := rfl
  have e3 : ((i : Int) + j).fdiv 2 = ((i : Int) + j) / 2 := Int.fdiv_eq_ediv_of_nonneg _ (by omega)
  unfold ishr
  rw [e1, e2, e, e3, wrap_i64 _ (by omega) (by omega)]
  omega
theorem small24 (n : Nat) (h : n ≤ 100000) : n * 24 ≤ 140737488355328 ∧ n ≤ maxLen := ⟨by omega, by unfold maxLen; omega⟩
end Go.Md
