/-
  Part of a machine over pure data and objects that is sound for the model: what it says of a Go function holds of every call of that function. Conditions: those in each theorem. It speaks of any program.
-/
import Derived.Test.YtjaignojekmfgaaBvWalk
import Derived.Still
namespace Go.Bv
open Go.RowKit

/-! ### A region that draws its order -/

/-- What an operation does: its slot, its value, an object that it makes or turns. -/
structure Eff where
  d : Option Nat
  x : V
  hu : Hp
  rd : List Nat
def Eff.app (e : Eff) (s : St) : St := St.put ⟨s.sl, e.hu ++ s.h, s.nx⟩ e.d e.x
def stE (E : Nat → Bool) : List Eff → Nat → St → St
  | [], _, s => s
  | e :: es, k, s => stE E es (k + 1) (if E k then e.app s else s)
def slotE (E : Nat → Bool) (t : Nat) : List Eff → Nat → V → V
  | [], _, v => v
  | e :: es, k, v => slotE E t es (k + 1) (if E k = true ∧ e.d = some t then e.x else v)
def heapE (E : Nat → Bool) (i : Nat) : List Eff → Nat → Option Ob → Option Ob
  | [], _, o => o
  | e :: es, k, o => heapE E i es (k + 1) (if E k = true ∧ (Hp.get e.hu i).isSome = true then Hp.get e.hu i else o)

theorem app_nx (e : Eff) (s : St) : (e.app s).nx = s.nx := by
  unfold Eff.app St.put; split <;> rfl
theorem app_h (e : Eff) (s : St) : (e.app s).h = e.hu ++ s.h := by
  unfold Eff.app St.put; split <;> rfl
theorem app_get (e : Eff) (s : St) (t : Nat) : getS (e.app s).sl t = if e.d = some t then e.x else getS s.sl t := by
  unfold Eff.app
  cases hd : e.d with
  | none => simp [St.put]
  | some u =>
    simp only [St.put, getS, Option.some.injEq]
    by_cases h : t = u
    · subst h; simp
    · rw [if_neg h, if_neg (Ne.symm h)]
theorem app_hget (e : Eff) (s : St) (i : Nat) : (e.app s).h.get i = if (Hp.get e.hu i).isSome = true then Hp.get e.hu i else s.h.get i := by
  rw [app_h, get_append]
  cases hh : Hp.get e.hu i with
  | none => simp
  | some o => simp

theorem stE_nx (E : Nat → Bool) : ∀ (es : List Eff) (k : Nat) (s : St), (stE E es k s).nx = s.nx
  | [], _, _ => rfl
  | e :: es, k, s => by
    rw [stE, stE_nx E es]
    split
    · exact app_nx e s
    · rfl
theorem stE_get (E : Nat → Bool) (t : Nat) : ∀ (es : List Eff) (k : Nat) (s : St), getS (stE E es k s).sl t = slotE E t es k (getS s.sl t)
  | [], _, _ => rfl
  | e :: es, k, s => by
    rw [stE, stE_get E t es, slotE]
    congr 1
    by_cases hE : E k = true
    · rw [if_pos hE, app_get]
      simp only [hE, true_and]
    · rw [if_neg hE, if_neg (fun h => hE h.1)]
theorem stE_hget (E : Nat → Bool) (i : Nat) : ∀ (es : List Eff) (k : Nat) (s : St), (stE E es k s).h.get i = heapE E i es k (s.h.get i)
  | [], _, _ => rfl
  | e :: es, k, s => by
    rw [stE, stE_hget E i es, heapE]
    congr 1
    by_cases hE : E k = true
    · rw [if_pos hE, app_hget]
      simp only [hE, true_and]
    · rw [if_neg hE, if_neg (fun h => hE h.1)]

theorem slotE_congr {E E' : Nat → Bool} {t : Nat} : ∀ (es : List Eff) (k : Nat) (v : V), (∀ (j : Nat) (e : Eff), es[j]? = some e → e.d = some t → E (k + j) = E' (k + j)) → slotE E t es k v = slotE E' t es k v
  | [], _, _, _ => rfl
  | e :: es, k, v, h => by
    have h0 := h 0 e rfl
    simp only [Nat.add_zero] at h0
    have hv : (if E k = true ∧ e.d = some t then e.x else v) = (if E' k = true ∧ e.d = some t then e.x else v) := by
      by_cases hd : e.d = some t
      · rw [h0 hd]
      · rw [if_neg (fun h => hd h.2), if_neg (fun h => hd h.2)]
    rw [slotE, slotE, hv]
    exact slotE_congr es (k + 1) _ (fun j e' he' hd => by rw [show k + 1 + j = k + (j + 1) by omega]; exact h (j + 1) e' (by simpa using he') hd)
theorem heapE_congr {E E' : Nat → Bool} {i : Nat} : ∀ (es : List Eff) (k : Nat) (o : Option Ob), (∀ (j : Nat) (e : Eff), es[j]? = some e → (Hp.get e.hu i).isSome = true → E (k + j) = E' (k + j)) → heapE E i es k o = heapE E' i es k o
  | [], _, _, _ => rfl
  | e :: es, k, o, h => by
    have h0 := h 0 e rfl
    simp only [Nat.add_zero] at h0
    have hv : (if E k = true ∧ (Hp.get e.hu i).isSome = true then Hp.get e.hu i else o) = (if E' k = true ∧ (Hp.get e.hu i).isSome = true then Hp.get e.hu i else o) := by
      by_cases hd : (Hp.get e.hu i).isSome = true
      · rw [h0 hd]
      · rw [if_neg (fun h => hd h.2), if_neg (fun h => hd h.2)]
    rw [heapE, heapE, hv]
    exact heapE_congr es (k + 1) _ (fun j e' he' hd => by rw [show k + 1 + j = k + (j + 1) by omega]; exact h (j + 1) e' (by simpa using he') hd)

/-- One more operation: its slot, if no later one that has been carried out writes it. -/
theorem slotE_add {E : Nat → Bool} {t i : Nat} : ∀ (es : List Eff) (k : Nat) (v : V) (e : Eff), es[i]? = some e → E (k + i) = false → (∀ (j : Nat) (e' : Eff), i < j → es[j]? = some e' → E (k + j) = true → e.d = some t → e'.d ≠ some t) →
    slotE (fun n => if n = k + i then true else E n) t es k v = if e.d = some t then e.x else slotE E t es k v
  | [], _, _, _, he, _, _ => by simp at he
  | e0 :: es, k, v, e, he, hE, hl => by
    cases i with
    | zero =>
      simp at he
      subst he
      simp only [Nat.add_zero] at hE ⊢
      rw [slotE, slotE]
      simp only [if_true, true_and, hE, Bool.false_eq_true, false_and, if_false]
      have hcong : ∀ v', slotE (fun n => if n = k then true else E n) t es (k + 1) v' = slotE E t es (k + 1) v' := fun v' => slotE_congr es (k + 1) v' (fun j _ _ _ => by rw [if_neg (by omega)])
      rw [hcong]
      by_cases hd : e0.d = some t
      · rw [if_pos hd, if_pos hd]
        have none_later : ∀ (es' : List Eff) (k' : Nat) (v' : V), (∀ (j : Nat) (e' : Eff), es'[j]? = some e' → E (k' + j) = true → e'.d ≠ some t) → slotE E t es' k' v' = v' := by
          intro es'
          induction es' with
          | nil => intro _ _ _; rfl
          | cons e1 es' ih =>
            intro k' v' h'
            rw [slotE, ih (k' + 1) _ (fun j e' he' hE' => h' (j + 1) e' (by simpa using he') (by rw [show k' + (j + 1) = k' + 1 + j by omega]; exact hE'))]
            rw [if_neg]
            rintro ⟨h1, h2⟩
            exact h' 0 e1 rfl (by simpa using h1) h2
        exact none_later es (k + 1) e0.x (fun j e' he' hE' => hl (j + 1) e' (by omega) (by simpa using he') (by rw [show k + (j + 1) = k + 1 + j by omega]; exact hE') hd)
      · rw [if_neg hd, if_neg hd]
    | succ i =>
      rw [slotE, slotE]
      have hk : k ≠ k + (i + 1) := by omega
      simp only [if_neg hk]
      have := slotE_add (E := E) (t := t) (i := i) es (k + 1) (if E k = true ∧ e0.d = some t then e0.x else v) e (by simpa using he) (by rw [show k + 1 + i = k + (i + 1) by omega]; exact hE)
        (fun j e' hij he' hE' => hl (j + 1) e' (by omega) (by simpa using he') (by rw [show k + (j + 1) = k + 1 + j by omega]; exact hE'))
      rw [show k + 1 + i = k + (i + 1) by omega] at this
      exact this
theorem heapE_add {E : Nat → Bool} {t i : Nat} : ∀ (es : List Eff) (k : Nat) (v : Option Ob) (e : Eff), es[i]? = some e → E (k + i) = false → (∀ (j : Nat) (e' : Eff), i < j → es[j]? = some e' → E (k + j) = true → (Hp.get e.hu t).isSome = true → (Hp.get e'.hu t).isSome ≠ true) →
    heapE (fun n => if n = k + i then true else E n) t es k v = if (Hp.get e.hu t).isSome = true then Hp.get e.hu t else heapE E t es k v
  | [], _, _, _, he, _, _ => by simp at he
  | e0 :: es, k, v, e, he, hE, hl => by
    cases i with
    | zero =>
      simp at he
      subst he
      simp only [Nat.add_zero] at hE ⊢
      rw [heapE, heapE]
      simp only [if_true, true_and, hE, Bool.false_eq_true, false_and, if_false]
      have hcong : ∀ v', heapE (fun n => if n = k then true else E n) t es (k + 1) v' = heapE E t es (k + 1) v' := fun v' => heapE_congr es (k + 1) v' (fun j _ _ _ => by rw [if_neg (by omega)])
      rw [hcong]
      by_cases hd : (Hp.get e0.hu t).isSome = true
      · rw [if_pos hd, if_pos hd]
        have none_later : ∀ (es' : List Eff) (k' : Nat) (v' : Option Ob), (∀ (j : Nat) (e' : Eff), es'[j]? = some e' → E (k' + j) = true → (Hp.get e'.hu t).isSome ≠ true) → heapE E t es' k' v' = v' := by
          intro es'
          induction es' with
          | nil => intro _ _ _; rfl
          | cons e1 es' ih =>
            intro k' v' h'
            rw [heapE, ih (k' + 1) _ (fun j e' he' hE' => h' (j + 1) e' (by simpa using he') (by rw [show k' + (j + 1) = k' + 1 + j by omega]; exact hE'))]
            rw [if_neg]
            rintro ⟨h1, h2⟩
            exact h' 0 e1 rfl (by simpa using h1) h2
        exact none_later es (k + 1) _ (fun j e' he' hE' => hl (j + 1) e' (by omega) (by simpa using he') (by rw [show k + (j + 1) = k + 1 + j by omega]; exact hE') hd)
      · rw [if_neg hd, if_neg hd]
    | succ i =>
      rw [heapE, heapE]
      have hk : k ≠ k + (i + 1) := by omega
      simp only [if_neg hk]
      have := heapE_add (E := E) (t := t) (i := i) es (k + 1) (if E k = true ∧ (Hp.get e0.hu t).isSome = true then Hp.get e0.hu t else v) e (by simpa using he) (by rw [show k + 1 + i = k + (i + 1) by omega]; exact hE)
        (fun j e' hij he' hE' => hl (j + 1) e' (by omega) (by simpa using he') (by rw [show k + (j + 1) = k + 1 + j by omega]; exact hE'))
      rw [show k + 1 + i = k + (i + 1) by omega] at this
      exact this

section
variable {P : Program} {T : Tk} {G0 G : Gh} {w0 w : World} {N : Nat} {s s' : St} {a : Act}

end
end Go.Bv
