/-
  Part of a machine over pure data and objects that is sound for the model: what it says of a Go function holds of every call of that function. Conditions: those in each theorem. It speaks of any program.
-/
import Derived.Test.YtjaignojekmfgaaBvVal
namespace Go.Bv
open Go.RowKit

theorem add_mk (b o j : Nat) : (⟨b, o, none⟩ : Addr).add j = ⟨b, o + j, none⟩ := by unfold Addr.add; split <;> simp_all

section
variable {P : Program} {G : Gh} {w : World} {h : Hp} {nx : Nat}

/-- The objects. -/
def ObjR (G : Gh) (w : World) (h : Hp) (nx : Nat) : Prop :=
  ∀ id l, h.get id = some (.cells l) → ∃ b e cs, G.loc id = some b ∧ w.heap[b]? = some (.cells (List.toArray cs) e (0, 0)) ∧ G.lim b = 0 ∧ l.length ≤ cs.length ∧ (∀ x ∈ l, x.one = true) ∧
    ∀ (j : Nat) (v : Value) (x : V), cs[j]? = some v → l[j]? = some x → RepV G w h nx v x

theorem tyOf_run {t : TypeId} {a : Bool} {n : Nat} (ht : tyOf P t = some (a, n)) (w : World) : (isAgg t).run P w = .ok a w ∧ (sizeOf t).run P w = .ok n w := by
  unfold tyOf at ht
  split at ht
  · rename_i u i hu hi
    injection ht with ht
    injection ht with h1 h2
    constructor
    · unfold isAgg
      simp only [Sem.run_bind, run_underlying hu, Result.andThen_ok]
      subst h1
      cases u <;> rfl
    · simp [sizeOf, typeInfo, hi, h2]
  · cases ht

theorem part_sound {t : TypeId} {a : Bool} {n : Nat} (ht : tyOf P t = some (a, n)) {K : V → Prop} {l : List V} {off : Nat} (hp : partV K a n l off)
    {cs : List Value} (hlen : l.length ≤ cs.length) (hone : ∀ x ∈ l, x.one = true) (hr : ∀ (j : Nat) (v : Value) (x : V), cs[j]? = some v → l[j]? = some x → RepV G w h nx v x) :
    ∃ v x, (part t cs.toArray off).run P w = .ok v w ∧ (a = true → v = .agg ((cs.drop off).take n).toArray ∧ off + n ≤ cs.length) ∧ (a = false → cs[off]? = some v) ∧ RepV G w h nx v x ∧ K x := by
  obtain ⟨h1, h2⟩ := tyOf_run ht w
  unfold partV at hp
  cases a with
  | true =>
    simp only [if_true] at hp
    refine ⟨.agg ((cs.drop off).take n).toArray, _, ?_, fun _ => ⟨rfl, by omega⟩, (by simp), ?_, hp.2⟩
    · simp only [part, Sem.run_bind, h1, h2, Result.andThen_ok, if_true, Sem.run_pure]
      congr 2
      apply Array.ext'
      rw [Array.toList_extract]
      simp [List.extract_eq_take_drop]
    · refine .agg _ _ (by simp; omega) (fun x hx => hone x (List.mem_of_mem_drop (List.mem_of_mem_take hx))) fun j v x hv hx => ?_
      rw [List.getElem?_take] at hv hx
      split at hv
      · rename_i hj
        rw [if_pos hj] at hx
        rw [List.getElem?_drop] at hv hx
        exact hr _ _ _ hv hx
      · cases hv
  | false =>
    simp only [Bool.false_eq_true, if_false] at hp
    split at hp
    · rename_i x hx
      have hlt : off < l.length := (List.getElem?_eq_some_iff.1 hx).1
      have hv : cs[off]? = some (cs[off]'(by omega)) := List.getElem?_eq_getElem (by omega)
      refine ⟨_, x, ?_, (by simp), fun _ => hv, hr _ _ _ hv hx, hp⟩
      simp only [part, Sem.run_bind, h1, Result.andThen_ok, Bool.false_eq_true, if_false]
      simp [hv]
    · exact hp.elim

theorem load_sound {t : TypeId} {a : Bool} {n : Nat} (ht : tyOf P t = some (a, n)) {K : V → Prop} {l : List V} {off b o : Nat} (hp : partV K a n l off)
    {cs : List Value} (hlen : l.length ≤ cs.length) (hone : ∀ x ∈ l, x.one = true) (hr : ∀ (j : Nat) (v : Value) (x : V), cs[j]? = some v → l[j]? = some x → RepV G w h nx v x)
    (hc : ∀ (j : Nat) (u : Value), cs[j]? = some u → w.cell? ⟨b, o + j, none⟩ = some u) :
    ∃ v x, (loadVar t ⟨b, o + off, none⟩).run P w = .ok v w ∧ RepV G w h nx v x ∧ K x := by
  obtain ⟨v, x, _, ha, hna, hv, hk⟩ := part_sound (w := w) ht hp hlen hone hr
  obtain ⟨h1, h2⟩ := tyOf_run ht w
  refine ⟨v, x, ?_, hv, hk⟩
  cases a with
  | true =>
    obtain ⟨rfl, hle⟩ := ha rfl
    have hl : (loadCells ⟨b, o + off, none⟩ ((cs.drop off).take n).length).run P w = .ok ((cs.drop off).take n).toArray w :=
      run_loadCells_list (P := P) w ⟨b, o + off, none⟩ ((cs.drop off).take n) (fun j u hu => by
        rw [List.getElem?_take] at hu
        split at hu
        · rw [List.getElem?_drop] at hu
          rw [add_mk, Nat.add_assoc]
          exact hc _ _ hu
        · cases hu)
    rw [List.length_take, List.length_drop, Nat.min_eq_left (by omega)] at hl
    simp only [loadVar, Sem.run_bind, h1, h2, Result.andThen_ok, if_true, hl, Sem.run_pure]
  | false =>
    simp only [loadVar, Sem.run_bind, h1, Result.andThen_ok, Bool.false_eq_true, if_false]
    simp [hc _ _ (hna rfl)]

theorem pick_sound {K : V → Prop} {c a b : V} (hp : pickA K c a b) {vc va vb : Value} (hc : RepV G w h nx vc c) (ha : RepV G w h nx va a) (hb : RepV G w h nx vb b) :
    ∃ x t, vc = .bool t ∧ RepV G w h nx (if t then va else vb) x ∧ K x := by
  unfold pickA at hp
  split at hp
  · rename_i t p q
    cases hc with | d _ _ hd =>
    cases hd
    refine ⟨_, t, rfl, ?_, hp⟩
    cases t
    · simpa using hb
    · simpa using ha
  · cases hc with | d _ _ hd => cases hd; exact ⟨_, true, rfl, by simpa using ha, hp⟩
  · cases hc with | d _ _ hd => cases hd; exact ⟨_, false, rfl, by simpa using hb, hp⟩
  · exact hp.elim

theorem els_rep {x : V} {sz : Nat} {l : List D} (he : x.els sz = some l) {v : Value} (hv : RepV G w h nx v x) : RepD G.lim w v (.slice sz l) := by
  unfold V.els at he
  split at he
  · split at he
    · rename_i hs; subst hs; injection he with he; subst he; cases hv; assumption
    · cases he
  · split at he
    · rename_i hs; subst hs; injection he with he; subst he; cases hv; assumption
    · cases he
  · split at he
    · rename_i hs; subst hs; injection he with he; subst he; cases hv; assumption
    · cases he
  · injection he with he; subst he; cases hv; exact .nil sz
  · cases he

theorem len_rep {x : V} {n : Nat} (he : x.len = some n) {v : Value} (hv : RepV G w h nx v x) : ∃ A c, v = .slice A n c := by
  unfold V.len at he
  split at he
  · injection he with he; subst he; cases hv with | d _ _ hd => cases hd <;> exact ⟨_, _, rfl⟩
  · injection he with he; subst he; cases hv with | own _ _ _ _ hd => cases hd <;> exact ⟨_, _, rfl⟩
  · injection he with he; subst he; cases hv; exact ⟨_, _, rfl⟩
  · injection he with he; subst he; cases hv; exact ⟨_, _, rfl⟩
  · injection he with he; subst he; cases hv; exact ⟨_, _, rfl⟩
  · cases he

/-- An element of a slice: its cells, as a place that is only read. -/
theorem slice_at {v : Value} {sz : Nat} {l : List D} (hd : RepD G.lim w v (.slice sz l)) {i : Nat} {e : D} (he : l[i]? = some e) :
    ∃ b off cap, v = .slice (some ⟨b, off, none⟩) l.length cap ∧ RepV G w h nx (.pointer (some ⟨b, off + i * sz, none⟩)) (.ro e.cells) := by
  have hi : i < l.length := (List.getElem?_eq_some_iff.1 he).1
  have hm : e ∈ l := List.mem_of_getElem? he
  cases hd with
  | nil => simp at hi
  | slice b off cap _ _ vs hcap hmax hsz hlen hc hr =>
    have hfl := flat_length hsz
    have hesz := (hsz e hm).1
    refine ⟨b, off, cap, rfl, .ro b (off + i * sz) e.cells ((vs.drop (i * sz)).take sz) ?_ (hsz e hm).2 ?_ ?_⟩
    · have : i * sz + sz ≤ l.length * sz := by rw [← Nat.succ_mul]; exact Nat.mul_le_mul_right _ hi
      rw [List.length_take, List.length_drop, hlen, hfl, hesz]
      omega
    · intro j u hu
      rw [List.getElem?_take] at hu
      split at hu
      · rw [List.getElem?_drop] at hu
        have := hc _ _ hu
        rwa [← Nat.add_assoc] at this
      · cases hu
    · intro j u c hu hcc
      rw [List.getElem?_take] at hu
      split at hu
      · rename_i hj
        rw [List.getElem?_drop] at hu
        exact hr _ _ _ hu (by rw [flat_get hsz he j hj]; exact hcc)
      · cases hu

end
end Go.Bv
