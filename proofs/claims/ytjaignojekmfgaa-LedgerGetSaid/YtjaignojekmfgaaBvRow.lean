/-
  Part of a machine over pure data and objects that is sound for the model: what it says of a Go function holds of every call of that function. Conditions: those in each theorem. It speaks of any program.
-/
import Derived.Test.YtjaignojekmfgaaBvApp
namespace Go.Bv
open Go.RowKit

section
variable {P : Program} {T : Tk} {G0 G : Gh} {w0 w : World} {N : Nat} {s : St} {a : Act} {h : Hp} {nx : Nat}

/-- A new row of cells, read-only up to its limit; the number k (a new one, or that of an elder row which has grown) speaks of it. -/
theorem R.newRow (hR : R T G0 w0 N s a G w) (e : TypeId) (cs : List Value) (sz : Nat) (l : List D) (vs : List Value)
    (hsz : ∀ d ∈ l, d.cells.length = sz ∧ ∀ c ∈ d.cells, c.one = true) (hlen : vs.length = (l.flatMap D.cells).length) (hpre : cs.take vs.length = vs)
    (hr : ∀ (j : Nat) (u : Value) (c : D), vs[j]? = some u → (l.flatMap D.cells)[j]? = some c → RepD G.lim w u c)
    (k nx' : Nat) (h' : Hp) (hk : (k = s.nx ∧ nx' = s.nx + 1) ∨ (k < s.nx ∧ nx' = s.nx))
    (hh : ∀ i, i ≠ k → h'.get i = s.h.get i) (hhk : ∀ ob, h'.get k = some ob → ∃ t', ob = .tip t' ∧ (k < s.nx → ∃ t, s.h.get k = some (.tip t) ∧ t < t')) :
    ∃ G', R T G0 w0 N ⟨s.sl, h', nx'⟩ a G' (w.alloc (.cells cs.toArray e)) ∧ Ext G w s.h s.nx G' (w.alloc (.cells cs.toArray e)) h' nx' ∧
      (∀ cap, l.length ≤ cap → cap ≤ maxLen → RepD G'.lim (w.alloc (.cells cs.toArray e)) (.slice (some ⟨w.heap.size, 0, none⟩) l.length cap) (.slice sz l)) ∧
      G'.tloc k = some w.heap.size ∧ G'.lim w.heap.size = l.length * sz ∧ ∀ i, i ≠ k → i < s.nx → G'.loc i = G.loc i ∧ G'.tloc i = G.tloc i := by
  have hw := hR.wr
  have hvl : vs.length = l.length * sz := by rw [hlen, flat_length hsz]
  let G' : Gh := ⟨fun i => if i = k ∧ s.nx ≤ i then none else G.loc i, fun i => if i = k then some w.heap.size else G.tloc i, fun b => if b = w.heap.size then vs.length else G.lim b⟩
  have hm : ∀ b, b ≠ w.heap.size → G'.lim b = G.lim b := fun b hb => by simp [G', hb]
  have hloc : ∀ i, i < s.nx → G'.loc i = G.loc i := fun i hi => by simp only [G']; rw [if_neg (by omega)]
  have htl : ∀ i, i ≠ k → G'.tloc i = G.tloc i := fun i hi => by simp [G', hi]
  have hmono : Mono G.lim w G'.lim (w.alloc (.cells cs.toArray e)) := mono_alloc hw.lim _ hm
  have he : Ext G w s.h s.nx G' (w.alloc (.cells cs.toArray e)) h' nx' := by
    refine ⟨hmono, by omega, fun id b hi hb => by rw [hloc id hi]; exact hb, fun tok t' ht h1 => ?_, fun b n hb => by rw [csz_same (Below.heap_alloc w _ b (csz_lt hb))]; exact hb⟩
    by_cases htk : tok = k
    · subst htk
      obtain ⟨t1, e1, h3⟩ := hhk _ h1
      injection e1 with e1
      subst e1
      obtain ⟨t, h4, h5⟩ := h3 ht
      exact ⟨t, h4, by omega, fun h => by omega⟩
    · rw [hh tok htk] at h1
      refine ⟨t', h1, Nat.le_refl _, fun _ b hb => ?_⟩
      have := (hw.here tok b ht (.inr hb)).1
      exact ⟨by rw [htl tok htk]; exact hb, Below.heap_alloc w _ b (by omega), hm b (by omega)⟩
  have key : ∀ i b, i < nx' → (G'.loc i = some b ∨ G'.tloc i = some b) → (i = k ∧ b = w.heap.size) ∨ (i < s.nx ∧ b < w.heap.size ∧ (G.loc i = some b ∨ G.tloc i = some b)) := by
    intro i b hi hb
    by_cases hik : i = k
    · subst hik
      rcases hb with hb | hb
      · rcases hk with ⟨h1, h2⟩ | ⟨h1, h2⟩
        · simp [G', h1] at hb
        · rw [hloc i h1] at hb
          exact .inr ⟨h1, (hw.here i b h1 (.inl hb)).1, .inl hb⟩
      · simp [G'] at hb
        exact .inl ⟨rfl, hb.symm⟩
    · have hi' : i < s.nx := by omega
      rw [hloc i hi', htl i hik] at hb
      exact .inr ⟨hi', (hw.here i b hi' hb).1, hb⟩
  refine ⟨G', ⟨hR.fr.alloc hw.lim _ G' hm, ⟨?_, mob_alloc hw _ he (fun id es hg => by
      by_cases hik : id = k
      · subst hik
        obtain ⟨t1, e1, _⟩ := hhk _ hg
        cases e1
      · rw [hh id hik] at hg; exact hg), ?_, ?_, ?_, ?_⟩, hR.df, hR.sz, fun t => (hR.sl t).ext he, hR.ex.ext he⟩, he, ?_, by simp [G'], by simp [G', hvl], fun i hi hi2 => ⟨hloc i hi2, htl i hi⟩⟩
  · intro id l' hl'
    have hne : id ≠ k := by
      rintro rfl
      obtain ⟨t1, e1, _⟩ := hhk _ hl'
      cases e1
    rw [hh id hne] at hl'
    obtain ⟨b, e', cs', h1, h2, h3, h4, h5, h6⟩ := hw.obj id l' hl'
    have hid := hw.hid id _ hl'
    have hb := (hw.here id b hid (.inl h1)).1
    exact ⟨b, e', cs', by rw [hloc id hid]; exact h1, by rw [Below.heap_alloc w _ b hb]; exact h2, by rw [hm b (by omega)]; exact h3, h4, h5, fun j v x hv hx => (h6 j v x hv hx).ext he⟩
  · intro id b hid hb
    have hs := hR.fr.size
    rcases key id b hid hb with ⟨h1, h2⟩ | ⟨h1, h2, h3⟩
    · subst h2; exact ⟨by simp, .inl hs⟩
    · exact ⟨by simp; omega, (hw.here id b h1 h3).2⟩
  · intro i j b hi hj hbi hbj li lj
    have lv : ∀ i, i < s.nx → live h' i → live s.h i := by
      intro i hi l
      by_cases hik : i = k
      · subst hik
        obtain ⟨ob, hob, _⟩ := live_of l
        obtain ⟨t', _, h2⟩ := hhk ob hob
        obtain ⟨t, h3, _⟩ := h2 hi
        exact live_tip h3
      · exact live_eq (hh i hik) l
    rcases key i b hi hbi with ⟨h1, h2⟩ | ⟨h1, h2, h3⟩ <;> rcases key j b hj hbj with ⟨h4, h5⟩ | ⟨h4, h5, h6⟩
    · omega
    · omega
    · omega
    · exact hw.inj i j b h1 h4 h3 h6 (lv i h1 li) (lv j h4 lj)
  · intro id ob hg
    show id < nx'
    by_cases hik : id = k
    · omega
    · rw [hh id hik] at hg
      have := hw.hid id ob hg
      omega
  · intro b hb
    simp at hb
    rw [hm b (by omega)]
    exact hw.lim b (by omega)
  · intro cap hc1 hc2
    have hcell : ∀ (j : Nat) (u : Value), vs[j]? = some u → cs[j]? = some u := by
      intro j u hu
      rw [← hpre, List.getElem?_take] at hu
      split at hu
      · exact hu
      · cases hu
    refine .slice w.heap.size 0 cap sz l vs hc1 hc2 hsz hlen (fun j u hu => ?_) (fun j u c hu hc => (hr j u c hu hc).mono hmono)
    have hj : j < vs.length := (List.getElem?_eq_some_iff.1 hu).1
    refine ⟨by simp [G']; omega, ?_⟩
    rw [Nat.zero_add, cell_of_row _ _ _ cs.toArray e (0, 0) (heap_alloc_new w _)]
    simpa using hcell j u hu

/-- What a slice's value holds, cell by cell. -/
theorem RepD.flat {m : Nat → Nat} {v : Value} {sz : Nat} {l : List D} (hd : RepD m w v (.slice sz l)) :
    ∃ (A : Option Addr) (cap : Nat) (vs : List Value), v = .slice A l.length cap ∧ l.length ≤ cap ∧ cap ≤ maxLen ∧ (∀ d ∈ l, d.cells.length = sz ∧ ∀ c ∈ d.cells, c.one = true) ∧ vs.length = (l.flatMap D.cells).length ∧
      (A = none → l = [] ∧ cap = 0) ∧ (∀ ad, A = some ad → ∃ b off, ad = ⟨b, off, none⟩ ∧ ∀ (j : Nat) (u : Value), vs[j]? = some u → off + j < m b ∧ w.cell? ⟨b, off + j, none⟩ = some u) ∧
      ∀ (j : Nat) (u : Value) (c : D), vs[j]? = some u → (l.flatMap D.cells)[j]? = some c → RepD m w u c := by
  cases hd with
  | nil => exact ⟨none, 0, [], rfl, by simp, by simp [maxLen], by simp, by simp, fun _ => ⟨rfl, rfl⟩, (by intro ad h; cases h), (by intro j u c hu; simp at hu)⟩
  | slice b off cap _ _ vs hcap hmax hsz hlen hc hr =>
    exact ⟨_, cap, vs, rfl, hcap, hmax, hsz, hlen, (by intro h; cases h), (by intro ad h; injection h with h; subst h; exact ⟨b, off, rfl, hc⟩), hr⟩

theorem flat_one {l : List D} {m : Nat → Nat} {vs : List Value} (hlen : vs.length = (l.flatMap D.cells).length)
    (hr : ∀ (j : Nat) (u : Value) (c : D), vs[j]? = some u → (l.flatMap D.cells)[j]? = some c → RepD m w u c) : ∀ u ∈ vs, u.oneCell' = true := by
  intro u hu
  obtain ⟨j, hj, rfl⟩ := List.getElem_of_mem hu
  exact (hr j _ _ (List.getElem?_eq_getElem hj) (List.getElem?_eq_getElem (by omega))).one

/-- Facts on a slice's element type that append and make ask. -/
def rowOf (P : Program) (t : TypeId) : Option (Nat × Nat) :=
  match P.underlying t with
  | some (.slice e) => match P.info? e with
    | some i => match i.zero with
      | some z => if z.cells.size = i.size ∧ 0 < i.size then some (i.size, i.bytes) else none
      | none => none
    | none => none
  | _ => none
theorem rowOf_spec {t : TypeId} {sz bt : Nat} (hr : rowOf P t = some (sz, bt)) : ∃ e i z, P.underlying t = some (.slice e) ∧ P.info? e = some i ∧ i.zero = some z ∧ z.cells.size = sz ∧ 0 < sz ∧ i.size = sz ∧ i.bytes = bt := by
  unfold rowOf at hr
  split at hr
  · rename_i e hu
    split at hr
    · rename_i i hi
      split at hr
      · rename_i z hz
        split at hr
        · rename_i hc
          simp only [Option.some.injEq, Prod.mk.injEq] at hr
          exact ⟨e, i, z, hu, hi, hz, by omega, by omega, hr.1, hr.2⟩
        · cases hr
      · cases hr
    · cases hr
  · cases hr

end
end Go.Bv
