/-
  Part of a machine over pure data and objects that is sound for the model: what it says of a Go function holds of every call of that function. Conditions: those in each theorem. It speaks of any program.
-/
import Derived.Test.YtjaignojekmfgaaBvMem
namespace Go.Bv
open Go.RowKit

section
variable {P : Program} {T : Tk} {G0 G : Gh} {w0 w : World} {N : Nat} {s : St} {a : Act} {h : Hp} {nx : Nat}

def Gh.setLim (G : Gh) (b m : Nat) : Gh := ⟨G.loc, G.tloc, fun i => if i = b then m else G.lim i⟩

/-- A row that one number speaks of is written, above its limit. -/
theorem ext_setRow {base : Nat} (hw : WR T base G w h nx) {id b m' : Nat} (hid : id < nx) (hlv : live h id) (hb : G.loc id = some b ∨ G.tloc id = some b) {cur cs' : Array Value} {e : TypeId}
    (hheap : w.heap[b]? = some (.cells cur e (0, 0))) (hm : G.lim b ≤ m') (hkeep : ∀ o v, o < G.lim b → cur[o]? = some v → cs'[o]? = some v) (hcs : cs'.size = cur.size) (ob : Ob)
    (hob : ∀ t', ob = .tip t' → ∃ t, h.get id = some (.tip t) ∧ t < t') : Ext G w h nx (G.setLim b m') (w.setRow b cs') ((id, ob) :: h) nx := by
  refine ⟨?_, Nat.le_refl _, fun _ _ _ h => h, ?_, ?_⟩
  · intro b' o v h1 h2
    by_cases hbb : b' = b
    · subst hbb
      refine ⟨by simp only [Gh.setLim, if_true]; omega, ?_⟩
      rw [cell_of_row w b' o cur e _ hheap] at h2
      rw [cell_of_row _ b' o cs' e _ (setRow_heap w b' cur cs' e _ hheap)]
      exact hkeep o v h1 h2
    · refine ⟨by simp only [Gh.setLim, if_neg hbb]; exact h1, ?_⟩
      rw [World.cell?_of_block (w := w) (a := ⟨b', o, none⟩) (setRow_other w b b' cs' hbb)]
      exact h2
  · intro tok t' ht h1
    simp only [Hp.get] at h1
    split at h1
    · rename_i hti
      subst hti
      injection h1 with h1
      obtain ⟨t, h2, h3⟩ := hob t' h1
      exact ⟨t, h2, by omega, fun h4 => by omega⟩
    · rename_i hti
      refine ⟨t', h1, Nat.le_refl _, fun _ b' hb' => ?_⟩
      have hbb : b' ≠ b := fun h => hti (hw.inj tok id b ht hid (.inr (h ▸ hb')) hb (live_tip h1) hlv)
      exact ⟨hb', setRow_other w b b' cs' hbb, by simp only [Gh.setLim, if_neg hbb]⟩
  · intro b' n hn
    by_cases hbb : b' = b
    · subst hbb
      rw [csz_of hheap] at hn
      rw [csz_of (setRow_heap w b' cur cs' e _ hheap), hcs]
      exact hn
    · rw [csz_same (setRow_other w b b' cs' hbb)]; exact hn

theorem Fr.setRow (hF : Fr T G0 w0 G w) (hw : WR T w0.heap.size G w h nx) {id b m' : Nat} (hid : id < nx) (hb : G.loc id = some b ∨ G.tloc id = some b) {cs' : Array Value}
    (hmono : Mono G.lim w (G.setLim b m').lim (w.setRow b cs')) : Fr T G0 w0 (G.setLim b m') (w.setRow b cs') := by
  refine ⟨hF.os, hF.tape, hF.output, by simpa [World.setRow] using hF.size, fun b' hb' hT => ?_, hF.mono.trans hmono⟩
  have hne : b' ≠ b := by
    rintro rfl
    rcases (hw.here id b' hid hb).2 with h1 | h1
    · omega
    · exact hT h1
  obtain ⟨h1, h2⟩ := hF.same b' hb' hT
  exact ⟨by rw [setRow_other w b b' cs' hne]; exact h1, by simp only [Gh.setLim, if_neg hne]; exact h2⟩

/-- The other objects stay. -/
theorem obj_others {base : Nat} (hw : WR T base G w h nx) {id b m' : Nat} (hid : id < nx) (hlv : live h id) (hb : G.loc id = some b ∨ G.tloc id = some b) {cs' : Array Value} {h' : Hp} {nx' : Nat}
    (he : Ext G w h nx (G.setLim b m') (w.setRow b cs') h' nx') {id' : Nat} (hne : id' ≠ id) {l : List V} (hl : h.get id' = some (.cells l)) :
    ∃ b' e cs, (G.setLim b m').loc id' = some b' ∧ (w.setRow b cs').heap[b']? = some (.cells (List.toArray cs) e (0, 0)) ∧ (G.setLim b m').lim b' = 0 ∧ l.length ≤ cs.length ∧ (∀ x ∈ l, x.one = true) ∧
      ∀ (j : Nat) (v : Value) (x : V), cs[j]? = some v → l[j]? = some x → RepV (G.setLim b m') (w.setRow b cs') h' nx' v x := by
  obtain ⟨b', e, cs, h1, h2, h3, h4, h5, h6⟩ := hw.obj id' l hl
  have hbb : b' ≠ b := fun h => hne (hw.inj id' id b (hw.hid id' _ hl) hid (.inl (h ▸ h1)) hb (live_cells hl) hlv)
  exact ⟨b', e, cs, h1, by rw [setRow_other w b b' cs' hbb]; exact h2, by simp only [Gh.setLim, if_neg hbb]; exact h3, h4, h5, fun j v x hv hx => (h6 j v x hv hx).ext he⟩

/-- The maps stay. -/
theorem mob_setRow {base : Nat} (hw : WR T base G w h nx) {b m' : Nat} {cur cs' : Array Value} {e : TypeId} (hheap : w.heap[b]? = some (.cells cur e (0, 0))) {h' : Hp} {nx' : Nat}
    (he : Ext G w h nx (G.setLim b m') (w.setRow b cs') h' nx') (hget : ∀ id es, h'.get id = some (.map es) → h.get id = some (.map es)) : MapR (G.setLim b m') (w.setRow b cs') h' nx' :=
  hw.mob.ext he hget hw.hid (fun id b' es hes hb => by
    obtain ⟨b2, clk, ms, h1, h2, _⟩ := hw.mob id es (hget id es hes)
    rw [hb] at h1
    injection h1 with h1
    subst h1
    have hbb : b' ≠ b := by rintro rfl; rw [hheap] at h2; cases h2
    exact setRow_other w b b' cs' hbb)

theorem setLim_same (G : Gh) (b : Nat) : G.setLim b (G.lim b) = G := by
  unfold Gh.setLim
  have : (fun i => if i = b then G.lim b else G.lim i) = G.lim := by funext i; split <;> simp_all
  rw [this]

def setAt (l : List V) (off : Nat) (cs : List V) : List V := l.take off ++ cs ++ l.drop (off + cs.length)

theorem getElem?_splice {α : Type} (l r : List α) (off j : Nat) (hle : off + r.length ≤ l.length) : (l.take off ++ r ++ l.drop (off + r.length))[j]? = if j < off then l[j]? else if j < off + r.length then r[j - off]? else l[j]? := by
  rw [List.append_assoc, List.getElem?_append, List.length_take, Nat.min_eq_left (by omega)]
  split
  · rw [List.getElem?_take, if_pos (by assumption)]
  · rw [List.getElem?_append]
    split
    · rw [if_pos (by omega)]
    · rw [if_neg (by omega), List.getElem?_drop]
      congr 1
      omega

/-- Cells are stored into an object. -/
theorem R.storeAt (hR : R T G0 w0 N s a G w) {id off b : Nat} {l : List V} (hl : s.h.get id = some (.cells l)) (hb : G.loc id = some b) {us : List Value} {xs : List V} (hul : us.length = xs.length) (hu1 : ∀ u ∈ us, u.oneCell' = true)
    (hur : ∀ (j : Nat) (u : Value) (c : V), us[j]? = some u → xs[j]? = some c → RepV G w s.h s.nx u c) (hone : ∀ c ∈ xs, c.one = true) (hfit : off + xs.length ≤ l.length) :
    ∃ w', (storeCells ⟨b, off, none⟩ us).run P w = .ok () w' ∧ R T G0 w0 N ⟨s.sl, (id, .cells (setAt l off xs)) :: s.h, s.nx⟩ a G w' := by
  have hw := hR.wr
  have hid : id < s.nx := hw.hid _ _ hl
  obtain ⟨b', e, cs, h1, h2, h3, h4, h5, h6⟩ := hw.obj id l hl
  obtain rfl : b' = b := by rw [hb] at h1; injection h1 with h1; exact h1.symm
  have hlim : G.lim b' = 0 := h3
  have hrun : (storeCells ⟨b', off, none⟩ us).run P w = .ok () (w.setRow b' (cs.take off ++ us ++ cs.drop (off + us.length)).toArray) := by
    have := run_storeCells_at P b' off e us 0 cs.toArray w h2 (by simp; omega) hu1
    simpa using this
  have he := ext_setRow (m' := G.lim b') (cs' := (cs.take off ++ us ++ cs.drop (off + us.length)).toArray) hw hid (live_cells hl) (.inl hb) h2 (Nat.le_refl _) (fun o v ho _ => by rw [hlim] at ho; omega)
    (by simp; omega) (.cells (setAt l off xs)) (fun t' h => by cases h)
  have hfr := Fr.setRow (m' := G.lim b') hR.fr hw hid (.inl hb) (cs' := (cs.take off ++ us ++ cs.drop (off + us.length)).toArray) he.mono
  have hobjo := fun {id' : Nat} (hne : id' ≠ id) {l' : List V} (hl' : s.h.get id' = some (.cells l')) => obj_others (m' := G.lim b') hw hid (live_cells hl) (.inl hb) he hne hl'
  have hmob := mob_setRow (m' := G.lim b') hw h2 he (fun id es hg => by simp only [Hp.get] at hg; split at hg; (· cases hg); exact hg)
  rw [setLim_same] at he hfr hmob
  refine ⟨_, hrun, ⟨hfr, ⟨?_, hmob, ?_, fun i j b hi hj h1 h2 l1 l2 => hw.inj i j b hi hj h1 h2 (live_over (live_cells hl) l1) (live_over (live_cells hl) l2), ?_, ?_⟩, hR.df, hR.sz, fun t => (hR.sl t).ext he, hR.ex.ext he⟩⟩
  · intro id' l' hl'
    simp only [Hp.get] at hl'
    split at hl'
    · rename_i hid'
      subst hid'
      injection hl' with hl'
      injection hl' with hl'
      subst hl'
      refine ⟨b', e, _, hb, setRow_heap w b' cs.toArray _ e _ h2, hlim, ?_, ?_, ?_⟩
      · simp only [setAt, List.length_append, List.length_take, List.length_drop]; omega
      · intro y hy
        simp only [setAt, List.mem_append] at hy
        rcases hy with (hy | hy) | hy
        · exact h5 y (List.mem_of_mem_take hy)
        · exact hone y hy
        · exact h5 y (List.mem_of_mem_drop hy)
      · intro j v' x' hv' hx'
        rw [getElem?_splice _ _ _ _ (by omega)] at hv'
        unfold setAt at hx'
        rw [getElem?_splice _ _ _ _ (by omega)] at hx'
        rw [hul] at hv'
        split at hv'
        · rename_i hj
          rw [if_pos hj] at hx'
          exact (h6 j v' x' hv' hx').ext he
        · rename_i hj
          rw [if_neg hj] at hx'
          split at hv'
          · rename_i hj2
            rw [if_pos hj2] at hx'
            exact (hur _ _ _ hv' hx').ext he
          · rename_i hj2
            rw [if_neg hj2] at hx'
            exact (h6 j v' x' hv' hx').ext he
    · rename_i hne
      have := hobjo hne hl'
      rwa [setLim_same] at this
  · intro id' b'' hi hb''
    have := hw.here id' b'' hi hb''
    exact ⟨by simpa [World.setRow] using this.1, this.2⟩
  · intro id' ob hg
    simp only [Hp.get] at hg
    split at hg
    · rename_i h; subst h; exact hid
    · exact hw.hid id' ob hg
  · intro b'' hb''
    exact hw.lim b'' (by simpa [World.setRow] using hb'')

/-- The cells of a value. -/
theorem cells_of {v : Value} {x : V} (hx : RepV G w h nx v x) (hone : ∀ c ∈ x.cells, c.one = true) : ∃ us : List Value, v.cells = us.toArray ∧ us.length = x.cells.length ∧ (∀ u ∈ us, u.oneCell' = true) ∧ ∀ (j : Nat) (u : Value) (c : V), us[j]? = some u → x.cells[j]? = some c → RepV G w h nx u c := by
  have single : ∀ (v : Value) (x : V), x.cells = [x] → v.cells = #[v] → x.one = true → RepV G w h nx v x → ∃ us : List Value, v.cells = us.toArray ∧ us.length = x.cells.length ∧ (∀ u ∈ us, u.oneCell' = true) ∧ ∀ (j : Nat) (u : Value) (c : V), us[j]? = some u → x.cells[j]? = some c → RepV G w h nx u c := by
    intro v x e1 e2 e3 e4
    refine ⟨[v], by rw [e2], by rw [e1]; rfl, fun u hu => by simp at hu; subst hu; exact e4.one e3, fun j u c hu hc => ?_⟩
    rw [e1] at hc
    cases j with
    | zero => simp at hu hc; subst hu; subst hc; exact e4
    | succ j => simp at hu
  cases x with
  | agg lx =>
    cases hx with | agg vs _ hlen hone' hr =>
    refine ⟨vs, rfl, hlen, fun u hu => ?_, hr⟩
    obtain ⟨j, hj, rfl⟩ := List.getElem_of_mem hu
    have hj' : j < lx.length := by omega
    exact (hr j _ _ (List.getElem?_eq_getElem hj) (List.getElem?_eq_getElem hj')).one (hone' _ (List.getElem_mem hj'))
  | _ =>
    have e3 := hone _ (List.mem_singleton.2 rfl)
    have e5 := hx.one e3
    exact single _ _ rfl (by cases v <;> first | rfl | cases e5) e3 hx

/-- A store into an object. -/
theorem R.store (hR : R T G0 w0 N s a G w) {id off : Nat} {l : List V} (hl : s.h.get id = some (.cells l)) {v addr : Value} {x : V} (hx : RepV G w s.h s.nx v x) (ha : RepV G w s.h s.nx addr (.ptr id off))
    (hone : ∀ c ∈ x.cells, c.one = true) {t : TypeId} {g : Bool} {n : Nat} (ht : tyOf P t = some (g, n)) (hn : x.cells.length = n) (hfit : off + n ≤ l.length) :
    ∃ w', (Instr.storeAt t addr v).run P w = .ok () w' ∧ R T G0 w0 N ⟨s.sl, (id, .cells (setAt l off x.cells)) :: s.h, s.nx⟩ a G w' := by
  cases ha with | ptr _ _ b hid hb =>
  obtain ⟨us, hus, hul, hu1, hur⟩ := cells_of hx hone
  obtain ⟨w', hrun, hR'⟩ := hR.storeAt (P := P) (off := off) hl hb hul hu1 hur hone (by omega)
  refine ⟨w', ?_, hR'⟩
  have hsz := (tyOf_run ht w).2
  simp only [Instr.storeAt, Instr.sureAddr, storeVar, Sem.run_bind, Sem.run_pure, Result.andThen_ok, hsz, hus]
  rw [if_neg (by simp; omega)]
  simpa using hrun

end
end Go.Bv
