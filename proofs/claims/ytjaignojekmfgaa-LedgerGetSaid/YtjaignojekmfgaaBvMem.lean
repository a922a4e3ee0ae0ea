/-
  Part of a machine over pure data and objects that is sound for the model: what it says of a Go function holds of every call of that function. Conditions: those in each theorem. It speaks of any program.
-/
import Derived.Test.YtjaignojekmfgaaBvValT
namespace Go.Bv
open Go.RowKit

structure St where
  sl : List (Nat × V)
  h : Hp
  nx : Nat
def getS : List (Nat × V) → Nat → V
  | [], _ => .any
  | (i, x) :: r, j => if j = i then x else getS r j
def St.put (s : St) : Option Nat → V → St
  | some t, x => ⟨(t, x) :: s.sl, s.h, s.nx⟩
  | none, _ => s
def St.ev (s : St) : Operand → V
  | .tmp t => getS s.sl t
  | .const v => V.ofK v
  | .global _ => .any
  | .func f => .k (.func (.func f) #[] #[])

/-- What the call began with: the blocks of its caller's objects, the objects, how many numbers. -/
structure Tk where
  p : Nat → Prop
  h : Hp
  nx : Nat
instance : CoeFun Tk (fun _ => Nat → Prop) := ⟨Tk.p⟩
def Tk.none : Tk := ⟨fun _ => False, [], 0⟩

/-- To the objects with which the call began. -/
structure Ex (T : Tk) (G0 : Gh) (w0 : World) (G : Gh) (w : World) (h : Hp) (nx : Nat) : Prop where
  hnx : T.nx ≤ nx
  loc : ∀ id b, id < T.nx → G0.loc id = some b → G.loc id = some b
  tok : ∀ tok t', tok < T.nx → h.get tok = some (.tip t') → ∃ t, T.h.get tok = some (.tip t) ∧ t ≤ t' ∧
    (t = t' → ∀ b, G0.tloc tok = some b → G.tloc tok = some b ∧ w.heap[b]? = w0.heap[b]? ∧ G.lim b = G0.lim b)
  csz : ∀ b n, csz w0 b = some n → csz w b = some n
theorem Ex.ext {T : Tk} {G0 G G' : Gh} {w0 w w' : World} {h h' : Hp} {nx nx' : Nat} (a : Ex T G0 w0 G w h nx) (b : Ext G w h nx G' w' h' nx') : Ex T G0 w0 G' w' h' nx' := by
  have hn := a.hnx
  refine ⟨Nat.le_trans a.hnx b.hnx, fun id k hi hk => b.loc id k (by omega) (a.loc id k hi hk), fun tok t2 ht h2 => ?_, fun k n hk => b.csz k n (a.csz k n hk)⟩
  obtain ⟨t', g1, g2, g3⟩ := b.tok tok t2 (by omega) h2
  obtain ⟨t, f1, f2, f3⟩ := a.tok tok t' ht g1
  refine ⟨t, f1, by omega, fun htt k hk => ?_⟩
  obtain ⟨q1, q2, q3⟩ := f3 (by omega) k hk
  obtain ⟨r1, r2, r3⟩ := g3 (by omega) k q1
  exact ⟨r1, r2.trans q2, r3.trans q3⟩

/-- To the world in which the call began: what lies there and is no object of the call's is as it was. -/
structure Fr (T : Tk) (G0 : Gh) (w0 : World) (G : Gh) (w : World) : Prop where
  os : w.os = w0.os
  tape : w.tape = w0.tape
  output : w.output = w0.output
  size : w0.heap.size ≤ w.heap.size
  same : ∀ b, b < w0.heap.size → ¬ T b → w.heap[b]? = w0.heap[b]? ∧ G.lim b = G0.lim b
  mono : Mono G0.lim w0 G.lim w

/-- The maps. -/
def MapR (G : Gh) (w : World) (h : Hp) (nx : Nat) : Prop :=
  ∀ id es, h.get id = some (.map es) → ∃ b clk ms, G.loc id = some b ∧ w.heap[b]? = some (.map (List.toArray ms) clk) ∧ ms.length = es.length ∧ (∀ e ∈ es, ∀ l, e.2 ≠ V.tup l) ∧
    ∀ (j : Nat) (m : MapEntry) (e : D × V), ms[j]? = some m → es[j]? = some e → RepD G.lim w m.key e.1 ∧ RepV G w h nx m.val e.2

structure WR (T : Tk) (base : Nat) (G : Gh) (w : World) (h : Hp) (nx : Nat) : Prop where
  obj : ObjR G w h nx
  mob : MapR G w h nx
  here : ∀ id b, id < nx → (G.loc id = some b ∨ G.tloc id = some b) → b < w.heap.size ∧ (base ≤ b ∨ T b)
  inj : ∀ i j b, i < nx → j < nx → (G.loc i = some b ∨ G.tloc i = some b) → (G.loc j = some b ∨ G.tloc j = some b) → live h i → live h j → i = j
  hid : ∀ id ob, h.get id = some ob → id < nx
  lim : ∀ b, w.heap.size ≤ b → G.lim b = 0

structure R (T : Tk) (G0 : Gh) (w0 : World) (N : Nat) (s : St) (a : Act) (G : Gh) (w : World) : Prop where
  fr : Fr T G0 w0 G w
  wr : WR T w0.heap.size G w s.h s.nx
  df : a.defers = []
  sz : a.tmps.size = N
  sl : ∀ t, RepV G w s.h s.nx (a.tmps.getD t undef) (getS s.sl t)
  ex : Ex T G0 w0 G w s.h s.nx

section
variable {P : Program} {T : Tk} {G0 G : Gh} {w0 w : World} {N : Nat} {s : St} {a : Act} {h : Hp} {nx : Nat}

theorem ofK1_rep (v : Value) : RepV G w h nx v (V.ofK1 v) := by
  unfold V.ofK1
  split
  · exact .d _ _ (.int _ _)
  · exact .d _ _ (.bool _)
  · exact .d _ _ (.str _)
  · split
    · exact .k _
    · exact .any _
theorem ofK1_one {v : Value} (h1 : v.oneCell' = true) : (V.ofK1 v).one = true := by
  unfold V.ofK1
  split
  · rfl
  · rfl
  · rfl
  · rw [if_pos h1]; exact h1
theorem ofK1_agg (cs : List Value) (h1 : ∀ c ∈ cs, c.oneCell' = true) : RepV G w h nx (.agg cs.toArray) (.agg (cs.map V.ofK1)) := by
  refine .agg cs (cs.map V.ofK1) (by simp) (fun x hx => ?_) (fun j v x hv hx => ?_)
  · obtain ⟨c, hc, rfl⟩ := List.mem_map.1 hx
    exact ofK1_one (h1 c hc)
  · rw [List.getElem?_map, hv] at hx
    injection hx with hx
    subst hx
    exact ofK1_rep v
theorem ofK_rep (v : Value) : RepV G w h nx v (V.ofK v) := by
  unfold V.ofK
  split
  · split
    · rename_i cs hall
      have := ofK1_agg (G := G) (w := w) (h := h) (nx := nx) cs.toList (fun c hc => by
        rw [Array.all_eq_true_iff_forall_mem] at hall; exact hall c (by simpa using hc))
      simpa using this
    · exact .any _
  · exact ofK1_rep _

theorem R.ev (hR : R T G0 w0 N s a G w) (x : Operand) : RepV G w s.h s.nx (a.eval x) (s.ev x) := by
  cases x with
  | tmp t => exact hR.sl t
  | const v => exact ofK_rep v
  | global g => exact .any _
  | func f => exact .k _

theorem R.put (hR : R T G0 w0 N s a G w) {v : Value} {x : V} (hv : RepV G w s.h s.nx v x) (d : Option Nat) (hd : ∀ t, d = some t → t < N) : R T G0 w0 N (s.put d x) (a.put d v) G w := by
  cases d with
  | none => exact hR
  | some t =>
    refine ⟨hR.fr, hR.wr, hR.df, by simpa [Act.put] using hR.sz, fun u => ?_, hR.ex⟩
    have ht : t < a.tmps.size := by rw [hR.sz]; exact hd t rfl
    simp only [St.put, getS, Act.put]
    by_cases hu : u = t
    · subst hu; rw [if_pos rfl]; simpa [ht] using hv
    · rw [if_neg hu]
      have := hR.sl u
      have e : (a.tmps.setIfInBounds t v).getD u undef = a.tmps.getD u undef := by
        simp [Ne.symm hu]
      rw [e]; exact this

theorem RepV.drew {v : Value} {x : V} (hv : RepV G w h nx v x) : RepV G w.drew h nx v x :=
  RepV.ext (G := G) (w := w) (h := h) (nx := nx) (G' := G) (w' := w.drew) (h' := h) (nx' := nx) ⟨fun _ _ _ h1 h2 => ⟨h1, h2⟩, Nat.le_refl _, fun _ _ _ h => h, fun _ t' _ h => ⟨t', h, Nat.le_refl _, fun _ _ hb => ⟨hb, rfl, rfl⟩⟩, fun _ _ h => h⟩ hv

theorem R.drew (hR : R T G0 w0 N s a G w) : R T G0 w0 N s a G w.drew :=
  ⟨⟨hR.fr.os, hR.fr.tape, hR.fr.output, hR.fr.size, hR.fr.same, hR.fr.mono⟩,
   ⟨fun id l hl => let ⟨b, e, cs, h1, h2, h3, h4, h5, h6⟩ := hR.wr.obj id l hl; ⟨b, e, cs, h1, h2, h3, h4, h5, fun j v x hv hx => (h6 j v x hv hx).drew⟩,
    fun id es hl => let ⟨b, e, cs, h1, h2, h3, h0, h4⟩ := hR.wr.mob id es hl; ⟨b, e, cs, h1, h2, h3, h0, fun j m e hm he => ⟨RepD.mono (m := G.lim) (w := w) (m' := G.lim) (w' := w.drew) (fun _ _ _ h1 h2 => ⟨h1, h2⟩) (h4 j m e hm he).1, (h4 j m e hm he).2.drew⟩⟩, hR.wr.here, hR.wr.inj, hR.wr.hid, hR.wr.lim⟩,
   hR.df, hR.sz, fun t => (hR.sl t).drew, ⟨hR.ex.hnx, hR.ex.loc, hR.ex.tok, hR.ex.csz⟩⟩

theorem csz_lt {b n : Nat} (h : csz w b = some n) : b < w.heap.size := by
  unfold csz at h
  split at h
  · rename_i hb; exact (Array.getElem?_eq_some_iff.1 hb).1
  · cases h
theorem MapR.ext {G' : Gh} {w' : World} {h' : Hp} {nx' : Nat} (hm : MapR G w h nx) (he : Ext G w h nx G' w' h' nx') (hget : ∀ id es, h'.get id = some (.map es) → h.get id = some (.map es))
    (hid : ∀ id ob, h.get id = some ob → id < nx) (hheap : ∀ id b es, h'.get id = some (.map es) → G.loc id = some b → w'.heap[b]? = w.heap[b]?) : MapR G' w' h' nx' := by
  intro id es hes
  obtain ⟨b, clk, ms, h1, h2, h3, h0, h4⟩ := hm id es (hget id es hes)
  exact ⟨b, clk, ms, he.loc id b (hid _ _ (hget id es hes)) h1, (hheap id b es hes h1).trans h2, h3, h0, fun j m e hm' he' => ⟨(h4 j m e hm' he').1.mono he.mono, (h4 j m e hm' he').2.ext he⟩⟩

theorem mono_alloc (hlim : ∀ b, w.heap.size ≤ b → G.lim b = 0) (o : Obj) {m' : Nat → Nat} (hm : ∀ b, b ≠ w.heap.size → m' b = G.lim b) : Mono G.lim w m' (w.alloc o) := by
  intro b off v h1 h2
  have hb : b < w.heap.size := by
    rcases Nat.lt_or_ge b w.heap.size with h | h
    · exact h
    · rw [hlim b h] at h1; omega
  exact ⟨by rw [hm b (by omega)]; exact h1, by rw [World.cell?_alloc_lt w o ⟨b, off, none⟩ hb]; exact h2⟩

theorem Fr.alloc (hF : Fr T G0 w0 G w) (hlim : ∀ b, w.heap.size ≤ b → G.lim b = 0) (o : Obj) (G' : Gh) (hm : ∀ b, b ≠ w.heap.size → G'.lim b = G.lim b) : Fr T G0 w0 G' (w.alloc o) :=
  ⟨hF.os, hF.tape, hF.output, by simpa using Nat.le_succ_of_le hF.size, fun b hb hT => by
    obtain ⟨h1, h2⟩ := hF.same b hb hT
    have := hF.size
    exact ⟨by rw [Below.heap_alloc w o b (by omega)]; exact h1, by rw [hm b (by omega)]; exact h2⟩, hF.mono.trans (mono_alloc hlim o hm)⟩

/-- A new block, of which a new number (nx) may speak. -/
theorem ext_alloc (hw : WR T w0.heap.size G w h nx) (o : Obj) (G' : Gh) (h' : Hp) (hm : ∀ b, b ≠ w.heap.size → G'.lim b = G.lim b) (hl : ∀ i, i < nx → G'.loc i = G.loc i ∧ G'.tloc i = G.tloc i)
    (hh : ∀ i, i < nx → h'.get i = h.get i) {nx' : Nat} (hn : nx ≤ nx') : Ext G w h nx G' (w.alloc o) h' nx' :=
  ⟨mono_alloc hw.lim o hm, hn, fun id b hi hb => by rw [(hl id hi).1]; exact hb, fun tok t' ht h1 => by
    rw [hh tok ht] at h1
    refine ⟨t', h1, Nat.le_refl _, fun _ b hb => ?_⟩
    have := (hw.here tok b ht (.inr hb)).1
    exact ⟨by rw [(hl tok ht).2]; exact hb, Below.heap_alloc w o b (by omega), hm b (by omega)⟩, fun b n hb => by rw [csz_same (Below.heap_alloc w o b (csz_lt hb))]; exact hb⟩
theorem mob_alloc (hw : WR T w0.heap.size G w h nx) (o : Obj) {G' : Gh} {h' : Hp} {nx' : Nat} (he : Ext G w h nx G' (w.alloc o) h' nx') (hget : ∀ id es, h'.get id = some (.map es) → h.get id = some (.map es)) : MapR G' (w.alloc o) h' nx' :=
  hw.mob.ext he hget hw.hid (fun id b es hes hb => Below.heap_alloc w o b (hw.here id b (hw.hid _ _ (hget id es hes)) (.inl hb)).1)

/-- A new object: a block of cells. -/
theorem R.alloc (hR : R T G0 w0 N s a G w) (e : TypeId) (cs : List Value) (l : List V) (hlen : cs.length = l.length) (hone : ∀ x ∈ l, x.one = true)
    (hr : ∀ (j : Nat) (v : Value) (x : V), cs[j]? = some v → l[j]? = some x → RepV G w s.h s.nx v x) :
    ∃ G', R T G0 w0 N ⟨s.sl, (s.nx, .cells l) :: s.h, s.nx + 1⟩ a G' (w.alloc (.cells cs.toArray e)) ∧ RepV G' (w.alloc (.cells cs.toArray e)) ((s.nx, .cells l) :: s.h) (s.nx + 1) (.pointer (some ⟨w.heap.size, 0, none⟩)) (.ptr s.nx 0) := by
  have hw := hR.wr
  let G' : Gh := ⟨fun i => if i = s.nx then some w.heap.size else G.loc i, fun i => if i = s.nx then none else G.tloc i, G.lim⟩
  have hll : ∀ i, i < s.nx → G'.loc i = G.loc i ∧ G'.tloc i = G.tloc i := fun i hi => by simp [G', show i ≠ s.nx by omega]
  have hge : ∀ i, i < s.nx → Hp.get ((s.nx, .cells l) :: s.h) i = s.h.get i := fun i hi => by simp [Hp.get, show i ≠ s.nx by omega]
  have he := ext_alloc (w0 := w0) hw (.cells cs.toArray e) G' ((s.nx, .cells l) :: s.h) (fun _ _ => rfl) hll hge (nx' := s.nx + 1) (by omega)
  refine ⟨G', ⟨hR.fr.alloc hw.lim _ G' (fun _ _ => rfl), ⟨?_, mob_alloc hw _ he (fun id es hg => by simp only [Hp.get] at hg; split at hg; (· cases hg); exact hg), ?_, ?_, ?_, ?_⟩, hR.df, hR.sz, fun t => (hR.sl t).ext he, hR.ex.ext he⟩, .ptr _ _ _ (by omega) (by simp [G'])⟩
  · intro id l' hl'
    simp only [Hp.get] at hl'
    split at hl'
    · rename_i hid
      subst hid
      injection hl' with hl'
      injection hl' with hl'
      subst hl'
      exact ⟨w.heap.size, e, cs, by simp [G'], heap_alloc_new w _, hw.lim _ (Nat.le_refl _), Nat.le_of_eq hlen.symm, hone, fun j v x hv hx => (hr j v x hv hx).ext he⟩
    · obtain ⟨b, e', cs', h1, h2, h3, h4, h5, h6⟩ := hw.obj id l' hl'
      have hid := hw.hid id _ hl'
      have hb := (hw.here id b hid (.inl h1)).1
      exact ⟨b, e', cs', by rw [(hll id hid).1]; exact h1, by rw [Below.heap_alloc w _ b hb]; exact h2, h3, h4, h5, fun j v x hv hx => (h6 j v x hv hx).ext he⟩
  · intro id b hid hb
    have hid : id < s.nx + 1 := hid
    by_cases hi : id = s.nx
    · subst hi
      simp [G'] at hb
      subst hb
      have := hR.fr.size
      exact ⟨by simp, .inl this⟩
    · have h1 := hll id (by omega)
      rw [h1.1, h1.2] at hb
      obtain ⟨h2, h3⟩ := hw.here id b (by omega) hb
      exact ⟨by simp; omega, h3⟩
  · intro i j b hi hj hbi hbj li lj
    have key : ∀ i, i < s.nx + 1 → (G'.loc i = some b ∨ G'.tloc i = some b) → (i = s.nx ∧ b = w.heap.size) ∨ (i < s.nx ∧ b < w.heap.size ∧ (G.loc i = some b ∨ G.tloc i = some b)) := by
      intro i hi hb
      by_cases h0 : i = s.nx
      · subst h0; simp [G'] at hb; exact .inl ⟨rfl, hb.symm⟩
      · have h1 := hll i (by omega)
        rw [h1.1, h1.2] at hb
        exact .inr ⟨by omega, (hw.here i b (by omega) hb).1, hb⟩
    rcases key i hi hbi with ⟨h1, h2⟩ | ⟨h1, h2, h3⟩ <;> rcases key j hj hbj with ⟨h4, h5⟩ | ⟨h4, h5, h6⟩
    · omega
    · omega
    · omega
    · exact hw.inj i j b h1 h4 h3 h6 (live_eq (hge i h1) li) (live_eq (hge j h4) lj)
  · intro id ob hg
    show id < s.nx + 1
    simp only [Hp.get] at hg
    split at hg
    · omega
    · have := hw.hid id ob hg; omega
  · intro b hb
    exact hw.lim b (by simp at hb; omega)


/-- A new object, under a number that speaks of nothing yet. -/
theorem R.allocAt (hR : R T G0 w0 N s a G w) (k : Nat) (hk : k < s.nx) (hkl : G.loc k = none) (hkt : G.tloc k = none) (hkh : s.h.get k = none) (e : TypeId) (cs : List Value) (l : List V) (hlen : cs.length = l.length) (hone : ∀ x ∈ l, x.one = true)
    (hr : ∀ (j : Nat) (v : Value) (x : V), cs[j]? = some v → l[j]? = some x → RepV G w s.h s.nx v x) :
    ∃ G', R T G0 w0 N ⟨s.sl, (k, .cells l) :: s.h, s.nx⟩ a G' (w.alloc (.cells cs.toArray e)) ∧ RepV G' (w.alloc (.cells cs.toArray e)) ((k, .cells l) :: s.h) s.nx (.pointer (some ⟨w.heap.size, 0, none⟩)) (.ptr k 0) ∧
      ∀ i, i ≠ k → G'.loc i = G.loc i ∧ G'.tloc i = G.tloc i := by
  have hw := hR.wr
  let G' : Gh := ⟨fun i => if i = k then some w.heap.size else G.loc i, G.tloc, G.lim⟩
  have hll : ∀ i, i ≠ k → G'.loc i = G.loc i ∧ G'.tloc i = G.tloc i := fun i hi => by simp [G', hi]
  have hge : ∀ i, i ≠ k → Hp.get ((k, .cells l) :: s.h) i = s.h.get i := fun i hi => by simp [Hp.get, hi]
  have he : Ext G w s.h s.nx G' (w.alloc (.cells cs.toArray e)) ((k, .cells l) :: s.h) s.nx := by
    refine ⟨mono_alloc hw.lim _ (fun _ _ => rfl), Nat.le_refl _, fun id b hi hb => ?_, fun tok t' ht h1 => ?_, fun b n hb => ?_⟩
    · by_cases hik : id = k
      · subst hik; rw [hkl] at hb; cases hb
      · rw [(hll id hik).1]; exact hb
    · by_cases hik : tok = k
      · subst hik; simp [Hp.get] at h1
      · rw [hge tok hik] at h1
        refine ⟨t', h1, Nat.le_refl _, fun _ b hb => ?_⟩
        have := (hw.here tok b ht (.inr hb)).1
        exact ⟨hb, Below.heap_alloc w _ b (by omega), rfl⟩
    · rw [csz_same (Below.heap_alloc w _ b (csz_lt hb))]; exact hb
  refine ⟨G', ⟨hR.fr.alloc hw.lim _ G' (fun _ _ => rfl), ⟨?_, mob_alloc hw _ he (fun id es hg => by simp only [Hp.get] at hg; split at hg; (· cases hg); exact hg), ?_, ?_, ?_, ?_⟩, hR.df, hR.sz, fun t => (hR.sl t).ext he, hR.ex.ext he⟩, .ptr _ _ _ hk (by simp [G']), hll⟩
  · intro id l' hl'
    simp only [Hp.get] at hl'
    split at hl'
    · rename_i hid
      subst hid
      injection hl' with hl'
      injection hl' with hl'
      subst hl'
      exact ⟨w.heap.size, e, cs, by simp [G'], heap_alloc_new w _, hw.lim _ (Nat.le_refl _), Nat.le_of_eq hlen.symm, hone, fun j v x hv hx => (hr j v x hv hx).ext he⟩
    · rename_i hne
      obtain ⟨b, e', cs', h1, h2, h3, h4, h5, h6⟩ := hw.obj id l' hl'
      have hid := hw.hid id _ hl'
      have hb := (hw.here id b hid (.inl h1)).1
      exact ⟨b, e', cs', by rw [(hll id hne).1]; exact h1, by rw [Below.heap_alloc w _ b hb]; exact h2, h3, h4, h5, fun j v x hv hx => (h6 j v x hv hx).ext he⟩
  · intro id b hid hb
    by_cases hi : id = k
    · subst hi
      simp [G', hkt] at hb
      subst hb
      have := hR.fr.size
      exact ⟨by simp, .inl this⟩
    · have h1 := hll id hi
      rw [h1.1, h1.2] at hb
      obtain ⟨h2, h3⟩ := hw.here id b hid hb
      exact ⟨by simp; omega, h3⟩
  · intro i j b hi hj hbi hbj li lj
    have key : ∀ i, i < s.nx → (G'.loc i = some b ∨ G'.tloc i = some b) → (i = k ∧ b = w.heap.size) ∨ (i ≠ k ∧ b < w.heap.size ∧ (G.loc i = some b ∨ G.tloc i = some b)) := by
      intro i hi hb
      by_cases h0 : i = k
      · subst h0; simp [G', hkt] at hb; exact .inl ⟨rfl, hb.symm⟩
      · have h1 := hll i h0
        rw [h1.1, h1.2] at hb
        exact .inr ⟨h0, (hw.here i b hi hb).1, hb⟩
    rcases key i hi hbi with ⟨h1, h2⟩ | ⟨h1, h2, h3⟩ <;> rcases key j hj hbj with ⟨h4, h5⟩ | ⟨h4, h5, h6⟩
    · omega
    · omega
    · omega
    · exact hw.inj i j b hi hj h3 h6 (live_eq (hge i h1) li) (live_eq (hge j h4) lj)
  · intro id ob hg
    simp only [Hp.get] at hg
    split at hg
    · rename_i h; subst h; exact hk
    · exact hw.hid id ob hg
  · intro b hb
    exact hw.lim b (by simp at hb; omega)

/-- Room for more numbers. -/
theorem R.raise (hR : R T G0 w0 N s a G w) (n : Nat) : ∃ G', R T G0 w0 N ⟨s.sl, s.h, s.nx + n⟩ a G' w ∧ (∀ i, s.nx ≤ i → G'.loc i = none ∧ G'.tloc i = none) := by
  have hw := hR.wr
  let G' : Gh := ⟨fun i => if i < s.nx then G.loc i else none, fun i => if i < s.nx then G.tloc i else none, G.lim⟩
  have hlo : ∀ i, i < s.nx → G'.loc i = G.loc i ∧ G'.tloc i = G.tloc i := fun i hi => by simp [G', hi]
  have he : Ext G w s.h s.nx G' w s.h (s.nx + n) :=
    ⟨Mono.refl _ _, by omega, fun id b hi hb => by rw [(hlo id hi).1]; exact hb, fun tok t' ht h1 => ⟨t', h1, Nat.le_refl _, fun _ b hb => ⟨by rw [(hlo tok ht).2]; exact hb, rfl, rfl⟩⟩, fun _ _ h => h⟩
  have hsome : ∀ i b, (G'.loc i = some b ∨ G'.tloc i = some b) → i < s.nx ∧ (G.loc i = some b ∨ G.tloc i = some b) := by
    intro i b hb
    by_cases hin : i < s.nx
    · rw [(hlo i hin).1, (hlo i hin).2] at hb
      exact ⟨hin, hb⟩
    · simp [G', hin] at hb
  refine ⟨G', ⟨⟨hR.fr.os, hR.fr.tape, hR.fr.output, hR.fr.size, hR.fr.same, hR.fr.mono⟩, ⟨?_, hw.mob.ext he (fun _ _ h => h) hw.hid (fun _ _ _ _ _ => rfl), ?_, ?_, ?_, hw.lim⟩, hR.df, hR.sz, fun t => (hR.sl t).ext he, hR.ex.ext he⟩, fun i hi => by simp [G', show ¬ i < s.nx by omega]⟩
  · intro id l' hl'
    obtain ⟨b, e', cs', h1, h2, h3, h4, h5, h6⟩ := hw.obj id l' hl'
    have hid := hw.hid id _ hl'
    exact ⟨b, e', cs', by rw [(hlo id hid).1]; exact h1, h2, h3, h4, h5, fun j v x hv hx => (h6 j v x hv hx).ext he⟩
  · intro id b _ hb
    obtain ⟨h1, h2⟩ := hsome id b hb
    exact hw.here id b h1 h2
  · intro i j b _ _ hbi hbj li lj
    obtain ⟨h1, h2⟩ := hsome i b hbi
    obtain ⟨h3, h4⟩ := hsome j b hbj
    exact hw.inj i j b h1 h3 h2 h4 li lj
  · intro id ob hg
    have := hw.hid id ob hg
    show id < s.nx + n
    omega

/-- The same state, spelled otherwise. -/
theorem R.same {s' : St} (hR : R T G0 w0 N s a G w) (h1 : ∀ t, getS s'.sl t = getS s.sl t) (h2 : ∀ i, s'.h.get i = s.h.get i) (h3 : s'.nx = s.nx) : R T G0 w0 N s' a G w := by
  have he : Ext G w s.h s.nx G w s'.h s'.nx := ⟨Mono.refl _ _, by omega, fun _ _ _ h => h, fun tok t' _ h => ⟨t', by rw [h2] at h; exact h, Nat.le_refl _, fun _ _ hb => ⟨hb, rfl, rfl⟩⟩, fun _ _ h => h⟩
  have hw := hR.wr
  refine ⟨hR.fr, ⟨?_, hw.mob.ext he (fun id es hg => by rw [h2] at hg; exact hg) hw.hid (fun _ _ _ _ _ => rfl), ?_, ?_, ?_, hw.lim⟩, hR.df, hR.sz, fun t => by rw [h1]; exact (hR.sl t).ext he, hR.ex.ext he⟩
  · intro id l hl
    rw [h2] at hl
    obtain ⟨b, e', cs', k1, k2, k3, k4, k5, k6⟩ := hw.obj id l hl
    exact ⟨b, e', cs', k1, k2, k3, k4, k5, fun j v x hv hx => (k6 j v x hv hx).ext he⟩
  · intro id b hi; rw [h3] at hi; exact hw.here id b hi
  · intro i j b hi hj p q li lj; rw [h3] at hi hj; exact hw.inj i j b hi hj p q (live_eq (h2 i) li) (live_eq (h2 j) lj)
  · intro id ob hg; rw [h2] at hg; rw [h3]; exact hw.hid id ob hg
theorem R.same' (hR : R T G0 w0 N s a G w) {id : Nat} {o : Ob} (hg : s.h.get id = some o) : R T G0 w0 N ⟨s.sl, (id, o) :: s.h, s.nx⟩ a G w :=
  hR.same (fun _ => rfl) (fun i => by
    by_cases hi : i = id
    · subst hi; simp [Hp.get, hg]
    · simp [Hp.get, hi]) rfl

end
end Go.Bv
