/-
  Part of a machine over pure data and objects that is sound for the model: what it says of a Go function holds of every call of that function. Conditions: those in each theorem. It speaks of any program.
-/
import Derived.Test.YtjaignojekmfgaaBvDraw3
import Derived.Test.YtjaignojekmfgaaBvSimp
namespace Go.Bv
open Go.RowKit

def wsL (ws : List (Nat × Nat)) (af : Array Edge) (id : Nat) : Prop := ∀ p ∈ ws, p.1 = id → edgeB af p.2 = true
/-- What is written: after all that wrote or read it, made by this operation or there. -/
def wrOk (nb S k : Nat) (ws rs : List (Nat × Nat)) (af : Array Edge) (h : Hp) (ids : List Nat) : Prop :=
  ∀ id ∈ ids, wsL ws af id ∧ wsL rs af id ∧ id < frs nb S (k + 1) ∧ (frs nb S k ≤ id ∨ (h.get id).isSome = true)
def rdOk (ws : List (Nat × Nat)) (af : Array Edge) (ids : List Nat) : Prop := ∀ id ∈ ids, wsL ws af id
def keys (h : Hp) : List Nat := h.map (·.1)
theorem keys_iff (h : Hp) (id : Nat) : (h.get id).isSome = true ↔ id ∈ keys h := by
  unfold keys
  induction h with
  | nil => simp [Hp.get]
  | cons p r ih =>
    obtain ⟨i, o⟩ := p
    simp only [Hp.get, List.map_cons, List.mem_cons]
    split
    · rename_i h; simp [h]
    · rename_i h; rw [ih]; simp [h]

def DOps (P : Program) (N : Nat) (tb : List (Option Nat)) (nb S : Nat) : List (Nat × Nat) → List (Nat × Nat) → Nat → List Oper → (St → Prop) → St → Prop
  | _, _, _, [], K, s => K s
  | ws, rs, k, o :: r, K, s => ∃ e, stepD P N tb nb S k o e s ∧ (wrOk nb S k ws rs o.after s.h (keys e.hu) ∧ rdOk ws o.after e.rd) ∧ DOps P N tb nb S ((keys e.hu).map (·, k) ++ ws) (e.rd.map (·, k) ++ rs) (k + 1) r K (e.app s)

theorem DOps_mono {P : Program} {N : Nat} {tb : List (Option Nat)} {nb S : Nat} {K : St → Prop} : ∀ (l : List Oper) (ws rs rs' : List (Nat × Nat)) (k : Nat) (s : St), (∀ p ∈ rs', p ∈ rs) → DOps P N tb nb S ws rs k l K s → DOps P N tb nb S ws rs' k l K s
  | [], _, _, _, _, _, _, h => h
  | o :: l, ws, rs, rs', k, s, hs, h => by
    obtain ⟨e, h1, ⟨h2, h3⟩, h4⟩ := h
    refine ⟨e, h1, ⟨fun id hid => ?_, h3⟩, DOps_mono l _ _ _ (k + 1) _ (fun p hp => ?_) h4⟩
    · obtain ⟨q1, q2, q3⟩ := h2 id hid
      exact ⟨q1, fun p hp => q2 p (hs p hp), q3⟩
    · rcases List.mem_append.1 hp with h | h
      · exact List.mem_append_left _ h
      · exact List.mem_append_right _ (hs p h)

theorem edgeB_spec {af : Array Edge} {k : Nat} (h : edgeB af k = true) : ∃ e ∈ af, Region.binds .any e = true ∧ e.on = k := by
  unfold edgeB at h
  obtain ⟨e, he, h1⟩ := Array.any_eq_true'.1 h
  simp only [Bool.and_eq_true, beq_iff_eq] at h1
  exact ⟨e, he, h1.1, h1.2⟩

theorem dops_es {P : Program} {N : Nat} {tb : List (Option Nat)} {nb S : Nat} : ∀ (l : List Oper) (ws rs : List (Nat × Nat)) (k : Nat) (K : St → Prop) (s : St), DOps P N tb nb S ws rs k l K s →
    ∃ es : List Eff, es.length = l.length ∧ K (es.foldl (fun s e => e.app s) s) ∧
      (∀ (i : Nat) (o : Oper) (e : Eff), l[i]? = some o → es[i]? = some e → stepD P N tb nb S (k + i) o e ((es.take i).foldl (fun s e => e.app s) s)) ∧
      (∀ (i j : Nat) (ei ej : Eff) (oj : Oper) (id : Nat), i < j → es[i]? = some ei → es[j]? = some ej → l[j]? = some oj → (((Hp.get ei.hu id).isSome = true ∧ ((Hp.get ej.hu id).isSome = true ∨ id ∈ ej.rd)) ∨ (id ∈ ei.rd ∧ (Hp.get ej.hu id).isSome = true)) → ∃ e ∈ oj.after, Region.binds .any e = true ∧ e.on = k + i) ∧
      (∀ (j : Nat) (ej : Eff) (oj : Oper) (id : Nat), es[j]? = some ej → l[j]? = some oj → ((Hp.get ej.hu id).isSome = true ∨ id ∈ ej.rd) → ∀ p ∈ ws, p.1 = id → ∃ e ∈ oj.after, Region.binds .any e = true ∧ e.on = p.2) ∧
      (∀ (j : Nat) (ej : Eff) (oj : Oper) (id : Nat), es[j]? = some ej → l[j]? = some oj → (Hp.get ej.hu id).isSome = true → ∀ p ∈ rs, p.1 = id → ∃ e ∈ oj.after, Region.binds .any e = true ∧ e.on = p.2) ∧
      (∀ (j : Nat) (e : Eff) (id : Nat), es[j]? = some e → (Hp.get e.hu id).isSome = true → id < frs nb S (k + j + 1)) ∧
      (∀ (j : Nat) (e : Eff) (id : Nat), es[j]? = some e → (Hp.get e.hu id).isSome = true → frs nb S (k + j) ≤ id ∨ ((es.take j).foldl (fun s e => e.app s) s).h.get id ≠ none)
  | [], ws, rs, k, K, s, h => ⟨[], rfl, h, by simp, by simp, by simp, by simp, by simp, by simp⟩
  | o :: l, ws, rs, k, K, s, h => by
    obtain ⟨e, h1, ⟨h2, h2r⟩, h3⟩ := h
    obtain ⟨es, g1, g2, g3, g4, g5, g6, g7, g8⟩ := dops_es l _ _ (k + 1) K _ h3
    refine ⟨e :: es, by simp [g1], g2, ?_, ?_, ?_, ?_, ?_, ?_⟩
    · intro i o' e' ho he
      cases i with
      | zero => simp at ho he; subst ho; subst he; simpa using h1
      | succ i =>
        simp at ho he
        have := g3 i o' e' ho he
        rw [show k + (i + 1) = k + 1 + i by omega]
        simpa using this
    · intro i j ei ej oj id hij hi hj hoj hc
      cases j with
      | zero => omega
      | succ j =>
        simp at hj hoj
        cases i with
        | zero =>
          simp at hi
          subst hi
          rcases hc with ⟨c1, c2⟩ | ⟨c1, c2⟩
          · have := g5 j ej oj id hj hoj c2 (id, k) (List.mem_append_left _ (List.mem_map.2 ⟨id, (keys_iff _ _).1 c1, rfl⟩)) rfl
            simpa using this
          · have := g6 j ej oj id hj hoj c2 (id, k) (List.mem_append_left _ (List.mem_map.2 ⟨id, c1, rfl⟩)) rfl
            simpa using this
        | succ i =>
          simp at hi
          have := g4 i j ei ej oj id (by omega) hi hj hoj hc
          rw [show k + (i + 1) = k + 1 + i by omega]
          exact this
    · intro j ej oj id hj hoj hc p hp hpi
      cases j with
      | zero =>
        simp at hj hoj
        subst hj
        subst hoj
        rcases hc with hc | hc
        · exact edgeB_spec ((h2 id ((keys_iff _ _).1 hc)).1 p hp hpi)
        · exact edgeB_spec (h2r id hc p hp hpi)
      | succ j =>
        simp at hj hoj
        exact g5 j ej oj id hj hoj hc p (List.mem_append_right _ hp) hpi
    · intro j ej oj id hj hoj hc p hp hpi
      cases j with
      | zero =>
        simp at hj hoj
        subst hj
        subst hoj
        exact edgeB_spec ((h2 id ((keys_iff _ _).1 hc)).2.1 p hp hpi)
      | succ j =>
        simp at hj hoj
        exact g6 j ej oj id hj hoj hc p (List.mem_append_right _ hp) hpi
    · intro j e' id hj hc
      cases j with
      | zero =>
        simp at hj
        subst hj
        exact (h2 id ((keys_iff _ _).1 hc)).2.2.1
      | succ j =>
        simp at hj
        have := g7 j e' id hj hc
        rw [show k + (j + 1) + 1 = k + 1 + j + 1 by omega]
        exact this
    · intro j e' id hj hc
      cases j with
      | zero =>
        simp at hj
        subst hj
        rcases (h2 id ((keys_iff _ _).1 hc)).2.2.2 with h | h
        · exact .inl h
        · exact .inr (by simpa using Option.isSome_iff_ne_none.1 h)
      | succ j =>
        simp at hj
        have := g8 j e' id hj hc
        rw [show k + (j + 1) = k + 1 + j by omega]
        simpa using this

section
variable {P : Program} {T : Tk} {G0 : Gh} {w0 : World} {N : Nat} {s : St} {Q : Exit → St → Prop}

theorem stE_all (es : List Eff) : ∀ (k : Nat) (s : St), stE (fun _ => true) es k s = es.foldl (fun s e => e.app s) s := by
  induction es with
  | nil => intro _ _; rfl
  | cons e es ih => intro k s; rw [stE, ih]; rfl
theorem stE_none (E : Nat → Bool) (es : List Eff) : ∀ (k : Nat) (s : St), (∀ n, k ≤ n → n < k + es.length → E n = false) → stE E es k s = s := by
  induction es with
  | nil => intro _ _ _; rfl
  | cons e es ih =>
    intro k s h
    rw [stE, ih (k + 1) _ (fun n h1 h2 => h n (by omega) (by simp; omega)), h k (Nat.le_refl _) (by simp)]
    rfl

/-- A REGION THAT DRAWS ITS ORDER: its operations in the order of the text; each makes at most S objects. -/
theorem sat_drawn (S : Nat) {id : Nat} {l : List Oper} (hm : P.follows .mixedOrders = true) (hB : Region.lexB .any l.toArray = true)
    (h : ∀ K : St → Prop, (∀ s', Q .normal s' → K s') → DOps P N (l.map (·.dst)) s.nx S [] [] 0 l K ⟨s.sl, s.h, s.nx + l.length * S⟩) : Sat P T G0 w0 N (.region id l.toArray true) s Q := by
  intro G a w hR
  obtain ⟨es, g1, g2, g3, g4, _, _, g7, g8⟩ := dops_es l [] [] 0 (Q .normal) _ (h _ fun _ h => h)
  have hRd : R T G0 w0 N s a G { w with drawn := w.drawn + 1 } := hR.drew
  obtain ⟨G', hR', hG'⟩ := hRd.raise (l.length * S)
  refine wp_region_any hm ?_
  have hrep : ∀ n, (Array.replicate l.length false).getD n false = false := fun n => by
    rw [Array.getD_eq_getD_getElem?, Array.getElem?_replicate]
    split <;> rfl
  have hpre : ∀ i, stE (fun k => decide (k < i)) es 0 ⟨s.sl, s.h, s.nx + l.length * S⟩ = (es.take i).foldl (fun s e => e.app s) ⟨s.sl, s.h, s.nx + l.length * S⟩ := fun i => by
    have hp := stE_prefix es i 0 ⟨s.sl, s.h, s.nx + l.length * S⟩
    simpa only [Nat.zero_add] using hp
  have hmain := drawn (P := P) (T := T) (G0 := G0) (w0 := w0) (N := N) (l := l) (es := es) (s0 := ⟨s.sl, s.h, s.nx + l.length * S⟩) (nb := s.nx) (S := S) (Q := fun e a' w' => ∃ s' G', Q e s' ∧ R T G0 w0 N s' a' G' w') g1 rfl
    (fun k hk => by
      cases hg : s.h.get k with
      | none => rfl
      | some ob => have := hR.wr.hid _ _ hg; omega)
    (fun i o e ho he => by
      have := g3 i o e ho he
      simp only [Nat.zero_add] at this
      rw [hpre]
      exact this) hB
    (fun i j ei ej oj id hij hi hj hoj h1 => by simpa using g4 i j ei ej oj id hij hi hj hoj h1)
    (fun j e id hj h1 => by simpa using g7 j e id hj h1)
    (fun j e id hj h1 => by rw [hpre]; simpa using g8 j e id hj h1)
    (fun a' G'' w' hRR => ⟨_, G'', g2, by rw [← stE_all es 0]; exact hRR⟩)
    l.length (Array.replicate l.length false) a G' { w with drawn := w.drawn + 1 } (by simp)
    (fun j oj _ hj => by rw [hrep] at hj; cases hj)
    (by
      rw [stE_none _ es 0 _ (fun n _ _ => hrep n)]
      exact hR')
    (fun k _ _ id hid _ => hG' _ (by unfold frs at hid; omega))
    (by
      have := List.length_filter_le (fun i => !(Array.replicate l.length false).getD i false) (List.range l.length)
      simpa using this)
  simpa using hmain

end

section
variable (P : Program) (N : Nat) (tb : List (Option Nat)) (nb S : Nat) (ws rs : List (Nat × Nat)) (k : Nat) (d : Option Nat) (ty : TypeId) (p : String) (af : Array Edge) (r : List Oper) (K : St → Prop) (s : St)

theorem D_gen {op : Op} {C : Prop} {X : V} (hop : ∀ e : Eff, opD P nb S k op e s ↔ (C ∧ e.x = X ∧ e.hu = [])) :
    DOps P N tb nb S ws rs k (⟨d, op, ty, p, af, none⟩ :: r) K s = (dstOk N d ∧ C ∧ DOps P N tb nb S ws rs (k + 1) r K (s.put d X)) := by
  apply propext
  constructor
  · rintro ⟨⟨ed, ex, eh, er⟩, ⟨h1, h2, h3⟩, h4, h5⟩
    obtain ⟨q1, q2, q3⟩ := (hop _).1 h3
    simp only at h2 q2 q3
    subst h2
    subst q2
    subst q3
    exact ⟨h1, q1, DOps_mono r _ _ _ _ _ (fun p hp => List.mem_append_right _ hp) h5⟩
  · rintro ⟨h1, h2, h3⟩
    exact ⟨⟨d, X, [], []⟩, ⟨h1, rfl, (hop _).2 ⟨h2, rfl, rfl⟩⟩, ⟨fun _ h => (by cases h), fun _ h => (by cases h)⟩, h3⟩
theorem D_nil : DOps P N tb nb S ws rs k [] K s = K s := rfl
theorem D_move (x : Operand) : DOps P N tb nb S ws rs k (⟨d, .move x, ty, p, af, none⟩ :: r) K s = (dstOk N d ∧ DOps P N tb nb S ws rs (k + 1) r K (s.put d (s.ev x))) := by
  rw [D_gen (C := True) (X := s.ev x) P N tb nb S ws rs k d ty p af r K s (fun e => by simp [opD, avOk, av])]
  simp
theorem D_assign (x : Operand) : DOps P N tb nb S ws rs k (⟨d, .assign x, ty, p, af, none⟩ :: r) K s = (dstOk N d ∧ DOps P N tb nb S ws rs (k + 1) r K (s.put d (s.ev x))) := by
  rw [D_gen (C := True) (X := s.ev x) P N tb nb S ws rs k d ty p af r K s (fun e => by simp [opD, avOk, av])]
  simp
theorem D_pick (c x y : Operand) : DOps P N tb nb S ws rs k (⟨d, .pick c x y, ty, p, af, none⟩ :: r) K s = (dstOk N d ∧ pickOk (s.ev c) ∧ DOps P N tb nb S ws rs (k + 1) r K (s.put d (pickV (s.ev c) (s.ev x) (s.ev y)))) := D_gen _ _ _ _ _ _ _ _ _ _ _ _ _ _ _ (fun _ => Iff.rfl)
theorem D_fieldAddr (t : TypeId) (x : Operand) (f : Nat) : DOps P N tb nb S ws rs k (⟨d, .fieldAddr t x f, ty, p, af, none⟩ :: r) K s = (dstOk N d ∧ faddrOk (fldOf P t f) (s.ev x) ∧ DOps P N tb nb S ws rs (k + 1) r K (s.put d (faddrV (fldOf P t f) (s.ev x)))) := D_gen _ _ _ _ _ _ _ _ _ _ _ _ _ _ _ (fun _ => Iff.rfl)
theorem D_field (t : TypeId) (x : Operand) (f : Nat) : DOps P N tb nb S ws rs k (⟨d, .field t x f, ty, p, af, none⟩ :: r) K s = (dstOk N d ∧ fieldOk (fldOf P t f) (s.ev x) ∧ DOps P N tb nb S ws rs (k + 1) r K (s.put d (fieldV (fldOf P t f) (s.ev x)))) := D_gen _ _ _ _ _ _ _ _ _ _ _ _ _ _ _ (fun _ => Iff.rfl)
theorem D_indexAddr (t : TypeId) (x i : Operand) : DOps P N tb nb S ws rs k (⟨d, .indexAddr t x i, ty, p, af, none⟩ :: r) K s = (dstOk N d ∧ iaddrOk (Bv.elemOf P t) (arrOf P t) (s.ev x) (s.ev i) ∧ DOps P N tb nb S ws rs (k + 1) r K (s.put d (iaddrV (Bv.elemOf P t) (arrOf P t) (s.ev x) (s.ev i)))) := D_gen _ _ _ _ _ _ _ _ _ _ _ _ _ _ _ (fun _ => Iff.rfl)
theorem D_index (t : TypeId) (x i : Operand) : DOps P N tb nb S ws rs k (⟨d, .index t x i, ty, p, af, none⟩ :: r) K s = (dstOk N d ∧ indexOk P t (arrOf P t) (s.ev x) (s.ev i) ∧ DOps P N tb nb S ws rs (k + 1) r K (s.put d (indexV (arrOf P t) (s.ev x) (s.ev i)))) := D_gen _ _ _ _ _ _ _ _ _ _ _ _ _ _ _ (fun _ => Iff.rfl)
theorem D_extract (x : Operand) (i : Nat) : DOps P N tb nb S ws rs k (⟨d, .extract x i, ty, p, af, none⟩ :: r) K s = (dstOk N d ∧ extOk i (s.ev x) ∧ DOps P N tb nb S ws rs (k + 1) r K (s.put d (extV i (s.ev x)))) := D_gen _ _ _ _ _ _ _ _ _ _ _ _ _ _ _ (fun _ => Iff.rfl)
theorem D_binOp (op : BinOp) (t t' : TypeId) (x y : Operand) : DOps P N tb nb S ws rs k (⟨d, .binOp op t x y t', ty, p, af, none⟩ :: r) K s = (dstOk N d ∧ binOk (eqT P t) (P.underlying t) op (s.ev x) (s.ev y) ∧ DOps P N tb nb S ws rs (k + 1) r K (s.put d (binV op (s.ev x) (s.ev y)))) := D_gen _ _ _ _ _ _ _ _ _ _ _ _ _ _ _ (fun _ => Iff.rfl)
theorem D_unOp (op : UnOp) (t : TypeId) (x : Operand) : DOps P N tb nb S ws rs k (⟨d, .unOp op t x, ty, p, af, none⟩ :: r) K s = (dstOk N d ∧ unOk op (s.ev x) ∧ DOps P N tb nb S ws rs (k + 1) r K (s.put d (unV (s.ev x)))) := D_gen _ _ _ _ _ _ _ _ _ _ _ _ _ _ _ (fun _ => Iff.rfl)
theorem D_convert (t t' : TypeId) (x : Operand) : DOps P N tb nb S ws rs k (⟨d, .convert t t' x, ty, p, af, none⟩ :: r) K s = (dstOk N d ∧ ((P.underlying t).isSome = true ∧ convOk (P.underlying t') (s.ev x)) ∧ DOps P N tb nb S ws rs (k + 1) r K (s.put d (convV (P.underlying t') (s.ev x)))) := D_gen _ _ _ _ _ _ _ _ _ _ _ _ _ _ _ (fun _ => Iff.rfl)
theorem D_nilCheck (x : Operand) : DOps P N tb nb S ws rs k (⟨d, .nilCheck x, ty, p, af, none⟩ :: r) K s = (dstOk N d ∧ nilCkOk (s.ev x) ∧ DOps P N tb nb S ws rs (k + 1) r K (s.put d (nilCkV (s.ev x)))) := D_gen _ _ _ _ _ _ _ _ _ _ _ _ _ _ _ (fun _ => Iff.rfl)
theorem D_slice (t : TypeId) (x : Operand) (lo hi : Option Operand) : DOps P N tb nb S ws rs k (⟨d, .slice t x lo hi none, ty, p, af, none⟩ :: r) K s = (dstOk N d ∧ sliceOk (Bv.elemOf P t) (s.ev x) (lo.map s.ev) (hi.map s.ev) ∧ DOps P N tb nb S ws rs (k + 1) r K (s.put d (sliceV (Bv.elemOf P t) (s.ev x) (lo.map s.ev) (hi.map s.ev)))) :=
  D_gen _ _ _ _ _ _ _ _ _ _ _ _ _ _ _ (fun e => by simp [opD, avOk, av])
theorem D_len (x : Operand) (t : TypeId) : DOps P N tb nb S ws rs k (⟨d, .call ⟨.builtin .len, #[x], #[t]⟩, ty, p, af, none⟩ :: r) K s = (dstOk N d ∧ lenOk (P.underlying t) (s.ev x) ∧ DOps P N tb nb S ws rs (k + 1) r K (s.put d (lenV (s.ev x)))) :=
  D_gen _ _ _ _ _ _ _ _ _ _ _ _ _ _ _ (fun e => by simp [opD, avOk, av, callVOk, callV])
theorem D_min (x y : Operand) (ts : Array TypeId) : DOps P N tb nb S ws rs k (⟨d, .call ⟨.builtin .min, #[x, y], ts⟩, ty, p, af, none⟩ :: r) K s = (dstOk N d ∧ twoInts (s.ev x) (s.ev y) ∧ DOps P N tb nb S ws rs (k + 1) r K (s.put d (minV (s.ev x) (s.ev y)))) :=
  D_gen _ _ _ _ _ _ _ _ _ _ _ _ _ _ _ (fun e => by simp [opD, avOk, av, callVOk, callV])
theorem D_max (x y : Operand) (ts : Array TypeId) : DOps P N tb nb S ws rs k (⟨d, .call ⟨.builtin .max, #[x, y], ts⟩, ty, p, af, none⟩ :: r) K s = (dstOk N d ∧ twoInts (s.ev x) (s.ev y) ∧ DOps P N tb nb S ws rs (k + 1) r K (s.put d (maxV (s.ev x) (s.ev y)))) :=
  D_gen _ _ _ _ _ _ _ _ _ _ _ _ _ _ _ (fun e => by simp [opD, avOk, av, callVOk, callV])
theorem D_build (t : TypeId) (ps : List (Nat × Operand)) : DOps P N tb nb S ws rs k (⟨d, .build t ps.toArray, ty, p, af, none⟩ :: r) K s = (dstOk N d ∧ (((plOf P t).isSome = true ∧ (zeroV P t).isSome = true) ∧ fillOk (plD P t) (zeroD P t) (ps.map fun p => (p.1, s.ev p.2))) ∧
    DOps P N tb nb S ws rs (k + 1) r K (s.put d (.agg (fillR (plD P t) (zeroD P t) (ps.map fun p => (p.1, s.ev p.2)))))) :=
  D_gen _ _ _ _ _ _ _ _ _ _ _ _ _ _ _ (fun e => by simp [opD, and_assoc])
theorem D_buildSlice (t : TypeId) (n : Nat) (ps : List (Nat × Operand)) : DOps P N tb nb S ws rs k (⟨d, .buildSlice t n ps.toArray, ty, p, af, none⟩ :: r) K s = (dstOk N d ∧ (litOk P t n (ps.map (·.1)) (ps.map fun p => s.ev p.2) ∧ 0 < S) ∧
    DOps P N tb nb S ws rs (k + 1) r K (s.put d (.full (rowD P t).1 ((toDs (ps.map fun p => s.ev p.2)).getD [])))) :=
  D_gen _ _ _ _ _ _ _ _ _ _ _ _ _ _ _ (fun e => by simp only [opD, litOk, and_assoc])
/-- The objects of a place. -/
def rdV : V → List Nat
  | .ptr id _ => [id]
  | _ => []
theorem D_load (t : TypeId) (x : Operand) : DOps P N tb nb S ws rs k (⟨d, .load t x, ty, p, af, none⟩ :: r) K s = (dstOk N d ∧ (loadOk (tyOf P t) s.h (s.ev x) ∧ rdOk ws af (rdV (s.ev x))) ∧ DOps P N tb nb S ws ((rdV (s.ev x)).map (·, k) ++ rs) (k + 1) r K (s.put d (loadV (tyOf P t) s.h (s.ev x)))) := by
  apply propext
  constructor
  · rintro ⟨⟨ed, ex, eh, er⟩, ⟨h1, h2, q1, q2, q3, q4⟩, h4, h5⟩
    simp only at h2 q3 q4
    subst h2
    subst q3
    subst q4
    have hm : ∀ id ∈ rdV (s.ev x), id ∈ er := by
      intro id hid
      unfold rdV at hid
      split at hid
      · rename_i i off he
        simp at hid
        subst hid
        exact q2 id off he
      · cases hid
    refine ⟨h1, ⟨q1, fun id hid => h4.2 id (hm id hid)⟩, DOps_mono r _ _ _ _ _ (fun p hp => ?_) h5⟩
    rcases List.mem_append.1 hp with h | h
    · obtain ⟨i, hi, rfl⟩ := List.mem_map.1 h
      exact List.mem_append_left _ (List.mem_map.2 ⟨i, hm i hi, rfl⟩)
    · exact List.mem_append_right _ h
  · rintro ⟨h1, ⟨h2, h3⟩, h4⟩
    exact ⟨⟨d, _, [], rdV (s.ev x)⟩, ⟨h1, rfl, h2, fun id off he => by rw [he]; simp [rdV], rfl, rfl⟩, ⟨fun _ h => (by cases h), h3⟩, h4⟩
theorem D_put {op : Op} {C : Prop} {X : V} {U : Hp} (hop : ∀ e : Eff, opD P nb S k op e s ↔ (C ∧ e.x = X ∧ e.hu = U)) :
    DOps P N tb nb S ws rs k (⟨d, op, ty, p, af, none⟩ :: r) K s = (dstOk N d ∧ (C ∧ wrOk nb S k ws rs af s.h (keys U)) ∧ DOps P N tb nb S ((keys U).map (·, k) ++ ws) rs (k + 1) r K (St.put ⟨s.sl, U ++ s.h, s.nx⟩ d X)) := by
  apply propext
  constructor
  · rintro ⟨⟨ed, ex, eh, er⟩, ⟨h1, h2, h3⟩, h4, h5⟩
    obtain ⟨q1, q2, q3⟩ := (hop _).1 h3
    simp only at h2 q2 q3
    subst h2
    subst q2
    subst q3
    exact ⟨h1, ⟨q1, h4.1⟩, DOps_mono r _ _ _ _ _ (fun p hp => List.mem_append_right _ hp) h5⟩
  · rintro ⟨h1, ⟨h2, h2'⟩, h3⟩
    exact ⟨⟨d, X, U, []⟩, ⟨h1, rfl, (hop _).2 ⟨h2, rfl, rfl⟩⟩, ⟨h2', fun _ h => (by cases h)⟩, h3⟩
theorem D_alloc (t : TypeId) : DOps P N tb nb S ws rs k (⟨d, .alloc t, ty, p, af, none⟩ :: r) K s = (dstOk N d ∧ (((zeroV P t).isSome = true ∧ 0 < S) ∧ wrOk nb S k ws rs af s.h [frs nb S k]) ∧ DOps P N tb nb S ((frs nb S k, k) :: ws) rs (k + 1) r K (St.put ⟨s.sl, (frs nb S k, .cells (zeroD P t)) :: s.h, s.nx⟩ d (.ptr (frs nb S k) 0))) :=
  D_put _ _ _ _ _ _ _ _ _ _ _ _ _ _ _ (U := [(frs nb S k, .cells (zeroD P t))]) (fun e => by simp only [opD, and_assoc])
theorem D_box (t : TypeId) (x : Operand) : DOps P N tb nb S ws rs k (⟨d, .box t x, ty, p, af, none⟩ :: r) K s = (dstOk N d ∧ ((isFlat (s.ev x) ∧ 0 < S) ∧ wrOk nb S k ws rs af s.h [frs nb S k]) ∧ DOps P N tb nb S ((frs nb S k, k) :: ws) rs (k + 1) r K (St.put ⟨s.sl, (frs nb S k, .cells (s.ev x).cells) :: s.h, s.nx⟩ d (.ptr (frs nb S k) 0))) :=
  D_put _ _ _ _ _ _ _ _ _ _ _ _ _ _ _ (U := [(frs nb S k, .cells (s.ev x).cells)]) (fun e => by simp only [opD, isFlat, and_assoc])
theorem D_makeSlice (t : TypeId) (l c : Operand) : DOps P N tb nb S ws rs k (⟨d, .makeSlice t l c, ty, p, af, none⟩ :: r) K s = (dstOk N d ∧ ((mkOk P t (s.ev l) (s.ev c) ∧ 0 < S) ∧ wrOk nb S k ws rs af s.h [frs nb S k]) ∧ DOps P N tb nb S ((frs nb S k, k) :: ws) rs (k + 1) r K (St.put ⟨s.sl, (frs nb S k, .cells (zrow (natOf (s.ev l)) (elZD P t))) :: s.h, s.nx⟩ d (.row (frs nb S k) 0 (natOf (s.ev l)) (rowD P t).1))) :=
  D_put _ _ _ _ _ _ _ _ _ _ _ _ _ _ _ (U := [(frs nb S k, .cells (zrow (natOf (s.ev l)) (elZD P t)))]) (fun e => by simp only [opD, and_assoc])
theorem D_store (t : TypeId) (q x : Operand) : DOps P N tb nb S ws rs k (⟨d, .store t q x, ty, p, af, none⟩ :: r) K s = (dstOk N d ∧ (storeOk (tyOf P t) s.h (s.ev x) (s.ev q) ∧ wrOk nb S k ws rs af s.h (rdV (s.ev q))) ∧
    DOps P N tb nb S ((rdV (s.ev q)).map (·, k) ++ ws) rs (k + 1) r K (St.put ⟨s.sl, storeH s.h (s.ev x) (s.ev q), s.nx⟩ d .any)) := by
  cases hq : s.ev q with
  | ptr id off =>
    cases hg : s.h.get id with
    | none =>
      apply propext
      constructor
      · rintro ⟨e, ⟨_, _, id', off', l, g, n, h1, h2, _⟩, _⟩
        rw [hq] at h1
        injection h1 with h1
        subst h1
        rw [hg] at h2
        cases h2
      · rintro ⟨_, ⟨h, _⟩, _⟩
        simp only [storeOk, hg] at h
        split at h <;> simp_all
    | some ob =>
      cases ob with
      | cells l =>
        have := D_put P N tb nb S ws rs k d ty p af r K s (op := .store t q x) (C := storeOk (tyOf P t) s.h (s.ev x) (.ptr id off)) (X := .any) (U := [(id, .cells (setAt l off (s.ev x).cells))]) (fun e => by
          simp only [opD, storeOk, hg]
          constructor
          · rintro ⟨id', off', l', g, n, h1, h2, h3, h4, h5, h6, h7⟩
            rw [hq] at h1
            injection h1 with h1 h1'
            subst h1
            subst h1'
            rw [hg] at h2
            injection h2 with h2
            injection h2 with h2
            subst h2
            exact ⟨by rw [h3]; exact ⟨h4, h5⟩, h6, h7⟩
          · rintro ⟨h1, h2, h3⟩
            cases hty : tyOf P t with
            | none => rw [hty] at h1; exact h1.elim
            | some gn =>
              obtain ⟨g, n⟩ := gn
              rw [hty] at h1
              exact ⟨id, off, l, g, n, hq, hg, rfl, h1.1, h1.2, h2, h3⟩)
        rw [this]
        simp only [storeH, hg, rdV, keys]
        rfl
      | _ =>
        apply propext
        constructor
        · rintro ⟨e, ⟨_, _, id', off', l, g, n, h1, h2, _⟩, _⟩
          rw [hq] at h1
          injection h1 with h1
          subst h1
          rw [hg] at h2
          cases h2
        · rintro ⟨_, ⟨h, _⟩, _⟩
          simp only [storeOk, hg] at h
          split at h <;> simp_all
  | _ =>
    apply propext
    constructor
    · rintro ⟨e, ⟨_, _, id', off', l, g, n, h1, _⟩, _⟩
      rw [hq] at h1
      cases h1
    · rintro ⟨_, ⟨h, _⟩, _⟩
      exact h.elim
theorem D_guard_yes {op : Op} {j : Nat} {b : Bool} (hg : guardV s tb j = .d (.bool b)) : DOps P N tb nb S ws rs k (⟨d, op, ty, p, af, some (j, b)⟩ :: r) K s = DOps P N tb nb S ws rs k (⟨d, op, ty, p, af, none⟩ :: r) K s := by
  apply propext
  constructor
  · rintro ⟨e, ⟨h1, h2, h2'⟩, h6, h7⟩
    rcases h2' with ⟨h3, _⟩ | ⟨t, h3, h4, _⟩
    · rw [hg] at h3; cases h3
    rw [hg] at h3
    injection h3 with h3
    injection h3 with h3
    exact ⟨e, ⟨h1, h2, h4 h3.symm⟩, h6, h7⟩
  · rintro ⟨e, ⟨h1, h2, h3⟩, h6, h7⟩
    exact ⟨e, ⟨h1, h2, .inr ⟨b, hg, fun _ => h3, fun hn => (hn rfl).elim⟩⟩, h6, h7⟩
theorem D_guard_no {op : Op} {j : Nat} {b : Bool} (hg : guardV s tb j = .d (.bool (!b))) : DOps P N tb nb S ws rs k (⟨d, op, ty, p, af, some (j, b)⟩ :: r) K s = (dstOk N d ∧ DOps P N tb nb S ws rs (k + 1) r K (s.put d (.k undef))) := by
  apply propext
  constructor
  · rintro ⟨⟨ed, ex, eh, er⟩, ⟨h1, h2, h2'⟩, h6, h7⟩
    rcases h2' with ⟨h3, _⟩ | ⟨t, h3, _, h5⟩
    · rw [hg] at h3; cases h3
    rw [hg] at h3
    injection h3 with h3
    injection h3 with h3
    obtain ⟨q1, q2⟩ := h5 (by rw [← h3]; cases b <;> simp)
    simp only at h2 q1 q2
    subst h2 q1 q2
    exact ⟨h1, DOps_mono r _ _ _ _ _ (fun p hp => List.mem_append_right _ hp) h7⟩
  · rintro ⟨h1, h2⟩
    exact ⟨⟨d, .k undef, [], []⟩, ⟨h1, rfl, .inr ⟨!b, hg, fun hn => by cases b <;> simp at hn, fun _ => ⟨rfl, rfl⟩⟩⟩, ⟨fun _ h => (by cases h), fun _ h => (by cases h)⟩, h2⟩
theorem D_guard_un {op : Op} {j : Nat} {b : Bool} (hg : guardV s tb j = .k undef) : DOps P N tb nb S ws rs k (⟨d, op, ty, p, af, some (j, b)⟩ :: r) K s = (dstOk N d ∧ DOps P N tb nb S ws rs (k + 1) r K (s.put d (.k undef))) := by
  apply propext
  constructor
  · rintro ⟨⟨ed, ex, eh, er⟩, ⟨h1, h2, h2'⟩, h6, h7⟩
    rcases h2' with ⟨_, q1, q2⟩ | ⟨t, h3, _⟩
    · simp only at h2 q1 q2
      subst h2 q1 q2
      exact ⟨h1, DOps_mono r _ _ _ _ _ (fun p hp => List.mem_append_right _ hp) h7⟩
    · rw [hg] at h3; cases h3
  · rintro ⟨h1, h2⟩
    exact ⟨⟨d, .k undef, [], []⟩, ⟨h1, rfl, .inl ⟨hg, rfl, rfl⟩⟩, ⟨fun _ h => (by cases h), fun _ h => (by cases h)⟩, h2⟩
end

section
variable {P : Program} {N : Nat} {tb : List (Option Nat)} {nb S : Nat} {ws rs : List (Nat × Nat)} {k : Nat} {d : Option Nat} {ty : TypeId} {p : String} {af : Array Edge} {r : List Oper} {K : St → Prop} {s : St}
theorem D_guard_split {op : Op} {j : Nat} {b t : Bool} (ht : guardV s tb j = .d (.bool t))
    (h1 : t = true → DOps P N tb nb S ws rs k (⟨d, op, ty, p, af, some (j, b)⟩ :: r) K s) (h2 : t = false → DOps P N tb nb S ws rs k (⟨d, op, ty, p, af, some (j, b)⟩ :: r) K s) : DOps P N tb nb S ws rs k (⟨d, op, ty, p, af, some (j, b)⟩ :: r) K s := by
  cases t <;> simp_all
/-- What a call asks: fb: where its new objects get their numbers. -/
def callOk (N : Nat) (d : Option Nat) (s : St) (f : Operand) (g : FuncId) (args : List Operand) (xs : List V) (ids : List Nat) (pre : List Ob) (rv : V) (post : List Ob) (fb : Nat) : Prop :=
  dstOk N d ∧ s.ev f = .k (.func (.func g) #[] #[]) ∧ preOk s.h (sgm ids fb) pre.length fb fb ids pre ∧ ids.Nodup ∧ pre.length ≤ post.length ∧ leArgs (sgm ids fb) pre.length (args.map s.ev) xs ∧ noTup rv
def freshOk (S m : Nat) (post : List Ob) : Prop := post.length - m ≤ S ∧ ∀ o ∈ post.drop m, notTip o
/-- A call, in a region that draws. -/
theorem d_call {f : Operand} {args : List Operand} {tys : Array TypeId} {g : FuncId} {xs : List V} {pre : List Ob} {rv : V} {post : List Ob} (ids : List Nat) (hs : SoundH P g xs pre rv post) (hb : Callable P g)
    (hc : callOk N d s f g args xs ids pre rv post (frs nb S k) ∧ freshOk S pre.length post ∧ wrOk nb S k ws rs af s.h (keys (hpNew (sgm ids (frs nb S k)) 0 post)))
    (h : DOps P N tb nb S ((keys (hpNew (sgm ids (frs nb S k)) 0 post)).map (·, k) ++ ws) rs (k + 1) r K (St.put ⟨s.sl, hpNew (sgm ids (frs nb S k)) 0 post ++ s.h, s.nx⟩ d (ren (sgm ids (frs nb S k)) rv))) :
    DOps P N tb nb S ws rs k (⟨d, .call ⟨.value f, args.toArray, tys⟩, ty, p, af, none⟩ :: r) K s :=
  ⟨⟨d, _, _, []⟩, ⟨hc.1.1, rfl, .inr ⟨g, xs, pre, rv, post, ids, hc.1.2.1, ⟨hb.1, hb.2, hs⟩, hc.1.2.2.1, hc.1.2.2.2.1, hc.1.2.2.2.2.1, hc.1.2.2.2.2.2.1, hc.1.2.2.2.2.2.2, ⟨hc.2.1.1, fun j o ho => hc.2.1.2 o (List.mem_of_getElem? (i := j) (by rw [List.getElem?_drop]; exact ho))⟩, rfl, rfl⟩⟩, ⟨hc.2.2, fun _ h => (by cases h)⟩, h⟩
/-- A call of a function that the model has itself, in a region that draws. -/
theorem d_ext {f : Operand} {args : List Operand} {tys : Array TypeId} {g : FuncId} {rv : V} (hs : SoundX P g (args.map s.ev) rv) (hd : dstOk N d ∧ s.ev f = .k (.func (.func g) #[] #[])) (h : DOps P N tb nb S ws rs (k + 1) r K (s.put d rv)) :
    DOps P N tb nb S ws rs k (⟨d, .call ⟨.value f, args.toArray, tys⟩, ty, p, af, none⟩ :: r) K s :=
  ⟨⟨d, rv, [], []⟩, ⟨hd.1, rfl, .inl ⟨g, rv, hd.2, hs, rfl, rfl⟩⟩, ⟨fun _ h => (by cases h), fun _ h => (by cases h)⟩, h⟩
/-- Append to a slice that may grow, in a region that draws. -/
theorem d_append {x y : Operand} {t : TypeId} {tok sz bt : Nat} {l : List D} (hx : s.ev x = .own tok sz l) (hr : rowOf P t = some (sz, bt)) (hg : s.h.get tok = some (.tip l.length)) (hy : isEls sz (s.ev y))
    (hb : (l.length + ((s.ev y).elsD sz).length) * bt ≤ 140737488355328) (hm : l.length + ((s.ev y).elsD sz).length ≤ maxLen) (hd : dstOk N d) (hw : wrOk nb S k ws rs af s.h [tok])
    (h : DOps P N tb nb S ((tok, k) :: ws) rs (k + 1) r K (St.put ⟨s.sl, (tok, .tip (l.length + ((s.ev y).elsD sz).length)) :: s.h, s.nx⟩ d (.own tok sz (l ++ (s.ev y).elsD sz)))) :
    DOps P N tb nb S ws rs k (⟨d, .call ⟨.builtin .append, #[x, y], #[t, t]⟩, ty, p, af, none⟩ :: r) K s :=
  ⟨⟨d, _, _, []⟩, ⟨hd, rfl, ⟨rfl, rfl, rfl⟩, tok, sz, bt, l, hr, hx, hg, hy, hb, hm, rfl, rfl⟩, ⟨hw, fun _ h => (by cases h)⟩, h⟩
end

end Go.Bv
