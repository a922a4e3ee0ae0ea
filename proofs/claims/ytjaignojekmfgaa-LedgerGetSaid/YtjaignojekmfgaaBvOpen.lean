/-
  From a reading of the arguments to what the machine holds: each cell of a datum holds a D, of the type's form.
-/
import Derived.Test.YtjaignojekmfgaaBvFin
import Derived.Deep.Slices
import Derived.OpenShut
import Derived.Carry
namespace Go.Bv
open Go.RowKit Go.Deep

def limOf (w : World) (b : Nat) : Nat := match w.heap[b]? with
  | some (.cells c _ _) => c.size
  | _ => 0
theorem limOf_cell {w : World} {b o : Nat} {v : Value} (h : w.cell? ⟨b, o, none⟩ = some v) : o < limOf w b := by
  unfold World.cell? at h
  unfold limOf
  simp only at h
  split at h
  · rename_i c _ _ hh
    rw [hh]
    simp only [Option.isSome_none, Bool.false_eq_true, if_false] at h
    exact (Array.getElem?_eq_some_iff.1 h).1
  · cases h

def isAggT (P : Program) (e : TypeId) : Bool := match P.underlying e with
  | some (.struct _) => true
  | some (.array _ _) => true
  | _ => false
def mkD (P : Program) (e : TypeId) (cs : List D) : D := if isAggT P e then .agg cs else cs.headD (.bool false)
def tiles (P : Program) (tot : Nat) : List (TypeId × Nat) → Nat → Bool
  | [], o => o == tot
  | p :: r, o => p.2 == o && tiles P tot r (o + P.cellsOf p.1)
theorem tiles_le {P : Program} {tot : Nat} : ∀ {l : List (TypeId × Nat)} {o : Nat}, tiles P tot l o = true → o ≤ tot
  | [], o, h => by simp [tiles] at h; omega
  | p :: r, o, h => by
    simp [tiles] at h
    have := tiles_le h.2
    omega
def fsOf (fs : Array Field) : List (TypeId × Nat) := fs.toList.map fun f => (f.type, f.offset)
def arOf (P : Program) (n : Nat) (e : TypeId) : List (TypeId × Nat) := (List.range n).map fun i => (e, i * P.cellsOf e)
def dataT (P : Program) : Bool → Nat → TypeId → Bool
  | _, 0, _ => false
  | nest, k + 1, t => match P.underlying t with
    | some .bool => true
    | some (.int _) => true
    | some .string => true
    | some (.slice e) => nest && decide (0 < P.cellsOf e) && dataT P false k e
    | some (.struct fs) => tiles P (P.cellsOf t) (fsOf fs) 0 && (fsOf fs).all fun p => dataT P nest k p.1
    | some (.array n e) => tiles P (P.cellsOf t) (arOf P n e) 0 && dataT P nest k e
    | _ => false

def RelFs {H : Type} (R : TypeId → List D → DataW H → Prop) : List (TypeId × Nat) → List D → List (DataW H) → Prop
  | [], ds, ps => ds = [] ∧ ps = []
  | t :: ts, ds, ps => ∃ d1 d2 p qs, R t.1 d1 p ∧ RelFs R ts d2 qs ∧ ds = d1 ++ d2 ∧ ps = p :: qs
def Rel {H : Type} (P : Program) : Nat → TypeId → List D → DataW H → Prop
  | 0, _, _, _ => False
  | k + 1, t, ds, d => match P.underlying t with
    | some .bool => ∃ b, ds = [.bool b] ∧ d = .lit (.bool b)
    | some (.int q) => ∃ i, ds = [.int q i] ∧ d = .lit (.int q i) ∧ (Lit.int q i).wf = true
    | some .string => ∃ s : ByteArray, ds = [.str s] ∧ d = .lit (.string s.data.toList)
    | some (.slice e) => ∃ l : List (List D), ds = [.slice (P.cellsOf e) (l.map (mkD P e))] ∧
        ((l = [] ∧ d = .nil) ∨ ∃ elems spare, d = .slice elems spare ∧ l.length = elems.length ∧ ∀ (j : Nat) (x : List D) (y : DataW H), l[j]? = some x → elems[j]? = some y → Rel P k e x y)
    | some (.struct fs) => ∃ ps, d = .agg ps ∧ RelFs (Rel P k) (fsOf fs) ds ps
    | some (.array n e) => ∃ ps, d = .agg ps ∧ RelFs (Rel P k) (arOf P n e) ds ps
    | _ => False

def spotOk : Value → Prop
  | .slice (some a) _ 0 => a.spot = none
  | _ => True

def Holds (w : World) (cs : List Value) (ds : List D) : Prop := ds.length = cs.length ∧ ∀ (j : Nat) (v : Value) (c : D), cs[j]? = some v → ds[j]? = some c → RepD (limOf w) w v c
theorem Holds.append {w : World} {a b : List Value} {x y : List D} (h1 : Holds w a x) (h2 : Holds w b y) : Holds w (a ++ b) (x ++ y) := by
  refine ⟨by simp [h1.1, h2.1], fun j v c hv hc => ?_⟩
  by_cases hj : j < a.length
  · rw [List.getElem?_append_left hj] at hv
    rw [List.getElem?_append_left (by rw [h1.1]; exact hj)] at hc
    exact h1.2 j v c hv hc
  · rw [List.getElem?_append_right (by omega)] at hv
    rw [List.getElem?_append_right (by rw [h1.1]; omega), h1.1] at hc
    exact h2.2 _ v c hv hc
theorem Holds.one {w : World} {v : Value} {d : D} (h : RepD (limOf w) w v d) : Holds w [v] [d] := by
  refine ⟨rfl, fun j u c hu hc => ?_⟩
  cases j with
  | zero => simp at hu hc; subst hu; subst hc; exact h
  | succ j => simp at hu

section
variable {H : Type} {P : Program} {w : World} {cs : List Value}
theorem parts_rel {tot : Nat} (htot : cs.length = tot) (ok : Value → Prop) (hok : ∀ v ∈ cs, ok v) (R : TypeId → List D → DataW H → Prop) (g : TypeId → List Value → Option (DataW H × List MemPlace)) :
    ∀ (L : List (TypeId × Nat)) (o : Nat) (xs : List (DataW H × List MemPlace)), tiles P tot L o = true → xs.length = L.length →
      (∀ p ∈ L, ∀ cs' y, (∀ v ∈ cs', ok v) → g p.1 cs' = some y → ∃ ds, Holds w cs' ds ∧ R p.1 ds y.1) →
      (∀ (i : Nat) (p : TypeId × Nat), L[i]? = some p → g p.1 ((cs.drop p.2).take (P.cellsOf p.1)) = xs[i]?) →
      ∃ ds, Holds w (cs.drop o) ds ∧ RelFs R L ds (xs.map (·.1))
  | [], o, xs, ht, hl, _, _ => by
    simp [tiles] at ht
    have : xs = [] := by simpa using hl
    subst this
    refine ⟨[], ⟨?_, ?_⟩, rfl, rfl⟩
    · simp; omega
    · intro j v c _ hc; simp at hc
  | p :: L, o, xs, ht, hl, hg, hx => by
    simp [tiles] at ht
    obtain ⟨h0, ht⟩ := ht
    cases xs with
    | nil => simp at hl
    | cons y ys =>
      have h1 := hx 0 p rfl
      simp only [List.getElem?_cons_zero] at h1
      obtain ⟨d1, hd1, hr1⟩ := hg p (by simp) _ y (fun v hv => hok v (List.mem_of_mem_drop (List.mem_of_mem_take hv))) h1
      obtain ⟨d2, hd2, hr2⟩ := parts_rel htot ok hok R g L (o + P.cellsOf p.1) ys ht (by simpa using hl) (fun q hq => hg q (by simp [hq])) (fun i q hq => by simpa using hx (i + 1) q (by simpa using hq))
      refine ⟨d1 ++ d2, ?_, d1, d2, y.1, _, hr1, hr2, rfl, rfl⟩
      have := hd1.append hd2
      rw [h0, ← List.drop_drop, List.take_append_drop] at this
      exact this

theorem flat_mk {P : Program} {e : TypeId} (l : List (List D)) (h : ∀ x ∈ l, (mkD P e x).cells = x) : (l.map (mkD P e)).flatMap D.cells = l.flatten := by
  induction l with
  | nil => rfl
  | cons x l ih => simp [h x (by simp), ih (fun y hy => h y (by simp [hy]))]
end

section
variable {H : Type} {enc : TypeId × Value → H} {P : Program} {w : World}
theorem rel_mk {k : Nat} {e : TypeId} {x : List D} {d : DataW H} (hr : Rel P k e x d) (h1 : ∀ c ∈ x, c.one = true) : (mkD P e x).cells = x := by
  cases k with
  | zero => exact hr.elim
  | succ k =>
    unfold mkD
    split
    · rfl
    · rename_i ha
      unfold Rel at hr
      split at hr
      · obtain ⟨b, rfl, _⟩ := hr; rfl
      · obtain ⟨b, rfl, _⟩ := hr; rfl
      · obtain ⟨b, rfl, _⟩ := hr; rfl
      · obtain ⟨b, rfl, _⟩ := hr; rfl
      · rename_i h; exact absurd (by simp [isAggT, h]) ha
      · rename_i h; exact absurd (by simp [isAggT, h]) ha
      · exact hr.elim

theorem open_rel : ∀ (k : Nat) (nest : Bool) (t : TypeId), dataT P nest k t = true → ∀ (n : Nat) (cs : List Value) (y : DataW H × List MemPlace), (nest = true → ∀ v ∈ cs, spotOk v) →
    DataW.trod enc P w 0 (fun _ => true) true n t cs = some y → ∃ ds, Holds w cs ds ∧ Rel P k t ds y.1
  | 0, _, _, h => by cases h
  | k + 1, nest, t, hT => by
    intro n cs y hsp h
    unfold dataT at hT
    split at hT
    · rename_i hu
      obtain ⟨b, rfl, rfl⟩ := DataW.trod_bool hu h
      exact ⟨[.bool b], Holds.one (.bool b), by simp [Rel, hu]⟩
    · rename_i q hu
      obtain ⟨i, rfl, rfl, hw⟩ := DataW.trod_int hu h
      exact ⟨[.int q i], Holds.one (.int q i), by simp [Rel, hu, hw]⟩
    · rename_i hu
      obtain ⟨s, rfl, rfl, hs⟩ := DataW.trod_string hu h
      exact ⟨[.str s], Holds.one (.str s), by simp only [Rel, hu]; exact ⟨s, rfl, rfl⟩⟩
    · rename_i e hu
      simp only [Bool.and_eq_true, decide_eq_true_eq] at hT
      obtain ⟨⟨hn, hpos⟩, hT⟩ := hT
      rcases open_slice hu h with ⟨rfl, rfl⟩ | ⟨a, len, cap, m, n', Dd, Pl, rfl, _, hlc, hcm, hm, rfl, hel⟩
      · exact ⟨[.slice (P.cellsOf e) []], Holds.one (.nil _), by simp only [Rel, hu]; exact ⟨[], rfl, .inl ⟨by trivial, by trivial⟩⟩⟩
      · simp only [if_true] at hm
        subst hm
        have hel' : ∀ i, i < len → ∃ x : List D, ∃ cs', w.cells? 0 (a.add (i * P.cellsOf e)) (P.cellsOf e) = some cs' ∧ Holds w cs' x ∧ Rel P k e x (Dd i) := by
          intro i hi
          obtain ⟨cs', h1, h2⟩ := hel i (by omega)
          obtain ⟨ds, h3, h4⟩ := open_rel k false e hT n' cs' _ (by simp) h2
          exact ⟨ds, cs', h1, h3, h4⟩
        obtain ⟨f, hf⟩ := choose_lt hel'
        have hspot : a.spot = none := by
          by_cases hc : m = 0
          · subst hc
            have := hsp hn (.slice (some a) len 0) (by simp)
            simpa [spotOk] using this
          · have hz : True := trivial
            · obtain ⟨cs', h1, h2⟩ := hel 0 (by omega)
              have h3 := (World.cells?_some h1).2.2 0 (by omega)
              have h4 := (World.cells?_some h1).2.1
              rw [List.getElem?_eq_getElem (by omega)] at h3
              unfold World.cell? at h3
              split at h3
              · split at h3
                · cases h3
                · rename_i hs; simpa [Addr.add] using hs
              · cases h3
        obtain ⟨b, off, sp⟩ := a
        simp only at hspot
        subst hspot
        have hone : ∀ i, i < len → ∀ c ∈ f i, c.one = true := by
          intro i hi c hc
          obtain ⟨cs', h1, h2, h3⟩ := hf i hi
          obtain ⟨j, hj⟩ := List.getElem?_of_mem hc
          have hjl : j < cs'.length := by rw [← h2.1]; exact (List.getElem?_eq_some_iff.1 hj).1
          exact (h2.2 j _ c (List.getElem?_eq_getElem hjl) hj).done
        have hmk : ∀ i, i < len → (mkD P e (f i)).cells = f i := fun i hi => by
          obtain ⟨cs', h1, h2, h3⟩ := hf i hi
          exact rel_mk h3 (hone i hi)
        have hsz : ∀ d ∈ ((List.range len).map f).map (mkD P e), d.cells.length = P.cellsOf e ∧ ∀ c ∈ d.cells, c.one = true := by
          intro d hd
          simp only [List.map_map, List.mem_map, List.mem_range, Function.comp] at hd
          obtain ⟨i, hi, rfl⟩ := hd
          obtain ⟨cs', h1, h2, h3⟩ := hf i hi
          rw [hmk i hi]
          exact ⟨by rw [h2.1]; exact (World.cells?_some h1).2.1, hone i hi⟩
        have hget : ∀ i, i < len → (((List.range len).map f).map (mkD P e))[i]? = some (mkD P e (f i)) := by
          intro i hi
          simp [List.getElem?_map, List.getElem?_range hi]
        have hfl := flat_length hsz
        simp only [List.length_map, List.length_range] at hfl
        have hat : ∀ (j : Nat) (u : Value), ((List.range (len * P.cellsOf e)).map fun j => (w.cell? ⟨b, off + j, none⟩).getD undef)[j]? = some u → j < len * P.cellsOf e ∧ w.cell? ⟨b, off + j, none⟩ = some u := by
          intro j u hu
          have hj : j < len * P.cellsOf e := by simpa using (List.getElem?_eq_some_iff.1 hu).1
          refine ⟨hj, ?_⟩
          simp only [List.getElem?_map, List.getElem?_range hj, Option.map_some, Option.some.injEq] at hu
          have hi : j / P.cellsOf e < len := by rw [Nat.div_lt_iff_lt_mul hpos]; exact hj
          have hr : j % P.cellsOf e < P.cellsOf e := Nat.mod_lt _ hpos
          obtain ⟨cs', h1, h2, h3⟩ := hf _ hi
          have e1 : j / P.cellsOf e * P.cellsOf e + j % P.cellsOf e = j := by rw [Nat.mul_comm]; exact Nat.div_add_mod j _
          have h4 := (World.cells?_some h1).2.2 _ hr
          have h5 := (World.cells?_some h1).2.1
          have e2 : (Addr.add ⟨b, off, none⟩ (j / P.cellsOf e * P.cellsOf e)).add (j % P.cellsOf e) = ⟨b, off + j, none⟩ := by
            rw [add_add, e1]
            simp [Addr.add]
          rw [e2, List.getElem?_eq_getElem (by omega)] at h4
          rw [h4] at hu ⊢
          simpa using hu
        refine ⟨[.slice (P.cellsOf e) (((List.range len).map f).map (mkD P e))], Holds.one ?_, ?_⟩
        · have := RepD.slice (m := limOf w) (w := w) b off m (P.cellsOf e) (((List.range len).map f).map (mkD P e)) ((List.range (len * P.cellsOf e)).map fun j => (w.cell? ⟨b, off + j, none⟩).getD undef) (by simpa using hlc) hcm hsz (by rw [hfl]; simp) ?_ ?_
          · simpa using this
          · intro j u hu
            obtain ⟨hj, hcell⟩ := hat j u hu
            exact ⟨limOf_cell hcell, hcell⟩
          · intro j u c hu hc
            obtain ⟨hj, hcell⟩ := hat j u hu
            have hi : j / P.cellsOf e < len := by rw [Nat.div_lt_iff_lt_mul hpos]; exact hj
            have hr : j % P.cellsOf e < P.cellsOf e := Nat.mod_lt _ hpos
            obtain ⟨cs', h1, h2, h3⟩ := hf _ hi
            have e1 : j / P.cellsOf e * P.cellsOf e + j % P.cellsOf e = j := by rw [Nat.mul_comm]; exact Nat.div_add_mod j _
            rw [← e1, flat_get hsz (hget _ hi) _ hr, hmk _ hi] at hc
            refine h2.2 _ u c ?_ hc
            rw [← (World.cells?_some h1).2.2 _ hr, ← hcell]
            congr 1
            rw [add_add, e1]
            simp [Addr.add]
        · simp only [Rel, hu]
          refine ⟨(List.range len).map f, rfl, .inr ⟨_, _, rfl, by simp, ?_⟩⟩
          intro j x y hx hy
          have hj : j < len := by simpa using (List.getElem?_eq_some_iff.1 hx).1
          simp only [List.getElem?_map, List.getElem?_range hj, Option.map_some, Option.some.injEq] at hx hy
          subst hx; subst hy
          obtain ⟨_, _, _, h3⟩ := hf j hj
          exact h3
    · rename_i fs hu
      simp only [Bool.and_eq_true] at hT
      obtain ⟨xs, n', rfl, rfl, hl, hxl, hx⟩ := DataW.trod_struct hu h
      obtain ⟨ds, h1, h2⟩ := parts_rel (P := P) hl (fun v => nest = true → spotOk v) (fun v hv hn => hsp hn v hv) (Rel P k) (fun t c => DataW.trod enc P w 0 (fun _ => true) true n' t c) (fsOf fs) 0 xs hT.1 (by simp [fsOf, hxl])
        (fun p hp cs' y hv hy => open_rel k nest p.1 (List.all_eq_true.1 hT.2 p hp) n' cs' y (fun hn v hm => hv v hm hn) hy)
        (fun i p hp => by
          simp only [fsOf, List.getElem?_map, Option.map_eq_some_iff] at hp
          obtain ⟨f, hf, rfl⟩ := hp
          exact hx i f (by simpa using hf))
      exact ⟨ds, by simpa using h1, by simp only [Rel, hu]; exact ⟨_, rfl, h2⟩⟩
    · rename_i m e hu
      simp only [Bool.and_eq_true] at hT
      obtain ⟨xs, n', rfl, rfl, hl, hxl, hx⟩ := DataW.trod_array hu h
      obtain ⟨ds, h1, h2⟩ := parts_rel (P := P) hl (fun v => nest = true → spotOk v) (fun v hv hn => hsp hn v hv) (Rel P k) (fun t c => DataW.trod enc P w 0 (fun _ => true) true n' t c) (arOf P m e) 0 xs hT.1 (by simp [arOf, hxl])
        (fun p hp cs' y hv hy => by
          simp only [arOf, List.mem_map] at hp
          obtain ⟨i, _, rfl⟩ := hp
          exact open_rel k nest e hT.2 n' cs' y (fun hn v hm => hv v hm hn) hy)
        (fun i p hp => by
          simp only [arOf, List.getElem?_map, Option.map_eq_some_iff] at hp
          obtain ⟨f, hf, rfl⟩ := hp
          obtain ⟨hi, rfl⟩ := List.getElem?_eq_some_iff.1 hf
          have hi' : i < m := by simpa using hi
          simpa using hx i hi')
      exact ⟨ds, by simpa using h1, by simp only [Rel, hu]; exact ⟨_, rfl, h2⟩⟩
    · cases hT
end
end Go.Bv
