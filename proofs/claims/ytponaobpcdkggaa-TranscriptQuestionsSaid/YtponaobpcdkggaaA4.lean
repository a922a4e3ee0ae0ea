/-
  Parts of the proofs that the laws of this seat hold of every input, merged by a program: a machine over pure data that is sound for the model, what each function of the translation does in it, and plain lemmas. No conditions but those in each theorem.
-/
import Derived.Test.YtponaobpcdkggaaA3
set_option linter.all false
namespace Go.Bv
open Go.RowKit Go.Deep
def limOf (w : World) (b : Nat) : Nat := match w.heap[b]? with
  | some (.cells c _ _) => c.size
  | _ => 0
theorem k1b6 {w : World} {b o : Nat} {v : Value} (h : w.cell? ⟨b, o, none⟩ = some v) : o < limOf w b := by
  unfold World.cell? at h
  unfold limOf
  simp only at h
  split at h
  · rename_i c _ _ hh
    rw [hh]
    simp only [Option.isSome_none, Bool.false_eq_true, if_false] at h
    exact (Array.getElem?_eq_some_iff.1 h).1
  · cases h
def isAggT (P : Program) (e : TypeId) : Bool := match P.underlying e with
  | some (.struct _) => true
  | some (.array _ _) => true
  | _ => false
def mkD (P : Program) (e : TypeId) (cs : List D) : D := if isAggT P e then .agg cs else cs.headD (.bool false)
def tiles (P : Program) (tot : Nat) : List (TypeId × Nat) → Nat → Bool
  | [], o => o == tot
  | p :: r, o => p.2 == o && tiles P tot r (o + P.cellsOf p.1)
def fsOf (fs : Array Field) : List (TypeId × Nat) := fs.toList.map fun f => (f.type, f.offset)
def arOf (P : Program) (n : Nat) (e : TypeId) : List (TypeId × Nat) := (List.range n).map fun i => (e, i * P.cellsOf e)
def dataT (P : Program) : Nat → TypeId → Bool
  | 0, _ => false
  | k + 1, t => match P.underlying t with
    | some .bool => true
    | some (.int _) => true
    | some .string => true
    | some (.slice e) => decide (0 < P.cellsOf e) && dataT P k e
    | some (.struct fs) => tiles P (P.cellsOf t) (fsOf fs) 0 && (fsOf fs).all fun p => dataT P k p.1
    | some (.array n e) => tiles P (P.cellsOf t) (arOf P n e) 0 && dataT P k e
    | _ => false
def RelFs {H : Type} (R : TypeId → List D → DataW H → Prop) : List (TypeId × Nat) → List D → List (DataW H) → Prop
  | [], ds, ps => ds = [] ∧ ps = []
  | t :: ts, ds, ps => ∃ d1 d2 p qs, R t.1 d1 p ∧ RelFs R ts d2 qs ∧ ds = d1 ++ d2 ∧ ps = p :: qs
def Rel {H : Type} (P : Program) : Nat → TypeId → List D → DataW H → Prop
  | 0, _, _, _ => False
  | k + 1, t, ds, d => match P.underlying t with
    | some .bool => ∃ b, ds = [.bool b] ∧ d = .lit (.bool b)
    | some (.int q) => ∃ i, ds = [.int q i] ∧ d = .lit (.int q i) ∧ (Lit.int q i).wf = true
    | some .string => ∃ s : ByteArray, ds = [.str s] ∧ d = .lit (.string s.data.toList)
    | some (.slice e) => ∃ l : List (List D), ds = [.slice (P.cellsOf e) (l.map (mkD P e))] ∧ l.length ≤ maxLen ∧
        ((l = [] ∧ d = .nil) ∨ ∃ elems spare, d = .slice elems spare ∧ l.length = elems.length ∧ ∀ (j : Nat) (x : List D) (y : DataW H), l[j]? = some x → elems[j]? = some y → Rel P k e x y)
    | some (.struct fs) => ∃ ps, d = .agg ps ∧ RelFs (Rel P k) (fsOf fs) ds ps
    | some (.array n e) => ∃ ps, d = .agg ps ∧ RelFs (Rel P k) (arOf P n e) ds ps
    | _ => False
def Holds (w : World) (cs : List Value) (ds : List D) : Prop := ds.length = cs.length ∧ ∀ (j : Nat) (v : Value) (c : D), cs[j]? = some v → ds[j]? = some c → RepD (limOf w) w v c
theorem Holds.append {w : World} {a b : List Value} {x y : List D} (h1 : Holds w a x) (h2 : Holds w b y) : Holds w (a ++ b) (x ++ y) := by
  refine ⟨by simp [h1.1, h2.1], fun j v c hv hc => ?_⟩
  by_cases hj : j < a.length
  · rw [List.getElem?_append_left hj] at hv
    rw [List.getElem?_append_left (by rw [h1.1]; exact hj)] at hc
    exact h1.2 j v c hv hc
  · rw [List.getElem?_append_right (by omega)] at hv
    rw [List.getElem?_append_right (by rw [h1.1]; omega), h1.1] at hc
    exact h2.2 _ v c hv hc
theorem Holds.one {w : World} {v : Value} {d : D} (h : RepD (limOf w) w v d) : Holds w [v] [d] := by
  refine ⟨rfl, fun j u c hu hc => ?_⟩
  cases j with
  | zero => simp at hu hc; subst hu; subst hc; exact h
  | succ j => simp at hu
section
variable {H : Type} {P : Program} {w : World} {cs : List Value}
theorem kyf {tot : Nat} (htot : cs.length = tot) (ok : Value → Prop) (hok : ∀ v ∈ cs, ok v) (R : TypeId → List D → DataW H → Prop) (g : TypeId → List Value → Option (DataW H × List MemPlace)) :
    ∀ (L : List (TypeId × Nat)) (o : Nat) (xs : List (DataW H × List MemPlace)), tiles P tot L o = true → xs.length = L.length →
      (∀ p ∈ L, ∀ cs' y, (∀ v ∈ cs', ok v) → g p.1 cs' = some y → ∃ ds, Holds w cs' ds ∧ R p.1 ds y.1) →
      (∀ (i : Nat) (p : TypeId × Nat), L[i]? = some p → g p.1 ((cs.drop p.2).take (P.cellsOf p.1)) = xs[i]?) →
      ∃ ds, Holds w (cs.drop o) ds ∧ RelFs R L ds (xs.map (·.1))
  | [], o, xs, ht, hl, _, _ => by
    simp [tiles] at ht
    have : xs = [] := by simpa using hl
    subst this
    refine ⟨[], ⟨?_, ?_⟩, rfl, rfl⟩
    · simp; omega
    · intro j v c _ hc; simp at hc
  | p :: L, o, xs, ht, hl, hg, hx => by
    simp [tiles] at ht
    obtain ⟨h0, ht⟩ := ht
    cases xs with
    | nil => simp at hl
    | cons y ys =>
      have h1 := hx 0 p rfl
      simp only [List.getElem?_cons_zero] at h1
      obtain ⟨d1, hd1, hr1⟩ := hg p (by simp) _ y (fun v hv => hok v (List.mem_of_mem_drop (List.mem_of_mem_take hv))) h1
      obtain ⟨d2, hd2, hr2⟩ := kyf htot ok hok R g L (o + P.cellsOf p.1) ys ht (by simpa using hl) (fun q hq => hg q (by simp [hq])) (fun i q hq => by simpa using hx (i + 1) q (by simpa using hq))
      refine ⟨d1 ++ d2, ?_, d1, d2, y.1, _, hr1, hr2, rfl, rfl⟩
      have := hd1.append hd2
      rw [h0, ← List.drop_drop, List.take_append_drop] at this
      exact this
end
section
variable {H : Type} {enc : TypeId × Value → H} {P : Program} {w : World}
theorem rel_mk {k : Nat} {e : TypeId} {x : List D} {d : DataW H} (hr : Rel P k e x d) (h1 : ∀ c ∈ x, c.one = true) : (mkD P e x).cells = x := by
  cases k with
  | zero => exact hr.elim
  | succ k =>
    unfold mkD
    split
    · rfl
    · rename_i ha
      unfold Rel at hr
      split at hr
      · obtain ⟨b, rfl, _⟩ := hr; rfl
      · obtain ⟨b, rfl, _⟩ := hr; rfl
      · obtain ⟨b, rfl, _⟩ := hr; rfl
      · obtain ⟨b, rfl, _⟩ := hr; rfl
      · rename_i h; exact absurd (by simp [isAggT, h]) ha
      · rename_i h; exact absurd (by simp [isAggT, h]) ha
      · exact hr.elim
theorem ks1 : ∀ (k : Nat) (t : TypeId), dataT P k t = true → ∀ (n : Nat) (cs : List Value) (y : DataW H × List MemPlace),
    DataW.trod enc P w 0 (fun _ => true) true n t cs = some y → ∃ ds, Holds w cs ds ∧ Rel P k t ds y.1
  | 0, _, h => by cases h
  | k + 1, t, hT => by
    intro n cs y h
    unfold dataT at hT
    split at hT
    · rename_i hu
      obtain ⟨b, rfl, rfl⟩ := DataW.trod_bool hu h
      exact ⟨[.bool b], Holds.one (.bool b), by simp [Rel, hu]⟩
    · rename_i q hu
      obtain ⟨i, rfl, rfl, hw⟩ := DataW.trod_int hu h
      exact ⟨[.int q i], Holds.one (.int q i), by simp [Rel, hu, hw]⟩
    · rename_i hu
      obtain ⟨s, rfl, rfl, hs⟩ := DataW.trod_string hu h
      exact ⟨[.str s], Holds.one (.str s), by simp only [Rel, hu]; exact ⟨s, rfl, rfl⟩⟩
    · rename_i e hu
      simp only [Bool.and_eq_true, decide_eq_true_eq] at hT
      obtain ⟨hpos, hT⟩ := hT
      rcases open_slice hu h with ⟨rfl, rfl⟩ | ⟨a, len, cap, m, n', Dd, Pl, rfl, _, hlc, hcm, hm, rfl, hel⟩
      · exact ⟨[.slice (P.cellsOf e) []], Holds.one (.nil none _), by simp only [Rel, hu]; exact ⟨[], rfl, Nat.zero_le _, .inl ⟨by trivial, by trivial⟩⟩⟩
      · simp only [if_true] at hm
        subst hm
        by_cases hm0 : m = 0
        · subst hm0
          have hl0 : len = 0 := by omega
          subst hl0
          refine ⟨[.slice (P.cellsOf e) []], Holds.one (.nil (some a) _), ?_⟩
          simp only [Rel, hu]
          exact ⟨[], rfl, Nat.zero_le _, .inr ⟨_, _, rfl, by simp, by intro j x y hx; simp at hx⟩⟩
        have hel' : ∀ i, i < len → ∃ x : List D, ∃ cs', w.cells? 0 (a.add (i * P.cellsOf e)) (P.cellsOf e) = some cs' ∧ Holds w cs' x ∧ Rel P k e x (Dd i) := by
          intro i hi
          obtain ⟨cs', h1, h2⟩ := hel i (by omega)
          obtain ⟨ds, h3, h4⟩ := ks1 k e hT n' cs' _ h2
          exact ⟨ds, cs', h1, h3, h4⟩
        obtain ⟨f, hf⟩ := choose_lt hel'
        have hspot : a.spot = none := by
          obtain ⟨cs', h1, h2⟩ := hel 0 (by omega)
          have h3 := (World.cells?_some h1).2.2 0 (by omega)
          have h4 := (World.cells?_some h1).2.1
          rw [List.getElem?_eq_getElem (by omega)] at h3
          unfold World.cell? at h3
          split at h3
          · split at h3
            · cases h3
            · rename_i hs; simpa [Addr.add] using hs
          · cases h3
        obtain ⟨b, off, sp⟩ := a
        simp only at hspot
        subst hspot
        have hone : ∀ i, i < len → ∀ c ∈ f i, c.one = true := by
          intro i hi c hc
          obtain ⟨cs', h1, h2, h3⟩ := hf i hi
          obtain ⟨j, hj⟩ := List.getElem?_of_mem hc
          have hjl : j < cs'.length := by rw [← h2.1]; exact (List.getElem?_eq_some_iff.1 hj).1
          exact (h2.2 j _ c (List.getElem?_eq_getElem hjl) hj).done
        have hmk : ∀ i, i < len → (mkD P e (f i)).cells = f i := fun i hi => by
          obtain ⟨cs', h1, h2, h3⟩ := hf i hi
          exact rel_mk h3 (hone i hi)
        have hsz : ∀ d ∈ ((List.range len).map f).map (mkD P e), d.cells.length = P.cellsOf e ∧ ∀ c ∈ d.cells, c.one = true := by
          intro d hd
          simp only [List.map_map, List.mem_map, List.mem_range, Function.comp] at hd
          obtain ⟨i, hi, rfl⟩ := hd
          obtain ⟨cs', h1, h2, h3⟩ := hf i hi
          rw [hmk i hi]
          exact ⟨by rw [h2.1]; exact (World.cells?_some h1).2.1, hone i hi⟩
        have hget : ∀ i, i < len → (((List.range len).map f).map (mkD P e))[i]? = some (mkD P e (f i)) := by
          intro i hi
          simp [List.getElem?_map, List.getElem?_range hi]
        have hfl := k4n hsz
        simp only [List.length_map, List.length_range] at hfl
        have hat : ∀ (j : Nat) (u : Value), ((List.range (len * P.cellsOf e)).map fun j => (w.cell? ⟨b, off + j, none⟩).getD undef)[j]? = some u → j < len * P.cellsOf e ∧ w.cell? ⟨b, off + j, none⟩ = some u := by
          intro j u hu
          have hj : j < len * P.cellsOf e := by simpa using (List.getElem?_eq_some_iff.1 hu).1
          refine ⟨hj, ?_⟩
          simp only [List.getElem?_map, List.getElem?_range hj, Option.map_some, Option.some.injEq] at hu
          have hi : j / P.cellsOf e < len := by rw [Nat.div_lt_iff_lt_mul hpos]; exact hj
          have hr : j % P.cellsOf e < P.cellsOf e := Nat.mod_lt _ hpos
          obtain ⟨cs', h1, h2, h3⟩ := hf _ hi
          have e1 : j / P.cellsOf e * P.cellsOf e + j % P.cellsOf e = j := by rw [Nat.mul_comm]; exact Nat.div_add_mod j _
          have h4 := (World.cells?_some h1).2.2 _ hr
          have h5 := (World.cells?_some h1).2.1
          have e2 : (Addr.add ⟨b, off, none⟩ (j / P.cellsOf e * P.cellsOf e)).add (j % P.cellsOf e) = ⟨b, off + j, none⟩ := by
            rw [add_add, e1]
            simp [Addr.add]
          rw [e2, List.getElem?_eq_getElem (by omega)] at h4
          rw [h4] at hu ⊢
          simpa using hu
        refine ⟨[.slice (P.cellsOf e) (((List.range len).map f).map (mkD P e))], Holds.one ?_, ?_⟩
        · have := RepD.slice (m := limOf w) (w := w) b off m (P.cellsOf e) (((List.range len).map f).map (mkD P e)) ((List.range (len * P.cellsOf e)).map fun j => (w.cell? ⟨b, off + j, none⟩).getD undef) (by simpa using hlc) hcm hsz (by rw [hfl]; simp) ?_ ?_
          · simpa using this
          · intro j u hu
            obtain ⟨hj, hcell⟩ := hat j u hu
            exact ⟨k1b6 hcell, hcell⟩
          · intro j u c hu hc
            obtain ⟨hj, hcell⟩ := hat j u hu
            have hi : j / P.cellsOf e < len := by rw [Nat.div_lt_iff_lt_mul hpos]; exact hj
            have hr : j % P.cellsOf e < P.cellsOf e := Nat.mod_lt _ hpos
            obtain ⟨cs', h1, h2, h3⟩ := hf _ hi
            have e1 : j / P.cellsOf e * P.cellsOf e + j % P.cellsOf e = j := by rw [Nat.mul_comm]; exact Nat.div_add_mod j _
            rw [← e1, kvy hsz (hget _ hi) _ hr, hmk _ hi] at hc
            refine h2.2 _ u c ?_ hc
            rw [← (World.cells?_some h1).2.2 _ hr, ← hcell]
            congr 1
            rw [add_add, e1]
            simp [Addr.add]
        · simp only [Rel, hu]
          refine ⟨(List.range len).map f, rfl, by simp; omega, .inr ⟨_, _, rfl, by simp, ?_⟩⟩
          intro j x y hx hy
          have hj : j < len := by simpa using (List.getElem?_eq_some_iff.1 hx).1
          simp only [List.getElem?_map, List.getElem?_range hj, Option.map_some, Option.some.injEq] at hx hy
          subst hx; subst hy
          obtain ⟨_, _, _, h3⟩ := hf j hj
          exact h3
    · rename_i fs hu
      simp only [Bool.and_eq_true] at hT
      obtain ⟨xs, n', rfl, rfl, hl, hxl, hx⟩ := DataW.trod_struct hu h
      obtain ⟨ds, h1, h2⟩ := kyf (P := P) hl (fun _ => True) (fun _ _ => trivial) (Rel P k) (fun t c => DataW.trod enc P w 0 (fun _ => true) true n' t c) (fsOf fs) 0 xs hT.1 (by simp [fsOf, hxl])
        (fun p hp cs' y _ hy => ks1 k p.1 (List.all_eq_true.1 hT.2 p hp) n' cs' y hy)
        (fun i p hp => by
          simp only [fsOf, List.getElem?_map, Option.map_eq_some_iff] at hp
          obtain ⟨f, hf, rfl⟩ := hp
          exact hx i f (by simpa using hf))
      exact ⟨ds, by simpa using h1, by simp only [Rel, hu]; exact ⟨_, rfl, h2⟩⟩
    · rename_i m e hu
      simp only [Bool.and_eq_true] at hT
      obtain ⟨xs, n', rfl, rfl, hl, hxl, hx⟩ := DataW.trod_array hu h
      obtain ⟨ds, h1, h2⟩ := kyf (P := P) hl (fun _ => True) (fun _ _ => trivial) (Rel P k) (fun t c => DataW.trod enc P w 0 (fun _ => true) true n' t c) (arOf P m e) 0 xs hT.1 (by simp [arOf, hxl])
        (fun p hp cs' y _ hy => by
          simp only [arOf, List.mem_map] at hp
          obtain ⟨i, _, rfl⟩ := hp
          exact ks1 k e hT.2 n' cs' y hy)
        (fun i p hp => by
          simp only [arOf, List.getElem?_map, Option.map_eq_some_iff] at hp
          obtain ⟨f, hf, rfl⟩ := hp
          obtain ⟨hi, rfl⟩ := List.getElem?_eq_some_iff.1 hf
          have hi' : i < m := by simpa using hi
          simpa using hx i hi')
      exact ⟨ds, by simpa using h1, by simp only [Rel, hu]; exact ⟨_, rfl, h2⟩⟩
    · cases hT
end
end Go.Bv
namespace Go.Bv
open Go.RowKit Go.ChangeShapes Go.WideShapes
def G0 (W : World) : Gh := ⟨fun _ => none, fun _ => none, limOf W⟩
def vOf (P : Program) (t : TypeId) (ds : List D) : V := if isAggT P t then .agg (ds.map V.d) else .d (ds.headD (.bool false))
section
variable {H : Type} {enc : TypeId × Value → H} {P : Program} {W : World}
theorem arg_rep {k : Nat} {r : Reach} {base : Nat} {t : TypeId} {v : Value} {d : DataW H} {ps : List MemPlace} {h : Hp} {nx : Nat} (hT : dataT P k t = true) (hval : Value.okWide P W r base t v)
    (hd : DataW.Trod enc P W 0 (fun _ => true) true t v d ps) : ∃ ds, Rel P k t ds d ∧ RepV (G0 W) W h nx v (vOf P t ds) := by
  obtain ⟨n, hn⟩ := hd
  by_cases ha : isAggT P t = true
  · have hval' : ∃ cs, v = .agg cs ∧ cs.size = P.cellsOf t ∧ Row.okWide P W r base t cs := by
      unfold isAggT at ha
      unfold Value.okWide at hval
      split at ha
      · rename_i h1; rw [h1] at hval; exact hval
      · rename_i h1; rw [h1] at hval; exact hval
      · cases ha
    obtain ⟨cs, rfl, _, ts, _, _, hc⟩ := hval'
    obtain ⟨ds, h1, h2⟩ := ks1 k t hT n cs.toList _ hn
    refine ⟨ds, h2, ?_⟩
    unfold vOf
    rw [if_pos ha]
    have := RepV.agg (G := G0 W) (w := W) (h := h) (nx := nx) cs.toList (ds.map V.d) (by simpa using h1.1.symm) ?_ ?_
    · simpa using this
    · intro x hx
      obtain ⟨c, hcm, rfl⟩ := List.mem_map.1 hx
      obtain ⟨j, hj⟩ := List.getElem?_of_mem hcm
      have hjl : j < cs.toList.length := by have := h1.1; have := (List.getElem?_eq_some_iff.1 hj).1; simp [Value.cells] at *; omega
      exact (h1.2 j _ c (List.getElem?_eq_getElem hjl) hj).done
    · intro j u x hu hx
      rw [List.getElem?_map, Option.map_eq_some_iff] at hx
      obtain ⟨c, hcj, rfl⟩ := hx
      exact .d _ _ (h1.2 j u c hu hcj)
  · have hval' : Cell.okWide P W r base t v := by
      unfold Value.okWide at hval
      split at hval
      · rename_i h1; exact absurd (by simp [isAggT, h1]) ha
      · rename_i h1; exact absurd (by simp [isAggT, h1]) ha
      · exact hval
    have hcs : v.cells.toList = [v] := by
      cases v with
      | agg cs =>
        exfalso
        unfold Cell.okWide Cell.ok at hval'
        split at hval'
        all_goals first | (split at hval'; all_goals simp_all) | simp_all
      | _ => rfl
    rw [hcs] at hn
    obtain ⟨ds, h1, h2⟩ := ks1 k t hT n _ _ hn
    refine ⟨ds, h2, ?_⟩
    unfold vOf
    rw [if_neg ha]
    have hl := h1.1
    match ds, hl with
    | [c], _ => exact .d _ _ (h1.2 0 v c rfl rfl)
theorem law_of {f : FuncId} {xs : List V} {r : V} (hS : SoundH P f xs [] r []) {vs : List Value} (hlen : vs.length = xs.length)
    (hrep : ∀ (j : Nat) (v : Value) (x : V), vs[j]? = some v → xs[j]? = some x → RepV (G0 W) W [] 0 v x) :
    Calls P f vs.toArray W fun e W' => (∃ v G', e = .returned v ∧ RepV G' W' [] 0 v r) ∧ Below W.heap.size W W' := by
  refine (hS (G0 W) W vs hlen hrep ?_).mono fun e W' hh => ?_
  · refine ⟨?_, ?_, ?_, ?_, ?_, ?_⟩
    · intro id l h; simp [hpOf, Hp.get] at h
    · intro id es h; simp [hpOf, Hp.get] at h
    · intro id b h; simp at h
    · intro i j b h; simp at h
    · intro id ob h; simp [hpOf, Hp.get] at h
    · intro b hb
      show limOf W b = 0
      unfold limOf
      rw [Array.getElem?_eq_none hb]
  · obtain ⟨v, G', rfl, h1, h2, h3, h4⟩ := hh
    refine ⟨⟨v, G', rfl, h1⟩, h3.os, h3.tape, h3.output, h3.size, fun b hb => (h3.same b hb ?_).1⟩
    rintro ⟨i, hi, _⟩
    simp at hi
def typesOk (P : Program) (ts : List TypeId) : Bool := ts.all fun t => P.readableRec t && decide (t < P.types.size)
theorem kwy (hl : laidOutB P = true) {W' : World} (hb : Below W.heap.size W W') : ∀ {ts : List TypeId} {vs : List Value} {ds : List (DataW H)} {ps : List MemPlace}, typesOk P ts = true →
    DataW.TrodAll enc P W 0 (fun _ => true) true ts vs ds ps → (∀ x ∈ ps, x.block < W.heap.size) → DataW.TrodAll enc P W' 0 (fun b => decide (b < W.heap.size)) true ts vs ds ps
  | [], [], [], _, _, h, _ => h
  | [], [], _ :: _, _, _, h, _ => h.elim
  | [], _ :: _, _, _, _, h, _ => h.elim
  | _ :: _, [], _, _, _, h, _ => h.elim
  | _ :: _, _ :: _, [], _, _, h, _ => h.elim
  | t :: ts, v :: vs, d :: ds, ps, ht, h, hp => by
    simp only [typesOk, List.all_cons, Bool.and_eq_true, decide_eq_true_eq] at ht
    obtain ⟨p, q, h1, h2, rfl⟩ := h
    exact ⟨p, q, Below.trod hl ht.1.1 ht.1.2 h1 hb (fun x hx => hp x (by simp [hx])), kwy hl hb (by simpa [typesOk] using ht.2) h2 (fun x hx => hp x (by simp [hx])), rfl⟩
theorem rel_int {k : Nat} {t : TypeId} {q : IntKind} {ds : List D} {d : DataW H} (hu : P.underlying t = some (.int q)) (h : Rel P (k + 1) t ds d) : ∃ i, ds = [.int q i] ∧ d = .lit (.int q i) ∧ (Lit.int q i).wf = true := by unfold Rel at h; rw [hu] at h; exact h
theorem k1b3 {k : Nat} {t : TypeId} {fs : Array Field} {ds : List D} {d : DataW H} (hu : P.underlying t = some (.struct fs)) (h : Rel P (k + 1) t ds d) : ∃ ps, d = .agg ps ∧ RelFs (Rel P k) (fsOf fs) ds ps := by unfold Rel at h; rw [hu] at h; exact h
theorem k1dy {fn : Func} {s : ChangeSpec} {W' : World} {args : Array Value} {ds : List (DataW H)} {before : List MemPlace} {tb : TypeId} (hv : s.vars = []) (hW : DataW.Whole enc P fn.params.toList s.vars false W args.toList ds [] before)
    (hl : laidOutB P = true) (hty : typesOk P fn.params.toList = true) (hr : fn.resultTypes = #[tb]) (hub : P.underlying tb = some .bool)
    (h1 : (s.fn H (ds ++ [])).results = [.lit (.bool true)]) (h2 : (s.fn H (ds ++ [])).args = ds) (h3 : (s.fn H (ds ++ [])).vars = []) (hb : Below W.heap.size W W') :
    s.post enc P fn false true false false W args (.bool true) W' := by
  have hW' := hW
  obtain ⟨p, q, hA, hV, rfl, _, _⟩ := hW
  have hq : q = [] := by rw [hv] at hV; exact hV
  subst hq
  refine ⟨ds, [], p ++ [], [], p, [], hW', ?_, ?_, ?_, hb.frame _, fun h => by cases h⟩
  · rw [h1, hr]
    exact trodAll_cons_mk (shut_bool hub _) trodAll_mk0
  · rw [h2]
    exact kwy hl hb hty hA (fun x hx => by simpa using hW'.lt x (by simpa using hx))
  · rw [hv, h3]
    rfl
end
structure RelH {H : Type} (P : Program) (k : Nat) (t : TypeId) (ds : List D) (d : DataW H) : Prop where
  h : Rel P k t ds d
section
variable {H : Type} {enc : TypeId × Value → H} {P : Program} {W : World} {k : Nat}
theorem relFs_h : ∀ {L : List (TypeId × Nat)} {ds : List D} {ps : List (DataW H)}, RelFs (Rel P k) L ds ps → RelFs (RelH P k) L ds ps
  | [], _, _, h => h
  | _ :: _, _, _, ⟨d1, d2, p, qs, h1, h2, e1, e2⟩ => ⟨d1, d2, p, qs, ⟨h1⟩, relFs_h h2, e1, e2⟩
theorem k189 {t : TypeId} {q : IntKind} {ds : List D} {d : DataW H} (hu : P.underlying t = some (.int q)) (h : RelH P (k + 1) t ds d) : ∃ i, ds = [.int q i] ∧ d = .lit (.int q i) ∧ (Lit.int q i).wf = true := rel_int hu h.h
theorem k19t {t : TypeId} {fs : Array Field} {ds : List D} {d : DataW H} {L : List (TypeId × Nat)} (hu : P.underlying t = some (.struct fs)) (hf : fsOf fs = L) (h : RelH P (k + 1) t ds d) : ∃ ps, d = .agg ps ∧ RelFs (RelH P k) L ds ps := by
  obtain ⟨ps, h1, h2⟩ := k1b3 hu h.h
  rw [hf] at h2
  exact ⟨ps, h1, relFs_h h2⟩
theorem k19n {r : Reach} {base : Nat} {t : TypeId} {v : Value} {d : DataW H} {ps : List MemPlace} {h : Hp} {nx : Nat} (hT : dataT P k t = true) (hval : Value.okWide P W r base t v)
    (hd : DataW.Trod enc P W 0 (fun _ => true) true t v d ps) : ∃ ds, RelH P k t ds d ∧ RepV (G0 W) W h nx v (vOf P t ds) := by
  obtain ⟨ds, h1, h2⟩ := arg_rep hT hval hd
  exact ⟨ds, ⟨h1⟩, h2⟩
end
end Go.Bv
namespace Go.Proofs.Ytponaobpcdkggaa
open Go Go.Bv Go.Cv Go.Md Go.RowKit Go.ChangeShapes Go.WideShapes
theorem wf_u64 {i : Int} (h : (Lit.int .u64 i).wf = true) : 0 ≤ i ∧ i < 18446744073709551616 := by
  simp only [Lit.wf, IntKind.min, IntKind.max, IntKind.signed, IntKind.bits, Bool.and_eq_true] at h
  simp at h
  omega
theorem wf_i64 {i : Int} (h : (Lit.int .i64 i).wf = true) : (-9223372036854775808) ≤ i ∧ i < 9223372036854775808 := by
  simp only [Lit.wf, IntKind.min, IntKind.max, IntKind.signed, IntKind.bits, Bool.and_eq_true] at h
  simp at h
  omega
structure kfv (x : TTranscript) : Prop where
  State : (0 ≤ x.State ∧ x.State < 18446744073709551616)
  Count : (0 ≤ x.Count ∧ x.Count < 18446744073709551616)
theorem op22 {H : Type} {k : Nat} {ds : List D} {d : DataW H} (h : RelH Try.prog (k + 1) 22 ds d) : ∃ x : Int, ds = [D.int .u64 x] ∧ (0 ≤ x ∧ x < 18446744073709551616) := by
  obtain ⟨i, rfl, _, w⟩ := k189 (q := .u64) (show Try.prog.underlying 22 = some (.int .u64) by kernel_rfl) h
  exact ⟨i, rfl, wf_u64 w⟩
theorem op30 {H : Type} {k : Nat} {ds : List D} {d : DataW H} (h : RelH Try.prog (k + 2) 30 ds d) : ∃ x : TTranscript, ds = (encTTranscript x).cells ∧ kfv x := by
  obtain ⟨ps, rfl, h1⟩ := k19t (L := [(22, 0), (22, 1)]) (Try.underlying30) (by kernel_rfl) h
  obtain ⟨_, _, _, _, g0, ⟨_, _, _, _, g1, ⟨rfl, rfl⟩, rfl, rfl⟩, rfl, rfl⟩ := h1
  obtain ⟨a0, rfl, r0⟩ := op22 (k := k + 0) g0
  obtain ⟨a1, rfl, r1⟩ := op22 (k := k + 0) g1
  exact ⟨⟨a0, a1⟩, rfl, ⟨r0, r1⟩⟩
theorem op3 {H : Type} {k : Nat} {ds : List D} {d : DataW H} (h : RelH Try.prog (k + 1) 3 ds d) : ∃ x : Int, ds = [D.int .i64 x] ∧ ((-9223372036854775808) ≤ x ∧ x < 9223372036854775808) := by
  obtain ⟨i, rfl, _, w⟩ := k189 (q := .i64) (show Try.prog.underlying 3 = some (.int .i64) by kernel_rfl) h
  exact ⟨i, rfl, wf_i64 w⟩
theorem dt3 : dataT Try.prog 1 3 = true := by kernel_rfl
theorem dt30 : dataT Try.prog 2 30 = true := by kernel_rfl
theorem own : ownKnob Try.prog.godebug = none := by kernel_rfl
theorem laid : laidOutB Try.prog = true := by kernel_rfl
end Go.Proofs.Ytponaobpcdkggaa
namespace Go.Md
open Go Go.Bv
theorem u64w (n : Int) : IntKind.u64.wrap n = n % 18446744073709551616 := IntKind.wrap_u64 n
theorem u8w (n : Int) : IntKind.u8.wrap n = n % 256 := IntKind.wrap_u8 n
theorem kon (k : IntKind) (a b : Int) : ishr k a b = a / ((2 ^ min b.toNat k.bits : Nat) : Int) := by
  unfold ishr
  rw [show (2 : Int) ^ min b.toNat k.bits = ((2 ^ min b.toNat k.bits : Nat) : Int) from (Int.natCast_pow 2 _).symm, Int.fdiv_eq_ediv_of_nonneg _ (Int.natCast_nonneg _)]
theorem k1dr (a b : Int) : ishl .u64 a b = (a * ((2 ^ min b.toNat 64 : Nat) : Int)) % 18446744073709551616 := by
  unfold ishl
  rw [u64w, show (2 : Int) ^ min b.toNat IntKind.u64.bits = ((2 ^ min b.toNat 64 : Nat) : Int) by rw [show IntKind.u64.bits = 64 from rfl]; exact (Int.natCast_pow 2 _).symm]
theorem ktr (n : Nat) (h : n < 18446744073709551616) : (BitVec.ofInt 64 (n : Int)).toNat = n := by
  rw [BitVec.toNat_ofInt]
  omega
theorem k19j (a b : Nat) (ha : a < 18446744073709551616) (hb : b < 18446744073709551616) : iand .u64 a b = ((a &&& b : Nat) : Int) := by
  unfold iand
  rw [u64w]
  show (((BitVec.ofInt 64 a &&& BitVec.ofInt 64 b).toNat : Nat) : Int) % _ = _
  rw [BitVec.toNat_and, ktr a ha, ktr b hb]
  have := Nat.and_le_left (n := a) (m := b)
  omega
theorem ior_nat (a b : Nat) (ha : a < 18446744073709551616) (hb : b < 18446744073709551616) : ior .u64 a b = ((a ||| b : Nat) : Int) := by
  unfold ior
  rw [u64w]
  show (((BitVec.ofInt 64 a ||| BitVec.ofInt 64 b).toNat : Nat) : Int) % _ = _
  rw [BitVec.toNat_or, ktr a ha, ktr b hb]
  have := Nat.or_lt_two_pow (x := a) (y := b) (n := 64) (by omega) (by omega)
  omega
theorem kkg (a : Int) (h : 0 ≤ a ∧ a < 18446744073709551616) : iand .u64 a 4294967295 = a % 4294967296 := by
  obtain ⟨n, rfl⟩ := Int.eq_ofNat_of_zero_le h.1
  have := k19j n 4294967295 (by omega) (by omega)
  rw [show ((4294967295 : Nat) : Int) = 4294967295 from rfl] at this
  rw [this, show (4294967295 : Nat) = 2 ^ 32 - 1 from rfl, Nat.and_two_pow_sub_one_eq_mod]
  exact Int.natCast_emod _ _
theorem k1cx (a : Int) (h : 0 ≤ a ∧ a < 18446744073709551616) : iand .u64 a 1 = a % 2 := by
  obtain ⟨n, rfl⟩ := Int.eq_ofNat_of_zero_le h.1
  have := k19j n 1 (by omega) (by omega)
  rw [show ((1 : Nat) : Int) = 1 from rfl] at this
  rw [this, Nat.and_one_is_mod]
  exact Int.natCast_emod _ _
theorem ior_add' (a c : Nat) (k : Nat) (ha : a < 2 ^ k) (h : a + 2 ^ k * c < 18446744073709551616) : ior .u64 ((2 ^ k * c : Nat) : Int) a = ((a + 2 ^ k * c : Nat) : Int) := by
  rw [ior_nat _ _ (by omega) (by omega), ← Nat.two_pow_add_eq_or_of_lt ha, Nat.add_comm]
theorem ishr32 (a : Int) : ishr .u64 a 32 = a / 4294967296 := kon _ _ _
theorem ishr16 (a : Int) : ishr .u64 a 16 = a / 65536 := kon _ _ _
theorem ishr8 (a : Int) : ishr .u64 a 8 = a / 256 := kon _ _ _
theorem ishr1 (a : Int) : ishr .u64 a 1 = a / 2 := kon _ _ _
theorem k1dc (a b : Int) (ha : 0 ≤ a ∧ a < 18446744073709551616) (hb : 0 ≤ b ∧ b < 18446744073709551616) :
    ((a / 4294967296 * (b / 4294967296) + ((a / 4294967296 * (b % 4294967296) + a % 4294967296 * (b % 4294967296) / 4294967296) / 4294967296)) + ((a / 4294967296 * (b % 4294967296) + a % 4294967296 * (b % 4294967296) / 4294967296) % 4294967296 + a % 4294967296 * (b / 4294967296)) / 4294967296) = a * b / 18446744073709551616 ∧
    a % 4294967296 * (b % 4294967296) < 18446744073709551616 ∧ a / 4294967296 * (b % 4294967296) + a % 4294967296 * (b % 4294967296) / 4294967296 < 18446744073709551616 ∧
    a % 4294967296 * (b / 4294967296) < 18446744073709551616 - 4294967296 ∧ a / 4294967296 * (b / 4294967296) < 18446744065119617026 ∧ 0 ≤ a % 4294967296 * (b % 4294967296) ∧ 0 ≤ a / 4294967296 * (b % 4294967296) ∧ 0 ≤ a % 4294967296 * (b / 4294967296) ∧ 0 ≤ a / 4294967296 * (b / 4294967296) := by
  have h1 : ∀ x y : Int, 0 ≤ x → x ≤ 4294967295 → 0 ≤ y → y ≤ 4294967295 → 0 ≤ x * y ∧ x * y ≤ 18446744065119617025 := by
    intro x y h0 h1 h2 h3
    exact ⟨Int.mul_nonneg h0 h2, by have := Int.mul_le_mul h1 h3 h2 (by omega); omega⟩
  have a1 := h1 (a % 4294967296) (b % 4294967296) (by omega) (by omega) (by omega) (by omega)
  have a2 := h1 (a / 4294967296) (b % 4294967296) (by omega) (by omega) (by omega) (by omega)
  have a3 := h1 (a % 4294967296) (b / 4294967296) (by omega) (by omega) (by omega) (by omega)
  have a4 := h1 (a / 4294967296) (b / 4294967296) (by omega) (by omega) (by omega) (by omega)
  have e : a * b = a / 4294967296 * (b / 4294967296) * 18446744073709551616 + (a / 4294967296 * (b % 4294967296) + a % 4294967296 * (b / 4294967296)) * 4294967296 + a % 4294967296 * (b % 4294967296) := by
    have ea : a = a / 4294967296 * 4294967296 + a % 4294967296 := by omega
    have eb : b = b / 4294967296 * 4294967296 + b % 4294967296 := by omega
    conv => lhs; rw [ea, eb]
    generalize a / 4294967296 = x
    generalize a % 4294967296 = y
    generalize b / 4294967296 = z
    generalize b % 4294967296 = t
    grind
  generalize a % 4294967296 * (b % 4294967296) = p0 at *
  generalize a / 4294967296 * (b % 4294967296) = p1 at *
  generalize a % 4294967296 * (b / 4294967296) = p2 at *
  generalize a / 4294967296 * (b / 4294967296) = p3 at *
  generalize a * b = ab at *
  refine ⟨?_, ?_, ?_, ?_, ?_, ?_, ?_, ?_, ?_⟩ <;> omega
structure Half (U x a b Q : Int) : Prop where
  hU : 0 ≤ U
  hUv : U < a * 4294967296 + b
  hx : 0 ≤ x ∧ x < 4294967296
  ha : 2147483648 ≤ a ∧ a < 4294967296
  hb : 0 ≤ b ∧ b < 4294967296
  hQ : Q = (U * 4294967296 + x) / (a * 4294967296 + b)
theorem Half.q {U x a b Q : Int} (h : Half U x a b Q) : 0 ≤ Q ∧ Q < 4294967296 ∧ Q * (a * 4294967296 + b) ≤ U * 4294967296 + x ∧ U * 4294967296 + x < (Q + 1) * (a * 4294967296 + b) := by
  obtain ⟨h1, h2, h3, h4, h5, h6⟩ := h
  have hv : 0 < a * 4294967296 + b := by omega
  have e := Int.emod_add_mul_ediv (U * 4294967296 + x) (a * 4294967296 + b)
  have l := Int.emod_nonneg (U * 4294967296 + x) (by omega : a * 4294967296 + b ≠ 0)
  have r := Int.emod_lt_of_pos (U * 4294967296 + x) hv
  rw [← h6] at e
  generalize hvv : a * 4294967296 + b = v at *
  have e2 : (Q + 1) * v = Q * v + v := by grind
  have e3 : v * Q = Q * v := by grind
  have q0 : 0 ≤ Q := by
    rw [h6]
    exact Int.ediv_nonneg (by omega) (by omega)
  have q1 : Q < 4294967296 := by
    rw [h6]
    exact Int.ediv_lt_of_lt_mul hv (by omega)
  refine ⟨q0, q1, by omega, by omega⟩
theorem Half.exit {U x a b Q q r : Int} (h : Half U x a b Q) (e : q * a + r = U) (hq : Q ≤ q) (h2 : q * b ≤ r * 4294967296 + x) : q = Q := by
  obtain ⟨q0, q1, q2, q3⟩ := h.q
  have h4 := h.ha
  have : q * (a * 4294967296 + b) ≤ U * 4294967296 + x := by
    have : q * (a * 4294967296 + b) = q * a * 4294967296 + q * b := by grind
    rw [this]
    generalize q * a = qa at *
    omega
  have h5 : q < Q + 1 := by
    have hv : 0 < a * 4294967296 + b := by have := h.hb; omega
    exact Int.lt_of_mul_lt_mul_right (by omega) (Int.le_of_lt hv)
  omega
theorem Half.down {U x a b Q q r : Int} (h : Half U x a b Q) (e : q * a + r = U) (h2 : 4294967296 ≤ q ∨ r * 4294967296 + x < q * b) : Q ≤ q - 1 := by
  obtain ⟨q0, q1, q2, q3⟩ := h.q
  rcases h2 with h2 | h2
  · omega
  · have : U * 4294967296 + x < q * (a * 4294967296 + b) := by
      have : q * (a * 4294967296 + b) = q * a * 4294967296 + q * b := by grind
      rw [this]
      generalize q * a = qa at *
      omega
    have h5 : Q < q := by
      have hv : 0 < a * 4294967296 + b := by have := h.hb; have := h.ha; omega
      exact Int.lt_of_mul_lt_mul_right (a := a * 4294967296 + b) (by omega) (Int.le_of_lt hv)
    omega
theorem Half.small {U x a b Q q r : Int} (h : Half U x a b Q) (e : q * a + r = U) (hr : 4294967296 ≤ r) : q < 4294967296 := by
  have h2 := h.hUv
  have h4 := h.ha
  have h5 := h.hb
  have : q * a < 4294967296 * a := by generalize q * a = qa at *; omega
  exact Int.lt_of_mul_lt_mul_right this (by omega)
theorem Half.done {U x a b Q q r : Int} (h : Half U x a b Q) (e : q * a + r = U) (hq : Q ≤ q) (hr : 4294967296 ≤ r) : q = Q := by
  refine h.exit e hq ?_
  have h1 := h.small e hr
  obtain ⟨q0, _⟩ := h.q
  have h5 := h.hb
  have h6 := h.hx
  have : q * b ≤ 4294967296 * 4294967296 := Int.mul_le_mul (by omega) (by omega) (by omega) (by omega)
  omega
theorem Half.rest {U x a b Q : Int} (h : Half U x a b Q) : (U * 4294967296 + x) - Q * (a * 4294967296 + b) = (U * 4294967296 + x) % (a * 4294967296 + b) ∧ 0 ≤ (U * 4294967296 + x) % (a * 4294967296 + b) ∧ (U * 4294967296 + x) % (a * 4294967296 + b) < a * 4294967296 + b := by
  have hv : 0 < a * 4294967296 + b := by have := h.hb; have := h.ha; omega
  have e := Int.emod_add_mul_ediv (U * 4294967296 + x) (a * 4294967296 + b)
  rw [← h.hQ] at e
  have := Int.mul_comm (a * 4294967296 + b) Q
  exact ⟨by omega, Int.emod_nonneg _ (by omega), Int.emod_lt_of_pos _ hv⟩
theorem k1bs {N y p U un1 un0 Q1 R1 Q0 R0 : Int} (hp : 0 < p) (hy : 0 < y) (hN : N * p = U * 18446744073709551616 + un1 * 4294967296 + un0) (h1 : U * 4294967296 + un1 - Q1 * (y * p) = R1) (h0 : R1 * 4294967296 + un0 - Q0 * (y * p) = R0)
    (hr : 0 ≤ R0 ∧ R0 < y * p) : Q1 * 4294967296 + Q0 = N / y ∧ R0 / p = N % y := by
  have e : N * p = (Q1 * 4294967296 + Q0) * (y * p) + R0 := by
    rw [hN]
    have : (Q1 * 4294967296 + Q0) * (y * p) = Q1 * (y * p) * 4294967296 + Q0 * (y * p) := by grind
    rw [this]
    generalize Q1 * (y * p) = a at *
    generalize Q0 * (y * p) = b at *
    omega
  have e2 : R0 = (N - (Q1 * 4294967296 + Q0) * y) * p := by grind
  have h3 : 0 ≤ N - (Q1 * 4294967296 + Q0) * y := by
    rcases Int.lt_or_le (N - (Q1 * 4294967296 + Q0) * y) 0 with h | h
    · exfalso
      have : (N - (Q1 * 4294967296 + Q0) * y) * p < 0 := Int.mul_neg_of_neg_of_pos h hp
      omega
    · exact h
  have h4 : N - (Q1 * 4294967296 + Q0) * y < y := by
    refine Int.lt_of_mul_lt_mul_right (a := p) ?_ (Int.le_of_lt hp)
    omega
  have e3 : N = (N - (Q1 * 4294967296 + Q0) * y) + y * (Q1 * 4294967296 + Q0) := by grind
  constructor
  · conv => rhs; rw [e3]
    rw [Int.add_mul_ediv_left _ _ (by omega), Int.ediv_eq_zero_of_lt h3 h4]
    omega
  · rw [e2, Int.mul_ediv_cancel _ (by omega)]
    conv => rhs; rw [e3]
    rw [Int.add_mul_emod_self_left, Int.emod_eq_of_lt h3 h4]
end Go.Md
namespace Go.Md
open Go Go.Bv
theorem ix_nat {α : Type} [Inhabited α] (l : List α) (i : Int) (h0 : 0 ≤ i) (h1 : i < (l.length : Int)) : ix l i = l[i.toNat]'(by omega) := by
  have : i.toNat < l.length := by omega
  simp [ix, this]
theorem ix_mem {α : Type} [Inhabited α] (l : List α) (i : Int) (h0 : 0 ≤ i) (h1 : i < (l.length : Int)) : ix l i ∈ l := by
  rw [ix_nat l i h0 h1]; exact List.getElem_mem _
theorem inc (i n : Int) (h0 : 0 ≤ i) (h : i < n) (hn : n ≤ 9223372036854775807) : IntKind.i64.wrap (i + 1) = i + 1 := k18n _ (by omega) (by omega)
theorem wi (n : Int) (h0 : -9223372036854775808 ≤ n) (h : n ≤ 9223372036854775807) : IntKind.i64.wrap n = n := k18n n h0 (by omega)
theorem wu (n : Int) (h0 : 0 ≤ n) (h : n ≤ 18446744073709551615) : IntKind.u64.wrap n = n := wrap_u64 n h0 (by omega)
theorem tdiv_nn (a b : Int) (h : 0 ≤ a) : Int.tdiv a b = a / b := Int.tdiv_eq_ediv_of_nonneg h
theorem tmod_nn (a b : Int) (h : 0 ≤ a) : Int.tmod a b = a % b := Int.tmod_eq_emod_of_nonneg h
theorem k9b {α : Type} [Inhabited α] (l : List α) (i : Int) (h0 : 0 ≤ i) (h1 : i < (l.length : Int)) : l.take (i + 1).toNat = l.take i.toNat ++ [ix l i] := by
  rw [ix_nat l i h0 h1, show (i + 1).toNat = i.toNat + 1 by omega, List.take_succ_eq_append_getElem (by omega)]
theorem drop_ix {α : Type} [Inhabited α] (l : List α) (i : Int) (h0 : 0 ≤ i) (h1 : i < (l.length : Int)) : l.drop i.toNat = ix l i :: l.drop (i + 1).toNat := by
  rw [ix_nat l i h0 h1, show (i + 1).toNat = i.toNat + 1 by omega]
  exact List.drop_eq_getElem_cons (by omega)
theorem kvk (a m : Int) : ∀ k : Nat, (a % m) ^ k % m = a ^ k % m
  | 0 => by simp
  | k + 1 => by rw [Int.pow_succ, Int.pow_succ, Int.mul_emod, kvk a m k, Int.emod_emod_of_dvd _ (Int.dvd_refl _), ← Int.mul_emod]
abbrev U64 (n : Int) : Prop := 0 ≤ n ∧ n < 18446744073709551616
abbrev By (l : List Int) : Prop := ∀ x ∈ l, 0 ≤ x ∧ x < 256
abbrev Us (l : List Int) : Prop := ∀ x ∈ l, 0 ≤ x ∧ x < 18446744073709551616
def dig : Nat → Int → List Int
  | 0, _ => []
  | k + 1, n => n % 256 :: dig k (n / 256)
def val : List Int → Int
  | [] => 0
  | x :: r => x + 256 * val r
@[simp] theorem kmv : ∀ (k : Nat) (n : Int), (dig k n).length = k
  | 0, _ => rfl
  | k + 1, n => by simp [dig, kmv k]
theorem k10c (k : Nat) : (256 : Int) ^ (k + 1) = 256 * 256 ^ k := by rw [Int.pow_succ, Int.mul_comm]
theorem k1be (k : Nat) : (0 : Int) < 256 ^ k := Int.pow_pos (by omega)
theorem k18x : ∀ (k : Nat) (n : Int), dig (k + 1) n = dig k n ++ [n / 256 ^ k % 256]
  | 0, n => by simp [dig]
  | k + 1, n => by
    show n % 256 :: dig (k + 1) (n / 256) = n % 256 :: dig k (n / 256) ++ _
    rw [k18x k (n / 256), k10c, Int.ediv_ediv_of_nonneg (by omega)]
    rfl
theorem dig_by : ∀ (k : Nat) (n : Int), By (dig k n)
  | 0, _ => by intro x hx; cases hx
  | k + 1, n => by
    intro x hx
    rcases List.mem_cons.1 hx with rfl | hx
    · omega
    · exact dig_by k _ x hx
theorem val_dig : ∀ (k : Nat) (n : Int), 0 ≤ n → n < 256 ^ k → val (dig k n) = n
  | 0, n, h0, h => by simp at h; simp [dig, val]; omega
  | k + 1, n, h0, h => by
    rw [k10c] at h
    simp only [dig, val]
    rw [val_dig k (n / 256) (by omega) (Int.ediv_lt_of_lt_mul (by omega) (by rw [Int.mul_comm]; exact h))]
    omega
theorem dig_inj {k : Nat} {a b : Int} (ha : 0 ≤ a ∧ a < 256 ^ k) (hb : 0 ≤ b ∧ b < 256 ^ k) (h : dig k a = dig k b) : a = b := by
  rw [← val_dig k a ha.1 ha.2, h, val_dig k b hb.1 hb.2]
def len4 (n : Int) : Int := if n < 0 ∨ 4294967295 < n then 0 else n
def encL (l : List Int) : List Int := dig 4 (len4 l.length) ++ l.flatMap (dig 8)
def encB (l : List Int) : List Int := dig 4 (len4 l.length) ++ l
theorem kyr (l : List Int) : (l.flatMap (dig 8)).length = 8 * l.length := by
  induction l with
  | nil => rfl
  | cons x r ih => rw [List.flatMap_cons, List.length_append, ih, kmv, List.length_cons]; omega
@[simp] theorem k1e4 (l : List Int) : (encL l).length = 4 + 8 * l.length := by rw [encL, List.length_append, kyr, kmv]
@[simp] theorem k1e5 (l : List Int) : (encB l).length = 4 + l.length := by simp [encB]
theorem By.append {a b : List Int} (ha : By a) (hb : By b) : By (a ++ b) := fun x hx => (List.mem_append.1 hx).elim (ha x) (hb x)
theorem kvz (l : List Int) : By (l.flatMap (dig 8)) := fun x hx => by
  obtain ⟨y, _, hy⟩ := List.mem_flatMap.1 hx
  exact dig_by 8 y x hy
theorem By.take {l : List Int} (h : By l) (n : Nat) : By (l.take n) := fun x hx => h x (List.mem_of_mem_take hx)
theorem By.drop {l : List Int} (h : By l) (n : Nat) : By (l.drop n) := fun x hx => h x (List.mem_of_mem_drop hx)
theorem By.us {l : List Int} (h : By l) : Us l := fun x hx => by have := h x hx; omega
theorem ba_loop (b : ByteArray) : ∀ (k i : Nat) (r : List UInt8), b.size - i = k → i ≤ b.size → ByteArray.toList.loop b i r = r.reverse ++ b.data.toList.drop i
  | 0, i, r, h, hi => by
    unfold ByteArray.toList.loop
    have hs : b.data.toList.length = b.size := by rw [Array.length_toList]; rfl
    rw [if_neg (by omega), List.drop_eq_nil_of_le (by omega), List.append_nil]
  | k + 1, i, r, h, hi => by
    unfold ByteArray.toList.loop
    have hs : b.data.toList.length = b.size := by rw [Array.length_toList]; rfl
    rw [if_pos (by omega), ba_loop b k (i + 1) _ (by omega) (by omega), List.reverse_cons, List.append_assoc, List.drop_eq_getElem_cons (l := b.data.toList) (i := i) (by omega)]
    have e : b.get! i = b.data.toList[i]'(by omega) := by
      show b.data[i]! = _
      rw [getElem!_pos b.data i (show i < b.size by omega)]
      exact (Array.getElem_toList _).symm
    rw [e]; rfl
theorem k15i (b : ByteArray) : b.toList = b.data.toList := by
  have := ba_loop b _ 0 [] rfl (by omega)
  simpa [ByteArray.toList] using this
theorem k15n : ∀ {l m : List Int}, By l → By m → (l.map fun n => UInt8.ofNat n.toNat) = (m.map fun n => UInt8.ofNat n.toNat) → l = m
  | [], [], _, _, _ => rfl
  | [], _ :: _, _, _, h => by cases h
  | _ :: _, [], _, _, h => by cases h
  | x :: l, y :: m, hl, hm, h => by
    rw [List.map_cons, List.map_cons, List.cons.injEq] at h
    have e := k15n (fun z hz => hl z (by simp [hz])) (fun z hz => hm z (by simp [hz])) h.2
    have h1 := hl x (by simp)
    have h2 := hm y (by simp)
    have h3 := congrArg UInt8.toNat h.1
    simp only [UInt8.toNat_ofNat'] at h3
    rw [e, show x = y by omega]
theorem strEq {l m : List Int} (hl : By l) (hm : By m) : ((strOfNums l).toList == (strOfNums m).toList) = decide (l = m) := by
  rw [k15i, k15i, strOfNums_data, strOfNums_data]
  by_cases e : l = m
  · subst e; simp
  · rw [decide_eq_false e]
    rw [beq_eq_false_iff_ne]
    exact fun h => e (k15n hl hm h)
end Go.Md
namespace Go.Md
open Go Go.Bv
def len64 (x : Int) : Int := if x = 0 then 0 else (Nat.log2 x.toNat + 1 : Nat)
theorem ku5 (x : Int) (k : Nat) (h : ((2 ^ k : Nat) : Int) ≤ x) : len64 (x / ((2 ^ k : Nat) : Int)) + k = len64 x := by
  obtain ⟨n, rfl⟩ := Int.eq_ofNat_of_zero_le (by have := Nat.two_pow_pos k; omega : 0 ≤ x)
  have hp : 0 < 2 ^ k := Nat.two_pow_pos k
  have hn : 2 ^ k ≤ n := by omega
  have e : ((n : Int) / ((2 ^ k : Nat) : Int)) = ((n / 2 ^ k : Nat) : Int) := (Int.natCast_ediv _ _).symm
  have h1 : 0 < n / 2 ^ k := Nat.div_pos hn hp
  unfold len64
  rw [e, if_neg (by omega), if_neg (by omega), Int.toNat_natCast, Int.toNat_natCast]
  have : Nat.log2 n = Nat.log2 (n / 2 ^ k) + k := by
    rw [Nat.log2_eq_iff (by omega)]
    have a := Nat.log2_self_le (n := n / 2 ^ k) (by omega)
    have b := Nat.lt_log2_self (n := n / 2 ^ k)
    rw [Nat.le_div_iff_mul_le hp] at a
    rw [Nat.div_lt_iff_lt_mul hp] at b
    constructor
    · rw [Nat.pow_add]; exact a
    · rw [show Nat.log2 (n / 2 ^ k) + k + 1 = Nat.log2 (n / 2 ^ k) + 1 + k by omega, Nat.pow_add]; exact b
  omega
theorem k12v (y : Int) (h : 0 < y ∧ y < 18446744073709551616) : ∃ s : Nat, 64 - len64 y = (s : Int) ∧ s ≤ 63 ∧ 9223372036854775808 ≤ y * ((2 ^ s : Nat) : Int) ∧ y * ((2 ^ s : Nat) : Int) < 18446744073709551616 := by
  obtain ⟨n, rfl⟩ := Int.eq_ofNat_of_zero_le (by omega : 0 ≤ y)
  have l : Nat.log2 n < 64 := (Nat.log2_lt (by omega)).2 (by omega)
  have a := Nat.log2_self_le (n := n) (by omega)
  have b := Nat.lt_log2_self (n := n)
  refine ⟨63 - Nat.log2 n, ?_, by omega, ?_, ?_⟩
  · unfold len64
    rw [if_neg (by omega), Int.toNat_natCast]
    omega
  · have : 2 ^ 63 ≤ n * 2 ^ (63 - Nat.log2 n) := by
      rw [show (63 : Nat) = Nat.log2 n + (63 - Nat.log2 n) by omega, Nat.pow_add, show Nat.log2 n + (63 - Nat.log2 n) - Nat.log2 n = 63 - Nat.log2 n by omega]
      exact Nat.mul_le_mul_right _ a
    rw [← Int.natCast_mul]
    generalize n * 2 ^ (63 - Nat.log2 n) = m at *
    omega
  · have : n * 2 ^ (63 - Nat.log2 n) < 2 ^ 64 := by
      rw [show (64 : Nat) = Nat.log2 n + 1 + (63 - Nat.log2 n) by omega, Nat.pow_add]
      exact Nat.mul_lt_mul_of_pos_right b (Nat.two_pow_pos _)
    rw [← Int.natCast_mul]
    generalize n * 2 ^ (63 - Nat.log2 n) = m at *
    omega
def tab8 : ByteArray := ⟨#[0, 1, 2, 2, 3, 3, 3, 3, 4, 4, 4, 4, 4, 4, 4, 4, 5, 5, 5, 5, 5, 5, 5, 5, 5, 5, 5, 5, 5, 5, 5, 5, 6, 6, 6, 6, 6, 6, 6, 6, 6, 6, 6, 6, 6, 6, 6, 6, 6, 6, 6, 6, 6, 6, 6, 6, 6, 6, 6, 6, 6, 6, 6, 6, 7, 7, 7, 7, 7, 7, 7, 7, 7, 7, 7, 7, 7, 7, 7, 7, 7, 7, 7, 7, 7, 7, 7, 7, 7, 7, 7, 7, 7, 7, 7, 7, 7, 7, 7, 7, 7, 7, 7, 7, 7, 7, 7, 7, 7, 7, 7, 7, 7, 7, 7, 7, 7, 7, 7, 7, 7, 7, 7, 7, 7, 7, 7, 7, 8, 8, 8, 8, 8, 8, 8, 8, 8, 8, 8, 8, 8, 8, 8, 8, 8, 8, 8, 8, 8, 8, 8, 8, 8, 8, 8, 8, 8, 8, 8, 8, 8, 8, 8, 8, 8, 8, 8, 8, 8, 8, 8, 8, 8, 8, 8, 8, 8, 8, 8, 8, 8, 8, 8, 8, 8, 8, 8, 8, 8, 8, 8, 8, 8, 8, 8, 8, 8, 8, 8, 8, 8, 8, 8, 8, 8, 8, 8, 8, 8, 8, 8, 8, 8, 8, 8, 8, 8, 8, 8, 8, 8, 8, 8, 8, 8, 8, 8, 8, 8, 8, 8, 8, 8, 8, 8, 8, 8, 8, 8, 8, 8, 8, 8, 8, 8, 8, 8, 8, 8, 8, 8, 8, 8, 8, 8, 8]⟩
theorem k1d9 : ∀ b : Nat, b < 256 → Cv.byteAt tab8 (b : Int) = len64 (b : Int) := by decide +kernel
theorem k19k (x : Int) (h : 0 ≤ x ∧ x < 256) : Cv.byteAt tab8 x = len64 x := by
  obtain ⟨n, rfl⟩ := Int.eq_ofNat_of_zero_le h.1
  exact k1d9 n (by omega)
theorem k1ai (x : Int) (h : 0 ≤ x ∧ x < 256) : 0 ≤ len64 x ∧ len64 x ≤ 8 := by
  rw [← k19k x h]
  obtain ⟨n, rfl⟩ := Int.eq_ofNat_of_zero_le h.1
  have : ∀ b : Nat, b < 256 → 0 ≤ Cv.byteAt tab8 (b : Int) ∧ Cv.byteAt tab8 (b : Int) ≤ 8 := by decide +kernel
  exact this n (by omega)
theorem k1cj : tab8.size = 256 := by decide +kernel
end Go.Md
namespace Go.Md
open Go Go.Bv Go.Cv Go.Md Go.RowKit
section
variable {α β : Type}
def AllI (f : α → Bool) (l : List α) (i : Int) : Prop := 0 ≤ i ∧ i ≤ l.length ∧ ∀ x ∈ l.take i.toNat, f x = true
theorem AllI.start {f : α → Bool} {l : List α} : AllI f l 0 := ⟨by omega, by omega, by simp⟩
theorem AllI.next [Inhabited α] {f : α → Bool} {l : List α} {i : Int} (h : AllI f l i) (hh : i < l.length) (hl : (l.length : Int) ≤ 9223372036854775807) (hf : f (ix l i) = true) :
    AllI f l (IntKind.i64.wrap (i + 1)) ∧ (l.length - IntKind.i64.wrap (i + 1)).toNat < (l.length - i).toNat := by
  obtain ⟨g0, g1, g2⟩ := h
  rw [inc i l.length g0 hh hl]
  refine ⟨⟨by omega, by omega, ?_⟩, by omega⟩
  rw [k9b l i g0 hh]
  intro x hx
  rcases List.mem_append.1 hx with hx | hx
  · exact g2 x hx
  · have : x = ix l i := by simpa using hx
    rw [this]; exact hf
theorem AllI.bad [Inhabited α] {f : α → Bool} {l : List α} {i : Int} (h : AllI f l i) (hh : i < l.length) (hf : f (ix l i) = false) : l.all f = false :=
  List.all_eq_false.2 ⟨ix l i, Md.ix_mem l i h.1 hh, by simp [hf]⟩
theorem AllI.done {f : α → Bool} {l : List α} {i : Int} (h : AllI f l i) (hh : ¬ i < l.length) : l.all f = true := by
  obtain ⟨g0, g1, g2⟩ := h
  rw [List.take_of_length_le (by omega)] at g2
  exact List.all_eq_true.2 g2
def FoldI (f : β → α → β) (z : β) (l : List α) (i : Int) (s : β) : Prop := 0 ≤ i ∧ i ≤ l.length ∧ s = (l.take i.toNat).foldl f z
theorem FoldI.start {f : β → α → β} {z : β} {l : List α} : FoldI f z l 0 z := ⟨by omega, by omega, by simp⟩
theorem FoldI.next [Inhabited α] {f : β → α → β} {z : β} {l : List α} {i : Int} {s s' : β} (h : FoldI f z l i s) (hh : i < l.length) (hl : (l.length : Int) ≤ 9223372036854775807) (hs : s' = f s (ix l i)) :
    FoldI f z l (IntKind.i64.wrap (i + 1)) s' ∧ (l.length - IntKind.i64.wrap (i + 1)).toNat < (l.length - i).toNat := by
  obtain ⟨g0, g1, g2⟩ := h
  rw [inc i l.length g0 hh hl]
  refine ⟨⟨by omega, by omega, ?_⟩, by omega⟩
  rw [k9b l i g0 hh, List.foldl_append, ← g2, hs]
  rfl
theorem FoldI.done {f : β → α → β} {z : β} {l : List α} {i : Int} {s : β} (h : FoldI f z l i s) (hh : ¬ i < l.length) : s = l.foldl f z := by
  obtain ⟨g0, g1, g2⟩ := h
  rwa [List.take_of_length_le (by omega)] at g2
def FlatI (f : α → List β) (z : List β) (l : List α) (i : Int) (s : List β) : Prop := 0 ≤ i ∧ i ≤ l.length ∧ s = z ++ (l.take i.toNat).flatMap f
theorem FlatI.start {f : α → List β} {z : List β} {l : List α} : FlatI f z l 0 z := ⟨by omega, by omega, by simp⟩
theorem FlatI.next [Inhabited α] {f : α → List β} {z : List β} {l : List α} {i : Int} {s s' : List β} (h : FlatI f z l i s) (hh : i < l.length) (hl : (l.length : Int) ≤ 9223372036854775807) (hs : s' = s ++ f (ix l i)) :
    FlatI f z l (IntKind.i64.wrap (i + 1)) s' ∧ (l.length - IntKind.i64.wrap (i + 1)).toNat < (l.length - i).toNat := by
  obtain ⟨g0, g1, g2⟩ := h
  rw [inc i l.length g0 hh hl]
  refine ⟨⟨by omega, by omega, ?_⟩, by omega⟩
  rw [k9b l i g0 hh, List.flatMap_append, hs, g2]
  simp
theorem FlatI.done {f : α → List β} {z : List β} {l : List α} {i : Int} {s : List β} (h : FlatI f z l i s) (hh : ¬ i < l.length) : s = z ++ l.flatMap f := by
  obtain ⟨g0, g1, g2⟩ := h
  rwa [List.take_of_length_le (by omega)] at g2
theorem FlatI.len {f : α → List β} {z : List β} {l : List α} {i : Int} {s : List β} (h : FlatI f z l i s) (k : Nat) (hk : ∀ x ∈ l, (f x).length ≤ k) : s.length ≤ z.length + k * l.length := by
  obtain ⟨g0, g1, g2⟩ := h
  have key : ∀ (m : List α), (∀ x ∈ m, (f x).length ≤ k) → (m.flatMap f).length ≤ k * m.length := by
    intro m
    induction m with
    | nil => simp
    | cons a m ih =>
      intro hm
      have h1 := ih (fun x hx => hm x (by simp [hx]))
      have h2 := hm a (by simp)
      rw [List.flatMap_cons, List.length_append, List.length_cons, Nat.mul_add]
      omega
  have h1 := key (l.take i.toNat) (fun x hx => hk x (List.mem_of_mem_take hx))
  have h2 : k * (l.take i.toNat).length ≤ k * l.length := Nat.mul_le_mul_left _ (by rw [List.length_take]; omega)
  rw [g2, List.length_append]
  omega
def MapI (f : α → β) (l : List α) (i : Int) (s : List β) : Prop := 0 ≤ i ∧ i ≤ l.length ∧ s = (l.take i.toNat).map f
theorem MapI.start {f : α → β} {l : List α} : MapI f l 0 [] := ⟨by omega, by omega, by simp⟩
theorem MapI.next [Inhabited α] {f : α → β} {l : List α} {i : Int} {s s' : List β} (h : MapI f l i s) (hh : i < l.length) (hl : (l.length : Int) ≤ 9223372036854775807) (hs : s' = s ++ [f (ix l i)]) :
    MapI f l (IntKind.i64.wrap (i + 1)) s' ∧ (l.length - IntKind.i64.wrap (i + 1)).toNat < (l.length - i).toNat := by
  obtain ⟨g0, g1, g2⟩ := h
  rw [inc i l.length g0 hh hl]
  refine ⟨⟨by omega, by omega, ?_⟩, by omega⟩
  rw [k9b l i g0 hh, List.map_append, hs, g2]
  simp
theorem MapI.done {f : α → β} {l : List α} {i : Int} {s : List β} (h : MapI f l i s) (hh : ¬ i < l.length) : s = l.map f := by
  obtain ⟨g0, g1, g2⟩ := h
  rwa [List.take_of_length_le (by omega)] at g2
theorem MapI.len {f : α → β} {l : List α} {i : Int} {s : List β} (h : MapI f l i s) : s.length = i.toNat := by
  obtain ⟨g0, g1, g2⟩ := h
  rw [g2, List.length_map, List.length_take]; omega
def EqI [Inhabited α] (f : α → α → Bool) (l m : List α) (i : Int) : Prop := 0 ≤ i ∧ i ≤ l.length ∧ ∀ j : Nat, (j : Int) < i → f (ix l j) (ix m j) = true
theorem EqI.start [Inhabited α] {f : α → α → Bool} {l m : List α} : EqI f l m 0 := ⟨by omega, by omega, fun j hj => by omega⟩
theorem EqI.next [Inhabited α] {f : α → α → Bool} {l m : List α} {i : Int} (h : EqI f l m i) (hh : i < l.length) (hl : (l.length : Int) ≤ 9223372036854775807) (hf : f (ix l i) (ix m i) = true) :
    EqI f l m (IntKind.i64.wrap (i + 1)) ∧ (l.length - IntKind.i64.wrap (i + 1)).toNat < (l.length - i).toNat := by
  obtain ⟨g0, g1, g2⟩ := h
  rw [inc i l.length g0 hh hl]
  refine ⟨⟨by omega, by omega, fun j hj => ?_⟩, by omega⟩
  by_cases hji : (j : Int) = i
  · rw [hji]; exact hf
  · exact g2 j (by omega)
def eqB (f : α → α → Bool) : List α → List α → Bool
  | [], [] => true
  | a :: l, b :: m => f a b && eqB f l m
  | _, _ => false
theorem eqB_iff [Inhabited α] {f : α → α → Bool} : ∀ {l m : List α}, eqB f l m = true ↔ l.length = m.length ∧ ∀ j : Nat, j < l.length → f (ix l (j : Int)) (ix m (j : Int)) = true
  | [], [] => by simp [eqB]
  | [], _ :: _ => by simp [eqB]
  | _ :: _, [] => by simp [eqB]
  | a :: l, b :: m => by
    have e : ∀ (a : α) (l : List α) (j : Nat), j < l.length → ix (a :: l) ((j + 1 : Nat) : Int) = ix l (j : Int) := by
      intro a l j hj
      rw [ix_nat _ _ (by omega) (by simp; omega), ix_nat _ _ (by omega) (by omega)]
      rfl
    have e0 : ∀ (a : α) (l : List α), ix (a :: l) ((0 : Nat) : Int) = a := fun a l => by rw [ix_nat _ _ (by omega) (by simp)]; rfl
    simp only [eqB, Bool.and_eq_true, eqB_iff, List.length_cons]
    constructor
    · rintro ⟨h1, h2, h3⟩
      refine ⟨by omega, fun j hj => ?_⟩
      cases j with
      | zero => rw [e0, e0]; exact h1
      | succ j => rw [e a l j (by omega), e b m j (by omega)]; exact h3 j (by omega)
    · rintro ⟨h1, h2⟩
      have h3 := h2 0 (by omega)
      rw [e0, e0] at h3
      refine ⟨h3, by omega, fun j hj => ?_⟩
      have := h2 (j + 1) (by omega)
      rwa [e a l j (by omega), e b m j (by omega)] at this
theorem EqI.bad [Inhabited α] {f : α → α → Bool} {l m : List α} {i : Int} (h : EqI f l m i) (hh : i < l.length) (hf : f (ix l i) (ix m i) = false) : eqB f l m = false := by
  cases hq : eqB f l m with
  | false => rfl
  | true =>
    have h0 := h.1
    have := (eqB_iff.1 hq).2 i.toNat (by omega)
    rw [Int.toNat_of_nonneg h.1, hf] at this
    cases this
theorem EqI.done [Inhabited α] {f : α → α → Bool} {l m : List α} {i : Int} (h : EqI f l m i) (hlm : l.length = m.length) (hh : ¬ i < l.length) : eqB f l m = true :=
  eqB_iff.2 ⟨hlm, fun j hj => h.2.2 j (by omega)⟩
end
theorem k160 {α : Type} {p : α → Bool} : ∀ {l : List α}, mIdx p l = none ↔ ∀ x ∈ l, p x = false
  | [] => by simp [mIdx]
  | x :: l => by
    cases hp : p x with
    | true => simp [mIdx, hp]
    | false => simp only [mIdx, hp, cond_false, Option.map_eq_none_iff, k160, List.mem_cons, forall_eq_or_imp, true_and]
theorem kz0 {α : Type} {p : α → Bool} : ∀ {l : List α} {j : Nat}, mIdx p l = some j → ∃ x, l[j]? = some x ∧ p x = true
  | [], _, h => by cases h
  | x :: l, j, h => by
    cases hp : p x with
    | true => simp only [mIdx, hp, cond_true, Option.some.injEq] at h; subst h; exact ⟨x, rfl, hp⟩
    | false =>
      simp only [mIdx, hp, cond_false, Option.map_eq_some_iff] at h
      obtain ⟨i, h1, rfl⟩ := h
      obtain ⟨y, h2, h3⟩ := kz0 h1
      exact ⟨y, by simpa using h2, h3⟩
@[simp] theorem k1e6 {α : Type} (p : α → Bool) : mHas p [] = false := rfl
@[simp] theorem k1e7 {α β : Type} (p : α → Bool) (z : β) (vs : List β) : mVal p [] vs z = z := rfl
theorem k1d4 {α β : Type} {p : α → Bool} {ks : List α} {vs : List β} {z : β} (h : mHas p ks = true) (hl : ks.length = vs.length) : mVal p ks vs z ∈ vs := by
  unfold mHas at h
  unfold mVal
  cases hm : mIdx p ks with
  | none => rw [hm] at h; cases h
  | some j =>
    obtain ⟨x, h1, h2⟩ := kz0 hm
    have hj : j < vs.length := by have := (List.getElem?_eq_some_iff.1 h1).1; omega
    simp only [List.getElem?_eq_getElem hj, Option.getD_some]
    exact List.getElem_mem hj
end Go.Md
namespace Go.Proofs.Ytponaobpcdkggaa
open Go Go.Bv Go.Cv Go.Md Go.RowKit
def rc (r i : Int) : Int := (3 * r + i + 1) * 11400714819323198485 % 18446744073709551616 % 18446744069414584321
def mixS (s : TA3) : TA3 := ⟨(s.a0 + ((s.a0 + s.a1) % 18446744069414584321 + s.a2) % 18446744069414584321) % 18446744069414584321, (s.a1 + ((s.a0 + s.a1) % 18446744069414584321 + s.a2) % 18446744069414584321) % 18446744069414584321, (s.a2 + ((s.a0 + s.a1) % 18446744069414584321 + s.a2) % 18446744069414584321) % 18446744069414584321⟩
def pw (a e : Int) : Int := a ^ e.toNat % 18446744069414584321
def rnd (s : TA3) (r : Int) : TA3 := mixS ⟨pw ((s.a0 + rc r 0) % 18446744069414584321) 7, pw ((s.a1 + rc r 1) % 18446744069414584321) 7, pw ((s.a2 + rc r 2) % 18446744069414584321) 7⟩
def rnds : Nat → TA3 → TA3
  | 0, s => s
  | n + 1, s => rnd (rnds n s) n
def permS (s : TA3) : TA3 := rnds 8 s
def absL : List Int → TA3 → TA3
  | [], s => s
  | [x], s => permS ⟨(s.a0 + x) % 18446744069414584321, s.a1, s.a2⟩
  | x :: y :: r, s => absL r (permS ⟨(s.a0 + x) % 18446744069414584321, (s.a1 + y) % 18446744069414584321, s.a2⟩)
def absI (label : Int) (l : List Int) : TA3 := ⟨0, 0, (label * 65536 % 18446744069414584321 + (l.length : Int)) % 18446744069414584321⟩
def absS (label : Int) (l : List Int) : TA3 := if l = [] then permS (absI label l) else absL l (absI label l)
def hashS (label : Int) (l : List Int) : Int := (absS label l).a0
def S3 (s : TA3) : Prop := U64 s.a0 ∧ U64 s.a1 ∧ U64 s.a2
theorem S3m {a b c : Int} (ha : U64 a) (hb : U64 b) (hc : U64 c) : S3 ⟨a, b, c⟩ := ⟨ha, hb, hc⟩
theorem kg8 (s : TA3) : S3 (permS s) := by
  show S3 (rnd _ _)
  unfold rnd mixS S3
  dsimp only
  omega
theorem k13l : ∀ (l : List Int) (s : TA3), S3 s → S3 (absL l s)
  | [], _, h => h
  | [_], _, _ => kg8 _
  | _ :: _ :: r, _, _ => k13l r _ (kg8 _)
theorem k15g (label : Int) (l : List Int) : U64 (hashS label l) := by
  unfold hashS absS
  split
  · exact (kg8 _).1
  · rename_i h
    match l, h with
    | [_], _ => exact (kg8 _).1
    | _ :: _ :: r, _ => exact (k13l r _ (kg8 _)).1
theorem k114 (s : TA3) : (permS s).a0 < 18446744069414584321 := by
  show (rnd _ _).a0 < _
  unfold rnd mixS
  dsimp only
  omega
theorem absL_lt : ∀ (l : List Int) (s : TA3), l ≠ [] → (absL l s).a0 < 18446744069414584321
  | [], _, h => (h rfl).elim
  | [_], _, _ => k114 _
  | [_, _], _, _ => k114 _
  | _ :: _ :: x :: r, s, _ => absL_lt (x :: r) _ (by simp)
theorem k17p (label : Int) (l : List Int) : hashS label l < 18446744069414584321 := by
  unfold hashS absS
  split
  · exact k114 _
  · rename_i h; exact absL_lt _ _ h
end Go.Proofs.Ytponaobpcdkggaa
namespace Go.Proofs.Ytponaobpcdkggaa
open Go Go.Bv Go.Cv Go.Md Go.RowKit
structure RD where
  n : Int
  ok : Bool
  pos : Int
  fail : Bool
structure RL where
  l : List Int
  pos : Int
  fail : Bool
structure RdOk (b : List Int) (pos : Int) : Prop where
  by_ : By b
  len : b.length ≤ 137438953472
  pos0 : 0 ≤ pos
  pos1 : pos ≤ b.length
def rdD (b : List Int) (pos : Int) (f : Bool) (size : Int) : RD :=
  if f = true ∨ (b.length : Int) - pos < size then ⟨0, false, pos, true⟩ else ⟨val ((b.drop pos.toNat).take size.toNat), true, pos + size, false⟩
def rdI (b : List Int) (pos : Int) (f : Bool) (m : Int) : RD :=
  if (rdD b pos f 4).ok = false ∨ m < (rdD b pos f 4).n then ⟨0, false, (rdD b pos f 4).pos, true⟩ else rdD b pos f 4
def rdB (b : List Int) (pos : Int) (f : Bool) (m : Int) : RL :=
  if (rdI b pos f m).fail = true ∨ (b.length : Int) - (rdI b pos f m).pos < (rdI b pos f m).n then ⟨[], (rdI b pos f m).pos, true⟩ else ⟨(b.take ((rdI b pos f m).pos + (rdI b pos f m).n).toNat).drop (rdI b pos f m).pos.toNat, (rdI b pos f m).pos + (rdI b pos f m).n, false⟩
end Go.Proofs.Ytponaobpcdkggaa
namespace Go.Proofs.Ytponaobpcdkggaa
open Go Go.Bv Go.Cv Go.Md Go.RowKit
def nums : Nat → List Int → List Int
  | 0, _ => []
  | k + 1, b => val (b.take 8) :: nums k (b.drop 8)
@[simp] theorem k1a6 : ∀ (k : Nat) (b : List Int), (nums k b).length = k
  | 0, _ => rfl
  | k + 1, b => by simp [nums, k1a6 k]
section
variable {b : List Int} {pos m p : Int} {f : Bool}
end
end Go.Proofs.Ytponaobpcdkggaa
namespace Go.Proofs.Ytponaobpcdkggaa
open Go Go.Bv Go.Cv Go.Md Go.RowKit
def allB (l : List Int) : Bool := l.all (fun x => decide (x < 18446744069414584321))
def keyB (ns l : List Int) : ByteArray := strOfNums (ns.flatMap (dig 8) ++ l.flatMap (dig 8))
structure OrOk (ks : List ByteArray) (vs : List Int) (qs : List TQuestion) : Prop where
  len : ks.length = vs.length
  rng : ∀ v ∈ vs, 0 ≤ v ∧ v < qs.length
end Go.Proofs.Ytponaobpcdkggaa
namespace Go.Proofs.Ytponaobpcdkggaa
open Go Go.Bv Go.Cv Go.Md Go.RowKit
structure OS where
  a : Bool
  b : Int
  c : Int
  q : List TQuestion
  k : List ByteArray
  v : List Int
  s : List ByteArray
  t : List (List Int)
  x : List ByteArray
  y : List Bool
structure HR where
  n : Int
  o : OS
theorem OS_eta (o : OS) : OS.mk o.a o.b o.c o.q o.k o.v o.s o.t o.x o.y = o := rfl
def mixN (v1 : Int) : Int :=
  let v2 : Int := IntKind.u64.wrap ((ixor .u64 v1 (ishr .u64 v1 30)) * 13787848793156543929)
  let v3 : Int := IntKind.u64.wrap ((ixor .u64 v2 (ishr .u64 v2 27)) * 10723151780598845931)
  Int.tmod (ixor .u64 v3 (ishr .u64 v3 31)) 18446744069414584321
def drO (o : OS) : HR := if o.a = true then ⟨mixN (IntKind.u64.wrap (o.b + 11400714819323198485)), ⟨o.a, IntKind.u64.wrap (o.b + 11400714819323198485), IntKind.i64.wrap (o.c + 1), o.q, o.k, o.v, o.s, o.t, o.x, o.y⟩⟩ else ⟨0, o⟩
def recO (o : OS) (key : ByteArray) (label : Int) (l : List Int) (n : Int) : OS := ⟨o.a, o.b, o.c, o.q ++ [⟨label, l, n⟩], mPutK (BEq.beq key) o.k key, mPutV (BEq.beq key) o.k o.v (o.q.length : Int), o.s, o.t, o.x, o.y⟩
def ansO (o : OS) (label : Int) (l : List Int) : HR := if o.a = true then drO o else ⟨hashS label l, o⟩
def hO (o : OS) (label : Int) (l : List Int) : HR :=
  if allB l = true then (if mHas (BEq.beq (keyB [label] l)) o.k = true then ⟨(ix o.q (mVal (BEq.beq (keyB [label] l)) o.k o.v 0)).Answer, o⟩
    else ⟨(ansO o label l).n, recO (ansO o label l).o (keyB [label] l) label l (ansO o label l).n⟩) else ⟨0, o⟩
structure OOk (o : OS) : Prop where
  or : OrOk o.k o.v o.q
  q : o.q.length ≤ 1000000
  n : ∀ x ∈ o.q, 0 ≤ x.Answer ∧ x.Answer < 18446744069414584321
  e : ∀ x ∈ o.q, x.Elems.length ≤ 1000000000
structure CR where
  n : Int
  t : TTranscript
  o : OS
def chO (o : OS) (t : TTranscript) (p : Int) : CR := if p = 0 then ⟨0, t, o⟩ else ⟨Int.tmod (hO o 19 [t.State, t.Count]).n p, ⟨t.State, IntKind.u64.wrap (t.Count + 1)⟩, (hO o 19 [t.State, t.Count]).o⟩
structure AR where
  t : TTranscript
  o : OS
def zO (ideal : Bool) (seed : Int) : OS := ⟨ideal, seed, 0, [], [], [], [], [], [], []⟩
theorem ansO_q (o : OS) (label : Int) (l : List Int) : (ansO o label l).o.q = o.q ∧ (ansO o label l).o.k = o.k ∧ (ansO o label l).o.v = o.v ∧ (ansO o label l).o.a = o.a := by
  unfold ansO drO
  split
  · exact ⟨rfl, rfl, rfl, rfl⟩
  · exact ⟨rfl, rfl, rfl, rfl⟩
theorem k18w {α : Type} {p : α → Bool} {ks : List α} {k : α} (h : mHas p ks = false) : mPutK p ks k = ks ++ [k] := by
  unfold mPutK
  unfold mHas at h
  cases hi : mIdx p ks with
  | none => rfl
  | some j => rw [hi] at h; cases h
theorem k17n {α β : Type} {p : α → Bool} {ks : List α} {vs : List β} {v : β} (h : mHas p ks = false) : mPutV p ks vs v = vs ++ [v] := by
  unfold mPutV
  unfold mHas at h
  cases hi : mIdx p ks with
  | none => rfl
  | some j => rw [hi] at h; cases h
theorem k1cu (a b : Int) : U64 (ixor .u64 a b) := by
  unfold ixor
  rw [IntKind.wrap_u64]
  omega
theorem mixN_lt (x : Int) : 0 ≤ mixN x ∧ mixN x < 18446744069414584321 := by
  unfold mixN
  dsimp only
  generalize hv : ixor .u64 _ _ = v
  have : U64 v := by rw [← hv]; exact k1cu _ _
  rw [tmod_nn v _ this.1]
  omega
theorem ansO_n (o : OS) (label : Int) (l : List Int) : 0 ≤ (ansO o label l).n ∧ (ansO o label l).n < 18446744069414584321 := by
  unfold ansO drO
  split
  · exact mixN_lt _
  · exact ⟨(k15g _ _).1, k17p _ _⟩
theorem k17u {o : OS} (h : OOk o) {p : ByteArray → Bool} (hm : mHas p o.k = true) : 0 ≤ mVal p o.k o.v 0 ∧ mVal p o.k o.v 0 < o.q.length := h.or.rng _ (k1d4 hm h.or.len)
theorem OOk.lt {o : OS} (h : OOk o) (label : Int) (l : List Int) : 0 ≤ (hO o label l).n ∧ (hO o label l).n < 18446744069414584321 := by
  unfold hO
  split
  · split
    · rename_i hm
      have := k17u h hm
      exact h.n _ (ix_mem _ _ this.1 this.2)
    · exact ansO_n _ _ _
  · exact ⟨Int.le_refl 0, show (0 : Int) < 18446744069414584321 by decide⟩
theorem OOk.h {o : OS} (h : OOk o) (label : Int) {l : List Int} (hl : l.length ≤ 1000000000) (hq : o.q.length ≤ 999999) : OOk (hO o label l).o ∧ o.q.length ≤ (hO o label l).o.q.length ∧ (hO o label l).o.q.length ≤ o.q.length + 1 := by
  obtain ⟨e1, e2, e3, _⟩ := ansO_q o label l
  unfold hO
  split
  · split
    · exact ⟨h, Nat.le_refl _, Nat.le_succ _⟩
    · rename_i hn
      have hn : mHas (BEq.beq (keyB [label] l)) o.k = false := by simpa using hn
      simp only [recO, e1, e2, e3, k18w hn, k17n hn]
      refine ⟨⟨⟨by simp [h.or.len], fun v hv => ?_⟩, by simp; omega, fun x hx => ?_, fun x hx => ?_⟩, by simp, by simp⟩
      · rcases List.mem_append.1 hv with hv | hv
        · have := h.or.rng v hv
          simp
          omega
        · rw [List.mem_singleton.1 hv]
          simp
          omega
      · rcases List.mem_append.1 hx with hx | hx
        · exact h.n x hx
        · rw [List.mem_singleton.1 hx]
          exact ansO_n _ _ _
      · rcases List.mem_append.1 hx with hx | hx
        · exact h.e x hx
        · rw [List.mem_singleton.1 hx]
          exact hl
  · exact ⟨h, Nat.le_refl _, Nat.le_succ _⟩
theorem OOk.z (ideal : Bool) (seed : Int) : OOk (zO ideal seed) := ⟨⟨rfl, fun v hv => by cases hv⟩, Nat.zero_le _, (fun x hx => by cases hx), (fun x hx => by cases hx)⟩
structure MR (m : TMessage) : Prop where
  t : U64 m.Tag
  l : Us m.L
  n : m.L.length ≤ 99999990
def SetI {α : Type} (f : Nat → α) (n : Nat) (i : Int) (g : List α) : Prop := 0 ≤ i ∧ i ≤ n ∧ g.length = n ∧ ∀ j : Nat, (j : Int) < i → g[j]? = some (f j)
theorem SetI.start {α : Type} {f : Nat → α} {n : Nat} {g : List α} (h : g.length = n) : SetI f n 0 g := ⟨by omega, by omega, h, fun j hj => by omega⟩
theorem SetI.next {α : Type} {f : Nat → α} {n : Nat} {i : Int} {g : List α} {x : α} (h : SetI f n i g) (hh : i < n) (hn : (n : Int) ≤ 9223372036854775807) (hx : x = f i.toNat) : SetI f n (IntKind.i64.wrap (i + 1)) (g.set i.toNat x) ∧ (n - IntKind.i64.wrap (i + 1)).toNat < (n - i).toNat := by
  obtain ⟨g0, g1, g2, g3⟩ := h
  rw [inc i n g0 hh hn]
  refine ⟨⟨by omega, by omega, by rw [List.length_set]; exact g2, fun j hj => ?_⟩, by omega⟩
  rw [List.getElem?_set]
  by_cases e : i.toNat = j
  · rw [if_pos e, if_pos (by omega), hx, e]
  · rw [if_neg e]
    exact g3 j (by omega)
theorem SetI.done {α : Type} {f : Nat → α} {n : Nat} {i : Int} {g : List α} (h : SetI f n i g) (hh : ¬ i < n) : g = (List.range n).map f := by
  obtain ⟨g0, g1, g2, g3⟩ := h
  refine List.ext_getElem? fun j => ?_
  rw [List.getElem?_map]
  by_cases hj : j < n
  · rw [g3 j (by omega), List.getElem?_range hj]; rfl
  · rw [List.getElem?_eq_none (by omega), List.getElem?_eq_none (by simp; omega)]; rfl
def keyQ (x : TQuestion) : ByteArray := keyB [x.Label] x.Elems
structure QOk (x : TQuestion) : Prop where
  l : U64 x.Label
  e : Us x.Elems
  b : allB x.Elems = true
structure RO (o : OS) : Prop where
  k : o.k = o.q.map keyQ
  v : o.v = (List.range o.q.length).map fun (j : Nat) => (j : Int)
  q : ∀ x ∈ o.q, QOk x
theorem RO.or {o : OS} (h : RO o) : OrOk o.k o.v o.q := ⟨by rw [h.k, h.v]; simp, fun v hv => by
  rw [h.v] at hv
  obtain ⟨j, hj, rfl⟩ := List.mem_map.1 hv
  have := List.mem_range.1 hj
  omega⟩
theorem k16b {l m : List Int} (hl : By l) (hm : By m) (h : strOfNums l = strOfNums m) : l = m := by
  have := strEq hl hm
  rw [h] at this
  simpa using this
theorem flat8_inj' : ∀ (l m : List Int), Us l → Us m → l.flatMap (dig 8) = m.flatMap (dig 8) → l = m
  | [], [], _, _, _ => rfl
  | [], y :: m, _, _, e => by have := congrArg List.length e; rw [List.flatMap_cons, List.length_append, kmv, List.flatMap_nil, List.length_nil] at this; omega
  | x :: l, [], _, _, e => by have := congrArg List.length e; rw [List.flatMap_cons, List.length_append, kmv, List.flatMap_nil, List.length_nil] at this; omega
  | x :: l, y :: m, hl, hm, e => by
    rw [List.flatMap_cons, List.flatMap_cons] at e
    have e1 := List.append_inj e (by simp)
    have d1 := dig_inj (k := 8) (hl x (by simp)) (hm y (by simp)) e1.1
    rw [d1, flat8_inj' l m (fun z hz => hl z (by simp [hz])) (fun z hz => hm z (by simp [hz])) e1.2]
theorem ba_beq (a b : ByteArray) : (a == b) = true ↔ a = b := by
  constructor
  · intro h
    have h : (a.data == b.data) = true := h
    have : a.data = b.data := by simpa using h
    cases a
    cases b
    simp_all
  · rintro rfl
    show (a.data == a.data) = true
    simp
theorem k1du {a b : Int} {l m : List Int} (ha : U64 a) (hb : U64 b) (hl : Us l) (hm : Us m) (h : keyB [a] l = keyB [b] m) : a = b ∧ l = m := by
  unfold keyB at h
  have h := k16b ((kvz _).append (kvz _)) ((kvz _).append (kvz _)) h
  rw [← List.flatMap_append, ← List.flatMap_append] at h
  have := flat8_inj' _ _ (fun x hx => by
    rcases List.mem_append.1 hx with hx | hx
    · rw [List.mem_singleton.1 hx]; exact ha
    · exact hl x hx) (fun x hx => by
    rcases List.mem_append.1 hx with hx | hx
    · rw [List.mem_singleton.1 hx]; exact hb
    · exact hm x hx) h
  simpa using this
theorem k18e {α β : Type} (p : β → Bool) (f : α → β) : ∀ l : List α, mIdx p (l.map f) = mIdx (fun x => p (f x)) l
  | [] => rfl
  | x :: l => by simp only [List.map_cons, mIdx, k18e p f l]
theorem RO.find {o : OS} (h : RO o) {label : Int} {l : List Int} (hu : U64 label) (hl : Us l) :
    (mHas (BEq.beq (keyB [label] l)) o.k = false ∧ ∀ x ∈ o.q, ¬ (x.Label = label ∧ x.Elems = l)) ∨
    (mHas (BEq.beq (keyB [label] l)) o.k = true ∧ ∃ x ∈ o.q, ix o.q (mVal (BEq.beq (keyB [label] l)) o.k o.v 0) = x ∧ x.Label = label ∧ x.Elems = l) := by
  have hp : ∀ x ∈ o.q, (BEq.beq (keyB [label] l) (keyQ x) = true ↔ (x.Label = label ∧ x.Elems = l)) := by
    intro x hx
    have hq := h.q x hx
    constructor
    · intro e
      have e : keyB [label] l = keyQ x := (ba_beq _ _).1 e
      obtain ⟨h1, h2⟩ := k1du hu hq.l hl hq.e e
      exact ⟨h1.symm, h2.symm⟩
    · rintro ⟨rfl, rfl⟩
      exact (ba_beq _ _).2 rfl
  have hm : mIdx (BEq.beq (keyB [label] l)) o.k = mIdx (fun x => BEq.beq (keyB [label] l) (keyQ x)) o.q := by rw [h.k, k18e]
  cases hi : mIdx (fun x => BEq.beq (keyB [label] l) (keyQ x)) o.q with
  | none =>
    refine .inl ⟨by unfold mHas; rw [hm, hi]; rfl, fun x hx hxl => ?_⟩
    have := k160.1 hi x hx
    rw [(hp x hx).2 hxl] at this
    cases this
  | some j =>
    obtain ⟨x, hx, hpx⟩ := kz0 hi
    have hjl : j < o.q.length := (List.getElem?_eq_some_iff.1 hx).1
    have hmem := List.mem_of_getElem? hx
    refine .inr ⟨by unfold mHas; rw [hm, hi]; rfl, x, hmem, ?_, (hp x hmem).1 hpx⟩
    have hv : mVal (BEq.beq (keyB [label] l)) o.k o.v 0 = (j : Int) := by
      unfold mVal
      rw [hm, hi, h.v]
      simp [hjl]
    rw [hv, ix_nat _ _ (by omega) (by omega)]
    simp only [Int.toNat_natCast]
    exact (List.getElem?_eq_some_iff.1 hx).2
def knows (qs : List TQuestion) (label : Int) (l : List Int) : Bool := qs.any fun x => decide (x.Label = label) && decide (x.Elems = l)
theorem k15x {qs : List TQuestion} {label : Int} {l : List Int} : knows qs label l = true ↔ ∃ x ∈ qs, x.Label = label ∧ x.Elems = l := by
  unfold knows
  simp
theorem RO.has {o : OS} (h : RO o) {label : Int} {l : List Int} (hu : U64 label) (hl : Us l) : mHas (BEq.beq (keyB [label] l)) o.k = knows o.q label l := by
  rcases h.find hu hl with ⟨h1, h2⟩ | ⟨h1, x, h2, _, h3⟩
  · rw [h1]
    cases hk : knows o.q label l with
    | false => rfl
    | true => obtain ⟨x, hx, hxl⟩ := k15x.1 hk; exact (h2 x hx hxl).elim
  · rw [h1]; exact (k15x.2 ⟨x, h2, h3⟩).symm
theorem RO.h {o : OS} (h : RO o) {label : Int} {l : List Int} (hu : U64 label) (hl : Us l) : RO (hO o label l).o := by
  obtain ⟨e1, e2, e3, _⟩ := ansO_q o label l
  unfold hO
  split
  · rename_i hb
    split
    · exact h
    · rename_i hn
      have hn : mHas (BEq.beq (keyB [label] l)) o.k = false := by simpa using hn
      refine ⟨?_, ?_, ?_⟩
      · simp only [recO, e1, e2]
        rw [k18w hn, h.k, List.map_append]
        rfl
      · simp only [recO, e1, e2, e3]
        rw [k17n hn, h.v, List.length_append, List.length_singleton, List.range_succ, List.map_append]
        rfl
      · simp only [recO, e1]
        intro x hx
        rcases List.mem_append.1 hx with hx | hx
        · exact h.q x hx
        · rw [List.mem_singleton.1 hx]; exact ⟨hu, hl, hb⟩
  · exact h
structure RR (o : OS) : Prop where
  r : RO o
  a : o.a = false
  n : ∀ x ∈ o.q, x.Answer = hashS x.Label x.Elems
def valH (label : Int) (l : List Int) : Int := if allB l = true then hashS label l else 0
def askQ (qs : List TQuestion) (label : Int) (l : List Int) : List TQuestion := if allB l = true then (if knows qs label l = true then qs else qs ++ [⟨label, l, hashS label l⟩]) else qs
theorem RR.h {o : OS} (h : RR o) {label : Int} {l : List Int} (hu : U64 label) (hl : Us l) : (hO o label l).n = valH label l ∧ (hO o label l).o.q = askQ o.q label l ∧ RR (hO o label l).o := by
  have ha : ansO o label l = ⟨hashS label l, o⟩ := by unfold ansO; rw [h.a]; rfl
  have hr := h.r.h hu hl
  have hh := h.r.has hu hl
  have hf := h.r.find hu hl
  unfold hO valH askQ at *
  rw [ha] at *
  split
  · rename_i hb
    rw [if_pos hb] at hr
    rw [hh] at hr ⊢
    split
    · rename_i hk
      rcases hf with ⟨h1, _⟩ | ⟨_, x, hx, e1, e2, e3⟩
      · rw [hh, hk] at h1; cases h1
      · refine ⟨?_, rfl, h⟩
        simp only [e1]
        rw [h.n x hx, e2, e3]
    · rename_i hk
      rw [if_neg hk] at hr
      refine ⟨rfl, rfl, hr, h.a, fun x hx => ?_⟩
      simp only [recO] at hx
      rcases List.mem_append.1 hx with hx | hx
      · exact h.n x hx
      · rw [List.mem_singleton.1 hx]
  · exact ⟨rfl, rfl, h⟩
theorem RR.z : RR (zO false 0) := ⟨⟨rfl, rfl, fun x hx => by cases hx⟩, rfl, fun x hx => by cases hx⟩
structure RA where
  s : Int
  q : List TQuestion
structure QL (qs : List TQuestion) (n : Nat) : Prop where
  n : qs.length ≤ n
  e : ∀ x ∈ qs, x.Elems.length ≤ 1000000000
theorem QL.ask {qs : List TQuestion} {n : Nat} (h : QL qs n) {label : Int} {l : List Int} (hl : l.length ≤ 1000000000) : QL (askQ qs label l) (n + 1) := by
  have hn := h.n
  unfold askQ
  split
  · split
    · exact ⟨by omega, h.e⟩
    · refine ⟨by simp; omega, fun x hx => ?_⟩
      rcases List.mem_append.1 hx with hx | hx
      · exact h.e x hx
      · rw [List.mem_singleton.1 hx]; exact hl
  · exact ⟨by omega, h.e⟩
theorem us2 {a b : Int} {l : List Int} (ha : U64 a) (hb : U64 b) (hl : Us l) : Us ([a, b] ++ l) := fun x hx => by
  rcases List.mem_append.1 hx with hx | hx
  · rcases List.mem_cons.1 hx with rfl | hx
    · exact ha
    · rw [List.mem_singleton.1 hx]; exact hb
  · exact hl x hx
end Go.Proofs.Ytponaobpcdkggaa
namespace Go.Proofs.Ytponaobpcdkggaa
open Go Go.Bv Go.Cv Go.Md Go.RowKit
def insI (x : Int) : List Int → List Int
  | [] => [x]
  | y :: r => if x ≤ y then x :: y :: r else y :: insI x r
def srt : List Int → List Int
  | [] => []
  | x :: r => insI x (srt r)
theorem ky5 (x : Int) : ∀ l, (insI x l).Perm (x :: l)
  | [] => List.Perm.refl _
  | y :: r => by
    unfold insI
    split
    · exact List.Perm.refl _
    · exact ((ky5 x r).cons y).trans (List.Perm.swap x y r)
theorem k111 : ∀ l, (srt l).Perm l
  | [] => List.Perm.refl _
  | x :: r => (ky5 x (srt r)).trans ((k111 r).cons x)
theorem k108 (x : Int) : ∀ l : List Int, l.Pairwise (· ≤ ·) → (insI x l).Pairwise (· ≤ ·)
  | [], _ => by simp [insI]
  | y :: r, h => by
    unfold insI
    rw [List.pairwise_cons] at h
    split
    · rename_i hxy
      rw [List.pairwise_cons, List.pairwise_cons]
      refine ⟨fun z hz => ?_, h⟩
      rcases List.mem_cons.1 hz with rfl | hz
      · exact hxy
      · exact Int.le_trans hxy (h.1 z hz)
    · rename_i hxy
      rw [List.pairwise_cons]
      refine ⟨fun z hz => ?_, k108 x r h.2⟩
      rcases List.mem_cons.1 ((ky5 x r).mem_iff.1 hz) with rfl | hz
      · omega
      · exact h.1 z hz
theorem k12r : ∀ l, (srt l).Pairwise (· ≤ ·)
  | [] => List.Pairwise.nil
  | x :: r => k108 x _ (k12r r)
theorem kwt : ∀ (l m : List Int), l.Perm m → l.Pairwise (· ≤ ·) → m.Pairwise (· ≤ ·) → l = m
  | [], m, h, _, _ => by rw [h.symm.eq_nil]
  | x :: l, [], h, _, _ => by cases h.eq_nil
  | x :: l, y :: m, h, hl, hm => by
    rw [List.pairwise_cons] at hl hm
    have hx : x ∈ y :: m := h.mem_iff.1 (by simp)
    have hy : y ∈ x :: l := h.mem_iff.2 (by simp)
    have e : x = y := by
      rcases List.mem_cons.1 hx with e | hx
      · exact e
      · rcases List.mem_cons.1 hy with e | hy
        · exact e.symm
        · have := hl.1 y hy
          have := hm.1 x hx
          omega
    subst e
    rw [kwt l m ((List.perm_cons x).1 h) hl.2 hm.2]
theorem srt_eq {l m : List Int} (h : m.Perm l) (hs : m.Pairwise (· ≤ ·)) : m = srt l := kwt _ _ (h.trans (k111 l).symm) hs (k12r l)
theorem k1bb (l : List Int) : (srt l).length = l.length := (k111 l).length_eq
def SortedTo (g : List Int) (i : Nat) : Prop := ∀ a b : Nat, a < b → b < i → g[a]?.getD 0 ≤ g[b]?.getD 0
def SortedBut (g : List Int) (i j : Nat) : Prop := ∀ a b : Nat, a < b → b < i → b ≠ j → g[a]?.getD 0 ≤ g[b]?.getD 0
theorem SortedTo.all {g : List Int} (h : SortedTo g g.length) : g.Pairwise (· ≤ ·) := by
  rw [List.pairwise_iff_getElem]
  intro a b ha hb hab
  have := h a b hab hb
  rwa [List.getElem?_eq_getElem ha, List.getElem?_eq_getElem hb] at this
theorem SortedTo.but {g : List Int} {i : Nat} (h : SortedTo g i) : SortedBut g (i + 1) i := fun a b hab hb hne => h a b hab (by omega)
theorem SortedBut.zero {g : List Int} {i : Nat} (h : SortedBut g i 0) : SortedTo g i := fun a b hab hb => h a b hab hb (by omega)
theorem SortedBut.stop {g : List Int} {i j : Nat} (h : SortedBut g i j) (hj : 0 < j) (hi : j < i) (hle : g[j - 1]?.getD 0 ≤ g[j]?.getD 0) : SortedTo g i := by
  intro a b hab hb
  by_cases e : b = j
  · subst e
    by_cases e2 : a = b - 1
    · rw [e2]; exact hle
    · exact Int.le_trans (h a (b - 1) (by omega) (by omega) (by omega)) hle
  · exact h a b hab hb e
theorem SortedBut.step {g : List Int} {i j : Nat} (h : SortedBut g i j) (hj : 0 < j) (hi : j < i) (hl : i ≤ g.length) (hlt : g[j]?.getD 0 < g[j - 1]?.getD 0) {x y : Int} (hx : x = g[j]?.getD 0) (hy : y = g[j - 1]?.getD 0) : SortedBut ((g.set j y).set (j - 1) x) i (j - 1) := by
  have hg : ∀ k, k < g.length → ((g.set j y).set (j - 1) x)[k]?.getD 0 = if k = j - 1 then x else if k = j then y else g[k]?.getD 0 := by
    intro k hk
    rw [List.getElem?_set, List.getElem?_set, List.length_set]
    by_cases e1 : j - 1 = k
    · rw [if_pos e1, if_pos (by omega), if_pos e1.symm]; rfl
    · rw [if_neg e1, if_neg (Ne.symm e1)]
      by_cases e2 : j = k
      · rw [if_pos e2, if_pos (by omega), if_pos e2.symm]; rfl
      · rw [if_neg e2, if_neg (Ne.symm e2)]
  intro a b hab hb hne
  rw [hg a (by omega), hg b (by omega), if_neg hne]
  by_cases e1 : b = j
  · rw [if_pos e1]
    by_cases e2 : a = j - 1
    · rw [if_pos e2]; omega
    · rw [if_neg e2, if_neg (by omega), hy]
      exact h a (j - 1) (by omega) (by omega) (by omega)
  · rw [if_neg e1]
    by_cases e2 : a = j - 1
    · rw [if_pos e2, hx]
      exact h j b (by omega) hb e1
    · rw [if_neg e2]
      by_cases e3 : a = j
      · rw [if_pos e3, hy]
        exact h (j - 1) b (by omega) hb e1
      · rw [if_neg e3]
        exact h a b hab hb e1
theorem ix_getD (g : List Int) (i : Int) (h0 : 0 ≤ i) (h1 : i < g.length) : ix g i = g[i.toNat]?.getD 0 := by
  rw [ix_nat g i h0 h1, List.getElem?_eq_getElem (by omega)]; rfl
theorem k166 (g : List Int) (i j : Int) (h0 : 0 ≤ i) (h1 : i < g.length) (h2 : 0 ≤ j) (h3 : j < g.length) : ((g.set i.toNat (ix g j)).set j.toNat (ix g i)).Perm g := by
  rw [ix_nat g i h0 h1, ix_nat g j h2 h3]
  exact List.set_set_perm (by omega) (by omega)
end Go.Proofs.Ytponaobpcdkggaa
namespace Go.Proofs.Ytponaobpcdkggaa
open Go Go.Bv Go.Cv Go.Md Go.RowKit
structure PS where
  o : OS
  t : TTranscript
  g : List Int
def swp (g : List Int) (i j : Int) : List Int := (g.set i.toNat (ix g j)).set j.toNat (ix g i)
def posN (n i : Int) (s : PS) : PS := ⟨(chO s.o s.t 18446744069414584321).o, (chO s.o s.t 18446744069414584321).t, swp s.g i (i + (chO s.o s.t 18446744069414584321).n % (n - i))⟩
def posS (n : Int) : Nat → Int → PS → PS
  | 0, _, s => s
  | k + 1, i, s => posS n k (i + 1) (posN n i s)
def rng (n : Nat) : List Int := (List.range n).map fun (j : Nat) => (j : Int)
def posO (o : OS) (t : TTranscript) (n count : Int) : PS := if count < 0 ∨ n < count ∨ 1024 < n then ⟨o, t, []⟩ else
  ⟨(posS n count.toNat 0 ⟨o, t, rng n.toNat⟩).o, (posS n count.toNat 0 ⟨o, t, rng n.toNat⟩).t, srt ((posS n count.toNat 0 ⟨o, t, rng n.toNat⟩).g.take count.toNat)⟩
theorem OOk.ch {o : OS} (h : OOk o) (t : TTranscript) (p : Int) (hq : o.q.length ≤ 999999) : OOk (chO o t p).o ∧ (chO o t p).o.q.length ≤ o.q.length + 1 ∧ (chO o t p).t.State = t.State ∧ (p = 18446744069414584321 → 0 ≤ (chO o t p).n ∧ (chO o t p).n < 18446744069414584321 ∧ U64 (chO o t p).t.Count) := by
  unfold chO
  split
  · exact ⟨h, Nat.le_succ _, rfl, fun e => by omega⟩
  · have h1 := h.h 19 (l := [t.State, t.Count]) (by simp) hq
    have h2 := h.lt 19 [t.State, t.Count]
    refine ⟨h1.1, h1.2.2, rfl, ?_⟩
    rintro rfl
    have e : Int.tmod (hO o 19 [t.State, t.Count]).n 18446744069414584321 = (hO o 19 [t.State, t.Count]).n := by rw [tmod_nn _ _ h2.1]; omega
    refine ⟨by show 0 ≤ Int.tmod _ _; rw [e]; exact h2.1, by show Int.tmod _ _ < _; rw [e]; exact h2.2, ?_⟩
    show U64 (IntKind.u64.wrap (t.Count + 1))
    rw [u64w]
    omega
theorem k1dh (g : List Int) (i j : Int) (h0 : 0 ≤ i) (h1 : i < g.length) (h2 : 0 ≤ j) (h3 : j < g.length) : (swp g i j).Perm g := k166 g i j h0 h1 h2 h3
theorem k1bh (g : List Int) (i j : Int) : (swp g i j).length = g.length := by unfold swp; rw [List.length_set, List.length_set]
theorem posS_ok (n : Int) : ∀ (k : Nat) (i : Int) (s : PS), OOk s.o → 0 ≤ i → i + k ≤ n → (s.g.length : Int) = n → s.o.q.length + k ≤ 999999 → OOk (posS n k i s).o ∧ (posS n k i s).g.Perm s.g ∧ (posS n k i s).t.State = s.t.State ∧ (posS n k i s).o.q.length ≤ s.o.q.length + k
  | 0, _, s, h, _, _, _, _ => ⟨h, List.Perm.refl _, rfl, Nat.le_refl _⟩
  | k + 1, i, s, h, h0, h1, h2, h3 => by
    obtain ⟨e1, e2, e3, e4⟩ := h.ch s.t 18446744069414584321 (by omega)
    obtain ⟨e5, e6, e7⟩ := e4 rfl
    have hj : 0 ≤ (chO s.o s.t 18446744069414584321).n % (n - i) ∧ (chO s.o s.t 18446744069414584321).n % (n - i) < n - i := ⟨Int.emod_nonneg _ (by omega), Int.emod_lt_of_pos _ (by omega)⟩
    have hl : (posN n i s).g.length = s.g.length := k1bh _ _ _
    have hq : (posN n i s).o.q.length ≤ s.o.q.length + 1 := e2
    obtain ⟨q1, q2, q3, q4⟩ := posS_ok n k (i + 1) (posN n i s) e1 (by omega) (by omega) (by omega) (by omega)
    exact ⟨q1, q2.trans (k1dh s.g i _ h0 (by omega) (by omega) (by omega)), q3.trans e3, by show (posS n k (i + 1) (posN n i s)).o.q.length ≤ _; omega⟩
theorem k13s (n : Nat) : (rng n).length = n := by simp [rng]
theorem RR.ch {o : OS} (h : RR o) {t : TTranscript} {p : Int} (h1 : U64 t.State) (h2 : U64 t.Count) (hp : p ≠ 0) :
    (chO o t p).n = Int.tmod (valH 19 [t.State, t.Count]) p ∧ (chO o t p).t = ⟨t.State, (t.Count + 1) % 18446744073709551616⟩ ∧ (chO o t p).o.q = askQ o.q 19 [t.State, t.Count] ∧ RR (chO o t p).o := by
  obtain ⟨e1, e2, e3⟩ := h.h (label := 19) (l := [t.State, t.Count]) (by decide) (us2 (l := []) h1 h2 (fun x hx => by cases hx))
  unfold chO
  rw [if_neg hp]
  exact ⟨by show Int.tmod (hO _ _ _).n p = _; rw [e1], by rw [u64w], e2, e3⟩
theorem k1br (n : Nat) : (rng n).Pairwise (· ≤ ·) := by
  rw [List.pairwise_iff_getElem]
  intro a b ha hb hab
  simp only [rng, List.getElem_map, List.getElem_range]
  omega
theorem k1dz {o : OS} (h : OOk o) (t : TTranscript) {n : Int} (hn : 0 ≤ n ∧ n ≤ 1024) (hq : o.q.length ≤ 900000) : (posO o t n n).g = rng n.toNat := by
  have hl := k13s n.toNat
  obtain ⟨_, h2, _, _⟩ := posS_ok n n.toNat 0 ⟨o, t, rng n.toNat⟩ h (by omega) (by omega) (by show ((rng n.toNat).length : Int) = n; omega) (by show o.q.length + _ ≤ _; omega)
  have h2 : (posS n n.toNat 0 ⟨o, t, rng n.toNat⟩).g.Perm (rng n.toNat) := h2
  have h3 := h2.length_eq
  unfold posO
  rw [if_neg (by omega)]
  show srt (List.take n.toNat _) = _
  rw [List.take_of_length_le (by omega)]
  exact (srt_eq h2.symm (k1br _)).symm
end Go.Proofs.Ytponaobpcdkggaa
namespace Go.Proofs.Ytponaobpcdkggaa
open Go Go.Bv Go.Cv Go.Md Go.RowKit
theorem kfv.u {t : TTranscript} (h : kfv t) : U64 t.State ∧ U64 t.Count := ⟨h.State, h.Count⟩
theorem kp3 {p0 : TTranscript} {p1 : Int} (h0 : kfv p0) (_ : -9223372036854775808 ≤ p1 ∧ p1 < 9223372036854775808) : U64 p0.State ∧ U64 p0.Count := h0.u
end Go.Proofs.Ytponaobpcdkggaa
namespace Go.Proofs.Ytponaobpcdkggaa
open Go Go.Bv Go.Cv Go.Md Go.RowKit
def k4o : Con TB.den := Con.mk0 27 [.one (.d (.sl (.int .i64))), .one (.d (.sl (.int .i64)))] [] (.one (.one (.d (.bool)))) []
abbrev k13g := HL TB.den (hsT k4o.ins (hsOs k4o.pre))
abbrev kcl := HL TB.den (hsV k4o.res (hsOs k4o.post))
noncomputable def k96 : Cx TB := ⟨inf, [], [], 4, []⟩
noncomputable def kfu : Code := Try.f27.body.getD .skip
noncomputable def kkd : List ResultVar := Try.f27.results.toList
noncomputable def k1a5 (o : kcl) : Exit → TSt TB.den → Prop := thenT TB (fun s => ghs TB [] s fun s => WP TB k96 26 0 (cB (cB (cB kfu))) .no s (retTQ TB k96 k4o kkd o)) (retTQ TB k96 k4o kkd o)
def kcq : Tm := ⟨[], [], [0, 1, 12, 13], [.one (.d (.sl (.int .i64))), .one (.d (.sl (.int .i64))), .one (.d (.int .i64)), .one (.d (.int .i64))], 0⟩
noncomputable def k19q (o : kcl) (nx1 : HL TB.den kcq.hs → Prop) : Exit → TSt TB.den → Prop := thenT TB (fun s => kcq.mat TB 0 s nx1) (blockT TB 0 (k1a5 o))
noncomputable def kk2 (o : kcl) (nx1 : HL TB.den kcq.hs → Prop) (i : HL TB.den kcq.hs) : Prop := WP TB k96 26 0 (cA (cA (cB (cA (cB (cB kfu)))))) .no (kcq.fill TB i) (k19q o nx1)
noncomputable def k19w (o : kcl) : An TB := .nd [] .no [] (.lp [] kcq (kk2 o) fun nx1 => .no)
noncomputable def k10k (o : kcl) : An TB := .nd [] .no [] (.nd [] .no [] (.nd [] (k19w o) [] .no))
noncomputable def kq0 (x : k13g) (o : kcl) : Prop := WPh TB k96 26 0 kfu (k10k o) (k4o.st TB x) (retTQ TB k96 k4o kkd o)
set_option maxRecDepth 100000 in
theorem k196 (o : kcl) : OblH TB k96 26 0 kfu (k10k o) (retTQ TB k96 k4o kkd o) :=
  OblH.of_eq (X := (True ∧ ((True ∧ ((True ∧ True) ∧ True)) ∧ ((True ∧ ((∀ nx i, (kk2 o) nx i = (kk2 o) nx i) ∧ ∀ nx1 : HL TB.den kcq.hs → Prop, (True ∧ ((True ∧ True) ∧ ((True ∧ (True ∧ ((True ∧ True) ∧ True))) ∧ True))))) ∧ (True ∧ True))))) (by kernel_rfl) ⟨trivial, ⟨⟨trivial, ⟨⟨trivial, trivial⟩, trivial⟩⟩, ⟨⟨trivial, ⟨fun _ _ => rfl, fun _ => ⟨trivial, ⟨⟨trivial, trivial⟩, ⟨⟨trivial, ⟨trivial, ⟨⟨trivial, trivial⟩, trivial⟩⟩⟩, trivial⟩⟩⟩⟩⟩, ⟨trivial, trivial⟩⟩⟩⟩
set_option maxRecDepth 100000 in
theorem k17z {x : k13g} {o : kcl} (h : kq0 x o) : SoundH Try.prog k4o.f ((k4o.args idf x).map (er TB)) ((k4o.obs idf x).map (erO TB)) (er TB (k4o.val idf o)) ((k4o.ops idf o).map (erO TB)) :=
  Con.soundH (c := k4o) (C := k96) TBok ⟨inf_ok, all_nil, all_nil⟩ mix Try.func27 (show Try.f27.body = some kfu by kernel_rfl) (show Try.f27.ntmps = 26 by kernel_rfl) (show Try.f27.results.toList = kkd by kernel_rfl) rfl h (k196 o)
set_option maxRecDepth 100000 in
theorem k1ad {p0 : List Int} {p1 : List Int} {r0 : Bool} (h :
((((p0.length : Int) != (p1.length : Int)) = true →
 false = r0) ∧
(((p0.length : Int) != (p1.length : Int)) = false →
 Md.Loop (p0, p1, ((p0.length : Int) : Int), (0 : Int), ()) (kk2 (r0, ()))))) : kq0 (p0, p1, ()) (r0, ()) := WPh.of_eq (by kernel_rfl) h
def k10m (r0 : Bool) (k1 : Int → Prop) (s0 : List Int) (s1 : List Int) (s12 : Int) (s13 : Int) : Prop :=
(decide (s13 < s12) = true →
(0 ≤ s13) ∧ s13 < (s0.length : Int) ∧ (0 ≤ s13) ∧ s13 < (s1.length : Int) ∧ (((ix s0 s13) != (ix s1 s13)) = true →
 false = r0) ∧
(((ix s0 s13) != (ix s1 s13)) = false →
 k1 (IntKind.i64.wrap (s13 + 1) : Int))) ∧
(decide (s13 < s12) = false →
 true = r0)
set_option maxRecDepth 100000 in
theorem k18b {r0 : Bool} {s0 : List Int} {s1 : List Int} {s12 : Int} {s13 : Int} (inv : Int → Prop) (μ : Int → Nat) (h0 : inv s13) (hs : ∀ (s13 : Int), inv s13 → k10m r0 (fun s13q => inv s13q ∧ μ s13q < μ s13) s0 s1 s12 s13) : Md.Loop (s0, s1, s12, s13, ()) (kk2 (r0, ())) :=
  ⟨⟨fun s : (List Int) × (List Int) × Int × Int × Unit => (s.1 = s0 ∧ s.2.1 = s1 ∧ s.2.2.1 = s12) ∧ inv s.2.2.2.1, fun s : (List Int) × (List Int) × Int × Int × Unit => μ s.2.2.2.1, ⟨⟨rfl, rfl, rfl⟩, h0⟩, fun (s0p, s1p, s12p, s13p, ()) ⟨⟨eq0, eq1, eq2⟩, hi⟩ => by
    have eq0 : s0p = s0 := eq0; subst s0p; have eq1 : s1p = s1 := eq1; subst s1p; have eq2 : s12p = s12 := eq2; subst s12p; exact mpr_of (by kernel_rfl) ((congrArg (fun k => k10m r0 k s0 s1 s12 s13p) (lpk1 (⟨rfl, rfl, rfl⟩ : s0 = s0 ∧ s1 = s1 ∧ s12 = s12) inv (fun s13q => μ s13q < μ s13p))).mpr (hs s13p hi))⟩⟩
theorem bd27 : Callable Try.prog 27 := ⟨by rw [Try.func27]; kernel_rfl, by rw [Try.func27]; show some _ ≠ some _; decide⟩
theorem k16v (p0 : List Int) (p1 : List Int) (h : p0.length ≤ 9223372036854775807) : kq0 (p0, p1, ()) (((decide (p0 = p1)) : Bool), ()) := by
  refine k1ad ⟨fun e => ?_, fun e => ?_⟩
  · have e : ¬ (p0.length : Int) = p1.length := by simpa using e
    rw [decide_eq_false (by rintro rfl; exact e rfl)]
  · have e : (p0.length : Int) = p1.length := by simpa using e
    refine k18b (fun i => 0 ≤ i ∧ i ≤ p0.length ∧ p0.take i.toNat = p1.take i.toNat) (fun i => (p0.length - i).toNat) ⟨by omega, by omega, by simp⟩ ?_
    rintro i ⟨g0, g1, g2⟩
    refine ⟨fun hh => ?_, fun hh => ?_⟩
    · have hh := of_decide_eq_true hh
      refine ⟨g0, hh, g0, by omega, fun e2 => ?_, fun e2 => ?_⟩
      · have e2 : ¬ ix p0 i = ix p1 i := by simpa using e2
        rw [decide_eq_false (by rintro rfl; exact e2 rfl)]
      · have e2 : ix p0 i = ix p1 i := by simpa using e2
        rw [inc i p0.length g0 hh (by omega)]
        refine ⟨⟨by omega, by omega, ?_⟩, by omega⟩
        rw [k9b p0 i g0 hh, k9b p1 i g0 (by omega), g2, e2]
    · have hh := of_decide_eq_false hh
      rw [List.take_of_length_le (by omega), List.take_of_length_le (by omega)] at g2
      rw [decide_eq_true g2]
noncomputable def kyp : Con TB.den := k4o.fnR (fun x => (fun (p0 : List Int) (p1 : List Int) => p0.length ≤ 9223372036854775807) x.1 x.2.1) fun x => ((fun (p0 : List Int) (p1 : List Int) => ((decide (p0 = p1)) : Bool)) x.1 x.2.1, ())
theorem k1aj : kyp.Ok Try.prog TB := Con.ok_fn k4o bd27 fun x h => k17z (k16v x.1 x.2.1 h)
end Go.Proofs.Ytponaobpcdkggaa
namespace Go.Proofs.Ytponaobpcdkggaa
open Go Go.Bv Go.Cv Go.Md Go.RowKit
theorem bd28 : Callable Try.prog 28 := ⟨by rw [Try.func28]; kernel_rfl, by rw [Try.func28]; show some _ ≠ some _; decide⟩
end Go.Proofs.Ytponaobpcdkggaa
namespace Go.Proofs.Ytponaobpcdkggaa
open Go Go.Bv Go.Cv Go.Md Go.RowKit
theorem bd9 : Callable Try.prog 9 := ⟨by rw [Try.func9]; kernel_rfl, by rw [Try.func9]; show some _ ≠ some _; decide⟩
end Go.Proofs.Ytponaobpcdkggaa
namespace Go.Proofs.Ytponaobpcdkggaa
open Go Go.Bv Go.Cv Go.Md Go.RowKit
def k1y : Con TB.den := Con.mk0 28 [] [] (.one (.one (.ptr 0 0))) [.cells [.d (.bool), .d (.int .u64), .d (.int .i64), .own 1, .mp 2, .mp 3, .mp 4], .tip (.st 1), .map (.str) (.int .i64), .map (.str) (.sl (.int .u64)), .map (.str) (.bool)]
abbrev kmm := HL TB.den (hsT k1y.ins (hsOs k1y.pre))
abbrev kay := HL TB.den (hsV k1y.res (hsOs k1y.post))
noncomputable def k82 : Cx TB := ⟨inf, [], [], 4, []⟩
noncomputable def kc4 : Code := Try.f28.body.getD .skip
noncomputable def keo : List ResultVar := Try.f28.results.toList
noncomputable def klc (o : kay) : An TB := .nd [] .no [] (.nd [] .no [] (.rt [.tokc 3 3 (.st 1)]))
noncomputable def kc2 (x : kmm) (o : kay) : Prop := WPh TB k82 6 0 kc4 (klc o) (k1y.st TB x) (retTQ TB k82 k1y keo o)
set_option maxRecDepth 100000 in
theorem kuf (o : kay) : OblH TB k82 6 0 kc4 (klc o) (retTQ TB k82 k1y keo o) :=
  OblH.of_eq (X := (True ∧ (True ∧ True))) (by kernel_rfl) ⟨trivial, ⟨trivial, trivial⟩⟩
set_option maxRecDepth 100000 in
theorem kub {x : kmm} {o : kay} (h : kc2 x o) : SoundH Try.prog k1y.f ((k1y.args idf x).map (er TB)) ((k1y.obs idf x).map (erO TB)) (er TB (k1y.val idf o)) ((k1y.ops idf o).map (erO TB)) :=
  Con.soundH (c := k1y) (C := k82) TBok ⟨inf_ok, all_nil, all_nil⟩ mix Try.func28 (show Try.f28.body = some kc4 by kernel_rfl) (show Try.f28.ntmps = 6 by kernel_rfl) (show Try.f28.results.toList = keo by kernel_rfl) rfl h (kuf o)
set_option maxRecDepth 100000 in
theorem kup  {d0_0 : Bool} {d0_1 : Int} {d0_2 : Int} {e1 : List TQuestion} {e2k : List ByteArray} {e2v : List Int} {e3k : List ByteArray} {e3v : List (List Int)} {e4k : List ByteArray} {e4v : List Bool} (h :
((([] : List TQuestion) = ([] : List TQuestion)) ∧ false = d0_0 ∧ 0 = d0_1 ∧ 0 = d0_2 ∧ ([] : List TQuestion) = e1 ∧ ([] : List ByteArray) = e2k ∧ ([] : List Int) = e2v ∧ ([] : List ByteArray) = e3k ∧ ([] : List (List Int)) = e3v ∧ ([] : List ByteArray) = e4k ∧ ([] : List Bool) = e4v)) : kc2 (()) (d0_0, d0_1, d0_2, e1, e2k, e2v, e3k, e3v, e4k, e4v, ()) := WPh.of_eq (by kernel_rfl) h
theorem ksy : kc2 (()) ((false : Bool), (0 : Int), (0 : Int), (([] : List TQuestion) : List TQuestion), ([] : List ByteArray), ([] : List Int), ([] : List ByteArray), ([] : List (List Int)), ([] : List ByteArray), ([] : List Bool), ()) := by
  exact kup ⟨rfl, rfl, rfl, rfl, rfl, rfl, rfl, rfl, rfl, rfl, rfl⟩
noncomputable def kjt : Con TB.den := k1y.totR fun x => ((false : Bool), (0 : Int), (0 : Int), (([] : List TQuestion) : List TQuestion), ([] : List ByteArray), ([] : List Int), ([] : List ByteArray), ([] : List (List Int)), ([] : List ByteArray), ([] : List Bool), ())
theorem kv7 : kjt.Ok Try.prog TB := Con.ok_tot k1y bd28 fun x => kub (ksy )
end Go.Proofs.Ytponaobpcdkggaa
namespace Go.Proofs.Ytponaobpcdkggaa
open Go Go.Bv Go.Cv Go.Md Go.RowKit
def k2u : Con TB.den := Con.mk0 9 [] [] (.one (.one (.ptr 0 0))) [.cells [.d (.bool), .d (.int .u64), .d (.int .i64), .own 1, .mp 2, .mp 3, .mp 4], .tip (.st 1), .map (.str) (.int .i64), .map (.str) (.sl (.int .u64)), .map (.str) (.bool)]
abbrev ktj := HL TB.den (hsT k2u.ins (hsOs k2u.pre))
abbrev kgr := HL TB.den (hsV k2u.res (hsOs k2u.post))
noncomputable def kbp : Cx TB := ⟨inf, [kjt], [], 4, []⟩
noncomputable def kgu : Code := Try.f9.body.getD .skip
noncomputable def kkq : List ResultVar := Try.f9.results.toList
noncomputable def ksj (o : kgr) : An TB := .no
noncomputable def kh0 (x : ktj) (o : kgr) : Prop := WPh TB kbp 2 0 kgu (ksj o) (k2u.st TB x) (retTQ TB kbp k2u kkq o)
set_option maxRecDepth 100000 in
theorem kzn (o : kgr) : OblH TB kbp 2 0 kgu (ksj o) (retTQ TB kbp k2u kkq o) :=
  OblH.of_eq (X := (True ∧ (True ∧ True))) (by kernel_rfl) ⟨trivial, ⟨trivial, trivial⟩⟩
set_option maxRecDepth 100000 in
theorem kzj {x : ktj} {o : kgr} (h : kh0 x o) : SoundH Try.prog k2u.f ((k2u.args idf x).map (er TB)) ((k2u.obs idf x).map (erO TB)) (er TB (k2u.val idf o)) ((k2u.ops idf o).map (erO TB)) :=
  Con.soundH (c := k2u) (C := kbp) TBok ⟨inf_ok, (all_cons kv7 all_nil), all_nil⟩ mix Try.func9 (show Try.f9.body = some kgu by kernel_rfl) (show Try.f9.ntmps = 2 by kernel_rfl) (show Try.f9.results.toList = kkq by kernel_rfl) rfl h (kzn o)
set_option maxRecDepth 100000 in
theorem k10w  {d0_0 : Bool} {d0_1 : Int} {d0_2 : Int} {e1 : List TQuestion} {e2k : List ByteArray} {e2v : List Int} {e3k : List ByteArray} {e3v : List (List Int)} {e4k : List ByteArray} {e4v : List Bool} (h :
((([] : List TQuestion) = ([] : List TQuestion)) ∧ false = d0_0 ∧ 0 = d0_1 ∧ 0 = d0_2 ∧ ([] : List TQuestion) = e1 ∧ [] = e2k ∧ [] = e2v ∧ [] = e3k ∧ [] = e3v ∧ [] = e4k ∧ [] = e4v)) : kh0 (()) (d0_0, d0_1, d0_2, e1, e2k, e2v, e3k, e3v, e4k, e4v, ()) := WPh.of_eq (by kernel_rfl) h
theorem kys : kh0 (()) ((false : Bool), (0 : Int), (0 : Int), (([] : List TQuestion) : List TQuestion), ([] : List ByteArray), ([] : List Int), ([] : List ByteArray), ([] : List (List Int)), ([] : List ByteArray), ([] : List Bool), ()) := by
  exact k10w ⟨rfl, rfl, rfl, rfl, rfl, rfl, rfl, rfl, rfl, rfl, rfl⟩
noncomputable def kqh : Con TB.den := k2u.totR fun x => ((false : Bool), (0 : Int), (0 : Int), (([] : List TQuestion) : List TQuestion), ([] : List ByteArray), ([] : List Int), ([] : List ByteArray), ([] : List (List Int)), ([] : List ByteArray), ([] : List Bool), ())
theorem k10y : kqh.Ok Try.prog TB := Con.ok_tot k2u bd9 fun x => kzj (kys )
end Go.Proofs.Ytponaobpcdkggaa
namespace Go.Proofs.Ytponaobpcdkggaa
open Go Go.Bv Go.Cv Go.Md Go.RowKit
def k61 : Con TB.den := Con.mk0 48 [.one (.d (.int .u64))] [] (.one (.agg [.d (.int .u64), .d (.int .u64), .d (.int .u64)])) []
abbrev k15q := HL TB.den (hsT k61.ins (hsOs k61.pre))
abbrev ktf := HL TB.den (hsV k61.res (hsOs k61.post))
noncomputable def kmk : Cx TB := ⟨inf, [], [], 4, []⟩
noncomputable def ks3 : Code := Try.f48.body.getD .skip
noncomputable def kw6 : List ResultVar := Try.f48.results.toList
noncomputable def k13q (o : ktf) : An TB := .no
noncomputable def ksc (x : k15q) (o : ktf) : Prop := WPh TB kmk 26 0 ks3 (k13q o) (k61.st TB x) (retTQ TB kmk k61 kw6 o)
set_option maxRecDepth 100000 in
theorem k1ak (o : ktf) : OblH TB kmk 26 0 ks3 (k13q o) (retTQ TB kmk k61 kw6 o) :=
  OblH.of_eq (X := (True ∧ ((True ∧ (True ∧ ((True ∧ True) ∧ (True ∧ ((True ∧ True) ∧ (True ∧ ((True ∧ True) ∧ (True ∧ ((True ∧ True) ∧ (True ∧ ((True ∧ True) ∧ (True ∧ ((True ∧ True) ∧ (True ∧ ((True ∧ True) ∧ True))))))))))))))) ∧ (True ∧ True)))) (by kernel_rfl) ⟨trivial, ⟨⟨trivial, ⟨trivial, ⟨⟨trivial, trivial⟩, ⟨trivial, ⟨⟨trivial, trivial⟩, ⟨trivial, ⟨⟨trivial, trivial⟩, ⟨trivial, ⟨⟨trivial, trivial⟩, ⟨trivial, ⟨⟨trivial, trivial⟩, ⟨trivial, ⟨⟨trivial, trivial⟩, ⟨trivial, ⟨⟨trivial, trivial⟩, trivial⟩⟩⟩⟩⟩⟩⟩⟩⟩⟩⟩⟩⟩⟩⟩, ⟨trivial, trivial⟩⟩⟩
set_option maxRecDepth 100000 in
theorem k19u {x : k15q} {o : ktf} (h : ksc x o) : SoundH Try.prog k61.f ((k61.args idf x).map (er TB)) ((k61.obs idf x).map (erO TB)) (er TB (k61.val idf o)) ((k61.ops idf o).map (erO TB)) :=
  Con.soundH (c := k61) (C := kmk) TBok ⟨inf_ok, all_nil, all_nil⟩ mix Try.func48 (show Try.f48.body = some ks3 by kernel_rfl) (show Try.f48.ntmps = 26 by kernel_rfl) (show Try.f48.results.toList = kw6 by kernel_rfl) rfl h (k1ak o)
set_option maxRecDepth 100000 in
theorem k1bq {p0 : Int} {r0 : TA3} (h :
(((p0 == 17) = true →
 3 = r0.a0 ∧ 4 = r0.a1 ∧ 3 = r0.a2) ∧
((p0 == 17) = false →
((p0 == 97) = true →
 5 = r0.a0 ∧ 5 = r0.a1 ∧ 5 = r0.a2) ∧
((p0 == 97) = false →
((p0 == 193) = true →
 5 = r0.a0 ∧ 6 = r0.a1 ∧ 5 = r0.a2) ∧
((p0 == 193) = false →
((p0 == 257) = true →
 3 = r0.a0 ∧ 8 = r0.a1 ∧ 3 = r0.a2) ∧
((p0 == 257) = false →
((p0 == 12289) = true →
 11 = r0.a0 ∧ 12 = r0.a1 ∧ 5 = r0.a2) ∧
((p0 == 12289) = false →
((p0 == 65537) = true →
 3 = r0.a0 ∧ 16 = r0.a1 ∧ 3 = r0.a2) ∧
((p0 == 65537) = false →
((p0 == 18446744069414584321) = true →
 7 = r0.a0 ∧ 32 = r0.a1 ∧ 7 = r0.a2) ∧
((p0 == 18446744069414584321) = false →
 0 = r0.a0 ∧ 0 = r0.a1 ∧ 0 = r0.a2))))))))) : ksc (p0, ()) (r0.a0, r0.a1, r0.a2, ()) := WPh.of_eq (by kernel_rfl) h
theorem bd48 : Callable Try.prog 48 := ⟨by rw [Try.func48]; kernel_rfl, by rw [Try.func48]; show some _ ≠ some _; decide⟩
theorem k194 (p0 : Int) (h : p0 = 18446744069414584321) : ksc (p0, ()) ((7 : Int), (32 : Int), (7 : Int), ()) := by
  refine k1bq (r0 := TA3.mk 7 32 7) ?_
  simp [h]
noncomputable def kuh : Con TB.den := k61.fnR (fun x => (fun (p0 : Int) => p0 = 18446744069414584321) x.1) fun x => ((fun (p0 : Int) => (7 : Int)) x.1, (fun (p0 : Int) => (32 : Int)) x.1, (fun (p0 : Int) => (7 : Int)) x.1, ())
theorem k13i : kuh.Ok Try.prog TB := Con.ok_fn k61 bd48 fun x h => k19u (k194 x.1 h)
end Go.Proofs.Ytponaobpcdkggaa
namespace Go.Proofs.Ytponaobpcdkggaa
open Go Go.Bv Go.Cv Go.Md Go.RowKit
def k4w : Con TB.den := Con.mk0 38 [.one (.d (.int .u64))] [] (.one (.one (.d (.bool)))) []
abbrev k10l := HL TB.den (hsT k4w.ins (hsOs k4w.pre))
abbrev kow := HL TB.den (hsV k4w.res (hsOs k4w.post))
noncomputable def khs : Cx TB := ⟨inf, [kuh], [], 4, []⟩
noncomputable def knz : Code := Try.f38.body.getD .skip
noncomputable def krn : List ResultVar := Try.f38.results.toList
noncomputable def kyu (o : kow) : An TB := .no
noncomputable def kof (x : k10l) (o : kow) : Prop := WPh TB khs 7 0 knz (kyu o) (k4w.st TB x) (retTQ TB khs k4w krn o)
set_option maxRecDepth 100000 in
theorem k179 (o : kow) : OblH TB khs 7 0 knz (kyu o) (retTQ TB khs k4w krn o) :=
  OblH.of_eq (X := (True ∧ (True ∧ True))) (by kernel_rfl) ⟨trivial, ⟨trivial, trivial⟩⟩
set_option maxRecDepth 100000 in
theorem k16p {x : k10l} {o : kow} (h : kof x o) : SoundH Try.prog k4w.f ((k4w.args idf x).map (er TB)) ((k4w.obs idf x).map (erO TB)) (er TB (k4w.val idf o)) ((k4w.ops idf o).map (erO TB)) :=
  Con.soundH (c := k4w) (C := khs) TBok ⟨inf_ok, (all_cons k13i all_nil), all_nil⟩ mix Try.func38 (show Try.f38.body = some knz by kernel_rfl) (show Try.f38.ntmps = 7 by kernel_rfl) (show Try.f38.results.toList = krn by kernel_rfl) rfl h (k179 o)
set_option maxRecDepth 100000 in
theorem k19l {p0 : Int} {r0 : Bool} (h :
((p0 = 18446744069414584321) ∧ decide (0 < (7 : Int)) = r0)) : kof (p0, ()) (r0, ()) := WPh.of_eq (by kernel_rfl) h
theorem bd38 : Callable Try.prog 38 := ⟨by rw [Try.func38]; kernel_rfl, by rw [Try.func38]; show some _ ≠ some _; decide⟩
theorem k14n (p0 : Int) (h : p0 = 18446744069414584321) : kof (p0, ()) ((true : Bool), ()) := by
  exact k19l ⟨h, rfl⟩
noncomputable def ka6 : Con TB.den := k4w.fnR (fun x => (fun (p0 : Int) => p0 = 18446744069414584321) x.1) fun x => ((fun (p0 : Int) => (true : Bool)) x.1, ())
theorem ke7 : ka6.Ok Try.prog TB := Con.ok_fn k4w bd38 fun x h => k16p (k14n x.1 h)
end Go.Proofs.Ytponaobpcdkggaa
namespace Go.Proofs.Ytponaobpcdkggaa
open Go Go.Bv Go.Cv Go.Md Go.RowKit
def k62 : Con TB.den := Con.mk0 49 [.one (.d (.int .u64)), .one (.d (.int .u64)), .one (.d (.int .u64))] [] (.one (.one (.d (.int .u64)))) []
abbrev k158 := HL TB.den (hsT k62.ins (hsOs k62.pre))
abbrev kt9 := HL TB.den (hsV k62.res (hsOs k62.post))
noncomputable def kme : Cx TB := ⟨inf, [ka6], [], 4, []⟩
noncomputable def krf : Code := Try.f49.body.getD .skip
noncomputable def kw9 : List ResultVar := Try.f49.results.toList
noncomputable def k12i (o : kt9) : An TB := .no
noncomputable def krs (x : k158) (o : kt9) : Prop := WPh TB kme 29 0 krf (k12i o) (k62.st TB x) (retTQ TB kme k62 kw9 o)
set_option maxRecDepth 100000 in
theorem k1ao (o : kt9) : OblH TB kme 29 0 krf (k12i o) (retTQ TB kme k62 kw9 o) :=
  OblH.of_eq (X := (True ∧ ((True ∧ ((True ∧ True) ∧ True)) ∧ (True ∧ ((True ∧ ((True ∧ True) ∧ True)) ∧ (True ∧ True)))))) (by kernel_rfl) ⟨trivial, ⟨⟨trivial, ⟨⟨trivial, trivial⟩, trivial⟩⟩, ⟨trivial, ⟨⟨trivial, ⟨⟨trivial, trivial⟩, trivial⟩⟩, ⟨trivial, trivial⟩⟩⟩⟩⟩
set_option maxRecDepth 100000 in
theorem k1aq {x : k158} {o : kt9} (h : krs x o) : SoundH Try.prog k62.f ((k62.args idf x).map (er TB)) ((k62.obs idf x).map (erO TB)) (er TB (k62.val idf o)) ((k62.ops idf o).map (erO TB)) :=
  Con.soundH (c := k62) (C := kme) TBok ⟨inf_ok, (all_cons ke7 all_nil), all_nil⟩ mix Try.func49 (show Try.f49.body = some krf by kernel_rfl) (show Try.f49.ntmps = 29 by kernel_rfl) (show Try.f49.results.toList = kw9 by kernel_rfl) rfl h (k1ao o)
set_option maxRecDepth 100000 in
theorem k1bv {p0 : Int} {p1 : Int} {p2 : Int} {r0 : Int} (h :
((p0 = 18446744069414584321) ∧ ((!true) = true →
 0 = r0) ∧
((!true) = false →
(p0 ≠ 0) ∧ (p0 ≠ 0) ∧ let v1 : Bool := decide ((IntKind.u64.wrap (p0 - (Int.tmod p2 p0))) ≤ (Int.tmod p1 p0))
(v1 = true →
 let v2 : Int := IntKind.u64.wrap ((Int.tmod p1 p0) - (IntKind.u64.wrap (p0 - (Int.tmod p2 p0))))
 v2 = r0) ∧
(v1 = false →
 let v3 : Int := IntKind.u64.wrap ((Int.tmod p1 p0) + (Int.tmod p2 p0))
 v3 = r0)))) : krs (p0, p1, p2, ()) (r0, ()) := WPh.of_eq (by kernel_rfl) h
theorem bd49 : Callable Try.prog 49 := ⟨by rw [Try.func49]; kernel_rfl, by rw [Try.func49]; show some _ ≠ some _; decide⟩
theorem k18v (p0 : Int) (p1 : Int) (p2 : Int) (h : p0 = 18446744069414584321 ∧ U64 p1 ∧ U64 p2) : krs (p0, p1, p2, ()) ((((p1 + p2) % 18446744069414584321) : Int), ()) := by
  obtain ⟨rfl, h1, h2⟩ := h
  refine k1bv ⟨rfl, fun h => by simp at h, fun _ => ?_⟩
  rw [tmod_nn _ _ h1.1, tmod_nn _ _ h2.1]
  simp only [u64w]
  refine ⟨by omega, by omega, fun h => ?_, fun h => ?_⟩
  · have h := of_decide_eq_true h
    omega
  · have h := of_decide_eq_false h
    omega
noncomputable def kjw : Con TB.den := k62.fnR (fun x => (fun (p0 : Int) (p1 : Int) (p2 : Int) => p0 = 18446744069414584321 ∧ U64 p1 ∧ U64 p2) x.1 x.2.1 x.2.2.1) fun x => ((fun (p0 : Int) (p1 : Int) (p2 : Int) => (((p1 + p2) % 18446744069414584321) : Int)) x.1 x.2.1 x.2.2.1, ())
theorem kr7 : kjw.Ok Try.prog TB := Con.ok_fn k62 bd49 fun x h => k1aq (k18v x.1 x.2.1 x.2.2.1 h)
end Go.Proofs.Ytponaobpcdkggaa
namespace Go.Proofs.Ytponaobpcdkggaa
open Go Go.Bv Go.Cv Go.Md Go.RowKit
def k37 : Con TB.den := Con.mk0 65 [.one (.d (.int .u64))] [] (.one (.one (.d (.int .i64)))) []
abbrev kz6 := HL TB.den (hsT k37.ins (hsOs k37.pre))
abbrev k64 := HL TB.den (hsV k37.res (hsOs k37.post))
noncomputable def k66 : Cx TB := ⟨inf, [], [], 4, []⟩
noncomputable def k9z : Code := Try.f65.body.getD .skip
noncomputable def kc8 : List ResultVar := Try.f65.results.toList
def kde : Tm := ⟨[], [], [0, 2], [.one (.d (.int .u64)), .one (.d (.int .i64))], 0⟩
noncomputable def kv1 (o : k64) (i : HL TB.den kde.hs) : Prop := ghs TB [] (kde.fill TB i) fun s => WP TB k66 25 0 (cB (cB (cB (cB k9z)))) .no s (retTQ TB k66 k37 kc8 o)
structure kab (o : k64) (i : HL TB.den kde.hs) : Prop where
  h : kv1 o i
def kip : Tm := ⟨[], [], [0, 2], [.one (.d (.int .u64)), .one (.d (.int .i64))], 0⟩
noncomputable def kuy (o : k64) (i : HL TB.den kip.hs) : Prop := ghs TB [] (kip.fill TB i) fun s => WP TB k66 25 0 (cB (cB (cB k9z))) (.jn kde (kab o) [] .no [] .no) s (retTQ TB k66 k37 kc8 o)
structure kc6 (o : k64) (i : HL TB.den kip.hs) : Prop where
  h : kuy o i
noncomputable def kx3 (o : k64) : An TB := .jn kip (kc6 o) [] .no [] (.jn kde (kab o) [] .no [] .no)
def kie : Tm := ⟨[], [], [0, 2], [.one (.d (.int .u64)), .one (.d (.int .i64))], 0⟩
noncomputable def kv2 (o : k64) (i : HL TB.den kie.hs) : Prop := ghs TB [] (kie.fill TB i) fun s => WP TB k66 25 0 (cB (cB k9z)) (kx3 o) s (retTQ TB k66 k37 kc8 o)
structure kc7 (o : k64) (i : HL TB.den kie.hs) : Prop where
  h : kv2 o i
noncomputable def k173 (o : k64) : An TB := .jn kie (kc7 o) [] .no [] (kx3 o)
noncomputable def kwi (o : k64) : An TB := .nd [] .no [] (k173 o)
noncomputable def kmj (x : kz6) (o : k64) : Prop := WPh TB k66 25 0 k9z (kwi o) (k37.st TB x) (retTQ TB k66 k37 kc8 o)
set_option maxRecDepth 100000 in
theorem k14l (o : k64) : OblH TB k66 25 0 k9z (kwi o) (retTQ TB k66 k37 kc8 o) :=
  OblH.of_eq (X := (True ∧ ((True ∧ ((True ∧ True) ∧ True)) ∧ (∀ i, (kc7 o) i = (kv2 o) i) ∧ ((True ∧ ((True ∧ True) ∧ True)) ∧ (∀ i, (kc6 o) i = (kuy o) i) ∧ ((True ∧ ((True ∧ True) ∧ True)) ∧ (∀ i, (kab o) i = (kv1 o) i) ∧ (True ∧ True)))))) (by kernel_rfl) ⟨trivial, ⟨⟨trivial, ⟨⟨trivial, trivial⟩, trivial⟩⟩, fun _ => propext ⟨fun h => h.1, fun h => ⟨h⟩⟩, ⟨⟨trivial, ⟨⟨trivial, trivial⟩, trivial⟩⟩, fun _ => propext ⟨fun h => h.1, fun h => ⟨h⟩⟩, ⟨⟨trivial, ⟨⟨trivial, trivial⟩, trivial⟩⟩, fun _ => propext ⟨fun h => h.1, fun h => ⟨h⟩⟩, ⟨trivial, trivial⟩⟩⟩⟩⟩
set_option maxRecDepth 100000 in
theorem k14g {x : kz6} {o : k64} (h : kmj x o) : SoundH Try.prog k37.f ((k37.args idf x).map (er TB)) ((k37.obs idf x).map (erO TB)) (er TB (k37.val idf o)) ((k37.ops idf o).map (erO TB)) :=
  Con.soundH (c := k37) (C := k66) TBok ⟨inf_ok, all_nil, all_nil⟩ mix Try.func65 (show Try.f65.body = some k9z by kernel_rfl) (show Try.f65.ntmps = 25 by kernel_rfl) (show Try.f65.results.toList = kc8 by kernel_rfl) rfl h (k14l o)
set_option maxRecDepth 100000 in
theorem k171 {p0 : Int} {r0 : Int} (h :
((decide (4294967296 ≤ p0) = true →
 kc7 (r0, ()) ((ishr .u64 p0 32 : Int), (32 : Int), ())) ∧
(decide (4294967296 ≤ p0) = false →
 kc7 (r0, ()) (p0, (0 : Int), ())))) : kmj (p0, ()) (r0, ()) := WPh.of_eq (by kernel_rfl) h
set_option maxRecDepth 100000 in
theorem k11t {r0 : Int} {s0 : Int} {s2 : Int} (h :
((decide (65536 ≤ s0) = true →
 kc6 (r0, ()) ((ishr .u64 s0 16 : Int), (IntKind.i64.wrap (s2 + 16) : Int), ())) ∧
(decide (65536 ≤ s0) = false →
 kc6 (r0, ()) (s0, s2, ())))) : kc7 (r0, ()) (s0, s2, ()) := ⟨mpr_of (by kernel_rfl) h⟩
set_option maxRecDepth 100000 in
theorem k11e {r0 : Int} {s0 : Int} {s2 : Int} (h :
((decide (256 ≤ s0) = true →
 kab (r0, ()) ((ishr .u64 s0 8 : Int), (IntKind.i64.wrap (s2 + 8) : Int), ())) ∧
(decide (256 ≤ s0) = false →
 kab (r0, ()) (s0, s2, ())))) : kc6 (r0, ()) (s0, s2, ()) := ⟨mpr_of (by kernel_rfl) h⟩
set_option maxRecDepth 100000 in
theorem k116 {r0 : Int} {s0 : Int} {s2 : Int} (h :
((0 ≤ IntKind.u8.wrap s0 ∧ IntKind.u8.wrap s0 < ((⟨#[0, 1, 2, 2, 3, 3, 3, 3, 4, 4, 4, 4, 4, 4, 4, 4, 5, 5, 5, 5, 5, 5, 5, 5, 5, 5, 5, 5, 5, 5, 5, 5, 6, 6, 6, 6, 6, 6, 6, 6, 6, 6, 6, 6, 6, 6, 6, 6, 6, 6, 6, 6, 6, 6, 6, 6, 6, 6, 6, 6, 6, 6, 6, 6, 7, 7, 7, 7, 7, 7, 7, 7, 7, 7, 7, 7, 7, 7, 7, 7, 7, 7, 7, 7, 7, 7, 7, 7, 7, 7, 7, 7, 7, 7, 7, 7, 7, 7, 7, 7, 7, 7, 7, 7, 7, 7, 7, 7, 7, 7, 7, 7, 7, 7, 7, 7, 7, 7, 7, 7, 7, 7, 7, 7, 7, 7, 7, 7, 8, 8, 8, 8, 8, 8, 8, 8, 8, 8, 8, 8, 8, 8, 8, 8, 8, 8, 8, 8, 8, 8, 8, 8, 8, 8, 8, 8, 8, 8, 8, 8, 8, 8, 8, 8, 8, 8, 8, 8, 8, 8, 8, 8, 8, 8, 8, 8, 8, 8, 8, 8, 8, 8, 8, 8, 8, 8, 8, 8, 8, 8, 8, 8, 8, 8, 8, 8, 8, 8, 8, 8, 8, 8, 8, 8, 8, 8, 8, 8, 8, 8, 8, 8, 8, 8, 8, 8, 8, 8, 8, 8, 8, 8, 8, 8, 8, 8, 8, 8, 8, 8, 8, 8, 8, 8, 8, 8, 8, 8, 8, 8, 8, 8, 8, 8, 8, 8, 8, 8, 8, 8, 8, 8, 8, 8, 8, 8]⟩ : ByteArray).size : Int)) ∧ let v1 : Int := byteAt (⟨#[0, 1, 2, 2, 3, 3, 3, 3, 4, 4, 4, 4, 4, 4, 4, 4, 5, 5, 5, 5, 5, 5, 5, 5, 5, 5, 5, 5, 5, 5, 5, 5, 6, 6, 6, 6, 6, 6, 6, 6, 6, 6, 6, 6, 6, 6, 6, 6, 6, 6, 6, 6, 6, 6, 6, 6, 6, 6, 6, 6, 6, 6, 6, 6, 7, 7, 7, 7, 7, 7, 7, 7, 7, 7, 7, 7, 7, 7, 7, 7, 7, 7, 7, 7, 7, 7, 7, 7, 7, 7, 7, 7, 7, 7, 7, 7, 7, 7, 7, 7, 7, 7, 7, 7, 7, 7, 7, 7, 7, 7, 7, 7, 7, 7, 7, 7, 7, 7, 7, 7, 7, 7, 7, 7, 7, 7, 7, 7, 8, 8, 8, 8, 8, 8, 8, 8, 8, 8, 8, 8, 8, 8, 8, 8, 8, 8, 8, 8, 8, 8, 8, 8, 8, 8, 8, 8, 8, 8, 8, 8, 8, 8, 8, 8, 8, 8, 8, 8, 8, 8, 8, 8, 8, 8, 8, 8, 8, 8, 8, 8, 8, 8, 8, 8, 8, 8, 8, 8, 8, 8, 8, 8, 8, 8, 8, 8, 8, 8, 8, 8, 8, 8, 8, 8, 8, 8, 8, 8, 8, 8, 8, 8, 8, 8, 8, 8, 8, 8, 8, 8, 8, 8, 8, 8, 8, 8, 8, 8, 8, 8, 8, 8, 8, 8, 8, 8, 8, 8, 8, 8, 8, 8, 8, 8, 8, 8, 8, 8, 8, 8, 8, 8, 8, 8, 8, 8]⟩ : ByteArray) (IntKind.u8.wrap s0)
 let v2 : Int := IntKind.i64.wrap (s2 + (IntKind.i64.wrap v1))
 v2 = r0)) : kab (r0, ()) (s0, s2, ()) := ⟨mpr_of (by kernel_rfl) h⟩
theorem bd65 : Callable Try.prog 65 := ⟨by rw [Try.func65]; kernel_rfl, by rw [Try.func65]; show some _ ≠ some _; decide⟩
theorem k12n (p0 : Int) (h : U64 p0) : kmj (p0, ()) (((len64 p0) : Int), ()) := by
  have j3 : ∀ s0 s2 : Int, 0 ≤ s0 → s0 < 256 → 0 ≤ s2 → s2 ≤ 56 → kab (s2 + len64 s0, ()) (s0, s2, ()) := fun s0 s2 h0 h1 h2 h3 => by
    refine k116 ?_
    have e : IntKind.u8.wrap s0 = s0 := by rw [u8w]; omega
    have l := k1ai s0 ⟨h0, h1⟩
    show (0 ≤ IntKind.u8.wrap s0 ∧ IntKind.u8.wrap s0 < (tab8.size : Int)) ∧ IntKind.i64.wrap (s2 + IntKind.i64.wrap (byteAt tab8 (IntKind.u8.wrap s0))) = _
    rw [e, k1cj, k19k s0 ⟨h0, h1⟩, wi (len64 s0) (by omega) (by omega), wi (s2 + len64 s0) (by omega) (by omega)]
    exact ⟨⟨h0, h1⟩, rfl⟩
  have j2 : ∀ s0 s2 : Int, 0 ≤ s0 → s0 < 65536 → 0 ≤ s2 → s2 ≤ 48 → kc6 (s2 + len64 s0, ()) (s0, s2, ()) := fun s0 s2 h0 h1 h2 h3 => by
    refine k11e ⟨fun h => ?_, fun h => j3 s0 s2 h0 (by simpa using h) h2 (by omega)⟩
    have h := of_decide_eq_true h
    rw [ishr8, wi _ (by omega) (by omega), ← ku5 s0 8 (by simpa using h), ← Int.add_assoc, Int.add_right_comm]
    exact j3 _ _ (by omega) (by omega) (by omega) (by omega)
  have j1 : ∀ s0 s2 : Int, 0 ≤ s0 → s0 < 4294967296 → 0 ≤ s2 → s2 ≤ 32 → kc7 (s2 + len64 s0, ()) (s0, s2, ()) := fun s0 s2 h0 h1 h2 h3 => by
    refine k11t ⟨fun h => ?_, fun h => j2 s0 s2 h0 (by simpa using h) h2 (by omega)⟩
    have h := of_decide_eq_true h
    rw [ishr16, wi _ (by omega) (by omega), ← ku5 s0 16 (by simpa using h), ← Int.add_assoc, Int.add_right_comm]
    exact j2 _ _ (by omega) (by omega) (by omega) (by omega)
  refine k171 ⟨fun h1 => ?_, fun h1 => ?_⟩
  · have h1 := of_decide_eq_true h1
    rw [ishr32, ← ku5 p0 32 (by simpa using h1), Int.add_comm]
    exact j1 _ _ (by omega) (by omega) (by omega) (by omega)
  · have := j1 p0 0 h.1 (by simpa using h1) (by omega) (by omega)
    rwa [Int.zero_add] at this
noncomputable def kob : Con TB.den := k37.fnR (fun x => (fun (p0 : Int) => U64 p0) x.1) fun x => ((fun (p0 : Int) => ((len64 p0) : Int)) x.1, ())
theorem kwc : kob.Ok Try.prog TB := Con.ok_fn k37 bd65 fun x h => k14g (k12n x.1 h)
end Go.Proofs.Ytponaobpcdkggaa
namespace Go.Proofs.Ytponaobpcdkggaa
open Go Go.Bv Go.Cv Go.Md Go.RowKit
def k1u : Con TB.den := Con.mk0 85 [.one (.d (.int .u64))] [] (.one (.one (.d (.int .i64)))) []
abbrev kld := HL TB.den (hsT k1u.ins (hsOs k1u.pre))
abbrev k9y := HL TB.den (hsV k1u.res (hsOs k1u.post))
noncomputable def k7n : Cx TB := ⟨inf, [kob], [], 4, []⟩
noncomputable def kbh : Code := Try.f85.body.getD .skip
noncomputable def kcr : List ResultVar := Try.f85.results.toList
noncomputable def kjy (o : k9y) : An TB := .no
noncomputable def kbo (x : kld) (o : k9y) : Prop := WPh TB k7n 6 0 kbh (kjy o) (k1u.st TB x) (retTQ TB k7n k1u kcr o)
set_option maxRecDepth 100000 in
theorem ksp (o : k9y) : OblH TB k7n 6 0 kbh (kjy o) (retTQ TB k7n k1u kcr o) :=
  OblH.of_eq (X := (True ∧ (True ∧ True))) (by kernel_rfl) ⟨trivial, ⟨trivial, trivial⟩⟩
set_option maxRecDepth 100000 in
theorem kst {x : kld} {o : k9y} (h : kbo x o) : SoundH Try.prog k1u.f ((k1u.args idf x).map (er TB)) ((k1u.obs idf x).map (erO TB)) (er TB (k1u.val idf o)) ((k1u.ops idf o).map (erO TB)) :=
  Con.soundH (c := k1u) (C := k7n) TBok ⟨inf_ok, (all_cons kwc all_nil), all_nil⟩ mix Try.func85 (show Try.f85.body = some kbh by kernel_rfl) (show Try.f85.ntmps = 6 by kernel_rfl) (show Try.f85.results.toList = kcr by kernel_rfl) rfl h (ksp o)
set_option maxRecDepth 100000 in
theorem ku6 {p0 : Int} {r0 : Int} (h :
((U64 p0) ∧ IntKind.i64.wrap (64 - (len64 p0)) = r0)) : kbo (p0, ()) (r0, ()) := WPh.of_eq (by kernel_rfl) h
theorem bd85 : Callable Try.prog 85 := ⟨by rw [Try.func85]; kernel_rfl, by rw [Try.func85]; show some _ ≠ some _; decide⟩
theorem ks6 (p0 : Int) (h : 0 < p0 ∧ p0 < 18446744073709551616) : kbo (p0, ()) (((64 - len64 p0) : Int), ()) := by
  obtain ⟨s, e, h1, _⟩ := k12v p0 h
  refine ku6 ⟨⟨by omega, h.2⟩, ?_⟩
  exact wi _ (by omega) (by omega)
noncomputable def kiz : Con TB.den := k1u.fnR (fun x => (fun (p0 : Int) => 0 < p0 ∧ p0 < 18446744073709551616) x.1) fun x => ((fun (p0 : Int) => ((64 - len64 p0) : Int)) x.1, ())
theorem kum : kiz.Ok Try.prog TB := Con.ok_fn k1u bd85 fun x h => kst (ks6 x.1 h)
end Go.Proofs.Ytponaobpcdkggaa
namespace Go.Proofs.Ytponaobpcdkggaa
open Go Go.Bv Go.Cv Go.Md Go.RowKit
def k2t : Con TB.den := Con.mk0 67 [.one (.d (.int .u64)), .one (.d (.int .u64)), .one (.d (.int .u64))] [] (.tup [.one (.d (.int .u64)), .one (.d (.int .u64))]) []
abbrev ky1 := HL TB.den (hsT k2t.ins (hsOs k2t.pre))
abbrev k1z := HL TB.den (hsV k2t.res (hsOs k2t.post))
noncomputable def k4c : Cx TB := ⟨inf, [kiz], [], 4, []⟩
noncomputable def k6b : Code := Try.f67.body.getD .skip
noncomputable def ka1 : List ResultVar := Try.f67.results.toList
def ker : Tm := ⟨[], [], [2, 8, 14, 15, 17, 18], [.one (.d (.int .u64)), .one (.d (.int .u64)), .one (.d (.int .u64)), .one (.d (.int .u64)), .one (.d (.int .u64)), .one (.d (.int .u64))], 0⟩
noncomputable def kvd (o : k1z) (i : HL TB.den ker.hs) : Prop := ghs TB [] (ker.fill TB i) fun s => WP TB k4c 135 0 (cB (cB (cB (cB (cB (cB (cB (cB (cB (cB (cB (cB (cB (cB (cB (cB (cB (cB (cB k6b))))))))))))))))))) .no s (retTQ TB k4c k2t ka1 o)
structure kac (o : k1z) (i : HL TB.den ker.hs) : Prop where
  h : kvd o i
noncomputable def k170 (o : k1z) : Exit → TSt TB.den → Prop := thenT TB (fun s => ker.mat TB 0 s (kac o)) (retTQ TB k4c k2t ka1 o)
def k68 : Tm := ⟨[], [], [2, 8, 9, 10, 14, 15, 16, 17, 18], [.one (.d (.int .u64)), .one (.d (.int .u64)), .one (.d (.int .u64)), .one (.d (.int .u64)), .one (.d (.int .u64)), .one (.d (.int .u64)), .one (.d (.int .u64)), .one (.d (.int .u64)), .one (.d (.int .u64))], 0⟩
noncomputable def kwf (o : k1z) (nx2 : HL TB.den k68.hs → Prop) : Exit → TSt TB.den → Prop := thenT TB (fun s => k68.mat TB 0 s nx2) (blockT TB 2 (k170 o))
def ke1 : Tm := ⟨[], [], [2, 8, 9, 10, 14, 15, 16, 17, 18], [.one (.d (.int .u64)), .one (.d (.int .u64)), .one (.d (.int .u64)), .one (.d (.int .u64)), .one (.d (.int .u64)), .one (.d (.int .u64)), .one (.d (.int .u64)), .one (.d (.int .u64)), .one (.d (.int .u64))], 0⟩
noncomputable def kus (o : k1z) (nx2 : HL TB.den k68.hs → Prop) (i : HL TB.den ke1.hs) : Prop := ghs TB [] (ke1.fill TB i) fun s => WP TB k4c 135 0 (cB (cA (cA (cA (cB (cB (cB (cB (cB (cB (cB (cB (cB (cB (cB (cB (cB (cB (cB (cB (cB (cB k6b)))))))))))))))))))))) .no s (kwf o nx2)
structure kaa (o : k1z) (nx2 : HL TB.den k68.hs → Prop) (i : HL TB.den ke1.hs) : Prop where
  h : kus o nx2 i
noncomputable def kfx (o : k1z) (nx2 : HL TB.den k68.hs → Prop) (i : HL TB.den k68.hs) : Prop := WP TB k4c 135 0 (cA (cA (cA (cB (cB (cB (cB (cB (cB (cB (cB (cB (cB (cB (cB (cB (cB (cB (cB (cB (cB k6b))))))))))))))))))))) (.jn ke1 (kaa o nx2) [] .no [] .no) (k68.fill TB i) (kwf o nx2)
noncomputable def k16o (o : k1z) : An TB := .lp [] k68 (kfx o) fun nx2 => (.jn ke1 (kaa o nx2) [] .no [] .no)
noncomputable def k169 (o : k1z) : An TB := .jn ker (kac o) [] (k16o o) [] .no
noncomputable def kwr (o : k1z) : An TB := .nd [] .no [] (.nd [] .no [] (.nd [] .no [] (k169 o)))
def kdj : Tm := ⟨[], [], [2, 8, 9, 10, 11, 13, 14, 15], [.one (.d (.int .u64)), .one (.d (.int .u64)), .one (.d (.int .u64)), .one (.d (.int .u64)), .one (.d (.int .u64)), .one (.d (.int .u64)), .one (.d (.int .u64)), .one (.d (.int .u64))], 0⟩
noncomputable def kv9 (o : k1z) (i : HL TB.den kdj.hs) : Prop := ghs TB [] (kdj.fill TB i) fun s => WP TB k4c 135 0 (cB (cB (cB (cB (cB (cB (cB (cB (cB (cB (cB (cB (cB (cB (cB k6b))))))))))))))) (kwr o) s (retTQ TB k4c k2t ka1 o)
structure ka2 (o : k1z) (i : HL TB.den kdj.hs) : Prop where
  h : kv9 o i
noncomputable def k16z (o : k1z) : Exit → TSt TB.den → Prop := thenT TB (fun s => kdj.mat TB 0 s (ka2 o)) (retTQ TB k4c k2t ka1 o)
def k69 : Tm := ⟨[], [], [2, 8, 9, 10, 11, 13, 14, 15, 16], [.one (.d (.int .u64)), .one (.d (.int .u64)), .one (.d (.int .u64)), .one (.d (.int .u64)), .one (.d (.int .u64)), .one (.d (.int .u64)), .one (.d (.int .u64)), .one (.d (.int .u64)), .one (.d (.int .u64))], 0⟩
noncomputable def kx5 (o : k1z) (nx1 : HL TB.den k69.hs → Prop) : Exit → TSt TB.den → Prop := thenT TB (fun s => k69.mat TB 0 s nx1) (blockT TB 0 (k16z o))
def kel : Tm := ⟨[], [], [2, 8, 9, 10, 11, 13, 14, 15, 16], [.one (.d (.int .u64)), .one (.d (.int .u64)), .one (.d (.int .u64)), .one (.d (.int .u64)), .one (.d (.int .u64)), .one (.d (.int .u64)), .one (.d (.int .u64)), .one (.d (.int .u64)), .one (.d (.int .u64))], 0⟩
noncomputable def kut (o : k1z) (nx1 : HL TB.den k69.hs → Prop) (i : HL TB.den kel.hs) : Prop := ghs TB [] (kel.fill TB i) fun s => WP TB k4c 135 0 (cB (cA (cA (cA (cB (cB (cB (cB (cB (cB (cB (cB (cB (cB (cB (cB (cB (cB k6b)))))))))))))))))) .no s (kx5 o nx1)
structure kad (o : k1z) (nx1 : HL TB.den k69.hs → Prop) (i : HL TB.den kel.hs) : Prop where
  h : kut o nx1 i
noncomputable def kfo (o : k1z) (nx1 : HL TB.den k69.hs → Prop) (i : HL TB.den k69.hs) : Prop := WP TB k4c 135 0 (cA (cA (cA (cB (cB (cB (cB (cB (cB (cB (cB (cB (cB (cB (cB (cB (cB k6b))))))))))))))))) (.jn kel (kad o nx1) [] .no [] .no) (k69.fill TB i) (kx5 o nx1)
noncomputable def k14d (o : k1z) : An TB := .lp [] k69 (kfo o) fun nx1 => (.jn kel (kad o nx1) [] .no [] .no)
noncomputable def k14k (o : k1z) : An TB := .jn kdj (ka2 o) [] (k14d o) [] (kwr o)
noncomputable def k152 (o : k1z) : An TB := .nd [] .no [] (.nd [] .no [] (.nd [] .no [] (k14k o)))
noncomputable def k14q (o : k1z) : An TB := .nd [] .no [] (.nd [] .no [] (.nd [] .no [] (k152 o)))
noncomputable def k14c (o : k1z) : An TB := .nd [] .no [] (.nd [] .no [] (.nd [] .no [] (k14q o)))
noncomputable def k14i (o : k1z) : An TB := .nd [] .no [] (.nd [] .no [] (.nd [] .no [] (k14c o)))
noncomputable def kwj (o : k1z) : An TB := .nd [] .no [] (.nd [] .no [] (k14i o))
noncomputable def km0 (x : ky1) (o : k1z) : Prop := WPh TB k4c 135 0 k6b (kwj o) (k2t.st TB x) (retTQ TB k4c k2t ka1 o)
set_option maxRecDepth 100000 in
theorem k14b (o : k1z) : OblH TB k4c 135 0 k6b (kwj o) (retTQ TB k4c k2t ka1 o) :=
  OblH.of_eq (X := (True ∧ ((True ∧ (True ∧ True)) ∧ ((True ∧ (True ∧ True)) ∧ ((True ∧ ((True ∧ True) ∧ True)) ∧ (True ∧ (True ∧ (True ∧ (True ∧ (True ∧ (True ∧ (True ∧ (True ∧ (True ∧ (True ∧ (((∀ nx i, (kfo o) nx i = (kfo o) nx i) ∧ ∀ nx1 : HL TB.den k69.hs → Prop, ((True ∧ (True ∧ True)) ∧ (∀ i, (kad o nx1) i = (kut o nx1) i) ∧ (True ∧ (True ∧ (True ∧ (True ∧ True)))))) ∧ (∀ i, (ka2 o) i = (kv9 o) i) ∧ (True ∧ (True ∧ (True ∧ (((∀ nx i, (kfx o) nx i = (kfx o) nx i) ∧ ∀ nx2 : HL TB.den k68.hs → Prop, ((True ∧ (True ∧ True)) ∧ (∀ i, (kaa o nx2) i = (kus o nx2) i) ∧ (True ∧ (True ∧ (True ∧ (True ∧ True)))))) ∧ (∀ i, (kac o) i = (kvd o) i) ∧ (True ∧ True))))))))))))))))))))) (by kernel_rfl) ⟨trivial, ⟨⟨trivial, ⟨trivial, trivial⟩⟩, ⟨⟨trivial, ⟨trivial, trivial⟩⟩, ⟨⟨trivial, ⟨⟨trivial, trivial⟩, trivial⟩⟩, ⟨trivial, ⟨trivial, ⟨trivial, ⟨trivial, ⟨trivial, ⟨trivial, ⟨trivial, ⟨trivial, ⟨trivial, ⟨trivial, ⟨⟨fun _ _ => rfl, fun _ => ⟨⟨trivial, ⟨trivial, trivial⟩⟩, fun _ => propext ⟨fun h => h.1, fun h => ⟨h⟩⟩, ⟨trivial, ⟨trivial, ⟨trivial, ⟨trivial, trivial⟩⟩⟩⟩⟩⟩, fun _ => propext ⟨fun h => h.1, fun h => ⟨h⟩⟩, ⟨trivial, ⟨trivial, ⟨trivial, ⟨⟨fun _ _ => rfl, fun _ => ⟨⟨trivial, ⟨trivial, trivial⟩⟩, fun _ => propext ⟨fun h => h.1, fun h => ⟨h⟩⟩, ⟨trivial, ⟨trivial, ⟨trivial, ⟨trivial, trivial⟩⟩⟩⟩⟩⟩, fun _ => propext ⟨fun h => h.1, fun h => ⟨h⟩⟩, ⟨trivial, trivial⟩⟩⟩⟩⟩⟩⟩⟩⟩⟩⟩⟩⟩⟩⟩⟩⟩⟩⟩⟩
set_option maxRecDepth 100000 in
theorem k140 {x : ky1} {o : k1z} (h : km0 x o) : SoundH Try.prog k2t.f ((k2t.args idf x).map (er TB)) ((k2t.obs idf x).map (erO TB)) (er TB (k2t.val idf o)) ((k2t.ops idf o).map (erO TB)) :=
  Con.soundH (c := k2t) (C := k4c) TBok ⟨inf_ok, (all_cons kum all_nil), all_nil⟩ mix Try.func67 (show Try.f67.body = some k6b by kernel_rfl) (show Try.f67.ntmps = 135 by kernel_rfl) (show Try.f67.results.toList = ka1 by kernel_rfl) rfl h (k14b o)
set_option maxRecDepth 100000 in
theorem k16c {p0 : Int} {p1 : Int} {p2 : Int} {r0 : Int} {r1 : Int} (h :
(((p2 == 0) = true →
 False) ∧
((p2 == 0) = false →
(decide (p2 ≤ p0) = true →
 False) ∧
(decide (p2 ≤ p0) = false →
((p0 == 0) = true →
(p2 ≠ 0) ∧ (p2 ≠ 0) ∧ IntKind.u64.wrap (Int.tdiv p1 p2) = r0 ∧ Int.tmod p1 p2 = r1) ∧
((p0 == 0) = false →
(0 < p2 ∧ p2 < 18446744073709551616) ∧ (0 ≤ IntKind.u64.wrap (64 - len64 p2)) ∧ let v2 : Int := ishl .u64 p2 (IntKind.u64.wrap (64 - len64 p2))
(0 ≤ IntKind.u64.wrap (64 - len64 p2)) ∧ let v3 : Int := ishl .u64 p0 (IntKind.u64.wrap (64 - len64 p2))
 let v4 : Int := IntKind.u64.wrap (64 - (IntKind.u64.wrap (64 - len64 p2)))
(0 ≤ v4) ∧ (0 ≤ IntKind.u64.wrap (64 - len64 p2)) ∧ let v5 : Int := ishl .u64 p1 (IntKind.u64.wrap (64 - len64 p2))
(ishr .u64 v2 32 ≠ 0) ∧ let v6 : Int := IntKind.u64.wrap (Int.tdiv (ior .u64 v3 (ishr .u64 p1 v4)) (ishr .u64 v2 32))
 let v7 : Int := IntKind.u64.wrap (v6 * (ishr .u64 v2 32))
 let v8 : Int := IntKind.u64.wrap ((ior .u64 v3 (ishr .u64 p1 v4)) - v7)
 Md.Loop (v2, (IntKind.u64.wrap (64 - len64 p2) : Int), (ishr .u64 v2 32 : Int), (iand .u64 v2 4294967295 : Int), (ior .u64 v3 (ishr .u64 p1 v4) : Int), (ishr .u64 v5 32 : Int), (iand .u64 v5 4294967295 : Int), v6, v8, ()) (kfo (r0, r1, ()))))))) : km0 (p0, p1, p2, ()) (r0, r1, ()) := WPh.of_eq (by kernel_rfl) h
set_option maxRecDepth 100000 in
theorem k12b {r0 : Int} {r1 : Int} {nx1 : HL TB.den k69.hs → Prop} {s2 : Int} {s8 : Int} {s9 : Int} {s10 : Int} {s11 : Int} {s13 : Int} {s14 : Int} {s15 : Int} {s16 : Int} (h :
(let v11 : Bool := decide (4294967296 ≤ (IntKind.u64.wrap (s16 + s9)))
(v11 = true →
 ka2 (r0, r1, ()) (s2, s8, s9, s10, s11, s13, s14, (IntKind.u64.wrap (s15 - 1) : Int), ())) ∧
(v11 = false →
 nx1 (s2, s8, s9, s10, s11, s13, s14, (IntKind.u64.wrap (s15 - 1) : Int), (IntKind.u64.wrap (s16 + s9) : Int), ())))) : kad (r0, r1, ()) nx1 (s2, s8, s9, s10, s11, s13, s14, s15, s16, ()) := ⟨mpr_of (by kernel_rfl) h⟩
set_option maxRecDepth 100000 in
theorem k123 {r0 : Int} {r1 : Int} {s2 : Int} {s8 : Int} {s9 : Int} {s10 : Int} {s11 : Int} {s13 : Int} {s14 : Int} {s15 : Int} (h :
(let v12 : Int := IntKind.u64.wrap ((IntKind.u64.wrap (s11 * 4294967296)) + s13)
 let v13 : Int := IntKind.u64.wrap (v12 - (IntKind.u64.wrap (s15 * s2)))
(s9 ≠ 0) ∧ let v14 : Int := IntKind.u64.wrap ((IntKind.u64.wrap (Int.tdiv v13 s9)) * s9)
 Md.Loop (s2, s8, s9, s10, s14, s15, (IntKind.u64.wrap (v13 - v14) : Int), v13, (IntKind.u64.wrap (Int.tdiv v13 s9) : Int), ()) (kfx (r0, r1, ())))) : ka2 (r0, r1, ()) (s2, s8, s9, s10, s11, s13, s14, s15, ()) := ⟨mpr_of (by kernel_rfl) h⟩
set_option maxRecDepth 100000 in
theorem k11d {r0 : Int} {r1 : Int} {nx2 : HL TB.den k68.hs → Prop} {s2 : Int} {s8 : Int} {s9 : Int} {s10 : Int} {s14 : Int} {s15 : Int} {s16 : Int} {s17 : Int} {s18 : Int} (h :
(let v17 : Bool := decide (4294967296 ≤ (IntKind.u64.wrap (s16 + s9)))
(v17 = true →
 kac (r0, r1, ()) (s2, s8, s14, s15, s17, (IntKind.u64.wrap (s18 - 1) : Int), ())) ∧
(v17 = false →
 nx2 (s2, s8, s9, s10, s14, s15, (IntKind.u64.wrap (s16 + s9) : Int), s17, (IntKind.u64.wrap (s18 - 1) : Int), ())))) : kaa (r0, r1, ()) nx2 (s2, s8, s9, s10, s14, s15, s16, s17, s18, ()) := ⟨mpr_of (by kernel_rfl) h⟩
set_option maxRecDepth 100000 in
theorem k11v {r0 : Int} {r1 : Int} {s2 : Int} {s8 : Int} {s14 : Int} {s15 : Int} {s17 : Int} {s18 : Int} (h :
(let v18 : Int := IntKind.u64.wrap ((IntKind.u64.wrap (s15 * 4294967296)) + s18)
 let v19 : Int := IntKind.u64.wrap ((IntKind.u64.wrap (s17 * 4294967296)) + s14)
 let v20 : Int := IntKind.u64.wrap (v19 - (IntKind.u64.wrap (s18 * s2)))
(0 ≤ s8) ∧ v18 = r0 ∧ ishr .u64 v20 s8 = r1)) : kac (r0, r1, ()) (s2, s8, s14, s15, s17, s18, ()) := ⟨mpr_of (by kernel_rfl) h⟩
def kwm (r0 : Int) (r1 : Int) (nx1 : HL TB.den k69.hs → Prop) (k1 : Int → Int → Prop) (s2 : Int) (s8 : Int) (s9 : Int) (s10 : Int) (s11 : Int) (s13 : Int) (s14 : Int) (s15 : Int) (s16 : Int) : Prop :=
(decide (4294967296 ≤ s15) = true →
 kad (r0, r1, ()) nx1 (s2, s8, s9, s10, s11, s13, s14, s15, s16, ())) ∧
(decide (4294967296 ≤ s15) = false →
 let v9 : Int := IntKind.u64.wrap ((IntKind.u64.wrap (4294967296 * s16)) + s13)
 let v10 : Bool := decide (v9 < (IntKind.u64.wrap (s15 * s10)))
(v10 = true →
 kad (r0, r1, ()) nx1 (s2, s8, s9, s10, s11, s13, s14, s15, s16, ())) ∧
(v10 = false →
 ka2 (r0, r1, ()) (s2, s8, s9, s10, s11, s13, s14, s15, ())))
set_option maxRecDepth 100000 in
theorem k149 {r0 : Int} {r1 : Int} {s2 : Int} {s8 : Int} {s9 : Int} {s10 : Int} {s11 : Int} {s13 : Int} {s14 : Int} {s15 : Int} {s16 : Int} (inv : Int → Int → Prop) (μ : Int → Int → Nat) (h0 : inv s15 s16) (hs : ∀ (s15 : Int) (s16 : Int), inv s15 s16 → kwm r0 r1 (fun s : Int × Int × Int × Int × Int × Int × Int × Int × Int × Unit => ((s.1 = s2 ∧ s.2.1 = s8 ∧ s.2.2.1 = s9 ∧ s.2.2.2.1 = s10 ∧ s.2.2.2.2.1 = s11 ∧ s.2.2.2.2.2.1 = s13 ∧ s.2.2.2.2.2.2.1 = s14) ∧ inv s.2.2.2.2.2.2.2.1 s.2.2.2.2.2.2.2.2.1) ∧ μ s.2.2.2.2.2.2.2.1 s.2.2.2.2.2.2.2.2.1 < μ s15 s16) (fun s15q s16q => inv s15q s16q ∧ μ s15q s16q < μ s15 s16) s2 s8 s9 s10 s11 s13 s14 s15 s16) : Md.Loop (s2, s8, s9, s10, s11, s13, s14, s15, s16, ()) (kfo (r0, r1, ())) :=
  ⟨⟨fun s : Int × Int × Int × Int × Int × Int × Int × Int × Int × Unit => (s.1 = s2 ∧ s.2.1 = s8 ∧ s.2.2.1 = s9 ∧ s.2.2.2.1 = s10 ∧ s.2.2.2.2.1 = s11 ∧ s.2.2.2.2.2.1 = s13 ∧ s.2.2.2.2.2.2.1 = s14) ∧ inv s.2.2.2.2.2.2.2.1 s.2.2.2.2.2.2.2.2.1, fun s : Int × Int × Int × Int × Int × Int × Int × Int × Int × Unit => μ s.2.2.2.2.2.2.2.1 s.2.2.2.2.2.2.2.2.1, ⟨⟨rfl, rfl, rfl, rfl, rfl, rfl, rfl⟩, h0⟩, fun (s2p, s8p, s9p, s10p, s11p, s13p, s14p, s15p, s16p, ()) ⟨⟨eq0, eq1, eq2, eq3, eq4, eq5, eq6⟩, hi⟩ => by
    have eq0 : s2p = s2 := eq0; subst s2p; have eq1 : s8p = s8 := eq1; subst s8p; have eq2 : s9p = s9 := eq2; subst s9p; have eq3 : s10p = s10 := eq3; subst s10p; have eq4 : s11p = s11 := eq4; subst s11p; have eq5 : s13p = s13 := eq5; subst s13p; have eq6 : s14p = s14 := eq6; subst s14p; exact mpr_of (by kernel_rfl) ((congrArg (fun k => kwm r0 r1 (fun s : Int × Int × Int × Int × Int × Int × Int × Int × Int × Unit => ((s.1 = s2 ∧ s.2.1 = s8 ∧ s.2.2.1 = s9 ∧ s.2.2.2.1 = s10 ∧ s.2.2.2.2.1 = s11 ∧ s.2.2.2.2.2.1 = s13 ∧ s.2.2.2.2.2.2.1 = s14) ∧ inv s.2.2.2.2.2.2.2.1 s.2.2.2.2.2.2.2.2.1) ∧ μ s.2.2.2.2.2.2.2.1 s.2.2.2.2.2.2.2.2.1 < μ s15p s16p) k s2 s8 s9 s10 s11 s13 s14 s15p s16p) (lpk2 (⟨rfl, rfl, rfl, rfl, rfl, rfl, rfl⟩ : s2 = s2 ∧ s8 = s8 ∧ s9 = s9 ∧ s10 = s10 ∧ s11 = s11 ∧ s13 = s13 ∧ s14 = s14) inv (fun s15q s16q => μ s15q s16q < μ s15p s16p))).mpr (hs s15p s16p hi))⟩⟩
def kwl (r0 : Int) (r1 : Int) (nx2 : HL TB.den k68.hs → Prop) (k2 : Int → Int → Prop) (s2 : Int) (s8 : Int) (s9 : Int) (s10 : Int) (s14 : Int) (s15 : Int) (s17 : Int) (s16 : Int) (s18 : Int) : Prop :=
(decide (4294967296 ≤ s18) = true →
 kaa (r0, r1, ()) nx2 (s2, s8, s9, s10, s14, s15, s16, s17, s18, ())) ∧
(decide (4294967296 ≤ s18) = false →
 let v15 : Int := IntKind.u64.wrap ((IntKind.u64.wrap (4294967296 * s16)) + s14)
 let v16 : Bool := decide (v15 < (IntKind.u64.wrap (s18 * s10)))
(v16 = true →
 kaa (r0, r1, ()) nx2 (s2, s8, s9, s10, s14, s15, s16, s17, s18, ())) ∧
(v16 = false →
 kac (r0, r1, ()) (s2, s8, s14, s15, s17, s18, ())))
set_option maxRecDepth 100000 in
theorem k14e {r0 : Int} {r1 : Int} {s2 : Int} {s8 : Int} {s9 : Int} {s10 : Int} {s14 : Int} {s15 : Int} {s17 : Int} {s16 : Int} {s18 : Int} (inv : Int → Int → Prop) (μ : Int → Int → Nat) (h0 : inv s16 s18) (hs : ∀ (s16 : Int) (s18 : Int), inv s16 s18 → kwl r0 r1 (fun s : Int × Int × Int × Int × Int × Int × Int × Int × Int × Unit => ((s.1 = s2 ∧ s.2.1 = s8 ∧ s.2.2.1 = s9 ∧ s.2.2.2.1 = s10 ∧ s.2.2.2.2.1 = s14 ∧ s.2.2.2.2.2.1 = s15 ∧ s.2.2.2.2.2.2.2.1 = s17) ∧ inv s.2.2.2.2.2.2.1 s.2.2.2.2.2.2.2.2.1) ∧ μ s.2.2.2.2.2.2.1 s.2.2.2.2.2.2.2.2.1 < μ s16 s18) (fun s16q s18q => inv s16q s18q ∧ μ s16q s18q < μ s16 s18) s2 s8 s9 s10 s14 s15 s17 s16 s18) : Md.Loop (s2, s8, s9, s10, s14, s15, s16, s17, s18, ()) (kfx (r0, r1, ())) :=
  ⟨⟨fun s : Int × Int × Int × Int × Int × Int × Int × Int × Int × Unit => (s.1 = s2 ∧ s.2.1 = s8 ∧ s.2.2.1 = s9 ∧ s.2.2.2.1 = s10 ∧ s.2.2.2.2.1 = s14 ∧ s.2.2.2.2.2.1 = s15 ∧ s.2.2.2.2.2.2.2.1 = s17) ∧ inv s.2.2.2.2.2.2.1 s.2.2.2.2.2.2.2.2.1, fun s : Int × Int × Int × Int × Int × Int × Int × Int × Int × Unit => μ s.2.2.2.2.2.2.1 s.2.2.2.2.2.2.2.2.1, ⟨⟨rfl, rfl, rfl, rfl, rfl, rfl, rfl⟩, h0⟩, fun (s2p, s8p, s9p, s10p, s14p, s15p, s16p, s17p, s18p, ()) ⟨⟨eq0, eq1, eq2, eq3, eq4, eq5, eq6⟩, hi⟩ => by
    have eq0 : s2p = s2 := eq0; subst s2p; have eq1 : s8p = s8 := eq1; subst s8p; have eq2 : s9p = s9 := eq2; subst s9p; have eq3 : s10p = s10 := eq3; subst s10p; have eq4 : s14p = s14 := eq4; subst s14p; have eq5 : s15p = s15 := eq5; subst s15p; have eq6 : s17p = s17 := eq6; subst s17p; exact mpr_of (by kernel_rfl) ((congrArg (fun k => kwl r0 r1 (fun s : Int × Int × Int × Int × Int × Int × Int × Int × Int × Unit => ((s.1 = s2 ∧ s.2.1 = s8 ∧ s.2.2.1 = s9 ∧ s.2.2.2.1 = s10 ∧ s.2.2.2.2.1 = s14 ∧ s.2.2.2.2.2.1 = s15 ∧ s.2.2.2.2.2.2.2.1 = s17) ∧ inv s.2.2.2.2.2.2.1 s.2.2.2.2.2.2.2.2.1) ∧ μ s.2.2.2.2.2.2.1 s.2.2.2.2.2.2.2.2.1 < μ s16p s18p) k s2 s8 s9 s10 s14 s15 s17 s16p s18p) (lpk2 (⟨rfl, rfl, rfl, rfl, rfl, rfl, rfl⟩ : s2 = s2 ∧ s8 = s8 ∧ s9 = s9 ∧ s10 = s10 ∧ s14 = s14 ∧ s15 = s15 ∧ s17 = s17) inv (fun s16q s18q => μ s16q s18q < μ s16p s18p))).mpr (hs s16p s18p hi))⟩⟩
theorem bd67 : Callable Try.prog 67 := ⟨by rw [Try.func67]; kernel_rfl, by rw [Try.func67]; show some _ ≠ some _; decide⟩
theorem k13y (p0 : Int) (p1 : Int) (p2 : Int) (h : U64 p0 ∧ U64 p1 ∧ U64 p2 ∧ p0 < p2) : km0 (p0, p1, p2, ()) ((((p0 * 18446744073709551616 + p1) / p2) : Int), (((p0 * 18446744073709551616 + p1) % p2) : Int), ()) := by
  obtain ⟨h0, h1, h2, hlt⟩ := h
  refine k16c ⟨fun e => ?_, fun _ => ⟨fun e => ?_, fun _ => ⟨fun e => ?_, fun _ => ?_⟩⟩⟩
  · simp at e; omega
  · simp at e; omega
  · have e : p0 = 0 := by simpa using e
    subst e
    rw [tdiv_nn _ _ h1.1, tmod_nn _ _ h1.1, Int.zero_mul, Int.zero_add]
    have := Int.ediv_le_self p2 h1.1
    have := Int.ediv_nonneg h1.1 h2.1
    exact ⟨by omega, by omega, wu _ (by omega) (by have := Int.ediv_le_self p2 h1.1; omega), rfl⟩
  obtain ⟨s, e, hs, n1, n2⟩ := k12v p2 ⟨by omega, h2.2⟩
  have ew : IntKind.u64.wrap (64 - len64 p2) = (s : Int) := by rw [e, wu _ (by omega) (by omega)]
  have ew3 : IntKind.u64.wrap (64 - (s : Int)) = ((64 - s : Nat) : Int) := by rw [wu _ (by omega) (by omega)]; omega
  have hp : 0 < 2 ^ s := Nat.two_pow_pos s
  have hp' : 0 < 2 ^ (64 - s) := Nat.two_pow_pos _
  have hpp : 2 ^ s * 2 ^ (64 - s) = 18446744073709551616 := by rw [← Nat.pow_add, show s + (64 - s) = 64 by omega]
  have hP : ((2 ^ s : Nat) : Int) * ((2 ^ (64 - s) : Nat) : Int) = 18446744073709551616 := by rw [← Int.natCast_mul, hpp]; rfl
  have il : ∀ a : Int, ishl .u64 a (s : Int) = a * ((2 ^ s : Nat) : Int) % 18446744073709551616 := fun a => by rw [k1dr, Int.toNat_natCast, Nat.min_eq_left (by omega)]
  have ir : ∀ a : Int, ishr .u64 a (s : Int) = a / ((2 ^ s : Nat) : Int) := fun a => by rw [kon, Int.toNat_natCast, show min s IntKind.u64.bits = s from Nat.min_eq_left (by show s ≤ 64; omega)]
  have ir' : ∀ a : Int, ishr .u64 a ((64 - s : Nat) : Int) = a / ((2 ^ (64 - s) : Nat) : Int) := fun a => by rw [kon, Int.toNat_natCast, show min (64 - s) IntKind.u64.bits = 64 - s from Nat.min_eq_left (by show 64 - s ≤ 64; omega)]
  have hor : ∀ c : Int, 0 ≤ c → c < ((2 ^ s : Nat) : Int) → p0 * ((2 ^ s : Nat) : Int) + c < 18446744073709551616 → ior .u64 (p0 * ((2 ^ s : Nat) : Int)) c = p0 * ((2 ^ s : Nat) : Int) + c := by
    intro c hc0 hc1 hc2
    obtain ⟨a, rfl⟩ := Int.eq_ofNat_of_zero_le h0.1
    obtain ⟨c, rfl⟩ := Int.eq_ofNat_of_zero_le hc0
    have key := ior_add' c a s (by omega)
    rw [Int.mul_comm, ← Int.natCast_mul] at hc2 ⊢
    rw [key (by omega)]
    omega
  simp only [ew, ew3, il, ir', ishr32]
  have hP'0 : (0 : Int) < ((2 ^ (64 - s) : Nat) : Int) := by omega
  generalize hPd : ((2 ^ s : Nat) : Int) = P at *
  generalize hPd' : ((2 ^ (64 - s) : Nat) : Int) = P' at *
  have hP0 : 0 < P := by omega
  have hlo : p1 / P' < P := Int.ediv_lt_of_lt_mul hP'0 (by omega)
  have hlo0 : 0 ≤ p1 / P' := Int.ediv_nonneg h1.1 (by omega)
  have hUv : p0 * P + P ≤ p2 * P := by
    have : (p0 + 1) * P ≤ p2 * P := Int.mul_le_mul_of_nonneg_right (by omega) (by omega)
    grind
  have hUp : 0 ≤ p0 * P := Int.mul_nonneg h0.1 (by omega)
  rw [Int.emod_eq_of_lt (a := p2 * P) (by omega) n2, Int.emod_eq_of_lt (a := p0 * P) hUp (by omega), hor _ hlo0 hlo (by omega)]
  have hN : (p0 * 18446744073709551616 + p1) * P = (p0 * P + p1 / P') * 18446744073709551616 + (p1 * P % 18446744073709551616 / 4294967296) * 4294967296 + p1 * P % 18446744073709551616 % 4294967296 := by
    have h5 : p1 * P / 18446744073709551616 = p1 / P' := by
      rw [← hP, Int.mul_comm p1 P, Int.mul_ediv_mul_of_pos _ _ hP0]
    have h6 := Int.emod_add_mul_ediv (p1 * P) 18446744073709551616
    rw [h5] at h6
    have : (p0 * 18446744073709551616 + p1) * P = p0 * P * 18446744073709551616 + p1 * P := by grind
    rw [this]
    generalize p1 * P = w at *
    generalize p0 * P = w' at *
    omega
  have hlb : 0 ≤ p1 * P % 18446744073709551616 ∧ p1 * P % 18446744073709551616 < 18446744073709551616 := ⟨Int.emod_nonneg _ (by omega), Int.emod_lt_of_pos _ (by omega)⟩
  generalize hUd : p0 * P + p1 / P' = U at *
  generalize hLd : p1 * P % 18446744073709551616 = L at *
  have hVd : p2 * P / 4294967296 * 4294967296 + p2 * P % 4294967296 = p2 * P := by omega
  have hw : ∀ {Q R V' : Int} , R - Q = V' → 0 ≤ V' → V' < 18446744073709551616 → ∀ A, R = A * 4294967296 + (R - A * 4294967296) → IntKind.u64.wrap (IntKind.u64.wrap (IntKind.u64.wrap (A * 4294967296) + (R - A * 4294967296)) - IntKind.u64.wrap Q) = V' := by
    intro Q R V' hv h0 h1 A hA
    simp only [u64w]
    omega
  rw [kkg (p2 * P) (by omega), kkg L (by omega)]
  generalize ha : p2 * P / 4294967296 = a at *
  generalize hb : p2 * P % 4294967296 = b at *
  have hQ1 : Half U (L / 4294967296) a b ((U * 4294967296 + L / 4294967296) / (a * 4294967296 + b)) := ⟨by omega, by omega, by omega, by omega, by omega, rfl⟩
  have hr1 := hQ1.rest
  have hq1 := hQ1.q
  generalize (U * 4294967296 + L / 4294967296) / (a * 4294967296 + b) = Q1 at *
  generalize (U * 4294967296 + L / 4294967296) % (a * 4294967296 + b) = R1 at *
  have hQ0 : Half R1 (L % 4294967296) a b ((R1 * 4294967296 + L % 4294967296) / (a * 4294967296 + b)) := ⟨by omega, by omega, by omega, by omega, by omega, rfl⟩
  have hr0 := hQ0.rest
  have hq0 := hQ0.q
  generalize (R1 * 4294967296 + L % 4294967296) / (a * 4294967296 + b) = Q0 at *
  generalize (R1 * 4294967296 + L % 4294967296) % (a * 4294967296 + b) = R0 at *
  rw [hVd] at hr1 hr0 hq1 hq0
  have fin := k1bs hP0 (by omega : 0 < p2) hN hr1.1 hr0.1 ⟨hr0.2.1, hr0.2.2⟩
  have j4 : kac (((p0 * 18446744073709551616 + p1) / p2 : Int), ((p0 * 18446744073709551616 + p1) % p2 : Int), ()) ((p2 * P : Int), (s : Int), (L % 4294967296 : Int), Q1, R1, Q0, ()) := by
    refine k11v ⟨by omega, ?_, ?_⟩
    · rw [wu (Q1 * 4294967296) (by omega) (by omega), wu _ (by omega) (by omega)]
      exact fin.1
    · have := hw (Q := Q0 * (p2 * P)) (R := R1 * 4294967296 + L % 4294967296) hr0.1 hr0.2.1 (by omega) R1 (by omega)
      rw [show R1 * 4294967296 + L % 4294967296 - R1 * 4294967296 = L % 4294967296 by omega] at this
      rw [this, ir]
      exact fin.2
  have aux : ∀ {U x Q q r : Int}, Half U x a b Q → U < 18446744073709551616 → q * a + r = U → Q ≤ q → 0 ≤ r → q ≤ 8589934592 := by
    intro U x Q q r hh hU e hQ hr
    have h1 := hh.ha
    refine Int.le_of_lt_add_one (Int.lt_of_mul_lt_mul_right (a := a) ?_ (by omega))
    generalize q * a = w at *
    omega
  have init : ∀ {U x Q : Int}, Half U x a b Q → Q ≤ U / a := by
    intro U x Q hh
    have h1 := hh.ha
    have h2 := hh.q
    have h3 := hh.hb
    have h4 := hh.hx
    refine (Int.le_ediv_iff_mul_le (by omega)).2 ?_
    have h5 : Q * (a * 4294967296 + b) = Q * a * 4294967296 + Q * b := by grind
    have h6 : 0 ≤ Q * b := Int.mul_nonneg h2.1 h3.1
    generalize Q * a = w at *
    omega
  have j2 : ka2 (((p0 * 18446744073709551616 + p1) / p2 : Int), ((p0 * 18446744073709551616 + p1) % p2 : Int), ()) ((p2 * P : Int), (s : Int), a, b, U, (L / 4294967296 : Int), (L % 4294967296 : Int), Q1, ()) := by
    have e1 := hw (Q := Q1 * (p2 * P)) (R := U * 4294967296 + L / 4294967296) hr1.1 hr1.2.1 (by omega) U (by omega)
    rw [show U * 4294967296 + L / 4294967296 - U * 4294967296 = L / 4294967296 by omega] at e1
    refine k123 ?_
    simp only [e1]
    have hd := Int.emod_add_mul_ediv R1 a
    have hd1 := Int.emod_nonneg R1 (by omega : a ≠ 0)
    have hd2 := Int.emod_lt_of_pos R1 (by omega : 0 < a)
    have hd3 : 0 ≤ R1 / a := Int.ediv_nonneg hr1.2.1 (by omega)
    rw [Int.mul_comm] at hd
    have hd5 : 0 ≤ R1 / a * a := Int.mul_nonneg hd3 (by omega)
    have hd4 := aux hQ0 (by omega) (q := R1 / a) (r := R1 % a) (by omega) (init hQ0) hd1
    rw [tdiv_nn _ _ hr1.2.1, wu (R1 / a) (by omega) (by omega), wu (R1 / a * a) (by omega) (by omega), show R1 - R1 / a * a = R1 % a by omega, wu (R1 % a) (by omega) (by omega)]
    refine ⟨by omega, ?_⟩
    refine k14e (fun r q => q * a + r = R1 ∧ Q0 ≤ q ∧ 0 ≤ r ∧ r < 4294967296) (fun r q => q.toNat) ⟨by omega, init hQ0, hd1, by omega⟩ ?_
    rintro r q ⟨g1, g2, g3, g4⟩
    have g5 := aux hQ0 (by omega) g1 g2 g3
    have j3 : ∀ nx, (Q0 ≤ q - 1) → (r + a < 4294967296 → nx ((p2 * P : Int), (s : Int), a, b, (L % 4294967296 : Int), Q1, (r + a : Int), R1, (q - 1 : Int), ())) → kaa (((p0 * 18446744073709551616 + p1) / p2 : Int), ((p0 * 18446744073709551616 + p1) % p2 : Int), ()) nx ((p2 * P : Int), (s : Int), a, b, (L % 4294967296 : Int), Q1, r, R1, q, ()) := by
      intro nx hq hnx
      refine k11d ?_
      rw [wu (q - 1) (by omega) (by omega), wu (r + a) (by omega) (by omega)]
      refine ⟨fun hd => ?_, fun hd => hnx (by simpa using hd)⟩
      have hd : 4294967296 ≤ r + a := of_decide_eq_true hd
      rw [hQ0.done (q := q - 1) (r := r + a) (by grind) hq hd]
      exact j4
    have nxt : Q0 ≤ q - 1 → r + a < 4294967296 → ((q - 1) * a + (r + a) = R1 ∧ Q0 ≤ q - 1 ∧ 0 ≤ r + a ∧ r + a < 4294967296) ∧ (q - 1).toNat < q.toNat := fun h1 h2 => ⟨⟨by grind, h1, by omega, h2⟩, by omega⟩
    refine ⟨fun hd => j3 _ (hQ0.down g1 (.inl (of_decide_eq_true hd))) fun h1 => ?_, fun hd => ?_⟩
    · obtain ⟨n1, n2⟩ := nxt (hQ0.down g1 (.inl (of_decide_eq_true hd))) h1
      exact ⟨⟨⟨rfl, rfl, rfl, rfl, rfl, rfl, rfl⟩, n1⟩, n2⟩
    · have hd : q < 4294967296 := by simpa using hd
      have hqb : 0 ≤ q * b ∧ q * b < 18446744073709551616 := by
        have := hQ0.hb
        have h1 : q * b ≤ 4294967295 * 4294967295 := Int.mul_le_mul (by omega) (by omega) (by omega) (by omega)
        exact ⟨Int.mul_nonneg (by omega) (by omega), by omega⟩
      have := hQ0.hx
      rw [wu (q * b) (by omega) (by omega), wu (4294967296 * r) (by omega) (by omega), wu (4294967296 * r + L % 4294967296) (by omega) (by omega)]
      refine ⟨fun ht => ?_, fun ht => ?_⟩
      · have ht : 4294967296 * r + L % 4294967296 < q * b := of_decide_eq_true ht
        have hdn := hQ0.down g1 (.inr (by omega))
        refine j3 _ hdn fun h1 => ?_
        obtain ⟨n1, n2⟩ := nxt hdn h1
        exact ⟨⟨⟨rfl, rfl, rfl, rfl, rfl, rfl, rfl⟩, n1⟩, n2⟩
      · have ht : ¬ (4294967296 * r + L % 4294967296 < q * b) := of_decide_eq_false ht
        rw [hQ0.exit g1 g2 (by omega)]
        exact j4
  have hd := Int.emod_add_mul_ediv U a
  have hd1 := Int.emod_nonneg U (by omega : a ≠ 0)
  have hd2 := Int.emod_lt_of_pos U (by omega : 0 < a)
  have hd3 : 0 ≤ U / a := Int.ediv_nonneg (by omega) (by omega)
  rw [Int.mul_comm] at hd
  have hd5 : 0 ≤ U / a * a := Int.mul_nonneg hd3 (by omega)
  have hd4 := aux hQ1 (by omega) (q := U / a) (r := U % a) (by omega) (init hQ1) hd1
  rw [tdiv_nn _ _ (by omega), wu (U / a) (by omega) (by omega), wu (U / a * a) (by omega) (by omega), show U - U / a * a = U % a by omega, wu (U % a) (by omega) (by omega)]
  refine ⟨⟨by omega, h2.2⟩, by omega, by omega, by omega, by omega, by omega, ?_⟩
  refine k149 (fun q r => q * a + r = U ∧ Q1 ≤ q ∧ 0 ≤ r ∧ r < 4294967296) (fun q r => q.toNat) ⟨by omega, init hQ1, hd1, by omega⟩ ?_
  rintro q r ⟨g1, g2, g3, g4⟩
  have g5 := aux hQ1 (by omega) g1 g2 g3
  have j1 : ∀ nx, (Q1 ≤ q - 1) → (r + a < 4294967296 → nx ((p2 * P : Int), (s : Int), a, b, U, (L / 4294967296 : Int), (L % 4294967296 : Int), (q - 1 : Int), (r + a : Int), ())) → kad (((p0 * 18446744073709551616 + p1) / p2 : Int), ((p0 * 18446744073709551616 + p1) % p2 : Int), ()) nx ((p2 * P : Int), (s : Int), a, b, U, (L / 4294967296 : Int), (L % 4294967296 : Int), q, r, ()) := by
    intro nx hq hnx
    refine k12b ?_
    rw [wu (q - 1) (by omega) (by omega), wu (r + a) (by omega) (by omega)]
    refine ⟨fun hd => ?_, fun hd => hnx (by simpa using hd)⟩
    have hd : 4294967296 ≤ r + a := of_decide_eq_true hd
    rw [hQ1.done (q := q - 1) (r := r + a) (by grind) hq hd]
    exact j2
  have nxt : Q1 ≤ q - 1 → r + a < 4294967296 → ((q - 1) * a + (r + a) = U ∧ Q1 ≤ q - 1 ∧ 0 ≤ r + a ∧ r + a < 4294967296) ∧ (q - 1).toNat < q.toNat := fun h1 h2 => ⟨⟨by grind, h1, by omega, h2⟩, by omega⟩
  refine ⟨fun hd => j1 _ (hQ1.down g1 (.inl (of_decide_eq_true hd))) fun h1 => ?_, fun hd => ?_⟩
  · obtain ⟨n1, n2⟩ := nxt (hQ1.down g1 (.inl (of_decide_eq_true hd))) h1
    exact ⟨⟨⟨rfl, rfl, rfl, rfl, rfl, rfl, rfl⟩, n1⟩, n2⟩
  · have hd : q < 4294967296 := by simpa using hd
    have hqb : 0 ≤ q * b ∧ q * b < 18446744073709551616 := by
      have := hQ1.hb
      have h1 : q * b ≤ 4294967295 * 4294967295 := Int.mul_le_mul (by omega) (by omega) (by omega) (by omega)
      exact ⟨Int.mul_nonneg (by omega) (by omega), by omega⟩
    have := hQ1.hx
    rw [wu (q * b) (by omega) (by omega), wu (4294967296 * r) (by omega) (by omega), wu (4294967296 * r + L / 4294967296) (by omega) (by omega)]
    refine ⟨fun ht => ?_, fun ht => ?_⟩
    · have ht : 4294967296 * r + L / 4294967296 < q * b := of_decide_eq_true ht
      have hdn := hQ1.down g1 (.inr (by omega))
      refine j1 _ hdn fun h1 => ?_
      obtain ⟨n1, n2⟩ := nxt hdn h1
      exact ⟨⟨⟨rfl, rfl, rfl, rfl, rfl, rfl, rfl⟩, n1⟩, n2⟩
    · have ht : ¬ (4294967296 * r + L / 4294967296 < q * b) := of_decide_eq_false ht
      rw [hQ1.exit g1 g2 (by omega)]
      exact j2
noncomputable def koi : Con TB.den := k2t.fnR (fun x => (fun (p0 : Int) (p1 : Int) (p2 : Int) => U64 p0 ∧ U64 p1 ∧ U64 p2 ∧ p0 < p2) x.1 x.2.1 x.2.2.1) fun x => ((fun (p0 : Int) (p1 : Int) (p2 : Int) => (((p0 * 18446744073709551616 + p1) / p2) : Int)) x.1 x.2.1 x.2.2.1, (fun (p0 : Int) (p1 : Int) (p2 : Int) => (((p0 * 18446744073709551616 + p1) % p2) : Int)) x.1 x.2.1 x.2.2.1, ())
theorem kwb : koi.Ok Try.prog TB := Con.ok_fn k2t bd67 fun x h => k140 (k13y x.1 x.2.1 x.2.2.1 h)
end Go.Proofs.Ytponaobpcdkggaa
namespace Go.Proofs.Ytponaobpcdkggaa
open Go Go.Bv Go.Cv Go.Md Go.RowKit
def k4b : Con TB.den := Con.mk0 66 [.one (.d (.int .u64)), .one (.d (.int .u64))] [] (.tup [.one (.d (.int .u64)), .one (.d (.int .u64))]) []
abbrev kyt := HL TB.den (hsT k4b.ins (hsOs k4b.pre))
abbrev km5 := HL TB.den (hsV k4b.res (hsOs k4b.post))
noncomputable def kfz : Cx TB := ⟨inf, [], [], 4, []⟩
noncomputable def kmw : Code := Try.f66.body.getD .skip
noncomputable def kq2 : List ResultVar := Try.f66.results.toList
noncomputable def kx1 (o : km5) : An TB := .no
noncomputable def km2 (x : kyt) (o : km5) : Prop := WPh TB kfz 51 0 kmw (kx1 o) (k4b.st TB x) (retTQ TB kfz k4b kq2 o)
set_option maxRecDepth 100000 in
theorem k14y (o : km5) : OblH TB kfz 51 0 kmw (kx1 o) (retTQ TB kfz k4b kq2 o) :=
  OblH.of_eq (X := (True ∧ (True ∧ (True ∧ (True ∧ (True ∧ (True ∧ (True ∧ (True ∧ (True ∧ (True ∧ (True ∧ (True ∧ True))))))))))))) (by kernel_rfl) ⟨trivial, ⟨trivial, ⟨trivial, ⟨trivial, ⟨trivial, ⟨trivial, ⟨trivial, ⟨trivial, ⟨trivial, ⟨trivial, ⟨trivial, ⟨trivial, trivial⟩⟩⟩⟩⟩⟩⟩⟩⟩⟩⟩⟩
set_option maxRecDepth 100000 in
theorem k144 {x : kyt} {o : km5} (h : km2 x o) : SoundH Try.prog k4b.f ((k4b.args idf x).map (er TB)) ((k4b.obs idf x).map (erO TB)) (er TB (k4b.val idf o)) ((k4b.ops idf o).map (erO TB)) :=
  Con.soundH (c := k4b) (C := kfz) TBok ⟨inf_ok, all_nil, all_nil⟩ mix Try.func66 (show Try.f66.body = some kmw by kernel_rfl) (show Try.f66.ntmps = 51 by kernel_rfl) (show Try.f66.results.toList = kq2 by kernel_rfl) rfl h (k14y o)
set_option maxRecDepth 100000 in
theorem k16y {p0 : Int} {p1 : Int} {r0 : Int} {r1 : Int} (h :
(let v2 : Int := IntKind.u64.wrap ((iand .u64 p0 4294967295) * (iand .u64 p1 4294967295))
 let v3 : Int := IntKind.u64.wrap ((ishr .u64 p0 32) * (iand .u64 p1 4294967295))
 let v4 : Int := IntKind.u64.wrap (v3 + (ishr .u64 v2 32))
 let v5 : Int := IntKind.u64.wrap ((iand .u64 p0 4294967295) * (ishr .u64 p1 32))
 let v6 : Int := IntKind.u64.wrap ((iand .u64 v4 4294967295) + v5)
 let v7 : Int := IntKind.u64.wrap ((ishr .u64 p0 32) * (ishr .u64 p1 32))
 let v8 : Int := IntKind.u64.wrap (v7 + (ishr .u64 v4 32))
 let v9 : Int := IntKind.u64.wrap (v8 + (ishr .u64 v6 32))
 v9 = r0 ∧ IntKind.u64.wrap (p0 * p1) = r1)) : km2 (p0, p1, ()) (r0, r1, ()) := WPh.of_eq (by kernel_rfl) h
theorem bd66 : Callable Try.prog 66 := ⟨by rw [Try.func66]; kernel_rfl, by rw [Try.func66]; show some _ ≠ some _; decide⟩
theorem k13u (p0 : Int) (p1 : Int) (h : U64 p0 ∧ U64 p1) : km2 (p0, p1, ()) (((p0 * p1 / 18446744073709551616) : Int), ((p0 * p1 % 18446744073709551616) : Int), ()) := by
  obtain ⟨h0, h1⟩ := h
  have k := k1dc p0 p1 h0 h1
  refine k16y ?_
  simp only [kkg p0 h0, kkg p1 h1, ishr32]
  obtain ⟨e, k1, k2, k3, k4, k5, k6, k7, k8⟩ := k
  rw [← e]
  rw [wu (p0 % 4294967296 * (p1 % 4294967296)) (by omega) (by omega), wu (p0 / 4294967296 * (p1 % 4294967296)) (by omega) (by omega), wu (p0 % 4294967296 * (p1 / 4294967296)) (by omega) (by omega), wu (p0 / 4294967296 * (p1 / 4294967296)) (by omega) (by omega)]
  generalize p0 % 4294967296 * (p1 % 4294967296) = a at *
  generalize p0 / 4294967296 * (p1 % 4294967296) = b at *
  generalize p0 % 4294967296 * (p1 / 4294967296) = c at *
  generalize p0 / 4294967296 * (p1 / 4294967296) = d at *
  rw [wu (b + a / 4294967296) (by omega) (by omega), kkg _ (by omega)]
  simp only [u64w]
  refine ⟨?_, trivial⟩
  omega
noncomputable def kns : Con TB.den := k4b.fnR (fun x => (fun (p0 : Int) (p1 : Int) => U64 p0 ∧ U64 p1) x.1 x.2.1) fun x => ((fun (p0 : Int) (p1 : Int) => ((p0 * p1 / 18446744073709551616) : Int)) x.1 x.2.1, (fun (p0 : Int) (p1 : Int) => ((p0 * p1 % 18446744073709551616) : Int)) x.1 x.2.1, ())
theorem kwp : kns.Ok Try.prog TB := Con.ok_fn k4b bd66 fun x h => k144 (k13u x.1 x.2.1 h)
end Go.Proofs.Ytponaobpcdkggaa
namespace Go.Proofs.Ytponaobpcdkggaa
open Go Go.Bv Go.Cv Go.Md Go.RowKit
def k63 : Con TB.den := Con.mk0 50 [.one (.d (.int .u64)), .one (.d (.int .u64)), .one (.d (.int .u64))] [] (.one (.one (.d (.int .u64)))) []
abbrev k155 := HL TB.den (hsT k63.ins (hsOs k63.pre))
abbrev ktp := HL TB.den (hsV k63.res (hsOs k63.post))
noncomputable def kmo : Cx TB := ⟨inf, [ka6, kns, koi], [], 4, []⟩
noncomputable def ksm : Code := Try.f50.body.getD .skip
noncomputable def kvn : List ResultVar := Try.f50.results.toList
noncomputable def k12q (o : ktp) : An TB := .no
noncomputable def kre (x : k155) (o : ktp) : Prop := WPh TB kmo 32 0 ksm (k12q o) (k63.st TB x) (retTQ TB kmo k63 kvn o)
set_option maxRecDepth 100000 in
theorem k1a3 (o : ktp) : OblH TB kmo 32 0 ksm (k12q o) (retTQ TB kmo k63 kvn o) :=
  OblH.of_eq (X := (True ∧ ((True ∧ ((True ∧ True) ∧ True)) ∧ (True ∧ (True ∧ (True ∧ True)))))) (by kernel_rfl) ⟨trivial, ⟨⟨trivial, ⟨⟨trivial, trivial⟩, trivial⟩⟩, ⟨trivial, ⟨trivial, ⟨trivial, trivial⟩⟩⟩⟩⟩
set_option maxRecDepth 100000 in
theorem k19x {x : k155} {o : ktp} (h : kre x o) : SoundH Try.prog k63.f ((k63.args idf x).map (er TB)) ((k63.obs idf x).map (erO TB)) (er TB (k63.val idf o)) ((k63.ops idf o).map (erO TB)) :=
  Con.soundH (c := k63) (C := kmo) TBok ⟨inf_ok, (all_cons ke7 (all_cons kwp (all_cons kwb all_nil))), all_nil⟩ mix Try.func50 (show Try.f50.body = some ksm by kernel_rfl) (show Try.f50.ntmps = 32 by kernel_rfl) (show Try.f50.results.toList = kvn by kernel_rfl) rfl h (k1a3 o)
set_option maxRecDepth 100000 in
theorem k1bl {p0 : Int} {p1 : Int} {p2 : Int} {r0 : Int} (h :
((p0 = 18446744069414584321) ∧ ((!true) = true →
 0 = r0) ∧
((!true) = false →
(p0 ≠ 0) ∧ (p0 ≠ 0) ∧ (U64 (Int.tmod p1 p0) ∧ U64 (Int.tmod p2 p0)) ∧ let r1 : Int := ((Int.tmod p1 p0) * (Int.tmod p2 p0) / 18446744073709551616)
 let r2 : Int := ((Int.tmod p1 p0) * (Int.tmod p2 p0) % 18446744073709551616)
(U64 r1 ∧ U64 r2 ∧ U64 p0 ∧ r1 < p0) ∧ ((r1 * 18446744073709551616 + r2) % p0) = r0))) : kre (p0, p1, p2, ()) (r0, ()) := WPh.of_eq (by kernel_rfl) h
theorem bd50 : Callable Try.prog 50 := ⟨by rw [Try.func50]; kernel_rfl, by rw [Try.func50]; show some _ ≠ some _; decide⟩
theorem k182 (p0 : Int) (p1 : Int) (p2 : Int) (h : p0 = 18446744069414584321 ∧ U64 p1 ∧ U64 p2) : kre (p0, p1, p2, ()) (((p1 * p2 % 18446744069414584321) : Int), ()) := by
  obtain ⟨rfl, h1, h2⟩ := h
  refine k1bl ⟨rfl, fun h => by simp at h, fun _ => ?_⟩
  rw [tmod_nn _ _ h1.1, tmod_nn _ _ h2.1, Int.mul_emod p1 p2]
  have a1 : 0 ≤ p1 % 18446744069414584321 ∧ p1 % 18446744069414584321 < 18446744069414584321 := by omega
  have a2 : 0 ≤ p2 % 18446744069414584321 ∧ p2 % 18446744069414584321 < 18446744069414584321 := by omega
  generalize p1 % 18446744069414584321 = a at *
  generalize p2 % 18446744069414584321 = b at *
  have h3 : 0 ≤ a * b := Int.mul_nonneg a1.1 a2.1
  have h4 : a * b ≤ 18446744069414584320 * 18446744069414584320 := Int.mul_le_mul (by omega) (by omega) a2.1 (by omega)
  generalize a * b = m at *
  refine ⟨by omega, by omega, ⟨⟨by omega, by omega⟩, ⟨by omega, by omega⟩⟩, ⟨⟨by omega, by omega⟩, ⟨by omega, by omega⟩, ⟨by omega, by omega⟩, by omega⟩, ?_⟩
  rw [show m / 18446744073709551616 * 18446744073709551616 + m % 18446744073709551616 = m by omega]
noncomputable def kul : Con TB.den := k63.fnR (fun x => (fun (p0 : Int) (p1 : Int) (p2 : Int) => p0 = 18446744069414584321 ∧ U64 p1 ∧ U64 p2) x.1 x.2.1 x.2.2.1) fun x => ((fun (p0 : Int) (p1 : Int) (p2 : Int) => ((p1 * p2 % 18446744069414584321) : Int)) x.1 x.2.1 x.2.2.1, ())
theorem k134 : kul.Ok Try.prog TB := Con.ok_fn k63 bd50 fun x h => k19x (k182 x.1 x.2.1 x.2.2.1 h)
end Go.Proofs.Ytponaobpcdkggaa
namespace Go.Proofs.Ytponaobpcdkggaa
open Go Go.Bv Go.Cv Go.Md Go.RowKit
def k3c : Con TB.den := Con.mk0 70 [.one (.d (.int .u64))] [] (.one (.one (.d (.int .u64)))) []
abbrev kux := HL TB.den (hsT k3c.ins (hsOs k3c.pre))
abbrev kia := HL TB.den (hsV k3c.res (hsOs k3c.post))
noncomputable def kcc : Cx TB := ⟨inf, [kuh], [], 4, []⟩
noncomputable def kjr : Code := Try.f70.body.getD .skip
noncomputable def kmp : List ResultVar := Try.f70.results.toList
noncomputable def ktc (o : kia) : An TB := .no
noncomputable def kje (x : kux) (o : kia) : Prop := WPh TB kcc 6 0 kjr (ktc o) (k3c.st TB x) (retTQ TB kcc k3c kmp o)
set_option maxRecDepth 100000 in
theorem k11u (o : kia) : OblH TB kcc 6 0 kjr (ktc o) (retTQ TB kcc k3c kmp o) :=
  OblH.of_eq (X := (True ∧ (True ∧ True))) (by kernel_rfl) ⟨trivial, ⟨trivial, trivial⟩⟩
set_option maxRecDepth 100000 in
theorem k10x {x : kux} {o : kia} (h : kje x o) : SoundH Try.prog k3c.f ((k3c.args idf x).map (er TB)) ((k3c.obs idf x).map (erO TB)) (er TB (k3c.val idf o)) ((k3c.ops idf o).map (erO TB)) :=
  Con.soundH (c := k3c) (C := kcc) TBok ⟨inf_ok, (all_cons k13i all_nil), all_nil⟩ mix Try.func70 (show Try.f70.body = some kjr by kernel_rfl) (show Try.f70.ntmps = 6 by kernel_rfl) (show Try.f70.results.toList = kmp by kernel_rfl) rfl h (k11u o)
set_option maxRecDepth 100000 in
theorem k13v {p0 : Int} {r0 : Int} (h :
((p0 = 18446744069414584321) ∧ 7 = r0)) : kje (p0, ()) (r0, ()) := WPh.of_eq (by kernel_rfl) h
theorem bd70 : Callable Try.prog 70 := ⟨by rw [Try.func70]; kernel_rfl, by rw [Try.func70]; show some _ ≠ some _; decide⟩
theorem kzf (p0 : Int) (h : p0 = 18446744069414584321) : kje (p0, ()) ((7 : Int), ()) := by
  exact k13v ⟨h, rfl⟩
noncomputable def krk : Con TB.den := k3c.fnR (fun x => (fun (p0 : Int) => p0 = 18446744069414584321) x.1) fun x => ((fun (p0 : Int) => (7 : Int)) x.1, ())
theorem k12y : krk.Ok Try.prog TB := Con.ok_fn k3c bd70 fun x h => k10x (kzf x.1 h)
end Go.Proofs.Ytponaobpcdkggaa
namespace Go.Proofs.Ytponaobpcdkggaa
open Go Go.Bv Go.Cv Go.Md Go.RowKit
def k58 : Con TB.den := Con.mk0 68 [.one (.d (.int .u64)), .one (.d (.int .u64)), .one (.d (.int .u64))] [] (.one (.one (.d (.int .u64)))) []
abbrev k162 := HL TB.den (hsT k58.ins (hsOs k58.pre))
abbrev k8m := HL TB.den (hsV k58.res (hsOs k58.post))
noncomputable def k99 : Cx TB := ⟨inf, [ka6, kul], [], 4, []⟩
noncomputable def kdd : Code := Try.f68.body.getD .skip
noncomputable def km3 : List ResultVar := Try.f68.results.toList
noncomputable def k1b8 (o : k8m) : Exit → TSt TB.den → Prop := thenT TB (fun s => ghs TB [] s fun s => WP TB k99 30 0 (cB (cB (cB (cB (cB kdd))))) .no s (retTQ TB k99 k58 km3 o)) (retTQ TB k99 k58 km3 o)
def k7r : Tm := ⟨[], [], [0, 1, 2, 7], [.one (.d (.int .u64)), .one (.d (.int .u64)), .one (.d (.int .u64)), .one (.d (.int .u64))], 0⟩
noncomputable def k12x (o : k8m) (nx1 : HL TB.den k7r.hs → Prop) : Exit → TSt TB.den → Prop := thenT TB (fun s => k7r.mat TB 0 s nx1) (blockT TB 0 (k1b8 o))
def kox : Tm := ⟨[], [], [0, 1, 2, 7], [.one (.d (.int .u64)), .one (.d (.int .u64)), .one (.d (.int .u64)), .one (.d (.int .u64))], 0⟩
noncomputable def k10p (o : k8m) (nx1 : HL TB.den k7r.hs → Prop) (i : HL TB.den kox.hs) : Prop := ghs TB [] (kox.fill TB i) fun s => WP TB k99 30 0 (cB (cA (cB (cA (cA (cA (cB (cB (cB (cB kdd)))))))))) .no s (blockT TB 1 (k12x o nx1))
structure kim (o : k8m) (nx1 : HL TB.den k7r.hs → Prop) (i : HL TB.den kox.hs) : Prop where
  h : k10p o nx1 i
noncomputable def k13o (o : k8m) (nx1 : HL TB.den k7r.hs → Prop) : An TB := .nd [] .no [] (.jn kox (kim o nx1) [] .no [] .no)
noncomputable def kmc (o : k8m) (nx1 : HL TB.den k7r.hs → Prop) (i : HL TB.den k7r.hs) : Prop := WP TB k99 30 0 (cA (cA (cA (cB (cB (cB (cB kdd))))))) (k13o o nx1) (k7r.fill TB i) (k12x o nx1)
noncomputable def k1bc (o : k8m) : An TB := .lp [] k7r (kmc o) fun nx1 => (k13o o nx1)
noncomputable def k1bk (o : k8m) : An TB := .nd [] .no [] (.nd [] .no [] (.nd [] .no [] (.nd [] (k1bc o) [] .no)))
noncomputable def k12p (o : k8m) : An TB := .nd [] .no [] (k1bk o)
noncomputable def krr (x : k162) (o : k8m) : Prop := WPh TB k99 30 0 kdd (k12p o) (k58.st TB x) (retTQ TB k99 k58 km3 o)
set_option maxRecDepth 100000 in
theorem k1af (o : k8m) : OblH TB k99 30 0 kdd (k12p o) (retTQ TB k99 k58 km3 o) :=
  OblH.of_eq (X := (True ∧ ((True ∧ ((True ∧ True) ∧ True)) ∧ (True ∧ (True ∧ (((∀ nx i, (kmc o) nx i = (kmc o) nx i) ∧ ∀ nx1 : HL TB.den k7r.hs → Prop, ((True ∧ (True ∧ True)) ∧ ((True ∧ (True ∧ True)) ∧ (∀ i, (kim o nx1) i = (k10p o nx1) i) ∧ (True ∧ True)))) ∧ (True ∧ True))))))) (by kernel_rfl) ⟨trivial, ⟨⟨trivial, ⟨⟨trivial, trivial⟩, trivial⟩⟩, ⟨trivial, ⟨trivial, ⟨⟨fun _ _ => rfl, fun _ => ⟨⟨trivial, ⟨trivial, trivial⟩⟩, ⟨⟨trivial, ⟨trivial, trivial⟩⟩, fun _ => propext ⟨fun h => h.1, fun h => ⟨h⟩⟩, ⟨trivial, trivial⟩⟩⟩⟩, ⟨trivial, trivial⟩⟩⟩⟩⟩⟩
set_option maxRecDepth 100000 in
theorem k19p {x : k162} {o : k8m} (h : krr x o) : SoundH Try.prog k58.f ((k58.args idf x).map (er TB)) ((k58.obs idf x).map (erO TB)) (er TB (k58.val idf o)) ((k58.ops idf o).map (erO TB)) :=
  Con.soundH (c := k58) (C := k99) TBok ⟨inf_ok, (all_cons ke7 (all_cons k134 all_nil)), all_nil⟩ mix Try.func68 (show Try.f68.body = some kdd by kernel_rfl) (show Try.f68.ntmps = 30 by kernel_rfl) (show Try.f68.results.toList = km3 by kernel_rfl) rfl h (k1af o)
set_option maxRecDepth 100000 in
theorem k1ax {p0 : Int} {p1 : Int} {p2 : Int} {r0 : Int} (h :
((p0 = 18446744069414584321) ∧ ((!true) = true →
 0 = r0) ∧
((!true) = false →
(p0 ≠ 0) ∧ Md.Loop (p0, (Int.tmod p1 p0 : Int), p2, (1 : Int), ()) (kmc (r0, ()))))) : krr (p0, p1, p2, ()) (r0, ()) := WPh.of_eq (by kernel_rfl) h
set_option maxRecDepth 100000 in
theorem k176 {r0 : Int} {nx1 : HL TB.den k7r.hs → Prop} {s0 : Int} {s1 : Int} {s2 : Int} {s7 : Int} (h :
((s0 = 18446744069414584321 ∧ U64 s1 ∧ U64 s1) ∧ nx1 (s0, ((s1 * s1 % 18446744069414584321) : Int), (IntKind.u64.wrap (Int.tdiv s2 2) : Int), s7, ()))) : kim (r0, ()) nx1 (s0, s1, s2, s7, ()) := ⟨mpr_of (by kernel_rfl) h⟩
def k12u (r0 : Int) (nx1 : HL TB.den k7r.hs → Prop) (k1 : Int → Int → Int → Prop) (s0 : Int) (s1 : Int) (s2 : Int) (s7 : Int) : Prop :=
(decide (0 < s2) = true →
(((Int.tmod s2 2) == 1) = true →
(s0 = 18446744069414584321 ∧ U64 s7 ∧ U64 s1) ∧ kim (r0, ()) nx1 (s0, s1, s2, ((s7 * s1 % 18446744069414584321) : Int), ())) ∧
(((Int.tmod s2 2) == 1) = false →
 kim (r0, ()) nx1 (s0, s1, s2, s7, ()))) ∧
(decide (0 < s2) = false →
 s7 = r0)
set_option maxRecDepth 100000 in
theorem k19v {r0 : Int} {s0 : Int} {s1 : Int} {s2 : Int} {s7 : Int} (inv : Int → Int → Int → Prop) (μ : Int → Int → Int → Nat) (h0 : inv s1 s2 s7) (hs : ∀ (s1 : Int) (s2 : Int) (s7 : Int), inv s1 s2 s7 → k12u r0 (fun s : Int × Int × Int × Int × Unit => ((s.1 = s0) ∧ inv s.2.1 s.2.2.1 s.2.2.2.1) ∧ μ s.2.1 s.2.2.1 s.2.2.2.1 < μ s1 s2 s7) (fun s1q s2q s7q => inv s1q s2q s7q ∧ μ s1q s2q s7q < μ s1 s2 s7) s0 s1 s2 s7) : Md.Loop (s0, s1, s2, s7, ()) (kmc (r0, ())) :=
  ⟨⟨fun s : Int × Int × Int × Int × Unit => (s.1 = s0) ∧ inv s.2.1 s.2.2.1 s.2.2.2.1, fun s : Int × Int × Int × Int × Unit => μ s.2.1 s.2.2.1 s.2.2.2.1, ⟨rfl, h0⟩, fun (s0p, s1p, s2p, s7p, ()) ⟨eq0, hi⟩ => by
    have eq0 : s0p = s0 := eq0; subst s0p; exact mpr_of (by kernel_rfl) ((congrArg (fun k => k12u r0 (fun s : Int × Int × Int × Int × Unit => ((s.1 = s0) ∧ inv s.2.1 s.2.2.1 s.2.2.2.1) ∧ μ s.2.1 s.2.2.1 s.2.2.2.1 < μ s1p s2p s7p) k s0 s1p s2p s7p) (lpk3 (rfl : s0 = s0) inv (fun s1q s2q s7q => μ s1q s2q s7q < μ s1p s2p s7p))).mpr (hs s1p s2p s7p hi))⟩⟩
theorem bd68 : Callable Try.prog 68 := ⟨by rw [Try.func68]; kernel_rfl, by rw [Try.func68]; show some _ ≠ some _; decide⟩
theorem k199 (p0 : Int) (p1 : Int) (p2 : Int) (h : p0 = 18446744069414584321 ∧ U64 p1 ∧ U64 p2) : krr (p0, p1, p2, ()) (((pw p1 p2) : Int), ()) := by
  obtain ⟨rfl, h1, h2⟩ := h
  refine k1ax ⟨rfl, fun h => by simp at h, fun _ => ⟨by omega, ?_⟩⟩
  rw [tmod_nn _ _ h1.1]
  refine k19v (fun a e r => (0 ≤ a ∧ a < 18446744069414584321) ∧ U64 e ∧ (0 ≤ r ∧ r < 18446744069414584321) ∧ (r * a ^ e.toNat) % 18446744069414584321 = pw p1 p2) (fun a e r => e.toNat) ⟨by omega, h2, by omega, by rw [Int.one_mul, kvk]; rfl⟩ ?_
  rintro a e r ⟨ha, he, hr, hv⟩
  have hpow : ∀ k : Nat, a ^ (2 * k) = (a * a) ^ k := fun k => by rw [Int.pow_mul]; congr 1; rw [Int.pow_succ, Int.pow_succ, Int.pow_zero, Int.one_mul]
  have jj : ∀ nx r', (0 ≤ r' ∧ r' < 18446744069414584321) → 0 < e → (r' * (a * a) ^ (e / 2).toNat) % 18446744069414584321 = pw p1 p2 → (∀ a', (0 ≤ a' ∧ a' < 18446744069414584321) → r' * a' ^ (e / 2).toNat % 18446744069414584321 = pw p1 p2 → nx ((18446744069414584321 : Int), a', (e / 2 : Int), r', ())) → kim ((pw p1 p2 : Int), ()) nx ((18446744069414584321 : Int), a, e, r', ()) := by
    intro nx r' hr' he' hv' hn
    refine k176 ⟨⟨rfl, by omega, by omega⟩, ?_⟩
    rw [tdiv_nn _ _ he.1, wu (e / 2) (by omega) (by omega)]
    refine hn _ ⟨Int.emod_nonneg _ (by omega), Int.emod_lt_of_pos _ (by omega)⟩ ?_
    rw [← hv', Int.mul_emod, Int.mul_emod r' ((a * a) ^ _), kvk]
  refine ⟨fun h => ?_, fun h => ?_⟩
  · have h := of_decide_eq_true h
    rw [tmod_nn _ _ he.1]
    have nxt : ∀ a' r', (0 ≤ a' ∧ a' < 18446744069414584321) → (0 ≤ r' ∧ r' < 18446744069414584321) → r' * a' ^ (e / 2).toNat % 18446744069414584321 = pw p1 p2 → ((0 ≤ a' ∧ a' < 18446744069414584321) ∧ U64 (e / 2) ∧ (0 ≤ r' ∧ r' < 18446744069414584321) ∧ r' * a' ^ (e / 2).toNat % 18446744069414584321 = pw p1 p2) ∧ (e / 2).toNat < e.toNat := fun a' r' h1 h2 h3 => ⟨⟨h1, ⟨by omega, by omega⟩, h2, h3⟩, by omega⟩
    refine ⟨fun h1 => ⟨⟨rfl, by omega, by omega⟩, ?_⟩, fun h1 => ?_⟩
    · have h1 : e % 2 = 1 := by simpa using h1
      refine jj _ _ ⟨Int.emod_nonneg _ (by omega), Int.emod_lt_of_pos _ (by omega)⟩ h ?_ fun a' ha' hv' => ⟨⟨rfl, (nxt a' _ ha' ⟨Int.emod_nonneg _ (by omega), Int.emod_lt_of_pos _ (by omega)⟩ hv').1⟩, (nxt a' _ ha' ⟨Int.emod_nonneg _ (by omega), Int.emod_lt_of_pos _ (by omega)⟩ hv').2⟩
      rw [← hv, show e.toNat = 2 * (e / 2).toNat + 1 by omega, Int.pow_succ, hpow, Int.mul_emod, Int.emod_emod_of_dvd _ (Int.dvd_refl _), ← Int.mul_emod]
      congr 1
      grind
    · have h1 : ¬ e % 2 = 1 := by simpa using h1
      refine jj _ _ hr h ?_ fun a' ha' hv' => ⟨⟨rfl, (nxt a' _ ha' hr hv').1⟩, (nxt a' _ ha' hr hv').2⟩
      rw [← hv, ← hpow, show e.toNat = 2 * (e / 2).toNat by omega]
  · have h : ¬ 0 < e := of_decide_eq_false h
    rw [show e.toNat = 0 by omega, Int.pow_zero, Int.mul_one, Int.emod_eq_of_lt hr.1 hr.2] at hv
    exact hv
noncomputable def k102 : Con TB.den := k58.fnR (fun x => (fun (p0 : Int) (p1 : Int) (p2 : Int) => p0 = 18446744069414584321 ∧ U64 p1 ∧ U64 p2) x.1 x.2.1 x.2.2.1) fun x => ((fun (p0 : Int) (p1 : Int) (p2 : Int) => ((pw p1 p2) : Int)) x.1 x.2.1 x.2.2.1, ())
theorem k1bj : k102.Ok Try.prog TB := Con.ok_fn k58 bd68 fun x h => k19p (k199 x.1 x.2.1 x.2.2.1 h)
end Go.Proofs.Ytponaobpcdkggaa
namespace Go.Proofs.Ytponaobpcdkggaa
open Go Go.Bv Go.Cv Go.Md Go.RowKit
def k3h : Con TB.den := Con.mk0 69 [.one (.d (.int .u64)), .one (.d (.int .i64)), .one (.d (.int .i64))] [] (.one (.one (.d (.int .u64)))) []
abbrev kvf := HL TB.den (hsT k3h.ins (hsOs k3h.pre))
abbrev kis := HL TB.den (hsV k3h.res (hsOs k3h.post))
noncomputable def kc9 : Cx TB := ⟨inf, [ka6], [], 4, []⟩
noncomputable def kj5 : Code := Try.f69.body.getD .skip
noncomputable def km4 : List ResultVar := Try.f69.results.toList
noncomputable def ktq (o : kis) : An TB := .no
noncomputable def kji (x : kvf) (o : kis) : Prop := WPh TB kc9 35 0 kj5 (ktq o) (k3h.st TB x) (retTQ TB kc9 k3h km4 o)
set_option maxRecDepth 100000 in
theorem k118 (o : kis) : OblH TB kc9 35 0 kj5 (ktq o) (retTQ TB kc9 k3h km4 o) :=
  OblH.of_eq (X := (True ∧ ((True ∧ ((True ∧ True) ∧ True)) ∧ (True ∧ True)))) (by kernel_rfl) ⟨trivial, ⟨⟨trivial, ⟨⟨trivial, trivial⟩, trivial⟩⟩, ⟨trivial, trivial⟩⟩⟩
set_option maxRecDepth 100000 in
theorem k110 {x : kvf} {o : kis} (h : kji x o) : SoundH Try.prog k3h.f ((k3h.args idf x).map (er TB)) ((k3h.obs idf x).map (erO TB)) (er TB (k3h.val idf o)) ((k3h.ops idf o).map (erO TB)) :=
  Con.soundH (c := k3h) (C := kc9) TBok ⟨inf_ok, (all_cons ke7 all_nil), all_nil⟩ mix Try.func69 (show Try.f69.body = some kj5 by kernel_rfl) (show Try.f69.ntmps = 35 by kernel_rfl) (show Try.f69.results.toList = km4 by kernel_rfl) rfl h (k118 o)
set_option maxRecDepth 100000 in
theorem k13m {p0 : Int} {p1 : Int} {p2 : Int} {r0 : Int} (h :
((p0 = 18446744069414584321) ∧ ((!true) = true →
 0 = r0) ∧
((!true) = false →
(decide (p1 < 0) = true →
 0 = r0) ∧
(decide (p1 < 0) = false →
(decide (7 < p1) = true →
 0 = r0) ∧
(decide (7 < p1) = false →
(decide (p2 < 0) = true →
 0 = r0) ∧
(decide (p2 < 0) = false →
(decide (2 < p2) = true →
 0 = r0) ∧
(decide (2 < p2) = false →
 let v1 : Int := IntKind.i64.wrap ((IntKind.i64.wrap (3 * p1)) + p2)
 let v2 : Int := IntKind.u64.wrap (IntKind.i64.wrap (v1 + 1))
 let v3 : Int := IntKind.u64.wrap (v2 * 11400714819323198485)
(p0 ≠ 0) ∧ Int.tmod v3 p0 = r0))))))) : kji (p0, p1, p2, ()) (r0, ()) := WPh.of_eq (by kernel_rfl) h
theorem bd69 : Callable Try.prog 69 := ⟨by rw [Try.func69]; kernel_rfl, by rw [Try.func69]; show some _ ≠ some _; decide⟩
theorem kzk (p0 : Int) (p1 : Int) (p2 : Int) (h : p0 = 18446744069414584321 ∧ (0 ≤ p1 ∧ p1 < 8) ∧ 0 ≤ p2 ∧ p2 < 3) : kji (p0, p1, p2, ()) (((rc p1 p2) : Int), ()) := by
  obtain ⟨rfl, h1, h2⟩ := h
  refine k13m ⟨rfl, fun h => by simp at h, fun _ => ⟨fun h => ?_, fun _ => ⟨fun h => ?_, fun _ => ⟨fun h => ?_, fun _ => ⟨fun h => ?_, fun _ => ?_⟩⟩⟩⟩⟩
  · simp at h; omega
  · simp at h; omega
  · simp at h; omega
  · simp at h; omega
  · simp only []
    rw [wi (3 * p1) (by omega) (by omega), wi (3 * p1 + p2) (by omega) (by omega), wi (3 * p1 + p2 + 1) (by omega) (by omega), wu (3 * p1 + p2 + 1) (by omega) (by omega), u64w]
    exact ⟨by omega, by rw [tmod_nn _ _ (by omega)]; rfl⟩
noncomputable def ksl : Con TB.den := k3h.fnR (fun x => (fun (p0 : Int) (p1 : Int) (p2 : Int) => p0 = 18446744069414584321 ∧ (0 ≤ p1 ∧ p1 < 8) ∧ 0 ≤ p2 ∧ p2 < 3) x.1 x.2.1 x.2.2.1) fun x => ((fun (p0 : Int) (p1 : Int) (p2 : Int) => ((rc p1 p2) : Int)) x.1 x.2.1 x.2.2.1, ())
theorem k13t : ksl.Ok Try.prog TB := Con.ok_fn k3h bd69 fun x h => k110 (kzk x.1 x.2.1 x.2.2.1 h)
end Go.Proofs.Ytponaobpcdkggaa
namespace Go.Proofs.Ytponaobpcdkggaa
open Go Go.Bv Go.Cv Go.Md Go.RowKit
def k57 : Con TB.den := Con.mk0 86 [.one (.d (.int .u64)), .one (.d (.sl (.int .u64)))] [] (.one (.one (.d (.int .u64)))) []
abbrev k15u := HL TB.den (hsT k57.ins (hsOs k57.pre))
abbrev kf3 := HL TB.den (hsV k57.res (hsOs k57.post))
noncomputable def kax : Cx TB := ⟨inf, [kjw], [], 4, []⟩
noncomputable def kht : Code := Try.f86.body.getD .skip
noncomputable def kmf : List ResultVar := Try.f86.results.toList
noncomputable def k1b1 (o : kf3) : Exit → TSt TB.den → Prop := thenT TB (fun s => ghs TB [] s fun s => WP TB kax 21 0 (cB (cB (cB kht))) .no s (retTQ TB kax k57 kmf o)) (retTQ TB kax k57 kmf o)
def kfa : Tm := ⟨[], [], [0, 1, 5, 6], [.one (.d (.int .u64)), .one (.d (.sl (.int .u64))), .one (.d (.int .u64)), .one (.d (.int .i64))], 0⟩
noncomputable def k1ba (o : kf3) (nx1 : HL TB.den kfa.hs → Prop) : Exit → TSt TB.den → Prop := thenT TB (fun s => kfa.mat TB 0 s nx1) (blockT TB 0 (k1b1 o))
noncomputable def km1 (o : kf3) (nx1 : HL TB.den kfa.hs → Prop) (i : HL TB.den kfa.hs) : Prop := WP TB kax 21 0 (cA (cA (cB (cA (cB (cB kht)))))) .no (kfa.fill TB i) (k1ba o nx1)
noncomputable def k1at (o : kf3) : An TB := .nd [] .no [] (.lp [] kfa (km1 o) fun nx1 => .no)
noncomputable def k130 (o : kf3) : An TB := .nd [] .no [] (.nd [] .no [] (.nd [] (k1at o) [] .no))
noncomputable def kr9 (x : k15u) (o : kf3) : Prop := WPh TB kax 21 0 kht (k130 o) (k57.st TB x) (retTQ TB kax k57 kmf o)
set_option maxRecDepth 100000 in
theorem k1a7 (o : kf3) : OblH TB kax 21 0 kht (k130 o) (retTQ TB kax k57 kmf o) :=
  OblH.of_eq (X := (True ∧ (True ∧ ((True ∧ ((∀ nx i, (km1 o) nx i = (km1 o) nx i) ∧ ∀ nx1 : HL TB.den kfa.hs → Prop, ((True ∧ (True ∧ True)) ∧ (True ∧ True)))) ∧ (True ∧ True))))) (by kernel_rfl) ⟨trivial, ⟨trivial, ⟨⟨trivial, ⟨fun _ _ => rfl, fun _ => ⟨⟨trivial, ⟨trivial, trivial⟩⟩, ⟨trivial, trivial⟩⟩⟩⟩, ⟨trivial, trivial⟩⟩⟩⟩
set_option maxRecDepth 100000 in
theorem k1am {x : k15u} {o : kf3} (h : kr9 x o) : SoundH Try.prog k57.f ((k57.args idf x).map (er TB)) ((k57.obs idf x).map (erO TB)) (er TB (k57.val idf o)) ((k57.ops idf o).map (erO TB)) :=
  Con.soundH (c := k57) (C := kax) TBok ⟨inf_ok, (all_cons kr7 all_nil), all_nil⟩ mix Try.func86 (show Try.f86.body = some kht by kernel_rfl) (show Try.f86.ntmps = 21 by kernel_rfl) (show Try.f86.results.toList = kmf by kernel_rfl) rfl h (k1a7 o)
set_option maxRecDepth 100000 in
theorem k1bd {p0 : Int} {p1 : List Int} {r0 : Int} (h :
(Md.Loop (p0, p1, (0 : Int), (0 : Int), ()) (km1 (r0, ())))) : kr9 (p0, p1, ()) (r0, ()) := WPh.of_eq (by kernel_rfl) h
def k12j (r0 : Int) (k1 : Int → Int → Prop) (s0 : Int) (s1 : List Int) (s5 : Int) (s6 : Int) : Prop :=
(decide (s6 < (s1.length : Int)) = true →
(0 ≤ s6) ∧ s6 < (s1.length : Int) ∧ (s0 = 18446744069414584321 ∧ U64 s5 ∧ U64 (ix s1 s6)) ∧ let r1 : Int := ((s5 + (ix s1 s6)) % 18446744069414584321)
 k1 r1 (IntKind.i64.wrap (s6 + 1) : Int)) ∧
(decide (s6 < (s1.length : Int)) = false →
 s5 = r0)
set_option maxRecDepth 100000 in
theorem k1an {r0 : Int} {s0 : Int} {s1 : List Int} {s5 : Int} {s6 : Int} (inv : Int → Int → Prop) (μ : Int → Int → Nat) (h0 : inv s5 s6) (hs : ∀ (s5 : Int) (s6 : Int), inv s5 s6 → k12j r0 (fun s5q s6q => inv s5q s6q ∧ μ s5q s6q < μ s5 s6) s0 s1 s5 s6) : Md.Loop (s0, s1, s5, s6, ()) (km1 (r0, ())) :=
  ⟨⟨fun s : Int × (List Int) × Int × Int × Unit => (s.1 = s0 ∧ s.2.1 = s1) ∧ inv s.2.2.1 s.2.2.2.1, fun s : Int × (List Int) × Int × Int × Unit => μ s.2.2.1 s.2.2.2.1, ⟨⟨rfl, rfl⟩, h0⟩, fun (s0p, s1p, s5p, s6p, ()) ⟨⟨eq0, eq1⟩, hi⟩ => by
    have eq0 : s0p = s0 := eq0; subst s0p; have eq1 : s1p = s1 := eq1; subst s1p; exact mpr_of (by kernel_rfl) ((congrArg (fun k => k12j r0 k s0 s1 s5p s6p) (lpk2 (⟨rfl, rfl⟩ : s0 = s0 ∧ s1 = s1) inv (fun s5q s6q => μ s5q s6q < μ s5p s6p))).mpr (hs s5p s6p hi))⟩⟩
theorem bd86 : Callable Try.prog 86 := ⟨by rw [Try.func86]; kernel_rfl, by rw [Try.func86]; show some _ ≠ some _; decide⟩
theorem k18j (p0 : Int) (p1 : List Int) (h : p0 = 18446744069414584321 ∧ Us p1 ∧ p1.length ≤ 9223372036854775807) : kr9 (p0, p1, ()) (((p1.foldl (fun s x => (s + x) % 18446744069414584321) 0) : Int), ()) := by
  obtain ⟨rfl, h1, h2⟩ := h
  refine k1bd (k1an (fun s i => FoldI (fun s x => (s + x) % 18446744069414584321) 0 p1 i s ∧ U64 s) (fun s i => (p1.length - i).toNat) ⟨FoldI.start, by omega⟩ ?_)
  rintro s i ⟨hi, hs⟩
  refine ⟨fun hh => ?_, fun hh => hi.done (of_decide_eq_false hh)⟩
  have hh := of_decide_eq_true hh
  have hx := h1 _ (ix_mem p1 i hi.1 hh)
  have nx := hi.next hh (by omega) rfl
  exact ⟨hi.1, hh, ⟨rfl, hs, hx⟩, ⟨nx.1, by omega⟩, nx.2⟩
noncomputable def k10h : Con TB.den := k57.fnR (fun x => (fun (p0 : Int) (p1 : List Int) => p0 = 18446744069414584321 ∧ Us p1 ∧ p1.length ≤ 9223372036854775807) x.1 x.2.1) fun x => ((fun (p0 : Int) (p1 : List Int) => ((p1.foldl (fun s x => (s + x) % 18446744069414584321) 0) : Int)) x.1 x.2.1, ())
theorem k1ay : k10h.Ok Try.prog TB := Con.ok_fn k57 bd86 fun x h => k1am (k18j x.1 x.2.1 h)
end Go.Proofs.Ytponaobpcdkggaa
namespace Go.Proofs.Ytponaobpcdkggaa
open Go Go.Bv Go.Cv Go.Md Go.RowKit
def k59 : Con TB.den := Con.mk0 71 [.one (.d (.int .u64)), .agg [.d (.int .u64), .d (.int .u64), .d (.int .u64)]] [] (.one (.agg [.d (.int .u64), .d (.int .u64), .d (.int .u64)])) []
abbrev k15z := HL TB.den (hsT k59.ins (hsOs k59.pre))
abbrev kf2 := HL TB.den (hsV k59.res (hsOs k59.post))
noncomputable def kaw : Cx TB := ⟨inf, [k10h, kjw], [], 4, []⟩
noncomputable def khy : Code := Try.f71.body.getD .skip
noncomputable def kmh : List ResultVar := Try.f71.results.toList
noncomputable def k1bf (o : kf2) : Exit → TSt TB.den → Prop := thenT TB (fun s => ghs TB [] s fun s => WP TB kaw 30 0 (cB (cB (cB (cB khy)))) .no s (retTQ TB kaw k59 kmh o)) (retTQ TB kaw k59 kmh o)
def kfd : Tm := ⟨[0, 1, 3], [.cells [.d (.int .u64), .d (.int .u64), .d (.int .u64)], .cells [.d (.int .u64), .d (.int .u64), .d (.int .u64)], .cells [.d (.int .u64), .d (.int .u64), .d (.int .u64)]], [0, 3, 4, 5, 6, 7], [.one (.d (.int .u64)), .one (.ptr 0 0), .one (.ptr 1 0), .one (.d (.int .u64)), .one (.ptr 2 0), .one (.d (.int .i64))], 4⟩
noncomputable def k1bt (o : kf2) (nx1 : HL TB.den kfd.hs → Prop) : Exit → TSt TB.den → Prop := thenT TB (fun s => kfd.mat TB 0 s nx1) (blockT TB 0 (k1bf o))
noncomputable def kmr (o : kf2) (nx1 : HL TB.den kfd.hs → Prop) (i : HL TB.den kfd.hs) : Prop := WP TB kaw 30 0 (cA (cA (cB (cA (cB (cB (cB khy))))))) .no (kfd.fill TB i) (k1bt o nx1)
noncomputable def k1av (o : kf2) : An TB := .nd [] .no [] (.lp [] kfd (kmr o) fun nx1 => .no)
noncomputable def k13x (o : kf2) : An TB := .nd [] .no [] (.nd [] .no [] (.nd [] .no [] (.nd [] (k1av o) [] .no)))
noncomputable def ksa (x : k15z) (o : kf2) : Prop := WPh TB kaw 30 0 khy (k13x o) (k59.st TB x) (retTQ TB kaw k59 kmh o)
set_option maxRecDepth 100000 in
theorem k19y (o : kf2) : OblH TB kaw 30 0 khy (k13x o) (retTQ TB kaw k59 kmh o) :=
  OblH.of_eq (X := (True ∧ (True ∧ (True ∧ ((True ∧ ((∀ nx i, (kmr o) nx i = (kmr o) nx i) ∧ ∀ nx1 : HL TB.den kfd.hs → Prop, ((True ∧ (True ∧ True)) ∧ (True ∧ True)))) ∧ (True ∧ True)))))) (by kernel_rfl) ⟨trivial, ⟨trivial, ⟨trivial, ⟨⟨trivial, ⟨fun _ _ => rfl, fun _ => ⟨⟨trivial, ⟨trivial, trivial⟩⟩, ⟨trivial, trivial⟩⟩⟩⟩, ⟨trivial, trivial⟩⟩⟩⟩⟩
set_option maxRecDepth 100000 in
theorem k1al {x : k15z} {o : kf2} (h : ksa x o) : SoundH Try.prog k59.f ((k59.args idf x).map (er TB)) ((k59.obs idf x).map (erO TB)) (er TB (k59.val idf o)) ((k59.ops idf o).map (erO TB)) :=
  Con.soundH (c := k59) (C := kaw) TBok ⟨inf_ok, (all_cons k1ay (all_cons kr7 all_nil)), all_nil⟩ mix Try.func71 (show Try.f71.body = some khy by kernel_rfl) (show Try.f71.ntmps = 30 by kernel_rfl) (show Try.f71.results.toList = kmh by kernel_rfl) rfl h (k19y o)
set_option maxRecDepth 100000 in
theorem k1bp {p0 : Int} {p1 : TA3} {r0 : TA3} (h :
((p0 = 18446744069414584321 ∧ Us [p1.a0, p1.a1, p1.a2] ∧ [p1.a0, p1.a1, p1.a2].length ≤ 9223372036854775807) ∧ let r1 : Int := ([p1.a0, p1.a1, p1.a2].foldl (fun s x => (s + x) % 18446744069414584321) 0)
 Md.Loop (p0, r1, (0 : Int), p1.a0, p1.a1, p1.a2, (0 : Int), (0 : Int), (0 : Int), (0 : Int), (0 : Int), (0 : Int), ()) (kmr (r0.a0, r0.a1, r0.a2, ())))) : ksa (p0, p1.a0, p1.a1, p1.a2, ()) (r0.a0, r0.a1, r0.a2, ()) := WPh.of_eq (by kernel_rfl) h
def k133 (r0 : TA3) (k1 : Int → Int → Int → Int → Prop) (s0 : Int) (s5 : Int) (h0_0 : Int) (h0_1 : Int) (h0_2 : Int) (h1_0 : Int) (h1_1 : Int) (h1_2 : Int) (s7 : Int) (h3_0 : Int) (h3_1 : Int) (h3_2 : Int) : Prop :=
(decide (s7 < 3) = true →
(0 ≤ s7 ∧ s7 < (3 : Int)) ∧ (0 ≤ s7 ∧ s7 < (3 : Int)) ∧ (s0 = 18446744069414584321 ∧ U64 (ix [h0_0, h0_1, h0_2] s7) ∧ U64 s5) ∧ let r2 : Int := (((ix [h0_0, h0_1, h0_2] s7) + s5) % 18446744069414584321)
(0 ≤ s7 ∧ s7 < (3 : Int)) ∧ (0 ≤ s7 ∧ s7 < (3 : Int)) ∧ k1 (IntKind.i64.wrap (s7 + 1) : Int) ((bif decide (s7 = (0 : Int)) then r2 else h3_0) : Int) ((bif decide (s7 = (1 : Int)) then r2 else h3_1) : Int) ((bif decide (s7 = (2 : Int)) then r2 else h3_2) : Int)) ∧
(decide (s7 < 3) = false →
 h3_0 = r0.a0 ∧ h3_1 = r0.a1 ∧ h3_2 = r0.a2)
set_option maxRecDepth 100000 in
theorem k1ap {r0 : TA3} {s0 : Int} {s5 : Int} {h0_0 : Int} {h0_1 : Int} {h0_2 : Int} {h1_0 : Int} {h1_1 : Int} {h1_2 : Int} {s7 : Int} {h3_0 : Int} {h3_1 : Int} {h3_2 : Int} (inv : Int → Int → Int → Int → Prop) (μ : Int → Int → Int → Int → Nat) (h0 : inv s7 h3_0 h3_1 h3_2) (hs : ∀ (s7 : Int) (h3_0 : Int) (h3_1 : Int) (h3_2 : Int), inv s7 h3_0 h3_1 h3_2 → k133 r0 (fun s7q h3_0q h3_1q h3_2q => inv s7q h3_0q h3_1q h3_2q ∧ μ s7q h3_0q h3_1q h3_2q < μ s7 h3_0 h3_1 h3_2) s0 s5 h0_0 h0_1 h0_2 h1_0 h1_1 h1_2 s7 h3_0 h3_1 h3_2) : Md.Loop (s0, s5, s7, h0_0, h0_1, h0_2, h1_0, h1_1, h1_2, h3_0, h3_1, h3_2, ()) (kmr (r0.a0, r0.a1, r0.a2, ())) :=
  ⟨⟨fun s : Int × Int × Int × Int × Int × Int × Int × Int × Int × Int × Int × Int × Unit => (s.1 = s0 ∧ s.2.1 = s5 ∧ s.2.2.2.1 = h0_0 ∧ s.2.2.2.2.1 = h0_1 ∧ s.2.2.2.2.2.1 = h0_2 ∧ s.2.2.2.2.2.2.1 = h1_0 ∧ s.2.2.2.2.2.2.2.1 = h1_1 ∧ s.2.2.2.2.2.2.2.2.1 = h1_2) ∧ inv s.2.2.1 s.2.2.2.2.2.2.2.2.2.1 s.2.2.2.2.2.2.2.2.2.2.1 s.2.2.2.2.2.2.2.2.2.2.2.1, fun s : Int × Int × Int × Int × Int × Int × Int × Int × Int × Int × Int × Int × Unit => μ s.2.2.1 s.2.2.2.2.2.2.2.2.2.1 s.2.2.2.2.2.2.2.2.2.2.1 s.2.2.2.2.2.2.2.2.2.2.2.1, ⟨⟨rfl, rfl, rfl, rfl, rfl, rfl, rfl, rfl⟩, h0⟩, fun (s0p, s5p, s7p, h0_0p, h0_1p, h0_2p, h1_0p, h1_1p, h1_2p, h3_0p, h3_1p, h3_2p, ()) ⟨⟨eq0, eq1, eq2, eq3, eq4, eq5, eq6, eq7⟩, hi⟩ => by
    have eq0 : s0p = s0 := eq0; subst s0p; have eq1 : s5p = s5 := eq1; subst s5p; have eq2 : h0_0p = h0_0 := eq2; subst h0_0p; have eq3 : h0_1p = h0_1 := eq3; subst h0_1p; have eq4 : h0_2p = h0_2 := eq4; subst h0_2p; have eq5 : h1_0p = h1_0 := eq5; subst h1_0p; have eq6 : h1_1p = h1_1 := eq6; subst h1_1p; have eq7 : h1_2p = h1_2 := eq7; subst h1_2p; exact mpr_of (by kernel_rfl) ((congrArg (fun k => k133 r0 k s0 s5 h0_0 h0_1 h0_2 h1_0 h1_1 h1_2 s7p h3_0p h3_1p h3_2p) (lpk4 (⟨rfl, rfl, rfl, rfl, rfl, rfl, rfl, rfl⟩ : s0 = s0 ∧ s5 = s5 ∧ h0_0 = h0_0 ∧ h0_1 = h0_1 ∧ h0_2 = h0_2 ∧ h1_0 = h1_0 ∧ h1_1 = h1_1 ∧ h1_2 = h1_2) inv (fun s7q h3_0q h3_1q h3_2q => μ s7q h3_0q h3_1q h3_2q < μ s7p h3_0p h3_1p h3_2p))).mpr (hs s7p h3_0p h3_1p h3_2p hi))⟩⟩
theorem bd71 : Callable Try.prog 71 := ⟨by rw [Try.func71]; kernel_rfl, by rw [Try.func71]; show some _ ≠ some _; decide⟩
theorem k17r (p0 : Int) (p1 : TA3) (h : p0 = 18446744069414584321 ∧ S3 p1) : ksa (p0, p1.a0, p1.a1, p1.a2, ()) (((mixS p1).a0 : Int), ((mixS p1).a1 : Int), ((mixS p1).a2 : Int), ()) := by
  obtain ⟨rfl, h0, h1, h2⟩ := h
  have e : [p1.a0, p1.a1, p1.a2].foldl (fun s x => (s + x) % 18446744069414584321) 0 = ((p1.a0 + p1.a1) % 18446744069414584321 + p1.a2) % 18446744069414584321 := by
    show (((0 + p1.a0) % 18446744069414584321 + p1.a1) % 18446744069414584321 + p1.a2) % 18446744069414584321 = _
    omega
  refine k1bp (r0 := mixS p1) ⟨⟨rfl, ?_, by simp⟩, ?_⟩
  · intro x hx
    simp only [List.mem_cons, List.not_mem_nil, or_false] at hx
    rcases hx with rfl | rfl | rfl
    · exact h0
    · exact h1
    · exact h2
  rw [e]
  have hu : U64 (((p1.a0 + p1.a1) % 18446744069414584321 + p1.a2) % 18446744069414584321) := ⟨by omega, by omega⟩
  generalize hg : ((p1.a0 + p1.a1) % 18446744069414584321 + p1.a2) % 18446744069414584321 = t at *
  refine k1ap (r0 := mixS p1) (fun i x y z => (i = 0) ∨ (i = 1 ∧ x = (p1.a0 + t) % 18446744069414584321) ∨ (i = 2 ∧ x = (p1.a0 + t) % 18446744069414584321 ∧ y = (p1.a1 + t) % 18446744069414584321) ∨ (i = 3 ∧ x = (p1.a0 + t) % 18446744069414584321 ∧ y = (p1.a1 + t) % 18446744069414584321 ∧ z = (p1.a2 + t) % 18446744069414584321)) (fun i _ _ _ => (3 - i).toNat) (.inl rfl) ?_
  intro i x y z hi
  refine ⟨fun hh => ?_, fun hh => ?_⟩
  · have hh := of_decide_eq_true hh
    rcases hi with rfl | ⟨rfl, rfl⟩ | ⟨rfl, rfl, rfl⟩ | ⟨rfl, _⟩
    · exact ⟨by omega, by omega, ⟨rfl, h0, hu⟩, by omega, by omega, .inr (.inl ⟨rfl, rfl⟩), by decide⟩
    · exact ⟨by omega, by omega, ⟨rfl, h1, hu⟩, by omega, by omega, .inr (.inr (.inl ⟨rfl, rfl, rfl⟩)), by decide⟩
    · exact ⟨by omega, by omega, ⟨rfl, h2, hu⟩, by omega, by omega, .inr (.inr (.inr ⟨rfl, rfl, rfl, rfl⟩)), by decide⟩
    · omega
  · have hh := of_decide_eq_false hh
    rcases hi with rfl | ⟨rfl, rfl⟩ | ⟨rfl, rfl, rfl⟩ | ⟨rfl, rfl, rfl, rfl⟩
    · omega
    · omega
    · omega
    · unfold mixS
      rw [hg]
      exact ⟨rfl, rfl, rfl⟩
noncomputable def k109 : Con TB.den := k59.fnR (fun x => (fun (p0 : Int) (p1 : TA3) => p0 = 18446744069414584321 ∧ S3 p1) x.1 (TA3.mk x.2.1 x.2.2.1 x.2.2.2.1)) fun x => ((fun (p0 : Int) (p1 : TA3) => ((mixS p1).a0 : Int)) x.1 (TA3.mk x.2.1 x.2.2.1 x.2.2.2.1), (fun (p0 : Int) (p1 : TA3) => ((mixS p1).a1 : Int)) x.1 (TA3.mk x.2.1 x.2.2.1 x.2.2.2.1), (fun (p0 : Int) (p1 : TA3) => ((mixS p1).a2 : Int)) x.1 (TA3.mk x.2.1 x.2.2.1 x.2.2.2.1), ())
theorem k1b2 : k109.Ok Try.prog TB := Con.ok_fn k59 bd71 fun x h => k1al (k17r x.1 (TA3.mk x.2.1 x.2.2.1 x.2.2.2.1) h)
end Go.Proofs.Ytponaobpcdkggaa
namespace Go.Proofs.Ytponaobpcdkggaa
open Go Go.Bv Go.Cv Go.Md Go.RowKit
def k31 : Con TB.den := Con.mk0 51 [.one (.d (.int .u64)), .agg [.d (.int .u64), .d (.int .u64), .d (.int .u64)]] [] (.one (.agg [.d (.int .u64), .d (.int .u64), .d (.int .u64)])) []
abbrev kx9 := HL TB.den (hsT k31.ins (hsOs k31.pre))
abbrev k4a := HL TB.den (hsV k31.res (hsOs k31.post))
noncomputable def k54 : Cx TB := ⟨inf, [ka6, ksl, kjw, krk, k102, k109], [], 4, []⟩
noncomputable def k6p : Code := Try.f51.body.getD .skip
noncomputable def kdx : List ResultVar := Try.f51.results.toList
noncomputable def k147 (o : k4a) : Exit → TSt TB.den → Prop := thenT TB (fun s => ghs TB [] s fun s => WP TB k54 38 0 (cB (cB (cB k6p))) .no s (retTQ TB k54 k31 kdx o)) (retTQ TB k54 k31 kdx o)
def k3i : Tm := ⟨[0, 1], [.cells [.d (.int .u64), .d (.int .u64), .d (.int .u64)], .cells [.d (.int .u64), .d (.int .u64), .d (.int .u64)]], [0, 3, 4, 5], [.one (.d (.int .u64)), .one (.ptr 0 0), .one (.ptr 1 0), .one (.d (.int .i64))], 2⟩
noncomputable def kny (o : k4a) (nx2 : HL TB.den k3i.hs → Prop) : Exit → TSt TB.den → Prop := thenT TB (fun s => k3i.mat TB 0 s nx2) (blockT TB 0 (k147 o))
noncomputable def kuv (o : k4a) (nx2 : HL TB.den k3i.hs → Prop) : Exit → TSt TB.den → Prop := thenT TB (fun s => ghs TB [] s fun s => WP TB k54 38 0 (cB (cB (cA (cA (cB (cA (cB (cB k6p)))))))) .no s (kny o nx2)) (kny o nx2)
noncomputable def k146 (o : k4a) (nx2 : HL TB.den k3i.hs → Prop) : Exit → TSt TB.den → Prop := thenT TB (fun s => ghs TB [] s fun s => WP TB k54 38 0 (cB (cA (cA (cB (cA (cA (cB (cA (cB (cB k6p)))))))))) .no s (blockT TB 1 (kuv o nx2))) (blockT TB 1 (kuv o nx2))
def k90 : Tm := ⟨[0, 1], [.cells [.d (.int .u64), .d (.int .u64), .d (.int .u64)], .cells [.d (.int .u64), .d (.int .u64), .d (.int .u64)]], [0, 3, 4, 5, 6], [.one (.d (.int .u64)), .one (.ptr 0 0), .one (.ptr 1 0), .one (.d (.int .i64)), .one (.d (.int .i64))], 2⟩
noncomputable def k14v (o : k4a) (nx2 : HL TB.den k3i.hs → Prop) (nx1 : HL TB.den k90.hs → Prop) : Exit → TSt TB.den → Prop := thenT TB (fun s => k90.mat TB 0 s nx1) (blockT TB 2 (k146 o nx2))
noncomputable def ke3 (o : k4a) (nx2 : HL TB.den k3i.hs → Prop) (nx1 : HL TB.den k90.hs → Prop) (i : HL TB.den k90.hs) : Prop := WP TB k54 38 0 (cA (cA (cB (cA (cA (cA (cB (cA (cA (cB (cA (cB (cB k6p))))))))))))) .no (k90.fill TB i) (k14v o nx2 nx1)
noncomputable def k14j (o : k4a) (nx2 : HL TB.den k3i.hs → Prop) : An TB := .nd [] .no [] (.lp [] k90 (ke3 o nx2) fun nx1 => .no)
noncomputable def ktd (o : k4a) (nx2 : HL TB.den k3i.hs → Prop) : An TB := .nd [] .no [] (.nd [] (.nd [] (k14j o nx2) [] .no) [] .no)
noncomputable def kee (o : k4a) (nx2 : HL TB.den k3i.hs → Prop) (i : HL TB.den k3i.hs) : Prop := WP TB k54 38 0 (cA (cA (cB (cA (cB (cB k6p)))))) (ktd o nx2) (k3i.fill TB i) (kny o nx2)
noncomputable def k13r (o : k4a) : An TB := .lp [] k3i (kee o) fun nx2 => (ktd o nx2)
noncomputable def k12k (o : k4a) : An TB := .nd [] .no [] (.nd [] (.nd [] .no [] (k13r o)) [] .no)
noncomputable def kve (o : k4a) : An TB := .nd [] .no [] (k12k o)
noncomputable def kkp (x : kx9) (o : k4a) : Prop := WPh TB k54 38 0 k6p (kve o) (k31.st TB x) (retTQ TB k54 k31 kdx o)
set_option maxRecDepth 100000 in
theorem k13b (o : k4a) : OblH TB k54 38 0 k6p (kve o) (retTQ TB k54 k31 kdx o) :=
  OblH.of_eq (X := (True ∧ ((True ∧ ((True ∧ True) ∧ True)) ∧ ((True ∧ ((∀ nx i, (kee o) nx i = (kee o) nx i) ∧ ∀ nx2 : HL TB.den k3i.hs → Prop, ((True ∧ (True ∧ True)) ∧ (((True ∧ ((∀ nx i, (ke3 o nx2) nx i = (ke3 o nx2) nx i) ∧ ∀ nx1 : HL TB.den k90.hs → Prop, ((True ∧ (True ∧ True)) ∧ (True ∧ True)))) ∧ True) ∧ True)))) ∧ (True ∧ True))))) (by kernel_rfl) ⟨trivial, ⟨⟨trivial, ⟨⟨trivial, trivial⟩, trivial⟩⟩, ⟨⟨trivial, ⟨fun _ _ => rfl, fun _ => ⟨⟨trivial, ⟨trivial, trivial⟩⟩, ⟨⟨⟨trivial, ⟨fun _ _ => rfl, fun _ => ⟨⟨trivial, ⟨trivial, trivial⟩⟩, ⟨trivial, trivial⟩⟩⟩⟩, trivial⟩, trivial⟩⟩⟩⟩, ⟨trivial, trivial⟩⟩⟩⟩
set_option maxRecDepth 100000 in
theorem k12z {x : kx9} {o : k4a} (h : kkp x o) : SoundH Try.prog k31.f ((k31.args idf x).map (er TB)) ((k31.obs idf x).map (erO TB)) (er TB (k31.val idf o)) ((k31.ops idf o).map (erO TB)) :=
  Con.soundH (c := k31) (C := k54) TBok ⟨inf_ok, (all_cons ke7 (all_cons k13t (all_cons kr7 (all_cons k12y (all_cons k1bj (all_cons k1b2 all_nil)))))), all_nil⟩ mix Try.func51 (show Try.f51.body = some k6p by kernel_rfl) (show Try.f51.ntmps = 38 by kernel_rfl) (show Try.f51.results.toList = kdx by kernel_rfl) rfl h (k13b o)
set_option maxRecDepth 100000 in
theorem k14m {p0 : Int} {p1 : TA3} {r0 : TA3} (h :
((p0 = 18446744069414584321) ∧ ((!true) = true →
 0 = r0.a0 ∧ 0 = r0.a1 ∧ 0 = r0.a2) ∧
((!true) = false →
 Md.Loop (p0, (0 : Int), p1.a0, p1.a1, p1.a2, (0 : Int), (0 : Int), (0 : Int), ()) (kee (r0.a0, r0.a1, r0.a2, ()))))) : kkp (p0, p1.a0, p1.a1, p1.a2, ()) (r0.a0, r0.a1, r0.a2, ()) := WPh.of_eq (by kernel_rfl) h
def kvc (r0 : TA3) (nx2 : HL TB.den k3i.hs → Prop) (k2 : Int → Int → Int → Int → Prop) (s0 : Int) (h1_0 : Int) (h1_1 : Int) (h1_2 : Int) (s5 : Int) (h0_0 : Int) (h0_1 : Int) (h0_2 : Int) : Prop :=
(decide (s5 < 8) = true →
 Md.Loop (s0, s5, (0 : Int), h0_0, h0_1, h0_2, h1_0, h1_1, h1_2, ()) (ke3 (r0.a0, r0.a1, r0.a2, ()) nx2)) ∧
(decide (s5 < 8) = false →
 h0_0 = r0.a0 ∧ h0_1 = r0.a1 ∧ h0_2 = r0.a2)
set_option maxRecDepth 100000 in
theorem k13d {r0 : TA3} {s0 : Int} {h1_0 : Int} {h1_1 : Int} {h1_2 : Int} {s5 : Int} {h0_0 : Int} {h0_1 : Int} {h0_2 : Int} (inv : Int → Int → Int → Int → Prop) (μ : Int → Int → Int → Int → Nat) (h0 : inv s5 h0_0 h0_1 h0_2) (hs : ∀ (s5 : Int) (h0_0 : Int) (h0_1 : Int) (h0_2 : Int), inv s5 h0_0 h0_1 h0_2 → kvc r0 (fun s : Int × Int × Int × Int × Int × Int × Int × Int × Unit => ((s.1 = s0 ∧ s.2.2.2.2.2.1 = h1_0 ∧ s.2.2.2.2.2.2.1 = h1_1 ∧ s.2.2.2.2.2.2.2.1 = h1_2) ∧ inv s.2.1 s.2.2.1 s.2.2.2.1 s.2.2.2.2.1) ∧ μ s.2.1 s.2.2.1 s.2.2.2.1 s.2.2.2.2.1 < μ s5 h0_0 h0_1 h0_2) (fun s5q h0_0q h0_1q h0_2q => inv s5q h0_0q h0_1q h0_2q ∧ μ s5q h0_0q h0_1q h0_2q < μ s5 h0_0 h0_1 h0_2) s0 h1_0 h1_1 h1_2 s5 h0_0 h0_1 h0_2) : Md.Loop (s0, s5, h0_0, h0_1, h0_2, h1_0, h1_1, h1_2, ()) (kee (r0.a0, r0.a1, r0.a2, ())) :=
  ⟨⟨fun s : Int × Int × Int × Int × Int × Int × Int × Int × Unit => (s.1 = s0 ∧ s.2.2.2.2.2.1 = h1_0 ∧ s.2.2.2.2.2.2.1 = h1_1 ∧ s.2.2.2.2.2.2.2.1 = h1_2) ∧ inv s.2.1 s.2.2.1 s.2.2.2.1 s.2.2.2.2.1, fun s : Int × Int × Int × Int × Int × Int × Int × Int × Unit => μ s.2.1 s.2.2.1 s.2.2.2.1 s.2.2.2.2.1, ⟨⟨rfl, rfl, rfl, rfl⟩, h0⟩, fun (s0p, s5p, h0_0p, h0_1p, h0_2p, h1_0p, h1_1p, h1_2p, ()) ⟨⟨eq0, eq1, eq2, eq3⟩, hi⟩ => by
    have eq0 : s0p = s0 := eq0; subst s0p; have eq1 : h1_0p = h1_0 := eq1; subst h1_0p; have eq2 : h1_1p = h1_1 := eq2; subst h1_1p; have eq3 : h1_2p = h1_2 := eq3; subst h1_2p; exact mpr_of (by kernel_rfl) ((congrArg (fun k => kvc r0 (fun s : Int × Int × Int × Int × Int × Int × Int × Int × Unit => ((s.1 = s0 ∧ s.2.2.2.2.2.1 = h1_0 ∧ s.2.2.2.2.2.2.1 = h1_1 ∧ s.2.2.2.2.2.2.2.1 = h1_2) ∧ inv s.2.1 s.2.2.1 s.2.2.2.1 s.2.2.2.2.1) ∧ μ s.2.1 s.2.2.1 s.2.2.2.1 s.2.2.2.2.1 < μ s5p h0_0p h0_1p h0_2p) k s0 h1_0 h1_1 h1_2 s5p h0_0p h0_1p h0_2p) (lpk4 (⟨rfl, rfl, rfl, rfl⟩ : s0 = s0 ∧ h1_0 = h1_0 ∧ h1_1 = h1_1 ∧ h1_2 = h1_2) inv (fun s5q h0_0q h0_1q h0_2q => μ s5q h0_0q h0_1q h0_2q < μ s5p h0_0p h0_1p h0_2p))).mpr (hs s5p h0_0p h0_1p h0_2p hi))⟩⟩
def kv5 (r0 : TA3) (nx2 : HL TB.den k3i.hs → Prop) (k1 : Int → Int → Int → Int → Prop) (s0 : Int) (s5 : Int) (h1_0 : Int) (h1_1 : Int) (h1_2 : Int) (s6 : Int) (h0_0 : Int) (h0_1 : Int) (h0_2 : Int) : Prop :=
(decide (s6 < 3) = true →
(0 ≤ s6 ∧ s6 < (3 : Int)) ∧ (0 ≤ s6 ∧ s6 < (3 : Int)) ∧ (s0 = 18446744069414584321 ∧ (0 ≤ s5 ∧ s5 < 8) ∧ 0 ≤ s6 ∧ s6 < 3) ∧ (s0 = 18446744069414584321 ∧ U64 (ix [h0_0, h0_1, h0_2] s6) ∧ U64 (rc s5 s6)) ∧ let r1 : Int := (((ix [h0_0, h0_1, h0_2] s6) + (rc s5 s6)) % 18446744069414584321)
(s0 = 18446744069414584321) ∧ (s0 = 18446744069414584321 ∧ U64 r1 ∧ U64 (7 : Int)) ∧ (0 ≤ s6 ∧ s6 < (3 : Int)) ∧ (0 ≤ s6 ∧ s6 < (3 : Int)) ∧ k1 (IntKind.i64.wrap (s6 + 1) : Int) ((bif decide (s6 = (0 : Int)) then (pw r1 (7 : Int)) else h0_0) : Int) ((bif decide (s6 = (1 : Int)) then (pw r1 (7 : Int)) else h0_1) : Int) ((bif decide (s6 = (2 : Int)) then (pw r1 (7 : Int)) else h0_2) : Int)) ∧
(decide (s6 < 3) = false →
(s0 = 18446744069414584321 ∧ S3 (TA3.mk h0_0 h0_1 h0_2)) ∧ nx2 (s0, (IntKind.i64.wrap (s5 + 1) : Int), ((mixS (TA3.mk h0_0 h0_1 h0_2)).a0 : Int), ((mixS (TA3.mk h0_0 h0_1 h0_2)).a1 : Int), ((mixS (TA3.mk h0_0 h0_1 h0_2)).a2 : Int), h1_0, h1_1, h1_2, ()))
set_option maxRecDepth 100000 in
theorem k12l {r0 : TA3} {nx2 : HL TB.den k3i.hs → Prop} {s0 : Int} {s5 : Int} {h1_0 : Int} {h1_1 : Int} {h1_2 : Int} {s6 : Int} {h0_0 : Int} {h0_1 : Int} {h0_2 : Int} (inv : Int → Int → Int → Int → Prop) (μ : Int → Int → Int → Int → Nat) (h0 : inv s6 h0_0 h0_1 h0_2) (hs : ∀ (s6 : Int) (h0_0 : Int) (h0_1 : Int) (h0_2 : Int), inv s6 h0_0 h0_1 h0_2 → kv5 r0 nx2 (fun s6q h0_0q h0_1q h0_2q => inv s6q h0_0q h0_1q h0_2q ∧ μ s6q h0_0q h0_1q h0_2q < μ s6 h0_0 h0_1 h0_2) s0 s5 h1_0 h1_1 h1_2 s6 h0_0 h0_1 h0_2) : Md.Loop (s0, s5, s6, h0_0, h0_1, h0_2, h1_0, h1_1, h1_2, ()) (ke3 (r0.a0, r0.a1, r0.a2, ()) nx2) :=
  ⟨⟨fun s : Int × Int × Int × Int × Int × Int × Int × Int × Int × Unit => (s.1 = s0 ∧ s.2.1 = s5 ∧ s.2.2.2.2.2.2.1 = h1_0 ∧ s.2.2.2.2.2.2.2.1 = h1_1 ∧ s.2.2.2.2.2.2.2.2.1 = h1_2) ∧ inv s.2.2.1 s.2.2.2.1 s.2.2.2.2.1 s.2.2.2.2.2.1, fun s : Int × Int × Int × Int × Int × Int × Int × Int × Int × Unit => μ s.2.2.1 s.2.2.2.1 s.2.2.2.2.1 s.2.2.2.2.2.1, ⟨⟨rfl, rfl, rfl, rfl, rfl⟩, h0⟩, fun (s0p, s5p, s6p, h0_0p, h0_1p, h0_2p, h1_0p, h1_1p, h1_2p, ()) ⟨⟨eq0, eq1, eq2, eq3, eq4⟩, hi⟩ => by
    have eq0 : s0p = s0 := eq0; subst s0p; have eq1 : s5p = s5 := eq1; subst s5p; have eq2 : h1_0p = h1_0 := eq2; subst h1_0p; have eq3 : h1_1p = h1_1 := eq3; subst h1_1p; have eq4 : h1_2p = h1_2 := eq4; subst h1_2p; exact mpr_of (by kernel_rfl) ((congrArg (fun k => kv5 r0 nx2 k s0 s5 h1_0 h1_1 h1_2 s6p h0_0p h0_1p h0_2p) (lpk4 (⟨rfl, rfl, rfl, rfl, rfl⟩ : s0 = s0 ∧ s5 = s5 ∧ h1_0 = h1_0 ∧ h1_1 = h1_1 ∧ h1_2 = h1_2) inv (fun s6q h0_0q h0_1q h0_2q => μ s6q h0_0q h0_1q h0_2q < μ s6p h0_0p h0_1p h0_2p))).mpr (hs s6p h0_0p h0_1p h0_2p hi))⟩⟩
theorem bd51 : Callable Try.prog 51 := ⟨by rw [Try.func51]; kernel_rfl, by rw [Try.func51]; show some _ ≠ some _; decide⟩
theorem k12d (p0 : Int) (p1 : TA3) (h : p0 = 18446744069414584321 ∧ S3 p1) : kkp (p0, p1.a0, p1.a1, p1.a2, ()) (((permS p1).a0 : Int), ((permS p1).a1 : Int), ((permS p1).a2 : Int), ()) := by
  obtain ⟨hP, hs⟩ := h
  subst hP
  refine k14m ⟨rfl, fun h => by simp at h, fun _ => ?_⟩
  refine k13d (r0 := permS p1) (fun n a b c => 0 ≤ n ∧ n ≤ 8 ∧ (⟨a, b, c⟩ : TA3) = rnds n.toNat p1 ∧ S3 ⟨a, b, c⟩) (fun n _ _ _ => (8 - n).toNat) ⟨by omega, by omega, rfl, hs⟩ ?_
  rintro n a b c ⟨g0, g1, g2, g3⟩
  refine ⟨fun h => ?_, fun h => ?_⟩
  · have h := of_decide_eq_true h
    refine k12l (r0 := permS p1) (fun i x y z => (i = 0 ∧ x = a ∧ y = b ∧ z = c) ∨ (i = 1 ∧ x = pw ((a + rc n 0) % 18446744069414584321) 7 ∧ y = b ∧ z = c) ∨ (i = 2 ∧ x = pw ((a + rc n 0) % 18446744069414584321) 7 ∧ y = pw ((b + rc n 1) % 18446744069414584321) 7 ∧ z = c) ∨ (i = 3 ∧ x = pw ((a + rc n 0) % 18446744069414584321) 7 ∧ y = pw ((b + rc n 1) % 18446744069414584321) 7 ∧ z = pw ((c + rc n 2) % 18446744069414584321) 7)) (fun i _ _ _ => (3 - i).toNat) (.inl ⟨rfl, rfl, rfl, rfl⟩) ?_
    intro i x y z hi
    have hrc : ∀ k, U64 (rc n k) := fun k => by unfold rc; omega
    have hpw : ∀ k e, 0 ≤ pw k e ∧ pw k e < 18446744069414584321 := fun k e => ⟨Int.emod_nonneg _ (by omega), Int.emod_lt_of_pos _ (by omega)⟩
    obtain ⟨h3a, h3b, h3c⟩ := g3
    have u7 : U64 7 := by decide
    have hm : ∀ q : Int, U64 (q % 18446744069414584321) := fun q => ⟨Int.emod_nonneg _ (by omega), Int.lt_trans (Int.emod_lt_of_pos _ (by omega)) (by omega)⟩
    refine ⟨fun hh => ?_, fun hh => ?_⟩
    · have hh := of_decide_eq_true hh
      rcases hi with ⟨rfl, rfl, rfl, rfl⟩ | ⟨rfl, rfl, rfl, rfl⟩ | ⟨rfl, rfl, rfl, rfl⟩ | ⟨rfl, _⟩
      · exact ⟨by omega, by omega, ⟨rfl, by omega, by omega⟩, ⟨rfl, h3a, hrc _⟩, rfl, ⟨rfl, hm _, u7⟩, by omega, by omega, .inr (.inl ⟨rfl, rfl, rfl, rfl⟩), by decide⟩
      · exact ⟨by omega, by omega, ⟨rfl, by omega, by omega⟩, ⟨rfl, h3b, hrc _⟩, rfl, ⟨rfl, hm _, u7⟩, by omega, by omega, .inr (.inr (.inl ⟨rfl, rfl, rfl, rfl⟩)), by decide⟩
      · exact ⟨by omega, by omega, ⟨rfl, by omega, by omega⟩, ⟨rfl, h3c, hrc _⟩, rfl, ⟨rfl, hm _, u7⟩, by omega, by omega, .inr (.inr (.inr ⟨rfl, rfl, rfl, rfl⟩)), by decide⟩
      · omega
    · have hh := of_decide_eq_false hh
      rcases hi with ⟨rfl, _⟩ | ⟨rfl, _⟩ | ⟨rfl, _⟩ | ⟨rfl, rfl, rfl, rfl⟩
      · omega
      · omega
      · omega
      · have e : rnds (n + 1).toNat p1 = rnd ⟨a, b, c⟩ n := by
          rw [show (n + 1).toNat = n.toNat + 1 by omega]
          show rnd (rnds n.toNat p1) (n.toNat : Int) = _
          rw [← g2, show (n.toNat : Int) = n by omega]
        have hS : S3 (rnds (n + 1).toNat p1) := by
          rw [e]
          unfold rnd mixS S3
          dsimp only
          omega
        have hinc : IntKind.i64.wrap (n + 1) = n + 1 := wi _ (by omega) (by omega)
        rw [hinc]
        refine ⟨⟨rfl, by unfold S3; have := hpw ((a + rc n 0) % 18446744069414584321) 7; have := hpw ((b + rc n 1) % 18446744069414584321) 7; have := hpw ((c + rc n 2) % 18446744069414584321) 7; dsimp only; omega⟩, ⟨⟨rfl, rfl, rfl, rfl⟩, (?_ : 0 ≤ n + 1 ∧ n + 1 ≤ 8 ∧ _ ∧ _)⟩, (?_ : (8 - (n + 1)).toNat < (8 - n).toNat)⟩
        · refine ⟨by omega, by omega, e.symm, ?_⟩
          rw [e] at hS
          exact hS
        · omega
  · have h := of_decide_eq_false h
    rw [show n = 8 by omega] at g2
    have g2 : (⟨a, b, c⟩ : TA3) = permS p1 := g2
    rw [← g2]
    exact ⟨rfl, rfl, rfl⟩
noncomputable def ktn : Con TB.den := k31.fnR (fun x => (fun (p0 : Int) (p1 : TA3) => p0 = 18446744069414584321 ∧ S3 p1) x.1 (TA3.mk x.2.1 x.2.2.1 x.2.2.2.1)) fun x => ((fun (p0 : Int) (p1 : TA3) => ((permS p1).a0 : Int)) x.1 (TA3.mk x.2.1 x.2.2.1 x.2.2.2.1), (fun (p0 : Int) (p1 : TA3) => ((permS p1).a1 : Int)) x.1 (TA3.mk x.2.1 x.2.2.1 x.2.2.2.1), (fun (p0 : Int) (p1 : TA3) => ((permS p1).a2 : Int)) x.1 (TA3.mk x.2.1 x.2.2.1 x.2.2.2.1), ())
theorem k141 : ktn.Ok Try.prog TB := Con.ok_fn k31 bd51 fun x h => k12z (k12d x.1 (TA3.mk x.2.1 x.2.2.1 x.2.2.2.1) h)
end Go.Proofs.Ytponaobpcdkggaa
namespace Go.Proofs.Ytponaobpcdkggaa
open Go Go.Bv Go.Cv Go.Md Go.RowKit
def k3j : Con TB.den := Con.mk0 39 [.one (.d (.int .u64)), .one (.d (.int .u64)), .one (.d (.sl (.int .u64)))] [] (.one (.agg [.d (.int .u64), .d (.int .u64), .d (.int .u64)])) []
abbrev ky2 := HL TB.den (hsT k3j.ins (hsOs k3j.pre))
abbrev k3o := HL TB.den (hsV k3j.res (hsOs k3j.post))
noncomputable def k55 : Cx TB := ⟨inf, [kul, kjw, ktn], [], 4, []⟩
noncomputable def k6g : Code := Try.f39.body.getD .skip
noncomputable def kfp : List ResultVar := Try.f39.results.toList
noncomputable def k16w (o : k3o) : Exit → TSt TB.den → Prop := thenT TB (fun s => ghs TB [] s fun s => WP TB k55 60 0 (cB (cB (cB k6g))) .no s (retTQ TB k55 k3j kfp o)) (retTQ TB k55 k3j kfp o)
def k2j : Tm := ⟨[0, 1], [.cells [.d (.int .u64), .d (.int .u64), .d (.int .u64)], .cells [.d (.int .u64), .d (.int .u64), .d (.int .u64)]], [0, 2, 6, 7, 8], [.one (.d (.int .u64)), .one (.d (.sl (.int .u64))), .one (.ptr 0 0), .one (.ptr 1 0), .one (.d (.int .i64))], 2⟩
noncomputable def kkm (o : k3o) (nx1 : HL TB.den k2j.hs → Prop) : Exit → TSt TB.den → Prop := thenT TB (fun s => k2j.mat TB 0 s nx1) (blockT TB 0 (k16w o))
noncomputable def kwz (o : k3o) (nx1 : HL TB.den k2j.hs → Prop) : Exit → TSt TB.den → Prop := thenT TB (fun s => ghs TB [] s fun s => WP TB k55 60 0 (cB (cB (cA (cA (cB (cA (cB (cB k6g)))))))) .no s (kkm o nx1)) (kkm o nx1)
def ke6 : Tm := ⟨[0, 1], [.cells [.d (.int .u64), .d (.int .u64), .d (.int .u64)], .cells [.d (.int .u64), .d (.int .u64), .d (.int .u64)]], [0, 2, 6, 7, 8], [.one (.d (.int .u64)), .one (.d (.sl (.int .u64))), .one (.ptr 0 0), .one (.ptr 1 0), .one (.d (.int .i64))], 2⟩
noncomputable def kuw (o : k3o) (nx1 : HL TB.den k2j.hs → Prop) (i : HL TB.den ke6.hs) : Prop := ghs TB [] (ke6.fill TB i) fun s => WP TB k55 60 0 (cB (cB (cA (cA (cB (cA (cA (cB (cA (cB (cB k6g))))))))))) .no s (blockT TB 1 (kwz o nx1))
structure ka7 (o : k3o) (nx1 : HL TB.den k2j.hs → Prop) (i : HL TB.den ke6.hs) : Prop where
  h : kuw o nx1 i
def ki9 : Tm := ⟨[0, 1], [.cells [.d (.int .u64), .d (.int .u64), .d (.int .u64)], .cells [.d (.int .u64), .d (.int .u64), .d (.int .u64)]], [0, 2, 6, 7, 8], [.one (.d (.int .u64)), .one (.d (.sl (.int .u64))), .one (.ptr 0 0), .one (.ptr 1 0), .one (.d (.int .i64))], 2⟩
noncomputable def kv3 (o : k3o) (nx1 : HL TB.den k2j.hs → Prop) (i : HL TB.den ki9.hs) : Prop := ghs TB [] (ki9.fill TB i) fun s => WP TB k55 60 0 (cB (cA (cA (cB (cA (cA (cB (cA (cB (cB k6g)))))))))) (.jn ke6 (ka7 o nx1) [] .no [] .no) s (blockT TB 1 (kwz o nx1))
structure kg0 (o : k3o) (nx1 : HL TB.den k2j.hs → Prop) (i : HL TB.den ki9.hs) : Prop where
  h : kv3 o nx1 i
noncomputable def kx8 (o : k3o) (nx1 : HL TB.den k2j.hs → Prop) : An TB := .jn ki9 (kg0 o nx1) [] .no [] (.jn ke6 (ka7 o nx1) [] .no [] .no)
def kin : Tm := ⟨[0, 1], [.cells [.d (.int .u64), .d (.int .u64), .d (.int .u64)], .cells [.d (.int .u64), .d (.int .u64), .d (.int .u64)]], [0, 2, 6, 7, 8], [.one (.d (.int .u64)), .one (.d (.sl (.int .u64))), .one (.ptr 0 0), .one (.ptr 1 0), .one (.d (.int .i64))], 2⟩
noncomputable def kv4 (o : k3o) (nx1 : HL TB.den k2j.hs → Prop) (i : HL TB.den kin.hs) : Prop := ghs TB [] (kin.fill TB i) fun s => WP TB k55 60 0 (cB (cA (cA (cB (cA (cB (cB k6g))))))) (.nd [] (kx8 o nx1) [] .no) s (kkm o nx1)
structure kc5 (o : k3o) (nx1 : HL TB.den k2j.hs → Prop) (i : HL TB.den kin.hs) : Prop where
  h : kv4 o nx1 i
noncomputable def kwe (o : k3o) (nx1 : HL TB.den k2j.hs → Prop) : An TB := .jn kin (kc5 o nx1) [] .no [] (.nd [] (kx8 o nx1) [] .no)
noncomputable def kfq (o : k3o) (nx1 : HL TB.den k2j.hs → Prop) (i : HL TB.den k2j.hs) : Prop := WP TB k55 60 0 (cA (cA (cB (cA (cB (cB k6g)))))) (kwe o nx1) (k2j.fill TB i) (kkm o nx1)
noncomputable def k16h (o : k3o) : An TB := .lp [] k2j (kfq o) fun nx1 => (kwe o nx1)
noncomputable def k150 (o : k3o) : An TB := .nd [] .no [] (.nd [] (.nd [] .no [] (k16h o)) [] .no)
noncomputable def kwv (o : k3o) : An TB := .nd [] .no [] (k150 o)
noncomputable def kmb (x : ky2) (o : k3o) : Prop := WPh TB k55 60 0 k6g (kwv o) (k3j.st TB x) (retTQ TB k55 k3j kfp o)
set_option maxRecDepth 100000 in
theorem k14o (o : k3o) : OblH TB k55 60 0 k6g (kwv o) (retTQ TB k55 k3j kfp o) :=
  OblH.of_eq (X := (True ∧ (True ∧ ((True ∧ ((∀ nx i, (kfq o) nx i = (kfq o) nx i) ∧ ∀ nx1 : HL TB.den k2j.hs → Prop, ((True ∧ (True ∧ True)) ∧ (∀ i, (kc5 o nx1) i = (kv4 o nx1) i) ∧ (((True ∧ (True ∧ True)) ∧ (∀ i, (kg0 o nx1) i = (kv3 o nx1) i) ∧ ((True ∧ (True ∧ True)) ∧ (∀ i, (ka7 o nx1) i = (kuw o nx1) i) ∧ True)) ∧ True)))) ∧ (True ∧ True))))) (by kernel_rfl) ⟨trivial, ⟨trivial, ⟨⟨trivial, ⟨fun _ _ => rfl, fun _ => ⟨⟨trivial, ⟨trivial, trivial⟩⟩, fun _ => propext ⟨fun h => h.1, fun h => ⟨h⟩⟩, ⟨⟨⟨trivial, ⟨trivial, trivial⟩⟩, fun _ => propext ⟨fun h => h.1, fun h => ⟨h⟩⟩, ⟨⟨trivial, ⟨trivial, trivial⟩⟩, fun _ => propext ⟨fun h => h.1, fun h => ⟨h⟩⟩, trivial⟩⟩, trivial⟩⟩⟩⟩, ⟨trivial, trivial⟩⟩⟩⟩
set_option maxRecDepth 100000 in
theorem k151 {x : ky2} {o : k3o} (h : kmb x o) : SoundH Try.prog k3j.f ((k3j.args idf x).map (er TB)) ((k3j.obs idf x).map (erO TB)) (er TB (k3j.val idf o)) ((k3j.ops idf o).map (erO TB)) :=
  Con.soundH (c := k3j) (C := k55) TBok ⟨inf_ok, (all_cons k134 (all_cons kr7 (all_cons k141 all_nil))), all_nil⟩ mix Try.func39 (show Try.f39.body = some k6g by kernel_rfl) (show Try.f39.ntmps = 60 by kernel_rfl) (show Try.f39.results.toList = kfp by kernel_rfl) rfl h (k14o o)
set_option maxRecDepth 100000 in
theorem k17e {p0 : Int} {p1 : Int} {p2 : List Int} {r0 : TA3} (h :
((p0 = 18446744069414584321 ∧ U64 p1 ∧ U64 (65536 : Int)) ∧ let r1 : Int := (p1 * (65536 : Int) % 18446744069414584321)
(p0 = 18446744069414584321 ∧ U64 r1 ∧ U64 (IntKind.u64.wrap (p2.length : Int))) ∧ let r2 : Int := ((r1 + (IntKind.u64.wrap (p2.length : Int))) % 18446744069414584321)
 Md.Loop (p0, p2, (0 : Int), (0 : Int), (0 : Int), (0 : Int), (0 : Int), (0 : Int), r2, ()) (kfq (r0.a0, r0.a1, r0.a2, ())))) : kmb (p0, p1, p2, ()) (r0.a0, r0.a1, r0.a2, ()) := WPh.of_eq (by kernel_rfl) h
set_option maxRecDepth 100000 in
theorem k122 {r0 : TA3} {nx1 : HL TB.den k2j.hs → Prop} {s0 : Int} {s2 : List Int} {s8 : Int} {h0_0 : Int} {h0_1 : Int} {h0_2 : Int} {h1_0 : Int} {h1_1 : Int} {h1_2 : Int} (h :
((decide (s8 < (s2.length : Int)) = true →
(0 ≤ s8) ∧ s8 < (s2.length : Int) ∧ (s0 = 18446744069414584321 ∧ U64 h1_0 ∧ U64 (ix s2 s8)) ∧ let r3 : Int := ((h1_0 + (ix s2 s8)) % 18446744069414584321)
 kg0 (r0.a0, r0.a1, r0.a2, ()) nx1 (s0, s2, s8, h0_0, h0_1, h0_2, r3, h1_1, h1_2, ())) ∧
(decide (s8 < (s2.length : Int)) = false →
 kg0 (r0.a0, r0.a1, r0.a2, ()) nx1 (s0, s2, s8, h0_0, h0_1, h0_2, h1_0, h1_1, h1_2, ())))) : kc5 (r0.a0, r0.a1, r0.a2, ()) nx1 (s0, s2, s8, h0_0, h0_1, h0_2, h1_0, h1_1, h1_2, ()) := ⟨mpr_of (by kernel_rfl) h⟩
set_option maxRecDepth 100000 in
theorem kra {r0 : TA3} {nx1 : HL TB.den k2j.hs → Prop} {s0 : Int} {s2 : List Int} {s8 : Int} {h0_0 : Int} {h0_1 : Int} {h0_2 : Int} {h1_0 : Int} {h1_1 : Int} {h1_2 : Int} (h :
(let v4 : Bool := decide ((IntKind.i64.wrap (s8 + 1)) < (s2.length : Int))
(v4 = true →
(0 ≤ IntKind.i64.wrap (s8 + 1)) ∧ IntKind.i64.wrap (s8 + 1) < (s2.length : Int) ∧ (s0 = 18446744069414584321 ∧ U64 h1_1 ∧ U64 (ix s2 (IntKind.i64.wrap (s8 + 1)))) ∧ let r5 : Int := ((h1_1 + (ix s2 (IntKind.i64.wrap (s8 + 1)))) % 18446744069414584321)
 ka7 (r0.a0, r0.a1, r0.a2, ()) nx1 (s0, s2, s8, h0_0, h0_1, h0_2, h1_0, r5, h1_2, ())) ∧
(v4 = false →
 ka7 (r0.a0, r0.a1, r0.a2, ()) nx1 (s0, s2, s8, h0_0, h0_1, h0_2, h1_0, h1_1, h1_2, ())))) : kg0 (r0.a0, r0.a1, r0.a2, ()) nx1 (s0, s2, s8, h0_0, h0_1, h0_2, h1_0, h1_1, h1_2, ()) := ⟨mpr_of (by kernel_rfl) h⟩
set_option maxRecDepth 100000 in
theorem k11l {r0 : TA3} {nx1 : HL TB.den k2j.hs → Prop} {s0 : Int} {s2 : List Int} {s8 : Int} {h0_0 : Int} {h0_1 : Int} {h0_2 : Int} {h1_0 : Int} {h1_1 : Int} {h1_2 : Int} (h :
((s0 = 18446744069414584321 ∧ S3 (TA3.mk h1_0 h1_1 h1_2)) ∧ nx1 (s0, s2, (IntKind.i64.wrap (s8 + 2) : Int), h0_0, h0_1, h0_2, ((permS (TA3.mk h1_0 h1_1 h1_2)).a0 : Int), ((permS (TA3.mk h1_0 h1_1 h1_2)).a1 : Int), ((permS (TA3.mk h1_0 h1_1 h1_2)).a2 : Int), ()))) : ka7 (r0.a0, r0.a1, r0.a2, ()) nx1 (s0, s2, s8, h0_0, h0_1, h0_2, h1_0, h1_1, h1_2, ()) := ⟨mpr_of (by kernel_rfl) h⟩
def kx7 (r0 : TA3) (nx1 : HL TB.den k2j.hs → Prop) (k1 : Int → Int → Int → Int → Prop) (s0 : Int) (s2 : List Int) (h0_0 : Int) (h0_1 : Int) (h0_2 : Int) (s8 : Int) (h1_0 : Int) (h1_1 : Int) (h1_2 : Int) : Prop :=
((s8 == 0) = true →
 kc5 (r0.a0, r0.a1, r0.a2, ()) nx1 (s0, s2, s8, h0_0, h0_1, h0_2, h1_0, h1_1, h1_2, ())) ∧
((s8 == 0) = false →
(decide (s8 < (s2.length : Int)) = true →
 kc5 (r0.a0, r0.a1, r0.a2, ()) nx1 (s0, s2, s8, h0_0, h0_1, h0_2, h1_0, h1_1, h1_2, ())) ∧
(decide (s8 < (s2.length : Int)) = false →
 h1_0 = r0.a0 ∧ h1_1 = r0.a1 ∧ h1_2 = r0.a2))
set_option maxRecDepth 100000 in
theorem k14t {r0 : TA3} {s0 : Int} {s2 : List Int} {h0_0 : Int} {h0_1 : Int} {h0_2 : Int} {s8 : Int} {h1_0 : Int} {h1_1 : Int} {h1_2 : Int} (inv : Int → Int → Int → Int → Prop) (μ : Int → Int → Int → Int → Nat) (h0 : inv s8 h1_0 h1_1 h1_2) (hs : ∀ (s8 : Int) (h1_0 : Int) (h1_1 : Int) (h1_2 : Int), inv s8 h1_0 h1_1 h1_2 → kx7 r0 (fun s : Int × (List Int) × Int × Int × Int × Int × Int × Int × Int × Unit => ((s.1 = s0 ∧ s.2.1 = s2 ∧ s.2.2.2.1 = h0_0 ∧ s.2.2.2.2.1 = h0_1 ∧ s.2.2.2.2.2.1 = h0_2) ∧ inv s.2.2.1 s.2.2.2.2.2.2.1 s.2.2.2.2.2.2.2.1 s.2.2.2.2.2.2.2.2.1) ∧ μ s.2.2.1 s.2.2.2.2.2.2.1 s.2.2.2.2.2.2.2.1 s.2.2.2.2.2.2.2.2.1 < μ s8 h1_0 h1_1 h1_2) (fun s8q h1_0q h1_1q h1_2q => inv s8q h1_0q h1_1q h1_2q ∧ μ s8q h1_0q h1_1q h1_2q < μ s8 h1_0 h1_1 h1_2) s0 s2 h0_0 h0_1 h0_2 s8 h1_0 h1_1 h1_2) : Md.Loop (s0, s2, s8, h0_0, h0_1, h0_2, h1_0, h1_1, h1_2, ()) (kfq (r0.a0, r0.a1, r0.a2, ())) :=
  ⟨⟨fun s : Int × (List Int) × Int × Int × Int × Int × Int × Int × Int × Unit => (s.1 = s0 ∧ s.2.1 = s2 ∧ s.2.2.2.1 = h0_0 ∧ s.2.2.2.2.1 = h0_1 ∧ s.2.2.2.2.2.1 = h0_2) ∧ inv s.2.2.1 s.2.2.2.2.2.2.1 s.2.2.2.2.2.2.2.1 s.2.2.2.2.2.2.2.2.1, fun s : Int × (List Int) × Int × Int × Int × Int × Int × Int × Int × Unit => μ s.2.2.1 s.2.2.2.2.2.2.1 s.2.2.2.2.2.2.2.1 s.2.2.2.2.2.2.2.2.1, ⟨⟨rfl, rfl, rfl, rfl, rfl⟩, h0⟩, fun (s0p, s2p, s8p, h0_0p, h0_1p, h0_2p, h1_0p, h1_1p, h1_2p, ()) ⟨⟨eq0, eq1, eq2, eq3, eq4⟩, hi⟩ => by
    have eq0 : s0p = s0 := eq0; subst s0p; have eq1 : s2p = s2 := eq1; subst s2p; have eq2 : h0_0p = h0_0 := eq2; subst h0_0p; have eq3 : h0_1p = h0_1 := eq3; subst h0_1p; have eq4 : h0_2p = h0_2 := eq4; subst h0_2p; exact mpr_of (by kernel_rfl) ((congrArg (fun k => kx7 r0 (fun s : Int × (List Int) × Int × Int × Int × Int × Int × Int × Int × Unit => ((s.1 = s0 ∧ s.2.1 = s2 ∧ s.2.2.2.1 = h0_0 ∧ s.2.2.2.2.1 = h0_1 ∧ s.2.2.2.2.2.1 = h0_2) ∧ inv s.2.2.1 s.2.2.2.2.2.2.1 s.2.2.2.2.2.2.2.1 s.2.2.2.2.2.2.2.2.1) ∧ μ s.2.2.1 s.2.2.2.2.2.2.1 s.2.2.2.2.2.2.2.1 s.2.2.2.2.2.2.2.2.1 < μ s8p h1_0p h1_1p h1_2p) k s0 s2 h0_0 h0_1 h0_2 s8p h1_0p h1_1p h1_2p) (lpk4 (⟨rfl, rfl, rfl, rfl, rfl⟩ : s0 = s0 ∧ s2 = s2 ∧ h0_0 = h0_0 ∧ h0_1 = h0_1 ∧ h0_2 = h0_2) inv (fun s8q h1_0q h1_1q h1_2q => μ s8q h1_0q h1_1q h1_2q < μ s8p h1_0p h1_1p h1_2p))).mpr (hs s8p h1_0p h1_1p h1_2p hi))⟩⟩
theorem bd39 : Callable Try.prog 39 := ⟨by rw [Try.func39]; kernel_rfl, by rw [Try.func39]; show some _ ≠ some _; decide⟩
theorem k13p (p0 : Int) (p1 : Int) (p2 : List Int) (h : p0 = 18446744069414584321 ∧ U64 p1 ∧ Us p2 ∧ p2.length ≤ 1099511627776) : kmb (p0, p1, p2, ()) (((absS p1 p2).a0 : Int), ((absS p1 p2).a1 : Int), ((absS p1 p2).a2 : Int), ()) := by
  obtain ⟨hP, h1, h2, h3⟩ := h
  subst hP
  have hp := kg8
  have hi : S3 (absI p1 p2) := by unfold absI S3; dsimp only; omega
  have e : IntKind.u64.wrap (p2.length : Int) = p2.length := wu _ (by omega) (by omega)
  have em : (p1 * 65536 % 18446744069414584321 + (p2.length : Int)) % 18446744069414584321 = (absI p1 p2).a2 := rfl
  refine k17e ?_
  rw [e]
  refine ⟨⟨rfl, h1, by omega⟩, ⟨rfl, by omega, by omega⟩, ?_⟩
  rw [em]
  have j3 : ∀ nx (i x y z : Int), 0 ≤ i → i ≤ p2.length → S3 ⟨x, y, z⟩ → nx ((18446744069414584321 : Int), p2, (i + 2 : Int), (0 : Int), (0 : Int), (0 : Int), (permS ⟨x, y, z⟩).a0, (permS ⟨x, y, z⟩).a1, (permS ⟨x, y, z⟩).a2, ()) → ka7 ((absS p1 p2).a0, (absS p1 p2).a1, (absS p1 p2).a2, ()) nx ((18446744069414584321 : Int), p2, i, (0 : Int), (0 : Int), (0 : Int), x, y, z, ()) := by
    intro nx i x y z g0 g1 hS hn
    refine k11l (r0 := absS p1 p2) ?_
    rw [wi (i + 2) (by omega) (by omega)]
    exact ⟨⟨rfl, hS⟩, hn⟩
  refine k14t (r0 := absS p1 p2) (fun i a b c => (i = 0 ∧ a = 0 ∧ b = 0 ∧ c = (absI p1 p2).a2) ∨ (0 < i ∧ i ≤ p2.length + 2 ∧ absL (p2.drop i.toNat) ⟨a, b, c⟩ = absS p1 p2 ∧ S3 ⟨a, b, c⟩)) (fun i _ _ _ => (p2.length + 4 - i).toNat) (.inl ⟨rfl, rfl, rfl, rfl⟩) ?_
  intro i a b c hg
  have body : ∀ (i : Int) (a b c : Int), 0 ≤ i → i ≤ p2.length → (i < p2.length → absL (p2.drop i.toNat) ⟨a, b, c⟩ = absS p1 p2) → (¬ i < p2.length → permS ⟨a, b, c⟩ = absS p1 p2) → S3 ⟨a, b, c⟩ → ∀ nx, (∀ x y z, absL (p2.drop (i + 2).toNat) ⟨x, y, z⟩ = absS p1 p2 → S3 ⟨x, y, z⟩ → nx ((18446744069414584321 : Int), p2, (i + 2 : Int), (0 : Int), (0 : Int), (0 : Int), x, y, z, ())) →
      kc5 ((absS p1 p2).a0, (absS p1 p2).a1, (absS p1 p2).a2, ()) nx ((18446744069414584321 : Int), p2, i, (0 : Int), (0 : Int), (0 : Int), a, b, c, ()) := by
    intro i a b c g0 g1 hne hnil hS nx hn
    obtain ⟨h3a, h3b, h3c⟩ := hS
    refine k122 (r0 := absS p1 p2) ⟨fun hh => ?_, fun hh => ?_⟩
    · have hh := of_decide_eq_true hh
      have hx := h2 _ (ix_mem p2 i g0 hh)
      have g2 := hne hh
      rw [drop_ix p2 i g0 hh] at g2
      refine ⟨g0, hh, ⟨rfl, h3a, hx⟩, kra (r0 := absS p1 p2) ?_⟩
      rw [wi (i + 1) (by omega) (by omega)]
      refine ⟨fun h5 => ?_, fun h5 => ?_⟩
      · have h5 := of_decide_eq_true h5
        have hy := h2 _ (ix_mem p2 (i + 1) (by omega) h5)
        rw [drop_ix p2 (i + 1) (by omega) h5, show i + 1 + 1 = i + 2 by omega] at g2
        exact ⟨by omega, h5, ⟨rfl, h3b, hy⟩, j3 _ _ _ _ _ g0 g1 (S3m (by omega) (by omega) h3c) (hn _ _ _ g2 (hp _))⟩
      · have h5 := of_decide_eq_false h5
        have ed : p2.drop (i + 1).toNat = [] := List.drop_eq_nil_of_le (by omega)
        have ed2 : p2.drop (i + 2).toNat = [] := List.drop_eq_nil_of_le (by omega)
        rw [ed] at g2
        exact j3 _ _ _ _ _ g0 g1 (S3m (by omega) h3b h3c) (hn _ _ _ (by rw [ed2]; exact g2) (hp _))
    · have hh := of_decide_eq_false hh
      refine kra (r0 := absS p1 p2) ?_
      rw [wi (i + 1) (by omega) (by omega)]
      refine ⟨fun h5 => ?_, fun h5 => ?_⟩
      · have h5 := of_decide_eq_true h5
        omega
      · have ed2 : p2.drop (i + 2).toNat = [] := List.drop_eq_nil_of_le (by omega)
        exact j3 _ _ _ _ _ g0 g1 (S3m h3a h3b h3c) (hn _ _ _ (by rw [ed2]; exact hnil hh) (hp _))
  refine ⟨fun h0 => ?_, fun h0 => ⟨fun hh => ?_, fun hh => ?_⟩⟩
  · have h0 : i = 0 := by simpa using h0
    rcases hg with ⟨_, rfl, rfl, rfl⟩ | ⟨hp0, _⟩
    · subst h0
      refine body 0 _ _ _ (by omega) (by omega) (fun hl => ?_) (fun hl => ?_) hi _ fun x y z k1 k2 => ⟨⟨⟨rfl, rfl, rfl, rfl, rfl⟩, .inr ⟨(by omega : (0 : Int) < 0 + 2), (by omega : (0 : Int) + 2 ≤ p2.length + 2), k1, k2⟩⟩, (by omega : (p2.length + 4 - ((0 : Int) + 2)).toNat < (p2.length + 4 - 0 : Int).toNat)⟩
      · have hne : p2 ≠ [] := by rintro rfl; simp at hl
        unfold absS
        rw [if_neg hne]
        rfl
      · have hnil : p2 = [] := List.eq_nil_of_length_eq_zero (by omega)
        unfold absS
        rw [if_pos hnil]
        rfl
    · omega
  · have h0 : ¬ i = 0 := by simpa using h0
    have hh := of_decide_eq_true hh
    rcases hg with ⟨h1, _⟩ | ⟨g0, g1, g2, g3⟩
    · omega
    · exact body i _ _ _ (by omega) (by omega) (fun _ => g2) (fun hl => absurd hh hl) g3 _ fun x y z k1 k2 => ⟨⟨⟨rfl, rfl, rfl, rfl, rfl⟩, .inr ⟨(by omega : 0 < i + 2), (by omega : i + 2 ≤ p2.length + 2), k1, k2⟩⟩, (by omega : (p2.length + 4 - (i + 2)).toNat < (p2.length + 4 - i).toNat)⟩
  · have h0 : ¬ i = 0 := by simpa using h0
    have hh := of_decide_eq_false hh
    rcases hg with ⟨h1, _⟩ | ⟨g0, g1, g2, g3⟩
    · omega
    · rw [List.drop_eq_nil_of_le (by omega)] at g2
      have hv : (⟨a, b, c⟩ : TA3) = absS p1 p2 := g2
      rw [← hv]
      exact ⟨rfl, rfl, rfl⟩
noncomputable def kva : Con TB.den := k3j.fnR (fun x => (fun (p0 : Int) (p1 : Int) (p2 : List Int) => p0 = 18446744069414584321 ∧ U64 p1 ∧ Us p2 ∧ p2.length ≤ 1099511627776) x.1 x.2.1 x.2.2.1) fun x => ((fun (p0 : Int) (p1 : Int) (p2 : List Int) => ((absS p1 p2).a0 : Int)) x.1 x.2.1 x.2.2.1, (fun (p0 : Int) (p1 : Int) (p2 : List Int) => ((absS p1 p2).a1 : Int)) x.1 x.2.1 x.2.2.1, (fun (p0 : Int) (p1 : Int) (p2 : List Int) => ((absS p1 p2).a2 : Int)) x.1 x.2.1 x.2.2.1, ())
theorem k16q : kva.Ok Try.prog TB := Con.ok_fn k3j bd39 fun x h => k151 (k13p x.1 x.2.1 x.2.2.1 h)
end Go.Proofs.Ytponaobpcdkggaa
namespace Go.Proofs.Ytponaobpcdkggaa
open Go Go.Bv Go.Cv Go.Md Go.RowKit
def k5e : Con TB.den := Con.mk0 29 [.one (.d (.int .u64)), .one (.d (.int .u64)), .one (.d (.sl (.int .u64)))] [] (.one (.one (.d (.int .u64)))) []
abbrev k13z := HL TB.den (hsT k5e.ins (hsOs k5e.pre))
abbrev kr6 := HL TB.den (hsV k5e.res (hsOs k5e.post))
noncomputable def kjv : Cx TB := ⟨inf, [ka6, kva], [], 4, []⟩
noncomputable def kpx : Code := Try.f29.body.getD .skip
noncomputable def kuj : List ResultVar := Try.f29.results.toList
noncomputable def k10e (o : kr6) : An TB := .no
noncomputable def kpu (x : k13z) (o : kr6) : Prop := WPh TB kjv 15 0 kpx (k10e o) (k5e.st TB x) (retTQ TB kjv k5e kuj o)
set_option maxRecDepth 100000 in
theorem k18p (o : kr6) : OblH TB kjv 15 0 kpx (k10e o) (retTQ TB kjv k5e kuj o) :=
  OblH.of_eq (X := (True ∧ ((True ∧ ((True ∧ True) ∧ True)) ∧ (True ∧ True)))) (by kernel_rfl) ⟨trivial, ⟨⟨trivial, ⟨⟨trivial, trivial⟩, trivial⟩⟩, ⟨trivial, trivial⟩⟩⟩
set_option maxRecDepth 100000 in
theorem k18q {x : k13z} {o : kr6} (h : kpu x o) : SoundH Try.prog k5e.f ((k5e.args idf x).map (er TB)) ((k5e.obs idf x).map (erO TB)) (er TB (k5e.val idf o)) ((k5e.ops idf o).map (erO TB)) :=
  Con.soundH (c := k5e) (C := kjv) TBok ⟨inf_ok, (all_cons ke7 (all_cons k16q all_nil)), all_nil⟩ mix Try.func29 (show Try.f29.body = some kpx by kernel_rfl) (show Try.f29.ntmps = 15 by kernel_rfl) (show Try.f29.results.toList = kuj by kernel_rfl) rfl h (k18p o)
set_option maxRecDepth 100000 in
theorem k1as {p0 : Int} {p1 : Int} {p2 : List Int} {r0 : Int} (h :
((p0 = 18446744069414584321) ∧ ((!true) = true →
 0 = r0) ∧
((!true) = false →
(p0 = 18446744069414584321 ∧ U64 p1 ∧ Us p2 ∧ p2.length ≤ 1099511627776) ∧ (absS p1 p2).a0 = r0))) : kpu (p0, p1, p2, ()) (r0, ()) := WPh.of_eq (by kernel_rfl) h
theorem bd29 : Callable Try.prog 29 := ⟨by rw [Try.func29]; kernel_rfl, by rw [Try.func29]; show some _ ≠ some _; decide⟩
theorem k175 (p0 : Int) (p1 : Int) (p2 : List Int) (h : p0 = 18446744069414584321 ∧ U64 p1 ∧ Us p2 ∧ p2.length ≤ 1099511627776) : kpu (p0, p1, p2, ()) (((hashS p1 p2) : Int), ()) := by
  obtain ⟨hP, h1, h2, h3⟩ := h
  subst hP
  exact k1as ⟨rfl, fun h => by simp at h, fun _ => ⟨⟨rfl, h1, h2, h3⟩, rfl⟩⟩
noncomputable def kyb : Con TB.den := k5e.fnR (fun x => (fun (p0 : Int) (p1 : Int) (p2 : List Int) => p0 = 18446744069414584321 ∧ U64 p1 ∧ Us p2 ∧ p2.length ≤ 1099511627776) x.1 x.2.1 x.2.2.1) fun x => ((fun (p0 : Int) (p1 : Int) (p2 : List Int) => ((hashS p1 p2) : Int)) x.1 x.2.1 x.2.2.1, ())
theorem k1ac : kyb.Ok Try.prog TB := Con.ok_fn k5e bd29 fun x h => k18q (k175 x.1 x.2.1 x.2.2.1 h)
end Go.Proofs.Ytponaobpcdkggaa
namespace Go.Proofs.Ytponaobpcdkggaa
open Go Go.Bv Go.Cv Go.Md Go.RowKit
theorem bd40 : Callable Try.prog 40 := ⟨by rw [Try.func40]; kernel_rfl, by rw [Try.func40]; show some _ ≠ some _; decide⟩
end Go.Proofs.Ytponaobpcdkggaa
namespace Go.Proofs.Ytponaobpcdkggaa
open Go Go.Bv Go.Cv Go.Md Go.RowKit
def k2z : Con TB.den := Con.mk0 40 [.one (.ptr 0 0)] [.cells [.d (.bool), .d (.int .u64), .d (.int .i64), .own 1, .mp 2, .mp 3, .mp 4], .tip (.st 1), .map (.str) (.int .i64), .map (.str) (.sl (.int .u64)), .map (.str) (.bool)] (.one (.one (.d (.int .u64)))) [.cells [.d (.bool), .d (.int .u64), .d (.int .i64), .own 1, .mp 2, .mp 3, .mp 4], .tip (.st 1), .map (.str) (.int .i64), .map (.str) (.sl (.int .u64)), .map (.str) (.bool)]
abbrev kty := HL TB.den (hsT k2z.ins (hsOs k2z.pre))
abbrev kgp := HL TB.den (hsV k2z.res (hsOs k2z.post))
noncomputable def kbf : Cx TB := ⟨inf, [], [], 4, []⟩
noncomputable def kh9 : Code := Try.f40.body.getD .skip
noncomputable def kkt : List ResultVar := Try.f40.results.toList
noncomputable def krj (o : kgp) : An TB := .no
noncomputable def ki1 (x : kty) (o : kgp) : Prop := WPh TB kbf 42 5 kh9 (krj o) (k2z.st TB x) (retTQ TB kbf k2z kkt o)
set_option maxRecDepth 100000 in
theorem kzv (o : kgp) : OblH TB kbf 42 5 kh9 (krj o) (retTQ TB kbf k2z kkt o) :=
  OblH.of_eq (X := (True ∧ ((True ∧ ((True ∧ True) ∧ True)) ∧ (True ∧ (True ∧ (True ∧ (True ∧ (True ∧ (True ∧ True))))))))) (by kernel_rfl) ⟨trivial, ⟨⟨trivial, ⟨⟨trivial, trivial⟩, trivial⟩⟩, ⟨trivial, ⟨trivial, ⟨trivial, ⟨trivial, ⟨trivial, ⟨trivial, trivial⟩⟩⟩⟩⟩⟩⟩⟩
set_option maxRecDepth 100000 in
theorem kzt {x : kty} {o : kgp} (h : ki1 x o) : SoundH Try.prog k2z.f ((k2z.args idf x).map (er TB)) ((k2z.obs idf x).map (erO TB)) (er TB (k2z.val idf o)) ((k2z.ops idf o).map (erO TB)) :=
  Con.soundH (c := k2z) (C := kbf) TBok ⟨inf_ok, all_nil, all_nil⟩ mix Try.func40 (show Try.f40.body = some kh9 by kernel_rfl) (show Try.f40.ntmps = 42 by kernel_rfl) (show Try.f40.results.toList = kkt by kernel_rfl) rfl h (kzv o)
set_option maxRecDepth 100000 in
theorem k119 {c0_0 : Bool} {c0_1 : Int} {c0_2 : Int} {w1 : List TQuestion} {w2k : List ByteArray} {w2v : List Int} {w3k : List ByteArray} {w3v : List (List Int)} {w4k : List ByteArray} {w4v : List Bool} {r0 : Int} {d0_0 : Bool} {d0_1 : Int} {d0_2 : Int} {e1 : List TQuestion} {e2k : List ByteArray} {e2v : List Int} {e3k : List ByteArray} {e3v : List (List Int)} {e4k : List ByteArray} {e4v : List Bool} (h :
(((!c0_0) = true →
(w1 = w1) ∧ 0 = r0 ∧ c0_0 = d0_0 ∧ c0_1 = d0_1 ∧ c0_2 = d0_2 ∧ w1 = e1 ∧ w2k = e2k ∧ w2v = e2v ∧ w3k = e3k ∧ w3v = e3v ∧ w4k = e4k ∧ w4v = e4v) ∧
((!c0_0) = false →
 let v1 : Int := IntKind.u64.wrap (c0_1 + 11400714819323198485)
 let v2 : Int := IntKind.u64.wrap ((ixor .u64 v1 (ishr .u64 v1 30)) * 13787848793156543929)
 let v3 : Int := IntKind.u64.wrap ((ixor .u64 v2 (ishr .u64 v2 27)) * 10723151780598845931)
 let v4 : Int := Int.tmod (ixor .u64 v3 (ishr .u64 v3 31)) 18446744069414584321
(w1 = w1) ∧ v4 = r0 ∧ c0_0 = d0_0 ∧ v1 = d0_1 ∧ IntKind.i64.wrap (c0_2 + 1) = d0_2 ∧ w1 = e1 ∧ w2k = e2k ∧ w2v = e2v ∧ w3k = e3k ∧ w3v = e3v ∧ w4k = e4k ∧ w4v = e4v))) : ki1 (c0_0, c0_1, c0_2, w1, w2k, w2v, w3k, w3v, w4k, w4v, ()) (r0, d0_0, d0_1, d0_2, e1, e2k, e2v, e3k, e3v, e4k, e4v, ()) := WPh.of_eq (by kernel_rfl) h
theorem kz4 (c0_0 : Bool) (c0_1 : Int) (c0_2 : Int) (w1 : List TQuestion) (w2k : List ByteArray) (w2v : List Int) (w3k : List ByteArray) (w3v : List (List Int)) (w4k : List ByteArray) (w4v : List Bool) : ki1 (c0_0, c0_1, c0_2, w1, w2k, w2v, w3k, w3v, w4k, w4v, ()) ((((drO (OS.mk c0_0 c0_1 c0_2 w1 w2k w2v w3k w3v w4k w4v)).n) : Int), (((drO (OS.mk c0_0 c0_1 c0_2 w1 w2k w2v w3k w3v w4k w4v)).o.a) : Bool), (((drO (OS.mk c0_0 c0_1 c0_2 w1 w2k w2v w3k w3v w4k w4v)).o.b) : Int), (((drO (OS.mk c0_0 c0_1 c0_2 w1 w2k w2v w3k w3v w4k w4v)).o.c) : Int), (((drO (OS.mk c0_0 c0_1 c0_2 w1 w2k w2v w3k w3v w4k w4v)).o.q) : List TQuestion), (((drO (OS.mk c0_0 c0_1 c0_2 w1 w2k w2v w3k w3v w4k w4v)).o.k) : List ByteArray), (((drO (OS.mk c0_0 c0_1 c0_2 w1 w2k w2v w3k w3v w4k w4v)).o.v) : List Int), (((drO (OS.mk c0_0 c0_1 c0_2 w1 w2k w2v w3k w3v w4k w4v)).o.s) : List ByteArray), (((drO (OS.mk c0_0 c0_1 c0_2 w1 w2k w2v w3k w3v w4k w4v)).o.t) : List (List Int)), (((drO (OS.mk c0_0 c0_1 c0_2 w1 w2k w2v w3k w3v w4k w4v)).o.x) : List ByteArray), (((drO (OS.mk c0_0 c0_1 c0_2 w1 w2k w2v w3k w3v w4k w4v)).o.y) : List Bool), ()) := by
  refine k119 ⟨fun e => ?_, fun e => ?_⟩
  · have e : c0_0 = false := by simpa using e
    subst e
    exact ⟨rfl, rfl, rfl, rfl, rfl, rfl, rfl, rfl, rfl, rfl, rfl, rfl⟩
  · have e : c0_0 = true := by simpa using e
    subst e
    exact ⟨rfl, rfl, rfl, rfl, rfl, rfl, rfl, rfl, rfl, rfl, rfl, rfl⟩
noncomputable def kqp : Con TB.den := k2z.totR fun x => ((fun (c0_0 : Bool) (c0_1 : Int) (c0_2 : Int) (w1 : List TQuestion) (w2k : List ByteArray) (w2v : List Int) (w3k : List ByteArray) (w3v : List (List Int)) (w4k : List ByteArray) (w4v : List Bool) => (((drO (OS.mk c0_0 c0_1 c0_2 w1 w2k w2v w3k w3v w4k w4v)).n) : Int)) x.1 x.2.1 x.2.2.1 x.2.2.2.1 x.2.2.2.2.1 x.2.2.2.2.2.1 x.2.2.2.2.2.2.1 x.2.2.2.2.2.2.2.1 x.2.2.2.2.2.2.2.2.1 x.2.2.2.2.2.2.2.2.2.1, (fun (c0_0 : Bool) (c0_1 : Int) (c0_2 : Int) (w1 : List TQuestion) (w2k : List ByteArray) (w2v : List Int) (w3k : List ByteArray) (w3v : List (List Int)) (w4k : List ByteArray) (w4v : List Bool) => (((drO (OS.mk c0_0 c0_1 c0_2 w1 w2k w2v w3k w3v w4k w4v)).o.a) : Bool)) x.1 x.2.1 x.2.2.1 x.2.2.2.1 x.2.2.2.2.1 x.2.2.2.2.2.1 x.2.2.2.2.2.2.1 x.2.2.2.2.2.2.2.1 x.2.2.2.2.2.2.2.2.1 x.2.2.2.2.2.2.2.2.2.1, (fun (c0_0 : Bool) (c0_1 : Int) (c0_2 : Int) (w1 : List TQuestion) (w2k : List ByteArray) (w2v : List Int) (w3k : List ByteArray) (w3v : List (List Int)) (w4k : List ByteArray) (w4v : List Bool) => (((drO (OS.mk c0_0 c0_1 c0_2 w1 w2k w2v w3k w3v w4k w4v)).o.b) : Int)) x.1 x.2.1 x.2.2.1 x.2.2.2.1 x.2.2.2.2.1 x.2.2.2.2.2.1 x.2.2.2.2.2.2.1 x.2.2.2.2.2.2.2.1 x.2.2.2.2.2.2.2.2.1 x.2.2.2.2.2.2.2.2.2.1, (fun (c0_0 : Bool) (c0_1 : Int) (c0_2 : Int) (w1 : List TQuestion) (w2k : List ByteArray) (w2v : List Int) (w3k : List ByteArray) (w3v : List (List Int)) (w4k : List ByteArray) (w4v : List Bool) => (((drO (OS.mk c0_0 c0_1 c0_2 w1 w2k w2v w3k w3v w4k w4v)).o.c) : Int)) x.1 x.2.1 x.2.2.1 x.2.2.2.1 x.2.2.2.2.1 x.2.2.2.2.2.1 x.2.2.2.2.2.2.1 x.2.2.2.2.2.2.2.1 x.2.2.2.2.2.2.2.2.1 x.2.2.2.2.2.2.2.2.2.1, (fun (c0_0 : Bool) (c0_1 : Int) (c0_2 : Int) (w1 : List TQuestion) (w2k : List ByteArray) (w2v : List Int) (w3k : List ByteArray) (w3v : List (List Int)) (w4k : List ByteArray) (w4v : List Bool) => (((drO (OS.mk c0_0 c0_1 c0_2 w1 w2k w2v w3k w3v w4k w4v)).o.q) : List TQuestion)) x.1 x.2.1 x.2.2.1 x.2.2.2.1 x.2.2.2.2.1 x.2.2.2.2.2.1 x.2.2.2.2.2.2.1 x.2.2.2.2.2.2.2.1 x.2.2.2.2.2.2.2.2.1 x.2.2.2.2.2.2.2.2.2.1, (fun (c0_0 : Bool) (c0_1 : Int) (c0_2 : Int) (w1 : List TQuestion) (w2k : List ByteArray) (w2v : List Int) (w3k : List ByteArray) (w3v : List (List Int)) (w4k : List ByteArray) (w4v : List Bool) => (((drO (OS.mk c0_0 c0_1 c0_2 w1 w2k w2v w3k w3v w4k w4v)).o.k) : List ByteArray)) x.1 x.2.1 x.2.2.1 x.2.2.2.1 x.2.2.2.2.1 x.2.2.2.2.2.1 x.2.2.2.2.2.2.1 x.2.2.2.2.2.2.2.1 x.2.2.2.2.2.2.2.2.1 x.2.2.2.2.2.2.2.2.2.1, (fun (c0_0 : Bool) (c0_1 : Int) (c0_2 : Int) (w1 : List TQuestion) (w2k : List ByteArray) (w2v : List Int) (w3k : List ByteArray) (w3v : List (List Int)) (w4k : List ByteArray) (w4v : List Bool) => (((drO (OS.mk c0_0 c0_1 c0_2 w1 w2k w2v w3k w3v w4k w4v)).o.v) : List Int)) x.1 x.2.1 x.2.2.1 x.2.2.2.1 x.2.2.2.2.1 x.2.2.2.2.2.1 x.2.2.2.2.2.2.1 x.2.2.2.2.2.2.2.1 x.2.2.2.2.2.2.2.2.1 x.2.2.2.2.2.2.2.2.2.1, (fun (c0_0 : Bool) (c0_1 : Int) (c0_2 : Int) (w1 : List TQuestion) (w2k : List ByteArray) (w2v : List Int) (w3k : List ByteArray) (w3v : List (List Int)) (w4k : List ByteArray) (w4v : List Bool) => (((drO (OS.mk c0_0 c0_1 c0_2 w1 w2k w2v w3k w3v w4k w4v)).o.s) : List ByteArray)) x.1 x.2.1 x.2.2.1 x.2.2.2.1 x.2.2.2.2.1 x.2.2.2.2.2.1 x.2.2.2.2.2.2.1 x.2.2.2.2.2.2.2.1 x.2.2.2.2.2.2.2.2.1 x.2.2.2.2.2.2.2.2.2.1, (fun (c0_0 : Bool) (c0_1 : Int) (c0_2 : Int) (w1 : List TQuestion) (w2k : List ByteArray) (w2v : List Int) (w3k : List ByteArray) (w3v : List (List Int)) (w4k : List ByteArray) (w4v : List Bool) => (((drO (OS.mk c0_0 c0_1 c0_2 w1 w2k w2v w3k w3v w4k w4v)).o.t) : List (List Int))) x.1 x.2.1 x.2.2.1 x.2.2.2.1 x.2.2.2.2.1 x.2.2.2.2.2.1 x.2.2.2.2.2.2.1 x.2.2.2.2.2.2.2.1 x.2.2.2.2.2.2.2.2.1 x.2.2.2.2.2.2.2.2.2.1, (fun (c0_0 : Bool) (c0_1 : Int) (c0_2 : Int) (w1 : List TQuestion) (w2k : List ByteArray) (w2v : List Int) (w3k : List ByteArray) (w3v : List (List Int)) (w4k : List ByteArray) (w4v : List Bool) => (((drO (OS.mk c0_0 c0_1 c0_2 w1 w2k w2v w3k w3v w4k w4v)).o.x) : List ByteArray)) x.1 x.2.1 x.2.2.1 x.2.2.2.1 x.2.2.2.2.1 x.2.2.2.2.2.1 x.2.2.2.2.2.2.1 x.2.2.2.2.2.2.2.1 x.2.2.2.2.2.2.2.2.1 x.2.2.2.2.2.2.2.2.2.1, (fun (c0_0 : Bool) (c0_1 : Int) (c0_2 : Int) (w1 : List TQuestion) (w2k : List ByteArray) (w2v : List Int) (w3k : List ByteArray) (w3v : List (List Int)) (w4k : List ByteArray) (w4v : List Bool) => (((drO (OS.mk c0_0 c0_1 c0_2 w1 w2k w2v w3k w3v w4k w4v)).o.y) : List Bool)) x.1 x.2.1 x.2.2.1 x.2.2.2.1 x.2.2.2.2.1 x.2.2.2.2.2.1 x.2.2.2.2.2.2.1 x.2.2.2.2.2.2.2.1 x.2.2.2.2.2.2.2.2.1 x.2.2.2.2.2.2.2.2.2.1, ())
theorem k113 : kqp.Ok Try.prog TB := Con.ok_tot k2z bd40 fun x => kzt (kz4 x.1 x.2.1 x.2.2.1 x.2.2.2.1 x.2.2.2.2.1 x.2.2.2.2.2.1 x.2.2.2.2.2.2.1 x.2.2.2.2.2.2.2.1 x.2.2.2.2.2.2.2.2.1 x.2.2.2.2.2.2.2.2.2.1)
end Go.Proofs.Ytponaobpcdkggaa
namespace Go.Proofs.Ytponaobpcdkggaa
open Go Go.Bv Go.Cv Go.Md Go.RowKit
def k2x : Con TB.den := Con.mk0 42 [.one (.d (.sl (.int .u64)))] [] (.one (.one (.d (.sl (.int .u64))))) []
abbrev kts := HL TB.den (hsT k2x.ins (hsOs k2x.pre))
abbrev kgk := HL TB.den (hsV k2x.res (hsOs k2x.post))
noncomputable def kbn : Cx TB := ⟨inf, [], [], 4, []⟩
noncomputable def khk : Code := Try.f42.body.getD .skip
noncomputable def kl5 : List ResultVar := Try.f42.results.toList
noncomputable def ks4 (o : kgk) : An TB := .no
noncomputable def khn (x : kts) (o : kgk) : Prop := WPh TB kbn 5 0 khk (ks4 o) (k2x.st TB x) (retTQ TB kbn k2x kl5 o)
set_option maxRecDepth 100000 in
theorem kza (o : kgk) : OblH TB kbn 5 0 khk (ks4 o) (retTQ TB kbn k2x kl5 o) :=
  OblH.of_eq (X := (True ∧ (True ∧ True))) (by kernel_rfl) ⟨trivial, ⟨trivial, trivial⟩⟩
set_option maxRecDepth 100000 in
theorem kzd {x : kts} {o : kgk} (h : khn x o) : SoundH Try.prog k2x.f ((k2x.args idf x).map (er TB)) ((k2x.obs idf x).map (erO TB)) (er TB (k2x.val idf o)) ((k2x.ops idf o).map (erO TB)) :=
  Con.soundH (c := k2x) (C := kbn) TBok ⟨inf_ok, all_nil, all_nil⟩ mix Try.func42 (show Try.f42.body = some khk by kernel_rfl) (show Try.f42.ntmps = 5 by kernel_rfl) (show Try.f42.results.toList = kl5 by kernel_rfl) rfl h (kza o)
set_option maxRecDepth 100000 in
theorem k127 {p0 : List Int} {r0 : List Int} (h :
(p0.length * 8 ≤ 140737488355328 ∧ p0.length ≤ maxLen ∧ p0 = r0)) : khn (p0, ()) (r0, ()) := WPh.of_eq (by kernel_rfl) h
theorem bd42 : Callable Try.prog 42 := ⟨by rw [Try.func42]; kernel_rfl, by rw [Try.func42]; show some _ ≠ some _; decide⟩
theorem kyq (p0 : List Int) (h : p0.length ≤ 1000000000) : khn (p0, ()) ((p0 : List Int), ()) := by
  exact k127 ⟨by omega, by unfold maxLen; omega, rfl⟩
noncomputable def kqb : Con TB.den := k2x.fnR (fun x => (fun (p0 : List Int) => p0.length ≤ 1000000000) x.1) fun x => ((fun (p0 : List Int) => (p0 : List Int)) x.1, ())
theorem k11s : kqb.Ok Try.prog TB := Con.ok_fn k2x bd42 fun x h => kzd (kyq x.1 h)
end Go.Proofs.Ytponaobpcdkggaa
namespace Go.Proofs.Ytponaobpcdkggaa
open Go Go.Bv Go.Cv Go.Md Go.RowKit
def k2a : Con TB.den := Con.mk0 41 [.one (.ptr 0 0), .one (.d (.str)), .one (.d (.int .u64)), .one (.d (.sl (.int .u64))), .one (.d (.int .u64))] [.cells [.d (.bool), .d (.int .u64), .d (.int .i64), .own 1, .mp 2, .mp 3, .mp 4], .tip (.st 1), .map (.str) (.int .i64), .map (.str) (.sl (.int .u64)), .map (.str) (.bool)] (.tup []) [.cells [.d (.bool), .d (.int .u64), .d (.int .i64), .own 1, .mp 2, .mp 3, .mp 4], .tip (.st 1), .map (.str) (.int .i64), .map (.str) (.sl (.int .u64)), .map (.str) (.bool)]
abbrev kqn := HL TB.den (hsT k2a.ins (hsOs k2a.pre))
abbrev kd9 := HL TB.den (hsV k2a.res (hsOs k2a.post))
noncomputable def k9d : Cx TB := ⟨inf, [kqb], [], 4, []⟩
noncomputable def kff : Code := Try.f41.body.getD .skip
noncomputable def khg : List ResultVar := Try.f41.results.toList
noncomputable def kpd (o : kd9) : An TB := .no
noncomputable def kfk (x : kqn) (o : kd9) : Prop := WPh TB k9d 43 5 kff (kpd o) (k2a.st TB x) (retTQ TB k9d k2a khg o)
set_option maxRecDepth 100000 in
theorem kxf (o : kd9) : OblH TB k9d 43 5 kff (kpd o) (retTQ TB k9d k2a khg o) :=
  OblH.of_eq (X := ((True ∧ (True ∧ True)) ∧ (True ∧ True))) (by kernel_rfl) ⟨⟨trivial, ⟨trivial, trivial⟩⟩, ⟨trivial, trivial⟩⟩
set_option maxRecDepth 100000 in
theorem kxn {x : kqn} {o : kd9} (h : kfk x o) : SoundH Try.prog k2a.f ((k2a.args idf x).map (er TB)) ((k2a.obs idf x).map (erO TB)) (er TB (k2a.val idf o)) ((k2a.ops idf o).map (erO TB)) :=
  Con.soundH (c := k2a) (C := k9d) TBok ⟨inf_ok, (all_cons k11s all_nil), all_nil⟩ mix Try.func41 (show Try.f41.body = some kff by kernel_rfl) (show Try.f41.ntmps = 43 by kernel_rfl) (show Try.f41.results.toList = khg by kernel_rfl) rfl h (kxf o)
set_option maxRecDepth 100000 in
theorem kyi {p1 : ByteArray} {p2 : Int} {p3 : List Int} {p4 : Int} {c0_0 : Bool} {c0_1 : Int} {c0_2 : Int} {w1 : List TQuestion} {w2k : List ByteArray} {w2v : List Int} {w3k : List ByteArray} {w3v : List (List Int)} {w4k : List ByteArray} {w4v : List Bool} {d0_0 : Bool} {d0_1 : Int} {d0_2 : Int} {e1 : List TQuestion} {e2k : List ByteArray} {e2v : List Int} {e3k : List ByteArray} {e3v : List (List Int)} {e4k : List ByteArray} {e4v : List Bool} (h :
(w2k.length = w2v.length ∧ let v1 : List ByteArray := mPutK (BEq.beq p1) w2k p1
 let v2 : List Int := mPutV (BEq.beq p1) w2k w2v (w1.length : Int)
(p3.length ≤ 1000000000) ∧ w1.length = w1.length ∧ (w1.length + [TQuestion.mk p2 p3 p4].length) * 40 ≤ 140737488355328 ∧ w1.length + [TQuestion.mk p2 p3 p4].length ≤ maxLen ∧ (w1 ++ [TQuestion.mk p2 p3 p4] = w1 ++ [TQuestion.mk p2 p3 p4]) ∧ c0_0 = d0_0 ∧ c0_1 = d0_1 ∧ c0_2 = d0_2 ∧ w1 ++ [TQuestion.mk p2 p3 p4] = e1 ∧ v1 = e2k ∧ v2 = e2v ∧ w3k = e3k ∧ w3v = e3v ∧ w4k = e4k ∧ w4v = e4v)) : kfk (p1, p2, p3, p4, c0_0, c0_1, c0_2, w1, w2k, w2v, w3k, w3v, w4k, w4v, ()) (d0_0, d0_1, d0_2, e1, e2k, e2v, e3k, e3v, e4k, e4v, ()) := WPh.of_eq (by kernel_rfl) h
theorem bd41 : Callable Try.prog 41 := ⟨by rw [Try.func41]; kernel_rfl, by rw [Try.func41]; show some _ ≠ some _; decide⟩
theorem kvg (p1 : ByteArray) (p2 : Int) (p3 : List Int) (p4 : Int) (c0_0 : Bool) (c0_1 : Int) (c0_2 : Int) (w1 : List TQuestion) (w2k : List ByteArray) (w2v : List Int) (w3k : List ByteArray) (w3v : List (List Int)) (w4k : List ByteArray) (w4v : List Bool) (h : w2k.length = w2v.length ∧ w1.length ≤ 1000000 ∧ p3.length ≤ 1000000000) : kfk (p1, p2, p3, p4, c0_0, c0_1, c0_2, w1, w2k, w2v, w3k, w3v, w4k, w4v, ()) ((((recO (OS.mk c0_0 c0_1 c0_2 w1 w2k w2v w3k w3v w4k w4v) p1 p2 p3 p4).a) : Bool), (((recO (OS.mk c0_0 c0_1 c0_2 w1 w2k w2v w3k w3v w4k w4v) p1 p2 p3 p4).b) : Int), (((recO (OS.mk c0_0 c0_1 c0_2 w1 w2k w2v w3k w3v w4k w4v) p1 p2 p3 p4).c) : Int), (((recO (OS.mk c0_0 c0_1 c0_2 w1 w2k w2v w3k w3v w4k w4v) p1 p2 p3 p4).q) : List TQuestion), (((recO (OS.mk c0_0 c0_1 c0_2 w1 w2k w2v w3k w3v w4k w4v) p1 p2 p3 p4).k) : List ByteArray), (((recO (OS.mk c0_0 c0_1 c0_2 w1 w2k w2v w3k w3v w4k w4v) p1 p2 p3 p4).v) : List Int), (((recO (OS.mk c0_0 c0_1 c0_2 w1 w2k w2v w3k w3v w4k w4v) p1 p2 p3 p4).s) : List ByteArray), (((recO (OS.mk c0_0 c0_1 c0_2 w1 w2k w2v w3k w3v w4k w4v) p1 p2 p3 p4).t) : List (List Int)), (((recO (OS.mk c0_0 c0_1 c0_2 w1 w2k w2v w3k w3v w4k w4v) p1 p2 p3 p4).x) : List ByteArray), (((recO (OS.mk c0_0 c0_1 c0_2 w1 w2k w2v w3k w3v w4k w4v) p1 p2 p3 p4).y) : List Bool), ()) := by
  obtain ⟨h1, h2, h3⟩ := h
  exact kyi ⟨h1, h3, rfl, by simp; omega, by simp; unfold maxLen; omega, rfl, rfl, rfl, rfl, rfl, rfl, rfl, rfl, rfl, rfl, rfl⟩
noncomputable def knk : Con TB.den := k2a.fnR (fun x => (fun (p1 : ByteArray) (p2 : Int) (p3 : List Int) (p4 : Int) (c0_0 : Bool) (c0_1 : Int) (c0_2 : Int) (w1 : List TQuestion) (w2k : List ByteArray) (w2v : List Int) (w3k : List ByteArray) (w3v : List (List Int)) (w4k : List ByteArray) (w4v : List Bool) => w2k.length = w2v.length ∧ w1.length ≤ 1000000 ∧ p3.length ≤ 1000000000) x.1 x.2.1 x.2.2.1 x.2.2.2.1 x.2.2.2.2.1 x.2.2.2.2.2.1 x.2.2.2.2.2.2.1 x.2.2.2.2.2.2.2.1 x.2.2.2.2.2.2.2.2.1 x.2.2.2.2.2.2.2.2.2.1 x.2.2.2.2.2.2.2.2.2.2.1 x.2.2.2.2.2.2.2.2.2.2.2.1 x.2.2.2.2.2.2.2.2.2.2.2.2.1 x.2.2.2.2.2.2.2.2.2.2.2.2.2.1) fun x => ((fun (p1 : ByteArray) (p2 : Int) (p3 : List Int) (p4 : Int) (c0_0 : Bool) (c0_1 : Int) (c0_2 : Int) (w1 : List TQuestion) (w2k : List ByteArray) (w2v : List Int) (w3k : List ByteArray) (w3v : List (List Int)) (w4k : List ByteArray) (w4v : List Bool) => (((recO (OS.mk c0_0 c0_1 c0_2 w1 w2k w2v w3k w3v w4k w4v) p1 p2 p3 p4).a) : Bool)) x.1 x.2.1 x.2.2.1 x.2.2.2.1 x.2.2.2.2.1 x.2.2.2.2.2.1 x.2.2.2.2.2.2.1 x.2.2.2.2.2.2.2.1 x.2.2.2.2.2.2.2.2.1 x.2.2.2.2.2.2.2.2.2.1 x.2.2.2.2.2.2.2.2.2.2.1 x.2.2.2.2.2.2.2.2.2.2.2.1 x.2.2.2.2.2.2.2.2.2.2.2.2.1 x.2.2.2.2.2.2.2.2.2.2.2.2.2.1, (fun (p1 : ByteArray) (p2 : Int) (p3 : List Int) (p4 : Int) (c0_0 : Bool) (c0_1 : Int) (c0_2 : Int) (w1 : List TQuestion) (w2k : List ByteArray) (w2v : List Int) (w3k : List ByteArray) (w3v : List (List Int)) (w4k : List ByteArray) (w4v : List Bool) => (((recO (OS.mk c0_0 c0_1 c0_2 w1 w2k w2v w3k w3v w4k w4v) p1 p2 p3 p4).b) : Int)) x.1 x.2.1 x.2.2.1 x.2.2.2.1 x.2.2.2.2.1 x.2.2.2.2.2.1 x.2.2.2.2.2.2.1 x.2.2.2.2.2.2.2.1 x.2.2.2.2.2.2.2.2.1 x.2.2.2.2.2.2.2.2.2.1 x.2.2.2.2.2.2.2.2.2.2.1 x.2.2.2.2.2.2.2.2.2.2.2.1 x.2.2.2.2.2.2.2.2.2.2.2.2.1 x.2.2.2.2.2.2.2.2.2.2.2.2.2.1, (fun (p1 : ByteArray) (p2 : Int) (p3 : List Int) (p4 : Int) (c0_0 : Bool) (c0_1 : Int) (c0_2 : Int) (w1 : List TQuestion) (w2k : List ByteArray) (w2v : List Int) (w3k : List ByteArray) (w3v : List (List Int)) (w4k : List ByteArray) (w4v : List Bool) => (((recO (OS.mk c0_0 c0_1 c0_2 w1 w2k w2v w3k w3v w4k w4v) p1 p2 p3 p4).c) : Int)) x.1 x.2.1 x.2.2.1 x.2.2.2.1 x.2.2.2.2.1 x.2.2.2.2.2.1 x.2.2.2.2.2.2.1 x.2.2.2.2.2.2.2.1 x.2.2.2.2.2.2.2.2.1 x.2.2.2.2.2.2.2.2.2.1 x.2.2.2.2.2.2.2.2.2.2.1 x.2.2.2.2.2.2.2.2.2.2.2.1 x.2.2.2.2.2.2.2.2.2.2.2.2.1 x.2.2.2.2.2.2.2.2.2.2.2.2.2.1, (fun (p1 : ByteArray) (p2 : Int) (p3 : List Int) (p4 : Int) (c0_0 : Bool) (c0_1 : Int) (c0_2 : Int) (w1 : List TQuestion) (w2k : List ByteArray) (w2v : List Int) (w3k : List ByteArray) (w3v : List (List Int)) (w4k : List ByteArray) (w4v : List Bool) => (((recO (OS.mk c0_0 c0_1 c0_2 w1 w2k w2v w3k w3v w4k w4v) p1 p2 p3 p4).q) : List TQuestion)) x.1 x.2.1 x.2.2.1 x.2.2.2.1 x.2.2.2.2.1 x.2.2.2.2.2.1 x.2.2.2.2.2.2.1 x.2.2.2.2.2.2.2.1 x.2.2.2.2.2.2.2.2.1 x.2.2.2.2.2.2.2.2.2.1 x.2.2.2.2.2.2.2.2.2.2.1 x.2.2.2.2.2.2.2.2.2.2.2.1 x.2.2.2.2.2.2.2.2.2.2.2.2.1 x.2.2.2.2.2.2.2.2.2.2.2.2.2.1, (fun (p1 : ByteArray) (p2 : Int) (p3 : List Int) (p4 : Int) (c0_0 : Bool) (c0_1 : Int) (c0_2 : Int) (w1 : List TQuestion) (w2k : List ByteArray) (w2v : List Int) (w3k : List ByteArray) (w3v : List (List Int)) (w4k : List ByteArray) (w4v : List Bool) => (((recO (OS.mk c0_0 c0_1 c0_2 w1 w2k w2v w3k w3v w4k w4v) p1 p2 p3 p4).k) : List ByteArray)) x.1 x.2.1 x.2.2.1 x.2.2.2.1 x.2.2.2.2.1 x.2.2.2.2.2.1 x.2.2.2.2.2.2.1 x.2.2.2.2.2.2.2.1 x.2.2.2.2.2.2.2.2.1 x.2.2.2.2.2.2.2.2.2.1 x.2.2.2.2.2.2.2.2.2.2.1 x.2.2.2.2.2.2.2.2.2.2.2.1 x.2.2.2.2.2.2.2.2.2.2.2.2.1 x.2.2.2.2.2.2.2.2.2.2.2.2.2.1, (fun (p1 : ByteArray) (p2 : Int) (p3 : List Int) (p4 : Int) (c0_0 : Bool) (c0_1 : Int) (c0_2 : Int) (w1 : List TQuestion) (w2k : List ByteArray) (w2v : List Int) (w3k : List ByteArray) (w3v : List (List Int)) (w4k : List ByteArray) (w4v : List Bool) => (((recO (OS.mk c0_0 c0_1 c0_2 w1 w2k w2v w3k w3v w4k w4v) p1 p2 p3 p4).v) : List Int)) x.1 x.2.1 x.2.2.1 x.2.2.2.1 x.2.2.2.2.1 x.2.2.2.2.2.1 x.2.2.2.2.2.2.1 x.2.2.2.2.2.2.2.1 x.2.2.2.2.2.2.2.2.1 x.2.2.2.2.2.2.2.2.2.1 x.2.2.2.2.2.2.2.2.2.2.1 x.2.2.2.2.2.2.2.2.2.2.2.1 x.2.2.2.2.2.2.2.2.2.2.2.2.1 x.2.2.2.2.2.2.2.2.2.2.2.2.2.1, (fun (p1 : ByteArray) (p2 : Int) (p3 : List Int) (p4 : Int) (c0_0 : Bool) (c0_1 : Int) (c0_2 : Int) (w1 : List TQuestion) (w2k : List ByteArray) (w2v : List Int) (w3k : List ByteArray) (w3v : List (List Int)) (w4k : List ByteArray) (w4v : List Bool) => (((recO (OS.mk c0_0 c0_1 c0_2 w1 w2k w2v w3k w3v w4k w4v) p1 p2 p3 p4).s) : List ByteArray)) x.1 x.2.1 x.2.2.1 x.2.2.2.1 x.2.2.2.2.1 x.2.2.2.2.2.1 x.2.2.2.2.2.2.1 x.2.2.2.2.2.2.2.1 x.2.2.2.2.2.2.2.2.1 x.2.2.2.2.2.2.2.2.2.1 x.2.2.2.2.2.2.2.2.2.2.1 x.2.2.2.2.2.2.2.2.2.2.2.1 x.2.2.2.2.2.2.2.2.2.2.2.2.1 x.2.2.2.2.2.2.2.2.2.2.2.2.2.1, (fun (p1 : ByteArray) (p2 : Int) (p3 : List Int) (p4 : Int) (c0_0 : Bool) (c0_1 : Int) (c0_2 : Int) (w1 : List TQuestion) (w2k : List ByteArray) (w2v : List Int) (w3k : List ByteArray) (w3v : List (List Int)) (w4k : List ByteArray) (w4v : List Bool) => (((recO (OS.mk c0_0 c0_1 c0_2 w1 w2k w2v w3k w3v w4k w4v) p1 p2 p3 p4).t) : List (List Int))) x.1 x.2.1 x.2.2.1 x.2.2.2.1 x.2.2.2.2.1 x.2.2.2.2.2.1 x.2.2.2.2.2.2.1 x.2.2.2.2.2.2.2.1 x.2.2.2.2.2.2.2.2.1 x.2.2.2.2.2.2.2.2.2.1 x.2.2.2.2.2.2.2.2.2.2.1 x.2.2.2.2.2.2.2.2.2.2.2.1 x.2.2.2.2.2.2.2.2.2.2.2.2.1 x.2.2.2.2.2.2.2.2.2.2.2.2.2.1, (fun (p1 : ByteArray) (p2 : Int) (p3 : List Int) (p4 : Int) (c0_0 : Bool) (c0_1 : Int) (c0_2 : Int) (w1 : List TQuestion) (w2k : List ByteArray) (w2v : List Int) (w3k : List ByteArray) (w3v : List (List Int)) (w4k : List ByteArray) (w4v : List Bool) => (((recO (OS.mk c0_0 c0_1 c0_2 w1 w2k w2v w3k w3v w4k w4v) p1 p2 p3 p4).x) : List ByteArray)) x.1 x.2.1 x.2.2.1 x.2.2.2.1 x.2.2.2.2.1 x.2.2.2.2.2.1 x.2.2.2.2.2.2.1 x.2.2.2.2.2.2.2.1 x.2.2.2.2.2.2.2.2.1 x.2.2.2.2.2.2.2.2.2.1 x.2.2.2.2.2.2.2.2.2.2.1 x.2.2.2.2.2.2.2.2.2.2.2.1 x.2.2.2.2.2.2.2.2.2.2.2.2.1 x.2.2.2.2.2.2.2.2.2.2.2.2.2.1, (fun (p1 : ByteArray) (p2 : Int) (p3 : List Int) (p4 : Int) (c0_0 : Bool) (c0_1 : Int) (c0_2 : Int) (w1 : List TQuestion) (w2k : List ByteArray) (w2v : List Int) (w3k : List ByteArray) (w3v : List (List Int)) (w4k : List ByteArray) (w4v : List Bool) => (((recO (OS.mk c0_0 c0_1 c0_2 w1 w2k w2v w3k w3v w4k w4v) p1 p2 p3 p4).y) : List Bool)) x.1 x.2.1 x.2.2.1 x.2.2.2.1 x.2.2.2.2.1 x.2.2.2.2.2.1 x.2.2.2.2.2.2.1 x.2.2.2.2.2.2.2.1 x.2.2.2.2.2.2.2.2.1 x.2.2.2.2.2.2.2.2.2.1 x.2.2.2.2.2.2.2.2.2.2.1 x.2.2.2.2.2.2.2.2.2.2.2.1 x.2.2.2.2.2.2.2.2.2.2.2.2.1 x.2.2.2.2.2.2.2.2.2.2.2.2.2.1, ())
theorem ky4 : knk.Ok Try.prog TB := Con.ok_fn k2a bd41 fun x h => kxn (kvg x.1 x.2.1 x.2.2.1 x.2.2.2.1 x.2.2.2.2.1 x.2.2.2.2.2.1 x.2.2.2.2.2.2.1 x.2.2.2.2.2.2.2.1 x.2.2.2.2.2.2.2.2.1 x.2.2.2.2.2.2.2.2.2.1 x.2.2.2.2.2.2.2.2.2.2.1 x.2.2.2.2.2.2.2.2.2.2.2.1 x.2.2.2.2.2.2.2.2.2.2.2.2.1 x.2.2.2.2.2.2.2.2.2.2.2.2.2.1 h)
end Go.Proofs.Ytponaobpcdkggaa
namespace Go.Proofs.Ytponaobpcdkggaa
open Go Go.Bv Go.Cv Go.Md Go.RowKit
def k24 : Con TB.den := Con.mk0 33 [.one (.d (.sl (.int .u64)))] [] (.one (.one (.d (.bool)))) []
abbrev kqk := HL TB.den (hsT k24.ins (hsOs k24.pre))
abbrev k6a := HL TB.den (hsV k24.res (hsOs k24.post))
noncomputable def k5a : Cx TB := ⟨inf, [], [], 4, []⟩
noncomputable def k8c : Code := Try.f33.body.getD .skip
noncomputable def k9n : List ResultVar := Try.f33.results.toList
noncomputable def ky0 (o : k6a) : Exit → TSt TB.den → Prop := thenT TB (fun s => ghs TB [] s fun s => WP TB k5a 14 0 (cB (cB k8c)) .no s (retTQ TB k5a k24 k9n o)) (retTQ TB k5a k24 k9n o)
def k6v : Tm := ⟨[], [], [5, 6, 7], [.one (.d (.sl (.int .u64))), .one (.d (.int .i64)), .one (.d (.int .i64))], 0⟩
noncomputable def ky7 (o : k6a) (nx1 : HL TB.den k6v.hs → Prop) : Exit → TSt TB.den → Prop := thenT TB (fun s => k6v.mat TB 0 s nx1) (blockT TB 0 (ky0 o))
noncomputable def k9j (o : k6a) (nx1 : HL TB.den k6v.hs → Prop) (i : HL TB.den k6v.hs) : Prop := WP TB k5a 14 0 (cA (cA (cB (cA (cB k8c))))) .no (k6v.fill TB i) (ky7 o nx1)
noncomputable def kz8 (o : k6a) : An TB := .lp [] k6v (k9j o) fun nx1 => .no
noncomputable def kp9 (o : k6a) : An TB := .nd [] .no [] (.nd [] (.nd [] .no [] (kz8 o)) [] .no)
noncomputable def kfi (x : kqk) (o : k6a) : Prop := WPh TB k5a 14 0 k8c (kp9 o) (k24.st TB x) (retTQ TB k5a k24 k9n o)
set_option maxRecDepth 100000 in
theorem kxk (o : k6a) : OblH TB k5a 14 0 k8c (kp9 o) (retTQ TB k5a k24 k9n o) :=
  OblH.of_eq (X := (True ∧ ((True ∧ ((∀ nx i, (k9j o) nx i = (k9j o) nx i) ∧ ∀ nx1 : HL TB.den k6v.hs → Prop, (True ∧ ((True ∧ True) ∧ ((True ∧ (True ∧ ((True ∧ True) ∧ True))) ∧ True))))) ∧ (True ∧ True)))) (by kernel_rfl) ⟨trivial, ⟨⟨trivial, ⟨fun _ _ => rfl, fun _ => ⟨trivial, ⟨⟨trivial, trivial⟩, ⟨⟨trivial, ⟨trivial, ⟨⟨trivial, trivial⟩, trivial⟩⟩⟩, trivial⟩⟩⟩⟩⟩, ⟨trivial, trivial⟩⟩⟩
set_option maxRecDepth 100000 in
theorem kxc {x : kqk} {o : k6a} (h : kfi x o) : SoundH Try.prog k24.f ((k24.args idf x).map (er TB)) ((k24.obs idf x).map (erO TB)) (er TB (k24.val idf o)) ((k24.ops idf o).map (erO TB)) :=
  Con.soundH (c := k24) (C := k5a) TBok ⟨inf_ok, all_nil, all_nil⟩ mix Try.func33 (show Try.f33.body = some k8c by kernel_rfl) (show Try.f33.ntmps = 14 by kernel_rfl) (show Try.f33.results.toList = k9n by kernel_rfl) rfl h (kxk o)
set_option maxRecDepth 100000 in
theorem kxq {p0 : List Int} {r0 : Bool} (h :
(Md.Loop (p0, ((p0.length : Int) : Int), (0 : Int), ()) (k9j (r0, ())))) : kfi (p0, ()) (r0, ()) := WPh.of_eq (by kernel_rfl) h
def kpf (r0 : Bool) (k1 : Int → Prop) (s5 : List Int) (s6 : Int) (s7 : Int) : Prop :=
(decide (s7 < s6) = true →
(0 ≤ s7) ∧ s7 < (s5.length : Int) ∧ let v1 : Bool := decide (18446744069414584321 ≤ (ix s5 s7))
(v1 = true →
 false = r0) ∧
(v1 = false →
 k1 (IntKind.i64.wrap (s7 + 1) : Int))) ∧
(decide (s7 < s6) = false →
 true = r0)
set_option maxRecDepth 100000 in
theorem kxd {r0 : Bool} {s5 : List Int} {s6 : Int} {s7 : Int} (inv : Int → Prop) (μ : Int → Nat) (h0 : inv s7) (hs : ∀ (s7 : Int), inv s7 → kpf r0 (fun s7q => inv s7q ∧ μ s7q < μ s7) s5 s6 s7) : Md.Loop (s5, s6, s7, ()) (k9j (r0, ())) :=
  ⟨⟨fun s : (List Int) × Int × Int × Unit => (s.1 = s5 ∧ s.2.1 = s6) ∧ inv s.2.2.1, fun s : (List Int) × Int × Int × Unit => μ s.2.2.1, ⟨⟨rfl, rfl⟩, h0⟩, fun (s5p, s6p, s7p, ()) ⟨⟨eq0, eq1⟩, hi⟩ => by
    have eq0 : s5p = s5 := eq0; subst s5p; have eq1 : s6p = s6 := eq1; subst s6p; exact mpr_of (by kernel_rfl) ((congrArg (fun k => kpf r0 k s5 s6 s7p) (lpk1 (⟨rfl, rfl⟩ : s5 = s5 ∧ s6 = s6) inv (fun s7q => μ s7q < μ s7p))).mpr (hs s7p hi))⟩⟩
theorem bd33 : Callable Try.prog 33 := ⟨by rw [Try.func33]; kernel_rfl, by rw [Try.func33]; show some _ ≠ some _; decide⟩
theorem kvo (p0 : List Int) (h : p0.length ≤ 9223372036854775807) : kfi (p0, ()) (((allB p0) : Bool), ()) := by
  refine kxq (kxd (AllI (fun x => decide (x < 18446744069414584321)) p0) (fun i => (p0.length - i).toNat) AllI.start ?_)
  intro i hi
  refine ⟨fun hh => ?_, fun hh => (hi.done (of_decide_eq_false hh)).symm⟩
  have hh := of_decide_eq_true hh
  exact ⟨hi.1, hh, fun e => (hi.bad hh (by simpa using e)).symm, fun e => hi.next hh (by omega) (by simpa using e)⟩
noncomputable def knf : Con TB.den := k24.fnR (fun x => (fun (p0 : List Int) => p0.length ≤ 9223372036854775807) x.1) fun x => ((fun (p0 : List Int) => ((allB p0) : Bool)) x.1, ())
theorem kyj : knf.Ok Try.prog TB := Con.ok_fn k24 bd33 fun x h => kxc (kvo x.1 h)
end Go.Proofs.Ytponaobpcdkggaa
namespace Go.Proofs.Ytponaobpcdkggaa
open Go Go.Bv Go.Cv Go.Md Go.RowKit
def k1o : Con TB.den := Con.mk0 43 [.one (.own 0), .one (.d (.int .u64))] [.tip (.int .u8)] (.one (.one (.own 0))) [.tip (.int .u8)]
abbrev kla := HL TB.den (hsT k1o.ins (hsOs k1o.pre))
abbrev k4x := HL TB.den (hsV k1o.res (hsOs k1o.post))
noncomputable def k3u : Cx TB := ⟨inf, [], [], 4, []⟩
noncomputable def k6t : Code := Try.f43.body.getD .skip
noncomputable def k7h : List ResultVar := Try.f43.results.toList
noncomputable def kun (o : k4x) : Exit → TSt TB.den → Prop := thenT TB (fun s => ghs TB [] s fun s => WP TB k3u 16 1 (cB (cB k6t)) .no s (retTQ TB k3u k1o k7h o)) (retTQ TB k3u k1o k7h o)
def k5g : Tm := ⟨[0], [.tip (.int .u8)], [0, 1, 5], [.one (.own 0), .one (.d (.int .u64)), .one (.d (.int .i64))], 1⟩
noncomputable def ku4 (o : k4x) (nx1 : HL TB.den k5g.hs → Prop) : Exit → TSt TB.den → Prop := thenT TB (fun s => k5g.mat TB 1 s nx1) (blockT TB 0 (kun o))
noncomputable def k7j (o : k4x) (nx1 : HL TB.den k5g.hs → Prop) (i : HL TB.den k5g.hs) : Prop := WP TB k3u 16 1 (cA (cA (cB (cA (cB k6t))))) .no (k5g.fill TB i) (ku4 o nx1)
noncomputable def ku9 (o : k4x) : An TB := .lp [] k5g (k7j o) fun nx1 => .no
noncomputable def kk7 (o : k4x) : An TB := .nd [] .no [] (.nd [] (.nd [] .no [] (ku9 o)) [] .no)
noncomputable def kbj (x : kla) (o : k4x) : Prop := WPh TB k3u 16 1 k6t (kk7 o) (k1o.st TB x) (retTQ TB k3u k1o k7h o)
set_option maxRecDepth 100000 in
theorem kt0 (o : k4x) : OblH TB k3u 16 1 k6t (kk7 o) (retTQ TB k3u k1o k7h o) :=
  OblH.of_eq (X := (True ∧ ((True ∧ ((∀ nx i, (k7j o) nx i = (k7j o) nx i) ∧ ∀ nx1 : HL TB.den k5g.hs → Prop, (True ∧ ((True ∧ True) ∧ ((True ∧ True) ∧ True))))) ∧ (True ∧ True)))) (by kernel_rfl) ⟨trivial, ⟨⟨trivial, ⟨fun _ _ => rfl, fun _ => ⟨trivial, ⟨⟨trivial, trivial⟩, ⟨⟨trivial, trivial⟩, trivial⟩⟩⟩⟩⟩, ⟨trivial, trivial⟩⟩⟩
set_option maxRecDepth 100000 in
theorem ksz {x : kla} {o : k4x} (h : kbj x o) : SoundH Try.prog k1o.f ((k1o.args idf x).map (er TB)) ((k1o.obs idf x).map (erO TB)) (er TB (k1o.val idf o)) ((k1o.ops idf o).map (erO TB)) :=
  Con.soundH (c := k1o) (C := k3u) TBok ⟨inf_ok, all_nil, all_nil⟩ mix Try.func43 (show Try.f43.body = some k6t by kernel_rfl) (show Try.f43.ntmps = 16 by kernel_rfl) (show Try.f43.results.toList = k7h by kernel_rfl) rfl h (kt0 o)
set_option maxRecDepth 100000 in
theorem ku8 {p1 : Int} {w0 : List Int} {e0 : List Int} (h :
((w0 = w0) ∧ Md.Loop (p1, (0 : Int), w0, ()) (k7j (e0, ())))) : kbj (p1, w0, ()) (e0, ()) := WPh.of_eq (by kernel_rfl) h
def kk8 (e0 : List Int) (k1 : Int → Int → List Int → Prop) (s1 : Int) (s5 : Int) (g0 : List Int) : Prop :=
(decide (s5 < 8) = true →
 g0.length = g0.length ∧ (g0.length + [IntKind.u8.wrap s1].length) * 1 ≤ 140737488355328 ∧ g0.length + [IntKind.u8.wrap s1].length ≤ maxLen ∧ (g0 ++ [IntKind.u8.wrap s1] = g0 ++ [IntKind.u8.wrap s1]) ∧ k1 (ishr .u64 s1 8 : Int) (IntKind.i64.wrap (s5 + 1) : Int) (g0 ++ [IntKind.u8.wrap s1] : List Int)) ∧
(decide (s5 < 8) = false →
(g0 = g0) ∧ g0 = e0)
set_option maxRecDepth 100000 in
theorem kt3 {e0 : List Int} {s1 : Int} {s5 : Int} {g0 : List Int} (inv : Int → Int → List Int → Prop) (μ : Int → Int → List Int → Nat) (h0 : inv s1 s5 g0) (hs : ∀ (s1 : Int) (s5 : Int) (g0 : List Int), inv s1 s5 g0 → kk8 e0 (fun s1q s5q g0q => inv s1q s5q g0q ∧ μ s1q s5q g0q < μ s1 s5 g0) s1 s5 g0) : Md.Loop (s1, s5, g0, ()) (k7j (e0, ())) :=
  ⟨⟨fun s : Int × Int × (List Int) × Unit => (True) ∧ inv s.1 s.2.1 s.2.2.1, fun s : Int × Int × (List Int) × Unit => μ s.1 s.2.1 s.2.2.1, ⟨trivial, h0⟩, fun (s1p, s5p, g0p, ()) ⟨_, hi⟩ => by
    exact mpr_of (by kernel_rfl) ((congrArg (fun k => kk8 e0 k s1p s5p g0p) (lpk3 (trivial : True) inv (fun s1q s5q g0q => μ s1q s5q g0q < μ s1p s5p g0p))).mpr (hs s1p s5p g0p hi))⟩⟩
theorem bd43 : Callable Try.prog 43 := ⟨by rw [Try.func43]; kernel_rfl, by rw [Try.func43]; show some _ ≠ some _; decide⟩
theorem ksd (p1 : Int) (w0 : List Int) (h : U64 p1 ∧ w0.length ≤ 137438953472) : kbj (p1, w0, ()) (((w0 ++ dig 8 p1) : List Int), ()) := by
  obtain ⟨h1, h2⟩ := h
  refine ku8 ⟨rfl, kt3 (fun n i g => 0 ≤ i ∧ i ≤ 8 ∧ U64 n ∧ n = p1 / 256 ^ i.toNat ∧ g = w0 ++ dig i.toNat p1) (fun _ i _ => (8 - i).toNat) ⟨by omega, by omega, h1, by simp, by simp [dig]⟩ ?_⟩
  rintro n i g ⟨g0, g1, g2, g3, rfl⟩
  refine ⟨fun h => ?_, fun h => ?_⟩
  · have h := of_decide_eq_true h
    rw [inc i 8 g0 h (by omega), ishr8, u8w]
    refine ⟨rfl, ?_, ?_, rfl, ⟨by omega, by omega, ⟨by omega, by omega⟩, ?_, ?_⟩, by omega⟩
    · simp; omega
    · simp; unfold maxLen; omega
    · rw [g3, show (i + 1).toNat = i.toNat + 1 by omega, Int.ediv_ediv_of_nonneg (Int.le_of_lt (k1be _)), Int.pow_succ]
    · rw [show (i + 1).toNat = i.toNat + 1 by omega, k18x, List.append_assoc, g3]
  · have h := of_decide_eq_false h
    exact ⟨rfl, by rw [show i = 8 by omega]; rfl⟩
noncomputable def kj3 : Con TB.den := k1o.fnR (fun x => (fun (p1 : Int) (w0 : List Int) => U64 p1 ∧ w0.length ≤ 137438953472) x.1 x.2.1) fun x => ((fun (p1 : Int) (w0 : List Int) => ((w0 ++ dig 8 p1) : List Int)) x.1 x.2.1, ())
theorem kuc : kj3.Ok Try.prog TB := Con.ok_fn k1o bd43 fun x h => ksz (ksd x.1 x.2.1 h)
end Go.Proofs.Ytponaobpcdkggaa
