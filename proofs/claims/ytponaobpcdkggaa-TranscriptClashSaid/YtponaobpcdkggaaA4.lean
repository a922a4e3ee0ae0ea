/-
  Parts of the proofs that the laws of this seat hold of every input, merged by a program: a machine over pure data that is sound for the model, what each function of the translation does in it, and plain lemmas. No conditions but those in each theorem.
-/
import Derived.Test.YtponaobpcdkggaaA3
set_option linter.all false
namespace Go.Bv
open Go.RowKit Go.Deep
def limOf (w : World) (b : Nat) : Nat := match w.heap[b]? with
  | some (.cells c _ _) => c.size
  | _ => 0
theorem k1ez {w : World} {b o : Nat} {v : Value} (h : w.cell? ⟨b, o, none⟩ = some v) : o < limOf w b := by
  unfold World.cell? at h
  unfold limOf
  simp only at h
  split at h
  · rename_i c _ _ hh
    rw [hh]
    simp only [Option.isSome_none, Bool.false_eq_true, if_false] at h
    exact (Array.getElem?_eq_some_iff.1 h).1
  · cases h
def isAggT (P : Program) (e : TypeId) : Bool := match P.underlying e with
  | some (.struct _) => true
  | some (.array _ _) => true
  | _ => false
def mkD (P : Program) (e : TypeId) (cs : List D) : D := if isAggT P e then .agg cs else cs.headD (.bool false)
def tiles (P : Program) (tot : Nat) : List (TypeId × Nat) → Nat → Bool
  | [], o => o == tot
  | p :: r, o => p.2 == o && tiles P tot r (o + P.cellsOf p.1)
def fsOf (fs : Array Field) : List (TypeId × Nat) := fs.toList.map fun f => (f.type, f.offset)
def arOf (P : Program) (n : Nat) (e : TypeId) : List (TypeId × Nat) := (List.range n).map fun i => (e, i * P.cellsOf e)
def dataT (P : Program) : Nat → TypeId → Bool
  | 0, _ => false
  | k + 1, t => match P.underlying t with
    | some .bool => true
    | some (.int _) => true
    | some .string => true
    | some (.slice e) => decide (0 < P.cellsOf e) && dataT P k e
    | some (.struct fs) => tiles P (P.cellsOf t) (fsOf fs) 0 && (fsOf fs).all fun p => dataT P k p.1
    | some (.array n e) => tiles P (P.cellsOf t) (arOf P n e) 0 && dataT P k e
    | _ => false
def RelFs {H : Type} (R : TypeId → List D → DataW H → Prop) : List (TypeId × Nat) → List D → List (DataW H) → Prop
  | [], ds, ps => ds = [] ∧ ps = []
  | t :: ts, ds, ps => ∃ d1 d2 p qs, R t.1 d1 p ∧ RelFs R ts d2 qs ∧ ds = d1 ++ d2 ∧ ps = p :: qs
def Rel {H : Type} (P : Program) : Nat → TypeId → List D → DataW H → Prop
  | 0, _, _, _ => False
  | k + 1, t, ds, d => match P.underlying t with
    | some .bool => ∃ b, ds = [.bool b] ∧ d = .lit (.bool b)
    | some (.int q) => ∃ i, ds = [.int q i] ∧ d = .lit (.int q i) ∧ (Lit.int q i).wf = true
    | some .string => ∃ s : ByteArray, ds = [.str s] ∧ d = .lit (.string s.data.toList)
    | some (.slice e) => ∃ l : List (List D), ds = [.slice (P.cellsOf e) (l.map (mkD P e))] ∧ l.length ≤ maxLen ∧
        ((l = [] ∧ d = .nil) ∨ ∃ elems spare, d = .slice elems spare ∧ l.length = elems.length ∧ ∀ (j : Nat) (x : List D) (y : DataW H), l[j]? = some x → elems[j]? = some y → Rel P k e x y)
    | some (.struct fs) => ∃ ps, d = .agg ps ∧ RelFs (Rel P k) (fsOf fs) ds ps
    | some (.array n e) => ∃ ps, d = .agg ps ∧ RelFs (Rel P k) (arOf P n e) ds ps
    | _ => False
def Holds (w : World) (cs : List Value) (ds : List D) : Prop := ds.length = cs.length ∧ ∀ (j : Nat) (v : Value) (c : D), cs[j]? = some v → ds[j]? = some c → RepD (limOf w) w v c
theorem Holds.append {w : World} {a b : List Value} {x y : List D} (h1 : Holds w a x) (h2 : Holds w b y) : Holds w (a ++ b) (x ++ y) := by
  refine ⟨by simp [h1.1, h2.1], fun j v c hv hc => ?_⟩
  by_cases hj : j < a.length
  · rw [List.getElem?_append_left hj] at hv
    rw [List.getElem?_append_left (by rw [h1.1]; exact hj)] at hc
    exact h1.2 j v c hv hc
  · rw [List.getElem?_append_right (by omega)] at hv
    rw [List.getElem?_append_right (by rw [h1.1]; omega), h1.1] at hc
    exact h2.2 _ v c hv hc
theorem Holds.one {w : World} {v : Value} {d : D} (h : RepD (limOf w) w v d) : Holds w [v] [d] := by
  refine ⟨rfl, fun j u c hu hc => ?_⟩
  cases j with
  | zero => simp at hu hc; subst hu; subst hc; exact h
  | succ j => simp at hu
section
variable {H : Type} {P : Program} {w : World} {cs : List Value}
theorem kzm {tot : Nat} (htot : cs.length = tot) (ok : Value → Prop) (hok : ∀ v ∈ cs, ok v) (R : TypeId → List D → DataW H → Prop) (g : TypeId → List Value → Option (DataW H × List MemPlace)) :
    ∀ (L : List (TypeId × Nat)) (o : Nat) (xs : List (DataW H × List MemPlace)), tiles P tot L o = true → xs.length = L.length →
      (∀ p ∈ L, ∀ cs' y, (∀ v ∈ cs', ok v) → g p.1 cs' = some y → ∃ ds, Holds w cs' ds ∧ R p.1 ds y.1) →
      (∀ (i : Nat) (p : TypeId × Nat), L[i]? = some p → g p.1 ((cs.drop p.2).take (P.cellsOf p.1)) = xs[i]?) →
      ∃ ds, Holds w (cs.drop o) ds ∧ RelFs R L ds (xs.map (·.1))
  | [], o, xs, ht, hl, _, _ => by
    simp [tiles] at ht
    have : xs = [] := by simpa using hl
    subst this
    refine ⟨[], ⟨?_, ?_⟩, rfl, rfl⟩
    · simp; omega
    · intro j v c _ hc; simp at hc
  | p :: L, o, xs, ht, hl, hg, hx => by
    simp [tiles] at ht
    obtain ⟨h0, ht⟩ := ht
    cases xs with
    | nil => simp at hl
    | cons y ys =>
      have h1 := hx 0 p rfl
      simp only [List.getElem?_cons_zero] at h1
      obtain ⟨d1, hd1, hr1⟩ := hg p (by simp) _ y (fun v hv => hok v (List.mem_of_mem_drop (List.mem_of_mem_take hv))) h1
      obtain ⟨d2, hd2, hr2⟩ := kzm htot ok hok R g L (o + P.cellsOf p.1) ys ht (by simpa using hl) (fun q hq => hg q (by simp [hq])) (fun i q hq => by simpa using hx (i + 1) q (by simpa using hq))
      refine ⟨d1 ++ d2, ?_, d1, d2, y.1, _, hr1, hr2, rfl, rfl⟩
      have := hd1.append hd2
      rw [h0, ← List.drop_drop, List.take_append_drop] at this
      exact this
end
section
variable {H : Type} {enc : TypeId × Value → H} {P : Program} {w : World}
theorem rel_mk {k : Nat} {e : TypeId} {x : List D} {d : DataW H} (hr : Rel P k e x d) (h1 : ∀ c ∈ x, c.one = true) : (mkD P e x).cells = x := by
  cases k with
  | zero => exact hr.elim
  | succ k =>
    unfold mkD
    split
    · rfl
    · rename_i ha
      unfold Rel at hr
      split at hr
      · obtain ⟨b, rfl, _⟩ := hr; rfl
      · obtain ⟨b, rfl, _⟩ := hr; rfl
      · obtain ⟨b, rfl, _⟩ := hr; rfl
      · obtain ⟨b, rfl, _⟩ := hr; rfl
      · rename_i h; exact absurd (by simp [isAggT, h]) ha
      · rename_i h; exact absurd (by simp [isAggT, h]) ha
      · exact hr.elim
theorem ks7 : ∀ (k : Nat) (t : TypeId), dataT P k t = true → ∀ (n : Nat) (cs : List Value) (y : DataW H × List MemPlace),
    DataW.trod enc P w 0 (fun _ => true) true n t cs = some y → ∃ ds, Holds w cs ds ∧ Rel P k t ds y.1
  | 0, _, h => by cases h
  | k + 1, t, hT => by
    intro n cs y h
    unfold dataT at hT
    split at hT
    · rename_i hu
      obtain ⟨b, rfl, rfl⟩ := DataW.trod_bool hu h
      exact ⟨[.bool b], Holds.one (.bool b), by simp [Rel, hu]⟩
    · rename_i q hu
      obtain ⟨i, rfl, rfl, hw⟩ := DataW.trod_int hu h
      exact ⟨[.int q i], Holds.one (.int q i), by simp [Rel, hu, hw]⟩
    · rename_i hu
      obtain ⟨s, rfl, rfl, hs⟩ := DataW.trod_string hu h
      exact ⟨[.str s], Holds.one (.str s), by simp only [Rel, hu]; exact ⟨s, rfl, rfl⟩⟩
    · rename_i e hu
      simp only [Bool.and_eq_true, decide_eq_true_eq] at hT
      obtain ⟨hpos, hT⟩ := hT
      rcases open_slice hu h with ⟨rfl, rfl⟩ | ⟨a, len, cap, m, n', Dd, Pl, rfl, _, hlc, hcm, hm, rfl, hel⟩
      · exact ⟨[.slice (P.cellsOf e) []], Holds.one (.nil none _), by simp only [Rel, hu]; exact ⟨[], rfl, Nat.zero_le _, .inl ⟨by trivial, by trivial⟩⟩⟩
      · simp only [if_true] at hm
        subst hm
        by_cases hm0 : m = 0
        · subst hm0
          have hl0 : len = 0 := by omega
          subst hl0
          refine ⟨[.slice (P.cellsOf e) []], Holds.one (.nil (some a) _), ?_⟩
          simp only [Rel, hu]
          exact ⟨[], rfl, Nat.zero_le _, .inr ⟨_, _, rfl, by simp, by intro j x y hx; simp at hx⟩⟩
        have hel' : ∀ i, i < len → ∃ x : List D, ∃ cs', w.cells? 0 (a.add (i * P.cellsOf e)) (P.cellsOf e) = some cs' ∧ Holds w cs' x ∧ Rel P k e x (Dd i) := by
          intro i hi
          obtain ⟨cs', h1, h2⟩ := hel i (by omega)
          obtain ⟨ds, h3, h4⟩ := ks7 k e hT n' cs' _ h2
          exact ⟨ds, cs', h1, h3, h4⟩
        obtain ⟨f, hf⟩ := choose_lt hel'
        have hspot : a.spot = none := by
          obtain ⟨cs', h1, h2⟩ := hel 0 (by omega)
          have h3 := (World.cells?_some h1).2.2 0 (by omega)
          have h4 := (World.cells?_some h1).2.1
          rw [List.getElem?_eq_getElem (by omega)] at h3
          unfold World.cell? at h3
          split at h3
          · split at h3
            · cases h3
            · rename_i hs; simpa [Addr.add] using hs
          · cases h3
        obtain ⟨b, off, sp⟩ := a
        simp only at hspot
        subst hspot
        have hone : ∀ i, i < len → ∀ c ∈ f i, c.one = true := by
          intro i hi c hc
          obtain ⟨cs', h1, h2, h3⟩ := hf i hi
          obtain ⟨j, hj⟩ := List.getElem?_of_mem hc
          have hjl : j < cs'.length := by rw [← h2.1]; exact (List.getElem?_eq_some_iff.1 hj).1
          exact (h2.2 j _ c (List.getElem?_eq_getElem hjl) hj).done
        have hmk : ∀ i, i < len → (mkD P e (f i)).cells = f i := fun i hi => by
          obtain ⟨cs', h1, h2, h3⟩ := hf i hi
          exact rel_mk h3 (hone i hi)
        have hsz : ∀ d ∈ ((List.range len).map f).map (mkD P e), d.cells.length = P.cellsOf e ∧ ∀ c ∈ d.cells, c.one = true := by
          intro d hd
          simp only [List.map_map, List.mem_map, List.mem_range, Function.comp] at hd
          obtain ⟨i, hi, rfl⟩ := hd
          obtain ⟨cs', h1, h2, h3⟩ := hf i hi
          rw [hmk i hi]
          exact ⟨by rw [h2.1]; exact (World.cells?_some h1).2.1, hone i hi⟩
        have hget : ∀ i, i < len → (((List.range len).map f).map (mkD P e))[i]? = some (mkD P e (f i)) := by
          intro i hi
          simp [List.getElem?_map, List.getElem?_range hi]
        have hfl := k4o hsz
        simp only [List.length_map, List.length_range] at hfl
        have hat : ∀ (j : Nat) (u : Value), ((List.range (len * P.cellsOf e)).map fun j => (w.cell? ⟨b, off + j, none⟩).getD undef)[j]? = some u → j < len * P.cellsOf e ∧ w.cell? ⟨b, off + j, none⟩ = some u := by
          intro j u hu
          have hj : j < len * P.cellsOf e := by simpa using (List.getElem?_eq_some_iff.1 hu).1
          refine ⟨hj, ?_⟩
          simp only [List.getElem?_map, List.getElem?_range hj, Option.map_some, Option.some.injEq] at hu
          have hi : j / P.cellsOf e < len := by rw [Nat.div_lt_iff_lt_mul hpos]; exact hj
          have hr : j % P.cellsOf e < P.cellsOf e := Nat.mod_lt _ hpos
          obtain ⟨cs', h1, h2, h3⟩ := hf _ hi
          have e1 : j / P.cellsOf e * P.cellsOf e + j % P.cellsOf e = j := by rw [Nat.mul_comm]; exact Nat.div_add_mod j _
          have h4 := (World.cells?_some h1).2.2 _ hr
          have h5 := (World.cells?_some h1).2.1
          have e2 : (Addr.add ⟨b, off, none⟩ (j / P.cellsOf e * P.cellsOf e)).add (j % P.cellsOf e) = ⟨b, off + j, none⟩ := by
            rw [add_add, e1]
            simp [Addr.add]
          rw [e2, List.getElem?_eq_getElem (by omega)] at h4
          rw [h4] at hu ⊢
          simpa using hu
        refine ⟨[.slice (P.cellsOf e) (((List.range len).map f).map (mkD P e))], Holds.one ?_, ?_⟩
        · have := RepD.slice (m := limOf w) (w := w) b off m (P.cellsOf e) (((List.range len).map f).map (mkD P e)) ((List.range (len * P.cellsOf e)).map fun j => (w.cell? ⟨b, off + j, none⟩).getD undef) (by simpa using hlc) hcm hsz (by rw [hfl]; simp) ?_ ?_
          · simpa using this
          · intro j u hu
            obtain ⟨hj, hcell⟩ := hat j u hu
            exact ⟨k1ez hcell, hcell⟩
          · intro j u c hu hc
            obtain ⟨hj, hcell⟩ := hat j u hu
            have hi : j / P.cellsOf e < len := by rw [Nat.div_lt_iff_lt_mul hpos]; exact hj
            have hr : j % P.cellsOf e < P.cellsOf e := Nat.mod_lt _ hpos
            obtain ⟨cs', h1, h2, h3⟩ := hf _ hi
            have e1 : j / P.cellsOf e * P.cellsOf e + j % P.cellsOf e = j := by rw [Nat.mul_comm]; exact Nat.div_add_mod j _
            rw [← e1, kxf hsz (hget _ hi) _ hr, hmk _ hi] at hc
            refine h2.2 _ u c ?_ hc
            rw [← (World.cells?_some h1).2.2 _ hr, ← hcell]
            congr 1
            rw [add_add, e1]
            simp [Addr.add]
        · simp only [Rel, hu]
          refine ⟨(List.range len).map f, rfl, by simp; omega, .inr ⟨_, _, rfl, by simp, ?_⟩⟩
          intro j x y hx hy
          have hj : j < len := by simpa using (List.getElem?_eq_some_iff.1 hx).1
          simp only [List.getElem?_map, List.getElem?_range hj, Option.map_some, Option.some.injEq] at hx hy
          subst hx; subst hy
          obtain ⟨_, _, _, h3⟩ := hf j hj
          exact h3
    · rename_i fs hu
      simp only [Bool.and_eq_true] at hT
      obtain ⟨xs, n', rfl, rfl, hl, hxl, hx⟩ := DataW.trod_struct hu h
      obtain ⟨ds, h1, h2⟩ := kzm (P := P) hl (fun _ => True) (fun _ _ => trivial) (Rel P k) (fun t c => DataW.trod enc P w 0 (fun _ => true) true n' t c) (fsOf fs) 0 xs hT.1 (by simp [fsOf, hxl])
        (fun p hp cs' y _ hy => ks7 k p.1 (List.all_eq_true.1 hT.2 p hp) n' cs' y hy)
        (fun i p hp => by
          simp only [fsOf, List.getElem?_map, Option.map_eq_some_iff] at hp
          obtain ⟨f, hf, rfl⟩ := hp
          exact hx i f (by simpa using hf))
      exact ⟨ds, by simpa using h1, by simp only [Rel, hu]; exact ⟨_, rfl, h2⟩⟩
    · rename_i m e hu
      simp only [Bool.and_eq_true] at hT
      obtain ⟨xs, n', rfl, rfl, hl, hxl, hx⟩ := DataW.trod_array hu h
      obtain ⟨ds, h1, h2⟩ := kzm (P := P) hl (fun _ => True) (fun _ _ => trivial) (Rel P k) (fun t c => DataW.trod enc P w 0 (fun _ => true) true n' t c) (arOf P m e) 0 xs hT.1 (by simp [arOf, hxl])
        (fun p hp cs' y _ hy => by
          simp only [arOf, List.mem_map] at hp
          obtain ⟨i, _, rfl⟩ := hp
          exact ks7 k e hT.2 n' cs' y hy)
        (fun i p hp => by
          simp only [arOf, List.getElem?_map, Option.map_eq_some_iff] at hp
          obtain ⟨f, hf, rfl⟩ := hp
          obtain ⟨hi, rfl⟩ := List.getElem?_eq_some_iff.1 hf
          have hi' : i < m := by simpa using hi
          simpa using hx i hi')
      exact ⟨ds, by simpa using h1, by simp only [Rel, hu]; exact ⟨_, rfl, h2⟩⟩
    · cases hT
end
end Go.Bv
namespace Go.Bv
open Go.RowKit Go.ChangeShapes Go.WideShapes
def G0 (W : World) : Gh := ⟨fun _ => none, fun _ => none, limOf W⟩
def vOf (P : Program) (t : TypeId) (ds : List D) : V := if isAggT P t then .agg (ds.map V.d) else .d (ds.headD (.bool false))
section
variable {H : Type} {enc : TypeId × Value → H} {P : Program} {W : World}
theorem arg_rep {k : Nat} {r : Reach} {base : Nat} {t : TypeId} {v : Value} {d : DataW H} {ps : List MemPlace} {h : Hp} {nx : Nat} (hT : dataT P k t = true) (hval : Value.okWide P W r base t v)
    (hd : DataW.Trod enc P W 0 (fun _ => true) true t v d ps) : ∃ ds, Rel P k t ds d ∧ RepV (G0 W) W h nx v (vOf P t ds) := by
  obtain ⟨n, hn⟩ := hd
  by_cases ha : isAggT P t = true
  · have hval' : ∃ cs, v = .agg cs ∧ cs.size = P.cellsOf t ∧ Row.okWide P W r base t cs := by
      unfold isAggT at ha
      unfold Value.okWide at hval
      split at ha
      · rename_i h1; rw [h1] at hval; exact hval
      · rename_i h1; rw [h1] at hval; exact hval
      · cases ha
    obtain ⟨cs, rfl, _, ts, _, _, hc⟩ := hval'
    obtain ⟨ds, h1, h2⟩ := ks7 k t hT n cs.toList _ hn
    refine ⟨ds, h2, ?_⟩
    unfold vOf
    rw [if_pos ha]
    have := RepV.agg (G := G0 W) (w := W) (h := h) (nx := nx) cs.toList (ds.map V.d) (by simpa using h1.1.symm) ?_ ?_
    · simpa using this
    · intro x hx
      obtain ⟨c, hcm, rfl⟩ := List.mem_map.1 hx
      obtain ⟨j, hj⟩ := List.getElem?_of_mem hcm
      have hjl : j < cs.toList.length := by have := h1.1; have := (List.getElem?_eq_some_iff.1 hj).1; simp [Value.cells] at *; omega
      exact (h1.2 j _ c (List.getElem?_eq_getElem hjl) hj).done
    · intro j u x hu hx
      rw [List.getElem?_map, Option.map_eq_some_iff] at hx
      obtain ⟨c, hcj, rfl⟩ := hx
      exact .d _ _ (h1.2 j u c hu hcj)
  · have hval' : Cell.okWide P W r base t v := by
      unfold Value.okWide at hval
      split at hval
      · rename_i h1; exact absurd (by simp [isAggT, h1]) ha
      · rename_i h1; exact absurd (by simp [isAggT, h1]) ha
      · exact hval
    have hcs : v.cells.toList = [v] := by
      cases v with
      | agg cs =>
        exfalso
        unfold Cell.okWide Cell.ok at hval'
        split at hval'
        all_goals first | (split at hval'; all_goals simp_all) | simp_all
      | _ => rfl
    rw [hcs] at hn
    obtain ⟨ds, h1, h2⟩ := ks7 k t hT n _ _ hn
    refine ⟨ds, h2, ?_⟩
    unfold vOf
    rw [if_neg ha]
    have hl := h1.1
    match ds, hl with
    | [c], _ => exact .d _ _ (h1.2 0 v c rfl rfl)
theorem law_of {f : FuncId} {xs : List V} {r : V} (hS : SoundH P f xs [] r []) {vs : List Value} (hlen : vs.length = xs.length)
    (hrep : ∀ (j : Nat) (v : Value) (x : V), vs[j]? = some v → xs[j]? = some x → RepV (G0 W) W [] 0 v x) :
    Calls P f vs.toArray W fun e W' => (∃ v G', e = .returned v ∧ RepV G' W' [] 0 v r) ∧ Below W.heap.size W W' := by
  refine (hS (G0 W) W vs hlen hrep ?_).mono fun e W' hh => ?_
  · refine ⟨?_, ?_, ?_, ?_, ?_, ?_⟩
    · intro id l h; simp [hpOf, Hp.get] at h
    · intro id es h; simp [hpOf, Hp.get] at h
    · intro id b h; simp at h
    · intro i j b h; simp at h
    · intro id ob h; simp [hpOf, Hp.get] at h
    · intro b hb
      show limOf W b = 0
      unfold limOf
      rw [Array.getElem?_eq_none hb]
  · obtain ⟨v, G', rfl, h1, h2, h3, h4⟩ := hh
    refine ⟨⟨v, G', rfl, h1⟩, h3.os, h3.tape, h3.output, h3.size, fun b hb => (h3.same b hb ?_).1⟩
    rintro ⟨i, hi, _⟩
    simp at hi
def typesOk (P : Program) (ts : List TypeId) : Bool := ts.all fun t => P.readableRec t && decide (t < P.types.size)
theorem kyo (hl : laidOutB P = true) {W' : World} (hb : Below W.heap.size W W') : ∀ {ts : List TypeId} {vs : List Value} {ds : List (DataW H)} {ps : List MemPlace}, typesOk P ts = true →
    DataW.TrodAll enc P W 0 (fun _ => true) true ts vs ds ps → (∀ x ∈ ps, x.block < W.heap.size) → DataW.TrodAll enc P W' 0 (fun b => decide (b < W.heap.size)) true ts vs ds ps
  | [], [], [], _, _, h, _ => h
  | [], [], _ :: _, _, _, h, _ => h.elim
  | [], _ :: _, _, _, _, h, _ => h.elim
  | _ :: _, [], _, _, _, h, _ => h.elim
  | _ :: _, _ :: _, [], _, _, h, _ => h.elim
  | t :: ts, v :: vs, d :: ds, ps, ht, h, hp => by
    simp only [typesOk, List.all_cons, Bool.and_eq_true, decide_eq_true_eq] at ht
    obtain ⟨p, q, h1, h2, rfl⟩ := h
    exact ⟨p, q, Below.trod hl ht.1.1 ht.1.2 h1 hb (fun x hx => hp x (by simp [hx])), kyo hl hb (by simpa [typesOk] using ht.2) h2 (fun x hx => hp x (by simp [hx])), rfl⟩
theorem rel_int {k : Nat} {t : TypeId} {q : IntKind} {ds : List D} {d : DataW H} (hu : P.underlying t = some (.int q)) (h : Rel P (k + 1) t ds d) : ∃ i, ds = [.int q i] ∧ d = .lit (.int q i) ∧ (Lit.int q i).wf = true := by unfold Rel at h; rw [hu] at h; exact h
theorem k1ev {k : Nat} {t : TypeId} {fs : Array Field} {ds : List D} {d : DataW H} (hu : P.underlying t = some (.struct fs)) (h : Rel P (k + 1) t ds d) : ∃ ps, d = .agg ps ∧ RelFs (Rel P k) (fsOf fs) ds ps := by unfold Rel at h; rw [hu] at h; exact h
theorem k1fo {k : Nat} {t e : TypeId} {ds : List D} {d : DataW H} {α : Type} [Inhabited α] (f : α → D) (p : α → Prop) (hu : P.underlying t = some (.slice e)) (h : Rel P (k + 1) t ds d)
    (tp : ∀ (x : List D) (y : DataW H), Rel P k e x y → ∃ a, mkD P e x = f a ∧ p a) :
    ∃ l : List α, ds = [.slice (P.cellsOf e) (l.map f)] ∧ l.length ≤ maxLen ∧ (∀ a ∈ l, p a) ∧ ((l = [] ∧ d = .nil) ∨ ∃ elems spare, d = .slice elems spare ∧ l.length = elems.length) := by
  unfold Rel at h
  rw [hu] at h
  obtain ⟨l, rfl, hmx, h⟩ := h
  rcases h with ⟨rfl, rfl⟩ | ⟨elems, spare, rfl, hlen, hh⟩
  · exact ⟨[], rfl, Nat.zero_le _, by simp, .inl ⟨rfl, rfl⟩⟩
  · have : ∀ i, i < l.length → ∃ a, mkD P e (l.getD i []) = f a ∧ p a := by
      intro i hi
      refine tp _ _ (hh i _ _ ?_ (List.getElem?_eq_getElem (by omega)))
      simp [List.getElem?_eq_getElem hi]
    obtain ⟨g, hg⟩ := Deep.choose_lt this
    refine ⟨(List.range l.length).map g, ?_, by simpa using hmx, ?_, .inr ⟨elems, spare, rfl, by simpa using hlen⟩⟩
    · have : l.map (mkD P e) = ((List.range l.length).map g).map f := by
        rw [Deep.map_by_index l [] (mkD P e), List.map_map]
        refine List.map_congr_left fun i hi => ?_
        exact (hg i (by simpa using hi)).1
      rw [this]
    · intro a ha
      obtain ⟨i, hi, rfl⟩ := List.mem_map.1 ha
      exact (hg i (by simpa using hi)).2
theorem k1h3 {fn : Func} {s : ChangeSpec} {W' : World} {args : Array Value} {ds : List (DataW H)} {before : List MemPlace} {tb : TypeId} (hv : s.vars = []) (hW : DataW.Whole enc P fn.params.toList s.vars false W args.toList ds [] before)
    (hl : laidOutB P = true) (hty : typesOk P fn.params.toList = true) (hr : fn.resultTypes = #[tb]) (hub : P.underlying tb = some .bool)
    (h1 : (s.fn H (ds ++ [])).results = [.lit (.bool true)]) (h2 : (s.fn H (ds ++ [])).args = ds) (h3 : (s.fn H (ds ++ [])).vars = []) (hb : Below W.heap.size W W') :
    s.post enc P fn false true false false W args (.bool true) W' := by
  have hW' := hW
  obtain ⟨p, q, hA, hV, rfl, _, _⟩ := hW
  have hq : q = [] := by rw [hv] at hV; exact hV
  subst hq
  refine ⟨ds, [], p ++ [], [], p, [], hW', ?_, ?_, ?_, hb.frame _, fun h => by cases h⟩
  · rw [h1, hr]
    exact trodAll_cons_mk (shut_bool hub _) trodAll_mk0
  · rw [h2]
    exact kyo hl hb hty hA (fun x hx => by simpa using hW'.lt x (by simpa using hx))
  · rw [hv, h3]
    rfl
end
structure RelH {H : Type} (P : Program) (k : Nat) (t : TypeId) (ds : List D) (d : DataW H) : Prop where
  h : Rel P k t ds d
section
variable {H : Type} {enc : TypeId × Value → H} {P : Program} {W : World} {k : Nat}
theorem relFs_h : ∀ {L : List (TypeId × Nat)} {ds : List D} {ps : List (DataW H)}, RelFs (Rel P k) L ds ps → RelFs (RelH P k) L ds ps
  | [], _, _, h => h
  | _ :: _, _, _, ⟨d1, d2, p, qs, h1, h2, e1, e2⟩ => ⟨d1, d2, p, qs, ⟨h1⟩, relFs_h h2, e1, e2⟩
theorem k1h4 {t : TypeId} {q : IntKind} {ds : List D} {d : DataW H} (hu : P.underlying t = some (.int q)) (h : RelH P (k + 1) t ds d) : ∃ i, ds = [.int q i] ∧ d = .lit (.int q i) ∧ (Lit.int q i).wf = true := rel_int hu h.h
theorem k1dj {t : TypeId} {fs : Array Field} {ds : List D} {d : DataW H} {L : List (TypeId × Nat)} (hu : P.underlying t = some (.struct fs)) (hf : fsOf fs = L) (h : RelH P (k + 1) t ds d) : ∃ ps, d = .agg ps ∧ RelFs (RelH P k) L ds ps := by
  obtain ⟨ps, h1, h2⟩ := k1ev hu h.h
  rw [hf] at h2
  exact ⟨ps, h1, relFs_h h2⟩
theorem k15d {t e : TypeId} {ds : List D} {d : DataW H} {α : Type} [Inhabited α] (f : α → D) (p : α → Prop) (sz : Nat) (hu : P.underlying t = some (.slice e)) (hs : P.cellsOf e = sz) (h : RelH P (k + 1) t ds d)
    (tp : ∀ (x : List D) (y : DataW H), RelH P k e x y → ∃ a, mkD P e x = f a ∧ p a) : ∃ l : List α, ds = [.slice sz (l.map f)] ∧ l.length ≤ 9223372036854775807 ∧ ∀ a ∈ l, p a := by
  obtain ⟨l, h1, h2, h3, _⟩ := k1fo f p hu h.h (fun x y hh => tp x y ⟨hh⟩)
  subst hs
  exact ⟨l, h1, h2, h3⟩
theorem mk_agg {e : TypeId} {ds cs : List D} (ha : isAggT P e = true) (h : ds = (D.agg cs).cells) : mkD P e ds = .agg cs := by subst h; unfold mkD; rw [ha]; rfl
theorem mk_one {e : TypeId} {ds : List D} {x : D} (ha : isAggT P e = false) (h : ds = [x]) : mkD P e ds = x := by subst h; unfold mkD; rw [ha]; rfl
theorem k14b {r : Reach} {base : Nat} {t : TypeId} {v : Value} {d : DataW H} {ps : List MemPlace} {h : Hp} {nx : Nat} (hT : dataT P k t = true) (hval : Value.okWide P W r base t v)
    (hd : DataW.Trod enc P W 0 (fun _ => true) true t v d ps) : ∃ ds, RelH P k t ds d ∧ RepV (G0 W) W h nx v (vOf P t ds) := by
  obtain ⟨ds, h1, h2⟩ := arg_rep hT hval hd
  exact ⟨ds, ⟨h1⟩, h2⟩
end
end Go.Bv
namespace Go.Proofs.Ytponaobpcdkggaa
open Go Go.Bv Go.Cv Go.Md Go.RowKit Go.ChangeShapes Go.WideShapes
theorem wf_u64 {i : Int} (h : (Lit.int .u64 i).wf = true) : 0 ≤ i ∧ i < 18446744073709551616 := by
  simp only [Lit.wf, IntKind.min, IntKind.max, IntKind.signed, IntKind.bits, Bool.and_eq_true] at h
  simp at h
  omega
theorem op22 {H : Type} {k : Nat} {ds : List D} {d : DataW H} (h : RelH Try.prog (k + 1) 22 ds d) : ∃ x : Int, ds = [D.int .u64 x] ∧ (0 ≤ x ∧ x < 18446744073709551616) := by
  obtain ⟨i, rfl, _, w⟩ := k1h4 (q := .u64) (show Try.prog.underlying 22 = some (.int .u64) by kernel_rfl) h
  exact ⟨i, rfl, wf_u64 w⟩
structure kbg (x : TMessage) : Prop where
  Tag : (0 ≤ x.Tag ∧ x.Tag < 18446744073709551616)
  L : (x.L.length ≤ 9223372036854775807 ∧ ∀ y ∈ x.L, (0 ≤ y ∧ y < 18446744073709551616))
theorem op23 {H : Type} {k : Nat} {ds : List D} {d : DataW H} (h : RelH Try.prog (k + 2) 23 ds d) : ∃ x : List Int, ds = [D.slice 1 (x.map (D.int .u64))] ∧ (x.length ≤ 9223372036854775807 ∧ ∀ y ∈ x, (0 ≤ y ∧ y < 18446744073709551616)) := by
  obtain ⟨l, rfl, hm, hl⟩ := k15d (D.int .u64) (fun y => (0 ≤ y ∧ y < 18446744073709551616)) 1 (show Try.prog.underlying 23 = some (.slice 22) by kernel_rfl) (by kernel_rfl) h (fun x y hh => by
    obtain ⟨a, e, ha⟩ := op22 (k := k + 0) hh
    exact ⟨a, mk_one (by kernel_rfl) e, ha⟩)
  exact ⟨l, rfl, ⟨hm, hl⟩⟩
theorem op25 {H : Type} {k : Nat} {ds : List D} {d : DataW H} (h : RelH Try.prog (k + 3) 25 ds d) : ∃ x : TMessage, ds = (encTMessage x).cells ∧ kbg x := by
  obtain ⟨ps, rfl, h1⟩ := k1dj (L := [(22, 0), (23, 1)]) (Try.underlying25) (by kernel_rfl) h
  obtain ⟨_, _, _, _, g0, ⟨_, _, _, _, g1, ⟨rfl, rfl⟩, rfl, rfl⟩, rfl, rfl⟩ := h1
  obtain ⟨a0, rfl, r0⟩ := op22 (k := k + 1) g0
  obtain ⟨a1, rfl, r1⟩ := op23 (k := k + 0) g1
  exact ⟨⟨a0, a1⟩, rfl, ⟨r0, r1⟩⟩
structure ky6 (x : TTranscript) : Prop where
  State : (0 ≤ x.State ∧ x.State < 18446744073709551616)
  Count : (0 ≤ x.Count ∧ x.Count < 18446744073709551616)
theorem op40 {H : Type} {k : Nat} {ds : List D} {d : DataW H} (h : RelH Try.prog (k + 4) 40 ds d) : ∃ x : List TMessage, ds = [D.slice 2 (x.map encTMessage)] ∧ (x.length ≤ 9223372036854775807 ∧ ∀ y ∈ x, kbg y) := by
  obtain ⟨l, rfl, hm, hl⟩ := k15d encTMessage (fun y => kbg y) 2 (show Try.prog.underlying 40 = some (.slice 25) by kernel_rfl) (by kernel_rfl) h (fun x y hh => by
    obtain ⟨a, e, ha⟩ := op25 (k := k + 0) hh
    exact ⟨a, mk_agg (by kernel_rfl) e, ha⟩)
  exact ⟨l, rfl, ⟨hm, hl⟩⟩
theorem dt22 : dataT Try.prog 1 22 = true := by kernel_rfl
theorem dt40 : dataT Try.prog 4 40 = true := by kernel_rfl
theorem own : ownKnob Try.prog.godebug = none := by kernel_rfl
theorem laid : laidOutB Try.prog = true := by kernel_rfl
end Go.Proofs.Ytponaobpcdkggaa
namespace Go.Md
open Go Go.Bv
theorem u64w (n : Int) : IntKind.u64.wrap n = n % 18446744073709551616 := IntKind.wrap_u64 n
theorem u8w (n : Int) : IntKind.u8.wrap n = n % 256 := IntKind.wrap_u8 n
theorem kp2 (k : IntKind) (a b : Int) : ishr k a b = a / ((2 ^ min b.toNat k.bits : Nat) : Int) := by
  unfold ishr
  rw [show (2 : Int) ^ min b.toNat k.bits = ((2 ^ min b.toNat k.bits : Nat) : Int) from (Int.natCast_pow 2 _).symm, Int.fdiv_eq_ediv_of_nonneg _ (Int.natCast_nonneg _)]
theorem k1gd (a b : Int) : ishl .u64 a b = (a * ((2 ^ min b.toNat 64 : Nat) : Int)) % 18446744073709551616 := by
  unfold ishl
  rw [u64w, show (2 : Int) ^ min b.toNat IntKind.u64.bits = ((2 ^ min b.toNat 64 : Nat) : Int) by rw [show IntKind.u64.bits = 64 from rfl]; exact (Int.natCast_pow 2 _).symm]
theorem kv3 (n : Nat) (h : n < 18446744073709551616) : (BitVec.ofInt 64 (n : Int)).toNat = n := by
  rw [BitVec.toNat_ofInt]
  omega
theorem k1at (a b : Nat) (ha : a < 18446744073709551616) (hb : b < 18446744073709551616) : iand .u64 a b = ((a &&& b : Nat) : Int) := by
  unfold iand
  rw [u64w]
  show (((BitVec.ofInt 64 a &&& BitVec.ofInt 64 b).toNat : Nat) : Int) % _ = _
  rw [BitVec.toNat_and, kv3 a ha, kv3 b hb]
  have := Nat.and_le_left (n := a) (m := b)
  omega
theorem ior_nat (a b : Nat) (ha : a < 18446744073709551616) (hb : b < 18446744073709551616) : ior .u64 a b = ((a ||| b : Nat) : Int) := by
  unfold ior
  rw [u64w]
  show (((BitVec.ofInt 64 a ||| BitVec.ofInt 64 b).toNat : Nat) : Int) % _ = _
  rw [BitVec.toNat_or, kv3 a ha, kv3 b hb]
  have := Nat.or_lt_two_pow (x := a) (y := b) (n := 64) (by omega) (by omega)
  omega
theorem klk (a : Int) (h : 0 ≤ a ∧ a < 18446744073709551616) : iand .u64 a 4294967295 = a % 4294967296 := by
  obtain ⟨n, rfl⟩ := Int.eq_ofNat_of_zero_le h.1
  have := k1at n 4294967295 (by omega) (by omega)
  rw [show ((4294967295 : Nat) : Int) = 4294967295 from rfl] at this
  rw [this, show (4294967295 : Nat) = 2 ^ 32 - 1 from rfl, Nat.and_two_pow_sub_one_eq_mod]
  exact Int.natCast_emod _ _
theorem k1ga (a : Int) (h : 0 ≤ a ∧ a < 18446744073709551616) : iand .u64 a 1 = a % 2 := by
  obtain ⟨n, rfl⟩ := Int.eq_ofNat_of_zero_le h.1
  have := k1at n 1 (by omega) (by omega)
  rw [show ((1 : Nat) : Int) = 1 from rfl] at this
  rw [this, Nat.and_one_is_mod]
  exact Int.natCast_emod _ _
theorem ior_add' (a c : Nat) (k : Nat) (ha : a < 2 ^ k) (h : a + 2 ^ k * c < 18446744073709551616) : ior .u64 ((2 ^ k * c : Nat) : Int) a = ((a + 2 ^ k * c : Nat) : Int) := by
  rw [ior_nat _ _ (by omega) (by omega), ← Nat.two_pow_add_eq_or_of_lt ha, Nat.add_comm]
theorem ishr32 (a : Int) : ishr .u64 a 32 = a / 4294967296 := kp2 _ _ _
theorem ishr16 (a : Int) : ishr .u64 a 16 = a / 65536 := kp2 _ _ _
theorem ishr8 (a : Int) : ishr .u64 a 8 = a / 256 := kp2 _ _ _
theorem ishr1 (a : Int) : ishr .u64 a 1 = a / 2 := kp2 _ _ _
theorem k1gg (a b : Int) (ha : 0 ≤ a ∧ a < 18446744073709551616) (hb : 0 ≤ b ∧ b < 18446744073709551616) :
    ((a / 4294967296 * (b / 4294967296) + ((a / 4294967296 * (b % 4294967296) + a % 4294967296 * (b % 4294967296) / 4294967296) / 4294967296)) + ((a / 4294967296 * (b % 4294967296) + a % 4294967296 * (b % 4294967296) / 4294967296) % 4294967296 + a % 4294967296 * (b / 4294967296)) / 4294967296) = a * b / 18446744073709551616 ∧
    a % 4294967296 * (b % 4294967296) < 18446744073709551616 ∧ a / 4294967296 * (b % 4294967296) + a % 4294967296 * (b % 4294967296) / 4294967296 < 18446744073709551616 ∧
    a % 4294967296 * (b / 4294967296) < 18446744073709551616 - 4294967296 ∧ a / 4294967296 * (b / 4294967296) < 18446744065119617026 ∧ 0 ≤ a % 4294967296 * (b % 4294967296) ∧ 0 ≤ a / 4294967296 * (b % 4294967296) ∧ 0 ≤ a % 4294967296 * (b / 4294967296) ∧ 0 ≤ a / 4294967296 * (b / 4294967296) := by
  have h1 : ∀ x y : Int, 0 ≤ x → x ≤ 4294967295 → 0 ≤ y → y ≤ 4294967295 → 0 ≤ x * y ∧ x * y ≤ 18446744065119617025 := by
    intro x y h0 h1 h2 h3
    exact ⟨Int.mul_nonneg h0 h2, by have := Int.mul_le_mul h1 h3 h2 (by omega); omega⟩
  have a1 := h1 (a % 4294967296) (b % 4294967296) (by omega) (by omega) (by omega) (by omega)
  have a2 := h1 (a / 4294967296) (b % 4294967296) (by omega) (by omega) (by omega) (by omega)
  have a3 := h1 (a % 4294967296) (b / 4294967296) (by omega) (by omega) (by omega) (by omega)
  have a4 := h1 (a / 4294967296) (b / 4294967296) (by omega) (by omega) (by omega) (by omega)
  have e : a * b = a / 4294967296 * (b / 4294967296) * 18446744073709551616 + (a / 4294967296 * (b % 4294967296) + a % 4294967296 * (b / 4294967296)) * 4294967296 + a % 4294967296 * (b % 4294967296) := by
    have ea : a = a / 4294967296 * 4294967296 + a % 4294967296 := by omega
    have eb : b = b / 4294967296 * 4294967296 + b % 4294967296 := by omega
    conv => lhs; rw [ea, eb]
    generalize a / 4294967296 = x
    generalize a % 4294967296 = y
    generalize b / 4294967296 = z
    generalize b % 4294967296 = t
    grind
  generalize a % 4294967296 * (b % 4294967296) = p0 at *
  generalize a / 4294967296 * (b % 4294967296) = p1 at *
  generalize a % 4294967296 * (b / 4294967296) = p2 at *
  generalize a / 4294967296 * (b / 4294967296) = p3 at *
  generalize a * b = ab at *
  refine ⟨?_, ?_, ?_, ?_, ?_, ?_, ?_, ?_, ?_⟩ <;> omega
structure Half (U x a b Q : Int) : Prop where
  hU : 0 ≤ U
  hUv : U < a * 4294967296 + b
  hx : 0 ≤ x ∧ x < 4294967296
  ha : 2147483648 ≤ a ∧ a < 4294967296
  hb : 0 ≤ b ∧ b < 4294967296
  hQ : Q = (U * 4294967296 + x) / (a * 4294967296 + b)
theorem Half.q {U x a b Q : Int} (h : Half U x a b Q) : 0 ≤ Q ∧ Q < 4294967296 ∧ Q * (a * 4294967296 + b) ≤ U * 4294967296 + x ∧ U * 4294967296 + x < (Q + 1) * (a * 4294967296 + b) := by
  obtain ⟨h1, h2, h3, h4, h5, h6⟩ := h
  have hv : 0 < a * 4294967296 + b := by omega
  have e := Int.emod_add_mul_ediv (U * 4294967296 + x) (a * 4294967296 + b)
  have l := Int.emod_nonneg (U * 4294967296 + x) (by omega : a * 4294967296 + b ≠ 0)
  have r := Int.emod_lt_of_pos (U * 4294967296 + x) hv
  rw [← h6] at e
  generalize hvv : a * 4294967296 + b = v at *
  have e2 : (Q + 1) * v = Q * v + v := by grind
  have e3 : v * Q = Q * v := by grind
  have q0 : 0 ≤ Q := by
    rw [h6]
    exact Int.ediv_nonneg (by omega) (by omega)
  have q1 : Q < 4294967296 := by
    rw [h6]
    exact Int.ediv_lt_of_lt_mul hv (by omega)
  refine ⟨q0, q1, by omega, by omega⟩
theorem Half.exit {U x a b Q q r : Int} (h : Half U x a b Q) (e : q * a + r = U) (hq : Q ≤ q) (h2 : q * b ≤ r * 4294967296 + x) : q = Q := by
  obtain ⟨q0, q1, q2, q3⟩ := h.q
  have h4 := h.ha
  have : q * (a * 4294967296 + b) ≤ U * 4294967296 + x := by
    have : q * (a * 4294967296 + b) = q * a * 4294967296 + q * b := by grind
    rw [this]
    generalize q * a = qa at *
    omega
  have h5 : q < Q + 1 := by
    have hv : 0 < a * 4294967296 + b := by have := h.hb; omega
    exact Int.lt_of_mul_lt_mul_right (by omega) (Int.le_of_lt hv)
  omega
theorem Half.down {U x a b Q q r : Int} (h : Half U x a b Q) (e : q * a + r = U) (h2 : 4294967296 ≤ q ∨ r * 4294967296 + x < q * b) : Q ≤ q - 1 := by
  obtain ⟨q0, q1, q2, q3⟩ := h.q
  rcases h2 with h2 | h2
  · omega
  · have : U * 4294967296 + x < q * (a * 4294967296 + b) := by
      have : q * (a * 4294967296 + b) = q * a * 4294967296 + q * b := by grind
      rw [this]
      generalize q * a = qa at *
      omega
    have h5 : Q < q := by
      have hv : 0 < a * 4294967296 + b := by have := h.hb; have := h.ha; omega
      exact Int.lt_of_mul_lt_mul_right (a := a * 4294967296 + b) (by omega) (Int.le_of_lt hv)
    omega
theorem Half.small {U x a b Q q r : Int} (h : Half U x a b Q) (e : q * a + r = U) (hr : 4294967296 ≤ r) : q < 4294967296 := by
  have h2 := h.hUv
  have h4 := h.ha
  have h5 := h.hb
  have : q * a < 4294967296 * a := by generalize q * a = qa at *; omega
  exact Int.lt_of_mul_lt_mul_right this (by omega)
theorem Half.done {U x a b Q q r : Int} (h : Half U x a b Q) (e : q * a + r = U) (hq : Q ≤ q) (hr : 4294967296 ≤ r) : q = Q := by
  refine h.exit e hq ?_
  have h1 := h.small e hr
  obtain ⟨q0, _⟩ := h.q
  have h5 := h.hb
  have h6 := h.hx
  have : q * b ≤ 4294967296 * 4294967296 := Int.mul_le_mul (by omega) (by omega) (by omega) (by omega)
  omega
theorem Half.rest {U x a b Q : Int} (h : Half U x a b Q) : (U * 4294967296 + x) - Q * (a * 4294967296 + b) = (U * 4294967296 + x) % (a * 4294967296 + b) ∧ 0 ≤ (U * 4294967296 + x) % (a * 4294967296 + b) ∧ (U * 4294967296 + x) % (a * 4294967296 + b) < a * 4294967296 + b := by
  have hv : 0 < a * 4294967296 + b := by have := h.hb; have := h.ha; omega
  have e := Int.emod_add_mul_ediv (U * 4294967296 + x) (a * 4294967296 + b)
  rw [← h.hQ] at e
  have := Int.mul_comm (a * 4294967296 + b) Q
  exact ⟨by omega, Int.emod_nonneg _ (by omega), Int.emod_lt_of_pos _ hv⟩
theorem k1ef {N y p U un1 un0 Q1 R1 Q0 R0 : Int} (hp : 0 < p) (hy : 0 < y) (hN : N * p = U * 18446744073709551616 + un1 * 4294967296 + un0) (h1 : U * 4294967296 + un1 - Q1 * (y * p) = R1) (h0 : R1 * 4294967296 + un0 - Q0 * (y * p) = R0)
    (hr : 0 ≤ R0 ∧ R0 < y * p) : Q1 * 4294967296 + Q0 = N / y ∧ R0 / p = N % y := by
  have e : N * p = (Q1 * 4294967296 + Q0) * (y * p) + R0 := by
    rw [hN]
    have : (Q1 * 4294967296 + Q0) * (y * p) = Q1 * (y * p) * 4294967296 + Q0 * (y * p) := by grind
    rw [this]
    generalize Q1 * (y * p) = a at *
    generalize Q0 * (y * p) = b at *
    omega
  have e2 : R0 = (N - (Q1 * 4294967296 + Q0) * y) * p := by grind
  have h3 : 0 ≤ N - (Q1 * 4294967296 + Q0) * y := by
    rcases Int.lt_or_le (N - (Q1 * 4294967296 + Q0) * y) 0 with h | h
    · exfalso
      have : (N - (Q1 * 4294967296 + Q0) * y) * p < 0 := Int.mul_neg_of_neg_of_pos h hp
      omega
    · exact h
  have h4 : N - (Q1 * 4294967296 + Q0) * y < y := by
    refine Int.lt_of_mul_lt_mul_right (a := p) ?_ (Int.le_of_lt hp)
    omega
  have e3 : N = (N - (Q1 * 4294967296 + Q0) * y) + y * (Q1 * 4294967296 + Q0) := by grind
  constructor
  · conv => rhs; rw [e3]
    rw [Int.add_mul_ediv_left _ _ (by omega), Int.ediv_eq_zero_of_lt h3 h4]
    omega
  · rw [e2, Int.mul_ediv_cancel _ (by omega)]
    conv => rhs; rw [e3]
    rw [Int.add_mul_emod_self_left, Int.emod_eq_of_lt h3 h4]
end Go.Md
namespace Go.Md
open Go Go.Bv
theorem ix_nat {α : Type} [Inhabited α] (l : List α) (i : Int) (h0 : 0 ≤ i) (h1 : i < (l.length : Int)) : ix l i = l[i.toNat]'(by omega) := by
  have : i.toNat < l.length := by omega
  simp [ix, this]
theorem ix_mem {α : Type} [Inhabited α] (l : List α) (i : Int) (h0 : 0 ≤ i) (h1 : i < (l.length : Int)) : ix l i ∈ l := by
  rw [ix_nat l i h0 h1]; exact List.getElem_mem _
theorem inc (i n : Int) (h0 : 0 ≤ i) (h : i < n) (hn : n ≤ 9223372036854775807) : IntKind.i64.wrap (i + 1) = i + 1 := k1b5 _ (by omega) (by omega)
theorem wi (n : Int) (h0 : -9223372036854775808 ≤ n) (h : n ≤ 9223372036854775807) : IntKind.i64.wrap n = n := k1b5 n h0 (by omega)
theorem wu (n : Int) (h0 : 0 ≤ n) (h : n ≤ 18446744073709551615) : IntKind.u64.wrap n = n := wrap_u64 n h0 (by omega)
theorem tdiv_nn (a b : Int) (h : 0 ≤ a) : Int.tdiv a b = a / b := Int.tdiv_eq_ediv_of_nonneg h
theorem tmod_nn (a b : Int) (h : 0 ≤ a) : Int.tmod a b = a % b := Int.tmod_eq_emod_of_nonneg h
theorem k69 {α : Type} [Inhabited α] (l : List α) (i : Int) (h0 : 0 ≤ i) (h1 : i < (l.length : Int)) : l.take (i + 1).toNat = l.take i.toNat ++ [ix l i] := by
  rw [ix_nat l i h0 h1, show (i + 1).toNat = i.toNat + 1 by omega, List.take_succ_eq_append_getElem (by omega)]
theorem drop_ix {α : Type} [Inhabited α] (l : List α) (i : Int) (h0 : 0 ≤ i) (h1 : i < (l.length : Int)) : l.drop i.toNat = ix l i :: l.drop (i + 1).toNat := by
  rw [ix_nat l i h0 h1, show (i + 1).toNat = i.toNat + 1 by omega]
  exact List.drop_eq_getElem_cons (by omega)
theorem kxu (a m : Int) : ∀ k : Nat, (a % m) ^ k % m = a ^ k % m
  | 0 => by simp
  | k + 1 => by rw [Int.pow_succ, Int.pow_succ, Int.mul_emod, kxu a m k, Int.emod_emod_of_dvd _ (Int.dvd_refl _), ← Int.mul_emod]
abbrev U64 (n : Int) : Prop := 0 ≤ n ∧ n < 18446744073709551616
abbrev By (l : List Int) : Prop := ∀ x ∈ l, 0 ≤ x ∧ x < 256
abbrev Us (l : List Int) : Prop := ∀ x ∈ l, 0 ≤ x ∧ x < 18446744073709551616
def dig : Nat → Int → List Int
  | 0, _ => []
  | k + 1, n => n % 256 :: dig k (n / 256)
def val : List Int → Int
  | [] => 0
  | x :: r => x + 256 * val r
@[simp] theorem ko1 : ∀ (k : Nat) (n : Int), (dig k n).length = k
  | 0, _ => rfl
  | k + 1, n => by simp [dig, ko1 k]
theorem k12o (k : Nat) : (256 : Int) ^ (k + 1) = 256 * 256 ^ k := by rw [Int.pow_succ, Int.mul_comm]
theorem k1ew (k : Nat) : (0 : Int) < 256 ^ k := Int.pow_pos (by omega)
theorem k1bc : ∀ (k : Nat) (n : Int), dig (k + 1) n = dig k n ++ [n / 256 ^ k % 256]
  | 0, n => by simp [dig]
  | k + 1, n => by
    show n % 256 :: dig (k + 1) (n / 256) = n % 256 :: dig k (n / 256) ++ _
    rw [k1bc k (n / 256), k12o, Int.ediv_ediv_of_nonneg (by omega)]
    rfl
theorem dig_by : ∀ (k : Nat) (n : Int), By (dig k n)
  | 0, _ => by intro x hx; cases hx
  | k + 1, n => by
    intro x hx
    rcases List.mem_cons.1 hx with rfl | hx
    · omega
    · exact dig_by k _ x hx
theorem val_dig : ∀ (k : Nat) (n : Int), 0 ≤ n → n < 256 ^ k → val (dig k n) = n
  | 0, n, h0, h => by simp at h; simp [dig, val]; omega
  | k + 1, n, h0, h => by
    rw [k12o] at h
    simp only [dig, val]
    rw [val_dig k (n / 256) (by omega) (Int.ediv_lt_of_lt_mul (by omega) (by rw [Int.mul_comm]; exact h))]
    omega
theorem dig_inj {k : Nat} {a b : Int} (ha : 0 ≤ a ∧ a < 256 ^ k) (hb : 0 ≤ b ∧ b < 256 ^ k) (h : dig k a = dig k b) : a = b := by
  rw [← val_dig k a ha.1 ha.2, h, val_dig k b hb.1 hb.2]
def len4 (n : Int) : Int := if n < 0 ∨ 4294967295 < n then 0 else n
def encL (l : List Int) : List Int := dig 4 (len4 l.length) ++ l.flatMap (dig 8)
def encB (l : List Int) : List Int := dig 4 (len4 l.length) ++ l
theorem k116 (l : List Int) : (l.flatMap (dig 8)).length = 8 * l.length := by
  induction l with
  | nil => rfl
  | cons x r ih => rw [List.flatMap_cons, List.length_append, ih, ko1, List.length_cons]; omega
@[simp] theorem k1hg (l : List Int) : (encL l).length = 4 + 8 * l.length := by rw [encL, List.length_append, k116, ko1]
@[simp] theorem k1hf (l : List Int) : (encB l).length = 4 + l.length := by simp [encB]
theorem By.append {a b : List Int} (ha : By a) (hb : By b) : By (a ++ b) := fun x hx => (List.mem_append.1 hx).elim (ha x) (hb x)
theorem kxs (l : List Int) : By (l.flatMap (dig 8)) := fun x hx => by
  obtain ⟨y, _, hy⟩ := List.mem_flatMap.1 hx
  exact dig_by 8 y x hy
theorem By.take {l : List Int} (h : By l) (n : Nat) : By (l.take n) := fun x hx => h x (List.mem_of_mem_take hx)
theorem By.drop {l : List Int} (h : By l) (n : Nat) : By (l.drop n) := fun x hx => h x (List.mem_of_mem_drop hx)
theorem By.us {l : List Int} (h : By l) : Us l := fun x hx => by have := h x hx; omega
theorem ba_loop (b : ByteArray) : ∀ (k i : Nat) (r : List UInt8), b.size - i = k → i ≤ b.size → ByteArray.toList.loop b i r = r.reverse ++ b.data.toList.drop i
  | 0, i, r, h, hi => by
    unfold ByteArray.toList.loop
    have hs : b.data.toList.length = b.size := by rw [Array.length_toList]; rfl
    rw [if_neg (by omega), List.drop_eq_nil_of_le (by omega), List.append_nil]
  | k + 1, i, r, h, hi => by
    unfold ByteArray.toList.loop
    have hs : b.data.toList.length = b.size := by rw [Array.length_toList]; rfl
    rw [if_pos (by omega), ba_loop b k (i + 1) _ (by omega) (by omega), List.reverse_cons, List.append_assoc, List.drop_eq_getElem_cons (l := b.data.toList) (i := i) (by omega)]
    have e : b.get! i = b.data.toList[i]'(by omega) := by
      show b.data[i]! = _
      rw [getElem!_pos b.data i (show i < b.size by omega)]
      exact (Array.getElem_toList _).symm
    rw [e]; rfl
theorem k189 (b : ByteArray) : b.toList = b.data.toList := by
  have := ba_loop b _ 0 [] rfl (by omega)
  simpa [ByteArray.toList] using this
theorem k18i : ∀ {l m : List Int}, By l → By m → (l.map fun n => UInt8.ofNat n.toNat) = (m.map fun n => UInt8.ofNat n.toNat) → l = m
  | [], [], _, _, _ => rfl
  | [], _ :: _, _, _, h => by cases h
  | _ :: _, [], _, _, h => by cases h
  | x :: l, y :: m, hl, hm, h => by
    rw [List.map_cons, List.map_cons, List.cons.injEq] at h
    have e := k18i (fun z hz => hl z (by simp [hz])) (fun z hz => hm z (by simp [hz])) h.2
    have h1 := hl x (by simp)
    have h2 := hm y (by simp)
    have h3 := congrArg UInt8.toNat h.1
    simp only [UInt8.toNat_ofNat'] at h3
    rw [e, show x = y by omega]
theorem strEq {l m : List Int} (hl : By l) (hm : By m) : ((strOfNums l).toList == (strOfNums m).toList) = decide (l = m) := by
  rw [k189, k189, strOfNums_data, strOfNums_data]
  by_cases e : l = m
  · subst e; simp
  · rw [decide_eq_false e]
    rw [beq_eq_false_iff_ne]
    exact fun h => e (k18i hl hm h)
end Go.Md
namespace Go.Md
open Go Go.Bv
def len64 (x : Int) : Int := if x = 0 then 0 else (Nat.log2 x.toNat + 1 : Nat)
theorem kvs (x : Int) (k : Nat) (h : ((2 ^ k : Nat) : Int) ≤ x) : len64 (x / ((2 ^ k : Nat) : Int)) + k = len64 x := by
  obtain ⟨n, rfl⟩ := Int.eq_ofNat_of_zero_le (by have := Nat.two_pow_pos k; omega : 0 ≤ x)
  have hp : 0 < 2 ^ k := Nat.two_pow_pos k
  have hn : 2 ^ k ≤ n := by omega
  have e : ((n : Int) / ((2 ^ k : Nat) : Int)) = ((n / 2 ^ k : Nat) : Int) := (Int.natCast_ediv _ _).symm
  have h1 : 0 < n / 2 ^ k := Nat.div_pos hn hp
  unfold len64
  rw [e, if_neg (by omega), if_neg (by omega), Int.toNat_natCast, Int.toNat_natCast]
  have : Nat.log2 n = Nat.log2 (n / 2 ^ k) + k := by
    rw [Nat.log2_eq_iff (by omega)]
    have a := Nat.log2_self_le (n := n / 2 ^ k) (by omega)
    have b := Nat.lt_log2_self (n := n / 2 ^ k)
    rw [Nat.le_div_iff_mul_le hp] at a
    rw [Nat.div_lt_iff_lt_mul hp] at b
    constructor
    · rw [Nat.pow_add]; exact a
    · rw [show Nat.log2 (n / 2 ^ k) + k + 1 = Nat.log2 (n / 2 ^ k) + 1 + k by omega, Nat.pow_add]; exact b
  omega
theorem k15z (y : Int) (h : 0 < y ∧ y < 18446744073709551616) : ∃ s : Nat, 64 - len64 y = (s : Int) ∧ s ≤ 63 ∧ 9223372036854775808 ≤ y * ((2 ^ s : Nat) : Int) ∧ y * ((2 ^ s : Nat) : Int) < 18446744073709551616 := by
  obtain ⟨n, rfl⟩ := Int.eq_ofNat_of_zero_le (by omega : 0 ≤ y)
  have l : Nat.log2 n < 64 := (Nat.log2_lt (by omega)).2 (by omega)
  have a := Nat.log2_self_le (n := n) (by omega)
  have b := Nat.lt_log2_self (n := n)
  refine ⟨63 - Nat.log2 n, ?_, by omega, ?_, ?_⟩
  · unfold len64
    rw [if_neg (by omega), Int.toNat_natCast]
    omega
  · have : 2 ^ 63 ≤ n * 2 ^ (63 - Nat.log2 n) := by
      rw [show (63 : Nat) = Nat.log2 n + (63 - Nat.log2 n) by omega, Nat.pow_add, show Nat.log2 n + (63 - Nat.log2 n) - Nat.log2 n = 63 - Nat.log2 n by omega]
      exact Nat.mul_le_mul_right _ a
    rw [← Int.natCast_mul]
    generalize n * 2 ^ (63 - Nat.log2 n) = m at *
    omega
  · have : n * 2 ^ (63 - Nat.log2 n) < 2 ^ 64 := by
      rw [show (64 : Nat) = Nat.log2 n + 1 + (63 - Nat.log2 n) by omega, Nat.pow_add]
      exact Nat.mul_lt_mul_of_pos_right b (Nat.two_pow_pos _)
    rw [← Int.natCast_mul]
    generalize n * 2 ^ (63 - Nat.log2 n) = m at *
    omega
def tab8 : ByteArray := ⟨#[0, 1, 2, 2, 3, 3, 3, 3, 4, 4, 4, 4, 4, 4, 4, 4, 5, 5, 5, 5, 5, 5, 5, 5, 5, 5, 5, 5, 5, 5, 5, 5, 6, 6, 6, 6, 6, 6, 6, 6, 6, 6, 6, 6, 6, 6, 6, 6, 6, 6, 6, 6, 6, 6, 6, 6, 6, 6, 6, 6, 6, 6, 6, 6, 7, 7, 7, 7, 7, 7, 7, 7, 7, 7, 7, 7, 7, 7, 7, 7, 7, 7, 7, 7, 7, 7, 7, 7, 7, 7, 7, 7, 7, 7, 7, 7, 7, 7, 7, 7, 7, 7, 7, 7, 7, 7, 7, 7, 7, 7, 7, 7, 7, 7, 7, 7, 7, 7, 7, 7, 7, 7, 7, 7, 7, 7, 7, 7, 8, 8, 8, 8, 8, 8, 8, 8, 8, 8, 8, 8, 8, 8, 8, 8, 8, 8, 8, 8, 8, 8, 8, 8, 8, 8, 8, 8, 8, 8, 8, 8, 8, 8, 8, 8, 8, 8, 8, 8, 8, 8, 8, 8, 8, 8, 8, 8, 8, 8, 8, 8, 8, 8, 8, 8, 8, 8, 8, 8, 8, 8, 8, 8, 8, 8, 8, 8, 8, 8, 8, 8, 8, 8, 8, 8, 8, 8, 8, 8, 8, 8, 8, 8, 8, 8, 8, 8, 8, 8, 8, 8, 8, 8, 8, 8, 8, 8, 8, 8, 8, 8, 8, 8, 8, 8, 8, 8, 8, 8, 8, 8, 8, 8, 8, 8, 8, 8, 8, 8, 8, 8, 8, 8, 8, 8, 8, 8]⟩
theorem k1gj : ∀ b : Nat, b < 256 → Cv.byteAt tab8 (b : Int) = len64 (b : Int) := by decide +kernel
theorem k1c1 (x : Int) (h : 0 ≤ x ∧ x < 256) : Cv.byteAt tab8 x = len64 x := by
  obtain ⟨n, rfl⟩ := Int.eq_ofNat_of_zero_le h.1
  exact k1gj n (by omega)
theorem k1dl (x : Int) (h : 0 ≤ x ∧ x < 256) : 0 ≤ len64 x ∧ len64 x ≤ 8 := by
  rw [← k1c1 x h]
  obtain ⟨n, rfl⟩ := Int.eq_ofNat_of_zero_le h.1
  have : ∀ b : Nat, b < 256 → 0 ≤ Cv.byteAt tab8 (b : Int) ∧ Cv.byteAt tab8 (b : Int) ≤ 8 := by decide +kernel
  exact this n (by omega)
theorem k1fq : tab8.size = 256 := by decide +kernel
end Go.Md
namespace Go.Md
open Go Go.Bv Go.Cv Go.Md Go.RowKit
section
variable {α β : Type}
def AllI (f : α → Bool) (l : List α) (i : Int) : Prop := 0 ≤ i ∧ i ≤ l.length ∧ ∀ x ∈ l.take i.toNat, f x = true
theorem AllI.start {f : α → Bool} {l : List α} : AllI f l 0 := ⟨by omega, by omega, by simp⟩
theorem AllI.next [Inhabited α] {f : α → Bool} {l : List α} {i : Int} (h : AllI f l i) (hh : i < l.length) (hl : (l.length : Int) ≤ 9223372036854775807) (hf : f (ix l i) = true) :
    AllI f l (IntKind.i64.wrap (i + 1)) ∧ (l.length - IntKind.i64.wrap (i + 1)).toNat < (l.length - i).toNat := by
  obtain ⟨g0, g1, g2⟩ := h
  rw [inc i l.length g0 hh hl]
  refine ⟨⟨by omega, by omega, ?_⟩, by omega⟩
  rw [k69 l i g0 hh]
  intro x hx
  rcases List.mem_append.1 hx with hx | hx
  · exact g2 x hx
  · have : x = ix l i := by simpa using hx
    rw [this]; exact hf
theorem AllI.bad [Inhabited α] {f : α → Bool} {l : List α} {i : Int} (h : AllI f l i) (hh : i < l.length) (hf : f (ix l i) = false) : l.all f = false :=
  List.all_eq_false.2 ⟨ix l i, Md.ix_mem l i h.1 hh, by simp [hf]⟩
theorem AllI.done {f : α → Bool} {l : List α} {i : Int} (h : AllI f l i) (hh : ¬ i < l.length) : l.all f = true := by
  obtain ⟨g0, g1, g2⟩ := h
  rw [List.take_of_length_le (by omega)] at g2
  exact List.all_eq_true.2 g2
def FoldI (f : β → α → β) (z : β) (l : List α) (i : Int) (s : β) : Prop := 0 ≤ i ∧ i ≤ l.length ∧ s = (l.take i.toNat).foldl f z
theorem FoldI.start {f : β → α → β} {z : β} {l : List α} : FoldI f z l 0 z := ⟨by omega, by omega, by simp⟩
theorem FoldI.next [Inhabited α] {f : β → α → β} {z : β} {l : List α} {i : Int} {s s' : β} (h : FoldI f z l i s) (hh : i < l.length) (hl : (l.length : Int) ≤ 9223372036854775807) (hs : s' = f s (ix l i)) :
    FoldI f z l (IntKind.i64.wrap (i + 1)) s' ∧ (l.length - IntKind.i64.wrap (i + 1)).toNat < (l.length - i).toNat := by
  obtain ⟨g0, g1, g2⟩ := h
  rw [inc i l.length g0 hh hl]
  refine ⟨⟨by omega, by omega, ?_⟩, by omega⟩
  rw [k69 l i g0 hh, List.foldl_append, ← g2, hs]
  rfl
theorem FoldI.done {f : β → α → β} {z : β} {l : List α} {i : Int} {s : β} (h : FoldI f z l i s) (hh : ¬ i < l.length) : s = l.foldl f z := by
  obtain ⟨g0, g1, g2⟩ := h
  rwa [List.take_of_length_le (by omega)] at g2
def FlatI (f : α → List β) (z : List β) (l : List α) (i : Int) (s : List β) : Prop := 0 ≤ i ∧ i ≤ l.length ∧ s = z ++ (l.take i.toNat).flatMap f
theorem FlatI.start {f : α → List β} {z : List β} {l : List α} : FlatI f z l 0 z := ⟨by omega, by omega, by simp⟩
theorem FlatI.next [Inhabited α] {f : α → List β} {z : List β} {l : List α} {i : Int} {s s' : List β} (h : FlatI f z l i s) (hh : i < l.length) (hl : (l.length : Int) ≤ 9223372036854775807) (hs : s' = s ++ f (ix l i)) :
    FlatI f z l (IntKind.i64.wrap (i + 1)) s' ∧ (l.length - IntKind.i64.wrap (i + 1)).toNat < (l.length - i).toNat := by
  obtain ⟨g0, g1, g2⟩ := h
  rw [inc i l.length g0 hh hl]
  refine ⟨⟨by omega, by omega, ?_⟩, by omega⟩
  rw [k69 l i g0 hh, List.flatMap_append, hs, g2]
  simp
theorem FlatI.done {f : α → List β} {z : List β} {l : List α} {i : Int} {s : List β} (h : FlatI f z l i s) (hh : ¬ i < l.length) : s = z ++ l.flatMap f := by
  obtain ⟨g0, g1, g2⟩ := h
  rwa [List.take_of_length_le (by omega)] at g2
theorem FlatI.len {f : α → List β} {z : List β} {l : List α} {i : Int} {s : List β} (h : FlatI f z l i s) (k : Nat) (hk : ∀ x ∈ l, (f x).length ≤ k) : s.length ≤ z.length + k * l.length := by
  obtain ⟨g0, g1, g2⟩ := h
  have key : ∀ (m : List α), (∀ x ∈ m, (f x).length ≤ k) → (m.flatMap f).length ≤ k * m.length := by
    intro m
    induction m with
    | nil => simp
    | cons a m ih =>
      intro hm
      have h1 := ih (fun x hx => hm x (by simp [hx]))
      have h2 := hm a (by simp)
      rw [List.flatMap_cons, List.length_append, List.length_cons, Nat.mul_add]
      omega
  have h1 := key (l.take i.toNat) (fun x hx => hk x (List.mem_of_mem_take hx))
  have h2 : k * (l.take i.toNat).length ≤ k * l.length := Nat.mul_le_mul_left _ (by rw [List.length_take]; omega)
  rw [g2, List.length_append]
  omega
def MapI (f : α → β) (l : List α) (i : Int) (s : List β) : Prop := 0 ≤ i ∧ i ≤ l.length ∧ s = (l.take i.toNat).map f
theorem MapI.start {f : α → β} {l : List α} : MapI f l 0 [] := ⟨by omega, by omega, by simp⟩
theorem MapI.next [Inhabited α] {f : α → β} {l : List α} {i : Int} {s s' : List β} (h : MapI f l i s) (hh : i < l.length) (hl : (l.length : Int) ≤ 9223372036854775807) (hs : s' = s ++ [f (ix l i)]) :
    MapI f l (IntKind.i64.wrap (i + 1)) s' ∧ (l.length - IntKind.i64.wrap (i + 1)).toNat < (l.length - i).toNat := by
  obtain ⟨g0, g1, g2⟩ := h
  rw [inc i l.length g0 hh hl]
  refine ⟨⟨by omega, by omega, ?_⟩, by omega⟩
  rw [k69 l i g0 hh, List.map_append, hs, g2]
  simp
theorem MapI.done {f : α → β} {l : List α} {i : Int} {s : List β} (h : MapI f l i s) (hh : ¬ i < l.length) : s = l.map f := by
  obtain ⟨g0, g1, g2⟩ := h
  rwa [List.take_of_length_le (by omega)] at g2
theorem MapI.len {f : α → β} {l : List α} {i : Int} {s : List β} (h : MapI f l i s) : s.length = i.toNat := by
  obtain ⟨g0, g1, g2⟩ := h
  rw [g2, List.length_map, List.length_take]; omega
def EqI [Inhabited α] (f : α → α → Bool) (l m : List α) (i : Int) : Prop := 0 ≤ i ∧ i ≤ l.length ∧ ∀ j : Nat, (j : Int) < i → f (ix l j) (ix m j) = true
theorem EqI.start [Inhabited α] {f : α → α → Bool} {l m : List α} : EqI f l m 0 := ⟨by omega, by omega, fun j hj => by omega⟩
theorem EqI.next [Inhabited α] {f : α → α → Bool} {l m : List α} {i : Int} (h : EqI f l m i) (hh : i < l.length) (hl : (l.length : Int) ≤ 9223372036854775807) (hf : f (ix l i) (ix m i) = true) :
    EqI f l m (IntKind.i64.wrap (i + 1)) ∧ (l.length - IntKind.i64.wrap (i + 1)).toNat < (l.length - i).toNat := by
  obtain ⟨g0, g1, g2⟩ := h
  rw [inc i l.length g0 hh hl]
  refine ⟨⟨by omega, by omega, fun j hj => ?_⟩, by omega⟩
  by_cases hji : (j : Int) = i
  · rw [hji]; exact hf
  · exact g2 j (by omega)
def eqB (f : α → α → Bool) : List α → List α → Bool
  | [], [] => true
  | a :: l, b :: m => f a b && eqB f l m
  | _, _ => false
theorem eqB_iff [Inhabited α] {f : α → α → Bool} : ∀ {l m : List α}, eqB f l m = true ↔ l.length = m.length ∧ ∀ j : Nat, j < l.length → f (ix l (j : Int)) (ix m (j : Int)) = true
  | [], [] => by simp [eqB]
  | [], _ :: _ => by simp [eqB]
  | _ :: _, [] => by simp [eqB]
  | a :: l, b :: m => by
    have e : ∀ (a : α) (l : List α) (j : Nat), j < l.length → ix (a :: l) ((j + 1 : Nat) : Int) = ix l (j : Int) := by
      intro a l j hj
      rw [ix_nat _ _ (by omega) (by simp; omega), ix_nat _ _ (by omega) (by omega)]
      rfl
    have e0 : ∀ (a : α) (l : List α), ix (a :: l) ((0 : Nat) : Int) = a := fun a l => by rw [ix_nat _ _ (by omega) (by simp)]; rfl
    simp only [eqB, Bool.and_eq_true, eqB_iff, List.length_cons]
    constructor
    · rintro ⟨h1, h2, h3⟩
      refine ⟨by omega, fun j hj => ?_⟩
      cases j with
      | zero => rw [e0, e0]; exact h1
      | succ j => rw [e a l j (by omega), e b m j (by omega)]; exact h3 j (by omega)
    · rintro ⟨h1, h2⟩
      have h3 := h2 0 (by omega)
      rw [e0, e0] at h3
      refine ⟨h3, by omega, fun j hj => ?_⟩
      have := h2 (j + 1) (by omega)
      rwa [e a l j (by omega), e b m j (by omega)] at this
theorem EqI.bad [Inhabited α] {f : α → α → Bool} {l m : List α} {i : Int} (h : EqI f l m i) (hh : i < l.length) (hf : f (ix l i) (ix m i) = false) : eqB f l m = false := by
  cases hq : eqB f l m with
  | false => rfl
  | true =>
    have h0 := h.1
    have := (eqB_iff.1 hq).2 i.toNat (by omega)
    rw [Int.toNat_of_nonneg h.1, hf] at this
    cases this
theorem EqI.done [Inhabited α] {f : α → α → Bool} {l m : List α} {i : Int} (h : EqI f l m i) (hlm : l.length = m.length) (hh : ¬ i < l.length) : eqB f l m = true :=
  eqB_iff.2 ⟨hlm, fun j hj => h.2.2 j (by omega)⟩
end
theorem k18l {α : Type} {p : α → Bool} : ∀ {l : List α}, mIdx p l = none ↔ ∀ x ∈ l, p x = false
  | [] => by simp [mIdx]
  | x :: l => by
    cases hp : p x with
    | true => simp [mIdx, hp]
    | false => simp only [mIdx, hp, cond_false, Option.map_eq_none_iff, k18l, List.mem_cons, forall_eq_or_imp, true_and]
theorem k10h {α : Type} {p : α → Bool} : ∀ {l : List α} {j : Nat}, mIdx p l = some j → ∃ x, l[j]? = some x ∧ p x = true
  | [], _, h => by cases h
  | x :: l, j, h => by
    cases hp : p x with
    | true => simp only [mIdx, hp, cond_true, Option.some.injEq] at h; subst h; exact ⟨x, rfl, hp⟩
    | false =>
      simp only [mIdx, hp, cond_false, Option.map_eq_some_iff] at h
      obtain ⟨i, h1, rfl⟩ := h
      obtain ⟨y, h2, h3⟩ := k10h h1
      exact ⟨y, by simpa using h2, h3⟩
@[simp] theorem k1hh {α : Type} (p : α → Bool) : mHas p [] = false := rfl
@[simp] theorem k1hi {α β : Type} (p : α → Bool) (z : β) (vs : List β) : mVal p [] vs z = z := rfl
theorem k1ha {α β : Type} {p : α → Bool} {ks : List α} {vs : List β} {z : β} (h : mHas p ks = true) (hl : ks.length = vs.length) : mVal p ks vs z ∈ vs := by
  unfold mHas at h
  unfold mVal
  cases hm : mIdx p ks with
  | none => rw [hm] at h; cases h
  | some j =>
    obtain ⟨x, h1, h2⟩ := k10h hm
    have hj : j < vs.length := by have := (List.getElem?_eq_some_iff.1 h1).1; omega
    simp only [List.getElem?_eq_getElem hj, Option.getD_some]
    exact List.getElem_mem hj
end Go.Md
namespace Go.Proofs.Ytponaobpcdkggaa
open Go Go.Bv Go.Cv Go.Md Go.RowKit
def rc (r i : Int) : Int := (3 * r + i + 1) * 11400714819323198485 % 18446744073709551616 % 18446744069414584321
def mixS (s : TA3) : TA3 := ⟨(s.a0 + ((s.a0 + s.a1) % 18446744069414584321 + s.a2) % 18446744069414584321) % 18446744069414584321, (s.a1 + ((s.a0 + s.a1) % 18446744069414584321 + s.a2) % 18446744069414584321) % 18446744069414584321, (s.a2 + ((s.a0 + s.a1) % 18446744069414584321 + s.a2) % 18446744069414584321) % 18446744069414584321⟩
def pw (a e : Int) : Int := a ^ e.toNat % 18446744069414584321
def rnd (s : TA3) (r : Int) : TA3 := mixS ⟨pw ((s.a0 + rc r 0) % 18446744069414584321) 7, pw ((s.a1 + rc r 1) % 18446744069414584321) 7, pw ((s.a2 + rc r 2) % 18446744069414584321) 7⟩
def rnds : Nat → TA3 → TA3
  | 0, s => s
  | n + 1, s => rnd (rnds n s) n
def permS (s : TA3) : TA3 := rnds 8 s
def absL : List Int → TA3 → TA3
  | [], s => s
  | [x], s => permS ⟨(s.a0 + x) % 18446744069414584321, s.a1, s.a2⟩
  | x :: y :: r, s => absL r (permS ⟨(s.a0 + x) % 18446744069414584321, (s.a1 + y) % 18446744069414584321, s.a2⟩)
def absI (label : Int) (l : List Int) : TA3 := ⟨0, 0, (label * 65536 % 18446744069414584321 + (l.length : Int)) % 18446744069414584321⟩
def absS (label : Int) (l : List Int) : TA3 := if l = [] then permS (absI label l) else absL l (absI label l)
def hashS (label : Int) (l : List Int) : Int := (absS label l).a0
def S3 (s : TA3) : Prop := U64 s.a0 ∧ U64 s.a1 ∧ U64 s.a2
theorem S3m {a b c : Int} (ha : U64 a) (hb : U64 b) (hc : U64 c) : S3 ⟨a, b, c⟩ := ⟨ha, hb, hc⟩
theorem kh0 (s : TA3) : S3 (permS s) := by
  show S3 (rnd _ _)
  unfold rnd mixS S3
  dsimp only
  omega
theorem k150 : ∀ (l : List Int) (s : TA3), S3 s → S3 (absL l s)
  | [], _, h => h
  | [_], _, _ => kh0 _
  | _ :: _ :: r, _, _ => k150 r _ (kh0 _)
theorem k10t (label : Int) (l : List Int) : U64 (hashS label l) := by
  unfold hashS absS
  split
  · exact (kh0 _).1
  · rename_i h
    match l, h with
    | [_], _ => exact (kh0 _).1
    | _ :: _ :: r, _ => exact (k150 r _ (kh0 _)).1
theorem k12u (s : TA3) : (permS s).a0 < 18446744069414584321 := by
  show (rnd _ _).a0 < _
  unfold rnd mixS
  dsimp only
  omega
theorem absL_lt : ∀ (l : List Int) (s : TA3), l ≠ [] → (absL l s).a0 < 18446744069414584321
  | [], _, h => (h rfl).elim
  | [_], _, _ => k12u _
  | [_, _], _, _ => k12u _
  | _ :: _ :: x :: r, s, _ => absL_lt (x :: r) _ (by simp)
theorem k13f (label : Int) (l : List Int) : hashS label l < 18446744069414584321 := by
  unfold hashS absS
  split
  · exact k12u _
  · rename_i h; exact absL_lt _ _ h
end Go.Proofs.Ytponaobpcdkggaa
namespace Go.Proofs.Ytponaobpcdkggaa
open Go Go.Bv Go.Cv Go.Md Go.RowKit
structure RD where
  n : Int
  ok : Bool
  pos : Int
  fail : Bool
structure RL where
  l : List Int
  pos : Int
  fail : Bool
structure RdOk (b : List Int) (pos : Int) : Prop where
  by_ : By b
  len : b.length ≤ 137438953472
  pos0 : 0 ≤ pos
  pos1 : pos ≤ b.length
def rdD (b : List Int) (pos : Int) (f : Bool) (size : Int) : RD :=
  if f = true ∨ (b.length : Int) - pos < size then ⟨0, false, pos, true⟩ else ⟨val ((b.drop pos.toNat).take size.toNat), true, pos + size, false⟩
def rdI (b : List Int) (pos : Int) (f : Bool) (m : Int) : RD :=
  if (rdD b pos f 4).ok = false ∨ m < (rdD b pos f 4).n then ⟨0, false, (rdD b pos f 4).pos, true⟩ else rdD b pos f 4
def rdB (b : List Int) (pos : Int) (f : Bool) (m : Int) : RL :=
  if (rdI b pos f m).fail = true ∨ (b.length : Int) - (rdI b pos f m).pos < (rdI b pos f m).n then ⟨[], (rdI b pos f m).pos, true⟩ else ⟨(b.take ((rdI b pos f m).pos + (rdI b pos f m).n).toNat).drop (rdI b pos f m).pos.toNat, (rdI b pos f m).pos + (rdI b pos f m).n, false⟩
end Go.Proofs.Ytponaobpcdkggaa
namespace Go.Proofs.Ytponaobpcdkggaa
open Go Go.Bv Go.Cv Go.Md Go.RowKit
def nums : Nat → List Int → List Int
  | 0, _ => []
  | k + 1, b => val (b.take 8) :: nums k (b.drop 8)
@[simp] theorem k1dm : ∀ (k : Nat) (b : List Int), (nums k b).length = k
  | 0, _ => rfl
  | k + 1, b => by simp [nums, k1dm k]
section
variable {b : List Int} {pos m p : Int} {f : Bool}
end
end Go.Proofs.Ytponaobpcdkggaa
namespace Go.Proofs.Ytponaobpcdkggaa
open Go Go.Bv Go.Cv Go.Md Go.RowKit
def allB (l : List Int) : Bool := l.all (fun x => decide (x < 18446744069414584321))
theorem k1h5 {l : List Int} : allB l = true ↔ ∀ x ∈ l, x < 18446744069414584321 := by unfold allB; simp
def keyB (ns l : List Int) : ByteArray := strOfNums (ns.flatMap (dig 8) ++ l.flatMap (dig 8))
structure OrOk (ks : List ByteArray) (vs : List Int) (qs : List TQuestion) : Prop where
  len : ks.length = vs.length
  rng : ∀ v ∈ vs, 0 ≤ v ∧ v < qs.length
end Go.Proofs.Ytponaobpcdkggaa
namespace Go.Proofs.Ytponaobpcdkggaa
open Go Go.Bv Go.Cv Go.Md Go.RowKit
structure OS where
  a : Bool
  b : Int
  c : Int
  q : List TQuestion
  k : List ByteArray
  v : List Int
  s : List ByteArray
  t : List (List Int)
  x : List ByteArray
  y : List Bool
structure HR where
  n : Int
  o : OS
theorem OS_eta (o : OS) : OS.mk o.a o.b o.c o.q o.k o.v o.s o.t o.x o.y = o := rfl
def mixN (v1 : Int) : Int :=
  let v2 : Int := IntKind.u64.wrap ((ixor .u64 v1 (ishr .u64 v1 30)) * 13787848793156543929)
  let v3 : Int := IntKind.u64.wrap ((ixor .u64 v2 (ishr .u64 v2 27)) * 10723151780598845931)
  Int.tmod (ixor .u64 v3 (ishr .u64 v3 31)) 18446744069414584321
def drO (o : OS) : HR := if o.a = true then ⟨mixN (IntKind.u64.wrap (o.b + 11400714819323198485)), ⟨o.a, IntKind.u64.wrap (o.b + 11400714819323198485), IntKind.i64.wrap (o.c + 1), o.q, o.k, o.v, o.s, o.t, o.x, o.y⟩⟩ else ⟨0, o⟩
def recO (o : OS) (key : ByteArray) (label : Int) (l : List Int) (n : Int) : OS := ⟨o.a, o.b, o.c, o.q ++ [⟨label, l, n⟩], mPutK (BEq.beq key) o.k key, mPutV (BEq.beq key) o.k o.v (o.q.length : Int), o.s, o.t, o.x, o.y⟩
def ansO (o : OS) (label : Int) (l : List Int) : HR := if o.a = true then drO o else ⟨hashS label l, o⟩
def hO (o : OS) (label : Int) (l : List Int) : HR :=
  if allB l = true then (if mHas (BEq.beq (keyB [label] l)) o.k = true then ⟨(ix o.q (mVal (BEq.beq (keyB [label] l)) o.k o.v 0)).Answer, o⟩
    else ⟨(ansO o label l).n, recO (ansO o label l).o (keyB [label] l) label l (ansO o label l).n⟩) else ⟨0, o⟩
structure OOk (o : OS) : Prop where
  or : OrOk o.k o.v o.q
  q : o.q.length ≤ 1000000
  n : ∀ x ∈ o.q, 0 ≤ x.Answer ∧ x.Answer < 18446744069414584321
  e : ∀ x ∈ o.q, x.Elems.length ≤ 1000000000
structure CR where
  n : Int
  t : TTranscript
  o : OS
def chO (o : OS) (t : TTranscript) (p : Int) : CR := if p = 0 then ⟨0, t, o⟩ else ⟨Int.tmod (hO o 19 [t.State, t.Count]).n p, ⟨t.State, IntKind.u64.wrap (t.Count + 1)⟩, (hO o 19 [t.State, t.Count]).o⟩
structure AR where
  t : TTranscript
  o : OS
def abO (o : OS) (t : TTranscript) (tag : Int) (l : List Int) : AR := ⟨⟨(hO o 18 ([t.State, tag] ++ l)).n, 0⟩, (hO o 18 ([t.State, tag] ++ l)).o⟩
def zO (ideal : Bool) (seed : Int) : OS := ⟨ideal, seed, 0, [], [], [], [], [], [], []⟩
theorem ansO_q (o : OS) (label : Int) (l : List Int) : (ansO o label l).o.q = o.q ∧ (ansO o label l).o.k = o.k ∧ (ansO o label l).o.v = o.v ∧ (ansO o label l).o.a = o.a := by
  unfold ansO drO
  split
  · exact ⟨rfl, rfl, rfl, rfl⟩
  · exact ⟨rfl, rfl, rfl, rfl⟩
theorem k14n {α : Type} {p : α → Bool} {ks : List α} {k : α} (h : mHas p ks = false) : mPutK p ks k = ks ++ [k] := by
  unfold mPutK
  unfold mHas at h
  cases hi : mIdx p ks with
  | none => rfl
  | some j => rw [hi] at h; cases h
theorem k14f {α β : Type} {p : α → Bool} {ks : List α} {vs : List β} {v : β} (h : mHas p ks = false) : mPutV p ks vs v = vs ++ [v] := by
  unfold mPutV
  unfold mHas at h
  cases hi : mIdx p ks with
  | none => rfl
  | some j => rw [hi] at h; cases h
theorem k1h1 (a b : Int) : U64 (ixor .u64 a b) := by
  unfold ixor
  rw [IntKind.wrap_u64]
  omega
theorem mixN_lt (x : Int) : 0 ≤ mixN x ∧ mixN x < 18446744069414584321 := by
  unfold mixN
  dsimp only
  generalize hv : ixor .u64 _ _ = v
  have : U64 v := by rw [← hv]; exact k1h1 _ _
  rw [tmod_nn v _ this.1]
  omega
theorem ansO_n (o : OS) (label : Int) (l : List Int) : 0 ≤ (ansO o label l).n ∧ (ansO o label l).n < 18446744069414584321 := by
  unfold ansO drO
  split
  · exact mixN_lt _
  · exact ⟨(k10t _ _).1, k13f _ _⟩
theorem k1be {o : OS} (h : OOk o) {p : ByteArray → Bool} (hm : mHas p o.k = true) : 0 ≤ mVal p o.k o.v 0 ∧ mVal p o.k o.v 0 < o.q.length := h.or.rng _ (k1ha hm h.or.len)
theorem OOk.lt {o : OS} (h : OOk o) (label : Int) (l : List Int) : 0 ≤ (hO o label l).n ∧ (hO o label l).n < 18446744069414584321 := by
  unfold hO
  split
  · split
    · rename_i hm
      have := k1be h hm
      exact h.n _ (ix_mem _ _ this.1 this.2)
    · exact ansO_n _ _ _
  · exact ⟨Int.le_refl 0, show (0 : Int) < 18446744069414584321 by decide⟩
theorem OOk.h {o : OS} (h : OOk o) (label : Int) {l : List Int} (hl : l.length ≤ 1000000000) (hq : o.q.length ≤ 999999) : OOk (hO o label l).o ∧ o.q.length ≤ (hO o label l).o.q.length ∧ (hO o label l).o.q.length ≤ o.q.length + 1 := by
  obtain ⟨e1, e2, e3, _⟩ := ansO_q o label l
  unfold hO
  split
  · split
    · exact ⟨h, Nat.le_refl _, Nat.le_succ _⟩
    · rename_i hn
      have hn : mHas (BEq.beq (keyB [label] l)) o.k = false := by simpa using hn
      simp only [recO, e1, e2, e3, k14n hn, k14f hn]
      refine ⟨⟨⟨by simp [h.or.len], fun v hv => ?_⟩, by simp; omega, fun x hx => ?_, fun x hx => ?_⟩, by simp, by simp⟩
      · rcases List.mem_append.1 hv with hv | hv
        · have := h.or.rng v hv
          simp
          omega
        · rw [List.mem_singleton.1 hv]
          simp
          omega
      · rcases List.mem_append.1 hx with hx | hx
        · exact h.n x hx
        · rw [List.mem_singleton.1 hx]
          exact ansO_n _ _ _
      · rcases List.mem_append.1 hx with hx | hx
        · exact h.e x hx
        · rw [List.mem_singleton.1 hx]
          exact hl
  · exact ⟨h, Nat.le_refl _, Nat.le_succ _⟩
theorem OOk.z (ideal : Bool) (seed : Int) : OOk (zO ideal seed) := ⟨⟨rfl, fun v hv => by cases hv⟩, Nat.zero_le _, (fun x hx => by cases hx), (fun x hx => by cases hx)⟩
structure MR (m : TMessage) : Prop where
  t : U64 m.Tag
  l : Us m.L
  n : m.L.length ≤ 99999990
structure MU (m : TMessage) : Prop where
  t : U64 m.Tag
  l : Us m.L
def absO (o : OS) (t : TTranscript) : List TMessage → AR
  | [] => ⟨t, o⟩
  | m :: r => absO (abO o t m.Tag m.L).o (abO o t m.Tag m.L).t r
def SetI {α : Type} (f : Nat → α) (n : Nat) (i : Int) (g : List α) : Prop := 0 ≤ i ∧ i ≤ n ∧ g.length = n ∧ ∀ j : Nat, (j : Int) < i → g[j]? = some (f j)
theorem SetI.start {α : Type} {f : Nat → α} {n : Nat} {g : List α} (h : g.length = n) : SetI f n 0 g := ⟨by omega, by omega, h, fun j hj => by omega⟩
theorem SetI.next {α : Type} {f : Nat → α} {n : Nat} {i : Int} {g : List α} {x : α} (h : SetI f n i g) (hh : i < n) (hn : (n : Int) ≤ 9223372036854775807) (hx : x = f i.toNat) : SetI f n (IntKind.i64.wrap (i + 1)) (g.set i.toNat x) ∧ (n - IntKind.i64.wrap (i + 1)).toNat < (n - i).toNat := by
  obtain ⟨g0, g1, g2, g3⟩ := h
  rw [inc i n g0 hh hn]
  refine ⟨⟨by omega, by omega, by rw [List.length_set]; exact g2, fun j hj => ?_⟩, by omega⟩
  rw [List.getElem?_set]
  by_cases e : i.toNat = j
  · rw [if_pos e, if_pos (by omega), hx, e]
  · rw [if_neg e]
    exact g3 j (by omega)
theorem SetI.done {α : Type} {f : Nat → α} {n : Nat} {i : Int} {g : List α} (h : SetI f n i g) (hh : ¬ i < n) : g = (List.range n).map f := by
  obtain ⟨g0, g1, g2, g3⟩ := h
  refine List.ext_getElem? fun j => ?_
  rw [List.getElem?_map]
  by_cases hj : j < n
  · rw [g3 j (by omega), List.getElem?_range hj]; rfl
  · rw [List.getElem?_eq_none (by omega), List.getElem?_eq_none (by simp; omega)]; rfl
def keyQ (x : TQuestion) : ByteArray := keyB [x.Label] x.Elems
structure QOk (x : TQuestion) : Prop where
  l : U64 x.Label
  e : Us x.Elems
  b : allB x.Elems = true
structure RO (o : OS) : Prop where
  k : o.k = o.q.map keyQ
  v : o.v = (List.range o.q.length).map fun (j : Nat) => (j : Int)
  q : ∀ x ∈ o.q, QOk x
theorem RO.or {o : OS} (h : RO o) : OrOk o.k o.v o.q := ⟨by rw [h.k, h.v]; simp, fun v hv => by
  rw [h.v] at hv
  obtain ⟨j, hj, rfl⟩ := List.mem_map.1 hv
  have := List.mem_range.1 hj
  omega⟩
theorem k1a7 {l m : List Int} (hl : By l) (hm : By m) (h : strOfNums l = strOfNums m) : l = m := by
  have := strEq hl hm
  rw [h] at this
  simpa using this
theorem flat8_inj' : ∀ (l m : List Int), Us l → Us m → l.flatMap (dig 8) = m.flatMap (dig 8) → l = m
  | [], [], _, _, _ => rfl
  | [], y :: m, _, _, e => by have := congrArg List.length e; rw [List.flatMap_cons, List.length_append, ko1, List.flatMap_nil, List.length_nil] at this; omega
  | x :: l, [], _, _, e => by have := congrArg List.length e; rw [List.flatMap_cons, List.length_append, ko1, List.flatMap_nil, List.length_nil] at this; omega
  | x :: l, y :: m, hl, hm, e => by
    rw [List.flatMap_cons, List.flatMap_cons] at e
    have e1 := List.append_inj e (by simp)
    have d1 := dig_inj (k := 8) (hl x (by simp)) (hm y (by simp)) e1.1
    rw [d1, flat8_inj' l m (fun z hz => hl z (by simp [hz])) (fun z hz => hm z (by simp [hz])) e1.2]
theorem ba_beq (a b : ByteArray) : (a == b) = true ↔ a = b := by
  constructor
  · intro h
    have h : (a.data == b.data) = true := h
    have : a.data = b.data := by simpa using h
    cases a
    cases b
    simp_all
  · rintro rfl
    show (a.data == a.data) = true
    simp
theorem k1h6 {a b : Int} {l m : List Int} (ha : U64 a) (hb : U64 b) (hl : Us l) (hm : Us m) (h : keyB [a] l = keyB [b] m) : a = b ∧ l = m := by
  unfold keyB at h
  have h := k1a7 ((kxs _).append (kxs _)) ((kxs _).append (kxs _)) h
  rw [← List.flatMap_append, ← List.flatMap_append] at h
  have := flat8_inj' _ _ (fun x hx => by
    rcases List.mem_append.1 hx with hx | hx
    · rw [List.mem_singleton.1 hx]; exact ha
    · exact hl x hx) (fun x hx => by
    rcases List.mem_append.1 hx with hx | hx
    · rw [List.mem_singleton.1 hx]; exact hb
    · exact hm x hx) h
  simpa using this
theorem k13d {α β : Type} (p : β → Bool) (f : α → β) : ∀ l : List α, mIdx p (l.map f) = mIdx (fun x => p (f x)) l
  | [] => rfl
  | x :: l => by simp only [List.map_cons, mIdx, k13d p f l]
theorem RO.find {o : OS} (h : RO o) {label : Int} {l : List Int} (hu : U64 label) (hl : Us l) :
    (mHas (BEq.beq (keyB [label] l)) o.k = false ∧ ∀ x ∈ o.q, ¬ (x.Label = label ∧ x.Elems = l)) ∨
    (mHas (BEq.beq (keyB [label] l)) o.k = true ∧ ∃ x ∈ o.q, ix o.q (mVal (BEq.beq (keyB [label] l)) o.k o.v 0) = x ∧ x.Label = label ∧ x.Elems = l) := by
  have hp : ∀ x ∈ o.q, (BEq.beq (keyB [label] l) (keyQ x) = true ↔ (x.Label = label ∧ x.Elems = l)) := by
    intro x hx
    have hq := h.q x hx
    constructor
    · intro e
      have e : keyB [label] l = keyQ x := (ba_beq _ _).1 e
      obtain ⟨h1, h2⟩ := k1h6 hu hq.l hl hq.e e
      exact ⟨h1.symm, h2.symm⟩
    · rintro ⟨rfl, rfl⟩
      exact (ba_beq _ _).2 rfl
  have hm : mIdx (BEq.beq (keyB [label] l)) o.k = mIdx (fun x => BEq.beq (keyB [label] l) (keyQ x)) o.q := by rw [h.k, k13d]
  cases hi : mIdx (fun x => BEq.beq (keyB [label] l) (keyQ x)) o.q with
  | none =>
    refine .inl ⟨by unfold mHas; rw [hm, hi]; rfl, fun x hx hxl => ?_⟩
    have := k18l.1 hi x hx
    rw [(hp x hx).2 hxl] at this
    cases this
  | some j =>
    obtain ⟨x, hx, hpx⟩ := k10h hi
    have hjl : j < o.q.length := (List.getElem?_eq_some_iff.1 hx).1
    have hmem := List.mem_of_getElem? hx
    refine .inr ⟨by unfold mHas; rw [hm, hi]; rfl, x, hmem, ?_, (hp x hmem).1 hpx⟩
    have hv : mVal (BEq.beq (keyB [label] l)) o.k o.v 0 = (j : Int) := by
      unfold mVal
      rw [hm, hi, h.v]
      simp [hjl]
    rw [hv, ix_nat _ _ (by omega) (by omega)]
    simp only [Int.toNat_natCast]
    exact (List.getElem?_eq_some_iff.1 hx).2
def knows (qs : List TQuestion) (label : Int) (l : List Int) : Bool := qs.any fun x => decide (x.Label = label) && decide (x.Elems = l)
theorem k101 {qs : List TQuestion} {label : Int} {l : List Int} : knows qs label l = true ↔ ∃ x ∈ qs, x.Label = label ∧ x.Elems = l := by
  unfold knows
  simp
theorem RO.has {o : OS} (h : RO o) {label : Int} {l : List Int} (hu : U64 label) (hl : Us l) : mHas (BEq.beq (keyB [label] l)) o.k = knows o.q label l := by
  rcases h.find hu hl with ⟨h1, h2⟩ | ⟨h1, x, h2, _, h3⟩
  · rw [h1]
    cases hk : knows o.q label l with
    | false => rfl
    | true => obtain ⟨x, hx, hxl⟩ := k101.1 hk; exact (h2 x hx hxl).elim
  · rw [h1]; exact (k101.2 ⟨x, h2, h3⟩).symm
theorem RO.h {o : OS} (h : RO o) {label : Int} {l : List Int} (hu : U64 label) (hl : Us l) : RO (hO o label l).o := by
  obtain ⟨e1, e2, e3, _⟩ := ansO_q o label l
  unfold hO
  split
  · rename_i hb
    split
    · exact h
    · rename_i hn
      have hn : mHas (BEq.beq (keyB [label] l)) o.k = false := by simpa using hn
      refine ⟨?_, ?_, ?_⟩
      · simp only [recO, e1, e2]
        rw [k14n hn, h.k, List.map_append]
        rfl
      · simp only [recO, e1, e2, e3]
        rw [k14f hn, h.v, List.length_append, List.length_singleton, List.range_succ, List.map_append]
        rfl
      · simp only [recO, e1]
        intro x hx
        rcases List.mem_append.1 hx with hx | hx
        · exact h.q x hx
        · rw [List.mem_singleton.1 hx]; exact ⟨hu, hl, hb⟩
  · exact h
structure RR (o : OS) : Prop where
  r : RO o
  a : o.a = false
  n : ∀ x ∈ o.q, x.Answer = hashS x.Label x.Elems
def valH (label : Int) (l : List Int) : Int := if allB l = true then hashS label l else 0
def askQ (qs : List TQuestion) (label : Int) (l : List Int) : List TQuestion := if allB l = true then (if knows qs label l = true then qs else qs ++ [⟨label, l, hashS label l⟩]) else qs
theorem RR.h {o : OS} (h : RR o) {label : Int} {l : List Int} (hu : U64 label) (hl : Us l) : (hO o label l).n = valH label l ∧ (hO o label l).o.q = askQ o.q label l ∧ RR (hO o label l).o := by
  have ha : ansO o label l = ⟨hashS label l, o⟩ := by unfold ansO; rw [h.a]; rfl
  have hr := h.r.h hu hl
  have hh := h.r.has hu hl
  have hf := h.r.find hu hl
  unfold hO valH askQ at *
  rw [ha] at *
  split
  · rename_i hb
    rw [if_pos hb] at hr
    rw [hh] at hr ⊢
    split
    · rename_i hk
      rcases hf with ⟨h1, _⟩ | ⟨_, x, hx, e1, e2, e3⟩
      · rw [hh, hk] at h1; cases h1
      · refine ⟨?_, rfl, h⟩
        simp only [e1]
        rw [h.n x hx, e2, e3]
    · rename_i hk
      rw [if_neg hk] at hr
      refine ⟨rfl, rfl, hr, h.a, fun x hx => ?_⟩
      simp only [recO] at hx
      rcases List.mem_append.1 hx with hx | hx
      · exact h.n x hx
      · rw [List.mem_singleton.1 hx]
  · exact ⟨rfl, rfl, h⟩
theorem RR.z : RR (zO false 0) := ⟨⟨rfl, rfl, fun x hx => by cases hx⟩, rfl, fun x hx => by cases hx⟩
theorem valH_lt (label : Int) (l : List Int) : U64 (valH label l) ∧ valH label l < 18446744069414584321 := by
  unfold valH
  split
  · exact ⟨k10t _ _, k13f _ _⟩
  · exact ⟨by decide, by decide⟩
structure RA where
  s : Int
  q : List TQuestion
def refA (s : Int) (qs : List TQuestion) : List TMessage → RA
  | [] => ⟨s, qs⟩
  | m :: r => refA (valH 18 ([s, m.Tag] ++ m.L)) (askQ qs 18 ([s, m.Tag] ++ m.L)) r
structure QL (qs : List TQuestion) (n : Nat) : Prop where
  n : qs.length ≤ n
  e : ∀ x ∈ qs, x.Elems.length ≤ 1000000000
theorem QL.ask {qs : List TQuestion} {n : Nat} (h : QL qs n) {label : Int} {l : List Int} (hl : l.length ≤ 1000000000) : QL (askQ qs label l) (n + 1) := by
  have hn := h.n
  unfold askQ
  split
  · split
    · exact ⟨by omega, h.e⟩
    · refine ⟨by simp; omega, fun x hx => ?_⟩
      rcases List.mem_append.1 hx with hx | hx
      · exact h.e x hx
      · rw [List.mem_singleton.1 hx]; exact hl
  · exact ⟨by omega, h.e⟩
theorem us2 {a b : Int} {l : List Int} (ha : U64 a) (hb : U64 b) (hl : Us l) : Us ([a, b] ++ l) := fun x hx => by
  rcases List.mem_append.1 hx with hx | hx
  · rcases List.mem_cons.1 hx with rfl | hx
    · exact ha
    · rw [List.mem_singleton.1 hx]; exact hb
  · exact hl x hx
theorem abs_ref : ∀ (ms : List TMessage) (o : OS) (t : TTranscript), RR o → U64 t.State → (∀ m ∈ ms, MR m) → (absO o t ms).t.State = (refA t.State o.q ms).s ∧ (absO o t ms).o.q = (refA t.State o.q ms).q ∧ RR (absO o t ms).o ∧ ((absO o t ms).t = t ∨ (absO o t ms).t.Count = 0) ∧ U64 (absO o t ms).t.State
  | [], o, t, h, hu, _ => ⟨rfl, rfl, h, .inl rfl, hu⟩
  | m :: ms, o, t, h, hu, hm => by
    have h1 := hm m (by simp)
    obtain ⟨e1, e2, e3⟩ := h.h (label := 18) (l := [t.State, m.Tag] ++ m.L) (by decide) (us2 hu h1.t h1.l)
    have hv : U64 (abO o t m.Tag m.L).t.State := by
      show U64 (hO o 18 _).n
      rw [e1]; exact (valH_lt _ _).1
    obtain ⟨q1, q2, q3, q4, q5⟩ := abs_ref ms (abO o t m.Tag m.L).o (abO o t m.Tag m.L).t e3 hv (fun x hx => hm x (by simp [hx]))
    have a1 : (abO o t m.Tag m.L).t.State = valH 18 ([t.State, m.Tag] ++ m.L) := e1
    have a2 : (abO o t m.Tag m.L).o.q = askQ o.q 18 ([t.State, m.Tag] ++ m.L) := e2
    rw [a1, a2] at q1 q2
    refine ⟨q1, q2, q3, .inr ?_, q5⟩
    rcases q4 with q4 | q4
    · show (absO _ _ ms).t.Count = 0
      rw [q4]; rfl
    · exact q4
theorem absO_ok : ∀ (ms : List TMessage) (o : OS) (t : TTranscript), OOk o → (∀ m ∈ ms, MR m) → o.q.length + ms.length ≤ 999999 → OOk (absO o t ms).o ∧ (absO o t ms).o.q.length ≤ o.q.length + ms.length
  | [], o, t, h, _, _ => ⟨h, Nat.le_refl _⟩
  | m :: ms, o, t, h, hm, hn => by
    have h1 := hm m (by simp)
    have h2 := h1.n
    simp only [List.length_cons] at hn
    obtain ⟨e1, e2, e3⟩ := h.h 18 (l := [t.State, m.Tag] ++ m.L) (by simp; omega) (by omega)
    have e3 : (abO o t m.Tag m.L).o.q.length ≤ o.q.length + 1 := e3
    obtain ⟨q1, q2⟩ := absO_ok ms (abO o t m.Tag m.L).o (abO o t m.Tag m.L).t e1 (fun x hx => hm x (by simp [hx])) (by omega)
    refine ⟨q1, ?_⟩
    simp only [List.length_cons]
    show (absO _ _ ms).o.q.length ≤ _
    omega
end Go.Proofs.Ytponaobpcdkggaa
namespace Go.Proofs.Ytponaobpcdkggaa
open Go Go.Bv Go.Cv Go.Md Go.RowKit
def insI (x : Int) : List Int → List Int
  | [] => [x]
  | y :: r => if x ≤ y then x :: y :: r else y :: insI x r
def srt : List Int → List Int
  | [] => []
  | x :: r => insI x (srt r)
theorem k10u (x : Int) : ∀ l, (insI x l).Perm (x :: l)
  | [] => List.Perm.refl _
  | y :: r => by
    unfold insI
    split
    · exact List.Perm.refl _
    · exact ((k10u x r).cons y).trans (List.Perm.swap x y r)
theorem k13t : ∀ l, (srt l).Perm l
  | [] => List.Perm.refl _
  | x :: r => (k10u x (srt r)).trans ((k13t r).cons x)
theorem k129 (x : Int) : ∀ l : List Int, l.Pairwise (· ≤ ·) → (insI x l).Pairwise (· ≤ ·)
  | [], _ => by simp [insI]
  | y :: r, h => by
    unfold insI
    rw [List.pairwise_cons] at h
    split
    · rename_i hxy
      rw [List.pairwise_cons, List.pairwise_cons]
      refine ⟨fun z hz => ?_, h⟩
      rcases List.mem_cons.1 hz with rfl | hz
      · exact hxy
      · exact Int.le_trans hxy (h.1 z hz)
    · rename_i hxy
      rw [List.pairwise_cons]
      refine ⟨fun z hz => ?_, k129 x r h.2⟩
      rcases List.mem_cons.1 ((k10u x r).mem_iff.1 hz) with rfl | hz
      · omega
      · exact h.1 z hz
theorem k160 : ∀ l, (srt l).Pairwise (· ≤ ·)
  | [] => List.Pairwise.nil
  | x :: r => k129 x _ (k160 r)
theorem ky4 : ∀ (l m : List Int), l.Perm m → l.Pairwise (· ≤ ·) → m.Pairwise (· ≤ ·) → l = m
  | [], m, h, _, _ => by rw [h.symm.eq_nil]
  | x :: l, [], h, _, _ => by cases h.eq_nil
  | x :: l, y :: m, h, hl, hm => by
    rw [List.pairwise_cons] at hl hm
    have hx : x ∈ y :: m := h.mem_iff.1 (by simp)
    have hy : y ∈ x :: l := h.mem_iff.2 (by simp)
    have e : x = y := by
      rcases List.mem_cons.1 hx with e | hx
      · exact e
      · rcases List.mem_cons.1 hy with e | hy
        · exact e.symm
        · have := hl.1 y hy
          have := hm.1 x hx
          omega
    subst e
    rw [ky4 l m ((List.perm_cons x).1 h) hl.2 hm.2]
theorem srt_eq {l m : List Int} (h : m.Perm l) (hs : m.Pairwise (· ≤ ·)) : m = srt l := ky4 _ _ (h.trans (k13t l).symm) hs (k160 l)
theorem k1eo (l : List Int) : (srt l).length = l.length := (k13t l).length_eq
def SortedTo (g : List Int) (i : Nat) : Prop := ∀ a b : Nat, a < b → b < i → g[a]?.getD 0 ≤ g[b]?.getD 0
def SortedBut (g : List Int) (i j : Nat) : Prop := ∀ a b : Nat, a < b → b < i → b ≠ j → g[a]?.getD 0 ≤ g[b]?.getD 0
theorem SortedTo.all {g : List Int} (h : SortedTo g g.length) : g.Pairwise (· ≤ ·) := by
  rw [List.pairwise_iff_getElem]
  intro a b ha hb hab
  have := h a b hab hb
  rwa [List.getElem?_eq_getElem ha, List.getElem?_eq_getElem hb] at this
theorem SortedTo.but {g : List Int} {i : Nat} (h : SortedTo g i) : SortedBut g (i + 1) i := fun a b hab hb hne => h a b hab (by omega)
theorem SortedBut.zero {g : List Int} {i : Nat} (h : SortedBut g i 0) : SortedTo g i := fun a b hab hb => h a b hab hb (by omega)
theorem SortedBut.stop {g : List Int} {i j : Nat} (h : SortedBut g i j) (hj : 0 < j) (hi : j < i) (hle : g[j - 1]?.getD 0 ≤ g[j]?.getD 0) : SortedTo g i := by
  intro a b hab hb
  by_cases e : b = j
  · subst e
    by_cases e2 : a = b - 1
    · rw [e2]; exact hle
    · exact Int.le_trans (h a (b - 1) (by omega) (by omega) (by omega)) hle
  · exact h a b hab hb e
theorem SortedBut.step {g : List Int} {i j : Nat} (h : SortedBut g i j) (hj : 0 < j) (hi : j < i) (hl : i ≤ g.length) (hlt : g[j]?.getD 0 < g[j - 1]?.getD 0) {x y : Int} (hx : x = g[j]?.getD 0) (hy : y = g[j - 1]?.getD 0) : SortedBut ((g.set j y).set (j - 1) x) i (j - 1) := by
  have hg : ∀ k, k < g.length → ((g.set j y).set (j - 1) x)[k]?.getD 0 = if k = j - 1 then x else if k = j then y else g[k]?.getD 0 := by
    intro k hk
    rw [List.getElem?_set, List.getElem?_set, List.length_set]
    by_cases e1 : j - 1 = k
    · rw [if_pos e1, if_pos (by omega), if_pos e1.symm]; rfl
    · rw [if_neg e1, if_neg (Ne.symm e1)]
      by_cases e2 : j = k
      · rw [if_pos e2, if_pos (by omega), if_pos e2.symm]; rfl
      · rw [if_neg e2, if_neg (Ne.symm e2)]
  intro a b hab hb hne
  rw [hg a (by omega), hg b (by omega), if_neg hne]
  by_cases e1 : b = j
  · rw [if_pos e1]
    by_cases e2 : a = j - 1
    · rw [if_pos e2]; omega
    · rw [if_neg e2, if_neg (by omega), hy]
      exact h a (j - 1) (by omega) (by omega) (by omega)
  · rw [if_neg e1]
    by_cases e2 : a = j - 1
    · rw [if_pos e2, hx]
      exact h j b (by omega) hb e1
    · rw [if_neg e2]
      by_cases e3 : a = j
      · rw [if_pos e3, hy]
        exact h (j - 1) b (by omega) hb e1
      · rw [if_neg e3]
        exact h a b hab hb e1
theorem ix_getD (g : List Int) (i : Int) (h0 : 0 ≤ i) (h1 : i < g.length) : ix g i = g[i.toNat]?.getD 0 := by
  rw [ix_nat g i h0 h1, List.getElem?_eq_getElem (by omega)]; rfl
theorem k18m (g : List Int) (i j : Int) (h0 : 0 ≤ i) (h1 : i < g.length) (h2 : 0 ≤ j) (h3 : j < g.length) : ((g.set i.toNat (ix g j)).set j.toNat (ix g i)).Perm g := by
  rw [ix_nat g i h0 h1, ix_nat g j h2 h3]
  exact List.set_set_perm (by omega) (by omega)
end Go.Proofs.Ytponaobpcdkggaa
namespace Go.Proofs.Ytponaobpcdkggaa
open Go Go.Bv Go.Cv Go.Md Go.RowKit
structure PS where
  o : OS
  t : TTranscript
  g : List Int
def swp (g : List Int) (i j : Int) : List Int := (g.set i.toNat (ix g j)).set j.toNat (ix g i)
def posN (n i : Int) (s : PS) : PS := ⟨(chO s.o s.t 18446744069414584321).o, (chO s.o s.t 18446744069414584321).t, swp s.g i (i + (chO s.o s.t 18446744069414584321).n % (n - i))⟩
def posS (n : Int) : Nat → Int → PS → PS
  | 0, _, s => s
  | k + 1, i, s => posS n k (i + 1) (posN n i s)
def rng (n : Nat) : List Int := (List.range n).map fun (j : Nat) => (j : Int)
def posO (o : OS) (t : TTranscript) (n count : Int) : PS := if count < 0 ∨ n < count ∨ 1024 < n then ⟨o, t, []⟩ else
  ⟨(posS n count.toNat 0 ⟨o, t, rng n.toNat⟩).o, (posS n count.toNat 0 ⟨o, t, rng n.toNat⟩).t, srt ((posS n count.toNat 0 ⟨o, t, rng n.toNat⟩).g.take count.toNat)⟩
theorem OOk.ch {o : OS} (h : OOk o) (t : TTranscript) (p : Int) (hq : o.q.length ≤ 999999) : OOk (chO o t p).o ∧ (chO o t p).o.q.length ≤ o.q.length + 1 ∧ (chO o t p).t.State = t.State ∧ (p = 18446744069414584321 → 0 ≤ (chO o t p).n ∧ (chO o t p).n < 18446744069414584321 ∧ U64 (chO o t p).t.Count) := by
  unfold chO
  split
  · exact ⟨h, Nat.le_succ _, rfl, fun e => by omega⟩
  · have h1 := h.h 19 (l := [t.State, t.Count]) (by simp) hq
    have h2 := h.lt 19 [t.State, t.Count]
    refine ⟨h1.1, h1.2.2, rfl, ?_⟩
    rintro rfl
    have e : Int.tmod (hO o 19 [t.State, t.Count]).n 18446744069414584321 = (hO o 19 [t.State, t.Count]).n := by rw [tmod_nn _ _ h2.1]; omega
    refine ⟨by show 0 ≤ Int.tmod _ _; rw [e]; exact h2.1, by show Int.tmod _ _ < _; rw [e]; exact h2.2, ?_⟩
    show U64 (IntKind.u64.wrap (t.Count + 1))
    rw [u64w]
    omega
theorem k1g6 (g : List Int) (i j : Int) (h0 : 0 ≤ i) (h1 : i < g.length) (h2 : 0 ≤ j) (h3 : j < g.length) : (swp g i j).Perm g := k18m g i j h0 h1 h2 h3
theorem k1ex (g : List Int) (i j : Int) : (swp g i j).length = g.length := by unfold swp; rw [List.length_set, List.length_set]
theorem posS_ok (n : Int) : ∀ (k : Nat) (i : Int) (s : PS), OOk s.o → 0 ≤ i → i + k ≤ n → (s.g.length : Int) = n → s.o.q.length + k ≤ 999999 → OOk (posS n k i s).o ∧ (posS n k i s).g.Perm s.g ∧ (posS n k i s).t.State = s.t.State ∧ (posS n k i s).o.q.length ≤ s.o.q.length + k
  | 0, _, s, h, _, _, _, _ => ⟨h, List.Perm.refl _, rfl, Nat.le_refl _⟩
  | k + 1, i, s, h, h0, h1, h2, h3 => by
    obtain ⟨e1, e2, e3, e4⟩ := h.ch s.t 18446744069414584321 (by omega)
    obtain ⟨e5, e6, e7⟩ := e4 rfl
    have hj : 0 ≤ (chO s.o s.t 18446744069414584321).n % (n - i) ∧ (chO s.o s.t 18446744069414584321).n % (n - i) < n - i := ⟨Int.emod_nonneg _ (by omega), Int.emod_lt_of_pos _ (by omega)⟩
    have hl : (posN n i s).g.length = s.g.length := k1ex _ _ _
    have hq : (posN n i s).o.q.length ≤ s.o.q.length + 1 := e2
    obtain ⟨q1, q2, q3, q4⟩ := posS_ok n k (i + 1) (posN n i s) e1 (by omega) (by omega) (by omega) (by omega)
    exact ⟨q1, q2.trans (k1g6 s.g i _ h0 (by omega) (by omega) (by omega)), q3.trans e3, by show (posS n k (i + 1) (posN n i s)).o.q.length ≤ _; omega⟩
theorem k158 (n : Nat) : (rng n).length = n := by simp [rng]
theorem RR.ch {o : OS} (h : RR o) {t : TTranscript} {p : Int} (h1 : U64 t.State) (h2 : U64 t.Count) (hp : p ≠ 0) :
    (chO o t p).n = Int.tmod (valH 19 [t.State, t.Count]) p ∧ (chO o t p).t = ⟨t.State, (t.Count + 1) % 18446744073709551616⟩ ∧ (chO o t p).o.q = askQ o.q 19 [t.State, t.Count] ∧ RR (chO o t p).o := by
  obtain ⟨e1, e2, e3⟩ := h.h (label := 19) (l := [t.State, t.Count]) (by decide) (us2 (l := []) h1 h2 (fun x hx => by cases hx))
  unfold chO
  rw [if_neg hp]
  exact ⟨by show Int.tmod (hO _ _ _).n p = _; rw [e1], by rw [u64w], e2, e3⟩
theorem k1dz (n : Nat) : (rng n).Pairwise (· ≤ ·) := by
  rw [List.pairwise_iff_getElem]
  intro a b ha hb hab
  simp only [rng, List.getElem_map, List.getElem_range]
  omega
theorem k1h7 {o : OS} (h : OOk o) (t : TTranscript) {n : Int} (hn : 0 ≤ n ∧ n ≤ 1024) (hq : o.q.length ≤ 900000) : (posO o t n n).g = rng n.toNat := by
  have hl := k158 n.toNat
  obtain ⟨_, h2, _, _⟩ := posS_ok n n.toNat 0 ⟨o, t, rng n.toNat⟩ h (by omega) (by omega) (by show ((rng n.toNat).length : Int) = n; omega) (by show o.q.length + _ ≤ _; omega)
  have h2 : (posS n n.toNat 0 ⟨o, t, rng n.toNat⟩).g.Perm (rng n.toNat) := h2
  have h3 := h2.length_eq
  unfold posO
  rw [if_neg (by omega)]
  show srt (List.take n.toNat _) = _
  rw [List.take_of_length_le (by omega)]
  exact (srt_eq h2.symm (k1dz _)).symm
end Go.Proofs.Ytponaobpcdkggaa
namespace Go.Proofs.Ytponaobpcdkggaa
open Go Go.Bv Go.Cv Go.Md Go.RowKit
def zQ : TQuestion := ⟨0, [], 0⟩
structure CO where
  a : TQuestion
  b : TQuestion
  f : Bool
def collG : List TQuestion → List TQuestion → CO
  | _, [] => ⟨zQ, zQ, false⟩
  | seen, q :: r => match seen.find? (fun x => decide (q.Answer = x.Answer)) with
    | some x => ⟨x, q, true⟩
    | none => collG (seen ++ [q]) r
def collF (qs : List TQuestion) : CO := collG [] qs
theorem k17z {α : Type} {p : α → Bool} : ∀ {l : List α}, (mIdx p l = none ∧ l.find? p = none) ∨ ∃ j x, mIdx p l = some j ∧ l.find? p = some x ∧ l[j]? = some x
  | [] => .inl ⟨rfl, rfl⟩
  | y :: l => by
    cases hp : p y with
    | true => exact .inr ⟨0, y, by simp [mIdx, hp], by simp [List.find?, hp], rfl⟩
    | false =>
      rcases k17z (p := p) (l := l) with ⟨h1, h2⟩ | ⟨j, x, h1, h2, h3⟩
      · exact .inl ⟨by simp [mIdx, hp, h1], by simp [List.find?, hp, h2]⟩
      · exact .inr ⟨j + 1, x, by simp [mIdx, hp, h1], by simp [List.find?, hp, h2], by simpa using h3⟩
theorem k1al : ∀ (r seen : List TQuestion), (collG seen r).f = false → (∀ q ∈ r, ∀ x ∈ seen, q.Answer ≠ x.Answer) ∧ r.Pairwise (fun a b => a.Answer ≠ b.Answer)
  | [], _, _ => ⟨(fun q hq => by cases hq), List.Pairwise.nil⟩
  | q :: r, seen, h => by
    unfold collG at h
    split at h
    · cases h
    · rename_i hf
      obtain ⟨h1, h2⟩ := k1al r _ h
      rw [List.find?_eq_none] at hf
      refine ⟨fun p hp x hx => ?_, List.pairwise_cons.2 ⟨fun p hp e => h1 p hp q (by simp) e.symm, h2⟩⟩
      rcases List.mem_cons.1 hp with rfl | hp
      · have := hf x hx
        simpa using this
      · exact h1 p hp x (by simp [hx])
theorem k107 {α : Type} {R : α → α → Prop} (hs : ∀ a b, R a b → R b a) : ∀ {l : List α}, l.Pairwise R → ∀ a ∈ l, ∀ b ∈ l, a ≠ b → R a b
  | [], _, a, ha, _, _, _ => by cases ha
  | x :: l, h, a, ha, b, hb, hne => by
    rw [List.pairwise_cons] at h
    rcases List.mem_cons.1 ha with ea | ha2
    · rcases List.mem_cons.1 hb with eb | hb2
      · exact (hne (ea.trans eb.symm)).elim
      · rw [ea]; exact h.1 b hb2
    · rcases List.mem_cons.1 hb with eb | hb2
      · rw [eb]; exact hs _ _ (h.1 a ha2)
      · exact k107 hs h.2 a ha2 b hb2 hne
theorem k1f5 {qs : List TQuestion} {a b : TQuestion} (ha : a ∈ qs) (hb : b ∈ qs) (hne : a ≠ b) (he : a.Answer = b.Answer) : (collF qs).f = true := by
  cases h : (collF qs).f with
  | true => rfl
  | false => exact (k107 (fun _ _ h e => h e.symm) (k1al qs [] h).2 a ha b hb hne he).elim
def refS (s : Int) : List TMessage → Int
  | [] => s
  | m :: r => refS (valH 18 ([s, m.Tag] ++ m.L)) r
theorem refA_s : ∀ (ms : List TMessage) (s : Int) (qs : List TQuestion), (refA s qs ms).s = refS s ms
  | [], _, _ => rfl
  | m :: r, s, qs => refA_s r _ _
def asked (s : Int) : List TMessage → List (List Int)
  | [] => []
  | m :: r => ([s, m.Tag] ++ m.L) :: asked (valH 18 ([s, m.Tag] ++ m.L)) r
theorem k1bm : ∀ (x y : List TMessage) (s s' : Int), x.length = y.length → refS s x = refS s' y → (s ≠ s' ∨ x ≠ y) → ∃ q q', q ≠ q' ∧ valH 18 q = valH 18 q' ∧ q ∈ asked s x ∧ q' ∈ asked s' y
  | [], [], s, s', _, h, hne => by
    rcases hne with hne | hne
    · exact (hne h).elim
    · exact (hne rfl).elim
  | [], _ :: _, _, _, h, _, _ => by simp at h
  | _ :: _, [], _, _, h, _, _ => by simp at h
  | m :: r, m' :: r', s, s', hl, h, hne => by
    by_cases hc : valH 18 ([s, m.Tag] ++ m.L) = valH 18 ([s', m'.Tag] ++ m'.L) ∧ r = r'
    · refine ⟨_, _, fun e => ?_, hc.1, List.mem_cons_self .., List.mem_cons_self ..⟩
      simp only [List.cons_append, List.nil_append, List.cons.injEq] at e
      rcases hne with hne | hne
      · exact hne e.1
      · apply hne
        rw [hc.2, ← knb m, ← knb m', e.2.1, e.2.2]
    · have : valH 18 ([s, m.Tag] ++ m.L) ≠ valH 18 ([s', m'.Tag] ++ m'.L) ∨ r ≠ r' := by
        by_cases e : valH 18 ([s, m.Tag] ++ m.L) = valH 18 ([s', m'.Tag] ++ m'.L)
        · exact .inr fun e2 => hc ⟨e, e2⟩
        · exact .inl e
      obtain ⟨q, q', h1, h2, h3, h4⟩ := k1bm r r' _ _ (by simpa using hl) h this
      exact ⟨q, q', h1, h2, List.mem_cons_of_mem _ h3, List.mem_cons_of_mem _ h4⟩
structure MB (m : TMessage) : Prop where
  t : m.Tag < 18446744069414584321
  l : allB m.L = true
theorem k1e7 {a b : Int} {l : List Int} (ha : a < 18446744069414584321) (hb : b < 18446744069414584321) (hl : allB l = true) : allB ([a, b] ++ l) = true := by
  rw [k1h5] at *
  intro x hx
  rcases List.mem_append.1 hx with hx | hx
  · rcases List.mem_cons.1 hx with rfl | hx
    · exact ha
    · rw [List.mem_singleton.1 hx]; exact hb
  · exact hl x hx
theorem k1h8 (qs : List TQuestion) (label : Int) (l : List Int) {x : TQuestion} (hx : x ∈ qs) : x ∈ askQ qs label l := by
  unfold askQ
  split
  · split
    · exact hx
    · exact List.mem_append_left _ hx
  · exact hx
theorem k1gz {qs : List TQuestion} {label : Int} {l : List Int} (hb : allB l = true) : ∃ x ∈ askQ qs label l, x.Label = label ∧ x.Elems = l := by
  unfold askQ
  rw [if_pos hb]
  split
  · rename_i hk; exact k101.1 hk
  · exact ⟨_, List.mem_append_right _ (List.mem_singleton.2 rfl), rfl, rfl⟩
theorem k14m : ∀ (ms : List TMessage) (s : Int) (qs : List TQuestion) (x : TQuestion), x ∈ qs → x ∈ (refA s qs ms).q
  | [], _, _, _, h => h
  | m :: r, s, qs, x, h => k14m r _ _ x (k1h8 qs _ _ h)
theorem k12y : ∀ (ms : List TMessage) (s : Int) (qs : List TQuestion), s < 18446744069414584321 → (∀ m ∈ ms, MB m) → ∀ q ∈ asked s ms, allB q = true ∧ ∃ x ∈ (refA s qs ms).q, x.Label = 18 ∧ x.Elems = q
  | [], _, _, _, _, q, hq => by cases hq
  | m :: r, s, qs, hs, hm, q, hq => by
    have h1 := hm m (by simp)
    have hb := k1e7 hs h1.t h1.l
    rcases List.mem_cons.1 hq with rfl | hq
    · obtain ⟨x, hx, h2, h3⟩ := k1gz (qs := qs) (label := 18) hb
      exact ⟨hb, x, k14m r _ _ x hx, h2, h3⟩
    · exact k12y r _ _ (valH_lt _ _).2 (fun y hy => hm y (by simp [hy])) q hq
end Go.Proofs.Ytponaobpcdkggaa
namespace Go.Proofs.Ytponaobpcdkggaa
open Go Go.Bv Go.Cv Go.Md Go.RowKit
theorem ky6.u {t : TTranscript} (h : ky6 t) : U64 t.State ∧ U64 t.Count := ⟨h.State, h.Count⟩
theorem kbg.u {m : TMessage} (h : kbg m) : MU m := ⟨h.Tag, h.L.2⟩
theorem kua {p0 : Int} {p1 p2 : List TMessage} (h0 : 0 ≤ p0 ∧ p0 < 18446744073709551616) (h1 : p1.length ≤ 9223372036854775807 ∧ ∀ y ∈ p1, kbg y) (h2 : p2.length ≤ 9223372036854775807 ∧ ∀ y ∈ p2, kbg y) : U64 p0 ∧ ((∀ m ∈ p1, MU m) ∧ p1.length ≤ 9223372036854775807) ∧ (∀ m ∈ p2, MU m) ∧ p2.length ≤ 9223372036854775807 := ⟨h0, ⟨fun m hm => (h1.2 m hm).u, h1.1⟩, fun m hm => (h2.2 m hm).u, h2.1⟩
end Go.Proofs.Ytponaobpcdkggaa
namespace Go.Proofs.Ytponaobpcdkggaa
open Go Go.Bv Go.Cv Go.Md Go.RowKit
def k2u : Con TB.den := Con.mk0 42 [.one (.d (.sl (.int .u64)))] [] (.one (.one (.d (.sl (.int .u64))))) []
abbrev kv1 := HL TB.den (hsT k2u.ins (hsOs k2u.pre))
abbrev khb := HL TB.den (hsV k2u.res (hsOs k2u.post))
noncomputable def kc1 : Cx TB := ⟨inf, [], [], 4, []⟩
noncomputable def khx : Code := Try.f42.body.getD .skip
noncomputable def kmb : List ResultVar := Try.f42.results.toList
noncomputable def kt9 (o : khb) : An TB := .no
noncomputable def kj2 (x : kv1) (o : khb) : Prop := WPh TB kc1 5 0 khx (kt9 o) (k2u.st TB x) (retTQ TB kc1 k2u kmb o)
set_option maxRecDepth 100000 in
theorem k11j (o : khb) : OblH TB kc1 5 0 khx (kt9 o) (retTQ TB kc1 k2u kmb o) :=
  OblH.of_eq (X := (True ∧ (True ∧ True))) (by kernel_rfl) ⟨trivial, ⟨trivial, trivial⟩⟩
set_option maxRecDepth 100000 in
theorem k11d {x : kv1} {o : khb} (h : kj2 x o) : SoundH Try.prog k2u.f ((k2u.args idf x).map (er TB)) ((k2u.obs idf x).map (erO TB)) (er TB (k2u.val idf o)) ((k2u.ops idf o).map (erO TB)) :=
  Con.soundH (c := k2u) (C := kc1) TBok ⟨inf_ok, all_nil, all_nil⟩ mix Try.func42 (show Try.f42.body = some khx by kernel_rfl) (show Try.f42.ntmps = 5 by kernel_rfl) (show Try.f42.results.toList = kmb by kernel_rfl) rfl h (k11j o)
set_option maxRecDepth 100000 in
theorem k134 {p0 : List Int} {r0 : List Int} (h :
(p0.length * 8 ≤ 140737488355328 ∧ p0.length ≤ maxLen ∧ p0 = r0)) : kj2 (p0, ()) (r0, ()) := WPh.of_eq (by kernel_rfl) h
theorem bd42 : Callable Try.prog 42 := ⟨by rw [Try.func42]; kernel_rfl, by rw [Try.func42]; show some _ ≠ some _; decide⟩
theorem k112 (p0 : List Int) (h : p0.length ≤ 1000000000) : kj2 (p0, ()) ((p0 : List Int), ()) := by
  exact k134 ⟨by omega, by unfold maxLen; omega, rfl⟩
noncomputable def kkg : Con TB.den := k2u.fnR (fun x => (fun (p0 : List Int) => p0.length ≤ 1000000000) x.1) fun x => ((fun (p0 : List Int) => (p0 : List Int)) x.1, ())
theorem ktg : kkg.Ok Try.prog TB := Con.ok_fn k2u bd42 fun x h => k11d (k112 x.1 h)
end Go.Proofs.Ytponaobpcdkggaa
namespace Go.Proofs.Ytponaobpcdkggaa
open Go Go.Bv Go.Cv Go.Md Go.RowKit
def k1n : Con TB.den := Con.mk0 32 [.agg [.d (.int .u64), .d (.sl (.int .u64)), .d (.int .u64)]] [] (.one (.agg [.d (.int .u64), .d (.sl (.int .u64)), .d (.int .u64)])) []
abbrev kk0 := HL TB.den (hsT k1n.ins (hsOs k1n.pre))
abbrev k99 := HL TB.den (hsV k1n.res (hsOs k1n.post))
noncomputable def k72 : Cx TB := ⟨inf, [kkg], [], 4, []⟩
noncomputable def kag : Code := Try.f32.body.getD .skip
noncomputable def kbt : List ResultVar := Try.f32.results.toList
noncomputable def kj3 (o : k99) : An TB := .no
noncomputable def kas (x : kk0) (o : k99) : Prop := WPh TB k72 11 0 kag (kj3 o) (k1n.st TB x) (retTQ TB k72 k1n kbt o)
set_option maxRecDepth 100000 in
theorem krw (o : k99) : OblH TB k72 11 0 kag (kj3 o) (retTQ TB k72 k1n kbt o) :=
  OblH.of_eq (X := (True ∧ (True ∧ True))) (by kernel_rfl) ⟨trivial, ⟨trivial, trivial⟩⟩
set_option maxRecDepth 100000 in
theorem ks2 {x : kk0} {o : k99} (h : kas x o) : SoundH Try.prog k1n.f ((k1n.args idf x).map (er TB)) ((k1n.obs idf x).map (erO TB)) (er TB (k1n.val idf o)) ((k1n.ops idf o).map (erO TB)) :=
  Con.soundH (c := k1n) (C := k72) TBok ⟨inf_ok, (all_cons ktg all_nil), all_nil⟩ mix Try.func32 (show Try.f32.body = some kag by kernel_rfl) (show Try.f32.ntmps = 11 by kernel_rfl) (show Try.f32.results.toList = kbt by kernel_rfl) rfl h (krw o)
set_option maxRecDepth 100000 in
theorem ksy {p0 : TQuestion} {r0 : TQuestion} (h :
((p0.Elems.length ≤ 1000000000) ∧ p0.Label = r0.Label ∧ p0.Elems = r0.Elems ∧ p0.Answer = r0.Answer)) : kas (p0.Label, p0.Elems, p0.Answer, ()) (r0.Label, r0.Elems, r0.Answer, ()) := WPh.of_eq (by kernel_rfl) h
theorem bd32 : Callable Try.prog 32 := ⟨by rw [Try.func32]; kernel_rfl, by rw [Try.func32]; show some _ ≠ some _; decide⟩
theorem kqw (p0 : TQuestion) (h : p0.Elems.length ≤ 1000000000) : kas (p0.Label, p0.Elems, p0.Answer, ()) ((p0.Label : Int), (p0.Elems : List Int), (p0.Answer : Int), ()) := by
  exact ksy (r0 := p0) ⟨h, rfl, rfl, rfl⟩
noncomputable def kh7 : Con TB.den := k1n.fnR (fun x => (fun (p0 : TQuestion) => p0.Elems.length ≤ 1000000000) (TQuestion.mk x.1 x.2.1 x.2.2.1)) fun x => ((fun (p0 : TQuestion) => (p0.Label : Int)) (TQuestion.mk x.1 x.2.1 x.2.2.1), (fun (p0 : TQuestion) => (p0.Elems : List Int)) (TQuestion.mk x.1 x.2.1 x.2.2.1), (fun (p0 : TQuestion) => (p0.Answer : Int)) (TQuestion.mk x.1 x.2.1 x.2.2.1), ())
theorem kte : kh7.Ok Try.prog TB := Con.ok_fn k1n bd32 fun x h => ks2 (kqw (TQuestion.mk x.1 x.2.1 x.2.2.1) h)
end Go.Proofs.Ytponaobpcdkggaa
namespace Go.Proofs.Ytponaobpcdkggaa
open Go Go.Bv Go.Cv Go.Md Go.RowKit
def k1o : Con TB.den := Con.mk0 22 [.one (.ptr 0 0)] [.cells [.d (.bool), .d (.int .u64), .d (.int .i64), .own 1, .mp 2, .mp 3, .mp 4], .tip (.st 1), .map (.str) (.int .i64), .map (.str) (.sl (.int .u64)), .map (.str) (.bool)] (.tup [.agg [.d (.int .u64), .d (.sl (.int .u64)), .d (.int .u64)], .agg [.d (.int .u64), .d (.sl (.int .u64)), .d (.int .u64)], .one (.d (.bool))]) [.cells [.d (.bool), .d (.int .u64), .d (.int .i64), .own 1, .mp 2, .mp 3, .mp 4], .tip (.st 1), .map (.str) (.int .i64), .map (.str) (.sl (.int .u64)), .map (.str) (.bool)]
abbrev kna := HL TB.den (hsT k1o.ins (hsOs k1o.pre))
abbrev k4m := HL TB.den (hsV k1o.res (hsOs k1o.post))
noncomputable def k4a : Cx TB := ⟨inf, [kh7], [], 4, []⟩
noncomputable def k7c : Code := Try.f22.body.getD .skip
noncomputable def k83 : List ResultVar := Try.f22.results.toList
noncomputable def kwc (o : k4m) : Exit → TSt TB.den → Prop := thenT TB (fun s => ghs TB [] s fun s => WP TB k4a 51 5 (cB (cB (cB k7c))) .no s (retTQ TB k4a k1o k83 o)) (retTQ TB k4a k1o k83 o)
def k5s : Tm := ⟨[0, 1, 2, 3, 4, 5, 6, 7], [.cells [.d (.bool), .d (.int .u64), .d (.int .i64), .own 1, .mp 2, .mp 3, .mp 4], .tip (.st 1), .map (.str) (.int .i64), .map (.str) (.sl (.int .u64)), .map (.str) (.bool), .cells [.d (.int .u64), .full (.int .u64), .d (.int .u64)], .cells [.d (.int .u64), .full (.int .u64), .d (.int .u64)], .map (.int .u64) (.int .i64)], [0, 2, 3, 5, 19, 20, 21], [.one (.ptr 0 0), .one (.ptr 5 0), .one (.ptr 6 0), .one (.mp 7), .one (.own 1), .one (.d (.int .i64)), .one (.d (.int .i64))], 8⟩
noncomputable def kx0 (o : k4m) (nx1 : HL TB.den k5s.hs → Prop) : Exit → TSt TB.den → Prop := thenT TB (fun s => k5s.mat TB 5 s nx1) (blockT TB 0 (kwc o))
noncomputable def k86 (o : k4m) (nx1 : HL TB.den k5s.hs → Prop) (i : HL TB.den k5s.hs) : Prop := WP TB k4a 51 5 (cA (cA (cB (cA (cB (cB k7c)))))) .no (k5s.fill TB i) (kx0 o nx1)
noncomputable def kwg (o : k4m) : An TB := .lp [] k5s (k86 o) fun nx1 => .no
noncomputable def kwh (o : k4m) : An TB := .nd [] .no [] (.nd [] (.nd [] .no [] (kwg o)) [] .no)
noncomputable def kml (o : k4m) : An TB := .nd [] .no [] (kwh o)
noncomputable def kcu (x : kna) (o : k4m) : Prop := WPh TB k4a 51 5 k7c (kml o) (k1o.st TB x) (retTQ TB k4a k1o k83 o)
set_option maxRecDepth 100000 in
theorem kvw (o : k4m) : OblH TB k4a 51 5 k7c (kml o) (retTQ TB k4a k1o k83 o) :=
  OblH.of_eq (X := (True ∧ (True ∧ ((True ∧ ((∀ nx i, (k86 o) nx i = (k86 o) nx i) ∧ ∀ nx1 : HL TB.den k5s.hs → Prop, (True ∧ ((True ∧ True) ∧ ((True ∧ ((True ∧ (True ∧ ((True ∧ True) ∧ True))) ∧ True)) ∧ True))))) ∧ (True ∧ True))))) (by kernel_rfl) ⟨trivial, ⟨trivial, ⟨⟨trivial, ⟨fun _ _ => rfl, fun _ => ⟨trivial, ⟨⟨trivial, trivial⟩, ⟨⟨trivial, ⟨⟨trivial, ⟨trivial, ⟨⟨trivial, trivial⟩, trivial⟩⟩⟩, trivial⟩⟩, trivial⟩⟩⟩⟩⟩, ⟨trivial, trivial⟩⟩⟩⟩
set_option maxRecDepth 100000 in
theorem kvc {x : kna} {o : k4m} (h : kcu x o) : SoundH Try.prog k1o.f ((k1o.args idf x).map (er TB)) ((k1o.obs idf x).map (erO TB)) (er TB (k1o.val idf o)) ((k1o.ops idf o).map (erO TB)) :=
  Con.soundH (c := k1o) (C := k4a) TBok ⟨inf_ok, (all_cons kte all_nil), all_nil⟩ mix Try.func22 (show Try.f22.body = some k7c by kernel_rfl) (show Try.f22.ntmps = 51 by kernel_rfl) (show Try.f22.results.toList = k83 by kernel_rfl) rfl h (kvw o)
set_option maxRecDepth 100000 in
theorem kwn {c0_0 : Bool} {c0_1 : Int} {c0_2 : Int} {w1 : List TQuestion} {w2k : List ByteArray} {w2v : List Int} {w3k : List ByteArray} {w3v : List (List Int)} {w4k : List ByteArray} {w4v : List Bool} {r0 : TQuestion} {r1 : TQuestion} {r2 : Bool} {d0_0 : Bool} {d0_1 : Int} {d0_2 : Int} {e1 : List TQuestion} {e2k : List ByteArray} {e2v : List Int} {e3k : List ByteArray} {e3v : List (List Int)} {e4k : List ByteArray} {e4v : List Bool} (h :
((w1 = w1) ∧ (w1 = w1) ∧ Md.Loop (((w1.length : Int) : Int), (0 : Int), c0_0, c0_1, c0_2, (0 : Int), (([] : List Int) : List Int), (0 : Int), (0 : Int), (([] : List Int) : List Int), (0 : Int), w1, w2k, w2v, w3k, w3v, w4k, w4v, (([] : List Int) : List Int), (([] : List Int) : List Int), ()) (k86 (r0.Label, r0.Elems, r0.Answer, r1.Label, r1.Elems, r1.Answer, r2, d0_0, d0_1, d0_2, e1, e2k, e2v, e3k, e3v, e4k, e4v, ())))) : kcu (c0_0, c0_1, c0_2, w1, w2k, w2v, w3k, w3v, w4k, w4v, ()) (r0.Label, r0.Elems, r0.Answer, r1.Label, r1.Elems, r1.Answer, r2, d0_0, d0_1, d0_2, e1, e2k, e2v, e3k, e3v, e4k, e4v, ()) := WPh.of_eq (by kernel_rfl) h
def kmk (r0 : TQuestion) (r1 : TQuestion) (r2 : Bool) (d0_0 : Bool) (d0_1 : Int) (d0_2 : Int) (e1 : List TQuestion) (e2k : List ByteArray) (e2v : List Int) (e3k : List ByteArray) (e3v : List (List Int)) (e4k : List ByteArray) (e4v : List Bool) (k1 : Int → List Int → List Int → Prop) (s20 : Int) (h0_0 : Bool) (h0_1 : Int) (h0_2 : Int) (h5_0 : Int) (h5_1 : List Int) (h5_2 : Int) (h6_0 : Int) (h6_1 : List Int) (h6_2 : Int) (g1 : List TQuestion) (g2k : List ByteArray) (g2v : List Int) (g3k : List ByteArray) (g3v : List (List Int)) (g4k : List ByteArray) (g4v : List Bool) (s21 : Int) (g7k : List Int) (g7v : List Int) : Prop :=
(decide (s21 < s20) = true →
(0 ≤ s21) ∧ s21 < (g1.length : Int) ∧ g7k.length = g7v.length ∧ let v3 : Int := mVal (BEq.beq ((ix g1 s21).Answer)) g7k g7v (0 : Int)
(mHas (BEq.beq ((ix g1 s21).Answer)) g7k = true →
(0 ≤ v3) ∧ v3 < (g1.length : Int) ∧ ((ix g1 v3).Elems.length ≤ 1000000000) ∧ ((ix g1 s21).Elems.length ≤ 1000000000) ∧ (g1 = g1) ∧ (ix g1 v3).Label = r0.Label ∧ (ix g1 v3).Elems = r0.Elems ∧ (ix g1 v3).Answer = r0.Answer ∧ (ix g1 s21).Label = r1.Label ∧ (ix g1 s21).Elems = r1.Elems ∧ (ix g1 s21).Answer = r1.Answer ∧ true = r2 ∧ h0_0 = d0_0 ∧ h0_1 = d0_1 ∧ h0_2 = d0_2 ∧ g1 = e1 ∧ g2k = e2k ∧ g2v = e2v ∧ g3k = e3k ∧ g3v = e3v ∧ g4k = e4k ∧ g4v = e4v) ∧
(mHas (BEq.beq ((ix g1 s21).Answer)) g7k = false →
 g7k.length = g7v.length ∧ let v4 : List Int := mPutK (BEq.beq ((ix g1 s21).Answer)) g7k ((ix g1 s21).Answer)
 let v5 : List Int := mPutV (BEq.beq ((ix g1 s21).Answer)) g7k g7v s21
(g1 = g1) ∧ (g1 = g1) ∧ k1 (IntKind.i64.wrap (s21 + 1) : Int) v4 v5)) ∧
(decide (s21 < s20) = false →
(g1 = g1) ∧ 0 = r0.Label ∧ ([] : List Int) = r0.Elems ∧ 0 = r0.Answer ∧ 0 = r1.Label ∧ ([] : List Int) = r1.Elems ∧ 0 = r1.Answer ∧ false = r2 ∧ h0_0 = d0_0 ∧ h0_1 = d0_1 ∧ h0_2 = d0_2 ∧ g1 = e1 ∧ g2k = e2k ∧ g2v = e2v ∧ g3k = e3k ∧ g3v = e3v ∧ g4k = e4k ∧ g4v = e4v)
set_option maxRecDepth 100000 in
theorem kw0 {r0 : TQuestion} {r1 : TQuestion} {r2 : Bool} {d0_0 : Bool} {d0_1 : Int} {d0_2 : Int} {e1 : List TQuestion} {e2k : List ByteArray} {e2v : List Int} {e3k : List ByteArray} {e3v : List (List Int)} {e4k : List ByteArray} {e4v : List Bool} {s20 : Int} {h0_0 : Bool} {h0_1 : Int} {h0_2 : Int} {h5_0 : Int} {h5_1 : List Int} {h5_2 : Int} {h6_0 : Int} {h6_1 : List Int} {h6_2 : Int} {g1 : List TQuestion} {g2k : List ByteArray} {g2v : List Int} {g3k : List ByteArray} {g3v : List (List Int)} {g4k : List ByteArray} {g4v : List Bool} {s21 : Int} {g7k : List Int} {g7v : List Int} (inv : Int → List Int → List Int → Prop) (μ : Int → List Int → List Int → Nat) (h0 : inv s21 g7k g7v) (hs : ∀ (s21 : Int) (g7k : List Int) (g7v : List Int), inv s21 g7k g7v → kmk r0 r1 r2 d0_0 d0_1 d0_2 e1 e2k e2v e3k e3v e4k e4v (fun s21q g7kq g7vq => inv s21q g7kq g7vq ∧ μ s21q g7kq g7vq < μ s21 g7k g7v) s20 h0_0 h0_1 h0_2 h5_0 h5_1 h5_2 h6_0 h6_1 h6_2 g1 g2k g2v g3k g3v g4k g4v s21 g7k g7v) : Md.Loop (s20, s21, h0_0, h0_1, h0_2, h5_0, h5_1, h5_2, h6_0, h6_1, h6_2, g1, g2k, g2v, g3k, g3v, g4k, g4v, g7k, g7v, ()) (k86 (r0.Label, r0.Elems, r0.Answer, r1.Label, r1.Elems, r1.Answer, r2, d0_0, d0_1, d0_2, e1, e2k, e2v, e3k, e3v, e4k, e4v, ())) :=
  ⟨⟨fun s : Int × Int × Bool × Int × Int × Int × (List Int) × Int × Int × (List Int) × Int × (List TQuestion) × (List ByteArray) × (List Int) × (List ByteArray) × (List (List Int)) × (List ByteArray) × (List Bool) × (List Int) × (List Int) × Unit => (s.1 = s20 ∧ s.2.2.1 = h0_0 ∧ s.2.2.2.1 = h0_1 ∧ s.2.2.2.2.1 = h0_2 ∧ s.2.2.2.2.2.1 = h5_0 ∧ s.2.2.2.2.2.2.1 = h5_1 ∧ s.2.2.2.2.2.2.2.1 = h5_2 ∧ s.2.2.2.2.2.2.2.2.1 = h6_0 ∧ s.2.2.2.2.2.2.2.2.2.1 = h6_1 ∧ s.2.2.2.2.2.2.2.2.2.2.1 = h6_2 ∧ s.2.2.2.2.2.2.2.2.2.2.2.1 = g1 ∧ s.2.2.2.2.2.2.2.2.2.2.2.2.1 = g2k ∧ s.2.2.2.2.2.2.2.2.2.2.2.2.2.1 = g2v ∧ s.2.2.2.2.2.2.2.2.2.2.2.2.2.2.1 = g3k ∧ s.2.2.2.2.2.2.2.2.2.2.2.2.2.2.2.1 = g3v ∧ s.2.2.2.2.2.2.2.2.2.2.2.2.2.2.2.2.1 = g4k ∧ s.2.2.2.2.2.2.2.2.2.2.2.2.2.2.2.2.2.1 = g4v) ∧ inv s.2.1 s.2.2.2.2.2.2.2.2.2.2.2.2.2.2.2.2.2.2.1 s.2.2.2.2.2.2.2.2.2.2.2.2.2.2.2.2.2.2.2.1, fun s : Int × Int × Bool × Int × Int × Int × (List Int) × Int × Int × (List Int) × Int × (List TQuestion) × (List ByteArray) × (List Int) × (List ByteArray) × (List (List Int)) × (List ByteArray) × (List Bool) × (List Int) × (List Int) × Unit => μ s.2.1 s.2.2.2.2.2.2.2.2.2.2.2.2.2.2.2.2.2.2.1 s.2.2.2.2.2.2.2.2.2.2.2.2.2.2.2.2.2.2.2.1, ⟨⟨rfl, rfl, rfl, rfl, rfl, rfl, rfl, rfl, rfl, rfl, rfl, rfl, rfl, rfl, rfl, rfl, rfl⟩, h0⟩, fun (s20p, s21p, h0_0p, h0_1p, h0_2p, h5_0p, h5_1p, h5_2p, h6_0p, h6_1p, h6_2p, g1p, g2kp, g2vp, g3kp, g3vp, g4kp, g4vp, g7kp, g7vp, ()) ⟨⟨eq0, eq1, eq2, eq3, eq4, eq5, eq6, eq7, eq8, eq9, eq10, eq11, eq12, eq13, eq14, eq15, eq16⟩, hi⟩ => by
    have eq0 : s20p = s20 := eq0; subst s20p; have eq1 : h0_0p = h0_0 := eq1; subst h0_0p; have eq2 : h0_1p = h0_1 := eq2; subst h0_1p; have eq3 : h0_2p = h0_2 := eq3; subst h0_2p; have eq4 : h5_0p = h5_0 := eq4; subst h5_0p; have eq5 : h5_1p = h5_1 := eq5; subst h5_1p; have eq6 : h5_2p = h5_2 := eq6; subst h5_2p; have eq7 : h6_0p = h6_0 := eq7; subst h6_0p; have eq8 : h6_1p = h6_1 := eq8; subst h6_1p; have eq9 : h6_2p = h6_2 := eq9; subst h6_2p; have eq10 : g1p = g1 := eq10; subst g1p; have eq11 : g2kp = g2k := eq11; subst g2kp; have eq12 : g2vp = g2v := eq12; subst g2vp; have eq13 : g3kp = g3k := eq13; subst g3kp; have eq14 : g3vp = g3v := eq14; subst g3vp; have eq15 : g4kp = g4k := eq15; subst g4kp; have eq16 : g4vp = g4v := eq16; subst g4vp; exact mpr_of (by kernel_rfl) ((congrArg (fun k => kmk r0 r1 r2 d0_0 d0_1 d0_2 e1 e2k e2v e3k e3v e4k e4v k s20 h0_0 h0_1 h0_2 h5_0 h5_1 h5_2 h6_0 h6_1 h6_2 g1 g2k g2v g3k g3v g4k g4v s21p g7kp g7vp) (lpk3 (⟨rfl, rfl, rfl, rfl, rfl, rfl, rfl, rfl, rfl, rfl, rfl, rfl, rfl, rfl, rfl, rfl, rfl⟩ : s20 = s20 ∧ h0_0 = h0_0 ∧ h0_1 = h0_1 ∧ h0_2 = h0_2 ∧ h5_0 = h5_0 ∧ h5_1 = h5_1 ∧ h5_2 = h5_2 ∧ h6_0 = h6_0 ∧ h6_1 = h6_1 ∧ h6_2 = h6_2 ∧ g1 = g1 ∧ g2k = g2k ∧ g2v = g2v ∧ g3k = g3k ∧ g3v = g3v ∧ g4k = g4k ∧ g4v = g4v) inv (fun s21q g7kq g7vq => μ s21q g7kq g7vq < μ s21p g7kp g7vp))).mpr (hs s21p g7kp g7vp hi))⟩⟩
theorem bd22 : Callable Try.prog 22 := ⟨by rw [Try.func22]; kernel_rfl, by rw [Try.func22]; show some _ ≠ some _; decide⟩
theorem ktu (c0_0 : Bool) (c0_1 : Int) (c0_2 : Int) (w1 : List TQuestion) (w2k : List ByteArray) (w2v : List Int) (w3k : List ByteArray) (w3v : List (List Int)) (w4k : List ByteArray) (w4v : List Bool) (h : w1.length ≤ 1000000 ∧ ∀ x ∈ w1, x.Elems.length ≤ 1000000000) : kcu (c0_0, c0_1, c0_2, w1, w2k, w2v, w3k, w3v, w4k, w4v, ()) ((((collF w1).a).Label : Int), (((collF w1).a).Elems : List Int), (((collF w1).a).Answer : Int), (((collF w1).b).Label : Int), (((collF w1).b).Elems : List Int), (((collF w1).b).Answer : Int), (((collF w1).f) : Bool), (c0_0 : Bool), (c0_1 : Int), (c0_2 : Int), (w1 : List TQuestion), (w2k : List ByteArray), (w2v : List Int), (w3k : List ByteArray), (w3v : List (List Int)), (w4k : List ByteArray), (w4v : List Bool), ()) := by
  obtain ⟨h1, h2⟩ := h
  generalize hC : collF w1 = C
  refine kwn (r0 := C.a) (r1 := C.b) ⟨rfl, rfl, ?_⟩
  refine kw0 (r0 := C.a) (r1 := C.b) (fun i k v => (0 ≤ i ∧ i ≤ w1.length) ∧ k = (w1.take i.toNat).map (·.Answer) ∧ v = (List.range i.toNat).map (fun (j : Nat) => (j : Int)) ∧ collG (w1.take i.toNat) (w1.drop i.toNat) = C) (fun i _ _ => (w1.length - i).toNat) ⟨⟨by omega, by omega⟩, by simp, by simp, hC⟩ ?_
  rintro i k v ⟨⟨g0, g1⟩, rfl, rfl, g2⟩
  have hlen : ((w1.take i.toNat).map (·.Answer)).length = i.toNat := by rw [List.length_map, List.length_take]; omega
  have hlen2 : ((List.range i.toNat).map (fun (j : Nat) => (j : Int))).length = i.toNat := by simp
  refine ⟨fun hh => ?_, fun hh => ?_⟩
  · have hh := of_decide_eq_true hh
    rw [drop_ix w1 i g0 hh] at g2
    have hx := h2 _ (ix_mem w1 i g0 hh)
    refine ⟨g0, hh, by rw [hlen, hlen2], ?_⟩
    dsimp only
    have hm : mIdx (BEq.beq (ix w1 i).Answer) ((w1.take i.toNat).map (·.Answer)) = mIdx (fun x => BEq.beq (ix w1 i).Answer x.Answer) (w1.take i.toNat) := k13d _ _ _
    have hp : (fun x : TQuestion => BEq.beq (ix w1 i).Answer x.Answer) = fun x => decide ((ix w1 i).Answer = x.Answer) := by
      funext x
      exact Bool.eq_iff_iff.2 (by simp)
    rw [hp] at hm
    rcases k17z (p := fun x : TQuestion => decide ((ix w1 i).Answer = x.Answer)) (l := w1.take i.toNat) with ⟨e1, e2⟩ | ⟨j, x, e1, e2, e3⟩
    · have hno : mHas (BEq.beq (ix w1 i).Answer) ((w1.take i.toNat).map (·.Answer)) = false := by unfold mHas; rw [hm, e1]; rfl
      rw [hno]
      refine ⟨(fun h => by cases h), fun _ => ⟨by rw [hlen, hlen2], ?_⟩⟩
      rw [k14n hno, k14f hno, inc i w1.length g0 hh (by omega)]
      refine ⟨rfl, rfl, ⟨⟨by omega, by omega⟩, ?_, ?_, ?_⟩, by omega⟩
      · rw [k69 w1 i g0 hh, List.map_append]; rfl
      · rw [show (i + 1).toNat = i.toNat + 1 by omega, List.range_succ, List.map_append]
        simp only [List.map_cons, List.map_nil]
        rw [show ((i.toNat : Nat) : Int) = i by omega]
      · rw [k69 w1 i g0 hh]
        unfold collG at g2
        rw [e2] at g2
        exact g2
    · have hjl : j < i.toNat := by
        have := (List.getElem?_eq_some_iff.1 e3).1
        rw [List.length_take] at this
        omega
      have hyes : mHas (BEq.beq (ix w1 i).Answer) ((w1.take i.toNat).map (·.Answer)) = true := by unfold mHas; rw [hm, e1]; rfl
      have hv : mVal (BEq.beq (ix w1 i).Answer) ((w1.take i.toNat).map (·.Answer)) ((List.range i.toNat).map (fun (j : Nat) => (j : Int))) 0 = (j : Int) := by
        unfold mVal
        rw [hm, e1]
        simp [hjl]
      have hxj : ix w1 (j : Int) = x := by
        rw [ix_nat w1 _ (by omega) (by omega)]
        rw [List.getElem?_take, if_pos hjl] at e3
        simp only [Int.toNat_natCast]
        exact (List.getElem?_eq_some_iff.1 e3).2
      rw [hyes, hv, hxj]
      have hxm : x ∈ w1 := List.mem_of_mem_take (List.mem_of_getElem? e3)
      unfold collG at g2
      rw [e2] at g2
      rw [← g2]
      exact ⟨fun _ => ⟨by omega, by omega, h2 x hxm, hx, rfl, rfl, rfl, rfl, rfl, rfl, rfl, rfl, rfl, rfl, rfl, rfl, rfl, rfl, rfl, rfl, rfl, rfl⟩, fun h => by cases h⟩
  · have hh := of_decide_eq_false hh
    rw [List.drop_eq_nil_of_le (show w1.length ≤ i.toNat by omega)] at g2
    have g2 : (⟨zQ, zQ, false⟩ : CO) = C := by rw [← g2]; cases w1.take i.toNat <;> rfl
    rw [← g2]
    exact ⟨rfl, rfl, rfl, rfl, rfl, rfl, rfl, rfl, rfl, rfl, rfl, rfl, rfl, rfl, rfl, rfl, rfl, rfl⟩
noncomputable def klh : Con TB.den := k1o.fnR (fun x => (fun (c0_0 : Bool) (c0_1 : Int) (c0_2 : Int) (w1 : List TQuestion) (w2k : List ByteArray) (w2v : List Int) (w3k : List ByteArray) (w3v : List (List Int)) (w4k : List ByteArray) (w4v : List Bool) => w1.length ≤ 1000000 ∧ ∀ x ∈ w1, x.Elems.length ≤ 1000000000) x.1 x.2.1 x.2.2.1 x.2.2.2.1 x.2.2.2.2.1 x.2.2.2.2.2.1 x.2.2.2.2.2.2.1 x.2.2.2.2.2.2.2.1 x.2.2.2.2.2.2.2.2.1 x.2.2.2.2.2.2.2.2.2.1) fun x => ((fun (c0_0 : Bool) (c0_1 : Int) (c0_2 : Int) (w1 : List TQuestion) (w2k : List ByteArray) (w2v : List Int) (w3k : List ByteArray) (w3v : List (List Int)) (w4k : List ByteArray) (w4v : List Bool) => (((collF w1).a).Label : Int)) x.1 x.2.1 x.2.2.1 x.2.2.2.1 x.2.2.2.2.1 x.2.2.2.2.2.1 x.2.2.2.2.2.2.1 x.2.2.2.2.2.2.2.1 x.2.2.2.2.2.2.2.2.1 x.2.2.2.2.2.2.2.2.2.1, (fun (c0_0 : Bool) (c0_1 : Int) (c0_2 : Int) (w1 : List TQuestion) (w2k : List ByteArray) (w2v : List Int) (w3k : List ByteArray) (w3v : List (List Int)) (w4k : List ByteArray) (w4v : List Bool) => (((collF w1).a).Elems : List Int)) x.1 x.2.1 x.2.2.1 x.2.2.2.1 x.2.2.2.2.1 x.2.2.2.2.2.1 x.2.2.2.2.2.2.1 x.2.2.2.2.2.2.2.1 x.2.2.2.2.2.2.2.2.1 x.2.2.2.2.2.2.2.2.2.1, (fun (c0_0 : Bool) (c0_1 : Int) (c0_2 : Int) (w1 : List TQuestion) (w2k : List ByteArray) (w2v : List Int) (w3k : List ByteArray) (w3v : List (List Int)) (w4k : List ByteArray) (w4v : List Bool) => (((collF w1).a).Answer : Int)) x.1 x.2.1 x.2.2.1 x.2.2.2.1 x.2.2.2.2.1 x.2.2.2.2.2.1 x.2.2.2.2.2.2.1 x.2.2.2.2.2.2.2.1 x.2.2.2.2.2.2.2.2.1 x.2.2.2.2.2.2.2.2.2.1, (fun (c0_0 : Bool) (c0_1 : Int) (c0_2 : Int) (w1 : List TQuestion) (w2k : List ByteArray) (w2v : List Int) (w3k : List ByteArray) (w3v : List (List Int)) (w4k : List ByteArray) (w4v : List Bool) => (((collF w1).b).Label : Int)) x.1 x.2.1 x.2.2.1 x.2.2.2.1 x.2.2.2.2.1 x.2.2.2.2.2.1 x.2.2.2.2.2.2.1 x.2.2.2.2.2.2.2.1 x.2.2.2.2.2.2.2.2.1 x.2.2.2.2.2.2.2.2.2.1, (fun (c0_0 : Bool) (c0_1 : Int) (c0_2 : Int) (w1 : List TQuestion) (w2k : List ByteArray) (w2v : List Int) (w3k : List ByteArray) (w3v : List (List Int)) (w4k : List ByteArray) (w4v : List Bool) => (((collF w1).b).Elems : List Int)) x.1 x.2.1 x.2.2.1 x.2.2.2.1 x.2.2.2.2.1 x.2.2.2.2.2.1 x.2.2.2.2.2.2.1 x.2.2.2.2.2.2.2.1 x.2.2.2.2.2.2.2.2.1 x.2.2.2.2.2.2.2.2.2.1, (fun (c0_0 : Bool) (c0_1 : Int) (c0_2 : Int) (w1 : List TQuestion) (w2k : List ByteArray) (w2v : List Int) (w3k : List ByteArray) (w3v : List (List Int)) (w4k : List ByteArray) (w4v : List Bool) => (((collF w1).b).Answer : Int)) x.1 x.2.1 x.2.2.1 x.2.2.2.1 x.2.2.2.2.1 x.2.2.2.2.2.1 x.2.2.2.2.2.2.1 x.2.2.2.2.2.2.2.1 x.2.2.2.2.2.2.2.2.1 x.2.2.2.2.2.2.2.2.2.1, (fun (c0_0 : Bool) (c0_1 : Int) (c0_2 : Int) (w1 : List TQuestion) (w2k : List ByteArray) (w2v : List Int) (w3k : List ByteArray) (w3v : List (List Int)) (w4k : List ByteArray) (w4v : List Bool) => (((collF w1).f) : Bool)) x.1 x.2.1 x.2.2.1 x.2.2.2.1 x.2.2.2.2.1 x.2.2.2.2.2.1 x.2.2.2.2.2.2.1 x.2.2.2.2.2.2.2.1 x.2.2.2.2.2.2.2.2.1 x.2.2.2.2.2.2.2.2.2.1, (fun (c0_0 : Bool) (c0_1 : Int) (c0_2 : Int) (w1 : List TQuestion) (w2k : List ByteArray) (w2v : List Int) (w3k : List ByteArray) (w3v : List (List Int)) (w4k : List ByteArray) (w4v : List Bool) => (c0_0 : Bool)) x.1 x.2.1 x.2.2.1 x.2.2.2.1 x.2.2.2.2.1 x.2.2.2.2.2.1 x.2.2.2.2.2.2.1 x.2.2.2.2.2.2.2.1 x.2.2.2.2.2.2.2.2.1 x.2.2.2.2.2.2.2.2.2.1, (fun (c0_0 : Bool) (c0_1 : Int) (c0_2 : Int) (w1 : List TQuestion) (w2k : List ByteArray) (w2v : List Int) (w3k : List ByteArray) (w3v : List (List Int)) (w4k : List ByteArray) (w4v : List Bool) => (c0_1 : Int)) x.1 x.2.1 x.2.2.1 x.2.2.2.1 x.2.2.2.2.1 x.2.2.2.2.2.1 x.2.2.2.2.2.2.1 x.2.2.2.2.2.2.2.1 x.2.2.2.2.2.2.2.2.1 x.2.2.2.2.2.2.2.2.2.1, (fun (c0_0 : Bool) (c0_1 : Int) (c0_2 : Int) (w1 : List TQuestion) (w2k : List ByteArray) (w2v : List Int) (w3k : List ByteArray) (w3v : List (List Int)) (w4k : List ByteArray) (w4v : List Bool) => (c0_2 : Int)) x.1 x.2.1 x.2.2.1 x.2.2.2.1 x.2.2.2.2.1 x.2.2.2.2.2.1 x.2.2.2.2.2.2.1 x.2.2.2.2.2.2.2.1 x.2.2.2.2.2.2.2.2.1 x.2.2.2.2.2.2.2.2.2.1, (fun (c0_0 : Bool) (c0_1 : Int) (c0_2 : Int) (w1 : List TQuestion) (w2k : List ByteArray) (w2v : List Int) (w3k : List ByteArray) (w3v : List (List Int)) (w4k : List ByteArray) (w4v : List Bool) => (w1 : List TQuestion)) x.1 x.2.1 x.2.2.1 x.2.2.2.1 x.2.2.2.2.1 x.2.2.2.2.2.1 x.2.2.2.2.2.2.1 x.2.2.2.2.2.2.2.1 x.2.2.2.2.2.2.2.2.1 x.2.2.2.2.2.2.2.2.2.1, (fun (c0_0 : Bool) (c0_1 : Int) (c0_2 : Int) (w1 : List TQuestion) (w2k : List ByteArray) (w2v : List Int) (w3k : List ByteArray) (w3v : List (List Int)) (w4k : List ByteArray) (w4v : List Bool) => (w2k : List ByteArray)) x.1 x.2.1 x.2.2.1 x.2.2.2.1 x.2.2.2.2.1 x.2.2.2.2.2.1 x.2.2.2.2.2.2.1 x.2.2.2.2.2.2.2.1 x.2.2.2.2.2.2.2.2.1 x.2.2.2.2.2.2.2.2.2.1, (fun (c0_0 : Bool) (c0_1 : Int) (c0_2 : Int) (w1 : List TQuestion) (w2k : List ByteArray) (w2v : List Int) (w3k : List ByteArray) (w3v : List (List Int)) (w4k : List ByteArray) (w4v : List Bool) => (w2v : List Int)) x.1 x.2.1 x.2.2.1 x.2.2.2.1 x.2.2.2.2.1 x.2.2.2.2.2.1 x.2.2.2.2.2.2.1 x.2.2.2.2.2.2.2.1 x.2.2.2.2.2.2.2.2.1 x.2.2.2.2.2.2.2.2.2.1, (fun (c0_0 : Bool) (c0_1 : Int) (c0_2 : Int) (w1 : List TQuestion) (w2k : List ByteArray) (w2v : List Int) (w3k : List ByteArray) (w3v : List (List Int)) (w4k : List ByteArray) (w4v : List Bool) => (w3k : List ByteArray)) x.1 x.2.1 x.2.2.1 x.2.2.2.1 x.2.2.2.2.1 x.2.2.2.2.2.1 x.2.2.2.2.2.2.1 x.2.2.2.2.2.2.2.1 x.2.2.2.2.2.2.2.2.1 x.2.2.2.2.2.2.2.2.2.1, (fun (c0_0 : Bool) (c0_1 : Int) (c0_2 : Int) (w1 : List TQuestion) (w2k : List ByteArray) (w2v : List Int) (w3k : List ByteArray) (w3v : List (List Int)) (w4k : List ByteArray) (w4v : List Bool) => (w3v : List (List Int))) x.1 x.2.1 x.2.2.1 x.2.2.2.1 x.2.2.2.2.1 x.2.2.2.2.2.1 x.2.2.2.2.2.2.1 x.2.2.2.2.2.2.2.1 x.2.2.2.2.2.2.2.2.1 x.2.2.2.2.2.2.2.2.2.1, (fun (c0_0 : Bool) (c0_1 : Int) (c0_2 : Int) (w1 : List TQuestion) (w2k : List ByteArray) (w2v : List Int) (w3k : List ByteArray) (w3v : List (List Int)) (w4k : List ByteArray) (w4v : List Bool) => (w4k : List ByteArray)) x.1 x.2.1 x.2.2.1 x.2.2.2.1 x.2.2.2.2.1 x.2.2.2.2.2.1 x.2.2.2.2.2.2.1 x.2.2.2.2.2.2.2.1 x.2.2.2.2.2.2.2.2.1 x.2.2.2.2.2.2.2.2.2.1, (fun (c0_0 : Bool) (c0_1 : Int) (c0_2 : Int) (w1 : List TQuestion) (w2k : List ByteArray) (w2v : List Int) (w3k : List ByteArray) (w3v : List (List Int)) (w4k : List ByteArray) (w4v : List Bool) => (w4v : List Bool)) x.1 x.2.1 x.2.2.1 x.2.2.2.1 x.2.2.2.2.1 x.2.2.2.2.2.1 x.2.2.2.2.2.2.1 x.2.2.2.2.2.2.2.1 x.2.2.2.2.2.2.2.2.1 x.2.2.2.2.2.2.2.2.2.1, ())
theorem kw6 : klh.Ok Try.prog TB := Con.ok_fn k1o bd22 fun x h => kvc (ktu x.1 x.2.1 x.2.2.1 x.2.2.2.1 x.2.2.2.2.1 x.2.2.2.2.2.1 x.2.2.2.2.2.2.1 x.2.2.2.2.2.2.2.1 x.2.2.2.2.2.2.2.2.1 x.2.2.2.2.2.2.2.2.2.1 h)
end Go.Proofs.Ytponaobpcdkggaa
namespace Go.Proofs.Ytponaobpcdkggaa
open Go Go.Bv Go.Cv Go.Md Go.RowKit
theorem bd40 : Callable Try.prog 40 := ⟨by rw [Try.func40]; kernel_rfl, by rw [Try.func40]; show some _ ≠ some _; decide⟩
end Go.Proofs.Ytponaobpcdkggaa
namespace Go.Proofs.Ytponaobpcdkggaa
open Go Go.Bv Go.Cv Go.Md Go.RowKit
def k2x : Con TB.den := Con.mk0 40 [.one (.ptr 0 0)] [.cells [.d (.bool), .d (.int .u64), .d (.int .i64), .own 1, .mp 2, .mp 3, .mp 4], .tip (.st 1), .map (.str) (.int .i64), .map (.str) (.sl (.int .u64)), .map (.str) (.bool)] (.one (.one (.d (.int .u64)))) [.cells [.d (.bool), .d (.int .u64), .d (.int .i64), .own 1, .mp 2, .mp 3, .mp 4], .tip (.st 1), .map (.str) (.int .i64), .map (.str) (.sl (.int .u64)), .map (.str) (.bool)]
abbrev kuz := HL TB.den (hsT k2x.ins (hsOs k2x.pre))
abbrev kh9 := HL TB.den (hsV k2x.res (hsOs k2x.post))
noncomputable def kbv : Cx TB := ⟨inf, [], [], 4, []⟩
noncomputable def khn : Code := Try.f40.body.getD .skip
noncomputable def km3 : List ResultVar := Try.f40.results.toList
noncomputable def ksn (o : kh9) : An TB := .no
noncomputable def kj0 (x : kuz) (o : kh9) : Prop := WPh TB kbv 42 5 khn (ksn o) (k2x.st TB x) (retTQ TB kbv k2x km3 o)
set_option maxRecDepth 100000 in
theorem k11a (o : kh9) : OblH TB kbv 42 5 khn (ksn o) (retTQ TB kbv k2x km3 o) :=
  OblH.of_eq (X := (True ∧ ((True ∧ ((True ∧ True) ∧ True)) ∧ (True ∧ (True ∧ (True ∧ (True ∧ (True ∧ (True ∧ True))))))))) (by kernel_rfl) ⟨trivial, ⟨⟨trivial, ⟨⟨trivial, trivial⟩, trivial⟩⟩, ⟨trivial, ⟨trivial, ⟨trivial, ⟨trivial, ⟨trivial, ⟨trivial, trivial⟩⟩⟩⟩⟩⟩⟩⟩
set_option maxRecDepth 100000 in
theorem k11f {x : kuz} {o : kh9} (h : kj0 x o) : SoundH Try.prog k2x.f ((k2x.args idf x).map (er TB)) ((k2x.obs idf x).map (erO TB)) (er TB (k2x.val idf o)) ((k2x.ops idf o).map (erO TB)) :=
  Con.soundH (c := k2x) (C := kbv) TBok ⟨inf_ok, all_nil, all_nil⟩ mix Try.func40 (show Try.f40.body = some khn by kernel_rfl) (show Try.f40.ntmps = 42 by kernel_rfl) (show Try.f40.results.toList = km3 by kernel_rfl) rfl h (k11a o)
set_option maxRecDepth 100000 in
theorem k13n {c0_0 : Bool} {c0_1 : Int} {c0_2 : Int} {w1 : List TQuestion} {w2k : List ByteArray} {w2v : List Int} {w3k : List ByteArray} {w3v : List (List Int)} {w4k : List ByteArray} {w4v : List Bool} {r0 : Int} {d0_0 : Bool} {d0_1 : Int} {d0_2 : Int} {e1 : List TQuestion} {e2k : List ByteArray} {e2v : List Int} {e3k : List ByteArray} {e3v : List (List Int)} {e4k : List ByteArray} {e4v : List Bool} (h :
(((!c0_0) = true →
(w1 = w1) ∧ 0 = r0 ∧ c0_0 = d0_0 ∧ c0_1 = d0_1 ∧ c0_2 = d0_2 ∧ w1 = e1 ∧ w2k = e2k ∧ w2v = e2v ∧ w3k = e3k ∧ w3v = e3v ∧ w4k = e4k ∧ w4v = e4v) ∧
((!c0_0) = false →
 let v1 : Int := IntKind.u64.wrap (c0_1 + 11400714819323198485)
 let v2 : Int := IntKind.u64.wrap ((ixor .u64 v1 (ishr .u64 v1 30)) * 13787848793156543929)
 let v3 : Int := IntKind.u64.wrap ((ixor .u64 v2 (ishr .u64 v2 27)) * 10723151780598845931)
 let v4 : Int := Int.tmod (ixor .u64 v3 (ishr .u64 v3 31)) 18446744069414584321
(w1 = w1) ∧ v4 = r0 ∧ c0_0 = d0_0 ∧ v1 = d0_1 ∧ IntKind.i64.wrap (c0_2 + 1) = d0_2 ∧ w1 = e1 ∧ w2k = e2k ∧ w2v = e2v ∧ w3k = e3k ∧ w3v = e3v ∧ w4k = e4k ∧ w4v = e4v))) : kj0 (c0_0, c0_1, c0_2, w1, w2k, w2v, w3k, w3v, w4k, w4v, ()) (r0, d0_0, d0_1, d0_2, e1, e2k, e2v, e3k, e3v, e4k, e4v, ()) := WPh.of_eq (by kernel_rfl) h
theorem k10j (c0_0 : Bool) (c0_1 : Int) (c0_2 : Int) (w1 : List TQuestion) (w2k : List ByteArray) (w2v : List Int) (w3k : List ByteArray) (w3v : List (List Int)) (w4k : List ByteArray) (w4v : List Bool) : kj0 (c0_0, c0_1, c0_2, w1, w2k, w2v, w3k, w3v, w4k, w4v, ()) ((((drO (OS.mk c0_0 c0_1 c0_2 w1 w2k w2v w3k w3v w4k w4v)).n) : Int), (((drO (OS.mk c0_0 c0_1 c0_2 w1 w2k w2v w3k w3v w4k w4v)).o.a) : Bool), (((drO (OS.mk c0_0 c0_1 c0_2 w1 w2k w2v w3k w3v w4k w4v)).o.b) : Int), (((drO (OS.mk c0_0 c0_1 c0_2 w1 w2k w2v w3k w3v w4k w4v)).o.c) : Int), (((drO (OS.mk c0_0 c0_1 c0_2 w1 w2k w2v w3k w3v w4k w4v)).o.q) : List TQuestion), (((drO (OS.mk c0_0 c0_1 c0_2 w1 w2k w2v w3k w3v w4k w4v)).o.k) : List ByteArray), (((drO (OS.mk c0_0 c0_1 c0_2 w1 w2k w2v w3k w3v w4k w4v)).o.v) : List Int), (((drO (OS.mk c0_0 c0_1 c0_2 w1 w2k w2v w3k w3v w4k w4v)).o.s) : List ByteArray), (((drO (OS.mk c0_0 c0_1 c0_2 w1 w2k w2v w3k w3v w4k w4v)).o.t) : List (List Int)), (((drO (OS.mk c0_0 c0_1 c0_2 w1 w2k w2v w3k w3v w4k w4v)).o.x) : List ByteArray), (((drO (OS.mk c0_0 c0_1 c0_2 w1 w2k w2v w3k w3v w4k w4v)).o.y) : List Bool), ()) := by
  refine k13n ⟨fun e => ?_, fun e => ?_⟩
  · have e : c0_0 = false := by simpa using e
    subst e
    exact ⟨rfl, rfl, rfl, rfl, rfl, rfl, rfl, rfl, rfl, rfl, rfl, rfl⟩
  · have e : c0_0 = true := by simpa using e
    subst e
    exact ⟨rfl, rfl, rfl, rfl, rfl, rfl, rfl, rfl, rfl, rfl, rfl, rfl⟩
noncomputable def krf : Con TB.den := k2x.totR fun x => ((fun (c0_0 : Bool) (c0_1 : Int) (c0_2 : Int) (w1 : List TQuestion) (w2k : List ByteArray) (w2v : List Int) (w3k : List ByteArray) (w3v : List (List Int)) (w4k : List ByteArray) (w4v : List Bool) => (((drO (OS.mk c0_0 c0_1 c0_2 w1 w2k w2v w3k w3v w4k w4v)).n) : Int)) x.1 x.2.1 x.2.2.1 x.2.2.2.1 x.2.2.2.2.1 x.2.2.2.2.2.1 x.2.2.2.2.2.2.1 x.2.2.2.2.2.2.2.1 x.2.2.2.2.2.2.2.2.1 x.2.2.2.2.2.2.2.2.2.1, (fun (c0_0 : Bool) (c0_1 : Int) (c0_2 : Int) (w1 : List TQuestion) (w2k : List ByteArray) (w2v : List Int) (w3k : List ByteArray) (w3v : List (List Int)) (w4k : List ByteArray) (w4v : List Bool) => (((drO (OS.mk c0_0 c0_1 c0_2 w1 w2k w2v w3k w3v w4k w4v)).o.a) : Bool)) x.1 x.2.1 x.2.2.1 x.2.2.2.1 x.2.2.2.2.1 x.2.2.2.2.2.1 x.2.2.2.2.2.2.1 x.2.2.2.2.2.2.2.1 x.2.2.2.2.2.2.2.2.1 x.2.2.2.2.2.2.2.2.2.1, (fun (c0_0 : Bool) (c0_1 : Int) (c0_2 : Int) (w1 : List TQuestion) (w2k : List ByteArray) (w2v : List Int) (w3k : List ByteArray) (w3v : List (List Int)) (w4k : List ByteArray) (w4v : List Bool) => (((drO (OS.mk c0_0 c0_1 c0_2 w1 w2k w2v w3k w3v w4k w4v)).o.b) : Int)) x.1 x.2.1 x.2.2.1 x.2.2.2.1 x.2.2.2.2.1 x.2.2.2.2.2.1 x.2.2.2.2.2.2.1 x.2.2.2.2.2.2.2.1 x.2.2.2.2.2.2.2.2.1 x.2.2.2.2.2.2.2.2.2.1, (fun (c0_0 : Bool) (c0_1 : Int) (c0_2 : Int) (w1 : List TQuestion) (w2k : List ByteArray) (w2v : List Int) (w3k : List ByteArray) (w3v : List (List Int)) (w4k : List ByteArray) (w4v : List Bool) => (((drO (OS.mk c0_0 c0_1 c0_2 w1 w2k w2v w3k w3v w4k w4v)).o.c) : Int)) x.1 x.2.1 x.2.2.1 x.2.2.2.1 x.2.2.2.2.1 x.2.2.2.2.2.1 x.2.2.2.2.2.2.1 x.2.2.2.2.2.2.2.1 x.2.2.2.2.2.2.2.2.1 x.2.2.2.2.2.2.2.2.2.1, (fun (c0_0 : Bool) (c0_1 : Int) (c0_2 : Int) (w1 : List TQuestion) (w2k : List ByteArray) (w2v : List Int) (w3k : List ByteArray) (w3v : List (List Int)) (w4k : List ByteArray) (w4v : List Bool) => (((drO (OS.mk c0_0 c0_1 c0_2 w1 w2k w2v w3k w3v w4k w4v)).o.q) : List TQuestion)) x.1 x.2.1 x.2.2.1 x.2.2.2.1 x.2.2.2.2.1 x.2.2.2.2.2.1 x.2.2.2.2.2.2.1 x.2.2.2.2.2.2.2.1 x.2.2.2.2.2.2.2.2.1 x.2.2.2.2.2.2.2.2.2.1, (fun (c0_0 : Bool) (c0_1 : Int) (c0_2 : Int) (w1 : List TQuestion) (w2k : List ByteArray) (w2v : List Int) (w3k : List ByteArray) (w3v : List (List Int)) (w4k : List ByteArray) (w4v : List Bool) => (((drO (OS.mk c0_0 c0_1 c0_2 w1 w2k w2v w3k w3v w4k w4v)).o.k) : List ByteArray)) x.1 x.2.1 x.2.2.1 x.2.2.2.1 x.2.2.2.2.1 x.2.2.2.2.2.1 x.2.2.2.2.2.2.1 x.2.2.2.2.2.2.2.1 x.2.2.2.2.2.2.2.2.1 x.2.2.2.2.2.2.2.2.2.1, (fun (c0_0 : Bool) (c0_1 : Int) (c0_2 : Int) (w1 : List TQuestion) (w2k : List ByteArray) (w2v : List Int) (w3k : List ByteArray) (w3v : List (List Int)) (w4k : List ByteArray) (w4v : List Bool) => (((drO (OS.mk c0_0 c0_1 c0_2 w1 w2k w2v w3k w3v w4k w4v)).o.v) : List Int)) x.1 x.2.1 x.2.2.1 x.2.2.2.1 x.2.2.2.2.1 x.2.2.2.2.2.1 x.2.2.2.2.2.2.1 x.2.2.2.2.2.2.2.1 x.2.2.2.2.2.2.2.2.1 x.2.2.2.2.2.2.2.2.2.1, (fun (c0_0 : Bool) (c0_1 : Int) (c0_2 : Int) (w1 : List TQuestion) (w2k : List ByteArray) (w2v : List Int) (w3k : List ByteArray) (w3v : List (List Int)) (w4k : List ByteArray) (w4v : List Bool) => (((drO (OS.mk c0_0 c0_1 c0_2 w1 w2k w2v w3k w3v w4k w4v)).o.s) : List ByteArray)) x.1 x.2.1 x.2.2.1 x.2.2.2.1 x.2.2.2.2.1 x.2.2.2.2.2.1 x.2.2.2.2.2.2.1 x.2.2.2.2.2.2.2.1 x.2.2.2.2.2.2.2.2.1 x.2.2.2.2.2.2.2.2.2.1, (fun (c0_0 : Bool) (c0_1 : Int) (c0_2 : Int) (w1 : List TQuestion) (w2k : List ByteArray) (w2v : List Int) (w3k : List ByteArray) (w3v : List (List Int)) (w4k : List ByteArray) (w4v : List Bool) => (((drO (OS.mk c0_0 c0_1 c0_2 w1 w2k w2v w3k w3v w4k w4v)).o.t) : List (List Int))) x.1 x.2.1 x.2.2.1 x.2.2.2.1 x.2.2.2.2.1 x.2.2.2.2.2.1 x.2.2.2.2.2.2.1 x.2.2.2.2.2.2.2.1 x.2.2.2.2.2.2.2.2.1 x.2.2.2.2.2.2.2.2.2.1, (fun (c0_0 : Bool) (c0_1 : Int) (c0_2 : Int) (w1 : List TQuestion) (w2k : List ByteArray) (w2v : List Int) (w3k : List ByteArray) (w3v : List (List Int)) (w4k : List ByteArray) (w4v : List Bool) => (((drO (OS.mk c0_0 c0_1 c0_2 w1 w2k w2v w3k w3v w4k w4v)).o.x) : List ByteArray)) x.1 x.2.1 x.2.2.1 x.2.2.2.1 x.2.2.2.2.1 x.2.2.2.2.2.1 x.2.2.2.2.2.2.1 x.2.2.2.2.2.2.2.1 x.2.2.2.2.2.2.2.2.1 x.2.2.2.2.2.2.2.2.2.1, (fun (c0_0 : Bool) (c0_1 : Int) (c0_2 : Int) (w1 : List TQuestion) (w2k : List ByteArray) (w2v : List Int) (w3k : List ByteArray) (w3v : List (List Int)) (w4k : List ByteArray) (w4v : List Bool) => (((drO (OS.mk c0_0 c0_1 c0_2 w1 w2k w2v w3k w3v w4k w4v)).o.y) : List Bool)) x.1 x.2.1 x.2.2.1 x.2.2.2.1 x.2.2.2.2.1 x.2.2.2.2.2.1 x.2.2.2.2.2.2.1 x.2.2.2.2.2.2.2.1 x.2.2.2.2.2.2.2.2.1 x.2.2.2.2.2.2.2.2.2.1, ())
theorem k142 : krf.Ok Try.prog TB := Con.ok_tot k2x bd40 fun x => k11f (k10j x.1 x.2.1 x.2.2.1 x.2.2.2.1 x.2.2.2.2.1 x.2.2.2.2.2.1 x.2.2.2.2.2.2.1 x.2.2.2.2.2.2.2.1 x.2.2.2.2.2.2.2.2.1 x.2.2.2.2.2.2.2.2.2.1)
end Go.Proofs.Ytponaobpcdkggaa
namespace Go.Proofs.Ytponaobpcdkggaa
open Go Go.Bv Go.Cv Go.Md Go.RowKit
def k2c : Con TB.den := Con.mk0 41 [.one (.ptr 0 0), .one (.d (.str)), .one (.d (.int .u64)), .one (.d (.sl (.int .u64))), .one (.d (.int .u64))] [.cells [.d (.bool), .d (.int .u64), .d (.int .i64), .own 1, .mp 2, .mp 3, .mp 4], .tip (.st 1), .map (.str) (.int .i64), .map (.str) (.sl (.int .u64)), .map (.str) (.bool)] (.tup []) [.cells [.d (.bool), .d (.int .u64), .d (.int .i64), .own 1, .mp 2, .mp 3, .mp 4], .tip (.st 1), .map (.str) (.int .i64), .map (.str) (.sl (.int .u64)), .map (.str) (.bool)]
abbrev krc := HL TB.den (hsT k2c.ins (hsOs k2c.pre))
abbrev ke5 := HL TB.den (hsV k2c.res (hsOs k2c.post))
noncomputable def k9p : Cx TB := ⟨inf, [kkg], [], 4, []⟩
noncomputable def kgi : Code := Try.f41.body.getD .skip
noncomputable def khq : List ResultVar := Try.f41.results.toList
noncomputable def kqj (o : ke5) : An TB := .no
noncomputable def kgg (x : krc) (o : ke5) : Prop := WPh TB k9p 43 5 kgi (kqj o) (k2c.st TB x) (retTQ TB k9p k2c khq o)
set_option maxRecDepth 100000 in
theorem kzh (o : ke5) : OblH TB k9p 43 5 kgi (kqj o) (retTQ TB k9p k2c khq o) :=
  OblH.of_eq (X := ((True ∧ (True ∧ True)) ∧ (True ∧ True))) (by kernel_rfl) ⟨⟨trivial, ⟨trivial, trivial⟩⟩, ⟨trivial, trivial⟩⟩
set_option maxRecDepth 100000 in
theorem kzf {x : krc} {o : ke5} (h : kgg x o) : SoundH Try.prog k2c.f ((k2c.args idf x).map (er TB)) ((k2c.obs idf x).map (erO TB)) (er TB (k2c.val idf o)) ((k2c.ops idf o).map (erO TB)) :=
  Con.soundH (c := k2c) (C := k9p) TBok ⟨inf_ok, (all_cons ktg all_nil), all_nil⟩ mix Try.func41 (show Try.f41.body = some kgi by kernel_rfl) (show Try.f41.ntmps = 43 by kernel_rfl) (show Try.f41.results.toList = khq by kernel_rfl) rfl h (kzh o)
set_option maxRecDepth 100000 in
theorem kzr {p1 : ByteArray} {p2 : Int} {p3 : List Int} {p4 : Int} {c0_0 : Bool} {c0_1 : Int} {c0_2 : Int} {w1 : List TQuestion} {w2k : List ByteArray} {w2v : List Int} {w3k : List ByteArray} {w3v : List (List Int)} {w4k : List ByteArray} {w4v : List Bool} {d0_0 : Bool} {d0_1 : Int} {d0_2 : Int} {e1 : List TQuestion} {e2k : List ByteArray} {e2v : List Int} {e3k : List ByteArray} {e3v : List (List Int)} {e4k : List ByteArray} {e4v : List Bool} (h :
(w2k.length = w2v.length ∧ let v1 : List ByteArray := mPutK (BEq.beq p1) w2k p1
 let v2 : List Int := mPutV (BEq.beq p1) w2k w2v (w1.length : Int)
(p3.length ≤ 1000000000) ∧ w1.length = w1.length ∧ (w1.length + [TQuestion.mk p2 p3 p4].length) * 40 ≤ 140737488355328 ∧ w1.length + [TQuestion.mk p2 p3 p4].length ≤ maxLen ∧ (w1 ++ [TQuestion.mk p2 p3 p4] = w1 ++ [TQuestion.mk p2 p3 p4]) ∧ c0_0 = d0_0 ∧ c0_1 = d0_1 ∧ c0_2 = d0_2 ∧ w1 ++ [TQuestion.mk p2 p3 p4] = e1 ∧ v1 = e2k ∧ v2 = e2v ∧ w3k = e3k ∧ w3v = e3v ∧ w4k = e4k ∧ w4v = e4v)) : kgg (p1, p2, p3, p4, c0_0, c0_1, c0_2, w1, w2k, w2v, w3k, w3v, w4k, w4v, ()) (d0_0, d0_1, d0_2, e1, e2k, e2v, e3k, e3v, e4k, e4v, ()) := WPh.of_eq (by kernel_rfl) h
theorem bd41 : Callable Try.prog 41 := ⟨by rw [Try.func41]; kernel_rfl, by rw [Try.func41]; show some _ ≠ some _; decide⟩
theorem kxi (p1 : ByteArray) (p2 : Int) (p3 : List Int) (p4 : Int) (c0_0 : Bool) (c0_1 : Int) (c0_2 : Int) (w1 : List TQuestion) (w2k : List ByteArray) (w2v : List Int) (w3k : List ByteArray) (w3v : List (List Int)) (w4k : List ByteArray) (w4v : List Bool) (h : w2k.length = w2v.length ∧ w1.length ≤ 1000000 ∧ p3.length ≤ 1000000000) : kgg (p1, p2, p3, p4, c0_0, c0_1, c0_2, w1, w2k, w2v, w3k, w3v, w4k, w4v, ()) ((((recO (OS.mk c0_0 c0_1 c0_2 w1 w2k w2v w3k w3v w4k w4v) p1 p2 p3 p4).a) : Bool), (((recO (OS.mk c0_0 c0_1 c0_2 w1 w2k w2v w3k w3v w4k w4v) p1 p2 p3 p4).b) : Int), (((recO (OS.mk c0_0 c0_1 c0_2 w1 w2k w2v w3k w3v w4k w4v) p1 p2 p3 p4).c) : Int), (((recO (OS.mk c0_0 c0_1 c0_2 w1 w2k w2v w3k w3v w4k w4v) p1 p2 p3 p4).q) : List TQuestion), (((recO (OS.mk c0_0 c0_1 c0_2 w1 w2k w2v w3k w3v w4k w4v) p1 p2 p3 p4).k) : List ByteArray), (((recO (OS.mk c0_0 c0_1 c0_2 w1 w2k w2v w3k w3v w4k w4v) p1 p2 p3 p4).v) : List Int), (((recO (OS.mk c0_0 c0_1 c0_2 w1 w2k w2v w3k w3v w4k w4v) p1 p2 p3 p4).s) : List ByteArray), (((recO (OS.mk c0_0 c0_1 c0_2 w1 w2k w2v w3k w3v w4k w4v) p1 p2 p3 p4).t) : List (List Int)), (((recO (OS.mk c0_0 c0_1 c0_2 w1 w2k w2v w3k w3v w4k w4v) p1 p2 p3 p4).x) : List ByteArray), (((recO (OS.mk c0_0 c0_1 c0_2 w1 w2k w2v w3k w3v w4k w4v) p1 p2 p3 p4).y) : List Bool), ()) := by
  obtain ⟨h1, h2, h3⟩ := h
  exact kzr ⟨h1, h3, rfl, by simp; omega, by simp; unfold maxLen; omega, rfl, rfl, rfl, rfl, rfl, rfl, rfl, rfl, rfl, rfl, rfl⟩
noncomputable def koq : Con TB.den := k2c.fnR (fun x => (fun (p1 : ByteArray) (p2 : Int) (p3 : List Int) (p4 : Int) (c0_0 : Bool) (c0_1 : Int) (c0_2 : Int) (w1 : List TQuestion) (w2k : List ByteArray) (w2v : List Int) (w3k : List ByteArray) (w3v : List (List Int)) (w4k : List ByteArray) (w4v : List Bool) => w2k.length = w2v.length ∧ w1.length ≤ 1000000 ∧ p3.length ≤ 1000000000) x.1 x.2.1 x.2.2.1 x.2.2.2.1 x.2.2.2.2.1 x.2.2.2.2.2.1 x.2.2.2.2.2.2.1 x.2.2.2.2.2.2.2.1 x.2.2.2.2.2.2.2.2.1 x.2.2.2.2.2.2.2.2.2.1 x.2.2.2.2.2.2.2.2.2.2.1 x.2.2.2.2.2.2.2.2.2.2.2.1 x.2.2.2.2.2.2.2.2.2.2.2.2.1 x.2.2.2.2.2.2.2.2.2.2.2.2.2.1) fun x => ((fun (p1 : ByteArray) (p2 : Int) (p3 : List Int) (p4 : Int) (c0_0 : Bool) (c0_1 : Int) (c0_2 : Int) (w1 : List TQuestion) (w2k : List ByteArray) (w2v : List Int) (w3k : List ByteArray) (w3v : List (List Int)) (w4k : List ByteArray) (w4v : List Bool) => (((recO (OS.mk c0_0 c0_1 c0_2 w1 w2k w2v w3k w3v w4k w4v) p1 p2 p3 p4).a) : Bool)) x.1 x.2.1 x.2.2.1 x.2.2.2.1 x.2.2.2.2.1 x.2.2.2.2.2.1 x.2.2.2.2.2.2.1 x.2.2.2.2.2.2.2.1 x.2.2.2.2.2.2.2.2.1 x.2.2.2.2.2.2.2.2.2.1 x.2.2.2.2.2.2.2.2.2.2.1 x.2.2.2.2.2.2.2.2.2.2.2.1 x.2.2.2.2.2.2.2.2.2.2.2.2.1 x.2.2.2.2.2.2.2.2.2.2.2.2.2.1, (fun (p1 : ByteArray) (p2 : Int) (p3 : List Int) (p4 : Int) (c0_0 : Bool) (c0_1 : Int) (c0_2 : Int) (w1 : List TQuestion) (w2k : List ByteArray) (w2v : List Int) (w3k : List ByteArray) (w3v : List (List Int)) (w4k : List ByteArray) (w4v : List Bool) => (((recO (OS.mk c0_0 c0_1 c0_2 w1 w2k w2v w3k w3v w4k w4v) p1 p2 p3 p4).b) : Int)) x.1 x.2.1 x.2.2.1 x.2.2.2.1 x.2.2.2.2.1 x.2.2.2.2.2.1 x.2.2.2.2.2.2.1 x.2.2.2.2.2.2.2.1 x.2.2.2.2.2.2.2.2.1 x.2.2.2.2.2.2.2.2.2.1 x.2.2.2.2.2.2.2.2.2.2.1 x.2.2.2.2.2.2.2.2.2.2.2.1 x.2.2.2.2.2.2.2.2.2.2.2.2.1 x.2.2.2.2.2.2.2.2.2.2.2.2.2.1, (fun (p1 : ByteArray) (p2 : Int) (p3 : List Int) (p4 : Int) (c0_0 : Bool) (c0_1 : Int) (c0_2 : Int) (w1 : List TQuestion) (w2k : List ByteArray) (w2v : List Int) (w3k : List ByteArray) (w3v : List (List Int)) (w4k : List ByteArray) (w4v : List Bool) => (((recO (OS.mk c0_0 c0_1 c0_2 w1 w2k w2v w3k w3v w4k w4v) p1 p2 p3 p4).c) : Int)) x.1 x.2.1 x.2.2.1 x.2.2.2.1 x.2.2.2.2.1 x.2.2.2.2.2.1 x.2.2.2.2.2.2.1 x.2.2.2.2.2.2.2.1 x.2.2.2.2.2.2.2.2.1 x.2.2.2.2.2.2.2.2.2.1 x.2.2.2.2.2.2.2.2.2.2.1 x.2.2.2.2.2.2.2.2.2.2.2.1 x.2.2.2.2.2.2.2.2.2.2.2.2.1 x.2.2.2.2.2.2.2.2.2.2.2.2.2.1, (fun (p1 : ByteArray) (p2 : Int) (p3 : List Int) (p4 : Int) (c0_0 : Bool) (c0_1 : Int) (c0_2 : Int) (w1 : List TQuestion) (w2k : List ByteArray) (w2v : List Int) (w3k : List ByteArray) (w3v : List (List Int)) (w4k : List ByteArray) (w4v : List Bool) => (((recO (OS.mk c0_0 c0_1 c0_2 w1 w2k w2v w3k w3v w4k w4v) p1 p2 p3 p4).q) : List TQuestion)) x.1 x.2.1 x.2.2.1 x.2.2.2.1 x.2.2.2.2.1 x.2.2.2.2.2.1 x.2.2.2.2.2.2.1 x.2.2.2.2.2.2.2.1 x.2.2.2.2.2.2.2.2.1 x.2.2.2.2.2.2.2.2.2.1 x.2.2.2.2.2.2.2.2.2.2.1 x.2.2.2.2.2.2.2.2.2.2.2.1 x.2.2.2.2.2.2.2.2.2.2.2.2.1 x.2.2.2.2.2.2.2.2.2.2.2.2.2.1, (fun (p1 : ByteArray) (p2 : Int) (p3 : List Int) (p4 : Int) (c0_0 : Bool) (c0_1 : Int) (c0_2 : Int) (w1 : List TQuestion) (w2k : List ByteArray) (w2v : List Int) (w3k : List ByteArray) (w3v : List (List Int)) (w4k : List ByteArray) (w4v : List Bool) => (((recO (OS.mk c0_0 c0_1 c0_2 w1 w2k w2v w3k w3v w4k w4v) p1 p2 p3 p4).k) : List ByteArray)) x.1 x.2.1 x.2.2.1 x.2.2.2.1 x.2.2.2.2.1 x.2.2.2.2.2.1 x.2.2.2.2.2.2.1 x.2.2.2.2.2.2.2.1 x.2.2.2.2.2.2.2.2.1 x.2.2.2.2.2.2.2.2.2.1 x.2.2.2.2.2.2.2.2.2.2.1 x.2.2.2.2.2.2.2.2.2.2.2.1 x.2.2.2.2.2.2.2.2.2.2.2.2.1 x.2.2.2.2.2.2.2.2.2.2.2.2.2.1, (fun (p1 : ByteArray) (p2 : Int) (p3 : List Int) (p4 : Int) (c0_0 : Bool) (c0_1 : Int) (c0_2 : Int) (w1 : List TQuestion) (w2k : List ByteArray) (w2v : List Int) (w3k : List ByteArray) (w3v : List (List Int)) (w4k : List ByteArray) (w4v : List Bool) => (((recO (OS.mk c0_0 c0_1 c0_2 w1 w2k w2v w3k w3v w4k w4v) p1 p2 p3 p4).v) : List Int)) x.1 x.2.1 x.2.2.1 x.2.2.2.1 x.2.2.2.2.1 x.2.2.2.2.2.1 x.2.2.2.2.2.2.1 x.2.2.2.2.2.2.2.1 x.2.2.2.2.2.2.2.2.1 x.2.2.2.2.2.2.2.2.2.1 x.2.2.2.2.2.2.2.2.2.2.1 x.2.2.2.2.2.2.2.2.2.2.2.1 x.2.2.2.2.2.2.2.2.2.2.2.2.1 x.2.2.2.2.2.2.2.2.2.2.2.2.2.1, (fun (p1 : ByteArray) (p2 : Int) (p3 : List Int) (p4 : Int) (c0_0 : Bool) (c0_1 : Int) (c0_2 : Int) (w1 : List TQuestion) (w2k : List ByteArray) (w2v : List Int) (w3k : List ByteArray) (w3v : List (List Int)) (w4k : List ByteArray) (w4v : List Bool) => (((recO (OS.mk c0_0 c0_1 c0_2 w1 w2k w2v w3k w3v w4k w4v) p1 p2 p3 p4).s) : List ByteArray)) x.1 x.2.1 x.2.2.1 x.2.2.2.1 x.2.2.2.2.1 x.2.2.2.2.2.1 x.2.2.2.2.2.2.1 x.2.2.2.2.2.2.2.1 x.2.2.2.2.2.2.2.2.1 x.2.2.2.2.2.2.2.2.2.1 x.2.2.2.2.2.2.2.2.2.2.1 x.2.2.2.2.2.2.2.2.2.2.2.1 x.2.2.2.2.2.2.2.2.2.2.2.2.1 x.2.2.2.2.2.2.2.2.2.2.2.2.2.1, (fun (p1 : ByteArray) (p2 : Int) (p3 : List Int) (p4 : Int) (c0_0 : Bool) (c0_1 : Int) (c0_2 : Int) (w1 : List TQuestion) (w2k : List ByteArray) (w2v : List Int) (w3k : List ByteArray) (w3v : List (List Int)) (w4k : List ByteArray) (w4v : List Bool) => (((recO (OS.mk c0_0 c0_1 c0_2 w1 w2k w2v w3k w3v w4k w4v) p1 p2 p3 p4).t) : List (List Int))) x.1 x.2.1 x.2.2.1 x.2.2.2.1 x.2.2.2.2.1 x.2.2.2.2.2.1 x.2.2.2.2.2.2.1 x.2.2.2.2.2.2.2.1 x.2.2.2.2.2.2.2.2.1 x.2.2.2.2.2.2.2.2.2.1 x.2.2.2.2.2.2.2.2.2.2.1 x.2.2.2.2.2.2.2.2.2.2.2.1 x.2.2.2.2.2.2.2.2.2.2.2.2.1 x.2.2.2.2.2.2.2.2.2.2.2.2.2.1, (fun (p1 : ByteArray) (p2 : Int) (p3 : List Int) (p4 : Int) (c0_0 : Bool) (c0_1 : Int) (c0_2 : Int) (w1 : List TQuestion) (w2k : List ByteArray) (w2v : List Int) (w3k : List ByteArray) (w3v : List (List Int)) (w4k : List ByteArray) (w4v : List Bool) => (((recO (OS.mk c0_0 c0_1 c0_2 w1 w2k w2v w3k w3v w4k w4v) p1 p2 p3 p4).x) : List ByteArray)) x.1 x.2.1 x.2.2.1 x.2.2.2.1 x.2.2.2.2.1 x.2.2.2.2.2.1 x.2.2.2.2.2.2.1 x.2.2.2.2.2.2.2.1 x.2.2.2.2.2.2.2.2.1 x.2.2.2.2.2.2.2.2.2.1 x.2.2.2.2.2.2.2.2.2.2.1 x.2.2.2.2.2.2.2.2.2.2.2.1 x.2.2.2.2.2.2.2.2.2.2.2.2.1 x.2.2.2.2.2.2.2.2.2.2.2.2.2.1, (fun (p1 : ByteArray) (p2 : Int) (p3 : List Int) (p4 : Int) (c0_0 : Bool) (c0_1 : Int) (c0_2 : Int) (w1 : List TQuestion) (w2k : List ByteArray) (w2v : List Int) (w3k : List ByteArray) (w3v : List (List Int)) (w4k : List ByteArray) (w4v : List Bool) => (((recO (OS.mk c0_0 c0_1 c0_2 w1 w2k w2v w3k w3v w4k w4v) p1 p2 p3 p4).y) : List Bool)) x.1 x.2.1 x.2.2.1 x.2.2.2.1 x.2.2.2.2.1 x.2.2.2.2.2.1 x.2.2.2.2.2.2.1 x.2.2.2.2.2.2.2.1 x.2.2.2.2.2.2.2.2.1 x.2.2.2.2.2.2.2.2.2.1 x.2.2.2.2.2.2.2.2.2.2.1 x.2.2.2.2.2.2.2.2.2.2.2.1 x.2.2.2.2.2.2.2.2.2.2.2.2.1 x.2.2.2.2.2.2.2.2.2.2.2.2.2.1, ())
theorem kzw : koq.Ok Try.prog TB := Con.ok_fn k2c bd41 fun x h => kzf (kxi x.1 x.2.1 x.2.2.1 x.2.2.2.1 x.2.2.2.2.1 x.2.2.2.2.2.1 x.2.2.2.2.2.2.1 x.2.2.2.2.2.2.2.1 x.2.2.2.2.2.2.2.2.1 x.2.2.2.2.2.2.2.2.2.1 x.2.2.2.2.2.2.2.2.2.2.1 x.2.2.2.2.2.2.2.2.2.2.2.1 x.2.2.2.2.2.2.2.2.2.2.2.2.1 x.2.2.2.2.2.2.2.2.2.2.2.2.2.1 h)
end Go.Proofs.Ytponaobpcdkggaa
namespace Go.Proofs.Ytponaobpcdkggaa
open Go Go.Bv Go.Cv Go.Md Go.RowKit
def k24 : Con TB.den := Con.mk0 33 [.one (.d (.sl (.int .u64)))] [] (.one (.one (.d (.bool)))) []
abbrev krh := HL TB.den (hsT k24.ins (hsOs k24.pre))
abbrev k6f := HL TB.den (hsV k24.res (hsOs k24.post))
noncomputable def k5f : Cx TB := ⟨inf, [], [], 4, []⟩
noncomputable def k8k : Code := Try.f33.body.getD .skip
noncomputable def ka2 : List ResultVar := Try.f33.results.toList
noncomputable def k109 (o : k6f) : Exit → TSt TB.den → Prop := thenT TB (fun s => ghs TB [] s fun s => WP TB k5f 14 0 (cB (cB k8k)) .no s (retTQ TB k5f k24 ka2 o)) (retTQ TB k5f k24 ka2 o)
def k73 : Tm := ⟨[], [], [5, 6, 7], [.one (.d (.sl (.int .u64))), .one (.d (.int .i64)), .one (.d (.int .i64))], 0⟩
noncomputable def k10e (o : k6f) (nx1 : HL TB.den k73.hs → Prop) : Exit → TSt TB.den → Prop := thenT TB (fun s => k73.mat TB 0 s nx1) (blockT TB 0 (k109 o))
noncomputable def k9s (o : k6f) (nx1 : HL TB.den k73.hs → Prop) (i : HL TB.den k73.hs) : Prop := WP TB k5f 14 0 (cA (cA (cB (cA (cB k8k))))) .no (k73.fill TB i) (k10e o nx1)
noncomputable def k10p (o : k6f) : An TB := .lp [] k73 (k9s o) fun nx1 => .no
noncomputable def kqm (o : k6f) : An TB := .nd [] .no [] (.nd [] (.nd [] .no [] (k10p o)) [] .no)
noncomputable def kgj (x : krh) (o : k6f) : Prop := WPh TB k5f 14 0 k8k (kqm o) (k24.st TB x) (retTQ TB k5f k24 ka2 o)
set_option maxRecDepth 100000 in
theorem kz4 (o : k6f) : OblH TB k5f 14 0 k8k (kqm o) (retTQ TB k5f k24 ka2 o) :=
  OblH.of_eq (X := (True ∧ ((True ∧ ((∀ nx i, (k9s o) nx i = (k9s o) nx i) ∧ ∀ nx1 : HL TB.den k73.hs → Prop, (True ∧ ((True ∧ True) ∧ ((True ∧ (True ∧ ((True ∧ True) ∧ True))) ∧ True))))) ∧ (True ∧ True)))) (by kernel_rfl) ⟨trivial, ⟨⟨trivial, ⟨fun _ _ => rfl, fun _ => ⟨trivial, ⟨⟨trivial, trivial⟩, ⟨⟨trivial, ⟨trivial, ⟨⟨trivial, trivial⟩, trivial⟩⟩⟩, trivial⟩⟩⟩⟩⟩, ⟨trivial, trivial⟩⟩⟩
set_option maxRecDepth 100000 in
theorem kz3 {x : krh} {o : k6f} (h : kgj x o) : SoundH Try.prog k24.f ((k24.args idf x).map (er TB)) ((k24.obs idf x).map (erO TB)) (er TB (k24.val idf o)) ((k24.ops idf o).map (erO TB)) :=
  Con.soundH (c := k24) (C := k5f) TBok ⟨inf_ok, all_nil, all_nil⟩ mix Try.func33 (show Try.f33.body = some k8k by kernel_rfl) (show Try.f33.ntmps = 14 by kernel_rfl) (show Try.f33.results.toList = ka2 by kernel_rfl) rfl h (kz4 o)
set_option maxRecDepth 100000 in
theorem k10l {p0 : List Int} {r0 : Bool} (h :
(Md.Loop (p0, ((p0.length : Int) : Int), (0 : Int), ()) (k9s (r0, ())))) : kgj (p0, ()) (r0, ()) := WPh.of_eq (by kernel_rfl) h
def kqd (r0 : Bool) (k1 : Int → Prop) (s5 : List Int) (s6 : Int) (s7 : Int) : Prop :=
(decide (s7 < s6) = true →
(0 ≤ s7) ∧ s7 < (s5.length : Int) ∧ let v1 : Bool := decide (18446744069414584321 ≤ (ix s5 s7))
(v1 = true →
 false = r0) ∧
(v1 = false →
 k1 (IntKind.i64.wrap (s7 + 1) : Int))) ∧
(decide (s7 < s6) = false →
 true = r0)
set_option maxRecDepth 100000 in
theorem kzb {r0 : Bool} {s5 : List Int} {s6 : Int} {s7 : Int} (inv : Int → Prop) (μ : Int → Nat) (h0 : inv s7) (hs : ∀ (s7 : Int), inv s7 → kqd r0 (fun s7q => inv s7q ∧ μ s7q < μ s7) s5 s6 s7) : Md.Loop (s5, s6, s7, ()) (k9s (r0, ())) :=
  ⟨⟨fun s : (List Int) × Int × Int × Unit => (s.1 = s5 ∧ s.2.1 = s6) ∧ inv s.2.2.1, fun s : (List Int) × Int × Int × Unit => μ s.2.2.1, ⟨⟨rfl, rfl⟩, h0⟩, fun (s5p, s6p, s7p, ()) ⟨⟨eq0, eq1⟩, hi⟩ => by
    have eq0 : s5p = s5 := eq0; subst s5p; have eq1 : s6p = s6 := eq1; subst s6p; exact mpr_of (by kernel_rfl) ((congrArg (fun k => kqd r0 k s5 s6 s7p) (lpk1 (⟨rfl, rfl⟩ : s5 = s5 ∧ s6 = s6) inv (fun s7q => μ s7q < μ s7p))).mpr (hs s7p hi))⟩⟩
theorem bd33 : Callable Try.prog 33 := ⟨by rw [Try.func33]; kernel_rfl, by rw [Try.func33]; show some _ ≠ some _; decide⟩
theorem kxa (p0 : List Int) (h : p0.length ≤ 9223372036854775807) : kgj (p0, ()) (((allB p0) : Bool), ()) := by
  refine k10l (kzb (AllI (fun x => decide (x < 18446744069414584321)) p0) (fun i => (p0.length - i).toNat) AllI.start ?_)
  intro i hi
  refine ⟨fun hh => ?_, fun hh => (hi.done (of_decide_eq_false hh)).symm⟩
  have hh := of_decide_eq_true hh
  exact ⟨hi.1, hh, fun e => (hi.bad hh (by simpa using e)).symm, fun e => hi.next hh (by omega) (by simpa using e)⟩
noncomputable def kot : Con TB.den := k24.fnR (fun x => (fun (p0 : List Int) => p0.length ≤ 9223372036854775807) x.1) fun x => ((fun (p0 : List Int) => ((allB p0) : Bool)) x.1, ())
theorem k10a : kot.Ok Try.prog TB := Con.ok_fn k24 bd33 fun x h => kz3 (kxa x.1 h)
end Go.Proofs.Ytponaobpcdkggaa
namespace Go.Proofs.Ytponaobpcdkggaa
open Go Go.Bv Go.Cv Go.Md Go.RowKit
def k1j : Con TB.den := Con.mk0 43 [.one (.own 0), .one (.d (.int .u64))] [.tip (.int .u8)] (.one (.one (.own 0))) [.tip (.int .u8)]
abbrev kmh := HL TB.den (hsT k1j.ins (hsOs k1j.pre))
abbrev k50 := HL TB.den (hsV k1j.res (hsOs k1j.post))
noncomputable def k3v : Cx TB := ⟨inf, [], [], 4, []⟩
noncomputable def k6t : Code := Try.f43.body.getD .skip
noncomputable def k7l : List ResultVar := Try.f43.results.toList
noncomputable def kvj (o : k50) : Exit → TSt TB.den → Prop := thenT TB (fun s => ghs TB [] s fun s => WP TB k3v 16 1 (cB (cB k6t)) .no s (retTQ TB k3v k1j k7l o)) (retTQ TB k3v k1j k7l o)
def k5g : Tm := ⟨[0], [.tip (.int .u8)], [0, 1, 5], [.one (.own 0), .one (.d (.int .u64)), .one (.d (.int .i64))], 1⟩
noncomputable def kvt (o : k50) (nx1 : HL TB.den k5g.hs → Prop) : Exit → TSt TB.den → Prop := thenT TB (fun s => k5g.mat TB 1 s nx1) (blockT TB 0 (kvj o))
noncomputable def k7j (o : k50) (nx1 : HL TB.den k5g.hs → Prop) (i : HL TB.den k5g.hs) : Prop := WP TB k3v 16 1 (cA (cA (cB (cA (cB k6t))))) .no (k5g.fill TB i) (kvt o nx1)
noncomputable def kw1 (o : k50) : An TB := .lp [] k5g (k7j o) fun nx1 => .no
noncomputable def klc (o : k50) : An TB := .nd [] .no [] (.nd [] (.nd [] .no [] (kw1 o)) [] .no)
noncomputable def kc9 (x : kmh) (o : k50) : Prop := WPh TB k3v 16 1 k6t (klc o) (k1j.st TB x) (retTQ TB k3v k1j k7l o)
set_option maxRecDepth 100000 in
theorem ku9 (o : k50) : OblH TB k3v 16 1 k6t (klc o) (retTQ TB k3v k1j k7l o) :=
  OblH.of_eq (X := (True ∧ ((True ∧ ((∀ nx i, (k7j o) nx i = (k7j o) nx i) ∧ ∀ nx1 : HL TB.den k5g.hs → Prop, (True ∧ ((True ∧ True) ∧ ((True ∧ True) ∧ True))))) ∧ (True ∧ True)))) (by kernel_rfl) ⟨trivial, ⟨⟨trivial, ⟨fun _ _ => rfl, fun _ => ⟨trivial, ⟨⟨trivial, trivial⟩, ⟨⟨trivial, trivial⟩, trivial⟩⟩⟩⟩⟩, ⟨trivial, trivial⟩⟩⟩
set_option maxRecDepth 100000 in
theorem ku1 {x : kmh} {o : k50} (h : kc9 x o) : SoundH Try.prog k1j.f ((k1j.args idf x).map (er TB)) ((k1j.obs idf x).map (erO TB)) (er TB (k1j.val idf o)) ((k1j.ops idf o).map (erO TB)) :=
  Con.soundH (c := k1j) (C := k3v) TBok ⟨inf_ok, all_nil, all_nil⟩ mix Try.func43 (show Try.f43.body = some k6t by kernel_rfl) (show Try.f43.ntmps = 16 by kernel_rfl) (show Try.f43.results.toList = k7l by kernel_rfl) rfl h (ku9 o)
set_option maxRecDepth 100000 in
theorem kvk {p1 : Int} {w0 : List Int} {e0 : List Int} (h :
((w0 = w0) ∧ Md.Loop (p1, (0 : Int), w0, ()) (k7j (e0, ())))) : kc9 (p1, w0, ()) (e0, ()) := WPh.of_eq (by kernel_rfl) h
def kkx (e0 : List Int) (k1 : Int → Int → List Int → Prop) (s1 : Int) (s5 : Int) (g0 : List Int) : Prop :=
(decide (s5 < 8) = true →
 g0.length = g0.length ∧ (g0.length + [IntKind.u8.wrap s1].length) * 1 ≤ 140737488355328 ∧ g0.length + [IntKind.u8.wrap s1].length ≤ maxLen ∧ (g0 ++ [IntKind.u8.wrap s1] = g0 ++ [IntKind.u8.wrap s1]) ∧ k1 (ishr .u64 s1 8 : Int) (IntKind.i64.wrap (s5 + 1) : Int) (g0 ++ [IntKind.u8.wrap s1] : List Int)) ∧
(decide (s5 < 8) = false →
(g0 = g0) ∧ g0 = e0)
set_option maxRecDepth 100000 in
theorem ktv {e0 : List Int} {s1 : Int} {s5 : Int} {g0 : List Int} (inv : Int → Int → List Int → Prop) (μ : Int → Int → List Int → Nat) (h0 : inv s1 s5 g0) (hs : ∀ (s1 : Int) (s5 : Int) (g0 : List Int), inv s1 s5 g0 → kkx e0 (fun s1q s5q g0q => inv s1q s5q g0q ∧ μ s1q s5q g0q < μ s1 s5 g0) s1 s5 g0) : Md.Loop (s1, s5, g0, ()) (k7j (e0, ())) :=
  ⟨⟨fun s : Int × Int × (List Int) × Unit => (True) ∧ inv s.1 s.2.1 s.2.2.1, fun s : Int × Int × (List Int) × Unit => μ s.1 s.2.1 s.2.2.1, ⟨trivial, h0⟩, fun (s1p, s5p, g0p, ()) ⟨_, hi⟩ => by
    exact mpr_of (by kernel_rfl) ((congrArg (fun k => kkx e0 k s1p s5p g0p) (lpk3 (trivial : True) inv (fun s1q s5q g0q => μ s1q s5q g0q < μ s1p s5p g0p))).mpr (hs s1p s5p g0p hi))⟩⟩
theorem bd43 : Callable Try.prog 43 := ⟨by rw [Try.func43]; kernel_rfl, by rw [Try.func43]; show some _ ≠ some _; decide⟩
theorem kto (p1 : Int) (w0 : List Int) (h : U64 p1 ∧ w0.length ≤ 137438953472) : kc9 (p1, w0, ()) (((w0 ++ dig 8 p1) : List Int), ()) := by
  obtain ⟨h1, h2⟩ := h
  refine kvk ⟨rfl, ktv (fun n i g => 0 ≤ i ∧ i ≤ 8 ∧ U64 n ∧ n = p1 / 256 ^ i.toNat ∧ g = w0 ++ dig i.toNat p1) (fun _ i _ => (8 - i).toNat) ⟨by omega, by omega, h1, by simp, by simp [dig]⟩ ?_⟩
  rintro n i g ⟨g0, g1, g2, g3, rfl⟩
  refine ⟨fun h => ?_, fun h => ?_⟩
  · have h := of_decide_eq_true h
    rw [inc i 8 g0 h (by omega), ishr8, u8w]
    refine ⟨rfl, ?_, ?_, rfl, ⟨by omega, by omega, ⟨by omega, by omega⟩, ?_, ?_⟩, by omega⟩
    · simp; omega
    · simp; unfold maxLen; omega
    · rw [g3, show (i + 1).toNat = i.toNat + 1 by omega, Int.ediv_ediv_of_nonneg (Int.le_of_lt (k1ew _)), Int.pow_succ]
    · rw [show (i + 1).toNat = i.toNat + 1 by omega, k1bc, List.append_assoc, g3]
  · have h := of_decide_eq_false h
    exact ⟨rfl, by rw [show i = 8 by omega]; rfl⟩
noncomputable def kjt : Con TB.den := k1j.fnR (fun x => (fun (p1 : Int) (w0 : List Int) => U64 p1 ∧ w0.length ≤ 137438953472) x.1 x.2.1) fun x => ((fun (p1 : Int) (w0 : List Int) => ((w0 ++ dig 8 p1) : List Int)) x.1 x.2.1, ())
theorem kvz : kjt.Ok Try.prog TB := Con.ok_fn k1j bd43 fun x h => ku1 (kto x.1 x.2.1 h)
end Go.Proofs.Ytponaobpcdkggaa
namespace Go.Proofs.Ytponaobpcdkggaa
open Go Go.Bv Go.Cv Go.Md Go.RowKit
def k2t : Con TB.den := Con.mk0 34 [.one (.d (.sl (.int .u64))), .one (.d (.sl (.int .u64)))] [] (.one (.one (.d (.str)))) []
abbrev k110 := HL TB.den (hsT k2t.ins (hsOs k2t.pre))
abbrev k5q := HL TB.den (hsV k2t.res (hsOs k2t.post))
noncomputable def k58 : Cx TB := ⟨inf, [kjt], [], 4, []⟩
noncomputable def k8n : Code := Try.f34.body.getD .skip
noncomputable def kao : List ResultVar := Try.f34.results.toList
noncomputable def k19q (o : k5q) : Exit → TSt TB.den → Prop := thenT TB (fun s => ghs TB [] s fun s => WP TB k58 39 0 (cB (cB (cB (cB k8n)))) .no s (retTQ TB k58 k2t kao o)) (retTQ TB k58 k2t kao o)
def kau : Tm := ⟨[1], [.tip (.int .u8)], [5, 27, 28, 29], [.one (.own 0), .one (.d (.sl (.int .u64))), .one (.d (.int .i64)), .one (.d (.int .i64))], 2⟩
noncomputable def k192 (o : k5q) (nx2 : HL TB.den kau.hs → Prop) : Exit → TSt TB.den → Prop := thenT TB (fun s => kau.mat TB 0 s nx2) (blockT TB 2 (k19q o))
noncomputable def kgr (o : k5q) (nx2 : HL TB.den kau.hs → Prop) (i : HL TB.den kau.hs) : Prop := WP TB k58 39 0 (cA (cA (cB (cA (cB (cB (cB k8n))))))) .no (kau.fill TB i) (k192 o nx2)
noncomputable def kyu (o : k5q) : An TB := .nd [] .no [] (.lp [] kau (kgr o) fun nx2 => .no)
noncomputable def k19r (o : k5q) : Exit → TSt TB.den → Prop := thenT TB (fun s => ghs TB [] s fun s => WP TB k58 39 0 (cB (cB (cB k8n))) (.nd [] (kyu o) [] .no) s (retTQ TB k58 k2t kao o)) (retTQ TB k58 k2t kao o)
def kat : Tm := ⟨[1], [.tip (.int .u8)], [0, 5, 17, 18, 19], [.one (.d (.sl (.int .u64))), .one (.own 0), .one (.d (.sl (.int .u64))), .one (.d (.int .i64)), .one (.d (.int .i64))], 2⟩
noncomputable def k1ac (o : k5q) (nx1 : HL TB.den kat.hs → Prop) : Exit → TSt TB.den → Prop := thenT TB (fun s => kat.mat TB 0 s nx1) (blockT TB 0 (k19r o))
noncomputable def kgu (o : k5q) (nx1 : HL TB.den kat.hs → Prop) (i : HL TB.den kat.hs) : Prop := WP TB k58 39 0 (cA (cA (cB (cA (cB (cB k8n)))))) .no (kat.fill TB i) (k1ac o nx1)
noncomputable def k171 (o : k5q) : An TB := .lp [.frz 0 [5]] kat (kgu o) fun nx1 => .no
noncomputable def k16p (o : k5q) : An TB := .nd [] (.nd [] .no [] (k171 o)) [] (.nd [] (kyu o) [] .no)
noncomputable def ky7 (o : k5q) : An TB := .nd [] .no [] (.nd [] .no [] (k16p o))
noncomputable def knt (x : k110) (o : k5q) : Prop := WPh TB k58 39 0 k8n (ky7 o) (k2t.st TB x) (retTQ TB k58 k2t kao o)
set_option maxRecDepth 100000 in
theorem k17i (o : k5q) : OblH TB k58 39 0 k8n (ky7 o) (retTQ TB k58 k2t kao o) :=
  OblH.of_eq (X := (True ∧ (True ∧ ((True ∧ ((∀ nx i, (kgu o) nx i = (kgu o) nx i) ∧ ∀ nx1 : HL TB.den kat.hs → Prop, (True ∧ ((True ∧ True) ∧ ((True ∧ True) ∧ True))))) ∧ ((True ∧ ((∀ nx i, (kgr o) nx i = (kgr o) nx i) ∧ ∀ nx2 : HL TB.den kau.hs → Prop, (True ∧ ((True ∧ True) ∧ ((True ∧ True) ∧ True))))) ∧ (True ∧ True)))))) (by kernel_rfl) ⟨trivial, ⟨trivial, ⟨⟨trivial, ⟨fun _ _ => rfl, fun _ => ⟨trivial, ⟨⟨trivial, trivial⟩, ⟨⟨trivial, trivial⟩, trivial⟩⟩⟩⟩⟩, ⟨⟨trivial, ⟨fun _ _ => rfl, fun _ => ⟨trivial, ⟨⟨trivial, trivial⟩, ⟨⟨trivial, trivial⟩, trivial⟩⟩⟩⟩⟩, ⟨trivial, trivial⟩⟩⟩⟩⟩
set_option maxRecDepth 100000 in
theorem k16x {x : k110} {o : k5q} (h : knt x o) : SoundH Try.prog k2t.f ((k2t.args idf x).map (er TB)) ((k2t.obs idf x).map (erO TB)) (er TB (k2t.val idf o)) ((k2t.ops idf o).map (erO TB)) :=
  Con.soundH (c := k2t) (C := k58) TBok ⟨inf_ok, (all_cons kvz all_nil), all_nil⟩ mix Try.func34 (show Try.f34.body = some k8n by kernel_rfl) (show Try.f34.ntmps = 39 by kernel_rfl) (show Try.f34.results.toList = kao by kernel_rfl) rfl h (k17i o)
set_option maxRecDepth 100000 in
theorem k19t {p0 : List Int} {p1 : List Int} {r0 : ByteArray} (h :
(let v1 : Int := IntKind.i64.wrap ((p1.length : Int) + (p0.length : Int))
 0 ≤ (0 : Int) ∧ (0 : Int) ≤ IntKind.i64.wrap (8 * v1) ∧ ((IntKind.i64.wrap (8 * v1)).toNat * 1 ≤ 140737488355328) ∧ ((IntKind.i64.wrap (8 * v1)).toNat ≤ maxLen) ∧ (0 = (List.replicate 0 (0 : Int)).length) ∧ (List.replicate 0 (0 : Int) = List.replicate 0 (0 : Int)) ∧ Md.Loop (p0, p1, ((p1.length : Int) : Int), (0 : Int), (List.replicate 0 (0 : Int) : List Int), ()) (kgu (r0, ())))) : knt (p0, p1, ()) (r0, ()) := WPh.of_eq (by kernel_rfl) h
def kys (r0 : ByteArray) (k1 : Int → List Int → Prop) (s0 : List Int) (s17 : List Int) (s18 : Int) (s19 : Int) (g1 : List Int) : Prop :=
(decide (s19 < s18) = true →
(0 ≤ s19) ∧ s19 < (s17.length : Int) ∧ (g1 = g1) ∧ (U64 (ix s17 s19) ∧ g1.length ≤ 137438953472) ∧ ((g1 ++ dig 8 (ix s17 s19)) = (g1 ++ dig 8 (ix s17 s19))) ∧ k1 (IntKind.i64.wrap (s19 + 1) : Int) ((g1 ++ dig 8 (ix s17 s19)) : List Int)) ∧
(decide (s19 < s18) = false →
(g1 = g1) ∧ Md.Loop (s0, ((s0.length : Int) : Int), (0 : Int), g1, ()) (kgr (r0, ())))
set_option maxRecDepth 100000 in
theorem k16n {r0 : ByteArray} {s0 : List Int} {s17 : List Int} {s18 : Int} {s19 : Int} {g1 : List Int} (inv : Int → List Int → Prop) (μ : Int → List Int → Nat) (h0 : inv s19 g1) (hs : ∀ (s19 : Int) (g1 : List Int), inv s19 g1 → kys r0 (fun s19q g1q => inv s19q g1q ∧ μ s19q g1q < μ s19 g1) s0 s17 s18 s19 g1) : Md.Loop (s0, s17, s18, s19, g1, ()) (kgu (r0, ())) :=
  ⟨⟨fun s : (List Int) × (List Int) × Int × Int × (List Int) × Unit => (s.1 = s0 ∧ s.2.1 = s17 ∧ s.2.2.1 = s18) ∧ inv s.2.2.2.1 s.2.2.2.2.1, fun s : (List Int) × (List Int) × Int × Int × (List Int) × Unit => μ s.2.2.2.1 s.2.2.2.2.1, ⟨⟨rfl, rfl, rfl⟩, h0⟩, fun (s0p, s17p, s18p, s19p, g1p, ()) ⟨⟨eq0, eq1, eq2⟩, hi⟩ => by
    have eq0 : s0p = s0 := eq0; subst s0p; have eq1 : s17p = s17 := eq1; subst s17p; have eq2 : s18p = s18 := eq2; subst s18p; exact mpr_of (by kernel_rfl) ((congrArg (fun k => kys r0 k s0 s17 s18 s19p g1p) (lpk2 (⟨rfl, rfl, rfl⟩ : s0 = s0 ∧ s17 = s17 ∧ s18 = s18) inv (fun s19q g1q => μ s19q g1q < μ s19p g1p))).mpr (hs s19p g1p hi))⟩⟩
def kyy (r0 : ByteArray) (k2 : Int → List Int → Prop) (s27 : List Int) (s28 : Int) (s29 : Int) (g1 : List Int) : Prop :=
(decide (s29 < s28) = true →
(0 ≤ s29) ∧ s29 < (s27.length : Int) ∧ (g1 = g1) ∧ (U64 (ix s27 s29) ∧ g1.length ≤ 137438953472) ∧ ((g1 ++ dig 8 (ix s27 s29)) = (g1 ++ dig 8 (ix s27 s29))) ∧ k2 (IntKind.i64.wrap (s29 + 1) : Int) ((g1 ++ dig 8 (ix s27 s29)) : List Int)) ∧
(decide (s29 < s28) = false →
 strOfNums g1 = r0)
set_option maxRecDepth 100000 in
theorem k173 {r0 : ByteArray} {s27 : List Int} {s28 : Int} {s29 : Int} {g1 : List Int} (inv : Int → List Int → Prop) (μ : Int → List Int → Nat) (h0 : inv s29 g1) (hs : ∀ (s29 : Int) (g1 : List Int), inv s29 g1 → kyy r0 (fun s29q g1q => inv s29q g1q ∧ μ s29q g1q < μ s29 g1) s27 s28 s29 g1) : Md.Loop (s27, s28, s29, g1, ()) (kgr (r0, ())) :=
  ⟨⟨fun s : (List Int) × Int × Int × (List Int) × Unit => (s.1 = s27 ∧ s.2.1 = s28) ∧ inv s.2.2.1 s.2.2.2.1, fun s : (List Int) × Int × Int × (List Int) × Unit => μ s.2.2.1 s.2.2.2.1, ⟨⟨rfl, rfl⟩, h0⟩, fun (s27p, s28p, s29p, g1p, ()) ⟨⟨eq0, eq1⟩, hi⟩ => by
    have eq0 : s27p = s27 := eq0; subst s27p; have eq1 : s28p = s28 := eq1; subst s28p; exact mpr_of (by kernel_rfl) ((congrArg (fun k => kyy r0 k s27 s28 s29p g1p) (lpk2 (⟨rfl, rfl⟩ : s27 = s27 ∧ s28 = s28) inv (fun s29q g1q => μ s29q g1q < μ s29p g1p))).mpr (hs s29p g1p hi))⟩⟩
theorem bd34 : Callable Try.prog 34 := ⟨by rw [Try.func34]; kernel_rfl, by rw [Try.func34]; show some _ ≠ some _; decide⟩
theorem k14y (p0 : List Int) (p1 : List Int) (h : Us p0 ∧ Us p1 ∧ p0.length ≤ 1073741824 ∧ p1.length ≤ 1073741824) : knt (p0, p1, ()) (((keyB p1 p0) : ByteArray), ()) := by
  obtain ⟨h0, h1, h2, h3⟩ := h
  refine k19t ?_
  rw [wi ((p1.length : Int) + p0.length) (by omega) (by omega)]
  simp only []
  rw [wi (8 * ((p1.length : Int) + p0.length)) (by omega) (by omega)]
  refine ⟨by omega, by omega, by omega, by unfold maxLen; omega, by trivial, by trivial, ?_⟩
  refine k16n (fun i g => FlatI (dig 8) [] p1 i g) (fun i _ => (p1.length - i).toNat) FlatI.start ?_
  intro i g hg
  have hl := hg.len 8 (fun x _ => by simp)
  refine ⟨fun hh => ?_, fun hh => ?_⟩
  · have hh := of_decide_eq_true hh
    exact ⟨hg.1, hh, rfl, ⟨h1 _ (ix_mem p1 i hg.1 hh), by simp at hl; omega⟩, by trivial, hg.next hh (by omega) rfl⟩
  · have hh := of_decide_eq_false hh
    have e := hg.done hh
    refine ⟨rfl, k173 (fun j g => FlatI (dig 8) (p1.flatMap (dig 8)) p0 j g) (fun j _ => (p0.length - j).toNat) (by rw [e]; exact FlatI.start) ?_⟩
    intro j g2 hg2
    have hl2 := hg2.len 8 (fun x _ => by simp)
    have hl3 := k116 p1
    refine ⟨fun hh2 => ?_, fun hh2 => ?_⟩
    · have hh2 := of_decide_eq_true hh2
      exact ⟨hg2.1, hh2, rfl, ⟨h0 _ (ix_mem p0 j hg2.1 hh2), by omega⟩, by trivial, hg2.next hh2 (by omega) rfl⟩
    · rw [hg2.done (of_decide_eq_false hh2)]; rfl
noncomputable def kwk : Con TB.den := k2t.fnR (fun x => (fun (p0 : List Int) (p1 : List Int) => Us p0 ∧ Us p1 ∧ p0.length ≤ 1073741824 ∧ p1.length ≤ 1073741824) x.1 x.2.1) fun x => ((fun (p0 : List Int) (p1 : List Int) => ((keyB p1 p0) : ByteArray)) x.1 x.2.1, ())
theorem k19d : kwk.Ok Try.prog TB := Con.ok_fn k2t bd34 fun x h => k16x (k14y x.1 x.2.1 h)
end Go.Proofs.Ytponaobpcdkggaa
namespace Go.Proofs.Ytponaobpcdkggaa
open Go Go.Bv Go.Cv Go.Md Go.RowKit
def k3q : Con TB.den := Con.mk0 44 [.agg [.d (.int .u64)]] [] (.one (.one (.d (.bool)))) []
abbrev kyb := HL TB.den (hsT k3q.ins (hsOs k3q.pre))
abbrev klm := HL TB.den (hsV k3q.res (hsOs k3q.post))
noncomputable def kfp : Cx TB := ⟨inf, [], [], 4, []⟩
noncomputable def km4 : Code := Try.f44.body.getD .skip
noncomputable def kps : List ResultVar := Try.f44.results.toList
noncomputable def kx3 (o : klm) : An TB := .no
noncomputable def km0 (x : kyb) (o : klm) : Prop := WPh TB kfp 13 0 km4 (kx3 o) (k3q.st TB x) (retTQ TB kfp k3q kps o)
set_option maxRecDepth 100000 in
theorem k16f (o : klm) : OblH TB kfp 13 0 km4 (kx3 o) (retTQ TB kfp k3q kps o) :=
  OblH.of_eq (X := (True ∧ ((True ∧ ((True ∧ (True ∧ (True ∧ (True ∧ (True ∧ (True ∧ (True ∧ (True ∧ (True ∧ (True ∧ (True ∧ (True ∧ True)))))))))))) ∧ ((True ∧ True) ∧ True))) ∧ (True ∧ True)))) (by kernel_rfl) ⟨trivial, ⟨⟨trivial, ⟨⟨trivial, ⟨trivial, ⟨trivial, ⟨trivial, ⟨trivial, ⟨trivial, ⟨trivial, ⟨trivial, ⟨trivial, ⟨trivial, ⟨trivial, ⟨trivial, trivial⟩⟩⟩⟩⟩⟩⟩⟩⟩⟩⟩⟩, ⟨⟨trivial, trivial⟩, trivial⟩⟩⟩, ⟨trivial, trivial⟩⟩⟩
set_option maxRecDepth 100000 in
theorem k166 {x : kyb} {o : klm} (h : km0 x o) : SoundH Try.prog k3q.f ((k3q.args idf x).map (er TB)) ((k3q.obs idf x).map (erO TB)) (er TB (k3q.val idf o)) ((k3q.ops idf o).map (erO TB)) :=
  Con.soundH (c := k3q) (C := kfp) TBok ⟨inf_ok, all_nil, all_nil⟩ mix Try.func44 (show Try.f44.body = some km4 by kernel_rfl) (show Try.f44.ntmps = 13 by kernel_rfl) (show Try.f44.results.toList = kps by kernel_rfl) rfl h (k16f o)
set_option maxRecDepth 100000 in
theorem k16o {p0 : TField} {r0 : Bool} (h :
(((p0.P == 18446744069414584321) = true →
((p0.P == 18446744069414584321) = true →
 true = r0) ∧
((p0.P == 18446744069414584321) = false →
 false = r0)) ∧
((p0.P == 18446744069414584321) = false →
((p0.P == 17) = true →
((p0.P == 17) = true →
 true = r0) ∧
((p0.P == 17) = false →
 false = r0)) ∧
((p0.P == 17) = false →
((p0.P == 97) = true →
((p0.P == 97) = true →
 true = r0) ∧
((p0.P == 97) = false →
 false = r0)) ∧
((p0.P == 97) = false →
((p0.P == 193) = true →
((p0.P == 193) = true →
 true = r0) ∧
((p0.P == 193) = false →
 false = r0)) ∧
((p0.P == 193) = false →
((p0.P == 257) = true →
((p0.P == 257) = true →
 true = r0) ∧
((p0.P == 257) = false →
 false = r0)) ∧
((p0.P == 257) = false →
((p0.P == 12289) = true →
((p0.P == 12289) = true →
 true = r0) ∧
((p0.P == 12289) = false →
 false = r0)) ∧
((p0.P == 12289) = false →
((p0.P == 65537) = true →
 true = r0) ∧
((p0.P == 65537) = false →
 false = r0))))))))) : km0 (p0.P, ()) (r0, ()) := WPh.of_eq (by kernel_rfl) h
theorem bd44 : Callable Try.prog 44 := ⟨by rw [Try.func44]; kernel_rfl, by rw [Try.func44]; show some _ ≠ some _; decide⟩
theorem k145 (p0 : TField) (h : p0.P = 18446744069414584321) : km0 (p0.P, ()) ((true : Bool), ()) := by
  refine k16o ?_
  simp [h]
noncomputable def k8y : Con TB.den := k3q.fnR (fun x => (fun (p0 : TField) => p0.P = 18446744069414584321) (TField.mk x.1)) fun x => ((fun (p0 : TField) => (true : Bool)) (TField.mk x.1), ())
theorem kbr : k8y.Ok Try.prog TB := Con.ok_fn k3q bd44 fun x h => k166 (k145 (TField.mk x.1) h)
end Go.Proofs.Ytponaobpcdkggaa
namespace Go.Proofs.Ytponaobpcdkggaa
open Go Go.Bv Go.Cv Go.Md Go.RowKit
def k40 : Con TB.den := Con.mk0 72 [.agg [.d (.int .u64)], .one (.d (.int .u64)), .one (.d (.int .u64))] [] (.one (.one (.d (.int .u64)))) []
abbrev k12f := HL TB.den (hsT k40.ins (hsOs k40.pre))
abbrev kbi := HL TB.den (hsV k40.res (hsOs k40.post))
noncomputable def k8s : Cx TB := ⟨inf, [], [x87], 4, []⟩
noncomputable def kem : Code := Try.f72.body.getD .skip
noncomputable def kj1 : List ResultVar := Try.f72.results.toList
noncomputable def k1az (o : kbi) : Exit → TSt TB.den → Prop := thenT TB (fun s => ghs TB [] s fun s => WP TB k8s 28 0 (cB (cB (cB kem))) .no s (retTQ TB k8s k40 kj1 o)) (retTQ TB k8s k40 kj1 o)
def klr : Tm := ⟨[0], [.cells [.d (.int .u64)]], [3, 7, 22], [.one (.ptr 0 0), .one (.d (.int .u64)), .one (.d (.bool))], 1⟩
noncomputable def kyx (o : kbi) (i : HL TB.den klr.hs) : Prop := ghs TB [] (klr.fill TB i) fun s => WP TB k8s 28 0 (cB (cA (cB (cB kem)))) .no s (k1az o)
structure kiu (o : kbi) (i : HL TB.den klr.hs) : Prop where
  h : kyx o i
noncomputable def k1cm (o : kbi) : An TB := .nd [] (.jn klr (kiu o) [] .no [] .no) [] .no
noncomputable def kzt (o : kbi) : An TB := .nd [] .no [] (.nd [] .no [] (k1cm o))
noncomputable def koz (x : k12f) (o : kbi) : Prop := WPh TB k8s 28 0 kem (kzt o) (k40.st TB x) (retTQ TB k8s k40 kj1 o)
set_option maxRecDepth 100000 in
theorem k197 (o : kbi) : OblH TB k8s 28 0 kem (kzt o) (retTQ TB k8s k40 kj1 o) :=
  OblH.of_eq (X := (True ∧ (True ∧ ((True ∧ (∀ i, (kiu o) i = (kyx o) i) ∧ (True ∧ True)) ∧ (True ∧ True))))) (by kernel_rfl) ⟨trivial, ⟨trivial, ⟨⟨trivial, fun _ => propext ⟨fun h => h.1, fun h => ⟨h⟩⟩, ⟨trivial, trivial⟩⟩, ⟨trivial, trivial⟩⟩⟩⟩
set_option maxRecDepth 100000 in
theorem k19b {x : k12f} {o : kbi} (h : koz x o) : SoundH Try.prog k40.f ((k40.args idf x).map (er TB)) ((k40.obs idf x).map (erO TB)) (er TB (k40.val idf o)) ((k40.ops idf o).map (erO TB)) :=
  Con.soundH (c := k40) (C := k8s) TBok ⟨inf_ok, all_nil, (all_cons x87_ok all_nil)⟩ mix Try.func72 (show Try.f72.body = some kem by kernel_rfl) (show Try.f72.ntmps = 28 by kernel_rfl) (show Try.f72.results.toList = kj1 by kernel_rfl) rfl h (k197 o)
set_option maxRecDepth 100000 in
theorem k1aq {p0 : TField} {p1 : Int} {p2 : Int} {r0 : Int} (h :
((0 ≤ p1 ∧ 0 ≤ p2 ∧ 0 ≤ (0 : Int) ∧ (0 : Int) ≤ 1) ∧ let r1 : Int := (p1 + p2 + (0 : Int)) % 18446744073709551616
 let r2 : Int := (p1 + p2 + (0 : Int)) / 18446744073709551616
((r2 != 0) = true →
 kiu (r0, ()) (r1, true, p0.P, ())) ∧
((r2 != 0) = false →
 kiu (r0, ()) (r1, (decide (p0.P ≤ r1) : Bool), p0.P, ())))) : koz (p0.P, p1, p2, ()) (r0, ()) := WPh.of_eq (by kernel_rfl) h
set_option maxRecDepth 100000 in
theorem kuh {r0 : Int} {s7 : Int} {s22 : Bool} {h0_0 : Int} (h :
((s22 = true →
 IntKind.u64.wrap (s7 - h0_0) = r0) ∧
(s22 = false →
 s7 = r0))) : kiu (r0, ()) (s7, s22, h0_0, ()) := ⟨mpr_of (by kernel_rfl) h⟩
theorem bd72 : Callable Try.prog 72 := ⟨by rw [Try.func72]; kernel_rfl, by rw [Try.func72]; show some _ ≠ some _; decide⟩
theorem k174 (p0 : TField) (p1 : Int) (p2 : Int) (h : p0.P = 18446744069414584321 ∧ (0 ≤ p1 ∧ p1 < 18446744069414584321) ∧ (0 ≤ p2 ∧ p2 < 18446744069414584321)) : koz (p0.P, p1, p2, ()) ((((p1 + p2) % 18446744069414584321) : Int), ()) := by
  obtain ⟨hP, h1, h2⟩ := h
  refine k1aq ⟨by omega, ?_, ?_⟩
  · intro h
    refine kuh ⟨fun _ => ?_, fun h => by simp at h⟩
    have h : (p1 + p2 + 0) / 18446744073709551616 ≠ 0 := by simpa using h
    rw [hP, u64w]; omega
  · intro h
    have h : (p1 + p2 + 0) / 18446744073709551616 = 0 := by simpa using h
    refine kuh ⟨fun g => ?_, fun g => ?_⟩
    · have g := of_decide_eq_true g
      rw [hP] at g ⊢
      rw [u64w]; omega
    · have g := of_decide_eq_false g
      rw [hP] at g
      omega
noncomputable def ky1 : Con TB.den := k40.fnR (fun x => (fun (p0 : TField) (p1 : Int) (p2 : Int) => p0.P = 18446744069414584321 ∧ (0 ≤ p1 ∧ p1 < 18446744069414584321) ∧ (0 ≤ p2 ∧ p2 < 18446744069414584321)) (TField.mk x.1) x.2.1 x.2.2.1) fun x => ((fun (p0 : TField) (p1 : Int) (p2 : Int) => (((p1 + p2) % 18446744069414584321) : Int)) (TField.mk x.1) x.2.1 x.2.2.1, ())
theorem k1bw : ky1.Ok Try.prog TB := Con.ok_fn k40 bd72 fun x h => k19b (k174 (TField.mk x.1) x.2.1 x.2.2.1 h)
end Go.Proofs.Ytponaobpcdkggaa
namespace Go.Proofs.Ytponaobpcdkggaa
open Go Go.Bv Go.Cv Go.Md Go.RowKit
def k2v : Con TB.den := Con.mk0 73 [.agg [.d (.int .u64)], .one (.d (.int .u64))] [] (.one (.one (.d (.int .u64)))) []
abbrev kv4 := HL TB.den (hsT k2v.ins (hsOs k2v.pre))
abbrev khg := HL TB.den (hsV k2v.res (hsOs k2v.post))
noncomputable def kcb : Cx TB := ⟨inf, [], [], 4, []⟩
noncomputable def kif : Code := Try.f73.body.getD .skip
noncomputable def kls : List ResultVar := Try.f73.results.toList
noncomputable def ksf (o : khg) : An TB := .no
noncomputable def ki2 (x : kv4) (o : khg) : Prop := WPh TB kcb 14 0 kif (ksf o) (k2v.st TB x) (retTQ TB kcb k2v kls o)
set_option maxRecDepth 100000 in
theorem k11x (o : khg) : OblH TB kcb 14 0 kif (ksf o) (retTQ TB kcb k2v kls o) :=
  OblH.of_eq (X := (True ∧ ((True ∧ (True ∧ True)) ∧ (True ∧ True)))) (by kernel_rfl) ⟨trivial, ⟨⟨trivial, ⟨trivial, trivial⟩⟩, ⟨trivial, trivial⟩⟩⟩
set_option maxRecDepth 100000 in
theorem k11c {x : kv4} {o : khg} (h : ki2 x o) : SoundH Try.prog k2v.f ((k2v.args idf x).map (er TB)) ((k2v.obs idf x).map (erO TB)) (er TB (k2v.val idf o)) ((k2v.ops idf o).map (erO TB)) :=
  Con.soundH (c := k2v) (C := kcb) TBok ⟨inf_ok, all_nil, all_nil⟩ mix Try.func73 (show Try.f73.body = some kif by kernel_rfl) (show Try.f73.ntmps = 14 by kernel_rfl) (show Try.f73.results.toList = kls by kernel_rfl) rfl h (k11x o)
set_option maxRecDepth 100000 in
theorem k143 {p0 : TField} {p1 : Int} {r0 : Int} (h :
((decide (p0.P ≤ p1) = true →
(p0.P ≠ 0) ∧ Int.tmod p1 p0.P = r0) ∧
(decide (p0.P ≤ p1) = false →
 p1 = r0))) : ki2 (p0.P, p1, ()) (r0, ()) := WPh.of_eq (by kernel_rfl) h
theorem bd73 : Callable Try.prog 73 := ⟨by rw [Try.func73]; kernel_rfl, by rw [Try.func73]; show some _ ≠ some _; decide⟩
theorem k10c (p0 : TField) (p1 : Int) (h : 0 < p0.P ∧ 0 ≤ p1) : ki2 (p0.P, p1, ()) (((p1 % p0.P) : Int), ()) := by
  refine k143 ⟨fun h1 => ⟨by omega, tmod_nn _ _ h.2⟩, fun h1 => ?_⟩
  simp at h1
  rw [Int.emod_eq_of_lt (by omega) (by omega)]
noncomputable def kb8 : Con TB.den := k2v.fnR (fun x => (fun (p0 : TField) (p1 : Int) => 0 < p0.P ∧ 0 ≤ p1) (TField.mk x.1) x.2.1) fun x => ((fun (p0 : TField) (p1 : Int) => ((p1 % p0.P) : Int)) (TField.mk x.1) x.2.1, ())
theorem kgh : kb8.Ok Try.prog TB := Con.ok_fn k2v bd73 fun x h => k11c (k10c (TField.mk x.1) x.2.1 h)
end Go.Proofs.Ytponaobpcdkggaa
namespace Go.Proofs.Ytponaobpcdkggaa
open Go Go.Bv Go.Cv Go.Md Go.RowKit
def k4y : Con TB.den := Con.mk0 52 [.agg [.d (.int .u64)], .one (.d (.int .u64)), .one (.d (.int .u64))] [] (.one (.one (.d (.int .u64)))) []
abbrev k12t := HL TB.den (hsT k4y.ins (hsOs k4y.pre))
abbrev kq0 := HL TB.den (hsV k4y.res (hsOs k4y.post))
noncomputable def kiy : Cx TB := ⟨inf, [k8y, kb8, ky1], [], 4, []⟩
noncomputable def kpk : Code := Try.f52.body.getD .skip
noncomputable def ks9 : List ResultVar := Try.f52.results.toList
noncomputable def k119 (o : kq0) : An TB := .no
noncomputable def kpj (x : k12t) (o : kq0) : Prop := WPh TB kiy 18 0 kpk (k119 o) (k4y.st TB x) (retTQ TB kiy k4y ks9 o)
set_option maxRecDepth 100000 in
theorem k193 (o : kq0) : OblH TB kiy 18 0 kpk (k119 o) (retTQ TB kiy k4y ks9 o) :=
  OblH.of_eq (X := (True ∧ ((True ∧ ((True ∧ True) ∧ True)) ∧ (True ∧ True)))) (by kernel_rfl) ⟨trivial, ⟨⟨trivial, ⟨⟨trivial, trivial⟩, trivial⟩⟩, ⟨trivial, trivial⟩⟩⟩
set_option maxRecDepth 100000 in
theorem k19e {x : k12t} {o : kq0} (h : kpj x o) : SoundH Try.prog k4y.f ((k4y.args idf x).map (er TB)) ((k4y.obs idf x).map (erO TB)) (er TB (k4y.val idf o)) ((k4y.ops idf o).map (erO TB)) :=
  Con.soundH (c := k4y) (C := kiy) TBok ⟨inf_ok, (all_cons kbr (all_cons kgh (all_cons k1bw all_nil))), all_nil⟩ mix Try.func52 (show Try.f52.body = some kpk by kernel_rfl) (show Try.f52.ntmps = 18 by kernel_rfl) (show Try.f52.results.toList = ks9 by kernel_rfl) rfl h (k193 o)
set_option maxRecDepth 100000 in
theorem k1c9 {p0 : TField} {p1 : Int} {p2 : Int} {r0 : Int} (h :
((p0.P = 18446744069414584321) ∧ ((!true) = true →
 0 = r0) ∧
((!true) = false →
(0 < p0.P ∧ 0 ≤ p1) ∧ (0 < p0.P ∧ 0 ≤ p2) ∧ (p0.P = 18446744069414584321 ∧ (0 ≤ (p1 % p0.P) ∧ (p1 % p0.P) < 18446744069414584321) ∧ (0 ≤ (p2 % p0.P) ∧ (p2 % p0.P) < 18446744069414584321)) ∧ let r1 : Int := (((p1 % p0.P) + (p2 % p0.P)) % 18446744069414584321)
 r1 = r0))) : kpj (p0.P, p1, p2, ()) (r0, ()) := WPh.of_eq (by kernel_rfl) h
theorem bd52 : Callable Try.prog 52 := ⟨by rw [Try.func52]; kernel_rfl, by rw [Try.func52]; show some _ ≠ some _; decide⟩
theorem k16m (p0 : TField) (p1 : Int) (p2 : Int) (h : p0.P = 18446744069414584321 ∧ U64 p1 ∧ U64 p2) : kpj (p0.P, p1, p2, ()) ((((p1 + p2) % 18446744069414584321) : Int), ()) := by
  obtain ⟨hP, h1, h2⟩ := h
  refine k1c9 ⟨hP, ?_⟩
  simp only [hP]
  refine ⟨fun h => by simp at h, fun _ => ⟨by omega, by omega, ⟨by trivial, by omega, by omega⟩, ?_⟩⟩
  omega
noncomputable def klo : Con TB.den := k4y.fnR (fun x => (fun (p0 : TField) (p1 : Int) (p2 : Int) => p0.P = 18446744069414584321 ∧ U64 p1 ∧ U64 p2) (TField.mk x.1) x.2.1 x.2.2.1) fun x => ((fun (p0 : TField) (p1 : Int) (p2 : Int) => (((p1 + p2) % 18446744069414584321) : Int)) (TField.mk x.1) x.2.1 x.2.2.1, ())
theorem ksk : klo.Ok Try.prog TB := Con.ok_fn k4y bd52 fun x h => k19e (k16m (TField.mk x.1) x.2.1 x.2.2.1 h)
end Go.Proofs.Ytponaobpcdkggaa
namespace Go.Proofs.Ytponaobpcdkggaa
open Go Go.Bv Go.Cv Go.Md Go.RowKit
def k38 : Con TB.den := Con.mk0 65 [.one (.d (.int .u64))] [] (.one (.one (.d (.int .i64)))) []
abbrev k118 := HL TB.den (hsT k38.ins (hsOs k38.pre))
abbrev k6d := HL TB.den (hsV k38.res (hsOs k38.post))
noncomputable def k6c : Cx TB := ⟨inf, [], [], 4, []⟩
noncomputable def kad : Code := Try.f65.body.getD .skip
noncomputable def kcx : List ResultVar := Try.f65.results.toList
def kek : Tm := ⟨[], [], [0, 2], [.one (.d (.int .u64)), .one (.d (.int .i64))], 0⟩
noncomputable def kwj (o : k6d) (i : HL TB.den kek.hs) : Prop := ghs TB [] (kek.fill TB i) fun s => WP TB k6c 25 0 (cB (cB (cB (cB kad)))) .no s (retTQ TB k6c k38 kcx o)
structure kam (o : k6d) (i : HL TB.den kek.hs) : Prop where
  h : kwj o i
def kjf : Tm := ⟨[], [], [0, 2], [.one (.d (.int .u64)), .one (.d (.int .i64))], 0⟩
noncomputable def kwb (o : k6d) (i : HL TB.den kjf.hs) : Prop := ghs TB [] (kjf.fill TB i) fun s => WP TB k6c 25 0 (cB (cB (cB kad))) (.jn kek (kam o) [] .no [] .no) s (retTQ TB k6c k38 kcx o)
structure kcw (o : k6d) (i : HL TB.den kjf.hs) : Prop where
  h : kwb o i
noncomputable def kyp (o : k6d) : An TB := .jn kjf (kcw o) [] .no [] (.jn kek (kam o) [] .no [] .no)
def kjb : Tm := ⟨[], [], [0, 2], [.one (.d (.int .u64)), .one (.d (.int .i64))], 0⟩
noncomputable def kwe (o : k6d) (i : HL TB.den kjb.hs) : Prop := ghs TB [] (kjb.fill TB i) fun s => WP TB k6c 25 0 (cB (cB kad)) (kyp o) s (retTQ TB k6c k38 kcx o)
structure kcz (o : k6d) (i : HL TB.den kjb.hs) : Prop where
  h : kwe o i
noncomputable def k19y (o : k6d) : An TB := .jn kjb (kcz o) [] .no [] (kyp o)
noncomputable def kyd (o : k6d) : An TB := .nd [] .no [] (k19y o)
noncomputable def knq (x : k118) (o : k6d) : Prop := WPh TB k6c 25 0 kad (kyd o) (k38.st TB x) (retTQ TB k6c k38 kcx o)
set_option maxRecDepth 100000 in
theorem k176 (o : k6d) : OblH TB k6c 25 0 kad (kyd o) (retTQ TB k6c k38 kcx o) :=
  OblH.of_eq (X := (True ∧ ((True ∧ ((True ∧ True) ∧ True)) ∧ (∀ i, (kcz o) i = (kwe o) i) ∧ ((True ∧ ((True ∧ True) ∧ True)) ∧ (∀ i, (kcw o) i = (kwb o) i) ∧ ((True ∧ ((True ∧ True) ∧ True)) ∧ (∀ i, (kam o) i = (kwj o) i) ∧ (True ∧ True)))))) (by kernel_rfl) ⟨trivial, ⟨⟨trivial, ⟨⟨trivial, trivial⟩, trivial⟩⟩, fun _ => propext ⟨fun h => h.1, fun h => ⟨h⟩⟩, ⟨⟨trivial, ⟨⟨trivial, trivial⟩, trivial⟩⟩, fun _ => propext ⟨fun h => h.1, fun h => ⟨h⟩⟩, ⟨⟨trivial, ⟨⟨trivial, trivial⟩, trivial⟩⟩, fun _ => propext ⟨fun h => h.1, fun h => ⟨h⟩⟩, ⟨trivial, trivial⟩⟩⟩⟩⟩
set_option maxRecDepth 100000 in
theorem k17l {x : k118} {o : k6d} (h : knq x o) : SoundH Try.prog k38.f ((k38.args idf x).map (er TB)) ((k38.obs idf x).map (erO TB)) (er TB (k38.val idf o)) ((k38.ops idf o).map (erO TB)) :=
  Con.soundH (c := k38) (C := k6c) TBok ⟨inf_ok, all_nil, all_nil⟩ mix Try.func65 (show Try.f65.body = some kad by kernel_rfl) (show Try.f65.ntmps = 25 by kernel_rfl) (show Try.f65.results.toList = kcx by kernel_rfl) rfl h (k176 o)
set_option maxRecDepth 100000 in
theorem k1a9 {p0 : Int} {r0 : Int} (h :
((decide (4294967296 ≤ p0) = true →
 kcz (r0, ()) ((ishr .u64 p0 32 : Int), (32 : Int), ())) ∧
(decide (4294967296 ≤ p0) = false →
 kcz (r0, ()) (p0, (0 : Int), ())))) : knq (p0, ()) (r0, ()) := WPh.of_eq (by kernel_rfl) h
set_option maxRecDepth 100000 in
theorem k138 {r0 : Int} {s0 : Int} {s2 : Int} (h :
((decide (65536 ≤ s0) = true →
 kcw (r0, ()) ((ishr .u64 s0 16 : Int), (IntKind.i64.wrap (s2 + 16) : Int), ())) ∧
(decide (65536 ≤ s0) = false →
 kcw (r0, ()) (s0, s2, ())))) : kcz (r0, ()) (s0, s2, ()) := ⟨mpr_of (by kernel_rfl) h⟩
set_option maxRecDepth 100000 in
theorem k13h {r0 : Int} {s0 : Int} {s2 : Int} (h :
((decide (256 ≤ s0) = true →
 kam (r0, ()) ((ishr .u64 s0 8 : Int), (IntKind.i64.wrap (s2 + 8) : Int), ())) ∧
(decide (256 ≤ s0) = false →
 kam (r0, ()) (s0, s2, ())))) : kcw (r0, ()) (s0, s2, ()) := ⟨mpr_of (by kernel_rfl) h⟩
set_option maxRecDepth 100000 in
theorem k13z {r0 : Int} {s0 : Int} {s2 : Int} (h :
((0 ≤ IntKind.u8.wrap s0 ∧ IntKind.u8.wrap s0 < ((⟨#[0, 1, 2, 2, 3, 3, 3, 3, 4, 4, 4, 4, 4, 4, 4, 4, 5, 5, 5, 5, 5, 5, 5, 5, 5, 5, 5, 5, 5, 5, 5, 5, 6, 6, 6, 6, 6, 6, 6, 6, 6, 6, 6, 6, 6, 6, 6, 6, 6, 6, 6, 6, 6, 6, 6, 6, 6, 6, 6, 6, 6, 6, 6, 6, 7, 7, 7, 7, 7, 7, 7, 7, 7, 7, 7, 7, 7, 7, 7, 7, 7, 7, 7, 7, 7, 7, 7, 7, 7, 7, 7, 7, 7, 7, 7, 7, 7, 7, 7, 7, 7, 7, 7, 7, 7, 7, 7, 7, 7, 7, 7, 7, 7, 7, 7, 7, 7, 7, 7, 7, 7, 7, 7, 7, 7, 7, 7, 7, 8, 8, 8, 8, 8, 8, 8, 8, 8, 8, 8, 8, 8, 8, 8, 8, 8, 8, 8, 8, 8, 8, 8, 8, 8, 8, 8, 8, 8, 8, 8, 8, 8, 8, 8, 8, 8, 8, 8, 8, 8, 8, 8, 8, 8, 8, 8, 8, 8, 8, 8, 8, 8, 8, 8, 8, 8, 8, 8, 8, 8, 8, 8, 8, 8, 8, 8, 8, 8, 8, 8, 8, 8, 8, 8, 8, 8, 8, 8, 8, 8, 8, 8, 8, 8, 8, 8, 8, 8, 8, 8, 8, 8, 8, 8, 8, 8, 8, 8, 8, 8, 8, 8, 8, 8, 8, 8, 8, 8, 8, 8, 8, 8, 8, 8, 8, 8, 8, 8, 8, 8, 8, 8, 8, 8, 8, 8, 8]⟩ : ByteArray).size : Int)) ∧ let v1 : Int := byteAt (⟨#[0, 1, 2, 2, 3, 3, 3, 3, 4, 4, 4, 4, 4, 4, 4, 4, 5, 5, 5, 5, 5, 5, 5, 5, 5, 5, 5, 5, 5, 5, 5, 5, 6, 6, 6, 6, 6, 6, 6, 6, 6, 6, 6, 6, 6, 6, 6, 6, 6, 6, 6, 6, 6, 6, 6, 6, 6, 6, 6, 6, 6, 6, 6, 6, 7, 7, 7, 7, 7, 7, 7, 7, 7, 7, 7, 7, 7, 7, 7, 7, 7, 7, 7, 7, 7, 7, 7, 7, 7, 7, 7, 7, 7, 7, 7, 7, 7, 7, 7, 7, 7, 7, 7, 7, 7, 7, 7, 7, 7, 7, 7, 7, 7, 7, 7, 7, 7, 7, 7, 7, 7, 7, 7, 7, 7, 7, 7, 7, 8, 8, 8, 8, 8, 8, 8, 8, 8, 8, 8, 8, 8, 8, 8, 8, 8, 8, 8, 8, 8, 8, 8, 8, 8, 8, 8, 8, 8, 8, 8, 8, 8, 8, 8, 8, 8, 8, 8, 8, 8, 8, 8, 8, 8, 8, 8, 8, 8, 8, 8, 8, 8, 8, 8, 8, 8, 8, 8, 8, 8, 8, 8, 8, 8, 8, 8, 8, 8, 8, 8, 8, 8, 8, 8, 8, 8, 8, 8, 8, 8, 8, 8, 8, 8, 8, 8, 8, 8, 8, 8, 8, 8, 8, 8, 8, 8, 8, 8, 8, 8, 8, 8, 8, 8, 8, 8, 8, 8, 8, 8, 8, 8, 8, 8, 8, 8, 8, 8, 8, 8, 8, 8, 8, 8, 8, 8, 8]⟩ : ByteArray) (IntKind.u8.wrap s0)
 let v2 : Int := IntKind.i64.wrap (s2 + (IntKind.i64.wrap v1))
 v2 = r0)) : kam (r0, ()) (s0, s2, ()) := ⟨mpr_of (by kernel_rfl) h⟩
theorem bd65 : Callable Try.prog 65 := ⟨by rw [Try.func65]; kernel_rfl, by rw [Try.func65]; show some _ ≠ some _; decide⟩
theorem k15k (p0 : Int) (h : U64 p0) : knq (p0, ()) (((len64 p0) : Int), ()) := by
  have j3 : ∀ s0 s2 : Int, 0 ≤ s0 → s0 < 256 → 0 ≤ s2 → s2 ≤ 56 → kam (s2 + len64 s0, ()) (s0, s2, ()) := fun s0 s2 h0 h1 h2 h3 => by
    refine k13z ?_
    have e : IntKind.u8.wrap s0 = s0 := by rw [u8w]; omega
    have l := k1dl s0 ⟨h0, h1⟩
    show (0 ≤ IntKind.u8.wrap s0 ∧ IntKind.u8.wrap s0 < (tab8.size : Int)) ∧ IntKind.i64.wrap (s2 + IntKind.i64.wrap (byteAt tab8 (IntKind.u8.wrap s0))) = _
    rw [e, k1fq, k1c1 s0 ⟨h0, h1⟩, wi (len64 s0) (by omega) (by omega), wi (s2 + len64 s0) (by omega) (by omega)]
    exact ⟨⟨h0, h1⟩, rfl⟩
  have j2 : ∀ s0 s2 : Int, 0 ≤ s0 → s0 < 65536 → 0 ≤ s2 → s2 ≤ 48 → kcw (s2 + len64 s0, ()) (s0, s2, ()) := fun s0 s2 h0 h1 h2 h3 => by
    refine k13h ⟨fun h => ?_, fun h => j3 s0 s2 h0 (by simpa using h) h2 (by omega)⟩
    have h := of_decide_eq_true h
    rw [ishr8, wi _ (by omega) (by omega), ← kvs s0 8 (by simpa using h), ← Int.add_assoc, Int.add_right_comm]
    exact j3 _ _ (by omega) (by omega) (by omega) (by omega)
  have j1 : ∀ s0 s2 : Int, 0 ≤ s0 → s0 < 4294967296 → 0 ≤ s2 → s2 ≤ 32 → kcz (s2 + len64 s0, ()) (s0, s2, ()) := fun s0 s2 h0 h1 h2 h3 => by
    refine k138 ⟨fun h => ?_, fun h => j2 s0 s2 h0 (by simpa using h) h2 (by omega)⟩
    have h := of_decide_eq_true h
    rw [ishr16, wi _ (by omega) (by omega), ← kvs s0 16 (by simpa using h), ← Int.add_assoc, Int.add_right_comm]
    exact j2 _ _ (by omega) (by omega) (by omega) (by omega)
  refine k1a9 ⟨fun h1 => ?_, fun h1 => ?_⟩
  · have h1 := of_decide_eq_true h1
    rw [ishr32, ← kvs p0 32 (by simpa using h1), Int.add_comm]
    exact j1 _ _ (by omega) (by omega) (by omega) (by omega)
  · have := j1 p0 0 h.1 (by simpa using h1) (by omega) (by omega)
    rwa [Int.zero_add] at this
noncomputable def kpz : Con TB.den := k38.fnR (fun x => (fun (p0 : Int) => U64 p0) x.1) fun x => ((fun (p0 : Int) => ((len64 p0) : Int)) x.1, ())
theorem kyc : kpz.Ok Try.prog TB := Con.ok_fn k38 bd65 fun x h => k17l (k15k x.1 h)
end Go.Proofs.Ytponaobpcdkggaa
namespace Go.Proofs.Ytponaobpcdkggaa
open Go Go.Bv Go.Cv Go.Md Go.RowKit
def k1s : Con TB.den := Con.mk0 85 [.one (.d (.int .u64))] [] (.one (.one (.d (.int .i64)))) []
abbrev kmj := HL TB.den (hsT k1s.ins (hsOs k1s.pre))
abbrev kab := HL TB.den (hsV k1s.res (hsOs k1s.post))
noncomputable def k7r : Cx TB := ⟨inf, [kpz], [], 4, []⟩
noncomputable def kc8 : Code := Try.f85.body.getD .skip
noncomputable def kdj : List ResultVar := Try.f85.results.toList
noncomputable def kl2 (o : kab) : An TB := .no
noncomputable def kbw (x : kmj) (o : kab) : Prop := WPh TB k7r 6 0 kc8 (kl2 o) (k1s.st TB x) (retTQ TB k7r k1s kdj o)
set_option maxRecDepth 100000 in
theorem ku4 (o : kab) : OblH TB k7r 6 0 kc8 (kl2 o) (retTQ TB k7r k1s kdj o) :=
  OblH.of_eq (X := (True ∧ (True ∧ True))) (by kernel_rfl) ⟨trivial, ⟨trivial, trivial⟩⟩
set_option maxRecDepth 100000 in
theorem ktz {x : kmj} {o : kab} (h : kbw x o) : SoundH Try.prog k1s.f ((k1s.args idf x).map (er TB)) ((k1s.obs idf x).map (erO TB)) (er TB (k1s.val idf o)) ((k1s.ops idf o).map (erO TB)) :=
  Con.soundH (c := k1s) (C := k7r) TBok ⟨inf_ok, (all_cons kyc all_nil), all_nil⟩ mix Try.func85 (show Try.f85.body = some kc8 by kernel_rfl) (show Try.f85.ntmps = 6 by kernel_rfl) (show Try.f85.results.toList = kdj by kernel_rfl) rfl h (ku4 o)
set_option maxRecDepth 100000 in
theorem kvx {p0 : Int} {r0 : Int} (h :
((U64 p0) ∧ IntKind.i64.wrap (64 - (len64 p0)) = r0)) : kbw (p0, ()) (r0, ()) := WPh.of_eq (by kernel_rfl) h
theorem bd85 : Callable Try.prog 85 := ⟨by rw [Try.func85]; kernel_rfl, by rw [Try.func85]; show some _ ≠ some _; decide⟩
theorem ksc (p0 : Int) (h : 0 < p0 ∧ p0 < 18446744073709551616) : kbw (p0, ()) (((64 - len64 p0) : Int), ()) := by
  obtain ⟨s, e, h1, _⟩ := k15z p0 h
  refine kvx ⟨⟨by omega, h.2⟩, ?_⟩
  exact wi _ (by omega) (by omega)
noncomputable def kjv : Con TB.den := k1s.fnR (fun x => (fun (p0 : Int) => 0 < p0 ∧ p0 < 18446744073709551616) x.1) fun x => ((fun (p0 : Int) => ((64 - len64 p0) : Int)) x.1, ())
theorem kvn : kjv.Ok Try.prog TB := Con.ok_fn k1s bd85 fun x h => ktz (ksc x.1 h)
end Go.Proofs.Ytponaobpcdkggaa
namespace Go.Proofs.Ytponaobpcdkggaa
open Go Go.Bv Go.Cv Go.Md Go.RowKit
def k2s : Con TB.den := Con.mk0 67 [.one (.d (.int .u64)), .one (.d (.int .u64)), .one (.d (.int .u64))] [] (.tup [.one (.d (.int .u64)), .one (.d (.int .u64))]) []
abbrev k117 := HL TB.den (hsT k2s.ins (hsOs k2s.pre))
abbrev k1y := HL TB.den (hsV k2s.res (hsOs k2s.post))
noncomputable def k4e : Cx TB := ⟨inf, [kjv], [], 4, []⟩
noncomputable def k6i : Code := Try.f67.body.getD .skip
noncomputable def kah : List ResultVar := Try.f67.results.toList
def kej : Tm := ⟨[], [], [2, 8, 14, 15, 17, 18], [.one (.d (.int .u64)), .one (.d (.int .u64)), .one (.d (.int .u64)), .one (.d (.int .u64)), .one (.d (.int .u64)), .one (.d (.int .u64))], 0⟩
noncomputable def kx1 (o : k1y) (i : HL TB.den kej.hs) : Prop := ghs TB [] (kej.fill TB i) fun s => WP TB k4e 135 0 (cB (cB (cB (cB (cB (cB (cB (cB (cB (cB (cB (cB (cB (cB (cB (cB (cB (cB (cB k6i))))))))))))))))))) .no s (retTQ TB k4e k2s kah o)
structure kaq (o : k1y) (i : HL TB.den kej.hs) : Prop where
  h : kx1 o i
noncomputable def k19a (o : k1y) : Exit → TSt TB.den → Prop := thenT TB (fun s => kej.mat TB 0 s (kaq o)) (retTQ TB k4e k2s kah o)
def k6a : Tm := ⟨[], [], [2, 8, 9, 10, 14, 15, 16, 17, 18], [.one (.d (.int .u64)), .one (.d (.int .u64)), .one (.d (.int .u64)), .one (.d (.int .u64)), .one (.d (.int .u64)), .one (.d (.int .u64)), .one (.d (.int .u64)), .one (.d (.int .u64)), .one (.d (.int .u64))], 0⟩
noncomputable def ky2 (o : k1y) (nx2 : HL TB.den k6a.hs → Prop) : Exit → TSt TB.den → Prop := thenT TB (fun s => k6a.mat TB 0 s nx2) (blockT TB 2 (k19a o))
def kfa : Tm := ⟨[], [], [2, 8, 9, 10, 14, 15, 16, 17, 18], [.one (.d (.int .u64)), .one (.d (.int .u64)), .one (.d (.int .u64)), .one (.d (.int .u64)), .one (.d (.int .u64)), .one (.d (.int .u64)), .one (.d (.int .u64)), .one (.d (.int .u64)), .one (.d (.int .u64))], 0⟩
noncomputable def kwu (o : k1y) (nx2 : HL TB.den k6a.hs → Prop) (i : HL TB.den kfa.hs) : Prop := ghs TB [] (kfa.fill TB i) fun s => WP TB k4e 135 0 (cB (cA (cA (cA (cB (cB (cB (cB (cB (cB (cB (cB (cB (cB (cB (cB (cB (cB (cB (cB (cB (cB k6i)))))))))))))))))))))) .no s (ky2 o nx2)
structure kaj (o : k1y) (nx2 : HL TB.den k6a.hs → Prop) (i : HL TB.den kfa.hs) : Prop where
  h : kwu o nx2 i
noncomputable def kgq (o : k1y) (nx2 : HL TB.den k6a.hs → Prop) (i : HL TB.den k6a.hs) : Prop := WP TB k4e 135 0 (cA (cA (cA (cB (cB (cB (cB (cB (cB (cB (cB (cB (cB (cB (cB (cB (cB (cB (cB (cB (cB k6i))))))))))))))))))))) (.jn kfa (kaj o nx2) [] .no [] .no) (k6a.fill TB i) (ky2 o nx2)
noncomputable def k199 (o : k1y) : An TB := .lp [] k6a (kgq o) fun nx2 => (.jn kfa (kaj o nx2) [] .no [] .no)
noncomputable def k198 (o : k1y) : An TB := .jn kej (kaq o) [] (k199 o) [] .no
noncomputable def kym (o : k1y) : An TB := .nd [] .no [] (.nd [] .no [] (.nd [] .no [] (k198 o)))
def kel : Tm := ⟨[], [], [2, 8, 9, 10, 11, 13, 14, 15], [.one (.d (.int .u64)), .one (.d (.int .u64)), .one (.d (.int .u64)), .one (.d (.int .u64)), .one (.d (.int .u64)), .one (.d (.int .u64)), .one (.d (.int .u64)), .one (.d (.int .u64))], 0⟩
noncomputable def kwd (o : k1y) (i : HL TB.den kel.hs) : Prop := ghs TB [] (kel.fill TB i) fun s => WP TB k4e 135 0 (cB (cB (cB (cB (cB (cB (cB (cB (cB (cB (cB (cB (cB (cB (cB k6i))))))))))))))) (kym o) s (retTQ TB k4e k2s kah o)
structure kap (o : k1y) (i : HL TB.den kel.hs) : Prop where
  h : kwd o i
noncomputable def k196 (o : k1y) : Exit → TSt TB.den → Prop := thenT TB (fun s => kel.mat TB 0 s (kap o)) (retTQ TB k4e k2s kah o)
def k6b : Tm := ⟨[], [], [2, 8, 9, 10, 11, 13, 14, 15, 16], [.one (.d (.int .u64)), .one (.d (.int .u64)), .one (.d (.int .u64)), .one (.d (.int .u64)), .one (.d (.int .u64)), .one (.d (.int .u64)), .one (.d (.int .u64)), .one (.d (.int .u64)), .one (.d (.int .u64))], 0⟩
noncomputable def kyj (o : k1y) (nx1 : HL TB.den k6b.hs → Prop) : Exit → TSt TB.den → Prop := thenT TB (fun s => k6b.mat TB 0 s nx1) (blockT TB 0 (k196 o))
def ken : Tm := ⟨[], [], [2, 8, 9, 10, 11, 13, 14, 15, 16], [.one (.d (.int .u64)), .one (.d (.int .u64)), .one (.d (.int .u64)), .one (.d (.int .u64)), .one (.d (.int .u64)), .one (.d (.int .u64)), .one (.d (.int .u64)), .one (.d (.int .u64)), .one (.d (.int .u64))], 0⟩
noncomputable def kx2 (o : k1y) (nx1 : HL TB.den k6b.hs → Prop) (i : HL TB.den ken.hs) : Prop := ghs TB [] (ken.fill TB i) fun s => WP TB k4e 135 0 (cB (cA (cA (cA (cB (cB (cB (cB (cB (cB (cB (cB (cB (cB (cB (cB (cB (cB k6i)))))))))))))))))) .no s (kyj o nx1)
structure kak (o : k1y) (nx1 : HL TB.den k6b.hs → Prop) (i : HL TB.den ken.hs) : Prop where
  h : kx2 o nx1 i
noncomputable def kgn (o : k1y) (nx1 : HL TB.den k6b.hs → Prop) (i : HL TB.den k6b.hs) : Prop := WP TB k4e 135 0 (cA (cA (cA (cB (cB (cB (cB (cB (cB (cB (cB (cB (cB (cB (cB (cB (cB k6i))))))))))))))))) (.jn ken (kak o nx1) [] .no [] .no) (k6b.fill TB i) (kyj o nx1)
noncomputable def k17x (o : k1y) : An TB := .lp [] k6b (kgn o) fun nx1 => (.jn ken (kak o nx1) [] .no [] .no)
noncomputable def k17w (o : k1y) : An TB := .jn kel (kap o) [] (k17x o) [] (kym o)
noncomputable def k179 (o : k1y) : An TB := .nd [] .no [] (.nd [] .no [] (.nd [] .no [] (k17w o)))
noncomputable def k17k (o : k1y) : An TB := .nd [] .no [] (.nd [] .no [] (.nd [] .no [] (k179 o)))
noncomputable def k17a (o : k1y) : An TB := .nd [] .no [] (.nd [] .no [] (.nd [] .no [] (k17k o)))
noncomputable def k17b (o : k1y) : An TB := .nd [] .no [] (.nd [] .no [] (.nd [] .no [] (k17a o)))
noncomputable def kyt (o : k1y) : An TB := .nd [] .no [] (.nd [] .no [] (k17b o))
noncomputable def ko7 (x : k117) (o : k1y) : Prop := WPh TB k4e 135 0 k6i (kyt o) (k2s.st TB x) (retTQ TB k4e k2s kah o)
set_option maxRecDepth 100000 in
theorem k16z (o : k1y) : OblH TB k4e 135 0 k6i (kyt o) (retTQ TB k4e k2s kah o) :=
  OblH.of_eq (X := (True ∧ ((True ∧ (True ∧ True)) ∧ ((True ∧ (True ∧ True)) ∧ ((True ∧ ((True ∧ True) ∧ True)) ∧ (True ∧ (True ∧ (True ∧ (True ∧ (True ∧ (True ∧ (True ∧ (True ∧ (True ∧ (True ∧ (((∀ nx i, (kgn o) nx i = (kgn o) nx i) ∧ ∀ nx1 : HL TB.den k6b.hs → Prop, ((True ∧ (True ∧ True)) ∧ (∀ i, (kak o nx1) i = (kx2 o nx1) i) ∧ (True ∧ (True ∧ (True ∧ (True ∧ True)))))) ∧ (∀ i, (kap o) i = (kwd o) i) ∧ (True ∧ (True ∧ (True ∧ (((∀ nx i, (kgq o) nx i = (kgq o) nx i) ∧ ∀ nx2 : HL TB.den k6a.hs → Prop, ((True ∧ (True ∧ True)) ∧ (∀ i, (kaj o nx2) i = (kwu o nx2) i) ∧ (True ∧ (True ∧ (True ∧ (True ∧ True)))))) ∧ (∀ i, (kaq o) i = (kx1 o) i) ∧ (True ∧ True))))))))))))))))))))) (by kernel_rfl) ⟨trivial, ⟨⟨trivial, ⟨trivial, trivial⟩⟩, ⟨⟨trivial, ⟨trivial, trivial⟩⟩, ⟨⟨trivial, ⟨⟨trivial, trivial⟩, trivial⟩⟩, ⟨trivial, ⟨trivial, ⟨trivial, ⟨trivial, ⟨trivial, ⟨trivial, ⟨trivial, ⟨trivial, ⟨trivial, ⟨trivial, ⟨⟨fun _ _ => rfl, fun _ => ⟨⟨trivial, ⟨trivial, trivial⟩⟩, fun _ => propext ⟨fun h => h.1, fun h => ⟨h⟩⟩, ⟨trivial, ⟨trivial, ⟨trivial, ⟨trivial, trivial⟩⟩⟩⟩⟩⟩, fun _ => propext ⟨fun h => h.1, fun h => ⟨h⟩⟩, ⟨trivial, ⟨trivial, ⟨trivial, ⟨⟨fun _ _ => rfl, fun _ => ⟨⟨trivial, ⟨trivial, trivial⟩⟩, fun _ => propext ⟨fun h => h.1, fun h => ⟨h⟩⟩, ⟨trivial, ⟨trivial, ⟨trivial, ⟨trivial, trivial⟩⟩⟩⟩⟩⟩, fun _ => propext ⟨fun h => h.1, fun h => ⟨h⟩⟩, ⟨trivial, trivial⟩⟩⟩⟩⟩⟩⟩⟩⟩⟩⟩⟩⟩⟩⟩⟩⟩⟩⟩⟩
set_option maxRecDepth 100000 in
theorem k16v {x : k117} {o : k1y} (h : ko7 x o) : SoundH Try.prog k2s.f ((k2s.args idf x).map (er TB)) ((k2s.obs idf x).map (erO TB)) (er TB (k2s.val idf o)) ((k2s.ops idf o).map (erO TB)) :=
  Con.soundH (c := k2s) (C := k4e) TBok ⟨inf_ok, (all_cons kvn all_nil), all_nil⟩ mix Try.func67 (show Try.f67.body = some k6i by kernel_rfl) (show Try.f67.ntmps = 135 by kernel_rfl) (show Try.f67.results.toList = kah by kernel_rfl) rfl h (k16z o)
set_option maxRecDepth 100000 in
theorem k19x {p0 : Int} {p1 : Int} {p2 : Int} {r0 : Int} {r1 : Int} (h :
(((p2 == 0) = true →
 False) ∧
((p2 == 0) = false →
(decide (p2 ≤ p0) = true →
 False) ∧
(decide (p2 ≤ p0) = false →
((p0 == 0) = true →
(p2 ≠ 0) ∧ (p2 ≠ 0) ∧ IntKind.u64.wrap (Int.tdiv p1 p2) = r0 ∧ Int.tmod p1 p2 = r1) ∧
((p0 == 0) = false →
(0 < p2 ∧ p2 < 18446744073709551616) ∧ (0 ≤ IntKind.u64.wrap (64 - len64 p2)) ∧ let v2 : Int := ishl .u64 p2 (IntKind.u64.wrap (64 - len64 p2))
(0 ≤ IntKind.u64.wrap (64 - len64 p2)) ∧ let v3 : Int := ishl .u64 p0 (IntKind.u64.wrap (64 - len64 p2))
 let v4 : Int := IntKind.u64.wrap (64 - (IntKind.u64.wrap (64 - len64 p2)))
(0 ≤ v4) ∧ (0 ≤ IntKind.u64.wrap (64 - len64 p2)) ∧ let v5 : Int := ishl .u64 p1 (IntKind.u64.wrap (64 - len64 p2))
(ishr .u64 v2 32 ≠ 0) ∧ let v6 : Int := IntKind.u64.wrap (Int.tdiv (ior .u64 v3 (ishr .u64 p1 v4)) (ishr .u64 v2 32))
 let v7 : Int := IntKind.u64.wrap (v6 * (ishr .u64 v2 32))
 let v8 : Int := IntKind.u64.wrap ((ior .u64 v3 (ishr .u64 p1 v4)) - v7)
 Md.Loop (v2, (IntKind.u64.wrap (64 - len64 p2) : Int), (ishr .u64 v2 32 : Int), (iand .u64 v2 4294967295 : Int), (ior .u64 v3 (ishr .u64 p1 v4) : Int), (ishr .u64 v5 32 : Int), (iand .u64 v5 4294967295 : Int), v6, v8, ()) (kgn (r0, r1, ()))))))) : ko7 (p0, p1, p2, ()) (r0, r1, ()) := WPh.of_eq (by kernel_rfl) h
set_option maxRecDepth 100000 in
theorem k13v {r0 : Int} {r1 : Int} {nx1 : HL TB.den k6b.hs → Prop} {s2 : Int} {s8 : Int} {s9 : Int} {s10 : Int} {s11 : Int} {s13 : Int} {s14 : Int} {s15 : Int} {s16 : Int} (h :
(let v11 : Bool := decide (4294967296 ≤ (IntKind.u64.wrap (s16 + s9)))
(v11 = true →
 kap (r0, r1, ()) (s2, s8, s9, s10, s11, s13, s14, (IntKind.u64.wrap (s15 - 1) : Int), ())) ∧
(v11 = false →
 nx1 (s2, s8, s9, s10, s11, s13, s14, (IntKind.u64.wrap (s15 - 1) : Int), (IntKind.u64.wrap (s16 + s9) : Int), ())))) : kak (r0, r1, ()) nx1 (s2, s8, s9, s10, s11, s13, s14, s15, s16, ()) := ⟨mpr_of (by kernel_rfl) h⟩
set_option maxRecDepth 100000 in
theorem k136 {r0 : Int} {r1 : Int} {s2 : Int} {s8 : Int} {s9 : Int} {s10 : Int} {s11 : Int} {s13 : Int} {s14 : Int} {s15 : Int} (h :
(let v12 : Int := IntKind.u64.wrap ((IntKind.u64.wrap (s11 * 4294967296)) + s13)
 let v13 : Int := IntKind.u64.wrap (v12 - (IntKind.u64.wrap (s15 * s2)))
(s9 ≠ 0) ∧ let v14 : Int := IntKind.u64.wrap ((IntKind.u64.wrap (Int.tdiv v13 s9)) * s9)
 Md.Loop (s2, s8, s9, s10, s14, s15, (IntKind.u64.wrap (v13 - v14) : Int), v13, (IntKind.u64.wrap (Int.tdiv v13 s9) : Int), ()) (kgq (r0, r1, ())))) : kap (r0, r1, ()) (s2, s8, s9, s10, s11, s13, s14, s15, ()) := ⟨mpr_of (by kernel_rfl) h⟩
set_option maxRecDepth 100000 in
theorem k13m {r0 : Int} {r1 : Int} {nx2 : HL TB.den k6a.hs → Prop} {s2 : Int} {s8 : Int} {s9 : Int} {s10 : Int} {s14 : Int} {s15 : Int} {s16 : Int} {s17 : Int} {s18 : Int} (h :
(let v17 : Bool := decide (4294967296 ≤ (IntKind.u64.wrap (s16 + s9)))
(v17 = true →
 kaq (r0, r1, ()) (s2, s8, s14, s15, s17, (IntKind.u64.wrap (s18 - 1) : Int), ())) ∧
(v17 = false →
 nx2 (s2, s8, s9, s10, s14, s15, (IntKind.u64.wrap (s16 + s9) : Int), s17, (IntKind.u64.wrap (s18 - 1) : Int), ())))) : kaj (r0, r1, ()) nx2 (s2, s8, s9, s10, s14, s15, s16, s17, s18, ()) := ⟨mpr_of (by kernel_rfl) h⟩
set_option maxRecDepth 100000 in
theorem k13u {r0 : Int} {r1 : Int} {s2 : Int} {s8 : Int} {s14 : Int} {s15 : Int} {s17 : Int} {s18 : Int} (h :
(let v18 : Int := IntKind.u64.wrap ((IntKind.u64.wrap (s15 * 4294967296)) + s18)
 let v19 : Int := IntKind.u64.wrap ((IntKind.u64.wrap (s17 * 4294967296)) + s14)
 let v20 : Int := IntKind.u64.wrap (v19 - (IntKind.u64.wrap (s18 * s2)))
(0 ≤ s8) ∧ v18 = r0 ∧ ishr .u64 v20 s8 = r1)) : kaq (r0, r1, ()) (s2, s8, s14, s15, s17, s18, ()) := ⟨mpr_of (by kernel_rfl) h⟩
def kyl (r0 : Int) (r1 : Int) (nx1 : HL TB.den k6b.hs → Prop) (k1 : Int → Int → Prop) (s2 : Int) (s8 : Int) (s9 : Int) (s10 : Int) (s11 : Int) (s13 : Int) (s14 : Int) (s15 : Int) (s16 : Int) : Prop :=
(decide (4294967296 ≤ s15) = true →
 kak (r0, r1, ()) nx1 (s2, s8, s9, s10, s11, s13, s14, s15, s16, ())) ∧
(decide (4294967296 ≤ s15) = false →
 let v9 : Int := IntKind.u64.wrap ((IntKind.u64.wrap (4294967296 * s16)) + s13)
 let v10 : Bool := decide (v9 < (IntKind.u64.wrap (s15 * s10)))
(v10 = true →
 kak (r0, r1, ()) nx1 (s2, s8, s9, s10, s11, s13, s14, s15, s16, ())) ∧
(v10 = false →
 kap (r0, r1, ()) (s2, s8, s9, s10, s11, s13, s14, s15, ())))
set_option maxRecDepth 100000 in
theorem k178 {r0 : Int} {r1 : Int} {s2 : Int} {s8 : Int} {s9 : Int} {s10 : Int} {s11 : Int} {s13 : Int} {s14 : Int} {s15 : Int} {s16 : Int} (inv : Int → Int → Prop) (μ : Int → Int → Nat) (h0 : inv s15 s16) (hs : ∀ (s15 : Int) (s16 : Int), inv s15 s16 → kyl r0 r1 (fun s : Int × Int × Int × Int × Int × Int × Int × Int × Int × Unit => ((s.1 = s2 ∧ s.2.1 = s8 ∧ s.2.2.1 = s9 ∧ s.2.2.2.1 = s10 ∧ s.2.2.2.2.1 = s11 ∧ s.2.2.2.2.2.1 = s13 ∧ s.2.2.2.2.2.2.1 = s14) ∧ inv s.2.2.2.2.2.2.2.1 s.2.2.2.2.2.2.2.2.1) ∧ μ s.2.2.2.2.2.2.2.1 s.2.2.2.2.2.2.2.2.1 < μ s15 s16) (fun s15q s16q => inv s15q s16q ∧ μ s15q s16q < μ s15 s16) s2 s8 s9 s10 s11 s13 s14 s15 s16) : Md.Loop (s2, s8, s9, s10, s11, s13, s14, s15, s16, ()) (kgn (r0, r1, ())) :=
  ⟨⟨fun s : Int × Int × Int × Int × Int × Int × Int × Int × Int × Unit => (s.1 = s2 ∧ s.2.1 = s8 ∧ s.2.2.1 = s9 ∧ s.2.2.2.1 = s10 ∧ s.2.2.2.2.1 = s11 ∧ s.2.2.2.2.2.1 = s13 ∧ s.2.2.2.2.2.2.1 = s14) ∧ inv s.2.2.2.2.2.2.2.1 s.2.2.2.2.2.2.2.2.1, fun s : Int × Int × Int × Int × Int × Int × Int × Int × Int × Unit => μ s.2.2.2.2.2.2.2.1 s.2.2.2.2.2.2.2.2.1, ⟨⟨rfl, rfl, rfl, rfl, rfl, rfl, rfl⟩, h0⟩, fun (s2p, s8p, s9p, s10p, s11p, s13p, s14p, s15p, s16p, ()) ⟨⟨eq0, eq1, eq2, eq3, eq4, eq5, eq6⟩, hi⟩ => by
    have eq0 : s2p = s2 := eq0; subst s2p; have eq1 : s8p = s8 := eq1; subst s8p; have eq2 : s9p = s9 := eq2; subst s9p; have eq3 : s10p = s10 := eq3; subst s10p; have eq4 : s11p = s11 := eq4; subst s11p; have eq5 : s13p = s13 := eq5; subst s13p; have eq6 : s14p = s14 := eq6; subst s14p; exact mpr_of (by kernel_rfl) ((congrArg (fun k => kyl r0 r1 (fun s : Int × Int × Int × Int × Int × Int × Int × Int × Int × Unit => ((s.1 = s2 ∧ s.2.1 = s8 ∧ s.2.2.1 = s9 ∧ s.2.2.2.1 = s10 ∧ s.2.2.2.2.1 = s11 ∧ s.2.2.2.2.2.1 = s13 ∧ s.2.2.2.2.2.2.1 = s14) ∧ inv s.2.2.2.2.2.2.2.1 s.2.2.2.2.2.2.2.2.1) ∧ μ s.2.2.2.2.2.2.2.1 s.2.2.2.2.2.2.2.2.1 < μ s15p s16p) k s2 s8 s9 s10 s11 s13 s14 s15p s16p) (lpk2 (⟨rfl, rfl, rfl, rfl, rfl, rfl, rfl⟩ : s2 = s2 ∧ s8 = s8 ∧ s9 = s9 ∧ s10 = s10 ∧ s11 = s11 ∧ s13 = s13 ∧ s14 = s14) inv (fun s15q s16q => μ s15q s16q < μ s15p s16p))).mpr (hs s15p s16p hi))⟩⟩
def ky8 (r0 : Int) (r1 : Int) (nx2 : HL TB.den k6a.hs → Prop) (k2 : Int → Int → Prop) (s2 : Int) (s8 : Int) (s9 : Int) (s10 : Int) (s14 : Int) (s15 : Int) (s17 : Int) (s16 : Int) (s18 : Int) : Prop :=
(decide (4294967296 ≤ s18) = true →
 kaj (r0, r1, ()) nx2 (s2, s8, s9, s10, s14, s15, s16, s17, s18, ())) ∧
(decide (4294967296 ≤ s18) = false →
 let v15 : Int := IntKind.u64.wrap ((IntKind.u64.wrap (4294967296 * s16)) + s14)
 let v16 : Bool := decide (v15 < (IntKind.u64.wrap (s18 * s10)))
(v16 = true →
 kaj (r0, r1, ()) nx2 (s2, s8, s9, s10, s14, s15, s16, s17, s18, ())) ∧
(v16 = false →
 kaq (r0, r1, ()) (s2, s8, s14, s15, s17, s18, ())))
set_option maxRecDepth 100000 in
theorem k17n {r0 : Int} {r1 : Int} {s2 : Int} {s8 : Int} {s9 : Int} {s10 : Int} {s14 : Int} {s15 : Int} {s17 : Int} {s16 : Int} {s18 : Int} (inv : Int → Int → Prop) (μ : Int → Int → Nat) (h0 : inv s16 s18) (hs : ∀ (s16 : Int) (s18 : Int), inv s16 s18 → ky8 r0 r1 (fun s : Int × Int × Int × Int × Int × Int × Int × Int × Int × Unit => ((s.1 = s2 ∧ s.2.1 = s8 ∧ s.2.2.1 = s9 ∧ s.2.2.2.1 = s10 ∧ s.2.2.2.2.1 = s14 ∧ s.2.2.2.2.2.1 = s15 ∧ s.2.2.2.2.2.2.2.1 = s17) ∧ inv s.2.2.2.2.2.2.1 s.2.2.2.2.2.2.2.2.1) ∧ μ s.2.2.2.2.2.2.1 s.2.2.2.2.2.2.2.2.1 < μ s16 s18) (fun s16q s18q => inv s16q s18q ∧ μ s16q s18q < μ s16 s18) s2 s8 s9 s10 s14 s15 s17 s16 s18) : Md.Loop (s2, s8, s9, s10, s14, s15, s16, s17, s18, ()) (kgq (r0, r1, ())) :=
  ⟨⟨fun s : Int × Int × Int × Int × Int × Int × Int × Int × Int × Unit => (s.1 = s2 ∧ s.2.1 = s8 ∧ s.2.2.1 = s9 ∧ s.2.2.2.1 = s10 ∧ s.2.2.2.2.1 = s14 ∧ s.2.2.2.2.2.1 = s15 ∧ s.2.2.2.2.2.2.2.1 = s17) ∧ inv s.2.2.2.2.2.2.1 s.2.2.2.2.2.2.2.2.1, fun s : Int × Int × Int × Int × Int × Int × Int × Int × Int × Unit => μ s.2.2.2.2.2.2.1 s.2.2.2.2.2.2.2.2.1, ⟨⟨rfl, rfl, rfl, rfl, rfl, rfl, rfl⟩, h0⟩, fun (s2p, s8p, s9p, s10p, s14p, s15p, s16p, s17p, s18p, ()) ⟨⟨eq0, eq1, eq2, eq3, eq4, eq5, eq6⟩, hi⟩ => by
    have eq0 : s2p = s2 := eq0; subst s2p; have eq1 : s8p = s8 := eq1; subst s8p; have eq2 : s9p = s9 := eq2; subst s9p; have eq3 : s10p = s10 := eq3; subst s10p; have eq4 : s14p = s14 := eq4; subst s14p; have eq5 : s15p = s15 := eq5; subst s15p; have eq6 : s17p = s17 := eq6; subst s17p; exact mpr_of (by kernel_rfl) ((congrArg (fun k => ky8 r0 r1 (fun s : Int × Int × Int × Int × Int × Int × Int × Int × Int × Unit => ((s.1 = s2 ∧ s.2.1 = s8 ∧ s.2.2.1 = s9 ∧ s.2.2.2.1 = s10 ∧ s.2.2.2.2.1 = s14 ∧ s.2.2.2.2.2.1 = s15 ∧ s.2.2.2.2.2.2.2.1 = s17) ∧ inv s.2.2.2.2.2.2.1 s.2.2.2.2.2.2.2.2.1) ∧ μ s.2.2.2.2.2.2.1 s.2.2.2.2.2.2.2.2.1 < μ s16p s18p) k s2 s8 s9 s10 s14 s15 s17 s16p s18p) (lpk2 (⟨rfl, rfl, rfl, rfl, rfl, rfl, rfl⟩ : s2 = s2 ∧ s8 = s8 ∧ s9 = s9 ∧ s10 = s10 ∧ s14 = s14 ∧ s15 = s15 ∧ s17 = s17) inv (fun s16q s18q => μ s16q s18q < μ s16p s18p))).mpr (hs s16p s18p hi))⟩⟩
theorem bd67 : Callable Try.prog 67 := ⟨by rw [Try.func67]; kernel_rfl, by rw [Try.func67]; show some _ ≠ some _; decide⟩
theorem k16j (p0 : Int) (p1 : Int) (p2 : Int) (h : U64 p0 ∧ U64 p1 ∧ U64 p2 ∧ p0 < p2) : ko7 (p0, p1, p2, ()) ((((p0 * 18446744073709551616 + p1) / p2) : Int), (((p0 * 18446744073709551616 + p1) % p2) : Int), ()) := by
  obtain ⟨h0, h1, h2, hlt⟩ := h
  refine k19x ⟨fun e => ?_, fun _ => ⟨fun e => ?_, fun _ => ⟨fun e => ?_, fun _ => ?_⟩⟩⟩
  · simp at e; omega
  · simp at e; omega
  · have e : p0 = 0 := by simpa using e
    subst e
    rw [tdiv_nn _ _ h1.1, tmod_nn _ _ h1.1, Int.zero_mul, Int.zero_add]
    have := Int.ediv_le_self p2 h1.1
    have := Int.ediv_nonneg h1.1 h2.1
    exact ⟨by omega, by omega, wu _ (by omega) (by have := Int.ediv_le_self p2 h1.1; omega), rfl⟩
  obtain ⟨s, e, hs, n1, n2⟩ := k15z p2 ⟨by omega, h2.2⟩
  have ew : IntKind.u64.wrap (64 - len64 p2) = (s : Int) := by rw [e, wu _ (by omega) (by omega)]
  have ew3 : IntKind.u64.wrap (64 - (s : Int)) = ((64 - s : Nat) : Int) := by rw [wu _ (by omega) (by omega)]; omega
  have hp : 0 < 2 ^ s := Nat.two_pow_pos s
  have hp' : 0 < 2 ^ (64 - s) := Nat.two_pow_pos _
  have hpp : 2 ^ s * 2 ^ (64 - s) = 18446744073709551616 := by rw [← Nat.pow_add, show s + (64 - s) = 64 by omega]
  have hP : ((2 ^ s : Nat) : Int) * ((2 ^ (64 - s) : Nat) : Int) = 18446744073709551616 := by rw [← Int.natCast_mul, hpp]; rfl
  have il : ∀ a : Int, ishl .u64 a (s : Int) = a * ((2 ^ s : Nat) : Int) % 18446744073709551616 := fun a => by rw [k1gd, Int.toNat_natCast, Nat.min_eq_left (by omega)]
  have ir : ∀ a : Int, ishr .u64 a (s : Int) = a / ((2 ^ s : Nat) : Int) := fun a => by rw [kp2, Int.toNat_natCast, show min s IntKind.u64.bits = s from Nat.min_eq_left (by show s ≤ 64; omega)]
  have ir' : ∀ a : Int, ishr .u64 a ((64 - s : Nat) : Int) = a / ((2 ^ (64 - s) : Nat) : Int) := fun a => by rw [kp2, Int.toNat_natCast, show min (64 - s) IntKind.u64.bits = 64 - s from Nat.min_eq_left (by show 64 - s ≤ 64; omega)]
  have hor : ∀ c : Int, 0 ≤ c → c < ((2 ^ s : Nat) : Int) → p0 * ((2 ^ s : Nat) : Int) + c < 18446744073709551616 → ior .u64 (p0 * ((2 ^ s : Nat) : Int)) c = p0 * ((2 ^ s : Nat) : Int) + c := by
    intro c hc0 hc1 hc2
    obtain ⟨a, rfl⟩ := Int.eq_ofNat_of_zero_le h0.1
    obtain ⟨c, rfl⟩ := Int.eq_ofNat_of_zero_le hc0
    have key := ior_add' c a s (by omega)
    rw [Int.mul_comm, ← Int.natCast_mul] at hc2 ⊢
    rw [key (by omega)]
    omega
  simp only [ew, ew3, il, ir', ishr32]
  have hP'0 : (0 : Int) < ((2 ^ (64 - s) : Nat) : Int) := by omega
  generalize hPd : ((2 ^ s : Nat) : Int) = P at *
  generalize hPd' : ((2 ^ (64 - s) : Nat) : Int) = P' at *
  have hP0 : 0 < P := by omega
  have hlo : p1 / P' < P := Int.ediv_lt_of_lt_mul hP'0 (by omega)
  have hlo0 : 0 ≤ p1 / P' := Int.ediv_nonneg h1.1 (by omega)
  have hUv : p0 * P + P ≤ p2 * P := by
    have : (p0 + 1) * P ≤ p2 * P := Int.mul_le_mul_of_nonneg_right (by omega) (by omega)
    grind
  have hUp : 0 ≤ p0 * P := Int.mul_nonneg h0.1 (by omega)
  rw [Int.emod_eq_of_lt (a := p2 * P) (by omega) n2, Int.emod_eq_of_lt (a := p0 * P) hUp (by omega), hor _ hlo0 hlo (by omega)]
  have hN : (p0 * 18446744073709551616 + p1) * P = (p0 * P + p1 / P') * 18446744073709551616 + (p1 * P % 18446744073709551616 / 4294967296) * 4294967296 + p1 * P % 18446744073709551616 % 4294967296 := by
    have h5 : p1 * P / 18446744073709551616 = p1 / P' := by
      rw [← hP, Int.mul_comm p1 P, Int.mul_ediv_mul_of_pos _ _ hP0]
    have h6 := Int.emod_add_mul_ediv (p1 * P) 18446744073709551616
    rw [h5] at h6
    have : (p0 * 18446744073709551616 + p1) * P = p0 * P * 18446744073709551616 + p1 * P := by grind
    rw [this]
    generalize p1 * P = w at *
    generalize p0 * P = w' at *
    omega
  have hlb : 0 ≤ p1 * P % 18446744073709551616 ∧ p1 * P % 18446744073709551616 < 18446744073709551616 := ⟨Int.emod_nonneg _ (by omega), Int.emod_lt_of_pos _ (by omega)⟩
  generalize hUd : p0 * P + p1 / P' = U at *
  generalize hLd : p1 * P % 18446744073709551616 = L at *
  have hVd : p2 * P / 4294967296 * 4294967296 + p2 * P % 4294967296 = p2 * P := by omega
  have hw : ∀ {Q R V' : Int} , R - Q = V' → 0 ≤ V' → V' < 18446744073709551616 → ∀ A, R = A * 4294967296 + (R - A * 4294967296) → IntKind.u64.wrap (IntKind.u64.wrap (IntKind.u64.wrap (A * 4294967296) + (R - A * 4294967296)) - IntKind.u64.wrap Q) = V' := by
    intro Q R V' hv h0 h1 A hA
    simp only [u64w]
    omega
  rw [klk (p2 * P) (by omega), klk L (by omega)]
  generalize ha : p2 * P / 4294967296 = a at *
  generalize hb : p2 * P % 4294967296 = b at *
  have hQ1 : Half U (L / 4294967296) a b ((U * 4294967296 + L / 4294967296) / (a * 4294967296 + b)) := ⟨by omega, by omega, by omega, by omega, by omega, rfl⟩
  have hr1 := hQ1.rest
  have hq1 := hQ1.q
  generalize (U * 4294967296 + L / 4294967296) / (a * 4294967296 + b) = Q1 at *
  generalize (U * 4294967296 + L / 4294967296) % (a * 4294967296 + b) = R1 at *
  have hQ0 : Half R1 (L % 4294967296) a b ((R1 * 4294967296 + L % 4294967296) / (a * 4294967296 + b)) := ⟨by omega, by omega, by omega, by omega, by omega, rfl⟩
  have hr0 := hQ0.rest
  have hq0 := hQ0.q
  generalize (R1 * 4294967296 + L % 4294967296) / (a * 4294967296 + b) = Q0 at *
  generalize (R1 * 4294967296 + L % 4294967296) % (a * 4294967296 + b) = R0 at *
  rw [hVd] at hr1 hr0 hq1 hq0
  have fin := k1ef hP0 (by omega : 0 < p2) hN hr1.1 hr0.1 ⟨hr0.2.1, hr0.2.2⟩
  have j4 : kaq (((p0 * 18446744073709551616 + p1) / p2 : Int), ((p0 * 18446744073709551616 + p1) % p2 : Int), ()) ((p2 * P : Int), (s : Int), (L % 4294967296 : Int), Q1, R1, Q0, ()) := by
    refine k13u ⟨by omega, ?_, ?_⟩
    · rw [wu (Q1 * 4294967296) (by omega) (by omega), wu _ (by omega) (by omega)]
      exact fin.1
    · have := hw (Q := Q0 * (p2 * P)) (R := R1 * 4294967296 + L % 4294967296) hr0.1 hr0.2.1 (by omega) R1 (by omega)
      rw [show R1 * 4294967296 + L % 4294967296 - R1 * 4294967296 = L % 4294967296 by omega] at this
      rw [this, ir]
      exact fin.2
  have aux : ∀ {U x Q q r : Int}, Half U x a b Q → U < 18446744073709551616 → q * a + r = U → Q ≤ q → 0 ≤ r → q ≤ 8589934592 := by
    intro U x Q q r hh hU e hQ hr
    have h1 := hh.ha
    refine Int.le_of_lt_add_one (Int.lt_of_mul_lt_mul_right (a := a) ?_ (by omega))
    generalize q * a = w at *
    omega
  have init : ∀ {U x Q : Int}, Half U x a b Q → Q ≤ U / a := by
    intro U x Q hh
    have h1 := hh.ha
    have h2 := hh.q
    have h3 := hh.hb
    have h4 := hh.hx
    refine (Int.le_ediv_iff_mul_le (by omega)).2 ?_
    have h5 : Q * (a * 4294967296 + b) = Q * a * 4294967296 + Q * b := by grind
    have h6 : 0 ≤ Q * b := Int.mul_nonneg h2.1 h3.1
    generalize Q * a = w at *
    omega
  have j2 : kap (((p0 * 18446744073709551616 + p1) / p2 : Int), ((p0 * 18446744073709551616 + p1) % p2 : Int), ()) ((p2 * P : Int), (s : Int), a, b, U, (L / 4294967296 : Int), (L % 4294967296 : Int), Q1, ()) := by
    have e1 := hw (Q := Q1 * (p2 * P)) (R := U * 4294967296 + L / 4294967296) hr1.1 hr1.2.1 (by omega) U (by omega)
    rw [show U * 4294967296 + L / 4294967296 - U * 4294967296 = L / 4294967296 by omega] at e1
    refine k136 ?_
    simp only [e1]
    have hd := Int.emod_add_mul_ediv R1 a
    have hd1 := Int.emod_nonneg R1 (by omega : a ≠ 0)
    have hd2 := Int.emod_lt_of_pos R1 (by omega : 0 < a)
    have hd3 : 0 ≤ R1 / a := Int.ediv_nonneg hr1.2.1 (by omega)
    rw [Int.mul_comm] at hd
    have hd5 : 0 ≤ R1 / a * a := Int.mul_nonneg hd3 (by omega)
    have hd4 := aux hQ0 (by omega) (q := R1 / a) (r := R1 % a) (by omega) (init hQ0) hd1
    rw [tdiv_nn _ _ hr1.2.1, wu (R1 / a) (by omega) (by omega), wu (R1 / a * a) (by omega) (by omega), show R1 - R1 / a * a = R1 % a by omega, wu (R1 % a) (by omega) (by omega)]
    refine ⟨by omega, ?_⟩
    refine k17n (fun r q => q * a + r = R1 ∧ Q0 ≤ q ∧ 0 ≤ r ∧ r < 4294967296) (fun r q => q.toNat) ⟨by omega, init hQ0, hd1, by omega⟩ ?_
    rintro r q ⟨g1, g2, g3, g4⟩
    have g5 := aux hQ0 (by omega) g1 g2 g3
    have j3 : ∀ nx, (Q0 ≤ q - 1) → (r + a < 4294967296 → nx ((p2 * P : Int), (s : Int), a, b, (L % 4294967296 : Int), Q1, (r + a : Int), R1, (q - 1 : Int), ())) → kaj (((p0 * 18446744073709551616 + p1) / p2 : Int), ((p0 * 18446744073709551616 + p1) % p2 : Int), ()) nx ((p2 * P : Int), (s : Int), a, b, (L % 4294967296 : Int), Q1, r, R1, q, ()) := by
      intro nx hq hnx
      refine k13m ?_
      rw [wu (q - 1) (by omega) (by omega), wu (r + a) (by omega) (by omega)]
      refine ⟨fun hd => ?_, fun hd => hnx (by simpa using hd)⟩
      have hd : 4294967296 ≤ r + a := of_decide_eq_true hd
      rw [hQ0.done (q := q - 1) (r := r + a) (by grind) hq hd]
      exact j4
    have nxt : Q0 ≤ q - 1 → r + a < 4294967296 → ((q - 1) * a + (r + a) = R1 ∧ Q0 ≤ q - 1 ∧ 0 ≤ r + a ∧ r + a < 4294967296) ∧ (q - 1).toNat < q.toNat := fun h1 h2 => ⟨⟨by grind, h1, by omega, h2⟩, by omega⟩
    refine ⟨fun hd => j3 _ (hQ0.down g1 (.inl (of_decide_eq_true hd))) fun h1 => ?_, fun hd => ?_⟩
    · obtain ⟨n1, n2⟩ := nxt (hQ0.down g1 (.inl (of_decide_eq_true hd))) h1
      exact ⟨⟨⟨rfl, rfl, rfl, rfl, rfl, rfl, rfl⟩, n1⟩, n2⟩
    · have hd : q < 4294967296 := by simpa using hd
      have hqb : 0 ≤ q * b ∧ q * b < 18446744073709551616 := by
        have := hQ0.hb
        have h1 : q * b ≤ 4294967295 * 4294967295 := Int.mul_le_mul (by omega) (by omega) (by omega) (by omega)
        exact ⟨Int.mul_nonneg (by omega) (by omega), by omega⟩
      have := hQ0.hx
      rw [wu (q * b) (by omega) (by omega), wu (4294967296 * r) (by omega) (by omega), wu (4294967296 * r + L % 4294967296) (by omega) (by omega)]
      refine ⟨fun ht => ?_, fun ht => ?_⟩
      · have ht : 4294967296 * r + L % 4294967296 < q * b := of_decide_eq_true ht
        have hdn := hQ0.down g1 (.inr (by omega))
        refine j3 _ hdn fun h1 => ?_
        obtain ⟨n1, n2⟩ := nxt hdn h1
        exact ⟨⟨⟨rfl, rfl, rfl, rfl, rfl, rfl, rfl⟩, n1⟩, n2⟩
      · have ht : ¬ (4294967296 * r + L % 4294967296 < q * b) := of_decide_eq_false ht
        rw [hQ0.exit g1 g2 (by omega)]
        exact j4
  have hd := Int.emod_add_mul_ediv U a
  have hd1 := Int.emod_nonneg U (by omega : a ≠ 0)
  have hd2 := Int.emod_lt_of_pos U (by omega : 0 < a)
  have hd3 : 0 ≤ U / a := Int.ediv_nonneg (by omega) (by omega)
  rw [Int.mul_comm] at hd
  have hd5 : 0 ≤ U / a * a := Int.mul_nonneg hd3 (by omega)
  have hd4 := aux hQ1 (by omega) (q := U / a) (r := U % a) (by omega) (init hQ1) hd1
  rw [tdiv_nn _ _ (by omega), wu (U / a) (by omega) (by omega), wu (U / a * a) (by omega) (by omega), show U - U / a * a = U % a by omega, wu (U % a) (by omega) (by omega)]
  refine ⟨⟨by omega, h2.2⟩, by omega, by omega, by omega, by omega, by omega, ?_⟩
  refine k178 (fun q r => q * a + r = U ∧ Q1 ≤ q ∧ 0 ≤ r ∧ r < 4294967296) (fun q r => q.toNat) ⟨by omega, init hQ1, hd1, by omega⟩ ?_
  rintro q r ⟨g1, g2, g3, g4⟩
  have g5 := aux hQ1 (by omega) g1 g2 g3
  have j1 : ∀ nx, (Q1 ≤ q - 1) → (r + a < 4294967296 → nx ((p2 * P : Int), (s : Int), a, b, U, (L / 4294967296 : Int), (L % 4294967296 : Int), (q - 1 : Int), (r + a : Int), ())) → kak (((p0 * 18446744073709551616 + p1) / p2 : Int), ((p0 * 18446744073709551616 + p1) % p2 : Int), ()) nx ((p2 * P : Int), (s : Int), a, b, U, (L / 4294967296 : Int), (L % 4294967296 : Int), q, r, ()) := by
    intro nx hq hnx
    refine k13v ?_
    rw [wu (q - 1) (by omega) (by omega), wu (r + a) (by omega) (by omega)]
    refine ⟨fun hd => ?_, fun hd => hnx (by simpa using hd)⟩
    have hd : 4294967296 ≤ r + a := of_decide_eq_true hd
    rw [hQ1.done (q := q - 1) (r := r + a) (by grind) hq hd]
    exact j2
  have nxt : Q1 ≤ q - 1 → r + a < 4294967296 → ((q - 1) * a + (r + a) = U ∧ Q1 ≤ q - 1 ∧ 0 ≤ r + a ∧ r + a < 4294967296) ∧ (q - 1).toNat < q.toNat := fun h1 h2 => ⟨⟨by grind, h1, by omega, h2⟩, by omega⟩
  refine ⟨fun hd => j1 _ (hQ1.down g1 (.inl (of_decide_eq_true hd))) fun h1 => ?_, fun hd => ?_⟩
  · obtain ⟨n1, n2⟩ := nxt (hQ1.down g1 (.inl (of_decide_eq_true hd))) h1
    exact ⟨⟨⟨rfl, rfl, rfl, rfl, rfl, rfl, rfl⟩, n1⟩, n2⟩
  · have hd : q < 4294967296 := by simpa using hd
    have hqb : 0 ≤ q * b ∧ q * b < 18446744073709551616 := by
      have := hQ1.hb
      have h1 : q * b ≤ 4294967295 * 4294967295 := Int.mul_le_mul (by omega) (by omega) (by omega) (by omega)
      exact ⟨Int.mul_nonneg (by omega) (by omega), by omega⟩
    have := hQ1.hx
    rw [wu (q * b) (by omega) (by omega), wu (4294967296 * r) (by omega) (by omega), wu (4294967296 * r + L / 4294967296) (by omega) (by omega)]
    refine ⟨fun ht => ?_, fun ht => ?_⟩
    · have ht : 4294967296 * r + L / 4294967296 < q * b := of_decide_eq_true ht
      have hdn := hQ1.down g1 (.inr (by omega))
      refine j1 _ hdn fun h1 => ?_
      obtain ⟨n1, n2⟩ := nxt hdn h1
      exact ⟨⟨⟨rfl, rfl, rfl, rfl, rfl, rfl, rfl⟩, n1⟩, n2⟩
    · have ht : ¬ (4294967296 * r + L / 4294967296 < q * b) := of_decide_eq_false ht
      rw [hQ1.exit g1 g2 (by omega)]
      exact j2
noncomputable def kpw : Con TB.den := k2s.fnR (fun x => (fun (p0 : Int) (p1 : Int) (p2 : Int) => U64 p0 ∧ U64 p1 ∧ U64 p2 ∧ p0 < p2) x.1 x.2.1 x.2.2.1) fun x => ((fun (p0 : Int) (p1 : Int) (p2 : Int) => (((p0 * 18446744073709551616 + p1) / p2) : Int)) x.1 x.2.1 x.2.2.1, (fun (p0 : Int) (p1 : Int) (p2 : Int) => (((p0 * 18446744073709551616 + p1) % p2) : Int)) x.1 x.2.1 x.2.2.1, ())
theorem kyv : kpw.Ok Try.prog TB := Con.ok_fn k2s bd67 fun x h => k16v (k16j x.1 x.2.1 x.2.2.1 h)
end Go.Proofs.Ytponaobpcdkggaa
namespace Go.Proofs.Ytponaobpcdkggaa
open Go Go.Bv Go.Cv Go.Md Go.RowKit
def k4f : Con TB.den := Con.mk0 66 [.one (.d (.int .u64)), .one (.d (.int .u64))] [] (.tup [.one (.d (.int .u64)), .one (.d (.int .u64))]) []
abbrev k106 := HL TB.den (hsT k4f.ins (hsOs k4f.pre))
abbrev kns := HL TB.den (hsV k4f.res (hsOs k4f.post))
noncomputable def kgt : Cx TB := ⟨inf, [], [], 4, []⟩
noncomputable def kn2 : Code := Try.f66.body.getD .skip
noncomputable def kr8 : List ResultVar := Try.f66.results.toList
noncomputable def kz1 (o : kns) : An TB := .no
noncomputable def kno (x : k106) (o : kns) : Prop := WPh TB kgt 51 0 kn2 (kz1 o) (k4f.st TB x) (retTQ TB kgt k4f kr8 o)
set_option maxRecDepth 100000 in
theorem k17f (o : kns) : OblH TB kgt 51 0 kn2 (kz1 o) (retTQ TB kgt k4f kr8 o) :=
  OblH.of_eq (X := (True ∧ (True ∧ (True ∧ (True ∧ (True ∧ (True ∧ (True ∧ (True ∧ (True ∧ (True ∧ (True ∧ (True ∧ True))))))))))))) (by kernel_rfl) ⟨trivial, ⟨trivial, ⟨trivial, ⟨trivial, ⟨trivial, ⟨trivial, ⟨trivial, ⟨trivial, ⟨trivial, ⟨trivial, ⟨trivial, ⟨trivial, trivial⟩⟩⟩⟩⟩⟩⟩⟩⟩⟩⟩⟩
set_option maxRecDepth 100000 in
theorem k16s {x : k106} {o : kns} (h : kno x o) : SoundH Try.prog k4f.f ((k4f.args idf x).map (er TB)) ((k4f.obs idf x).map (erO TB)) (er TB (k4f.val idf o)) ((k4f.ops idf o).map (erO TB)) :=
  Con.soundH (c := k4f) (C := kgt) TBok ⟨inf_ok, all_nil, all_nil⟩ mix Try.func66 (show Try.f66.body = some kn2 by kernel_rfl) (show Try.f66.ntmps = 51 by kernel_rfl) (show Try.f66.results.toList = kr8 by kernel_rfl) rfl h (k17f o)
set_option maxRecDepth 100000 in
theorem k1a6 {p0 : Int} {p1 : Int} {r0 : Int} {r1 : Int} (h :
(let v2 : Int := IntKind.u64.wrap ((iand .u64 p0 4294967295) * (iand .u64 p1 4294967295))
 let v3 : Int := IntKind.u64.wrap ((ishr .u64 p0 32) * (iand .u64 p1 4294967295))
 let v4 : Int := IntKind.u64.wrap (v3 + (ishr .u64 v2 32))
 let v5 : Int := IntKind.u64.wrap ((iand .u64 p0 4294967295) * (ishr .u64 p1 32))
 let v6 : Int := IntKind.u64.wrap ((iand .u64 v4 4294967295) + v5)
 let v7 : Int := IntKind.u64.wrap ((ishr .u64 p0 32) * (ishr .u64 p1 32))
 let v8 : Int := IntKind.u64.wrap (v7 + (ishr .u64 v4 32))
 let v9 : Int := IntKind.u64.wrap (v8 + (ishr .u64 v6 32))
 v9 = r0 ∧ IntKind.u64.wrap (p0 * p1) = r1)) : kno (p0, p1, ()) (r0, r1, ()) := WPh.of_eq (by kernel_rfl) h
theorem bd66 : Callable Try.prog 66 := ⟨by rw [Try.func66]; kernel_rfl, by rw [Try.func66]; show some _ ≠ some _; decide⟩
theorem k164 (p0 : Int) (p1 : Int) (h : U64 p0 ∧ U64 p1) : kno (p0, p1, ()) (((p0 * p1 / 18446744073709551616) : Int), ((p0 * p1 % 18446744073709551616) : Int), ()) := by
  obtain ⟨h0, h1⟩ := h
  have k := k1gg p0 p1 h0 h1
  refine k1a6 ?_
  simp only [klk p0 h0, klk p1 h1, ishr32]
  obtain ⟨e, k1, k2, k3, k4, k5, k6, k7, k8⟩ := k
  rw [← e]
  rw [wu (p0 % 4294967296 * (p1 % 4294967296)) (by omega) (by omega), wu (p0 / 4294967296 * (p1 % 4294967296)) (by omega) (by omega), wu (p0 % 4294967296 * (p1 / 4294967296)) (by omega) (by omega), wu (p0 / 4294967296 * (p1 / 4294967296)) (by omega) (by omega)]
  generalize p0 % 4294967296 * (p1 % 4294967296) = a at *
  generalize p0 / 4294967296 * (p1 % 4294967296) = b at *
  generalize p0 % 4294967296 * (p1 / 4294967296) = c at *
  generalize p0 / 4294967296 * (p1 / 4294967296) = d at *
  rw [wu (b + a / 4294967296) (by omega) (by omega), klk _ (by omega)]
  simp only [u64w]
  refine ⟨?_, trivial⟩
  omega
noncomputable def kou : Con TB.den := k4f.fnR (fun x => (fun (p0 : Int) (p1 : Int) => U64 p0 ∧ U64 p1) x.1 x.2.1) fun x => ((fun (p0 : Int) (p1 : Int) => ((p0 * p1 / 18446744073709551616) : Int)) x.1 x.2.1, (fun (p0 : Int) (p1 : Int) => ((p0 * p1 % 18446744073709551616) : Int)) x.1 x.2.1, ())
theorem kyq : kou.Ok Try.prog TB := Con.ok_fn k4f bd66 fun x h => k16s (k164 x.1 x.2.1 h)
end Go.Proofs.Ytponaobpcdkggaa
namespace Go.Proofs.Ytponaobpcdkggaa
open Go Go.Bv Go.Cv Go.Md Go.RowKit
def k4v : Con TB.den := Con.mk0 74 [.agg [.d (.int .u64)], .one (.d (.int .u64)), .one (.d (.int .u64))] [] (.one (.one (.d (.int .u64)))) []
abbrev k12r := HL TB.den (hsT k4v.ins (hsOs k4v.pre))
abbrev kq6 := HL TB.den (hsV k4v.res (hsOs k4v.post))
noncomputable def ki3 : Cx TB := ⟨inf, [kou, kpw], [], 4, []⟩
noncomputable def kph : Code := Try.f74.body.getD .skip
noncomputable def ktb : List ResultVar := Try.f74.results.toList
noncomputable def kzi (o : kq6) : An TB := .no
noncomputable def kpi (x : k12r) (o : kq6) : Prop := WPh TB ki3 26 0 kph (kzi o) (k4v.st TB x) (retTQ TB ki3 k4v ktb o)
set_option maxRecDepth 100000 in
theorem k1a4 (o : kq6) : OblH TB ki3 26 0 kph (kzi o) (retTQ TB ki3 k4v ktb o) :=
  OblH.of_eq (X := (True ∧ (True ∧ (True ∧ (True ∧ True))))) (by kernel_rfl) ⟨trivial, ⟨trivial, ⟨trivial, ⟨trivial, trivial⟩⟩⟩⟩
set_option maxRecDepth 100000 in
theorem k1a1 {x : k12r} {o : kq6} (h : kpi x o) : SoundH Try.prog k4v.f ((k4v.args idf x).map (er TB)) ((k4v.obs idf x).map (erO TB)) (er TB (k4v.val idf o)) ((k4v.ops idf o).map (erO TB)) :=
  Con.soundH (c := k4v) (C := ki3) TBok ⟨inf_ok, (all_cons kyq (all_cons kyv all_nil)), all_nil⟩ mix Try.func74 (show Try.f74.body = some kph by kernel_rfl) (show Try.f74.ntmps = 26 by kernel_rfl) (show Try.f74.results.toList = ktb by kernel_rfl) rfl h (k1a4 o)
set_option maxRecDepth 100000 in
theorem k1ae {p0 : TField} {p1 : Int} {p2 : Int} {r0 : Int} (h :
((U64 p1 ∧ U64 p2) ∧ (U64 (p1 * p2 / 18446744073709551616) ∧ U64 (p1 * p2 % 18446744073709551616) ∧ U64 p0.P ∧ (p1 * p2 / 18446744073709551616) < p0.P) ∧ let r1 : Int := (((p1 * p2 / 18446744073709551616) * 18446744073709551616 + (p1 * p2 % 18446744073709551616)) / p0.P)
 let r2 : Int := (((p1 * p2 / 18446744073709551616) * 18446744073709551616 + (p1 * p2 % 18446744073709551616)) % p0.P)
 r2 = r0)) : kpi (p0.P, p1, p2, ()) (r0, ()) := WPh.of_eq (by kernel_rfl) h
theorem bd74 : Callable Try.prog 74 := ⟨by rw [Try.func74]; kernel_rfl, by rw [Try.func74]; show some _ ≠ some _; decide⟩
theorem k17p (p0 : TField) (p1 : Int) (p2 : Int) (h : p0.P = 18446744069414584321 ∧ (0 ≤ p1 ∧ p1 < 18446744069414584321) ∧ (0 ≤ p2 ∧ p2 < 18446744069414584321)) : kpi (p0.P, p1, p2, ()) (((p1 * p2 % 18446744069414584321) : Int), ()) := by
  obtain ⟨hP, h1, h2⟩ := h
  have h3 : 0 ≤ p1 * p2 := Int.mul_nonneg h1.1 h2.1
  have h4 : p1 * p2 ≤ 18446744069414584320 * 18446744069414584320 := Int.mul_le_mul (by omega) (by omega) h2.1 (by omega)
  refine k1ae ⟨⟨by omega, by omega⟩, ?_⟩
  simp only [hP]
  generalize p1 * p2 = m at *
  refine ⟨⟨⟨by omega, by omega⟩, ⟨by omega, by omega⟩, by omega, by omega⟩, ?_⟩
  rw [show m / 18446744073709551616 * 18446744073709551616 + m % 18446744073709551616 = m by omega]
noncomputable def kqy : Con TB.den := k4v.fnR (fun x => (fun (p0 : TField) (p1 : Int) (p2 : Int) => p0.P = 18446744069414584321 ∧ (0 ≤ p1 ∧ p1 < 18446744069414584321) ∧ (0 ≤ p2 ∧ p2 < 18446744069414584321)) (TField.mk x.1) x.2.1 x.2.2.1) fun x => ((fun (p0 : TField) (p1 : Int) (p2 : Int) => ((p1 * p2 % 18446744069414584321) : Int)) (TField.mk x.1) x.2.1 x.2.2.1, ())
theorem k102 : kqy.Ok Try.prog TB := Con.ok_fn k4v bd74 fun x h => k1a1 (k17p (TField.mk x.1) x.2.1 x.2.2.1 h)
end Go.Proofs.Ytponaobpcdkggaa
namespace Go.Proofs.Ytponaobpcdkggaa
open Go Go.Bv Go.Cv Go.Md Go.RowKit
def k4u : Con TB.den := Con.mk0 53 [.agg [.d (.int .u64)], .one (.d (.int .u64)), .one (.d (.int .u64))] [] (.one (.one (.d (.int .u64)))) []
abbrev k12n := HL TB.den (hsT k4u.ins (hsOs k4u.pre))
abbrev kq7 := HL TB.den (hsV k4u.res (hsOs k4u.post))
noncomputable def khs : Cx TB := ⟨inf, [k8y, kb8, kqy], [], 4, []⟩
noncomputable def kpu : Code := Try.f53.body.getD .skip
noncomputable def ksi : List ResultVar := Try.f53.results.toList
noncomputable def kzk (o : kq7) : An TB := .no
noncomputable def kpq (x : k12n) (o : kq7) : Prop := WPh TB khs 18 0 kpu (kzk o) (k4u.st TB x) (retTQ TB khs k4u ksi o)
set_option maxRecDepth 100000 in
theorem k19o (o : kq7) : OblH TB khs 18 0 kpu (kzk o) (retTQ TB khs k4u ksi o) :=
  OblH.of_eq (X := (True ∧ ((True ∧ ((True ∧ True) ∧ True)) ∧ (True ∧ True)))) (by kernel_rfl) ⟨trivial, ⟨⟨trivial, ⟨⟨trivial, trivial⟩, trivial⟩⟩, ⟨trivial, trivial⟩⟩⟩
set_option maxRecDepth 100000 in
theorem k19u {x : k12n} {o : kq7} (h : kpq x o) : SoundH Try.prog k4u.f ((k4u.args idf x).map (er TB)) ((k4u.obs idf x).map (erO TB)) (er TB (k4u.val idf o)) ((k4u.ops idf o).map (erO TB)) :=
  Con.soundH (c := k4u) (C := khs) TBok ⟨inf_ok, (all_cons kbr (all_cons kgh (all_cons k102 all_nil))), all_nil⟩ mix Try.func53 (show Try.f53.body = some kpu by kernel_rfl) (show Try.f53.ntmps = 18 by kernel_rfl) (show Try.f53.results.toList = ksi by kernel_rfl) rfl h (k19o o)
set_option maxRecDepth 100000 in
theorem k1c5 {p0 : TField} {p1 : Int} {p2 : Int} {r0 : Int} (h :
((p0.P = 18446744069414584321) ∧ ((!true) = true →
 0 = r0) ∧
((!true) = false →
(0 < p0.P ∧ 0 ≤ p1) ∧ (0 < p0.P ∧ 0 ≤ p2) ∧ (p0.P = 18446744069414584321 ∧ (0 ≤ (p1 % p0.P) ∧ (p1 % p0.P) < 18446744069414584321) ∧ (0 ≤ (p2 % p0.P) ∧ (p2 % p0.P) < 18446744069414584321)) ∧ let r1 : Int := ((p1 % p0.P) * (p2 % p0.P) % 18446744069414584321)
 r1 = r0))) : kpq (p0.P, p1, p2, ()) (r0, ()) := WPh.of_eq (by kernel_rfl) h
theorem bd53 : Callable Try.prog 53 := ⟨by rw [Try.func53]; kernel_rfl, by rw [Try.func53]; show some _ ≠ some _; decide⟩
theorem k17t (p0 : TField) (p1 : Int) (p2 : Int) (h : p0.P = 18446744069414584321 ∧ U64 p1 ∧ U64 p2) : kpq (p0.P, p1, p2, ()) (((p1 * p2 % 18446744069414584321) : Int), ()) := by
  obtain ⟨hP, h1, h2⟩ := h
  refine k1c5 ⟨hP, ?_⟩
  simp only [hP]
  refine ⟨fun h => by simp at h, fun _ => ⟨by omega, by omega, ⟨by trivial, by omega, by omega⟩, ?_⟩⟩
  exact (Int.mul_emod _ _ _).symm
noncomputable def kyf : Con TB.den := k4u.fnR (fun x => (fun (p0 : TField) (p1 : Int) (p2 : Int) => p0.P = 18446744069414584321 ∧ U64 p1 ∧ U64 p2) (TField.mk x.1) x.2.1 x.2.2.1) fun x => ((fun (p0 : TField) (p1 : Int) (p2 : Int) => ((p1 * p2 % 18446744069414584321) : Int)) (TField.mk x.1) x.2.1 x.2.2.1, ())
theorem k1co : kyf.Ok Try.prog TB := Con.ok_fn k4u bd53 fun x h => k19u (k17t (TField.mk x.1) x.2.1 x.2.2.1 h)
end Go.Proofs.Ytponaobpcdkggaa
namespace Go.Proofs.Ytponaobpcdkggaa
open Go Go.Bv Go.Cv Go.Md Go.RowKit
def k2z : Con TB.den := Con.mk0 88 [.agg [.d (.int .u64)]] [] (.tup [.one (.d (.int .u64)), .one (.d (.int .i64)), .one (.d (.int .u64))]) []
abbrev kud := HL TB.den (hsT k2z.ins (hsOs k2z.pre))
abbrev khh := HL TB.den (hsV k2z.res (hsOs k2z.post))
noncomputable def kcf : Cx TB := ⟨inf, [], [], 4, []⟩
noncomputable def kho : Code := Try.f88.body.getD .skip
noncomputable def kme : List ResultVar := Try.f88.results.toList
noncomputable def ksz (o : khh) : An TB := .no
noncomputable def kiz (x : kud) (o : khh) : Prop := WPh TB kcf 21 0 kho (ksz o) (k2z.st TB x) (retTQ TB kcf k2z kme o)
set_option maxRecDepth 100000 in
theorem k11m (o : khh) : OblH TB kcf 21 0 kho (ksz o) (retTQ TB kcf k2z kme o) :=
  OblH.of_eq (X := (True ∧ ((True ∧ (True ∧ ((True ∧ True) ∧ (True ∧ ((True ∧ True) ∧ (True ∧ ((True ∧ True) ∧ (True ∧ ((True ∧ True) ∧ (True ∧ ((True ∧ True) ∧ (True ∧ ((True ∧ True) ∧ (True ∧ ((True ∧ True) ∧ True))))))))))))))) ∧ (True ∧ True)))) (by kernel_rfl) ⟨trivial, ⟨⟨trivial, ⟨trivial, ⟨⟨trivial, trivial⟩, ⟨trivial, ⟨⟨trivial, trivial⟩, ⟨trivial, ⟨⟨trivial, trivial⟩, ⟨trivial, ⟨⟨trivial, trivial⟩, ⟨trivial, ⟨⟨trivial, trivial⟩, ⟨trivial, ⟨⟨trivial, trivial⟩, ⟨trivial, ⟨⟨trivial, trivial⟩, trivial⟩⟩⟩⟩⟩⟩⟩⟩⟩⟩⟩⟩⟩⟩⟩, ⟨trivial, trivial⟩⟩⟩
set_option maxRecDepth 100000 in
theorem k11v {x : kud} {o : khh} (h : kiz x o) : SoundH Try.prog k2z.f ((k2z.args idf x).map (er TB)) ((k2z.obs idf x).map (erO TB)) (er TB (k2z.val idf o)) ((k2z.ops idf o).map (erO TB)) :=
  Con.soundH (c := k2z) (C := kcf) TBok ⟨inf_ok, all_nil, all_nil⟩ mix Try.func88 (show Try.f88.body = some kho by kernel_rfl) (show Try.f88.ntmps = 21 by kernel_rfl) (show Try.f88.results.toList = kme by kernel_rfl) rfl h (k11m o)
set_option maxRecDepth 100000 in
theorem k132 {p0 : TField} {r0 : Int} {r1 : Int} {r2 : Int} (h :
(((p0.P == 17) = true →
 3 = r0 ∧ 4 = r1 ∧ 3 = r2) ∧
((p0.P == 17) = false →
((p0.P == 97) = true →
 5 = r0 ∧ 5 = r1 ∧ 5 = r2) ∧
((p0.P == 97) = false →
((p0.P == 193) = true →
 5 = r0 ∧ 6 = r1 ∧ 5 = r2) ∧
((p0.P == 193) = false →
((p0.P == 257) = true →
 3 = r0 ∧ 8 = r1 ∧ 3 = r2) ∧
((p0.P == 257) = false →
((p0.P == 12289) = true →
 11 = r0 ∧ 12 = r1 ∧ 5 = r2) ∧
((p0.P == 12289) = false →
((p0.P == 65537) = true →
 3 = r0 ∧ 16 = r1 ∧ 3 = r2) ∧
((p0.P == 65537) = false →
((p0.P == 18446744069414584321) = true →
 7 = r0 ∧ 32 = r1 ∧ 7 = r2) ∧
((p0.P == 18446744069414584321) = false →
 0 = r0 ∧ 0 = r1 ∧ 0 = r2))))))))) : kiz (p0.P, ()) (r0, r1, r2, ()) := WPh.of_eq (by kernel_rfl) h
theorem bd88 : Callable Try.prog 88 := ⟨by rw [Try.func88]; kernel_rfl, by rw [Try.func88]; show some _ ≠ some _; decide⟩
theorem k113 (p0 : TField) (h : p0.P = 18446744069414584321) : kiz (p0.P, ()) ((7 : Int), (32 : Int), (7 : Int), ()) := by
  refine k132 ?_
  simp [h]
noncomputable def krg : Con TB.den := k2z.fnR (fun x => (fun (p0 : TField) => p0.P = 18446744069414584321) (TField.mk x.1)) fun x => ((fun (p0 : TField) => (7 : Int)) (TField.mk x.1), (fun (p0 : TField) => (32 : Int)) (TField.mk x.1), (fun (p0 : TField) => (7 : Int)) (TField.mk x.1), ())
theorem k144 : krg.Ok Try.prog TB := Con.ok_fn k2z bd88 fun x h => k11v (k113 (TField.mk x.1) h)
end Go.Proofs.Ytponaobpcdkggaa
namespace Go.Proofs.Ytponaobpcdkggaa
open Go Go.Bv Go.Cv Go.Md Go.RowKit
def k2l : Con TB.den := Con.mk0 75 [.agg [.d (.int .u64)]] [] (.one (.one (.d (.int .u64)))) []
abbrev kt2 := HL TB.den (hsT k2l.ins (hsOs k2l.pre))
abbrev kgb := HL TB.den (hsV k2l.res (hsOs k2l.post))
noncomputable def kb9 : Cx TB := ⟨inf, [krg], [], 4, []⟩
noncomputable def kh3 : Code := Try.f75.body.getD .skip
noncomputable def kkt : List ResultVar := Try.f75.results.toList
noncomputable def krk (o : kgb) : An TB := .no
noncomputable def kh2 (x : kt2) (o : kgb) : Prop := WPh TB kb9 13 0 kh3 (krk o) (k2l.st TB x) (retTQ TB kb9 k2l kkt o)
set_option maxRecDepth 100000 in
theorem kzq (o : kgb) : OblH TB kb9 13 0 kh3 (krk o) (retTQ TB kb9 k2l kkt o) :=
  OblH.of_eq (X := (True ∧ (True ∧ (True ∧ True)))) (by kernel_rfl) ⟨trivial, ⟨trivial, ⟨trivial, trivial⟩⟩⟩
set_option maxRecDepth 100000 in
theorem kzj {x : kt2} {o : kgb} (h : kh2 x o) : SoundH Try.prog k2l.f ((k2l.args idf x).map (er TB)) ((k2l.obs idf x).map (erO TB)) (er TB (k2l.val idf o)) ((k2l.ops idf o).map (erO TB)) :=
  Con.soundH (c := k2l) (C := kb9) TBok ⟨inf_ok, (all_cons k144 all_nil), all_nil⟩ mix Try.func75 (show Try.f75.body = some kh3 by kernel_rfl) (show Try.f75.ntmps = 13 by kernel_rfl) (show Try.f75.results.toList = kkt by kernel_rfl) rfl h (kzq o)
set_option maxRecDepth 100000 in
theorem k11b {p0 : TField} {r0 : Int} (h :
((p0.P = 18446744069414584321) ∧ 7 = r0)) : kh2 (p0.P, ()) (r0, ()) := WPh.of_eq (by kernel_rfl) h
theorem bd75 : Callable Try.prog 75 := ⟨by rw [Try.func75]; kernel_rfl, by rw [Try.func75]; show some _ ≠ some _; decide⟩
theorem kzd (p0 : TField) (h : p0.P = 18446744069414584321) : kh2 (p0.P, ()) ((7 : Int), ()) := by
  exact k11b ⟨h, rfl⟩
noncomputable def kqo : Con TB.den := k2l.fnR (fun x => (fun (p0 : TField) => p0.P = 18446744069414584321) (TField.mk x.1)) fun x => ((fun (p0 : TField) => (7 : Int)) (TField.mk x.1), ())
theorem k11g : kqo.Ok Try.prog TB := Con.ok_fn k2l bd75 fun x h => kzj (kzd (TField.mk x.1) h)
end Go.Proofs.Ytponaobpcdkggaa
namespace Go.Proofs.Ytponaobpcdkggaa
open Go Go.Bv Go.Cv Go.Md Go.RowKit
def k3z : Con TB.den := Con.mk0 89 [.agg [.d (.int .u64)], .one (.d (.int .u64)), .one (.d (.int .u64))] [] (.one (.one (.d (.int .u64)))) []
abbrev k12c := HL TB.den (hsT k3z.ins (hsOs k3z.pre))
abbrev k7n := HL TB.den (hsV k3z.res (hsOs k3z.post))
noncomputable def k7o : Cx TB := ⟨inf, [kqy], [], 4, []⟩
noncomputable def kbs : Code := Try.f89.body.getD .skip
noncomputable def kij : List ResultVar := Try.f89.results.toList
noncomputable def k1c2 (o : k7n) : Exit → TSt TB.den → Prop := thenT TB (fun s => ghs TB [] s fun s => WP TB k7o 26 0 (cB (cB (cB kbs))) .no s (retTQ TB k7o k3z kij o)) (retTQ TB k7o k3z kij o)
def k6e : Tm := ⟨[0], [.cells [.d (.int .u64)]], [1, 2, 3, 7], [.one (.d (.int .u64)), .one (.d (.int .u64)), .one (.ptr 0 0), .one (.d (.int .u64))], 1⟩
noncomputable def kzu (o : k7n) (nx1 : HL TB.den k6e.hs → Prop) : Exit → TSt TB.den → Prop := thenT TB (fun s => k6e.mat TB 0 s nx1) (blockT TB 0 (k1c2 o))
def kln : Tm := ⟨[0], [.cells [.d (.int .u64)]], [1, 2, 3, 7], [.one (.d (.int .u64)), .one (.d (.int .u64)), .one (.ptr 0 0), .one (.d (.int .u64))], 1⟩
noncomputable def kyw (o : k7n) (nx1 : HL TB.den k6e.hs → Prop) (i : HL TB.den kln.hs) : Prop := ghs TB [] (kln.fill TB i) fun s => WP TB k7o 26 0 (cB (cA (cB (cA (cA (cA (cB (cB kbs)))))))) .no s (blockT TB 1 (kzu o nx1))
structure keb (o : k7n) (nx1 : HL TB.den k6e.hs → Prop) (i : HL TB.den kln.hs) : Prop where
  h : kyw o nx1 i
noncomputable def k10k (o : k7n) (nx1 : HL TB.den k6e.hs → Prop) : An TB := .nd [] .no [] (.jn kln (keb o nx1) [] .no [] .no)
noncomputable def kit (o : k7n) (nx1 : HL TB.den k6e.hs → Prop) (i : HL TB.den k6e.hs) : Prop := WP TB k7o 26 0 (cA (cA (cA (cB (cB kbs))))) (k10k o nx1) (k6e.fill TB i) (kzu o nx1)
noncomputable def k1c3 (o : k7n) : An TB := .lp [] k6e (kit o) fun nx1 => (k10k o nx1)
noncomputable def k10v (o : k7n) : An TB := .nd [] .no [] (.nd [] .no [] (.nd [] (k1c3 o) [] .no))
noncomputable def kpb (x : k12c) (o : k7n) : Prop := WPh TB k7o 26 0 kbs (k10v o) (k3z.st TB x) (retTQ TB k7o k3z kij o)
set_option maxRecDepth 100000 in
theorem k19c (o : k7n) : OblH TB k7o 26 0 kbs (k10v o) (retTQ TB k7o k3z kij o) :=
  OblH.of_eq (X := (True ∧ (True ∧ (((∀ nx i, (kit o) nx i = (kit o) nx i) ∧ ∀ nx1 : HL TB.den k6e.hs → Prop, ((True ∧ (True ∧ True)) ∧ ((True ∧ (True ∧ True)) ∧ (∀ i, (keb o nx1) i = (kyw o nx1) i) ∧ (True ∧ (True ∧ (True ∧ True)))))) ∧ (True ∧ True))))) (by kernel_rfl) ⟨trivial, ⟨trivial, ⟨⟨fun _ _ => rfl, fun _ => ⟨⟨trivial, ⟨trivial, trivial⟩⟩, ⟨⟨trivial, ⟨trivial, trivial⟩⟩, fun _ => propext ⟨fun h => h.1, fun h => ⟨h⟩⟩, ⟨trivial, ⟨trivial, ⟨trivial, trivial⟩⟩⟩⟩⟩⟩, ⟨trivial, trivial⟩⟩⟩⟩
set_option maxRecDepth 100000 in
theorem k19n {x : k12c} {o : k7n} (h : kpb x o) : SoundH Try.prog k3z.f ((k3z.args idf x).map (er TB)) ((k3z.obs idf x).map (erO TB)) (er TB (k3z.val idf o)) ((k3z.ops idf o).map (erO TB)) :=
  Con.soundH (c := k3z) (C := k7o) TBok ⟨inf_ok, (all_cons k102 all_nil), all_nil⟩ mix Try.func89 (show Try.f89.body = some kbs by kernel_rfl) (show Try.f89.ntmps = 26 by kernel_rfl) (show Try.f89.results.toList = kij by kernel_rfl) rfl h (k19c o)
set_option maxRecDepth 100000 in
theorem k1bz {p0 : TField} {p1 : Int} {p2 : Int} {r0 : Int} (h :
(Md.Loop (p1, p2, (1 : Int), p0.P, ()) (kit (r0, ())))) : kpb (p0.P, p1, p2, ()) (r0, ()) := WPh.of_eq (by kernel_rfl) h
set_option maxRecDepth 100000 in
theorem k16g {r0 : Int} {nx1 : HL TB.den k6e.hs → Prop} {s1 : Int} {s2 : Int} {s7 : Int} {h0_0 : Int} (h :
((decide (0 < (ishr .u64 s2 1)) = true →
((TField.mk h0_0).P = 18446744069414584321 ∧ (0 ≤ s1 ∧ s1 < 18446744069414584321) ∧ (0 ≤ s1 ∧ s1 < 18446744069414584321)) ∧ nx1 (((s1 * s1 % 18446744069414584321) : Int), (ishr .u64 s2 1 : Int), s7, h0_0, ())) ∧
(decide (0 < (ishr .u64 s2 1)) = false →
 nx1 (s1, (ishr .u64 s2 1 : Int), s7, h0_0, ())))) : keb (r0, ()) nx1 (s1, s2, s7, h0_0, ()) := ⟨mpr_of (by kernel_rfl) h⟩
def k10m (r0 : Int) (nx1 : HL TB.den k6e.hs → Prop) (k1 : Int → Int → Int → Prop) (h0_0 : Int) (s1 : Int) (s2 : Int) (s7 : Int) : Prop :=
(decide (0 < s2) = true →
(((iand .u64 s2 1) == 1) = true →
((TField.mk h0_0).P = 18446744069414584321 ∧ (0 ≤ s7 ∧ s7 < 18446744069414584321) ∧ (0 ≤ s1 ∧ s1 < 18446744069414584321)) ∧ keb (r0, ()) nx1 (s1, s2, ((s7 * s1 % 18446744069414584321) : Int), h0_0, ())) ∧
(((iand .u64 s2 1) == 1) = false →
 keb (r0, ()) nx1 (s1, s2, s7, h0_0, ()))) ∧
(decide (0 < s2) = false →
 s7 = r0)
set_option maxRecDepth 100000 in
theorem k19h {r0 : Int} {h0_0 : Int} {s1 : Int} {s2 : Int} {s7 : Int} (inv : Int → Int → Int → Prop) (μ : Int → Int → Int → Nat) (h0 : inv s1 s2 s7) (hs : ∀ (s1 : Int) (s2 : Int) (s7 : Int), inv s1 s2 s7 → k10m r0 (fun s : Int × Int × Int × Int × Unit => ((s.2.2.2.1 = h0_0) ∧ inv s.1 s.2.1 s.2.2.1) ∧ μ s.1 s.2.1 s.2.2.1 < μ s1 s2 s7) (fun s1q s2q s7q => inv s1q s2q s7q ∧ μ s1q s2q s7q < μ s1 s2 s7) h0_0 s1 s2 s7) : Md.Loop (s1, s2, s7, h0_0, ()) (kit (r0, ())) :=
  ⟨⟨fun s : Int × Int × Int × Int × Unit => (s.2.2.2.1 = h0_0) ∧ inv s.1 s.2.1 s.2.2.1, fun s : Int × Int × Int × Int × Unit => μ s.1 s.2.1 s.2.2.1, ⟨rfl, h0⟩, fun (s1p, s2p, s7p, h0_0p, ()) ⟨eq0, hi⟩ => by
    have eq0 : h0_0p = h0_0 := eq0; subst h0_0p; exact mpr_of (by kernel_rfl) ((congrArg (fun k => k10m r0 (fun s : Int × Int × Int × Int × Unit => ((s.2.2.2.1 = h0_0) ∧ inv s.1 s.2.1 s.2.2.1) ∧ μ s.1 s.2.1 s.2.2.1 < μ s1p s2p s7p) k h0_0 s1p s2p s7p) (lpk3 (rfl : h0_0 = h0_0) inv (fun s1q s2q s7q => μ s1q s2q s7q < μ s1p s2p s7p))).mpr (hs s1p s2p s7p hi))⟩⟩
theorem bd89 : Callable Try.prog 89 := ⟨by rw [Try.func89]; kernel_rfl, by rw [Try.func89]; show some _ ≠ some _; decide⟩
theorem k170 (p0 : TField) (p1 : Int) (p2 : Int) (h : p0.P = 18446744069414584321 ∧ (0 ≤ p1 ∧ p1 < 18446744069414584321) ∧ U64 p2) : kpb (p0.P, p1, p2, ()) (((pw p1 p2) : Int), ()) := by
  obtain ⟨hP, h1, h2⟩ := h
  refine k1bz ?_
  rw [hP]
  refine k19h (fun a e r => (0 ≤ a ∧ a < 18446744069414584321) ∧ U64 e ∧ (0 ≤ r ∧ r < 18446744069414584321) ∧ (r * a ^ e.toNat) % 18446744069414584321 = pw p1 p2) (fun a e r => e.toNat) ⟨h1, h2, by omega, by rw [Int.one_mul]; rfl⟩ ?_
  rintro a e r ⟨ha, he, hr, hv⟩
  have jj : ∀ nx r', (0 ≤ r' ∧ r' < 18446744069414584321) → 0 < e → (r' * (a * a) ^ (e / 2).toNat) % 18446744069414584321 = pw p1 p2 → (∀ a', (0 ≤ a' ∧ a' < 18446744069414584321) → r' * a' ^ (e / 2).toNat % 18446744069414584321 = pw p1 p2 → nx (a', (e / 2 : Int), r', (18446744069414584321 : Int), ())) → keb ((pw p1 p2 : Int), ()) nx (a, e, r', (18446744069414584321 : Int), ()) := by
    intro nx r' hr' he' hv' hn
    refine k16g ?_
    rw [ishr1]
    refine ⟨fun h => ⟨⟨rfl, ha, ha⟩, ?_⟩, fun h => ?_⟩
    · refine hn _ ⟨Int.emod_nonneg _ (by omega), Int.emod_lt_of_pos _ (by omega)⟩ ?_
      rw [← hv', Int.mul_emod, Int.mul_emod r' ((a * a) ^ _), kxu]
    · have h : ¬ 0 < e / 2 := of_decide_eq_false h
      refine hn _ ha ?_
      rw [show (e / 2).toNat = 0 by omega] at hv' ⊢
      simpa using hv'
  refine ⟨fun h => ?_, fun h => ?_⟩
  · have h := of_decide_eq_true h
    rw [k1ga e he]
    have nxt : ∀ a' r', (0 ≤ a' ∧ a' < 18446744069414584321) → (0 ≤ r' ∧ r' < 18446744069414584321) → r' * a' ^ (e / 2).toNat % 18446744069414584321 = pw p1 p2 → ((0 ≤ a' ∧ a' < 18446744069414584321) ∧ U64 (e / 2) ∧ (0 ≤ r' ∧ r' < 18446744069414584321) ∧ r' * a' ^ (e / 2).toNat % 18446744069414584321 = pw p1 p2) ∧ (e / 2).toNat < e.toNat := fun a' r' h1 h2 h3 => ⟨⟨h1, ⟨by omega, by omega⟩, h2, h3⟩, by omega⟩
    have hpow : ∀ k : Nat, a ^ (2 * k) = (a * a) ^ k := fun k => by rw [Int.pow_mul]; congr 1; rw [Int.pow_succ, Int.pow_succ, Int.pow_zero, Int.one_mul]
    refine ⟨fun h1 => ⟨⟨rfl, hr, ha⟩, ?_⟩, fun h1 => ?_⟩
    · have h1 : e % 2 = 1 := by simpa using h1
      refine jj _ _ ⟨Int.emod_nonneg _ (by omega), Int.emod_lt_of_pos _ (by omega)⟩ h ?_ fun a' ha' hv' => ⟨⟨rfl, (nxt a' _ ha' ⟨Int.emod_nonneg _ (by omega), Int.emod_lt_of_pos _ (by omega)⟩ hv').1⟩, (nxt a' _ ha' ⟨Int.emod_nonneg _ (by omega), Int.emod_lt_of_pos _ (by omega)⟩ hv').2⟩
      rw [← hv, show e.toNat = 2 * (e / 2).toNat + 1 by omega, Int.pow_succ, hpow, Int.mul_emod, Int.emod_emod_of_dvd _ (Int.dvd_refl _), ← Int.mul_emod]
      congr 1
      grind
    · have h1 : ¬ e % 2 = 1 := by simpa using h1
      refine jj _ _ hr h ?_ fun a' ha' hv' => ⟨⟨rfl, (nxt a' _ ha' hr hv').1⟩, (nxt a' _ ha' hr hv').2⟩
      rw [← hv, ← hpow, show e.toNat = 2 * (e / 2).toNat by omega]
  · have h : ¬ 0 < e := of_decide_eq_false h
    rw [show e.toNat = 0 by omega, Int.pow_zero, Int.mul_one, Int.emod_eq_of_lt hr.1 hr.2] at hv
    exact hv
noncomputable def kye : Con TB.den := k3z.fnR (fun x => (fun (p0 : TField) (p1 : Int) (p2 : Int) => p0.P = 18446744069414584321 ∧ (0 ≤ p1 ∧ p1 < 18446744069414584321) ∧ U64 p2) (TField.mk x.1) x.2.1 x.2.2.1) fun x => ((fun (p0 : TField) (p1 : Int) (p2 : Int) => ((pw p1 p2) : Int)) (TField.mk x.1) x.2.1 x.2.2.1, ())
theorem k1ak : kye.Ok Try.prog TB := Con.ok_fn k3z bd89 fun x h => k19n (k170 (TField.mk x.1) x.2.1 x.2.2.1 h)
end Go.Proofs.Ytponaobpcdkggaa
namespace Go.Proofs.Ytponaobpcdkggaa
open Go Go.Bv Go.Cv Go.Md Go.RowKit
def k4t : Con TB.den := Con.mk0 76 [.agg [.d (.int .u64)], .one (.d (.int .u64)), .one (.d (.int .u64))] [] (.one (.one (.d (.int .u64)))) []
abbrev k12p := HL TB.den (hsT k4t.ins (hsOs k4t.pre))
abbrev kqa := HL TB.den (hsV k4t.res (hsOs k4t.post))
noncomputable def kip : Cx TB := ⟨inf, [k8y, kb8, kye], [], 4, []⟩
noncomputable def kp5 : Code := Try.f76.body.getD .skip
noncomputable def kt4 : List ResultVar := Try.f76.results.toList
noncomputable def k10i (o : kqa) : An TB := .no
noncomputable def kox (x : k12p) (o : kqa) : Prop := WPh TB kip 16 0 kp5 (k10i o) (k4t.st TB x) (retTQ TB kip k4t kt4 o)
set_option maxRecDepth 100000 in
theorem k1a3 (o : kqa) : OblH TB kip 16 0 kp5 (k10i o) (retTQ TB kip k4t kt4 o) :=
  OblH.of_eq (X := (True ∧ ((True ∧ ((True ∧ True) ∧ True)) ∧ (True ∧ True)))) (by kernel_rfl) ⟨trivial, ⟨⟨trivial, ⟨⟨trivial, trivial⟩, trivial⟩⟩, ⟨trivial, trivial⟩⟩⟩
set_option maxRecDepth 100000 in
theorem k1aa {x : k12p} {o : kqa} (h : kox x o) : SoundH Try.prog k4t.f ((k4t.args idf x).map (er TB)) ((k4t.obs idf x).map (erO TB)) (er TB (k4t.val idf o)) ((k4t.ops idf o).map (erO TB)) :=
  Con.soundH (c := k4t) (C := kip) TBok ⟨inf_ok, (all_cons kbr (all_cons kgh (all_cons k1ak all_nil))), all_nil⟩ mix Try.func76 (show Try.f76.body = some kp5 by kernel_rfl) (show Try.f76.ntmps = 16 by kernel_rfl) (show Try.f76.results.toList = kt4 by kernel_rfl) rfl h (k1a3 o)
set_option maxRecDepth 100000 in
theorem k1ar {p0 : TField} {p1 : Int} {p2 : Int} {r0 : Int} (h :
((p0.P = 18446744069414584321) ∧ ((!true) = true →
 0 = r0) ∧
((!true) = false →
(0 < p0.P ∧ 0 ≤ p1) ∧ (p0.P = 18446744069414584321 ∧ (0 ≤ (p1 % p0.P) ∧ (p1 % p0.P) < 18446744069414584321) ∧ U64 p2) ∧ (pw (p1 % p0.P) p2) = r0))) : kox (p0.P, p1, p2, ()) (r0, ()) := WPh.of_eq (by kernel_rfl) h
theorem bd76 : Callable Try.prog 76 := ⟨by rw [Try.func76]; kernel_rfl, by rw [Try.func76]; show some _ ≠ some _; decide⟩
theorem k17j (p0 : TField) (p1 : Int) (p2 : Int) (h : p0.P = 18446744069414584321 ∧ U64 p1 ∧ U64 p2) : kox (p0.P, p1, p2, ()) (((pw (p1 % 18446744069414584321) p2) : Int), ()) := by
  obtain ⟨hP, h1, h2⟩ := h
  refine k1ar ⟨hP, fun h => by simp at h, fun _ => ⟨by omega, ?_⟩⟩
  simp only [hP]
  exact ⟨⟨by trivial, by omega, h2⟩, trivial⟩
noncomputable def kz2 : Con TB.den := k4t.fnR (fun x => (fun (p0 : TField) (p1 : Int) (p2 : Int) => p0.P = 18446744069414584321 ∧ U64 p1 ∧ U64 p2) (TField.mk x.1) x.2.1 x.2.2.1) fun x => ((fun (p0 : TField) (p1 : Int) (p2 : Int) => ((pw (p1 % 18446744069414584321) p2) : Int)) (TField.mk x.1) x.2.1 x.2.2.1, ())
theorem k1bq : kz2.Ok Try.prog TB := Con.ok_fn k4t bd76 fun x h => k1aa (k17j (TField.mk x.1) x.2.1 x.2.2.1 h)
end Go.Proofs.Ytponaobpcdkggaa
namespace Go.Proofs.Ytponaobpcdkggaa
open Go Go.Bv Go.Cv Go.Md Go.RowKit
def k3d : Con TB.den := Con.mk0 90 [.agg [.d (.int .u64)], .one (.d (.int .u64))] [] (.one (.one (.d (.int .u64)))) []
abbrev kwv := HL TB.den (hsT k3d.ins (hsOs k3d.pre))
abbrev kj9 := HL TB.den (hsV k3d.res (hsOs k3d.post))
noncomputable def kd3 : Cx TB := ⟨inf, [k8y, kb8], [], 4, []⟩
noncomputable def kk3 : Code := Try.f90.body.getD .skip
noncomputable def knr : List ResultVar := Try.f90.results.toList
noncomputable def kv6 (o : kj9) : An TB := .no
noncomputable def kkl (x : kwv) (o : kj9) : Prop := WPh TB kd3 11 0 kk3 (kv6 o) (k3d.st TB x) (retTQ TB kd3 k3d knr o)
set_option maxRecDepth 100000 in
theorem k13j (o : kj9) : OblH TB kd3 11 0 kk3 (kv6 o) (retTQ TB kd3 k3d knr o) :=
  OblH.of_eq (X := (True ∧ ((True ∧ ((True ∧ True) ∧ True)) ∧ (True ∧ True)))) (by kernel_rfl) ⟨trivial, ⟨⟨trivial, ⟨⟨trivial, trivial⟩, trivial⟩⟩, ⟨trivial, trivial⟩⟩⟩
set_option maxRecDepth 100000 in
theorem k148 {x : kwv} {o : kj9} (h : kkl x o) : SoundH Try.prog k3d.f ((k3d.args idf x).map (er TB)) ((k3d.obs idf x).map (erO TB)) (er TB (k3d.val idf o)) ((k3d.ops idf o).map (erO TB)) :=
  Con.soundH (c := k3d) (C := kd3) TBok ⟨inf_ok, (all_cons kbr (all_cons kgh all_nil)), all_nil⟩ mix Try.func90 (show Try.f90.body = some kk3 by kernel_rfl) (show Try.f90.ntmps = 11 by kernel_rfl) (show Try.f90.results.toList = knr by kernel_rfl) rfl h (k13j o)
set_option maxRecDepth 100000 in
theorem k15f {p0 : TField} {p1 : Int} {r0 : Int} (h :
((p0.P = 18446744069414584321) ∧ ((!true) = true →
 0 = r0) ∧
((!true) = false →
(0 < p0.P ∧ 0 ≤ p1) ∧ (p1 % p0.P) = r0))) : kkl (p0.P, p1, ()) (r0, ()) := WPh.of_eq (by kernel_rfl) h
theorem bd90 : Callable Try.prog 90 := ⟨by rw [Try.func90]; kernel_rfl, by rw [Try.func90]; show some _ ≠ some _; decide⟩
theorem k11t (p0 : TField) (p1 : Int) (h : p0.P = 18446744069414584321 ∧ U64 p1) : kkl (p0.P, p1, ()) (((p1 % 18446744069414584321) : Int), ()) := by
  obtain ⟨hP, h1⟩ := h
  refine k15f ⟨hP, fun h => by simp at h, fun _ => ⟨by omega, ?_⟩⟩
  simp only [hP]
noncomputable def ksx : Con TB.den := k3d.fnR (fun x => (fun (p0 : TField) (p1 : Int) => p0.P = 18446744069414584321 ∧ U64 p1) (TField.mk x.1) x.2.1) fun x => ((fun (p0 : TField) (p1 : Int) => ((p1 % 18446744069414584321) : Int)) (TField.mk x.1) x.2.1, ())
theorem k14z : ksx.Ok Try.prog TB := Con.ok_fn k3d bd90 fun x h => k148 (k11t (TField.mk x.1) x.2.1 h)
end Go.Proofs.Ytponaobpcdkggaa
namespace Go.Proofs.Ytponaobpcdkggaa
open Go Go.Bv Go.Cv Go.Md Go.RowKit
def k1q : Con TB.den := Con.mk0 77 [.one (.d (.int .u64)), .one (.d (.int .i64)), .one (.d (.int .i64))] [] (.one (.one (.d (.int .u64)))) []
abbrev kl6 := HL TB.den (hsT k1q.ins (hsOs k1q.pre))
abbrev k9n := HL TB.den (hsV k1q.res (hsOs k1q.post))
noncomputable def k7d : Cx TB := ⟨inf, [ksx], [], 4, []⟩
noncomputable def kbb : Code := Try.f77.body.getD .skip
noncomputable def kct : List ResultVar := Try.f77.results.toList
noncomputable def kjw (o : k9n) : An TB := .no
noncomputable def kbf (x : kl6) (o : k9n) : Prop := WPh TB k7d 31 0 kbb (kjw o) (k1q.st TB x) (retTQ TB k7d k1q kct o)
set_option maxRecDepth 100000 in
theorem ktd (o : k9n) : OblH TB k7d 31 0 kbb (kjw o) (retTQ TB k7d k1q kct o) :=
  OblH.of_eq (X := (True ∧ ((True ∧ ((True ∧ True) ∧ True)) ∧ (True ∧ True)))) (by kernel_rfl) ⟨trivial, ⟨⟨trivial, ⟨⟨trivial, trivial⟩, trivial⟩⟩, ⟨trivial, trivial⟩⟩⟩
set_option maxRecDepth 100000 in
theorem kt8 {x : kl6} {o : k9n} (h : kbf x o) : SoundH Try.prog k1q.f ((k1q.args idf x).map (er TB)) ((k1q.obs idf x).map (erO TB)) (er TB (k1q.val idf o)) ((k1q.ops idf o).map (erO TB)) :=
  Con.soundH (c := k1q) (C := k7d) TBok ⟨inf_ok, (all_cons k14z all_nil), all_nil⟩ mix Try.func77 (show Try.f77.body = some kbb by kernel_rfl) (show Try.f77.ntmps = 31 by kernel_rfl) (show Try.f77.results.toList = kct by kernel_rfl) rfl h (ktd o)
set_option maxRecDepth 100000 in
theorem ktw {p0 : Int} {p1 : Int} {p2 : Int} {r0 : Int} (h :
((decide (p1 < 0) = true →
 0 = r0) ∧
(decide (p1 < 0) = false →
(decide (8 ≤ p1) = true →
 0 = r0) ∧
(decide (8 ≤ p1) = false →
(decide (p2 < 0) = true →
 0 = r0) ∧
(decide (p2 < 0) = false →
(decide (2 < p2) = true →
 0 = r0) ∧
(decide (2 < p2) = false →
 let v1 : Int := IntKind.i64.wrap ((IntKind.i64.wrap (3 * p1)) + p2)
 let v2 : Int := IntKind.u64.wrap (IntKind.i64.wrap (v1 + 1))
 let v3 : Int := IntKind.u64.wrap (v2 * 11400714819323198485)
((TField.mk p0).P = 18446744069414584321 ∧ U64 v3) ∧ (v3 % 18446744069414584321) = r0)))))) : kbf (p0, p1, p2, ()) (r0, ()) := WPh.of_eq (by kernel_rfl) h
theorem bd77 : Callable Try.prog 77 := ⟨by rw [Try.func77]; kernel_rfl, by rw [Try.func77]; show some _ ≠ some _; decide⟩
theorem krn (p0 : Int) (p1 : Int) (p2 : Int) (h : p0 = 18446744069414584321 ∧ (0 ≤ p1 ∧ p1 < 8) ∧ 0 ≤ p2 ∧ p2 < 3) : kbf (p0, p1, p2, ()) (((rc p1 p2) : Int), ()) := by
  obtain ⟨hP, h1, h2⟩ := h
  refine ktw ⟨fun h => ?_, fun _ => ⟨fun h => ?_, fun _ => ⟨fun h => ?_, fun _ => ⟨fun h => ?_, fun _ => ?_⟩⟩⟩⟩
  · simp at h; omega
  · simp at h; omega
  · simp at h; omega
  · simp at h; omega
  · simp only []
    rw [wi (3 * p1) (by omega) (by omega), wi (3 * p1 + p2) (by omega) (by omega), wi (3 * p1 + p2 + 1) (by omega) (by omega), wu (3 * p1 + p2 + 1) (by omega) (by omega), u64w]
    exact ⟨⟨hP, by omega, by omega⟩, rfl⟩
noncomputable def khy : Con TB.den := k1q.fnR (fun x => (fun (p0 : Int) (p1 : Int) (p2 : Int) => p0 = 18446744069414584321 ∧ (0 ≤ p1 ∧ p1 < 8) ∧ 0 ≤ p2 ∧ p2 < 3) x.1 x.2.1 x.2.2.1) fun x => ((fun (p0 : Int) (p1 : Int) (p2 : Int) => ((rc p1 p2) : Int)) x.1 x.2.1 x.2.2.1, ())
theorem ku2 : khy.Ok Try.prog TB := Con.ok_fn k1q bd77 fun x h => kt8 (krn x.1 x.2.1 x.2.2.1 h)
end Go.Proofs.Ytponaobpcdkggaa
namespace Go.Proofs.Ytponaobpcdkggaa
open Go Go.Bv Go.Cv Go.Md Go.RowKit
def k2b : Con TB.den := Con.mk0 78 [.one (.d (.int .u64)), .agg [.d (.int .u64), .d (.int .u64), .d (.int .u64)]] [] (.one (.agg [.d (.int .u64), .d (.int .u64), .d (.int .u64)])) []
abbrev krd := HL TB.den (hsT k2b.ins (hsOs k2b.pre))
abbrev ke6 := HL TB.den (hsV k2b.res (hsOs k2b.post))
noncomputable def k9q : Cx TB := ⟨inf, [klo], [], 4, []⟩
noncomputable def kg9 : Code := Try.f78.body.getD .skip
noncomputable def kib : List ResultVar := Try.f78.results.toList
noncomputable def kqc (o : ke6) : An TB := .no
noncomputable def kg8 (x : krd) (o : ke6) : Prop := WPh TB k9q 35 0 kg9 (kqc o) (k2b.st TB x) (retTQ TB k9q k2b kib o)
set_option maxRecDepth 100000 in
theorem kz6 (o : ke6) : OblH TB k9q 35 0 kg9 (kqc o) (retTQ TB k9q k2b kib o) :=
  OblH.of_eq (X := (True ∧ (True ∧ (True ∧ (True ∧ True))))) (by kernel_rfl) ⟨trivial, ⟨trivial, ⟨trivial, ⟨trivial, trivial⟩⟩⟩⟩
set_option maxRecDepth 100000 in
theorem kzg {x : krd} {o : ke6} (h : kg8 x o) : SoundH Try.prog k2b.f ((k2b.args idf x).map (er TB)) ((k2b.obs idf x).map (erO TB)) (er TB (k2b.val idf o)) ((k2b.ops idf o).map (erO TB)) :=
  Con.soundH (c := k2b) (C := k9q) TBok ⟨inf_ok, (all_cons ksk all_nil), all_nil⟩ mix Try.func78 (show Try.f78.body = some kg9 by kernel_rfl) (show Try.f78.ntmps = 35 by kernel_rfl) (show Try.f78.results.toList = kib by kernel_rfl) rfl h (kz6 o)
set_option maxRecDepth 100000 in
theorem k10q {p0 : Int} {p1 : TA3} {r0 : TA3} (h :
(((TField.mk p0).P = 18446744069414584321 ∧ U64 p1.a0 ∧ U64 p1.a1) ∧ ((TField.mk p0).P = 18446744069414584321 ∧ U64 ((p1.a0 + p1.a1) % 18446744069414584321) ∧ U64 p1.a2) ∧ let r1 : Int := ((((p1.a0 + p1.a1) % 18446744069414584321) + p1.a2) % 18446744069414584321)
((TField.mk p0).P = 18446744069414584321 ∧ U64 p1.a0 ∧ U64 r1) ∧ ((TField.mk p0).P = 18446744069414584321 ∧ U64 p1.a1 ∧ U64 r1) ∧ ((TField.mk p0).P = 18446744069414584321 ∧ U64 p1.a2 ∧ U64 r1) ∧ ((p1.a0 + r1) % 18446744069414584321) = r0.a0 ∧ ((p1.a1 + r1) % 18446744069414584321) = r0.a1 ∧ ((p1.a2 + r1) % 18446744069414584321) = r0.a2)) : kg8 (p0, p1.a0, p1.a1, p1.a2, ()) (r0.a0, r0.a1, r0.a2, ()) := WPh.of_eq (by kernel_rfl) h
theorem bd78 : Callable Try.prog 78 := ⟨by rw [Try.func78]; kernel_rfl, by rw [Try.func78]; show some _ ≠ some _; decide⟩
theorem kxw (p0 : Int) (p1 : TA3) (h : p0 = 18446744069414584321 ∧ S3 p1) : kg8 (p0, p1.a0, p1.a1, p1.a2, ()) (((mixS p1).a0 : Int), ((mixS p1).a1 : Int), ((mixS p1).a2 : Int), ()) := by
  obtain ⟨hP, h0, h1, h2⟩ := h
  refine k10q ?_
  simp only [hP]
  exact ⟨⟨by trivial, h0, h1⟩, ⟨by trivial, by omega, h2⟩, ⟨by trivial, h0, by omega⟩, ⟨by trivial, h1, by omega⟩, ⟨by trivial, h2, by omega⟩, rfl, rfl, rfl⟩
noncomputable def kos : Con TB.den := k2b.fnR (fun x => (fun (p0 : Int) (p1 : TA3) => p0 = 18446744069414584321 ∧ S3 p1) x.1 (TA3.mk x.2.1 x.2.2.1 x.2.2.2.1)) fun x => ((fun (p0 : Int) (p1 : TA3) => ((mixS p1).a0 : Int)) x.1 (TA3.mk x.2.1 x.2.2.1 x.2.2.2.1), (fun (p0 : Int) (p1 : TA3) => ((mixS p1).a1 : Int)) x.1 (TA3.mk x.2.1 x.2.2.1 x.2.2.2.1), (fun (p0 : Int) (p1 : TA3) => ((mixS p1).a2 : Int)) x.1 (TA3.mk x.2.1 x.2.2.1 x.2.2.2.1), ())
theorem k10o : kos.Ok Try.prog TB := Con.ok_fn k2b bd78 fun x h => kzg (kxw x.1 (TA3.mk x.2.1 x.2.2.1 x.2.2.2.1) h)
end Go.Proofs.Ytponaobpcdkggaa
