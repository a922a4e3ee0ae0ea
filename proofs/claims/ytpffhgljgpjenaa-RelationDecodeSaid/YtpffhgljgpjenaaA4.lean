/-
  Parts of the proofs that the laws of this seat hold of every input, merged by a program: a machine over pure data that is sound for the model, what each function of the translation does in it, and plain lemmas. No conditions but those in each theorem.
-/
import Derived.Test.YtpffhgljgpjenaaA3
set_option linter.all false
set_option maxRecDepth 100000
noncomputable section
namespace Go.Bv
open Go.RowKit Go.Deep
def limOf (w : World) (b : Nat) : Nat := match w.heap[b]? with
 | some (.cells c _ _) => c.size
 | _ => 0
theorem k1nw {w : World} {b o : Nat} {v : Value} (h : w.cell? ⟨b, o, none⟩ = some v) : o < limOf w b := by
 unfold World.cell? at h
 unfold limOf
 simp only at h
 split at h
 ·rename_i c _ _ hh
  rw [hh]
  simp only [Option.isSome_none, Bool.false_eq_true, if_false] at h
  exact (Array.getElem?_eq_some_iff.1 h).1
 ·cases h
def isAggT (P : Program) (e : TypeId) : Bool := match P.underlying e with
 | some (.struct _) => true
 | some (.array _ _) => true
 | _ => false
def mkD (P : Program) (e : TypeId) (cs : List D) : D := if isAggT P e then .agg cs else cs.headD (.bool false)
def tiles (P : Program) (tot : Nat) : List (TypeId × Nat) → Nat → Bool
 | [], o => o == tot
 | p :: r, o => p.2 == o && tiles P tot r (o + P.cellsOf p.1)
def fsOf (fs : Array Field) : List (TypeId × Nat) := fs.toList.map fun f => (f.type, f.offset)
def arOf (P : Program) (n : Nat) (e : TypeId) : List (TypeId × Nat) := (List.range n).map fun i => (e, i * P.cellsOf e)
def dataT (P : Program) : Nat → TypeId → Bool
 | 0, _ => false
 | k + 1, t => match P.underlying t with
  | some .bool => true
  | some (.int _) => true
  | some .string => true
  | some (.slice e) => decide (0 < P.cellsOf e) && dataT P k e
  | some (.struct fs) => tiles P (P.cellsOf t) (fsOf fs) 0 && (fsOf fs).all fun p => dataT P k p.1
  | some (.array n e) => tiles P (P.cellsOf t) (arOf P n e) 0 && dataT P k e
  | _ => false
def RelFs {H : Type} (R : TypeId → List D → DataW H → Prop) : List (TypeId × Nat) → List D → List (DataW H) → Prop
 | [], ds, ps => ds = [] ∧ ps = []
 | t :: ts, ds, ps => ∃ d1 d2 p qs, R t.1 d1 p ∧ RelFs R ts d2 qs ∧ ds = d1 ++ d2 ∧ ps = p :: qs
def Rel {H : Type} (P : Program) : Nat → TypeId → List D → DataW H → Prop
 | 0, _, _, _ => False
 | k + 1, t, ds, d => match P.underlying t with
  | some .bool => ∃ b, ds = [.bool b] ∧ d = .lit (.bool b)
  | some (.int q) => ∃ i, ds = [.int q i] ∧ d = .lit (.int q i) ∧ (Lit.int q i).wf = true
  | some .string => ∃ s : ByteArray, ds = [.str s] ∧ d = .lit (.string s.data.toList)
  | some (.slice e) => ∃ l : List (List D), ds = [.slice (P.cellsOf e) (l.map (mkD P e))] ∧ l.length ≤ maxLen ∧
    ((l = [] ∧ d = .nil) ∨ ∃ elems spare, d = .slice elems spare ∧ l.length = elems.length ∧ ∀ (j : Nat) (x : List D) (y : DataW H), l[j]? = some x → elems[j]? = some y → Rel P k e x y)
  | some (.struct fs) => ∃ ps, d = .agg ps ∧ RelFs (Rel P k) (fsOf fs) ds ps
  | some (.array n e) => ∃ ps, d = .agg ps ∧ RelFs (Rel P k) (arOf P n e) ds ps
  | _ => False
def Holds (w : World) (cs : List Value) (ds : List D) : Prop := ds.length = cs.length ∧ ∀ (j : Nat) (v : Value) (c : D), cs[j]? = some v → ds[j]? = some c → RepD (limOf w) w v c
theorem Holds.append {w : World} {a b : List Value} {x y : List D} (h1 : Holds w a x) (h2 : Holds w b y) : Holds w (a ++ b) (x ++ y) := by
 refine ⟨by simp [h1.1, h2.1], fun j v c hv hc => ?_⟩
 by_cases hj : j < a.length
 ·rw [List.getElem?_append_left hj] at hv
  rw [List.getElem?_append_left (by rw [h1.1]; exact hj)] at hc
  exact h1.2 j v c hv hc
 ·rw [List.getElem?_append_right (by omega)] at hv
  rw [List.getElem?_append_right (by rw [h1.1]; omega), h1.1] at hc
  exact h2.2 _ v c hv hc
theorem Holds.one {w : World} {v : Value} {d : D} (h : RepD (limOf w) w v d) : Holds w [v] [d] := by
 refine ⟨rfl, fun j u c hu hc => ?_⟩
 cases j with
 | zero => simp at hu hc; subst hu; subst hc; exact h
 | succ j => simp at hu
section
variable {H : Type} {P : Program} {w : World} {cs : List Value}
theorem k13g {tot : Nat} (htot : cs.length = tot) (ok : Value → Prop) (hok : ∀ v ∈ cs, ok v) (R : TypeId → List D → DataW H → Prop) (g : TypeId → List Value → Option (DataW H × List MemPlace)) :
  ∀ (L : List (TypeId × Nat)) (o : Nat) (xs : List (DataW H × List MemPlace)), tiles P tot L o = true → xs.length = L.length →
   (∀ p ∈ L, ∀ cs' y, (∀ v ∈ cs', ok v) → g p.1 cs' = some y → ∃ ds, Holds w cs' ds ∧ R p.1 ds y.1) →
   (∀ (i : Nat) (p : TypeId × Nat), L[i]? = some p → g p.1 ((cs.drop p.2).take (P.cellsOf p.1)) = xs[i]?) →
   ∃ ds, Holds w (cs.drop o) ds ∧ RelFs R L ds (xs.map (·.1))
 | [], o, xs, ht, hl, _, _ => by
  simp [tiles] at ht
  have : xs = [] := by simpa using hl
  subst this
  refine ⟨[], ⟨?_, ?_⟩, rfl, rfl⟩
  ·simp; omega
  ·intro j v c _ hc; simp at hc
 | p :: L, o, xs, ht, hl, hg, hx => by
  simp [tiles] at ht
  obtain ⟨h0, ht⟩ := ht
  cases xs with
  | nil => simp at hl
  | cons y ys =>
   have h1 := hx 0 p rfl
   simp only [List.getElem?_cons_zero] at h1
   obtain ⟨d1, hd1, hr1⟩ := hg p (by simp) _ y (fun v hv => hok v (List.mem_of_mem_drop (List.mem_of_mem_take hv))) h1
   obtain ⟨d2, hd2, hr2⟩ := k13g htot ok hok R g L (o + P.cellsOf p.1) ys ht (by simpa using hl) (fun q hq => hg q (by simp [hq])) (fun i q hq => by simpa using hx (i + 1) q (by simpa using hq))
   refine ⟨d1 ++ d2, ?_, d1, d2, y.1, _, hr1, hr2, rfl, rfl⟩
   have := hd1.append hd2
   rw [h0, ← List.drop_drop, List.take_append_drop] at this
   exact this
end
section
variable {H : Type} {enc : TypeId × Value → H} {P : Program} {w : World}
theorem rel_mk {k : Nat} {e : TypeId} {x : List D} {d : DataW H} (hr : Rel P k e x d) (h1 : ∀ c ∈ x, c.one = true) : (mkD P e x).cells = x := by
 cases k with
 | zero => exact hr.elim
 | succ k =>
  unfold mkD
  split
  ·rfl
  ·rename_i ha
   unfold Rel at hr
   split at hr
   ·obtain ⟨b, rfl, _⟩ := hr; rfl
   ·obtain ⟨b, rfl, _⟩ := hr; rfl
   ·obtain ⟨b, rfl, _⟩ := hr; rfl
   ·obtain ⟨b, rfl, _⟩ := hr; rfl
   ·rename_i h; exact absurd (by simp [isAggT, h]) ha
   ·rename_i h; exact absurd (by simp [isAggT, h]) ha
   ·exact hr.elim
theorem krf : ∀ (k : Nat) (t : TypeId), dataT P k t = true → ∀ (n : Nat) (cs : List Value) (y : DataW H × List MemPlace),
  DataW.trod enc P w 0 (fun _ => true) true n t cs = some y → ∃ ds, Holds w cs ds ∧ Rel P k t ds y.1
 | 0, _, h => by cases h
 | k + 1, t, hT => by
  intro n cs y h
  unfold dataT at hT
  split at hT
  ·rename_i hu
   obtain ⟨b, rfl, rfl⟩ := DataW.trod_bool hu h
   exact ⟨[.bool b], Holds.one (.bool b), by simp [Rel, hu]⟩
  ·rename_i q hu
   obtain ⟨i, rfl, rfl, hw⟩ := DataW.trod_int hu h
   exact ⟨[.int q i], Holds.one (.int q i), by simp [Rel, hu, hw]⟩
  ·rename_i hu
   obtain ⟨s, rfl, rfl, hs⟩ := DataW.trod_string hu h
   exact ⟨[.str s], Holds.one (.str s), by simp only [Rel, hu]; exact ⟨s, rfl, rfl⟩⟩
  ·rename_i e hu
   simp only [Bool.and_eq_true, decide_eq_true_eq] at hT
   obtain ⟨hpos, hT⟩ := hT
   rcases open_slice hu h with ⟨rfl, rfl⟩ | ⟨a, len, cap, m, n', Dd, Pl, rfl, _, hlc, hcm, hm, rfl, hel⟩
   ·exact ⟨[.slice (P.cellsOf e) []], Holds.one (.nil none _), by simp only [Rel, hu]; exact ⟨[], rfl, Nat.zero_le _, .inl ⟨by trivial, by trivial⟩⟩⟩
   ·simp only [if_true] at hm
    subst hm
    by_cases hm0 : m = 0
    ·subst hm0
     have hl0 : len = 0 := by omega
     subst hl0
     refine ⟨[.slice (P.cellsOf e) []], Holds.one (.nil (some a) _), ?_⟩
     simp only [Rel, hu]
     exact ⟨[], rfl, Nat.zero_le _, .inr ⟨_, _, rfl, by simp, by intro j x y hx; simp at hx⟩⟩
    have hel' : ∀ i, i < len → ∃ x : List D, ∃ cs', w.cells? 0 (a.add (i * P.cellsOf e)) (P.cellsOf e) = some cs' ∧ Holds w cs' x ∧ Rel P k e x (Dd i) := by
     intro i hi
     obtain ⟨cs', h1, h2⟩ := hel i (by omega)
     obtain ⟨ds, h3, h4⟩ := krf k e hT n' cs' _ h2
     exact ⟨ds, cs', h1, h3, h4⟩
    obtain ⟨f, hf⟩ := choose_lt hel'
    have hspot : a.spot = none := by
     obtain ⟨cs', h1, h2⟩ := hel 0 (by omega)
     have h3 := (World.cells?_some h1).2.2 0 (by omega)
     have h4 := (World.cells?_some h1).2.1
     rw [List.getElem?_eq_getElem (by omega)] at h3
     unfold World.cell? at h3
     split at h3
     ·split at h3
      ·cases h3
      ·rename_i hs; simpa [Addr.add] using hs
     ·cases h3
    obtain ⟨b, off, sp⟩ := a
    simp only at hspot
    subst hspot
    have hone : ∀ i, i < len → ∀ c ∈ f i, c.one = true := by
     intro i hi c hc
     obtain ⟨cs', h1, h2, h3⟩ := hf i hi
     obtain ⟨j, hj⟩ := List.getElem?_of_mem hc
     have hjl : j < cs'.length := by rw [← h2.1]; exact (List.getElem?_eq_some_iff.1 hj).1
     exact (h2.2 j _ c (List.getElem?_eq_getElem hjl) hj).done
    have hmk : ∀ i, i < len → (mkD P e (f i)).cells = f i := fun i hi => by
     obtain ⟨cs', h1, h2, h3⟩ := hf i hi
     exact rel_mk h3 (hone i hi)
    have hsz : ∀ d ∈ ((List.range len).map f).map (mkD P e), d.cells.length = P.cellsOf e ∧ ∀ c ∈ d.cells, c.one = true := by
     intro d hd
     simp only [List.map_map, List.mem_map, List.mem_range, Function.comp] at hd
     obtain ⟨i, hi, rfl⟩ := hd
     obtain ⟨cs', h1, h2, h3⟩ := hf i hi
     rw [hmk i hi]
     exact ⟨by rw [h2.1]; exact (World.cells?_some h1).2.1, hone i hi⟩
    have hget : ∀ i, i < len → (((List.range len).map f).map (mkD P e))[i]? = some (mkD P e (f i)) := by
     intro i hi
     simp [List.getElem?_map, List.getElem?_range hi]
    have hfl := k29 hsz
    simp only [List.length_map, List.length_range] at hfl
    have hat : ∀ (j : Nat) (u : Value), ((List.range (len * P.cellsOf e)).map fun j => (w.cell? ⟨b, off + j, none⟩).getD undef)[j]? = some u → j < len * P.cellsOf e ∧ w.cell? ⟨b, off + j, none⟩ = some u := by
     intro j u hu
     have hj : j < len * P.cellsOf e := by simpa using (List.getElem?_eq_some_iff.1 hu).1
     refine ⟨hj, ?_⟩
     simp only [List.getElem?_map, List.getElem?_range hj, Option.map_some, Option.some.injEq] at hu
     have hi : j / P.cellsOf e < len := by rw [Nat.div_lt_iff_lt_mul hpos]; exact hj
     have hr : j % P.cellsOf e < P.cellsOf e := Nat.mod_lt _ hpos
     obtain ⟨cs', h1, h2, h3⟩ := hf _ hi
     have e1 : j / P.cellsOf e * P.cellsOf e + j % P.cellsOf e = j := by rw [Nat.mul_comm]; exact Nat.div_add_mod j _
     have h4 := (World.cells?_some h1).2.2 _ hr
     have h5 := (World.cells?_some h1).2.1
     have e2 : (Addr.add ⟨b, off, none⟩ (j / P.cellsOf e * P.cellsOf e)).add (j % P.cellsOf e) = ⟨b, off + j, none⟩ := by
      rw [add_add, e1]
      simp [Addr.add]
     rw [e2, List.getElem?_eq_getElem (by omega)] at h4
     rw [h4] at hu ⊢
     simpa using hu
    refine ⟨[.slice (P.cellsOf e) (((List.range len).map f).map (mkD P e))], Holds.one ?_, ?_⟩
    ·have := RepD.slice (m := limOf w) (w := w) b off m (P.cellsOf e) (((List.range len).map f).map (mkD P e)) ((List.range (len * P.cellsOf e)).map fun j => (w.cell? ⟨b, off + j, none⟩).getD undef) (by simpa using hlc) hcm hsz (by rw [hfl]; simp) ?_ ?_
     ·simpa using this
     ·intro j u hu
      obtain ⟨hj, hcell⟩ := hat j u hu
      exact ⟨k1nw hcell, hcell⟩
     ·intro j u c hu hc
      obtain ⟨hj, hcell⟩ := hat j u hu
      have hi : j / P.cellsOf e < len := by rw [Nat.div_lt_iff_lt_mul hpos]; exact hj
      have hr : j % P.cellsOf e < P.cellsOf e := Nat.mod_lt _ hpos
      obtain ⟨cs', h1, h2, h3⟩ := hf _ hi
      have e1 : j / P.cellsOf e * P.cellsOf e + j % P.cellsOf e = j := by rw [Nat.mul_comm]; exact Nat.div_add_mod j _
      rw [← e1, kyu hsz (hget _ hi) _ hr, hmk _ hi] at hc
      refine h2.2 _ u c ?_ hc
      rw [← (World.cells?_some h1).2.2 _ hr, ← hcell]
      congr 1
      rw [add_add, e1]
      simp [Addr.add]
    ·simp only [Rel, hu]
     refine ⟨(List.range len).map f, rfl, by simp; omega, .inr ⟨_, _, rfl, by simp, ?_⟩⟩
     intro j x y hx hy
     have hj : j < len := by simpa using (List.getElem?_eq_some_iff.1 hx).1
     simp only [List.getElem?_map, List.getElem?_range hj, Option.map_some, Option.some.injEq] at hx hy
     subst hx; subst hy
     obtain ⟨_, _, _, h3⟩ := hf j hj
     exact h3
  ·rename_i fs hu
   simp only [Bool.and_eq_true] at hT
   obtain ⟨xs, n', rfl, rfl, hl, hxl, hx⟩ := DataW.trod_struct hu h
   obtain ⟨ds, h1, h2⟩ := k13g (P := P) hl (fun _ => True) (fun _ _ => trivial) (Rel P k) (fun t c => DataW.trod enc P w 0 (fun _ => true) true n' t c) (fsOf fs) 0 xs hT.1 (by simp [fsOf, hxl])
    (fun p hp cs' y _ hy => krf k p.1 (List.all_eq_true.1 hT.2 p hp) n' cs' y hy)
    (fun i p hp => by
     simp only [fsOf, List.getElem?_map, Option.map_eq_some_iff] at hp
     obtain ⟨f, hf, rfl⟩ := hp
     exact hx i f (by simpa using hf))
   exact ⟨ds, by simpa using h1, by simp only [Rel, hu]; exact ⟨_, rfl, h2⟩⟩
  ·rename_i m e hu
   simp only [Bool.and_eq_true] at hT
   obtain ⟨xs, n', rfl, rfl, hl, hxl, hx⟩ := DataW.trod_array hu h
   obtain ⟨ds, h1, h2⟩ := k13g (P := P) hl (fun _ => True) (fun _ _ => trivial) (Rel P k) (fun t c => DataW.trod enc P w 0 (fun _ => true) true n' t c) (arOf P m e) 0 xs hT.1 (by simp [arOf, hxl])
    (fun p hp cs' y _ hy => by
     simp only [arOf, List.mem_map] at hp
     obtain ⟨i, _, rfl⟩ := hp
     exact krf k e hT.2 n' cs' y hy)
    (fun i p hp => by
     simp only [arOf, List.getElem?_map, Option.map_eq_some_iff] at hp
     obtain ⟨f, hf, rfl⟩ := hp
     obtain ⟨hi, rfl⟩ := List.getElem?_eq_some_iff.1 hf
     have hi' : i < m := by simpa using hi
     simpa using hx i hi')
   exact ⟨ds, by simpa using h1, by simp only [Rel, hu]; exact ⟨_, rfl, h2⟩⟩
  ·cases hT
end
end Go.Bv
namespace Go.Bv
open Go.RowKit Go.ChangeShapes Go.WideShapes
def G0 (W : World) : Gh := ⟨fun _ => none, fun _ => none, limOf W⟩
def vOf (P : Program) (t : TypeId) (ds : List D) : V := if isAggT P t then .agg (ds.map V.d) else .d (ds.headD (.bool false))
section
variable {H : Type} {enc : TypeId × Value → H} {P : Program} {W : World}
theorem arg_rep {k : Nat} {r : Reach} {base : Nat} {t : TypeId} {v : Value} {d : DataW H} {ps : List MemPlace} {h : Hp} {nx : Nat} (hT : dataT P k t = true) (hval : Value.okWide P W r base t v)
  (hd : DataW.Trod enc P W 0 (fun _ => true) true t v d ps) : ∃ ds, Rel P k t ds d ∧ RepV (G0 W) W h nx v (vOf P t ds) := by
 obtain ⟨n, hn⟩ := hd
 by_cases ha : isAggT P t = true
 ·have hval' : ∃ cs, v = .agg cs ∧ cs.size = P.cellsOf t ∧ Row.okWide P W r base t cs := by
   unfold isAggT at ha
   unfold Value.okWide at hval
   split at ha
   ·rename_i h1; rw [h1] at hval; exact hval
   ·rename_i h1; rw [h1] at hval; exact hval
   ·cases ha
  obtain ⟨cs, rfl, _, ts, _, _, hc⟩ := hval'
  obtain ⟨ds, h1, h2⟩ := krf k t hT n cs.toList _ hn
  refine ⟨ds, h2, ?_⟩
  unfold vOf
  rw [if_pos ha]
  have := RepV.agg (G := G0 W) (w := W) (h := h) (nx := nx) cs.toList (ds.map V.d) (by simpa using h1.1.symm) ?_ ?_
  ·simpa using this
  ·intro x hx
   obtain ⟨c, hcm, rfl⟩ := List.mem_map.1 hx
   obtain ⟨j, hj⟩ := List.getElem?_of_mem hcm
   have hjl : j < cs.toList.length := by have := h1.1; have := (List.getElem?_eq_some_iff.1 hj).1; simp [Value.cells] at *; omega
   exact (h1.2 j _ c (List.getElem?_eq_getElem hjl) hj).done
  ·intro j u x hu hx
   rw [List.getElem?_map, Option.map_eq_some_iff] at hx
   obtain ⟨c, hcj, rfl⟩ := hx
   exact .d _ _ (h1.2 j u c hu hcj)
 ·have hval' : Cell.okWide P W r base t v := by
   unfold Value.okWide at hval
   split at hval
   ·rename_i h1; exact absurd (by simp [isAggT, h1]) ha
   ·rename_i h1; exact absurd (by simp [isAggT, h1]) ha
   ·exact hval
  have hcs : v.cells.toList = [v] := by
   cases v with
   | agg cs =>
    exfalso
    unfold Cell.okWide Cell.ok at hval'
    split at hval'
    all_goals first | (split at hval'; all_goals simp_all) | simp_all
   | _ => rfl
  rw [hcs] at hn
  obtain ⟨ds, h1, h2⟩ := krf k t hT n _ _ hn
  refine ⟨ds, h2, ?_⟩
  unfold vOf
  rw [if_neg ha]
  have hl := h1.1
  match ds, hl with
  | [c], _ => exact .d _ _ (h1.2 0 v c rfl rfl)
theorem law_of {f : FuncId} {xs : List V} {r : V} (hS : SoundH P f xs [] r []) {vs : List Value} (hlen : vs.length = xs.length)
  (hrep : ∀ (j : Nat) (v : Value) (x : V), vs[j]? = some v → xs[j]? = some x → RepV (G0 W) W [] 0 v x) :
  Calls P f vs.toArray W fun e W' => (∃ v G', e = .returned v ∧ RepV G' W' [] 0 v r) ∧ Below W.heap.size W W' := by
 refine (hS (G0 W) W vs hlen hrep ?_).mono fun e W' hh => ?_
 ·refine ⟨?_, ?_, ?_, ?_, ?_, ?_⟩
  ·intro id l h; simp [hpOf, Hp.get] at h
  ·intro id es h; simp [hpOf, Hp.get] at h
  ·intro id b h; simp at h
  ·intro i j b h; simp at h
  ·intro id ob h; simp [hpOf, Hp.get] at h
  ·intro b hb
   show limOf W b = 0
   unfold limOf
   rw [Array.getElem?_eq_none hb]
 ·obtain ⟨v, G', rfl, h1, h2, h3, h4⟩ := hh
  refine ⟨⟨v, G', rfl, h1⟩, h3.os, h3.tape, h3.output, h3.size, fun b hb => (h3.same b hb ?_).1⟩
  rintro ⟨i, hi, _⟩
  simp at hi
def typesOk (P : Program) (ts : List TypeId) : Bool := ts.all fun t => P.readableRec t && decide (t < P.types.size)
theorem k100 (hl : laidOutB P = true) {W' : World} (hb : Below W.heap.size W W') : ∀ {ts : List TypeId} {vs : List Value} {ds : List (DataW H)} {ps : List MemPlace}, typesOk P ts = true →
  DataW.TrodAll enc P W 0 (fun _ => true) true ts vs ds ps → (∀ x ∈ ps, x.block < W.heap.size) → DataW.TrodAll enc P W' 0 (fun b => decide (b < W.heap.size)) true ts vs ds ps
 | [], [], [], _, _, h, _ => h
 | [], [], _ :: _, _, _, h, _ => h.elim
 | [], _ :: _, _, _, _, h, _ => h.elim
 | _ :: _, [], _, _, _, h, _ => h.elim
 | _ :: _, _ :: _, [], _, _, h, _ => h.elim
 | t :: ts, v :: vs, d :: ds, ps, ht, h, hp => by
  simp only [typesOk, List.all_cons, Bool.and_eq_true, decide_eq_true_eq] at ht
  obtain ⟨p, q, h1, h2, rfl⟩ := h
  exact ⟨p, q, Below.trod hl ht.1.1 ht.1.2 h1 hb (fun x hx => hp x (by simp [hx])), k100 hl hb (by simpa [typesOk] using ht.2) h2 (fun x hx => hp x (by simp [hx])), rfl⟩
theorem rel_int {k : Nat} {t : TypeId} {q : IntKind} {ds : List D} {d : DataW H} (hu : P.underlying t = some (.int q)) (h : Rel P (k + 1) t ds d) : ∃ i, ds = [.int q i] ∧ d = .lit (.int q i) ∧ (Lit.int q i).wf = true := by unfold Rel at h; rw [hu] at h; exact h
theorem k1of {k : Nat} {t e : TypeId} {ds : List D} {d : DataW H} {α : Type} [Inhabited α] (f : α → D) (p : α → Prop) (hu : P.underlying t = some (.slice e)) (h : Rel P (k + 1) t ds d)
  (tp : ∀ (x : List D) (y : DataW H), Rel P k e x y → ∃ a, mkD P e x = f a ∧ p a) :
  ∃ l : List α, ds = [.slice (P.cellsOf e) (l.map f)] ∧ l.length ≤ maxLen ∧ (∀ a ∈ l, p a) ∧ ((l = [] ∧ d = .nil) ∨ ∃ elems spare, d = .slice elems spare ∧ l.length = elems.length) := by
 unfold Rel at h
 rw [hu] at h
 obtain ⟨l, rfl, hmx, h⟩ := h
 rcases h with ⟨rfl, rfl⟩ | ⟨elems, spare, rfl, hlen, hh⟩
 ·exact ⟨[], rfl, Nat.zero_le _, by simp, .inl ⟨rfl, rfl⟩⟩
 ·have : ∀ i, i < l.length → ∃ a, mkD P e (l.getD i []) = f a ∧ p a := by
   intro i hi
   refine tp _ _ (hh i _ _ ?_ (List.getElem?_eq_getElem (by omega)))
   simp [List.getElem?_eq_getElem hi]
  obtain ⟨g, hg⟩ := Deep.choose_lt this
  refine ⟨(List.range l.length).map g, ?_, by simpa using hmx, ?_, .inr ⟨elems, spare, rfl, by simpa using hlen⟩⟩
  ·have : l.map (mkD P e) = ((List.range l.length).map g).map f := by
    rw [Deep.map_by_index l [] (mkD P e), List.map_map]
    refine List.map_congr_left fun i hi => ?_
    exact (hg i (by simpa using hi)).1
   rw [this]
  ·intro a ha
   obtain ⟨i, hi, rfl⟩ := List.mem_map.1 ha
   exact (hg i (by simpa using hi)).2
theorem k1pn {fn : Func} {s : ChangeSpec} {W' : World} {args : Array Value} {ds : List (DataW H)} {before : List MemPlace} {tb : TypeId} (hv : s.vars = []) (hW : DataW.Whole enc P fn.params.toList s.vars false W args.toList ds [] before)
  (hl : laidOutB P = true) (hty : typesOk P fn.params.toList = true) (hr : fn.resultTypes = #[tb]) (hub : P.underlying tb = some .bool)
  (h1 : (s.fn H (ds ++ [])).results = [.lit (.bool true)]) (h2 : (s.fn H (ds ++ [])).args = ds) (h3 : (s.fn H (ds ++ [])).vars = []) (hb : Below W.heap.size W W') :
  s.post enc P fn false true false false W args (.bool true) W' := by
 have hW' := hW
 obtain ⟨p, q, hA, hV, rfl, _, _⟩ := hW
 have hq : q = [] := by rw [hv] at hV; exact hV
 subst hq
 refine ⟨ds, [], p ++ [], [], p, [], hW', ?_, ?_, ?_, hb.frame _, fun h => by cases h⟩
 ·rw [h1, hr]
  exact trodAll_cons_mk (shut_bool hub _) trodAll_mk0
 ·rw [h2]
  exact k100 hl hb hty hA (fun x hx => by simpa using hW'.lt x (by simpa using hx))
 ·rw [hv, h3]
  rfl
end
structure RelH {H : Type} (P : Program) (k : Nat) (t : TypeId) (ds : List D) (d : DataW H) : Prop where
 h : Rel P k t ds d
section
variable {H : Type} {enc : TypeId × Value → H} {P : Program} {W : World} {k : Nat}
theorem k1p3 {t : TypeId} {q : IntKind} {ds : List D} {d : DataW H} (hu : P.underlying t = some (.int q)) (h : RelH P (k + 1) t ds d) : ∃ i, ds = [.int q i] ∧ d = .lit (.int q i) ∧ (Lit.int q i).wf = true := rel_int hu h.h
theorem k1n0 {t e : TypeId} {ds : List D} {d : DataW H} {α : Type} [Inhabited α] (f : α → D) (p : α → Prop) (sz : Nat) (hu : P.underlying t = some (.slice e)) (hs : P.cellsOf e = sz) (h : RelH P (k + 1) t ds d)
  (tp : ∀ (x : List D) (y : DataW H), RelH P k e x y → ∃ a, mkD P e x = f a ∧ p a) : ∃ l : List α, ds = [.slice sz (l.map f)] ∧ l.length ≤ 9223372036854775807 ∧ ∀ a ∈ l, p a := by
 obtain ⟨l, h1, h2, h3, _⟩ := k1of f p hu h.h (fun x y hh => tp x y ⟨hh⟩)
 subst hs
 exact ⟨l, h1, h2, h3⟩
theorem mk_one {e : TypeId} {ds : List D} {x : D} (ha : isAggT P e = false) (h : ds = [x]) : mkD P e ds = x := by subst h; unfold mkD; rw [ha]; rfl
theorem k1qa {r : Reach} {base : Nat} {t : TypeId} {v : Value} {d : DataW H} {ps : List MemPlace} {h : Hp} {nx : Nat} (hT : dataT P k t = true) (hval : Value.okWide P W r base t v)
  (hd : DataW.Trod enc P W 0 (fun _ => true) true t v d ps) : ∃ ds, RelH P k t ds d ∧ RepV (G0 W) W h nx v (vOf P t ds) := by
 obtain ⟨ds, h1, h2⟩ := arg_rep hT hval hd
 exact ⟨ds, ⟨h1⟩, h2⟩
end
end Go.Bv
namespace Go.Proofs.Ytpffhgljgpjenaa
open Go Go.Bv Go.Cv Go.Md Go.RowKit Go.ChangeShapes Go.WideShapes
theorem wf_u8 {i : Int} (h : (Lit.int .u8 i).wf = true) : 0 ≤ i ∧ i < 256 := by
 simp only [Lit.wf, IntKind.min, IntKind.max, IntKind.signed, IntKind.bits, Bool.and_eq_true] at h
 simp at h
 omega
structure k1a4 (x : TSpent) : Prop where
 Note_Value : (0 ≤ x.Note_Value ∧ x.Note_Value < 18446744073709551616)
 Note_Owner : (0 ≤ x.Note_Owner ∧ x.Note_Owner < 18446744073709551616)
 Note_Rho : (0 ≤ x.Note_Rho ∧ x.Note_Rho < 18446744073709551616)
 Note_Blind : (0 ≤ x.Note_Blind ∧ x.Note_Blind < 18446744073709551616)
 Key : (0 ≤ x.Key ∧ x.Key < 18446744073709551616)
 Number : ((-9223372036854775808) ≤ x.Number ∧ x.Number < 9223372036854775808)
 Position : ((-9223372036854775808) ≤ x.Position ∧ x.Position < 9223372036854775808)
 Path : (x.Path.length ≤ 9223372036854775807 ∧ ∀ y ∈ x.Path, (0 ≤ y ∧ y < 18446744073709551616))
structure k1eg (x : TNote) : Prop where
 Value : (0 ≤ x.Value ∧ x.Value < 18446744073709551616)
 Owner : (0 ≤ x.Owner ∧ x.Owner < 18446744073709551616)
 Rho : (0 ≤ x.Rho ∧ x.Rho < 18446744073709551616)
 Blind : (0 ≤ x.Blind ∧ x.Blind < 18446744073709551616)
structure k1cp (x : TWitness) : Prop where
 Ins : (x.Ins.length ≤ 9223372036854775807 ∧ ∀ y ∈ x.Ins, k1a4 y)
 Outs : (x.Outs.length ≤ 9223372036854775807 ∧ ∀ y ∈ x.Outs, k1eg y)
 Secret : (0 ≤ x.Secret ∧ x.Secret < 18446744073709551616)
structure k1qe (x : TStatement) : Prop where
 Depth : ((-9223372036854775808) ≤ x.Depth ∧ x.Depth < 9223372036854775808)
 Anchor : (0 ≤ x.Anchor ∧ x.Anchor < 18446744073709551616)
 Marks : (x.Marks.length ≤ 9223372036854775807 ∧ ∀ y ∈ x.Marks, (0 ≤ y ∧ y < 18446744073709551616))
 Commits : (x.Commits.length ≤ 9223372036854775807 ∧ ∀ y ∈ x.Commits, (0 ≤ y ∧ y < 18446744073709551616))
 Rhos : (x.Rhos.length ≤ 9223372036854775807 ∧ ∀ y ∈ x.Rhos, (0 ≤ y ∧ y < 18446744073709551616))
 Deposit : (0 ≤ x.Deposit ∧ x.Deposit < 18446744073709551616)
 Withdraw : (0 ≤ x.Withdraw ∧ x.Withdraw < 18446744073709551616)
 Fee : (0 ≤ x.Fee ∧ x.Fee < 18446744073709551616)
 Account : (0 ≤ x.Account ∧ x.Account < 18446744073709551616)
 Bind : (0 ≤ x.Bind ∧ x.Bind < 18446744073709551616)
theorem op5 {H : Type} {k : Nat} {ds : List D} {d : DataW H} (h : RelH Try.prog (k + 1) 5 ds d) : ∃ x : Int, ds = [D.int .u8 x] ∧ (0 ≤ x ∧ x < 256) := by
 obtain ⟨i, rfl, _, w⟩ := k1p3 (q := .u8) (show Try.prog.underlying 5 = some (.int .u8) by kernel_rfl) h
 exact ⟨i, rfl, wf_u8 w⟩
theorem op62 {H : Type} {k : Nat} {ds : List D} {d : DataW H} (h : RelH Try.prog (k + 2) 62 ds d) : ∃ x : List Int, ds = [D.slice 1 (x.map (D.int .u8))] ∧ (x.length ≤ 9223372036854775807 ∧ ∀ y ∈ x, (0 ≤ y ∧ y < 256)) := by
 obtain ⟨l, rfl, hm, hl⟩ := k1n0 (D.int .u8) (fun y => (0 ≤ y ∧ y < 256)) 1 (show Try.prog.underlying 62 = some (.slice 5) by kernel_rfl) (by kernel_rfl) h (fun x y hh => by
  obtain ⟨a, e, ha⟩ := op5 (k := k + 0) hh
  exact ⟨a, mk_one (by kernel_rfl) e, ha⟩)
 exact ⟨l, rfl, ⟨hm, hl⟩⟩
theorem dt62 : dataT Try.prog 2 62 = true := by kernel_rfl
theorem own : ownKnob Try.prog.godebug = none := by kernel_rfl
theorem laid : laidOutB Try.prog = true := by kernel_rfl
end Go.Proofs.Ytpffhgljgpjenaa
namespace Go.Md
open Go Go.Bv
theorem u64w (n : Int) : IntKind.u64.wrap n = n % 18446744073709551616 := IntKind.wrap_u64 n
theorem u8w (n : Int) : IntKind.u8.wrap n = n % 256 := IntKind.wrap_u8 n
theorem kjh (k : IntKind) (a b : Int) : ishr k a b = a / ((2 ^ min b.toNat k.bits : Nat) : Int) := by
 unfold ishr
 rw [show (2 : Int) ^ min b.toNat k.bits = ((2 ^ min b.toNat k.bits : Nat) : Int) from (Int.natCast_pow 2 _).symm, Int.fdiv_eq_ediv_of_nonneg _ (Int.natCast_nonneg _)]
theorem k1lc (a b : Int) : ishl .u64 a b = (a * ((2 ^ min b.toNat 64 : Nat) : Int)) % 18446744073709551616 := by
 unfold ishl
 rw [u64w, show (2 : Int) ^ min b.toNat IntKind.u64.bits = ((2 ^ min b.toNat 64 : Nat) : Int) by rw [show IntKind.u64.bits = 64 from rfl]; exact (Int.natCast_pow 2 _).symm]
theorem kjw (n : Nat) (h : n < 18446744073709551616) : (BitVec.ofInt 64 (n : Int)).toNat = n := by
 rw [BitVec.toNat_ofInt]
 omega
theorem k1jj (a b : Nat) (ha : a < 18446744073709551616) (hb : b < 18446744073709551616) : iand .u64 a b = ((a &&& b : Nat) : Int) := by
 unfold iand
 rw [u64w]
 show (((BitVec.ofInt 64 a &&& BitVec.ofInt 64 b).toNat : Nat) : Int) % _ = _
 rw [BitVec.toNat_and, kjw a ha, kjw b hb]
 have := Nat.and_le_left (n := a) (m := b)
 omega
theorem ior_nat (a b : Nat) (ha : a < 18446744073709551616) (hb : b < 18446744073709551616) : ior .u64 a b = ((a ||| b : Nat) : Int) := by
 unfold ior
 rw [u64w]
 show (((BitVec.ofInt 64 a ||| BitVec.ofInt 64 b).toNat : Nat) : Int) % _ = _
 rw [BitVec.toNat_or, kjw a ha, kjw b hb]
 have := Nat.or_lt_two_pow (x := a) (y := b) (n := 64) (by omega) (by omega)
 omega
theorem khx (a : Int) (h : 0 ≤ a ∧ a < 18446744073709551616) : iand .u64 a 4294967295 = a % 4294967296 := by
 obtain ⟨n, rfl⟩ := Int.eq_ofNat_of_zero_le h.1
 have := k1jj n 4294967295 (by omega) (by omega)
 rw [show ((4294967295 : Nat) : Int) = 4294967295 from rfl] at this
 rw [this, show (4294967295 : Nat) = 2 ^ 32 - 1 from rfl, Nat.and_two_pow_sub_one_eq_mod]
 exact Int.natCast_emod _ _
theorem k1p2 (a : Int) (h : 0 ≤ a ∧ a < 18446744073709551616) : iand .u64 a 1 = a % 2 := by
 obtain ⟨n, rfl⟩ := Int.eq_ofNat_of_zero_le h.1
 have := k1jj n 1 (by omega) (by omega)
 rw [show ((1 : Nat) : Int) = 1 from rfl] at this
 rw [this, Nat.and_one_is_mod]
 exact Int.natCast_emod _ _
theorem ior_add (a c : Nat) (k : Nat) (ha : a < 2 ^ k) (h : a + 2 ^ k * c < 18446744073709551616) : ior .u64 a ((2 ^ k * c : Nat) : Int) = ((a + 2 ^ k * c : Nat) : Int) := by
 rw [ior_nat _ _ (by omega) (by omega), Nat.or_comm, ← Nat.two_pow_add_eq_or_of_lt ha, Nat.add_comm]
theorem ior_add' (a c : Nat) (k : Nat) (ha : a < 2 ^ k) (h : a + 2 ^ k * c < 18446744073709551616) : ior .u64 ((2 ^ k * c : Nat) : Int) a = ((a + 2 ^ k * c : Nat) : Int) := by
 rw [ior_nat _ _ (by omega) (by omega), ← Nat.two_pow_add_eq_or_of_lt ha, Nat.add_comm]
theorem ishr32 (a : Int) : ishr .u64 a 32 = a / 4294967296 := kjh _ _ _
theorem ishr16 (a : Int) : ishr .u64 a 16 = a / 65536 := kjh _ _ _
theorem ishr8 (a : Int) : ishr .u64 a 8 = a / 256 := kjh _ _ _
theorem ishr1 (a : Int) : ishr .u64 a 1 = a / 2 := kjh _ _ _
theorem k1qc (a b : Int) (ha : 0 ≤ a ∧ a < 18446744073709551616) (hb : 0 ≤ b ∧ b < 18446744073709551616) :
  ((a / 4294967296 * (b / 4294967296) + ((a / 4294967296 * (b % 4294967296) + a % 4294967296 * (b % 4294967296) / 4294967296) / 4294967296)) + ((a / 4294967296 * (b % 4294967296) + a % 4294967296 * (b % 4294967296) / 4294967296) % 4294967296 + a % 4294967296 * (b / 4294967296)) / 4294967296) = a * b / 18446744073709551616 ∧
  a % 4294967296 * (b % 4294967296) < 18446744073709551616 ∧ a / 4294967296 * (b % 4294967296) + a % 4294967296 * (b % 4294967296) / 4294967296 < 18446744073709551616 ∧
  a % 4294967296 * (b / 4294967296) < 18446744073709551616 - 4294967296 ∧ a / 4294967296 * (b / 4294967296) < 18446744065119617026 ∧ 0 ≤ a % 4294967296 * (b % 4294967296) ∧ 0 ≤ a / 4294967296 * (b % 4294967296) ∧ 0 ≤ a % 4294967296 * (b / 4294967296) ∧ 0 ≤ a / 4294967296 * (b / 4294967296) := by
 have h1 : ∀ x y : Int, 0 ≤ x → x ≤ 4294967295 → 0 ≤ y → y ≤ 4294967295 → 0 ≤ x * y ∧ x * y ≤ 18446744065119617025 := by
  intro x y h0 h1 h2 h3
  exact ⟨Int.mul_nonneg h0 h2, by have := Int.mul_le_mul h1 h3 h2 (by omega); omega⟩
 have a1 := h1 (a % 4294967296) (b % 4294967296) (by omega) (by omega) (by omega) (by omega)
 have a2 := h1 (a / 4294967296) (b % 4294967296) (by omega) (by omega) (by omega) (by omega)
 have a3 := h1 (a % 4294967296) (b / 4294967296) (by omega) (by omega) (by omega) (by omega)
 have a4 := h1 (a / 4294967296) (b / 4294967296) (by omega) (by omega) (by omega) (by omega)
 have e : a * b = a / 4294967296 * (b / 4294967296) * 18446744073709551616 + (a / 4294967296 * (b % 4294967296) + a % 4294967296 * (b / 4294967296)) * 4294967296 + a % 4294967296 * (b % 4294967296) := by
  have ea : a = a / 4294967296 * 4294967296 + a % 4294967296 := by omega
  have eb : b = b / 4294967296 * 4294967296 + b % 4294967296 := by omega
  conv => lhs; rw [ea, eb]
  generalize a / 4294967296 = x
  generalize a % 4294967296 = y
  generalize b / 4294967296 = z
  generalize b % 4294967296 = t
  grind
 generalize a % 4294967296 * (b % 4294967296) = p0 at *
 generalize a / 4294967296 * (b % 4294967296) = p1 at *
 generalize a % 4294967296 * (b / 4294967296) = p2 at *
 generalize a / 4294967296 * (b / 4294967296) = p3 at *
 generalize a * b = ab at *
 refine ⟨?_, ?_, ?_, ?_, ?_, ?_, ?_, ?_, ?_⟩ <;> omega
structure Half (U x a b Q : Int) : Prop where
 hU : 0 ≤ U
 hUv : U < a * 4294967296 + b
 hx : 0 ≤ x ∧ x < 4294967296
 ha : 2147483648 ≤ a ∧ a < 4294967296
 hb : 0 ≤ b ∧ b < 4294967296
 hQ : Q = (U * 4294967296 + x) / (a * 4294967296 + b)
theorem Half.q {U x a b Q : Int} (h : Half U x a b Q) : 0 ≤ Q ∧ Q < 4294967296 ∧ Q * (a * 4294967296 + b) ≤ U * 4294967296 + x ∧ U * 4294967296 + x < (Q + 1) * (a * 4294967296 + b) := by
 obtain ⟨h1, h2, h3, h4, h5, h6⟩ := h
 have hv : 0 < a * 4294967296 + b := by omega
 have e := Int.emod_add_mul_ediv (U * 4294967296 + x) (a * 4294967296 + b)
 have l := Int.emod_nonneg (U * 4294967296 + x) (by omega : a * 4294967296 + b ≠ 0)
 have r := Int.emod_lt_of_pos (U * 4294967296 + x) hv
 rw [← h6] at e
 generalize hvv : a * 4294967296 + b = v at *
 have e2 : (Q + 1) * v = Q * v + v := by grind
 have e3 : v * Q = Q * v := by grind
 have q0 : 0 ≤ Q := by
  rw [h6]
  exact Int.ediv_nonneg (by omega) (by omega)
 have q1 : Q < 4294967296 := by
  rw [h6]
  exact Int.ediv_lt_of_lt_mul hv (by omega)
 refine ⟨q0, q1, by omega, by omega⟩
theorem Half.exit {U x a b Q q r : Int} (h : Half U x a b Q) (e : q * a + r = U) (hq : Q ≤ q) (h2 : q * b ≤ r * 4294967296 + x) : q = Q := by
 obtain ⟨q0, q1, q2, q3⟩ := h.q
 have h4 := h.ha
 have : q * (a * 4294967296 + b) ≤ U * 4294967296 + x := by
  have : q * (a * 4294967296 + b) = q * a * 4294967296 + q * b := by grind
  rw [this]
  generalize q * a = qa at *
  omega
 have h5 : q < Q + 1 := by
  have hv : 0 < a * 4294967296 + b := by have := h.hb; omega
  exact Int.lt_of_mul_lt_mul_right (by omega) (Int.le_of_lt hv)
 omega
theorem Half.down {U x a b Q q r : Int} (h : Half U x a b Q) (e : q * a + r = U) (h2 : 4294967296 ≤ q ∨ r * 4294967296 + x < q * b) : Q ≤ q - 1 := by
 obtain ⟨q0, q1, q2, q3⟩ := h.q
 rcases h2 with h2 | h2
 ·omega
 ·have : U * 4294967296 + x < q * (a * 4294967296 + b) := by
   have : q * (a * 4294967296 + b) = q * a * 4294967296 + q * b := by grind
   rw [this]
   generalize q * a = qa at *
   omega
  have h5 : Q < q := by
   have hv : 0 < a * 4294967296 + b := by have := h.hb; have := h.ha; omega
   exact Int.lt_of_mul_lt_mul_right (a := a * 4294967296 + b) (by omega) (Int.le_of_lt hv)
  omega
theorem Half.small {U x a b Q q r : Int} (h : Half U x a b Q) (e : q * a + r = U) (hr : 4294967296 ≤ r) : q < 4294967296 := by
 have h2 := h.hUv
 have h4 := h.ha
 have h5 := h.hb
 have : q * a < 4294967296 * a := by generalize q * a = qa at *; omega
 exact Int.lt_of_mul_lt_mul_right this (by omega)
theorem Half.done {U x a b Q q r : Int} (h : Half U x a b Q) (e : q * a + r = U) (hq : Q ≤ q) (hr : 4294967296 ≤ r) : q = Q := by
 refine h.exit e hq ?_
 have h1 := h.small e hr
 obtain ⟨q0, _⟩ := h.q
 have h5 := h.hb
 have h6 := h.hx
 have : q * b ≤ 4294967296 * 4294967296 := Int.mul_le_mul (by omega) (by omega) (by omega) (by omega)
 omega
theorem Half.rest {U x a b Q : Int} (h : Half U x a b Q) : (U * 4294967296 + x) - Q * (a * 4294967296 + b) = (U * 4294967296 + x) % (a * 4294967296 + b) ∧ 0 ≤ (U * 4294967296 + x) % (a * 4294967296 + b) ∧ (U * 4294967296 + x) % (a * 4294967296 + b) < a * 4294967296 + b := by
 have hv : 0 < a * 4294967296 + b := by have := h.hb; have := h.ha; omega
 have e := Int.emod_add_mul_ediv (U * 4294967296 + x) (a * 4294967296 + b)
 rw [← h.hQ] at e
 have := Int.mul_comm (a * 4294967296 + b) Q
 exact ⟨by omega, Int.emod_nonneg _ (by omega), Int.emod_lt_of_pos _ hv⟩
theorem k1nm {N y p U un1 un0 Q1 R1 Q0 R0 : Int} (hp : 0 < p) (hy : 0 < y) (hN : N * p = U * 18446744073709551616 + un1 * 4294967296 + un0) (h1 : U * 4294967296 + un1 - Q1 * (y * p) = R1) (h0 : R1 * 4294967296 + un0 - Q0 * (y * p) = R0)
  (hr : 0 ≤ R0 ∧ R0 < y * p) : Q1 * 4294967296 + Q0 = N / y ∧ R0 / p = N % y := by
 have e : N * p = (Q1 * 4294967296 + Q0) * (y * p) + R0 := by
  rw [hN]
  have : (Q1 * 4294967296 + Q0) * (y * p) = Q1 * (y * p) * 4294967296 + Q0 * (y * p) := by grind
  rw [this]
  generalize Q1 * (y * p) = a at *
  generalize Q0 * (y * p) = b at *
  omega
 have e2 : R0 = (N - (Q1 * 4294967296 + Q0) * y) * p := by grind
 have h3 : 0 ≤ N - (Q1 * 4294967296 + Q0) * y := by
  rcases Int.lt_or_le (N - (Q1 * 4294967296 + Q0) * y) 0 with h | h
  ·exfalso
   have : (N - (Q1 * 4294967296 + Q0) * y) * p < 0 := Int.mul_neg_of_neg_of_pos h hp
   omega
  ·exact h
 have h4 : N - (Q1 * 4294967296 + Q0) * y < y := by
  refine Int.lt_of_mul_lt_mul_right (a := p) ?_ (Int.le_of_lt hp)
  omega
 have e3 : N = (N - (Q1 * 4294967296 + Q0) * y) + y * (Q1 * 4294967296 + Q0) := by grind
 constructor
 ·conv => rhs; rw [e3]
  rw [Int.add_mul_ediv_left _ _ (by omega), Int.ediv_eq_zero_of_lt h3 h4]
  omega
 ·rw [e2, Int.mul_ediv_cancel _ (by omega)]
  conv => rhs; rw [e3]
  rw [Int.add_mul_emod_self_left, Int.emod_eq_of_lt h3 h4]
end Go.Md
namespace Go.Md
open Go Go.Bv
theorem ix_nat {α : Type} [Inhabited α] (l : List α) (i : Int) (h0 : 0 ≤ i) (h1 : i < (l.length : Int)) : ix l i = l[i.toNat]'(by omega) := by
 have : i.toNat < l.length := by omega
 simp [ix, this]
theorem ix_mem {α : Type} [Inhabited α] (l : List α) (i : Int) (h0 : 0 ≤ i) (h1 : i < (l.length : Int)) : ix l i ∈ l := by
 rw [ix_nat l i h0 h1]; exact List.getElem_mem _
theorem inc (i n : Int) (h0 : 0 ≤ i) (h : i < n) (hn : n ≤ 9223372036854775807) : IntKind.i64.wrap (i + 1) = i + 1 := k1l2 _ (by omega) (by omega)
theorem wi (n : Int) (h0 : -9223372036854775808 ≤ n) (h : n ≤ 9223372036854775807) : IntKind.i64.wrap n = n := k1l2 n h0 (by omega)
theorem wu (n : Int) (h0 : 0 ≤ n) (h : n ≤ 18446744073709551615) : IntKind.u64.wrap n = n := wrap_u64 n h0 (by omega)
theorem tdiv_nn (a b : Int) (h : 0 ≤ a) : Int.tdiv a b = a / b := Int.tdiv_eq_ediv_of_nonneg h
theorem tmod_nn (a b : Int) (h : 0 ≤ a) : Int.tmod a b = a % b := Int.tmod_eq_emod_of_nonneg h
theorem k2f {α : Type} [Inhabited α] (l : List α) (i : Int) (h0 : 0 ≤ i) (h1 : i < (l.length : Int)) : l.take (i + 1).toNat = l.take i.toNat ++ [ix l i] := by
 rw [ix_nat l i h0 h1, show (i + 1).toNat = i.toNat + 1 by omega, List.take_succ_eq_append_getElem (by omega)]
theorem drop_ix {α : Type} [Inhabited α] (l : List α) (i : Int) (h0 : 0 ≤ i) (h1 : i < (l.length : Int)) : l.drop i.toNat = ix l i :: l.drop (i + 1).toNat := by
 rw [ix_nat l i h0 h1, show (i + 1).toNat = i.toNat + 1 by omega]
 exact List.drop_eq_getElem_cons (by omega)
theorem k17w {α : Type} (l m : List α) (h : l.length = m.length) : rowOver l m l.length = m := by
 simp [rowOver, h]
theorem ky9 (a m : Int) : ∀ k : Nat, (a % m) ^ k % m = a ^ k % m
 | 0 => by simp
 | k + 1 => by rw [Int.pow_succ, Int.pow_succ, Int.mul_emod, ky9 a m k, Int.emod_emod_of_dvd _ (Int.dvd_refl _), ← Int.mul_emod]
abbrev U64 (n : Int) : Prop := 0 ≤ n ∧ n < 18446744073709551616
abbrev By (l : List Int) : Prop := ∀ x ∈ l, 0 ≤ x ∧ x < 256
abbrev Us (l : List Int) : Prop := ∀ x ∈ l, 0 ≤ x ∧ x < 18446744073709551616
def dig : Nat → Int → List Int
 | 0, _ => []
 | k + 1, n => n % 256 :: dig k (n / 256)
def val : List Int → Int
 | [] => 0
 | x :: r => x + 256 * val r
@[simp] theorem k3b : ∀ (k : Nat) (n : Int), (dig k n).length = k
 | 0, _ => rfl
 | k + 1, n => by simp [dig, k3b k]
theorem khy (k : Nat) : (256 : Int) ^ (k + 1) = 256 * 256 ^ k := by rw [Int.pow_succ, Int.mul_comm]
theorem kgk (k : Nat) : (0 : Int) < 256 ^ k := Int.pow_pos (by omega)
theorem k19o : ∀ (k : Nat) (n : Int), dig (k + 1) n = dig k n ++ [n / 256 ^ k % 256]
 | 0, n => by simp [dig]
 | k + 1, n => by
  show n % 256 :: dig (k + 1) (n / 256) = n % 256 :: dig k (n / 256) ++ _
  rw [k19o k (n / 256), khy, Int.ediv_ediv_of_nonneg (by omega)]
  rfl
theorem val_dig : ∀ (k : Nat) (n : Int), 0 ≤ n → n < 256 ^ k → val (dig k n) = n
 | 0, n, h0, h => by simp at h; simp [dig, val]; omega
 | k + 1, n, h0, h => by
  rw [khy] at h
  simp only [dig, val]
  rw [val_dig k (n / 256) (by omega) (Int.ediv_lt_of_lt_mul (by omega) (by rw [Int.mul_comm]; exact h))]
  omega
theorem knm (k : Nat) : (256 : Int) ^ k = ((2 ^ (8 * k) : Nat) : Int) := by rw [Nat.pow_mul, Int.natCast_pow]; rfl
theorem koj {k m : Nat} (h : k ≤ m) : (256 : Int) ^ k ≤ 256 ^ m := by
 rw [knm, knm]
 exact Int.ofNat_le.2 (Nat.pow_le_pow_right (by omega) (by omega))
theorem kfh : ∀ (l : List Int), By l → 0 ≤ val l ∧ val l < 256 ^ l.length
 | [], _ => by simp [val]
 | x :: r, h => by
  have h1 := kfh r (fun y hy => h y (by simp [hy]))
  have h2 := h x (by simp)
  rw [List.length_cons, khy]
  simp only [val]
  omega
theorem dig_val : ∀ (l : List Int), By l → dig l.length (val l) = l
 | [], _ => rfl
 | x :: r, h => by
  have h1 := dig_val r (fun y hy => h y (by simp [hy]))
  have h2 := h x (by simp)
  simp only [List.length_cons, dig, val]
  rw [show (x + 256 * val r) % 256 = x by omega, show (x + 256 * val r) / 256 = val r by omega, h1]
theorem k1ip : ∀ (l : List Int) (x : Int), val (l ++ [x]) = val l + 256 ^ l.length * x
 | [], x => by simp [val]
 | y :: r, x => by
  simp only [List.cons_append, val, k1ip r x, List.length_cons, khy]
  grind
theorem val8 (l : List Int) (h : By l) (hl : l.length ≤ 8) : U64 (val l) := by
 have h1 := kfh l h
 have : (256 : Int) ^ l.length ≤ 256 ^ 8 := koj hl
 exact ⟨h1.1, by omega⟩
theorem ior_val (l : List Int) (x : Int) (hl : By l) (h8 : l.length < 8) (hx : 0 ≤ x ∧ x < 256) : ior .u64 (val l) (ishl .u64 x (8 * (l.length : Int))) = val (l ++ [x]) := by
 have h1 := kfh l hl
 rw [k1ip, k1lc, show min (8 * (l.length : Int)).toNat 64 = 8 * l.length by omega, ← knm]
 have h2 : x * 256 ^ l.length + 256 ^ l.length ≤ 256 * 256 ^ l.length := by
  have := kgk l.length
  have : (x + 1) * 256 ^ l.length ≤ 256 * 256 ^ l.length := Int.mul_le_mul_of_nonneg_right (by omega) (by omega)
  grind
 have h3 : (256 : Int) * 256 ^ l.length ≤ 256 ^ 8 := by rw [← khy]; exact koj (by omega)
 have h4 : 0 ≤ x * 256 ^ l.length := Int.mul_nonneg hx.1 (Int.le_of_lt (kgk _))
 rw [Int.emod_eq_of_lt h4 (by omega)]
 obtain ⟨a, ha⟩ := Int.eq_ofNat_of_zero_le h1.1
 obtain ⟨c, hc⟩ := Int.eq_ofNat_of_zero_le hx.1
 have key := ior_add a c (8 * l.length)
 rw [knm] at h1 h2 h3 h4 ⊢
 generalize 2 ^ (8 * l.length) = P at *
 rw [ha] at h1
 rw [hc] at h2 h4
 have e : (c : Int) * (P : Int) = ((P * c : Nat) : Int) := by rw [Nat.mul_comm]; exact (Int.natCast_mul _ _).symm
 have e' : (P : Int) * (c : Int) = ((P * c : Nat) : Int) := (Int.natCast_mul _ _).symm
 rw [e] at h2 h4
 rw [ha, hc, e, e']
 generalize P * c = R at *
 rw [key (by omega) (by omega)]
 exact Int.natCast_add _ _
def len4 (n : Int) : Int := if n < 0 ∨ 4294967295 < n then 0 else n
theorem len4_in {n : Int} (h : 0 ≤ n ∧ n ≤ 4294967295) : len4 n = n := if_neg (by omega)
def encL (l : List Int) : List Int := dig 4 (len4 l.length) ++ l.flatMap (dig 8)
def encB (l : List Int) : List Int := dig 4 (len4 l.length) ++ l
theorem kqy (l : List Int) : (l.flatMap (dig 8)).length = 8 * l.length := by
 induction l with
 | nil => rfl
 | cons x r ih => rw [List.flatMap_cons, List.length_append, ih, k3b, List.length_cons]; omega
@[simp] theorem k1qf (l : List Int) : (encL l).length = 4 + 8 * l.length := by rw [encL, List.length_append, kqy, k3b]
@[simp] theorem k1qg (l : List Int) : (encB l).length = 4 + l.length := by simp [encB]
theorem By.append {a b : List Int} (ha : By a) (hb : By b) : By (a ++ b) := fun x hx => (List.mem_append.1 hx).elim (ha x) (hb x)
theorem By.take {l : List Int} (h : By l) (n : Nat) : By (l.take n) := fun x hx => h x (List.mem_of_mem_take hx)
theorem By.drop {l : List Int} (h : By l) (n : Nat) : By (l.drop n) := fun x hx => h x (List.mem_of_mem_drop hx)
theorem By.us {l : List Int} (h : By l) : Us l := fun x hx => by have := h x hx; omega
end Go.Md
namespace Go.Md
open Go Go.Bv
def len64 (x : Int) : Int := if x = 0 then 0 else (Nat.log2 x.toNat + 1 : Nat)
theorem kul (x : Int) (k : Nat) (h : ((2 ^ k : Nat) : Int) ≤ x) : len64 (x / ((2 ^ k : Nat) : Int)) + k = len64 x := by
 obtain ⟨n, rfl⟩ := Int.eq_ofNat_of_zero_le (by have := Nat.two_pow_pos k; omega : 0 ≤ x)
 have hp : 0 < 2 ^ k := Nat.two_pow_pos k
 have hn : 2 ^ k ≤ n := by omega
 have e : ((n : Int) / ((2 ^ k : Nat) : Int)) = ((n / 2 ^ k : Nat) : Int) := (Int.natCast_ediv _ _).symm
 have h1 : 0 < n / 2 ^ k := Nat.div_pos hn hp
 unfold len64
 rw [e, if_neg (by omega), if_neg (by omega), Int.toNat_natCast, Int.toNat_natCast]
 have : Nat.log2 n = Nat.log2 (n / 2 ^ k) + k := by
  rw [Nat.log2_eq_iff (by omega)]
  have a := Nat.log2_self_le (n := n / 2 ^ k) (by omega)
  have b := Nat.lt_log2_self (n := n / 2 ^ k)
  rw [Nat.le_div_iff_mul_le hp] at a
  rw [Nat.div_lt_iff_lt_mul hp] at b
  constructor
  ·rw [Nat.pow_add]; exact a
  ·rw [show Nat.log2 (n / 2 ^ k) + k + 1 = Nat.log2 (n / 2 ^ k) + 1 + k by omega, Nat.pow_add]; exact b
 omega
theorem k1b7 (y : Int) (h : 0 < y ∧ y < 18446744073709551616) : ∃ s : Nat, 64 - len64 y = (s : Int) ∧ s ≤ 63 ∧ 9223372036854775808 ≤ y * ((2 ^ s : Nat) : Int) ∧ y * ((2 ^ s : Nat) : Int) < 18446744073709551616 := by
 obtain ⟨n, rfl⟩ := Int.eq_ofNat_of_zero_le (by omega : 0 ≤ y)
 have l : Nat.log2 n < 64 := (Nat.log2_lt (by omega)).2 (by omega)
 have a := Nat.log2_self_le (n := n) (by omega)
 have b := Nat.lt_log2_self (n := n)
 refine ⟨63 - Nat.log2 n, ?_, by omega, ?_, ?_⟩
 ·unfold len64
  rw [if_neg (by omega), Int.toNat_natCast]
  omega
 ·have : 2 ^ 63 ≤ n * 2 ^ (63 - Nat.log2 n) := by
   rw [show (63 : Nat) = Nat.log2 n + (63 - Nat.log2 n) by omega, Nat.pow_add, show Nat.log2 n + (63 - Nat.log2 n) - Nat.log2 n = 63 - Nat.log2 n by omega]
   exact Nat.mul_le_mul_right _ a
  rw [← Int.natCast_mul]
  generalize n * 2 ^ (63 - Nat.log2 n) = m at *
  omega
 ·have : n * 2 ^ (63 - Nat.log2 n) < 2 ^ 64 := by
   rw [show (64 : Nat) = Nat.log2 n + 1 + (63 - Nat.log2 n) by omega, Nat.pow_add]
   exact Nat.mul_lt_mul_of_pos_right b (Nat.two_pow_pos _)
  rw [← Int.natCast_mul]
  generalize n * 2 ^ (63 - Nat.log2 n) = m at *
  omega
def tab8 : ByteArray := ⟨#[0, 1, 2, 2, 3, 3, 3, 3, 4, 4, 4, 4, 4, 4, 4, 4, 5, 5, 5, 5, 5, 5, 5, 5, 5, 5, 5, 5, 5, 5, 5, 5, 6, 6, 6, 6, 6, 6, 6, 6, 6, 6, 6, 6, 6, 6, 6, 6, 6, 6, 6, 6, 6, 6, 6, 6, 6, 6, 6, 6, 6, 6, 6, 6, 7, 7, 7, 7, 7, 7, 7, 7, 7, 7, 7, 7, 7, 7, 7, 7, 7, 7, 7, 7, 7, 7, 7, 7, 7, 7, 7, 7, 7, 7, 7, 7, 7, 7, 7, 7, 7, 7, 7, 7, 7, 7, 7, 7, 7, 7, 7, 7, 7, 7, 7, 7, 7, 7, 7, 7, 7, 7, 7, 7, 7, 7, 7, 7, 8, 8, 8, 8, 8, 8, 8, 8, 8, 8, 8, 8, 8, 8, 8, 8, 8, 8, 8, 8, 8, 8, 8, 8, 8, 8, 8, 8, 8, 8, 8, 8, 8, 8, 8, 8, 8, 8, 8, 8, 8, 8, 8, 8, 8, 8, 8, 8, 8, 8, 8, 8, 8, 8, 8, 8, 8, 8, 8, 8, 8, 8, 8, 8, 8, 8, 8, 8, 8, 8, 8, 8, 8, 8, 8, 8, 8, 8, 8, 8, 8, 8, 8, 8, 8, 8, 8, 8, 8, 8, 8, 8, 8, 8, 8, 8, 8, 8, 8, 8, 8, 8, 8, 8, 8, 8, 8, 8, 8, 8, 8, 8, 8, 8, 8, 8, 8, 8, 8, 8, 8, 8, 8, 8, 8, 8, 8, 8]⟩
theorem k1pb : ∀ b : Nat, b < 256 → Cv.byteAt tab8 (b : Int) = len64 (b : Int) := by decide +kernel
theorem k1jm (x : Int) (h : 0 ≤ x ∧ x < 256) : Cv.byteAt tab8 x = len64 x := by
 obtain ⟨n, rfl⟩ := Int.eq_ofNat_of_zero_le h.1
 exact k1pb n (by omega)
theorem k1m9 (x : Int) (h : 0 ≤ x ∧ x < 256) : 0 ≤ len64 x ∧ len64 x ≤ 8 := by
 rw [← k1jm x h]
 obtain ⟨n, rfl⟩ := Int.eq_ofNat_of_zero_le h.1
 have : ∀ b : Nat, b < 256 → 0 ≤ Cv.byteAt tab8 (b : Int) ∧ Cv.byteAt tab8 (b : Int) ≤ 8 := by decide +kernel
 exact this n (by omega)
theorem k1ob : tab8.size = 256 := by decide +kernel
end Go.Md
namespace Go.Md
open Go Go.Bv Go.Cv Go.Md Go.RowKit
section
variable {α β : Type}
def AllI (f : α → Bool) (l : List α) (i : Int) : Prop := 0 ≤ i ∧ i ≤ l.length ∧ ∀ x ∈ l.take i.toNat, f x = true
theorem AllI.start {f : α → Bool} {l : List α} : AllI f l 0 := ⟨by omega, by omega, by simp⟩
theorem AllI.next [Inhabited α] {f : α → Bool} {l : List α} {i : Int} (h : AllI f l i) (hh : i < l.length) (hl : (l.length : Int) ≤ 9223372036854775807) (hf : f (ix l i) = true) :
  AllI f l (IntKind.i64.wrap (i + 1)) ∧ (l.length - IntKind.i64.wrap (i + 1)).toNat < (l.length - i).toNat := by
 obtain ⟨g0, g1, g2⟩ := h
 rw [inc i l.length g0 hh hl]
 refine ⟨⟨by omega, by omega, ?_⟩, by omega⟩
 rw [k2f l i g0 hh]
 intro x hx
 rcases List.mem_append.1 hx with hx | hx
 ·exact g2 x hx
 ·have : x = ix l i := by simpa using hx
  rw [this]; exact hf
theorem AllI.bad [Inhabited α] {f : α → Bool} {l : List α} {i : Int} (h : AllI f l i) (hh : i < l.length) (hf : f (ix l i) = false) : l.all f = false :=
 List.all_eq_false.2 ⟨ix l i, Md.ix_mem l i h.1 hh, by simp [hf]⟩
theorem AllI.done {f : α → Bool} {l : List α} {i : Int} (h : AllI f l i) (hh : ¬ i < l.length) : l.all f = true := by
 obtain ⟨g0, g1, g2⟩ := h
 rw [List.take_of_length_le (by omega)] at g2
 exact List.all_eq_true.2 g2
def FoldI (f : β → α → β) (z : β) (l : List α) (i : Int) (s : β) : Prop := 0 ≤ i ∧ i ≤ l.length ∧ s = (l.take i.toNat).foldl f z
theorem FoldI.start {f : β → α → β} {z : β} {l : List α} : FoldI f z l 0 z := ⟨by omega, by omega, by simp⟩
theorem FoldI.next [Inhabited α] {f : β → α → β} {z : β} {l : List α} {i : Int} {s s' : β} (h : FoldI f z l i s) (hh : i < l.length) (hl : (l.length : Int) ≤ 9223372036854775807) (hs : s' = f s (ix l i)) :
  FoldI f z l (IntKind.i64.wrap (i + 1)) s' ∧ (l.length - IntKind.i64.wrap (i + 1)).toNat < (l.length - i).toNat := by
 obtain ⟨g0, g1, g2⟩ := h
 rw [inc i l.length g0 hh hl]
 refine ⟨⟨by omega, by omega, ?_⟩, by omega⟩
 rw [k2f l i g0 hh, List.foldl_append, ← g2, hs]
 rfl
theorem FoldI.done {f : β → α → β} {z : β} {l : List α} {i : Int} {s : β} (h : FoldI f z l i s) (hh : ¬ i < l.length) : s = l.foldl f z := by
 obtain ⟨g0, g1, g2⟩ := h
 rwa [List.take_of_length_le (by omega)] at g2
def FlatI (f : α → List β) (z : List β) (l : List α) (i : Int) (s : List β) : Prop := 0 ≤ i ∧ i ≤ l.length ∧ s = z ++ (l.take i.toNat).flatMap f
theorem FlatI.start {f : α → List β} {z : List β} {l : List α} : FlatI f z l 0 z := ⟨by omega, by omega, by simp⟩
theorem FlatI.next [Inhabited α] {f : α → List β} {z : List β} {l : List α} {i : Int} {s s' : List β} (h : FlatI f z l i s) (hh : i < l.length) (hl : (l.length : Int) ≤ 9223372036854775807) (hs : s' = s ++ f (ix l i)) :
  FlatI f z l (IntKind.i64.wrap (i + 1)) s' ∧ (l.length - IntKind.i64.wrap (i + 1)).toNat < (l.length - i).toNat := by
 obtain ⟨g0, g1, g2⟩ := h
 rw [inc i l.length g0 hh hl]
 refine ⟨⟨by omega, by omega, ?_⟩, by omega⟩
 rw [k2f l i g0 hh, List.flatMap_append, hs, g2]
 simp
theorem FlatI.done {f : α → List β} {z : List β} {l : List α} {i : Int} {s : List β} (h : FlatI f z l i s) (hh : ¬ i < l.length) : s = z ++ l.flatMap f := by
 obtain ⟨g0, g1, g2⟩ := h
 rwa [List.take_of_length_le (by omega)] at g2
theorem FlatI.len {f : α → List β} {z : List β} {l : List α} {i : Int} {s : List β} (h : FlatI f z l i s) (k : Nat) (hk : ∀ x ∈ l, (f x).length ≤ k) : s.length ≤ z.length + k * l.length := by
 obtain ⟨g0, g1, g2⟩ := h
 have key : ∀ (m : List α), (∀ x ∈ m, (f x).length ≤ k) → (m.flatMap f).length ≤ k * m.length := by
  intro m
  induction m with
  | nil => simp
  | cons a m ih =>
   intro hm
   have h1 := ih (fun x hx => hm x (by simp [hx]))
   have h2 := hm a (by simp)
   rw [List.flatMap_cons, List.length_append, List.length_cons, Nat.mul_add]
   omega
 have h1 := key (l.take i.toNat) (fun x hx => hk x (List.mem_of_mem_take hx))
 have h2 : k * (l.take i.toNat).length ≤ k * l.length := Nat.mul_le_mul_left _ (by rw [List.length_take]; omega)
 rw [g2, List.length_append]
 omega
def MapI (f : α → β) (l : List α) (i : Int) (s : List β) : Prop := 0 ≤ i ∧ i ≤ l.length ∧ s = (l.take i.toNat).map f
theorem MapI.start {f : α → β} {l : List α} : MapI f l 0 [] := ⟨by omega, by omega, by simp⟩
theorem MapI.next [Inhabited α] {f : α → β} {l : List α} {i : Int} {s s' : List β} (h : MapI f l i s) (hh : i < l.length) (hl : (l.length : Int) ≤ 9223372036854775807) (hs : s' = s ++ [f (ix l i)]) :
  MapI f l (IntKind.i64.wrap (i + 1)) s' ∧ (l.length - IntKind.i64.wrap (i + 1)).toNat < (l.length - i).toNat := by
 obtain ⟨g0, g1, g2⟩ := h
 rw [inc i l.length g0 hh hl]
 refine ⟨⟨by omega, by omega, ?_⟩, by omega⟩
 rw [k2f l i g0 hh, List.map_append, hs, g2]
 simp
theorem MapI.done {f : α → β} {l : List α} {i : Int} {s : List β} (h : MapI f l i s) (hh : ¬ i < l.length) : s = l.map f := by
 obtain ⟨g0, g1, g2⟩ := h
 rwa [List.take_of_length_le (by omega)] at g2
theorem MapI.len {f : α → β} {l : List α} {i : Int} {s : List β} (h : MapI f l i s) : s.length = i.toNat := by
 obtain ⟨g0, g1, g2⟩ := h
 rw [g2, List.length_map, List.length_take]; omega
def EqI [Inhabited α] (f : α → α → Bool) (l m : List α) (i : Int) : Prop := 0 ≤ i ∧ i ≤ l.length ∧ ∀ j : Nat, (j : Int) < i → f (ix l j) (ix m j) = true
theorem EqI.start [Inhabited α] {f : α → α → Bool} {l m : List α} : EqI f l m 0 := ⟨by omega, by omega, fun j hj => by omega⟩
theorem EqI.next [Inhabited α] {f : α → α → Bool} {l m : List α} {i : Int} (h : EqI f l m i) (hh : i < l.length) (hl : (l.length : Int) ≤ 9223372036854775807) (hf : f (ix l i) (ix m i) = true) :
  EqI f l m (IntKind.i64.wrap (i + 1)) ∧ (l.length - IntKind.i64.wrap (i + 1)).toNat < (l.length - i).toNat := by
 obtain ⟨g0, g1, g2⟩ := h
 rw [inc i l.length g0 hh hl]
 refine ⟨⟨by omega, by omega, fun j hj => ?_⟩, by omega⟩
 by_cases hji : (j : Int) = i
 ·rw [hji]; exact hf
 ·exact g2 j (by omega)
def eqB (f : α → α → Bool) : List α → List α → Bool
 | [], [] => true
 | a :: l, b :: m => f a b && eqB f l m
 | _, _ => false
theorem eqB_iff [Inhabited α] {f : α → α → Bool} : ∀ {l m : List α}, eqB f l m = true ↔ l.length = m.length ∧ ∀ j : Nat, j < l.length → f (ix l (j : Int)) (ix m (j : Int)) = true
 | [], [] => by simp [eqB]
 | [], _ :: _ => by simp [eqB]
 | _ :: _, [] => by simp [eqB]
 | a :: l, b :: m => by
  have e : ∀ (a : α) (l : List α) (j : Nat), j < l.length → ix (a :: l) ((j + 1 : Nat) : Int) = ix l (j : Int) := by
   intro a l j hj
   rw [ix_nat _ _ (by omega) (by simp; omega), ix_nat _ _ (by omega) (by omega)]
   rfl
  have e0 : ∀ (a : α) (l : List α), ix (a :: l) ((0 : Nat) : Int) = a := fun a l => by rw [ix_nat _ _ (by omega) (by simp)]; rfl
  simp only [eqB, Bool.and_eq_true, eqB_iff, List.length_cons]
  constructor
  ·rintro ⟨h1, h2, h3⟩
   refine ⟨by omega, fun j hj => ?_⟩
   cases j with
   | zero => rw [e0, e0]; exact h1
   | succ j => rw [e a l j (by omega), e b m j (by omega)]; exact h3 j (by omega)
  ·rintro ⟨h1, h2⟩
   have h3 := h2 0 (by omega)
   rw [e0, e0] at h3
   refine ⟨h3, by omega, fun j hj => ?_⟩
   have := h2 (j + 1) (by omega)
   rwa [e a l j (by omega), e b m j (by omega)] at this
theorem EqI.bad [Inhabited α] {f : α → α → Bool} {l m : List α} {i : Int} (h : EqI f l m i) (hh : i < l.length) (hf : f (ix l i) (ix m i) = false) : eqB f l m = false := by
 cases hq : eqB f l m with
 | false => rfl
 | true =>
  have h0 := h.1
  have := (eqB_iff.1 hq).2 i.toNat (by omega)
  rw [Int.toNat_of_nonneg h.1, hf] at this
  cases this
theorem EqI.done [Inhabited α] {f : α → α → Bool} {l m : List α} {i : Int} (h : EqI f l m i) (hlm : l.length = m.length) (hh : ¬ i < l.length) : eqB f l m = true :=
 eqB_iff.2 ⟨hlm, fun j hj => h.2.2 j (by omega)⟩
end
theorem k1g2 {α : Type} {p : α → Bool} : ∀ {l : List α} {j : Nat}, mIdx p l = some j → ∃ x, l[j]? = some x ∧ p x = true
 | [], _, h => by cases h
 | x :: l, j, h => by
  cases hp : p x with
  | true => simp only [mIdx, hp, cond_true, Option.some.injEq] at h; subst h; exact ⟨x, rfl, hp⟩
  | false =>
   simp only [mIdx, hp, cond_false, Option.map_eq_some_iff] at h
   obtain ⟨i, h1, rfl⟩ := h
   obtain ⟨y, h2, h3⟩ := k1g2 h1
   exact ⟨y, by simpa using h2, h3⟩
@[simp] theorem k1qh {α : Type} (p : α → Bool) : mHas p [] = false := rfl
@[simp] theorem k1qi {α β : Type} (p : α → Bool) (z : β) (vs : List β) : mVal p [] vs z = z := rfl
theorem k1p1 {α β : Type} {p : α → Bool} {ks : List α} {vs : List β} {z : β} (h : mHas p ks = true) (hl : ks.length = vs.length) : mVal p ks vs z ∈ vs := by
 unfold mHas at h
 unfold mVal
 cases hm : mIdx p ks with
 | none => rw [hm] at h; cases h
 | some j =>
  obtain ⟨x, h1, h2⟩ := k1g2 hm
  have hj : j < vs.length := by have := (List.getElem?_eq_some_iff.1 h1).1; omega
  simp only [List.getElem?_eq_getElem hj, Option.getD_some]
  exact List.getElem_mem hj
theorem k1ki (a : Int) (h : 0 ≤ a ∧ a < 4611686018427387904) : iand .i64 a 1 = a % 2 := by
 obtain ⟨n, rfl⟩ := Int.eq_ofNat_of_zero_le h.1
 unfold iand
 have e1 : (BitVec.ofInt IntKind.i64.bits (n : Int)).toNat = n := kjw n (by omega)
 have e2 : (BitVec.ofInt IntKind.i64.bits (1 : Int)).toNat = 1 := kjw 1 (by omega)
 rw [BitVec.toNat_and, e1, e2, Nat.and_one_is_mod]
 rw [wi _ (by omega) (by omega)]
 omega
end Go.Md
namespace Go.Proofs.Ytpffhgljgpjenaa
open Go Go.Bv Go.Cv Go.Md Go.RowKit
def rc (r i : Int) : Int := (3 * r + i + 1) * 11400714819323198485 % 18446744073709551616 % 18446744069414584321
def mixS (s : TA3) : TA3 := ⟨(s.a0 + ((s.a0 + s.a1) % 18446744069414584321 + s.a2) % 18446744069414584321) % 18446744069414584321, (s.a1 + ((s.a0 + s.a1) % 18446744069414584321 + s.a2) % 18446744069414584321) % 18446744069414584321, (s.a2 + ((s.a0 + s.a1) % 18446744069414584321 + s.a2) % 18446744069414584321) % 18446744069414584321⟩
def pw (a e : Int) : Int := a ^ e.toNat % 18446744069414584321
def rnd (s : TA3) (r : Int) : TA3 := mixS ⟨pw ((s.a0 + rc r 0) % 18446744069414584321) 7, pw ((s.a1 + rc r 1) % 18446744069414584321) 7, pw ((s.a2 + rc r 2) % 18446744069414584321) 7⟩
def rnds : Nat → TA3 → TA3
 | 0, s => s
 | n + 1, s => rnd (rnds n s) n
def permS (s : TA3) : TA3 := rnds 8 s
def absL : List Int → TA3 → TA3
 | [], s => s
 | [x], s => permS ⟨(s.a0 + x) % 18446744069414584321, s.a1, s.a2⟩
 | x :: y :: r, s => absL r (permS ⟨(s.a0 + x) % 18446744069414584321, (s.a1 + y) % 18446744069414584321, s.a2⟩)
def absI (label : Int) (l : List Int) : TA3 := ⟨0, 0, (label * 65536 % 18446744069414584321 + (l.length : Int)) % 18446744069414584321⟩
def absS (label : Int) (l : List Int) : TA3 := if l = [] then permS (absI label l) else absL l (absI label l)
def hashS (label : Int) (l : List Int) : Int := (absS label l).a0
def S3 (s : TA3) : Prop := U64 s.a0 ∧ U64 s.a1 ∧ U64 s.a2
theorem S3m {a b c : Int} (ha : U64 a) (hb : U64 b) (hc : U64 c) : S3 ⟨a, b, c⟩ := ⟨ha, hb, hc⟩
theorem ke8 (s : TA3) : S3 (permS s) := by
 show S3 (rnd _ _)
 unfold rnd mixS S3
 dsimp only
 omega
theorem k1ay : ∀ (l : List Int) (s : TA3), S3 s → S3 (absL l s)
 | [], _, h => h
 | [_], _, _ => ke8 _
 | _ :: _ :: r, _, _ => k1ay r _ (ke8 _)
theorem kot (label : Int) (l : List Int) : U64 (hashS label l) := by
 unfold hashS absS
 split
 ·exact (ke8 _).1
 ·rename_i h
  match l, h with
  | [_], _ => exact (ke8 _).1
  | _ :: _ :: r, _ => exact (k1ay r _ (ke8 _)).1
theorem k181 (s : TA3) : (permS s).a0 < 18446744069414584321 := by
 show (rnd _ _).a0 < _
 unfold rnd mixS
 dsimp only
 omega
theorem absL_lt : ∀ (l : List Int) (s : TA3), l ≠ [] → (absL l s).a0 < 18446744069414584321
 | [], _, h => (h rfl).elim
 | [_], _, _ => k181 _
 | [_, _], _, _ => k181 _
 | _ :: _ :: x :: r, s, _ => absL_lt (x :: r) _ (by simp)
theorem k1kf (label : Int) (l : List Int) : hashS label l < 18446744069414584321 := by
 unfold hashS absS
 split
 ·exact k181 _
 ·rename_i h; exact absL_lt _ _ h
structure RD where
 n : Int
 ok : Bool
 pos : Int
 fail : Bool
structure RL where
 l : List Int
 pos : Int
 fail : Bool
structure RdOk (b : List Int) (pos : Int) : Prop where
 by_ : By b
 len : b.length ≤ 137438953472
 pos0 : 0 ≤ pos
 pos1 : pos ≤ b.length
def rdD (b : List Int) (pos : Int) (f : Bool) (size : Int) : RD :=
 if f = true ∨ (b.length : Int) - pos < size then ⟨0, false, pos, true⟩ else ⟨val ((b.drop pos.toNat).take size.toNat), true, pos + size, false⟩
def rdU (b : List Int) (pos : Int) (f : Bool) (m : Int) : RD :=
 if (rdD b pos f 8).ok = false ∨ m < (rdD b pos f 8).n then ⟨0, false, (rdD b pos f 8).pos, true⟩ else rdD b pos f 8
def rdI (b : List Int) (pos : Int) (f : Bool) (m : Int) : RD :=
 if (rdD b pos f 4).ok = false ∨ m < (rdD b pos f 4).n then ⟨0, false, (rdD b pos f 4).pos, true⟩ else rdD b pos f 4
def rdLs (b : List Int) (p : Int) : Nat → Int → List Int → RL
 | 0, pos, acc => ⟨acc, pos, false⟩
 | k + 1, pos, acc => if p ≤ val ((b.drop pos.toNat).take 8) then ⟨[], pos + 8, true⟩ else rdLs b p k (pos + 8) (acc ++ [val ((b.drop pos.toNat).take 8)])
def rdL (b : List Int) (pos : Int) (f : Bool) (m p : Int) : RL :=
 if (rdI b pos f m).fail = true ∨ ((b.length : Int) - (rdI b pos f m).pos) / 8 < (rdI b pos f m).n then ⟨[], (rdI b pos f m).pos, true⟩ else rdLs b p (rdI b pos f m).n.toNat (rdI b pos f m).pos []
def rdB (b : List Int) (pos : Int) (f : Bool) (m : Int) : RL :=
 if (rdI b pos f m).fail = true ∨ (b.length : Int) - (rdI b pos f m).pos < (rdI b pos f m).n then ⟨[], (rdI b pos f m).pos, true⟩ else ⟨(b.take ((rdI b pos f m).pos + (rdI b pos f m).n).toNat).drop (rdI b pos f m).pos.toNat, (rdI b pos f m).pos + (rdI b pos f m).n, false⟩
theorem k14r {b : List Int} {pos p : Int} {f : Bool} (h : RdOk b pos) (h0 : 1 ≤ p) (h1 : p ≤ 8) : 0 ≤ (rdD b pos f p).n ∧ (rdD b pos f p).n < 256 ^ p.toNat := by
 unfold rdD
 split
 ·exact ⟨Int.le_refl 0, kgk _⟩
 ·rename_i hn
  have hb := kfh _ ((h.by_.drop pos.toNat).take p.toNat)
  rw [List.length_take, List.length_drop, Nat.min_eq_left (by have := h.pos0; omega)] at hb
  exact hb
theorem rdD_ok {b : List Int} {pos p : Int} {f : Bool} (h : RdOk b pos) (h0 : 1 ≤ p) : RdOk b (rdD b pos f p).pos := by
 unfold rdD
 have := h.pos0
 split
 ·exact h
 ·rename_i hn
  exact ⟨h.by_, h.len, by show 0 ≤ pos + p; omega, by show pos + p ≤ _; omega⟩
theorem rdU_ok {b : List Int} {pos m : Int} {f : Bool} (h : RdOk b pos) : RdOk b (rdU b pos f m).pos := by
 unfold rdU
 split
 ·exact rdD_ok h (by omega)
 ·exact rdD_ok h (by omega)
theorem rdI_ok {b : List Int} {pos m : Int} {f : Bool} (h : RdOk b pos) : RdOk b (rdI b pos f m).pos := by
 unfold rdI
 split
 ·exact rdD_ok h (by omega)
 ·exact rdD_ok h (by omega)
theorem rdI_n {b : List Int} {pos m : Int} {f : Bool} (h : RdOk b pos) (hm : 0 ≤ m) : 0 ≤ (rdI b pos f m).n ∧ (rdI b pos f m).n ≤ m := by
 have := k14r h (p := 4) (f := f) (by omega) (by omega)
 unfold rdI
 split
 ·exact ⟨Int.le_refl 0, hm⟩
 ·rename_i hn
  exact ⟨this.1, by omega⟩
theorem rdU_n {b : List Int} {pos m : Int} {f : Bool} (h : RdOk b pos) : U64 (rdU b pos f m).n := by
 have := k14r h (p := 8) (f := f) (by omega) (by omega)
 unfold rdU
 split
 ·exact ⟨Int.le_refl 0, (by decide : (0 : Int) < 18446744073709551616)⟩
 ·exact ⟨this.1, this.2⟩
theorem cut_dig {b : List Int} (h : By b) (k : Nat) (hk : k ≤ b.length) : b = dig k (val (b.take k)) ++ b.drop k := by
 have := dig_val (b.take k) (h.take k)
 rw [List.length_take, Nat.min_eq_left hk] at this
 rw [this, List.take_append_drop]
theorem put_dig {b r : List Int} {k : Nat} {n : Int} (h : b = dig k n ++ r) (h0 : 0 ≤ n) (h1 : n < 256 ^ k) : val (b.take k) = n ∧ b.drop k = r ∧ k ≤ b.length := by
 subst h
 rw [List.take_left' (k3b k n), List.drop_left' (k3b k n), List.length_append, k3b]
 exact ⟨val_dig k n h0 h1, rfl, by omega⟩
def nums : Nat → List Int → List Int
 | 0, _ => []
 | k + 1, b => val (b.take 8) :: nums k (b.drop 8)
@[simp] theorem khu : ∀ (k : Nat) (b : List Int), (nums k b).length = k
 | 0, _ => rfl
 | k + 1, b => by simp [nums, khu k]
theorem nums_us : ∀ (k : Nat) {b : List Int}, By b → Us (nums k b)
 | 0, _, _ => by intro x hx; cases hx
 | k + 1, b, h => by
  intro x hx
  rcases List.mem_cons.1 hx with rfl | hx
  ·exact val8 _ (h.take 8) (by rw [List.length_take]; omega)
  ·exact nums_us k (h.drop 8) x hx
theorem k18g : ∀ (k : Nat) {b : List Int}, By b → 8 * k ≤ b.length → b = (nums k b).flatMap (dig 8) ++ b.drop (8 * k)
 | 0, _, _, _ => rfl
 | k + 1, b, h, hk => by
  have h1 := cut_dig h 8 (by omega)
  have h2 := k18g k (h.drop 8) (by rw [List.length_drop]; omega)
  rw [List.drop_drop, show 8 + 8 * k = 8 * (k + 1) by omega] at h2
  simp only [nums, List.flatMap_cons, List.append_assoc]
  rw [← h2]
  exact h1
theorem k19i : ∀ (l : List Int) {b r : List Int}, b = l.flatMap (dig 8) ++ r → Us l → nums l.length b = l ∧ b.drop (8 * l.length) = r ∧ 8 * l.length ≤ b.length
 | [], b, r, h, _ => ⟨rfl, by simpa using h, by simp⟩
 | x :: l, b, r, h, hu => by
  rw [List.flatMap_cons, List.append_assoc] at h
  have hx := hu x (by simp)
  obtain ⟨h1, h2, h3⟩ := put_dig h hx.1 (by omega)
  obtain ⟨g1, g2, g3⟩ := k19i l h2 (fun y hy => hu y (by simp [hy]))
  rw [List.length_drop] at g3
  refine ⟨?_, ?_, ?_⟩
  ·simp only [List.length_cons, nums, h1, g1]
  ·rw [List.drop_drop, show 8 + 8 * l.length = 8 * (l.length + 1) by omega] at g2
   simpa using g2
  ·rw [List.length_cons]; omega
section
variable {b : List Int} {pos m p : Int} {f : Bool}
theorem kn3 (h0 : 0 ≤ pos) (k : Nat) : b.drop (pos + (k : Int)).toNat = (b.drop pos.toNat).drop k := by
 rw [List.drop_drop, show (pos + (k : Int)).toNat = pos.toNat + k by omega]
theorem rdD_snd (h : RdOk b pos) (k : Nat) (hf : (rdD b pos f k).ok = true) : f = false ∧ b.drop pos.toNat = dig k (rdD b pos f k).n ++ b.drop (rdD b pos f k).pos.toNat ∧ (rdD b pos f k).fail = false := by
 unfold rdD at *
 split at hf
 ·cases hf
 ·rename_i hn
  rw [if_neg hn]
  have h0 := h.pos0
  refine ⟨?_, ?_, rfl⟩
  ·cases f
   ·rfl
   ·exact absurd (.inl rfl) hn
  ·show b.drop pos.toNat = dig k (val ((b.drop pos.toNat).take (k : Int).toNat)) ++ b.drop (pos + (k : Int)).toNat
   rw [kn3 h0, Int.toNat_natCast]
   refine cut_dig (h.by_.drop _) k ?_
   have : ¬ (b.length : Int) - pos < k := fun h => hn (.inr h)
   rw [List.length_drop]
   omega
theorem rdD_cpl (h : RdOk b pos) (k : Nat) {n : Int} {r : List Int} (hf : f = false) (hr : b.drop pos.toNat = dig k n ++ r) (h0 : 0 ≤ n) (h1 : n < 256 ^ k) : rdD b pos f k = ⟨n, true, pos + k, false⟩ ∧ b.drop (pos + (k : Int)).toNat = r := by
 obtain ⟨g1, g2, g3⟩ := put_dig hr h0 h1
 rw [List.length_drop] at g3
 have hp := h.pos1
 have hp0 := h.pos0
 refine ⟨?_, by rw [kn3 hp0]; exact g2⟩
 unfold rdD
 have hk : ¬ (f = true ∨ (b.length : Int) - pos < k) := by rw [hf]; simp only [Bool.false_eq_true, false_or]; rcases Nat.eq_zero_or_pos k with h | h <;> omega
 rw [if_neg hk, Int.toNat_natCast, g1]
theorem rdU_snd (h : RdOk b pos) (hf : (rdU b pos f m).fail = false) : f = false ∧ b.drop pos.toNat = dig 8 (rdU b pos f m).n ++ b.drop (rdU b pos f m).pos.toNat ∧ (rdU b pos f m).n ≤ m := by
 unfold rdU at *
 split at hf
 ·cases hf
 ·rename_i hn
  rw [if_neg hn]
  have ho : (rdD b pos f 8).ok = true := by
   cases hc : (rdD b pos f 8).ok
   ·exact absurd (.inl hc) hn
   ·rfl
  obtain ⟨g1, g2, g3⟩ := rdD_snd h 8 ho
  exact ⟨g1, g2, by have : ¬ m < (rdD b pos f 8).n := fun h => hn (.inr h); omega⟩
theorem rdU_cpl (h : RdOk b pos) {n : Int} {r : List Int} (hf : f = false) (hr : b.drop pos.toNat = dig 8 n ++ r) (hn : U64 n) (hm : n ≤ m) : (rdU b pos f m).fail = false ∧ (rdU b pos f m).n = n ∧ b.drop (rdU b pos f m).pos.toNat = r := by
 obtain ⟨g1, g2⟩ := rdD_cpl h 8 hf hr hn.1 hn.2
 have e : rdU b pos f m = ⟨n, true, pos + 8, false⟩ := by
  unfold rdU
  have g1 : rdD b pos f 8 = ⟨n, true, pos + 8, false⟩ := g1
  rw [g1]
  exact if_neg (by simp; omega)
 rw [e]
 exact ⟨rfl, rfl, g2⟩
theorem rdI_snd (h : RdOk b pos) (hf : (rdI b pos f m).fail = false) : f = false ∧ b.drop pos.toNat = dig 4 (rdI b pos f m).n ++ b.drop (rdI b pos f m).pos.toNat ∧ (rdI b pos f m).n ≤ m := by
 unfold rdI at *
 split at hf
 ·cases hf
 ·rename_i hn
  rw [if_neg hn]
  have ho : (rdD b pos f 4).ok = true := by
   cases hc : (rdD b pos f 4).ok
   ·exact absurd (.inl hc) hn
   ·rfl
  obtain ⟨g1, g2, g3⟩ := rdD_snd h 4 ho
  exact ⟨g1, g2, by have : ¬ m < (rdD b pos f 4).n := fun h => hn (.inr h); omega⟩
theorem rdI_cpl (h : RdOk b pos) {n : Int} {r : List Int} (hf : f = false) (hr : b.drop pos.toNat = dig 4 n ++ r) (h0 : 0 ≤ n) (h1 : n < 4294967296) (hm : n ≤ m) : (rdI b pos f m).fail = false ∧ (rdI b pos f m).n = n ∧ b.drop (rdI b pos f m).pos.toNat = r := by
 obtain ⟨g1, g2⟩ := rdD_cpl h 4 hf hr h0 h1
 have e : rdI b pos f m = ⟨n, true, pos + 4, false⟩ := by
  unfold rdI
  have g1 : rdD b pos f 4 = ⟨n, true, pos + 4, false⟩ := g1
  rw [g1]
  exact if_neg (by simp; omega)
 rw [e]
 exact ⟨rfl, rfl, g2⟩
theorem rdLs_ok : ∀ (k : Nat) {pos : Int} {acc : List Int}, RdOk b pos → pos + 8 * k ≤ b.length → RdOk b (rdLs b p k pos acc).pos
 | 0, pos, acc, h, _ => h
 | k + 1, pos, acc, h, hk => by
  have h2 : RdOk b (pos + 8) := ⟨h.by_, h.len, by have := h.pos0; omega, by omega⟩
  unfold rdLs
  split
  ·exact h2
  ·exact rdLs_ok k h2 (by omega)
theorem k199 : ∀ (k : Nat) {pos : Int} {acc : List Int}, RdOk b pos → pos + 8 * k ≤ b.length → (rdLs b p k pos acc).fail = false →
  (rdLs b p k pos acc).l = acc ++ nums k (b.drop pos.toNat) ∧ (∀ x ∈ nums k (b.drop pos.toNat), x < p) ∧ (rdLs b p k pos acc).pos = pos + 8 * k
 | 0, pos, acc, h, _, _ => ⟨by simp [rdLs, nums], by simp [nums], by simp [rdLs]⟩
 | k + 1, pos, acc, h, hk, hf => by
  have h2 : RdOk b (pos + 8) := ⟨h.by_, h.len, by have := h.pos0; omega, by omega⟩
  have hd : b.drop (pos + 8).toNat = (b.drop pos.toNat).drop 8 := kn3 h.pos0 8
  unfold rdLs at *
  split at hf
  ·cases hf
  ·rename_i hn
   rw [if_neg hn]
   obtain ⟨g1, g2, g3⟩ := k199 k h2 (by omega) hf
   rw [hd] at g1 g2
   refine ⟨?_, ?_, ?_⟩
   ·rw [g1, List.append_assoc]; rfl
   ·intro x hx
    rcases List.mem_cons.1 hx with rfl | hx
    ·omega
    ·exact g2 x hx
   ·rw [g3]; omega
theorem k1jp : ∀ (k : Nat) {pos : Int} {acc : List Int}, RdOk b pos → pos + 8 * k ≤ b.length → (∀ x ∈ nums k (b.drop pos.toNat), x < p) → (rdLs b p k pos acc).fail = false
 | 0, pos, acc, h, _, _ => rfl
 | k + 1, pos, acc, h, hk, hf => by
  have h2 : RdOk b (pos + 8) := ⟨h.by_, h.len, by have := h.pos0; omega, by omega⟩
  have hd : b.drop (pos + 8).toNat = (b.drop pos.toNat).drop 8 := kn3 h.pos0 8
  unfold rdLs
  have h3 := hf (val ((b.drop pos.toNat).take 8)) (by simp [nums])
  rw [if_neg (by omega)]
  exact k1jp k h2 (by omega) (by rw [hd]; exact fun x hx => hf x (List.mem_cons_of_mem _ hx))
theorem rdL_ok (h : RdOk b pos) (hm : 0 ≤ m) : RdOk b (rdL b pos f m p).pos := by
 unfold rdL
 split
 ·exact rdI_ok h
 ·rename_i hn
  have := rdI_n h (f := f) hm
  have : ¬ ((b.length : Int) - (rdI b pos f m).pos) / 8 < (rdI b pos f m).n := fun h => hn (.inr h)
  exact rdLs_ok _ (rdI_ok h) (by omega)
theorem rdL_snd (h : RdOk b pos) (hm : 0 ≤ m ∧ m ≤ 4294967295) (hf : (rdL b pos f m p).fail = false) : f = false ∧ b.drop pos.toNat = encL (rdL b pos f m p).l ++ b.drop (rdL b pos f m p).pos.toNat ∧ ((rdL b pos f m p).l.length : Int) ≤ m ∧ (∀ x ∈ (rdL b pos f m p).l, x < p) ∧ Us (rdL b pos f m p).l := by
 unfold rdL at *
 split at hf
 ·cases hf
 ·rename_i hn
  rw [if_neg hn]
  have hI : (rdI b pos f m).fail = false := by
   cases hc : (rdI b pos f m).fail
   ·rfl
   ·exact absurd (.inl hc) hn
  have hI2 := rdI_n h (f := f) hm.1
  have hok := rdI_ok h (f := f) (m := m)
  obtain ⟨g1, g2, g3⟩ := rdI_snd h hI
  have hle : ¬ ((b.length : Int) - (rdI b pos f m).pos) / 8 < (rdI b pos f m).n := fun h => hn (.inr h)
  obtain ⟨k1, k2, k3⟩ := k199 _ hok (by omega) hf
  rw [List.nil_append] at k1
  rw [k1, k3]
  have hp0 := hok.pos0
  have hp1 := hok.pos1
  refine ⟨g1, ?_, by rw [khu]; omega, k2, nums_us _ (h.by_.drop _)⟩
  rw [g2]
  unfold encL
  rw [khu, show (((rdI b pos f m).n.toNat : Nat) : Int) = (rdI b pos f m).n by omega, len4_in (by omega), List.append_assoc]
  congr 1
  have := k18g (rdI b pos f m).n.toNat (h.by_.drop (rdI b pos f m).pos.toNat) (by rw [List.length_drop]; omega)
  have e := kn3 (b := b) hp0 (8 * (rdI b pos f m).n.toNat)
  rw [show ((rdI b pos f m).pos + ((8 * (rdI b pos f m).n.toNat : Nat) : Int)) = (rdI b pos f m).pos + 8 * ((rdI b pos f m).n.toNat : Int) by omega, show (((rdI b pos f m).n.toNat : Nat) : Int) = (rdI b pos f m).n by omega] at e
  rw [e]
  exact this
theorem rdL_cpl (h : RdOk b pos) (hm : 0 ≤ m ∧ m ≤ 4294967295) {l r : List Int} (hf : f = false) (hr : b.drop pos.toNat = encL l ++ r) (hl : (l.length : Int) ≤ m) (hp : ∀ x ∈ l, x < p) (hu : Us l) : (rdL b pos f m p).fail = false ∧ (rdL b pos f m p).l = l ∧ b.drop (rdL b pos f m p).pos.toNat = r := by
 unfold encL at hr
 rw [len4_in (by omega), List.append_assoc] at hr
 have hok := rdI_ok h (f := f) (m := m)
 obtain ⟨g1, g2, g3⟩ := rdI_cpl h hf hr (by omega) (by omega) hl
 obtain ⟨k1, k2, k3⟩ := k19i l g3 hu
 rw [List.length_drop] at k3
 have hp0 := hok.pos0
 have hp1 := hok.pos1
 have hn : ¬ ((rdI b pos f m).fail = true ∨ ((b.length : Int) - (rdI b pos f m).pos) / 8 < (rdI b pos f m).n) := by
  rw [g1, g2]
  simp only [Bool.false_eq_true, false_or]
  omega
 unfold rdL
 rw [if_neg hn, g2, Int.toNat_natCast]
 have hc := k1jp (p := p) (acc := []) l.length hok (by omega) (by rw [k1]; exact hp)
 obtain ⟨q1, q2, q3⟩ := k199 _ hok (by omega) hc
 refine ⟨hc, by rw [q1, k1]; rfl, ?_⟩
 rw [q3, show (rdI b pos f m).pos + 8 * (l.length : Int) = (rdI b pos f m).pos + ((8 * l.length : Nat) : Int) by omega, kn3 hp0]
 exact k2
end
structure RB where
 l : List Int
 b : List Int
 f : Bool
structure RN where
 n : Int
 b : List Int
 f : Bool
def tkB (b : List Int) (f : Bool) (k : Int) : RB := if f = true ∨ (b.length : Int) < k then ⟨[], b, true⟩ else ⟨b.take k.toNat, b.drop k.toNat, false⟩
def nB (k : Int) (b : List Int) (f : Bool) (m : Int) : RN := if (tkB b f k).f = true ∨ m < val (tkB b f k).l then ⟨0, (tkB b f k).b, true⟩ else ⟨val (tkB b f k).l, (tkB b f k).b, false⟩
section
variable {b r : List Int} {f : Bool} {k m n : Int}
theorem tkB_l (h : By b) : By (tkB b f k).l := by
 unfold tkB; split
 ·intro x hx; cases hx
 ·exact h.take _
theorem tkB_b (h : By b) : By (tkB b f k).b ∧ (tkB b f k).b.length ≤ b.length := by
 unfold tkB; split
 ·exact ⟨h, Nat.le_refl _⟩
 ·exact ⟨h.drop _, by show (b.drop _).length ≤ _; rw [List.length_drop]; omega⟩
theorem tkB_len : ((tkB b f k).l.length : Int) ≤ max k 0 := by
 unfold tkB; split
 ·simp; omega
 ·show ((b.take _).length : Int) ≤ _; rw [List.length_take]; omega
theorem tkB_snd (hk : 0 ≤ k) (h : (tkB b f k).f = false) : f = false ∧ b = (tkB b f k).l ++ (tkB b f k).b ∧ ((tkB b f k).l.length : Int) = k := by
 unfold tkB at *
 split at h
 ·cases h
 ·rename_i hn
  rw [if_neg hn]
  refine ⟨?_, (List.take_append_drop _ _).symm, ?_⟩
  ·cases f
   ·rfl
   ·exact absurd (.inl rfl) hn
  ·show ((b.take k.toNat).length : Int) = k
   have : ¬ (b.length : Int) < k := fun h => hn (.inr h)
   rw [List.length_take]; omega
theorem tkB_cpl {l : List Int} (hf : f = false) (h : b = l ++ r) (hl : (l.length : Int) = k) : tkB b f k = ⟨l, r, false⟩ := by
 subst h
 unfold tkB
 rw [if_neg (by rw [hf, List.length_append]; simp; omega), show k.toNat = l.length by omega, List.take_left' rfl, List.drop_left' rfl]
theorem nB_b (h : By b) : By (nB k b f m).b ∧ (nB k b f m).b.length ≤ b.length := by
 unfold nB; split <;> exact tkB_b h
theorem nB_n (h : By b) (hk : 0 ≤ k) : 0 ≤ (nB k b f m).n ∧ (nB k b f m).n < 256 ^ k.toNat := by
 unfold nB; split
 ·exact ⟨Int.le_refl 0, kgk _⟩
 ·have h1 := kfh _ (tkB_l (f := f) (k := k) h)
  have h2 := tkB_len (b := b) (f := f) (k := k)
  have h3 : (256 : Int) ^ (tkB b f k).l.length ≤ 256 ^ k.toNat := koj (by omega)
  exact ⟨h1.1, Int.lt_of_lt_of_le h1.2 h3⟩
theorem nB_snd (h : By b) (hk : 0 ≤ k) (hf : (nB k b f m).f = false) : f = false ∧ b = dig k.toNat (nB k b f m).n ++ (nB k b f m).b ∧ (nB k b f m).n ≤ m := by
 unfold nB at *
 split at hf
 ·cases hf
 ·rename_i hn
  rw [if_neg hn]
  have ht : (tkB b f k).f = false := by
   cases hc : (tkB b f k).f
   ·rfl
   ·exact absurd (.inl hc) hn
  obtain ⟨h1, h2, h3⟩ := tkB_snd hk ht
  refine ⟨h1, ?_, by show val _ ≤ m; have : ¬ m < val (tkB b f k).l := fun h => hn (.inr h); omega⟩
  show b = dig k.toNat (val (tkB b f k).l) ++ (tkB b f k).b
  have := dig_val (tkB b f k).l (tkB_l h)
  rw [show (tkB b f k).l.length = k.toNat by omega] at this
  rw [this]
  exact h2
theorem nB_cpl (hk : 0 ≤ k) (hf : f = false) (h : b = dig k.toNat n ++ r) (h0 : 0 ≤ n) (h1 : n < 256 ^ k.toNat) (hm : n ≤ m) : nB k b f m = ⟨n, r, false⟩ := by
 unfold nB
 rw [tkB_cpl hf h (by rw [k3b]; omega)]
 show (if false = true ∨ m < val (dig k.toNat n) then _ else _) = _
 rw [val_dig k.toNat n h0 h1, if_neg (by simp; omega)]
end
def allB (l : List Int) : Bool := l.all (fun x => decide (x < 18446744069414584321))
theorem kyq {l : List Int} : allB l = true ↔ ∀ x ∈ l, x < 18446744069414584321 := by unfold allB; simp
def keyB (ns l : List Int) : ByteArray := strOfNums (ns.flatMap (dig 8) ++ l.flatMap (dig 8))
structure OrOk (ks : List ByteArray) (vs : List Int) (qs : List TQuestion) : Prop where
 len : ks.length = vs.length
 rng : ∀ v ∈ vs, 0 ≤ v ∧ v < qs.length
def pk (ideal : Bool) (qs : List TQuestion) (ks : List ByteArray) (vs : List Int) (label : Int) (l : List Int) : Option Int :=
 if allB l = true then (if mHas (BEq.beq (keyB [label] l)) ks = true then some (ix qs (mVal (BEq.beq (keyB [label] l)) ks vs 0)).Answer else if ideal = true then none else some (hashS label l)) else none
def pkR (label : Int) (l : List Int) : Option Int := if allB l = true then some (hashS label l) else none
theorem pk_real (qs : List TQuestion) (label : Int) (l : List Int) : pk false qs [] [] label l = pkR label l := by unfold pk pkR; simp
def noteV (n : TNote) : Bool := decide (n.Value ≤ 4294967295) && decide (n.Owner < 18446744069414584321) && decide (n.Rho < 18446744069414584321) && decide (n.Blind < 18446744069414584321)
def noteL (n : TNote) : List Int := [n.Value, n.Owner, n.Rho, n.Blind]
def noteOf (x : TSpent) : TNote := ⟨x.Note_Value, x.Note_Owner, x.Note_Rho, x.Note_Blind⟩
def spendV (x : TSpent) : Bool := noteV (noteOf x) && decide (x.Key < 18446744069414584321) && decide (0 ≤ x.Number) && decide (x.Number < 4) && decide (0 ≤ x.Position) && decide (x.Position ≤ 4095) && decide (x.Path.length ≤ 12) && allB x.Path
def inV (depth : Int) (x : TSpent) : Bool := spendV x && decide ((x.Path.length : Int) = depth) && decide (x.Position < 2 ^ depth.toNat)
def relV (s : TStatement) (w : TWitness) : Bool :=
 decide (1 ≤ s.Depth) && decide (s.Depth ≤ 12) && allB [s.Anchor, s.Account, s.Bind, w.Secret] && decide (s.Deposit ≤ 4294967295) && decide (s.Withdraw ≤ 4294967295) && decide (s.Fee ≤ 4294967295) &&
 allB s.Marks && allB s.Commits && allB s.Rhos && decide (w.Ins.length = s.Marks.length) && decide (w.Ins.length ≤ 4) && decide (w.Outs.length = s.Commits.length) && decide (w.Outs.length = s.Rhos.length) && decide (w.Outs.length ≤ 4) &&
 w.Ins.all (inV s.Depth) && w.Outs.all noteV
def climbL : Int → Int → List Int → Int
 | d, _, [] => d
 | d, p, n :: r => climbL (if p % 2 = 0 then hashS 6 [d, n] else hashS 6 [n, d]) (p / 2) r
def climbS (leaf pos : Int) (path : List Int) : Int := if path.length ≤ 12 ∧ 0 ≤ pos ∧ pos < 2 ^ path.length ∧ leaf < 18446744069414584321 ∧ allB path = true then climbL leaf pos path else 0
def ownerS (key number : Int) : Int := if 0 ≤ number ∧ number < 4 then hashS 1 [key, number] else 0
def acctS (secret : Int) : Int := hashS 7 [secret]
abbrev Ask := Int → List Int → Option Int
def markP (f : Ask) (key rho : Int) : Option Int := if key < 18446744069414584321 ∧ rho < 18446744069414584321 then f 3 [key, rho] else none
def commP (f : Ask) (n : TNote) : Option Int := if noteV n = true then f 2 (noteL n) else none
def inE (f : Ask) (anchor mark : Int) (x : TSpent) : Int :=
 if x.Note_Owner ≠ ownerS x.Key x.Number then 21 else
 if (markP f x.Key x.Note_Rho).isSome = false ∨ (markP f x.Key x.Note_Rho).getD 0 ≠ mark then 12 else
 if x.Dummy = true then (if x.Note_Value ≠ 0 then 13 else 0) else
 if (commP f (noteOf x)).isSome = false ∨ climbS ((commP f (noteOf x)).getD 0) x.Position x.Path ≠ anchor then 11 else 0
def insE (f : Ask) (anchor : Int) : List TSpent → List Int → Int
 | x :: r, m :: ms => if inE f anchor m x ≠ 0 then inE f anchor m x else insE f anchor r ms
 | _, _ => 0
def outB (f : Ask) (n : TNote) (c r : Int) : Bool := (commP f n).isSome && (commP f n).getD 0 == c && n.Rho == r
def outsB (f : Ask) : List TNote → List Int → List Int → Bool
 | n :: l, c :: cs, r :: rs => outB f n c r && outsB f l cs rs
 | _, _, _ => true
def inS (l : List TSpent) : Int := l.foldl (fun s x => (s + x.Note_Value) % 18446744073709551616) 0
def outS (l : List TNote) : Int := l.foldl (fun s x => (s + x.Value) % 18446744073709551616) 0
def checkS (f : Ask) (s : TStatement) (w : TWitness) : Int :=
 if relV s w = false then 1 else
 if insE f s.Anchor w.Ins s.Marks ≠ 0 then insE f s.Anchor w.Ins s.Marks else
 if outsB f w.Outs s.Commits s.Rhos = false then 1 else
 if 0 < s.Deposit ∧ s.Account ≠ acctS w.Secret then 21 else
 if (inS w.Ins + s.Deposit) % 18446744073709551616 ≠ ((outS w.Outs + s.Withdraw) % 18446744073709551616 + s.Fee) % 18446744073709551616 then 13 else 0
structure NR (n : TNote) : Prop where
 v : U64 n.Value
 o : U64 n.Owner
 r : U64 n.Rho
 b : U64 n.Blind
structure PR (x : TSpent) : Prop where
 n : NR (noteOf x)
 k : U64 x.Key
 nu : -9223372036854775808 ≤ x.Number ∧ x.Number ≤ 9223372036854775807
 po : -9223372036854775808 ≤ x.Position ∧ x.Position ≤ 9223372036854775807
 pa : Us x.Path
 pl : x.Path.length ≤ 1073741824
structure WR (w : TWitness) : Prop where
 i : ∀ x ∈ w.Ins, PR x
 il : w.Ins.length ≤ 1073741824
 o : ∀ x ∈ w.Outs, NR x
 ol : w.Outs.length ≤ 1073741824
 s : U64 w.Secret
structure SR (s : TStatement) : Prop where
 d : -9223372036854775808 ≤ s.Depth ∧ s.Depth ≤ 9223372036854775807
 a : U64 s.Anchor
 m : Us s.Marks
 ml : s.Marks.length ≤ 1073741824
 c : Us s.Commits
 cl : s.Commits.length ≤ 1073741824
 r : Us s.Rhos
 rl : s.Rhos.length ≤ 1073741824
 de : U64 s.Deposit
 wi : U64 s.Withdraw
 f : U64 s.Fee
 ac : U64 s.Account
 b : U64 s.Bind
structure PQ (x : TSpent) : Prop where
 n : NR (noteOf x)
 k : U64 x.Key
 nu : -9223372036854775808 ≤ x.Number ∧ x.Number ≤ 9223372036854775807
 po : -9223372036854775808 ≤ x.Position ∧ x.Position ≤ 9223372036854775807
 pa : Us x.Path
 pl : x.Path.length ≤ 9223372036854775807
structure WQ (w : TWitness) : Prop where
 i : ∀ x ∈ w.Ins, PQ x
 il : w.Ins.length ≤ 9223372036854775807
 o : ∀ x ∈ w.Outs, NR x
 ol : w.Outs.length ≤ 9223372036854775807
 s : U64 w.Secret
structure SQ (s : TStatement) : Prop where
 d : -9223372036854775808 ≤ s.Depth ∧ s.Depth ≤ 9223372036854775807
 a : U64 s.Anchor
 m : Us s.Marks
 c : Us s.Commits
 r : Us s.Rhos
 de : U64 s.Deposit
 wi : U64 s.Withdraw
 f : U64 s.Fee
 ac : U64 s.Account
 b : U64 s.Bind
def smallW (s : TStatement) (w : TWitness) : Bool := decide (s.Marks.length ≤ 8) && decide (s.Commits.length ≤ 8) && decide (s.Rhos.length ≤ 8) && decide (w.Ins.length ≤ 8) && decide (w.Outs.length ≤ 8) && w.Ins.all (fun x => decide (x.Path.length ≤ 20))
theorem k1np {s : TStatement} {w : TWitness} : smallW s w = true ↔ s.Marks.length ≤ 8 ∧ s.Commits.length ≤ 8 ∧ s.Rhos.length ≤ 8 ∧ w.Ins.length ≤ 8 ∧ w.Outs.length ≤ 8 ∧ ∀ x ∈ w.Ins, x.Path.length ≤ 20 := by
 unfold smallW
 simp only [Bool.and_eq_true, decide_eq_true_eq, List.all_eq_true, and_assoc]
theorem WQ.wr {s : TStatement} {w : TWitness} (h : WQ w) (hs : smallW s w = true) : WR w := by
 obtain ⟨_, _, _, h4, h5, h6⟩ := k1np.1 hs
 exact ⟨fun x hx => by have := h.i x hx; have := h6 x hx; exact ⟨(h.i x hx).n, (h.i x hx).k, (h.i x hx).nu, (h.i x hx).po, (h.i x hx).pa, by omega⟩, by omega, h.o, by omega, h.s⟩
theorem k1py {s : TStatement} {w : TWitness} : relV s w = true ↔ (1 ≤ s.Depth ∧ s.Depth ≤ 12 ∧ allB [s.Anchor, s.Account, s.Bind, w.Secret] = true ∧ s.Deposit ≤ 4294967295 ∧ s.Withdraw ≤ 4294967295 ∧ s.Fee ≤ 4294967295 ∧ allB s.Marks = true ∧ allB s.Commits = true ∧ allB s.Rhos = true ∧ w.Ins.length = s.Marks.length ∧ w.Ins.length ≤ 4 ∧ w.Outs.length = s.Commits.length ∧ w.Outs.length = s.Rhos.length ∧ w.Outs.length ≤ 4 ∧ w.Ins.all (inV s.Depth) = true ∧ w.Outs.all noteV = true) := by
 unfold relV
 simp only [Bool.and_eq_true, decide_eq_true_eq, and_assoc]
theorem k1m5 {f : Ask} {s : TStatement} {w : TWitness} : checkS f s w = 0 ↔ relV s w = true ∧ insE f s.Anchor w.Ins s.Marks = 0 ∧ outsB f w.Outs s.Commits s.Rhos = true ∧ (0 < s.Deposit → s.Account = acctS w.Secret) ∧
  (inS w.Ins + s.Deposit) % 18446744073709551616 = ((outS w.Outs + s.Withdraw) % 18446744073709551616 + s.Fee) % 18446744073709551616 := by
 unfold checkS
 constructor
 ·intro h
  split at h
  ·simp at h
  ·rename_i h1
   split at h
   ·rename_i h2; exact (h2 h).elim
   ·rename_i h2
    split at h
    ·simp at h
    ·rename_i h3
     split at h
     ·simp at h
     ·rename_i h4
      split at h
      ·simp at h
      ·rename_i h5
       exact ⟨by simpa using h1, by simpa using h2, by simpa using h3, fun h => by
        by_cases ha : s.Account = acctS w.Secret
        ·exact ha
        ·exact (h4 ⟨h, ha⟩).elim, by simpa using h5⟩
 ·rintro ⟨h1, h2, h3, h4, h5⟩
  rw [if_neg (by simp [h1]), if_neg (by simp [h2]), if_neg (by simp [h3]), if_neg (fun h => h.2 (h4 h.1)), if_neg (fun h => h h5)]
theorem pkR_u {l : Int} {a : List Int} : pkR l a = none ∨ ∃ n, pkR l a = some n ∧ U64 n := by
 unfold pkR
 split
 ·exact .inr ⟨_, rfl, kot _ _⟩
 ·exact .inl rfl
theorem k1jz : OrOk [] [] [] := ⟨rfl, fun v hv => by cases hv⟩
theorem pk_nil : pk false [] [] [] = pkR := by funext l a; exact pk_real _ _ _
def exS (fee : Int) : TStatement := ⟨1, 0, [], [hashS 2 [5, 1, 2, 3]], [2], 7, 0, fee, hashS 7 [9], 0⟩
def exW : TWitness := ⟨[], [⟨5, 1, 2, 3⟩], 9⟩
theorem exS_sr (fee : Int) (h : U64 fee) : SR (exS fee) :=
  ⟨(by decide : -9223372036854775808 ≤ (1 : Int) ∧ (1 : Int) ≤ 9223372036854775807), (by decide : U64 0), (by decide : Us []), (by decide : ([] : List Int).length ≤ 1073741824),
   fun x hx => by rw [show x = _ from List.mem_singleton.1 hx]; exact kot _ _, by simp [exS], (by decide : Us [2]), (by decide : ([2] : List Int).length ≤ 1073741824), (by decide : U64 7), (by decide : U64 0), h, kot _ _, (by decide : U64 0)⟩
theorem exW_wr : WR exW := ⟨by intro x hx; (cases hx), by decide, by intro x hx; rw [show x = _ from List.mem_singleton.1 hx]; exact ⟨by decide, by decide, by decide, by decide⟩, by decide, by decide⟩
theorem k19l (fee : Int) (h : fee ≤ 4294967295) : relV (exS fee) exW = true := by
 refine k1py.2 ⟨(by decide : 1 ≤ (1 : Int)), (by decide : (1 : Int) ≤ 12), kyq.2 ?_, (by decide : (7 : Int) ≤ 4294967295), (by decide : (0 : Int) ≤ 4294967295), h, (by decide : allB [] = true), kyq.2 ?_, (by decide : allB [2] = true), by simp [exS, exW], (by decide : exW.Ins.length ≤ 4), by simp [exS, exW], by simp [exS, exW], (by decide : exW.Outs.length ≤ 4), by simp [exW], (by decide : exW.Outs.all noteV = true)⟩
 ·intro x hx
  simp only [exS, exW, List.mem_cons, List.not_mem_nil, or_false] at hx
  rcases hx with rfl | rfl | rfl | rfl
  ·decide
  ·exact k1kf _ _
  ·decide
  ·decide
 ·intro x hx
  rw [show x = _ from List.mem_singleton.1 hx]
  exact k1kf _ _
theorem exS_ok : checkS pkR (exS 2) exW = 0 := by
 refine k1m5.2 ⟨k19l 2 (by decide), rfl, ?_, fun _ => rfl, by decide⟩
 have e : commP pkR ⟨5, 1, 2, 3⟩ = some (hashS 2 [5, 1, 2, 3]) := rfl
 show (outB pkR ⟨5, 1, 2, 3⟩ (hashS 2 [5, 1, 2, 3]) 2 && true) = true
 unfold outB
 rw [e]
 simp
theorem exS_not : checkS pkR (exS 1) exW = 13 := by
 unfold checkS
 have e : commP pkR ⟨5, 1, 2, 3⟩ = some (hashS 2 [5, 1, 2, 3]) := rfl
 have eo : outsB pkR exW.Outs (exS 1).Commits (exS 1).Rhos = true := by
  show (outB pkR ⟨5, 1, 2, 3⟩ (hashS 2 [5, 1, 2, 3]) 2 && true) = true
  unfold outB
  rw [e]
  simp
 rw [if_neg (by rw [k19l 1 (by decide)]; simp), if_neg (by show ¬ ((0 : Int) ≠ 0); simp), if_neg (by rw [eo]; simp), if_neg (fun h => h.2 rfl), if_pos (by decide)]
structure Pz {α : Type} (enc : α → List Int) (G : α → Prop) (r : List Int) (f : Bool) (v : α) (r' : List Int) (f' : Bool) : Prop where
 snd : f' = false → f = false ∧ r = enc v ++ r' ∧ G v
 cpl : ∀ v0 s, f = false → r = enc v0 ++ s → G v0 → f' = false ∧ v = v0 ∧ r' = s
theorem Pz.two {α β : Type} {e1 : α → List Int} {G1 : α → Prop} {e2 : β → List Int} {G2 : β → Prop} {r r1 r2 : List Int} {f f1 f2 : Bool} {a : α} {b : β}
  (h1 : Pz e1 G1 r f a r1 f1) (h2 : Pz e2 G2 r1 f1 b r2 f2) : Pz (fun p : α × β => e1 p.1 ++ e2 p.2) (fun p => G1 p.1 ∧ G2 p.2) r f (a, b) r2 f2 where
 snd h := by
  obtain ⟨x1, x2, x3⟩ := h2.snd h
  obtain ⟨y1, y2, y3⟩ := h1.snd x1
  exact ⟨y1, by rw [y2, x2, List.append_assoc], y3, x3⟩
 cpl v0 s hf hr hG := by
  rw [List.append_assoc] at hr
  obtain ⟨y1, y2, y3⟩ := h1.cpl v0.1 _ hf hr hG.1
  obtain ⟨x1, x2, x3⟩ := h2.cpl v0.2 _ y1 y3 hG.2
  exact ⟨x1, by rw [y2, x2], x3⟩
theorem Pz.to {α β : Type} {e1 : α → List Int} {G1 : α → Prop} {e2 : β → List Int} {G2 : β → Prop} {r r1 : List Int} {f f1 : Bool} {a : α}
  (h1 : Pz e1 G1 r f a r1 f1) (φ : α → β) (ψ : β → α) (he : ∀ x, G1 x → e2 (φ x) = e1 x ∧ G2 (φ x)) (hi : ∀ y, G2 y → φ (ψ y) = y ∧ e1 (ψ y) = e2 y ∧ G1 (ψ y)) : Pz e2 G2 r f (φ a) r1 f1 where
 snd h := by
  obtain ⟨x1, x2, x3⟩ := h1.snd h
  exact ⟨x1, by rw [x2, (he a x3).1], (he a x3).2⟩
 cpl v0 s hf hr hG := by
  obtain ⟨i1, i2, i3⟩ := hi v0 hG
  obtain ⟨y1, y2, y3⟩ := h1.cpl (ψ v0) s hf (by rw [i2]; exact hr) i3
  exact ⟨y1, by rw [y2, i1], y3⟩
def Gl {α : Type} (G : α → Prop) (n : Nat) (l : List α) : Prop := l.length = n ∧ ∀ x ∈ l, G x
theorem Pz.nil {α : Type} {e : α → List Int} {G : α → Prop} {r : List Int} {f : Bool} : Pz (fun l : List α => l.flatMap e) (Gl G 0) r f [] r f where
 snd h := ⟨h, rfl, rfl, by intro x hx; cases hx⟩
 cpl v0 s hf hr hG := by
  have : v0 = [] := List.length_eq_zero_iff.1 hG.1
  subst this
  exact ⟨hf, rfl, hr⟩
theorem Pz.snoc {α : Type} {e : α → List Int} {G : α → Prop} {r r1 r2 : List Int} {f f1 f2 : Bool} {l : List α} {x : α} {n : Nat}
  (h1 : Pz (fun l : List α => l.flatMap e) (Gl G n) r f l r1 f1) (h2 : Pz e G r1 f1 x r2 f2) : Pz (fun l : List α => l.flatMap e) (Gl G (n + 1)) r f (l ++ [x]) r2 f2 where
 snd h := by
  obtain ⟨x1, x2, x3⟩ := h2.snd h
  obtain ⟨y1, y2, y3⟩ := h1.snd x1
  refine ⟨y1, by rw [y2, x2]; simp, by simp [y3.1], ?_⟩
  intro y hy
  rcases List.mem_append.1 hy with hy | hy
  ·exact y3.2 y hy
  ·rw [List.mem_singleton.1 hy]; exact x3
 cpl v0 s hf hr hG := by
  have hne : v0 ≠ [] := by intro h; have := hG.1; rw [h] at this; simp at this
  have hd := List.dropLast_concat_getLast hne
  generalize v0.dropLast = i at *
  generalize v0.getLast hne = z at *
  subst hd
  obtain ⟨g1, g2⟩ := hG
  have hr : r = i.flatMap e ++ (e z ++ s) := by rw [hr]; simp
  obtain ⟨y1, y2, y3⟩ := h1.cpl i _ hf hr ⟨by simpa using g1, fun y hy => g2 y (by simp [hy])⟩
  obtain ⟨x1, x2, x3⟩ := h2.cpl z _ y1 y3 (g2 z (by simp))
  exact ⟨x1, by rw [y2, x2], x3⟩
theorem Pz.short {α : Type} {e : α → List Int} {G : α → Prop} {r r1 : List Int} {f : Bool} {l : List α} {n m : Nat}
  (h1 : Pz (fun l : List α => l.flatMap e) (Gl G n) r f l r1 true) (hm : n ≤ m) : Pz (fun l : List α => l.flatMap e) (Gl G m) r f l r1 true where
 snd h := by cases h
 cpl v0 s hf hr hG := by
  have hr : r = (v0.take n).flatMap e ++ ((v0.drop n).flatMap e ++ s) := by
   rw [hr, ← List.append_assoc, ← List.flatMap_append, List.take_append_drop]
  have := (h1.cpl (v0.take n) _ hf hr ⟨by rw [List.length_take, hG.1]; omega, fun x hx => hG.2 x (List.mem_of_mem_take hx)⟩).1
  cases this
def encC {α : Type} (e : α → List Int) (l : List α) : List Int := dig 4 (l.length : Int) ++ l.flatMap e
def Gn (m n : Int) : Prop := 0 ≤ n ∧ n < 4294967296 ∧ n ≤ m
def Gc {α : Type} (G : α → Prop) (m : Int) (l : List α) : Prop := Gn m (l.length : Int) ∧ ∀ x ∈ l, G x
theorem Pz.list {α : Type} {e : α → List Int} {G : α → Prop} {r r1 r2 : List Int} {f f1 f2 : Bool} {l : List α} {n m : Int}
  (h1 : Pz (dig 4) (Gn m) r f n r1 f1) (h2 : Pz (fun l : List α => l.flatMap e) (Gl G n.toNat) r1 f1 l r2 f2) : Pz (encC e) (Gc G m) r f l r2 f2 where
 snd h := by
  obtain ⟨x1, x2, x3⟩ := h2.snd h
  obtain ⟨y1, y2, y3⟩ := h1.snd x1
  have hn : (l.length : Int) = n := by rw [x3.1]; have := y3.1; omega
  exact ⟨y1, by unfold encC; rw [hn, y2, x2, List.append_assoc], by unfold Gc; rw [hn]; exact ⟨y3, x3.2⟩⟩
 cpl v0 s hf hr hG := by
  unfold encC at hr
  rw [List.append_assoc] at hr
  obtain ⟨y1, y2, y3⟩ := h1.cpl _ _ hf hr hG.1
  obtain ⟨x1, x2, x3⟩ := h2.cpl v0 s y1 y3 ⟨by rw [y2]; simp, hG.2⟩
  exact ⟨x1, x2, x3⟩
def Gu (m n : Int) : Prop := U64 n ∧ n ≤ m
def Gp (m p : Int) (l : List Int) : Prop := (l.length : Int) ≤ m ∧ (∀ x ∈ l, x < p) ∧ Us l
section
variable {b : List Int} {pos m p : Int} {f : Bool}
theorem rdU_pz (h : RdOk b pos) : Pz (dig 8) (Gu m) (b.drop pos.toNat) f (rdU b pos f m).n (b.drop (rdU b pos f m).pos.toNat) (rdU b pos f m).fail where
 snd hf := by
  obtain ⟨h1, h2, h3⟩ := rdU_snd h hf
  exact ⟨h1, h2, rdU_n h, h3⟩
 cpl v0 s hf hr hG := rdU_cpl h hf hr hG.1 hG.2
theorem rdI_pz (h : RdOk b pos) (hm : 0 ≤ m ∧ m < 4294967296) : Pz (dig 4) (Gn m) (b.drop pos.toNat) f (rdI b pos f m).n (b.drop (rdI b pos f m).pos.toNat) (rdI b pos f m).fail where
 snd hf := by
  obtain ⟨h1, h2, h3⟩ := rdI_snd h hf
  have := rdI_n (f := f) h hm.1
  exact ⟨h1, h2, this.1, by omega, h3⟩
 cpl v0 s hf hr hG := rdI_cpl h hf hr hG.1 hG.2.1 hG.2.2
theorem rdL_pz (h : RdOk b pos) (hm : 0 ≤ m ∧ m ≤ 4294967295) : Pz encL (Gp m p) (b.drop pos.toNat) f (rdL b pos f m p).l (b.drop (rdL b pos f m p).pos.toNat) (rdL b pos f m p).fail where
 snd hf := by
  obtain ⟨h1, h2, h3, h4, h5⟩ := rdL_snd h hm hf
  exact ⟨h1, h2, h3, h4, h5⟩
 cpl v0 s hf hr hG := rdL_cpl h hm hf hr hG.1 hG.2.1 hG.2.2
end
section
variable {b : List Int} {f : Bool} {m p : Int}
theorem nB8_pz (h : By b) (hm : m ≤ 18446744073709551615) : Pz (dig 8) (Gu m) b f (nB 8 b f m).n (nB 8 b f m).b (nB 8 b f m).f where
 snd hf := by
  obtain ⟨h1, h2, h3⟩ := nB_snd h (by omega) hf
  have := nB_n (f := f) (m := m) h (k := 8) (by omega)
  exact ⟨h1, h2, ⟨this.1, by omega⟩, h3⟩
 cpl v0 s hf hr hG := by
  have p8 : (256 : Int) ^ (8 : Int).toNat = 18446744073709551616 := by decide
  have hu := hG.1
  rw [nB_cpl (k := 8) (by omega) hf hr hu.1 (by rw [p8]; exact hu.2) hG.2]
  exact ⟨rfl, rfl, rfl⟩
theorem nB4_pz (h : By b) : Pz (dig 4) (Gn m) b f (nB 4 b f m).n (nB 4 b f m).b (nB 4 b f m).f where
 snd hf := by
  have p4 : (256 : Int) ^ (4 : Int).toNat = 4294967296 := by decide
  obtain ⟨h1, h2, h3⟩ := nB_snd h (by omega) hf
  have := nB_n (f := f) (m := m) h (k := 4) (by omega)
  rw [p4] at this
  exact ⟨h1, h2, this.1, this.2, h3⟩
 cpl v0 s hf hr hG := by
  have p4 : (256 : Int) ^ (4 : Int).toNat = 4294967296 := by decide
  rw [nB_cpl (k := 4) (by omega) hf hr hG.1 (by rw [p4]; exact hG.2.1) hG.2.2]
  exact ⟨rfl, rfl, rfl⟩
def lBs (p : Int) : Nat → List Int → List Int → RB
 | 0, b, acc => ⟨acc, b, false⟩
 | k + 1, b, acc => if p ≤ val (b.take 8) then ⟨[], b.drop 8, true⟩ else lBs p k (b.drop 8) (acc ++ [val (b.take 8)])
def lB (b : List Int) (f : Bool) (m p : Int) : RB := if (nB 4 b f m).f = true ∨ ((nB 4 b f m).b.length : Int) / 8 < (nB 4 b f m).n then ⟨[], (nB 4 b f m).b, true⟩ else lBs p (nB 4 b f m).n.toNat (nB 4 b f m).b []
theorem lBs_b : ∀ (k : Nat) {b acc : List Int}, By b → By (lBs p k b acc).b ∧ (lBs p k b acc).b.length ≤ b.length
 | 0, _, _, h => ⟨h, Nat.le_refl _⟩
 | k + 1, b, acc, h => by
  unfold lBs
  split
  ·exact ⟨h.drop _, by show (b.drop 8).length ≤ _; rw [List.length_drop]; omega⟩
  ·have := lBs_b k (acc := acc ++ [val (b.take 8)]) (h.drop 8)
   rw [List.length_drop] at this
   exact ⟨this.1, by omega⟩
theorem lBs_snd : ∀ (k : Nat) {b acc : List Int}, 8 * k ≤ b.length → (lBs p k b acc).f = false →
  (lBs p k b acc).l = acc ++ nums k b ∧ (∀ x ∈ nums k b, x < p) ∧ (lBs p k b acc).b = b.drop (8 * k)
 | 0, b, acc, _, _ => ⟨by simp [lBs, nums], by simp [nums], by simp [lBs]⟩
 | k + 1, b, acc, hk, hf => by
  unfold lBs at *
  split at hf
  ·cases hf
  ·rename_i hn
   rw [if_neg hn]
   obtain ⟨g1, g2, g3⟩ := lBs_snd k (by rw [List.length_drop]; omega) hf
   refine ⟨?_, ?_, ?_⟩
   ·rw [g1, List.append_assoc]; rfl
   ·intro x hx
    rcases List.mem_cons.1 hx with rfl | hx
    ·omega
    ·exact g2 x hx
   ·rw [g3, List.drop_drop]; congr 1; omega
theorem lBs_cpl : ∀ (k : Nat) {b acc : List Int}, (∀ x ∈ nums k b, x < p) → (lBs p k b acc).f = false
 | 0, _, _, _ => rfl
 | k + 1, b, acc, hf => by
  unfold lBs
  have h3 := hf (val (b.take 8)) (by simp [nums])
  rw [if_neg (by omega)]
  exact lBs_cpl k (fun x hx => hf x (List.mem_cons_of_mem _ hx))
theorem lB_b (h : By b) : By (lB b f m p).b ∧ (lB b f m p).b.length ≤ b.length := by
 unfold lB
 have h1 := nB_b (k := 4) (f := f) (m := m) h
 split
 ·exact h1
 ·have := lBs_b (p := p) (nB 4 b f m).n.toNat (acc := []) h1.1
  exact ⟨this.1, by omega⟩
theorem lB_pz (h : By b) (hm : m ≤ 4294967295) : Pz encL (Gp m p) b f (lB b f m p).l (lB b f m p).b (lB b f m p).f where
 snd hf := by
  unfold lB at *
  split at hf
  ·cases hf
  ·rename_i hn
   rw [if_neg hn]
   have hN : (nB 4 b f m).f = false := by
    cases hc : (nB 4 b f m).f
    ·rfl
    ·exact absurd (.inl hc) hn
   obtain ⟨y1, y2, y3⟩ := (nB4_pz (f := f) (m := m) h).snd hN
   have hb := (nB_b (k := 4) (f := f) (m := m) h).1
   have hle : ¬ ((nB 4 b f m).b.length : Int) / 8 < (nB 4 b f m).n := fun h => hn (.inr h)
   obtain ⟨z1, z2, z3⟩ := y3
   generalize nB 4 b f m = N at *
   obtain ⟨k1, k2, k3⟩ := lBs_snd N.n.toNat (by omega) hf
   rw [List.nil_append] at k1
   rw [k1, k3]
   refine ⟨y1, ?_, by rw [khu]; omega, k2, nums_us _ hb⟩
   rw [y2]
   unfold encL
   rw [khu, show ((N.n.toNat : Nat) : Int) = N.n by omega, len4_in (by omega), List.append_assoc]
   congr 1
   exact k18g N.n.toNat hb (by omega)
 cpl v0 s hf hr hG := by
  obtain ⟨hl, hp, hu⟩ := hG
  unfold encL at hr
  rw [len4_in (by omega), List.append_assoc] at hr
  obtain ⟨y1, y2, y3⟩ := (nB4_pz (f := f) (m := m) h).cpl _ _ hf hr ⟨by omega, by omega, hl⟩
  obtain ⟨k1, k2, k3⟩ := k19i v0 y3 hu
  have hn : ¬ ((nB 4 b f m).f = true ∨ ((nB 4 b f m).b.length : Int) / 8 < (nB 4 b f m).n) := by
   rw [y1, y2]
   simp only [Bool.false_eq_true, false_or]
   omega
  unfold lB
  rw [if_neg hn, y2, Int.toNat_natCast]
  have hc := lBs_cpl (p := p) (acc := []) v0.length (b := (nB 4 b f m).b) (by rw [k1]; exact hp)
  obtain ⟨q1, q2, q3⟩ := lBs_snd _ k3 hc
  exact ⟨hc, by rw [q1, k1]; rfl, by rw [q3]; exact k2⟩
end
def encN (n : TNote) : List Int := dig 8 n.Value ++ (dig 8 n.Owner ++ (dig 8 n.Rho ++ dig 8 n.Blind))
def encSp (x : TSpent) : List Int := encN (noteOf x) ++ (dig 8 x.Key ++ (dig 4 (len4 x.Number) ++ (dig 4 (len4 x.Position) ++ (encL x.Path ++ dig 4 (len4 (if x.Dummy = true then 1 else 0))))))
def encW (w : TWitness) : List Int := dig 4 (len4 (w.Ins.length : Int)) ++ (w.Ins.flatMap encSp ++ (dig 4 (len4 (w.Outs.length : Int)) ++ (w.Outs.flatMap encN ++ dig 8 w.Secret)))
def rightV (w : TWitness) : Bool := decide (w.Ins.length ≤ 4) && decide (w.Outs.length ≤ 4) && decide (w.Secret < 18446744069414584321) && w.Ins.all spendV && w.Outs.all noteV
structure Lim where
 m : Int
 p : Int
 n : Int
 q : Int
 hm : m ≤ 18446744073709551615
 hp : p ≤ 18446744073709551615
 hn : 3 ≤ n
 hq : 4095 ≤ q
 hm' : 4294967295 ≤ m
 hp' : 18446744069414584320 ≤ p
def limW : Lim := ⟨4294967295, 18446744069414584320, 3, 4095, by omega, by omega, by omega, by omega, by omega, by omega⟩
def limR : Lim := ⟨18446744073709551615, 18446744073709551615, 4294967296, 4294967296, by omega, by omega, by omega, by omega, by omega, by omega⟩
def GN (L : Lim) (n : TNote) : Prop := Gu L.m n.Value ∧ Gu L.p n.Owner ∧ Gu L.p n.Rho ∧ Gu L.p n.Blind
def GS (L : Lim) (x : TSpent) : Prop := GN L (noteOf x) ∧ Gu L.p x.Key ∧ Gn L.n x.Number ∧ Gn L.q x.Position ∧ Gp 12 18446744069414584321 x.Path
theorem GN.nr {L : Lim} {n : TNote} (h : GN L n) : NR n := ⟨h.1.1, h.2.1.1, h.2.2.1.1, h.2.2.2.1⟩
theorem GS.pq {L : Lim} {x : TSpent} (h : GS L x) : PQ x := by
 obtain ⟨h1, h2, h3, h4, h5⟩ := h
 obtain ⟨a1, a2, a3⟩ := h3
 obtain ⟨b1, b2, b3⟩ := h4
 obtain ⟨c1, c2, c3⟩ := h5
 exact ⟨h1.nr, h2.1, by omega, by omega, c3, by omega⟩
theorem k1fw {n : TNote} : noteV n = true ↔ n.Value ≤ 4294967295 ∧ n.Owner < 18446744069414584321 ∧ n.Rho < 18446744069414584321 ∧ n.Blind < 18446744069414584321 := by
 unfold noteV
 simp only [Bool.and_eq_true, decide_eq_true_eq, and_assoc]
theorem kd3 {x : TSpent} : spendV x = true ↔ noteV (noteOf x) = true ∧ x.Key < 18446744069414584321 ∧ 0 ≤ x.Number ∧ x.Number < 4 ∧ 0 ≤ x.Position ∧ x.Position ≤ 4095 ∧ x.Path.length ≤ 12 ∧ allB x.Path = true := by
 unfold spendV
 simp only [Bool.and_eq_true, decide_eq_true_eq, and_assoc]
theorem kde {w : TWitness} : rightV w = true ↔ w.Ins.length ≤ 4 ∧ w.Outs.length ≤ 4 ∧ w.Secret < 18446744069414584321 ∧ (∀ x ∈ w.Ins, spendV x = true) ∧ ∀ x ∈ w.Outs, noteV x = true := by
 unfold rightV
 simp only [Bool.and_eq_true, decide_eq_true_eq, and_assoc, List.all_eq_true]
theorem NR.gn {n : TNote} (h : NR n) (hv : noteV n = true) (L : Lim) : GN L n := by
 obtain ⟨h1, h2, h3, h4⟩ := k1fw.1 hv
 have := L.hm'
 have := L.hp'
 exact ⟨⟨h.v, by omega⟩, ⟨h.o, by omega⟩, ⟨h.r, by omega⟩, ⟨h.b, by omega⟩⟩
theorem PQ.gs {x : TSpent} (h : PQ x) (hv : spendV x = true) (L : Lim) : GS L x := by
 obtain ⟨h1, h2, h3, h4, h5, h6, h7, h8⟩ := kd3.1 hv
 have := L.hp'
 have := L.hn
 have := L.hq
 exact ⟨h.n.gn h1 L, ⟨h.k, by omega⟩, ⟨h3, by omega, by omega⟩, ⟨h5, by omega, by omega⟩, by omega, kyq.1 h8, h.pa⟩
theorem GN.noteV {n : TNote} (h : GN limW n) : noteV n = true := by
 obtain ⟨h1, h2, h3, h4⟩ := h
 have e1 : n.Value ≤ 4294967295 := h1.2
 have e2 : n.Owner ≤ 18446744069414584320 := h2.2
 have e3 : n.Rho ≤ 18446744069414584320 := h3.2
 have e4 : n.Blind ≤ 18446744069414584320 := h4.2
 exact k1fw.2 ⟨e1, by omega, by omega, by omega⟩
theorem GS.spendV {x : TSpent} (h : GS limW x) : spendV x = true := by
 obtain ⟨h1, h2, h3, h4, h5⟩ := h
 have e1 : x.Key ≤ 18446744069414584320 := h2.2
 have e2 : x.Number ≤ 3 := h3.2.2
 have e3 : x.Position ≤ 4095 := h4.2.2
 have e4 := h5.1
 exact kd3.2 ⟨h1.noteV, by omega, h3.1, by omega, h4.1, e3, by omega, kyq.2 h5.2.1⟩
theorem pz_note {L : Lim} {r r1 r2 r3 r4 : List Int} {f f1 f2 f3 f4 : Bool} {a b c d : Int} (h1 : Pz (dig 8) (Gu L.m) r f a r1 f1) (h2 : Pz (dig 8) (Gu L.p) r1 f1 b r2 f2) (h3 : Pz (dig 8) (Gu L.p) r2 f2 c r3 f3) (h4 : Pz (dig 8) (Gu L.p) r3 f3 d r4 f4) : Pz encN (GN L) r f ⟨a, b, c, d⟩ r4 f4 :=
 (((h3.two h4) |> h2.two) |> h1.two).to (fun p : Int × Int × Int × Int => TNote.mk p.1 p.2.1 p.2.2.1 p.2.2.2) (fun n => (n.Value, n.Owner, n.Rho, n.Blind)) (fun _ h => ⟨rfl, h⟩) (fun _ h => ⟨rfl, rfl, h⟩)
theorem k18i {L : Lim} {r r1 r2 r3 r4 r5 r6 : List Int} {f f1 f2 f3 f4 f5 f6 : Bool} {a : TNote} {k n q : Int} {p : List Int} {d : Int} (h1 : Pz encN (GN L) r f a r1 f1) (h2 : Pz (dig 8) (Gu L.p) r1 f1 k r2 f2) (h3 : Pz (dig 4) (Gn L.n) r2 f2 n r3 f3) (h4 : Pz (dig 4) (Gn L.q) r3 f3 q r4 f4)
  (h5 : Pz encL (Gp 12 18446744069414584321) r4 f4 p r5 f5) (h6 : Pz (dig 4) (Gn 1) r5 f5 d r6 f6) : Pz encSp (GS L) r f ⟨a.Value, a.Owner, a.Rho, a.Blind, k, n, q, p, d == 1⟩ r6 f6 := by
 refine (((((h5.two h6) |> h4.two) |> h3.two) |> h2.two) |> h1.two).to (fun x : TNote × Int × Int × Int × List Int × Int => TSpent.mk x.1.Value x.1.Owner x.1.Rho x.1.Blind x.2.1 x.2.2.1 x.2.2.2.1 x.2.2.2.2.1 (x.2.2.2.2.2 == 1)) (fun x => (noteOf x, x.Key, x.Number, x.Position, x.Path, if x.Dummy = true then 1 else 0)) ?_ ?_
 ·rintro ⟨a, k, n, q, p, d⟩ ⟨g1, g2, g3, g4, g5, g6⟩
  refine ⟨?_, g1, g2, g3, g4, g5⟩
  obtain ⟨d0, d1, d2⟩ := g6
  obtain ⟨n0, n1, n2⟩ := g3
  obtain ⟨q0, q1, q2⟩ := g4
  have e : (if (d == 1) = true then (1 : Int) else 0) = d := by
   have d2 : d ≤ 1 := d2
   have d0 : 0 ≤ d := d0
   rcases (by omega : d = 0 ∨ d = 1) with rfl | rfl <;> rfl
  show encN a ++ (dig 8 k ++ (dig 4 (len4 n) ++ (dig 4 (len4 q) ++ (encL p ++ dig 4 (len4 (if (d == 1) = true then 1 else 0)))))) = encN a ++ (dig 8 k ++ (dig 4 n ++ (dig 4 q ++ (encL p ++ dig 4 d))))
  rw [e, len4_in (n := n) ⟨n0, by have : n < 4294967296 := n1; omega⟩, len4_in (n := q) ⟨q0, by have : q < 4294967296 := q1; omega⟩, len4_in (n := d) ⟨d0, by have : d < 4294967296 := d1; omega⟩]
 ·rintro ⟨v, o, rh, bl, k, n, q, p, d⟩ ⟨g1, g2, g3, g4, g5⟩
  obtain ⟨n0, n1, n2⟩ := g3
  obtain ⟨q0, q1, q2⟩ := g4
  refine ⟨?_, ?_, g1, g2, ⟨n0, n1, n2⟩, ⟨q0, q1, q2⟩, g5, ?_⟩
  ·cases d <;> rfl
  ·show encN ⟨v, o, rh, bl⟩ ++ (dig 8 k ++ (dig 4 n ++ (dig 4 q ++ (encL p ++ dig 4 (if d = true then 1 else 0))))) = encN ⟨v, o, rh, bl⟩ ++ (dig 8 k ++ (dig 4 (len4 n) ++ (dig 4 (len4 q) ++ (encL p ++ dig 4 (len4 (if d = true then 1 else 0))))))
   rw [len4_in (n := n) (by exact ⟨n0, by have : n < 4294967296 := n1; omega⟩), len4_in (n := q) (by exact ⟨q0, by have : q < 4294967296 := q1; omega⟩), len4_in (n := if d = true then 1 else 0) (by split <;> omega)]
  ·cases d
   ·exact (⟨by decide, by decide, by decide⟩ : Gn 1 0)
   ·exact (⟨by decide, by decide, by decide⟩ : Gn 1 1)
structure EW (w : TWitness) (b : List Int) : Prop where
 r : WQ w
 v : rightV w = true
 e : encW w = b
def zeroW : TWitness := ⟨[], [], 0⟩
open Classical in
def decW (b : List Int) : TWitness × Int := if h : ∃ w, EW w b then (Classical.choose h, 0) else (zeroW, 2)
theorem k1li {b : List Int} {t : TWitness} (h : EW t b) (hu : ∀ u, EW u b → t = u) : decW b = (t, 0) := by
 unfold decW
 have hex : ∃ t, EW t b := ⟨t, h⟩
 rw [dif_pos hex, ← hu _ (Classical.choose_spec hex)]
theorem decW_no {b : List Int} (h : ∀ u, ¬ EW u b) : decW b = (zeroW, 2) := by
 unfold decW
 rw [dif_neg fun ⟨u, hu⟩ => h u hu]
def Gw (L : Lim) (w : TWitness) : Prop := Gc (GS L) 4 w.Ins ∧ Gc (GN L) 4 w.Outs ∧ Gu L.p w.Secret
theorem Gw.wq {L : Lim} {w : TWitness} (h : Gw L w) : WQ w := by
 obtain ⟨⟨i, hi⟩, ⟨o, ho⟩, s⟩ := h
 have := i.2.2
 have := o.2.2
 exact ⟨fun x hx => (hi x hx).pq, by omega, fun x hx => (ho x hx).nr, by omega, s.1⟩
theorem encC_in {α : Type} (e : α → List Int) (l : List α) (h : l.length ≤ 4) : encC e l = dig 4 (len4 (l.length : Int)) ++ l.flatMap e := by
 unfold encC
 rw [len4_in (by omega)]
theorem pz_wit {L : Lim} {b r1 r2 r3 : List Int} {f1 f2 f3 : Bool} {is : List TSpent} {os : List TNote} {s : Int} (h1 : Pz (encC encSp) (Gc (GS L) 4) b false is r1 f1) (h2 : Pz (encC encN) (Gc (GN L) 4) r1 f1 os r2 f2) (h3 : Pz (dig 8) (Gu L.p) r2 f2 s r3 f3) :
  (f3 = false → r3 = [] → encW ⟨is, os, s⟩ = b ∧ Gw L ⟨is, os, s⟩) ∧ ∀ w, EW w b → f3 = false ∧ r3 = [] ∧ (⟨is, os, s⟩ : TWitness) = w := by
 constructor
 ·rintro rfl rfl
  obtain ⟨a1, a2, a3⟩ := h3.snd rfl
  obtain ⟨b1, b2, b3⟩ := h2.snd a1
  obtain ⟨c1, c2, c3⟩ := h1.snd b1
  refine ⟨?_, c3, b3, a3⟩
  have l1 := c3.1.2.2
  have l2 := b3.1.2.2
  rw [c2, b2, a2, encC_in _ _ (by omega), encC_in _ _ (by omega)]
  simp [encW, List.append_assoc]
 ·rintro ⟨is0, os0, s0⟩ ⟨hr, hv, he⟩
  obtain ⟨v1, v2, v3, v4, v5⟩ := kde.1 hv
  have v1 : is0.length ≤ 4 := v1
  have v2 : os0.length ≤ 4 := v2
  have v3 : s0 < 18446744069414584321 := v3
  have hp := L.hp'
  have e : b = encC encSp is0 ++ (encC encN os0 ++ (dig 8 s0 ++ [])) := by
   rw [← he, encC_in _ _ v1, encC_in _ _ v2]
   simp [encW, List.append_assoc]
  obtain ⟨c1, c2, c3⟩ := h1.cpl is0 _ rfl e ⟨⟨by omega, by omega, by omega⟩, fun x hx => (hr.i x hx).gs (v4 x hx) L⟩
  obtain ⟨b1, b2, b3⟩ := h2.cpl os0 _ c1 c3 ⟨⟨by omega, by omega, by omega⟩, fun x hx => (hr.o x hx).gn (v5 x hx) L⟩
  obtain ⟨a1, a2, a3⟩ := h3.cpl s0 _ b1 b3 ⟨hr.s, by omega⟩
  exact ⟨a1, a3, by rw [c2, b2, a2]⟩
structure RNt where
 n : TNote
 pos : Int
 f : Bool
def rdNt (b : List Int) (pos : Int) (f : Bool) : RNt :=
 let A := rdU b pos f 4294967295
 let B := rdU b A.pos A.fail 18446744069414584320
 let C := rdU b B.pos B.fail 18446744069414584320
 let D := rdU b C.pos C.fail 18446744069414584320
 ⟨⟨A.n, B.n, C.n, D.n⟩, D.pos, D.fail⟩
theorem rdNt_ok {b : List Int} {pos : Int} {f : Bool} (h : RdOk b pos) : RdOk b (rdNt b pos f).pos := rdU_ok (rdU_ok (rdU_ok (rdU_ok h)))
theorem rdNt_pz {b : List Int} {pos : Int} {f : Bool} (h : RdOk b pos) : Pz encN (GN limW) (b.drop pos.toNat) f (rdNt b pos f).n (b.drop (rdNt b pos f).pos.toNat) (rdNt b pos f).f :=
 pz_note (L := limW) (rdU_pz h) (rdU_pz (rdU_ok h)) (rdU_pz (rdU_ok (rdU_ok h))) (rdU_pz (rdU_ok (rdU_ok (rdU_ok h))))
structure RNb where
 n : TNote
 b : List Int
 f : Bool
def nNt (b : List Int) (f : Bool) : RNb :=
 let A := nB 8 b f 18446744073709551615
 let B := nB 8 A.b A.f 18446744073709551615
 let C := nB 8 B.b B.f 18446744073709551615
 let D := nB 8 C.b C.f 18446744073709551615
 ⟨⟨A.n, B.n, C.n, D.n⟩, D.b, D.f⟩
theorem nNt_b {b : List Int} {f : Bool} (h : By b) : By (nNt b f).b ∧ (nNt b f).b.length ≤ b.length :=
 have h1 := nB_b (k := 8) (f := f) (m := 18446744073709551615) h
 have h2 := nB_b (k := 8) (f := (nB 8 b f 18446744073709551615).f) (m := 18446744073709551615) h1.1
 have h3 := nB_b (k := 8) (f := (nB 8 (nB 8 b f 18446744073709551615).b (nB 8 b f 18446744073709551615).f 18446744073709551615).f) (m := 18446744073709551615) h2.1
 have h4 := nB_b (k := 8) (f := (nB 8 (nB 8 (nB 8 b f 18446744073709551615).b (nB 8 b f 18446744073709551615).f 18446744073709551615).b (nB 8 (nB 8 b f 18446744073709551615).b (nB 8 b f 18446744073709551615).f 18446744073709551615).f 18446744073709551615).f) (m := 18446744073709551615) h3.1
 ⟨h4.1, Nat.le_trans h4.2 (Nat.le_trans h3.2 (Nat.le_trans h2.2 h1.2))⟩
theorem nNt_pz {b : List Int} {f : Bool} (h : By b) : Pz encN (GN limR) b f (nNt b f).n (nNt b f).b (nNt b f).f :=
 have h1 := (nB_b (k := 8) (f := f) (m := 18446744073709551615) h).1
 have h2 := (nB_b (k := 8) (f := (nB 8 b f 18446744073709551615).f) (m := 18446744073709551615) h1).1
 have h3 := (nB_b (k := 8) (f := (nB 8 (nB 8 b f 18446744073709551615).b (nB 8 b f 18446744073709551615).f 18446744073709551615).f) (m := 18446744073709551615) h2).1
 pz_note (L := limR) (nB8_pz h (by decide)) (nB8_pz h1 (by decide)) (nB8_pz h2 (by decide)) (nB8_pz h3 (by decide))
def sameW (a b : TWitness) : Bool := decide (a.Ins.length = b.Ins.length ∧ a.Outs.length = b.Outs.length ∧ a.Secret = b.Secret ∧ a.Ins = b.Ins ∧ a.Outs = b.Outs)
theorem ka9 {α : Type} (e : α → List Int) (k : Nat) : ∀ (l : List α), (∀ x ∈ l, (e x).length ≤ k) → (l.flatMap e).length ≤ k * l.length
 | [], _ => by simp
 | x :: r, h => by
  have h1 := ka9 e k r fun y hy => h y (List.mem_cons_of_mem _ hy)
  have h2 := h x (by simp)
  rw [List.flatMap_cons, List.length_append, List.length_cons, Nat.mul_add]
  omega
theorem k1fe : ∀ (l : List Int), (l.flatMap (dig 8)).length = 8 * l.length
 | [] => rfl
 | x :: r => by rw [List.flatMap_cons, List.length_append, k3b, k1fe r, List.length_cons]; omega
theorem k1ko (l : List Int) : (encL l).length = 4 + 8 * l.length := by
 unfold encL
 rw [List.length_append, k3b, k1fe]
theorem kj7 (n : TNote) : (encN n).length = 32 := by simp [encN]
theorem k1o9 (x : TSpent) : (encSp x).length = 56 + 8 * x.Path.length := by
 simp [encSp, kj7, k1ko]
 omega
theorem nB_m {k : Int} {b : List Int} {f : Bool} {m : Int} (hm : 0 ≤ m) : (nB k b f m).n ≤ m := by
 unfold nB
 split
 ·exact hm
 ·rename_i h
  exact Int.not_lt.1 fun x => h (.inr x)
def inpV (x : TSpent) (d : Int) : Bool := noteV (noteOf x) && decide (x.Key < 18446744069414584321) && decide (0 ≤ x.Number) && decide (x.Number < 4) && decide ((x.Path.length : Int) = d) && allB x.Path && decide (0 ≤ x.Position) && decide (x.Position < ishl .i64 1 d)
theorem ishl1 {d : Int} (h0 : 0 ≤ d) (h1 : d ≤ 12) : ishl .i64 1 d = 2 ^ d.toNat := by
 obtain ⟨d, rfl⟩ := Int.eq_ofNat_of_zero_le h0
 have key : ∀ d : Nat, d ≤ 12 → ishl .i64 1 (d : Int) = 2 ^ d := by decide +kernel
 exact key d (by omega)
theorem k1ox {x : TSpent} (hp : x.Path.length ≤ 12) (h0 : 0 ≤ x.Position) (h1 : x.Position < 4096) : inpV ⟨x.Note_Value, x.Note_Owner, x.Note_Rho, x.Note_Blind, x.Key, x.Number, 0, x.Path, x.Dummy⟩ (x.Path.length : Int) = spendV x := by
 unfold inpV spendV noteOf
 rw [ishl1 (by omega) (by omega)]
 have e : (0 : Int) < 2 ^ (x.Path.length : Int).toNat := Int.pow_pos (by decide)
 simp only [decide_eq_true e, decide_eq_true h0, decide_eq_true (show x.Position ≤ 4095 by omega), decide_eq_true hp, Bool.and_true, decide_true, Int.le_refl]
theorem k1nr (b : List Int) : (∃ w, EW w b ∧ decW b = (w, 0)) ∨ decW b = (zeroW, 2) := by
 unfold decW
 by_cases h : ∃ w, EW w b
 ·rw [dif_pos h]; exact .inl ⟨_, Classical.choose_spec h, rfl⟩
 ·rw [dif_neg h]; exact .inr rfl
theorem k1aa (w : TWitness) : sameW w w = true := by simp [sameW]
theorem k1fq {a b : TWitness} : sameW a b = true ↔ a = b := by
 unfold sameW
 rw [decide_eq_true_eq]
 obtain ⟨a1, a2, a3⟩ := a
 obtain ⟨b1, b2, b3⟩ := b
 simp
 constructor
 ·rintro ⟨_, _, h3, h4, h5⟩; exact ⟨h4, h5, h3⟩
 ·rintro ⟨rfl, rfl, rfl⟩; simp
theorem pz_exL {α : Type} {e : α → List Int} {G : α → Prop} (hx : ∀ b f, By b → ∃ v b' f', Pz e G b f v b' f' ∧ By b') : ∀ (n : Nat) (b : List Int) (f : Bool), By b → ∃ l b' f', Pz (fun l : List α => l.flatMap e) (Gl G n) b f l b' f' ∧ By b'
 | 0, b, f, hb => ⟨[], b, f, Pz.nil, hb⟩
 | n + 1, b, f, hb => by
  obtain ⟨l, b1, f1, h1, hb1⟩ := pz_exL hx n b f hb
  obtain ⟨v, b2, f2, h2, hb2⟩ := hx b1 f1 hb1
  exact ⟨l ++ [v], b2, f2, h1.snoc h2, hb2⟩
theorem pz_exC {α : Type} {e : α → List Int} {G : α → Prop} (hx : ∀ b f, By b → ∃ v b' f', Pz e G b f v b' f' ∧ By b') (m : Int) (b : List Int) (f : Bool) (hb : By b) : ∃ l b' f', Pz (encC e) (Gc G m) b f l b' f' ∧ By b' := by
 obtain ⟨l, b2, f2, h2, hb2⟩ := pz_exL hx (nB 4 b f m).n.toNat _ (nB 4 b f m).f (nB_b (k := 4) (f := f) (m := m) hb).1
 exact ⟨l, b2, f2, Pz.list (nB4_pz hb) h2, hb2⟩
theorem EW.inj {t u : TWitness} {b : List Int} (hb : By b) (h : EW t b) (h' : EW u b) : t = u := by
 obtain ⟨is, b1, f1, z1, hb1⟩ := pz_exC (e := encSp) (G := GS limR) (fun b f hb => by
  have o1 := nNt_b (f := f) hb
  have o2 := nB_b (k := 8) (f := (nNt b f).f) (m := 18446744073709551615) o1.1
  have o3 := nB_b (k := 4) (f := (nB 8 (nNt b f).b (nNt b f).f 18446744073709551615).f) (m := 4294967296) o2.1
  have z1 := nNt_pz (f := f) hb
  have z2 := nB8_pz (f := (nNt b f).f) (m := 18446744073709551615) o1.1 (by omega)
  have z3 := nB4_pz (f := (nB 8 (nNt b f).b (nNt b f).f 18446744073709551615).f) (m := 4294967296) o2.1
  generalize nB 8 (nNt b f).b (nNt b f).f 18446744073709551615 = A2 at *
  generalize nB 4 A2.b A2.f 4294967296 = A3 at *
  have o4 := nB_b (k := 4) (f := A3.f) (m := 4294967296) o3.1
  have z4 := nB4_pz (f := A3.f) (m := 4294967296) o3.1
  generalize nB 4 A3.b A3.f 4294967296 = A4 at *
  have o5 := lB_b (m := 12) (p := 18446744069414584321) (f := A4.f) o4.1
  have z5 := lB_pz (m := 12) (p := 18446744069414584321) (f := A4.f) o4.1 (by omega)
  generalize lB A4.b A4.f 12 18446744069414584321 = A5 at *
  exact ⟨_, _, _, k18i (L := limR) z1 z2 z3 z4 z5 (nB4_pz o5.1), (nB_b o5.1).1⟩) 4 b false hb
 obtain ⟨os, b2, f2, z2, hb2⟩ := pz_exC (e := encN) (G := GN limR) (fun b f hb => ⟨_, _, _, nNt_pz hb, (nNt_b hb).1⟩) 4 b1 f1 hb1
 obtain ⟨_, cpl⟩ := pz_wit (L := limR) z1 z2 (nB8_pz (m := 18446744073709551615) hb2 (by omega))
 exact ((cpl t h).2.2).symm.trans (cpl u h').2.2
theorem k1eg.nr {x : TNote} (h : k1eg x) : NR x := ⟨h.Value, h.Owner, h.Rho, h.Blind⟩
theorem k1a4.pq {x : TSpent} (h : k1a4 x) : PQ x := ⟨⟨h.Note_Value, h.Note_Owner, h.Note_Rho, h.Note_Blind⟩, h.Key, by have := h.Number; omega, by have := h.Position; omega, h.Path.2, h.Path.1⟩
theorem k1cp.wq {x : TWitness} (h : k1cp x) : WQ x := ⟨fun y hy => (h.Ins.2 y hy).pq, h.Ins.1, fun y hy => (h.Outs.2 y hy).nr, h.Outs.1, h.Secret⟩
theorem kuu {p0 : List Int} (h0 : p0.length ≤ 9223372036854775807 ∧ ∀ y ∈ p0, 0 ≤ y ∧ y < 256) : By p0 ∧ p0.length ≤ 9223372036854775807 := ⟨h0.2, h0.1⟩
def k75 : Con TB.den := Con.mk0 113 [.one (.d (.int .u64))] [] (.one (.agg [.d (.int .u64), .d (.int .u64), .d (.int .u64)])) []
abbrev k1fk := HL TB.den (hsT k75.ins (hsOs k75.pre))
abbrev kts := HL TB.den (hsV k75.res (hsOs k75.post))
def kko : Cx TB := ⟨inf, [], [], 4, []⟩
def kri : Code := Try.f113.body.getD .skip
def kxo : List ResultVar := Try.f113.results.toList
def k1ci (o : kts) : An TB := .no
def krb (x : k1fk) (o : kts) : Prop := WPh TB kko 26 0 kri (k1ci o) (k75.st TB x) (retTQ TB kko k75 kxo o)
theorem k1mz (o : kts) : OblH TB kko 26 0 kri (k1ci o) (retTQ TB kko k75 kxo o) :=
 OblH.ofC (X := True) (by kernel_rfl) trivial
theorem k1mb {x : k1fk} {o : kts} (h : krb x o) : k75.Snd Try.prog x o :=
 Con.soundH (c := k75) (C := kko) TBok ⟨inf_ok, all_nil, all_nil⟩ mix Try.func113 (show Try.f113.body = some kri by kernel_rfl) (show Try.f113.ntmps = 26 by kernel_rfl) (show Try.f113.results.toList = kxo by kernel_rfl) rfl h (k1mz o)
theorem k1n9 {p0 : Int} {r0 : TA3} (h :
(((p0 == 17) = true →
 3 = r0.a0 ∧ 4 = r0.a1 ∧ 3 = r0.a2) ∧
((p0 == 17) = false →
((p0 == 97) = true →
 5 = r0.a0 ∧ 5 = r0.a1 ∧ 5 = r0.a2) ∧
((p0 == 97) = false →
((p0 == 193) = true →
 5 = r0.a0 ∧ 6 = r0.a1 ∧ 5 = r0.a2) ∧
((p0 == 193) = false →
((p0 == 257) = true →
 3 = r0.a0 ∧ 8 = r0.a1 ∧ 3 = r0.a2) ∧
((p0 == 257) = false →
((p0 == 12289) = true →
 11 = r0.a0 ∧ 12 = r0.a1 ∧ 5 = r0.a2) ∧
((p0 == 12289) = false →
((p0 == 65537) = true →
 3 = r0.a0 ∧ 16 = r0.a1 ∧ 3 = r0.a2) ∧
((p0 == 65537) = false →
((p0 == 18446744069414584321) = true →
 7 = r0.a0 ∧ 32 = r0.a1 ∧ 7 = r0.a2) ∧
((p0 == 18446744069414584321) = false →
 0 = r0.a0 ∧ 0 = r0.a1 ∧ 0 = r0.a2))))))))) : krb (p0, ()) (r0.a0, r0.a1, r0.a2, ()) := WPh.of_eq (by kernel_rfl) h
theorem bd113 : Callable Try.prog 113 := ⟨by rw [Try.func113]; kernel_rfl, by rw [Try.func113]; show some _ ≠ some _; decide⟩
theorem k1kw (p0 : Int) (h : p0 = 18446744069414584321) : krb (p0, ()) ((7 : Int), (32 : Int), (7 : Int), ()) := by
 refine k1n9 (r0 := TA3.mk 7 32 7) ?_
 simp [h]
def kuq : Con TB.den := k75.fnR (fun x => (fun (p0 : Int) => p0 = 18446744069414584321) x.1) fun x => ((fun (p0 : Int) => (7 : Int)) x.1, (fun (p0 : Int) => (32 : Int)) x.1, (fun (p0 : Int) => (7 : Int)) x.1, ())
theorem k1b0 : kuq.Ok Try.prog TB := Con.ok_fn k75 bd113 fun x h => k1mb (k1kw x.1 h)
def k51 : Con TB.den := Con.mk0 106 [.one (.d (.int .u64))] [] (.one (.one (.d (.bool)))) []
abbrev k171 := HL TB.den (hsT k51.ins (hsOs k51.pre))
abbrev knk := HL TB.den (hsV k51.res (hsOs k51.post))
def kfn : Cx TB := ⟨inf, [kuq], [], 4, []⟩
def km4 : Code := Try.f106.body.getD .skip
def kr9 : List ResultVar := Try.f106.results.toList
def k13b (o : knk) : An TB := .no
def kmr (x : k171) (o : knk) : Prop := WPh TB kfn 7 0 km4 (k13b o) (k51.st TB x) (retTQ TB kfn k51 kr9 o)
theorem k1hd (o : knk) : OblH TB kfn 7 0 km4 (k13b o) (retTQ TB kfn k51 kr9 o) :=
 OblH.ofC (X := True) (by kernel_rfl) trivial
theorem k1ic {x : k171} {o : knk} (h : kmr x o) : k51.Snd Try.prog x o :=
 Con.soundH (c := k51) (C := kfn) TBok ⟨inf_ok, (all_cons k1b0 all_nil), all_nil⟩ mix Try.func106 (show Try.f106.body = some km4 by kernel_rfl) (show Try.f106.ntmps = 7 by kernel_rfl) (show Try.f106.results.toList = kr9 by kernel_rfl) rfl h (k1hd o)
theorem k1la {p0 : Int} {r0 : Bool} (h :
((p0 = 18446744069414584321) ∧ decide (0 < (7 : Int)) = r0)) : kmr (p0, ()) (r0, ()) := WPh.of_eq (by kernel_rfl) h
theorem bd106 : Callable Try.prog 106 := ⟨by rw [Try.func106]; kernel_rfl, by rw [Try.func106]; show some _ ≠ some _; decide⟩
theorem k1dt (p0 : Int) (h : p0 = 18446744069414584321) : kmr (p0, ()) ((true : Bool), ()) := by
 exact k1la ⟨h, rfl⟩
def k8s : Con TB.den := k51.fnR (fun x => (fun (p0 : Int) => p0 = 18446744069414584321) x.1) fun x => ((fun (p0 : Int) => (true : Bool)) x.1, ())
theorem kcp : k8s.Ok Try.prog TB := Con.ok_fn k51 bd106 fun x h => k1ic (k1dt x.1 h)
def k6z : Con TB.den := Con.mk0 114 [.one (.d (.int .u64)), .one (.d (.int .u64)), .one (.d (.int .u64))] [] (.one (.one (.d (.int .u64)))) []
abbrev k1ga := HL TB.den (hsT k6z.ins (hsOs k6z.pre))
abbrev ktm := HL TB.den (hsV k6z.res (hsOs k6z.post))
def kkm : Cx TB := ⟨inf, [k8s], [], 4, []⟩
def kr6 : Code := Try.f114.body.getD .skip
def ky2 : List ResultVar := Try.f114.results.toList
def k1cq (o : ktm) : An TB := .no
def krh (x : k1ga) (o : ktm) : Prop := WPh TB kkm 29 0 kr6 (k1cq o) (k6z.st TB x) (retTQ TB kkm k6z ky2 o)
theorem k1mp (o : ktm) : OblH TB kkm 29 0 kr6 (k1cq o) (retTQ TB kkm k6z ky2 o) :=
 OblH.ofC (X := True) (by kernel_rfl) trivial
theorem k1md {x : k1ga} {o : ktm} (h : krh x o) : k6z.Snd Try.prog x o :=
 Con.soundH (c := k6z) (C := kkm) TBok ⟨inf_ok, (all_cons kcp all_nil), all_nil⟩ mix Try.func114 (show Try.f114.body = some kr6 by kernel_rfl) (show Try.f114.ntmps = 29 by kernel_rfl) (show Try.f114.results.toList = ky2 by kernel_rfl) rfl h (k1mp o)
theorem k1nx {p0 : Int} {p1 : Int} {p2 : Int} {r0 : Int} (h :
((p0 = 18446744069414584321) ∧ ((!true) = true →
 0 = r0) ∧
((!true) = false →
(p0 ≠ 0) ∧ (p0 ≠ 0) ∧ let v1 : Bool := decide ((IntKind.u64.wrap (p0 - (Int.tmod p2 p0))) ≤ (Int.tmod p1 p0))
(v1 = true →
 let v2 : Int := IntKind.u64.wrap ((Int.tmod p1 p0) - (IntKind.u64.wrap (p0 - (Int.tmod p2 p0))))
 v2 = r0) ∧
(v1 = false →
 let v3 : Int := IntKind.u64.wrap ((Int.tmod p1 p0) + (Int.tmod p2 p0))
 v3 = r0)))) : krh (p0, p1, p2, ()) (r0, ()) := WPh.of_eq (by kernel_rfl) h
theorem bd114 : Callable Try.prog 114 := ⟨by rw [Try.func114]; kernel_rfl, by rw [Try.func114]; show some _ ≠ some _; decide⟩
theorem k1ij (p0 : Int) (p1 : Int) (p2 : Int) (h : p0 = 18446744069414584321 ∧ U64 p1 ∧ U64 p2) : krh (p0, p1, p2, ()) ((((p1 + p2) % 18446744069414584321) : Int), ()) := by
 obtain ⟨rfl, h1, h2⟩ := h
 refine k1nx ⟨rfl, fun h => by simp at h, fun _ => ?_⟩
 rw [tmod_nn _ _ h1.1, tmod_nn _ _ h2.1]
 simp only [u64w]
 refine ⟨by omega, by omega, fun h => ?_, fun h => ?_⟩
 ·have h := of_decide_eq_true h
  omega
 ·have h := of_decide_eq_false h
  omega
def khp : Con TB.den := k6z.fnR (fun x => (fun (p0 : Int) (p1 : Int) (p2 : Int) => p0 = 18446744069414584321 ∧ U64 p1 ∧ U64 p2) x.1 x.2.1 x.2.2.1) fun x => ((fun (p0 : Int) (p1 : Int) (p2 : Int) => (((p1 + p2) % 18446744069414584321) : Int)) x.1 x.2.1 x.2.2.1, ())
theorem kqs : khp.Ok Try.prog TB := Con.ok_fn k6z bd114 fun x h => k1md (k1ij x.1 x.2.1 x.2.2.1 h)
def k2c : Con TB.den := Con.mk0 136 [.one (.d (.int .u64))] [] (.one (.one (.d (.int .i64)))) []
abbrev k15f := HL TB.den (hsT k2c.ins (hsOs k2c.pre))
abbrev k4c := HL TB.den (hsV k2c.res (hsOs k2c.post))
def k4b : Cx TB := ⟨inf, [], [], 4, []⟩
def k8o : Code := Try.f136.body.getD .skip
def kam : List ResultVar := Try.f136.results.toList
def kcz : Tm := ⟨[], [], [0, 2], [.one (.d (.int .u64)), .one (.d (.int .i64))], 0⟩
def kwg (o : k4c) (i : HL TB.den kcz.hs) : Prop := ghs TB [] (kcz.fill TB i) fun s => WP TB k4b 25 0 (cB (cB (cB (cB k8o)))) .no s (retTQ TB k4b k2c kam o)
structure k8x (o : k4c) (i : HL TB.den kcz.hs) : Prop where
 h : kwg o i
def kgq : Tm := ⟨[], [], [0, 2], [.one (.d (.int .u64)), .one (.d (.int .i64))], 0⟩
def kwl (o : k4c) (i : HL TB.den kgq.hs) : Prop := ghs TB [] (kgq.fill TB i) fun s => WP TB k4b 25 0 (cB (cB (cB k8o))) (.jn kcz (k8x o) [] .no [] .no) s (retTQ TB k4b k2c kam o)
structure kaq (o : k4c) (i : HL TB.den kgq.hs) : Prop where
 h : kwl o i
def kzu (o : k4c) : An TB := .jn kgq (kaq o) [] .no [] (.jn kcz (k8x o) [] .no [] .no)
def kgl : Tm := ⟨[], [], [0, 2], [.one (.d (.int .u64)), .one (.d (.int .i64))], 0⟩
def kwy (o : k4c) (i : HL TB.den kgl.hs) : Prop := ghs TB [] (kgl.fill TB i) fun s => WP TB k4b 25 0 (cB (cB k8o)) (kzu o) s (retTQ TB k4b k2c kam o)
structure kat (o : k4c) (i : HL TB.den kgl.hs) : Prop where
 h : kwy o i
def k1i9 (o : k4c) : An TB := .jn kgl (kat o) [] .no [] (kzu o)
def kzy (o : k4c) : An TB := .nd [] .no [] (k1i9 o)
def kjx (x : k15f) (o : k4c) : Prop := WPh TB k4b 25 0 k8o (kzy o) (k2c.st TB x) (retTQ TB k4b k2c kam o)
theorem k1cw (o : k4c) : OblH TB k4b 25 0 k8o (kzy o) (retTQ TB k4b k2c kam o) :=
 OblH.ofC (X := ((∀ i, (kat o) i = kwy o i) ∧ (∀ i, (kaq o) i = kwl o i) ∧ (∀ i, (k8x o) i = kwg o i) ∧ True)) (by kernel_rfl) ⟨fun _ => propext ⟨fun h => h.1, fun h => ⟨h⟩⟩, fun _ => propext ⟨fun h => h.1, fun h => ⟨h⟩⟩, fun _ => propext ⟨fun h => h.1, fun h => ⟨h⟩⟩, trivial⟩
theorem k1ea {x : k15f} {o : k4c} (h : kjx x o) : k2c.Snd Try.prog x o :=
 Con.soundH (c := k2c) (C := k4b) TBok ⟨inf_ok, all_nil, all_nil⟩ mix Try.func136 (show Try.f136.body = some k8o by kernel_rfl) (show Try.f136.ntmps = 25 by kernel_rfl) (show Try.f136.results.toList = kam by kernel_rfl) rfl h (k1cw o)
theorem k1gn {p0 : Int} {r0 : Int} (h :
((decide (4294967296 ≤ p0) = true →
 kat (r0, ()) ((ishr .u64 p0 32 : Int), (32 : Int), ())) ∧
(decide (4294967296 ≤ p0) = false →
 kat (r0, ()) (p0, (0 : Int), ())))) : kjx (p0, ()) (r0, ()) := WPh.of_eq (by kernel_rfl) h
theorem k19f {r0 : Int} {s0 : Int} {s2 : Int} (h :
((decide (65536 ≤ s0) = true →
 kaq (r0, ()) ((ishr .u64 s0 16 : Int), (IntKind.i64.wrap (s2 + 16) : Int), ())) ∧
(decide (65536 ≤ s0) = false →
 kaq (r0, ()) (s0, s2, ())))) : kat (r0, ()) (s0, s2, ()) := ⟨mpr_of (by kernel_rfl) h⟩
theorem k18l {r0 : Int} {s0 : Int} {s2 : Int} (h :
((decide (256 ≤ s0) = true →
 k8x (r0, ()) ((ishr .u64 s0 8 : Int), (IntKind.i64.wrap (s2 + 8) : Int), ())) ∧
(decide (256 ≤ s0) = false →
 k8x (r0, ()) (s0, s2, ())))) : kaq (r0, ()) (s0, s2, ()) := ⟨mpr_of (by kernel_rfl) h⟩
theorem k19e {r0 : Int} {s0 : Int} {s2 : Int} (h :
((0 ≤ IntKind.u8.wrap s0 ∧ IntKind.u8.wrap s0 < ((⟨#[0, 1, 2, 2, 3, 3, 3, 3, 4, 4, 4, 4, 4, 4, 4, 4, 5, 5, 5, 5, 5, 5, 5, 5, 5, 5, 5, 5, 5, 5, 5, 5, 6, 6, 6, 6, 6, 6, 6, 6, 6, 6, 6, 6, 6, 6, 6, 6, 6, 6, 6, 6, 6, 6, 6, 6, 6, 6, 6, 6, 6, 6, 6, 6, 7, 7, 7, 7, 7, 7, 7, 7, 7, 7, 7, 7, 7, 7, 7, 7, 7, 7, 7, 7, 7, 7, 7, 7, 7, 7, 7, 7, 7, 7, 7, 7, 7, 7, 7, 7, 7, 7, 7, 7, 7, 7, 7, 7, 7, 7, 7, 7, 7, 7, 7, 7, 7, 7, 7, 7, 7, 7, 7, 7, 7, 7, 7, 7, 8, 8, 8, 8, 8, 8, 8, 8, 8, 8, 8, 8, 8, 8, 8, 8, 8, 8, 8, 8, 8, 8, 8, 8, 8, 8, 8, 8, 8, 8, 8, 8, 8, 8, 8, 8, 8, 8, 8, 8, 8, 8, 8, 8, 8, 8, 8, 8, 8, 8, 8, 8, 8, 8, 8, 8, 8, 8, 8, 8, 8, 8, 8, 8, 8, 8, 8, 8, 8, 8, 8, 8, 8, 8, 8, 8, 8, 8, 8, 8, 8, 8, 8, 8, 8, 8, 8, 8, 8, 8, 8, 8, 8, 8, 8, 8, 8, 8, 8, 8, 8, 8, 8, 8, 8, 8, 8, 8, 8, 8, 8, 8, 8, 8, 8, 8, 8, 8, 8, 8, 8, 8, 8, 8, 8, 8, 8, 8]⟩ : ByteArray).size : Int)) ∧ let v1 : Int := byteAt (⟨#[0, 1, 2, 2, 3, 3, 3, 3, 4, 4, 4, 4, 4, 4, 4, 4, 5, 5, 5, 5, 5, 5, 5, 5, 5, 5, 5, 5, 5, 5, 5, 5, 6, 6, 6, 6, 6, 6, 6, 6, 6, 6, 6, 6, 6, 6, 6, 6, 6, 6, 6, 6, 6, 6, 6, 6, 6, 6, 6, 6, 6, 6, 6, 6, 7, 7, 7, 7, 7, 7, 7, 7, 7, 7, 7, 7, 7, 7, 7, 7, 7, 7, 7, 7, 7, 7, 7, 7, 7, 7, 7, 7, 7, 7, 7, 7, 7, 7, 7, 7, 7, 7, 7, 7, 7, 7, 7, 7, 7, 7, 7, 7, 7, 7, 7, 7, 7, 7, 7, 7, 7, 7, 7, 7, 7, 7, 7, 7, 8, 8, 8, 8, 8, 8, 8, 8, 8, 8, 8, 8, 8, 8, 8, 8, 8, 8, 8, 8, 8, 8, 8, 8, 8, 8, 8, 8, 8, 8, 8, 8, 8, 8, 8, 8, 8, 8, 8, 8, 8, 8, 8, 8, 8, 8, 8, 8, 8, 8, 8, 8, 8, 8, 8, 8, 8, 8, 8, 8, 8, 8, 8, 8, 8, 8, 8, 8, 8, 8, 8, 8, 8, 8, 8, 8, 8, 8, 8, 8, 8, 8, 8, 8, 8, 8, 8, 8, 8, 8, 8, 8, 8, 8, 8, 8, 8, 8, 8, 8, 8, 8, 8, 8, 8, 8, 8, 8, 8, 8, 8, 8, 8, 8, 8, 8, 8, 8, 8, 8, 8, 8, 8, 8, 8, 8, 8, 8]⟩ : ByteArray) (IntKind.u8.wrap s0)
 let v2 : Int := IntKind.i64.wrap (s2 + (IntKind.i64.wrap v1))
 v2 = r0)) : k8x (r0, ()) (s0, s2, ()) := ⟨mpr_of (by kernel_rfl) h⟩
theorem bd136 : Callable Try.prog 136 := ⟨by rw [Try.func136]; kernel_rfl, by rw [Try.func136]; show some _ ≠ some _; decide⟩
theorem k1bf (p0 : Int) (h : U64 p0) : kjx (p0, ()) (((len64 p0) : Int), ()) := by
 have j3 : ∀ s0 s2 : Int, 0 ≤ s0 → s0 < 256 → 0 ≤ s2 → s2 ≤ 56 → k8x (s2 + len64 s0, ()) (s0, s2, ()) := fun s0 s2 h0 h1 h2 h3 => by
  refine k19e ?_
  have e : IntKind.u8.wrap s0 = s0 := by rw [u8w]; omega
  have l := k1m9 s0 ⟨h0, h1⟩
  show (0 ≤ IntKind.u8.wrap s0 ∧ IntKind.u8.wrap s0 < (tab8.size : Int)) ∧ IntKind.i64.wrap (s2 + IntKind.i64.wrap (byteAt tab8 (IntKind.u8.wrap s0))) = _
  rw [e, k1ob, k1jm s0 ⟨h0, h1⟩, wi (len64 s0) (by omega) (by omega), wi (s2 + len64 s0) (by omega) (by omega)]
  exact ⟨⟨h0, h1⟩, rfl⟩
 have j2 : ∀ s0 s2 : Int, 0 ≤ s0 → s0 < 65536 → 0 ≤ s2 → s2 ≤ 48 → kaq (s2 + len64 s0, ()) (s0, s2, ()) := fun s0 s2 h0 h1 h2 h3 => by
  refine k18l ⟨fun h => ?_, fun h => j3 s0 s2 h0 (by simpa using h) h2 (by omega)⟩
  have h := of_decide_eq_true h
  rw [ishr8, wi _ (by omega) (by omega), ← kul s0 8 (by simpa using h), ← Int.add_assoc, Int.add_right_comm]
  exact j3 _ _ (by omega) (by omega) (by omega) (by omega)
 have j1 : ∀ s0 s2 : Int, 0 ≤ s0 → s0 < 4294967296 → 0 ≤ s2 → s2 ≤ 32 → kat (s2 + len64 s0, ()) (s0, s2, ()) := fun s0 s2 h0 h1 h2 h3 => by
  refine k19f ⟨fun h => ?_, fun h => j2 s0 s2 h0 (by simpa using h) h2 (by omega)⟩
  have h := of_decide_eq_true h
  rw [ishr16, wi _ (by omega) (by omega), ← kul s0 16 (by simpa using h), ← Int.add_assoc, Int.add_right_comm]
  exact j2 _ _ (by omega) (by omega) (by omega) (by omega)
 refine k1gn ⟨fun h1 => ?_, fun h1 => ?_⟩
 ·have h1 := of_decide_eq_true h1
  rw [ishr32, ← kul p0 32 (by simpa using h1), Int.add_comm]
  exact j1 _ _ (by omega) (by omega) (by omega) (by omega)
 ·have := j1 p0 0 h.1 (by simpa using h1) (by omega) (by omega)
  rwa [Int.zero_add] at this
def kwm : Con TB.den := k2c.fnR (fun x => (fun (p0 : Int) => U64 p0) x.1) fun x => ((fun (p0 : Int) => ((len64 p0) : Int)) x.1, ())
theorem k1hp : kwm.Ok Try.prog TB := Con.ok_fn k2c bd136 fun x h => k1ea (k1bf x.1 h)
def kq : Con TB.den := Con.mk0 134 [.one (.d (.int .u64))] [] (.one (.one (.d (.int .i64)))) []
abbrev kjt := HL TB.den (hsT kq.ins (hsOs kq.pre))
abbrev k8n := HL TB.den (hsV kq.res (hsOs kq.post))
def k66 : Cx TB := ⟨inf, [kwm], [], 4, []⟩
def ka7 : Code := Try.f134.body.getD .skip
def kbb : List ResultVar := Try.f134.results.toList
def kht (o : k8n) : An TB := .no
def ka0 (x : kjt) (o : k8n) : Prop := WPh TB k66 6 0 ka7 (kht o) (kq.st TB x) (retTQ TB k66 kq kbb o)
theorem kt6 (o : k8n) : OblH TB k66 6 0 ka7 (kht o) (retTQ TB k66 kq kbb o) :=
 OblH.ofC (X := True) (by kernel_rfl) trivial
theorem ksp {x : kjt} {o : k8n} (h : ka0 x o) : kq.Snd Try.prog x o :=
 Con.soundH (c := kq) (C := k66) TBok ⟨inf_ok, (all_cons k1hp all_nil), all_nil⟩ mix Try.func134 (show Try.f134.body = some ka7 by kernel_rfl) (show Try.f134.ntmps = 6 by kernel_rfl) (show Try.f134.results.toList = kbb by kernel_rfl) rfl h (kt6 o)
theorem kux {p0 : Int} {r0 : Int} (h :
((U64 p0) ∧ IntKind.i64.wrap (64 - (len64 p0)) = r0)) : ka0 (p0, ()) (r0, ()) := WPh.of_eq (by kernel_rfl) h
theorem bd134 : Callable Try.prog 134 := ⟨by rw [Try.func134]; kernel_rfl, by rw [Try.func134]; show some _ ≠ some _; decide⟩
theorem krc (p0 : Int) (h : 0 < p0 ∧ p0 < 18446744073709551616) : ka0 (p0, ()) (((64 - len64 p0) : Int), ()) := by
 obtain ⟨s, e, h1, _⟩ := k1b7 p0 h
 refine kux ⟨⟨by omega, h.2⟩, ?_⟩
 exact wi _ (by omega) (by omega)
def kh3 : Con TB.den := kq.fnR (fun x => (fun (p0 : Int) => 0 < p0 ∧ p0 < 18446744073709551616) x.1) fun x => ((fun (p0 : Int) => ((64 - len64 p0) : Int)) x.1, ())
theorem kui : kh3.Ok Try.prog TB := Con.ok_fn kq bd134 fun x h => ksp (krc x.1 h)
def k21 : Con TB.den := Con.mk0 125 [.one (.d (.int .u64)), .one (.d (.int .u64)), .one (.d (.int .u64))] [] (.tup [.one (.d (.int .u64)), .one (.d (.int .u64))]) []
abbrev k12g := HL TB.den (hsT k21.ins (hsOs k21.pre))
abbrev kf := HL TB.den (hsV k21.res (hsOs k21.post))
def k20 : Cx TB := ⟨inf, [kh3], [], 4, []⟩
def k4u : Code := Try.f125.body.getD .skip
def k91 : List ResultVar := Try.f125.results.toList
def kcu : Tm := ⟨[], [], [2, 8, 14, 15, 17, 18], [.one (.d (.int .u64)), .one (.d (.int .u64)), .one (.d (.int .u64)), .one (.d (.int .u64)), .one (.d (.int .u64)), .one (.d (.int .u64))], 0⟩
def kw7 (o : kf) (i : HL TB.den kcu.hs) : Prop := ghs TB [] (kcu.fill TB i) fun s => WP TB k20 135 0 (cB (cB (cB (cB (cB (cB (cB (cB (cB (cB (cB (cB (cB (cB (cB (cB (cB (cB (cB k4u))))))))))))))))))) .no s (retTQ TB k20 k21 k91 o)
structure k8w (o : kf) (i : HL TB.den kcu.hs) : Prop where
 h : kw7 o i
def kzr (o : kf) := qM TB 0 kcu (k8w o) (retTQ TB k20 k21 k91 o)
def k4j : Tm := ⟨[], [], [2, 8, 9, 10, 14, 15, 16, 17, 18], [.one (.d (.int .u64)), .one (.d (.int .u64)), .one (.d (.int .u64)), .one (.d (.int .u64)), .one (.d (.int .u64)), .one (.d (.int .u64)), .one (.d (.int .u64)), .one (.d (.int .u64)), .one (.d (.int .u64))], 0⟩
def kcw : Tm := ⟨[], [], [2, 8, 9, 10, 14, 15, 16, 17, 18], [.one (.d (.int .u64)), .one (.d (.int .u64)), .one (.d (.int .u64)), .one (.d (.int .u64)), .one (.d (.int .u64)), .one (.d (.int .u64)), .one (.d (.int .u64)), .one (.d (.int .u64)), .one (.d (.int .u64))], 0⟩
def kw8 (o : kf) (nx2 : NX TB k4j) (i : HL TB.den kcw.hs) : Prop := ghs TB [] (kcw.fill TB i) fun s => WP TB k20 135 0 (cB (cA (cA (cA (cB (cB (cB (cB (cB (cB (cB (cB (cB (cB (cB (cB (cB (cB (cB (cB (cB (cB k4u)))))))))))))))))))))) .no s (qM TB 0 k4j nx2 (blockT TB 2 (kzr o)))
structure k8r (o : kf) (nx2 : NX TB k4j) (i : HL TB.den kcw.hs) : Prop where
 h : kw8 o nx2 i
def ke5 (o : kf) (nx2 : NX TB k4j) (i : HL TB.den k4j.hs) : Prop := WP TB k20 135 0 (cA (cA (cA (cB (cB (cB (cB (cB (cB (cB (cB (cB (cB (cB (cB (cB (cB (cB (cB (cB (cB k4u))))))))))))))))))))) (.jn kcw (k8r o nx2) [] .no [] .no) (k4j.fill TB i) (qM TB 0 k4j nx2 (blockT TB 2 (kzr o)))
def k1hc (o : kf) : An TB := .lp [] k4j (ke5 o) fun nx2 => (.jn kcw (k8r o nx2) [] .no [] .no)
def k1gk (o : kf) : An TB := .jn kcu (k8w o) [] (k1hc o) [] .no
def kzq (o : kf) : An TB := .nd [] .no [] (.nd [] .no [] (.nd [] .no [] (k1gk o)))
def kc2 : Tm := ⟨[], [], [2, 8, 9, 10, 11, 13, 14, 15], [.one (.d (.int .u64)), .one (.d (.int .u64)), .one (.d (.int .u64)), .one (.d (.int .u64)), .one (.d (.int .u64)), .one (.d (.int .u64)), .one (.d (.int .u64)), .one (.d (.int .u64))], 0⟩
def kvs (o : kf) (i : HL TB.den kc2.hs) : Prop := ghs TB [] (kc2.fill TB i) fun s => WP TB k20 135 0 (cB (cB (cB (cB (cB (cB (cB (cB (cB (cB (cB (cB (cB (cB (cB k4u))))))))))))))) (kzq o) s (retTQ TB k20 k21 k91 o)
structure k8v (o : kf) (i : HL TB.den kc2.hs) : Prop where
 h : kvs o i
def kzi (o : kf) := qM TB 0 kc2 (k8v o) (retTQ TB k20 k21 k91 o)
def k4e : Tm := ⟨[], [], [2, 8, 9, 10, 11, 13, 14, 15, 16], [.one (.d (.int .u64)), .one (.d (.int .u64)), .one (.d (.int .u64)), .one (.d (.int .u64)), .one (.d (.int .u64)), .one (.d (.int .u64)), .one (.d (.int .u64)), .one (.d (.int .u64)), .one (.d (.int .u64))], 0⟩
def kc4 : Tm := ⟨[], [], [2, 8, 9, 10, 11, 13, 14, 15, 16], [.one (.d (.int .u64)), .one (.d (.int .u64)), .one (.d (.int .u64)), .one (.d (.int .u64)), .one (.d (.int .u64)), .one (.d (.int .u64)), .one (.d (.int .u64)), .one (.d (.int .u64)), .one (.d (.int .u64))], 0⟩
def kvl (o : kf) (nx1 : NX TB k4e) (i : HL TB.den kc4.hs) : Prop := ghs TB [] (kc4.fill TB i) fun s => WP TB k20 135 0 (cB (cA (cA (cA (cB (cB (cB (cB (cB (cB (cB (cB (cB (cB (cB (cB (cB (cB k4u)))))))))))))))))) .no s (qM TB 0 k4e nx1 (blockT TB 0 (kzi o)))
structure k92 (o : kf) (nx1 : NX TB k4e) (i : HL TB.den kc4.hs) : Prop where
 h : kvl o nx1 i
def kdr (o : kf) (nx1 : NX TB k4e) (i : HL TB.den k4e.hs) : Prop := WP TB k20 135 0 (cA (cA (cA (cB (cB (cB (cB (cB (cB (cB (cB (cB (cB (cB (cB (cB (cB k4u))))))))))))))))) (.jn kc4 (k92 o nx1) [] .no [] .no) (k4e.fill TB i) (qM TB 0 k4e nx1 (blockT TB 0 (kzi o)))
def k1f6 (o : kf) : An TB := .lp [] k4e (kdr o) fun nx1 => (.jn kc4 (k92 o nx1) [] .no [] .no)
def k1ex (o : kf) : An TB := .jn kc2 (k8v o) [] (k1f6 o) [] (kzq o)
def k1cv (o : kf) : An TB := .nd [] .no [] (.nd [] .no [] (.nd [] .no [] (k1ex o)))
def k1eh (o : kf) : An TB := .nd [] .no [] (.nd [] .no [] (.nd [] .no [] (k1cv o)))
def k1dz (o : kf) : An TB := .nd [] .no [] (.nd [] .no [] (.nd [] .no [] (k1eh o)))
def k1cs (o : kf) : An TB := .nd [] .no [] (.nd [] .no [] (.nd [] .no [] (k1dz o)))
def k107 (o : kf) : An TB := .nd [] .no [] (.nd [] .no [] (k1cs o))
def kkg (x : k12g) (o : kf) : Prop := WPh TB k20 135 0 k4u (k107 o) (k21.st TB x) (retTQ TB k20 k21 k91 o)
theorem k1cz (o : kf) : OblH TB k20 135 0 k4u (k107 o) (retTQ TB k20 k21 k91 o) :=
 OblH.ofC (X := ((∀ nx i, (kdr o) nx i = (kdr o) nx i) ∧ (∀ nx1 : NX TB k4e, ((∀ i, (k92 o nx1) i = kvl o nx1 i) ∧ True)) ∧ (∀ i, (k8v o) i = kvs o i) ∧ (∀ nx i, (ke5 o) nx i = (ke5 o) nx i) ∧ (∀ nx2 : NX TB k4j, ((∀ i, (k8r o nx2) i = kw8 o nx2 i) ∧ True)) ∧ (∀ i, (k8w o) i = kw7 o i) ∧ True)) (by kernel_rfl) ⟨fun _ _ => rfl, fun _ => ⟨fun _ => propext ⟨fun h => h.1, fun h => ⟨h⟩⟩, trivial⟩, fun _ => propext ⟨fun h => h.1, fun h => ⟨h⟩⟩, fun _ _ => rfl, fun _ => ⟨fun _ => propext ⟨fun h => h.1, fun h => ⟨h⟩⟩, trivial⟩, fun _ => propext ⟨fun h => h.1, fun h => ⟨h⟩⟩, trivial⟩
theorem k1f7 {x : k12g} {o : kf} (h : kkg x o) : k21.Snd Try.prog x o :=
 Con.soundH (c := k21) (C := k20) TBok ⟨inf_ok, (all_cons kui all_nil), all_nil⟩ mix Try.func125 (show Try.f125.body = some k4u by kernel_rfl) (show Try.f125.ntmps = 135 by kernel_rfl) (show Try.f125.results.toList = k91 by kernel_rfl) rfl h (k1cz o)
theorem k1ib {p0 : Int} {p1 : Int} {p2 : Int} {r0 : Int} {r1 : Int} (h :
(((p2 == 0) = true →
 False) ∧
((p2 == 0) = false →
(decide (p2 ≤ p0) = true →
 False) ∧
(decide (p2 ≤ p0) = false →
((p0 == 0) = true →
(p2 ≠ 0) ∧ (p2 ≠ 0) ∧ IntKind.u64.wrap (Int.tdiv p1 p2) = r0 ∧ Int.tmod p1 p2 = r1) ∧
((p0 == 0) = false →
(0 < p2 ∧ p2 < 18446744073709551616) ∧ (0 ≤ IntKind.u64.wrap (64 - len64 p2)) ∧ let v2 : Int := ishl .u64 p2 (IntKind.u64.wrap (64 - len64 p2))
(0 ≤ IntKind.u64.wrap (64 - len64 p2)) ∧ let v3 : Int := ishl .u64 p0 (IntKind.u64.wrap (64 - len64 p2))
 let v4 : Int := IntKind.u64.wrap (64 - (IntKind.u64.wrap (64 - len64 p2)))
(0 ≤ v4) ∧ (0 ≤ IntKind.u64.wrap (64 - len64 p2)) ∧ let v5 : Int := ishl .u64 p1 (IntKind.u64.wrap (64 - len64 p2))
(ishr .u64 v2 32 ≠ 0) ∧ let v6 : Int := IntKind.u64.wrap (Int.tdiv (ior .u64 v3 (ishr .u64 p1 v4)) (ishr .u64 v2 32))
 let v7 : Int := IntKind.u64.wrap (v6 * (ishr .u64 v2 32))
 let v8 : Int := IntKind.u64.wrap ((ior .u64 v3 (ishr .u64 p1 v4)) - v7)
 Md.Loop (v2, (IntKind.u64.wrap (64 - len64 p2) : Int), (ishr .u64 v2 32 : Int), (iand .u64 v2 4294967295 : Int), (ior .u64 v3 (ishr .u64 p1 v4) : Int), (ishr .u64 v5 32 : Int), (iand .u64 v5 4294967295 : Int), v6, v8, ()) (kdr (r0, r1, ()))))))) : kkg (p0, p1, p2, ()) (r0, r1, ()) := WPh.of_eq (by kernel_rfl) h
theorem k18z {r0 : Int} {r1 : Int} {nx1 : NX TB k4e} {s2 : Int} {s8 : Int} {s9 : Int} {s10 : Int} {s11 : Int} {s13 : Int} {s14 : Int} {s15 : Int} {s16 : Int} (h :
(let v11 : Bool := decide (4294967296 ≤ (IntKind.u64.wrap (s16 + s9)))
(v11 = true →
 k8v (r0, r1, ()) (s2, s8, s9, s10, s11, s13, s14, (IntKind.u64.wrap (s15 - 1) : Int), ())) ∧
(v11 = false →
 nx1 (s2, s8, s9, s10, s11, s13, s14, (IntKind.u64.wrap (s15 - 1) : Int), (IntKind.u64.wrap (s16 + s9) : Int), ())))) : k92 (r0, r1, ()) nx1 (s2, s8, s9, s10, s11, s13, s14, s15, s16, ()) := ⟨mpr_of (by kernel_rfl) h⟩
theorem k186 {r0 : Int} {r1 : Int} {s2 : Int} {s8 : Int} {s9 : Int} {s10 : Int} {s11 : Int} {s13 : Int} {s14 : Int} {s15 : Int} (h :
(let v12 : Int := IntKind.u64.wrap ((IntKind.u64.wrap (s11 * 4294967296)) + s13)
 let v13 : Int := IntKind.u64.wrap (v12 - (IntKind.u64.wrap (s15 * s2)))
(s9 ≠ 0) ∧ let v14 : Int := IntKind.u64.wrap ((IntKind.u64.wrap (Int.tdiv v13 s9)) * s9)
 Md.Loop (s2, s8, s9, s10, s14, s15, (IntKind.u64.wrap (v13 - v14) : Int), v13, (IntKind.u64.wrap (Int.tdiv v13 s9) : Int), ()) (ke5 (r0, r1, ())))) : k8v (r0, r1, ()) (s2, s8, s9, s10, s11, s13, s14, s15, ()) := ⟨mpr_of (by kernel_rfl) h⟩
theorem k19v {r0 : Int} {r1 : Int} {nx2 : NX TB k4j} {s2 : Int} {s8 : Int} {s9 : Int} {s10 : Int} {s14 : Int} {s15 : Int} {s16 : Int} {s17 : Int} {s18 : Int} (h :
(let v17 : Bool := decide (4294967296 ≤ (IntKind.u64.wrap (s16 + s9)))
(v17 = true →
 k8w (r0, r1, ()) (s2, s8, s14, s15, s17, (IntKind.u64.wrap (s18 - 1) : Int), ())) ∧
(v17 = false →
 nx2 (s2, s8, s9, s10, s14, s15, (IntKind.u64.wrap (s16 + s9) : Int), s17, (IntKind.u64.wrap (s18 - 1) : Int), ())))) : k8r (r0, r1, ()) nx2 (s2, s8, s9, s10, s14, s15, s16, s17, s18, ()) := ⟨mpr_of (by kernel_rfl) h⟩
theorem k18j {r0 : Int} {r1 : Int} {s2 : Int} {s8 : Int} {s14 : Int} {s15 : Int} {s17 : Int} {s18 : Int} (h :
(let v18 : Int := IntKind.u64.wrap ((IntKind.u64.wrap (s15 * 4294967296)) + s18)
 let v19 : Int := IntKind.u64.wrap ((IntKind.u64.wrap (s17 * 4294967296)) + s14)
 let v20 : Int := IntKind.u64.wrap (v19 - (IntKind.u64.wrap (s18 * s2)))
(0 ≤ s8) ∧ v18 = r0 ∧ ishr .u64 v20 s8 = r1)) : k8w (r0, r1, ()) (s2, s8, s14, s15, s17, s18, ()) := ⟨mpr_of (by kernel_rfl) h⟩
def k106 (r0 : Int) (r1 : Int) (nx1 : NX TB k4e) (k1 : Int → Int → Prop) (s2 : Int) (s8 : Int) (s9 : Int) (s10 : Int) (s11 : Int) (s13 : Int) (s14 : Int) (s15 : Int) (s16 : Int) : Prop :=
(decide (4294967296 ≤ s15) = true →
 k92 (r0, r1, ()) nx1 (s2, s8, s9, s10, s11, s13, s14, s15, s16, ())) ∧
(decide (4294967296 ≤ s15) = false →
 let v9 : Int := IntKind.u64.wrap ((IntKind.u64.wrap (4294967296 * s16)) + s13)
 let v10 : Bool := decide (v9 < (IntKind.u64.wrap (s15 * s10)))
(v10 = true →
 k92 (r0, r1, ()) nx1 (s2, s8, s9, s10, s11, s13, s14, s15, s16, ())) ∧
(v10 = false →
 k8v (r0, r1, ()) (s2, s8, s9, s10, s11, s13, s14, s15, ())))
theorem k1e0 {r0 : Int} {r1 : Int} {s2 : Int} {s8 : Int} {s9 : Int} {s10 : Int} {s11 : Int} {s13 : Int} {s14 : Int} {s15 : Int} {s16 : Int} (inv : Int → Int → Prop) (μ : Int → Int → Nat) (h0 : inv s15 s16) (hs : ∀ (s15 : Int) (s16 : Int), inv s15 s16 → k106 r0 r1 (fun s : Int × Int × Int × Int × Int × Int × Int × Int × Int × Unit => ((s.1 = s2 ∧ s.2.1 = s8 ∧ s.2.2.1 = s9 ∧ s.2.2.2.1 = s10 ∧ s.2.2.2.2.1 = s11 ∧ s.2.2.2.2.2.1 = s13 ∧ s.2.2.2.2.2.2.1 = s14) ∧ inv s.2.2.2.2.2.2.2.1 s.2.2.2.2.2.2.2.2.1) ∧ μ s.2.2.2.2.2.2.2.1 s.2.2.2.2.2.2.2.2.1 < μ s15 s16) (fun s15q s16q => inv s15q s16q ∧ μ s15q s16q < μ s15 s16) s2 s8 s9 s10 s11 s13 s14 s15 s16) : Md.Loop (s2, s8, s9, s10, s11, s13, s14, s15, s16, ()) (kdr (r0, r1, ())) :=
 ⟨⟨fun s : Int × Int × Int × Int × Int × Int × Int × Int × Int × Unit => (s.1 = s2 ∧ s.2.1 = s8 ∧ s.2.2.1 = s9 ∧ s.2.2.2.1 = s10 ∧ s.2.2.2.2.1 = s11 ∧ s.2.2.2.2.2.1 = s13 ∧ s.2.2.2.2.2.2.1 = s14) ∧ inv s.2.2.2.2.2.2.2.1 s.2.2.2.2.2.2.2.2.1, fun s : Int × Int × Int × Int × Int × Int × Int × Int × Int × Unit => μ s.2.2.2.2.2.2.2.1 s.2.2.2.2.2.2.2.2.1, ⟨⟨rfl, rfl, rfl, rfl, rfl, rfl, rfl⟩, h0⟩, fun (s2p, s8p, s9p, s10p, s11p, s13p, s14p, s15p, s16p, ()) ⟨⟨eq0, eq1, eq2, eq3, eq4, eq5, eq6⟩, hi⟩ => by
  have eq0 : s2p = s2 := eq0; subst s2p; have eq1 : s8p = s8 := eq1; subst s8p; have eq2 : s9p = s9 := eq2; subst s9p; have eq3 : s10p = s10 := eq3; subst s10p; have eq4 : s11p = s11 := eq4; subst s11p; have eq5 : s13p = s13 := eq5; subst s13p; have eq6 : s14p = s14 := eq6; subst s14p; exact mpr_of (by kernel_rfl) ((congrArg (fun k => k106 r0 r1 (fun s : Int × Int × Int × Int × Int × Int × Int × Int × Int × Unit => ((s.1 = s2 ∧ s.2.1 = s8 ∧ s.2.2.1 = s9 ∧ s.2.2.2.1 = s10 ∧ s.2.2.2.2.1 = s11 ∧ s.2.2.2.2.2.1 = s13 ∧ s.2.2.2.2.2.2.1 = s14) ∧ inv s.2.2.2.2.2.2.2.1 s.2.2.2.2.2.2.2.2.1) ∧ μ s.2.2.2.2.2.2.2.1 s.2.2.2.2.2.2.2.2.1 < μ s15p s16p) k s2 s8 s9 s10 s11 s13 s14 s15p s16p) (lpk2 (⟨rfl, rfl, rfl, rfl, rfl, rfl, rfl⟩ : s2 = s2 ∧ s8 = s8 ∧ s9 = s9 ∧ s10 = s10 ∧ s11 = s11 ∧ s13 = s13 ∧ s14 = s14) inv (fun s15q s16q => μ s15q s16q < μ s15p s16p))).mpr (hs s15p s16p hi))⟩⟩
def kzh (r0 : Int) (r1 : Int) (nx2 : NX TB k4j) (k2 : Int → Int → Prop) (s2 : Int) (s8 : Int) (s9 : Int) (s10 : Int) (s14 : Int) (s15 : Int) (s17 : Int) (s16 : Int) (s18 : Int) : Prop :=
(decide (4294967296 ≤ s18) = true →
 k8r (r0, r1, ()) nx2 (s2, s8, s9, s10, s14, s15, s16, s17, s18, ())) ∧
(decide (4294967296 ≤ s18) = false →
 let v15 : Int := IntKind.u64.wrap ((IntKind.u64.wrap (4294967296 * s16)) + s14)
 let v16 : Bool := decide (v15 < (IntKind.u64.wrap (s18 * s10)))
(v16 = true →
 k8r (r0, r1, ()) nx2 (s2, s8, s9, s10, s14, s15, s16, s17, s18, ())) ∧
(v16 = false →
 k8w (r0, r1, ()) (s2, s8, s14, s15, s17, s18, ())))
theorem k1d2 {r0 : Int} {r1 : Int} {s2 : Int} {s8 : Int} {s9 : Int} {s10 : Int} {s14 : Int} {s15 : Int} {s17 : Int} {s16 : Int} {s18 : Int} (inv : Int → Int → Prop) (μ : Int → Int → Nat) (h0 : inv s16 s18) (hs : ∀ (s16 : Int) (s18 : Int), inv s16 s18 → kzh r0 r1 (fun s : Int × Int × Int × Int × Int × Int × Int × Int × Int × Unit => ((s.1 = s2 ∧ s.2.1 = s8 ∧ s.2.2.1 = s9 ∧ s.2.2.2.1 = s10 ∧ s.2.2.2.2.1 = s14 ∧ s.2.2.2.2.2.1 = s15 ∧ s.2.2.2.2.2.2.2.1 = s17) ∧ inv s.2.2.2.2.2.2.1 s.2.2.2.2.2.2.2.2.1) ∧ μ s.2.2.2.2.2.2.1 s.2.2.2.2.2.2.2.2.1 < μ s16 s18) (fun s16q s18q => inv s16q s18q ∧ μ s16q s18q < μ s16 s18) s2 s8 s9 s10 s14 s15 s17 s16 s18) : Md.Loop (s2, s8, s9, s10, s14, s15, s16, s17, s18, ()) (ke5 (r0, r1, ())) :=
 ⟨⟨fun s : Int × Int × Int × Int × Int × Int × Int × Int × Int × Unit => (s.1 = s2 ∧ s.2.1 = s8 ∧ s.2.2.1 = s9 ∧ s.2.2.2.1 = s10 ∧ s.2.2.2.2.1 = s14 ∧ s.2.2.2.2.2.1 = s15 ∧ s.2.2.2.2.2.2.2.1 = s17) ∧ inv s.2.2.2.2.2.2.1 s.2.2.2.2.2.2.2.2.1, fun s : Int × Int × Int × Int × Int × Int × Int × Int × Int × Unit => μ s.2.2.2.2.2.2.1 s.2.2.2.2.2.2.2.2.1, ⟨⟨rfl, rfl, rfl, rfl, rfl, rfl, rfl⟩, h0⟩, fun (s2p, s8p, s9p, s10p, s14p, s15p, s16p, s17p, s18p, ()) ⟨⟨eq0, eq1, eq2, eq3, eq4, eq5, eq6⟩, hi⟩ => by
  have eq0 : s2p = s2 := eq0; subst s2p; have eq1 : s8p = s8 := eq1; subst s8p; have eq2 : s9p = s9 := eq2; subst s9p; have eq3 : s10p = s10 := eq3; subst s10p; have eq4 : s14p = s14 := eq4; subst s14p; have eq5 : s15p = s15 := eq5; subst s15p; have eq6 : s17p = s17 := eq6; subst s17p; exact mpr_of (by kernel_rfl) ((congrArg (fun k => kzh r0 r1 (fun s : Int × Int × Int × Int × Int × Int × Int × Int × Int × Unit => ((s.1 = s2 ∧ s.2.1 = s8 ∧ s.2.2.1 = s9 ∧ s.2.2.2.1 = s10 ∧ s.2.2.2.2.1 = s14 ∧ s.2.2.2.2.2.1 = s15 ∧ s.2.2.2.2.2.2.2.1 = s17) ∧ inv s.2.2.2.2.2.2.1 s.2.2.2.2.2.2.2.2.1) ∧ μ s.2.2.2.2.2.2.1 s.2.2.2.2.2.2.2.2.1 < μ s16p s18p) k s2 s8 s9 s10 s14 s15 s17 s16p s18p) (lpk2 (⟨rfl, rfl, rfl, rfl, rfl, rfl, rfl⟩ : s2 = s2 ∧ s8 = s8 ∧ s9 = s9 ∧ s10 = s10 ∧ s14 = s14 ∧ s15 = s15 ∧ s17 = s17) inv (fun s16q s18q => μ s16q s18q < μ s16p s18p))).mpr (hs s16p s18p hi))⟩⟩
theorem bd125 : Callable Try.prog 125 := ⟨by rw [Try.func125]; kernel_rfl, by rw [Try.func125]; show some _ ≠ some _; decide⟩
theorem k1b9 (p0 : Int) (p1 : Int) (p2 : Int) (h : U64 p0 ∧ U64 p1 ∧ U64 p2 ∧ p0 < p2) : kkg (p0, p1, p2, ()) ((((p0 * 18446744073709551616 + p1) / p2) : Int), (((p0 * 18446744073709551616 + p1) % p2) : Int), ()) := by
 obtain ⟨h0, h1, h2, hlt⟩ := h
 refine k1ib ⟨fun e => ?_, fun _ => ⟨fun e => ?_, fun _ => ⟨fun e => ?_, fun _ => ?_⟩⟩⟩
 ·simp at e; omega
 ·simp at e; omega
 ·have e : p0 = 0 := by simpa using e
  subst e
  rw [tdiv_nn _ _ h1.1, tmod_nn _ _ h1.1, Int.zero_mul, Int.zero_add]
  have := Int.ediv_le_self p2 h1.1
  have := Int.ediv_nonneg h1.1 h2.1
  exact ⟨by omega, by omega, wu _ (by omega) (by have := Int.ediv_le_self p2 h1.1; omega), rfl⟩
 obtain ⟨s, e, hs, n1, n2⟩ := k1b7 p2 ⟨by omega, h2.2⟩
 have ew : IntKind.u64.wrap (64 - len64 p2) = (s : Int) := by rw [e, wu _ (by omega) (by omega)]
 have ew3 : IntKind.u64.wrap (64 - (s : Int)) = ((64 - s : Nat) : Int) := by rw [wu _ (by omega) (by omega)]; omega
 have hp : 0 < 2 ^ s := Nat.two_pow_pos s
 have hp' : 0 < 2 ^ (64 - s) := Nat.two_pow_pos _
 have hpp : 2 ^ s * 2 ^ (64 - s) = 18446744073709551616 := by rw [← Nat.pow_add, show s + (64 - s) = 64 by omega]
 have hP : ((2 ^ s : Nat) : Int) * ((2 ^ (64 - s) : Nat) : Int) = 18446744073709551616 := by rw [← Int.natCast_mul, hpp]; rfl
 have il : ∀ a : Int, ishl .u64 a (s : Int) = a * ((2 ^ s : Nat) : Int) % 18446744073709551616 := fun a => by rw [k1lc, Int.toNat_natCast, Nat.min_eq_left (by omega)]
 have ir : ∀ a : Int, ishr .u64 a (s : Int) = a / ((2 ^ s : Nat) : Int) := fun a => by rw [kjh, Int.toNat_natCast, show min s IntKind.u64.bits = s from Nat.min_eq_left (by show s ≤ 64; omega)]
 have ir' : ∀ a : Int, ishr .u64 a ((64 - s : Nat) : Int) = a / ((2 ^ (64 - s) : Nat) : Int) := fun a => by rw [kjh, Int.toNat_natCast, show min (64 - s) IntKind.u64.bits = 64 - s from Nat.min_eq_left (by show 64 - s ≤ 64; omega)]
 have hor : ∀ c : Int, 0 ≤ c → c < ((2 ^ s : Nat) : Int) → p0 * ((2 ^ s : Nat) : Int) + c < 18446744073709551616 → ior .u64 (p0 * ((2 ^ s : Nat) : Int)) c = p0 * ((2 ^ s : Nat) : Int) + c := by
  intro c hc0 hc1 hc2
  obtain ⟨a, rfl⟩ := Int.eq_ofNat_of_zero_le h0.1
  obtain ⟨c, rfl⟩ := Int.eq_ofNat_of_zero_le hc0
  have key := ior_add' c a s (by omega)
  rw [Int.mul_comm, ← Int.natCast_mul] at hc2 ⊢
  rw [key (by omega)]
  omega
 simp only [ew, ew3, il, ir', ishr32]
 have hP'0 : (0 : Int) < ((2 ^ (64 - s) : Nat) : Int) := by omega
 generalize hPd : ((2 ^ s : Nat) : Int) = P at *
 generalize hPd' : ((2 ^ (64 - s) : Nat) : Int) = P' at *
 have hP0 : 0 < P := by omega
 have hlo : p1 / P' < P := Int.ediv_lt_of_lt_mul hP'0 (by omega)
 have hlo0 : 0 ≤ p1 / P' := Int.ediv_nonneg h1.1 (by omega)
 have hUv : p0 * P + P ≤ p2 * P := by
  have : (p0 + 1) * P ≤ p2 * P := Int.mul_le_mul_of_nonneg_right (by omega) (by omega)
  grind
 have hUp : 0 ≤ p0 * P := Int.mul_nonneg h0.1 (by omega)
 rw [Int.emod_eq_of_lt (a := p2 * P) (by omega) n2, Int.emod_eq_of_lt (a := p0 * P) hUp (by omega), hor _ hlo0 hlo (by omega)]
 have hN : (p0 * 18446744073709551616 + p1) * P = (p0 * P + p1 / P') * 18446744073709551616 + (p1 * P % 18446744073709551616 / 4294967296) * 4294967296 + p1 * P % 18446744073709551616 % 4294967296 := by
  have h5 : p1 * P / 18446744073709551616 = p1 / P' := by
   rw [← hP, Int.mul_comm p1 P, Int.mul_ediv_mul_of_pos _ _ hP0]
  have h6 := Int.emod_add_mul_ediv (p1 * P) 18446744073709551616
  rw [h5] at h6
  have : (p0 * 18446744073709551616 + p1) * P = p0 * P * 18446744073709551616 + p1 * P := by grind
  rw [this]
  generalize p1 * P = w at *
  generalize p0 * P = w' at *
  omega
 have hlb : 0 ≤ p1 * P % 18446744073709551616 ∧ p1 * P % 18446744073709551616 < 18446744073709551616 := ⟨Int.emod_nonneg _ (by omega), Int.emod_lt_of_pos _ (by omega)⟩
 generalize hUd : p0 * P + p1 / P' = U at *
 generalize hLd : p1 * P % 18446744073709551616 = L at *
 have hVd : p2 * P / 4294967296 * 4294967296 + p2 * P % 4294967296 = p2 * P := by omega
 have hw : ∀ {Q R V' : Int} , R - Q = V' → 0 ≤ V' → V' < 18446744073709551616 → ∀ A, R = A * 4294967296 + (R - A * 4294967296) → IntKind.u64.wrap (IntKind.u64.wrap (IntKind.u64.wrap (A * 4294967296) + (R - A * 4294967296)) - IntKind.u64.wrap Q) = V' := by
  intro Q R V' hv h0 h1 A hA
  simp only [u64w]
  omega
 rw [khx (p2 * P) (by omega), khx L (by omega)]
 generalize ha : p2 * P / 4294967296 = a at *
 generalize hb : p2 * P % 4294967296 = b at *
 have hQ1 : Half U (L / 4294967296) a b ((U * 4294967296 + L / 4294967296) / (a * 4294967296 + b)) := ⟨by omega, by omega, by omega, by omega, by omega, rfl⟩
 have hr1 := hQ1.rest
 have hq1 := hQ1.q
 generalize (U * 4294967296 + L / 4294967296) / (a * 4294967296 + b) = Q1 at *
 generalize (U * 4294967296 + L / 4294967296) % (a * 4294967296 + b) = R1 at *
 have hQ0 : Half R1 (L % 4294967296) a b ((R1 * 4294967296 + L % 4294967296) / (a * 4294967296 + b)) := ⟨by omega, by omega, by omega, by omega, by omega, rfl⟩
 have hr0 := hQ0.rest
 have hq0 := hQ0.q
 generalize (R1 * 4294967296 + L % 4294967296) / (a * 4294967296 + b) = Q0 at *
 generalize (R1 * 4294967296 + L % 4294967296) % (a * 4294967296 + b) = R0 at *
 rw [hVd] at hr1 hr0 hq1 hq0
 have fin := k1nm hP0 (by omega : 0 < p2) hN hr1.1 hr0.1 ⟨hr0.2.1, hr0.2.2⟩
 have j4 : k8w (((p0 * 18446744073709551616 + p1) / p2 : Int), ((p0 * 18446744073709551616 + p1) % p2 : Int), ()) ((p2 * P : Int), (s : Int), (L % 4294967296 : Int), Q1, R1, Q0, ()) := by
  refine k18j ⟨by omega, ?_, ?_⟩
  ·rw [wu (Q1 * 4294967296) (by omega) (by omega), wu _ (by omega) (by omega)]
   exact fin.1
  ·have := hw (Q := Q0 * (p2 * P)) (R := R1 * 4294967296 + L % 4294967296) hr0.1 hr0.2.1 (by omega) R1 (by omega)
   rw [show R1 * 4294967296 + L % 4294967296 - R1 * 4294967296 = L % 4294967296 by omega] at this
   rw [this, ir]
   exact fin.2
 have aux : ∀ {U x Q q r : Int}, Half U x a b Q → U < 18446744073709551616 → q * a + r = U → Q ≤ q → 0 ≤ r → q ≤ 8589934592 := by
  intro U x Q q r hh hU e hQ hr
  have h1 := hh.ha
  refine Int.le_of_lt_add_one (Int.lt_of_mul_lt_mul_right (a := a) ?_ (by omega))
  generalize q * a = w at *
  omega
 have init : ∀ {U x Q : Int}, Half U x a b Q → Q ≤ U / a := by
  intro U x Q hh
  have h1 := hh.ha
  have h2 := hh.q
  have h3 := hh.hb
  have h4 := hh.hx
  refine (Int.le_ediv_iff_mul_le (by omega)).2 ?_
  have h5 : Q * (a * 4294967296 + b) = Q * a * 4294967296 + Q * b := by grind
  have h6 : 0 ≤ Q * b := Int.mul_nonneg h2.1 h3.1
  generalize Q * a = w at *
  omega
 have j2 : k8v (((p0 * 18446744073709551616 + p1) / p2 : Int), ((p0 * 18446744073709551616 + p1) % p2 : Int), ()) ((p2 * P : Int), (s : Int), a, b, U, (L / 4294967296 : Int), (L % 4294967296 : Int), Q1, ()) := by
  have e1 := hw (Q := Q1 * (p2 * P)) (R := U * 4294967296 + L / 4294967296) hr1.1 hr1.2.1 (by omega) U (by omega)
  rw [show U * 4294967296 + L / 4294967296 - U * 4294967296 = L / 4294967296 by omega] at e1
  refine k186 ?_
  simp only [e1]
  have hd := Int.emod_add_mul_ediv R1 a
  have hd1 := Int.emod_nonneg R1 (by omega : a ≠ 0)
  have hd2 := Int.emod_lt_of_pos R1 (by omega : 0 < a)
  have hd3 : 0 ≤ R1 / a := Int.ediv_nonneg hr1.2.1 (by omega)
  rw [Int.mul_comm] at hd
  have hd5 : 0 ≤ R1 / a * a := Int.mul_nonneg hd3 (by omega)
  have hd4 := aux hQ0 (by omega) (q := R1 / a) (r := R1 % a) (by omega) (init hQ0) hd1
  rw [tdiv_nn _ _ hr1.2.1, wu (R1 / a) (by omega) (by omega), wu (R1 / a * a) (by omega) (by omega), show R1 - R1 / a * a = R1 % a by omega, wu (R1 % a) (by omega) (by omega)]
  refine ⟨by omega, ?_⟩
  refine k1d2 (fun r q => q * a + r = R1 ∧ Q0 ≤ q ∧ 0 ≤ r ∧ r < 4294967296) (fun r q => q.toNat) ⟨by omega, init hQ0, hd1, by omega⟩ ?_
  rintro r q ⟨g1, g2, g3, g4⟩
  have g5 := aux hQ0 (by omega) g1 g2 g3
  have j3 : ∀ nx, (Q0 ≤ q - 1) → (r + a < 4294967296 → nx ((p2 * P : Int), (s : Int), a, b, (L % 4294967296 : Int), Q1, (r + a : Int), R1, (q - 1 : Int), ())) → k8r (((p0 * 18446744073709551616 + p1) / p2 : Int), ((p0 * 18446744073709551616 + p1) % p2 : Int), ()) nx ((p2 * P : Int), (s : Int), a, b, (L % 4294967296 : Int), Q1, r, R1, q, ()) := by
   intro nx hq hnx
   refine k19v ?_
   rw [wu (q - 1) (by omega) (by omega), wu (r + a) (by omega) (by omega)]
   refine ⟨fun hd => ?_, fun hd => hnx (by simpa using hd)⟩
   have hd : 4294967296 ≤ r + a := of_decide_eq_true hd
   rw [hQ0.done (q := q - 1) (r := r + a) (by grind) hq hd]
   exact j4
  have nxt : Q0 ≤ q - 1 → r + a < 4294967296 → ((q - 1) * a + (r + a) = R1 ∧ Q0 ≤ q - 1 ∧ 0 ≤ r + a ∧ r + a < 4294967296) ∧ (q - 1).toNat < q.toNat := fun h1 h2 => ⟨⟨by grind, h1, by omega, h2⟩, by omega⟩
  refine ⟨fun hd => j3 _ (hQ0.down g1 (.inl (of_decide_eq_true hd))) fun h1 => ?_, fun hd => ?_⟩
  ·obtain ⟨n1, n2⟩ := nxt (hQ0.down g1 (.inl (of_decide_eq_true hd))) h1
   exact ⟨⟨⟨rfl, rfl, rfl, rfl, rfl, rfl, rfl⟩, n1⟩, n2⟩
  ·have hd : q < 4294967296 := by simpa using hd
   have hqb : 0 ≤ q * b ∧ q * b < 18446744073709551616 := by
    have := hQ0.hb
    have h1 : q * b ≤ 4294967295 * 4294967295 := Int.mul_le_mul (by omega) (by omega) (by omega) (by omega)
    exact ⟨Int.mul_nonneg (by omega) (by omega), by omega⟩
   have := hQ0.hx
   rw [wu (q * b) (by omega) (by omega), wu (4294967296 * r) (by omega) (by omega), wu (4294967296 * r + L % 4294967296) (by omega) (by omega)]
   refine ⟨fun ht => ?_, fun ht => ?_⟩
   ·have ht : 4294967296 * r + L % 4294967296 < q * b := of_decide_eq_true ht
    have hdn := hQ0.down g1 (.inr (by omega))
    refine j3 _ hdn fun h1 => ?_
    obtain ⟨n1, n2⟩ := nxt hdn h1
    exact ⟨⟨⟨rfl, rfl, rfl, rfl, rfl, rfl, rfl⟩, n1⟩, n2⟩
   ·have ht : ¬ (4294967296 * r + L % 4294967296 < q * b) := of_decide_eq_false ht
    rw [hQ0.exit g1 g2 (by omega)]
    exact j4
 have hd := Int.emod_add_mul_ediv U a
 have hd1 := Int.emod_nonneg U (by omega : a ≠ 0)
 have hd2 := Int.emod_lt_of_pos U (by omega : 0 < a)
 have hd3 : 0 ≤ U / a := Int.ediv_nonneg (by omega) (by omega)
 rw [Int.mul_comm] at hd
 have hd5 : 0 ≤ U / a * a := Int.mul_nonneg hd3 (by omega)
 have hd4 := aux hQ1 (by omega) (q := U / a) (r := U % a) (by omega) (init hQ1) hd1
 rw [tdiv_nn _ _ (by omega), wu (U / a) (by omega) (by omega), wu (U / a * a) (by omega) (by omega), show U - U / a * a = U % a by omega, wu (U % a) (by omega) (by omega)]
 refine ⟨⟨by omega, h2.2⟩, by omega, by omega, by omega, by omega, by omega, ?_⟩
 refine k1e0 (fun q r => q * a + r = U ∧ Q1 ≤ q ∧ 0 ≤ r ∧ r < 4294967296) (fun q r => q.toNat) ⟨by omega, init hQ1, hd1, by omega⟩ ?_
 rintro q r ⟨g1, g2, g3, g4⟩
 have g5 := aux hQ1 (by omega) g1 g2 g3
 have j1 : ∀ nx, (Q1 ≤ q - 1) → (r + a < 4294967296 → nx ((p2 * P : Int), (s : Int), a, b, U, (L / 4294967296 : Int), (L % 4294967296 : Int), (q - 1 : Int), (r + a : Int), ())) → k92 (((p0 * 18446744073709551616 + p1) / p2 : Int), ((p0 * 18446744073709551616 + p1) % p2 : Int), ()) nx ((p2 * P : Int), (s : Int), a, b, U, (L / 4294967296 : Int), (L % 4294967296 : Int), q, r, ()) := by
  intro nx hq hnx
  refine k18z ?_
  rw [wu (q - 1) (by omega) (by omega), wu (r + a) (by omega) (by omega)]
  refine ⟨fun hd => ?_, fun hd => hnx (by simpa using hd)⟩
  have hd : 4294967296 ≤ r + a := of_decide_eq_true hd
  rw [hQ1.done (q := q - 1) (r := r + a) (by grind) hq hd]
  exact j2
 have nxt : Q1 ≤ q - 1 → r + a < 4294967296 → ((q - 1) * a + (r + a) = U ∧ Q1 ≤ q - 1 ∧ 0 ≤ r + a ∧ r + a < 4294967296) ∧ (q - 1).toNat < q.toNat := fun h1 h2 => ⟨⟨by grind, h1, by omega, h2⟩, by omega⟩
 refine ⟨fun hd => j1 _ (hQ1.down g1 (.inl (of_decide_eq_true hd))) fun h1 => ?_, fun hd => ?_⟩
 ·obtain ⟨n1, n2⟩ := nxt (hQ1.down g1 (.inl (of_decide_eq_true hd))) h1
  exact ⟨⟨⟨rfl, rfl, rfl, rfl, rfl, rfl, rfl⟩, n1⟩, n2⟩
 ·have hd : q < 4294967296 := by simpa using hd
  have hqb : 0 ≤ q * b ∧ q * b < 18446744073709551616 := by
   have := hQ1.hb
   have h1 : q * b ≤ 4294967295 * 4294967295 := Int.mul_le_mul (by omega) (by omega) (by omega) (by omega)
   exact ⟨Int.mul_nonneg (by omega) (by omega), by omega⟩
  have := hQ1.hx
  rw [wu (q * b) (by omega) (by omega), wu (4294967296 * r) (by omega) (by omega), wu (4294967296 * r + L / 4294967296) (by omega) (by omega)]
  refine ⟨fun ht => ?_, fun ht => ?_⟩
  ·have ht : 4294967296 * r + L / 4294967296 < q * b := of_decide_eq_true ht
   have hdn := hQ1.down g1 (.inr (by omega))
   refine j1 _ hdn fun h1 => ?_
   obtain ⟨n1, n2⟩ := nxt hdn h1
   exact ⟨⟨⟨rfl, rfl, rfl, rfl, rfl, rfl, rfl⟩, n1⟩, n2⟩
  ·have ht : ¬ (4294967296 * r + L / 4294967296 < q * b) := of_decide_eq_false ht
   rw [hQ1.exit g1 g2 (by omega)]
   exact j2
def klz : Con TB.den := k21.fnR (fun x => (fun (p0 : Int) (p1 : Int) (p2 : Int) => U64 p0 ∧ U64 p1 ∧ U64 p2 ∧ p0 < p2) x.1 x.2.1 x.2.2.1) fun x => ((fun (p0 : Int) (p1 : Int) (p2 : Int) => (((p0 * 18446744073709551616 + p1) / p2) : Int)) x.1 x.2.1 x.2.2.1, (fun (p0 : Int) (p1 : Int) (p2 : Int) => (((p0 * 18446744073709551616 + p1) % p2) : Int)) x.1 x.2.1 x.2.2.1, ())
theorem kyw : klz.Ok Try.prog TB := Con.ok_fn k21 bd125 fun x h => k1f7 (k1b9 x.1 x.2.1 x.2.2.1 h)
def k47 : Con TB.den := Con.mk0 124 [.one (.d (.int .u64)), .one (.d (.int .u64))] [] (.tup [.one (.d (.int .u64)), .one (.d (.int .u64))]) []
abbrev k15a := HL TB.den (hsT k47.ins (hsOs k47.pre))
abbrev kl3 := HL TB.den (hsV k47.res (hsOs k47.post))
def ke6 : Cx TB := ⟨inf, [], [], 4, []⟩
def kkf : Code := Try.f124.body.getD .skip
def kpa : List ResultVar := Try.f124.results.toList
def kz5 (o : kl3) : An TB := .no
def kk0 (x : k15a) (o : kl3) : Prop := WPh TB ke6 51 0 kkf (kz5 o) (k47.st TB x) (retTQ TB ke6 k47 kpa o)
theorem k1en (o : kl3) : OblH TB ke6 51 0 kkf (kz5 o) (retTQ TB ke6 k47 kpa o) :=
 OblH.ofC (X := True) (by kernel_rfl) trivial
theorem k1er {x : k15a} {o : kl3} (h : kk0 x o) : k47.Snd Try.prog x o :=
 Con.soundH (c := k47) (C := ke6) TBok ⟨inf_ok, all_nil, all_nil⟩ mix Try.func124 (show Try.f124.body = some kkf by kernel_rfl) (show Try.f124.ntmps = 51 by kernel_rfl) (show Try.f124.results.toList = kpa by kernel_rfl) rfl h (k1en o)
theorem k1hj {p0 : Int} {p1 : Int} {r0 : Int} {r1 : Int} (h :
(let v2 : Int := IntKind.u64.wrap ((iand .u64 p0 4294967295) * (iand .u64 p1 4294967295))
 let v3 : Int := IntKind.u64.wrap ((ishr .u64 p0 32) * (iand .u64 p1 4294967295))
 let v4 : Int := IntKind.u64.wrap (v3 + (ishr .u64 v2 32))
 let v5 : Int := IntKind.u64.wrap ((iand .u64 p0 4294967295) * (ishr .u64 p1 32))
 let v6 : Int := IntKind.u64.wrap ((iand .u64 v4 4294967295) + v5)
 let v7 : Int := IntKind.u64.wrap ((ishr .u64 p0 32) * (ishr .u64 p1 32))
 let v8 : Int := IntKind.u64.wrap (v7 + (ishr .u64 v4 32))
 let v9 : Int := IntKind.u64.wrap (v8 + (ishr .u64 v6 32))
 v9 = r0 ∧ IntKind.u64.wrap (p0 * p1) = r1)) : kk0 (p0, p1, ()) (r0, r1, ()) := WPh.of_eq (by kernel_rfl) h
theorem bd124 : Callable Try.prog 124 := ⟨by rw [Try.func124]; kernel_rfl, by rw [Try.func124]; show some _ ≠ some _; decide⟩
theorem k1an (p0 : Int) (p1 : Int) (h : U64 p0 ∧ U64 p1) : kk0 (p0, p1, ()) (((p0 * p1 / 18446744073709551616) : Int), ((p0 * p1 % 18446744073709551616) : Int), ()) := by
 obtain ⟨h0, h1⟩ := h
 have k := k1qc p0 p1 h0 h1
 refine k1hj ?_
 simp only [khx p0 h0, khx p1 h1, ishr32]
 obtain ⟨e, k1, k2, k3, k4, k5, k6, k7, k8⟩ := k
 rw [← e]
 rw [wu (p0 % 4294967296 * (p1 % 4294967296)) (by omega) (by omega), wu (p0 / 4294967296 * (p1 % 4294967296)) (by omega) (by omega), wu (p0 % 4294967296 * (p1 / 4294967296)) (by omega) (by omega), wu (p0 / 4294967296 * (p1 / 4294967296)) (by omega) (by omega)]
 generalize p0 % 4294967296 * (p1 % 4294967296) = a at *
 generalize p0 / 4294967296 * (p1 % 4294967296) = b at *
 generalize p0 % 4294967296 * (p1 / 4294967296) = c at *
 generalize p0 / 4294967296 * (p1 / 4294967296) = d at *
 rw [wu (b + a / 4294967296) (by omega) (by omega), khx _ (by omega)]
 simp only [u64w]
 refine ⟨?_, trivial⟩
 omega
def kmq : Con TB.den := k47.fnR (fun x => (fun (p0 : Int) (p1 : Int) => U64 p0 ∧ U64 p1) x.1 x.2.1) fun x => ((fun (p0 : Int) (p1 : Int) => ((p0 * p1 / 18446744073709551616) : Int)) x.1 x.2.1, (fun (p0 : Int) (p1 : Int) => ((p0 * p1 % 18446744073709551616) : Int)) x.1 x.2.1, ())
theorem k10a : kmq.Ok Try.prog TB := Con.ok_fn k47 bd124 fun x h => k1er (k1an x.1 x.2.1 h)
def k74 : Con TB.den := Con.mk0 115 [.one (.d (.int .u64)), .one (.d (.int .u64)), .one (.d (.int .u64))] [] (.one (.one (.d (.int .u64)))) []
abbrev k1ff := HL TB.den (hsT k74.ins (hsOs k74.pre))
abbrev ktl := HL TB.den (hsV k74.res (hsOs k74.post))
def kkv : Cx TB := ⟨inf, [k8s, kmq, klz], [], 4, []⟩
def krs : Code := Try.f115.body.getD .skip
def kxf : List ResultVar := Try.f115.results.toList
def k1bo (o : ktl) : An TB := .no
def krr (x : k1ff) (o : ktl) : Prop := WPh TB kkv 32 0 krs (k1bo o) (k74.st TB x) (retTQ TB kkv k74 kxf o)
theorem k1mv (o : ktl) : OblH TB kkv 32 0 krs (k1bo o) (retTQ TB kkv k74 kxf o) :=
 OblH.ofC (X := True) (by kernel_rfl) trivial
theorem k1m8 {x : k1ff} {o : ktl} (h : krr x o) : k74.Snd Try.prog x o :=
 Con.soundH (c := k74) (C := kkv) TBok ⟨inf_ok, (all_cons kcp (all_cons k10a (all_cons kyw all_nil))), all_nil⟩ mix Try.func115 (show Try.f115.body = some krs by kernel_rfl) (show Try.f115.ntmps = 32 by kernel_rfl) (show Try.f115.results.toList = kxf by kernel_rfl) rfl h (k1mv o)
theorem k1nz {p0 : Int} {p1 : Int} {p2 : Int} {r0 : Int} (h :
((p0 = 18446744069414584321) ∧ ((!true) = true →
 0 = r0) ∧
((!true) = false →
(p0 ≠ 0) ∧ (p0 ≠ 0) ∧ (U64 (Int.tmod p1 p0) ∧ U64 (Int.tmod p2 p0)) ∧ let r1 : Int := ((Int.tmod p1 p0) * (Int.tmod p2 p0) / 18446744073709551616)
 let r2 : Int := ((Int.tmod p1 p0) * (Int.tmod p2 p0) % 18446744073709551616)
(U64 r1 ∧ U64 r2 ∧ U64 p0 ∧ r1 < p0) ∧ ((r1 * 18446744073709551616 + r2) % p0) = r0))) : krr (p0, p1, p2, ()) (r0, ()) := WPh.of_eq (by kernel_rfl) h
theorem bd115 : Callable Try.prog 115 := ⟨by rw [Try.func115]; kernel_rfl, by rw [Try.func115]; show some _ ≠ some _; decide⟩
theorem k1jv (p0 : Int) (p1 : Int) (p2 : Int) (h : p0 = 18446744069414584321 ∧ U64 p1 ∧ U64 p2) : krr (p0, p1, p2, ()) (((p1 * p2 % 18446744069414584321) : Int), ()) := by
 obtain ⟨rfl, h1, h2⟩ := h
 refine k1nz ⟨rfl, fun h => by simp at h, fun _ => ?_⟩
 rw [tmod_nn _ _ h1.1, tmod_nn _ _ h2.1, Int.mul_emod p1 p2]
 have a1 : 0 ≤ p1 % 18446744069414584321 ∧ p1 % 18446744069414584321 < 18446744069414584321 := by omega
 have a2 : 0 ≤ p2 % 18446744069414584321 ∧ p2 % 18446744069414584321 < 18446744069414584321 := by omega
 generalize p1 % 18446744069414584321 = a at *
 generalize p2 % 18446744069414584321 = b at *
 have h3 : 0 ≤ a * b := Int.mul_nonneg a1.1 a2.1
 have h4 : a * b ≤ 18446744069414584320 * 18446744069414584320 := Int.mul_le_mul (by omega) (by omega) a2.1 (by omega)
 generalize a * b = m at *
 refine ⟨by omega, by omega, ⟨⟨by omega, by omega⟩, ⟨by omega, by omega⟩⟩, ⟨⟨by omega, by omega⟩, ⟨by omega, by omega⟩, ⟨by omega, by omega⟩, by omega⟩, ?_⟩
 rw [show m / 18446744073709551616 * 18446744073709551616 + m % 18446744073709551616 = m by omega]
def ku6 : Con TB.den := k74.fnR (fun x => (fun (p0 : Int) (p1 : Int) (p2 : Int) => p0 = 18446744069414584321 ∧ U64 p1 ∧ U64 p2) x.1 x.2.1 x.2.2.1) fun x => ((fun (p0 : Int) (p1 : Int) (p2 : Int) => ((p1 * p2 % 18446744069414584321) : Int)) x.1 x.2.1 x.2.2.1, ())
theorem k1al : ku6.Ok Try.prog TB := Con.ok_fn k74 bd115 fun x h => k1m8 (k1jv x.1 x.2.1 x.2.2.1 h)
def k31 : Con TB.den := Con.mk0 128 [.one (.d (.int .u64))] [] (.one (.one (.d (.int .u64)))) []
abbrev kwf := HL TB.den (hsT k31.ins (hsOs k31.pre))
abbrev kgr := HL TB.den (hsV k31.res (hsOs k31.post))
def kay : Cx TB := ⟨inf, [kuq], [], 4, []⟩
def khd : Code := Try.f128.body.getD .skip
def kkh : List ResultVar := Try.f128.results.toList
def kto (o : kgr) : An TB := .no
def kh6 (x : kwf) (o : kgr) : Prop := WPh TB kay 6 0 khd (kto o) (k31.st TB x) (retTQ TB kay k31 kkh o)
theorem k19a (o : kgr) : OblH TB kay 6 0 khd (kto o) (retTQ TB kay k31 kkh o) :=
 OblH.ofC (X := True) (by kernel_rfl) trivial
theorem k19m {x : kwf} {o : kgr} (h : kh6 x o) : k31.Snd Try.prog x o :=
 Con.soundH (c := k31) (C := kay) TBok ⟨inf_ok, (all_cons k1b0 all_nil), all_nil⟩ mix Try.func128 (show Try.f128.body = some khd by kernel_rfl) (show Try.f128.ntmps = 6 by kernel_rfl) (show Try.f128.results.toList = kkh by kernel_rfl) rfl h (k19a o)
theorem k1ba {p0 : Int} {r0 : Int} (h :
((p0 = 18446744069414584321) ∧ 7 = r0)) : kh6 (p0, ()) (r0, ()) := WPh.of_eq (by kernel_rfl) h
theorem bd128 : Callable Try.prog 128 := ⟨by rw [Try.func128]; kernel_rfl, by rw [Try.func128]; show some _ ≠ some _; decide⟩
theorem k15n (p0 : Int) (h : p0 = 18446744069414584321) : kh6 (p0, ()) ((7 : Int), ()) := by
 exact k1ba ⟨h, rfl⟩
def ks6 : Con TB.den := k31.fnR (fun x => (fun (p0 : Int) => p0 = 18446744069414584321) x.1) fun x => ((fun (p0 : Int) => (7 : Int)) x.1, ())
theorem k1af : ks6.Ok Try.prog TB := Con.ok_fn k31 bd128 fun x h => k19m (k15n x.1 h)
def k6f : Con TB.den := Con.mk0 126 [.one (.d (.int .u64)), .one (.d (.int .u64)), .one (.d (.int .u64))] [] (.one (.one (.d (.int .u64)))) []
abbrev k1ft := HL TB.den (hsT k6f.ins (hsOs k6f.pre))
abbrev k7e := HL TB.den (hsV k6f.res (hsOs k6f.post))
def k9i : Cx TB := ⟨inf, [k8s, ku6], [], 4, []⟩
def kca : Code := Try.f126.body.getD .skip
def kql : List ResultVar := Try.f126.results.toList
def k1bm (o : k7e) := qS TB k9i 30 0 (cB (cB (cB (cB (cB kca))))) .no (retTQ TB k9i k6f kql o)
def k5q : Tm := ⟨[], [], [0, 1, 2, 7], [.one (.d (.int .u64)), .one (.d (.int .u64)), .one (.d (.int .u64)), .one (.d (.int .u64))], 0⟩
def k1nv (o : k7e) (nx1 : NX TB k5q) := blockT TB 1 (qM TB 0 k5q nx1 (blockT TB 0 (k1bm o)))
def kng : Tm := ⟨[], [], [0, 1, 2, 7], [.one (.d (.int .u64)), .one (.d (.int .u64)), .one (.d (.int .u64)), .one (.d (.int .u64))], 0⟩
def k16y (o : k7e) (nx1 : NX TB k5q) (i : HL TB.den kng.hs) : Prop := ghs TB [] (kng.fill TB i) fun s => WP TB k9i 30 0 (cB (cA (cB (cA (cA (cA (cB (cB (cB (cB kca)))))))))) .no s (k1nv o nx1)
structure kgs (o : k7e) (nx1 : NX TB k5q) (i : HL TB.den kng.hs) : Prop where
 h : k16y o nx1 i
def k1bq (o : k7e) (nx1 : NX TB k5q) : An TB := .nd [] .no [] (.jn kng (kgs o nx1) [] .no [] .no)
def klb (o : k7e) (nx1 : NX TB k5q) (i : HL TB.den k5q.hs) : Prop := WP TB k9i 30 0 (cA (cA (cA (cB (cB (cB (cB kca))))))) (k1bq o nx1) (k5q.fill TB i) (qM TB 0 k5q nx1 (blockT TB 0 (k1bm o)))
def k1nn (o : k7e) : An TB := .lp [] k5q (klb o) fun nx1 => (k1bq o nx1)
def k1nd (o : k7e) : An TB := .nd [] .no [] (.nd [] .no [] (.nd [] .no [] (.nd [] (k1nn o) [] .no)))
def k1bk (o : k7e) : An TB := .nd [] .no [] (k1nd o)
def krm (x : k1ft) (o : k7e) : Prop := WPh TB k9i 30 0 kca (k1bk o) (k6f.st TB x) (retTQ TB k9i k6f kql o)
theorem k1mx (o : k7e) : OblH TB k9i 30 0 kca (k1bk o) (retTQ TB k9i k6f kql o) :=
 OblH.ofC (X := ((∀ nx i, (klb o) nx i = (klb o) nx i) ∧ (∀ nx1 : NX TB k5q, ((∀ i, (kgs o nx1) i = k16y o nx1 i) ∧ True)) ∧ True)) (by kernel_rfl) ⟨fun _ _ => rfl, fun _ => ⟨fun _ => propext ⟨fun h => h.1, fun h => ⟨h⟩⟩, trivial⟩, trivial⟩
theorem k1mh {x : k1ft} {o : k7e} (h : krm x o) : k6f.Snd Try.prog x o :=
 Con.soundH (c := k6f) (C := k9i) TBok ⟨inf_ok, (all_cons kcp (all_cons k1al all_nil)), all_nil⟩ mix Try.func126 (show Try.f126.body = some kca by kernel_rfl) (show Try.f126.ntmps = 30 by kernel_rfl) (show Try.f126.results.toList = kql by kernel_rfl) rfl h (k1mx o)
theorem k1nq {p0 : Int} {p1 : Int} {p2 : Int} {r0 : Int} (h :
((p0 = 18446744069414584321) ∧ ((!true) = true →
 0 = r0) ∧
((!true) = false →
(p0 ≠ 0) ∧ Md.Loop (p0, (Int.tmod p1 p0 : Int), p2, (1 : Int), ()) (klb (r0, ()))))) : krm (p0, p1, p2, ()) (r0, ()) := WPh.of_eq (by kernel_rfl) h
theorem k1gs {r0 : Int} {nx1 : NX TB k5q} {s0 : Int} {s1 : Int} {s2 : Int} {s7 : Int} (h :
((s0 = 18446744069414584321 ∧ U64 s1 ∧ U64 s1) ∧ nx1 (s0, ((s1 * s1 % 18446744069414584321) : Int), (IntKind.u64.wrap (Int.tdiv s2 2) : Int), s7, ()))) : kgs (r0, ()) nx1 (s0, s1, s2, s7, ()) := ⟨mpr_of (by kernel_rfl) h⟩
def k1ar (r0 : Int) (nx1 : NX TB k5q) (k1 : Int → Int → Int → Prop) (s0 : Int) (s1 : Int) (s2 : Int) (s7 : Int) : Prop :=
(decide (0 < s2) = true →
(((Int.tmod s2 2) == 1) = true →
(s0 = 18446744069414584321 ∧ U64 s7 ∧ U64 s1) ∧ kgs (r0, ()) nx1 (s0, s1, s2, ((s7 * s1 % 18446744069414584321) : Int), ())) ∧
(((Int.tmod s2 2) == 1) = false →
 kgs (r0, ()) nx1 (s0, s1, s2, s7, ()))) ∧
(decide (0 < s2) = false →
 s7 = r0)
theorem k1mq {r0 : Int} {s0 : Int} {s1 : Int} {s2 : Int} {s7 : Int} (inv : Int → Int → Int → Prop) (μ : Int → Int → Int → Nat) (h0 : inv s1 s2 s7) (hs : ∀ (s1 : Int) (s2 : Int) (s7 : Int), inv s1 s2 s7 → k1ar r0 (fun s : Int × Int × Int × Int × Unit => ((s.1 = s0) ∧ inv s.2.1 s.2.2.1 s.2.2.2.1) ∧ μ s.2.1 s.2.2.1 s.2.2.2.1 < μ s1 s2 s7) (fun s1q s2q s7q => inv s1q s2q s7q ∧ μ s1q s2q s7q < μ s1 s2 s7) s0 s1 s2 s7) : Md.Loop (s0, s1, s2, s7, ()) (klb (r0, ())) :=
 ⟨⟨fun s : Int × Int × Int × Int × Unit => (s.1 = s0) ∧ inv s.2.1 s.2.2.1 s.2.2.2.1, fun s : Int × Int × Int × Int × Unit => μ s.2.1 s.2.2.1 s.2.2.2.1, ⟨rfl, h0⟩, fun (s0p, s1p, s2p, s7p, ()) ⟨eq0, hi⟩ => by
  have eq0 : s0p = s0 := eq0; subst s0p; exact mpr_of (by kernel_rfl) ((congrArg (fun k => k1ar r0 (fun s : Int × Int × Int × Int × Unit => ((s.1 = s0) ∧ inv s.2.1 s.2.2.1 s.2.2.2.1) ∧ μ s.2.1 s.2.2.1 s.2.2.2.1 < μ s1p s2p s7p) k s0 s1p s2p s7p) (lpk3 (rfl : s0 = s0) inv (fun s1q s2q s7q => μ s1q s2q s7q < μ s1p s2p s7p))).mpr (hs s1p s2p s7p hi))⟩⟩
theorem bd126 : Callable Try.prog 126 := ⟨by rw [Try.func126]; kernel_rfl, by rw [Try.func126]; show some _ ≠ some _; decide⟩
theorem k1l1 (p0 : Int) (p1 : Int) (p2 : Int) (h : p0 = 18446744069414584321 ∧ U64 p1 ∧ U64 p2) : krm (p0, p1, p2, ()) (((pw p1 p2) : Int), ()) := by
 obtain ⟨rfl, h1, h2⟩ := h
 refine k1nq ⟨rfl, fun h => by simp at h, fun _ => ⟨by omega, ?_⟩⟩
 rw [tmod_nn _ _ h1.1]
 refine k1mq (fun a e r => (0 ≤ a ∧ a < 18446744069414584321) ∧ U64 e ∧ (0 ≤ r ∧ r < 18446744069414584321) ∧ (r * a ^ e.toNat) % 18446744069414584321 = pw p1 p2) (fun a e r => e.toNat) ⟨by omega, h2, by omega, by rw [Int.one_mul, ky9]; rfl⟩ ?_
 rintro a e r ⟨ha, he, hr, hv⟩
 have hpow : ∀ k : Nat, a ^ (2 * k) = (a * a) ^ k := fun k => by rw [Int.pow_mul]; congr 1; rw [Int.pow_succ, Int.pow_succ, Int.pow_zero, Int.one_mul]
 have jj : ∀ nx r', (0 ≤ r' ∧ r' < 18446744069414584321) → 0 < e → (r' * (a * a) ^ (e / 2).toNat) % 18446744069414584321 = pw p1 p2 → (∀ a', (0 ≤ a' ∧ a' < 18446744069414584321) → r' * a' ^ (e / 2).toNat % 18446744069414584321 = pw p1 p2 → nx ((18446744069414584321 : Int), a', (e / 2 : Int), r', ())) → kgs ((pw p1 p2 : Int), ()) nx ((18446744069414584321 : Int), a, e, r', ()) := by
  intro nx r' hr' he' hv' hn
  refine k1gs ⟨⟨rfl, by omega, by omega⟩, ?_⟩
  rw [tdiv_nn _ _ he.1, wu (e / 2) (by omega) (by omega)]
  refine hn _ ⟨Int.emod_nonneg _ (by omega), Int.emod_lt_of_pos _ (by omega)⟩ ?_
  rw [← hv', Int.mul_emod, Int.mul_emod r' ((a * a) ^ _), ky9]
 refine ⟨fun h => ?_, fun h => ?_⟩
 ·have h := of_decide_eq_true h
  rw [tmod_nn _ _ he.1]
  have nxt : ∀ a' r', (0 ≤ a' ∧ a' < 18446744069414584321) → (0 ≤ r' ∧ r' < 18446744069414584321) → r' * a' ^ (e / 2).toNat % 18446744069414584321 = pw p1 p2 → ((0 ≤ a' ∧ a' < 18446744069414584321) ∧ U64 (e / 2) ∧ (0 ≤ r' ∧ r' < 18446744069414584321) ∧ r' * a' ^ (e / 2).toNat % 18446744069414584321 = pw p1 p2) ∧ (e / 2).toNat < e.toNat := fun a' r' h1 h2 h3 => ⟨⟨h1, ⟨by omega, by omega⟩, h2, h3⟩, by omega⟩
  refine ⟨fun h1 => ⟨⟨rfl, by omega, by omega⟩, ?_⟩, fun h1 => ?_⟩
  ·have h1 : e % 2 = 1 := by simpa using h1
   refine jj _ _ ⟨Int.emod_nonneg _ (by omega), Int.emod_lt_of_pos _ (by omega)⟩ h ?_ fun a' ha' hv' => ⟨⟨rfl, (nxt a' _ ha' ⟨Int.emod_nonneg _ (by omega), Int.emod_lt_of_pos _ (by omega)⟩ hv').1⟩, (nxt a' _ ha' ⟨Int.emod_nonneg _ (by omega), Int.emod_lt_of_pos _ (by omega)⟩ hv').2⟩
   rw [← hv, show e.toNat = 2 * (e / 2).toNat + 1 by omega, Int.pow_succ, hpow, Int.mul_emod, Int.emod_emod_of_dvd _ (Int.dvd_refl _), ← Int.mul_emod]
   congr 1
   grind
  ·have h1 : ¬ e % 2 = 1 := by simpa using h1
   refine jj _ _ hr h ?_ fun a' ha' hv' => ⟨⟨rfl, (nxt a' _ ha' hr hv').1⟩, (nxt a' _ ha' hr hv').2⟩
   rw [← hv, ← hpow, show e.toNat = 2 * (e / 2).toNat by omega]
 ·have h : ¬ 0 < e := of_decide_eq_false h
  rw [show e.toNat = 0 by omega, Int.pow_zero, Int.mul_one, Int.emod_eq_of_lt hr.1 hr.2] at hv
  exact hv
def k17d : Con TB.den := k6f.fnR (fun x => (fun (p0 : Int) (p1 : Int) (p2 : Int) => p0 = 18446744069414584321 ∧ U64 p1 ∧ U64 p2) x.1 x.2.1 x.2.2.1) fun x => ((fun (p0 : Int) (p1 : Int) (p2 : Int) => ((pw p1 p2) : Int)) x.1 x.2.1 x.2.2.1, ())
theorem k1n2 : k17d.Ok Try.prog TB := Con.ok_fn k6f bd126 fun x h => k1mh (k1l1 x.1 x.2.1 x.2.2.1 h)
def k2x : Con TB.den := Con.mk0 127 [.one (.d (.int .u64)), .one (.d (.int .i64)), .one (.d (.int .i64))] [] (.one (.one (.d (.int .u64)))) []
abbrev kvy := HL TB.den (hsT k2x.ins (hsOs k2x.pre))
abbrev kgg := HL TB.den (hsV k2x.res (hsOs k2x.post))
def kav : Cx TB := ⟨inf, [k8s], [], 4, []⟩
def kh7 : Code := Try.f127.body.getD .skip
def kl0 : List ResultVar := Try.f127.results.toList
def kta (o : kgg) : An TB := .no
def khe (x : kvy) (o : kgg) : Prop := WPh TB kav 35 0 kh7 (kta o) (k2x.st TB x) (retTQ TB kav k2x kl0 o)
theorem k18p (o : kgg) : OblH TB kav 35 0 kh7 (kta o) (retTQ TB kav k2x kl0 o) :=
 OblH.ofC (X := True) (by kernel_rfl) trivial
theorem k18o {x : kvy} {o : kgg} (h : khe x o) : k2x.Snd Try.prog x o :=
 Con.soundH (c := k2x) (C := kav) TBok ⟨inf_ok, (all_cons kcp all_nil), all_nil⟩ mix Try.func127 (show Try.f127.body = some kh7 by kernel_rfl) (show Try.f127.ntmps = 35 by kernel_rfl) (show Try.f127.results.toList = kl0 by kernel_rfl) rfl h (k18p o)
theorem k1au {p0 : Int} {p1 : Int} {p2 : Int} {r0 : Int} (h :
((p0 = 18446744069414584321) ∧ ((!true) = true →
 0 = r0) ∧
((!true) = false →
(decide (p1 < 0) = true →
 0 = r0) ∧
(decide (p1 < 0) = false →
(decide (7 < p1) = true →
 0 = r0) ∧
(decide (7 < p1) = false →
(decide (p2 < 0) = true →
 0 = r0) ∧
(decide (p2 < 0) = false →
(decide (2 < p2) = true →
 0 = r0) ∧
(decide (2 < p2) = false →
 let v1 : Int := IntKind.i64.wrap ((IntKind.i64.wrap (3 * p1)) + p2)
 let v2 : Int := IntKind.u64.wrap (IntKind.i64.wrap (v1 + 1))
 let v3 : Int := IntKind.u64.wrap (v2 * 11400714819323198485)
(p0 ≠ 0) ∧ Int.tmod v3 p0 = r0))))))) : khe (p0, p1, p2, ()) (r0, ()) := WPh.of_eq (by kernel_rfl) h
theorem bd127 : Callable Try.prog 127 := ⟨by rw [Try.func127]; kernel_rfl, by rw [Try.func127]; show some _ ≠ some _; decide⟩
theorem k163 (p0 : Int) (p1 : Int) (p2 : Int) (h : p0 = 18446744069414584321 ∧ (0 ≤ p1 ∧ p1 < 8) ∧ 0 ≤ p2 ∧ p2 < 3) : khe (p0, p1, p2, ()) (((rc p1 p2) : Int), ()) := by
 obtain ⟨rfl, h1, h2⟩ := h
 refine k1au ⟨rfl, fun h => by simp at h, fun _ => ⟨fun h => ?_, fun _ => ⟨fun h => ?_, fun _ => ⟨fun h => ?_, fun _ => ⟨fun h => ?_, fun _ => ?_⟩⟩⟩⟩⟩
 ·simp at h; omega
 ·simp at h; omega
 ·simp at h; omega
 ·simp at h; omega
 ·simp only []
  rw [wi (3 * p1) (by omega) (by omega), wi (3 * p1 + p2) (by omega) (by omega), wi (3 * p1 + p2 + 1) (by omega) (by omega), wu (3 * p1 + p2 + 1) (by omega) (by omega), u64w]
  exact ⟨by omega, by rw [tmod_nn _ _ (by omega)]; rfl⟩
def ksn : Con TB.den := k2x.fnR (fun x => (fun (p0 : Int) (p1 : Int) (p2 : Int) => p0 = 18446744069414584321 ∧ (0 ≤ p1 ∧ p1 < 8) ∧ 0 ≤ p2 ∧ p2 < 3) x.1 x.2.1 x.2.2.1) fun x => ((fun (p0 : Int) (p1 : Int) (p2 : Int) => ((rc p1 p2) : Int)) x.1 x.2.1 x.2.2.1, ())
theorem k1by : ksn.Ok Try.prog TB := Con.ok_fn k2x bd127 fun x h => k18o (k163 x.1 x.2.1 x.2.2.1 h)
def k6g : Con TB.den := Con.mk0 135 [.one (.d (.int .u64)), .one (.d (.sl (.int .u64)))] [] (.one (.one (.d (.int .u64)))) []
abbrev k1fn := HL TB.den (hsT k6g.ins (hsOs k6g.pre))
abbrev kgf := HL TB.den (hsV k6g.res (hsOs k6g.post))
def kau : Cx TB := ⟨inf, [khp], [], 4, []⟩
def kg9 : Code := Try.f135.body.getD .skip
def kqt : List ResultVar := Try.f135.results.toList
def k1n6 (o : kgf) := qS TB kau 21 0 (cB (cB (cB kg9))) .no (retTQ TB kau k6g kqt o)
def kgn : Tm := ⟨[], [], [0, 1, 5, 6], [.one (.d (.int .u64)), .one (.d (.sl (.int .u64))), .one (.d (.int .u64)), .one (.d (.int .i64))], 0⟩
def kkt (o : kgf) (nx1 : NX TB kgn) (i : HL TB.den kgn.hs) : Prop := WP TB kau 21 0 (cA (cA (cB (cA (cB (cB kg9)))))) .no (kgn.fill TB i) (qM TB 0 kgn nx1 (blockT TB 0 (k1n6 o)))
def k1n8 (o : kgf) : An TB := .nd [] .no [] (.lp [] kgn (kkt o) fun nx1 => .no)
def k1b3 (o : kgf) : An TB := .nd [] .no [] (.nd [] .no [] (.nd [] (k1n8 o) [] .no))
def krd (x : k1fn) (o : kgf) : Prop := WPh TB kau 21 0 kg9 (k1b3 o) (k6g.st TB x) (retTQ TB kau k6g kqt o)
theorem k1ma (o : kgf) : OblH TB kau 21 0 kg9 (k1b3 o) (retTQ TB kau k6g kqt o) :=
 OblH.ofC (X := ((∀ nx i, (kkt o) nx i = (kkt o) nx i) ∧ (∀ nx1 : NX TB kgn, True) ∧ True)) (by kernel_rfl) ⟨fun _ _ => rfl, fun _ => trivial, trivial⟩
theorem k1ls {x : k1fn} {o : kgf} (h : krd x o) : k6g.Snd Try.prog x o :=
 Con.soundH (c := k6g) (C := kau) TBok ⟨inf_ok, (all_cons kqs all_nil), all_nil⟩ mix Try.func135 (show Try.f135.body = some kg9 by kernel_rfl) (show Try.f135.ntmps = 21 by kernel_rfl) (show Try.f135.results.toList = kqt by kernel_rfl) rfl h (k1ma o)
theorem k1ni {p0 : Int} {p1 : List Int} {r0 : Int} (h :
(Md.Loop (p0, p1, (0 : Int), (0 : Int), ()) (kkt (r0, ())))) : krd (p0, p1, ()) (r0, ()) := WPh.of_eq (by kernel_rfl) h
def k1a7 (r0 : Int) (k1 : Int → Int → Prop) (s0 : Int) (s1 : List Int) (s5 : Int) (s6 : Int) : Prop :=
(decide (s6 < (s1.length : Int)) = true →
(0 ≤ s6) ∧ s6 < (s1.length : Int) ∧ (s0 = 18446744069414584321 ∧ U64 s5 ∧ U64 (ix s1 s6)) ∧ let r1 : Int := ((s5 + (ix s1 s6)) % 18446744069414584321)
 k1 r1 (IntKind.i64.wrap (s6 + 1) : Int)) ∧
(decide (s6 < (s1.length : Int)) = false →
 s5 = r0)
theorem k1lq {r0 : Int} {s0 : Int} {s1 : List Int} {s5 : Int} {s6 : Int} (inv : Int → Int → Prop) (μ : Int → Int → Nat) (h0 : inv s5 s6) (hs : ∀ (s5 : Int) (s6 : Int), inv s5 s6 → k1a7 r0 (fun s5q s6q => inv s5q s6q ∧ μ s5q s6q < μ s5 s6) s0 s1 s5 s6) : Md.Loop (s0, s1, s5, s6, ()) (kkt (r0, ())) :=
 ⟨⟨fun s : Int × (List Int) × Int × Int × Unit => (s.1 = s0 ∧ s.2.1 = s1) ∧ inv s.2.2.1 s.2.2.2.1, fun s : Int × (List Int) × Int × Int × Unit => μ s.2.2.1 s.2.2.2.1, ⟨⟨rfl, rfl⟩, h0⟩, fun (s0p, s1p, s5p, s6p, ()) ⟨⟨eq0, eq1⟩, hi⟩ => by
  have eq0 : s0p = s0 := eq0; subst s0p; have eq1 : s1p = s1 := eq1; subst s1p; exact mpr_of (by kernel_rfl) ((congrArg (fun k => k1a7 r0 k s0 s1 s5p s6p) (lpk2 (⟨rfl, rfl⟩ : s0 = s0 ∧ s1 = s1) inv (fun s5q s6q => μ s5q s6q < μ s5p s6p))).mpr (hs s5p s6p hi))⟩⟩
theorem bd135 : Callable Try.prog 135 := ⟨by rw [Try.func135]; kernel_rfl, by rw [Try.func135]; show some _ ≠ some _; decide⟩
theorem k1kx (p0 : Int) (p1 : List Int) (h : p0 = 18446744069414584321 ∧ Us p1 ∧ p1.length ≤ 9223372036854775807) : krd (p0, p1, ()) (((p1.foldl (fun s x => (s + x) % 18446744069414584321) 0) : Int), ()) := by
 obtain ⟨rfl, h1, h2⟩ := h
 refine k1ni (k1lq (fun s i => FoldI (fun s x => (s + x) % 18446744069414584321) 0 p1 i s ∧ U64 s) (fun s i => (p1.length - i).toNat) ⟨FoldI.start, by omega⟩ ?_)
 rintro s i ⟨hi, hs⟩
 refine ⟨fun hh => ?_, fun hh => hi.done (of_decide_eq_false hh)⟩
 have hh := of_decide_eq_true hh
 have hx := h1 _ (ix_mem p1 i hi.1 hh)
 have nx := hi.next hh (by omega) rfl
 exact ⟨hi.1, hh, ⟨rfl, hs, hx⟩, ⟨nx.1, by omega⟩, nx.2⟩
def k17j : Con TB.den := k6g.fnR (fun x => (fun (p0 : Int) (p1 : List Int) => p0 = 18446744069414584321 ∧ Us p1 ∧ p1.length ≤ 9223372036854775807) x.1 x.2.1) fun x => ((fun (p0 : Int) (p1 : List Int) => ((p1.foldl (fun s x => (s + x) % 18446744069414584321) 0) : Int)) x.1 x.2.1, ())
theorem k1na : k17j.Ok Try.prog TB := Con.ok_fn k6g bd135 fun x h => k1ls (k1kx x.1 x.2.1 h)
def k6h : Con TB.den := Con.mk0 129 [.one (.d (.int .u64)), .agg [.d (.int .u64), .d (.int .u64), .d (.int .u64)]] [] (.one (.agg [.d (.int .u64), .d (.int .u64), .d (.int .u64)])) []
abbrev k1fc := HL TB.den (hsT k6h.ins (hsOs k6h.pre))
abbrev kfs := HL TB.den (hsV k6h.res (hsOs k6h.post))
def kb7 : Cx TB := ⟨inf, [k17j, khp], [], 4, []⟩
def kfe : Code := Try.f129.body.getD .skip
def kqo : List ResultVar := Try.f129.results.toList
def k1nu (o : kfs) := qS TB kb7 30 0 (cB (cB (cB (cB kfe)))) .no (retTQ TB kb7 k6h kqo o)
def kgo : Tm := ⟨[0, 1, 3], [.cells [.d (.int .u64), .d (.int .u64), .d (.int .u64)], .cells [.d (.int .u64), .d (.int .u64), .d (.int .u64)], .cells [.d (.int .u64), .d (.int .u64), .d (.int .u64)]], [0, 3, 4, 5, 6, 7], [.one (.d (.int .u64)), .one (.ptr 0 0), .one (.ptr 1 0), .one (.d (.int .u64)), .one (.ptr 2 0), .one (.d (.int .i64))], 4⟩
def kkr (o : kfs) (nx1 : NX TB kgo) (i : HL TB.den kgo.hs) : Prop := WP TB kb7 30 0 (cA (cA (cB (cA (cB (cB (cB kfe))))))) .no (kgo.fill TB i) (qM TB 0 kgo nx1 (blockT TB 0 (k1nu o)))
def k1nc (o : kfs) : An TB := .nd [] .no [] (.lp [] kgo (kkr o) fun nx1 => .no)
def k1cd (o : kfs) : An TB := .nd [] .no [] (.nd [] .no [] (.nd [] .no [] (.nd [] (k1nc o) [] .no)))
def ksg (x : k1fc) (o : kfs) : Prop := WPh TB kb7 30 0 kfe (k1cd o) (k6h.st TB x) (retTQ TB kb7 k6h kqo o)
theorem k1mk (o : kfs) : OblH TB kb7 30 0 kfe (k1cd o) (retTQ TB kb7 k6h kqo o) :=
 OblH.ofC (X := ((∀ nx i, (kkr o) nx i = (kkr o) nx i) ∧ (∀ nx1 : NX TB kgo, True) ∧ True)) (by kernel_rfl) ⟨fun _ _ => rfl, fun _ => trivial, trivial⟩
theorem k1mf {x : k1fc} {o : kfs} (h : ksg x o) : k6h.Snd Try.prog x o :=
 Con.soundH (c := k6h) (C := kb7) TBok ⟨inf_ok, (all_cons k1na (all_cons kqs all_nil)), all_nil⟩ mix Try.func129 (show Try.f129.body = some kfe by kernel_rfl) (show Try.f129.ntmps = 30 by kernel_rfl) (show Try.f129.results.toList = kqo by kernel_rfl) rfl h (k1mk o)
theorem k1n3 {p0 : Int} {p1 : TA3} {r0 : TA3} (h :
((p0 = 18446744069414584321 ∧ Us [p1.a0, p1.a1, p1.a2] ∧ [p1.a0, p1.a1, p1.a2].length ≤ 9223372036854775807) ∧ let r1 : Int := ([p1.a0, p1.a1, p1.a2].foldl (fun s x => (s + x) % 18446744069414584321) 0)
 Md.Loop (p0, r1, (0 : Int), p1.a0, p1.a1, p1.a2, (0 : Int), (0 : Int), (0 : Int), (0 : Int), (0 : Int), (0 : Int), ()) (kkr (r0.a0, r0.a1, r0.a2, ())))) : ksg (p0, p1.a0, p1.a1, p1.a2, ()) (r0.a0, r0.a1, r0.a2, ()) := WPh.of_eq (by kernel_rfl) h
def k1c8 (r0 : TA3) (k1 : Int → Int → Int → Int → Prop) (s0 : Int) (s5 : Int) (h0_0 : Int) (h0_1 : Int) (h0_2 : Int) (h1_0 : Int) (h1_1 : Int) (h1_2 : Int) (s7 : Int) (h3_0 : Int) (h3_1 : Int) (h3_2 : Int) : Prop :=
(decide (s7 < 3) = true →
(0 ≤ s7 ∧ s7 < (3 : Int)) ∧ (0 ≤ s7 ∧ s7 < (3 : Int)) ∧ (s0 = 18446744069414584321 ∧ U64 (ix [h0_0, h0_1, h0_2] s7) ∧ U64 s5) ∧ let r2 : Int := (((ix [h0_0, h0_1, h0_2] s7) + s5) % 18446744069414584321)
(0 ≤ s7 ∧ s7 < (3 : Int)) ∧ (0 ≤ s7 ∧ s7 < (3 : Int)) ∧ k1 (IntKind.i64.wrap (s7 + 1) : Int) ((bif decide (s7 = (0 : Int)) then r2 else h3_0) : Int) ((bif decide (s7 = (1 : Int)) then r2 else h3_1) : Int) ((bif decide (s7 = (2 : Int)) then r2 else h3_2) : Int)) ∧
(decide (s7 < 3) = false →
 h3_0 = r0.a0 ∧ h3_1 = r0.a1 ∧ h3_2 = r0.a2)
theorem k1mj {r0 : TA3} {s0 : Int} {s5 : Int} {h0_0 : Int} {h0_1 : Int} {h0_2 : Int} {h1_0 : Int} {h1_1 : Int} {h1_2 : Int} {s7 : Int} {h3_0 : Int} {h3_1 : Int} {h3_2 : Int} (inv : Int → Int → Int → Int → Prop) (μ : Int → Int → Int → Int → Nat) (h0 : inv s7 h3_0 h3_1 h3_2) (hs : ∀ (s7 : Int) (h3_0 : Int) (h3_1 : Int) (h3_2 : Int), inv s7 h3_0 h3_1 h3_2 → k1c8 r0 (fun s7q h3_0q h3_1q h3_2q => inv s7q h3_0q h3_1q h3_2q ∧ μ s7q h3_0q h3_1q h3_2q < μ s7 h3_0 h3_1 h3_2) s0 s5 h0_0 h0_1 h0_2 h1_0 h1_1 h1_2 s7 h3_0 h3_1 h3_2) : Md.Loop (s0, s5, s7, h0_0, h0_1, h0_2, h1_0, h1_1, h1_2, h3_0, h3_1, h3_2, ()) (kkr (r0.a0, r0.a1, r0.a2, ())) :=
 ⟨⟨fun s : Int × Int × Int × Int × Int × Int × Int × Int × Int × Int × Int × Int × Unit => (s.1 = s0 ∧ s.2.1 = s5 ∧ s.2.2.2.1 = h0_0 ∧ s.2.2.2.2.1 = h0_1 ∧ s.2.2.2.2.2.1 = h0_2 ∧ s.2.2.2.2.2.2.1 = h1_0 ∧ s.2.2.2.2.2.2.2.1 = h1_1 ∧ s.2.2.2.2.2.2.2.2.1 = h1_2) ∧ inv s.2.2.1 s.2.2.2.2.2.2.2.2.2.1 s.2.2.2.2.2.2.2.2.2.2.1 s.2.2.2.2.2.2.2.2.2.2.2.1, fun s : Int × Int × Int × Int × Int × Int × Int × Int × Int × Int × Int × Int × Unit => μ s.2.2.1 s.2.2.2.2.2.2.2.2.2.1 s.2.2.2.2.2.2.2.2.2.2.1 s.2.2.2.2.2.2.2.2.2.2.2.1, ⟨⟨rfl, rfl, rfl, rfl, rfl, rfl, rfl, rfl⟩, h0⟩, fun (s0p, s5p, s7p, h0_0p, h0_1p, h0_2p, h1_0p, h1_1p, h1_2p, h3_0p, h3_1p, h3_2p, ()) ⟨⟨eq0, eq1, eq2, eq3, eq4, eq5, eq6, eq7⟩, hi⟩ => by
  have eq0 : s0p = s0 := eq0; subst s0p; have eq1 : s5p = s5 := eq1; subst s5p; have eq2 : h0_0p = h0_0 := eq2; subst h0_0p; have eq3 : h0_1p = h0_1 := eq3; subst h0_1p; have eq4 : h0_2p = h0_2 := eq4; subst h0_2p; have eq5 : h1_0p = h1_0 := eq5; subst h1_0p; have eq6 : h1_1p = h1_1 := eq6; subst h1_1p; have eq7 : h1_2p = h1_2 := eq7; subst h1_2p; exact mpr_of (by kernel_rfl) ((congrArg (fun k => k1c8 r0 k s0 s5 h0_0 h0_1 h0_2 h1_0 h1_1 h1_2 s7p h3_0p h3_1p h3_2p) (lpk4 (⟨rfl, rfl, rfl, rfl, rfl, rfl, rfl, rfl⟩ : s0 = s0 ∧ s5 = s5 ∧ h0_0 = h0_0 ∧ h0_1 = h0_1 ∧ h0_2 = h0_2 ∧ h1_0 = h1_0 ∧ h1_1 = h1_1 ∧ h1_2 = h1_2) inv (fun s7q h3_0q h3_1q h3_2q => μ s7q h3_0q h3_1q h3_2q < μ s7p h3_0p h3_1p h3_2p))).mpr (hs s7p h3_0p h3_1p h3_2p hi))⟩⟩
theorem bd129 : Callable Try.prog 129 := ⟨by rw [Try.func129]; kernel_rfl, by rw [Try.func129]; show some _ ≠ some _; decide⟩
theorem k1iq (p0 : Int) (p1 : TA3) (h : p0 = 18446744069414584321 ∧ S3 p1) : ksg (p0, p1.a0, p1.a1, p1.a2, ()) (((mixS p1).a0 : Int), ((mixS p1).a1 : Int), ((mixS p1).a2 : Int), ()) := by
 obtain ⟨rfl, h0, h1, h2⟩ := h
 have e : [p1.a0, p1.a1, p1.a2].foldl (fun s x => (s + x) % 18446744069414584321) 0 = ((p1.a0 + p1.a1) % 18446744069414584321 + p1.a2) % 18446744069414584321 := by
  show (((0 + p1.a0) % 18446744069414584321 + p1.a1) % 18446744069414584321 + p1.a2) % 18446744069414584321 = _
  omega
 refine k1n3 (r0 := mixS p1) ⟨⟨rfl, ?_, by simp⟩, ?_⟩
 ·intro x hx
  simp only [List.mem_cons, List.not_mem_nil, or_false] at hx
  rcases hx with rfl | rfl | rfl
  ·exact h0
  ·exact h1
  ·exact h2
 rw [e]
 have hu : U64 (((p1.a0 + p1.a1) % 18446744069414584321 + p1.a2) % 18446744069414584321) := ⟨by omega, by omega⟩
 generalize hg : ((p1.a0 + p1.a1) % 18446744069414584321 + p1.a2) % 18446744069414584321 = t at *
 refine k1mj (r0 := mixS p1) (fun i x y z => (i = 0) ∨ (i = 1 ∧ x = (p1.a0 + t) % 18446744069414584321) ∨ (i = 2 ∧ x = (p1.a0 + t) % 18446744069414584321 ∧ y = (p1.a1 + t) % 18446744069414584321) ∨ (i = 3 ∧ x = (p1.a0 + t) % 18446744069414584321 ∧ y = (p1.a1 + t) % 18446744069414584321 ∧ z = (p1.a2 + t) % 18446744069414584321)) (fun i _ _ _ => (3 - i).toNat) (.inl rfl) ?_
 intro i x y z hi
 refine ⟨fun hh => ?_, fun hh => ?_⟩
 ·have hh := of_decide_eq_true hh
  rcases hi with rfl | ⟨rfl, rfl⟩ | ⟨rfl, rfl, rfl⟩ | ⟨rfl, _⟩
  ·exact ⟨by omega, by omega, ⟨rfl, h0, hu⟩, by omega, by omega, .inr (.inl ⟨rfl, rfl⟩), by decide⟩
  ·exact ⟨by omega, by omega, ⟨rfl, h1, hu⟩, by omega, by omega, .inr (.inr (.inl ⟨rfl, rfl, rfl⟩)), by decide⟩
  ·exact ⟨by omega, by omega, ⟨rfl, h2, hu⟩, by omega, by omega, .inr (.inr (.inr ⟨rfl, rfl, rfl, rfl⟩)), by decide⟩
  ·omega
 ·have hh := of_decide_eq_false hh
  rcases hi with rfl | ⟨rfl, rfl⟩ | ⟨rfl, rfl, rfl⟩ | ⟨rfl, rfl, rfl, rfl⟩
  ·omega
  ·omega
  ·omega
  ·unfold mixS
   rw [hg]
   exact ⟨rfl, rfl, rfl⟩
def k174 : Con TB.den := k6h.fnR (fun x => (fun (p0 : Int) (p1 : TA3) => p0 = 18446744069414584321 ∧ S3 p1) x.1 (TA3.mk x.2.1 x.2.2.1 x.2.2.2.1)) fun x => ((fun (p0 : Int) (p1 : TA3) => ((mixS p1).a0 : Int)) x.1 (TA3.mk x.2.1 x.2.2.1 x.2.2.2.1), (fun (p0 : Int) (p1 : TA3) => ((mixS p1).a1 : Int)) x.1 (TA3.mk x.2.1 x.2.2.1 x.2.2.2.1), (fun (p0 : Int) (p1 : TA3) => ((mixS p1).a2 : Int)) x.1 (TA3.mk x.2.1 x.2.2.1 x.2.2.2.1), ())
theorem k1no : k174.Ok Try.prog TB := Con.ok_fn k6h bd129 fun x h => k1mf (k1iq x.1 (TA3.mk x.2.1 x.2.2.1 x.2.2.2.1) h)
def k2r : Con TB.den := Con.mk0 116 [.one (.d (.int .u64)), .agg [.d (.int .u64), .d (.int .u64), .d (.int .u64)]] [] (.one (.agg [.d (.int .u64), .d (.int .u64), .d (.int .u64)])) []
abbrev kzb := HL TB.den (hsT k2r.ins (hsOs k2r.pre))
abbrev k2b := HL TB.den (hsV k2r.res (hsOs k2r.post))
def k3q : Cx TB := ⟨inf, [k8s, ksn, khp, ks6, k17d, k174], [], 4, []⟩
def k5c : Code := Try.f116.body.getD .skip
def kgw : List ResultVar := Try.f116.results.toList
def kwd (o : k2b) := qS TB k3q 38 0 (cB (cB (cB k5c))) .no (retTQ TB k3q k2r kgw o)
def k1b : Tm := ⟨[0, 1], [.cells [.d (.int .u64), .d (.int .u64), .d (.int .u64)], .cells [.d (.int .u64), .d (.int .u64), .d (.int .u64)]], [0, 3, 4, 5], [.one (.d (.int .u64)), .one (.ptr 0 0), .one (.ptr 1 0), .one (.d (.int .i64))], 2⟩
def k1d7 (o : k2b) (nx2 : NX TB k1b) := qS TB k3q 38 0 (cB (cB (cA (cA (cB (cA (cB (cB k5c)))))))) .no (qM TB 0 k1b nx2 (blockT TB 0 (kwd o)))
def k1ed (o : k2b) (nx2 : NX TB k1b) := qS TB k3q 38 0 (cB (cA (cA (cB (cA (cA (cB (cA (cB (cB k5c)))))))))) .no (blockT TB 1 (k1d7 o nx2))
def k7s : Tm := ⟨[0, 1], [.cells [.d (.int .u64), .d (.int .u64), .d (.int .u64)], .cells [.d (.int .u64), .d (.int .u64), .d (.int .u64)]], [0, 3, 4, 5, 6], [.one (.d (.int .u64)), .one (.ptr 0 0), .one (.ptr 1 0), .one (.d (.int .i64)), .one (.d (.int .i64))], 2⟩
def k1cu (o : k2b) (nx2 : NX TB k1b) (nx1 : NX TB k7s) := qM TB 0 k7s nx1 (blockT TB 2 (k1ed o nx2))
def kd0 (o : k2b) (nx2 : NX TB k1b) (nx1 : NX TB k7s) (i : HL TB.den k7s.hs) : Prop := WP TB k3q 38 0 (cA (cA (cB (cA (cA (cA (cB (cA (cA (cB (cA (cB (cB k5c))))))))))))) .no (k7s.fill TB i) (k1cu o nx2 nx1)
def k1d3 (o : k2b) (nx2 : NX TB k1b) : An TB := .nd [] .no [] (.lp [] k7s (kd0 o nx2) fun nx1 => .no)
def kvn (o : k2b) (nx2 : NX TB k1b) : An TB := .nd [] .no [] (.nd [] (.nd [] (k1d3 o nx2) [] .no) [] .no)
def kce (o : k2b) (nx2 : NX TB k1b) (i : HL TB.den k1b.hs) : Prop := WP TB k3q 38 0 (cA (cA (cB (cA (cB (cB k5c)))))) (kvn o nx2) (k1b.fill TB i) (qM TB 0 k1b nx2 (blockT TB 0 (kwd o)))
def k1bc (o : k2b) : An TB := .lp [] k1b (kce o) fun nx2 => (kvn o nx2)
def k1bn (o : k2b) : An TB := .nd [] .no [] (.nd [] (.nd [] .no [] (k1bc o)) [] .no)
def kx6 (o : k2b) : An TB := .nd [] .no [] (k1bn o)
def kiq (x : kzb) (o : k2b) : Prop := WPh TB k3q 38 0 k5c (kx6 o) (k2r.st TB x) (retTQ TB k3q k2r kgw o)
theorem k1b2 (o : k2b) : OblH TB k3q 38 0 k5c (kx6 o) (retTQ TB k3q k2r kgw o) :=
 OblH.ofC (X := ((∀ nx i, (kce o) nx i = (kce o) nx i) ∧ (∀ nx2 : NX TB k1b, ((∀ nx i, (kd0 o nx2) nx i = (kd0 o nx2) nx i) ∧ (∀ nx1 : NX TB k7s, True) ∧ True)) ∧ True)) (by kernel_rfl) ⟨fun _ _ => rfl, fun _ => ⟨fun _ _ => rfl, fun _ => trivial, trivial⟩, trivial⟩
theorem k1ad {x : kzb} {o : k2b} (h : kiq x o) : k2r.Snd Try.prog x o :=
 Con.soundH (c := k2r) (C := k3q) TBok ⟨inf_ok, (all_cons kcp (all_cons k1by (all_cons kqs (all_cons k1af (all_cons k1n2 (all_cons k1no all_nil)))))), all_nil⟩ mix Try.func116 (show Try.f116.body = some k5c by kernel_rfl) (show Try.f116.ntmps = 38 by kernel_rfl) (show Try.f116.results.toList = kgw by kernel_rfl) rfl h (k1b2 o)
theorem k1e5 {p0 : Int} {p1 : TA3} {r0 : TA3} (h :
((p0 = 18446744069414584321) ∧ ((!true) = true →
 0 = r0.a0 ∧ 0 = r0.a1 ∧ 0 = r0.a2) ∧
((!true) = false →
 Md.Loop (p0, (0 : Int), p1.a0, p1.a1, p1.a2, (0 : Int), (0 : Int), (0 : Int), ()) (kce (r0.a0, r0.a1, r0.a2, ()))))) : kiq (p0, p1.a0, p1.a1, p1.a2, ()) (r0.a0, r0.a1, r0.a2, ()) := WPh.of_eq (by kernel_rfl) h
def kwz (r0 : TA3) (nx2 : NX TB k1b) (k2 : Int → Int → Int → Int → Prop) (s0 : Int) (h1_0 : Int) (h1_1 : Int) (h1_2 : Int) (s5 : Int) (h0_0 : Int) (h0_1 : Int) (h0_2 : Int) : Prop :=
(decide (s5 < 8) = true →
 Md.Loop (s0, s5, (0 : Int), h0_0, h0_1, h0_2, h1_0, h1_1, h1_2, ()) (kd0 (r0.a0, r0.a1, r0.a2, ()) nx2)) ∧
(decide (s5 < 8) = false →
 h0_0 = r0.a0 ∧ h0_1 = r0.a1 ∧ h0_2 = r0.a2)
theorem k1aj {r0 : TA3} {s0 : Int} {h1_0 : Int} {h1_1 : Int} {h1_2 : Int} {s5 : Int} {h0_0 : Int} {h0_1 : Int} {h0_2 : Int} (inv : Int → Int → Int → Int → Prop) (μ : Int → Int → Int → Int → Nat) (h0 : inv s5 h0_0 h0_1 h0_2) (hs : ∀ (s5 : Int) (h0_0 : Int) (h0_1 : Int) (h0_2 : Int), inv s5 h0_0 h0_1 h0_2 → kwz r0 (fun s : Int × Int × Int × Int × Int × Int × Int × Int × Unit => ((s.1 = s0 ∧ s.2.2.2.2.2.1 = h1_0 ∧ s.2.2.2.2.2.2.1 = h1_1 ∧ s.2.2.2.2.2.2.2.1 = h1_2) ∧ inv s.2.1 s.2.2.1 s.2.2.2.1 s.2.2.2.2.1) ∧ μ s.2.1 s.2.2.1 s.2.2.2.1 s.2.2.2.2.1 < μ s5 h0_0 h0_1 h0_2) (fun s5q h0_0q h0_1q h0_2q => inv s5q h0_0q h0_1q h0_2q ∧ μ s5q h0_0q h0_1q h0_2q < μ s5 h0_0 h0_1 h0_2) s0 h1_0 h1_1 h1_2 s5 h0_0 h0_1 h0_2) : Md.Loop (s0, s5, h0_0, h0_1, h0_2, h1_0, h1_1, h1_2, ()) (kce (r0.a0, r0.a1, r0.a2, ())) :=
 ⟨⟨fun s : Int × Int × Int × Int × Int × Int × Int × Int × Unit => (s.1 = s0 ∧ s.2.2.2.2.2.1 = h1_0 ∧ s.2.2.2.2.2.2.1 = h1_1 ∧ s.2.2.2.2.2.2.2.1 = h1_2) ∧ inv s.2.1 s.2.2.1 s.2.2.2.1 s.2.2.2.2.1, fun s : Int × Int × Int × Int × Int × Int × Int × Int × Unit => μ s.2.1 s.2.2.1 s.2.2.2.1 s.2.2.2.2.1, ⟨⟨rfl, rfl, rfl, rfl⟩, h0⟩, fun (s0p, s5p, h0_0p, h0_1p, h0_2p, h1_0p, h1_1p, h1_2p, ()) ⟨⟨eq0, eq1, eq2, eq3⟩, hi⟩ => by
  have eq0 : s0p = s0 := eq0; subst s0p; have eq1 : h1_0p = h1_0 := eq1; subst h1_0p; have eq2 : h1_1p = h1_1 := eq2; subst h1_1p; have eq3 : h1_2p = h1_2 := eq3; subst h1_2p; exact mpr_of (by kernel_rfl) ((congrArg (fun k => kwz r0 (fun s : Int × Int × Int × Int × Int × Int × Int × Int × Unit => ((s.1 = s0 ∧ s.2.2.2.2.2.1 = h1_0 ∧ s.2.2.2.2.2.2.1 = h1_1 ∧ s.2.2.2.2.2.2.2.1 = h1_2) ∧ inv s.2.1 s.2.2.1 s.2.2.2.1 s.2.2.2.2.1) ∧ μ s.2.1 s.2.2.1 s.2.2.2.1 s.2.2.2.2.1 < μ s5p h0_0p h0_1p h0_2p) k s0 h1_0 h1_1 h1_2 s5p h0_0p h0_1p h0_2p) (lpk4 (⟨rfl, rfl, rfl, rfl⟩ : s0 = s0 ∧ h1_0 = h1_0 ∧ h1_1 = h1_1 ∧ h1_2 = h1_2) inv (fun s5q h0_0q h0_1q h0_2q => μ s5q h0_0q h0_1q h0_2q < μ s5p h0_0p h0_1p h0_2p))).mpr (hs s5p h0_0p h0_1p h0_2p hi))⟩⟩
def kwx (r0 : TA3) (nx2 : NX TB k1b) (k1 : Int → Int → Int → Int → Prop) (s0 : Int) (s5 : Int) (h1_0 : Int) (h1_1 : Int) (h1_2 : Int) (s6 : Int) (h0_0 : Int) (h0_1 : Int) (h0_2 : Int) : Prop :=
(decide (s6 < 3) = true →
(0 ≤ s6 ∧ s6 < (3 : Int)) ∧ (0 ≤ s6 ∧ s6 < (3 : Int)) ∧ (s0 = 18446744069414584321 ∧ (0 ≤ s5 ∧ s5 < 8) ∧ 0 ≤ s6 ∧ s6 < 3) ∧ (s0 = 18446744069414584321 ∧ U64 (ix [h0_0, h0_1, h0_2] s6) ∧ U64 (rc s5 s6)) ∧ let r1 : Int := (((ix [h0_0, h0_1, h0_2] s6) + (rc s5 s6)) % 18446744069414584321)
(s0 = 18446744069414584321) ∧ (s0 = 18446744069414584321 ∧ U64 r1 ∧ U64 (7 : Int)) ∧ (0 ≤ s6 ∧ s6 < (3 : Int)) ∧ (0 ≤ s6 ∧ s6 < (3 : Int)) ∧ k1 (IntKind.i64.wrap (s6 + 1) : Int) ((bif decide (s6 = (0 : Int)) then (pw r1 (7 : Int)) else h0_0) : Int) ((bif decide (s6 = (1 : Int)) then (pw r1 (7 : Int)) else h0_1) : Int) ((bif decide (s6 = (2 : Int)) then (pw r1 (7 : Int)) else h0_2) : Int)) ∧
(decide (s6 < 3) = false →
(s0 = 18446744069414584321 ∧ S3 (TA3.mk h0_0 h0_1 h0_2)) ∧ nx2 (s0, (IntKind.i64.wrap (s5 + 1) : Int), ((mixS (TA3.mk h0_0 h0_1 h0_2)).a0 : Int), ((mixS (TA3.mk h0_0 h0_1 h0_2)).a1 : Int), ((mixS (TA3.mk h0_0 h0_1 h0_2)).a2 : Int), h1_0, h1_1, h1_2, ()))
theorem k1co {r0 : TA3} {nx2 : NX TB k1b} {s0 : Int} {s5 : Int} {h1_0 : Int} {h1_1 : Int} {h1_2 : Int} {s6 : Int} {h0_0 : Int} {h0_1 : Int} {h0_2 : Int} (inv : Int → Int → Int → Int → Prop) (μ : Int → Int → Int → Int → Nat) (h0 : inv s6 h0_0 h0_1 h0_2) (hs : ∀ (s6 : Int) (h0_0 : Int) (h0_1 : Int) (h0_2 : Int), inv s6 h0_0 h0_1 h0_2 → kwx r0 nx2 (fun s6q h0_0q h0_1q h0_2q => inv s6q h0_0q h0_1q h0_2q ∧ μ s6q h0_0q h0_1q h0_2q < μ s6 h0_0 h0_1 h0_2) s0 s5 h1_0 h1_1 h1_2 s6 h0_0 h0_1 h0_2) : Md.Loop (s0, s5, s6, h0_0, h0_1, h0_2, h1_0, h1_1, h1_2, ()) (kd0 (r0.a0, r0.a1, r0.a2, ()) nx2) :=
 ⟨⟨fun s : Int × Int × Int × Int × Int × Int × Int × Int × Int × Unit => (s.1 = s0 ∧ s.2.1 = s5 ∧ s.2.2.2.2.2.2.1 = h1_0 ∧ s.2.2.2.2.2.2.2.1 = h1_1 ∧ s.2.2.2.2.2.2.2.2.1 = h1_2) ∧ inv s.2.2.1 s.2.2.2.1 s.2.2.2.2.1 s.2.2.2.2.2.1, fun s : Int × Int × Int × Int × Int × Int × Int × Int × Int × Unit => μ s.2.2.1 s.2.2.2.1 s.2.2.2.2.1 s.2.2.2.2.2.1, ⟨⟨rfl, rfl, rfl, rfl, rfl⟩, h0⟩, fun (s0p, s5p, s6p, h0_0p, h0_1p, h0_2p, h1_0p, h1_1p, h1_2p, ()) ⟨⟨eq0, eq1, eq2, eq3, eq4⟩, hi⟩ => by
  have eq0 : s0p = s0 := eq0; subst s0p; have eq1 : s5p = s5 := eq1; subst s5p; have eq2 : h1_0p = h1_0 := eq2; subst h1_0p; have eq3 : h1_1p = h1_1 := eq3; subst h1_1p; have eq4 : h1_2p = h1_2 := eq4; subst h1_2p; exact mpr_of (by kernel_rfl) ((congrArg (fun k => kwx r0 nx2 k s0 s5 h1_0 h1_1 h1_2 s6p h0_0p h0_1p h0_2p) (lpk4 (⟨rfl, rfl, rfl, rfl, rfl⟩ : s0 = s0 ∧ s5 = s5 ∧ h1_0 = h1_0 ∧ h1_1 = h1_1 ∧ h1_2 = h1_2) inv (fun s6q h0_0q h0_1q h0_2q => μ s6q h0_0q h0_1q h0_2q < μ s6p h0_0p h0_1p h0_2p))).mpr (hs s6p h0_0p h0_1p h0_2p hi))⟩⟩
theorem bd116 : Callable Try.prog 116 := ⟨by rw [Try.func116]; kernel_rfl, by rw [Try.func116]; show some _ ≠ some _; decide⟩
theorem k18y (p0 : Int) (p1 : TA3) (h : p0 = 18446744069414584321 ∧ S3 p1) : kiq (p0, p1.a0, p1.a1, p1.a2, ()) (((permS p1).a0 : Int), ((permS p1).a1 : Int), ((permS p1).a2 : Int), ()) := by
 obtain ⟨hP, hs⟩ := h
 subst hP
 refine k1e5 ⟨rfl, fun h => by simp at h, fun _ => ?_⟩
 refine k1aj (r0 := permS p1) (fun n a b c => 0 ≤ n ∧ n ≤ 8 ∧ (⟨a, b, c⟩ : TA3) = rnds n.toNat p1 ∧ S3 ⟨a, b, c⟩) (fun n _ _ _ => (8 - n).toNat) ⟨by omega, by omega, rfl, hs⟩ ?_
 rintro n a b c ⟨g0, g1, g2, g3⟩
 refine ⟨fun h => ?_, fun h => ?_⟩
 ·have h := of_decide_eq_true h
  refine k1co (r0 := permS p1) (fun i x y z => (i = 0 ∧ x = a ∧ y = b ∧ z = c) ∨ (i = 1 ∧ x = pw ((a + rc n 0) % 18446744069414584321) 7 ∧ y = b ∧ z = c) ∨ (i = 2 ∧ x = pw ((a + rc n 0) % 18446744069414584321) 7 ∧ y = pw ((b + rc n 1) % 18446744069414584321) 7 ∧ z = c) ∨ (i = 3 ∧ x = pw ((a + rc n 0) % 18446744069414584321) 7 ∧ y = pw ((b + rc n 1) % 18446744069414584321) 7 ∧ z = pw ((c + rc n 2) % 18446744069414584321) 7)) (fun i _ _ _ => (3 - i).toNat) (.inl ⟨rfl, rfl, rfl, rfl⟩) ?_
  intro i x y z hi
  have hrc : ∀ k, U64 (rc n k) := fun k => by unfold rc; omega
  have hpw : ∀ k e, 0 ≤ pw k e ∧ pw k e < 18446744069414584321 := fun k e => ⟨Int.emod_nonneg _ (by omega), Int.emod_lt_of_pos _ (by omega)⟩
  obtain ⟨h3a, h3b, h3c⟩ := g3
  have u7 : U64 7 := by decide
  have hm : ∀ q : Int, U64 (q % 18446744069414584321) := fun q => ⟨Int.emod_nonneg _ (by omega), Int.lt_trans (Int.emod_lt_of_pos _ (by omega)) (by omega)⟩
  refine ⟨fun hh => ?_, fun hh => ?_⟩
  ·have hh := of_decide_eq_true hh
   rcases hi with ⟨rfl, rfl, rfl, rfl⟩ | ⟨rfl, rfl, rfl, rfl⟩ | ⟨rfl, rfl, rfl, rfl⟩ | ⟨rfl, _⟩
   ·exact ⟨by omega, by omega, ⟨rfl, by omega, by omega⟩, ⟨rfl, h3a, hrc _⟩, rfl, ⟨rfl, hm _, u7⟩, by omega, by omega, .inr (.inl ⟨rfl, rfl, rfl, rfl⟩), by decide⟩
   ·exact ⟨by omega, by omega, ⟨rfl, by omega, by omega⟩, ⟨rfl, h3b, hrc _⟩, rfl, ⟨rfl, hm _, u7⟩, by omega, by omega, .inr (.inr (.inl ⟨rfl, rfl, rfl, rfl⟩)), by decide⟩
   ·exact ⟨by omega, by omega, ⟨rfl, by omega, by omega⟩, ⟨rfl, h3c, hrc _⟩, rfl, ⟨rfl, hm _, u7⟩, by omega, by omega, .inr (.inr (.inr ⟨rfl, rfl, rfl, rfl⟩)), by decide⟩
   ·omega
  ·have hh := of_decide_eq_false hh
   rcases hi with ⟨rfl, _⟩ | ⟨rfl, _⟩ | ⟨rfl, _⟩ | ⟨rfl, rfl, rfl, rfl⟩
   ·omega
   ·omega
   ·omega
   ·have e : rnds (n + 1).toNat p1 = rnd ⟨a, b, c⟩ n := by
     rw [show (n + 1).toNat = n.toNat + 1 by omega]
     show rnd (rnds n.toNat p1) (n.toNat : Int) = _
     rw [← g2, show (n.toNat : Int) = n by omega]
    have hS : S3 (rnds (n + 1).toNat p1) := by
     rw [e]
     unfold rnd mixS S3
     dsimp only
     omega
    have hinc : IntKind.i64.wrap (n + 1) = n + 1 := wi _ (by omega) (by omega)
    rw [hinc]
    refine ⟨⟨rfl, by unfold S3; have := hpw ((a + rc n 0) % 18446744069414584321) 7; have := hpw ((b + rc n 1) % 18446744069414584321) 7; have := hpw ((c + rc n 2) % 18446744069414584321) 7; dsimp only; omega⟩, ⟨⟨rfl, rfl, rfl, rfl⟩, (?_ : 0 ≤ n + 1 ∧ n + 1 ≤ 8 ∧ _ ∧ _)⟩, (?_ : (8 - (n + 1)).toNat < (8 - n).toNat)⟩
    ·refine ⟨by omega, by omega, e.symm, ?_⟩
     rw [e] at hS
     exact hS
    ·omega
 ·have h := of_decide_eq_false h
  rw [show n = 8 by omega] at g2
  have g2 : (⟨a, b, c⟩ : TA3) = permS p1 := g2
  rw [← g2]
  exact ⟨rfl, rfl, rfl⟩
def kth : Con TB.den := k2r.fnR (fun x => (fun (p0 : Int) (p1 : TA3) => p0 = 18446744069414584321 ∧ S3 p1) x.1 (TA3.mk x.2.1 x.2.2.1 x.2.2.2.1)) fun x => ((fun (p0 : Int) (p1 : TA3) => ((permS p1).a0 : Int)) x.1 (TA3.mk x.2.1 x.2.2.1 x.2.2.2.1), (fun (p0 : Int) (p1 : TA3) => ((permS p1).a1 : Int)) x.1 (TA3.mk x.2.1 x.2.2.1 x.2.2.2.1), (fun (p0 : Int) (p1 : TA3) => ((permS p1).a2 : Int)) x.1 (TA3.mk x.2.1 x.2.2.1 x.2.2.2.1), ())
theorem k1dp : kth.Ok Try.prog TB := Con.ok_fn k2r bd116 fun x h => k1ad (k18y x.1 (TA3.mk x.2.1 x.2.2.1 x.2.2.2.1) h)
def k3e : Con TB.den := Con.mk0 107 [.one (.d (.int .u64)), .one (.d (.int .u64)), .one (.d (.sl (.int .u64)))] [] (.one (.agg [.d (.int .u64), .d (.int .u64), .d (.int .u64)])) []
abbrev k15d := HL TB.den (hsT k3e.ins (hsOs k3e.pre))
abbrev k1q := HL TB.den (hsV k3e.res (hsOs k3e.post))
def k3d : Cx TB := ⟨inf, [ku6, khp, kth], [], 4, []⟩
def k4v : Code := Try.f107.body.getD .skip
def kih : List ResultVar := Try.f107.results.toList
def kp9 (o : k1q) := qS TB k3d 60 0 (cB (cB (cB k4v))) .no (retTQ TB k3d k3e kih o)
def kh : Tm := ⟨[0, 1], [.cells [.d (.int .u64), .d (.int .u64), .d (.int .u64)], .cells [.d (.int .u64), .d (.int .u64), .d (.int .u64)]], [0, 2, 6, 7, 8], [.one (.d (.int .u64)), .one (.d (.sl (.int .u64))), .one (.ptr 0 0), .one (.ptr 1 0), .one (.d (.int .i64))], 2⟩
def kze (o : k1q) (nx1 : NX TB kh) := qS TB k3d 60 0 (cB (cB (cA (cA (cB (cA (cB (cB k4v)))))))) .no (qM TB 0 kh nx1 (blockT TB 0 (kp9 o)))
def kcs : Tm := ⟨[0, 1], [.cells [.d (.int .u64), .d (.int .u64), .d (.int .u64)], .cells [.d (.int .u64), .d (.int .u64), .d (.int .u64)]], [0, 2, 6, 7, 8], [.one (.d (.int .u64)), .one (.d (.sl (.int .u64))), .one (.ptr 0 0), .one (.ptr 1 0), .one (.d (.int .i64))], 2⟩
def kvx (o : k1q) (nx1 : NX TB kh) (i : HL TB.den kcs.hs) : Prop := ghs TB [] (kcs.fill TB i) fun s => WP TB k3d 60 0 (cB (cB (cA (cA (cB (cA (cA (cB (cA (cB (cB k4v))))))))))) .no s (blockT TB 1 (kze o nx1))
structure k8t (o : k1q) (nx1 : NX TB kh) (i : HL TB.den kcs.hs) : Prop where
 h : kvx o nx1 i
def kgp : Tm := ⟨[0, 1], [.cells [.d (.int .u64), .d (.int .u64), .d (.int .u64)], .cells [.d (.int .u64), .d (.int .u64), .d (.int .u64)]], [0, 2, 6, 7, 8], [.one (.d (.int .u64)), .one (.d (.sl (.int .u64))), .one (.ptr 0 0), .one (.ptr 1 0), .one (.d (.int .i64))], 2⟩
def kvd (o : k1q) (nx1 : NX TB kh) (i : HL TB.den kgp.hs) : Prop := ghs TB [] (kgp.fill TB i) fun s => WP TB k3d 60 0 (cB (cA (cA (cB (cA (cA (cB (cA (cB (cB k4v)))))))))) (.jn kcs (k8t o nx1) [] .no [] .no) s (blockT TB 1 (kze o nx1))
structure ke4 (o : k1q) (nx1 : NX TB kh) (i : HL TB.den kgp.hs) : Prop where
 h : kvd o nx1 i
def k102 (o : k1q) (nx1 : NX TB kh) : An TB := .jn kgp (ke4 o nx1) [] .no [] (.jn kcs (k8t o nx1) [] .no [] .no)
def kgm : Tm := ⟨[0, 1], [.cells [.d (.int .u64), .d (.int .u64), .d (.int .u64)], .cells [.d (.int .u64), .d (.int .u64), .d (.int .u64)]], [0, 2, 6, 7, 8], [.one (.d (.int .u64)), .one (.d (.sl (.int .u64))), .one (.ptr 0 0), .one (.ptr 1 0), .one (.d (.int .i64))], 2⟩
def kwh (o : k1q) (nx1 : NX TB kh) (i : HL TB.den kgm.hs) : Prop := ghs TB [] (kgm.fill TB i) fun s => WP TB k3d 60 0 (cB (cA (cA (cB (cA (cB (cB k4v))))))) (.nd [] (k102 o nx1) [] .no) s (qM TB 0 kh nx1 (blockT TB 0 (kp9 o)))
structure kao (o : k1q) (nx1 : NX TB kh) (i : HL TB.den kgm.hs) : Prop where
 h : kwh o nx1 i
def kzc (o : k1q) (nx1 : NX TB kh) : An TB := .jn kgm (kao o nx1) [] .no [] (.nd [] (k102 o nx1) [] .no)
def kdt (o : k1q) (nx1 : NX TB kh) (i : HL TB.den kh.hs) : Prop := WP TB k3d 60 0 (cA (cA (cB (cA (cB (cB k4v)))))) (kzc o nx1) (kh.fill TB i) (qM TB 0 kh nx1 (blockT TB 0 (kp9 o)))
def k1ih (o : k1q) : An TB := .lp [] kh (kdt o) fun nx1 => (kzc o nx1)
def k1gz (o : k1q) : An TB := .nd [] .no [] (.nd [] (.nd [] .no [] (k1ih o)) [] .no)
def kyy (o : k1q) : An TB := .nd [] .no [] (k1gz o)
def kk1 (x : k15d) (o : k1q) : Prop := WPh TB k3d 60 0 k4v (kyy o) (k3e.st TB x) (retTQ TB k3d k3e kih o)
theorem k1dd (o : k1q) : OblH TB k3d 60 0 k4v (kyy o) (retTQ TB k3d k3e kih o) :=
 OblH.ofC (X := ((∀ nx i, (kdt o) nx i = (kdt o) nx i) ∧ (∀ nx1 : NX TB kh, ((∀ i, (kao o nx1) i = kwh o nx1 i) ∧ (∀ i, (ke4 o nx1) i = kvd o nx1 i) ∧ (∀ i, (k8t o nx1) i = kvx o nx1 i) ∧ True)) ∧ True)) (by kernel_rfl) ⟨fun _ _ => rfl, fun _ => ⟨fun _ => propext ⟨fun h => h.1, fun h => ⟨h⟩⟩, fun _ => propext ⟨fun h => h.1, fun h => ⟨h⟩⟩, fun _ => propext ⟨fun h => h.1, fun h => ⟨h⟩⟩, trivial⟩, trivial⟩
theorem k1f8 {x : k15d} {o : k1q} (h : kk1 x o) : k3e.Snd Try.prog x o :=
 Con.soundH (c := k3e) (C := k3d) TBok ⟨inf_ok, (all_cons k1al (all_cons kqs (all_cons k1dp all_nil))), all_nil⟩ mix Try.func107 (show Try.f107.body = some k4v by kernel_rfl) (show Try.f107.ntmps = 60 by kernel_rfl) (show Try.f107.results.toList = kih by kernel_rfl) rfl h (k1dd o)
theorem k1ie {p0 : Int} {p1 : Int} {p2 : List Int} {r0 : TA3} (h :
((p0 = 18446744069414584321 ∧ U64 p1 ∧ U64 (65536 : Int)) ∧ let r1 : Int := (p1 * (65536 : Int) % 18446744069414584321)
(p0 = 18446744069414584321 ∧ U64 r1 ∧ U64 (IntKind.u64.wrap (p2.length : Int))) ∧ let r2 : Int := ((r1 + (IntKind.u64.wrap (p2.length : Int))) % 18446744069414584321)
 Md.Loop (p0, p2, (0 : Int), (0 : Int), (0 : Int), (0 : Int), (0 : Int), (0 : Int), r2, ()) (kdt (r0.a0, r0.a1, r0.a2, ())))) : kk1 (p0, p1, p2, ()) (r0.a0, r0.a1, r0.a2, ()) := WPh.of_eq (by kernel_rfl) h
theorem k196 {r0 : TA3} {nx1 : NX TB kh} {s0 : Int} {s2 : List Int} {s8 : Int} {h0_0 : Int} {h0_1 : Int} {h0_2 : Int} {h1_0 : Int} {h1_1 : Int} {h1_2 : Int} (h :
((decide (s8 < (s2.length : Int)) = true →
(0 ≤ s8) ∧ s8 < (s2.length : Int) ∧ (s0 = 18446744069414584321 ∧ U64 h1_0 ∧ U64 (ix s2 s8)) ∧ let r3 : Int := ((h1_0 + (ix s2 s8)) % 18446744069414584321)
 ke4 (r0.a0, r0.a1, r0.a2, ()) nx1 (s0, s2, s8, h0_0, h0_1, h0_2, r3, h1_1, h1_2, ())) ∧
(decide (s8 < (s2.length : Int)) = false →
 ke4 (r0.a0, r0.a1, r0.a2, ()) nx1 (s0, s2, s8, h0_0, h0_1, h0_2, h1_0, h1_1, h1_2, ())))) : kao (r0.a0, r0.a1, r0.a2, ()) nx1 (s0, s2, s8, h0_0, h0_1, h0_2, h1_0, h1_1, h1_2, ()) := ⟨mpr_of (by kernel_rfl) h⟩
theorem krp {r0 : TA3} {nx1 : NX TB kh} {s0 : Int} {s2 : List Int} {s8 : Int} {h0_0 : Int} {h0_1 : Int} {h0_2 : Int} {h1_0 : Int} {h1_1 : Int} {h1_2 : Int} (h :
(let v4 : Bool := decide ((IntKind.i64.wrap (s8 + 1)) < (s2.length : Int))
(v4 = true →
(0 ≤ IntKind.i64.wrap (s8 + 1)) ∧ IntKind.i64.wrap (s8 + 1) < (s2.length : Int) ∧ (s0 = 18446744069414584321 ∧ U64 h1_1 ∧ U64 (ix s2 (IntKind.i64.wrap (s8 + 1)))) ∧ let r5 : Int := ((h1_1 + (ix s2 (IntKind.i64.wrap (s8 + 1)))) % 18446744069414584321)
 k8t (r0.a0, r0.a1, r0.a2, ()) nx1 (s0, s2, s8, h0_0, h0_1, h0_2, h1_0, r5, h1_2, ())) ∧
(v4 = false →
 k8t (r0.a0, r0.a1, r0.a2, ()) nx1 (s0, s2, s8, h0_0, h0_1, h0_2, h1_0, h1_1, h1_2, ())))) : ke4 (r0.a0, r0.a1, r0.a2, ()) nx1 (s0, s2, s8, h0_0, h0_1, h0_2, h1_0, h1_1, h1_2, ()) := ⟨mpr_of (by kernel_rfl) h⟩
theorem k19p {r0 : TA3} {nx1 : NX TB kh} {s0 : Int} {s2 : List Int} {s8 : Int} {h0_0 : Int} {h0_1 : Int} {h0_2 : Int} {h1_0 : Int} {h1_1 : Int} {h1_2 : Int} (h :
((s0 = 18446744069414584321 ∧ S3 (TA3.mk h1_0 h1_1 h1_2)) ∧ nx1 (s0, s2, (IntKind.i64.wrap (s8 + 2) : Int), h0_0, h0_1, h0_2, ((permS (TA3.mk h1_0 h1_1 h1_2)).a0 : Int), ((permS (TA3.mk h1_0 h1_1 h1_2)).a1 : Int), ((permS (TA3.mk h1_0 h1_1 h1_2)).a2 : Int), ()))) : k8t (r0.a0, r0.a1, r0.a2, ()) nx1 (s0, s2, s8, h0_0, h0_1, h0_2, h1_0, h1_1, h1_2, ()) := ⟨mpr_of (by kernel_rfl) h⟩
def kz2 (r0 : TA3) (nx1 : NX TB kh) (k1 : Int → Int → Int → Int → Prop) (s0 : Int) (s2 : List Int) (h0_0 : Int) (h0_1 : Int) (h0_2 : Int) (s8 : Int) (h1_0 : Int) (h1_1 : Int) (h1_2 : Int) : Prop :=
((s8 == 0) = true →
 kao (r0.a0, r0.a1, r0.a2, ()) nx1 (s0, s2, s8, h0_0, h0_1, h0_2, h1_0, h1_1, h1_2, ())) ∧
((s8 == 0) = false →
(decide (s8 < (s2.length : Int)) = true →
 kao (r0.a0, r0.a1, r0.a2, ()) nx1 (s0, s2, s8, h0_0, h0_1, h0_2, h1_0, h1_1, h1_2, ())) ∧
(decide (s8 < (s2.length : Int)) = false →
 h1_0 = r0.a0 ∧ h1_1 = r0.a1 ∧ h1_2 = r0.a2))
theorem k1e2 {r0 : TA3} {s0 : Int} {s2 : List Int} {h0_0 : Int} {h0_1 : Int} {h0_2 : Int} {s8 : Int} {h1_0 : Int} {h1_1 : Int} {h1_2 : Int} (inv : Int → Int → Int → Int → Prop) (μ : Int → Int → Int → Int → Nat) (h0 : inv s8 h1_0 h1_1 h1_2) (hs : ∀ (s8 : Int) (h1_0 : Int) (h1_1 : Int) (h1_2 : Int), inv s8 h1_0 h1_1 h1_2 → kz2 r0 (fun s : Int × (List Int) × Int × Int × Int × Int × Int × Int × Int × Unit => ((s.1 = s0 ∧ s.2.1 = s2 ∧ s.2.2.2.1 = h0_0 ∧ s.2.2.2.2.1 = h0_1 ∧ s.2.2.2.2.2.1 = h0_2) ∧ inv s.2.2.1 s.2.2.2.2.2.2.1 s.2.2.2.2.2.2.2.1 s.2.2.2.2.2.2.2.2.1) ∧ μ s.2.2.1 s.2.2.2.2.2.2.1 s.2.2.2.2.2.2.2.1 s.2.2.2.2.2.2.2.2.1 < μ s8 h1_0 h1_1 h1_2) (fun s8q h1_0q h1_1q h1_2q => inv s8q h1_0q h1_1q h1_2q ∧ μ s8q h1_0q h1_1q h1_2q < μ s8 h1_0 h1_1 h1_2) s0 s2 h0_0 h0_1 h0_2 s8 h1_0 h1_1 h1_2) : Md.Loop (s0, s2, s8, h0_0, h0_1, h0_2, h1_0, h1_1, h1_2, ()) (kdt (r0.a0, r0.a1, r0.a2, ())) :=
 ⟨⟨fun s : Int × (List Int) × Int × Int × Int × Int × Int × Int × Int × Unit => (s.1 = s0 ∧ s.2.1 = s2 ∧ s.2.2.2.1 = h0_0 ∧ s.2.2.2.2.1 = h0_1 ∧ s.2.2.2.2.2.1 = h0_2) ∧ inv s.2.2.1 s.2.2.2.2.2.2.1 s.2.2.2.2.2.2.2.1 s.2.2.2.2.2.2.2.2.1, fun s : Int × (List Int) × Int × Int × Int × Int × Int × Int × Int × Unit => μ s.2.2.1 s.2.2.2.2.2.2.1 s.2.2.2.2.2.2.2.1 s.2.2.2.2.2.2.2.2.1, ⟨⟨rfl, rfl, rfl, rfl, rfl⟩, h0⟩, fun (s0p, s2p, s8p, h0_0p, h0_1p, h0_2p, h1_0p, h1_1p, h1_2p, ()) ⟨⟨eq0, eq1, eq2, eq3, eq4⟩, hi⟩ => by
  have eq0 : s0p = s0 := eq0; subst s0p; have eq1 : s2p = s2 := eq1; subst s2p; have eq2 : h0_0p = h0_0 := eq2; subst h0_0p; have eq3 : h0_1p = h0_1 := eq3; subst h0_1p; have eq4 : h0_2p = h0_2 := eq4; subst h0_2p; exact mpr_of (by kernel_rfl) ((congrArg (fun k => kz2 r0 (fun s : Int × (List Int) × Int × Int × Int × Int × Int × Int × Int × Unit => ((s.1 = s0 ∧ s.2.1 = s2 ∧ s.2.2.2.1 = h0_0 ∧ s.2.2.2.2.1 = h0_1 ∧ s.2.2.2.2.2.1 = h0_2) ∧ inv s.2.2.1 s.2.2.2.2.2.2.1 s.2.2.2.2.2.2.2.1 s.2.2.2.2.2.2.2.2.1) ∧ μ s.2.2.1 s.2.2.2.2.2.2.1 s.2.2.2.2.2.2.2.1 s.2.2.2.2.2.2.2.2.1 < μ s8p h1_0p h1_1p h1_2p) k s0 s2 h0_0 h0_1 h0_2 s8p h1_0p h1_1p h1_2p) (lpk4 (⟨rfl, rfl, rfl, rfl, rfl⟩ : s0 = s0 ∧ s2 = s2 ∧ h0_0 = h0_0 ∧ h0_1 = h0_1 ∧ h0_2 = h0_2) inv (fun s8q h1_0q h1_1q h1_2q => μ s8q h1_0q h1_1q h1_2q < μ s8p h1_0p h1_1p h1_2p))).mpr (hs s8p h1_0p h1_1p h1_2p hi))⟩⟩
theorem bd107 : Callable Try.prog 107 := ⟨by rw [Try.func107]; kernel_rfl, by rw [Try.func107]; show some _ ≠ some _; decide⟩
theorem k1ab (p0 : Int) (p1 : Int) (p2 : List Int) (h : p0 = 18446744069414584321 ∧ U64 p1 ∧ Us p2 ∧ p2.length ≤ 1099511627776) : kk1 (p0, p1, p2, ()) (((absS p1 p2).a0 : Int), ((absS p1 p2).a1 : Int), ((absS p1 p2).a2 : Int), ()) := by
 obtain ⟨hP, h1, h2, h3⟩ := h
 subst hP
 have hp := ke8
 have hi : S3 (absI p1 p2) := by unfold absI S3; dsimp only; omega
 have e : IntKind.u64.wrap (p2.length : Int) = p2.length := wu _ (by omega) (by omega)
 have em : (p1 * 65536 % 18446744069414584321 + (p2.length : Int)) % 18446744069414584321 = (absI p1 p2).a2 := rfl
 refine k1ie ?_
 rw [e]
 refine ⟨⟨rfl, h1, by omega⟩, ⟨rfl, by omega, by omega⟩, ?_⟩
 rw [em]
 have j3 : ∀ nx (i x y z : Int), 0 ≤ i → i ≤ p2.length → S3 ⟨x, y, z⟩ → nx ((18446744069414584321 : Int), p2, (i + 2 : Int), (0 : Int), (0 : Int), (0 : Int), (permS ⟨x, y, z⟩).a0, (permS ⟨x, y, z⟩).a1, (permS ⟨x, y, z⟩).a2, ()) → k8t ((absS p1 p2).a0, (absS p1 p2).a1, (absS p1 p2).a2, ()) nx ((18446744069414584321 : Int), p2, i, (0 : Int), (0 : Int), (0 : Int), x, y, z, ()) := by
  intro nx i x y z g0 g1 hS hn
  refine k19p (r0 := absS p1 p2) ?_
  rw [wi (i + 2) (by omega) (by omega)]
  exact ⟨⟨rfl, hS⟩, hn⟩
 refine k1e2 (r0 := absS p1 p2) (fun i a b c => (i = 0 ∧ a = 0 ∧ b = 0 ∧ c = (absI p1 p2).a2) ∨ (0 < i ∧ i ≤ p2.length + 2 ∧ absL (p2.drop i.toNat) ⟨a, b, c⟩ = absS p1 p2 ∧ S3 ⟨a, b, c⟩)) (fun i _ _ _ => (p2.length + 4 - i).toNat) (.inl ⟨rfl, rfl, rfl, rfl⟩) ?_
 intro i a b c hg
 have body : ∀ (i : Int) (a b c : Int), 0 ≤ i → i ≤ p2.length → (i < p2.length → absL (p2.drop i.toNat) ⟨a, b, c⟩ = absS p1 p2) → (¬ i < p2.length → permS ⟨a, b, c⟩ = absS p1 p2) → S3 ⟨a, b, c⟩ → ∀ nx, (∀ x y z, absL (p2.drop (i + 2).toNat) ⟨x, y, z⟩ = absS p1 p2 → S3 ⟨x, y, z⟩ → nx ((18446744069414584321 : Int), p2, (i + 2 : Int), (0 : Int), (0 : Int), (0 : Int), x, y, z, ())) →
   kao ((absS p1 p2).a0, (absS p1 p2).a1, (absS p1 p2).a2, ()) nx ((18446744069414584321 : Int), p2, i, (0 : Int), (0 : Int), (0 : Int), a, b, c, ()) := by
  intro i a b c g0 g1 hne hnil hS nx hn
  obtain ⟨h3a, h3b, h3c⟩ := hS
  refine k196 (r0 := absS p1 p2) ⟨fun hh => ?_, fun hh => ?_⟩
  ·have hh := of_decide_eq_true hh
   have hx := h2 _ (ix_mem p2 i g0 hh)
   have g2 := hne hh
   rw [drop_ix p2 i g0 hh] at g2
   refine ⟨g0, hh, ⟨rfl, h3a, hx⟩, krp (r0 := absS p1 p2) ?_⟩
   rw [wi (i + 1) (by omega) (by omega)]
   refine ⟨fun h5 => ?_, fun h5 => ?_⟩
   ·have h5 := of_decide_eq_true h5
    have hy := h2 _ (ix_mem p2 (i + 1) (by omega) h5)
    rw [drop_ix p2 (i + 1) (by omega) h5, show i + 1 + 1 = i + 2 by omega] at g2
    exact ⟨by omega, h5, ⟨rfl, h3b, hy⟩, j3 _ _ _ _ _ g0 g1 (S3m (by omega) (by omega) h3c) (hn _ _ _ g2 (hp _))⟩
   ·have h5 := of_decide_eq_false h5
    have ed : p2.drop (i + 1).toNat = [] := List.drop_eq_nil_of_le (by omega)
    have ed2 : p2.drop (i + 2).toNat = [] := List.drop_eq_nil_of_le (by omega)
    rw [ed] at g2
    exact j3 _ _ _ _ _ g0 g1 (S3m (by omega) h3b h3c) (hn _ _ _ (by rw [ed2]; exact g2) (hp _))
  ·have hh := of_decide_eq_false hh
   refine krp (r0 := absS p1 p2) ?_
   rw [wi (i + 1) (by omega) (by omega)]
   refine ⟨fun h5 => ?_, fun h5 => ?_⟩
   ·have h5 := of_decide_eq_true h5
    omega
   ·have ed2 : p2.drop (i + 2).toNat = [] := List.drop_eq_nil_of_le (by omega)
    exact j3 _ _ _ _ _ g0 g1 (S3m h3a h3b h3c) (hn _ _ _ (by rw [ed2]; exact hnil hh) (hp _))
 refine ⟨fun h0 => ?_, fun h0 => ⟨fun hh => ?_, fun hh => ?_⟩⟩
 ·have h0 : i = 0 := by simpa using h0
  rcases hg with ⟨_, rfl, rfl, rfl⟩ | ⟨hp0, _⟩
  ·subst h0
   refine body 0 _ _ _ (by omega) (by omega) (fun hl => ?_) (fun hl => ?_) hi _ fun x y z k1 k2 => ⟨⟨⟨rfl, rfl, rfl, rfl, rfl⟩, .inr ⟨(by omega : (0 : Int) < 0 + 2), (by omega : (0 : Int) + 2 ≤ p2.length + 2), k1, k2⟩⟩, (by omega : (p2.length + 4 - ((0 : Int) + 2)).toNat < (p2.length + 4 - 0 : Int).toNat)⟩
   ·have hne : p2 ≠ [] := by rintro rfl; simp at hl
    unfold absS
    rw [if_neg hne]
    rfl
   ·have hnil : p2 = [] := List.eq_nil_of_length_eq_zero (by omega)
    unfold absS
    rw [if_pos hnil]
    rfl
  ·omega
 ·have h0 : ¬ i = 0 := by simpa using h0
  have hh := of_decide_eq_true hh
  rcases hg with ⟨h1, _⟩ | ⟨g0, g1, g2, g3⟩
  ·omega
  ·exact body i _ _ _ (by omega) (by omega) (fun _ => g2) (fun hl => absurd hh hl) g3 _ fun x y z k1 k2 => ⟨⟨⟨rfl, rfl, rfl, rfl, rfl⟩, .inr ⟨(by omega : 0 < i + 2), (by omega : i + 2 ≤ p2.length + 2), k1, k2⟩⟩, (by omega : (p2.length + 4 - (i + 2)).toNat < (p2.length + 4 - i).toNat)⟩
 ·have h0 : ¬ i = 0 := by simpa using h0
  have hh := of_decide_eq_false hh
  rcases hg with ⟨h1, _⟩ | ⟨g0, g1, g2, g3⟩
  ·omega
  ·rw [List.drop_eq_nil_of_le (by omega)] at g2
   have hv : (⟨a, b, c⟩ : TA3) = absS p1 p2 := g2
   rw [← hv]
   exact ⟨rfl, rfl, rfl⟩
def kx2 : Con TB.den := k3e.fnR (fun x => (fun (p0 : Int) (p1 : Int) (p2 : List Int) => p0 = 18446744069414584321 ∧ U64 p1 ∧ Us p2 ∧ p2.length ≤ 1099511627776) x.1 x.2.1 x.2.2.1) fun x => ((fun (p0 : Int) (p1 : Int) (p2 : List Int) => ((absS p1 p2).a0 : Int)) x.1 x.2.1 x.2.2.1, (fun (p0 : Int) (p1 : Int) (p2 : List Int) => ((absS p1 p2).a1 : Int)) x.1 x.2.1 x.2.2.1, (fun (p0 : Int) (p1 : Int) (p2 : List Int) => ((absS p1 p2).a2 : Int)) x.1 x.2.1 x.2.2.1, ())
theorem k1gh : kx2.Ok Try.prog TB := Con.ok_fn k3e bd107 fun x h => k1f8 (k1ab x.1 x.2.1 x.2.2.1 h)
def k6c : Con TB.den := Con.mk0 87 [.one (.d (.int .u64)), .one (.d (.int .u64)), .one (.d (.sl (.int .u64)))] [] (.one (.one (.d (.int .u64)))) []
abbrev k1c9 := HL TB.den (hsT k6c.ins (hsOs k6c.pre))
abbrev kqn := HL TB.den (hsV k6c.res (hsOs k6c.post))
def khl : Cx TB := ⟨inf, [k8s, kx2], [], 4, []⟩
def koz : Code := Try.f87.body.getD .skip
def kuc : List ResultVar := Try.f87.results.toList
def k17i (o : kqn) : An TB := .no
def kp5 (x : k1c9) (o : kqn) : Prop := WPh TB khl 15 0 koz (k17i o) (k6c.st TB x) (retTQ TB khl k6c kuc o)
theorem k1jr (o : kqn) : OblH TB khl 15 0 koz (k17i o) (retTQ TB khl k6c kuc o) :=
 OblH.ofC (X := True) (by kernel_rfl) trivial
theorem k1l5 {x : k1c9} {o : kqn} (h : kp5 x o) : k6c.Snd Try.prog x o :=
 Con.soundH (c := k6c) (C := khl) TBok ⟨inf_ok, (all_cons kcp (all_cons k1gh all_nil)), all_nil⟩ mix Try.func87 (show Try.f87.body = some koz by kernel_rfl) (show Try.f87.ntmps = 15 by kernel_rfl) (show Try.f87.results.toList = kuc by kernel_rfl) rfl h (k1jr o)
theorem k1m2 {p0 : Int} {p1 : Int} {p2 : List Int} {r0 : Int} (h :
((p0 = 18446744069414584321) ∧ ((!true) = true →
 0 = r0) ∧
((!true) = false →
(p0 = 18446744069414584321 ∧ U64 p1 ∧ Us p2 ∧ p2.length ≤ 1099511627776) ∧ (absS p1 p2).a0 = r0))) : kp5 (p0, p1, p2, ()) (r0, ()) := WPh.of_eq (by kernel_rfl) h
theorem bd87 : Callable Try.prog 87 := ⟨by rw [Try.func87]; kernel_rfl, by rw [Try.func87]; show some _ ≠ some _; decide⟩
theorem k1hz (p0 : Int) (p1 : Int) (p2 : List Int) (h : p0 = 18446744069414584321 ∧ U64 p1 ∧ Us p2 ∧ p2.length ≤ 1099511627776) : kp5 (p0, p1, p2, ()) (((hashS p1 p2) : Int), ()) := by
 obtain ⟨hP, h1, h2, h3⟩ := h
 subst hP
 exact k1m2 ⟨rfl, fun h => by simp at h, fun _ => ⟨⟨rfl, h1, h2, h3⟩, rfl⟩⟩
def krv : Con TB.den := k6c.fnR (fun x => (fun (p0 : Int) (p1 : Int) (p2 : List Int) => p0 = 18446744069414584321 ∧ U64 p1 ∧ Us p2 ∧ p2.length ≤ 1099511627776) x.1 x.2.1 x.2.2.1) fun x => ((fun (p0 : Int) (p1 : Int) (p2 : List Int) => ((hashS p1 p2) : Int)) x.1 x.2.1 x.2.2.1, ())
theorem k17e : krv.Ok Try.prog TB := Con.ok_fn k6c bd87 fun x h => k1l5 (k1hz x.1 x.2.1 x.2.2.1 h)
def k5p : Con TB.den := Con.mk0 90 [.one (.d (.int .u64)), .one (.d (.sl (.int .u64)))] [] (.one (.one (.d (.int .u64)))) []
abbrev k1ce := HL TB.den (hsT k5p.ins (hsOs k5p.pre))
abbrev kb2 := HL TB.den (hsV k5p.res (hsOs k5p.post))
def k9m : Cx TB := ⟨inf, [krv], [], 4, []⟩
def kds : Code := Try.f90.body.getD .skip
def knh : List ResultVar := Try.f90.results.toList
def k1lp (o : kb2) := qS TB k9m 25 0 (cB (cB (cB kds))) .no (retTQ TB k9m k5p knh o)
def kec : Tm := ⟨[1], [.tip (.int .u64)], [0, 1, 5, 6], [.one (.d (.int .u64)), .one (.d (.sl (.int .u64))), .one (.own 0), .one (.d (.int .i64))], 2⟩
def khh (o : kb2) (nx1 : NX TB kec) (i : HL TB.den kec.hs) : Prop := WP TB k9m 25 0 (cA (cA (cB (cA (cB (cB kds)))))) .no (kec.fill TB i) (qM TB 0 kec nx1 (blockT TB 0 (k1lp o)))
def k1m1 (o : kb2) : An TB := .lp [.tok 5 (.int .u64)] kec (khh o) fun nx1 => .no
def k1mg (o : kb2) : An TB := .nd [] .no [] (.nd [] (.nd [] .no [] (k1m1 o)) [] .no)
def k177 (o : kb2) : An TB := .nd [] .no [] (k1mg o)
def kpd (x : k1ce) (o : kb2) : Prop := WPh TB k9m 25 0 kds (k177 o) (k5p.st TB x) (retTQ TB k9m k5p knh o)
theorem k1kh (o : kb2) : OblH TB k9m 25 0 kds (k177 o) (retTQ TB k9m k5p knh o) :=
 OblH.ofC (X := ((∀ nx i, (khh o) nx i = (khh o) nx i) ∧ (∀ nx1 : NX TB kec, True) ∧ True)) (by kernel_rfl) ⟨fun _ _ => rfl, fun _ => trivial, trivial⟩
theorem k1kk {x : k1ce} {o : kb2} (h : kpd x o) : k5p.Snd Try.prog x o :=
 Con.soundH (c := k5p) (C := k9m) TBok ⟨inf_ok, (all_cons k17e all_nil), all_nil⟩ mix Try.func90 (show Try.f90.body = some kds by kernel_rfl) (show Try.f90.ntmps = 25 by kernel_rfl) (show Try.f90.results.toList = knh by kernel_rfl) rfl h (k1kh o)
theorem k1mt {p0 : Int} {p1 : List Int} {r0 : Int} (h :
((([] : List Int) = ([] : List Int)) ∧ Md.Loop (p0, p1, (0 : Int), (([] : List Int) : List Int), ()) (khh (r0, ())))) : kpd (p0, p1, ()) (r0, ()) := WPh.of_eq (by kernel_rfl) h
def k17y (r0 : Int) (k1 : Int → List Int → Prop) (s0 : Int) (s1 : List Int) (s6 : Int) (g1 : List Int) : Prop :=
(decide (s6 < (s1.length : Int)) = true →
(0 ≤ s6) ∧ s6 < (s1.length : Int) ∧ g1.length = g1.length ∧ (g1.length + [Int.tmod (ix s1 s6) 18446744069414584321].length) * 8 ≤ 140737488355328 ∧ g1.length + [Int.tmod (ix s1 s6) 18446744069414584321].length ≤ maxLen ∧ let v1 : List Int := g1 ++ [Int.tmod (ix s1 s6) 18446744069414584321]
(v1 = v1) ∧ k1 (IntKind.i64.wrap (s6 + 1) : Int) v1) ∧
(decide (s6 < (s1.length : Int)) = false →
((18446744069414584321 : Int) = 18446744069414584321 ∧ U64 s0 ∧ Us g1 ∧ g1.length ≤ 1099511627776) ∧ (hashS s0 g1) = r0)
theorem k1jk {r0 : Int} {s0 : Int} {s1 : List Int} {s6 : Int} {g1 : List Int} (inv : Int → List Int → Prop) (μ : Int → List Int → Nat) (h0 : inv s6 g1) (hs : ∀ (s6 : Int) (g1 : List Int), inv s6 g1 → k17y r0 (fun s6q g1q => inv s6q g1q ∧ μ s6q g1q < μ s6 g1) s0 s1 s6 g1) : Md.Loop (s0, s1, s6, g1, ()) (khh (r0, ())) :=
 ⟨⟨fun s : Int × (List Int) × Int × (List Int) × Unit => (s.1 = s0 ∧ s.2.1 = s1) ∧ inv s.2.2.1 s.2.2.2.1, fun s : Int × (List Int) × Int × (List Int) × Unit => μ s.2.2.1 s.2.2.2.1, ⟨⟨rfl, rfl⟩, h0⟩, fun (s0p, s1p, s6p, g1p, ()) ⟨⟨eq0, eq1⟩, hi⟩ => by
  have eq0 : s0p = s0 := eq0; subst s0p; have eq1 : s1p = s1 := eq1; subst s1p; exact mpr_of (by kernel_rfl) ((congrArg (fun k => k17y r0 k s0 s1 s6p g1p) (lpk2 (⟨rfl, rfl⟩ : s0 = s0 ∧ s1 = s1) inv (fun s6q g1q => μ s6q g1q < μ s6p g1p))).mpr (hs s6p g1p hi))⟩⟩
theorem bd90 : Callable Try.prog 90 := ⟨by rw [Try.func90]; kernel_rfl, by rw [Try.func90]; show some _ ≠ some _; decide⟩
theorem k1gb (p0 : Int) (p1 : List Int) (h : U64 p0 ∧ Us p1 ∧ (∀ x ∈ p1, x < 18446744069414584321) ∧ p1.length ≤ 1073741824) : kpd (p0, p1, ()) (((hashS p0 p1) : Int), ()) := by
 obtain ⟨h0, h1, h2, h3⟩ := h
 refine k1mt ⟨by trivial, k1jk (fun i g => MapI (fun x => x) p1 i g) (fun i _ => (p1.length - i).toNat) MapI.start ?_⟩
 intro i g hg
 have hl := hg.len
 refine ⟨fun hh => ?_, fun hh => ?_⟩
 ·have hh := of_decide_eq_true hh
  have hx := h1 _ (ix_mem p1 i hg.1 hh)
  have hx2 := h2 _ (ix_mem p1 i hg.1 hh)
  have e : Int.tmod (ix p1 i) 18446744069414584321 = ix p1 i := by rw [tmod_nn _ _ hx.1]; omega
  rw [e]
  have := hg.1
  exact ⟨hg.1, hh, rfl, by simp; omega, by simp; unfold maxLen; omega, by trivial, hg.next hh (by omega) rfl⟩
 ·have e := hg.done (of_decide_eq_false hh)
  rw [List.map_id'] at e
  subst e
  exact ⟨⟨rfl, h0, h1, by omega⟩, rfl⟩
def k12v : Con TB.den := k5p.fnR (fun x => (fun (p0 : Int) (p1 : List Int) => U64 p0 ∧ Us p1 ∧ (∀ x ∈ p1, x < 18446744069414584321) ∧ p1.length ≤ 1073741824) x.1 x.2.1) fun x => ((fun (p0 : Int) (p1 : List Int) => ((hashS p0 p1) : Int)) x.1 x.2.1, ())
theorem k1mc : k12v.Ok Try.prog TB := Con.ok_fn k5p bd90 fun x h => k1kk (k1gb x.1 x.2.1 h)
def k3r : Con TB.den := Con.mk0 45 [.one (.d (.int .u64))] [] (.one (.one (.d (.int .u64)))) []
abbrev kza := HL TB.den (hsT k3r.ins (hsOs k3r.pre))
abbrev ki7 := HL TB.den (hsV k3r.res (hsOs k3r.post))
def kcr : Cx TB := ⟨inf, [k12v], [], 4, []⟩
def kiu : Code := Try.f45.body.getD .skip
def kna : List ResultVar := Try.f45.results.toList
def kvt (o : ki7) : An TB := .no
def kit (x : kza) (o : ki7) : Prop := WPh TB kcr 6 0 kiu (kvt o) (k3r.st TB x) (retTQ TB kcr k3r kna o)
theorem k1cb (o : ki7) : OblH TB kcr 6 0 kiu (kvt o) (retTQ TB kcr k3r kna o) :=
 OblH.ofC (X := True) (by kernel_rfl) trivial
theorem k1bl {x : kza} {o : ki7} (h : kit x o) : k3r.Snd Try.prog x o :=
 Con.soundH (c := k3r) (C := kcr) TBok ⟨inf_ok, (all_cons k1mc all_nil), all_nil⟩ mix Try.func45 (show Try.f45.body = some kiu by kernel_rfl) (show Try.f45.ntmps = 6 by kernel_rfl) (show Try.f45.results.toList = kna by kernel_rfl) rfl h (k1cb o)
theorem k1f2 {p0 : Int} {r0 : Int} (h :
((U64 (7 : Int) ∧ Us [p0] ∧ (∀ x ∈ [p0], x < 18446744069414584321) ∧ [p0].length ≤ 1073741824) ∧ (hashS (7 : Int) [p0]) = r0)) : kit (p0, ()) (r0, ()) := WPh.of_eq (by kernel_rfl) h
theorem bd45 : Callable Try.prog 45 := ⟨by rw [Try.func45]; kernel_rfl, by rw [Try.func45]; show some _ ≠ some _; decide⟩
theorem k19h (p0 : Int) (h : U64 p0 ∧ p0 < 18446744069414584321) : kit (p0, ()) (((acctS p0) : Int), ()) := by
 refine k1f2 ⟨⟨by decide, ?_, ?_, by simp⟩, rfl⟩
 ·intro x hx; rw [List.mem_singleton] at hx; subst hx; exact h.1
 ·intro x hx; rw [List.mem_singleton] at hx; subst hx; exact h.2
def ktp : Con TB.den := k3r.fnR (fun x => (fun (p0 : Int) => U64 p0 ∧ p0 < 18446744069414584321) x.1) fun x => ((fun (p0 : Int) => ((acctS p0) : Int)) x.1, ())
theorem k1dl : ktp.Ok Try.prog TB := Con.ok_fn k3r bd45 fun x h => k1bl (k19h x.1 h)
def k68 : Con TB.den := Con.mk0 19 [.agg [.d (.int .u64), .d (.int .u64), .d (.int .u64), .d (.int .u64)]] [] (.one (.one (.d (.sl (.int .u64))))) []
abbrev k1c0 := HL TB.den (hsT k68.ins (hsOs k68.pre))
abbrev kqp := HL TB.den (hsV k68.res (hsOs k68.post))
def khm : Cx TB := ⟨inf, [], [], 4, []⟩
def kp1 : Code := Try.f19.body.getD .skip
def kum : List ResultVar := Try.f19.results.toList
def k172 (o : kqp) : An TB := .no
def kpb (x : k1c0) (o : kqp) : Prop := WPh TB khm 12 0 kp1 (k172 o) (k68.st TB x) (retTQ TB khm k68 kum o)
theorem k1ky (o : kqp) : OblH TB khm 12 0 kp1 (k172 o) (retTQ TB khm k68 kum o) :=
 OblH.ofC (X := True) (by kernel_rfl) trivial
theorem k1le {x : k1c0} {o : kqp} (h : kpb x o) : k68.Snd Try.prog x o :=
 Con.soundH (c := k68) (C := khm) TBok ⟨inf_ok, all_nil, all_nil⟩ mix Try.func19 (show Try.f19.body = some kp1 by kernel_rfl) (show Try.f19.ntmps = 12 by kernel_rfl) (show Try.f19.results.toList = kum by kernel_rfl) rfl h (k1ky o)
theorem k1m3 {p0 : TNote} {r0 : List Int} (h :
([p0.Value, p0.Owner, p0.Rho, p0.Blind] = r0)) : kpb (p0.Value, p0.Owner, p0.Rho, p0.Blind, ()) (r0, ()) := WPh.of_eq (by kernel_rfl) h
theorem bd19 : Callable Try.prog 19 := ⟨by rw [Try.func19]; kernel_rfl, by rw [Try.func19]; show some _ ≠ some _; decide⟩
theorem k1gx (p0 : TNote) : kpb (p0.Value, p0.Owner, p0.Rho, p0.Blind, ()) (((noteL p0) : List Int), ()) := by
 exact k1m3 rfl
def k13y : Con TB.den := k68.totR fun x => ((fun (p0 : TNote) => ((noteL p0) : List Int)) (TNote.mk x.1 x.2.1 x.2.2.1 x.2.2.2.1), ())
theorem k1lo : k13y.Ok Try.prog TB := Con.ok_tot k68 bd19 fun x => k1le (k1gx (TNote.mk x.1 x.2.1 x.2.2.1 x.2.2.2.1))
def k3g : Con TB.den := Con.mk0 52 [.one (.d (.int .u64))] [] (.one (.one (.d (.bool)))) []
abbrev kz7 := HL TB.den (hsT k3g.ins (hsOs k3g.pre))
abbrev kie := HL TB.den (hsV k3g.res (hsOs k3g.post))
def kcl : Cx TB := ⟨inf, [], [], 4, []⟩
def kj6 : Code := Try.f52.body.getD .skip
def km9 : List ResultVar := Try.f52.results.toList
def kvj (o : kie) : An TB := .no
def kjd (x : kz7) (o : kie) : Prop := WPh TB kcl 5 0 kj6 (kvj o) (k3g.st TB x) (retTQ TB kcl k3g km9 o)
theorem k1cc (o : kie) : OblH TB kcl 5 0 kj6 (kvj o) (retTQ TB kcl k3g km9 o) :=
 OblH.ofC (X := True) (by kernel_rfl) trivial
theorem k1br {x : kz7} {o : kie} (h : kjd x o) : k3g.Snd Try.prog x o :=
 Con.soundH (c := k3g) (C := kcl) TBok ⟨inf_ok, all_nil, all_nil⟩ mix Try.func52 (show Try.f52.body = some kj6 by kernel_rfl) (show Try.f52.ntmps = 5 by kernel_rfl) (show Try.f52.results.toList = km9 by kernel_rfl) rfl h (k1cc o)
theorem k1et {p0 : Int} {r0 : Bool} (h :
(decide (p0 < 18446744069414584321) = r0)) : kjd (p0, ()) (r0, ()) := WPh.of_eq (by kernel_rfl) h
theorem bd52 : Callable Try.prog 52 := ⟨by rw [Try.func52]; kernel_rfl, by rw [Try.func52]; show some _ ≠ some _; decide⟩
theorem k18x (p0 : Int) : kjd (p0, ()) (((decide (p0 < 18446744069414584321)) : Bool), ()) := by
 exact k1et rfl
def kf4 : Con TB.den := k3g.totR fun x => ((fun (p0 : Int) => ((decide (p0 < 18446744069414584321)) : Bool)) x.1, ())
theorem kn7 : kf4.Ok Try.prog TB := Con.ok_tot k3g bd52 fun x => k1br (k18x x.1)
def k2e : Con TB.den := Con.mk0 36 [.one (.d (.sl (.int .u64)))] [] (.one (.one (.d (.bool)))) []
abbrev kvq := HL TB.den (hsT k2e.ins (hsOs k2e.pre))
abbrev k6r := HL TB.den (hsV k2e.res (hsOs k2e.post))
def k61 : Cx TB := ⟨inf, [kf4], [], 4, []⟩
def k9d : Code := Try.f36.body.getD .skip
def kf3 : List ResultVar := Try.f36.results.toList
def k1bd (o : k6r) := qS TB k61 16 0 (cB (cB k9d)) .no (retTQ TB k61 k2e kf3 o)
def k6w : Tm := ⟨[], [], [0, 3], [.one (.d (.sl (.int .u64))), .one (.d (.int .i64))], 0⟩
def k1cg (o : k6r) (nx1 : NX TB k6w) := qM TB 0 k6w nx1 (blockT TB 0 (k1bd o))
def kb6 (o : k6r) (nx1 : NX TB k6w) (i : HL TB.den k6w.hs) : Prop := WP TB k61 16 0 (cA (cA (cB (cA (cB k9d))))) .no (k6w.fill TB i) (k1cg o nx1)
def k1c4 (o : k6r) : An TB := .nd [] .no [] (.lp [] k6w (kb6 o) fun nx1 => .no)
def ktf (o : k6r) : An TB := .nd [] .no [] (.nd [] (k1c4 o) [] .no)
def khc (x : kvq) (o : k6r) : Prop := WPh TB k61 16 0 k9d (ktf o) (k2e.st TB x) (retTQ TB k61 k2e kf3 o)
theorem k1a1 (o : k6r) : OblH TB k61 16 0 k9d (ktf o) (retTQ TB k61 k2e kf3 o) :=
 OblH.ofC (X := ((∀ nx i, (kb6 o) nx i = (kb6 o) nx i) ∧ (∀ nx1 : NX TB k6w, True) ∧ True)) (by kernel_rfl) ⟨fun _ _ => rfl, fun _ => trivial, trivial⟩
theorem k1a5 {x : kvq} {o : k6r} (h : khc x o) : k2e.Snd Try.prog x o :=
 Con.soundH (c := k2e) (C := k61) TBok ⟨inf_ok, (all_cons kn7 all_nil), all_nil⟩ mix Try.func36 (show Try.f36.body = some k9d by kernel_rfl) (show Try.f36.ntmps = 16 by kernel_rfl) (show Try.f36.results.toList = kf3 by kernel_rfl) rfl h (k1a1 o)
theorem k1ak {p0 : List Int} {r0 : Bool} (h :
(Md.Loop (p0, (0 : Int), ()) (kb6 (r0, ())))) : khc (p0, ()) (r0, ()) := WPh.of_eq (by kernel_rfl) h
def kte (r0 : Bool) (k1 : Int → Prop) (s0 : List Int) (s3 : Int) : Prop :=
(decide (s3 < (s0.length : Int)) = true →
(0 ≤ s3) ∧ s3 < (s0.length : Int) ∧ let r1 : Bool := (decide ((ix s0 s3) < 18446744069414584321))
((!r1) = true →
 false = r0) ∧
((!r1) = false →
 k1 (IntKind.i64.wrap (s3 + 1) : Int))) ∧
(decide (s3 < (s0.length : Int)) = false →
 true = r0)
theorem k18m {r0 : Bool} {s0 : List Int} {s3 : Int} (inv : Int → Prop) (μ : Int → Nat) (h0 : inv s3) (hs : ∀ (s3 : Int), inv s3 → kte r0 (fun s3q => inv s3q ∧ μ s3q < μ s3) s0 s3) : Md.Loop (s0, s3, ()) (kb6 (r0, ())) :=
 ⟨⟨fun s : (List Int) × Int × Unit => (s.1 = s0) ∧ inv s.2.1, fun s : (List Int) × Int × Unit => μ s.2.1, ⟨rfl, h0⟩, fun (s0p, s3p, ()) ⟨eq0, hi⟩ => by
  have eq0 : s0p = s0 := eq0; subst s0p; exact mpr_of (by kernel_rfl) ((congrArg (fun k => kte r0 k s0 s3p) (lpk1 (rfl : s0 = s0) inv (fun s3q => μ s3q < μ s3p))).mpr (hs s3p hi))⟩⟩
theorem bd36 : Callable Try.prog 36 := ⟨by rw [Try.func36]; kernel_rfl, by rw [Try.func36]; show some _ ≠ some _; decide⟩
theorem k15x (p0 : List Int) (h : p0.length ≤ 9223372036854775807) : khc (p0, ()) (((p0.all (fun x => decide (x < 18446744069414584321))) : Bool), ()) := by
 refine k1ak (k18m (AllI (fun x => decide (x < 18446744069414584321)) p0) (fun i => (p0.length - i).toNat) AllI.start ?_)
 intro i hi
 refine ⟨fun hh => ?_, fun hh => (hi.done (of_decide_eq_false hh)).symm⟩
 have hh := of_decide_eq_true hh
 exact ⟨hi.1, hh, fun e => (hi.bad hh (by simpa using e)).symm, fun e => hi.next hh (by omega) (by simpa using e)⟩
def kip : Con TB.den := k2e.fnR (fun x => (fun (p0 : List Int) => p0.length ≤ 9223372036854775807) x.1) fun x => ((fun (p0 : List Int) => ((p0.all (fun x => decide (x < 18446744069414584321))) : Bool)) x.1, ())
theorem ku4 : kip.Ok Try.prog TB := Con.ok_fn k2e bd36 fun x h => k1a5 (k15x x.1 h)
def k58 : Con TB.den := Con.mk0 78 [.agg [.d (.int .u64), .d (.int .u64), .d (.int .u64), .d (.int .u64)]] [] (.one (.one (.d (.bool)))) []
abbrev k17u := HL TB.den (hsT k58.ins (hsOs k58.pre))
abbrev knt := HL TB.den (hsV k58.res (hsOs k58.post))
def kff : Cx TB := ⟨inf, [kip], [], 4, []⟩
def kn8 : Code := Try.f78.body.getD .skip
def ks3 : List ResultVar := Try.f78.results.toList
def k11z (o : knt) : An TB := .no
def kn1 (x : k17u) (o : knt) : Prop := WPh TB kff 16 0 kn8 (k11z o) (k58.st TB x) (retTQ TB kff k58 ks3 o)
theorem k1ia (o : knt) : OblH TB kff 16 0 kn8 (k11z o) (retTQ TB kff k58 ks3 o) :=
 OblH.ofC (X := True) (by kernel_rfl) trivial
theorem k1hr {x : k17u} {o : knt} (h : kn1 x o) : k58.Snd Try.prog x o :=
 Con.soundH (c := k58) (C := kff) TBok ⟨inf_ok, (all_cons ku4 all_nil), all_nil⟩ mix Try.func78 (show Try.f78.body = some kn8 by kernel_rfl) (show Try.f78.ntmps = 16 by kernel_rfl) (show Try.f78.results.toList = ks3 by kernel_rfl) rfl h (k1ia o)
theorem k1ix {p0 : TNote} {r0 : Bool} (h :
((decide (p0.Value ≤ 4294967295) = true →
([p0.Owner, p0.Rho, p0.Blind].length ≤ 9223372036854775807) ∧ let r1 : Bool := ([p0.Owner, p0.Rho, p0.Blind].all (fun x => decide (x < 18446744069414584321)))
 r1 = r0) ∧
(decide (p0.Value ≤ 4294967295) = false →
 false = r0))) : kn1 (p0.Value, p0.Owner, p0.Rho, p0.Blind, ()) (r0, ()) := WPh.of_eq (by kernel_rfl) h
theorem bd78 : Callable Try.prog 78 := ⟨by rw [Try.func78]; kernel_rfl, by rw [Try.func78]; show some _ ≠ some _; decide⟩
theorem k1d1 (p0 : TNote) : kn1 (p0.Value, p0.Owner, p0.Rho, p0.Blind, ()) (((noteV p0) : Bool), ()) := by
 have e : [p0.Owner, p0.Rho, p0.Blind].all (fun x => decide (x < 18446744069414584321)) = (decide (p0.Owner < 18446744069414584321) && (decide (p0.Rho < 18446744069414584321) && decide (p0.Blind < 18446744069414584321))) := by simp
 refine k1ix ⟨fun h => ⟨by simp, ?_⟩, fun h => ?_⟩
 ·rw [e]; unfold noteV; rw [h]; simp [Bool.and_assoc]
 ·unfold noteV; rw [h]; rfl
def kid : Con TB.den := k58.totR fun x => ((fun (p0 : TNote) => ((noteV p0) : Bool)) (TNote.mk x.1 x.2.1 x.2.2.1 x.2.2.2.1), ())
theorem kry : kid.Ok Try.prog TB := Con.ok_tot k58 bd78 fun x => k1hr (k1d1 (TNote.mk x.1 x.2.1 x.2.2.1 x.2.2.2.1))
def k4g : Con TB.den := Con.mk0 67 [.agg [.d (.int .u64), .d (.int .u64), .d (.int .u64), .d (.int .u64)]] [] (.one (.one (.d (.int .u64)))) []
abbrev k147 := HL TB.den (hsT k4g.ins (hsOs k4g.pre))
abbrev kk3 := HL TB.den (hsV k4g.res (hsOs k4g.post))
def kdy : Cx TB := ⟨inf, [kid, k13y, krv], [], 4, []⟩
def kl5 : Code := Try.f67.body.getD .skip
def kp6 : List ResultVar := Try.f67.results.toList
def k10h (o : kk3) : An TB := .no
def kke (x : k147) (o : kk3) : Prop := WPh TB kdy 9 0 kl5 (k10h o) (k4g.st TB x) (retTQ TB kdy k4g kp6 o)
theorem k1ej (o : kk3) : OblH TB kdy 9 0 kl5 (k10h o) (retTQ TB kdy k4g kp6 o) :=
 OblH.ofC (X := True) (by kernel_rfl) trivial
theorem k1dj {x : k147} {o : kk3} (h : kke x o) : k4g.Snd Try.prog x o :=
 Con.soundH (c := k4g) (C := kdy) TBok ⟨inf_ok, (all_cons kry (all_cons k1lo (all_cons k17e all_nil))), all_nil⟩ mix Try.func67 (show Try.f67.body = some kl5 by kernel_rfl) (show Try.f67.ntmps = 9 by kernel_rfl) (show Try.f67.results.toList = kp6 by kernel_rfl) rfl h (k1ej o)
theorem k1gg {p0 : TNote} {r0 : Int} (h :
(((!(noteV p0)) = true →
 0 = r0) ∧
((!(noteV p0)) = false →
((18446744069414584321 : Int) = 18446744069414584321 ∧ U64 (2 : Int) ∧ Us (noteL p0) ∧ (noteL p0).length ≤ 1099511627776) ∧ (hashS (2 : Int) (noteL p0)) = r0))) : kke (p0.Value, p0.Owner, p0.Rho, p0.Blind, ()) (r0, ()) := WPh.of_eq (by kernel_rfl) h
theorem bd67 : Callable Try.prog 67 := ⟨by rw [Try.func67]; kernel_rfl, by rw [Try.func67]; show some _ ≠ some _; decide⟩
theorem k1ao (p0 : TNote) (h : NR p0) : kke (p0.Value, p0.Owner, p0.Rho, p0.Blind, ()) (((if noteV p0 = true then hashS 2 (noteL p0) else 0) : Int), ()) := by
 have hu : Us (noteL p0) := by
  intro x hx
  simp only [noteL, List.mem_cons, List.not_mem_nil, or_false] at hx
  rcases hx with rfl | rfl | rfl | rfl
  ·exact h.v
  ·exact h.o
  ·exact h.r
  ·exact h.b
 refine k1gg ?_
 simp only [k13o]
 refine ⟨fun e => ?_, fun e => ⟨⟨by trivial, by decide, hu, by simp [noteL]⟩, ?_⟩⟩
 ·rw [if_neg (by simpa using e)]
 ·rw [if_pos (by simpa using e)]
def kva : Con TB.den := k4g.fnR (fun x => (fun (p0 : TNote) => NR p0) (TNote.mk x.1 x.2.1 x.2.2.1 x.2.2.2.1)) fun x => ((fun (p0 : TNote) => ((if noteV p0 = true then hashS 2 (noteL p0) else 0) : Int)) (TNote.mk x.1 x.2.1 x.2.2.1 x.2.2.2.1), ())
theorem k1h5 : kva.Ok Try.prog TB := Con.ok_fn k4g bd67 fun x h => k1dj (k1ao (TNote.mk x.1 x.2.1 x.2.2.1 x.2.2.2.1) h)
def k3h : Con TB.den := Con.mk0 30 [.one (.d (.int .u64))] [] (.tup [.agg [.d (.int .i64), .d (.int .u64), .d (.sl (.int .u64)), .d (.sl (.int .u64)), .d (.sl (.int .u64)), .d (.int .u64), .d (.int .u64), .d (.int .u64), .d (.int .u64), .d (.int .u64)], .agg [.d (.sl (.st 0)), .d (.sl (.st 1)), .d (.int .u64)]]) []
abbrev kzt := HL TB.den (hsT k3h.ins (hsOs k3h.pre))
abbrev kic := HL TB.den (hsV k3h.res (hsOs k3h.post))
def kbz : Cx TB := ⟨inf, [kva, ktp], [], 4, []⟩
def kio : Code := Try.f30.body.getD .skip
def kmz : List ResultVar := Try.f30.results.toList
def kw9 (o : kic) : An TB := .no
def kjc (x : kzt) (o : kic) : Prop := WPh TB kbz 18 0 kio (kw9 o) (k3h.st TB x) (retTQ TB kbz k3h kmz o)
theorem k1cl (o : kic) : OblH TB kbz 18 0 kio (kw9 o) (retTQ TB kbz k3h kmz o) :=
 OblH.ofC (X := True) (by kernel_rfl) trivial
theorem k1a8 {x : kzt} {o : kic} (h : kjc x o) : k3h.Snd Try.prog x o :=
 Con.soundH (c := k3h) (C := kbz) TBok ⟨inf_ok, (all_cons k1h5 (all_cons k1dl all_nil)), all_nil⟩ mix Try.func30 (show Try.f30.body = some kio by kernel_rfl) (show Try.f30.ntmps = 18 by kernel_rfl) (show Try.f30.results.toList = kmz by kernel_rfl) rfl h (k1cl o)
theorem k1ds {p0 : Int} {r0 : TStatement} {r1 : TWitness} (h :
((NR (TNote.mk 5 1 2 3)) ∧ let r2 : Int := (if noteV (TNote.mk 5 1 2 3) = true then hashS 2 (noteL (TNote.mk 5 1 2 3)) else 0)
(U64 (9 : Int) ∧ (9 : Int) < 18446744069414584321) ∧ 1 = r0.Depth ∧ 0 = r0.Anchor ∧ ([] : List Int) = r0.Marks ∧ [r2] = r0.Commits ∧ [2] = r0.Rhos ∧ 7 = r0.Deposit ∧ 0 = r0.Withdraw ∧ p0 = r0.Fee ∧ (acctS (9 : Int)) = r0.Account ∧ 0 = r0.Bind ∧ ([] : List TSpent) = r1.Ins ∧ [TNote.mk 5 1 2 3] = r1.Outs ∧ 9 = r1.Secret)) : kjc (p0, ()) (r0.Depth, r0.Anchor, r0.Marks, r0.Commits, r0.Rhos, r0.Deposit, r0.Withdraw, r0.Fee, r0.Account, r0.Bind, r1.Ins, r1.Outs, r1.Secret, ()) := WPh.of_eq (by kernel_rfl) h
theorem bd30 : Callable Try.prog 30 := ⟨by rw [Try.func30]; kernel_rfl, by rw [Try.func30]; show some _ ≠ some _; decide⟩
theorem k19b (p0 : Int) (h : U64 p0) : kjc (p0, ()) (((exS p0).Depth : Int), ((exS p0).Anchor : Int), ((exS p0).Marks : List Int), ((exS p0).Commits : List Int), ((exS p0).Rhos : List Int), ((exS p0).Deposit : Int), ((exS p0).Withdraw : Int), ((exS p0).Fee : Int), ((exS p0).Account : Int), ((exS p0).Bind : Int), (exW.Ins : List TSpent), (exW.Outs : List TNote), (exW.Secret : Int), ()) := by
 refine k1ds (r0 := exS p0) (r1 := exW) ⟨⟨by decide, by decide, by decide, by decide⟩, ?_⟩
 exact ⟨⟨by decide, by decide⟩, rfl, rfl, rfl, rfl, rfl, rfl, rfl, rfl, rfl, rfl, rfl, rfl, rfl⟩
def kty : Con TB.den := k3h.fnR (fun x => (fun (p0 : Int) => U64 p0) x.1) fun x => ((fun (p0 : Int) => ((exS p0).Depth : Int)) x.1, (fun (p0 : Int) => ((exS p0).Anchor : Int)) x.1, (fun (p0 : Int) => ((exS p0).Marks : List Int)) x.1, (fun (p0 : Int) => ((exS p0).Commits : List Int)) x.1, (fun (p0 : Int) => ((exS p0).Rhos : List Int)) x.1, (fun (p0 : Int) => ((exS p0).Deposit : Int)) x.1, (fun (p0 : Int) => ((exS p0).Withdraw : Int)) x.1, (fun (p0 : Int) => ((exS p0).Fee : Int)) x.1, (fun (p0 : Int) => ((exS p0).Account : Int)) x.1, (fun (p0 : Int) => ((exS p0).Bind : Int)) x.1, (fun (p0 : Int) => (exW.Ins : List TSpent)) x.1, (fun (p0 : Int) => (exW.Outs : List TNote)) x.1, (fun (p0 : Int) => (exW.Secret : Int)) x.1, ())
theorem k1ee : kty.Ok Try.prog TB := Con.ok_fn k3h bd30 fun x h => k1a8 (k19b x.1 h)
def k1j : Con TB.den := Con.mk0 32 [] [] (.one (.one (.ptr 0 0))) [.cells [.d (.bool), .d (.int .u64), .d (.int .i64), .d (.sl (.st 3)), .mp 1, .mp 2, .mp 3], .map (.str) (.int .i64), .map (.str) (.sl (.int .u64)), .map (.str) (.bool)]
abbrev koe := HL TB.den (hsT k1j.ins (hsOs k1j.pre))
abbrev kb1 := HL TB.den (hsV k1j.res (hsOs k1j.post))
def k7k : Cx TB := ⟨inf, [], [], 4, []⟩
def kck : Code := Try.f32.body.getD .skip
def keo : List ResultVar := Try.f32.results.toList
def klw (o : kb1) : An TB := .no
def kci (x : koe) (o : kb1) : Prop := WPh TB k7k 6 0 kck (klw o) (k1j.st TB x) (retTQ TB k7k k1j keo o)
theorem kxe (o : kb1) : OblH TB k7k 6 0 kck (klw o) (retTQ TB k7k k1j keo o) :=
 OblH.ofC (X := True) (by kernel_rfl) trivial
theorem kxh {x : koe} {o : kb1} (h : kci x o) : k1j.Snd Try.prog x o :=
 Con.soundH (c := k1j) (C := k7k) TBok ⟨inf_ok, all_nil, all_nil⟩ mix Try.func32 (show Try.f32.body = some kck by kernel_rfl) (show Try.f32.ntmps = 6 by kernel_rfl) (show Try.f32.results.toList = keo by kernel_rfl) rfl h (kxe o)
theorem k10w  {d0_0 : Bool} {d0_1 : Int} {d0_2 : Int} {d0_3 : List TQuestion} {e1k : List ByteArray} {e1v : List Int} {e2k : List ByteArray} {e2v : List (List Int)} {e3k : List ByteArray} {e3v : List Bool} (h :
(false = d0_0 ∧ 0 = d0_1 ∧ 0 = d0_2 ∧ ([] : List TQuestion) = d0_3 ∧ ([] : List ByteArray) = e1k ∧ ([] : List Int) = e1v ∧ ([] : List ByteArray) = e2k ∧ ([] : List (List Int)) = e2v ∧ ([] : List ByteArray) = e3k ∧ ([] : List Bool) = e3v)) : kci (()) (d0_0, d0_1, d0_2, d0_3, e1k, e1v, e2k, e2v, e3k, e3v, ()) := WPh.of_eq (by kernel_rfl) h
theorem bd32 : Callable Try.prog 32 := ⟨by rw [Try.func32]; kernel_rfl, by rw [Try.func32]; show some _ ≠ some _; decide⟩
theorem kvr : kci (()) ((false : Bool), (0 : Int), (0 : Int), ([] : List TQuestion), ([] : List ByteArray), ([] : List Int), ([] : List ByteArray), ([] : List (List Int)), ([] : List ByteArray), ([] : List Bool), ()) := by
 exact k10w ⟨rfl, rfl, rfl, rfl, rfl, rfl, rfl, rfl, rfl, rfl⟩
def kky : Con TB.den := k1j.totR fun x => ((false : Bool), (0 : Int), (0 : Int), ([] : List TQuestion), ([] : List ByteArray), ([] : List Int), ([] : List ByteArray), ([] : List (List Int)), ([] : List ByteArray), ([] : List Bool), ())
theorem k11s : kky.Ok Try.prog TB := Con.ok_tot k1j bd32 fun x => kxh (kvr )
end Go.Proofs.Ytpffhgljgpjenaa
end
