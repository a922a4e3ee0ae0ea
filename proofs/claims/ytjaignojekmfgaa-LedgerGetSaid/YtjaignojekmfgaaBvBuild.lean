/-
  Part of a machine over pure data and objects that is sound for the model: what it says of a Go function holds of every call of that function. Conditions: those in each theorem. It speaks of any program.
-/
import Derived.Test.YtjaignojekmfgaaBvOps
namespace Go.Bv
open Go.RowKit

section
variable {P : Program} {T : Tk} {G0 G : Gh} {w0 w : World} {N : Nat} {s : St} {a : Act} {h : Hp} {nx : Nat}

/-- The types of a type's cells. -/
def cellTys (P : Program) : Nat → TypeId → List TypeId
  | 0, t => [t]
  | n + 1, t => match P.underlying t with
    | some (.struct fs) => fs.toList.flatMap fun f => cellTys P n f.type
    | some (.array m e) => (List.range m).flatMap fun _ => cellTys P n e
    | _ => [t]
def zcell (P : Program) (v : Value) (ty : TypeId) : V :=
  match v, elemOf P ty with
  | .slice none 0 0, some (_, sz) => .full sz []
  | v, _ => V.ofK1 v
/-- The zero value's cells. -/
def zeroV (P : Program) (t : TypeId) : Option (List V) :=
  match P.info? t with
  | some i => match i.zero with
    | some z => if z.cells.all (·.oneCell') ∧ (cellTys P 16 t).length = z.cells.size then some (List.zipWith (zcell P) z.cells.toList (cellTys P 16 t)) else none
    | none => none
  | none => none
theorem zcell_rep (v : Value) (ty : TypeId) : RepV G w h nx v (zcell P v ty) := by
  unfold zcell
  split
  · exact .full none _ [] (.nil _)
  · exact ofK1_rep _
theorem zcell_one {v : Value} (ty : TypeId) (h1 : v.oneCell' = true) : (zcell P v ty).one = true := by
  unfold zcell
  split
  · rfl
  · exact ofK1_one h1
/-- Where the parts of a struct or an array lie. -/
def plOf (P : Program) (t : TypeId) : Option (List (Nat × Nat)) :=
  match P.underlying t with
  | some (.struct fs) => fs.toList.mapM fun f => (tyOf P f.type).map fun x => (f.offset, x.2)
  | some (.array n e) => (tyOf P e).map fun x => (List.range n).map fun i => (i * x.2, x.2)
  | _ => none
def V.flat (x : V) (n : Nat) : Prop := x.cells.length = n ∧ ∀ c ∈ x.cells, c.one = true

def fillV (pl : Nat → Option (Nat × Nat)) (K : List V → Prop) : List V → List (Nat × V) → Prop
  | l, [] => K l
  | l, (i, x) :: r => match pl i with
    | some (off, n) => x.flat n ∧ off + n ≤ l.length ∧ fillV pl K (setAt l off x.cells) r
    | none => False

theorem V.flat_iff_agg (l : List V) (n : Nat) : V.flat (.agg l) n ↔ l.length = n ∧ ∀ c ∈ l, c.one = true := Iff.rfl

def rowRep (G : Gh) (w : World) (h : Hp) (nx : Nat) (cs : List Value) (l : List V) : Prop :=
  cs.length = l.length ∧ (∀ x ∈ l, x.one = true) ∧ ∀ (j : Nat) (v : Value) (x : V), cs[j]? = some v → l[j]? = some x → RepV G w h nx v x

theorem zeroV_rep {t : TypeId} {l : List V} (hz : zeroV P t = some l) : ∃ i z, P.info? t = some i ∧ i.zero = some z ∧ rowRep G w h nx z.cells.toList l := by
  unfold zeroV at hz
  split at hz
  · rename_i i hi
    split at hz
    · rename_i z hz'
      split at hz
      · rename_i hall
        injection hz with hz
        subst hz
        obtain ⟨hall, htl⟩ := hall
        refine ⟨i, z, hi, hz', by simp [htl], fun x hx => ?_, fun j v x hv hx => ?_⟩
        · obtain ⟨j, hj, rfl⟩ := List.getElem_of_mem hx
          rw [List.getElem_zipWith]
          rw [Array.all_eq_true_iff_forall_mem] at hall
          exact zcell_one _ (hall _ (by simp))
        · rw [List.getElem?_zipWith] at hx
          rw [hv] at hx
          cases hty : (cellTys P 16 t)[j]? with
          | none => simp [hty] at hx
          | some ty =>
            simp [hty] at hx
            subst hx
            exact zcell_rep v ty
      · cases hz
    · cases hz
  · cases hz

/-- A value's cells. -/
theorem cells_rep {v : Value} {x : V} {n : Nat} (hx : RepV G w h nx v x) (hf : x.flat n) : v.cells.size = n ∧ rowRep G w h nx v.cells.toList x.cells := by
  obtain ⟨hlen, hone⟩ := hf
  have single : ∀ (v : Value) (x : V), x.cells = [x] → v.cells = #[v] → x.one = true → RepV G w h nx v x → v.cells.size = x.cells.length ∧ rowRep G w h nx v.cells.toList x.cells := by
    intro v x e1 e2 e3 e4
    rw [e1, e2]
    refine ⟨rfl, rfl, fun c hc => by simp at hc; subst hc; exact e3, fun j u c hu hc => ?_⟩
    cases j with
    | zero => simp at hu hc; subst hu; subst hc; exact e4
    | succ j => simp at hu
  rw [← hlen]
  cases x with
  | agg lx =>
    cases hx with | agg vs _ hlen' hone' hr =>
    exact ⟨by simpa [Value.cells, V.cells] using hlen', hlen', hone', hr⟩
  | _ =>
    have e3 := hone _ (List.mem_singleton.2 rfl)
    have e5 := hx.one e3
    exact single _ _ rfl (by cases v <;> first | rfl | cases e5) e3 hx

theorem rowRep.set {cs us : List Value} {l l2 : List V} (hc : rowRep G w h nx cs l) (hu : rowRep G w h nx us l2) {off : Nat} (hfit : off + l2.length ≤ l.length) :
    rowRep G w h nx (cs.take off ++ us ++ cs.drop (off + us.length)) (setAt l off l2) := by
  obtain ⟨h1, h2, h3⟩ := hc
  obtain ⟨g1, g2, g3⟩ := hu
  refine ⟨by simp only [setAt, List.length_append, List.length_take, List.length_drop]; omega, fun y hy => ?_, fun j v x hv hx => ?_⟩
  · simp only [setAt, List.mem_append] at hy
    rcases hy with (hy | hy) | hy
    · exact h2 y (List.mem_of_mem_take hy)
    · exact g2 y hy
    · exact h2 y (List.mem_of_mem_drop hy)
  · rw [getElem?_splice _ _ _ _ (by omega)] at hv
    unfold setAt at hx
    rw [getElem?_splice _ _ _ _ (by omega)] at hx
    rw [g1] at hv
    split at hv
    · rename_i hj
      rw [if_pos hj] at hx
      exact h3 j v x hv hx
    · rename_i hj
      rw [if_neg hj] at hx
      split at hv
      · rename_i hj2
        rw [if_pos hj2] at hx
        exact g3 _ _ _ hv hx
      · rename_i hj2
        rw [if_neg hj2] at hx
        exact h3 j v x hv hx

theorem foldl_set (off : Nat) : ∀ (us : List Value) (k : Nat) (cs : Array Value), off + k + us.length ≤ cs.size →
    (us.zipIdx k).foldl (fun cs x => cs.setIfInBounds (off + x.2) x.1) cs = (cs.toList.take (off + k) ++ us ++ cs.toList.drop (off + k + us.length)).toArray
  | [], k, cs, _ => by simp
  | u :: us, k, cs, hfit => by
    simp only [List.zipIdx_cons, List.foldl_cons]
    rw [foldl_set off us (k + 1) _ (by simp at hfit ⊢; omega)]
    apply congrArg List.toArray
    apply List.ext_getElem?
    intro j
    have e1 := getElem?_splice (cs.setIfInBounds (off + k) u).toList us (off + (k + 1)) j (by simp at hfit ⊢; omega)
    have e2 := getElem?_splice cs.toList (u :: us) (off + k) j (by simp at hfit ⊢; omega)
    rw [e1, e2]
    simp only [Array.toList_setIfInBounds, List.length_cons, List.getElem?_set, Array.length_toList] at hfit ⊢
    by_cases c1 : j < off + k
    · rw [if_pos (by omega), if_pos c1, if_neg (by omega)]
    · by_cases c2 : j = off + k
      · subst c2
        simp [show off + k < off + (k + 1) from by omega, show off + k < off + k + (us.length + 1) from by omega, show off + k < cs.size from by omega]
      · rw [if_neg (by omega), if_neg c1]
        by_cases c3 : j < off + (k + 1) + us.length
        · rw [if_pos c3, if_pos (by omega), show j - (off + k) = (j - (off + (k + 1))) + 1 by omega, List.getElem?_cons_succ]
        · rw [if_neg c3, if_neg (by omega), if_neg (by omega)]

theorem fill_sound {pl : Nat → Option (Nat × Nat)} {K : List V → Prop} {ρ : Operand → Value} {ev : Operand → V} (hev : ∀ x, RepV G w h nx (ρ x) (ev x)) :
    ∀ (parts : List (Nat × Operand)) (cs : List Value) (l : List V), rowRep G w h nx cs l → fillV pl K l (parts.map fun p => (p.1, ev p.2)) →
      ∃ cs' l', Instr.fill pl cs.toArray (parts.map fun p => (p.1, ρ p.2)) = some (List.toArray cs') ∧ rowRep G w h nx cs' l' ∧ K l'
  | [], cs, l, hc, hk => ⟨cs, l, rfl, hc, hk⟩
  | (i, x) :: parts, cs, l, hc, hk => by
    simp only [List.map_cons, fillV] at hk
    split at hk
    · rename_i off n hp
      obtain ⟨hf, hfit, hk⟩ := hk
      obtain ⟨hs, hr⟩ := cells_rep (hev x) hf
      have hn : (ev x).cells.length = n := hf.1
      have hcl := hc.1
      obtain ⟨us, hus⟩ : ∃ us : List Value, (ρ x).cells = us.toArray := ⟨(ρ x).cells.toList, by simp⟩
      rw [hus] at hs hr
      simp only [List.size_toArray] at hs hr
      have hul : us.length = n := hs
      obtain ⟨cs', l', h1, h2, h3⟩ := fill_sound hev parts _ _ (hc.set hr (by omega)) hk
      refine ⟨cs', l', ?_, h2, h3⟩
      simp only [List.map_cons, Instr.fill, hp, hus]
      rw [if_neg (by simp; omega)]
      have hfold := foldl_set off us 0 cs.toArray (by simp; omega)
      simp only [Nat.add_zero] at hfold
      rw [show (List.toArray us).zipIdx = (us.zipIdx 0).toArray by simp]
      simp only [List.size_toArray, List.foldl_toArray']
      have hgoal : (us.zipIdx 0).foldl (fun cs x => match x with | (c, j) => cs.setIfInBounds (off + j) c) cs.toArray = (cs.take off ++ us ++ cs.drop (off + us.length)).toArray := by
        simpa using hfold
      rw [hgoal]
      exact h1
    · exact hk.elim

theorem run_mapM_list {α β : Type} (f : α → Sem β) (g : α → β) : ∀ (l : List α), (∀ x ∈ l, (f x).run P w = .ok (g x) w) → (l.mapM f).run P w = .ok (l.map g) w
  | [], _ => by simp
  | x :: l, hx => by
    simp only [List.mapM_cons, Sem.run_bind, hx x (by simp), Result.andThen_ok, run_mapM_list f g l (fun y hy => hx y (by simp [hy])), Sem.run_pure, List.map_cons]

theorem mapM_opt {α β : Type} (f : α → Option β) : ∀ (l : List α) (r : List β), l.mapM f = some r → r.length = l.length ∧ ∀ (j : Nat) (x : α), l[j]? = some x → ∃ y, f x = some y ∧ r[j]? = some y
  | [], r, hr => by simp at hr; subst hr; exact ⟨rfl, fun j x hx => by simp at hx⟩
  | x :: l, r, hr => by
    simp only [List.mapM_cons, Option.bind_eq_bind, Option.bind_eq_some_iff, Option.pure_def, Option.some.injEq] at hr
    obtain ⟨y, hy, r', hr', rfl⟩ := hr
    obtain ⟨h1, h2⟩ := mapM_opt f l r' hr'
    refine ⟨by simp [h1], fun j z hz => ?_⟩
    cases j with
    | zero => simp at hz; subst hz; exact ⟨y, hy, by simp⟩
    | succ j => simp at hz; simpa using h2 j z hz

/-- BUILD a struct or an array. -/
theorem build_sound {t : TypeId} {pl : List (Nat × Nat)} {l0 : List V} {K : V → Prop} {ρ : Operand → Value} {ev : Operand → V} (hev : ∀ x, RepV G w h nx (ρ x) (ev x)) (parts : List (Nat × Operand))
    (hpl : plOf P t = some pl) (hz : zeroV P t = some l0) (hk : fillV (pl[·]?) (fun l => K (.agg l)) l0 (parts.map fun p => (p.1, ev p.2))) :
    ∃ v z, (Instr.build t (parts.map fun p => (p.1, ρ p.2)).toArray).run P w = .ok v w ∧ RepV G w h nx v z ∧ K z := by
  obtain ⟨i, z, hi, hzz, hrow⟩ := zeroV_rep (G := G) (w := w) (h := h) (nx := nx) hz
  obtain ⟨cs', l', h1, h2, h3⟩ := fill_sound hev parts _ _ hrow hk
  refine ⟨.agg cs'.toArray, .agg l', ?_, .agg cs' l' h2.1 h2.2.1 h2.2.2, h3⟩
  have hzr : (zeroValue t).run P w = .ok z w := by simp [zeroValue, typeInfo, hi, hzz]
  unfold plOf at hpl
  split at hpl
  · rename_i fs hu
    obtain ⟨hl, hp⟩ := mapM_opt _ _ _ hpl
    have hmap : (fs.mapM (fun f => do pure (f.offset, ← sizeOf f.type) : Field → Sem (Nat × Nat))).run P w = .ok pl.toArray w := by
      rw [Array.mapM_eq_mapM_toList]
      have hrun := run_mapM_list (P := P) (w := w) (fun f : Field => (do pure (f.offset, ← sizeOf f.type) : Sem (Nat × Nat))) (fun f => (f.offset, ((tyOf P f.type).map (·.2)).getD 0)) fs.toList (fun f hf => by
        obtain ⟨j, hj, rfl⟩ := List.getElem_of_mem hf
        obtain ⟨y, hy, _⟩ := hp j _ (List.getElem?_eq_getElem hj)
        cases htf : tyOf P fs.toList[j].type with
        | none => rw [htf] at hy; cases hy
        | some p =>
          obtain ⟨a, n⟩ := p
          simp only [Sem.run_bind, (tyOf_run htf w).2, Result.andThen_ok, Sem.run_pure, Option.map_some, Option.getD_some])
      simp only [Sem.run_map, hrun, Result.andThen_ok]
      congr 2
      apply List.ext_getElem?
      intro j
      rw [List.getElem?_map]
      cases hj : fs.toList[j]? with
      | none =>
        have : fs.toList.length ≤ j := List.getElem?_eq_none_iff.1 hj
        simp only [Option.map_none]
        exact (List.getElem?_eq_none (by omega)).symm
      | some f =>
        obtain ⟨y, hy, hy2⟩ := hp j f hj
        rw [hy2]
        cases htf : tyOf P f.type with
        | none => simp [htf] at hy
        | some p => simp [htf] at hy ⊢; exact hy
    simp only [Instr.build, Sem.run_bind, hzr, Result.andThen_ok, run_underlying hu]
    rw [hmap]
    simp only [Result.andThen_ok]
    have : (fun x : Nat => pl.toArray[x]?) = (fun x : Nat => pl[x]?) := by funext x; simp
    rw [this]
    have h1' : Instr.fill (fun x : Nat => pl[x]?) z.cells (parts.map fun p => (p.1, ρ p.2)) = some cs'.toArray := by simpa using h1
    simp only [h1', Sem.run_pure]
  · rename_i n e hu
    cases hte : tyOf P e with
    | none => simp [hte] at hpl
    | some q =>
      obtain ⟨ag, sz⟩ := q
      simp [hte] at hpl
      subst hpl
      simp only [Instr.build, Sem.run_bind, hzr, Result.andThen_ok, run_underlying hu, (tyOf_run hte w).2]
      have hfill : ∀ (ps : List (Nat × Value)) (c : Array Value) (r : Array Value), Instr.fill (fun x => (List.map (fun i => (i * sz, sz)) (List.range n))[x]?) c ps = some r → Instr.fill (fun i => some (i * sz, sz)) c ps = some r := by
        intro ps
        induction ps with
        | nil => intro c r hr; exact hr
        | cons p ps ih =>
          intro c r hr
          obtain ⟨i', v'⟩ := p
          simp only [Instr.fill] at hr ⊢
          rw [List.getElem?_map] at hr
          cases hir : (List.range n)[i']? with
          | none => simp [hir] at hr
          | some q =>
            have : q = i' := by
              rw [List.getElem?_eq_some_iff] at hir
              obtain ⟨_, hq⟩ := hir
              simp at hq
              exact hq.symm
            subst this
            simp only [hir, Option.map_some] at hr
            split at hr
            · cases hr
            · rename_i hc
              rw [if_neg hc]
              exact ih _ _ hr
      have := hfill _ _ _ h1
      have h1' : Instr.fill (fun i => some (i * sz, sz)) z.cells (parts.map fun p => (p.1, ρ p.2)) = some cs'.toArray := by simpa using this
      simp only [h1', Sem.run_pure]
  · cases hpl

def V.toD1 : V → Option D
  | .d x => some x
  | .own _ sz l => some (.slice sz l)
  | .full sz l => some (.slice sz l)
  | _ => none
def V.toD : V → Option D
  | .agg l => (l.mapM V.toD1).map .agg
  | x => x.toD1

theorem toD1_rep {v : Value} {x : V} {d : D} (hd : x.toD1 = some d) (hv : RepV G w h nx v x) : RepD G.lim w v d := by
  unfold V.toD1 at hd
  split at hd
  · injection hd with hd; subst hd; cases hv; assumption
  · injection hd with hd; subst hd; cases hv; assumption
  · injection hd with hd; subst hd; exact hv.full_inv.elim fun _ h => h.2
  · cases hd

theorem toD_rep {v : Value} {x : V} {d : D} (hd : x.toD = some d) (hv : RepV G w h nx v x) : v.cells.size = d.cells.length ∧ (∀ c ∈ d.cells, c.one = true) ∧
    ∀ (j : Nat) (u : Value) (c : D), v.cells.toList[j]? = some u → d.cells[j]? = some c → RepD G.lim w u c := by
  unfold V.toD at hd
  split at hd
  · rename_i l
    cases hm : l.mapM V.toD1 with
    | none => simp [hm] at hd
    | some ds =>
      simp [hm] at hd
      subst hd
      obtain ⟨h1, h2⟩ := mapM_opt _ _ _ hm
      cases hv with | agg vs _ hlen hone hr =>
      have main : ∀ (j : Nat) (u : Value) (c : D), vs[j]? = some u → ds[j]? = some c → RepD G.lim w u c := by
        intro j u c hu hc
        have hj : j < l.length := by have := (List.getElem?_eq_some_iff.1 hu).1; omega
        obtain ⟨y, hy1, hy2⟩ := h2 j _ (List.getElem?_eq_getElem hj)
        rw [hc] at hy2
        injection hy2 with hy2
        subst hy2
        exact toD1_rep hy1 (hr j u _ hu (List.getElem?_eq_getElem hj))
      refine ⟨by simp [Value.cells, D.cells, hlen, h1], fun c hc => ?_, main⟩
      obtain ⟨j, hj, rfl⟩ := List.getElem_of_mem hc
      have hj' : j < vs.length := by simp [D.cells] at hj; omega
      exact (main j _ _ (List.getElem?_eq_getElem hj') (List.getElem?_eq_getElem hj)).done
  · have hr := toD1_rep hd hv
    have h1 := hr.one
    have h2 := hr.done
    have e1 : v.cells = #[v] := by cases v <;> first | rfl | cases h1
    have e2 : d.cells = [d] := by cases d <;> first | rfl | cases h2
    rw [e1, e2]
    refine ⟨rfl, fun c hc => by simp at hc; subst hc; exact h2, fun j u c hu hc => ?_⟩
    cases j with
    | zero => simp at hu hc; subst hu; subst hc; exact hr
    | succ j => simp at hu

theorem fill_all (sz : Nat) : ∀ (ps : List (Nat × Value)) (k : Nat) (cs : Array Value), (∀ (j : Nat) (p : Nat × Value), ps[j]? = some p → p.1 = k + j ∧ p.2.cells.size = sz) → cs.size = (k + ps.length) * sz →
    Instr.fill (fun i => some (i * sz, sz)) cs ps = some (cs.toList.take (k * sz) ++ ps.flatMap (fun p => p.2.cells.toList)).toArray
  | [], k, cs, _, hs => by simp only [Instr.fill, List.flatMap_nil, List.append_nil]; rw [List.take_of_length_le (by rw [Array.length_toList, hs]; simp)]
  | (i, v) :: ps, k, cs, hp, hs => by
    obtain ⟨h1, h2⟩ := hp 0 _ rfl
    simp only [Nat.add_zero] at h1 h2
    subst h1
    have hle : i * sz + sz ≤ cs.size := by rw [hs, ← Nat.succ_mul]; exact Nat.mul_le_mul_right _ (by simp)
    simp only [Instr.fill, h2]
    rw [if_neg (by simp; omega)]
    obtain ⟨us, hus⟩ : ∃ us : List Value, v.cells = us.toArray := ⟨v.cells.toList, by simp⟩
    rw [hus] at h2 ⊢
    simp only [List.size_toArray] at h2
    have hfold := foldl_set (i * sz) us 0 cs (by omega)
    simp only [Nat.add_zero] at hfold
    rw [show (List.toArray us).zipIdx = (us.zipIdx 0).toArray by simp]
    simp only [List.size_toArray, List.foldl_toArray']
    have hgoal : (us.zipIdx 0).foldl (fun cs x => match x with | (c, j) => cs.setIfInBounds (i * sz + j) c) cs = (cs.toList.take (i * sz) ++ us ++ cs.toList.drop (i * sz + us.length)).toArray := hfold
    rw [hgoal, fill_all sz ps (i + 1) _ (fun j p hj => by have := hp (j + 1) p (by simpa using hj); exact ⟨by omega, this.2⟩) (by
      simp only [List.size_toArray, List.length_append, List.length_take, List.length_drop, Array.length_toList]
      simp only [List.length_cons] at hs
      rw [show i + 1 + ps.length = i + (ps.length + 1) by omega, ← hs]
      omega)]
    congr 2
    rw [Nat.succ_mul]
    simp only [List.flatMap_cons, List.toList_toArray, hus]
    rw [← List.append_assoc]
    congr 1
    rw [List.append_assoc, List.take_append, List.take_of_length_le (by simp; omega)]
    congr 1
    simp only [List.length_take, Array.length_toList]
    rw [Nat.min_eq_left (by omega), show i * sz + sz - i * sz = us.length by omega, List.take_append, List.take_of_length_le (Nat.le_refl _)]
    simp

/-- A SLICE LITERAL, all of whose places are given in order. -/
theorem R.buildSlice (hR : R T G0 w0 N s a G w) {t : TypeId} {sz bt : Nat} (hrow : rowOf P t = some (sz, bt)) (parts : List (Nat × Operand)) (n : Nat) (hidx : parts.map (·.1) = List.range n)
    {l : List D} (hl : parts.mapM (fun p => (s.ev p.2).toD) = some l) (hsz : ∀ d ∈ l, d.cells.length = sz) (hsm : n * sz ≤ 16777216) (k nx' : Nat) (hk : (k = s.nx ∧ nx' = s.nx + 1) ∨ (k < s.nx ∧ nx' = s.nx)) (hkn : s.h.get k = none) :
    ∃ v w' G', (Instr.buildSlice t n (parts.map fun p => (p.1, a.eval p.2)).toArray).run P w = .ok v w' ∧ R T G0 w0 N ⟨s.sl, s.h, nx'⟩ a G' w' ∧ RepV G' w' s.h nx' v (.full sz l) ∧ ∀ i, i ≠ k → i < s.nx → G'.loc i = G.loc i ∧ G'.tloc i = G.tloc i := by
  obtain ⟨e, i, z, hu, hi, hz, hzs, hsz0, hisz, hibt⟩ := rowOf_spec hrow
  obtain ⟨hll, hlp⟩ := mapM_opt _ _ _ hl
  have hpn : parts.length = n := by have := congrArg List.length hidx; simpa using this
  have hln : l.length = n := by omega
  have each : ∀ (j : Nat) (p : Nat × Operand), parts[j]? = some p → ∃ d, l[j]? = some d ∧ p.1 = j ∧ (a.eval p.2).cells.size = sz ∧ d.cells.length = sz ∧ (∀ c ∈ d.cells, c.one = true) ∧
      ∀ (q : Nat) (u : Value) (c : D), (a.eval p.2).cells.toList[q]? = some u → d.cells[q]? = some c → RepD G.lim w u c := by
    intro j p hj
    obtain ⟨d, hd1, hd2⟩ := hlp j p hj
    obtain ⟨g1, g2, g3⟩ := toD_rep hd1 (hR.ev p.2)
    have hjn : j < n := by have := (List.getElem?_eq_some_iff.1 hj).1; omega
    have hi1 : (parts.map (·.1))[j]? = some p.1 := by simp [hj]
    rw [hidx] at hi1
    simp [hjn] at hi1
    have hds := hsz d (List.mem_of_getElem? hd2)
    exact ⟨d, hd2, hi1.symm, by omega, hds, g2, g3⟩
  let ps : List (Nat × Value) := parts.map fun p => (p.1, a.eval p.2)
  let vs : List Value := ps.flatMap fun p => p.2.cells.toList
  have hfill : ∀ cs : Array Value, cs.size = n * sz → Instr.fill (fun i => some (i * sz, sz)) cs ps = some vs.toArray := by
    intro cs hcs
    have := fill_all sz ps 0 cs (fun j p hj => by
      simp only [ps, List.getElem?_map, Option.map_eq_some_iff] at hj
      obtain ⟨q, hq, rfl⟩ := hj
      obtain ⟨d, _, h2, h3, _⟩ := each j q hq
      exact ⟨by simpa using h2, h3⟩) (by simp [ps, hpn, hcs])
    simpa using this
  have hrun : (Instr.buildSlice t n ps.toArray).run P w = .ok (.slice (some ⟨w.heap.size, 0, none⟩) n n) (w.alloc (.cells vs.toArray e)) := by
    have hzr : (zeroValue e).run P w = .ok z w := by simp [zeroValue, typeInfo, hi, hz]
    have hsr : (sizeOf e).run P w = .ok sz w := by simp [sizeOf, typeInfo, hi, hisz]
    have h24 : ¬ (2 ^ 24 < n * sz) := by omega
    simp only [Instr.buildSlice, Sem.run_bind, run_underlying hu, Result.andThen_ok, hsr]
    rw [if_neg (by omega)]
    by_cases h0 : n * sz = 0
    · simp only [h0, if_true, Sem.run_pure, Result.andThen_ok, Sem.run_bind]
      rw [hfill _ (by simp [h0])]
      rfl
    · simp only [if_neg h0, Sem.run_bind, hzr, Sem.run_pure, Result.andThen_ok]
      rw [hfill _ (by simp)]
      rfl
  have hvl : vs.length = n * sz := by
    have : ∀ (q : List (Nat × Value)), (∀ p ∈ q, p.2.cells.size = sz) → (q.flatMap fun p => p.2.cells.toList).length = q.length * sz := by
      intro q hq
      induction q with
      | nil => simp
      | cons p q ih =>
        have h1 := hq p (by simp)
        have h2 := ih (fun x hx => hq x (by simp [hx]))
        simp only [List.flatMap_cons, List.length_append, Array.length_toList, List.length_cons, h1, h2, Nat.succ_mul]
        omega
    rw [this ps (fun p hp => by
      simp only [ps, List.mem_map] at hp
      obtain ⟨q, hq, rfl⟩ := hp
      obtain ⟨j, hj, rfl⟩ := List.getElem_of_mem hq
      exact ((each j _ (List.getElem?_eq_getElem hj)).choose_spec).2.2.1)]
    simp [ps, hpn]
  have hszl : ∀ d ∈ l, d.cells.length = sz ∧ ∀ c ∈ d.cells, c.one = true := by
    intro d hd
    obtain ⟨j, hj, rfl⟩ := List.getElem_of_mem hd
    obtain ⟨d', h1, _, _, h4, h5, _⟩ := each j _ (List.getElem?_eq_getElem (by omega))
    rw [List.getElem?_eq_getElem hj] at h1
    injection h1 with h1
    subst h1
    exact ⟨h4, h5⟩
  have hrep : ∀ (j : Nat) (u : Value) (c : D), vs[j]? = some u → (l.flatMap D.cells)[j]? = some c → RepD G.lim w u c := by
    have gen : ∀ (q : List (Nat × Value)) (m : List D), q.length = m.length → (∀ (j : Nat) (p : Nat × Value) (d : D), q[j]? = some p → m[j]? = some d → p.2.cells.size = d.cells.length ∧ ∀ (r : Nat) (u : Value) (c : D), p.2.cells.toList[r]? = some u → d.cells[r]? = some c → RepD G.lim w u c) →
        ∀ (j : Nat) (u : Value) (c : D), (q.flatMap fun p => p.2.cells.toList)[j]? = some u → (m.flatMap D.cells)[j]? = some c → RepD G.lim w u c := by
      intro q
      induction q with
      | nil => intro m _ _ j u c hu; simp at hu
      | cons p q ih =>
        intro m hlen hh j u c hu hc
        cases m with
        | nil => simp at hlen
        | cons d m =>
          obtain ⟨k1, k2⟩ := hh 0 p d rfl rfl
          simp only [List.flatMap_cons] at hu hc
          by_cases hj : j < d.cells.length
          · rw [List.getElem?_append_left (by simp; omega)] at hu
            rw [List.getElem?_append_left hj] at hc
            exact k2 j u c hu hc
          · rw [List.getElem?_append_right (by simp; omega)] at hu
            rw [List.getElem?_append_right (by omega)] at hc
            rw [Array.length_toList, k1] at hu
            exact ih m (by simpa using hlen) (fun j p d hp hd => hh (j + 1) p d (by simpa using hp) (by simpa using hd)) _ u c hu hc
    refine gen ps l (by simp [ps]; omega) (fun j p d hp hd => ?_)
    simp only [ps, List.getElem?_map, Option.map_eq_some_iff] at hp
    obtain ⟨q, hq, rfl⟩ := hp
    obtain ⟨d', h1, _, h3, h4, _, h6⟩ := each j q hq
    rw [hd] at h1
    injection h1 with h1
    subst h1
    exact ⟨by show (a.eval q.2).cells.size = _; omega, h6⟩
  obtain ⟨G', hR', _, hrd, _, _, hG⟩ := R.newRow hR e vs sz l vs hszl (by rw [hvl, flat_length hszl, hln]) (by simp) hrep k nx' s.h hk (fun _ _ => rfl) (fun ob hob => by
    rw [hkn] at hob
    cases hob)
  refine ⟨_, _, G', hrun, hR', ?_, hG⟩
  have hmx : n ≤ maxLen := by
    have : n ≤ n * sz := Nat.le_mul_of_pos_right _ hsz0
    simp only [maxLen]; omega
  have := hrd n (by omega) hmx
  rw [← hln] at this ⊢
  exact .full _ _ _ this

end
end Go.Bv
