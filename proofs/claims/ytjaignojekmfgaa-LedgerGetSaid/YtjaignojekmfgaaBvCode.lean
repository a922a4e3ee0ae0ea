/-
  Part of a machine over pure data and objects that is sound for the model: what it says of a Go function holds of every call of that function. Conditions: those in each theorem. It speaks of any program.
-/
import Derived.Test.YtjaignojekmfgaaBvX
namespace Go.Bv
open Go.RowKit

def dstOk (N : Nat) : Option Nat → Prop
  | some t => t < N
  | none => True
def guardV (s : St) (tb : List (Option Nat)) (j : Nat) : V := match tb[j]? with
  | some (some t) => getS s.sl t
  | _ => .any

/-! store -/
def storeOk (ty : Option (Bool × Nat)) (h : Hp) (x : V) : V → Prop
  | .ptr id off => match ty, h.get id with
    | some (_, n), some (.cells l) => x.flat n ∧ off + n ≤ l.length
    | _, _ => False
  | _ => False
def storeH (h : Hp) (x : V) : V → Hp
  | .ptr id off => match h.get id with
    | some (.cells l) => (id, .cells (setAt l off x.cells)) :: h
    | _ => h
  | _ => h
/-! build -/
def fillOk (pl : List (Nat × Nat)) : List V → List (Nat × V) → Prop
  | _, [] => True
  | l, (i, x) :: r => match pl[i]? with
    | some (off, n) => x.flat n ∧ off + n ≤ l.length ∧ fillOk pl (setAt l off x.cells) r
    | none => False
def fillR (pl : List (Nat × Nat)) : List V → List (Nat × V) → List V
  | l, [] => l
  | l, (i, x) :: r => match pl[i]? with
    | some (off, _) => fillR pl (setAt l off x.cells) r
    | none => l
theorem fill_iff {pl : List (Nat × Nat)} {K : List V → Prop} : ∀ (ps : List (Nat × V)) (l : List V), fillOk pl l ps → K (fillR pl l ps) → fillV (pl[·]?) K l ps
  | [], _, _, hk => hk
  | (i, x) :: r, l, ho, hk => by
    simp only [fillOk, fillR, fillV] at *
    cases hp : pl[i]? with
    | none => simp only [hp] at ho
    | some q =>
      obtain ⟨off, n⟩ := q
      simp only [hp] at ho hk ⊢
      exact ⟨ho.1, ho.2.1, fill_iff r _ ho.2.2 hk⟩
def zeroD (P : Program) (t : TypeId) : List V := (zeroV P t).getD []
def plD (P : Program) (t : TypeId) : List (Nat × Nat) := (plOf P t).getD []
/-! slice literals -/
def toDs (l : List V) : Option (List D) := l.mapM V.toD
def sizesOk (sz : Nat) : List D → Prop
  | [] => True
  | d :: r => d.cells.length = sz ∧ sizesOk sz r
def rowD (P : Program) (t : TypeId) : Nat × Nat := (rowOf P t).getD (0, 0)
/-! append -/
def growD (s : St) (sz : Nat) (x : V) : Nat × Nat × List D := (growA s sz x).getD (0, 0, [])
def appOk (P : Program) (s : St) (t : TypeId) (x y : V) : Prop :=
  (rowOf P t).isSome = true ∧ (growA s (rowD P t).1 x).isSome = true ∧ isEls (rowD P t).1 y ∧
    ((growD s (rowD P t).1 x).2.2.length + (y.elsD (rowD P t).1).length) * (rowD P t).2 ≤ 140737488355328 ∧ (growD s (rowD P t).1 x).2.2.length + (y.elsD (rowD P t).1).length ≤ maxLen
def appS (P : Program) (s : St) (t : TypeId) (x y : V) (d : Option Nat) : St :=
  St.put ⟨s.sl, ((growD s (rowD P t).1 x).1, .tip ((growD s (rowD P t).1 x).2.2.length + (y.elsD (rowD P t).1).length)) :: s.h, (growD s (rowD P t).1 x).2.1⟩ d
    (.own (growD s (rowD P t).1 x).1 (rowD P t).1 ((growD s (rowD P t).1 x).2.2 ++ y.elsD (rowD P t).1))

/-- A call by a contract. -/
def leArgs (σ : Nat → Nat) (m : Nat) : List V → List V → Prop
  | [], [] => True
  | x :: xs, y :: ys => (le x (ren σ y) ∧ ok m y) ∧ leArgs σ m xs ys
  | _, _ => False
def callS (s : St) (ids : List Nat) (pre post : List Ob) (d : Option Nat) (r : V) : St :=
  St.put ⟨s.sl, hpNew (sgm ids s.nx) 0 post ++ s.h, s.nx + (post.length - pre.length)⟩ d (ren (sgm ids s.nx) r)
def callA (P : Program) (s : St) (f : V) (args : List V) (K : List Nat → List Ob → List Ob → V → Prop) : Prop :=
  ∃ g xs pre r post ids, f = .k (.func (.func g) #[] #[]) ∧ (P.funcs[g]?.bind (·.body)).isSome = true ∧ P.funcs[g]?.map (·.name) ≠ some "runtime.NumGoroutine" ∧ SoundH P g xs pre r post ∧
    preOk s.h (sgm ids s.nx) pre.length s.nx s.nx ids pre ∧ ids.Nodup ∧ pre.length ≤ post.length ∧ leArgs (sgm ids s.nx) pre.length args xs ∧ noTup r ∧ K ids pre post r

/-- A call of a function that the model has itself. -/
def SoundX (P : Program) (g : FuncId) (xs : List V) (r : V) : Prop :=
  ∀ (G : Gh) (w : World) (h : Hp) (nx : Nat) (vs : List Value), vs.length = xs.length → (∀ (j : Nat) (v : Value) (x : V), vs[j]? = some v → xs[j]? = some x → RepV G w h nx v x) →
    ∃ v, (callFunc g vs.toArray).run P w = .ok (.value v) w ∧ RepV G w h nx v r
def callX (P : Program) (f : V) (args : List V) (K : V → Prop) : Prop := ∃ g r, f = .k (.func (.func g) #[] #[]) ∧ SoundX P g args r ∧ K r
def isNilV : V → Bool
  | .k (.slice none 0 0) => true
  | _ => false
def isSl : Option TypeDesc → Prop
  | some (.slice _) => True
  | _ => False
/-- Is the slice nil? -/
def nilOk : V → Prop
  | .d (.slice _ _) => True
  | .own _ _ _ => True
  | .full _ _ => True
  | .row _ _ _ _ => True
  | _ => False
def nilMay : V → Prop
  | .d (.slice _ l) => l = []
  | .own _ _ l => l = []
  | .full _ l => l = []
  | _ => False

/-! make, copy -/
def natOf : V → Nat
  | .d (.int _ n) => n.toNat
  | _ => 0
def mkOk (P : Program) (t : TypeId) : V → V → Prop
  | .d (.int _ n), .d (.int _ c) => ((rowOf P t).isSome = true ∧ (elZ P t).isSome = true) ∧ 0 ≤ n ∧ n ≤ c ∧ c.toNat * (rowD P t).2 ≤ 140737488355328 ∧ c.toNat ≤ maxLen
  | _, _ => False
def elZD (P : Program) (t : TypeId) : List V := (elZ P t).getD []
def fitsO (off n : Nat) : Option Ob → Prop
  | some (.cells l) => off + n ≤ l.length
  | _ => False
def copyOk (P : Program) (t : TypeId) (h : Hp) : V → V → Prop
  | .row id off len sz, y => ((rowOf P t).isSome = true ∧ sz = (rowD P t).1) ∧ isEls sz y ∧ fitsO off (len * sz) (h.get id)
  | _, _ => False
def copyO (h : Hp) (id off len : Nat) (l2 : List D) : Option Ob → Hp
  | some (.cells l) => (id, .cells (setAt l off (((l2.take (min l2.length len)).flatMap D.cells).map .d))) :: h
  | _ => h
def copyH (h : Hp) : V → V → Hp
  | .row id off len sz, y => copyO h id off len (y.elsD sz) (h.get id)
  | _, _ => h
def copyN : V → V → V
  | .row _ _ len sz, y => .d (.int .i64 (min (y.elsD sz).length len : Nat))
  | _, _ => .any

def AOp (P : Program) (N : Nat) (o : Oper) (K : St → Prop) (s : St) : Prop :=
  dstOk N o.dst ∧ match o.op with
  | .alloc t => (zeroV P t).isSome = true ∧ K (St.put ⟨s.sl, (s.nx, .cells (zeroD P t)) :: s.h, s.nx + 1⟩ o.dst (.ptr s.nx 0))
  | .box _ x => (∃ n, (s.ev x).flat n) ∧ K (St.put ⟨s.sl, (s.nx, .cells (s.ev x).cells) :: s.h, s.nx + 1⟩ o.dst (.ptr s.nx 0))
  | .store t a x => storeOk (tyOf P t) s.h (s.ev x) (s.ev a) ∧ K (St.put ⟨s.sl, storeH s.h (s.ev x) (s.ev a), s.nx⟩ o.dst .any)
  | .build t parts => (plOf P t).isSome = true ∧ (zeroV P t).isSome = true ∧ fillOk (plD P t) (zeroD P t) (parts.toList.map fun p => (p.1, s.ev p.2)) ∧
      K (s.put o.dst (.agg (fillR (plD P t) (zeroD P t) (parts.toList.map fun p => (p.1, s.ev p.2)))))
  | .buildSlice t n parts => (rowOf P t).isSome = true ∧ parts.toList.map (·.1) = List.range n ∧ (toDs (parts.toList.map fun p => s.ev p.2)).isSome = true ∧
      sizesOk (rowD P t).1 ((toDs (parts.toList.map fun p => s.ev p.2)).getD []) ∧ n * (rowD P t).1 ≤ 16777216 ∧
      K (St.put ⟨s.sl, s.h, s.nx + 1⟩ o.dst (.full (rowD P t).1 ((toDs (parts.toList.map fun p => s.ev p.2)).getD [])))
  | .call c => match c.callee with
    | .builtin .append => (c.args.size = 2 ∧ c.argTypes.size = 2 ∧ c.argTypes.getD 0 0 = c.argTypes.getD 1 0) ∧
        appOk P s (c.argTypes.getD 0 0) (s.ev (c.args.getD 0 (.const .nilIface))) (s.ev (c.args.getD 1 (.const .nilIface))) ∧
        K (appS P s (c.argTypes.getD 0 0) (s.ev (c.args.getD 0 (.const .nilIface))) (s.ev (c.args.getD 1 (.const .nilIface))) o.dst)
    | .builtin .copy => (c.args.size = 2 ∧ c.argTypes.size = 2) ∧ copyOk P (c.argTypes.getD 0 0) s.h (s.ev (c.args.getD 0 (.const .nilIface))) (s.ev (c.args.getD 1 (.const .nilIface))) ∧
        K (St.put ⟨s.sl, copyH s.h (s.ev (c.args.getD 0 (.const .nilIface))) (s.ev (c.args.getD 1 (.const .nilIface))), s.nx⟩ o.dst (copyN (s.ev (c.args.getD 0 (.const .nilIface))) (s.ev (c.args.getD 1 (.const .nilIface)))))
    | .builtin .delete => AOpX P N o K s
    | .value f => callX P (s.ev f) (c.args.toList.map s.ev) (fun r => K (s.put o.dst r)) ∨ callA P s (s.ev f) (c.args.toList.map s.ev) fun ids pre post r => K (callS s ids pre post o.dst r)
    | _ => avOk P s.h s.ev (.call c) ∧ K (s.put o.dst (av P s.h s.ev (.call c)))
  | .binOp op t x y t' => match isNilV (s.ev y) with
    | true => isEq op ∧ isSl (P.underlying t) ∧ nilOk (s.ev x) ∧ ∀ b : Bool, (b = true → nilMay (s.ev x)) → K (s.put o.dst (aggV op b))
    | false => avOk P s.h s.ev (.binOp op t x y t') ∧ K (s.put o.dst (av P s.h s.ev (.binOp op t x y t')))
  | .makeSlice t l c => mkOk P t (s.ev l) (s.ev c) ∧ K (St.put ⟨s.sl, (s.nx, .cells (zrow (natOf (s.ev l)) (elZD P t))) :: s.h, s.nx + 1⟩ o.dst (.row s.nx 0 (natOf (s.ev l)) (rowD P t).1))
  | .makeMap _ _ => AOpX P N o K s
  | .lookup _ _ _ _ => AOpX P N o K s
  | .mapUpdate _ _ _ _ => AOpX P N o K s
  | op => avOk P s.h s.ev op ∧ K (s.put o.dst (av P s.h s.ev op))

def AOps (P : Program) (N : Nat) (tb : List (Option Nat)) : List Oper → (St → Prop) → St → Prop
  | [], K, s => K s
  | o :: r, K, s => match o.guard with
    | none => AOp P N o (AOps P N tb r K) s
    | some (j, b) => (guardV s tb j = .k undef ∧ dstOk N o.dst ∧ AOps P N tb r K (s.put o.dst (.k undef))) ∨ ∃ t, guardV s tb j = .d (.bool t) ∧ (t = b → AOp P N o (AOps P N tb r K) s) ∧ (t ≠ b → dstOk N o.dst ∧ AOps P N tb r K (s.put o.dst (.k undef)))

section
variable {P : Program} {T : Tk} {G0 G : Gh} {w0 w : World} {N : Nat} {s : St} {a : Act}

theorem toDs_eq (s : St) (parts : List (Nat × Operand)) : toDs (parts.map fun p => s.ev p.2) = parts.mapM (fun p => (s.ev p.2).toD) := by
  unfold toDs
  induction parts with
  | nil => rfl
  | cons p ps ih => simp only [List.map_cons, List.mapM_cons, ih]
theorem sizesOk_spec {sz : Nat} : ∀ {l : List D}, sizesOk sz l → ∀ d ∈ l, d.cells.length = sz
  | [], _, d, hd => by cases hd
  | x :: r, hh, d, hd => by
    rcases List.mem_cons.1 hd with rfl | hd
    · exact hh.1
    · exact sizesOk_spec hh.2 d hd
theorem leArgs_spec {σ : Nat → Nat} {m : Nat} : ∀ {l l' : List V}, leArgs σ m l l' → l.length = l'.length ∧ ∀ (j : Nat) (x y : V), l[j]? = some x → l'[j]? = some y → Bv.le x (ren σ y) ∧ ok m y
  | [], [], _ => ⟨rfl, by simp⟩
  | x :: xs, y :: ys, hh => by
    obtain ⟨h1, h3⟩ := hh
    obtain ⟨g1, g3⟩ := leArgs_spec h3
    refine ⟨by simp [g1], fun j a b ha hb => ?_⟩
    cases j with
    | zero => simp at ha hb; subst ha; subst hb; exact h1
    | succ j => simp at ha hb; exact g3 j a b ha hb
  | [], _ :: _, hh => hh.elim
  | _ :: _, [], hh => hh.elim

/-- ONE OPERATION. -/
theorem op_sound (hR : R T G0 w0 N s a G w) {o : Oper} {K : St → Prop} (ho : AOp P N o K s) {K' : Act → World → Prop} {Q : Exit → Act → World → Prop}
    (hK : ∀ s' a' G' w', K s' → R T G0 w0 N s' a' G' w' → K' a' w') : o.wp P a w K' Q := by
  obtain ⟨hd, ho⟩ := ho
  have hdst : ∀ t, o.dst = some t → t < N := fun t ht => by rw [ht] at hd; exact hd
  have hev := hR.ev
  obtain ⟨dst, op, ty, pos, after, guard⟩ := o
  have value : ∀ (v : Value) (w' : World), (execOp a.eval ⟨dst, op, ty, pos, after, guard⟩).run P w = .ok (.value v) w' → K' (a.put dst v) w' → Oper.wp P ⟨dst, op, ty, pos, after, guard⟩ a w K' Q := by
    intro v w' h1 h2
    unfold Oper.wp
    rw [h1]
    exact h2
  have val : ∀ (sv : Sem Value) (v : Value) (w' : World), sv.run P w = .ok v w' → (do pure (.value (← sv)) : Sem Next).run P w = .ok (.value v) w' := by
    intro sv v w' hv; simp only [Sem.run_bind, hv, Result.andThen_ok, Sem.run_pure]
  have quiet : avOk P s.h s.ev op → K (s.put dst (av P s.h s.ev op)) → Oper.wp P ⟨dst, op, ty, pos, after, guard⟩ a w K' Q := by
    intro h1 h2
    obtain ⟨v, g1, g2⟩ := av_sound (o := ⟨dst, op, ty, pos, after, guard⟩) hev hR.wr.obj h1
    exact value v w g1 (hK _ _ _ _ h2 (hR.put g2 dst hdst))
  cases op with
  | alloc t =>
    obtain ⟨h1, h2⟩ := ho
    obtain ⟨l, hl⟩ := Option.isSome_iff_exists.1 h1
    obtain ⟨i, z, hi, hz, hrow⟩ := zeroV_rep (G := G) (w := w) (h := s.h) (nx := s.nx) hl
    obtain ⟨G', hR', hp⟩ := hR.alloc t z.cells.toList l hrow.1 hrow.2.1 hrow.2.2
    have e1 : zeroD P t = l := by simp [zeroD, hl]
    rw [e1] at h2
    refine value _ _ (val _ _ _ ?_) (hK _ _ _ _ h2 (hR'.put hp dst hdst))
    have hzr : (zeroValue t).run P w = .ok z w := by simp [zeroValue, typeInfo, hi, hz]
    simp only [Instr.alloc, Sem.run_bind, hzr, Result.andThen_ok, newVar, newRow, newObj, Sem.run, Sem.run_pure, Array.toArray_toList]
    rfl
  | box t x =>
    obtain ⟨⟨n, h1⟩, h2⟩ := ho
    obtain ⟨g1, g2⟩ := cells_rep (hev x) h1
    obtain ⟨G', hR', hp⟩ := hR.alloc t (a.eval x).cells.toList (s.ev x).cells g2.1 g2.2.1 g2.2.2
    refine value _ _ (val _ _ _ ?_) (hK _ _ _ _ h2 (hR'.put hp dst hdst))
    simp only [Instr.box, newVar, newRow, newObj, Sem.run_bind, Sem.run, Result.andThen_ok, Sem.run_pure, Array.toArray_toList]
    rfl
  | store t p x =>
    obtain ⟨h1, h2⟩ := ho
    simp only at h1 h2
    have hp := hev p
    generalize hpe : s.ev p = vp at hp h1 h2
    cases vp with
    | ptr id off =>
      simp only [storeOk, storeH] at h1 h2
      cases hty : tyOf P t with
      | none => simp only [hty] at h1
      | some q =>
        obtain ⟨g, n⟩ := q
        cases hg : s.h.get id with
        | none => simp only [hty, hg] at h1
        | some ob => cases ob with
          | cells l =>
            simp only [hty, hg] at h1 h2
            obtain ⟨w', hrun, hR'⟩ := hR.store (P := P) hg (hev x) hp h1.1.2 hty h1.1.1 h1.2
            unfold Oper.wp
            have : (execOp a.eval ⟨dst, .store t p x, ty, pos, after, guard⟩).run P w = .ok .skip w' := by
              simp only [execOp, Sem.run_bind, hrun, Result.andThen_ok, Sem.run_pure]
            rw [this]
            exact hK _ _ _ _ h2 (hR'.put (.any _) dst hdst)
          | _ => simp only [hty, hg] at h1
    | _ => exact h1.elim
  | build t parts =>
    obtain ⟨h1, h2, h3, h4⟩ := ho
    obtain ⟨pl, hpl⟩ := Option.isSome_iff_exists.1 h1
    obtain ⟨l0, hl0⟩ := Option.isSome_iff_exists.1 h2
    have e1 : plD P t = pl := by simp [plD, hpl]
    have e2 : zeroD P t = l0 := by simp [zeroD, hl0]
    rw [e1, e2] at h3 h4
    obtain ⟨v, z, g1, g2, g3⟩ := build_sound (P := P) (G := G) (w := w) (K := fun z => K (s.put dst z)) hev parts.toList hpl hl0 (fill_iff _ _ h3 h4)
    refine value v w (val _ _ _ ?_) (hK _ _ _ _ g3 (hR.put g2 dst hdst))
    rw [← g1]
    congr 2
    apply Array.ext'
    simp
  | buildSlice t n parts =>
    obtain ⟨h1, h2, h3, h4, h5, h6⟩ := ho
    obtain ⟨q, hq⟩ := Option.isSome_iff_exists.1 h1
    obtain ⟨sz, bt⟩ := q
    obtain ⟨l, hl⟩ := Option.isSome_iff_exists.1 h3
    have e1 : rowD P t = (sz, bt) := by simp [rowD, hq]
    simp only [e1, hl, Option.getD_some] at h4 h5 h6
    rw [toDs_eq] at hl
    obtain ⟨v, w', G', g1, g2, g3, _⟩ := hR.buildSlice hq parts.toList n h2 hl (sizesOk_spec h4) h5 s.nx (s.nx + 1) (.inl ⟨rfl, rfl⟩) (by
      cases hgn : s.h.get s.nx with
      | none => rfl
      | some ob => exact absurd (hR.wr.hid _ _ hgn) (by omega))
    refine value v w' (val _ _ _ ?_) (hK _ _ _ _ h6 (g2.put g3 dst hdst))
    rw [← g1]
    congr 2
    apply Array.ext'
    simp
  | call c =>
    obtain ⟨callee, args, argTypes⟩ := c
    cases callee with
    | builtin b =>
      cases b with
      | append =>
        obtain ⟨⟨h1, h2, h3⟩, h4, h5⟩ := ho
        obtain ⟨x, y, rfl⟩ : ∃ x y, args = #[x, y] := by
          obtain ⟨l⟩ := args
          match l, h1 with
          | [x, y], _ => exact ⟨x, y, rfl⟩
        obtain ⟨t, t', rfl⟩ : ∃ x y, argTypes = #[x, y] := by
          obtain ⟨l⟩ := argTypes
          match l, h2 with
          | [x, y], _ => exact ⟨x, y, rfl⟩
        have e0 : (#[t, t'] : Array TypeId).getD 0 0 = t := rfl
        have e0' : (#[t, t'] : Array TypeId).getD 1 0 = t' := rfl
        simp only at h3 h4 h5
        rw [e0, e0'] at h3
        subst h3
        have ex : (#[x, y] : Array Operand).getD 0 (.const .nilIface) = x := rfl
        have ey : (#[x, y] : Array Operand).getD 1 (.const .nilIface) = y := rfl
        have e0 : (#[t, t] : Array TypeId).getD 0 0 = t := rfl
        simp only [ex, ey, e0] at h4 h5
        obtain ⟨k1, k2, k3, k4, k5⟩ := h4
        obtain ⟨q, hq⟩ := Option.isSome_iff_exists.1 k1
        obtain ⟨sz, bt⟩ := q
        have e1 : rowD P t = (sz, bt) := by simp [rowD, hq]
        unfold appS at h5
        simp only [e1] at k2 k3 k4 k5 h5
        obtain ⟨g, hg⟩ := Option.isSome_iff_exists.1 k2
        obtain ⟨k, nx', l⟩ := g
        obtain ⟨l2, hl2⟩ := Option.isSome_iff_exists.1 (show ((s.ev y).els sz).isSome = true from k3)
        have e2 : growD s sz (s.ev x) = (k, nx', l) := by simp [growD, hg]
        have e3 : (s.ev y).elsD sz = l2 := by simp [V.elsD, hl2]
        simp only [e2, e3] at k4 k5 h5
        obtain ⟨v, w', G', g1, g2, g3, _⟩ := hR.append hq (hev x) (hev y) hg hl2 k4 ty k5
        refine value v w' ?_ (hK _ _ _ _ h5 (g2.put g3 dst hdst))
        simp only [execOp, resolve, invoke, builtin, Sem.run_bind, Sem.run_pure, Result.andThen_ok, List.map_toArray, List.map_cons, List.map_nil, g1]
      | copy =>
        obtain ⟨⟨h1, h2⟩, h4, h5⟩ := ho
        obtain ⟨x, y, rfl⟩ : ∃ x y, args = #[x, y] := by
          obtain ⟨l⟩ := args
          match l, h1 with
          | [x, y], _ => exact ⟨x, y, rfl⟩
        obtain ⟨t, t', rfl⟩ : ∃ x y, argTypes = #[x, y] := by
          obtain ⟨l⟩ := argTypes
          match l, h2 with
          | [x, y], _ => exact ⟨x, y, rfl⟩
        have e0 : (#[t, t'] : Array TypeId).getD 0 0 = t := rfl
        have ex : (#[x, y] : Array Operand).getD 0 (.const .nilIface) = x := rfl
        have ey : (#[x, y] : Array Operand).getD 1 (.const .nilIface) = y := rfl
        simp only [ex, ey, e0] at h4 h5
        have hx := hev x
        have hy := hev y
        generalize s.ev x = xv at hx h4 h5
        cases xv with
        | row id off len sz =>
          simp only [copyOk, copyH, copyN] at h4 h5
          obtain ⟨⟨k1, k2⟩, k3, k4⟩ := h4
          obtain ⟨q, hq⟩ := Option.isSome_iff_exists.1 k1
          obtain ⟨sz', bt⟩ := q
          have e1 : rowD P t = (sz', bt) := by simp [rowD, hq]
          rw [e1] at k2
          simp only at k2
          subst k2
          obtain ⟨l2, hl2⟩ := Option.isSome_iff_exists.1 (show ((s.ev y).els sz).isSome = true from k3)
          have e3 : (s.ev y).elsD sz = l2 := by simp [V.elsD, hl2]
          rw [e3] at h5
          cases hg : s.h.get id with
          | none => rw [hg] at k4; exact k4.elim
          | some ob => cases ob with
            | cells l =>
              rw [hg] at k4 h5
              simp only [copyO] at h5
              obtain ⟨w', g1, g2⟩ := hR.copy (t' := t') (ty := ty) hq hx hy hl2 hg k4
              refine value _ w' ?_ (hK _ _ _ _ h5 (g2.put (.d _ _ (.int _ _)) dst hdst))
              simp only [execOp, resolve, invoke, builtin, Sem.run_bind, Sem.run_pure, Result.andThen_ok, List.map_toArray, List.map_cons, List.map_nil, g1]
              rfl
            | _ => rw [hg] at k4; exact k4.elim
        | _ => exact h4.elim
      | delete => exact opX_sound hR ho hK
      | _ => exact quiet ho.1 ho.2
    | value f =>
      rcases ho with ⟨g, r, h1, h2, h3⟩ | ho
      · have hf := hev f
        rw [h1] at hf
        have hfv := hf.k_inv
        obtain ⟨v, g1, g2⟩ := h2 G w s.h s.nx (args.toList.map a.eval) (by simp) (fun j v x hv hx => by
          rw [List.getElem?_map, Option.map_eq_some_iff] at hv
          obtain ⟨o', ho', rfl⟩ := hv
          simp only [List.getElem?_map, ho', Option.map_some, Option.some.injEq] at hx
          rw [← hx]
          exact hev o')
        refine value v w ?_ (hK _ _ _ _ h3 (hR.put g2 dst hdst))
        simp only [execOp, resolve, Deferred.ofValue, hfv, Sem.run_bind, Sem.run_pure, Result.andThen_ok, invoke]
        rw [← g1]
        congr 2
        apply Array.ext'
        simp
      obtain ⟨g, xs, pre, r, post, ids, h1, h2, h3, h4, p1, p2, p3, h5, h6, h7⟩ := ho
      have hf := hev f
      rw [h1] at hf
      have hfv := hf.k_inv
      obtain ⟨g1, g2⟩ := leArgs_spec h5
      have hlen : (args.toList.map a.eval).length = xs.length := by simp at g1 ⊢; exact g1
      have hcall := hR.call h4 p1 p2 p3 (.inl ⟨rfl, rfl⟩) hlen (fun j v x hv hx => by
        rw [List.getElem?_map, Option.map_eq_some_iff] at hv
        obtain ⟨o', ho', rfl⟩ := hv
        obtain ⟨q1, q2⟩ := g2 j (s.ev o') x (by rw [List.getElem?_map, ho']; rfl) hx
        exact ⟨(hev o').le q1, q2⟩) h6
      unfold Oper.wp
      have hrun : (execOp a.eval ⟨dst, .call ⟨.value f, args, argTypes⟩, ty, pos, after, guard⟩).run P w = .ok (.enter g (args.toList.map a.eval).toArray) w := by
        simp only [execOp, resolve, Deferred.ofValue, hfv, Sem.run_bind, Sem.run_pure, Result.andThen_ok, invoke, callFunc, run_program]
        cases hfn : P.funcs[g]? with
        | none => simp [hfn] at h2
        | some fn =>
          simp only [hfn, Option.bind_some, Option.map_some, ne_eq, Option.some.injEq] at h2 h3
          have hnm : (fn.name == "runtime.NumGoroutine") = false := by simpa using h3
          have hbn : fn.body.isNone = false := by cases hb : fn.body with | none => simp [hb] at h2 | some _ => rfl
          simp only [hnm, hbn, Bool.false_eq_true, if_false, Sem.run_pure]
          congr 2
          apply Array.ext'
          simp
      rw [hrun]
      refine hcall.mono fun e w' ⟨v, G', he, hR', hv, _⟩ => ?_
      subst he
      exact hK _ _ _ _ h7 (hR'.put hv dst hdst)
    | invoke r m => exact quiet ho.1 ho.2
  | binOp op t x y t' =>
    simp only at ho
    cases hn : isNilV (s.ev y) with
    | false => rw [hn] at ho; exact quiet ho.1 ho.2
    | true =>
      rw [hn] at ho
      obtain ⟨h1, h2, h3, h4⟩ := ho
      have hy := hev y
      have hye : s.ev y = .k (.slice none 0 0) := by
        unfold isNilV at hn
        split at hn
        · assumption
        · cases hn
      rw [hye] at hy
      have hyv := hy.k_inv
      obtain ⟨e, hu⟩ : ∃ e, P.underlying t = some (.slice e) := by
        unfold isSl at h2
        split at h2
        · rename_i q; exact ⟨_, q⟩
        · exact h2.elim
      obtain ⟨A, n, c, hxv, hm⟩ : ∃ A n c, a.eval x = .slice A n c ∧ (A = none → nilMay (s.ev x)) := by
        have hx := hev x
        have hd : ∀ (v : Value) (sz : Nat) (l : List D), RepD G.lim w v (.slice sz l) → ∃ A n c, v = .slice A n c ∧ (A = none → l = []) := by
          intro v sz l hd
          cases hd with
          | nil => exact ⟨none, 0, 0, rfl, fun _ => rfl⟩
          | slice b off cap _ _ vs hcap hmax => exact ⟨_, _, _, rfl, fun h => by cases h⟩
        generalize a.eval x = v at hx
        generalize s.ev x = z at hx h3
        unfold nilOk at h3
        split at h3
        · cases hx with | d _ _ h => exact hd _ _ _ h
        · cases hx with | own _ _ _ _ h => exact hd _ _ _ h
        · obtain ⟨A, rfl, h⟩ := hx.full_inv
          obtain ⟨A', n', c', e1, e2⟩ := hd _ _ _ h
          injection e1 with e1
          subst e1
          exact ⟨_, _, _, rfl, e2⟩
        · cases hx
          exact ⟨_, _, _, rfl, fun h => by cases h⟩
        · exact h3.elim
      have hrun : (Op.equal t (.slice A n c) (.slice none 0 0)).run P w = .ok A.isNone w := by
        have key : ∀ d, (Op.equalIn (d + 1) t (.slice A n c) (.slice none 0 0)).run P w = .ok A.isNone w := by
          intro d
          cases A <;> simp [Op.equalIn, run_underlying hu]
        exact key 9999
      have hg : (eqGuard op t x y (.slice A n c) (.slice none 0 0)).run P w = .ok () w := by
        unfold eqGuard; cases op <;> simp
      have hb : (a.eval x = .slice A n c) := hxv
      refine value (.bool (if op = .eql then A.isNone else !A.isNone)) w ?_ ?_
      · simp only [execOp, hxv, hyv]
        refine val _ _ _ ?_
        simp only [Sem.run_bind, hg, Result.andThen_ok]
        cases op <;> simp only [isEq] at h1 <;> simp [binOp, hrun]
      · refine hK _ _ _ _ (h4 A.isNone (fun hA => hm (by simpa using hA))) (hR.put ?_ dst hdst)
        cases op <;> simp only [isEq] at h1 <;> exact .d _ _ (.bool _)
  | makeSlice t l c =>
    obtain ⟨h1, h2⟩ := ho
    simp only at h1 h2
    have hx := hev l
    have hy := hev c
    generalize s.ev l = lv at hx h1 h2
    generalize s.ev c = cv at hy h1
    unfold mkOk at h1
    split at h1
    · rename_i q n q' m
      obtain ⟨⟨k1, k2⟩, k3, k4, k5, k6⟩ := h1
      obtain ⟨r, hr⟩ := Option.isSome_iff_exists.1 k1
      obtain ⟨sz, bt⟩ := r
      obtain ⟨zs, hzs⟩ := Option.isSome_iff_exists.1 k2
      have e1 : rowD P t = (sz, bt) := by simp [rowD, hr]
      have e2 : elZD P t = zs := by simp [elZD, hzs]
      simp only [e1, e2, natOf] at h2 k5
      obtain ⟨n', rfl⟩ := Int.eq_ofNat_of_zero_le k3
      obtain ⟨c', rfl⟩ := Int.eq_ofNat_of_zero_le (Int.le_trans k3 k4)
      obtain ⟨v, w', G', g1, g2, g3, _⟩ := hR.make hr hzs (n := n') (c := c') (q := q) (q' := q') (by omega) (by simpa using k5) (by simpa using k6) s.nx (s.nx + 1) (.inl ⟨rfl, rfl⟩)
      refine value v w' (val _ _ _ ?_) (hK _ _ _ _ (by simpa using h2) (g2.put g3 dst hdst))
      simp only [hx.int_inv, hy.int_inv]
      exact g1
    · exact h1.elim
  | makeMap t r => exact opX_sound hR ho hK
  | lookup t x i c => exact opX_sound hR ho hK
  | mapUpdate t m k v => exact opX_sound hR ho hK
  | _ => exact quiet ho.1 ho.2

end
end Go.Bv
