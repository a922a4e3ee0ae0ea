/-
  Part of a machine over pure data and objects that is sound for the model: what it says of a Go function holds of every call of that function. Conditions: those in each theorem. It speaks of any program.
-/
import Derived.Test.YtjaignojekmfgaaBvDraw
namespace Go.Bv
open Go.RowKit

def edgeB (af : Array Edge) (k : Nat) : Bool := af.any fun e => Region.binds .any e && e.on == k

/-- The first of the numbers of what the k-th operation makes. -/
def frs (nb S k : Nat) : Nat := nb + k * S

/-- The operations of a region that draws: what each does, in a state. -/
def opD (P : Program) (nb S k : Nat) (op : Op) (e : Eff) (s : St) : Prop := match op with
  | .alloc t => (zeroV P t).isSome = true ∧ 0 < S ∧ e.x = .ptr (frs nb S k) 0 ∧ e.hu = [(frs nb S k, .cells (zeroD P t))]
  | .box _ x => (∃ n, (s.ev x).flat n) ∧ 0 < S ∧ e.x = .ptr (frs nb S k) 0 ∧ e.hu = [(frs nb S k, .cells (s.ev x).cells)]
  | .store t a x => ∃ id off l g n, s.ev a = .ptr id off ∧ s.h.get id = some (.cells l) ∧ tyOf P t = some (g, n) ∧ (s.ev x).flat n ∧ off + n ≤ l.length ∧ e.x = .any ∧ e.hu = [(id, .cells (setAt l off (s.ev x).cells))]
  | .build t parts => (plOf P t).isSome = true ∧ (zeroV P t).isSome = true ∧ fillOk (plD P t) (zeroD P t) (parts.toList.map fun p => (p.1, s.ev p.2)) ∧
      e.x = .agg (fillR (plD P t) (zeroD P t) (parts.toList.map fun p => (p.1, s.ev p.2))) ∧ e.hu = []
  | .buildSlice t n parts => ((rowOf P t).isSome = true ∧ parts.toList.map (·.1) = List.range n ∧ (toDs (parts.toList.map fun p => s.ev p.2)).isSome = true ∧
      sizesOk (rowD P t).1 ((toDs (parts.toList.map fun p => s.ev p.2)).getD []) ∧ n * (rowD P t).1 ≤ 16777216) ∧ 0 < S ∧
      e.x = .full (rowD P t).1 ((toDs (parts.toList.map fun p => s.ev p.2)).getD []) ∧ e.hu = []
  | .load t a => loadOk (tyOf P t) s.h (s.ev a) ∧ (∀ id off, s.ev a = .ptr id off → id ∈ e.rd) ∧ e.x = loadV (tyOf P t) s.h (s.ev a) ∧ e.hu = []
  | .makeSlice t l c => mkOk P t (s.ev l) (s.ev c) ∧ 0 < S ∧ e.x = .row (frs nb S k) 0 (natOf (s.ev l)) (rowD P t).1 ∧ e.hu = [(frs nb S k, .cells (zrow (natOf (s.ev l)) (elZD P t)))]
  | .call c => match c.callee with
    | .value f => (∃ g r, s.ev f = .k (.func (.func g) #[] #[]) ∧ SoundX P g (c.args.toList.map s.ev) r ∧ e.x = r ∧ e.hu = []) ∨
        ∃ g xs pre r post ids, s.ev f = .k (.func (.func g) #[] #[]) ∧ ((P.funcs[g]?.bind (·.body)).isSome = true ∧ P.funcs[g]?.map (·.name) ≠ some "runtime.NumGoroutine" ∧ SoundH P g xs pre r post) ∧
          preOk s.h (sgm ids (frs nb S k)) pre.length (frs nb S k) (frs nb S k) ids pre ∧ ids.Nodup ∧ pre.length ≤ post.length ∧ leArgs (sgm ids (frs nb S k)) pre.length (c.args.toList.map s.ev) xs ∧ noTup r ∧
          (post.length - pre.length ≤ S ∧ ∀ j o, post[pre.length + j]? = some o → notTip o) ∧ e.x = ren (sgm ids (frs nb S k)) r ∧ e.hu = hpNew (sgm ids (frs nb S k)) 0 post
    | .builtin .append => (c.args.size = 2 ∧ c.argTypes.size = 2 ∧ c.argTypes.getD 0 0 = c.argTypes.getD 1 0) ∧
        ∃ tok sz bt l, rowOf P (c.argTypes.getD 0 0) = some (sz, bt) ∧ s.ev (c.args.getD 0 (.const .nilIface)) = .own tok sz l ∧ s.h.get tok = some (.tip l.length) ∧ isEls sz (s.ev (c.args.getD 1 (.const .nilIface))) ∧
          (l.length + ((s.ev (c.args.getD 1 (.const .nilIface))).elsD sz).length) * bt ≤ 140737488355328 ∧ l.length + ((s.ev (c.args.getD 1 (.const .nilIface))).elsD sz).length ≤ maxLen ∧
          e.x = .own tok sz (l ++ (s.ev (c.args.getD 1 (.const .nilIface))).elsD sz) ∧ e.hu = [(tok, .tip (l.length + ((s.ev (c.args.getD 1 (.const .nilIface))).elsD sz).length))]
    | .builtin .copy => False
    | .builtin .delete => False
    | _ => avOk P [] s.ev (.call c) ∧ e.x = av P [] s.ev (.call c) ∧ e.hu = []
  | .makeMap _ _ => False
  | .lookup _ _ _ _ => False
  | .mapUpdate _ _ _ _ => False
  | op => avOk P [] s.ev op ∧ e.x = av P [] s.ev op ∧ e.hu = []

def stepD (P : Program) (N : Nat) (tb : List (Option Nat)) (nb S k : Nat) (o : Oper) (e : Eff) (s : St) : Prop :=
  dstOk N o.dst ∧ e.d = o.dst ∧ match o.guard with
  | none => opD P nb S k o.op e s
  | some (j, b) => (guardV s tb j = .k undef ∧ e.x = .k undef ∧ e.hu = []) ∨ ∃ t, guardV s tb j = .d (.bool t) ∧ (t = b → opD P nb S k o.op e s) ∧ (t ≠ b → e.x = .k undef ∧ e.hu = [])

theorem av_h {P : Program} {ev : Operand → V} {op : Op} (h : Hp) (hl : ∀ t a, op ≠ .load t a) : av P h ev op = av P [] ev op ∧ avOk P h ev op = avOk P [] ev op := by
  cases op <;> first | exact ⟨rfl, rfl⟩ | skip
  rename_i t a
  exact (hl t a rfl).elim

section
variable {P : Program} {T : Tk} {G0 G : Gh} {w0 w : World} {N : Nat} {s s' : St} {a : Act}

theorem preOk_mono {h : Hp} {σ : Nat → Nat} {m fb nx nx' : Nat} (hn : nx ≤ nx') : ∀ {ks : List Nat} {os : List Ob}, preOk h σ m fb nx ks os → preOk h σ m fb nx' ks os
  | [], [], _ => trivial
  | _ :: _, _ :: _, hh => ⟨⟨hh.1.1, by have := hh.1.2.1; omega, hh.1.2.2⟩, preOk_mono hn hh.2⟩
  | [], _ :: _, hh => hh.elim
  | _ :: _, [], hh => hh.elim
theorem preOk_congr {h h' : Hp} {σ : Nat → Nat} {m fb nx : Nat} : ∀ {ks : List Nat} {os : List Ob}, (∀ k ∈ ks, h.get k = h'.get k) → preOk h σ m fb nx ks os → preOk h' σ m fb nx ks os
  | [], [], _, _ => trivial
  | k :: _, _ :: _, he, hh => ⟨⟨hh.1.1, hh.1.2.1, by rw [← he k (by simp)]; exact hh.1.2.2.1, hh.1.2.2.2⟩, preOk_congr (fun k hk => he k (by simp [hk])) hh.2⟩
  | [], _ :: _, _, hh => hh.elim
  | _ :: _, [], _, hh => hh.elim
theorem hpNew_some {σ : Nat → Nat} : ∀ (os : List Ob) (k i : Nat), k ≤ i → i < k + os.length → (Hp.get (hpNew σ k os) (σ i)).isSome = true
  | [], k, i, h1, h2 => by simp at h2; omega
  | o :: r, k, i, h1, h2 => by
    simp only [hpNew, Hp.get]
    split
    · rfl
    · rename_i hne
      have : i ≠ k := fun h => hne (by rw [h])
      exact hpNew_some r (k + 1) i (by omega) (by simp at h2; omega)

/-- One operation of such a region. -/
theorem opD_sound (hR : R T G0 w0 N s a G w) {nb S k : Nat} {o : Oper} {e : Eff} (hd : dstOk N o.dst) (hed : e.d = o.dst) (ho : opD P nb S k o.op e s) (hk : frs nb S k + S ≤ s.nx)
    (hfree : ∀ j, j < S → G.loc (frs nb S k + j) = none ∧ G.tloc (frs nb S k + j) = none ∧ s.h.get (frs nb S k + j) = none) {K' : Act → World → Prop} {Q : Exit → Act → World → Prop}
    (hK : ∀ a' G' w', R T G0 w0 N (e.app s) a' G' w' → (∀ i, i < s.nx → (i < frs nb S k ∨ frs nb S k + S ≤ i) → (Hp.get e.hu i).isSome = false → G'.loc i = G.loc i ∧ G'.tloc i = G.tloc i) → K' a' w') : o.wp P a w K' Q := by
  have hdst : ∀ t, o.dst = some t → t < N := fun t ht => by rw [ht] at hd; exact hd
  have hev := hR.ev
  obtain ⟨dst, op, ty, pos, after, guard⟩ := o
  obtain ⟨ed, ex, ehu, erd⟩ := e
  simp only at hed
  subst hed
  generalize hfb : frs nb S k = fb at *
  have value : ∀ (v : Value) (w' : World), (execOp a.eval ⟨ed, op, ty, pos, after, guard⟩).run P w = .ok (.value v) w' → K' (a.put ed v) w' → Oper.wp P ⟨ed, op, ty, pos, after, guard⟩ a w K' Q := by
    intro v w' h1 h2
    unfold Oper.wp
    rw [h1]
    exact h2
  have val : ∀ (sv : Sem Value) (v : Value) (w' : World), sv.run P w = .ok v w' → (do pure (.value (← sv)) : Sem Next).run P w = .ok (.value v) w' := by
    intro sv v w' hv; simp only [Sem.run_bind, hv, Result.andThen_ok, Sem.run_pure]
  have quiet : avOk P s.h s.ev op → ex = av P s.h s.ev op → ehu = [] → Oper.wp P ⟨ed, op, ty, pos, after, guard⟩ a w K' Q := by
    intro h1 h2 h3
    subst h2
    subst h3
    obtain ⟨v, g1, g2⟩ := av_sound (o := ⟨ed, op, ty, pos, after, guard⟩) hev hR.wr.obj h1
    exact value v w g1 (hK _ _ _ (hR.put g2 ed hdst) (fun i _ _ _ => ⟨rfl, rfl⟩))
  have quiet' : (∀ t x, op ≠ .load t x) → avOk P [] s.ev op → ex = av P [] s.ev op → ehu = [] → Oper.wp P ⟨ed, op, ty, pos, after, guard⟩ a w K' Q := by
    intro h0 h1 h2 h3
    obtain ⟨q1, q2⟩ := av_h (P := P) (ev := s.ev) s.h h0
    exact quiet (by rw [q2]; exact h1) (by rw [q1]; exact h2) h3
  cases op with
  | alloc t =>
    obtain ⟨h1, hS, h2, h3⟩ := ho
    simp only [hfb] at h2 h3
    subst h2
    subst h3
    obtain ⟨l, hl⟩ := Option.isSome_iff_exists.1 h1
    obtain ⟨f1, f2, f3⟩ := hfree 0 hS
    obtain ⟨i, z, hi, hz, hrow⟩ := zeroV_rep (G := G) (w := w) (h := s.h) (nx := s.nx) hl
    obtain ⟨G', hR', hp, hG⟩ := hR.allocAt fb (by omega) f1 f2 f3 t z.cells.toList l hrow.1 hrow.2.1 hrow.2.2
    have e1 : zeroD P t = l := by simp [zeroD, hl]
    refine value _ _ (val _ _ _ ?_) (hK _ _ _ (by rw [e1]; exact hR'.put hp ed hdst) (fun i _ hi _ => hG i (by omega)))
    have hzr : (zeroValue t).run P w = .ok z w := by simp [zeroValue, typeInfo, hi, hz]
    simp only [Instr.alloc, Sem.run_bind, hzr, Result.andThen_ok, newVar, newRow, newObj, Sem.run, Sem.run_pure, Array.toArray_toList]
    rfl
  | box t x =>
    obtain ⟨⟨n, h1⟩, hS, h2, h3⟩ := ho
    simp only [hfb] at h2 h3
    subst h2
    subst h3
    obtain ⟨f1, f2, f3⟩ := hfree 0 hS
    obtain ⟨g1, g2⟩ := cells_rep (hev x) h1
    obtain ⟨G', hR', hp, hG⟩ := hR.allocAt fb (by omega) f1 f2 f3 t (a.eval x).cells.toList (s.ev x).cells g2.1 g2.2.1 g2.2.2
    refine value _ _ (val _ _ _ ?_) (hK _ _ _ (hR'.put hp ed hdst) (fun i _ hi _ => hG i (by omega)))
    simp only [Instr.box, newVar, newRow, newObj, Sem.run_bind, Sem.run, Result.andThen_ok, Sem.run_pure, Array.toArray_toList]
    rfl
  | store t p x =>
    obtain ⟨id, off, l, g, n, h1, h3, h4, h5, h6, h7, h8⟩ := ho
    simp only at h7 h8
    subst h7
    subst h8
    have hp := hev p
    rw [h1] at hp
    obtain ⟨w', hrun, hR'⟩ := hR.store (P := P) h3 (hev x) hp h5.2 h4 h5.1 h6
    unfold Oper.wp
    have : (execOp a.eval ⟨ed, .store t p x, ty, pos, after, guard⟩).run P w = .ok .skip w' := by
      simp only [execOp, Sem.run_bind, hrun, Result.andThen_ok, Sem.run_pure]
    rw [this]
    exact hK _ _ _ (hR'.put (.any _) ed hdst) (fun i _ _ _ => ⟨rfl, rfl⟩)
  | build t parts =>
    obtain ⟨h1, h2, h3, h4, h5⟩ := ho
    simp only at h4 h5
    subst h4
    subst h5
    obtain ⟨pl, hpl⟩ := Option.isSome_iff_exists.1 h1
    obtain ⟨l0, hl0⟩ := Option.isSome_iff_exists.1 h2
    have e1 : plD P t = pl := by simp [plD, hpl]
    have e2 : zeroD P t = l0 := by simp [zeroD, hl0]
    rw [e1, e2] at h3 hK
    obtain ⟨v, z, g1, g2, g3⟩ := build_sound (P := P) (G := G) (w := w) (K := fun z => z = .agg (fillR pl l0 (parts.toList.map fun p => (p.1, s.ev p.2)))) hev parts.toList hpl hl0 (fill_iff _ _ h3 rfl)
    subst g3
    refine value v w (val _ _ _ ?_) (hK _ _ _ (hR.put g2 ed hdst) (fun i _ _ _ => ⟨rfl, rfl⟩))
    rw [← g1]
    congr 2
    apply Array.ext'
    simp
  | buildSlice t n parts =>
    obtain ⟨⟨h1, h2, h3, h4, h5⟩, hS, h6, h7⟩ := ho
    simp only at h6 h7
    subst h6
    subst h7
    obtain ⟨q, hq⟩ := Option.isSome_iff_exists.1 h1
    obtain ⟨sz, bt⟩ := q
    obtain ⟨l, hl⟩ := Option.isSome_iff_exists.1 h3
    have e1 : rowD P t = (sz, bt) := by simp [rowD, hq]
    simp only [e1, hl, Option.getD_some] at h4 h5 hK
    rw [toDs_eq] at hl
    obtain ⟨f1, f2, f3⟩ := hfree 0 hS
    obtain ⟨v, w', G', g1, g2, g3, hG⟩ := hR.buildSlice hq parts.toList n h2 hl (sizesOk_spec h4) h5 fb s.nx (.inr ⟨by omega, rfl⟩) f3
    refine value v w' (val _ _ _ ?_) (hK _ _ _ (g2.put g3 ed hdst) (fun i hi hi2 _ => hG i (by omega) hi))
    rw [← g1]
    congr 2
    apply Array.ext'
    simp
  | load t x =>
    obtain ⟨h1, _, h3, h4⟩ := ho
    exact quiet h1 h3 h4
  | makeSlice t l c =>
    obtain ⟨h1, hS, h2, h3⟩ := ho
    simp only [hfb] at h2 h3
    have hx := hev l
    have hy := hev c
    generalize s.ev l = lv at hx h1 h2 h3
    generalize s.ev c = cv at hy h1
    unfold mkOk at h1
    split at h1
    · rename_i q n q' m
      obtain ⟨⟨k1, k2⟩, k3, k4, k5, k6⟩ := h1
      obtain ⟨r, hr⟩ := Option.isSome_iff_exists.1 k1
      obtain ⟨sz, bt⟩ := r
      obtain ⟨zs, hzs⟩ := Option.isSome_iff_exists.1 k2
      have e1 : rowD P t = (sz, bt) := by simp [rowD, hr]
      have e2 : elZD P t = zs := by simp [elZD, hzs]
      simp only [e1, e2, natOf] at h2 h3 k5
      obtain ⟨n', rfl⟩ := Int.eq_ofNat_of_zero_le k3
      obtain ⟨c', rfl⟩ := Int.eq_ofNat_of_zero_le (Int.le_trans k3 k4)
      simp only [Int.toNat_natCast] at h2 h3 k5 k6
      subst h2
      subst h3
      obtain ⟨f1, f2, f3⟩ := hfree 0 hS
      obtain ⟨v, w', G', g1, g2, g3, hG⟩ := hR.make hr hzs (n := n') (c := c') (q := q) (q' := q') (by omega) k5 k6 fb s.nx (.inr ⟨by omega, rfl, f1, f2, f3⟩)
      refine value v w' (val _ _ _ ?_) (hK _ _ _ (g2.put g3 ed hdst) (fun i hi hi2 _ => hG i (by omega) hi))
      simp only [hx.int_inv, hy.int_inv]
      exact g1
    · exact h1.elim
  | makeMap t r => exact ho.elim
  | lookup t x i c => exact ho.elim
  | mapUpdate t m k v => exact ho.elim
  | call c =>
    obtain ⟨callee, args, argTypes⟩ := c
    cases callee with
    | invoke r m => exact quiet' (fun _ _ h => by cases h) ho.1 ho.2.1 ho.2.2
    | builtin b =>
      cases b with
      | copy => exact ho.elim
      | delete => exact ho.elim
      | append =>
        obtain ⟨⟨h1, h2, h3⟩, tok, sz, bt, l, k1, k2, k3, k4, k5, k6, k7, k8⟩ := ho
        obtain ⟨x, y, rfl⟩ : ∃ x y, args = #[x, y] := by
          obtain ⟨l⟩ := args
          match l, h1 with
          | [x, y], _ => exact ⟨x, y, rfl⟩
        obtain ⟨t, t', rfl⟩ : ∃ x y, argTypes = #[x, y] := by
          obtain ⟨l⟩ := argTypes
          match l, h2 with
          | [x, y], _ => exact ⟨x, y, rfl⟩
        have e0 : (#[t, t'] : Array TypeId).getD 0 0 = t := rfl
        have e0' : (#[t, t'] : Array TypeId).getD 1 0 = t' := rfl
        simp only at h3 k1 k2 k4 k5 k6 k7 k8
        rw [e0, e0'] at h3
        subst h3
        have ex' : (#[x, y] : Array Operand).getD 0 (.const .nilIface) = x := rfl
        have ey' : (#[x, y] : Array Operand).getD 1 (.const .nilIface) = y := rfl
        have e0 : (#[t, t] : Array TypeId).getD 0 0 = t := rfl
        simp only [ex', ey', e0] at k1 k2 k4 k5 k6 k7 k8
        subst k7
        subst k8
        obtain ⟨l2, hl2⟩ := Option.isSome_iff_exists.1 (show ((s.ev y).els sz).isSome = true from k4)
        have e3 : (s.ev y).elsD sz = l2 := by simp [V.elsD, hl2]
        simp only [e3] at k5 k6 hK
        have hg : growA s sz (.own tok sz l) = some (tok, s.nx, l) := by simp [growA, k3]
        have hx := hev x
        rw [k2] at hx
        obtain ⟨v, w', G', g1, g2, g3, hG⟩ := hR.append k1 hx (hev y) hg hl2 k5 ty k6
        refine value v w' ?_ (hK _ _ _ (g2.put g3 ed hdst) (fun i hi hi2 hn => hG i ?_ hi))
        · simp only [execOp, resolve, invoke, builtin, Sem.run_bind, Sem.run_pure, Result.andThen_ok, List.map_toArray, List.map_cons, List.map_nil, g1]
        · rintro rfl
          simp [Hp.get] at hn
      | _ => exact quiet' (fun _ _ h => by cases h) ho.1 ho.2.1 ho.2.2
    | value f =>
      rcases ho with ⟨g, r, h1, h2, h3, h4⟩ | ⟨g, xs, pre, r, post, ids, h1, ⟨h2, h3, h4⟩, p1, p2, p3, h5, h6, ⟨p4, p5⟩, h7, h8⟩
      · simp only at h3 h4
        subst h3
        subst h4
        have hf := hev f
        rw [h1] at hf
        have hfv := hf.k_inv
        obtain ⟨v, g1, g2⟩ := h2 G w s.h s.nx (args.toList.map a.eval) (by simp) (fun j v x hv hx => by
          rw [List.getElem?_map, Option.map_eq_some_iff] at hv
          obtain ⟨o', ho', rfl⟩ := hv
          simp only [List.getElem?_map, ho', Option.map_some, Option.some.injEq] at hx
          rw [← hx]
          exact hev o')
        refine value v w ?_ (hK _ _ _ (hR.put g2 ed hdst) (fun i _ _ _ => ⟨rfl, rfl⟩))
        simp only [execOp, resolve, Deferred.ofValue, hfv, Sem.run_bind, Sem.run_pure, Result.andThen_ok, invoke]
        rw [← g1]
        congr 2
        apply Array.ext'
        simp
      simp only [hfb] at p1 h5 h7 h8
      subst h7
      subst h8
      have hf := hev f
      rw [h1] at hf
      have hfv := hf.k_inv
      obtain ⟨g1, g2⟩ := leArgs_spec h5
      have hlen : (args.toList.map a.eval).length = xs.length := by simp at g1 ⊢; exact g1
      have hcall := hR.call (nx' := s.nx) h4 (preOk_mono (by omega) p1) p2 p3 (.inr ⟨rfl, fun j hj => ⟨by omega, (hfree j (by omega)).1, (hfree j (by omega)).2.1, fun o ho => p5 j o ho⟩⟩) hlen (fun j v x hv hx => by
        rw [List.getElem?_map, Option.map_eq_some_iff] at hv
        obtain ⟨o', ho', rfl⟩ := hv
        obtain ⟨q1, q2⟩ := g2 j (s.ev o') x (by rw [List.getElem?_map, ho']; rfl) hx
        exact ⟨(hev o').le q1, q2⟩) h6
      unfold Oper.wp
      have hrun : (execOp a.eval ⟨ed, .call ⟨.value f, args, argTypes⟩, ty, pos, after, guard⟩).run P w = .ok (.enter g (args.toList.map a.eval).toArray) w := by
        simp only [execOp, resolve, Deferred.ofValue, hfv, Sem.run_bind, Sem.run_pure, Result.andThen_ok, invoke, callFunc, run_program]
        cases hfn : P.funcs[g]? with
        | none => simp [hfn] at h2
        | some fn =>
          simp only [hfn, Option.bind_some, Option.map_some, ne_eq, Option.some.injEq] at h2 h3
          have hnm : (fn.name == "runtime.NumGoroutine") = false := by simpa using h3
          have hbn : fn.body.isNone = false := by cases hb : fn.body with | none => simp [hb] at h2 | some _ => rfl
          simp only [hnm, hbn, Bool.false_eq_true, if_false, Sem.run_pure]
          congr 2
          apply Array.ext'
          simp
      rw [hrun]
      refine hcall.mono fun e w' ⟨v, G', he, hR', hv, hG⟩ => ?_
      subst he
      refine hK _ _ _ (hR'.put hv ed hdst) (fun i hi hi2 hn => hG i hi (fun q hq heq => ?_))
      subst heq
      rw [hpNew_some post 0 q (Nat.zero_le _) (by omega)] at hn
      cases hn
  | _ => exact quiet' (fun _ _ h => by cases h) ho.1 ho.2.1 ho.2.2

/-- An operation sees its operands, and the objects that it touches. -/
theorem opD_congr {nb S k : Nat} {op : Op} {e : Eff} (hev : ∀ x ∈ op.operands, s.ev x = s'.ev x)
    (hh : ∀ id, ((Hp.get e.hu id).isSome = true ∨ id ∈ e.rd) → (id < frs nb S k ∨ frs nb S k + S ≤ id) → s.h.get id = s'.h.get id)
    (hh0 : ∀ id, (Hp.get e.hu id).isSome = true → (∃ t, op = .store t (op.operands.getD 0 (.const .nilIface)) (op.operands.getD 1 (.const .nilIface))) ∨ (∃ c, op = .call c) → s.h.get id ≠ none → s.h.get id = s'.h.get id) (hrd : ∀ id, id ∈ e.rd → s.h.get id ≠ none → s.h.get id = s'.h.get id) (ho : opD P nb S k op e s) : opD P nb S k op e s' := by
  have quiet : ∀ (op : Op), (∀ x ∈ op.operands, s.ev x = s'.ev x) → (∀ t a, op ≠ .load t a) → avOk P [] s.ev op → avOk P [] s'.ev op ∧ av P [] s.ev op = av P [] s'.ev op := by
    intro op hev hl
    cases op <;> simp only [avOk, av] <;> simp only [Op.operands, Call.operands] at hev <;> first | (intro h; exact h.elim) | skip
    case move x => rw [hev x (by simp)]; exact fun _ => ⟨trivial, rfl⟩
    case assign x => rw [hev x (by simp)]; exact fun _ => ⟨trivial, rfl⟩
    case pick c x y => rw [hev c (by simp), hev x (by simp), hev y (by simp)]; exact fun h => ⟨h, rfl⟩
    case load t x => exact (hl t x rfl).elim
    case fieldAddr t x f => rw [hev x (by simp)]; exact fun h => ⟨h, rfl⟩
    case field t x f => rw [hev x (by simp)]; exact fun h => ⟨h, rfl⟩
    case indexAddr t x i => rw [hev x (by simp), hev i (by simp)]; exact fun h => ⟨h, rfl⟩
    case index t x i => rw [hev x (by simp), hev i (by simp)]; exact fun h => ⟨h, rfl⟩
    case extract x i => rw [hev x (by simp)]; exact fun h => ⟨h, rfl⟩
    case binOp op t x y t' => rw [hev x (by simp), hev y (by simp)]; exact fun h => ⟨h, rfl⟩
    case unOp op t x => rw [hev x (by simp)]; exact fun h => ⟨h, rfl⟩
    case convert t t' x => rw [hev x (by simp)]; exact fun h => ⟨h, rfl⟩
    case slice t x lo hi mx =>
      rw [hev x (by simp)]
      have e1 : lo.map s.ev = lo.map s'.ev := by cases lo with | none => rfl | some y => simp [hev y (by simp)]
      have e2 : hi.map s.ev = hi.map s'.ev := by cases hi with | none => rfl | some y => simp [hev y (by simp)]
      rw [e1, e2]; exact fun h => ⟨h, rfl⟩
    case nilCheck x => rw [hev x (by simp)]; exact fun h => ⟨h, rfl⟩
    case call c =>
      have two : c.args.size = 2 → s.ev (c.args.getD 0 (.const .nilIface)) = s'.ev (c.args.getD 0 (.const .nilIface)) ∧ s.ev (c.args.getD 1 (.const .nilIface)) = s'.ev (c.args.getD 1 (.const .nilIface)) := by
        intro h2
        have e0 : c.args.getD 0 (.const .nilIface) = c.args[0] := by simp [h2]
        have e1 : c.args.getD 1 (.const .nilIface) = c.args[1] := by simp [h2]
        rw [e0, e1]
        exact ⟨hev _ (by simp), hev _ (by simp)⟩
      unfold callVOk callV
      split
      · rintro ⟨h1, h2⟩
        obtain ⟨e0, e1⟩ := two h1
        rw [e0, e1] at h2 ⊢
        exact ⟨⟨h1, h2⟩, rfl⟩
      · rintro ⟨h1, h2⟩
        obtain ⟨e0, e1⟩ := two h1
        rw [e0, e1] at h2 ⊢
        exact ⟨⟨h1, h2⟩, rfl⟩
      rintro ⟨h1, h2⟩
      have e1 : s.ev (c.args.getD 0 (.const .nilIface)) = s'.ev (c.args.getD 0 (.const .nilIface)) := by
        have hs : 0 < c.args.size := by rw [h1.2.1]; omega
        have : c.args.getD 0 (.const .nilIface) = c.args[0] := by simp [hs]
        rw [this]
        refine hev _ ?_
        rw [h1.1]
        simp
      rw [e1] at h2 ⊢
      exact ⟨⟨h1, h2⟩, rfl⟩
  cases op with
  | alloc t => exact ho
  | box t x =>
    simp only [Op.operands] at hev
    simp only [opD, hev x (by simp)] at ho ⊢
    exact ho
  | store t p x =>
    obtain ⟨id, off, l, g, n, h1, h3, h4, h5, h6, h7, h8⟩ := ho
    simp only [Op.operands] at hev
    have ep := hev p (by simp)
    have ex := hev x (by simp)
    have hg := hh0 id (by rw [h8]; simp [Hp.get]) (.inl ⟨t, rfl⟩) (by rw [h3]; simp)
    exact ⟨id, off, l, g, n, by rw [← ep]; exact h1, by rw [← hg]; exact h3, h4, by rw [← ex]; exact h5, h6, h7, by rw [← ex]; exact h8⟩
  | build t parts =>
    obtain ⟨h1, h2, h3, h4, h5⟩ := ho
    have e1 : (parts.toList.map fun p => (p.1, s.ev p.2)) = parts.toList.map fun p => (p.1, s'.ev p.2) := by
      apply List.map_congr_left
      intro p hp
      rw [hev p.2 (by simp only [Op.operands]; simp; exact ⟨p.1, by simpa using hp⟩)]
    rw [e1] at h3 h4
    exact ⟨h1, h2, h3, h4, h5⟩
  | buildSlice t n parts =>
    have e1 : (parts.toList.map fun p => s.ev p.2) = parts.toList.map fun p => s'.ev p.2 := by
      apply List.map_congr_left
      intro p hp
      rw [hev p.2 (by simp only [Op.operands]; simp; exact ⟨p.1, by simpa using hp⟩)]
    simp only [opD, e1] at ho ⊢
    exact ho
  | makeSlice t l c =>
    simp only [Op.operands] at hev
    simp only [opD, hev l (by simp), hev c (by simp)] at ho ⊢
    exact ho
  | makeMap t r => exact ho.elim
  | lookup t x i c => exact ho.elim
  | mapUpdate t m k v => exact ho.elim
  | load t x =>
    obtain ⟨h1, h2, h3, h4⟩ := ho
    simp only [Op.operands] at hev
    have ex := hev x (by simp)
    rw [ex] at h1 h2 h3
    have key : loadOk (tyOf P t) s'.h (s'.ev x) = loadOk (tyOf P t) s.h (s'.ev x) ∧ loadV (tyOf P t) s'.h (s'.ev x) = loadV (tyOf P t) s.h (s'.ev x) := by
      generalize s'.ev x = v at *
      cases v <;> first | exact ⟨rfl, rfl⟩ | skip
      rename_i id off
      have hne : s.h.get id ≠ none := by
        intro hn
        simp only [loadOk, hn] at h1
        split at h1 <;> simp_all
      have := hrd id (h2 id off rfl) hne
      simp only [loadOk, loadV, this]
      exact ⟨trivial, trivial⟩
    exact ⟨by rw [key.1]; exact h1, h2, by rw [key.2]; exact h3, h4⟩
  | call c =>
    obtain ⟨callee, args, argTypes⟩ := c
    cases callee with
    | invoke r m => obtain ⟨q1, q2⟩ := quiet _ hev (fun _ _ h => by cases h) ho.1; exact ⟨q1, by rw [← q2]; exact ho.2.1, ho.2.2⟩
    | builtin b =>
      cases b with
      | copy => exact ho.elim
      | delete => exact ho.elim
      | append =>
        obtain ⟨⟨h1, h2, h3⟩, tok, sz, bt, l, k1, k2, k3, k4, k5, k6, k7, k8⟩ := ho
        simp only at h1
        have a0 : s.ev (args.getD 0 (.const .nilIface)) = s'.ev (args.getD 0 (.const .nilIface)) := by
          have : args.getD 0 (.const .nilIface) = args[0] := by simp [h1]
          rw [this]
          exact hev _ (by simp only [Op.operands, Call.operands]; simp)
        have a1 : s.ev (args.getD 1 (.const .nilIface)) = s'.ev (args.getD 1 (.const .nilIface)) := by
          have : args.getD 1 (.const .nilIface) = args[1] := by simp [h1]
          rw [this]
          exact hev _ (by simp only [Op.operands, Call.operands]; simp)
        have hg := hh0 tok (by rw [k8]; simp [Hp.get]) (.inr ⟨_, rfl⟩) (by rw [k3]; simp)
        simp only [a0, a1] at k2 k4 k5 k6 k7 k8
        exact ⟨⟨h1, h2, h3⟩, tok, sz, bt, l, k1, k2, by rw [← hg]; exact k3, k4, k5, k6, k7, k8⟩
      | _ => obtain ⟨q1, q2⟩ := quiet _ hev (fun _ _ h => by cases h) ho.1; exact ⟨q1, by rw [← q2]; exact ho.2.1, ho.2.2⟩
    | value f =>
      simp only [Op.operands, Call.operands] at hev
      have ef := hev f (by simp)
      have ea : args.toList.map s.ev = args.toList.map s'.ev := List.map_congr_left (fun y hy => hev y (by simp; exact .inr (by simpa using hy)))
      rcases ho with ⟨g, r, h1, h2, h3, h4⟩ | ⟨g, xs, pre, r, post, ids, h1, h4, p1, p2, p3, h5, h6, p4, h7, h8⟩
      · exact .inl ⟨g, r, by rw [← ef]; exact h1, by rw [← ea]; exact h2, h3, h4⟩
      · refine .inr ⟨g, xs, pre, r, post, ids, by rw [← ef]; exact h1, h4, preOk_congr (fun k hk => ?_) p1, p2, p3, by rw [← ea]; exact h5, h6, p4, h7, h8⟩
        obtain ⟨hil, hpo⟩ := preOk_spec p1
        obtain ⟨i, hi, rfl⟩ := List.getElem_of_mem hk
        obtain ⟨q1, _⟩ := hpo i _ _ (List.getElem?_eq_getElem hi) (List.getElem?_eq_getElem (by omega))
        refine hh _ (.inl ?_) (.inl q1)
        have e1 : sgm ids (frs nb S k) i = ids[i] := by simp [sgm, hi]
        rw [h8, ← e1]
        exact hpNew_some post 0 i (Nat.zero_le _) (by omega)
  | _ => obtain ⟨q1, q2⟩ := quiet _ hev (fun _ _ h => by cases h) ho.1; exact ⟨q1, by rw [← q2]; exact ho.2.1, ho.2.2⟩

end
end Go.Bv
