/-
  Parts of the proofs that the laws of this seat hold of every input, merged by a program: a machine over pure data that is sound for the model, what each function of the translation does in it, and plain lemmas. No conditions but those in each theorem.
-/
import Derived.Test.YtnmakgfmimagmaaA2
set_option linter.all false
namespace Go.Cv
open Go Go.Bv Go.RowKit Go.Md
section
variable {T : Tab} {P : Program} {C : Cx T} {N : Nat}
theorem dstB_ok {d : Option Nat} (h : dstB N d = true) : dstOk N d := by
  cases d with
  | none => trivial
  | some t => exact blt_lt h
theorem fnOf_eq {v : TV T.den} {g : Nat} (h : fnOf T v = some g) : v = .k (.func (.func g) #[] #[]) := by
  unfold fnOf at h
  split at h
  · rename_i g' a b
    cases hb : Nat.beq a.size 0 && Nat.beq b.size 0 with
    | false => rw [hb] at h; cases h
    | true =>
      rw [hb] at h
      injection h with h
      subst h
      simp only [Bool.and_eq_true] at hb
      rw [Array.eq_empty_of_size_eq_zero (nb_eq hb.1), Array.eq_empty_of_size_eq_zero (nb_eq hb.2)]
  · cases h
theorem k1oz (v : TV T.den) : isNilV (er T v) = v.isNil := by
  cases v with
  | k u =>
    show isNilV (.k u) = isNilK u
    unfold isNilV isNilK
    cases u <;> first | rfl | skip
    rename_i a b c
    cases a with
    | none => cases b with
      | zero => cases c <;> rfl
      | succ b => rfl
    | some a => rfl
  | d t x => rfl
  | agg l => rfl
  | tup l => rfl
  | _ => rfl
theorem krs (hT : T.Ok) {t : TypeId} {ti : TI T.den} (hx : TI.Ok P T t ti) {e : Ty} {bt n : Nat} (hel : ti.el = some (e, bt)) {is : List Nat} {vs : List (TV T.den)} {l : List (e.den T.den)} (h1 : toEls T e vs = some l)
    (h2 : (vs.all (noK T) && rangeB 0 is && Nat.beq n is.length && Nat.ble (n * T.sz e) 16777216) = true) (hl : is.length = vs.length) :
    ((rowOf P t).isSome = true ∧ is = List.range n ∧ (toDs (vs.map (er T))).isSome = true ∧ sizesOk (rowD P t).1 ((toDs (vs.map (er T))).getD []) ∧ n * (rowD P t).1 ≤ 16777216) ∧
      V.full (rowD P t).1 ((toDs (vs.map (er T))).getD []) = er T (.full e l) := by
  simp only [Bool.and_eq_true] at h2
  obtain ⟨⟨⟨k1, k2⟩, k3⟩, k4⟩ := h2
  have hrow := (hx.el _ _ hel).2
  have hrd : rowD P t = (T.sz e, bt) := by unfold rowD; rw [hrow]; rfl
  obtain ⟨g1, g2⟩ := toEls_D hT h1 k1
  have hr := k1ej k2 (nb_eq k3).symm
  rw [hrd, g1]
  refine ⟨⟨by rw [hrow]; rfl, ?_, rfl, k1ep hT l, ble_le k4⟩, rfl⟩
  rw [hr]; simp
theorem k1mn (hT : T.Ok) (hC : C.Ok P T) {o : Oper} {s : TSt T.den} {K : TV T.den → THp T.den → Nat → Prop} (hdB : dstB N o.dst = true) (h : tStep T C s K o.op) : AOp P N o (Goes T s o.dst K) (erS T s) := by
  have hd := dstB_ok hdB
  clear hdB
  obtain ⟨dst, op, ty, pos, after, guard⟩ := o
  have quiet : ∀ op, tq T C.ti s (fun v => K v [] 0) op → avOk P (erS T s).h (erS T s).ev op ∧ Goes T s dst K ((erS T s).put dst (av P (erS T s).h (erS T s).ev op)) := by
    intro op h
    obtain ⟨u, h1, h2, h3⟩ := tq_snd hT hC.ti h
    exact ⟨h2, by rw [h3]; exact Goes.of h1 rfl⟩
  simp only at h hd
  cases op with
  | alloc t =>
    simp only [tStep, tOp] at h
    split at h
    · rename_i z hz
      obtain ⟨q1, q2⟩ := (hC.ti.of t).ze z hz
      refine ⟨hd, by rw [q1]; rfl, Goes.of h ?_⟩
      have : zeroD P t = z.map (er1 T) := by unfold zeroD; rw [q1]; rfl
      rw [this]; rfl
    · exact h.elim
  | box t x =>
    simp only [tStep, tOp] at h
    obtain ⟨h1, h2⟩ := cnd h
    obtain ⟨c1, c2⟩ := kqb h1
    refine ⟨hd, ⟨_, by rw [ev_er]; exact c2⟩, Goes.of h2 ?_⟩
    show St.put ⟨_, (s.nx, .cells ((erS T s).ev x).cells) :: _, _⟩ dst _ = _
    rw [ev_er, c1]; rfl
  | store t a x =>
    simp only [tStep, tOp] at h
    obtain ⟨id, off, l, g, n, o, h1, h2, h3, h4, h5, h6, h7⟩ := k19j hT (hC.ti.of t) h
    refine ⟨hd, ?_, ?_⟩
    · show storeOk _ _ ((erS T s).ev x) ((erS T s).ev a)
      rw [ev_er, ev_er, h2, h4, k1ob]
      show storeO _ _ _ ((erH T s.h).get id)
      rw [h3]; exact ⟨h5, h6⟩
    · show Goes T s dst K (St.put ⟨(erS T s).sl, storeH (erH T s.h) ((erS T s).ev x) ((erS T s).ev a), s.nx⟩ dst .any)
      rw [ev_er, ev_er, h2, k1pr, h3]
      show Goes T s dst K (St.put ⟨(erS T s).sl, (id, .cells (setAt l off (er T (s.ev x)).cells)) :: erH T s.h, s.nx⟩ dst .any)
      rcases h7 with h7 | ⟨_, B, h7, h8⟩
      · refine Goes.of h1 ?_
        show _ = St.put ⟨_, (id, erO T o) :: _, _⟩ dst _
        rw [h7]; rfl
      · exact Goes.weak h1 rfl h7 h8
  | build t parts =>
    simp only [tStep, tOp] at h
    split at h
    · rename_i z hz
      obtain ⟨q1, q2⟩ := (hC.ti.of t).ze z hz
      cases hp : (TI.of C.ti t).pl.isEmpty with
      | true => rw [hp] at h; exact h.elim
      | false =>
        rw [hp] at h
        have hpl := (hC.ti.of t).pl (fun e => by rw [e] at hp; cases hp)
        obtain ⟨l', g1, g2, g3⟩ := k10g _ _ h
        have e1 : zeroD P t = z.map (er1 T) := by unfold zeroD; rw [q1]; rfl
        have e2 : plD P t = (TI.of C.ti t).pl := by unfold plD; rw [hpl]; rfl
        have e3 : (parts.toList.map fun p => (p.1, (erS T s).ev p.2)) = (parts.toList.map fun p => (p.1, s.ev p.2)).map fun p => (p.1, er T p.2) := by
          rw [List.map_map]; exact List.map_congr_left fun p _ => by simp only [Function.comp, ev_er]
        refine ⟨hd, by rw [hpl]; rfl, by rw [q1]; rfl, ?_, ?_⟩
        · show fillOk (plD P t) (zeroD P t) (parts.toList.map fun p => (p.1, (erS T s).ev p.2))
          rw [e1, e2, e3]; exact g2
        · show Goes T s dst K ((erS T s).put dst (.agg (fillR (plD P t) (zeroD P t) (parts.toList.map fun p => (p.1, (erS T s).ev p.2)))))
          rw [e1, e2, e3, g3]; exact Goes.of g1 rfl
    · exact h.elim
  | buildSlice t n parts =>
    simp only [tStep, tOp] at h
    split at h
    · rename_i e bt hel
      split at h
      · rename_i l hl
        obtain ⟨h1, h2⟩ := cnd h
        have e3 : (parts.toList.map fun p => (erS T s).ev p.2) = (parts.toList.map fun p => s.ev p.2).map (er T) := by
          rw [List.map_map]; exact List.map_congr_left fun p _ => by simp only [Function.comp, ev_er]
        obtain ⟨⟨k1, k2, k3, k4, k5⟩, k6⟩ := krs hT (hC.ti.of t) hel (is := parts.toList.map (·.1)) hl (by rw [List.length_map]; exact h1) (by simp)
        rw [← e3] at k3 k4 k6
        refine ⟨hd, k1, k2, k3, k4, k5, ?_⟩
        show Goes T s dst K (St.put ⟨_, _, _⟩ dst (V.full (rowD P t).1 _))
        rw [k6]; exact Goes.of h2 rfl
      · exact h.elim
    · exact h.elim
  | makeSlice t l c =>
    have h : tMake T (TI.of C.ti t) s.nx c (s.ev l) (s.ev c) K := h
    obtain ⟨h1, h2⟩ := k1ou (d := dst) (hC.ti.of t) h
    rw [← ev_er, ← ev_er] at h1
    rw [← ev_er] at h2
    exact ⟨hd, h1, h2⟩
  | binOp op t x y t' =>
    simp only [tStep] at h
    show _ ∧ (match isNilV ((erS T s).ev y) with | true => _ | false => _)
    rw [ev_er, k1oz]
    refine ⟨hd, ?_⟩
    cases hn : (s.ev y).isNil with
    | true =>
      rw [hn] at h
      obtain ⟨_, h2, h3, h4⟩ := k1ps (hC.ti.of t) h
      obtain ⟨_, _, h5, _⟩ := h4 false (fun h => by cases h)
      refine ⟨h5, h2, by rw [ev_er]; exact h3, fun b hb => ?_⟩
      obtain ⟨u, g1, _, g3⟩ := h4 b (by rw [ev_er] at hb; exact hb)
      rw [g3]; exact Goes.of g1 rfl
    | false =>
      rw [hn] at h
      exact quiet _ h
  | call c =>
    obtain ⟨callee, args, argTypes⟩ := c
    refine ⟨hd, ?_⟩
    cases callee with
    | builtin b =>
      cases b with
      | append =>
        simp only [tStep, tOp] at h
        obtain ⟨h1, h2⟩ := cnd h
        simp only [Bool.and_eq_true] at h1
        obtain ⟨g1, g2⟩ := k1mu (d := dst) (hC.ti.of _) h2
        refine ⟨⟨nb_eq h1.1.1, nb_eq h1.1.2, nb_eq h1.2⟩, ?_, ?_⟩
        · show appOk P (erS T s) _ ((erS T s).ev _) ((erS T s).ev _)
          rw [ev_er, ev_er]; exact g1
        · show Goes T s dst K (appS P (erS T s) _ ((erS T s).ev _) ((erS T s).ev _) dst)
          rw [ev_er, ev_er]; exact g2
      | copy =>
        simp only [tStep, tOp] at h
        obtain ⟨h1, h2⟩ := cnd h
        simp only [Bool.and_eq_true] at h1
        obtain ⟨g1, g2⟩ := k1oq (d := dst) hT (hC.ti.of _) h2
        refine ⟨⟨nb_eq h1.1, nb_eq h1.2⟩, ?_, ?_⟩
        · show copyOk P _ _ ((erS T s).ev _) ((erS T s).ev _)
          rw [ev_er, ev_er]; exact g1
        · show Goes T s dst K (St.put ⟨_, copyH _ ((erS T s).ev _) ((erS T s).ev _), _⟩ dst (copyN ((erS T s).ev _) ((erS T s).ev _)))
          rw [ev_er, ev_er]; exact g2
      | len => exact quiet _ h
      | min => exact quiet _ h
      | max => exact quiet _ h
      | _ => exact (show False from h).elim
    | value f =>
      simp only [tStep, tOp] at h
      split at h
      · rename_i g hf
        have hev : (erS T s).ev f = .k (.func (.func g) #[] #[]) := by rw [ev_er, fnOf_eq hf]; rfl
        have ea : args.toList.map (erS T s).ev = (args.toList.map s.ev).map (er T) := by
          rw [List.map_map]; exact List.map_congr_left fun p _ => by simp only [Function.comp, ev_er]
        split at h
        · rename_i x hx
          obtain ⟨m1, m2⟩ := k104 hx
          split at h
          · rename_i i hi
            obtain ⟨h1, h2⟩ := h
            refine .inl ⟨g, _, hev, ?_, Goes.of h2 rfl⟩
            have := tX_snd (hC.xs x m1) hi h1
            rw [m2] at this
            show SoundX P g (args.toList.map (erS T s).ev) _
            rw [ea]; exact this
          · exact h.elim
        · obtain ⟨c, m1, m2, m3⟩ := kzo h
          obtain ⟨xs, pre, r, post, ids, v, hu, nf, k1, k2, k3, k4, k5, k6, k7, k8, k9, k10, _⟩ := k1e0 hT (hC.cs c m1) m3
          have hcl := (hC.cs c m1).cl
          rw [m2] at hcl k2
          refine .inr ⟨g, xs, pre, r, post, ids, hev, hcl.1, hcl.2, k2, k3, k4, k5, by rw [ea]; exact k6, k7, Goes.of k1 ?_⟩
          show St.put ⟨_, hpNew (sgm ids s.nx) 0 post ++ erH T s.h, s.nx + (post.length - pre.length)⟩ dst (ren (sgm ids s.nx) r) = _
          rw [k8, k9, k10]
      · exact h.elim
    | _ => exact (show False from h).elim
  | move x => exact ⟨hd, quiet _ h⟩
  | assign x => exact ⟨hd, quiet _ h⟩
  | pick c a b => exact ⟨hd, quiet _ h⟩
  | load t a => exact ⟨hd, quiet _ h⟩
  | fieldAddr t x f => exact ⟨hd, quiet _ h⟩
  | field t x f => exact ⟨hd, quiet _ h⟩
  | indexAddr t x i => exact ⟨hd, quiet _ h⟩
  | index t x i => exact ⟨hd, quiet _ h⟩
  | extract x i => exact ⟨hd, quiet _ h⟩
  | unOp op t x => exact ⟨hd, quiet _ h⟩
  | convert a b x => exact ⟨hd, quiet _ h⟩
  | slice t x lo hi mx => exact ⟨hd, quiet _ h⟩
  | nilCheck x => exact ⟨hd, quiet _ h⟩
  | _ => exact (show False from h).elim
end
end Go.Cv
namespace Go.Bv
open Go.RowKit
def Eqv (s s' : St) : Prop := s.h = s'.h ∧ s.nx = s'.nx ∧ ∀ t, getS s.sl t = getS s'.sl t
theorem Eqv.refl (s : St) : Eqv s s := ⟨rfl, rfl, fun _ => rfl⟩
theorem Eqv.ev {s s' : St} (h : Eqv s s') : s.ev = s'.ev := by
  funext x
  cases x with
  | tmp t => exact h.2.2 t
  | _ => rfl
theorem Eqv.put {s s' : St} (h : Eqv s s') (u : Hp) (nf : Nat) (d : Option Nat) (x : V) : Eqv (St.put ⟨s.sl, u ++ s.h, s.nx + nf⟩ d x) (St.put ⟨s'.sl, u ++ s'.h, s'.nx + nf⟩ d x) := by
  obtain ⟨h1, h2, h3⟩ := h
  cases d with
  | none => exact ⟨by show u ++ s.h = u ++ s'.h; rw [h1], by show s.nx + nf = s'.nx + nf; rw [h2], h3⟩
  | some t => exact ⟨by show u ++ s.h = u ++ s'.h; rw [h1], by show s.nx + nf = s'.nx + nf; rw [h2], fun j => by
      show (if j = t then x else getS s.sl j) = (if j = t then x else getS s'.sl j)
      rw [h3 j]⟩
theorem Eqv.wk {s s' : St} (h : Eqv s s') : Wk s s' := by
  obtain ⟨h1, h2, h3⟩ := h
  obtain ⟨sl, hh, nx⟩ := s
  obtain ⟨sl', hh', nx'⟩ := s'
  simp only at h1 h2 h3
  subst h1
  subst h2
  intro T G0 w0 N a G w hR
  exact ⟨hR.fr, hR.wr, hR.df, hR.sz, fun t => by have := hR.sl t; rw [h3 t] at this; exact this, hR.ex⟩
theorem Wk.trans {a b c : St} (h : Wk a b) (h' : Wk b c) : Wk a c := fun T G0 w0 N x G w hR => h' T G0 w0 N x G w (h T G0 w0 N x G w hR)
theorem k1e8 {s : St} {u : Nat} {v : V} (h : getS s.sl u = v) : Eqv s ⟨(u, v) :: s.sl, s.h, s.nx⟩ := ⟨rfl, rfl, fun t => by
  show getS s.sl t = if t = u then v else getS s.sl t
  by_cases e : t = u
  · rw [if_pos e, e, h]
  · rw [if_neg e]⟩
theorem opD_eqv {P : Program} {nb S k : Nat} {op : Op} {e : Eff} {s s' : St} (h : Eqv s s') (ho : opD P nb S k op e s') : opD P nb S k op e s := by
  have e1 := h.ev
  have e2 := h.1
  unfold opD at ho ⊢
  rw [e1, e2]
  exact ho
theorem k16x {P : Program} {N : Nat} {tb : List (Option Nat)} {nb S : Nat} {K K' : St → Prop} (hK : ∀ a b, Eqv a b → K b → K' a) : ∀ (l : List Oper) (ws rs : List (Nat × Nat)) (k : Nat) (s s' : St), Eqv s s' → DOps P N tb nb S ws rs k l K s' → DOps P N tb nb S ws rs k l K' s
  | [], _, _, _, s, s', he, h => hK s s' he h
  | o :: l, ws, rs, k, s, s', he, h => by
    obtain ⟨e, h1, ⟨h2, h3⟩, h4⟩ := h
    have hg : ∀ j, guardV s tb j = guardV s' tb j := fun j => by
      unfold guardV
      split
      · exact he.2.2 _
      · rfl
    refine ⟨e, ⟨h1.1, h1.2.1, ?_⟩, ⟨by rw [he.1]; exact h2, h3⟩, k16x hK l _ _ (k + 1) _ _ ?_ h4⟩
    · have h5 := h1.2.2
      split
      · rename_i hn; rw [hn] at h5; exact opD_eqv he h5
      · rename_i j b hn
        rw [hn] at h5
        simp only at h5
        rw [hg j]
        rcases h5 with h5 | ⟨t, q1, q2, q3⟩
        · exact .inl h5
        · exact .inr ⟨t, q1, fun ht => opD_eqv he (q2 ht), q3⟩
    · have := he.put e.hu 0 e.d e.x
      exact this
end Go.Bv
namespace Go.Cv
open Go Go.Bv Go.RowKit Go.Md
section
variable {T : Tab} {P : Program} {C : Cx T} {N : Nat}
theorem k1ne {v : Value} (h : isUndef v = true) : v = undef := by
  cases v with
  | tuple a =>
    have ha : a = #[] := Array.eq_empty_of_size_eq_zero (nb_eq h)
    subst ha; rfl
  | _ => cases h
theorem k1oh {s : TSt T.den} {tb : List (Option Nat)} {j u : Nat} (h : slotOf tb j = some u) : guardV (erS T s) tb j = er T (getT s.sl u) := by
  unfold slotOf at h
  split at h
  · rename_i t ht
    injection h with h
    subst h
    unfold guardV
    rw [ht]
    exact getS_er s.sl t
  · cases h
theorem k1an {s : TSt T.den} {tb : List (Option Nat)} {g : Option (Nat × Bool)} {run no : TSt T.den → Prop} (h : tGuard T s tb g run no) :
    (g = none ∧ run s) ∨ ∃ j b, g = some (j, b) ∧ ((guardV (erS T s) tb j = .k undef ∧ no s) ∨ ∃ (t : Bool) (s' : TSt T.den), guardV (erS T s) tb j = .d (.bool t) ∧ Eqv (erS T s) (erS T s') ∧ ((t = b ∧ run s') ∨ (t ≠ b ∧ no s'))) := by
  unfold tGuard at h
  split at h
  · exact .inl ⟨rfl, h⟩
  · rename_i j b
    refine .inr ⟨j, b, rfl, ?_⟩
    split at h
    · exact h.elim
    · rename_i u hu
      have hs := k1oh (s := s) hu
      split at h
      · rename_i v hv
        obtain ⟨h1, h2⟩ := cnd h
        rw [hv, k1ne h1] at hs
        exact .inl ⟨hs, h2⟩
      · rename_i t hv
        rw [hv] at hs
        refine .inr ⟨t, s, hs, Eqv.refl _, ?_⟩
        cases ht : (t == b) with
        | true => rw [ht] at h; exact .inl ⟨by simpa using ht, h⟩
        | false => rw [ht] at h; exact .inr ⟨by simpa using ht, h⟩
      · rename_i t hv
        rw [hv] at hs
        obtain ⟨h1, h2⟩ := h
        cases t with
        | true =>
          have h1 := h1 rfl
          refine .inr ⟨true, ⟨(u, .lit true) :: s.sl, s.h, s.nx⟩, hs, k1e8 (s := erS T s) (u := u) (v := er T (.lit true)) (by rw [show getS (erS T s).sl u = er T (getT s.sl u) from getS_er s.sl u, hv]; rfl), ?_⟩
          cases b with
          | true => exact .inl ⟨rfl, h1⟩
          | false => exact .inr ⟨(by decide), h1⟩
        | false =>
          have h2 := h2 rfl
          refine .inr ⟨false, ⟨(u, .lit false) :: s.sl, s.h, s.nx⟩, hs, k1e8 (s := erS T s) (u := u) (v := er T (.lit false)) (by rw [show getS (erS T s).sl u = er T (getT s.sl u) from getS_er s.sl u, hv]; rfl), ?_⟩
          cases b with
          | true => exact .inr ⟨(by decide), h2⟩
          | false => exact .inl ⟨rfl, h2⟩
      · exact h.elim
theorem k18e (hT : T.Ok) (hC : C.Ok P T) {Tk : Tk} {G0 : Gh} {w0 : World} {ops : List Oper} {Q : Exit → Act → World → Prop} : ∀ (l : List Oper) (K : TSt T.den → Prop) (s : TSt T.den) (a : Act) (G : Gh) (w : World), R Tk G0 w0 N (erS T s) a G w → tOps T C N (ops.map (·.dst)) l s K →
    (∀ s' a' G' w', K s' → R Tk G0 w0 N (erS T s') a' G' w' → Q .normal a' w') → wpList P ops.toArray Q l a w
  | [], K, s, a, G, w, hR, hk, hQ => hQ _ _ _ _ hk hR
  | o :: r, K, s, a, G, w, hR, hk, hQ => by
    refine wpList_step fun K1 hK1 => ?_
    simp only [tOps] at hk
    obtain ⟨hd, hk⟩ := cnd hk
    have hdo := dstB_ok hd
    have rest : ∀ s' a' G' w', tOps T C N (ops.map (·.dst)) r s' K → R Tk G0 w0 N (erS T s') a' G' w' → K1 a' w' := fun s' a' G' w' h1 h2 => hK1 _ _ (k18e hT hC r K s' a' G' w' h2 h1 hQ)
    have run : ∀ s' : TSt T.den, R Tk G0 w0 N (erS T s') a G w → tStep T C s' (fun v hu nf => tOps T C N (ops.map (·.dst)) r (TSt.put ⟨s'.sl, hu ++ s'.h, s'.nx + nf⟩ o.dst v) K) o.op → o.wp P a w K1 (fun e a w => Q e a w) := by
      intro s' hR' hs
      refine k1pe hR' (k1mn hT hC hd hs) ?_
      rintro s1 a' G' w' ⟨v, hu, nf, h1, h2⟩ hR1
      exact rest _ a' G' w' h1 (h2 _ _ _ _ _ _ _ hR1)
    have no : ∀ s' : TSt T.den, R Tk G0 w0 N (erS T s') a G w → tOps T C N (ops.map (·.dst)) r (s'.put o.dst (.k undef)) K → K1 (a.put o.dst undef) w := by
      intro s' hR' hs
      refine rest _ _ G w hs ?_
      rw [erS_put]
      exact hR'.put (.k _) o.dst (fun u hu => by rw [hu] at hdo; exact hdo)
    rcases k1an hk with ⟨hg, h1⟩ | ⟨j, b, hg, ⟨h1, h2⟩ | ⟨t, s', h1, he, ⟨htb, h2⟩ | ⟨htb, h2⟩⟩⟩
    · rw [if_pos (by simp [Region.wanted, hg])]
      exact run s hR h1
    · have hy := k18g hR h1
      rw [if_neg (by simp [Region.wanted, hg, hy])]
      exact no s hR h2
    · have hy := ktf hR h1
      rw [if_pos (by simp [Region.wanted, hg, hy, htb])]
      exact run s' (he.wk _ _ _ _ _ _ _ hR) h2
    · have hy := ktf hR h1
      rw [if_neg (by simp [Region.wanted, hg, hy, htb])]
      exact no s' (he.wk _ _ _ _ _ _ _ hR) h2
theorem k1or {k : IntKind} {zs : List V} {e : Ty} (he : e.prim = true) (h : leL zs ((T.e e (T.dflt e)).cells.map .d)) : zs = (T.e e (T.dflt e)).cells.map .d := by
  have key : ∀ d : D, (∀ s l, d ≠ .slice s l) → leL zs [.d d] → zs = [.d d] := by
    clear h
    intro d hd hl
    match zs, hl with
    | [z], hl =>
      have h1 : le1 z (.d d) := hl.1.1
      have : z = .d d := by
        unfold le1 at h1
        split at h1
        · rename_i hq; cases hq
        · rename_i hq; injection hq with hq; exact (hd _ _ hq).elim
        · rename_i hq; injection hq with hq; exact (hd _ _ hq).elim
        · rename_i hq; injection hq with hq; exact (hd _ _ hq).elim
        · rename_i hq; cases hq
        · exact h1
      rw [this]
    | [], hl => exact hl.elim
    | _ :: _ :: _, hl => exact hl.2.elim
  cases e with
  | int k => exact key _ (fun _ _ h => by cases h) h
  | bool => exact key _ (fun _ _ h => by cases h) h
  | str => exact key _ (fun _ _ h => by cases h) h
  | _ => cases he
theorem k1pq (hT : T.Ok) (hC : C.Ok P T) {nb S k : Nat} {s : TSt T.den} {K : TV T.den → THp T.den → Nat → Prop} {op : Op} (d : Option Nat) (h : tOp T C true (frs nb S k) s K op) :
    ∃ v hu nf, K v hu nf ∧ (nf ≤ S → opD P nb S k op ⟨d, er T v, erH T hu, rdT T s op⟩ (erS T s)) := by
  have quiet : ∀ op, (∀ t a, op ≠ .load t a) → tq T C.ti s (fun v => K v [] 0) op → ∃ v hu nf, K v hu nf ∧ avOk P [] (erS T s).ev op ∧ er T v = av P [] (erS T s).ev op ∧ erH T hu = [] := by
    intro op hl h
    obtain ⟨u, h1, h2, h3⟩ := tq_snd hT hC.ti h
    obtain ⟨q1, q2⟩ := av_h (P := P) (ev := (erS T s).ev) (op := op) (erS T s).h hl
    exact ⟨u, [], 0, h1, by rw [← q2]; exact h2, by rw [← q1, h3], rfl⟩
  cases op with
  | alloc t =>
    simp only [tOp] at h
    split at h
    · rename_i z hz
      obtain ⟨q1, q2⟩ := (hC.ti.of t).ze z hz
      refine ⟨_, _, _, h, fun hs => ⟨by rw [q1]; rfl, by omega, rfl, ?_⟩⟩
      have : zeroD P t = z.map (er1 T) := by unfold zeroD; rw [q1]; rfl
      rw [this]; rfl
    · exact h.elim
  | box t x =>
    simp only [tOp] at h
    obtain ⟨h1, h2⟩ := cnd h
    obtain ⟨c1, c2⟩ := kqb h1
    refine ⟨_, _, _, h2, fun hs => ⟨⟨_, by rw [ev_er]; exact c2⟩, by omega, rfl, ?_⟩⟩
    rw [ev_er, c1]; rfl
  | store t a x =>
    simp only [tOp] at h
    obtain ⟨id, off, l, g, n, o, h1, h2, h3, h4, h5, h6, h7⟩ := k19j hT (hC.ti.of t) h
    rcases h7 with h7 | ⟨h7, _⟩
    · refine ⟨_, _, _, h1, fun _ => ⟨id, off, l, g, n, by rw [ev_er]; exact h2, h3, h4, by rw [ev_er]; exact h5, h6, rfl, ?_⟩⟩
      rw [ev_er]
      show [(id, erO T o)] = _
      rw [h7]
    · cases h7
  | build t parts =>
    simp only [tOp] at h
    split at h
    · rename_i z hz
      obtain ⟨q1, q2⟩ := (hC.ti.of t).ze z hz
      cases hp : (TI.of C.ti t).pl.isEmpty with
      | true => rw [hp] at h; exact h.elim
      | false =>
        rw [hp] at h
        have hpl := (hC.ti.of t).pl (fun e => by rw [e] at hp; cases hp)
        obtain ⟨l', g1, g2, g3⟩ := k10g _ _ h
        have e1 : zeroD P t = z.map (er1 T) := by unfold zeroD; rw [q1]; rfl
        have e2 : plD P t = (TI.of C.ti t).pl := by unfold plD; rw [hpl]; rfl
        have e3 : (parts.toList.map fun p => (p.1, (erS T s).ev p.2)) = (parts.toList.map fun p => (p.1, s.ev p.2)).map fun p => (p.1, er T p.2) := by
          rw [List.map_map]; exact List.map_congr_left fun p _ => by simp only [Function.comp, ev_er]
        refine ⟨_, _, _, g1, fun _ => ⟨by rw [hpl]; rfl, by rw [q1]; rfl, ?_, ?_, rfl⟩⟩
        · rw [e1, e2, e3]; exact g2
        · rw [e1, e2, e3, g3]; rfl
    · exact h.elim
  | buildSlice t n parts =>
    simp only [tOp] at h
    split at h
    · rename_i e bt hel
      split at h
      · rename_i l hl
        obtain ⟨h1, h2⟩ := cnd h
        have e3 : (parts.toList.map fun p => (erS T s).ev p.2) = (parts.toList.map fun p => s.ev p.2).map (er T) := by
          rw [List.map_map]; exact List.map_congr_left fun p _ => by simp only [Function.comp, ev_er]
        obtain ⟨⟨k1, k2, k3, k4, k5⟩, k6⟩ := krs hT (hC.ti.of t) hel (is := parts.toList.map (·.1)) hl (by rw [List.length_map]; exact h1) (by simp)
        rw [← e3] at k3 k4 k6
        exact ⟨_, _, _, h2, fun _ => ⟨⟨k1, k2, k3, k4, k5⟩, by omega, k6.symm, rfl⟩⟩
      · exact h.elim
    · exact h.elim
  | makeSlice t l c =>
    simp only [tOp, Bool.true_and] at h
    cases hb : noPrim (TI.of C.ti t).el with
    | true => rw [hb] at h; exact h.elim
    | false =>
      rw [hb] at h
      simp only [cond_false, tMake] at h
      split at h
      · rename_i e bt q n q' m hel hez hxi hyi
        rw [hel] at hb
        have hpr : e.prim = true := by simpa [noPrim] using hb
        obtain ⟨h1, h2, h3⟩ := h
        obtain ⟨h3, h4⟩ := ask_and h3
        obtain ⟨h4, h5⟩ := ask_and h4
        have hrow := ((hC.ti.of t).el _ _ hel).2
        have hrd : rowD P t = (T.sz e, bt) := by unfold rowD; rw [hrow]; rfl
        obtain ⟨zs, z1, z2⟩ := (hC.ti.of t).ez hez e bt hel
        have hzs := k1or (k := .i64) hpr z2
        have ex : (erS T s).ev l = .d (.int q n) := by rw [ev_er, asI_eq hxi]; rfl
        have ey : (erS T s).ev c = .d (.int q' m) := by rw [ev_er, asI_eq hyi]; rfl
        refine ⟨_, _, _, h5, fun hs => ⟨?_, by omega, ?_, ?_⟩⟩
        · rw [ex, ey]
          exact ⟨⟨by rw [hrow]; rfl, by rw [z1]; rfl⟩, h1, h2, by rw [hrd]; exact h3, h4⟩
        · rw [ex, hrd]; rfl
        · rw [ex]
          show [(_, Ob.cells _)] = [(_, Ob.cells _)]
          have : elZD P t = zs := by unfold elZD; rw [z1]; rfl
          rw [this, zrow_eq, k124, hzs]; rfl
      · exact h.elim
  | call c =>
    obtain ⟨callee, args, argTypes⟩ := c
    cases callee with
    | builtin b =>
      cases b with
      | append =>
        simp only [tOp] at h
        obtain ⟨h1, h2⟩ := cnd h
        simp only [Bool.and_eq_true] at h1
        unfold tAppend at h2
        split at h2
        · exact h2.elim
        · rename_i e bt hel
          have hrow := ((hC.ti.of _).el _ _ hel).2
          split at h2
          · exact h2.elim
          · rename_i m hm
            obtain ⟨y1, y2⟩ := kpj hm
            split at h2
            · rename_i tok e0 l0 hx
              split at h2
              · rename_i e1 l' hg
                split at h2
                · rename_i l hl
                  obtain ⟨k1, k2, k3, k4⟩ := h2
                  obtain ⟨c1, c2, c3⟩ := k4j hl
                  have ex : (erS T s).ev (args.getD 0 (.const .nilIface)) = .own tok (T.sz e) (l.map (T.e e)) := by
                    rw [ev_er]
                    have : s.ev (args.getD 0 (.const .nilIface)) = .own tok e0 l0 := hx
                    rw [this]
                    show V.own tok (T.sz e0) (l0.map (T.e e0)) = _
                    rw [c1, c2]
                  have ey : ((erS T s).ev (args.getD 1 (.const .nilIface))).elsD (T.sz e) = m.map (T.e e) := by rw [ev_er]; exact y1
                  refine ⟨_, _, _, k4, fun _ => ⟨⟨nb_eq h1.1.1, nb_eq h1.1.2, nb_eq h1.2⟩, tok, T.sz e, bt, l.map (T.e e), hrow, ex, ?_, by rw [ev_er]; exact y2, ?_, ?_, ?_, ?_⟩⟩
                  · show (erH T s.h).get tok = _
                    rw [getH_er, hg, List.length_map, ← k1]; rfl
                  · rw [ey]; simp only [List.length_map]; exact k2
                  · rw [ey]; simp only [List.length_map]; exact k3
                  · rw [ey, ← List.map_append]; rfl
                  · rw [ey]
                    show [(tok, Ob.tip (l ++ m).length)] = _
                    rw [List.length_append, List.length_map, List.length_map]
                · exact h2.elim
              · exact h2.elim
            · split at h2
              · rename_i hh _; cases hh
              · exact h2.elim
            · exact h2.elim
            · exact h2.elim
      | len => obtain ⟨v, hu, nf, g1, g2, g3, g4⟩ := quiet (.call ⟨.builtin .len, args, argTypes⟩) (fun _ _ h => by cases h) h; exact ⟨v, hu, nf, g1, fun _ => ⟨g2, g3, g4⟩⟩
      | min => obtain ⟨v, hu, nf, g1, g2, g3, g4⟩ := quiet (.call ⟨.builtin .min, args, argTypes⟩) (fun _ _ h => by cases h) h; exact ⟨v, hu, nf, g1, fun _ => ⟨g2, g3, g4⟩⟩
      | max => obtain ⟨v, hu, nf, g1, g2, g3, g4⟩ := quiet (.call ⟨.builtin .max, args, argTypes⟩) (fun _ _ h => by cases h) h; exact ⟨v, hu, nf, g1, fun _ => ⟨g2, g3, g4⟩⟩
      | _ => exact (show False from h).elim
    | value f =>
      simp only [tOp] at h
      split at h
      · rename_i g hf
        have hev : (erS T s).ev f = .k (.func (.func g) #[] #[]) := by rw [ev_er, fnOf_eq hf]; rfl
        have ea : args.toList.map (erS T s).ev = (args.toList.map s.ev).map (er T) := by
          rw [List.map_map]; exact List.map_congr_left fun p _ => by simp only [Function.comp, ev_er]
        split at h
        · rename_i x hx
          obtain ⟨m1, m2⟩ := k104 hx
          split at h
          · rename_i i hi
            obtain ⟨h1, h2⟩ := h
            have := tX_snd (hC.xs x m1) hi h1
            rw [m2, ← ea] at this
            exact ⟨_, _, _, h2, fun _ => .inl ⟨g, _, hev, this, rfl, rfl⟩⟩
          · exact h.elim
        · obtain ⟨c, m1, m2, m3⟩ := kzo h
          obtain ⟨xs, pre, r, post, ids, v, hu, nf, k1, k2, k3, k4, k5, k6, k7, k8, k9, k10, k11⟩ := k1e0 hT (hC.cs c m1) m3
          have hcl := (hC.cs c m1).cl
          rw [m2] at hcl k2
          rw [← ea] at k6
          exact ⟨v, hu, nf, k1, fun hs => .inr ⟨g, xs, pre, r, post, ids, hev, ⟨hcl.1, hcl.2, k2⟩, k3, k4, k5, k6, k7, ⟨by omega, k11 rfl⟩, k8, k9⟩⟩
      · exact h.elim
    | _ => exact (show False from h).elim
  | load t a =>
    obtain ⟨u, h1, h2, h3⟩ := tq_snd hT hC.ti (op := .load t a) h
    refine ⟨u, [], 0, h1, fun _ => ⟨h2, fun id off he => ?_, h3.symm, rfl⟩⟩
    rw [ev_er] at he
    show id ∈ (match s.ev a with | .ptr id _ => [id] | .aptr id _ _ _ => [id] | .eptr id _ _ _ => [id] | _ => [])
    generalize s.ev a = v at he
    cases v with
    | ptr i o => injection he with he; subst he; simp
    | aptr i o n j => injection he with he; subst he; simp
    | eptr i o n j => injection he with he; subst he; simp
    | _ => cases he
  | move x => obtain ⟨v, hu, nf, g1, g2, g3, g4⟩ := quiet (.move x) (fun _ _ h => by cases h) h; exact ⟨v, hu, nf, g1, fun _ => ⟨g2, g3, g4⟩⟩
  | assign x => obtain ⟨v, hu, nf, g1, g2, g3, g4⟩ := quiet (.assign x) (fun _ _ h => by cases h) h; exact ⟨v, hu, nf, g1, fun _ => ⟨g2, g3, g4⟩⟩
  | pick c a b => obtain ⟨v, hu, nf, g1, g2, g3, g4⟩ := quiet (.pick c a b) (fun _ _ h => by cases h) h; exact ⟨v, hu, nf, g1, fun _ => ⟨g2, g3, g4⟩⟩
  | fieldAddr t x f => obtain ⟨v, hu, nf, g1, g2, g3, g4⟩ := quiet (.fieldAddr t x f) (fun _ _ h => by cases h) h; exact ⟨v, hu, nf, g1, fun _ => ⟨g2, g3, g4⟩⟩
  | field t x f => obtain ⟨v, hu, nf, g1, g2, g3, g4⟩ := quiet (.field t x f) (fun _ _ h => by cases h) h; exact ⟨v, hu, nf, g1, fun _ => ⟨g2, g3, g4⟩⟩
  | indexAddr t x i => obtain ⟨v, hu, nf, g1, g2, g3, g4⟩ := quiet (.indexAddr t x i) (fun _ _ h => by cases h) h; exact ⟨v, hu, nf, g1, fun _ => ⟨g2, g3, g4⟩⟩
  | index t x i => obtain ⟨v, hu, nf, g1, g2, g3, g4⟩ := quiet (.index t x i) (fun _ _ h => by cases h) h; exact ⟨v, hu, nf, g1, fun _ => ⟨g2, g3, g4⟩⟩
  | extract x i => obtain ⟨v, hu, nf, g1, g2, g3, g4⟩ := quiet (.extract x i) (fun _ _ h => by cases h) h; exact ⟨v, hu, nf, g1, fun _ => ⟨g2, g3, g4⟩⟩
  | binOp op t x y t' => obtain ⟨v, hu, nf, g1, g2, g3, g4⟩ := quiet (.binOp op t x y t') (fun _ _ h => by cases h) h; exact ⟨v, hu, nf, g1, fun _ => ⟨g2, g3, g4⟩⟩
  | unOp op t x => obtain ⟨v, hu, nf, g1, g2, g3, g4⟩ := quiet (.unOp op t x) (fun _ _ h => by cases h) h; exact ⟨v, hu, nf, g1, fun _ => ⟨g2, g3, g4⟩⟩
  | convert a b x => obtain ⟨v, hu, nf, g1, g2, g3, g4⟩ := quiet (.convert a b x) (fun _ _ h => by cases h) h; exact ⟨v, hu, nf, g1, fun _ => ⟨g2, g3, g4⟩⟩
  | slice t x lo hi mx => obtain ⟨v, hu, nf, g1, g2, g3, g4⟩ := quiet (.slice t x lo hi mx) (fun _ _ h => by cases h) h; exact ⟨v, hu, nf, g1, fun _ => ⟨g2, g3, g4⟩⟩
  | nilCheck x => obtain ⟨v, hu, nf, g1, g2, g3, g4⟩ := quiet (.nilCheck x) (fun _ _ h => by cases h) h; exact ⟨v, hu, nf, g1, fun _ => ⟨g2, g3, g4⟩⟩
  | _ => exact (show False from h).elim
theorem kvk {af : Array Edge} {id : Nat} : ∀ {ws : List (Nat × Nat)}, wsB af id ws = true → wsL ws af id
  | [], _, p, hp, _ => by cases hp
  | q :: r, h, p, hp, he => by
    simp only [wsB, Bool.and_eq_true, Bool.or_eq_true, Bool.not_eq_true'] at h
    rcases List.mem_cons.1 hp with rfl | hp
    · rcases h.1 with h1 | h1
      · rw [he, nb_self] at h1; cases h1
      · exact h1
    · exact kvk h.2 p hp he
theorem k1j8 {ws : List (Nat × Nat)} {af : Array Edge} : ∀ {ids : List Nat}, rdB ws af ids = true → rdOk ws af ids
  | [], _, id, h => by cases h
  | i :: r, h, id, hi => by
    simp only [rdB, Bool.and_eq_true] at h
    rcases List.mem_cons.1 hi with rfl | hi
    · exact kvk h.1
    · exact k1j8 h.2 id hi
theorem k1k2 {nb S k : Nat} {ws rs : List (Nat × Nat)} {af : Array Edge} {h : THp T.den} : ∀ {ids : List Nat}, wrB T nb S k ws rs af h ids = true → wrOk nb S k ws rs af (erH T h) ids
  | [], _, id, h => by cases h
  | i :: r, hh, id, hi => by
    simp only [wrB, Bool.and_eq_true, Bool.or_eq_true] at hh
    obtain ⟨⟨⟨⟨h1, h2⟩, h3⟩, h4⟩, h5⟩ := hh
    rcases List.mem_cons.1 hi with rfl | hi
    · refine ⟨kvk h1, kvk h2, blt_lt h3, ?_⟩
      rcases h4 with h4 | h4
      · exact .inl (ble_le h4)
      · refine .inr ?_
        rw [getH_er, Option.isSome_map]; exact h4
    · exact k1k2 h5 id hi
theorem keys_er (h : THp T.den) : keys (erH T h) = keysT T h := by
  unfold keys erH keysT
  rw [List.map_map]; rfl
def KE (K : TSt T.den → Prop) (s : St) : Prop := ∃ t, K t ∧ Wk s (erS T t)
theorem k118 (hT : T.Ok) (hC : C.Ok P T) {tb : List (Option Nat)} {nb S : Nat} {K : TSt T.den → Prop} : ∀ (l : List Oper) (ws rs : List (Nat × Nat)) (k : Nat) (s : TSt T.den), tDs T C N tb nb S l ws rs k s K → DOps P N tb nb S ws rs k l (KE K) (erS T s)
  | [], ws, rs, k, s, h => ⟨s, h, Wk.refl _⟩
  | o :: r, ws, rs, k, s, h => by
    have hcl : ∀ a b : St, Eqv a b → KE K b → KE K a := fun a b he ⟨t, h1, h2⟩ => ⟨t, h1, he.wk.trans h2⟩
    simp only [tDs] at h
    obtain ⟨hd, h⟩ := cnd h
    have hdo := dstB_ok hd
    have run : ∀ s' : TSt T.den, (bif rdB ws o.after (rdT T s' o.op) then tOp T C true (frs nb S k) s' (fun v hu nf => bif Nat.ble nf S && wrB T nb S k ws rs o.after s'.h (keysT T hu) then
          tDs T C N tb nb S r ((keysT T hu).map (·, k) ++ ws) ((rdT T s' o.op).map (·, k) ++ rs) (k + 1) (TSt.put ⟨s'.sl, hu ++ s'.h, s'.nx⟩ o.dst v) K else False) o.op else False) →
        ∃ e : Eff, (e.d = o.dst ∧ opD P nb S k o.op e (erS T s')) ∧ (wrOk nb S k ws rs o.after (erS T s').h (keys e.hu) ∧ rdOk ws o.after e.rd) ∧ DOps P N tb nb S ((keys e.hu).map (·, k) ++ ws) (e.rd.map (·, k) ++ rs) (k + 1) r (KE K) (e.app (erS T s')) := by
      intro s' hr
      obtain ⟨hr1, hr2⟩ := cnd hr
      obtain ⟨v, hu, nf, k1, k2⟩ := k1pq hT hC o.dst hr2
      obtain ⟨k3, k4⟩ := cnd k1
      simp only [Bool.and_eq_true] at k3
      refine ⟨_, ⟨rfl, k2 (ble_le k3.1)⟩, ⟨?_, k1j8 hr1⟩, ?_⟩
      · rw [keys_er]; exact k1k2 k3.2
      · have := k118 hT hC r _ _ (k + 1) _ k4
        rw [keys_er]
        have e : (Eff.app ⟨o.dst, er T v, erH T hu, rdT T s' o.op⟩ (erS T s')) = erS T (TSt.put ⟨s'.sl, hu ++ s'.h, s'.nx⟩ o.dst v) := by
          rw [erS_put]
          show St.put ⟨_, erH T hu ++ erH T s'.h, _⟩ o.dst _ = St.put ⟨_, erH T (hu ++ s'.h), _⟩ o.dst _
          rw [erH_app]; rfl
        rw [e]; exact this
    have no : ∀ s' : TSt T.den, tDs T C N tb nb S r ws rs (k + 1) (s'.put o.dst (.k undef)) K → ∃ e : Eff, (e.d = o.dst ∧ e.x = .k undef ∧ e.hu = []) ∧ (wrOk nb S k ws rs o.after (erS T s').h (keys e.hu) ∧ rdOk ws o.after e.rd) ∧ DOps P N tb nb S ((keys e.hu).map (·, k) ++ ws) (e.rd.map (·, k) ++ rs) (k + 1) r (KE K) (e.app (erS T s')) := by
      intro s' hr
      have := k118 hT hC r _ _ (k + 1) _ hr
      rw [erS_put] at this
      exact ⟨⟨o.dst, .k undef, [], []⟩, ⟨rfl, rfl, rfl⟩, ⟨fun _ h => (by cases h), fun _ h => (by cases h)⟩, this⟩
    have back : ∀ s' : TSt T.den, Eqv (erS T s) (erS T s') → ∀ e : Eff, (wrOk nb S k ws rs o.after (erS T s').h (keys e.hu) ∧ rdOk ws o.after e.rd) ∧ DOps P N tb nb S ((keys e.hu).map (·, k) ++ ws) (e.rd.map (·, k) ++ rs) (k + 1) r (KE K) (e.app (erS T s')) →
        (wrOk nb S k ws rs o.after (erS T s).h (keys e.hu) ∧ rdOk ws o.after e.rd) ∧ DOps P N tb nb S ((keys e.hu).map (·, k) ++ ws) (e.rd.map (·, k) ++ rs) (k + 1) r (KE K) (e.app (erS T s)) := by
      rintro s' he e ⟨⟨h1, h2⟩, h3⟩
      exact ⟨⟨by rw [he.1]; exact h1, h2⟩, k16x hcl r _ _ _ _ _ (he.put e.hu 0 e.d e.x) h3⟩
    rcases k1an h with ⟨hg, h1⟩ | ⟨j, b, hg, ⟨h1, h2⟩ | ⟨t, s', h1, he, ⟨htb, h2⟩ | ⟨htb, h2⟩⟩⟩
    · obtain ⟨e, ⟨q1, q2⟩, q3, q4⟩ := run s h1
      exact ⟨e, ⟨hdo, q1, by rw [hg]; exact q2⟩, q3, q4⟩
    · obtain ⟨e, ⟨q1, q2⟩, q3, q4⟩ := no s h2
      exact ⟨e, ⟨hdo, q1, by rw [hg]; exact .inl ⟨h1, q2⟩⟩, q3, q4⟩
    · obtain ⟨e, ⟨q1, q2⟩, q3⟩ := run s' h2
      obtain ⟨q4, q5⟩ := back s' he e q3
      exact ⟨e, ⟨hdo, q1, by rw [hg]; exact .inr ⟨t, h1, fun _ => opD_eqv he q2, fun hn => (hn htb).elim⟩⟩, q4, q5⟩
    · obtain ⟨e, ⟨q1, q2⟩, q3⟩ := no s' h2
      obtain ⟨q4, q5⟩ := back s' he e q3
      exact ⟨e, ⟨hdo, q1, by rw [hg]; exact .inr ⟨t, h1, fun hn => (htb hn).elim, fun _ => q2⟩⟩, q4, q5⟩
end
end Go.Cv
namespace Go.Bv
open Go.RowKit
def Lk (T : Tk) (s s' : St) : Prop := ∀ (G0 : Gh) (w0 : World) (N : Nat) (a : Act) (G : Gh) (w : World), R T G0 w0 N s a G w → R T G0 w0 N s' a G w
theorem Wk.lk {T : Tk} {s s' : St} (h : Wk s s') : Lk T s s' := fun G0 w0 N a G w hR => h T G0 w0 N a G w hR
theorem St.le.lk {T : Tk} {s s' : St} (h : St.le T.nx s s') : Lk T s s' := fun _ _ _ _ _ _ hR => hR.le h
theorem Lk.trans {T : Tk} {a b c : St} (h : Lk T a b) (h' : Lk T b c) : Lk T a c := fun G0 w0 N x G w hR => h' G0 w0 N x G w (h G0 w0 N x G w hR)
section
variable {P : Program} {T : Tk} {G0 : Gh} {w0 : World} {N : Nat} {s : St} {Q : Exit → St → Prop}
theorem sat_lk {c : Code} {s' : St} (hl : Lk T s s') (h : Sat P T G0 w0 N c s' Q) : Sat P T G0 w0 N c s Q := fun G a w hR => h G a w (hl _ _ _ _ _ _ hR)
theorem k1p0 {c : Code} {Q' : Exit → St → Prop} (h : Sat P T G0 w0 N c s Q) (hq : ∀ e s, Q e s → ∃ s', Q' e s' ∧ Lk T s s') : Sat P T G0 w0 N c s Q' :=
  fun G a w hR => wp_mono (h G a w hR) fun _ _ _ ⟨s', G', h1, h2⟩ => let ⟨s2, k1, k2⟩ := hq _ s' h1; ⟨s2, G', k1, k2 _ _ _ _ _ _ h2⟩
theorem k1o9 {ι : Type} (st : ι → St) (p : ι → Prop) (μ : ι → Nat) {c : Code} (i0 : ι) (h0 : p i0) (hl : Lk T s (st i0))
    (round : ∀ i, p i → Sat P T G0 w0 N c (st i) (thenA (fun s' => ∃ i', p i' ∧ μ i' < μ i ∧ Lk T s' (st i')) Q)) : Sat P T G0 w0 N (.loop c) s Q := by
  intro G a w hR
  have key : ∀ n i, μ i = n → p i → ∀ G a w, R T G0 w0 N (st i) a G w → ∀ (b : Frame) (k : List Item) (cs : List Frame), ∃ e a' w', (∃ s' G', Q e s' ∧ R T G0 w0 N s' a' G' w') ∧ Arrives P (lone (b.at a (.code c :: .inLoop c :: k)) cs w) b k cs e a' w' := by
    intro n
    induction n using Nat.strongRecOn with
    | _ n ih =>
      intro i hn hp G a w hR b k cs
      obtain ⟨e, a1, w1, ⟨s1, G1, hq, hR1⟩, harr⟩ := round i hp G a w hR b (.inLoop c :: k) cs
      cases e with
      | normal =>
        obtain ⟨i', h1, h2, h3⟩ := hq
        obtain ⟨e2, a2, w2, hq2, harr2⟩ := ih (μ i') (hn ▸ h2) i' rfl h1 G1 a1 w1 (h3 _ _ _ _ _ _ hR1) b k cs
        exact ⟨e2, a2, w2, hq2, .of_steps (Steps.trans harr (.one step_inLoop)) harr2⟩
      | exit id => exact ⟨_, a1, w1, ⟨s1, G1, hq, hR1⟩, .pass (x := .inLoop c) rfl (fun _ _ => .inl (by simp)) harr⟩
      | goto l => exact ⟨_, a1, w1, ⟨s1, G1, hq, hR1⟩, .pass (x := .inLoop c) rfl (fun _ _ => .inl (by simp)) harr⟩
      | ret => exact ⟨_, a1, w1, ⟨s1, G1, hq, hR1⟩, .pass (x := .inLoop c) rfl (fun _ _ => .inl (by simp)) harr⟩
      | panic ch => exact ⟨_, a1, w1, ⟨s1, G1, hq, hR1⟩, .pass (x := .inLoop c) rfl (fun _ _ => .inl (by simp)) harr⟩
      | outgrown => exact ⟨_, a1, w1, ⟨s1, G1, hq, hR1⟩, .pass (x := .inLoop c) rfl (fun _ _ => .inl (by simp)) harr⟩
  intro b k cs
  obtain ⟨e, a', w', hq, harr⟩ := key _ i0 rfl h0 G a w (hl _ _ _ _ _ _ hR) b k cs
  exact ⟨e, a', w', hq, .of_steps (.one step_loop) harr⟩
end
end Go.Bv
namespace Go.Cv
open Go Go.Bv Go.RowKit Go.Md
section
variable {T : Tab} {P : Program} {C : Cx T} {N : Nat}
theorem slLe_mk {s : TSt T.den} {nx : Nat} : ∀ (ts : List Nat) (vs : List (TV T.den)), leAll ((ts.map (getT s.sl)).map (er T)) (vs.map (er T)) → (∀ z ∈ vs.map (er T), ok nx z) → slLe (erS T s).sl nx ((zipS T ts vs).map fun p => (p.1, er T p.2))
  | [], [], _, _ => trivial
  | [], _ :: _, h, _ => h.elim
  | _ :: _, [], h, _ => h.elim
  | t :: ts, v :: vs, h, ho => by
    refine ⟨⟨?_, ho _ (by simp)⟩, slLe_mk ts vs h.2 fun z hz => ho z (by simp only [List.map_cons, List.mem_cons]; exact .inr hz)⟩
    show le (getS (erS T s).sl t) (er T v)
    rw [show getS (erS T s).sl t = er T (getT s.sl t) from getS_er s.sl t]
    exact h.1
theorem hpLe_mk {h : Hp} {nx : Nat} {σ : Nat → Nat} : ∀ (os : List (TOb T.den)) (k : Nat), (∀ i o, os[i]? = some o → σ (k + i) < nx ∧ obLe (h.get (σ (k + i))) (erO T o) ∧ okO nx (erO T o)) → hpLe h nx (erH T (hpN σ k os))
  | [], _, _ => trivial
  | o :: os, k, hh => by
    refine ⟨hh 0 o rfl, hpLe_mk os (k + 1) fun i o' ho => ?_⟩
    have := hh (i + 1) o' (by simpa using ho)
    rw [show k + 1 + i = k + (i + 1) by omega]
    exact this
theorem args_ok {σ : Nat → Nat} {f : List (Option (TOb T.den))} {m nx : Nat} (hσ : ∀ j, j < m → σ j < nx) (l : List Sh0) (r : List Ty) (x : HL T.den (hsT l r)) (h : okTB m l = true) : ∀ z ∈ (tkT σ f l r x).1.map (er T), ok nx z := by
  intro z hz
  rw [tkT_er] at hz
  obtain ⟨u, _, rfl⟩ := List.mem_map.1 hz
  exact ok_of0 (okT_mem (tkT_ok hσ l r x h) _ hz) kjq
theorem sgs_lt {ids : List Nat} {n nx : Nat} (h : allLt nx ids = true) (hl : ids.length = n) : ∀ j, j < n → sgs ids j < nx := by
  intro j hj
  have hj : j < ids.length := by omega
  have e : sgs ids j = ids[j] := by simp [sgs, hj]
  rw [e]
  exact kp7 h _ (List.getElem_mem hj)
theorem mat_snd (hT : T.Ok) {n0 : Nat} {m : Tm} {s : TSt T.den} {J : HL T.den m.hs → Prop} (h : m.mat T n0 s J) : ∃ i, J i ∧ St.le n0 (erS T s) (erS T (m.fill T i)) := by
  unfold Tm.mat at h
  obtain ⟨h1, h2⟩ := cnd h
  simp only [Bool.and_eq_true, Tm.okB] at h1
  obtain ⟨⟨a1, a2⟩, ⟨⟨⟨⟨⟨⟨b1, b2⟩, b3⟩, b4⟩, b5⟩, b6⟩, b7⟩⟩ := h1
  split at h2
  · rename_i b hb
    obtain ⟨y, g1, g2, g3⟩ := k16s hT b7 hb h2
    obtain ⟨x, k1, k2, _, k4⟩ := mtT_snd m.ss _ _ y _ b6 g1
    have hf : m.f T x = tkB m.os b := by unfold Tm.f; rw [k2, g2]
    have hlt := sgs_lt b3 (nb_eq b4)
    refine ⟨x, k1, ⟨ble_le a1, ble_le a2⟩, ?_, ?_⟩
    · show slLe _ m.nx ((zipS T m.ts (tkT (sgs m.ids) (m.f T x) m.ss _ x).1).map _)
      rw [hf]
      exact slLe_mk _ _ k4 (args_ok hlt m.ss _ x b1)
    · show hpLe (erH T s.h) m.nx (erH T (hpN (sgs m.ids) 0 (tkC (sgs m.ids) (m.f T x) 0 m.os _ (drT m.ss _ x)).1))
      rw [hf, k2]
      refine hpLe_mk _ 0 fun i o ho => ?_
      rw [Nat.zero_add]
      refine ⟨hlt i ?_, g3 i o ho, tkC_ok (kqp _ _) hlt 0 m.os _ y b2 i o ho⟩
      have := (List.getElem?_eq_some_iff.1 ho).1
      rw [tkC_len] at this
      exact this
  · exact h2.elim
section
variable {Tk : Tk} {G0 : Gh} {w0 : World} {a : Act} {G : Gh} {w : World}
theorem k18x {id n z : Nat} {v : TV T.den} {h : THp T.den} {nx : Nat} (hv : ∀ u, RepV G w (erH T h) nx u (.row id 0 n z) → RepV G w (erH T h) nx u (er T v)) : ∀ (ts : List Nat) (sl : List (Nat × TV T.den)) (K : List (Nat × TV T.den) → Prop), rowsTo T id v n z ts sl K → R Tk G0 w0 N (erS T ⟨sl, h, nx⟩) a G w → ∃ sl', K sl' ∧ R Tk G0 w0 N (erS T ⟨sl', h, nx⟩) a G w
  | [], sl, K, hk, hR => ⟨sl, hk, hR⟩
  | t :: ts, sl, K, hk, hR => by
    simp only [rowsTo] at hk
    split at hk
    · rename_i i e' m hg
      obtain ⟨h1, h2, h3⟩ := cnd hk
      simp only [Bool.and_eq_true] at h1
      refine k18x hv ts _ K h3 ?_
      have hs := hR.sl t
      rw [show getS (erS T ⟨sl, h, nx⟩).sl t = er T (getT sl t) from getS_er sl t, hg] at hs
      have hs : RepV G w (erH T h) nx (a.tmps.getD t undef) (.row i 0 m (T.sz e')) := hs
      rw [nb_eq h1.1, h2, nb_eq h1.2] at hs
      exact hR.reslot t (hv _ hs)
    · exact hk.elim
theorem k1ek {e : Ty} {v : TV T.den} {l : List (e.den T.den)} (h : growE T e v = some l) : growsFrom (T.sz e) (l.map (T.e e)) (er1 T v) ∧ v.sim = true := by
  unfold growE at h
  split at h
  · obtain ⟨c1, c2, _⟩ := k4j h
    exact ⟨⟨c1, c2⟩, rfl⟩
  · rename_i u
    cases hn : isNilK u with
    | false => rw [hn] at h; cases h
    | true =>
      rw [hn] at h
      injection h with h
      subst h
      rw [kjx hn]
      exact ⟨rfl, rfl⟩
  · cases h
theorem gh1_snd (hT : T.Ok) {s : TSt T.den} {K : TSt T.den → Prop} : ∀ (g : Gs), gh1 T s K g → R Tk G0 w0 N (erS T s) a G w → ∃ s' G', K s' ∧ R Tk G0 w0 N (erS T s') a G' w
  | .frz id ts, h, hR => by
    simp only [gh1] at h
    split at h
    · rename_i e l hg
      have hgl : (erS T s).h.get id = some (.cells (((l.map (T.e e)).flatMap D.cells).map V.d)) := by show (erH T s.h).get id = _; rw [getH_er, hg]; rfl
      obtain ⟨G', h1, _, h2⟩ := hR.freeze hgl (map_sz hT l) (by rw [List.length_map] : (l.map (T.e e)).length = l.length)
      obtain ⟨sl', k1, k2⟩ := k18x (T := T) (h := (s.nx, .tip e l) :: (id, .dead) :: s.h) (nx := s.nx + 1) (v := .own s.nx e l) (z := T.sz e) (n := l.length) (id := id) (G := G') (w := w) (fun u hu => h2 u hu) ts s.sl _ h h1
      exact ⟨_, G', k1, k2⟩
    · exact h.elim
  | .frzc id i j, h, hR => by
    simp only [gh1] at h
    split at h
    · rename_i e l cs hg hi
      split at h
      · rename_i id' e' m hj
        obtain ⟨h1, h2, h3⟩ := cnd h
        simp only [Bool.and_eq_true, Bool.not_eq_true'] at h1
        have q1 := nb_eq h1.1.1
        have q2 := Ty.eq_of_beq h1.1.2
        have q3 : i ≠ id := fun e => by rw [e, nb_self] at h1; cases h1.2
        subst q1
        subst q2
        subst h2
        have hgl : (erS T s).h.get id' = some (.cells (((l.map (T.e e')).flatMap D.cells).map V.d)) := by show (erH T s.h).get id' = _; rw [getH_er, hg]; rfl
        have hil : (erS T s).h.get i = some (.cells (cs.map (er1 T))) := by show (erH T s.h).get i = _; rw [getH_er, hi]; rfl
        obtain ⟨G', f1, _, f2⟩ := hR.freeze hgl (map_sz hT l) (by rw [List.length_map] : (l.map (T.e e')).length = l.length)
        have hin : i < s.nx := hR.wr.hid _ _ hil
        have hg' : Hp.get ((s.nx, Ob.tip l.length) :: (id', .dead) :: erH T s.h) i = some (.cells (cs.map (er1 T))) := by simp only [Hp.get]; rw [if_neg (by omega), if_neg q3]; exact hil
        have hx : (cs.map (er1 T))[j]? = some (.row id' 0 l.length (T.sz e')) := by rw [List.getElem?_map, hj]; rfl
        have := f1.recell (s := ⟨(erS T s).sl, (s.nx, .tip l.length) :: (id', .dead) :: erH T s.h, s.nx + 1⟩) (y := .own s.nx (T.sz e') (l.map (T.e e'))) hg' hx rfl (fun v => f2 v)
        refine ⟨_, G', h3, ?_⟩
        have e : erS T ⟨s.sl, (i, .cells (cs.set j (.own s.nx e' l))) :: (s.nx, .tip e' l) :: (id', .dead) :: s.h, s.nx + 1⟩ = ⟨(erS T s).sl, (i, .cells ((cs.map (er1 T)).set j (.own s.nx (T.sz e') (l.map (T.e e'))))) :: (s.nx, .tip l.length) :: (id', .dead) :: erH T s.h, s.nx + 1⟩ := by
          show St.mk _ ((i, Ob.cells ((cs.set j (.own s.nx e' l)).map (er1 T))) :: _) _ = _
          rw [List.map_set]; rfl
        rw [e]; exact this
      · exact h.elim
    · exact h.elim
  | .tok t e, h, hR => by
    simp only [gh1] at h
    split at h
    · rename_i l hl
      obtain ⟨g1, g2⟩ := k1ek hl
      obtain ⟨G', h1, h2⟩ := hR.tok (T.sz e) (l.map (T.e e))
      rw [List.length_map] at h1 h2
      have hs := h1.sl t
      have hs : RepV G' w ((s.nx, .tip l.length) :: erH T s.h) (s.nx + 1) (a.tmps.getD t undef) (getS (erS T s).sl t) := hs
      rw [show getS (erS T s).sl t = er T (getT s.sl t) from getS_er s.sl t, er_sim g2] at hs
      exact ⟨_, G', h, h1.reslot t (h2 _ _ g1 hs)⟩
    · exact h.elim
  | .tokc id j e, h, hR => by
    simp only [gh1] at h
    split at h
    · rename_i cs hi
      split at h
      · rename_i v hj
        split at h
        · rename_i l hl
          obtain ⟨g1, g2⟩ := k1ek hl
          have hil : (erS T s).h.get id = some (.cells (cs.map (er1 T))) := by show (erH T s.h).get id = _; rw [getH_er, hi]; rfl
          obtain ⟨G', h1, h2⟩ := hR.tok (T.sz e) (l.map (T.e e))
          rw [List.length_map] at h1 h2
          have hin : id < s.nx := hR.wr.hid _ _ hil
          have hg' : Hp.get ((s.nx, Ob.tip l.length) :: erH T s.h) id = some (.cells (cs.map (er1 T))) := by simp only [Hp.get]; rw [if_neg (by omega)]; exact hil
          have hx : (cs.map (er1 T))[j]? = some (er1 T v) := by rw [List.getElem?_map, hj]; rfl
          have := h1.recell (s := ⟨(erS T s).sl, (s.nx, .tip l.length) :: erH T s.h, s.nx + 1⟩) (y := .own s.nx (T.sz e) (l.map (T.e e))) hg' hx rfl (fun u => h2 _ u g1)
          refine ⟨_, G', h, ?_⟩
          have e : erS T ⟨s.sl, (id, .cells (cs.set j (.own s.nx e l))) :: (s.nx, .tip e l) :: s.h, s.nx + 1⟩ = ⟨(erS T s).sl, (id, .cells ((cs.map (er1 T)).set j (.own s.nx (T.sz e) (l.map (T.e e))))) :: (s.nx, .tip l.length) :: erH T s.h, s.nx + 1⟩ := by
            show St.mk _ ((id, Ob.cells ((cs.set j (.own s.nx e l)).map (er1 T))) :: _) _ = _
            rw [List.map_set]; rfl
          rw [e]; exact this
        · exact h.elim
      · exact h.elim
    · exact h.elim
end
theorem ghs_snd (hT : T.Ok) {Tk : Tk} {G0 : Gh} {w0 : World} {a : Act} {w : World} : ∀ (gs : List Gs) (s : TSt T.den) (K : TSt T.den → Prop) (G : Gh), ghs T gs s K → R Tk G0 w0 N (erS T s) a G w → ∃ s' G', K s' ∧ R Tk G0 w0 N (erS T s') a G' w
  | [], s, K, G, h, hR => ⟨s, G, h, hR⟩
  | g :: gs, s, K, G, h, hR => by
    obtain ⟨s1, G1, h1, h2⟩ := gh1_snd hT g h hR
    exact ghs_snd hT gs s1 K G1 h1 h2
theorem sat_ghs (hT : T.Ok) {Tk : Tk} {G0 : Gh} {w0 : World} {gs : List Gs} {s : TSt T.den} {K : TSt T.den → Prop} {c : Code} {Q : Exit → St → Prop} (h : ghs T gs s K) (hk : ∀ s', K s' → Sat P Tk G0 w0 N c (erS T s') Q) : Sat P Tk G0 w0 N c (erS T s) Q := by
  intro G a w hR
  obtain ⟨s', G', h1, h2⟩ := ghs_snd hT gs s K G h hR
  exact hk s' h1 G' a w h2
def QE (Q : Exit → TSt T.den → Prop) (e : Exit) (s : St) : Prop := KE (Q e) s
theorem KE.lk {K : TSt T.den → Prop} {s : TSt T.den} (h : K s) : KE K (erS T s) := ⟨s, h, Wk.refl _⟩
theorem k1pn (hT : T.Ok) (hC : C.Ok P T) (hm : P.follows .mixedOrders = true) {Tk : Tk} {G0 : Gh} {w0 : World} : ∀ (c : Code) (an : An T) (s : TSt T.den) (Q : Exit → TSt T.den → Prop), WP T C N Tk.nx c an s Q → Obl T C N Tk.nx c an Q → Sat P Tk G0 w0 N c (erS T s) (QE Q) := by
  intro c
  induction c with
  | skip => intro an s Q h _; exact k1pb (KE.lk (by simpa [WP] using h))
  | region id ops dr =>
    intro an s Q h _
    obtain ⟨l⟩ := ops
    have h : regW T C N ⟨l⟩ dr s (Q .normal) := by simpa [WP] using h
    cases dr with
    | false =>
      intro G a w hR
      exact wp_region_lit (k18e hT hC l (Q .normal) s a G w hR h fun s' a' G' w' hk hR' => ⟨erS T s', G', KE.lk hk, hR'⟩)
    | true =>
      unfold regW at h
      obtain ⟨h1, h2⟩ := cnd h
      refine k1ow C.S hm h1 fun K hK => ?_
      exact k16x (K := KE (Q .normal)) (fun a b he ⟨t, q1, q2⟩ => hK a ⟨t, q1, he.wk.trans q2⟩) l _ _ _ _ _ (Eqv.refl _) (k118 hT hC l _ _ _ _ h2)
  | seq x y ihx ihy =>
    intro an s Q h ho
    have plain : ∀ (ga gb : List Gs) (a b : An T), (ghs T ga s fun s => WP T C N Tk.nx x a s (thenT T (fun s' => ghs T gb s' fun s' => WP T C N Tk.nx y b s' Q) Q)) → Obl T C N Tk.nx x a (thenT T (fun s' => ghs T gb s' fun s' => WP T C N Tk.nx y b s' Q) Q) → Obl T C N Tk.nx y b Q → Sat P Tk G0 w0 N (.seq x y) (erS T s) (QE Q) := by
      intro ga gb a b h1 h2 h3
      refine sat_ghs hT h1 fun s' hs' => sat_seq (kw4 (ihx a s' _ hs' h2) fun e s1 hq => ?_)
      obtain ⟨t, q1, q2⟩ := hq
      cases e with
      | normal => exact sat_lk q2.lk (sat_ghs hT q1 fun s2 hs2 => ihy b s2 Q hs2 h3)
      | _ => exact ⟨t, q1, q2⟩
    cases an with
    | jn tm J ga a gb b =>
      have h : ghs T ga s fun s => WP T C N Tk.nx x a s (thenT T (fun s' => tm.mat T Tk.nx s' J) Q) := by simpa only [WP] using h
      simp only [Obl] at ho
      obtain ⟨o1, o2, o3⟩ := ho
      refine sat_ghs hT h fun s' hs' => sat_seq (kw4 (ihx a s' _ hs' o1) fun e s1 hq => ?_)
      obtain ⟨t, q1, q2⟩ := hq
      cases e with
      | normal =>
        obtain ⟨i, k1, k2⟩ := mat_snd hT q1
        refine sat_lk (q2.lk.trans k2.lk) ?_
        rw [o2 i] at k1
        exact sat_ghs hT k1 fun s2 hs2 => ihy b s2 Q hs2 o3
      | _ => exact ⟨t, q1, q2⟩
    | no => simp only [WP] at h; simp only [Obl] at ho; exact plain _ _ _ _ h ho.1 ho.2
    | nd ga a gb b => simp only [WP] at h; simp only [Obl] at ho; exact plain _ _ _ _ h ho.1 ho.2
    | lp g tm L a => simp only [WP] at h; simp only [Obl] at ho; exact plain _ _ _ _ h ho.1 ho.2
    | rt g => simp only [WP] at h; simp only [Obl] at ho; exact plain _ _ _ _ h ho.1 ho.2
  | cond c x y ihx ihy =>
    intro an s Q h ho
    simp only [WP] at h
    simp only [Obl] at ho
    split at h
    · rename_i hv
      exact k1oo (by rw [ev_er, hv]; rfl) (sat_ghs hT h fun s' hs' => ihx _ s' Q hs' ho.1)
    · rename_i hv
      exact k1on (by rw [ev_er, hv]; rfl) (sat_ghs hT h fun s' hs' => ihy _ s' Q hs' ho.2)
    · rename_i t hv
      exact k16f (t := t) (by rw [ev_er, hv]; rfl) (fun ht => sat_ghs hT (h.1 ht) fun s' hs' => ihx _ s' Q hs' ho.1) (fun ht => sat_ghs hT (h.2 ht) fun s' hs' => ihy _ s' Q hs' ho.2)
    · exact h.elim
  | block id x ih =>
    intro an s Q h ho
    simp only [WP] at h
    simp only [Obl] at ho
    refine k1og (kw4 (ih an s _ h ho) fun e s1 hq => ?_)
    obtain ⟨t, q1, q2⟩ := hq
    cases e with
    | exit id' =>
      simp only [blockT] at q1
      simp only [blockA]
      by_cases hi : id' = id
      · rw [if_pos hi]
        rw [hi, nb_self] at q1
        exact ⟨t, q1, q2⟩
      · rw [if_neg hi]
        rw [nb_ne hi] at q1
        exact ⟨t, q1, q2⟩
    | _ => exact ⟨t, q1, q2⟩
  | loop x ih =>
    intro an s Q h ho
    cases an with
    | lp g tm L a =>
      simp only [WP] at h
      simp only [Obl] at ho
      obtain ⟨o1, o2⟩ := ho
      refine sat_ghs hT h fun s' hs' => ?_
      obtain ⟨i, ⟨⟨inv, μ, k0, k1⟩⟩, k2⟩ := mat_snd hT hs'
      refine k1o9 (fun i => erS T (tm.fill T i)) inv μ i k0 k2.lk fun i hi => ?_
      have hr := k1 i hi
      rw [o1] at hr
      refine kw4 (ih _ _ _ hr (o2 _)) fun e s1 hq => ?_
      obtain ⟨t, q1, q2⟩ := hq
      cases e with
      | normal =>
        obtain ⟨i', ⟨m1, m2⟩, m3⟩ := mat_snd hT q1
        exact ⟨i', m1, m2, q2.lk.trans m3.lk⟩
      | _ => exact ⟨t, q1, q2⟩
    | _ => simp only [WP] at h
  | exit id => intro an s Q h _; simp only [WP] at h; exact k1oy (KE.lk h)
  | ret =>
    intro an s Q h _
    simp only [WP] at h
    exact sat_ghs hT h fun s' hs' => sat_ret (KE.lk hs')
  | label l => intro an s Q h _; simp only [WP] at h; exact k1oc (KE.lk h)
  | _ => intro an s Q h _; simp only [WP] at h
theorem eqH_eq : ∀ {ts : List Ty} {x y : HL T.den ts}, eqH ts x y → x = y
  | [], _, _, _ => rfl
  | [_], x, y, h => by
    obtain ⟨a, b⟩ := x
    obtain ⟨c, d⟩ := y
    have h : a = c := h
    subst h; rfl
  | _ :: t :: r, x, y, h => by
    obtain ⟨a, b⟩ := x
    obtain ⟨c, d⟩ := y
    obtain ⟨h1, h2⟩ := h
    have g1 : a = c := h1
    have g2 : b = d := eqH_eq (ts := t :: r) h2
    rw [g1, g2]
theorem k16t (hT : T.Ok) (hI : InfoOk P T C.ti) {s : TSt T.den} : ∀ (rs : List ResultVar) (K : List (TV T.den) → Prop), resT T C.ti s rs K → ∃ l, K l ∧ allOk P (erS T s) rs ∧ rs.map (resV P (erS T s)) = l.map (er T)
  | [], K, h => ⟨[], h, trivial, rfl⟩
  | .tmp t :: r, K, h => by
    obtain ⟨l, h1, h2, h3⟩ := k16t hT hI r _ h
    refine ⟨_, h1, ⟨trivial, h2⟩, ?_⟩
    simp only [List.map_cons, h3]
    congr 1
    exact getS_er s.sl t
  | .cell t ty :: r, K, h => by
    obtain ⟨u, h0, h4, h5⟩ := k1e4 hT (hI.of ty) h
    obtain ⟨l, h1, h2, h3⟩ := k16t hT hI r _ h0
    have e : getS (erS T s).sl t = er T (getT s.sl t) := getS_er s.sl t
    refine ⟨_, h1, ⟨by show loadOk _ _ (getS (erS T s).sl t); rw [e]; exact h4, h2⟩, ?_⟩
    simp only [List.map_cons, h3]
    congr 1
    show loadV _ _ (getS (erS T s).sl t) = _
    rw [e]; exact h5
theorem k1ka : ∀ {l : List (TV T.den)}, noTupB T l = true → l.map (er T) = l.map (er0 T)
  | [], _ => rfl
  | v :: r, h => by
    cases v <;> first | (cases h; done) | (simp only [List.map_cons]; rw [k1ka (l := r) h]; rfl)
theorem ret_er {l : List (TV T.den)} (h : noTupB T l = true) : retV (l.map (er T)) = er T (retTV T l) := by
  match l, h with
  | [], _ => rfl
  | [x], _ => rfl
  | x :: y :: r, h =>
    exact congrArg V.tup (k1ka h)
theorem k1eh {h : Hp} {σ : Nat → Nat} {m nx : Nat} : ∀ {ks : List Nat} {os : List Ob}, ks.length = os.length → (∀ (i k : Nat) (o : Ob), ks[i]? = some k → os[i]? = some o → k < nx ∧ obLe (h.get k) (renO σ o) ∧ okO m o) → postOk h σ m nx ks os
  | [], [], _, _ => trivial
  | [], _ :: _, h, _ => by cases h
  | _ :: _, [], h, _ => by cases h
  | k :: ks, o :: os, h, hh => ⟨hh 0 k o rfl rfl, k1eh (by simpa using h) fun i k' o' h1 h2 => hh (i + 1) k' o' (by simpa using h1) (by simpa using h2)⟩
theorem k17x : ∀ {n k : Nat} {l : List Nat}, selfB n k l = true → selfP k n l
  | 0, _, l, _ => by cases l <;> trivial
  | n + 1, k, [], h => by cases h
  | n + 1, k, i :: r, h => by
    simp only [selfB, Bool.and_eq_true] at h
    exact ⟨nb_eq h.1, k17x h.2⟩
theorem k1lz (hT : T.Ok) (hC : C.Ok P T) {c : Con T.den} {rs : List ResultVar} {o : HL T.den (hsV c.res (hsOs c.post))} {s : TSt T.den} (h : retT T C c rs o s) : RetA P rs (er T (c.val idf o)) c.pre.length ((c.ops idf o).map (erO T)) (erS T s) := by
  unfold retT at h
  obtain ⟨l, h1, h2, h3⟩ := k16t hT hC.ti rs _ h
  split at h1
  · exact h1.elim
  · rename_i ids hids
    split at h1
    · exact h1.elim
    · rename_i b hb
      obtain ⟨a1, a2⟩ := cnd h1
      simp only [Bool.and_eq_true, Con.okB] at a1
      obtain ⟨⟨⟨⟨⟨hok, hnd⟩, hlt⟩, hlen⟩, hself⟩, hnt⟩ := a1
      obtain ⟨⟨⟨⟨⟨⟨⟨⟨⟨o1, o2⟩, o3⟩, o4⟩, o5⟩, o6⟩, o7⟩, o8⟩, o9⟩, o10⟩ := hok
      have hlen := nb_eq hlen
      obtain ⟨y, g1, g2, g3⟩ := k16s hT o10 hb a2
      obtain ⟨x, k1, k2, k3⟩ := mtV_snd c.res _ _ y _ o9 g1
      have hx := eqH_eq k1
      subst hx
      have hfo : c.fo x = tkB c.post b := by unfold Con.fo; rw [k2, g2]
      have hops : c.ops idf x = (tkC idf (tkB c.post b) 0 c.post _ y).1 := by unfold Con.ops; rw [hfo, k2]
      have hql : ((c.ops idf x).map (erO T)).length = c.post.length := by rw [List.length_map, hops, tkC_len]
      have hval : c.val idf x = (tkV idf (tkB c.post b) c.res _ x).1 := by unfold Con.val; rw [hfo]
      refine retN ids ⟨h2, ?_, ?_, ?_, ?_, kt0 hnd, by rw [hql]; exact ble_le o5, k17x hself⟩
      · rw [h3, ret_er hnt, hval, ← tkV_ren]; exact k3
      · rw [hql, hval]; exact tkV_ok (fun j hj => hj) c.res _ x o3
      · rw [hval]; exact k1dx _ _ _
      · refine k1eh (by rw [hql]; exact hlen) fun i k ob hk ho => ?_
        have hkm : k < s.nx := kp7 hlt k (List.mem_of_getElem? hk)
        rw [hql]
        rw [List.getElem?_map, Option.map_eq_some_iff] at ho
        obtain ⟨ot, ho, rfl⟩ := ho
        rw [hops] at ho
        refine ⟨hkm, ?_, tkC_ok (kqp _ _) (fun j hj => hj) 0 c.post _ y o4 i ot ho⟩
        have hr := tkC_ren (rh ids) (tkB c.post b) (kqp _ _) 0 c.post _ y
        have hi : i < (tkC idf (tkB c.post b) 0 c.post (hsB c.post) y).1.length := (List.getElem?_eq_some_iff.1 ho).1
        have hi2 : i < (tkC (rh ids) (tkB c.post b) 0 c.post (hsB c.post) y).1.length := by rw [tkC_len] at hi ⊢; exact hi
        have e := congrArg (fun l => l[i]?) hr
        simp only [List.getElem?_map, ho, Option.map_some, List.getElem?_eq_getElem hi2, Option.some.injEq] at e
        have := g3 i _ (List.getElem?_eq_getElem hi2)
        have hrk : rh ids i = k := by simp [rh, hk]
        rw [e, hrk] at this
        exact this
theorem k1ls : ∀ (k : Nat) (l : List (TV T.den)), (initT T k l).map (fun p => (p.1, er T p.2)) = initSl k (l.map (er T))
  | _, [] => rfl
  | k, x :: r => by
    show (k, er T x) :: (initT T (k + 1) r).map (fun p => (p.1, er T p.2)) = (k, er T x) :: initSl (k + 1) (r.map (er T))
    rw [k1ls (k + 1) r]
theorem hpN_idf : ∀ (k : Nat) (l : List (TOb T.den)), erH T (hpN idf k l) = hpOf k (l.map (erO T))
  | _, [] => rfl
  | k, x :: r => by
    show (k, erO T x) :: erH T (hpN idf (k + 1) r) = (k, erO T x) :: hpOf (k + 1) (r.map (erO T))
    rw [hpN_idf (k + 1) r]
theorem Con.sound (hT : T.Ok) (hC : C.Ok P T) (hm : P.follows .mixedOrders = true) {c : Con T.den} {fn : Func} {code : Code} {rs : List ResultVar} (hf : P.funcs[c.f]? = some fn) (hb : fn.body = some code) (hN : fn.ntmps = N) (hrs : fn.results.toList = rs) (hl : Nat.ble c.ins.length N = true)
    {x : HL T.den (hsT c.ins (hsOs c.pre))} {o : HL T.den (hsV c.res (hsOs c.post))} {an : An T} (hW : WP T C N c.pre.length code an (c.st T x) (retTQ T C c rs o)) (hO : Obl T C N c.pre.length code an (retTQ T C c rs o)) :
    SoundH P c.f ((c.args idf x).map (er T)) ((c.obs idf x).map (erO T)) (er T (c.val idf o)) ((c.ops idf o).map (erO T)) := by
  have hpl : ((c.obs idf x).map (erO T)).length = c.pre.length := by rw [List.length_map]; unfold Con.obs; rw [tkC_len]
  have hal : ((c.args idf x).map (er T)).length = c.ins.length := by rw [List.length_map]; unfold Con.args; rw [tkT_len]
  refine k1q7 hf hb hN (by rw [hal]; exact ble_le hl) fun G0 w0 => ?_
  have e : erS T (c.st T x) = ⟨initSl 0 ((c.args idf x).map (er T)), hpOf 0 ((c.obs idf x).map (erO T)), ((c.obs idf x).map (erO T)).length⟩ := by
    rw [hpl]
    show St.mk _ _ _ = _
    unfold Con.st
    rw [k1ls, hpN_idf]
  rw [← e, hrs]
  have hnx : (tkOf G0 ((c.obs idf x).map (erO T))).nx = c.pre.length := hpl
  rw [← hnx] at hW hO
  refine k1p0 (k1pn hT hC hm code an _ _ hW hO) fun ex s1 hq => ?_
  obtain ⟨t, q1, q2⟩ := hq
  refine ⟨erS T t, ?_, q2.lk⟩
  cases ex with
  | normal => have := k1lz hT hC (s := t) q1; rw [← hpl] at this; exact this
  | ret => have := k1lz hT hC (s := t) q1; rw [← hpl] at this; exact this
  | _ => exact q1
end
end Go.Cv
namespace Go.Cv
open Go Go.Bv Go.RowKit Go.Md
structure WPh (T : Tab) (C : Cx T) (N n0 : Nat) (c : Code) (an : An T) (s : TSt T.den) (Q : Exit → TSt T.den → Prop) : Prop where
  h : WP T C N n0 c an s Q
structure OblH (T : Tab) (C : Cx T) (N n0 : Nat) (c : Code) (an : An T) (Q : Exit → TSt T.den → Prop) : Prop where
  h : Obl T C N n0 c an Q
theorem mpr_of {A B : Prop} (e : A = B) (h : B) : A := e.mpr h
theorem WPh.of_eq {T : Tab} {C : Cx T} {N n0 : Nat} {c : Code} {an : An T} {s : TSt T.den} {Q : Exit → TSt T.den → Prop} {X : Prop} (e : WP T C N n0 c an s Q = X) (h : X) : WPh T C N n0 c an s Q := ⟨e.mpr h⟩
theorem OblH.of_eq {T : Tab} {C : Cx T} {N n0 : Nat} {c : Code} {an : An T} {Q : Exit → TSt T.den → Prop} {X : Prop} (e : Obl T C N n0 c an Q = X) (h : X) : OblH T C N n0 c an Q := ⟨e.mpr h⟩
theorem Con.soundH {P : Program} {T : Tab} {C : Cx T} {N : Nat} (hT : T.Ok) (hC : C.Ok P T) (hm : P.follows .mixedOrders = true) {c : Con T.den} {fn : Func} {code : Code} {rs : List ResultVar} (hf : P.funcs[c.f]? = some fn) (hb : fn.body = some code) (hN : fn.ntmps = N) (hrs : fn.results.toList = rs) (hl : Nat.ble c.ins.length N = true)
    {x : HL T.den (hsT c.ins (hsOs c.pre))} {o : HL T.den (hsV c.res (hsOs c.post))} {an : An T} (hW : WPh T C N c.pre.length code an (c.st T x) (retTQ T C c rs o)) (hO : OblH T C N c.pre.length code an (retTQ T C c rs o)) :
    SoundH P c.f ((c.args idf x).map (er T)) ((c.obs idf x).map (erO T)) (er T (c.val idf o)) ((c.ops idf o).map (erO T)) := Con.sound hT hC hm hf hb hN hrs hl hW.h hO.h
def cA : Code → Code
  | .seq x _ => x
  | .cond _ x _ => x
  | .block _ x => x
  | .loop x => x
  | _ => .skip
def cB : Code → Code
  | .seq _ y => y
  | .cond _ _ y => y
  | _ => .skip
section
variable {S : Nat → Type}
def Con.mk0 (f : Nat) (ins : List Sh0) (pre : List OSh) (res : Sh) (post : List OSh) : Con S := ⟨f, ins, pre, res, post, fun _ _ => False⟩
def Con.fnR (c : Con S) (ok : HL S (hsT c.ins (hsOs c.pre)) → Prop) (v : HL S (hsT c.ins (hsOs c.pre)) → HL S (hsV c.res (hsOs c.post))) : Con S := ⟨c.f, c.ins, c.pre, c.res, c.post, fun x K => ok x ∧ K (v x)⟩
def Con.totR (c : Con S) (v : HL S (hsT c.ins (hsOs c.pre)) → HL S (hsV c.res (hsOs c.post))) : Con S := ⟨c.f, c.ins, c.pre, c.res, c.post, fun x K => K (v x)⟩
end
def flAll (F : Nat → Option (Nat × Bool × Nat)) : Nat → List (Nat × Bool × Nat) → Prop
  | _, [] => True
  | k, q :: r => F k = some q ∧ flAll F (k + 1) r
theorem k1ec {F : Nat → Option (Nat × Bool × Nat)} : ∀ {l : List (Nat × Bool × Nat)} {k : Nat}, flAll F k l → ∀ i q, l[i]? = some q → F (k + i) = some q
  | [], _, _, i, q, h => by simp at h
  | p :: r, k, ha, i, q, h => by
    cases i with
    | zero => simp at h; subst h; exact ha.1
    | succ i => rw [show k + (i + 1) = k + 1 + i by omega]; exact k1ec ha.2 i q (by simpa using h)
theorem k4i {P : Program} {t : TypeId} {l : List (Nat × Bool × Nat)} (h : flAll (fldOf P t) 0 l) (f : Nat) (q : Nat × Bool × Nat) (hq : l[f]? = some q) : fldOf P t f = some q := by
  have := k1ec h f q hq
  simpa using this
section
variable {T : Tab} {P : Program}
theorem Con.ok_fn (c : Con T.den) {ok : HL T.den (hsT c.ins (hsOs c.pre)) → Prop} {v : HL T.den (hsT c.ins (hsOs c.pre)) → HL T.den (hsV c.res (hsOs c.post))} (cl : Callable P c.f)
    (h : ∀ x, ok x → SoundH P c.f ((c.args idf x).map (er T)) ((c.obs idf x).map (erO T)) (er T (c.val idf (v x))) ((c.ops idf (v x)).map (erO T))) : (c.fnR ok v).Ok P T :=
  ⟨cl, fun x _ hx => ⟨v x, hx.2, h x hx.1⟩⟩
theorem Con.ok_tot (c : Con T.den) {v : HL T.den (hsT c.ins (hsOs c.pre)) → HL T.den (hsV c.res (hsOs c.post))} (cl : Callable P c.f)
    (h : ∀ x, SoundH P c.f ((c.args idf x).map (er T)) ((c.obs idf x).map (erO T)) (er T (c.val idf (v x))) ((c.ops idf (v x)).map (erO T))) : (c.totR v).Ok P T :=
  ⟨cl, fun x _ hx => ⟨v x, hx, h x⟩⟩
theorem all_nil {α : Type} {p : α → Prop} : ∀ c ∈ ([] : List α), p c := fun _ h => by cases h
theorem all_cons {α : Type} {p : α → Prop} {a : α} {l : List α} (h : p a) (h' : ∀ c ∈ l, p c) : ∀ c ∈ a :: l, p c := fun c hc => by
  rcases List.mem_cons.1 hc with rfl | hc
  · exact h
  · exact h' c hc
theorem k4b {P : Program} {T : Tab} : InfoOk P T .lf := fun _ _ h => by cases h
theorem find_nd {P : Program} {T : Tab} {l r : BT (TI T.den)} {k : Nat} {v : TI T.den} (hv : TI.Ok P T k v) (hl : InfoOk P T l) (hr : InfoOk P T r) : InfoOk P T (.nd l k v r) := fun t x h => by
  unfold BT.find at h
  cases h1 : Nat.beq t k with
  | true => rw [h1] at h; have := nb_eq h1; subst this; injection h with h; subst h; exact hv
  | false =>
    rw [h1] at h
    cases h2 : Nat.ble t k with
    | true => rw [h2] at h; exact hl t x h
    | false => rw [h2] at h; exact hr t x h
end
end Go.Cv
namespace Go.Cv
theorem lpk0 {C : Prop} (h : C) (I M : Prop) : ((C ∧ I) ∧ M) = (I ∧ M) := propext ⟨fun x => ⟨x.1.2, x.2⟩, fun x => ⟨⟨h, x.1⟩, x.2⟩⟩
theorem lpk1 {C : Prop} {A0 : Type} (h : C) (I M : A0 → Prop) : (fun a0 => (C ∧ I a0) ∧ M a0) = fun a0 => I a0 ∧ M a0 := funext fun a0 => lpk0 h _ _
theorem lpk2 {C : Prop} {A0 A1 : Type} (h : C) (I M : A0 → A1 → Prop) : (fun a0 a1 => (C ∧ I a0 a1) ∧ M a0 a1) = fun a0 a1 => I a0 a1 ∧ M a0 a1 := funext fun a0 => funext fun a1 => lpk0 h _ _
theorem lpk3 {C : Prop} {A0 A1 A2 : Type} (h : C) (I M : A0 → A1 → A2 → Prop) : (fun a0 a1 a2 => (C ∧ I a0 a1 a2) ∧ M a0 a1 a2) = fun a0 a1 a2 => I a0 a1 a2 ∧ M a0 a1 a2 := funext fun a0 => funext fun a1 => funext fun a2 => lpk0 h _ _
theorem lpk4 {C : Prop} {A0 A1 A2 A3 : Type} (h : C) (I M : A0 → A1 → A2 → A3 → Prop) : (fun a0 a1 a2 a3 => (C ∧ I a0 a1 a2 a3) ∧ M a0 a1 a2 a3) = fun a0 a1 a2 a3 => I a0 a1 a2 a3 ∧ M a0 a1 a2 a3 := funext fun a0 => funext fun a1 => funext fun a2 => funext fun a3 => lpk0 h _ _
end Go.Cv
namespace Go.Proofs.Ytnmakgfmimagmaa
open Go Go.Bv Go.Cv Go.Md Go.RowKit
structure TOut where
  Commit : Int
  Point_a0 : Int
  Point_a1 : Int
  Cipher : List Int
  deriving Inhabited, DecidableEq
structure TTx where
  Anchor : Int
  Marks : List Int
  Outs : List TOut
  Deposit : Int
  Withdraw : Int
  Fee : Int
  Account : Int
  Nonce : Int
  Expiry : Int
  Proof : List Int
  deriving Inhabited, DecidableEq
structure TBlock where
  Parent : Int
  Height : Int
  Miner : Int
  Work : Int
  Nonce : Int
  Txs : List TTx
  deriving Inhabited, DecidableEq
structure TA2 where
  a0 : Int
  a1 : Int
  deriving Inhabited, DecidableEq
structure TField where
  P : Int
  deriving Inhabited, DecidableEq
structure TA3 where
  a0 : Int
  a1 : Int
  a2 : Int
  deriving Inhabited, DecidableEq
structure TRules where
  Mode : Int
  Depth : Int
  Proof_Block : Int
  Proof_Blowup : Int
  Proof_Queries : Int
  Reward : Int
  Window : Int
  Finality : Int
  Work : Int
  deriving Inhabited, DecidableEq
def denT : Nat → Type
  | 0 => TOut
  | 1 => TTx
  | 2 => TBlock
  | 3 => TA2
  | 4 => TField
  | 5 => TA3
  | 6 => TRules
  | _ => Unit
def tysT : Nat → List Ty
  | 0 => [.int .u64, .int .u64, .int .u64, .sl (.int .u64)]
  | 1 => [.int .u64, .sl (.int .u64), .sl (.st 0), .int .u64, .int .u64, .int .u64, .int .u64, .int .u64, .int .i64, .sl (.int .u8)]
  | 2 => [.int .u64, .int .i64, .int .u64, .int .u64, .int .u64, .sl (.st 1)]
  | 3 => [.int .u64, .int .u64]
  | 4 => [.int .u64]
  | 5 => [.int .u64, .int .u64, .int .u64]
  | 6 => [.int .i64, .int .i64, .int .i64, .int .i64, .int .i64, .int .u64, .int .i64, .int .i64, .int .u64]
  | _ => []
theorem TTx_eta (x : TTx) : TTx.mk x.Anchor x.Marks x.Outs x.Deposit x.Withdraw x.Fee x.Account x.Nonce x.Expiry x.Proof = x := rfl
theorem k18f (x : TBlock) : TBlock.mk x.Parent x.Height x.Miner x.Work x.Nonce x.Txs = x := rfl
def encTOut (x : TOut) : D := .agg [.int .u64 x.Commit, .int .u64 x.Point_a0, .int .u64 x.Point_a1, .slice 1 (x.Cipher.map (D.int .u64))]
def encTTx (x : TTx) : D := .agg [.int .u64 x.Anchor, .slice 1 (x.Marks.map (D.int .u64)), .slice 4 (x.Outs.map encTOut), .int .u64 x.Deposit, .int .u64 x.Withdraw, .int .u64 x.Fee, .int .u64 x.Account, .int .u64 x.Nonce, .int .i64 x.Expiry, .slice 1 (x.Proof.map (D.int .u8))]
def encTBlock (x : TBlock) : D := .agg [.int .u64 x.Parent, .int .i64 x.Height, .int .u64 x.Miner, .int .u64 x.Work, .int .u64 x.Nonce, .slice 10 (x.Txs.map encTTx)]
def encTA2 (x : TA2) : D := .agg [.int .u64 x.a0, .int .u64 x.a1]
def encTField (x : TField) : D := .agg [.int .u64 x.P]
def encTA3 (x : TA3) : D := .agg [.int .u64 x.a0, .int .u64 x.a1, .int .u64 x.a2]
def encTRules (x : TRules) : D := .agg [.int .i64 x.Mode, .int .i64 x.Depth, .int .i64 x.Proof_Block, .int .i64 x.Proof_Blowup, .int .i64 x.Proof_Queries, .int .u64 x.Reward, .int .i64 x.Window, .int .i64 x.Finality, .int .u64 x.Work]
def TB : Tab where
  den := denT
  tys := tysT
  inh := fun n => match n with
    | 0 => (default : TOut)
    | 1 => (default : TTx)
    | 2 => (default : TBlock)
    | 3 => (default : TA2)
    | 4 => (default : TField)
    | 5 => (default : TA3)
    | 6 => (default : TRules)
    | _ + 7 => ()
  cells := fun n => match n with
    | 0 => fun (x : TOut) => (x.Commit, x.Point_a0, x.Point_a1, x.Cipher, ())
    | 1 => fun (x : TTx) => (x.Anchor, x.Marks, x.Outs, x.Deposit, x.Withdraw, x.Fee, x.Account, x.Nonce, x.Expiry, x.Proof, ())
    | 2 => fun (x : TBlock) => (x.Parent, x.Height, x.Miner, x.Work, x.Nonce, x.Txs, ())
    | 3 => fun (x : TA2) => (x.a0, x.a1, ())
    | 4 => fun (x : TField) => (x.P, ())
    | 5 => fun (x : TA3) => (x.a0, x.a1, x.a2, ())
    | 6 => fun (x : TRules) => (x.Mode, x.Depth, x.Proof_Block, x.Proof_Blowup, x.Proof_Queries, x.Reward, x.Window, x.Finality, x.Work, ())
    | _ + 7 => fun _ => ()
  pack := fun n => match n with
    | 0 => fun (q0, q1, q2, q3, ()) => TOut.mk q0 q1 q2 q3
    | 1 => fun (q0, q1, q2, q3, q4, q5, q6, q7, q8, q9, ()) => TTx.mk q0 q1 q2 q3 q4 q5 q6 q7 q8 q9
    | 2 => fun (q0, q1, q2, q3, q4, q5, ()) => TBlock.mk q0 q1 q2 q3 q4 q5
    | 3 => fun (q0, q1, ()) => TA2.mk q0 q1
    | 4 => fun (q0, ()) => TField.mk q0
    | 5 => fun (q0, q1, q2, ()) => TA3.mk q0 q1 q2
    | 6 => fun (q0, q1, q2, q3, q4, q5, q6, q7, q8, ()) => TRules.mk q0 q1 q2 q3 q4 q5 q6 q7 q8
    | _ + 7 => fun _ => ()
  enc := fun n => match n with
    | 0 => encTOut
    | 1 => encTTx
    | 2 => encTBlock
    | 3 => encTA2
    | 4 => encTField
    | 5 => encTA3
    | 6 => encTRules
    | _ + 7 => fun _ => .agg []
theorem TBok : TB.Ok where
  one := fun n => match n with
    | 0 => rfl
    | 1 => rfl
    | 2 => rfl
    | 3 => rfl
    | 4 => rfl
    | 5 => rfl
    | 6 => rfl
    | _ + 7 => rfl
  pc := fun n x => match n with
    | 0 => rfl
    | 1 => rfl
    | 2 => rfl
    | 3 => rfl
    | 4 => rfl
    | 5 => rfl
    | 6 => rfl
    | _ + 7 => rfl
  en := fun n x => match n with
    | 0 => rfl
    | 1 => rfl
    | 2 => rfl
    | 3 => rfl
    | 4 => rfl
    | 5 => rfl
    | 6 => rfl
    | _ + 7 => rfl
def ti3 : TI TB.den := { ty := some (false, 1), ze := some [.d (.int .i64) (0 : Int)], un := some (.int .i64) }
theorem ti3_ok : TI.Ok Try.prog TB 3 ti3 :=
  ⟨(fun _ h => (show tyOf Try.prog 3 = some (false, 1) by kernel_rfl).trans h),
   (k4i trivial),
   (fun _ _ h => by cases h),
   (fun h => by cases h),
   (fun _ h => by cases h),
   (fun _ h => by cases h; exact ⟨by kernel_rfl, k1y (by kernel_rfl)⟩),
   (fun h => (h rfl).elim),
   (fun _ h => (show Try.prog.underlying 3 = some (.int .i64) by kernel_rfl).trans h),
   (fun _ h => by cases h)⟩
def ti4 : TI TB.den := { ty := some (false, 1), ze := some [.d (.bool) (false : Bool)], un := some (.bool) }
theorem ti4_ok : TI.Ok Try.prog TB 4 ti4 :=
  ⟨(fun _ h => (show tyOf Try.prog 4 = some (false, 1) by kernel_rfl).trans h),
   (k4i trivial),
   (fun _ _ h => by cases h),
   (fun h => by cases h),
   (fun _ h => by cases h),
   (fun _ h => by cases h; exact ⟨by kernel_rfl, k1y (by kernel_rfl)⟩),
   (fun h => (h rfl).elim),
   (fun _ h => (show Try.prog.underlying 4 = some (.bool) by kernel_rfl).trans h),
   (fun _ h => by cases h)⟩
def ti5 : TI TB.den := { ty := some (false, 1), ze := some [.d (.int .u8) (0 : Int)], un := some (.int .u8) }
theorem ti5_ok : TI.Ok Try.prog TB 5 ti5 :=
  ⟨(fun _ h => (show tyOf Try.prog 5 = some (false, 1) by kernel_rfl).trans h),
   (k4i trivial),
   (fun _ _ h => by cases h),
   (fun h => by cases h),
   (fun _ h => by cases h),
   (fun _ h => by cases h; exact ⟨by kernel_rfl, k1y (by kernel_rfl)⟩),
   (fun h => (h rfl).elim),
   (fun _ h => (show Try.prog.underlying 5 = some (.int .u8) by kernel_rfl).trans h),
   (fun _ h => by cases h)⟩
def ti9 : TI TB.den := { ty := some (false, 1), ze := some [.d (.str) (ByteArray.empty : ByteArray)], un := some (.string) }
theorem ti9_ok : TI.Ok Try.prog TB 9 ti9 :=
  ⟨(fun _ h => (show tyOf Try.prog 9 = some (false, 1) by kernel_rfl).trans h),
   (k4i trivial),
   (fun _ _ h => by cases h),
   (fun h => by cases h),
   (fun _ h => by cases h),
   (fun _ h => by cases h; exact ⟨by kernel_rfl, k1y (by kernel_rfl)⟩),
   (fun h => (h rfl).elim),
   (fun _ h => (show Try.prog.underlying 9 = some (.string) by kernel_rfl).trans h),
   (fun _ h => by cases h)⟩
def ti22 : TI TB.den := { ty := some (false, 1), ze := some [.d (.int .u64) (0 : Int)], un := some (.int .u64) }
theorem ti22_ok : TI.Ok Try.prog TB 22 ti22 :=
  ⟨(fun _ h => (show tyOf Try.prog 22 = some (false, 1) by kernel_rfl).trans h),
   (k4i trivial),
   (fun _ _ h => by cases h),
   (fun h => by cases h),
   (fun _ h => by cases h),
   (fun _ h => by cases h; exact ⟨by kernel_rfl, k1y (by kernel_rfl)⟩),
   (fun h => (h rfl).elim),
   (fun _ h => (show Try.prog.underlying 22 = some (.int .u64) by kernel_rfl).trans h),
   (fun _ h => by cases h)⟩
def ti23 : TI TB.den := { ty := some (false, 1), el := some (.st 1, 128), ez := true, ze := some [.full (.st 1) []], un := some (.slice 34) }
theorem ti23_ok : TI.Ok Try.prog TB 23 ti23 :=
  ⟨(fun _ h => (show tyOf Try.prog 23 = some (false, 1) by kernel_rfl).trans h),
   (k4i trivial),
   (fun _ _ h => by cases h; exact ⟨by kernel_rfl, by kernel_rfl⟩),
   (fun _ _ _ h => by cases h; exact ⟨[.d (.int .u64 0), .full 1 [], .full 4 [], .d (.int .u64 0), .d (.int .u64 0), .d (.int .u64 0), .d (.int .u64 0), .d (.int .u64 0), .d (.int .i64 0), .full 1 []], by kernel_rfl, ⟨⟨k3v _, rfl⟩, ⟨⟨rfl, rfl⟩, rfl⟩, ⟨⟨rfl, rfl⟩, rfl⟩, ⟨k3v _, rfl⟩, ⟨k3v _, rfl⟩, ⟨k3v _, rfl⟩, ⟨k3v _, rfl⟩, ⟨k3v _, rfl⟩, ⟨k3v _, rfl⟩, ⟨⟨rfl, rfl⟩, rfl⟩, trivial⟩⟩),
   (fun _ h => by cases h),
   (fun _ h => by cases h; exact ⟨by kernel_rfl, k1y (by kernel_rfl)⟩),
   (fun h => (h rfl).elim),
   (fun _ h => (show Try.prog.underlying 23 = some (.slice 34) by kernel_rfl).trans h),
   (fun _ h => by cases h)⟩
def ti25 : TI TB.den := { ty := some (true, 6), fl := [(0, false, 1), (1, false, 1), (2, false, 1), (3, false, 1), (4, false, 1), (5, false, 1)], ze := some [.d (.int .u64) (0 : Int), .d (.int .i64) (0 : Int), .d (.int .u64) (0 : Int), .d (.int .u64) (0 : Int), .d (.int .u64) (0 : Int), .full (.st 1) []], pl := [(0, 1), (1, 1), (2, 1), (3, 1), (4, 1), (5, 1)] }
theorem ti25_ok : TI.Ok Try.prog TB 25 ti25 :=
  ⟨(fun _ h => (show tyOf Try.prog 25 = some (true, 6) by kernel_rfl).trans h),
   (k4i ⟨by kernel_rfl, by kernel_rfl, by kernel_rfl, by kernel_rfl, by kernel_rfl, by kernel_rfl, trivial⟩),
   (fun _ _ h => by cases h),
   (fun h => by cases h),
   (fun _ h => by cases h),
   (fun _ h => by cases h; exact ⟨by kernel_rfl, k1y (by kernel_rfl)⟩),
   (fun _ => by kernel_rfl),
   (fun _ h => by cases h),
   (fun _ h => by cases h)⟩
def ti30 : TI TB.den := { ty := some (false, 1), el := some (.int .u64, 8), ez := true, ze := some [.full (.int .u64) []], un := some (.slice 22) }
theorem ti30_ok : TI.Ok Try.prog TB 30 ti30 :=
  ⟨(fun _ h => (show tyOf Try.prog 30 = some (false, 1) by kernel_rfl).trans h),
   (k4i trivial),
   (fun _ _ h => by cases h; exact ⟨by kernel_rfl, by kernel_rfl⟩),
   (fun _ _ _ h => by cases h; exact ⟨[.d (.int .u64 0)], by kernel_rfl, ⟨⟨k3v _, rfl⟩, trivial⟩⟩),
   (fun _ h => by cases h),
   (fun _ h => by cases h; exact ⟨by kernel_rfl, k1y (by kernel_rfl)⟩),
   (fun h => (h rfl).elim),
   (fun _ h => (show Try.prog.underlying 30 = some (.slice 22) by kernel_rfl).trans h),
   (fun _ h => by cases h)⟩
def ti31 : TI TB.den := { ty := some (false, 1), el := some (.st 0, 48), ez := true, ze := some [.full (.st 0) []], un := some (.slice 60) }
theorem ti31_ok : TI.Ok Try.prog TB 31 ti31 :=
  ⟨(fun _ h => (show tyOf Try.prog 31 = some (false, 1) by kernel_rfl).trans h),
   (k4i trivial),
   (fun _ _ h => by cases h; exact ⟨by kernel_rfl, by kernel_rfl⟩),
   (fun _ _ _ h => by cases h; exact ⟨[.d (.int .u64 0), .d (.int .u64 0), .d (.int .u64 0), .full 1 []], by kernel_rfl, ⟨⟨k3v _, rfl⟩, ⟨k3v _, rfl⟩, ⟨k3v _, rfl⟩, ⟨⟨rfl, rfl⟩, rfl⟩, trivial⟩⟩),
   (fun _ h => by cases h),
   (fun _ h => by cases h; exact ⟨by kernel_rfl, k1y (by kernel_rfl)⟩),
   (fun h => (h rfl).elim),
   (fun _ h => (show Try.prog.underlying 31 = some (.slice 60) by kernel_rfl).trans h),
   (fun _ h => by cases h)⟩
def ti32 : TI TB.den := { ty := some (false, 1), el := some (.int .u8, 1), ez := true, ze := some [.full (.int .u8) []], un := some (.slice 5) }
theorem ti32_ok : TI.Ok Try.prog TB 32 ti32 :=
  ⟨(fun _ h => (show tyOf Try.prog 32 = some (false, 1) by kernel_rfl).trans h),
   (k4i trivial),
   (fun _ _ h => by cases h; exact ⟨by kernel_rfl, by kernel_rfl⟩),
   (fun _ _ _ h => by cases h; exact ⟨[.d (.int .u8 0)], by kernel_rfl, ⟨⟨k3v _, rfl⟩, trivial⟩⟩),
   (fun _ h => by cases h),
   (fun _ h => by cases h; exact ⟨by kernel_rfl, k1y (by kernel_rfl)⟩),
   (fun h => (h rfl).elim),
   (fun _ h => (show Try.prog.underlying 32 = some (.slice 5) by kernel_rfl).trans h),
   (fun _ h => by cases h)⟩
def ti34 : TI TB.den := { ty := some (true, 10), fl := [(0, false, 1), (1, false, 1), (2, false, 1), (3, false, 1), (4, false, 1), (5, false, 1), (6, false, 1), (7, false, 1), (8, false, 1), (9, false, 1)], ze := some [.d (.int .u64) (0 : Int), .full (.int .u64) [], .full (.st 0) [], .d (.int .u64) (0 : Int), .d (.int .u64) (0 : Int), .d (.int .u64) (0 : Int), .d (.int .u64) (0 : Int), .d (.int .u64) (0 : Int), .d (.int .i64) (0 : Int), .full (.int .u8) []], pl := [(0, 1), (1, 1), (2, 1), (3, 1), (4, 1), (5, 1), (6, 1), (7, 1), (8, 1), (9, 1)] }
theorem ti34_ok : TI.Ok Try.prog TB 34 ti34 :=
  ⟨(fun _ h => (show tyOf Try.prog 34 = some (true, 10) by kernel_rfl).trans h),
   (k4i ⟨by kernel_rfl, by kernel_rfl, by kernel_rfl, by kernel_rfl, by kernel_rfl, by kernel_rfl, by kernel_rfl, by kernel_rfl, by kernel_rfl, by kernel_rfl, trivial⟩),
   (fun _ _ h => by cases h),
   (fun h => by cases h),
   (fun _ h => by cases h),
   (fun _ h => by cases h; exact ⟨by kernel_rfl, k1y (by kernel_rfl)⟩),
   (fun _ => by kernel_rfl),
   (fun _ h => by cases h),
   (fun _ h => by cases h)⟩
def ti35 : TI TB.den := { ty := some (false, 1), ze := some [.d (.int .u32) (0 : Int)], un := some (.int .u32) }
theorem ti35_ok : TI.Ok Try.prog TB 35 ti35 :=
  ⟨(fun _ h => (show tyOf Try.prog 35 = some (false, 1) by kernel_rfl).trans h),
   (k4i trivial),
   (fun _ _ h => by cases h),
   (fun h => by cases h),
   (fun _ h => by cases h),
   (fun _ h => by cases h; exact ⟨by kernel_rfl, k1y (by kernel_rfl)⟩),
   (fun h => (h rfl).elim),
   (fun _ h => (show Try.prog.underlying 35 = some (.int .u32) by kernel_rfl).trans h),
   (fun _ h => by cases h)⟩
def ti50 : TI TB.den := { ty := some (true, 9), fl := [(0, false, 1), (1, false, 1), (2, true, 3), (5, false, 1), (6, false, 1), (7, false, 1), (8, false, 1)], ze := some [.d (.int .i64) (0 : Int), .d (.int .i64) (0 : Int), .d (.int .i64) (0 : Int), .d (.int .i64) (0 : Int), .d (.int .i64) (0 : Int), .d (.int .u64) (0 : Int), .d (.int .i64) (0 : Int), .d (.int .i64) (0 : Int), .d (.int .u64) (0 : Int)], pl := [(0, 1), (1, 1), (2, 3), (5, 1), (6, 1), (7, 1), (8, 1)] }
theorem ti50_ok : TI.Ok Try.prog TB 50 ti50 :=
  ⟨(fun _ h => (show tyOf Try.prog 50 = some (true, 9) by kernel_rfl).trans h),
   (k4i ⟨by kernel_rfl, by kernel_rfl, by kernel_rfl, by kernel_rfl, by kernel_rfl, by kernel_rfl, by kernel_rfl, trivial⟩),
   (fun _ _ h => by cases h),
   (fun h => by cases h),
   (fun _ h => by cases h),
   (fun _ h => by cases h; exact ⟨by kernel_rfl, k1y (by kernel_rfl)⟩),
   (fun _ => by kernel_rfl),
   (fun _ h => by cases h),
   (fun _ h => by cases h)⟩
def ti58 : TI TB.den := { ty := some (true, 2), ar := some (2, false, 1), ze := some [.d (.int .u64) (0 : Int), .d (.int .u64) (0 : Int)], pl := [(0, 1), (1, 1)], un := some (.array 2 22) }
theorem ti58_ok : TI.Ok Try.prog TB 58 ti58 :=
  ⟨(fun _ h => (show tyOf Try.prog 58 = some (true, 2) by kernel_rfl).trans h),
   (k4i trivial),
   (fun _ _ h => by cases h),
   (fun h => by cases h),
   (fun _ h => by cases h; exact ⟨by kernel_rfl, by kernel_rfl⟩),
   (fun _ h => by cases h; exact ⟨by kernel_rfl, k1y (by kernel_rfl)⟩),
   (fun _ => by kernel_rfl),
   (fun _ h => (show Try.prog.underlying 58 = some (.array 2 22) by kernel_rfl).trans h),
   (fun _ h => by cases h)⟩
def ti60 : TI TB.den := { ty := some (true, 4), fl := [(0, false, 1), (1, true, 2), (3, false, 1)], ze := some [.d (.int .u64) (0 : Int), .d (.int .u64) (0 : Int), .d (.int .u64) (0 : Int), .full (.int .u64) []], pl := [(0, 1), (1, 2), (3, 1)] }
theorem ti60_ok : TI.Ok Try.prog TB 60 ti60 :=
  ⟨(fun _ h => (show tyOf Try.prog 60 = some (true, 4) by kernel_rfl).trans h),
   (k4i ⟨by kernel_rfl, by kernel_rfl, by kernel_rfl, trivial⟩),
   (fun _ _ h => by cases h),
   (fun h => by cases h),
   (fun _ h => by cases h),
   (fun _ h => by cases h; exact ⟨by kernel_rfl, k1y (by kernel_rfl)⟩),
   (fun _ => by kernel_rfl),
   (fun _ h => by cases h),
   (fun _ h => by cases h)⟩
def ti83 : TI TB.den := { ty := some (true, 2), fl := [(0, false, 1), (1, false, 1)], ze := some [.full (.int .u8) [], .d (.bool) (false : Bool)], pl := [(0, 1), (1, 1)] }
theorem ti83_ok : TI.Ok Try.prog TB 83 ti83 :=
  ⟨(fun _ h => (show tyOf Try.prog 83 = some (true, 2) by kernel_rfl).trans h),
   (k4i ⟨by kernel_rfl, by kernel_rfl, trivial⟩),
   (fun _ _ h => by cases h),
   (fun h => by cases h),
   (fun _ h => by cases h),
   (fun _ h => by cases h; exact ⟨by kernel_rfl, k1y (by kernel_rfl)⟩),
   (fun _ => by kernel_rfl),
   (fun _ h => by cases h),
   (fun _ h => by cases h)⟩
def ti97 : TI TB.den := { ty := some (true, 3), fl := [(0, false, 1), (1, false, 1), (2, false, 1)], ze := some [.full (.int .u8) [], .d (.int .i64) (0 : Int), .d (.bool) (false : Bool)], pl := [(0, 1), (1, 1), (2, 1)] }
theorem ti97_ok : TI.Ok Try.prog TB 97 ti97 :=
  ⟨(fun _ h => (show tyOf Try.prog 97 = some (true, 3) by kernel_rfl).trans h),
   (k4i ⟨by kernel_rfl, by kernel_rfl, by kernel_rfl, trivial⟩),
   (fun _ _ h => by cases h),
   (fun h => by cases h),
   (fun _ h => by cases h),
   (fun _ h => by cases h; exact ⟨by kernel_rfl, k1y (by kernel_rfl)⟩),
   (fun _ => by kernel_rfl),
   (fun _ h => by cases h),
   (fun _ h => by cases h)⟩
def ti110 : TI TB.den := { ty := some (true, 3), ar := some (3, false, 1), ze := some [.d (.int .u64) (0 : Int), .d (.int .u64) (0 : Int), .d (.int .u64) (0 : Int)], pl := [(0, 1), (1, 1), (2, 1)], un := some (.array 3 22) }
theorem k1pd : TI.Ok Try.prog TB 110 ti110 :=
  ⟨(fun _ h => (show tyOf Try.prog 110 = some (true, 3) by kernel_rfl).trans h),
   (k4i trivial),
   (fun _ _ h => by cases h),
   (fun h => by cases h),
   (fun _ h => by cases h; exact ⟨by kernel_rfl, by kernel_rfl⟩),
   (fun _ h => by cases h; exact ⟨by kernel_rfl, k1y (by kernel_rfl)⟩),
   (fun _ => by kernel_rfl),
   (fun _ h => (show Try.prog.underlying 110 = some (.array 3 22) by kernel_rfl).trans h),
   (fun _ h => by cases h)⟩
def ti114 : TI TB.den := { ty := some (false, 1), ze := some [.d (.int .u64) (0 : Int)], un := some (.int .u64) }
theorem k1pl : TI.Ok Try.prog TB 114 ti114 :=
  ⟨(fun _ h => (show tyOf Try.prog 114 = some (false, 1) by kernel_rfl).trans h),
   (k4i trivial),
   (fun _ _ h => by cases h),
   (fun h => by cases h),
   (fun _ h => by cases h),
   (fun _ h => by cases h; exact ⟨by kernel_rfl, k1y (by kernel_rfl)⟩),
   (fun h => (h rfl).elim),
   (fun _ h => (show Try.prog.underlying 114 = some (.int .u64) by kernel_rfl).trans h),
   (fun _ h => by cases h)⟩
def ti116 : TI TB.den := { ty := some (true, 1), fl := [(0, false, 1)], ze := some [.d (.int .u64) (0 : Int)], pl := [(0, 1)], eq := some [.int .u64] }
theorem k1po : TI.Ok Try.prog TB 116 ti116 :=
  ⟨(fun _ h => (show tyOf Try.prog 116 = some (true, 1) by kernel_rfl).trans h),
   (k4i ⟨by kernel_rfl, trivial⟩),
   (fun _ _ h => by cases h),
   (fun h => by cases h),
   (fun _ h => by cases h),
   (fun _ h => by cases h; exact ⟨by kernel_rfl, k1y (by kernel_rfl)⟩),
   (fun _ => by kernel_rfl),
   (fun _ h => by cases h),
   (fun _ h => (show eqT Try.prog 116 = some [.int .u64] by kernel_rfl).trans h)⟩
def inf : BT (TI TB.den) := (.nd (.nd (.nd (.nd (.nd .lf 3 ti3 .lf) 4 ti4 .lf) 5 ti5 (.nd (.nd .lf 9 ti9 .lf) 22 ti22 .lf)) 23 ti23 (.nd (.nd (.nd .lf 25 ti25 .lf) 30 ti30 .lf) 31 ti31 (.nd .lf 32 ti32 .lf))) 34 ti34 (.nd (.nd (.nd (.nd .lf 35 ti35 .lf) 50 ti50 .lf) 58 ti58 (.nd .lf 60 ti60 .lf)) 83 ti83 (.nd (.nd (.nd .lf 97 ti97 .lf) 110 ti110 .lf) 114 ti114 (.nd .lf 116 ti116 .lf))))
theorem inf_ok : InfoOk Try.prog TB inf := (find_nd ti34_ok (find_nd ti23_ok (find_nd ti5_ok (find_nd ti4_ok (find_nd ti3_ok k4b k4b) k4b) (find_nd ti22_ok (find_nd ti9_ok k4b k4b) k4b)) (find_nd ti31_ok (find_nd ti30_ok (find_nd ti25_ok k4b k4b) k4b) (find_nd ti32_ok k4b k4b))) (find_nd ti83_ok (find_nd ti58_ok (find_nd ti50_ok (find_nd ti35_ok k4b k4b) k4b) (find_nd ti60_ok k4b k4b)) (find_nd k1pl (find_nd k1pd (find_nd ti97_ok k4b k4b) k4b) (find_nd k1po k4b k4b))))
theorem mix : Try.prog.follows .mixedOrders = true := by kernel_rfl
def x116 : XCon TB.den := ⟨116, [.int .u64, .int .u64, .int .u64], [.int .u64, .int .u64], fun x => (fun (a0 : Int) (a1 : Int) (a2 : Int) => 0 ≤ a0 ∧ 0 ≤ a1 ∧ 0 ≤ a2 ∧ a2 ≤ 1) x.1 x.2.1 x.2.2.1, fun x => ((fun (a0 : Int) (a1 : Int) (a2 : Int) => (a0 + a1 + a2) % 18446744073709551616) x.1 x.2.1 x.2.2.1, (fun (a0 : Int) (a1 : Int) (a2 : Int) => (a0 + a1 + a2) / 18446744073709551616) x.1 x.2.1 x.2.2.1, ())⟩
theorem x116_ok : x116.Ok Try.prog TB := ⟨rfl, fun x h => k1m5 Try.func116 (by kernel_rfl) (by kernel_rfl) (by kernel_rfl) (by kernel_rfl) x.1 x.2.1 x.2.2.1 h.1 h.2.1 h.2.2.1 h.2.2.2⟩
end Go.Proofs.Ytnmakgfmimagmaa
namespace Go.Bv
open Go.RowKit Go.Deep
def limOf (w : World) (b : Nat) : Nat := match w.heap[b]? with
  | some (.cells c _ _) => c.size
  | _ => 0
theorem k1nb {w : World} {b o : Nat} {v : Value} (h : w.cell? ⟨b, o, none⟩ = some v) : o < limOf w b := by
  unfold World.cell? at h
  unfold limOf
  simp only at h
  split at h
  · rename_i c _ _ hh
    rw [hh]
    simp only [Option.isSome_none, Bool.false_eq_true, if_false] at h
    exact (Array.getElem?_eq_some_iff.1 h).1
  · cases h
def isAggT (P : Program) (e : TypeId) : Bool := match P.underlying e with
  | some (.struct _) => true
  | some (.array _ _) => true
  | _ => false
def mkD (P : Program) (e : TypeId) (cs : List D) : D := if isAggT P e then .agg cs else cs.headD (.bool false)
def tiles (P : Program) (tot : Nat) : List (TypeId × Nat) → Nat → Bool
  | [], o => o == tot
  | p :: r, o => p.2 == o && tiles P tot r (o + P.cellsOf p.1)
def fsOf (fs : Array Field) : List (TypeId × Nat) := fs.toList.map fun f => (f.type, f.offset)
def arOf (P : Program) (n : Nat) (e : TypeId) : List (TypeId × Nat) := (List.range n).map fun i => (e, i * P.cellsOf e)
def dataT (P : Program) : Nat → TypeId → Bool
  | 0, _ => false
  | k + 1, t => match P.underlying t with
    | some .bool => true
    | some (.int _) => true
    | some .string => true
    | some (.slice e) => decide (0 < P.cellsOf e) && dataT P k e
    | some (.struct fs) => tiles P (P.cellsOf t) (fsOf fs) 0 && (fsOf fs).all fun p => dataT P k p.1
    | some (.array n e) => tiles P (P.cellsOf t) (arOf P n e) 0 && dataT P k e
    | _ => false
def RelFs {H : Type} (R : TypeId → List D → DataW H → Prop) : List (TypeId × Nat) → List D → List (DataW H) → Prop
  | [], ds, ps => ds = [] ∧ ps = []
  | t :: ts, ds, ps => ∃ d1 d2 p qs, R t.1 d1 p ∧ RelFs R ts d2 qs ∧ ds = d1 ++ d2 ∧ ps = p :: qs
def Rel {H : Type} (P : Program) : Nat → TypeId → List D → DataW H → Prop
  | 0, _, _, _ => False
  | k + 1, t, ds, d => match P.underlying t with
    | some .bool => ∃ b, ds = [.bool b] ∧ d = .lit (.bool b)
    | some (.int q) => ∃ i, ds = [.int q i] ∧ d = .lit (.int q i) ∧ (Lit.int q i).wf = true
    | some .string => ∃ s : ByteArray, ds = [.str s] ∧ d = .lit (.string s.data.toList)
    | some (.slice e) => ∃ l : List (List D), ds = [.slice (P.cellsOf e) (l.map (mkD P e))] ∧ l.length ≤ maxLen ∧
        ((l = [] ∧ d = .nil) ∨ ∃ elems spare, d = .slice elems spare ∧ l.length = elems.length ∧ ∀ (j : Nat) (x : List D) (y : DataW H), l[j]? = some x → elems[j]? = some y → Rel P k e x y)
    | some (.struct fs) => ∃ ps, d = .agg ps ∧ RelFs (Rel P k) (fsOf fs) ds ps
    | some (.array n e) => ∃ ps, d = .agg ps ∧ RelFs (Rel P k) (arOf P n e) ds ps
    | _ => False
def Holds (w : World) (cs : List Value) (ds : List D) : Prop := ds.length = cs.length ∧ ∀ (j : Nat) (v : Value) (c : D), cs[j]? = some v → ds[j]? = some c → RepD (limOf w) w v c
theorem Holds.append {w : World} {a b : List Value} {x y : List D} (h1 : Holds w a x) (h2 : Holds w b y) : Holds w (a ++ b) (x ++ y) := by
  refine ⟨by simp [h1.1, h2.1], fun j v c hv hc => ?_⟩
  by_cases hj : j < a.length
  · rw [List.getElem?_append_left hj] at hv
    rw [List.getElem?_append_left (by rw [h1.1]; exact hj)] at hc
    exact h1.2 j v c hv hc
  · rw [List.getElem?_append_right (by omega)] at hv
    rw [List.getElem?_append_right (by rw [h1.1]; omega), h1.1] at hc
    exact h2.2 _ v c hv hc
theorem Holds.one {w : World} {v : Value} {d : D} (h : RepD (limOf w) w v d) : Holds w [v] [d] := by
  refine ⟨rfl, fun j u c hu hc => ?_⟩
  cases j with
  | zero => simp at hu hc; subst hu; subst hc; exact h
  | succ j => simp at hu
section
variable {H : Type} {P : Program} {w : World} {cs : List Value}
theorem k10f {tot : Nat} (htot : cs.length = tot) (ok : Value → Prop) (hok : ∀ v ∈ cs, ok v) (R : TypeId → List D → DataW H → Prop) (g : TypeId → List Value → Option (DataW H × List MemPlace)) :
    ∀ (L : List (TypeId × Nat)) (o : Nat) (xs : List (DataW H × List MemPlace)), tiles P tot L o = true → xs.length = L.length →
      (∀ p ∈ L, ∀ cs' y, (∀ v ∈ cs', ok v) → g p.1 cs' = some y → ∃ ds, Holds w cs' ds ∧ R p.1 ds y.1) →
      (∀ (i : Nat) (p : TypeId × Nat), L[i]? = some p → g p.1 ((cs.drop p.2).take (P.cellsOf p.1)) = xs[i]?) →
      ∃ ds, Holds w (cs.drop o) ds ∧ RelFs R L ds (xs.map (·.1))
  | [], o, xs, ht, hl, _, _ => by
    simp [tiles] at ht
    have : xs = [] := by simpa using hl
    subst this
    refine ⟨[], ⟨?_, ?_⟩, rfl, rfl⟩
    · simp; omega
    · intro j v c _ hc; simp at hc
  | p :: L, o, xs, ht, hl, hg, hx => by
    simp [tiles] at ht
    obtain ⟨h0, ht⟩ := ht
    cases xs with
    | nil => simp at hl
    | cons y ys =>
      have h1 := hx 0 p rfl
      simp only [List.getElem?_cons_zero] at h1
      obtain ⟨d1, hd1, hr1⟩ := hg p (by simp) _ y (fun v hv => hok v (List.mem_of_mem_drop (List.mem_of_mem_take hv))) h1
      obtain ⟨d2, hd2, hr2⟩ := k10f htot ok hok R g L (o + P.cellsOf p.1) ys ht (by simpa using hl) (fun q hq => hg q (by simp [hq])) (fun i q hq => by simpa using hx (i + 1) q (by simpa using hq))
      refine ⟨d1 ++ d2, ?_, d1, d2, y.1, _, hr1, hr2, rfl, rfl⟩
      have := hd1.append hd2
      rw [h0, ← List.drop_drop, List.take_append_drop] at this
      exact this
end
section
variable {H : Type} {enc : TypeId × Value → H} {P : Program} {w : World}
theorem rel_mk {k : Nat} {e : TypeId} {x : List D} {d : DataW H} (hr : Rel P k e x d) (h1 : ∀ c ∈ x, c.one = true) : (mkD P e x).cells = x := by
  cases k with
  | zero => exact hr.elim
  | succ k =>
    unfold mkD
    split
    · rfl
    · rename_i ha
      unfold Rel at hr
      split at hr
      · obtain ⟨b, rfl, _⟩ := hr; rfl
      · obtain ⟨b, rfl, _⟩ := hr; rfl
      · obtain ⟨b, rfl, _⟩ := hr; rfl
      · obtain ⟨b, rfl, _⟩ := hr; rfl
      · rename_i h; exact absurd (by simp [isAggT, h]) ha
      · rename_i h; exact absurd (by simp [isAggT, h]) ha
      · exact hr.elim
theorem kpi : ∀ (k : Nat) (t : TypeId), dataT P k t = true → ∀ (n : Nat) (cs : List Value) (y : DataW H × List MemPlace),
    DataW.trod enc P w 0 (fun _ => true) true n t cs = some y → ∃ ds, Holds w cs ds ∧ Rel P k t ds y.1
  | 0, _, h => by cases h
  | k + 1, t, hT => by
    intro n cs y h
    unfold dataT at hT
    split at hT
    · rename_i hu
      obtain ⟨b, rfl, rfl⟩ := DataW.trod_bool hu h
      exact ⟨[.bool b], Holds.one (.bool b), by simp [Rel, hu]⟩
    · rename_i q hu
      obtain ⟨i, rfl, rfl, hw⟩ := DataW.trod_int hu h
      exact ⟨[.int q i], Holds.one (.int q i), by simp [Rel, hu, hw]⟩
    · rename_i hu
      obtain ⟨s, rfl, rfl, hs⟩ := DataW.trod_string hu h
      exact ⟨[.str s], Holds.one (.str s), by simp only [Rel, hu]; exact ⟨s, rfl, rfl⟩⟩
    · rename_i e hu
      simp only [Bool.and_eq_true, decide_eq_true_eq] at hT
      obtain ⟨hpos, hT⟩ := hT
      rcases open_slice hu h with ⟨rfl, rfl⟩ | ⟨a, len, cap, m, n', Dd, Pl, rfl, _, hlc, hcm, hm, rfl, hel⟩
      · exact ⟨[.slice (P.cellsOf e) []], Holds.one (.nil none _), by simp only [Rel, hu]; exact ⟨[], rfl, Nat.zero_le _, .inl ⟨by trivial, by trivial⟩⟩⟩
      · simp only [if_true] at hm
        subst hm
        by_cases hm0 : m = 0
        · subst hm0
          have hl0 : len = 0 := by omega
          subst hl0
          refine ⟨[.slice (P.cellsOf e) []], Holds.one (.nil (some a) _), ?_⟩
          simp only [Rel, hu]
          exact ⟨[], rfl, Nat.zero_le _, .inr ⟨_, _, rfl, by simp, by intro j x y hx; simp at hx⟩⟩
        have hel' : ∀ i, i < len → ∃ x : List D, ∃ cs', w.cells? 0 (a.add (i * P.cellsOf e)) (P.cellsOf e) = some cs' ∧ Holds w cs' x ∧ Rel P k e x (Dd i) := by
          intro i hi
          obtain ⟨cs', h1, h2⟩ := hel i (by omega)
          obtain ⟨ds, h3, h4⟩ := kpi k e hT n' cs' _ h2
          exact ⟨ds, cs', h1, h3, h4⟩
        obtain ⟨f, hf⟩ := choose_lt hel'
        have hspot : a.spot = none := by
          obtain ⟨cs', h1, h2⟩ := hel 0 (by omega)
          have h3 := (World.cells?_some h1).2.2 0 (by omega)
          have h4 := (World.cells?_some h1).2.1
          rw [List.getElem?_eq_getElem (by omega)] at h3
          unfold World.cell? at h3
          split at h3
          · split at h3
            · cases h3
            · rename_i hs; simpa [Addr.add] using hs
          · cases h3
        obtain ⟨b, off, sp⟩ := a
        simp only at hspot
        subst hspot
        have hone : ∀ i, i < len → ∀ c ∈ f i, c.one = true := by
          intro i hi c hc
          obtain ⟨cs', h1, h2, h3⟩ := hf i hi
          obtain ⟨j, hj⟩ := List.getElem?_of_mem hc
          have hjl : j < cs'.length := by rw [← h2.1]; exact (List.getElem?_eq_some_iff.1 hj).1
          exact (h2.2 j _ c (List.getElem?_eq_getElem hjl) hj).done
        have hmk : ∀ i, i < len → (mkD P e (f i)).cells = f i := fun i hi => by
          obtain ⟨cs', h1, h2, h3⟩ := hf i hi
          exact rel_mk h3 (hone i hi)
        have hsz : ∀ d ∈ ((List.range len).map f).map (mkD P e), d.cells.length = P.cellsOf e ∧ ∀ c ∈ d.cells, c.one = true := by
          intro d hd
          simp only [List.map_map, List.mem_map, List.mem_range, Function.comp] at hd
          obtain ⟨i, hi, rfl⟩ := hd
          obtain ⟨cs', h1, h2, h3⟩ := hf i hi
          rw [hmk i hi]
          exact ⟨by rw [h2.1]; exact (World.cells?_some h1).2.1, hone i hi⟩
        have hget : ∀ i, i < len → (((List.range len).map f).map (mkD P e))[i]? = some (mkD P e (f i)) := by
          intro i hi
          simp [List.getElem?_map, List.getElem?_range hi]
        have hfl := k5u hsz
        simp only [List.length_map, List.length_range] at hfl
        have hat : ∀ (j : Nat) (u : Value), ((List.range (len * P.cellsOf e)).map fun j => (w.cell? ⟨b, off + j, none⟩).getD undef)[j]? = some u → j < len * P.cellsOf e ∧ w.cell? ⟨b, off + j, none⟩ = some u := by
          intro j u hu
          have hj : j < len * P.cellsOf e := by simpa using (List.getElem?_eq_some_iff.1 hu).1
          refine ⟨hj, ?_⟩
          simp only [List.getElem?_map, List.getElem?_range hj, Option.map_some, Option.some.injEq] at hu
          have hi : j / P.cellsOf e < len := by rw [Nat.div_lt_iff_lt_mul hpos]; exact hj
          have hr : j % P.cellsOf e < P.cellsOf e := Nat.mod_lt _ hpos
          obtain ⟨cs', h1, h2, h3⟩ := hf _ hi
          have e1 : j / P.cellsOf e * P.cellsOf e + j % P.cellsOf e = j := by rw [Nat.mul_comm]; exact Nat.div_add_mod j _
          have h4 := (World.cells?_some h1).2.2 _ hr
          have h5 := (World.cells?_some h1).2.1
          have e2 : (Addr.add ⟨b, off, none⟩ (j / P.cellsOf e * P.cellsOf e)).add (j % P.cellsOf e) = ⟨b, off + j, none⟩ := by
            rw [add_add, e1]
            simp [Addr.add]
          rw [e2, List.getElem?_eq_getElem (by omega)] at h4
          rw [h4] at hu ⊢
          simpa using hu
        refine ⟨[.slice (P.cellsOf e) (((List.range len).map f).map (mkD P e))], Holds.one ?_, ?_⟩
        · have := RepD.slice (m := limOf w) (w := w) b off m (P.cellsOf e) (((List.range len).map f).map (mkD P e)) ((List.range (len * P.cellsOf e)).map fun j => (w.cell? ⟨b, off + j, none⟩).getD undef) (by simpa using hlc) hcm hsz (by rw [hfl]; simp) ?_ ?_
          · simpa using this
          · intro j u hu
            obtain ⟨hj, hcell⟩ := hat j u hu
            exact ⟨k1nb hcell, hcell⟩
          · intro j u c hu hc
            obtain ⟨hj, hcell⟩ := hat j u hu
            have hi : j / P.cellsOf e < len := by rw [Nat.div_lt_iff_lt_mul hpos]; exact hj
            have hr : j % P.cellsOf e < P.cellsOf e := Nat.mod_lt _ hpos
            obtain ⟨cs', h1, h2, h3⟩ := hf _ hi
            have e1 : j / P.cellsOf e * P.cellsOf e + j % P.cellsOf e = j := by rw [Nat.mul_comm]; exact Nat.div_add_mod j _
            rw [← e1, kwd hsz (hget _ hi) _ hr, hmk _ hi] at hc
            refine h2.2 _ u c ?_ hc
            rw [← (World.cells?_some h1).2.2 _ hr, ← hcell]
            congr 1
            rw [add_add, e1]
            simp [Addr.add]
        · simp only [Rel, hu]
          refine ⟨(List.range len).map f, rfl, by simp; omega, .inr ⟨_, _, rfl, by simp, ?_⟩⟩
          intro j x y hx hy
          have hj : j < len := by simpa using (List.getElem?_eq_some_iff.1 hx).1
          simp only [List.getElem?_map, List.getElem?_range hj, Option.map_some, Option.some.injEq] at hx hy
          subst hx; subst hy
          obtain ⟨_, _, _, h3⟩ := hf j hj
          exact h3
    · rename_i fs hu
      simp only [Bool.and_eq_true] at hT
      obtain ⟨xs, n', rfl, rfl, hl, hxl, hx⟩ := DataW.trod_struct hu h
      obtain ⟨ds, h1, h2⟩ := k10f (P := P) hl (fun _ => True) (fun _ _ => trivial) (Rel P k) (fun t c => DataW.trod enc P w 0 (fun _ => true) true n' t c) (fsOf fs) 0 xs hT.1 (by simp [fsOf, hxl])
        (fun p hp cs' y _ hy => kpi k p.1 (List.all_eq_true.1 hT.2 p hp) n' cs' y hy)
        (fun i p hp => by
          simp only [fsOf, List.getElem?_map, Option.map_eq_some_iff] at hp
          obtain ⟨f, hf, rfl⟩ := hp
          exact hx i f (by simpa using hf))
      exact ⟨ds, by simpa using h1, by simp only [Rel, hu]; exact ⟨_, rfl, h2⟩⟩
    · rename_i m e hu
      simp only [Bool.and_eq_true] at hT
      obtain ⟨xs, n', rfl, rfl, hl, hxl, hx⟩ := DataW.trod_array hu h
      obtain ⟨ds, h1, h2⟩ := k10f (P := P) hl (fun _ => True) (fun _ _ => trivial) (Rel P k) (fun t c => DataW.trod enc P w 0 (fun _ => true) true n' t c) (arOf P m e) 0 xs hT.1 (by simp [arOf, hxl])
        (fun p hp cs' y _ hy => by
          simp only [arOf, List.mem_map] at hp
          obtain ⟨i, _, rfl⟩ := hp
          exact kpi k e hT.2 n' cs' y hy)
        (fun i p hp => by
          simp only [arOf, List.getElem?_map, Option.map_eq_some_iff] at hp
          obtain ⟨f, hf, rfl⟩ := hp
          obtain ⟨hi, rfl⟩ := List.getElem?_eq_some_iff.1 hf
          have hi' : i < m := by simpa using hi
          simpa using hx i hi')
      exact ⟨ds, by simpa using h1, by simp only [Rel, hu]; exact ⟨_, rfl, h2⟩⟩
    · cases hT
end
end Go.Bv
namespace Go.Bv
open Go.RowKit Go.ChangeShapes Go.WideShapes
def G0 (W : World) : Gh := ⟨fun _ => none, fun _ => none, limOf W⟩
def vOf (P : Program) (t : TypeId) (ds : List D) : V := if isAggT P t then .agg (ds.map V.d) else .d (ds.headD (.bool false))
section
variable {H : Type} {enc : TypeId × Value → H} {P : Program} {W : World}
theorem arg_rep {k : Nat} {r : Reach} {base : Nat} {t : TypeId} {v : Value} {d : DataW H} {ps : List MemPlace} {h : Hp} {nx : Nat} (hT : dataT P k t = true) (hval : Value.okWide P W r base t v)
    (hd : DataW.Trod enc P W 0 (fun _ => true) true t v d ps) : ∃ ds, Rel P k t ds d ∧ RepV (G0 W) W h nx v (vOf P t ds) := by
  obtain ⟨n, hn⟩ := hd
  by_cases ha : isAggT P t = true
  · have hval' : ∃ cs, v = .agg cs ∧ cs.size = P.cellsOf t ∧ Row.okWide P W r base t cs := by
      unfold isAggT at ha
      unfold Value.okWide at hval
      split at ha
      · rename_i h1; rw [h1] at hval; exact hval
      · rename_i h1; rw [h1] at hval; exact hval
      · cases ha
    obtain ⟨cs, rfl, _, ts, _, _, hc⟩ := hval'
    obtain ⟨ds, h1, h2⟩ := kpi k t hT n cs.toList _ hn
    refine ⟨ds, h2, ?_⟩
    unfold vOf
    rw [if_pos ha]
    have := RepV.agg (G := G0 W) (w := W) (h := h) (nx := nx) cs.toList (ds.map V.d) (by simpa using h1.1.symm) ?_ ?_
    · simpa using this
    · intro x hx
      obtain ⟨c, hcm, rfl⟩ := List.mem_map.1 hx
      obtain ⟨j, hj⟩ := List.getElem?_of_mem hcm
      have hjl : j < cs.toList.length := by have := h1.1; have := (List.getElem?_eq_some_iff.1 hj).1; simp [Value.cells] at *; omega
      exact (h1.2 j _ c (List.getElem?_eq_getElem hjl) hj).done
    · intro j u x hu hx
      rw [List.getElem?_map, Option.map_eq_some_iff] at hx
      obtain ⟨c, hcj, rfl⟩ := hx
      exact .d _ _ (h1.2 j u c hu hcj)
  · have hval' : Cell.okWide P W r base t v := by
      unfold Value.okWide at hval
      split at hval
      · rename_i h1; exact absurd (by simp [isAggT, h1]) ha
      · rename_i h1; exact absurd (by simp [isAggT, h1]) ha
      · exact hval
    have hcs : v.cells.toList = [v] := by
      cases v with
      | agg cs =>
        exfalso
        unfold Cell.okWide Cell.ok at hval'
        split at hval'
        all_goals first | (split at hval'; all_goals simp_all) | simp_all
      | _ => rfl
    rw [hcs] at hn
    obtain ⟨ds, h1, h2⟩ := kpi k t hT n _ _ hn
    refine ⟨ds, h2, ?_⟩
    unfold vOf
    rw [if_neg ha]
    have hl := h1.1
    match ds, hl with
    | [c], _ => exact .d _ _ (h1.2 0 v c rfl rfl)
theorem law_of {f : FuncId} {xs : List V} {r : V} (hS : SoundH P f xs [] r []) {vs : List Value} (hlen : vs.length = xs.length)
    (hrep : ∀ (j : Nat) (v : Value) (x : V), vs[j]? = some v → xs[j]? = some x → RepV (G0 W) W [] 0 v x) :
    Calls P f vs.toArray W fun e W' => (∃ v G', e = .returned v ∧ RepV G' W' [] 0 v r) ∧ Below W.heap.size W W' := by
  refine (hS (G0 W) W vs hlen hrep ?_).mono fun e W' hh => ?_
  · refine ⟨?_, ?_, ?_, ?_, ?_, ?_⟩
    · intro id l h; simp [hpOf, Hp.get] at h
    · intro id es h; simp [hpOf, Hp.get] at h
    · intro id b h; simp at h
    · intro i j b h; simp at h
    · intro id ob h; simp [hpOf, Hp.get] at h
    · intro b hb
      show limOf W b = 0
      unfold limOf
      rw [Array.getElem?_eq_none hb]
  · obtain ⟨v, G', rfl, h1, h2, h3, h4⟩ := hh
    refine ⟨⟨v, G', rfl, h1⟩, h3.os, h3.tape, h3.output, h3.size, fun b hb => (h3.same b hb ?_).1⟩
    rintro ⟨i, hi, _⟩
    simp at hi
def typesOk (P : Program) (ts : List TypeId) : Bool := ts.all fun t => P.readableRec t && decide (t < P.types.size)
theorem ky5 (hl : laidOutB P = true) {W' : World} (hb : Below W.heap.size W W') : ∀ {ts : List TypeId} {vs : List Value} {ds : List (DataW H)} {ps : List MemPlace}, typesOk P ts = true →
    DataW.TrodAll enc P W 0 (fun _ => true) true ts vs ds ps → (∀ x ∈ ps, x.block < W.heap.size) → DataW.TrodAll enc P W' 0 (fun b => decide (b < W.heap.size)) true ts vs ds ps
  | [], [], [], _, _, h, _ => h
  | [], [], _ :: _, _, _, h, _ => h.elim
  | [], _ :: _, _, _, _, h, _ => h.elim
  | _ :: _, [], _, _, _, h, _ => h.elim
  | _ :: _, _ :: _, [], _, _, h, _ => h.elim
  | t :: ts, v :: vs, d :: ds, ps, ht, h, hp => by
    simp only [typesOk, List.all_cons, Bool.and_eq_true, decide_eq_true_eq] at ht
    obtain ⟨p, q, h1, h2, rfl⟩ := h
    exact ⟨p, q, Below.trod hl ht.1.1 ht.1.2 h1 hb (fun x hx => hp x (by simp [hx])), ky5 hl hb (by simpa [typesOk] using ht.2) h2 (fun x hx => hp x (by simp [hx])), rfl⟩
theorem rel_int {k : Nat} {t : TypeId} {q : IntKind} {ds : List D} {d : DataW H} (hu : P.underlying t = some (.int q)) (h : Rel P (k + 1) t ds d) : ∃ i, ds = [.int q i] ∧ d = .lit (.int q i) ∧ (Lit.int q i).wf = true := by unfold Rel at h; rw [hu] at h; exact h
theorem k1nq {k : Nat} {t : TypeId} {fs : Array Field} {ds : List D} {d : DataW H} (hu : P.underlying t = some (.struct fs)) (h : Rel P (k + 1) t ds d) : ∃ ps, d = .agg ps ∧ RelFs (Rel P k) (fsOf fs) ds ps := by unfold Rel at h; rw [hu] at h; exact h
theorem k1om {k : Nat} {t e : TypeId} {n : Nat} {ds : List D} {d : DataW H} (hu : P.underlying t = some (.array n e)) (h : Rel P (k + 1) t ds d) : ∃ ps, d = .agg ps ∧ RelFs (Rel P k) (arOf P n e) ds ps := by unfold Rel at h; rw [hu] at h; exact h
theorem k1o0 {k : Nat} {t e : TypeId} {ds : List D} {d : DataW H} {α : Type} [Inhabited α] (f : α → D) (p : α → Prop) (hu : P.underlying t = some (.slice e)) (h : Rel P (k + 1) t ds d)
    (tp : ∀ (x : List D) (y : DataW H), Rel P k e x y → ∃ a, mkD P e x = f a ∧ p a) :
    ∃ l : List α, ds = [.slice (P.cellsOf e) (l.map f)] ∧ l.length ≤ maxLen ∧ (∀ a ∈ l, p a) ∧ ((l = [] ∧ d = .nil) ∨ ∃ elems spare, d = .slice elems spare ∧ l.length = elems.length) := by
  unfold Rel at h
  rw [hu] at h
  obtain ⟨l, rfl, hmx, h⟩ := h
  rcases h with ⟨rfl, rfl⟩ | ⟨elems, spare, rfl, hlen, hh⟩
  · exact ⟨[], rfl, Nat.zero_le _, by simp, .inl ⟨rfl, rfl⟩⟩
  · have : ∀ i, i < l.length → ∃ a, mkD P e (l.getD i []) = f a ∧ p a := by
      intro i hi
      refine tp _ _ (hh i _ _ ?_ (List.getElem?_eq_getElem (by omega)))
      simp [List.getElem?_eq_getElem hi]
    obtain ⟨g, hg⟩ := Deep.choose_lt this
    refine ⟨(List.range l.length).map g, ?_, by simpa using hmx, ?_, .inr ⟨elems, spare, rfl, by simpa using hlen⟩⟩
    · have : l.map (mkD P e) = ((List.range l.length).map g).map f := by
        rw [Deep.map_by_index l [] (mkD P e), List.map_map]
        refine List.map_congr_left fun i hi => ?_
        exact (hg i (by simpa using hi)).1
      rw [this]
    · intro a ha
      obtain ⟨i, hi, rfl⟩ := List.mem_map.1 ha
      exact (hg i (by simpa using hi)).2
theorem k1le {fn : Func} {s : ChangeSpec} {W' : World} {args : Array Value} {ds : List (DataW H)} {before : List MemPlace} {tb : TypeId} (hv : s.vars = []) (hW : DataW.Whole enc P fn.params.toList s.vars false W args.toList ds [] before)
    (hl : laidOutB P = true) (hty : typesOk P fn.params.toList = true) (hr : fn.resultTypes = #[tb]) (hub : P.underlying tb = some .bool)
    (h1 : (s.fn H (ds ++ [])).results = [.lit (.bool true)]) (h2 : (s.fn H (ds ++ [])).args = ds) (h3 : (s.fn H (ds ++ [])).vars = []) (hb : Below W.heap.size W W') :
    s.post enc P fn false true false false W args (.bool true) W' := by
  have hW' := hW
  obtain ⟨p, q, hA, hV, rfl, _, _⟩ := hW
  have hq : q = [] := by rw [hv] at hV; exact hV
  subst hq
  refine ⟨ds, [], p ++ [], [], p, [], hW', ?_, ?_, ?_, hb.frame _, fun h => by cases h⟩
  · rw [h1, hr]
    exact trodAll_cons_mk (shut_bool hub _) trodAll_mk0
  · rw [h2]
    exact ky5 hl hb hty hA (fun x hx => by simpa using hW'.lt x (by simpa using hx))
  · rw [hv, h3]
    rfl
end
structure RelH {H : Type} (P : Program) (k : Nat) (t : TypeId) (ds : List D) (d : DataW H) : Prop where
  h : Rel P k t ds d
section
variable {H : Type} {enc : TypeId × Value → H} {P : Program} {W : World} {k : Nat}
theorem relFs_h : ∀ {L : List (TypeId × Nat)} {ds : List D} {ps : List (DataW H)}, RelFs (Rel P k) L ds ps → RelFs (RelH P k) L ds ps
  | [], _, _, h => h
  | _ :: _, _, _, ⟨d1, d2, p, qs, h1, h2, e1, e2⟩ => ⟨d1, d2, p, qs, ⟨h1⟩, relFs_h h2, e1, e2⟩
theorem k179 {t : TypeId} {q : IntKind} {ds : List D} {d : DataW H} (hu : P.underlying t = some (.int q)) (h : RelH P (k + 1) t ds d) : ∃ i, ds = [.int q i] ∧ d = .lit (.int q i) ∧ (Lit.int q i).wf = true := rel_int hu h.h
theorem kti {t : TypeId} {fs : Array Field} {ds : List D} {d : DataW H} {L : List (TypeId × Nat)} (hu : P.underlying t = some (.struct fs)) (hf : fsOf fs = L) (h : RelH P (k + 1) t ds d) : ∃ ps, d = .agg ps ∧ RelFs (RelH P k) L ds ps := by
  obtain ⟨ps, h1, h2⟩ := k1nq hu h.h
  rw [hf] at h2
  exact ⟨ps, h1, relFs_h h2⟩
theorem k1nj {t e : TypeId} {n : Nat} {ds : List D} {d : DataW H} {L : List (TypeId × Nat)} (hu : P.underlying t = some (.array n e)) (hf : arOf P n e = L) (h : RelH P (k + 1) t ds d) : ∃ ps, d = .agg ps ∧ RelFs (RelH P k) L ds ps := by
  obtain ⟨ps, h1, h2⟩ := k1om hu h.h
  rw [hf] at h2
  exact ⟨ps, h1, relFs_h h2⟩
theorem kpc {t e : TypeId} {ds : List D} {d : DataW H} {α : Type} [Inhabited α] (f : α → D) (p : α → Prop) (sz : Nat) (hu : P.underlying t = some (.slice e)) (hs : P.cellsOf e = sz) (h : RelH P (k + 1) t ds d)
    (tp : ∀ (x : List D) (y : DataW H), RelH P k e x y → ∃ a, mkD P e x = f a ∧ p a) : ∃ l : List α, ds = [.slice sz (l.map f)] ∧ l.length ≤ 9223372036854775807 ∧ ∀ a ∈ l, p a := by
  obtain ⟨l, h1, h2, h3, _⟩ := k1o0 f p hu h.h (fun x y hh => tp x y ⟨hh⟩)
  subst hs
  exact ⟨l, h1, h2, h3⟩
theorem mk_agg {e : TypeId} {ds cs : List D} (ha : isAggT P e = true) (h : ds = (D.agg cs).cells) : mkD P e ds = .agg cs := by subst h; unfold mkD; rw [ha]; rfl
theorem mk_one {e : TypeId} {ds : List D} {x : D} (ha : isAggT P e = false) (h : ds = [x]) : mkD P e ds = x := by subst h; unfold mkD; rw [ha]; rfl
theorem k1jh {r : Reach} {base : Nat} {t : TypeId} {v : Value} {d : DataW H} {ps : List MemPlace} {h : Hp} {nx : Nat} (hT : dataT P k t = true) (hval : Value.okWide P W r base t v)
    (hd : DataW.Trod enc P W 0 (fun _ => true) true t v d ps) : ∃ ds, RelH P k t ds d ∧ RepV (G0 W) W h nx v (vOf P t ds) := by
  obtain ⟨ds, h1, h2⟩ := arg_rep hT hval hd
  exact ⟨ds, ⟨h1⟩, h2⟩
end
end Go.Bv
namespace Go.Proofs.Ytnmakgfmimagmaa
open Go Go.Bv Go.Cv Go.Md Go.RowKit Go.ChangeShapes Go.WideShapes
theorem wf_u8 {i : Int} (h : (Lit.int .u8 i).wf = true) : 0 ≤ i ∧ i < 256 := by
  simp only [Lit.wf, IntKind.min, IntKind.max, IntKind.signed, IntKind.bits, Bool.and_eq_true] at h
  simp at h
  omega
theorem wf_u64 {i : Int} (h : (Lit.int .u64 i).wf = true) : 0 ≤ i ∧ i < 18446744073709551616 := by
  simp only [Lit.wf, IntKind.min, IntKind.max, IntKind.signed, IntKind.bits, Bool.and_eq_true] at h
  simp at h
  omega
theorem wf_i64 {i : Int} (h : (Lit.int .i64 i).wf = true) : (-9223372036854775808) ≤ i ∧ i < 9223372036854775808 := by
  simp only [Lit.wf, IntKind.min, IntKind.max, IntKind.signed, IntKind.bits, Bool.and_eq_true] at h
  simp at h
  omega
structure k1af (x : TOut) : Prop where
  Commit : (0 ≤ x.Commit ∧ x.Commit < 18446744073709551616)
  Point_a0 : (0 ≤ x.Point_a0 ∧ x.Point_a0 < 18446744073709551616)
  Point_a1 : (0 ≤ x.Point_a1 ∧ x.Point_a1 < 18446744073709551616)
  Cipher : (x.Cipher.length ≤ 9223372036854775807 ∧ ∀ y ∈ x.Cipher, (0 ≤ y ∧ y < 18446744073709551616))
structure k12o (x : TTx) : Prop where
  Anchor : (0 ≤ x.Anchor ∧ x.Anchor < 18446744073709551616)
  Marks : (x.Marks.length ≤ 9223372036854775807 ∧ ∀ y ∈ x.Marks, (0 ≤ y ∧ y < 18446744073709551616))
  Outs : (x.Outs.length ≤ 9223372036854775807 ∧ ∀ y ∈ x.Outs, k1af y)
  Deposit : (0 ≤ x.Deposit ∧ x.Deposit < 18446744073709551616)
  Withdraw : (0 ≤ x.Withdraw ∧ x.Withdraw < 18446744073709551616)
  Fee : (0 ≤ x.Fee ∧ x.Fee < 18446744073709551616)
  Account : (0 ≤ x.Account ∧ x.Account < 18446744073709551616)
  Nonce : (0 ≤ x.Nonce ∧ x.Nonce < 18446744073709551616)
  Expiry : ((-9223372036854775808) ≤ x.Expiry ∧ x.Expiry < 9223372036854775808)
  Proof : (x.Proof.length ≤ 9223372036854775807 ∧ ∀ y ∈ x.Proof, (0 ≤ y ∧ y < 256))
structure kj6 (x : TBlock) : Prop where
  Parent : (0 ≤ x.Parent ∧ x.Parent < 18446744073709551616)
  Height : ((-9223372036854775808) ≤ x.Height ∧ x.Height < 9223372036854775808)
  Miner : (0 ≤ x.Miner ∧ x.Miner < 18446744073709551616)
  Work : (0 ≤ x.Work ∧ x.Work < 18446744073709551616)
  Nonce : (0 ≤ x.Nonce ∧ x.Nonce < 18446744073709551616)
  Txs : (x.Txs.length ≤ 9223372036854775807 ∧ ∀ y ∈ x.Txs, k12o y)
theorem op22 {H : Type} {k : Nat} {ds : List D} {d : DataW H} (h : RelH Try.prog (k + 1) 22 ds d) : ∃ x : Int, ds = [D.int .u64 x] ∧ (0 ≤ x ∧ x < 18446744073709551616) := by
  obtain ⟨i, rfl, _, w⟩ := k179 (q := .u64) (show Try.prog.underlying 22 = some (.int .u64) by kernel_rfl) h
  exact ⟨i, rfl, wf_u64 w⟩
theorem op3 {H : Type} {k : Nat} {ds : List D} {d : DataW H} (h : RelH Try.prog (k + 1) 3 ds d) : ∃ x : Int, ds = [D.int .i64 x] ∧ ((-9223372036854775808) ≤ x ∧ x < 9223372036854775808) := by
  obtain ⟨i, rfl, _, w⟩ := k179 (q := .i64) (show Try.prog.underlying 3 = some (.int .i64) by kernel_rfl) h
  exact ⟨i, rfl, wf_i64 w⟩
theorem op30 {H : Type} {k : Nat} {ds : List D} {d : DataW H} (h : RelH Try.prog (k + 2) 30 ds d) : ∃ x : List Int, ds = [D.slice 1 (x.map (D.int .u64))] ∧ (x.length ≤ 9223372036854775807 ∧ ∀ y ∈ x, (0 ≤ y ∧ y < 18446744073709551616)) := by
  obtain ⟨l, rfl, hm, hl⟩ := kpc (D.int .u64) (fun y => (0 ≤ y ∧ y < 18446744073709551616)) 1 (show Try.prog.underlying 30 = some (.slice 22) by kernel_rfl) (by kernel_rfl) h (fun x y hh => by
    obtain ⟨a, e, ha⟩ := op22 (k := k + 0) hh
    exact ⟨a, mk_one (by kernel_rfl) e, ha⟩)
  exact ⟨l, rfl, ⟨hm, hl⟩⟩
structure k1q8 (x : TA2) : Prop where
  a0 : (0 ≤ x.a0 ∧ x.a0 < 18446744073709551616)
  a1 : (0 ≤ x.a1 ∧ x.a1 < 18446744073709551616)
theorem op58 {H : Type} {k : Nat} {ds : List D} {d : DataW H} (h : RelH Try.prog (k + 2) 58 ds d) : ∃ x : TA2, ds = (encTA2 x).cells ∧ k1q8 x := by
  obtain ⟨ps, rfl, h1⟩ := k1nj (n := 2) (e := 22) (L := [(22, 0), (22, 1)]) (show Try.prog.underlying 58 = some (.array 2 22) by kernel_rfl) (by kernel_rfl) h
  obtain ⟨_, _, _, _, g0, ⟨_, _, _, _, g1, ⟨rfl, rfl⟩, rfl, rfl⟩, rfl, rfl⟩ := h1
  obtain ⟨a0, rfl, r0⟩ := op22 (k := k + 0) g0
  obtain ⟨a1, rfl, r1⟩ := op22 (k := k + 0) g1
  exact ⟨⟨a0, a1⟩, rfl, ⟨r0, r1⟩⟩
theorem op60 {H : Type} {k : Nat} {ds : List D} {d : DataW H} (h : RelH Try.prog (k + 3) 60 ds d) : ∃ x : TOut, ds = (encTOut x).cells ∧ k1af x := by
  obtain ⟨ps, rfl, h1⟩ := kti (L := [(22, 0), (58, 1), (30, 3)]) (Try.underlying60) (by kernel_rfl) h
  obtain ⟨_, _, _, _, g0, ⟨_, _, _, _, g1, ⟨_, _, _, _, g2, ⟨rfl, rfl⟩, rfl, rfl⟩, rfl, rfl⟩, rfl, rfl⟩ := h1
  obtain ⟨a0, rfl, r0⟩ := op22 (k := k + 1) g0
  obtain ⟨a1, rfl, r1⟩ := op58 (k := k + 0) g1
  obtain ⟨a2, rfl, r2⟩ := op30 (k := k + 0) g2
  exact ⟨⟨a0, a1.a0, a1.a1, a2⟩, rfl, ⟨r0, r1.a0, r1.a1, r2⟩⟩
theorem op31 {H : Type} {k : Nat} {ds : List D} {d : DataW H} (h : RelH Try.prog (k + 4) 31 ds d) : ∃ x : List TOut, ds = [D.slice 4 (x.map encTOut)] ∧ (x.length ≤ 9223372036854775807 ∧ ∀ y ∈ x, k1af y) := by
  obtain ⟨l, rfl, hm, hl⟩ := kpc encTOut (fun y => k1af y) 4 (show Try.prog.underlying 31 = some (.slice 60) by kernel_rfl) (by kernel_rfl) h (fun x y hh => by
    obtain ⟨a, e, ha⟩ := op60 (k := k + 0) hh
    exact ⟨a, mk_agg (by kernel_rfl) e, ha⟩)
  exact ⟨l, rfl, ⟨hm, hl⟩⟩
theorem op5 {H : Type} {k : Nat} {ds : List D} {d : DataW H} (h : RelH Try.prog (k + 1) 5 ds d) : ∃ x : Int, ds = [D.int .u8 x] ∧ (0 ≤ x ∧ x < 256) := by
  obtain ⟨i, rfl, _, w⟩ := k179 (q := .u8) (show Try.prog.underlying 5 = some (.int .u8) by kernel_rfl) h
  exact ⟨i, rfl, wf_u8 w⟩
theorem op32 {H : Type} {k : Nat} {ds : List D} {d : DataW H} (h : RelH Try.prog (k + 2) 32 ds d) : ∃ x : List Int, ds = [D.slice 1 (x.map (D.int .u8))] ∧ (x.length ≤ 9223372036854775807 ∧ ∀ y ∈ x, (0 ≤ y ∧ y < 256)) := by
  obtain ⟨l, rfl, hm, hl⟩ := kpc (D.int .u8) (fun y => (0 ≤ y ∧ y < 256)) 1 (show Try.prog.underlying 32 = some (.slice 5) by kernel_rfl) (by kernel_rfl) h (fun x y hh => by
    obtain ⟨a, e, ha⟩ := op5 (k := k + 0) hh
    exact ⟨a, mk_one (by kernel_rfl) e, ha⟩)
  exact ⟨l, rfl, ⟨hm, hl⟩⟩
theorem op34 {H : Type} {k : Nat} {ds : List D} {d : DataW H} (h : RelH Try.prog (k + 5) 34 ds d) : ∃ x : TTx, ds = (encTTx x).cells ∧ k12o x := by
  obtain ⟨ps, rfl, h1⟩ := kti (L := [(22, 0), (30, 1), (31, 2), (22, 3), (22, 4), (22, 5), (22, 6), (22, 7), (3, 8), (32, 9)]) (Try.underlying34) (by kernel_rfl) h
  obtain ⟨_, _, _, _, g0, ⟨_, _, _, _, g1, ⟨_, _, _, _, g2, ⟨_, _, _, _, g3, ⟨_, _, _, _, g4, ⟨_, _, _, _, g5, ⟨_, _, _, _, g6, ⟨_, _, _, _, g7, ⟨_, _, _, _, g8, ⟨_, _, _, _, g9, ⟨rfl, rfl⟩, rfl, rfl⟩, rfl, rfl⟩, rfl, rfl⟩, rfl, rfl⟩, rfl, rfl⟩, rfl, rfl⟩, rfl, rfl⟩, rfl, rfl⟩, rfl, rfl⟩, rfl, rfl⟩ := h1
  obtain ⟨a0, rfl, r0⟩ := op22 (k := k + 3) g0
  obtain ⟨a1, rfl, r1⟩ := op30 (k := k + 2) g1
  obtain ⟨a2, rfl, r2⟩ := op31 (k := k + 0) g2
  obtain ⟨a3, rfl, r3⟩ := op22 (k := k + 3) g3
  obtain ⟨a4, rfl, r4⟩ := op22 (k := k + 3) g4
  obtain ⟨a5, rfl, r5⟩ := op22 (k := k + 3) g5
  obtain ⟨a6, rfl, r6⟩ := op22 (k := k + 3) g6
  obtain ⟨a7, rfl, r7⟩ := op22 (k := k + 3) g7
  obtain ⟨a8, rfl, r8⟩ := op3 (k := k + 3) g8
  obtain ⟨a9, rfl, r9⟩ := op32 (k := k + 2) g9
  exact ⟨⟨a0, a1, a2, a3, a4, a5, a6, a7, a8, a9⟩, rfl, ⟨r0, r1, r2, r3, r4, r5, r6, r7, r8, r9⟩⟩
theorem op23 {H : Type} {k : Nat} {ds : List D} {d : DataW H} (h : RelH Try.prog (k + 6) 23 ds d) : ∃ x : List TTx, ds = [D.slice 10 (x.map encTTx)] ∧ (x.length ≤ 9223372036854775807 ∧ ∀ y ∈ x, k12o y) := by
  obtain ⟨l, rfl, hm, hl⟩ := kpc encTTx (fun y => k12o y) 10 (show Try.prog.underlying 23 = some (.slice 34) by kernel_rfl) (by kernel_rfl) h (fun x y hh => by
    obtain ⟨a, e, ha⟩ := op34 (k := k + 0) hh
    exact ⟨a, mk_agg (by kernel_rfl) e, ha⟩)
  exact ⟨l, rfl, ⟨hm, hl⟩⟩
theorem op25 {H : Type} {k : Nat} {ds : List D} {d : DataW H} (h : RelH Try.prog (k + 7) 25 ds d) : ∃ x : TBlock, ds = (encTBlock x).cells ∧ kj6 x := by
  obtain ⟨ps, rfl, h1⟩ := kti (L := [(22, 0), (3, 1), (22, 2), (22, 3), (22, 4), (23, 5)]) (Try.underlying25) (by kernel_rfl) h
  obtain ⟨_, _, _, _, g0, ⟨_, _, _, _, g1, ⟨_, _, _, _, g2, ⟨_, _, _, _, g3, ⟨_, _, _, _, g4, ⟨_, _, _, _, g5, ⟨rfl, rfl⟩, rfl, rfl⟩, rfl, rfl⟩, rfl, rfl⟩, rfl, rfl⟩, rfl, rfl⟩, rfl, rfl⟩ := h1
  obtain ⟨a0, rfl, r0⟩ := op22 (k := k + 5) g0
  obtain ⟨a1, rfl, r1⟩ := op3 (k := k + 5) g1
  obtain ⟨a2, rfl, r2⟩ := op22 (k := k + 5) g2
  obtain ⟨a3, rfl, r3⟩ := op22 (k := k + 5) g3
  obtain ⟨a4, rfl, r4⟩ := op22 (k := k + 5) g4
  obtain ⟨a5, rfl, r5⟩ := op23 (k := k + 0) g5
  exact ⟨⟨a0, a1, a2, a3, a4, a5⟩, rfl, ⟨r0, r1, r2, r3, r4, r5⟩⟩
theorem dt25 : dataT Try.prog 7 25 = true := by kernel_rfl
theorem dt32 : dataT Try.prog 2 32 = true := by kernel_rfl
theorem own : ownKnob Try.prog.godebug = none := by kernel_rfl
theorem laid : laidOutB Try.prog = true := by kernel_rfl
end Go.Proofs.Ytnmakgfmimagmaa
namespace Go.Md
open Go Go.Bv
theorem u64w (n : Int) : IntKind.u64.wrap n = n % 18446744073709551616 := IntKind.wrap_u64 n
theorem u8w (n : Int) : IntKind.u8.wrap n = n % 256 := IntKind.wrap_u8 n
theorem klq (k : IntKind) (a b : Int) : ishr k a b = a / ((2 ^ min b.toNat k.bits : Nat) : Int) := by
  unfold ishr
  rw [show (2 : Int) ^ min b.toNat k.bits = ((2 ^ min b.toNat k.bits : Nat) : Int) from (Int.natCast_pow 2 _).symm, Int.fdiv_eq_ediv_of_nonneg _ (Int.natCast_nonneg _)]
theorem k1ik (a b : Int) : ishl .u64 a b = (a * ((2 ^ min b.toNat 64 : Nat) : Int)) % 18446744073709551616 := by
  unfold ishl
  rw [u64w, show (2 : Int) ^ min b.toNat IntKind.u64.bits = ((2 ^ min b.toNat 64 : Nat) : Int) by rw [show IntKind.u64.bits = 64 from rfl]; exact (Int.natCast_pow 2 _).symm]
theorem kro (n : Nat) (h : n < 18446744073709551616) : (BitVec.ofInt 64 (n : Int)).toNat = n := by
  rw [BitVec.toNat_ofInt]
  omega
theorem k1jo (a b : Nat) (ha : a < 18446744073709551616) (hb : b < 18446744073709551616) : iand .u64 a b = ((a &&& b : Nat) : Int) := by
  unfold iand
  rw [u64w]
  show (((BitVec.ofInt 64 a &&& BitVec.ofInt 64 b).toNat : Nat) : Int) % _ = _
  rw [BitVec.toNat_and, kro a ha, kro b hb]
  have := Nat.and_le_left (n := a) (m := b)
  omega
theorem ior_nat (a b : Nat) (ha : a < 18446744073709551616) (hb : b < 18446744073709551616) : ior .u64 a b = ((a ||| b : Nat) : Int) := by
  unfold ior
  rw [u64w]
  show (((BitVec.ofInt 64 a ||| BitVec.ofInt 64 b).toNat : Nat) : Int) % _ = _
  rw [BitVec.toNat_or, kro a ha, kro b hb]
  have := Nat.or_lt_two_pow (x := a) (y := b) (n := 64) (by omega) (by omega)
  omega
theorem kie (a : Int) (h : 0 ≤ a ∧ a < 18446744073709551616) : iand .u64 a 4294967295 = a % 4294967296 := by
  obtain ⟨n, rfl⟩ := Int.eq_ofNat_of_zero_le h.1
  have := k1jo n 4294967295 (by omega) (by omega)
  rw [show ((4294967295 : Nat) : Int) = 4294967295 from rfl] at this
  rw [this, show (4294967295 : Nat) = 2 ^ 32 - 1 from rfl, Nat.and_two_pow_sub_one_eq_mod]
  exact Int.natCast_emod _ _
theorem k1p5 (a : Int) (h : 0 ≤ a ∧ a < 18446744073709551616) : iand .u64 a 1 = a % 2 := by
  obtain ⟨n, rfl⟩ := Int.eq_ofNat_of_zero_le h.1
  have := k1jo n 1 (by omega) (by omega)
  rw [show ((1 : Nat) : Int) = 1 from rfl] at this
  rw [this, Nat.and_one_is_mod]
  exact Int.natCast_emod _ _
theorem ior_add (a c : Nat) (k : Nat) (ha : a < 2 ^ k) (h : a + 2 ^ k * c < 18446744073709551616) : ior .u64 a ((2 ^ k * c : Nat) : Int) = ((a + 2 ^ k * c : Nat) : Int) := by
  rw [ior_nat _ _ (by omega) (by omega), Nat.or_comm, ← Nat.two_pow_add_eq_or_of_lt ha, Nat.add_comm]
theorem ior_add' (a c : Nat) (k : Nat) (ha : a < 2 ^ k) (h : a + 2 ^ k * c < 18446744073709551616) : ior .u64 ((2 ^ k * c : Nat) : Int) a = ((a + 2 ^ k * c : Nat) : Int) := by
  rw [ior_nat _ _ (by omega) (by omega), ← Nat.two_pow_add_eq_or_of_lt ha, Nat.add_comm]
theorem ishr32 (a : Int) : ishr .u64 a 32 = a / 4294967296 := klq _ _ _
theorem ishr16 (a : Int) : ishr .u64 a 16 = a / 65536 := klq _ _ _
theorem ishr8 (a : Int) : ishr .u64 a 8 = a / 256 := klq _ _ _
theorem ishr1 (a : Int) : ishr .u64 a 1 = a / 2 := klq _ _ _
theorem k1p8 (a b : Int) (ha : 0 ≤ a ∧ a < 18446744073709551616) (hb : 0 ≤ b ∧ b < 18446744073709551616) :
    ((a / 4294967296 * (b / 4294967296) + ((a / 4294967296 * (b % 4294967296) + a % 4294967296 * (b % 4294967296) / 4294967296) / 4294967296)) + ((a / 4294967296 * (b % 4294967296) + a % 4294967296 * (b % 4294967296) / 4294967296) % 4294967296 + a % 4294967296 * (b / 4294967296)) / 4294967296) = a * b / 18446744073709551616 ∧
    a % 4294967296 * (b % 4294967296) < 18446744073709551616 ∧ a / 4294967296 * (b % 4294967296) + a % 4294967296 * (b % 4294967296) / 4294967296 < 18446744073709551616 ∧
    a % 4294967296 * (b / 4294967296) < 18446744073709551616 - 4294967296 ∧ a / 4294967296 * (b / 4294967296) < 18446744065119617026 ∧ 0 ≤ a % 4294967296 * (b % 4294967296) ∧ 0 ≤ a / 4294967296 * (b % 4294967296) ∧ 0 ≤ a % 4294967296 * (b / 4294967296) ∧ 0 ≤ a / 4294967296 * (b / 4294967296) := by
  have h1 : ∀ x y : Int, 0 ≤ x → x ≤ 4294967295 → 0 ≤ y → y ≤ 4294967295 → 0 ≤ x * y ∧ x * y ≤ 18446744065119617025 := by
    intro x y h0 h1 h2 h3
    exact ⟨Int.mul_nonneg h0 h2, by have := Int.mul_le_mul h1 h3 h2 (by omega); omega⟩
  have a1 := h1 (a % 4294967296) (b % 4294967296) (by omega) (by omega) (by omega) (by omega)
  have a2 := h1 (a / 4294967296) (b % 4294967296) (by omega) (by omega) (by omega) (by omega)
  have a3 := h1 (a % 4294967296) (b / 4294967296) (by omega) (by omega) (by omega) (by omega)
  have a4 := h1 (a / 4294967296) (b / 4294967296) (by omega) (by omega) (by omega) (by omega)
  have e : a * b = a / 4294967296 * (b / 4294967296) * 18446744073709551616 + (a / 4294967296 * (b % 4294967296) + a % 4294967296 * (b / 4294967296)) * 4294967296 + a % 4294967296 * (b % 4294967296) := by
    have ea : a = a / 4294967296 * 4294967296 + a % 4294967296 := by omega
    have eb : b = b / 4294967296 * 4294967296 + b % 4294967296 := by omega
    conv => lhs; rw [ea, eb]
    generalize a / 4294967296 = x
    generalize a % 4294967296 = y
    generalize b / 4294967296 = z
    generalize b % 4294967296 = t
    grind
  generalize a % 4294967296 * (b % 4294967296) = p0 at *
  generalize a / 4294967296 * (b % 4294967296) = p1 at *
  generalize a % 4294967296 * (b / 4294967296) = p2 at *
  generalize a / 4294967296 * (b / 4294967296) = p3 at *
  generalize a * b = ab at *
  refine ⟨?_, ?_, ?_, ?_, ?_, ?_, ?_, ?_, ?_⟩ <;> omega
structure Half (U x a b Q : Int) : Prop where
  hU : 0 ≤ U
  hUv : U < a * 4294967296 + b
  hx : 0 ≤ x ∧ x < 4294967296
  ha : 2147483648 ≤ a ∧ a < 4294967296
  hb : 0 ≤ b ∧ b < 4294967296
  hQ : Q = (U * 4294967296 + x) / (a * 4294967296 + b)
theorem Half.q {U x a b Q : Int} (h : Half U x a b Q) : 0 ≤ Q ∧ Q < 4294967296 ∧ Q * (a * 4294967296 + b) ≤ U * 4294967296 + x ∧ U * 4294967296 + x < (Q + 1) * (a * 4294967296 + b) := by
  obtain ⟨h1, h2, h3, h4, h5, h6⟩ := h
  have hv : 0 < a * 4294967296 + b := by omega
  have e := Int.emod_add_mul_ediv (U * 4294967296 + x) (a * 4294967296 + b)
  have l := Int.emod_nonneg (U * 4294967296 + x) (by omega : a * 4294967296 + b ≠ 0)
  have r := Int.emod_lt_of_pos (U * 4294967296 + x) hv
  rw [← h6] at e
  generalize hvv : a * 4294967296 + b = v at *
  have e2 : (Q + 1) * v = Q * v + v := by grind
  have e3 : v * Q = Q * v := by grind
  have q0 : 0 ≤ Q := by
    rw [h6]
    exact Int.ediv_nonneg (by omega) (by omega)
  have q1 : Q < 4294967296 := by
    rw [h6]
    exact Int.ediv_lt_of_lt_mul hv (by omega)
  refine ⟨q0, q1, by omega, by omega⟩
theorem Half.exit {U x a b Q q r : Int} (h : Half U x a b Q) (e : q * a + r = U) (hq : Q ≤ q) (h2 : q * b ≤ r * 4294967296 + x) : q = Q := by
  obtain ⟨q0, q1, q2, q3⟩ := h.q
  have h4 := h.ha
  have : q * (a * 4294967296 + b) ≤ U * 4294967296 + x := by
    have : q * (a * 4294967296 + b) = q * a * 4294967296 + q * b := by grind
    rw [this]
    generalize q * a = qa at *
    omega
  have h5 : q < Q + 1 := by
    have hv : 0 < a * 4294967296 + b := by have := h.hb; omega
    exact Int.lt_of_mul_lt_mul_right (by omega) (Int.le_of_lt hv)
  omega
theorem Half.down {U x a b Q q r : Int} (h : Half U x a b Q) (e : q * a + r = U) (h2 : 4294967296 ≤ q ∨ r * 4294967296 + x < q * b) : Q ≤ q - 1 := by
  obtain ⟨q0, q1, q2, q3⟩ := h.q
  rcases h2 with h2 | h2
  · omega
  · have : U * 4294967296 + x < q * (a * 4294967296 + b) := by
      have : q * (a * 4294967296 + b) = q * a * 4294967296 + q * b := by grind
      rw [this]
      generalize q * a = qa at *
      omega
    have h5 : Q < q := by
      have hv : 0 < a * 4294967296 + b := by have := h.hb; have := h.ha; omega
      exact Int.lt_of_mul_lt_mul_right (a := a * 4294967296 + b) (by omega) (Int.le_of_lt hv)
    omega
theorem Half.small {U x a b Q q r : Int} (h : Half U x a b Q) (e : q * a + r = U) (hr : 4294967296 ≤ r) : q < 4294967296 := by
  have h2 := h.hUv
  have h4 := h.ha
  have h5 := h.hb
  have : q * a < 4294967296 * a := by generalize q * a = qa at *; omega
  exact Int.lt_of_mul_lt_mul_right this (by omega)
theorem Half.done {U x a b Q q r : Int} (h : Half U x a b Q) (e : q * a + r = U) (hq : Q ≤ q) (hr : 4294967296 ≤ r) : q = Q := by
  refine h.exit e hq ?_
  have h1 := h.small e hr
  obtain ⟨q0, _⟩ := h.q
  have h5 := h.hb
  have h6 := h.hx
  have : q * b ≤ 4294967296 * 4294967296 := Int.mul_le_mul (by omega) (by omega) (by omega) (by omega)
  omega
theorem Half.rest {U x a b Q : Int} (h : Half U x a b Q) : (U * 4294967296 + x) - Q * (a * 4294967296 + b) = (U * 4294967296 + x) % (a * 4294967296 + b) ∧ 0 ≤ (U * 4294967296 + x) % (a * 4294967296 + b) ∧ (U * 4294967296 + x) % (a * 4294967296 + b) < a * 4294967296 + b := by
  have hv : 0 < a * 4294967296 + b := by have := h.hb; have := h.ha; omega
  have e := Int.emod_add_mul_ediv (U * 4294967296 + x) (a * 4294967296 + b)
  rw [← h.hQ] at e
  have := Int.mul_comm (a * 4294967296 + b) Q
  exact ⟨by omega, Int.emod_nonneg _ (by omega), Int.emod_lt_of_pos _ hv⟩
theorem k1nn {N y p U un1 un0 Q1 R1 Q0 R0 : Int} (hp : 0 < p) (hy : 0 < y) (hN : N * p = U * 18446744073709551616 + un1 * 4294967296 + un0) (h1 : U * 4294967296 + un1 - Q1 * (y * p) = R1) (h0 : R1 * 4294967296 + un0 - Q0 * (y * p) = R0)
    (hr : 0 ≤ R0 ∧ R0 < y * p) : Q1 * 4294967296 + Q0 = N / y ∧ R0 / p = N % y := by
  have e : N * p = (Q1 * 4294967296 + Q0) * (y * p) + R0 := by
    rw [hN]
    have : (Q1 * 4294967296 + Q0) * (y * p) = Q1 * (y * p) * 4294967296 + Q0 * (y * p) := by grind
    rw [this]
    generalize Q1 * (y * p) = a at *
    generalize Q0 * (y * p) = b at *
    omega
  have e2 : R0 = (N - (Q1 * 4294967296 + Q0) * y) * p := by grind
  have h3 : 0 ≤ N - (Q1 * 4294967296 + Q0) * y := by
    rcases Int.lt_or_le (N - (Q1 * 4294967296 + Q0) * y) 0 with h | h
    · exfalso
      have : (N - (Q1 * 4294967296 + Q0) * y) * p < 0 := Int.mul_neg_of_neg_of_pos h hp
      omega
    · exact h
  have h4 : N - (Q1 * 4294967296 + Q0) * y < y := by
    refine Int.lt_of_mul_lt_mul_right (a := p) ?_ (Int.le_of_lt hp)
    omega
  have e3 : N = (N - (Q1 * 4294967296 + Q0) * y) + y * (Q1 * 4294967296 + Q0) := by grind
  constructor
  · conv => rhs; rw [e3]
    rw [Int.add_mul_ediv_left _ _ (by omega), Int.ediv_eq_zero_of_lt h3 h4]
    omega
  · rw [e2, Int.mul_ediv_cancel _ (by omega)]
    conv => rhs; rw [e3]
    rw [Int.add_mul_emod_self_left, Int.emod_eq_of_lt h3 h4]
end Go.Md
namespace Go.Md
open Go Go.Bv
theorem ix_nat {α : Type} [Inhabited α] (l : List α) (i : Int) (h0 : 0 ≤ i) (h1 : i < (l.length : Int)) : ix l i = l[i.toNat]'(by omega) := by
  have : i.toNat < l.length := by omega
  simp [ix, this]
theorem ix_mem {α : Type} [Inhabited α] (l : List α) (i : Int) (h0 : 0 ≤ i) (h1 : i < (l.length : Int)) : ix l i ∈ l := by
  rw [ix_nat l i h0 h1]; exact List.getElem_mem _
theorem inc (i n : Int) (h0 : 0 ≤ i) (h : i < n) (hn : n ≤ 9223372036854775807) : IntKind.i64.wrap (i + 1) = i + 1 := k1j7 _ (by omega) (by omega)
theorem wi (n : Int) (h0 : -9223372036854775808 ≤ n) (h : n ≤ 9223372036854775807) : IntKind.i64.wrap n = n := k1j7 n h0 (by omega)
theorem wu (n : Int) (h0 : 0 ≤ n) (h : n ≤ 18446744073709551615) : IntKind.u64.wrap n = n := wrap_u64 n h0 (by omega)
theorem tdiv_nn (a b : Int) (h : 0 ≤ a) : Int.tdiv a b = a / b := Int.tdiv_eq_ediv_of_nonneg h
theorem tmod_nn (a b : Int) (h : 0 ≤ a) : Int.tmod a b = a % b := Int.tmod_eq_emod_of_nonneg h
theorem ka {α : Type} [Inhabited α] (l : List α) (i : Int) (h0 : 0 ≤ i) (h1 : i < (l.length : Int)) : l.take (i + 1).toNat = l.take i.toNat ++ [ix l i] := by
  rw [ix_nat l i h0 h1, show (i + 1).toNat = i.toNat + 1 by omega, List.take_succ_eq_append_getElem (by omega)]
theorem drop_ix {α : Type} [Inhabited α] (l : List α) (i : Int) (h0 : 0 ≤ i) (h1 : i < (l.length : Int)) : l.drop i.toNat = ix l i :: l.drop (i + 1).toNat := by
  rw [ix_nat l i h0 h1, show (i + 1).toNat = i.toNat + 1 by omega]
  exact List.drop_eq_getElem_cons (by omega)
theorem k14o {α : Type} (l m : List α) (h : l.length = m.length) : rowOver l m l.length = m := by
  simp [rowOver, h]
theorem k1lm (a m : Int) : ∀ k : Nat, (a % m) ^ k % m = a ^ k % m
  | 0 => by simp
  | k + 1 => by rw [Int.pow_succ, Int.pow_succ, Int.mul_emod, k1lm a m k, Int.emod_emod_of_dvd _ (Int.dvd_refl _), ← Int.mul_emod]
abbrev U64 (n : Int) : Prop := 0 ≤ n ∧ n < 18446744073709551616
abbrev By (l : List Int) : Prop := ∀ x ∈ l, 0 ≤ x ∧ x < 256
abbrev Us (l : List Int) : Prop := ∀ x ∈ l, 0 ≤ x ∧ x < 18446744073709551616
def dig : Nat → Int → List Int
  | 0, _ => []
  | k + 1, n => n % 256 :: dig k (n / 256)
def val : List Int → Int
  | [] => 0
  | x :: r => x + 256 * val r
@[simp] theorem k1i : ∀ (k : Nat) (n : Int), (dig k n).length = k
  | 0, _ => rfl
  | k + 1, n => by simp [dig, k1i k]
theorem khy (k : Nat) : (256 : Int) ^ (k + 1) = 256 * 256 ^ k := by rw [Int.pow_succ, Int.mul_comm]
theorem kdq (k : Nat) : (0 : Int) < 256 ^ k := Int.pow_pos (by omega)
theorem kvw : ∀ (k : Nat) (n : Int), dig (k + 1) n = dig k n ++ [n / 256 ^ k % 256]
  | 0, n => by simp [dig]
  | k + 1, n => by
    show n % 256 :: dig (k + 1) (n / 256) = n % 256 :: dig k (n / 256) ++ _
    rw [kvw k (n / 256), khy, Int.ediv_ediv_of_nonneg (by omega)]
    rfl
theorem dig_by : ∀ (k : Nat) (n : Int), By (dig k n)
  | 0, _ => by intro x hx; cases hx
  | k + 1, n => by
    intro x hx
    rcases List.mem_cons.1 hx with rfl | hx
    · omega
    · exact dig_by k _ x hx
theorem val_dig : ∀ (k : Nat) (n : Int), 0 ≤ n → n < 256 ^ k → val (dig k n) = n
  | 0, n, h0, h => by simp at h; simp [dig, val]; omega
  | k + 1, n, h0, h => by
    rw [khy] at h
    simp only [dig, val]
    rw [val_dig k (n / 256) (by omega) (Int.ediv_lt_of_lt_mul (by omega) (by rw [Int.mul_comm]; exact h))]
    omega
theorem kn8 (k : Nat) : (256 : Int) ^ k = ((2 ^ (8 * k) : Nat) : Int) := by rw [Nat.pow_mul, Int.natCast_pow]; rfl
theorem kjt {k m : Nat} (h : k ≤ m) : (256 : Int) ^ k ≤ 256 ^ m := by
  rw [kn8, kn8]
  exact Int.ofNat_le.2 (Nat.pow_le_pow_right (by omega) (by omega))
theorem kb5 : ∀ (l : List Int), By l → 0 ≤ val l ∧ val l < 256 ^ l.length
  | [], _ => by simp [val]
  | x :: r, h => by
    have h1 := kb5 r (fun y hy => h y (by simp [hy]))
    have h2 := h x (by simp)
    rw [List.length_cons, khy]
    simp only [val]
    omega
theorem dig_val : ∀ (l : List Int), By l → dig l.length (val l) = l
  | [], _ => rfl
  | x :: r, h => by
    have h1 := dig_val r (fun y hy => h y (by simp [hy]))
    have h2 := h x (by simp)
    simp only [List.length_cons, dig, val]
    rw [show (x + 256 * val r) % 256 = x by omega, show (x + 256 * val r) / 256 = val r by omega, h1]
theorem k1k0 : ∀ (l : List Int) (x : Int), val (l ++ [x]) = val l + 256 ^ l.length * x
  | [], x => by simp [val]
  | y :: r, x => by
    simp only [List.cons_append, val, k1k0 r x, List.length_cons, khy]
    grind
theorem dig_inj {k : Nat} {a b : Int} (ha : 0 ≤ a ∧ a < 256 ^ k) (hb : 0 ≤ b ∧ b < 256 ^ k) (h : dig k a = dig k b) : a = b := by
  rw [← val_dig k a ha.1 ha.2, h, val_dig k b hb.1 hb.2]
theorem val8 (l : List Int) (h : By l) (hl : l.length ≤ 8) : U64 (val l) := by
  have h1 := kb5 l h
  have : (256 : Int) ^ l.length ≤ 256 ^ 8 := kjt hl
  exact ⟨h1.1, by omega⟩
theorem ior_val (l : List Int) (x : Int) (hl : By l) (h8 : l.length < 8) (hx : 0 ≤ x ∧ x < 256) : ior .u64 (val l) (ishl .u64 x (8 * (l.length : Int))) = val (l ++ [x]) := by
  have h1 := kb5 l hl
  rw [k1k0, k1ik, show min (8 * (l.length : Int)).toNat 64 = 8 * l.length by omega, ← kn8]
  have h2 : x * 256 ^ l.length + 256 ^ l.length ≤ 256 * 256 ^ l.length := by
    have := kdq l.length
    have : (x + 1) * 256 ^ l.length ≤ 256 * 256 ^ l.length := Int.mul_le_mul_of_nonneg_right (by omega) (by omega)
    grind
  have h3 : (256 : Int) * 256 ^ l.length ≤ 256 ^ 8 := by rw [← khy]; exact kjt (by omega)
  have h4 : 0 ≤ x * 256 ^ l.length := Int.mul_nonneg hx.1 (Int.le_of_lt (kdq _))
  rw [Int.emod_eq_of_lt h4 (by omega)]
  obtain ⟨a, ha⟩ := Int.eq_ofNat_of_zero_le h1.1
  obtain ⟨c, hc⟩ := Int.eq_ofNat_of_zero_le hx.1
  have key := ior_add a c (8 * l.length)
  rw [kn8] at h1 h2 h3 h4 ⊢
  generalize 2 ^ (8 * l.length) = P at *
  rw [ha] at h1
  rw [hc] at h2 h4
  have e : (c : Int) * (P : Int) = ((P * c : Nat) : Int) := by rw [Nat.mul_comm]; exact (Int.natCast_mul _ _).symm
  have e' : (P : Int) * (c : Int) = ((P * c : Nat) : Int) := (Int.natCast_mul _ _).symm
  rw [e] at h2 h4
  rw [ha, hc, e, e']
  generalize P * c = R at *
  rw [key (by omega) (by omega)]
  exact Int.natCast_add _ _
def len4 (n : Int) : Int := if n < 0 ∨ 4294967295 < n then 0 else n
theorem len4_in {n : Int} (h : 0 ≤ n ∧ n ≤ 4294967295) : len4 n = n := if_neg (by omega)
theorem len4_bd (n : Int) : 0 ≤ len4 n ∧ len4 n < 4294967296 := by unfold len4; split <;> omega
def encL (l : List Int) : List Int := dig 4 (len4 l.length) ++ l.flatMap (dig 8)
def encB (l : List Int) : List Int := dig 4 (len4 l.length) ++ l
theorem k87 (l : List Int) : (l.flatMap (dig 8)).length = 8 * l.length := by
  induction l with
  | nil => rfl
  | cons x r ih => rw [List.flatMap_cons, List.length_append, ih, k1i, List.length_cons]; omega
@[simp] theorem k9e (l : List Int) : (encL l).length = 4 + 8 * l.length := by rw [encL, List.length_append, k87, k1i]
@[simp] theorem keq (l : List Int) : (encB l).length = 4 + l.length := by simp [encB]
theorem By.append {a b : List Int} (ha : By a) (hb : By b) : By (a ++ b) := fun x hx => (List.mem_append.1 hx).elim (ha x) (hb x)
theorem k1m7 (l : List Int) : By (l.flatMap (dig 8)) := fun x hx => by
  obtain ⟨y, _, hy⟩ := List.mem_flatMap.1 hx
  exact dig_by 8 y x hy
theorem encL_by (l : List Int) : By (encL l) := (dig_by _ _).append (k1m7 l)
theorem encB_by {l : List Int} (h : By l) : By (encB l) := (dig_by _ _).append h
theorem By.take {l : List Int} (h : By l) (n : Nat) : By (l.take n) := fun x hx => h x (List.mem_of_mem_take hx)
theorem By.drop {l : List Int} (h : By l) (n : Nat) : By (l.drop n) := fun x hx => h x (List.mem_of_mem_drop hx)
theorem By.us {l : List Int} (h : By l) : Us l := fun x hx => by have := h x hx; omega
def packN : Nat → List Int → List Int
  | 0, _ => []
  | n + 1, l => match l with
    | [] => []
    | x :: r => val ((x :: r).take 7) :: packN n ((x :: r).drop 7)
def packS (l : List Int) : List Int := (l.length : Int) :: packN l.length l
theorem k182 : ∀ (n m : Nat) (l : List Int), l.length ≤ n → l.length ≤ m → packN n l = packN m l
  | 0, 0, _, _, _ => rfl
  | 0, m + 1, [], _, _ => rfl
  | n + 1, 0, [], _, _ => rfl
  | n + 1, m + 1, [], _, _ => rfl
  | 0, _, _ :: _, h, _ => by simp at h
  | n + 1, 0, _ :: _, _, h => by simp at h
  | n + 1, m + 1, x :: r, h, h' => by
    simp only [packN]
    rw [k182 n m _ (by simp at h ⊢; omega) (by simp at h' ⊢; omega)]
theorem k1nr (n : Nat) (l : List Int) (h : l.length ≤ n) (h0 : l ≠ []) : packN n l = val (l.take 7) :: packN n (l.drop 7) := by
  cases l with
  | nil => exact absurd rfl h0
  | cons x r =>
    cases n with
    | zero => simp at h
    | succ n =>
      show val ((x :: r).take 7) :: packN n ((x :: r).drop 7) = _
      rw [k182 n (n + 1) _ (by simp at h ⊢; omega) (by simp at h ⊢; omega)]
theorem k1lx : ∀ (n : Nat) (l : List Int), By l → Us (packN n l)
  | 0, _, _ => by intro x hx; cases hx
  | n + 1, [], _ => by intro x hx; cases hx
  | n + 1, x :: r, h => by
    intro y hy
    rcases List.mem_cons.1 hy with rfl | hy
    · exact val8 _ (h.take 7) (by simp; omega)
    · exact k1lx n _ (h.drop 7) y hy
theorem k12l : ∀ (n : Nat) (l : List Int), (packN n l).length ≤ n
  | 0, _ => by simp [packN]
  | n + 1, [] => by simp [packN]
  | n + 1, x :: r => by simp only [packN, List.length_cons]; have := k12l n ((x :: r).drop 7); omega
theorem ba_loop (b : ByteArray) : ∀ (k i : Nat) (r : List UInt8), b.size - i = k → i ≤ b.size → ByteArray.toList.loop b i r = r.reverse ++ b.data.toList.drop i
  | 0, i, r, h, hi => by
    unfold ByteArray.toList.loop
    have hs : b.data.toList.length = b.size := by rw [Array.length_toList]; rfl
    rw [if_neg (by omega), List.drop_eq_nil_of_le (by omega), List.append_nil]
  | k + 1, i, r, h, hi => by
    unfold ByteArray.toList.loop
    have hs : b.data.toList.length = b.size := by rw [Array.length_toList]; rfl
    rw [if_pos (by omega), ba_loop b k (i + 1) _ (by omega) (by omega), List.reverse_cons, List.append_assoc, List.drop_eq_getElem_cons (l := b.data.toList) (i := i) (by omega)]
    have e : b.get! i = b.data.toList[i]'(by omega) := by
      show b.data[i]! = _
      rw [getElem!_pos b.data i (show i < b.size by omega)]
      exact (Array.getElem_toList _).symm
    rw [e]; rfl
theorem k1en (b : ByteArray) : b.toList = b.data.toList := by
  have := ba_loop b _ 0 [] rfl (by omega)
  simpa [ByteArray.toList] using this
theorem k1dz : ∀ {l m : List Int}, By l → By m → (l.map fun n => UInt8.ofNat n.toNat) = (m.map fun n => UInt8.ofNat n.toNat) → l = m
  | [], [], _, _, _ => rfl
  | [], _ :: _, _, _, h => by cases h
  | _ :: _, [], _, _, h => by cases h
  | x :: l, y :: m, hl, hm, h => by
    rw [List.map_cons, List.map_cons, List.cons.injEq] at h
    have e := k1dz (fun z hz => hl z (by simp [hz])) (fun z hz => hm z (by simp [hz])) h.2
    have h1 := hl x (by simp)
    have h2 := hm y (by simp)
    have h3 := congrArg UInt8.toNat h.1
    simp only [UInt8.toNat_ofNat'] at h3
    rw [e, show x = y by omega]
theorem strEq {l m : List Int} (hl : By l) (hm : By m) : ((strOfNums l).toList == (strOfNums m).toList) = decide (l = m) := by
  rw [k1en, k1en, strOfNums_data, strOfNums_data]
  by_cases e : l = m
  · subst e; simp
  · rw [decide_eq_false e]
    rw [beq_eq_false_iff_ne]
    exact fun h => e (k1dz hl hm h)
end Go.Md
namespace Go.Md
open Go Go.Bv
def len64 (x : Int) : Int := if x = 0 then 0 else (Nat.log2 x.toNat + 1 : Nat)
theorem ksw (x : Int) (k : Nat) (h : ((2 ^ k : Nat) : Int) ≤ x) : len64 (x / ((2 ^ k : Nat) : Int)) + k = len64 x := by
  obtain ⟨n, rfl⟩ := Int.eq_ofNat_of_zero_le (by have := Nat.two_pow_pos k; omega : 0 ≤ x)
  have hp : 0 < 2 ^ k := Nat.two_pow_pos k
  have hn : 2 ^ k ≤ n := by omega
  have e : ((n : Int) / ((2 ^ k : Nat) : Int)) = ((n / 2 ^ k : Nat) : Int) := (Int.natCast_ediv _ _).symm
  have h1 : 0 < n / 2 ^ k := Nat.div_pos hn hp
  unfold len64
  rw [e, if_neg (by omega), if_neg (by omega), Int.toNat_natCast, Int.toNat_natCast]
  have : Nat.log2 n = Nat.log2 (n / 2 ^ k) + k := by
    rw [Nat.log2_eq_iff (by omega)]
    have a := Nat.log2_self_le (n := n / 2 ^ k) (by omega)
    have b := Nat.lt_log2_self (n := n / 2 ^ k)
    rw [Nat.le_div_iff_mul_le hp] at a
    rw [Nat.div_lt_iff_lt_mul hp] at b
    constructor
    · rw [Nat.pow_add]; exact a
    · rw [show Nat.log2 (n / 2 ^ k) + k + 1 = Nat.log2 (n / 2 ^ k) + 1 + k by omega, Nat.pow_add]; exact b
  omega
theorem k1ah (y : Int) (h : 0 < y ∧ y < 18446744073709551616) : ∃ s : Nat, 64 - len64 y = (s : Int) ∧ s ≤ 63 ∧ 9223372036854775808 ≤ y * ((2 ^ s : Nat) : Int) ∧ y * ((2 ^ s : Nat) : Int) < 18446744073709551616 := by
  obtain ⟨n, rfl⟩ := Int.eq_ofNat_of_zero_le (by omega : 0 ≤ y)
  have l : Nat.log2 n < 64 := (Nat.log2_lt (by omega)).2 (by omega)
  have a := Nat.log2_self_le (n := n) (by omega)
  have b := Nat.lt_log2_self (n := n)
  refine ⟨63 - Nat.log2 n, ?_, by omega, ?_, ?_⟩
  · unfold len64
    rw [if_neg (by omega), Int.toNat_natCast]
    omega
  · have : 2 ^ 63 ≤ n * 2 ^ (63 - Nat.log2 n) := by
      rw [show (63 : Nat) = Nat.log2 n + (63 - Nat.log2 n) by omega, Nat.pow_add, show Nat.log2 n + (63 - Nat.log2 n) - Nat.log2 n = 63 - Nat.log2 n by omega]
      exact Nat.mul_le_mul_right _ a
    rw [← Int.natCast_mul]
    generalize n * 2 ^ (63 - Nat.log2 n) = m at *
    omega
  · have : n * 2 ^ (63 - Nat.log2 n) < 2 ^ 64 := by
      rw [show (64 : Nat) = Nat.log2 n + 1 + (63 - Nat.log2 n) by omega, Nat.pow_add]
      exact Nat.mul_lt_mul_of_pos_right b (Nat.two_pow_pos _)
    rw [← Int.natCast_mul]
    generalize n * 2 ^ (63 - Nat.log2 n) = m at *
    omega
def tab8 : ByteArray := ⟨#[0, 1, 2, 2, 3, 3, 3, 3, 4, 4, 4, 4, 4, 4, 4, 4, 5, 5, 5, 5, 5, 5, 5, 5, 5, 5, 5, 5, 5, 5, 5, 5, 6, 6, 6, 6, 6, 6, 6, 6, 6, 6, 6, 6, 6, 6, 6, 6, 6, 6, 6, 6, 6, 6, 6, 6, 6, 6, 6, 6, 6, 6, 6, 6, 7, 7, 7, 7, 7, 7, 7, 7, 7, 7, 7, 7, 7, 7, 7, 7, 7, 7, 7, 7, 7, 7, 7, 7, 7, 7, 7, 7, 7, 7, 7, 7, 7, 7, 7, 7, 7, 7, 7, 7, 7, 7, 7, 7, 7, 7, 7, 7, 7, 7, 7, 7, 7, 7, 7, 7, 7, 7, 7, 7, 7, 7, 7, 7, 8, 8, 8, 8, 8, 8, 8, 8, 8, 8, 8, 8, 8, 8, 8, 8, 8, 8, 8, 8, 8, 8, 8, 8, 8, 8, 8, 8, 8, 8, 8, 8, 8, 8, 8, 8, 8, 8, 8, 8, 8, 8, 8, 8, 8, 8, 8, 8, 8, 8, 8, 8, 8, 8, 8, 8, 8, 8, 8, 8, 8, 8, 8, 8, 8, 8, 8, 8, 8, 8, 8, 8, 8, 8, 8, 8, 8, 8, 8, 8, 8, 8, 8, 8, 8, 8, 8, 8, 8, 8, 8, 8, 8, 8, 8, 8, 8, 8, 8, 8, 8, 8, 8, 8, 8, 8, 8, 8, 8, 8, 8, 8, 8, 8, 8, 8, 8, 8, 8, 8, 8, 8, 8, 8, 8, 8, 8, 8]⟩
theorem k1pc : ∀ b : Nat, b < 256 → Cv.byteAt tab8 (b : Int) = len64 (b : Int) := by decide +kernel
theorem k1l6 (x : Int) (h : 0 ≤ x ∧ x < 256) : Cv.byteAt tab8 x = len64 x := by
  obtain ⟨n, rfl⟩ := Int.eq_ofNat_of_zero_le h.1
  exact k1pc n (by omega)
theorem k1n8 (x : Int) (h : 0 ≤ x ∧ x < 256) : 0 ≤ len64 x ∧ len64 x ≤ 8 := by
  rw [← k1l6 x h]
  obtain ⟨n, rfl⟩ := Int.eq_ofNat_of_zero_le h.1
  have : ∀ b : Nat, b < 256 → 0 ≤ Cv.byteAt tab8 (b : Int) ∧ Cv.byteAt tab8 (b : Int) ≤ 8 := by decide +kernel
  exact this n (by omega)
theorem k1o7 : tab8.size = 256 := by decide +kernel
end Go.Md
namespace Go.Proofs.Ytnmakgfmimagmaa
open Go Go.Bv Go.Cv Go.Md Go.RowKit
def rc (r i : Int) : Int := (3 * r + i + 1) * 11400714819323198485 % 18446744073709551616 % 18446744069414584321
def mixS (s : TA3) : TA3 := ⟨(s.a0 + ((s.a0 + s.a1) % 18446744069414584321 + s.a2) % 18446744069414584321) % 18446744069414584321, (s.a1 + ((s.a0 + s.a1) % 18446744069414584321 + s.a2) % 18446744069414584321) % 18446744069414584321, (s.a2 + ((s.a0 + s.a1) % 18446744069414584321 + s.a2) % 18446744069414584321) % 18446744069414584321⟩
def pw (a e : Int) : Int := a ^ e.toNat % 18446744069414584321
def rnd (s : TA3) (r : Int) : TA3 := mixS ⟨pw ((s.a0 + rc r 0) % 18446744069414584321) 7, pw ((s.a1 + rc r 1) % 18446744069414584321) 7, pw ((s.a2 + rc r 2) % 18446744069414584321) 7⟩
def rnds : Nat → TA3 → TA3
  | 0, s => s
  | n + 1, s => rnd (rnds n s) n
def permS (s : TA3) : TA3 := rnds 8 s
def absL : List Int → TA3 → TA3
  | [], s => s
  | [x], s => permS ⟨(s.a0 + x) % 18446744069414584321, s.a1, s.a2⟩
  | x :: y :: r, s => absL r (permS ⟨(s.a0 + x) % 18446744069414584321, (s.a1 + y) % 18446744069414584321, s.a2⟩)
def absI (label : Int) (l : List Int) : TA3 := ⟨0, 0, (label * 65536 % 18446744069414584321 + (l.length : Int)) % 18446744069414584321⟩
def absS (label : Int) (l : List Int) : TA3 := if l = [] then permS (absI label l) else absL l (absI label l)
def hashS (label : Int) (l : List Int) : Int := (absS label l).a0
def hashB (label : Int) (b : List Int) : Int := hashS label (packS b)
def S3 (s : TA3) : Prop := U64 s.a0 ∧ U64 s.a1 ∧ U64 s.a2
theorem S3m {a b c : Int} (ha : U64 a) (hb : U64 b) (hc : U64 c) : S3 ⟨a, b, c⟩ := ⟨ha, hb, hc⟩
end Go.Proofs.Ytnmakgfmimagmaa
namespace Go.Proofs.Ytnmakgfmimagmaa
open Go Go.Bv Go.Cv Go.Md Go.RowKit
def idxI (l : List Int) (v : Int) : Int := if v ∈ l then (l.idxOf v : Int) else -1
def vMarks (l : List Int) : Bool := decide (l.length ≤ 4) && l.all (fun x => decide (x < 18446744069414584321)) && decide l.Nodup
def vPoint (a b : Int) : Bool := decide (a < 18446744069414584321) && (decide (b < 18446744069414584321) && (a != 0 || b != 0))
def vOut (x : TOut) : Bool := decide (x.Commit < 18446744069414584321) && vPoint x.Point_a0 x.Point_a1 && decide (x.Cipher.length = 3) && x.Cipher.all (fun n => decide (n < 18446744069414584321))
def vOuts (l : List TOut) : Bool := decide (l.length ≤ 4) && l.all vOut
def vAmounts (t : TTx) : Bool := decide (t.Deposit ≤ 4294967295) && decide (t.Withdraw ≤ 4294967295) && decide (t.Fee ≤ 4294967295) && decide (t.Account < 18446744069414584321) && decide (t.Nonce < 18446744069414584321) &&
  (if 0 < t.Deposit then t.Withdraw == 0 else !t.Marks.isEmpty && t.Nonce == 0 && (decide (0 < t.Withdraw) || t.Account == 0))
def vRest (t : TTx) : Bool := decide (t.Anchor < 18446744069414584321) && decide (0 ≤ t.Expiry) && decide (t.Expiry ≤ 1048576)
def validE (t : TTx) : Int := if vMarks t.Marks && vOuts t.Outs && vAmounts t && vRest t then (if t.Proof.length ≤ 1048576 then 0 else 3) else 1
theorem kdb (t : TTx) : vAmounts t = true ↔ t.Deposit ≤ 4294967295 ∧ t.Withdraw ≤ 4294967295 ∧ t.Fee ≤ 4294967295 ∧ t.Account < 18446744069414584321 ∧ t.Nonce < 18446744069414584321 ∧ (0 < t.Deposit → t.Withdraw = 0) ∧ (¬ 0 < t.Deposit → t.Marks ≠ [] ∧ t.Nonce = 0 ∧ (0 < t.Withdraw ∨ t.Account = 0)) := by
  unfold vAmounts
  by_cases h : 0 < t.Deposit
  · simp [h, and_assoc]
  · simp [h, and_assoc]
structure OR (x : TOut) : Prop where
  c : U64 x.Commit
  p0 : U64 x.Point_a0
  p1 : U64 x.Point_a1
  ci : Us x.Cipher
structure TR (t : TTx) : Prop where
  a : U64 t.Anchor
  m : Us t.Marks
  o : ∀ x ∈ t.Outs, OR x
  d : U64 t.Deposit
  w : U64 t.Withdraw
  f : U64 t.Fee
  ac : U64 t.Account
  n : U64 t.Nonce
  e : -9223372036854775808 ≤ t.Expiry ∧ t.Expiry ≤ 9223372036854775807
  p : By t.Proof
def encO (x : TOut) : List Int := dig 8 x.Commit ++ dig 8 x.Point_a0 ++ dig 8 x.Point_a1 ++ encL x.Cipher
def encT (t : TTx) (p : List Int) : List Int := dig 8 t.Anchor ++ encL t.Marks ++ dig 4 (len4 t.Outs.length) ++ t.Outs.flatMap encO ++ dig 8 t.Deposit ++ dig 8 t.Withdraw ++ dig 8 t.Fee ++ dig 8 t.Account ++ dig 8 t.Nonce ++ dig 4 (len4 t.Expiry) ++ encB p
def weightS (t : TTx) : Int := if validE t = 0 then (encT t t.Proof).length else 0
def idS (t : TTx) : Int := if validE t = 0 then hashB 14 (encT t t.Proof) else 0
def smallB (t : TTx) (p : Int) : Bool := decide (t.Marks.length ≤ 10) && decide (t.Outs.length ≤ 10) && t.Outs.all (fun x => decide (x.Cipher.length ≤ 10)) && decide ((t.Proof.length : Int) ≤ p)
structure TL (t : TTx) : Prop where
  m : t.Marks.length ≤ 4294967295
  o : t.Outs.length ≤ 4294967295
  c : ∀ x ∈ t.Outs, x.Cipher.length ≤ 4294967295
  p : t.Proof.length ≤ 4294967295
structure VO (x : TOut) : Prop where
  c : x.Commit < 18446744069414584321
  p : vPoint x.Point_a0 x.Point_a1 = true
  l : x.Cipher.length = 3
  ci : ∀ n ∈ x.Cipher, n < 18446744069414584321
theorem kwv (x : TOut) : vOut x = true ↔ VO x := by
  unfold vOut
  simp only [Bool.and_eq_true, decide_eq_true_eq, List.all_eq_true]
  exact ⟨fun h => ⟨h.1.1.1, h.1.1.2, h.1.2, h.2⟩, fun h => ⟨⟨⟨h.c, h.p⟩, h.l⟩, h.ci⟩⟩
structure VT (t : TTx) : Prop where
  ml : t.Marks.length ≤ 4
  m : ∀ x ∈ t.Marks, x < 18446744069414584321
  mn : t.Marks.Nodup
  ol : t.Outs.length ≤ 4
  o : ∀ x ∈ t.Outs, VO x
  am : vAmounts t = true
  re : vRest t = true
  pl : t.Proof.length ≤ 1048576
theorem k3t (t : TTx) : validE t = 0 ↔ VT t := by
  unfold validE
  constructor
  · intro h
    split at h
    · rename_i h1
      split at h
      · rename_i h2
        simp only [Bool.and_eq_true, vMarks, vOuts, decide_eq_true_eq, List.all_eq_true] at h1
        exact ⟨h1.1.1.1.1.1, h1.1.1.1.1.2, h1.1.1.1.2, h1.1.1.2.1, fun x hx => (kwv x).1 (h1.1.1.2.2 x hx), h1.1.2, h1.2, h2⟩
      · simp at h
    · simp at h
  · intro h
    have : (vMarks t.Marks && vOuts t.Outs && vAmounts t && vRest t) = true := by
      simp only [Bool.and_eq_true, vMarks, vOuts, decide_eq_true_eq, List.all_eq_true]
      exact ⟨⟨⟨⟨⟨h.ml, h.m⟩, h.mn⟩, h.ol, fun x hx => (kwv x).2 (h.o x hx)⟩, h.am⟩, h.re⟩
    rw [if_pos this, if_pos h.pl]
theorem VT.tl {t : TTx} (h : VT t) : TL t := ⟨by have := h.ml; omega, by have := h.ol; omega, fun x hx => by have := (h.o x hx).l; omega, by have := h.pl; omega⟩
theorem encO_by {x : TOut} : By (encO x) := ((((dig_by _ _).append (dig_by _ _)).append (dig_by _ _)).append (encL_by _))
theorem k1q2 (l : List TOut) : By (l.flatMap encO) := fun x hx => by
  obtain ⟨y, _, hy⟩ := List.mem_flatMap.1 hx
  exact encO_by x hy
theorem encT_by {t : TTx} {p : List Int} (h : By p) : By (encT t p) :=
  ((((((((((dig_by _ _).append (encL_by _)).append (dig_by _ _)).append (k1q2 _)).append (dig_by _ _)).append (dig_by _ _)).append (dig_by _ _)).append (dig_by _ _)).append (dig_by _ _)).append (dig_by _ _)).append (encB_by h)
theorem k1na (x : TOut) : (encO x).length = 28 + 8 * x.Cipher.length := by simp [encO]; omega
theorem kcu : ∀ (l : List TOut) (k : Nat), (∀ x ∈ l, x.Cipher.length ≤ k) → (l.flatMap encO).length ≤ (28 + 8 * k) * l.length
  | [], _, _ => by simp
  | x :: r, k, h => by
    have h1 := kcu r k (fun y hy => h y (by simp [hy]))
    have h2 := h x (by simp)
    rw [List.flatMap_cons, List.length_append, k1na, List.length_cons, Nat.mul_add]
    omega
theorem k14c (t : TTx) (p : List Int) : (encT t p).length = 64 + 8 * t.Marks.length + (t.Outs.flatMap encO).length + p.length := by simp only [encT, List.length_append, k1i, k9e, keq]; omega
theorem VT.enc_len {t : TTx} (h : VT t) (p : List Int) : (encT t p).length ≤ 304 + p.length := by
  have h1 := h.ml
  have h2 := h.ol
  have h3 := kcu t.Outs 3 (fun x hx => by have := (h.o x hx).l; omega)
  rw [k14c]
  omega
theorem khz (s : TA3) : S3 (permS s) := by
  show S3 (rnd _ _)
  unfold rnd mixS S3
  dsimp only
  omega
theorem k1az : ∀ (l : List Int) (s : TA3), S3 s → S3 (absL l s)
  | [], _, h => h
  | [_], _, _ => khz _
  | _ :: _ :: r, _, _ => k1az r _ (khz _)
theorem k1o5 (label : Int) (l : List Int) : U64 (hashS label l) := by
  unfold hashS absS
  split
  · exact (khz _).1
  · rename_i h
    match l, h with
    | [_], _ => exact (khz _).1
    | _ :: _ :: r, _ => exact (k1az r _ (khz _)).1
theorem k1px {t : TTx} {p : Int} (h : smallB t p = true) (hp : p ≤ 1048576 := by omega) : TL t := by
  unfold smallB at h
  simp only [Bool.and_eq_true, decide_eq_true_eq, List.all_eq_true] at h
  exact ⟨by omega, by omega, fun x hx => by have := h.1.2 x hx; omega, by omega⟩
end Go.Proofs.Ytnmakgfmimagmaa
namespace Go.Proofs.Ytnmakgfmimagmaa
open Go Go.Bv Go.Cv Go.Md Go.RowKit
structure RD where
  n : Int
  ok : Bool
  pos : Int
  fail : Bool
structure RL where
  l : List Int
  pos : Int
  fail : Bool
structure RdOk (b : List Int) (pos : Int) : Prop where
  by_ : By b
  len : b.length ≤ 137438953472
  pos0 : 0 ≤ pos
  pos1 : pos ≤ b.length
def rdD (b : List Int) (pos : Int) (f : Bool) (size : Int) : RD :=
  if f = true ∨ (b.length : Int) - pos < size then ⟨0, false, pos, true⟩ else ⟨val ((b.drop pos.toNat).take size.toNat), true, pos + size, false⟩
def rdU (b : List Int) (pos : Int) (f : Bool) (m : Int) : RD :=
  if (rdD b pos f 8).ok = false ∨ m < (rdD b pos f 8).n then ⟨0, false, (rdD b pos f 8).pos, true⟩ else rdD b pos f 8
def rdI (b : List Int) (pos : Int) (f : Bool) (m : Int) : RD :=
  if (rdD b pos f 4).ok = false ∨ m < (rdD b pos f 4).n then ⟨0, false, (rdD b pos f 4).pos, true⟩ else rdD b pos f 4
def rdLs (b : List Int) (p : Int) : Nat → Int → List Int → RL
  | 0, pos, acc => ⟨acc, pos, false⟩
  | k + 1, pos, acc => if p ≤ val ((b.drop pos.toNat).take 8) then ⟨[], pos + 8, true⟩ else rdLs b p k (pos + 8) (acc ++ [val ((b.drop pos.toNat).take 8)])
def rdL (b : List Int) (pos : Int) (f : Bool) (m p : Int) : RL :=
  if (rdI b pos f m).fail = true ∨ ((b.length : Int) - (rdI b pos f m).pos) / 8 < (rdI b pos f m).n then ⟨[], (rdI b pos f m).pos, true⟩ else rdLs b p (rdI b pos f m).n.toNat (rdI b pos f m).pos []
def rdB (b : List Int) (pos : Int) (f : Bool) (m : Int) : RL :=
  if (rdI b pos f m).fail = true ∨ (b.length : Int) - (rdI b pos f m).pos < (rdI b pos f m).n then ⟨[], (rdI b pos f m).pos, true⟩ else ⟨(b.take ((rdI b pos f m).pos + (rdI b pos f m).n).toNat).drop (rdI b pos f m).pos.toNat, (rdI b pos f m).pos + (rdI b pos f m).n, false⟩
theorem k11p {b : List Int} {pos p : Int} {f : Bool} (h : RdOk b pos) (h0 : 1 ≤ p) (h1 : p ≤ 8) : 0 ≤ (rdD b pos f p).n ∧ (rdD b pos f p).n < 256 ^ p.toNat := by
  unfold rdD
  split
  · exact ⟨Int.le_refl 0, kdq _⟩
  · rename_i hn
    have hb := kb5 _ ((h.by_.drop pos.toNat).take p.toNat)
    rw [List.length_take, List.length_drop, Nat.min_eq_left (by have := h.pos0; omega)] at hb
    exact hb
theorem rdD_ok {b : List Int} {pos p : Int} {f : Bool} (h : RdOk b pos) (h0 : 1 ≤ p) : RdOk b (rdD b pos f p).pos := by
  unfold rdD
  have := h.pos0
  split
  · exact h
  · rename_i hn
    exact ⟨h.by_, h.len, by show 0 ≤ pos + p; omega, by show pos + p ≤ _; omega⟩
theorem rdU_ok {b : List Int} {pos m : Int} {f : Bool} (h : RdOk b pos) : RdOk b (rdU b pos f m).pos := by
  unfold rdU
  split
  · exact rdD_ok h (by omega)
  · exact rdD_ok h (by omega)
theorem rdI_ok {b : List Int} {pos m : Int} {f : Bool} (h : RdOk b pos) : RdOk b (rdI b pos f m).pos := by
  unfold rdI
  split
  · exact rdD_ok h (by omega)
  · exact rdD_ok h (by omega)
theorem rdI_n {b : List Int} {pos m : Int} {f : Bool} (h : RdOk b pos) (hm : 0 ≤ m) : 0 ≤ (rdI b pos f m).n ∧ (rdI b pos f m).n ≤ m := by
  have := k11p h (p := 4) (f := f) (by omega) (by omega)
  unfold rdI
  split
  · exact ⟨Int.le_refl 0, hm⟩
  · rename_i hn
    exact ⟨this.1, by omega⟩
theorem rdU_n {b : List Int} {pos m : Int} {f : Bool} (h : RdOk b pos) : U64 (rdU b pos f m).n := by
  have := k11p h (p := 8) (f := f) (by omega) (by omega)
  unfold rdU
  split
  · exact ⟨Int.le_refl 0, (by decide : (0 : Int) < 18446744073709551616)⟩
  · exact ⟨this.1, this.2⟩
end Go.Proofs.Ytnmakgfmimagmaa
namespace Go.Proofs.Ytnmakgfmimagmaa
open Go Go.Bv Go.Cv Go.Md Go.RowKit
theorem cut_dig {b : List Int} (h : By b) (k : Nat) (hk : k ≤ b.length) : b = dig k (val (b.take k)) ++ b.drop k := by
  have := dig_val (b.take k) (h.take k)
  rw [List.length_take, Nat.min_eq_left hk] at this
  rw [this, List.take_append_drop]
theorem put_dig {b r : List Int} {k : Nat} {n : Int} (h : b = dig k n ++ r) (h0 : 0 ≤ n) (h1 : n < 256 ^ k) : val (b.take k) = n ∧ b.drop k = r ∧ k ≤ b.length := by
  subst h
  rw [List.take_left' (k1i k n), List.drop_left' (k1i k n), List.length_append, k1i]
  exact ⟨val_dig k n h0 h1, rfl, by omega⟩
def nums : Nat → List Int → List Int
  | 0, _ => []
  | k + 1, b => val (b.take 8) :: nums k (b.drop 8)
@[simp] theorem kn2 : ∀ (k : Nat) (b : List Int), (nums k b).length = k
  | 0, _ => rfl
  | k + 1, b => by simp [nums, kn2 k]
theorem nums_us : ∀ (k : Nat) {b : List Int}, By b → Us (nums k b)
  | 0, _, _ => by intro x hx; cases hx
  | k + 1, b, h => by
    intro x hx
    rcases List.mem_cons.1 hx with rfl | hx
    · exact val8 _ (h.take 8) (by rw [List.length_take]; omega)
    · exact nums_us k (h.drop 8) x hx
theorem k16b : ∀ (k : Nat) {b : List Int}, By b → 8 * k ≤ b.length → b = (nums k b).flatMap (dig 8) ++ b.drop (8 * k)
  | 0, _, _, _ => rfl
  | k + 1, b, h, hk => by
    have h1 := cut_dig h 8 (by omega)
    have h2 := k16b k (h.drop 8) (by rw [List.length_drop]; omega)
    rw [List.drop_drop, show 8 + 8 * k = 8 * (k + 1) by omega] at h2
    simp only [nums, List.flatMap_cons, List.append_assoc]
    rw [← h2]
    exact h1
theorem kpw : ∀ (l : List Int) {b r : List Int}, b = l.flatMap (dig 8) ++ r → Us l → nums l.length b = l ∧ b.drop (8 * l.length) = r ∧ 8 * l.length ≤ b.length
  | [], b, r, h, _ => ⟨rfl, by simpa using h, by simp⟩
  | x :: l, b, r, h, hu => by
    rw [List.flatMap_cons, List.append_assoc] at h
    have hx := hu x (by simp)
    obtain ⟨h1, h2, h3⟩ := put_dig h hx.1 (by omega)
    obtain ⟨g1, g2, g3⟩ := kpw l h2 (fun y hy => hu y (by simp [hy]))
    rw [List.length_drop] at g3
    refine ⟨?_, ?_, ?_⟩
    · simp only [List.length_cons, nums, h1, g1]
    · rw [List.drop_drop, show 8 + 8 * l.length = 8 * (l.length + 1) by omega] at g2
      simpa using g2
    · rw [List.length_cons]; omega
section
variable {b : List Int} {pos m p : Int} {f : Bool}
theorem kfi (h0 : 0 ≤ pos) (k : Nat) : b.drop (pos + (k : Int)).toNat = (b.drop pos.toNat).drop k := by
  rw [List.drop_drop, show (pos + (k : Int)).toNat = pos.toNat + k by omega]
theorem rdD_snd (h : RdOk b pos) (k : Nat) (hf : (rdD b pos f k).ok = true) : f = false ∧ b.drop pos.toNat = dig k (rdD b pos f k).n ++ b.drop (rdD b pos f k).pos.toNat ∧ (rdD b pos f k).fail = false := by
  unfold rdD at *
  split at hf
  · cases hf
  · rename_i hn
    rw [if_neg hn]
    have h0 := h.pos0
    refine ⟨?_, ?_, rfl⟩
    · cases f
      · rfl
      · exact absurd (.inl rfl) hn
    · show b.drop pos.toNat = dig k (val ((b.drop pos.toNat).take (k : Int).toNat)) ++ b.drop (pos + (k : Int)).toNat
      rw [kfi h0, Int.toNat_natCast]
      refine cut_dig (h.by_.drop _) k ?_
      have : ¬ (b.length : Int) - pos < k := fun h => hn (.inr h)
      rw [List.length_drop]
      omega
theorem rdD_cpl (h : RdOk b pos) (k : Nat) {n : Int} {r : List Int} (hf : f = false) (hr : b.drop pos.toNat = dig k n ++ r) (h0 : 0 ≤ n) (h1 : n < 256 ^ k) : rdD b pos f k = ⟨n, true, pos + k, false⟩ ∧ b.drop (pos + (k : Int)).toNat = r := by
  obtain ⟨g1, g2, g3⟩ := put_dig hr h0 h1
  rw [List.length_drop] at g3
  have hp := h.pos1
  have hp0 := h.pos0
  refine ⟨?_, by rw [kfi hp0]; exact g2⟩
  unfold rdD
  have hk : ¬ (f = true ∨ (b.length : Int) - pos < k) := by rw [hf]; simp only [Bool.false_eq_true, false_or]; rcases Nat.eq_zero_or_pos k with h | h <;> omega
  rw [if_neg hk, Int.toNat_natCast, g1]
theorem rdU_snd (h : RdOk b pos) (hf : (rdU b pos f m).fail = false) : f = false ∧ b.drop pos.toNat = dig 8 (rdU b pos f m).n ++ b.drop (rdU b pos f m).pos.toNat ∧ (rdU b pos f m).n ≤ m := by
  unfold rdU at *
  split at hf
  · cases hf
  · rename_i hn
    rw [if_neg hn]
    have ho : (rdD b pos f 8).ok = true := by
      cases hc : (rdD b pos f 8).ok
      · exact absurd (.inl hc) hn
      · rfl
    obtain ⟨g1, g2, g3⟩ := rdD_snd h 8 ho
    exact ⟨g1, g2, by have : ¬ m < (rdD b pos f 8).n := fun h => hn (.inr h); omega⟩
theorem rdU_cpl (h : RdOk b pos) {n : Int} {r : List Int} (hf : f = false) (hr : b.drop pos.toNat = dig 8 n ++ r) (hn : U64 n) (hm : n ≤ m) : (rdU b pos f m).fail = false ∧ (rdU b pos f m).n = n ∧ b.drop (rdU b pos f m).pos.toNat = r := by
  obtain ⟨g1, g2⟩ := rdD_cpl h 8 hf hr hn.1 hn.2
  have e : rdU b pos f m = ⟨n, true, pos + 8, false⟩ := by
    unfold rdU
    have g1 : rdD b pos f 8 = ⟨n, true, pos + 8, false⟩ := g1
    rw [g1]
    exact if_neg (by simp; omega)
  rw [e]
  exact ⟨rfl, rfl, g2⟩
theorem rdI_snd (h : RdOk b pos) (hf : (rdI b pos f m).fail = false) : f = false ∧ b.drop pos.toNat = dig 4 (rdI b pos f m).n ++ b.drop (rdI b pos f m).pos.toNat ∧ (rdI b pos f m).n ≤ m := by
  unfold rdI at *
  split at hf
  · cases hf
  · rename_i hn
    rw [if_neg hn]
    have ho : (rdD b pos f 4).ok = true := by
      cases hc : (rdD b pos f 4).ok
      · exact absurd (.inl hc) hn
      · rfl
    obtain ⟨g1, g2, g3⟩ := rdD_snd h 4 ho
    exact ⟨g1, g2, by have : ¬ m < (rdD b pos f 4).n := fun h => hn (.inr h); omega⟩
theorem rdI_cpl (h : RdOk b pos) {n : Int} {r : List Int} (hf : f = false) (hr : b.drop pos.toNat = dig 4 n ++ r) (h0 : 0 ≤ n) (h1 : n < 4294967296) (hm : n ≤ m) : (rdI b pos f m).fail = false ∧ (rdI b pos f m).n = n ∧ b.drop (rdI b pos f m).pos.toNat = r := by
  obtain ⟨g1, g2⟩ := rdD_cpl h 4 hf hr h0 h1
  have e : rdI b pos f m = ⟨n, true, pos + 4, false⟩ := by
    unfold rdI
    have g1 : rdD b pos f 4 = ⟨n, true, pos + 4, false⟩ := g1
    rw [g1]
    exact if_neg (by simp; omega)
  rw [e]
  exact ⟨rfl, rfl, g2⟩
theorem rdLs_ok : ∀ (k : Nat) {pos : Int} {acc : List Int}, RdOk b pos → pos + 8 * k ≤ b.length → RdOk b (rdLs b p k pos acc).pos
  | 0, pos, acc, h, _ => h
  | k + 1, pos, acc, h, hk => by
    have h2 : RdOk b (pos + 8) := ⟨h.by_, h.len, by have := h.pos0; omega, by omega⟩
    unfold rdLs
    split
    · exact h2
    · exact rdLs_ok k h2 (by omega)
theorem k17o : ∀ (k : Nat) {pos : Int} {acc : List Int}, RdOk b pos → pos + 8 * k ≤ b.length → (rdLs b p k pos acc).fail = false →
    (rdLs b p k pos acc).l = acc ++ nums k (b.drop pos.toNat) ∧ (∀ x ∈ nums k (b.drop pos.toNat), x < p) ∧ (rdLs b p k pos acc).pos = pos + 8 * k
  | 0, pos, acc, h, _, _ => ⟨by simp [rdLs, nums], by simp [nums], by simp [rdLs]⟩
  | k + 1, pos, acc, h, hk, hf => by
    have h2 : RdOk b (pos + 8) := ⟨h.by_, h.len, by have := h.pos0; omega, by omega⟩
    have hd : b.drop (pos + 8).toNat = (b.drop pos.toNat).drop 8 := kfi h.pos0 8
    unfold rdLs at *
    split at hf
    · cases hf
    · rename_i hn
      rw [if_neg hn]
      obtain ⟨g1, g2, g3⟩ := k17o k h2 (by omega) hf
      rw [hd] at g1 g2
      refine ⟨?_, ?_, ?_⟩
      · rw [g1, List.append_assoc]; rfl
      · intro x hx
        rcases List.mem_cons.1 hx with rfl | hx
        · omega
        · exact g2 x hx
      · rw [g3]; omega
theorem k1kw : ∀ (k : Nat) {pos : Int} {acc : List Int}, RdOk b pos → pos + 8 * k ≤ b.length → (∀ x ∈ nums k (b.drop pos.toNat), x < p) → (rdLs b p k pos acc).fail = false
  | 0, pos, acc, h, _, _ => rfl
  | k + 1, pos, acc, h, hk, hf => by
    have h2 : RdOk b (pos + 8) := ⟨h.by_, h.len, by have := h.pos0; omega, by omega⟩
    have hd : b.drop (pos + 8).toNat = (b.drop pos.toNat).drop 8 := kfi h.pos0 8
    unfold rdLs
    have h3 := hf (val ((b.drop pos.toNat).take 8)) (by simp [nums])
    rw [if_neg (by omega)]
    exact k1kw k h2 (by omega) (by rw [hd]; exact fun x hx => hf x (List.mem_cons_of_mem _ hx))
theorem rdL_ok (h : RdOk b pos) (hm : 0 ≤ m) : RdOk b (rdL b pos f m p).pos := by
  unfold rdL
  split
  · exact rdI_ok h
  · rename_i hn
    have := rdI_n h (f := f) hm
    have : ¬ ((b.length : Int) - (rdI b pos f m).pos) / 8 < (rdI b pos f m).n := fun h => hn (.inr h)
    exact rdLs_ok _ (rdI_ok h) (by omega)
theorem rdL_snd (h : RdOk b pos) (hm : 0 ≤ m ∧ m ≤ 4294967295) (hf : (rdL b pos f m p).fail = false) : f = false ∧ b.drop pos.toNat = encL (rdL b pos f m p).l ++ b.drop (rdL b pos f m p).pos.toNat ∧ ((rdL b pos f m p).l.length : Int) ≤ m ∧ (∀ x ∈ (rdL b pos f m p).l, x < p) ∧ Us (rdL b pos f m p).l := by
  unfold rdL at *
  split at hf
  · cases hf
  · rename_i hn
    rw [if_neg hn]
    have hI : (rdI b pos f m).fail = false := by
      cases hc : (rdI b pos f m).fail
      · rfl
      · exact absurd (.inl hc) hn
    have hI2 := rdI_n h (f := f) hm.1
    have hok := rdI_ok h (f := f) (m := m)
    obtain ⟨g1, g2, g3⟩ := rdI_snd h hI
    have hle : ¬ ((b.length : Int) - (rdI b pos f m).pos) / 8 < (rdI b pos f m).n := fun h => hn (.inr h)
    obtain ⟨k1, k2, k3⟩ := k17o _ hok (by omega) hf
    rw [List.nil_append] at k1
    rw [k1, k3]
    have hp0 := hok.pos0
    have hp1 := hok.pos1
    refine ⟨g1, ?_, by rw [kn2]; omega, k2, nums_us _ (h.by_.drop _)⟩
    rw [g2]
    unfold encL
    rw [kn2, show (((rdI b pos f m).n.toNat : Nat) : Int) = (rdI b pos f m).n by omega, len4_in (by omega), List.append_assoc]
    congr 1
    have := k16b (rdI b pos f m).n.toNat (h.by_.drop (rdI b pos f m).pos.toNat) (by rw [List.length_drop]; omega)
    have e := kfi (b := b) hp0 (8 * (rdI b pos f m).n.toNat)
    rw [show ((rdI b pos f m).pos + ((8 * (rdI b pos f m).n.toNat : Nat) : Int)) = (rdI b pos f m).pos + 8 * ((rdI b pos f m).n.toNat : Int) by omega, show (((rdI b pos f m).n.toNat : Nat) : Int) = (rdI b pos f m).n by omega] at e
    rw [e]
    exact this
theorem rdL_cpl (h : RdOk b pos) (hm : 0 ≤ m ∧ m ≤ 4294967295) {l r : List Int} (hf : f = false) (hr : b.drop pos.toNat = encL l ++ r) (hl : (l.length : Int) ≤ m) (hp : ∀ x ∈ l, x < p) (hu : Us l) : (rdL b pos f m p).fail = false ∧ (rdL b pos f m p).l = l ∧ b.drop (rdL b pos f m p).pos.toNat = r := by
  unfold encL at hr
  rw [len4_in (by omega), List.append_assoc] at hr
  have hok := rdI_ok h (f := f) (m := m)
  obtain ⟨g1, g2, g3⟩ := rdI_cpl h hf hr (by omega) (by omega) hl
  obtain ⟨k1, k2, k3⟩ := kpw l g3 hu
  rw [List.length_drop] at k3
  have hp0 := hok.pos0
  have hp1 := hok.pos1
  have hn : ¬ ((rdI b pos f m).fail = true ∨ ((b.length : Int) - (rdI b pos f m).pos) / 8 < (rdI b pos f m).n) := by
    rw [g1, g2]
    simp only [Bool.false_eq_true, false_or]
    omega
  unfold rdL
  rw [if_neg hn, g2, Int.toNat_natCast]
  have hc := k1kw (p := p) (acc := []) l.length hok (by omega) (by rw [k1]; exact hp)
  obtain ⟨q1, q2, q3⟩ := k17o _ hok (by omega) hc
  refine ⟨hc, by rw [q1, k1]; rfl, ?_⟩
  rw [q3, show (rdI b pos f m).pos + 8 * (l.length : Int) = (rdI b pos f m).pos + ((8 * l.length : Nat) : Int) by omega, kfi hp0]
  exact k2
theorem rdB_ok (h : RdOk b pos) (hm : 0 ≤ m) : RdOk b (rdB b pos f m).pos := by
  have h1 := rdI_n h (f := f) hm
  have h2 := rdI_ok h (f := f) (m := m)
  have := h2.pos0
  unfold rdB
  split
  · exact h2
  · rename_i hn
    exact ⟨h.by_, h.len, by show 0 ≤ _ + _; omega, by show _ + _ ≤ _; omega⟩
theorem rdB_snd (h : RdOk b pos) (hm : 0 ≤ m ∧ m ≤ 4294967295) (hf : (rdB b pos f m).fail = false) : f = false ∧ b.drop pos.toNat = encB (rdB b pos f m).l ++ b.drop (rdB b pos f m).pos.toNat ∧ ((rdB b pos f m).l.length : Int) ≤ m ∧ By (rdB b pos f m).l := by
  unfold rdB at *
  split at hf
  · cases hf
  · rename_i hn
    rw [if_neg hn]
    have hI : (rdI b pos f m).fail = false := by
      cases hc : (rdI b pos f m).fail
      · rfl
      · exact absurd (.inl hc) hn
    have hI2 := rdI_n h (f := f) hm.1
    have hok := rdI_ok h (f := f) (m := m)
    obtain ⟨g1, g2, g3⟩ := rdI_snd h hI
    have hle : ¬ (b.length : Int) - (rdI b pos f m).pos < (rdI b pos f m).n := fun h => hn (.inr h)
    have hp0 := hok.pos0
    have hp1 := hok.pos1
    have hlen : (((b.take ((rdI b pos f m).pos + (rdI b pos f m).n).toNat).drop (rdI b pos f m).pos.toNat).length : Int) = (rdI b pos f m).n := by
      rw [List.length_drop, List.length_take]; omega
    refine ⟨g1, ?_, by rw [hlen]; exact g3, (h.by_.take _).drop _⟩
    rw [g2]
    unfold encB
    rw [hlen, len4_in (by omega), List.append_assoc]
    congr 1
    show _ = _ ++ b.drop ((rdI b pos f m).pos + (rdI b pos f m).n).toNat
    rw [List.drop_take, show ((rdI b pos f m).pos + (rdI b pos f m).n).toNat - (rdI b pos f m).pos.toNat = (rdI b pos f m).n.toNat by omega]
    have e := kfi (b := b) hp0 (rdI b pos f m).n.toNat
    rw [show (((rdI b pos f m).n.toNat : Nat) : Int) = (rdI b pos f m).n by omega] at e
    rw [e, List.take_append_drop]
theorem rdB_cpl (h : RdOk b pos) (hm : 0 ≤ m ∧ m ≤ 4294967295) {l r : List Int} (hf : f = false) (hr : b.drop pos.toNat = encB l ++ r) (hl : (l.length : Int) ≤ m) : (rdB b pos f m).fail = false ∧ (rdB b pos f m).l = l ∧ b.drop (rdB b pos f m).pos.toNat = r := by
  unfold encB at hr
  rw [len4_in (by omega), List.append_assoc] at hr
  have hok := rdI_ok h (f := f) (m := m)
  obtain ⟨g1, g2, g3⟩ := rdI_cpl h hf hr (by omega) (by omega) hl
  have hp0 := hok.pos0
  have hp1 := hok.pos1
  have hlen := congrArg List.length g3
  rw [List.length_drop, List.length_append] at hlen
  have hn : ¬ ((rdI b pos f m).fail = true ∨ (b.length : Int) - (rdI b pos f m).pos < (rdI b pos f m).n) := by
    rw [g1, g2]
    simp only [Bool.false_eq_true, false_or]
    omega
  unfold rdB
  rw [if_neg hn, g2]
  refine ⟨rfl, ?_, ?_⟩
  · show (b.take ((rdI b pos f m).pos + (l.length : Int)).toNat).drop (rdI b pos f m).pos.toNat = l
    rw [List.drop_take, g3, show ((rdI b pos f m).pos + (l.length : Int)).toNat - (rdI b pos f m).pos.toNat = l.length by omega, List.take_left]
  · show b.drop ((rdI b pos f m).pos + (l.length : Int)).toNat = r
    rw [kfi hp0, g3, List.drop_left]
end
end Go.Proofs.Ytnmakgfmimagmaa
namespace Go.Proofs.Ytnmakgfmimagmaa
open Go Go.Bv Go.Cv Go.Md Go.RowKit
structure Enc (t : TTx) (b : List Int) : Prop where
  r : TR t
  v : VT t
  e : encT t t.Proof = b
def zeroT : TTx := ⟨0, [], [], 0, 0, 0, 0, 0, 0, []⟩
open Classical in
noncomputable def decS (b : List Int) : TTx × Int := if h : ∃ t, Enc t b then (Classical.choose h, 0) else (zeroT, 2)
theorem k16u {b : List Int} {t : TTx} (h : Enc t b) (hu : ∀ u, Enc u b → t = u) : decS b = (t, 0) := by
  unfold decS
  have hex : ∃ t, Enc t b := ⟨t, h⟩
  rw [dif_pos hex, ← hu _ (Classical.choose_spec hex)]
theorem decS_no {b : List Int} (h : ∀ u, ¬ Enc u b) : decS b = (zeroT, 2) := by
  unfold decS
  rw [dif_neg fun ⟨u, hu⟩ => h u hu]
theorem Enc.us {t : TTx} {b : List Int} (h : Enc t b) : t.Anchor ≤ 18446744069414584320 ∧ t.Deposit ≤ 4294967295 ∧ t.Withdraw ≤ 4294967295 ∧ t.Fee ≤ 4294967295 ∧ t.Account ≤ 18446744069414584320 ∧ t.Nonce ≤ 18446744069414584320 ∧ 0 ≤ t.Expiry ∧ t.Expiry ≤ 1048576 := by
  have h1 := (kdb t).1 h.v.am
  have h2 := h.v.re
  unfold vRest at h2
  simp only [Bool.and_eq_true, decide_eq_true_eq] at h2
  omega
theorem VO.us {x : TOut} (h : VO x) : x.Commit ≤ 18446744069414584320 ∧ x.Point_a0 ≤ 18446744069414584320 ∧ x.Point_a1 ≤ 18446744069414584320 := by
  have h1 := h.c
  have h2 := h.p
  unfold vPoint at h2
  simp only [Bool.and_eq_true, decide_eq_true_eq] at h2
  omega
def encTail (t : TTx) : List Int := dig 8 t.Deposit ++ (dig 8 t.Withdraw ++ (dig 8 t.Fee ++ (dig 8 t.Account ++ (dig 8 t.Nonce ++ (dig 4 (len4 t.Expiry) ++ encB t.Proof)))))
theorem kh2 (t : TTx) : encT t t.Proof = dig 8 t.Anchor ++ (encL t.Marks ++ (dig 4 (len4 t.Outs.length) ++ (t.Outs.flatMap encO ++ encTail t))) := by simp [encT, encTail, List.append_assoc]
theorem kgx (x : TOut) (r : List Int) : encO x ++ r = dig 8 x.Commit ++ (dig 8 x.Point_a0 ++ (dig 8 x.Point_a1 ++ (encL x.Cipher ++ r))) := by simp [encO, List.append_assoc]
set_option maxHeartbeats 2000000 in

theorem enc_inj {t u : TTx} {b : List Int} (ht : Enc t b) (hu : Enc u b) : t = u := by
  have h := ht.e.trans hu.e.symm
  rw [kh2, kh2] at h
  have e1 := List.append_inj h (by simp)
  have a1 := dig_inj (k := 8) ht.r.a hu.r.a e1.1
  have tl := ht.v.ml
  have ul := hu.v.ml
  have tol := ht.v.ol
  have uol := hu.v.ol
  have cut : ∀ {l m : List Int} {x y : List Int}, l.length ≤ 4294967295 → m.length ≤ 4294967295 → Us l → Us m → encL l ++ x = encL m ++ y → l = m ∧ x = y := by
    intro l m x y hl hm hul hum h
    unfold encL at h
    rw [len4_in (by omega), len4_in (by omega), List.append_assoc, List.append_assoc] at h
    have q := List.append_inj h (by simp)
    have q1 := dig_inj (k := 4) ⟨by omega, by omega⟩ ⟨by omega, by omega⟩ q.1
    have q2 := List.append_inj q.2 (by rw [k87, k87]; omega)
    obtain ⟨k1, k2, _⟩ := kpw l (b := l.flatMap (dig 8)) (r := []) (by simp) hul
    obtain ⟨m1, m2, _⟩ := kpw m (b := l.flatMap (dig 8)) (r := []) (by rw [q2.1]; simp) hum
    have : l.length = m.length := by omega
    rw [this] at k1
    exact ⟨k1.symm.trans m1, q2.2⟩
  obtain ⟨a2, e2⟩ := cut (by omega) (by omega) ht.r.m hu.r.m e1.2
  rw [len4_in (by omega), len4_in (by omega)] at e2
  have e3 := List.append_inj e2 (by simp)
  have a3 := dig_inj (k := 4) ⟨by omega, by omega⟩ ⟨by omega, by omega⟩ e3.1
  have outs : ∀ (l m : List TOut) (x y : List Int), l.length = m.length → (∀ o ∈ l, OR o ∧ VO o) → (∀ o ∈ m, OR o ∧ VO o) → l.flatMap encO ++ x = m.flatMap encO ++ y → l = m ∧ x = y := by
    intro l
    induction l with
    | nil =>
      intro m x y hlm _ _ h
      cases m with
      | nil => exact ⟨rfl, h⟩
      | cons o m => simp at hlm
    | cons o l ih =>
      intro m x y hlm hl hm h
      cases m with
      | nil => simp at hlm
      | cons p m =>
        rw [List.flatMap_cons, List.flatMap_cons, List.append_assoc, List.append_assoc, kgx, kgx] at h
        obtain ⟨or, ov⟩ := hl o (by simp)
        obtain ⟨pr, pv⟩ := hm p (by simp)
        have q1 := List.append_inj h (by simp)
        have q2 := List.append_inj q1.2 (by simp)
        have q3 := List.append_inj q2.2 (by simp)
        obtain ⟨q4, q5⟩ := cut (by rw [ov.l]; omega) (by rw [pv.l]; omega) or.ci pr.ci q3.2
        obtain ⟨q6, q7⟩ := ih m x y (by simpa using hlm) (fun o h => hl o (by simp [h])) (fun o h => hm o (by simp [h])) q5
        refine ⟨?_, q7⟩
        have c1 := dig_inj (k := 8) or.c pr.c q1.1
        have c2 := dig_inj (k := 8) or.p0 pr.p0 q2.1
        have c3 := dig_inj (k := 8) or.p1 pr.p1 q3.1
        rw [q6]
        cases o
        cases p
        simp_all
  obtain ⟨a4, e4⟩ := outs _ _ _ _ (by omega) (fun o h => ⟨ht.r.o o h, ht.v.o o h⟩) (fun o h => ⟨hu.r.o o h, hu.v.o o h⟩) e3.2
  unfold encTail at e4
  have f1 := List.append_inj e4 (by simp)
  have f2 := List.append_inj f1.2 (by simp)
  have f3 := List.append_inj f2.2 (by simp)
  have f4 := List.append_inj f3.2 (by simp)
  have f5 := List.append_inj f4.2 (by simp)
  have f6 := List.append_inj f5.2 (by simp)
  have tus := ht.us
  have uus := hu.us
  rw [len4_in (by omega), len4_in (by omega)] at f6
  have a5 := dig_inj (k := 8) ht.r.d hu.r.d f1.1
  have a6 := dig_inj (k := 8) ht.r.w hu.r.w f2.1
  have a7 := dig_inj (k := 8) ht.r.f hu.r.f f3.1
  have a8 := dig_inj (k := 8) ht.r.ac hu.r.ac f4.1
  have a9 := dig_inj (k := 8) ht.r.n hu.r.n f5.1
  have a10 := dig_inj (k := 4) ⟨by omega, by omega⟩ ⟨by omega, by omega⟩ f6.1
  have a11 : t.Proof = u.Proof := by
    have h7 := f6.2
    unfold encB at h7
    exact (List.append_inj h7 (by simp)).2
  cases t
  cases u
  simp_all
theorem kwe {b : List Int} {t : TTx} (h : Enc t b) : decS b = (t, 0) := k16u h fun _ hu => enc_inj h hu
structure TD (t : TTx) : Prop where
  r : TR t
  l : TL t
  o : t.Outs.length ≤ 1048576
  c : ∀ x ∈ t.Outs, x.Cipher.length ≤ 1024
theorem Enc.td {t : TTx} {b : List Int} (h : Enc t b) : TD t := ⟨h.r, h.v.tl, by have := h.v.ol; omega, fun x hx => by have := (h.v.o x hx).l; omega⟩
def sameT (a b : TTx) : Bool := decide (a.Outs.length = b.Outs.length) && a.Expiry == b.Expiry && decide (a.Outs.map (·.Cipher.length) = b.Outs.map (·.Cipher.length)) && decide (encT a a.Proof = encT b b.Proof)
@[simp] theorem k1nm (a : TTx) : sameT a a = true := by simp [sameT]
structure TK where
  n : Int
  r : List Int
  ok : Bool
structure TKL where
  l : List Int
  r : List Int
  ok : Bool
def tkS (b : List Int) (k : Int) : TK := if (b.length : Int) < k then ⟨0, [], false⟩ else ⟨val (b.take k.toNat), b.drop k.toNat, true⟩
def tksS (b : List Int) (k : Int) : TKL := if (b.length : Int) < 8 * k then ⟨[], [], false⟩ else ⟨nums k.toNat b, b.drop (8 * k.toNat), true⟩
def tklS (b : List Int) (m : Int) : TKL := if (tkS b 4).ok = false ∨ m < (tkS b 4).n then ⟨[], [], false⟩ else tksS (tkS b 4).r (tkS b 4).n
section
variable {b r : List Int} {n m : Int}
theorem tkS_by (h : By b) (k : Int) : By (tkS b k).r := by
  unfold tkS; split
  · intro x hx; cases hx
  · exact h.drop _
theorem tkS_len (k : Int) : (tkS b k).r.length ≤ b.length := by
  unfold tkS; split
  · exact Nat.zero_le _
  · show (b.drop _).length ≤ _; rw [List.length_drop]; omega
theorem tksS_by (h : By b) (k : Int) : By (tksS b k).r := by
  unfold tksS; split
  · intro x hx; cases hx
  · exact h.drop _
theorem k15a (k : Int) : (tksS b k).r.length ≤ b.length := by
  unfold tksS; split
  · exact Nat.zero_le _
  · show (b.drop _).length ≤ _; rw [List.length_drop]; omega
theorem tklS_by (h : By b) (m : Int) : By (tklS b m).r := by
  unfold tklS; split
  · intro x hx; cases hx
  · exact tksS_by (tkS_by h _) _
theorem k1ll (m : Int) : (tklS b m).r.length ≤ b.length := by
  unfold tklS; split
  · exact Nat.zero_le _
  · exact Nat.le_trans (k15a _) (tkS_len _)
theorem tkS_snd (h : By b) (k : Nat) (ho : (tkS b k).ok = true) : b = dig k (tkS b k).n ++ (tkS b k).r ∧ 0 ≤ (tkS b k).n ∧ (tkS b k).n < 256 ^ k := by
  unfold tkS at *
  split at ho
  · cases ho
  · rename_i hn
    rw [if_neg hn, Int.toNat_natCast]
    have hb := kb5 _ (h.take k)
    rw [List.length_take, Nat.min_eq_left (by omega)] at hb
    exact ⟨cut_dig h k (by omega), hb⟩
theorem tkS_cpl (k : Nat) (h : b = dig k n ++ r) (h0 : 0 ≤ n) (h1 : n < 256 ^ k) : tkS b k = ⟨n, r, true⟩ := by
  obtain ⟨g1, g2, g3⟩ := put_dig h h0 h1
  unfold tkS
  rw [if_neg (by omega), Int.toNat_natCast, g1, g2]
theorem k17n (h : By b) (k : Nat) (ho : (tksS b k).ok = true) : b = (tksS b k).l.flatMap (dig 8) ++ (tksS b k).r ∧ (tksS b k).l.length = k ∧ Us (tksS b k).l := by
  unfold tksS at *
  split at ho
  · cases ho
  · rename_i hn
    rw [if_neg hn, Int.toNat_natCast]
    exact ⟨k16b k h (by omega), kn2 _ _, nums_us _ h⟩
theorem k158 {l : List Int} (h : b = l.flatMap (dig 8) ++ r) (hu : Us l) : tksS b l.length = ⟨l, r, true⟩ := by
  obtain ⟨g1, g2, g3⟩ := kpw l h hu
  unfold tksS
  rw [if_neg (by omega), Int.toNat_natCast, g1, g2]
theorem k1jb (h : By b) (ho : (tklS b m).ok = true) : b = encL (tklS b m).l ++ (tklS b m).r ∧ ((tklS b m).l.length : Int) ≤ m ∧ Us (tklS b m).l := by
  unfold tklS at *
  split at ho
  · cases ho
  · rename_i hn
    rw [if_neg hn]
    have h4 : (tkS b 4).ok = true := by
      cases hc : (tkS b 4).ok
      · exact absurd (.inl hc) hn
      · rfl
    obtain ⟨g1, g2, g3⟩ := tkS_snd h 4 h4
    have g1 : b = dig 4 (tkS b 4).n ++ (tkS b 4).r := g1
    have g2 : 0 ≤ (tkS b 4).n := g2
    have g3 : (tkS b 4).n < 4294967296 := g3
    obtain ⟨k, hk⟩ := Int.eq_ofNat_of_zero_le g2
    have hby : By (tkS b 4).r := tkS_by h 4
    generalize (tkS b 4).n = q at *
    subst hk
    obtain ⟨k1, k2, k3⟩ := k17n hby k ho
    refine ⟨?_, by rw [k2]; have : ¬ m < (k : Int) := fun h => hn (.inr h); omega, k3⟩
    unfold encL
    rw [k2, len4_in (by omega), List.append_assoc, ← k1]
    exact g1
theorem k1kl {l : List Int} (h : b = encL l ++ r) (hm : m ≤ 4294967295) (hl : (l.length : Int) ≤ m) (hu : Us l) : tklS b m = ⟨l, r, true⟩ := by
  unfold encL at h
  rw [len4_in (by omega), List.append_assoc] at h
  have e : tkS b 4 = ⟨l.length, _, true⟩ := tkS_cpl 4 h (by omega) (by omega)
  unfold tklS
  rw [e, if_neg (by simp; omega)]
  exact k158 rfl hu
end
end Go.Proofs.Ytnmakgfmimagmaa
namespace Go.Proofs.Ytnmakgfmimagmaa
open Go Go.Bv Go.Cv Go.Md Go.RowKit
def sumW (l : List TTx) : Int := (l.map weightS).sum
theorem k1iq (l : List TTx) (x : TTx) : sumW (l ++ [x]) = sumW l + weightS x := by simp [sumW]
theorem kwx {t : TTx} (h : validE t = 0) : 0 ≤ weightS t ∧ weightS t ≤ 1048880 := by
  have v := (k3t t).1 h
  have := v.enc_len t.Proof
  have := v.pl
  unfold weightS
  rw [if_pos h]
  omega
theorem sumW_bd : ∀ (l : List TTx), (∀ x ∈ l, validE x = 0) → 0 ≤ sumW l ∧ sumW l ≤ 1048880 * l.length
  | [], _ => by simp [sumW]
  | x :: l, h => by
    have h1 := sumW_bd l (fun y hy => h y (by simp [hy]))
    have h2 := kwx (h x (by simp))
    have e : sumW (x :: l) = weightS x + sumW l := by simp [sumW]
    rw [e, List.length_cons]
    omega
structure BR (b : TBlock) : Prop where
  p : U64 b.Parent
  m : U64 b.Miner
  w : U64 b.Work
  n : U64 b.Nonce
  h : -9223372036854775808 ≤ b.Height ∧ b.Height ≤ 9223372036854775807
  t : ∀ x ∈ b.Txs, TR x
structure VB0 (b : TBlock) : Prop where
  h0 : 1 ≤ b.Height
  h1 : b.Height ≤ 1048576
  w0 : 1 ≤ b.Work
  w1 : b.Work ≤ 65536
  p : b.Parent < 18446744069414584321
  m : b.Miner < 18446744069414584321
  l : b.Txs.length ≤ 64
def vHead (b : TBlock) : Bool := decide (1 ≤ b.Height) && decide (b.Height ≤ 1048576) && decide (1 ≤ b.Work) && decide (b.Work ≤ 65536) && decide (b.Parent < 18446744069414584321) && decide (b.Miner < 18446744069414584321) && decide (b.Txs.length ≤ 64)
theorem krl (b : TBlock) : vHead b = true ↔ VB0 b := by
  unfold vHead
  simp only [Bool.and_eq_true, decide_eq_true_eq]
  constructor
  · rintro ⟨⟨⟨⟨⟨⟨a, b⟩, c⟩, d⟩, e⟩, f⟩, g⟩
    exact ⟨a, b, c, d, e, f, g⟩
  · rintro ⟨a, b, c, d, e, f, g⟩
    exact ⟨⟨⟨⟨⟨⟨a, b⟩, c⟩, d⟩, e⟩, f⟩, g⟩
def validB (b : TBlock) : Int := if vHead b = true ∧ ∀ t ∈ b.Txs, validE t = 0 then (if sumW b.Txs ≤ 2097152 then 0 else 3) else 1
structure VB (b : TBlock) : Prop where
  h : VB0 b
  t : ∀ x ∈ b.Txs, validE x = 0
  s : sumW b.Txs ≤ 2097152
theorem k9j (b : TBlock) : validB b = 0 ↔ VB b := by
  unfold validB
  split
  · rename_i h
    split
    · rename_i hs
      exact ⟨fun _ => ⟨(krl b).1 h.1, h.2, hs⟩, fun _ => rfl⟩
    · rename_i hs
      exact ⟨fun e => absurd e (by decide), fun e => absurd e.s hs⟩
  · rename_i h
    exact ⟨fun e => absurd e (by decide), fun e => absurd ⟨(krl b).2 e.h, e.t⟩ h⟩
theorem ken {b : TBlock} (h : ¬ VB0 b) : validB b = 1 := if_neg fun e => h ((krl b).1 e.1)
theorem k1ea {b : TBlock} {x : TTx} (hx : x ∈ b.Txs) (h : validE x ≠ 0) : validB b = 1 := if_neg fun e => h (e.2 x hx)
theorem k1e1 {b : TBlock} (h : VB0 b) (ht : ∀ x ∈ b.Txs, validE x = 0) : validB b = if sumW b.Txs ≤ 2097152 then 0 else 3 := if_pos ⟨(krl b).2 h, ht⟩
def hdrS (b : TBlock) : List Int := dig 8 b.Parent ++ dig 4 (len4 b.Height) ++ dig 8 b.Miner ++ dig 8 b.Work ++ dig 8 b.Nonce ++ dig 4 (len4 (b.Txs.length : Int))
@[simp] theorem kn1 (b : TBlock) : (hdrS b).length = 40 := by simp [hdrS]
theorem hdrS_by (b : TBlock) : By (hdrS b) := ((((((dig_by _ _).append (dig_by _ _)).append (dig_by _ _)).append (dig_by _ _)).append (dig_by _ _)).append (dig_by _ _))
def encTx (t : TTx) : List Int := encB (encT t t.Proof)
def encBk (b : TBlock) : List Int := hdrS b ++ b.Txs.flatMap encTx
def namS (b : TBlock) : List Int := hdrS b ++ (b.Txs.map idS).flatMap (dig 8)
def zeroB : TBlock := ⟨0, 0, 0, 0, 0, []⟩
structure MN where
  b : TBlock
  ok : Bool
def mineN : Nat → TBlock → MN
  | 0, _ => ⟨zeroB, false⟩
  | k + 1, b => if Int.tmod (hashB 15 (namS b)) b.Work = 0 then ⟨b, true⟩ else if b.Nonce = 18446744073709551615 then ⟨zeroB, false⟩ else mineN k ⟨b.Parent, b.Height, b.Miner, b.Work, b.Nonce + 1, b.Txs⟩
def mineS (b : TBlock) (k : Int) : MN := if k ≤ 0 ∨ validB b ≠ 0 then ⟨zeroB, false⟩ else mineN k.toNat b
def sameB (a b : TBlock) : Bool := decide (a.Parent = b.Parent ∧ a.Height = b.Height ∧ a.Miner = b.Miner ∧ a.Work = b.Work ∧ a.Nonce = b.Nonce ∧ a.Txs.length = b.Txs.length ∧ ∀ i : Nat, i < a.Txs.length → sameT (ix a.Txs (i : Int)) (ix b.Txs (i : Int)) = true)
def smallBk (b : TBlock) : Bool := decide (b.Txs.length ≤ 6) && b.Txs.all (fun t => smallB t 100)
theorem k1np {b : TBlock} (h : smallBk b = true) : b.Txs.length ≤ 6 ∧ ∀ t ∈ b.Txs, smallB t 100 = true := by
  unfold smallBk at h
  simp only [Bool.and_eq_true, decide_eq_true_eq, List.all_eq_true] at h
  exact h
theorem k1ov (label : Int) (l : List Int) : U64 (hashB label l) := k1o5 _ _
theorem idS_u64 (t : TTx) : U64 (idS t) := by
  unfold idS
  split
  · exact k1ov _ _
  · omega
theorem k1kq {t : TTx} (h : validE t = 0) : (encTx t).length ≤ 1048884 := by
  have v := (k3t t).1 h
  have := v.enc_len t.Proof
  have := v.pl
  unfold encTx
  rw [keq]
  omega
theorem kin : ∀ (l : List TTx), (∀ x ∈ l, validE x = 0) → (l.flatMap encTx).length ≤ 1048884 * l.length
  | [], _ => by simp
  | x :: l, h => by
    have h1 := kin l (fun y hy => h y (by simp [hy]))
    have h2 := k1kq (h x (by simp))
    rw [List.flatMap_cons, List.length_append, List.length_cons]
    omega
theorem VT.bl {t : TTx} (h : VT t) (r : TR t) : TR t ∧ TL t ∧ t.Outs.length ≤ 1048576 ∧ ∀ x ∈ t.Outs, x.Cipher.length ≤ 1024 := ⟨r, h.tl, by have := h.ol; omega, fun x hx => by have := (h.o x hx).l; omega⟩
end Go.Proofs.Ytnmakgfmimagmaa
namespace Go.Proofs.Ytnmakgfmimagmaa
open Go Go.Bv Go.Cv Go.Md Go.RowKit
structure EB (x : TBlock) (b : List Int) : Prop where
  r : BR x
  v : VB x
  e : encBk x = b
open Classical in
noncomputable def decB (b : List Int) : TBlock × Int := if h : ∃ x, EB x b then (Classical.choose h, 0) else (zeroB, 2)
theorem k1e3 {b : List Int} (h : (decS b).2 = 0) : Enc (decS b).1 b := by
  unfold decS at *
  split
  · rename_i hx; exact Classical.choose_spec hx
  · rename_i hx; rw [dif_neg hx] at h; exact absurd h (by decide)
theorem kep (x : TBlock) : encBk x = dig 8 x.Parent ++ (dig 4 (len4 x.Height) ++ (dig 8 x.Miner ++ (dig 8 x.Work ++ (dig 8 x.Nonce ++ (dig 4 (len4 (x.Txs.length : Int)) ++ x.Txs.flatMap encTx))))) := by simp [encBk, hdrS, List.append_assoc]
theorem k1oe {x y : TTx} {r s : List Int} (xr : TR x) (xv : validE x = 0) (yr : TR y) (yv : validE y = 0) (h : encTx x ++ r = encTx y ++ s) : x = y ∧ r = s := by
  have xv := (k3t x).1 xv
  have yv := (k3t y).1 yv
  have xl := xv.enc_len x.Proof
  have xp := xv.pl
  have yl := yv.enc_len y.Proof
  have yp := yv.pl
  unfold encTx encB at h
  rw [len4_in (by omega), len4_in (by omega), List.append_assoc, List.append_assoc] at h
  have q := List.append_inj h (by simp)
  have q1 := dig_inj (k := 4) ⟨by omega, by omega⟩ ⟨by omega, by omega⟩ q.1
  have q2 := List.append_inj q.2 (by omega)
  exact ⟨enc_inj ⟨xr, xv, rfl⟩ ⟨yr, yv, q2.1.symm⟩, q2.2⟩
theorem k18u : ∀ (l m : List TTx), l.length = m.length → (∀ x ∈ l, TR x ∧ validE x = 0) → (∀ x ∈ m, TR x ∧ validE x = 0) → l.flatMap encTx = m.flatMap encTx → l = m
  | [], [], _, _, _, _ => rfl
  | [], _ :: _, h, _, _, _ => by simp at h
  | _ :: _, [], h, _, _, _ => by simp at h
  | x :: l, y :: m, h, hl, hm, e => by
    rw [List.flatMap_cons, List.flatMap_cons] at e
    have h1 := hl x (by simp)
    have h2 := hm y (by simp)
    obtain ⟨e1, e2⟩ := k1oe h1.1 h1.2 h2.1 h2.2 e
    rw [e1, k18u l m (by simpa using h) (fun z hz => hl z (by simp [hz])) (fun z hz => hm z (by simp [hz])) e2]
theorem eb_inj {x y : TBlock} {b : List Int} (hx : EB x b) (hy : EB y b) : x = y := by
  have h := hx.e.trans hy.e.symm
  rw [kep, kep] at h
  have x0 := hx.v.h
  have y0 := hy.v.h
  have a0 := x0.h0
  have a1 := x0.h1
  have a2 := x0.l
  have c0 := y0.h0
  have c1 := y0.h1
  have c2 := y0.l
  rw [len4_in (by omega), len4_in (by omega), len4_in (by omega), len4_in (by omega)] at h
  have e1 := List.append_inj h (by simp)
  have e2 := List.append_inj e1.2 (by simp)
  have e3 := List.append_inj e2.2 (by simp)
  have e4 := List.append_inj e3.2 (by simp)
  have e5 := List.append_inj e4.2 (by simp)
  have e6 := List.append_inj e5.2 (by simp)
  have d1 := dig_inj (k := 8) hx.r.p hy.r.p e1.1
  have d2 := dig_inj (k := 4) ⟨by omega, by omega⟩ ⟨by omega, by omega⟩ e2.1
  have d3 := dig_inj (k := 8) hx.r.m hy.r.m e3.1
  have d4 := dig_inj (k := 8) hx.r.w hy.r.w e4.1
  have d5 := dig_inj (k := 8) hx.r.n hy.r.n e5.1
  have d6 := dig_inj (k := 4) ⟨by omega, by omega⟩ ⟨by omega, by omega⟩ e6.1
  have d7 := k18u _ _ (by omega) (fun t ht => ⟨hx.r.t t ht, hx.v.t t ht⟩) (fun t ht => ⟨hy.r.t t ht, hy.v.t t ht⟩) e6.2
  cases x
  cases y
  simp_all
theorem decB_eb {b : List Int} {x : TBlock} (h : EB x b) : decB b = (x, 0) := by
  unfold decB
  have hex : ∃ x, EB x b := ⟨x, h⟩
  rw [dif_pos hex, eb_inj h (Classical.choose_spec hex)]
theorem decB_no {b : List Int} (h : ∀ x, ¬ EB x b) : decB b = (zeroB, 2) := by
  unfold decB
  rw [dif_neg fun ⟨x, hx⟩ => h x hx]
theorem k1nk (b : List Int) : (∃ x, EB x b ∧ decB b = (x, 0)) ∨ decB b = (zeroB, 2) := by
  by_cases h : ∃ x, EB x b
  · obtain ⟨x, hx⟩ := h; exact .inl ⟨x, hx, decB_eb hx⟩
  · exact .inr (decB_no fun x hx => h ⟨x, hx⟩)
theorem k1pp {t : TTx} (h : By t.Proof) : By (encTx t) := ((dig_by _ _).append (encT_by h))
theorem k1p7 {b : TBlock} (h : ∀ x ∈ b.Txs, TR x) : By (encBk b) := (hdrS_by b).append fun x hx => by
  obtain ⟨t, ht, hx⟩ := List.mem_flatMap.1 hx
  exact k1pp (h t ht).p x hx
theorem VB.td {b : TBlock} (h : VB b) (r : ∀ x ∈ b.Txs, TR x) : ∀ x ∈ b.Txs, TD x := fun x hx => Enc.td (b := encT x x.Proof) ⟨r x hx, (k3t x).1 (h.t x hx), rfl⟩
theorem kwu (b : TBlock) : sameB b b = true := decide_eq_true ⟨rfl, rfl, rfl, rfl, rfl, rfl, fun i _ => k1nm _⟩
end Go.Proofs.Ytnmakgfmimagmaa
namespace Go.Proofs.Ytnmakgfmimagmaa
open Go Go.Bv Go.Cv Go.Md Go.RowKit
structure RB where
  l : List Int
  b : List Int
  f : Bool
structure RN where
  n : Int
  b : List Int
  f : Bool
def tkB (b : List Int) (f : Bool) (k : Int) : RB := if f = true ∨ (b.length : Int) < k then ⟨[], b, true⟩ else ⟨b.take k.toNat, b.drop k.toNat, false⟩
def nB (k : Int) (b : List Int) (f : Bool) (m : Int) : RN := if (tkB b f k).f = true ∨ m < val (tkB b f k).l then ⟨0, (tkB b f k).b, true⟩ else ⟨val (tkB b f k).l, (tkB b f k).b, false⟩
def bB (b : List Int) (f : Bool) (m : Int) : RB := tkB (nB 4 b f m).b (nB 4 b f m).f (nB 4 b f m).n
section
variable {b r : List Int} {f : Bool} {k m n : Int}
theorem tkB_l (h : By b) : By (tkB b f k).l := by
  unfold tkB; split
  · intro x hx; cases hx
  · exact h.take _
theorem tkB_b (h : By b) : By (tkB b f k).b ∧ (tkB b f k).b.length ≤ b.length := by
  unfold tkB; split
  · exact ⟨h, Nat.le_refl _⟩
  · exact ⟨h.drop _, by show (b.drop _).length ≤ _; rw [List.length_drop]; omega⟩
theorem tkB_len : ((tkB b f k).l.length : Int) ≤ max k 0 := by
  unfold tkB; split
  · simp; omega
  · show ((b.take _).length : Int) ≤ _; rw [List.length_take]; omega
theorem tkB_snd (hk : 0 ≤ k) (h : (tkB b f k).f = false) : f = false ∧ b = (tkB b f k).l ++ (tkB b f k).b ∧ ((tkB b f k).l.length : Int) = k := by
  unfold tkB at *
  split at h
  · cases h
  · rename_i hn
    rw [if_neg hn]
    refine ⟨?_, (List.take_append_drop _ _).symm, ?_⟩
    · cases f
      · rfl
      · exact absurd (.inl rfl) hn
    · show ((b.take k.toNat).length : Int) = k
      have : ¬ (b.length : Int) < k := fun h => hn (.inr h)
      rw [List.length_take]; omega
theorem tkB_cpl {l : List Int} (hf : f = false) (h : b = l ++ r) (hl : (l.length : Int) = k) : tkB b f k = ⟨l, r, false⟩ := by
  subst h
  unfold tkB
  rw [if_neg (by rw [hf, List.length_append]; simp; omega), show k.toNat = l.length by omega, List.take_left' rfl, List.drop_left' rfl]
theorem nB_b (h : By b) : By (nB k b f m).b ∧ (nB k b f m).b.length ≤ b.length := by
  unfold nB; split <;> exact tkB_b h
theorem nB_n (h : By b) (hk : 0 ≤ k) : 0 ≤ (nB k b f m).n ∧ (nB k b f m).n < 256 ^ k.toNat := by
  unfold nB; split
  · exact ⟨Int.le_refl 0, kdq _⟩
  · have h1 := kb5 _ (tkB_l (f := f) (k := k) h)
    have h2 := tkB_len (b := b) (f := f) (k := k)
    have h3 : (256 : Int) ^ (tkB b f k).l.length ≤ 256 ^ k.toNat := kjt (by omega)
    exact ⟨h1.1, Int.lt_of_lt_of_le h1.2 h3⟩
theorem nB_snd (h : By b) (hk : 0 ≤ k) (hf : (nB k b f m).f = false) : f = false ∧ b = dig k.toNat (nB k b f m).n ++ (nB k b f m).b ∧ (nB k b f m).n ≤ m := by
  unfold nB at *
  split at hf
  · cases hf
  · rename_i hn
    rw [if_neg hn]
    have ht : (tkB b f k).f = false := by
      cases hc : (tkB b f k).f
      · rfl
      · exact absurd (.inl hc) hn
    obtain ⟨h1, h2, h3⟩ := tkB_snd hk ht
    refine ⟨h1, ?_, by show val _ ≤ m; have : ¬ m < val (tkB b f k).l := fun h => hn (.inr h); omega⟩
    show b = dig k.toNat (val (tkB b f k).l) ++ (tkB b f k).b
    have := dig_val (tkB b f k).l (tkB_l h)
    rw [show (tkB b f k).l.length = k.toNat by omega] at this
    rw [this]
    exact h2
theorem nB_cpl (hk : 0 ≤ k) (hf : f = false) (h : b = dig k.toNat n ++ r) (h0 : 0 ≤ n) (h1 : n < 256 ^ k.toNat) (hm : n ≤ m) : nB k b f m = ⟨n, r, false⟩ := by
  unfold nB
  rw [tkB_cpl hf h (by rw [k1i]; omega)]
  show (if false = true ∨ m < val (dig k.toNat n) then _ else _) = _
  rw [val_dig k.toNat n h0 h1, if_neg (by simp; omega)]
theorem bB_l (h : By b) : By (bB b f m).l := tkB_l (nB_b h).1
theorem bB_b (h : By b) : By (bB b f m).b ∧ (bB b f m).b.length ≤ b.length := ⟨(tkB_b (nB_b h).1).1, Nat.le_trans (tkB_b (nB_b h).1).2 (nB_b h).2⟩
theorem bB_len (h : By b) : (bB b f m).l.length ≤ b.length := by
  unfold bB tkB
  split
  · exact Nat.zero_le _
  · show (List.take _ _).length ≤ _
    rw [List.length_take]
    exact Nat.le_trans (Nat.min_le_right _ _) (nB_b h).2
theorem bB_snd (h : By b) (hf : (bB b f m).f = false) : f = false ∧ b = encB (bB b f m).l ++ (bB b f m).b := by
  have hn := nB_n (m := m) (f := f) h (k := 4) (by omega)
  obtain ⟨h1, h2, h3⟩ := tkB_snd (b := (nB 4 b f m).b) (f := (nB 4 b f m).f) (k := (nB 4 b f m).n) hn.1 hf
  obtain ⟨g1, g2, g3⟩ := nB_snd (m := m) h (k := 4) (by omega) h1
  refine ⟨g1, ?_⟩
  show b = encB (tkB (nB 4 b f m).b (nB 4 b f m).f (nB 4 b f m).n).l ++ (tkB (nB 4 b f m).b (nB 4 b f m).f (nB 4 b f m).n).b
  have h4 : (256 : Int) ^ (4 : Int).toNat = 4294967296 := by decide
  unfold encB
  rw [h3, len4_in (by omega), List.append_assoc, ← h2]
  exact g2
theorem bB_cpl {l : List Int} (hf : f = false) (h : b = encB l ++ r) (hl : l.length ≤ 4294967295) (hm : (l.length : Int) ≤ m) : bB b f m = ⟨l, r, false⟩ := by
  unfold encB at h
  rw [len4_in (by omega), List.append_assoc] at h
  have h4 : (256 : Int) ^ (4 : Int).toNat = 4294967296 := by decide
  have e := nB_cpl (k := 4) (m := m) (by omega) hf h (by omega) (by omega) hm
  unfold bB
  rw [e]
  exact tkB_cpl rfl rfl rfl
end
end Go.Proofs.Ytnmakgfmimagmaa
namespace Go.Proofs.Ytnmakgfmimagmaa
open Go Go.Bv Go.Cv Go.Md Go.RowKit
theorem k12o.tr {t : TTx} (h : k12o t) : TR t ∧ t.Outs.length ≤ 9223372036854775807 :=
  ⟨⟨h.Anchor, h.Marks.2, fun x hx => let y := h.Outs.2 x hx; ⟨y.Commit, y.Point_a0, y.Point_a1, y.Cipher.2⟩, h.Deposit, h.Withdraw, h.Fee, h.Account, h.Nonce, by have := h.Expiry; omega, h.Proof.2⟩, h.Outs.1⟩
end Go.Proofs.Ytnmakgfmimagmaa
namespace Go.Proofs.Ytnmakgfmimagmaa
open Go Go.Bv Go.Cv Go.Md Go.RowKit
theorem kj6.tr {b : TBlock} (h : kj6 b) : ∀ x ∈ b.Txs, TR x ∧ x.Outs.length ≤ 9223372036854775807 := fun x hx => (h.Txs.2 x hx).tr
theorem kj6.br {b : TBlock} (h : kj6 b) : BR b := ⟨h.Parent, h.Miner, h.Work, h.Nonce, by have := h.Height; omega, fun x hx => (h.tr x hx).1⟩
theorem kyp {p0 : TBlock} (h0 : kj6 p0) : BR p0 ∧ ∀ x ∈ p0.Txs, x.Outs.length ≤ 9223372036854775807 := ⟨h0.br, fun x hx => (h0.tr x hx).2⟩
theorem kym {p0 : List Int} (h0 : p0.length ≤ 9223372036854775807 ∧ ∀ y ∈ p0, 0 ≤ y ∧ y < 256) : By p0 ∧ p0.length ≤ 9223372036854775807 := ⟨h0.2, h0.1⟩
end Go.Proofs.Ytnmakgfmimagmaa
namespace Go.Proofs.Ytnmakgfmimagmaa
open Go Go.Bv Go.Cv Go.Md Go.RowKit
def k2f : Con TB.den := Con.mk0 76 [.one (.ptr 0 0)] [.cells [.d (.sl (.int .u8)), .d (.int .i64), .d (.bool)]] (.one (.one (.d (.int .i64)))) [.cells [.d (.sl (.int .u8)), .d (.int .i64), .d (.bool)]]
abbrev kxx := HL TB.den (hsT k2f.ins (hsOs k2f.pre))
abbrev kii := HL TB.den (hsV k2f.res (hsOs k2f.post))
noncomputable def kc7 : Cx TB := ⟨inf, [], [], 4⟩
noncomputable def kjg : Code := Try.f76.body.getD .skip
noncomputable def klp : List ResultVar := Try.f76.results.toList
noncomputable def ktx (o : kii) : An TB := .no
noncomputable def kjl (x : kxx) (o : kii) : Prop := WPh TB kc7 13 1 kjg (ktx o) (k2f.st TB x) (retTQ TB kc7 k2f klp o)
set_option maxRecDepth 100000 in
theorem k19t (o : kii) : OblH TB kc7 13 1 kjg (ktx o) (retTQ TB kc7 k2f klp o) :=
  OblH.of_eq (X := (True ∧ (True ∧ True))) (by kernel_rfl) ⟨trivial, ⟨trivial, trivial⟩⟩
set_option maxRecDepth 100000 in
theorem k19c {x : kxx} {o : kii} (h : kjl x o) : SoundH Try.prog k2f.f ((k2f.args idf x).map (er TB)) ((k2f.obs idf x).map (erO TB)) (er TB (k2f.val idf o)) ((k2f.ops idf o).map (erO TB)) :=
  Con.soundH (c := k2f) (C := kc7) TBok ⟨inf_ok, all_nil, all_nil⟩ mix Try.func76 (show Try.f76.body = some kjg by kernel_rfl) (show Try.f76.ntmps = 13 by kernel_rfl) (show Try.f76.results.toList = klp by kernel_rfl) rfl h (k19t o)
set_option maxRecDepth 100000 in
theorem k1c9 {c0_0 : List Int} {c0_1 : Int} {c0_2 : Bool} {r0 : Int} {d0_0 : List Int} {d0_1 : Int} {d0_2 : Bool} (h :
(let v1 : Int := IntKind.i64.wrap ((c0_0.length : Int) - c0_1)
 v1 = r0 ∧ c0_0 = d0_0 ∧ c0_1 = d0_1 ∧ c0_2 = d0_2)) : kjl (c0_0, c0_1, c0_2, ()) (r0, d0_0, d0_1, d0_2, ()) := WPh.of_eq (by kernel_rfl) h
theorem bd76 : Callable Try.prog 76 := ⟨by rw [Try.func76]; kernel_rfl, by rw [Try.func76]; show some _ ≠ some _; decide⟩
theorem k175 (c0_0 : List Int) (c0_1 : Int) (c0_2 : Bool) (h : (0 ≤ c0_1 ∧ c0_1 ≤ c0_0.length) ∧ c0_0.length ≤ 137438953472) : kjl (c0_0, c0_1, c0_2, ()) (((c0_0.length : Int) - c0_1 : Int), (c0_0 : List Int), (c0_1 : Int), (c0_2 : Bool), ()) := by
  exact k1c9 ⟨wi _ (by omega) (by omega), rfl, rfl, rfl⟩
noncomputable def kf6 : Con TB.den := k2f.fnR (fun x => (fun (c0_0 : List Int) (c0_1 : Int) (c0_2 : Bool) => (0 ≤ c0_1 ∧ c0_1 ≤ c0_0.length) ∧ c0_0.length ≤ 137438953472) x.1 x.2.1 x.2.2.1) fun x => ((fun (c0_0 : List Int) (c0_1 : Int) (c0_2 : Bool) => ((c0_0.length : Int) - c0_1 : Int)) x.1 x.2.1 x.2.2.1, (fun (c0_0 : List Int) (c0_1 : Int) (c0_2 : Bool) => (c0_0 : List Int)) x.1 x.2.1 x.2.2.1, (fun (c0_0 : List Int) (c0_1 : Int) (c0_2 : Bool) => (c0_1 : Int)) x.1 x.2.1 x.2.2.1, (fun (c0_0 : List Int) (c0_1 : Int) (c0_2 : Bool) => (c0_2 : Bool)) x.1 x.2.1 x.2.2.1, ())
theorem kli : kf6.Ok Try.prog TB := Con.ok_fn k2f bd76 fun x h => k19c (k175 x.1 x.2.1 x.2.2.1 h)
end Go.Proofs.Ytnmakgfmimagmaa
namespace Go.Proofs.Ytnmakgfmimagmaa
open Go Go.Bv Go.Cv Go.Md Go.RowKit
def ko : Con TB.den := Con.mk0 75 [.one (.ptr 0 0), .one (.d (.int .i64))] [.cells [.d (.sl (.int .u8)), .d (.int .i64), .d (.bool)]] (.tup [.one (.d (.int .u64)), .one (.d (.bool))]) [.cells [.d (.sl (.int .u8)), .d (.int .i64), .d (.bool)]]
abbrev ksb := HL TB.den (hsT ko.ins (hsOs ko.pre))
abbrev k3c := HL TB.den (hsV ko.res (hsOs ko.post))
noncomputable def k2a : Cx TB := ⟨inf, [kf6], [], 4⟩
noncomputable def k5c : Code := Try.f75.body.getD .skip
noncomputable def k67 : List ResultVar := Try.f75.results.toList
noncomputable def k153 (o : k3c) : Exit → TSt TB.den → Prop := thenT TB (fun s => ghs TB [] s fun s => WP TB k2a 53 1 (cB (cB (cB (cB k5c)))) .no s (retTQ TB k2a ko k67 o)) (retTQ TB k2a ko k67 o)
def k63 : Tm := ⟨[0], [.cells [.d (.sl (.int .u8)), .d (.int .i64), .d (.bool)]], [0, 1, 6, 21, 22], [.one (.ptr 0 0), .one (.d (.int .i64)), .one (.d (.int .u64)), .one (.d (.int .i64)), .one (.d (.int .i64))], 1⟩
noncomputable def k16h (o : k3c) (nx1 : HL TB.den k63.hs → Prop) : Exit → TSt TB.den → Prop := thenT TB (fun s => k63.mat TB 1 s nx1) (blockT TB 0 (k153 o))
noncomputable def kaf (o : k3c) (nx1 : HL TB.den k63.hs → Prop) (i : HL TB.den k63.hs) : Prop := WP TB k2a 53 1 (cA (cA (cB (cA (cB (cB (cB k5c))))))) .no (k63.fill TB i) (k16h o nx1)
noncomputable def kpt (o : k3c) : An TB := .nd [] .no [] (.lp [] k63 (kaf o) fun nx1 => .no)
noncomputable def k17f (o : k3c) : Exit → TSt TB.den → Prop := thenT TB (fun s => ghs TB [] s fun s => WP TB k2a 53 1 (cB (cB k5c)) (.nd [] .no [] (.nd [] (kpt o) [] .no)) s (retTQ TB k2a ko k67 o)) (retTQ TB k2a ko k67 o)
def kc2 : Tm := ⟨[0], [.cells [.d (.sl (.int .u8)), .d (.int .i64), .d (.bool)]], [0, 1, 17], [.one (.ptr 0 0), .one (.d (.int .i64)), .one (.d (.bool))], 1⟩
noncomputable def kop (o : k3c) (i : HL TB.den kc2.hs) : Prop := ghs TB [] (kc2.fill TB i) fun s => WP TB k2a 53 1 (cB (cA (cB k5c))) .no s (k17f o)
structure k62 (o : k3c) (i : HL TB.den kc2.hs) : Prop where
  h : kop o i
noncomputable def k17k (o : k3c) : An TB := .nd [] (.jn kc2 (k62 o) [] .no [] .no) [] (.nd [] .no [] (.nd [] (kpt o) [] .no))
noncomputable def kqy (o : k3c) : An TB := .nd [] .no [] (k17k o)
noncomputable def kfy (x : ksb) (o : k3c) : Prop := WPh TB k2a 53 1 k5c (kqy o) (ko.st TB x) (retTQ TB k2a ko k67 o)
set_option maxRecDepth 100000 in
theorem k13k (o : k3c) : OblH TB k2a 53 1 k5c (kqy o) (retTQ TB k2a ko k67 o) :=
  OblH.of_eq (X := (True ∧ ((True ∧ (∀ i, (k62 o) i = (kop o) i) ∧ ((True ∧ (True ∧ True)) ∧ True)) ∧ (True ∧ ((True ∧ ((∀ nx i, (kaf o) nx i = (kaf o) nx i) ∧ ∀ nx1 : HL TB.den k63.hs → Prop, (True ∧ ((True ∧ True) ∧ ((True ∧ True) ∧ True))))) ∧ (True ∧ (True ∧ True))))))) (by kernel_rfl) ⟨trivial, ⟨⟨trivial, fun _ => propext ⟨fun h => h.1, fun h => ⟨h⟩⟩, ⟨⟨trivial, ⟨trivial, trivial⟩⟩, trivial⟩⟩, ⟨trivial, ⟨⟨trivial, ⟨fun _ _ => rfl, fun _ => ⟨trivial, ⟨⟨trivial, trivial⟩, ⟨⟨trivial, trivial⟩, trivial⟩⟩⟩⟩⟩, ⟨trivial, ⟨trivial, trivial⟩⟩⟩⟩⟩⟩
set_option maxRecDepth 100000 in
theorem k13p {x : ksb} {o : k3c} (h : kfy x o) : SoundH Try.prog ko.f ((ko.args idf x).map (er TB)) ((ko.obs idf x).map (erO TB)) (er TB (ko.val idf o)) ((ko.ops idf o).map (erO TB)) :=
  Con.soundH (c := ko) (C := k2a) TBok ⟨inf_ok, (all_cons kli all_nil), all_nil⟩ mix Try.func75 (show Try.f75.body = some k5c by kernel_rfl) (show Try.f75.ntmps = 53 by kernel_rfl) (show Try.f75.results.toList = k67 by kernel_rfl) rfl h (k13k o)
set_option maxRecDepth 100000 in
theorem k16d {p1 : Int} {c0_0 : List Int} {c0_1 : Int} {c0_2 : Bool} {r0 : Int} {r1 : Bool} {d0_0 : List Int} {d0_1 : Int} {d0_2 : Bool} (h :
((c0_2 = true →
 k62 (r0, r1, d0_0, d0_1, d0_2, ()) (p1, true, c0_0, c0_1, c0_2, ())) ∧
(c0_2 = false →
((0 ≤ c0_1 ∧ c0_1 ≤ c0_0.length) ∧ c0_0.length ≤ 137438953472) ∧ let v2 : Bool := decide (((c0_0.length : Int) - c0_1) < p1)
 k62 (r0, r1, d0_0, d0_1, d0_2, ()) (p1, v2, c0_0, c0_1, c0_2, ())))) : kfy (p1, c0_0, c0_1, c0_2, ()) (r0, r1, d0_0, d0_1, d0_2, ()) := WPh.of_eq (by kernel_rfl) h
set_option maxRecDepth 100000 in
theorem klb {r0 : Int} {r1 : Bool} {d0_0 : List Int} {d0_1 : Int} {d0_2 : Bool} {s1 : Int} {s17 : Bool} {h0_0 : List Int} {h0_1 : Int} {h0_2 : Bool} (h :
((s17 = true →
 0 = r0 ∧ false = r1 ∧ h0_0 = d0_0 ∧ h0_1 = d0_1 ∧ true = d0_2) ∧
(s17 = false →
 Md.Loop (s1, (0 : Int), s1, (0 : Int), h0_0, h0_1, h0_2, ()) (kaf (r0, r1, d0_0, d0_1, d0_2, ()))))) : k62 (r0, r1, d0_0, d0_1, d0_2, ()) (s1, s17, h0_0, h0_1, h0_2, ()) := ⟨mpr_of (by kernel_rfl) h⟩
def kqk (r0 : Int) (r1 : Bool) (d0_0 : List Int) (d0_1 : Int) (d0_2 : Bool) (k1 : Int → Int → Prop) (s1 : Int) (s21 : Int) (h0_0 : List Int) (h0_1 : Int) (h0_2 : Bool) (s6 : Int) (s22 : Int) : Prop :=
(decide (s22 < s21) = true →
(0 ≤ IntKind.i64.wrap (h0_1 + s22)) ∧ IntKind.i64.wrap (h0_1 + s22) < (h0_0.length : Int) ∧ let v3 : Int := IntKind.u64.wrap (ix h0_0 (IntKind.i64.wrap (h0_1 + s22)))
(0 ≤ IntKind.i64.wrap (8 * s22)) ∧ let v4 : Int := ishl .u64 v3 (IntKind.i64.wrap (8 * s22))
 k1 (ior .u64 s6 v4 : Int) (IntKind.i64.wrap (s22 + 1) : Int)) ∧
(decide (s22 < s21) = false →
 s6 = r0 ∧ true = r1 ∧ h0_0 = d0_0 ∧ IntKind.i64.wrap (h0_1 + s1) = d0_1 ∧ h0_2 = d0_2)
set_option maxRecDepth 100000 in
theorem k13j {r0 : Int} {r1 : Bool} {d0_0 : List Int} {d0_1 : Int} {d0_2 : Bool} {s1 : Int} {s21 : Int} {h0_0 : List Int} {h0_1 : Int} {h0_2 : Bool} {s6 : Int} {s22 : Int} (inv : Int → Int → Prop) (μ : Int → Int → Nat) (h0 : inv s6 s22) (hs : ∀ (s6 : Int) (s22 : Int), inv s6 s22 → kqk r0 r1 d0_0 d0_1 d0_2 (fun s6q s22q => inv s6q s22q ∧ μ s6q s22q < μ s6 s22) s1 s21 h0_0 h0_1 h0_2 s6 s22) : Md.Loop (s1, s6, s21, s22, h0_0, h0_1, h0_2, ()) (kaf (r0, r1, d0_0, d0_1, d0_2, ())) :=
  ⟨⟨fun s : Int × Int × Int × Int × (List Int) × Int × Bool × Unit => (s.1 = s1 ∧ s.2.2.1 = s21 ∧ s.2.2.2.2.1 = h0_0 ∧ s.2.2.2.2.2.1 = h0_1 ∧ s.2.2.2.2.2.2.1 = h0_2) ∧ inv s.2.1 s.2.2.2.1, fun s : Int × Int × Int × Int × (List Int) × Int × Bool × Unit => μ s.2.1 s.2.2.2.1, ⟨⟨rfl, rfl, rfl, rfl, rfl⟩, h0⟩, fun (s1p, s6p, s21p, s22p, h0_0p, h0_1p, h0_2p, ()) ⟨⟨eq0, eq1, eq2, eq3, eq4⟩, hi⟩ => by
    have eq0 : s1p = s1 := eq0; subst s1p; have eq1 : s21p = s21 := eq1; subst s21p; have eq2 : h0_0p = h0_0 := eq2; subst h0_0p; have eq3 : h0_1p = h0_1 := eq3; subst h0_1p; have eq4 : h0_2p = h0_2 := eq4; subst h0_2p; exact mpr_of (by kernel_rfl) ((congrArg (fun k => kqk r0 r1 d0_0 d0_1 d0_2 k s1 s21 h0_0 h0_1 h0_2 s6p s22p) (lpk2 (⟨rfl, rfl, rfl, rfl, rfl⟩ : s1 = s1 ∧ s21 = s21 ∧ h0_0 = h0_0 ∧ h0_1 = h0_1 ∧ h0_2 = h0_2) inv (fun s6q s22q => μ s6q s22q < μ s6p s22p))).mpr (hs s6p s22p hi))⟩⟩
theorem bd75 : Callable Try.prog 75 := ⟨by rw [Try.func75]; kernel_rfl, by rw [Try.func75]; show some _ ≠ some _; decide⟩
theorem kzq (p1 : Int) (c0_0 : List Int) (c0_1 : Int) (c0_2 : Bool) (h : RdOk c0_0 c0_1 ∧ 1 ≤ p1 ∧ p1 ≤ 8) : kfy (p1, c0_0, c0_1, c0_2, ()) (((rdD c0_0 c0_1 c0_2 p1).n : Int), ((rdD c0_0 c0_1 c0_2 p1).ok : Bool), (c0_0 : List Int), ((rdD c0_0 c0_1 c0_2 p1).pos : Int), ((rdD c0_0 c0_1 c0_2 p1).fail : Bool), ()) := by
  obtain ⟨⟨hb, hl, h0, h1⟩, h2, h3⟩ := h
  have jf : (c0_2 = true ∨ (c0_0.length : Int) - c0_1 < p1) → k62 ((rdD c0_0 c0_1 c0_2 p1).n, (rdD c0_0 c0_1 c0_2 p1).ok, c0_0, (rdD c0_0 c0_1 c0_2 p1).pos, (rdD c0_0 c0_1 c0_2 p1).fail, ()) (p1, true, c0_0, c0_1, c0_2, ()) := by
    intro h
    refine klb ⟨fun _ => ?_, fun h => by simp at h⟩
    unfold rdD
    rw [if_pos h]
    exact ⟨rfl, rfl, rfl, rfl, rfl⟩
  have jt : ¬ (c0_2 = true ∨ (c0_0.length : Int) - c0_1 < p1) → k62 ((rdD c0_0 c0_1 c0_2 p1).n, (rdD c0_0 c0_1 c0_2 p1).ok, c0_0, (rdD c0_0 c0_1 c0_2 p1).pos, (rdD c0_0 c0_1 c0_2 p1).fail, ()) (p1, false, c0_0, c0_1, c0_2, ()) := by
    intro h
    refine klb ⟨fun h => by simp at h, fun _ => ?_⟩
    have hD : rdD c0_0 c0_1 c0_2 p1 = ⟨val ((c0_0.drop c0_1.toNat).take p1.toNat), true, c0_1 + p1, false⟩ := by unfold rdD; rw [if_neg h]
    rw [hD]
    refine k13j (fun n i => 0 ≤ i ∧ i ≤ p1 ∧ n = val ((c0_0.drop c0_1.toNat).take i.toNat)) (fun _ i => (p1 - i).toNat) ⟨by omega, by omega, rfl⟩ ?_
    rintro n i ⟨g0, g1, rfl⟩
    refine ⟨fun hh => ?_, fun hh => ?_⟩
    · have hh := of_decide_eq_true hh
      have hlen : (((c0_0.drop c0_1.toNat).take i.toNat).length : Int) = i := by rw [List.length_take, List.length_drop]; omega
      have hix : ix c0_0 (c0_1 + i) = ix (c0_0.drop c0_1.toNat) i := by
        rw [ix_nat _ _ (by omega) (by omega), ix_nat _ _ g0 (by rw [List.length_drop]; omega), List.getElem_drop]
        congr 1
        omega
      have hx := hb _ (ix_mem c0_0 (c0_1 + i) (by omega) (by omega))
      have hv := ior_val ((c0_0.drop c0_1.toNat).take i.toNat) (ix (c0_0.drop c0_1.toNat) i) ((hb.drop _).take _) (by omega) (by rw [← hix]; exact hx)
      rw [hlen] at hv
      rw [inc i p1 g0 hh (by omega), wi (c0_1 + i) (by omega) (by omega), wi (8 * i) (by omega) (by omega), wu (ix c0_0 (c0_1 + i)) (by omega) (by omega), hix]
      simp only [hv]
      refine ⟨by omega, by omega, by omega, ⟨by omega, by omega, ?_⟩, by omega⟩
      rw [ka _ i g0 (by rw [List.length_drop]; omega)]
    · have hh := of_decide_eq_false hh
      have h4 : c0_2 = false := by
        cases hc : c0_2
        · rfl
        · exact absurd (.inl hc) h
      exact ⟨by rw [show i = p1 by omega], rfl, rfl, wi _ (by omega) (by omega), h4⟩
  refine k16d ⟨fun h => jf (.inl h), fun h => ⟨⟨⟨h0, h1⟩, hl⟩, ?_⟩⟩
  by_cases hq : (c0_0.length : Int) - c0_1 < p1
  · rw [decide_eq_true hq]; exact jf (.inr hq)
  · rw [decide_eq_false hq]; exact jt (by rw [h]; simpa using hq)
noncomputable def kc3 : Con TB.den := { ko with R := fun x K => (fun (p1 : Int) (c0_0 : List Int) (c0_1 : Int) (c0_2 : Bool) => ((RdOk c0_0 c0_1 ∧ 1 ≤ p1 ∧ p1 ≤ 8) ∧ ∀ (v0 : Int) (v1 : Bool) (v3 : Int) (v4 : Bool), (v0 = ((rdD c0_0 c0_1 c0_2 p1).n) ∧ v1 = ((rdD c0_0 c0_1 c0_2 p1).ok) ∧ v3 = ((rdD c0_0 c0_1 c0_2 p1).pos) ∧ v4 = ((rdD c0_0 c0_1 c0_2 p1).fail)) → K (v0, v1, (c0_0 : List Int), v3, v4, ()) : Prop)) x.1 x.2.1 x.2.2.1 x.2.2.2.1 }
theorem kjj : kc3.Ok Try.prog TB := ⟨bd75, fun x K hx => ⟨((fun (p1 : Int) (c0_0 : List Int) (c0_1 : Int) (c0_2 : Bool) => ((rdD c0_0 c0_1 c0_2 p1).n : Int)) x.1 x.2.1 x.2.2.1 x.2.2.2.1, (fun (p1 : Int) (c0_0 : List Int) (c0_1 : Int) (c0_2 : Bool) => ((rdD c0_0 c0_1 c0_2 p1).ok : Bool)) x.1 x.2.1 x.2.2.1 x.2.2.2.1, (fun (p1 : Int) (c0_0 : List Int) (c0_1 : Int) (c0_2 : Bool) => (c0_0 : List Int)) x.1 x.2.1 x.2.2.1 x.2.2.2.1, (fun (p1 : Int) (c0_0 : List Int) (c0_1 : Int) (c0_2 : Bool) => ((rdD c0_0 c0_1 c0_2 p1).pos : Int)) x.1 x.2.1 x.2.2.1 x.2.2.2.1, (fun (p1 : Int) (c0_0 : List Int) (c0_1 : Int) (c0_2 : Bool) => ((rdD c0_0 c0_1 c0_2 p1).fail : Bool)) x.1 x.2.1 x.2.2.1 x.2.2.2.1, ()), hx.2 ((fun (p1 : Int) (c0_0 : List Int) (c0_1 : Int) (c0_2 : Bool) => (((rdD c0_0 c0_1 c0_2 p1).n))) x.1 x.2.1 x.2.2.1 x.2.2.2.1) ((fun (p1 : Int) (c0_0 : List Int) (c0_1 : Int) (c0_2 : Bool) => (((rdD c0_0 c0_1 c0_2 p1).ok))) x.1 x.2.1 x.2.2.1 x.2.2.2.1) ((fun (p1 : Int) (c0_0 : List Int) (c0_1 : Int) (c0_2 : Bool) => (((rdD c0_0 c0_1 c0_2 p1).pos))) x.1 x.2.1 x.2.2.1 x.2.2.2.1) ((fun (p1 : Int) (c0_0 : List Int) (c0_1 : Int) (c0_2 : Bool) => (((rdD c0_0 c0_1 c0_2 p1).fail))) x.1 x.2.1 x.2.2.1 x.2.2.2.1) ⟨rfl, rfl, rfl, rfl⟩, k13p (kzq x.1 x.2.1 x.2.2.1 x.2.2.2.1 hx.1)⟩⟩
end Go.Proofs.Ytnmakgfmimagmaa
namespace Go.Proofs.Ytnmakgfmimagmaa
open Go Go.Bv Go.Cv Go.Md Go.RowKit
def k2j : Con TB.den := Con.mk0 49 [.one (.ptr 0 0), .one (.d (.int .i64))] [.cells [.d (.sl (.int .u8)), .d (.int .i64), .d (.bool)]] (.one (.one (.d (.int .i64)))) [.cells [.d (.sl (.int .u8)), .d (.int .i64), .d (.bool)]]
abbrev k108 := HL TB.den (hsT k2j.ins (hsOs k2j.pre))
abbrev k8a := HL TB.den (hsV k2j.res (hsOs k2j.post))
noncomputable def k5z : Cx TB := ⟨inf, [kc3], [], 4⟩
noncomputable def kbq : Code := Try.f49.body.getD .skip
noncomputable def kek : List ResultVar := Try.f49.results.toList
noncomputable def k1f8 (o : k8a) : Exit → TSt TB.den → Prop := thenT TB (fun s => ghs TB [] s fun s => WP TB k5z 25 1 (cB (cB (cB kbq))) .no s (retTQ TB k5z k2j kek o)) (retTQ TB k5z k2j kek o)
def kh7 : Tm := ⟨[0], [.cells [.d (.sl (.int .u8)), .d (.int .i64), .d (.bool)]], [0, 5, 19], [.one (.ptr 0 0), .one (.d (.int .u64)), .one (.d (.bool))], 1⟩
noncomputable def kuw (o : k8a) (i : HL TB.den kh7.hs) : Prop := ghs TB [] (kh7.fill TB i) fun s => WP TB k5z 25 1 (cB (cA (cB (cB kbq)))) .no s (k1f8 o)
structure kee (o : k8a) (i : HL TB.den kh7.hs) : Prop where
  h : kuw o i
noncomputable def k1fm (o : k8a) : An TB := .nd [] (.jn kh7 (kee o) [] .no [] .no) [] .no
noncomputable def kyc (o : k8a) : An TB := .nd [] .no [] (.nd [] .no [] (k1fm o))
noncomputable def kk3 (x : k108) (o : k8a) : Prop := WPh TB k5z 25 1 kbq (kyc o) (k2j.st TB x) (retTQ TB k5z k2j kek o)
set_option maxRecDepth 100000 in
theorem k1b7 (o : k8a) : OblH TB k5z 25 1 kbq (kyc o) (retTQ TB k5z k2j kek o) :=
  OblH.of_eq (X := (True ∧ (True ∧ ((True ∧ (∀ i, (kee o) i = (kuw o) i) ∧ ((True ∧ (True ∧ True)) ∧ True)) ∧ (True ∧ True))))) (by kernel_rfl) ⟨trivial, ⟨trivial, ⟨⟨trivial, fun _ => propext ⟨fun h => h.1, fun h => ⟨h⟩⟩, ⟨⟨trivial, ⟨trivial, trivial⟩⟩, trivial⟩⟩, ⟨trivial, trivial⟩⟩⟩⟩
set_option maxRecDepth 100000 in
theorem k1du {x : k108} {o : k8a} (h : kk3 x o) : SoundH Try.prog k2j.f ((k2j.args idf x).map (er TB)) ((k2j.obs idf x).map (erO TB)) (er TB (k2j.val idf o)) ((k2j.ops idf o).map (erO TB)) :=
  Con.soundH (c := k2j) (C := k5z) TBok ⟨inf_ok, (all_cons kjj all_nil), all_nil⟩ mix Try.func49 (show Try.f49.body = some kbq by kernel_rfl) (show Try.f49.ntmps = 25 by kernel_rfl) (show Try.f49.results.toList = kek by kernel_rfl) rfl h (k1b7 o)
set_option maxRecDepth 100000 in
theorem k1fr {p1 : Int} {c0_0 : List Int} {c0_1 : Int} {c0_2 : Bool} {r0 : Int} {d0_0 : List Int} {d0_1 : Int} {d0_2 : Bool} (h :
((RdOk c0_0 c0_1 ∧ 1 ≤ (4 : Int) ∧ (4 : Int) ≤ 8) ∧ ∀ (r5 : Int) (r6 : Bool) (r7 : Int) (r8 : Bool), (r5 = (rdD c0_0 c0_1 c0_2 (4 : Int)).n ∧ r6 = (rdD c0_0 c0_1 c0_2 (4 : Int)).ok ∧ r7 = (rdD c0_0 c0_1 c0_2 (4 : Int)).pos ∧ r8 = (rdD c0_0 c0_1 c0_2 (4 : Int)).fail) → ((!r6) = true →
 kee (r0, d0_0, d0_1, d0_2, ()) (r5, true, c0_0, r7, r8, ())) ∧
((!r6) = false →
 kee (r0, d0_0, d0_1, d0_2, ()) (r5, (decide (p1 < (IntKind.i64.wrap r5)) : Bool), c0_0, r7, r8, ())))) : kk3 (p1, c0_0, c0_1, c0_2, ()) (r0, d0_0, d0_1, d0_2, ()) := WPh.of_eq (by kernel_rfl) h
set_option maxRecDepth 100000 in
theorem kpm {r0 : Int} {d0_0 : List Int} {d0_1 : Int} {d0_2 : Bool} {s5 : Int} {s19 : Bool} {h0_0 : List Int} {h0_1 : Int} {h0_2 : Bool} (h :
((s19 = true →
 0 = r0 ∧ h0_0 = d0_0 ∧ h0_1 = d0_1 ∧ true = d0_2) ∧
(s19 = false →
 IntKind.i64.wrap s5 = r0 ∧ h0_0 = d0_0 ∧ h0_1 = d0_1 ∧ h0_2 = d0_2))) : kee (r0, d0_0, d0_1, d0_2, ()) (s5, s19, h0_0, h0_1, h0_2, ()) := ⟨mpr_of (by kernel_rfl) h⟩
theorem bd49 : Callable Try.prog 49 := ⟨by rw [Try.func49]; kernel_rfl, by rw [Try.func49]; show some _ ≠ some _; decide⟩
theorem k1a1 (p1 : Int) (c0_0 : List Int) (c0_1 : Int) (c0_2 : Bool) (h : RdOk c0_0 c0_1) : kk3 (p1, c0_0, c0_1, c0_2, ()) (((rdI c0_0 c0_1 c0_2 p1).n : Int), (c0_0 : List Int), ((rdI c0_0 c0_1 c0_2 p1).pos : Int), ((rdI c0_0 c0_1 c0_2 p1).fail : Bool), ()) := by
  have hn : 0 ≤ (rdD c0_0 c0_1 c0_2 4).n ∧ (rdD c0_0 c0_1 c0_2 4).n < 4294967296 := k11p h (p := 4) (f := c0_2) (by omega) (by omega)
  refine k1fr ⟨⟨h, by omega, by omega⟩, ?_⟩
  rintro _ _ _ _ ⟨rfl, rfl, rfl, rfl⟩
  unfold rdI
  rw [wi (rdD c0_0 c0_1 c0_2 4).n (by omega) (by have := hn.2; omega)]
  refine ⟨fun e => kpm ⟨fun _ => ?_, fun h => by simp at h⟩, fun e => kpm ⟨fun e2 => ?_, fun e2 => ?_⟩⟩
  · have e : (rdD c0_0 c0_1 c0_2 4).ok = false := by simpa using e
    rw [e]
    exact ⟨rfl, rfl, rfl, rfl⟩
  · have e : (rdD c0_0 c0_1 c0_2 4).ok = true := by simpa using e
    have e2 := of_decide_eq_true e2
    rw [if_pos (.inr e2)]
    exact ⟨rfl, rfl, rfl, rfl⟩
  · have e : (rdD c0_0 c0_1 c0_2 4).ok = true := by simpa using e
    have e2 := of_decide_eq_false e2
    rw [if_neg (by rw [e]; simpa using e2)]
    exact ⟨wi _ (by omega) (by have := hn.2; omega), rfl, rfl, rfl⟩
noncomputable def kd5 : Con TB.den := { k2j with R := fun x K => (fun (p1 : Int) (c0_0 : List Int) (c0_1 : Int) (c0_2 : Bool) => ((RdOk c0_0 c0_1) ∧ ∀ (v0 : Int) (v2 : Int) (v3 : Bool), (v0 = ((rdI c0_0 c0_1 c0_2 p1).n) ∧ v2 = ((rdI c0_0 c0_1 c0_2 p1).pos) ∧ v3 = ((rdI c0_0 c0_1 c0_2 p1).fail)) → K (v0, (c0_0 : List Int), v2, v3, ()) : Prop)) x.1 x.2.1 x.2.2.1 x.2.2.2.1 }
theorem kil : kd5.Ok Try.prog TB := ⟨bd49, fun x K hx => ⟨((fun (p1 : Int) (c0_0 : List Int) (c0_1 : Int) (c0_2 : Bool) => ((rdI c0_0 c0_1 c0_2 p1).n : Int)) x.1 x.2.1 x.2.2.1 x.2.2.2.1, (fun (p1 : Int) (c0_0 : List Int) (c0_1 : Int) (c0_2 : Bool) => (c0_0 : List Int)) x.1 x.2.1 x.2.2.1 x.2.2.2.1, (fun (p1 : Int) (c0_0 : List Int) (c0_1 : Int) (c0_2 : Bool) => ((rdI c0_0 c0_1 c0_2 p1).pos : Int)) x.1 x.2.1 x.2.2.1 x.2.2.2.1, (fun (p1 : Int) (c0_0 : List Int) (c0_1 : Int) (c0_2 : Bool) => ((rdI c0_0 c0_1 c0_2 p1).fail : Bool)) x.1 x.2.1 x.2.2.1 x.2.2.2.1, ()), hx.2 ((fun (p1 : Int) (c0_0 : List Int) (c0_1 : Int) (c0_2 : Bool) => (((rdI c0_0 c0_1 c0_2 p1).n))) x.1 x.2.1 x.2.2.1 x.2.2.2.1) ((fun (p1 : Int) (c0_0 : List Int) (c0_1 : Int) (c0_2 : Bool) => (((rdI c0_0 c0_1 c0_2 p1).pos))) x.1 x.2.1 x.2.2.1 x.2.2.2.1) ((fun (p1 : Int) (c0_0 : List Int) (c0_1 : Int) (c0_2 : Bool) => (((rdI c0_0 c0_1 c0_2 p1).fail))) x.1 x.2.1 x.2.2.1 x.2.2.2.1) ⟨rfl, rfl, rfl⟩, k1du (k1a1 x.1 x.2.1 x.2.2.1 x.2.2.2.1 hx.1)⟩⟩
end Go.Proofs.Ytnmakgfmimagmaa
namespace Go.Proofs.Ytnmakgfmimagmaa
open Go Go.Bv Go.Cv Go.Md Go.RowKit
def k3h : Con TB.den := Con.mk0 74 [.one (.d (.sl (.int .u8))), .one (.d (.int .i64))] [] (.one (.one (.d (.sl (.int .u8))))) []
abbrev k14e := HL TB.den (hsT k3h.ins (hsOs k3h.pre))
abbrev kig := HL TB.den (hsV k3h.res (hsOs k3h.post))
noncomputable def kg4 : Cx TB := ⟨inf, [], [], 4⟩
noncomputable def kls : Code := Try.f74.body.getD .skip
noncomputable def kq0 : List ResultVar := Try.f74.results.toList
noncomputable def k1lv (o : kig) : An TB := .nd [] .no [] (.nd [] .no [] (.nd [] .no [] (.rt [.frz 0 [4]])))
noncomputable def k10x (o : kig) : An TB := .nd [] .no [] (k1lv o)
noncomputable def kmb (x : k14e) (o : kig) : Prop := WPh TB kg4 17 0 kls (k10x o) (k3h.st TB x) (retTQ TB kg4 k3h kq0 o)
set_option maxRecDepth 100000 in
theorem k1gm (o : kig) : OblH TB kg4 17 0 kls (k10x o) (retTQ TB kg4 k3h kq0 o) :=
  OblH.of_eq (X := (True ∧ (True ∧ (True ∧ (True ∧ True))))) (by kernel_rfl) ⟨trivial, ⟨trivial, ⟨trivial, ⟨trivial, trivial⟩⟩⟩⟩
set_option maxRecDepth 100000 in
theorem k1fb {x : k14e} {o : kig} (h : kmb x o) : SoundH Try.prog k3h.f ((k3h.args idf x).map (er TB)) ((k3h.obs idf x).map (erO TB)) (er TB (k3h.val idf o)) ((k3h.ops idf o).map (erO TB)) :=
  Con.soundH (c := k3h) (C := kg4) TBok ⟨inf_ok, all_nil, all_nil⟩ mix Try.func74 (show Try.f74.body = some kls by kernel_rfl) (show Try.f74.ntmps = 17 by kernel_rfl) (show Try.f74.results.toList = kq0 by kernel_rfl) rfl h (k1gm o)
set_option maxRecDepth 100000 in
theorem k1ky {p0 : List Int} {p1 : Int} {r0 : List Int} (h :
(let v1 : Int := IntKind.i64.wrap ((p0.length : Int) + p1)
 0 ≤ (p0.length : Int) ∧ (p0.length : Int) ≤ v1 ∧ (v1.toNat * 1 ≤ 140737488355328) ∧ (v1.toNat ≤ maxLen) ∧ (p0.length : Int).toNat = (List.replicate ((p0.length : Int).toNat) (0 : Int)).length ∧ let v2 : Int := ((min p0.length (List.replicate ((p0.length : Int).toNat) (0 : Int)).length : Nat) : Int)
((p0.length : Int).toNat = (rowOver (List.replicate ((p0.length : Int).toNat) (0 : Int)) p0 (List.replicate ((p0.length : Int).toNat) (0 : Int)).length).length) ∧ rowOver (List.replicate ((p0.length : Int).toNat) (0 : Int)) p0 (List.replicate ((p0.length : Int).toNat) (0 : Int)).length = r0)) : kmb (p0, p1, ()) (r0, ()) := WPh.of_eq (by kernel_rfl) h
theorem bd74 : Callable Try.prog 74 := ⟨by rw [Try.func74]; kernel_rfl, by rw [Try.func74]; show some _ ≠ some _; decide⟩
theorem k1c0 (p0 : List Int) (p1 : Int) (h : 0 ≤ p1 ∧ p0.length + p1 ≤ 140737488355328) : kmb (p0, p1, ()) ((p0 : List Int), ()) := by
  obtain ⟨h1, h2⟩ := h
  refine k1ky ?_
  rw [wi _ (by omega) (by omega)]
  have e : rowOver (List.replicate ((p0.length : Int).toNat) (0 : Int)) p0 (List.replicate ((p0.length : Int).toNat) (0 : Int)).length = p0 := k14o _ _ (by simp)
  simp only [e]
  exact ⟨by omega, by omega, by omega, by unfold maxLen; omega, by simp, by omega, by trivial⟩
noncomputable def kog : Con TB.den := k3h.fnR (fun x => (fun (p0 : List Int) (p1 : Int) => 0 ≤ p1 ∧ p0.length + p1 ≤ 140737488355328) x.1 x.2.1) fun x => ((fun (p0 : List Int) (p1 : Int) => (p0 : List Int)) x.1 x.2.1, ())
theorem k10v : kog.Ok Try.prog TB := Con.ok_fn k3h bd74 fun x h => k1fb (k1c0 x.1 x.2.1 h)
end Go.Proofs.Ytnmakgfmimagmaa
namespace Go.Proofs.Ytnmakgfmimagmaa
open Go Go.Bv Go.Cv Go.Md Go.RowKit
def k1o : Con TB.den := Con.mk0 50 [.one (.ptr 0 0), .one (.d (.int .i64))] [.cells [.d (.sl (.int .u8)), .d (.int .i64), .d (.bool)]] (.one (.one (.d (.sl (.int .u8))))) [.cells [.d (.sl (.int .u8)), .d (.int .i64), .d (.bool)]]
abbrev kuu := HL TB.den (hsT k1o.ins (hsOs k1o.pre))
abbrev k6c := HL TB.den (hsV k1o.res (hsOs k1o.post))
noncomputable def k55 : Cx TB := ⟨inf, [kd5, kf6, kog], [], 4⟩
noncomputable def k93 : Code := Try.f50.body.getD .skip
noncomputable def kb6 : List ResultVar := Try.f50.results.toList
noncomputable def k1a2 (o : k6c) : Exit → TSt TB.den → Prop := thenT TB (fun s => ghs TB [] s fun s => WP TB k55 46 1 (cB (cB (cB k93))) .no s (retTQ TB k55 k1o kb6 o)) (retTQ TB k55 k1o kb6 o)
def ke1 : Tm := ⟨[0], [.cells [.d (.sl (.int .u8)), .d (.int .i64), .d (.bool)]], [0, 5, 19], [.one (.ptr 0 0), .one (.d (.int .i64)), .one (.d (.bool))], 1⟩
noncomputable def kqf (o : k6c) (i : HL TB.den ke1.hs) : Prop := ghs TB [] (ke1.fill TB i) fun s => WP TB k55 46 1 (cB (cA (cB (cB k93)))) .no s (k1a2 o)
structure k6z (o : k6c) (i : HL TB.den ke1.hs) : Prop where
  h : kqf o i
noncomputable def k1ay (o : k6c) : An TB := .nd [] (.jn ke1 (k6z o) [] .no [] .no) [] .no
noncomputable def krq (o : k6c) : An TB := .nd [] .no [] (.nd [] .no [] (k1ay o))
noncomputable def khr (x : kuu) (o : k6c) : Prop := WPh TB k55 46 1 k93 (krq o) (k1o.st TB x) (retTQ TB k55 k1o kb6 o)
set_option maxRecDepth 100000 in
theorem k17j (o : k6c) : OblH TB k55 46 1 k93 (krq o) (retTQ TB k55 k1o kb6 o) :=
  OblH.of_eq (X := (True ∧ (True ∧ ((True ∧ (∀ i, (k6z o) i = (kqf o) i) ∧ ((True ∧ (True ∧ True)) ∧ True)) ∧ (True ∧ (True ∧ (True ∧ True))))))) (by kernel_rfl) ⟨trivial, ⟨trivial, ⟨⟨trivial, fun _ => propext ⟨fun h => h.1, fun h => ⟨h⟩⟩, ⟨⟨trivial, ⟨trivial, trivial⟩⟩, trivial⟩⟩, ⟨trivial, ⟨trivial, ⟨trivial, trivial⟩⟩⟩⟩⟩⟩
set_option maxRecDepth 100000 in
theorem k15q {x : kuu} {o : k6c} (h : khr x o) : SoundH Try.prog k1o.f ((k1o.args idf x).map (er TB)) ((k1o.obs idf x).map (erO TB)) (er TB (k1o.val idf o)) ((k1o.ops idf o).map (erO TB)) :=
  Con.soundH (c := k1o) (C := k55) TBok ⟨inf_ok, (all_cons kil (all_cons kli (all_cons k10v all_nil))), all_nil⟩ mix Try.func50 (show Try.f50.body = some k93 by kernel_rfl) (show Try.f50.ntmps = 46 by kernel_rfl) (show Try.f50.results.toList = kb6 by kernel_rfl) rfl h (k17j o)
set_option maxRecDepth 100000 in
theorem k17v {p1 : Int} {c0_0 : List Int} {c0_1 : Int} {c0_2 : Bool} {r0 : List Int} {d0_0 : List Int} {d0_1 : Int} {d0_2 : Bool} (h :
((RdOk c0_0 c0_1) ∧ ∀ (r4 : Int) (r5 : Int) (r6 : Bool), (r4 = (rdI c0_0 c0_1 c0_2 p1).n ∧ r5 = (rdI c0_0 c0_1 c0_2 p1).pos ∧ r6 = (rdI c0_0 c0_1 c0_2 p1).fail) → (r6 = true →
 k6z (r0, d0_0, d0_1, d0_2, ()) (r4, true, c0_0, r5, r6, ())) ∧
(r6 = false →
((0 ≤ r5 ∧ r5 ≤ c0_0.length) ∧ c0_0.length ≤ 137438953472) ∧ k6z (r0, d0_0, d0_1, d0_2, ()) (r4, (decide (((c0_0.length : Int) - r5) < r4) : Bool), c0_0, r5, r6, ())))) : khr (p1, c0_0, c0_1, c0_2, ()) (r0, d0_0, d0_1, d0_2, ()) := WPh.of_eq (by kernel_rfl) h
set_option maxRecDepth 100000 in
theorem knw {r0 : List Int} {d0_0 : List Int} {d0_1 : Int} {d0_2 : Bool} {s5 : Int} {s19 : Bool} {h0_0 : List Int} {h0_1 : Int} {h0_2 : Bool} (h :
((s19 = true →
([] : List Int) = r0 ∧ h0_0 = d0_0 ∧ h0_1 = d0_1 ∧ true = d0_2) ∧
(s19 = false →
(0 ≤ h0_1) ∧ h0_1 ≤ IntKind.i64.wrap (h0_1 + s5) ∧ IntKind.i64.wrap (h0_1 + s5) ≤ (h0_0.length : Int) ∧ let v7 : List Int := (h0_0.take (IntKind.i64.wrap (h0_1 + s5)).toNat).drop h0_1.toNat
(0 ≤ (0 : Int) ∧ v7.length + (0 : Int) ≤ 140737488355328) ∧ v7 = r0 ∧ h0_0 = d0_0 ∧ IntKind.i64.wrap (h0_1 + s5) = d0_1 ∧ h0_2 = d0_2))) : k6z (r0, d0_0, d0_1, d0_2, ()) (s5, s19, h0_0, h0_1, h0_2, ()) := ⟨mpr_of (by kernel_rfl) h⟩
theorem bd50 : Callable Try.prog 50 := ⟨by rw [Try.func50]; kernel_rfl, by rw [Try.func50]; show some _ ≠ some _; decide⟩
theorem k13m (p1 : Int) (c0_0 : List Int) (c0_1 : Int) (c0_2 : Bool) (h : RdOk c0_0 c0_1 ∧ (0 ≤ p1 ∧ p1 ≤ 4294967296)) : khr (p1, c0_0, c0_1, c0_2, ()) (((rdB c0_0 c0_1 c0_2 p1).l : List Int), (c0_0 : List Int), ((rdB c0_0 c0_1 c0_2 p1).pos : Int), ((rdB c0_0 c0_1 c0_2 p1).fail : Bool), ()) := by
  obtain ⟨h, hp0, hp1⟩ := h
  have hI := rdI_ok h (f := c0_2) (m := p1)
  have hIn := rdI_n h (f := c0_2) (m := p1) hp0
  have hl := h.len
  generalize hX : rdI c0_0 c0_1 c0_2 p1 = X at *
  have jf : (X.fail = true ∨ (c0_0.length : Int) - X.pos < X.n) → k6z ((rdB c0_0 c0_1 c0_2 p1).l, c0_0, (rdB c0_0 c0_1 c0_2 p1).pos, (rdB c0_0 c0_1 c0_2 p1).fail, ()) (X.n, true, c0_0, X.pos, X.fail, ()) := by
    intro hf
    refine knw ⟨fun _ => ?_, fun h => by simp at h⟩
    unfold rdB
    rw [hX, if_pos hf]
    exact ⟨rfl, rfl, rfl, rfl⟩
  have jt : ¬ (X.fail = true ∨ (c0_0.length : Int) - X.pos < X.n) → k6z ((rdB c0_0 c0_1 c0_2 p1).l, c0_0, (rdB c0_0 c0_1 c0_2 p1).pos, (rdB c0_0 c0_1 c0_2 p1).fail, ()) (X.n, false, c0_0, X.pos, X.fail, ()) := by
    intro hf
    have hff : X.fail = false := by
      cases hc : X.fail
      · rfl
      · exact absurd (.inl hc) hf
    have hle : X.n ≤ (c0_0.length : Int) - X.pos := by
      have : ¬ (c0_0.length : Int) - X.pos < X.n := fun h => hf (.inr h)
      omega
    have hL : rdB c0_0 c0_1 c0_2 p1 = ⟨(c0_0.take (X.pos + X.n).toNat).drop X.pos.toNat, X.pos + X.n, false⟩ := by unfold rdB; rw [hX, if_neg hf]
    have h1 := hI.pos0
    have h2 := hIn.1
    refine knw ⟨fun h => by simp at h, fun _ => ?_⟩
    rw [wi (X.pos + X.n) (by omega) (by omega), hL]
    refine ⟨h1, by omega, by omega, ⟨by omega, ?_⟩, rfl, rfl, rfl, hff⟩
    rw [List.length_drop, List.length_take]
    omega
  refine k17v ⟨h, ?_⟩
  rintro _ _ _ ⟨rfl, rfl, rfl⟩
  rw [hX]
  refine ⟨fun e => jf (.inl e), fun e => ⟨⟨⟨hI.pos0, hI.pos1⟩, hl⟩, ?_⟩⟩
  try simp only []
  by_cases hq : (c0_0.length : Int) - X.pos < X.n
  · rw [decide_eq_true hq]; exact jf (.inr hq)
  · rw [decide_eq_false hq]; exact jt (by rw [e]; simpa using hq)
noncomputable def kjp : Con TB.den := { k1o with R := fun x K => (fun (p1 : Int) (c0_0 : List Int) (c0_1 : Int) (c0_2 : Bool) => ((RdOk c0_0 c0_1 ∧ (0 ≤ p1 ∧ p1 ≤ 4294967296)) ∧ ∀ (v0 : List Int) (v2 : Int) (v3 : Bool), (v0 = ((rdB c0_0 c0_1 c0_2 p1).l) ∧ v2 = ((rdB c0_0 c0_1 c0_2 p1).pos) ∧ v3 = ((rdB c0_0 c0_1 c0_2 p1).fail)) → K (v0, (c0_0 : List Int), v2, v3, ()) : Prop)) x.1 x.2.1 x.2.2.1 x.2.2.2.1 }
theorem krw : kjp.Ok Try.prog TB := ⟨bd50, fun x K hx => ⟨((fun (p1 : Int) (c0_0 : List Int) (c0_1 : Int) (c0_2 : Bool) => ((rdB c0_0 c0_1 c0_2 p1).l : List Int)) x.1 x.2.1 x.2.2.1 x.2.2.2.1, (fun (p1 : Int) (c0_0 : List Int) (c0_1 : Int) (c0_2 : Bool) => (c0_0 : List Int)) x.1 x.2.1 x.2.2.1 x.2.2.2.1, (fun (p1 : Int) (c0_0 : List Int) (c0_1 : Int) (c0_2 : Bool) => ((rdB c0_0 c0_1 c0_2 p1).pos : Int)) x.1 x.2.1 x.2.2.1 x.2.2.2.1, (fun (p1 : Int) (c0_0 : List Int) (c0_1 : Int) (c0_2 : Bool) => ((rdB c0_0 c0_1 c0_2 p1).fail : Bool)) x.1 x.2.1 x.2.2.1 x.2.2.2.1, ()), hx.2 ((fun (p1 : Int) (c0_0 : List Int) (c0_1 : Int) (c0_2 : Bool) => (((rdB c0_0 c0_1 c0_2 p1).l))) x.1 x.2.1 x.2.2.1 x.2.2.2.1) ((fun (p1 : Int) (c0_0 : List Int) (c0_1 : Int) (c0_2 : Bool) => (((rdB c0_0 c0_1 c0_2 p1).pos))) x.1 x.2.1 x.2.2.1 x.2.2.2.1) ((fun (p1 : Int) (c0_0 : List Int) (c0_1 : Int) (c0_2 : Bool) => (((rdB c0_0 c0_1 c0_2 p1).fail))) x.1 x.2.1 x.2.2.1 x.2.2.2.1) ⟨rfl, rfl, rfl⟩, k15q (k13m x.1 x.2.1 x.2.2.1 x.2.2.2.1 hx.1)⟩⟩
end Go.Proofs.Ytnmakgfmimagmaa
namespace Go.Proofs.Ytnmakgfmimagmaa
open Go Go.Bv Go.Cv Go.Md Go.RowKit
def k2g : Con TB.den := Con.mk0 53 [.one (.ptr 0 0)] [.cells [.d (.sl (.int .u8)), .d (.int .i64), .d (.bool)]] (.one (.one (.d (.bool)))) [.cells [.d (.sl (.int .u8)), .d (.int .i64), .d (.bool)]]
abbrev kxo := HL TB.den (hsT k2g.ins (hsOs k2g.pre))
abbrev kix := HL TB.den (hsV k2g.res (hsOs k2g.post))
noncomputable def kcv : Cx TB := ⟨inf, [], [], 4⟩
noncomputable def kjb : Code := Try.f53.body.getD .skip
noncomputable def km5 : List ResultVar := Try.f53.results.toList
noncomputable def ktz (o : kix) : An TB := .no
noncomputable def kje (x : kxo) (o : kix) : Prop := WPh TB kcv 20 1 kjb (ktz o) (k2g.st TB x) (retTQ TB kcv k2g km5 o)
set_option maxRecDepth 100000 in
theorem k1ap (o : kix) : OblH TB kcv 20 1 kjb (ktz o) (retTQ TB kcv k2g km5 o) :=
  OblH.of_eq (X := (True ∧ (True ∧ True))) (by kernel_rfl) ⟨trivial, ⟨trivial, trivial⟩⟩
set_option maxRecDepth 100000 in
theorem k18r {x : kxo} {o : kix} (h : kje x o) : SoundH Try.prog k2g.f ((k2g.args idf x).map (er TB)) ((k2g.obs idf x).map (erO TB)) (er TB (k2g.val idf o)) ((k2g.ops idf o).map (erO TB)) :=
  Con.soundH (c := k2g) (C := kcv) TBok ⟨inf_ok, all_nil, all_nil⟩ mix Try.func53 (show Try.f53.body = some kjb by kernel_rfl) (show Try.f53.ntmps = 20 by kernel_rfl) (show Try.f53.results.toList = km5 by kernel_rfl) rfl h (k1ap o)
set_option maxRecDepth 100000 in
theorem k1by {c0_0 : List Int} {c0_1 : Int} {c0_2 : Bool} {r0 : Bool} {d0_0 : List Int} {d0_1 : Int} {d0_2 : Bool} (h :
(((!c0_2) = true →
(c0_1 == (c0_0.length : Int)) = r0 ∧ c0_0 = d0_0 ∧ c0_1 = d0_1 ∧ c0_2 = d0_2) ∧
((!c0_2) = false →
 false = r0 ∧ c0_0 = d0_0 ∧ c0_1 = d0_1 ∧ c0_2 = d0_2))) : kje (c0_0, c0_1, c0_2, ()) (r0, d0_0, d0_1, d0_2, ()) := WPh.of_eq (by kernel_rfl) h
theorem bd53 : Callable Try.prog 53 := ⟨by rw [Try.func53]; kernel_rfl, by rw [Try.func53]; show some _ ≠ some _; decide⟩
theorem k15j (c0_0 : List Int) (c0_1 : Int) (c0_2 : Bool) : kje (c0_0, c0_1, c0_2, ()) (((!c0_2 && c0_1 == (c0_0.length : Int)) : Bool), (c0_0 : List Int), (c0_1 : Int), (c0_2 : Bool), ()) := by
  refine k1by ⟨fun e => ⟨by rw [e]; rfl, rfl, rfl, rfl⟩, fun e => ⟨by rw [e]; rfl, rfl, rfl, rfl⟩⟩
noncomputable def kkc : Con TB.den := k2g.totR fun x => ((fun (c0_0 : List Int) (c0_1 : Int) (c0_2 : Bool) => ((!c0_2 && c0_1 == (c0_0.length : Int)) : Bool)) x.1 x.2.1 x.2.2.1, (fun (c0_0 : List Int) (c0_1 : Int) (c0_2 : Bool) => (c0_0 : List Int)) x.1 x.2.1 x.2.2.1, (fun (c0_0 : List Int) (c0_1 : Int) (c0_2 : Bool) => (c0_1 : Int)) x.1 x.2.1 x.2.2.1, (fun (c0_0 : List Int) (c0_1 : Int) (c0_2 : Bool) => (c0_2 : Bool)) x.1 x.2.1 x.2.2.1, ())
theorem kud : kkc.Ok Try.prog TB := Con.ok_tot k2g bd53 fun x => k18r (k15j x.1 x.2.1 x.2.2.1)
end Go.Proofs.Ytnmakgfmimagmaa
namespace Go.Proofs.Ytnmakgfmimagmaa
open Go Go.Bv Go.Cv Go.Md Go.RowKit
def k1m : Con TB.den := Con.mk0 51 [.one (.ptr 0 0)] [.cells [.d (.sl (.int .u8)), .d (.int .i64), .d (.bool)]] (.one (.one (.d (.bool)))) [.cells [.d (.sl (.int .u8)), .d (.int .i64), .d (.bool)]]
abbrev ks5 := HL TB.den (hsT k1m.ins (hsOs k1m.pre))
abbrev kf5 := HL TB.den (hsV k1m.res (hsOs k1m.post))
noncomputable def kal : Cx TB := ⟨inf, [], [], 4⟩
noncomputable def kg0 : Code := Try.f51.body.getD .skip
noncomputable def kjk : List ResultVar := Try.f51.results.toList
noncomputable def kqu (o : kf5) : An TB := .no
noncomputable def kgu (x : ks5) (o : kf5) : Prop := WPh TB kal 7 1 kg0 (kqu o) (k1m.st TB x) (retTQ TB kal k1m kjk o)
set_option maxRecDepth 100000 in
theorem k13h (o : kf5) : OblH TB kal 7 1 kg0 (kqu o) (retTQ TB kal k1m kjk o) :=
  OblH.of_eq (X := (True ∧ (True ∧ True))) (by kernel_rfl) ⟨trivial, ⟨trivial, trivial⟩⟩
set_option maxRecDepth 100000 in
theorem k139 {x : ks5} {o : kf5} (h : kgu x o) : SoundH Try.prog k1m.f ((k1m.args idf x).map (er TB)) ((k1m.obs idf x).map (erO TB)) (er TB (k1m.val idf o)) ((k1m.ops idf o).map (erO TB)) :=
  Con.soundH (c := k1m) (C := kal) TBok ⟨inf_ok, all_nil, all_nil⟩ mix Try.func51 (show Try.f51.body = some kg0 by kernel_rfl) (show Try.f51.ntmps = 7 by kernel_rfl) (show Try.f51.results.toList = kjk by kernel_rfl) rfl h (k13h o)
set_option maxRecDepth 100000 in
theorem k17m {c0_0 : List Int} {c0_1 : Int} {c0_2 : Bool} {r0 : Bool} {d0_0 : List Int} {d0_1 : Int} {d0_2 : Bool} (h :
(c0_2 = r0 ∧ c0_0 = d0_0 ∧ c0_1 = d0_1 ∧ c0_2 = d0_2)) : kgu (c0_0, c0_1, c0_2, ()) (r0, d0_0, d0_1, d0_2, ()) := WPh.of_eq (by kernel_rfl) h
theorem bd51 : Callable Try.prog 51 := ⟨by rw [Try.func51]; kernel_rfl, by rw [Try.func51]; show some _ ≠ some _; decide⟩
theorem kzk (c0_0 : List Int) (c0_1 : Int) (c0_2 : Bool) : kgu (c0_0, c0_1, c0_2, ()) ((c0_2 : Bool), (c0_0 : List Int), (c0_1 : Int), (c0_2 : Bool), ()) := by
  exact k17m ⟨rfl, rfl, rfl, rfl⟩
noncomputable def kok : Con TB.den := k1m.totR fun x => ((fun (c0_0 : List Int) (c0_1 : Int) (c0_2 : Bool) => (c0_2 : Bool)) x.1 x.2.1 x.2.2.1, (fun (c0_0 : List Int) (c0_1 : Int) (c0_2 : Bool) => (c0_0 : List Int)) x.1 x.2.1 x.2.2.1, (fun (c0_0 : List Int) (c0_1 : Int) (c0_2 : Bool) => (c0_1 : Int)) x.1 x.2.1 x.2.2.1, (fun (c0_0 : List Int) (c0_1 : Int) (c0_2 : Bool) => (c0_2 : Bool)) x.1 x.2.1 x.2.2.1, ())
theorem k177 : kok.Ok Try.prog TB := Con.ok_tot k1m bd51 fun x => k139 (kzk x.1 x.2.1 x.2.2.1)
end Go.Proofs.Ytnmakgfmimagmaa
namespace Go.Proofs.Ytnmakgfmimagmaa
open Go Go.Bv Go.Cv Go.Md Go.RowKit
def k24 : Con TB.den := Con.mk0 48 [.one (.ptr 0 0), .one (.d (.int .u64))] [.cells [.d (.sl (.int .u8)), .d (.int .i64), .d (.bool)]] (.one (.one (.d (.int .u64)))) [.cells [.d (.sl (.int .u8)), .d (.int .i64), .d (.bool)]]
abbrev kwz := HL TB.den (hsT k24.ins (hsOs k24.pre))
abbrev k7b := HL TB.den (hsV k24.res (hsOs k24.post))
noncomputable def k5h : Cx TB := ⟨inf, [kc3], [], 4⟩
noncomputable def ka5 : Code := Try.f48.body.getD .skip
noncomputable def kd0 : List ResultVar := Try.f48.results.toList
noncomputable def k1cw (o : k7b) : Exit → TSt TB.den → Prop := thenT TB (fun s => ghs TB [] s fun s => WP TB k5h 23 1 (cB (cB (cB ka5))) .no s (retTQ TB k5h k24 kd0 o)) (retTQ TB k5h k24 kd0 o)
def kf8 : Tm := ⟨[0], [.cells [.d (.sl (.int .u8)), .d (.int .i64), .d (.bool)]], [0, 5, 18], [.one (.ptr 0 0), .one (.d (.int .u64)), .one (.d (.bool))], 1⟩
noncomputable def ksh (o : k7b) (i : HL TB.den kf8.hs) : Prop := ghs TB [] (kf8.fill TB i) fun s => WP TB k5h 23 1 (cB (cA (cB (cB ka5)))) .no s (k1cw o)
structure kco (o : k7b) (i : HL TB.den kf8.hs) : Prop where
  h : ksh o i
noncomputable def k1b0 (o : k7b) : An TB := .nd [] (.jn kf8 (kco o) [] .no [] .no) [] .no
noncomputable def kur (o : k7b) : An TB := .nd [] .no [] (.nd [] .no [] (k1b0 o))
noncomputable def kja (x : kwz) (o : k7b) : Prop := WPh TB k5h 23 1 ka5 (kur o) (k24.st TB x) (retTQ TB k5h k24 kd0 o)
set_option maxRecDepth 100000 in
theorem k1ar (o : k7b) : OblH TB k5h 23 1 ka5 (kur o) (retTQ TB k5h k24 kd0 o) :=
  OblH.of_eq (X := (True ∧ (True ∧ ((True ∧ (∀ i, (kco o) i = (ksh o) i) ∧ ((True ∧ (True ∧ True)) ∧ True)) ∧ (True ∧ True))))) (by kernel_rfl) ⟨trivial, ⟨trivial, ⟨⟨trivial, fun _ => propext ⟨fun h => h.1, fun h => ⟨h⟩⟩, ⟨⟨trivial, ⟨trivial, trivial⟩⟩, trivial⟩⟩, ⟨trivial, trivial⟩⟩⟩⟩
set_option maxRecDepth 100000 in
theorem k180 {x : kwz} {o : k7b} (h : kja x o) : SoundH Try.prog k24.f ((k24.args idf x).map (er TB)) ((k24.obs idf x).map (erO TB)) (er TB (k24.val idf o)) ((k24.ops idf o).map (erO TB)) :=
  Con.soundH (c := k24) (C := k5h) TBok ⟨inf_ok, (all_cons kjj all_nil), all_nil⟩ mix Try.func48 (show Try.f48.body = some ka5 by kernel_rfl) (show Try.f48.ntmps = 23 by kernel_rfl) (show Try.f48.results.toList = kd0 by kernel_rfl) rfl h (k1ar o)
set_option maxRecDepth 100000 in
theorem k1cl {p1 : Int} {c0_0 : List Int} {c0_1 : Int} {c0_2 : Bool} {r0 : Int} {d0_0 : List Int} {d0_1 : Int} {d0_2 : Bool} (h :
((RdOk c0_0 c0_1 ∧ 1 ≤ (8 : Int) ∧ (8 : Int) ≤ 8) ∧ ∀ (r5 : Int) (r6 : Bool) (r7 : Int) (r8 : Bool), (r5 = (rdD c0_0 c0_1 c0_2 (8 : Int)).n ∧ r6 = (rdD c0_0 c0_1 c0_2 (8 : Int)).ok ∧ r7 = (rdD c0_0 c0_1 c0_2 (8 : Int)).pos ∧ r8 = (rdD c0_0 c0_1 c0_2 (8 : Int)).fail) → ((!r6) = true →
 kco (r0, d0_0, d0_1, d0_2, ()) (r5, true, c0_0, r7, r8, ())) ∧
((!r6) = false →
 kco (r0, d0_0, d0_1, d0_2, ()) (r5, (decide (p1 < r5) : Bool), c0_0, r7, r8, ())))) : kja (p1, c0_0, c0_1, c0_2, ()) (r0, d0_0, d0_1, d0_2, ()) := WPh.of_eq (by kernel_rfl) h
set_option maxRecDepth 100000 in
theorem kor {r0 : Int} {d0_0 : List Int} {d0_1 : Int} {d0_2 : Bool} {s5 : Int} {s18 : Bool} {h0_0 : List Int} {h0_1 : Int} {h0_2 : Bool} (h :
((s18 = true →
 0 = r0 ∧ h0_0 = d0_0 ∧ h0_1 = d0_1 ∧ true = d0_2) ∧
(s18 = false →
 s5 = r0 ∧ h0_0 = d0_0 ∧ h0_1 = d0_1 ∧ h0_2 = d0_2))) : kco (r0, d0_0, d0_1, d0_2, ()) (s5, s18, h0_0, h0_1, h0_2, ()) := ⟨mpr_of (by kernel_rfl) h⟩
theorem bd48 : Callable Try.prog 48 := ⟨by rw [Try.func48]; kernel_rfl, by rw [Try.func48]; show some _ ≠ some _; decide⟩
theorem k17t (p1 : Int) (c0_0 : List Int) (c0_1 : Int) (c0_2 : Bool) (h : RdOk c0_0 c0_1) : kja (p1, c0_0, c0_1, c0_2, ()) (((rdU c0_0 c0_1 c0_2 p1).n : Int), (c0_0 : List Int), ((rdU c0_0 c0_1 c0_2 p1).pos : Int), ((rdU c0_0 c0_1 c0_2 p1).fail : Bool), ()) := by
  refine k1cl ⟨⟨h, by omega, by omega⟩, ?_⟩
  rintro _ _ _ _ ⟨rfl, rfl, rfl, rfl⟩
  unfold rdU
  refine ⟨fun e => kor ⟨fun _ => ?_, fun h => by simp at h⟩, fun e => kor ⟨fun e2 => ?_, fun e2 => ?_⟩⟩
  · have e : (rdD c0_0 c0_1 c0_2 8).ok = false := by simpa using e
    rw [e]
    exact ⟨rfl, rfl, rfl, rfl⟩
  · have e : (rdD c0_0 c0_1 c0_2 8).ok = true := by simpa using e
    have e2 := of_decide_eq_true e2
    rw [if_pos (.inr e2)]
    exact ⟨rfl, rfl, rfl, rfl⟩
  · have e : (rdD c0_0 c0_1 c0_2 8).ok = true := by simpa using e
    have e2 := of_decide_eq_false e2
    rw [if_neg (by rw [e]; simpa using e2)]
    exact ⟨rfl, rfl, rfl, rfl⟩
noncomputable def kk6 : Con TB.den := { k24 with R := fun x K => (fun (p1 : Int) (c0_0 : List Int) (c0_1 : Int) (c0_2 : Bool) => ((RdOk c0_0 c0_1) ∧ ∀ (v0 : Int) (v2 : Int) (v3 : Bool), (v0 = ((rdU c0_0 c0_1 c0_2 p1).n) ∧ v2 = ((rdU c0_0 c0_1 c0_2 p1).pos) ∧ v3 = ((rdU c0_0 c0_1 c0_2 p1).fail)) → K (v0, (c0_0 : List Int), v2, v3, ()) : Prop)) x.1 x.2.1 x.2.2.1 x.2.2.2.1 }
theorem ku4 : kk6.Ok Try.prog TB := ⟨bd48, fun x K hx => ⟨((fun (p1 : Int) (c0_0 : List Int) (c0_1 : Int) (c0_2 : Bool) => ((rdU c0_0 c0_1 c0_2 p1).n : Int)) x.1 x.2.1 x.2.2.1 x.2.2.2.1, (fun (p1 : Int) (c0_0 : List Int) (c0_1 : Int) (c0_2 : Bool) => (c0_0 : List Int)) x.1 x.2.1 x.2.2.1 x.2.2.2.1, (fun (p1 : Int) (c0_0 : List Int) (c0_1 : Int) (c0_2 : Bool) => ((rdU c0_0 c0_1 c0_2 p1).pos : Int)) x.1 x.2.1 x.2.2.1 x.2.2.2.1, (fun (p1 : Int) (c0_0 : List Int) (c0_1 : Int) (c0_2 : Bool) => ((rdU c0_0 c0_1 c0_2 p1).fail : Bool)) x.1 x.2.1 x.2.2.1 x.2.2.2.1, ()), hx.2 ((fun (p1 : Int) (c0_0 : List Int) (c0_1 : Int) (c0_2 : Bool) => (((rdU c0_0 c0_1 c0_2 p1).n))) x.1 x.2.1 x.2.2.1 x.2.2.2.1) ((fun (p1 : Int) (c0_0 : List Int) (c0_1 : Int) (c0_2 : Bool) => (((rdU c0_0 c0_1 c0_2 p1).pos))) x.1 x.2.1 x.2.2.1 x.2.2.2.1) ((fun (p1 : Int) (c0_0 : List Int) (c0_1 : Int) (c0_2 : Bool) => (((rdU c0_0 c0_1 c0_2 p1).fail))) x.1 x.2.1 x.2.2.1 x.2.2.2.1) ⟨rfl, rfl, rfl⟩, k180 (k17t x.1 x.2.1 x.2.2.1 x.2.2.2.1 hx.1)⟩⟩
end Go.Proofs.Ytnmakgfmimagmaa
namespace Go.Proofs.Ytnmakgfmimagmaa
open Go Go.Bv Go.Cv Go.Md Go.RowKit
def kz : Con TB.den := Con.mk0 60 [.agg [.d (.int .u64), .d (.sl (.int .u64)), .d (.sl (.st 0)), .d (.int .u64), .d (.int .u64), .d (.int .u64), .d (.int .u64), .d (.int .u64), .d (.int .i64), .d (.sl (.int .u8))]] [] (.one (.one (.d (.bool)))) []
abbrev kp2 := HL TB.den (hsT kz.ins (hsOs kz.pre))
abbrev kc4 := HL TB.den (hsV kz.res (hsOs kz.post))
noncomputable def k8b : Cx TB := ⟨inf, [], [], 4⟩
noncomputable def kdn : Code := Try.f60.body.getD .skip
noncomputable def kgg : List ResultVar := Try.f60.results.toList
noncomputable def knk (o : kc4) : An TB := .no
noncomputable def kds (x : kp2) (o : kc4) : Prop := WPh TB k8b 47 0 kdn (knk o) (kz.st TB x) (retTQ TB k8b kz kgg o)
set_option maxRecDepth 100000 in
theorem kza (o : kc4) : OblH TB k8b 47 0 kdn (knk o) (retTQ TB k8b kz kgg o) :=
  OblH.of_eq (X := (True ∧ ((True ∧ ((True ∧ True) ∧ True)) ∧ ((True ∧ ((True ∧ True) ∧ True)) ∧ ((True ∧ ((True ∧ True) ∧ True)) ∧ ((True ∧ ((True ∧ True) ∧ True)) ∧ (True ∧ True))))))) (by kernel_rfl) ⟨trivial, ⟨⟨trivial, ⟨⟨trivial, trivial⟩, trivial⟩⟩, ⟨⟨trivial, ⟨⟨trivial, trivial⟩, trivial⟩⟩, ⟨⟨trivial, ⟨⟨trivial, trivial⟩, trivial⟩⟩, ⟨⟨trivial, ⟨⟨trivial, trivial⟩, trivial⟩⟩, ⟨trivial, trivial⟩⟩⟩⟩⟩⟩
set_option maxRecDepth 100000 in
theorem kz3 {x : kp2} {o : kc4} (h : kds x o) : SoundH Try.prog kz.f ((kz.args idf x).map (er TB)) ((kz.obs idf x).map (erO TB)) (er TB (kz.val idf o)) ((kz.ops idf o).map (erO TB)) :=
  Con.soundH (c := kz) (C := k8b) TBok ⟨inf_ok, all_nil, all_nil⟩ mix Try.func60 (show Try.f60.body = some kdn by kernel_rfl) (show Try.f60.ntmps = 47 by kernel_rfl) (show Try.f60.results.toList = kgg by kernel_rfl) rfl h (kza o)
set_option maxRecDepth 100000 in
theorem k12i {p0 : TTx} {r0 : Bool} (h :
((decide (4294967295 < p0.Deposit) = true →
 false = r0) ∧
(decide (4294967295 < p0.Deposit) = false →
(decide (4294967295 < p0.Withdraw) = true →
 false = r0) ∧
(decide (4294967295 < p0.Withdraw) = false →
(decide (4294967295 < p0.Fee) = true →
 false = r0) ∧
(decide (4294967295 < p0.Fee) = false →
 let v1 : Bool := decide (18446744069414584321 ≤ p0.Account)
(v1 = true →
 false = r0) ∧
(v1 = false →
(decide (18446744069414584321 ≤ p0.Nonce) = true →
 false = r0) ∧
(decide (18446744069414584321 ≤ p0.Nonce) = false →
(decide (0 < p0.Deposit) = true →
(p0.Withdraw == 0) = r0) ∧
(decide (0 < p0.Deposit) = false →
(((p0.Marks.length : Int) == 0) = true →
 false = r0) ∧
(((p0.Marks.length : Int) == 0) = false →
((p0.Nonce != 0) = true →
 false = r0) ∧
((p0.Nonce != 0) = false →
(decide (0 < p0.Withdraw) = true →
 true = r0) ∧
(decide (0 < p0.Withdraw) = false →
(p0.Account == 0) = r0))))))))))) : kds (p0.Anchor, p0.Marks, p0.Outs, p0.Deposit, p0.Withdraw, p0.Fee, p0.Account, p0.Nonce, p0.Expiry, p0.Proof, ()) (r0, ()) := WPh.of_eq (by kernel_rfl) h
theorem bd60 : Callable Try.prog 60 := ⟨by rw [Try.func60]; kernel_rfl, by rw [Try.func60]; show some _ ≠ some _; decide⟩
theorem kvp (p0 : TTx) : kds (p0.Anchor, p0.Marks, p0.Outs, p0.Deposit, p0.Withdraw, p0.Fee, p0.Account, p0.Nonce, p0.Expiry, p0.Proof, ()) ((vAmounts p0 : Bool), ()) := by
  refine k12i ?_
  unfold vAmounts
  try simp only []
  repeat' (apply And.intro <;> intro h)
  all_goals simp only [decide_eq_true_eq, decide_eq_false_iff_not, beq_iff_eq, bne_iff_ne, Bool.not_eq_true, beq_eq_false_iff_ne, bne_eq_false_iff_eq, List.isEmpty_iff, Int.natCast_eq_zero, List.length_eq_zero_iff] at *
  all_goals simp [*]
  all_goals grind
noncomputable def kla : Con TB.den := kz.totR fun x => ((fun (p0 : TTx) => (vAmounts p0 : Bool)) (TTx.mk x.1 x.2.1 x.2.2.1 x.2.2.2.1 x.2.2.2.2.1 x.2.2.2.2.2.1 x.2.2.2.2.2.2.1 x.2.2.2.2.2.2.2.1 x.2.2.2.2.2.2.2.2.1 x.2.2.2.2.2.2.2.2.2.1), ())
theorem k11q : kla.Ok Try.prog TB := Con.ok_tot kz bd60 fun x => kz3 (kvp (TTx.mk x.1 x.2.1 x.2.2.1 x.2.2.2.1 x.2.2.2.2.1 x.2.2.2.2.2.1 x.2.2.2.2.2.2.1 x.2.2.2.2.2.2.2.1 x.2.2.2.2.2.2.2.2.1 x.2.2.2.2.2.2.2.2.2.1))
end Go.Proofs.Ytnmakgfmimagmaa
namespace Go.Proofs.Ytnmakgfmimagmaa
open Go Go.Bv Go.Cv Go.Md Go.RowKit
def k1e : Con TB.den := Con.mk0 91 [.one (.d (.sl (.int .u64))), .one (.d (.int .u64))] [] (.one (.one (.d (.int .i64)))) []
abbrev kun := HL TB.den (hsT k1e.ins (hsOs k1e.pre))
abbrev k69 := HL TB.den (hsV k1e.res (hsOs k1e.post))
noncomputable def k54 : Cx TB := ⟨inf, [], [], 4⟩
noncomputable def k94 : Code := Try.f91.body.getD .skip
noncomputable def kbn : List ResultVar := Try.f91.results.toList
noncomputable def k19q (o : k69) : Exit → TSt TB.den → Prop := thenT TB (fun s => ghs TB [] s fun s => WP TB k54 19 0 (cB (cB k94)) .no s (retTQ TB k54 k1e kbn o)) (retTQ TB k54 k1e kbn o)
def k6n : Tm := ⟨[], [], [0, 1, 7, 8], [.one (.d (.sl (.int .u64))), .one (.d (.int .u64)), .one (.d (.int .i64)), .one (.d (.int .i64))], 0⟩
noncomputable def k18o (o : k69) (nx1 : HL TB.den k6n.hs → Prop) : Exit → TSt TB.den → Prop := thenT TB (fun s => k6n.mat TB 0 s nx1) (blockT TB 0 (k19q o))
noncomputable def kb3 (o : k69) (nx1 : HL TB.den k6n.hs → Prop) (i : HL TB.den k6n.hs) : Prop := WP TB k54 19 0 (cA (cA (cB (cA (cB k94))))) .no (k6n.fill TB i) (k18o o nx1)
noncomputable def k1aj (o : k69) : An TB := .nd [] .no [] (.lp [] k6n (kb3 o) fun nx1 => .no)
noncomputable def krk (o : k69) : An TB := .nd [] .no [] (.nd [] (k1aj o) [] .no)
noncomputable def khs (x : kun) (o : k69) : Prop := WPh TB k54 19 0 k94 (krk o) (k1e.st TB x) (retTQ TB k54 k1e kbn o)
set_option maxRecDepth 100000 in
theorem k178 (o : k69) : OblH TB k54 19 0 k94 (krk o) (retTQ TB k54 k1e kbn o) :=
  OblH.of_eq (X := (True ∧ ((True ∧ ((∀ nx i, (kb3 o) nx i = (kb3 o) nx i) ∧ ∀ nx1 : HL TB.den k6n.hs → Prop, (True ∧ ((True ∧ True) ∧ ((True ∧ (True ∧ ((True ∧ True) ∧ True))) ∧ True))))) ∧ (True ∧ True)))) (by kernel_rfl) ⟨trivial, ⟨⟨trivial, ⟨fun _ _ => rfl, fun _ => ⟨trivial, ⟨⟨trivial, trivial⟩, ⟨⟨trivial, ⟨trivial, ⟨⟨trivial, trivial⟩, trivial⟩⟩⟩, trivial⟩⟩⟩⟩⟩, ⟨trivial, trivial⟩⟩⟩
set_option maxRecDepth 100000 in
theorem k15e {x : kun} {o : k69} (h : khs x o) : SoundH Try.prog k1e.f ((k1e.args idf x).map (er TB)) ((k1e.obs idf x).map (erO TB)) (er TB (k1e.val idf o)) ((k1e.ops idf o).map (erO TB)) :=
  Con.soundH (c := k1e) (C := k54) TBok ⟨inf_ok, all_nil, all_nil⟩ mix Try.func91 (show Try.f91.body = some k94 by kernel_rfl) (show Try.f91.ntmps = 19 by kernel_rfl) (show Try.f91.results.toList = kbn by kernel_rfl) rfl h (k178 o)
set_option maxRecDepth 100000 in
theorem k18d {p0 : List Int} {p1 : Int} {r0 : Int} (h :
(Md.Loop (p0, p1, ((p0.length : Int) : Int), (0 : Int), ()) (kb3 (r0, ())))) : khs (p0, p1, ()) (r0, ()) := WPh.of_eq (by kernel_rfl) h
def krv (r0 : Int) (k1 : Int → Prop) (s0 : List Int) (s1 : Int) (s7 : Int) (s8 : Int) : Prop :=
(decide (s8 < s7) = true →
(0 ≤ s8) ∧ s8 < (s0.length : Int) ∧ ((s1 == (ix s0 s8)) = true →
 s8 = r0) ∧
((s1 == (ix s0 s8)) = false →
 k1 (IntKind.i64.wrap (s8 + 1) : Int))) ∧
(decide (s8 < s7) = false →
(-1) = r0)
set_option maxRecDepth 100000 in
theorem k15i {r0 : Int} {s0 : List Int} {s1 : Int} {s7 : Int} {s8 : Int} (inv : Int → Prop) (μ : Int → Nat) (h0 : inv s8) (hs : ∀ (s8 : Int), inv s8 → krv r0 (fun s8q => inv s8q ∧ μ s8q < μ s8) s0 s1 s7 s8) : Md.Loop (s0, s1, s7, s8, ()) (kb3 (r0, ())) :=
  ⟨⟨fun s : (List Int) × Int × Int × Int × Unit => (s.1 = s0 ∧ s.2.1 = s1 ∧ s.2.2.1 = s7) ∧ inv s.2.2.2.1, fun s : (List Int) × Int × Int × Int × Unit => μ s.2.2.2.1, ⟨⟨rfl, rfl, rfl⟩, h0⟩, fun (s0p, s1p, s7p, s8p, ()) ⟨⟨eq0, eq1, eq2⟩, hi⟩ => by
    have eq0 : s0p = s0 := eq0; subst s0p; have eq1 : s1p = s1 := eq1; subst s1p; have eq2 : s7p = s7 := eq2; subst s7p; exact mpr_of (by kernel_rfl) ((congrArg (fun k => krv r0 k s0 s1 s7 s8p) (lpk1 (⟨rfl, rfl, rfl⟩ : s0 = s0 ∧ s1 = s1 ∧ s7 = s7) inv (fun s8q => μ s8q < μ s8p))).mpr (hs s8p hi))⟩⟩
theorem bd91 : Callable Try.prog 91 := ⟨by rw [Try.func91]; kernel_rfl, by rw [Try.func91]; show some _ ≠ some _; decide⟩
theorem k138 (p0 : List Int) (p1 : Int) (h : p0.length ≤ 9223372036854775807) : khs (p0, p1, ()) ((idxI p0 p1 : Int), ()) := by
  refine k18d (k15i (fun i => 0 ≤ i ∧ i ≤ p0.length ∧ p1 ∉ p0.take i.toNat) (fun i => (p0.length - i).toNat) ⟨by omega, by omega, by simp⟩ ?_)
  rintro i ⟨g0, g1, g2⟩
  refine ⟨fun h => ?_, fun h => ?_⟩
  · have h := of_decide_eq_true h
    refine ⟨g0, h, fun e => ?_, fun e => ?_⟩
    · have e : p1 = ix p0 i := by simpa using e
      unfold idxI
      rw [if_pos (by rw [e]; exact ix_mem p0 i g0 h)]
      have : p0.idxOf p1 = i.toNat := by
        conv => lhs; rw [← List.take_append_drop i.toNat p0]
        rw [List.idxOf_append, if_neg g2, drop_ix p0 i g0 h, ← e, List.idxOf_cons_self, List.length_take]
        omega
      rw [this]
      omega
    · have e : ¬ p1 = ix p0 i := by simpa using e
      rw [inc i p0.length g0 h (by omega)]
      refine ⟨⟨by omega, by omega, ?_⟩, by omega⟩
      rw [ka p0 i g0 h]
      simp only [List.mem_append, List.mem_singleton]
      exact fun hh => hh.elim g2 e
  · have h := of_decide_eq_false h
    rw [List.take_of_length_le (by omega)] at g2
    unfold idxI
    rw [if_neg g2]
noncomputable def kqr : Con TB.den := k1e.fnR (fun x => (fun (p0 : List Int) (p1 : Int) => p0.length ≤ 9223372036854775807) x.1 x.2.1) fun x => ((fun (p0 : List Int) (p1 : Int) => (idxI p0 p1 : Int)) x.1 x.2.1, ())
theorem k18p : kqr.Ok Try.prog TB := Con.ok_fn k1e bd91 fun x h => k15e (k138 x.1 x.2.1 h)
end Go.Proofs.Ytnmakgfmimagmaa
namespace Go.Proofs.Ytnmakgfmimagmaa
open Go Go.Bv Go.Cv Go.Md Go.RowKit
def kw : Con TB.den := Con.mk0 83 [.one (.d (.sl (.int .u64))), .one (.d (.int .u64))] [] (.one (.one (.d (.bool)))) []
abbrev koz := HL TB.den (hsT kw.ins (hsOs kw.pre))
abbrev kc6 := HL TB.den (hsV kw.res (hsOs kw.post))
noncomputable def k89 : Cx TB := ⟨inf, [kqr], [], 4⟩
noncomputable def kdg : Code := Try.f83.body.getD .skip
noncomputable def kfz : List ResultVar := Try.f83.results.toList
noncomputable def knv (o : kc6) : An TB := .no
noncomputable def ke2 (x : koz) (o : kc6) : Prop := WPh TB k89 9 0 kdg (knv o) (kw.st TB x) (retTQ TB k89 kw kfz o)
set_option maxRecDepth 100000 in
theorem kz0 (o : kc6) : OblH TB k89 9 0 kdg (knv o) (retTQ TB k89 kw kfz o) :=
  OblH.of_eq (X := (True ∧ (True ∧ True))) (by kernel_rfl) ⟨trivial, ⟨trivial, trivial⟩⟩
set_option maxRecDepth 100000 in
theorem kyu {x : koz} {o : kc6} (h : ke2 x o) : SoundH Try.prog kw.f ((kw.args idf x).map (er TB)) ((kw.obs idf x).map (erO TB)) (er TB (kw.val idf o)) ((kw.ops idf o).map (erO TB)) :=
  Con.soundH (c := kw) (C := k89) TBok ⟨inf_ok, (all_cons k18p all_nil), all_nil⟩ mix Try.func83 (show Try.f83.body = some kdg by kernel_rfl) (show Try.f83.ntmps = 9 by kernel_rfl) (show Try.f83.results.toList = kfz by kernel_rfl) rfl h (kz0 o)
set_option maxRecDepth 100000 in
theorem k10d {p0 : List Int} {p1 : Int} {r0 : Bool} (h :
((p0.length ≤ 9223372036854775807) ∧ decide (0 ≤ (idxI p0 p1)) = r0)) : ke2 (p0, p1, ()) (r0, ()) := WPh.of_eq (by kernel_rfl) h
theorem bd83 : Callable Try.prog 83 := ⟨by rw [Try.func83]; kernel_rfl, by rw [Try.func83]; show some _ ≠ some _; decide⟩
theorem kwl (p0 : List Int) (p1 : Int) (h : p0.length ≤ 9223372036854775807) : ke2 (p0, p1, ()) ((decide (p1 ∈ p0) : Bool), ()) := by
  refine k10d ⟨h, ?_⟩
  unfold idxI
  by_cases hm : p1 ∈ p0
  · simp [hm]
  · simp [hm]
noncomputable def klc : Con TB.den := kw.fnR (fun x => (fun (p0 : List Int) (p1 : Int) => p0.length ≤ 9223372036854775807) x.1 x.2.1) fun x => ((fun (p0 : List Int) (p1 : Int) => (decide (p1 ∈ p0) : Bool)) x.1 x.2.1, ())
theorem k123 : klc.Ok Try.prog TB := Con.ok_fn kw bd83 fun x h => kyu (kwl x.1 x.2.1 h)
end Go.Proofs.Ytnmakgfmimagmaa
namespace Go.Proofs.Ytnmakgfmimagmaa
open Go Go.Bv Go.Cv Go.Md Go.RowKit
def kx : Con TB.den := Con.mk0 58 [.one (.d (.sl (.int .u64)))] [] (.one (.one (.d (.bool)))) []
abbrev kry := HL TB.den (hsT kx.ins (hsOs kx.pre))
abbrev k5o := HL TB.den (hsV kx.res (hsOs kx.post))
noncomputable def k4o : Cx TB := ⟨inf, [klc], [], 4⟩
noncomputable def k83 : Code := Try.f58.body.getD .skip
noncomputable def kac : List ResultVar := Try.f58.results.toList
noncomputable def k16r (o : k5o) : Exit → TSt TB.den → Prop := thenT TB (fun s => ghs TB [] s fun s => WP TB k4o 25 0 (cB (cB (cB k83))) .no s (retTQ TB k4o kx kac o)) (retTQ TB k4o kx kac o)
def k61 : Tm := ⟨[], [], [0, 8, 9, 10], [.one (.d (.sl (.int .u64))), .one (.d (.sl (.int .u64))), .one (.d (.int .i64)), .one (.d (.int .i64))], 0⟩
noncomputable def k169 (o : k5o) (nx1 : HL TB.den k61.hs → Prop) : Exit → TSt TB.den → Prop := thenT TB (fun s => k61.mat TB 0 s nx1) (blockT TB 0 (k16r o))
noncomputable def ka1 (o : k5o) (nx1 : HL TB.den k61.hs → Prop) (i : HL TB.den k61.hs) : Prop := WP TB k4o 25 0 (cA (cA (cB (cA (cB (cB k83)))))) .no (k61.fill TB i) (k169 o nx1)
noncomputable def k16p (o : k5o) : An TB := .nd [] .no [] (.lp [] k61 (ka1 o) fun nx1 => .no)
noncomputable def kqj (o : k5o) : An TB := .nd [] .no [] (.nd [] .no [] (.nd [] (k16p o) [] .no))
noncomputable def kgr (x : kry) (o : k5o) : Prop := WPh TB k4o 25 0 k83 (kqj o) (kx.st TB x) (retTQ TB k4o kx kac o)
set_option maxRecDepth 100000 in
theorem k13c (o : k5o) : OblH TB k4o 25 0 k83 (kqj o) (retTQ TB k4o kx kac o) :=
  OblH.of_eq (X := (True ∧ ((True ∧ ((True ∧ True) ∧ True)) ∧ ((True ∧ ((∀ nx i, (ka1 o) nx i = (ka1 o) nx i) ∧ ∀ nx1 : HL TB.den k61.hs → Prop, (True ∧ ((True ∧ True) ∧ ((True ∧ (True ∧ ((True ∧ True) ∧ True))) ∧ True))))) ∧ (True ∧ True))))) (by kernel_rfl) ⟨trivial, ⟨⟨trivial, ⟨⟨trivial, trivial⟩, trivial⟩⟩, ⟨⟨trivial, ⟨fun _ _ => rfl, fun _ => ⟨trivial, ⟨⟨trivial, trivial⟩, ⟨⟨trivial, ⟨trivial, ⟨⟨trivial, trivial⟩, trivial⟩⟩⟩, trivial⟩⟩⟩⟩⟩, ⟨trivial, trivial⟩⟩⟩⟩
set_option maxRecDepth 100000 in
theorem k12t {x : kry} {o : k5o} (h : kgr x o) : SoundH Try.prog kx.f ((kx.args idf x).map (er TB)) ((kx.obs idf x).map (erO TB)) (er TB (kx.val idf o)) ((kx.ops idf o).map (erO TB)) :=
  Con.soundH (c := kx) (C := k4o) TBok ⟨inf_ok, (all_cons k123 all_nil), all_nil⟩ mix Try.func58 (show Try.f58.body = some k83 by kernel_rfl) (show Try.f58.ntmps = 25 by kernel_rfl) (show Try.f58.results.toList = kac by kernel_rfl) rfl h (k13c o)
set_option maxRecDepth 100000 in
theorem k152 {p0 : List Int} {r0 : Bool} (h :
((decide (4 < (p0.length : Int)) = true →
 false = r0) ∧
(decide (4 < (p0.length : Int)) = false →
 Md.Loop (p0, p0, ((p0.length : Int) : Int), (0 : Int), ()) (ka1 (r0, ()))))) : kgr (p0, ()) (r0, ()) := WPh.of_eq (by kernel_rfl) h
def kqa (r0 : Bool) (k1 : Int → Prop) (s0 : List Int) (s8 : List Int) (s9 : Int) (s10 : Int) : Prop :=
(decide (s10 < s9) = true →
(0 ≤ s10) ∧ s10 < (s8.length : Int) ∧ let v1 : Bool := decide (18446744069414584321 ≤ (ix s8 s10))
(v1 = true →
 false = r0) ∧
(v1 = false →
(0 ≤ s10) ∧ s10 ≤ (s0.length : Int) ∧ ((s0.take s10.toNat).length ≤ 9223372036854775807) ∧ let r2 : Bool := decide ((ix s8 s10) ∈ (s0.take s10.toNat))
(r2 = true →
 false = r0) ∧
(r2 = false →
 k1 (IntKind.i64.wrap (s10 + 1) : Int)))) ∧
(decide (s10 < s9) = false →
 true = r0)
set_option maxRecDepth 100000 in
theorem k13g {r0 : Bool} {s0 : List Int} {s8 : List Int} {s9 : Int} {s10 : Int} (inv : Int → Prop) (μ : Int → Nat) (h0 : inv s10) (hs : ∀ (s10 : Int), inv s10 → kqa r0 (fun s10q => inv s10q ∧ μ s10q < μ s10) s0 s8 s9 s10) : Md.Loop (s0, s8, s9, s10, ()) (ka1 (r0, ())) :=
  ⟨⟨fun s : (List Int) × (List Int) × Int × Int × Unit => (s.1 = s0 ∧ s.2.1 = s8 ∧ s.2.2.1 = s9) ∧ inv s.2.2.2.1, fun s : (List Int) × (List Int) × Int × Int × Unit => μ s.2.2.2.1, ⟨⟨rfl, rfl, rfl⟩, h0⟩, fun (s0p, s8p, s9p, s10p, ()) ⟨⟨eq0, eq1, eq2⟩, hi⟩ => by
    have eq0 : s0p = s0 := eq0; subst s0p; have eq1 : s8p = s8 := eq1; subst s8p; have eq2 : s9p = s9 := eq2; subst s9p; exact mpr_of (by kernel_rfl) ((congrArg (fun k => kqa r0 k s0 s8 s9 s10p) (lpk1 (⟨rfl, rfl, rfl⟩ : s0 = s0 ∧ s8 = s8 ∧ s9 = s9) inv (fun s10q => μ s10q < μ s10p))).mpr (hs s10p hi))⟩⟩
theorem bd58 : Callable Try.prog 58 := ⟨by rw [Try.func58]; kernel_rfl, by rw [Try.func58]; show some _ ≠ some _; decide⟩
theorem k111 (p0 : List Int) : kgr (p0, ()) ((vMarks p0 : Bool), ()) := by
  refine k152 ⟨fun h => ?_, fun h => ?_⟩
  · have h := of_decide_eq_true h
    unfold vMarks
    rw [decide_eq_false (by omega)]
    rfl
  · have h := of_decide_eq_false h
    refine k13g (fun i => 0 ≤ i ∧ i ≤ p0.length ∧ (∀ x ∈ p0.take i.toNat, x < 18446744069414584321) ∧ (p0.take i.toNat).Nodup) (fun i => (p0.length - i).toNat) ⟨by omega, by omega, by simp, by simp⟩ ?_
    rintro i ⟨g0, g1, g2, g3⟩
    refine ⟨fun hh => ?_, fun hh => ?_⟩
    · have hh := of_decide_eq_true hh
      have hm := ix_mem p0 i g0 hh
      refine ⟨g0, hh, fun e => ?_, fun e => ⟨g0, by omega, by simp; omega, fun e2 => ?_, fun e2 => ?_⟩⟩
      · have e := of_decide_eq_true e
        unfold vMarks
        have : p0.all (fun x => decide (x < 18446744069414584321)) = false := List.all_eq_false.2 ⟨_, hm, by simp; omega⟩
        rw [this]
        simp
      · have e2 := of_decide_eq_true e2
        unfold vMarks
        have : ¬ p0.Nodup := by
          intro hn
          rw [← List.take_append_drop i.toNat p0, drop_ix p0 i g0 hh] at hn
          have := (List.nodup_append.1 hn).2.2 _ e2 _ (List.mem_cons_self ..)
          exact this rfl
        rw [decide_eq_false this]
        simp
      · have e := of_decide_eq_false e
        have e2 := of_decide_eq_false e2
        rw [inc i p0.length g0 hh (by omega)]
        refine ⟨⟨by omega, by omega, ?_, ?_⟩, by omega⟩
        · rw [ka p0 i g0 hh]
          intro x hx
          rcases List.mem_append.1 hx with hx | hx
          · exact g2 x hx
          · have : x = ix p0 i := by simpa using hx
            omega
        · rw [ka p0 i g0 hh]
          refine List.nodup_append.2 ⟨g3, by simp, fun a ha b hb => ?_⟩
          have : b = ix p0 i := by simpa using hb
          rintro rfl
          exact e2 (this ▸ ha)
    · have hh := of_decide_eq_false hh
      rw [List.take_of_length_le (by omega)] at g2 g3
      unfold vMarks
      have : p0.all (fun x => decide (x < 18446744069414584321)) = true := by simpa using g2
      rw [this, decide_eq_true g3, decide_eq_true (by omega)]
      rfl
noncomputable def koy : Con TB.den := kx.totR fun x => ((fun (p0 : List Int) => (vMarks p0 : Bool)) x.1, ())
theorem k15t : koy.Ok Try.prog TB := Con.ok_tot kx bd58 fun x => k12t (k111 x.1)
end Go.Proofs.Ytnmakgfmimagmaa
namespace Go.Proofs.Ytnmakgfmimagmaa
open Go Go.Bv Go.Cv Go.Md Go.RowKit
def k2d : Con TB.den := Con.mk0 84 [.agg [.d (.int .u64), .d (.int .u64)]] [] (.one (.one (.d (.bool)))) []
abbrev kx7 := HL TB.den (hsT k2d.ins (hsOs k2d.pre))
abbrev kir := HL TB.den (hsV k2d.res (hsOs k2d.post))
noncomputable def kce : Cx TB := ⟨inf, [], [], 4⟩
noncomputable def kj3 : Code := Try.f84.body.getD .skip
noncomputable def km2 : List ResultVar := Try.f84.results.toList
noncomputable def kuj (o : kir) : An TB := .no
noncomputable def kj0 (x : kx7) (o : kir) : Prop := WPh TB kce 21 0 kj3 (kuj o) (k2d.st TB x) (retTQ TB kce k2d km2 o)
set_option maxRecDepth 100000 in
theorem k1ak (o : kir) : OblH TB kce 21 0 kj3 (kuj o) (retTQ TB kce k2d km2 o) :=
  OblH.of_eq (X := (True ∧ (True ∧ True))) (by kernel_rfl) ⟨trivial, ⟨trivial, trivial⟩⟩
set_option maxRecDepth 100000 in
theorem k197 {x : kx7} {o : kir} (h : kj0 x o) : SoundH Try.prog k2d.f ((k2d.args idf x).map (er TB)) ((k2d.obs idf x).map (erO TB)) (er TB (k2d.val idf o)) ((k2d.ops idf o).map (erO TB)) :=
  Con.soundH (c := k2d) (C := kce) TBok ⟨inf_ok, all_nil, all_nil⟩ mix Try.func84 (show Try.f84.body = some kj3 by kernel_rfl) (show Try.f84.ntmps = 21 by kernel_rfl) (show Try.f84.results.toList = km2 by kernel_rfl) rfl h (k1ak o)
set_option maxRecDepth 100000 in
theorem k1dn {p0 : TA2} {r0 : Bool} (h :
((decide (p0.a0 < 18446744069414584321) = true →
(decide (p0.a1 < 18446744069414584321) = true →
((p0.a0 != 0) = true →
 true = r0) ∧
((p0.a0 != 0) = false →
(p0.a1 != 0) = r0)) ∧
(decide (p0.a1 < 18446744069414584321) = false →
 false = r0)) ∧
(decide (p0.a0 < 18446744069414584321) = false →
 false = r0))) : kj0 (p0.a0, p0.a1, ()) (r0, ()) := WPh.of_eq (by kernel_rfl) h
theorem bd84 : Callable Try.prog 84 := ⟨by rw [Try.func84]; kernel_rfl, by rw [Try.func84]; show some _ ≠ some _; decide⟩
theorem k15b (p0 : TA2) : kj0 (p0.a0, p0.a1, ()) ((vPoint p0.a0 p0.a1 : Bool), ()) := by
  refine k1dn ?_
  unfold vPoint
  refine ⟨fun h => ⟨fun h1 => ⟨fun h2 => ?_, fun h2 => ?_⟩, fun h1 => ?_⟩, fun h => ?_⟩ <;> simp_all <;> omega
noncomputable def ksc : Con TB.den := k2d.totR fun x => ((fun (p0 : TA2) => (vPoint p0.a0 p0.a1 : Bool)) (TA2.mk x.1 x.2.1), ())
theorem k1b1 : ksc.Ok Try.prog TB := Con.ok_tot k2d bd84 fun x => k197 (k15b (TA2.mk x.1 x.2.1))
end Go.Proofs.Ytnmakgfmimagmaa
