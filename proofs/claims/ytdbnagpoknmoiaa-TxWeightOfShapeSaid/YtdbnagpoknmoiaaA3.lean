/-
  Parts of the proofs that the laws of this seat hold of every input, merged by a program: a machine over pure data that is sound for the model, what each function of the translation does in it, and plain lemmas. No conditions but those in each theorem.
-/
import Derived.Test.YtdbnagpoknmoiaaA2
set_option linter.all false
namespace Go.Bv
open Go.RowKit
def Eqv (s s' : St) : Prop := s.h = s'.h ∧ s.nx = s'.nx ∧ ∀ t, getS s.sl t = getS s'.sl t
theorem Eqv.refl (s : St) : Eqv s s := ⟨rfl, rfl, fun _ => rfl⟩
theorem Eqv.ev {s s' : St} (h : Eqv s s') : s.ev = s'.ev := by
  funext x
  cases x with
  | tmp t => exact h.2.2 t
  | _ => rfl
theorem Eqv.put {s s' : St} (h : Eqv s s') (u : Hp) (nf : Nat) (d : Option Nat) (x : V) : Eqv (St.put ⟨s.sl, u ++ s.h, s.nx + nf⟩ d x) (St.put ⟨s'.sl, u ++ s'.h, s'.nx + nf⟩ d x) := by
  obtain ⟨h1, h2, h3⟩ := h
  cases d with
  | none => exact ⟨by show u ++ s.h = u ++ s'.h; rw [h1], by show s.nx + nf = s'.nx + nf; rw [h2], h3⟩
  | some t => exact ⟨by show u ++ s.h = u ++ s'.h; rw [h1], by show s.nx + nf = s'.nx + nf; rw [h2], fun j => by
      show (if j = t then x else getS s.sl j) = (if j = t then x else getS s'.sl j)
      rw [h3 j]⟩
theorem Eqv.wk {s s' : St} (h : Eqv s s') : Wk s s' := by
  obtain ⟨h1, h2, h3⟩ := h
  obtain ⟨sl, hh, nx⟩ := s
  obtain ⟨sl', hh', nx'⟩ := s'
  simp only at h1 h2 h3
  subst h1
  subst h2
  intro T G0 w0 N a G w hR
  exact ⟨hR.fr, hR.wr, hR.df, hR.sz, fun t => by have := hR.sl t; rw [h3 t] at this; exact this, hR.ex⟩
theorem Wk.trans {a b c : St} (h : Wk a b) (h' : Wk b c) : Wk a c := fun T G0 w0 N x G w hR => h' T G0 w0 N x G w (h T G0 w0 N x G w hR)
theorem eqv_again {s : St} {u : Nat} {v : V} (h : getS s.sl u = v) : Eqv s ⟨(u, v) :: s.sl, s.h, s.nx⟩ := ⟨rfl, rfl, fun t => by
  show getS s.sl t = if t = u then v else getS s.sl t
  by_cases e : t = u
  · rw [if_pos e, e, h]
  · rw [if_neg e]⟩
theorem opD_eqv {P : Program} {nb S k : Nat} {op : Op} {e : Eff} {s s' : St} (h : Eqv s s') (ho : opD P nb S k op e s') : opD P nb S k op e s := by
  have e1 := h.ev
  have e2 := h.1
  unfold opD at ho ⊢
  rw [e1, e2]
  exact ho
theorem dops_eqv {P : Program} {N : Nat} {tb : List (Option Nat)} {nb S : Nat} {K K' : St → Prop} (hK : ∀ a b, Eqv a b → K b → K' a) : ∀ (l : List Oper) (ws rs : List (Nat × Nat)) (k : Nat) (s s' : St), Eqv s s' → DOps P N tb nb S ws rs k l K s' → DOps P N tb nb S ws rs k l K' s
  | [], _, _, _, s, s', he, h => hK s s' he h
  | o :: l, ws, rs, k, s, s', he, h => by
    obtain ⟨e, h1, ⟨h2, h3⟩, h4⟩ := h
    have hg : ∀ j, guardV s tb j = guardV s' tb j := fun j => by
      unfold guardV
      split
      · exact he.2.2 _
      · rfl
    refine ⟨e, ⟨h1.1, h1.2.1, ?_⟩, ⟨by rw [he.1]; exact h2, h3⟩, dops_eqv hK l _ _ (k + 1) _ _ ?_ h4⟩
    · have h5 := h1.2.2
      split
      · rename_i hn; rw [hn] at h5; exact opD_eqv he h5
      · rename_i j b hn
        rw [hn] at h5
        simp only at h5
        rw [hg j]
        rcases h5 with h5 | ⟨t, q1, q2, q3⟩
        · exact .inl h5
        · exact .inr ⟨t, q1, fun ht => opD_eqv he (q2 ht), q3⟩
    · have := he.put e.hu 0 e.d e.x
      exact this
end Go.Bv
namespace Go.Cv
open Go Go.Bv Go.RowKit Go.Md
section
variable {T : Tab} {P : Program} {C : Cx T} {N : Nat}
theorem isUndef_eq {v : Value} (h : isUndef v = true) : v = undef := by
  cases v with
  | tuple a =>
    have ha : a = #[] := Array.eq_empty_of_size_eq_zero (nb_eq h)
    subst ha; rfl
  | _ => cases h
theorem slotOf_er {s : TSt T.den} {tb : List (Option Nat)} {j u : Nat} (h : slotOf tb j = some u) : guardV (erS T s) tb j = er T (getT s.sl u) := by
  unfold slotOf at h
  split at h
  · rename_i t ht
    injection h with h
    subst h
    unfold guardV
    rw [ht]
    exact getS_er s.sl t
  · cases h
theorem tGuard_snd {s : TSt T.den} {tb : List (Option Nat)} {g : Option (Nat × Bool)} {run no : TSt T.den → Prop} (h : tGuard T s tb g run no) :
    (g = none ∧ run s) ∨ ∃ j b, g = some (j, b) ∧ ((guardV (erS T s) tb j = .k undef ∧ no s) ∨ ∃ (t : Bool) (s' : TSt T.den), guardV (erS T s) tb j = .d (.bool t) ∧ Eqv (erS T s) (erS T s') ∧ ((t = b ∧ run s') ∨ (t ≠ b ∧ no s'))) := by
  unfold tGuard at h
  split at h
  · exact .inl ⟨rfl, h⟩
  · rename_i j b
    refine .inr ⟨j, b, rfl, ?_⟩
    split at h
    · exact h.elim
    · rename_i u hu
      have hs := slotOf_er (s := s) hu
      split at h
      · rename_i v hv
        obtain ⟨h1, h2⟩ := cnd h
        rw [hv, isUndef_eq h1] at hs
        exact .inl ⟨hs, h2⟩
      · rename_i t hv
        rw [hv] at hs
        refine .inr ⟨t, s, hs, Eqv.refl _, ?_⟩
        cases ht : (t == b) with
        | true => rw [ht] at h; exact .inl ⟨by simpa using ht, h⟩
        | false => rw [ht] at h; exact .inr ⟨by simpa using ht, h⟩
      · rename_i t hv
        rw [hv] at hs
        obtain ⟨h1, h2⟩ := h
        cases t with
        | true =>
          have h1 := h1 rfl
          refine .inr ⟨true, ⟨(u, .lit true) :: s.sl, s.h, s.nx⟩, hs, eqv_again (s := erS T s) (u := u) (v := er T (.lit true)) (by rw [show getS (erS T s).sl u = er T (getT s.sl u) from getS_er s.sl u, hv]; rfl), ?_⟩
          cases b with
          | true => exact .inl ⟨rfl, h1⟩
          | false => exact .inr ⟨(by decide), h1⟩
        | false =>
          have h2 := h2 rfl
          refine .inr ⟨false, ⟨(u, .lit false) :: s.sl, s.h, s.nx⟩, hs, eqv_again (s := erS T s) (u := u) (v := er T (.lit false)) (by rw [show getS (erS T s).sl u = er T (getT s.sl u) from getS_er s.sl u, hv]; rfl), ?_⟩
          cases b with
          | true => exact .inr ⟨(by decide), h2⟩
          | false => exact .inl ⟨rfl, h2⟩
      · exact h.elim
theorem tops_sound (hT : T.Ok) (hC : C.Ok P T) {Tk : Tk} {G0 : Gh} {w0 : World} {ops : List Oper} {Q : Exit → Act → World → Prop} : ∀ (l : List Oper) (K : TSt T.den → Prop) (s : TSt T.den) (a : Act) (G : Gh) (w : World), R Tk G0 w0 N (erS T s) a G w → tOps T C N (ops.map (·.dst)) l s K →
    (∀ s' a' G' w', K s' → R Tk G0 w0 N (erS T s') a' G' w' → Q .normal a' w') → wpList P ops.toArray Q l a w
  | [], K, s, a, G, w, hR, hk, hQ => hQ _ _ _ _ hk hR
  | o :: r, K, s, a, G, w, hR, hk, hQ => by
    refine wpList_step fun K1 hK1 => ?_
    simp only [tOps] at hk
    obtain ⟨hd, hk⟩ := cnd hk
    have hdo := dstB_ok hd
    have rest : ∀ s' a' G' w', tOps T C N (ops.map (·.dst)) r s' K → R Tk G0 w0 N (erS T s') a' G' w' → K1 a' w' := fun s' a' G' w' h1 h2 => hK1 _ _ (tops_sound hT hC r K s' a' G' w' h2 h1 hQ)
    have run : ∀ s' : TSt T.den, R Tk G0 w0 N (erS T s') a G w → tStep T C s' (fun v hu nf => tOps T C N (ops.map (·.dst)) r (TSt.put ⟨s'.sl, hu ++ s'.h, s'.nx + nf⟩ o.dst v) K) o.op → o.wp P a w K1 (fun e a w => Q e a w) := by
      intro s' hR' hs
      refine op_sound hR' (tStep_sound hT hC hd hs) ?_
      rintro s1 a' G' w' ⟨v, hu, nf, h1, h2⟩ hR1
      exact rest _ a' G' w' h1 (h2 _ _ _ _ _ _ _ hR1)
    have no : ∀ s' : TSt T.den, R Tk G0 w0 N (erS T s') a G w → tOps T C N (ops.map (·.dst)) r (s'.put o.dst (.k undef)) K → K1 (a.put o.dst undef) w := by
      intro s' hR' hs
      refine rest _ _ G w hs ?_
      rw [erS_put]
      exact hR'.put (.k _) o.dst (fun u hu => by rw [hu] at hdo; exact hdo)
    rcases tGuard_snd hk with ⟨hg, h1⟩ | ⟨j, b, hg, ⟨h1, h2⟩ | ⟨t, s', h1, he, ⟨htb, h2⟩ | ⟨htb, h2⟩⟩⟩
    · rw [if_pos (by simp [Region.wanted, hg])]
      exact run s hR h1
    · have hy := guard_none hR h1
      rw [if_neg (by simp [Region.wanted, hg, hy])]
      exact no s hR h2
    · have hy := guard_yield hR h1
      rw [if_pos (by simp [Region.wanted, hg, hy, htb])]
      exact run s' (he.wk _ _ _ _ _ _ _ hR) h2
    · have hy := guard_yield hR h1
      rw [if_neg (by simp [Region.wanted, hg, hy, htb])]
      exact no s' (he.wk _ _ _ _ _ _ _ hR) h2
theorem prim_zero {k : IntKind} {zs : List V} {e : Ty} (he : e.prim = true) (h : leL zs ((T.e e (T.dflt e)).cells.map .d)) : zs = (T.e e (T.dflt e)).cells.map .d := by
  have key : ∀ d : D, (∀ s l, d ≠ .slice s l) → leL zs [.d d] → zs = [.d d] := by
    clear h
    intro d hd hl
    match zs, hl with
    | [z], hl =>
      have h1 : le1 z (.d d) := hl.1.1
      have : z = .d d := by
        unfold le1 at h1
        split at h1
        · rename_i hq; cases hq
        · rename_i hq; injection hq with hq; exact (hd _ _ hq).elim
        · rename_i hq; injection hq with hq; exact (hd _ _ hq).elim
        · rename_i hq; injection hq with hq; exact (hd _ _ hq).elim
        · rename_i hq; cases hq
        · exact h1
      rw [this]
    | [], hl => exact hl.elim
    | _ :: _ :: _, hl => exact hl.2.elim
  cases e with
  | int k => exact key _ (fun _ _ h => by cases h) h
  | bool => exact key _ (fun _ _ h => by cases h) h
  | str => exact key _ (fun _ _ h => by cases h) h
  | _ => cases he
theorem tOp_draw (hT : T.Ok) (hC : C.Ok P T) {nb S k : Nat} {s : TSt T.den} {K : TV T.den → THp T.den → Nat → Prop} {op : Op} (d : Option Nat) (h : tOp T C true (frs nb S k) s K op) :
    ∃ v hu nf, K v hu nf ∧ (nf ≤ S → opD P nb S k op ⟨d, er T v, erH T hu, rdT T s op⟩ (erS T s)) := by
  have quiet : ∀ op, (∀ t a, op ≠ .load t a) → tq T C.ti s (fun v => K v [] 0) op → ∃ v hu nf, K v hu nf ∧ avOk P [] (erS T s).ev op ∧ er T v = av P [] (erS T s).ev op ∧ erH T hu = [] := by
    intro op hl h
    obtain ⟨u, h1, h2, h3⟩ := tq_snd hT hC.ti h
    obtain ⟨q1, q2⟩ := av_h (P := P) (ev := (erS T s).ev) (op := op) (erS T s).h hl
    exact ⟨u, [], 0, h1, by rw [← q2]; exact h2, by rw [← q1, h3], rfl⟩
  cases op with
  | alloc t =>
    simp only [tOp] at h
    split at h
    · rename_i z hz
      obtain ⟨q1, q2⟩ := (hC.ti.of t).ze z hz
      refine ⟨_, _, _, h, fun hs => ⟨by rw [q1]; rfl, by omega, rfl, ?_⟩⟩
      have : zeroD P t = z.map (er1 T) := by unfold zeroD; rw [q1]; rfl
      rw [this]; rfl
    · exact h.elim
  | box t x =>
    simp only [tOp] at h
    obtain ⟨h1, h2⟩ := cnd h
    obtain ⟨c1, c2⟩ := cells_er h1
    refine ⟨_, _, _, h2, fun hs => ⟨⟨_, by rw [ev_er]; exact c2⟩, by omega, rfl, ?_⟩⟩
    rw [ev_er, c1]; rfl
  | store t a x =>
    simp only [tOp] at h
    obtain ⟨id, off, l, g, n, o, h1, h2, h3, h4, h5, h6, h7⟩ := tStore_snd hT (hC.ti.of t) h
    rcases h7 with h7 | ⟨h7, _⟩
    · refine ⟨_, _, _, h1, fun _ => ⟨id, off, l, g, n, by rw [ev_er]; exact h2, h3, h4, by rw [ev_er]; exact h5, h6, rfl, ?_⟩⟩
      rw [ev_er]
      show [(id, erO T o)] = _
      rw [h7]
    · cases h7
  | build t parts =>
    simp only [tOp] at h
    split at h
    · rename_i z hz
      obtain ⟨q1, q2⟩ := (hC.ti.of t).ze z hz
      cases hp : (TI.of C.ti t).pl.isEmpty with
      | true => rw [hp] at h; exact h.elim
      | false =>
        rw [hp] at h
        have hpl := (hC.ti.of t).pl (fun e => by rw [e] at hp; cases hp)
        obtain ⟨l', g1, g2, g3⟩ := tFill_snd _ _ h
        have e1 : zeroD P t = z.map (er1 T) := by unfold zeroD; rw [q1]; rfl
        have e2 : plD P t = (TI.of C.ti t).pl := by unfold plD; rw [hpl]; rfl
        have e3 : (parts.toList.map fun p => (p.1, (erS T s).ev p.2)) = (parts.toList.map fun p => (p.1, s.ev p.2)).map fun p => (p.1, er T p.2) := by
          rw [List.map_map]; exact List.map_congr_left fun p _ => by simp only [Function.comp, ev_er]
        refine ⟨_, _, _, g1, fun _ => ⟨by rw [hpl]; rfl, by rw [q1]; rfl, ?_, ?_, rfl⟩⟩
        · rw [e1, e2, e3]; exact g2
        · rw [e1, e2, e3, g3]; rfl
    · exact h.elim
  | buildSlice t n parts =>
    simp only [tOp] at h
    split at h
    · rename_i e bt hel
      split at h
      · rename_i l hl
        obtain ⟨h1, h2⟩ := cnd h
        have e3 : (parts.toList.map fun p => (erS T s).ev p.2) = (parts.toList.map fun p => s.ev p.2).map (er T) := by
          rw [List.map_map]; exact List.map_congr_left fun p _ => by simp only [Function.comp, ev_er]
        obtain ⟨⟨k1, k2, k3, k4, k5⟩, k6⟩ := tBuildSlice_snd hT (hC.ti.of t) hel (is := parts.toList.map (·.1)) hl (by rw [List.length_map]; exact h1) (by simp)
        rw [← e3] at k3 k4 k6
        exact ⟨_, _, _, h2, fun _ => ⟨⟨k1, k2, k3, k4, k5⟩, by omega, k6.symm, rfl⟩⟩
      · exact h.elim
    · exact h.elim
  | makeSlice t l c =>
    simp only [tOp, Bool.true_and] at h
    cases hb : noPrim (TI.of C.ti t).el with
    | true => rw [hb] at h; exact h.elim
    | false =>
      rw [hb] at h
      simp only [cond_false, tMake] at h
      split at h
      · rename_i e bt q n q' m hel hez hxi hyi
        rw [hel] at hb
        have hpr : e.prim = true := by simpa [noPrim] using hb
        obtain ⟨h1, h2, h3⟩ := h
        obtain ⟨h3, h4⟩ := ask_and h3
        obtain ⟨h4, h5⟩ := ask_and h4
        have hrow := ((hC.ti.of t).el _ _ hel).2
        have hrd : rowD P t = (T.sz e, bt) := by unfold rowD; rw [hrow]; rfl
        obtain ⟨zs, z1, z2⟩ := (hC.ti.of t).ez hez e bt hel
        have hzs := prim_zero (k := .i64) hpr z2
        have ex : (erS T s).ev l = .d (.int q n) := by rw [ev_er, asI_eq hxi]; rfl
        have ey : (erS T s).ev c = .d (.int q' m) := by rw [ev_er, asI_eq hyi]; rfl
        refine ⟨_, _, _, h5, fun hs => ⟨?_, by omega, ?_, ?_⟩⟩
        · rw [ex, ey]
          exact ⟨⟨by rw [hrow]; rfl, by rw [z1]; rfl⟩, h1, h2, by rw [hrd]; exact h3, h4⟩
        · rw [ex, hrd]; rfl
        · rw [ex]
          show [(_, Ob.cells _)] = [(_, Ob.cells _)]
          have : elZD P t = zs := by unfold elZD; rw [z1]; rfl
          rw [this, zrow_eq, flat_repl, hzs]; rfl
      · exact h.elim
  | call c =>
    obtain ⟨callee, args, argTypes⟩ := c
    cases callee with
    | builtin b =>
      cases b with
      | append =>
        simp only [tOp] at h
        obtain ⟨h1, h2⟩ := cnd h
        simp only [Bool.and_eq_true] at h1
        unfold tAppend at h2
        split at h2
        · exact h2.elim
        · rename_i e bt hel
          have hrow := ((hC.ti.of _).el _ _ hel).2
          split at h2
          · exact h2.elim
          · rename_i m hm
            obtain ⟨y1, y2⟩ := els_elsD hm
            split at h2
            · rename_i tok e0 l0 hx
              split at h2
              · rename_i e1 l' hg
                split at h2
                · rename_i l hl
                  obtain ⟨k1, k2, k3, k4⟩ := h2
                  obtain ⟨c1, c2, c3⟩ := castL_er hl
                  have ex : (erS T s).ev (args.getD 0 (.const .nilIface)) = .own tok (T.sz e) (l.map (T.e e)) := by
                    rw [ev_er]
                    have : s.ev (args.getD 0 (.const .nilIface)) = .own tok e0 l0 := hx
                    rw [this]
                    show V.own tok (T.sz e0) (l0.map (T.e e0)) = _
                    rw [c1, c2]
                  have ey : ((erS T s).ev (args.getD 1 (.const .nilIface))).elsD (T.sz e) = m.map (T.e e) := by rw [ev_er]; exact y1
                  refine ⟨_, _, _, k4, fun _ => ⟨⟨nb_eq h1.1.1, nb_eq h1.1.2, nb_eq h1.2⟩, tok, T.sz e, bt, l.map (T.e e), hrow, ex, ?_, by rw [ev_er]; exact y2, ?_, ?_, ?_, ?_⟩⟩
                  · show (erH T s.h).get tok = _
                    rw [getH_er, hg, List.length_map, ← k1]; rfl
                  · rw [ey]; simp only [List.length_map]; exact k2
                  · rw [ey]; simp only [List.length_map]; exact k3
                  · rw [ey, ← List.map_append]; rfl
                  · rw [ey]
                    show [(tok, Ob.tip (l ++ m).length)] = _
                    rw [List.length_append, List.length_map, List.length_map]
                · exact h2.elim
              · exact h2.elim
            · split at h2
              · rename_i hh _; cases hh
              · exact h2.elim
            · exact h2.elim
            · exact h2.elim
      | len => obtain ⟨v, hu, nf, g1, g2, g3, g4⟩ := quiet (.call ⟨.builtin .len, args, argTypes⟩) (fun _ _ h => by cases h) h; exact ⟨v, hu, nf, g1, fun _ => ⟨g2, g3, g4⟩⟩
      | min => obtain ⟨v, hu, nf, g1, g2, g3, g4⟩ := quiet (.call ⟨.builtin .min, args, argTypes⟩) (fun _ _ h => by cases h) h; exact ⟨v, hu, nf, g1, fun _ => ⟨g2, g3, g4⟩⟩
      | max => obtain ⟨v, hu, nf, g1, g2, g3, g4⟩ := quiet (.call ⟨.builtin .max, args, argTypes⟩) (fun _ _ h => by cases h) h; exact ⟨v, hu, nf, g1, fun _ => ⟨g2, g3, g4⟩⟩
      | _ => exact (show False from h).elim
    | value f =>
      simp only [tOp] at h
      split at h
      · rename_i g hf
        have hev : (erS T s).ev f = .k (.func (.func g) #[] #[]) := by rw [ev_er, fnOf_eq hf]; rfl
        have ea : args.toList.map (erS T s).ev = (args.toList.map s.ev).map (er T) := by
          rw [List.map_map]; exact List.map_congr_left fun p _ => by simp only [Function.comp, ev_er]
        split at h
        · rename_i x hx
          obtain ⟨m1, m2⟩ := findX_mem hx
          split at h
          · rename_i i hi
            obtain ⟨h1, h2⟩ := h
            have := tX_snd (hC.xs x m1) hi h1
            rw [m2, ← ea] at this
            exact ⟨_, _, _, h2, fun _ => .inl ⟨g, _, hev, this, rfl, rfl⟩⟩
          · exact h.elim
        · obtain ⟨c, m1, m2, m3⟩ := findC_mem h
          obtain ⟨xs, pre, r, post, ids, v, hu, nf, k1, k2, k3, k4, k5, k6, k7, k8, k9, k10, k11⟩ := tCall_snd hT (hC.cs c m1) m3
          have hcl := (hC.cs c m1).cl
          rw [m2] at hcl k2
          rw [← ea] at k6
          exact ⟨v, hu, nf, k1, fun hs => .inr ⟨g, xs, pre, r, post, ids, hev, ⟨hcl.1, hcl.2, k2⟩, k3, k4, k5, k6, k7, ⟨by omega, k11 rfl⟩, k8, k9⟩⟩
      · exact h.elim
    | _ => exact (show False from h).elim
  | load t a =>
    obtain ⟨u, h1, h2, h3⟩ := tq_snd hT hC.ti (op := .load t a) h
    refine ⟨u, [], 0, h1, fun _ => ⟨h2, fun id off he => ?_, h3.symm, rfl⟩⟩
    rw [ev_er] at he
    show id ∈ (match s.ev a with | .ptr id _ => [id] | .aptr id _ _ _ => [id] | .eptr id _ _ _ => [id] | _ => [])
    generalize s.ev a = v at he
    cases v with
    | ptr i o => injection he with he; subst he; simp
    | aptr i o n j => injection he with he; subst he; simp
    | eptr i o n j => injection he with he; subst he; simp
    | _ => cases he
  | move x => obtain ⟨v, hu, nf, g1, g2, g3, g4⟩ := quiet (.move x) (fun _ _ h => by cases h) h; exact ⟨v, hu, nf, g1, fun _ => ⟨g2, g3, g4⟩⟩
  | assign x => obtain ⟨v, hu, nf, g1, g2, g3, g4⟩ := quiet (.assign x) (fun _ _ h => by cases h) h; exact ⟨v, hu, nf, g1, fun _ => ⟨g2, g3, g4⟩⟩
  | pick c a b => obtain ⟨v, hu, nf, g1, g2, g3, g4⟩ := quiet (.pick c a b) (fun _ _ h => by cases h) h; exact ⟨v, hu, nf, g1, fun _ => ⟨g2, g3, g4⟩⟩
  | fieldAddr t x f => obtain ⟨v, hu, nf, g1, g2, g3, g4⟩ := quiet (.fieldAddr t x f) (fun _ _ h => by cases h) h; exact ⟨v, hu, nf, g1, fun _ => ⟨g2, g3, g4⟩⟩
  | field t x f => obtain ⟨v, hu, nf, g1, g2, g3, g4⟩ := quiet (.field t x f) (fun _ _ h => by cases h) h; exact ⟨v, hu, nf, g1, fun _ => ⟨g2, g3, g4⟩⟩
  | indexAddr t x i => obtain ⟨v, hu, nf, g1, g2, g3, g4⟩ := quiet (.indexAddr t x i) (fun _ _ h => by cases h) h; exact ⟨v, hu, nf, g1, fun _ => ⟨g2, g3, g4⟩⟩
  | index t x i => obtain ⟨v, hu, nf, g1, g2, g3, g4⟩ := quiet (.index t x i) (fun _ _ h => by cases h) h; exact ⟨v, hu, nf, g1, fun _ => ⟨g2, g3, g4⟩⟩
  | extract x i => obtain ⟨v, hu, nf, g1, g2, g3, g4⟩ := quiet (.extract x i) (fun _ _ h => by cases h) h; exact ⟨v, hu, nf, g1, fun _ => ⟨g2, g3, g4⟩⟩
  | binOp op t x y t' => obtain ⟨v, hu, nf, g1, g2, g3, g4⟩ := quiet (.binOp op t x y t') (fun _ _ h => by cases h) h; exact ⟨v, hu, nf, g1, fun _ => ⟨g2, g3, g4⟩⟩
  | unOp op t x => obtain ⟨v, hu, nf, g1, g2, g3, g4⟩ := quiet (.unOp op t x) (fun _ _ h => by cases h) h; exact ⟨v, hu, nf, g1, fun _ => ⟨g2, g3, g4⟩⟩
  | convert a b x => obtain ⟨v, hu, nf, g1, g2, g3, g4⟩ := quiet (.convert a b x) (fun _ _ h => by cases h) h; exact ⟨v, hu, nf, g1, fun _ => ⟨g2, g3, g4⟩⟩
  | slice t x lo hi mx => obtain ⟨v, hu, nf, g1, g2, g3, g4⟩ := quiet (.slice t x lo hi mx) (fun _ _ h => by cases h) h; exact ⟨v, hu, nf, g1, fun _ => ⟨g2, g3, g4⟩⟩
  | nilCheck x => obtain ⟨v, hu, nf, g1, g2, g3, g4⟩ := quiet (.nilCheck x) (fun _ _ h => by cases h) h; exact ⟨v, hu, nf, g1, fun _ => ⟨g2, g3, g4⟩⟩
  | _ => exact (show False from h).elim
theorem wsB_spec {af : Array Edge} {id : Nat} : ∀ {ws : List (Nat × Nat)}, wsB af id ws = true → wsL ws af id
  | [], _, p, hp, _ => by cases hp
  | q :: r, h, p, hp, he => by
    simp only [wsB, Bool.and_eq_true, Bool.or_eq_true, Bool.not_eq_true'] at h
    rcases List.mem_cons.1 hp with rfl | hp
    · rcases h.1 with h1 | h1
      · rw [he, nb_self] at h1; cases h1
      · exact h1
    · exact wsB_spec h.2 p hp he
theorem rdB_spec {ws : List (Nat × Nat)} {af : Array Edge} : ∀ {ids : List Nat}, rdB ws af ids = true → rdOk ws af ids
  | [], _, id, h => by cases h
  | i :: r, h, id, hi => by
    simp only [rdB, Bool.and_eq_true] at h
    rcases List.mem_cons.1 hi with rfl | hi
    · exact wsB_spec h.1
    · exact rdB_spec h.2 id hi
theorem wrB_spec {nb S k : Nat} {ws rs : List (Nat × Nat)} {af : Array Edge} {h : THp T.den} : ∀ {ids : List Nat}, wrB T nb S k ws rs af h ids = true → wrOk nb S k ws rs af (erH T h) ids
  | [], _, id, h => by cases h
  | i :: r, hh, id, hi => by
    simp only [wrB, Bool.and_eq_true, Bool.or_eq_true] at hh
    obtain ⟨⟨⟨⟨h1, h2⟩, h3⟩, h4⟩, h5⟩ := hh
    rcases List.mem_cons.1 hi with rfl | hi
    · refine ⟨wsB_spec h1, wsB_spec h2, blt_lt h3, ?_⟩
      rcases h4 with h4 | h4
      · exact .inl (ble_le h4)
      · refine .inr ?_
        rw [getH_er, Option.isSome_map]; exact h4
    · exact wrB_spec h5 id hi
theorem keys_er (h : THp T.den) : keys (erH T h) = keysT T h := by
  unfold keys erH keysT
  rw [List.map_map]; rfl
def KE (K : TSt T.den → Prop) (s : St) : Prop := ∃ t, K t ∧ Wk s (erS T t)
theorem tDs_sound (hT : T.Ok) (hC : C.Ok P T) {tb : List (Option Nat)} {nb S : Nat} {K : TSt T.den → Prop} : ∀ (l : List Oper) (ws rs : List (Nat × Nat)) (k : Nat) (s : TSt T.den), tDs T C N tb nb S l ws rs k s K → DOps P N tb nb S ws rs k l (KE K) (erS T s)
  | [], ws, rs, k, s, h => ⟨s, h, Wk.refl _⟩
  | o :: r, ws, rs, k, s, h => by
    have hcl : ∀ a b : St, Eqv a b → KE K b → KE K a := fun a b he ⟨t, h1, h2⟩ => ⟨t, h1, he.wk.trans h2⟩
    simp only [tDs] at h
    obtain ⟨hd, h⟩ := cnd h
    have hdo := dstB_ok hd
    have run : ∀ s' : TSt T.den, (bif rdB ws o.after (rdT T s' o.op) then tOp T C true (frs nb S k) s' (fun v hu nf => bif Nat.ble nf S && wrB T nb S k ws rs o.after s'.h (keysT T hu) then
          tDs T C N tb nb S r ((keysT T hu).map (·, k) ++ ws) ((rdT T s' o.op).map (·, k) ++ rs) (k + 1) (TSt.put ⟨s'.sl, hu ++ s'.h, s'.nx⟩ o.dst v) K else False) o.op else False) →
        ∃ e : Eff, (e.d = o.dst ∧ opD P nb S k o.op e (erS T s')) ∧ (wrOk nb S k ws rs o.after (erS T s').h (keys e.hu) ∧ rdOk ws o.after e.rd) ∧ DOps P N tb nb S ((keys e.hu).map (·, k) ++ ws) (e.rd.map (·, k) ++ rs) (k + 1) r (KE K) (e.app (erS T s')) := by
      intro s' hr
      obtain ⟨hr1, hr2⟩ := cnd hr
      obtain ⟨v, hu, nf, k1, k2⟩ := tOp_draw hT hC o.dst hr2
      obtain ⟨k3, k4⟩ := cnd k1
      simp only [Bool.and_eq_true] at k3
      refine ⟨_, ⟨rfl, k2 (ble_le k3.1)⟩, ⟨?_, rdB_spec hr1⟩, ?_⟩
      · rw [keys_er]; exact wrB_spec k3.2
      · have := tDs_sound hT hC r _ _ (k + 1) _ k4
        rw [keys_er]
        have e : (Eff.app ⟨o.dst, er T v, erH T hu, rdT T s' o.op⟩ (erS T s')) = erS T (TSt.put ⟨s'.sl, hu ++ s'.h, s'.nx⟩ o.dst v) := by
          rw [erS_put]
          show St.put ⟨_, erH T hu ++ erH T s'.h, _⟩ o.dst _ = St.put ⟨_, erH T (hu ++ s'.h), _⟩ o.dst _
          rw [erH_app]; rfl
        rw [e]; exact this
    have no : ∀ s' : TSt T.den, tDs T C N tb nb S r ws rs (k + 1) (s'.put o.dst (.k undef)) K → ∃ e : Eff, (e.d = o.dst ∧ e.x = .k undef ∧ e.hu = []) ∧ (wrOk nb S k ws rs o.after (erS T s').h (keys e.hu) ∧ rdOk ws o.after e.rd) ∧ DOps P N tb nb S ((keys e.hu).map (·, k) ++ ws) (e.rd.map (·, k) ++ rs) (k + 1) r (KE K) (e.app (erS T s')) := by
      intro s' hr
      have := tDs_sound hT hC r _ _ (k + 1) _ hr
      rw [erS_put] at this
      exact ⟨⟨o.dst, .k undef, [], []⟩, ⟨rfl, rfl, rfl⟩, ⟨fun _ h => (by cases h), fun _ h => (by cases h)⟩, this⟩
    have back : ∀ s' : TSt T.den, Eqv (erS T s) (erS T s') → ∀ e : Eff, (wrOk nb S k ws rs o.after (erS T s').h (keys e.hu) ∧ rdOk ws o.after e.rd) ∧ DOps P N tb nb S ((keys e.hu).map (·, k) ++ ws) (e.rd.map (·, k) ++ rs) (k + 1) r (KE K) (e.app (erS T s')) →
        (wrOk nb S k ws rs o.after (erS T s).h (keys e.hu) ∧ rdOk ws o.after e.rd) ∧ DOps P N tb nb S ((keys e.hu).map (·, k) ++ ws) (e.rd.map (·, k) ++ rs) (k + 1) r (KE K) (e.app (erS T s)) := by
      rintro s' he e ⟨⟨h1, h2⟩, h3⟩
      exact ⟨⟨by rw [he.1]; exact h1, h2⟩, dops_eqv hcl r _ _ _ _ _ (he.put e.hu 0 e.d e.x) h3⟩
    rcases tGuard_snd h with ⟨hg, h1⟩ | ⟨j, b, hg, ⟨h1, h2⟩ | ⟨t, s', h1, he, ⟨htb, h2⟩ | ⟨htb, h2⟩⟩⟩
    · obtain ⟨e, ⟨q1, q2⟩, q3, q4⟩ := run s h1
      exact ⟨e, ⟨hdo, q1, by rw [hg]; exact q2⟩, q3, q4⟩
    · obtain ⟨e, ⟨q1, q2⟩, q3, q4⟩ := no s h2
      exact ⟨e, ⟨hdo, q1, by rw [hg]; exact .inl ⟨h1, q2⟩⟩, q3, q4⟩
    · obtain ⟨e, ⟨q1, q2⟩, q3⟩ := run s' h2
      obtain ⟨q4, q5⟩ := back s' he e q3
      exact ⟨e, ⟨hdo, q1, by rw [hg]; exact .inr ⟨t, h1, fun _ => opD_eqv he q2, fun hn => (hn htb).elim⟩⟩, q4, q5⟩
    · obtain ⟨e, ⟨q1, q2⟩, q3⟩ := no s' h2
      obtain ⟨q4, q5⟩ := back s' he e q3
      exact ⟨e, ⟨hdo, q1, by rw [hg]; exact .inr ⟨t, h1, fun hn => (htb hn).elim, fun _ => q2⟩⟩, q4, q5⟩
end
end Go.Cv
namespace Go.Bv
open Go.RowKit
def Lk (T : Tk) (s s' : St) : Prop := ∀ (G0 : Gh) (w0 : World) (N : Nat) (a : Act) (G : Gh) (w : World), R T G0 w0 N s a G w → R T G0 w0 N s' a G w
theorem Wk.lk {T : Tk} {s s' : St} (h : Wk s s') : Lk T s s' := fun G0 w0 N a G w hR => h T G0 w0 N a G w hR
theorem St.le.lk {T : Tk} {s s' : St} (h : St.le T.nx s s') : Lk T s s' := fun _ _ _ _ _ _ hR => hR.le h
theorem Lk.trans {T : Tk} {a b c : St} (h : Lk T a b) (h' : Lk T b c) : Lk T a c := fun G0 w0 N x G w hR => h' G0 w0 N x G w (h G0 w0 N x G w hR)
section
variable {P : Program} {T : Tk} {G0 : Gh} {w0 : World} {N : Nat} {s : St} {Q : Exit → St → Prop}
theorem sat_lk {c : Code} {s' : St} (hl : Lk T s s') (h : Sat P T G0 w0 N c s' Q) : Sat P T G0 w0 N c s Q := fun G a w hR => h G a w (hl _ _ _ _ _ _ hR)
theorem sat_post {c : Code} {Q' : Exit → St → Prop} (h : Sat P T G0 w0 N c s Q) (hq : ∀ e s, Q e s → ∃ s', Q' e s' ∧ Lk T s s') : Sat P T G0 w0 N c s Q' :=
  fun G a w hR => wp_mono (h G a w hR) fun _ _ _ ⟨s', G', h1, h2⟩ => let ⟨s2, k1, k2⟩ := hq _ s' h1; ⟨s2, G', k1, k2 _ _ _ _ _ _ h2⟩
theorem sat_loopk {ι : Type} (st : ι → St) (p : ι → Prop) (μ : ι → Nat) {c : Code} (i0 : ι) (h0 : p i0) (hl : Lk T s (st i0))
    (round : ∀ i, p i → Sat P T G0 w0 N c (st i) (thenA (fun s' => ∃ i', p i' ∧ μ i' < μ i ∧ Lk T s' (st i')) Q)) : Sat P T G0 w0 N (.loop c) s Q := by
  intro G a w hR
  have key : ∀ n i, μ i = n → p i → ∀ G a w, R T G0 w0 N (st i) a G w → ∀ (b : Frame) (k : List Item) (cs : List Frame), ∃ e a' w', (∃ s' G', Q e s' ∧ R T G0 w0 N s' a' G' w') ∧ Arrives P (lone (b.at a (.code c :: .inLoop c :: k)) cs w) b k cs e a' w' := by
    intro n
    induction n using Nat.strongRecOn with
    | _ n ih =>
      intro i hn hp G a w hR b k cs
      obtain ⟨e, a1, w1, ⟨s1, G1, hq, hR1⟩, harr⟩ := round i hp G a w hR b (.inLoop c :: k) cs
      cases e with
      | normal =>
        obtain ⟨i', h1, h2, h3⟩ := hq
        obtain ⟨e2, a2, w2, hq2, harr2⟩ := ih (μ i') (hn ▸ h2) i' rfl h1 G1 a1 w1 (h3 _ _ _ _ _ _ hR1) b k cs
        exact ⟨e2, a2, w2, hq2, .of_steps (Steps.trans harr (.one step_inLoop)) harr2⟩
      | exit id => exact ⟨_, a1, w1, ⟨s1, G1, hq, hR1⟩, .pass (x := .inLoop c) rfl (fun _ _ => .inl (by simp)) harr⟩
      | goto l => exact ⟨_, a1, w1, ⟨s1, G1, hq, hR1⟩, .pass (x := .inLoop c) rfl (fun _ _ => .inl (by simp)) harr⟩
      | ret => exact ⟨_, a1, w1, ⟨s1, G1, hq, hR1⟩, .pass (x := .inLoop c) rfl (fun _ _ => .inl (by simp)) harr⟩
      | panic ch => exact ⟨_, a1, w1, ⟨s1, G1, hq, hR1⟩, .pass (x := .inLoop c) rfl (fun _ _ => .inl (by simp)) harr⟩
      | outgrown => exact ⟨_, a1, w1, ⟨s1, G1, hq, hR1⟩, .pass (x := .inLoop c) rfl (fun _ _ => .inl (by simp)) harr⟩
  intro b k cs
  obtain ⟨e, a', w', hq, harr⟩ := key _ i0 rfl h0 G a w (hl _ _ _ _ _ _ hR) b k cs
  exact ⟨e, a', w', hq, .of_steps (.one step_loop) harr⟩
end
end Go.Bv
namespace Go.Cv
open Go Go.Bv Go.RowKit Go.Md
section
variable {T : Tab} {P : Program} {C : Cx T} {N : Nat}
theorem slLe_mk {s : TSt T.den} {nx : Nat} : ∀ (ts : List Nat) (vs : List (TV T.den)), leAll ((ts.map (getT s.sl)).map (er T)) (vs.map (er T)) → (∀ z ∈ vs.map (er T), ok nx z) → slLe (erS T s).sl nx ((zipS T ts vs).map fun p => (p.1, er T p.2))
  | [], [], _, _ => trivial
  | [], _ :: _, h, _ => h.elim
  | _ :: _, [], h, _ => h.elim
  | t :: ts, v :: vs, h, ho => by
    refine ⟨⟨?_, ho _ (by simp)⟩, slLe_mk ts vs h.2 fun z hz => ho z (by simp only [List.map_cons, List.mem_cons]; exact .inr hz)⟩
    show le (getS (erS T s).sl t) (er T v)
    rw [show getS (erS T s).sl t = er T (getT s.sl t) from getS_er s.sl t]
    exact h.1
theorem hpLe_mk {h : Hp} {nx : Nat} {σ : Nat → Nat} : ∀ (os : List (TOb T.den)) (k : Nat), (∀ i o, os[i]? = some o → σ (k + i) < nx ∧ obLe (h.get (σ (k + i))) (erO T o) ∧ okO nx (erO T o)) → hpLe h nx (erH T (hpN σ k os))
  | [], _, _ => trivial
  | o :: os, k, hh => by
    refine ⟨hh 0 o rfl, hpLe_mk os (k + 1) fun i o' ho => ?_⟩
    have := hh (i + 1) o' (by simpa using ho)
    rw [show k + 1 + i = k + (i + 1) by omega]
    exact this
theorem args_ok {σ : Nat → Nat} {f : List (Option (TOb T.den))} {m nx : Nat} (hσ : ∀ j, j < m → σ j < nx) (l : List Sh0) (r : List Ty) (x : HL T.den (hsT l r)) (h : okTB m l = true) : ∀ z ∈ (tkT σ f l r x).1.map (er T), ok nx z := by
  intro z hz
  rw [tkT_er] at hz
  obtain ⟨u, _, rfl⟩ := List.mem_map.1 hz
  exact ok_of0 (okT_mem (tkT_ok hσ l r x h) _ hz) er0_ntup
theorem sgs_lt {ids : List Nat} {n nx : Nat} (h : allLt nx ids = true) (hl : ids.length = n) : ∀ j, j < n → sgs ids j < nx := by
  intro j hj
  have hj : j < ids.length := by omega
  have e : sgs ids j = ids[j] := by simp [sgs, hj]
  rw [e]
  exact allLt_spec h _ (List.getElem_mem hj)
theorem mat_snd (hT : T.Ok) {n0 : Nat} {m : Tm} {s : TSt T.den} {J : HL T.den m.hs → Prop} (h : m.mat T n0 s J) : ∃ i, J i ∧ St.le n0 (erS T s) (erS T (m.fill T i)) := by
  unfold Tm.mat at h
  obtain ⟨h1, h2⟩ := cnd h
  simp only [Bool.and_eq_true, Tm.okB] at h1
  obtain ⟨⟨a1, a2⟩, ⟨⟨⟨⟨⟨⟨b1, b2⟩, b3⟩, b4⟩, b5⟩, b6⟩, b7⟩⟩ := h1
  split at h2
  · rename_i b hb
    obtain ⟨y, g1, g2, g3⟩ := mtBC_snd hT b7 hb h2
    obtain ⟨x, k1, k2, _, k4⟩ := mtT_snd m.ss _ _ y _ b6 g1
    have hf : m.f T x = tkB m.os b := by unfold Tm.f; rw [k2, g2]
    have hlt := sgs_lt b3 (nb_eq b4)
    refine ⟨x, k1, ⟨ble_le a1, ble_le a2⟩, ?_, ?_⟩
    · show slLe _ m.nx ((zipS T m.ts (tkT (sgs m.ids) (m.f T x) m.ss _ x).1).map _)
      rw [hf]
      exact slLe_mk _ _ k4 (args_ok hlt m.ss _ x b1)
    · show hpLe (erH T s.h) m.nx (erH T (hpN (sgs m.ids) 0 (tkC (sgs m.ids) (m.f T x) 0 m.os _ (drT m.ss _ x)).1))
      rw [hf, k2]
      refine hpLe_mk _ 0 fun i o ho => ?_
      rw [Nat.zero_add]
      refine ⟨hlt i ?_, g3 i o ho, tkC_ok (flat_tkB _ _) hlt 0 m.os _ y b2 i o ho⟩
      have := (List.getElem?_eq_some_iff.1 ho).1
      rw [tkC_len] at this
      exact this
  · exact h2.elim
section
variable {Tk : Tk} {G0 : Gh} {w0 : World} {a : Act} {G : Gh} {w : World}
theorem rowsTo_snd {id n z : Nat} {v : TV T.den} {h : THp T.den} {nx : Nat} (hv : ∀ u, RepV G w (erH T h) nx u (.row id 0 n z) → RepV G w (erH T h) nx u (er T v)) : ∀ (ts : List Nat) (sl : List (Nat × TV T.den)) (K : List (Nat × TV T.den) → Prop), rowsTo T id v n z ts sl K → R Tk G0 w0 N (erS T ⟨sl, h, nx⟩) a G w → ∃ sl', K sl' ∧ R Tk G0 w0 N (erS T ⟨sl', h, nx⟩) a G w
  | [], sl, K, hk, hR => ⟨sl, hk, hR⟩
  | t :: ts, sl, K, hk, hR => by
    simp only [rowsTo] at hk
    split at hk
    · rename_i i e' m hg
      obtain ⟨h1, h2, h3⟩ := cnd hk
      simp only [Bool.and_eq_true] at h1
      refine rowsTo_snd hv ts _ K h3 ?_
      have hs := hR.sl t
      rw [show getS (erS T ⟨sl, h, nx⟩).sl t = er T (getT sl t) from getS_er sl t, hg] at hs
      have hs : RepV G w (erH T h) nx (a.tmps.getD t undef) (.row i 0 m (T.sz e')) := hs
      rw [nb_eq h1.1, h2, nb_eq h1.2] at hs
      exact hR.reslot t (hv _ hs)
    · exact hk.elim
theorem growE_snd {e : Ty} {v : TV T.den} {l : List (e.den T.den)} (h : growE T e v = some l) : growsFrom (T.sz e) (l.map (T.e e)) (er1 T v) ∧ v.sim = true := by
  unfold growE at h
  split at h
  · obtain ⟨c1, c2, _⟩ := castL_er h
    exact ⟨⟨c1, c2⟩, rfl⟩
  · rename_i u
    cases hn : isNilK u with
    | false => rw [hn] at h; cases h
    | true =>
      rw [hn] at h
      injection h with h
      subst h
      rw [isNilK_eq hn]
      exact ⟨rfl, rfl⟩
  · cases h
theorem gh1_snd (hT : T.Ok) {s : TSt T.den} {K : TSt T.den → Prop} : ∀ (g : Gs), gh1 T s K g → R Tk G0 w0 N (erS T s) a G w → ∃ s' G', K s' ∧ R Tk G0 w0 N (erS T s') a G' w
  | .frz id ts, h, hR => by
    simp only [gh1] at h
    split at h
    · rename_i e l hg
      have hgl : (erS T s).h.get id = some (.cells (((l.map (T.e e)).flatMap D.cells).map V.d)) := by show (erH T s.h).get id = _; rw [getH_er, hg]; rfl
      obtain ⟨G', h1, _, h2⟩ := hR.freeze hgl (map_sz hT l) (by rw [List.length_map] : (l.map (T.e e)).length = l.length)
      obtain ⟨sl', k1, k2⟩ := rowsTo_snd (T := T) (h := (s.nx, .tip e l) :: (id, .dead) :: s.h) (nx := s.nx + 1) (v := .own s.nx e l) (z := T.sz e) (n := l.length) (id := id) (G := G') (w := w) (fun u hu => h2 u hu) ts s.sl _ h h1
      exact ⟨_, G', k1, k2⟩
    · exact h.elim
  | .frzc id i j, h, hR => by
    simp only [gh1] at h
    split at h
    · rename_i e l cs hg hi
      split at h
      · rename_i id' e' m hj
        obtain ⟨h1, h2, h3⟩ := cnd h
        simp only [Bool.and_eq_true, Bool.not_eq_true'] at h1
        have q1 := nb_eq h1.1.1
        have q2 := Ty.eq_of_beq h1.1.2
        have q3 : i ≠ id := fun e => by rw [e, nb_self] at h1; cases h1.2
        subst q1
        subst q2
        subst h2
        have hgl : (erS T s).h.get id' = some (.cells (((l.map (T.e e')).flatMap D.cells).map V.d)) := by show (erH T s.h).get id' = _; rw [getH_er, hg]; rfl
        have hil : (erS T s).h.get i = some (.cells (cs.map (er1 T))) := by show (erH T s.h).get i = _; rw [getH_er, hi]; rfl
        obtain ⟨G', f1, _, f2⟩ := hR.freeze hgl (map_sz hT l) (by rw [List.length_map] : (l.map (T.e e')).length = l.length)
        have hin : i < s.nx := hR.wr.hid _ _ hil
        have hg' : Hp.get ((s.nx, Ob.tip l.length) :: (id', .dead) :: erH T s.h) i = some (.cells (cs.map (er1 T))) := by simp only [Hp.get]; rw [if_neg (by omega), if_neg q3]; exact hil
        have hx : (cs.map (er1 T))[j]? = some (.row id' 0 l.length (T.sz e')) := by rw [List.getElem?_map, hj]; rfl
        have := f1.recell (s := ⟨(erS T s).sl, (s.nx, .tip l.length) :: (id', .dead) :: erH T s.h, s.nx + 1⟩) (y := .own s.nx (T.sz e') (l.map (T.e e'))) hg' hx rfl (fun v => f2 v)
        refine ⟨_, G', h3, ?_⟩
        have e : erS T ⟨s.sl, (i, .cells (cs.set j (.own s.nx e' l))) :: (s.nx, .tip e' l) :: (id', .dead) :: s.h, s.nx + 1⟩ = ⟨(erS T s).sl, (i, .cells ((cs.map (er1 T)).set j (.own s.nx (T.sz e') (l.map (T.e e'))))) :: (s.nx, .tip l.length) :: (id', .dead) :: erH T s.h, s.nx + 1⟩ := by
          show St.mk _ ((i, Ob.cells ((cs.set j (.own s.nx e' l)).map (er1 T))) :: _) _ = _
          rw [List.map_set]; rfl
        rw [e]; exact this
      · exact h.elim
    · exact h.elim
  | .tok t e, h, hR => by
    simp only [gh1] at h
    split at h
    · rename_i l hl
      obtain ⟨g1, g2⟩ := growE_snd hl
      obtain ⟨G', h1, h2⟩ := hR.tok (T.sz e) (l.map (T.e e))
      rw [List.length_map] at h1 h2
      have hs := h1.sl t
      have hs : RepV G' w ((s.nx, .tip l.length) :: erH T s.h) (s.nx + 1) (a.tmps.getD t undef) (getS (erS T s).sl t) := hs
      rw [show getS (erS T s).sl t = er T (getT s.sl t) from getS_er s.sl t, er_sim g2] at hs
      exact ⟨_, G', h, h1.reslot t (h2 _ _ g1 hs)⟩
    · exact h.elim
  | .tokc id j e, h, hR => by
    simp only [gh1] at h
    split at h
    · rename_i cs hi
      split at h
      · rename_i v hj
        split at h
        · rename_i l hl
          obtain ⟨g1, g2⟩ := growE_snd hl
          have hil : (erS T s).h.get id = some (.cells (cs.map (er1 T))) := by show (erH T s.h).get id = _; rw [getH_er, hi]; rfl
          obtain ⟨G', h1, h2⟩ := hR.tok (T.sz e) (l.map (T.e e))
          rw [List.length_map] at h1 h2
          have hin : id < s.nx := hR.wr.hid _ _ hil
          have hg' : Hp.get ((s.nx, Ob.tip l.length) :: erH T s.h) id = some (.cells (cs.map (er1 T))) := by simp only [Hp.get]; rw [if_neg (by omega)]; exact hil
          have hx : (cs.map (er1 T))[j]? = some (er1 T v) := by rw [List.getElem?_map, hj]; rfl
          have := h1.recell (s := ⟨(erS T s).sl, (s.nx, .tip l.length) :: erH T s.h, s.nx + 1⟩) (y := .own s.nx (T.sz e) (l.map (T.e e))) hg' hx rfl (fun u => h2 _ u g1)
          refine ⟨_, G', h, ?_⟩
          have e : erS T ⟨s.sl, (id, .cells (cs.set j (.own s.nx e l))) :: (s.nx, .tip e l) :: s.h, s.nx + 1⟩ = ⟨(erS T s).sl, (id, .cells ((cs.map (er1 T)).set j (.own s.nx (T.sz e) (l.map (T.e e))))) :: (s.nx, .tip l.length) :: erH T s.h, s.nx + 1⟩ := by
            show St.mk _ ((id, Ob.cells ((cs.set j (.own s.nx e l)).map (er1 T))) :: _) _ = _
            rw [List.map_set]; rfl
          rw [e]; exact this
        · exact h.elim
      · exact h.elim
    · exact h.elim
end
theorem ghs_snd (hT : T.Ok) {Tk : Tk} {G0 : Gh} {w0 : World} {a : Act} {w : World} : ∀ (gs : List Gs) (s : TSt T.den) (K : TSt T.den → Prop) (G : Gh), ghs T gs s K → R Tk G0 w0 N (erS T s) a G w → ∃ s' G', K s' ∧ R Tk G0 w0 N (erS T s') a G' w
  | [], s, K, G, h, hR => ⟨s, G, h, hR⟩
  | g :: gs, s, K, G, h, hR => by
    obtain ⟨s1, G1, h1, h2⟩ := gh1_snd hT g h hR
    exact ghs_snd hT gs s1 K G1 h1 h2
theorem sat_ghs (hT : T.Ok) {Tk : Tk} {G0 : Gh} {w0 : World} {gs : List Gs} {s : TSt T.den} {K : TSt T.den → Prop} {c : Code} {Q : Exit → St → Prop} (h : ghs T gs s K) (hk : ∀ s', K s' → Sat P Tk G0 w0 N c (erS T s') Q) : Sat P Tk G0 w0 N c (erS T s) Q := by
  intro G a w hR
  obtain ⟨s', G', h1, h2⟩ := ghs_snd hT gs s K G h hR
  exact hk s' h1 G' a w h2
def QE (Q : Exit → TSt T.den → Prop) (e : Exit) (s : St) : Prop := KE (Q e) s
theorem KE.lk {K : TSt T.den → Prop} {s : TSt T.den} (h : K s) : KE K (erS T s) := ⟨s, h, Wk.refl _⟩
theorem WP_sound (hT : T.Ok) (hC : C.Ok P T) (hm : P.follows .mixedOrders = true) {Tk : Tk} {G0 : Gh} {w0 : World} : ∀ (c : Code) (an : An T) (s : TSt T.den) (Q : Exit → TSt T.den → Prop), WP T C N Tk.nx c an s Q → Obl T C N Tk.nx c an Q → Sat P Tk G0 w0 N c (erS T s) (QE Q) := by
  intro c
  induction c with
  | skip => intro an s Q h _; exact sat_skip (KE.lk (by simpa [WP] using h))
  | region id ops dr =>
    intro an s Q h _
    obtain ⟨l⟩ := ops
    have h : regW T C N ⟨l⟩ dr s (Q .normal) := by simpa [WP] using h
    cases dr with
    | false =>
      intro G a w hR
      exact wp_region_lit (tops_sound hT hC l (Q .normal) s a G w hR h fun s' a' G' w' hk hR' => ⟨erS T s', G', KE.lk hk, hR'⟩)
    | true =>
      unfold regW at h
      obtain ⟨h1, h2⟩ := cnd h
      refine sat_drawn C.S hm h1 fun K hK => ?_
      exact dops_eqv (K := KE (Q .normal)) (fun a b he ⟨t, q1, q2⟩ => hK a ⟨t, q1, he.wk.trans q2⟩) l _ _ _ _ _ (Eqv.refl _) (tDs_sound hT hC l _ _ _ _ h2)
  | seq x y ihx ihy =>
    intro an s Q h ho
    have plain : ∀ (ga gb : List Gs) (a b : An T), (ghs T ga s fun s => WP T C N Tk.nx x a s (thenT T (fun s' => ghs T gb s' fun s' => WP T C N Tk.nx y b s' Q) Q)) → Obl T C N Tk.nx x a (thenT T (fun s' => ghs T gb s' fun s' => WP T C N Tk.nx y b s' Q) Q) → Obl T C N Tk.nx y b Q → Sat P Tk G0 w0 N (.seq x y) (erS T s) (QE Q) := by
      intro ga gb a b h1 h2 h3
      refine sat_ghs hT h1 fun s' hs' => sat_seq (sat_mono (ihx a s' _ hs' h2) fun e s1 hq => ?_)
      obtain ⟨t, q1, q2⟩ := hq
      cases e with
      | normal => exact sat_lk q2.lk (sat_ghs hT q1 fun s2 hs2 => ihy b s2 Q hs2 h3)
      | _ => exact ⟨t, q1, q2⟩
    cases an with
    | jn tm J ga a gb b =>
      have h : ghs T ga s fun s => WP T C N Tk.nx x a s (thenT T (fun s' => tm.mat T Tk.nx s' J) Q) := by simpa only [WP] using h
      simp only [Obl] at ho
      obtain ⟨o1, o2, o3⟩ := ho
      refine sat_ghs hT h fun s' hs' => sat_seq (sat_mono (ihx a s' _ hs' o1) fun e s1 hq => ?_)
      obtain ⟨t, q1, q2⟩ := hq
      cases e with
      | normal =>
        obtain ⟨i, k1, k2⟩ := mat_snd hT q1
        refine sat_lk (q2.lk.trans k2.lk) ?_
        rw [o2 i] at k1
        exact sat_ghs hT k1 fun s2 hs2 => ihy b s2 Q hs2 o3
      | _ => exact ⟨t, q1, q2⟩
    | no => simp only [WP] at h; simp only [Obl] at ho; exact plain _ _ _ _ h ho.1 ho.2
    | nd ga a gb b => simp only [WP] at h; simp only [Obl] at ho; exact plain _ _ _ _ h ho.1 ho.2
    | lp g tm L a => simp only [WP] at h; simp only [Obl] at ho; exact plain _ _ _ _ h ho.1 ho.2
    | rt g => simp only [WP] at h; simp only [Obl] at ho; exact plain _ _ _ _ h ho.1 ho.2
  | cond c x y ihx ihy =>
    intro an s Q h ho
    simp only [WP] at h
    simp only [Obl] at ho
    split at h
    · rename_i hv
      exact sat_condT (by rw [ev_er, hv]; rfl) (sat_ghs hT h fun s' hs' => ihx _ s' Q hs' ho.1)
    · rename_i hv
      exact sat_condF (by rw [ev_er, hv]; rfl) (sat_ghs hT h fun s' hs' => ihy _ s' Q hs' ho.2)
    · rename_i t hv
      exact sat_cond (t := t) (by rw [ev_er, hv]; rfl) (fun ht => sat_ghs hT (h.1 ht) fun s' hs' => ihx _ s' Q hs' ho.1) (fun ht => sat_ghs hT (h.2 ht) fun s' hs' => ihy _ s' Q hs' ho.2)
    · exact h.elim
  | block id x ih =>
    intro an s Q h ho
    simp only [WP] at h
    simp only [Obl] at ho
    refine sat_block (sat_mono (ih an s _ h ho) fun e s1 hq => ?_)
    obtain ⟨t, q1, q2⟩ := hq
    cases e with
    | exit id' =>
      simp only [blockT] at q1
      simp only [blockA]
      by_cases hi : id' = id
      · rw [if_pos hi]
        rw [hi, nb_self] at q1
        exact ⟨t, q1, q2⟩
      · rw [if_neg hi]
        rw [nb_ne hi] at q1
        exact ⟨t, q1, q2⟩
    | _ => exact ⟨t, q1, q2⟩
  | loop x ih =>
    intro an s Q h ho
    cases an with
    | lp g tm L a =>
      simp only [WP] at h
      simp only [Obl] at ho
      obtain ⟨o1, o2⟩ := ho
      refine sat_ghs hT h fun s' hs' => ?_
      obtain ⟨i, ⟨⟨inv, μ, k0, k1⟩⟩, k2⟩ := mat_snd hT hs'
      refine sat_loopk (fun i => erS T (tm.fill T i)) inv μ i k0 k2.lk fun i hi => ?_
      have hr := k1 i hi
      rw [o1] at hr
      refine sat_mono (ih _ _ _ hr (o2 _)) fun e s1 hq => ?_
      obtain ⟨t, q1, q2⟩ := hq
      cases e with
      | normal =>
        obtain ⟨i', ⟨m1, m2⟩, m3⟩ := mat_snd hT q1
        exact ⟨i', m1, m2, q2.lk.trans m3.lk⟩
      | _ => exact ⟨t, q1, q2⟩
    | _ => simp only [WP] at h
  | exit id => intro an s Q h _; simp only [WP] at h; exact sat_exit (KE.lk h)
  | ret =>
    intro an s Q h _
    simp only [WP] at h
    exact sat_ghs hT h fun s' hs' => sat_ret (KE.lk hs')
  | label l => intro an s Q h _; simp only [WP] at h; exact sat_label (KE.lk h)
  | _ => intro an s Q h _; simp only [WP] at h
theorem eqH_eq : ∀ {ts : List Ty} {x y : HL T.den ts}, eqH ts x y → x = y
  | [], _, _, _ => rfl
  | [_], x, y, h => by
    obtain ⟨a, b⟩ := x
    obtain ⟨c, d⟩ := y
    have h : a = c := h
    subst h; rfl
  | _ :: t :: r, x, y, h => by
    obtain ⟨a, b⟩ := x
    obtain ⟨c, d⟩ := y
    obtain ⟨h1, h2⟩ := h
    have g1 : a = c := h1
    have g2 : b = d := eqH_eq (ts := t :: r) h2
    rw [g1, g2]
theorem resT_snd (hT : T.Ok) (hI : InfoOk P T C.ti) {s : TSt T.den} : ∀ (rs : List ResultVar) (K : List (TV T.den) → Prop), resT T C.ti s rs K → ∃ l, K l ∧ allOk P (erS T s) rs ∧ rs.map (resV P (erS T s)) = l.map (er T)
  | [], K, h => ⟨[], h, trivial, rfl⟩
  | .tmp t :: r, K, h => by
    obtain ⟨l, h1, h2, h3⟩ := resT_snd hT hI r _ h
    refine ⟨_, h1, ⟨trivial, h2⟩, ?_⟩
    simp only [List.map_cons, h3]
    congr 1
    exact getS_er s.sl t
  | .cell t ty :: r, K, h => by
    obtain ⟨u, h0, h4, h5⟩ := tLoad_snd hT (hI.of ty) h
    obtain ⟨l, h1, h2, h3⟩ := resT_snd hT hI r _ h0
    have e : getS (erS T s).sl t = er T (getT s.sl t) := getS_er s.sl t
    refine ⟨_, h1, ⟨by show loadOk _ _ (getS (erS T s).sl t); rw [e]; exact h4, h2⟩, ?_⟩
    simp only [List.map_cons, h3]
    congr 1
    show loadV _ _ (getS (erS T s).sl t) = _
    rw [e]; exact h5
theorem noTup_er : ∀ {l : List (TV T.den)}, noTupB T l = true → l.map (er T) = l.map (er0 T)
  | [], _ => rfl
  | v :: r, h => by
    cases v <;> first | (cases h; done) | (simp only [List.map_cons]; rw [noTup_er (l := r) h]; rfl)
theorem ret_er {l : List (TV T.den)} (h : noTupB T l = true) : retV (l.map (er T)) = er T (retTV T l) := by
  match l, h with
  | [], _ => rfl
  | [x], _ => rfl
  | x :: y :: r, h =>
    exact congrArg V.tup (noTup_er h)
theorem postOk_mk {h : Hp} {σ : Nat → Nat} {m nx : Nat} : ∀ {ks : List Nat} {os : List Ob}, ks.length = os.length → (∀ (i k : Nat) (o : Ob), ks[i]? = some k → os[i]? = some o → k < nx ∧ obLe (h.get k) (renO σ o) ∧ okO m o) → postOk h σ m nx ks os
  | [], [], _, _ => trivial
  | [], _ :: _, h, _ => by cases h
  | _ :: _, [], h, _ => by cases h
  | k :: ks, o :: os, h, hh => ⟨hh 0 k o rfl rfl, postOk_mk (by simpa using h) fun i k' o' h1 h2 => hh (i + 1) k' o' (by simpa using h1) (by simpa using h2)⟩
theorem selfB_spec : ∀ {n k : Nat} {l : List Nat}, selfB n k l = true → selfP k n l
  | 0, _, l, _ => by cases l <;> trivial
  | n + 1, k, [], h => by cases h
  | n + 1, k, i :: r, h => by
    simp only [selfB, Bool.and_eq_true] at h
    exact ⟨nb_eq h.1, selfB_spec h.2⟩
theorem retT_snd (hT : T.Ok) (hC : C.Ok P T) {c : Con T.den} {rs : List ResultVar} {o : HL T.den (hsV c.res (hsOs c.post))} {s : TSt T.den} (h : retT T C c rs o s) : RetA P rs (er T (c.val idf o)) c.pre.length ((c.ops idf o).map (erO T)) (erS T s) := by
  unfold retT at h
  obtain ⟨l, h1, h2, h3⟩ := resT_snd hT hC.ti rs _ h
  split at h1
  · exact h1.elim
  · rename_i ids hids
    split at h1
    · exact h1.elim
    · rename_i b hb
      obtain ⟨a1, a2⟩ := cnd h1
      simp only [Bool.and_eq_true, Con.okB] at a1
      obtain ⟨⟨⟨⟨⟨hok, hnd⟩, hlt⟩, hlen⟩, hself⟩, hnt⟩ := a1
      obtain ⟨⟨⟨⟨⟨⟨⟨⟨⟨o1, o2⟩, o3⟩, o4⟩, o5⟩, o6⟩, o7⟩, o8⟩, o9⟩, o10⟩ := hok
      have hlen := nb_eq hlen
      obtain ⟨y, g1, g2, g3⟩ := mtBC_snd hT o10 hb a2
      obtain ⟨x, k1, k2, k3⟩ := mtV_snd c.res _ _ y _ o9 g1
      have hx := eqH_eq k1
      subst hx
      have hfo : c.fo x = tkB c.post b := by unfold Con.fo; rw [k2, g2]
      have hops : c.ops idf x = (tkC idf (tkB c.post b) 0 c.post _ y).1 := by unfold Con.ops; rw [hfo, k2]
      have hql : ((c.ops idf x).map (erO T)).length = c.post.length := by rw [List.length_map, hops, tkC_len]
      have hval : c.val idf x = (tkV idf (tkB c.post b) c.res _ x).1 := by unfold Con.val; rw [hfo]
      refine retN ids ⟨h2, ?_, ?_, ?_, ?_, nodupB_spec hnd, by rw [hql]; exact ble_le o5, selfB_spec hself⟩
      · rw [h3, ret_er hnt, hval, ← tkV_ren]; exact k3
      · rw [hql, hval]; exact tkV_ok (fun j hj => hj) c.res _ x o3
      · rw [hval]; exact tkV_noTup _ _ _
      · refine postOk_mk (by rw [hql]; exact hlen) fun i k ob hk ho => ?_
        have hkm : k < s.nx := allLt_spec hlt k (List.mem_of_getElem? hk)
        rw [hql]
        rw [List.getElem?_map, Option.map_eq_some_iff] at ho
        obtain ⟨ot, ho, rfl⟩ := ho
        rw [hops] at ho
        refine ⟨hkm, ?_, tkC_ok (flat_tkB _ _) (fun j hj => hj) 0 c.post _ y o4 i ot ho⟩
        have hr := tkC_ren (rh ids) (tkB c.post b) (flat_tkB _ _) 0 c.post _ y
        have hi : i < (tkC idf (tkB c.post b) 0 c.post (hsB c.post) y).1.length := (List.getElem?_eq_some_iff.1 ho).1
        have hi2 : i < (tkC (rh ids) (tkB c.post b) 0 c.post (hsB c.post) y).1.length := by rw [tkC_len] at hi ⊢; exact hi
        have e := congrArg (fun l => l[i]?) hr
        simp only [List.getElem?_map, ho, Option.map_some, List.getElem?_eq_getElem hi2, Option.some.injEq] at e
        have := g3 i _ (List.getElem?_eq_getElem hi2)
        have hrk : rh ids i = k := by simp [rh, hk]
        rw [e, hrk] at this
        exact this
theorem initT_er : ∀ (k : Nat) (l : List (TV T.den)), (initT T k l).map (fun p => (p.1, er T p.2)) = initSl k (l.map (er T))
  | _, [] => rfl
  | k, x :: r => by
    show (k, er T x) :: (initT T (k + 1) r).map (fun p => (p.1, er T p.2)) = (k, er T x) :: initSl (k + 1) (r.map (er T))
    rw [initT_er (k + 1) r]
theorem hpN_idf : ∀ (k : Nat) (l : List (TOb T.den)), erH T (hpN idf k l) = hpOf k (l.map (erO T))
  | _, [] => rfl
  | k, x :: r => by
    show (k, erO T x) :: erH T (hpN idf (k + 1) r) = (k, erO T x) :: hpOf (k + 1) (r.map (erO T))
    rw [hpN_idf (k + 1) r]
theorem Con.sound (hT : T.Ok) (hC : C.Ok P T) (hm : P.follows .mixedOrders = true) {c : Con T.den} {fn : Func} {code : Code} {rs : List ResultVar} (hf : P.funcs[c.f]? = some fn) (hb : fn.body = some code) (hN : fn.ntmps = N) (hrs : fn.results.toList = rs) (hl : Nat.ble c.ins.length N = true)
    {x : HL T.den (hsT c.ins (hsOs c.pre))} {o : HL T.den (hsV c.res (hsOs c.post))} {an : An T} (hW : WP T C N c.pre.length code an (c.st T x) (retTQ T C c rs o)) (hO : Obl T C N c.pre.length code an (retTQ T C c rs o)) :
    SoundH P c.f ((c.args idf x).map (er T)) ((c.obs idf x).map (erO T)) (er T (c.val idf o)) ((c.ops idf o).map (erO T)) := by
  have hpl : ((c.obs idf x).map (erO T)).length = c.pre.length := by rw [List.length_map]; unfold Con.obs; rw [tkC_len]
  have hal : ((c.args idf x).map (er T)).length = c.ins.length := by rw [List.length_map]; unfold Con.args; rw [tkT_len]
  refine sound_of hf hb hN (by rw [hal]; exact ble_le hl) fun G0 w0 => ?_
  have e : erS T (c.st T x) = ⟨initSl 0 ((c.args idf x).map (er T)), hpOf 0 ((c.obs idf x).map (erO T)), ((c.obs idf x).map (erO T)).length⟩ := by
    rw [hpl]
    show St.mk _ _ _ = _
    unfold Con.st
    rw [initT_er, hpN_idf]
  rw [← e, hrs]
  have hnx : (tkOf G0 ((c.obs idf x).map (erO T))).nx = c.pre.length := hpl
  rw [← hnx] at hW hO
  refine sat_post (WP_sound hT hC hm code an _ _ hW hO) fun ex s1 hq => ?_
  obtain ⟨t, q1, q2⟩ := hq
  refine ⟨erS T t, ?_, q2.lk⟩
  cases ex with
  | normal => have := retT_snd hT hC (s := t) q1; rw [← hpl] at this; exact this
  | ret => have := retT_snd hT hC (s := t) q1; rw [← hpl] at this; exact this
  | _ => exact q1
end
end Go.Cv
namespace Go.Cv
open Go Go.Bv Go.RowKit Go.Md
structure WPh (T : Tab) (C : Cx T) (N n0 : Nat) (c : Code) (an : An T) (s : TSt T.den) (Q : Exit → TSt T.den → Prop) : Prop where
  h : WP T C N n0 c an s Q
structure OblH (T : Tab) (C : Cx T) (N n0 : Nat) (c : Code) (an : An T) (Q : Exit → TSt T.den → Prop) : Prop where
  h : Obl T C N n0 c an Q
theorem mpr_of {A B : Prop} (e : A = B) (h : B) : A := e.mpr h
theorem WPh.of_eq {T : Tab} {C : Cx T} {N n0 : Nat} {c : Code} {an : An T} {s : TSt T.den} {Q : Exit → TSt T.den → Prop} {X : Prop} (e : WP T C N n0 c an s Q = X) (h : X) : WPh T C N n0 c an s Q := ⟨e.mpr h⟩
theorem OblH.of_eq {T : Tab} {C : Cx T} {N n0 : Nat} {c : Code} {an : An T} {Q : Exit → TSt T.den → Prop} {X : Prop} (e : Obl T C N n0 c an Q = X) (h : X) : OblH T C N n0 c an Q := ⟨e.mpr h⟩
theorem Con.soundH {P : Program} {T : Tab} {C : Cx T} {N : Nat} (hT : T.Ok) (hC : C.Ok P T) (hm : P.follows .mixedOrders = true) {c : Con T.den} {fn : Func} {code : Code} {rs : List ResultVar} (hf : P.funcs[c.f]? = some fn) (hb : fn.body = some code) (hN : fn.ntmps = N) (hrs : fn.results.toList = rs) (hl : Nat.ble c.ins.length N = true)
    {x : HL T.den (hsT c.ins (hsOs c.pre))} {o : HL T.den (hsV c.res (hsOs c.post))} {an : An T} (hW : WPh T C N c.pre.length code an (c.st T x) (retTQ T C c rs o)) (hO : OblH T C N c.pre.length code an (retTQ T C c rs o)) :
    SoundH P c.f ((c.args idf x).map (er T)) ((c.obs idf x).map (erO T)) (er T (c.val idf o)) ((c.ops idf o).map (erO T)) := Con.sound hT hC hm hf hb hN hrs hl hW.h hO.h
def cA : Code → Code
  | .seq x _ => x
  | .cond _ x _ => x
  | .block _ x => x
  | .loop x => x
  | _ => .skip
def cB : Code → Code
  | .seq _ y => y
  | .cond _ _ y => y
  | _ => .skip
section
variable {S : Nat → Type}
def Con.mk0 (f : Nat) (ins : List Sh0) (pre : List OSh) (res : Sh) (post : List OSh) : Con S := ⟨f, ins, pre, res, post, fun _ _ => False⟩
def Con.fnR (c : Con S) (ok : HL S (hsT c.ins (hsOs c.pre)) → Prop) (v : HL S (hsT c.ins (hsOs c.pre)) → HL S (hsV c.res (hsOs c.post))) : Con S := ⟨c.f, c.ins, c.pre, c.res, c.post, fun x K => ok x ∧ K (v x)⟩
def Con.totR (c : Con S) (v : HL S (hsT c.ins (hsOs c.pre)) → HL S (hsV c.res (hsOs c.post))) : Con S := ⟨c.f, c.ins, c.pre, c.res, c.post, fun x K => K (v x)⟩
end
def flAll (F : Nat → Option (Nat × Bool × Nat)) : Nat → List (Nat × Bool × Nat) → Prop
  | _, [] => True
  | k, q :: r => F k = some q ∧ flAll F (k + 1) r
theorem flAll_get {F : Nat → Option (Nat × Bool × Nat)} : ∀ {l : List (Nat × Bool × Nat)} {k : Nat}, flAll F k l → ∀ i q, l[i]? = some q → F (k + i) = some q
  | [], _, _, i, q, h => by simp at h
  | p :: r, k, ha, i, q, h => by
    cases i with
    | zero => simp at h; subst h; exact ha.1
    | succ i => rw [show k + (i + 1) = k + 1 + i by omega]; exact flAll_get ha.2 i q (by simpa using h)
theorem flAll_ok {P : Program} {t : TypeId} {l : List (Nat × Bool × Nat)} (h : flAll (fldOf P t) 0 l) (f : Nat) (q : Nat × Bool × Nat) (hq : l[f]? = some q) : fldOf P t f = some q := by
  have := flAll_get h f q hq
  simpa using this
section
variable {T : Tab} {P : Program}
theorem Con.ok_fn (c : Con T.den) {ok : HL T.den (hsT c.ins (hsOs c.pre)) → Prop} {v : HL T.den (hsT c.ins (hsOs c.pre)) → HL T.den (hsV c.res (hsOs c.post))} (cl : Callable P c.f)
    (h : ∀ x, ok x → SoundH P c.f ((c.args idf x).map (er T)) ((c.obs idf x).map (erO T)) (er T (c.val idf (v x))) ((c.ops idf (v x)).map (erO T))) : (c.fnR ok v).Ok P T :=
  ⟨cl, fun x _ hx => ⟨v x, hx.2, h x hx.1⟩⟩
theorem Con.ok_tot (c : Con T.den) {v : HL T.den (hsT c.ins (hsOs c.pre)) → HL T.den (hsV c.res (hsOs c.post))} (cl : Callable P c.f)
    (h : ∀ x, SoundH P c.f ((c.args idf x).map (er T)) ((c.obs idf x).map (erO T)) (er T (c.val idf (v x))) ((c.ops idf (v x)).map (erO T))) : (c.totR v).Ok P T :=
  ⟨cl, fun x _ hx => ⟨v x, hx, h x⟩⟩
theorem all_nil {α : Type} {p : α → Prop} : ∀ c ∈ ([] : List α), p c := fun _ h => by cases h
theorem all_cons {α : Type} {p : α → Prop} {a : α} {l : List α} (h : p a) (h' : ∀ c ∈ l, p c) : ∀ c ∈ a :: l, p c := fun c hc => by
  rcases List.mem_cons.1 hc with rfl | hc
  · exact h
  · exact h' c hc
theorem find_nil {P : Program} {T : Tab} : InfoOk P T .lf := fun _ _ h => by cases h
theorem find_nd {P : Program} {T : Tab} {l r : BT (TI T.den)} {k : Nat} {v : TI T.den} (hv : TI.Ok P T k v) (hl : InfoOk P T l) (hr : InfoOk P T r) : InfoOk P T (.nd l k v r) := fun t x h => by
  unfold BT.find at h
  cases h1 : Nat.beq t k with
  | true => rw [h1] at h; have := nb_eq h1; subst this; injection h with h; subst h; exact hv
  | false =>
    rw [h1] at h
    cases h2 : Nat.ble t k with
    | true => rw [h2] at h; exact hl t x h
    | false => rw [h2] at h; exact hr t x h
end
end Go.Cv
namespace Go.Cv
theorem lpk0 {C : Prop} (h : C) (I M : Prop) : ((C ∧ I) ∧ M) = (I ∧ M) := propext ⟨fun x => ⟨x.1.2, x.2⟩, fun x => ⟨⟨h, x.1⟩, x.2⟩⟩
theorem lpk1 {C : Prop} {A0 : Type} (h : C) (I M : A0 → Prop) : (fun a0 => (C ∧ I a0) ∧ M a0) = fun a0 => I a0 ∧ M a0 := funext fun a0 => lpk0 h _ _
theorem lpk2 {C : Prop} {A0 A1 : Type} (h : C) (I M : A0 → A1 → Prop) : (fun a0 a1 => (C ∧ I a0 a1) ∧ M a0 a1) = fun a0 a1 => I a0 a1 ∧ M a0 a1 := funext fun a0 => funext fun a1 => lpk0 h _ _
theorem lpk3 {C : Prop} {A0 A1 A2 : Type} (h : C) (I M : A0 → A1 → A2 → Prop) : (fun a0 a1 a2 => (C ∧ I a0 a1 a2) ∧ M a0 a1 a2) = fun a0 a1 a2 => I a0 a1 a2 ∧ M a0 a1 a2 := funext fun a0 => funext fun a1 => funext fun a2 => lpk0 h _ _
theorem lpk4 {C : Prop} {A0 A1 A2 A3 : Type} (h : C) (I M : A0 → A1 → A2 → A3 → Prop) : (fun a0 a1 a2 a3 => (C ∧ I a0 a1 a2 a3) ∧ M a0 a1 a2 a3) = fun a0 a1 a2 a3 => I a0 a1 a2 a3 ∧ M a0 a1 a2 a3 := funext fun a0 => funext fun a1 => funext fun a2 => funext fun a3 => lpk0 h _ _
end Go.Cv
namespace Go.Proofs.Ytdbnagpoknmoiaa
open Go Go.Bv Go.Cv Go.Md Go.RowKit
structure TOut where
  Commit : Int
  Point_a0 : Int
  Point_a1 : Int
  Cipher : List Int
  deriving Inhabited, DecidableEq
structure TTx where
  Anchor : Int
  Marks : List Int
  Outs : List TOut
  Deposit : Int
  Withdraw : Int
  Fee : Int
  Account : Int
  Nonce : Int
  Expiry : Int
  Proof : List Int
  deriving Inhabited, DecidableEq
structure TA2 where
  a0 : Int
  a1 : Int
  deriving Inhabited, DecidableEq
structure TField where
  P : Int
  deriving Inhabited, DecidableEq
structure TA3 where
  a0 : Int
  a1 : Int
  a2 : Int
  deriving Inhabited, DecidableEq
structure TShape where
  Inputs : Int
  Outputs : Int
  Deposit : Int
  Withdraw : Int
  Fee : Int
  Account : Int
  Nonce : Int
  Expiry : Int
  deriving Inhabited, DecidableEq
structure TStatement where
  Depth : Int
  Anchor : Int
  Marks : List Int
  Commits : List Int
  Rhos : List Int
  Deposit : Int
  Withdraw : Int
  Fee : Int
  Account : Int
  Bind : Int
  deriving Inhabited, DecidableEq
def denT : Nat → Type
  | 0 => TOut
  | 1 => TTx
  | 2 => TA2
  | 3 => TField
  | 4 => TA3
  | 5 => TShape
  | 6 => TStatement
  | _ => Unit
def tysT : Nat → List Ty
  | 0 => [.int .u64, .int .u64, .int .u64, .sl (.int .u64)]
  | 1 => [.int .u64, .sl (.int .u64), .sl (.st 0), .int .u64, .int .u64, .int .u64, .int .u64, .int .u64, .int .i64, .sl (.int .u8)]
  | 2 => [.int .u64, .int .u64]
  | 3 => [.int .u64]
  | 4 => [.int .u64, .int .u64, .int .u64]
  | 5 => [.int .i64, .int .i64, .int .u64, .int .u64, .int .u64, .int .u64, .int .u64, .int .i64]
  | 6 => [.int .i64, .int .u64, .sl (.int .u64), .sl (.int .u64), .sl (.int .u64), .int .u64, .int .u64, .int .u64, .int .u64, .int .u64]
  | _ => []
theorem TTx_eta (x : TTx) : TTx.mk x.Anchor x.Marks x.Outs x.Deposit x.Withdraw x.Fee x.Account x.Nonce x.Expiry x.Proof = x := rfl
theorem TShape_eta (x : TShape) : TShape.mk x.Inputs x.Outputs x.Deposit x.Withdraw x.Fee x.Account x.Nonce x.Expiry = x := rfl
theorem TStatement_eta (x : TStatement) : TStatement.mk x.Depth x.Anchor x.Marks x.Commits x.Rhos x.Deposit x.Withdraw x.Fee x.Account x.Bind = x := rfl
def encTOut (x : TOut) : D := .agg [.int .u64 x.Commit, .int .u64 x.Point_a0, .int .u64 x.Point_a1, .slice 1 (x.Cipher.map (D.int .u64))]
def encTTx (x : TTx) : D := .agg [.int .u64 x.Anchor, .slice 1 (x.Marks.map (D.int .u64)), .slice 4 (x.Outs.map encTOut), .int .u64 x.Deposit, .int .u64 x.Withdraw, .int .u64 x.Fee, .int .u64 x.Account, .int .u64 x.Nonce, .int .i64 x.Expiry, .slice 1 (x.Proof.map (D.int .u8))]
def encTA2 (x : TA2) : D := .agg [.int .u64 x.a0, .int .u64 x.a1]
def encTField (x : TField) : D := .agg [.int .u64 x.P]
def encTA3 (x : TA3) : D := .agg [.int .u64 x.a0, .int .u64 x.a1, .int .u64 x.a2]
def encTShape (x : TShape) : D := .agg [.int .i64 x.Inputs, .int .i64 x.Outputs, .int .u64 x.Deposit, .int .u64 x.Withdraw, .int .u64 x.Fee, .int .u64 x.Account, .int .u64 x.Nonce, .int .i64 x.Expiry]
def encTStatement (x : TStatement) : D := .agg [.int .i64 x.Depth, .int .u64 x.Anchor, .slice 1 (x.Marks.map (D.int .u64)), .slice 1 (x.Commits.map (D.int .u64)), .slice 1 (x.Rhos.map (D.int .u64)), .int .u64 x.Deposit, .int .u64 x.Withdraw, .int .u64 x.Fee, .int .u64 x.Account, .int .u64 x.Bind]
def TB : Tab where
  den := denT
  tys := tysT
  inh := fun n => match n with
    | 0 => (default : TOut)
    | 1 => (default : TTx)
    | 2 => (default : TA2)
    | 3 => (default : TField)
    | 4 => (default : TA3)
    | 5 => (default : TShape)
    | 6 => (default : TStatement)
    | _ + 7 => ()
  cells := fun n => match n with
    | 0 => fun (x : TOut) => (x.Commit, x.Point_a0, x.Point_a1, x.Cipher, ())
    | 1 => fun (x : TTx) => (x.Anchor, x.Marks, x.Outs, x.Deposit, x.Withdraw, x.Fee, x.Account, x.Nonce, x.Expiry, x.Proof, ())
    | 2 => fun (x : TA2) => (x.a0, x.a1, ())
    | 3 => fun (x : TField) => (x.P, ())
    | 4 => fun (x : TA3) => (x.a0, x.a1, x.a2, ())
    | 5 => fun (x : TShape) => (x.Inputs, x.Outputs, x.Deposit, x.Withdraw, x.Fee, x.Account, x.Nonce, x.Expiry, ())
    | 6 => fun (x : TStatement) => (x.Depth, x.Anchor, x.Marks, x.Commits, x.Rhos, x.Deposit, x.Withdraw, x.Fee, x.Account, x.Bind, ())
    | _ + 7 => fun _ => ()
  pack := fun n => match n with
    | 0 => fun (q0, q1, q2, q3, ()) => TOut.mk q0 q1 q2 q3
    | 1 => fun (q0, q1, q2, q3, q4, q5, q6, q7, q8, q9, ()) => TTx.mk q0 q1 q2 q3 q4 q5 q6 q7 q8 q9
    | 2 => fun (q0, q1, ()) => TA2.mk q0 q1
    | 3 => fun (q0, ()) => TField.mk q0
    | 4 => fun (q0, q1, q2, ()) => TA3.mk q0 q1 q2
    | 5 => fun (q0, q1, q2, q3, q4, q5, q6, q7, ()) => TShape.mk q0 q1 q2 q3 q4 q5 q6 q7
    | 6 => fun (q0, q1, q2, q3, q4, q5, q6, q7, q8, q9, ()) => TStatement.mk q0 q1 q2 q3 q4 q5 q6 q7 q8 q9
    | _ + 7 => fun _ => ()
  enc := fun n => match n with
    | 0 => encTOut
    | 1 => encTTx
    | 2 => encTA2
    | 3 => encTField
    | 4 => encTA3
    | 5 => encTShape
    | 6 => encTStatement
    | _ + 7 => fun _ => .agg []
theorem TBok : TB.Ok where
  one := fun n => match n with
    | 0 => rfl
    | 1 => rfl
    | 2 => rfl
    | 3 => rfl
    | 4 => rfl
    | 5 => rfl
    | 6 => rfl
    | _ + 7 => rfl
  pc := fun n x => match n with
    | 0 => rfl
    | 1 => rfl
    | 2 => rfl
    | 3 => rfl
    | 4 => rfl
    | 5 => rfl
    | 6 => rfl
    | _ + 7 => rfl
  en := fun n x => match n with
    | 0 => rfl
    | 1 => rfl
    | 2 => rfl
    | 3 => rfl
    | 4 => rfl
    | 5 => rfl
    | 6 => rfl
    | _ + 7 => rfl
def ti3 : TI TB.den := { ty := some (false, 1), ze := some [.d (.int .i64) (0 : Int)], un := some (.int .i64) }
theorem ti3_ok : TI.Ok Try.prog TB 3 ti3 :=
  ⟨(fun _ h => (show tyOf Try.prog 3 = some (false, 1) by kernel_rfl).trans h),
   (flAll_ok trivial),
   (fun _ _ h => by cases h),
   (fun h => by cases h),
   (fun _ h => by cases h),
   (fun _ h => by cases h; exact ⟨by kernel_rfl, allOne_mem (by kernel_rfl)⟩),
   (fun h => (h rfl).elim),
   (fun _ h => (show Try.prog.underlying 3 = some (.int .i64) by kernel_rfl).trans h),
   (fun _ h => by cases h)⟩
def ti4 : TI TB.den := { ty := some (false, 1), ze := some [.d (.bool) (false : Bool)], un := some (.bool) }
theorem ti4_ok : TI.Ok Try.prog TB 4 ti4 :=
  ⟨(fun _ h => (show tyOf Try.prog 4 = some (false, 1) by kernel_rfl).trans h),
   (flAll_ok trivial),
   (fun _ _ h => by cases h),
   (fun h => by cases h),
   (fun _ h => by cases h),
   (fun _ h => by cases h; exact ⟨by kernel_rfl, allOne_mem (by kernel_rfl)⟩),
   (fun h => (h rfl).elim),
   (fun _ h => (show Try.prog.underlying 4 = some (.bool) by kernel_rfl).trans h),
   (fun _ h => by cases h)⟩
def ti5 : TI TB.den := { ty := some (false, 1), ze := some [.d (.int .u8) (0 : Int)], un := some (.int .u8) }
theorem ti5_ok : TI.Ok Try.prog TB 5 ti5 :=
  ⟨(fun _ h => (show tyOf Try.prog 5 = some (false, 1) by kernel_rfl).trans h),
   (flAll_ok trivial),
   (fun _ _ h => by cases h),
   (fun h => by cases h),
   (fun _ h => by cases h),
   (fun _ h => by cases h; exact ⟨by kernel_rfl, allOne_mem (by kernel_rfl)⟩),
   (fun h => (h rfl).elim),
   (fun _ h => (show Try.prog.underlying 5 = some (.int .u8) by kernel_rfl).trans h),
   (fun _ h => by cases h)⟩
def ti9 : TI TB.den := { ty := some (false, 1), ze := some [.d (.str) (ByteArray.empty : ByteArray)], un := some (.string) }
theorem ti9_ok : TI.Ok Try.prog TB 9 ti9 :=
  ⟨(fun _ h => (show tyOf Try.prog 9 = some (false, 1) by kernel_rfl).trans h),
   (flAll_ok trivial),
   (fun _ _ h => by cases h),
   (fun h => by cases h),
   (fun _ h => by cases h),
   (fun _ h => by cases h; exact ⟨by kernel_rfl, allOne_mem (by kernel_rfl)⟩),
   (fun h => (h rfl).elim),
   (fun _ h => (show Try.prog.underlying 9 = some (.string) by kernel_rfl).trans h),
   (fun _ h => by cases h)⟩
def ti22 : TI TB.den := { ty := some (false, 1), ze := some [.d (.int .u64) (0 : Int)], un := some (.int .u64) }
theorem ti22_ok : TI.Ok Try.prog TB 22 ti22 :=
  ⟨(fun _ h => (show tyOf Try.prog 22 = some (false, 1) by kernel_rfl).trans h),
   (flAll_ok trivial),
   (fun _ _ h => by cases h),
   (fun h => by cases h),
   (fun _ h => by cases h),
   (fun _ h => by cases h; exact ⟨by kernel_rfl, allOne_mem (by kernel_rfl)⟩),
   (fun h => (h rfl).elim),
   (fun _ h => (show Try.prog.underlying 22 = some (.int .u64) by kernel_rfl).trans h),
   (fun _ h => by cases h)⟩
def ti23 : TI TB.den := { ty := some (false, 1), el := some (.int .u64, 8), ez := true, ze := some [.full (.int .u64) []], un := some (.slice 22) }
theorem ti23_ok : TI.Ok Try.prog TB 23 ti23 :=
  ⟨(fun _ h => (show tyOf Try.prog 23 = some (false, 1) by kernel_rfl).trans h),
   (flAll_ok trivial),
   (fun _ _ h => by cases h; exact ⟨by kernel_rfl, by kernel_rfl⟩),
   (fun _ _ _ h => by cases h; exact ⟨[.d (.int .u64 0)], by kernel_rfl, ⟨⟨le1_refl _, rfl⟩, trivial⟩⟩),
   (fun _ h => by cases h),
   (fun _ h => by cases h; exact ⟨by kernel_rfl, allOne_mem (by kernel_rfl)⟩),
   (fun h => (h rfl).elim),
   (fun _ h => (show Try.prog.underlying 23 = some (.slice 22) by kernel_rfl).trans h),
   (fun _ h => by cases h)⟩
def ti24 : TI TB.den := { ty := some (false, 1), el := some (.st 0, 48), ez := true, ze := some [.full (.st 0) []], un := some (.slice 54) }
theorem ti24_ok : TI.Ok Try.prog TB 24 ti24 :=
  ⟨(fun _ h => (show tyOf Try.prog 24 = some (false, 1) by kernel_rfl).trans h),
   (flAll_ok trivial),
   (fun _ _ h => by cases h; exact ⟨by kernel_rfl, by kernel_rfl⟩),
   (fun _ _ _ h => by cases h; exact ⟨[.d (.int .u64 0), .d (.int .u64 0), .d (.int .u64 0), .full 1 []], by kernel_rfl, ⟨⟨le1_refl _, rfl⟩, ⟨le1_refl _, rfl⟩, ⟨le1_refl _, rfl⟩, ⟨⟨rfl, rfl⟩, rfl⟩, trivial⟩⟩),
   (fun _ h => by cases h),
   (fun _ h => by cases h; exact ⟨by kernel_rfl, allOne_mem (by kernel_rfl)⟩),
   (fun h => (h rfl).elim),
   (fun _ h => (show Try.prog.underlying 24 = some (.slice 54) by kernel_rfl).trans h),
   (fun _ h => by cases h)⟩
def ti25 : TI TB.den := { ty := some (false, 1), el := some (.int .u8, 1), ez := true, ze := some [.full (.int .u8) []], un := some (.slice 5) }
theorem ti25_ok : TI.Ok Try.prog TB 25 ti25 :=
  ⟨(fun _ h => (show tyOf Try.prog 25 = some (false, 1) by kernel_rfl).trans h),
   (flAll_ok trivial),
   (fun _ _ h => by cases h; exact ⟨by kernel_rfl, by kernel_rfl⟩),
   (fun _ _ _ h => by cases h; exact ⟨[.d (.int .u8 0)], by kernel_rfl, ⟨⟨le1_refl _, rfl⟩, trivial⟩⟩),
   (fun _ h => by cases h),
   (fun _ h => by cases h; exact ⟨by kernel_rfl, allOne_mem (by kernel_rfl)⟩),
   (fun h => (h rfl).elim),
   (fun _ h => (show Try.prog.underlying 25 = some (.slice 5) by kernel_rfl).trans h),
   (fun _ h => by cases h)⟩
def ti27 : TI TB.den := { ty := some (true, 10), fl := [(0, false, 1), (1, false, 1), (2, false, 1), (3, false, 1), (4, false, 1), (5, false, 1), (6, false, 1), (7, false, 1), (8, false, 1), (9, false, 1)], ze := some [.d (.int .u64) (0 : Int), .full (.int .u64) [], .full (.st 0) [], .d (.int .u64) (0 : Int), .d (.int .u64) (0 : Int), .d (.int .u64) (0 : Int), .d (.int .u64) (0 : Int), .d (.int .u64) (0 : Int), .d (.int .i64) (0 : Int), .full (.int .u8) []], pl := [(0, 1), (1, 1), (2, 1), (3, 1), (4, 1), (5, 1), (6, 1), (7, 1), (8, 1), (9, 1)] }
theorem ti27_ok : TI.Ok Try.prog TB 27 ti27 :=
  ⟨(fun _ h => (show tyOf Try.prog 27 = some (true, 10) by kernel_rfl).trans h),
   (flAll_ok ⟨by kernel_rfl, by kernel_rfl, by kernel_rfl, by kernel_rfl, by kernel_rfl, by kernel_rfl, by kernel_rfl, by kernel_rfl, by kernel_rfl, by kernel_rfl, trivial⟩),
   (fun _ _ h => by cases h),
   (fun h => by cases h),
   (fun _ h => by cases h),
   (fun _ h => by cases h; exact ⟨by kernel_rfl, allOne_mem (by kernel_rfl)⟩),
   (fun _ => by kernel_rfl),
   (fun _ h => by cases h),
   (fun _ h => by cases h)⟩
def ti40 : TI TB.den := { ty := some (true, 8), fl := [(0, false, 1), (1, false, 1), (2, false, 1), (3, false, 1), (4, false, 1), (5, false, 1), (6, false, 1), (7, false, 1)], ze := some [.d (.int .i64) (0 : Int), .d (.int .i64) (0 : Int), .d (.int .u64) (0 : Int), .d (.int .u64) (0 : Int), .d (.int .u64) (0 : Int), .d (.int .u64) (0 : Int), .d (.int .u64) (0 : Int), .d (.int .i64) (0 : Int)], pl := [(0, 1), (1, 1), (2, 1), (3, 1), (4, 1), (5, 1), (6, 1), (7, 1)], eq := some [.int .i64, .int .i64, .int .u64, .int .u64, .int .u64, .int .u64, .int .u64, .int .i64] }
theorem ti40_ok : TI.Ok Try.prog TB 40 ti40 :=
  ⟨(fun _ h => (show tyOf Try.prog 40 = some (true, 8) by kernel_rfl).trans h),
   (flAll_ok ⟨by kernel_rfl, by kernel_rfl, by kernel_rfl, by kernel_rfl, by kernel_rfl, by kernel_rfl, by kernel_rfl, by kernel_rfl, trivial⟩),
   (fun _ _ h => by cases h),
   (fun h => by cases h),
   (fun _ h => by cases h),
   (fun _ h => by cases h; exact ⟨by kernel_rfl, allOne_mem (by kernel_rfl)⟩),
   (fun _ => by kernel_rfl),
   (fun _ h => by cases h),
   (fun _ h => (show eqT Try.prog 40 = some [.int .i64, .int .i64, .int .u64, .int .u64, .int .u64, .int .u64, .int .u64, .int .i64] by kernel_rfl).trans h)⟩
def ti46 : TI TB.den := { ty := some (true, 10), fl := [(0, false, 1), (1, false, 1), (2, false, 1), (3, false, 1), (4, false, 1), (5, false, 1), (6, false, 1), (7, false, 1), (8, false, 1), (9, false, 1)], ze := some [.d (.int .i64) (0 : Int), .d (.int .u64) (0 : Int), .full (.int .u64) [], .full (.int .u64) [], .full (.int .u64) [], .d (.int .u64) (0 : Int), .d (.int .u64) (0 : Int), .d (.int .u64) (0 : Int), .d (.int .u64) (0 : Int), .d (.int .u64) (0 : Int)], pl := [(0, 1), (1, 1), (2, 1), (3, 1), (4, 1), (5, 1), (6, 1), (7, 1), (8, 1), (9, 1)] }
theorem ti46_ok : TI.Ok Try.prog TB 46 ti46 :=
  ⟨(fun _ h => (show tyOf Try.prog 46 = some (true, 10) by kernel_rfl).trans h),
   (flAll_ok ⟨by kernel_rfl, by kernel_rfl, by kernel_rfl, by kernel_rfl, by kernel_rfl, by kernel_rfl, by kernel_rfl, by kernel_rfl, by kernel_rfl, by kernel_rfl, trivial⟩),
   (fun _ _ h => by cases h),
   (fun h => by cases h),
   (fun _ h => by cases h),
   (fun _ h => by cases h; exact ⟨by kernel_rfl, allOne_mem (by kernel_rfl)⟩),
   (fun _ => by kernel_rfl),
   (fun _ h => by cases h),
   (fun _ h => by cases h)⟩
def ti52 : TI TB.den := { ty := some (true, 2), ar := some (2, false, 1), ze := some [.d (.int .u64) (0 : Int), .d (.int .u64) (0 : Int)], pl := [(0, 1), (1, 1)], un := some (.array 2 22) }
theorem ti52_ok : TI.Ok Try.prog TB 52 ti52 :=
  ⟨(fun _ h => (show tyOf Try.prog 52 = some (true, 2) by kernel_rfl).trans h),
   (flAll_ok trivial),
   (fun _ _ h => by cases h),
   (fun h => by cases h),
   (fun _ h => by cases h; exact ⟨by kernel_rfl, by kernel_rfl⟩),
   (fun _ h => by cases h; exact ⟨by kernel_rfl, allOne_mem (by kernel_rfl)⟩),
   (fun _ => by kernel_rfl),
   (fun _ h => (show Try.prog.underlying 52 = some (.array 2 22) by kernel_rfl).trans h),
   (fun _ h => by cases h)⟩
def ti54 : TI TB.den := { ty := some (true, 4), fl := [(0, false, 1), (1, true, 2), (3, false, 1)], ze := some [.d (.int .u64) (0 : Int), .d (.int .u64) (0 : Int), .d (.int .u64) (0 : Int), .full (.int .u64) []], pl := [(0, 1), (1, 2), (3, 1)] }
theorem ti54_ok : TI.Ok Try.prog TB 54 ti54 :=
  ⟨(fun _ h => (show tyOf Try.prog 54 = some (true, 4) by kernel_rfl).trans h),
   (flAll_ok ⟨by kernel_rfl, by kernel_rfl, by kernel_rfl, trivial⟩),
   (fun _ _ h => by cases h),
   (fun h => by cases h),
   (fun _ h => by cases h),
   (fun _ h => by cases h; exact ⟨by kernel_rfl, allOne_mem (by kernel_rfl)⟩),
   (fun _ => by kernel_rfl),
   (fun _ h => by cases h),
   (fun _ h => by cases h)⟩
def ti86 : TI TB.den := { ty := some (true, 3), fl := [(0, false, 1), (1, false, 1), (2, false, 1)], ze := some [.full (.int .u8) [], .d (.int .i64) (0 : Int), .d (.bool) (false : Bool)], pl := [(0, 1), (1, 1), (2, 1)] }
theorem ti86_ok : TI.Ok Try.prog TB 86 ti86 :=
  ⟨(fun _ h => (show tyOf Try.prog 86 = some (true, 3) by kernel_rfl).trans h),
   (flAll_ok ⟨by kernel_rfl, by kernel_rfl, by kernel_rfl, trivial⟩),
   (fun _ _ h => by cases h),
   (fun h => by cases h),
   (fun _ h => by cases h),
   (fun _ h => by cases h; exact ⟨by kernel_rfl, allOne_mem (by kernel_rfl)⟩),
   (fun _ => by kernel_rfl),
   (fun _ h => by cases h),
   (fun _ h => by cases h)⟩
def ti93 : TI TB.den := { ty := some (true, 1), fl := [(0, false, 1)], ze := some [.d (.int .u64) (0 : Int)], pl := [(0, 1)], eq := some [.int .u64] }
theorem ti93_ok : TI.Ok Try.prog TB 93 ti93 :=
  ⟨(fun _ h => (show tyOf Try.prog 93 = some (true, 1) by kernel_rfl).trans h),
   (flAll_ok ⟨by kernel_rfl, trivial⟩),
   (fun _ _ h => by cases h),
   (fun h => by cases h),
   (fun _ h => by cases h),
   (fun _ h => by cases h; exact ⟨by kernel_rfl, allOne_mem (by kernel_rfl)⟩),
   (fun _ => by kernel_rfl),
   (fun _ h => by cases h),
   (fun _ h => (show eqT Try.prog 93 = some [.int .u64] by kernel_rfl).trans h)⟩
def ti94 : TI TB.den := { ty := some (true, 3), ar := some (3, false, 1), ze := some [.d (.int .u64) (0 : Int), .d (.int .u64) (0 : Int), .d (.int .u64) (0 : Int)], pl := [(0, 1), (1, 1), (2, 1)], un := some (.array 3 22) }
theorem ti94_ok : TI.Ok Try.prog TB 94 ti94 :=
  ⟨(fun _ h => (show tyOf Try.prog 94 = some (true, 3) by kernel_rfl).trans h),
   (flAll_ok trivial),
   (fun _ _ h => by cases h),
   (fun h => by cases h),
   (fun _ h => by cases h; exact ⟨by kernel_rfl, by kernel_rfl⟩),
   (fun _ h => by cases h; exact ⟨by kernel_rfl, allOne_mem (by kernel_rfl)⟩),
   (fun _ => by kernel_rfl),
   (fun _ h => (show Try.prog.underlying 94 = some (.array 3 22) by kernel_rfl).trans h),
   (fun _ h => by cases h)⟩
def ti96 : TI TB.den := { ty := some (false, 1), ze := some [.d (.int .u64) (0 : Int)], un := some (.int .u64) }
theorem ti96_ok : TI.Ok Try.prog TB 96 ti96 :=
  ⟨(fun _ h => (show tyOf Try.prog 96 = some (false, 1) by kernel_rfl).trans h),
   (flAll_ok trivial),
   (fun _ _ h => by cases h),
   (fun h => by cases h),
   (fun _ h => by cases h),
   (fun _ h => by cases h; exact ⟨by kernel_rfl, allOne_mem (by kernel_rfl)⟩),
   (fun h => (h rfl).elim),
   (fun _ h => (show Try.prog.underlying 96 = some (.int .u64) by kernel_rfl).trans h),
   (fun _ h => by cases h)⟩
def inf : BT (TI TB.den) := (.nd (.nd (.nd (.nd (.nd .lf 3 ti3 .lf) 4 ti4 .lf) 5 ti5 (.nd .lf 9 ti9 .lf)) 22 ti22 (.nd (.nd .lf 23 ti23 .lf) 24 ti24 (.nd .lf 25 ti25 .lf))) 27 ti27 (.nd (.nd (.nd (.nd .lf 40 ti40 .lf) 46 ti46 .lf) 52 ti52 (.nd .lf 54 ti54 .lf)) 86 ti86 (.nd (.nd .lf 93 ti93 .lf) 94 ti94 (.nd .lf 96 ti96 .lf))))
theorem inf_ok : InfoOk Try.prog TB inf := (find_nd ti27_ok (find_nd ti22_ok (find_nd ti5_ok (find_nd ti4_ok (find_nd ti3_ok find_nil find_nil) find_nil) (find_nd ti9_ok find_nil find_nil)) (find_nd ti24_ok (find_nd ti23_ok find_nil find_nil) (find_nd ti25_ok find_nil find_nil))) (find_nd ti86_ok (find_nd ti52_ok (find_nd ti46_ok (find_nd ti40_ok find_nil find_nil) find_nil) (find_nd ti54_ok find_nil find_nil)) (find_nd ti94_ok (find_nd ti93_ok find_nil find_nil) (find_nd ti96_ok find_nil find_nil))))
theorem mix : Try.prog.follows .mixedOrders = true := by kernel_rfl
def x79 : XCon TB.den := ⟨79, [.int .u64, .int .u64, .int .u64], [.int .u64, .int .u64], fun x => (fun (a0 : Int) (a1 : Int) (a2 : Int) => 0 ≤ a0 ∧ 0 ≤ a1 ∧ 0 ≤ a2 ∧ a2 ≤ 1) x.1 x.2.1 x.2.2.1, fun x => ((fun (a0 : Int) (a1 : Int) (a2 : Int) => (a0 + a1 + a2) % 18446744073709551616) x.1 x.2.1 x.2.2.1, (fun (a0 : Int) (a1 : Int) (a2 : Int) => (a0 + a1 + a2) / 18446744073709551616) x.1 x.2.1 x.2.2.1, ())⟩
theorem x79_ok : x79.Ok Try.prog TB := ⟨rfl, fun x h => soundX_add64 Try.func79 (by kernel_rfl) (by kernel_rfl) (by kernel_rfl) (by kernel_rfl) x.1 x.2.1 x.2.2.1 h.1 h.2.1 h.2.2.1 h.2.2.2⟩
end Go.Proofs.Ytdbnagpoknmoiaa
namespace Go.Bv
open Go.RowKit Go.Deep
def limOf (w : World) (b : Nat) : Nat := match w.heap[b]? with
  | some (.cells c _ _) => c.size
  | _ => 0
theorem limOf_cell {w : World} {b o : Nat} {v : Value} (h : w.cell? ⟨b, o, none⟩ = some v) : o < limOf w b := by
  unfold World.cell? at h
  unfold limOf
  simp only at h
  split at h
  · rename_i c _ _ hh
    rw [hh]
    simp only [Option.isSome_none, Bool.false_eq_true, if_false] at h
    exact (Array.getElem?_eq_some_iff.1 h).1
  · cases h
def isAggT (P : Program) (e : TypeId) : Bool := match P.underlying e with
  | some (.struct _) => true
  | some (.array _ _) => true
  | _ => false
def mkD (P : Program) (e : TypeId) (cs : List D) : D := if isAggT P e then .agg cs else cs.headD (.bool false)
def tiles (P : Program) (tot : Nat) : List (TypeId × Nat) → Nat → Bool
  | [], o => o == tot
  | p :: r, o => p.2 == o && tiles P tot r (o + P.cellsOf p.1)
def fsOf (fs : Array Field) : List (TypeId × Nat) := fs.toList.map fun f => (f.type, f.offset)
def arOf (P : Program) (n : Nat) (e : TypeId) : List (TypeId × Nat) := (List.range n).map fun i => (e, i * P.cellsOf e)
def dataT (P : Program) : Nat → TypeId → Bool
  | 0, _ => false
  | k + 1, t => match P.underlying t with
    | some .bool => true
    | some (.int _) => true
    | some .string => true
    | some (.slice e) => decide (0 < P.cellsOf e) && dataT P k e
    | some (.struct fs) => tiles P (P.cellsOf t) (fsOf fs) 0 && (fsOf fs).all fun p => dataT P k p.1
    | some (.array n e) => tiles P (P.cellsOf t) (arOf P n e) 0 && dataT P k e
    | _ => false
def RelFs {H : Type} (R : TypeId → List D → DataW H → Prop) : List (TypeId × Nat) → List D → List (DataW H) → Prop
  | [], ds, ps => ds = [] ∧ ps = []
  | t :: ts, ds, ps => ∃ d1 d2 p qs, R t.1 d1 p ∧ RelFs R ts d2 qs ∧ ds = d1 ++ d2 ∧ ps = p :: qs
def Rel {H : Type} (P : Program) : Nat → TypeId → List D → DataW H → Prop
  | 0, _, _, _ => False
  | k + 1, t, ds, d => match P.underlying t with
    | some .bool => ∃ b, ds = [.bool b] ∧ d = .lit (.bool b)
    | some (.int q) => ∃ i, ds = [.int q i] ∧ d = .lit (.int q i) ∧ (Lit.int q i).wf = true
    | some .string => ∃ s : ByteArray, ds = [.str s] ∧ d = .lit (.string s.data.toList)
    | some (.slice e) => ∃ l : List (List D), ds = [.slice (P.cellsOf e) (l.map (mkD P e))] ∧ l.length ≤ maxLen ∧
        ((l = [] ∧ d = .nil) ∨ ∃ elems spare, d = .slice elems spare ∧ l.length = elems.length ∧ ∀ (j : Nat) (x : List D) (y : DataW H), l[j]? = some x → elems[j]? = some y → Rel P k e x y)
    | some (.struct fs) => ∃ ps, d = .agg ps ∧ RelFs (Rel P k) (fsOf fs) ds ps
    | some (.array n e) => ∃ ps, d = .agg ps ∧ RelFs (Rel P k) (arOf P n e) ds ps
    | _ => False
def Holds (w : World) (cs : List Value) (ds : List D) : Prop := ds.length = cs.length ∧ ∀ (j : Nat) (v : Value) (c : D), cs[j]? = some v → ds[j]? = some c → RepD (limOf w) w v c
theorem Holds.append {w : World} {a b : List Value} {x y : List D} (h1 : Holds w a x) (h2 : Holds w b y) : Holds w (a ++ b) (x ++ y) := by
  refine ⟨by simp [h1.1, h2.1], fun j v c hv hc => ?_⟩
  by_cases hj : j < a.length
  · rw [List.getElem?_append_left hj] at hv
    rw [List.getElem?_append_left (by rw [h1.1]; exact hj)] at hc
    exact h1.2 j v c hv hc
  · rw [List.getElem?_append_right (by omega)] at hv
    rw [List.getElem?_append_right (by rw [h1.1]; omega), h1.1] at hc
    exact h2.2 _ v c hv hc
theorem Holds.one {w : World} {v : Value} {d : D} (h : RepD (limOf w) w v d) : Holds w [v] [d] := by
  refine ⟨rfl, fun j u c hu hc => ?_⟩
  cases j with
  | zero => simp at hu hc; subst hu; subst hc; exact h
  | succ j => simp at hu
section
variable {H : Type} {P : Program} {w : World} {cs : List Value}
theorem parts_rel {tot : Nat} (htot : cs.length = tot) (ok : Value → Prop) (hok : ∀ v ∈ cs, ok v) (R : TypeId → List D → DataW H → Prop) (g : TypeId → List Value → Option (DataW H × List MemPlace)) :
    ∀ (L : List (TypeId × Nat)) (o : Nat) (xs : List (DataW H × List MemPlace)), tiles P tot L o = true → xs.length = L.length →
      (∀ p ∈ L, ∀ cs' y, (∀ v ∈ cs', ok v) → g p.1 cs' = some y → ∃ ds, Holds w cs' ds ∧ R p.1 ds y.1) →
      (∀ (i : Nat) (p : TypeId × Nat), L[i]? = some p → g p.1 ((cs.drop p.2).take (P.cellsOf p.1)) = xs[i]?) →
      ∃ ds, Holds w (cs.drop o) ds ∧ RelFs R L ds (xs.map (·.1))
  | [], o, xs, ht, hl, _, _ => by
    simp [tiles] at ht
    have : xs = [] := by simpa using hl
    subst this
    refine ⟨[], ⟨?_, ?_⟩, rfl, rfl⟩
    · simp; omega
    · intro j v c _ hc; simp at hc
  | p :: L, o, xs, ht, hl, hg, hx => by
    simp [tiles] at ht
    obtain ⟨h0, ht⟩ := ht
    cases xs with
    | nil => simp at hl
    | cons y ys =>
      have h1 := hx 0 p rfl
      simp only [List.getElem?_cons_zero] at h1
      obtain ⟨d1, hd1, hr1⟩ := hg p (by simp) _ y (fun v hv => hok v (List.mem_of_mem_drop (List.mem_of_mem_take hv))) h1
      obtain ⟨d2, hd2, hr2⟩ := parts_rel htot ok hok R g L (o + P.cellsOf p.1) ys ht (by simpa using hl) (fun q hq => hg q (by simp [hq])) (fun i q hq => by simpa using hx (i + 1) q (by simpa using hq))
      refine ⟨d1 ++ d2, ?_, d1, d2, y.1, _, hr1, hr2, rfl, rfl⟩
      have := hd1.append hd2
      rw [h0, ← List.drop_drop, List.take_append_drop] at this
      exact this
end
section
variable {H : Type} {enc : TypeId × Value → H} {P : Program} {w : World}
theorem rel_mk {k : Nat} {e : TypeId} {x : List D} {d : DataW H} (hr : Rel P k e x d) (h1 : ∀ c ∈ x, c.one = true) : (mkD P e x).cells = x := by
  cases k with
  | zero => exact hr.elim
  | succ k =>
    unfold mkD
    split
    · rfl
    · rename_i ha
      unfold Rel at hr
      split at hr
      · obtain ⟨b, rfl, _⟩ := hr; rfl
      · obtain ⟨b, rfl, _⟩ := hr; rfl
      · obtain ⟨b, rfl, _⟩ := hr; rfl
      · obtain ⟨b, rfl, _⟩ := hr; rfl
      · rename_i h; exact absurd (by simp [isAggT, h]) ha
      · rename_i h; exact absurd (by simp [isAggT, h]) ha
      · exact hr.elim
theorem open_rel : ∀ (k : Nat) (t : TypeId), dataT P k t = true → ∀ (n : Nat) (cs : List Value) (y : DataW H × List MemPlace),
    DataW.trod enc P w 0 (fun _ => true) true n t cs = some y → ∃ ds, Holds w cs ds ∧ Rel P k t ds y.1
  | 0, _, h => by cases h
  | k + 1, t, hT => by
    intro n cs y h
    unfold dataT at hT
    split at hT
    · rename_i hu
      obtain ⟨b, rfl, rfl⟩ := DataW.trod_bool hu h
      exact ⟨[.bool b], Holds.one (.bool b), by simp [Rel, hu]⟩
    · rename_i q hu
      obtain ⟨i, rfl, rfl, hw⟩ := DataW.trod_int hu h
      exact ⟨[.int q i], Holds.one (.int q i), by simp [Rel, hu, hw]⟩
    · rename_i hu
      obtain ⟨s, rfl, rfl, hs⟩ := DataW.trod_string hu h
      exact ⟨[.str s], Holds.one (.str s), by simp only [Rel, hu]; exact ⟨s, rfl, rfl⟩⟩
    · rename_i e hu
      simp only [Bool.and_eq_true, decide_eq_true_eq] at hT
      obtain ⟨hpos, hT⟩ := hT
      rcases open_slice hu h with ⟨rfl, rfl⟩ | ⟨a, len, cap, m, n', Dd, Pl, rfl, _, hlc, hcm, hm, rfl, hel⟩
      · exact ⟨[.slice (P.cellsOf e) []], Holds.one (.nil none _), by simp only [Rel, hu]; exact ⟨[], rfl, Nat.zero_le _, .inl ⟨by trivial, by trivial⟩⟩⟩
      · simp only [if_true] at hm
        subst hm
        by_cases hm0 : m = 0
        · subst hm0
          have hl0 : len = 0 := by omega
          subst hl0
          refine ⟨[.slice (P.cellsOf e) []], Holds.one (.nil (some a) _), ?_⟩
          simp only [Rel, hu]
          exact ⟨[], rfl, Nat.zero_le _, .inr ⟨_, _, rfl, by simp, by intro j x y hx; simp at hx⟩⟩
        have hel' : ∀ i, i < len → ∃ x : List D, ∃ cs', w.cells? 0 (a.add (i * P.cellsOf e)) (P.cellsOf e) = some cs' ∧ Holds w cs' x ∧ Rel P k e x (Dd i) := by
          intro i hi
          obtain ⟨cs', h1, h2⟩ := hel i (by omega)
          obtain ⟨ds, h3, h4⟩ := open_rel k e hT n' cs' _ h2
          exact ⟨ds, cs', h1, h3, h4⟩
        obtain ⟨f, hf⟩ := choose_lt hel'
        have hspot : a.spot = none := by
          obtain ⟨cs', h1, h2⟩ := hel 0 (by omega)
          have h3 := (World.cells?_some h1).2.2 0 (by omega)
          have h4 := (World.cells?_some h1).2.1
          rw [List.getElem?_eq_getElem (by omega)] at h3
          unfold World.cell? at h3
          split at h3
          · split at h3
            · cases h3
            · rename_i hs; simpa [Addr.add] using hs
          · cases h3
        obtain ⟨b, off, sp⟩ := a
        simp only at hspot
        subst hspot
        have hone : ∀ i, i < len → ∀ c ∈ f i, c.one = true := by
          intro i hi c hc
          obtain ⟨cs', h1, h2, h3⟩ := hf i hi
          obtain ⟨j, hj⟩ := List.getElem?_of_mem hc
          have hjl : j < cs'.length := by rw [← h2.1]; exact (List.getElem?_eq_some_iff.1 hj).1
          exact (h2.2 j _ c (List.getElem?_eq_getElem hjl) hj).done
        have hmk : ∀ i, i < len → (mkD P e (f i)).cells = f i := fun i hi => by
          obtain ⟨cs', h1, h2, h3⟩ := hf i hi
          exact rel_mk h3 (hone i hi)
        have hsz : ∀ d ∈ ((List.range len).map f).map (mkD P e), d.cells.length = P.cellsOf e ∧ ∀ c ∈ d.cells, c.one = true := by
          intro d hd
          simp only [List.map_map, List.mem_map, List.mem_range, Function.comp] at hd
          obtain ⟨i, hi, rfl⟩ := hd
          obtain ⟨cs', h1, h2, h3⟩ := hf i hi
          rw [hmk i hi]
          exact ⟨by rw [h2.1]; exact (World.cells?_some h1).2.1, hone i hi⟩
        have hget : ∀ i, i < len → (((List.range len).map f).map (mkD P e))[i]? = some (mkD P e (f i)) := by
          intro i hi
          simp [List.getElem?_map, List.getElem?_range hi]
        have hfl := flat_length hsz
        simp only [List.length_map, List.length_range] at hfl
        have hat : ∀ (j : Nat) (u : Value), ((List.range (len * P.cellsOf e)).map fun j => (w.cell? ⟨b, off + j, none⟩).getD undef)[j]? = some u → j < len * P.cellsOf e ∧ w.cell? ⟨b, off + j, none⟩ = some u := by
          intro j u hu
          have hj : j < len * P.cellsOf e := by simpa using (List.getElem?_eq_some_iff.1 hu).1
          refine ⟨hj, ?_⟩
          simp only [List.getElem?_map, List.getElem?_range hj, Option.map_some, Option.some.injEq] at hu
          have hi : j / P.cellsOf e < len := by rw [Nat.div_lt_iff_lt_mul hpos]; exact hj
          have hr : j % P.cellsOf e < P.cellsOf e := Nat.mod_lt _ hpos
          obtain ⟨cs', h1, h2, h3⟩ := hf _ hi
          have e1 : j / P.cellsOf e * P.cellsOf e + j % P.cellsOf e = j := by rw [Nat.mul_comm]; exact Nat.div_add_mod j _
          have h4 := (World.cells?_some h1).2.2 _ hr
          have h5 := (World.cells?_some h1).2.1
          have e2 : (Addr.add ⟨b, off, none⟩ (j / P.cellsOf e * P.cellsOf e)).add (j % P.cellsOf e) = ⟨b, off + j, none⟩ := by
            rw [add_add, e1]
            simp [Addr.add]
          rw [e2, List.getElem?_eq_getElem (by omega)] at h4
          rw [h4] at hu ⊢
          simpa using hu
        refine ⟨[.slice (P.cellsOf e) (((List.range len).map f).map (mkD P e))], Holds.one ?_, ?_⟩
        · have := RepD.slice (m := limOf w) (w := w) b off m (P.cellsOf e) (((List.range len).map f).map (mkD P e)) ((List.range (len * P.cellsOf e)).map fun j => (w.cell? ⟨b, off + j, none⟩).getD undef) (by simpa using hlc) hcm hsz (by rw [hfl]; simp) ?_ ?_
          · simpa using this
          · intro j u hu
            obtain ⟨hj, hcell⟩ := hat j u hu
            exact ⟨limOf_cell hcell, hcell⟩
          · intro j u c hu hc
            obtain ⟨hj, hcell⟩ := hat j u hu
            have hi : j / P.cellsOf e < len := by rw [Nat.div_lt_iff_lt_mul hpos]; exact hj
            have hr : j % P.cellsOf e < P.cellsOf e := Nat.mod_lt _ hpos
            obtain ⟨cs', h1, h2, h3⟩ := hf _ hi
            have e1 : j / P.cellsOf e * P.cellsOf e + j % P.cellsOf e = j := by rw [Nat.mul_comm]; exact Nat.div_add_mod j _
            rw [← e1, flat_get hsz (hget _ hi) _ hr, hmk _ hi] at hc
            refine h2.2 _ u c ?_ hc
            rw [← (World.cells?_some h1).2.2 _ hr, ← hcell]
            congr 1
            rw [add_add, e1]
            simp [Addr.add]
        · simp only [Rel, hu]
          refine ⟨(List.range len).map f, rfl, by simp; omega, .inr ⟨_, _, rfl, by simp, ?_⟩⟩
          intro j x y hx hy
          have hj : j < len := by simpa using (List.getElem?_eq_some_iff.1 hx).1
          simp only [List.getElem?_map, List.getElem?_range hj, Option.map_some, Option.some.injEq] at hx hy
          subst hx; subst hy
          obtain ⟨_, _, _, h3⟩ := hf j hj
          exact h3
    · rename_i fs hu
      simp only [Bool.and_eq_true] at hT
      obtain ⟨xs, n', rfl, rfl, hl, hxl, hx⟩ := DataW.trod_struct hu h
      obtain ⟨ds, h1, h2⟩ := parts_rel (P := P) hl (fun _ => True) (fun _ _ => trivial) (Rel P k) (fun t c => DataW.trod enc P w 0 (fun _ => true) true n' t c) (fsOf fs) 0 xs hT.1 (by simp [fsOf, hxl])
        (fun p hp cs' y _ hy => open_rel k p.1 (List.all_eq_true.1 hT.2 p hp) n' cs' y hy)
        (fun i p hp => by
          simp only [fsOf, List.getElem?_map, Option.map_eq_some_iff] at hp
          obtain ⟨f, hf, rfl⟩ := hp
          exact hx i f (by simpa using hf))
      exact ⟨ds, by simpa using h1, by simp only [Rel, hu]; exact ⟨_, rfl, h2⟩⟩
    · rename_i m e hu
      simp only [Bool.and_eq_true] at hT
      obtain ⟨xs, n', rfl, rfl, hl, hxl, hx⟩ := DataW.trod_array hu h
      obtain ⟨ds, h1, h2⟩ := parts_rel (P := P) hl (fun _ => True) (fun _ _ => trivial) (Rel P k) (fun t c => DataW.trod enc P w 0 (fun _ => true) true n' t c) (arOf P m e) 0 xs hT.1 (by simp [arOf, hxl])
        (fun p hp cs' y _ hy => by
          simp only [arOf, List.mem_map] at hp
          obtain ⟨i, _, rfl⟩ := hp
          exact open_rel k e hT.2 n' cs' y hy)
        (fun i p hp => by
          simp only [arOf, List.getElem?_map, Option.map_eq_some_iff] at hp
          obtain ⟨f, hf, rfl⟩ := hp
          obtain ⟨hi, rfl⟩ := List.getElem?_eq_some_iff.1 hf
          have hi' : i < m := by simpa using hi
          simpa using hx i hi')
      exact ⟨ds, by simpa using h1, by simp only [Rel, hu]; exact ⟨_, rfl, h2⟩⟩
    · cases hT
end
end Go.Bv
namespace Go.Bv
open Go.RowKit Go.ChangeShapes Go.WideShapes
def G0 (W : World) : Gh := ⟨fun _ => none, fun _ => none, limOf W⟩
def vOf (P : Program) (t : TypeId) (ds : List D) : V := if isAggT P t then .agg (ds.map V.d) else .d (ds.headD (.bool false))
section
variable {H : Type} {enc : TypeId × Value → H} {P : Program} {W : World}
theorem arg_rep {k : Nat} {r : Reach} {base : Nat} {t : TypeId} {v : Value} {d : DataW H} {ps : List MemPlace} {h : Hp} {nx : Nat} (hT : dataT P k t = true) (hval : Value.okWide P W r base t v)
    (hd : DataW.Trod enc P W 0 (fun _ => true) true t v d ps) : ∃ ds, Rel P k t ds d ∧ RepV (G0 W) W h nx v (vOf P t ds) := by
  obtain ⟨n, hn⟩ := hd
  by_cases ha : isAggT P t = true
  · have hval' : ∃ cs, v = .agg cs ∧ cs.size = P.cellsOf t ∧ Row.okWide P W r base t cs := by
      unfold isAggT at ha
      unfold Value.okWide at hval
      split at ha
      · rename_i h1; rw [h1] at hval; exact hval
      · rename_i h1; rw [h1] at hval; exact hval
      · cases ha
    obtain ⟨cs, rfl, _, ts, _, _, hc⟩ := hval'
    obtain ⟨ds, h1, h2⟩ := open_rel k t hT n cs.toList _ hn
    refine ⟨ds, h2, ?_⟩
    unfold vOf
    rw [if_pos ha]
    have := RepV.agg (G := G0 W) (w := W) (h := h) (nx := nx) cs.toList (ds.map V.d) (by simpa using h1.1.symm) ?_ ?_
    · simpa using this
    · intro x hx
      obtain ⟨c, hcm, rfl⟩ := List.mem_map.1 hx
      obtain ⟨j, hj⟩ := List.getElem?_of_mem hcm
      have hjl : j < cs.toList.length := by have := h1.1; have := (List.getElem?_eq_some_iff.1 hj).1; simp [Value.cells] at *; omega
      exact (h1.2 j _ c (List.getElem?_eq_getElem hjl) hj).done
    · intro j u x hu hx
      rw [List.getElem?_map, Option.map_eq_some_iff] at hx
      obtain ⟨c, hcj, rfl⟩ := hx
      exact .d _ _ (h1.2 j u c hu hcj)
  · have hval' : Cell.okWide P W r base t v := by
      unfold Value.okWide at hval
      split at hval
      · rename_i h1; exact absurd (by simp [isAggT, h1]) ha
      · rename_i h1; exact absurd (by simp [isAggT, h1]) ha
      · exact hval
    have hcs : v.cells.toList = [v] := by
      cases v with
      | agg cs =>
        exfalso
        unfold Cell.okWide Cell.ok at hval'
        split at hval'
        all_goals first | (split at hval'; all_goals simp_all) | simp_all
      | _ => rfl
    rw [hcs] at hn
    obtain ⟨ds, h1, h2⟩ := open_rel k t hT n _ _ hn
    refine ⟨ds, h2, ?_⟩
    unfold vOf
    rw [if_neg ha]
    have hl := h1.1
    match ds, hl with
    | [c], _ => exact .d _ _ (h1.2 0 v c rfl rfl)
theorem law_of {f : FuncId} {xs : List V} {r : V} (hS : SoundH P f xs [] r []) {vs : List Value} (hlen : vs.length = xs.length)
    (hrep : ∀ (j : Nat) (v : Value) (x : V), vs[j]? = some v → xs[j]? = some x → RepV (G0 W) W [] 0 v x) :
    Calls P f vs.toArray W fun e W' => (∃ v G', e = .returned v ∧ RepV G' W' [] 0 v r) ∧ Below W.heap.size W W' := by
  refine (hS (G0 W) W vs hlen hrep ?_).mono fun e W' hh => ?_
  · refine ⟨?_, ?_, ?_, ?_, ?_, ?_⟩
    · intro id l h; simp [hpOf, Hp.get] at h
    · intro id es h; simp [hpOf, Hp.get] at h
    · intro id b h; simp at h
    · intro i j b h; simp at h
    · intro id ob h; simp [hpOf, Hp.get] at h
    · intro b hb
      show limOf W b = 0
      unfold limOf
      rw [Array.getElem?_eq_none hb]
  · obtain ⟨v, G', rfl, h1, h2, h3, h4⟩ := hh
    refine ⟨⟨v, G', rfl, h1⟩, h3.os, h3.tape, h3.output, h3.size, fun b hb => (h3.same b hb ?_).1⟩
    rintro ⟨i, hi, _⟩
    simp at hi
def typesOk (P : Program) (ts : List TypeId) : Bool := ts.all fun t => P.readableRec t && decide (t < P.types.size)
theorem trodAll_below (hl : laidOutB P = true) {W' : World} (hb : Below W.heap.size W W') : ∀ {ts : List TypeId} {vs : List Value} {ds : List (DataW H)} {ps : List MemPlace}, typesOk P ts = true →
    DataW.TrodAll enc P W 0 (fun _ => true) true ts vs ds ps → (∀ x ∈ ps, x.block < W.heap.size) → DataW.TrodAll enc P W' 0 (fun b => decide (b < W.heap.size)) true ts vs ds ps
  | [], [], [], _, _, h, _ => h
  | [], [], _ :: _, _, _, h, _ => h.elim
  | [], _ :: _, _, _, _, h, _ => h.elim
  | _ :: _, [], _, _, _, h, _ => h.elim
  | _ :: _, _ :: _, [], _, _, h, _ => h.elim
  | t :: ts, v :: vs, d :: ds, ps, ht, h, hp => by
    simp only [typesOk, List.all_cons, Bool.and_eq_true, decide_eq_true_eq] at ht
    obtain ⟨p, q, h1, h2, rfl⟩ := h
    exact ⟨p, q, Below.trod hl ht.1.1 ht.1.2 h1 hb (fun x hx => hp x (by simp [hx])), trodAll_below hl hb (by simpa [typesOk] using ht.2) h2 (fun x hx => hp x (by simp [hx])), rfl⟩
theorem rel_int {k : Nat} {t : TypeId} {q : IntKind} {ds : List D} {d : DataW H} (hu : P.underlying t = some (.int q)) (h : Rel P (k + 1) t ds d) : ∃ i, ds = [.int q i] ∧ d = .lit (.int q i) ∧ (Lit.int q i).wf = true := by unfold Rel at h; rw [hu] at h; exact h
theorem rel_struct {k : Nat} {t : TypeId} {fs : Array Field} {ds : List D} {d : DataW H} (hu : P.underlying t = some (.struct fs)) (h : Rel P (k + 1) t ds d) : ∃ ps, d = .agg ps ∧ RelFs (Rel P k) (fsOf fs) ds ps := by unfold Rel at h; rw [hu] at h; exact h
theorem rel_array {k : Nat} {t e : TypeId} {n : Nat} {ds : List D} {d : DataW H} (hu : P.underlying t = some (.array n e)) (h : Rel P (k + 1) t ds d) : ∃ ps, d = .agg ps ∧ RelFs (Rel P k) (arOf P n e) ds ps := by unfold Rel at h; rw [hu] at h; exact h
theorem rel_slice {k : Nat} {t e : TypeId} {ds : List D} {d : DataW H} {α : Type} [Inhabited α] (f : α → D) (p : α → Prop) (hu : P.underlying t = some (.slice e)) (h : Rel P (k + 1) t ds d)
    (tp : ∀ (x : List D) (y : DataW H), Rel P k e x y → ∃ a, mkD P e x = f a ∧ p a) :
    ∃ l : List α, ds = [.slice (P.cellsOf e) (l.map f)] ∧ l.length ≤ maxLen ∧ (∀ a ∈ l, p a) ∧ ((l = [] ∧ d = .nil) ∨ ∃ elems spare, d = .slice elems spare ∧ l.length = elems.length) := by
  unfold Rel at h
  rw [hu] at h
  obtain ⟨l, rfl, hmx, h⟩ := h
  rcases h with ⟨rfl, rfl⟩ | ⟨elems, spare, rfl, hlen, hh⟩
  · exact ⟨[], rfl, Nat.zero_le _, by simp, .inl ⟨rfl, rfl⟩⟩
  · have : ∀ i, i < l.length → ∃ a, mkD P e (l.getD i []) = f a ∧ p a := by
      intro i hi
      refine tp _ _ (hh i _ _ ?_ (List.getElem?_eq_getElem (by omega)))
      simp [List.getElem?_eq_getElem hi]
    obtain ⟨g, hg⟩ := Deep.choose_lt this
    refine ⟨(List.range l.length).map g, ?_, by simpa using hmx, ?_, .inr ⟨elems, spare, rfl, by simpa using hlen⟩⟩
    · have : l.map (mkD P e) = ((List.range l.length).map g).map f := by
        rw [Deep.map_by_index l [] (mkD P e), List.map_map]
        refine List.map_congr_left fun i hi => ?_
        exact (hg i (by simpa using hi)).1
      rw [this]
    · intro a ha
      obtain ⟨i, hi, rfl⟩ := List.mem_map.1 ha
      exact (hg i (by simpa using hi)).2
theorem law_post {fn : Func} {s : ChangeSpec} {W' : World} {args : Array Value} {ds : List (DataW H)} {before : List MemPlace} {tb : TypeId} (hv : s.vars = []) (hW : DataW.Whole enc P fn.params.toList s.vars false W args.toList ds [] before)
    (hl : laidOutB P = true) (hty : typesOk P fn.params.toList = true) (hr : fn.resultTypes = #[tb]) (hub : P.underlying tb = some .bool)
    (h1 : (s.fn H (ds ++ [])).results = [.lit (.bool true)]) (h2 : (s.fn H (ds ++ [])).args = ds) (h3 : (s.fn H (ds ++ [])).vars = []) (hb : Below W.heap.size W W') :
    s.post enc P fn false true false false W args (.bool true) W' := by
  have hW' := hW
  obtain ⟨p, q, hA, hV, rfl, _, _⟩ := hW
  have hq : q = [] := by rw [hv] at hV; exact hV
  subst hq
  refine ⟨ds, [], p ++ [], [], p, [], hW', ?_, ?_, ?_, hb.frame _, fun h => by cases h⟩
  · rw [h1, hr]
    exact trodAll_cons_mk (shut_bool hub _) trodAll_mk0
  · rw [h2]
    exact trodAll_below hl hb hty hA (fun x hx => by simpa using hW'.lt x (by simpa using hx))
  · rw [hv, h3]
    rfl
end
structure RelH {H : Type} (P : Program) (k : Nat) (t : TypeId) (ds : List D) (d : DataW H) : Prop where
  h : Rel P k t ds d
section
variable {H : Type} {enc : TypeId × Value → H} {P : Program} {W : World} {k : Nat}
theorem relFs_h : ∀ {L : List (TypeId × Nat)} {ds : List D} {ps : List (DataW H)}, RelFs (Rel P k) L ds ps → RelFs (RelH P k) L ds ps
  | [], _, _, h => h
  | _ :: _, _, _, ⟨d1, d2, p, qs, h1, h2, e1, e2⟩ => ⟨d1, d2, p, qs, ⟨h1⟩, relFs_h h2, e1, e2⟩
theorem relH_int {t : TypeId} {q : IntKind} {ds : List D} {d : DataW H} (hu : P.underlying t = some (.int q)) (h : RelH P (k + 1) t ds d) : ∃ i, ds = [.int q i] ∧ d = .lit (.int q i) ∧ (Lit.int q i).wf = true := rel_int hu h.h
theorem relH_struct {t : TypeId} {fs : Array Field} {ds : List D} {d : DataW H} {L : List (TypeId × Nat)} (hu : P.underlying t = some (.struct fs)) (hf : fsOf fs = L) (h : RelH P (k + 1) t ds d) : ∃ ps, d = .agg ps ∧ RelFs (RelH P k) L ds ps := by
  obtain ⟨ps, h1, h2⟩ := rel_struct hu h.h
  rw [hf] at h2
  exact ⟨ps, h1, relFs_h h2⟩
theorem relH_array {t e : TypeId} {n : Nat} {ds : List D} {d : DataW H} {L : List (TypeId × Nat)} (hu : P.underlying t = some (.array n e)) (hf : arOf P n e = L) (h : RelH P (k + 1) t ds d) : ∃ ps, d = .agg ps ∧ RelFs (RelH P k) L ds ps := by
  obtain ⟨ps, h1, h2⟩ := rel_array hu h.h
  rw [hf] at h2
  exact ⟨ps, h1, relFs_h h2⟩
theorem relH_slice {t e : TypeId} {ds : List D} {d : DataW H} {α : Type} [Inhabited α] (f : α → D) (p : α → Prop) (sz : Nat) (hu : P.underlying t = some (.slice e)) (hs : P.cellsOf e = sz) (h : RelH P (k + 1) t ds d)
    (tp : ∀ (x : List D) (y : DataW H), RelH P k e x y → ∃ a, mkD P e x = f a ∧ p a) : ∃ l : List α, ds = [.slice sz (l.map f)] ∧ l.length ≤ 9223372036854775807 ∧ ∀ a ∈ l, p a := by
  obtain ⟨l, h1, h2, h3, _⟩ := rel_slice f p hu h.h (fun x y hh => tp x y ⟨hh⟩)
  subst hs
  exact ⟨l, h1, h2, h3⟩
theorem mk_agg {e : TypeId} {ds cs : List D} (ha : isAggT P e = true) (h : ds = (D.agg cs).cells) : mkD P e ds = .agg cs := by subst h; unfold mkD; rw [ha]; rfl
theorem mk_one {e : TypeId} {ds : List D} {x : D} (ha : isAggT P e = false) (h : ds = [x]) : mkD P e ds = x := by subst h; unfold mkD; rw [ha]; rfl
theorem arg_repH {r : Reach} {base : Nat} {t : TypeId} {v : Value} {d : DataW H} {ps : List MemPlace} {h : Hp} {nx : Nat} (hT : dataT P k t = true) (hval : Value.okWide P W r base t v)
    (hd : DataW.Trod enc P W 0 (fun _ => true) true t v d ps) : ∃ ds, RelH P k t ds d ∧ RepV (G0 W) W h nx v (vOf P t ds) := by
  obtain ⟨ds, h1, h2⟩ := arg_rep hT hval hd
  exact ⟨ds, ⟨h1⟩, h2⟩
end
end Go.Bv
namespace Go.Proofs.Ytdbnagpoknmoiaa
open Go Go.Bv Go.Cv Go.Md Go.RowKit Go.ChangeShapes Go.WideShapes
theorem wf_u8 {i : Int} (h : (Lit.int .u8 i).wf = true) : 0 ≤ i ∧ i < 256 := by
  simp only [Lit.wf, IntKind.min, IntKind.max, IntKind.signed, IntKind.bits, Bool.and_eq_true] at h
  simp at h
  omega
theorem wf_u64 {i : Int} (h : (Lit.int .u64 i).wf = true) : 0 ≤ i ∧ i < 18446744073709551616 := by
  simp only [Lit.wf, IntKind.min, IntKind.max, IntKind.signed, IntKind.bits, Bool.and_eq_true] at h
  simp at h
  omega
theorem wf_i64 {i : Int} (h : (Lit.int .i64 i).wf = true) : (-9223372036854775808) ≤ i ∧ i < 9223372036854775808 := by
  simp only [Lit.wf, IntKind.min, IntKind.max, IntKind.signed, IntKind.bits, Bool.and_eq_true] at h
  simp at h
  omega
structure TOut_R (x : TOut) : Prop where
  Commit : (0 ≤ x.Commit ∧ x.Commit < 18446744073709551616)
  Point_a0 : (0 ≤ x.Point_a0 ∧ x.Point_a0 < 18446744073709551616)
  Point_a1 : (0 ≤ x.Point_a1 ∧ x.Point_a1 < 18446744073709551616)
  Cipher : (x.Cipher.length ≤ 9223372036854775807 ∧ ∀ y ∈ x.Cipher, (0 ≤ y ∧ y < 18446744073709551616))
structure TTx_R (x : TTx) : Prop where
  Anchor : (0 ≤ x.Anchor ∧ x.Anchor < 18446744073709551616)
  Marks : (x.Marks.length ≤ 9223372036854775807 ∧ ∀ y ∈ x.Marks, (0 ≤ y ∧ y < 18446744073709551616))
  Outs : (x.Outs.length ≤ 9223372036854775807 ∧ ∀ y ∈ x.Outs, TOut_R y)
  Deposit : (0 ≤ x.Deposit ∧ x.Deposit < 18446744073709551616)
  Withdraw : (0 ≤ x.Withdraw ∧ x.Withdraw < 18446744073709551616)
  Fee : (0 ≤ x.Fee ∧ x.Fee < 18446744073709551616)
  Account : (0 ≤ x.Account ∧ x.Account < 18446744073709551616)
  Nonce : (0 ≤ x.Nonce ∧ x.Nonce < 18446744073709551616)
  Expiry : ((-9223372036854775808) ≤ x.Expiry ∧ x.Expiry < 9223372036854775808)
  Proof : (x.Proof.length ≤ 9223372036854775807 ∧ ∀ y ∈ x.Proof, (0 ≤ y ∧ y < 256))
theorem op22 {H : Type} {k : Nat} {ds : List D} {d : DataW H} (h : RelH Try.prog (k + 1) 22 ds d) : ∃ x : Int, ds = [D.int .u64 x] ∧ (0 ≤ x ∧ x < 18446744073709551616) := by
  obtain ⟨i, rfl, _, w⟩ := relH_int (q := .u64) (show Try.prog.underlying 22 = some (.int .u64) by kernel_rfl) h
  exact ⟨i, rfl, wf_u64 w⟩
theorem op23 {H : Type} {k : Nat} {ds : List D} {d : DataW H} (h : RelH Try.prog (k + 2) 23 ds d) : ∃ x : List Int, ds = [D.slice 1 (x.map (D.int .u64))] ∧ (x.length ≤ 9223372036854775807 ∧ ∀ y ∈ x, (0 ≤ y ∧ y < 18446744073709551616)) := by
  obtain ⟨l, rfl, hm, hl⟩ := relH_slice (D.int .u64) (fun y => (0 ≤ y ∧ y < 18446744073709551616)) 1 (show Try.prog.underlying 23 = some (.slice 22) by kernel_rfl) (by kernel_rfl) h (fun x y hh => by
    obtain ⟨a, e, ha⟩ := op22 (k := k + 0) hh
    exact ⟨a, mk_one (by kernel_rfl) e, ha⟩)
  exact ⟨l, rfl, ⟨hm, hl⟩⟩
structure TA2_R (x : TA2) : Prop where
  a0 : (0 ≤ x.a0 ∧ x.a0 < 18446744073709551616)
  a1 : (0 ≤ x.a1 ∧ x.a1 < 18446744073709551616)
theorem op52 {H : Type} {k : Nat} {ds : List D} {d : DataW H} (h : RelH Try.prog (k + 2) 52 ds d) : ∃ x : TA2, ds = (encTA2 x).cells ∧ TA2_R x := by
  obtain ⟨ps, rfl, h1⟩ := relH_array (n := 2) (e := 22) (L := [(22, 0), (22, 1)]) (show Try.prog.underlying 52 = some (.array 2 22) by kernel_rfl) (by kernel_rfl) h
  obtain ⟨_, _, _, _, g0, ⟨_, _, _, _, g1, ⟨rfl, rfl⟩, rfl, rfl⟩, rfl, rfl⟩ := h1
  obtain ⟨a0, rfl, r0⟩ := op22 (k := k + 0) g0
  obtain ⟨a1, rfl, r1⟩ := op22 (k := k + 0) g1
  exact ⟨⟨a0, a1⟩, rfl, ⟨r0, r1⟩⟩
theorem op54 {H : Type} {k : Nat} {ds : List D} {d : DataW H} (h : RelH Try.prog (k + 3) 54 ds d) : ∃ x : TOut, ds = (encTOut x).cells ∧ TOut_R x := by
  obtain ⟨ps, rfl, h1⟩ := relH_struct (L := [(22, 0), (52, 1), (23, 3)]) (Try.underlying54) (by kernel_rfl) h
  obtain ⟨_, _, _, _, g0, ⟨_, _, _, _, g1, ⟨_, _, _, _, g2, ⟨rfl, rfl⟩, rfl, rfl⟩, rfl, rfl⟩, rfl, rfl⟩ := h1
  obtain ⟨a0, rfl, r0⟩ := op22 (k := k + 1) g0
  obtain ⟨a1, rfl, r1⟩ := op52 (k := k + 0) g1
  obtain ⟨a2, rfl, r2⟩ := op23 (k := k + 0) g2
  exact ⟨⟨a0, a1.a0, a1.a1, a2⟩, rfl, ⟨r0, r1.a0, r1.a1, r2⟩⟩
theorem op24 {H : Type} {k : Nat} {ds : List D} {d : DataW H} (h : RelH Try.prog (k + 4) 24 ds d) : ∃ x : List TOut, ds = [D.slice 4 (x.map encTOut)] ∧ (x.length ≤ 9223372036854775807 ∧ ∀ y ∈ x, TOut_R y) := by
  obtain ⟨l, rfl, hm, hl⟩ := relH_slice encTOut (fun y => TOut_R y) 4 (show Try.prog.underlying 24 = some (.slice 54) by kernel_rfl) (by kernel_rfl) h (fun x y hh => by
    obtain ⟨a, e, ha⟩ := op54 (k := k + 0) hh
    exact ⟨a, mk_agg (by kernel_rfl) e, ha⟩)
  exact ⟨l, rfl, ⟨hm, hl⟩⟩
theorem op3 {H : Type} {k : Nat} {ds : List D} {d : DataW H} (h : RelH Try.prog (k + 1) 3 ds d) : ∃ x : Int, ds = [D.int .i64 x] ∧ ((-9223372036854775808) ≤ x ∧ x < 9223372036854775808) := by
  obtain ⟨i, rfl, _, w⟩ := relH_int (q := .i64) (show Try.prog.underlying 3 = some (.int .i64) by kernel_rfl) h
  exact ⟨i, rfl, wf_i64 w⟩
theorem op5 {H : Type} {k : Nat} {ds : List D} {d : DataW H} (h : RelH Try.prog (k + 1) 5 ds d) : ∃ x : Int, ds = [D.int .u8 x] ∧ (0 ≤ x ∧ x < 256) := by
  obtain ⟨i, rfl, _, w⟩ := relH_int (q := .u8) (show Try.prog.underlying 5 = some (.int .u8) by kernel_rfl) h
  exact ⟨i, rfl, wf_u8 w⟩
theorem op25 {H : Type} {k : Nat} {ds : List D} {d : DataW H} (h : RelH Try.prog (k + 2) 25 ds d) : ∃ x : List Int, ds = [D.slice 1 (x.map (D.int .u8))] ∧ (x.length ≤ 9223372036854775807 ∧ ∀ y ∈ x, (0 ≤ y ∧ y < 256)) := by
  obtain ⟨l, rfl, hm, hl⟩ := relH_slice (D.int .u8) (fun y => (0 ≤ y ∧ y < 256)) 1 (show Try.prog.underlying 25 = some (.slice 5) by kernel_rfl) (by kernel_rfl) h (fun x y hh => by
    obtain ⟨a, e, ha⟩ := op5 (k := k + 0) hh
    exact ⟨a, mk_one (by kernel_rfl) e, ha⟩)
  exact ⟨l, rfl, ⟨hm, hl⟩⟩
theorem op27 {H : Type} {k : Nat} {ds : List D} {d : DataW H} (h : RelH Try.prog (k + 5) 27 ds d) : ∃ x : TTx, ds = (encTTx x).cells ∧ TTx_R x := by
  obtain ⟨ps, rfl, h1⟩ := relH_struct (L := [(22, 0), (23, 1), (24, 2), (22, 3), (22, 4), (22, 5), (22, 6), (22, 7), (3, 8), (25, 9)]) (Try.underlying27) (by kernel_rfl) h
  obtain ⟨_, _, _, _, g0, ⟨_, _, _, _, g1, ⟨_, _, _, _, g2, ⟨_, _, _, _, g3, ⟨_, _, _, _, g4, ⟨_, _, _, _, g5, ⟨_, _, _, _, g6, ⟨_, _, _, _, g7, ⟨_, _, _, _, g8, ⟨_, _, _, _, g9, ⟨rfl, rfl⟩, rfl, rfl⟩, rfl, rfl⟩, rfl, rfl⟩, rfl, rfl⟩, rfl, rfl⟩, rfl, rfl⟩, rfl, rfl⟩, rfl, rfl⟩, rfl, rfl⟩, rfl, rfl⟩ := h1
  obtain ⟨a0, rfl, r0⟩ := op22 (k := k + 3) g0
  obtain ⟨a1, rfl, r1⟩ := op23 (k := k + 2) g1
  obtain ⟨a2, rfl, r2⟩ := op24 (k := k + 0) g2
  obtain ⟨a3, rfl, r3⟩ := op22 (k := k + 3) g3
  obtain ⟨a4, rfl, r4⟩ := op22 (k := k + 3) g4
  obtain ⟨a5, rfl, r5⟩ := op22 (k := k + 3) g5
  obtain ⟨a6, rfl, r6⟩ := op22 (k := k + 3) g6
  obtain ⟨a7, rfl, r7⟩ := op22 (k := k + 3) g7
  obtain ⟨a8, rfl, r8⟩ := op3 (k := k + 3) g8
  obtain ⟨a9, rfl, r9⟩ := op25 (k := k + 2) g9
  exact ⟨⟨a0, a1, a2, a3, a4, a5, a6, a7, a8, a9⟩, rfl, ⟨r0, r1, r2, r3, r4, r5, r6, r7, r8, r9⟩⟩
theorem dt5 : dataT Try.prog 1 5 = true := by kernel_rfl
theorem dt25 : dataT Try.prog 2 25 = true := by kernel_rfl
theorem dt27 : dataT Try.prog 5 27 = true := by kernel_rfl
theorem own : ownKnob Try.prog.godebug = none := by kernel_rfl
theorem laid : laidOutB Try.prog = true := by kernel_rfl
end Go.Proofs.Ytdbnagpoknmoiaa
namespace Go.Md
open Go Go.Bv
theorem u64w (n : Int) : IntKind.u64.wrap n = n % 18446744073709551616 := IntKind.wrap_u64 n
theorem u8w (n : Int) : IntKind.u8.wrap n = n % 256 := IntKind.wrap_u8 n
theorem ishr_def (k : IntKind) (a b : Int) : ishr k a b = a / ((2 ^ min b.toNat k.bits : Nat) : Int) := by
  unfold ishr
  rw [show (2 : Int) ^ min b.toNat k.bits = ((2 ^ min b.toNat k.bits : Nat) : Int) from (Int.natCast_pow 2 _).symm, Int.fdiv_eq_ediv_of_nonneg _ (Int.natCast_nonneg _)]
theorem ishl_u64 (a b : Int) : ishl .u64 a b = (a * ((2 ^ min b.toNat 64 : Nat) : Int)) % 18446744073709551616 := by
  unfold ishl
  rw [u64w, show (2 : Int) ^ min b.toNat IntKind.u64.bits = ((2 ^ min b.toNat 64 : Nat) : Int) by rw [show IntKind.u64.bits = 64 from rfl]; exact (Int.natCast_pow 2 _).symm]
theorem bv_of_nat (n : Nat) (h : n < 18446744073709551616) : (BitVec.ofInt 64 (n : Int)).toNat = n := by
  rw [BitVec.toNat_ofInt]
  omega
theorem iand_nat (a b : Nat) (ha : a < 18446744073709551616) (hb : b < 18446744073709551616) : iand .u64 a b = ((a &&& b : Nat) : Int) := by
  unfold iand
  rw [u64w]
  show (((BitVec.ofInt 64 a &&& BitVec.ofInt 64 b).toNat : Nat) : Int) % _ = _
  rw [BitVec.toNat_and, bv_of_nat a ha, bv_of_nat b hb]
  have := Nat.and_le_left (n := a) (m := b)
  omega
theorem ior_nat (a b : Nat) (ha : a < 18446744073709551616) (hb : b < 18446744073709551616) : ior .u64 a b = ((a ||| b : Nat) : Int) := by
  unfold ior
  rw [u64w]
  show (((BitVec.ofInt 64 a ||| BitVec.ofInt 64 b).toNat : Nat) : Int) % _ = _
  rw [BitVec.toNat_or, bv_of_nat a ha, bv_of_nat b hb]
  have := Nat.or_lt_two_pow (x := a) (y := b) (n := 64) (by omega) (by omega)
  omega
theorem iand_mask32 (a : Int) (h : 0 ≤ a ∧ a < 18446744073709551616) : iand .u64 a 4294967295 = a % 4294967296 := by
  obtain ⟨n, rfl⟩ := Int.eq_ofNat_of_zero_le h.1
  have := iand_nat n 4294967295 (by omega) (by omega)
  rw [show ((4294967295 : Nat) : Int) = 4294967295 from rfl] at this
  rw [this, show (4294967295 : Nat) = 2 ^ 32 - 1 from rfl, Nat.and_two_pow_sub_one_eq_mod]
  exact Int.natCast_emod _ _
theorem iand_one (a : Int) (h : 0 ≤ a ∧ a < 18446744073709551616) : iand .u64 a 1 = a % 2 := by
  obtain ⟨n, rfl⟩ := Int.eq_ofNat_of_zero_le h.1
  have := iand_nat n 1 (by omega) (by omega)
  rw [show ((1 : Nat) : Int) = 1 from rfl] at this
  rw [this, Nat.and_one_is_mod]
  exact Int.natCast_emod _ _
theorem ior_add (a c : Nat) (k : Nat) (ha : a < 2 ^ k) (h : a + 2 ^ k * c < 18446744073709551616) : ior .u64 a ((2 ^ k * c : Nat) : Int) = ((a + 2 ^ k * c : Nat) : Int) := by
  rw [ior_nat _ _ (by omega) (by omega), Nat.or_comm, ← Nat.two_pow_add_eq_or_of_lt ha, Nat.add_comm]
theorem ior_add' (a c : Nat) (k : Nat) (ha : a < 2 ^ k) (h : a + 2 ^ k * c < 18446744073709551616) : ior .u64 ((2 ^ k * c : Nat) : Int) a = ((a + 2 ^ k * c : Nat) : Int) := by
  rw [ior_nat _ _ (by omega) (by omega), ← Nat.two_pow_add_eq_or_of_lt ha, Nat.add_comm]
theorem ishr32 (a : Int) : ishr .u64 a 32 = a / 4294967296 := ishr_def _ _ _
theorem ishr16 (a : Int) : ishr .u64 a 16 = a / 65536 := ishr_def _ _ _
theorem ishr8 (a : Int) : ishr .u64 a 8 = a / 256 := ishr_def _ _ _
theorem ishr1 (a : Int) : ishr .u64 a 1 = a / 2 := ishr_def _ _ _
theorem mul64_hi (a b : Int) (ha : 0 ≤ a ∧ a < 18446744073709551616) (hb : 0 ≤ b ∧ b < 18446744073709551616) :
    ((a / 4294967296 * (b / 4294967296) + ((a / 4294967296 * (b % 4294967296) + a % 4294967296 * (b % 4294967296) / 4294967296) / 4294967296)) + ((a / 4294967296 * (b % 4294967296) + a % 4294967296 * (b % 4294967296) / 4294967296) % 4294967296 + a % 4294967296 * (b / 4294967296)) / 4294967296) = a * b / 18446744073709551616 ∧
    a % 4294967296 * (b % 4294967296) < 18446744073709551616 ∧ a / 4294967296 * (b % 4294967296) + a % 4294967296 * (b % 4294967296) / 4294967296 < 18446744073709551616 ∧
    a % 4294967296 * (b / 4294967296) < 18446744073709551616 - 4294967296 ∧ a / 4294967296 * (b / 4294967296) < 18446744065119617026 ∧ 0 ≤ a % 4294967296 * (b % 4294967296) ∧ 0 ≤ a / 4294967296 * (b % 4294967296) ∧ 0 ≤ a % 4294967296 * (b / 4294967296) ∧ 0 ≤ a / 4294967296 * (b / 4294967296) := by
  have h1 : ∀ x y : Int, 0 ≤ x → x ≤ 4294967295 → 0 ≤ y → y ≤ 4294967295 → 0 ≤ x * y ∧ x * y ≤ 18446744065119617025 := by
    intro x y h0 h1 h2 h3
    exact ⟨Int.mul_nonneg h0 h2, by have := Int.mul_le_mul h1 h3 h2 (by omega); omega⟩
  have a1 := h1 (a % 4294967296) (b % 4294967296) (by omega) (by omega) (by omega) (by omega)
  have a2 := h1 (a / 4294967296) (b % 4294967296) (by omega) (by omega) (by omega) (by omega)
  have a3 := h1 (a % 4294967296) (b / 4294967296) (by omega) (by omega) (by omega) (by omega)
  have a4 := h1 (a / 4294967296) (b / 4294967296) (by omega) (by omega) (by omega) (by omega)
  have e : a * b = a / 4294967296 * (b / 4294967296) * 18446744073709551616 + (a / 4294967296 * (b % 4294967296) + a % 4294967296 * (b / 4294967296)) * 4294967296 + a % 4294967296 * (b % 4294967296) := by
    have ea : a = a / 4294967296 * 4294967296 + a % 4294967296 := by omega
    have eb : b = b / 4294967296 * 4294967296 + b % 4294967296 := by omega
    conv => lhs; rw [ea, eb]
    generalize a / 4294967296 = x
    generalize a % 4294967296 = y
    generalize b / 4294967296 = z
    generalize b % 4294967296 = t
    grind
  generalize a % 4294967296 * (b % 4294967296) = p0 at *
  generalize a / 4294967296 * (b % 4294967296) = p1 at *
  generalize a % 4294967296 * (b / 4294967296) = p2 at *
  generalize a / 4294967296 * (b / 4294967296) = p3 at *
  generalize a * b = ab at *
  refine ⟨?_, ?_, ?_, ?_, ?_, ?_, ?_, ?_, ?_⟩ <;> omega
structure Half (U x a b Q : Int) : Prop where
  hU : 0 ≤ U
  hUv : U < a * 4294967296 + b
  hx : 0 ≤ x ∧ x < 4294967296
  ha : 2147483648 ≤ a ∧ a < 4294967296
  hb : 0 ≤ b ∧ b < 4294967296
  hQ : Q = (U * 4294967296 + x) / (a * 4294967296 + b)
theorem Half.q {U x a b Q : Int} (h : Half U x a b Q) : 0 ≤ Q ∧ Q < 4294967296 ∧ Q * (a * 4294967296 + b) ≤ U * 4294967296 + x ∧ U * 4294967296 + x < (Q + 1) * (a * 4294967296 + b) := by
  obtain ⟨h1, h2, h3, h4, h5, h6⟩ := h
  have hv : 0 < a * 4294967296 + b := by omega
  have e := Int.emod_add_mul_ediv (U * 4294967296 + x) (a * 4294967296 + b)
  have l := Int.emod_nonneg (U * 4294967296 + x) (by omega : a * 4294967296 + b ≠ 0)
  have r := Int.emod_lt_of_pos (U * 4294967296 + x) hv
  rw [← h6] at e
  generalize hvv : a * 4294967296 + b = v at *
  have e2 : (Q + 1) * v = Q * v + v := by grind
  have e3 : v * Q = Q * v := by grind
  have q0 : 0 ≤ Q := by
    rw [h6]
    exact Int.ediv_nonneg (by omega) (by omega)
  have q1 : Q < 4294967296 := by
    rw [h6]
    exact Int.ediv_lt_of_lt_mul hv (by omega)
  refine ⟨q0, q1, by omega, by omega⟩
theorem Half.exit {U x a b Q q r : Int} (h : Half U x a b Q) (e : q * a + r = U) (hq : Q ≤ q) (h2 : q * b ≤ r * 4294967296 + x) : q = Q := by
  obtain ⟨q0, q1, q2, q3⟩ := h.q
  have h4 := h.ha
  have : q * (a * 4294967296 + b) ≤ U * 4294967296 + x := by
    have : q * (a * 4294967296 + b) = q * a * 4294967296 + q * b := by grind
    rw [this]
    generalize q * a = qa at *
    omega
  have h5 : q < Q + 1 := by
    have hv : 0 < a * 4294967296 + b := by have := h.hb; omega
    exact Int.lt_of_mul_lt_mul_right (by omega) (Int.le_of_lt hv)
  omega
theorem Half.down {U x a b Q q r : Int} (h : Half U x a b Q) (e : q * a + r = U) (h2 : 4294967296 ≤ q ∨ r * 4294967296 + x < q * b) : Q ≤ q - 1 := by
  obtain ⟨q0, q1, q2, q3⟩ := h.q
  rcases h2 with h2 | h2
  · omega
  · have : U * 4294967296 + x < q * (a * 4294967296 + b) := by
      have : q * (a * 4294967296 + b) = q * a * 4294967296 + q * b := by grind
      rw [this]
      generalize q * a = qa at *
      omega
    have h5 : Q < q := by
      have hv : 0 < a * 4294967296 + b := by have := h.hb; have := h.ha; omega
      exact Int.lt_of_mul_lt_mul_right (a := a * 4294967296 + b) (by omega) (Int.le_of_lt hv)
    omega
theorem Half.small {U x a b Q q r : Int} (h : Half U x a b Q) (e : q * a + r = U) (hr : 4294967296 ≤ r) : q < 4294967296 := by
  have h2 := h.hUv
  have h4 := h.ha
  have h5 := h.hb
  have : q * a < 4294967296 * a := by generalize q * a = qa at *; omega
  exact Int.lt_of_mul_lt_mul_right this (by omega)
theorem Half.done {U x a b Q q r : Int} (h : Half U x a b Q) (e : q * a + r = U) (hq : Q ≤ q) (hr : 4294967296 ≤ r) : q = Q := by
  refine h.exit e hq ?_
  have h1 := h.small e hr
  obtain ⟨q0, _⟩ := h.q
  have h5 := h.hb
  have h6 := h.hx
  have : q * b ≤ 4294967296 * 4294967296 := Int.mul_le_mul (by omega) (by omega) (by omega) (by omega)
  omega
theorem Half.rest {U x a b Q : Int} (h : Half U x a b Q) : (U * 4294967296 + x) - Q * (a * 4294967296 + b) = (U * 4294967296 + x) % (a * 4294967296 + b) ∧ 0 ≤ (U * 4294967296 + x) % (a * 4294967296 + b) ∧ (U * 4294967296 + x) % (a * 4294967296 + b) < a * 4294967296 + b := by
  have hv : 0 < a * 4294967296 + b := by have := h.hb; have := h.ha; omega
  have e := Int.emod_add_mul_ediv (U * 4294967296 + x) (a * 4294967296 + b)
  rw [← h.hQ] at e
  have := Int.mul_comm (a * 4294967296 + b) Q
  exact ⟨by omega, Int.emod_nonneg _ (by omega), Int.emod_lt_of_pos _ hv⟩
theorem two_halves {N y p U un1 un0 Q1 R1 Q0 R0 : Int} (hp : 0 < p) (hy : 0 < y) (hN : N * p = U * 18446744073709551616 + un1 * 4294967296 + un0) (h1 : U * 4294967296 + un1 - Q1 * (y * p) = R1) (h0 : R1 * 4294967296 + un0 - Q0 * (y * p) = R0)
    (hr : 0 ≤ R0 ∧ R0 < y * p) : Q1 * 4294967296 + Q0 = N / y ∧ R0 / p = N % y := by
  have e : N * p = (Q1 * 4294967296 + Q0) * (y * p) + R0 := by
    rw [hN]
    have : (Q1 * 4294967296 + Q0) * (y * p) = Q1 * (y * p) * 4294967296 + Q0 * (y * p) := by grind
    rw [this]
    generalize Q1 * (y * p) = a at *
    generalize Q0 * (y * p) = b at *
    omega
  have e2 : R0 = (N - (Q1 * 4294967296 + Q0) * y) * p := by grind
  have h3 : 0 ≤ N - (Q1 * 4294967296 + Q0) * y := by
    rcases Int.lt_or_le (N - (Q1 * 4294967296 + Q0) * y) 0 with h | h
    · exfalso
      have : (N - (Q1 * 4294967296 + Q0) * y) * p < 0 := Int.mul_neg_of_neg_of_pos h hp
      omega
    · exact h
  have h4 : N - (Q1 * 4294967296 + Q0) * y < y := by
    refine Int.lt_of_mul_lt_mul_right (a := p) ?_ (Int.le_of_lt hp)
    omega
  have e3 : N = (N - (Q1 * 4294967296 + Q0) * y) + y * (Q1 * 4294967296 + Q0) := by grind
  constructor
  · conv => rhs; rw [e3]
    rw [Int.add_mul_ediv_left _ _ (by omega), Int.ediv_eq_zero_of_lt h3 h4]
    omega
  · rw [e2, Int.mul_ediv_cancel _ (by omega)]
    conv => rhs; rw [e3]
    rw [Int.add_mul_emod_self_left, Int.emod_eq_of_lt h3 h4]
end Go.Md
namespace Go.Md
open Go Go.Bv
theorem ix_nat {α : Type} [Inhabited α] (l : List α) (i : Int) (h0 : 0 ≤ i) (h1 : i < (l.length : Int)) : ix l i = l[i.toNat]'(by omega) := by
  have : i.toNat < l.length := by omega
  simp [ix, this]
theorem ix_mem {α : Type} [Inhabited α] (l : List α) (i : Int) (h0 : 0 ≤ i) (h1 : i < (l.length : Int)) : ix l i ∈ l := by
  rw [ix_nat l i h0 h1]; exact List.getElem_mem _
theorem inc (i n : Int) (h0 : 0 ≤ i) (h : i < n) (hn : n ≤ 9223372036854775807) : IntKind.i64.wrap (i + 1) = i + 1 := wrap_i64 _ (by omega) (by omega)
theorem wi (n : Int) (h0 : -9223372036854775808 ≤ n) (h : n ≤ 9223372036854775807) : IntKind.i64.wrap n = n := wrap_i64 n h0 (by omega)
theorem wu (n : Int) (h0 : 0 ≤ n) (h : n ≤ 18446744073709551615) : IntKind.u64.wrap n = n := wrap_u64 n h0 (by omega)
theorem tdiv_nn (a b : Int) (h : 0 ≤ a) : Int.tdiv a b = a / b := Int.tdiv_eq_ediv_of_nonneg h
theorem tmod_nn (a b : Int) (h : 0 ≤ a) : Int.tmod a b = a % b := Int.tmod_eq_emod_of_nonneg h
theorem take_succ_ix {α : Type} [Inhabited α] (l : List α) (i : Int) (h0 : 0 ≤ i) (h1 : i < (l.length : Int)) : l.take (i + 1).toNat = l.take i.toNat ++ [ix l i] := by
  rw [ix_nat l i h0 h1, show (i + 1).toNat = i.toNat + 1 by omega, List.take_succ_eq_append_getElem (by omega)]
theorem drop_ix {α : Type} [Inhabited α] (l : List α) (i : Int) (h0 : 0 ≤ i) (h1 : i < (l.length : Int)) : l.drop i.toNat = ix l i :: l.drop (i + 1).toNat := by
  rw [ix_nat l i h0 h1, show (i + 1).toNat = i.toNat + 1 by omega]
  exact List.drop_eq_getElem_cons (by omega)
theorem rowOver_all {α : Type} (l m : List α) (h : l.length = m.length) : rowOver l m l.length = m := by
  simp [rowOver, h]
theorem emod_pow (a m : Int) : ∀ k : Nat, (a % m) ^ k % m = a ^ k % m
  | 0 => by simp
  | k + 1 => by rw [Int.pow_succ, Int.pow_succ, Int.mul_emod, emod_pow a m k, Int.emod_emod_of_dvd _ (Int.dvd_refl _), ← Int.mul_emod]
abbrev U64 (n : Int) : Prop := 0 ≤ n ∧ n < 18446744073709551616
abbrev By (l : List Int) : Prop := ∀ x ∈ l, 0 ≤ x ∧ x < 256
abbrev Us (l : List Int) : Prop := ∀ x ∈ l, 0 ≤ x ∧ x < 18446744073709551616
def dig : Nat → Int → List Int
  | 0, _ => []
  | k + 1, n => n % 256 :: dig k (n / 256)
def val : List Int → Int
  | [] => 0
  | x :: r => x + 256 * val r
@[simp] theorem dig_length : ∀ (k : Nat) (n : Int), (dig k n).length = k
  | 0, _ => rfl
  | k + 1, n => by simp [dig, dig_length k]
theorem pow256_succ (k : Nat) : (256 : Int) ^ (k + 1) = 256 * 256 ^ k := by rw [Int.pow_succ, Int.mul_comm]
theorem pow256_pos (k : Nat) : (0 : Int) < 256 ^ k := Int.pow_pos (by omega)
theorem dig_snoc : ∀ (k : Nat) (n : Int), dig (k + 1) n = dig k n ++ [n / 256 ^ k % 256]
  | 0, n => by simp [dig]
  | k + 1, n => by
    show n % 256 :: dig (k + 1) (n / 256) = n % 256 :: dig k (n / 256) ++ _
    rw [dig_snoc k (n / 256), pow256_succ, Int.ediv_ediv_of_nonneg (by omega)]
    rfl
theorem dig_by : ∀ (k : Nat) (n : Int), By (dig k n)
  | 0, _ => by intro x hx; cases hx
  | k + 1, n => by
    intro x hx
    rcases List.mem_cons.1 hx with rfl | hx
    · omega
    · exact dig_by k _ x hx
theorem val_dig : ∀ (k : Nat) (n : Int), 0 ≤ n → n < 256 ^ k → val (dig k n) = n
  | 0, n, h0, h => by simp at h; simp [dig, val]; omega
  | k + 1, n, h0, h => by
    rw [pow256_succ] at h
    simp only [dig, val]
    rw [val_dig k (n / 256) (by omega) (Int.ediv_lt_of_lt_mul (by omega) (by rw [Int.mul_comm]; exact h))]
    omega
theorem pow256_cast (k : Nat) : (256 : Int) ^ k = ((2 ^ (8 * k) : Nat) : Int) := by rw [Nat.pow_mul, Int.natCast_pow]; rfl
theorem pow256_le {k m : Nat} (h : k ≤ m) : (256 : Int) ^ k ≤ 256 ^ m := by
  rw [pow256_cast, pow256_cast]
  exact Int.ofNat_le.2 (Nat.pow_le_pow_right (by omega) (by omega))
theorem val_bound : ∀ (l : List Int), By l → 0 ≤ val l ∧ val l < 256 ^ l.length
  | [], _ => by simp [val]
  | x :: r, h => by
    have h1 := val_bound r (fun y hy => h y (by simp [hy]))
    have h2 := h x (by simp)
    rw [List.length_cons, pow256_succ]
    simp only [val]
    omega
theorem dig_val : ∀ (l : List Int), By l → dig l.length (val l) = l
  | [], _ => rfl
  | x :: r, h => by
    have h1 := dig_val r (fun y hy => h y (by simp [hy]))
    have h2 := h x (by simp)
    simp only [List.length_cons, dig, val]
    rw [show (x + 256 * val r) % 256 = x by omega, show (x + 256 * val r) / 256 = val r by omega, h1]
theorem val_snoc : ∀ (l : List Int) (x : Int), val (l ++ [x]) = val l + 256 ^ l.length * x
  | [], x => by simp [val]
  | y :: r, x => by
    simp only [List.cons_append, val, val_snoc r x, List.length_cons, pow256_succ]
    grind
theorem dig_inj {k : Nat} {a b : Int} (ha : 0 ≤ a ∧ a < 256 ^ k) (hb : 0 ≤ b ∧ b < 256 ^ k) (h : dig k a = dig k b) : a = b := by
  rw [← val_dig k a ha.1 ha.2, h, val_dig k b hb.1 hb.2]
theorem val8 (l : List Int) (h : By l) (hl : l.length ≤ 8) : U64 (val l) := by
  have h1 := val_bound l h
  have : (256 : Int) ^ l.length ≤ 256 ^ 8 := pow256_le hl
  exact ⟨h1.1, by omega⟩
theorem ior_val (l : List Int) (x : Int) (hl : By l) (h8 : l.length < 8) (hx : 0 ≤ x ∧ x < 256) : ior .u64 (val l) (ishl .u64 x (8 * (l.length : Int))) = val (l ++ [x]) := by
  have h1 := val_bound l hl
  rw [val_snoc, ishl_u64, show min (8 * (l.length : Int)).toNat 64 = 8 * l.length by omega, ← pow256_cast]
  have h2 : x * 256 ^ l.length + 256 ^ l.length ≤ 256 * 256 ^ l.length := by
    have := pow256_pos l.length
    have : (x + 1) * 256 ^ l.length ≤ 256 * 256 ^ l.length := Int.mul_le_mul_of_nonneg_right (by omega) (by omega)
    grind
  have h3 : (256 : Int) * 256 ^ l.length ≤ 256 ^ 8 := by rw [← pow256_succ]; exact pow256_le (by omega)
  have h4 : 0 ≤ x * 256 ^ l.length := Int.mul_nonneg hx.1 (Int.le_of_lt (pow256_pos _))
  rw [Int.emod_eq_of_lt h4 (by omega)]
  obtain ⟨a, ha⟩ := Int.eq_ofNat_of_zero_le h1.1
  obtain ⟨c, hc⟩ := Int.eq_ofNat_of_zero_le hx.1
  have key := ior_add a c (8 * l.length)
  rw [pow256_cast] at h1 h2 h3 h4 ⊢
  generalize 2 ^ (8 * l.length) = P at *
  rw [ha] at h1
  rw [hc] at h2 h4
  have e : (c : Int) * (P : Int) = ((P * c : Nat) : Int) := by rw [Nat.mul_comm]; exact (Int.natCast_mul _ _).symm
  have e' : (P : Int) * (c : Int) = ((P * c : Nat) : Int) := (Int.natCast_mul _ _).symm
  rw [e] at h2 h4
  rw [ha, hc, e, e']
  generalize P * c = R at *
  rw [key (by omega) (by omega)]
  exact Int.natCast_add _ _
def len4 (n : Int) : Int := if n < 0 ∨ 4294967295 < n then 0 else n
theorem len4_in {n : Int} (h : 0 ≤ n ∧ n ≤ 4294967295) : len4 n = n := if_neg (by omega)
theorem len4_bd (n : Int) : 0 ≤ len4 n ∧ len4 n < 4294967296 := by unfold len4; split <;> omega
def encL (l : List Int) : List Int := dig 4 (len4 l.length) ++ l.flatMap (dig 8)
def encB (l : List Int) : List Int := dig 4 (len4 l.length) ++ l
theorem flat8_length (l : List Int) : (l.flatMap (dig 8)).length = 8 * l.length := by
  induction l with
  | nil => rfl
  | cons x r ih => rw [List.flatMap_cons, List.length_append, ih, dig_length, List.length_cons]; omega
@[simp] theorem encL_length (l : List Int) : (encL l).length = 4 + 8 * l.length := by rw [encL, List.length_append, flat8_length, dig_length]
@[simp] theorem encB_length (l : List Int) : (encB l).length = 4 + l.length := by simp [encB]
theorem By.append {a b : List Int} (ha : By a) (hb : By b) : By (a ++ b) := fun x hx => (List.mem_append.1 hx).elim (ha x) (hb x)
theorem flat8_by (l : List Int) : By (l.flatMap (dig 8)) := fun x hx => by
  obtain ⟨y, _, hy⟩ := List.mem_flatMap.1 hx
  exact dig_by 8 y x hy
theorem encL_by (l : List Int) : By (encL l) := (dig_by _ _).append (flat8_by l)
theorem encB_by {l : List Int} (h : By l) : By (encB l) := (dig_by _ _).append h
theorem By.take {l : List Int} (h : By l) (n : Nat) : By (l.take n) := fun x hx => h x (List.mem_of_mem_take hx)
theorem By.drop {l : List Int} (h : By l) (n : Nat) : By (l.drop n) := fun x hx => h x (List.mem_of_mem_drop hx)
theorem By.us {l : List Int} (h : By l) : Us l := fun x hx => by have := h x hx; omega
def packN : Nat → List Int → List Int
  | 0, _ => []
  | n + 1, l => match l with
    | [] => []
    | x :: r => val ((x :: r).take 7) :: packN n ((x :: r).drop 7)
def packS (l : List Int) : List Int := (l.length : Int) :: packN l.length l
theorem packN_fuel : ∀ (n m : Nat) (l : List Int), l.length ≤ n → l.length ≤ m → packN n l = packN m l
  | 0, 0, _, _, _ => rfl
  | 0, m + 1, [], _, _ => rfl
  | n + 1, 0, [], _, _ => rfl
  | n + 1, m + 1, [], _, _ => rfl
  | 0, _, _ :: _, h, _ => by simp at h
  | n + 1, 0, _ :: _, _, h => by simp at h
  | n + 1, m + 1, x :: r, h, h' => by
    simp only [packN]
    rw [packN_fuel n m _ (by simp at h ⊢; omega) (by simp at h' ⊢; omega)]
theorem packN_step (n : Nat) (l : List Int) (h : l.length ≤ n) (h0 : l ≠ []) : packN n l = val (l.take 7) :: packN n (l.drop 7) := by
  cases l with
  | nil => exact absurd rfl h0
  | cons x r =>
    cases n with
    | zero => simp at h
    | succ n =>
      show val ((x :: r).take 7) :: packN n ((x :: r).drop 7) = _
      rw [packN_fuel n (n + 1) _ (by simp at h ⊢; omega) (by simp at h ⊢; omega)]
theorem packN_us : ∀ (n : Nat) (l : List Int), By l → Us (packN n l)
  | 0, _, _ => by intro x hx; cases hx
  | n + 1, [], _ => by intro x hx; cases hx
  | n + 1, x :: r, h => by
    intro y hy
    rcases List.mem_cons.1 hy with rfl | hy
    · exact val8 _ (h.take 7) (by simp; omega)
    · exact packN_us n _ (h.drop 7) y hy
theorem packN_length : ∀ (n : Nat) (l : List Int), (packN n l).length ≤ n
  | 0, _ => by simp [packN]
  | n + 1, [] => by simp [packN]
  | n + 1, x :: r => by simp only [packN, List.length_cons]; have := packN_length n ((x :: r).drop 7); omega
end Go.Md
namespace Go.Md
open Go Go.Bv
def len64 (x : Int) : Int := if x = 0 then 0 else (Nat.log2 x.toNat + 1 : Nat)
theorem len64_shift (x : Int) (k : Nat) (h : ((2 ^ k : Nat) : Int) ≤ x) : len64 (x / ((2 ^ k : Nat) : Int)) + k = len64 x := by
  obtain ⟨n, rfl⟩ := Int.eq_ofNat_of_zero_le (by have := Nat.two_pow_pos k; omega : 0 ≤ x)
  have hp : 0 < 2 ^ k := Nat.two_pow_pos k
  have hn : 2 ^ k ≤ n := by omega
  have e : ((n : Int) / ((2 ^ k : Nat) : Int)) = ((n / 2 ^ k : Nat) : Int) := (Int.natCast_ediv _ _).symm
  have h1 : 0 < n / 2 ^ k := Nat.div_pos hn hp
  unfold len64
  rw [e, if_neg (by omega), if_neg (by omega), Int.toNat_natCast, Int.toNat_natCast]
  have : Nat.log2 n = Nat.log2 (n / 2 ^ k) + k := by
    rw [Nat.log2_eq_iff (by omega)]
    have a := Nat.log2_self_le (n := n / 2 ^ k) (by omega)
    have b := Nat.lt_log2_self (n := n / 2 ^ k)
    rw [Nat.le_div_iff_mul_le hp] at a
    rw [Nat.div_lt_iff_lt_mul hp] at b
    constructor
    · rw [Nat.pow_add]; exact a
    · rw [show Nat.log2 (n / 2 ^ k) + k + 1 = Nat.log2 (n / 2 ^ k) + 1 + k by omega, Nat.pow_add]; exact b
  omega
theorem len64_spec (y : Int) (h : 0 < y ∧ y < 18446744073709551616) : ∃ s : Nat, 64 - len64 y = (s : Int) ∧ s ≤ 63 ∧ 9223372036854775808 ≤ y * ((2 ^ s : Nat) : Int) ∧ y * ((2 ^ s : Nat) : Int) < 18446744073709551616 := by
  obtain ⟨n, rfl⟩ := Int.eq_ofNat_of_zero_le (by omega : 0 ≤ y)
  have l : Nat.log2 n < 64 := (Nat.log2_lt (by omega)).2 (by omega)
  have a := Nat.log2_self_le (n := n) (by omega)
  have b := Nat.lt_log2_self (n := n)
  refine ⟨63 - Nat.log2 n, ?_, by omega, ?_, ?_⟩
  · unfold len64
    rw [if_neg (by omega), Int.toNat_natCast]
    omega
  · have : 2 ^ 63 ≤ n * 2 ^ (63 - Nat.log2 n) := by
      rw [show (63 : Nat) = Nat.log2 n + (63 - Nat.log2 n) by omega, Nat.pow_add, show Nat.log2 n + (63 - Nat.log2 n) - Nat.log2 n = 63 - Nat.log2 n by omega]
      exact Nat.mul_le_mul_right _ a
    rw [← Int.natCast_mul]
    generalize n * 2 ^ (63 - Nat.log2 n) = m at *
    omega
  · have : n * 2 ^ (63 - Nat.log2 n) < 2 ^ 64 := by
      rw [show (64 : Nat) = Nat.log2 n + 1 + (63 - Nat.log2 n) by omega, Nat.pow_add]
      exact Nat.mul_lt_mul_of_pos_right b (Nat.two_pow_pos _)
    rw [← Int.natCast_mul]
    generalize n * 2 ^ (63 - Nat.log2 n) = m at *
    omega
def tab8 : ByteArray := ⟨#[0, 1, 2, 2, 3, 3, 3, 3, 4, 4, 4, 4, 4, 4, 4, 4, 5, 5, 5, 5, 5, 5, 5, 5, 5, 5, 5, 5, 5, 5, 5, 5, 6, 6, 6, 6, 6, 6, 6, 6, 6, 6, 6, 6, 6, 6, 6, 6, 6, 6, 6, 6, 6, 6, 6, 6, 6, 6, 6, 6, 6, 6, 6, 6, 7, 7, 7, 7, 7, 7, 7, 7, 7, 7, 7, 7, 7, 7, 7, 7, 7, 7, 7, 7, 7, 7, 7, 7, 7, 7, 7, 7, 7, 7, 7, 7, 7, 7, 7, 7, 7, 7, 7, 7, 7, 7, 7, 7, 7, 7, 7, 7, 7, 7, 7, 7, 7, 7, 7, 7, 7, 7, 7, 7, 7, 7, 7, 7, 8, 8, 8, 8, 8, 8, 8, 8, 8, 8, 8, 8, 8, 8, 8, 8, 8, 8, 8, 8, 8, 8, 8, 8, 8, 8, 8, 8, 8, 8, 8, 8, 8, 8, 8, 8, 8, 8, 8, 8, 8, 8, 8, 8, 8, 8, 8, 8, 8, 8, 8, 8, 8, 8, 8, 8, 8, 8, 8, 8, 8, 8, 8, 8, 8, 8, 8, 8, 8, 8, 8, 8, 8, 8, 8, 8, 8, 8, 8, 8, 8, 8, 8, 8, 8, 8, 8, 8, 8, 8, 8, 8, 8, 8, 8, 8, 8, 8, 8, 8, 8, 8, 8, 8, 8, 8, 8, 8, 8, 8, 8, 8, 8, 8, 8, 8, 8, 8, 8, 8, 8, 8, 8, 8, 8, 8, 8, 8]⟩
theorem tab8_all : ∀ b : Nat, b < 256 → Cv.byteAt tab8 (b : Int) = len64 (b : Int) := by decide +kernel
theorem tab8_len (x : Int) (h : 0 ≤ x ∧ x < 256) : Cv.byteAt tab8 x = len64 x := by
  obtain ⟨n, rfl⟩ := Int.eq_ofNat_of_zero_le h.1
  exact tab8_all n (by omega)
theorem len64_small (x : Int) (h : 0 ≤ x ∧ x < 256) : 0 ≤ len64 x ∧ len64 x ≤ 8 := by
  rw [← tab8_len x h]
  obtain ⟨n, rfl⟩ := Int.eq_ofNat_of_zero_le h.1
  have : ∀ b : Nat, b < 256 → 0 ≤ Cv.byteAt tab8 (b : Int) ∧ Cv.byteAt tab8 (b : Int) ≤ 8 := by decide +kernel
  exact this n (by omega)
theorem tab8_size : tab8.size = 256 := by decide +kernel
end Go.Md
namespace Go.Proofs.Ytdbnagpoknmoiaa
open Go Go.Bv Go.Cv Go.Md Go.RowKit
def rc (r i : Int) : Int := (3 * r + i + 1) * 11400714819323198485 % 18446744073709551616 % 18446744069414584321
def mixS (s : TA3) : TA3 := ⟨(s.a0 + ((s.a0 + s.a1) % 18446744069414584321 + s.a2) % 18446744069414584321) % 18446744069414584321, (s.a1 + ((s.a0 + s.a1) % 18446744069414584321 + s.a2) % 18446744069414584321) % 18446744069414584321, (s.a2 + ((s.a0 + s.a1) % 18446744069414584321 + s.a2) % 18446744069414584321) % 18446744069414584321⟩
def pw (a e : Int) : Int := a ^ e.toNat % 18446744069414584321
def rnd (s : TA3) (r : Int) : TA3 := mixS ⟨pw ((s.a0 + rc r 0) % 18446744069414584321) 7, pw ((s.a1 + rc r 1) % 18446744069414584321) 7, pw ((s.a2 + rc r 2) % 18446744069414584321) 7⟩
def rnds : Nat → TA3 → TA3
  | 0, s => s
  | n + 1, s => rnd (rnds n s) n
def permS (s : TA3) : TA3 := rnds 8 s
def absL : List Int → TA3 → TA3
  | [], s => s
  | [x], s => permS ⟨(s.a0 + x) % 18446744069414584321, s.a1, s.a2⟩
  | x :: y :: r, s => absL r (permS ⟨(s.a0 + x) % 18446744069414584321, (s.a1 + y) % 18446744069414584321, s.a2⟩)
def absI (label : Int) (l : List Int) : TA3 := ⟨0, 0, (label * 65536 % 18446744069414584321 + (l.length : Int)) % 18446744069414584321⟩
def absS (label : Int) (l : List Int) : TA3 := if l = [] then permS (absI label l) else absL l (absI label l)
def hashS (label : Int) (l : List Int) : Int := (absS label l).a0
def hashB (label : Int) (b : List Int) : Int := hashS label (packS b)
def S3 (s : TA3) : Prop := U64 s.a0 ∧ U64 s.a1 ∧ U64 s.a2
theorem S3m {a b c : Int} (ha : U64 a) (hb : U64 b) (hc : U64 c) : S3 ⟨a, b, c⟩ := ⟨ha, hb, hc⟩
end Go.Proofs.Ytdbnagpoknmoiaa
namespace Go.Proofs.Ytdbnagpoknmoiaa
open Go Go.Bv Go.Cv Go.Md Go.RowKit
def idxI (l : List Int) (v : Int) : Int := if v ∈ l then (l.idxOf v : Int) else -1
def vMarks (l : List Int) : Bool := decide (l.length ≤ 4) && l.all (fun x => decide (x < 18446744069414584321)) && decide l.Nodup
def vPoint (a b : Int) : Bool := decide (a < 18446744069414584321) && (decide (b < 18446744069414584321) && (a != 0 || b != 0))
def vOut (x : TOut) : Bool := decide (x.Commit < 18446744069414584321) && vPoint x.Point_a0 x.Point_a1 && decide (x.Cipher.length = 3) && x.Cipher.all (fun n => decide (n < 18446744069414584321))
def vOuts (l : List TOut) : Bool := decide (l.length ≤ 4) && l.all vOut
def vAmounts (t : TTx) : Bool := decide (t.Deposit ≤ 4294967295) && decide (t.Withdraw ≤ 4294967295) && decide (t.Fee ≤ 4294967295) && decide (t.Account < 18446744069414584321) && decide (t.Nonce < 18446744069414584321) &&
  (if 0 < t.Deposit then t.Withdraw == 0 else !t.Marks.isEmpty && t.Nonce == 0 && (decide (0 < t.Withdraw) || t.Account == 0))
def vRest (t : TTx) : Bool := decide (t.Anchor < 18446744069414584321) && decide (0 ≤ t.Expiry) && decide (t.Expiry ≤ 1048576)
def validE (t : TTx) : Int := if vMarks t.Marks && vOuts t.Outs && vAmounts t && vRest t then (if t.Proof.length ≤ 1048576 then 0 else 3) else 1
theorem vAmounts_iff (t : TTx) : vAmounts t = true ↔ t.Deposit ≤ 4294967295 ∧ t.Withdraw ≤ 4294967295 ∧ t.Fee ≤ 4294967295 ∧ t.Account < 18446744069414584321 ∧ t.Nonce < 18446744069414584321 ∧ (0 < t.Deposit → t.Withdraw = 0) ∧ (¬ 0 < t.Deposit → t.Marks ≠ [] ∧ t.Nonce = 0 ∧ (0 < t.Withdraw ∨ t.Account = 0)) := by
  unfold vAmounts
  by_cases h : 0 < t.Deposit
  · simp [h, and_assoc]
  · simp [h, and_assoc]
structure OR (x : TOut) : Prop where
  c : U64 x.Commit
  p0 : U64 x.Point_a0
  p1 : U64 x.Point_a1
  ci : Us x.Cipher
structure TR (t : TTx) : Prop where
  a : U64 t.Anchor
  m : Us t.Marks
  o : ∀ x ∈ t.Outs, OR x
  d : U64 t.Deposit
  w : U64 t.Withdraw
  f : U64 t.Fee
  ac : U64 t.Account
  n : U64 t.Nonce
  e : -9223372036854775808 ≤ t.Expiry ∧ t.Expiry ≤ 9223372036854775807
  p : By t.Proof
def encO (x : TOut) : List Int := dig 8 x.Commit ++ dig 8 x.Point_a0 ++ dig 8 x.Point_a1 ++ encL x.Cipher
def encT (t : TTx) (p : List Int) : List Int := dig 8 t.Anchor ++ encL t.Marks ++ dig 4 (len4 t.Outs.length) ++ t.Outs.flatMap encO ++ dig 8 t.Deposit ++ dig 8 t.Withdraw ++ dig 8 t.Fee ++ dig 8 t.Account ++ dig 8 t.Nonce ++ dig 4 (len4 t.Expiry) ++ encB p
def weightS (t : TTx) : Int := if validE t = 0 then (encT t t.Proof).length else 0
def idS (t : TTx) : Int := if validE t = 0 then hashB 14 (encT t t.Proof) else 0
def bindS (t : TTx) : Int := if validE t = 0 then hashB 13 (encT t []) else 0
def originS (t : TTx) : Int := if validE t = 0 then (if t.Marks = [] then hashS 5 [t.Account, t.Nonce] else ix t.Marks 0) else 0
def smallB (t : TTx) (p : Int) : Bool := decide (t.Marks.length ≤ 10) && decide (t.Outs.length ≤ 10) && t.Outs.all (fun x => decide (x.Cipher.length ≤ 10)) && decide ((t.Proof.length : Int) ≤ p)
structure TL (t : TTx) : Prop where
  m : t.Marks.length ≤ 4294967295
  o : t.Outs.length ≤ 4294967295
  c : ∀ x ∈ t.Outs, x.Cipher.length ≤ 4294967295
  p : t.Proof.length ≤ 4294967295
structure VO (x : TOut) : Prop where
  c : x.Commit < 18446744069414584321
  p : vPoint x.Point_a0 x.Point_a1 = true
  l : x.Cipher.length = 3
  ci : ∀ n ∈ x.Cipher, n < 18446744069414584321
theorem vOut_iff (x : TOut) : vOut x = true ↔ VO x := by
  unfold vOut
  simp only [Bool.and_eq_true, decide_eq_true_eq, List.all_eq_true]
  exact ⟨fun h => ⟨h.1.1.1, h.1.1.2, h.1.2, h.2⟩, fun h => ⟨⟨⟨h.c, h.p⟩, h.l⟩, h.ci⟩⟩
structure VT (t : TTx) : Prop where
  ml : t.Marks.length ≤ 4
  m : ∀ x ∈ t.Marks, x < 18446744069414584321
  mn : t.Marks.Nodup
  ol : t.Outs.length ≤ 4
  o : ∀ x ∈ t.Outs, VO x
  am : vAmounts t = true
  re : vRest t = true
  pl : t.Proof.length ≤ 1048576
theorem validE_zero (t : TTx) : validE t = 0 ↔ VT t := by
  unfold validE
  constructor
  · intro h
    split at h
    · rename_i h1
      split at h
      · rename_i h2
        simp only [Bool.and_eq_true, vMarks, vOuts, decide_eq_true_eq, List.all_eq_true] at h1
        exact ⟨h1.1.1.1.1.1, h1.1.1.1.1.2, h1.1.1.1.2, h1.1.1.2.1, fun x hx => (vOut_iff x).1 (h1.1.1.2.2 x hx), h1.1.2, h1.2, h2⟩
      · simp at h
    · simp at h
  · intro h
    have : (vMarks t.Marks && vOuts t.Outs && vAmounts t && vRest t) = true := by
      simp only [Bool.and_eq_true, vMarks, vOuts, decide_eq_true_eq, List.all_eq_true]
      exact ⟨⟨⟨⟨⟨h.ml, h.m⟩, h.mn⟩, h.ol, fun x hx => (vOut_iff x).2 (h.o x hx)⟩, h.am⟩, h.re⟩
    rw [if_pos this, if_pos h.pl]
theorem VT.tl {t : TTx} (h : VT t) : TL t := ⟨by have := h.ml; omega, by have := h.ol; omega, fun x hx => by have := (h.o x hx).l; omega, by have := h.pl; omega⟩
theorem encO_by {x : TOut} : By (encO x) := ((((dig_by _ _).append (dig_by _ _)).append (dig_by _ _)).append (encL_by _))
theorem encOs_by (l : List TOut) : By (l.flatMap encO) := fun x hx => by
  obtain ⟨y, _, hy⟩ := List.mem_flatMap.1 hx
  exact encO_by x hy
theorem encT_by {t : TTx} {p : List Int} (h : By p) : By (encT t p) :=
  ((((((((((dig_by _ _).append (encL_by _)).append (dig_by _ _)).append (encOs_by _)).append (dig_by _ _)).append (dig_by _ _)).append (dig_by _ _)).append (dig_by _ _)).append (dig_by _ _)).append (dig_by _ _)).append (encB_by h)
theorem encO_length (x : TOut) : (encO x).length = 28 + 8 * x.Cipher.length := by simp [encO]; omega
theorem encOs_length : ∀ (l : List TOut) (k : Nat), (∀ x ∈ l, x.Cipher.length ≤ k) → (l.flatMap encO).length ≤ (28 + 8 * k) * l.length
  | [], _, _ => by simp
  | x :: r, k, h => by
    have h1 := encOs_length r k (fun y hy => h y (by simp [hy]))
    have h2 := h x (by simp)
    rw [List.flatMap_cons, List.length_append, encO_length, List.length_cons, Nat.mul_add]
    omega
theorem encT_length (t : TTx) (p : List Int) : (encT t p).length = 64 + 8 * t.Marks.length + (t.Outs.flatMap encO).length + p.length := by simp only [encT, List.length_append, dig_length, encL_length, encB_length]; omega
theorem VT.enc_len {t : TTx} (h : VT t) (p : List Int) : (encT t p).length ≤ 304 + p.length := by
  have h1 := h.ml
  have h2 := h.ol
  have h3 := encOs_length t.Outs 3 (fun x hx => by have := (h.o x hx).l; omega)
  rw [encT_length]
  omega
def shapeS (t : TTx) : TShape := if validE t = 0 then ⟨t.Marks.length, t.Outs.length, t.Deposit, t.Withdraw, t.Fee, t.Account, t.Nonce, t.Expiry⟩ else ⟨0, 0, 0, 0, 0, 0, 0, 0⟩
def rhoS (o i : Int) : Int := if o < 18446744069414584321 then hashS 4 [o, i] else 0
def stmtS (t : TTx) (depth : Int) : TStatement := if validE t = 0 then ⟨depth, t.Anchor, t.Marks, t.Outs.map (·.Commit), (List.range t.Outs.length).map (fun i : Nat => rhoS (originS t) (i : Int)), t.Deposit, t.Withdraw, t.Fee, t.Account, bindS t⟩ else ⟨0, 0, [], [], [], 0, 0, 0, 0, 0⟩
theorem encOs_eq : ∀ (l : List TOut), (∀ x ∈ l, x.Cipher.length = 3) → (l.flatMap encO).length = 52 * l.length
  | [], _ => rfl
  | x :: r, h => by
    have h1 := encOs_eq r (fun y hy => h y (by simp [hy]))
    have h2 := h x (by simp)
    rw [List.flatMap_cons, List.length_append, encO_length, List.length_cons, h1, h2]
    omega
theorem permS_range (s : TA3) : S3 (permS s) := by
  show S3 (rnd _ _)
  unfold rnd mixS S3
  dsimp only
  omega
theorem absL_range : ∀ (l : List Int) (s : TA3), S3 s → S3 (absL l s)
  | [], _, h => h
  | [_], _, _ => permS_range _
  | _ :: _ :: r, _, _ => absL_range r _ (permS_range _)
theorem hashS_u64 (label : Int) (l : List Int) : U64 (hashS label l) := by
  unfold hashS absS
  split
  · exact (permS_range _).1
  · rename_i h
    match l, h with
    | [_], _ => exact (permS_range _).1
    | _ :: _ :: r, _ => exact (absL_range r _ (permS_range _)).1
theorem originS_u64 {t : TTx} (h : TR t) : U64 (originS t) := by
  unfold originS
  split
  · split
    · exact hashS_u64 _ _
    · rename_i hne
      exact h.m _ (ix_mem _ 0 (by omega) (by have := List.length_pos_iff.2 hne; omega))
  · omega
theorem small_tl {t : TTx} {p : Int} (h : smallB t p = true) (hp : p ≤ 1048576 := by omega) : TL t := by
  unfold smallB at h
  simp only [Bool.and_eq_true, decide_eq_true_eq, List.all_eq_true] at h
  exact ⟨by omega, by omega, fun x hx => by have := h.1.2 x hx; omega, by omega⟩
theorem small_le {t : TTx} {p : Int} (h : smallB t p = true) : t.Marks.length ≤ 10 ∧ t.Outs.length ≤ 10 ∧ (∀ x ∈ t.Outs, x.Cipher.length ≤ 10) ∧ (t.Proof.length : Int) ≤ p := by
  unfold smallB at h
  simp only [Bool.and_eq_true, decide_eq_true_eq, List.all_eq_true] at h
  exact ⟨h.1.1.1, h.1.1.2, h.1.2, h.2⟩
end Go.Proofs.Ytdbnagpoknmoiaa
namespace Go.Proofs.Ytdbnagpoknmoiaa
open Go Go.Bv Go.Cv Go.Md Go.RowKit
structure RD where
  n : Int
  ok : Bool
  pos : Int
  fail : Bool
structure RL where
  l : List Int
  pos : Int
  fail : Bool
structure RdOk (b : List Int) (pos : Int) : Prop where
  by_ : By b
  len : b.length ≤ 137438953472
  pos0 : 0 ≤ pos
  pos1 : pos ≤ b.length
def rdD (b : List Int) (pos : Int) (f : Bool) (size : Int) : RD :=
  if f = true ∨ (b.length : Int) - pos < size then ⟨0, false, pos, true⟩ else ⟨val ((b.drop pos.toNat).take size.toNat), true, pos + size, false⟩
def rdU (b : List Int) (pos : Int) (f : Bool) (m : Int) : RD :=
  if (rdD b pos f 8).ok = false ∨ m < (rdD b pos f 8).n then ⟨0, false, (rdD b pos f 8).pos, true⟩ else rdD b pos f 8
def rdI (b : List Int) (pos : Int) (f : Bool) (m : Int) : RD :=
  if (rdD b pos f 4).ok = false ∨ m < (rdD b pos f 4).n then ⟨0, false, (rdD b pos f 4).pos, true⟩ else rdD b pos f 4
def rdLs (b : List Int) (p : Int) : Nat → Int → List Int → RL
  | 0, pos, acc => ⟨acc, pos, false⟩
  | k + 1, pos, acc => if p ≤ val ((b.drop pos.toNat).take 8) then ⟨[], pos + 8, true⟩ else rdLs b p k (pos + 8) (acc ++ [val ((b.drop pos.toNat).take 8)])
def rdL (b : List Int) (pos : Int) (f : Bool) (m p : Int) : RL :=
  if (rdI b pos f m).fail = true ∨ ((b.length : Int) - (rdI b pos f m).pos) / 8 < (rdI b pos f m).n then ⟨[], (rdI b pos f m).pos, true⟩ else rdLs b p (rdI b pos f m).n.toNat (rdI b pos f m).pos []
def rdB (b : List Int) (pos : Int) (f : Bool) (m : Int) : RL :=
  if (rdI b pos f m).fail = true ∨ (b.length : Int) - (rdI b pos f m).pos < (rdI b pos f m).n then ⟨[], (rdI b pos f m).pos, true⟩ else ⟨(b.take ((rdI b pos f m).pos + (rdI b pos f m).n).toNat).drop (rdI b pos f m).pos.toNat, (rdI b pos f m).pos + (rdI b pos f m).n, false⟩
theorem rdD_bound {b : List Int} {pos p : Int} {f : Bool} (h : RdOk b pos) (h0 : 1 ≤ p) (h1 : p ≤ 8) : 0 ≤ (rdD b pos f p).n ∧ (rdD b pos f p).n < 256 ^ p.toNat := by
  unfold rdD
  split
  · exact ⟨Int.le_refl 0, pow256_pos _⟩
  · rename_i hn
    have hb := val_bound _ ((h.by_.drop pos.toNat).take p.toNat)
    rw [List.length_take, List.length_drop, Nat.min_eq_left (by have := h.pos0; omega)] at hb
    exact hb
theorem rdD_ok {b : List Int} {pos p : Int} {f : Bool} (h : RdOk b pos) (h0 : 1 ≤ p) : RdOk b (rdD b pos f p).pos := by
  unfold rdD
  have := h.pos0
  split
  · exact h
  · rename_i hn
    exact ⟨h.by_, h.len, by show 0 ≤ pos + p; omega, by show pos + p ≤ _; omega⟩
theorem rdU_ok {b : List Int} {pos m : Int} {f : Bool} (h : RdOk b pos) : RdOk b (rdU b pos f m).pos := by
  unfold rdU
  split
  · exact rdD_ok h (by omega)
  · exact rdD_ok h (by omega)
theorem rdI_ok {b : List Int} {pos m : Int} {f : Bool} (h : RdOk b pos) : RdOk b (rdI b pos f m).pos := by
  unfold rdI
  split
  · exact rdD_ok h (by omega)
  · exact rdD_ok h (by omega)
theorem rdI_n {b : List Int} {pos m : Int} {f : Bool} (h : RdOk b pos) (hm : 0 ≤ m) : 0 ≤ (rdI b pos f m).n ∧ (rdI b pos f m).n ≤ m := by
  have := rdD_bound h (p := 4) (f := f) (by omega) (by omega)
  unfold rdI
  split
  · exact ⟨Int.le_refl 0, hm⟩
  · rename_i hn
    exact ⟨this.1, by omega⟩
theorem rdU_n {b : List Int} {pos m : Int} {f : Bool} (h : RdOk b pos) : U64 (rdU b pos f m).n := by
  have := rdD_bound h (p := 8) (f := f) (by omega) (by omega)
  unfold rdU
  split
  · exact ⟨Int.le_refl 0, (by decide : (0 : Int) < 18446744073709551616)⟩
  · exact ⟨this.1, this.2⟩
end Go.Proofs.Ytdbnagpoknmoiaa
namespace Go.Proofs.Ytdbnagpoknmoiaa
open Go Go.Bv Go.Cv Go.Md Go.RowKit
theorem cut_dig {b : List Int} (h : By b) (k : Nat) (hk : k ≤ b.length) : b = dig k (val (b.take k)) ++ b.drop k := by
  have := dig_val (b.take k) (h.take k)
  rw [List.length_take, Nat.min_eq_left hk] at this
  rw [this, List.take_append_drop]
theorem put_dig {b r : List Int} {k : Nat} {n : Int} (h : b = dig k n ++ r) (h0 : 0 ≤ n) (h1 : n < 256 ^ k) : val (b.take k) = n ∧ b.drop k = r ∧ k ≤ b.length := by
  subst h
  rw [List.take_left' (dig_length k n), List.drop_left' (dig_length k n), List.length_append, dig_length]
  exact ⟨val_dig k n h0 h1, rfl, by omega⟩
def nums : Nat → List Int → List Int
  | 0, _ => []
  | k + 1, b => val (b.take 8) :: nums k (b.drop 8)
@[simp] theorem nums_length : ∀ (k : Nat) (b : List Int), (nums k b).length = k
  | 0, _ => rfl
  | k + 1, b => by simp [nums, nums_length k]
theorem nums_us : ∀ (k : Nat) {b : List Int}, By b → Us (nums k b)
  | 0, _, _ => by intro x hx; cases hx
  | k + 1, b, h => by
    intro x hx
    rcases List.mem_cons.1 hx with rfl | hx
    · exact val8 _ (h.take 8) (by rw [List.length_take]; omega)
    · exact nums_us k (h.drop 8) x hx
theorem cut_nums : ∀ (k : Nat) {b : List Int}, By b → 8 * k ≤ b.length → b = (nums k b).flatMap (dig 8) ++ b.drop (8 * k)
  | 0, _, _, _ => rfl
  | k + 1, b, h, hk => by
    have h1 := cut_dig h 8 (by omega)
    have h2 := cut_nums k (h.drop 8) (by rw [List.length_drop]; omega)
    rw [List.drop_drop, show 8 + 8 * k = 8 * (k + 1) by omega] at h2
    simp only [nums, List.flatMap_cons, List.append_assoc]
    rw [← h2]
    exact h1
theorem put_nums : ∀ (l : List Int) {b r : List Int}, b = l.flatMap (dig 8) ++ r → Us l → nums l.length b = l ∧ b.drop (8 * l.length) = r ∧ 8 * l.length ≤ b.length
  | [], b, r, h, _ => ⟨rfl, by simpa using h, by simp⟩
  | x :: l, b, r, h, hu => by
    rw [List.flatMap_cons, List.append_assoc] at h
    have hx := hu x (by simp)
    obtain ⟨h1, h2, h3⟩ := put_dig h hx.1 (by omega)
    obtain ⟨g1, g2, g3⟩ := put_nums l h2 (fun y hy => hu y (by simp [hy]))
    rw [List.length_drop] at g3
    refine ⟨?_, ?_, ?_⟩
    · simp only [List.length_cons, nums, h1, g1]
    · rw [List.drop_drop, show 8 + 8 * l.length = 8 * (l.length + 1) by omega] at g2
      simpa using g2
    · rw [List.length_cons]; omega
section
variable {b : List Int} {pos m p : Int} {f : Bool}
theorem drop_add (h0 : 0 ≤ pos) (k : Nat) : b.drop (pos + (k : Int)).toNat = (b.drop pos.toNat).drop k := by
  rw [List.drop_drop, show (pos + (k : Int)).toNat = pos.toNat + k by omega]
theorem rdD_snd (h : RdOk b pos) (k : Nat) (hf : (rdD b pos f k).ok = true) : f = false ∧ b.drop pos.toNat = dig k (rdD b pos f k).n ++ b.drop (rdD b pos f k).pos.toNat ∧ (rdD b pos f k).fail = false := by
  unfold rdD at *
  split at hf
  · cases hf
  · rename_i hn
    rw [if_neg hn]
    have h0 := h.pos0
    refine ⟨?_, ?_, rfl⟩
    · cases f
      · rfl
      · exact absurd (.inl rfl) hn
    · show b.drop pos.toNat = dig k (val ((b.drop pos.toNat).take (k : Int).toNat)) ++ b.drop (pos + (k : Int)).toNat
      rw [drop_add h0, Int.toNat_natCast]
      refine cut_dig (h.by_.drop _) k ?_
      have : ¬ (b.length : Int) - pos < k := fun h => hn (.inr h)
      rw [List.length_drop]
      omega
theorem rdD_cpl (h : RdOk b pos) (k : Nat) {n : Int} {r : List Int} (hf : f = false) (hr : b.drop pos.toNat = dig k n ++ r) (h0 : 0 ≤ n) (h1 : n < 256 ^ k) : rdD b pos f k = ⟨n, true, pos + k, false⟩ ∧ b.drop (pos + (k : Int)).toNat = r := by
  obtain ⟨g1, g2, g3⟩ := put_dig hr h0 h1
  rw [List.length_drop] at g3
  have hp := h.pos1
  have hp0 := h.pos0
  refine ⟨?_, by rw [drop_add hp0]; exact g2⟩
  unfold rdD
  have hk : ¬ (f = true ∨ (b.length : Int) - pos < k) := by rw [hf]; simp only [Bool.false_eq_true, false_or]; rcases Nat.eq_zero_or_pos k with h | h <;> omega
  rw [if_neg hk, Int.toNat_natCast, g1]
theorem rdU_snd (h : RdOk b pos) (hf : (rdU b pos f m).fail = false) : f = false ∧ b.drop pos.toNat = dig 8 (rdU b pos f m).n ++ b.drop (rdU b pos f m).pos.toNat ∧ (rdU b pos f m).n ≤ m := by
  unfold rdU at *
  split at hf
  · cases hf
  · rename_i hn
    rw [if_neg hn]
    have ho : (rdD b pos f 8).ok = true := by
      cases hc : (rdD b pos f 8).ok
      · exact absurd (.inl hc) hn
      · rfl
    obtain ⟨g1, g2, g3⟩ := rdD_snd h 8 ho
    exact ⟨g1, g2, by have : ¬ m < (rdD b pos f 8).n := fun h => hn (.inr h); omega⟩
theorem rdU_cpl (h : RdOk b pos) {n : Int} {r : List Int} (hf : f = false) (hr : b.drop pos.toNat = dig 8 n ++ r) (hn : U64 n) (hm : n ≤ m) : (rdU b pos f m).fail = false ∧ (rdU b pos f m).n = n ∧ b.drop (rdU b pos f m).pos.toNat = r := by
  obtain ⟨g1, g2⟩ := rdD_cpl h 8 hf hr hn.1 hn.2
  have e : rdU b pos f m = ⟨n, true, pos + 8, false⟩ := by
    unfold rdU
    have g1 : rdD b pos f 8 = ⟨n, true, pos + 8, false⟩ := g1
    rw [g1]
    exact if_neg (by simp; omega)
  rw [e]
  exact ⟨rfl, rfl, g2⟩
theorem rdI_snd (h : RdOk b pos) (hf : (rdI b pos f m).fail = false) : f = false ∧ b.drop pos.toNat = dig 4 (rdI b pos f m).n ++ b.drop (rdI b pos f m).pos.toNat ∧ (rdI b pos f m).n ≤ m := by
  unfold rdI at *
  split at hf
  · cases hf
  · rename_i hn
    rw [if_neg hn]
    have ho : (rdD b pos f 4).ok = true := by
      cases hc : (rdD b pos f 4).ok
      · exact absurd (.inl hc) hn
      · rfl
    obtain ⟨g1, g2, g3⟩ := rdD_snd h 4 ho
    exact ⟨g1, g2, by have : ¬ m < (rdD b pos f 4).n := fun h => hn (.inr h); omega⟩
theorem rdI_cpl (h : RdOk b pos) {n : Int} {r : List Int} (hf : f = false) (hr : b.drop pos.toNat = dig 4 n ++ r) (h0 : 0 ≤ n) (h1 : n < 4294967296) (hm : n ≤ m) : (rdI b pos f m).fail = false ∧ (rdI b pos f m).n = n ∧ b.drop (rdI b pos f m).pos.toNat = r := by
  obtain ⟨g1, g2⟩ := rdD_cpl h 4 hf hr h0 h1
  have e : rdI b pos f m = ⟨n, true, pos + 4, false⟩ := by
    unfold rdI
    have g1 : rdD b pos f 4 = ⟨n, true, pos + 4, false⟩ := g1
    rw [g1]
    exact if_neg (by simp; omega)
  rw [e]
  exact ⟨rfl, rfl, g2⟩
theorem rdLs_ok : ∀ (k : Nat) {pos : Int} {acc : List Int}, RdOk b pos → pos + 8 * k ≤ b.length → RdOk b (rdLs b p k pos acc).pos
  | 0, pos, acc, h, _ => h
  | k + 1, pos, acc, h, hk => by
    have h2 : RdOk b (pos + 8) := ⟨h.by_, h.len, by have := h.pos0; omega, by omega⟩
    unfold rdLs
    split
    · exact h2
    · exact rdLs_ok k h2 (by omega)
theorem rdLs_snd : ∀ (k : Nat) {pos : Int} {acc : List Int}, RdOk b pos → pos + 8 * k ≤ b.length → (rdLs b p k pos acc).fail = false →
    (rdLs b p k pos acc).l = acc ++ nums k (b.drop pos.toNat) ∧ (∀ x ∈ nums k (b.drop pos.toNat), x < p) ∧ (rdLs b p k pos acc).pos = pos + 8 * k
  | 0, pos, acc, h, _, _ => ⟨by simp [rdLs, nums], by simp [nums], by simp [rdLs]⟩
  | k + 1, pos, acc, h, hk, hf => by
    have h2 : RdOk b (pos + 8) := ⟨h.by_, h.len, by have := h.pos0; omega, by omega⟩
    have hd : b.drop (pos + 8).toNat = (b.drop pos.toNat).drop 8 := drop_add h.pos0 8
    unfold rdLs at *
    split at hf
    · cases hf
    · rename_i hn
      rw [if_neg hn]
      obtain ⟨g1, g2, g3⟩ := rdLs_snd k h2 (by omega) hf
      rw [hd] at g1 g2
      refine ⟨?_, ?_, ?_⟩
      · rw [g1, List.append_assoc]; rfl
      · intro x hx
        rcases List.mem_cons.1 hx with rfl | hx
        · omega
        · exact g2 x hx
      · rw [g3]; omega
theorem rdLs_cpl : ∀ (k : Nat) {pos : Int} {acc : List Int}, RdOk b pos → pos + 8 * k ≤ b.length → (∀ x ∈ nums k (b.drop pos.toNat), x < p) → (rdLs b p k pos acc).fail = false
  | 0, pos, acc, h, _, _ => rfl
  | k + 1, pos, acc, h, hk, hf => by
    have h2 : RdOk b (pos + 8) := ⟨h.by_, h.len, by have := h.pos0; omega, by omega⟩
    have hd : b.drop (pos + 8).toNat = (b.drop pos.toNat).drop 8 := drop_add h.pos0 8
    unfold rdLs
    have h3 := hf (val ((b.drop pos.toNat).take 8)) (by simp [nums])
    rw [if_neg (by omega)]
    exact rdLs_cpl k h2 (by omega) (by rw [hd]; exact fun x hx => hf x (List.mem_cons_of_mem _ hx))
theorem rdL_ok (h : RdOk b pos) (hm : 0 ≤ m) : RdOk b (rdL b pos f m p).pos := by
  unfold rdL
  split
  · exact rdI_ok h
  · rename_i hn
    have := rdI_n h (f := f) hm
    have : ¬ ((b.length : Int) - (rdI b pos f m).pos) / 8 < (rdI b pos f m).n := fun h => hn (.inr h)
    exact rdLs_ok _ (rdI_ok h) (by omega)
theorem rdL_snd (h : RdOk b pos) (hm : 0 ≤ m ∧ m ≤ 4294967295) (hf : (rdL b pos f m p).fail = false) : f = false ∧ b.drop pos.toNat = encL (rdL b pos f m p).l ++ b.drop (rdL b pos f m p).pos.toNat ∧ ((rdL b pos f m p).l.length : Int) ≤ m ∧ (∀ x ∈ (rdL b pos f m p).l, x < p) ∧ Us (rdL b pos f m p).l := by
  unfold rdL at *
  split at hf
  · cases hf
  · rename_i hn
    rw [if_neg hn]
    have hI : (rdI b pos f m).fail = false := by
      cases hc : (rdI b pos f m).fail
      · rfl
      · exact absurd (.inl hc) hn
    have hI2 := rdI_n h (f := f) hm.1
    have hok := rdI_ok h (f := f) (m := m)
    obtain ⟨g1, g2, g3⟩ := rdI_snd h hI
    have hle : ¬ ((b.length : Int) - (rdI b pos f m).pos) / 8 < (rdI b pos f m).n := fun h => hn (.inr h)
    obtain ⟨k1, k2, k3⟩ := rdLs_snd _ hok (by omega) hf
    rw [List.nil_append] at k1
    rw [k1, k3]
    have hp0 := hok.pos0
    have hp1 := hok.pos1
    refine ⟨g1, ?_, by rw [nums_length]; omega, k2, nums_us _ (h.by_.drop _)⟩
    rw [g2]
    unfold encL
    rw [nums_length, show (((rdI b pos f m).n.toNat : Nat) : Int) = (rdI b pos f m).n by omega, len4_in (by omega), List.append_assoc]
    congr 1
    have := cut_nums (rdI b pos f m).n.toNat (h.by_.drop (rdI b pos f m).pos.toNat) (by rw [List.length_drop]; omega)
    have e := drop_add (b := b) hp0 (8 * (rdI b pos f m).n.toNat)
    rw [show ((rdI b pos f m).pos + ((8 * (rdI b pos f m).n.toNat : Nat) : Int)) = (rdI b pos f m).pos + 8 * ((rdI b pos f m).n.toNat : Int) by omega, show (((rdI b pos f m).n.toNat : Nat) : Int) = (rdI b pos f m).n by omega] at e
    rw [e]
    exact this
theorem rdL_cpl (h : RdOk b pos) (hm : 0 ≤ m ∧ m ≤ 4294967295) {l r : List Int} (hf : f = false) (hr : b.drop pos.toNat = encL l ++ r) (hl : (l.length : Int) ≤ m) (hp : ∀ x ∈ l, x < p) (hu : Us l) : (rdL b pos f m p).fail = false ∧ (rdL b pos f m p).l = l ∧ b.drop (rdL b pos f m p).pos.toNat = r := by
  unfold encL at hr
  rw [len4_in (by omega), List.append_assoc] at hr
  have hok := rdI_ok h (f := f) (m := m)
  obtain ⟨g1, g2, g3⟩ := rdI_cpl h hf hr (by omega) (by omega) hl
  obtain ⟨k1, k2, k3⟩ := put_nums l g3 hu
  rw [List.length_drop] at k3
  have hp0 := hok.pos0
  have hp1 := hok.pos1
  have hn : ¬ ((rdI b pos f m).fail = true ∨ ((b.length : Int) - (rdI b pos f m).pos) / 8 < (rdI b pos f m).n) := by
    rw [g1, g2]
    simp only [Bool.false_eq_true, false_or]
    omega
  unfold rdL
  rw [if_neg hn, g2, Int.toNat_natCast]
  have hc := rdLs_cpl (p := p) (acc := []) l.length hok (by omega) (by rw [k1]; exact hp)
  obtain ⟨q1, q2, q3⟩ := rdLs_snd _ hok (by omega) hc
  refine ⟨hc, by rw [q1, k1]; rfl, ?_⟩
  rw [q3, show (rdI b pos f m).pos + 8 * (l.length : Int) = (rdI b pos f m).pos + ((8 * l.length : Nat) : Int) by omega, drop_add hp0]
  exact k2
theorem rdB_ok (h : RdOk b pos) (hm : 0 ≤ m) : RdOk b (rdB b pos f m).pos := by
  have h1 := rdI_n h (f := f) hm
  have h2 := rdI_ok h (f := f) (m := m)
  have := h2.pos0
  unfold rdB
  split
  · exact h2
  · rename_i hn
    exact ⟨h.by_, h.len, by show 0 ≤ _ + _; omega, by show _ + _ ≤ _; omega⟩
theorem rdB_snd (h : RdOk b pos) (hm : 0 ≤ m ∧ m ≤ 4294967295) (hf : (rdB b pos f m).fail = false) : f = false ∧ b.drop pos.toNat = encB (rdB b pos f m).l ++ b.drop (rdB b pos f m).pos.toNat ∧ ((rdB b pos f m).l.length : Int) ≤ m ∧ By (rdB b pos f m).l := by
  unfold rdB at *
  split at hf
  · cases hf
  · rename_i hn
    rw [if_neg hn]
    have hI : (rdI b pos f m).fail = false := by
      cases hc : (rdI b pos f m).fail
      · rfl
      · exact absurd (.inl hc) hn
    have hI2 := rdI_n h (f := f) hm.1
    have hok := rdI_ok h (f := f) (m := m)
    obtain ⟨g1, g2, g3⟩ := rdI_snd h hI
    have hle : ¬ (b.length : Int) - (rdI b pos f m).pos < (rdI b pos f m).n := fun h => hn (.inr h)
    have hp0 := hok.pos0
    have hp1 := hok.pos1
    have hlen : (((b.take ((rdI b pos f m).pos + (rdI b pos f m).n).toNat).drop (rdI b pos f m).pos.toNat).length : Int) = (rdI b pos f m).n := by
      rw [List.length_drop, List.length_take]; omega
    refine ⟨g1, ?_, by rw [hlen]; exact g3, (h.by_.take _).drop _⟩
    rw [g2]
    unfold encB
    rw [hlen, len4_in (by omega), List.append_assoc]
    congr 1
    show _ = _ ++ b.drop ((rdI b pos f m).pos + (rdI b pos f m).n).toNat
    rw [List.drop_take, show ((rdI b pos f m).pos + (rdI b pos f m).n).toNat - (rdI b pos f m).pos.toNat = (rdI b pos f m).n.toNat by omega]
    have e := drop_add (b := b) hp0 (rdI b pos f m).n.toNat
    rw [show (((rdI b pos f m).n.toNat : Nat) : Int) = (rdI b pos f m).n by omega] at e
    rw [e, List.take_append_drop]
theorem rdB_cpl (h : RdOk b pos) (hm : 0 ≤ m ∧ m ≤ 4294967295) {l r : List Int} (hf : f = false) (hr : b.drop pos.toNat = encB l ++ r) (hl : (l.length : Int) ≤ m) : (rdB b pos f m).fail = false ∧ (rdB b pos f m).l = l ∧ b.drop (rdB b pos f m).pos.toNat = r := by
  unfold encB at hr
  rw [len4_in (by omega), List.append_assoc] at hr
  have hok := rdI_ok h (f := f) (m := m)
  obtain ⟨g1, g2, g3⟩ := rdI_cpl h hf hr (by omega) (by omega) hl
  have hp0 := hok.pos0
  have hp1 := hok.pos1
  have hlen := congrArg List.length g3
  rw [List.length_drop, List.length_append] at hlen
  have hn : ¬ ((rdI b pos f m).fail = true ∨ (b.length : Int) - (rdI b pos f m).pos < (rdI b pos f m).n) := by
    rw [g1, g2]
    simp only [Bool.false_eq_true, false_or]
    omega
  unfold rdB
  rw [if_neg hn, g2]
  refine ⟨rfl, ?_, ?_⟩
  · show (b.take ((rdI b pos f m).pos + (l.length : Int)).toNat).drop (rdI b pos f m).pos.toNat = l
    rw [List.drop_take, g3, show ((rdI b pos f m).pos + (l.length : Int)).toNat - (rdI b pos f m).pos.toNat = l.length by omega, List.take_left]
  · show b.drop ((rdI b pos f m).pos + (l.length : Int)).toNat = r
    rw [drop_add hp0, g3, List.drop_left]
end
end Go.Proofs.Ytdbnagpoknmoiaa
namespace Go.Proofs.Ytdbnagpoknmoiaa
open Go Go.Bv Go.Cv Go.Md Go.RowKit
structure Enc (t : TTx) (b : List Int) : Prop where
  r : TR t
  v : VT t
  e : encT t t.Proof = b
def zeroT : TTx := ⟨0, [], [], 0, 0, 0, 0, 0, 0, []⟩
open Classical in
noncomputable def decS (b : List Int) : TTx × Int := if h : ∃ t, Enc t b then (Classical.choose h, 0) else (zeroT, 2)
theorem decS_yes {b : List Int} {t : TTx} (h : Enc t b) (hu : ∀ u, Enc u b → t = u) : decS b = (t, 0) := by
  unfold decS
  have hex : ∃ t, Enc t b := ⟨t, h⟩
  rw [dif_pos hex, ← hu _ (Classical.choose_spec hex)]
theorem decS_no {b : List Int} (h : ∀ u, ¬ Enc u b) : decS b = (zeroT, 2) := by
  unfold decS
  rw [dif_neg fun ⟨u, hu⟩ => h u hu]
theorem Enc.us {t : TTx} {b : List Int} (h : Enc t b) : t.Anchor ≤ 18446744069414584320 ∧ t.Deposit ≤ 4294967295 ∧ t.Withdraw ≤ 4294967295 ∧ t.Fee ≤ 4294967295 ∧ t.Account ≤ 18446744069414584320 ∧ t.Nonce ≤ 18446744069414584320 ∧ 0 ≤ t.Expiry ∧ t.Expiry ≤ 1048576 := by
  have h1 := (vAmounts_iff t).1 h.v.am
  have h2 := h.v.re
  unfold vRest at h2
  simp only [Bool.and_eq_true, decide_eq_true_eq] at h2
  omega
theorem VO.us {x : TOut} (h : VO x) : x.Commit ≤ 18446744069414584320 ∧ x.Point_a0 ≤ 18446744069414584320 ∧ x.Point_a1 ≤ 18446744069414584320 := by
  have h1 := h.c
  have h2 := h.p
  unfold vPoint at h2
  simp only [Bool.and_eq_true, decide_eq_true_eq] at h2
  omega
def encTail (t : TTx) : List Int := dig 8 t.Deposit ++ (dig 8 t.Withdraw ++ (dig 8 t.Fee ++ (dig 8 t.Account ++ (dig 8 t.Nonce ++ (dig 4 (len4 t.Expiry) ++ encB t.Proof)))))
theorem encT_split (t : TTx) : encT t t.Proof = dig 8 t.Anchor ++ (encL t.Marks ++ (dig 4 (len4 t.Outs.length) ++ (t.Outs.flatMap encO ++ encTail t))) := by simp [encT, encTail, List.append_assoc]
theorem encO_split (x : TOut) (r : List Int) : encO x ++ r = dig 8 x.Commit ++ (dig 8 x.Point_a0 ++ (dig 8 x.Point_a1 ++ (encL x.Cipher ++ r))) := by simp [encO, List.append_assoc]
set_option maxHeartbeats 2000000 in

theorem enc_inj {t u : TTx} {b : List Int} (ht : Enc t b) (hu : Enc u b) : t = u := by
  have h := ht.e.trans hu.e.symm
  rw [encT_split, encT_split] at h
  have e1 := List.append_inj h (by simp)
  have a1 := dig_inj (k := 8) ht.r.a hu.r.a e1.1
  have tl := ht.v.ml
  have ul := hu.v.ml
  have tol := ht.v.ol
  have uol := hu.v.ol
  have cut : ∀ {l m : List Int} {x y : List Int}, l.length ≤ 4294967295 → m.length ≤ 4294967295 → Us l → Us m → encL l ++ x = encL m ++ y → l = m ∧ x = y := by
    intro l m x y hl hm hul hum h
    unfold encL at h
    rw [len4_in (by omega), len4_in (by omega), List.append_assoc, List.append_assoc] at h
    have q := List.append_inj h (by simp)
    have q1 := dig_inj (k := 4) ⟨by omega, by omega⟩ ⟨by omega, by omega⟩ q.1
    have q2 := List.append_inj q.2 (by rw [flat8_length, flat8_length]; omega)
    obtain ⟨k1, k2, _⟩ := put_nums l (b := l.flatMap (dig 8)) (r := []) (by simp) hul
    obtain ⟨m1, m2, _⟩ := put_nums m (b := l.flatMap (dig 8)) (r := []) (by rw [q2.1]; simp) hum
    have : l.length = m.length := by omega
    rw [this] at k1
    exact ⟨k1.symm.trans m1, q2.2⟩
  obtain ⟨a2, e2⟩ := cut (by omega) (by omega) ht.r.m hu.r.m e1.2
  rw [len4_in (by omega), len4_in (by omega)] at e2
  have e3 := List.append_inj e2 (by simp)
  have a3 := dig_inj (k := 4) ⟨by omega, by omega⟩ ⟨by omega, by omega⟩ e3.1
  have outs : ∀ (l m : List TOut) (x y : List Int), l.length = m.length → (∀ o ∈ l, OR o ∧ VO o) → (∀ o ∈ m, OR o ∧ VO o) → l.flatMap encO ++ x = m.flatMap encO ++ y → l = m ∧ x = y := by
    intro l
    induction l with
    | nil =>
      intro m x y hlm _ _ h
      cases m with
      | nil => exact ⟨rfl, h⟩
      | cons o m => simp at hlm
    | cons o l ih =>
      intro m x y hlm hl hm h
      cases m with
      | nil => simp at hlm
      | cons p m =>
        rw [List.flatMap_cons, List.flatMap_cons, List.append_assoc, List.append_assoc, encO_split, encO_split] at h
        obtain ⟨or, ov⟩ := hl o (by simp)
        obtain ⟨pr, pv⟩ := hm p (by simp)
        have q1 := List.append_inj h (by simp)
        have q2 := List.append_inj q1.2 (by simp)
        have q3 := List.append_inj q2.2 (by simp)
        obtain ⟨q4, q5⟩ := cut (by rw [ov.l]; omega) (by rw [pv.l]; omega) or.ci pr.ci q3.2
        obtain ⟨q6, q7⟩ := ih m x y (by simpa using hlm) (fun o h => hl o (by simp [h])) (fun o h => hm o (by simp [h])) q5
        refine ⟨?_, q7⟩
        have c1 := dig_inj (k := 8) or.c pr.c q1.1
        have c2 := dig_inj (k := 8) or.p0 pr.p0 q2.1
        have c3 := dig_inj (k := 8) or.p1 pr.p1 q3.1
        rw [q6]
        cases o
        cases p
        simp_all
  obtain ⟨a4, e4⟩ := outs _ _ _ _ (by omega) (fun o h => ⟨ht.r.o o h, ht.v.o o h⟩) (fun o h => ⟨hu.r.o o h, hu.v.o o h⟩) e3.2
  unfold encTail at e4
  have f1 := List.append_inj e4 (by simp)
  have f2 := List.append_inj f1.2 (by simp)
  have f3 := List.append_inj f2.2 (by simp)
  have f4 := List.append_inj f3.2 (by simp)
  have f5 := List.append_inj f4.2 (by simp)
  have f6 := List.append_inj f5.2 (by simp)
  have tus := ht.us
  have uus := hu.us
  rw [len4_in (by omega), len4_in (by omega)] at f6
  have a5 := dig_inj (k := 8) ht.r.d hu.r.d f1.1
  have a6 := dig_inj (k := 8) ht.r.w hu.r.w f2.1
  have a7 := dig_inj (k := 8) ht.r.f hu.r.f f3.1
  have a8 := dig_inj (k := 8) ht.r.ac hu.r.ac f4.1
  have a9 := dig_inj (k := 8) ht.r.n hu.r.n f5.1
  have a10 := dig_inj (k := 4) ⟨by omega, by omega⟩ ⟨by omega, by omega⟩ f6.1
  have a11 : t.Proof = u.Proof := by
    have h7 := f6.2
    unfold encB at h7
    exact (List.append_inj h7 (by simp)).2
  cases t
  cases u
  simp_all
theorem decS_enc {b : List Int} {t : TTx} (h : Enc t b) : decS b = (t, 0) := decS_yes h fun _ hu => enc_inj h hu
structure TD (t : TTx) : Prop where
  r : TR t
  l : TL t
  o : t.Outs.length ≤ 1048576
  c : ∀ x ∈ t.Outs, x.Cipher.length ≤ 1024
theorem Enc.td {t : TTx} {b : List Int} (h : Enc t b) : TD t := ⟨h.r, h.v.tl, by have := h.v.ol; omega, fun x hx => by have := (h.v.o x hx).l; omega⟩
theorem zero_td : TD zeroT := ⟨⟨by decide, (by intro x hx; cases hx), (by intro x hx; cases hx), by decide, by decide, by decide, by decide, by decide, by decide, (by intro x hx; cases hx)⟩, ⟨by decide, by decide, (by intro x hx; cases hx), by decide⟩, by decide, (by intro x hx; cases hx)⟩
theorem decS_td (b : List Int) : TD (decS b).1 := by
  unfold decS
  split
  · rename_i h
    exact (Classical.choose_spec h).td
  · exact zero_td
def sameT (a b : TTx) : Bool := decide (a.Outs.length = b.Outs.length) && a.Expiry == b.Expiry && decide (a.Outs.map (·.Cipher.length) = b.Outs.map (·.Cipher.length)) && decide (encT a a.Proof = encT b b.Proof)
@[simp] theorem sameT_refl (a : TTx) : sameT a a = true := by simp [sameT]
structure TK where
  n : Int
  r : List Int
  ok : Bool
structure TKL where
  l : List Int
  r : List Int
  ok : Bool
def tkS (b : List Int) (k : Int) : TK := if (b.length : Int) < k then ⟨0, [], false⟩ else ⟨val (b.take k.toNat), b.drop k.toNat, true⟩
def tksS (b : List Int) (k : Int) : TKL := if (b.length : Int) < 8 * k then ⟨[], [], false⟩ else ⟨nums k.toNat b, b.drop (8 * k.toNat), true⟩
def tklS (b : List Int) (m : Int) : TKL := if (tkS b 4).ok = false ∨ m < (tkS b 4).n then ⟨[], [], false⟩ else tksS (tkS b 4).r (tkS b 4).n
section
variable {b r : List Int} {n m : Int}
theorem tkS_by (h : By b) (k : Int) : By (tkS b k).r := by
  unfold tkS; split
  · intro x hx; cases hx
  · exact h.drop _
theorem tkS_len (k : Int) : (tkS b k).r.length ≤ b.length := by
  unfold tkS; split
  · exact Nat.zero_le _
  · show (b.drop _).length ≤ _; rw [List.length_drop]; omega
theorem tksS_by (h : By b) (k : Int) : By (tksS b k).r := by
  unfold tksS; split
  · intro x hx; cases hx
  · exact h.drop _
theorem tksS_len (k : Int) : (tksS b k).r.length ≤ b.length := by
  unfold tksS; split
  · exact Nat.zero_le _
  · show (b.drop _).length ≤ _; rw [List.length_drop]; omega
theorem tklS_by (h : By b) (m : Int) : By (tklS b m).r := by
  unfold tklS; split
  · intro x hx; cases hx
  · exact tksS_by (tkS_by h _) _
theorem tklS_len (m : Int) : (tklS b m).r.length ≤ b.length := by
  unfold tklS; split
  · exact Nat.zero_le _
  · exact Nat.le_trans (tksS_len _) (tkS_len _)
theorem tkS_snd (h : By b) (k : Nat) (ho : (tkS b k).ok = true) : b = dig k (tkS b k).n ++ (tkS b k).r ∧ 0 ≤ (tkS b k).n ∧ (tkS b k).n < 256 ^ k := by
  unfold tkS at *
  split at ho
  · cases ho
  · rename_i hn
    rw [if_neg hn, Int.toNat_natCast]
    have hb := val_bound _ (h.take k)
    rw [List.length_take, Nat.min_eq_left (by omega)] at hb
    exact ⟨cut_dig h k (by omega), hb⟩
theorem tkS_cpl (k : Nat) (h : b = dig k n ++ r) (h0 : 0 ≤ n) (h1 : n < 256 ^ k) : tkS b k = ⟨n, r, true⟩ := by
  obtain ⟨g1, g2, g3⟩ := put_dig h h0 h1
  unfold tkS
  rw [if_neg (by omega), Int.toNat_natCast, g1, g2]
theorem tksS_snd (h : By b) (k : Nat) (ho : (tksS b k).ok = true) : b = (tksS b k).l.flatMap (dig 8) ++ (tksS b k).r ∧ (tksS b k).l.length = k ∧ Us (tksS b k).l := by
  unfold tksS at *
  split at ho
  · cases ho
  · rename_i hn
    rw [if_neg hn, Int.toNat_natCast]
    exact ⟨cut_nums k h (by omega), nums_length _ _, nums_us _ h⟩
theorem tksS_cpl {l : List Int} (h : b = l.flatMap (dig 8) ++ r) (hu : Us l) : tksS b l.length = ⟨l, r, true⟩ := by
  obtain ⟨g1, g2, g3⟩ := put_nums l h hu
  unfold tksS
  rw [if_neg (by omega), Int.toNat_natCast, g1, g2]
theorem tklS_snd (h : By b) (ho : (tklS b m).ok = true) : b = encL (tklS b m).l ++ (tklS b m).r ∧ ((tklS b m).l.length : Int) ≤ m ∧ Us (tklS b m).l := by
  unfold tklS at *
  split at ho
  · cases ho
  · rename_i hn
    rw [if_neg hn]
    have h4 : (tkS b 4).ok = true := by
      cases hc : (tkS b 4).ok
      · exact absurd (.inl hc) hn
      · rfl
    obtain ⟨g1, g2, g3⟩ := tkS_snd h 4 h4
    have g1 : b = dig 4 (tkS b 4).n ++ (tkS b 4).r := g1
    have g2 : 0 ≤ (tkS b 4).n := g2
    have g3 : (tkS b 4).n < 4294967296 := g3
    obtain ⟨k, hk⟩ := Int.eq_ofNat_of_zero_le g2
    have hby : By (tkS b 4).r := tkS_by h 4
    generalize (tkS b 4).n = q at *
    subst hk
    obtain ⟨k1, k2, k3⟩ := tksS_snd hby k ho
    refine ⟨?_, by rw [k2]; have : ¬ m < (k : Int) := fun h => hn (.inr h); omega, k3⟩
    unfold encL
    rw [k2, len4_in (by omega), List.append_assoc, ← k1]
    exact g1
theorem tklS_cpl {l : List Int} (h : b = encL l ++ r) (hm : m ≤ 4294967295) (hl : (l.length : Int) ≤ m) (hu : Us l) : tklS b m = ⟨l, r, true⟩ := by
  unfold encL at h
  rw [len4_in (by omega), List.append_assoc] at h
  have e : tkS b 4 = ⟨l.length, _, true⟩ := tkS_cpl 4 h (by omega) (by omega)
  unfold tklS
  rw [e, if_neg (by simp; omega)]
  exact tksS_cpl rfl hu
end
end Go.Proofs.Ytdbnagpoknmoiaa
namespace Go.Proofs.Ytdbnagpoknmoiaa
open Go Go.Bv Go.Cv Go.Md Go.RowKit
theorem TTx_R.tr {t : TTx} (h : TTx_R t) : TR t ∧ t.Outs.length ≤ 9223372036854775807 :=
  ⟨⟨h.Anchor, h.Marks.2, fun x hx => let y := h.Outs.2 x hx; ⟨y.Commit, y.Point_a0, y.Point_a1, y.Cipher.2⟩, h.Deposit, h.Withdraw, h.Fee, h.Account, h.Nonce, by have := h.Expiry; omega, h.Proof.2⟩, h.Outs.1⟩
theorem l41_TxValid_pre {p0 : TTx} (h0 : TTx_R p0) : TR p0 ∧ p0.Outs.length ≤ 9223372036854775807 := h0.tr
theorem l41_TxEncode_pre {p0 : TTx} (h0 : TTx_R p0) : TR p0 ∧ p0.Outs.length ≤ 9223372036854775807 := h0.tr
theorem l41_TxRoundTrip_pre {p0 : TTx} (h0 : TTx_R p0) : TR p0 ∧ p0.Outs.length ≤ 9223372036854775807 := h0.tr
theorem l41_TxLongProof_pre {p0 : TTx} {p1 : Int} (h0 : TTx_R p0) (h1 : 0 ≤ p1 ∧ p1 < 256) : TR p0 ∧ p0.Outs.length ≤ 9223372036854775807 ∧ 0 ≤ p1 ∧ p1 < 256 := ⟨h0.tr.1, h0.tr.2, h1⟩
theorem l41_TxWeightOfShape_pre {p0 p1 : TTx} (h0 : TTx_R p0) (h1 : TTx_R p1) : TR p0 ∧ p0.Outs.length ≤ 9223372036854775807 ∧ TR p1 ∧ p1.Outs.length ≤ 9223372036854775807 := ⟨h0.tr.1, h0.tr.2, h1.tr.1, h1.tr.2⟩
theorem l41_TxBindIgnoresProof_pre {p0 : TTx} {p1 : List Int} (h0 : TTx_R p0) (h1 : p1.length ≤ 9223372036854775807 ∧ ∀ y ∈ p1, 0 ≤ y ∧ y < 256) : TR p0 ∧ p0.Outs.length ≤ 9223372036854775807 ∧ By p1 ∧ p1.length ≤ 9223372036854775807 := ⟨h0.tr.1, h0.tr.2, h1.2, h1.1⟩
theorem l41_TxDecode_pre {p0 : List Int} (h0 : p0.length ≤ 9223372036854775807 ∧ ∀ y ∈ p0, 0 ≤ y ∧ y < 256) : By p0 ∧ p0.length ≤ 9223372036854775807 := ⟨h0.2, h0.1⟩
end Go.Proofs.Ytdbnagpoknmoiaa
namespace Go.Proofs.Ytdbnagpoknmoiaa
open Go Go.Bv Go.Cv Go.Md Go.RowKit
def Field_Valid_sh : Con TB.den := Con.mk0 67 [.agg [.d (.int .u64)]] [] (.one (.one (.d (.bool)))) []
abbrev Field_Valid_I := HL TB.den (hsT Field_Valid_sh.ins (hsOs Field_Valid_sh.pre))
abbrev Field_Valid_O := HL TB.den (hsV Field_Valid_sh.res (hsOs Field_Valid_sh.post))
noncomputable def Field_Valid_cx : Cx TB := ⟨inf, [], [], 4⟩
noncomputable def Field_Valid_code : Code := Try.f67.body.getD .skip
noncomputable def Field_Valid_rs : List ResultVar := Try.f67.results.toList
noncomputable def Field_Valid_an (o : Field_Valid_O) : An TB := .no
noncomputable def Field_Valid_Body (x : Field_Valid_I) (o : Field_Valid_O) : Prop := WPh TB Field_Valid_cx 13 0 Field_Valid_code (Field_Valid_an o) (Field_Valid_sh.st TB x) (retTQ TB Field_Valid_cx Field_Valid_sh Field_Valid_rs o)
set_option maxRecDepth 100000 in
theorem Field_Valid_obl (o : Field_Valid_O) : OblH TB Field_Valid_cx 13 0 Field_Valid_code (Field_Valid_an o) (retTQ TB Field_Valid_cx Field_Valid_sh Field_Valid_rs o) :=
  OblH.of_eq (X := (True ∧ ((True ∧ ((True ∧ (True ∧ (True ∧ (True ∧ (True ∧ (True ∧ (True ∧ (True ∧ (True ∧ (True ∧ (True ∧ (True ∧ True)))))))))))) ∧ ((True ∧ True) ∧ True))) ∧ (True ∧ True)))) (by kernel_rfl) ⟨trivial, ⟨⟨trivial, ⟨⟨trivial, ⟨trivial, ⟨trivial, ⟨trivial, ⟨trivial, ⟨trivial, ⟨trivial, ⟨trivial, ⟨trivial, ⟨trivial, ⟨trivial, ⟨trivial, trivial⟩⟩⟩⟩⟩⟩⟩⟩⟩⟩⟩⟩, ⟨⟨trivial, trivial⟩, trivial⟩⟩⟩, ⟨trivial, trivial⟩⟩⟩
set_option maxRecDepth 100000 in
theorem Field_Valid_snd {x : Field_Valid_I} {o : Field_Valid_O} (h : Field_Valid_Body x o) : SoundH Try.prog Field_Valid_sh.f ((Field_Valid_sh.args idf x).map (er TB)) ((Field_Valid_sh.obs idf x).map (erO TB)) (er TB (Field_Valid_sh.val idf o)) ((Field_Valid_sh.ops idf o).map (erO TB)) :=
  Con.soundH (c := Field_Valid_sh) (C := Field_Valid_cx) TBok ⟨inf_ok, all_nil, all_nil⟩ mix Try.func67 (show Try.f67.body = some Field_Valid_code by kernel_rfl) (show Try.f67.ntmps = 13 by kernel_rfl) (show Try.f67.results.toList = Field_Valid_rs by kernel_rfl) rfl h (Field_Valid_obl o)
set_option maxRecDepth 100000 in
theorem Field_Valid_in {p0 : TField} {r0 : Bool} (h :
(((p0.P == 18446744069414584321) = true →
((p0.P == 18446744069414584321) = true →
 true = r0) ∧
((p0.P == 18446744069414584321) = false →
 false = r0)) ∧
((p0.P == 18446744069414584321) = false →
((p0.P == 17) = true →
((p0.P == 17) = true →
 true = r0) ∧
((p0.P == 17) = false →
 false = r0)) ∧
((p0.P == 17) = false →
((p0.P == 97) = true →
((p0.P == 97) = true →
 true = r0) ∧
((p0.P == 97) = false →
 false = r0)) ∧
((p0.P == 97) = false →
((p0.P == 193) = true →
((p0.P == 193) = true →
 true = r0) ∧
((p0.P == 193) = false →
 false = r0)) ∧
((p0.P == 193) = false →
((p0.P == 257) = true →
((p0.P == 257) = true →
 true = r0) ∧
((p0.P == 257) = false →
 false = r0)) ∧
((p0.P == 257) = false →
((p0.P == 12289) = true →
((p0.P == 12289) = true →
 true = r0) ∧
((p0.P == 12289) = false →
 false = r0)) ∧
((p0.P == 12289) = false →
((p0.P == 65537) = true →
 true = r0) ∧
((p0.P == 65537) = false →
 false = r0))))))))) : Field_Valid_Body (p0.P, ()) (r0, ()) := WPh.of_eq (by kernel_rfl) h
theorem bd67 : Callable Try.prog 67 := ⟨by rw [Try.func67]; kernel_rfl, by rw [Try.func67]; show some _ ≠ some _; decide⟩
theorem Field_Valid_body (p0 : TField) (h : p0.P = 18446744069414584321) : Field_Valid_Body (p0.P, ()) ((true : Bool), ()) := by
  refine Field_Valid_in ?_
  simp [h]
noncomputable def Field_Valid_con : Con TB.den := Field_Valid_sh.fnR (fun x => (fun (p0 : TField) => p0.P = 18446744069414584321) (TField.mk x.1)) fun x => ((fun (p0 : TField) => (true : Bool)) (TField.mk x.1), ())
theorem Field_Valid_ok : Field_Valid_con.Ok Try.prog TB := Con.ok_fn Field_Valid_sh bd67 fun x h => Field_Valid_snd (Field_Valid_body (TField.mk x.1) h)
end Go.Proofs.Ytdbnagpoknmoiaa
namespace Go.Proofs.Ytdbnagpoknmoiaa
open Go Go.Bv Go.Cv Go.Md Go.RowKit
def Field_add_sh : Con TB.den := Con.mk0 72 [.agg [.d (.int .u64)], .one (.d (.int .u64)), .one (.d (.int .u64))] [] (.one (.one (.d (.int .u64)))) []
abbrev Field_add_I := HL TB.den (hsT Field_add_sh.ins (hsOs Field_add_sh.pre))
abbrev Field_add_O := HL TB.den (hsV Field_add_sh.res (hsOs Field_add_sh.post))
noncomputable def Field_add_cx : Cx TB := ⟨inf, [], [x79], 4⟩
noncomputable def Field_add_code : Code := Try.f72.body.getD .skip
noncomputable def Field_add_rs : List ResultVar := Try.f72.results.toList
noncomputable def Field_add_Q1 (o : Field_add_O) : Exit → TSt TB.den → Prop := thenT TB (fun s => ghs TB [] s fun s => WP TB Field_add_cx 28 0 (cB (cB (cB Field_add_code))) .no s (retTQ TB Field_add_cx Field_add_sh Field_add_rs o)) (retTQ TB Field_add_cx Field_add_sh Field_add_rs o)
def Field_add_TJ1 : Tm := ⟨[0], [.cells [.d (.int .u64)]], [3, 7, 22], [.one (.ptr 0 0), .one (.d (.int .u64)), .one (.d (.bool))], 1⟩
noncomputable def Field_add_J1d (o : Field_add_O) (i : HL TB.den Field_add_TJ1.hs) : Prop := ghs TB [] (Field_add_TJ1.fill TB i) fun s => WP TB Field_add_cx 28 0 (cB (cA (cB (cB Field_add_code)))) .no s (Field_add_Q1 o)
structure Field_add_J1 (o : Field_add_O) (i : HL TB.den Field_add_TJ1.hs) : Prop where
  h : Field_add_J1d o i
noncomputable def Field_add_A3 (o : Field_add_O) : An TB := .nd [] (.jn Field_add_TJ1 (Field_add_J1 o) [] .no [] .no) [] .no
noncomputable def Field_add_an (o : Field_add_O) : An TB := .nd [] .no [] (.nd [] .no [] (Field_add_A3 o))
noncomputable def Field_add_Body (x : Field_add_I) (o : Field_add_O) : Prop := WPh TB Field_add_cx 28 0 Field_add_code (Field_add_an o) (Field_add_sh.st TB x) (retTQ TB Field_add_cx Field_add_sh Field_add_rs o)
set_option maxRecDepth 100000 in
theorem Field_add_obl (o : Field_add_O) : OblH TB Field_add_cx 28 0 Field_add_code (Field_add_an o) (retTQ TB Field_add_cx Field_add_sh Field_add_rs o) :=
  OblH.of_eq (X := (True ∧ (True ∧ ((True ∧ (∀ i, (Field_add_J1 o) i = (Field_add_J1d o) i) ∧ (True ∧ True)) ∧ (True ∧ True))))) (by kernel_rfl) ⟨trivial, ⟨trivial, ⟨⟨trivial, fun _ => propext ⟨fun h => h.1, fun h => ⟨h⟩⟩, ⟨trivial, trivial⟩⟩, ⟨trivial, trivial⟩⟩⟩⟩
set_option maxRecDepth 100000 in
theorem Field_add_snd {x : Field_add_I} {o : Field_add_O} (h : Field_add_Body x o) : SoundH Try.prog Field_add_sh.f ((Field_add_sh.args idf x).map (er TB)) ((Field_add_sh.obs idf x).map (erO TB)) (er TB (Field_add_sh.val idf o)) ((Field_add_sh.ops idf o).map (erO TB)) :=
  Con.soundH (c := Field_add_sh) (C := Field_add_cx) TBok ⟨inf_ok, all_nil, (all_cons x79_ok all_nil)⟩ mix Try.func72 (show Try.f72.body = some Field_add_code by kernel_rfl) (show Try.f72.ntmps = 28 by kernel_rfl) (show Try.f72.results.toList = Field_add_rs by kernel_rfl) rfl h (Field_add_obl o)
set_option maxRecDepth 100000 in
theorem Field_add_in {p0 : TField} {p1 : Int} {p2 : Int} {r0 : Int} (h :
((0 ≤ p1 ∧ 0 ≤ p2 ∧ 0 ≤ (0 : Int) ∧ (0 : Int) ≤ 1) ∧ let r1 : Int := (p1 + p2 + (0 : Int)) % 18446744073709551616
 let r2 : Int := (p1 + p2 + (0 : Int)) / 18446744073709551616
((r2 != 0) = true →
 Field_add_J1 (r0, ()) (r1, true, p0.P, ())) ∧
((r2 != 0) = false →
 Field_add_J1 (r0, ()) (r1, (decide (p0.P ≤ r1) : Bool), p0.P, ())))) : Field_add_Body (p0.P, p1, p2, ()) (r0, ()) := WPh.of_eq (by kernel_rfl) h
set_option maxRecDepth 100000 in
theorem Field_add_J1_in {r0 : Int} {s7 : Int} {s22 : Bool} {h0_0 : Int} (h :
((s22 = true →
 IntKind.u64.wrap (s7 - h0_0) = r0) ∧
(s22 = false →
 s7 = r0))) : Field_add_J1 (r0, ()) (s7, s22, h0_0, ()) := ⟨mpr_of (by kernel_rfl) h⟩
theorem bd72 : Callable Try.prog 72 := ⟨by rw [Try.func72]; kernel_rfl, by rw [Try.func72]; show some _ ≠ some _; decide⟩
theorem Field_add_body (p0 : TField) (p1 : Int) (p2 : Int) (h : p0.P = 18446744069414584321 ∧ (0 ≤ p1 ∧ p1 < 18446744069414584321) ∧ (0 ≤ p2 ∧ p2 < 18446744069414584321)) : Field_add_Body (p0.P, p1, p2, ()) (((p1 + p2) % 18446744069414584321 : Int), ()) := by
  obtain ⟨hP, h1, h2⟩ := h
  refine Field_add_in ⟨by omega, ?_, ?_⟩
  · intro h
    refine Field_add_J1_in ⟨fun _ => ?_, fun h => by simp at h⟩
    have h : (p1 + p2 + 0) / 18446744073709551616 ≠ 0 := by simpa using h
    rw [hP, u64w]; omega
  · intro h
    have h : (p1 + p2 + 0) / 18446744073709551616 = 0 := by simpa using h
    refine Field_add_J1_in ⟨fun g => ?_, fun g => ?_⟩
    · have g := of_decide_eq_true g
      rw [hP] at g ⊢
      rw [u64w]; omega
    · have g := of_decide_eq_false g
      rw [hP] at g
      omega
noncomputable def Field_add_con : Con TB.den := Field_add_sh.fnR (fun x => (fun (p0 : TField) (p1 : Int) (p2 : Int) => p0.P = 18446744069414584321 ∧ (0 ≤ p1 ∧ p1 < 18446744069414584321) ∧ (0 ≤ p2 ∧ p2 < 18446744069414584321)) (TField.mk x.1) x.2.1 x.2.2.1) fun x => ((fun (p0 : TField) (p1 : Int) (p2 : Int) => ((p1 + p2) % 18446744069414584321 : Int)) (TField.mk x.1) x.2.1 x.2.2.1, ())
theorem Field_add_ok : Field_add_con.Ok Try.prog TB := Con.ok_fn Field_add_sh bd72 fun x h => Field_add_snd (Field_add_body (TField.mk x.1) x.2.1 x.2.2.1 h)
end Go.Proofs.Ytdbnagpoknmoiaa
namespace Go.Proofs.Ytdbnagpoknmoiaa
open Go Go.Bv Go.Cv Go.Md Go.RowKit
def Field_reduced_sh : Con TB.den := Con.mk0 73 [.agg [.d (.int .u64)], .one (.d (.int .u64))] [] (.one (.one (.d (.int .u64)))) []
abbrev Field_reduced_I := HL TB.den (hsT Field_reduced_sh.ins (hsOs Field_reduced_sh.pre))
abbrev Field_reduced_O := HL TB.den (hsV Field_reduced_sh.res (hsOs Field_reduced_sh.post))
noncomputable def Field_reduced_cx : Cx TB := ⟨inf, [], [], 4⟩
noncomputable def Field_reduced_code : Code := Try.f73.body.getD .skip
noncomputable def Field_reduced_rs : List ResultVar := Try.f73.results.toList
noncomputable def Field_reduced_an (o : Field_reduced_O) : An TB := .no
noncomputable def Field_reduced_Body (x : Field_reduced_I) (o : Field_reduced_O) : Prop := WPh TB Field_reduced_cx 14 0 Field_reduced_code (Field_reduced_an o) (Field_reduced_sh.st TB x) (retTQ TB Field_reduced_cx Field_reduced_sh Field_reduced_rs o)
set_option maxRecDepth 100000 in
theorem Field_reduced_obl (o : Field_reduced_O) : OblH TB Field_reduced_cx 14 0 Field_reduced_code (Field_reduced_an o) (retTQ TB Field_reduced_cx Field_reduced_sh Field_reduced_rs o) :=
  OblH.of_eq (X := (True ∧ ((True ∧ (True ∧ True)) ∧ (True ∧ True)))) (by kernel_rfl) ⟨trivial, ⟨⟨trivial, ⟨trivial, trivial⟩⟩, ⟨trivial, trivial⟩⟩⟩
set_option maxRecDepth 100000 in
theorem Field_reduced_snd {x : Field_reduced_I} {o : Field_reduced_O} (h : Field_reduced_Body x o) : SoundH Try.prog Field_reduced_sh.f ((Field_reduced_sh.args idf x).map (er TB)) ((Field_reduced_sh.obs idf x).map (erO TB)) (er TB (Field_reduced_sh.val idf o)) ((Field_reduced_sh.ops idf o).map (erO TB)) :=
  Con.soundH (c := Field_reduced_sh) (C := Field_reduced_cx) TBok ⟨inf_ok, all_nil, all_nil⟩ mix Try.func73 (show Try.f73.body = some Field_reduced_code by kernel_rfl) (show Try.f73.ntmps = 14 by kernel_rfl) (show Try.f73.results.toList = Field_reduced_rs by kernel_rfl) rfl h (Field_reduced_obl o)
set_option maxRecDepth 100000 in
theorem Field_reduced_in {p0 : TField} {p1 : Int} {r0 : Int} (h :
((decide (p0.P ≤ p1) = true →
(p0.P ≠ 0) ∧ Int.tmod p1 p0.P = r0) ∧
(decide (p0.P ≤ p1) = false →
 p1 = r0))) : Field_reduced_Body (p0.P, p1, ()) (r0, ()) := WPh.of_eq (by kernel_rfl) h
theorem bd73 : Callable Try.prog 73 := ⟨by rw [Try.func73]; kernel_rfl, by rw [Try.func73]; show some _ ≠ some _; decide⟩
theorem Field_reduced_body (p0 : TField) (p1 : Int) (h : 0 < p0.P ∧ 0 ≤ p1) : Field_reduced_Body (p0.P, p1, ()) ((p1 % p0.P : Int), ()) := by
  refine Field_reduced_in ⟨fun h1 => ⟨by omega, tmod_nn _ _ h.2⟩, fun h1 => ?_⟩
  simp at h1
  rw [Int.emod_eq_of_lt (by omega) (by omega)]
noncomputable def Field_reduced_con : Con TB.den := Field_reduced_sh.fnR (fun x => (fun (p0 : TField) (p1 : Int) => 0 < p0.P ∧ 0 ≤ p1) (TField.mk x.1) x.2.1) fun x => ((fun (p0 : TField) (p1 : Int) => (p1 % p0.P : Int)) (TField.mk x.1) x.2.1, ())
theorem Field_reduced_ok : Field_reduced_con.Ok Try.prog TB := Con.ok_fn Field_reduced_sh bd73 fun x h => Field_reduced_snd (Field_reduced_body (TField.mk x.1) x.2.1 h)
end Go.Proofs.Ytdbnagpoknmoiaa
namespace Go.Proofs.Ytdbnagpoknmoiaa
open Go Go.Bv Go.Cv Go.Md Go.RowKit
def Field_Add_sh : Con TB.den := Con.mk0 69 [.agg [.d (.int .u64)], .one (.d (.int .u64)), .one (.d (.int .u64))] [] (.one (.one (.d (.int .u64)))) []
abbrev Field_Add_I := HL TB.den (hsT Field_Add_sh.ins (hsOs Field_Add_sh.pre))
abbrev Field_Add_O := HL TB.den (hsV Field_Add_sh.res (hsOs Field_Add_sh.post))
noncomputable def Field_Add_cx : Cx TB := ⟨inf, [Field_Valid_con, Field_reduced_con, Field_add_con], [], 4⟩
noncomputable def Field_Add_code : Code := Try.f69.body.getD .skip
noncomputable def Field_Add_rs : List ResultVar := Try.f69.results.toList
noncomputable def Field_Add_an (o : Field_Add_O) : An TB := .no
noncomputable def Field_Add_Body (x : Field_Add_I) (o : Field_Add_O) : Prop := WPh TB Field_Add_cx 18 0 Field_Add_code (Field_Add_an o) (Field_Add_sh.st TB x) (retTQ TB Field_Add_cx Field_Add_sh Field_Add_rs o)
set_option maxRecDepth 100000 in
theorem Field_Add_obl (o : Field_Add_O) : OblH TB Field_Add_cx 18 0 Field_Add_code (Field_Add_an o) (retTQ TB Field_Add_cx Field_Add_sh Field_Add_rs o) :=
  OblH.of_eq (X := (True ∧ ((True ∧ ((True ∧ True) ∧ True)) ∧ (True ∧ True)))) (by kernel_rfl) ⟨trivial, ⟨⟨trivial, ⟨⟨trivial, trivial⟩, trivial⟩⟩, ⟨trivial, trivial⟩⟩⟩
set_option maxRecDepth 100000 in
theorem Field_Add_snd {x : Field_Add_I} {o : Field_Add_O} (h : Field_Add_Body x o) : SoundH Try.prog Field_Add_sh.f ((Field_Add_sh.args idf x).map (er TB)) ((Field_Add_sh.obs idf x).map (erO TB)) (er TB (Field_Add_sh.val idf o)) ((Field_Add_sh.ops idf o).map (erO TB)) :=
  Con.soundH (c := Field_Add_sh) (C := Field_Add_cx) TBok ⟨inf_ok, (all_cons Field_Valid_ok (all_cons Field_reduced_ok (all_cons Field_add_ok all_nil))), all_nil⟩ mix Try.func69 (show Try.f69.body = some Field_Add_code by kernel_rfl) (show Try.f69.ntmps = 18 by kernel_rfl) (show Try.f69.results.toList = Field_Add_rs by kernel_rfl) rfl h (Field_Add_obl o)
set_option maxRecDepth 100000 in
theorem Field_Add_in {p0 : TField} {p1 : Int} {p2 : Int} {r0 : Int} (h :
((p0.P = 18446744069414584321) ∧ ((!true) = true →
 0 = r0) ∧
((!true) = false →
(0 < p0.P ∧ 0 ≤ p1) ∧ (0 < p0.P ∧ 0 ≤ p2) ∧ (p0.P = 18446744069414584321 ∧ (0 ≤ (p1 % p0.P) ∧ (p1 % p0.P) < 18446744069414584321) ∧ (0 ≤ (p2 % p0.P) ∧ (p2 % p0.P) < 18446744069414584321)) ∧ let r1 : Int := ((p1 % p0.P) + (p2 % p0.P)) % 18446744069414584321
 r1 = r0))) : Field_Add_Body (p0.P, p1, p2, ()) (r0, ()) := WPh.of_eq (by kernel_rfl) h
theorem bd69 : Callable Try.prog 69 := ⟨by rw [Try.func69]; kernel_rfl, by rw [Try.func69]; show some _ ≠ some _; decide⟩
theorem Field_Add_body (p0 : TField) (p1 : Int) (p2 : Int) (h : p0.P = 18446744069414584321 ∧ U64 p1 ∧ U64 p2) : Field_Add_Body (p0.P, p1, p2, ()) (((p1 + p2) % 18446744069414584321 : Int), ()) := by
  obtain ⟨hP, h1, h2⟩ := h
  refine Field_Add_in ⟨hP, ?_⟩
  simp only [hP]
  refine ⟨fun h => by simp at h, fun _ => ⟨by omega, by omega, ⟨by trivial, by omega, by omega⟩, ?_⟩⟩
  omega
noncomputable def Field_Add_con : Con TB.den := Field_Add_sh.fnR (fun x => (fun (p0 : TField) (p1 : Int) (p2 : Int) => p0.P = 18446744069414584321 ∧ U64 p1 ∧ U64 p2) (TField.mk x.1) x.2.1 x.2.2.1) fun x => ((fun (p0 : TField) (p1 : Int) (p2 : Int) => ((p1 + p2) % 18446744069414584321 : Int)) (TField.mk x.1) x.2.1 x.2.2.1, ())
theorem Field_Add_ok : Field_Add_con.Ok Try.prog TB := Con.ok_fn Field_Add_sh bd69 fun x h => Field_Add_snd (Field_Add_body (TField.mk x.1) x.2.1 x.2.2.1 h)
end Go.Proofs.Ytdbnagpoknmoiaa
namespace Go.Proofs.Ytdbnagpoknmoiaa
open Go Go.Bv Go.Cv Go.Md Go.RowKit
def bits_Len64_sh : Con TB.den := Con.mk0 86 [.one (.d (.int .u64))] [] (.one (.one (.d (.int .i64)))) []
abbrev bits_Len64_I := HL TB.den (hsT bits_Len64_sh.ins (hsOs bits_Len64_sh.pre))
abbrev bits_Len64_O := HL TB.den (hsV bits_Len64_sh.res (hsOs bits_Len64_sh.post))
noncomputable def bits_Len64_cx : Cx TB := ⟨inf, [], [], 4⟩
noncomputable def bits_Len64_code : Code := Try.f86.body.getD .skip
noncomputable def bits_Len64_rs : List ResultVar := Try.f86.results.toList
def bits_Len64_TJ3 : Tm := ⟨[], [], [0, 2], [.one (.d (.int .u64)), .one (.d (.int .i64))], 0⟩
noncomputable def bits_Len64_J3d (o : bits_Len64_O) (i : HL TB.den bits_Len64_TJ3.hs) : Prop := ghs TB [] (bits_Len64_TJ3.fill TB i) fun s => WP TB bits_Len64_cx 25 0 (cB (cB (cB (cB bits_Len64_code)))) .no s (retTQ TB bits_Len64_cx bits_Len64_sh bits_Len64_rs o)
structure bits_Len64_J3 (o : bits_Len64_O) (i : HL TB.den bits_Len64_TJ3.hs) : Prop where
  h : bits_Len64_J3d o i
def bits_Len64_TJ2 : Tm := ⟨[], [], [0, 2], [.one (.d (.int .u64)), .one (.d (.int .i64))], 0⟩
noncomputable def bits_Len64_J2d (o : bits_Len64_O) (i : HL TB.den bits_Len64_TJ2.hs) : Prop := ghs TB [] (bits_Len64_TJ2.fill TB i) fun s => WP TB bits_Len64_cx 25 0 (cB (cB (cB bits_Len64_code))) (.jn bits_Len64_TJ3 (bits_Len64_J3 o) [] .no [] .no) s (retTQ TB bits_Len64_cx bits_Len64_sh bits_Len64_rs o)
structure bits_Len64_J2 (o : bits_Len64_O) (i : HL TB.den bits_Len64_TJ2.hs) : Prop where
  h : bits_Len64_J2d o i
noncomputable def bits_Len64_A3 (o : bits_Len64_O) : An TB := .jn bits_Len64_TJ2 (bits_Len64_J2 o) [] .no [] (.jn bits_Len64_TJ3 (bits_Len64_J3 o) [] .no [] .no)
def bits_Len64_TJ1 : Tm := ⟨[], [], [0, 2], [.one (.d (.int .u64)), .one (.d (.int .i64))], 0⟩
noncomputable def bits_Len64_J1d (o : bits_Len64_O) (i : HL TB.den bits_Len64_TJ1.hs) : Prop := ghs TB [] (bits_Len64_TJ1.fill TB i) fun s => WP TB bits_Len64_cx 25 0 (cB (cB bits_Len64_code)) (bits_Len64_A3 o) s (retTQ TB bits_Len64_cx bits_Len64_sh bits_Len64_rs o)
structure bits_Len64_J1 (o : bits_Len64_O) (i : HL TB.den bits_Len64_TJ1.hs) : Prop where
  h : bits_Len64_J1d o i
noncomputable def bits_Len64_A5 (o : bits_Len64_O) : An TB := .jn bits_Len64_TJ1 (bits_Len64_J1 o) [] .no [] (bits_Len64_A3 o)
noncomputable def bits_Len64_an (o : bits_Len64_O) : An TB := .nd [] .no [] (bits_Len64_A5 o)
noncomputable def bits_Len64_Body (x : bits_Len64_I) (o : bits_Len64_O) : Prop := WPh TB bits_Len64_cx 25 0 bits_Len64_code (bits_Len64_an o) (bits_Len64_sh.st TB x) (retTQ TB bits_Len64_cx bits_Len64_sh bits_Len64_rs o)
set_option maxRecDepth 100000 in
theorem bits_Len64_obl (o : bits_Len64_O) : OblH TB bits_Len64_cx 25 0 bits_Len64_code (bits_Len64_an o) (retTQ TB bits_Len64_cx bits_Len64_sh bits_Len64_rs o) :=
  OblH.of_eq (X := (True ∧ ((True ∧ ((True ∧ True) ∧ True)) ∧ (∀ i, (bits_Len64_J1 o) i = (bits_Len64_J1d o) i) ∧ ((True ∧ ((True ∧ True) ∧ True)) ∧ (∀ i, (bits_Len64_J2 o) i = (bits_Len64_J2d o) i) ∧ ((True ∧ ((True ∧ True) ∧ True)) ∧ (∀ i, (bits_Len64_J3 o) i = (bits_Len64_J3d o) i) ∧ (True ∧ True)))))) (by kernel_rfl) ⟨trivial, ⟨⟨trivial, ⟨⟨trivial, trivial⟩, trivial⟩⟩, fun _ => propext ⟨fun h => h.1, fun h => ⟨h⟩⟩, ⟨⟨trivial, ⟨⟨trivial, trivial⟩, trivial⟩⟩, fun _ => propext ⟨fun h => h.1, fun h => ⟨h⟩⟩, ⟨⟨trivial, ⟨⟨trivial, trivial⟩, trivial⟩⟩, fun _ => propext ⟨fun h => h.1, fun h => ⟨h⟩⟩, ⟨trivial, trivial⟩⟩⟩⟩⟩
set_option maxRecDepth 100000 in
theorem bits_Len64_snd {x : bits_Len64_I} {o : bits_Len64_O} (h : bits_Len64_Body x o) : SoundH Try.prog bits_Len64_sh.f ((bits_Len64_sh.args idf x).map (er TB)) ((bits_Len64_sh.obs idf x).map (erO TB)) (er TB (bits_Len64_sh.val idf o)) ((bits_Len64_sh.ops idf o).map (erO TB)) :=
  Con.soundH (c := bits_Len64_sh) (C := bits_Len64_cx) TBok ⟨inf_ok, all_nil, all_nil⟩ mix Try.func86 (show Try.f86.body = some bits_Len64_code by kernel_rfl) (show Try.f86.ntmps = 25 by kernel_rfl) (show Try.f86.results.toList = bits_Len64_rs by kernel_rfl) rfl h (bits_Len64_obl o)
set_option maxRecDepth 100000 in
theorem bits_Len64_in {p0 : Int} {r0 : Int} (h :
((decide (4294967296 ≤ p0) = true →
 bits_Len64_J1 (r0, ()) ((ishr .u64 p0 32 : Int), (32 : Int), ())) ∧
(decide (4294967296 ≤ p0) = false →
 bits_Len64_J1 (r0, ()) (p0, (0 : Int), ())))) : bits_Len64_Body (p0, ()) (r0, ()) := WPh.of_eq (by kernel_rfl) h
set_option maxRecDepth 100000 in
theorem bits_Len64_J1_in {r0 : Int} {s0 : Int} {s2 : Int} (h :
((decide (65536 ≤ s0) = true →
 bits_Len64_J2 (r0, ()) ((ishr .u64 s0 16 : Int), (IntKind.i64.wrap (s2 + 16) : Int), ())) ∧
(decide (65536 ≤ s0) = false →
 bits_Len64_J2 (r0, ()) (s0, s2, ())))) : bits_Len64_J1 (r0, ()) (s0, s2, ()) := ⟨mpr_of (by kernel_rfl) h⟩
set_option maxRecDepth 100000 in
theorem bits_Len64_J2_in {r0 : Int} {s0 : Int} {s2 : Int} (h :
((decide (256 ≤ s0) = true →
 bits_Len64_J3 (r0, ()) ((ishr .u64 s0 8 : Int), (IntKind.i64.wrap (s2 + 8) : Int), ())) ∧
(decide (256 ≤ s0) = false →
 bits_Len64_J3 (r0, ()) (s0, s2, ())))) : bits_Len64_J2 (r0, ()) (s0, s2, ()) := ⟨mpr_of (by kernel_rfl) h⟩
set_option maxRecDepth 100000 in
theorem bits_Len64_J3_in {r0 : Int} {s0 : Int} {s2 : Int} (h :
((0 ≤ IntKind.u8.wrap s0 ∧ IntKind.u8.wrap s0 < ((⟨#[0, 1, 2, 2, 3, 3, 3, 3, 4, 4, 4, 4, 4, 4, 4, 4, 5, 5, 5, 5, 5, 5, 5, 5, 5, 5, 5, 5, 5, 5, 5, 5, 6, 6, 6, 6, 6, 6, 6, 6, 6, 6, 6, 6, 6, 6, 6, 6, 6, 6, 6, 6, 6, 6, 6, 6, 6, 6, 6, 6, 6, 6, 6, 6, 7, 7, 7, 7, 7, 7, 7, 7, 7, 7, 7, 7, 7, 7, 7, 7, 7, 7, 7, 7, 7, 7, 7, 7, 7, 7, 7, 7, 7, 7, 7, 7, 7, 7, 7, 7, 7, 7, 7, 7, 7, 7, 7, 7, 7, 7, 7, 7, 7, 7, 7, 7, 7, 7, 7, 7, 7, 7, 7, 7, 7, 7, 7, 7, 8, 8, 8, 8, 8, 8, 8, 8, 8, 8, 8, 8, 8, 8, 8, 8, 8, 8, 8, 8, 8, 8, 8, 8, 8, 8, 8, 8, 8, 8, 8, 8, 8, 8, 8, 8, 8, 8, 8, 8, 8, 8, 8, 8, 8, 8, 8, 8, 8, 8, 8, 8, 8, 8, 8, 8, 8, 8, 8, 8, 8, 8, 8, 8, 8, 8, 8, 8, 8, 8, 8, 8, 8, 8, 8, 8, 8, 8, 8, 8, 8, 8, 8, 8, 8, 8, 8, 8, 8, 8, 8, 8, 8, 8, 8, 8, 8, 8, 8, 8, 8, 8, 8, 8, 8, 8, 8, 8, 8, 8, 8, 8, 8, 8, 8, 8, 8, 8, 8, 8, 8, 8, 8, 8, 8, 8, 8, 8]⟩ : ByteArray).size : Int)) ∧ let v1 : Int := byteAt (⟨#[0, 1, 2, 2, 3, 3, 3, 3, 4, 4, 4, 4, 4, 4, 4, 4, 5, 5, 5, 5, 5, 5, 5, 5, 5, 5, 5, 5, 5, 5, 5, 5, 6, 6, 6, 6, 6, 6, 6, 6, 6, 6, 6, 6, 6, 6, 6, 6, 6, 6, 6, 6, 6, 6, 6, 6, 6, 6, 6, 6, 6, 6, 6, 6, 7, 7, 7, 7, 7, 7, 7, 7, 7, 7, 7, 7, 7, 7, 7, 7, 7, 7, 7, 7, 7, 7, 7, 7, 7, 7, 7, 7, 7, 7, 7, 7, 7, 7, 7, 7, 7, 7, 7, 7, 7, 7, 7, 7, 7, 7, 7, 7, 7, 7, 7, 7, 7, 7, 7, 7, 7, 7, 7, 7, 7, 7, 7, 7, 8, 8, 8, 8, 8, 8, 8, 8, 8, 8, 8, 8, 8, 8, 8, 8, 8, 8, 8, 8, 8, 8, 8, 8, 8, 8, 8, 8, 8, 8, 8, 8, 8, 8, 8, 8, 8, 8, 8, 8, 8, 8, 8, 8, 8, 8, 8, 8, 8, 8, 8, 8, 8, 8, 8, 8, 8, 8, 8, 8, 8, 8, 8, 8, 8, 8, 8, 8, 8, 8, 8, 8, 8, 8, 8, 8, 8, 8, 8, 8, 8, 8, 8, 8, 8, 8, 8, 8, 8, 8, 8, 8, 8, 8, 8, 8, 8, 8, 8, 8, 8, 8, 8, 8, 8, 8, 8, 8, 8, 8, 8, 8, 8, 8, 8, 8, 8, 8, 8, 8, 8, 8, 8, 8, 8, 8, 8, 8]⟩ : ByteArray) (IntKind.u8.wrap s0)
 let v2 : Int := IntKind.i64.wrap (s2 + (IntKind.i64.wrap v1))
 v2 = r0)) : bits_Len64_J3 (r0, ()) (s0, s2, ()) := ⟨mpr_of (by kernel_rfl) h⟩
theorem bd86 : Callable Try.prog 86 := ⟨by rw [Try.func86]; kernel_rfl, by rw [Try.func86]; show some _ ≠ some _; decide⟩
theorem bits_Len64_body (p0 : Int) (h : U64 p0) : bits_Len64_Body (p0, ()) ((len64 p0 : Int), ()) := by
  have j3 : ∀ s0 s2 : Int, 0 ≤ s0 → s0 < 256 → 0 ≤ s2 → s2 ≤ 56 → bits_Len64_J3 (s2 + len64 s0, ()) (s0, s2, ()) := fun s0 s2 h0 h1 h2 h3 => by
    refine bits_Len64_J3_in ?_
    have e : IntKind.u8.wrap s0 = s0 := by rw [u8w]; omega
    have l := len64_small s0 ⟨h0, h1⟩
    show (0 ≤ IntKind.u8.wrap s0 ∧ IntKind.u8.wrap s0 < (tab8.size : Int)) ∧ IntKind.i64.wrap (s2 + IntKind.i64.wrap (byteAt tab8 (IntKind.u8.wrap s0))) = _
    rw [e, tab8_size, tab8_len s0 ⟨h0, h1⟩, wi (len64 s0) (by omega) (by omega), wi (s2 + len64 s0) (by omega) (by omega)]
    exact ⟨⟨h0, h1⟩, rfl⟩
  have j2 : ∀ s0 s2 : Int, 0 ≤ s0 → s0 < 65536 → 0 ≤ s2 → s2 ≤ 48 → bits_Len64_J2 (s2 + len64 s0, ()) (s0, s2, ()) := fun s0 s2 h0 h1 h2 h3 => by
    refine bits_Len64_J2_in ⟨fun h => ?_, fun h => j3 s0 s2 h0 (by simpa using h) h2 (by omega)⟩
    have h := of_decide_eq_true h
    rw [ishr8, wi _ (by omega) (by omega), ← len64_shift s0 8 (by simpa using h), ← Int.add_assoc, Int.add_right_comm]
    exact j3 _ _ (by omega) (by omega) (by omega) (by omega)
  have j1 : ∀ s0 s2 : Int, 0 ≤ s0 → s0 < 4294967296 → 0 ≤ s2 → s2 ≤ 32 → bits_Len64_J1 (s2 + len64 s0, ()) (s0, s2, ()) := fun s0 s2 h0 h1 h2 h3 => by
    refine bits_Len64_J1_in ⟨fun h => ?_, fun h => j2 s0 s2 h0 (by simpa using h) h2 (by omega)⟩
    have h := of_decide_eq_true h
    rw [ishr16, wi _ (by omega) (by omega), ← len64_shift s0 16 (by simpa using h), ← Int.add_assoc, Int.add_right_comm]
    exact j2 _ _ (by omega) (by omega) (by omega) (by omega)
  refine bits_Len64_in ⟨fun h1 => ?_, fun h1 => ?_⟩
  · have h1 := of_decide_eq_true h1
    rw [ishr32, ← len64_shift p0 32 (by simpa using h1), Int.add_comm]
    exact j1 _ _ (by omega) (by omega) (by omega) (by omega)
  · have := j1 p0 0 h.1 (by simpa using h1) (by omega) (by omega)
    rwa [Int.zero_add] at this
noncomputable def bits_Len64_con : Con TB.den := bits_Len64_sh.fnR (fun x => (fun (p0 : Int) => U64 p0) x.1) fun x => ((fun (p0 : Int) => (len64 p0 : Int)) x.1, ())
theorem bits_Len64_ok : bits_Len64_con.Ok Try.prog TB := Con.ok_fn bits_Len64_sh bd86 fun x h => bits_Len64_snd (bits_Len64_body x.1 h)
end Go.Proofs.Ytdbnagpoknmoiaa
namespace Go.Proofs.Ytdbnagpoknmoiaa
open Go Go.Bv Go.Cv Go.Md Go.RowKit
def bits_LeadingZeros64_sh : Con TB.den := Con.mk0 85 [.one (.d (.int .u64))] [] (.one (.one (.d (.int .i64)))) []
abbrev bits_LeadingZeros64_I := HL TB.den (hsT bits_LeadingZeros64_sh.ins (hsOs bits_LeadingZeros64_sh.pre))
abbrev bits_LeadingZeros64_O := HL TB.den (hsV bits_LeadingZeros64_sh.res (hsOs bits_LeadingZeros64_sh.post))
noncomputable def bits_LeadingZeros64_cx : Cx TB := ⟨inf, [bits_Len64_con], [], 4⟩
noncomputable def bits_LeadingZeros64_code : Code := Try.f85.body.getD .skip
noncomputable def bits_LeadingZeros64_rs : List ResultVar := Try.f85.results.toList
noncomputable def bits_LeadingZeros64_an (o : bits_LeadingZeros64_O) : An TB := .no
noncomputable def bits_LeadingZeros64_Body (x : bits_LeadingZeros64_I) (o : bits_LeadingZeros64_O) : Prop := WPh TB bits_LeadingZeros64_cx 6 0 bits_LeadingZeros64_code (bits_LeadingZeros64_an o) (bits_LeadingZeros64_sh.st TB x) (retTQ TB bits_LeadingZeros64_cx bits_LeadingZeros64_sh bits_LeadingZeros64_rs o)
set_option maxRecDepth 100000 in
theorem bits_LeadingZeros64_obl (o : bits_LeadingZeros64_O) : OblH TB bits_LeadingZeros64_cx 6 0 bits_LeadingZeros64_code (bits_LeadingZeros64_an o) (retTQ TB bits_LeadingZeros64_cx bits_LeadingZeros64_sh bits_LeadingZeros64_rs o) :=
  OblH.of_eq (X := (True ∧ (True ∧ True))) (by kernel_rfl) ⟨trivial, ⟨trivial, trivial⟩⟩
set_option maxRecDepth 100000 in
theorem bits_LeadingZeros64_snd {x : bits_LeadingZeros64_I} {o : bits_LeadingZeros64_O} (h : bits_LeadingZeros64_Body x o) : SoundH Try.prog bits_LeadingZeros64_sh.f ((bits_LeadingZeros64_sh.args idf x).map (er TB)) ((bits_LeadingZeros64_sh.obs idf x).map (erO TB)) (er TB (bits_LeadingZeros64_sh.val idf o)) ((bits_LeadingZeros64_sh.ops idf o).map (erO TB)) :=
  Con.soundH (c := bits_LeadingZeros64_sh) (C := bits_LeadingZeros64_cx) TBok ⟨inf_ok, (all_cons bits_Len64_ok all_nil), all_nil⟩ mix Try.func85 (show Try.f85.body = some bits_LeadingZeros64_code by kernel_rfl) (show Try.f85.ntmps = 6 by kernel_rfl) (show Try.f85.results.toList = bits_LeadingZeros64_rs by kernel_rfl) rfl h (bits_LeadingZeros64_obl o)
set_option maxRecDepth 100000 in
theorem bits_LeadingZeros64_in {p0 : Int} {r0 : Int} (h :
((U64 p0) ∧ IntKind.i64.wrap (64 - (len64 p0)) = r0)) : bits_LeadingZeros64_Body (p0, ()) (r0, ()) := WPh.of_eq (by kernel_rfl) h
theorem bd85 : Callable Try.prog 85 := ⟨by rw [Try.func85]; kernel_rfl, by rw [Try.func85]; show some _ ≠ some _; decide⟩
theorem bits_LeadingZeros64_body (p0 : Int) (h : 0 < p0 ∧ p0 < 18446744073709551616) : bits_LeadingZeros64_Body (p0, ()) ((64 - len64 p0 : Int), ()) := by
  obtain ⟨s, e, h1, _⟩ := len64_spec p0 h
  refine bits_LeadingZeros64_in ⟨⟨by omega, h.2⟩, ?_⟩
  exact wi _ (by omega) (by omega)
noncomputable def bits_LeadingZeros64_con : Con TB.den := bits_LeadingZeros64_sh.fnR (fun x => (fun (p0 : Int) => 0 < p0 ∧ p0 < 18446744073709551616) x.1) fun x => ((fun (p0 : Int) => (64 - len64 p0 : Int)) x.1, ())
theorem bits_LeadingZeros64_ok : bits_LeadingZeros64_con.Ok Try.prog TB := Con.ok_fn bits_LeadingZeros64_sh bd85 fun x h => bits_LeadingZeros64_snd (bits_LeadingZeros64_body x.1 h)
end Go.Proofs.Ytdbnagpoknmoiaa
namespace Go.Proofs.Ytdbnagpoknmoiaa
open Go Go.Bv Go.Cv Go.Md Go.RowKit
def bits_Div64_sh : Con TB.den := Con.mk0 81 [.one (.d (.int .u64)), .one (.d (.int .u64)), .one (.d (.int .u64))] [] (.tup [.one (.d (.int .u64)), .one (.d (.int .u64))]) []
abbrev bits_Div64_I := HL TB.den (hsT bits_Div64_sh.ins (hsOs bits_Div64_sh.pre))
abbrev bits_Div64_O := HL TB.den (hsV bits_Div64_sh.res (hsOs bits_Div64_sh.post))
noncomputable def bits_Div64_cx : Cx TB := ⟨inf, [bits_LeadingZeros64_con], [], 4⟩
noncomputable def bits_Div64_code : Code := Try.f81.body.getD .skip
noncomputable def bits_Div64_rs : List ResultVar := Try.f81.results.toList
def bits_Div64_TJ4 : Tm := ⟨[], [], [2, 8, 14, 15, 17, 18], [.one (.d (.int .u64)), .one (.d (.int .u64)), .one (.d (.int .u64)), .one (.d (.int .u64)), .one (.d (.int .u64)), .one (.d (.int .u64))], 0⟩
noncomputable def bits_Div64_J4d (o : bits_Div64_O) (i : HL TB.den bits_Div64_TJ4.hs) : Prop := ghs TB [] (bits_Div64_TJ4.fill TB i) fun s => WP TB bits_Div64_cx 135 0 (cB (cB (cB (cB (cB (cB (cB (cB (cB (cB (cB (cB (cB (cB (cB (cB (cB (cB (cB bits_Div64_code))))))))))))))))))) .no s (retTQ TB bits_Div64_cx bits_Div64_sh bits_Div64_rs o)
structure bits_Div64_J4 (o : bits_Div64_O) (i : HL TB.den bits_Div64_TJ4.hs) : Prop where
  h : bits_Div64_J4d o i
noncomputable def bits_Div64_Q1 (o : bits_Div64_O) : Exit → TSt TB.den → Prop := thenT TB (fun s => bits_Div64_TJ4.mat TB 0 s (bits_Div64_J4 o)) (retTQ TB bits_Div64_cx bits_Div64_sh bits_Div64_rs o)
def bits_Div64_T2 : Tm := ⟨[], [], [2, 8, 9, 10, 14, 15, 16, 17, 18], [.one (.d (.int .u64)), .one (.d (.int .u64)), .one (.d (.int .u64)), .one (.d (.int .u64)), .one (.d (.int .u64)), .one (.d (.int .u64)), .one (.d (.int .u64)), .one (.d (.int .u64)), .one (.d (.int .u64))], 0⟩
noncomputable def bits_Div64_Q2 (o : bits_Div64_O) (nx2 : HL TB.den bits_Div64_T2.hs → Prop) : Exit → TSt TB.den → Prop := thenT TB (fun s => bits_Div64_T2.mat TB 0 s nx2) (blockT TB 2 (bits_Div64_Q1 o))
def bits_Div64_TJ3 : Tm := ⟨[], [], [2, 8, 9, 10, 14, 15, 16, 17, 18], [.one (.d (.int .u64)), .one (.d (.int .u64)), .one (.d (.int .u64)), .one (.d (.int .u64)), .one (.d (.int .u64)), .one (.d (.int .u64)), .one (.d (.int .u64)), .one (.d (.int .u64)), .one (.d (.int .u64))], 0⟩
noncomputable def bits_Div64_J3d (o : bits_Div64_O) (nx2 : HL TB.den bits_Div64_T2.hs → Prop) (i : HL TB.den bits_Div64_TJ3.hs) : Prop := ghs TB [] (bits_Div64_TJ3.fill TB i) fun s => WP TB bits_Div64_cx 135 0 (cB (cA (cA (cA (cB (cB (cB (cB (cB (cB (cB (cB (cB (cB (cB (cB (cB (cB (cB (cB (cB (cB bits_Div64_code)))))))))))))))))))))) .no s (bits_Div64_Q2 o nx2)
structure bits_Div64_J3 (o : bits_Div64_O) (nx2 : HL TB.den bits_Div64_T2.hs → Prop) (i : HL TB.den bits_Div64_TJ3.hs) : Prop where
  h : bits_Div64_J3d o nx2 i
noncomputable def bits_Div64_L2 (o : bits_Div64_O) (nx2 : HL TB.den bits_Div64_T2.hs → Prop) (i : HL TB.den bits_Div64_T2.hs) : Prop := WP TB bits_Div64_cx 135 0 (cA (cA (cA (cB (cB (cB (cB (cB (cB (cB (cB (cB (cB (cB (cB (cB (cB (cB (cB (cB (cB bits_Div64_code))))))))))))))))))))) (.jn bits_Div64_TJ3 (bits_Div64_J3 o nx2) [] .no [] .no) (bits_Div64_T2.fill TB i) (bits_Div64_Q2 o nx2)
noncomputable def bits_Div64_A4 (o : bits_Div64_O) : An TB := .lp [] bits_Div64_T2 (bits_Div64_L2 o) fun nx2 => (.jn bits_Div64_TJ3 (bits_Div64_J3 o nx2) [] .no [] .no)
noncomputable def bits_Div64_A5 (o : bits_Div64_O) : An TB := .jn bits_Div64_TJ4 (bits_Div64_J4 o) [] (bits_Div64_A4 o) [] .no
noncomputable def bits_Div64_A6 (o : bits_Div64_O) : An TB := .nd [] .no [] (.nd [] .no [] (.nd [] .no [] (bits_Div64_A5 o)))
def bits_Div64_TJ2 : Tm := ⟨[], [], [2, 8, 9, 10, 11, 13, 14, 15], [.one (.d (.int .u64)), .one (.d (.int .u64)), .one (.d (.int .u64)), .one (.d (.int .u64)), .one (.d (.int .u64)), .one (.d (.int .u64)), .one (.d (.int .u64)), .one (.d (.int .u64))], 0⟩
noncomputable def bits_Div64_J2d (o : bits_Div64_O) (i : HL TB.den bits_Div64_TJ2.hs) : Prop := ghs TB [] (bits_Div64_TJ2.fill TB i) fun s => WP TB bits_Div64_cx 135 0 (cB (cB (cB (cB (cB (cB (cB (cB (cB (cB (cB (cB (cB (cB (cB bits_Div64_code))))))))))))))) (bits_Div64_A6 o) s (retTQ TB bits_Div64_cx bits_Div64_sh bits_Div64_rs o)
structure bits_Div64_J2 (o : bits_Div64_O) (i : HL TB.den bits_Div64_TJ2.hs) : Prop where
  h : bits_Div64_J2d o i
noncomputable def bits_Div64_Q7 (o : bits_Div64_O) : Exit → TSt TB.den → Prop := thenT TB (fun s => bits_Div64_TJ2.mat TB 0 s (bits_Div64_J2 o)) (retTQ TB bits_Div64_cx bits_Div64_sh bits_Div64_rs o)
def bits_Div64_T1 : Tm := ⟨[], [], [2, 8, 9, 10, 11, 13, 14, 15, 16], [.one (.d (.int .u64)), .one (.d (.int .u64)), .one (.d (.int .u64)), .one (.d (.int .u64)), .one (.d (.int .u64)), .one (.d (.int .u64)), .one (.d (.int .u64)), .one (.d (.int .u64)), .one (.d (.int .u64))], 0⟩
noncomputable def bits_Div64_Q8 (o : bits_Div64_O) (nx1 : HL TB.den bits_Div64_T1.hs → Prop) : Exit → TSt TB.den → Prop := thenT TB (fun s => bits_Div64_T1.mat TB 0 s nx1) (blockT TB 0 (bits_Div64_Q7 o))
def bits_Div64_TJ1 : Tm := ⟨[], [], [2, 8, 9, 10, 11, 13, 14, 15, 16], [.one (.d (.int .u64)), .one (.d (.int .u64)), .one (.d (.int .u64)), .one (.d (.int .u64)), .one (.d (.int .u64)), .one (.d (.int .u64)), .one (.d (.int .u64)), .one (.d (.int .u64)), .one (.d (.int .u64))], 0⟩
noncomputable def bits_Div64_J1d (o : bits_Div64_O) (nx1 : HL TB.den bits_Div64_T1.hs → Prop) (i : HL TB.den bits_Div64_TJ1.hs) : Prop := ghs TB [] (bits_Div64_TJ1.fill TB i) fun s => WP TB bits_Div64_cx 135 0 (cB (cA (cA (cA (cB (cB (cB (cB (cB (cB (cB (cB (cB (cB (cB (cB (cB (cB bits_Div64_code)))))))))))))))))) .no s (bits_Div64_Q8 o nx1)
structure bits_Div64_J1 (o : bits_Div64_O) (nx1 : HL TB.den bits_Div64_T1.hs → Prop) (i : HL TB.den bits_Div64_TJ1.hs) : Prop where
  h : bits_Div64_J1d o nx1 i
noncomputable def bits_Div64_L1 (o : bits_Div64_O) (nx1 : HL TB.den bits_Div64_T1.hs → Prop) (i : HL TB.den bits_Div64_T1.hs) : Prop := WP TB bits_Div64_cx 135 0 (cA (cA (cA (cB (cB (cB (cB (cB (cB (cB (cB (cB (cB (cB (cB (cB (cB bits_Div64_code))))))))))))))))) (.jn bits_Div64_TJ1 (bits_Div64_J1 o nx1) [] .no [] .no) (bits_Div64_T1.fill TB i) (bits_Div64_Q8 o nx1)
noncomputable def bits_Div64_A10 (o : bits_Div64_O) : An TB := .lp [] bits_Div64_T1 (bits_Div64_L1 o) fun nx1 => (.jn bits_Div64_TJ1 (bits_Div64_J1 o nx1) [] .no [] .no)
noncomputable def bits_Div64_A11 (o : bits_Div64_O) : An TB := .jn bits_Div64_TJ2 (bits_Div64_J2 o) [] (bits_Div64_A10 o) [] (bits_Div64_A6 o)
noncomputable def bits_Div64_A12 (o : bits_Div64_O) : An TB := .nd [] .no [] (.nd [] .no [] (.nd [] .no [] (bits_Div64_A11 o)))
noncomputable def bits_Div64_A13 (o : bits_Div64_O) : An TB := .nd [] .no [] (.nd [] .no [] (.nd [] .no [] (bits_Div64_A12 o)))
noncomputable def bits_Div64_A14 (o : bits_Div64_O) : An TB := .nd [] .no [] (.nd [] .no [] (.nd [] .no [] (bits_Div64_A13 o)))
noncomputable def bits_Div64_A17 (o : bits_Div64_O) : An TB := .nd [] .no [] (.nd [] .no [] (.nd [] .no [] (bits_Div64_A14 o)))
noncomputable def bits_Div64_an (o : bits_Div64_O) : An TB := .nd [] .no [] (.nd [] .no [] (bits_Div64_A17 o))
noncomputable def bits_Div64_Body (x : bits_Div64_I) (o : bits_Div64_O) : Prop := WPh TB bits_Div64_cx 135 0 bits_Div64_code (bits_Div64_an o) (bits_Div64_sh.st TB x) (retTQ TB bits_Div64_cx bits_Div64_sh bits_Div64_rs o)
set_option maxRecDepth 100000 in
theorem bits_Div64_obl (o : bits_Div64_O) : OblH TB bits_Div64_cx 135 0 bits_Div64_code (bits_Div64_an o) (retTQ TB bits_Div64_cx bits_Div64_sh bits_Div64_rs o) :=
  OblH.of_eq (X := (True ∧ ((True ∧ (True ∧ True)) ∧ ((True ∧ (True ∧ True)) ∧ ((True ∧ ((True ∧ True) ∧ True)) ∧ (True ∧ (True ∧ (True ∧ (True ∧ (True ∧ (True ∧ (True ∧ (True ∧ (True ∧ (True ∧ (((∀ nx i, (bits_Div64_L1 o) nx i = (bits_Div64_L1 o) nx i) ∧ ∀ nx1 : HL TB.den bits_Div64_T1.hs → Prop, ((True ∧ (True ∧ True)) ∧ (∀ i, (bits_Div64_J1 o nx1) i = (bits_Div64_J1d o nx1) i) ∧ (True ∧ (True ∧ (True ∧ (True ∧ True)))))) ∧ (∀ i, (bits_Div64_J2 o) i = (bits_Div64_J2d o) i) ∧ (True ∧ (True ∧ (True ∧ (((∀ nx i, (bits_Div64_L2 o) nx i = (bits_Div64_L2 o) nx i) ∧ ∀ nx2 : HL TB.den bits_Div64_T2.hs → Prop, ((True ∧ (True ∧ True)) ∧ (∀ i, (bits_Div64_J3 o nx2) i = (bits_Div64_J3d o nx2) i) ∧ (True ∧ (True ∧ (True ∧ (True ∧ True)))))) ∧ (∀ i, (bits_Div64_J4 o) i = (bits_Div64_J4d o) i) ∧ (True ∧ True))))))))))))))))))))) (by kernel_rfl) ⟨trivial, ⟨⟨trivial, ⟨trivial, trivial⟩⟩, ⟨⟨trivial, ⟨trivial, trivial⟩⟩, ⟨⟨trivial, ⟨⟨trivial, trivial⟩, trivial⟩⟩, ⟨trivial, ⟨trivial, ⟨trivial, ⟨trivial, ⟨trivial, ⟨trivial, ⟨trivial, ⟨trivial, ⟨trivial, ⟨trivial, ⟨⟨fun _ _ => rfl, fun _ => ⟨⟨trivial, ⟨trivial, trivial⟩⟩, fun _ => propext ⟨fun h => h.1, fun h => ⟨h⟩⟩, ⟨trivial, ⟨trivial, ⟨trivial, ⟨trivial, trivial⟩⟩⟩⟩⟩⟩, fun _ => propext ⟨fun h => h.1, fun h => ⟨h⟩⟩, ⟨trivial, ⟨trivial, ⟨trivial, ⟨⟨fun _ _ => rfl, fun _ => ⟨⟨trivial, ⟨trivial, trivial⟩⟩, fun _ => propext ⟨fun h => h.1, fun h => ⟨h⟩⟩, ⟨trivial, ⟨trivial, ⟨trivial, ⟨trivial, trivial⟩⟩⟩⟩⟩⟩, fun _ => propext ⟨fun h => h.1, fun h => ⟨h⟩⟩, ⟨trivial, trivial⟩⟩⟩⟩⟩⟩⟩⟩⟩⟩⟩⟩⟩⟩⟩⟩⟩⟩⟩⟩
set_option maxRecDepth 100000 in
theorem bits_Div64_snd {x : bits_Div64_I} {o : bits_Div64_O} (h : bits_Div64_Body x o) : SoundH Try.prog bits_Div64_sh.f ((bits_Div64_sh.args idf x).map (er TB)) ((bits_Div64_sh.obs idf x).map (erO TB)) (er TB (bits_Div64_sh.val idf o)) ((bits_Div64_sh.ops idf o).map (erO TB)) :=
  Con.soundH (c := bits_Div64_sh) (C := bits_Div64_cx) TBok ⟨inf_ok, (all_cons bits_LeadingZeros64_ok all_nil), all_nil⟩ mix Try.func81 (show Try.f81.body = some bits_Div64_code by kernel_rfl) (show Try.f81.ntmps = 135 by kernel_rfl) (show Try.f81.results.toList = bits_Div64_rs by kernel_rfl) rfl h (bits_Div64_obl o)
set_option maxRecDepth 100000 in
theorem bits_Div64_in {p0 : Int} {p1 : Int} {p2 : Int} {r0 : Int} {r1 : Int} (h :
(((p2 == 0) = true →
 False) ∧
((p2 == 0) = false →
(decide (p2 ≤ p0) = true →
 False) ∧
(decide (p2 ≤ p0) = false →
((p0 == 0) = true →
(p2 ≠ 0) ∧ (p2 ≠ 0) ∧ IntKind.u64.wrap (Int.tdiv p1 p2) = r0 ∧ Int.tmod p1 p2 = r1) ∧
((p0 == 0) = false →
(0 < p2 ∧ p2 < 18446744073709551616) ∧ (0 ≤ IntKind.u64.wrap (64 - len64 p2)) ∧ let v1 : Int := ishl .u64 p2 (IntKind.u64.wrap (64 - len64 p2))
(0 ≤ IntKind.u64.wrap (64 - len64 p2)) ∧ let v2 : Int := ishl .u64 p0 (IntKind.u64.wrap (64 - len64 p2))
 let v3 : Int := IntKind.u64.wrap (64 - (IntKind.u64.wrap (64 - len64 p2)))
(0 ≤ v3) ∧ (0 ≤ IntKind.u64.wrap (64 - len64 p2)) ∧ let v4 : Int := ishl .u64 p1 (IntKind.u64.wrap (64 - len64 p2))
(ishr .u64 v1 32 ≠ 0) ∧ let v5 : Int := IntKind.u64.wrap (Int.tdiv (ior .u64 v2 (ishr .u64 p1 v3)) (ishr .u64 v1 32))
 let v6 : Int := IntKind.u64.wrap (v5 * (ishr .u64 v1 32))
 let v7 : Int := IntKind.u64.wrap ((ior .u64 v2 (ishr .u64 p1 v3)) - v6)
 Md.Loop (v1, (IntKind.u64.wrap (64 - len64 p2) : Int), (ishr .u64 v1 32 : Int), (iand .u64 v1 4294967295 : Int), (ior .u64 v2 (ishr .u64 p1 v3) : Int), (ishr .u64 v4 32 : Int), (iand .u64 v4 4294967295 : Int), v5, v7, ()) (bits_Div64_L1 (r0, r1, ()))))))) : bits_Div64_Body (p0, p1, p2, ()) (r0, r1, ()) := WPh.of_eq (by kernel_rfl) h
set_option maxRecDepth 100000 in
theorem bits_Div64_J1_in {r0 : Int} {r1 : Int} {nx1 : HL TB.den bits_Div64_T1.hs → Prop} {s2 : Int} {s8 : Int} {s9 : Int} {s10 : Int} {s11 : Int} {s13 : Int} {s14 : Int} {s15 : Int} {s16 : Int} (h :
(let v10 : Bool := decide (4294967296 ≤ (IntKind.u64.wrap (s16 + s9)))
(v10 = true →
 bits_Div64_J2 (r0, r1, ()) (s2, s8, s9, s10, s11, s13, s14, (IntKind.u64.wrap (s15 - 1) : Int), ())) ∧
(v10 = false →
 nx1 (s2, s8, s9, s10, s11, s13, s14, (IntKind.u64.wrap (s15 - 1) : Int), (IntKind.u64.wrap (s16 + s9) : Int), ())))) : bits_Div64_J1 (r0, r1, ()) nx1 (s2, s8, s9, s10, s11, s13, s14, s15, s16, ()) := ⟨mpr_of (by kernel_rfl) h⟩
set_option maxRecDepth 100000 in
theorem bits_Div64_J2_in {r0 : Int} {r1 : Int} {s2 : Int} {s8 : Int} {s9 : Int} {s10 : Int} {s11 : Int} {s13 : Int} {s14 : Int} {s15 : Int} (h :
(let v11 : Int := IntKind.u64.wrap ((IntKind.u64.wrap (s11 * 4294967296)) + s13)
 let v12 : Int := IntKind.u64.wrap (v11 - (IntKind.u64.wrap (s15 * s2)))
(s9 ≠ 0) ∧ let v13 : Int := IntKind.u64.wrap ((IntKind.u64.wrap (Int.tdiv v12 s9)) * s9)
 Md.Loop (s2, s8, s9, s10, s14, s15, (IntKind.u64.wrap (v12 - v13) : Int), v12, (IntKind.u64.wrap (Int.tdiv v12 s9) : Int), ()) (bits_Div64_L2 (r0, r1, ())))) : bits_Div64_J2 (r0, r1, ()) (s2, s8, s9, s10, s11, s13, s14, s15, ()) := ⟨mpr_of (by kernel_rfl) h⟩
set_option maxRecDepth 100000 in
theorem bits_Div64_J3_in {r0 : Int} {r1 : Int} {nx2 : HL TB.den bits_Div64_T2.hs → Prop} {s2 : Int} {s8 : Int} {s9 : Int} {s10 : Int} {s14 : Int} {s15 : Int} {s16 : Int} {s17 : Int} {s18 : Int} (h :
(let v16 : Bool := decide (4294967296 ≤ (IntKind.u64.wrap (s16 + s9)))
(v16 = true →
 bits_Div64_J4 (r0, r1, ()) (s2, s8, s14, s15, s17, (IntKind.u64.wrap (s18 - 1) : Int), ())) ∧
(v16 = false →
 nx2 (s2, s8, s9, s10, s14, s15, (IntKind.u64.wrap (s16 + s9) : Int), s17, (IntKind.u64.wrap (s18 - 1) : Int), ())))) : bits_Div64_J3 (r0, r1, ()) nx2 (s2, s8, s9, s10, s14, s15, s16, s17, s18, ()) := ⟨mpr_of (by kernel_rfl) h⟩
set_option maxRecDepth 100000 in
theorem bits_Div64_J4_in {r0 : Int} {r1 : Int} {s2 : Int} {s8 : Int} {s14 : Int} {s15 : Int} {s17 : Int} {s18 : Int} (h :
(let v17 : Int := IntKind.u64.wrap ((IntKind.u64.wrap (s15 * 4294967296)) + s18)
 let v18 : Int := IntKind.u64.wrap ((IntKind.u64.wrap (s17 * 4294967296)) + s14)
 let v19 : Int := IntKind.u64.wrap (v18 - (IntKind.u64.wrap (s18 * s2)))
(0 ≤ s8) ∧ v17 = r0 ∧ ishr .u64 v19 s8 = r1)) : bits_Div64_J4 (r0, r1, ()) (s2, s8, s14, s15, s17, s18, ()) := ⟨mpr_of (by kernel_rfl) h⟩
def bits_Div64_B1 (r0 : Int) (r1 : Int) (nx1 : HL TB.den bits_Div64_T1.hs → Prop) (k1 : Int → Int → Prop) (s2 : Int) (s8 : Int) (s9 : Int) (s10 : Int) (s11 : Int) (s13 : Int) (s14 : Int) (s15 : Int) (s16 : Int) : Prop :=
(decide (4294967296 ≤ s15) = true →
 bits_Div64_J1 (r0, r1, ()) nx1 (s2, s8, s9, s10, s11, s13, s14, s15, s16, ())) ∧
(decide (4294967296 ≤ s15) = false →
 let v8 : Int := IntKind.u64.wrap ((IntKind.u64.wrap (4294967296 * s16)) + s13)
 let v9 : Bool := decide (v8 < (IntKind.u64.wrap (s15 * s10)))
(v9 = true →
 bits_Div64_J1 (r0, r1, ()) nx1 (s2, s8, s9, s10, s11, s13, s14, s15, s16, ())) ∧
(v9 = false →
 bits_Div64_J2 (r0, r1, ()) (s2, s8, s9, s10, s11, s13, s14, s15, ())))
set_option maxRecDepth 100000 in
theorem bits_Div64_lp1 {r0 : Int} {r1 : Int} {s2 : Int} {s8 : Int} {s9 : Int} {s10 : Int} {s11 : Int} {s13 : Int} {s14 : Int} {s15 : Int} {s16 : Int} (inv : Int → Int → Prop) (μ : Int → Int → Nat) (h0 : inv s15 s16) (hs : ∀ (s15 : Int) (s16 : Int), inv s15 s16 → bits_Div64_B1 r0 r1 (fun s : Int × Int × Int × Int × Int × Int × Int × Int × Int × Unit => ((s.1 = s2 ∧ s.2.1 = s8 ∧ s.2.2.1 = s9 ∧ s.2.2.2.1 = s10 ∧ s.2.2.2.2.1 = s11 ∧ s.2.2.2.2.2.1 = s13 ∧ s.2.2.2.2.2.2.1 = s14) ∧ inv s.2.2.2.2.2.2.2.1 s.2.2.2.2.2.2.2.2.1) ∧ μ s.2.2.2.2.2.2.2.1 s.2.2.2.2.2.2.2.2.1 < μ s15 s16) (fun s15q s16q => inv s15q s16q ∧ μ s15q s16q < μ s15 s16) s2 s8 s9 s10 s11 s13 s14 s15 s16) : Md.Loop (s2, s8, s9, s10, s11, s13, s14, s15, s16, ()) (bits_Div64_L1 (r0, r1, ())) :=
  ⟨⟨fun s : Int × Int × Int × Int × Int × Int × Int × Int × Int × Unit => (s.1 = s2 ∧ s.2.1 = s8 ∧ s.2.2.1 = s9 ∧ s.2.2.2.1 = s10 ∧ s.2.2.2.2.1 = s11 ∧ s.2.2.2.2.2.1 = s13 ∧ s.2.2.2.2.2.2.1 = s14) ∧ inv s.2.2.2.2.2.2.2.1 s.2.2.2.2.2.2.2.2.1, fun s : Int × Int × Int × Int × Int × Int × Int × Int × Int × Unit => μ s.2.2.2.2.2.2.2.1 s.2.2.2.2.2.2.2.2.1, ⟨⟨rfl, rfl, rfl, rfl, rfl, rfl, rfl⟩, h0⟩, fun (s2p, s8p, s9p, s10p, s11p, s13p, s14p, s15p, s16p, ()) ⟨⟨eq0, eq1, eq2, eq3, eq4, eq5, eq6⟩, hi⟩ => by
    have eq0 : s2p = s2 := eq0; subst s2p; have eq1 : s8p = s8 := eq1; subst s8p; have eq2 : s9p = s9 := eq2; subst s9p; have eq3 : s10p = s10 := eq3; subst s10p; have eq4 : s11p = s11 := eq4; subst s11p; have eq5 : s13p = s13 := eq5; subst s13p; have eq6 : s14p = s14 := eq6; subst s14p; exact mpr_of (by kernel_rfl) ((congrArg (fun k => bits_Div64_B1 r0 r1 (fun s : Int × Int × Int × Int × Int × Int × Int × Int × Int × Unit => ((s.1 = s2 ∧ s.2.1 = s8 ∧ s.2.2.1 = s9 ∧ s.2.2.2.1 = s10 ∧ s.2.2.2.2.1 = s11 ∧ s.2.2.2.2.2.1 = s13 ∧ s.2.2.2.2.2.2.1 = s14) ∧ inv s.2.2.2.2.2.2.2.1 s.2.2.2.2.2.2.2.2.1) ∧ μ s.2.2.2.2.2.2.2.1 s.2.2.2.2.2.2.2.2.1 < μ s15p s16p) k s2 s8 s9 s10 s11 s13 s14 s15p s16p) (lpk2 (⟨rfl, rfl, rfl, rfl, rfl, rfl, rfl⟩ : s2 = s2 ∧ s8 = s8 ∧ s9 = s9 ∧ s10 = s10 ∧ s11 = s11 ∧ s13 = s13 ∧ s14 = s14) inv (fun s15q s16q => μ s15q s16q < μ s15p s16p))).mpr (hs s15p s16p hi))⟩⟩
def bits_Div64_B2 (r0 : Int) (r1 : Int) (nx2 : HL TB.den bits_Div64_T2.hs → Prop) (k2 : Int → Int → Prop) (s2 : Int) (s8 : Int) (s9 : Int) (s10 : Int) (s14 : Int) (s15 : Int) (s17 : Int) (s16 : Int) (s18 : Int) : Prop :=
(decide (4294967296 ≤ s18) = true →
 bits_Div64_J3 (r0, r1, ()) nx2 (s2, s8, s9, s10, s14, s15, s16, s17, s18, ())) ∧
(decide (4294967296 ≤ s18) = false →
 let v14 : Int := IntKind.u64.wrap ((IntKind.u64.wrap (4294967296 * s16)) + s14)
 let v15 : Bool := decide (v14 < (IntKind.u64.wrap (s18 * s10)))
(v15 = true →
 bits_Div64_J3 (r0, r1, ()) nx2 (s2, s8, s9, s10, s14, s15, s16, s17, s18, ())) ∧
(v15 = false →
 bits_Div64_J4 (r0, r1, ()) (s2, s8, s14, s15, s17, s18, ())))
set_option maxRecDepth 100000 in
theorem bits_Div64_lp2 {r0 : Int} {r1 : Int} {s2 : Int} {s8 : Int} {s9 : Int} {s10 : Int} {s14 : Int} {s15 : Int} {s17 : Int} {s16 : Int} {s18 : Int} (inv : Int → Int → Prop) (μ : Int → Int → Nat) (h0 : inv s16 s18) (hs : ∀ (s16 : Int) (s18 : Int), inv s16 s18 → bits_Div64_B2 r0 r1 (fun s : Int × Int × Int × Int × Int × Int × Int × Int × Int × Unit => ((s.1 = s2 ∧ s.2.1 = s8 ∧ s.2.2.1 = s9 ∧ s.2.2.2.1 = s10 ∧ s.2.2.2.2.1 = s14 ∧ s.2.2.2.2.2.1 = s15 ∧ s.2.2.2.2.2.2.2.1 = s17) ∧ inv s.2.2.2.2.2.2.1 s.2.2.2.2.2.2.2.2.1) ∧ μ s.2.2.2.2.2.2.1 s.2.2.2.2.2.2.2.2.1 < μ s16 s18) (fun s16q s18q => inv s16q s18q ∧ μ s16q s18q < μ s16 s18) s2 s8 s9 s10 s14 s15 s17 s16 s18) : Md.Loop (s2, s8, s9, s10, s14, s15, s16, s17, s18, ()) (bits_Div64_L2 (r0, r1, ())) :=
  ⟨⟨fun s : Int × Int × Int × Int × Int × Int × Int × Int × Int × Unit => (s.1 = s2 ∧ s.2.1 = s8 ∧ s.2.2.1 = s9 ∧ s.2.2.2.1 = s10 ∧ s.2.2.2.2.1 = s14 ∧ s.2.2.2.2.2.1 = s15 ∧ s.2.2.2.2.2.2.2.1 = s17) ∧ inv s.2.2.2.2.2.2.1 s.2.2.2.2.2.2.2.2.1, fun s : Int × Int × Int × Int × Int × Int × Int × Int × Int × Unit => μ s.2.2.2.2.2.2.1 s.2.2.2.2.2.2.2.2.1, ⟨⟨rfl, rfl, rfl, rfl, rfl, rfl, rfl⟩, h0⟩, fun (s2p, s8p, s9p, s10p, s14p, s15p, s16p, s17p, s18p, ()) ⟨⟨eq0, eq1, eq2, eq3, eq4, eq5, eq6⟩, hi⟩ => by
    have eq0 : s2p = s2 := eq0; subst s2p; have eq1 : s8p = s8 := eq1; subst s8p; have eq2 : s9p = s9 := eq2; subst s9p; have eq3 : s10p = s10 := eq3; subst s10p; have eq4 : s14p = s14 := eq4; subst s14p; have eq5 : s15p = s15 := eq5; subst s15p; have eq6 : s17p = s17 := eq6; subst s17p; exact mpr_of (by kernel_rfl) ((congrArg (fun k => bits_Div64_B2 r0 r1 (fun s : Int × Int × Int × Int × Int × Int × Int × Int × Int × Unit => ((s.1 = s2 ∧ s.2.1 = s8 ∧ s.2.2.1 = s9 ∧ s.2.2.2.1 = s10 ∧ s.2.2.2.2.1 = s14 ∧ s.2.2.2.2.2.1 = s15 ∧ s.2.2.2.2.2.2.2.1 = s17) ∧ inv s.2.2.2.2.2.2.1 s.2.2.2.2.2.2.2.2.1) ∧ μ s.2.2.2.2.2.2.1 s.2.2.2.2.2.2.2.2.1 < μ s16p s18p) k s2 s8 s9 s10 s14 s15 s17 s16p s18p) (lpk2 (⟨rfl, rfl, rfl, rfl, rfl, rfl, rfl⟩ : s2 = s2 ∧ s8 = s8 ∧ s9 = s9 ∧ s10 = s10 ∧ s14 = s14 ∧ s15 = s15 ∧ s17 = s17) inv (fun s16q s18q => μ s16q s18q < μ s16p s18p))).mpr (hs s16p s18p hi))⟩⟩
theorem bd81 : Callable Try.prog 81 := ⟨by rw [Try.func81]; kernel_rfl, by rw [Try.func81]; show some _ ≠ some _; decide⟩
theorem bits_Div64_body (p0 : Int) (p1 : Int) (p2 : Int) (h : U64 p0 ∧ U64 p1 ∧ U64 p2 ∧ p0 < p2) : bits_Div64_Body (p0, p1, p2, ()) (((p0 * 18446744073709551616 + p1) / p2 : Int), ((p0 * 18446744073709551616 + p1) % p2 : Int), ()) := by
  obtain ⟨h0, h1, h2, hlt⟩ := h
  refine bits_Div64_in ⟨fun e => ?_, fun _ => ⟨fun e => ?_, fun _ => ⟨fun e => ?_, fun _ => ?_⟩⟩⟩
  · simp at e; omega
  · simp at e; omega
  · have e : p0 = 0 := by simpa using e
    subst e
    rw [tdiv_nn _ _ h1.1, tmod_nn _ _ h1.1, Int.zero_mul, Int.zero_add]
    have := Int.ediv_le_self p2 h1.1
    have := Int.ediv_nonneg h1.1 h2.1
    exact ⟨by omega, by omega, wu _ (by omega) (by have := Int.ediv_le_self p2 h1.1; omega), rfl⟩
  obtain ⟨s, e, hs, n1, n2⟩ := len64_spec p2 ⟨by omega, h2.2⟩
  have ew : IntKind.u64.wrap (64 - len64 p2) = (s : Int) := by rw [e, wu _ (by omega) (by omega)]
  have ew3 : IntKind.u64.wrap (64 - (s : Int)) = ((64 - s : Nat) : Int) := by rw [wu _ (by omega) (by omega)]; omega
  have hp : 0 < 2 ^ s := Nat.two_pow_pos s
  have hp' : 0 < 2 ^ (64 - s) := Nat.two_pow_pos _
  have hpp : 2 ^ s * 2 ^ (64 - s) = 18446744073709551616 := by rw [← Nat.pow_add, show s + (64 - s) = 64 by omega]
  have hP : ((2 ^ s : Nat) : Int) * ((2 ^ (64 - s) : Nat) : Int) = 18446744073709551616 := by rw [← Int.natCast_mul, hpp]; rfl
  have il : ∀ a : Int, ishl .u64 a (s : Int) = a * ((2 ^ s : Nat) : Int) % 18446744073709551616 := fun a => by rw [ishl_u64, Int.toNat_natCast, Nat.min_eq_left (by omega)]
  have ir : ∀ a : Int, ishr .u64 a (s : Int) = a / ((2 ^ s : Nat) : Int) := fun a => by rw [ishr_def, Int.toNat_natCast, show min s IntKind.u64.bits = s from Nat.min_eq_left (by show s ≤ 64; omega)]
  have ir' : ∀ a : Int, ishr .u64 a ((64 - s : Nat) : Int) = a / ((2 ^ (64 - s) : Nat) : Int) := fun a => by rw [ishr_def, Int.toNat_natCast, show min (64 - s) IntKind.u64.bits = 64 - s from Nat.min_eq_left (by show 64 - s ≤ 64; omega)]
  have hor : ∀ c : Int, 0 ≤ c → c < ((2 ^ s : Nat) : Int) → p0 * ((2 ^ s : Nat) : Int) + c < 18446744073709551616 → ior .u64 (p0 * ((2 ^ s : Nat) : Int)) c = p0 * ((2 ^ s : Nat) : Int) + c := by
    intro c hc0 hc1 hc2
    obtain ⟨a, rfl⟩ := Int.eq_ofNat_of_zero_le h0.1
    obtain ⟨c, rfl⟩ := Int.eq_ofNat_of_zero_le hc0
    have key := ior_add' c a s (by omega)
    rw [Int.mul_comm, ← Int.natCast_mul] at hc2 ⊢
    rw [key (by omega)]
    omega
  simp only [ew, ew3, il, ir', ishr32]
  have hP'0 : (0 : Int) < ((2 ^ (64 - s) : Nat) : Int) := by omega
  generalize hPd : ((2 ^ s : Nat) : Int) = P at *
  generalize hPd' : ((2 ^ (64 - s) : Nat) : Int) = P' at *
  have hP0 : 0 < P := by omega
  have hlo : p1 / P' < P := Int.ediv_lt_of_lt_mul hP'0 (by omega)
  have hlo0 : 0 ≤ p1 / P' := Int.ediv_nonneg h1.1 (by omega)
  have hUv : p0 * P + P ≤ p2 * P := by
    have : (p0 + 1) * P ≤ p2 * P := Int.mul_le_mul_of_nonneg_right (by omega) (by omega)
    grind
  have hUp : 0 ≤ p0 * P := Int.mul_nonneg h0.1 (by omega)
  rw [Int.emod_eq_of_lt (a := p2 * P) (by omega) n2, Int.emod_eq_of_lt (a := p0 * P) hUp (by omega), hor _ hlo0 hlo (by omega)]
  have hN : (p0 * 18446744073709551616 + p1) * P = (p0 * P + p1 / P') * 18446744073709551616 + (p1 * P % 18446744073709551616 / 4294967296) * 4294967296 + p1 * P % 18446744073709551616 % 4294967296 := by
    have h5 : p1 * P / 18446744073709551616 = p1 / P' := by
      rw [← hP, Int.mul_comm p1 P, Int.mul_ediv_mul_of_pos _ _ hP0]
    have h6 := Int.emod_add_mul_ediv (p1 * P) 18446744073709551616
    rw [h5] at h6
    have : (p0 * 18446744073709551616 + p1) * P = p0 * P * 18446744073709551616 + p1 * P := by grind
    rw [this]
    generalize p1 * P = w at *
    generalize p0 * P = w' at *
    omega
  have hlb : 0 ≤ p1 * P % 18446744073709551616 ∧ p1 * P % 18446744073709551616 < 18446744073709551616 := ⟨Int.emod_nonneg _ (by omega), Int.emod_lt_of_pos _ (by omega)⟩
  generalize hUd : p0 * P + p1 / P' = U at *
  generalize hLd : p1 * P % 18446744073709551616 = L at *
  have hVd : p2 * P / 4294967296 * 4294967296 + p2 * P % 4294967296 = p2 * P := by omega
  have hw : ∀ {Q R V' : Int} , R - Q = V' → 0 ≤ V' → V' < 18446744073709551616 → ∀ A, R = A * 4294967296 + (R - A * 4294967296) → IntKind.u64.wrap (IntKind.u64.wrap (IntKind.u64.wrap (A * 4294967296) + (R - A * 4294967296)) - IntKind.u64.wrap Q) = V' := by
    intro Q R V' hv h0 h1 A hA
    simp only [u64w]
    omega
  rw [iand_mask32 (p2 * P) (by omega), iand_mask32 L (by omega)]
  generalize ha : p2 * P / 4294967296 = a at *
  generalize hb : p2 * P % 4294967296 = b at *
  have hQ1 : Half U (L / 4294967296) a b ((U * 4294967296 + L / 4294967296) / (a * 4294967296 + b)) := ⟨by omega, by omega, by omega, by omega, by omega, rfl⟩
  have hr1 := hQ1.rest
  have hq1 := hQ1.q
  generalize (U * 4294967296 + L / 4294967296) / (a * 4294967296 + b) = Q1 at *
  generalize (U * 4294967296 + L / 4294967296) % (a * 4294967296 + b) = R1 at *
  have hQ0 : Half R1 (L % 4294967296) a b ((R1 * 4294967296 + L % 4294967296) / (a * 4294967296 + b)) := ⟨by omega, by omega, by omega, by omega, by omega, rfl⟩
  have hr0 := hQ0.rest
  have hq0 := hQ0.q
  generalize (R1 * 4294967296 + L % 4294967296) / (a * 4294967296 + b) = Q0 at *
  generalize (R1 * 4294967296 + L % 4294967296) % (a * 4294967296 + b) = R0 at *
  rw [hVd] at hr1 hr0 hq1 hq0
  have fin := two_halves hP0 (by omega : 0 < p2) hN hr1.1 hr0.1 ⟨hr0.2.1, hr0.2.2⟩
  have j4 : bits_Div64_J4 (((p0 * 18446744073709551616 + p1) / p2 : Int), ((p0 * 18446744073709551616 + p1) % p2 : Int), ()) ((p2 * P : Int), (s : Int), (L % 4294967296 : Int), Q1, R1, Q0, ()) := by
    refine bits_Div64_J4_in ⟨by omega, ?_, ?_⟩
    · rw [wu (Q1 * 4294967296) (by omega) (by omega), wu _ (by omega) (by omega)]
      exact fin.1
    · have := hw (Q := Q0 * (p2 * P)) (R := R1 * 4294967296 + L % 4294967296) hr0.1 hr0.2.1 (by omega) R1 (by omega)
      rw [show R1 * 4294967296 + L % 4294967296 - R1 * 4294967296 = L % 4294967296 by omega] at this
      rw [this, ir]
      exact fin.2
  have aux : ∀ {U x Q q r : Int}, Half U x a b Q → U < 18446744073709551616 → q * a + r = U → Q ≤ q → 0 ≤ r → q ≤ 8589934592 := by
    intro U x Q q r hh hU e hQ hr
    have h1 := hh.ha
    refine Int.le_of_lt_add_one (Int.lt_of_mul_lt_mul_right (a := a) ?_ (by omega))
    generalize q * a = w at *
    omega
  have init : ∀ {U x Q : Int}, Half U x a b Q → Q ≤ U / a := by
    intro U x Q hh
    have h1 := hh.ha
    have h2 := hh.q
    have h3 := hh.hb
    have h4 := hh.hx
    refine (Int.le_ediv_iff_mul_le (by omega)).2 ?_
    have h5 : Q * (a * 4294967296 + b) = Q * a * 4294967296 + Q * b := by grind
    have h6 : 0 ≤ Q * b := Int.mul_nonneg h2.1 h3.1
    generalize Q * a = w at *
    omega
  have j2 : bits_Div64_J2 (((p0 * 18446744073709551616 + p1) / p2 : Int), ((p0 * 18446744073709551616 + p1) % p2 : Int), ()) ((p2 * P : Int), (s : Int), a, b, U, (L / 4294967296 : Int), (L % 4294967296 : Int), Q1, ()) := by
    have e1 := hw (Q := Q1 * (p2 * P)) (R := U * 4294967296 + L / 4294967296) hr1.1 hr1.2.1 (by omega) U (by omega)
    rw [show U * 4294967296 + L / 4294967296 - U * 4294967296 = L / 4294967296 by omega] at e1
    refine bits_Div64_J2_in ?_
    simp only [e1]
    have hd := Int.emod_add_mul_ediv R1 a
    have hd1 := Int.emod_nonneg R1 (by omega : a ≠ 0)
    have hd2 := Int.emod_lt_of_pos R1 (by omega : 0 < a)
    have hd3 : 0 ≤ R1 / a := Int.ediv_nonneg hr1.2.1 (by omega)
    rw [Int.mul_comm] at hd
    have hd5 : 0 ≤ R1 / a * a := Int.mul_nonneg hd3 (by omega)
    have hd4 := aux hQ0 (by omega) (q := R1 / a) (r := R1 % a) (by omega) (init hQ0) hd1
    rw [tdiv_nn _ _ hr1.2.1, wu (R1 / a) (by omega) (by omega), wu (R1 / a * a) (by omega) (by omega), show R1 - R1 / a * a = R1 % a by omega, wu (R1 % a) (by omega) (by omega)]
    refine ⟨by omega, ?_⟩
    refine bits_Div64_lp2 (fun r q => q * a + r = R1 ∧ Q0 ≤ q ∧ 0 ≤ r ∧ r < 4294967296) (fun r q => q.toNat) ⟨by omega, init hQ0, hd1, by omega⟩ ?_
    rintro r q ⟨g1, g2, g3, g4⟩
    have g5 := aux hQ0 (by omega) g1 g2 g3
    have j3 : ∀ nx, (Q0 ≤ q - 1) → (r + a < 4294967296 → nx ((p2 * P : Int), (s : Int), a, b, (L % 4294967296 : Int), Q1, (r + a : Int), R1, (q - 1 : Int), ())) → bits_Div64_J3 (((p0 * 18446744073709551616 + p1) / p2 : Int), ((p0 * 18446744073709551616 + p1) % p2 : Int), ()) nx ((p2 * P : Int), (s : Int), a, b, (L % 4294967296 : Int), Q1, r, R1, q, ()) := by
      intro nx hq hnx
      refine bits_Div64_J3_in ?_
      rw [wu (q - 1) (by omega) (by omega), wu (r + a) (by omega) (by omega)]
      refine ⟨fun hd => ?_, fun hd => hnx (by simpa using hd)⟩
      have hd : 4294967296 ≤ r + a := of_decide_eq_true hd
      rw [hQ0.done (q := q - 1) (r := r + a) (by grind) hq hd]
      exact j4
    have nxt : Q0 ≤ q - 1 → r + a < 4294967296 → ((q - 1) * a + (r + a) = R1 ∧ Q0 ≤ q - 1 ∧ 0 ≤ r + a ∧ r + a < 4294967296) ∧ (q - 1).toNat < q.toNat := fun h1 h2 => ⟨⟨by grind, h1, by omega, h2⟩, by omega⟩
    refine ⟨fun hd => j3 _ (hQ0.down g1 (.inl (of_decide_eq_true hd))) fun h1 => ?_, fun hd => ?_⟩
    · obtain ⟨n1, n2⟩ := nxt (hQ0.down g1 (.inl (of_decide_eq_true hd))) h1
      exact ⟨⟨⟨rfl, rfl, rfl, rfl, rfl, rfl, rfl⟩, n1⟩, n2⟩
    · have hd : q < 4294967296 := by simpa using hd
      have hqb : 0 ≤ q * b ∧ q * b < 18446744073709551616 := by
        have := hQ0.hb
        have h1 : q * b ≤ 4294967295 * 4294967295 := Int.mul_le_mul (by omega) (by omega) (by omega) (by omega)
        exact ⟨Int.mul_nonneg (by omega) (by omega), by omega⟩
      have := hQ0.hx
      rw [wu (q * b) (by omega) (by omega), wu (4294967296 * r) (by omega) (by omega), wu (4294967296 * r + L % 4294967296) (by omega) (by omega)]
      refine ⟨fun ht => ?_, fun ht => ?_⟩
      · have ht : 4294967296 * r + L % 4294967296 < q * b := of_decide_eq_true ht
        have hdn := hQ0.down g1 (.inr (by omega))
        refine j3 _ hdn fun h1 => ?_
        obtain ⟨n1, n2⟩ := nxt hdn h1
        exact ⟨⟨⟨rfl, rfl, rfl, rfl, rfl, rfl, rfl⟩, n1⟩, n2⟩
      · have ht : ¬ (4294967296 * r + L % 4294967296 < q * b) := of_decide_eq_false ht
        rw [hQ0.exit g1 g2 (by omega)]
        exact j4
  have hd := Int.emod_add_mul_ediv U a
  have hd1 := Int.emod_nonneg U (by omega : a ≠ 0)
  have hd2 := Int.emod_lt_of_pos U (by omega : 0 < a)
  have hd3 : 0 ≤ U / a := Int.ediv_nonneg (by omega) (by omega)
  rw [Int.mul_comm] at hd
  have hd5 : 0 ≤ U / a * a := Int.mul_nonneg hd3 (by omega)
  have hd4 := aux hQ1 (by omega) (q := U / a) (r := U % a) (by omega) (init hQ1) hd1
  rw [tdiv_nn _ _ (by omega), wu (U / a) (by omega) (by omega), wu (U / a * a) (by omega) (by omega), show U - U / a * a = U % a by omega, wu (U % a) (by omega) (by omega)]
  refine ⟨⟨by omega, h2.2⟩, by omega, by omega, by omega, by omega, by omega, ?_⟩
  refine bits_Div64_lp1 (fun q r => q * a + r = U ∧ Q1 ≤ q ∧ 0 ≤ r ∧ r < 4294967296) (fun q r => q.toNat) ⟨by omega, init hQ1, hd1, by omega⟩ ?_
  rintro q r ⟨g1, g2, g3, g4⟩
  have g5 := aux hQ1 (by omega) g1 g2 g3
  have j1 : ∀ nx, (Q1 ≤ q - 1) → (r + a < 4294967296 → nx ((p2 * P : Int), (s : Int), a, b, U, (L / 4294967296 : Int), (L % 4294967296 : Int), (q - 1 : Int), (r + a : Int), ())) → bits_Div64_J1 (((p0 * 18446744073709551616 + p1) / p2 : Int), ((p0 * 18446744073709551616 + p1) % p2 : Int), ()) nx ((p2 * P : Int), (s : Int), a, b, U, (L / 4294967296 : Int), (L % 4294967296 : Int), q, r, ()) := by
    intro nx hq hnx
    refine bits_Div64_J1_in ?_
    rw [wu (q - 1) (by omega) (by omega), wu (r + a) (by omega) (by omega)]
    refine ⟨fun hd => ?_, fun hd => hnx (by simpa using hd)⟩
    have hd : 4294967296 ≤ r + a := of_decide_eq_true hd
    rw [hQ1.done (q := q - 1) (r := r + a) (by grind) hq hd]
    exact j2
  have nxt : Q1 ≤ q - 1 → r + a < 4294967296 → ((q - 1) * a + (r + a) = U ∧ Q1 ≤ q - 1 ∧ 0 ≤ r + a ∧ r + a < 4294967296) ∧ (q - 1).toNat < q.toNat := fun h1 h2 => ⟨⟨by grind, h1, by omega, h2⟩, by omega⟩
  refine ⟨fun hd => j1 _ (hQ1.down g1 (.inl (of_decide_eq_true hd))) fun h1 => ?_, fun hd => ?_⟩
  · obtain ⟨n1, n2⟩ := nxt (hQ1.down g1 (.inl (of_decide_eq_true hd))) h1
    exact ⟨⟨⟨rfl, rfl, rfl, rfl, rfl, rfl, rfl⟩, n1⟩, n2⟩
  · have hd : q < 4294967296 := by simpa using hd
    have hqb : 0 ≤ q * b ∧ q * b < 18446744073709551616 := by
      have := hQ1.hb
      have h1 : q * b ≤ 4294967295 * 4294967295 := Int.mul_le_mul (by omega) (by omega) (by omega) (by omega)
      exact ⟨Int.mul_nonneg (by omega) (by omega), by omega⟩
    have := hQ1.hx
    rw [wu (q * b) (by omega) (by omega), wu (4294967296 * r) (by omega) (by omega), wu (4294967296 * r + L / 4294967296) (by omega) (by omega)]
    refine ⟨fun ht => ?_, fun ht => ?_⟩
    · have ht : 4294967296 * r + L / 4294967296 < q * b := of_decide_eq_true ht
      have hdn := hQ1.down g1 (.inr (by omega))
      refine j1 _ hdn fun h1 => ?_
      obtain ⟨n1, n2⟩ := nxt hdn h1
      exact ⟨⟨⟨rfl, rfl, rfl, rfl, rfl, rfl, rfl⟩, n1⟩, n2⟩
    · have ht : ¬ (4294967296 * r + L / 4294967296 < q * b) := of_decide_eq_false ht
      rw [hQ1.exit g1 g2 (by omega)]
      exact j2
noncomputable def bits_Div64_con : Con TB.den := bits_Div64_sh.fnR (fun x => (fun (p0 : Int) (p1 : Int) (p2 : Int) => U64 p0 ∧ U64 p1 ∧ U64 p2 ∧ p0 < p2) x.1 x.2.1 x.2.2.1) fun x => ((fun (p0 : Int) (p1 : Int) (p2 : Int) => ((p0 * 18446744073709551616 + p1) / p2 : Int)) x.1 x.2.1 x.2.2.1, (fun (p0 : Int) (p1 : Int) (p2 : Int) => ((p0 * 18446744073709551616 + p1) % p2 : Int)) x.1 x.2.1 x.2.2.1, ())
theorem bits_Div64_ok : bits_Div64_con.Ok Try.prog TB := Con.ok_fn bits_Div64_sh bd81 fun x h => bits_Div64_snd (bits_Div64_body x.1 x.2.1 x.2.2.1 h)
end Go.Proofs.Ytdbnagpoknmoiaa
namespace Go.Proofs.Ytdbnagpoknmoiaa
open Go Go.Bv Go.Cv Go.Md Go.RowKit
def bits_Mul64_sh : Con TB.den := Con.mk0 80 [.one (.d (.int .u64)), .one (.d (.int .u64))] [] (.tup [.one (.d (.int .u64)), .one (.d (.int .u64))]) []
abbrev bits_Mul64_I := HL TB.den (hsT bits_Mul64_sh.ins (hsOs bits_Mul64_sh.pre))
abbrev bits_Mul64_O := HL TB.den (hsV bits_Mul64_sh.res (hsOs bits_Mul64_sh.post))
noncomputable def bits_Mul64_cx : Cx TB := ⟨inf, [], [], 4⟩
noncomputable def bits_Mul64_code : Code := Try.f80.body.getD .skip
noncomputable def bits_Mul64_rs : List ResultVar := Try.f80.results.toList
noncomputable def bits_Mul64_an (o : bits_Mul64_O) : An TB := .no
noncomputable def bits_Mul64_Body (x : bits_Mul64_I) (o : bits_Mul64_O) : Prop := WPh TB bits_Mul64_cx 51 0 bits_Mul64_code (bits_Mul64_an o) (bits_Mul64_sh.st TB x) (retTQ TB bits_Mul64_cx bits_Mul64_sh bits_Mul64_rs o)
set_option maxRecDepth 100000 in
theorem bits_Mul64_obl (o : bits_Mul64_O) : OblH TB bits_Mul64_cx 51 0 bits_Mul64_code (bits_Mul64_an o) (retTQ TB bits_Mul64_cx bits_Mul64_sh bits_Mul64_rs o) :=
  OblH.of_eq (X := (True ∧ (True ∧ (True ∧ (True ∧ (True ∧ (True ∧ (True ∧ (True ∧ (True ∧ (True ∧ (True ∧ (True ∧ True))))))))))))) (by kernel_rfl) ⟨trivial, ⟨trivial, ⟨trivial, ⟨trivial, ⟨trivial, ⟨trivial, ⟨trivial, ⟨trivial, ⟨trivial, ⟨trivial, ⟨trivial, ⟨trivial, trivial⟩⟩⟩⟩⟩⟩⟩⟩⟩⟩⟩⟩
set_option maxRecDepth 100000 in
theorem bits_Mul64_snd {x : bits_Mul64_I} {o : bits_Mul64_O} (h : bits_Mul64_Body x o) : SoundH Try.prog bits_Mul64_sh.f ((bits_Mul64_sh.args idf x).map (er TB)) ((bits_Mul64_sh.obs idf x).map (erO TB)) (er TB (bits_Mul64_sh.val idf o)) ((bits_Mul64_sh.ops idf o).map (erO TB)) :=
  Con.soundH (c := bits_Mul64_sh) (C := bits_Mul64_cx) TBok ⟨inf_ok, all_nil, all_nil⟩ mix Try.func80 (show Try.f80.body = some bits_Mul64_code by kernel_rfl) (show Try.f80.ntmps = 51 by kernel_rfl) (show Try.f80.results.toList = bits_Mul64_rs by kernel_rfl) rfl h (bits_Mul64_obl o)
set_option maxRecDepth 100000 in
theorem bits_Mul64_in {p0 : Int} {p1 : Int} {r0 : Int} {r1 : Int} (h :
(let v1 : Int := IntKind.u64.wrap ((iand .u64 p0 4294967295) * (iand .u64 p1 4294967295))
 let v2 : Int := IntKind.u64.wrap ((ishr .u64 p0 32) * (iand .u64 p1 4294967295))
 let v3 : Int := IntKind.u64.wrap (v2 + (ishr .u64 v1 32))
 let v4 : Int := IntKind.u64.wrap ((iand .u64 p0 4294967295) * (ishr .u64 p1 32))
 let v5 : Int := IntKind.u64.wrap ((iand .u64 v3 4294967295) + v4)
 let v6 : Int := IntKind.u64.wrap ((ishr .u64 p0 32) * (ishr .u64 p1 32))
 let v7 : Int := IntKind.u64.wrap (v6 + (ishr .u64 v3 32))
 let v8 : Int := IntKind.u64.wrap (v7 + (ishr .u64 v5 32))
 v8 = r0 ∧ IntKind.u64.wrap (p0 * p1) = r1)) : bits_Mul64_Body (p0, p1, ()) (r0, r1, ()) := WPh.of_eq (by kernel_rfl) h
theorem bd80 : Callable Try.prog 80 := ⟨by rw [Try.func80]; kernel_rfl, by rw [Try.func80]; show some _ ≠ some _; decide⟩
theorem bits_Mul64_body (p0 : Int) (p1 : Int) (h : U64 p0 ∧ U64 p1) : bits_Mul64_Body (p0, p1, ()) ((p0 * p1 / 18446744073709551616 : Int), (p0 * p1 % 18446744073709551616 : Int), ()) := by
  obtain ⟨h0, h1⟩ := h
  have k := mul64_hi p0 p1 h0 h1
  refine bits_Mul64_in ?_
  simp only [iand_mask32 p0 h0, iand_mask32 p1 h1, ishr32]
  obtain ⟨e, k1, k2, k3, k4, k5, k6, k7, k8⟩ := k
  rw [← e]
  rw [wu (p0 % 4294967296 * (p1 % 4294967296)) (by omega) (by omega), wu (p0 / 4294967296 * (p1 % 4294967296)) (by omega) (by omega), wu (p0 % 4294967296 * (p1 / 4294967296)) (by omega) (by omega), wu (p0 / 4294967296 * (p1 / 4294967296)) (by omega) (by omega)]
  generalize p0 % 4294967296 * (p1 % 4294967296) = a at *
  generalize p0 / 4294967296 * (p1 % 4294967296) = b at *
  generalize p0 % 4294967296 * (p1 / 4294967296) = c at *
  generalize p0 / 4294967296 * (p1 / 4294967296) = d at *
  rw [wu (b + a / 4294967296) (by omega) (by omega), iand_mask32 _ (by omega)]
  simp only [u64w]
  refine ⟨?_, trivial⟩
  omega
noncomputable def bits_Mul64_con : Con TB.den := bits_Mul64_sh.fnR (fun x => (fun (p0 : Int) (p1 : Int) => U64 p0 ∧ U64 p1) x.1 x.2.1) fun x => ((fun (p0 : Int) (p1 : Int) => (p0 * p1 / 18446744073709551616 : Int)) x.1 x.2.1, (fun (p0 : Int) (p1 : Int) => (p0 * p1 % 18446744073709551616 : Int)) x.1 x.2.1, ())
theorem bits_Mul64_ok : bits_Mul64_con.Ok Try.prog TB := Con.ok_fn bits_Mul64_sh bd80 fun x h => bits_Mul64_snd (bits_Mul64_body x.1 x.2.1 h)
end Go.Proofs.Ytdbnagpoknmoiaa
namespace Go.Proofs.Ytdbnagpoknmoiaa
open Go Go.Bv Go.Cv Go.Md Go.RowKit
def Field_mul_sh : Con TB.den := Con.mk0 74 [.agg [.d (.int .u64)], .one (.d (.int .u64)), .one (.d (.int .u64))] [] (.one (.one (.d (.int .u64)))) []
abbrev Field_mul_I := HL TB.den (hsT Field_mul_sh.ins (hsOs Field_mul_sh.pre))
abbrev Field_mul_O := HL TB.den (hsV Field_mul_sh.res (hsOs Field_mul_sh.post))
noncomputable def Field_mul_cx : Cx TB := ⟨inf, [bits_Mul64_con, bits_Div64_con], [], 4⟩
noncomputable def Field_mul_code : Code := Try.f74.body.getD .skip
noncomputable def Field_mul_rs : List ResultVar := Try.f74.results.toList
noncomputable def Field_mul_an (o : Field_mul_O) : An TB := .no
noncomputable def Field_mul_Body (x : Field_mul_I) (o : Field_mul_O) : Prop := WPh TB Field_mul_cx 26 0 Field_mul_code (Field_mul_an o) (Field_mul_sh.st TB x) (retTQ TB Field_mul_cx Field_mul_sh Field_mul_rs o)
set_option maxRecDepth 100000 in
theorem Field_mul_obl (o : Field_mul_O) : OblH TB Field_mul_cx 26 0 Field_mul_code (Field_mul_an o) (retTQ TB Field_mul_cx Field_mul_sh Field_mul_rs o) :=
  OblH.of_eq (X := (True ∧ (True ∧ (True ∧ (True ∧ True))))) (by kernel_rfl) ⟨trivial, ⟨trivial, ⟨trivial, ⟨trivial, trivial⟩⟩⟩⟩
set_option maxRecDepth 100000 in
theorem Field_mul_snd {x : Field_mul_I} {o : Field_mul_O} (h : Field_mul_Body x o) : SoundH Try.prog Field_mul_sh.f ((Field_mul_sh.args idf x).map (er TB)) ((Field_mul_sh.obs idf x).map (erO TB)) (er TB (Field_mul_sh.val idf o)) ((Field_mul_sh.ops idf o).map (erO TB)) :=
  Con.soundH (c := Field_mul_sh) (C := Field_mul_cx) TBok ⟨inf_ok, (all_cons bits_Mul64_ok (all_cons bits_Div64_ok all_nil)), all_nil⟩ mix Try.func74 (show Try.f74.body = some Field_mul_code by kernel_rfl) (show Try.f74.ntmps = 26 by kernel_rfl) (show Try.f74.results.toList = Field_mul_rs by kernel_rfl) rfl h (Field_mul_obl o)
set_option maxRecDepth 100000 in
theorem Field_mul_in {p0 : TField} {p1 : Int} {p2 : Int} {r0 : Int} (h :
((U64 p1 ∧ U64 p2) ∧ (U64 (p1 * p2 / 18446744073709551616) ∧ U64 (p1 * p2 % 18446744073709551616) ∧ U64 p0.P ∧ (p1 * p2 / 18446744073709551616) < p0.P) ∧ let r1 : Int := ((p1 * p2 / 18446744073709551616) * 18446744073709551616 + (p1 * p2 % 18446744073709551616)) / p0.P
 let r2 : Int := ((p1 * p2 / 18446744073709551616) * 18446744073709551616 + (p1 * p2 % 18446744073709551616)) % p0.P
 r2 = r0)) : Field_mul_Body (p0.P, p1, p2, ()) (r0, ()) := WPh.of_eq (by kernel_rfl) h
theorem bd74 : Callable Try.prog 74 := ⟨by rw [Try.func74]; kernel_rfl, by rw [Try.func74]; show some _ ≠ some _; decide⟩
theorem Field_mul_body (p0 : TField) (p1 : Int) (p2 : Int) (h : p0.P = 18446744069414584321 ∧ (0 ≤ p1 ∧ p1 < 18446744069414584321) ∧ (0 ≤ p2 ∧ p2 < 18446744069414584321)) : Field_mul_Body (p0.P, p1, p2, ()) ((p1 * p2 % 18446744069414584321 : Int), ()) := by
  obtain ⟨hP, h1, h2⟩ := h
  have h3 : 0 ≤ p1 * p2 := Int.mul_nonneg h1.1 h2.1
  have h4 : p1 * p2 ≤ 18446744069414584320 * 18446744069414584320 := Int.mul_le_mul (by omega) (by omega) h2.1 (by omega)
  refine Field_mul_in ⟨⟨by omega, by omega⟩, ?_⟩
  simp only [hP]
  generalize p1 * p2 = m at *
  refine ⟨⟨⟨by omega, by omega⟩, ⟨by omega, by omega⟩, by omega, by omega⟩, ?_⟩
  rw [show m / 18446744073709551616 * 18446744073709551616 + m % 18446744073709551616 = m by omega]
noncomputable def Field_mul_con : Con TB.den := Field_mul_sh.fnR (fun x => (fun (p0 : TField) (p1 : Int) (p2 : Int) => p0.P = 18446744069414584321 ∧ (0 ≤ p1 ∧ p1 < 18446744069414584321) ∧ (0 ≤ p2 ∧ p2 < 18446744069414584321)) (TField.mk x.1) x.2.1 x.2.2.1) fun x => ((fun (p0 : TField) (p1 : Int) (p2 : Int) => (p1 * p2 % 18446744069414584321 : Int)) (TField.mk x.1) x.2.1 x.2.2.1, ())
theorem Field_mul_ok : Field_mul_con.Ok Try.prog TB := Con.ok_fn Field_mul_sh bd74 fun x h => Field_mul_snd (Field_mul_body (TField.mk x.1) x.2.1 x.2.2.1 h)
end Go.Proofs.Ytdbnagpoknmoiaa
namespace Go.Proofs.Ytdbnagpoknmoiaa
open Go Go.Bv Go.Cv Go.Md Go.RowKit
def Field_Mul_sh : Con TB.den := Con.mk0 70 [.agg [.d (.int .u64)], .one (.d (.int .u64)), .one (.d (.int .u64))] [] (.one (.one (.d (.int .u64)))) []
abbrev Field_Mul_I := HL TB.den (hsT Field_Mul_sh.ins (hsOs Field_Mul_sh.pre))
abbrev Field_Mul_O := HL TB.den (hsV Field_Mul_sh.res (hsOs Field_Mul_sh.post))
noncomputable def Field_Mul_cx : Cx TB := ⟨inf, [Field_Valid_con, Field_reduced_con, Field_mul_con], [], 4⟩
noncomputable def Field_Mul_code : Code := Try.f70.body.getD .skip
noncomputable def Field_Mul_rs : List ResultVar := Try.f70.results.toList
noncomputable def Field_Mul_an (o : Field_Mul_O) : An TB := .no
noncomputable def Field_Mul_Body (x : Field_Mul_I) (o : Field_Mul_O) : Prop := WPh TB Field_Mul_cx 18 0 Field_Mul_code (Field_Mul_an o) (Field_Mul_sh.st TB x) (retTQ TB Field_Mul_cx Field_Mul_sh Field_Mul_rs o)
set_option maxRecDepth 100000 in
theorem Field_Mul_obl (o : Field_Mul_O) : OblH TB Field_Mul_cx 18 0 Field_Mul_code (Field_Mul_an o) (retTQ TB Field_Mul_cx Field_Mul_sh Field_Mul_rs o) :=
  OblH.of_eq (X := (True ∧ ((True ∧ ((True ∧ True) ∧ True)) ∧ (True ∧ True)))) (by kernel_rfl) ⟨trivial, ⟨⟨trivial, ⟨⟨trivial, trivial⟩, trivial⟩⟩, ⟨trivial, trivial⟩⟩⟩
set_option maxRecDepth 100000 in
theorem Field_Mul_snd {x : Field_Mul_I} {o : Field_Mul_O} (h : Field_Mul_Body x o) : SoundH Try.prog Field_Mul_sh.f ((Field_Mul_sh.args idf x).map (er TB)) ((Field_Mul_sh.obs idf x).map (erO TB)) (er TB (Field_Mul_sh.val idf o)) ((Field_Mul_sh.ops idf o).map (erO TB)) :=
  Con.soundH (c := Field_Mul_sh) (C := Field_Mul_cx) TBok ⟨inf_ok, (all_cons Field_Valid_ok (all_cons Field_reduced_ok (all_cons Field_mul_ok all_nil))), all_nil⟩ mix Try.func70 (show Try.f70.body = some Field_Mul_code by kernel_rfl) (show Try.f70.ntmps = 18 by kernel_rfl) (show Try.f70.results.toList = Field_Mul_rs by kernel_rfl) rfl h (Field_Mul_obl o)
set_option maxRecDepth 100000 in
theorem Field_Mul_in {p0 : TField} {p1 : Int} {p2 : Int} {r0 : Int} (h :
((p0.P = 18446744069414584321) ∧ ((!true) = true →
 0 = r0) ∧
((!true) = false →
(0 < p0.P ∧ 0 ≤ p1) ∧ (0 < p0.P ∧ 0 ≤ p2) ∧ (p0.P = 18446744069414584321 ∧ (0 ≤ (p1 % p0.P) ∧ (p1 % p0.P) < 18446744069414584321) ∧ (0 ≤ (p2 % p0.P) ∧ (p2 % p0.P) < 18446744069414584321)) ∧ let r1 : Int := (p1 % p0.P) * (p2 % p0.P) % 18446744069414584321
 r1 = r0))) : Field_Mul_Body (p0.P, p1, p2, ()) (r0, ()) := WPh.of_eq (by kernel_rfl) h
theorem bd70 : Callable Try.prog 70 := ⟨by rw [Try.func70]; kernel_rfl, by rw [Try.func70]; show some _ ≠ some _; decide⟩
theorem Field_Mul_body (p0 : TField) (p1 : Int) (p2 : Int) (h : p0.P = 18446744069414584321 ∧ U64 p1 ∧ U64 p2) : Field_Mul_Body (p0.P, p1, p2, ()) ((p1 * p2 % 18446744069414584321 : Int), ()) := by
  obtain ⟨hP, h1, h2⟩ := h
  refine Field_Mul_in ⟨hP, ?_⟩
  simp only [hP]
  refine ⟨fun h => by simp at h, fun _ => ⟨by omega, by omega, ⟨by trivial, by omega, by omega⟩, ?_⟩⟩
  exact (Int.mul_emod _ _ _).symm
noncomputable def Field_Mul_con : Con TB.den := Field_Mul_sh.fnR (fun x => (fun (p0 : TField) (p1 : Int) (p2 : Int) => p0.P = 18446744069414584321 ∧ U64 p1 ∧ U64 p2) (TField.mk x.1) x.2.1 x.2.2.1) fun x => ((fun (p0 : TField) (p1 : Int) (p2 : Int) => (p1 * p2 % 18446744069414584321 : Int)) (TField.mk x.1) x.2.1 x.2.2.1, ())
theorem Field_Mul_ok : Field_Mul_con.Ok Try.prog TB := Con.ok_fn Field_Mul_sh bd70 fun x h => Field_Mul_snd (Field_Mul_body (TField.mk x.1) x.2.1 x.2.2.1 h)
end Go.Proofs.Ytdbnagpoknmoiaa
namespace Go.Proofs.Ytdbnagpoknmoiaa
open Go Go.Bv Go.Cv Go.Md Go.RowKit
def Field_numbers_sh : Con TB.den := Con.mk0 82 [.agg [.d (.int .u64)]] [] (.tup [.one (.d (.int .u64)), .one (.d (.int .i64)), .one (.d (.int .u64))]) []
abbrev Field_numbers_I := HL TB.den (hsT Field_numbers_sh.ins (hsOs Field_numbers_sh.pre))
abbrev Field_numbers_O := HL TB.den (hsV Field_numbers_sh.res (hsOs Field_numbers_sh.post))
noncomputable def Field_numbers_cx : Cx TB := ⟨inf, [], [], 4⟩
noncomputable def Field_numbers_code : Code := Try.f82.body.getD .skip
noncomputable def Field_numbers_rs : List ResultVar := Try.f82.results.toList
noncomputable def Field_numbers_an (o : Field_numbers_O) : An TB := .no
noncomputable def Field_numbers_Body (x : Field_numbers_I) (o : Field_numbers_O) : Prop := WPh TB Field_numbers_cx 21 0 Field_numbers_code (Field_numbers_an o) (Field_numbers_sh.st TB x) (retTQ TB Field_numbers_cx Field_numbers_sh Field_numbers_rs o)
set_option maxRecDepth 100000 in
theorem Field_numbers_obl (o : Field_numbers_O) : OblH TB Field_numbers_cx 21 0 Field_numbers_code (Field_numbers_an o) (retTQ TB Field_numbers_cx Field_numbers_sh Field_numbers_rs o) :=
  OblH.of_eq (X := (True ∧ ((True ∧ (True ∧ ((True ∧ True) ∧ (True ∧ ((True ∧ True) ∧ (True ∧ ((True ∧ True) ∧ (True ∧ ((True ∧ True) ∧ (True ∧ ((True ∧ True) ∧ (True ∧ ((True ∧ True) ∧ (True ∧ ((True ∧ True) ∧ True))))))))))))))) ∧ (True ∧ True)))) (by kernel_rfl) ⟨trivial, ⟨⟨trivial, ⟨trivial, ⟨⟨trivial, trivial⟩, ⟨trivial, ⟨⟨trivial, trivial⟩, ⟨trivial, ⟨⟨trivial, trivial⟩, ⟨trivial, ⟨⟨trivial, trivial⟩, ⟨trivial, ⟨⟨trivial, trivial⟩, ⟨trivial, ⟨⟨trivial, trivial⟩, ⟨trivial, ⟨⟨trivial, trivial⟩, trivial⟩⟩⟩⟩⟩⟩⟩⟩⟩⟩⟩⟩⟩⟩⟩, ⟨trivial, trivial⟩⟩⟩
set_option maxRecDepth 100000 in
theorem Field_numbers_snd {x : Field_numbers_I} {o : Field_numbers_O} (h : Field_numbers_Body x o) : SoundH Try.prog Field_numbers_sh.f ((Field_numbers_sh.args idf x).map (er TB)) ((Field_numbers_sh.obs idf x).map (erO TB)) (er TB (Field_numbers_sh.val idf o)) ((Field_numbers_sh.ops idf o).map (erO TB)) :=
  Con.soundH (c := Field_numbers_sh) (C := Field_numbers_cx) TBok ⟨inf_ok, all_nil, all_nil⟩ mix Try.func82 (show Try.f82.body = some Field_numbers_code by kernel_rfl) (show Try.f82.ntmps = 21 by kernel_rfl) (show Try.f82.results.toList = Field_numbers_rs by kernel_rfl) rfl h (Field_numbers_obl o)
set_option maxRecDepth 100000 in
theorem Field_numbers_in {p0 : TField} {r0 : Int} {r1 : Int} {r2 : Int} (h :
(((p0.P == 17) = true →
 3 = r0 ∧ 4 = r1 ∧ 3 = r2) ∧
((p0.P == 17) = false →
((p0.P == 97) = true →
 5 = r0 ∧ 5 = r1 ∧ 5 = r2) ∧
((p0.P == 97) = false →
((p0.P == 193) = true →
 5 = r0 ∧ 6 = r1 ∧ 5 = r2) ∧
((p0.P == 193) = false →
((p0.P == 257) = true →
 3 = r0 ∧ 8 = r1 ∧ 3 = r2) ∧
((p0.P == 257) = false →
((p0.P == 12289) = true →
 11 = r0 ∧ 12 = r1 ∧ 5 = r2) ∧
((p0.P == 12289) = false →
((p0.P == 65537) = true →
 3 = r0 ∧ 16 = r1 ∧ 3 = r2) ∧
((p0.P == 65537) = false →
((p0.P == 18446744069414584321) = true →
 7 = r0 ∧ 32 = r1 ∧ 7 = r2) ∧
((p0.P == 18446744069414584321) = false →
 0 = r0 ∧ 0 = r1 ∧ 0 = r2))))))))) : Field_numbers_Body (p0.P, ()) (r0, r1, r2, ()) := WPh.of_eq (by kernel_rfl) h
theorem bd82 : Callable Try.prog 82 := ⟨by rw [Try.func82]; kernel_rfl, by rw [Try.func82]; show some _ ≠ some _; decide⟩
theorem Field_numbers_body (p0 : TField) (h : p0.P = 18446744069414584321) : Field_numbers_Body (p0.P, ()) ((7 : Int), (32 : Int), (7 : Int), ()) := by
  refine Field_numbers_in ?_
  simp [h]
noncomputable def Field_numbers_con : Con TB.den := Field_numbers_sh.fnR (fun x => (fun (p0 : TField) => p0.P = 18446744069414584321) (TField.mk x.1)) fun x => ((fun (p0 : TField) => (7 : Int)) (TField.mk x.1), (fun (p0 : TField) => (32 : Int)) (TField.mk x.1), (fun (p0 : TField) => (7 : Int)) (TField.mk x.1), ())
theorem Field_numbers_ok : Field_numbers_con.Ok Try.prog TB := Con.ok_fn Field_numbers_sh bd82 fun x h => Field_numbers_snd (Field_numbers_body (TField.mk x.1) h)
end Go.Proofs.Ytdbnagpoknmoiaa
namespace Go.Proofs.Ytdbnagpoknmoiaa
open Go Go.Bv Go.Cv Go.Md Go.RowKit
def Field_Exponent_sh : Con TB.den := Con.mk0 75 [.agg [.d (.int .u64)]] [] (.one (.one (.d (.int .u64)))) []
abbrev Field_Exponent_I := HL TB.den (hsT Field_Exponent_sh.ins (hsOs Field_Exponent_sh.pre))
abbrev Field_Exponent_O := HL TB.den (hsV Field_Exponent_sh.res (hsOs Field_Exponent_sh.post))
noncomputable def Field_Exponent_cx : Cx TB := ⟨inf, [Field_numbers_con], [], 4⟩
noncomputable def Field_Exponent_code : Code := Try.f75.body.getD .skip
noncomputable def Field_Exponent_rs : List ResultVar := Try.f75.results.toList
noncomputable def Field_Exponent_an (o : Field_Exponent_O) : An TB := .no
noncomputable def Field_Exponent_Body (x : Field_Exponent_I) (o : Field_Exponent_O) : Prop := WPh TB Field_Exponent_cx 13 0 Field_Exponent_code (Field_Exponent_an o) (Field_Exponent_sh.st TB x) (retTQ TB Field_Exponent_cx Field_Exponent_sh Field_Exponent_rs o)
set_option maxRecDepth 100000 in
theorem Field_Exponent_obl (o : Field_Exponent_O) : OblH TB Field_Exponent_cx 13 0 Field_Exponent_code (Field_Exponent_an o) (retTQ TB Field_Exponent_cx Field_Exponent_sh Field_Exponent_rs o) :=
  OblH.of_eq (X := (True ∧ (True ∧ (True ∧ True)))) (by kernel_rfl) ⟨trivial, ⟨trivial, ⟨trivial, trivial⟩⟩⟩
set_option maxRecDepth 100000 in
theorem Field_Exponent_snd {x : Field_Exponent_I} {o : Field_Exponent_O} (h : Field_Exponent_Body x o) : SoundH Try.prog Field_Exponent_sh.f ((Field_Exponent_sh.args idf x).map (er TB)) ((Field_Exponent_sh.obs idf x).map (erO TB)) (er TB (Field_Exponent_sh.val idf o)) ((Field_Exponent_sh.ops idf o).map (erO TB)) :=
  Con.soundH (c := Field_Exponent_sh) (C := Field_Exponent_cx) TBok ⟨inf_ok, (all_cons Field_numbers_ok all_nil), all_nil⟩ mix Try.func75 (show Try.f75.body = some Field_Exponent_code by kernel_rfl) (show Try.f75.ntmps = 13 by kernel_rfl) (show Try.f75.results.toList = Field_Exponent_rs by kernel_rfl) rfl h (Field_Exponent_obl o)
set_option maxRecDepth 100000 in
theorem Field_Exponent_in {p0 : TField} {r0 : Int} (h :
((p0.P = 18446744069414584321) ∧ 7 = r0)) : Field_Exponent_Body (p0.P, ()) (r0, ()) := WPh.of_eq (by kernel_rfl) h
theorem bd75 : Callable Try.prog 75 := ⟨by rw [Try.func75]; kernel_rfl, by rw [Try.func75]; show some _ ≠ some _; decide⟩
theorem Field_Exponent_body (p0 : TField) (h : p0.P = 18446744069414584321) : Field_Exponent_Body (p0.P, ()) ((7 : Int), ()) := by
  exact Field_Exponent_in ⟨h, rfl⟩
noncomputable def Field_Exponent_con : Con TB.den := Field_Exponent_sh.fnR (fun x => (fun (p0 : TField) => p0.P = 18446744069414584321) (TField.mk x.1)) fun x => ((fun (p0 : TField) => (7 : Int)) (TField.mk x.1), ())
theorem Field_Exponent_ok : Field_Exponent_con.Ok Try.prog TB := Con.ok_fn Field_Exponent_sh bd75 fun x h => Field_Exponent_snd (Field_Exponent_body (TField.mk x.1) h)
end Go.Proofs.Ytdbnagpoknmoiaa
namespace Go.Proofs.Ytdbnagpoknmoiaa
open Go Go.Bv Go.Cv Go.Md Go.RowKit
def Field_pow_sh : Con TB.den := Con.mk0 83 [.agg [.d (.int .u64)], .one (.d (.int .u64)), .one (.d (.int .u64))] [] (.one (.one (.d (.int .u64)))) []
abbrev Field_pow_I := HL TB.den (hsT Field_pow_sh.ins (hsOs Field_pow_sh.pre))
abbrev Field_pow_O := HL TB.den (hsV Field_pow_sh.res (hsOs Field_pow_sh.post))
noncomputable def Field_pow_cx : Cx TB := ⟨inf, [Field_mul_con], [], 4⟩
noncomputable def Field_pow_code : Code := Try.f83.body.getD .skip
noncomputable def Field_pow_rs : List ResultVar := Try.f83.results.toList
noncomputable def Field_pow_Q1 (o : Field_pow_O) : Exit → TSt TB.den → Prop := thenT TB (fun s => ghs TB [] s fun s => WP TB Field_pow_cx 26 0 (cB (cB (cB Field_pow_code))) .no s (retTQ TB Field_pow_cx Field_pow_sh Field_pow_rs o)) (retTQ TB Field_pow_cx Field_pow_sh Field_pow_rs o)
def Field_pow_T1 : Tm := ⟨[0], [.cells [.d (.int .u64)]], [1, 2, 3, 7], [.one (.d (.int .u64)), .one (.d (.int .u64)), .one (.ptr 0 0), .one (.d (.int .u64))], 1⟩
noncomputable def Field_pow_Q2 (o : Field_pow_O) (nx1 : HL TB.den Field_pow_T1.hs → Prop) : Exit → TSt TB.den → Prop := thenT TB (fun s => Field_pow_T1.mat TB 0 s nx1) (blockT TB 0 (Field_pow_Q1 o))
def Field_pow_TJ1 : Tm := ⟨[0], [.cells [.d (.int .u64)]], [1, 2, 3, 7], [.one (.d (.int .u64)), .one (.d (.int .u64)), .one (.ptr 0 0), .one (.d (.int .u64))], 1⟩
noncomputable def Field_pow_J1d (o : Field_pow_O) (nx1 : HL TB.den Field_pow_T1.hs → Prop) (i : HL TB.den Field_pow_TJ1.hs) : Prop := ghs TB [] (Field_pow_TJ1.fill TB i) fun s => WP TB Field_pow_cx 26 0 (cB (cA (cB (cA (cA (cA (cB (cB Field_pow_code)))))))) .no s (blockT TB 1 (Field_pow_Q2 o nx1))
structure Field_pow_J1 (o : Field_pow_O) (nx1 : HL TB.den Field_pow_T1.hs → Prop) (i : HL TB.den Field_pow_TJ1.hs) : Prop where
  h : Field_pow_J1d o nx1 i
noncomputable def Field_pow_A5 (o : Field_pow_O) (nx1 : HL TB.den Field_pow_T1.hs → Prop) : An TB := .nd [] .no [] (.jn Field_pow_TJ1 (Field_pow_J1 o nx1) [] .no [] .no)
noncomputable def Field_pow_L1 (o : Field_pow_O) (nx1 : HL TB.den Field_pow_T1.hs → Prop) (i : HL TB.den Field_pow_T1.hs) : Prop := WP TB Field_pow_cx 26 0 (cA (cA (cA (cB (cB Field_pow_code))))) (Field_pow_A5 o nx1) (Field_pow_T1.fill TB i) (Field_pow_Q2 o nx1)
noncomputable def Field_pow_A6 (o : Field_pow_O) : An TB := .lp [] Field_pow_T1 (Field_pow_L1 o) fun nx1 => (Field_pow_A5 o nx1)
noncomputable def Field_pow_an (o : Field_pow_O) : An TB := .nd [] .no [] (.nd [] .no [] (.nd [] (Field_pow_A6 o) [] .no))
noncomputable def Field_pow_Body (x : Field_pow_I) (o : Field_pow_O) : Prop := WPh TB Field_pow_cx 26 0 Field_pow_code (Field_pow_an o) (Field_pow_sh.st TB x) (retTQ TB Field_pow_cx Field_pow_sh Field_pow_rs o)
set_option maxRecDepth 100000 in
theorem Field_pow_obl (o : Field_pow_O) : OblH TB Field_pow_cx 26 0 Field_pow_code (Field_pow_an o) (retTQ TB Field_pow_cx Field_pow_sh Field_pow_rs o) :=
  OblH.of_eq (X := (True ∧ (True ∧ (((∀ nx i, (Field_pow_L1 o) nx i = (Field_pow_L1 o) nx i) ∧ ∀ nx1 : HL TB.den Field_pow_T1.hs → Prop, ((True ∧ (True ∧ True)) ∧ ((True ∧ (True ∧ True)) ∧ (∀ i, (Field_pow_J1 o nx1) i = (Field_pow_J1d o nx1) i) ∧ (True ∧ (True ∧ (True ∧ True)))))) ∧ (True ∧ True))))) (by kernel_rfl) ⟨trivial, ⟨trivial, ⟨⟨fun _ _ => rfl, fun _ => ⟨⟨trivial, ⟨trivial, trivial⟩⟩, ⟨⟨trivial, ⟨trivial, trivial⟩⟩, fun _ => propext ⟨fun h => h.1, fun h => ⟨h⟩⟩, ⟨trivial, ⟨trivial, ⟨trivial, trivial⟩⟩⟩⟩⟩⟩, ⟨trivial, trivial⟩⟩⟩⟩
set_option maxRecDepth 100000 in
theorem Field_pow_snd {x : Field_pow_I} {o : Field_pow_O} (h : Field_pow_Body x o) : SoundH Try.prog Field_pow_sh.f ((Field_pow_sh.args idf x).map (er TB)) ((Field_pow_sh.obs idf x).map (erO TB)) (er TB (Field_pow_sh.val idf o)) ((Field_pow_sh.ops idf o).map (erO TB)) :=
  Con.soundH (c := Field_pow_sh) (C := Field_pow_cx) TBok ⟨inf_ok, (all_cons Field_mul_ok all_nil), all_nil⟩ mix Try.func83 (show Try.f83.body = some Field_pow_code by kernel_rfl) (show Try.f83.ntmps = 26 by kernel_rfl) (show Try.f83.results.toList = Field_pow_rs by kernel_rfl) rfl h (Field_pow_obl o)
set_option maxRecDepth 100000 in
theorem Field_pow_in {p0 : TField} {p1 : Int} {p2 : Int} {r0 : Int} (h :
(Md.Loop (p1, p2, (1 : Int), p0.P, ()) (Field_pow_L1 (r0, ())))) : Field_pow_Body (p0.P, p1, p2, ()) (r0, ()) := WPh.of_eq (by kernel_rfl) h
set_option maxRecDepth 100000 in
theorem Field_pow_J1_in {r0 : Int} {nx1 : HL TB.den Field_pow_T1.hs → Prop} {s1 : Int} {s2 : Int} {s7 : Int} {h0_0 : Int} (h :
((decide (0 < (ishr .u64 s2 1)) = true →
((TField.mk h0_0).P = 18446744069414584321 ∧ (0 ≤ s1 ∧ s1 < 18446744069414584321) ∧ (0 ≤ s1 ∧ s1 < 18446744069414584321)) ∧ nx1 ((s1 * s1 % 18446744069414584321 : Int), (ishr .u64 s2 1 : Int), s7, h0_0, ())) ∧
(decide (0 < (ishr .u64 s2 1)) = false →
 nx1 (s1, (ishr .u64 s2 1 : Int), s7, h0_0, ())))) : Field_pow_J1 (r0, ()) nx1 (s1, s2, s7, h0_0, ()) := ⟨mpr_of (by kernel_rfl) h⟩
def Field_pow_B1 (r0 : Int) (nx1 : HL TB.den Field_pow_T1.hs → Prop) (k1 : Int → Int → Int → Prop) (h0_0 : Int) (s1 : Int) (s2 : Int) (s7 : Int) : Prop :=
(decide (0 < s2) = true →
(((iand .u64 s2 1) == 1) = true →
((TField.mk h0_0).P = 18446744069414584321 ∧ (0 ≤ s7 ∧ s7 < 18446744069414584321) ∧ (0 ≤ s1 ∧ s1 < 18446744069414584321)) ∧ Field_pow_J1 (r0, ()) nx1 (s1, s2, (s7 * s1 % 18446744069414584321 : Int), h0_0, ())) ∧
(((iand .u64 s2 1) == 1) = false →
 Field_pow_J1 (r0, ()) nx1 (s1, s2, s7, h0_0, ()))) ∧
(decide (0 < s2) = false →
 s7 = r0)
set_option maxRecDepth 100000 in
theorem Field_pow_lp1 {r0 : Int} {h0_0 : Int} {s1 : Int} {s2 : Int} {s7 : Int} (inv : Int → Int → Int → Prop) (μ : Int → Int → Int → Nat) (h0 : inv s1 s2 s7) (hs : ∀ (s1 : Int) (s2 : Int) (s7 : Int), inv s1 s2 s7 → Field_pow_B1 r0 (fun s : Int × Int × Int × Int × Unit => ((s.2.2.2.1 = h0_0) ∧ inv s.1 s.2.1 s.2.2.1) ∧ μ s.1 s.2.1 s.2.2.1 < μ s1 s2 s7) (fun s1q s2q s7q => inv s1q s2q s7q ∧ μ s1q s2q s7q < μ s1 s2 s7) h0_0 s1 s2 s7) : Md.Loop (s1, s2, s7, h0_0, ()) (Field_pow_L1 (r0, ())) :=
  ⟨⟨fun s : Int × Int × Int × Int × Unit => (s.2.2.2.1 = h0_0) ∧ inv s.1 s.2.1 s.2.2.1, fun s : Int × Int × Int × Int × Unit => μ s.1 s.2.1 s.2.2.1, ⟨rfl, h0⟩, fun (s1p, s2p, s7p, h0_0p, ()) ⟨eq0, hi⟩ => by
    have eq0 : h0_0p = h0_0 := eq0; subst h0_0p; exact mpr_of (by kernel_rfl) ((congrArg (fun k => Field_pow_B1 r0 (fun s : Int × Int × Int × Int × Unit => ((s.2.2.2.1 = h0_0) ∧ inv s.1 s.2.1 s.2.2.1) ∧ μ s.1 s.2.1 s.2.2.1 < μ s1p s2p s7p) k h0_0 s1p s2p s7p) (lpk3 (rfl : h0_0 = h0_0) inv (fun s1q s2q s7q => μ s1q s2q s7q < μ s1p s2p s7p))).mpr (hs s1p s2p s7p hi))⟩⟩
theorem bd83 : Callable Try.prog 83 := ⟨by rw [Try.func83]; kernel_rfl, by rw [Try.func83]; show some _ ≠ some _; decide⟩
theorem Field_pow_body (p0 : TField) (p1 : Int) (p2 : Int) (h : p0.P = 18446744069414584321 ∧ (0 ≤ p1 ∧ p1 < 18446744069414584321) ∧ U64 p2) : Field_pow_Body (p0.P, p1, p2, ()) ((pw p1 p2 : Int), ()) := by
  obtain ⟨hP, h1, h2⟩ := h
  refine Field_pow_in ?_
  rw [hP]
  refine Field_pow_lp1 (fun a e r => (0 ≤ a ∧ a < 18446744069414584321) ∧ U64 e ∧ (0 ≤ r ∧ r < 18446744069414584321) ∧ (r * a ^ e.toNat) % 18446744069414584321 = pw p1 p2) (fun a e r => e.toNat) ⟨h1, h2, by omega, by rw [Int.one_mul]; rfl⟩ ?_
  rintro a e r ⟨ha, he, hr, hv⟩
  have jj : ∀ nx r', (0 ≤ r' ∧ r' < 18446744069414584321) → 0 < e → (r' * (a * a) ^ (e / 2).toNat) % 18446744069414584321 = pw p1 p2 → (∀ a', (0 ≤ a' ∧ a' < 18446744069414584321) → r' * a' ^ (e / 2).toNat % 18446744069414584321 = pw p1 p2 → nx (a', (e / 2 : Int), r', (18446744069414584321 : Int), ())) → Field_pow_J1 ((pw p1 p2 : Int), ()) nx (a, e, r', (18446744069414584321 : Int), ()) := by
    intro nx r' hr' he' hv' hn
    refine Field_pow_J1_in ?_
    rw [ishr1]
    refine ⟨fun h => ⟨⟨rfl, ha, ha⟩, ?_⟩, fun h => ?_⟩
    · refine hn _ ⟨Int.emod_nonneg _ (by omega), Int.emod_lt_of_pos _ (by omega)⟩ ?_
      rw [← hv', Int.mul_emod, Int.mul_emod r' ((a * a) ^ _), emod_pow]
    · have h : ¬ 0 < e / 2 := of_decide_eq_false h
      refine hn _ ha ?_
      rw [show (e / 2).toNat = 0 by omega] at hv' ⊢
      simpa using hv'
  refine ⟨fun h => ?_, fun h => ?_⟩
  · have h := of_decide_eq_true h
    rw [iand_one e he]
    have nxt : ∀ a' r', (0 ≤ a' ∧ a' < 18446744069414584321) → (0 ≤ r' ∧ r' < 18446744069414584321) → r' * a' ^ (e / 2).toNat % 18446744069414584321 = pw p1 p2 → ((0 ≤ a' ∧ a' < 18446744069414584321) ∧ U64 (e / 2) ∧ (0 ≤ r' ∧ r' < 18446744069414584321) ∧ r' * a' ^ (e / 2).toNat % 18446744069414584321 = pw p1 p2) ∧ (e / 2).toNat < e.toNat := fun a' r' h1 h2 h3 => ⟨⟨h1, ⟨by omega, by omega⟩, h2, h3⟩, by omega⟩
    have hpow : ∀ k : Nat, a ^ (2 * k) = (a * a) ^ k := fun k => by rw [Int.pow_mul]; congr 1; rw [Int.pow_succ, Int.pow_succ, Int.pow_zero, Int.one_mul]
    refine ⟨fun h1 => ⟨⟨rfl, hr, ha⟩, ?_⟩, fun h1 => ?_⟩
    · have h1 : e % 2 = 1 := by simpa using h1
      refine jj _ _ ⟨Int.emod_nonneg _ (by omega), Int.emod_lt_of_pos _ (by omega)⟩ h ?_ fun a' ha' hv' => ⟨⟨rfl, (nxt a' _ ha' ⟨Int.emod_nonneg _ (by omega), Int.emod_lt_of_pos _ (by omega)⟩ hv').1⟩, (nxt a' _ ha' ⟨Int.emod_nonneg _ (by omega), Int.emod_lt_of_pos _ (by omega)⟩ hv').2⟩
      rw [← hv, show e.toNat = 2 * (e / 2).toNat + 1 by omega, Int.pow_succ, hpow, Int.mul_emod, Int.emod_emod_of_dvd _ (Int.dvd_refl _), ← Int.mul_emod]
      congr 1
      grind
    · have h1 : ¬ e % 2 = 1 := by simpa using h1
      refine jj _ _ hr h ?_ fun a' ha' hv' => ⟨⟨rfl, (nxt a' _ ha' hr hv').1⟩, (nxt a' _ ha' hr hv').2⟩
      rw [← hv, ← hpow, show e.toNat = 2 * (e / 2).toNat by omega]
  · have h : ¬ 0 < e := of_decide_eq_false h
    rw [show e.toNat = 0 by omega, Int.pow_zero, Int.mul_one, Int.emod_eq_of_lt hr.1 hr.2] at hv
    exact hv
noncomputable def Field_pow_con : Con TB.den := Field_pow_sh.fnR (fun x => (fun (p0 : TField) (p1 : Int) (p2 : Int) => p0.P = 18446744069414584321 ∧ (0 ≤ p1 ∧ p1 < 18446744069414584321) ∧ U64 p2) (TField.mk x.1) x.2.1 x.2.2.1) fun x => ((fun (p0 : TField) (p1 : Int) (p2 : Int) => (pw p1 p2 : Int)) (TField.mk x.1) x.2.1 x.2.2.1, ())
theorem Field_pow_ok : Field_pow_con.Ok Try.prog TB := Con.ok_fn Field_pow_sh bd83 fun x h => Field_pow_snd (Field_pow_body (TField.mk x.1) x.2.1 x.2.2.1 h)
end Go.Proofs.Ytdbnagpoknmoiaa
namespace Go.Proofs.Ytdbnagpoknmoiaa
open Go Go.Bv Go.Cv Go.Md Go.RowKit
def Field_Pow_sh : Con TB.den := Con.mk0 76 [.agg [.d (.int .u64)], .one (.d (.int .u64)), .one (.d (.int .u64))] [] (.one (.one (.d (.int .u64)))) []
abbrev Field_Pow_I := HL TB.den (hsT Field_Pow_sh.ins (hsOs Field_Pow_sh.pre))
abbrev Field_Pow_O := HL TB.den (hsV Field_Pow_sh.res (hsOs Field_Pow_sh.post))
noncomputable def Field_Pow_cx : Cx TB := ⟨inf, [Field_Valid_con, Field_reduced_con, Field_pow_con], [], 4⟩
noncomputable def Field_Pow_code : Code := Try.f76.body.getD .skip
noncomputable def Field_Pow_rs : List ResultVar := Try.f76.results.toList
noncomputable def Field_Pow_an (o : Field_Pow_O) : An TB := .no
noncomputable def Field_Pow_Body (x : Field_Pow_I) (o : Field_Pow_O) : Prop := WPh TB Field_Pow_cx 16 0 Field_Pow_code (Field_Pow_an o) (Field_Pow_sh.st TB x) (retTQ TB Field_Pow_cx Field_Pow_sh Field_Pow_rs o)
set_option maxRecDepth 100000 in
theorem Field_Pow_obl (o : Field_Pow_O) : OblH TB Field_Pow_cx 16 0 Field_Pow_code (Field_Pow_an o) (retTQ TB Field_Pow_cx Field_Pow_sh Field_Pow_rs o) :=
  OblH.of_eq (X := (True ∧ ((True ∧ ((True ∧ True) ∧ True)) ∧ (True ∧ True)))) (by kernel_rfl) ⟨trivial, ⟨⟨trivial, ⟨⟨trivial, trivial⟩, trivial⟩⟩, ⟨trivial, trivial⟩⟩⟩
set_option maxRecDepth 100000 in
theorem Field_Pow_snd {x : Field_Pow_I} {o : Field_Pow_O} (h : Field_Pow_Body x o) : SoundH Try.prog Field_Pow_sh.f ((Field_Pow_sh.args idf x).map (er TB)) ((Field_Pow_sh.obs idf x).map (erO TB)) (er TB (Field_Pow_sh.val idf o)) ((Field_Pow_sh.ops idf o).map (erO TB)) :=
  Con.soundH (c := Field_Pow_sh) (C := Field_Pow_cx) TBok ⟨inf_ok, (all_cons Field_Valid_ok (all_cons Field_reduced_ok (all_cons Field_pow_ok all_nil))), all_nil⟩ mix Try.func76 (show Try.f76.body = some Field_Pow_code by kernel_rfl) (show Try.f76.ntmps = 16 by kernel_rfl) (show Try.f76.results.toList = Field_Pow_rs by kernel_rfl) rfl h (Field_Pow_obl o)
set_option maxRecDepth 100000 in
theorem Field_Pow_in {p0 : TField} {p1 : Int} {p2 : Int} {r0 : Int} (h :
((p0.P = 18446744069414584321) ∧ ((!true) = true →
 0 = r0) ∧
((!true) = false →
(0 < p0.P ∧ 0 ≤ p1) ∧ (p0.P = 18446744069414584321 ∧ (0 ≤ (p1 % p0.P) ∧ (p1 % p0.P) < 18446744069414584321) ∧ U64 p2) ∧ pw (p1 % p0.P) p2 = r0))) : Field_Pow_Body (p0.P, p1, p2, ()) (r0, ()) := WPh.of_eq (by kernel_rfl) h
theorem bd76 : Callable Try.prog 76 := ⟨by rw [Try.func76]; kernel_rfl, by rw [Try.func76]; show some _ ≠ some _; decide⟩
theorem Field_Pow_body (p0 : TField) (p1 : Int) (p2 : Int) (h : p0.P = 18446744069414584321 ∧ U64 p1 ∧ U64 p2) : Field_Pow_Body (p0.P, p1, p2, ()) ((pw (p1 % 18446744069414584321) p2 : Int), ()) := by
  obtain ⟨hP, h1, h2⟩ := h
  refine Field_Pow_in ⟨hP, fun h => by simp at h, fun _ => ⟨by omega, ?_⟩⟩
  simp only [hP]
  exact ⟨⟨by trivial, by omega, h2⟩, trivial⟩
noncomputable def Field_Pow_con : Con TB.den := Field_Pow_sh.fnR (fun x => (fun (p0 : TField) (p1 : Int) (p2 : Int) => p0.P = 18446744069414584321 ∧ U64 p1 ∧ U64 p2) (TField.mk x.1) x.2.1 x.2.2.1) fun x => ((fun (p0 : TField) (p1 : Int) (p2 : Int) => (pw (p1 % 18446744069414584321) p2 : Int)) (TField.mk x.1) x.2.1 x.2.2.1, ())
theorem Field_Pow_ok : Field_Pow_con.Ok Try.prog TB := Con.ok_fn Field_Pow_sh bd76 fun x h => Field_Pow_snd (Field_Pow_body (TField.mk x.1) x.2.1 x.2.2.1 h)
end Go.Proofs.Ytdbnagpoknmoiaa
namespace Go.Proofs.Ytdbnagpoknmoiaa
open Go Go.Bv Go.Cv Go.Md Go.RowKit
def Field_Reduce_sh : Con TB.den := Con.mk0 84 [.agg [.d (.int .u64)], .one (.d (.int .u64))] [] (.one (.one (.d (.int .u64)))) []
abbrev Field_Reduce_I := HL TB.den (hsT Field_Reduce_sh.ins (hsOs Field_Reduce_sh.pre))
abbrev Field_Reduce_O := HL TB.den (hsV Field_Reduce_sh.res (hsOs Field_Reduce_sh.post))
noncomputable def Field_Reduce_cx : Cx TB := ⟨inf, [Field_Valid_con, Field_reduced_con], [], 4⟩
noncomputable def Field_Reduce_code : Code := Try.f84.body.getD .skip
noncomputable def Field_Reduce_rs : List ResultVar := Try.f84.results.toList
noncomputable def Field_Reduce_an (o : Field_Reduce_O) : An TB := .no
noncomputable def Field_Reduce_Body (x : Field_Reduce_I) (o : Field_Reduce_O) : Prop := WPh TB Field_Reduce_cx 11 0 Field_Reduce_code (Field_Reduce_an o) (Field_Reduce_sh.st TB x) (retTQ TB Field_Reduce_cx Field_Reduce_sh Field_Reduce_rs o)
set_option maxRecDepth 100000 in
theorem Field_Reduce_obl (o : Field_Reduce_O) : OblH TB Field_Reduce_cx 11 0 Field_Reduce_code (Field_Reduce_an o) (retTQ TB Field_Reduce_cx Field_Reduce_sh Field_Reduce_rs o) :=
  OblH.of_eq (X := (True ∧ ((True ∧ ((True ∧ True) ∧ True)) ∧ (True ∧ True)))) (by kernel_rfl) ⟨trivial, ⟨⟨trivial, ⟨⟨trivial, trivial⟩, trivial⟩⟩, ⟨trivial, trivial⟩⟩⟩
set_option maxRecDepth 100000 in
theorem Field_Reduce_snd {x : Field_Reduce_I} {o : Field_Reduce_O} (h : Field_Reduce_Body x o) : SoundH Try.prog Field_Reduce_sh.f ((Field_Reduce_sh.args idf x).map (er TB)) ((Field_Reduce_sh.obs idf x).map (erO TB)) (er TB (Field_Reduce_sh.val idf o)) ((Field_Reduce_sh.ops idf o).map (erO TB)) :=
  Con.soundH (c := Field_Reduce_sh) (C := Field_Reduce_cx) TBok ⟨inf_ok, (all_cons Field_Valid_ok (all_cons Field_reduced_ok all_nil)), all_nil⟩ mix Try.func84 (show Try.f84.body = some Field_Reduce_code by kernel_rfl) (show Try.f84.ntmps = 11 by kernel_rfl) (show Try.f84.results.toList = Field_Reduce_rs by kernel_rfl) rfl h (Field_Reduce_obl o)
set_option maxRecDepth 100000 in
theorem Field_Reduce_in {p0 : TField} {p1 : Int} {r0 : Int} (h :
((p0.P = 18446744069414584321) ∧ ((!true) = true →
 0 = r0) ∧
((!true) = false →
(0 < p0.P ∧ 0 ≤ p1) ∧ p1 % p0.P = r0))) : Field_Reduce_Body (p0.P, p1, ()) (r0, ()) := WPh.of_eq (by kernel_rfl) h
theorem bd84 : Callable Try.prog 84 := ⟨by rw [Try.func84]; kernel_rfl, by rw [Try.func84]; show some _ ≠ some _; decide⟩
theorem Field_Reduce_body (p0 : TField) (p1 : Int) (h : p0.P = 18446744069414584321 ∧ U64 p1) : Field_Reduce_Body (p0.P, p1, ()) ((p1 % 18446744069414584321 : Int), ()) := by
  obtain ⟨hP, h1⟩ := h
  refine Field_Reduce_in ⟨hP, fun h => by simp at h, fun _ => ⟨by omega, ?_⟩⟩
  simp only [hP]
noncomputable def Field_Reduce_con : Con TB.den := Field_Reduce_sh.fnR (fun x => (fun (p0 : TField) (p1 : Int) => p0.P = 18446744069414584321 ∧ U64 p1) (TField.mk x.1) x.2.1) fun x => ((fun (p0 : TField) (p1 : Int) => (p1 % 18446744069414584321 : Int)) (TField.mk x.1) x.2.1, ())
theorem Field_Reduce_ok : Field_Reduce_con.Ok Try.prog TB := Con.ok_fn Field_Reduce_sh bd84 fun x h => Field_Reduce_snd (Field_Reduce_body (TField.mk x.1) x.2.1 h)
end Go.Proofs.Ytdbnagpoknmoiaa
namespace Go.Proofs.Ytdbnagpoknmoiaa
open Go Go.Bv Go.Cv Go.Md Go.RowKit
def permutation_Constant_sh : Con TB.den := Con.mk0 77 [.one (.d (.int .u64)), .one (.d (.int .i64)), .one (.d (.int .i64))] [] (.one (.one (.d (.int .u64)))) []
abbrev permutation_Constant_I := HL TB.den (hsT permutation_Constant_sh.ins (hsOs permutation_Constant_sh.pre))
abbrev permutation_Constant_O := HL TB.den (hsV permutation_Constant_sh.res (hsOs permutation_Constant_sh.post))
noncomputable def permutation_Constant_cx : Cx TB := ⟨inf, [Field_Reduce_con], [], 4⟩
noncomputable def permutation_Constant_code : Code := Try.f77.body.getD .skip
noncomputable def permutation_Constant_rs : List ResultVar := Try.f77.results.toList
noncomputable def permutation_Constant_an (o : permutation_Constant_O) : An TB := .no
noncomputable def permutation_Constant_Body (x : permutation_Constant_I) (o : permutation_Constant_O) : Prop := WPh TB permutation_Constant_cx 31 0 permutation_Constant_code (permutation_Constant_an o) (permutation_Constant_sh.st TB x) (retTQ TB permutation_Constant_cx permutation_Constant_sh permutation_Constant_rs o)
set_option maxRecDepth 100000 in
theorem permutation_Constant_obl (o : permutation_Constant_O) : OblH TB permutation_Constant_cx 31 0 permutation_Constant_code (permutation_Constant_an o) (retTQ TB permutation_Constant_cx permutation_Constant_sh permutation_Constant_rs o) :=
  OblH.of_eq (X := (True ∧ ((True ∧ ((True ∧ True) ∧ True)) ∧ (True ∧ True)))) (by kernel_rfl) ⟨trivial, ⟨⟨trivial, ⟨⟨trivial, trivial⟩, trivial⟩⟩, ⟨trivial, trivial⟩⟩⟩
set_option maxRecDepth 100000 in
theorem permutation_Constant_snd {x : permutation_Constant_I} {o : permutation_Constant_O} (h : permutation_Constant_Body x o) : SoundH Try.prog permutation_Constant_sh.f ((permutation_Constant_sh.args idf x).map (er TB)) ((permutation_Constant_sh.obs idf x).map (erO TB)) (er TB (permutation_Constant_sh.val idf o)) ((permutation_Constant_sh.ops idf o).map (erO TB)) :=
  Con.soundH (c := permutation_Constant_sh) (C := permutation_Constant_cx) TBok ⟨inf_ok, (all_cons Field_Reduce_ok all_nil), all_nil⟩ mix Try.func77 (show Try.f77.body = some permutation_Constant_code by kernel_rfl) (show Try.f77.ntmps = 31 by kernel_rfl) (show Try.f77.results.toList = permutation_Constant_rs by kernel_rfl) rfl h (permutation_Constant_obl o)
set_option maxRecDepth 100000 in
theorem permutation_Constant_in {p0 : Int} {p1 : Int} {p2 : Int} {r0 : Int} (h :
((decide (p1 < 0) = true →
 0 = r0) ∧
(decide (p1 < 0) = false →
(decide (8 ≤ p1) = true →
 0 = r0) ∧
(decide (8 ≤ p1) = false →
(decide (p2 < 0) = true →
 0 = r0) ∧
(decide (p2 < 0) = false →
(decide (2 < p2) = true →
 0 = r0) ∧
(decide (2 < p2) = false →
 let v1 : Int := IntKind.i64.wrap ((IntKind.i64.wrap (3 * p1)) + p2)
 let v2 : Int := IntKind.u64.wrap (IntKind.i64.wrap (v1 + 1))
 let v3 : Int := IntKind.u64.wrap (v2 * 11400714819323198485)
((TField.mk p0).P = 18446744069414584321 ∧ U64 v3) ∧ v3 % 18446744069414584321 = r0)))))) : permutation_Constant_Body (p0, p1, p2, ()) (r0, ()) := WPh.of_eq (by kernel_rfl) h
theorem bd77 : Callable Try.prog 77 := ⟨by rw [Try.func77]; kernel_rfl, by rw [Try.func77]; show some _ ≠ some _; decide⟩
theorem permutation_Constant_body (p0 : Int) (p1 : Int) (p2 : Int) (h : p0 = 18446744069414584321 ∧ (0 ≤ p1 ∧ p1 < 8) ∧ 0 ≤ p2 ∧ p2 < 3) : permutation_Constant_Body (p0, p1, p2, ()) ((rc p1 p2 : Int), ()) := by
  obtain ⟨hP, h1, h2⟩ := h
  refine permutation_Constant_in ⟨fun h => ?_, fun _ => ⟨fun h => ?_, fun _ => ⟨fun h => ?_, fun _ => ⟨fun h => ?_, fun _ => ?_⟩⟩⟩⟩
  · simp at h; omega
  · simp at h; omega
  · simp at h; omega
  · simp at h; omega
  · simp only []
    rw [wi (3 * p1) (by omega) (by omega), wi (3 * p1 + p2) (by omega) (by omega), wi (3 * p1 + p2 + 1) (by omega) (by omega), wu (3 * p1 + p2 + 1) (by omega) (by omega), u64w]
    exact ⟨⟨hP, by omega, by omega⟩, rfl⟩
noncomputable def permutation_Constant_con : Con TB.den := permutation_Constant_sh.fnR (fun x => (fun (p0 : Int) (p1 : Int) (p2 : Int) => p0 = 18446744069414584321 ∧ (0 ≤ p1 ∧ p1 < 8) ∧ 0 ≤ p2 ∧ p2 < 3) x.1 x.2.1 x.2.2.1) fun x => ((fun (p0 : Int) (p1 : Int) (p2 : Int) => (rc p1 p2 : Int)) x.1 x.2.1 x.2.2.1, ())
theorem permutation_Constant_ok : permutation_Constant_con.Ok Try.prog TB := Con.ok_fn permutation_Constant_sh bd77 fun x h => permutation_Constant_snd (permutation_Constant_body x.1 x.2.1 x.2.2.1 h)
end Go.Proofs.Ytdbnagpoknmoiaa
namespace Go.Proofs.Ytdbnagpoknmoiaa
open Go Go.Bv Go.Cv Go.Md Go.RowKit
def permutation_Mix_sh : Con TB.den := Con.mk0 78 [.one (.d (.int .u64)), .agg [.d (.int .u64), .d (.int .u64), .d (.int .u64)]] [] (.one (.agg [.d (.int .u64), .d (.int .u64), .d (.int .u64)])) []
abbrev permutation_Mix_I := HL TB.den (hsT permutation_Mix_sh.ins (hsOs permutation_Mix_sh.pre))
abbrev permutation_Mix_O := HL TB.den (hsV permutation_Mix_sh.res (hsOs permutation_Mix_sh.post))
noncomputable def permutation_Mix_cx : Cx TB := ⟨inf, [Field_Add_con], [], 4⟩
noncomputable def permutation_Mix_code : Code := Try.f78.body.getD .skip
noncomputable def permutation_Mix_rs : List ResultVar := Try.f78.results.toList
noncomputable def permutation_Mix_an (o : permutation_Mix_O) : An TB := .no
noncomputable def permutation_Mix_Body (x : permutation_Mix_I) (o : permutation_Mix_O) : Prop := WPh TB permutation_Mix_cx 35 0 permutation_Mix_code (permutation_Mix_an o) (permutation_Mix_sh.st TB x) (retTQ TB permutation_Mix_cx permutation_Mix_sh permutation_Mix_rs o)
set_option maxRecDepth 100000 in
theorem permutation_Mix_obl (o : permutation_Mix_O) : OblH TB permutation_Mix_cx 35 0 permutation_Mix_code (permutation_Mix_an o) (retTQ TB permutation_Mix_cx permutation_Mix_sh permutation_Mix_rs o) :=
  OblH.of_eq (X := (True ∧ (True ∧ (True ∧ (True ∧ True))))) (by kernel_rfl) ⟨trivial, ⟨trivial, ⟨trivial, ⟨trivial, trivial⟩⟩⟩⟩
set_option maxRecDepth 100000 in
theorem permutation_Mix_snd {x : permutation_Mix_I} {o : permutation_Mix_O} (h : permutation_Mix_Body x o) : SoundH Try.prog permutation_Mix_sh.f ((permutation_Mix_sh.args idf x).map (er TB)) ((permutation_Mix_sh.obs idf x).map (erO TB)) (er TB (permutation_Mix_sh.val idf o)) ((permutation_Mix_sh.ops idf o).map (erO TB)) :=
  Con.soundH (c := permutation_Mix_sh) (C := permutation_Mix_cx) TBok ⟨inf_ok, (all_cons Field_Add_ok all_nil), all_nil⟩ mix Try.func78 (show Try.f78.body = some permutation_Mix_code by kernel_rfl) (show Try.f78.ntmps = 35 by kernel_rfl) (show Try.f78.results.toList = permutation_Mix_rs by kernel_rfl) rfl h (permutation_Mix_obl o)
set_option maxRecDepth 100000 in
theorem permutation_Mix_in {p0 : Int} {p1 : TA3} {r0 : TA3} (h :
(((TField.mk p0).P = 18446744069414584321 ∧ U64 p1.a0 ∧ U64 p1.a1) ∧ ((TField.mk p0).P = 18446744069414584321 ∧ U64 ((p1.a0 + p1.a1) % 18446744069414584321) ∧ U64 p1.a2) ∧ let r1 : Int := (((p1.a0 + p1.a1) % 18446744069414584321) + p1.a2) % 18446744069414584321
((TField.mk p0).P = 18446744069414584321 ∧ U64 p1.a0 ∧ U64 r1) ∧ ((TField.mk p0).P = 18446744069414584321 ∧ U64 p1.a1 ∧ U64 r1) ∧ ((TField.mk p0).P = 18446744069414584321 ∧ U64 p1.a2 ∧ U64 r1) ∧ (p1.a0 + r1) % 18446744069414584321 = r0.a0 ∧ (p1.a1 + r1) % 18446744069414584321 = r0.a1 ∧ (p1.a2 + r1) % 18446744069414584321 = r0.a2)) : permutation_Mix_Body (p0, p1.a0, p1.a1, p1.a2, ()) (r0.a0, r0.a1, r0.a2, ()) := WPh.of_eq (by kernel_rfl) h
theorem bd78 : Callable Try.prog 78 := ⟨by rw [Try.func78]; kernel_rfl, by rw [Try.func78]; show some _ ≠ some _; decide⟩
theorem permutation_Mix_body (p0 : Int) (p1 : TA3) (h : p0 = 18446744069414584321 ∧ S3 p1) : permutation_Mix_Body (p0, p1.a0, p1.a1, p1.a2, ()) (((mixS p1).a0 : Int), ((mixS p1).a1 : Int), ((mixS p1).a2 : Int), ()) := by
  obtain ⟨hP, h0, h1, h2⟩ := h
  refine permutation_Mix_in ?_
  simp only [hP]
  exact ⟨⟨by trivial, h0, h1⟩, ⟨by trivial, by omega, h2⟩, ⟨by trivial, h0, by omega⟩, ⟨by trivial, h1, by omega⟩, ⟨by trivial, h2, by omega⟩, rfl, rfl, rfl⟩
noncomputable def permutation_Mix_con : Con TB.den := permutation_Mix_sh.fnR (fun x => (fun (p0 : Int) (p1 : TA3) => p0 = 18446744069414584321 ∧ S3 p1) x.1 (TA3.mk x.2.1 x.2.2.1 x.2.2.2.1)) fun x => ((fun (p0 : Int) (p1 : TA3) => ((mixS p1).a0 : Int)) x.1 (TA3.mk x.2.1 x.2.2.1 x.2.2.2.1), (fun (p0 : Int) (p1 : TA3) => ((mixS p1).a1 : Int)) x.1 (TA3.mk x.2.1 x.2.2.1 x.2.2.2.1), (fun (p0 : Int) (p1 : TA3) => ((mixS p1).a2 : Int)) x.1 (TA3.mk x.2.1 x.2.2.1 x.2.2.2.1), ())
theorem permutation_Mix_ok : permutation_Mix_con.Ok Try.prog TB := Con.ok_fn permutation_Mix_sh bd78 fun x h => permutation_Mix_snd (permutation_Mix_body x.1 (TA3.mk x.2.1 x.2.2.1 x.2.2.2.1) h)
end Go.Proofs.Ytdbnagpoknmoiaa
