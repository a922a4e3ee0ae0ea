/-
  Parts of the proofs that the laws of this seat hold of every input, merged by a program: a machine over pure data that is sound for the model, what each function of the translation does in it, and plain lemmas. No conditions but those in each theorem.
-/
import Derived.Test.YtnmakgfmimagmaaA2
set_option linter.all false
namespace Go.Bv
open Go.RowKit
def Eqv (s s' : St) : Prop := s.h = s'.h ∧ s.nx = s'.nx ∧ ∀ t, getS s.sl t = getS s'.sl t
theorem Eqv.refl (s : St) : Eqv s s := ⟨rfl, rfl, fun _ => rfl⟩
theorem Eqv.ev {s s' : St} (h : Eqv s s') : s.ev = s'.ev := by
  funext x
  cases x with
  | tmp t => exact h.2.2 t
  | _ => rfl
theorem Eqv.put {s s' : St} (h : Eqv s s') (u : Hp) (nf : Nat) (d : Option Nat) (x : V) : Eqv (St.put ⟨s.sl, u ++ s.h, s.nx + nf⟩ d x) (St.put ⟨s'.sl, u ++ s'.h, s'.nx + nf⟩ d x) := by
  obtain ⟨h1, h2, h3⟩ := h
  cases d with
  | none => exact ⟨by show u ++ s.h = u ++ s'.h; rw [h1], by show s.nx + nf = s'.nx + nf; rw [h2], h3⟩
  | some t => exact ⟨by show u ++ s.h = u ++ s'.h; rw [h1], by show s.nx + nf = s'.nx + nf; rw [h2], fun j => by
      show (if j = t then x else getS s.sl j) = (if j = t then x else getS s'.sl j)
      rw [h3 j]⟩
theorem Eqv.wk {s s' : St} (h : Eqv s s') : Wk s s' := by
  obtain ⟨h1, h2, h3⟩ := h
  obtain ⟨sl, hh, nx⟩ := s
  obtain ⟨sl', hh', nx'⟩ := s'
  simp only at h1 h2 h3
  subst h1
  subst h2
  intro T G0 w0 N a G w hR
  exact ⟨hR.fr, hR.wr, hR.df, hR.sz, fun t => by have := hR.sl t; rw [h3 t] at this; exact this, hR.ex⟩
theorem Wk.trans {a b c : St} (h : Wk a b) (h' : Wk b c) : Wk a c := fun T G0 w0 N x G w hR => h' T G0 w0 N x G w (h T G0 w0 N x G w hR)
theorem eqv_again {s : St} {u : Nat} {v : V} (h : getS s.sl u = v) : Eqv s ⟨(u, v) :: s.sl, s.h, s.nx⟩ := ⟨rfl, rfl, fun t => by
  show getS s.sl t = if t = u then v else getS s.sl t
  by_cases e : t = u
  · rw [if_pos e, e, h]
  · rw [if_neg e]⟩
theorem opD_eqv {P : Program} {nb S k : Nat} {op : Op} {e : Eff} {s s' : St} (h : Eqv s s') (ho : opD P nb S k op e s') : opD P nb S k op e s := by
  have e1 := h.ev
  have e2 := h.1
  unfold opD at ho ⊢
  rw [e1, e2]
  exact ho
theorem dops_eqv {P : Program} {N : Nat} {tb : List (Option Nat)} {nb S : Nat} {K K' : St → Prop} (hK : ∀ a b, Eqv a b → K b → K' a) : ∀ (l : List Oper) (ws rs : List (Nat × Nat)) (k : Nat) (s s' : St), Eqv s s' → DOps P N tb nb S ws rs k l K s' → DOps P N tb nb S ws rs k l K' s
  | [], _, _, _, s, s', he, h => hK s s' he h
  | o :: l, ws, rs, k, s, s', he, h => by
    obtain ⟨e, h1, ⟨h2, h3⟩, h4⟩ := h
    have hg : ∀ j, guardV s tb j = guardV s' tb j := fun j => by
      unfold guardV
      split
      · exact he.2.2 _
      · rfl
    refine ⟨e, ⟨h1.1, h1.2.1, ?_⟩, ⟨by rw [he.1]; exact h2, h3⟩, dops_eqv hK l _ _ (k + 1) _ _ ?_ h4⟩
    · have h5 := h1.2.2
      split
      · rename_i hn; rw [hn] at h5; exact opD_eqv he h5
      · rename_i j b hn
        rw [hn] at h5
        simp only at h5
        rw [hg j]
        rcases h5 with h5 | ⟨t, q1, q2, q3⟩
        · exact .inl h5
        · exact .inr ⟨t, q1, fun ht => opD_eqv he (q2 ht), q3⟩
    · have := he.put e.hu 0 e.d e.x
      exact this
end Go.Bv
namespace Go.Cv
open Go Go.Bv Go.RowKit Go.Md
section
variable {T : Tab} {P : Program} {C : Cx T} {N : Nat}
theorem isUndef_eq {v : Value} (h : isUndef v = true) : v = undef := by
  cases v with
  | tuple a =>
    have ha : a = #[] := Array.eq_empty_of_size_eq_zero (nb_eq h)
    subst ha; rfl
  | _ => cases h
theorem slotOf_er {s : TSt T.den} {tb : List (Option Nat)} {j u : Nat} (h : slotOf tb j = some u) : guardV (erS T s) tb j = er T (getT s.sl u) := by
  unfold slotOf at h
  split at h
  · rename_i t ht
    injection h with h
    subst h
    unfold guardV
    rw [ht]
    exact getS_er s.sl t
  · cases h
theorem tGuard_snd {s : TSt T.den} {tb : List (Option Nat)} {g : Option (Nat × Bool)} {run no : TSt T.den → Prop} (h : tGuard T s tb g run no) :
    (g = none ∧ run s) ∨ ∃ j b, g = some (j, b) ∧ ((guardV (erS T s) tb j = .k undef ∧ no s) ∨ ∃ (t : Bool) (s' : TSt T.den), guardV (erS T s) tb j = .d (.bool t) ∧ Eqv (erS T s) (erS T s') ∧ ((t = b ∧ run s') ∨ (t ≠ b ∧ no s'))) := by
  unfold tGuard at h
  split at h
  · exact .inl ⟨rfl, h⟩
  · rename_i j b
    refine .inr ⟨j, b, rfl, ?_⟩
    split at h
    · exact h.elim
    · rename_i u hu
      have hs := slotOf_er (s := s) hu
      split at h
      · rename_i v hv
        obtain ⟨h1, h2⟩ := cnd h
        rw [hv, isUndef_eq h1] at hs
        exact .inl ⟨hs, h2⟩
      · rename_i t hv
        rw [hv] at hs
        refine .inr ⟨t, s, hs, Eqv.refl _, ?_⟩
        cases ht : (t == b) with
        | true => rw [ht] at h; exact .inl ⟨by simpa using ht, h⟩
        | false => rw [ht] at h; exact .inr ⟨by simpa using ht, h⟩
      · rename_i t hv
        rw [hv] at hs
        obtain ⟨h1, h2⟩ := h
        cases t with
        | true =>
          have h1 := h1 rfl
          refine .inr ⟨true, ⟨(u, .lit true) :: s.sl, s.h, s.nx⟩, hs, eqv_again (s := erS T s) (u := u) (v := er T (.lit true)) (by rw [show getS (erS T s).sl u = er T (getT s.sl u) from getS_er s.sl u, hv]; rfl), ?_⟩
          cases b with
          | true => exact .inl ⟨rfl, h1⟩
          | false => exact .inr ⟨(by decide), h1⟩
        | false =>
          have h2 := h2 rfl
          refine .inr ⟨false, ⟨(u, .lit false) :: s.sl, s.h, s.nx⟩, hs, eqv_again (s := erS T s) (u := u) (v := er T (.lit false)) (by rw [show getS (erS T s).sl u = er T (getT s.sl u) from getS_er s.sl u, hv]; rfl), ?_⟩
          cases b with
          | true => exact .inr ⟨(by decide), h2⟩
          | false => exact .inl ⟨rfl, h2⟩
      · exact h.elim
theorem tops_sound (hT : T.Ok) (hC : C.Ok P T) {Tk : Tk} {G0 : Gh} {w0 : World} {ops : List Oper} {Q : Exit → Act → World → Prop} : ∀ (l : List Oper) (K : TSt T.den → Prop) (s : TSt T.den) (a : Act) (G : Gh) (w : World), R Tk G0 w0 N (erS T s) a G w → tOps T C N (ops.map (·.dst)) l s K →
    (∀ s' a' G' w', K s' → R Tk G0 w0 N (erS T s') a' G' w' → Q .normal a' w') → wpList P ops.toArray Q l a w
  | [], K, s, a, G, w, hR, hk, hQ => hQ _ _ _ _ hk hR
  | o :: r, K, s, a, G, w, hR, hk, hQ => by
    refine wpList_step fun K1 hK1 => ?_
    simp only [tOps] at hk
    obtain ⟨hd, hk⟩ := cnd hk
    have hdo := dstB_ok hd
    have rest : ∀ s' a' G' w', tOps T C N (ops.map (·.dst)) r s' K → R Tk G0 w0 N (erS T s') a' G' w' → K1 a' w' := fun s' a' G' w' h1 h2 => hK1 _ _ (tops_sound hT hC r K s' a' G' w' h2 h1 hQ)
    have run : ∀ s' : TSt T.den, R Tk G0 w0 N (erS T s') a G w → tStep T C s' (fun v hu nf => tOps T C N (ops.map (·.dst)) r (TSt.put ⟨s'.sl, hu ++ s'.h, s'.nx + nf⟩ o.dst v) K) o.op → o.wp P a w K1 (fun e a w => Q e a w) := by
      intro s' hR' hs
      refine op_sound hR' (tStep_sound hT hC hd hs) ?_
      rintro s1 a' G' w' ⟨v, hu, nf, h1, h2⟩ hR1
      exact rest _ a' G' w' h1 (h2 _ _ _ _ _ _ _ hR1)
    have no : ∀ s' : TSt T.den, R Tk G0 w0 N (erS T s') a G w → tOps T C N (ops.map (·.dst)) r (s'.put o.dst (.k undef)) K → K1 (a.put o.dst undef) w := by
      intro s' hR' hs
      refine rest _ _ G w hs ?_
      rw [erS_put]
      exact hR'.put (.k _) o.dst (fun u hu => by rw [hu] at hdo; exact hdo)
    rcases tGuard_snd hk with ⟨hg, h1⟩ | ⟨j, b, hg, ⟨h1, h2⟩ | ⟨t, s', h1, he, ⟨htb, h2⟩ | ⟨htb, h2⟩⟩⟩
    · rw [if_pos (by simp [Region.wanted, hg])]
      exact run s hR h1
    · have hy := guard_none hR h1
      rw [if_neg (by simp [Region.wanted, hg, hy])]
      exact no s hR h2
    · have hy := guard_yield hR h1
      rw [if_pos (by simp [Region.wanted, hg, hy, htb])]
      exact run s' (he.wk _ _ _ _ _ _ _ hR) h2
    · have hy := guard_yield hR h1
      rw [if_neg (by simp [Region.wanted, hg, hy, htb])]
      exact no s' (he.wk _ _ _ _ _ _ _ hR) h2
theorem prim_zero {k : IntKind} {zs : List V} {e : Ty} (he : e.prim = true) (h : leL zs ((T.e e (T.dflt e)).cells.map .d)) : zs = (T.e e (T.dflt e)).cells.map .d := by
  have key : ∀ d : D, (∀ s l, d ≠ .slice s l) → leL zs [.d d] → zs = [.d d] := by
    clear h
    intro d hd hl
    match zs, hl with
    | [z], hl =>
      have h1 : le1 z (.d d) := hl.1.1
      have : z = .d d := by
        unfold le1 at h1
        split at h1
        · rename_i hq; cases hq
        · rename_i hq; injection hq with hq; exact (hd _ _ hq).elim
        · rename_i hq; injection hq with hq; exact (hd _ _ hq).elim
        · rename_i hq; injection hq with hq; exact (hd _ _ hq).elim
        · rename_i hq; cases hq
        · exact h1
      rw [this]
    | [], hl => exact hl.elim
    | _ :: _ :: _, hl => exact hl.2.elim
  cases e with
  | int k => exact key _ (fun _ _ h => by cases h) h
  | bool => exact key _ (fun _ _ h => by cases h) h
  | str => exact key _ (fun _ _ h => by cases h) h
  | _ => cases he
theorem tOp_draw (hT : T.Ok) (hC : C.Ok P T) {nb S k : Nat} {s : TSt T.den} {K : TV T.den → THp T.den → Nat → Prop} {op : Op} (d : Option Nat) (h : tOp T C true (frs nb S k) s K op) :
    ∃ v hu nf, K v hu nf ∧ (nf ≤ S → opD P nb S k op ⟨d, er T v, erH T hu, rdT T s op⟩ (erS T s)) := by
  have quiet : ∀ op, (∀ t a, op ≠ .load t a) → tq T C.ti s (fun v => K v [] 0) op → ∃ v hu nf, K v hu nf ∧ avOk P [] (erS T s).ev op ∧ er T v = av P [] (erS T s).ev op ∧ erH T hu = [] := by
    intro op hl h
    obtain ⟨u, h1, h2, h3⟩ := tq_snd hT hC.ti h
    obtain ⟨q1, q2⟩ := av_h (P := P) (ev := (erS T s).ev) (op := op) (erS T s).h hl
    exact ⟨u, [], 0, h1, by rw [← q2]; exact h2, by rw [← q1, h3], rfl⟩
  cases op with
  | alloc t =>
    simp only [tOp] at h
    split at h
    · rename_i z hz
      obtain ⟨q1, q2⟩ := (hC.ti.of t).ze z hz
      refine ⟨_, _, _, h, fun hs => ⟨by rw [q1]; rfl, by omega, rfl, ?_⟩⟩
      have : zeroD P t = z.map (er1 T) := by unfold zeroD; rw [q1]; rfl
      rw [this]; rfl
    · exact h.elim
  | box t x =>
    simp only [tOp] at h
    obtain ⟨h1, h2⟩ := cnd h
    obtain ⟨c1, c2⟩ := cells_er h1
    refine ⟨_, _, _, h2, fun hs => ⟨⟨_, by rw [ev_er]; exact c2⟩, by omega, rfl, ?_⟩⟩
    rw [ev_er, c1]; rfl
  | store t a x =>
    simp only [tOp] at h
    obtain ⟨id, off, l, g, n, o, h1, h2, h3, h4, h5, h6, h7⟩ := tStore_snd hT (hC.ti.of t) h
    rcases h7 with h7 | ⟨h7, _⟩
    · refine ⟨_, _, _, h1, fun _ => ⟨id, off, l, g, n, by rw [ev_er]; exact h2, h3, h4, by rw [ev_er]; exact h5, h6, rfl, ?_⟩⟩
      rw [ev_er]
      show [(id, erO T o)] = _
      rw [h7]
    · cases h7
  | build t parts =>
    simp only [tOp] at h
    split at h
    · rename_i z hz
      obtain ⟨q1, q2⟩ := (hC.ti.of t).ze z hz
      cases hp : (TI.of C.ti t).pl.isEmpty with
      | true => rw [hp] at h; exact h.elim
      | false =>
        rw [hp] at h
        have hpl := (hC.ti.of t).pl (fun e => by rw [e] at hp; cases hp)
        obtain ⟨l', g1, g2, g3⟩ := tFill_snd _ _ h
        have e1 : zeroD P t = z.map (er1 T) := by unfold zeroD; rw [q1]; rfl
        have e2 : plD P t = (TI.of C.ti t).pl := by unfold plD; rw [hpl]; rfl
        have e3 : (parts.toList.map fun p => (p.1, (erS T s).ev p.2)) = (parts.toList.map fun p => (p.1, s.ev p.2)).map fun p => (p.1, er T p.2) := by
          rw [List.map_map]; exact List.map_congr_left fun p _ => by simp only [Function.comp, ev_er]
        refine ⟨_, _, _, g1, fun _ => ⟨by rw [hpl]; rfl, by rw [q1]; rfl, ?_, ?_, rfl⟩⟩
        · rw [e1, e2, e3]; exact g2
        · rw [e1, e2, e3, g3]; rfl
    · exact h.elim
  | buildSlice t n parts =>
    simp only [tOp] at h
    split at h
    · rename_i e bt hel
      split at h
      · rename_i l hl
        obtain ⟨h1, h2⟩ := cnd h
        have e3 : (parts.toList.map fun p => (erS T s).ev p.2) = (parts.toList.map fun p => s.ev p.2).map (er T) := by
          rw [List.map_map]; exact List.map_congr_left fun p _ => by simp only [Function.comp, ev_er]
        obtain ⟨⟨k1, k2, k3, k4, k5⟩, k6⟩ := tBuildSlice_snd hT (hC.ti.of t) hel (is := parts.toList.map (·.1)) hl (by rw [List.length_map]; exact h1) (by simp)
        rw [← e3] at k3 k4 k6
        exact ⟨_, _, _, h2, fun _ => ⟨⟨k1, k2, k3, k4, k5⟩, by omega, k6.symm, rfl⟩⟩
      · exact h.elim
    · exact h.elim
  | makeSlice t l c =>
    simp only [tOp, Bool.true_and] at h
    cases hb : noPrim (TI.of C.ti t).el with
    | true => rw [hb] at h; exact h.elim
    | false =>
      rw [hb] at h
      simp only [cond_false, tMake] at h
      split at h
      · rename_i e bt q n q' m hel hez hxi hyi
        rw [hel] at hb
        have hpr : e.prim = true := by simpa [noPrim] using hb
        obtain ⟨h1, h2, h3⟩ := h
        obtain ⟨h3, h4⟩ := ask_and h3
        obtain ⟨h4, h5⟩ := ask_and h4
        have hrow := ((hC.ti.of t).el _ _ hel).2
        have hrd : rowD P t = (T.sz e, bt) := by unfold rowD; rw [hrow]; rfl
        obtain ⟨zs, z1, z2⟩ := (hC.ti.of t).ez hez e bt hel
        have hzs := prim_zero (k := .i64) hpr z2
        have ex : (erS T s).ev l = .d (.int q n) := by rw [ev_er, asI_eq hxi]; rfl
        have ey : (erS T s).ev c = .d (.int q' m) := by rw [ev_er, asI_eq hyi]; rfl
        refine ⟨_, _, _, h5, fun hs => ⟨?_, by omega, ?_, ?_⟩⟩
        · rw [ex, ey]
          exact ⟨⟨by rw [hrow]; rfl, by rw [z1]; rfl⟩, h1, h2, by rw [hrd]; exact h3, h4⟩
        · rw [ex, hrd]; rfl
        · rw [ex]
          show [(_, Ob.cells _)] = [(_, Ob.cells _)]
          have : elZD P t = zs := by unfold elZD; rw [z1]; rfl
          rw [this, zrow_eq, flat_repl, hzs]; rfl
      · exact h.elim
  | call c =>
    obtain ⟨callee, args, argTypes⟩ := c
    cases callee with
    | builtin b =>
      cases b with
      | append =>
        simp only [tOp] at h
        obtain ⟨h1, h2⟩ := cnd h
        simp only [Bool.and_eq_true] at h1
        unfold tAppend at h2
        split at h2
        · exact h2.elim
        · rename_i e bt hel
          have hrow := ((hC.ti.of _).el _ _ hel).2
          split at h2
          · exact h2.elim
          · rename_i m hm
            obtain ⟨y1, y2⟩ := els_elsD hm
            split at h2
            · rename_i tok e0 l0 hx
              split at h2
              · rename_i e1 l' hg
                split at h2
                · rename_i l hl
                  obtain ⟨k1, k2, k3, k4⟩ := h2
                  obtain ⟨c1, c2, c3⟩ := castL_er hl
                  have ex : (erS T s).ev (args.getD 0 (.const .nilIface)) = .own tok (T.sz e) (l.map (T.e e)) := by
                    rw [ev_er]
                    have : s.ev (args.getD 0 (.const .nilIface)) = .own tok e0 l0 := hx
                    rw [this]
                    show V.own tok (T.sz e0) (l0.map (T.e e0)) = _
                    rw [c1, c2]
                  have ey : ((erS T s).ev (args.getD 1 (.const .nilIface))).elsD (T.sz e) = m.map (T.e e) := by rw [ev_er]; exact y1
                  refine ⟨_, _, _, k4, fun _ => ⟨⟨nb_eq h1.1.1, nb_eq h1.1.2, nb_eq h1.2⟩, tok, T.sz e, bt, l.map (T.e e), hrow, ex, ?_, by rw [ev_er]; exact y2, ?_, ?_, ?_, ?_⟩⟩
                  · show (erH T s.h).get tok = _
                    rw [getH_er, hg, List.length_map, ← k1]; rfl
                  · rw [ey]; simp only [List.length_map]; exact k2
                  · rw [ey]; simp only [List.length_map]; exact k3
                  · rw [ey, ← List.map_append]; rfl
                  · rw [ey]
                    show [(tok, Ob.tip (l ++ m).length)] = _
                    rw [List.length_append, List.length_map, List.length_map]
                · exact h2.elim
              · exact h2.elim
            · split at h2
              · rename_i hh _; cases hh
              · exact h2.elim
            · exact h2.elim
            · exact h2.elim
      | len => obtain ⟨v, hu, nf, g1, g2, g3, g4⟩ := quiet (.call ⟨.builtin .len, args, argTypes⟩) (fun _ _ h => by cases h) h; exact ⟨v, hu, nf, g1, fun _ => ⟨g2, g3, g4⟩⟩
      | min => obtain ⟨v, hu, nf, g1, g2, g3, g4⟩ := quiet (.call ⟨.builtin .min, args, argTypes⟩) (fun _ _ h => by cases h) h; exact ⟨v, hu, nf, g1, fun _ => ⟨g2, g3, g4⟩⟩
      | max => obtain ⟨v, hu, nf, g1, g2, g3, g4⟩ := quiet (.call ⟨.builtin .max, args, argTypes⟩) (fun _ _ h => by cases h) h; exact ⟨v, hu, nf, g1, fun _ => ⟨g2, g3, g4⟩⟩
      | _ => exact (show False from h).elim
    | value f =>
      simp only [tOp] at h
      split at h
      · rename_i g hf
        have hev : (erS T s).ev f = .k (.func (.func g) #[] #[]) := by rw [ev_er, fnOf_eq hf]; rfl
        have ea : args.toList.map (erS T s).ev = (args.toList.map s.ev).map (er T) := by
          rw [List.map_map]; exact List.map_congr_left fun p _ => by simp only [Function.comp, ev_er]
        split at h
        · rename_i x hx
          obtain ⟨m1, m2⟩ := findX_mem hx
          split at h
          · rename_i i hi
            obtain ⟨h1, h2⟩ := h
            have := tX_snd (hC.xs x m1) hi h1
            rw [m2, ← ea] at this
            exact ⟨_, _, _, h2, fun _ => .inl ⟨g, _, hev, this, rfl, rfl⟩⟩
          · exact h.elim
        · obtain ⟨c, m1, m2, m3⟩ := findC_mem h
          obtain ⟨xs, pre, r, post, ids, v, hu, nf, k1, k2, k3, k4, k5, k6, k7, k8, k9, k10, k11⟩ := tCall_snd hT (hC.cs c m1) m3
          have hcl := (hC.cs c m1).cl
          rw [m2] at hcl k2
          rw [← ea] at k6
          exact ⟨v, hu, nf, k1, fun hs => .inr ⟨g, xs, pre, r, post, ids, hev, ⟨hcl.1, hcl.2, k2⟩, k3, k4, k5, k6, k7, ⟨by omega, k11 rfl⟩, k8, k9⟩⟩
      · exact h.elim
    | _ => exact (show False from h).elim
  | load t a =>
    obtain ⟨u, h1, h2, h3⟩ := tq_snd hT hC.ti (op := .load t a) h
    refine ⟨u, [], 0, h1, fun _ => ⟨h2, fun id off he => ?_, h3.symm, rfl⟩⟩
    rw [ev_er] at he
    show id ∈ (match s.ev a with | .ptr id _ => [id] | .aptr id _ _ _ => [id] | .eptr id _ _ _ => [id] | _ => [])
    generalize s.ev a = v at he
    cases v with
    | ptr i o => injection he with he; subst he; simp
    | aptr i o n j => injection he with he; subst he; simp
    | eptr i o n j => injection he with he; subst he; simp
    | _ => cases he
  | move x => obtain ⟨v, hu, nf, g1, g2, g3, g4⟩ := quiet (.move x) (fun _ _ h => by cases h) h; exact ⟨v, hu, nf, g1, fun _ => ⟨g2, g3, g4⟩⟩
  | assign x => obtain ⟨v, hu, nf, g1, g2, g3, g4⟩ := quiet (.assign x) (fun _ _ h => by cases h) h; exact ⟨v, hu, nf, g1, fun _ => ⟨g2, g3, g4⟩⟩
  | pick c a b => obtain ⟨v, hu, nf, g1, g2, g3, g4⟩ := quiet (.pick c a b) (fun _ _ h => by cases h) h; exact ⟨v, hu, nf, g1, fun _ => ⟨g2, g3, g4⟩⟩
  | fieldAddr t x f => obtain ⟨v, hu, nf, g1, g2, g3, g4⟩ := quiet (.fieldAddr t x f) (fun _ _ h => by cases h) h; exact ⟨v, hu, nf, g1, fun _ => ⟨g2, g3, g4⟩⟩
  | field t x f => obtain ⟨v, hu, nf, g1, g2, g3, g4⟩ := quiet (.field t x f) (fun _ _ h => by cases h) h; exact ⟨v, hu, nf, g1, fun _ => ⟨g2, g3, g4⟩⟩
  | indexAddr t x i => obtain ⟨v, hu, nf, g1, g2, g3, g4⟩ := quiet (.indexAddr t x i) (fun _ _ h => by cases h) h; exact ⟨v, hu, nf, g1, fun _ => ⟨g2, g3, g4⟩⟩
  | index t x i => obtain ⟨v, hu, nf, g1, g2, g3, g4⟩ := quiet (.index t x i) (fun _ _ h => by cases h) h; exact ⟨v, hu, nf, g1, fun _ => ⟨g2, g3, g4⟩⟩
  | extract x i => obtain ⟨v, hu, nf, g1, g2, g3, g4⟩ := quiet (.extract x i) (fun _ _ h => by cases h) h; exact ⟨v, hu, nf, g1, fun _ => ⟨g2, g3, g4⟩⟩
  | binOp op t x y t' => obtain ⟨v, hu, nf, g1, g2, g3, g4⟩ := quiet (.binOp op t x y t') (fun _ _ h => by cases h) h; exact ⟨v, hu, nf, g1, fun _ => ⟨g2, g3, g4⟩⟩
  | unOp op t x => obtain ⟨v, hu, nf, g1, g2, g3, g4⟩ := quiet (.unOp op t x) (fun _ _ h => by cases h) h; exact ⟨v, hu, nf, g1, fun _ => ⟨g2, g3, g4⟩⟩
  | convert a b x => obtain ⟨v, hu, nf, g1, g2, g3, g4⟩ := quiet (.convert a b x) (fun _ _ h => by cases h) h; exact ⟨v, hu, nf, g1, fun _ => ⟨g2, g3, g4⟩⟩
  | slice t x lo hi mx => obtain ⟨v, hu, nf, g1, g2, g3, g4⟩ := quiet (.slice t x lo hi mx) (fun _ _ h => by cases h) h; exact ⟨v, hu, nf, g1, fun _ => ⟨g2, g3, g4⟩⟩
  | nilCheck x => obtain ⟨v, hu, nf, g1, g2, g3, g4⟩ := quiet (.nilCheck x) (fun _ _ h => by cases h) h; exact ⟨v, hu, nf, g1, fun _ => ⟨g2, g3, g4⟩⟩
  | _ => exact (show False from h).elim
theorem wsB_spec {af : Array Edge} {id : Nat} : ∀ {ws : List (Nat × Nat)}, wsB af id ws = true → wsL ws af id
  | [], _, p, hp, _ => by cases hp
  | q :: r, h, p, hp, he => by
    simp only [wsB, Bool.and_eq_true, Bool.or_eq_true, Bool.not_eq_true'] at h
    rcases List.mem_cons.1 hp with rfl | hp
    · rcases h.1 with h1 | h1
      · rw [he, nb_self] at h1; cases h1
      · exact h1
    · exact wsB_spec h.2 p hp he
theorem rdB_spec {ws : List (Nat × Nat)} {af : Array Edge} : ∀ {ids : List Nat}, rdB ws af ids = true → rdOk ws af ids
  | [], _, id, h => by cases h
  | i :: r, h, id, hi => by
    simp only [rdB, Bool.and_eq_true] at h
    rcases List.mem_cons.1 hi with rfl | hi
    · exact wsB_spec h.1
    · exact rdB_spec h.2 id hi
theorem wrB_spec {nb S k : Nat} {ws rs : List (Nat × Nat)} {af : Array Edge} {h : THp T.den} : ∀ {ids : List Nat}, wrB T nb S k ws rs af h ids = true → wrOk nb S k ws rs af (erH T h) ids
  | [], _, id, h => by cases h
  | i :: r, hh, id, hi => by
    simp only [wrB, Bool.and_eq_true, Bool.or_eq_true] at hh
    obtain ⟨⟨⟨⟨h1, h2⟩, h3⟩, h4⟩, h5⟩ := hh
    rcases List.mem_cons.1 hi with rfl | hi
    · refine ⟨wsB_spec h1, wsB_spec h2, blt_lt h3, ?_⟩
      rcases h4 with h4 | h4
      · exact .inl (ble_le h4)
      · refine .inr ?_
        rw [getH_er, Option.isSome_map]; exact h4
    · exact wrB_spec h5 id hi
theorem keys_er (h : THp T.den) : keys (erH T h) = keysT T h := by
  unfold keys erH keysT
  rw [List.map_map]; rfl
def KE (K : TSt T.den → Prop) (s : St) : Prop := ∃ t, K t ∧ Wk s (erS T t)
theorem tDs_sound (hT : T.Ok) (hC : C.Ok P T) {tb : List (Option Nat)} {nb S : Nat} {K : TSt T.den → Prop} : ∀ (l : List Oper) (ws rs : List (Nat × Nat)) (k : Nat) (s : TSt T.den), tDs T C N tb nb S l ws rs k s K → DOps P N tb nb S ws rs k l (KE K) (erS T s)
  | [], ws, rs, k, s, h => ⟨s, h, Wk.refl _⟩
  | o :: r, ws, rs, k, s, h => by
    have hcl : ∀ a b : St, Eqv a b → KE K b → KE K a := fun a b he ⟨t, h1, h2⟩ => ⟨t, h1, he.wk.trans h2⟩
    simp only [tDs] at h
    obtain ⟨hd, h⟩ := cnd h
    have hdo := dstB_ok hd
    have run : ∀ s' : TSt T.den, (bif rdB ws o.after (rdT T s' o.op) then tOp T C true (frs nb S k) s' (fun v hu nf => bif Nat.ble nf S && wrB T nb S k ws rs o.after s'.h (keysT T hu) then
          tDs T C N tb nb S r ((keysT T hu).map (·, k) ++ ws) ((rdT T s' o.op).map (·, k) ++ rs) (k + 1) (TSt.put ⟨s'.sl, hu ++ s'.h, s'.nx⟩ o.dst v) K else False) o.op else False) →
        ∃ e : Eff, (e.d = o.dst ∧ opD P nb S k o.op e (erS T s')) ∧ (wrOk nb S k ws rs o.after (erS T s').h (keys e.hu) ∧ rdOk ws o.after e.rd) ∧ DOps P N tb nb S ((keys e.hu).map (·, k) ++ ws) (e.rd.map (·, k) ++ rs) (k + 1) r (KE K) (e.app (erS T s')) := by
      intro s' hr
      obtain ⟨hr1, hr2⟩ := cnd hr
      obtain ⟨v, hu, nf, k1, k2⟩ := tOp_draw hT hC o.dst hr2
      obtain ⟨k3, k4⟩ := cnd k1
      simp only [Bool.and_eq_true] at k3
      refine ⟨_, ⟨rfl, k2 (ble_le k3.1)⟩, ⟨?_, rdB_spec hr1⟩, ?_⟩
      · rw [keys_er]; exact wrB_spec k3.2
      · have := tDs_sound hT hC r _ _ (k + 1) _ k4
        rw [keys_er]
        have e : (Eff.app ⟨o.dst, er T v, erH T hu, rdT T s' o.op⟩ (erS T s')) = erS T (TSt.put ⟨s'.sl, hu ++ s'.h, s'.nx⟩ o.dst v) := by
          rw [erS_put]
          show St.put ⟨_, erH T hu ++ erH T s'.h, _⟩ o.dst _ = St.put ⟨_, erH T (hu ++ s'.h), _⟩ o.dst _
          rw [erH_app]; rfl
        rw [e]; exact this
    have no : ∀ s' : TSt T.den, tDs T C N tb nb S r ws rs (k + 1) (s'.put o.dst (.k undef)) K → ∃ e : Eff, (e.d = o.dst ∧ e.x = .k undef ∧ e.hu = []) ∧ (wrOk nb S k ws rs o.after (erS T s').h (keys e.hu) ∧ rdOk ws o.after e.rd) ∧ DOps P N tb nb S ((keys e.hu).map (·, k) ++ ws) (e.rd.map (·, k) ++ rs) (k + 1) r (KE K) (e.app (erS T s')) := by
      intro s' hr
      have := tDs_sound hT hC r _ _ (k + 1) _ hr
      rw [erS_put] at this
      exact ⟨⟨o.dst, .k undef, [], []⟩, ⟨rfl, rfl, rfl⟩, ⟨fun _ h => (by cases h), fun _ h => (by cases h)⟩, this⟩
    have back : ∀ s' : TSt T.den, Eqv (erS T s) (erS T s') → ∀ e : Eff, (wrOk nb S k ws rs o.after (erS T s').h (keys e.hu) ∧ rdOk ws o.after e.rd) ∧ DOps P N tb nb S ((keys e.hu).map (·, k) ++ ws) (e.rd.map (·, k) ++ rs) (k + 1) r (KE K) (e.app (erS T s')) →
        (wrOk nb S k ws rs o.after (erS T s).h (keys e.hu) ∧ rdOk ws o.after e.rd) ∧ DOps P N tb nb S ((keys e.hu).map (·, k) ++ ws) (e.rd.map (·, k) ++ rs) (k + 1) r (KE K) (e.app (erS T s)) := by
      rintro s' he e ⟨⟨h1, h2⟩, h3⟩
      exact ⟨⟨by rw [he.1]; exact h1, h2⟩, dops_eqv hcl r _ _ _ _ _ (he.put e.hu 0 e.d e.x) h3⟩
    rcases tGuard_snd h with ⟨hg, h1⟩ | ⟨j, b, hg, ⟨h1, h2⟩ | ⟨t, s', h1, he, ⟨htb, h2⟩ | ⟨htb, h2⟩⟩⟩
    · obtain ⟨e, ⟨q1, q2⟩, q3, q4⟩ := run s h1
      exact ⟨e, ⟨hdo, q1, by rw [hg]; exact q2⟩, q3, q4⟩
    · obtain ⟨e, ⟨q1, q2⟩, q3, q4⟩ := no s h2
      exact ⟨e, ⟨hdo, q1, by rw [hg]; exact .inl ⟨h1, q2⟩⟩, q3, q4⟩
    · obtain ⟨e, ⟨q1, q2⟩, q3⟩ := run s' h2
      obtain ⟨q4, q5⟩ := back s' he e q3
      exact ⟨e, ⟨hdo, q1, by rw [hg]; exact .inr ⟨t, h1, fun _ => opD_eqv he q2, fun hn => (hn htb).elim⟩⟩, q4, q5⟩
    · obtain ⟨e, ⟨q1, q2⟩, q3⟩ := no s' h2
      obtain ⟨q4, q5⟩ := back s' he e q3
      exact ⟨e, ⟨hdo, q1, by rw [hg]; exact .inr ⟨t, h1, fun hn => (htb hn).elim, fun _ => q2⟩⟩, q4, q5⟩
end
end Go.Cv
namespace Go.Bv
open Go.RowKit
def Lk (T : Tk) (s s' : St) : Prop := ∀ (G0 : Gh) (w0 : World) (N : Nat) (a : Act) (G : Gh) (w : World), R T G0 w0 N s a G w → R T G0 w0 N s' a G w
theorem Wk.lk {T : Tk} {s s' : St} (h : Wk s s') : Lk T s s' := fun G0 w0 N a G w hR => h T G0 w0 N a G w hR
theorem St.le.lk {T : Tk} {s s' : St} (h : St.le T.nx s s') : Lk T s s' := fun _ _ _ _ _ _ hR => hR.le h
theorem Lk.trans {T : Tk} {a b c : St} (h : Lk T a b) (h' : Lk T b c) : Lk T a c := fun G0 w0 N x G w hR => h' G0 w0 N x G w (h G0 w0 N x G w hR)
section
variable {P : Program} {T : Tk} {G0 : Gh} {w0 : World} {N : Nat} {s : St} {Q : Exit → St → Prop}
theorem sat_lk {c : Code} {s' : St} (hl : Lk T s s') (h : Sat P T G0 w0 N c s' Q) : Sat P T G0 w0 N c s Q := fun G a w hR => h G a w (hl _ _ _ _ _ _ hR)
theorem sat_post {c : Code} {Q' : Exit → St → Prop} (h : Sat P T G0 w0 N c s Q) (hq : ∀ e s, Q e s → ∃ s', Q' e s' ∧ Lk T s s') : Sat P T G0 w0 N c s Q' :=
  fun G a w hR => wp_mono (h G a w hR) fun _ _ _ ⟨s', G', h1, h2⟩ => let ⟨s2, k1, k2⟩ := hq _ s' h1; ⟨s2, G', k1, k2 _ _ _ _ _ _ h2⟩
theorem sat_loopk {ι : Type} (st : ι → St) (p : ι → Prop) (μ : ι → Nat) {c : Code} (i0 : ι) (h0 : p i0) (hl : Lk T s (st i0))
    (round : ∀ i, p i → Sat P T G0 w0 N c (st i) (thenA (fun s' => ∃ i', p i' ∧ μ i' < μ i ∧ Lk T s' (st i')) Q)) : Sat P T G0 w0 N (.loop c) s Q := by
  intro G a w hR
  have key : ∀ n i, μ i = n → p i → ∀ G a w, R T G0 w0 N (st i) a G w → ∀ (b : Frame) (k : List Item) (cs : List Frame), ∃ e a' w', (∃ s' G', Q e s' ∧ R T G0 w0 N s' a' G' w') ∧ Arrives P (lone (b.at a (.code c :: .inLoop c :: k)) cs w) b k cs e a' w' := by
    intro n
    induction n using Nat.strongRecOn with
    | _ n ih =>
      intro i hn hp G a w hR b k cs
      obtain ⟨e, a1, w1, ⟨s1, G1, hq, hR1⟩, harr⟩ := round i hp G a w hR b (.inLoop c :: k) cs
      cases e with
      | normal =>
        obtain ⟨i', h1, h2, h3⟩ := hq
        obtain ⟨e2, a2, w2, hq2, harr2⟩ := ih (μ i') (hn ▸ h2) i' rfl h1 G1 a1 w1 (h3 _ _ _ _ _ _ hR1) b k cs
        exact ⟨e2, a2, w2, hq2, .of_steps (Steps.trans harr (.one step_inLoop)) harr2⟩
      | exit id => exact ⟨_, a1, w1, ⟨s1, G1, hq, hR1⟩, .pass (x := .inLoop c) rfl (fun _ _ => .inl (by simp)) harr⟩
      | goto l => exact ⟨_, a1, w1, ⟨s1, G1, hq, hR1⟩, .pass (x := .inLoop c) rfl (fun _ _ => .inl (by simp)) harr⟩
      | ret => exact ⟨_, a1, w1, ⟨s1, G1, hq, hR1⟩, .pass (x := .inLoop c) rfl (fun _ _ => .inl (by simp)) harr⟩
      | panic ch => exact ⟨_, a1, w1, ⟨s1, G1, hq, hR1⟩, .pass (x := .inLoop c) rfl (fun _ _ => .inl (by simp)) harr⟩
      | outgrown => exact ⟨_, a1, w1, ⟨s1, G1, hq, hR1⟩, .pass (x := .inLoop c) rfl (fun _ _ => .inl (by simp)) harr⟩
  intro b k cs
  obtain ⟨e, a', w', hq, harr⟩ := key _ i0 rfl h0 G a w (hl _ _ _ _ _ _ hR) b k cs
  exact ⟨e, a', w', hq, .of_steps (.one step_loop) harr⟩
end
end Go.Bv
namespace Go.Cv
open Go Go.Bv Go.RowKit Go.Md
section
variable {T : Tab} {P : Program} {C : Cx T} {N : Nat}
theorem slLe_mk {s : TSt T.den} {nx : Nat} : ∀ (ts : List Nat) (vs : List (TV T.den)), leAll ((ts.map (getT s.sl)).map (er T)) (vs.map (er T)) → (∀ z ∈ vs.map (er T), ok nx z) → slLe (erS T s).sl nx ((zipS T ts vs).map fun p => (p.1, er T p.2))
  | [], [], _, _ => trivial
  | [], _ :: _, h, _ => h.elim
  | _ :: _, [], h, _ => h.elim
  | t :: ts, v :: vs, h, ho => by
    refine ⟨⟨?_, ho _ (by simp)⟩, slLe_mk ts vs h.2 fun z hz => ho z (by simp only [List.map_cons, List.mem_cons]; exact .inr hz)⟩
    show le (getS (erS T s).sl t) (er T v)
    rw [show getS (erS T s).sl t = er T (getT s.sl t) from getS_er s.sl t]
    exact h.1
theorem hpLe_mk {h : Hp} {nx : Nat} {σ : Nat → Nat} : ∀ (os : List (TOb T.den)) (k : Nat), (∀ i o, os[i]? = some o → σ (k + i) < nx ∧ obLe (h.get (σ (k + i))) (erO T o) ∧ okO nx (erO T o)) → hpLe h nx (erH T (hpN σ k os))
  | [], _, _ => trivial
  | o :: os, k, hh => by
    refine ⟨hh 0 o rfl, hpLe_mk os (k + 1) fun i o' ho => ?_⟩
    have := hh (i + 1) o' (by simpa using ho)
    rw [show k + 1 + i = k + (i + 1) by omega]
    exact this
theorem args_ok {σ : Nat → Nat} {f : List (Option (TOb T.den))} {m nx : Nat} (hσ : ∀ j, j < m → σ j < nx) (l : List Sh0) (r : List Ty) (x : HL T.den (hsT l r)) (h : okTB m l = true) : ∀ z ∈ (tkT σ f l r x).1.map (er T), ok nx z := by
  intro z hz
  rw [tkT_er] at hz
  obtain ⟨u, _, rfl⟩ := List.mem_map.1 hz
  exact ok_of0 (okT_mem (tkT_ok hσ l r x h) _ hz) er0_ntup
theorem sgs_lt {ids : List Nat} {n nx : Nat} (h : allLt nx ids = true) (hl : ids.length = n) : ∀ j, j < n → sgs ids j < nx := by
  intro j hj
  have hj : j < ids.length := by omega
  have e : sgs ids j = ids[j] := by simp [sgs, hj]
  rw [e]
  exact allLt_spec h _ (List.getElem_mem hj)
theorem mat_snd (hT : T.Ok) {n0 : Nat} {m : Tm} {s : TSt T.den} {J : HL T.den m.hs → Prop} (h : m.mat T n0 s J) : ∃ i, J i ∧ St.le n0 (erS T s) (erS T (m.fill T i)) := by
  unfold Tm.mat at h
  obtain ⟨h1, h2⟩ := cnd h
  simp only [Bool.and_eq_true, Tm.okB] at h1
  obtain ⟨⟨a1, a2⟩, ⟨⟨⟨⟨⟨⟨b1, b2⟩, b3⟩, b4⟩, b5⟩, b6⟩, b7⟩⟩ := h1
  split at h2
  · rename_i b hb
    obtain ⟨y, g1, g2, g3⟩ := mtBC_snd hT b7 hb h2
    obtain ⟨x, k1, k2, _, k4⟩ := mtT_snd m.ss _ _ y _ b6 g1
    have hf : m.f T x = tkB m.os b := by unfold Tm.f; rw [k2, g2]
    have hlt := sgs_lt b3 (nb_eq b4)
    refine ⟨x, k1, ⟨ble_le a1, ble_le a2⟩, ?_, ?_⟩
    · show slLe _ m.nx ((zipS T m.ts (tkT (sgs m.ids) (m.f T x) m.ss _ x).1).map _)
      rw [hf]
      exact slLe_mk _ _ k4 (args_ok hlt m.ss _ x b1)
    · show hpLe (erH T s.h) m.nx (erH T (hpN (sgs m.ids) 0 (tkC (sgs m.ids) (m.f T x) 0 m.os _ (drT m.ss _ x)).1))
      rw [hf, k2]
      refine hpLe_mk _ 0 fun i o ho => ?_
      rw [Nat.zero_add]
      refine ⟨hlt i ?_, g3 i o ho, tkC_ok (flat_tkB _ _) hlt 0 m.os _ y b2 i o ho⟩
      have := (List.getElem?_eq_some_iff.1 ho).1
      rw [tkC_len] at this
      exact this
  · exact h2.elim
section
variable {Tk : Tk} {G0 : Gh} {w0 : World} {a : Act} {G : Gh} {w : World}
theorem rowsTo_snd {id n z : Nat} {v : TV T.den} {h : THp T.den} {nx : Nat} (hv : ∀ u, RepV G w (erH T h) nx u (.row id 0 n z) → RepV G w (erH T h) nx u (er T v)) : ∀ (ts : List Nat) (sl : List (Nat × TV T.den)) (K : List (Nat × TV T.den) → Prop), rowsTo T id v n z ts sl K → R Tk G0 w0 N (erS T ⟨sl, h, nx⟩) a G w → ∃ sl', K sl' ∧ R Tk G0 w0 N (erS T ⟨sl', h, nx⟩) a G w
  | [], sl, K, hk, hR => ⟨sl, hk, hR⟩
  | t :: ts, sl, K, hk, hR => by
    simp only [rowsTo] at hk
    split at hk
    · rename_i i e' m hg
      obtain ⟨h1, h2, h3⟩ := cnd hk
      simp only [Bool.and_eq_true] at h1
      refine rowsTo_snd hv ts _ K h3 ?_
      have hs := hR.sl t
      rw [show getS (erS T ⟨sl, h, nx⟩).sl t = er T (getT sl t) from getS_er sl t, hg] at hs
      have hs : RepV G w (erH T h) nx (a.tmps.getD t undef) (.row i 0 m (T.sz e')) := hs
      rw [nb_eq h1.1, h2, nb_eq h1.2] at hs
      exact hR.reslot t (hv _ hs)
    · exact hk.elim
theorem growE_snd {e : Ty} {v : TV T.den} {l : List (e.den T.den)} (h : growE T e v = some l) : growsFrom (T.sz e) (l.map (T.e e)) (er1 T v) ∧ v.sim = true := by
  unfold growE at h
  split at h
  · obtain ⟨c1, c2, _⟩ := castL_er h
    exact ⟨⟨c1, c2⟩, rfl⟩
  · rename_i u
    cases hn : isNilK u with
    | false => rw [hn] at h; cases h
    | true =>
      rw [hn] at h
      injection h with h
      subst h
      rw [isNilK_eq hn]
      exact ⟨rfl, rfl⟩
  · cases h
theorem gh1_snd (hT : T.Ok) {s : TSt T.den} {K : TSt T.den → Prop} : ∀ (g : Gs), gh1 T s K g → R Tk G0 w0 N (erS T s) a G w → ∃ s' G', K s' ∧ R Tk G0 w0 N (erS T s') a G' w
  | .frz id ts, h, hR => by
    simp only [gh1] at h
    split at h
    · rename_i e l hg
      have hgl : (erS T s).h.get id = some (.cells (((l.map (T.e e)).flatMap D.cells).map V.d)) := by show (erH T s.h).get id = _; rw [getH_er, hg]; rfl
      obtain ⟨G', h1, _, h2⟩ := hR.freeze hgl (map_sz hT l) (by rw [List.length_map] : (l.map (T.e e)).length = l.length)
      obtain ⟨sl', k1, k2⟩ := rowsTo_snd (T := T) (h := (s.nx, .tip e l) :: (id, .dead) :: s.h) (nx := s.nx + 1) (v := .own s.nx e l) (z := T.sz e) (n := l.length) (id := id) (G := G') (w := w) (fun u hu => h2 u hu) ts s.sl _ h h1
      exact ⟨_, G', k1, k2⟩
    · exact h.elim
  | .frzc id i j, h, hR => by
    simp only [gh1] at h
    split at h
    · rename_i e l cs hg hi
      split at h
      · rename_i id' e' m hj
        obtain ⟨h1, h2, h3⟩ := cnd h
        simp only [Bool.and_eq_true, Bool.not_eq_true'] at h1
        have q1 := nb_eq h1.1.1
        have q2 := Ty.eq_of_beq h1.1.2
        have q3 : i ≠ id := fun e => by rw [e, nb_self] at h1; cases h1.2
        subst q1
        subst q2
        subst h2
        have hgl : (erS T s).h.get id' = some (.cells (((l.map (T.e e')).flatMap D.cells).map V.d)) := by show (erH T s.h).get id' = _; rw [getH_er, hg]; rfl
        have hil : (erS T s).h.get i = some (.cells (cs.map (er1 T))) := by show (erH T s.h).get i = _; rw [getH_er, hi]; rfl
        obtain ⟨G', f1, _, f2⟩ := hR.freeze hgl (map_sz hT l) (by rw [List.length_map] : (l.map (T.e e')).length = l.length)
        have hin : i < s.nx := hR.wr.hid _ _ hil
        have hg' : Hp.get ((s.nx, Ob.tip l.length) :: (id', .dead) :: erH T s.h) i = some (.cells (cs.map (er1 T))) := by simp only [Hp.get]; rw [if_neg (by omega), if_neg q3]; exact hil
        have hx : (cs.map (er1 T))[j]? = some (.row id' 0 l.length (T.sz e')) := by rw [List.getElem?_map, hj]; rfl
        have := f1.recell (s := ⟨(erS T s).sl, (s.nx, .tip l.length) :: (id', .dead) :: erH T s.h, s.nx + 1⟩) (y := .own s.nx (T.sz e') (l.map (T.e e'))) hg' hx rfl (fun v => f2 v)
        refine ⟨_, G', h3, ?_⟩
        have e : erS T ⟨s.sl, (i, .cells (cs.set j (.own s.nx e' l))) :: (s.nx, .tip e' l) :: (id', .dead) :: s.h, s.nx + 1⟩ = ⟨(erS T s).sl, (i, .cells ((cs.map (er1 T)).set j (.own s.nx (T.sz e') (l.map (T.e e'))))) :: (s.nx, .tip l.length) :: (id', .dead) :: erH T s.h, s.nx + 1⟩ := by
          show St.mk _ ((i, Ob.cells ((cs.set j (.own s.nx e' l)).map (er1 T))) :: _) _ = _
          rw [List.map_set]; rfl
        rw [e]; exact this
      · exact h.elim
    · exact h.elim
  | .tok t e, h, hR => by
    simp only [gh1] at h
    split at h
    · rename_i l hl
      obtain ⟨g1, g2⟩ := growE_snd hl
      obtain ⟨G', h1, h2⟩ := hR.tok (T.sz e) (l.map (T.e e))
      rw [List.length_map] at h1 h2
      have hs := h1.sl t
      have hs : RepV G' w ((s.nx, .tip l.length) :: erH T s.h) (s.nx + 1) (a.tmps.getD t undef) (getS (erS T s).sl t) := hs
      rw [show getS (erS T s).sl t = er T (getT s.sl t) from getS_er s.sl t, er_sim g2] at hs
      exact ⟨_, G', h, h1.reslot t (h2 _ _ g1 hs)⟩
    · exact h.elim
  | .tokc id j e, h, hR => by
    simp only [gh1] at h
    split at h
    · rename_i cs hi
      split at h
      · rename_i v hj
        split at h
        · rename_i l hl
          obtain ⟨g1, g2⟩ := growE_snd hl
          have hil : (erS T s).h.get id = some (.cells (cs.map (er1 T))) := by show (erH T s.h).get id = _; rw [getH_er, hi]; rfl
          obtain ⟨G', h1, h2⟩ := hR.tok (T.sz e) (l.map (T.e e))
          rw [List.length_map] at h1 h2
          have hin : id < s.nx := hR.wr.hid _ _ hil
          have hg' : Hp.get ((s.nx, Ob.tip l.length) :: erH T s.h) id = some (.cells (cs.map (er1 T))) := by simp only [Hp.get]; rw [if_neg (by omega)]; exact hil
          have hx : (cs.map (er1 T))[j]? = some (er1 T v) := by rw [List.getElem?_map, hj]; rfl
          have := h1.recell (s := ⟨(erS T s).sl, (s.nx, .tip l.length) :: erH T s.h, s.nx + 1⟩) (y := .own s.nx (T.sz e) (l.map (T.e e))) hg' hx rfl (fun u => h2 _ u g1)
          refine ⟨_, G', h, ?_⟩
          have e : erS T ⟨s.sl, (id, .cells (cs.set j (.own s.nx e l))) :: (s.nx, .tip e l) :: s.h, s.nx + 1⟩ = ⟨(erS T s).sl, (id, .cells ((cs.map (er1 T)).set j (.own s.nx (T.sz e) (l.map (T.e e))))) :: (s.nx, .tip l.length) :: erH T s.h, s.nx + 1⟩ := by
            show St.mk _ ((id, Ob.cells ((cs.set j (.own s.nx e l)).map (er1 T))) :: _) _ = _
            rw [List.map_set]; rfl
          rw [e]; exact this
        · exact h.elim
      · exact h.elim
    · exact h.elim
end
theorem ghs_snd (hT : T.Ok) {Tk : Tk} {G0 : Gh} {w0 : World} {a : Act} {w : World} : ∀ (gs : List Gs) (s : TSt T.den) (K : TSt T.den → Prop) (G : Gh), ghs T gs s K → R Tk G0 w0 N (erS T s) a G w → ∃ s' G', K s' ∧ R Tk G0 w0 N (erS T s') a G' w
  | [], s, K, G, h, hR => ⟨s, G, h, hR⟩
  | g :: gs, s, K, G, h, hR => by
    obtain ⟨s1, G1, h1, h2⟩ := gh1_snd hT g h hR
    exact ghs_snd hT gs s1 K G1 h1 h2
theorem sat_ghs (hT : T.Ok) {Tk : Tk} {G0 : Gh} {w0 : World} {gs : List Gs} {s : TSt T.den} {K : TSt T.den → Prop} {c : Code} {Q : Exit → St → Prop} (h : ghs T gs s K) (hk : ∀ s', K s' → Sat P Tk G0 w0 N c (erS T s') Q) : Sat P Tk G0 w0 N c (erS T s) Q := by
  intro G a w hR
  obtain ⟨s', G', h1, h2⟩ := ghs_snd hT gs s K G h hR
  exact hk s' h1 G' a w h2
def QE (Q : Exit → TSt T.den → Prop) (e : Exit) (s : St) : Prop := KE (Q e) s
theorem KE.lk {K : TSt T.den → Prop} {s : TSt T.den} (h : K s) : KE K (erS T s) := ⟨s, h, Wk.refl _⟩
theorem WP_sound (hT : T.Ok) (hC : C.Ok P T) (hm : P.follows .mixedOrders = true) {Tk : Tk} {G0 : Gh} {w0 : World} : ∀ (c : Code) (an : An T) (s : TSt T.den) (Q : Exit → TSt T.den → Prop), WP T C N Tk.nx c an s Q → Obl T C N Tk.nx c an Q → Sat P Tk G0 w0 N c (erS T s) (QE Q) := by
  intro c
  induction c with
  | skip => intro an s Q h _; exact sat_skip (KE.lk (by simpa [WP] using h))
  | region id ops dr =>
    intro an s Q h _
    obtain ⟨l⟩ := ops
    have h : regW T C N ⟨l⟩ dr s (Q .normal) := by simpa [WP] using h
    cases dr with
    | false =>
      intro G a w hR
      exact wp_region_lit (tops_sound hT hC l (Q .normal) s a G w hR h fun s' a' G' w' hk hR' => ⟨erS T s', G', KE.lk hk, hR'⟩)
    | true =>
      unfold regW at h
      obtain ⟨h1, h2⟩ := cnd h
      refine sat_drawn C.S hm h1 fun K hK => ?_
      exact dops_eqv (K := KE (Q .normal)) (fun a b he ⟨t, q1, q2⟩ => hK a ⟨t, q1, he.wk.trans q2⟩) l _ _ _ _ _ (Eqv.refl _) (tDs_sound hT hC l _ _ _ _ h2)
  | seq x y ihx ihy =>
    intro an s Q h ho
    have plain : ∀ (ga gb : List Gs) (a b : An T), (ghs T ga s fun s => WP T C N Tk.nx x a s (thenT T (fun s' => ghs T gb s' fun s' => WP T C N Tk.nx y b s' Q) Q)) → Obl T C N Tk.nx x a (thenT T (fun s' => ghs T gb s' fun s' => WP T C N Tk.nx y b s' Q) Q) → Obl T C N Tk.nx y b Q → Sat P Tk G0 w0 N (.seq x y) (erS T s) (QE Q) := by
      intro ga gb a b h1 h2 h3
      refine sat_ghs hT h1 fun s' hs' => sat_seq (sat_mono (ihx a s' _ hs' h2) fun e s1 hq => ?_)
      obtain ⟨t, q1, q2⟩ := hq
      cases e with
      | normal => exact sat_lk q2.lk (sat_ghs hT q1 fun s2 hs2 => ihy b s2 Q hs2 h3)
      | _ => exact ⟨t, q1, q2⟩
    cases an with
    | jn tm J ga a gb b =>
      have h : ghs T ga s fun s => WP T C N Tk.nx x a s (thenT T (fun s' => tm.mat T Tk.nx s' J) Q) := by simpa only [WP] using h
      simp only [Obl] at ho
      obtain ⟨o1, o2, o3⟩ := ho
      refine sat_ghs hT h fun s' hs' => sat_seq (sat_mono (ihx a s' _ hs' o1) fun e s1 hq => ?_)
      obtain ⟨t, q1, q2⟩ := hq
      cases e with
      | normal =>
        obtain ⟨i, k1, k2⟩ := mat_snd hT q1
        refine sat_lk (q2.lk.trans k2.lk) ?_
        rw [o2 i] at k1
        exact sat_ghs hT k1 fun s2 hs2 => ihy b s2 Q hs2 o3
      | _ => exact ⟨t, q1, q2⟩
    | no => simp only [WP] at h; simp only [Obl] at ho; exact plain _ _ _ _ h ho.1 ho.2
    | nd ga a gb b => simp only [WP] at h; simp only [Obl] at ho; exact plain _ _ _ _ h ho.1 ho.2
    | lp g tm L a => simp only [WP] at h; simp only [Obl] at ho; exact plain _ _ _ _ h ho.1 ho.2
    | rt g => simp only [WP] at h; simp only [Obl] at ho; exact plain _ _ _ _ h ho.1 ho.2
  | cond c x y ihx ihy =>
    intro an s Q h ho
    simp only [WP] at h
    simp only [Obl] at ho
    split at h
    · rename_i hv
      exact sat_condT (by rw [ev_er, hv]; rfl) (sat_ghs hT h fun s' hs' => ihx _ s' Q hs' ho.1)
    · rename_i hv
      exact sat_condF (by rw [ev_er, hv]; rfl) (sat_ghs hT h fun s' hs' => ihy _ s' Q hs' ho.2)
    · rename_i t hv
      exact sat_cond (t := t) (by rw [ev_er, hv]; rfl) (fun ht => sat_ghs hT (h.1 ht) fun s' hs' => ihx _ s' Q hs' ho.1) (fun ht => sat_ghs hT (h.2 ht) fun s' hs' => ihy _ s' Q hs' ho.2)
    · exact h.elim
  | block id x ih =>
    intro an s Q h ho
    simp only [WP] at h
    simp only [Obl] at ho
    refine sat_block (sat_mono (ih an s _ h ho) fun e s1 hq => ?_)
    obtain ⟨t, q1, q2⟩ := hq
    cases e with
    | exit id' =>
      simp only [blockT] at q1
      simp only [blockA]
      by_cases hi : id' = id
      · rw [if_pos hi]
        rw [hi, nb_self] at q1
        exact ⟨t, q1, q2⟩
      · rw [if_neg hi]
        rw [nb_ne hi] at q1
        exact ⟨t, q1, q2⟩
    | _ => exact ⟨t, q1, q2⟩
  | loop x ih =>
    intro an s Q h ho
    cases an with
    | lp g tm L a =>
      simp only [WP] at h
      simp only [Obl] at ho
      obtain ⟨o1, o2⟩ := ho
      refine sat_ghs hT h fun s' hs' => ?_
      obtain ⟨i, ⟨⟨inv, μ, k0, k1⟩⟩, k2⟩ := mat_snd hT hs'
      refine sat_loopk (fun i => erS T (tm.fill T i)) inv μ i k0 k2.lk fun i hi => ?_
      have hr := k1 i hi
      rw [o1] at hr
      refine sat_mono (ih _ _ _ hr (o2 _)) fun e s1 hq => ?_
      obtain ⟨t, q1, q2⟩ := hq
      cases e with
      | normal =>
        obtain ⟨i', ⟨m1, m2⟩, m3⟩ := mat_snd hT q1
        exact ⟨i', m1, m2, q2.lk.trans m3.lk⟩
      | _ => exact ⟨t, q1, q2⟩
    | _ => simp only [WP] at h
  | exit id => intro an s Q h _; simp only [WP] at h; exact sat_exit (KE.lk h)
  | ret =>
    intro an s Q h _
    simp only [WP] at h
    exact sat_ghs hT h fun s' hs' => sat_ret (KE.lk hs')
  | label l => intro an s Q h _; simp only [WP] at h; exact sat_label (KE.lk h)
  | _ => intro an s Q h _; simp only [WP] at h
theorem eqH_eq : ∀ {ts : List Ty} {x y : HL T.den ts}, eqH ts x y → x = y
  | [], _, _, _ => rfl
  | [_], x, y, h => by
    obtain ⟨a, b⟩ := x
    obtain ⟨c, d⟩ := y
    have h : a = c := h
    subst h; rfl
  | _ :: t :: r, x, y, h => by
    obtain ⟨a, b⟩ := x
    obtain ⟨c, d⟩ := y
    obtain ⟨h1, h2⟩ := h
    have g1 : a = c := h1
    have g2 : b = d := eqH_eq (ts := t :: r) h2
    rw [g1, g2]
theorem resT_snd (hT : T.Ok) (hI : InfoOk P T C.ti) {s : TSt T.den} : ∀ (rs : List ResultVar) (K : List (TV T.den) → Prop), resT T C.ti s rs K → ∃ l, K l ∧ allOk P (erS T s) rs ∧ rs.map (resV P (erS T s)) = l.map (er T)
  | [], K, h => ⟨[], h, trivial, rfl⟩
  | .tmp t :: r, K, h => by
    obtain ⟨l, h1, h2, h3⟩ := resT_snd hT hI r _ h
    refine ⟨_, h1, ⟨trivial, h2⟩, ?_⟩
    simp only [List.map_cons, h3]
    congr 1
    exact getS_er s.sl t
  | .cell t ty :: r, K, h => by
    obtain ⟨u, h0, h4, h5⟩ := tLoad_snd hT (hI.of ty) h
    obtain ⟨l, h1, h2, h3⟩ := resT_snd hT hI r _ h0
    have e : getS (erS T s).sl t = er T (getT s.sl t) := getS_er s.sl t
    refine ⟨_, h1, ⟨by show loadOk _ _ (getS (erS T s).sl t); rw [e]; exact h4, h2⟩, ?_⟩
    simp only [List.map_cons, h3]
    congr 1
    show loadV _ _ (getS (erS T s).sl t) = _
    rw [e]; exact h5
theorem noTup_er : ∀ {l : List (TV T.den)}, noTupB T l = true → l.map (er T) = l.map (er0 T)
  | [], _ => rfl
  | v :: r, h => by
    cases v <;> first | (cases h; done) | (simp only [List.map_cons]; rw [noTup_er (l := r) h]; rfl)
theorem ret_er {l : List (TV T.den)} (h : noTupB T l = true) : retV (l.map (er T)) = er T (retTV T l) := by
  match l, h with
  | [], _ => rfl
  | [x], _ => rfl
  | x :: y :: r, h =>
    exact congrArg V.tup (noTup_er h)
theorem postOk_mk {h : Hp} {σ : Nat → Nat} {m nx : Nat} : ∀ {ks : List Nat} {os : List Ob}, ks.length = os.length → (∀ (i k : Nat) (o : Ob), ks[i]? = some k → os[i]? = some o → k < nx ∧ obLe (h.get k) (renO σ o) ∧ okO m o) → postOk h σ m nx ks os
  | [], [], _, _ => trivial
  | [], _ :: _, h, _ => by cases h
  | _ :: _, [], h, _ => by cases h
  | k :: ks, o :: os, h, hh => ⟨hh 0 k o rfl rfl, postOk_mk (by simpa using h) fun i k' o' h1 h2 => hh (i + 1) k' o' (by simpa using h1) (by simpa using h2)⟩
theorem selfB_spec : ∀ {n k : Nat} {l : List Nat}, selfB n k l = true → selfP k n l
  | 0, _, l, _ => by cases l <;> trivial
  | n + 1, k, [], h => by cases h
  | n + 1, k, i :: r, h => by
    simp only [selfB, Bool.and_eq_true] at h
    exact ⟨nb_eq h.1, selfB_spec h.2⟩
theorem retT_snd (hT : T.Ok) (hC : C.Ok P T) {c : Con T.den} {rs : List ResultVar} {o : HL T.den (hsV c.res (hsOs c.post))} {s : TSt T.den} (h : retT T C c rs o s) : RetA P rs (er T (c.val idf o)) c.pre.length ((c.ops idf o).map (erO T)) (erS T s) := by
  unfold retT at h
  obtain ⟨l, h1, h2, h3⟩ := resT_snd hT hC.ti rs _ h
  split at h1
  · exact h1.elim
  · rename_i ids hids
    split at h1
    · exact h1.elim
    · rename_i b hb
      obtain ⟨a1, a2⟩ := cnd h1
      simp only [Bool.and_eq_true, Con.okB] at a1
      obtain ⟨⟨⟨⟨⟨hok, hnd⟩, hlt⟩, hlen⟩, hself⟩, hnt⟩ := a1
      obtain ⟨⟨⟨⟨⟨⟨⟨⟨⟨o1, o2⟩, o3⟩, o4⟩, o5⟩, o6⟩, o7⟩, o8⟩, o9⟩, o10⟩ := hok
      have hlen := nb_eq hlen
      obtain ⟨y, g1, g2, g3⟩ := mtBC_snd hT o10 hb a2
      obtain ⟨x, k1, k2, k3⟩ := mtV_snd c.res _ _ y _ o9 g1
      have hx := eqH_eq k1
      subst hx
      have hfo : c.fo x = tkB c.post b := by unfold Con.fo; rw [k2, g2]
      have hops : c.ops idf x = (tkC idf (tkB c.post b) 0 c.post _ y).1 := by unfold Con.ops; rw [hfo, k2]
      have hql : ((c.ops idf x).map (erO T)).length = c.post.length := by rw [List.length_map, hops, tkC_len]
      have hval : c.val idf x = (tkV idf (tkB c.post b) c.res _ x).1 := by unfold Con.val; rw [hfo]
      refine retN ids ⟨h2, ?_, ?_, ?_, ?_, nodupB_spec hnd, by rw [hql]; exact ble_le o5, selfB_spec hself⟩
      · rw [h3, ret_er hnt, hval, ← tkV_ren]; exact k3
      · rw [hql, hval]; exact tkV_ok (fun j hj => hj) c.res _ x o3
      · rw [hval]; exact tkV_noTup _ _ _
      · refine postOk_mk (by rw [hql]; exact hlen) fun i k ob hk ho => ?_
        have hkm : k < s.nx := allLt_spec hlt k (List.mem_of_getElem? hk)
        rw [hql]
        rw [List.getElem?_map, Option.map_eq_some_iff] at ho
        obtain ⟨ot, ho, rfl⟩ := ho
        rw [hops] at ho
        refine ⟨hkm, ?_, tkC_ok (flat_tkB _ _) (fun j hj => hj) 0 c.post _ y o4 i ot ho⟩
        have hr := tkC_ren (rh ids) (tkB c.post b) (flat_tkB _ _) 0 c.post _ y
        have hi : i < (tkC idf (tkB c.post b) 0 c.post (hsB c.post) y).1.length := (List.getElem?_eq_some_iff.1 ho).1
        have hi2 : i < (tkC (rh ids) (tkB c.post b) 0 c.post (hsB c.post) y).1.length := by rw [tkC_len] at hi ⊢; exact hi
        have e := congrArg (fun l => l[i]?) hr
        simp only [List.getElem?_map, ho, Option.map_some, List.getElem?_eq_getElem hi2, Option.some.injEq] at e
        have := g3 i _ (List.getElem?_eq_getElem hi2)
        have hrk : rh ids i = k := by simp [rh, hk]
        rw [e, hrk] at this
        exact this
theorem initT_er : ∀ (k : Nat) (l : List (TV T.den)), (initT T k l).map (fun p => (p.1, er T p.2)) = initSl k (l.map (er T))
  | _, [] => rfl
  | k, x :: r => by
    show (k, er T x) :: (initT T (k + 1) r).map (fun p => (p.1, er T p.2)) = (k, er T x) :: initSl (k + 1) (r.map (er T))
    rw [initT_er (k + 1) r]
theorem hpN_idf : ∀ (k : Nat) (l : List (TOb T.den)), erH T (hpN idf k l) = hpOf k (l.map (erO T))
  | _, [] => rfl
  | k, x :: r => by
    show (k, erO T x) :: erH T (hpN idf (k + 1) r) = (k, erO T x) :: hpOf (k + 1) (r.map (erO T))
    rw [hpN_idf (k + 1) r]
theorem Con.sound (hT : T.Ok) (hC : C.Ok P T) (hm : P.follows .mixedOrders = true) {c : Con T.den} {fn : Func} {code : Code} {rs : List ResultVar} (hf : P.funcs[c.f]? = some fn) (hb : fn.body = some code) (hN : fn.ntmps = N) (hrs : fn.results.toList = rs) (hl : Nat.ble c.ins.length N = true)
    {x : HL T.den (hsT c.ins (hsOs c.pre))} {o : HL T.den (hsV c.res (hsOs c.post))} {an : An T} (hW : WP T C N c.pre.length code an (c.st T x) (retTQ T C c rs o)) (hO : Obl T C N c.pre.length code an (retTQ T C c rs o)) :
    SoundH P c.f ((c.args idf x).map (er T)) ((c.obs idf x).map (erO T)) (er T (c.val idf o)) ((c.ops idf o).map (erO T)) := by
  have hpl : ((c.obs idf x).map (erO T)).length = c.pre.length := by rw [List.length_map]; unfold Con.obs; rw [tkC_len]
  have hal : ((c.args idf x).map (er T)).length = c.ins.length := by rw [List.length_map]; unfold Con.args; rw [tkT_len]
  refine sound_of hf hb hN (by rw [hal]; exact ble_le hl) fun G0 w0 => ?_
  have e : erS T (c.st T x) = ⟨initSl 0 ((c.args idf x).map (er T)), hpOf 0 ((c.obs idf x).map (erO T)), ((c.obs idf x).map (erO T)).length⟩ := by
    rw [hpl]
    show St.mk _ _ _ = _
    unfold Con.st
    rw [initT_er, hpN_idf]
  rw [← e, hrs]
  have hnx : (tkOf G0 ((c.obs idf x).map (erO T))).nx = c.pre.length := hpl
  rw [← hnx] at hW hO
  refine sat_post (WP_sound hT hC hm code an _ _ hW hO) fun ex s1 hq => ?_
  obtain ⟨t, q1, q2⟩ := hq
  refine ⟨erS T t, ?_, q2.lk⟩
  cases ex with
  | normal => have := retT_snd hT hC (s := t) q1; rw [← hpl] at this; exact this
  | ret => have := retT_snd hT hC (s := t) q1; rw [← hpl] at this; exact this
  | _ => exact q1
end
end Go.Cv
namespace Go.Cv
open Go Go.Bv Go.RowKit Go.Md
structure WPh (T : Tab) (C : Cx T) (N n0 : Nat) (c : Code) (an : An T) (s : TSt T.den) (Q : Exit → TSt T.den → Prop) : Prop where
  h : WP T C N n0 c an s Q
structure OblH (T : Tab) (C : Cx T) (N n0 : Nat) (c : Code) (an : An T) (Q : Exit → TSt T.den → Prop) : Prop where
  h : Obl T C N n0 c an Q
theorem mpr_of {A B : Prop} (e : A = B) (h : B) : A := e.mpr h
theorem WPh.of_eq {T : Tab} {C : Cx T} {N n0 : Nat} {c : Code} {an : An T} {s : TSt T.den} {Q : Exit → TSt T.den → Prop} {X : Prop} (e : WP T C N n0 c an s Q = X) (h : X) : WPh T C N n0 c an s Q := ⟨e.mpr h⟩
theorem OblH.of_eq {T : Tab} {C : Cx T} {N n0 : Nat} {c : Code} {an : An T} {Q : Exit → TSt T.den → Prop} {X : Prop} (e : Obl T C N n0 c an Q = X) (h : X) : OblH T C N n0 c an Q := ⟨e.mpr h⟩
theorem Con.soundH {P : Program} {T : Tab} {C : Cx T} {N : Nat} (hT : T.Ok) (hC : C.Ok P T) (hm : P.follows .mixedOrders = true) {c : Con T.den} {fn : Func} {code : Code} {rs : List ResultVar} (hf : P.funcs[c.f]? = some fn) (hb : fn.body = some code) (hN : fn.ntmps = N) (hrs : fn.results.toList = rs) (hl : Nat.ble c.ins.length N = true)
    {x : HL T.den (hsT c.ins (hsOs c.pre))} {o : HL T.den (hsV c.res (hsOs c.post))} {an : An T} (hW : WPh T C N c.pre.length code an (c.st T x) (retTQ T C c rs o)) (hO : OblH T C N c.pre.length code an (retTQ T C c rs o)) :
    SoundH P c.f ((c.args idf x).map (er T)) ((c.obs idf x).map (erO T)) (er T (c.val idf o)) ((c.ops idf o).map (erO T)) := Con.sound hT hC hm hf hb hN hrs hl hW.h hO.h
def cA : Code → Code
  | .seq x _ => x
  | .cond _ x _ => x
  | .block _ x => x
  | .loop x => x
  | _ => .skip
def cB : Code → Code
  | .seq _ y => y
  | .cond _ _ y => y
  | _ => .skip
section
variable {S : Nat → Type}
def Con.mk0 (f : Nat) (ins : List Sh0) (pre : List OSh) (res : Sh) (post : List OSh) : Con S := ⟨f, ins, pre, res, post, fun _ _ => False⟩
def Con.fnR (c : Con S) (ok : HL S (hsT c.ins (hsOs c.pre)) → Prop) (v : HL S (hsT c.ins (hsOs c.pre)) → HL S (hsV c.res (hsOs c.post))) : Con S := ⟨c.f, c.ins, c.pre, c.res, c.post, fun x K => ok x ∧ K (v x)⟩
def Con.totR (c : Con S) (v : HL S (hsT c.ins (hsOs c.pre)) → HL S (hsV c.res (hsOs c.post))) : Con S := ⟨c.f, c.ins, c.pre, c.res, c.post, fun x K => K (v x)⟩
end
def flAll (F : Nat → Option (Nat × Bool × Nat)) : Nat → List (Nat × Bool × Nat) → Prop
  | _, [] => True
  | k, q :: r => F k = some q ∧ flAll F (k + 1) r
theorem flAll_get {F : Nat → Option (Nat × Bool × Nat)} : ∀ {l : List (Nat × Bool × Nat)} {k : Nat}, flAll F k l → ∀ i q, l[i]? = some q → F (k + i) = some q
  | [], _, _, i, q, h => by simp at h
  | p :: r, k, ha, i, q, h => by
    cases i with
    | zero => simp at h; subst h; exact ha.1
    | succ i => rw [show k + (i + 1) = k + 1 + i by omega]; exact flAll_get ha.2 i q (by simpa using h)
theorem flAll_ok {P : Program} {t : TypeId} {l : List (Nat × Bool × Nat)} (h : flAll (fldOf P t) 0 l) (f : Nat) (q : Nat × Bool × Nat) (hq : l[f]? = some q) : fldOf P t f = some q := by
  have := flAll_get h f q hq
  simpa using this
section
variable {T : Tab} {P : Program}
theorem Con.ok_fn (c : Con T.den) {ok : HL T.den (hsT c.ins (hsOs c.pre)) → Prop} {v : HL T.den (hsT c.ins (hsOs c.pre)) → HL T.den (hsV c.res (hsOs c.post))} (cl : Callable P c.f)
    (h : ∀ x, ok x → SoundH P c.f ((c.args idf x).map (er T)) ((c.obs idf x).map (erO T)) (er T (c.val idf (v x))) ((c.ops idf (v x)).map (erO T))) : (c.fnR ok v).Ok P T :=
  ⟨cl, fun x _ hx => ⟨v x, hx.2, h x hx.1⟩⟩
theorem Con.ok_tot (c : Con T.den) {v : HL T.den (hsT c.ins (hsOs c.pre)) → HL T.den (hsV c.res (hsOs c.post))} (cl : Callable P c.f)
    (h : ∀ x, SoundH P c.f ((c.args idf x).map (er T)) ((c.obs idf x).map (erO T)) (er T (c.val idf (v x))) ((c.ops idf (v x)).map (erO T))) : (c.totR v).Ok P T :=
  ⟨cl, fun x _ hx => ⟨v x, hx, h x⟩⟩
theorem all_nil {α : Type} {p : α → Prop} : ∀ c ∈ ([] : List α), p c := fun _ h => by cases h
theorem all_cons {α : Type} {p : α → Prop} {a : α} {l : List α} (h : p a) (h' : ∀ c ∈ l, p c) : ∀ c ∈ a :: l, p c := fun c hc => by
  rcases List.mem_cons.1 hc with rfl | hc
  · exact h
  · exact h' c hc
theorem find_nil {P : Program} {T : Tab} : InfoOk P T .lf := fun _ _ h => by cases h
theorem find_nd {P : Program} {T : Tab} {l r : BT (TI T.den)} {k : Nat} {v : TI T.den} (hv : TI.Ok P T k v) (hl : InfoOk P T l) (hr : InfoOk P T r) : InfoOk P T (.nd l k v r) := fun t x h => by
  unfold BT.find at h
  cases h1 : Nat.beq t k with
  | true => rw [h1] at h; have := nb_eq h1; subst this; injection h with h; subst h; exact hv
  | false =>
    rw [h1] at h
    cases h2 : Nat.ble t k with
    | true => rw [h2] at h; exact hl t x h
    | false => rw [h2] at h; exact hr t x h
end
end Go.Cv
namespace Go.Cv
theorem lpk0 {C : Prop} (h : C) (I M : Prop) : ((C ∧ I) ∧ M) = (I ∧ M) := propext ⟨fun x => ⟨x.1.2, x.2⟩, fun x => ⟨⟨h, x.1⟩, x.2⟩⟩
theorem lpk1 {C : Prop} {A0 : Type} (h : C) (I M : A0 → Prop) : (fun a0 => (C ∧ I a0) ∧ M a0) = fun a0 => I a0 ∧ M a0 := funext fun a0 => lpk0 h _ _
theorem lpk2 {C : Prop} {A0 A1 : Type} (h : C) (I M : A0 → A1 → Prop) : (fun a0 a1 => (C ∧ I a0 a1) ∧ M a0 a1) = fun a0 a1 => I a0 a1 ∧ M a0 a1 := funext fun a0 => funext fun a1 => lpk0 h _ _
theorem lpk3 {C : Prop} {A0 A1 A2 : Type} (h : C) (I M : A0 → A1 → A2 → Prop) : (fun a0 a1 a2 => (C ∧ I a0 a1 a2) ∧ M a0 a1 a2) = fun a0 a1 a2 => I a0 a1 a2 ∧ M a0 a1 a2 := funext fun a0 => funext fun a1 => funext fun a2 => lpk0 h _ _
theorem lpk4 {C : Prop} {A0 A1 A2 A3 : Type} (h : C) (I M : A0 → A1 → A2 → A3 → Prop) : (fun a0 a1 a2 a3 => (C ∧ I a0 a1 a2 a3) ∧ M a0 a1 a2 a3) = fun a0 a1 a2 a3 => I a0 a1 a2 a3 ∧ M a0 a1 a2 a3 := funext fun a0 => funext fun a1 => funext fun a2 => funext fun a3 => lpk0 h _ _
end Go.Cv
namespace Go.Proofs.Ytnmakgfmimagmaa
open Go Go.Bv Go.Cv Go.Md Go.RowKit
structure TOut where
  Commit : Int
  Point_a0 : Int
  Point_a1 : Int
  Cipher : List Int
  deriving Inhabited, DecidableEq
structure TTx where
  Anchor : Int
  Marks : List Int
  Outs : List TOut
  Deposit : Int
  Withdraw : Int
  Fee : Int
  Account : Int
  Nonce : Int
  Expiry : Int
  Proof : List Int
  deriving Inhabited, DecidableEq
structure TBlock where
  Parent : Int
  Height : Int
  Miner : Int
  Work : Int
  Nonce : Int
  Txs : List TTx
  deriving Inhabited, DecidableEq
structure TA2 where
  a0 : Int
  a1 : Int
  deriving Inhabited, DecidableEq
structure TField where
  P : Int
  deriving Inhabited, DecidableEq
structure TA3 where
  a0 : Int
  a1 : Int
  a2 : Int
  deriving Inhabited, DecidableEq
structure TRules where
  Mode : Int
  Depth : Int
  Proof_Block : Int
  Proof_Blowup : Int
  Proof_Queries : Int
  Reward : Int
  Window : Int
  Finality : Int
  Work : Int
  deriving Inhabited, DecidableEq
def denT : Nat → Type
  | 0 => TOut
  | 1 => TTx
  | 2 => TBlock
  | 3 => TA2
  | 4 => TField
  | 5 => TA3
  | 6 => TRules
  | _ => Unit
def tysT : Nat → List Ty
  | 0 => [.int .u64, .int .u64, .int .u64, .sl (.int .u64)]
  | 1 => [.int .u64, .sl (.int .u64), .sl (.st 0), .int .u64, .int .u64, .int .u64, .int .u64, .int .u64, .int .i64, .sl (.int .u8)]
  | 2 => [.int .u64, .int .i64, .int .u64, .int .u64, .int .u64, .sl (.st 1)]
  | 3 => [.int .u64, .int .u64]
  | 4 => [.int .u64]
  | 5 => [.int .u64, .int .u64, .int .u64]
  | 6 => [.int .i64, .int .i64, .int .i64, .int .i64, .int .i64, .int .u64, .int .i64, .int .i64, .int .u64]
  | _ => []
theorem TTx_eta (x : TTx) : TTx.mk x.Anchor x.Marks x.Outs x.Deposit x.Withdraw x.Fee x.Account x.Nonce x.Expiry x.Proof = x := rfl
theorem TBlock_eta (x : TBlock) : TBlock.mk x.Parent x.Height x.Miner x.Work x.Nonce x.Txs = x := rfl
def encTOut (x : TOut) : D := .agg [.int .u64 x.Commit, .int .u64 x.Point_a0, .int .u64 x.Point_a1, .slice 1 (x.Cipher.map (D.int .u64))]
def encTTx (x : TTx) : D := .agg [.int .u64 x.Anchor, .slice 1 (x.Marks.map (D.int .u64)), .slice 4 (x.Outs.map encTOut), .int .u64 x.Deposit, .int .u64 x.Withdraw, .int .u64 x.Fee, .int .u64 x.Account, .int .u64 x.Nonce, .int .i64 x.Expiry, .slice 1 (x.Proof.map (D.int .u8))]
def encTBlock (x : TBlock) : D := .agg [.int .u64 x.Parent, .int .i64 x.Height, .int .u64 x.Miner, .int .u64 x.Work, .int .u64 x.Nonce, .slice 10 (x.Txs.map encTTx)]
def encTA2 (x : TA2) : D := .agg [.int .u64 x.a0, .int .u64 x.a1]
def encTField (x : TField) : D := .agg [.int .u64 x.P]
def encTA3 (x : TA3) : D := .agg [.int .u64 x.a0, .int .u64 x.a1, .int .u64 x.a2]
def encTRules (x : TRules) : D := .agg [.int .i64 x.Mode, .int .i64 x.Depth, .int .i64 x.Proof_Block, .int .i64 x.Proof_Blowup, .int .i64 x.Proof_Queries, .int .u64 x.Reward, .int .i64 x.Window, .int .i64 x.Finality, .int .u64 x.Work]
def TB : Tab where
  den := denT
  tys := tysT
  inh := fun n => match n with
    | 0 => (default : TOut)
    | 1 => (default : TTx)
    | 2 => (default : TBlock)
    | 3 => (default : TA2)
    | 4 => (default : TField)
    | 5 => (default : TA3)
    | 6 => (default : TRules)
    | _ + 7 => ()
  cells := fun n => match n with
    | 0 => fun (x : TOut) => (x.Commit, x.Point_a0, x.Point_a1, x.Cipher, ())
    | 1 => fun (x : TTx) => (x.Anchor, x.Marks, x.Outs, x.Deposit, x.Withdraw, x.Fee, x.Account, x.Nonce, x.Expiry, x.Proof, ())
    | 2 => fun (x : TBlock) => (x.Parent, x.Height, x.Miner, x.Work, x.Nonce, x.Txs, ())
    | 3 => fun (x : TA2) => (x.a0, x.a1, ())
    | 4 => fun (x : TField) => (x.P, ())
    | 5 => fun (x : TA3) => (x.a0, x.a1, x.a2, ())
    | 6 => fun (x : TRules) => (x.Mode, x.Depth, x.Proof_Block, x.Proof_Blowup, x.Proof_Queries, x.Reward, x.Window, x.Finality, x.Work, ())
    | _ + 7 => fun _ => ()
  pack := fun n => match n with
    | 0 => fun (q0, q1, q2, q3, ()) => TOut.mk q0 q1 q2 q3
    | 1 => fun (q0, q1, q2, q3, q4, q5, q6, q7, q8, q9, ()) => TTx.mk q0 q1 q2 q3 q4 q5 q6 q7 q8 q9
    | 2 => fun (q0, q1, q2, q3, q4, q5, ()) => TBlock.mk q0 q1 q2 q3 q4 q5
    | 3 => fun (q0, q1, ()) => TA2.mk q0 q1
    | 4 => fun (q0, ()) => TField.mk q0
    | 5 => fun (q0, q1, q2, ()) => TA3.mk q0 q1 q2
    | 6 => fun (q0, q1, q2, q3, q4, q5, q6, q7, q8, ()) => TRules.mk q0 q1 q2 q3 q4 q5 q6 q7 q8
    | _ + 7 => fun _ => ()
  enc := fun n => match n with
    | 0 => encTOut
    | 1 => encTTx
    | 2 => encTBlock
    | 3 => encTA2
    | 4 => encTField
    | 5 => encTA3
    | 6 => encTRules
    | _ + 7 => fun _ => .agg []
theorem TBok : TB.Ok where
  one := fun n => match n with
    | 0 => rfl
    | 1 => rfl
    | 2 => rfl
    | 3 => rfl
    | 4 => rfl
    | 5 => rfl
    | 6 => rfl
    | _ + 7 => rfl
  pc := fun n x => match n with
    | 0 => rfl
    | 1 => rfl
    | 2 => rfl
    | 3 => rfl
    | 4 => rfl
    | 5 => rfl
    | 6 => rfl
    | _ + 7 => rfl
  en := fun n x => match n with
    | 0 => rfl
    | 1 => rfl
    | 2 => rfl
    | 3 => rfl
    | 4 => rfl
    | 5 => rfl
    | 6 => rfl
    | _ + 7 => rfl
def ti3 : TI TB.den := { ty := some (false, 1), ze := some [.d (.int .i64) (0 : Int)], un := some (.int .i64) }
theorem ti3_ok : TI.Ok Try.prog TB 3 ti3 :=
  ⟨(fun _ h => (show tyOf Try.prog 3 = some (false, 1) by kernel_rfl).trans h),
   (flAll_ok trivial),
   (fun _ _ h => by cases h),
   (fun h => by cases h),
   (fun _ h => by cases h),
   (fun _ h => by cases h; exact ⟨by kernel_rfl, allOne_mem (by kernel_rfl)⟩),
   (fun h => (h rfl).elim),
   (fun _ h => (show Try.prog.underlying 3 = some (.int .i64) by kernel_rfl).trans h),
   (fun _ h => by cases h)⟩
def ti4 : TI TB.den := { ty := some (false, 1), ze := some [.d (.bool) (false : Bool)], un := some (.bool) }
theorem ti4_ok : TI.Ok Try.prog TB 4 ti4 :=
  ⟨(fun _ h => (show tyOf Try.prog 4 = some (false, 1) by kernel_rfl).trans h),
   (flAll_ok trivial),
   (fun _ _ h => by cases h),
   (fun h => by cases h),
   (fun _ h => by cases h),
   (fun _ h => by cases h; exact ⟨by kernel_rfl, allOne_mem (by kernel_rfl)⟩),
   (fun h => (h rfl).elim),
   (fun _ h => (show Try.prog.underlying 4 = some (.bool) by kernel_rfl).trans h),
   (fun _ h => by cases h)⟩
def ti5 : TI TB.den := { ty := some (false, 1), ze := some [.d (.int .u8) (0 : Int)], un := some (.int .u8) }
theorem ti5_ok : TI.Ok Try.prog TB 5 ti5 :=
  ⟨(fun _ h => (show tyOf Try.prog 5 = some (false, 1) by kernel_rfl).trans h),
   (flAll_ok trivial),
   (fun _ _ h => by cases h),
   (fun h => by cases h),
   (fun _ h => by cases h),
   (fun _ h => by cases h; exact ⟨by kernel_rfl, allOne_mem (by kernel_rfl)⟩),
   (fun h => (h rfl).elim),
   (fun _ h => (show Try.prog.underlying 5 = some (.int .u8) by kernel_rfl).trans h),
   (fun _ h => by cases h)⟩
def ti9 : TI TB.den := { ty := some (false, 1), ze := some [.d (.str) (ByteArray.empty : ByteArray)], un := some (.string) }
theorem ti9_ok : TI.Ok Try.prog TB 9 ti9 :=
  ⟨(fun _ h => (show tyOf Try.prog 9 = some (false, 1) by kernel_rfl).trans h),
   (flAll_ok trivial),
   (fun _ _ h => by cases h),
   (fun h => by cases h),
   (fun _ h => by cases h),
   (fun _ h => by cases h; exact ⟨by kernel_rfl, allOne_mem (by kernel_rfl)⟩),
   (fun h => (h rfl).elim),
   (fun _ h => (show Try.prog.underlying 9 = some (.string) by kernel_rfl).trans h),
   (fun _ h => by cases h)⟩
def ti22 : TI TB.den := { ty := some (false, 1), ze := some [.d (.int .u64) (0 : Int)], un := some (.int .u64) }
theorem ti22_ok : TI.Ok Try.prog TB 22 ti22 :=
  ⟨(fun _ h => (show tyOf Try.prog 22 = some (false, 1) by kernel_rfl).trans h),
   (flAll_ok trivial),
   (fun _ _ h => by cases h),
   (fun h => by cases h),
   (fun _ h => by cases h),
   (fun _ h => by cases h; exact ⟨by kernel_rfl, allOne_mem (by kernel_rfl)⟩),
   (fun h => (h rfl).elim),
   (fun _ h => (show Try.prog.underlying 22 = some (.int .u64) by kernel_rfl).trans h),
   (fun _ h => by cases h)⟩
def ti23 : TI TB.den := { ty := some (false, 1), el := some (.st 1, 128), ez := true, ze := some [.full (.st 1) []], un := some (.slice 34) }
theorem ti23_ok : TI.Ok Try.prog TB 23 ti23 :=
  ⟨(fun _ h => (show tyOf Try.prog 23 = some (false, 1) by kernel_rfl).trans h),
   (flAll_ok trivial),
   (fun _ _ h => by cases h; exact ⟨by kernel_rfl, by kernel_rfl⟩),
   (fun _ _ _ h => by cases h; exact ⟨[.d (.int .u64 0), .full 1 [], .full 4 [], .d (.int .u64 0), .d (.int .u64 0), .d (.int .u64 0), .d (.int .u64 0), .d (.int .u64 0), .d (.int .i64 0), .full 1 []], by kernel_rfl, ⟨⟨le1_refl _, rfl⟩, ⟨⟨rfl, rfl⟩, rfl⟩, ⟨⟨rfl, rfl⟩, rfl⟩, ⟨le1_refl _, rfl⟩, ⟨le1_refl _, rfl⟩, ⟨le1_refl _, rfl⟩, ⟨le1_refl _, rfl⟩, ⟨le1_refl _, rfl⟩, ⟨le1_refl _, rfl⟩, ⟨⟨rfl, rfl⟩, rfl⟩, trivial⟩⟩),
   (fun _ h => by cases h),
   (fun _ h => by cases h; exact ⟨by kernel_rfl, allOne_mem (by kernel_rfl)⟩),
   (fun h => (h rfl).elim),
   (fun _ h => (show Try.prog.underlying 23 = some (.slice 34) by kernel_rfl).trans h),
   (fun _ h => by cases h)⟩
def ti25 : TI TB.den := { ty := some (true, 6), fl := [(0, false, 1), (1, false, 1), (2, false, 1), (3, false, 1), (4, false, 1), (5, false, 1)], ze := some [.d (.int .u64) (0 : Int), .d (.int .i64) (0 : Int), .d (.int .u64) (0 : Int), .d (.int .u64) (0 : Int), .d (.int .u64) (0 : Int), .full (.st 1) []], pl := [(0, 1), (1, 1), (2, 1), (3, 1), (4, 1), (5, 1)] }
theorem ti25_ok : TI.Ok Try.prog TB 25 ti25 :=
  ⟨(fun _ h => (show tyOf Try.prog 25 = some (true, 6) by kernel_rfl).trans h),
   (flAll_ok ⟨by kernel_rfl, by kernel_rfl, by kernel_rfl, by kernel_rfl, by kernel_rfl, by kernel_rfl, trivial⟩),
   (fun _ _ h => by cases h),
   (fun h => by cases h),
   (fun _ h => by cases h),
   (fun _ h => by cases h; exact ⟨by kernel_rfl, allOne_mem (by kernel_rfl)⟩),
   (fun _ => by kernel_rfl),
   (fun _ h => by cases h),
   (fun _ h => by cases h)⟩
def ti30 : TI TB.den := { ty := some (false, 1), el := some (.int .u64, 8), ez := true, ze := some [.full (.int .u64) []], un := some (.slice 22) }
theorem ti30_ok : TI.Ok Try.prog TB 30 ti30 :=
  ⟨(fun _ h => (show tyOf Try.prog 30 = some (false, 1) by kernel_rfl).trans h),
   (flAll_ok trivial),
   (fun _ _ h => by cases h; exact ⟨by kernel_rfl, by kernel_rfl⟩),
   (fun _ _ _ h => by cases h; exact ⟨[.d (.int .u64 0)], by kernel_rfl, ⟨⟨le1_refl _, rfl⟩, trivial⟩⟩),
   (fun _ h => by cases h),
   (fun _ h => by cases h; exact ⟨by kernel_rfl, allOne_mem (by kernel_rfl)⟩),
   (fun h => (h rfl).elim),
   (fun _ h => (show Try.prog.underlying 30 = some (.slice 22) by kernel_rfl).trans h),
   (fun _ h => by cases h)⟩
def ti31 : TI TB.den := { ty := some (false, 1), el := some (.st 0, 48), ez := true, ze := some [.full (.st 0) []], un := some (.slice 60) }
theorem ti31_ok : TI.Ok Try.prog TB 31 ti31 :=
  ⟨(fun _ h => (show tyOf Try.prog 31 = some (false, 1) by kernel_rfl).trans h),
   (flAll_ok trivial),
   (fun _ _ h => by cases h; exact ⟨by kernel_rfl, by kernel_rfl⟩),
   (fun _ _ _ h => by cases h; exact ⟨[.d (.int .u64 0), .d (.int .u64 0), .d (.int .u64 0), .full 1 []], by kernel_rfl, ⟨⟨le1_refl _, rfl⟩, ⟨le1_refl _, rfl⟩, ⟨le1_refl _, rfl⟩, ⟨⟨rfl, rfl⟩, rfl⟩, trivial⟩⟩),
   (fun _ h => by cases h),
   (fun _ h => by cases h; exact ⟨by kernel_rfl, allOne_mem (by kernel_rfl)⟩),
   (fun h => (h rfl).elim),
   (fun _ h => (show Try.prog.underlying 31 = some (.slice 60) by kernel_rfl).trans h),
   (fun _ h => by cases h)⟩
def ti32 : TI TB.den := { ty := some (false, 1), el := some (.int .u8, 1), ez := true, ze := some [.full (.int .u8) []], un := some (.slice 5) }
theorem ti32_ok : TI.Ok Try.prog TB 32 ti32 :=
  ⟨(fun _ h => (show tyOf Try.prog 32 = some (false, 1) by kernel_rfl).trans h),
   (flAll_ok trivial),
   (fun _ _ h => by cases h; exact ⟨by kernel_rfl, by kernel_rfl⟩),
   (fun _ _ _ h => by cases h; exact ⟨[.d (.int .u8 0)], by kernel_rfl, ⟨⟨le1_refl _, rfl⟩, trivial⟩⟩),
   (fun _ h => by cases h),
   (fun _ h => by cases h; exact ⟨by kernel_rfl, allOne_mem (by kernel_rfl)⟩),
   (fun h => (h rfl).elim),
   (fun _ h => (show Try.prog.underlying 32 = some (.slice 5) by kernel_rfl).trans h),
   (fun _ h => by cases h)⟩
def ti34 : TI TB.den := { ty := some (true, 10), fl := [(0, false, 1), (1, false, 1), (2, false, 1), (3, false, 1), (4, false, 1), (5, false, 1), (6, false, 1), (7, false, 1), (8, false, 1), (9, false, 1)], ze := some [.d (.int .u64) (0 : Int), .full (.int .u64) [], .full (.st 0) [], .d (.int .u64) (0 : Int), .d (.int .u64) (0 : Int), .d (.int .u64) (0 : Int), .d (.int .u64) (0 : Int), .d (.int .u64) (0 : Int), .d (.int .i64) (0 : Int), .full (.int .u8) []], pl := [(0, 1), (1, 1), (2, 1), (3, 1), (4, 1), (5, 1), (6, 1), (7, 1), (8, 1), (9, 1)] }
theorem ti34_ok : TI.Ok Try.prog TB 34 ti34 :=
  ⟨(fun _ h => (show tyOf Try.prog 34 = some (true, 10) by kernel_rfl).trans h),
   (flAll_ok ⟨by kernel_rfl, by kernel_rfl, by kernel_rfl, by kernel_rfl, by kernel_rfl, by kernel_rfl, by kernel_rfl, by kernel_rfl, by kernel_rfl, by kernel_rfl, trivial⟩),
   (fun _ _ h => by cases h),
   (fun h => by cases h),
   (fun _ h => by cases h),
   (fun _ h => by cases h; exact ⟨by kernel_rfl, allOne_mem (by kernel_rfl)⟩),
   (fun _ => by kernel_rfl),
   (fun _ h => by cases h),
   (fun _ h => by cases h)⟩
def ti35 : TI TB.den := { ty := some (false, 1), ze := some [.d (.int .u32) (0 : Int)], un := some (.int .u32) }
theorem ti35_ok : TI.Ok Try.prog TB 35 ti35 :=
  ⟨(fun _ h => (show tyOf Try.prog 35 = some (false, 1) by kernel_rfl).trans h),
   (flAll_ok trivial),
   (fun _ _ h => by cases h),
   (fun h => by cases h),
   (fun _ h => by cases h),
   (fun _ h => by cases h; exact ⟨by kernel_rfl, allOne_mem (by kernel_rfl)⟩),
   (fun h => (h rfl).elim),
   (fun _ h => (show Try.prog.underlying 35 = some (.int .u32) by kernel_rfl).trans h),
   (fun _ h => by cases h)⟩
def ti50 : TI TB.den := { ty := some (true, 9), fl := [(0, false, 1), (1, false, 1), (2, true, 3), (5, false, 1), (6, false, 1), (7, false, 1), (8, false, 1)], ze := some [.d (.int .i64) (0 : Int), .d (.int .i64) (0 : Int), .d (.int .i64) (0 : Int), .d (.int .i64) (0 : Int), .d (.int .i64) (0 : Int), .d (.int .u64) (0 : Int), .d (.int .i64) (0 : Int), .d (.int .i64) (0 : Int), .d (.int .u64) (0 : Int)], pl := [(0, 1), (1, 1), (2, 3), (5, 1), (6, 1), (7, 1), (8, 1)] }
theorem ti50_ok : TI.Ok Try.prog TB 50 ti50 :=
  ⟨(fun _ h => (show tyOf Try.prog 50 = some (true, 9) by kernel_rfl).trans h),
   (flAll_ok ⟨by kernel_rfl, by kernel_rfl, by kernel_rfl, by kernel_rfl, by kernel_rfl, by kernel_rfl, by kernel_rfl, trivial⟩),
   (fun _ _ h => by cases h),
   (fun h => by cases h),
   (fun _ h => by cases h),
   (fun _ h => by cases h; exact ⟨by kernel_rfl, allOne_mem (by kernel_rfl)⟩),
   (fun _ => by kernel_rfl),
   (fun _ h => by cases h),
   (fun _ h => by cases h)⟩
def ti58 : TI TB.den := { ty := some (true, 2), ar := some (2, false, 1), ze := some [.d (.int .u64) (0 : Int), .d (.int .u64) (0 : Int)], pl := [(0, 1), (1, 1)], un := some (.array 2 22) }
theorem ti58_ok : TI.Ok Try.prog TB 58 ti58 :=
  ⟨(fun _ h => (show tyOf Try.prog 58 = some (true, 2) by kernel_rfl).trans h),
   (flAll_ok trivial),
   (fun _ _ h => by cases h),
   (fun h => by cases h),
   (fun _ h => by cases h; exact ⟨by kernel_rfl, by kernel_rfl⟩),
   (fun _ h => by cases h; exact ⟨by kernel_rfl, allOne_mem (by kernel_rfl)⟩),
   (fun _ => by kernel_rfl),
   (fun _ h => (show Try.prog.underlying 58 = some (.array 2 22) by kernel_rfl).trans h),
   (fun _ h => by cases h)⟩
def ti60 : TI TB.den := { ty := some (true, 4), fl := [(0, false, 1), (1, true, 2), (3, false, 1)], ze := some [.d (.int .u64) (0 : Int), .d (.int .u64) (0 : Int), .d (.int .u64) (0 : Int), .full (.int .u64) []], pl := [(0, 1), (1, 2), (3, 1)] }
theorem ti60_ok : TI.Ok Try.prog TB 60 ti60 :=
  ⟨(fun _ h => (show tyOf Try.prog 60 = some (true, 4) by kernel_rfl).trans h),
   (flAll_ok ⟨by kernel_rfl, by kernel_rfl, by kernel_rfl, trivial⟩),
   (fun _ _ h => by cases h),
   (fun h => by cases h),
   (fun _ h => by cases h),
   (fun _ h => by cases h; exact ⟨by kernel_rfl, allOne_mem (by kernel_rfl)⟩),
   (fun _ => by kernel_rfl),
   (fun _ h => by cases h),
   (fun _ h => by cases h)⟩
def ti83 : TI TB.den := { ty := some (true, 2), fl := [(0, false, 1), (1, false, 1)], ze := some [.full (.int .u8) [], .d (.bool) (false : Bool)], pl := [(0, 1), (1, 1)] }
theorem ti83_ok : TI.Ok Try.prog TB 83 ti83 :=
  ⟨(fun _ h => (show tyOf Try.prog 83 = some (true, 2) by kernel_rfl).trans h),
   (flAll_ok ⟨by kernel_rfl, by kernel_rfl, trivial⟩),
   (fun _ _ h => by cases h),
   (fun h => by cases h),
   (fun _ h => by cases h),
   (fun _ h => by cases h; exact ⟨by kernel_rfl, allOne_mem (by kernel_rfl)⟩),
   (fun _ => by kernel_rfl),
   (fun _ h => by cases h),
   (fun _ h => by cases h)⟩
def ti97 : TI TB.den := { ty := some (true, 3), fl := [(0, false, 1), (1, false, 1), (2, false, 1)], ze := some [.full (.int .u8) [], .d (.int .i64) (0 : Int), .d (.bool) (false : Bool)], pl := [(0, 1), (1, 1), (2, 1)] }
theorem ti97_ok : TI.Ok Try.prog TB 97 ti97 :=
  ⟨(fun _ h => (show tyOf Try.prog 97 = some (true, 3) by kernel_rfl).trans h),
   (flAll_ok ⟨by kernel_rfl, by kernel_rfl, by kernel_rfl, trivial⟩),
   (fun _ _ h => by cases h),
   (fun h => by cases h),
   (fun _ h => by cases h),
   (fun _ h => by cases h; exact ⟨by kernel_rfl, allOne_mem (by kernel_rfl)⟩),
   (fun _ => by kernel_rfl),
   (fun _ h => by cases h),
   (fun _ h => by cases h)⟩
def ti110 : TI TB.den := { ty := some (true, 3), ar := some (3, false, 1), ze := some [.d (.int .u64) (0 : Int), .d (.int .u64) (0 : Int), .d (.int .u64) (0 : Int)], pl := [(0, 1), (1, 1), (2, 1)], un := some (.array 3 22) }
theorem ti110_ok : TI.Ok Try.prog TB 110 ti110 :=
  ⟨(fun _ h => (show tyOf Try.prog 110 = some (true, 3) by kernel_rfl).trans h),
   (flAll_ok trivial),
   (fun _ _ h => by cases h),
   (fun h => by cases h),
   (fun _ h => by cases h; exact ⟨by kernel_rfl, by kernel_rfl⟩),
   (fun _ h => by cases h; exact ⟨by kernel_rfl, allOne_mem (by kernel_rfl)⟩),
   (fun _ => by kernel_rfl),
   (fun _ h => (show Try.prog.underlying 110 = some (.array 3 22) by kernel_rfl).trans h),
   (fun _ h => by cases h)⟩
def ti114 : TI TB.den := { ty := some (false, 1), ze := some [.d (.int .u64) (0 : Int)], un := some (.int .u64) }
theorem ti114_ok : TI.Ok Try.prog TB 114 ti114 :=
  ⟨(fun _ h => (show tyOf Try.prog 114 = some (false, 1) by kernel_rfl).trans h),
   (flAll_ok trivial),
   (fun _ _ h => by cases h),
   (fun h => by cases h),
   (fun _ h => by cases h),
   (fun _ h => by cases h; exact ⟨by kernel_rfl, allOne_mem (by kernel_rfl)⟩),
   (fun h => (h rfl).elim),
   (fun _ h => (show Try.prog.underlying 114 = some (.int .u64) by kernel_rfl).trans h),
   (fun _ h => by cases h)⟩
def ti116 : TI TB.den := { ty := some (true, 1), fl := [(0, false, 1)], ze := some [.d (.int .u64) (0 : Int)], pl := [(0, 1)], eq := some [.int .u64] }
theorem ti116_ok : TI.Ok Try.prog TB 116 ti116 :=
  ⟨(fun _ h => (show tyOf Try.prog 116 = some (true, 1) by kernel_rfl).trans h),
   (flAll_ok ⟨by kernel_rfl, trivial⟩),
   (fun _ _ h => by cases h),
   (fun h => by cases h),
   (fun _ h => by cases h),
   (fun _ h => by cases h; exact ⟨by kernel_rfl, allOne_mem (by kernel_rfl)⟩),
   (fun _ => by kernel_rfl),
   (fun _ h => by cases h),
   (fun _ h => (show eqT Try.prog 116 = some [.int .u64] by kernel_rfl).trans h)⟩
def inf : BT (TI TB.den) := (.nd (.nd (.nd (.nd (.nd .lf 3 ti3 .lf) 4 ti4 .lf) 5 ti5 (.nd (.nd .lf 9 ti9 .lf) 22 ti22 .lf)) 23 ti23 (.nd (.nd (.nd .lf 25 ti25 .lf) 30 ti30 .lf) 31 ti31 (.nd .lf 32 ti32 .lf))) 34 ti34 (.nd (.nd (.nd (.nd .lf 35 ti35 .lf) 50 ti50 .lf) 58 ti58 (.nd .lf 60 ti60 .lf)) 83 ti83 (.nd (.nd (.nd .lf 97 ti97 .lf) 110 ti110 .lf) 114 ti114 (.nd .lf 116 ti116 .lf))))
theorem inf_ok : InfoOk Try.prog TB inf := (find_nd ti34_ok (find_nd ti23_ok (find_nd ti5_ok (find_nd ti4_ok (find_nd ti3_ok find_nil find_nil) find_nil) (find_nd ti22_ok (find_nd ti9_ok find_nil find_nil) find_nil)) (find_nd ti31_ok (find_nd ti30_ok (find_nd ti25_ok find_nil find_nil) find_nil) (find_nd ti32_ok find_nil find_nil))) (find_nd ti83_ok (find_nd ti58_ok (find_nd ti50_ok (find_nd ti35_ok find_nil find_nil) find_nil) (find_nd ti60_ok find_nil find_nil)) (find_nd ti114_ok (find_nd ti110_ok (find_nd ti97_ok find_nil find_nil) find_nil) (find_nd ti116_ok find_nil find_nil))))
theorem mix : Try.prog.follows .mixedOrders = true := by kernel_rfl
def x116 : XCon TB.den := ⟨116, [.int .u64, .int .u64, .int .u64], [.int .u64, .int .u64], fun x => (fun (a0 : Int) (a1 : Int) (a2 : Int) => 0 ≤ a0 ∧ 0 ≤ a1 ∧ 0 ≤ a2 ∧ a2 ≤ 1) x.1 x.2.1 x.2.2.1, fun x => ((fun (a0 : Int) (a1 : Int) (a2 : Int) => (a0 + a1 + a2) % 18446744073709551616) x.1 x.2.1 x.2.2.1, (fun (a0 : Int) (a1 : Int) (a2 : Int) => (a0 + a1 + a2) / 18446744073709551616) x.1 x.2.1 x.2.2.1, ())⟩
theorem x116_ok : x116.Ok Try.prog TB := ⟨rfl, fun x h => soundX_add64 Try.func116 (by kernel_rfl) (by kernel_rfl) (by kernel_rfl) (by kernel_rfl) x.1 x.2.1 x.2.2.1 h.1 h.2.1 h.2.2.1 h.2.2.2⟩
end Go.Proofs.Ytnmakgfmimagmaa
namespace Go.Bv
open Go.RowKit Go.Deep
def limOf (w : World) (b : Nat) : Nat := match w.heap[b]? with
  | some (.cells c _ _) => c.size
  | _ => 0
theorem limOf_cell {w : World} {b o : Nat} {v : Value} (h : w.cell? ⟨b, o, none⟩ = some v) : o < limOf w b := by
  unfold World.cell? at h
  unfold limOf
  simp only at h
  split at h
  · rename_i c _ _ hh
    rw [hh]
    simp only [Option.isSome_none, Bool.false_eq_true, if_false] at h
    exact (Array.getElem?_eq_some_iff.1 h).1
  · cases h
def isAggT (P : Program) (e : TypeId) : Bool := match P.underlying e with
  | some (.struct _) => true
  | some (.array _ _) => true
  | _ => false
def mkD (P : Program) (e : TypeId) (cs : List D) : D := if isAggT P e then .agg cs else cs.headD (.bool false)
def tiles (P : Program) (tot : Nat) : List (TypeId × Nat) → Nat → Bool
  | [], o => o == tot
  | p :: r, o => p.2 == o && tiles P tot r (o + P.cellsOf p.1)
def fsOf (fs : Array Field) : List (TypeId × Nat) := fs.toList.map fun f => (f.type, f.offset)
def arOf (P : Program) (n : Nat) (e : TypeId) : List (TypeId × Nat) := (List.range n).map fun i => (e, i * P.cellsOf e)
def dataT (P : Program) : Nat → TypeId → Bool
  | 0, _ => false
  | k + 1, t => match P.underlying t with
    | some .bool => true
    | some (.int _) => true
    | some .string => true
    | some (.slice e) => decide (0 < P.cellsOf e) && dataT P k e
    | some (.struct fs) => tiles P (P.cellsOf t) (fsOf fs) 0 && (fsOf fs).all fun p => dataT P k p.1
    | some (.array n e) => tiles P (P.cellsOf t) (arOf P n e) 0 && dataT P k e
    | _ => false
def RelFs {H : Type} (R : TypeId → List D → DataW H → Prop) : List (TypeId × Nat) → List D → List (DataW H) → Prop
  | [], ds, ps => ds = [] ∧ ps = []
  | t :: ts, ds, ps => ∃ d1 d2 p qs, R t.1 d1 p ∧ RelFs R ts d2 qs ∧ ds = d1 ++ d2 ∧ ps = p :: qs
def Rel {H : Type} (P : Program) : Nat → TypeId → List D → DataW H → Prop
  | 0, _, _, _ => False
  | k + 1, t, ds, d => match P.underlying t with
    | some .bool => ∃ b, ds = [.bool b] ∧ d = .lit (.bool b)
    | some (.int q) => ∃ i, ds = [.int q i] ∧ d = .lit (.int q i) ∧ (Lit.int q i).wf = true
    | some .string => ∃ s : ByteArray, ds = [.str s] ∧ d = .lit (.string s.data.toList)
    | some (.slice e) => ∃ l : List (List D), ds = [.slice (P.cellsOf e) (l.map (mkD P e))] ∧ l.length ≤ maxLen ∧
        ((l = [] ∧ d = .nil) ∨ ∃ elems spare, d = .slice elems spare ∧ l.length = elems.length ∧ ∀ (j : Nat) (x : List D) (y : DataW H), l[j]? = some x → elems[j]? = some y → Rel P k e x y)
    | some (.struct fs) => ∃ ps, d = .agg ps ∧ RelFs (Rel P k) (fsOf fs) ds ps
    | some (.array n e) => ∃ ps, d = .agg ps ∧ RelFs (Rel P k) (arOf P n e) ds ps
    | _ => False
def Holds (w : World) (cs : List Value) (ds : List D) : Prop := ds.length = cs.length ∧ ∀ (j : Nat) (v : Value) (c : D), cs[j]? = some v → ds[j]? = some c → RepD (limOf w) w v c
theorem Holds.append {w : World} {a b : List Value} {x y : List D} (h1 : Holds w a x) (h2 : Holds w b y) : Holds w (a ++ b) (x ++ y) := by
  refine ⟨by simp [h1.1, h2.1], fun j v c hv hc => ?_⟩
  by_cases hj : j < a.length
  · rw [List.getElem?_append_left hj] at hv
    rw [List.getElem?_append_left (by rw [h1.1]; exact hj)] at hc
    exact h1.2 j v c hv hc
  · rw [List.getElem?_append_right (by omega)] at hv
    rw [List.getElem?_append_right (by rw [h1.1]; omega), h1.1] at hc
    exact h2.2 _ v c hv hc
theorem Holds.one {w : World} {v : Value} {d : D} (h : RepD (limOf w) w v d) : Holds w [v] [d] := by
  refine ⟨rfl, fun j u c hu hc => ?_⟩
  cases j with
  | zero => simp at hu hc; subst hu; subst hc; exact h
  | succ j => simp at hu
section
variable {H : Type} {P : Program} {w : World} {cs : List Value}
theorem parts_rel {tot : Nat} (htot : cs.length = tot) (ok : Value → Prop) (hok : ∀ v ∈ cs, ok v) (R : TypeId → List D → DataW H → Prop) (g : TypeId → List Value → Option (DataW H × List MemPlace)) :
    ∀ (L : List (TypeId × Nat)) (o : Nat) (xs : List (DataW H × List MemPlace)), tiles P tot L o = true → xs.length = L.length →
      (∀ p ∈ L, ∀ cs' y, (∀ v ∈ cs', ok v) → g p.1 cs' = some y → ∃ ds, Holds w cs' ds ∧ R p.1 ds y.1) →
      (∀ (i : Nat) (p : TypeId × Nat), L[i]? = some p → g p.1 ((cs.drop p.2).take (P.cellsOf p.1)) = xs[i]?) →
      ∃ ds, Holds w (cs.drop o) ds ∧ RelFs R L ds (xs.map (·.1))
  | [], o, xs, ht, hl, _, _ => by
    simp [tiles] at ht
    have : xs = [] := by simpa using hl
    subst this
    refine ⟨[], ⟨?_, ?_⟩, rfl, rfl⟩
    · simp; omega
    · intro j v c _ hc; simp at hc
  | p :: L, o, xs, ht, hl, hg, hx => by
    simp [tiles] at ht
    obtain ⟨h0, ht⟩ := ht
    cases xs with
    | nil => simp at hl
    | cons y ys =>
      have h1 := hx 0 p rfl
      simp only [List.getElem?_cons_zero] at h1
      obtain ⟨d1, hd1, hr1⟩ := hg p (by simp) _ y (fun v hv => hok v (List.mem_of_mem_drop (List.mem_of_mem_take hv))) h1
      obtain ⟨d2, hd2, hr2⟩ := parts_rel htot ok hok R g L (o + P.cellsOf p.1) ys ht (by simpa using hl) (fun q hq => hg q (by simp [hq])) (fun i q hq => by simpa using hx (i + 1) q (by simpa using hq))
      refine ⟨d1 ++ d2, ?_, d1, d2, y.1, _, hr1, hr2, rfl, rfl⟩
      have := hd1.append hd2
      rw [h0, ← List.drop_drop, List.take_append_drop] at this
      exact this
end
section
variable {H : Type} {enc : TypeId × Value → H} {P : Program} {w : World}
theorem rel_mk {k : Nat} {e : TypeId} {x : List D} {d : DataW H} (hr : Rel P k e x d) (h1 : ∀ c ∈ x, c.one = true) : (mkD P e x).cells = x := by
  cases k with
  | zero => exact hr.elim
  | succ k =>
    unfold mkD
    split
    · rfl
    · rename_i ha
      unfold Rel at hr
      split at hr
      · obtain ⟨b, rfl, _⟩ := hr; rfl
      · obtain ⟨b, rfl, _⟩ := hr; rfl
      · obtain ⟨b, rfl, _⟩ := hr; rfl
      · obtain ⟨b, rfl, _⟩ := hr; rfl
      · rename_i h; exact absurd (by simp [isAggT, h]) ha
      · rename_i h; exact absurd (by simp [isAggT, h]) ha
      · exact hr.elim
theorem open_rel : ∀ (k : Nat) (t : TypeId), dataT P k t = true → ∀ (n : Nat) (cs : List Value) (y : DataW H × List MemPlace),
    DataW.trod enc P w 0 (fun _ => true) true n t cs = some y → ∃ ds, Holds w cs ds ∧ Rel P k t ds y.1
  | 0, _, h => by cases h
  | k + 1, t, hT => by
    intro n cs y h
    unfold dataT at hT
    split at hT
    · rename_i hu
      obtain ⟨b, rfl, rfl⟩ := DataW.trod_bool hu h
      exact ⟨[.bool b], Holds.one (.bool b), by simp [Rel, hu]⟩
    · rename_i q hu
      obtain ⟨i, rfl, rfl, hw⟩ := DataW.trod_int hu h
      exact ⟨[.int q i], Holds.one (.int q i), by simp [Rel, hu, hw]⟩
    · rename_i hu
      obtain ⟨s, rfl, rfl, hs⟩ := DataW.trod_string hu h
      exact ⟨[.str s], Holds.one (.str s), by simp only [Rel, hu]; exact ⟨s, rfl, rfl⟩⟩
    · rename_i e hu
      simp only [Bool.and_eq_true, decide_eq_true_eq] at hT
      obtain ⟨hpos, hT⟩ := hT
      rcases open_slice hu h with ⟨rfl, rfl⟩ | ⟨a, len, cap, m, n', Dd, Pl, rfl, _, hlc, hcm, hm, rfl, hel⟩
      · exact ⟨[.slice (P.cellsOf e) []], Holds.one (.nil none _), by simp only [Rel, hu]; exact ⟨[], rfl, Nat.zero_le _, .inl ⟨by trivial, by trivial⟩⟩⟩
      · simp only [if_true] at hm
        subst hm
        by_cases hm0 : m = 0
        · subst hm0
          have hl0 : len = 0 := by omega
          subst hl0
          refine ⟨[.slice (P.cellsOf e) []], Holds.one (.nil (some a) _), ?_⟩
          simp only [Rel, hu]
          exact ⟨[], rfl, Nat.zero_le _, .inr ⟨_, _, rfl, by simp, by intro j x y hx; simp at hx⟩⟩
        have hel' : ∀ i, i < len → ∃ x : List D, ∃ cs', w.cells? 0 (a.add (i * P.cellsOf e)) (P.cellsOf e) = some cs' ∧ Holds w cs' x ∧ Rel P k e x (Dd i) := by
          intro i hi
          obtain ⟨cs', h1, h2⟩ := hel i (by omega)
          obtain ⟨ds, h3, h4⟩ := open_rel k e hT n' cs' _ h2
          exact ⟨ds, cs', h1, h3, h4⟩
        obtain ⟨f, hf⟩ := choose_lt hel'
        have hspot : a.spot = none := by
          obtain ⟨cs', h1, h2⟩ := hel 0 (by omega)
          have h3 := (World.cells?_some h1).2.2 0 (by omega)
          have h4 := (World.cells?_some h1).2.1
          rw [List.getElem?_eq_getElem (by omega)] at h3
          unfold World.cell? at h3
          split at h3
          · split at h3
            · cases h3
            · rename_i hs; simpa [Addr.add] using hs
          · cases h3
        obtain ⟨b, off, sp⟩ := a
        simp only at hspot
        subst hspot
        have hone : ∀ i, i < len → ∀ c ∈ f i, c.one = true := by
          intro i hi c hc
          obtain ⟨cs', h1, h2, h3⟩ := hf i hi
          obtain ⟨j, hj⟩ := List.getElem?_of_mem hc
          have hjl : j < cs'.length := by rw [← h2.1]; exact (List.getElem?_eq_some_iff.1 hj).1
          exact (h2.2 j _ c (List.getElem?_eq_getElem hjl) hj).done
        have hmk : ∀ i, i < len → (mkD P e (f i)).cells = f i := fun i hi => by
          obtain ⟨cs', h1, h2, h3⟩ := hf i hi
          exact rel_mk h3 (hone i hi)
        have hsz : ∀ d ∈ ((List.range len).map f).map (mkD P e), d.cells.length = P.cellsOf e ∧ ∀ c ∈ d.cells, c.one = true := by
          intro d hd
          simp only [List.map_map, List.mem_map, List.mem_range, Function.comp] at hd
          obtain ⟨i, hi, rfl⟩ := hd
          obtain ⟨cs', h1, h2, h3⟩ := hf i hi
          rw [hmk i hi]
          exact ⟨by rw [h2.1]; exact (World.cells?_some h1).2.1, hone i hi⟩
        have hget : ∀ i, i < len → (((List.range len).map f).map (mkD P e))[i]? = some (mkD P e (f i)) := by
          intro i hi
          simp [List.getElem?_map, List.getElem?_range hi]
        have hfl := flat_length hsz
        simp only [List.length_map, List.length_range] at hfl
        have hat : ∀ (j : Nat) (u : Value), ((List.range (len * P.cellsOf e)).map fun j => (w.cell? ⟨b, off + j, none⟩).getD undef)[j]? = some u → j < len * P.cellsOf e ∧ w.cell? ⟨b, off + j, none⟩ = some u := by
          intro j u hu
          have hj : j < len * P.cellsOf e := by simpa using (List.getElem?_eq_some_iff.1 hu).1
          refine ⟨hj, ?_⟩
          simp only [List.getElem?_map, List.getElem?_range hj, Option.map_some, Option.some.injEq] at hu
          have hi : j / P.cellsOf e < len := by rw [Nat.div_lt_iff_lt_mul hpos]; exact hj
          have hr : j % P.cellsOf e < P.cellsOf e := Nat.mod_lt _ hpos
          obtain ⟨cs', h1, h2, h3⟩ := hf _ hi
          have e1 : j / P.cellsOf e * P.cellsOf e + j % P.cellsOf e = j := by rw [Nat.mul_comm]; exact Nat.div_add_mod j _
          have h4 := (World.cells?_some h1).2.2 _ hr
          have h5 := (World.cells?_some h1).2.1
          have e2 : (Addr.add ⟨b, off, none⟩ (j / P.cellsOf e * P.cellsOf e)).add (j % P.cellsOf e) = ⟨b, off + j, none⟩ := by
            rw [add_add, e1]
            simp [Addr.add]
          rw [e2, List.getElem?_eq_getElem (by omega)] at h4
          rw [h4] at hu ⊢
          simpa using hu
        refine ⟨[.slice (P.cellsOf e) (((List.range len).map f).map (mkD P e))], Holds.one ?_, ?_⟩
        · have := RepD.slice (m := limOf w) (w := w) b off m (P.cellsOf e) (((List.range len).map f).map (mkD P e)) ((List.range (len * P.cellsOf e)).map fun j => (w.cell? ⟨b, off + j, none⟩).getD undef) (by simpa using hlc) hcm hsz (by rw [hfl]; simp) ?_ ?_
          · simpa using this
          · intro j u hu
            obtain ⟨hj, hcell⟩ := hat j u hu
            exact ⟨limOf_cell hcell, hcell⟩
          · intro j u c hu hc
            obtain ⟨hj, hcell⟩ := hat j u hu
            have hi : j / P.cellsOf e < len := by rw [Nat.div_lt_iff_lt_mul hpos]; exact hj
            have hr : j % P.cellsOf e < P.cellsOf e := Nat.mod_lt _ hpos
            obtain ⟨cs', h1, h2, h3⟩ := hf _ hi
            have e1 : j / P.cellsOf e * P.cellsOf e + j % P.cellsOf e = j := by rw [Nat.mul_comm]; exact Nat.div_add_mod j _
            rw [← e1, flat_get hsz (hget _ hi) _ hr, hmk _ hi] at hc
            refine h2.2 _ u c ?_ hc
            rw [← (World.cells?_some h1).2.2 _ hr, ← hcell]
            congr 1
            rw [add_add, e1]
            simp [Addr.add]
        · simp only [Rel, hu]
          refine ⟨(List.range len).map f, rfl, by simp; omega, .inr ⟨_, _, rfl, by simp, ?_⟩⟩
          intro j x y hx hy
          have hj : j < len := by simpa using (List.getElem?_eq_some_iff.1 hx).1
          simp only [List.getElem?_map, List.getElem?_range hj, Option.map_some, Option.some.injEq] at hx hy
          subst hx; subst hy
          obtain ⟨_, _, _, h3⟩ := hf j hj
          exact h3
    · rename_i fs hu
      simp only [Bool.and_eq_true] at hT
      obtain ⟨xs, n', rfl, rfl, hl, hxl, hx⟩ := DataW.trod_struct hu h
      obtain ⟨ds, h1, h2⟩ := parts_rel (P := P) hl (fun _ => True) (fun _ _ => trivial) (Rel P k) (fun t c => DataW.trod enc P w 0 (fun _ => true) true n' t c) (fsOf fs) 0 xs hT.1 (by simp [fsOf, hxl])
        (fun p hp cs' y _ hy => open_rel k p.1 (List.all_eq_true.1 hT.2 p hp) n' cs' y hy)
        (fun i p hp => by
          simp only [fsOf, List.getElem?_map, Option.map_eq_some_iff] at hp
          obtain ⟨f, hf, rfl⟩ := hp
          exact hx i f (by simpa using hf))
      exact ⟨ds, by simpa using h1, by simp only [Rel, hu]; exact ⟨_, rfl, h2⟩⟩
    · rename_i m e hu
      simp only [Bool.and_eq_true] at hT
      obtain ⟨xs, n', rfl, rfl, hl, hxl, hx⟩ := DataW.trod_array hu h
      obtain ⟨ds, h1, h2⟩ := parts_rel (P := P) hl (fun _ => True) (fun _ _ => trivial) (Rel P k) (fun t c => DataW.trod enc P w 0 (fun _ => true) true n' t c) (arOf P m e) 0 xs hT.1 (by simp [arOf, hxl])
        (fun p hp cs' y _ hy => by
          simp only [arOf, List.mem_map] at hp
          obtain ⟨i, _, rfl⟩ := hp
          exact open_rel k e hT.2 n' cs' y hy)
        (fun i p hp => by
          simp only [arOf, List.getElem?_map, Option.map_eq_some_iff] at hp
          obtain ⟨f, hf, rfl⟩ := hp
          obtain ⟨hi, rfl⟩ := List.getElem?_eq_some_iff.1 hf
          have hi' : i < m := by simpa using hi
          simpa using hx i hi')
      exact ⟨ds, by simpa using h1, by simp only [Rel, hu]; exact ⟨_, rfl, h2⟩⟩
    · cases hT
end
end Go.Bv
namespace Go.Bv
open Go.RowKit Go.ChangeShapes Go.WideShapes
def G0 (W : World) : Gh := ⟨fun _ => none, fun _ => none, limOf W⟩
def vOf (P : Program) (t : TypeId) (ds : List D) : V := if isAggT P t then .agg (ds.map V.d) else .d (ds.headD (.bool false))
section
variable {H : Type} {enc : TypeId × Value → H} {P : Program} {W : World}
theorem arg_rep {k : Nat} {r : Reach} {base : Nat} {t : TypeId} {v : Value} {d : DataW H} {ps : List MemPlace} {h : Hp} {nx : Nat} (hT : dataT P k t = true) (hval : Value.okWide P W r base t v)
    (hd : DataW.Trod enc P W 0 (fun _ => true) true t v d ps) : ∃ ds, Rel P k t ds d ∧ RepV (G0 W) W h nx v (vOf P t ds) := by
  obtain ⟨n, hn⟩ := hd
  by_cases ha : isAggT P t = true
  · have hval' : ∃ cs, v = .agg cs ∧ cs.size = P.cellsOf t ∧ Row.okWide P W r base t cs := by
      unfold isAggT at ha
      unfold Value.okWide at hval
      split at ha
      · rename_i h1; rw [h1] at hval; exact hval
      · rename_i h1; rw [h1] at hval; exact hval
      · cases ha
    obtain ⟨cs, rfl, _, ts, _, _, hc⟩ := hval'
    obtain ⟨ds, h1, h2⟩ := open_rel k t hT n cs.toList _ hn
    refine ⟨ds, h2, ?_⟩
    unfold vOf
    rw [if_pos ha]
    have := RepV.agg (G := G0 W) (w := W) (h := h) (nx := nx) cs.toList (ds.map V.d) (by simpa using h1.1.symm) ?_ ?_
    · simpa using this
    · intro x hx
      obtain ⟨c, hcm, rfl⟩ := List.mem_map.1 hx
      obtain ⟨j, hj⟩ := List.getElem?_of_mem hcm
      have hjl : j < cs.toList.length := by have := h1.1; have := (List.getElem?_eq_some_iff.1 hj).1; simp [Value.cells] at *; omega
      exact (h1.2 j _ c (List.getElem?_eq_getElem hjl) hj).done
    · intro j u x hu hx
      rw [List.getElem?_map, Option.map_eq_some_iff] at hx
      obtain ⟨c, hcj, rfl⟩ := hx
      exact .d _ _ (h1.2 j u c hu hcj)
  · have hval' : Cell.okWide P W r base t v := by
      unfold Value.okWide at hval
      split at hval
      · rename_i h1; exact absurd (by simp [isAggT, h1]) ha
      · rename_i h1; exact absurd (by simp [isAggT, h1]) ha
      · exact hval
    have hcs : v.cells.toList = [v] := by
      cases v with
      | agg cs =>
        exfalso
        unfold Cell.okWide Cell.ok at hval'
        split at hval'
        all_goals first | (split at hval'; all_goals simp_all) | simp_all
      | _ => rfl
    rw [hcs] at hn
    obtain ⟨ds, h1, h2⟩ := open_rel k t hT n _ _ hn
    refine ⟨ds, h2, ?_⟩
    unfold vOf
    rw [if_neg ha]
    have hl := h1.1
    match ds, hl with
    | [c], _ => exact .d _ _ (h1.2 0 v c rfl rfl)
theorem law_of {f : FuncId} {xs : List V} {r : V} (hS : SoundH P f xs [] r []) {vs : List Value} (hlen : vs.length = xs.length)
    (hrep : ∀ (j : Nat) (v : Value) (x : V), vs[j]? = some v → xs[j]? = some x → RepV (G0 W) W [] 0 v x) :
    Calls P f vs.toArray W fun e W' => (∃ v G', e = .returned v ∧ RepV G' W' [] 0 v r) ∧ Below W.heap.size W W' := by
  refine (hS (G0 W) W vs hlen hrep ?_).mono fun e W' hh => ?_
  · refine ⟨?_, ?_, ?_, ?_, ?_, ?_⟩
    · intro id l h; simp [hpOf, Hp.get] at h
    · intro id es h; simp [hpOf, Hp.get] at h
    · intro id b h; simp at h
    · intro i j b h; simp at h
    · intro id ob h; simp [hpOf, Hp.get] at h
    · intro b hb
      show limOf W b = 0
      unfold limOf
      rw [Array.getElem?_eq_none hb]
  · obtain ⟨v, G', rfl, h1, h2, h3, h4⟩ := hh
    refine ⟨⟨v, G', rfl, h1⟩, h3.os, h3.tape, h3.output, h3.size, fun b hb => (h3.same b hb ?_).1⟩
    rintro ⟨i, hi, _⟩
    simp at hi
def typesOk (P : Program) (ts : List TypeId) : Bool := ts.all fun t => P.readableRec t && decide (t < P.types.size)
theorem trodAll_below (hl : laidOutB P = true) {W' : World} (hb : Below W.heap.size W W') : ∀ {ts : List TypeId} {vs : List Value} {ds : List (DataW H)} {ps : List MemPlace}, typesOk P ts = true →
    DataW.TrodAll enc P W 0 (fun _ => true) true ts vs ds ps → (∀ x ∈ ps, x.block < W.heap.size) → DataW.TrodAll enc P W' 0 (fun b => decide (b < W.heap.size)) true ts vs ds ps
  | [], [], [], _, _, h, _ => h
  | [], [], _ :: _, _, _, h, _ => h.elim
  | [], _ :: _, _, _, _, h, _ => h.elim
  | _ :: _, [], _, _, _, h, _ => h.elim
  | _ :: _, _ :: _, [], _, _, h, _ => h.elim
  | t :: ts, v :: vs, d :: ds, ps, ht, h, hp => by
    simp only [typesOk, List.all_cons, Bool.and_eq_true, decide_eq_true_eq] at ht
    obtain ⟨p, q, h1, h2, rfl⟩ := h
    exact ⟨p, q, Below.trod hl ht.1.1 ht.1.2 h1 hb (fun x hx => hp x (by simp [hx])), trodAll_below hl hb (by simpa [typesOk] using ht.2) h2 (fun x hx => hp x (by simp [hx])), rfl⟩
theorem rel_int {k : Nat} {t : TypeId} {q : IntKind} {ds : List D} {d : DataW H} (hu : P.underlying t = some (.int q)) (h : Rel P (k + 1) t ds d) : ∃ i, ds = [.int q i] ∧ d = .lit (.int q i) ∧ (Lit.int q i).wf = true := by unfold Rel at h; rw [hu] at h; exact h
theorem rel_struct {k : Nat} {t : TypeId} {fs : Array Field} {ds : List D} {d : DataW H} (hu : P.underlying t = some (.struct fs)) (h : Rel P (k + 1) t ds d) : ∃ ps, d = .agg ps ∧ RelFs (Rel P k) (fsOf fs) ds ps := by unfold Rel at h; rw [hu] at h; exact h
theorem rel_array {k : Nat} {t e : TypeId} {n : Nat} {ds : List D} {d : DataW H} (hu : P.underlying t = some (.array n e)) (h : Rel P (k + 1) t ds d) : ∃ ps, d = .agg ps ∧ RelFs (Rel P k) (arOf P n e) ds ps := by unfold Rel at h; rw [hu] at h; exact h
theorem rel_slice {k : Nat} {t e : TypeId} {ds : List D} {d : DataW H} {α : Type} [Inhabited α] (f : α → D) (p : α → Prop) (hu : P.underlying t = some (.slice e)) (h : Rel P (k + 1) t ds d)
    (tp : ∀ (x : List D) (y : DataW H), Rel P k e x y → ∃ a, mkD P e x = f a ∧ p a) :
    ∃ l : List α, ds = [.slice (P.cellsOf e) (l.map f)] ∧ l.length ≤ maxLen ∧ (∀ a ∈ l, p a) ∧ ((l = [] ∧ d = .nil) ∨ ∃ elems spare, d = .slice elems spare ∧ l.length = elems.length) := by
  unfold Rel at h
  rw [hu] at h
  obtain ⟨l, rfl, hmx, h⟩ := h
  rcases h with ⟨rfl, rfl⟩ | ⟨elems, spare, rfl, hlen, hh⟩
  · exact ⟨[], rfl, Nat.zero_le _, by simp, .inl ⟨rfl, rfl⟩⟩
  · have : ∀ i, i < l.length → ∃ a, mkD P e (l.getD i []) = f a ∧ p a := by
      intro i hi
      refine tp _ _ (hh i _ _ ?_ (List.getElem?_eq_getElem (by omega)))
      simp [List.getElem?_eq_getElem hi]
    obtain ⟨g, hg⟩ := Deep.choose_lt this
    refine ⟨(List.range l.length).map g, ?_, by simpa using hmx, ?_, .inr ⟨elems, spare, rfl, by simpa using hlen⟩⟩
    · have : l.map (mkD P e) = ((List.range l.length).map g).map f := by
        rw [Deep.map_by_index l [] (mkD P e), List.map_map]
        refine List.map_congr_left fun i hi => ?_
        exact (hg i (by simpa using hi)).1
      rw [this]
    · intro a ha
      obtain ⟨i, hi, rfl⟩ := List.mem_map.1 ha
      exact (hg i (by simpa using hi)).2
theorem law_post {fn : Func} {s : ChangeSpec} {W' : World} {args : Array Value} {ds : List (DataW H)} {before : List MemPlace} {tb : TypeId} (hv : s.vars = []) (hW : DataW.Whole enc P fn.params.toList s.vars false W args.toList ds [] before)
    (hl : laidOutB P = true) (hty : typesOk P fn.params.toList = true) (hr : fn.resultTypes = #[tb]) (hub : P.underlying tb = some .bool)
    (h1 : (s.fn H (ds ++ [])).results = [.lit (.bool true)]) (h2 : (s.fn H (ds ++ [])).args = ds) (h3 : (s.fn H (ds ++ [])).vars = []) (hb : Below W.heap.size W W') :
    s.post enc P fn false true false false W args (.bool true) W' := by
  have hW' := hW
  obtain ⟨p, q, hA, hV, rfl, _, _⟩ := hW
  have hq : q = [] := by rw [hv] at hV; exact hV
  subst hq
  refine ⟨ds, [], p ++ [], [], p, [], hW', ?_, ?_, ?_, hb.frame _, fun h => by cases h⟩
  · rw [h1, hr]
    exact trodAll_cons_mk (shut_bool hub _) trodAll_mk0
  · rw [h2]
    exact trodAll_below hl hb hty hA (fun x hx => by simpa using hW'.lt x (by simpa using hx))
  · rw [hv, h3]
    rfl
end
structure RelH {H : Type} (P : Program) (k : Nat) (t : TypeId) (ds : List D) (d : DataW H) : Prop where
  h : Rel P k t ds d
section
variable {H : Type} {enc : TypeId × Value → H} {P : Program} {W : World} {k : Nat}
theorem relFs_h : ∀ {L : List (TypeId × Nat)} {ds : List D} {ps : List (DataW H)}, RelFs (Rel P k) L ds ps → RelFs (RelH P k) L ds ps
  | [], _, _, h => h
  | _ :: _, _, _, ⟨d1, d2, p, qs, h1, h2, e1, e2⟩ => ⟨d1, d2, p, qs, ⟨h1⟩, relFs_h h2, e1, e2⟩
theorem relH_int {t : TypeId} {q : IntKind} {ds : List D} {d : DataW H} (hu : P.underlying t = some (.int q)) (h : RelH P (k + 1) t ds d) : ∃ i, ds = [.int q i] ∧ d = .lit (.int q i) ∧ (Lit.int q i).wf = true := rel_int hu h.h
theorem relH_struct {t : TypeId} {fs : Array Field} {ds : List D} {d : DataW H} {L : List (TypeId × Nat)} (hu : P.underlying t = some (.struct fs)) (hf : fsOf fs = L) (h : RelH P (k + 1) t ds d) : ∃ ps, d = .agg ps ∧ RelFs (RelH P k) L ds ps := by
  obtain ⟨ps, h1, h2⟩ := rel_struct hu h.h
  rw [hf] at h2
  exact ⟨ps, h1, relFs_h h2⟩
theorem relH_array {t e : TypeId} {n : Nat} {ds : List D} {d : DataW H} {L : List (TypeId × Nat)} (hu : P.underlying t = some (.array n e)) (hf : arOf P n e = L) (h : RelH P (k + 1) t ds d) : ∃ ps, d = .agg ps ∧ RelFs (RelH P k) L ds ps := by
  obtain ⟨ps, h1, h2⟩ := rel_array hu h.h
  rw [hf] at h2
  exact ⟨ps, h1, relFs_h h2⟩
theorem relH_slice {t e : TypeId} {ds : List D} {d : DataW H} {α : Type} [Inhabited α] (f : α → D) (p : α → Prop) (sz : Nat) (hu : P.underlying t = some (.slice e)) (hs : P.cellsOf e = sz) (h : RelH P (k + 1) t ds d)
    (tp : ∀ (x : List D) (y : DataW H), RelH P k e x y → ∃ a, mkD P e x = f a ∧ p a) : ∃ l : List α, ds = [.slice sz (l.map f)] ∧ l.length ≤ 9223372036854775807 ∧ ∀ a ∈ l, p a := by
  obtain ⟨l, h1, h2, h3, _⟩ := rel_slice f p hu h.h (fun x y hh => tp x y ⟨hh⟩)
  subst hs
  exact ⟨l, h1, h2, h3⟩
theorem mk_agg {e : TypeId} {ds cs : List D} (ha : isAggT P e = true) (h : ds = (D.agg cs).cells) : mkD P e ds = .agg cs := by subst h; unfold mkD; rw [ha]; rfl
theorem mk_one {e : TypeId} {ds : List D} {x : D} (ha : isAggT P e = false) (h : ds = [x]) : mkD P e ds = x := by subst h; unfold mkD; rw [ha]; rfl
theorem arg_repH {r : Reach} {base : Nat} {t : TypeId} {v : Value} {d : DataW H} {ps : List MemPlace} {h : Hp} {nx : Nat} (hT : dataT P k t = true) (hval : Value.okWide P W r base t v)
    (hd : DataW.Trod enc P W 0 (fun _ => true) true t v d ps) : ∃ ds, RelH P k t ds d ∧ RepV (G0 W) W h nx v (vOf P t ds) := by
  obtain ⟨ds, h1, h2⟩ := arg_rep hT hval hd
  exact ⟨ds, ⟨h1⟩, h2⟩
end
end Go.Bv
namespace Go.Proofs.Ytnmakgfmimagmaa
open Go Go.Bv Go.Cv Go.Md Go.RowKit Go.ChangeShapes Go.WideShapes
theorem wf_u8 {i : Int} (h : (Lit.int .u8 i).wf = true) : 0 ≤ i ∧ i < 256 := by
  simp only [Lit.wf, IntKind.min, IntKind.max, IntKind.signed, IntKind.bits, Bool.and_eq_true] at h
  simp at h
  omega
theorem wf_u32 {i : Int} (h : (Lit.int .u32 i).wf = true) : 0 ≤ i ∧ i < 4294967296 := by
  simp only [Lit.wf, IntKind.min, IntKind.max, IntKind.signed, IntKind.bits, Bool.and_eq_true] at h
  simp at h
  omega
theorem wf_u64 {i : Int} (h : (Lit.int .u64 i).wf = true) : 0 ≤ i ∧ i < 18446744073709551616 := by
  simp only [Lit.wf, IntKind.min, IntKind.max, IntKind.signed, IntKind.bits, Bool.and_eq_true] at h
  simp at h
  omega
theorem wf_i64 {i : Int} (h : (Lit.int .i64 i).wf = true) : (-9223372036854775808) ≤ i ∧ i < 9223372036854775808 := by
  simp only [Lit.wf, IntKind.min, IntKind.max, IntKind.signed, IntKind.bits, Bool.and_eq_true] at h
  simp at h
  omega
structure TOut_R (x : TOut) : Prop where
  Commit : (0 ≤ x.Commit ∧ x.Commit < 18446744073709551616)
  Point_a0 : (0 ≤ x.Point_a0 ∧ x.Point_a0 < 18446744073709551616)
  Point_a1 : (0 ≤ x.Point_a1 ∧ x.Point_a1 < 18446744073709551616)
  Cipher : (x.Cipher.length ≤ 9223372036854775807 ∧ ∀ y ∈ x.Cipher, (0 ≤ y ∧ y < 18446744073709551616))
structure TTx_R (x : TTx) : Prop where
  Anchor : (0 ≤ x.Anchor ∧ x.Anchor < 18446744073709551616)
  Marks : (x.Marks.length ≤ 9223372036854775807 ∧ ∀ y ∈ x.Marks, (0 ≤ y ∧ y < 18446744073709551616))
  Outs : (x.Outs.length ≤ 9223372036854775807 ∧ ∀ y ∈ x.Outs, TOut_R y)
  Deposit : (0 ≤ x.Deposit ∧ x.Deposit < 18446744073709551616)
  Withdraw : (0 ≤ x.Withdraw ∧ x.Withdraw < 18446744073709551616)
  Fee : (0 ≤ x.Fee ∧ x.Fee < 18446744073709551616)
  Account : (0 ≤ x.Account ∧ x.Account < 18446744073709551616)
  Nonce : (0 ≤ x.Nonce ∧ x.Nonce < 18446744073709551616)
  Expiry : ((-9223372036854775808) ≤ x.Expiry ∧ x.Expiry < 9223372036854775808)
  Proof : (x.Proof.length ≤ 9223372036854775807 ∧ ∀ y ∈ x.Proof, (0 ≤ y ∧ y < 256))
structure TBlock_R (x : TBlock) : Prop where
  Parent : (0 ≤ x.Parent ∧ x.Parent < 18446744073709551616)
  Height : ((-9223372036854775808) ≤ x.Height ∧ x.Height < 9223372036854775808)
  Miner : (0 ≤ x.Miner ∧ x.Miner < 18446744073709551616)
  Work : (0 ≤ x.Work ∧ x.Work < 18446744073709551616)
  Nonce : (0 ≤ x.Nonce ∧ x.Nonce < 18446744073709551616)
  Txs : (x.Txs.length ≤ 9223372036854775807 ∧ ∀ y ∈ x.Txs, TTx_R y)
theorem op22 {H : Type} {k : Nat} {ds : List D} {d : DataW H} (h : RelH Try.prog (k + 1) 22 ds d) : ∃ x : Int, ds = [D.int .u64 x] ∧ (0 ≤ x ∧ x < 18446744073709551616) := by
  obtain ⟨i, rfl, _, w⟩ := relH_int (q := .u64) (show Try.prog.underlying 22 = some (.int .u64) by kernel_rfl) h
  exact ⟨i, rfl, wf_u64 w⟩
theorem op3 {H : Type} {k : Nat} {ds : List D} {d : DataW H} (h : RelH Try.prog (k + 1) 3 ds d) : ∃ x : Int, ds = [D.int .i64 x] ∧ ((-9223372036854775808) ≤ x ∧ x < 9223372036854775808) := by
  obtain ⟨i, rfl, _, w⟩ := relH_int (q := .i64) (show Try.prog.underlying 3 = some (.int .i64) by kernel_rfl) h
  exact ⟨i, rfl, wf_i64 w⟩
theorem op30 {H : Type} {k : Nat} {ds : List D} {d : DataW H} (h : RelH Try.prog (k + 2) 30 ds d) : ∃ x : List Int, ds = [D.slice 1 (x.map (D.int .u64))] ∧ (x.length ≤ 9223372036854775807 ∧ ∀ y ∈ x, (0 ≤ y ∧ y < 18446744073709551616)) := by
  obtain ⟨l, rfl, hm, hl⟩ := relH_slice (D.int .u64) (fun y => (0 ≤ y ∧ y < 18446744073709551616)) 1 (show Try.prog.underlying 30 = some (.slice 22) by kernel_rfl) (by kernel_rfl) h (fun x y hh => by
    obtain ⟨a, e, ha⟩ := op22 (k := k + 0) hh
    exact ⟨a, mk_one (by kernel_rfl) e, ha⟩)
  exact ⟨l, rfl, ⟨hm, hl⟩⟩
structure TA2_R (x : TA2) : Prop where
  a0 : (0 ≤ x.a0 ∧ x.a0 < 18446744073709551616)
  a1 : (0 ≤ x.a1 ∧ x.a1 < 18446744073709551616)
theorem op58 {H : Type} {k : Nat} {ds : List D} {d : DataW H} (h : RelH Try.prog (k + 2) 58 ds d) : ∃ x : TA2, ds = (encTA2 x).cells ∧ TA2_R x := by
  obtain ⟨ps, rfl, h1⟩ := relH_array (n := 2) (e := 22) (L := [(22, 0), (22, 1)]) (show Try.prog.underlying 58 = some (.array 2 22) by kernel_rfl) (by kernel_rfl) h
  obtain ⟨_, _, _, _, g0, ⟨_, _, _, _, g1, ⟨rfl, rfl⟩, rfl, rfl⟩, rfl, rfl⟩ := h1
  obtain ⟨a0, rfl, r0⟩ := op22 (k := k + 0) g0
  obtain ⟨a1, rfl, r1⟩ := op22 (k := k + 0) g1
  exact ⟨⟨a0, a1⟩, rfl, ⟨r0, r1⟩⟩
theorem op60 {H : Type} {k : Nat} {ds : List D} {d : DataW H} (h : RelH Try.prog (k + 3) 60 ds d) : ∃ x : TOut, ds = (encTOut x).cells ∧ TOut_R x := by
  obtain ⟨ps, rfl, h1⟩ := relH_struct (L := [(22, 0), (58, 1), (30, 3)]) (Try.underlying60) (by kernel_rfl) h
  obtain ⟨_, _, _, _, g0, ⟨_, _, _, _, g1, ⟨_, _, _, _, g2, ⟨rfl, rfl⟩, rfl, rfl⟩, rfl, rfl⟩, rfl, rfl⟩ := h1
  obtain ⟨a0, rfl, r0⟩ := op22 (k := k + 1) g0
  obtain ⟨a1, rfl, r1⟩ := op58 (k := k + 0) g1
  obtain ⟨a2, rfl, r2⟩ := op30 (k := k + 0) g2
  exact ⟨⟨a0, a1.a0, a1.a1, a2⟩, rfl, ⟨r0, r1.a0, r1.a1, r2⟩⟩
theorem op31 {H : Type} {k : Nat} {ds : List D} {d : DataW H} (h : RelH Try.prog (k + 4) 31 ds d) : ∃ x : List TOut, ds = [D.slice 4 (x.map encTOut)] ∧ (x.length ≤ 9223372036854775807 ∧ ∀ y ∈ x, TOut_R y) := by
  obtain ⟨l, rfl, hm, hl⟩ := relH_slice encTOut (fun y => TOut_R y) 4 (show Try.prog.underlying 31 = some (.slice 60) by kernel_rfl) (by kernel_rfl) h (fun x y hh => by
    obtain ⟨a, e, ha⟩ := op60 (k := k + 0) hh
    exact ⟨a, mk_agg (by kernel_rfl) e, ha⟩)
  exact ⟨l, rfl, ⟨hm, hl⟩⟩
theorem op5 {H : Type} {k : Nat} {ds : List D} {d : DataW H} (h : RelH Try.prog (k + 1) 5 ds d) : ∃ x : Int, ds = [D.int .u8 x] ∧ (0 ≤ x ∧ x < 256) := by
  obtain ⟨i, rfl, _, w⟩ := relH_int (q := .u8) (show Try.prog.underlying 5 = some (.int .u8) by kernel_rfl) h
  exact ⟨i, rfl, wf_u8 w⟩
theorem op32 {H : Type} {k : Nat} {ds : List D} {d : DataW H} (h : RelH Try.prog (k + 2) 32 ds d) : ∃ x : List Int, ds = [D.slice 1 (x.map (D.int .u8))] ∧ (x.length ≤ 9223372036854775807 ∧ ∀ y ∈ x, (0 ≤ y ∧ y < 256)) := by
  obtain ⟨l, rfl, hm, hl⟩ := relH_slice (D.int .u8) (fun y => (0 ≤ y ∧ y < 256)) 1 (show Try.prog.underlying 32 = some (.slice 5) by kernel_rfl) (by kernel_rfl) h (fun x y hh => by
    obtain ⟨a, e, ha⟩ := op5 (k := k + 0) hh
    exact ⟨a, mk_one (by kernel_rfl) e, ha⟩)
  exact ⟨l, rfl, ⟨hm, hl⟩⟩
theorem op34 {H : Type} {k : Nat} {ds : List D} {d : DataW H} (h : RelH Try.prog (k + 5) 34 ds d) : ∃ x : TTx, ds = (encTTx x).cells ∧ TTx_R x := by
  obtain ⟨ps, rfl, h1⟩ := relH_struct (L := [(22, 0), (30, 1), (31, 2), (22, 3), (22, 4), (22, 5), (22, 6), (22, 7), (3, 8), (32, 9)]) (Try.underlying34) (by kernel_rfl) h
  obtain ⟨_, _, _, _, g0, ⟨_, _, _, _, g1, ⟨_, _, _, _, g2, ⟨_, _, _, _, g3, ⟨_, _, _, _, g4, ⟨_, _, _, _, g5, ⟨_, _, _, _, g6, ⟨_, _, _, _, g7, ⟨_, _, _, _, g8, ⟨_, _, _, _, g9, ⟨rfl, rfl⟩, rfl, rfl⟩, rfl, rfl⟩, rfl, rfl⟩, rfl, rfl⟩, rfl, rfl⟩, rfl, rfl⟩, rfl, rfl⟩, rfl, rfl⟩, rfl, rfl⟩, rfl, rfl⟩ := h1
  obtain ⟨a0, rfl, r0⟩ := op22 (k := k + 3) g0
  obtain ⟨a1, rfl, r1⟩ := op30 (k := k + 2) g1
  obtain ⟨a2, rfl, r2⟩ := op31 (k := k + 0) g2
  obtain ⟨a3, rfl, r3⟩ := op22 (k := k + 3) g3
  obtain ⟨a4, rfl, r4⟩ := op22 (k := k + 3) g4
  obtain ⟨a5, rfl, r5⟩ := op22 (k := k + 3) g5
  obtain ⟨a6, rfl, r6⟩ := op22 (k := k + 3) g6
  obtain ⟨a7, rfl, r7⟩ := op22 (k := k + 3) g7
  obtain ⟨a8, rfl, r8⟩ := op3 (k := k + 3) g8
  obtain ⟨a9, rfl, r9⟩ := op32 (k := k + 2) g9
  exact ⟨⟨a0, a1, a2, a3, a4, a5, a6, a7, a8, a9⟩, rfl, ⟨r0, r1, r2, r3, r4, r5, r6, r7, r8, r9⟩⟩
theorem op23 {H : Type} {k : Nat} {ds : List D} {d : DataW H} (h : RelH Try.prog (k + 6) 23 ds d) : ∃ x : List TTx, ds = [D.slice 10 (x.map encTTx)] ∧ (x.length ≤ 9223372036854775807 ∧ ∀ y ∈ x, TTx_R y) := by
  obtain ⟨l, rfl, hm, hl⟩ := relH_slice encTTx (fun y => TTx_R y) 10 (show Try.prog.underlying 23 = some (.slice 34) by kernel_rfl) (by kernel_rfl) h (fun x y hh => by
    obtain ⟨a, e, ha⟩ := op34 (k := k + 0) hh
    exact ⟨a, mk_agg (by kernel_rfl) e, ha⟩)
  exact ⟨l, rfl, ⟨hm, hl⟩⟩
theorem op25 {H : Type} {k : Nat} {ds : List D} {d : DataW H} (h : RelH Try.prog (k + 7) 25 ds d) : ∃ x : TBlock, ds = (encTBlock x).cells ∧ TBlock_R x := by
  obtain ⟨ps, rfl, h1⟩ := relH_struct (L := [(22, 0), (3, 1), (22, 2), (22, 3), (22, 4), (23, 5)]) (Try.underlying25) (by kernel_rfl) h
  obtain ⟨_, _, _, _, g0, ⟨_, _, _, _, g1, ⟨_, _, _, _, g2, ⟨_, _, _, _, g3, ⟨_, _, _, _, g4, ⟨_, _, _, _, g5, ⟨rfl, rfl⟩, rfl, rfl⟩, rfl, rfl⟩, rfl, rfl⟩, rfl, rfl⟩, rfl, rfl⟩, rfl, rfl⟩ := h1
  obtain ⟨a0, rfl, r0⟩ := op22 (k := k + 5) g0
  obtain ⟨a1, rfl, r1⟩ := op3 (k := k + 5) g1
  obtain ⟨a2, rfl, r2⟩ := op22 (k := k + 5) g2
  obtain ⟨a3, rfl, r3⟩ := op22 (k := k + 5) g3
  obtain ⟨a4, rfl, r4⟩ := op22 (k := k + 5) g4
  obtain ⟨a5, rfl, r5⟩ := op23 (k := k + 0) g5
  exact ⟨⟨a0, a1, a2, a3, a4, a5⟩, rfl, ⟨r0, r1, r2, r3, r4, r5⟩⟩
theorem op35 {H : Type} {k : Nat} {ds : List D} {d : DataW H} (h : RelH Try.prog (k + 1) 35 ds d) : ∃ x : Int, ds = [D.int .u32 x] ∧ (0 ≤ x ∧ x < 4294967296) := by
  obtain ⟨i, rfl, _, w⟩ := relH_int (q := .u32) (show Try.prog.underlying 35 = some (.int .u32) by kernel_rfl) h
  exact ⟨i, rfl, wf_u32 w⟩
theorem dt5 : dataT Try.prog 1 5 = true := by kernel_rfl
theorem dt25 : dataT Try.prog 7 25 = true := by kernel_rfl
theorem dt34 : dataT Try.prog 5 34 = true := by kernel_rfl
theorem dt35 : dataT Try.prog 1 35 = true := by kernel_rfl
theorem own : ownKnob Try.prog.godebug = none := by kernel_rfl
theorem laid : laidOutB Try.prog = true := by kernel_rfl
end Go.Proofs.Ytnmakgfmimagmaa
namespace Go.Md
open Go Go.Bv
theorem u64w (n : Int) : IntKind.u64.wrap n = n % 18446744073709551616 := IntKind.wrap_u64 n
theorem u8w (n : Int) : IntKind.u8.wrap n = n % 256 := IntKind.wrap_u8 n
theorem ishr_def (k : IntKind) (a b : Int) : ishr k a b = a / ((2 ^ min b.toNat k.bits : Nat) : Int) := by
  unfold ishr
  rw [show (2 : Int) ^ min b.toNat k.bits = ((2 ^ min b.toNat k.bits : Nat) : Int) from (Int.natCast_pow 2 _).symm, Int.fdiv_eq_ediv_of_nonneg _ (Int.natCast_nonneg _)]
theorem ishl_u64 (a b : Int) : ishl .u64 a b = (a * ((2 ^ min b.toNat 64 : Nat) : Int)) % 18446744073709551616 := by
  unfold ishl
  rw [u64w, show (2 : Int) ^ min b.toNat IntKind.u64.bits = ((2 ^ min b.toNat 64 : Nat) : Int) by rw [show IntKind.u64.bits = 64 from rfl]; exact (Int.natCast_pow 2 _).symm]
theorem bv_of_nat (n : Nat) (h : n < 18446744073709551616) : (BitVec.ofInt 64 (n : Int)).toNat = n := by
  rw [BitVec.toNat_ofInt]
  omega
theorem iand_nat (a b : Nat) (ha : a < 18446744073709551616) (hb : b < 18446744073709551616) : iand .u64 a b = ((a &&& b : Nat) : Int) := by
  unfold iand
  rw [u64w]
  show (((BitVec.ofInt 64 a &&& BitVec.ofInt 64 b).toNat : Nat) : Int) % _ = _
  rw [BitVec.toNat_and, bv_of_nat a ha, bv_of_nat b hb]
  have := Nat.and_le_left (n := a) (m := b)
  omega
theorem ior_nat (a b : Nat) (ha : a < 18446744073709551616) (hb : b < 18446744073709551616) : ior .u64 a b = ((a ||| b : Nat) : Int) := by
  unfold ior
  rw [u64w]
  show (((BitVec.ofInt 64 a ||| BitVec.ofInt 64 b).toNat : Nat) : Int) % _ = _
  rw [BitVec.toNat_or, bv_of_nat a ha, bv_of_nat b hb]
  have := Nat.or_lt_two_pow (x := a) (y := b) (n := 64) (by omega) (by omega)
  omega
theorem iand_mask32 (a : Int) (h : 0 ≤ a ∧ a < 18446744073709551616) : iand .u64 a 4294967295 = a % 4294967296 := by
  obtain ⟨n, rfl⟩ := Int.eq_ofNat_of_zero_le h.1
  have := iand_nat n 4294967295 (by omega) (by omega)
  rw [show ((4294967295 : Nat) : Int) = 4294967295 from rfl] at this
  rw [this, show (4294967295 : Nat) = 2 ^ 32 - 1 from rfl, Nat.and_two_pow_sub_one_eq_mod]
  exact Int.natCast_emod _ _
theorem iand_one (a : Int) (h : 0 ≤ a ∧ a < 18446744073709551616) : iand .u64 a 1 = a % 2 := by
  obtain ⟨n, rfl⟩ := Int.eq_ofNat_of_zero_le h.1
  have := iand_nat n 1 (by omega) (by omega)
  rw [show ((1 : Nat) : Int) = 1 from rfl] at this
  rw [this, Nat.and_one_is_mod]
  exact Int.natCast_emod _ _
theorem ior_add (a c : Nat) (k : Nat) (ha : a < 2 ^ k) (h : a + 2 ^ k * c < 18446744073709551616) : ior .u64 a ((2 ^ k * c : Nat) : Int) = ((a + 2 ^ k * c : Nat) : Int) := by
  rw [ior_nat _ _ (by omega) (by omega), Nat.or_comm, ← Nat.two_pow_add_eq_or_of_lt ha, Nat.add_comm]
theorem ior_add' (a c : Nat) (k : Nat) (ha : a < 2 ^ k) (h : a + 2 ^ k * c < 18446744073709551616) : ior .u64 ((2 ^ k * c : Nat) : Int) a = ((a + 2 ^ k * c : Nat) : Int) := by
  rw [ior_nat _ _ (by omega) (by omega), ← Nat.two_pow_add_eq_or_of_lt ha, Nat.add_comm]
theorem ishr32 (a : Int) : ishr .u64 a 32 = a / 4294967296 := ishr_def _ _ _
theorem ishr16 (a : Int) : ishr .u64 a 16 = a / 65536 := ishr_def _ _ _
theorem ishr8 (a : Int) : ishr .u64 a 8 = a / 256 := ishr_def _ _ _
theorem ishr1 (a : Int) : ishr .u64 a 1 = a / 2 := ishr_def _ _ _
theorem mul64_hi (a b : Int) (ha : 0 ≤ a ∧ a < 18446744073709551616) (hb : 0 ≤ b ∧ b < 18446744073709551616) :
    ((a / 4294967296 * (b / 4294967296) + ((a / 4294967296 * (b % 4294967296) + a % 4294967296 * (b % 4294967296) / 4294967296) / 4294967296)) + ((a / 4294967296 * (b % 4294967296) + a % 4294967296 * (b % 4294967296) / 4294967296) % 4294967296 + a % 4294967296 * (b / 4294967296)) / 4294967296) = a * b / 18446744073709551616 ∧
    a % 4294967296 * (b % 4294967296) < 18446744073709551616 ∧ a / 4294967296 * (b % 4294967296) + a % 4294967296 * (b % 4294967296) / 4294967296 < 18446744073709551616 ∧
    a % 4294967296 * (b / 4294967296) < 18446744073709551616 - 4294967296 ∧ a / 4294967296 * (b / 4294967296) < 18446744065119617026 ∧ 0 ≤ a % 4294967296 * (b % 4294967296) ∧ 0 ≤ a / 4294967296 * (b % 4294967296) ∧ 0 ≤ a % 4294967296 * (b / 4294967296) ∧ 0 ≤ a / 4294967296 * (b / 4294967296) := by
  have h1 : ∀ x y : Int, 0 ≤ x → x ≤ 4294967295 → 0 ≤ y → y ≤ 4294967295 → 0 ≤ x * y ∧ x * y ≤ 18446744065119617025 := by
    intro x y h0 h1 h2 h3
    exact ⟨Int.mul_nonneg h0 h2, by have := Int.mul_le_mul h1 h3 h2 (by omega); omega⟩
  have a1 := h1 (a % 4294967296) (b % 4294967296) (by omega) (by omega) (by omega) (by omega)
  have a2 := h1 (a / 4294967296) (b % 4294967296) (by omega) (by omega) (by omega) (by omega)
  have a3 := h1 (a % 4294967296) (b / 4294967296) (by omega) (by omega) (by omega) (by omega)
  have a4 := h1 (a / 4294967296) (b / 4294967296) (by omega) (by omega) (by omega) (by omega)
  have e : a * b = a / 4294967296 * (b / 4294967296) * 18446744073709551616 + (a / 4294967296 * (b % 4294967296) + a % 4294967296 * (b / 4294967296)) * 4294967296 + a % 4294967296 * (b % 4294967296) := by
    have ea : a = a / 4294967296 * 4294967296 + a % 4294967296 := by omega
    have eb : b = b / 4294967296 * 4294967296 + b % 4294967296 := by omega
    conv => lhs; rw [ea, eb]
    generalize a / 4294967296 = x
    generalize a % 4294967296 = y
    generalize b / 4294967296 = z
    generalize b % 4294967296 = t
    grind
  generalize a % 4294967296 * (b % 4294967296) = p0 at *
  generalize a / 4294967296 * (b % 4294967296) = p1 at *
  generalize a % 4294967296 * (b / 4294967296) = p2 at *
  generalize a / 4294967296 * (b / 4294967296) = p3 at *
  generalize a * b = ab at *
  refine ⟨?_, ?_, ?_, ?_, ?_, ?_, ?_, ?_, ?_⟩ <;> omega
structure Half (U x a b Q : Int) : Prop where
  hU : 0 ≤ U
  hUv : U < a * 4294967296 + b
  hx : 0 ≤ x ∧ x < 4294967296
  ha : 2147483648 ≤ a ∧ a < 4294967296
  hb : 0 ≤ b ∧ b < 4294967296
  hQ : Q = (U * 4294967296 + x) / (a * 4294967296 + b)
theorem Half.q {U x a b Q : Int} (h : Half U x a b Q) : 0 ≤ Q ∧ Q < 4294967296 ∧ Q * (a * 4294967296 + b) ≤ U * 4294967296 + x ∧ U * 4294967296 + x < (Q + 1) * (a * 4294967296 + b) := by
  obtain ⟨h1, h2, h3, h4, h5, h6⟩ := h
  have hv : 0 < a * 4294967296 + b := by omega
  have e := Int.emod_add_mul_ediv (U * 4294967296 + x) (a * 4294967296 + b)
  have l := Int.emod_nonneg (U * 4294967296 + x) (by omega : a * 4294967296 + b ≠ 0)
  have r := Int.emod_lt_of_pos (U * 4294967296 + x) hv
  rw [← h6] at e
  generalize hvv : a * 4294967296 + b = v at *
  have e2 : (Q + 1) * v = Q * v + v := by grind
  have e3 : v * Q = Q * v := by grind
  have q0 : 0 ≤ Q := by
    rw [h6]
    exact Int.ediv_nonneg (by omega) (by omega)
  have q1 : Q < 4294967296 := by
    rw [h6]
    exact Int.ediv_lt_of_lt_mul hv (by omega)
  refine ⟨q0, q1, by omega, by omega⟩
theorem Half.exit {U x a b Q q r : Int} (h : Half U x a b Q) (e : q * a + r = U) (hq : Q ≤ q) (h2 : q * b ≤ r * 4294967296 + x) : q = Q := by
  obtain ⟨q0, q1, q2, q3⟩ := h.q
  have h4 := h.ha
  have : q * (a * 4294967296 + b) ≤ U * 4294967296 + x := by
    have : q * (a * 4294967296 + b) = q * a * 4294967296 + q * b := by grind
    rw [this]
    generalize q * a = qa at *
    omega
  have h5 : q < Q + 1 := by
    have hv : 0 < a * 4294967296 + b := by have := h.hb; omega
    exact Int.lt_of_mul_lt_mul_right (by omega) (Int.le_of_lt hv)
  omega
theorem Half.down {U x a b Q q r : Int} (h : Half U x a b Q) (e : q * a + r = U) (h2 : 4294967296 ≤ q ∨ r * 4294967296 + x < q * b) : Q ≤ q - 1 := by
  obtain ⟨q0, q1, q2, q3⟩ := h.q
  rcases h2 with h2 | h2
  · omega
  · have : U * 4294967296 + x < q * (a * 4294967296 + b) := by
      have : q * (a * 4294967296 + b) = q * a * 4294967296 + q * b := by grind
      rw [this]
      generalize q * a = qa at *
      omega
    have h5 : Q < q := by
      have hv : 0 < a * 4294967296 + b := by have := h.hb; have := h.ha; omega
      exact Int.lt_of_mul_lt_mul_right (a := a * 4294967296 + b) (by omega) (Int.le_of_lt hv)
    omega
theorem Half.small {U x a b Q q r : Int} (h : Half U x a b Q) (e : q * a + r = U) (hr : 4294967296 ≤ r) : q < 4294967296 := by
  have h2 := h.hUv
  have h4 := h.ha
  have h5 := h.hb
  have : q * a < 4294967296 * a := by generalize q * a = qa at *; omega
  exact Int.lt_of_mul_lt_mul_right this (by omega)
theorem Half.done {U x a b Q q r : Int} (h : Half U x a b Q) (e : q * a + r = U) (hq : Q ≤ q) (hr : 4294967296 ≤ r) : q = Q := by
  refine h.exit e hq ?_
  have h1 := h.small e hr
  obtain ⟨q0, _⟩ := h.q
  have h5 := h.hb
  have h6 := h.hx
  have : q * b ≤ 4294967296 * 4294967296 := Int.mul_le_mul (by omega) (by omega) (by omega) (by omega)
  omega
theorem Half.rest {U x a b Q : Int} (h : Half U x a b Q) : (U * 4294967296 + x) - Q * (a * 4294967296 + b) = (U * 4294967296 + x) % (a * 4294967296 + b) ∧ 0 ≤ (U * 4294967296 + x) % (a * 4294967296 + b) ∧ (U * 4294967296 + x) % (a * 4294967296 + b) < a * 4294967296 + b := by
  have hv : 0 < a * 4294967296 + b := by have := h.hb; have := h.ha; omega
  have e := Int.emod_add_mul_ediv (U * 4294967296 + x) (a * 4294967296 + b)
  rw [← h.hQ] at e
  have := Int.mul_comm (a * 4294967296 + b) Q
  exact ⟨by omega, Int.emod_nonneg _ (by omega), Int.emod_lt_of_pos _ hv⟩
theorem two_halves {N y p U un1 un0 Q1 R1 Q0 R0 : Int} (hp : 0 < p) (hy : 0 < y) (hN : N * p = U * 18446744073709551616 + un1 * 4294967296 + un0) (h1 : U * 4294967296 + un1 - Q1 * (y * p) = R1) (h0 : R1 * 4294967296 + un0 - Q0 * (y * p) = R0)
    (hr : 0 ≤ R0 ∧ R0 < y * p) : Q1 * 4294967296 + Q0 = N / y ∧ R0 / p = N % y := by
  have e : N * p = (Q1 * 4294967296 + Q0) * (y * p) + R0 := by
    rw [hN]
    have : (Q1 * 4294967296 + Q0) * (y * p) = Q1 * (y * p) * 4294967296 + Q0 * (y * p) := by grind
    rw [this]
    generalize Q1 * (y * p) = a at *
    generalize Q0 * (y * p) = b at *
    omega
  have e2 : R0 = (N - (Q1 * 4294967296 + Q0) * y) * p := by grind
  have h3 : 0 ≤ N - (Q1 * 4294967296 + Q0) * y := by
    rcases Int.lt_or_le (N - (Q1 * 4294967296 + Q0) * y) 0 with h | h
    · exfalso
      have : (N - (Q1 * 4294967296 + Q0) * y) * p < 0 := Int.mul_neg_of_neg_of_pos h hp
      omega
    · exact h
  have h4 : N - (Q1 * 4294967296 + Q0) * y < y := by
    refine Int.lt_of_mul_lt_mul_right (a := p) ?_ (Int.le_of_lt hp)
    omega
  have e3 : N = (N - (Q1 * 4294967296 + Q0) * y) + y * (Q1 * 4294967296 + Q0) := by grind
  constructor
  · conv => rhs; rw [e3]
    rw [Int.add_mul_ediv_left _ _ (by omega), Int.ediv_eq_zero_of_lt h3 h4]
    omega
  · rw [e2, Int.mul_ediv_cancel _ (by omega)]
    conv => rhs; rw [e3]
    rw [Int.add_mul_emod_self_left, Int.emod_eq_of_lt h3 h4]
end Go.Md
namespace Go.Md
open Go Go.Bv
theorem ix_nat {α : Type} [Inhabited α] (l : List α) (i : Int) (h0 : 0 ≤ i) (h1 : i < (l.length : Int)) : ix l i = l[i.toNat]'(by omega) := by
  have : i.toNat < l.length := by omega
  simp [ix, this]
theorem ix_mem {α : Type} [Inhabited α] (l : List α) (i : Int) (h0 : 0 ≤ i) (h1 : i < (l.length : Int)) : ix l i ∈ l := by
  rw [ix_nat l i h0 h1]; exact List.getElem_mem _
theorem inc (i n : Int) (h0 : 0 ≤ i) (h : i < n) (hn : n ≤ 9223372036854775807) : IntKind.i64.wrap (i + 1) = i + 1 := wrap_i64 _ (by omega) (by omega)
theorem wi (n : Int) (h0 : -9223372036854775808 ≤ n) (h : n ≤ 9223372036854775807) : IntKind.i64.wrap n = n := wrap_i64 n h0 (by omega)
theorem wu (n : Int) (h0 : 0 ≤ n) (h : n ≤ 18446744073709551615) : IntKind.u64.wrap n = n := wrap_u64 n h0 (by omega)
theorem tdiv_nn (a b : Int) (h : 0 ≤ a) : Int.tdiv a b = a / b := Int.tdiv_eq_ediv_of_nonneg h
theorem tmod_nn (a b : Int) (h : 0 ≤ a) : Int.tmod a b = a % b := Int.tmod_eq_emod_of_nonneg h
theorem take_succ_ix {α : Type} [Inhabited α] (l : List α) (i : Int) (h0 : 0 ≤ i) (h1 : i < (l.length : Int)) : l.take (i + 1).toNat = l.take i.toNat ++ [ix l i] := by
  rw [ix_nat l i h0 h1, show (i + 1).toNat = i.toNat + 1 by omega, List.take_succ_eq_append_getElem (by omega)]
theorem drop_ix {α : Type} [Inhabited α] (l : List α) (i : Int) (h0 : 0 ≤ i) (h1 : i < (l.length : Int)) : l.drop i.toNat = ix l i :: l.drop (i + 1).toNat := by
  rw [ix_nat l i h0 h1, show (i + 1).toNat = i.toNat + 1 by omega]
  exact List.drop_eq_getElem_cons (by omega)
theorem rowOver_all {α : Type} (l m : List α) (h : l.length = m.length) : rowOver l m l.length = m := by
  simp [rowOver, h]
theorem emod_pow (a m : Int) : ∀ k : Nat, (a % m) ^ k % m = a ^ k % m
  | 0 => by simp
  | k + 1 => by rw [Int.pow_succ, Int.pow_succ, Int.mul_emod, emod_pow a m k, Int.emod_emod_of_dvd _ (Int.dvd_refl _), ← Int.mul_emod]
abbrev U64 (n : Int) : Prop := 0 ≤ n ∧ n < 18446744073709551616
abbrev By (l : List Int) : Prop := ∀ x ∈ l, 0 ≤ x ∧ x < 256
abbrev Us (l : List Int) : Prop := ∀ x ∈ l, 0 ≤ x ∧ x < 18446744073709551616
def dig : Nat → Int → List Int
  | 0, _ => []
  | k + 1, n => n % 256 :: dig k (n / 256)
def val : List Int → Int
  | [] => 0
  | x :: r => x + 256 * val r
@[simp] theorem dig_length : ∀ (k : Nat) (n : Int), (dig k n).length = k
  | 0, _ => rfl
  | k + 1, n => by simp [dig, dig_length k]
theorem pow256_succ (k : Nat) : (256 : Int) ^ (k + 1) = 256 * 256 ^ k := by rw [Int.pow_succ, Int.mul_comm]
theorem pow256_pos (k : Nat) : (0 : Int) < 256 ^ k := Int.pow_pos (by omega)
theorem dig_snoc : ∀ (k : Nat) (n : Int), dig (k + 1) n = dig k n ++ [n / 256 ^ k % 256]
  | 0, n => by simp [dig]
  | k + 1, n => by
    show n % 256 :: dig (k + 1) (n / 256) = n % 256 :: dig k (n / 256) ++ _
    rw [dig_snoc k (n / 256), pow256_succ, Int.ediv_ediv_of_nonneg (by omega)]
    rfl
theorem dig_by : ∀ (k : Nat) (n : Int), By (dig k n)
  | 0, _ => by intro x hx; cases hx
  | k + 1, n => by
    intro x hx
    rcases List.mem_cons.1 hx with rfl | hx
    · omega
    · exact dig_by k _ x hx
theorem pow256_cast (k : Nat) : (256 : Int) ^ k = ((2 ^ (8 * k) : Nat) : Int) := by rw [Nat.pow_mul, Int.natCast_pow]; rfl
theorem pow256_le {k m : Nat} (h : k ≤ m) : (256 : Int) ^ k ≤ 256 ^ m := by
  rw [pow256_cast, pow256_cast]
  exact Int.ofNat_le.2 (Nat.pow_le_pow_right (by omega) (by omega))
theorem val_bound : ∀ (l : List Int), By l → 0 ≤ val l ∧ val l < 256 ^ l.length
  | [], _ => by simp [val]
  | x :: r, h => by
    have h1 := val_bound r (fun y hy => h y (by simp [hy]))
    have h2 := h x (by simp)
    rw [List.length_cons, pow256_succ]
    simp only [val]
    omega
theorem val_snoc : ∀ (l : List Int) (x : Int), val (l ++ [x]) = val l + 256 ^ l.length * x
  | [], x => by simp [val]
  | y :: r, x => by
    simp only [List.cons_append, val, val_snoc r x, List.length_cons, pow256_succ]
    grind
theorem val8 (l : List Int) (h : By l) (hl : l.length ≤ 8) : U64 (val l) := by
  have h1 := val_bound l h
  have : (256 : Int) ^ l.length ≤ 256 ^ 8 := pow256_le hl
  exact ⟨h1.1, by omega⟩
theorem ior_val (l : List Int) (x : Int) (hl : By l) (h8 : l.length < 8) (hx : 0 ≤ x ∧ x < 256) : ior .u64 (val l) (ishl .u64 x (8 * (l.length : Int))) = val (l ++ [x]) := by
  have h1 := val_bound l hl
  rw [val_snoc, ishl_u64, show min (8 * (l.length : Int)).toNat 64 = 8 * l.length by omega, ← pow256_cast]
  have h2 : x * 256 ^ l.length + 256 ^ l.length ≤ 256 * 256 ^ l.length := by
    have := pow256_pos l.length
    have : (x + 1) * 256 ^ l.length ≤ 256 * 256 ^ l.length := Int.mul_le_mul_of_nonneg_right (by omega) (by omega)
    grind
  have h3 : (256 : Int) * 256 ^ l.length ≤ 256 ^ 8 := by rw [← pow256_succ]; exact pow256_le (by omega)
  have h4 : 0 ≤ x * 256 ^ l.length := Int.mul_nonneg hx.1 (Int.le_of_lt (pow256_pos _))
  rw [Int.emod_eq_of_lt h4 (by omega)]
  obtain ⟨a, ha⟩ := Int.eq_ofNat_of_zero_le h1.1
  obtain ⟨c, hc⟩ := Int.eq_ofNat_of_zero_le hx.1
  have key := ior_add a c (8 * l.length)
  rw [pow256_cast] at h1 h2 h3 h4 ⊢
  generalize 2 ^ (8 * l.length) = P at *
  rw [ha] at h1
  rw [hc] at h2 h4
  have e : (c : Int) * (P : Int) = ((P * c : Nat) : Int) := by rw [Nat.mul_comm]; exact (Int.natCast_mul _ _).symm
  have e' : (P : Int) * (c : Int) = ((P * c : Nat) : Int) := (Int.natCast_mul _ _).symm
  rw [e] at h2 h4
  rw [ha, hc, e, e']
  generalize P * c = R at *
  rw [key (by omega) (by omega)]
  exact Int.natCast_add _ _
def len4 (n : Int) : Int := if n < 0 ∨ 4294967295 < n then 0 else n
theorem len4_in {n : Int} (h : 0 ≤ n ∧ n ≤ 4294967295) : len4 n = n := if_neg (by omega)
def encL (l : List Int) : List Int := dig 4 (len4 l.length) ++ l.flatMap (dig 8)
def encB (l : List Int) : List Int := dig 4 (len4 l.length) ++ l
theorem flat8_length (l : List Int) : (l.flatMap (dig 8)).length = 8 * l.length := by
  induction l with
  | nil => rfl
  | cons x r ih => rw [List.flatMap_cons, List.length_append, ih, dig_length, List.length_cons]; omega
@[simp] theorem encL_length (l : List Int) : (encL l).length = 4 + 8 * l.length := by rw [encL, List.length_append, flat8_length, dig_length]
@[simp] theorem encB_length (l : List Int) : (encB l).length = 4 + l.length := by simp [encB]
theorem By.append {a b : List Int} (ha : By a) (hb : By b) : By (a ++ b) := fun x hx => (List.mem_append.1 hx).elim (ha x) (hb x)
theorem flat8_by (l : List Int) : By (l.flatMap (dig 8)) := fun x hx => by
  obtain ⟨y, _, hy⟩ := List.mem_flatMap.1 hx
  exact dig_by 8 y x hy
theorem encL_by (l : List Int) : By (encL l) := (dig_by _ _).append (flat8_by l)
theorem encB_by {l : List Int} (h : By l) : By (encB l) := (dig_by _ _).append h
theorem By.take {l : List Int} (h : By l) (n : Nat) : By (l.take n) := fun x hx => h x (List.mem_of_mem_take hx)
theorem By.drop {l : List Int} (h : By l) (n : Nat) : By (l.drop n) := fun x hx => h x (List.mem_of_mem_drop hx)
theorem By.us {l : List Int} (h : By l) : Us l := fun x hx => by have := h x hx; omega
def packN : Nat → List Int → List Int
  | 0, _ => []
  | n + 1, l => match l with
    | [] => []
    | x :: r => val ((x :: r).take 7) :: packN n ((x :: r).drop 7)
def packS (l : List Int) : List Int := (l.length : Int) :: packN l.length l
theorem packN_fuel : ∀ (n m : Nat) (l : List Int), l.length ≤ n → l.length ≤ m → packN n l = packN m l
  | 0, 0, _, _, _ => rfl
  | 0, m + 1, [], _, _ => rfl
  | n + 1, 0, [], _, _ => rfl
  | n + 1, m + 1, [], _, _ => rfl
  | 0, _, _ :: _, h, _ => by simp at h
  | n + 1, 0, _ :: _, _, h => by simp at h
  | n + 1, m + 1, x :: r, h, h' => by
    simp only [packN]
    rw [packN_fuel n m _ (by simp at h ⊢; omega) (by simp at h' ⊢; omega)]
theorem packN_step (n : Nat) (l : List Int) (h : l.length ≤ n) (h0 : l ≠ []) : packN n l = val (l.take 7) :: packN n (l.drop 7) := by
  cases l with
  | nil => exact absurd rfl h0
  | cons x r =>
    cases n with
    | zero => simp at h
    | succ n =>
      show val ((x :: r).take 7) :: packN n ((x :: r).drop 7) = _
      rw [packN_fuel n (n + 1) _ (by simp at h ⊢; omega) (by simp at h ⊢; omega)]
theorem packN_us : ∀ (n : Nat) (l : List Int), By l → Us (packN n l)
  | 0, _, _ => by intro x hx; cases hx
  | n + 1, [], _ => by intro x hx; cases hx
  | n + 1, x :: r, h => by
    intro y hy
    rcases List.mem_cons.1 hy with rfl | hy
    · exact val8 _ (h.take 7) (by simp; omega)
    · exact packN_us n _ (h.drop 7) y hy
theorem packN_length : ∀ (n : Nat) (l : List Int), (packN n l).length ≤ n
  | 0, _ => by simp [packN]
  | n + 1, [] => by simp [packN]
  | n + 1, x :: r => by simp only [packN, List.length_cons]; have := packN_length n ((x :: r).drop 7); omega
end Go.Md
namespace Go.Md
open Go Go.Bv
def len64 (x : Int) : Int := if x = 0 then 0 else (Nat.log2 x.toNat + 1 : Nat)
theorem len64_shift (x : Int) (k : Nat) (h : ((2 ^ k : Nat) : Int) ≤ x) : len64 (x / ((2 ^ k : Nat) : Int)) + k = len64 x := by
  obtain ⟨n, rfl⟩ := Int.eq_ofNat_of_zero_le (by have := Nat.two_pow_pos k; omega : 0 ≤ x)
  have hp : 0 < 2 ^ k := Nat.two_pow_pos k
  have hn : 2 ^ k ≤ n := by omega
  have e : ((n : Int) / ((2 ^ k : Nat) : Int)) = ((n / 2 ^ k : Nat) : Int) := (Int.natCast_ediv _ _).symm
  have h1 : 0 < n / 2 ^ k := Nat.div_pos hn hp
  unfold len64
  rw [e, if_neg (by omega), if_neg (by omega), Int.toNat_natCast, Int.toNat_natCast]
  have : Nat.log2 n = Nat.log2 (n / 2 ^ k) + k := by
    rw [Nat.log2_eq_iff (by omega)]
    have a := Nat.log2_self_le (n := n / 2 ^ k) (by omega)
    have b := Nat.lt_log2_self (n := n / 2 ^ k)
    rw [Nat.le_div_iff_mul_le hp] at a
    rw [Nat.div_lt_iff_lt_mul hp] at b
    constructor
    · rw [Nat.pow_add]; exact a
    · rw [show Nat.log2 (n / 2 ^ k) + k + 1 = Nat.log2 (n / 2 ^ k) + 1 + k by omega, Nat.pow_add]; exact b
  omega
theorem len64_spec (y : Int) (h : 0 < y ∧ y < 18446744073709551616) : ∃ s : Nat, 64 - len64 y = (s : Int) ∧ s ≤ 63 ∧ 9223372036854775808 ≤ y * ((2 ^ s : Nat) : Int) ∧ y * ((2 ^ s : Nat) : Int) < 18446744073709551616 := by
  obtain ⟨n, rfl⟩ := Int.eq_ofNat_of_zero_le (by omega : 0 ≤ y)
  have l : Nat.log2 n < 64 := (Nat.log2_lt (by omega)).2 (by omega)
  have a := Nat.log2_self_le (n := n) (by omega)
  have b := Nat.lt_log2_self (n := n)
  refine ⟨63 - Nat.log2 n, ?_, by omega, ?_, ?_⟩
  · unfold len64
    rw [if_neg (by omega), Int.toNat_natCast]
    omega
  · have : 2 ^ 63 ≤ n * 2 ^ (63 - Nat.log2 n) := by
      rw [show (63 : Nat) = Nat.log2 n + (63 - Nat.log2 n) by omega, Nat.pow_add, show Nat.log2 n + (63 - Nat.log2 n) - Nat.log2 n = 63 - Nat.log2 n by omega]
      exact Nat.mul_le_mul_right _ a
    rw [← Int.natCast_mul]
    generalize n * 2 ^ (63 - Nat.log2 n) = m at *
    omega
  · have : n * 2 ^ (63 - Nat.log2 n) < 2 ^ 64 := by
      rw [show (64 : Nat) = Nat.log2 n + 1 + (63 - Nat.log2 n) by omega, Nat.pow_add]
      exact Nat.mul_lt_mul_of_pos_right b (Nat.two_pow_pos _)
    rw [← Int.natCast_mul]
    generalize n * 2 ^ (63 - Nat.log2 n) = m at *
    omega
def tab8 : ByteArray := ⟨#[0, 1, 2, 2, 3, 3, 3, 3, 4, 4, 4, 4, 4, 4, 4, 4, 5, 5, 5, 5, 5, 5, 5, 5, 5, 5, 5, 5, 5, 5, 5, 5, 6, 6, 6, 6, 6, 6, 6, 6, 6, 6, 6, 6, 6, 6, 6, 6, 6, 6, 6, 6, 6, 6, 6, 6, 6, 6, 6, 6, 6, 6, 6, 6, 7, 7, 7, 7, 7, 7, 7, 7, 7, 7, 7, 7, 7, 7, 7, 7, 7, 7, 7, 7, 7, 7, 7, 7, 7, 7, 7, 7, 7, 7, 7, 7, 7, 7, 7, 7, 7, 7, 7, 7, 7, 7, 7, 7, 7, 7, 7, 7, 7, 7, 7, 7, 7, 7, 7, 7, 7, 7, 7, 7, 7, 7, 7, 7, 8, 8, 8, 8, 8, 8, 8, 8, 8, 8, 8, 8, 8, 8, 8, 8, 8, 8, 8, 8, 8, 8, 8, 8, 8, 8, 8, 8, 8, 8, 8, 8, 8, 8, 8, 8, 8, 8, 8, 8, 8, 8, 8, 8, 8, 8, 8, 8, 8, 8, 8, 8, 8, 8, 8, 8, 8, 8, 8, 8, 8, 8, 8, 8, 8, 8, 8, 8, 8, 8, 8, 8, 8, 8, 8, 8, 8, 8, 8, 8, 8, 8, 8, 8, 8, 8, 8, 8, 8, 8, 8, 8, 8, 8, 8, 8, 8, 8, 8, 8, 8, 8, 8, 8, 8, 8, 8, 8, 8, 8, 8, 8, 8, 8, 8, 8, 8, 8, 8, 8, 8, 8, 8, 8, 8, 8, 8, 8]⟩
theorem tab8_all : ∀ b : Nat, b < 256 → Cv.byteAt tab8 (b : Int) = len64 (b : Int) := by decide +kernel
theorem tab8_len (x : Int) (h : 0 ≤ x ∧ x < 256) : Cv.byteAt tab8 x = len64 x := by
  obtain ⟨n, rfl⟩ := Int.eq_ofNat_of_zero_le h.1
  exact tab8_all n (by omega)
theorem len64_small (x : Int) (h : 0 ≤ x ∧ x < 256) : 0 ≤ len64 x ∧ len64 x ≤ 8 := by
  rw [← tab8_len x h]
  obtain ⟨n, rfl⟩ := Int.eq_ofNat_of_zero_le h.1
  have : ∀ b : Nat, b < 256 → 0 ≤ Cv.byteAt tab8 (b : Int) ∧ Cv.byteAt tab8 (b : Int) ≤ 8 := by decide +kernel
  exact this n (by omega)
theorem tab8_size : tab8.size = 256 := by decide +kernel
end Go.Md
namespace Go.Proofs.Ytnmakgfmimagmaa
open Go Go.Bv Go.Cv Go.Md Go.RowKit
def rc (r i : Int) : Int := (3 * r + i + 1) * 11400714819323198485 % 18446744073709551616 % 18446744069414584321
def mixS (s : TA3) : TA3 := ⟨(s.a0 + ((s.a0 + s.a1) % 18446744069414584321 + s.a2) % 18446744069414584321) % 18446744069414584321, (s.a1 + ((s.a0 + s.a1) % 18446744069414584321 + s.a2) % 18446744069414584321) % 18446744069414584321, (s.a2 + ((s.a0 + s.a1) % 18446744069414584321 + s.a2) % 18446744069414584321) % 18446744069414584321⟩
def pw (a e : Int) : Int := a ^ e.toNat % 18446744069414584321
def rnd (s : TA3) (r : Int) : TA3 := mixS ⟨pw ((s.a0 + rc r 0) % 18446744069414584321) 7, pw ((s.a1 + rc r 1) % 18446744069414584321) 7, pw ((s.a2 + rc r 2) % 18446744069414584321) 7⟩
def rnds : Nat → TA3 → TA3
  | 0, s => s
  | n + 1, s => rnd (rnds n s) n
def permS (s : TA3) : TA3 := rnds 8 s
def absL : List Int → TA3 → TA3
  | [], s => s
  | [x], s => permS ⟨(s.a0 + x) % 18446744069414584321, s.a1, s.a2⟩
  | x :: y :: r, s => absL r (permS ⟨(s.a0 + x) % 18446744069414584321, (s.a1 + y) % 18446744069414584321, s.a2⟩)
def absI (label : Int) (l : List Int) : TA3 := ⟨0, 0, (label * 65536 % 18446744069414584321 + (l.length : Int)) % 18446744069414584321⟩
def absS (label : Int) (l : List Int) : TA3 := if l = [] then permS (absI label l) else absL l (absI label l)
def hashS (label : Int) (l : List Int) : Int := (absS label l).a0
def hashB (label : Int) (b : List Int) : Int := hashS label (packS b)
def S3 (s : TA3) : Prop := U64 s.a0 ∧ U64 s.a1 ∧ U64 s.a2
theorem S3m {a b c : Int} (ha : U64 a) (hb : U64 b) (hc : U64 c) : S3 ⟨a, b, c⟩ := ⟨ha, hb, hc⟩
end Go.Proofs.Ytnmakgfmimagmaa
namespace Go.Proofs.Ytnmakgfmimagmaa
open Go Go.Bv Go.Cv Go.Md Go.RowKit
def idxI (l : List Int) (v : Int) : Int := if v ∈ l then (l.idxOf v : Int) else -1
def vMarks (l : List Int) : Bool := decide (l.length ≤ 4) && l.all (fun x => decide (x < 18446744069414584321)) && decide l.Nodup
def vPoint (a b : Int) : Bool := decide (a < 18446744069414584321) && (decide (b < 18446744069414584321) && (a != 0 || b != 0))
def vOut (x : TOut) : Bool := decide (x.Commit < 18446744069414584321) && vPoint x.Point_a0 x.Point_a1 && decide (x.Cipher.length = 3) && x.Cipher.all (fun n => decide (n < 18446744069414584321))
def vOuts (l : List TOut) : Bool := decide (l.length ≤ 4) && l.all vOut
def vAmounts (t : TTx) : Bool := decide (t.Deposit ≤ 4294967295) && decide (t.Withdraw ≤ 4294967295) && decide (t.Fee ≤ 4294967295) && decide (t.Account < 18446744069414584321) && decide (t.Nonce < 18446744069414584321) &&
  (if 0 < t.Deposit then t.Withdraw == 0 else !t.Marks.isEmpty && t.Nonce == 0 && (decide (0 < t.Withdraw) || t.Account == 0))
def vRest (t : TTx) : Bool := decide (t.Anchor < 18446744069414584321) && decide (0 ≤ t.Expiry) && decide (t.Expiry ≤ 1048576)
def validE (t : TTx) : Int := if vMarks t.Marks && vOuts t.Outs && vAmounts t && vRest t then (if t.Proof.length ≤ 1048576 then 0 else 3) else 1
theorem vAmounts_iff (t : TTx) : vAmounts t = true ↔ t.Deposit ≤ 4294967295 ∧ t.Withdraw ≤ 4294967295 ∧ t.Fee ≤ 4294967295 ∧ t.Account < 18446744069414584321 ∧ t.Nonce < 18446744069414584321 ∧ (0 < t.Deposit → t.Withdraw = 0) ∧ (¬ 0 < t.Deposit → t.Marks ≠ [] ∧ t.Nonce = 0 ∧ (0 < t.Withdraw ∨ t.Account = 0)) := by
  unfold vAmounts
  by_cases h : 0 < t.Deposit
  · simp [h, and_assoc]
  · simp [h, and_assoc]
structure OR (x : TOut) : Prop where
  c : U64 x.Commit
  p0 : U64 x.Point_a0
  p1 : U64 x.Point_a1
  ci : Us x.Cipher
structure TR (t : TTx) : Prop where
  a : U64 t.Anchor
  m : Us t.Marks
  o : ∀ x ∈ t.Outs, OR x
  d : U64 t.Deposit
  w : U64 t.Withdraw
  f : U64 t.Fee
  ac : U64 t.Account
  n : U64 t.Nonce
  e : -9223372036854775808 ≤ t.Expiry ∧ t.Expiry ≤ 9223372036854775807
  p : By t.Proof
def encO (x : TOut) : List Int := dig 8 x.Commit ++ dig 8 x.Point_a0 ++ dig 8 x.Point_a1 ++ encL x.Cipher
def encT (t : TTx) (p : List Int) : List Int := dig 8 t.Anchor ++ encL t.Marks ++ dig 4 (len4 t.Outs.length) ++ t.Outs.flatMap encO ++ dig 8 t.Deposit ++ dig 8 t.Withdraw ++ dig 8 t.Fee ++ dig 8 t.Account ++ dig 8 t.Nonce ++ dig 4 (len4 t.Expiry) ++ encB p
def weightS (t : TTx) : Int := if validE t = 0 then (encT t t.Proof).length else 0
def idS (t : TTx) : Int := if validE t = 0 then hashB 14 (encT t t.Proof) else 0
def smallB (t : TTx) (p : Int) : Bool := decide (t.Marks.length ≤ 10) && decide (t.Outs.length ≤ 10) && t.Outs.all (fun x => decide (x.Cipher.length ≤ 10)) && decide ((t.Proof.length : Int) ≤ p)
structure TL (t : TTx) : Prop where
  m : t.Marks.length ≤ 4294967295
  o : t.Outs.length ≤ 4294967295
  c : ∀ x ∈ t.Outs, x.Cipher.length ≤ 4294967295
  p : t.Proof.length ≤ 4294967295
structure VO (x : TOut) : Prop where
  c : x.Commit < 18446744069414584321
  p : vPoint x.Point_a0 x.Point_a1 = true
  l : x.Cipher.length = 3
  ci : ∀ n ∈ x.Cipher, n < 18446744069414584321
theorem vOut_iff (x : TOut) : vOut x = true ↔ VO x := by
  unfold vOut
  simp only [Bool.and_eq_true, decide_eq_true_eq, List.all_eq_true]
  exact ⟨fun h => ⟨h.1.1.1, h.1.1.2, h.1.2, h.2⟩, fun h => ⟨⟨⟨h.c, h.p⟩, h.l⟩, h.ci⟩⟩
structure VT (t : TTx) : Prop where
  ml : t.Marks.length ≤ 4
  m : ∀ x ∈ t.Marks, x < 18446744069414584321
  mn : t.Marks.Nodup
  ol : t.Outs.length ≤ 4
  o : ∀ x ∈ t.Outs, VO x
  am : vAmounts t = true
  re : vRest t = true
  pl : t.Proof.length ≤ 1048576
theorem validE_zero (t : TTx) : validE t = 0 ↔ VT t := by
  unfold validE
  constructor
  · intro h
    split at h
    · rename_i h1
      split at h
      · rename_i h2
        simp only [Bool.and_eq_true, vMarks, vOuts, decide_eq_true_eq, List.all_eq_true] at h1
        exact ⟨h1.1.1.1.1.1, h1.1.1.1.1.2, h1.1.1.1.2, h1.1.1.2.1, fun x hx => (vOut_iff x).1 (h1.1.1.2.2 x hx), h1.1.2, h1.2, h2⟩
      · simp at h
    · simp at h
  · intro h
    have : (vMarks t.Marks && vOuts t.Outs && vAmounts t && vRest t) = true := by
      simp only [Bool.and_eq_true, vMarks, vOuts, decide_eq_true_eq, List.all_eq_true]
      exact ⟨⟨⟨⟨⟨h.ml, h.m⟩, h.mn⟩, h.ol, fun x hx => (vOut_iff x).2 (h.o x hx)⟩, h.am⟩, h.re⟩
    rw [if_pos this, if_pos h.pl]
theorem VT.tl {t : TTx} (h : VT t) : TL t := ⟨by have := h.ml; omega, by have := h.ol; omega, fun x hx => by have := (h.o x hx).l; omega, by have := h.pl; omega⟩
theorem encO_by {x : TOut} : By (encO x) := ((((dig_by _ _).append (dig_by _ _)).append (dig_by _ _)).append (encL_by _))
theorem encOs_by (l : List TOut) : By (l.flatMap encO) := fun x hx => by
  obtain ⟨y, _, hy⟩ := List.mem_flatMap.1 hx
  exact encO_by x hy
theorem encT_by {t : TTx} {p : List Int} (h : By p) : By (encT t p) :=
  ((((((((((dig_by _ _).append (encL_by _)).append (dig_by _ _)).append (encOs_by _)).append (dig_by _ _)).append (dig_by _ _)).append (dig_by _ _)).append (dig_by _ _)).append (dig_by _ _)).append (dig_by _ _)).append (encB_by h)
theorem encO_length (x : TOut) : (encO x).length = 28 + 8 * x.Cipher.length := by simp [encO]; omega
theorem encOs_length : ∀ (l : List TOut) (k : Nat), (∀ x ∈ l, x.Cipher.length ≤ k) → (l.flatMap encO).length ≤ (28 + 8 * k) * l.length
  | [], _, _ => by simp
  | x :: r, k, h => by
    have h1 := encOs_length r k (fun y hy => h y (by simp [hy]))
    have h2 := h x (by simp)
    rw [List.flatMap_cons, List.length_append, encO_length, List.length_cons, Nat.mul_add]
    omega
theorem encT_length (t : TTx) (p : List Int) : (encT t p).length = 64 + 8 * t.Marks.length + (t.Outs.flatMap encO).length + p.length := by simp only [encT, List.length_append, dig_length, encL_length, encB_length]; omega
theorem VT.enc_len {t : TTx} (h : VT t) (p : List Int) : (encT t p).length ≤ 304 + p.length := by
  have h1 := h.ml
  have h2 := h.ol
  have h3 := encOs_length t.Outs 3 (fun x hx => by have := (h.o x hx).l; omega)
  rw [encT_length]
  omega
theorem permS_range (s : TA3) : S3 (permS s) := by
  show S3 (rnd _ _)
  unfold rnd mixS S3
  dsimp only
  omega
theorem absL_range : ∀ (l : List Int) (s : TA3), S3 s → S3 (absL l s)
  | [], _, h => h
  | [_], _, _ => permS_range _
  | _ :: _ :: r, _, _ => absL_range r _ (permS_range _)
theorem hashS_u64 (label : Int) (l : List Int) : U64 (hashS label l) := by
  unfold hashS absS
  split
  · exact (permS_range _).1
  · rename_i h
    match l, h with
    | [_], _ => exact (permS_range _).1
    | _ :: _ :: r, _ => exact (absL_range r _ (permS_range _)).1
theorem small_tl {t : TTx} {p : Int} (h : smallB t p = true) (hp : p ≤ 1048576 := by omega) : TL t := by
  unfold smallB at h
  simp only [Bool.and_eq_true, decide_eq_true_eq, List.all_eq_true] at h
  exact ⟨by omega, by omega, fun x hx => by have := h.1.2 x hx; omega, by omega⟩
theorem small_le {t : TTx} {p : Int} (h : smallB t p = true) : t.Marks.length ≤ 10 ∧ t.Outs.length ≤ 10 ∧ (∀ x ∈ t.Outs, x.Cipher.length ≤ 10) ∧ (t.Proof.length : Int) ≤ p := by
  unfold smallB at h
  simp only [Bool.and_eq_true, decide_eq_true_eq, List.all_eq_true] at h
  exact ⟨h.1.1.1, h.1.1.2, h.1.2, h.2⟩
end Go.Proofs.Ytnmakgfmimagmaa
namespace Go.Proofs.Ytnmakgfmimagmaa
open Go Go.Bv Go.Cv Go.Md Go.RowKit
structure RD where
  n : Int
  ok : Bool
  pos : Int
  fail : Bool
structure RL where
  l : List Int
  pos : Int
  fail : Bool
structure RdOk (b : List Int) (pos : Int) : Prop where
  by_ : By b
  len : b.length ≤ 137438953472
  pos0 : 0 ≤ pos
  pos1 : pos ≤ b.length
def rdD (b : List Int) (pos : Int) (f : Bool) (size : Int) : RD :=
  if f = true ∨ (b.length : Int) - pos < size then ⟨0, false, pos, true⟩ else ⟨val ((b.drop pos.toNat).take size.toNat), true, pos + size, false⟩
def rdI (b : List Int) (pos : Int) (f : Bool) (m : Int) : RD :=
  if (rdD b pos f 4).ok = false ∨ m < (rdD b pos f 4).n then ⟨0, false, (rdD b pos f 4).pos, true⟩ else rdD b pos f 4
def rdB (b : List Int) (pos : Int) (f : Bool) (m : Int) : RL :=
  if (rdI b pos f m).fail = true ∨ (b.length : Int) - (rdI b pos f m).pos < (rdI b pos f m).n then ⟨[], (rdI b pos f m).pos, true⟩ else ⟨(b.take ((rdI b pos f m).pos + (rdI b pos f m).n).toNat).drop (rdI b pos f m).pos.toNat, (rdI b pos f m).pos + (rdI b pos f m).n, false⟩
end Go.Proofs.Ytnmakgfmimagmaa
namespace Go.Proofs.Ytnmakgfmimagmaa
open Go Go.Bv Go.Cv Go.Md Go.RowKit
def nums : Nat → List Int → List Int
  | 0, _ => []
  | k + 1, b => val (b.take 8) :: nums k (b.drop 8)
@[simp] theorem nums_length : ∀ (k : Nat) (b : List Int), (nums k b).length = k
  | 0, _ => rfl
  | k + 1, b => by simp [nums, nums_length k]
section
variable {b : List Int} {pos m p : Int} {f : Bool}
end
end Go.Proofs.Ytnmakgfmimagmaa
namespace Go.Proofs.Ytnmakgfmimagmaa
open Go Go.Bv Go.Cv Go.Md Go.RowKit
structure Enc (t : TTx) (b : List Int) : Prop where
  r : TR t
  v : VT t
  e : encT t t.Proof = b
open Classical in
theorem Enc.us {t : TTx} {b : List Int} (h : Enc t b) : t.Anchor ≤ 18446744069414584320 ∧ t.Deposit ≤ 4294967295 ∧ t.Withdraw ≤ 4294967295 ∧ t.Fee ≤ 4294967295 ∧ t.Account ≤ 18446744069414584320 ∧ t.Nonce ≤ 18446744069414584320 ∧ 0 ≤ t.Expiry ∧ t.Expiry ≤ 1048576 := by
  have h1 := (vAmounts_iff t).1 h.v.am
  have h2 := h.v.re
  unfold vRest at h2
  simp only [Bool.and_eq_true, decide_eq_true_eq] at h2
  omega
theorem VO.us {x : TOut} (h : VO x) : x.Commit ≤ 18446744069414584320 ∧ x.Point_a0 ≤ 18446744069414584320 ∧ x.Point_a1 ≤ 18446744069414584320 := by
  have h1 := h.c
  have h2 := h.p
  unfold vPoint at h2
  simp only [Bool.and_eq_true, decide_eq_true_eq] at h2
  omega
structure TD (t : TTx) : Prop where
  r : TR t
  l : TL t
  o : t.Outs.length ≤ 1048576
  c : ∀ x ∈ t.Outs, x.Cipher.length ≤ 1024
def sameT (a b : TTx) : Bool := decide (a.Outs.length = b.Outs.length) && a.Expiry == b.Expiry && decide (a.Outs.map (·.Cipher.length) = b.Outs.map (·.Cipher.length)) && decide (encT a a.Proof = encT b b.Proof)
@[simp] theorem sameT_refl (a : TTx) : sameT a a = true := by simp [sameT]
structure TK where
  n : Int
  r : List Int
  ok : Bool
structure TKL where
  l : List Int
  r : List Int
  ok : Bool
section
variable {b r : List Int} {n m : Int}
end
end Go.Proofs.Ytnmakgfmimagmaa
namespace Go.Proofs.Ytnmakgfmimagmaa
open Go Go.Bv Go.Cv Go.Md Go.RowKit
def sumW (l : List TTx) : Int := (l.map weightS).sum
theorem sumW_add (l : List TTx) (x : TTx) : sumW (l ++ [x]) = sumW l + weightS x := by simp [sumW]
theorem sumW_rep (x : TTx) : ∀ n : Nat, sumW (List.replicate n x) = n * weightS x
  | 0 => by simp [sumW]
  | n + 1 => by
    rw [List.replicate_succ', sumW_add, sumW_rep x n, show ((n + 1 : Nat) : Int) = (n : Int) + 1 by omega, Int.add_mul, Int.one_mul]
theorem weightS_bd {t : TTx} (h : validE t = 0) : 0 ≤ weightS t ∧ weightS t ≤ 1048880 := by
  have v := (validE_zero t).1 h
  have := v.enc_len t.Proof
  have := v.pl
  unfold weightS
  rw [if_pos h]
  omega
theorem sumW_bd : ∀ (l : List TTx), (∀ x ∈ l, validE x = 0) → 0 ≤ sumW l ∧ sumW l ≤ 1048880 * l.length
  | [], _ => by simp [sumW]
  | x :: l, h => by
    have h1 := sumW_bd l (fun y hy => h y (by simp [hy]))
    have h2 := weightS_bd (h x (by simp))
    have e : sumW (x :: l) = weightS x + sumW l := by simp [sumW]
    rw [e, List.length_cons]
    omega
structure BR (b : TBlock) : Prop where
  p : U64 b.Parent
  m : U64 b.Miner
  w : U64 b.Work
  n : U64 b.Nonce
  h : -9223372036854775808 ≤ b.Height ∧ b.Height ≤ 9223372036854775807
  t : ∀ x ∈ b.Txs, TR x
structure VB0 (b : TBlock) : Prop where
  h0 : 1 ≤ b.Height
  h1 : b.Height ≤ 1048576
  w0 : 1 ≤ b.Work
  w1 : b.Work ≤ 65536
  p : b.Parent < 18446744069414584321
  m : b.Miner < 18446744069414584321
  l : b.Txs.length ≤ 64
def vHead (b : TBlock) : Bool := decide (1 ≤ b.Height) && decide (b.Height ≤ 1048576) && decide (1 ≤ b.Work) && decide (b.Work ≤ 65536) && decide (b.Parent < 18446744069414584321) && decide (b.Miner < 18446744069414584321) && decide (b.Txs.length ≤ 64)
theorem vHead_iff (b : TBlock) : vHead b = true ↔ VB0 b := by
  unfold vHead
  simp only [Bool.and_eq_true, decide_eq_true_eq]
  constructor
  · rintro ⟨⟨⟨⟨⟨⟨a, b⟩, c⟩, d⟩, e⟩, f⟩, g⟩
    exact ⟨a, b, c, d, e, f, g⟩
  · rintro ⟨a, b, c, d, e, f, g⟩
    exact ⟨⟨⟨⟨⟨⟨a, b⟩, c⟩, d⟩, e⟩, f⟩, g⟩
def validB (b : TBlock) : Int := if vHead b = true ∧ ∀ t ∈ b.Txs, validE t = 0 then (if sumW b.Txs ≤ 2097152 then 0 else 3) else 1
structure VB (b : TBlock) : Prop where
  h : VB0 b
  t : ∀ x ∈ b.Txs, validE x = 0
  s : sumW b.Txs ≤ 2097152
theorem validB_zero (b : TBlock) : validB b = 0 ↔ VB b := by
  unfold validB
  split
  · rename_i h
    split
    · rename_i hs
      exact ⟨fun _ => ⟨(vHead_iff b).1 h.1, h.2, hs⟩, fun _ => rfl⟩
    · rename_i hs
      exact ⟨fun e => absurd e (by decide), fun e => absurd e.s hs⟩
  · rename_i h
    exact ⟨fun e => absurd e (by decide), fun e => absurd ⟨(vHead_iff b).2 e.h, e.t⟩ h⟩
theorem validB_head {b : TBlock} (h : ¬ VB0 b) : validB b = 1 := if_neg fun e => h ((vHead_iff b).1 e.1)
theorem validB_tx {b : TBlock} {x : TTx} (hx : x ∈ b.Txs) (h : validE x ≠ 0) : validB b = 1 := if_neg fun e => h (e.2 x hx)
theorem validB_of {b : TBlock} (h : VB0 b) (ht : ∀ x ∈ b.Txs, validE x = 0) : validB b = if sumW b.Txs ≤ 2097152 then 0 else 3 := if_pos ⟨(vHead_iff b).2 h, ht⟩
def hdrS (b : TBlock) : List Int := dig 8 b.Parent ++ dig 4 (len4 b.Height) ++ dig 8 b.Miner ++ dig 8 b.Work ++ dig 8 b.Nonce ++ dig 4 (len4 (b.Txs.length : Int))
@[simp] theorem hdrS_length (b : TBlock) : (hdrS b).length = 40 := by simp [hdrS]
theorem hdrS_by (b : TBlock) : By (hdrS b) := ((((((dig_by _ _).append (dig_by _ _)).append (dig_by _ _)).append (dig_by _ _)).append (dig_by _ _)).append (dig_by _ _))
def encTx (t : TTx) : List Int := encB (encT t t.Proof)
def encBk (b : TBlock) : List Int := hdrS b ++ b.Txs.flatMap encTx
def namS (b : TBlock) : List Int := hdrS b ++ (b.Txs.map idS).flatMap (dig 8)
def zeroB : TBlock := ⟨0, 0, 0, 0, 0, []⟩
structure MN where
  b : TBlock
  ok : Bool
def mineN : Nat → TBlock → MN
  | 0, _ => ⟨zeroB, false⟩
  | k + 1, b => if Int.tmod (hashB 15 (namS b)) b.Work = 0 then ⟨b, true⟩ else if b.Nonce = 18446744073709551615 then ⟨zeroB, false⟩ else mineN k ⟨b.Parent, b.Height, b.Miner, b.Work, b.Nonce + 1, b.Txs⟩
def mineS (b : TBlock) (k : Int) : MN := if k ≤ 0 ∨ validB b ≠ 0 then ⟨zeroB, false⟩ else mineN k.toNat b
def sameB (a b : TBlock) : Bool := decide (a.Parent = b.Parent ∧ a.Height = b.Height ∧ a.Miner = b.Miner ∧ a.Work = b.Work ∧ a.Nonce = b.Nonce ∧ a.Txs.length = b.Txs.length ∧ ∀ i : Nat, i < a.Txs.length → sameT (ix a.Txs (i : Int)) (ix b.Txs (i : Int)) = true)
def smallBk (b : TBlock) : Bool := decide (b.Txs.length ≤ 6) && b.Txs.all (fun t => smallB t 100)
theorem smallBk_le {b : TBlock} (h : smallBk b = true) : b.Txs.length ≤ 6 ∧ ∀ t ∈ b.Txs, smallB t 100 = true := by
  unfold smallBk at h
  simp only [Bool.and_eq_true, decide_eq_true_eq, List.all_eq_true] at h
  exact h
theorem hashB_u64 (label : Int) (l : List Int) : U64 (hashB label l) := hashS_u64 _ _
theorem idS_u64 (t : TTx) : U64 (idS t) := by
  unfold idS
  split
  · exact hashB_u64 _ _
  · omega
theorem encTx_length {t : TTx} (h : validE t = 0) : (encTx t).length ≤ 1048884 := by
  have v := (validE_zero t).1 h
  have := v.enc_len t.Proof
  have := v.pl
  unfold encTx
  rw [encB_length]
  omega
theorem encTxs_length : ∀ (l : List TTx), (∀ x ∈ l, validE x = 0) → (l.flatMap encTx).length ≤ 1048884 * l.length
  | [], _ => by simp
  | x :: l, h => by
    have h1 := encTxs_length l (fun y hy => h y (by simp [hy]))
    have h2 := encTx_length (h x (by simp))
    rw [List.flatMap_cons, List.length_append, List.length_cons]
    omega
theorem VT.bl {t : TTx} (h : VT t) (r : TR t) : TR t ∧ TL t ∧ t.Outs.length ≤ 1048576 ∧ ∀ x ∈ t.Outs, x.Cipher.length ≤ 1024 := ⟨r, h.tl, by have := h.ol; omega, fun x hx => by have := (h.o x hx).l; omega⟩
end Go.Proofs.Ytnmakgfmimagmaa
namespace Go.Proofs.Ytnmakgfmimagmaa
open Go Go.Bv Go.Cv Go.Md Go.RowKit
theorem TTx_R.tr {t : TTx} (h : TTx_R t) : TR t ∧ t.Outs.length ≤ 9223372036854775807 :=
  ⟨⟨h.Anchor, h.Marks.2, fun x hx => let y := h.Outs.2 x hx; ⟨y.Commit, y.Point_a0, y.Point_a1, y.Cipher.2⟩, h.Deposit, h.Withdraw, h.Fee, h.Account, h.Nonce, by have := h.Expiry; omega, h.Proof.2⟩, h.Outs.1⟩
end Go.Proofs.Ytnmakgfmimagmaa
namespace Go.Proofs.Ytnmakgfmimagmaa
open Go Go.Bv Go.Cv Go.Md Go.RowKit
theorem TBlock_R.tr {b : TBlock} (h : TBlock_R b) : ∀ x ∈ b.Txs, TR x ∧ x.Outs.length ≤ 9223372036854775807 := fun x hx => (h.Txs.2 x hx).tr
theorem l47_BlockValid_pre {p0 : TBlock} (h0 : TBlock_R p0) : ∀ x ∈ p0.Txs, TR x ∧ x.Outs.length ≤ 9223372036854775807 := h0.tr
theorem l47_BlockHeavy_pre {p0 : TTx} {p1 p2 : Int} (h0 : TTx_R p0) (h1 : 0 ≤ p1 ∧ p1 < 256) (h2 : 0 ≤ p2 ∧ p2 < 4294967296) : TR p0 ∧ p0.Outs.length ≤ 9223372036854775807 ∧ (0 ≤ p1 ∧ p1 < 256) ∧ 0 ≤ p2 ∧ p2 < 4294967296 := ⟨h0.tr.1, h0.tr.2, h1, h2⟩
end Go.Proofs.Ytnmakgfmimagmaa
namespace Go.Proofs.Ytnmakgfmimagmaa
open Go Go.Bv Go.Cv Go.Md Go.RowKit
def tx_validAmounts_sh : Con TB.den := Con.mk0 60 [.agg [.d (.int .u64), .d (.sl (.int .u64)), .d (.sl (.st 0)), .d (.int .u64), .d (.int .u64), .d (.int .u64), .d (.int .u64), .d (.int .u64), .d (.int .i64), .d (.sl (.int .u8))]] [] (.one (.one (.d (.bool)))) []
abbrev tx_validAmounts_I := HL TB.den (hsT tx_validAmounts_sh.ins (hsOs tx_validAmounts_sh.pre))
abbrev tx_validAmounts_O := HL TB.den (hsV tx_validAmounts_sh.res (hsOs tx_validAmounts_sh.post))
noncomputable def tx_validAmounts_cx : Cx TB := ⟨inf, [], [], 4⟩
noncomputable def tx_validAmounts_code : Code := Try.f60.body.getD .skip
noncomputable def tx_validAmounts_rs : List ResultVar := Try.f60.results.toList
noncomputable def tx_validAmounts_an (o : tx_validAmounts_O) : An TB := .no
noncomputable def tx_validAmounts_Body (x : tx_validAmounts_I) (o : tx_validAmounts_O) : Prop := WPh TB tx_validAmounts_cx 47 0 tx_validAmounts_code (tx_validAmounts_an o) (tx_validAmounts_sh.st TB x) (retTQ TB tx_validAmounts_cx tx_validAmounts_sh tx_validAmounts_rs o)
set_option maxRecDepth 100000 in
theorem tx_validAmounts_obl (o : tx_validAmounts_O) : OblH TB tx_validAmounts_cx 47 0 tx_validAmounts_code (tx_validAmounts_an o) (retTQ TB tx_validAmounts_cx tx_validAmounts_sh tx_validAmounts_rs o) :=
  OblH.of_eq (X := (True ∧ ((True ∧ ((True ∧ True) ∧ True)) ∧ ((True ∧ ((True ∧ True) ∧ True)) ∧ ((True ∧ ((True ∧ True) ∧ True)) ∧ ((True ∧ ((True ∧ True) ∧ True)) ∧ (True ∧ True))))))) (by kernel_rfl) ⟨trivial, ⟨⟨trivial, ⟨⟨trivial, trivial⟩, trivial⟩⟩, ⟨⟨trivial, ⟨⟨trivial, trivial⟩, trivial⟩⟩, ⟨⟨trivial, ⟨⟨trivial, trivial⟩, trivial⟩⟩, ⟨⟨trivial, ⟨⟨trivial, trivial⟩, trivial⟩⟩, ⟨trivial, trivial⟩⟩⟩⟩⟩⟩
set_option maxRecDepth 100000 in
theorem tx_validAmounts_snd {x : tx_validAmounts_I} {o : tx_validAmounts_O} (h : tx_validAmounts_Body x o) : SoundH Try.prog tx_validAmounts_sh.f ((tx_validAmounts_sh.args idf x).map (er TB)) ((tx_validAmounts_sh.obs idf x).map (erO TB)) (er TB (tx_validAmounts_sh.val idf o)) ((tx_validAmounts_sh.ops idf o).map (erO TB)) :=
  Con.soundH (c := tx_validAmounts_sh) (C := tx_validAmounts_cx) TBok ⟨inf_ok, all_nil, all_nil⟩ mix Try.func60 (show Try.f60.body = some tx_validAmounts_code by kernel_rfl) (show Try.f60.ntmps = 47 by kernel_rfl) (show Try.f60.results.toList = tx_validAmounts_rs by kernel_rfl) rfl h (tx_validAmounts_obl o)
set_option maxRecDepth 100000 in
theorem tx_validAmounts_in {p0 : TTx} {r0 : Bool} (h :
((decide (4294967295 < p0.Deposit) = true →
 false = r0) ∧
(decide (4294967295 < p0.Deposit) = false →
(decide (4294967295 < p0.Withdraw) = true →
 false = r0) ∧
(decide (4294967295 < p0.Withdraw) = false →
(decide (4294967295 < p0.Fee) = true →
 false = r0) ∧
(decide (4294967295 < p0.Fee) = false →
 let v1 : Bool := decide (18446744069414584321 ≤ p0.Account)
(v1 = true →
 false = r0) ∧
(v1 = false →
(decide (18446744069414584321 ≤ p0.Nonce) = true →
 false = r0) ∧
(decide (18446744069414584321 ≤ p0.Nonce) = false →
(decide (0 < p0.Deposit) = true →
(p0.Withdraw == 0) = r0) ∧
(decide (0 < p0.Deposit) = false →
(((p0.Marks.length : Int) == 0) = true →
 false = r0) ∧
(((p0.Marks.length : Int) == 0) = false →
((p0.Nonce != 0) = true →
 false = r0) ∧
((p0.Nonce != 0) = false →
(decide (0 < p0.Withdraw) = true →
 true = r0) ∧
(decide (0 < p0.Withdraw) = false →
(p0.Account == 0) = r0))))))))))) : tx_validAmounts_Body (p0.Anchor, p0.Marks, p0.Outs, p0.Deposit, p0.Withdraw, p0.Fee, p0.Account, p0.Nonce, p0.Expiry, p0.Proof, ()) (r0, ()) := WPh.of_eq (by kernel_rfl) h
theorem bd60 : Callable Try.prog 60 := ⟨by rw [Try.func60]; kernel_rfl, by rw [Try.func60]; show some _ ≠ some _; decide⟩
theorem tx_validAmounts_body (p0 : TTx) : tx_validAmounts_Body (p0.Anchor, p0.Marks, p0.Outs, p0.Deposit, p0.Withdraw, p0.Fee, p0.Account, p0.Nonce, p0.Expiry, p0.Proof, ()) ((vAmounts p0 : Bool), ()) := by
  refine tx_validAmounts_in ?_
  unfold vAmounts
  try simp only []
  repeat' (apply And.intro <;> intro h)
  all_goals simp only [decide_eq_true_eq, decide_eq_false_iff_not, beq_iff_eq, bne_iff_ne, Bool.not_eq_true, beq_eq_false_iff_ne, bne_eq_false_iff_eq, List.isEmpty_iff, Int.natCast_eq_zero, List.length_eq_zero_iff] at *
  all_goals simp [*]
  all_goals grind
noncomputable def tx_validAmounts_con : Con TB.den := tx_validAmounts_sh.totR fun x => ((fun (p0 : TTx) => (vAmounts p0 : Bool)) (TTx.mk x.1 x.2.1 x.2.2.1 x.2.2.2.1 x.2.2.2.2.1 x.2.2.2.2.2.1 x.2.2.2.2.2.2.1 x.2.2.2.2.2.2.2.1 x.2.2.2.2.2.2.2.2.1 x.2.2.2.2.2.2.2.2.2.1), ())
theorem tx_validAmounts_ok : tx_validAmounts_con.Ok Try.prog TB := Con.ok_tot tx_validAmounts_sh bd60 fun x => tx_validAmounts_snd (tx_validAmounts_body (TTx.mk x.1 x.2.1 x.2.2.1 x.2.2.2.1 x.2.2.2.2.1 x.2.2.2.2.2.1 x.2.2.2.2.2.2.1 x.2.2.2.2.2.2.2.1 x.2.2.2.2.2.2.2.2.1 x.2.2.2.2.2.2.2.2.2.1))
end Go.Proofs.Ytnmakgfmimagmaa
namespace Go.Proofs.Ytnmakgfmimagmaa
open Go Go.Bv Go.Cv Go.Md Go.RowKit
def slices_Index_sh : Con TB.den := Con.mk0 91 [.one (.d (.sl (.int .u64))), .one (.d (.int .u64))] [] (.one (.one (.d (.int .i64)))) []
abbrev slices_Index_I := HL TB.den (hsT slices_Index_sh.ins (hsOs slices_Index_sh.pre))
abbrev slices_Index_O := HL TB.den (hsV slices_Index_sh.res (hsOs slices_Index_sh.post))
noncomputable def slices_Index_cx : Cx TB := ⟨inf, [], [], 4⟩
noncomputable def slices_Index_code : Code := Try.f91.body.getD .skip
noncomputable def slices_Index_rs : List ResultVar := Try.f91.results.toList
noncomputable def slices_Index_Q1 (o : slices_Index_O) : Exit → TSt TB.den → Prop := thenT TB (fun s => ghs TB [] s fun s => WP TB slices_Index_cx 19 0 (cB (cB slices_Index_code)) .no s (retTQ TB slices_Index_cx slices_Index_sh slices_Index_rs o)) (retTQ TB slices_Index_cx slices_Index_sh slices_Index_rs o)
def slices_Index_T1 : Tm := ⟨[], [], [0, 1, 7, 8], [.one (.d (.sl (.int .u64))), .one (.d (.int .u64)), .one (.d (.int .i64)), .one (.d (.int .i64))], 0⟩
noncomputable def slices_Index_Q2 (o : slices_Index_O) (nx1 : HL TB.den slices_Index_T1.hs → Prop) : Exit → TSt TB.den → Prop := thenT TB (fun s => slices_Index_T1.mat TB 0 s nx1) (blockT TB 0 (slices_Index_Q1 o))
noncomputable def slices_Index_L1 (o : slices_Index_O) (nx1 : HL TB.den slices_Index_T1.hs → Prop) (i : HL TB.den slices_Index_T1.hs) : Prop := WP TB slices_Index_cx 19 0 (cA (cA (cB (cA (cB slices_Index_code))))) .no (slices_Index_T1.fill TB i) (slices_Index_Q2 o nx1)
noncomputable def slices_Index_A5 (o : slices_Index_O) : An TB := .nd [] .no [] (.lp [] slices_Index_T1 (slices_Index_L1 o) fun nx1 => .no)
noncomputable def slices_Index_an (o : slices_Index_O) : An TB := .nd [] .no [] (.nd [] (slices_Index_A5 o) [] .no)
noncomputable def slices_Index_Body (x : slices_Index_I) (o : slices_Index_O) : Prop := WPh TB slices_Index_cx 19 0 slices_Index_code (slices_Index_an o) (slices_Index_sh.st TB x) (retTQ TB slices_Index_cx slices_Index_sh slices_Index_rs o)
set_option maxRecDepth 100000 in
theorem slices_Index_obl (o : slices_Index_O) : OblH TB slices_Index_cx 19 0 slices_Index_code (slices_Index_an o) (retTQ TB slices_Index_cx slices_Index_sh slices_Index_rs o) :=
  OblH.of_eq (X := (True ∧ ((True ∧ ((∀ nx i, (slices_Index_L1 o) nx i = (slices_Index_L1 o) nx i) ∧ ∀ nx1 : HL TB.den slices_Index_T1.hs → Prop, (True ∧ ((True ∧ True) ∧ ((True ∧ (True ∧ ((True ∧ True) ∧ True))) ∧ True))))) ∧ (True ∧ True)))) (by kernel_rfl) ⟨trivial, ⟨⟨trivial, ⟨fun _ _ => rfl, fun _ => ⟨trivial, ⟨⟨trivial, trivial⟩, ⟨⟨trivial, ⟨trivial, ⟨⟨trivial, trivial⟩, trivial⟩⟩⟩, trivial⟩⟩⟩⟩⟩, ⟨trivial, trivial⟩⟩⟩
set_option maxRecDepth 100000 in
theorem slices_Index_snd {x : slices_Index_I} {o : slices_Index_O} (h : slices_Index_Body x o) : SoundH Try.prog slices_Index_sh.f ((slices_Index_sh.args idf x).map (er TB)) ((slices_Index_sh.obs idf x).map (erO TB)) (er TB (slices_Index_sh.val idf o)) ((slices_Index_sh.ops idf o).map (erO TB)) :=
  Con.soundH (c := slices_Index_sh) (C := slices_Index_cx) TBok ⟨inf_ok, all_nil, all_nil⟩ mix Try.func91 (show Try.f91.body = some slices_Index_code by kernel_rfl) (show Try.f91.ntmps = 19 by kernel_rfl) (show Try.f91.results.toList = slices_Index_rs by kernel_rfl) rfl h (slices_Index_obl o)
set_option maxRecDepth 100000 in
theorem slices_Index_in {p0 : List Int} {p1 : Int} {r0 : Int} (h :
(Md.Loop (p0, p1, ((p0.length : Int) : Int), (0 : Int), ()) (slices_Index_L1 (r0, ())))) : slices_Index_Body (p0, p1, ()) (r0, ()) := WPh.of_eq (by kernel_rfl) h
def slices_Index_B1 (r0 : Int) (k1 : Int → Prop) (s0 : List Int) (s1 : Int) (s7 : Int) (s8 : Int) : Prop :=
(decide (s8 < s7) = true →
(0 ≤ s8) ∧ s8 < (s0.length : Int) ∧ ((s1 == (ix s0 s8)) = true →
 s8 = r0) ∧
((s1 == (ix s0 s8)) = false →
 k1 (IntKind.i64.wrap (s8 + 1) : Int))) ∧
(decide (s8 < s7) = false →
(-1) = r0)
set_option maxRecDepth 100000 in
theorem slices_Index_lp1 {r0 : Int} {s0 : List Int} {s1 : Int} {s7 : Int} {s8 : Int} (inv : Int → Prop) (μ : Int → Nat) (h0 : inv s8) (hs : ∀ (s8 : Int), inv s8 → slices_Index_B1 r0 (fun s8q => inv s8q ∧ μ s8q < μ s8) s0 s1 s7 s8) : Md.Loop (s0, s1, s7, s8, ()) (slices_Index_L1 (r0, ())) :=
  ⟨⟨fun s : (List Int) × Int × Int × Int × Unit => (s.1 = s0 ∧ s.2.1 = s1 ∧ s.2.2.1 = s7) ∧ inv s.2.2.2.1, fun s : (List Int) × Int × Int × Int × Unit => μ s.2.2.2.1, ⟨⟨rfl, rfl, rfl⟩, h0⟩, fun (s0p, s1p, s7p, s8p, ()) ⟨⟨eq0, eq1, eq2⟩, hi⟩ => by
    have eq0 : s0p = s0 := eq0; subst s0p; have eq1 : s1p = s1 := eq1; subst s1p; have eq2 : s7p = s7 := eq2; subst s7p; exact mpr_of (by kernel_rfl) ((congrArg (fun k => slices_Index_B1 r0 k s0 s1 s7 s8p) (lpk1 (⟨rfl, rfl, rfl⟩ : s0 = s0 ∧ s1 = s1 ∧ s7 = s7) inv (fun s8q => μ s8q < μ s8p))).mpr (hs s8p hi))⟩⟩
theorem bd91 : Callable Try.prog 91 := ⟨by rw [Try.func91]; kernel_rfl, by rw [Try.func91]; show some _ ≠ some _; decide⟩
theorem slices_Index_body (p0 : List Int) (p1 : Int) (h : p0.length ≤ 9223372036854775807) : slices_Index_Body (p0, p1, ()) ((idxI p0 p1 : Int), ()) := by
  refine slices_Index_in (slices_Index_lp1 (fun i => 0 ≤ i ∧ i ≤ p0.length ∧ p1 ∉ p0.take i.toNat) (fun i => (p0.length - i).toNat) ⟨by omega, by omega, by simp⟩ ?_)
  rintro i ⟨g0, g1, g2⟩
  refine ⟨fun h => ?_, fun h => ?_⟩
  · have h := of_decide_eq_true h
    refine ⟨g0, h, fun e => ?_, fun e => ?_⟩
    · have e : p1 = ix p0 i := by simpa using e
      unfold idxI
      rw [if_pos (by rw [e]; exact ix_mem p0 i g0 h)]
      have : p0.idxOf p1 = i.toNat := by
        conv => lhs; rw [← List.take_append_drop i.toNat p0]
        rw [List.idxOf_append, if_neg g2, drop_ix p0 i g0 h, ← e, List.idxOf_cons_self, List.length_take]
        omega
      rw [this]
      omega
    · have e : ¬ p1 = ix p0 i := by simpa using e
      rw [inc i p0.length g0 h (by omega)]
      refine ⟨⟨by omega, by omega, ?_⟩, by omega⟩
      rw [take_succ_ix p0 i g0 h]
      simp only [List.mem_append, List.mem_singleton]
      exact fun hh => hh.elim g2 e
  · have h := of_decide_eq_false h
    rw [List.take_of_length_le (by omega)] at g2
    unfold idxI
    rw [if_neg g2]
noncomputable def slices_Index_con : Con TB.den := slices_Index_sh.fnR (fun x => (fun (p0 : List Int) (p1 : Int) => p0.length ≤ 9223372036854775807) x.1 x.2.1) fun x => ((fun (p0 : List Int) (p1 : Int) => (idxI p0 p1 : Int)) x.1 x.2.1, ())
theorem slices_Index_ok : slices_Index_con.Ok Try.prog TB := Con.ok_fn slices_Index_sh bd91 fun x h => slices_Index_snd (slices_Index_body x.1 x.2.1 h)
end Go.Proofs.Ytnmakgfmimagmaa
namespace Go.Proofs.Ytnmakgfmimagmaa
open Go Go.Bv Go.Cv Go.Md Go.RowKit
def slices_Contains_sh : Con TB.den := Con.mk0 83 [.one (.d (.sl (.int .u64))), .one (.d (.int .u64))] [] (.one (.one (.d (.bool)))) []
abbrev slices_Contains_I := HL TB.den (hsT slices_Contains_sh.ins (hsOs slices_Contains_sh.pre))
abbrev slices_Contains_O := HL TB.den (hsV slices_Contains_sh.res (hsOs slices_Contains_sh.post))
noncomputable def slices_Contains_cx : Cx TB := ⟨inf, [slices_Index_con], [], 4⟩
noncomputable def slices_Contains_code : Code := Try.f83.body.getD .skip
noncomputable def slices_Contains_rs : List ResultVar := Try.f83.results.toList
noncomputable def slices_Contains_an (o : slices_Contains_O) : An TB := .no
noncomputable def slices_Contains_Body (x : slices_Contains_I) (o : slices_Contains_O) : Prop := WPh TB slices_Contains_cx 9 0 slices_Contains_code (slices_Contains_an o) (slices_Contains_sh.st TB x) (retTQ TB slices_Contains_cx slices_Contains_sh slices_Contains_rs o)
set_option maxRecDepth 100000 in
theorem slices_Contains_obl (o : slices_Contains_O) : OblH TB slices_Contains_cx 9 0 slices_Contains_code (slices_Contains_an o) (retTQ TB slices_Contains_cx slices_Contains_sh slices_Contains_rs o) :=
  OblH.of_eq (X := (True ∧ (True ∧ True))) (by kernel_rfl) ⟨trivial, ⟨trivial, trivial⟩⟩
set_option maxRecDepth 100000 in
theorem slices_Contains_snd {x : slices_Contains_I} {o : slices_Contains_O} (h : slices_Contains_Body x o) : SoundH Try.prog slices_Contains_sh.f ((slices_Contains_sh.args idf x).map (er TB)) ((slices_Contains_sh.obs idf x).map (erO TB)) (er TB (slices_Contains_sh.val idf o)) ((slices_Contains_sh.ops idf o).map (erO TB)) :=
  Con.soundH (c := slices_Contains_sh) (C := slices_Contains_cx) TBok ⟨inf_ok, (all_cons slices_Index_ok all_nil), all_nil⟩ mix Try.func83 (show Try.f83.body = some slices_Contains_code by kernel_rfl) (show Try.f83.ntmps = 9 by kernel_rfl) (show Try.f83.results.toList = slices_Contains_rs by kernel_rfl) rfl h (slices_Contains_obl o)
set_option maxRecDepth 100000 in
theorem slices_Contains_in {p0 : List Int} {p1 : Int} {r0 : Bool} (h :
((p0.length ≤ 9223372036854775807) ∧ decide (0 ≤ (idxI p0 p1)) = r0)) : slices_Contains_Body (p0, p1, ()) (r0, ()) := WPh.of_eq (by kernel_rfl) h
theorem bd83 : Callable Try.prog 83 := ⟨by rw [Try.func83]; kernel_rfl, by rw [Try.func83]; show some _ ≠ some _; decide⟩
theorem slices_Contains_body (p0 : List Int) (p1 : Int) (h : p0.length ≤ 9223372036854775807) : slices_Contains_Body (p0, p1, ()) ((decide (p1 ∈ p0) : Bool), ()) := by
  refine slices_Contains_in ⟨h, ?_⟩
  unfold idxI
  by_cases hm : p1 ∈ p0
  · simp [hm]
  · simp [hm]
noncomputable def slices_Contains_con : Con TB.den := slices_Contains_sh.fnR (fun x => (fun (p0 : List Int) (p1 : Int) => p0.length ≤ 9223372036854775807) x.1 x.2.1) fun x => ((fun (p0 : List Int) (p1 : Int) => (decide (p1 ∈ p0) : Bool)) x.1 x.2.1, ())
theorem slices_Contains_ok : slices_Contains_con.Ok Try.prog TB := Con.ok_fn slices_Contains_sh bd83 fun x h => slices_Contains_snd (slices_Contains_body x.1 x.2.1 h)
end Go.Proofs.Ytnmakgfmimagmaa
namespace Go.Proofs.Ytnmakgfmimagmaa
open Go Go.Bv Go.Cv Go.Md Go.RowKit
def tx_validMarks_sh : Con TB.den := Con.mk0 58 [.one (.d (.sl (.int .u64)))] [] (.one (.one (.d (.bool)))) []
abbrev tx_validMarks_I := HL TB.den (hsT tx_validMarks_sh.ins (hsOs tx_validMarks_sh.pre))
abbrev tx_validMarks_O := HL TB.den (hsV tx_validMarks_sh.res (hsOs tx_validMarks_sh.post))
noncomputable def tx_validMarks_cx : Cx TB := ⟨inf, [slices_Contains_con], [], 4⟩
noncomputable def tx_validMarks_code : Code := Try.f58.body.getD .skip
noncomputable def tx_validMarks_rs : List ResultVar := Try.f58.results.toList
noncomputable def tx_validMarks_Q1 (o : tx_validMarks_O) : Exit → TSt TB.den → Prop := thenT TB (fun s => ghs TB [] s fun s => WP TB tx_validMarks_cx 25 0 (cB (cB (cB tx_validMarks_code))) .no s (retTQ TB tx_validMarks_cx tx_validMarks_sh tx_validMarks_rs o)) (retTQ TB tx_validMarks_cx tx_validMarks_sh tx_validMarks_rs o)
def tx_validMarks_T1 : Tm := ⟨[], [], [0, 8, 9, 10], [.one (.d (.sl (.int .u64))), .one (.d (.sl (.int .u64))), .one (.d (.int .i64)), .one (.d (.int .i64))], 0⟩
noncomputable def tx_validMarks_Q2 (o : tx_validMarks_O) (nx1 : HL TB.den tx_validMarks_T1.hs → Prop) : Exit → TSt TB.den → Prop := thenT TB (fun s => tx_validMarks_T1.mat TB 0 s nx1) (blockT TB 0 (tx_validMarks_Q1 o))
noncomputable def tx_validMarks_L1 (o : tx_validMarks_O) (nx1 : HL TB.den tx_validMarks_T1.hs → Prop) (i : HL TB.den tx_validMarks_T1.hs) : Prop := WP TB tx_validMarks_cx 25 0 (cA (cA (cB (cA (cB (cB tx_validMarks_code)))))) .no (tx_validMarks_T1.fill TB i) (tx_validMarks_Q2 o nx1)
noncomputable def tx_validMarks_A5 (o : tx_validMarks_O) : An TB := .nd [] .no [] (.lp [] tx_validMarks_T1 (tx_validMarks_L1 o) fun nx1 => .no)
noncomputable def tx_validMarks_an (o : tx_validMarks_O) : An TB := .nd [] .no [] (.nd [] .no [] (.nd [] (tx_validMarks_A5 o) [] .no))
noncomputable def tx_validMarks_Body (x : tx_validMarks_I) (o : tx_validMarks_O) : Prop := WPh TB tx_validMarks_cx 25 0 tx_validMarks_code (tx_validMarks_an o) (tx_validMarks_sh.st TB x) (retTQ TB tx_validMarks_cx tx_validMarks_sh tx_validMarks_rs o)
set_option maxRecDepth 100000 in
theorem tx_validMarks_obl (o : tx_validMarks_O) : OblH TB tx_validMarks_cx 25 0 tx_validMarks_code (tx_validMarks_an o) (retTQ TB tx_validMarks_cx tx_validMarks_sh tx_validMarks_rs o) :=
  OblH.of_eq (X := (True ∧ ((True ∧ ((True ∧ True) ∧ True)) ∧ ((True ∧ ((∀ nx i, (tx_validMarks_L1 o) nx i = (tx_validMarks_L1 o) nx i) ∧ ∀ nx1 : HL TB.den tx_validMarks_T1.hs → Prop, (True ∧ ((True ∧ True) ∧ ((True ∧ (True ∧ ((True ∧ True) ∧ True))) ∧ True))))) ∧ (True ∧ True))))) (by kernel_rfl) ⟨trivial, ⟨⟨trivial, ⟨⟨trivial, trivial⟩, trivial⟩⟩, ⟨⟨trivial, ⟨fun _ _ => rfl, fun _ => ⟨trivial, ⟨⟨trivial, trivial⟩, ⟨⟨trivial, ⟨trivial, ⟨⟨trivial, trivial⟩, trivial⟩⟩⟩, trivial⟩⟩⟩⟩⟩, ⟨trivial, trivial⟩⟩⟩⟩
set_option maxRecDepth 100000 in
theorem tx_validMarks_snd {x : tx_validMarks_I} {o : tx_validMarks_O} (h : tx_validMarks_Body x o) : SoundH Try.prog tx_validMarks_sh.f ((tx_validMarks_sh.args idf x).map (er TB)) ((tx_validMarks_sh.obs idf x).map (erO TB)) (er TB (tx_validMarks_sh.val idf o)) ((tx_validMarks_sh.ops idf o).map (erO TB)) :=
  Con.soundH (c := tx_validMarks_sh) (C := tx_validMarks_cx) TBok ⟨inf_ok, (all_cons slices_Contains_ok all_nil), all_nil⟩ mix Try.func58 (show Try.f58.body = some tx_validMarks_code by kernel_rfl) (show Try.f58.ntmps = 25 by kernel_rfl) (show Try.f58.results.toList = tx_validMarks_rs by kernel_rfl) rfl h (tx_validMarks_obl o)
set_option maxRecDepth 100000 in
theorem tx_validMarks_in {p0 : List Int} {r0 : Bool} (h :
((decide (4 < (p0.length : Int)) = true →
 false = r0) ∧
(decide (4 < (p0.length : Int)) = false →
 Md.Loop (p0, p0, ((p0.length : Int) : Int), (0 : Int), ()) (tx_validMarks_L1 (r0, ()))))) : tx_validMarks_Body (p0, ()) (r0, ()) := WPh.of_eq (by kernel_rfl) h
def tx_validMarks_B1 (r0 : Bool) (k1 : Int → Prop) (s0 : List Int) (s8 : List Int) (s9 : Int) (s10 : Int) : Prop :=
(decide (s10 < s9) = true →
(0 ≤ s10) ∧ s10 < (s8.length : Int) ∧ let v1 : Bool := decide (18446744069414584321 ≤ (ix s8 s10))
(v1 = true →
 false = r0) ∧
(v1 = false →
(0 ≤ s10) ∧ s10 ≤ (s0.length : Int) ∧ ((s0.take s10.toNat).length ≤ 9223372036854775807) ∧ let r2 : Bool := decide ((ix s8 s10) ∈ (s0.take s10.toNat))
(r2 = true →
 false = r0) ∧
(r2 = false →
 k1 (IntKind.i64.wrap (s10 + 1) : Int)))) ∧
(decide (s10 < s9) = false →
 true = r0)
set_option maxRecDepth 100000 in
theorem tx_validMarks_lp1 {r0 : Bool} {s0 : List Int} {s8 : List Int} {s9 : Int} {s10 : Int} (inv : Int → Prop) (μ : Int → Nat) (h0 : inv s10) (hs : ∀ (s10 : Int), inv s10 → tx_validMarks_B1 r0 (fun s10q => inv s10q ∧ μ s10q < μ s10) s0 s8 s9 s10) : Md.Loop (s0, s8, s9, s10, ()) (tx_validMarks_L1 (r0, ())) :=
  ⟨⟨fun s : (List Int) × (List Int) × Int × Int × Unit => (s.1 = s0 ∧ s.2.1 = s8 ∧ s.2.2.1 = s9) ∧ inv s.2.2.2.1, fun s : (List Int) × (List Int) × Int × Int × Unit => μ s.2.2.2.1, ⟨⟨rfl, rfl, rfl⟩, h0⟩, fun (s0p, s8p, s9p, s10p, ()) ⟨⟨eq0, eq1, eq2⟩, hi⟩ => by
    have eq0 : s0p = s0 := eq0; subst s0p; have eq1 : s8p = s8 := eq1; subst s8p; have eq2 : s9p = s9 := eq2; subst s9p; exact mpr_of (by kernel_rfl) ((congrArg (fun k => tx_validMarks_B1 r0 k s0 s8 s9 s10p) (lpk1 (⟨rfl, rfl, rfl⟩ : s0 = s0 ∧ s8 = s8 ∧ s9 = s9) inv (fun s10q => μ s10q < μ s10p))).mpr (hs s10p hi))⟩⟩
theorem bd58 : Callable Try.prog 58 := ⟨by rw [Try.func58]; kernel_rfl, by rw [Try.func58]; show some _ ≠ some _; decide⟩
theorem tx_validMarks_body (p0 : List Int) : tx_validMarks_Body (p0, ()) ((vMarks p0 : Bool), ()) := by
  refine tx_validMarks_in ⟨fun h => ?_, fun h => ?_⟩
  · have h := of_decide_eq_true h
    unfold vMarks
    rw [decide_eq_false (by omega)]
    rfl
  · have h := of_decide_eq_false h
    refine tx_validMarks_lp1 (fun i => 0 ≤ i ∧ i ≤ p0.length ∧ (∀ x ∈ p0.take i.toNat, x < 18446744069414584321) ∧ (p0.take i.toNat).Nodup) (fun i => (p0.length - i).toNat) ⟨by omega, by omega, by simp, by simp⟩ ?_
    rintro i ⟨g0, g1, g2, g3⟩
    refine ⟨fun hh => ?_, fun hh => ?_⟩
    · have hh := of_decide_eq_true hh
      have hm := ix_mem p0 i g0 hh
      refine ⟨g0, hh, fun e => ?_, fun e => ⟨g0, by omega, by simp; omega, fun e2 => ?_, fun e2 => ?_⟩⟩
      · have e := of_decide_eq_true e
        unfold vMarks
        have : p0.all (fun x => decide (x < 18446744069414584321)) = false := List.all_eq_false.2 ⟨_, hm, by simp; omega⟩
        rw [this]
        simp
      · have e2 := of_decide_eq_true e2
        unfold vMarks
        have : ¬ p0.Nodup := by
          intro hn
          rw [← List.take_append_drop i.toNat p0, drop_ix p0 i g0 hh] at hn
          have := (List.nodup_append.1 hn).2.2 _ e2 _ (List.mem_cons_self ..)
          exact this rfl
        rw [decide_eq_false this]
        simp
      · have e := of_decide_eq_false e
        have e2 := of_decide_eq_false e2
        rw [inc i p0.length g0 hh (by omega)]
        refine ⟨⟨by omega, by omega, ?_, ?_⟩, by omega⟩
        · rw [take_succ_ix p0 i g0 hh]
          intro x hx
          rcases List.mem_append.1 hx with hx | hx
          · exact g2 x hx
          · have : x = ix p0 i := by simpa using hx
            omega
        · rw [take_succ_ix p0 i g0 hh]
          refine List.nodup_append.2 ⟨g3, by simp, fun a ha b hb => ?_⟩
          have : b = ix p0 i := by simpa using hb
          rintro rfl
          exact e2 (this ▸ ha)
    · have hh := of_decide_eq_false hh
      rw [List.take_of_length_le (by omega)] at g2 g3
      unfold vMarks
      have : p0.all (fun x => decide (x < 18446744069414584321)) = true := by simpa using g2
      rw [this, decide_eq_true g3, decide_eq_true (by omega)]
      rfl
noncomputable def tx_validMarks_con : Con TB.den := tx_validMarks_sh.totR fun x => ((fun (p0 : List Int) => (vMarks p0 : Bool)) x.1, ())
theorem tx_validMarks_ok : tx_validMarks_con.Ok Try.prog TB := Con.ok_tot tx_validMarks_sh bd58 fun x => tx_validMarks_snd (tx_validMarks_body x.1)
end Go.Proofs.Ytnmakgfmimagmaa
namespace Go.Proofs.Ytnmakgfmimagmaa
open Go Go.Bv Go.Cv Go.Md Go.RowKit
def group_Valid_sh : Con TB.den := Con.mk0 84 [.agg [.d (.int .u64), .d (.int .u64)]] [] (.one (.one (.d (.bool)))) []
abbrev group_Valid_I := HL TB.den (hsT group_Valid_sh.ins (hsOs group_Valid_sh.pre))
abbrev group_Valid_O := HL TB.den (hsV group_Valid_sh.res (hsOs group_Valid_sh.post))
noncomputable def group_Valid_cx : Cx TB := ⟨inf, [], [], 4⟩
noncomputable def group_Valid_code : Code := Try.f84.body.getD .skip
noncomputable def group_Valid_rs : List ResultVar := Try.f84.results.toList
noncomputable def group_Valid_an (o : group_Valid_O) : An TB := .no
noncomputable def group_Valid_Body (x : group_Valid_I) (o : group_Valid_O) : Prop := WPh TB group_Valid_cx 21 0 group_Valid_code (group_Valid_an o) (group_Valid_sh.st TB x) (retTQ TB group_Valid_cx group_Valid_sh group_Valid_rs o)
set_option maxRecDepth 100000 in
theorem group_Valid_obl (o : group_Valid_O) : OblH TB group_Valid_cx 21 0 group_Valid_code (group_Valid_an o) (retTQ TB group_Valid_cx group_Valid_sh group_Valid_rs o) :=
  OblH.of_eq (X := (True ∧ (True ∧ True))) (by kernel_rfl) ⟨trivial, ⟨trivial, trivial⟩⟩
set_option maxRecDepth 100000 in
theorem group_Valid_snd {x : group_Valid_I} {o : group_Valid_O} (h : group_Valid_Body x o) : SoundH Try.prog group_Valid_sh.f ((group_Valid_sh.args idf x).map (er TB)) ((group_Valid_sh.obs idf x).map (erO TB)) (er TB (group_Valid_sh.val idf o)) ((group_Valid_sh.ops idf o).map (erO TB)) :=
  Con.soundH (c := group_Valid_sh) (C := group_Valid_cx) TBok ⟨inf_ok, all_nil, all_nil⟩ mix Try.func84 (show Try.f84.body = some group_Valid_code by kernel_rfl) (show Try.f84.ntmps = 21 by kernel_rfl) (show Try.f84.results.toList = group_Valid_rs by kernel_rfl) rfl h (group_Valid_obl o)
set_option maxRecDepth 100000 in
theorem group_Valid_in {p0 : TA2} {r0 : Bool} (h :
((decide (p0.a0 < 18446744069414584321) = true →
(decide (p0.a1 < 18446744069414584321) = true →
((p0.a0 != 0) = true →
 true = r0) ∧
((p0.a0 != 0) = false →
(p0.a1 != 0) = r0)) ∧
(decide (p0.a1 < 18446744069414584321) = false →
 false = r0)) ∧
(decide (p0.a0 < 18446744069414584321) = false →
 false = r0))) : group_Valid_Body (p0.a0, p0.a1, ()) (r0, ()) := WPh.of_eq (by kernel_rfl) h
theorem bd84 : Callable Try.prog 84 := ⟨by rw [Try.func84]; kernel_rfl, by rw [Try.func84]; show some _ ≠ some _; decide⟩
theorem group_Valid_body (p0 : TA2) : group_Valid_Body (p0.a0, p0.a1, ()) ((vPoint p0.a0 p0.a1 : Bool), ()) := by
  refine group_Valid_in ?_
  unfold vPoint
  refine ⟨fun h => ⟨fun h1 => ⟨fun h2 => ?_, fun h2 => ?_⟩, fun h1 => ?_⟩, fun h => ?_⟩ <;> simp_all <;> omega
noncomputable def group_Valid_con : Con TB.den := group_Valid_sh.totR fun x => ((fun (p0 : TA2) => (vPoint p0.a0 p0.a1 : Bool)) (TA2.mk x.1 x.2.1), ())
theorem group_Valid_ok : group_Valid_con.Ok Try.prog TB := Con.ok_tot group_Valid_sh bd84 fun x => group_Valid_snd (group_Valid_body (TA2.mk x.1 x.2.1))
end Go.Proofs.Ytnmakgfmimagmaa
namespace Go.Proofs.Ytnmakgfmimagmaa
open Go Go.Bv Go.Cv Go.Md Go.RowKit
def tx_validOuts_sh : Con TB.den := Con.mk0 59 [.one (.d (.sl (.st 0)))] [] (.one (.one (.d (.bool)))) []
abbrev tx_validOuts_I := HL TB.den (hsT tx_validOuts_sh.ins (hsOs tx_validOuts_sh.pre))
abbrev tx_validOuts_O := HL TB.den (hsV tx_validOuts_sh.res (hsOs tx_validOuts_sh.post))
noncomputable def tx_validOuts_cx : Cx TB := ⟨inf, [group_Valid_con], [], 4⟩
noncomputable def tx_validOuts_code : Code := Try.f59.body.getD .skip
noncomputable def tx_validOuts_rs : List ResultVar := Try.f59.results.toList
noncomputable def tx_validOuts_Q1 (o : tx_validOuts_O) : Exit → TSt TB.den → Prop := thenT TB (fun s => ghs TB [] s fun s => WP TB tx_validOuts_cx 42 0 (cB (cB (cB tx_validOuts_code))) .no s (retTQ TB tx_validOuts_cx tx_validOuts_sh tx_validOuts_rs o)) (retTQ TB tx_validOuts_cx tx_validOuts_sh tx_validOuts_rs o)
def tx_validOuts_T2 : Tm := ⟨[], [], [10, 11, 12], [.one (.d (.sl (.st 0))), .one (.d (.int .i64)), .one (.d (.int .i64))], 0⟩
noncomputable def tx_validOuts_Q2 (o : tx_validOuts_O) (nx2 : HL TB.den tx_validOuts_T2.hs → Prop) : Exit → TSt TB.den → Prop := thenT TB (fun s => tx_validOuts_T2.mat TB 0 s nx2) (blockT TB 0 (tx_validOuts_Q1 o))
noncomputable def tx_validOuts_Q3 (o : tx_validOuts_O) (nx2 : HL TB.den tx_validOuts_T2.hs → Prop) : Exit → TSt TB.den → Prop := thenT TB (fun s => ghs TB [] s fun s => WP TB tx_validOuts_cx 42 0 (cB (cB (cB (cA (cA (cB (cA (cB (cB tx_validOuts_code))))))))) .no s (tx_validOuts_Q2 o nx2)) (tx_validOuts_Q2 o nx2)
def tx_validOuts_T1 : Tm := ⟨[0], [.cells [.d (.int .u64), .d (.int .u64), .d (.int .u64), .d (.sl (.int .u64))]], [10, 11, 12, 20, 21, 22, 23, 26, 27, 28, 29, 32, 33, 34], [.one (.d (.sl (.st 0))), .one (.d (.int .i64)), .one (.d (.int .i64)), .one (.ptr 0 1), .agg [.d (.int .u64), .d (.int .u64)], .one (.d (.bool)), .one (.d (.bool)), .one (.ptr 0 3), .one (.d (.sl (.int .u64))), .one (.d (.int .i64)), .one (.d (.bool)), .one (.d (.sl (.int .u64))), .one (.d (.int .i64)), .one (.d (.int .i64))], 1⟩
noncomputable def tx_validOuts_Q4 (o : tx_validOuts_O) (nx2 : HL TB.den tx_validOuts_T2.hs → Prop) (nx1 : HL TB.den tx_validOuts_T1.hs → Prop) : Exit → TSt TB.den → Prop := thenT TB (fun s => tx_validOuts_T1.mat TB 0 s nx1) (blockT TB 2 (blockT TB 1 (tx_validOuts_Q3 o nx2)))
noncomputable def tx_validOuts_L1 (o : tx_validOuts_O) (nx2 : HL TB.den tx_validOuts_T2.hs → Prop) (nx1 : HL TB.den tx_validOuts_T1.hs → Prop) (i : HL TB.den tx_validOuts_T1.hs) : Prop := WP TB tx_validOuts_cx 42 0 (cA (cA (cB (cB (cB (cA (cA (cB (cB (cA (cA (cB (cA (cB (cB tx_validOuts_code))))))))))))))) .no (tx_validOuts_T1.fill TB i) (tx_validOuts_Q4 o nx2 nx1)
noncomputable def tx_validOuts_A7 (o : tx_validOuts_O) (nx2 : HL TB.den tx_validOuts_T2.hs → Prop) : An TB := .lp [] tx_validOuts_T1 (tx_validOuts_L1 o nx2) fun nx1 => .no
noncomputable def tx_validOuts_A9 (o : tx_validOuts_O) (nx2 : HL TB.den tx_validOuts_T2.hs → Prop) : An TB := .nd [] .no [] (.nd [] .no [] (.nd [] .no [] (tx_validOuts_A7 o nx2)))
noncomputable def tx_validOuts_A11 (o : tx_validOuts_O) (nx2 : HL TB.den tx_validOuts_T2.hs → Prop) : An TB := .nd [] .no [] (.nd [] .no [] (.nd [] (tx_validOuts_A9 o nx2) [] .no))
noncomputable def tx_validOuts_L2 (o : tx_validOuts_O) (nx2 : HL TB.den tx_validOuts_T2.hs → Prop) (i : HL TB.den tx_validOuts_T2.hs) : Prop := WP TB tx_validOuts_cx 42 0 (cA (cA (cB (cA (cB (cB tx_validOuts_code)))))) (tx_validOuts_A11 o nx2) (tx_validOuts_T2.fill TB i) (tx_validOuts_Q2 o nx2)
noncomputable def tx_validOuts_A12 (o : tx_validOuts_O) : An TB := .lp [] tx_validOuts_T2 (tx_validOuts_L2 o) fun nx2 => (tx_validOuts_A11 o nx2)
noncomputable def tx_validOuts_A14 (o : tx_validOuts_O) : An TB := .nd [] .no [] (.nd [] (.nd [] .no [] (tx_validOuts_A12 o)) [] .no)
noncomputable def tx_validOuts_an (o : tx_validOuts_O) : An TB := .nd [] .no [] (tx_validOuts_A14 o)
noncomputable def tx_validOuts_Body (x : tx_validOuts_I) (o : tx_validOuts_O) : Prop := WPh TB tx_validOuts_cx 42 0 tx_validOuts_code (tx_validOuts_an o) (tx_validOuts_sh.st TB x) (retTQ TB tx_validOuts_cx tx_validOuts_sh tx_validOuts_rs o)
set_option maxRecDepth 100000 in
theorem tx_validOuts_obl (o : tx_validOuts_O) : OblH TB tx_validOuts_cx 42 0 tx_validOuts_code (tx_validOuts_an o) (retTQ TB tx_validOuts_cx tx_validOuts_sh tx_validOuts_rs o) :=
  OblH.of_eq (X := (True ∧ ((True ∧ ((True ∧ True) ∧ True)) ∧ ((True ∧ ((∀ nx i, (tx_validOuts_L2 o) nx i = (tx_validOuts_L2 o) nx i) ∧ ∀ nx2 : HL TB.den tx_validOuts_T2.hs → Prop, (True ∧ ((True ∧ True) ∧ ((True ∧ ((True ∧ ((True ∧ True) ∧ True)) ∧ (True ∧ ((∀ nx i, (tx_validOuts_L1 o nx2) nx i = (tx_validOuts_L1 o nx2) nx i) ∧ ∀ nx1 : HL TB.den tx_validOuts_T1.hs → Prop, (True ∧ ((True ∧ True) ∧ ((True ∧ (True ∧ ((True ∧ True) ∧ True))) ∧ True))))))) ∧ True))))) ∧ (True ∧ True))))) (by kernel_rfl) ⟨trivial, ⟨⟨trivial, ⟨⟨trivial, trivial⟩, trivial⟩⟩, ⟨⟨trivial, ⟨fun _ _ => rfl, fun _ => ⟨trivial, ⟨⟨trivial, trivial⟩, ⟨⟨trivial, ⟨⟨trivial, ⟨⟨trivial, trivial⟩, trivial⟩⟩, ⟨trivial, ⟨fun _ _ => rfl, fun _ => ⟨trivial, ⟨⟨trivial, trivial⟩, ⟨⟨trivial, ⟨trivial, ⟨⟨trivial, trivial⟩, trivial⟩⟩⟩, trivial⟩⟩⟩⟩⟩⟩⟩, trivial⟩⟩⟩⟩⟩, ⟨trivial, trivial⟩⟩⟩⟩
set_option maxRecDepth 100000 in
theorem tx_validOuts_snd {x : tx_validOuts_I} {o : tx_validOuts_O} (h : tx_validOuts_Body x o) : SoundH Try.prog tx_validOuts_sh.f ((tx_validOuts_sh.args idf x).map (er TB)) ((tx_validOuts_sh.obs idf x).map (erO TB)) (er TB (tx_validOuts_sh.val idf o)) ((tx_validOuts_sh.ops idf o).map (erO TB)) :=
  Con.soundH (c := tx_validOuts_sh) (C := tx_validOuts_cx) TBok ⟨inf_ok, (all_cons group_Valid_ok all_nil), all_nil⟩ mix Try.func59 (show Try.f59.body = some tx_validOuts_code by kernel_rfl) (show Try.f59.ntmps = 42 by kernel_rfl) (show Try.f59.results.toList = tx_validOuts_rs by kernel_rfl) rfl h (tx_validOuts_obl o)
set_option maxRecDepth 100000 in
theorem tx_validOuts_in {p0 : List TOut} {r0 : Bool} (h :
((decide (4 < (p0.length : Int)) = true →
 false = r0) ∧
(decide (4 < (p0.length : Int)) = false →
 Md.Loop (p0, ((p0.length : Int) : Int), (0 : Int), ()) (tx_validOuts_L2 (r0, ()))))) : tx_validOuts_Body (p0, ()) (r0, ()) := WPh.of_eq (by kernel_rfl) h
def tx_validOuts_B2 (r0 : Bool) (nx2 : HL TB.den tx_validOuts_T2.hs → Prop) (k2 : Int → Prop) (s10 : List TOut) (s11 : Int) (s12 : Int) : Prop :=
(decide (s12 < s11) = true →
(0 ≤ s12) ∧ s12 < (s10.length : Int) ∧ let v1 : Bool := decide (18446744069414584321 ≤ ((ix s10 s12).Commit))
(v1 = true →
 false = r0) ∧
(v1 = false →
 let r2 : Bool := vPoint (TA2.mk ((ix s10 s12).Point_a0) ((ix s10 s12).Point_a1)).a0 (TA2.mk ((ix s10 s12).Point_a0) ((ix s10 s12).Point_a1)).a1
((!r2) = true →
 false = r0) ∧
((!r2) = false →
 let v3 : Bool := ((((ix s10 s12).Cipher).length : Int) != 3)
(v3 = true →
 false = r0) ∧
(v3 = false →
 Md.Loop (s10, s11, s12, ((ix s10 s12).Point_a0 : Int), ((ix s10 s12).Point_a1 : Int), r2, ((!r2) : Bool), ((ix s10 s12).Cipher : List Int), ((((ix s10 s12).Cipher).length : Int) : Int), v3, ((ix s10 s12).Cipher : List Int), ((((ix s10 s12).Cipher).length : Int) : Int), (0 : Int), ((ix s10 s12).Commit : Int), ((ix s10 s12).Point_a0 : Int), ((ix s10 s12).Point_a1 : Int), ((ix s10 s12).Cipher : List Int), ()) (tx_validOuts_L1 (r0, ()) nx2))))) ∧
(decide (s12 < s11) = false →
 true = r0)
set_option maxRecDepth 100000 in
theorem tx_validOuts_lp2 {r0 : Bool} {s10 : List TOut} {s11 : Int} {s12 : Int} (inv : Int → Prop) (μ : Int → Nat) (h0 : inv s12) (hs : ∀ (s12 : Int), inv s12 → tx_validOuts_B2 r0 (fun s : (List TOut) × Int × Int × Unit => ((s.1 = s10 ∧ s.2.1 = s11) ∧ inv s.2.2.1) ∧ μ s.2.2.1 < μ s12) (fun s12q => inv s12q ∧ μ s12q < μ s12) s10 s11 s12) : Md.Loop (s10, s11, s12, ()) (tx_validOuts_L2 (r0, ())) :=
  ⟨⟨fun s : (List TOut) × Int × Int × Unit => (s.1 = s10 ∧ s.2.1 = s11) ∧ inv s.2.2.1, fun s : (List TOut) × Int × Int × Unit => μ s.2.2.1, ⟨⟨rfl, rfl⟩, h0⟩, fun (s10p, s11p, s12p, ()) ⟨⟨eq0, eq1⟩, hi⟩ => by
    have eq0 : s10p = s10 := eq0; subst s10p; have eq1 : s11p = s11 := eq1; subst s11p; exact mpr_of (by kernel_rfl) ((congrArg (fun k => tx_validOuts_B2 r0 (fun s : (List TOut) × Int × Int × Unit => ((s.1 = s10 ∧ s.2.1 = s11) ∧ inv s.2.2.1) ∧ μ s.2.2.1 < μ s12p) k s10 s11 s12p) (lpk1 (⟨rfl, rfl⟩ : s10 = s10 ∧ s11 = s11) inv (fun s12q => μ s12q < μ s12p))).mpr (hs s12p hi))⟩⟩
def tx_validOuts_B1 (r0 : Bool) (nx2 : HL TB.den tx_validOuts_T2.hs → Prop) (k1 : Int → Prop) (s10 : List TOut) (s11 : Int) (s12 : Int) (s21_0 : Int) (s21_1 : Int) (s22 : Bool) (s23 : Bool) (s27 : List Int) (s28 : Int) (s29 : Bool) (s32 : List Int) (s33 : Int) (h0_0 : Int) (h0_1 : Int) (h0_2 : Int) (h0_3 : List Int) (s34 : Int) : Prop :=
(decide (s34 < s33) = true →
(0 ≤ s34) ∧ s34 < (s32.length : Int) ∧ let v4 : Bool := decide (18446744069414584321 ≤ (ix s32 s34))
(v4 = true →
 false = r0) ∧
(v4 = false →
 k1 (IntKind.i64.wrap (s34 + 1) : Int))) ∧
(decide (s34 < s33) = false →
 nx2 (s10, s11, (IntKind.i64.wrap (s12 + 1) : Int), ()))
set_option maxRecDepth 100000 in
theorem tx_validOuts_lp1 {r0 : Bool} {nx2 : HL TB.den tx_validOuts_T2.hs → Prop} {s10 : List TOut} {s11 : Int} {s12 : Int} {s21_0 : Int} {s21_1 : Int} {s22 : Bool} {s23 : Bool} {s27 : List Int} {s28 : Int} {s29 : Bool} {s32 : List Int} {s33 : Int} {h0_0 : Int} {h0_1 : Int} {h0_2 : Int} {h0_3 : List Int} {s34 : Int} (inv : Int → Prop) (μ : Int → Nat) (h0 : inv s34) (hs : ∀ (s34 : Int), inv s34 → tx_validOuts_B1 r0 nx2 (fun s34q => inv s34q ∧ μ s34q < μ s34) s10 s11 s12 s21_0 s21_1 s22 s23 s27 s28 s29 s32 s33 h0_0 h0_1 h0_2 h0_3 s34) : Md.Loop (s10, s11, s12, s21_0, s21_1, s22, s23, s27, s28, s29, s32, s33, s34, h0_0, h0_1, h0_2, h0_3, ()) (tx_validOuts_L1 (r0, ()) nx2) :=
  ⟨⟨fun s : (List TOut) × Int × Int × Int × Int × Bool × Bool × (List Int) × Int × Bool × (List Int) × Int × Int × Int × Int × Int × (List Int) × Unit => (s.1 = s10 ∧ s.2.1 = s11 ∧ s.2.2.1 = s12 ∧ s.2.2.2.1 = s21_0 ∧ s.2.2.2.2.1 = s21_1 ∧ s.2.2.2.2.2.1 = s22 ∧ s.2.2.2.2.2.2.1 = s23 ∧ s.2.2.2.2.2.2.2.1 = s27 ∧ s.2.2.2.2.2.2.2.2.1 = s28 ∧ s.2.2.2.2.2.2.2.2.2.1 = s29 ∧ s.2.2.2.2.2.2.2.2.2.2.1 = s32 ∧ s.2.2.2.2.2.2.2.2.2.2.2.1 = s33 ∧ s.2.2.2.2.2.2.2.2.2.2.2.2.2.1 = h0_0 ∧ s.2.2.2.2.2.2.2.2.2.2.2.2.2.2.1 = h0_1 ∧ s.2.2.2.2.2.2.2.2.2.2.2.2.2.2.2.1 = h0_2 ∧ s.2.2.2.2.2.2.2.2.2.2.2.2.2.2.2.2.1 = h0_3) ∧ inv s.2.2.2.2.2.2.2.2.2.2.2.2.1, fun s : (List TOut) × Int × Int × Int × Int × Bool × Bool × (List Int) × Int × Bool × (List Int) × Int × Int × Int × Int × Int × (List Int) × Unit => μ s.2.2.2.2.2.2.2.2.2.2.2.2.1, ⟨⟨rfl, rfl, rfl, rfl, rfl, rfl, rfl, rfl, rfl, rfl, rfl, rfl, rfl, rfl, rfl, rfl⟩, h0⟩, fun (s10p, s11p, s12p, s21_0p, s21_1p, s22p, s23p, s27p, s28p, s29p, s32p, s33p, s34p, h0_0p, h0_1p, h0_2p, h0_3p, ()) ⟨⟨eq0, eq1, eq2, eq3, eq4, eq5, eq6, eq7, eq8, eq9, eq10, eq11, eq12, eq13, eq14, eq15⟩, hi⟩ => by
    have eq0 : s10p = s10 := eq0; subst s10p; have eq1 : s11p = s11 := eq1; subst s11p; have eq2 : s12p = s12 := eq2; subst s12p; have eq3 : s21_0p = s21_0 := eq3; subst s21_0p; have eq4 : s21_1p = s21_1 := eq4; subst s21_1p; have eq5 : s22p = s22 := eq5; subst s22p; have eq6 : s23p = s23 := eq6; subst s23p; have eq7 : s27p = s27 := eq7; subst s27p; have eq8 : s28p = s28 := eq8; subst s28p; have eq9 : s29p = s29 := eq9; subst s29p; have eq10 : s32p = s32 := eq10; subst s32p; have eq11 : s33p = s33 := eq11; subst s33p; have eq12 : h0_0p = h0_0 := eq12; subst h0_0p; have eq13 : h0_1p = h0_1 := eq13; subst h0_1p; have eq14 : h0_2p = h0_2 := eq14; subst h0_2p; have eq15 : h0_3p = h0_3 := eq15; subst h0_3p; exact mpr_of (by kernel_rfl) ((congrArg (fun k => tx_validOuts_B1 r0 nx2 k s10 s11 s12 s21_0 s21_1 s22 s23 s27 s28 s29 s32 s33 h0_0 h0_1 h0_2 h0_3 s34p) (lpk1 (⟨rfl, rfl, rfl, rfl, rfl, rfl, rfl, rfl, rfl, rfl, rfl, rfl, rfl, rfl, rfl, rfl⟩ : s10 = s10 ∧ s11 = s11 ∧ s12 = s12 ∧ s21_0 = s21_0 ∧ s21_1 = s21_1 ∧ s22 = s22 ∧ s23 = s23 ∧ s27 = s27 ∧ s28 = s28 ∧ s29 = s29 ∧ s32 = s32 ∧ s33 = s33 ∧ h0_0 = h0_0 ∧ h0_1 = h0_1 ∧ h0_2 = h0_2 ∧ h0_3 = h0_3) inv (fun s34q => μ s34q < μ s34p))).mpr (hs s34p hi))⟩⟩
theorem bd59 : Callable Try.prog 59 := ⟨by rw [Try.func59]; kernel_rfl, by rw [Try.func59]; show some _ ≠ some _; decide⟩
theorem tx_validOuts_body (p0 : List TOut) : tx_validOuts_Body (p0, ()) ((vOuts p0 : Bool), ()) := by
  refine tx_validOuts_in ⟨fun h => ?_, fun h => ?_⟩
  · have h := of_decide_eq_true h
    unfold vOuts
    rw [decide_eq_false (by omega)]
    rfl
  · have h := of_decide_eq_false h
    have bad : ∀ i, 0 ≤ i → i < (p0.length : Int) → vOut (ix p0 i) = false → false = vOuts p0 := by
      intro i h0 h1 hb
      unfold vOuts
      have : p0.all vOut = false := List.all_eq_false.2 ⟨_, ix_mem p0 i h0 h1, by simp [hb]⟩
      rw [this]
      simp
    refine tx_validOuts_lp2 (fun i => 0 ≤ i ∧ i ≤ p0.length ∧ ∀ x ∈ p0.take i.toNat, vOut x = true) (fun i => (p0.length - i).toNat) ⟨by omega, by omega, by simp⟩ ?_
    rintro i ⟨g0, g1, g2⟩
    refine ⟨fun hh => ?_, fun hh => ?_⟩
    · have hh := of_decide_eq_true hh
      have bd := bad i g0 hh
      unfold vOut at bd
      refine ⟨g0, hh, fun e => bd ?_, fun e => ⟨fun e2 => bd ?_, fun e2 => ⟨fun e3 => bd ?_, fun e3 => ?_⟩⟩⟩
      · have e := of_decide_eq_true e
        rw [decide_eq_false (by omega)]
        rfl
      · have e2 : vPoint (ix p0 i).Point_a0 (ix p0 i).Point_a1 = false := by simpa using e2
        simp [e2]
      · have e3 : ¬ (ix p0 i).Cipher.length = 3 := by
          have : ¬ ((ix p0 i).Cipher.length : Int) = 3 := by simpa using e3
          omega
        simp [e3]
      · have e := of_decide_eq_false e
        have e2 : vPoint (ix p0 i).Point_a0 (ix p0 i).Point_a1 = true := by simpa using e2
        have e3 : (ix p0 i).Cipher.length = 3 := by
          have : ((ix p0 i).Cipher.length : Int) = 3 := by simpa using e3
          omega
        refine tx_validOuts_lp1 (fun k => 0 ≤ k ∧ k ≤ 3 ∧ ∀ x ∈ (ix p0 i).Cipher.take k.toNat, x < 18446744069414584321) (fun k => (3 - k).toNat) ⟨by omega, by omega, by simp⟩ ?_
        rintro k ⟨k0, k1, k2⟩
        refine ⟨fun hk => ?_, fun hk => ?_⟩
        · have hk := of_decide_eq_true hk
          refine ⟨k0, hk, fun e4 => bd ?_, fun e4 => ?_⟩
          · have e4 := of_decide_eq_true e4
            have : (ix p0 i).Cipher.all (fun n => decide (n < 18446744069414584321)) = false := List.all_eq_false.2 ⟨_, ix_mem _ k k0 hk, by simp; omega⟩
            rw [this]
            simp
          · have e4 := of_decide_eq_false e4
            rw [inc k 3 k0 (by omega) (by omega)]
            refine ⟨⟨by omega, by omega, ?_⟩, by omega⟩
            rw [take_succ_ix _ k k0 hk]
            intro x hx
            rcases List.mem_append.1 hx with hx | hx
            · exact k2 x hx
            · have : x = ix (ix p0 i).Cipher k := by simpa using hx
              omega
        · have hk := of_decide_eq_false hk
          rw [List.take_of_length_le (by omega)] at k2
          have hv : vOut (ix p0 i) = true := (vOut_iff _).2 ⟨by omega, e2, e3, k2⟩
          have hi := inc i p0.length g0 hh (by omega)
          rw [hi]
          have nxt : (0 ≤ i + 1 ∧ i + 1 ≤ p0.length ∧ ∀ x ∈ p0.take (i + 1).toNat, vOut x = true) ∧ (p0.length - (i + 1)).toNat < (p0.length - i).toNat := by
            refine ⟨⟨by omega, by omega, ?_⟩, by omega⟩
            rw [take_succ_ix p0 i g0 hh]
            intro x hx
            rcases List.mem_append.1 hx with hx | hx
            · exact g2 x hx
            · have : x = ix p0 i := by simpa using hx
              rw [this]; exact hv
          exact ⟨⟨⟨rfl, rfl⟩, nxt.1⟩, nxt.2⟩
    · have hh := of_decide_eq_false hh
      rw [List.take_of_length_le (by omega)] at g2
      unfold vOuts
      have : p0.all vOut = true := by simpa using g2
      rw [this, decide_eq_true (by omega)]
      rfl
noncomputable def tx_validOuts_con : Con TB.den := tx_validOuts_sh.totR fun x => ((fun (p0 : List TOut) => (vOuts p0 : Bool)) x.1, ())
theorem tx_validOuts_ok : tx_validOuts_con.Ok Try.prog TB := Con.ok_tot tx_validOuts_sh bd59 fun x => tx_validOuts_snd (tx_validOuts_body x.1)
end Go.Proofs.Ytnmakgfmimagmaa
namespace Go.Proofs.Ytnmakgfmimagmaa
open Go Go.Bv Go.Cv Go.Md Go.RowKit
def tx_Valid_sh : Con TB.den := Con.mk0 29 [.agg [.d (.int .u64), .d (.sl (.int .u64)), .d (.sl (.st 0)), .d (.int .u64), .d (.int .u64), .d (.int .u64), .d (.int .u64), .d (.int .u64), .d (.int .i64), .d (.sl (.int .u8))]] [] (.one (.one (.d (.int .i64)))) []
abbrev tx_Valid_I := HL TB.den (hsT tx_Valid_sh.ins (hsOs tx_Valid_sh.pre))
abbrev tx_Valid_O := HL TB.den (hsV tx_Valid_sh.res (hsOs tx_Valid_sh.post))
noncomputable def tx_Valid_cx : Cx TB := ⟨inf, [tx_validMarks_con, tx_validOuts_con, tx_validAmounts_con], [], 4⟩
noncomputable def tx_Valid_code : Code := Try.f29.body.getD .skip
noncomputable def tx_Valid_rs : List ResultVar := Try.f29.results.toList
noncomputable def tx_Valid_an (o : tx_Valid_O) : An TB := .no
noncomputable def tx_Valid_Body (x : tx_Valid_I) (o : tx_Valid_O) : Prop := WPh TB tx_Valid_cx 35 0 tx_Valid_code (tx_Valid_an o) (tx_Valid_sh.st TB x) (retTQ TB tx_Valid_cx tx_Valid_sh tx_Valid_rs o)
set_option maxRecDepth 100000 in
theorem tx_Valid_obl (o : tx_Valid_O) : OblH TB tx_Valid_cx 35 0 tx_Valid_code (tx_Valid_an o) (retTQ TB tx_Valid_cx tx_Valid_sh tx_Valid_rs o) :=
  OblH.of_eq (X := (True ∧ ((True ∧ ((True ∧ True) ∧ True)) ∧ ((True ∧ ((True ∧ True) ∧ True)) ∧ ((True ∧ ((True ∧ True) ∧ True)) ∧ (True ∧ True)))))) (by kernel_rfl) ⟨trivial, ⟨⟨trivial, ⟨⟨trivial, trivial⟩, trivial⟩⟩, ⟨⟨trivial, ⟨⟨trivial, trivial⟩, trivial⟩⟩, ⟨⟨trivial, ⟨⟨trivial, trivial⟩, trivial⟩⟩, ⟨trivial, trivial⟩⟩⟩⟩⟩
set_option maxRecDepth 100000 in
theorem tx_Valid_snd {x : tx_Valid_I} {o : tx_Valid_O} (h : tx_Valid_Body x o) : SoundH Try.prog tx_Valid_sh.f ((tx_Valid_sh.args idf x).map (er TB)) ((tx_Valid_sh.obs idf x).map (erO TB)) (er TB (tx_Valid_sh.val idf o)) ((tx_Valid_sh.ops idf o).map (erO TB)) :=
  Con.soundH (c := tx_Valid_sh) (C := tx_Valid_cx) TBok ⟨inf_ok, (all_cons tx_validMarks_ok (all_cons tx_validOuts_ok (all_cons tx_validAmounts_ok all_nil))), all_nil⟩ mix Try.func29 (show Try.f29.body = some tx_Valid_code by kernel_rfl) (show Try.f29.ntmps = 35 by kernel_rfl) (show Try.f29.results.toList = tx_Valid_rs by kernel_rfl) rfl h (tx_Valid_obl o)
set_option maxRecDepth 100000 in
theorem tx_Valid_in {p0 : TTx} {r0 : Int} (h :
(((!vMarks p0.Marks) = true →
 1 = r0) ∧
((!vMarks p0.Marks) = false →
((!vOuts p0.Outs) = true →
 1 = r0) ∧
((!vOuts p0.Outs) = false →
((!vAmounts p0) = true →
 1 = r0) ∧
((!vAmounts p0) = false →
 let v1 : Bool := decide (18446744069414584321 ≤ p0.Anchor)
(v1 = true →
 1 = r0) ∧
(v1 = false →
(decide (p0.Expiry < 0) = true →
 1 = r0) ∧
(decide (p0.Expiry < 0) = false →
(decide (1048576 < p0.Expiry) = true →
 1 = r0) ∧
(decide (1048576 < p0.Expiry) = false →
 let v2 : Bool := decide (1048576 < (p0.Proof.length : Int))
(v2 = true →
 3 = r0) ∧
(v2 = false →
 0 = r0))))))))) : tx_Valid_Body (p0.Anchor, p0.Marks, p0.Outs, p0.Deposit, p0.Withdraw, p0.Fee, p0.Account, p0.Nonce, p0.Expiry, p0.Proof, ()) (r0, ()) := WPh.of_eq (by kernel_rfl) h
theorem bd29 : Callable Try.prog 29 := ⟨by rw [Try.func29]; kernel_rfl, by rw [Try.func29]; show some _ ≠ some _; decide⟩
theorem tx_Valid_body (p0 : TTx) : tx_Valid_Body (p0.Anchor, p0.Marks, p0.Outs, p0.Deposit, p0.Withdraw, p0.Fee, p0.Account, p0.Nonce, p0.Expiry, p0.Proof, ()) ((validE p0 : Int), ()) := by
  refine tx_Valid_in ?_
  unfold validE vRest
  grind
noncomputable def tx_Valid_con : Con TB.den := tx_Valid_sh.totR fun x => ((fun (p0 : TTx) => (validE p0 : Int)) (TTx.mk x.1 x.2.1 x.2.2.1 x.2.2.2.1 x.2.2.2.2.1 x.2.2.2.2.2.1 x.2.2.2.2.2.2.1 x.2.2.2.2.2.2.2.1 x.2.2.2.2.2.2.2.2.1 x.2.2.2.2.2.2.2.2.2.1), ())
theorem tx_Valid_ok : tx_Valid_con.Ok Try.prog TB := Con.ok_tot tx_Valid_sh bd29 fun x => tx_Valid_snd (tx_Valid_body (TTx.mk x.1 x.2.1 x.2.2.1 x.2.2.2.1 x.2.2.2.2.1 x.2.2.2.2.2.1 x.2.2.2.2.2.2.1 x.2.2.2.2.2.2.2.1 x.2.2.2.2.2.2.2.2.1 x.2.2.2.2.2.2.2.2.2.1))
end Go.Proofs.Ytnmakgfmimagmaa
namespace Go.Proofs.Ytnmakgfmimagmaa
open Go Go.Bv Go.Cv Go.Md Go.RowKit
def wire_appendDigits_sh : Con TB.den := Con.mk0 85 [.one (.own 0), .one (.d (.int .u64)), .one (.d (.int .i64))] [.tip (.int .u8)] (.one (.one (.own 0))) [.tip (.int .u8)]
abbrev wire_appendDigits_I := HL TB.den (hsT wire_appendDigits_sh.ins (hsOs wire_appendDigits_sh.pre))
abbrev wire_appendDigits_O := HL TB.den (hsV wire_appendDigits_sh.res (hsOs wire_appendDigits_sh.post))
noncomputable def wire_appendDigits_cx : Cx TB := ⟨inf, [], [], 4⟩
noncomputable def wire_appendDigits_code : Code := Try.f85.body.getD .skip
noncomputable def wire_appendDigits_rs : List ResultVar := Try.f85.results.toList
noncomputable def wire_appendDigits_Q1 (o : wire_appendDigits_O) : Exit → TSt TB.den → Prop := thenT TB (fun s => ghs TB [] s fun s => WP TB wire_appendDigits_cx 19 1 (cB (cB wire_appendDigits_code)) .no s (retTQ TB wire_appendDigits_cx wire_appendDigits_sh wire_appendDigits_rs o)) (retTQ TB wire_appendDigits_cx wire_appendDigits_sh wire_appendDigits_rs o)
def wire_appendDigits_T1 : Tm := ⟨[0], [.tip (.int .u8)], [0, 1, 7, 8], [.one (.own 0), .one (.d (.int .u64)), .one (.d (.int .i64)), .one (.d (.int .i64))], 1⟩
noncomputable def wire_appendDigits_Q2 (o : wire_appendDigits_O) (nx1 : HL TB.den wire_appendDigits_T1.hs → Prop) : Exit → TSt TB.den → Prop := thenT TB (fun s => wire_appendDigits_T1.mat TB 1 s nx1) (blockT TB 0 (wire_appendDigits_Q1 o))
noncomputable def wire_appendDigits_L1 (o : wire_appendDigits_O) (nx1 : HL TB.den wire_appendDigits_T1.hs → Prop) (i : HL TB.den wire_appendDigits_T1.hs) : Prop := WP TB wire_appendDigits_cx 19 1 (cA (cA (cB (cA (cB wire_appendDigits_code))))) .no (wire_appendDigits_T1.fill TB i) (wire_appendDigits_Q2 o nx1)
noncomputable def wire_appendDigits_A5 (o : wire_appendDigits_O) : An TB := .lp [] wire_appendDigits_T1 (wire_appendDigits_L1 o) fun nx1 => .no
noncomputable def wire_appendDigits_an (o : wire_appendDigits_O) : An TB := .nd [] .no [] (.nd [] (.nd [] .no [] (wire_appendDigits_A5 o)) [] .no)
noncomputable def wire_appendDigits_Body (x : wire_appendDigits_I) (o : wire_appendDigits_O) : Prop := WPh TB wire_appendDigits_cx 19 1 wire_appendDigits_code (wire_appendDigits_an o) (wire_appendDigits_sh.st TB x) (retTQ TB wire_appendDigits_cx wire_appendDigits_sh wire_appendDigits_rs o)
set_option maxRecDepth 100000 in
theorem wire_appendDigits_obl (o : wire_appendDigits_O) : OblH TB wire_appendDigits_cx 19 1 wire_appendDigits_code (wire_appendDigits_an o) (retTQ TB wire_appendDigits_cx wire_appendDigits_sh wire_appendDigits_rs o) :=
  OblH.of_eq (X := (True ∧ ((True ∧ ((∀ nx i, (wire_appendDigits_L1 o) nx i = (wire_appendDigits_L1 o) nx i) ∧ ∀ nx1 : HL TB.den wire_appendDigits_T1.hs → Prop, (True ∧ ((True ∧ True) ∧ ((True ∧ True) ∧ True))))) ∧ (True ∧ True)))) (by kernel_rfl) ⟨trivial, ⟨⟨trivial, ⟨fun _ _ => rfl, fun _ => ⟨trivial, ⟨⟨trivial, trivial⟩, ⟨⟨trivial, trivial⟩, trivial⟩⟩⟩⟩⟩, ⟨trivial, trivial⟩⟩⟩
set_option maxRecDepth 100000 in
theorem wire_appendDigits_snd {x : wire_appendDigits_I} {o : wire_appendDigits_O} (h : wire_appendDigits_Body x o) : SoundH Try.prog wire_appendDigits_sh.f ((wire_appendDigits_sh.args idf x).map (er TB)) ((wire_appendDigits_sh.obs idf x).map (erO TB)) (er TB (wire_appendDigits_sh.val idf o)) ((wire_appendDigits_sh.ops idf o).map (erO TB)) :=
  Con.soundH (c := wire_appendDigits_sh) (C := wire_appendDigits_cx) TBok ⟨inf_ok, all_nil, all_nil⟩ mix Try.func85 (show Try.f85.body = some wire_appendDigits_code by kernel_rfl) (show Try.f85.ntmps = 19 by kernel_rfl) (show Try.f85.results.toList = wire_appendDigits_rs by kernel_rfl) rfl h (wire_appendDigits_obl o)
set_option maxRecDepth 100000 in
theorem wire_appendDigits_in {p1 : Int} {p2 : Int} {w0 : List Int} {e0 : List Int} (h :
((w0 = w0) ∧ Md.Loop (p1, p2, (0 : Int), w0, ()) (wire_appendDigits_L1 (e0, ())))) : wire_appendDigits_Body (p1, p2, w0, ()) (e0, ()) := WPh.of_eq (by kernel_rfl) h
def wire_appendDigits_B1 (e0 : List Int) (k1 : Int → Int → List Int → Prop) (s7 : Int) (s1 : Int) (s8 : Int) (g0 : List Int) : Prop :=
(decide (s8 < s7) = true →
 g0.length = g0.length ∧ (g0.length + [IntKind.u8.wrap s1].length) * 1 ≤ 140737488355328 ∧ g0.length + [IntKind.u8.wrap s1].length ≤ maxLen ∧ (g0 ++ [IntKind.u8.wrap s1] = g0 ++ [IntKind.u8.wrap s1]) ∧ k1 (ishr .u64 s1 8 : Int) (IntKind.i64.wrap (s8 + 1) : Int) (g0 ++ [IntKind.u8.wrap s1] : List Int)) ∧
(decide (s8 < s7) = false →
(g0 = g0) ∧ g0 = e0)
set_option maxRecDepth 100000 in
theorem wire_appendDigits_lp1 {e0 : List Int} {s7 : Int} {s1 : Int} {s8 : Int} {g0 : List Int} (inv : Int → Int → List Int → Prop) (μ : Int → Int → List Int → Nat) (h0 : inv s1 s8 g0) (hs : ∀ (s1 : Int) (s8 : Int) (g0 : List Int), inv s1 s8 g0 → wire_appendDigits_B1 e0 (fun s1q s8q g0q => inv s1q s8q g0q ∧ μ s1q s8q g0q < μ s1 s8 g0) s7 s1 s8 g0) : Md.Loop (s1, s7, s8, g0, ()) (wire_appendDigits_L1 (e0, ())) :=
  ⟨⟨fun s : Int × Int × Int × (List Int) × Unit => (s.2.1 = s7) ∧ inv s.1 s.2.2.1 s.2.2.2.1, fun s : Int × Int × Int × (List Int) × Unit => μ s.1 s.2.2.1 s.2.2.2.1, ⟨rfl, h0⟩, fun (s1p, s7p, s8p, g0p, ()) ⟨eq0, hi⟩ => by
    have eq0 : s7p = s7 := eq0; subst s7p; exact mpr_of (by kernel_rfl) ((congrArg (fun k => wire_appendDigits_B1 e0 k s7 s1p s8p g0p) (lpk3 (rfl : s7 = s7) inv (fun s1q s8q g0q => μ s1q s8q g0q < μ s1p s8p g0p))).mpr (hs s1p s8p g0p hi))⟩⟩
theorem bd85 : Callable Try.prog 85 := ⟨by rw [Try.func85]; kernel_rfl, by rw [Try.func85]; show some _ ≠ some _; decide⟩
theorem wire_appendDigits_body (p1 : Int) (p2 : Int) (w0 : List Int) (h : U64 p1 ∧ (0 ≤ p2 ∧ p2 ≤ 8) ∧ w0.length ≤ 137438953472) : wire_appendDigits_Body (p1, p2, w0, ()) ((w0 ++ dig p2.toNat p1 : List Int), ()) := by
  obtain ⟨h1, h2, h3⟩ := h
  refine wire_appendDigits_in ⟨rfl, wire_appendDigits_lp1 (fun n i g => 0 ≤ i ∧ i ≤ p2 ∧ U64 n ∧ n = p1 / 256 ^ i.toNat ∧ g = w0 ++ dig i.toNat p1) (fun _ i _ => (p2 - i).toNat) ⟨by omega, by omega, h1, by simp, by simp [dig]⟩ ?_⟩
  rintro n i g ⟨g0, g1, g2, g3, rfl⟩
  refine ⟨fun h => ?_, fun h => ?_⟩
  · have h := of_decide_eq_true h
    rw [inc i p2 g0 h (by omega), ishr8, u8w]
    refine ⟨rfl, ?_, ?_, rfl, ⟨by omega, by omega, ⟨by omega, by omega⟩, ?_, ?_⟩, by omega⟩
    · simp; omega
    · simp; unfold maxLen; omega
    · rw [g3, show (i + 1).toNat = i.toNat + 1 by omega, Int.ediv_ediv_of_nonneg (Int.le_of_lt (pow256_pos _)), Int.pow_succ]
    · rw [show (i + 1).toNat = i.toNat + 1 by omega, dig_snoc, List.append_assoc, g3]
  · have h := of_decide_eq_false h
    exact ⟨rfl, by rw [show i = p2 by omega]⟩
noncomputable def wire_appendDigits_con : Con TB.den := wire_appendDigits_sh.fnR (fun x => (fun (p1 : Int) (p2 : Int) (w0 : List Int) => U64 p1 ∧ (0 ≤ p2 ∧ p2 ≤ 8) ∧ w0.length ≤ 137438953472) x.1 x.2.1 x.2.2.1) fun x => ((fun (p1 : Int) (p2 : Int) (w0 : List Int) => (w0 ++ dig p2.toNat p1 : List Int)) x.1 x.2.1 x.2.2.1, ())
theorem wire_appendDigits_ok : wire_appendDigits_con.Ok Try.prog TB := Con.ok_fn wire_appendDigits_sh bd85 fun x h => wire_appendDigits_snd (wire_appendDigits_body x.1 x.2.1 x.2.2.1 h)
end Go.Proofs.Ytnmakgfmimagmaa
namespace Go.Proofs.Ytnmakgfmimagmaa
open Go Go.Bv Go.Cv Go.Md Go.RowKit
def wire_appendLength_sh : Con TB.den := Con.mk0 73 [.one (.own 0), .one (.d (.int .i64))] [.tip (.int .u8)] (.one (.one (.own 0))) [.tip (.int .u8)]
abbrev wire_appendLength_I := HL TB.den (hsT wire_appendLength_sh.ins (hsOs wire_appendLength_sh.pre))
abbrev wire_appendLength_O := HL TB.den (hsV wire_appendLength_sh.res (hsOs wire_appendLength_sh.post))
noncomputable def wire_appendLength_cx : Cx TB := ⟨inf, [wire_appendDigits_con], [], 4⟩
noncomputable def wire_appendLength_code : Code := Try.f73.body.getD .skip
noncomputable def wire_appendLength_rs : List ResultVar := Try.f73.results.toList
def wire_appendLength_TJ1 : Tm := ⟨[0], [.tip (.int .u8)], [0, 1], [.one (.own 0), .one (.d (.int .i64))], 1⟩
noncomputable def wire_appendLength_J1d (o : wire_appendLength_O) (i : HL TB.den wire_appendLength_TJ1.hs) : Prop := ghs TB [] (wire_appendLength_TJ1.fill TB i) fun s => WP TB wire_appendLength_cx 15 1 (cB (cB wire_appendLength_code)) .no s (retTQ TB wire_appendLength_cx wire_appendLength_sh wire_appendLength_rs o)
structure wire_appendLength_J1 (o : wire_appendLength_O) (i : HL TB.den wire_appendLength_TJ1.hs) : Prop where
  h : wire_appendLength_J1d o i
noncomputable def wire_appendLength_A2 (o : wire_appendLength_O) : An TB := .jn wire_appendLength_TJ1 (wire_appendLength_J1 o) [] .no [] .no
noncomputable def wire_appendLength_an (o : wire_appendLength_O) : An TB := .nd [] .no [] (wire_appendLength_A2 o)
noncomputable def wire_appendLength_Body (x : wire_appendLength_I) (o : wire_appendLength_O) : Prop := WPh TB wire_appendLength_cx 15 1 wire_appendLength_code (wire_appendLength_an o) (wire_appendLength_sh.st TB x) (retTQ TB wire_appendLength_cx wire_appendLength_sh wire_appendLength_rs o)
set_option maxRecDepth 100000 in
theorem wire_appendLength_obl (o : wire_appendLength_O) : OblH TB wire_appendLength_cx 15 1 wire_appendLength_code (wire_appendLength_an o) (retTQ TB wire_appendLength_cx wire_appendLength_sh wire_appendLength_rs o) :=
  OblH.of_eq (X := (True ∧ ((True ∧ (True ∧ True)) ∧ (∀ i, (wire_appendLength_J1 o) i = (wire_appendLength_J1d o) i) ∧ (True ∧ True)))) (by kernel_rfl) ⟨trivial, ⟨⟨trivial, ⟨trivial, trivial⟩⟩, fun _ => propext ⟨fun h => h.1, fun h => ⟨h⟩⟩, ⟨trivial, trivial⟩⟩⟩
set_option maxRecDepth 100000 in
theorem wire_appendLength_snd {x : wire_appendLength_I} {o : wire_appendLength_O} (h : wire_appendLength_Body x o) : SoundH Try.prog wire_appendLength_sh.f ((wire_appendLength_sh.args idf x).map (er TB)) ((wire_appendLength_sh.obs idf x).map (erO TB)) (er TB (wire_appendLength_sh.val idf o)) ((wire_appendLength_sh.ops idf o).map (erO TB)) :=
  Con.soundH (c := wire_appendLength_sh) (C := wire_appendLength_cx) TBok ⟨inf_ok, (all_cons wire_appendDigits_ok all_nil), all_nil⟩ mix Try.func73 (show Try.f73.body = some wire_appendLength_code by kernel_rfl) (show Try.f73.ntmps = 15 by kernel_rfl) (show Try.f73.results.toList = wire_appendLength_rs by kernel_rfl) rfl h (wire_appendLength_obl o)
set_option maxRecDepth 100000 in
theorem wire_appendLength_in {p1 : Int} {w0 : List Int} {e0 : List Int} (h :
((decide (p1 < 0) = true →
(w0 = w0) ∧ wire_appendLength_J1 (e0, ()) ((0 : Int), w0, ())) ∧
(decide (p1 < 0) = false →
(decide (4294967295 < p1) = true →
(w0 = w0) ∧ wire_appendLength_J1 (e0, ()) ((0 : Int), w0, ())) ∧
(decide (4294967295 < p1) = false →
(w0 = w0) ∧ wire_appendLength_J1 (e0, ()) (p1, w0, ()))))) : wire_appendLength_Body (p1, w0, ()) (e0, ()) := WPh.of_eq (by kernel_rfl) h
set_option maxRecDepth 100000 in
theorem wire_appendLength_J1_in {e0 : List Int} {s1 : Int} {g0 : List Int} (h :
((g0 = g0) ∧ (U64 (IntKind.u64.wrap s1) ∧ (0 ≤ (4 : Int) ∧ (4 : Int) ≤ 8) ∧ g0.length ≤ 137438953472) ∧ let r1 : List Int := g0 ++ dig (4 : Int).toNat (IntKind.u64.wrap s1)
(r1 = r1) ∧ r1 = e0)) : wire_appendLength_J1 (e0, ()) (s1, g0, ()) := ⟨mpr_of (by kernel_rfl) h⟩
theorem bd73 : Callable Try.prog 73 := ⟨by rw [Try.func73]; kernel_rfl, by rw [Try.func73]; show some _ ≠ some _; decide⟩
theorem wire_appendLength_body (p1 : Int) (w0 : List Int) (h : (-9223372036854775808 ≤ p1 ∧ p1 ≤ 9223372036854775807) ∧ w0.length ≤ 137438953472) : wire_appendLength_Body (p1, w0, ()) ((w0 ++ dig 4 (len4 p1) : List Int), ()) := by
  obtain ⟨h1, h2⟩ := h
  have j : ∀ n, 0 ≤ n → n ≤ 4294967295 → len4 p1 = n → wire_appendLength_J1 ((w0 ++ dig 4 (len4 p1) : List Int), ()) (n, w0, ()) := by
    intro n h0 h1 e
    refine wire_appendLength_J1_in ?_
    rw [wu n (by omega) (by omega), e]
    exact ⟨rfl, ⟨⟨h0, by omega⟩, by omega, h2⟩, by trivial, rfl⟩
  refine wire_appendLength_in ⟨fun h => ⟨rfl, j 0 (by omega) (by omega) ?_⟩, fun h => ⟨fun h' => ⟨rfl, j 0 (by omega) (by omega) ?_⟩, fun h' => ⟨rfl, j p1 ?_ ?_ ?_⟩⟩⟩
  · have h := of_decide_eq_true h; exact if_pos (.inl h)
  · have h' := of_decide_eq_true h'; exact if_pos (.inr h')
  · have h := of_decide_eq_false h; omega
  · have h' := of_decide_eq_false h'; omega
  · have h := of_decide_eq_false h; have h' := of_decide_eq_false h'; exact len4_in ⟨by omega, by omega⟩
noncomputable def wire_appendLength_con : Con TB.den := wire_appendLength_sh.fnR (fun x => (fun (p1 : Int) (w0 : List Int) => (-9223372036854775808 ≤ p1 ∧ p1 ≤ 9223372036854775807) ∧ w0.length ≤ 137438953472) x.1 x.2.1) fun x => ((fun (p1 : Int) (w0 : List Int) => (w0 ++ dig 4 (len4 p1) : List Int)) x.1 x.2.1, ())
theorem wire_appendLength_ok : wire_appendLength_con.Ok Try.prog TB := Con.ok_fn wire_appendLength_sh bd73 fun x h => wire_appendLength_snd (wire_appendLength_body x.1 x.2.1 h)
end Go.Proofs.Ytnmakgfmimagmaa
namespace Go.Proofs.Ytnmakgfmimagmaa
open Go Go.Bv Go.Cv Go.Md Go.RowKit
theorem bd74 : Callable Try.prog 74 := ⟨by rw [Try.func74]; kernel_rfl, by rw [Try.func74]; show some _ ≠ some _; decide⟩
end Go.Proofs.Ytnmakgfmimagmaa
namespace Go.Proofs.Ytnmakgfmimagmaa
open Go Go.Bv Go.Cv Go.Md Go.RowKit
def wire_room_o_sh : Con TB.den := Con.mk0 74 [.one (.d (.sl (.int .u8))), .one (.d (.int .i64))] [] (.one (.one (.own 0))) [.tip (.int .u8)]
abbrev wire_room_o_I := HL TB.den (hsT wire_room_o_sh.ins (hsOs wire_room_o_sh.pre))
abbrev wire_room_o_O := HL TB.den (hsV wire_room_o_sh.res (hsOs wire_room_o_sh.post))
noncomputable def wire_room_o_cx : Cx TB := ⟨inf, [], [], 4⟩
noncomputable def wire_room_o_code : Code := Try.f74.body.getD .skip
noncomputable def wire_room_o_rs : List ResultVar := Try.f74.results.toList
noncomputable def wire_room_o_A1 (o : wire_room_o_O) : An TB := .nd [] .no [] (.nd [] .no [] (.nd [] .no [] (.rt [.frz 0 [4]])))
noncomputable def wire_room_o_an (o : wire_room_o_O) : An TB := .nd [] .no [] (wire_room_o_A1 o)
noncomputable def wire_room_o_Body (x : wire_room_o_I) (o : wire_room_o_O) : Prop := WPh TB wire_room_o_cx 17 0 wire_room_o_code (wire_room_o_an o) (wire_room_o_sh.st TB x) (retTQ TB wire_room_o_cx wire_room_o_sh wire_room_o_rs o)
set_option maxRecDepth 100000 in
theorem wire_room_o_obl (o : wire_room_o_O) : OblH TB wire_room_o_cx 17 0 wire_room_o_code (wire_room_o_an o) (retTQ TB wire_room_o_cx wire_room_o_sh wire_room_o_rs o) :=
  OblH.of_eq (X := (True ∧ (True ∧ (True ∧ (True ∧ True))))) (by kernel_rfl) ⟨trivial, ⟨trivial, ⟨trivial, ⟨trivial, trivial⟩⟩⟩⟩
set_option maxRecDepth 100000 in
theorem wire_room_o_snd {x : wire_room_o_I} {o : wire_room_o_O} (h : wire_room_o_Body x o) : SoundH Try.prog wire_room_o_sh.f ((wire_room_o_sh.args idf x).map (er TB)) ((wire_room_o_sh.obs idf x).map (erO TB)) (er TB (wire_room_o_sh.val idf o)) ((wire_room_o_sh.ops idf o).map (erO TB)) :=
  Con.soundH (c := wire_room_o_sh) (C := wire_room_o_cx) TBok ⟨inf_ok, all_nil, all_nil⟩ mix Try.func74 (show Try.f74.body = some wire_room_o_code by kernel_rfl) (show Try.f74.ntmps = 17 by kernel_rfl) (show Try.f74.results.toList = wire_room_o_rs by kernel_rfl) rfl h (wire_room_o_obl o)
set_option maxRecDepth 100000 in
theorem wire_room_o_in {p0 : List Int} {p1 : Int} {e0 : List Int} (h :
(let v1 : Int := IntKind.i64.wrap ((p0.length : Int) + p1)
 0 ≤ (p0.length : Int) ∧ (p0.length : Int) ≤ v1 ∧ (v1.toNat * 1 ≤ 140737488355328) ∧ (v1.toNat ≤ maxLen) ∧ (p0.length : Int).toNat = (List.replicate ((p0.length : Int).toNat) (0 : Int)).length ∧ let v2 : Int := ((min p0.length (List.replicate ((p0.length : Int).toNat) (0 : Int)).length : Nat) : Int)
((p0.length : Int).toNat = (rowOver (List.replicate ((p0.length : Int).toNat) (0 : Int)) p0 (List.replicate ((p0.length : Int).toNat) (0 : Int)).length).length) ∧ (rowOver (List.replicate ((p0.length : Int).toNat) (0 : Int)) p0 (List.replicate ((p0.length : Int).toNat) (0 : Int)).length = rowOver (List.replicate ((p0.length : Int).toNat) (0 : Int)) p0 (List.replicate ((p0.length : Int).toNat) (0 : Int)).length) ∧ rowOver (List.replicate ((p0.length : Int).toNat) (0 : Int)) p0 (List.replicate ((p0.length : Int).toNat) (0 : Int)).length = e0)) : wire_room_o_Body (p0, p1, ()) (e0, ()) := WPh.of_eq (by kernel_rfl) h
theorem wire_room_o_body (p0 : List Int) (p1 : Int) (h : 0 ≤ p1 ∧ p0.length + p1 ≤ 140737488355328) : wire_room_o_Body (p0, p1, ()) ((p0 : List Int), ()) := by
  obtain ⟨h1, h2⟩ := h
  refine wire_room_o_in ?_
  rw [wi _ (by omega) (by omega)]
  have e : rowOver (List.replicate ((p0.length : Int).toNat) (0 : Int)) p0 (List.replicate ((p0.length : Int).toNat) (0 : Int)).length = p0 := rowOver_all _ _ (by simp)
  simp only [e]
  exact ⟨by omega, by omega, by omega, by unfold maxLen; omega, by simp, by omega, by trivial, by trivial⟩
noncomputable def wire_room_o_con : Con TB.den := wire_room_o_sh.fnR (fun x => (fun (p0 : List Int) (p1 : Int) => 0 ≤ p1 ∧ p0.length + p1 ≤ 140737488355328) x.1 x.2.1) fun x => ((fun (p0 : List Int) (p1 : Int) => (p0 : List Int)) x.1 x.2.1, ())
theorem wire_room_o_ok : wire_room_o_con.Ok Try.prog TB := Con.ok_fn wire_room_o_sh bd74 fun x h => wire_room_o_snd (wire_room_o_body x.1 x.2.1 h)
end Go.Proofs.Ytnmakgfmimagmaa
namespace Go.Proofs.Ytnmakgfmimagmaa
open Go Go.Bv Go.Cv Go.Md Go.RowKit
def wire_Bytes_sh : Con TB.den := Con.mk0 46 [.one (.d (.sl (.int .u8))), .one (.d (.sl (.int .u8)))] [] (.one (.one (.d (.sl (.int .u8))))) []
abbrev wire_Bytes_I := HL TB.den (hsT wire_Bytes_sh.ins (hsOs wire_Bytes_sh.pre))
abbrev wire_Bytes_O := HL TB.den (hsV wire_Bytes_sh.res (hsOs wire_Bytes_sh.post))
noncomputable def wire_Bytes_cx : Cx TB := ⟨inf, [wire_room_o_con, wire_appendLength_con], [], 4⟩
noncomputable def wire_Bytes_code : Code := Try.f46.body.getD .skip
noncomputable def wire_Bytes_rs : List ResultVar := Try.f46.results.toList
noncomputable def wire_Bytes_an (o : wire_Bytes_O) : An TB := .no
noncomputable def wire_Bytes_Body (x : wire_Bytes_I) (o : wire_Bytes_O) : Prop := WPh TB wire_Bytes_cx 17 0 wire_Bytes_code (wire_Bytes_an o) (wire_Bytes_sh.st TB x) (retTQ TB wire_Bytes_cx wire_Bytes_sh wire_Bytes_rs o)
set_option maxRecDepth 100000 in
theorem wire_Bytes_obl (o : wire_Bytes_O) : OblH TB wire_Bytes_cx 17 0 wire_Bytes_code (wire_Bytes_an o) (retTQ TB wire_Bytes_cx wire_Bytes_sh wire_Bytes_rs o) :=
  OblH.of_eq (X := (True ∧ (True ∧ (True ∧ True)))) (by kernel_rfl) ⟨trivial, ⟨trivial, ⟨trivial, trivial⟩⟩⟩
set_option maxRecDepth 100000 in
theorem wire_Bytes_snd {x : wire_Bytes_I} {o : wire_Bytes_O} (h : wire_Bytes_Body x o) : SoundH Try.prog wire_Bytes_sh.f ((wire_Bytes_sh.args idf x).map (er TB)) ((wire_Bytes_sh.obs idf x).map (erO TB)) (er TB (wire_Bytes_sh.val idf o)) ((wire_Bytes_sh.ops idf o).map (erO TB)) :=
  Con.soundH (c := wire_Bytes_sh) (C := wire_Bytes_cx) TBok ⟨inf_ok, (all_cons wire_room_o_ok (all_cons wire_appendLength_ok all_nil)), all_nil⟩ mix Try.func46 (show Try.f46.body = some wire_Bytes_code by kernel_rfl) (show Try.f46.ntmps = 17 by kernel_rfl) (show Try.f46.results.toList = wire_Bytes_rs by kernel_rfl) rfl h (wire_Bytes_obl o)
set_option maxRecDepth 100000 in
theorem wire_Bytes_in {p0 : List Int} {p1 : List Int} {r0 : List Int} (h :
((0 ≤ (IntKind.i64.wrap (4 + (p1.length : Int))) ∧ p0.length + (IntKind.i64.wrap (4 + (p1.length : Int))) ≤ 140737488355328) ∧ (p0 = p0) ∧ ((-9223372036854775808 ≤ (p1.length : Int) ∧ (p1.length : Int) ≤ 9223372036854775807) ∧ p0.length ≤ 137438953472) ∧ (p0 ++ dig 4 (len4 (p1.length : Int))).length = (p0 ++ dig 4 (len4 (p1.length : Int))).length ∧ ((p0 ++ dig 4 (len4 (p1.length : Int))).length + p1.length) * 1 ≤ 140737488355328 ∧ (p0 ++ dig 4 (len4 (p1.length : Int))).length + p1.length ≤ maxLen ∧ let v1 : List Int := (p0 ++ dig 4 (len4 (p1.length : Int))) ++ p1
 v1 = r0)) : wire_Bytes_Body (p0, p1, ()) (r0, ()) := WPh.of_eq (by kernel_rfl) h
theorem bd46 : Callable Try.prog 46 := ⟨by rw [Try.func46]; kernel_rfl, by rw [Try.func46]; show some _ ≠ some _; decide⟩
theorem wire_Bytes_body (p0 : List Int) (p1 : List Int) (h : p0.length ≤ 68719476736 ∧ p1.length ≤ 4294967295) : wire_Bytes_Body (p0, p1, ()) ((p0 ++ encB p1 : List Int), ()) := by
  obtain ⟨h1, h2⟩ := h
  refine wire_Bytes_in ?_
  rw [wi (4 + (p1.length : Int)) (by omega) (by omega)]
  refine ⟨⟨by omega, by omega⟩, by trivial, ⟨by omega, by omega⟩, by trivial, ?_, ?_, ?_⟩
  · simp; omega
  · simp; unfold maxLen; omega
  · rw [List.append_assoc]; rfl
noncomputable def wire_Bytes_con : Con TB.den := wire_Bytes_sh.fnR (fun x => (fun (p0 : List Int) (p1 : List Int) => p0.length ≤ 68719476736 ∧ p1.length ≤ 4294967295) x.1 x.2.1) fun x => ((fun (p0 : List Int) (p1 : List Int) => (p0 ++ encB p1 : List Int)) x.1 x.2.1, ())
theorem wire_Bytes_ok : wire_Bytes_con.Ok Try.prog TB := Con.ok_fn wire_Bytes_sh bd46 fun x h => wire_Bytes_snd (wire_Bytes_body x.1 x.2.1 h)
end Go.Proofs.Ytnmakgfmimagmaa
namespace Go.Proofs.Ytnmakgfmimagmaa
open Go Go.Bv Go.Cv Go.Md Go.RowKit
def wire_Int_sh : Con TB.den := Con.mk0 71 [.one (.d (.sl (.int .u8))), .one (.d (.int .i64))] [] (.one (.one (.d (.sl (.int .u8))))) []
abbrev wire_Int_I := HL TB.den (hsT wire_Int_sh.ins (hsOs wire_Int_sh.pre))
abbrev wire_Int_O := HL TB.den (hsV wire_Int_sh.res (hsOs wire_Int_sh.post))
noncomputable def wire_Int_cx : Cx TB := ⟨inf, [wire_room_o_con, wire_appendLength_con], [], 4⟩
noncomputable def wire_Int_code : Code := Try.f71.body.getD .skip
noncomputable def wire_Int_rs : List ResultVar := Try.f71.results.toList
noncomputable def wire_Int_an (o : wire_Int_O) : An TB := .no
noncomputable def wire_Int_Body (x : wire_Int_I) (o : wire_Int_O) : Prop := WPh TB wire_Int_cx 9 0 wire_Int_code (wire_Int_an o) (wire_Int_sh.st TB x) (retTQ TB wire_Int_cx wire_Int_sh wire_Int_rs o)
set_option maxRecDepth 100000 in
theorem wire_Int_obl (o : wire_Int_O) : OblH TB wire_Int_cx 9 0 wire_Int_code (wire_Int_an o) (retTQ TB wire_Int_cx wire_Int_sh wire_Int_rs o) :=
  OblH.of_eq (X := (True ∧ (True ∧ True))) (by kernel_rfl) ⟨trivial, ⟨trivial, trivial⟩⟩
set_option maxRecDepth 100000 in
theorem wire_Int_snd {x : wire_Int_I} {o : wire_Int_O} (h : wire_Int_Body x o) : SoundH Try.prog wire_Int_sh.f ((wire_Int_sh.args idf x).map (er TB)) ((wire_Int_sh.obs idf x).map (erO TB)) (er TB (wire_Int_sh.val idf o)) ((wire_Int_sh.ops idf o).map (erO TB)) :=
  Con.soundH (c := wire_Int_sh) (C := wire_Int_cx) TBok ⟨inf_ok, (all_cons wire_room_o_ok (all_cons wire_appendLength_ok all_nil)), all_nil⟩ mix Try.func71 (show Try.f71.body = some wire_Int_code by kernel_rfl) (show Try.f71.ntmps = 9 by kernel_rfl) (show Try.f71.results.toList = wire_Int_rs by kernel_rfl) rfl h (wire_Int_obl o)
set_option maxRecDepth 100000 in
theorem wire_Int_in {p0 : List Int} {p1 : Int} {r0 : List Int} (h :
((0 ≤ (4 : Int) ∧ p0.length + (4 : Int) ≤ 140737488355328) ∧ (p0 = p0) ∧ ((-9223372036854775808 ≤ p1 ∧ p1 ≤ 9223372036854775807) ∧ p0.length ≤ 137438953472) ∧ p0 ++ dig 4 (len4 p1) = r0)) : wire_Int_Body (p0, p1, ()) (r0, ()) := WPh.of_eq (by kernel_rfl) h
theorem bd71 : Callable Try.prog 71 := ⟨by rw [Try.func71]; kernel_rfl, by rw [Try.func71]; show some _ ≠ some _; decide⟩
theorem wire_Int_body (p0 : List Int) (p1 : Int) (h : (-9223372036854775808 ≤ p1 ∧ p1 ≤ 9223372036854775807) ∧ p0.length ≤ 137438953472) : wire_Int_Body (p0, p1, ()) ((p0 ++ dig 4 (len4 p1) : List Int), ()) := by
  obtain ⟨h1, h2⟩ := h
  exact wire_Int_in ⟨⟨by omega, by omega⟩, by trivial, ⟨h1, h2⟩, rfl⟩
noncomputable def wire_Int_con : Con TB.den := wire_Int_sh.fnR (fun x => (fun (p0 : List Int) (p1 : Int) => (-9223372036854775808 ≤ p1 ∧ p1 ≤ 9223372036854775807) ∧ p0.length ≤ 137438953472) x.1 x.2.1) fun x => ((fun (p0 : List Int) (p1 : Int) => (p0 ++ dig 4 (len4 p1) : List Int)) x.1 x.2.1, ())
theorem wire_Int_ok : wire_Int_con.Ok Try.prog TB := Con.ok_fn wire_Int_sh bd71 fun x h => wire_Int_snd (wire_Int_body x.1 x.2.1 h)
end Go.Proofs.Ytnmakgfmimagmaa
namespace Go.Proofs.Ytnmakgfmimagmaa
open Go Go.Bv Go.Cv Go.Md Go.RowKit
def wire_List_sh : Con TB.den := Con.mk0 90 [.one (.d (.sl (.int .u8))), .one (.d (.sl (.int .u64)))] [] (.one (.one (.d (.sl (.int .u8))))) []
abbrev wire_List_I := HL TB.den (hsT wire_List_sh.ins (hsOs wire_List_sh.pre))
abbrev wire_List_O := HL TB.den (hsV wire_List_sh.res (hsOs wire_List_sh.post))
noncomputable def wire_List_cx : Cx TB := ⟨inf, [wire_room_o_con, wire_appendLength_con, wire_appendDigits_con], [], 4⟩
noncomputable def wire_List_code : Code := Try.f90.body.getD .skip
noncomputable def wire_List_rs : List ResultVar := Try.f90.results.toList
noncomputable def wire_List_Q1 (o : wire_List_O) : Exit → TSt TB.den → Prop := thenT TB (fun s => ghs TB [] s fun s => WP TB wire_List_cx 28 0 (cB (cB (cB wire_List_code))) .no s (retTQ TB wire_List_cx wire_List_sh wire_List_rs o)) (retTQ TB wire_List_cx wire_List_sh wire_List_rs o)
def wire_List_T1 : Tm := ⟨[0], [.tip (.int .u8)], [5, 17, 18, 19], [.one (.own 0), .one (.d (.sl (.int .u64))), .one (.d (.int .i64)), .one (.d (.int .i64))], 1⟩
noncomputable def wire_List_Q2 (o : wire_List_O) (nx1 : HL TB.den wire_List_T1.hs → Prop) : Exit → TSt TB.den → Prop := thenT TB (fun s => wire_List_T1.mat TB 0 s nx1) (blockT TB 0 (wire_List_Q1 o))
noncomputable def wire_List_L1 (o : wire_List_O) (nx1 : HL TB.den wire_List_T1.hs → Prop) (i : HL TB.den wire_List_T1.hs) : Prop := WP TB wire_List_cx 28 0 (cA (cA (cB (cA (cB (cB wire_List_code)))))) .no (wire_List_T1.fill TB i) (wire_List_Q2 o nx1)
noncomputable def wire_List_A5 (o : wire_List_O) : An TB := .nd [] .no [] (.lp [] wire_List_T1 (wire_List_L1 o) fun nx1 => .no)
noncomputable def wire_List_an (o : wire_List_O) : An TB := .nd [] .no [] (.nd [] .no [] (.nd [] (wire_List_A5 o) [] .no))
noncomputable def wire_List_Body (x : wire_List_I) (o : wire_List_O) : Prop := WPh TB wire_List_cx 28 0 wire_List_code (wire_List_an o) (wire_List_sh.st TB x) (retTQ TB wire_List_cx wire_List_sh wire_List_rs o)
set_option maxRecDepth 100000 in
theorem wire_List_obl (o : wire_List_O) : OblH TB wire_List_cx 28 0 wire_List_code (wire_List_an o) (retTQ TB wire_List_cx wire_List_sh wire_List_rs o) :=
  OblH.of_eq (X := (True ∧ (True ∧ ((True ∧ ((∀ nx i, (wire_List_L1 o) nx i = (wire_List_L1 o) nx i) ∧ ∀ nx1 : HL TB.den wire_List_T1.hs → Prop, (True ∧ ((True ∧ True) ∧ ((True ∧ True) ∧ True))))) ∧ (True ∧ True))))) (by kernel_rfl) ⟨trivial, ⟨trivial, ⟨⟨trivial, ⟨fun _ _ => rfl, fun _ => ⟨trivial, ⟨⟨trivial, trivial⟩, ⟨⟨trivial, trivial⟩, trivial⟩⟩⟩⟩⟩, ⟨trivial, trivial⟩⟩⟩⟩
set_option maxRecDepth 100000 in
theorem wire_List_snd {x : wire_List_I} {o : wire_List_O} (h : wire_List_Body x o) : SoundH Try.prog wire_List_sh.f ((wire_List_sh.args idf x).map (er TB)) ((wire_List_sh.obs idf x).map (erO TB)) (er TB (wire_List_sh.val idf o)) ((wire_List_sh.ops idf o).map (erO TB)) :=
  Con.soundH (c := wire_List_sh) (C := wire_List_cx) TBok ⟨inf_ok, (all_cons wire_room_o_ok (all_cons wire_appendLength_ok (all_cons wire_appendDigits_ok all_nil))), all_nil⟩ mix Try.func90 (show Try.f90.body = some wire_List_code by kernel_rfl) (show Try.f90.ntmps = 28 by kernel_rfl) (show Try.f90.results.toList = wire_List_rs by kernel_rfl) rfl h (wire_List_obl o)
set_option maxRecDepth 100000 in
theorem wire_List_in {p0 : List Int} {p1 : List Int} {r0 : List Int} (h :
(let v1 : Int := IntKind.i64.wrap (4 + (IntKind.i64.wrap (8 * (p1.length : Int))))
(0 ≤ v1 ∧ p0.length + v1 ≤ 140737488355328) ∧ (p0 = p0) ∧ ((-9223372036854775808 ≤ (p1.length : Int) ∧ (p1.length : Int) ≤ 9223372036854775807) ∧ p0.length ≤ 137438953472) ∧ (p0 ++ dig 4 (len4 (p1.length : Int)) = p0 ++ dig 4 (len4 (p1.length : Int))) ∧ Md.Loop (p1, ((p1.length : Int) : Int), (0 : Int), (p0 ++ dig 4 (len4 (p1.length : Int)) : List Int), ()) (wire_List_L1 (r0, ())))) : wire_List_Body (p0, p1, ()) (r0, ()) := WPh.of_eq (by kernel_rfl) h
def wire_List_B1 (r0 : List Int) (k1 : Int → List Int → Prop) (s17 : List Int) (s18 : Int) (s19 : Int) (g0 : List Int) : Prop :=
(decide (s19 < s18) = true →
(0 ≤ s19) ∧ s19 < (s17.length : Int) ∧ (g0 = g0) ∧ (U64 (ix s17 s19) ∧ (0 ≤ (8 : Int) ∧ (8 : Int) ≤ 8) ∧ g0.length ≤ 137438953472) ∧ (g0 ++ dig (8 : Int).toNat (ix s17 s19) = g0 ++ dig (8 : Int).toNat (ix s17 s19)) ∧ k1 (IntKind.i64.wrap (s19 + 1) : Int) (g0 ++ dig (8 : Int).toNat (ix s17 s19) : List Int)) ∧
(decide (s19 < s18) = false →
 g0 = r0)
set_option maxRecDepth 100000 in
theorem wire_List_lp1 {r0 : List Int} {s17 : List Int} {s18 : Int} {s19 : Int} {g0 : List Int} (inv : Int → List Int → Prop) (μ : Int → List Int → Nat) (h0 : inv s19 g0) (hs : ∀ (s19 : Int) (g0 : List Int), inv s19 g0 → wire_List_B1 r0 (fun s19q g0q => inv s19q g0q ∧ μ s19q g0q < μ s19 g0) s17 s18 s19 g0) : Md.Loop (s17, s18, s19, g0, ()) (wire_List_L1 (r0, ())) :=
  ⟨⟨fun s : (List Int) × Int × Int × (List Int) × Unit => (s.1 = s17 ∧ s.2.1 = s18) ∧ inv s.2.2.1 s.2.2.2.1, fun s : (List Int) × Int × Int × (List Int) × Unit => μ s.2.2.1 s.2.2.2.1, ⟨⟨rfl, rfl⟩, h0⟩, fun (s17p, s18p, s19p, g0p, ()) ⟨⟨eq0, eq1⟩, hi⟩ => by
    have eq0 : s17p = s17 := eq0; subst s17p; have eq1 : s18p = s18 := eq1; subst s18p; exact mpr_of (by kernel_rfl) ((congrArg (fun k => wire_List_B1 r0 k s17 s18 s19p g0p) (lpk2 (⟨rfl, rfl⟩ : s17 = s17 ∧ s18 = s18) inv (fun s19q g0q => μ s19q g0q < μ s19p g0p))).mpr (hs s19p g0p hi))⟩⟩
theorem bd90 : Callable Try.prog 90 := ⟨by rw [Try.func90]; kernel_rfl, by rw [Try.func90]; show some _ ≠ some _; decide⟩
theorem wire_List_body (p0 : List Int) (p1 : List Int) (h : Us p1 ∧ p0.length ≤ 68719476736 ∧ p1.length ≤ 4294967295) : wire_List_Body (p0, p1, ()) ((p0 ++ encL p1 : List Int), ()) := by
  obtain ⟨h1, h2, h3⟩ := h
  refine wire_List_in ?_
  rw [wi (8 * (p1.length : Int)) (by omega) (by omega), wi (4 + 8 * (p1.length : Int)) (by omega) (by omega)]
  refine ⟨⟨by omega, by omega⟩, by trivial, ⟨by omega, by omega⟩, by trivial, ?_⟩
  refine wire_List_lp1 (fun i g => 0 ≤ i ∧ i ≤ p1.length ∧ g = p0 ++ dig 4 (len4 p1.length) ++ (p1.take i.toNat).flatMap (dig 8)) (fun i _ => (p1.length - i).toNat) ⟨by omega, by omega, by simp⟩ ?_
  rintro i g ⟨g0, g1, rfl⟩
  refine ⟨fun h => ?_, fun h => ?_⟩
  · have h := of_decide_eq_true h
    have hx := h1 _ (ix_mem p1 i g0 h)
    rw [inc i p1.length g0 h (by omega)]
    refine ⟨g0, h, by trivial, ⟨hx, by omega, ?_⟩, by trivial, ⟨by omega, by omega, ?_⟩, by omega⟩
    · simp only [List.length_append, dig_length, flat8_length, List.length_take]; omega
    · rw [take_succ_ix p1 i g0 h, List.flatMap_append, List.append_assoc]
      simp
  · have h := of_decide_eq_false h
    rw [List.take_of_length_le (by omega), List.append_assoc]
    rfl
noncomputable def wire_List_con : Con TB.den := wire_List_sh.fnR (fun x => (fun (p0 : List Int) (p1 : List Int) => Us p1 ∧ p0.length ≤ 68719476736 ∧ p1.length ≤ 4294967295) x.1 x.2.1) fun x => ((fun (p0 : List Int) (p1 : List Int) => (p0 ++ encL p1 : List Int)) x.1 x.2.1, ())
theorem wire_List_ok : wire_List_con.Ok Try.prog TB := Con.ok_fn wire_List_sh bd90 fun x h => wire_List_snd (wire_List_body x.1 x.2.1 h)
end Go.Proofs.Ytnmakgfmimagmaa
namespace Go.Proofs.Ytnmakgfmimagmaa
open Go Go.Bv Go.Cv Go.Md Go.RowKit
def wire_Uint_sh : Con TB.den := Con.mk0 61 [.one (.d (.sl (.int .u8))), .one (.d (.int .u64))] [] (.one (.one (.d (.sl (.int .u8))))) []
abbrev wire_Uint_I := HL TB.den (hsT wire_Uint_sh.ins (hsOs wire_Uint_sh.pre))
abbrev wire_Uint_O := HL TB.den (hsV wire_Uint_sh.res (hsOs wire_Uint_sh.post))
noncomputable def wire_Uint_cx : Cx TB := ⟨inf, [wire_room_o_con, wire_appendDigits_con], [], 4⟩
noncomputable def wire_Uint_code : Code := Try.f61.body.getD .skip
noncomputable def wire_Uint_rs : List ResultVar := Try.f61.results.toList
noncomputable def wire_Uint_an (o : wire_Uint_O) : An TB := .no
noncomputable def wire_Uint_Body (x : wire_Uint_I) (o : wire_Uint_O) : Prop := WPh TB wire_Uint_cx 9 0 wire_Uint_code (wire_Uint_an o) (wire_Uint_sh.st TB x) (retTQ TB wire_Uint_cx wire_Uint_sh wire_Uint_rs o)
set_option maxRecDepth 100000 in
theorem wire_Uint_obl (o : wire_Uint_O) : OblH TB wire_Uint_cx 9 0 wire_Uint_code (wire_Uint_an o) (retTQ TB wire_Uint_cx wire_Uint_sh wire_Uint_rs o) :=
  OblH.of_eq (X := (True ∧ (True ∧ True))) (by kernel_rfl) ⟨trivial, ⟨trivial, trivial⟩⟩
set_option maxRecDepth 100000 in
theorem wire_Uint_snd {x : wire_Uint_I} {o : wire_Uint_O} (h : wire_Uint_Body x o) : SoundH Try.prog wire_Uint_sh.f ((wire_Uint_sh.args idf x).map (er TB)) ((wire_Uint_sh.obs idf x).map (erO TB)) (er TB (wire_Uint_sh.val idf o)) ((wire_Uint_sh.ops idf o).map (erO TB)) :=
  Con.soundH (c := wire_Uint_sh) (C := wire_Uint_cx) TBok ⟨inf_ok, (all_cons wire_room_o_ok (all_cons wire_appendDigits_ok all_nil)), all_nil⟩ mix Try.func61 (show Try.f61.body = some wire_Uint_code by kernel_rfl) (show Try.f61.ntmps = 9 by kernel_rfl) (show Try.f61.results.toList = wire_Uint_rs by kernel_rfl) rfl h (wire_Uint_obl o)
set_option maxRecDepth 100000 in
theorem wire_Uint_in {p0 : List Int} {p1 : Int} {r0 : List Int} (h :
((0 ≤ (8 : Int) ∧ p0.length + (8 : Int) ≤ 140737488355328) ∧ (p0 = p0) ∧ (U64 p1 ∧ (0 ≤ (8 : Int) ∧ (8 : Int) ≤ 8) ∧ p0.length ≤ 137438953472) ∧ p0 ++ dig (8 : Int).toNat p1 = r0)) : wire_Uint_Body (p0, p1, ()) (r0, ()) := WPh.of_eq (by kernel_rfl) h
theorem bd61 : Callable Try.prog 61 := ⟨by rw [Try.func61]; kernel_rfl, by rw [Try.func61]; show some _ ≠ some _; decide⟩
theorem wire_Uint_body (p0 : List Int) (p1 : Int) (h : U64 p1 ∧ p0.length ≤ 137438953472) : wire_Uint_Body (p0, p1, ()) ((p0 ++ dig 8 p1 : List Int), ()) := by
  obtain ⟨h1, h2⟩ := h
  refine wire_Uint_in ⟨⟨by omega, by omega⟩, by trivial, ⟨h1, by omega, h2⟩, rfl⟩
noncomputable def wire_Uint_con : Con TB.den := wire_Uint_sh.fnR (fun x => (fun (p0 : List Int) (p1 : Int) => U64 p1 ∧ p0.length ≤ 137438953472) x.1 x.2.1) fun x => ((fun (p0 : List Int) (p1 : Int) => (p0 ++ dig 8 p1 : List Int)) x.1 x.2.1, ())
theorem wire_Uint_ok : wire_Uint_con.Ok Try.prog TB := Con.ok_fn wire_Uint_sh bd61 fun x h => wire_Uint_snd (wire_Uint_body x.1 x.2.1 h)
end Go.Proofs.Ytnmakgfmimagmaa
namespace Go.Proofs.Ytnmakgfmimagmaa
open Go Go.Bv Go.Cv Go.Md Go.RowKit
def tx_encode_sh : Con TB.den := Con.mk0 72 [.agg [.d (.int .u64), .d (.sl (.int .u64)), .d (.sl (.st 0)), .d (.int .u64), .d (.int .u64), .d (.int .u64), .d (.int .u64), .d (.int .u64), .d (.int .i64), .d (.sl (.int .u8))], .one (.d (.sl (.int .u8)))] [] (.one (.one (.d (.sl (.int .u8))))) []
abbrev tx_encode_I := HL TB.den (hsT tx_encode_sh.ins (hsOs tx_encode_sh.pre))
abbrev tx_encode_O := HL TB.den (hsV tx_encode_sh.res (hsOs tx_encode_sh.post))
noncomputable def tx_encode_cx : Cx TB := ⟨inf, [wire_Uint_con, wire_List_con, wire_Int_con, wire_Bytes_con], [], 4⟩
noncomputable def tx_encode_code : Code := Try.f72.body.getD .skip
noncomputable def tx_encode_rs : List ResultVar := Try.f72.results.toList
noncomputable def tx_encode_Q1 (o : tx_encode_O) : Exit → TSt TB.den → Prop := thenT TB (fun s => ghs TB [] s fun s => WP TB tx_encode_cx 73 0 (cB (cB (cB (cB (cB tx_encode_code))))) .no s (retTQ TB tx_encode_cx tx_encode_sh tx_encode_rs o)) (retTQ TB tx_encode_cx tx_encode_sh tx_encode_rs o)
def tx_encode_T1 : Tm := ⟨[0], [.cells [.d (.int .u64), .d (.sl (.int .u64)), .d (.sl (.st 0)), .d (.int .u64), .d (.int .u64), .d (.int .u64), .d (.int .u64), .d (.int .u64), .d (.int .i64), .d (.sl (.int .u8))]], [1, 2, 5, 21, 22, 23], [.one (.d (.sl (.int .u8))), .one (.ptr 0 0), .one (.d (.sl (.int .u8))), .one (.d (.sl (.st 0))), .one (.d (.int .i64)), .one (.d (.int .i64))], 1⟩
noncomputable def tx_encode_Q2 (o : tx_encode_O) (nx1 : HL TB.den tx_encode_T1.hs → Prop) : Exit → TSt TB.den → Prop := thenT TB (fun s => tx_encode_T1.mat TB 0 s nx1) (blockT TB 0 (tx_encode_Q1 o))
noncomputable def tx_encode_L1 (o : tx_encode_O) (nx1 : HL TB.den tx_encode_T1.hs → Prop) (i : HL TB.den tx_encode_T1.hs) : Prop := WP TB tx_encode_cx 73 0 (cA (cA (cB (cA (cB (cB (cB (cB tx_encode_code)))))))) .no (tx_encode_T1.fill TB i) (tx_encode_Q2 o nx1)
noncomputable def tx_encode_A5 (o : tx_encode_O) : An TB := .nd [] .no [] (.lp [] tx_encode_T1 (tx_encode_L1 o) fun nx1 => .no)
noncomputable def tx_encode_A6 (o : tx_encode_O) : An TB := .nd [] .no [] (.nd [] .no [] (.nd [] (tx_encode_A5 o) [] .no))
noncomputable def tx_encode_an (o : tx_encode_O) : An TB := .nd [] .no [] (.nd [] .no [] (tx_encode_A6 o))
noncomputable def tx_encode_Body (x : tx_encode_I) (o : tx_encode_O) : Prop := WPh TB tx_encode_cx 73 0 tx_encode_code (tx_encode_an o) (tx_encode_sh.st TB x) (retTQ TB tx_encode_cx tx_encode_sh tx_encode_rs o)
set_option maxRecDepth 100000 in
theorem tx_encode_obl (o : tx_encode_O) : OblH TB tx_encode_cx 73 0 tx_encode_code (tx_encode_an o) (retTQ TB tx_encode_cx tx_encode_sh tx_encode_rs o) :=
  OblH.of_eq (X := (True ∧ (True ∧ (True ∧ (True ∧ ((True ∧ ((∀ nx i, (tx_encode_L1 o) nx i = (tx_encode_L1 o) nx i) ∧ ∀ nx1 : HL TB.den tx_encode_T1.hs → Prop, (True ∧ ((True ∧ True) ∧ ((True ∧ (True ∧ (True ∧ (True ∧ True)))) ∧ True))))) ∧ (True ∧ (True ∧ (True ∧ (True ∧ (True ∧ (True ∧ (True ∧ True))))))))))))) (by kernel_rfl) ⟨trivial, ⟨trivial, ⟨trivial, ⟨trivial, ⟨⟨trivial, ⟨fun _ _ => rfl, fun _ => ⟨trivial, ⟨⟨trivial, trivial⟩, ⟨⟨trivial, ⟨trivial, ⟨trivial, ⟨trivial, trivial⟩⟩⟩⟩, trivial⟩⟩⟩⟩⟩, ⟨trivial, ⟨trivial, ⟨trivial, ⟨trivial, ⟨trivial, ⟨trivial, ⟨trivial, trivial⟩⟩⟩⟩⟩⟩⟩⟩⟩⟩⟩⟩
set_option maxRecDepth 100000 in
theorem tx_encode_snd {x : tx_encode_I} {o : tx_encode_O} (h : tx_encode_Body x o) : SoundH Try.prog tx_encode_sh.f ((tx_encode_sh.args idf x).map (er TB)) ((tx_encode_sh.obs idf x).map (erO TB)) (er TB (tx_encode_sh.val idf o)) ((tx_encode_sh.ops idf o).map (erO TB)) :=
  Con.soundH (c := tx_encode_sh) (C := tx_encode_cx) TBok ⟨inf_ok, (all_cons wire_Uint_ok (all_cons wire_List_ok (all_cons wire_Int_ok (all_cons wire_Bytes_ok all_nil)))), all_nil⟩ mix Try.func72 (show Try.f72.body = some tx_encode_code by kernel_rfl) (show Try.f72.ntmps = 73 by kernel_rfl) (show Try.f72.results.toList = tx_encode_rs by kernel_rfl) rfl h (tx_encode_obl o)
set_option maxRecDepth 100000 in
theorem tx_encode_in {p0 : TTx} {p1 : List Int} {r0 : List Int} (h :
((U64 p0.Anchor ∧ ([] : List Int).length ≤ 137438953472) ∧ (Us p0.Marks ∧ (([] : List Int) ++ dig 8 p0.Anchor).length ≤ 68719476736 ∧ p0.Marks.length ≤ 4294967295) ∧ let r1 : List Int := (([] : List Int) ++ dig 8 p0.Anchor) ++ encL p0.Marks
((-9223372036854775808 ≤ (p0.Outs.length : Int) ∧ (p0.Outs.length : Int) ≤ 9223372036854775807) ∧ r1.length ≤ 137438953472) ∧ let r2 : List Int := r1 ++ dig 4 (len4 (p0.Outs.length : Int))
 Md.Loop (p1, r2, p0.Outs, ((p0.Outs.length : Int) : Int), (0 : Int), p0.Anchor, p0.Marks, p0.Outs, p0.Deposit, p0.Withdraw, p0.Fee, p0.Account, p0.Nonce, p0.Expiry, p0.Proof, ()) (tx_encode_L1 (r0, ())))) : tx_encode_Body (p0.Anchor, p0.Marks, p0.Outs, p0.Deposit, p0.Withdraw, p0.Fee, p0.Account, p0.Nonce, p0.Expiry, p0.Proof, p1, ()) (r0, ()) := WPh.of_eq (by kernel_rfl) h
def tx_encode_B1 (r0 : List Int) (k1 : List Int → Int → Prop) (s1 : List Int) (s21 : List TOut) (s22 : Int) (h0_0 : Int) (h0_1 : List Int) (h0_2 : List TOut) (h0_3 : Int) (h0_4 : Int) (h0_5 : Int) (h0_6 : Int) (h0_7 : Int) (h0_8 : Int) (h0_9 : List Int) (s5 : List Int) (s23 : Int) : Prop :=
(decide (s23 < s22) = true →
(0 ≤ s23) ∧ s23 < (s21.length : Int) ∧ (U64 ((ix s21 s23).Commit) ∧ s5.length ≤ 137438953472) ∧ (U64 ((ix s21 s23).Point_a0) ∧ (s5 ++ dig 8 ((ix s21 s23).Commit)).length ≤ 137438953472) ∧ let r3 : List Int := (s5 ++ dig 8 ((ix s21 s23).Commit)) ++ dig 8 ((ix s21 s23).Point_a0)
(U64 ((ix s21 s23).Point_a1) ∧ r3.length ≤ 137438953472) ∧ (Us ((ix s21 s23).Cipher) ∧ (r3 ++ dig 8 ((ix s21 s23).Point_a1)).length ≤ 68719476736 ∧ ((ix s21 s23).Cipher).length ≤ 4294967295) ∧ let r4 : List Int := (r3 ++ dig 8 ((ix s21 s23).Point_a1)) ++ encL ((ix s21 s23).Cipher)
 k1 r4 (IntKind.i64.wrap (s23 + 1) : Int)) ∧
(decide (s23 < s22) = false →
(U64 h0_3 ∧ s5.length ≤ 137438953472) ∧ (U64 h0_4 ∧ (s5 ++ dig 8 h0_3).length ≤ 137438953472) ∧ (U64 h0_5 ∧ ((s5 ++ dig 8 h0_3) ++ dig 8 h0_4).length ≤ 137438953472) ∧ let r5 : List Int := ((s5 ++ dig 8 h0_3) ++ dig 8 h0_4) ++ dig 8 h0_5
(U64 h0_6 ∧ r5.length ≤ 137438953472) ∧ (U64 h0_7 ∧ (r5 ++ dig 8 h0_6).length ≤ 137438953472) ∧ ((-9223372036854775808 ≤ h0_8 ∧ h0_8 ≤ 9223372036854775807) ∧ ((r5 ++ dig 8 h0_6) ++ dig 8 h0_7).length ≤ 137438953472) ∧ let r6 : List Int := ((r5 ++ dig 8 h0_6) ++ dig 8 h0_7) ++ dig 4 (len4 h0_8)
(r6.length ≤ 68719476736 ∧ s1.length ≤ 4294967295) ∧ r6 ++ encB s1 = r0)
set_option maxRecDepth 100000 in
theorem tx_encode_lp1 {r0 : List Int} {s1 : List Int} {s21 : List TOut} {s22 : Int} {h0_0 : Int} {h0_1 : List Int} {h0_2 : List TOut} {h0_3 : Int} {h0_4 : Int} {h0_5 : Int} {h0_6 : Int} {h0_7 : Int} {h0_8 : Int} {h0_9 : List Int} {s5 : List Int} {s23 : Int} (inv : List Int → Int → Prop) (μ : List Int → Int → Nat) (h0 : inv s5 s23) (hs : ∀ (s5 : List Int) (s23 : Int), inv s5 s23 → tx_encode_B1 r0 (fun s5q s23q => inv s5q s23q ∧ μ s5q s23q < μ s5 s23) s1 s21 s22 h0_0 h0_1 h0_2 h0_3 h0_4 h0_5 h0_6 h0_7 h0_8 h0_9 s5 s23) : Md.Loop (s1, s5, s21, s22, s23, h0_0, h0_1, h0_2, h0_3, h0_4, h0_5, h0_6, h0_7, h0_8, h0_9, ()) (tx_encode_L1 (r0, ())) :=
  ⟨⟨fun s : (List Int) × (List Int) × (List TOut) × Int × Int × Int × (List Int) × (List TOut) × Int × Int × Int × Int × Int × Int × (List Int) × Unit => (s.1 = s1 ∧ s.2.2.1 = s21 ∧ s.2.2.2.1 = s22 ∧ s.2.2.2.2.2.1 = h0_0 ∧ s.2.2.2.2.2.2.1 = h0_1 ∧ s.2.2.2.2.2.2.2.1 = h0_2 ∧ s.2.2.2.2.2.2.2.2.1 = h0_3 ∧ s.2.2.2.2.2.2.2.2.2.1 = h0_4 ∧ s.2.2.2.2.2.2.2.2.2.2.1 = h0_5 ∧ s.2.2.2.2.2.2.2.2.2.2.2.1 = h0_6 ∧ s.2.2.2.2.2.2.2.2.2.2.2.2.1 = h0_7 ∧ s.2.2.2.2.2.2.2.2.2.2.2.2.2.1 = h0_8 ∧ s.2.2.2.2.2.2.2.2.2.2.2.2.2.2.1 = h0_9) ∧ inv s.2.1 s.2.2.2.2.1, fun s : (List Int) × (List Int) × (List TOut) × Int × Int × Int × (List Int) × (List TOut) × Int × Int × Int × Int × Int × Int × (List Int) × Unit => μ s.2.1 s.2.2.2.2.1, ⟨⟨rfl, rfl, rfl, rfl, rfl, rfl, rfl, rfl, rfl, rfl, rfl, rfl, rfl⟩, h0⟩, fun (s1p, s5p, s21p, s22p, s23p, h0_0p, h0_1p, h0_2p, h0_3p, h0_4p, h0_5p, h0_6p, h0_7p, h0_8p, h0_9p, ()) ⟨⟨eq0, eq1, eq2, eq3, eq4, eq5, eq6, eq7, eq8, eq9, eq10, eq11, eq12⟩, hi⟩ => by
    have eq0 : s1p = s1 := eq0; subst s1p; have eq1 : s21p = s21 := eq1; subst s21p; have eq2 : s22p = s22 := eq2; subst s22p; have eq3 : h0_0p = h0_0 := eq3; subst h0_0p; have eq4 : h0_1p = h0_1 := eq4; subst h0_1p; have eq5 : h0_2p = h0_2 := eq5; subst h0_2p; have eq6 : h0_3p = h0_3 := eq6; subst h0_3p; have eq7 : h0_4p = h0_4 := eq7; subst h0_4p; have eq8 : h0_5p = h0_5 := eq8; subst h0_5p; have eq9 : h0_6p = h0_6 := eq9; subst h0_6p; have eq10 : h0_7p = h0_7 := eq10; subst h0_7p; have eq11 : h0_8p = h0_8 := eq11; subst h0_8p; have eq12 : h0_9p = h0_9 := eq12; subst h0_9p; exact mpr_of (by kernel_rfl) ((congrArg (fun k => tx_encode_B1 r0 k s1 s21 s22 h0_0 h0_1 h0_2 h0_3 h0_4 h0_5 h0_6 h0_7 h0_8 h0_9 s5p s23p) (lpk2 (⟨rfl, rfl, rfl, rfl, rfl, rfl, rfl, rfl, rfl, rfl, rfl, rfl, rfl⟩ : s1 = s1 ∧ s21 = s21 ∧ s22 = s22 ∧ h0_0 = h0_0 ∧ h0_1 = h0_1 ∧ h0_2 = h0_2 ∧ h0_3 = h0_3 ∧ h0_4 = h0_4 ∧ h0_5 = h0_5 ∧ h0_6 = h0_6 ∧ h0_7 = h0_7 ∧ h0_8 = h0_8 ∧ h0_9 = h0_9) inv (fun s5q s23q => μ s5q s23q < μ s5p s23p))).mpr (hs s5p s23p hi))⟩⟩
theorem bd72 : Callable Try.prog 72 := ⟨by rw [Try.func72]; kernel_rfl, by rw [Try.func72]; show some _ ≠ some _; decide⟩
theorem tx_encode_body (p0 : TTx) (p1 : List Int) (h : TR p0 ∧ TL p0 ∧ p0.Outs.length ≤ 1048576 ∧ (∀ x ∈ p0.Outs, x.Cipher.length ≤ 1024) ∧ p1.length ≤ 4294967295) : tx_encode_Body (p0.Anchor, p0.Marks, p0.Outs, p0.Deposit, p0.Withdraw, p0.Fee, p0.Account, p0.Nonce, p0.Expiry, p0.Proof, p1, ()) ((encT p0 p1 : List Int), ()) := by
  obtain ⟨hr, hl, ho, hc, hp⟩ := h
  have hm := hl.m
  have hol := encOs_length
  refine tx_encode_in ⟨⟨hr.a, by simp⟩, ⟨hr.m, by simp, hm⟩, ⟨by omega, by simp; omega⟩, ?_⟩
  refine tx_encode_lp1 (fun b i => 0 ≤ i ∧ i ≤ p0.Outs.length ∧ b = dig 8 p0.Anchor ++ encL p0.Marks ++ dig 4 (len4 p0.Outs.length) ++ (p0.Outs.take i.toNat).flatMap encO) (fun _ i => (p0.Outs.length - i).toNat) ⟨by omega, by omega, by simp⟩ ?_
  rintro b i ⟨g0, g1, rfl⟩
  have hb := encOs_length (p0.Outs.take i.toNat) 1024 (fun x hx => hc x (List.mem_of_mem_take hx))
  rw [List.length_take] at hb
  have hb : ((p0.Outs.take i.toNat).flatMap encO).length ≤ 8700000000 := by
    refine Nat.le_trans hb ?_
    have : min i.toNat p0.Outs.length ≤ 1048576 := by omega
    have := Nat.mul_le_mul_left (28 + 8 * 1024) this
    omega
  refine ⟨fun h => ?_, fun h => ?_⟩
  · have h := of_decide_eq_true h
    have hx := hr.o _ (ix_mem p0.Outs i g0 h)
    have hxc := hc _ (ix_mem p0.Outs i g0 h)
    rw [inc i p0.Outs.length g0 h (by omega)]
    refine ⟨g0, h, ⟨hx.c, ?_⟩, ⟨hx.p0, ?_⟩, ⟨hx.p1, ?_⟩, ⟨hx.ci, ?_, by omega⟩, ⟨by omega, by omega, ?_⟩, by omega⟩
    · simp only [List.length_append, dig_length, encL_length]; omega
    · simp only [List.length_append, dig_length, encL_length]; omega
    · simp only [List.length_append, dig_length, encL_length]; omega
    · simp only [List.length_append, dig_length, encL_length]; omega
    · rw [take_succ_ix p0.Outs i g0 h, List.flatMap_append]
      simp [encO, List.append_assoc]
  · have h := of_decide_eq_false h
    rw [List.take_of_length_le (by omega)] at hb ⊢
    refine ⟨⟨hr.d, ?_⟩, ⟨hr.w, ?_⟩, ⟨hr.f, ?_⟩, ⟨hr.ac, ?_⟩, ⟨hr.n, ?_⟩, ⟨hr.e, ?_⟩, ⟨?_, hp⟩, rfl⟩ <;> simp only [List.length_append, dig_length, encL_length] <;> omega
noncomputable def tx_encode_con : Con TB.den := tx_encode_sh.fnR (fun x => (fun (p0 : TTx) (p1 : List Int) => TR p0 ∧ TL p0 ∧ p0.Outs.length ≤ 1048576 ∧ (∀ x ∈ p0.Outs, x.Cipher.length ≤ 1024) ∧ p1.length ≤ 4294967295) (TTx.mk x.1 x.2.1 x.2.2.1 x.2.2.2.1 x.2.2.2.2.1 x.2.2.2.2.2.1 x.2.2.2.2.2.2.1 x.2.2.2.2.2.2.2.1 x.2.2.2.2.2.2.2.2.1 x.2.2.2.2.2.2.2.2.2.1) x.2.2.2.2.2.2.2.2.2.2.1) fun x => ((fun (p0 : TTx) (p1 : List Int) => (encT p0 p1 : List Int)) (TTx.mk x.1 x.2.1 x.2.2.1 x.2.2.2.1 x.2.2.2.2.1 x.2.2.2.2.2.1 x.2.2.2.2.2.2.1 x.2.2.2.2.2.2.2.1 x.2.2.2.2.2.2.2.2.1 x.2.2.2.2.2.2.2.2.2.1) x.2.2.2.2.2.2.2.2.2.2.1, ())
theorem tx_encode_ok : tx_encode_con.Ok Try.prog TB := Con.ok_fn tx_encode_sh bd72 fun x h => tx_encode_snd (tx_encode_body (TTx.mk x.1 x.2.1 x.2.2.1 x.2.2.2.1 x.2.2.2.2.1 x.2.2.2.2.2.1 x.2.2.2.2.2.2.1 x.2.2.2.2.2.2.2.1 x.2.2.2.2.2.2.2.2.1 x.2.2.2.2.2.2.2.2.2.1) x.2.2.2.2.2.2.2.2.2.2.1 h)
end Go.Proofs.Ytnmakgfmimagmaa
namespace Go.Proofs.Ytnmakgfmimagmaa
open Go Go.Bv Go.Cv Go.Md Go.RowKit
def tx_Encode_sh : Con TB.den := Con.mk0 45 [.agg [.d (.int .u64), .d (.sl (.int .u64)), .d (.sl (.st 0)), .d (.int .u64), .d (.int .u64), .d (.int .u64), .d (.int .u64), .d (.int .u64), .d (.int .i64), .d (.sl (.int .u8))]] [] (.tup [.one (.d (.sl (.int .u8))), .one (.d (.int .i64))]) []
abbrev tx_Encode_I := HL TB.den (hsT tx_Encode_sh.ins (hsOs tx_Encode_sh.pre))
abbrev tx_Encode_O := HL TB.den (hsV tx_Encode_sh.res (hsOs tx_Encode_sh.post))
noncomputable def tx_Encode_cx : Cx TB := ⟨inf, [tx_Valid_con, tx_encode_con], [], 4⟩
noncomputable def tx_Encode_code : Code := Try.f45.body.getD .skip
noncomputable def tx_Encode_rs : List ResultVar := Try.f45.results.toList
noncomputable def tx_Encode_an (o : tx_Encode_O) : An TB := .no
noncomputable def tx_Encode_Body (x : tx_Encode_I) (o : tx_Encode_O) : Prop := WPh TB tx_Encode_cx 14 0 tx_Encode_code (tx_Encode_an o) (tx_Encode_sh.st TB x) (retTQ TB tx_Encode_cx tx_Encode_sh tx_Encode_rs o)
set_option maxRecDepth 100000 in
theorem tx_Encode_obl (o : tx_Encode_O) : OblH TB tx_Encode_cx 14 0 tx_Encode_code (tx_Encode_an o) (retTQ TB tx_Encode_cx tx_Encode_sh tx_Encode_rs o) :=
  OblH.of_eq (X := (True ∧ ((True ∧ (True ∧ ((True ∧ True) ∧ True))) ∧ (True ∧ True)))) (by kernel_rfl) ⟨trivial, ⟨⟨trivial, ⟨trivial, ⟨⟨trivial, trivial⟩, trivial⟩⟩⟩, ⟨trivial, trivial⟩⟩⟩
set_option maxRecDepth 100000 in
theorem tx_Encode_snd {x : tx_Encode_I} {o : tx_Encode_O} (h : tx_Encode_Body x o) : SoundH Try.prog tx_Encode_sh.f ((tx_Encode_sh.args idf x).map (er TB)) ((tx_Encode_sh.obs idf x).map (erO TB)) (er TB (tx_Encode_sh.val idf o)) ((tx_Encode_sh.ops idf o).map (erO TB)) :=
  Con.soundH (c := tx_Encode_sh) (C := tx_Encode_cx) TBok ⟨inf_ok, (all_cons tx_Valid_ok (all_cons tx_encode_ok all_nil)), all_nil⟩ mix Try.func45 (show Try.f45.body = some tx_Encode_code by kernel_rfl) (show Try.f45.ntmps = 14 by kernel_rfl) (show Try.f45.results.toList = tx_Encode_rs by kernel_rfl) rfl h (tx_Encode_obl o)
set_option maxRecDepth 100000 in
theorem tx_Encode_in {p0 : TTx} {r0 : List Int} {r1 : Int} (h :
((((validE p0) != 0) = true →
([] : List Int) = r0 ∧ validE p0 = r1) ∧
(((validE p0) != 0) = false →
(TR p0 ∧ TL p0 ∧ p0.Outs.length ≤ 1048576 ∧ (∀ x ∈ p0.Outs, x.Cipher.length ≤ 1024) ∧ p0.Proof.length ≤ 4294967295) ∧ encT p0 p0.Proof = r0 ∧ 0 = r1))) : tx_Encode_Body (p0.Anchor, p0.Marks, p0.Outs, p0.Deposit, p0.Withdraw, p0.Fee, p0.Account, p0.Nonce, p0.Expiry, p0.Proof, ()) (r0, r1, ()) := WPh.of_eq (by kernel_rfl) h
theorem bd45 : Callable Try.prog 45 := ⟨by rw [Try.func45]; kernel_rfl, by rw [Try.func45]; show some _ ≠ some _; decide⟩
theorem tx_Encode_body (p0 : TTx) (h : TR p0) : tx_Encode_Body (p0.Anchor, p0.Marks, p0.Outs, p0.Deposit, p0.Withdraw, p0.Fee, p0.Account, p0.Nonce, p0.Expiry, p0.Proof, ()) (((if validE p0 = 0 then encT p0 p0.Proof else []) : List Int), (validE p0 : Int), ()) := by
  refine tx_Encode_in ⟨fun e => ?_, fun e => ?_⟩
  · have e : validE p0 ≠ 0 := by simpa using e
    rw [if_neg e]
    exact ⟨rfl, rfl⟩
  · have e : validE p0 = 0 := by simpa using e
    have v := (validE_zero p0).1 e
    rw [if_pos e, e]
    exact ⟨⟨h, v.tl, by have := v.ol; omega, fun x hx => by have := (v.o x hx).l; omega, v.tl.p⟩, rfl, rfl⟩
noncomputable def tx_Encode_con : Con TB.den := tx_Encode_sh.fnR (fun x => (fun (p0 : TTx) => TR p0) (TTx.mk x.1 x.2.1 x.2.2.1 x.2.2.2.1 x.2.2.2.2.1 x.2.2.2.2.2.1 x.2.2.2.2.2.2.1 x.2.2.2.2.2.2.2.1 x.2.2.2.2.2.2.2.2.1 x.2.2.2.2.2.2.2.2.2.1)) fun x => ((fun (p0 : TTx) => ((if validE p0 = 0 then encT p0 p0.Proof else []) : List Int)) (TTx.mk x.1 x.2.1 x.2.2.1 x.2.2.2.1 x.2.2.2.2.1 x.2.2.2.2.2.1 x.2.2.2.2.2.2.1 x.2.2.2.2.2.2.2.1 x.2.2.2.2.2.2.2.2.1 x.2.2.2.2.2.2.2.2.2.1), (fun (p0 : TTx) => (validE p0 : Int)) (TTx.mk x.1 x.2.1 x.2.2.1 x.2.2.2.1 x.2.2.2.2.1 x.2.2.2.2.2.1 x.2.2.2.2.2.2.1 x.2.2.2.2.2.2.2.1 x.2.2.2.2.2.2.2.2.1 x.2.2.2.2.2.2.2.2.2.1), ())
theorem tx_Encode_ok : tx_Encode_con.Ok Try.prog TB := Con.ok_fn tx_Encode_sh bd45 fun x h => tx_Encode_snd (tx_Encode_body (TTx.mk x.1 x.2.1 x.2.2.1 x.2.2.2.1 x.2.2.2.2.1 x.2.2.2.2.2.1 x.2.2.2.2.2.2.1 x.2.2.2.2.2.2.2.1 x.2.2.2.2.2.2.2.2.1 x.2.2.2.2.2.2.2.2.2.1) h)
end Go.Proofs.Ytnmakgfmimagmaa
namespace Go.Proofs.Ytnmakgfmimagmaa
open Go Go.Bv Go.Cv Go.Md Go.RowKit
def tx_Weight_sh : Con TB.den := Con.mk0 30 [.agg [.d (.int .u64), .d (.sl (.int .u64)), .d (.sl (.st 0)), .d (.int .u64), .d (.int .u64), .d (.int .u64), .d (.int .u64), .d (.int .u64), .d (.int .i64), .d (.sl (.int .u8))]] [] (.one (.one (.d (.int .i64)))) []
abbrev tx_Weight_I := HL TB.den (hsT tx_Weight_sh.ins (hsOs tx_Weight_sh.pre))
abbrev tx_Weight_O := HL TB.den (hsV tx_Weight_sh.res (hsOs tx_Weight_sh.post))
noncomputable def tx_Weight_cx : Cx TB := ⟨inf, [tx_Encode_con], [], 4⟩
noncomputable def tx_Weight_code : Code := Try.f30.body.getD .skip
noncomputable def tx_Weight_rs : List ResultVar := Try.f30.results.toList
noncomputable def tx_Weight_an (o : tx_Weight_O) : An TB := .no
noncomputable def tx_Weight_Body (x : tx_Weight_I) (o : tx_Weight_O) : Prop := WPh TB tx_Weight_cx 14 0 tx_Weight_code (tx_Weight_an o) (tx_Weight_sh.st TB x) (retTQ TB tx_Weight_cx tx_Weight_sh tx_Weight_rs o)
set_option maxRecDepth 100000 in
theorem tx_Weight_obl (o : tx_Weight_O) : OblH TB tx_Weight_cx 14 0 tx_Weight_code (tx_Weight_an o) (retTQ TB tx_Weight_cx tx_Weight_sh tx_Weight_rs o) :=
  OblH.of_eq (X := (True ∧ (True ∧ ((True ∧ ((True ∧ True) ∧ True)) ∧ (True ∧ True))))) (by kernel_rfl) ⟨trivial, ⟨trivial, ⟨⟨trivial, ⟨⟨trivial, trivial⟩, trivial⟩⟩, ⟨trivial, trivial⟩⟩⟩⟩
set_option maxRecDepth 100000 in
theorem tx_Weight_snd {x : tx_Weight_I} {o : tx_Weight_O} (h : tx_Weight_Body x o) : SoundH Try.prog tx_Weight_sh.f ((tx_Weight_sh.args idf x).map (er TB)) ((tx_Weight_sh.obs idf x).map (erO TB)) (er TB (tx_Weight_sh.val idf o)) ((tx_Weight_sh.ops idf o).map (erO TB)) :=
  Con.soundH (c := tx_Weight_sh) (C := tx_Weight_cx) TBok ⟨inf_ok, (all_cons tx_Encode_ok all_nil), all_nil⟩ mix Try.func30 (show Try.f30.body = some tx_Weight_code by kernel_rfl) (show Try.f30.ntmps = 14 by kernel_rfl) (show Try.f30.results.toList = tx_Weight_rs by kernel_rfl) rfl h (tx_Weight_obl o)
set_option maxRecDepth 100000 in
theorem tx_Weight_in {p0 : TTx} {r0 : Int} (h :
((TR p0) ∧ let r1 : List Int := (if validE p0 = 0 then encT p0 p0.Proof else [])
(((validE p0) != 0) = true →
 0 = r0) ∧
(((validE p0) != 0) = false →
(r1.length : Int) = r0))) : tx_Weight_Body (p0.Anchor, p0.Marks, p0.Outs, p0.Deposit, p0.Withdraw, p0.Fee, p0.Account, p0.Nonce, p0.Expiry, p0.Proof, ()) (r0, ()) := WPh.of_eq (by kernel_rfl) h
theorem bd30 : Callable Try.prog 30 := ⟨by rw [Try.func30]; kernel_rfl, by rw [Try.func30]; show some _ ≠ some _; decide⟩
theorem tx_Weight_body (p0 : TTx) (h : TR p0) : tx_Weight_Body (p0.Anchor, p0.Marks, p0.Outs, p0.Deposit, p0.Withdraw, p0.Fee, p0.Account, p0.Nonce, p0.Expiry, p0.Proof, ()) ((weightS p0 : Int), ()) := by
  refine tx_Weight_in ⟨h, ?_⟩
  unfold weightS
  refine ⟨fun e => ?_, fun e => ?_⟩
  · have e : validE p0 ≠ 0 := by simpa using e
    rw [if_neg e]
  · have e : validE p0 = 0 := by simpa using e
    rw [if_pos e, if_pos e]
noncomputable def tx_Weight_con : Con TB.den := tx_Weight_sh.fnR (fun x => (fun (p0 : TTx) => TR p0) (TTx.mk x.1 x.2.1 x.2.2.1 x.2.2.2.1 x.2.2.2.2.1 x.2.2.2.2.2.1 x.2.2.2.2.2.2.1 x.2.2.2.2.2.2.2.1 x.2.2.2.2.2.2.2.2.1 x.2.2.2.2.2.2.2.2.2.1)) fun x => ((fun (p0 : TTx) => (weightS p0 : Int)) (TTx.mk x.1 x.2.1 x.2.2.1 x.2.2.2.1 x.2.2.2.2.1 x.2.2.2.2.2.1 x.2.2.2.2.2.2.1 x.2.2.2.2.2.2.2.1 x.2.2.2.2.2.2.2.2.1 x.2.2.2.2.2.2.2.2.2.1), ())
theorem tx_Weight_ok : tx_Weight_con.Ok Try.prog TB := Con.ok_fn tx_Weight_sh bd30 fun x h => tx_Weight_snd (tx_Weight_body (TTx.mk x.1 x.2.1 x.2.2.1 x.2.2.2.1 x.2.2.2.2.1 x.2.2.2.2.2.1 x.2.2.2.2.2.2.1 x.2.2.2.2.2.2.2.1 x.2.2.2.2.2.2.2.2.1 x.2.2.2.2.2.2.2.2.2.1) h)
end Go.Proofs.Ytnmakgfmimagmaa
namespace Go.Proofs.Ytnmakgfmimagmaa
open Go Go.Bv Go.Cv Go.Md Go.RowKit
def block_Valid_sh : Con TB.den := Con.mk0 12 [.agg [.d (.int .u64), .d (.int .i64), .d (.int .u64), .d (.int .u64), .d (.int .u64), .d (.sl (.st 1))]] [] (.one (.one (.d (.int .i64)))) []
abbrev block_Valid_I := HL TB.den (hsT block_Valid_sh.ins (hsOs block_Valid_sh.pre))
abbrev block_Valid_O := HL TB.den (hsV block_Valid_sh.res (hsOs block_Valid_sh.post))
noncomputable def block_Valid_cx : Cx TB := ⟨inf, [tx_Valid_con, tx_Weight_con], [], 4⟩
noncomputable def block_Valid_code : Code := Try.f12.body.getD .skip
noncomputable def block_Valid_rs : List ResultVar := Try.f12.results.toList
noncomputable def block_Valid_Q2 (o : block_Valid_O) : Exit → TSt TB.den → Prop := thenT TB (fun s => ghs TB [] s fun s => WP TB block_Valid_cx 52 0 (cB (cB (cB (cB block_Valid_code)))) .no s (retTQ TB block_Valid_cx block_Valid_sh block_Valid_rs o)) (retTQ TB block_Valid_cx block_Valid_sh block_Valid_rs o)
def block_Valid_T1 : Tm := ⟨[], [], [3, 36, 37, 38], [.one (.d (.int .i64)), .one (.d (.sl (.st 1))), .one (.d (.int .i64)), .one (.d (.int .i64))], 1⟩
noncomputable def block_Valid_Q3 (o : block_Valid_O) (nx1 : HL TB.den block_Valid_T1.hs → Prop) : Exit → TSt TB.den → Prop := thenT TB (fun s => block_Valid_T1.mat TB 0 s nx1) (blockT TB 1 (block_Valid_Q2 o))
noncomputable def block_Valid_L1 (o : block_Valid_O) (nx1 : HL TB.den block_Valid_T1.hs → Prop) (i : HL TB.den block_Valid_T1.hs) : Prop := WP TB block_Valid_cx 52 0 (cA (cA (cB (cA (cB (cB (cB block_Valid_code))))))) .no (block_Valid_T1.fill TB i) (block_Valid_Q3 o nx1)
noncomputable def block_Valid_A7 (o : block_Valid_O) : An TB := .nd [] .no [] (.lp [] block_Valid_T1 (block_Valid_L1 o) fun nx1 => .no)
def block_Valid_TJ4 : Tm := ⟨[0], [.cells [.d (.int .u64), .d (.int .i64), .d (.int .u64), .d (.int .u64), .d (.int .u64), .d (.sl (.st 1))]], [1], [.one (.ptr 0 0)], 1⟩
noncomputable def block_Valid_J4d (o : block_Valid_O) (i : HL TB.den block_Valid_TJ4.hs) : Prop := ghs TB [] (block_Valid_TJ4.fill TB i) fun s => WP TB block_Valid_cx 52 0 (cB (cB block_Valid_code)) (.nd [] .no [] (.nd [] (block_Valid_A7 o) [] .no)) s (retTQ TB block_Valid_cx block_Valid_sh block_Valid_rs o)
structure block_Valid_J4 (o : block_Valid_O) (i : HL TB.den block_Valid_TJ4.hs) : Prop where
  h : block_Valid_J4d o i
noncomputable def block_Valid_Q8 (o : block_Valid_O) : Exit → TSt TB.den → Prop := thenT TB (fun s => block_Valid_TJ4.mat TB 0 s (block_Valid_J4 o)) (retTQ TB block_Valid_cx block_Valid_sh block_Valid_rs o)
noncomputable def block_Valid_Q9 (o : block_Valid_O) : Exit → TSt TB.den → Prop := thenT TB (fun s => ghs TB [] s fun s => WP TB block_Valid_cx 52 0 (cB (cA (cA (cB block_Valid_code)))) .no s (blockT TB 0 (block_Valid_Q8 o))) (blockT TB 0 (block_Valid_Q8 o))
def block_Valid_TJ3 : Tm := ⟨[0], [.cells [.d (.int .u64), .d (.int .i64), .d (.int .u64), .d (.int .u64), .d (.int .u64), .d (.sl (.st 1))]], [1, 6], [.one (.ptr 0 0), .one (.d (.bool))], 1⟩
noncomputable def block_Valid_J3d (o : block_Valid_O) (i : HL TB.den block_Valid_TJ3.hs) : Prop := ghs TB [] (block_Valid_TJ3.fill TB i) fun s => WP TB block_Valid_cx 52 0 (cB (cB (cB (cB (cB (cA (cA (cA (cB block_Valid_code))))))))) .no s (block_Valid_Q9 o)
structure block_Valid_J3 (o : block_Valid_O) (i : HL TB.den block_Valid_TJ3.hs) : Prop where
  h : block_Valid_J3d o i
noncomputable def block_Valid_A11 (o : block_Valid_O) : An TB := .nd [] .no [] (.jn block_Valid_TJ3 (block_Valid_J3 o) [] .no [] .no)
def block_Valid_TJ2 : Tm := ⟨[0], [.cells [.d (.int .u64), .d (.int .i64), .d (.int .u64), .d (.int .u64), .d (.int .u64), .d (.sl (.st 1))]], [1, 6], [.one (.ptr 0 0), .one (.d (.bool))], 1⟩
noncomputable def block_Valid_J2d (o : block_Valid_O) (i : HL TB.den block_Valid_TJ2.hs) : Prop := ghs TB [] (block_Valid_TJ2.fill TB i) fun s => WP TB block_Valid_cx 52 0 (cB (cB (cB (cA (cA (cA (cB block_Valid_code))))))) (block_Valid_A11 o) s (block_Valid_Q9 o)
structure block_Valid_J2 (o : block_Valid_O) (i : HL TB.den block_Valid_TJ2.hs) : Prop where
  h : block_Valid_J2d o i
noncomputable def block_Valid_A13 (o : block_Valid_O) : An TB := .jn block_Valid_TJ2 (block_Valid_J2 o) [] .no [] (block_Valid_A11 o)
def block_Valid_TJ1 : Tm := ⟨[0], [.cells [.d (.int .u64), .d (.int .i64), .d (.int .u64), .d (.int .u64), .d (.int .u64), .d (.sl (.st 1))]], [1, 6], [.one (.ptr 0 0), .one (.d (.bool))], 1⟩
noncomputable def block_Valid_J1d (o : block_Valid_O) (i : HL TB.den block_Valid_TJ1.hs) : Prop := ghs TB [] (block_Valid_TJ1.fill TB i) fun s => WP TB block_Valid_cx 52 0 (cB (cA (cA (cA (cB block_Valid_code))))) (.nd [] .no [] (block_Valid_A13 o)) s (block_Valid_Q9 o)
structure block_Valid_J1 (o : block_Valid_O) (i : HL TB.den block_Valid_TJ1.hs) : Prop where
  h : block_Valid_J1d o i
noncomputable def block_Valid_A15 (o : block_Valid_O) : An TB := .jn block_Valid_TJ1 (block_Valid_J1 o) [] .no [] (.nd [] .no [] (block_Valid_A13 o))
noncomputable def block_Valid_A16 (o : block_Valid_O) : An TB := .jn block_Valid_TJ4 (block_Valid_J4 o) [] (.nd [] (block_Valid_A15 o) [] .no) [] (.nd [] .no [] (.nd [] (block_Valid_A7 o) [] .no))
noncomputable def block_Valid_an (o : block_Valid_O) : An TB := .nd [] .no [] (block_Valid_A16 o)
noncomputable def block_Valid_Body (x : block_Valid_I) (o : block_Valid_O) : Prop := WPh TB block_Valid_cx 52 0 block_Valid_code (block_Valid_an o) (block_Valid_sh.st TB x) (retTQ TB block_Valid_cx block_Valid_sh block_Valid_rs o)
set_option maxRecDepth 100000 in
theorem block_Valid_obl (o : block_Valid_O) : OblH TB block_Valid_cx 52 0 block_Valid_code (block_Valid_an o) (retTQ TB block_Valid_cx block_Valid_sh block_Valid_rs o) :=
  OblH.of_eq (X := (True ∧ (((True ∧ (∀ i, (block_Valid_J1 o) i = (block_Valid_J1d o) i) ∧ (True ∧ (True ∧ (∀ i, (block_Valid_J2 o) i = (block_Valid_J2d o) i) ∧ (True ∧ (True ∧ (∀ i, (block_Valid_J3 o) i = (block_Valid_J3d o) i) ∧ (True ∧ True)))))) ∧ ((True ∧ True) ∧ True)) ∧ (∀ i, (block_Valid_J4 o) i = (block_Valid_J4d o) i) ∧ (True ∧ ((True ∧ ((∀ nx i, (block_Valid_L1 o) nx i = (block_Valid_L1 o) nx i) ∧ ∀ nx1 : HL TB.den block_Valid_T1.hs → Prop, (True ∧ ((True ∧ True) ∧ ((True ∧ ((True ∧ ((True ∧ True) ∧ True)) ∧ True)) ∧ True))))) ∧ ((True ∧ ((True ∧ True) ∧ True)) ∧ (True ∧ True))))))) (by kernel_rfl) ⟨trivial, ⟨⟨⟨trivial, fun _ => propext ⟨fun h => h.1, fun h => ⟨h⟩⟩, ⟨trivial, ⟨trivial, fun _ => propext ⟨fun h => h.1, fun h => ⟨h⟩⟩, ⟨trivial, ⟨trivial, fun _ => propext ⟨fun h => h.1, fun h => ⟨h⟩⟩, ⟨trivial, trivial⟩⟩⟩⟩⟩⟩, ⟨⟨trivial, trivial⟩, trivial⟩⟩, fun _ => propext ⟨fun h => h.1, fun h => ⟨h⟩⟩, ⟨trivial, ⟨⟨trivial, ⟨fun _ _ => rfl, fun _ => ⟨trivial, ⟨⟨trivial, trivial⟩, ⟨⟨trivial, ⟨⟨trivial, ⟨⟨trivial, trivial⟩, trivial⟩⟩, trivial⟩⟩, trivial⟩⟩⟩⟩⟩, ⟨⟨trivial, ⟨⟨trivial, trivial⟩, trivial⟩⟩, ⟨trivial, trivial⟩⟩⟩⟩⟩⟩
set_option maxRecDepth 100000 in
theorem block_Valid_snd {x : block_Valid_I} {o : block_Valid_O} (h : block_Valid_Body x o) : SoundH Try.prog block_Valid_sh.f ((block_Valid_sh.args idf x).map (er TB)) ((block_Valid_sh.obs idf x).map (erO TB)) (er TB (block_Valid_sh.val idf o)) ((block_Valid_sh.ops idf o).map (erO TB)) :=
  Con.soundH (c := block_Valid_sh) (C := block_Valid_cx) TBok ⟨inf_ok, (all_cons tx_Valid_ok (all_cons tx_Weight_ok all_nil)), all_nil⟩ mix Try.func12 (show Try.f12.body = some block_Valid_code by kernel_rfl) (show Try.f12.ntmps = 52 by kernel_rfl) (show Try.f12.results.toList = block_Valid_rs by kernel_rfl) rfl h (block_Valid_obl o)
set_option maxRecDepth 100000 in
theorem block_Valid_in {p0 : TBlock} {r0 : Int} (h :
((decide (p0.Height < 1) = true →
 block_Valid_J1 (r0, ()) (true, p0.Parent, p0.Height, p0.Miner, p0.Work, p0.Nonce, p0.Txs, ())) ∧
(decide (p0.Height < 1) = false →
 block_Valid_J1 (r0, ()) ((decide (1048576 < p0.Height) : Bool), p0.Parent, p0.Height, p0.Miner, p0.Work, p0.Nonce, p0.Txs, ())))) : block_Valid_Body (p0.Parent, p0.Height, p0.Miner, p0.Work, p0.Nonce, p0.Txs, ()) (r0, ()) := WPh.of_eq (by kernel_rfl) h
set_option maxRecDepth 100000 in
theorem block_Valid_J1_in {r0 : Int} {s6 : Bool} {h0_0 : Int} {h0_1 : Int} {h0_2 : Int} {h0_3 : Int} {h0_4 : Int} {h0_5 : List TTx} (h :
((s6 = true →
(s6 = true →
 1 = r0) ∧
(s6 = false →
 block_Valid_J4 (r0, ()) (h0_0, h0_1, h0_2, h0_3, h0_4, h0_5, ()))) ∧
(s6 = false →
(decide (h0_3 < 1) = true →
 block_Valid_J2 (r0, ()) (true, h0_0, h0_1, h0_2, h0_3, h0_4, h0_5, ())) ∧
(decide (h0_3 < 1) = false →
 block_Valid_J2 (r0, ()) ((decide (65536 < h0_3) : Bool), h0_0, h0_1, h0_2, h0_3, h0_4, h0_5, ()))))) : block_Valid_J1 (r0, ()) (s6, h0_0, h0_1, h0_2, h0_3, h0_4, h0_5, ()) := ⟨mpr_of (by kernel_rfl) h⟩
set_option maxRecDepth 100000 in
theorem block_Valid_J2_in {r0 : Int} {s6 : Bool} {h0_0 : Int} {h0_1 : Int} {h0_2 : Int} {h0_3 : Int} {h0_4 : Int} {h0_5 : List TTx} (h :
((s6 = true →
(s6 = true →
 1 = r0) ∧
(s6 = false →
 block_Valid_J4 (r0, ()) (h0_0, h0_1, h0_2, h0_3, h0_4, h0_5, ()))) ∧
(s6 = false →
(decide (18446744069414584321 ≤ h0_0) = true →
 block_Valid_J3 (r0, ()) (true, h0_0, h0_1, h0_2, h0_3, h0_4, h0_5, ())) ∧
(decide (18446744069414584321 ≤ h0_0) = false →
 block_Valid_J3 (r0, ()) ((decide (18446744069414584321 ≤ h0_2) : Bool), h0_0, h0_1, h0_2, h0_3, h0_4, h0_5, ()))))) : block_Valid_J2 (r0, ()) (s6, h0_0, h0_1, h0_2, h0_3, h0_4, h0_5, ()) := ⟨mpr_of (by kernel_rfl) h⟩
set_option maxRecDepth 100000 in
theorem block_Valid_J3_in {r0 : Int} {s6 : Bool} {h0_0 : Int} {h0_1 : Int} {h0_2 : Int} {h0_3 : Int} {h0_4 : Int} {h0_5 : List TTx} (h :
((s6 = true →
(s6 = true →
 1 = r0) ∧
(s6 = false →
 block_Valid_J4 (r0, ()) (h0_0, h0_1, h0_2, h0_3, h0_4, h0_5, ()))) ∧
(s6 = false →
(decide (64 < (h0_5.length : Int)) = true →
 1 = r0) ∧
(decide (64 < (h0_5.length : Int)) = false →
 block_Valid_J4 (r0, ()) (h0_0, h0_1, h0_2, h0_3, h0_4, h0_5, ()))))) : block_Valid_J3 (r0, ()) (s6, h0_0, h0_1, h0_2, h0_3, h0_4, h0_5, ()) := ⟨mpr_of (by kernel_rfl) h⟩
set_option maxRecDepth 100000 in
theorem block_Valid_J4_in {r0 : Int} {h0_0 : Int} {h0_1 : Int} {h0_2 : Int} {h0_3 : Int} {h0_4 : Int} {h0_5 : List TTx} (h :
(Md.Loop ((0 : Int), h0_5, ((h0_5.length : Int) : Int), (0 : Int), ()) (block_Valid_L1 (r0, ())))) : block_Valid_J4 (r0, ()) (h0_0, h0_1, h0_2, h0_3, h0_4, h0_5, ()) := ⟨mpr_of (by kernel_rfl) h⟩
def block_Valid_B1 (r0 : Int) (k1 : Int → Int → Prop) (s36 : List TTx) (s37 : Int) (s3 : Int) (s38 : Int) : Prop :=
(decide (s38 < s37) = true →
(0 ≤ s38) ∧ s38 < (s36.length : Int) ∧ (((validE (ix s36 s38)) != 0) = true →
 1 = r0) ∧
(((validE (ix s36 s38)) != 0) = false →
(TR (ix s36 s38)) ∧ let v1 : Int := IntKind.i64.wrap (s3 + (weightS (ix s36 s38)))
 k1 v1 (IntKind.i64.wrap (s38 + 1) : Int))) ∧
(decide (s38 < s37) = false →
(decide (2097152 < s3) = true →
 3 = r0) ∧
(decide (2097152 < s3) = false →
 0 = r0))
set_option maxRecDepth 100000 in
theorem block_Valid_lp1 {r0 : Int} {s36 : List TTx} {s37 : Int} {s3 : Int} {s38 : Int} (inv : Int → Int → Prop) (μ : Int → Int → Nat) (h0 : inv s3 s38) (hs : ∀ (s3 : Int) (s38 : Int), inv s3 s38 → block_Valid_B1 r0 (fun s3q s38q => inv s3q s38q ∧ μ s3q s38q < μ s3 s38) s36 s37 s3 s38) : Md.Loop (s3, s36, s37, s38, ()) (block_Valid_L1 (r0, ())) :=
  ⟨⟨fun s : Int × (List TTx) × Int × Int × Unit => (s.2.1 = s36 ∧ s.2.2.1 = s37) ∧ inv s.1 s.2.2.2.1, fun s : Int × (List TTx) × Int × Int × Unit => μ s.1 s.2.2.2.1, ⟨⟨rfl, rfl⟩, h0⟩, fun (s3p, s36p, s37p, s38p, ()) ⟨⟨eq0, eq1⟩, hi⟩ => by
    have eq0 : s36p = s36 := eq0; subst s36p; have eq1 : s37p = s37 := eq1; subst s37p; exact mpr_of (by kernel_rfl) ((congrArg (fun k => block_Valid_B1 r0 k s36 s37 s3p s38p) (lpk2 (⟨rfl, rfl⟩ : s36 = s36 ∧ s37 = s37) inv (fun s3q s38q => μ s3q s38q < μ s3p s38p))).mpr (hs s3p s38p hi))⟩⟩
theorem bd12 : Callable Try.prog 12 := ⟨by rw [Try.func12]; kernel_rfl, by rw [Try.func12]; show some _ ≠ some _; decide⟩
theorem block_Valid_body (p0 : TBlock) (h : ∀ x ∈ p0.Txs, TR x) : block_Valid_Body (p0.Parent, p0.Height, p0.Miner, p0.Work, p0.Nonce, p0.Txs, ()) ((validB p0 : Int), ()) := by
  have bad : ∀ b : Bool, b = true → ¬ VB0 p0 → (1 : Int) = validB p0 := fun _ _ hn => (validB_head hn).symm
  have j4 : VB0 p0 → block_Valid_J4 (validB p0, ()) (p0.Parent, p0.Height, p0.Miner, p0.Work, p0.Nonce, p0.Txs, ()) := by
    intro hc
    have hl := hc.l
    refine block_Valid_J4_in (block_Valid_lp1 (fun w i => 0 ≤ i ∧ i ≤ p0.Txs.length ∧ w = sumW (p0.Txs.take i.toNat) ∧ ∀ t ∈ p0.Txs.take i.toNat, validE t = 0) (fun _ i => (p0.Txs.length - i).toNat) ⟨by omega, by omega, by simp [sumW], by simp⟩ ?_)
    rintro w i ⟨g0, g1, rfl, g3⟩
    have hb := sumW_bd _ g3
    rw [List.length_take] at hb
    refine ⟨fun hh => ?_, fun hh => ?_⟩
    · have hh := of_decide_eq_true hh
      have hm := ix_mem p0.Txs i g0 hh
      refine ⟨g0, hh, fun e => ?_, fun e => ⟨h _ hm, ?_⟩⟩
      · have e : validE (ix p0.Txs i) ≠ 0 := by simpa using e
        exact (validB_tx hm e).symm
      · have e : validE (ix p0.Txs i) = 0 := by simpa using e
        have hw := weightS_bd e
        rw [inc i p0.Txs.length g0 hh (by omega), wi (sumW (p0.Txs.take i.toNat) + weightS (ix p0.Txs i)) (by omega) (by omega)]
        refine ⟨⟨by omega, by omega, ?_, ?_⟩, by omega⟩
        · rw [take_succ_ix p0.Txs i g0 hh, sumW_add]
        · rw [take_succ_ix p0.Txs i g0 hh]
          intro t ht
          rcases List.mem_append.1 ht with ht | ht
          · exact g3 t ht
          · rw [List.mem_singleton.1 ht]; exact e
    · have hh := of_decide_eq_false hh
      rw [List.take_of_length_le (by omega)] at g3 hb ⊢
      rw [validB_of hc g3]
      refine ⟨fun e => ?_, fun e => ?_⟩
      · have e := of_decide_eq_true e
        rw [if_neg (by omega)]
      · have e := of_decide_eq_false e
        rw [if_pos (by omega)]
  have j3 : ∀ s, (s = true → ¬ VB0 p0) → (s = false → p0.Txs.length ≤ 64 → VB0 p0) → block_Valid_J3 (validB p0, ()) (s, p0.Parent, p0.Height, p0.Miner, p0.Work, p0.Nonce, p0.Txs, ()) := by
    intro s h1 h2
    refine block_Valid_J3_in ⟨fun e => ⟨fun _ => (validB_head (h1 e)).symm, fun e2 => by rw [e] at e2; cases e2⟩, fun e => ⟨fun e2 => ?_, fun e2 => ?_⟩⟩
    · have e2 := of_decide_eq_true e2
      exact (validB_head fun v => by have := v.l; omega).symm
    · have e2 := of_decide_eq_false e2
      exact j4 (h2 e (by omega))
  have j2 : ∀ s, (s = true → ¬ VB0 p0) → (s = false → p0.Parent < 18446744069414584321 → p0.Miner < 18446744069414584321 → p0.Txs.length ≤ 64 → VB0 p0) → block_Valid_J2 (validB p0, ()) (s, p0.Parent, p0.Height, p0.Miner, p0.Work, p0.Nonce, p0.Txs, ()) := by
    intro s h1 h2
    refine block_Valid_J2_in ⟨fun e => ⟨fun _ => (validB_head (h1 e)).symm, fun e2 => by rw [e] at e2; cases e2⟩, fun e => ⟨fun e2 => ?_, fun e2 => ?_⟩⟩
    · have e2 := of_decide_eq_true e2
      exact j3 _ (fun _ v => by have := v.p; omega) (fun h => by cases h)
    · have e2 := of_decide_eq_false e2
      exact j3 _ (fun hd v => by have := of_decide_eq_true hd; have := v.m; omega) (fun hd => h2 e (by omega) (by have := of_decide_eq_false hd; omega))
  have j1 : ∀ s, (s = true → ¬ VB0 p0) → (s = false → 1 ≤ p0.Height ∧ p0.Height ≤ 1048576) → block_Valid_J1 (validB p0, ()) (s, p0.Parent, p0.Height, p0.Miner, p0.Work, p0.Nonce, p0.Txs, ()) := by
    intro s h1 h2
    refine block_Valid_J1_in ⟨fun e => ⟨fun _ => (validB_head (h1 e)).symm, fun e2 => by rw [e] at e2; cases e2⟩, fun e => ⟨fun e2 => ?_, fun e2 => ?_⟩⟩
    · have e2 := of_decide_eq_true e2
      exact j2 _ (fun _ v => by have := v.w0; omega) (fun h => by cases h)
    · have e2 := of_decide_eq_false e2
      obtain ⟨q1, q2⟩ := h2 e
      exact j2 _ (fun hd v => by have := of_decide_eq_true hd; have := v.w1; omega) (fun hd a b c => ⟨q1, q2, by omega, by have := of_decide_eq_false hd; omega, a, b, c⟩)
  refine block_Valid_in ⟨fun e => ?_, fun e => ?_⟩
  · have e := of_decide_eq_true e
    exact j1 _ (fun _ v => by have := v.h0; omega) (fun h => by cases h)
  · have e := of_decide_eq_false e
    exact j1 _ (fun hd v => by have := of_decide_eq_true hd; have := v.h1; omega) (fun hd => ⟨by omega, by have := of_decide_eq_false hd; omega⟩)
noncomputable def block_Valid_con : Con TB.den := block_Valid_sh.fnR (fun x => (fun (p0 : TBlock) => ∀ x ∈ p0.Txs, TR x) (TBlock.mk x.1 x.2.1 x.2.2.1 x.2.2.2.1 x.2.2.2.2.1 x.2.2.2.2.2.1)) fun x => ((fun (p0 : TBlock) => (validB p0 : Int)) (TBlock.mk x.1 x.2.1 x.2.2.1 x.2.2.2.1 x.2.2.2.2.1 x.2.2.2.2.2.1), ())
theorem block_Valid_ok : block_Valid_con.Ok Try.prog TB := Con.ok_fn block_Valid_sh bd12 fun x h => block_Valid_snd (block_Valid_body (TBlock.mk x.1 x.2.1 x.2.2.1 x.2.2.2.1 x.2.2.2.2.1 x.2.2.2.2.2.1) h)
end Go.Proofs.Ytnmakgfmimagmaa
namespace Go.Proofs.Ytnmakgfmimagmaa
open Go Go.Bv Go.Cv Go.Md Go.RowKit
def block_header_sh : Con TB.den := Con.mk0 44 [.agg [.d (.int .u64), .d (.int .i64), .d (.int .u64), .d (.int .u64), .d (.int .u64), .d (.sl (.st 1))]] [] (.one (.one (.d (.sl (.int .u8))))) []
abbrev block_header_I := HL TB.den (hsT block_header_sh.ins (hsOs block_header_sh.pre))
abbrev block_header_O := HL TB.den (hsV block_header_sh.res (hsOs block_header_sh.post))
noncomputable def block_header_cx : Cx TB := ⟨inf, [wire_Uint_con, wire_Int_con], [], 4⟩
noncomputable def block_header_code : Code := Try.f44.body.getD .skip
noncomputable def block_header_rs : List ResultVar := Try.f44.results.toList
noncomputable def block_header_an (o : block_header_O) : An TB := .no
noncomputable def block_header_Body (x : block_header_I) (o : block_header_O) : Prop := WPh TB block_header_cx 28 0 block_header_code (block_header_an o) (block_header_sh.st TB x) (retTQ TB block_header_cx block_header_sh block_header_rs o)
set_option maxRecDepth 100000 in
theorem block_header_obl (o : block_header_O) : OblH TB block_header_cx 28 0 block_header_code (block_header_an o) (retTQ TB block_header_cx block_header_sh block_header_rs o) :=
  OblH.of_eq (X := (True ∧ (True ∧ (True ∧ (True ∧ (True ∧ (True ∧ (True ∧ True)))))))) (by kernel_rfl) ⟨trivial, ⟨trivial, ⟨trivial, ⟨trivial, ⟨trivial, ⟨trivial, ⟨trivial, trivial⟩⟩⟩⟩⟩⟩⟩
set_option maxRecDepth 100000 in
theorem block_header_snd {x : block_header_I} {o : block_header_O} (h : block_header_Body x o) : SoundH Try.prog block_header_sh.f ((block_header_sh.args idf x).map (er TB)) ((block_header_sh.obs idf x).map (erO TB)) (er TB (block_header_sh.val idf o)) ((block_header_sh.ops idf o).map (erO TB)) :=
  Con.soundH (c := block_header_sh) (C := block_header_cx) TBok ⟨inf_ok, (all_cons wire_Uint_ok (all_cons wire_Int_ok all_nil)), all_nil⟩ mix Try.func44 (show Try.f44.body = some block_header_code by kernel_rfl) (show Try.f44.ntmps = 28 by kernel_rfl) (show Try.f44.results.toList = block_header_rs by kernel_rfl) rfl h (block_header_obl o)
set_option maxRecDepth 100000 in
theorem block_header_in {p0 : TBlock} {r0 : List Int} (h :
((U64 p0.Parent ∧ ([] : List Int).length ≤ 137438953472) ∧ ((-9223372036854775808 ≤ p0.Height ∧ p0.Height ≤ 9223372036854775807) ∧ (([] : List Int) ++ dig 8 p0.Parent).length ≤ 137438953472) ∧ let r1 : List Int := (([] : List Int) ++ dig 8 p0.Parent) ++ dig 4 (len4 p0.Height)
(U64 p0.Miner ∧ r1.length ≤ 137438953472) ∧ (U64 p0.Work ∧ (r1 ++ dig 8 p0.Miner).length ≤ 137438953472) ∧ (U64 p0.Nonce ∧ ((r1 ++ dig 8 p0.Miner) ++ dig 8 p0.Work).length ≤ 137438953472) ∧ let r2 : List Int := ((r1 ++ dig 8 p0.Miner) ++ dig 8 p0.Work) ++ dig 8 p0.Nonce
((-9223372036854775808 ≤ (p0.Txs.length : Int) ∧ (p0.Txs.length : Int) ≤ 9223372036854775807) ∧ r2.length ≤ 137438953472) ∧ r2 ++ dig 4 (len4 (p0.Txs.length : Int)) = r0)) : block_header_Body (p0.Parent, p0.Height, p0.Miner, p0.Work, p0.Nonce, p0.Txs, ()) (r0, ()) := WPh.of_eq (by kernel_rfl) h
theorem bd44 : Callable Try.prog 44 := ⟨by rw [Try.func44]; kernel_rfl, by rw [Try.func44]; show some _ ≠ some _; decide⟩
theorem block_header_body (p0 : TBlock) (h : BR p0 ∧ p0.Txs.length ≤ 64) : block_header_Body (p0.Parent, p0.Height, p0.Miner, p0.Work, p0.Nonce, p0.Txs, ()) ((hdrS p0 : List Int), ()) := by
  obtain ⟨hr, hl⟩ := h
  refine block_header_in ⟨⟨hr.p, by simp⟩, ⟨hr.h, by simp⟩, ⟨hr.m, by simp⟩, ⟨hr.w, by simp⟩, ⟨hr.n, by simp⟩, ⟨⟨by omega, by omega⟩, by simp⟩, ?_⟩
  simp [hdrS]
noncomputable def block_header_con : Con TB.den := block_header_sh.fnR (fun x => (fun (p0 : TBlock) => BR p0 ∧ p0.Txs.length ≤ 64) (TBlock.mk x.1 x.2.1 x.2.2.1 x.2.2.2.1 x.2.2.2.2.1 x.2.2.2.2.2.1)) fun x => ((fun (p0 : TBlock) => (hdrS p0 : List Int)) (TBlock.mk x.1 x.2.1 x.2.2.1 x.2.2.2.1 x.2.2.2.2.1 x.2.2.2.2.2.1), ())
theorem block_header_ok : block_header_con.Ok Try.prog TB := Con.ok_fn block_header_sh bd44 fun x h => block_header_snd (block_header_body (TBlock.mk x.1 x.2.1 x.2.2.1 x.2.2.2.1 x.2.2.2.2.1 x.2.2.2.2.2.1) h)
end Go.Proofs.Ytnmakgfmimagmaa
