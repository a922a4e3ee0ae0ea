/-
  Parts of the proofs that the laws of this seat hold of every input, merged by a program: a machine over pure data that is sound for the model, what each function of the translation does in it, and plain lemmas. No conditions but those in each theorem.
-/
import Derived.Test.YtnmakgfmimagmaaA1
set_option linter.all false
namespace Go.Bv
open Go.RowKit
section
variable {P : Program} {T : Tk} {G0 G : Gh} {w0 w : World} {N : Nat} {s : St} {a : Act}
theorem ktf (hR : R T G0 w0 N s a G w) {ops : List Oper} {j : Nat} {t : Bool} (hg : guardV s (ops.map (·.dst)) j = .d (.bool t)) : yielded ops.toArray a.tmps j = some t := by
  unfold guardV at hg
  split at hg
  · rename_i u hu
    rw [List.getElem?_map, Option.map_eq_some_iff] at hu
    obtain ⟨o, ho, hod⟩ := hu
    have hv := hR.sl u
    rw [hg] at hv
    have hb := hv.bool_inv
    unfold yielded
    have e1 : (ops.toArray[j]?).bind (·.dst) = some u := by simp [ho, hod]
    rw [e1]
    simp only [Option.bind_some]
    have : a.tmps[u]? = some (.bool t) := by
      rcases Nat.lt_or_ge u a.tmps.size with h | h
      · rw [Array.getElem?_eq_getElem h]
        simpa [h] using hb
      · simp [Nat.not_lt.2 h] at hb
        cases hb
    rw [this]
  · cases hg
theorem k18g (hR : R T G0 w0 N s a G w) {ops : List Oper} {j : Nat} (hg : guardV s (ops.map (·.dst)) j = .k undef) : yielded ops.toArray a.tmps j = none := by
  unfold guardV at hg
  split at hg
  · rename_i u hu
    rw [List.getElem?_map, Option.map_eq_some_iff] at hu
    obtain ⟨o, ho, hod⟩ := hu
    have hv := hR.sl u
    rw [hg] at hv
    have hb := hv.k_inv
    unfold yielded
    have e1 : (ops.toArray[j]?).bind (·.dst) = some u := by simp [ho, hod]
    rw [e1]
    simp only [Option.bind_some]
    cases hc : a.tmps[u]? with
    | none => rfl
    | some v =>
      have : v = undef := by
        rw [← hb, Array.getD_eq_getD_getElem?, hc]; rfl
      subst this
      rfl
  · cases hg
def Sat (P : Program) (T : Tk) (G0 : Gh) (w0 : World) (N : Nat) (c : Code) (s : St) (Q : Exit → St → Prop) : Prop :=
  ∀ G a w, R T G0 w0 N s a G w → c.wp P (fun e a' w' => ∃ s' G', Q e s' ∧ R T G0 w0 N s' a' G' w') a w
def thenA (K : St → Prop) (Q : Exit → St → Prop) : Exit → St → Prop
  | .normal, s => K s
  | e, s => Q e s
def blockA (id : Nat) (Q : Exit → St → Prop) : Exit → St → Prop
  | .exit id', s => if id' = id then Q .normal s else Q (.exit id') s
  | e, s => Q e s
variable {Q : Exit → St → Prop}
theorem sat_seq {x y : Code} (h : Sat P T G0 w0 N x s (thenA (fun s' => Sat P T G0 w0 N y s' Q) Q)) : Sat P T G0 w0 N (.seq x y) s Q := by
  intro G a w hR
  refine wp_seq (wp_mono (h G a w hR) ?_)
  rintro e a' w' ⟨s', G', hq, hR'⟩
  cases e with
  | normal => exact hq G' a' w' hR'
  | _ => exact ⟨s', G', hq, hR'⟩
theorem k1pb (h : Q .normal s) : Sat P T G0 w0 N .skip s Q := fun G _ _ hR => wp_skip ⟨s, G, h, hR⟩
theorem k1oy {id : Nat} (h : Q (.exit id) s) : Sat P T G0 w0 N (.exit id) s Q := fun G _ _ hR => wp_exit ⟨s, G, h, hR⟩
theorem sat_ret (h : Q .ret s) : Sat P T G0 w0 N .ret s Q := fun G _ _ hR => wp_ret ⟨s, G, h, hR⟩
theorem k1oc {l : Nat} (h : Q .normal s) : Sat P T G0 w0 N (.label l) s Q := fun G _ _ hR => wp_label ⟨s, G, h, hR⟩
theorem k16f {c : Operand} {x y : Code} {t : Bool} (hc : s.ev c = .d (.bool t)) (ht : t = true → Sat P T G0 w0 N x s Q) (hf : t = false → Sat P T G0 w0 N y s Q) : Sat P T G0 w0 N (.cond c x y) s Q := by
  intro G a w hR
  have hv := hR.ev c
  rw [hc] at hv
  exact wp_cond_split hv.bool_inv (fun h => ht h G a w hR) (fun h => hf h G a w hR)
theorem k1og {id : Nat} {c : Code} (h : Sat P T G0 w0 N c s (blockA id Q)) : Sat P T G0 w0 N (.block id c) s Q := by
  intro G a w hR
  refine wp_block (wp_mono (h G a w hR) ?_)
  rintro e a' w' ⟨s', G', hq, hR'⟩
  cases e with
  | exit id' =>
    simp only [blockA] at hq
    simp only [Exit.inBlock]
    split
    · rename_i h; rw [if_pos h] at hq; exact ⟨s', G', hq, hR'⟩
    · rename_i h; rw [if_neg h] at hq; exact ⟨s', G', hq, hR'⟩
  | _ => exact ⟨s', G', hq, hR'⟩
theorem kw4 {c : Code} {Q' : Exit → St → Prop} (h : Sat P T G0 w0 N c s Q) (hq : ∀ e s, Q e s → Q' e s) : Sat P T G0 w0 N c s Q' :=
  fun G a w hR => wp_mono (h G a w hR) fun _ _ _ ⟨s', G', h1, h2⟩ => ⟨s', G', hq _ _ h1, h2⟩
def initSl : Nat → List V → List (Nat × V)
  | _, [] => []
  | k, x :: r => (k, x) :: initSl (k + 1) r
theorem k1ao : ∀ (xs : List V) (k t : Nat), getS (initSl k xs) t = if k ≤ t then (xs[t - k]?).getD .any else .any
  | [], k, t => by simp [initSl, getS]
  | x :: r, k, t => by
    simp only [initSl, getS]
    by_cases ht : t = k
    · subst ht; simp
    · rw [if_neg ht, k1ao r (k + 1) t]
      by_cases hk : k ≤ t
      · rw [if_pos hk, if_pos (by omega), show t - k = (t - (k + 1)) + 1 by omega, List.getElem?_cons_succ]
      · rw [if_neg hk, if_neg (by omega)]
def resV (P : Program) (s : St) : ResultVar → V
  | .tmp t => getS s.sl t
  | .cell t ty => loadV (tyOf P ty) s.h (getS s.sl t)
def resOk (P : Program) (s : St) : ResultVar → Prop
  | .tmp _ => True
  | .cell t ty => loadOk (tyOf P ty) s.h (getS s.sl t)
def retV : List V → V
  | [x] => x
  | l => .tup l
def allOk (P : Program) (s : St) : List ResultVar → Prop
  | [] => True
  | r :: rs => resOk P s r ∧ allOk P s rs
def rh (ρ : List Nat) (i : Nat) : Nat := ρ.getD i 0
def postOk (h : Hp) (σ : Nat → Nat) (m nx : Nat) : List Nat → List Ob → Prop
  | [], [] => True
  | k :: ks, o :: os => (k < nx ∧ obLe (h.get k) (renO σ o) ∧ okO m o) ∧ postOk h σ m nx ks os
  | _, _ => False
theorem k13v {h : Hp} {nx : Nat} {σ : Nat → Nat} {m : Nat} : ∀ {ks : List Nat} {os : List Ob}, postOk h σ m nx ks os → ks.length = os.length ∧ ∀ (i k : Nat) (o : Ob), ks[i]? = some k → os[i]? = some o → k < nx ∧ obLe (h.get k) (renO σ o) ∧ okO m o
  | [], [], _ => ⟨rfl, by simp⟩
  | k :: ks, o :: os, hh => by
    obtain ⟨h1, h2⟩ := k13v hh.2
    refine ⟨by simp [h1], fun i k' o' hk ho => ?_⟩
    cases i with
    | zero => simp at hk ho; subst hk; subst ho; exact hh.1
    | succ i => simp at hk ho; exact h2 i k' o' hk ho
  | [], _ :: _, hh => hh.elim
  | _ :: _, [], hh => hh.elim
def RetA (P : Program) (rs : List ResultVar) (r : V) (np : Nat) (post : List Ob) (s : St) : Prop :=
  allOk P s rs ∧ ∃ ρ : List Nat, le (retV (rs.map (resV P s))) (ren (rh ρ) r) ∧ ok post.length r ∧ noTup r ∧ postOk s.h (rh ρ) post.length s.nx ρ post ∧ ρ.Nodup ∧ np ≤ post.length ∧ ∀ i, i < np → ρ[i]? = some i
def retQ (P : Program) (rs : List ResultVar) (r : V) (np : Nat) (post : List Ob) : Exit → St → Prop
  | .normal, s => RetA P rs r np post s
  | .ret, s => RetA P rs r np post s
  | _, _ => False
def resSem (tmps : Array Value) : ResultVar → Sem Value
  | .tmp t => pure (tmps.getD t undef)
  | .cell q t => do loadVar t (← asAddr (tmps.getD q undef))
theorem k1ng (fn : Func) (tmps : Array Value) : results fn tmps = (do let vs ← fn.results.mapM (resSem tmps); pure (if h : vs.size = 1 then vs[0] else .tuple vs)) := by
  unfold results
  congr 1
theorem k14y (hR : R T G0 w0 N s a G w) : ∀ (rs : List ResultVar), allOk P s rs → ∃ vs : List Value, (rs.mapM (resSem a.tmps)).run P w = .ok vs w ∧ vs.length = rs.length ∧ ∀ (j : Nat) (v : Value) (x : V), vs[j]? = some v → (rs.map (resV P s))[j]? = some x → RepV G w s.h s.nx v x
  | [], _ => ⟨[], by simp, rfl, by simp⟩
  | r :: rs, ho => by
    obtain ⟨vs, h1, h2, h3⟩ := k14y hR rs ho.2
    have hone : ∃ v, (resSem a.tmps r).run P w = .ok v w ∧ RepV G w s.h s.nx v (resV P s r) := by
      cases r with
      | tmp t => exact ⟨_, rfl, hR.sl t⟩
      | cell q t =>
        obtain ⟨v, g1, g2⟩ := k17a (P := P) (ρ := a.eval) (ev := s.ev) hR.ev hR.wr.obj (o := ⟨none, .load t (.tmp q), 0, "", #[], none⟩) ho.1
        refine ⟨v, ?_, g2⟩
        simp only [execOp, Instr.loadAt, Sem.run_bind] at g1
        simp only [resSem, Sem.run_bind]
        have ev : a.eval (.tmp q) = a.tmps.getD q undef := rfl
        rw [ev] at g1
        generalize a.tmps.getD q undef = vq at g1 ⊢
        cases vq with
        | pointer p => cases p with
          | none => simp [Instr.sureAddr, stuck] at g1
          | some ad =>
            simp only [Instr.sureAddr, asAddr, Sem.run_pure, Result.andThen_ok] at g1 ⊢
            cases hl : (loadVar t ad).run P w with
            | ok v' w' => rw [hl] at g1; simp at g1; rw [g1.1, g1.2]
            | halt h w' => rw [hl] at g1; simp at g1
        | _ => simp [Instr.sureAddr, stuck] at g1
    obtain ⟨v, g1, g2⟩ := hone
    refine ⟨v :: vs, ?_, by simp [h2], fun j u x hu hx => ?_⟩
    · simp only [List.mapM_cons, Sem.run_bind, g1, Result.andThen_ok, h1, Sem.run_pure]
    · cases j with
      | zero => simp at hu hx; subst hu; subst hx; exact g2
      | succ j => simp only [List.map_cons, List.getElem?_cons_succ] at hu hx; exact h3 j u x hu hx
theorem k1q7 {f : FuncId} {fn : Func} {c : Code} {xs : List V} {pre : List Ob} {r : V} {post : List Ob} (hf : P.funcs[f]? = some fn) (hb : fn.body = some c) (hN : fn.ntmps = N) (hxs : xs.length ≤ N)
    (hsat : ∀ G0 w0, Sat P (tkOf G0 pre) G0 w0 N c ⟨initSl 0 xs, hpOf 0 pre, pre.length⟩ (retQ P fn.results.toList r pre.length post)) : SoundH P f xs pre r post := by
  intro G w vs hlen hrep hW
  refine calls_of_wp hf hb ?_
  have hR : R (tkOf G pre) G w N ⟨initSl 0 xs, hpOf 0 pre, pre.length⟩ ⟨vs.toArray ++ Array.replicate (fn.ntmps - vs.toArray.size) undef, []⟩ G w := by
    refine ⟨⟨rfl, rfl, rfl, Nat.le_refl _, fun _ _ _ => ⟨rfl, rfl⟩, Mono.refl _ _⟩, hW, rfl, by simp; omega, fun t => ?_, ⟨Nat.le_refl _, fun _ _ _ h => h, fun tok t' _ h => ⟨t', h, Nat.le_refl _, fun _ _ hb => ⟨hb, rfl, rfl⟩⟩, fun _ _ h => h⟩⟩
    rw [k1ao, if_pos (Nat.zero_le _), Nat.sub_zero]
    rcases Nat.lt_or_ge t xs.length with ht | ht
    · rw [List.getElem?_eq_getElem ht, Option.getD_some]
      have hv : vs[t]? = some (vs[t]'(by omega)) := List.getElem?_eq_getElem (by omega)
      have e : (vs.toArray ++ Array.replicate (fn.ntmps - vs.toArray.size) undef).getD t undef = vs[t]'(by omega) := by
        rw [Array.getD_eq_getD_getElem?, Array.getElem?_append_left (by simp; omega)]
        simp [hv]
      rw [e]
      exact hrep t _ _ hv (List.getElem?_eq_getElem ht)
    · rw [List.getElem?_eq_none ht]
      exact .any _
  refine wp_mono (hsat G w G _ w hR) ?_
  rintro e a' w' ⟨s', G', hq, hR'⟩
  have main : RetA P fn.results.toList r pre.length post s' → ∃ v, (results fn a'.tmps).run P w' = .ok v w' ∧ ∃ v' G'', (.returned v : Ending) = .returned v' ∧ RepV G'' w' (hpOf 0 post) post.length v' r ∧ WR (tkOf G pre) w.heap.size G'' w' (hpOf 0 post) post.length ∧ Fr (tkOf G pre) G w G'' w' ∧ Ex (tkOf G pre) G w G'' w' (hpOf 0 post) post.length := by
    rintro ⟨hok, ρ, h1, h2, h3, h4, h5, h6, h7⟩
    obtain ⟨us, k1, k2, k3⟩ := k14y hR' fn.results.toList hok
    
    obtain ⟨v, hv1, hv2⟩ : ∃ v, (results fn a'.tmps).run P w' = .ok v w' ∧ RepV G' w' s'.h s'.nx v (retV (fn.results.toList.map (resV P s'))) := by
      have hm : (fn.results.mapM (resSem a'.tmps)).run P w' = .ok us.toArray w' := by
        rw [Array.mapM_eq_mapM_toList]
        simp only [Sem.run_map, k1, Result.andThen_ok]
      refine ⟨if h : us.toArray.size = 1 then us.toArray[0] else .tuple us.toArray, ?_, ?_⟩
      · rw [k1ng, Sem.run_bind, hm]
        rfl
      · match us, hrs : fn.results.toList.map (resV P s'), (show us.length = (fn.results.toList.map (resV P s')).length by simpa using k2) with
        | [u], [x], _ =>
          simp only [List.size_toArray, List.length_cons, List.length_nil, Nat.zero_add, dite_true, retV]
          exact k3 0 u x rfl (by rw [hrs]; rfl)
        | [], [], _ =>
          simp only [retV]
          exact .tup [] [] rfl (by simp)
        | u :: u2 :: us', x :: x2 :: xs', hl =>
          have : ¬ ((u :: u2 :: us').toArray.size = 1) := by simp
          rw [dif_neg this]
          simp only [retV]
          exact .tup _ _ hl (fun j v x hv hx => k3 j v x hv (by rw [hrs]; exact hx))
    obtain ⟨hpl, hpo⟩ := k13v h4
    have hρ : ∀ i, i < post.length → ρ[i]? = some (rh ρ i) := fun i hi => by
      have : i < ρ.length := by omega
      simp [rh, this]
    have hob : ∀ i o, post[i]? = some o → rh ρ i < s'.nx ∧ obLe (s'.h.get (rh ρ i)) (renO (rh ρ) o) ∧ okO post.length o := fun i o ho => hpo i _ o (hρ i (List.getElem?_eq_some_iff.1 ho).1) ho
    have hlt : ∀ i, i < post.length → rh ρ i < s'.nx := fun i hi => (hob i _ (List.getElem?_eq_getElem hi)).1
    have hself : ∀ i, i < pre.length → rh ρ i = i := fun i hi => by simp [rh, h7 i hi]
    have hinj : ∀ i j, i < post.length → j < post.length → rh ρ i = rh ρ j → i = j := by
      intro i j hi hj hij
      exact (List.getElem?_inj (by omega) h5).1 (by rw [hρ i hi, hρ j hj, hij])
    let G'' : Gh := ⟨fun i => G'.loc (rh ρ i), fun i => G'.tloc (rh ρ i), G'.lim⟩
    have hw := hR'.wr
    have htip : ∀ i t, i < post.length → (hpOf 0 post).get i = some (.tip t) → s'.h.get (rh ρ i) = some (.tip t) := by
      intro i t hi hg
      rw [k5p] at hg
      exact kmn (hob i _ hg).2.1
    have hlive : ∀ i, live (hpOf 0 post) i → live s'.h (rh ρ i) := by
      intro i l
      obtain ⟨o, ho, hd⟩ := live_of l
      rw [k5p] at ho
      obtain ⟨_, q, _⟩ := hob i o ho
      cases o with
      | cells l => obtain ⟨l0, q1, _⟩ := kh6 q; exact k57 q1
      | tip t => exact ka8 (kmn q)
      | map es => exact kwp (kmy q)
      | dead => exact (hd rfl).elim
    refine ⟨v, hv1, v, G'', rfl, ?_, ⟨?_, ?_, ?_, ?_, ?_, hw.lim⟩, ⟨hR'.fr.os, hR'.fr.tape, hR'.fr.output, hR'.fr.size, hR'.fr.same, hR'.fr.mono⟩, ⟨h6, ?_, ?_, hR'.ex.csz⟩⟩
    · exact k1ja (σ := rh ρ) (G := G') (G' := G'') (h := s'.h) (nx := s'.nx) rfl (fun _ _ => rfl) (fun _ _ => rfl) htip (hv2.le h1) h2
    · intro id l hg
      rw [k5p] at hg
      obtain ⟨_, q1, q2⟩ := hob id _ hg
      obtain ⟨l0, hgt, hle⟩ := kh6 q1
      obtain ⟨b, e', cs, m1, m2, m3, m4, m5, m6⟩ := hw.obj (rh ρ id) l0 hgt
      obtain ⟨n1, n2, n3⟩ := kjm hle
      rw [List.length_map] at n1
      refine ⟨b, e', cs, m1, m2, m3, by omega, fun x hx => ?_, fun j u x hu hx => ?_⟩
      · rw [← kqe (rh ρ) x]; exact n2 _ (List.mem_map.2 ⟨x, hx, rfl⟩)
      · have hj : j < l0.length := by have := (List.getElem?_eq_some_iff.1 hx).1; omega
        have := (m6 j u _ hu (List.getElem?_eq_getElem hj)).le1 (n3 j _ (ren1 (rh ρ) x) (List.getElem?_eq_getElem hj) (by rw [List.getElem?_map, hx]; rfl))
        exact krm (G := G') (G' := G'') rfl (fun _ _ => rfl) (fun _ _ => rfl) htip this (kmd q2 j x hx)
    · intro id es hg
      rw [k5p] at hg
      obtain ⟨_, q1, q2⟩ := hob id _ hg
      obtain ⟨b, clk, ms, m1, m2, m3, m0, m4⟩ := hw.mob (rh ρ id) _ (kmy q1)
      refine ⟨b, clk, ms, m1, m2, by simpa using m3, fun e he l hl => ?_, fun j m e hm he => ?_⟩
      · exact m0 (e.1, ren0 (rh ρ) e.2) (List.mem_map.2 ⟨e, he, rfl⟩) l (by simp only [hl]; rfl)
      · obtain ⟨n1, n2⟩ := m4 j m (e.1, ren0 (rh ρ) e.2) hm (by rw [List.getElem?_map, he]; rfl)
        exact ⟨n1, krr (G := G') (G' := G'') rfl (fun _ _ => rfl) (fun _ _ => rfl) htip n2 (kw8 q2 j e he)⟩
    · intro id b hi hb
      exact hw.here (rh ρ id) b (hlt id hi) hb
    · intro i j b hi hj hbi hbj li lj
      exact hinj i j hi hj (hw.inj (rh ρ i) (rh ρ j) b (hlt i hi) (hlt j hj) hbi hbj (hlive i li) (hlive j lj))
    · intro id ob hg
      rw [k5p] at hg
      exact (List.getElem?_eq_some_iff.1 hg).1
    · intro id b hi hb
      have hi : id < pre.length := hi
      show G'.loc (rh ρ id) = some b
      rw [hself id hi]
      exact hR'.ex.loc id b hi hb
    · intro tok t' ht hg
      have ht : tok < pre.length := ht
      have := htip tok t' (by omega) hg
      rw [hself tok ht] at this
      obtain ⟨t0, q1, q2, q3⟩ := hR'.ex.tok tok t' ht this
      refine ⟨t0, q1, q2, fun htt b hb => ?_⟩
      obtain ⟨r1, r2, r3⟩ := q3 htt b hb
      exact ⟨by show G'.tloc (rh ρ tok) = some b; rw [hself tok ht]; exact r1, r2, r3⟩
  cases e with
  | normal => obtain ⟨v, h1, h2⟩ := main hq; exact ⟨hR'.df, v, h1, h2⟩
  | ret => obtain ⟨v, h1, h2⟩ := main hq; exact ⟨hR'.df, v, h1, h2⟩
  | _ => exact hq.elim
end
end Go.Bv
namespace Go.Bv
open Go.RowKit
structure Eff where
  d : Option Nat
  x : V
  hu : Hp
  rd : List Nat
def Eff.app (e : Eff) (s : St) : St := St.put ⟨s.sl, e.hu ++ s.h, s.nx⟩ e.d e.x
def stE (E : Nat → Bool) : List Eff → Nat → St → St
  | [], _, s => s
  | e :: es, k, s => stE E es (k + 1) (if E k then e.app s else s)
def slotE (E : Nat → Bool) (t : Nat) : List Eff → Nat → V → V
  | [], _, v => v
  | e :: es, k, v => slotE E t es (k + 1) (if E k = true ∧ e.d = some t then e.x else v)
def heapE (E : Nat → Bool) (i : Nat) : List Eff → Nat → Option Ob → Option Ob
  | [], _, o => o
  | e :: es, k, o => heapE E i es (k + 1) (if E k = true ∧ (Hp.get e.hu i).isSome = true then Hp.get e.hu i else o)
theorem app_nx (e : Eff) (s : St) : (e.app s).nx = s.nx := by
  unfold Eff.app St.put; split <;> rfl
theorem app_h (e : Eff) (s : St) : (e.app s).h = e.hu ++ s.h := by
  unfold Eff.app St.put; split <;> rfl
theorem app_get (e : Eff) (s : St) (t : Nat) : getS (e.app s).sl t = if e.d = some t then e.x else getS s.sl t := by
  unfold Eff.app
  cases hd : e.d with
  | none => simp [St.put]
  | some u =>
    simp only [St.put, getS, Option.some.injEq]
    by_cases h : t = u
    · subst h; simp
    · rw [if_neg h, if_neg (Ne.symm h)]
theorem k1ia (e : Eff) (s : St) (i : Nat) : (e.app s).h.get i = if (Hp.get e.hu i).isSome = true then Hp.get e.hu i else s.h.get i := by
  rw [app_h, kpa]
  cases hh : Hp.get e.hu i with
  | none => simp
  | some o => simp
theorem stE_nx (E : Nat → Bool) : ∀ (es : List Eff) (k : Nat) (s : St), (stE E es k s).nx = s.nx
  | [], _, _ => rfl
  | e :: es, k, s => by
    rw [stE, stE_nx E es]
    split
    · exact app_nx e s
    · rfl
theorem stE_get (E : Nat → Bool) (t : Nat) : ∀ (es : List Eff) (k : Nat) (s : St), getS (stE E es k s).sl t = slotE E t es k (getS s.sl t)
  | [], _, _ => rfl
  | e :: es, k, s => by
    rw [stE, stE_get E t es, slotE]
    congr 1
    by_cases hE : E k = true
    · rw [if_pos hE, app_get]
      simp only [hE, true_and]
    · rw [if_neg hE, if_neg (fun h => hE h.1)]
theorem kdp (E : Nat → Bool) (i : Nat) : ∀ (es : List Eff) (k : Nat) (s : St), (stE E es k s).h.get i = heapE E i es k (s.h.get i)
  | [], _, _ => rfl
  | e :: es, k, s => by
    rw [stE, kdp E i es, heapE]
    congr 1
    by_cases hE : E k = true
    · rw [if_pos hE, k1ia]
      simp only [hE, true_and]
    · rw [if_neg hE, if_neg (fun h => hE h.1)]
theorem knc {E E' : Nat → Bool} {t : Nat} : ∀ (es : List Eff) (k : Nat) (v : V), (∀ (j : Nat) (e : Eff), es[j]? = some e → e.d = some t → E (k + j) = E' (k + j)) → slotE E t es k v = slotE E' t es k v
  | [], _, _, _ => rfl
  | e :: es, k, v, h => by
    have h0 := h 0 e rfl
    simp only [Nat.add_zero] at h0
    have hv : (if E k = true ∧ e.d = some t then e.x else v) = (if E' k = true ∧ e.d = some t then e.x else v) := by
      by_cases hd : e.d = some t
      · rw [h0 hd]
      · rw [if_neg (fun h => hd h.2), if_neg (fun h => hd h.2)]
    rw [slotE, slotE, hv]
    exact knc es (k + 1) _ (fun j e' he' hd => by rw [show k + 1 + j = k + (j + 1) by omega]; exact h (j + 1) e' (by simpa using he') hd)
theorem kn3 {E E' : Nat → Bool} {i : Nat} : ∀ (es : List Eff) (k : Nat) (o : Option Ob), (∀ (j : Nat) (e : Eff), es[j]? = some e → (Hp.get e.hu i).isSome = true → E (k + j) = E' (k + j)) → heapE E i es k o = heapE E' i es k o
  | [], _, _, _ => rfl
  | e :: es, k, o, h => by
    have h0 := h 0 e rfl
    simp only [Nat.add_zero] at h0
    have hv : (if E k = true ∧ (Hp.get e.hu i).isSome = true then Hp.get e.hu i else o) = (if E' k = true ∧ (Hp.get e.hu i).isSome = true then Hp.get e.hu i else o) := by
      by_cases hd : (Hp.get e.hu i).isSome = true
      · rw [h0 hd]
      · rw [if_neg (fun h => hd h.2), if_neg (fun h => hd h.2)]
    rw [heapE, heapE, hv]
    exact kn3 es (k + 1) _ (fun j e' he' hd => by rw [show k + 1 + j = k + (j + 1) by omega]; exact h (j + 1) e' (by simpa using he') hd)
theorem k1e5 {E : Nat → Bool} {t i : Nat} : ∀ (es : List Eff) (k : Nat) (v : V) (e : Eff), es[i]? = some e → E (k + i) = false → (∀ (j : Nat) (e' : Eff), i < j → es[j]? = some e' → E (k + j) = true → e.d = some t → e'.d ≠ some t) →
    slotE (fun n => if n = k + i then true else E n) t es k v = if e.d = some t then e.x else slotE E t es k v
  | [], _, _, _, he, _, _ => by simp at he
  | e0 :: es, k, v, e, he, hE, hl => by
    cases i with
    | zero =>
      simp at he
      subst he
      simp only [Nat.add_zero] at hE ⊢
      rw [slotE, slotE]
      simp only [if_true, true_and, hE, Bool.false_eq_true, false_and, if_false]
      have hcong : ∀ v', slotE (fun n => if n = k then true else E n) t es (k + 1) v' = slotE E t es (k + 1) v' := fun v' => knc es (k + 1) v' (fun j _ _ _ => by rw [if_neg (by omega)])
      rw [hcong]
      by_cases hd : e0.d = some t
      · rw [if_pos hd, if_pos hd]
        have none_later : ∀ (es' : List Eff) (k' : Nat) (v' : V), (∀ (j : Nat) (e' : Eff), es'[j]? = some e' → E (k' + j) = true → e'.d ≠ some t) → slotE E t es' k' v' = v' := by
          intro es'
          induction es' with
          | nil => intro _ _ _; rfl
          | cons e1 es' ih =>
            intro k' v' h'
            rw [slotE, ih (k' + 1) _ (fun j e' he' hE' => h' (j + 1) e' (by simpa using he') (by rw [show k' + (j + 1) = k' + 1 + j by omega]; exact hE'))]
            rw [if_neg]
            rintro ⟨h1, h2⟩
            exact h' 0 e1 rfl (by simpa using h1) h2
        exact none_later es (k + 1) e0.x (fun j e' he' hE' => hl (j + 1) e' (by omega) (by simpa using he') (by rw [show k + (j + 1) = k + 1 + j by omega]; exact hE') hd)
      · rw [if_neg hd, if_neg hd]
    | succ i =>
      rw [slotE, slotE]
      have hk : k ≠ k + (i + 1) := by omega
      simp only [if_neg hk]
      have := k1e5 (E := E) (t := t) (i := i) es (k + 1) (if E k = true ∧ e0.d = some t then e0.x else v) e (by simpa using he) (by rw [show k + 1 + i = k + (i + 1) by omega]; exact hE)
        (fun j e' hij he' hE' => hl (j + 1) e' (by omega) (by simpa using he') (by rw [show k + (j + 1) = k + 1 + j by omega]; exact hE'))
      rw [show k + 1 + i = k + (i + 1) by omega] at this
      exact this
theorem k1eg {E : Nat → Bool} {t i : Nat} : ∀ (es : List Eff) (k : Nat) (v : Option Ob) (e : Eff), es[i]? = some e → E (k + i) = false → (∀ (j : Nat) (e' : Eff), i < j → es[j]? = some e' → E (k + j) = true → (Hp.get e.hu t).isSome = true → (Hp.get e'.hu t).isSome ≠ true) →
    heapE (fun n => if n = k + i then true else E n) t es k v = if (Hp.get e.hu t).isSome = true then Hp.get e.hu t else heapE E t es k v
  | [], _, _, _, he, _, _ => by simp at he
  | e0 :: es, k, v, e, he, hE, hl => by
    cases i with
    | zero =>
      simp at he
      subst he
      simp only [Nat.add_zero] at hE ⊢
      rw [heapE, heapE]
      simp only [if_true, true_and, hE, Bool.false_eq_true, false_and, if_false]
      have hcong : ∀ v', heapE (fun n => if n = k then true else E n) t es (k + 1) v' = heapE E t es (k + 1) v' := fun v' => kn3 es (k + 1) v' (fun j _ _ _ => by rw [if_neg (by omega)])
      rw [hcong]
      by_cases hd : (Hp.get e0.hu t).isSome = true
      · rw [if_pos hd, if_pos hd]
        have none_later : ∀ (es' : List Eff) (k' : Nat) (v' : Option Ob), (∀ (j : Nat) (e' : Eff), es'[j]? = some e' → E (k' + j) = true → (Hp.get e'.hu t).isSome ≠ true) → heapE E t es' k' v' = v' := by
          intro es'
          induction es' with
          | nil => intro _ _ _; rfl
          | cons e1 es' ih =>
            intro k' v' h'
            rw [heapE, ih (k' + 1) _ (fun j e' he' hE' => h' (j + 1) e' (by simpa using he') (by rw [show k' + (j + 1) = k' + 1 + j by omega]; exact hE'))]
            rw [if_neg]
            rintro ⟨h1, h2⟩
            exact h' 0 e1 rfl (by simpa using h1) h2
        exact none_later es (k + 1) _ (fun j e' he' hE' => hl (j + 1) e' (by omega) (by simpa using he') (by rw [show k + (j + 1) = k + 1 + j by omega]; exact hE') hd)
      · rw [if_neg hd, if_neg hd]
    | succ i =>
      rw [heapE, heapE]
      have hk : k ≠ k + (i + 1) := by omega
      simp only [if_neg hk]
      have := k1eg (E := E) (t := t) (i := i) es (k + 1) (if E k = true ∧ (Hp.get e0.hu t).isSome = true then Hp.get e0.hu t else v) e (by simpa using he) (by rw [show k + 1 + i = k + (i + 1) by omega]; exact hE)
        (fun j e' hij he' hE' => hl (j + 1) e' (by omega) (by simpa using he') (by rw [show k + (j + 1) = k + 1 + j by omega]; exact hE'))
      rw [show k + 1 + i = k + (i + 1) by omega] at this
      exact this
section
variable {P : Program} {T : Tk} {G0 G : Gh} {w0 w : World} {N : Nat} {s s' : St} {a : Act}
end
end Go.Bv
namespace Go.Bv
open Go.RowKit
def edgeB (af : Array Edge) (k : Nat) : Bool := af.any fun e => Region.binds .any e && e.on == k
def frs (nb S k : Nat) : Nat := nb + k * S
def opD (P : Program) (nb S k : Nat) (op : Op) (e : Eff) (s : St) : Prop := match op with
  | .alloc t => (zeroV P t).isSome = true ∧ 0 < S ∧ e.x = .ptr (frs nb S k) 0 ∧ e.hu = [(frs nb S k, .cells (zeroD P t))]
  | .box _ x => (∃ n, (s.ev x).flat n) ∧ 0 < S ∧ e.x = .ptr (frs nb S k) 0 ∧ e.hu = [(frs nb S k, .cells (s.ev x).cells)]
  | .store t a x => ∃ id off l g n, s.ev a = .ptr id off ∧ s.h.get id = some (.cells l) ∧ tyOf P t = some (g, n) ∧ (s.ev x).flat n ∧ off + n ≤ l.length ∧ e.x = .any ∧ e.hu = [(id, .cells (setAt l off (s.ev x).cells))]
  | .build t parts => (plOf P t).isSome = true ∧ (zeroV P t).isSome = true ∧ fillOk (plD P t) (zeroD P t) (parts.toList.map fun p => (p.1, s.ev p.2)) ∧
      e.x = .agg (fillR (plD P t) (zeroD P t) (parts.toList.map fun p => (p.1, s.ev p.2))) ∧ e.hu = []
  | .buildSlice t n parts => ((rowOf P t).isSome = true ∧ parts.toList.map (·.1) = List.range n ∧ (toDs (parts.toList.map fun p => s.ev p.2)).isSome = true ∧
      sizesOk (rowD P t).1 ((toDs (parts.toList.map fun p => s.ev p.2)).getD []) ∧ n * (rowD P t).1 ≤ 16777216) ∧ 0 < S ∧
      e.x = .full (rowD P t).1 ((toDs (parts.toList.map fun p => s.ev p.2)).getD []) ∧ e.hu = []
  | .load t a => loadOk (tyOf P t) s.h (s.ev a) ∧ (∀ id off, s.ev a = .ptr id off → id ∈ e.rd) ∧ e.x = loadV (tyOf P t) s.h (s.ev a) ∧ e.hu = []
  | .makeSlice t l c => mkOk P t (s.ev l) (s.ev c) ∧ 0 < S ∧ e.x = .row (frs nb S k) 0 (natOf (s.ev l)) (rowD P t).1 ∧ e.hu = [(frs nb S k, .cells (zrow (natOf (s.ev l)) (elZD P t)))]
  | .call c => match c.callee with
    | .value f => (∃ g r, s.ev f = .k (.func (.func g) #[] #[]) ∧ SoundX P g (c.args.toList.map s.ev) r ∧ e.x = r ∧ e.hu = []) ∨
        ∃ g xs pre r post ids, s.ev f = .k (.func (.func g) #[] #[]) ∧ ((P.funcs[g]?.bind (·.body)).isSome = true ∧ P.funcs[g]?.map (·.name) ≠ some "runtime.NumGoroutine" ∧ SoundH P g xs pre r post) ∧
          preOk s.h (sgm ids (frs nb S k)) pre.length (frs nb S k) (frs nb S k) ids pre ∧ ids.Nodup ∧ pre.length ≤ post.length ∧ leArgs (sgm ids (frs nb S k)) pre.length (c.args.toList.map s.ev) xs ∧ noTup r ∧
          (post.length - pre.length ≤ S ∧ ∀ j o, post[pre.length + j]? = some o → notTip o) ∧ e.x = ren (sgm ids (frs nb S k)) r ∧ e.hu = hpNew (sgm ids (frs nb S k)) 0 post
    | .builtin .append => (c.args.size = 2 ∧ c.argTypes.size = 2 ∧ c.argTypes.getD 0 0 = c.argTypes.getD 1 0) ∧
        ∃ tok sz bt l, rowOf P (c.argTypes.getD 0 0) = some (sz, bt) ∧ s.ev (c.args.getD 0 (.const .nilIface)) = .own tok sz l ∧ s.h.get tok = some (.tip l.length) ∧ isEls sz (s.ev (c.args.getD 1 (.const .nilIface))) ∧
          (l.length + ((s.ev (c.args.getD 1 (.const .nilIface))).elsD sz).length) * bt ≤ 140737488355328 ∧ l.length + ((s.ev (c.args.getD 1 (.const .nilIface))).elsD sz).length ≤ maxLen ∧
          e.x = .own tok sz (l ++ (s.ev (c.args.getD 1 (.const .nilIface))).elsD sz) ∧ e.hu = [(tok, .tip (l.length + ((s.ev (c.args.getD 1 (.const .nilIface))).elsD sz).length))]
    | .builtin .copy => False
    | .builtin .delete => False
    | _ => avOk P [] s.ev (.call c) ∧ e.x = av P [] s.ev (.call c) ∧ e.hu = []
  | .makeMap _ _ => False
  | .lookup _ _ _ _ => False
  | .mapUpdate _ _ _ _ => False
  | op => avOk P [] s.ev op ∧ e.x = av P [] s.ev op ∧ e.hu = []
def stepD (P : Program) (N : Nat) (tb : List (Option Nat)) (nb S k : Nat) (o : Oper) (e : Eff) (s : St) : Prop :=
  dstOk N o.dst ∧ e.d = o.dst ∧ match o.guard with
  | none => opD P nb S k o.op e s
  | some (j, b) => (guardV s tb j = .k undef ∧ e.x = .k undef ∧ e.hu = []) ∨ ∃ t, guardV s tb j = .d (.bool t) ∧ (t = b → opD P nb S k o.op e s) ∧ (t ≠ b → e.x = .k undef ∧ e.hu = [])
theorem av_h {P : Program} {ev : Operand → V} {op : Op} (h : Hp) (hl : ∀ t a, op ≠ .load t a) : av P h ev op = av P [] ev op ∧ avOk P h ev op = avOk P [] ev op := by
  cases op <;> first | exact ⟨rfl, rfl⟩ | skip
  rename_i t a
  exact (hl t a rfl).elim
section
variable {P : Program} {T : Tk} {G0 G : Gh} {w0 w : World} {N : Nat} {s s' : St} {a : Act}
theorem k18v {h : Hp} {σ : Nat → Nat} {m fb nx nx' : Nat} (hn : nx ≤ nx') : ∀ {ks : List Nat} {os : List Ob}, preOk h σ m fb nx ks os → preOk h σ m fb nx' ks os
  | [], [], _ => trivial
  | _ :: _, _ :: _, hh => ⟨⟨hh.1.1, by have := hh.1.2.1; omega, hh.1.2.2⟩, k18v hn hh.2⟩
  | [], _ :: _, hh => hh.elim
  | _ :: _, [], hh => hh.elim
theorem k13u {h h' : Hp} {σ : Nat → Nat} {m fb nx : Nat} : ∀ {ks : List Nat} {os : List Ob}, (∀ k ∈ ks, h.get k = h'.get k) → preOk h σ m fb nx ks os → preOk h' σ m fb nx ks os
  | [], [], _, _ => trivial
  | k :: _, _ :: _, he, hh => ⟨⟨hh.1.1, hh.1.2.1, by rw [← he k (by simp)]; exact hh.1.2.2.1, hh.1.2.2.2⟩, k13u (fun k hk => he k (by simp [hk])) hh.2⟩
  | [], _ :: _, _, hh => hh.elim
  | _ :: _, [], _, hh => hh.elim
theorem kvv {σ : Nat → Nat} : ∀ (os : List Ob) (k i : Nat), k ≤ i → i < k + os.length → (Hp.get (hpNew σ k os) (σ i)).isSome = true
  | [], k, i, h1, h2 => by simp at h2; omega
  | o :: r, k, i, h1, h2 => by
    simp only [hpNew, Hp.get]
    split
    · rfl
    · rename_i hne
      have : i ≠ k := fun h => hne (by rw [h])
      exact kvv r (k + 1) i (by omega) (by simp at h2; omega)
theorem k1o3 (hR : R T G0 w0 N s a G w) {nb S k : Nat} {o : Oper} {e : Eff} (hd : dstOk N o.dst) (hed : e.d = o.dst) (ho : opD P nb S k o.op e s) (hk : frs nb S k + S ≤ s.nx)
    (hfree : ∀ j, j < S → G.loc (frs nb S k + j) = none ∧ G.tloc (frs nb S k + j) = none ∧ s.h.get (frs nb S k + j) = none) {K' : Act → World → Prop} {Q : Exit → Act → World → Prop}
    (hK : ∀ a' G' w', R T G0 w0 N (e.app s) a' G' w' → (∀ i, i < s.nx → (i < frs nb S k ∨ frs nb S k + S ≤ i) → (Hp.get e.hu i).isSome = false → G'.loc i = G.loc i ∧ G'.tloc i = G.tloc i) → K' a' w') : o.wp P a w K' Q := by
  have hdst : ∀ t, o.dst = some t → t < N := fun t ht => by rw [ht] at hd; exact hd
  have hev := hR.ev
  obtain ⟨dst, op, ty, pos, after, guard⟩ := o
  obtain ⟨ed, ex, ehu, erd⟩ := e
  simp only at hed
  subst hed
  generalize hfb : frs nb S k = fb at *
  have value : ∀ (v : Value) (w' : World), (execOp a.eval ⟨ed, op, ty, pos, after, guard⟩).run P w = .ok (.value v) w' → K' (a.put ed v) w' → Oper.wp P ⟨ed, op, ty, pos, after, guard⟩ a w K' Q := by
    intro v w' h1 h2
    unfold Oper.wp
    rw [h1]
    exact h2
  have val : ∀ (sv : Sem Value) (v : Value) (w' : World), sv.run P w = .ok v w' → (do pure (.value (← sv)) : Sem Next).run P w = .ok (.value v) w' := by
    intro sv v w' hv; simp only [Sem.run_bind, hv, Result.andThen_ok, Sem.run_pure]
  have quiet : avOk P s.h s.ev op → ex = av P s.h s.ev op → ehu = [] → Oper.wp P ⟨ed, op, ty, pos, after, guard⟩ a w K' Q := by
    intro h1 h2 h3
    subst h2
    subst h3
    obtain ⟨v, g1, g2⟩ := k17a (o := ⟨ed, op, ty, pos, after, guard⟩) hev hR.wr.obj h1
    exact value v w g1 (hK _ _ _ (hR.put g2 ed hdst) (fun i _ _ _ => ⟨rfl, rfl⟩))
  have quiet' : (∀ t x, op ≠ .load t x) → avOk P [] s.ev op → ex = av P [] s.ev op → ehu = [] → Oper.wp P ⟨ed, op, ty, pos, after, guard⟩ a w K' Q := by
    intro h0 h1 h2 h3
    obtain ⟨q1, q2⟩ := av_h (P := P) (ev := s.ev) s.h h0
    exact quiet (by rw [q2]; exact h1) (by rw [q1]; exact h2) h3
  cases op with
  | alloc t =>
    obtain ⟨h1, hS, h2, h3⟩ := ho
    simp only [hfb] at h2 h3
    subst h2
    subst h3
    obtain ⟨l, hl⟩ := Option.isSome_iff_exists.1 h1
    obtain ⟨f1, f2, f3⟩ := hfree 0 hS
    obtain ⟨i, z, hi, hz, hrow⟩ := krf (G := G) (w := w) (h := s.h) (nx := s.nx) hl
    obtain ⟨G', hR', hp, hG⟩ := hR.allocAt fb (by omega) f1 f2 f3 t z.cells.toList l hrow.1 hrow.2.1 hrow.2.2
    have e1 : zeroD P t = l := by simp [zeroD, hl]
    refine value _ _ (val _ _ _ ?_) (hK _ _ _ (by rw [e1]; exact hR'.put hp ed hdst) (fun i _ hi _ => hG i (by omega)))
    have hzr : (zeroValue t).run P w = .ok z w := by simp [zeroValue, typeInfo, hi, hz]
    simp only [Instr.alloc, Sem.run_bind, hzr, Result.andThen_ok, newVar, newRow, newObj, Sem.run, Sem.run_pure, Array.toArray_toList]
    rfl
  | box t x =>
    obtain ⟨⟨n, h1⟩, hS, h2, h3⟩ := ho
    simp only [hfb] at h2 h3
    subst h2
    subst h3
    obtain ⟨f1, f2, f3⟩ := hfree 0 hS
    obtain ⟨g1, g2⟩ := k105 (hev x) h1
    obtain ⟨G', hR', hp, hG⟩ := hR.allocAt fb (by omega) f1 f2 f3 t (a.eval x).cells.toList (s.ev x).cells g2.1 g2.2.1 g2.2.2
    refine value _ _ (val _ _ _ ?_) (hK _ _ _ (hR'.put hp ed hdst) (fun i _ hi _ => hG i (by omega)))
    simp only [Instr.box, newVar, newRow, newObj, Sem.run_bind, Sem.run, Result.andThen_ok, Sem.run_pure, Array.toArray_toList]
    rfl
  | store t p x =>
    obtain ⟨id, off, l, g, n, h1, h3, h4, h5, h6, h7, h8⟩ := ho
    simp only at h7 h8
    subst h7
    subst h8
    have hp := hev p
    rw [h1] at hp
    obtain ⟨w', hrun, hR'⟩ := hR.store (P := P) h3 (hev x) hp h5.2 h4 h5.1 h6
    unfold Oper.wp
    have : (execOp a.eval ⟨ed, .store t p x, ty, pos, after, guard⟩).run P w = .ok .skip w' := by
      simp only [execOp, Sem.run_bind, hrun, Result.andThen_ok, Sem.run_pure]
    rw [this]
    exact hK _ _ _ (hR'.put (.any _) ed hdst) (fun i _ _ _ => ⟨rfl, rfl⟩)
  | build t parts =>
    obtain ⟨h1, h2, h3, h4, h5⟩ := ho
    simp only at h4 h5
    subst h4
    subst h5
    obtain ⟨pl, hpl⟩ := Option.isSome_iff_exists.1 h1
    obtain ⟨l0, hl0⟩ := Option.isSome_iff_exists.1 h2
    have e1 : plD P t = pl := by simp [plD, hpl]
    have e2 : zeroD P t = l0 := by simp [zeroD, hl0]
    rw [e1, e2] at h3 hK
    obtain ⟨v, z, g1, g2, g3⟩ := k14f (P := P) (G := G) (w := w) (K := fun z => z = .agg (fillR pl l0 (parts.toList.map fun p => (p.1, s.ev p.2)))) hev parts.toList hpl hl0 (k15z _ _ h3 rfl)
    subst g3
    refine value v w (val _ _ _ ?_) (hK _ _ _ (hR.put g2 ed hdst) (fun i _ _ _ => ⟨rfl, rfl⟩))
    rw [← g1]
    congr 2
    apply Array.ext'
    simp
  | buildSlice t n parts =>
    obtain ⟨⟨h1, h2, h3, h4, h5⟩, hS, h6, h7⟩ := ho
    simp only at h6 h7
    subst h6
    subst h7
    obtain ⟨q, hq⟩ := Option.isSome_iff_exists.1 h1
    obtain ⟨sz, bt⟩ := q
    obtain ⟨l, hl⟩ := Option.isSome_iff_exists.1 h3
    have e1 : rowD P t = (sz, bt) := by simp [rowD, hq]
    simp only [e1, hl, Option.getD_some] at h4 h5 hK
    rw [toDs_eq] at hl
    obtain ⟨f1, f2, f3⟩ := hfree 0 hS
    obtain ⟨v, w', G', g1, g2, g3, hG⟩ := hR.buildSlice hq parts.toList n h2 hl (kr3 h4) h5 fb s.nx (.inr ⟨by omega, rfl⟩) f3
    refine value v w' (val _ _ _ ?_) (hK _ _ _ (g2.put g3 ed hdst) (fun i hi hi2 _ => hG i (by omega) hi))
    rw [← g1]
    congr 2
    apply Array.ext'
    simp
  | load t x =>
    obtain ⟨h1, _, h3, h4⟩ := ho
    exact quiet h1 h3 h4
  | makeSlice t l c =>
    obtain ⟨h1, hS, h2, h3⟩ := ho
    simp only [hfb] at h2 h3
    have hx := hev l
    have hy := hev c
    generalize s.ev l = lv at hx h1 h2 h3
    generalize s.ev c = cv at hy h1
    unfold mkOk at h1
    split at h1
    · rename_i q n q' m
      obtain ⟨⟨k1, k2⟩, k3, k4, k5, k6⟩ := h1
      obtain ⟨r, hr⟩ := Option.isSome_iff_exists.1 k1
      obtain ⟨sz, bt⟩ := r
      obtain ⟨zs, hzs⟩ := Option.isSome_iff_exists.1 k2
      have e1 : rowD P t = (sz, bt) := by simp [rowD, hr]
      have e2 : elZD P t = zs := by simp [elZD, hzs]
      simp only [e1, e2, natOf] at h2 h3 k5
      obtain ⟨n', rfl⟩ := Int.eq_ofNat_of_zero_le k3
      obtain ⟨c', rfl⟩ := Int.eq_ofNat_of_zero_le (Int.le_trans k3 k4)
      simp only [Int.toNat_natCast] at h2 h3 k5 k6
      subst h2
      subst h3
      obtain ⟨f1, f2, f3⟩ := hfree 0 hS
      obtain ⟨v, w', G', g1, g2, g3, hG⟩ := hR.make hr hzs (n := n') (c := c') (q := q) (q' := q') (by omega) k5 k6 fb s.nx (.inr ⟨by omega, rfl, f1, f2, f3⟩)
      refine value v w' (val _ _ _ ?_) (hK _ _ _ (g2.put g3 ed hdst) (fun i hi hi2 _ => hG i (by omega) hi))
      simp only [hx.int_inv, hy.int_inv]
      exact g1
    · exact h1.elim
  | makeMap t r => exact ho.elim
  | lookup t x i c => exact ho.elim
  | mapUpdate t m k v => exact ho.elim
  | call c =>
    obtain ⟨callee, args, argTypes⟩ := c
    cases callee with
    | invoke r m => exact quiet' (fun _ _ h => by cases h) ho.1 ho.2.1 ho.2.2
    | builtin b =>
      cases b with
      | copy => exact ho.elim
      | delete => exact ho.elim
      | append =>
        obtain ⟨⟨h1, h2, h3⟩, tok, sz, bt, l, k1, k2, k3, k4, k5, k6, k7, k8⟩ := ho
        obtain ⟨x, y, rfl⟩ : ∃ x y, args = #[x, y] := by
          obtain ⟨l⟩ := args
          match l, h1 with
          | [x, y], _ => exact ⟨x, y, rfl⟩
        obtain ⟨t, t', rfl⟩ : ∃ x y, argTypes = #[x, y] := by
          obtain ⟨l⟩ := argTypes
          match l, h2 with
          | [x, y], _ => exact ⟨x, y, rfl⟩
        have e0 : (#[t, t'] : Array TypeId).getD 0 0 = t := rfl
        have e0' : (#[t, t'] : Array TypeId).getD 1 0 = t' := rfl
        simp only at h3 k1 k2 k4 k5 k6 k7 k8
        rw [e0, e0'] at h3
        subst h3
        have ex' : (#[x, y] : Array Operand).getD 0 (.const .nilIface) = x := rfl
        have ey' : (#[x, y] : Array Operand).getD 1 (.const .nilIface) = y := rfl
        have e0 : (#[t, t] : Array TypeId).getD 0 0 = t := rfl
        simp only [ex', ey', e0] at k1 k2 k4 k5 k6 k7 k8
        subst k7
        subst k8
        obtain ⟨l2, hl2⟩ := Option.isSome_iff_exists.1 (show ((s.ev y).els sz).isSome = true from k4)
        have e3 : (s.ev y).elsD sz = l2 := by simp [V.elsD, hl2]
        simp only [e3] at k5 k6 hK
        have hg : growA s sz (.own tok sz l) = some (tok, s.nx, l) := by simp [growA, k3]
        have hx := hev x
        rw [k2] at hx
        obtain ⟨v, w', G', g1, g2, g3, hG⟩ := hR.append k1 hx (hev y) hg hl2 k5 ty k6
        refine value v w' ?_ (hK _ _ _ (g2.put g3 ed hdst) (fun i hi hi2 hn => hG i ?_ hi))
        · simp only [execOp, resolve, invoke, builtin, Sem.run_bind, Sem.run_pure, Result.andThen_ok, List.map_toArray, List.map_cons, List.map_nil, g1]
        · rintro rfl
          simp [Hp.get] at hn
      | _ => exact quiet' (fun _ _ h => by cases h) ho.1 ho.2.1 ho.2.2
    | value f =>
      rcases ho with ⟨g, r, h1, h2, h3, h4⟩ | ⟨g, xs, pre, r, post, ids, h1, ⟨h2, h3, h4⟩, p1, p2, p3, h5, h6, ⟨p4, p5⟩, h7, h8⟩
      · simp only at h3 h4
        subst h3
        subst h4
        have hf := hev f
        rw [h1] at hf
        have hfv := hf.k_inv
        obtain ⟨v, g1, g2⟩ := h2 G w s.h s.nx (args.toList.map a.eval) (by simp) (fun j v x hv hx => by
          rw [List.getElem?_map, Option.map_eq_some_iff] at hv
          obtain ⟨o', ho', rfl⟩ := hv
          simp only [List.getElem?_map, ho', Option.map_some, Option.some.injEq] at hx
          rw [← hx]
          exact hev o')
        refine value v w ?_ (hK _ _ _ (hR.put g2 ed hdst) (fun i _ _ _ => ⟨rfl, rfl⟩))
        simp only [execOp, resolve, Deferred.ofValue, hfv, Sem.run_bind, Sem.run_pure, Result.andThen_ok, invoke]
        rw [← g1]
        congr 2
        apply Array.ext'
        simp
      simp only [hfb] at p1 h5 h7 h8
      subst h7
      subst h8
      have hf := hev f
      rw [h1] at hf
      have hfv := hf.k_inv
      obtain ⟨g1, g2⟩ := kta h5
      have hlen : (args.toList.map a.eval).length = xs.length := by simp at g1 ⊢; exact g1
      have hcall := hR.call (nx' := s.nx) h4 (k18v (by omega) p1) p2 p3 (.inr ⟨rfl, fun j hj => ⟨by omega, (hfree j (by omega)).1, (hfree j (by omega)).2.1, fun o ho => p5 j o ho⟩⟩) hlen (fun j v x hv hx => by
        rw [List.getElem?_map, Option.map_eq_some_iff] at hv
        obtain ⟨o', ho', rfl⟩ := hv
        obtain ⟨q1, q2⟩ := g2 j (s.ev o') x (by rw [List.getElem?_map, ho']; rfl) hx
        exact ⟨(hev o').le q1, q2⟩) h6
      unfold Oper.wp
      have hrun : (execOp a.eval ⟨ed, .call ⟨.value f, args, argTypes⟩, ty, pos, after, guard⟩).run P w = .ok (.enter g (args.toList.map a.eval).toArray) w := by
        simp only [execOp, resolve, Deferred.ofValue, hfv, Sem.run_bind, Sem.run_pure, Result.andThen_ok, invoke, callFunc, run_program]
        cases hfn : P.funcs[g]? with
        | none => simp [hfn] at h2
        | some fn =>
          simp only [hfn, Option.bind_some, Option.map_some, ne_eq, Option.some.injEq] at h2 h3
          have hnm : (fn.name == "runtime.NumGoroutine") = false := by simpa using h3
          have hbn : fn.body.isNone = false := by cases hb : fn.body with | none => simp [hb] at h2 | some _ => rfl
          simp only [hnm, hbn, Bool.false_eq_true, if_false, Sem.run_pure]
          congr 2
          apply Array.ext'
          simp
      rw [hrun]
      refine hcall.mono fun e w' ⟨v, G', he, hR', hv, hG⟩ => ?_
      subst he
      refine hK _ _ _ (hR'.put hv ed hdst) (fun i hi hi2 hn => hG i hi (fun q hq heq => ?_))
      subst heq
      rw [kvv post 0 q (Nat.zero_le _) (by omega)] at hn
      cases hn
  | _ => exact quiet' (fun _ _ h => by cases h) ho.1 ho.2.1 ho.2.2
theorem k1of {nb S k : Nat} {op : Op} {e : Eff} (hev : ∀ x ∈ op.operands, s.ev x = s'.ev x)
    (hh : ∀ id, ((Hp.get e.hu id).isSome = true ∨ id ∈ e.rd) → (id < frs nb S k ∨ frs nb S k + S ≤ id) → s.h.get id = s'.h.get id)
    (hh0 : ∀ id, (Hp.get e.hu id).isSome = true → (∃ t, op = .store t (op.operands.getD 0 (.const .nilIface)) (op.operands.getD 1 (.const .nilIface))) ∨ (∃ c, op = .call c) → s.h.get id ≠ none → s.h.get id = s'.h.get id) (hrd : ∀ id, id ∈ e.rd → s.h.get id ≠ none → s.h.get id = s'.h.get id) (ho : opD P nb S k op e s) : opD P nb S k op e s' := by
  have quiet : ∀ (op : Op), (∀ x ∈ op.operands, s.ev x = s'.ev x) → (∀ t a, op ≠ .load t a) → avOk P [] s.ev op → avOk P [] s'.ev op ∧ av P [] s.ev op = av P [] s'.ev op := by
    intro op hev hl
    cases op <;> simp only [avOk, av] <;> simp only [Op.operands, Call.operands] at hev <;> first | (intro h; exact h.elim) | skip
    case move x => rw [hev x (by simp)]; exact fun _ => ⟨trivial, rfl⟩
    case assign x => rw [hev x (by simp)]; exact fun _ => ⟨trivial, rfl⟩
    case pick c x y => rw [hev c (by simp), hev x (by simp), hev y (by simp)]; exact fun h => ⟨h, rfl⟩
    case load t x => exact (hl t x rfl).elim
    case fieldAddr t x f => rw [hev x (by simp)]; exact fun h => ⟨h, rfl⟩
    case field t x f => rw [hev x (by simp)]; exact fun h => ⟨h, rfl⟩
    case indexAddr t x i => rw [hev x (by simp), hev i (by simp)]; exact fun h => ⟨h, rfl⟩
    case index t x i => rw [hev x (by simp), hev i (by simp)]; exact fun h => ⟨h, rfl⟩
    case extract x i => rw [hev x (by simp)]; exact fun h => ⟨h, rfl⟩
    case binOp op t x y t' => rw [hev x (by simp), hev y (by simp)]; exact fun h => ⟨h, rfl⟩
    case unOp op t x => rw [hev x (by simp)]; exact fun h => ⟨h, rfl⟩
    case convert t t' x => rw [hev x (by simp)]; exact fun h => ⟨h, rfl⟩
    case slice t x lo hi mx =>
      rw [hev x (by simp)]
      have e1 : lo.map s.ev = lo.map s'.ev := by cases lo with | none => rfl | some y => simp [hev y (by simp)]
      have e2 : hi.map s.ev = hi.map s'.ev := by cases hi with | none => rfl | some y => simp [hev y (by simp)]
      rw [e1, e2]; exact fun h => ⟨h, rfl⟩
    case nilCheck x => rw [hev x (by simp)]; exact fun h => ⟨h, rfl⟩
    case call c =>
      have two : c.args.size = 2 → s.ev (c.args.getD 0 (.const .nilIface)) = s'.ev (c.args.getD 0 (.const .nilIface)) ∧ s.ev (c.args.getD 1 (.const .nilIface)) = s'.ev (c.args.getD 1 (.const .nilIface)) := by
        intro h2
        have e0 : c.args.getD 0 (.const .nilIface) = c.args[0] := by simp [h2]
        have e1 : c.args.getD 1 (.const .nilIface) = c.args[1] := by simp [h2]
        rw [e0, e1]
        exact ⟨hev _ (by simp), hev _ (by simp)⟩
      unfold callVOk callV
      split
      · rintro ⟨h1, h2⟩
        obtain ⟨e0, e1⟩ := two h1
        rw [e0, e1] at h2 ⊢
        exact ⟨⟨h1, h2⟩, rfl⟩
      · rintro ⟨h1, h2⟩
        obtain ⟨e0, e1⟩ := two h1
        rw [e0, e1] at h2 ⊢
        exact ⟨⟨h1, h2⟩, rfl⟩
      rintro ⟨h1, h2⟩
      have e1 : s.ev (c.args.getD 0 (.const .nilIface)) = s'.ev (c.args.getD 0 (.const .nilIface)) := by
        have hs : 0 < c.args.size := by rw [h1.2.1]; omega
        have : c.args.getD 0 (.const .nilIface) = c.args[0] := by simp [hs]
        rw [this]
        refine hev _ ?_
        rw [h1.1]
        simp
      rw [e1] at h2 ⊢
      exact ⟨⟨h1, h2⟩, rfl⟩
  cases op with
  | alloc t => exact ho
  | box t x =>
    simp only [Op.operands] at hev
    simp only [opD, hev x (by simp)] at ho ⊢
    exact ho
  | store t p x =>
    obtain ⟨id, off, l, g, n, h1, h3, h4, h5, h6, h7, h8⟩ := ho
    simp only [Op.operands] at hev
    have ep := hev p (by simp)
    have ex := hev x (by simp)
    have hg := hh0 id (by rw [h8]; simp [Hp.get]) (.inl ⟨t, rfl⟩) (by rw [h3]; simp)
    exact ⟨id, off, l, g, n, by rw [← ep]; exact h1, by rw [← hg]; exact h3, h4, by rw [← ex]; exact h5, h6, h7, by rw [← ex]; exact h8⟩
  | build t parts =>
    obtain ⟨h1, h2, h3, h4, h5⟩ := ho
    have e1 : (parts.toList.map fun p => (p.1, s.ev p.2)) = parts.toList.map fun p => (p.1, s'.ev p.2) := by
      apply List.map_congr_left
      intro p hp
      rw [hev p.2 (by simp only [Op.operands]; simp; exact ⟨p.1, by simpa using hp⟩)]
    rw [e1] at h3 h4
    exact ⟨h1, h2, h3, h4, h5⟩
  | buildSlice t n parts =>
    have e1 : (parts.toList.map fun p => s.ev p.2) = parts.toList.map fun p => s'.ev p.2 := by
      apply List.map_congr_left
      intro p hp
      rw [hev p.2 (by simp only [Op.operands]; simp; exact ⟨p.1, by simpa using hp⟩)]
    simp only [opD, e1] at ho ⊢
    exact ho
  | makeSlice t l c =>
    simp only [Op.operands] at hev
    simp only [opD, hev l (by simp), hev c (by simp)] at ho ⊢
    exact ho
  | makeMap t r => exact ho.elim
  | lookup t x i c => exact ho.elim
  | mapUpdate t m k v => exact ho.elim
  | load t x =>
    obtain ⟨h1, h2, h3, h4⟩ := ho
    simp only [Op.operands] at hev
    have ex := hev x (by simp)
    rw [ex] at h1 h2 h3
    have key : loadOk (tyOf P t) s'.h (s'.ev x) = loadOk (tyOf P t) s.h (s'.ev x) ∧ loadV (tyOf P t) s'.h (s'.ev x) = loadV (tyOf P t) s.h (s'.ev x) := by
      generalize s'.ev x = v at *
      cases v <;> first | exact ⟨rfl, rfl⟩ | skip
      rename_i id off
      have hne : s.h.get id ≠ none := by
        intro hn
        simp only [loadOk, hn] at h1
        split at h1 <;> simp_all
      have := hrd id (h2 id off rfl) hne
      simp only [loadOk, loadV, this]
      exact ⟨trivial, trivial⟩
    exact ⟨by rw [key.1]; exact h1, h2, by rw [key.2]; exact h3, h4⟩
  | call c =>
    obtain ⟨callee, args, argTypes⟩ := c
    cases callee with
    | invoke r m => obtain ⟨q1, q2⟩ := quiet _ hev (fun _ _ h => by cases h) ho.1; exact ⟨q1, by rw [← q2]; exact ho.2.1, ho.2.2⟩
    | builtin b =>
      cases b with
      | copy => exact ho.elim
      | delete => exact ho.elim
      | append =>
        obtain ⟨⟨h1, h2, h3⟩, tok, sz, bt, l, k1, k2, k3, k4, k5, k6, k7, k8⟩ := ho
        simp only at h1
        have a0 : s.ev (args.getD 0 (.const .nilIface)) = s'.ev (args.getD 0 (.const .nilIface)) := by
          have : args.getD 0 (.const .nilIface) = args[0] := by simp [h1]
          rw [this]
          exact hev _ (by simp only [Op.operands, Call.operands]; simp)
        have a1 : s.ev (args.getD 1 (.const .nilIface)) = s'.ev (args.getD 1 (.const .nilIface)) := by
          have : args.getD 1 (.const .nilIface) = args[1] := by simp [h1]
          rw [this]
          exact hev _ (by simp only [Op.operands, Call.operands]; simp)
        have hg := hh0 tok (by rw [k8]; simp [Hp.get]) (.inr ⟨_, rfl⟩) (by rw [k3]; simp)
        simp only [a0, a1] at k2 k4 k5 k6 k7 k8
        exact ⟨⟨h1, h2, h3⟩, tok, sz, bt, l, k1, k2, by rw [← hg]; exact k3, k4, k5, k6, k7, k8⟩
      | _ => obtain ⟨q1, q2⟩ := quiet _ hev (fun _ _ h => by cases h) ho.1; exact ⟨q1, by rw [← q2]; exact ho.2.1, ho.2.2⟩
    | value f =>
      simp only [Op.operands, Call.operands] at hev
      have ef := hev f (by simp)
      have ea : args.toList.map s.ev = args.toList.map s'.ev := List.map_congr_left (fun y hy => hev y (by simp; exact .inr (by simpa using hy)))
      rcases ho with ⟨g, r, h1, h2, h3, h4⟩ | ⟨g, xs, pre, r, post, ids, h1, h4, p1, p2, p3, h5, h6, p4, h7, h8⟩
      · exact .inl ⟨g, r, by rw [← ef]; exact h1, by rw [← ea]; exact h2, h3, h4⟩
      · refine .inr ⟨g, xs, pre, r, post, ids, by rw [← ef]; exact h1, h4, k13u (fun k hk => ?_) p1, p2, p3, by rw [← ea]; exact h5, h6, p4, h7, h8⟩
        obtain ⟨hil, hpo⟩ := kvs p1
        obtain ⟨i, hi, rfl⟩ := List.getElem_of_mem hk
        obtain ⟨q1, _⟩ := hpo i _ _ (List.getElem?_eq_getElem hi) (List.getElem?_eq_getElem (by omega))
        refine hh _ (.inl ?_) (.inl q1)
        have e1 : sgm ids (frs nb S k) i = ids[i] := by simp [sgm, hi]
        rw [h8, ← e1]
        exact kvv post 0 i (Nat.zero_le _) (by omega)
  | _ => obtain ⟨q1, q2⟩ := quiet _ hev (fun _ _ h => by cases h) ho.1; exact ⟨q1, by rw [← q2]; exact ho.2.1, ho.2.2⟩
end
end Go.Bv
namespace Go.Bv
open Go.RowKit
theorem k1nx (es : List Eff) : ∀ (i k : Nat) (s : St), stE (fun n => decide (n < k + i)) es k s = (es.take i).foldl (fun s e => e.app s) s := by
  induction es with
  | nil => intro i k s; simp [stE]
  | cons e es ih =>
    intro i k s
    rw [stE]
    cases i with
    | zero =>
      simp only [Nat.add_zero, Nat.lt_irrefl, decide_false, Bool.false_eq_true, if_false, List.take_zero, List.foldl_nil]
      have : ∀ (es : List Eff) (k' : Nat), k ≤ k' → ∀ s, stE (fun n => decide (n < k)) es k' s = s := by
        intro es
        induction es with
        | nil => intro _ _ _; rfl
        | cons e es ih =>
          intro k' hk s
          rw [stE, ih (k' + 1) (by omega), if_neg (by simp; omega)]
      exact this es (k + 1) (by omega) s
    | succ i =>
      rw [if_pos (by simp)]
      have := ih i (k + 1) (e.app s)
      rw [show k + 1 + i = k + (i + 1) by omega] at this
      rw [this]
      rfl
theorem cnt_le (p p' : Nat → Bool) (h : ∀ i, p' i = true → p i = true) : ∀ l : List Nat, (l.filter p').length ≤ (l.filter p).length
  | [] => by simp
  | x :: l => by
    have ih := cnt_le p p' h l
    simp only [List.filter_cons]
    by_cases h1 : p' x = true
    · rw [if_pos h1, if_pos (h x h1)]; simp; omega
    · rw [if_neg h1]
      split
      · simp; omega
      · exact ih
theorem cnt_lt (p p' : Nat → Bool) (h : ∀ i, p' i = true → p i = true) (i : Nat) (h1 : p i = true) (h2 : p' i = false) : ∀ l : List Nat, i ∈ l → (l.filter p').length < (l.filter p).length
  | [], hm => by cases hm
  | x :: l, hm => by
    simp only [List.filter_cons]
    rcases List.mem_cons.1 hm with rfl | hm
    · rw [if_neg (by rw [h2]; simp), if_pos h1]
      have := cnt_le p p' h l
      simp; omega
    · have ih := cnt_lt p p' h i h1 h2 l hm
      by_cases h3 : p' x = true
      · rw [if_pos h3, if_pos (h x h3)]; simp; omega
      · rw [if_neg h3]
        split
        · simp; omega
        · exact ih
theorem k1kn {ops : Array Oper} : ∀ (fuel k : Nat) (listed : Array Bool), listed.size = ops.size → k + fuel = ops.size → (∀ i, i < ops.size → (listed.getD i true = decide (i < k) ∧ listed.getD i false = decide (i < k))) → Region.lexFrom .any ops fuel k listed = true →
    ∀ i, k ≤ i → i < ops.size → ∀ oi, ops[i]? = some oi → (∀ e ∈ oi.after, Region.binds .any e = true → e.on < i) ∧ (∀ j oj, i < j → ops[j]? = some oj → oi.apart ops oj = true ∨ ∃ e ∈ oj.after, Region.binds .any e = true ∧ e.on = i)
  | 0, k, listed, _, hk, _, _, i, h1, h2, _, _ => by omega
  | fuel + 1, k, listed, hs, hk, hl, hB, i, h1, h2, oi, hoi => by
    simp only [Region.lexFrom, Bool.and_eq_true] at hB
    obtain ⟨⟨hr, hf⟩, hB'⟩ := hB
    rcases Nat.lt_or_ge k i with hki | hki
    · refine k1kn fuel (k + 1) (listed.setIfInBounds k true) (by simpa using hs) (by omega) (fun n hn => ?_) hB' i hki h2 oi hoi
      by_cases hnk : n = k
      · subst hnk; simp [hs, hn]
      · rw [getD_set_ne true (Ne.symm hnk), getD_set_ne false (Ne.symm hnk), (hl n hn).1, (hl n hn).2]
        have : (n < k) = (n < k + 1) := by apply propext; omega
        simp only [this, and_self]
    · have hik : i = k := by omega
      subst hik
      refine ⟨fun e he hb => ?_, fun j oj hij hoj => ?_⟩
      · have hmem : i ∈ Region.ready .any ops listed := by simpa using hr
        obtain ⟨_, o', ho', hall⟩ := mem_ready.1 hmem
        rw [hoi] at ho'
        injection ho' with ho'
        subst ho'
        have := hall e he hb
        rcases Nat.lt_or_ge e.on ops.size with h3 | h3
        · rw [(hl _ h3).2] at this
          simpa using this
        · have hsz : listed.size ≤ e.on := by omega
          simp [Array.getD, Nat.not_lt.2 hsz] at this
      · by_cases hex : ∃ e ∈ oj.after, Region.binds .any e = true ∧ e.on = i
        · exact .inr hex
        · refine .inl (Region.free_spec hoi hf j oj hoj (by omega) ?_ (fun e he hb heq => hex ⟨e, he, hb, heq⟩))
          have hjs : j < ops.size := (Array.getElem?_eq_some_iff.1 hoj).1
          rw [(hl j hjs).1]
          simp; omega
section
variable {P : Program} {T : Tk} {G0 : Gh} {w0 : World} {N : Nat}
theorem k187 {E : Nat → Bool} {id : Nat} : ∀ (es : List Eff) (k : Nat), heapE E id es k none ≠ none → ∃ (j : Nat) (e : Eff), es[j]? = some e ∧ E (k + j) = true ∧ (Hp.get e.hu id).isSome = true := by
  have gen : ∀ (es : List Eff) (k : Nat) (o : Option Ob), heapE E id es k o ≠ none → o ≠ none ∨ ∃ (j : Nat) (e : Eff), es[j]? = some e ∧ E (k + j) = true ∧ (Hp.get e.hu id).isSome = true := by
    intro es
    induction es with
    | nil => intro k o h; exact .inl h
    | cons e es ih =>
      intro k o h
      rw [heapE] at h
      rcases ih (k + 1) _ h with h1 | ⟨j, e', h1, h2, h3⟩
      · split at h1
        · rename_i hc; exact .inr ⟨0, e, rfl, by simpa using hc.1, hc.2⟩
        · exact .inl h1
      · exact .inr ⟨j + 1, e', by simpa using h1, by rw [show k + (j + 1) = k + 1 + j by omega]; exact h2, h3⟩
  intro es k h
  rcases gen es k none h with h1 | h1
  · exact (h1 rfl).elim
  · exact h1
theorem kql (nb S k : Nat) : frs nb S (k + 1) = frs nb S k + S := by unfold frs; rw [Nat.succ_mul]; omega
theorem klr (nb S : Nat) {k j : Nat} (h : k ≤ j) : frs nb S k ≤ frs nb S j := by unfold frs; have := Nat.mul_le_mul_right S h; omega
theorem drawn {l : List Oper} {es : List Eff} {s0 : St} {nb S : Nat} {Q : Exit → Act → World → Prop} (hlen : es.length = l.length) (hnb : s0.nx = frs nb S l.length) (hold : ∀ id, nb ≤ id → s0.h.get id = none)
    (H1 : ∀ (i : Nat) (o : Oper) (e : Eff), l[i]? = some o → es[i]? = some e → stepD P N (l.map (·.dst)) nb S i o e (stE (fun k => decide (k < i)) es 0 s0))
    (H2 : Region.lexB .any l.toArray = true)
    (H3 : ∀ (i j : Nat) (ei ej : Eff) (oj : Oper) (id : Nat), i < j → es[i]? = some ei → es[j]? = some ej → l[j]? = some oj → (((Hp.get ei.hu id).isSome = true ∧ ((Hp.get ej.hu id).isSome = true ∨ id ∈ ej.rd)) ∨ (id ∈ ei.rd ∧ (Hp.get ej.hu id).isSome = true)) → ∃ e ∈ oj.after, Region.binds .any e = true ∧ e.on = i)
    (H4 : ∀ (j : Nat) (e : Eff) (id : Nat), es[j]? = some e → (Hp.get e.hu id).isSome = true → id < frs nb S (j + 1))
    (H5 : ∀ (j : Nat) (e : Eff) (id : Nat), es[j]? = some e → (Hp.get e.hu id).isSome = true → frs nb S j ≤ id ∨ (stE (fun k => decide (k < j)) es 0 s0).h.get id ≠ none)
    (hQ : ∀ a' G' w', R T G0 w0 N (stE (fun _ => true) es 0 s0) a' G' w' → Q .normal a' w') :
    ∀ (fuel : Nat) (listed : Array Bool) (a : Act) (G : Gh) (w : World), listed.size = l.length → (∀ (j : Nat) (oj : Oper), l[j]? = some oj → listed.getD j false = true → ∀ e ∈ oj.after, Region.binds .any e = true → listed.getD e.on false = true) →
      R T G0 w0 N (stE (fun k => listed.getD k false) es 0 s0) a G w → (∀ k, k < l.length → listed.getD k false = false → ∀ id, frs nb S k ≤ id → id < frs nb S k + S → G.loc id = none ∧ G.tloc id = none) →
      ((List.range l.length).filter (fun i => !listed.getD i false)).length ≤ fuel → wpAny P .any l.toArray Q fuel listed a w := by
  
  have maker : ∀ (j k : Nat) (ej ek : Eff) (id : Nat), es[j]? = some ej → es[k]? = some ek → (Hp.get ej.hu id).isSome = true → frs nb S k ≤ id → id < frs nb S k + S → k ≤ j ∧ (Hp.get ek.hu id).isSome = true := by
    intro j
    induction j using Nat.strongRecOn with
    | _ j ih =>
      intro k ej ek id hj hk hw h1 h2
      have h4 := H4 j ej id hj hw
      have hkj : k ≤ j := by
        rcases Nat.lt_or_ge j k with h | h
        · have := klr nb S (show j + 1 ≤ k by omega); omega
        · exact h
      refine ⟨hkj, ?_⟩
      by_cases hkj' : k = j
      · subst hkj'
        rw [hj] at hk
        injection hk with hk
        subst hk
        exact hw
      · rcases H5 j ej id hj hw with h5 | h5
        · have := klr nb S (show k + 1 ≤ j by omega)
          rw [kql] at this
          omega
        · rw [kdp, hold id (by unfold frs at h1; omega)] at h5
          obtain ⟨j', e', g1, g2, g3⟩ := k187 es 0 h5
          simp at g2
          exact (ih j' (by omega) k e' ek id g1 hk g3 h1 h2).2
  simp only [Region.lexB, Bool.and_eq_true] at H2
  have hlex := k1kn (ops := l.toArray) l.toArray.size 0 (Array.replicate l.toArray.size false) (by simp) (by simp) (fun i hi => by simp at hi; simp [hi]) (by simpa using H2.2)
  have hlx : ∀ (i : Nat) (oi : Oper), l[i]? = some oi → (∀ e ∈ oi.after, Region.binds .any e = true → e.on < i) ∧ (∀ j oj, i < j → l[j]? = some oj → oi.apart l.toArray oj = true ∨ ∃ e ∈ oj.after, Region.binds .any e = true ∧ e.on = i) := by
    intro i oi hoi
    have hi : i < l.length := (List.getElem?_eq_some_iff.1 hoi).1
    obtain ⟨h1, h2⟩ := hlex i (Nat.zero_le _) (by simpa using hi) oi (by simpa using hoi)
    exact ⟨h1, fun j oj hij hoj => h2 j oj hij (by simpa using hoj)⟩
  
  have atEnd : ∀ (listed : Array Bool) (a : Act) (G : Gh) (w : World), (∀ k, k < l.length → listed.getD k false = true) → R T G0 w0 N (stE (fun k => listed.getD k false) es 0 s0) a G w → Q .normal a w := by
    intro listed a G w hall hR
    refine hQ a G w (hR.same (fun t => ?_) (fun i => ?_) (by rw [stE_nx, stE_nx]))
    · rw [stE_get, stE_get]
      exact knc es 0 _ (fun j e he _ => by have : j < es.length := (List.getElem?_eq_some_iff.1 he).1; rw [Nat.zero_add, hall j (by omega)])
    · rw [kdp, kdp]
      exact kn3 es 0 _ (fun j e he _ => by have : j < es.length := (List.getElem?_eq_some_iff.1 he).1; rw [Nat.zero_add, hall j (by omega)])
  
  have someReady : ∀ (listed : Array Bool), listed.size = l.length → Region.ready .any l.toArray listed = [] → ∀ k, k < l.length → listed.getD k false = true := by
    intro listed hsz hre k
    induction k using Nat.strongRecOn with
    | _ k ih =>
      intro hk
      cases hkl : listed.getD k false with
      | true => rfl
      | false =>
        exfalso
        have hm : k ∈ Region.ready .any l.toArray listed := by
          refine mem_ready.2 ⟨?_, l[k], by simp [hk], fun e he hb => ?_⟩
          · have : k < listed.size := by omega
            simp [this] at hkl ⊢; exact hkl
          · have := (hlx k l[k] (List.getElem?_eq_getElem hk)).1 e he hb
            exact ih e.on this (by omega)
        rw [hre] at hm
        cases hm
  intro fuel
  induction fuel with
  | zero =>
    intro listed a G w hsz _ hR _ hc
    have hall : ∀ k, k < l.length → listed.getD k false = true := by
      intro k hk
      cases hkl : listed.getD k false with
      | true => rfl
      | false =>
        have hm : k ∈ (List.range l.length).filter (fun i => !listed.getD i false) := by simp only [List.mem_filter, List.mem_range, hkl]; exact ⟨hk, rfl⟩
        have : (List.range l.length).filter (fun i => !listed.getD i false) = [] := List.eq_nil_of_length_eq_zero (by omega)
        rw [this] at hm
        cases hm
    refine ⟨?_, atEnd listed a G w hall hR⟩
    apply List.eq_nil_iff_forall_not_mem.2
    intro i hi
    obtain ⟨h1, o, ho, _⟩ := mem_ready.1 hi
    have hil : i < l.length := by have := (Array.getElem?_eq_some_iff.1 ho).1; simpa using this
    have h2 := hall i hil
    have : i < listed.size := by omega
    simp [this] at h1 h2
    rw [h1] at h2
    cases h2
  | succ fuel ih =>
    intro listed a G w hsz hcl hR hfree hc
    refine ⟨fun hre => atEnd listed a G w (someReady listed hsz hre) hR, fun i hi => ?_⟩
    obtain ⟨hun, o, ho, hall⟩ := mem_ready.1 hi
    have ho' : l[i]? = some o := by simpa using ho
    have hil : i < l.length := (List.getElem?_eq_some_iff.1 ho').1
    have hisz : i < listed.size := by omega
    have hun' : listed.getD i false = false := by simp [hisz] at hun ⊢; exact hun
    have hei : es[i]? = some es[i] := List.getElem?_eq_getElem (by omega)
    generalize es[i] = e at hei
    
    have before : ∀ (j : Nat) (oj : Oper), j ≠ i → l[j]? = some oj → (oj.apart l.toArray o = true → False) → (o.apart l.toArray oj = true → False) → listed.getD j false = decide (j < i) := by
      intro j oj hji hoj hn1 hn2
      rcases Nat.lt_or_ge j i with h | h
      · rcases (hlx j oj hoj).2 i o h ho' with h3 | ⟨ed, he1, he2, he3⟩
        · exact (hn1 h3).elim
        · rw [← he3, hall ed he1 he2]; simp; omega
      · have h : i < j := by omega
        rcases (hlx i o ho').2 j oj h hoj with h3 | ⟨ed, he1, he2, he3⟩
        · exact (hn2 h3).elim
        · cases hj : listed.getD j false with
          | false => simp; omega
          | true =>
            have := hcl j oj hoj hj ed he1 he2
            rw [he3, hun'] at this
            cases this
    have hed : e.d = o.dst := (H1 i o e ho' hei).2.1
    have hedj : ∀ (j : Nat) (ej : Eff) (oj : Oper), es[j]? = some ej → l[j]? = some oj → ej.d = oj.dst := fun j ej oj h1 h2 => (H1 j oj ej h2 h1).2.1
    have slot : ∀ t, t ∈ o.looksAt l.toArray → getS (stE (fun k => listed.getD k false) es 0 s0).sl t = getS (stE (fun k => decide (k < i)) es 0 s0).sl t := by
      intro t ht
      rw [stE_get, stE_get]
      refine knc es 0 _ (fun j ej hej hd => ?_)
      rw [Nat.zero_add]
      have hjl : j < l.length := by have := (List.getElem?_eq_some_iff.1 hej).1; omega
      have hoj : l[j]? = some l[j] := List.getElem?_eq_getElem hjl
      have hdj : l[j].dst = some t := by rw [← hedj j ej _ hej hoj]; exact hd
      by_cases hji : j = i
      · subst hji; rw [hun']; simp
      · exact before j _ hji hoj (fun h => (Oper.apart_spec h).1 t hdj ht) (fun h => (Oper.apart_spec h).2.2 t hdj ht)
    have hev : ∀ x ∈ o.op.operands, (stE (fun k => decide (k < i)) es 0 s0).ev x = (stE (fun k => listed.getD k false) es 0 s0).ev x := by
      intro x hx
      cases x with
      | tmp t =>
        refine (slot t ?_).symm
        unfold Oper.looksAt
        refine List.mem_append_left _ (List.mem_filterMap.2 ⟨.tmp t, by simpa using hx, rfl⟩)
      | _ => rfl
    have heap : ∀ id, ((Hp.get e.hu id).isSome = true ∨ id ∈ e.rd) → (stE (fun k => decide (k < i)) es 0 s0).h.get id = (stE (fun k => listed.getD k false) es 0 s0).h.get id := by
      intro id hid
      rw [kdp, kdp]
      refine kn3 es 0 _ (fun j ej hej hd => ?_)
      rw [Nat.zero_add]
      have hjl : j < l.length := by have := (List.getElem?_eq_some_iff.1 hej).1; omega
      have hoj : l[j]? = some l[j] := List.getElem?_eq_getElem hjl
      by_cases hji : j = i
      · subst hji; rw [hun']; simp
      · rcases Nat.lt_or_ge j i with h | h
        · obtain ⟨ed, he1, he2, he3⟩ := H3 j i ej e o id h hej hei ho' (.inl ⟨hd, hid⟩)
          rw [← he3, hall ed he1 he2]; simp; omega
        · obtain ⟨ed, he1, he2, he3⟩ := H3 i j e ej _ id (by omega) hei hej hoj (by
            rcases hid with hid | hid
            · exact .inl ⟨hid, .inl hd⟩
            · exact .inr ⟨hid, hd⟩)
          cases hj : listed.getD j false with
          | false => simp; omega
          | true =>
            have := hcl j _ hoj hj ed he1 he2
            rw [he3, hun'] at this
            cases this
    have hstep := H1 i o e ho' hei
    obtain ⟨hd, _, hgd⟩ := hstep
    
    have next : ∀ (a' : Act) (G' : Gh) (w' : World), R T G0 w0 N (e.app (stE (fun k => listed.getD k false) es 0 s0)) a' G' w' → (∀ n, n < s0.nx → (n < frs nb S i ∨ frs nb S i + S ≤ n) → (Hp.get e.hu n).isSome = false → G'.loc n = G.loc n ∧ G'.tloc n = G.tloc n) →
        wpAny P .any l.toArray Q fuel (listed.setIfInBounds i true) a' w' := by
      intro a' G' w' hR' hG'
      have hE : ∀ k, (listed.setIfInBounds i true).getD k false = if k = 0 + i then true else listed.getD k false := by
        intro k
        rw [Nat.zero_add]
        by_cases hk : k = i
        · subst hk; simp [hisz]
        · rw [getD_set_ne false (Ne.symm hk), if_neg hk]
      refine ih _ a' G' w' (by simpa using hsz) ?_ ?_ ?_ ?_
      · intro j oj hoj hj ed he hb
        rw [hE] at hj ⊢
        split
        · rfl
        · by_cases hji : j = i
          · subst hji
            rw [ho'] at hoj
            injection hoj with hoj
            subst hoj
            exact hall ed he hb
          · rw [if_neg (by omega)] at hj
            exact hcl j oj hoj hj ed he hb
      · refine hR'.same (fun t => ?_) (fun n => ?_) (by rw [stE_nx, app_nx, stE_nx])
        · have e1 : (fun k => (listed.setIfInBounds i true).getD k false) = fun k => if k = 0 + i then true else listed.getD k false := funext hE
          rw [e1, stE_get, k1e5 es 0 _ e hei (by rw [Nat.zero_add]; exact hun') (fun j ej hij hej hEj hdt hdj => ?_), app_get, stE_get]
          rw [Nat.zero_add] at hEj
          have hjl : j < l.length := by have := (List.getElem?_eq_some_iff.1 hej).1; omega
          have hoj : l[j]? = some l[j] := List.getElem?_eq_getElem hjl
          rcases (hlx i o ho').2 j _ hij hoj with h3 | ⟨ed, he1, he2, he3⟩
          · exact (Oper.apart_spec h3).2.1 t (by rw [← hed]; exact hdt) (by rw [← hedj j ej _ hej hoj]; exact hdj)
          · have := hcl j _ hoj hEj ed he1 he2
            rw [he3, hun'] at this
            cases this
        · have e1 : (fun k => (listed.setIfInBounds i true).getD k false) = fun k => if k = 0 + i then true else listed.getD k false := funext hE
          rw [e1, kdp, k1eg es 0 _ e hei (by rw [Nat.zero_add]; exact hun') (fun j ej hij hej hEj hdt hdj => ?_), k1ia, kdp]
          rw [Nat.zero_add] at hEj
          have hjl : j < l.length := by have := (List.getElem?_eq_some_iff.1 hej).1; omega
          have hoj : l[j]? = some l[j] := List.getElem?_eq_getElem hjl
          obtain ⟨ed, he1, he2, he3⟩ := H3 i j e ej _ n hij hei hej hoj (.inl ⟨hdt, .inl hdj⟩)
          have := hcl j _ hoj hEj ed he1 he2
          rw [he3, hun'] at this
          cases this
      · intro k hk hkl
        rw [hE] at hkl
        split at hkl
        · cases hkl
        · rename_i hki
          intro id hid1 hid2
          obtain ⟨q1, q2⟩ := hfree k hk hkl id hid1 hid2
          have hki : k ≠ i := by omega
          have hfar : id < frs nb S i ∨ frs nb S i + S ≤ id := by
            rcases Nat.lt_or_ge k i with h | h
            · have := klr nb S (show k + 1 ≤ i by omega); rw [kql] at this; omega
            · have := klr nb S (show i + 1 ≤ k by omega); rw [kql] at this; omega
          have hnx : id < s0.nx := by
            have := klr nb S (show k + 1 ≤ l.length by omega); rw [kql] at this; omega
          have hnw : (Hp.get e.hu id).isSome = false := by
            cases hw : (Hp.get e.hu id).isSome with
            | false => rfl
            | true =>
              exfalso
              obtain ⟨g1, g2⟩ := maker i k e es[k] id hei (List.getElem?_eq_getElem (by omega)) hw hid1 hid2
              obtain ⟨ed, he1, he2, he3⟩ := H3 k i _ e o id (by omega) (List.getElem?_eq_getElem (by omega)) hei ho' (.inl ⟨g2, .inl hw⟩)
              have := hall ed he1 he2
              rw [he3, hkl] at this
              cases this
          obtain ⟨q3, q4⟩ := hG' id hnx hfar hnw
          exact ⟨q3.trans q1, q4.trans q2⟩
      · have := cnt_lt (fun n => !listed.getD n false) (fun n => !(listed.setIfInBounds i true).getD n false) (fun n hn => by
          simp only [Bool.not_eq_true'] at hn ⊢
          rw [hE] at hn
          split at hn
          · cases hn
          · exact hn) i (by simp only [hun']; rfl) (by simp only [hE]; rw [if_pos (by omega)]; rfl) (List.range l.length) (by simpa using hil)
        omega
    have run : opD P nb S i o.op e (stE (fun k => decide (k < i)) es 0 s0) → o.wp P a w (wpAny P .any l.toArray Q fuel (listed.setIfInBounds i true)) Q := by
      intro hop
      have hop' : opD P nb S i o.op e (stE (fun k => listed.getD k false) es 0 s0) := k1of hev (fun id h _ => heap id h) (fun id h _ _ => heap id (.inl h)) (fun id h _ => heap id (.inr h)) hop
      refine k1o3 hR hd hed hop' (by rw [stE_nx, hnb, ← kql]; exact klr nb S (by omega)) (fun j hj => ?_) (fun a' G' w' hR' hG' => next a' G' w' hR' (fun n hn1 hn2 hn3 => hG' n (by rw [stE_nx]; exact hn1) hn2 hn3))
      obtain ⟨q1, q2⟩ := hfree i hil hun' (frs nb S i + j) (by omega) (by omega)
      refine ⟨q1, q2, ?_⟩
      cases hg : (stE (fun k => listed.getD k false) es 0 s0).h.get (frs nb S i + j) with
      | none => rfl
      | some ob =>
        exfalso
        have hne : (stE (fun k => listed.getD k false) es 0 s0).h.get (frs nb S i + j) ≠ none := by rw [hg]; simp
        rw [kdp, hold _ (by unfold frs; omega)] at hne
        obtain ⟨j', e', g1, g2, g3⟩ := k187 es 0 hne
        rw [Nat.zero_add] at g2
        obtain ⟨m1, m2⟩ := maker j' i e' e _ g1 hei g3 (by omega) (by omega)
        have hjl : j' < l.length := by have := (List.getElem?_eq_some_iff.1 g1).1; omega
        have hji : i ≠ j' := by rintro rfl; rw [hun'] at g2; cases g2
        obtain ⟨ed, he1, he2, he3⟩ := H3 i j' e e' _ _ (by omega) hei g1 (List.getElem?_eq_getElem hjl) (.inl ⟨m2, .inl g3⟩)
        have := hcl j' _ (List.getElem?_eq_getElem hjl) g2 ed he1 he2
        rw [he3, hun'] at this
        cases this
    unfold wpOp
    rw [ho]
    simp only
    cases hgo : o.guard with
    | none =>
      rw [hgo] at hgd
      rw [if_pos (by simp [Region.wanted, hgo])]
      exact .inl (run hgd)
    | some g =>
      obtain ⟨j, b⟩ := g
      rw [hgo] at hgd
      have hgs : guardV (stE (fun k => listed.getD k false) es 0 s0) (l.map (·.dst)) j = guardV (stE (fun k => decide (k < i)) es 0 s0) (l.map (·.dst)) j := by
        unfold guardV
        cases hj : (l.map (·.dst))[j]? with
        | none => rfl
        | some od => cases od with
          | none => rfl
          | some u =>
            refine slot u ?_
            unfold Oper.looksAt
            refine List.mem_append_right _ ?_
            rw [hgo]
            rw [List.getElem?_map, Option.map_eq_some_iff] at hj
            obtain ⟨oj, hoj, hdj⟩ := hj
            simp [hoj, hdj]
      have skip : e.x = .k undef → e.hu = [] → wpAny P .any l.toArray Q fuel (listed.setIfInBounds i true) (a.put o.dst undef) w := by
        intro h4 h5
        refine next _ G w ?_ (fun _ _ _ _ => ⟨rfl, rfl⟩)
        have : e.app (stE (fun k => listed.getD k false) es 0 s0) = (stE (fun k => listed.getD k false) es 0 s0).put o.dst (.k undef) := by
          unfold Eff.app
          rw [h4, h5, hed]
          rfl
        rw [this]
        exact hR.put (.k _) o.dst (fun u hu => by rw [hu] at hd; exact hd)
      rcases hgd with ⟨h1, h2, h3⟩ | hgd
      · have hy := k18g hR (hgs.trans h1)
        rw [if_neg (by simp [Region.wanted, hgo, hy])]
        exact skip h2 h3
      obtain ⟨t, h1, h2, h3⟩ := hgd
      have hy := ktf hR (hgs.trans h1)
      by_cases htb : t = b
      · rw [if_pos (by simp [Region.wanted, hgo, hy, htb])]
        exact .inl (run (h2 htb))
      · rw [if_neg (by simp [Region.wanted, hgo, hy, htb])]
        obtain ⟨h4, h5⟩ := h3 htb
        exact skip h4 h5
end
end Go.Bv
namespace Go.Bv
open Go.RowKit
section
variable (P : Program) (N : Nat) (tb : List (Option Nat)) (d : Option Nat) (ty : TypeId) (p : String) (af : Array Edge) (r : List Oper) (K : St → Prop) (s : St)
def Callable (P : Program) (g : FuncId) : Prop := (P.funcs[g]?.bind (·.body)).isSome = true ∧ P.funcs[g]?.map (·.name) ≠ some "runtime.NumGoroutine"
end
end Go.Bv
namespace Go.Bv
open Go.RowKit
def wsL (ws : List (Nat × Nat)) (af : Array Edge) (id : Nat) : Prop := ∀ p ∈ ws, p.1 = id → edgeB af p.2 = true
def wrOk (nb S k : Nat) (ws rs : List (Nat × Nat)) (af : Array Edge) (h : Hp) (ids : List Nat) : Prop :=
  ∀ id ∈ ids, wsL ws af id ∧ wsL rs af id ∧ id < frs nb S (k + 1) ∧ (frs nb S k ≤ id ∨ (h.get id).isSome = true)
def rdOk (ws : List (Nat × Nat)) (af : Array Edge) (ids : List Nat) : Prop := ∀ id ∈ ids, wsL ws af id
def keys (h : Hp) : List Nat := h.map (·.1)
theorem kpu (h : Hp) (id : Nat) : (h.get id).isSome = true ↔ id ∈ keys h := by
  unfold keys
  induction h with
  | nil => simp [Hp.get]
  | cons p r ih =>
    obtain ⟨i, o⟩ := p
    simp only [Hp.get, List.map_cons, List.mem_cons]
    split
    · rename_i h; simp [h]
    · rename_i h; rw [ih]; simp [h]
def DOps (P : Program) (N : Nat) (tb : List (Option Nat)) (nb S : Nat) : List (Nat × Nat) → List (Nat × Nat) → Nat → List Oper → (St → Prop) → St → Prop
  | _, _, _, [], K, s => K s
  | ws, rs, k, o :: r, K, s => ∃ e, stepD P N tb nb S k o e s ∧ (wrOk nb S k ws rs o.after s.h (keys e.hu) ∧ rdOk ws o.after e.rd) ∧ DOps P N tb nb S ((keys e.hu).map (·, k) ++ ws) (e.rd.map (·, k) ++ rs) (k + 1) r K (e.app s)
theorem kvm {af : Array Edge} {k : Nat} (h : edgeB af k = true) : ∃ e ∈ af, Region.binds .any e = true ∧ e.on = k := by
  unfold edgeB at h
  obtain ⟨e, he, h1⟩ := Array.any_eq_true'.1 h
  simp only [Bool.and_eq_true, beq_iff_eq] at h1
  exact ⟨e, he, h1.1, h1.2⟩
theorem dops_es {P : Program} {N : Nat} {tb : List (Option Nat)} {nb S : Nat} : ∀ (l : List Oper) (ws rs : List (Nat × Nat)) (k : Nat) (K : St → Prop) (s : St), DOps P N tb nb S ws rs k l K s →
    ∃ es : List Eff, es.length = l.length ∧ K (es.foldl (fun s e => e.app s) s) ∧
      (∀ (i : Nat) (o : Oper) (e : Eff), l[i]? = some o → es[i]? = some e → stepD P N tb nb S (k + i) o e ((es.take i).foldl (fun s e => e.app s) s)) ∧
      (∀ (i j : Nat) (ei ej : Eff) (oj : Oper) (id : Nat), i < j → es[i]? = some ei → es[j]? = some ej → l[j]? = some oj → (((Hp.get ei.hu id).isSome = true ∧ ((Hp.get ej.hu id).isSome = true ∨ id ∈ ej.rd)) ∨ (id ∈ ei.rd ∧ (Hp.get ej.hu id).isSome = true)) → ∃ e ∈ oj.after, Region.binds .any e = true ∧ e.on = k + i) ∧
      (∀ (j : Nat) (ej : Eff) (oj : Oper) (id : Nat), es[j]? = some ej → l[j]? = some oj → ((Hp.get ej.hu id).isSome = true ∨ id ∈ ej.rd) → ∀ p ∈ ws, p.1 = id → ∃ e ∈ oj.after, Region.binds .any e = true ∧ e.on = p.2) ∧
      (∀ (j : Nat) (ej : Eff) (oj : Oper) (id : Nat), es[j]? = some ej → l[j]? = some oj → (Hp.get ej.hu id).isSome = true → ∀ p ∈ rs, p.1 = id → ∃ e ∈ oj.after, Region.binds .any e = true ∧ e.on = p.2) ∧
      (∀ (j : Nat) (e : Eff) (id : Nat), es[j]? = some e → (Hp.get e.hu id).isSome = true → id < frs nb S (k + j + 1)) ∧
      (∀ (j : Nat) (e : Eff) (id : Nat), es[j]? = some e → (Hp.get e.hu id).isSome = true → frs nb S (k + j) ≤ id ∨ ((es.take j).foldl (fun s e => e.app s) s).h.get id ≠ none)
  | [], ws, rs, k, K, s, h => ⟨[], rfl, h, by simp, by simp, by simp, by simp, by simp, by simp⟩
  | o :: l, ws, rs, k, K, s, h => by
    obtain ⟨e, h1, ⟨h2, h2r⟩, h3⟩ := h
    obtain ⟨es, g1, g2, g3, g4, g5, g6, g7, g8⟩ := dops_es l _ _ (k + 1) K _ h3
    refine ⟨e :: es, by simp [g1], g2, ?_, ?_, ?_, ?_, ?_, ?_⟩
    · intro i o' e' ho he
      cases i with
      | zero => simp at ho he; subst ho; subst he; simpa using h1
      | succ i =>
        simp at ho he
        have := g3 i o' e' ho he
        rw [show k + (i + 1) = k + 1 + i by omega]
        simpa using this
    · intro i j ei ej oj id hij hi hj hoj hc
      cases j with
      | zero => omega
      | succ j =>
        simp at hj hoj
        cases i with
        | zero =>
          simp at hi
          subst hi
          rcases hc with ⟨c1, c2⟩ | ⟨c1, c2⟩
          · have := g5 j ej oj id hj hoj c2 (id, k) (List.mem_append_left _ (List.mem_map.2 ⟨id, (kpu _ _).1 c1, rfl⟩)) rfl
            simpa using this
          · have := g6 j ej oj id hj hoj c2 (id, k) (List.mem_append_left _ (List.mem_map.2 ⟨id, c1, rfl⟩)) rfl
            simpa using this
        | succ i =>
          simp at hi
          have := g4 i j ei ej oj id (by omega) hi hj hoj hc
          rw [show k + (i + 1) = k + 1 + i by omega]
          exact this
    · intro j ej oj id hj hoj hc p hp hpi
      cases j with
      | zero =>
        simp at hj hoj
        subst hj
        subst hoj
        rcases hc with hc | hc
        · exact kvm ((h2 id ((kpu _ _).1 hc)).1 p hp hpi)
        · exact kvm (h2r id hc p hp hpi)
      | succ j =>
        simp at hj hoj
        exact g5 j ej oj id hj hoj hc p (List.mem_append_right _ hp) hpi
    · intro j ej oj id hj hoj hc p hp hpi
      cases j with
      | zero =>
        simp at hj hoj
        subst hj
        subst hoj
        exact kvm ((h2 id ((kpu _ _).1 hc)).2.1 p hp hpi)
      | succ j =>
        simp at hj hoj
        exact g6 j ej oj id hj hoj hc p (List.mem_append_right _ hp) hpi
    · intro j e' id hj hc
      cases j with
      | zero =>
        simp at hj
        subst hj
        exact (h2 id ((kpu _ _).1 hc)).2.2.1
      | succ j =>
        simp at hj
        have := g7 j e' id hj hc
        rw [show k + (j + 1) + 1 = k + 1 + j + 1 by omega]
        exact this
    · intro j e' id hj hc
      cases j with
      | zero =>
        simp at hj
        subst hj
        rcases (h2 id ((kpu _ _).1 hc)).2.2.2 with h | h
        · exact .inl h
        · exact .inr (by simpa using Option.isSome_iff_ne_none.1 h)
      | succ j =>
        simp at hj
        have := g8 j e' id hj hc
        rw [show k + (j + 1) = k + 1 + j by omega]
        simpa using this
section
variable {P : Program} {T : Tk} {G0 : Gh} {w0 : World} {N : Nat} {s : St} {Q : Exit → St → Prop}
theorem stE_all (es : List Eff) : ∀ (k : Nat) (s : St), stE (fun _ => true) es k s = es.foldl (fun s e => e.app s) s := by
  induction es with
  | nil => intro _ _; rfl
  | cons e es ih => intro k s; rw [stE, ih]; rfl
theorem k1py (E : Nat → Bool) (es : List Eff) : ∀ (k : Nat) (s : St), (∀ n, k ≤ n → n < k + es.length → E n = false) → stE E es k s = s := by
  induction es with
  | nil => intro _ _ _; rfl
  | cons e es ih =>
    intro k s h
    rw [stE, ih (k + 1) _ (fun n h1 h2 => h n (by omega) (by simp; omega)), h k (Nat.le_refl _) (by simp)]
    rfl
theorem k1ow (S : Nat) {id : Nat} {l : List Oper} (hm : P.follows .mixedOrders = true) (hB : Region.lexB .any l.toArray = true)
    (h : ∀ K : St → Prop, (∀ s', Q .normal s' → K s') → DOps P N (l.map (·.dst)) s.nx S [] [] 0 l K ⟨s.sl, s.h, s.nx + l.length * S⟩) : Sat P T G0 w0 N (.region id l.toArray true) s Q := by
  intro G a w hR
  obtain ⟨es, g1, g2, g3, g4, _, _, g7, g8⟩ := dops_es l [] [] 0 (Q .normal) _ (h _ fun _ h => h)
  have hRd : R T G0 w0 N s a G { w with drawn := w.drawn + 1 } := hR.drew
  obtain ⟨G', hR', hG'⟩ := hRd.raise (l.length * S)
  refine wp_region_any hm ?_
  have hrep : ∀ n, (Array.replicate l.length false).getD n false = false := fun n => by
    rw [Array.getD_eq_getD_getElem?, Array.getElem?_replicate]
    split <;> rfl
  have hpre : ∀ i, stE (fun k => decide (k < i)) es 0 ⟨s.sl, s.h, s.nx + l.length * S⟩ = (es.take i).foldl (fun s e => e.app s) ⟨s.sl, s.h, s.nx + l.length * S⟩ := fun i => by
    have hp := k1nx es i 0 ⟨s.sl, s.h, s.nx + l.length * S⟩
    simpa only [Nat.zero_add] using hp
  have hmain := drawn (P := P) (T := T) (G0 := G0) (w0 := w0) (N := N) (l := l) (es := es) (s0 := ⟨s.sl, s.h, s.nx + l.length * S⟩) (nb := s.nx) (S := S) (Q := fun e a' w' => ∃ s' G', Q e s' ∧ R T G0 w0 N s' a' G' w') g1 rfl
    (fun k hk => by
      cases hg : s.h.get k with
      | none => rfl
      | some ob => have := hR.wr.hid _ _ hg; omega)
    (fun i o e ho he => by
      have := g3 i o e ho he
      simp only [Nat.zero_add] at this
      rw [hpre]
      exact this) hB
    (fun i j ei ej oj id hij hi hj hoj h1 => by simpa using g4 i j ei ej oj id hij hi hj hoj h1)
    (fun j e id hj h1 => by simpa using g7 j e id hj h1)
    (fun j e id hj h1 => by rw [hpre]; simpa using g8 j e id hj h1)
    (fun a' G'' w' hRR => ⟨_, G'', g2, by rw [← stE_all es 0]; exact hRR⟩)
    l.length (Array.replicate l.length false) a G' { w with drawn := w.drawn + 1 } (by simp)
    (fun j oj _ hj => by rw [hrep] at hj; cases hj)
    (by
      rw [k1py _ es 0 _ (fun n _ _ => hrep n)]
      exact hR')
    (fun k _ _ id hid _ => hG' _ (by unfold frs at hid; omega))
    (by
      have := List.length_filter_le (fun i => !(Array.replicate l.length false).getD i false) (List.range l.length)
      simpa using this)
  simpa using hmain
end
section
variable (P : Program) (N : Nat) (tb : List (Option Nat)) (nb S : Nat) (ws rs : List (Nat × Nat)) (k : Nat) (d : Option Nat) (ty : TypeId) (p : String) (af : Array Edge) (r : List Oper) (K : St → Prop) (s : St)
end
section
variable {P : Program} {N : Nat} {tb : List (Option Nat)} {nb S : Nat} {ws rs : List (Nat × Nat)} {k : Nat} {d : Option Nat} {ty : TypeId} {p : String} {af : Array Edge} {r : List Oper} {K : St → Prop} {s : St}
end
end Go.Bv
namespace Go.Bv
open Go.RowKit
def storeO (x : V) (n : Nat) (off : Nat) : Option Ob → Prop
  | some (.cells l) => x.flat n ∧ off + n ≤ l.length
  | _ => False
theorem k1ob (a : Bool) (n : Nat) (h : Hp) (x : V) (id off : Nat) : storeOk (some (a, n)) h x (.ptr id off) = storeO x n off (h.get id) := by
  cases hh : h.get id with
  | none => simp [storeOk, storeO, hh]
  | some o => cases o <;> simp [storeOk, storeO, hh]
def storeHO (h : Hp) (x : V) (id off : Nat) : Option Ob → Hp
  | some (.cells l) => (id, .cells (setAt l off x.cells)) :: h
  | _ => h
theorem k1pr (h : Hp) (x : V) (id off : Nat) : storeH h x (.ptr id off) = storeHO h x id off (h.get id) := by
  cases hh : h.get id with
  | none => simp [storeH, storeHO, hh]
  | some o => cases o <;> simp [storeH, storeHO, hh]
theorem r_toDs1 (x : V) (l : List V) : toDs (x :: l) = (x.toD).bind fun d => (toDs l).bind fun ds => some (d :: ds) := by
  simp only [toDs, List.mapM_cons]; rfl
theorem k156 (l : List V) (h : ∀ x ∈ l, x.one = true) : leL l l := by
  induction l with
  | nil => trivial
  | cons x l ih => exact ⟨⟨k3v x, h x (by simp)⟩, ih (fun y hy => h y (by simp [hy]))⟩
theorem le_any (x : V) : le x .any = True := by cases x <;> simp [le, le0, le1]
end Go.Bv
namespace Go.Bv
open Go.RowKit
section
variable {P : Program} {T : Tk} {G0 G : Gh} {w0 w : World} {N : Nat} {s : St} {a : Act}
theorem R.reslot (hR : R T G0 w0 N s a G w) (t : Nat) {y : V} (hv : RepV G w s.h s.nx (a.tmps.getD t undef) y) : R T G0 w0 N ⟨(t, y) :: s.sl, s.h, s.nx⟩ a G w :=
  ⟨hR.fr, hR.wr, hR.df, hR.sz, fun u => by
    simp only [getS]
    split
    · rename_i h; subst h; exact hv
    · exact hR.sl u, hR.ex⟩
theorem R.recell (hR : R T G0 w0 N s a G w) {id j : Nat} {l : List V} {x y : V} (hg : s.h.get id = some (.cells l)) (hx : l[j]? = some x) (hy : y.one = true) (hv : ∀ v, RepV G w s.h s.nx v x → RepV G w s.h s.nx v y) :
    R T G0 w0 N ⟨s.sl, (id, .cells (l.set j y)) :: s.h, s.nx⟩ a G w := by
  have hw := hR.wr
  have he : Ext G w s.h s.nx G w ((id, .cells (l.set j y)) :: s.h) s.nx := by
    refine ⟨Mono.refl _ _, Nat.le_refl _, fun _ _ _ h => h, fun tok t' _ h1 => ?_, fun _ _ h => h⟩
    simp only [Hp.get] at h1
    split at h1
    · cases h1
    · exact ⟨t', h1, Nat.le_refl _, fun _ _ hb => ⟨hb, rfl, rfl⟩⟩
  refine ⟨hR.fr, ⟨?_, hw.mob.ext he (fun i es hgo => ?_) hw.hid (fun _ _ _ _ _ => rfl), hw.here, fun i k b hi hk h1 h2 l1 l2 => hw.inj i k b hi hk h1 h2 (kjz (k57 hg) l1) (kjz (k57 hg) l2), ?_, hw.lim⟩, hR.df, hR.sz, fun t => (hR.sl t).ext he, hR.ex.ext he⟩
  · intro i l' hl'
    simp only [Hp.get] at hl'
    split at hl'
    · rename_i hi
      subst hi
      injection hl' with hl'
      injection hl' with hl'
      subst hl'
      obtain ⟨b, e, cs, h1, h2, h3, h4, h5, h6⟩ := hw.obj i l hg
      refine ⟨b, e, cs, h1, h2, h3, by simpa using h4, fun z hz => ?_, fun k v z hkv hz => ?_⟩
      · rcases List.mem_or_eq_of_mem_set hz with h | h
        · exact h5 z h
        · rw [h]; exact hy
      · rw [List.getElem?_set] at hz
        split at hz
        · rename_i hk
          subst hk
          split at hz
          · injection hz with hz
            subst hz
            exact (hv v (h6 j v x hkv hx)).ext he
          · cases hz
        · exact (h6 k v z hkv hz).ext he
    · obtain ⟨b, e, cs, h1, h2, h3, h4, h5, h6⟩ := hw.obj i l' hl'
      exact ⟨b, e, cs, h1, h2, h3, h4, h5, fun k v x hv hx => (h6 k v x hv hx).ext he⟩
  · simp only [Hp.get] at hgo
    split at hgo
    · cases hgo
    · exact hgo
  · intro i ob hgo
    simp only [Hp.get] at hgo
    split at hgo
    · rename_i h; subst h; exact hw.hid _ _ hg
    · exact hw.hid _ _ hgo
def growsFrom (sz : Nat) (l : List D) : V → Prop
  | .full z m => z = sz ∧ m = l
  | .k (.slice none 0 0) => l = []
  | _ => False
theorem R.tok (hR : R T G0 w0 N s a G w) (sz : Nat) (l : List D) :
    ∃ G', R T G0 w0 N ⟨s.sl, (s.nx, .tip l.length) :: s.h, s.nx + 1⟩ a G' w ∧ ∀ x v, growsFrom sz l x → RepV G' w ((s.nx, .tip l.length) :: s.h) (s.nx + 1) v x → RepV G' w ((s.nx, .tip l.length) :: s.h) (s.nx + 1) v (.own s.nx sz l) := by
  have hw := hR.wr
  let G' : Gh := ⟨fun i => if i = s.nx then none else G.loc i, fun i => if i = s.nx then none else G.tloc i, G.lim⟩
  have hlo : ∀ i, i < s.nx → G'.loc i = G.loc i ∧ G'.tloc i = G.tloc i := fun i hi => by simp [G', show i ≠ s.nx by omega]
  have hh : ∀ i, i ≠ s.nx → Hp.get ((s.nx, .tip l.length) :: s.h) i = s.h.get i := fun i hi => by simp [Hp.get, hi]
  have he : Ext G w s.h s.nx G' w ((s.nx, .tip l.length) :: s.h) (s.nx + 1) :=
    ⟨Mono.refl _ _, by omega, fun id b hi hb => by rw [(hlo id hi).1]; exact hb, fun tok t' ht h1 => by
      rw [hh tok (by omega)] at h1
      exact ⟨t', h1, Nat.le_refl _, fun _ b hb => ⟨by rw [(hlo tok ht).2]; exact hb, rfl, rfl⟩⟩, fun _ _ h => h⟩
  have hsome : ∀ i b, i < s.nx + 1 → (G'.loc i = some b ∨ G'.tloc i = some b) → i < s.nx ∧ (G.loc i = some b ∨ G.tloc i = some b) := by
    intro i b hi hb
    by_cases hin : i = s.nx
    · subst hin; simp [G'] at hb
    · have hi' : i < s.nx := by omega
      rw [(hlo i hi').1, (hlo i hi').2] at hb
      exact ⟨hi', hb⟩
  refine ⟨G', ⟨⟨hR.fr.os, hR.fr.tape, hR.fr.output, hR.fr.size, hR.fr.same, hR.fr.mono⟩, ⟨?_, hw.mob.ext he (fun i es hgo => ?_) hw.hid (fun _ _ _ _ _ => rfl), ?_, ?_, ?_, hw.lim⟩, hR.df, hR.sz, fun t => (hR.sl t).ext he, hR.ex.ext he⟩, fun x v hg hv => ?_⟩
  · intro id l' hl'
    simp only [Hp.get] at hl'
    split at hl'
    · cases hl'
    · obtain ⟨b, e', cs', h1, h2, h3, h4, h5, h6⟩ := hw.obj id l' hl'
      have hid := hw.hid id _ hl'
      exact ⟨b, e', cs', by rw [(hlo id hid).1]; exact h1, h2, h3, h4, h5, fun j v x hv hx => (h6 j v x hv hx).ext he⟩
  · simp only [Hp.get] at hgo
    split at hgo
    · cases hgo
    · exact hgo
  · intro id b hid hb
    obtain ⟨h1, h2⟩ := hsome id b hid hb
    exact hw.here id b h1 h2
  · intro i j b hi hj hbi hbj li lj
    obtain ⟨h1, h2⟩ := hsome i b hi hbi
    obtain ⟨h3, h4⟩ := hsome j b hj hbj
    exact hw.inj i j b h1 h3 h2 h4 (live_eq (hh i (by omega)) li) (live_eq (hh j (by omega)) lj)
  · intro id ob hg
    show id < s.nx + 1
    simp only [Hp.get] at hg
    split at hg
    · omega
    · have := hw.hid id ob hg; omega
  · have main : ∃ A, v = .slice A l.length l.length ∧ RepD G'.lim w v (.slice sz l) := by
      cases x with
      | full z m => obtain ⟨rfl, rfl⟩ := hg; exact hv.full_inv
      | k u =>
        unfold growsFrom at hg
        split at hg
        · rename_i h; cases h
        · subst hg; rw [hv.k_inv]; exact ⟨none, by simp_all, by simp_all; exact .nil none sz⟩
        · exact hg.elim
      | _ => exact hg.elim
    obtain ⟨A, hA, hd⟩ := main
    refine .own _ _ _ _ hd (by omega) fun t' ht' => ?_
    simp only [Hp.get, if_true, Option.some.injEq, Ob.tip.injEq] at ht'
    rw [hA]
    exact ⟨by omega, fun _ => .inl rfl⟩
end
section
variable {P : Program} {T : Tk} {G0 : Gh} {w0 : World} {N : Nat} {tb : List (Option Nat)} {d : Option Nat} {ty : TypeId} {p : String} {af : Array Edge} {r : List Oper} {K : St → Prop} {s : St} {Q : Exit → St → Prop}
theorem k1oo {c : Operand} {x y : Code} (hc : s.ev c = .d (.bool true)) (ht : Sat P T G0 w0 N x s Q) : Sat P T G0 w0 N (.cond c x y) s Q := k16f hc (fun _ => ht) (fun h => by cases h)
theorem k1on {c : Operand} {x y : Code} (hc : s.ev c = .d (.bool false)) (hf : Sat P T G0 w0 N y s Q) : Sat P T G0 w0 N (.cond c x y) s Q := k16f hc (fun h => by cases h) (fun _ => hf)
def selfP : Nat → Nat → List Nat → Prop
  | _, 0, _ => True
  | i, n + 1, a :: r => a = i ∧ selfP (i + 1) n r
  | _, _ + 1, [] => False
theorem k18b : ∀ (n k : Nat) (r : List Nat), selfP k n r → ∀ i, i < n → r[i]? = some (k + i)
  | 0, _, _, _, i, hi => by omega
  | n + 1, k, [], h, _, _ => h.elim
  | n + 1, k, a :: r, h, i, hi => by
    cases i with
    | zero => simp [h.1]
    | succ i => rw [List.getElem?_cons_succ, k18b n (k + 1) r h.2 i (by omega)]; congr 1; omega
theorem retN (ρ : List Nat) {np : Nat} {post : List Ob} {rs : List ResultVar} {rv : V} (h : allOk P s rs ∧ le (retV (rs.map (resV P s))) (ren (rh ρ) rv) ∧ ok post.length rv ∧ noTup rv ∧ postOk s.h (rh ρ) post.length s.nx ρ post ∧ ρ.Nodup ∧ np ≤ post.length ∧ selfP 0 np ρ) : RetA P rs rv np post s :=
  ⟨h.1, ρ, h.2.1, h.2.2.1, h.2.2.2.1, h.2.2.2.2.1, h.2.2.2.2.2.1, h.2.2.2.2.2.2.1, fun i hi => by have := k18b np 0 ρ h.2.2.2.2.2.2.2 i hi; simpa using this⟩
end
end Go.Bv
namespace Go.Md
open Go Go.Bv
def ix {α : Type} [Inhabited α] (l : List α) (i : Int) : α := (l[i.toNat]?).getD default
structure Loop {σ : Type} (s0 : σ) (body : (σ → Prop) → σ → Prop) : Prop where
  ex : ∃ (inv : σ → Prop) (μ : σ → Nat), inv s0 ∧ ∀ s, inv s → body (fun s' => inv s' ∧ μ s' < μ s) s
theorem wrap_u64 (n : Int) (h0 : 0 ≤ n) (h : n < 18446744073709551616) : IntKind.u64.wrap n = n := IntWalk.u64_in n ⟨h0, by omega⟩
theorem k1j7 (n : Int) (h0 : -9223372036854775808 ≤ n) (h : n < 9223372036854775808) : IntKind.i64.wrap n = n := IntWalk.i64_in n ⟨by omega, by omega⟩
def rowOver {α : Type} (l m : List α) (n : Nat) : List α := m.take (min m.length n) ++ l.drop (min m.length n)
end Go.Md
namespace Go.Bv
open Go.RowKit Go.Md
theorem elt_ix {α : Type} [Inhabited α] (f : α → D) (l : List α) (i : Int) (h0 : 0 ≤ i) (h1 : i < (l.length : Int)) : elt (l.map f) i.toNat = f (ix l i) := by
  have : i.toNat < l.length := by omega
  simp [elt, ix, this]
theorem k15y {G : Gh} {w : World} {h : Hp} {nx : Nat} {v : Value} {k : IntKind} {n : Int} (hv : RepV G w h nx v (.d (.int k n))) : v = .int k n := by
  cases hv with | d _ _ hd => cases hd; rfl
theorem k1pj {G : Gh} {w : World} {h : Hp} {nx : Nat} (k k' : IntKind) (a b : Int) : RepV G w h nx (.tuple #[.int k a, .int k' b]) (.tup [.d (.int k a), .d (.int k' b)]) := by
  refine .tup [.int k a, .int k' b] _ rfl fun j v x hv hx => ?_
  match j with
  | 0 => simp at hv hx; subst hv; subst hx; exact .d _ _ (.int _ _)
  | 1 => simp at hv hx; subst hv; subst hx; exact .d _ _ (.int _ _)
  | j + 2 => simp at hv
theorem k1m5 {P : Program} {f : FuncId} {fn : Func} (hf : P.funcs[f]? = some fn) (hname : (fn.name == "runtime.NumGoroutine") = false) (hb : fn.body.isNone = true) (hn : Extern.findNext fn = none) (he : Extern.find fn = some add64Entry)
    (x y c : Int) (hx : 0 ≤ x) (hy : 0 ≤ y) (hc0 : 0 ≤ c) (hc : c ≤ 1) :
    SoundX P f [.d (.int .u64 x), .d (.int .u64 y), .d (.int .u64 c)] (.tup [.d (.int .u64 ((x + y + c) % 18446744073709551616)), .d (.int .u64 ((x + y + c) / 18446744073709551616))]) := by
  intro G w h nx vs hl hr
  match vs, hl with
  | [v0, v1, v2], _ =>
    have e0 := k15y (hr 0 v0 _ rfl rfl)
    have e1 := k15y (hr 1 v1 _ rfl rfl)
    have e2 := k15y (hr 2 v2 _ rfl rfl)
    subst e0; subst e1; subst e2
    refine ⟨_, ?_, k1pj _ _ _ _⟩
    rw [run_callFunc_extern hf hname hb hn he]
    show ((add64Entry #[.int .u64 x, .int .u64 y, .int .u64 c]).run P w).andThen _ = _
    rw [run_add64 x y c hx hy hc0 hc w]
    rfl
end Go.Bv
namespace Go.Cv
open Go Go.Bv Go.RowKit Go.Md
inductive Ty where
  | int (k : IntKind)
  | bool
  | str
  | sl (e : Ty)
  | st (n : Nat)
def Ty.beq : Ty → Ty → Bool
  | .int k, .int k' => decide (k = k')
  | .bool, .bool => true
  | .str, .str => true
  | .sl a, .sl b => a.beq b
  | .st n, .st m => Nat.beq n m
  | _, _ => false
theorem Ty.eq_of_beq : ∀ {a b : Ty}, a.beq b = true → a = b
  | .int k, .int k', h => by simp [Ty.beq] at h; rw [h]
  | .bool, .bool, _ => rfl
  | .str, .str, _ => rfl
  | .sl a, .sl b, h => by rw [Ty.eq_of_beq (a := a) (b := b) h]
  | .st n, .st m, h => by rw [Nat.eq_of_beq_eq_true (n := n) (m := m) h]
  | .int _, .bool, h => by cases h
  | .int _, .str, h => by cases h
  | .int _, .sl _, h => by cases h
  | .int _, .st _, h => by cases h
  | .bool, .int _, h => by cases h
  | .bool, .str, h => by cases h
  | .bool, .sl _, h => by cases h
  | .bool, .st _, h => by cases h
  | .str, .int _, h => by cases h
  | .str, .bool, h => by cases h
  | .str, .sl _, h => by cases h
  | .str, .st _, h => by cases h
  | .sl _, .int _, h => by cases h
  | .sl _, .bool, h => by cases h
  | .sl _, .str, h => by cases h
  | .sl _, .st _, h => by cases h
  | .st _, .int _, h => by cases h
  | .st _, .bool, h => by cases h
  | .st _, .str, h => by cases h
  | .st _, .sl _, h => by cases h
def Ty.agg : Ty → Bool
  | .st _ => true
  | _ => false
def Ty.prim : Ty → Bool
  | .st _ => false
  | .sl _ => false
  | _ => true
def Ty.den (S : Nat → Type) : Ty → Type
  | .int _ => Int
  | .bool => Bool
  | .str => ByteArray
  | .sl e => List (e.den S)
  | .st n => S n
def HL (S : Nat → Type) : List Ty → Type
  | [] => Unit
  | t :: r => t.den S × HL S r
def Ty.cast (F : Ty → Type) (a b : Ty) (x : F a) : Option (F b) := if h : a.beq b = true then some (Ty.eq_of_beq h ▸ x) else none
theorem Ty.cast_some {F : Ty → Type} {a b : Ty} {x : F a} {y : F b} (h : Ty.cast F a b x = some y) : ∃ e : a = b, e ▸ x = y := by
  unfold Ty.cast at h
  split at h
  · rename_i hb; injection h with h; exact ⟨Ty.eq_of_beq hb, h⟩
  · cases h
structure Tab where
  den : Nat → Type
  inh : ∀ n, den n
  tys : Nat → List Ty
  cells : ∀ n, den n → HL den (tys n)
  pack : ∀ n, HL den (tys n) → den n
  enc : ∀ n, den n → D
def Tab.sz (T : Tab) : Ty → Nat
  | .st n => (T.tys n).length
  | _ => 1
def Tab.e (T : Tab) : (t : Ty) → t.den T.den → D
  | .int k, n => .int k n
  | .bool, b => .bool b
  | .str, s => .str s
  | .sl e, l => .slice (T.sz e) (List.map (T.e e) l)
  | .st n, x => T.enc n x
def Tab.eL (T : Tab) : (ts : List Ty) → HL T.den ts → List D
  | [], _ => []
  | t :: r, x => T.e t x.1 :: T.eL r x.2
def Tab.dflt (T : Tab) : (t : Ty) → t.den T.den
  | .int _ => (0 : Int)
  | .bool => false
  | .str => ByteArray.empty
  | .sl _ => []
  | .st n => T.inh n
structure Tab.Ok (T : Tab) : Prop where
  one : ∀ n, (T.tys n).all (fun t => !t.agg) = true
  pc : ∀ n x, T.cells n (T.pack n x) = x
  en : ∀ n x, T.enc n x = .agg (T.eL (T.tys n) (T.cells n x))
structure TD (S : Nat → Type) where
  t : Ty
  x : t.den S
inductive TV (S : Nat → Type) where
  | any
  | k (v : Value)
  | lit (b : Bool)
  | d (t : Ty) (x : t.den S)
  | full (e : Ty) (l : List (e.den S))
  | own (tok : Nat) (e : Ty) (l : List (e.den S))
  | ptr (id off : Nat)
  | aptr (id off n : Nat) (i : Int)
  | ro (l : List (TD S))
  | row (id : Nat) (e : Ty) (len : Nat)
  | eptr (id : Nat) (e : Ty) (i : Int) (off : Nat)
  | agg (l : List (TV S))
  | tup (l : List (TV S))
inductive TOb (S : Nat → Type) where
  | cells (l : List (TV S))
  | tip (e : Ty) (l : List (e.den S))
  | vec (e : Ty) (l : List (e.den S))
  | dead
abbrev THp (S : Nat → Type) := List (Nat × TOb S)
structure TSt (S : Nat → Type) where
  sl : List (Nat × TV S)
  h : THp S
  nx : Nat
section
variable {S : Nat → Type}
def TD.v (d : TD S) : TV S := .d d.t d.x
def getT : List (Nat × TV S) → Nat → TV S
  | [], _ => .any
  | p :: r, j => bif Nat.beq j p.1 then p.2 else getT r j
def getH : THp S → Nat → Option (TOb S)
  | [], _ => none
  | p :: r, j => bif Nat.beq j p.1 then some p.2 else getH r j
def TSt.put (s : TSt S) : Option Nat → TV S → TSt S
  | some t, x => ⟨(t, x) :: s.sl, s.h, s.nx⟩
  | none, _ => s
def tofK1 : Value → TV S
  | .int q n => .d (.int q) n
  | .bool b => .lit b
  | .string s => .d .str s
  | v => bif v.oneCell' then .k v else .any
def tofK : Value → TV S
  | .agg cs => bif cs.all (·.oneCell') then .agg (cs.toList.map tofK1) else .any
  | v => tofK1 v
def TSt.ev (s : TSt S) : Operand → TV S
  | .tmp t => getT s.sl t
  | .const v => tofK v
  | .global _ => .any
  | .func f => .k (.func (.func f) #[] #[])
def castL (a b : Ty) (l : List (a.den S)) : Option (List (b.den S)) := Ty.cast (fun t => List (t.den S)) a b l
def TV.one : TV S → Bool
  | .any => false
  | .k v => v.oneCell'
  | .d t _ => !t.agg
  | .agg _ => false
  | .tup _ => false
  | _ => true
def TV.asI : TV S → Option (IntKind × Int)
  | .d (.int q) n => some (q, n)
  | _ => none
def TV.cells : TV S → List (TV S)
  | .agg l => l
  | v => [v]
end
section
variable (T : Tab)
def TD.e (d : TD T.den) : D := T.e d.t d.x
def er1 : TV T.den → V
  | .any => .any
  | .k v => .k v
  | .lit b => .d (.bool b)
  | .d t x => .d (T.e t x)
  | .full e l => .full (T.sz e) (l.map (T.e e))
  | .own tok e l => .own tok (T.sz e) (l.map (T.e e))
  | .ptr id off => .ptr id off
  | .aptr id off _ i => .ptr id (off + i.toNat)
  | .ro l => .ro (l.map (TD.e T))
  | .row id e len => .row id 0 len (T.sz e)
  | .eptr id e i off => .ptr id (i.toNat * T.sz e + off)
  | .agg _ => .any
  | .tup _ => .any
def er0 : TV T.den → V
  | .agg l => .agg (l.map (er1 T))
  | v => er1 T v
def er : TV T.den → V
  | .tup l => .tup (l.map (er0 T))
  | v => er0 T v
def erO : TOb T.den → Ob
  | .cells l => .cells (l.map (er1 T))
  | .tip _ l => .tip l.length
  | .vec e l => .cells (((l.map (T.e e)).flatMap D.cells).map .d)
  | .dead => .dead
def erH (h : THp T.den) : Hp := h.map fun p => (p.1, erO T p.2)
end
def erS (T : Tab) (s : TSt T.den) : St := ⟨s.sl.map fun p => (p.1, er T p.2), erH T s.h, s.nx⟩
theorem nb_ne {a b : Nat} (h : a ≠ b) : Nat.beq a b = false := Bool.eq_false_iff.2 fun e => h (Nat.eq_of_beq_eq_true e)
theorem nb_self (a : Nat) : Nat.beq a a = true := Nat.beq_refl a
theorem nb_eq {a b : Nat} (h : Nat.beq a b = true) : a = b := Nat.eq_of_beq_eq_true h
section
variable {T : Tab}
theorem getS_er : ∀ (sl : List (Nat × TV T.den)) (t : Nat), getS (sl.map fun p => (p.1, er T p.2)) t = er T (getT sl t)
  | [], _ => rfl
  | p :: r, t => by
    simp only [List.map_cons, getS, getT]
    by_cases e : t = p.1
    · subst e; simp
    · rw [if_neg e, nb_ne e, cond_false]; exact getS_er r t
theorem getH_er : ∀ (l : THp T.den) (i : Nat), (erH T l).get i = (getH l i).map (erO T)
  | [], _ => rfl
  | p :: r, t => by
    show Hp.get ((p.1, erO T p.2) :: erH T r) t = _
    simp only [Hp.get, getH]
    by_cases e : t = p.1
    · subst e; simp
    · rw [if_neg e, nb_ne e, cond_false]; exact getH_er r t
theorem k68 (v : Value) : er1 T (tofK1 v) = V.ofK1 v := by
  cases v <;> simp only [tofK1, V.ofK1, er1] <;> first | rfl | skip
  all_goals (rename_i x; first | (cases x; simp [Value.oneCell', er1]; done) | simp [Value.oneCell', er1] | skip)
theorem er0_of1 {v : TV T.den} (hv : v.one = true) : er0 T v = er1 T v := by cases v <;> first | rfl | cases hv
theorem er_of1 {v : TV T.den} (hv : v.one = true) : er T v = er1 T v := by cases v <;> first | rfl | cases hv
end
end Go.Cv
namespace Go.Cv
open Go Go.Bv Go.RowKit Go.Md
inductive BT (α : Type) where
  | lf
  | nd (l : BT α) (k : Nat) (v : α) (r : BT α)
def BT.find {α : Type} : BT α → Nat → Option α
  | .lf, _ => none
  | .nd l k v r, j => bif Nat.beq j k then some v else bif Nat.ble j k then l.find j else r.find j
structure TI (S : Nat → Type) where
  ty : Option (Bool × Nat) := none
  fl : List (Nat × Bool × Nat) := []
  el : Option (Ty × Nat) := none
  ez : Bool := false
  ar : Option (Nat × Bool × Nat) := none
  ze : Option (List (TV S)) := none
  pl : List (Nat × Nat) := []
  un : Option TypeDesc := none
  eq : Option (List TypeDesc) := none
def TI.of {S : Nat → Type} (I : BT (TI S)) (t : TypeId) : TI S := (I.find t).getD {}
section
variable {S : Nat → Type}
def isNilK : Value → Bool
  | .slice none 0 0 => true
  | _ => false
def els (e : Ty) : TV S → Option (List (e.den S))
  | .d (.sl e') l => castL e' e l
  | .full e' l => castL e' e l
  | .own _ e' l => castL e' e l
  | .k v => bif isNilK v then some [] else none
  | _ => none
def TV.isB : TV S → Option Bool
  | .lit b => some b
  | .d .bool b => some b
  | _ => none
def toEl2 (t : Ty) : TV S → Option (t.den S)
  | .d t' x => Ty.cast (Ty.den S) t' t x
  | _ => none
def toEl1 : (t : Ty) → TV S → Option (t.den S)
  | .sl e, v => els e v
  | .bool, v => v.isB
  | .int k, v => toEl2 (.int k) v
  | .str, v => toEl2 .str v
  | .st _, _ => none
def tds : (ts : List Ty) → HL S ts → List (TD S)
  | [], _ => []
  | t :: r, x => ⟨t, x.1⟩ :: tds r x.2
def packL : (ts : List Ty) → List (TV S) → Option (HL S ts)
  | [], [] => some ()
  | t :: r, v :: vs => match toEl1 t v with
    | some x => match packL r vs with
      | some y => some (x, y)
      | none => none
    | none => none
  | _, _ => none
def colT (t : Ty) : List (TV S) → Option (List (t.den S))
  | [] => some []
  | .d t' x :: r => match Ty.cast (Ty.den S) t' t x with
    | some x => match colT t r with
      | some y => some (x :: y)
      | none => none
    | none => none
  | _ => none
def selI (K : TV S → Prop) (i : Int) (df : (t : Ty) → t.den S) : List (TV S) → Prop
  | .d t x :: r => bif t.agg then False else match colT t r with
    | some xs => K (.d t (@ix _ ⟨df t⟩ (x :: xs) i))
    | none => False
  | _ => False
def tPart (a : Bool) (n : Nat) (l : List (TV S)) (off : Nat) (K : TV S → Prop) : Prop := match a with
  | true => bif Nat.ble (off + n) l.length then K (.agg ((l.drop off).take n)) else False
  | false => match l[off]? with
    | some x => bif x.one then K x else False
    | none => False
def TV.tupB : TV S → Bool
  | .tup _ => true
  | _ => false
def TV.setL (l : List (TV S)) (off : Nat) (cs : List (TV S)) : List (TV S) := l.take off ++ cs ++ l.drop (off + cs.length)
def allOne : List (TV S) → Bool
  | [] => true
  | v :: r => v.one && allOne r
def litI : Operand → Bool
  | .const _ => true
  | _ => false
def ask (o : Operand) (C : Prop) [Decidable C] (K : Prop) : Prop := match litI o with
  | true => bif decide C then K else False
  | false => C ∧ K
def TV.toB : TV S → TV S
  | .lit b => .d .bool b
  | v => v
def tPick (c a b : TV S) (K : TV S → Prop) : Prop := match c with
  | .lit true => K a
  | .lit false => K b
  | .d .bool t => match a.toB, b.toB with
    | .d ta x, .d tb y => match Ty.cast (Ty.den S) tb ta y with
      | some y => K (.d ta (bif t then x else y))
      | none => False
    | _, _ => False
  | _ => False
def tInt (yo : Operand) (op : BinOp) (k k' : IntKind) (a b : Int) (K : TV S → Prop) : Prop := match op with
  | .shl => ask yo (0 ≤ b) (K (.d (.int k) (ishl k a b)))
  | .shr => ask yo (0 ≤ b) (K (.d (.int k) (ishr k a b)))
  | op => bif decide (k = k') then (match op with
    | .add => K (.d (.int k) (k.wrap (a + b)))
    | .sub => K (.d (.int k) (k.wrap (a - b)))
    | .mul => K (.d (.int k) (k.wrap (a * b)))
    | .quo => ask yo (b ≠ 0) (K (.d (.int k) (k.wrap (a.tdiv b))))
    | .rem => ask yo (b ≠ 0) (K (.d (.int k) (a.tmod b)))
    | .and => K (.d (.int k) (iand k a b))
    | .or => K (.d (.int k) (ior k a b))
    | .xor => K (.d (.int k) (ixor k a b))
    | .andNot => K (.d (.int k) (ianot k a b))
    | .eql => K (.d .bool (a == b))
    | .neq => K (.d .bool (a != b))
    | .lss => K (.d .bool (decide (a < b)))
    | .leq => K (.d .bool (decide (a ≤ b)))
    | .gtr => K (.d .bool (decide (b < a)))
    | .geq => K (.d .bool (decide (b ≤ a)))
    | _ => False) else False
def tEqB (op : BinOp) (e : Bool) (K : TV S → Prop) : Prop := match op with
  | .eql => K (.d .bool e)
  | .neq => K (.d .bool (!e))
  | _ => False
def tEqK (op : BinOp) (e : Bool) (K : TV S → Prop) : Prop := match op with
  | .eql => K (.lit e)
  | .neq => K (.lit (!e))
  | _ => False
def tEqL : List TypeDesc → List (TV S) → List (TV S) → Option Bool
  | [], [], [] => some true
  | .int k :: ts, .d (.int k1) a :: l, .d (.int k2) b :: m => bif decide (k1 = k2) && decide (k1 = k) then (match tEqL ts l m with
    | some e => some ((@BEq.beq Int _ a b) && e)
    | none => none) else none
  | .bool :: ts, x :: l, y :: m => match x.isB, y.isB, tEqL ts l m with
    | some a, some b, some e => some ((a == b) && e)
    | _, _, _ => none
  | _, _, _ => none
def TV.isNil : TV S → Bool
  | .k v => isNilK v
  | _ => false
def isPtrK : Value → Bool
  | .pointer none => true
  | _ => false
def tBin (ti : TI S) (yo : Operand) (op : BinOp) (x y : TV S) (K : TV S → Prop) : Prop := match x, y with
  | .d (.int k) a, .d (.int k') b => tInt yo op k k' a b K
  | .agg l, .agg m => match ti.eq with
    | some ts => match tEqL ts l m with
      | some e => tEqB op e K
      | none => False
    | none => False
  | .ptr _ _, .k v => bif isPtrK v then (match ti.un with
    | some (.pointer _) => tEqK op false K
    | _ => False) else False
  | .ro _, .k v => bif isPtrK v then (match ti.un with
    | some (.pointer _) => tEqK op false K
    | _ => False) else False
  | .k u, .k v => bif isPtrK u && isPtrK v then (match ti.un with
    | some (.pointer _) => tEqK op true K
    | _ => False) else False
  | .d .str a, .d .str b => tEqB op (a.toList == b.toList) K
  | x, y => match x.isB, y.isB, ti.un with
    | some a, some b, some .bool => tEqB op (a == b) K
    | _, _, _ => False
end
def byteAt (s : ByteArray) (i : Int) : Int := (((s[i.toNat]?).getD 0).toNat : Int)
section
variable (T : Tab)
def tcells : (e : Ty) → e.den T.den → List (TD T.den)
  | .st n, x => tds (T.tys n) (T.cells n x)
  | t, x => [⟨t, x⟩]
def toElS (n : Nat) : TV T.den → Option (T.den n)
  | .agg l => (packL (T.tys n) l).map (T.pack n)
  | _ => none
def toEl : (e : Ty) → TV T.den → Option (e.den T.den)
  | .st n, v => toElS T n v
  | .sl e, v => toEl1 (.sl e) v
  | .bool, v => toEl1 .bool v
  | .int k, v => toEl1 (.int k) v
  | .str, v => toEl1 .str v
def tLoad (ti : TI T.den) (h : THp T.den) (v : TV T.den) (K : TV T.den → Prop) : Prop := match ti.ty with
  | none => False
  | some (a, n) => match v with
    | .ptr id off => match getH h id with
      | some (.cells l) => tPart a n l off K
      | _ => False
    | .ro l => tPart a n (l.map TD.v) 0 K
    | .aptr id off m i => match a, getH h id with
      | false, some (.cells l) => bif Nat.ble (off + m) l.length then (0 ≤ i ∧ i < (m : Int)) ∧ selI K i T.dflt ((l.drop off).take m) else False
      | _, _ => False
    | .eptr id e i off => match getH h id with
      | some (.vec e' l) => bif e.beq e' then (0 ≤ i ∧ i < (l.length : Int)) ∧ tPart a n ((tcells T e' (@ix _ ⟨T.dflt e'⟩ l i)).map TD.v) off K else False
      | _ => False
    | _ => False
def tFaddr (ti : TI T.den) (f : Nat) (v : TV T.den) (K : TV T.den → Prop) : Prop := match ti.fl[f]? with
  | none => False
  | some (o, _, _) => match v with
    | .ptr id off => K (.ptr id (off + o))
    | .ro l => K (.ro (l.drop o))
    | .eptr id e i off => K (.eptr id e i (off + o))
    | _ => False
def tIaddr (ti : TI T.den) (io : Operand) (x i : TV T.den) (K : TV T.den → Prop) : Prop := match i.asI with
  | some (_, i) => match ti.el with
    | some (e, _) => match x with
      | .row id e' len => bif e'.beq e then (0 ≤ i ∧ i < (len : Int)) ∧ K (.eptr id e' i 0) else False
      | x => match els e x with
        | some l => ask io (0 ≤ i) (i < (l.length : Int) ∧ K (.ro (tcells T e (@ix _ ⟨T.dflt e⟩ l i))))
        | none => False
    | none => match ti.ar with
      | some (n, _, sz) => match litI io with
        | true => bif decide (0 ≤ i) && decide (i < (n : Int)) then (match x with
          | .ptr id off => K (.ptr id (off + i.toNat * sz))
          | .ro l => K (.ro (l.drop (i.toNat * sz)))
          | .eptr id e j off => K (.eptr id e j (off + i.toNat * sz))
          | _ => False) else False
        | false => match x with
          | .ptr id off => bif Nat.beq sz 1 then (0 ≤ i ∧ i < (n : Int)) ∧ K (.aptr id off n i) else False
          | _ => False
      | none => False
  | none => False
def tIndex (ti : TI T.den) (io : Operand) (x i : TV T.den) (K : TV T.den → Prop) : Prop := match x, i.asI with
  | .agg l, some (_, i) => match ti.ar with
    | some (n, a, sz) => match litI io with
      | true => bif decide (0 ≤ i) && decide (i < (n : Int)) then tPart a sz l (i.toNat * sz) K else False
      | false => bif !a && Nat.beq sz 1 && Nat.beq l.length n then (0 ≤ i ∧ i < (n : Int)) ∧ selI K i T.dflt l else False
    | none => False
  | .d .str s, some (_, i) => match ti.un with
    | some .string => (0 ≤ i ∧ i < (s.size : Int)) ∧ K (.d (.int .u8) (byteAt s i))
    | _ => False
  | _, _ => False
def tLen (ti : TI T.den) (x : TV T.den) (K : TV T.den → Prop) : Prop := match ti.el with
  | some (e, _) => match x with
    | .k v => bif isNilK v then K (.d (.int .i64) (0 : Int)) else False
    | .row _ _ len => K (.d (.int .i64) (len : Int))
    | x => match els e x with
      | some l => K (.d (.int .i64) (l.length : Int))
      | none => False
  | none => match x, ti.un with
    | .d .str s, some .string => K (.d (.int .i64) (s.size : Int))
    | _, _ => False
def bndI (s : TSt T.den) : Option Operand → Option (Option Int)
  | none => some none
  | some o => match (s.ev o).asI with
    | some (_, n) => some (some n)
    | none => none
def askO (o : Option Operand) (C : Prop) [Decidable C] (K : Prop) : Prop := match o with
  | none => K
  | some o => ask o C K
def tSlice (ti : TI T.den) (s : TSt T.den) (x : TV T.den) (lo hi : Option Operand) (K : TV T.den → Prop) : Prop := match ti.el with
  | some (e, _) => match bndI T s lo, bndI T s hi with
    | some lo', some hi' => match els e x with
      | some l => match lo', hi' with
        | none, none => match x with
          | .k v => K (.k v)
          | .full _ _ => K (.full e l)
          | _ => K (.d (.sl e) l)
        | some a, none => askO lo (0 ≤ a) (a ≤ (l.length : Int) ∧ (match x with
          | .k v => K (.k v)
          | .full _ _ => K (.full e (l.drop a.toNat))
          | _ => K (.d (.sl e) (l.drop a.toNat))))
        | none, some b => askO hi (0 ≤ b) (b ≤ (l.length : Int) ∧ (match x with
          | .k v => K (.k v)
          | _ => K (.d (.sl e) (l.take b.toNat))))
        | some a, some b => askO lo (0 ≤ a) (a ≤ b ∧ b ≤ (l.length : Int) ∧ (match x with
          | .k v => K (.k v)
          | _ => K (.d (.sl e) ((l.take b.toNat).drop a.toNat))))
      | none => False
    | _, _ => False
  | none => False
def tNil (op : BinOp) (ti : TI T.den) (x : TV T.den) (K : TV T.den → Prop) : Prop := match ti.el with
  | some (e, _) => match x with
    | .k _ => False
    | .row _ _ _ => False
    | x => match els e x with
      | some l => ∀ z : Bool, (z = true → l = []) → tEqB op z K
      | none => False
  | none => False
def elUn {S : Nat → Type} (I : BT (TI S)) (a : TypeId) : Option TypeDesc := match (TI.of I a).un with
  | some (.slice e) => (TI.of I e).un
  | _ => none
def tConv (ti : TI T.den) (sk : Bool) (se : Option TypeDesc) (x : TV T.den) (K : TV T.den → Prop) : Prop := match x.asI, ti.un with
  | some (_, n), some (.int k) => bif sk then K (.d (.int k) (k.wrap n)) else False
  | none, some .string => match se, els (.int .u8) x with
    | some (.int .u8), some l => K (.d .str (strOfNums l))
    | _, _ => False
  | _, _ => False
def tMin (x y : TV T.den) (K : TV T.den → Prop) : Prop := match x.asI, y.asI with
  | some (k, a), some (_, b) => K (.d (.int k) (if b < a then b else a))
  | _, _ => False
def tMax (x y : TV T.den) (K : TV T.den → Prop) : Prop := match x.asI, y.asI with
  | some (k, a), some (_, b) => K (.d (.int k) (if a < b then b else a))
  | _, _ => False
def tUn (op : UnOp) (x : TV T.den) (K : TV T.den → Prop) : Prop := match op, x with
  | .not, .lit b => K (.lit (!b))
  | .not, .d .bool b => K (.d .bool (!b))
  | .neg, x => match x.asI with
    | some (k, n) => K (.d (.int k) (k.wrap (0 - n)))
    | none => False
  | _, _ => False
def tNilCk (x : TV T.den) (K : TV T.den → Prop) : Prop := match x with
  | .ptr id off => K (.ptr id off)
  | .ro l => K (.ro l)
  | .eptr id e i off => K (.eptr id e i off)
  | .aptr id off n i => K (.aptr id off n i)
  | _ => False
def a2 (c : Call) (j : Nat) : Operand := c.args.getD j (.const .nilIface)
def tq (I : BT (TI T.den)) (s : TSt T.den) (K : TV T.den → Prop) : Op → Prop
  | .move x => K (s.ev x)
  | .assign x => K (s.ev x)
  | .pick c a b => tPick (s.ev c) (s.ev a) (s.ev b) K
  | .load t a => tLoad T (TI.of I t) s.h (s.ev a) K
  | .fieldAddr t x f => tFaddr T (TI.of I t) f (s.ev x) K
  | .field t x f => match (TI.of I t).fl[f]?, s.ev x with
    | some (o, a, n), .agg l => tPart a n l o K
    | _, _ => False
  | .indexAddr t x i => tIaddr T (TI.of I t) i (s.ev x) (s.ev i) K
  | .index t x i => tIndex T (TI.of I t) i (s.ev x) (s.ev i) K
  | .extract x i => match s.ev x with
    | .tup l => match l[i]? with
      | some v => bif v.tupB then False else K v
      | none => False
    | _ => False
  | .binOp op t x y _ => tBin (TI.of I t) y op (s.ev x) (s.ev y) K
  | .unOp op _ x => tUn T op (s.ev x) K
  | .convert a b x => tConv T (TI.of I b) (TI.of I a).un.isSome (elUn I a) (s.ev x) K
  | .slice t x lo hi mx => match mx with
    | none => tSlice T (TI.of I t) s (s.ev x) lo hi K
    | some _ => False
  | .nilCheck x => tNilCk T (s.ev x) K
  | .call c => match c.callee with
    | .builtin .len => bif Nat.beq c.args.size 1 && Nat.beq c.argTypes.size 1 then tLen T (TI.of I (c.argTypes.getD 0 0)) (s.ev (a2 c 0)) K else False
    | .builtin .min => bif Nat.beq c.args.size 2 then tMin T (s.ev (a2 c 0)) (s.ev (a2 c 1)) K else False
    | .builtin .max => bif Nat.beq c.args.size 2 then tMax T (s.ev (a2 c 0)) (s.ev (a2 c 1)) K else False
    | _ => False
  | _ => False
end
end Go.Cv
namespace Go.Cv
open Go Go.Bv Go.RowKit Go.Md
theorem cnd {b : Bool} {X : Prop} (h : bif b then X else False) : b = true ∧ X := by cases b; exact h.elim; exact ⟨rfl, h⟩
theorem ask_and {o : Operand} {C K : Prop} [Decidable C] (h : ask o C K) : C ∧ K := by
  unfold ask at h
  split at h
  · obtain ⟨h1, h2⟩ := cnd h; exact ⟨of_decide_eq_true h1, h2⟩
  · exact h
theorem k15x {o : Option Operand} {C K : Prop} [Decidable C] (hn : o = none → C) (h : askO o C K) : C ∧ K := by
  unfold askO at h
  split at h
  · exact ⟨hn rfl, h⟩
  · exact ask_and h
theorem ble_le {a b : Nat} (h : Nat.ble a b = true) : a ≤ b := Nat.le_of_ble_eq_true h
section
variable {T : Tab}
theorem e_one {t : Ty} (ht : t.agg = false) (x : t.den T.den) : (T.e t x).one = true := by cases t <;> first | rfl | cases ht
theorem e_cells {t : Ty} (ht : t.agg = false) (x : t.den T.den) : (T.e t x).cells = [T.e t x] := by cases t <;> first | rfl | cases ht
theorem sz_one {t : Ty} (ht : t.agg = false) : T.sz t = 1 := by cases t <;> first | rfl | cases ht
theorem eL_len : ∀ (ts : List Ty) (x : HL T.den ts), (T.eL ts x).length = ts.length
  | [], _ => rfl
  | _ :: r, x => by simp only [Tab.eL, List.length_cons, eL_len r x.2]
theorem eL_one : ∀ (ts : List Ty) (x : HL T.den ts), ts.all (fun t => !t.agg) = true → ∀ c ∈ T.eL ts x, c.one = true
  | [], _, _, c, hc => by cases hc
  | t :: r, x, h, c, hc => by
    simp only [List.all_cons, Bool.and_eq_true, Bool.not_eq_true'] at h
    rcases List.mem_cons.1 hc with rfl | hc
    · exact e_one h.1 _
    · exact eL_one r x.2 h.2 c hc
theorem e_sz (hT : T.Ok) (t : Ty) (x : t.den T.den) : (T.e t x).cells.length = T.sz t ∧ ∀ c ∈ (T.e t x).cells, c.one = true := by
  cases t with
  | st n =>
    show (T.enc n x).cells.length = _ ∧ ∀ c ∈ (T.enc n x).cells, c.one = true
    rw [hT.en n x]
    exact ⟨eL_len _ _, eL_one _ _ (hT.one n)⟩
  | _ => exact ⟨rfl, fun c hc => by rw [e_cells rfl] at hc; simp at hc; subst hc; exact e_one rfl _⟩
theorem map_sz (hT : T.Ok) {t : Ty} (l : List (t.den T.den)) : ∀ d ∈ l.map (T.e t), d.cells.length = T.sz t ∧ ∀ c ∈ d.cells, c.one = true := by
  intro d hd
  obtain ⟨x, _, rfl⟩ := List.mem_map.1 hd
  exact e_sz hT t x
theorem tds_e : ∀ (ts : List Ty) (x : HL T.den ts), (tds ts x).map (TD.e T) = T.eL ts x
  | [], _ => rfl
  | _ :: r, x => by simp only [tds, List.map_cons, Tab.eL, tds_e r x.2]; rfl
theorem k1it (hT : T.Ok) (e : Ty) (x : e.den T.den) : (tcells T e x).map (TD.e T) = (T.e e x).cells := by
  cases e with
  | st n =>
    show (tds (T.tys n) (T.cells n x)).map _ = (T.enc n x).cells
    rw [hT.en n x, tds_e]; rfl
  | _ => rfl
theorem map_v (l : List (TD T.den)) : (l.map TD.v).map (er1 T) = (l.map (TD.e T)).map V.d := by
  rw [List.map_map, List.map_map]; rfl
theorem k1j3 (hT : T.Ok) (e : Ty) (x : e.den T.den) : ((tcells T e x).map TD.v).map (er1 T) = (T.e e x).cells.map V.d := by rw [map_v, k1it hT]
theorem er1_one {v : TV T.den} (ho : v.one = true) : (er1 T v).one = true := by
  cases v <;> first | rfl | exact ho | cases ho | skip
  rename_i t x
  simp only [TV.one, Bool.not_eq_true'] at ho
  exact e_one ho _
theorem ofK_er (v : Value) : er T (tofK v) = V.ofK v := by
  cases v with
  | agg cs =>
    simp only [tofK, V.ofK]
    cases hc : cs.all (·.oneCell')
    · rfl
    · simp only [cond_true, if_true, er, er0, List.map_map]
      congr 1
      refine List.map_congr_left fun v _ => k68 v
  | bool b => exact k68 (T := T) (.bool b)
  | int q n => exact k68 (T := T) (.int q n)
  | float q n => exact k68 (T := T) (.float q n)
  | complex q n m => exact k68 (T := T) (.complex q n m)
  | string b => exact k68 (T := T) (.string b)
  | pointer b => exact k68 (T := T) (.pointer b)
  | slice b n m => exact k68 (T := T) (.slice b n m)
  | map b => exact k68 (T := T) (.map b)
  | chan b => exact k68 (T := T) (.chan b)
  | func a b c => exact k68 (T := T) (.func a b c)
  | nilFunc => exact k68 (T := T) .nilFunc
  | iface a b => exact k68 (T := T) (.iface a b)
  | nilIface => exact k68 (T := T) .nilIface
  | tuple a => exact k68 (T := T) (.tuple a)
theorem ev_er (s : TSt T.den) (x : Operand) : (erS T s).ev x = er T (s.ev x) := by
  cases x with
  | tmp t => exact getS_er s.sl t
  | const v => exact (ofK_er v).symm
  | global _ => rfl
  | func f => rfl
structure TI.Ok (P : Program) (T : Tab) (t : TypeId) (x : TI T.den) : Prop where
  ty : ∀ q, x.ty = some q → tyOf P t = some q
  fl : ∀ f q, x.fl[f]? = some q → fldOf P t f = some q
  el : ∀ e b, x.el = some (e, b) → Bv.elemOf P t = some (e.agg, T.sz e) ∧ rowOf P t = some (T.sz e, b)
  ez : x.ez = true → ∀ e b, x.el = some (e, b) → ∃ zs, elZ P t = some zs ∧ leL zs ((T.e e (T.dflt e)).cells.map .d)
  ar : ∀ q, x.ar = some q → Bv.elemOf P t = none ∧ arrOf P t = some q
  ze : ∀ z, x.ze = some z → zeroV P t = some (z.map (er1 T)) ∧ ∀ v ∈ z, v.one = true
  pl : x.pl ≠ [] → plOf P t = some x.pl
  un : ∀ u, x.un = some u → P.underlying t = some u
  eq : ∀ u, x.eq = some u → eqT P t = some u
theorem TI.ok_empty (P : Program) (T : Tab) (t : TypeId) : TI.Ok P T t {} := by
  constructor <;> simp
def InfoOk (P : Program) (T : Tab) (I : BT (TI T.den)) : Prop := ∀ t x, I.find t = some x → TI.Ok P T t x
theorem InfoOk.of {P : Program} {I : BT (TI T.den)} (hI : InfoOk P T I) (t : TypeId) : TI.Ok P T t (TI.of I t) := by
  unfold TI.of
  cases h : I.find t with
  | none => exact TI.ok_empty P T t
  | some x => exact hI t x h
theorem k4j {a b : Ty} {l : List (a.den T.den)} {m : List (b.den T.den)} (h : castL a b l = some m) : T.sz a = T.sz b ∧ l.map (T.e a) = m.map (T.e b) ∧ l.length = m.length := by
  obtain ⟨rfl, rfl⟩ := Ty.cast_some h
  exact ⟨rfl, rfl, rfl⟩
theorem kjx {v : Value} (h : isNilK v = true) : v = .slice none 0 0 := by
  unfold isNilK at h
  split at h
  · rfl
  · cases h
theorem els_er {e : Ty} {v : TV T.den} {l : List (e.den T.den)} (he : els e v = some l) : (er1 T v).els (T.sz e) = some (l.map (T.e e)) ∧ v.one = true := by
  unfold els at he
  split at he
  · obtain ⟨h1, h2, _⟩ := k4j he
    refine ⟨?_, rfl⟩
    show V.els _ (.d (.slice (T.sz _) (List.map (T.e _) _))) = _
    rw [h1, h2]; simp [V.els]
  · obtain ⟨h1, h2, _⟩ := k4j he
    exact ⟨by simp only [er1, h1, h2, V.els, if_true], rfl⟩
  · obtain ⟨h1, h2, _⟩ := k4j he
    exact ⟨by simp only [er1, h1, h2, V.els, if_true], rfl⟩
  · rename_i v
    cases hn : isNilK v with
    | false => rw [hn] at he; cases he
    | true =>
      rw [hn] at he
      injection he with he
      subst he
      rw [kjx hn]
      exact ⟨rfl, rfl⟩
  · cases he
theorem els_erS {e : Ty} {v : TV T.den} {l : List (e.den T.den)} (he : els e v = some l) : (er T v).els (T.sz e) = some (l.map (T.e e)) := by
  rw [er_of1 (els_er he).2]; exact (els_er he).1
theorem kpj {e : Ty} {v : TV T.den} {l : List (e.den T.den)} (he : els e v = some l) : (er T v).elsD (T.sz e) = l.map (T.e e) ∧ isEls (T.sz e) (er T v) := by
  unfold V.elsD isEls; rw [els_erS he]; exact ⟨rfl, rfl⟩
theorem elt_ix {α : Type} (df : α) (f : α → D) (l : List α) (i : Int) (h0 : 0 ≤ i) (h : i < (l.length : Int)) : elt (l.map f) i.toNat = f (@ix _ ⟨df⟩ l i) := by
  have hi : i.toNat < l.length := by omega
  simp only [elt, ix, List.getElem?_map, List.getElem?_eq_getElem hi, Option.map_some, Option.getD_some]
theorem ix_mem {α : Type} (df : α) (l : List α) (i : Int) (h0 : 0 ≤ i) (h : i < (l.length : Int)) : l[i.toNat]? = some (@ix _ ⟨df⟩ l i) := by
  have hi : i.toNat < l.length := by omega
  simp only [ix, List.getElem?_eq_getElem hi, Option.getD_some]
theorem kns {a : Bool} {n off : Nat} {l : List (TV T.den)} {K : TV T.den → Prop} (h : tPart a n l off K) : ∃ v, K v ∧ partOk a n (l.map (er1 T)) off ∧ partOf a n (l.map (er1 T)) off = er T v := by
  unfold tPart at h
  cases a with
  | true =>
    obtain ⟨h1, h2⟩ := cnd h
    refine ⟨_, h2, ?_, ?_⟩
    · simpa [partOk] using ble_le h1
    · simp only [partOf, er, er0, List.map_take, List.map_drop]
  | false =>
    simp only at h
    cases hx : l[off]? with
    | none => rw [hx] at h; exact h.elim
    | some x =>
      rw [hx] at h
      obtain ⟨h1, h2⟩ := cnd h
      have hlt : off < l.length := (List.getElem?_eq_some_iff.1 hx).1
      refine ⟨_, h2, ?_, ?_⟩
      · simpa [partOk] using hlt
      · simp only [partOf, List.getElem?_map, hx, Option.map_some, Option.getD_some, er_of1 h1]
theorem colT_eq {t : Ty} : ∀ {r : List (TV T.den)} {xs : List (t.den T.den)}, colT t r = some xs → r = xs.map (TV.d t)
  | [], xs, h => by simp only [colT, Option.some.injEq] at h; subst h; rfl
  | v :: r, xs, h => by
    unfold colT at h
    split at h
    · rename_i h'; cases h'
    · rename_i t' x r' hh
      injection hh with h1 h2
      subst h1; subst h2
      cases hc : Ty.cast (Ty.den T.den) t' t x with
      | none => rw [hc] at h; cases h
      | some y =>
        rw [hc] at h
        obtain ⟨rfl, rfl⟩ := Ty.cast_some hc
        simp only at h
        cases hr : colT t' r with
        | none => rw [hr] at h; cases h
        | some ys =>
          rw [hr] at h
          injection h with h
          subst h
          rw [colT_eq hr]; rfl
    · cases h
theorem k1l3 {K : TV T.den → Prop} {i : Int} {l : List (TV T.den)} (h : selI K i T.dflt l) (h0 : 0 ≤ i) (h1 : i < (l.length : Int)) : ∃ v, K v ∧ (l.map (er1 T))[i.toNat]? = some (er T v) := by
  unfold selI at h
  split at h
  · rename_i t x r
    cases ha : t.agg with
    | true => rw [ha] at h; exact h.elim
    | false =>
      rw [ha] at h
      simp only [cond_false] at h
      cases hc : colT t r with
      | none => rw [hc] at h; exact h.elim
      | some xs =>
        rw [hc] at h
        have he := colT_eq hc
        subst he
        have e2 : (TV.d t x :: xs.map (TV.d t)) = (x :: xs).map (TV.d t) := rfl
        rw [e2] at h1 ⊢
        rw [List.length_map] at h1
        refine ⟨_, h, ?_⟩
        rw [List.getElem?_map, List.getElem?_map, ix_mem (T.dflt t) (x :: xs) i h0 h1]
        rfl
  · exact h.elim
theorem k1oa (hT : T.Ok) {e : Ty} (l : List (e.den T.den)) (i : Int) (h0 : 0 ≤ i) (h1 : i < (l.length : Int)) (off n : Nat) (h : off + n ≤ T.sz e) :
    ((((l.map (T.e e)).flatMap D.cells).map V.d).drop (i.toNat * T.sz e + off)).take n = ((((T.e e (@ix _ ⟨T.dflt e⟩ l i)).cells).map V.d).drop off).take n := by
  refine List.ext_getElem? fun j => ?_
  rw [List.getElem?_take, List.getElem?_take]
  split
  · rename_i hj
    rw [List.getElem?_drop, List.getElem?_drop, List.getElem?_map, List.getElem?_map, Nat.add_assoc]
    rw [kwd (map_sz hT l) (d := T.e e (@ix _ ⟨T.dflt e⟩ l i)) (by rw [List.getElem?_map, ix_mem (T.dflt e) l i h0 h1]; rfl) (off + j) (by omega)]
  · rfl
theorem kll (hT : T.Ok) {e : Ty} (l : List (e.den T.den)) : ((l.map (T.e e)).flatMap D.cells).length = l.length * T.sz e := by
  rw [k5u (map_sz hT l), List.length_map]
theorem k1ok (hT : T.Ok) {a : Bool} {n off : Nat} {e : Ty} {l : List (e.den T.den)} {i : Int} (h0 : 0 ≤ i) (h1 : i < (l.length : Int))
    (ho : partOk a n ((T.e e (@ix _ ⟨T.dflt e⟩ l i)).cells.map V.d) off) :
    partOk a n (((l.map (T.e e)).flatMap D.cells).map V.d) (i.toNat * T.sz e + off) ∧ partOf a n (((l.map (T.e e)).flatMap D.cells).map V.d) (i.toNat * T.sz e + off) = partOf a n ((T.e e (@ix _ ⟨T.dflt e⟩ l i)).cells.map V.d) off := by
  have hs := (e_sz hT e (@ix _ ⟨T.dflt e⟩ l i)).1
  have hm : (i.toNat + 1) * T.sz e ≤ l.length * T.sz e := Nat.mul_le_mul_right _ (by omega)
  rw [Nat.add_mul, Nat.one_mul] at hm
  cases a with
  | true =>
    simp only [partOk, List.length_map, hs] at ho
    refine ⟨?_, ?_⟩
    · simp only [partOk, List.length_map, kll hT]; omega
    · simp only [partOf]; rw [k1oa hT l i h0 h1 off n ho]
  | false =>
    simp only [partOk, List.length_map, hs] at ho
    refine ⟨?_, ?_⟩
    · simp only [partOk, List.length_map, kll hT]; omega
    · simp only [partOf, List.getElem?_map]
      rw [kwd (map_sz hT l) (d := T.e e (@ix _ ⟨T.dflt e⟩ l i)) (by rw [List.getElem?_map, ix_mem (T.dflt e) l i h0 h1]; rfl) off ho]
variable {P : Program} {I : BT (TI T.den)}
theorem k1e4 (hT : T.Ok) {t : TypeId} {x : TI T.den} (hx : TI.Ok P T t x) {h : THp T.den} {v : TV T.den} {K : TV T.den → Prop} (hh : tLoad T x h v K) :
    ∃ u, K u ∧ loadOk (tyOf P t) (erH T h) (er T v) ∧ loadV (tyOf P t) (erH T h) (er T v) = er T u := by
  unfold tLoad at hh
  split at hh
  · exact hh.elim
  · rename_i a n hty
    rw [hx.ty _ hty]
    split at hh
    · rename_i id off
      simp only [er, er0, er1, loadOk, loadV, getH_er]
      cases hg : getH h id with
      | none => rw [hg] at hh; exact hh.elim
      | some o =>
        rw [hg] at hh
        cases o with
        | cells l => exact kns hh
        | _ => exact hh.elim
    · rename_i l
      simp only [er, er0, er1, loadOk, loadV]
      obtain ⟨u, h1, h2, h3⟩ := kns hh
      rw [map_v] at h2 h3
      exact ⟨u, h1, h2, h3⟩
    · rename_i id off m i
      split at hh
      · rename_i l hg
        obtain ⟨h1, ⟨h2, h3⟩, h4⟩ := cnd hh
        have hle := ble_le h1
        have hlen : ((l.drop off).take m).length = m := by simp; omega
        obtain ⟨u, g1, g2⟩ := k1l3 h4 h2 (by rw [hlen]; exact h3)
        rw [List.map_take, List.map_drop, List.getElem?_take, if_pos (by omega), List.getElem?_drop] at g2
        simp only [er, er0, er1, loadOk, loadV, getH_er, hg, Option.map_some, erO]
        refine ⟨u, g1, ?_, ?_⟩
        · simp only [partOk, List.length_map]; omega
        · simp only [partOf, g2, Option.getD_some]; rfl
      · exact hh.elim
    · rename_i id e i off
      split at hh
      · rename_i e' l hg
        obtain ⟨h1, ⟨h2, h3⟩, h4⟩ := cnd hh
        have he := Ty.eq_of_beq h1
        subst he
        simp only [er, er0, er1, loadOk, loadV, getH_er, hg, Option.map_some, erO]
        obtain ⟨u, g1, g2, g3⟩ := kns h4
        rw [k1j3 hT] at g2 g3
        obtain ⟨q1, q2⟩ := k1ok hT h2 h3 g2
        exact ⟨u, g1, q1, q2.trans g3⟩
      · exact hh.elim
    · exact hh.elim
theorem k1nc {t : TypeId} {x : TI T.den} (hx : TI.Ok P T t x) {f : Nat} {v : TV T.den} {K : TV T.den → Prop} (hh : tFaddr T x f v K) :
    ∃ u, K u ∧ faddrOk (fldOf P t f) (er T v) ∧ faddrV (fldOf P t f) (er T v) = er T u := by
  unfold tFaddr at hh
  split at hh
  · exact hh.elim
  · rename_i o a n hf
    rw [hx.fl _ _ hf]
    split at hh
    · exact ⟨_, hh, trivial, rfl⟩
    · exact ⟨_, hh, trivial, by simp only [er, er0, er1, faddrV, List.map_drop]⟩
    · exact ⟨_, hh, trivial, by simp only [er, er0, er1, faddrV, Nat.add_assoc]⟩
    · exact hh.elim
theorem asI_eq {v : TV T.den} {q : IntKind} {n : Int} (h : v.asI = some (q, n)) : v = .d (.int q) n := by
  unfold TV.asI at h
  split at h
  · injection h with h; injection h with h1 h2; subst h1; subst h2; rfl
  · cases h
theorem k1nh (hT : T.Ok) {t : TypeId} {x : TI T.den} (hx : TI.Ok P T t x) {io : Operand} {v iv : TV T.den} {K : TV T.den → Prop} (hh : tIaddr T x io v iv K) :
    ∃ u, K u ∧ iaddrOk (Bv.elemOf P t) (arrOf P t) (er T v) (er T iv) ∧ iaddrV (Bv.elemOf P t) (arrOf P t) (er T v) (er T iv) = er T u := by
  unfold tIaddr at hh
  split at hh
  · rename_i q i hi
    have hi := asI_eq hi
    subst hi
    have ei : er T (TV.d (.int q) i) = V.d (D.int q i) := rfl
    rw [ei]
    split at hh
    · rename_i e b hel
      rw [(hx.el _ _ hel).1]
      split at hh
      · rename_i id e' len
        obtain ⟨h1, ⟨h2, h3⟩, h4⟩ := cnd hh
        have he := Ty.eq_of_beq h1
        subst he
        exact ⟨_, h4, ⟨rfl, h2, h3⟩, by simp only [er, er0, er1, iaddrV, rowIx, Nat.zero_add, Nat.add_zero]⟩
      · rename_i hnr
        cases hl : els e v with
        | none => rw [hl] at hh; exact hh.elim
        | some l =>
          rw [hl] at hh
          obtain ⟨h1, h2, h3⟩ := ask_and hh
          obtain ⟨g1, g2⟩ := kpj hl
          have hlen : ((l.map (T.e e)).length : Int) = l.length := by rw [List.length_map]
          have key : iaddrOk (some (e.agg, T.sz e)) (arrOf P t) (er T v) (.d (.int q i)) = iaddrDOk (some (e.agg, T.sz e)) (arrOf P t) (er T v) (.d (.int q i)) ∧ iaddrV (some (e.agg, T.sz e)) (arrOf P t) (er T v) (.d (.int q i)) = iaddrDV (some (e.agg, T.sz e)) (arrOf P t) (er T v) (.d (.int q i)) := by
            have := els_erS hl
            generalize er T v = y at this
            cases y <;> first | exact ⟨rfl, rfl⟩ | cases this
          rw [key.1, key.2]
          refine ⟨_, h3, ⟨g2, h1, by rw [g1, hlen]; exact h2⟩, ?_⟩
          simp only [iaddrDV, g1]
          rw [elt_ix (T.dflt e) (T.e e) l i h1 h2, ← k1it hT]; rfl
    · split at hh
      · rename_i n a sz har
        rw [(hx.ar _ har).1, (hx.ar _ har).2]
        split at hh
        · obtain ⟨h1, h2⟩ := cnd hh
          simp only [Bool.and_eq_true, decide_eq_true_eq] at h1
          split at h2
          · exact ⟨_, h2, h1, rfl⟩
          · exact ⟨_, h2, h1, by simp only [er, er0, er1, iaddrV, iaddrDV, List.map_drop]⟩
          · exact ⟨_, h2, h1, by simp only [er, er0, er1, iaddrV, iaddrDV, Nat.add_assoc]⟩
          · exact h2.elim
        · split at hh
          · obtain ⟨h1, h2, h3⟩ := cnd hh
            refine ⟨_, h3, h2, ?_⟩
            simp only [er, er0, er1, iaddrV, iaddrDV, nb_eq h1, Nat.mul_one]
          · exact hh.elim
      · exact hh.elim
  · exact hh.elim
theorem k1ni {t : TypeId} {x : TI T.den} (hx : TI.Ok P T t x) {io : Operand} {v iv : TV T.den} {K : TV T.den → Prop} (hh : tIndex T x io v iv K) :
    ∃ u, K u ∧ indexOk P t (arrOf P t) (er T v) (er T iv) ∧ indexV (arrOf P t) (er T v) (er T iv) = er T u := by
  unfold tIndex at hh
  split at hh
  · rename_i l q i hi
    have hi := asI_eq hi
    subst hi
    split at hh
    · rename_i n a sz har
      rw [(hx.ar _ har).2]
      split at hh
      · obtain ⟨h1, h2⟩ := cnd hh
        simp only [Bool.and_eq_true, decide_eq_true_eq] at h1
        obtain ⟨u, g1, g2, g3⟩ := kns h2
        exact ⟨u, g1, ⟨h1.1, h1.2, g2⟩, g3⟩
      · obtain ⟨h1, ⟨h2, h3⟩, h4⟩ := cnd hh
        simp only [Bool.and_eq_true, Bool.not_eq_true'] at h1
        obtain ⟨⟨ha, hs⟩, hn⟩ := h1
        have hs := nb_eq hs
        have hn := nb_eq hn
        subst ha; subst hs
        obtain ⟨u, g1, g2⟩ := k1l3 h4 h2 (by rw [hn]; exact h3)
        refine ⟨u, g1, ⟨h2, h3, ?_⟩, ?_⟩
        · simp only [partOk, List.length_map]; omega
        · show partOf false 1 (l.map (er1 T)) (i.toNat * 1) = _
          simp only [partOf, Nat.mul_one, g2, Option.getD_some]
    · exact hh.elim
  · rename_i s q i hi
    have hi := asI_eq hi
    subst hi
    split at hh
    · rename_i hu
      obtain ⟨⟨h1, h2⟩, h3⟩ := hh
      have hu := hx.un _ hu
      have ha : arrOf P t = none := by unfold arrOf; rw [hu]
      exact ⟨_, h3, ⟨ha, hu, h1, h2⟩, rfl⟩
    · exact hh.elim
  · exact hh.elim
end
end Go.Cv
namespace Go.Cv
open Go Go.Bv Go.RowKit Go.Md
section
variable {T : Tab} {P : Program} {I : BT (TI T.den)}
theorem el_sl {t : TypeId} {a : Bool} {n : Nat} (h : Bv.elemOf P t = some (a, n)) : isSliceT (P.underlying t) := by
  unfold Bv.elemOf at h
  split at h
  · rename_i e hu; rw [hu]; trivial
  · cases h
theorem k1p4 {t : TypeId} {x : TI T.den} (hx : TI.Ok P T t x) {v : TV T.den} {K : TV T.den → Prop} (hh : tLen T x v K) :
    ∃ u, K u ∧ lenOk (P.underlying t) (er T v) ∧ lenV (er T v) = er T u := by
  unfold tLen at hh
  split at hh
  · rename_i e b hel
    have hs := el_sl (hx.el _ _ hel).1
    split at hh
    · rename_i v
      obtain ⟨h1, h2⟩ := cnd hh
      rw [kjx h1]
      exact ⟨_, h2, hs, rfl⟩
    · exact ⟨_, hh, hs, rfl⟩
    · cases hl : els e v with
      | none => rw [hl] at hh; exact hh.elim
      | some l =>
        rw [hl] at hh
        refine ⟨_, hh, ?_⟩
        have h1 := els_erS hl
        have hlen : (l.map (T.e e)).length = l.length := List.length_map ..
        generalize er T v = y at h1
        unfold V.els at h1
        split at h1
        · split at h1
          · injection h1 with h1; subst h1; exact ⟨hs, by simp only [lenV, hlen]; rfl⟩
          · cases h1
        · split at h1
          · injection h1 with h1; subst h1; exact ⟨hs, by simp only [lenV, hlen]; rfl⟩
          · cases h1
        · split at h1
          · injection h1 with h1; subst h1; exact ⟨hs, by simp only [lenV, hlen]; rfl⟩
          · cases h1
        · injection h1 with h1
          refine ⟨hs, ?_⟩
          rw [← hlen, ← h1]; rfl
        · cases h1
  · split at hh
    · rename_i s hu
      exact ⟨_, hh, by rw [hx.un _ hu]; trivial, rfl⟩
    · exact hh.elim
theorem k1la {s : TSt T.den} {o : Option Operand} {r : Option Int} (h : bndI T s o = some r) (d : Nat) :
    isBnd (o.map (erS T s).ev) ∧ boundA d (o.map (erS T s).ev) = some (r.getD d) ∧ (o = none ↔ r = none) := by
  unfold bndI at h
  split at h
  · injection h with h; subst h; exact ⟨trivial, rfl, by simp⟩
  · rename_i o
    split at h
    · rename_i q n hn
      injection h with h
      subst h
      simp only [Option.map_some, ev_er, asI_eq hn]
      exact ⟨trivial, rfl, by simp⟩
    · cases h
theorem k1no {t : TypeId} {x : TI T.den} (hx : TI.Ok P T t x) {s : TSt T.den} {v : TV T.den} {lo hi : Option Operand} {K : TV T.den → Prop} (hh : tSlice T x s v lo hi K) :
    ∃ u, K u ∧ sliceOk (Bv.elemOf P t) (er T v) (lo.map (erS T s).ev) (hi.map (erS T s).ev) ∧ sliceV (Bv.elemOf P t) (er T v) (lo.map (erS T s).ev) (hi.map (erS T s).ev) = er T u := by
  unfold tSlice at hh
  split at hh
  · rename_i e b hel
    rw [(hx.el _ _ hel).1]
    split at hh
    · rename_i lo' hi' hlo hhi
      cases hl : els e v with
      | none => rw [hl] at hh; exact hh.elim
      | some l =>
        rw [hl] at hh
        simp only at hh
        obtain ⟨g1, g2⟩ := kpj hl
        have hlen : (l.map (T.e e)).length = l.length := List.length_map ..
        have hE := els_erS hl
        have htk : List.take l.length (List.map (T.e e) l) = List.map (T.e e) l := by rw [← hlen]; exact List.take_length
        obtain ⟨a1, a2, a3⟩ := k1la hlo 0
        obtain ⟨b1, b2, b3⟩ := k1la hhi l.length
        have key : sliceOk (some (e.agg, T.sz e)) (er T v) (lo.map (erS T s).ev) (hi.map (erS T s).ev) = sliceDOk (some (e.agg, T.sz e)) (er T v) (lo.map (erS T s).ev) (hi.map (erS T s).ev) ∧
            sliceV (some (e.agg, T.sz e)) (er T v) (lo.map (erS T s).ev) (hi.map (erS T s).ev) = sliceDV (some (e.agg, T.sz e)) (er T v) (lo.map (erS T s).ev) (hi.map (erS T s).ev) := by
          generalize er T v = y at hE
          cases y <;> first | exact ⟨rfl, rfl⟩ | cases hE
        rw [key.1, key.2]
        
        have ok : 0 ≤ lo'.getD 0 → lo'.getD 0 ≤ hi'.getD (l.length : Int) → hi'.getD (l.length : Int) ≤ (l.length : Int) → sliceDOk (some (e.agg, T.sz e)) (er T v) (lo.map (erS T s).ev) (hi.map (erS T s).ev) := by
          intro q1 q2 q3
          refine ⟨g2, a1, b1, ?_, ?_, ?_⟩
          · rw [a2]; simpa using q1
          · rw [a2, g1, hlen, b2]; simpa using q2
          · rw [g1, hlen, b2]; simpa using q3
        have gen : ∀ (m : List (e.den T.den)), m.map (T.e e) = ((l.map (T.e e)).take (hi'.getD (l.length : Int)).toNat).drop (lo'.getD 0).toNat →
            (∀ v', v ≠ .k v') → (∀ e' l', v = .full e' l' → hi' ≠ none) → sliceDV (some (e.agg, T.sz e)) (er T v) (lo.map (erS T s).ev) (hi.map (erS T s).ev) = er T (.d (.sl e) m) := by
          intro m hm hk hf
          have e1 : er T (.d (.sl e) m) = .d (.slice (T.sz e) (((((er T v).elsD (T.sz e))).take ((boundA ((er T v).elsD (T.sz e)).length (hi.map (erS T s).ev)).getD 0).toNat).drop ((boundA 0 (lo.map (erS T s).ev)).getD 0).toNat)) := by
            rw [a2, g1, hlen, b2]
            show V.d (.slice (T.sz e) (m.map (T.e e))) = _
            rw [hm]; simp
          rw [e1]
          unfold els at hl
          split at hl
          · rfl
          · rename_i e' l'
            have := hf e' l' rfl
            have hn : hi ≠ none := fun h => this (b3.1 h)
            obtain ⟨o, ho⟩ := Option.ne_none_iff_exists'.1 hn
            subst ho
            rfl
          · rfl
          · exact (hk _ rfl).elim
          · cases hl
        cases lo' with
        | none =>
          cases hi' with
          | none =>
            simp only at hh
            have o1 := ok (by simp) (by simp) (by simp)
            split at hh
            · exact ⟨_, hh, o1, rfl⟩
            · refine ⟨_, hh, o1, ?_⟩
              rename_i e' l'
              obtain ⟨h1, h2, _⟩ := k4j hl
              have hn : hi = none := b3.2 rfl
              subst hn
              have hn2 : lo = none := a3.2 rfl
              subst hn2
              show V.full (T.sz e) (List.drop 0 (List.map (T.e e') l')) = V.full (T.sz e) (l.map (T.e e))
              rw [h2]; rfl
            · rename_i hk hf
              exact ⟨_, hh, o1, gen l (by simp [htk]) (fun v' h => hk v' h) (fun e' l' h => (hf e' l' h).elim)⟩
          | some b =>
            simp only at hh
            obtain ⟨h1, h2, h3⟩ := k15x (fun h => by cases b3.1 h) hh
            have o1 := ok (by simp) (by simpa using h1) (by simpa using h2)
            split at h3
            · exact ⟨_, h3, o1, rfl⟩
            · rename_i hk
              exact ⟨_, h3, o1, gen _ (by simp [List.map_take]) (fun v' h => hk v' h) (fun _ _ _ => by simp)⟩
        | some a =>
          cases hi' with
          | none =>
            simp only at hh
            obtain ⟨h1, h2, h3⟩ := k15x (fun h => by cases a3.1 h) hh
            have o1 := ok (by simpa using h1) (by simpa using h2) (by simp)
            split at h3
            · exact ⟨_, h3, o1, rfl⟩
            · refine ⟨_, h3, o1, ?_⟩
              rename_i e' l'
              obtain ⟨h4, h5, _⟩ := k4j hl
              have hn : hi = none := b3.2 rfl
              subst hn
              show V.full (T.sz e) (List.drop ((boundA 0 (lo.map (erS T s).ev)).getD 0).toNat (List.map (T.e e') l')) = V.full (T.sz e) ((l.drop a.toNat).map (T.e e))
              rw [h5, a2, List.map_drop]; rfl
            · rename_i hk hf
              exact ⟨_, h3, o1, gen _ (by simp [htk, List.map_drop]) (fun v' h => hk v' h) (fun e' l' h => (hf e' l' h).elim)⟩
          | some b =>
            simp only at hh
            obtain ⟨h1, h2, h3, h4⟩ := k15x (fun h => by cases a3.1 h) hh
            have o1 := ok (by simpa using h1) (by simpa using h2) (by simpa using h3)
            split at h4
            · exact ⟨_, h4, o1, rfl⟩
            · rename_i hk
              exact ⟨_, h4, o1, gen _ (by simp [List.map_take, List.map_drop]) (fun v' h => hk v' h) (fun _ _ _ => by simp)⟩
    · exact hh.elim
  · exact hh.elim
theorem kvt {op : BinOp} {e : Bool} {K : TV T.den → Prop} (h : tEqB op e K) : ∃ u, K u ∧ isEq op ∧ aggV op e = er T u := by
  unfold tEqB at h
  split at h
  · exact ⟨_, h, trivial, rfl⟩
  · exact ⟨_, h, trivial, rfl⟩
  · exact h.elim
theorem k1pm {op : BinOp} {e : Bool} {K : TV T.den → Prop} (h : tEqK op e K) : ∃ u, K u ∧ isEq op ∧ aggV op e = er T u := by
  unfold tEqK at h
  split at h
  · exact ⟨_, h, trivial, rfl⟩
  · exact ⟨_, h, trivial, rfl⟩
  · exact h.elim
theorem isB_er {v : TV T.den} {b : Bool} (h : v.isB = some b) : er1 T v = .d (.bool b) ∧ er T v = .d (.bool b) := by
  unfold TV.isB at h
  split at h
  · injection h with h; subst h; exact ⟨rfl, rfl⟩
  · injection h with h; subst h; exact ⟨rfl, rfl⟩
  · cases h
theorem k1q4 : ∀ {ts : List TypeDesc} {l m : List (TV T.den)} {e : Bool}, tEqL ts l m = some e → eqLOk ts (l.map (er1 T)) (m.map (er1 T)) ∧ eqL (l.map (er1 T)) (m.map (er1 T)) = e := by
  intro ts
  induction ts with
  | nil =>
    intro l m e h
    cases l <;> cases m <;> simp only [tEqL] at h
    · injection h with h; subst h; exact ⟨trivial, rfl⟩
    all_goals cases h
  | cons t ts ih =>
    intro l m e h
    unfold tEqL at h
    split at h
    · have hts : t :: ts = [] := by assumption
      cases hts
    · rename_i k ts' k1 a l' k2 b m' hts
      injection hts with h1 h2
      subst h1; subst h2
      cases hc : (decide (k1 = k2) && decide (k1 = k)) with
      | false => rw [hc] at h; cases h
      | true =>
        rw [hc] at h
        simp only [Bool.and_eq_true, decide_eq_true_eq] at hc
        obtain ⟨rfl, rfl⟩ := hc
        simp only [cond_true] at h
        split at h
        · rename_i e' he
          injection h with h
          subst h
          obtain ⟨g1, g2⟩ := ih he
          exact ⟨⟨rfl, g1⟩, by show (@BEq.beq Int _ a b && eqL _ _) = _; rw [g2]⟩
        · cases h
    · rename_i ts' x l' y m' hts
      injection hts with h1 h2
      subst h1; subst h2
      split at h
      · rename_i a b e' ha hb he
        injection h with h
        subst h
        obtain ⟨g1, g2⟩ := ih he
        simp only [List.map_cons, (isB_er ha).1, (isB_er hb).1]
        exact ⟨⟨trivial, g1⟩, by show (_ && eqL _ _) = _; rw [g2]; rfl⟩
      · cases h
    · cases h
theorem ksl {v : Value} (h : isPtrK v = true) : v = .pointer none := by
  unfold isPtrK at h
  split at h
  · rfl
  · cases h
theorem k1pg {yo : Operand} {op : BinOp} {k k' : IntKind} {a b : Int} {K : TV T.den → Prop} (h : tInt yo op k k' a b K) : ∃ u, K u ∧ (sameK op k k' ∧ intOk op b) ∧ intV op k a b = er T u := by
  unfold tInt at h
  split at h
  · obtain ⟨h1, h2⟩ := ask_and h; exact ⟨_, h2, ⟨trivial, h1⟩, rfl⟩
  · obtain ⟨h1, h2⟩ := ask_and h; exact ⟨_, h2, ⟨trivial, h1⟩, rfl⟩
  · obtain ⟨h1, h2⟩ := cnd h
    have hk := of_decide_eq_true h1
    split at h2
    · exact ⟨_, h2, ⟨hk, trivial⟩, rfl⟩
    · exact ⟨_, h2, ⟨hk, trivial⟩, rfl⟩
    · exact ⟨_, h2, ⟨hk, trivial⟩, rfl⟩
    · obtain ⟨h1, h2⟩ := ask_and h2; exact ⟨_, h2, ⟨hk, h1⟩, rfl⟩
    · obtain ⟨h1, h2⟩ := ask_and h2; exact ⟨_, h2, ⟨hk, h1⟩, rfl⟩
    · exact ⟨_, h2, ⟨hk, trivial⟩, rfl⟩
    · exact ⟨_, h2, ⟨hk, trivial⟩, rfl⟩
    · exact ⟨_, h2, ⟨hk, trivial⟩, rfl⟩
    · exact ⟨_, h2, ⟨hk, trivial⟩, rfl⟩
    · exact ⟨_, h2, ⟨hk, trivial⟩, rfl⟩
    · exact ⟨_, h2, ⟨hk, trivial⟩, rfl⟩
    · exact ⟨_, h2, ⟨hk, trivial⟩, rfl⟩
    · exact ⟨_, h2, ⟨hk, trivial⟩, rfl⟩
    · exact ⟨_, h2, ⟨hk, trivial⟩, rfl⟩
    · exact ⟨_, h2, ⟨hk, trivial⟩, rfl⟩
    · exact h2.elim
theorem k1op (l : List Int) : byStr (l.map (D.int .u8)) = strOfNums l := by
  unfold byStr
  rw [List.map_map]
  exact congrArg strOfNums ((List.map_congr_left (g := id) fun _ _ => rfl).trans (List.map_id l))
theorem k1ph {t : TypeId} {ti : TI T.den} (hx : TI.Ok P T t ti) {yo : Operand} {op : BinOp} {x y : TV T.den} {K : TV T.den → Prop} (h : tBin ti yo op x y K) :
    ∃ u, K u ∧ binOk (eqT P t) (P.underlying t) op (er T x) (er T y) ∧ binV op (er T x) (er T y) = er T u := by
  have ptr : ∀ {e : Bool}, (match ti.un with | some (.pointer _) => tEqK op e K | _ => False) → ∃ u, K u ∧ (isEq op ∧ isPtrT (P.underlying t)) ∧ aggV op e = er T u := by
    intro e h
    split at h
    · rename_i hu
      obtain ⟨u, g1, g2, g3⟩ := k1pm h
      exact ⟨u, g1, ⟨g2, by rw [hx.un _ hu]; trivial⟩, g3⟩
    · exact h.elim
  unfold tBin at h
  split at h
  · exact k1pg h
  · split at h
    · rename_i ts hts
      split at h
      · rename_i e he
        obtain ⟨g1, g2⟩ := k1q4 he
        obtain ⟨u, q1, q2, q3⟩ := kvt h
        refine ⟨u, q1, ⟨q2, by rw [hx.eq _ hts]; exact g1⟩, ?_⟩
        rw [← q3, ← g2]; rfl
      · exact h.elim
    · exact h.elim
  · obtain ⟨h1, h2⟩ := cnd h; rw [ksl h1]; exact ptr h2
  · obtain ⟨h1, h2⟩ := cnd h; rw [ksl h1]; exact ptr h2
  · obtain ⟨h1, h2⟩ := cnd h
    simp only [Bool.and_eq_true] at h1
    rw [ksl h1.1, ksl h1.2]; exact ptr h2
  · obtain ⟨u, q1, q2, q3⟩ := kvt h
    exact ⟨u, q1, q2, q3⟩
  · split at h
    · rename_i a b ha hb hu
      obtain ⟨u, q1, q2, q3⟩ := kvt h
      rw [(isB_er ha).2, (isB_er hb).2]
      exact ⟨u, q1, ⟨q2, by rw [hx.un _ hu]; trivial⟩, q3⟩
    · exact h.elim
theorem toB_er (v : TV T.den) : er T v.toB = er T v := by cases v <;> rfl
theorem k1ol {c a b : TV T.den} {K : TV T.den → Prop} (h : tPick c a b K) : ∃ u, K u ∧ pickOk (er T c) ∧ pickV (er T c) (er T a) (er T b) = er T u := by
  unfold tPick at h
  split at h
  · exact ⟨_, h, rfl, kwj _ _⟩
  · exact ⟨_, h, rfl, kt8 _ _⟩
  · rename_i t
    split at h
    · rename_i ta x tb y ha hb
      split at h
      · rename_i y' hy
        obtain ⟨rfl, rfl⟩ := Ty.cast_some hy
        refine ⟨_, h, rfl, ?_⟩
        rw [← toB_er a, ← toB_er b, ha, hb]
        cases t
        · exact kt8 _ _
        · exact kwj _ _
      · exact h.elim
    · exact h.elim
  · exact h.elim
theorem tq_snd (hT : T.Ok) (hI : InfoOk P T I) {s : TSt T.den} {K : TV T.den → Prop} {op : Op} (h : tq T I s K op) :
    ∃ u, K u ∧ avOk P (erS T s).h (erS T s).ev op ∧ av P (erS T s).h (erS T s).ev op = er T u := by
  cases op with
  | move x => exact ⟨_, h, trivial, ev_er s x⟩
  | assign x => exact ⟨_, h, trivial, ev_er s x⟩
  | pick c a b => simp only [avOk, av, ev_er]; exact k1ol h
  | load t a => simp only [avOk, av, ev_er]; exact k1e4 hT (hI.of t) h
  | fieldAddr t x f => simp only [avOk, av, ev_er]; exact k1nc (hI.of t) h
  | field t x f =>
    simp only [avOk, av, ev_er]
    simp only [tq] at h
    split at h
    · rename_i o a n l hf hv
      rw [(hI.of t).fl _ _ hf, hv]
      exact kns h
    · exact h.elim
  | indexAddr t x i => simp only [avOk, av, ev_er]; exact k1nh hT (hI.of t) h
  | index t x i => simp only [avOk, av, ev_er]; exact k1ni (hI.of t) h
  | extract x i =>
    simp only [avOk, av, ev_er]
    simp only [tq] at h
    split at h
    · rename_i l hv
      rw [hv]
      split at h
      · rename_i v hi
        cases hb : v.tupB with
        | true => rw [hb] at h; exact h.elim
        | false =>
          rw [hb] at h
          have hlt : i < l.length := (List.getElem?_eq_some_iff.1 hi).1
          refine ⟨_, h, by simpa [er, extOk] using hlt, ?_⟩
          simp only [er, extV, List.getElem?_map, hi, Option.map_some, Option.getD_some]
          cases v <;> first | rfl | cases hb
      · exact h.elim
    · exact h.elim
  | binOp op t x y t' => simp only [avOk, av, ev_er]; exact k1ph (hI.of t) h
  | unOp op t x =>
    simp only [avOk, av, ev_er]
    simp only [tq, tUn] at h
    split at h
    · rename_i hv; rw [hv]; exact ⟨_, h, rfl, rfl⟩
    · rename_i hv; rw [hv]; exact ⟨_, h, rfl, rfl⟩
    · split at h
      · rename_i k n hn; rw [asI_eq hn]; exact ⟨_, h, rfl, rfl⟩
      · exact h.elim
    · exact h.elim
  | convert a b x =>
    simp only [avOk, av, ev_er]
    simp only [tq, tConv] at h
    split at h
    · rename_i q n k hn hu
      obtain ⟨h1, h2⟩ := cnd h
      rw [asI_eq hn]
      obtain ⟨u, hu2⟩ := Option.isSome_iff_exists.1 h1
      exact ⟨_, h2, ⟨by rw [(hI.of a).un _ hu2]; rfl, by rw [(hI.of b).un _ hu]; trivial⟩, by rw [(hI.of b).un _ hu]; rfl⟩
    · rename_i hn hu
      split at h
      · rename_i l hse hl
        have hl' : els (.int .u8) (s.ev x) = some l := hl
        have h1 := els_erS hl'
        have h8 : isB8 P a := by
          unfold elUn at hse
          split at hse
          · rename_i e he
            unfold isB8
            rw [(hI.of a).un _ he]
            exact (hI.of e).un _ hse
          · cases hse
        have he1 : (er T (s.ev x)).els 1 = some (l.map (D.int .u8)) := h1
        have ni : ∀ q n, er T (s.ev x) ≠ .d (.int q n) := fun q n e => by rw [e] at he1; cases he1
        have hb : (l.map (D.int .u8)).all D.isB = true := List.all_eq_true.2 fun d hd => by obtain ⟨n, _, rfl⟩ := List.mem_map.1 hd; rfl
        have hn : byStr (l.map (D.int .u8)) = strOfNums l := k1op l
        refine ⟨_, h, ?_, ?_⟩
        · unfold convOk
          split
          · rename_i q n e; exact (ni _ _ e).elim
          · exact ⟨h8, (hI.of b).un _ hu, _, he1, hb⟩
        · unfold convV
          split
          · rename_i q n e; exact (ni _ _ e).elim
          · rw [he1]
            show V.d (.str (byStr _)) = _
            rw [hn]; rfl
      · exact h.elim
    · exact h.elim
  | slice t x lo hi mx =>
    simp only [tq] at h
    cases mx with
    | some m => exact h.elim
    | none =>
      simp only [avOk, av]
      rw [ev_er]
      obtain ⟨u, g1, g2, g3⟩ := k1no (hI.of t) h
      exact ⟨u, g1, ⟨by first | rfl | trivial, g2⟩, g3⟩
  | nilCheck x =>
    simp only [avOk, av, ev_er]
    simp only [tq, tNilCk] at h
    split at h
    · rename_i hv; rw [hv]; exact ⟨_, h, trivial, rfl⟩
    · rename_i hv; rw [hv]; exact ⟨_, h, trivial, rfl⟩
    · rename_i hv; rw [hv]; exact ⟨_, h, trivial, rfl⟩
    · rename_i hv; rw [hv]; exact ⟨_, h, trivial, rfl⟩
    · exact h.elim
  | call c =>
    obtain ⟨callee, args, argTypes⟩ := c
    simp only [tq] at h
    split at h
    · obtain ⟨h1, h2⟩ := cnd h
      simp only [Bool.and_eq_true] at h1
      obtain ⟨u, g1, g2, g3⟩ := k1p4 (hI.of _) h2
      rw [← ev_er] at g2 g3
      exact ⟨u, g1, ⟨⟨by first | rfl | trivial, nb_eq h1.1, nb_eq h1.2⟩, g2⟩, g3⟩
    · obtain ⟨h1, h2⟩ := cnd h
      unfold tMin at h2
      split at h2
      · rename_i k a q b hx hy
        have e1 : (erS T s).ev (args.getD 0 (.const .nilIface)) = .d (.int k a) := by rw [ev_er]; exact congrArg (er T) (asI_eq hx)
        have e2 : (erS T s).ev (args.getD 1 (.const .nilIface)) = .d (.int q b) := by rw [ev_er]; exact congrArg (er T) (asI_eq hy)
        refine ⟨_, h2, ⟨nb_eq h1, ?_⟩, ?_⟩
        · show twoInts _ _; rw [e1, e2]; trivial
        · show minV _ _ = _; rw [e1, e2]; rfl
      · exact h2.elim
    · obtain ⟨h1, h2⟩ := cnd h
      unfold tMax at h2
      split at h2
      · rename_i k a q b hx hy
        have e1 : (erS T s).ev (args.getD 0 (.const .nilIface)) = .d (.int k a) := by rw [ev_er]; exact congrArg (er T) (asI_eq hx)
        have e2 : (erS T s).ev (args.getD 1 (.const .nilIface)) = .d (.int q b) := by rw [ev_er]; exact congrArg (er T) (asI_eq hy)
        refine ⟨_, h2, ⟨nb_eq h1, ?_⟩, ?_⟩
        · show twoInts _ _; rw [e1, e2]; trivial
        · show maxV _ _ = _; rw [e1, e2]; rfl
      · exact h2.elim
    · exact h.elim
  | _ => exact h.elim
end
end Go.Cv
namespace Go.Cv
open Go Go.Bv Go.RowKit Go.Md
inductive KC where
  | nilPtr
  | nilMap
  | nilSlice
  | nilFunc
  | undef
  | fn (f : Nat)
def KC.v : KC → Value
  | .nilPtr => .pointer none
  | .nilMap => .map none
  | .nilSlice => .slice none 0 0
  | .nilFunc => .nilFunc
  | .undef => Go.undef
  | .fn f => .func (.func f) #[] #[]
def KC.is : KC → Value → Bool
  | .nilPtr, .pointer none => true
  | .nilMap, .map none => true
  | .nilSlice, v => isNilK v
  | .nilFunc, .nilFunc => true
  | .undef, .tuple a => Nat.beq a.size 0
  | .fn f, .func (.func g) a b => Nat.beq f g && Nat.beq a.size 0 && Nat.beq b.size 0
  | _, _ => false
inductive Sh1 where
  | any
  | k (c : KC)
  | d (t : Ty)
  | full (e : Ty)
  | own (tok : Nat)
  | ptr (id off : Nat)
  | row (id : Nat)
inductive Sh0 where
  | one (s : Sh1)
  | agg (l : List Sh1)
inductive Sh where
  | one (s : Sh0)
  | tup (l : List Sh0)
inductive OSh where
  | cells (l : List Sh1)
  | tip (e : Ty)
  | vec (e : Ty)
  | dead
def hs1 (s : Sh1) (r : List Ty) : List Ty := match s with
  | .d t => t :: r
  | .full e => .sl e :: r
  | _ => r
def hsL : List Sh1 → List Ty → List Ty
  | [], r => r
  | s :: l, r => hs1 s (hsL l r)
def hs0 (s : Sh0) (r : List Ty) : List Ty := match s with
  | .one s => hs1 s r
  | .agg l => hsL l r
def hsT : List Sh0 → List Ty → List Ty
  | [], r => r
  | s :: l, r => hs0 s (hsT l r)
def hsV (s : Sh) (r : List Ty) : List Ty := match s with
  | .one s => hs0 s r
  | .tup l => hsT l r
def hsO1 (o : OSh) (r : List Ty) : List Ty := match o with
  | .cells l => hsL l r
  | _ => r
def hsC : List OSh → List Ty → List Ty
  | [], r => r
  | o :: l, r => hsO1 o (hsC l r)
def hsB : List OSh → List Ty
  | [] => []
  | .tip e :: l => .sl e :: hsB l
  | .vec e :: l => .sl e :: hsB l
  | .cells _ :: l => hsB l
  | .dead :: l => hsB l
abbrev hsOs (l : List OSh) : List Ty := hsC l (hsB l)
section
variable {S : Nat → Type}
def tkB : (l : List OSh) → HL S (hsB l) → List (Option (TOb S))
  | [], _ => []
  | .tip e :: l, x => some (.tip e x.1) :: tkB l x.2
  | .vec e :: l, x => some (.vec e x.1) :: tkB l x.2
  | .cells _ :: l, x => none :: tkB l x
  | .dead :: l, x => none :: tkB l x
def fget (f : List (Option (TOb S))) (j : Nat) : Option (TOb S) := match f[j]? with
  | some (some o) => some o
  | _ => none
def ownT (k : Nat) : Option (TOb S) → TV S
  | some (.tip e l) => .own k e l
  | _ => .any
def rowT (k : Nat) : Option (TOb S) → TV S
  | some (.vec e l) => .row k e l.length
  | _ => .any
section
variable (σ : Nat → Nat) (f : List (Option (TOb S)))
def tk1 : (s : Sh1) → (r : List Ty) → HL S (hs1 s r) → TV S × HL S r
  | .any, _, x => (.any, x)
  | .k c, _, x => (.k c.v, x)
  | .d t, _, x => (.d t x.1, x.2)
  | .full e, _, x => (.full e x.1, x.2)
  | .own j, _, x => (ownT (σ j) (fget f j), x)
  | .ptr j off, _, x => (.ptr (σ j) off, x)
  | .row j, _, x => (rowT (σ j) (fget f j), x)
def tkL : (l : List Sh1) → (r : List Ty) → HL S (hsL l r) → List (TV S) × HL S r
  | [], _, x => ([], x)
  | s :: l, r, x => ((tk1 σ f s (hsL l r) x).1 :: (tkL l r (tk1 σ f s (hsL l r) x).2).1, (tkL l r (tk1 σ f s (hsL l r) x).2).2)
def tk0 : (s : Sh0) → (r : List Ty) → HL S (hs0 s r) → TV S × HL S r
  | .one s, r, x => tk1 σ f s r x
  | .agg l, r, x => (.agg (tkL σ f l r x).1, (tkL σ f l r x).2)
def tkT : (l : List Sh0) → (r : List Ty) → HL S (hsT l r) → List (TV S) × HL S r
  | [], _, x => ([], x)
  | s :: l, r, x => ((tk0 σ f s (hsT l r) x).1 :: (tkT l r (tk0 σ f s (hsT l r) x).2).1, (tkT l r (tk0 σ f s (hsT l r) x).2).2)
def tkV : (s : Sh) → (r : List Ty) → HL S (hsV s r) → TV S × HL S r
  | .one s, r, x => tk0 σ f s r x
  | .tup l, r, x => (.tup (tkT σ f l r x).1, (tkT σ f l r x).2)
def tkO1 (g : Option (TOb S)) : (o : OSh) → (r : List Ty) → HL S (hsO1 o r) → TOb S × HL S r
  | .cells l, r, x => (.cells (tkL σ f l r x).1, (tkL σ f l r x).2)
  | .tip _, _, x => (g.getD .dead, x)
  | .vec _, _, x => (g.getD .dead, x)
  | .dead, _, x => (.dead, x)
def tkC : (k : Nat) → (l : List OSh) → (r : List Ty) → HL S (hsC l r) → List (TOb S) × HL S r
  | _, [], _, x => ([], x)
  | k, o :: l, r, x => ((tkO1 σ f (fget f k) o (hsC l r) x).1 :: (tkC (k + 1) l r (tkO1 σ f (fget f k) o (hsC l r) x).2).1, (tkC (k + 1) l r (tkO1 σ f (fget f k) o (hsC l r) x).2).2)
end
def dr1 : (s : Sh1) → (r : List Ty) → HL S (hs1 s r) → HL S r
  | .any, _, x => x
  | .k _, _, x => x
  | .d _, _, x => x.2
  | .full _, _, x => x.2
  | .own _, _, x => x
  | .ptr _ _, _, x => x
  | .row _, _, x => x
def drL : (l : List Sh1) → (r : List Ty) → HL S (hsL l r) → HL S r
  | [], _, x => x
  | s :: l, r, x => drL l r (dr1 s (hsL l r) x)
def dr0 : (s : Sh0) → (r : List Ty) → HL S (hs0 s r) → HL S r
  | .one s, r, x => dr1 s r x
  | .agg l, r, x => drL l r x
def drT : (l : List Sh0) → (r : List Ty) → HL S (hsT l r) → HL S r
  | [], _, x => x
  | s :: l, r, x => drT l r (dr0 s (hsT l r) x)
def drV : (s : Sh) → (r : List Ty) → HL S (hsV s r) → HL S r
  | .one s, r, x => dr0 s r x
  | .tup l, r, x => drT l r x
def drO1 : (o : OSh) → (r : List Ty) → HL S (hsO1 o r) → HL S r
  | .cells l, r, x => drL l r x
  | .tip _, _, x => x
  | .vec _, _, x => x
  | .dead, _, x => x
def drC : (l : List OSh) → (r : List Ty) → HL S (hsC l r) → HL S r
  | [], _, x => x
  | o :: l, r, x => drC l r (drO1 o (hsC l r) x)
def mtB (h : THp S) (σ : Nat → Nat) : (k : Nat) → (l : List OSh) → Option (HL S (hsB l))
  | _, [] => some ()
  | k, .tip e :: l => match getH h (σ k) with
    | some (.tip e' x) => match castL e' e x with
      | some x => match mtB h σ (k + 1) l with
        | some y => some (x, y)
        | none => none
      | none => none
    | _ => none
  | k, .vec e :: l => match getH h (σ k) with
    | some (.vec e' x) => match castL e' e x with
      | some x => match mtB h σ (k + 1) l with
        | some y => some (x, y)
        | none => none
      | none => none
    | _ => none
  | k, .cells _ :: l => mtB h σ (k + 1) l
  | k, .dead :: l => mtB h σ (k + 1) l
section
variable (σ : Nat → Nat) (f : List (Option (TOb S)))
def mtOwn {β : Type} (k : Nat) (tok : Nat) (e : Ty) (l : List (e.den S)) (g : Option (TOb S)) (a : β) (K : β → Prop) : Prop := match g with
  | some (.tip e' l') => bif Nat.beq tok k then (match castL e e' l with
    | some l => l = l' ∧ K a
    | none => False) else False
  | _ => False
def mtRow {β : Type} (k : Nat) (id : Nat) (e : Ty) (n : Nat) (g : Option (TOb S)) (a : β) (K : β → Prop) : Prop := match g with
  | some (.vec e' l') => bif Nat.beq id k && e.beq e' then n = l'.length ∧ K a else False
  | _ => False
def mt1 : (s : Sh1) → (r : List Ty) → TV S → HL S r → (HL S (hs1 s r) → Prop) → Prop
  | .any, _, _, a, K => K a
  | .k c, _, v, a, K => match v with
    | .k v => bif c.is v then K a else False
    | _ => False
  | .d t, _, v, a, K => match toEl1 t v with
    | some x => K (x, a)
    | none => False
  | .full e, _, v, a, K => match v with
    | .full e' l => match castL e' e l with
      | some x => K (x, a)
      | none => False
    | .k v => bif isNilK v then K ([], a) else False
    | _ => False
  | .own j, _, v, a, K => match v with
    | .own tok e l => mtOwn (σ j) tok e l (fget f j) a K
    | _ => False
  | .ptr j off, _, v, a, K => match v with
    | .ptr id off' => bif Nat.beq id (σ j) && Nat.beq off' off then K a else False
    | _ => False
  | .row j, _, v, a, K => match v with
    | .row id e n => mtRow (σ j) id e n (fget f j) a K
    | _ => False
def mtL : (l : List Sh1) → (r : List Ty) → List (TV S) → HL S r → (HL S (hsL l r) → Prop) → Prop
  | [], _, [], a, K => K a
  | s :: l, r, v :: vs, a, K => mtL l r vs a fun b => mt1 σ f s (hsL l r) v b K
  | _, _, _, _, _ => False
def mt0 : (s : Sh0) → (r : List Ty) → TV S → HL S r → (HL S (hs0 s r) → Prop) → Prop
  | .one s, r, v, a, K => mt1 σ f s r v a K
  | .agg l, r, v, a, K => match v with
    | .agg vs => mtL σ f l r vs a K
    | _ => False
def mtT : (l : List Sh0) → (r : List Ty) → List (TV S) → HL S r → (HL S (hsT l r) → Prop) → Prop
  | [], _, [], a, K => K a
  | s :: l, r, v :: vs, a, K => mtT l r vs a fun b => mt0 σ f s (hsT l r) v b K
  | _, _, _, _, _ => False
def mtV : (s : Sh) → (r : List Ty) → TV S → HL S r → (HL S (hsV s r) → Prop) → Prop
  | .one s, r, v, a, K => mt0 σ f s r v a K
  | .tup l, r, v, a, K => match v with
    | .tup vs => mtT σ f l r vs a K
    | _ => False
def mtO1 (h : THp S) (k : Nat) : (o : OSh) → (r : List Ty) → HL S r → (HL S (hsO1 o r) → Prop) → Prop
  | .cells l, r, a, K => match getH h (σ k) with
    | some (.cells vs) => mtL σ f l r vs a K
    | _ => False
  | .tip _, _, a, K => K a
  | .vec _, _, a, K => K a
  | .dead, _, a, K => K a
def mtC (h : THp S) : (k : Nat) → (l : List OSh) → (r : List Ty) → HL S r → (HL S (hsC l r) → Prop) → Prop
  | _, [], _, a, K => K a
  | k, o :: l, r, a, K => mtC h (k + 1) l r a fun b => mtO1 σ f h k o (hsC l r) b K
end
def eqH : (ts : List Ty) → HL S ts → HL S ts → Prop
  | [], _, _ => True
  | [_], x, y => x.1 = y.1
  | _ :: t :: r, x, y => x.1 = y.1 ∧ eqH (t :: r) x.2 y.2
end
structure Con (S : Nat → Type) where
  f : Nat
  ins : List Sh0
  pre : List OSh
  res : Sh
  post : List OSh
  R : HL S (hsT ins (hsOs pre)) → (HL S (hsV res (hsOs post)) → Prop) → Prop
structure XCon (S : Nat → Type) where
  f : Nat
  ins : List Ty
  out : List Ty
  ok : HL S ins → Prop
  val : HL S ins → HL S out
section
variable {S : Nat → Type}
def Con.fn (f : Nat) (ins : List Sh0) (pre : List OSh) (res : Sh) (post : List OSh) (ok : HL S (hsT ins (hsOs pre)) → Prop) (v : HL S (hsT ins (hsOs pre)) → HL S (hsV res (hsOs post))) : Con S := ⟨f, ins, pre, res, post, fun x K => ok x ∧ K (v x)⟩
def idf (j : Nat) : Nat := j
def Con.fi (c : Con S) (x : HL S (hsT c.ins (hsOs c.pre))) : List (Option (TOb S)) := tkB c.pre (drC c.pre _ (drT c.ins _ x))
def Con.fo (c : Con S) (x : HL S (hsV c.res (hsOs c.post))) : List (Option (TOb S)) := tkB c.post (drC c.post _ (drV c.res _ x))
def Con.args (c : Con S) (σ : Nat → Nat) (x : HL S (hsT c.ins (hsOs c.pre))) : List (TV S) := (tkT σ (c.fi x) c.ins _ x).1
def Con.obs (c : Con S) (σ : Nat → Nat) (x : HL S (hsT c.ins (hsOs c.pre))) : List (TOb S) := (tkC σ (c.fi x) 0 c.pre _ (drT c.ins _ x)).1
def Con.val (c : Con S) (σ : Nat → Nat) (x : HL S (hsV c.res (hsOs c.post))) : TV S := (tkV σ (c.fo x) c.res _ x).1
def Con.ops (c : Con S) (σ : Nat → Nat) (x : HL S (hsV c.res (hsOs c.post))) : List (TOb S) := (tkC σ (c.fo x) 0 c.post _ (drV c.res _ x)).1
def bd1 (env : List (Nat × Nat)) : Sh1 → TV S → List (Nat × Nat)
  | .own j, .own tok _ _ => (j, tok) :: env
  | .ptr j _, .ptr id _ => (j, id) :: env
  | .row j, .row id _ _ => (j, id) :: env
  | _, _ => env
def bdL (env : List (Nat × Nat)) : List Sh1 → List (TV S) → List (Nat × Nat)
  | s :: l, v :: vs => bdL (bd1 env s v) l vs
  | _, _ => env
def bd0 (env : List (Nat × Nat)) : Sh0 → TV S → List (Nat × Nat)
  | .one s, v => bd1 env s v
  | .agg l, .agg vs => bdL env l vs
  | _, _ => env
def bdT (env : List (Nat × Nat)) : List Sh0 → List (TV S) → List (Nat × Nat)
  | s :: l, v :: vs => bdT (bd0 env s v) l vs
  | _, _ => env
def envGet : List (Nat × Nat) → Nat → Option Nat
  | [], _ => none
  | p :: r, j => bif Nat.beq j p.1 then some p.2 else envGet r j
def bdO (h : THp S) (env : List (Nat × Nat)) : OSh → Option Nat → List (Nat × Nat)
  | .cells l, some id => match getH h id with
    | some (.cells vs) => bdL env l vs
    | _ => env
  | _, _ => env
def bdOs (h : THp S) : Nat → List OSh → List (Nat × Nat) → List Nat → Option (List Nat)
  | _, [], _, acc => some acc.reverse
  | k, o :: os, env, acc => match envGet env k with
    | some id => bdOs h (k + 1) os (bdO h env o (some id)) (id :: acc)
    | none => none
def memB : Nat → List Nat → Bool
  | _, [] => false
  | x, y :: r => Nat.beq x y || memB x r
def nodupB : List Nat → Bool
  | [] => true
  | x :: r => !memB x r && nodupB r
def allLt (n : Nat) : List Nat → Bool
  | [] => true
  | x :: r => Nat.blt x n && allLt n r
def ok1B (m : Nat) : Sh1 → Bool
  | .own j => Nat.blt j m
  | .ptr j _ => Nat.blt j m
  | .row j => Nat.blt j m
  | _ => true
def okLB (m : Nat) : List Sh1 → Bool
  | [] => true
  | s :: l => ok1B m s && okLB m l
def ok0B (m : Nat) : Sh0 → Bool
  | .one s => ok1B m s
  | .agg l => okLB m l
def okTB (m : Nat) : List Sh0 → Bool
  | [] => true
  | s :: l => ok0B m s && okTB m l
def okVB (m : Nat) : Sh → Bool
  | .one s => ok0B m s
  | .tup l => okTB m l
def okOB (m : Nat) : OSh → Bool
  | .cells l => okLB m l
  | _ => true
def okOsB (m : Nat) : List OSh → Bool
  | [] => true
  | s :: l => okOB m s && okOsB m l
def preNoDead : List OSh → Bool
  | [] => true
  | .dead :: _ => false
  | _ :: r => preNoDead r
def freshNoTip (dr : Bool) (n : Nat) (post : List OSh) : Bool := match dr with
  | true => (post.drop n).all fun o => match o with
    | .tip _ => false
    | _ => true
  | false => true
def kind1B (l : List OSh) : Sh1 → Bool
  | .own j => match l[j]? with
    | some (.tip _) => true
    | _ => false
  | .row j => match l[j]? with
    | some (.vec _) => true
    | _ => false
  | .d t => !t.agg
  | _ => true
def one1B : Sh1 → Bool
  | .any => false
  | .k .undef => false
  | .d t => !t.agg
  | _ => true
def kindLB (l : List OSh) : List Sh1 → Bool
  | [] => true
  | s :: r => kind1B l s && one1B s && kindLB l r
def kind0B (l : List OSh) : Sh0 → Bool
  | .one s => kind1B l s
  | .agg c => kindLB l c
def kindTB (l : List OSh) : List Sh0 → Bool
  | [] => true
  | s :: r => kind0B l s && kindTB l r
def kindVB (l : List OSh) : Sh → Bool
  | .one s => kind0B l s
  | .tup r => kindTB l r
def kindOB (l : List OSh) : List OSh → Bool
  | [] => true
  | .cells c :: r => kindLB l c && kindOB l r
  | _ :: r => kindOB l r
def Con.okB (c : Con S) : Bool := okTB c.pre.length c.ins && okOsB c.pre.length c.pre && okVB c.post.length c.res && okOsB c.post.length c.post && Nat.ble c.pre.length c.post.length && preNoDead c.pre && kindTB c.pre c.ins && kindOB c.pre c.pre && kindVB c.post c.res && kindOB c.post c.post
def hpN (σ : Nat → Nat) : Nat → List (TOb S) → THp S
  | _, [] => []
  | k, o :: r => (σ k, o) :: hpN σ (k + 1) r
def tCall (c : Con S) (dr : Bool) (fr : Nat) (h : THp S) (vs : List (TV S)) (K : TV S → THp S → Nat → Prop) : Prop :=
  match bdOs h 0 c.pre (bdT [] c.ins vs) [] with
  | none => False
  | some ids => match mtB h (sgm ids fr) 0 c.pre with
    | none => False
    | some b => bif c.okB && nodupB ids && allLt fr ids && Nat.beq ids.length c.pre.length && freshNoTip dr c.pre.length c.post then
        mtC (sgm ids fr) (tkB c.pre b) h 0 c.pre (hsB c.pre) b fun b' => mtT (sgm ids fr) (tkB c.pre b) c.ins (hsOs c.pre) vs b' fun x =>
          c.R x fun o => K (c.val (sgm ids fr) o) (hpN (sgm ids fr) 0 (c.ops (sgm ids fr) o)) (c.post.length - c.pre.length)
      else False
def fit1 : Sh1 → TV S → Bool
  | .any, _ => true
  | .k c, .k v => c.is v
  | .d t, v => match v with
    | .d _ _ => true
    | .lit _ => true
    | .full _ _ => true
    | .own _ _ _ => true
    | .k v => isNilK v
    | _ => false
  | .full _, .full _ _ => true
  | .full _, .k v => isNilK v
  | .own _, .own _ _ _ => true
  | .ptr _ o, .ptr _ o' => Nat.beq o o'
  | .row _, .row _ _ _ => true
  | _, _ => false
def fitL : List Sh1 → List (TV S) → Bool
  | [], [] => true
  | s :: l, v :: vs => fit1 s v && fitL l vs
  | _, _ => false
def fit0 : Sh0 → TV S → Bool
  | .one s, v => fit1 s v
  | .agg l, .agg vs => fitL l vs
  | _, _ => false
def fitT : List Sh0 → List (TV S) → Bool
  | [], [] => true
  | s :: l, v :: vs => fit0 s v && fitT l vs
  | _, _ => false
def findC (f : Nat) (vs : List (TV S)) (K : Con S → Prop) : List (Con S) → Prop
  | [] => False
  | c :: r => bif Nat.beq c.f f && fitT c.ins vs then K c else findC f vs K r
def findX (f : Nat) : List (XCon S) → Option (XCon S)
  | [] => none
  | c :: r => bif Nat.beq c.f f then some c else findX f r
def tvs (ts : List Ty) (x : HL S ts) : List (TV S) := (tds ts x).map TD.v
def outV : (ts : List Ty) → HL S ts → TV S
  | [t], x => .d t x.1
  | ts, x => .tup (tvs ts x)
end
section
variable (T : Tab)
structure Cx where
  ti : BT (TI T.den)
  cs : List (Con T.den)
  xs : List (XCon T.den)
  S : Nat
def tFill (pl : List (Nat × Nat)) (K : List (TV T.den) → Prop) : List (TV T.den) → List (Nat × TV T.den) → Prop
  | l, [] => K l
  | l, p :: r => match pl[p.1]? with
    | some (off, n) => bif Nat.beq p.2.cells.length n && allOne p.2.cells && Nat.ble (off + n) l.length then tFill pl K (TV.setL l off p.2.cells) r else False
    | none => False
def toEls (e : Ty) : List (TV T.den) → Option (List (e.den T.den))
  | [] => some []
  | v :: r => match toEl T e v with
    | some x => match toEls e r with
      | some y => some (x :: y)
      | none => none
    | none => none
def noK : TV T.den → Bool
  | .k _ => false
  | .agg l => l.all fun v => match v with
    | .k _ => false
    | _ => true
  | _ => true
def rangeB : Nat → List Nat → Bool
  | _, [] => true
  | k, i :: r => Nat.beq i k && rangeB (k + 1) r
def setI (t : Ty) (v : t.den T.den) (i : Int) : Nat → List (t.den T.den) → List (TV T.den)
  | _, [] => []
  | j, x :: r => .d t (bif decide (i = (j : Int)) then v else x) :: setI t v i (j + 1) r
def stA (K : List (TV T.den) → Prop) (i : Int) (x : TV T.den) : List (TV T.den) → Prop
  | .d t y :: r => bif t.agg then False else match colT t r, x.toB with
    | some ys, .d t' v => match Ty.cast (Ty.den T.den) t' t v with
      | some v => K (setI T t v i 0 (y :: ys))
      | none => False
    | _, _ => False
  | _ => False
def allD : List (TV T.den) → Bool
  | [] => true
  | .d _ _ :: r => allD r
  | .lit _ :: r => allD r
  | _ => false
def tStore (ti : TI T.den) (dr : Bool) (h : THp T.den) (a x : TV T.den) (K : TV T.den → THp T.den → Nat → Prop) : Prop := match ti.ty with
  | none => False
  | some (_, n) => bif Nat.beq x.cells.length n && allOne x.cells then (match a with
    | .ptr id off => match getH h id with
      | some (.cells l) => bif Nat.ble (off + n) l.length then K .any [(id, .cells (TV.setL l off x.cells))] 0 else False
      | _ => False
    | .aptr id off m i => match getH h id with
      | some (.cells l) => bif Nat.beq n 1 && Nat.ble (off + m) l.length then (0 ≤ i ∧ i < (m : Int)) ∧ stA T (fun cs => K .any [(id, .cells (TV.setL l off cs))] 0) i x ((l.drop off).take m) else False
      | _ => False
    | .eptr id e i off => match getH h id with
      | some (.vec e' l) => bif e.beq e' && Nat.ble (off + n) (T.sz e') && (!dr || allD T x.cells) then (match toEl T e' (bif e'.agg then .agg (TV.setL ((tcells T e' (@ix _ ⟨T.dflt e'⟩ l i)).map TD.v) off x.cells) else x) with
        | some y => (0 ≤ i ∧ i < (l.length : Int)) ∧ K .any [(id, .vec e' (l.set i.toNat y))] 0
        | none => False) else False
      | _ => False
    | _ => False) else False
def tAppend (ti : TI T.den) (dr : Bool) (fr : Nat) (h : THp T.den) (x y : TV T.den) (K : TV T.den → THp T.den → Nat → Prop) : Prop := match ti.el with
  | none => False
  | some (e, bt) => match els e y with
    | none => False
    | some m => match x with
      | .own tok e0 l => match getH h tok with
        | some (.tip _ l') => match castL e0 e l with
          | some l => l'.length = l.length ∧ (l.length + m.length) * bt ≤ 140737488355328 ∧ l.length + m.length ≤ maxLen ∧ K (.own tok e (l ++ m)) [(tok, .tip e (l ++ m))] 0
          | none => False
        | _ => False
      | .full e' l => match dr, castL e' e l with
        | false, some l => (l.length + m.length) * bt ≤ 140737488355328 ∧ l.length + m.length ≤ maxLen ∧ K (.own fr e (l ++ m)) [(fr, .tip e (l ++ m))] 1
        | _, _ => False
      | .k v => match dr with
        | false => bif isNilK v then m.length * bt ≤ 140737488355328 ∧ m.length ≤ maxLen ∧ K (.own fr e m) [(fr, .tip e m)] 1 else False
        | true => False
      | _ => False
def tCopy (ti : TI T.den) (h : THp T.den) (x y : TV T.den) (K : TV T.den → THp T.den → Nat → Prop) : Prop := match ti.el with
  | none => False
  | some (e, _) => match x with
    | .row id e0 n => match getH h id with
      | some (.vec e' l) => match els e' y with
        | some m => bif e.beq e' && e0.beq e' then n = l.length ∧ K (.d (.int .i64) ((min m.length l.length : Nat) : Int)) [(id, .vec e' (rowOver l m l.length))] 0 else False
        | none => False
      | _ => False
    | _ => False
def tMake (ti : TI T.den) (fr : Nat) (co : Operand) (x y : TV T.den) (K : TV T.den → THp T.den → Nat → Prop) : Prop := match ti.el, ti.ez, x.asI, y.asI with
  | some (e, bt), true, some (_, n), some (_, c) => 0 ≤ n ∧ n ≤ c ∧ ask co (c.toNat * bt ≤ 140737488355328) (ask co (c.toNat ≤ maxLen) (K (.row fr e n.toNat) [(fr, .vec e (List.replicate n.toNat (T.dflt e)))] 1))
  | _, _, _, _ => False
def noPrim : Option (Ty × Nat) → Bool
  | some (e, _) => !e.prim
  | none => true
def fnOf : TV T.den → Option Nat
  | .k (.func (.func g) a b) => bif Nat.beq a.size 0 && Nat.beq b.size 0 then some g else none
  | _ => none
def tOp (C : Cx T) (dr : Bool) (fr : Nat) (s : TSt T.den) (K : TV T.den → THp T.den → Nat → Prop) : Op → Prop
  | .alloc t => match (TI.of C.ti t).ze with
    | some z => K (.ptr fr 0) [(fr, .cells z)] 1
    | none => False
  | .box _ x => bif allOne (s.ev x).cells then K (.ptr fr 0) [(fr, .cells (s.ev x).cells)] 1 else False
  | .store t a x => tStore T (TI.of C.ti t) dr s.h (s.ev a) (s.ev x) K
  | .build t parts => match (TI.of C.ti t).ze with
    | some z => bif (TI.of C.ti t).pl.isEmpty then False else tFill T (TI.of C.ti t).pl (fun l => K (.agg l) [] 0) z (parts.toList.map fun p => (p.1, s.ev p.2))
    | none => False
  | .buildSlice t n parts => match (TI.of C.ti t).el with
    | some (e, _) => match toEls T e (parts.toList.map fun p => s.ev p.2) with
      | some l => bif (parts.toList.map fun p => s.ev p.2).all (noK T) && rangeB 0 (parts.toList.map (·.1)) && Nat.beq n parts.toList.length && Nat.ble (n * T.sz e) 16777216 then K (.full e l) [] 1 else False
      | none => False
    | none => False
  | .makeSlice t n c => bif dr && noPrim (TI.of C.ti t).el then False else tMake T (TI.of C.ti t) fr c (s.ev n) (s.ev c) K
  | .call c => match c.callee with
    | .builtin .append => bif Nat.beq c.args.size 2 && Nat.beq c.argTypes.size 2 && Nat.beq (c.argTypes.getD 0 0) (c.argTypes.getD 1 0) then tAppend T (TI.of C.ti (c.argTypes.getD 0 0)) dr fr s.h (s.ev (a2 c 0)) (s.ev (a2 c 1)) K else False
    | .builtin .copy => match dr with
      | false => bif Nat.beq c.args.size 2 && Nat.beq c.argTypes.size 2 then tCopy T (TI.of C.ti (c.argTypes.getD 0 0)) s.h (s.ev (a2 c 0)) (s.ev (a2 c 1)) K else False
      | true => False
    | .value f => match fnOf T (s.ev f) with
      | some g => match findX g C.xs with
        | some x => match packL x.ins (c.args.toList.map s.ev) with
          | some i => x.ok i ∧ K (outV x.out (x.val i)) [] 0
          | none => False
        | none => findC g (c.args.toList.map s.ev) (fun k => tCall k dr fr s.h (c.args.toList.map s.ev) K) C.cs
      | none => False
    | _ => tq T C.ti s (fun v => K v [] 0) (.call c)
  | op => tq T C.ti s (fun v => K v [] 0) op
def rdT (s : TSt T.den) : Op → List Nat
  | .load _ a => match s.ev a with
    | .ptr id _ => [id]
    | .aptr id _ _ _ => [id]
    | .eptr id _ _ _ => [id]
    | _ => []
  | _ => []
def dstB (N : Nat) : Option Nat → Bool
  | some t => Nat.blt t N
  | none => true
def isUndef : Value → Bool
  | .tuple a => Nat.beq a.size 0
  | _ => false
def slotOf (tb : List (Option Nat)) (j : Nat) : Option Nat := match tb[j]? with
  | some (some t) => some t
  | _ => none
def tGuard (s : TSt T.den) (tb : List (Option Nat)) (g : Option (Nat × Bool)) (run no : TSt T.den → Prop) : Prop := match g with
  | none => run s
  | some (j, b) => match slotOf tb j with
    | none => False
    | some u => match getT s.sl u with
      | .k v => bif isUndef v then no s else False
      | .lit t => bif (t == b) then run s else no s
      | .d .bool t => (t = true → (bif b then run else no) ⟨(u, .lit true) :: s.sl, s.h, s.nx⟩) ∧ (t = false → (bif b then no else run) ⟨(u, .lit false) :: s.sl, s.h, s.nx⟩)
      | _ => False
def tStep (C : Cx T) (s : TSt T.den) (K : TV T.den → THp T.den → Nat → Prop) : Op → Prop
  | .binOp op t x y t' => match (s.ev y).isNil with
    | true => tNil T op (TI.of C.ti t) (s.ev x) fun v => K v [] 0
    | false => tOp T C false s.nx s K (.binOp op t x y t')
  | op => tOp T C false s.nx s K op
def tOps (C : Cx T) (N : Nat) (tb : List (Option Nat)) : List Oper → TSt T.den → (TSt T.den → Prop) → Prop
  | [], s, K => K s
  | o :: r, s, K => bif dstB N o.dst then tGuard T s tb o.guard (fun s => tStep T C s (fun v hu nf => tOps C N tb r (TSt.put ⟨s.sl, hu ++ s.h, s.nx + nf⟩ o.dst v) K) o.op) (fun s => tOps C N tb r (s.put o.dst (.k undef)) K) else False
def wsB (af : Array Edge) (id : Nat) : List (Nat × Nat) → Bool
  | [] => true
  | p :: r => (!Nat.beq p.1 id || edgeB af p.2) && wsB af id r
def wrB (nb S k : Nat) (ws rs : List (Nat × Nat)) (af : Array Edge) (h : THp T.den) : List Nat → Bool
  | [] => true
  | id :: r => wsB af id ws && wsB af id rs && Nat.blt id (frs nb S (k + 1)) && (Nat.ble (frs nb S k) id || (getH h id).isSome) && wrB nb S k ws rs af h r
def rdB (ws : List (Nat × Nat)) (af : Array Edge) : List Nat → Bool
  | [] => true
  | id :: r => wsB af id ws && rdB ws af r
def keysT (h : THp T.den) : List Nat := h.map (·.1)
def tDs (C : Cx T) (N : Nat) (tb : List (Option Nat)) (nb S : Nat) : List Oper → List (Nat × Nat) → List (Nat × Nat) → Nat → TSt T.den → (TSt T.den → Prop) → Prop
  | [], _, _, _, s, K => K s
  | o :: r, ws, rs, k, s, K => bif dstB N o.dst then tGuard T s tb o.guard
      (fun s => bif rdB ws o.after (rdT T s o.op) then tOp T C true (frs nb S k) s (fun v hu nf => bif Nat.ble nf S && wrB T nb S k ws rs o.after s.h (keysT T hu) then
          tDs C N tb nb S r ((keysT T hu).map (·, k) ++ ws) ((rdT T s o.op).map (·, k) ++ rs) (k + 1) (TSt.put ⟨s.sl, hu ++ s.h, s.nx⟩ o.dst v) K else False) o.op else False)
      (fun s => tDs C N tb nb S r ws rs (k + 1) (s.put o.dst (.k undef)) K) else False
def sgs (is : List Nat) (j : Nat) : Nat := is.getD j 0
structure Tm where
  ids : List Nat
  os : List OSh
  ts : List Nat
  ss : List Sh0
  nx : Nat
def Tm.hs (m : Tm) : List Ty := hsT m.ss (hsOs m.os)
def Tm.f (m : Tm) (x : HL T.den m.hs) : List (Option (TOb T.den)) := tkB m.os (drC m.os _ (drT m.ss _ x))
def zipS : List Nat → List (TV T.den) → List (Nat × TV T.den)
  | t :: ts, v :: vs => (t, v) :: zipS ts vs
  | _, _ => []
def Tm.fill (m : Tm) (x : HL T.den m.hs) : TSt T.den := ⟨zipS T m.ts (tkT (sgs m.ids) (m.f T x) m.ss _ x).1, hpN (sgs m.ids) 0 (tkC (sgs m.ids) (m.f T x) 0 m.os _ (drT m.ss _ x)).1, m.nx⟩
def Tm.okB (m : Tm) : Bool := okTB m.os.length m.ss && okOsB m.os.length m.os && allLt m.nx m.ids && Nat.beq m.ids.length m.os.length && Nat.beq m.ts.length m.ss.length && kindTB m.os m.ss && kindOB m.os m.os
def Tm.mat (n0 : Nat) (m : Tm) (s : TSt T.den) (K : HL T.den m.hs → Prop) : Prop := bif Nat.ble n0 m.nx && Nat.ble m.nx s.nx && m.okB then (match mtB s.h (sgs m.ids) 0 m.os with
  | some b => mtC (sgs m.ids) (tkB m.os b) s.h 0 m.os (hsB m.os) b fun b' => mtT (sgs m.ids) (tkB m.os b) m.ss (hsOs m.os) (m.ts.map (getT s.sl)) b' K
  | none => False) else False
inductive Gs where
  | frz (id : Nat) (ts : List Nat)
  | frzc (id i j : Nat)
  | tok (t : Nat) (e : Ty)
  | tokc (id j : Nat) (e : Ty)
def growE (e : Ty) : TV T.den → Option (List (e.den T.den))
  | .full e' l => castL e' e l
  | .k v => bif isNilK v then some [] else none
  | _ => none
def rowsTo (id : Nat) (v : TV T.den) (n z : Nat) : List Nat → List (Nat × TV T.den) → (List (Nat × TV T.den) → Prop) → Prop
  | [], sl, K => K sl
  | t :: ts, sl, K => match getT sl t with
    | .row i e' m => bif Nat.beq i id && Nat.beq (T.sz e') z then m = n ∧ rowsTo id v n z ts ((t, v) :: sl) K else False
    | _ => False
def gh1 (s : TSt T.den) (K : TSt T.den → Prop) : Gs → Prop
  | .frz id ts => match getH s.h id with
    | some (.vec e l) => rowsTo T id (.own s.nx e l) l.length (T.sz e) ts s.sl fun sl => K ⟨sl, (s.nx, .tip e l) :: (id, .dead) :: s.h, s.nx + 1⟩
    | _ => False
  | .frzc id i j => match getH s.h id, getH s.h i with
    | some (.vec e l), some (.cells cs) => match cs[j]? with
      | some (.row id' e' m) => bif Nat.beq id' id && e'.beq e && !Nat.beq i id then m = l.length ∧ K ⟨s.sl, (i, .cells (cs.set j (.own s.nx e l))) :: (s.nx, .tip e l) :: (id, .dead) :: s.h, s.nx + 1⟩ else False
      | _ => False
    | _, _ => False
  | .tok t e => match growE T e (getT s.sl t) with
    | some l => K ⟨(t, .own s.nx e l) :: s.sl, (s.nx, .tip e l) :: s.h, s.nx + 1⟩
    | none => False
  | .tokc id j e => match getH s.h id with
    | some (.cells cs) => match cs[j]? with
      | some v => match growE T e v with
        | some l => K ⟨s.sl, (id, .cells (cs.set j (.own s.nx e l))) :: (s.nx, .tip e l) :: s.h, s.nx + 1⟩
        | none => False
      | none => False
    | _ => False
def ghs : List Gs → TSt T.den → (TSt T.den → Prop) → Prop
  | [], s, K => K s
  | g :: r, s, K => gh1 T s (fun s' => ghs r s' K) g
inductive An where
  | no
  | nd (ga : List Gs) (a : An) (gb : List Gs) (b : An)
  | jn (tm : Tm) (J : HL T.den tm.hs → Prop) (ga : List Gs) (a : An) (gb : List Gs) (b : An)
  | lp (g : List Gs) (tm : Tm) (L : (HL T.den tm.hs → Prop) → HL T.den tm.hs → Prop) (a : (HL T.den tm.hs → Prop) → An)
  | rt (g : List Gs)
def An.ga : An T → List Gs
  | .nd g _ _ _ => g
  | .jn _ _ g _ _ _ => g
  | .rt g => g
  | _ => []
def An.gb : An T → List Gs
  | .nd _ _ g _ => g
  | .jn _ _ _ _ g _ => g
  | _ => []
def An.a : An T → An T
  | .nd _ a _ _ => a
  | .jn _ _ _ a _ _ => a
  | _ => .no
def An.b : An T → An T
  | .nd _ _ _ b => b
  | .jn _ _ _ _ _ b => b
  | _ => .no
def thenT (K : TSt T.den → Prop) (Q : Exit → TSt T.den → Prop) : Exit → TSt T.den → Prop
  | .normal => K
  | e => Q e
def blockT (id : Nat) (Q : Exit → TSt T.den → Prop) : Exit → TSt T.den → Prop
  | .exit id' => bif Nat.beq id' id then Q .normal else Q (.exit id')
  | e => Q e
def regW (C : Cx T) (N : Nat) (ops : Array Oper) (dr : Bool) (s : TSt T.den) (K : TSt T.den → Prop) : Prop := match dr with
  | false => tOps T C N (ops.toList.map (·.dst)) ops.toList s K
  | true => bif Region.lexB .any ops then tDs T C N (ops.toList.map (·.dst)) s.nx C.S ops.toList [] [] 0 ⟨s.sl, s.h, s.nx + ops.toList.length * C.S⟩ K else False
def WP (C : Cx T) (N n0 : Nat) : Code → An T → TSt T.den → (Exit → TSt T.den → Prop) → Prop
  | .skip, _, s, Q => Q .normal s
  | .region _ ops dr, _, s, Q => regW T C N ops dr s (Q .normal)
  | .seq x _, .jn tm J ga a _ _, s, Q => ghs T ga s fun s => WP C N n0 x a s (thenT T (fun s' => tm.mat T n0 s' J) Q)
  | .seq x y, an, s, Q => ghs T an.ga s fun s => WP C N n0 x an.a s (thenT T (fun s' => ghs T an.gb s' fun s' => WP C N n0 y an.b s' Q) Q)
  | .cond c x y, an, s, Q => match s.ev c with
    | .lit true => ghs T an.ga s fun s => WP C N n0 x an.a s Q
    | .lit false => ghs T an.gb s fun s => WP C N n0 y an.b s Q
    | .d .bool t => (t = true → ghs T an.ga s fun s => WP C N n0 x an.a s Q) ∧ (t = false → ghs T an.gb s fun s => WP C N n0 y an.b s Q)
    | _ => False
  | .block id x, an, s, Q => WP C N n0 x an s (blockT T id Q)
  | .loop _, .lp g tm L _, s, _ => ghs T g s fun s => tm.mat T n0 s fun i => Md.Loop i L
  | .exit id, _, s, Q => Q (.exit id) s
  | .ret, an, s, Q => ghs T an.ga s (Q .ret)
  | .label _, _, s, Q => Q .normal s
  | _, _, _, _ => False
def Obl (C : Cx T) (N n0 : Nat) : Code → An T → (Exit → TSt T.den → Prop) → Prop
  | .seq x y, .jn tm J _ a gb b, Q => Obl C N n0 x a (thenT T (fun s' => tm.mat T n0 s' J) Q) ∧ (∀ i, J i = ghs T gb (tm.fill T i) fun s' => WP T C N n0 y b s' Q) ∧ Obl C N n0 y b Q
  | .seq x y, an, Q => Obl C N n0 x an.a (thenT T (fun s' => ghs T an.gb s' fun s' => WP T C N n0 y an.b s' Q) Q) ∧ Obl C N n0 y an.b Q
  | .cond _ x y, an, Q => Obl C N n0 x an.a Q ∧ Obl C N n0 y an.b Q
  | .block id x, an, Q => Obl C N n0 x an (blockT T id Q)
  | .loop x, .lp _ tm L a, Q => (∀ nx i, L nx i = WP T C N n0 x (a nx) (tm.fill T i) (thenT T (fun s' => tm.mat T n0 s' nx) Q)) ∧ ∀ nx, Obl C N n0 x (a nx) (thenT T (fun s' => tm.mat T n0 s' nx) Q)
  | _, _, _ => True
def resT (I : BT (TI T.den)) (s : TSt T.den) : List ResultVar → (List (TV T.den) → Prop) → Prop
  | [], K => K []
  | .tmp t :: r, K => resT I s r fun l => K (getT s.sl t :: l)
  | .cell t ty :: r, K => tLoad T (TI.of I ty) s.h (getT s.sl t) fun v => resT I s r fun l => K (v :: l)
def retTV : List (TV T.den) → TV T.den
  | [x] => x
  | l => .tup l
def idEnv : Nat → List (Nat × Nat)
  | 0 => []
  | n + 1 => (n, n) :: idEnv n
def bdV (env : List (Nat × Nat)) : Sh → TV T.den → List (Nat × Nat)
  | .one s, v => bd0 env s v
  | .tup l, .tup vs => bdT env l vs
  | _, _ => env
def selfB : Nat → Nat → List Nat → Bool
  | 0, _, _ => true
  | n + 1, k, i :: r => Nat.beq i k && selfB n (k + 1) r
  | _ + 1, _, [] => false
def noTupB : List (TV T.den) → Bool
  | [] => true
  | .tup _ :: _ => false
  | _ :: r => noTupB r
def retT (C : Cx T) (c : Con T.den) (rs : List ResultVar) (o : HL T.den (hsV c.res (hsOs c.post))) (s : TSt T.den) : Prop :=
  resT T C.ti s rs fun l => match bdOs s.h 0 c.post (idEnv c.pre.length ++ bdV T [] c.res (retTV T l)) [] with
    | none => False
    | some ids => match mtB s.h (rh ids) 0 c.post with
      | none => False
      | some b => bif c.okB && nodupB ids && allLt s.nx ids && Nat.beq ids.length c.post.length && selfB c.pre.length 0 ids && noTupB T l then
          mtC (rh ids) (tkB c.post b) s.h 0 c.post (hsB c.post) b fun b' => mtV (rh ids) (tkB c.post b) c.res (hsOs c.post) (retTV T l) b' fun x => eqH (hsV c.res (hsOs c.post)) x o
        else False
def retTQ (C : Cx T) (c : Con T.den) (rs : List ResultVar) (o : HL T.den (hsV c.res (hsOs c.post))) : Exit → TSt T.den → Prop
  | .normal, s => retT T C c rs o s
  | .ret, s => retT T C c rs o s
  | _, _ => False
def initT : Nat → List (TV T.den) → List (Nat × TV T.den)
  | _, [] => []
  | k, x :: r => (k, x) :: initT (k + 1) r
def Con.st (c : Con T.den) (x : HL T.den (hsT c.ins (hsOs c.pre))) : TSt T.den := ⟨initT T 0 (c.args idf x), hpN idf 0 (c.obs idf x), c.pre.length⟩
end
end Go.Cv
namespace Go.Bv
open Go.RowKit
def Wk (s s' : St) : Prop := ∀ (T : Tk) (G0 : Gh) (w0 : World) (N : Nat) (a : Act) (G : Gh) (w : World), R T G0 w0 N s a G w → R T G0 w0 N s' a G w
theorem Wk.refl (s : St) : Wk s s := fun _ _ _ _ _ _ _ h => h
theorem R.recells {T : Tk} {G0 : Gh} {w0 : World} {N : Nat} {a : Act} {G : Gh} {w : World} {sl : List (Nat × V)} {h : Hp} {nx id : Nat} {A B : List V} (hR : R T G0 w0 N ⟨sl, (id, .cells A) :: h, nx⟩ a G w) (hl : leL A B) :
    R T G0 w0 N ⟨sl, (id, .cells B) :: h, nx⟩ a G w := by
  have hw := hR.wr
  have hg : Hp.get ((id, Ob.cells A) :: h) id = some (.cells A) := by simp [Hp.get]
  have hother : ∀ i, i ≠ id → Hp.get ((id, Ob.cells B) :: h) i = Hp.get ((id, Ob.cells A) :: h) i := fun i hi => by simp [Hp.get, hi]
  have he : Ext G w ((id, .cells A) :: h) nx G w ((id, .cells B) :: h) nx := by
    refine ⟨Mono.refl _ _, Nat.le_refl _, fun _ _ _ h => h, fun tok t' _ h1 => ?_, fun _ _ h => h⟩
    by_cases hi : tok = id
    · subst hi; simp [Hp.get] at h1
    · rw [hother tok hi] at h1
      exact ⟨t', h1, Nat.le_refl _, fun _ _ hb => ⟨hb, rfl, rfl⟩⟩
  have hlive : ∀ i, live ((id, Ob.cells B) :: h) i → live ((id, Ob.cells A) :: h) i := by
    intro i l1
    by_cases hi : i = id
    · subst hi; exact k57 hg
    · exact live_eq (hother i hi) l1
  refine ⟨hR.fr, ⟨?_, hw.mob.ext he (fun i es hgo => ?_) hw.hid (fun _ _ _ _ _ => rfl), hw.here, fun i k b hi hk h1 h2 l1 l2 => hw.inj i k b hi hk h1 h2 (hlive i l1) (hlive k l2), ?_, hw.lim⟩, hR.df, hR.sz, fun t => (hR.sl t).ext he, hR.ex.ext he⟩
  · intro i l' hl'
    by_cases hi : i = id
    · subst hi
      simp [Hp.get] at hl'
      subst hl'
      obtain ⟨b, e, cs, h1, h2, h3, h4, h5, h6⟩ := hw.obj i A hg
      obtain ⟨q1, q2, q3⟩ := kjm hl
      refine ⟨b, e, cs, h1, h2, h3, by omega, q2, fun k v z hkv hz => ?_⟩
      have hk : k < A.length := by have := (List.getElem?_eq_some_iff.1 hz).1; omega
      exact ((h6 k v _ hkv (List.getElem?_eq_getElem hk)).le1 (q3 k _ z (List.getElem?_eq_getElem hk) hz)).ext he
    · rw [hother i hi] at hl'
      obtain ⟨b, e, cs, h1, h2, h3, h4, h5, h6⟩ := hw.obj i l' hl'
      exact ⟨b, e, cs, h1, h2, h3, h4, h5, fun k v x hv hx => (h6 k v x hv hx).ext he⟩
  · by_cases hi : i = id
    · subst hi; simp [Hp.get] at hgo
    · rw [hother i hi] at hgo; exact hgo
  · intro i ob hgo
    by_cases hi : i = id
    · subst hi; exact hw.hid _ _ hg
    · rw [hother i hi] at hgo; exact hw.hid _ _ hgo
theorem k1pf {sl : List (Nat × V)} {h : Hp} {nx id : Nat} {A B : List V} (hl : leL A B) (d : Option Nat) (x : V) : Wk (St.put ⟨sl, (id, .cells A) :: h, nx⟩ d x) (St.put ⟨sl, (id, .cells B) :: h, nx⟩ d x) := by
  intro T G0 w0 N a G w hR
  cases d with
  | none => exact hR.recells hl
  | some t => exact R.recells (sl := (t, x) :: sl) hR hl
end Go.Bv
namespace Go.Cv
open Go Go.Bv Go.RowKit Go.Md
section
variable {T : Tab} {P : Program}
theorem k1y : ∀ {l : List (TV T.den)}, allOne l = true → ∀ v ∈ l, v.one = true
  | [], _, v, hv => by cases hv
  | x :: r, h, v, hv => by
    simp only [allOne, Bool.and_eq_true] at h
    rcases List.mem_cons.1 hv with rfl | hv
    · exact h.1
    · exact k1y h.2 v hv
theorem k1o4 {v : TV T.den} (hv : v.one = true) : (er1 T v).cells = [er1 T v] := by
  have := er1_one hv
  cases h : er1 T v <;> first | rfl | (rw [h] at this; cases this)
theorem kqb {x : TV T.den} (h : allOne x.cells = true) : (er T x).cells = x.cells.map (er1 T) ∧ (er T x).flat x.cells.length := by
  have e : (er T x).cells = x.cells.map (er1 T) := by
    cases x with
    | agg l => rfl
    | tup l => simp [TV.cells, allOne, TV.one] at h
    | _ =>
      have h1 := k1y h _ (List.mem_singleton.2 rfl)
      rw [er_of1 h1, k1o4 h1]; rfl
  refine ⟨e, by rw [e, List.length_map], fun c hc => ?_⟩
  rw [e] at hc
  obtain ⟨v, hv, rfl⟩ := List.mem_map.1 hc
  exact er1_one (k1y h v hv)
theorem setL_er (l : List (TV T.den)) (off : Nat) (cs : List (TV T.den)) : (TV.setL l off cs).map (er1 T) = setAt (l.map (er1 T)) off (cs.map (er1 T)) := by
  simp only [TV.setL, setAt, List.map_append, List.map_take, List.map_drop, List.length_map]
theorem kga {t : Ty} {v : TV T.den} {x : t.den T.den} (hx : toEl2 t v = some x) : er1 T v = .d (T.e t x) ∧ v.cells = [v] := by
  unfold toEl2 at hx
  split at hx
  · obtain ⟨rfl, rfl⟩ := Ty.cast_some hx; exact ⟨rfl, rfl⟩
  · cases hx
theorem els_le {e : Ty} {v : TV T.den} {x : List (e.den T.den)} (hx : els e v = some x) : le1 (er1 T v) (.d (.slice (T.sz e) (List.map (T.e e) x))) ∧ v.cells = [v] := by
  have h1 := (els_er hx).1
  have h2 := (els_er hx).2
  refine ⟨?_, by cases v <;> first | rfl | cases h2⟩
  generalize er1 T v = y at h1
  unfold V.els at h1
  split at h1
  · split at h1
    · rename_i hs; injection h1 with h1; rw [hs, h1]; exact k3v _
    · cases h1
  · split at h1
    · rename_i hs; injection h1 with h1; exact ⟨hs, h1⟩
    · cases h1
  · split at h1
    · rename_i hs; injection h1 with h1; exact ⟨hs, h1⟩
    · cases h1
  · injection h1 with h1; exact h1.symm
  · cases h1
theorem k1ot {v : TV T.den} {b : Bool} (h : v.isB = some b) : v.cells = [v] := by cases v <;> first | rfl | cases h
theorem kpp {t : Ty} {v : TV T.den} {x : t.den T.den} (hx : toEl1 t v = some x) : le1 (er1 T v) (.d (T.e t x)) ∧ v.cells = [v] ∧ t.agg = false := by
  cases t with
  | sl e => exact ⟨(els_le hx).1, (els_le hx).2, rfl⟩
  | bool => exact ⟨by rw [(isB_er hx).1]; exact k3v _, k1ot hx, rfl⟩
  | int k => exact ⟨by rw [(kga hx).1]; exact k3v _, (kga hx).2, rfl⟩
  | str => exact ⟨by rw [(kga hx).1]; exact k3v _, (kga hx).2, rfl⟩
  | st n => cases hx
theorem k1jp {t : Ty} {v : TV T.den} {x : t.den T.den} (hx : toEl1 t v = some x) (hv : allD T [v] = true) : er1 T v = .d (T.e t x) := by
  cases t with
  | sl e =>
    simp only [toEl1] at hx
    unfold els at hx
    split at hx
    · obtain ⟨h1, h2, _⟩ := k4j hx
      show V.d (.slice _ _) = V.d (.slice _ _)
      rw [h1, h2]
    · cases hv
    · cases hv
    · cases hv
    · cases hx
  | bool => exact (isB_er hx).1
  | int k => exact (kga hx).1
  | str => exact (kga hx).1
  | st n => cases hx
theorem k16q : ∀ {ts : List Ty} {vs : List (TV T.den)} {z : HL T.den ts}, ts.all (fun t => !t.agg) = true → packL ts vs = some z → leL (vs.map (er1 T)) ((T.eL ts z).map .d)
  | [], [], _, _, _ => trivial
  | [], _ :: _, _, _, h => by simp [packL] at h
  | _ :: _, [], _, _, h => by simp [packL] at h
  | t :: ts, v :: vs, z, ht, h => by
    simp only [List.all_cons, Bool.and_eq_true, Bool.not_eq_true'] at ht
    simp only [packL] at h
    split at h
    · rename_i x hx
      split at h
      · rename_i y hy
        injection h with h
        subst h
        exact ⟨⟨(kpp hx).1, e_one ht.1 _⟩, k16q ht.2 hy⟩
      · cases h
    · cases h
theorem k1ku : ∀ {ts : List Ty} {vs : List (TV T.den)} {z : HL T.den ts}, packL ts vs = some z → allD T vs = true → vs.map (er1 T) = (T.eL ts z).map .d
  | [], [], _, _, _ => rfl
  | [], _ :: _, _, h, _ => by simp [packL] at h
  | _ :: _, [], _, h, _ => by simp [packL] at h
  | t :: ts, v :: vs, z, h, hd => by
    simp only [packL] at h
    split at h
    · rename_i x hx
      split at h
      · rename_i y hy
        injection h with h
        subst h
        have h1 : allD T [v] = true ∧ allD T vs = true := by
          cases v <;> first | exact ⟨rfl, hd⟩ | cases hd
        simp only [List.map_cons, Tab.eL, k1jp hx h1.1, k1ku hy h1.2]
      · cases h
    · cases h
theorem kwm {n : Nat} {v : TV T.den} {x : T.den n} (hx : toElS T n v = some x) : ∃ l z, v = .agg l ∧ packL (T.tys n) l = some z ∧ x = T.pack n z := by
  unfold toElS at hx
  split at hx
  · rename_i l
    cases hp : packL (T.tys n) l with
    | none => rw [hp] at hx; cases hx
    | some z =>
      rw [hp] at hx
      injection hx with hx
      exact ⟨l, z, rfl, hp, hx.symm⟩
  · cases hx
theorem toEl_le (hT : T.Ok) {e : Ty} {v : TV T.den} {x : e.den T.den} (hx : toEl T e v = some x) : leL (v.cells.map (er1 T)) ((T.e e x).cells.map .d) := by
  have main : ∀ {t : Ty} {x : t.den T.den}, toEl1 t v = some x → leL (v.cells.map (er1 T)) ((T.e t x).cells.map .d) := by
    intro t x h
    obtain ⟨h1, h2, h3⟩ := kpp h
    rw [h2, e_cells h3]
    exact ⟨⟨h1, e_one h3 _⟩, trivial⟩
  cases e with
  | st n =>
    obtain ⟨l, z, rfl, hp, rfl⟩ := kwm hx
    show leL (l.map (er1 T)) ((T.enc n (T.pack n z)).cells.map .d)
    rw [hT.en, hT.pc]
    exact k16q (hT.one n) hp
  | sl e => exact main (t := .sl e) hx
  | bool => exact main (t := .bool) hx
  | int k => exact main (t := .int k) hx
  | str => exact main (t := .str) hx
theorem toEl_ex (hT : T.Ok) {e : Ty} {v : TV T.den} {x : e.den T.den} (hx : toEl T e v = some x) (hv : allD T v.cells = true) : v.cells.map (er1 T) = (T.e e x).cells.map .d := by
  have main : ∀ {t : Ty} {x : t.den T.den}, toEl1 t v = some x → v.cells.map (er1 T) = (T.e t x).cells.map .d := by
    intro t x h
    obtain ⟨_, h2, h3⟩ := kpp h
    rw [h2] at hv ⊢
    rw [e_cells h3]
    simp only [List.map_cons, List.map_nil, k1jp h hv]
  cases e with
  | st n =>
    obtain ⟨l, z, rfl, hp, rfl⟩ := kwm hx
    show l.map (er1 T) = (T.enc n (T.pack n z)).cells.map .d
    rw [hT.en, hT.pc]
    exact k1ku hp hv
  | sl e => exact main (t := .sl e) hx
  | bool => exact main (t := .bool) hx
  | int k => exact main (t := .int k) hx
  | str => exact main (t := .str) hx
theorem k1e2 (hT : T.Ok) {e : Ty} : ∀ (l : List (e.den T.den)) (k : Nat), k ≤ l.length → ((l.map (T.e e)).flatMap D.cells).drop (k * T.sz e) = ((l.drop k).map (T.e e)).flatMap D.cells
  | l, 0, _ => by simp
  | [], k + 1, h => by simp at h
  | x :: l, k + 1, h => by
    have hs := (e_sz hT e x).1
    simp only [List.map_cons, List.flatMap_cons, List.drop_succ_cons]
    rw [List.drop_append, hs, Nat.add_mul, Nat.one_mul]
    have e1 : List.drop (k * T.sz e + T.sz e) (T.e e x).cells = [] := List.drop_eq_nil_of_le (by rw [hs]; omega)
    rw [e1, List.nil_append, show k * T.sz e + T.sz e - T.sz e = k * T.sz e by omega]
    exact k1e2 hT l k (by simpa using h)
theorem k1pv (hT : T.Ok) {e : Ty} (l : List (e.den T.den)) (i : Int) (h0 : 0 ≤ i) (h1 : i < (l.length : Int)) (off : Nat) (cs : List V) (hc : off + cs.length ≤ T.sz e) :
    setAt (((l.map (T.e e)).flatMap D.cells).map V.d) (i.toNat * T.sz e + off) cs =
      (((l.take i.toNat).map (T.e e)).flatMap D.cells).map V.d ++ setAt ((T.e e (@ix _ ⟨T.dflt e⟩ l i)).cells.map V.d) off cs ++ (((l.drop (i.toNat + 1)).map (T.e e)).flatMap D.cells).map V.d := by
  have hi : i.toNat < l.length := by omega
  have hx : l = l.take i.toNat ++ @ix _ ⟨T.dflt e⟩ l i :: l.drop (i.toNat + 1) := by
    have : @ix _ ⟨T.dflt e⟩ l i = l[i.toNat] := by simp [ix, hi]
    rw [this]; simp
  have hs := (e_sz hT e (@ix _ ⟨T.dflt e⟩ l i)).1
  have hA : ((((l.take i.toNat).map (T.e e)).flatMap D.cells).map V.d).length = i.toNat * T.sz e := by rw [List.length_map, kll hT, List.length_take, Nat.min_eq_left (by omega)]
  have hB : (((T.e e (@ix _ ⟨T.dflt e⟩ l i)).cells).map V.d).length = T.sz e := by rw [List.length_map, hs]
  generalize hya : @ix _ ⟨T.dflt e⟩ l i = y at *
  have hL : ((l.map (T.e e)).flatMap D.cells).map V.d = (((l.take i.toNat).map (T.e e)).flatMap D.cells).map V.d ++ ((T.e e y).cells.map V.d ++ (((l.drop (i.toNat + 1)).map (T.e e)).flatMap D.cells).map V.d) := by
    conv => lhs; rw [hx]
    simp only [List.map_append, List.map_cons, List.flatMap_append, List.flatMap_cons]
  rw [hL]
  generalize (((l.take i.toNat).map (T.e e)).flatMap D.cells).map V.d = A at *
  generalize (T.e e y).cells.map V.d = B at *
  generalize (((l.drop (i.toNat + 1)).map (T.e e)).flatMap D.cells).map V.d = C
  simp only [setAt]
  rw [← hA]
  simp only [List.take_append, List.drop_append, List.take_of_length_le (Nat.le_add_right A.length off), List.append_assoc]
  have e1 : A.length + off - A.length = off := by omega
  have e2 : off - B.length = 0 := by omega
  have e3 : List.drop (A.length + off + cs.length) A = [] := List.drop_eq_nil_of_le (by omega)
  have e4 : A.length + off + cs.length - A.length = off + cs.length := by omega
  have e5 : off + cs.length - B.length = 0 := by omega
  rw [e1, e2, e3, e4, e5]
  simp
end
end Go.Cv
namespace Go.Cv
open Go Go.Bv Go.RowKit Go.Md
section
variable {T : Tab} {P : Program}
theorem erH_app (a b : THp T.den) : erH T (a ++ b) = erH T a ++ erH T b := List.map_append
theorem erS_put (s : TSt T.den) (d : Option Nat) (v : TV T.den) : erS T (s.put d v) = (erS T s).put d (er T v) := by cases d <;> rfl
def Goes (T : Tab) (s : TSt T.den) (d : Option Nat) (K : TV T.den → THp T.den → Nat → Prop) (s1 : St) : Prop :=
  ∃ v hu nf, K v hu nf ∧ Wk s1 (erS T (TSt.put ⟨s.sl, hu ++ s.h, s.nx + nf⟩ d v))
theorem Goes.of {s : TSt T.den} {d : Option Nat} {K : TV T.den → THp T.den → Nat → Prop} {s1 : St} {v : TV T.den} {hu : THp T.den} {nf : Nat} (hk : K v hu nf)
    (e : s1 = St.put ⟨(erS T s).sl, erH T hu ++ erH T s.h, s.nx + nf⟩ d (er T v)) : Goes T s d K s1 := by
  refine ⟨v, hu, nf, hk, ?_⟩
  rw [erS_put, e]
  have : erS T ⟨s.sl, hu ++ s.h, s.nx + nf⟩ = ⟨(erS T s).sl, erH T hu ++ erH T s.h, s.nx + nf⟩ := by simp only [erS, erH_app]
  rw [this]
  exact Wk.refl _
theorem Goes.weak {s : TSt T.den} {d : Option Nat} {K : TV T.den → THp T.den → Nat → Prop} {s1 : St} {v : TV T.den} {id : Nat} {o : TOb T.den} {nf : Nat} {A B : List V} (hk : K v [(id, o)] nf)
    (e : s1 = St.put ⟨(erS T s).sl, (id, .cells A) :: erH T s.h, s.nx + nf⟩ d (er T v)) (ho : erO T o = .cells B) (hl : leL A B) : Goes T s d K s1 := by
  refine ⟨v, _, nf, hk, ?_⟩
  rw [erS_put, e]
  have : erS T ⟨s.sl, [(id, o)] ++ s.h, s.nx + nf⟩ = ⟨(erS T s).sl, (id, .cells B) :: erH T s.h, s.nx + nf⟩ := by
    simp only [erS, erH_app]
    show St.mk _ ((id, erO T o) :: erH T s.h) _ = _
    rw [ho]
  rw [this]
  exact k1pf hl d _
theorem k1m9 (t : Ty) (v : t.den T.den) (i : Int) : ∀ (l : List (t.den T.den)) (k j : Nat), (setI T t v i k l)[j]? = l[j]?.map fun x => TV.d t (bif decide (i = ((k + j : Nat) : Int)) then v else x)
  | [], _, _ => by simp [setI]
  | x :: l, k, 0 => by simp [setI]
  | x :: l, k, j + 1 => by
    simp only [setI, List.getElem?_cons_succ]
    rw [k1m9 t v i l (k + 1) j, show k + 1 + j = k + (j + 1) by omega]
theorem k1if (t : Ty) (v : t.den T.den) (i : Int) : ∀ (l : List (t.den T.den)) (k : Nat), (setI T t v i k l).length = l.length
  | [], _ => rfl
  | x :: l, k => by simp only [setI, List.length_cons, k1if t v i l (k + 1)]
theorem stA_snd {K : List (TV T.den) → Prop} {i : Int} {x : TV T.den} {l : List (TV T.den)} (h : stA T K i x l) (h0 : 0 ≤ i) (h1 : i < (l.length : Int)) :
    ∃ cs, K cs ∧ cs.length = l.length ∧ cs.map (er1 T) = (l.map (er1 T)).set i.toNat (er1 T x) := by
  unfold stA at h
  split at h
  · rename_i t y r
    cases ha : t.agg with
    | true => rw [ha] at h; exact h.elim
    | false =>
      rw [ha] at h
      simp only [cond_false] at h
      split at h
      · rename_i ys t' v hys hv
        split at h
        · rename_i v' hc
          obtain ⟨rfl, rfl⟩ := Ty.cast_some hc
          have hy := colT_eq hys
          subst hy
          have e2 : (TV.d t' y :: ys.map (TV.d t')) = (y :: ys).map (TV.d t') := rfl
          rw [e2] at h1 ⊢
          rw [List.length_map] at h1
          refine ⟨_, h, by rw [k1if, List.length_map], ?_⟩
          have ex : er1 T x = .d (T.e t' v) := by
            have e1 : er1 T x.toB = er1 T x := by cases x <;> rfl
            rw [← e1, hv]; rfl
          refine List.ext_getElem? fun j => ?_
          rw [List.getElem?_map, k1m9, List.getElem?_set, List.getElem?_map, List.getElem?_map, ex]
          by_cases hj : i.toNat = j
          · subst hj
            have hlt : i.toNat < (y :: ys).length := by omega
            rw [if_pos rfl, if_pos (by rw [List.length_map, List.length_map]; exact hlt), List.getElem?_eq_getElem hlt]
            simp only [Option.map_some, Nat.zero_add]
            rw [show decide (i = ((i.toNat : Nat) : Int)) = true by simp; omega]
            rfl
          · rw [if_neg hj]
            cases hg : (y :: ys)[j]? with
            | none => rfl
            | some z =>
              simp only [Option.map_some, Nat.zero_add]
              rw [show decide (i = ((j : Nat) : Int)) = false by simp; omega]
              rfl
        · exact h.elim
      · exact h.elim
  · exact h.elim
theorem k1nu (l : List V) (off m i : Nat) (x : V) (h : off + m ≤ l.length) (hi : i < m) : setAt l off (((l.drop off).take m).set i x) = setAt l (off + i) [x] := by
  refine List.ext_getElem? fun j => ?_
  have hlen : (((l.drop off).take m).set i x).length = m := by simp; omega
  unfold setAt
  rw [getElem?_splice _ _ _ _ (by rw [hlen]; exact h), getElem?_splice _ _ _ _ (by simp; omega), hlen]
  by_cases h1 : j < off
  · rw [if_pos h1, if_pos (by omega)]
  · rw [if_neg h1]
    by_cases h2 : j < off + m
    · rw [if_pos h2, List.getElem?_set]
      by_cases h3 : i = j - off
      · subst h3
        have e1 : off + (j - off) = j := by omega
        rw [if_pos rfl, if_pos (by simp; omega), if_neg (by omega), if_pos (by simp; omega)]
        simp [e1]
      · rw [if_neg h3, List.getElem?_take, if_pos (by omega), List.getElem?_drop, show off + (j - off) = j by omega]
        by_cases h4 : j < off + i
        · rw [if_pos h4]
        · rw [if_neg h4, if_neg (by simp; omega)]
    · rw [if_neg h2, if_neg (by omega), if_neg (by simp; omega)]
theorem k1eb {x : TV T.den} (h : allOne x.cells = true) : (er T x).cells.length = x.cells.length := by rw [(kqb h).1, List.length_map]
theorem leL_mid {a b : List V} (h : ∀ x ∈ a, x.one = true) (hb : ∀ x ∈ b, x.one = true) {c d : List V} (hl : leL c d) : leL (a ++ c ++ b) (a ++ d ++ b) := by
  have ap : ∀ {a b c d : List V}, leL a b → leL c d → leL (a ++ c) (b ++ d) := by
    intro a
    induction a with
    | nil => intro b c d h1 h2; cases b with
      | nil => exact h2
      | cons _ _ => exact h1.elim
    | cons x a ih => intro b c d h1 h2; cases b with
      | nil => exact h1.elim
      | cons y b => exact ⟨h1.1, ih h1.2 h2⟩
  exact ap (ap (k156 a h) hl) (k156 b hb)
theorem kw0 (hT : T.Ok) {e : Ty} (l : List (e.den T.den)) : ∀ x ∈ ((l.map (T.e e)).flatMap D.cells).map V.d, x.one = true := by
  intro x hx
  obtain ⟨d, hd, rfl⟩ := List.mem_map.1 hx
  obtain ⟨y, hy, hd⟩ := List.mem_flatMap.1 hd
  exact (map_sz hT l y hy).2 d hd
theorem k19j (hT : T.Ok) {t : TypeId} {ti : TI T.den} (hx : TI.Ok P T t ti) {dr : Bool} {h : THp T.den} {a x : TV T.den} {K : TV T.den → THp T.den → Nat → Prop} (hh : tStore T ti dr h a x K) :
    ∃ id off l g n o, K .any [(id, o)] 0 ∧ er T a = .ptr id off ∧ (erH T h).get id = some (.cells l) ∧ tyOf P t = some (g, n) ∧ (er T x).flat n ∧ off + n ≤ l.length ∧
      (erO T o = .cells (setAt l off (er T x).cells) ∨ (dr = false ∧ ∃ B, erO T o = .cells B ∧ leL (setAt l off (er T x).cells) B)) := by
  unfold tStore at hh
  split at hh
  · exact hh.elim
  · rename_i g n hty
    obtain ⟨h1, h2⟩ := cnd hh
    simp only [Bool.and_eq_true] at h1
    obtain ⟨hn, hone⟩ := h1
    have hn := nb_eq hn
    subst hn
    obtain ⟨c1, c2⟩ := kqb hone
    split at h2
    · rename_i id off
      split at h2
      · rename_i l hg
        obtain ⟨h3, h4⟩ := cnd h2
        refine ⟨id, off, l.map (er1 T), g, _, _, h4, rfl, by rw [getH_er, hg]; rfl, hx.ty _ hty, c2, by rw [List.length_map]; exact ble_le h3, .inl ?_⟩
        show Ob.cells ((TV.setL l off x.cells).map (er1 T)) = _
        rw [setL_er, c1]
      · exact h2.elim
    · rename_i id off m i
      split at h2
      · rename_i l hg
        obtain ⟨h3, ⟨h4, h5⟩, h6⟩ := cnd h2
        simp only [Bool.and_eq_true] at h3
        have hn1 := nb_eq h3.1
        have hle := ble_le h3.2
        have hlen : ((l.drop off).take m).length = m := by simp; omega
        obtain ⟨cs, k1, k2, k3⟩ := stA_snd h6 h4 (by rw [hlen]; exact h5)
        have hxc : x.cells = [x] := by
          cases x with
          | agg l =>
            exfalso
            unfold stA at h6
            split at h6
            · rename_i t y r _
              cases hta : t.agg with
              | true => rw [hta] at h6; exact h6
              | false =>
                rw [hta] at h6
                simp only [cond_false] at h6
                split at h6
                · rename_i hv; cases hv
                · exact h6
            · exact h6
          | _ => rfl
        refine ⟨id, off + i.toNat, l.map (er1 T), g, _, _, k1, rfl, by rw [getH_er, hg]; rfl, hx.ty _ hty, c2, by rw [List.length_map]; omega, .inl ?_⟩
        show Ob.cells ((TV.setL l off cs).map (er1 T)) = _
        rw [setL_er, k3, c1, hxc, List.map_take, List.map_drop]
        rw [k1nu _ _ _ _ _ (by rw [List.length_map]; exact hle) (by omega)]
        rfl
      · exact h2.elim
    · rename_i id e i off
      split at h2
      · rename_i e' l hg
        obtain ⟨h3, h4⟩ := cnd h2
        simp only [Bool.and_eq_true] at h3
        obtain ⟨⟨he, hle⟩, hdr⟩ := h3
        have he := Ty.eq_of_beq he
        subst he
        have hle := ble_le hle
        split at h4
        · rename_i y hy
          obtain ⟨⟨h5, h6⟩, h7⟩ := h4
          have hgl : (erH T h).get id = some (.cells (((l.map (T.e e)).flatMap D.cells).map V.d)) := by rw [getH_er, hg]; rfl
          have hm : (i.toNat + 1) * T.sz e ≤ l.length * T.sz e := Nat.mul_le_mul_right _ (by omega)
          rw [Nat.add_mul, Nat.one_mul] at hm
          refine ⟨id, i.toNat * T.sz e + off, _, g, _, _, h7, rfl, hgl, hx.ty _ hty, c2, by rw [List.length_map, kll hT]; omega, ?_⟩
          have hi : i.toNat < l.length := by omega
          have e1 : erO T (.vec e (l.set i.toNat y)) = .cells ((((l.take i.toNat).map (T.e e)).flatMap D.cells).map V.d ++ (T.e e y).cells.map V.d ++ (((l.drop (i.toNat + 1)).map (T.e e)).flatMap D.cells).map V.d) := by
            show Ob.cells ((((l.set i.toNat y).map (T.e e)).flatMap D.cells).map V.d) = _
            rw [List.set_eq_take_append_cons_drop, if_pos hi]
            simp only [List.map_append, List.map_cons, List.flatMap_append, List.flatMap_cons, List.append_assoc]
          rw [k1pv hT l i h5 h6 off _ (by rw [k1eb hone]; exact hle), e1]
          have hlast : leL (setAt ((T.e e (@ix _ ⟨T.dflt e⟩ l i)).cells.map V.d) off (er T x).cells) ((T.e e y).cells.map V.d) ∧ (allD T x.cells = true → setAt ((T.e e (@ix _ ⟨T.dflt e⟩ l i)).cells.map V.d) off (er T x).cells = (T.e e y).cells.map V.d) := by
            cases ha : e.agg with
            | true =>
              rw [ha] at hy
              simp only [cond_true] at hy
              have q : (TV.agg (TV.setL ((tcells T e (@ix _ ⟨T.dflt e⟩ l i)).map TD.v) off x.cells)).cells.map (er1 T) = setAt ((T.e e (@ix _ ⟨T.dflt e⟩ l i)).cells.map V.d) off (er T x).cells := by
                show (TV.setL ((tcells T e (@ix _ ⟨T.dflt e⟩ l i)).map TD.v) off x.cells).map (er1 T) = _
                rw [setL_er, k1j3 hT, c1]
              refine ⟨by rw [← q]; exact toEl_le hT hy, fun hd => by
                rw [← q]
                refine toEl_ex hT hy ?_
                have adA : ∀ (a b : List (TV T.den)), allD T a = true → allD T b = true → allD T (a ++ b) = true := by
                  intro a
                  induction a with
                  | nil => intro b _ hb; exact hb
                  | cons v a ih => intro b h1 h2; cases v <;> first | exact ih b h1 h2 | cases h1
                have adV : ∀ (l : List (TD T.den)), allD T (l.map TD.v) = true := by
                  intro l; induction l with
                  | nil => rfl
                  | cons d l ih => exact ih
                show allD T (TV.setL ((tcells T e (@ix _ ⟨T.dflt e⟩ l i)).map TD.v) off x.cells) = true
                unfold TV.setL
                rw [← List.map_take, ← List.map_drop]
                exact adA _ _ (adA _ _ (adV _) hd) (adV _)⟩
            | false =>
              rw [ha] at hy
              simp only [cond_false] at hy
              have hs1 := sz_one (T := T) ha
              have hcl : (er T x).cells.length = x.cells.length := k1eb hone
              have q : setAt ((T.e e (@ix _ ⟨T.dflt e⟩ l i)).cells.map V.d) off (er T x).cells = x.cells.map (er1 T) := by
                have hne : 0 < x.cells.length := by
                  have := toEl_le hT hy
                  rw [e_cells ha] at this
                  cases hq : x.cells with
                  | nil => rw [hq] at this; exact this.elim
                  | cons _ _ => simp
                have ho : off = 0 := by omega
                have hc1 : x.cells.length = 1 := by omega
                subst ho
                rw [e_cells ha, c1]
                simp [setAt, hc1]
              exact ⟨by rw [q]; exact toEl_le hT hy, fun hd => by rw [q]; exact toEl_ex hT hy hd⟩
          cases dr with
          | false => exact .inr ⟨rfl, _, rfl, leL_mid (kw0 hT _) (kw0 hT _) hlast.1⟩
          | true =>
            refine .inl ?_
            simp only [Bool.not_true, Bool.false_or] at hdr
            rw [hlast.2 hdr]
        · exact h4.elim
      · exact h2.elim
    · exact h2.elim
end
end Go.Cv
namespace Go.Cv
open Go Go.Bv Go.RowKit Go.Md
section
variable {T : Tab} {P : Program}
theorem k10g {pl : List (Nat × Nat)} {K : List (TV T.den) → Prop} : ∀ (ps : List (Nat × TV T.den)) (l : List (TV T.den)), tFill T pl K l ps →
    ∃ l', K l' ∧ fillOk pl (l.map (er1 T)) (ps.map fun p => (p.1, er T p.2)) ∧ fillR pl (l.map (er1 T)) (ps.map fun p => (p.1, er T p.2)) = l'.map (er1 T)
  | [], l, h => ⟨l, h, trivial, rfl⟩
  | p :: r, l, h => by
    simp only [tFill] at h
    split at h
    · rename_i off n hp
      obtain ⟨h1, h2⟩ := cnd h
      simp only [Bool.and_eq_true] at h1
      obtain ⟨⟨hn, hone⟩, hle⟩ := h1
      have hn := nb_eq hn
      subst hn
      obtain ⟨c1, c2⟩ := kqb hone
      obtain ⟨l', g1, g2, g3⟩ := k10g r _ h2
      rw [setL_er, ← c1] at g2 g3
      refine ⟨l', g1, ?_, ?_⟩
      · simp only [List.map_cons, fillOk, hp]
        exact ⟨c2, by rw [List.length_map]; exact ble_le hle, g2⟩
      · simp only [List.map_cons, fillR, hp]; exact g3
    · exact h.elim
def notK : TV T.den → Bool
  | .k _ => false
  | _ => true
theorem toEl1_D {t : Ty} {v : TV T.den} {x : t.den T.den} (hx : toEl1 t v = some x) (hk : notK v = true) : (er1 T v).toD1 = some (T.e t x) := by
  cases t with
  | sl e =>
    simp only [toEl1] at hx
    unfold els at hx
    split at hx
    · obtain ⟨h1, h2, _⟩ := k4j hx
      show some (D.slice _ _) = some (D.slice _ _)
      rw [h1, h2]
    · obtain ⟨h1, h2, _⟩ := k4j hx
      show some (D.slice _ _) = some (D.slice _ _)
      rw [h1, h2]
    · obtain ⟨h1, h2, _⟩ := k4j hx
      show some (D.slice _ _) = some (D.slice _ _)
      rw [h1, h2]
    · cases hk
    · cases hx
  | bool => rw [(isB_er hx).1]; rfl
  | int k => rw [(kga hx).1]; rfl
  | str => rw [(kga hx).1]; rfl
  | st n => cases hx
theorem packL_D : ∀ {ts : List Ty} {vs : List (TV T.den)} {z : HL T.den ts}, packL ts vs = some z → (∀ v ∈ vs, notK v = true) → (vs.map (er1 T)).mapM V.toD1 = some (T.eL ts z)
  | [], [], _, _, _ => rfl
  | [], _ :: _, _, h, _ => by simp [packL] at h
  | _ :: _, [], _, h, _ => by simp [packL] at h
  | t :: ts, v :: vs, z, h, hd => by
    simp only [packL] at h
    split at h
    · rename_i x hx
      split at h
      · rename_i y hy
        injection h with h
        subst h
        have h1 := toEl1_D hx (hd v (by simp))
        have h2 := packL_D hy (fun u hu => hd u (by simp [hu]))
        rw [List.map_cons, List.mapM_cons, h1, h2]; rfl
      · cases h
    · cases h
theorem toEl_D (hT : T.Ok) {e : Ty} {v : TV T.den} {x : e.den T.den} (hx : toEl T e v = some x) (hk : noK T v = true) : (er T v).toD = some (T.e e x) := by
  have main : ∀ {t : Ty} {x : t.den T.den}, toEl1 t v = some x → (er T v).toD = some (T.e t x) := by
    intro t x h
    obtain ⟨_, h2, h3⟩ := kpp h
    have hk' : notK v = true := by cases v <;> first | rfl | cases hk
    have h4 := toEl1_D h hk'
    have hag : ∀ l, v ≠ .agg l := by
      intro l hl
      subst hl
      cases h4
    have htu : ∀ l, v ≠ .tup l := by
      intro l hl
      subst hl
      cases h4
    have e1 : er T v = er1 T v := by cases v <;> first | rfl | exact (hag _ rfl).elim | exact (htu _ rfl).elim
    rw [e1]
    cases hy : er1 T v <;> rw [hy] at h4 <;> first | exact h4 | cases h4
  cases e with
  | st n =>
    obtain ⟨l, z, rfl, hp, rfl⟩ := kwm hx
    show ((l.map (er1 T)).mapM V.toD1).map D.agg = some (T.enc n (T.pack n z))
    rw [packL_D hp (fun v hv => by
      have := List.all_eq_true.1 hk v hv
      cases v <;> first | rfl | cases this), hT.en, hT.pc]
    rfl
  | sl e => exact main (t := .sl e) hx
  | bool => exact main (t := .bool) hx
  | int k => exact main (t := .int k) hx
  | str => exact main (t := .str) hx
theorem toEls_D (hT : T.Ok) {e : Ty} : ∀ {vs : List (TV T.den)} {l : List (e.den T.den)}, toEls T e vs = some l → vs.all (noK T) = true → toDs (vs.map (er T)) = some (l.map (T.e e)) ∧ l.length = vs.length
  | [], l, h, _ => by simp only [toEls, Option.some.injEq] at h; subst h; exact ⟨rfl, rfl⟩
  | v :: vs, l, h, hk => by
    simp only [List.all_cons, Bool.and_eq_true] at hk
    simp only [toEls] at h
    split at h
    · rename_i x hx
      split at h
      · rename_i y hy
        injection h with h
        subst h
        obtain ⟨g1, g2⟩ := toEls_D hT hy hk.2
        refine ⟨?_, by simp [g2]⟩
        rw [List.map_cons, r_toDs1, toEl_D hT hx hk.1, g1]; rfl
      · cases h
    · cases h
theorem k1ep (hT : T.Ok) {e : Ty} : ∀ (l : List (e.den T.den)), sizesOk (T.sz e) (l.map (T.e e))
  | [] => trivial
  | x :: l => ⟨(e_sz hT e x).1, k1ep hT l⟩
theorem k1ej : ∀ {l : List Nat} {k n : Nat}, rangeB k l = true → l.length = n → l = (List.range n).map (k + ·)
  | [], k, n, _, hn => by simp at hn; subst hn; rfl
  | i :: r, k, n, h, hn => by
    simp only [rangeB, Bool.and_eq_true] at h
    cases n with
    | zero => simp at hn
    | succ n =>
      rw [k1ej (n := n) h.2 (by simpa using hn), nb_eq h.1, List.range_succ_eq_map]
      simp only [List.map_cons, List.map_map, Nat.add_zero]
      congr 1
      refine List.map_congr_left fun a _ => ?_
      simp only [Function.comp]; omega
theorem k1j1 {a b : List V} (h : leL a b) : ∀ n, leL (List.replicate n a).flatten (List.replicate n b).flatten
  | 0 => trivial
  | n + 1 => by
    have ap : ∀ {a b c d : List V}, leL a b → leL c d → leL (a ++ c) (b ++ d) := by
      intro a
      induction a with
      | nil => intro b c d h1 h2; cases b with
        | nil => exact h2
        | cons _ _ => exact h1.elim
      | cons x a ih => intro b c d h1 h2; cases b with
        | nil => exact h1.elim
        | cons y b => exact ⟨h1.1, ih h1.2 h2⟩
    simp only [List.replicate_succ, List.flatten_cons]
    exact ap h (k1j1 h n)
theorem zrow_eq (n : Nat) (zs : List V) : zrow n zs = (List.replicate n zs).flatten := by
  unfold zrow
  split
  · rename_i z
    induction n with
    | zero => rfl
    | succ n ih => rw [List.replicate_succ, List.replicate_succ, List.flatten_cons, ← ih]; rfl
  · rfl
theorem k124 {e : Ty} (x : e.den T.den) : ∀ n, (((List.replicate n x).map (T.e e)).flatMap D.cells).map V.d = (List.replicate n ((T.e e x).cells.map V.d)).flatten
  | 0 => rfl
  | n + 1 => by
    simp only [List.replicate_succ, List.map_cons, List.flatMap_cons, List.map_append, List.flatten_cons, k124 x n]
theorem k1mu {t : TypeId} {ti : TI T.den} (hx : TI.Ok P T t ti) {s : TSt T.den} {x y : TV T.den} {d : Option Nat} {K : TV T.den → THp T.den → Nat → Prop} (h : tAppend T ti false s.nx s.h x y K) :
    appOk P (erS T s) t (er T x) (er T y) ∧ Goes T s d K (appS P (erS T s) t (er T x) (er T y) d) := by
  unfold tAppend at h
  split at h
  · exact h.elim
  · rename_i e bt hel
    have hrow := (hx.el _ _ hel).2
    have hrd : rowD P t = (T.sz e, bt) := by unfold rowD; rw [hrow]; rfl
    split at h
    · exact h.elim
    · rename_i m hm
      obtain ⟨y1, y2⟩ := kpj hm
      have fin : ∀ {l : List (e.den T.den)} {k nf : Nat}, growA (erS T s) (T.sz e) (er T x) = some (k, s.nx + nf, l.map (T.e e)) → (l.length + m.length) * bt ≤ 140737488355328 → l.length + m.length ≤ maxLen → K (.own k e (l ++ m)) [(k, .tip e (l ++ m))] nf →
          appOk P (erS T s) t (er T x) (er T y) ∧ Goes T s d K (appS P (erS T s) t (er T x) (er T y) d) := by
        intro l k nf hg h1 h2 hk
        have hgd : growD (erS T s) (T.sz e) (er T x) = (k, s.nx + nf, l.map (T.e e)) := by unfold growD; rw [hg]; rfl
        refine ⟨⟨by rw [hrow]; rfl, by rw [hrd]; show (growA _ (T.sz e) _).isSome = true; rw [hg]; rfl, by rw [hrd]; exact y2, ?_, ?_⟩, ?_⟩
        · rw [hrd]; simp only [hgd, y1, List.length_map]; exact h1
        · rw [hrd]; simp only [hgd, y1, List.length_map]; exact h2
        · refine Goes.of hk ?_
          unfold appS
          rw [hrd]
          simp only [hgd, y1, List.length_map]
          show St.put ⟨_, (k, .tip (l.length + m.length)) :: _, _⟩ d _ = St.put ⟨_, (k, .tip (l ++ m).length) :: _, _⟩ d _
          rw [List.length_append]
          congr 1
          show V.own k (T.sz e) _ = V.own k (T.sz e) _
          rw [List.map_append]
      split at h
      · rename_i tok e0 l0
        split at h
        · rename_i e1 l' hg
          split at h
          · rename_i l hl
            obtain ⟨h1, h2, h3, h4⟩ := h
            obtain ⟨c1, c2, c3⟩ := k4j hl
            refine fin (l := l) (k := tok) (nf := 0) ?_ h2 h3 h4
            show growA (erS T s) (T.sz e) (.own tok (T.sz e0) (l0.map (T.e e0))) = _
            rw [c1, c2]
            have hgt : (erS T s).h.get tok = some (.tip l'.length) := by show (erH T s.h).get tok = _; rw [getH_er, hg]; rfl
            simp only [growA, if_true, hgt, List.length_map]
            rw [if_pos h1]; rfl
          · exact h.elim
        · exact h.elim
      · rename_i e' l0
        split at h
        · rename_i l _ hl
          obtain ⟨h2, h3, h4⟩ := h
          obtain ⟨c1, c2, c3⟩ := k4j hl
          refine fin (l := l) (k := s.nx) (nf := 1) ?_ h2 h3 h4
          show growA (erS T s) (T.sz e) (.full (T.sz e') (l0.map (T.e e'))) = _
          rw [c1, c2]
          simp only [growA, if_true]; rfl
        · exact h.elim
      · rename_i v
        obtain ⟨h1, h2, h3, h4⟩ := cnd h
        have hv := kjx h1
        subst hv
        exact fin (l := []) (k := s.nx) (nf := 1) rfl (by simpa using h2) (by simpa using h3) h4
      · exact h.elim
theorem k1oq (hT : T.Ok) {t : TypeId} {ti : TI T.den} (hx : TI.Ok P T t ti) {s : TSt T.den} {x y : TV T.den} {d : Option Nat} {K : TV T.den → THp T.den → Nat → Prop} (h : tCopy T ti s.h x y K) :
    copyOk P t (erS T s).h (er T x) (er T y) ∧ Goes T s d K (St.put ⟨(erS T s).sl, copyH (erS T s).h (er T x) (er T y), (erS T s).nx⟩ d (copyN (er T x) (er T y))) := by
  unfold tCopy at h
  split at h
  · exact h.elim
  · rename_i e bt hel
    have hrow := (hx.el _ _ hel).2
    have hrd : rowD P t = (T.sz e, bt) := by unfold rowD; rw [hrow]; rfl
    split at h
    · rename_i id e0 n
      split at h
      · rename_i e' l hg
        split at h
        · rename_i m hm
          obtain ⟨h1, rfl, h3⟩ := cnd h
          simp only [Bool.and_eq_true] at h1
          have e1 := Ty.eq_of_beq h1.1
          have e2 := Ty.eq_of_beq h1.2
          subst e1
          subst e2
          obtain ⟨y1, y2⟩ := kpj hm
          have hgl : (erS T s).h.get id = some (.cells (((l.map (T.e e0)).flatMap D.cells).map V.d)) := by show (erH T s.h).get id = _; rw [getH_er, hg]; rfl
          refine ⟨⟨⟨by rw [hrow]; rfl, by rw [hrd]⟩, y2, ?_⟩, Goes.of h3 ?_⟩
          · rw [hgl]; show 0 + l.length * T.sz e0 ≤ _; rw [List.length_map, kll hT]; omega
          · show St.put ⟨_, copyO (erS T s).h id 0 l.length ((er T y).elsD (T.sz e0)) ((erS T s).h.get id), _⟩ d (.d (.int .i64 (min ((er T y).elsD (T.sz e0)).length l.length : Nat))) = _
            rw [hgl, y1]
            simp only [copyO, List.length_map]
            congr 1
            show St.mk _ ((id, _) :: _) _ = St.mk _ ((id, Ob.cells _) :: _) _
            congr 3
            unfold rowOver setAt
            have hk : min m.length l.length ≤ l.length := Nat.min_le_right ..
            have hk2 : min m.length l.length ≤ m.length := Nat.min_le_left ..
            have hd := k1e2 hT l (min m.length l.length) hk
            have e1 : (List.take (min m.length l.length) (List.map (T.e e0) m)).flatMap D.cells = ((m.take (min m.length l.length)).map (T.e e0)).flatMap D.cells := by rw [List.map_take]
            have e2 : (((m.take (min m.length l.length)).map (T.e e0)).flatMap D.cells).length = min m.length l.length * T.sz e0 := by rw [kll hT, List.length_take, Nat.min_eq_left hk2]
            rw [List.length_map, e1, e2, List.take_zero, List.nil_append, Nat.zero_add, ← List.map_drop, hd, ← List.map_append, ← List.flatMap_append, ← List.map_append]
        · exact h.elim
      · exact h.elim
    · exact h.elim
theorem k1ou {t : TypeId} {ti : TI T.den} (hx : TI.Ok P T t ti) {s : TSt T.den} {co : Operand} {x y : TV T.den} {d : Option Nat} {K : TV T.den → THp T.den → Nat → Prop} (h : tMake T ti s.nx co x y K) :
    mkOk P t (er T x) (er T y) ∧ Goes T s d K (St.put ⟨(erS T s).sl, ((erS T s).nx, .cells (zrow (natOf (er T x)) (elZD P t))) :: (erS T s).h, (erS T s).nx + 1⟩ d (.row (erS T s).nx 0 (natOf (er T x)) (rowD P t).1)) := by
  unfold tMake at h
  split at h
  · rename_i e bt k n k' c hel hez hxi hyi
    obtain ⟨h1, h2, h3⟩ := h
    obtain ⟨h3, h4⟩ := ask_and h3
    obtain ⟨h4, h5⟩ := ask_and h4
    have hrow := (hx.el _ _ hel).2
    have hrd : rowD P t = (T.sz e, bt) := by unfold rowD; rw [hrow]; rfl
    obtain ⟨zs, z1, z2⟩ := hx.ez hez e bt hel
    rw [asI_eq hxi, asI_eq hyi]
    refine ⟨⟨⟨by rw [hrow]; rfl, by rw [z1]; rfl⟩, h1, h2, by rw [hrd]; exact h3, h4⟩, ?_⟩
    refine Goes.weak (A := zrow n.toNat zs) h5 ?_ (by show Ob.cells _ = _; rw [k124]) ?_
    · show St.put ⟨_, (s.nx, .cells (zrow n.toNat (elZD P t))) :: _, _⟩ d (.row s.nx 0 n.toNat (rowD P t).1) = _
      rw [hrd]; unfold elZD; rw [z1]; rfl
    · rw [zrow_eq]; exact k1j1 z2 _
  · exact h.elim
theorem k1ps {t : TypeId} {ti : TI T.den} (hx : TI.Ok P T t ti) {op : BinOp} {x : TV T.den} {K : TV T.den → Prop} (h : tNil T op ti x K) :
    (∃ b : Bool, nilMay (er T x) ∨ b = false) ∧ isSl (P.underlying t) ∧ nilOk (er T x) ∧ ∀ b : Bool, (b = true → nilMay (er T x)) → ∃ u, K u ∧ isEq op ∧ aggV op b = er T u := by
  unfold tNil at h
  split at h
  · rename_i e bt hel
    have hs := el_sl (hx.el _ _ hel).1
    have hs' : isSl (P.underlying t) := by
      cases hu : P.underlying t with
      | none => rw [hu] at hs; exact hs
      | some u => rw [hu] at hs; cases u <;> first | trivial | exact hs
    split at h
    · exact h.elim
    · exact h.elim
    · rename_i hk hr
      cases hl : els e x with
      | none => rw [hl] at h; exact h.elim
      | some l =>
        rw [hl] at h
        have hE := els_erS hl
        have hkey : nilOk (er T x) ∧ (nilMay (er T x) → l = []) := by
          unfold els at hl
          split at hl
          · obtain ⟨_, c2, c3⟩ := k4j hl
            refine ⟨trivial, fun hn => ?_⟩
            have : List.map (T.e _) _ = [] := hn
            rw [c2] at this; simpa using this
          · obtain ⟨_, c2, c3⟩ := k4j hl
            refine ⟨trivial, fun hn => ?_⟩
            have : List.map (T.e _) _ = [] := hn
            rw [c2] at this; simpa using this
          · obtain ⟨_, c2, c3⟩ := k4j hl
            refine ⟨trivial, fun hn => ?_⟩
            have : List.map (T.e _) _ = [] := hn
            rw [c2] at this; simpa using this
          · exact (hk _ rfl).elim
          · cases hl
        exact ⟨⟨false, .inr rfl⟩, hs', hkey.1, fun b hb => kvt (h b fun hbt => hkey.2 (hb hbt))⟩
  · exact h.elim
end
end Go.Cv
namespace Go.Cv
open Go Go.Bv Go.RowKit Go.Md
section
variable {T : Tab}
section
variable (σ : Nat → Nat) (f : List (Option (TOb T.den)))
theorem tk1_dr : ∀ (s : Sh1) (r : List Ty) (x : HL T.den (hs1 s r)), (tk1 σ f s r x).2 = dr1 s r x
  | .any, _, _ => rfl
  | .k _, _, _ => rfl
  | .d _, _, _ => rfl
  | .full _, _, _ => rfl
  | .own _, _, _ => rfl
  | .ptr _ _, _, _ => rfl
  | .row _, _, _ => rfl
theorem tkL_dr : ∀ (l : List Sh1) (r : List Ty) (x : HL T.den (hsL l r)), (tkL σ f l r x).2 = drL l r x
  | [], _, _ => rfl
  | s :: l, r, x => by
    have aux : ∀ x : HL T.den (hs1 s (hsL l r)), (tkL σ f l r (tk1 σ f s (hsL l r) x).2).2 = drL l r (dr1 s (hsL l r) x) := fun x => by rw [tkL_dr l r, tk1_dr]
    exact aux x
theorem tk0_dr : ∀ (s : Sh0) (r : List Ty) (x : HL T.den (hs0 s r)), (tk0 σ f s r x).2 = dr0 s r x
  | .one s, r, x => tk1_dr σ f s r x
  | .agg l, r, x => tkL_dr σ f l r x
theorem tkO1_dr (g : Option (TOb T.den)) : ∀ (o : OSh) (r : List Ty) (x : HL T.den (hsO1 o r)), (tkO1 σ f g o r x).2 = drO1 o r x
  | .cells l, r, x => tkL_dr σ f l r x
  | .tip _, _, _ => rfl
  | .vec _, _, _ => rfl
  | .dead, _, _ => rfl
theorem k1p1 (j : Nat) (g : Option (TOb T.den)) : er1 T (ownT (σ j) g) = ren1 σ (er1 T (ownT j g)) := by
  unfold ownT; split <;> rfl
theorem k1pw (j : Nat) (g : Option (TOb T.den)) : er1 T (rowT (σ j) g) = ren1 σ (er1 T (rowT j g)) := by
  unfold rowT; split <;> rfl
def TV.sim : TV T.den → Bool
  | .agg _ => false
  | .tup _ => false
  | _ => true
theorem er0_sim {v : TV T.den} (h : v.sim = true) : er0 T v = er1 T v := by cases v <;> first | rfl | cases h
theorem er_sim {v : TV T.den} (h : v.sim = true) : er T v = er1 T v := by cases v <;> first | rfl | cases h
theorem er1_na {v : TV T.den} : (∀ l, er1 T v ≠ .agg l) ∧ ∀ l, er1 T v ≠ .tup l := by
  cases v <;> exact ⟨fun l h => (by cases h), fun l h => (by cases h)⟩
theorem ren0_1 {x : V} (h : ∀ l, x ≠ .agg l) : ren0 σ x = ren1 σ x := by cases x <;> first | rfl | exact (h _ rfl).elim
theorem ren_0 {x : V} (h : ∀ l, x ≠ .tup l) : ren σ x = ren0 σ x := by cases x <;> first | rfl | exact (h _ rfl).elim
theorem k1pu (k : Nat) (g : Option (TOb T.den)) : (ownT k g).sim = true := by unfold ownT; split <;> rfl
theorem k1p9 (k : Nat) (g : Option (TOb T.den)) : (rowT k g).sim = true := by unfold rowT; split <;> rfl
theorem tk1_sim : ∀ (s : Sh1) (r : List Ty) (x : HL T.den (hs1 s r)), (tk1 σ f s r x).1.sim = true
  | .any, _, _ => rfl
  | .k _, _, _ => rfl
  | .d _, _, _ => rfl
  | .full _, _, _ => rfl
  | .own _, _, _ => k1pu _ _
  | .ptr _ _, _, _ => rfl
  | .row _, _, _ => k1p9 _ _
theorem tk1_ren : ∀ (s : Sh1) (r : List Ty) (x : HL T.den (hs1 s r)), er1 T (tk1 σ f s r x).1 = ren1 σ (er1 T (tk1 idf f s r x).1)
  | .any, _, _ => rfl
  | .k _, _, _ => rfl
  | .d _, _, _ => rfl
  | .full _, _, _ => rfl
  | .own j, _, _ => k1p1 σ j _
  | .ptr _ _, _, _ => rfl
  | .row j, _, _ => k1pw σ j _
theorem tkL_ren : ∀ (l : List Sh1) (r : List Ty) (x : HL T.den (hsL l r)), (tkL σ f l r x).1.map (er1 T) = ((tkL idf f l r x).1.map (er1 T)).map (ren1 σ)
  | [], _, _ => rfl
  | s :: l, r, x => by
    have aux : ∀ x : HL T.den (hs1 s (hsL l r)), er1 T (tk1 σ f s _ x).1 :: (tkL σ f l r (tk1 σ f s (hsL l r) x).2).1.map (er1 T) = ren1 σ (er1 T (tk1 idf f s _ x).1) :: ((tkL idf f l r (tk1 idf f s (hsL l r) x).2).1.map (er1 T)).map (ren1 σ) := fun x => by
      rw [tk1_ren, tk1_dr, tk1_dr, tkL_ren l r]
    exact aux x
theorem tk0_ren : ∀ (s : Sh0) (r : List Ty) (x : HL T.den (hs0 s r)), er0 T (tk0 σ f s r x).1 = ren0 σ (er0 T (tk0 idf f s r x).1) ∧ (tk0 σ f s r x).1.tupB = false
  | .one s, r, x => by
    have aux : ∀ x : HL T.den (hs1 s r), er0 T (tk1 σ f s r x).1 = ren0 σ (er0 T (tk1 idf f s r x).1) ∧ (tk1 σ f s r x).1.tupB = false := fun x => by
      have h1 := tk1_sim σ f s r x
      have h2 := tk1_sim idf f s r x
      rw [er0_sim h1, er0_sim h2, tk1_ren, ren0_1 σ er1_na.1]
      refine ⟨rfl, ?_⟩
      generalize (tk1 σ f s r x).1 = v at h1
      cases v <;> first | rfl | cases h1
    exact aux x
  | .agg l, r, x => by
    have aux : ∀ x : HL T.den (hsL l r), V.agg ((tkL σ f l r x).1.map (er1 T)) = V.agg (((tkL idf f l r x).1.map (er1 T)).map (ren1 σ)) := fun x => by rw [tkL_ren]
    exact ⟨aux x, rfl⟩
theorem er_ntup {v : TV T.den} (h : v.tupB = false) : er T v = er0 T v := by cases v <;> first | rfl | cases h
theorem kjq {v : TV T.den} : ∀ l, er0 T v ≠ .tup l := by
  intro l h; cases v <;> first | cases h
theorem k16k : ∀ (l : List Sh0) (r : List Ty) (x : HL T.den (hsT l r)), (tkT σ f l r x).1.map (er0 T) = ((tkT idf f l r x).1.map (er0 T)).map (ren0 σ)
  | [], _, _ => rfl
  | s :: l, r, x => by
    have aux : ∀ x : HL T.den (hs0 s (hsT l r)), er0 T (tk0 σ f s _ x).1 :: (tkT σ f l r (tk0 σ f s (hsT l r) x).2).1.map (er0 T) = ren0 σ (er0 T (tk0 idf f s _ x).1) :: ((tkT idf f l r (tk0 idf f s (hsT l r) x).2).1.map (er0 T)).map (ren0 σ) := fun x => by
      rw [(tk0_ren σ f s _ x).1, tk0_dr, tk0_dr, k16k l r]
    exact aux x
theorem tkT_er : ∀ (l : List Sh0) (r : List Ty) (x : HL T.den (hsT l r)), (tkT σ f l r x).1.map (er T) = (tkT σ f l r x).1.map (er0 T)
  | [], _, _ => rfl
  | s :: l, r, x => by
    have aux : ∀ x : HL T.den (hs0 s (hsT l r)), er T (tk0 σ f s _ x).1 :: (tkT σ f l r (tk0 σ f s (hsT l r) x).2).1.map (er T) = er0 T (tk0 σ f s _ x).1 :: (tkT σ f l r (tk0 σ f s (hsT l r) x).2).1.map (er0 T) := fun x => by
      rw [er_ntup (tk0_ren σ f s _ x).2, tkT_er l r]
    exact aux x
theorem tkT_len : ∀ (l : List Sh0) (r : List Ty) (x : HL T.den (hsT l r)), (tkT σ f l r x).1.length = l.length
  | [], _, _ => rfl
  | s :: l, r, x => by
    exact congrArg (· + 1) (tkT_len l r _)
theorem tkV_ren : ∀ (s : Sh) (r : List Ty) (x : HL T.den (hsV s r)), er T (tkV σ f s r x).1 = ren σ (er T (tkV idf f s r x).1)
  | .one s, r, x => by
    have aux : ∀ x : HL T.den (hs0 s r), er T (tk0 σ f s r x).1 = ren σ (er T (tk0 idf f s r x).1) := fun x => by
      rw [er_ntup (tk0_ren σ f s r x).2, er_ntup (tk0_ren idf f s r x).2, (tk0_ren σ f s r x).1, ren_0 σ kjq]
    exact aux x
  | .tup l, r, x => by
    exact congrArg V.tup (k16k σ f l r x)
theorem k1p6 (g : Option (TOb T.den)) : ∀ (o : OSh) (r : List Ty) (x : HL T.den (hsO1 o r)), (∀ l, g ≠ some (.cells l)) → erO T (tkO1 σ f g o r x).1 = renO σ (erO T (tkO1 idf f g o r x).1)
  | .cells l, r, x, _ => by
    exact congrArg Ob.cells (tkL_ren σ f l r x)
  | .tip _, _, _, h => by
    show erO T (g.getD .dead) = renO σ (erO T (g.getD .dead))
    cases g with
    | none => rfl
    | some o => cases o with
      | cells l => exact (h l rfl).elim
      | vec e l =>
        show Ob.cells _ = Ob.cells _
        rw [List.map_map]; rfl
      | _ => rfl
  | .vec _, _, _, h => by
    show erO T (g.getD .dead) = renO σ (erO T (g.getD .dead))
    cases g with
    | none => rfl
    | some o => cases o with
      | cells l => exact (h l rfl).elim
      | vec e l =>
        show Ob.cells _ = Ob.cells _
        rw [List.map_map]; rfl
      | _ => rfl
  | .dead, _, _, _ => rfl
def Flat (f : List (Option (TOb T.den))) : Prop := ∀ k l, fget f k ≠ some (.cells l)
theorem tkC_ren (hf : Flat f) : ∀ (k : Nat) (l : List OSh) (r : List Ty) (x : HL T.den (hsC l r)), (tkC σ f k l r x).1.map (erO T) = ((tkC idf f k l r x).1.map (erO T)).map (renO σ)
  | _, [], _, _ => rfl
  | k, o :: l, r, x => by
    have aux : ∀ x : HL T.den (hsO1 o (hsC l r)), erO T (tkO1 σ f (fget f k) o _ x).1 :: (tkC σ f (k + 1) l r (tkO1 σ f (fget f k) o _ x).2).1.map (erO T) = renO σ (erO T (tkO1 idf f (fget f k) o _ x).1) :: ((tkC idf f (k + 1) l r (tkO1 idf f (fget f k) o _ x).2).1.map (erO T)).map (renO σ) := fun x => by
      rw [k1p6 _ _ _ _ _ _ (hf k), tkO1_dr, tkO1_dr, tkC_ren hf (k + 1) l r]
    exact aux x
theorem tkC_len : ∀ (k : Nat) (l : List OSh) (r : List Ty) (x : HL T.den (hsC l r)), (tkC σ f k l r x).1.length = l.length
  | _, [], _, _ => rfl
  | k, o :: l, r, x => by
    exact congrArg (· + 1) (tkC_len (k + 1) l r _)
end
theorem kr0 : ∀ (l : List OSh) (x : HL T.den (hsB l)) (k : Nat) (c : List (TV T.den)), (tkB l x)[k]? ≠ some (some (.cells c))
  | [], _, _, _ => by simp [tkB]
  | .tip e :: l, x, 0, c => by simp [tkB]
  | .tip e :: l, x, k + 1, c => by simp only [tkB, List.getElem?_cons_succ]; exact kr0 l x.2 k c
  | .vec e :: l, x, 0, c => by simp [tkB]
  | .vec e :: l, x, k + 1, c => by simp only [tkB, List.getElem?_cons_succ]; exact kr0 l x.2 k c
  | .cells _ :: l, x, 0, c => by simp [tkB]
  | .cells _ :: l, x, k + 1, c => by simp only [tkB, List.getElem?_cons_succ]; exact kr0 l x k c
  | .dead :: l, x, 0, c => by simp [tkB]
  | .dead :: l, x, k + 1, c => by simp only [tkB, List.getElem?_cons_succ]; exact kr0 l x k c
theorem kqp (l : List OSh) (x : HL T.den (hsB l)) : Flat (tkB l x) := by
  intro k c h
  unfold fget at h
  split at h
  · rename_i o ho; injection h with h; subst h; exact kr0 l x k c ho
  · cases h
section
variable {σ : Nat → Nat} {f : List (Option (TOb T.den))} {m nx : Nat}
theorem blt_lt {a b : Nat} (h : Nat.blt a b = true) : a < b := Nat.le_of_ble_eq_true h
theorem ownT_ok {k nx : Nat} (h : k < nx) (g : Option (TOb T.den)) : ok1 nx (er1 T (ownT k g)) := by unfold ownT; split <;> first | exact h | trivial
theorem rowT_ok {k nx : Nat} (h : k < nx) (g : Option (TOb T.den)) : ok1 nx (er1 T (rowT k g)) := by unfold rowT; split <;> first | exact h | trivial
theorem tk1_ok (hσ : ∀ j, j < m → σ j < nx) : ∀ (s : Sh1) (r : List Ty) (x : HL T.den (hs1 s r)), ok1B m s = true → ok1 nx (er1 T (tk1 σ f s r x).1)
  | .any, _, _, _ => trivial
  | .k _, _, _, _ => trivial
  | .d t, _, _, _ => by show ok1 nx (.d _); trivial
  | .full _, _, _, _ => trivial
  | .own j, _, _, h => ownT_ok (hσ j (blt_lt h)) _
  | .ptr j _, _, _, h => hσ j (blt_lt h)
  | .row j, _, _, h => rowT_ok (hσ j (blt_lt h)) _
theorem tkL_ok (hσ : ∀ j, j < m → σ j < nx) : ∀ (l : List Sh1) (r : List Ty) (x : HL T.den (hsL l r)), okLB m l = true → okL nx ((tkL σ f l r x).1.map (er1 T))
  | [], _, _, _ => trivial
  | s :: l, r, x, h => by
    simp only [okLB, Bool.and_eq_true] at h
    exact ⟨tk1_ok hσ s _ x h.1, tkL_ok hσ l r _ h.2⟩
theorem tk0_ok (hσ : ∀ j, j < m → σ j < nx) : ∀ (s : Sh0) (r : List Ty) (x : HL T.den (hs0 s r)), ok0B m s = true → ok0 nx (er0 T (tk0 σ f s r x).1)
  | .one s, r, x, h => by
    have aux : ∀ x : HL T.den (hs1 s r), ok0 nx (er0 T (tk1 σ f s r x).1) := fun x => by
      have h1 := tk1_ok (f := f) hσ s r x h
      rw [er0_sim (tk1_sim σ f s r x)]
      generalize hv : er1 T (tk1 σ f s r x).1 = v at h1 ⊢
      cases v <;> first | exact h1 | exact h1.elim
    exact aux x
  | .agg l, r, x, h => tkL_ok hσ l r x h
theorem tkT_ok (hσ : ∀ j, j < m → σ j < nx) : ∀ (l : List Sh0) (r : List Ty) (x : HL T.den (hsT l r)), okTB m l = true → okT nx ((tkT σ f l r x).1.map (er0 T))
  | [], _, _, _ => trivial
  | s :: l, r, x, h => by
    simp only [okTB, Bool.and_eq_true] at h
    exact ⟨tk0_ok hσ s _ x h.1, tkT_ok hσ l r _ h.2⟩
theorem ok_of0 {x : V} (h : ok0 nx x) (hn : ∀ l, x ≠ .tup l) : ok nx x := by cases x <;> first | exact h | exact (hn _ rfl).elim
theorem tkV_ok (hσ : ∀ j, j < m → σ j < nx) : ∀ (s : Sh) (r : List Ty) (x : HL T.den (hsV s r)), okVB m s = true → ok nx (er T (tkV σ f s r x).1)
  | .one s, r, x, h => by
    have aux : ∀ x : HL T.den (hs0 s r), ok nx (er T (tk0 σ f s r x).1) := fun x => by
      rw [er_ntup (tk0_ren σ f s r x).2]
      exact ok_of0 (tk0_ok hσ s r x h) kjq
    exact aux x
  | .tup l, r, x, h => tkT_ok hσ l r x h
theorem k1dx : ∀ (s : Sh) (r : List Ty) (x : HL T.den (hsV s r)), noTup (er T (tkV σ f s r x).1)
  | .one s, r, x => by
    have aux : ∀ x : HL T.den (hs0 s r), noTup (er T (tk0 σ f s r x).1) := fun x => by
      rw [er_ntup (tk0_ren σ f s r x).2]
      have := kjq (v := (tk0 σ f s r x).1)
      generalize er0 T (tk0 σ f s r x).1 = y at this
      cases y <;> first | trivial | exact (this _ rfl).elim
    exact aux x
  | .tup l, r, x => by
    intro y hy l' e
    obtain ⟨v, _, rfl⟩ := List.mem_map.1 hy
    exact kjq l' e
theorem k1lk {o : TOb T.den} (h : ∀ l, o ≠ .cells l) : okO nx (erO T o) := by
  cases o with
  | cells l => exact (h l rfl).elim
  | vec e l =>
    show okL nx (List.map V.d _)
    generalize (List.map (T.e e) l).flatMap D.cells = k
    induction k with
    | nil => trivial
    | cons d k ih => exact ⟨trivial, ih⟩
  | _ => trivial
theorem k1el {f : List (Option (TOb T.den))} (hf : Flat f) (k : Nat) : ∀ l, (fget f k).getD .dead ≠ TOb.cells l := by
  intro l h
  cases hg : fget f k with
  | none => rw [hg] at h; cases h
  | some o => rw [hg] at h; exact hf k l (by rw [hg]; exact congrArg some h)
theorem tkC_ok (hf : Flat f) (hσ : ∀ j, j < m → σ j < nx) : ∀ (k : Nat) (l : List OSh) (r : List Ty) (x : HL T.den (hsC l r)), okOsB m l = true → ∀ (i : Nat) (o : TOb T.den), (tkC σ f k l r x).1[i]? = some o → okO nx (erO T o)
  | _, [], _, _, _, i, o, h => by simp [tkC] at h
  | k, p :: l, r, x, hk, i, o, h => by
    simp only [okOsB, Bool.and_eq_true] at hk
    cases i with
    | zero =>
      have h : some (tkO1 σ f (fget f k) p _ x).1 = some o := h
      injection h with h
      subst h
      cases p with
      | cells l' => exact tkL_ok hσ l' _ x hk.1
      | tip e => exact k1lk (k1el hf k)
      | vec e => exact k1lk (k1el hf k)
      | dead => trivial
    | succ i => exact tkC_ok hf hσ (k + 1) l r _ hk.2 i o h
end
theorem KC.is_eq {c : KC} {v : Value} (h : c.is v = true) : v = c.v := by
  cases c with
  | nilPtr => cases v <;> first | (rename_i p; cases p <;> first | rfl | cases h) | cases h
  | nilMap => cases v <;> first | (rename_i p; cases p <;> first | rfl | cases h) | cases h
  | nilSlice => exact kjx h
  | nilFunc => cases v <;> first | rfl | cases h
  | undef =>
    cases v with
    | tuple a =>
      have ha : a = #[] := Array.eq_empty_of_size_eq_zero (nb_eq h)
      subst ha; rfl
    | _ => cases h
  | fn f =>
    cases v with
    | func g a b =>
      cases g with
      | func g =>
        simp only [KC.is, Bool.and_eq_true] at h
        rw [nb_eq h.1.1]
        have ha : a = #[] := Array.eq_empty_of_size_eq_zero (nb_eq h.1.2)
        have hb : b = #[] := Array.eq_empty_of_size_eq_zero (nb_eq h.2)
        rw [ha, hb]; rfl
      | _ => cases h
    | _ => cases h
theorem k1em {t : Ty} (ht : t.agg = false) {v : TV T.den} {x : t.den T.den} (h : toEl2 t v = some x) : v.one = true := by
  unfold toEl2 at h
  split at h
  · obtain ⟨rfl, _⟩ := Ty.cast_some h
    show (!_) = true
    rw [ht]; rfl
  · cases h
theorem k1er {t : Ty} {v : TV T.den} {x : t.den T.den} (h : toEl1 t v = some x) : v.one = true := by
  cases t with
  | int k => exact k1em rfl h
  | bool =>
    have h : v.isB = some x := h
    cases v with
    | lit b => rfl
    | d t y => cases t <;> first | rfl | cases h
    | _ => cases h
  | str => exact k1em rfl h
  | sl e => exact (els_er h).2
  | st n => cases h
section
variable {σ : Nat → Nat} {f : List (Option (TOb T.den))}
theorem le_of1 {x y : V} (hx : (∀ l, x ≠ .agg l) ∧ ∀ l, x ≠ .tup l) (h : le1 x y) : le x y := by
  cases x <;> first | exact h | exact (hx.1 _ rfl).elim | exact (hx.2 _ rfl).elim
theorem le0_of1' {x y : V} (hx : ∀ l, x ≠ .agg l) (h : le1 x y) : le0 x y := by
  cases x <;> first | exact h | exact (hx _ rfl).elim
theorem le0_any (x : V) : le0 x .any := by cases x <;> trivial
theorem mt1_snd : ∀ (s : Sh1) (r : List Ty) (v : TV T.den) (a : HL T.den r) (K : HL T.den (hs1 s r) → Prop), mt1 σ f s r v a K →
    ∃ y, K y ∧ dr1 s r y = a ∧ le1 (er1 T v) (er1 T (tk1 σ f s r y).1) ∧ le0 (er0 T v) (er1 T (tk1 σ f s r y).1) ∧ le (er T v) (er1 T (tk1 σ f s r y).1) ∧ (one1B s = true → (er1 T (tk1 σ f s r y).1).one = true)
  | .any, r, v, a, K, h => ⟨a, h, rfl, by show le1 _ .any; unfold le1; trivial, le0_any _, by show le _ .any; rw [le_any]; trivial, fun h => by cases h⟩
  | .k c, r, v, a, K, h => by
    simp only [mt1] at h
    split at h
    · rename_i u
      obtain ⟨h1, h2⟩ := cnd h
      have e := KC.is_eq h1
      subst e
      have q : le1 (.k c.v) (.k c.v) := k3v _
      refine ⟨a, h2, rfl, q, le0_of1' (fun l h => by cases h) q, le_of1 ⟨fun l h => (by cases h), fun l h => (by cases h)⟩ q, fun h1 => ?_⟩
      cases c <;> first | rfl | cases h1
    · exact h.elim
  | .d t, r, v, a, K, h => by
    simp only [mt1] at h
    split at h
    · rename_i x hx
      have ho := k1er hx
      obtain ⟨h1, h2, h3⟩ := kpp hx
      refine ⟨(x, a), h, rfl, h1, ?_, ?_, fun _ => e_one h3 x⟩
      · rw [er0_of1 ho]; exact le0_of1' er1_na.1 h1
      · rw [er_of1 ho]; exact le_of1 er1_na h1
    · exact h.elim
  | .full e, r, v, a, K, h => by
    simp only [mt1] at h
    split at h
    · rename_i e' l
      split at h
      · rename_i x hx
        obtain ⟨c1, c2, _⟩ := k4j hx
        have q : le1 (.full (T.sz e') (l.map (T.e e'))) (.full (T.sz e) (x.map (T.e e))) := by rw [c1, c2]; exact k3v _
        exact ⟨(x, a), h, rfl, q, q, q, fun _ => rfl⟩
      · exact h.elim
    · obtain ⟨h1, h2⟩ := cnd h
      rw [kjx h1]
      have q : le1 (.k (.slice none 0 0)) (.full (T.sz e) []) := rfl
      exact ⟨([], a), h2, rfl, q, q, q, fun _ => rfl⟩
    · exact h.elim
  | .own j, r, v, a, K, h => by
    simp only [mt1] at h
    split at h
    · rename_i tok e l
      unfold mtOwn at h
      split at h
      · rename_i e' l' hg
        obtain ⟨h1, h2⟩ := cnd h
        split at h2
        · rename_i l2 hl
          obtain ⟨rfl, h3⟩ := h2
          obtain ⟨c1, c2, _⟩ := k4j hl
          have ht := nb_eq h1
          have q : le1 (.own tok (T.sz e) (l.map (T.e e))) (er1 T (tk1 σ f (.own j) r a).1) := by
            show le1 _ (er1 T (ownT (σ j) (fget f j)))
            rw [hg, ht, c1, c2]; exact k3v _
          refine ⟨a, h3, rfl, q, le0_of1' (fun l h => by cases h) q, le_of1 ⟨fun l h => (by cases h), fun l h => (by cases h)⟩ q, fun _ => ?_⟩
          show (er1 T (ownT (σ j) (fget f j))).one = true
          rw [hg]; rfl
        · exact h2.elim
      · exact h.elim
    · exact h.elim
  | .ptr j off, r, v, a, K, h => by
    simp only [mt1] at h
    split at h
    · rename_i id off'
      obtain ⟨h1, h2⟩ := cnd h
      simp only [Bool.and_eq_true] at h1
      have e1 := nb_eq h1.1
      have e2 := nb_eq h1.2
      subst e1
      subst e2
      have q : le1 (.ptr (σ j) off') (.ptr (σ j) off') := k3v _
      exact ⟨a, h2, rfl, q, le0_of1' (fun l h => by cases h) q, le_of1 ⟨fun l h => (by cases h), fun l h => (by cases h)⟩ q, fun _ => rfl⟩
    · exact h.elim
  | .row j, r, v, a, K, h => by
    simp only [mt1] at h
    split at h
    · rename_i id e n
      unfold mtRow at h
      split at h
      · rename_i e' l' hg
        obtain ⟨h1, h2, h3⟩ := cnd h
        simp only [Bool.and_eq_true] at h1
        have e1 := nb_eq h1.1
        have e2 := Ty.eq_of_beq h1.2
        subst e2
        have q : le1 (.row id 0 n (T.sz e)) (er1 T (tk1 σ f (.row j) r a).1) := by
          show le1 _ (er1 T (rowT (σ j) (fget f j)))
          rw [hg, e1, h2]; exact k3v _
        refine ⟨a, h3, rfl, q, le0_of1' (fun l h => by cases h) q, le_of1 ⟨fun l h => (by cases h), fun l h => (by cases h)⟩ q, fun _ => ?_⟩
        show (er1 T (rowT (σ j) (fget f j))).one = true
        rw [hg]; rfl
      · exact h.elim
    · exact h.elim
theorem mtL_snd {os : List OSh} : ∀ (l : List Sh1) (r : List Ty) (vs : List (TV T.den)) (a : HL T.den r) (K : HL T.den (hsL l r) → Prop), kindLB os l = true → mtL σ f l r vs a K →
    ∃ y, K y ∧ drL l r y = a ∧ leL (vs.map (er1 T)) ((tkL σ f l r y).1.map (er1 T))
  | [], r, [], a, K, _, h => ⟨a, h, rfl, trivial⟩
  | [], r, _ :: _, a, K, _, h => h.elim
  | _ :: _, r, [], a, K, _, h => h.elim
  | s :: l, r, v :: vs, a, K, hk, h => by
    simp only [kindLB, Bool.and_eq_true] at hk
    obtain ⟨b, h1, h2, h3⟩ := mtL_snd l r vs a _ hk.2 h
    obtain ⟨y, g1, g2, g3, _, _, g6⟩ := mt1_snd s (hsL l r) v b K h1
    have e2 : (tk1 σ f s (hsL l r) y).2 = b := by rw [tk1_dr, g2]
    exact ⟨y, g1, (congrArg (drL l r) g2).trans h2, ⟨g3, g6 hk.1.2⟩, Eq.mpr (congrArg (fun z => leL (vs.map (er1 T)) ((tkL σ f l r z).1.map (er1 T))) e2) h3⟩
theorem mt0_snd {os : List OSh} : ∀ (s : Sh0) (r : List Ty) (v : TV T.den) (a : HL T.den r) (K : HL T.den (hs0 s r) → Prop), kind0B os s = true → mt0 σ f s r v a K →
    ∃ y, K y ∧ dr0 s r y = a ∧ le0 (er0 T v) (er0 T (tk0 σ f s r y).1) ∧ le (er T v) (er T (tk0 σ f s r y).1)
  | .one s, r, v, a, K, _, h => by
    obtain ⟨y, g1, g2, _, g4, g5, _⟩ := mt1_snd s r v a K h
    have q1 := er0_sim (tk1_sim σ f s r y)
    have q2 := er_sim (tk1_sim σ f s r y)
    rw [← q1] at g4
    rw [← q2] at g5
    exact ⟨y, g1, g2, g4, g5⟩
  | .agg l, r, v, a, K, hk, h => by
    simp only [mt0] at h
    split at h
    · rename_i vs
      obtain ⟨y, g1, g2, g3⟩ := mtL_snd l r vs a K hk h
      exact ⟨y, g1, g2, g3, g3⟩
    · exact h.elim
def leAll : List V → List V → Prop
  | [], [] => True
  | x :: xs, y :: ys => le x y ∧ leAll xs ys
  | _, _ => False
theorem mtT_snd {os : List OSh} : ∀ (l : List Sh0) (r : List Ty) (vs : List (TV T.den)) (a : HL T.den r) (K : HL T.den (hsT l r) → Prop), kindTB os l = true → mtT σ f l r vs a K →
    ∃ y, K y ∧ drT l r y = a ∧ leT (vs.map (er0 T)) ((tkT σ f l r y).1.map (er0 T)) ∧ leAll (vs.map (er T)) ((tkT σ f l r y).1.map (er T))
  | [], r, [], a, K, _, h => ⟨a, h, rfl, trivial, trivial⟩
  | [], r, _ :: _, a, K, _, h => h.elim
  | _ :: _, r, [], a, K, _, h => h.elim
  | s :: l, r, v :: vs, a, K, hk, h => by
    simp only [kindTB, Bool.and_eq_true] at hk
    obtain ⟨b, h1, h2, h3, h4⟩ := mtT_snd l r vs a _ hk.2 h
    obtain ⟨y, g1, g2, g3, g4⟩ := mt0_snd s (hsT l r) v b K hk.1 h1
    have e2 : (tk0 σ f s (hsT l r) y).2 = b := by rw [tk0_dr, g2]
    exact ⟨y, g1, (congrArg (drT l r) g2).trans h2, ⟨g3, Eq.mpr (congrArg (fun z => leT (vs.map (er0 T)) ((tkT σ f l r z).1.map (er0 T))) e2) h3⟩, ⟨g4, Eq.mpr (congrArg (fun z => leAll (vs.map (er T)) ((tkT σ f l r z).1.map (er T))) e2) h4⟩⟩
theorem mtV_snd {os : List OSh} : ∀ (s : Sh) (r : List Ty) (v : TV T.den) (a : HL T.den r) (K : HL T.den (hsV s r) → Prop), kindVB os s = true → mtV σ f s r v a K →
    ∃ y, K y ∧ drV s r y = a ∧ le (er T v) (er T (tkV σ f s r y).1)
  | .one s, r, v, a, K, hk, h => by
    obtain ⟨y, g1, g2, _, g4⟩ := mt0_snd s r v a K hk h
    exact ⟨y, g1, g2, g4⟩
  | .tup l, r, v, a, K, hk, h => by
    simp only [mtV] at h
    split at h
    · rename_i vs
      obtain ⟨y, g1, g2, g3, _⟩ := mtT_snd l r vs a K hk h
      exact ⟨y, g1, g2, g3⟩
    · exact h.elim
def obIn (h : THp T.den) (σ : Nat → Nat) (f : List (Option (TOb T.den))) (k : Nat) : OSh → Prop
  | .tip e => ∃ x e' x', fget f k = some (.tip e x) ∧ getH h (σ k) = some (.tip e' x') ∧ castL e' e x' = some x
  | .vec e => ∃ x e' x', fget f k = some (.vec e x) ∧ getH h (σ k) = some (.vec e' x') ∧ castL e' e x' = some x
  | _ => True
theorem kde (o : Option (TOb T.den)) (f : List (Option (TOb T.den))) (k : Nat) : fget (o :: f) (k + 1) = fget f k := by simp [fget]
theorem mtB_snd {h : THp T.den} : ∀ (l : List OSh) (k : Nat) (b : HL T.den (hsB l)), mtB h σ k l = some b → ∀ (i : Nat) (o : OSh), l[i]? = some o → match o with
    | .tip e => ∃ x e' x', fget (tkB l b) i = some (.tip e x) ∧ getH h (σ (k + i)) = some (.tip e' x') ∧ castL e' e x' = some x
    | .vec e => ∃ x e' x', fget (tkB l b) i = some (.vec e x) ∧ getH h (σ (k + i)) = some (.vec e' x') ∧ castL e' e x' = some x
    | _ => True
  | [], _, _, _, i, o, ho => by simp at ho
  | .tip e :: l, k, b, hb, i, o, ho => by
    simp only [mtB] at hb
    split at hb
    · rename_i e' x hg
      split at hb
      · rename_i x2 hx
        split at hb
        · rename_i y hy
          injection hb with hb
          subst hb
          cases i with
          | zero => simp at ho; subst ho; exact ⟨x2, e', x, rfl, hg, hx⟩
          | succ i =>
            have := mtB_snd l (k + 1) y hy i o (by simpa using ho)
            rw [show k + (i + 1) = k + 1 + i by omega]
            cases o <;> first | trivial | (simp only [tkB, kde]; exact this)
        · cases hb
      · cases hb
    · cases hb
  | .vec e :: l, k, b, hb, i, o, ho => by
    simp only [mtB] at hb
    split at hb
    · rename_i e' x hg
      split at hb
      · rename_i x2 hx
        split at hb
        · rename_i y hy
          injection hb with hb
          subst hb
          cases i with
          | zero => simp at ho; subst ho; exact ⟨x2, e', x, rfl, hg, hx⟩
          | succ i =>
            have := mtB_snd l (k + 1) y hy i o (by simpa using ho)
            rw [show k + (i + 1) = k + 1 + i by omega]
            cases o <;> first | trivial | (simp only [tkB, kde]; exact this)
        · cases hb
      · cases hb
    · cases hb
  | .cells c :: l, k, b, hb, i, o, ho => by
    have hb : mtB h σ (k + 1) l = some b := hb
    cases i with
    | zero => simp at ho; subst ho; trivial
    | succ i =>
      have := mtB_snd l (k + 1) b hb i o (by simpa using ho)
      rw [show k + (i + 1) = k + 1 + i by omega]
      cases o <;> first | trivial | (simp only [tkB, kde]; exact this)
  | .dead :: l, k, b, hb, i, o, ho => by
    have hb : mtB h σ (k + 1) l = some b := hb
    cases i with
    | zero => simp at ho; subst ho; trivial
    | succ i =>
      have := mtB_snd l (k + 1) b hb i o (by simpa using ho)
      rw [show k + (i + 1) = k + 1 + i by omega]
      cases o <;> first | trivial | (simp only [tkB, kde]; exact this)
theorem k1q5 (hT : T.Ok) {os : List OSh} {h : THp T.den} {k : Nat} : ∀ (o : OSh) (r : List Ty) (a : HL T.den r) (K : HL T.den (hsO1 o r) → Prop), kindOB os [o] = true → obIn h σ f k o → mtO1 σ f h k o r a K →
    ∃ y, K y ∧ drO1 o r y = a ∧ obLe ((erH T h).get (σ k)) (erO T (tkO1 σ f (fget f k) o r y).1)
  | .cells l, r, a, K, hk, _, hm => by
    simp only [mtO1] at hm
    split at hm
    · rename_i vs hg
      simp only [kindOB, Bool.and_true] at hk
      obtain ⟨y, g1, g2, g3⟩ := mtL_snd l r vs a K hk hm
      refine ⟨y, g1, g2, ?_⟩
      rw [getH_er, hg]; exact g3
    · exact hm.elim
  | .tip e, r, a, K, _, hi, hm => by
    obtain ⟨x, e', x', h1, h2, h3⟩ := hi
    refine ⟨a, hm, rfl, ?_⟩
    rw [getH_er, h2]
    show obLe _ (erO T ((fget f k).getD .dead))
    rw [h1]
    exact (k4j h3).2.2
  | .vec e, r, a, K, _, hi, hm => by
    obtain ⟨x, e', x', h1, h2, h3⟩ := hi
    refine ⟨a, hm, rfl, ?_⟩
    rw [getH_er, h2]
    show obLe _ (erO T ((fget f k).getD .dead))
    rw [h1]
    obtain ⟨c1, c2, _⟩ := k4j h3
    show leL (((x'.map (T.e e')).flatMap D.cells).map V.d) (((x.map (T.e e)).flatMap D.cells).map V.d)
    rw [c2]
    exact k156 _ (kw0 hT x)
  | .dead, r, a, K, _, _, hm => ⟨a, hm, rfl, by
      show obLe _ Ob.dead
      generalize (erH T h).get (σ k) = o
      cases o with
      | none => trivial
      | some o => cases o <;> trivial⟩
theorem k1ns {os : List OSh} {o : OSh} {l : List OSh} (h : kindOB os (o :: l) = true) : kindOB os [o] = true ∧ kindOB os l = true := by
  cases o with
  | cells c => simp only [kindOB, Bool.and_eq_true, Bool.and_true] at h ⊢; exact h
  | _ => exact ⟨rfl, h⟩
theorem mtC_snd (hT : T.Ok) {os : List OSh} {h : THp T.den} : ∀ (k : Nat) (l : List OSh) (r : List Ty) (a : HL T.den r) (K : HL T.den (hsC l r) → Prop), kindOB os l = true → (∀ i o, l[i]? = some o → obIn h σ f (k + i) o) → mtC σ f h k l r a K →
    ∃ y, K y ∧ drC l r y = a ∧ ∀ i o, (tkC σ f k l r y).1[i]? = some o → obLe ((erH T h).get (σ (k + i))) (erO T o)
  | _, [], r, a, K, _, _, hm => ⟨a, hm, rfl, fun i o h => by simp [tkC] at h⟩
  | k, p :: l, r, a, K, hk, hi, hm => by
    obtain ⟨k1, k2⟩ := k1ns hk
    obtain ⟨b, h1, h2, h3⟩ := mtC_snd hT (k + 1) l r a _ k2 (fun i o ho => by rw [show k + 1 + i = k + (i + 1) by omega]; exact hi (i + 1) o (by simpa using ho)) hm
    obtain ⟨y, g1, g2, g3⟩ := k1q5 hT p (hsC l r) b K k1 (hi 0 p (by simp)) h1
    refine ⟨y, g1, ?_, fun i o ho => ?_⟩
    · exact (congrArg (drC l r) g2).trans h2
    · cases i with
      | zero =>
        have ho : some (tkO1 σ f (fget f k) p _ y).1 = some o := ho
        injection ho with ho
        subst ho
        exact g3
      | succ i =>
        have e2 : (tkO1 σ f (fget f k) p (hsC l r) y).2 = b := by rw [tkO1_dr, g2]
        have ho : (tkC σ f (k + 1) l r (tkO1 σ f (fget f k) p (hsC l r) y).2).1[i]? = some o := ho
        rw [e2] at ho
        rw [show k + (i + 1) = k + 1 + i by omega]
        exact h3 i o ho
theorem k16s (hT : T.Ok) {h : THp T.den} {os : List OSh} {b : HL T.den (hsB os)} {K : HL T.den (hsOs os) → Prop} (hk : kindOB os os = true) (hb : mtB h σ 0 os = some b) (hm : mtC σ (tkB os b) h 0 os (hsB os) b K) :
    ∃ y, K y ∧ drC os (hsB os) y = b ∧ ∀ i o, (tkC σ (tkB os b) 0 os (hsB os) y).1[i]? = some o → obLe ((erH T h).get (σ i)) (erO T o) := by
  obtain ⟨y, g1, g2, g3⟩ := mtC_snd hT 0 os (hsB os) b K hk (fun i o ho => by
    have := mtB_snd os 0 b hb i o ho
    simp only [Nat.zero_add] at this ⊢
    cases o <;> first | trivial | exact this) hm
  exact ⟨y, g1, g2, fun i o ho => by have := g3 i o ho; simpa using this⟩
end
end
end Go.Cv
namespace Go.Cv
open Go Go.Bv Go.RowKit Go.Md
section
variable {T : Tab} {P : Program}
structure Con.Ok (P : Program) (T : Tab) (c : Con T.den) : Prop where
  cl : Callable P c.f
  snd : ∀ x K, c.R x K → ∃ o, K o ∧ SoundH P c.f ((c.args idf x).map (er T)) ((c.obs idf x).map (erO T)) (er T (c.val idf o)) ((c.ops idf o).map (erO T))
def XCon.Ok (P : Program) (T : Tab) (c : XCon T.den) : Prop := c.ins.all (fun t => !t.agg) = true ∧ ∀ x, c.ok x → SoundX P c.f ((tvs c.ins x).map (er T)) (er T (outV c.out (c.val x)))
structure Cx.Ok (P : Program) (T : Tab) (C : Cx T) : Prop where
  ti : InfoOk P T C.ti
  cs : ∀ c ∈ C.cs, c.Ok P T
  xs : ∀ c ∈ C.xs, c.Ok P T
theorem k1m0 {h : Hp} {σ : Nat → Nat} {m fb nx : Nat} : ∀ {ks : List Nat} {os : List Ob}, ks.length = os.length → (∀ (i k : Nat) (o : Ob), ks[i]? = some k → os[i]? = some o → k < fb ∧ k < nx ∧ obLe (h.get k) (renO σ o) ∧ okO m o ∧ notDead o) → preOk h σ m fb nx ks os
  | [], [], _, _ => trivial
  | [], _ :: _, h, _ => by cases h
  | _ :: _, [], h, _ => by cases h
  | k :: ks, o :: os, h, hh => ⟨hh 0 k o rfl rfl, k1m0 (by simpa using h) fun i k' o' h1 h2 => hh (i + 1) k' o' (by simpa using h1) (by simpa using h2)⟩
theorem k1e6 : ∀ {x : Nat} {l : List Nat}, memB x l = false → x ∉ l
  | _, [], _ => by simp
  | x, y :: r, h => by
    simp only [memB, Bool.or_eq_false_iff] at h
    intro hm
    rcases List.mem_cons.1 hm with e | hm
    · subst e; rw [nb_self] at h; cases h.1
    · exact k1e6 h.2 hm
theorem kt0 : ∀ {l : List Nat}, nodupB l = true → l.Nodup
  | [], _ => List.nodup_nil
  | x :: r, h => by
    simp only [nodupB, Bool.and_eq_true, Bool.not_eq_true'] at h
    exact List.nodup_cons.2 ⟨k1e6 h.1, kt0 h.2⟩
theorem kp7 {n : Nat} : ∀ {l : List Nat}, allLt n l = true → ∀ x ∈ l, x < n
  | [], _, x, h => by cases h
  | y :: r, hh, x, h => by
    simp only [allLt, Bool.and_eq_true] at hh
    rcases List.mem_cons.1 h with rfl | h
    · exact blt_lt hh.1
    · exact kp7 hh.2 x h
theorem sgm_at {ids : List Nat} {fb i k : Nat} (h : ids[i]? = some k) : sgm ids fb i = k := by unfold sgm; rw [h]
def isOb (f : List (Option (TOb T.den))) (k : Nat) (o : TOb T.den) : OSh → Prop
  | .cells _ => ∃ c, o = .cells c
  | .tip _ => o = (fget f k).getD .dead
  | .vec _ => o = (fget f k).getD .dead
  | .dead => o = .dead
theorem tkC_at {σ : Nat → Nat} {f : List (Option (TOb T.den))} : ∀ (k : Nat) (l : List OSh) (r : List Ty) (x : HL T.den (hsC l r)) (i : Nat) (o : TOb T.den), (tkC σ f k l r x).1[i]? = some o → ∃ p, l[i]? = some p ∧ isOb f (k + i) o p
  | _, [], _, _, i, o, h => by simp [tkC] at h
  | k, p :: l, r, x, i, o, h => by
    cases i with
    | zero =>
      have h : some (tkO1 σ f (fget f k) p _ x).1 = some o := h
      injection h with h
      subst h
      refine ⟨p, rfl, ?_⟩
      cases p with
      | cells l' => exact ⟨_, rfl⟩
      | _ => rfl
    | succ i =>
      obtain ⟨q, h1, h2⟩ := tkC_at (k + 1) l r _ i o h
      exact ⟨q, by simpa using h1, by rw [show k + (i + 1) = k + 1 + i by omega]; exact h2⟩
theorem tkB_vec : ∀ {l : List OSh} {x : HL T.den (hsB l)} {k : Nat} {e : Ty}, l[k]? = some (.vec e) → ∃ y, fget (tkB l x) k = some (.vec e y)
  | [], _, _, _, h => by simp at h
  | .tip _ :: l, x, 0, e, h => by simp at h
  | .tip _ :: l, x, k + 1, e, h => by
    obtain ⟨y, hy⟩ := tkB_vec (x := x.2) (by simpa using h)
    exact ⟨y, by simp only [tkB, kde]; exact hy⟩
  | .vec _ :: l, x, 0, e, h => by
    have h : some (OSh.vec _) = some (.vec e) := h
    injection h with h; injection h with h; subst h; exact ⟨x.1, rfl⟩
  | .vec _ :: l, x, k + 1, e, h => by
    obtain ⟨y, hy⟩ := tkB_vec (x := x.2) (by simpa using h)
    exact ⟨y, by simp only [tkB, kde]; exact hy⟩
  | .cells _ :: l, x, 0, e, h => by simp at h
  | .cells _ :: l, x, k + 1, e, h => by
    obtain ⟨y, hy⟩ := tkB_vec (l := l) (x := x) (by simpa using h)
    exact ⟨y, by simp only [tkB, kde]; exact hy⟩
  | .dead :: l, x, 0, e, h => by simp at h
  | .dead :: l, x, k + 1, e, h => by
    obtain ⟨y, hy⟩ := tkB_vec (l := l) (x := x) (by simpa using h)
    exact ⟨y, by simp only [tkB, kde]; exact hy⟩
theorem ktm : ∀ {l : List OSh}, preNoDead l = true → ∀ i : Nat, l[i]? ≠ some OSh.dead
  | [], _, i => by simp
  | p :: r, h, i => by
    cases p with
    | dead => cases h
    | _ =>
      cases i with
      | zero => simp
      | succ i => simpa using ktm (l := r) h i
theorem hpN_new {σ : Nat → Nat} : ∀ (k : Nat) (os os' : List (TOb T.den)), os'.map (erO T) = (os.map (erO T)).map (renO σ) → hpNew σ k (os.map (erO T)) = erH T (hpN σ k os')
  | _, [], [], _ => rfl
  | _, [], _ :: _, h => by cases h
  | _, _ :: _, [], h => by cases h
  | k, o :: os, o' :: os', h => by
    simp only [List.map_cons, List.cons.injEq] at h
    show (σ k, renO σ (erO T o)) :: hpNew σ (k + 1) (os.map (erO T)) = (σ k, erO T o') :: erH T (hpN σ (k + 1) os')
    rw [hpN_new (k + 1) os os' h.2, h.1]
theorem k1eo {σ : Nat → Nat} {m : Nat} : ∀ {a b c : List V}, leAll a b → b = c.map (ren σ) → (∀ y ∈ c, ok m y) → leArgs σ m a c
  | [], [], [], _, _, _ => trivial
  | x :: a, y :: b, z :: c, h1, h2, h3 => by
    simp only [List.map_cons, List.cons.injEq] at h2
    exact ⟨⟨h2.1 ▸ h1.1, h3 z (by simp)⟩, k1eo h1.2 h2.2 fun y hy => h3 y (by simp [hy])⟩
  | [], _ :: _, _, h, _, _ => h.elim
  | _ :: _, [], _, h, _, _ => h.elim
  | [], [], _ :: _, _, h, _ => by cases h
  | _ :: _, _ :: _, [], _, h, _ => by cases h
theorem okT_mem {nx : Nat} : ∀ {l : List V}, okT nx l → ∀ y ∈ l, ok0 nx y
  | [], _, y, h => by cases h
  | x :: r, hh, y, h => by
    rcases List.mem_cons.1 h with rfl | h
    · exact hh.1
    · exact okT_mem hh.2 y h
theorem k1e0 (hT : T.Ok) {c : Con T.den} (hc : c.Ok P T) {dr : Bool} {fr : Nat} {h : THp T.den} {vs : List (TV T.den)} {K : TV T.den → THp T.den → Nat → Prop} (hh : tCall c dr fr h vs K) :
    ∃ xs pre r post ids v hu nf, K v hu nf ∧ SoundH P c.f xs pre r post ∧ preOk (erH T h) (sgm ids fr) pre.length fr fr ids pre ∧ ids.Nodup ∧ pre.length ≤ post.length ∧ leArgs (sgm ids fr) pre.length (vs.map (er T)) xs ∧ noTup r ∧
      er T v = ren (sgm ids fr) r ∧ erH T hu = hpNew (sgm ids fr) 0 post ∧ nf = post.length - pre.length ∧ (dr = true → ∀ j o, post[pre.length + j]? = some o → notTip o) := by
  unfold tCall at hh
  split at hh
  · exact hh.elim
  · rename_i ids hids
    split at hh
    · exact hh.elim
    · rename_i b hb
      obtain ⟨h1, h2⟩ := cnd hh
      simp only [Bool.and_eq_true, Con.okB] at h1
      obtain ⟨⟨⟨⟨hok, hnd⟩, hlt⟩, hlen⟩, hft⟩ := h1
      obtain ⟨⟨⟨⟨⟨⟨⟨⟨⟨o1, o2⟩, o3⟩, o4⟩, o5⟩, o6⟩, o7⟩, o8⟩, o9⟩, o10⟩ := hok
      have hlen := nb_eq hlen
      have o5 := ble_le o5
      obtain ⟨y, g1, g2, g3⟩ := k16s hT o8 hb h2
      obtain ⟨x, k1, k2, _, k4⟩ := mtT_snd c.ins _ vs y _ o7 g1
      obtain ⟨o, m1, m2⟩ := hc.snd x _ k1
      have hfi : c.fi x = tkB c.pre b := by
        unfold Con.fi; rw [k2, g2]
      have hfl : Flat (tkB c.pre b) := kqp _ _
      have hobs : c.obs idf x = (tkC idf (tkB c.pre b) 0 c.pre _ y).1 := by unfold Con.obs; rw [hfi, k2]
      have hpl : ((c.obs idf x).map (erO T)).length = c.pre.length := by rw [List.length_map, hobs, tkC_len]
      have hql : ((c.ops idf o).map (erO T)).length = c.post.length := by rw [List.length_map]; unfold Con.ops; rw [tkC_len]
      refine ⟨_, _, _, _, ids, _, _, _, m1, m2, ?_, kt0 hnd, by rw [hpl, hql]; exact o5, ?_, ?_, ?_, ?_, by rw [hpl, hql], ?_⟩
      · refine k1m0 (by rw [hpl]; exact hlen) fun i k ob hk ho => ?_
        have hkm : k < fr := kp7 hlt k (List.mem_of_getElem? hk)
        rw [hpl]
        rw [List.getElem?_map, Option.map_eq_some_iff] at ho
        obtain ⟨ot, ho, rfl⟩ := ho
        rw [hobs] at ho
        refine ⟨hkm, hkm, ?_, tkC_ok hfl (fun j hj => hj) 0 c.pre _ y o2 i ot ho, ?_⟩
        · have hr := tkC_ren (sgm ids fr) (tkB c.pre b) hfl 0 c.pre _ y
          have hi : i < (tkC idf (tkB c.pre b) 0 c.pre (hsB c.pre) y).1.length := (List.getElem?_eq_some_iff.1 ho).1
          have hi2 : i < (tkC (sgm ids fr) (tkB c.pre b) 0 c.pre (hsB c.pre) y).1.length := by rw [tkC_len] at hi ⊢; exact hi
          have e := congrArg (fun l => l[i]?) hr
          simp only [List.getElem?_map, ho, Option.map_some, List.getElem?_eq_getElem hi2, Option.some.injEq] at e
          have := g3 i _ (List.getElem?_eq_getElem hi2)
          rw [e, sgm_at hk] at this
          exact this
        · obtain ⟨p, hp, hob⟩ := tkC_at 0 c.pre _ y i ot ho
          simp only [Nat.zero_add] at hob
          have hmb := mtB_snd c.pre 0 b hb i p hp
          cases p with
          | cells l => obtain ⟨c', rfl⟩ := hob; trivial
          | tip e =>
            obtain ⟨x1, e', x', q1, _, _⟩ := hmb
            have hob : ot = (fget (tkB c.pre b) i).getD .dead := hob
            rw [q1] at hob; subst hob; trivial
          | vec e =>
            obtain ⟨x1, e', x', q1, _, _⟩ := hmb
            have hob : ot = (fget (tkB c.pre b) i).getD .dead := hob
            rw [q1] at hob; subst hob; trivial
          | dead => exact (ktm o6 i hp).elim
      · rw [hpl]
        refine k1eo k4 ?_ fun z hz => ?_
        · unfold Con.args
          rw [tkT_er, tkT_er, hfi, k16k (sgm ids fr)]
          refine List.map_congr_left fun z hz => ?_
          obtain ⟨u, _, rfl⟩ := List.mem_map.1 hz
          exact (ren_0 _ kjq).symm
        · unfold Con.args at hz
          rw [tkT_er] at hz
          obtain ⟨u, _, rfl⟩ := List.mem_map.1 hz
          exact ok_of0 (okT_mem (tkT_ok (fun j hj => hj) c.ins _ x o1) _ hz) kjq
      · exact k1dx _ _ _
      · exact tkV_ren _ _ _ _ _
      · exact (hpN_new 0 _ _ (tkC_ren _ _ (kqp _ _) 0 c.post _ _)).symm
      · intro hdr j ob ho
        subst hdr
        rw [hpl, List.getElem?_map, Option.map_eq_some_iff] at ho
        obtain ⟨ot, ho, rfl⟩ := ho
        unfold Con.ops at ho
        obtain ⟨p, hp, hob⟩ := tkC_at 0 c.post _ _ _ ot ho
        simp only [Nat.zero_add] at hob
        have hf : (c.post.drop c.pre.length).all (fun o => match o with | .tip _ => false | _ => true) = true := hft
        rw [List.all_eq_true] at hf
        have hpm : p ∈ c.post.drop c.pre.length := List.mem_of_getElem? (i := j) (by rw [List.getElem?_drop]; exact hp)
        cases p with
        | cells l => obtain ⟨c', rfl⟩ := hob; trivial
        | tip e => have := hf _ hpm; cases this
        | vec e =>
          have hob : ot = (fget _ _).getD .dead := hob
          obtain ⟨y1, hy1⟩ := tkB_vec (x := drC c.post _ (drV c.res _ o)) hp
          unfold Con.fo at hob
          rw [hy1] at hob; subst hob; trivial
        | dead => have hob : ot = .dead := hob; subst hob; trivial
theorem k1oj {g : FuncId} {xs ys : List V} {r : V} (hl : xs.length = ys.length) (h : ∀ (j : Nat) (x y : V), xs[j]? = some x → ys[j]? = some y → le x y) (hs : SoundX P g ys r) : SoundX P g xs r := by
  intro G w hh nx vs hlen hr
  refine hs G w hh nx vs (by omega) fun j v y hv hy => ?_
  have hj : j < xs.length := by have := (List.getElem?_eq_some_iff.1 hy).1; omega
  exact (hr j v _ hv (List.getElem?_eq_getElem hj)).le (h j _ y (List.getElem?_eq_getElem hj) hy)
theorem k1ei : ∀ {ts : List Ty} {vs : List (TV T.den)} {z : HL T.den ts}, packL ts vs = some z → ∀ v ∈ vs, v.one = true
  | [], [], _, _, v, hv => by cases hv
  | [], _ :: _, _, h, _, _ => by cases h
  | _ :: _, [], _, h, _, _ => by cases h
  | t :: r, u :: vs, z, h, v, hv => by
    simp only [packL] at h
    split at h
    · rename_i x hx
      split at h
      · rename_i y hy
        rcases List.mem_cons.1 hv with rfl | hv
        · exact k1er hx
        · exact k1ei hy v hv
      · cases h
    · cases h
theorem tvs_er : ∀ (ts : List Ty) (x : HL T.den ts), ts.all (fun t => !t.agg) = true → (tvs ts x).map (er T) = (T.eL ts x).map .d
  | [], _, _ => rfl
  | t :: r, x, h => by
    simp only [List.all_cons, Bool.and_eq_true, Bool.not_eq_true'] at h
    show er T (.d t x.1) :: (tvs r x.2).map (er T) = .d (T.e t x.1) :: (T.eL r x.2).map .d
    rw [tvs_er r x.2 h.2]; rfl
theorem tX_snd {c : XCon T.den} (hc : c.Ok P T) {vs : List (TV T.den)} {i : HL T.den c.ins} (hp : packL c.ins vs = some i) (ho : c.ok i) : SoundX P c.f (vs.map (er T)) (er T (outV c.out (c.val i))) := by
  have hl := k16q hc.1 hp
  obtain ⟨q1, q2, q3⟩ := kjm hl
  have hs := hc.2 i ho
  rw [tvs_er _ _ hc.1] at hs
  have hone := k1ei hp
  have e : vs.map (er T) = vs.map (er1 T) := List.map_congr_left fun v hv => er_of1 (hone v hv)
  rw [e]
  refine k1oj q1 (fun j x y hx hy => ?_) hs
  rw [List.getElem?_map, Option.map_eq_some_iff] at hx
  obtain ⟨v, hv, rfl⟩ := hx
  exact le_of1 er1_na (q3 j _ y (by rw [List.getElem?_map, hv]; rfl) hy)
theorem k104 {g : Nat} {x : XCon T.den} : ∀ {l : List (XCon T.den)}, findX g l = some x → x ∈ l ∧ x.f = g
  | [], h => by cases h
  | c :: r, h => by
    simp only [findX] at h
    cases hb : Nat.beq c.f g with
    | true =>
      rw [hb] at h
      injection h with h
      subst h
      exact ⟨by simp, nb_eq hb⟩
    | false =>
      rw [hb] at h
      obtain ⟨h1, h2⟩ := k104 (l := r) h
      exact ⟨by simp [h1], h2⟩
theorem kzo {g : Nat} {vs : List (TV T.den)} {K : Con T.den → Prop} : ∀ {l : List (Con T.den)}, findC g vs K l → ∃ c ∈ l, c.f = g ∧ K c
  | [], h => h.elim
  | c :: r, h => by
    simp only [findC] at h
    cases hb : Nat.beq c.f g && fitT c.ins vs with
    | true =>
      rw [hb] at h
      simp only [Bool.and_eq_true] at hb
      exact ⟨c, by simp, nb_eq hb.1, h⟩
    | false =>
      rw [hb] at h
      obtain ⟨c', h1, h2⟩ := kzo (l := r) h
      exact ⟨c', by simp [h1], h2⟩
end
end Go.Cv
