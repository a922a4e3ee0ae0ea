/-
  Part of a machine over pure data and objects that is sound for the model: what it says of a Go function holds of every call of that function. Conditions: those in each theorem. It speaks of any program.
-/
import Derived.Test.YtjaignojekmfgaaBvCode
namespace Go.Bv
open Go.RowKit

section
variable {P : Program} {T : Tk} {G0 G : Gh} {w0 w : World} {N : Nat} {s : St} {a : Act}

theorem guard_yield (hR : R T G0 w0 N s a G w) {ops : List Oper} {j : Nat} {t : Bool} (hg : guardV s (ops.map (·.dst)) j = .d (.bool t)) : yielded ops.toArray a.tmps j = some t := by
  unfold guardV at hg
  split at hg
  · rename_i u hu
    rw [List.getElem?_map, Option.map_eq_some_iff] at hu
    obtain ⟨o, ho, hod⟩ := hu
    have hv := hR.sl u
    rw [hg] at hv
    have hb := hv.bool_inv
    unfold yielded
    have e1 : (ops.toArray[j]?).bind (·.dst) = some u := by simp [ho, hod]
    rw [e1]
    simp only [Option.bind_some]
    have : a.tmps[u]? = some (.bool t) := by
      rcases Nat.lt_or_ge u a.tmps.size with h | h
      · rw [Array.getElem?_eq_getElem h]
        simpa [h] using hb
      · simp [Nat.not_lt.2 h] at hb
        cases hb
    rw [this]
  · cases hg

theorem guard_none (hR : R T G0 w0 N s a G w) {ops : List Oper} {j : Nat} (hg : guardV s (ops.map (·.dst)) j = .k undef) : yielded ops.toArray a.tmps j = none := by
  unfold guardV at hg
  split at hg
  · rename_i u hu
    rw [List.getElem?_map, Option.map_eq_some_iff] at hu
    obtain ⟨o, ho, hod⟩ := hu
    have hv := hR.sl u
    rw [hg] at hv
    have hb := hv.k_inv
    unfold yielded
    have e1 : (ops.toArray[j]?).bind (·.dst) = some u := by simp [ho, hod]
    rw [e1]
    simp only [Option.bind_some]
    cases hc : a.tmps[u]? with
    | none => rfl
    | some v =>
      have : v = undef := by
        rw [← hb, Array.getD_eq_getD_getElem?, hc]; rfl
      subst this
      rfl
  · cases hg

theorem ops_sound {ops : List Oper} {Q : Exit → Act → World → Prop} : ∀ (l : List Oper) (K : St → Prop) (s : St) (a : Act) (G : Gh) (w : World), R T G0 w0 N s a G w → AOps P N (ops.map (·.dst)) l K s →
    (∀ s' a' G' w', K s' → R T G0 w0 N s' a' G' w' → Q .normal a' w') → wpList P ops.toArray Q l a w
  | [], K, s, a, G, w, hR, hk, hQ => hQ _ _ _ _ hk hR
  | o :: r, K, s, a, G, w, hR, hk, hQ => by
    refine wpList_step fun K1 hK1 => ?_
    simp only [AOps] at hk
    have rest : ∀ s' a' G' w', AOps P N (ops.map (·.dst)) r K s' → R T G0 w0 N s' a' G' w' → K1 a' w' := fun s' a' G' w' h1 h2 => hK1 _ _ (ops_sound r K s' a' G' w' h2 h1 hQ)
    split at hk
    · rename_i hg
      rw [if_pos (by simp [Region.wanted, hg])]
      exact op_sound hR hk rest
    · rename_i j b hg
      rcases hk with ⟨h1, h2, h3⟩ | hk
      · have hy := guard_none hR h1
        rw [if_neg (by simp [Region.wanted, hg, hy])]
        exact rest _ _ _ _ h3 (hR.put (.k _) o.dst (fun u hu => by rw [hu] at h2; exact h2))
      obtain ⟨t, h1, h2, h3⟩ := hk
      have hy := guard_yield hR h1
      by_cases htb : t = b
      · rw [if_pos (by simp [Region.wanted, hg, hy, htb])]
        exact op_sound hR (h2 htb) rest
      · rw [if_neg (by simp [Region.wanted, hg, hy, htb])]
        obtain ⟨h4, h5⟩ := h3 htb
        exact rest _ _ _ _ h5 (hR.put (.k _) o.dst (fun u hu => by rw [hu] at h4; exact h4))

def Sat (P : Program) (T : Tk) (G0 : Gh) (w0 : World) (N : Nat) (c : Code) (s : St) (Q : Exit → St → Prop) : Prop :=
  ∀ G a w, R T G0 w0 N s a G w → c.wp P (fun e a' w' => ∃ s' G', Q e s' ∧ R T G0 w0 N s' a' G' w') a w

def thenA (K : St → Prop) (Q : Exit → St → Prop) : Exit → St → Prop
  | .normal, s => K s
  | e, s => Q e s
def blockA (id : Nat) (Q : Exit → St → Prop) : Exit → St → Prop
  | .exit id', s => if id' = id then Q .normal s else Q (.exit id') s
  | e, s => Q e s

variable {Q : Exit → St → Prop}

theorem sat_region {id : Nat} {l : List Oper} (h : ∀ K : St → Prop, (∀ s', Q .normal s' → K s') → AOps P N (l.map (·.dst)) l K s) : Sat P T G0 w0 N (.region id l.toArray false) s Q := by
  intro G a w hR
  refine wp_region_lit (ops_sound l (Q .normal) s a G w hR (h _ fun _ h => h) fun s' a' G' w' hk hR' => ⟨s', G', hk, hR'⟩)

theorem sat_seq {x y : Code} (h : Sat P T G0 w0 N x s (thenA (fun s' => Sat P T G0 w0 N y s' Q) Q)) : Sat P T G0 w0 N (.seq x y) s Q := by
  intro G a w hR
  refine wp_seq (wp_mono (h G a w hR) ?_)
  rintro e a' w' ⟨s', G', hq, hR'⟩
  cases e with
  | normal => exact hq G' a' w' hR'
  | _ => exact ⟨s', G', hq, hR'⟩

/-- A region, then the rest. -/
theorem sat_step {id : Nat} {l : List Oper} {y : Code} (h : ∀ K : St → Prop, (∀ s', Sat P T G0 w0 N y s' Q → K s') → AOps P N (l.map (·.dst)) l K s) : Sat P T G0 w0 N (.seq (.region id l.toArray false) y) s Q :=
  sat_seq (sat_region h)

theorem sat_skip (h : Q .normal s) : Sat P T G0 w0 N .skip s Q := fun G _ _ hR => wp_skip ⟨s, G, h, hR⟩
theorem sat_exit {id : Nat} (h : Q (.exit id) s) : Sat P T G0 w0 N (.exit id) s Q := fun G _ _ hR => wp_exit ⟨s, G, h, hR⟩
theorem sat_ret (h : Q .ret s) : Sat P T G0 w0 N .ret s Q := fun G _ _ hR => wp_ret ⟨s, G, h, hR⟩
theorem sat_label {l : Nat} (h : Q .normal s) : Sat P T G0 w0 N (.label l) s Q := fun G _ _ hR => wp_label ⟨s, G, h, hR⟩

theorem sat_cond {c : Operand} {x y : Code} {t : Bool} (hc : s.ev c = .d (.bool t)) (ht : t = true → Sat P T G0 w0 N x s Q) (hf : t = false → Sat P T G0 w0 N y s Q) : Sat P T G0 w0 N (.cond c x y) s Q := by
  intro G a w hR
  have hv := hR.ev c
  rw [hc] at hv
  exact wp_cond_split hv.bool_inv (fun h => ht h G a w hR) (fun h => hf h G a w hR)

theorem sat_block {id : Nat} {c : Code} (h : Sat P T G0 w0 N c s (blockA id Q)) : Sat P T G0 w0 N (.block id c) s Q := by
  intro G a w hR
  refine wp_block (wp_mono (h G a w hR) ?_)
  rintro e a' w' ⟨s', G', hq, hR'⟩
  cases e with
  | exit id' =>
    simp only [blockA] at hq
    simp only [Exit.inBlock]
    split
    · rename_i h; rw [if_pos h] at hq; exact ⟨s', G', hq, hR'⟩
    · rename_i h; rw [if_neg h] at hq; exact ⟨s', G', hq, hR'⟩
  | _ => exact ⟨s', G', hq, hR'⟩

theorem sat_le {c : Code} {s' : St} (hl : St.le T.nx s s') (h : Sat P T G0 w0 N c s' Q) : Sat P T G0 w0 N c s Q := fun G a w hR => h G a w (hR.le hl)

theorem sat_mono {c : Code} {Q' : Exit → St → Prop} (h : Sat P T G0 w0 N c s Q) (hq : ∀ e s, Q e s → Q' e s) : Sat P T G0 w0 N c s Q' :=
  fun G a w hR => wp_mono (h G a w hR) fun _ _ _ ⟨s', G', h1, h2⟩ => ⟨s', G', hq _ _ h1, h2⟩

/-- A LOOP: the state at its head is st i, for an i that p lets. -/
theorem sat_loop {ι : Type} (st : ι → St) (p : ι → Prop) (μ : ι → Nat) {c : Code} (i0 : ι) (h0 : p i0) (hl : St.le T.nx s (st i0))
    (round : ∀ i, p i → Sat P T G0 w0 N c (st i) (thenA (fun s' => ∃ i', p i' ∧ μ i' < μ i ∧ St.le T.nx s' (st i')) Q)) : Sat P T G0 w0 N (.loop c) s Q := by
  intro G a w hR
  have key : ∀ n i, μ i = n → p i → ∀ G a w, R T G0 w0 N (st i) a G w → ∀ (b : Frame) (k : List Item) (cs : List Frame), ∃ e a' w', (∃ s' G', Q e s' ∧ R T G0 w0 N s' a' G' w') ∧ Arrives P (lone (b.at a (.code c :: .inLoop c :: k)) cs w) b k cs e a' w' := by
    intro n
    induction n using Nat.strongRecOn with
    | _ n ih =>
      intro i hn hp G a w hR b k cs
      obtain ⟨e, a1, w1, ⟨s1, G1, hq, hR1⟩, harr⟩ := round i hp G a w hR b (.inLoop c :: k) cs
      cases e with
      | normal =>
        obtain ⟨i', h1, h2, h3⟩ := hq
        obtain ⟨e2, a2, w2, hq2, harr2⟩ := ih (μ i') (hn ▸ h2) i' rfl h1 G1 a1 w1 (hR1.le h3) b k cs
        exact ⟨e2, a2, w2, hq2, .of_steps (Steps.trans harr (.one step_inLoop)) harr2⟩
      | exit id => exact ⟨_, a1, w1, ⟨s1, G1, hq, hR1⟩, .pass (x := .inLoop c) rfl (fun _ _ => .inl (by simp)) harr⟩
      | goto l => exact ⟨_, a1, w1, ⟨s1, G1, hq, hR1⟩, .pass (x := .inLoop c) rfl (fun _ _ => .inl (by simp)) harr⟩
      | ret => exact ⟨_, a1, w1, ⟨s1, G1, hq, hR1⟩, .pass (x := .inLoop c) rfl (fun _ _ => .inl (by simp)) harr⟩
      | panic ch => exact ⟨_, a1, w1, ⟨s1, G1, hq, hR1⟩, .pass (x := .inLoop c) rfl (fun _ _ => .inl (by simp)) harr⟩
      | outgrown => exact ⟨_, a1, w1, ⟨s1, G1, hq, hR1⟩, .pass (x := .inLoop c) rfl (fun _ _ => .inl (by simp)) harr⟩
  intro b k cs
  obtain ⟨e, a', w', hq, harr⟩ := key _ i0 rfl h0 G a w (hR.le hl) b k cs
  exact ⟨e, a', w', hq, .of_steps (.one step_loop) harr⟩

/-! ### A function -/

def initSl : Nat → List V → List (Nat × V)
  | _, [] => []
  | k, x :: r => (k, x) :: initSl (k + 1) r
theorem initSl_get : ∀ (xs : List V) (k t : Nat), getS (initSl k xs) t = if k ≤ t then (xs[t - k]?).getD .any else .any
  | [], k, t => by simp [initSl, getS]
  | x :: r, k, t => by
    simp only [initSl, getS]
    by_cases ht : t = k
    · subst ht; simp
    · rw [if_neg ht, initSl_get r (k + 1) t]
      by_cases hk : k ≤ t
      · rw [if_pos hk, if_pos (by omega), show t - k = (t - (k + 1)) + 1 by omega, List.getElem?_cons_succ]
      · rw [if_neg hk, if_neg (by omega)]

/-- A result's value. -/
def resV (P : Program) (s : St) : ResultVar → V
  | .tmp t => getS s.sl t
  | .cell t ty => loadV (tyOf P ty) s.h (getS s.sl t)
def resOk (P : Program) (s : St) : ResultVar → Prop
  | .tmp _ => True
  | .cell t ty => loadOk (tyOf P ty) s.h (getS s.sl t)
def retV : List V → V
  | [x] => x
  | l => .tup l
def allOk (P : Program) (s : St) : List ResultVar → Prop
  | [] => True
  | r :: rs => resOk P s r ∧ allOk P s rs

/-- The end: the results, and the objects (ρ: where the contract's numbers lie in the state). -/
def rh (ρ : List Nat) (i : Nat) : Nat := ρ.getD i 0
def postOk (h : Hp) (σ : Nat → Nat) (m nx : Nat) : List Nat → List Ob → Prop
  | [], [] => True
  | k :: ks, o :: os => (k < nx ∧ obLe (h.get k) (renO σ o) ∧ okO m o) ∧ postOk h σ m nx ks os
  | _, _ => False
theorem postOk_spec {h : Hp} {nx : Nat} {σ : Nat → Nat} {m : Nat} : ∀ {ks : List Nat} {os : List Ob}, postOk h σ m nx ks os → ks.length = os.length ∧ ∀ (i k : Nat) (o : Ob), ks[i]? = some k → os[i]? = some o → k < nx ∧ obLe (h.get k) (renO σ o) ∧ okO m o
  | [], [], _ => ⟨rfl, by simp⟩
  | k :: ks, o :: os, hh => by
    obtain ⟨h1, h2⟩ := postOk_spec hh.2
    refine ⟨by simp [h1], fun i k' o' hk ho => ?_⟩
    cases i with
    | zero => simp at hk ho; subst hk; subst ho; exact hh.1
    | succ i => simp at hk ho; exact h2 i k' o' hk ho
  | [], _ :: _, hh => hh.elim
  | _ :: _, [], hh => hh.elim
def RetA (P : Program) (rs : List ResultVar) (r : V) (np : Nat) (post : List Ob) (s : St) : Prop :=
  allOk P s rs ∧ ∃ ρ : List Nat, le (retV (rs.map (resV P s))) (ren (rh ρ) r) ∧ ok post.length r ∧ noTup r ∧ postOk s.h (rh ρ) post.length s.nx ρ post ∧ ρ.Nodup ∧ np ≤ post.length ∧ ∀ i, i < np → ρ[i]? = some i
def retQ (P : Program) (rs : List ResultVar) (r : V) (np : Nat) (post : List Ob) : Exit → St → Prop
  | .normal, s => RetA P rs r np post s
  | .ret, s => RetA P rs r np post s
  | _, _ => False

def resSem (tmps : Array Value) : ResultVar → Sem Value
  | .tmp t => pure (tmps.getD t undef)
  | .cell q t => do loadVar t (← asAddr (tmps.getD q undef))
theorem results_eq (fn : Func) (tmps : Array Value) : results fn tmps = (do let vs ← fn.results.mapM (resSem tmps); pure (if h : vs.size = 1 then vs[0] else .tuple vs)) := by
  unfold results
  congr 1

theorem results_run (hR : R T G0 w0 N s a G w) : ∀ (rs : List ResultVar), allOk P s rs → ∃ vs : List Value, (rs.mapM (resSem a.tmps)).run P w = .ok vs w ∧ vs.length = rs.length ∧ ∀ (j : Nat) (v : Value) (x : V), vs[j]? = some v → (rs.map (resV P s))[j]? = some x → RepV G w s.h s.nx v x
  | [], _ => ⟨[], by simp, rfl, by simp⟩
  | r :: rs, ho => by
    obtain ⟨vs, h1, h2, h3⟩ := results_run hR rs ho.2
    have hone : ∃ v, (resSem a.tmps r).run P w = .ok v w ∧ RepV G w s.h s.nx v (resV P s r) := by
      cases r with
      | tmp t => exact ⟨_, rfl, hR.sl t⟩
      | cell q t =>
        obtain ⟨v, g1, g2⟩ := av_sound (P := P) (ρ := a.eval) (ev := s.ev) hR.ev hR.wr.obj (o := ⟨none, .load t (.tmp q), 0, "", #[], none⟩) ho.1
        refine ⟨v, ?_, g2⟩
        simp only [execOp, Instr.loadAt, Sem.run_bind] at g1
        simp only [resSem, Sem.run_bind]
        have ev : a.eval (.tmp q) = a.tmps.getD q undef := rfl
        rw [ev] at g1
        generalize a.tmps.getD q undef = vq at g1 ⊢
        cases vq with
        | pointer p => cases p with
          | none => simp [Instr.sureAddr, stuck] at g1
          | some ad =>
            simp only [Instr.sureAddr, asAddr, Sem.run_pure, Result.andThen_ok] at g1 ⊢
            cases hl : (loadVar t ad).run P w with
            | ok v' w' => rw [hl] at g1; simp at g1; rw [g1.1, g1.2]
            | halt h w' => rw [hl] at g1; simp at g1
        | _ => simp [Instr.sureAddr, stuck] at g1
    obtain ⟨v, g1, g2⟩ := hone
    refine ⟨v :: vs, ?_, by simp [h2], fun j u x hu hx => ?_⟩
    · simp only [List.mapM_cons, Sem.run_bind, g1, Result.andThen_ok, h1, Sem.run_pure]
    · cases j with
      | zero => simp at hu hx; subst hu; subst hx; exact g2
      | succ j => simp only [List.map_cons, List.getElem?_cons_succ] at hu hx; exact h3 j u x hu hx

/-- A FUNCTION: its body, walked, gives its contract. -/
theorem sound_of {f : FuncId} {fn : Func} {c : Code} {xs : List V} {pre : List Ob} {r : V} {post : List Ob} (hf : P.funcs[f]? = some fn) (hb : fn.body = some c) (hN : fn.ntmps = N) (hxs : xs.length ≤ N)
    (hsat : ∀ G0 w0, Sat P (tkOf G0 pre) G0 w0 N c ⟨initSl 0 xs, hpOf 0 pre, pre.length⟩ (retQ P fn.results.toList r pre.length post)) : SoundH P f xs pre r post := by
  intro G w vs hlen hrep hW
  refine calls_of_wp hf hb ?_
  have hR : R (tkOf G pre) G w N ⟨initSl 0 xs, hpOf 0 pre, pre.length⟩ ⟨vs.toArray ++ Array.replicate (fn.ntmps - vs.toArray.size) undef, []⟩ G w := by
    refine ⟨⟨rfl, rfl, rfl, Nat.le_refl _, fun _ _ _ => ⟨rfl, rfl⟩, Mono.refl _ _⟩, hW, rfl, by simp; omega, fun t => ?_, ⟨Nat.le_refl _, fun _ _ _ h => h, fun tok t' _ h => ⟨t', h, Nat.le_refl _, fun _ _ hb => ⟨hb, rfl, rfl⟩⟩, fun _ _ h => h⟩⟩
    rw [initSl_get, if_pos (Nat.zero_le _), Nat.sub_zero]
    rcases Nat.lt_or_ge t xs.length with ht | ht
    · rw [List.getElem?_eq_getElem ht, Option.getD_some]
      have hv : vs[t]? = some (vs[t]'(by omega)) := List.getElem?_eq_getElem (by omega)
      have e : (vs.toArray ++ Array.replicate (fn.ntmps - vs.toArray.size) undef).getD t undef = vs[t]'(by omega) := by
        rw [Array.getD_eq_getD_getElem?, Array.getElem?_append_left (by simp; omega)]
        simp [hv]
      rw [e]
      exact hrep t _ _ hv (List.getElem?_eq_getElem ht)
    · rw [List.getElem?_eq_none ht]
      exact .any _
  refine wp_mono (hsat G w G _ w hR) ?_
  rintro e a' w' ⟨s', G', hq, hR'⟩
  have main : RetA P fn.results.toList r pre.length post s' → ∃ v, (results fn a'.tmps).run P w' = .ok v w' ∧ ∃ v' G'', (.returned v : Ending) = .returned v' ∧ RepV G'' w' (hpOf 0 post) post.length v' r ∧ WR (tkOf G pre) w.heap.size G'' w' (hpOf 0 post) post.length ∧ Fr (tkOf G pre) G w G'' w' ∧ Ex (tkOf G pre) G w G'' w' (hpOf 0 post) post.length := by
    rintro ⟨hok, ρ, h1, h2, h3, h4, h5, h6, h7⟩
    obtain ⟨us, k1, k2, k3⟩ := results_run hR' fn.results.toList hok
    -- the value
    obtain ⟨v, hv1, hv2⟩ : ∃ v, (results fn a'.tmps).run P w' = .ok v w' ∧ RepV G' w' s'.h s'.nx v (retV (fn.results.toList.map (resV P s'))) := by
      have hm : (fn.results.mapM (resSem a'.tmps)).run P w' = .ok us.toArray w' := by
        rw [Array.mapM_eq_mapM_toList]
        simp only [Sem.run_map, k1, Result.andThen_ok]
      refine ⟨if h : us.toArray.size = 1 then us.toArray[0] else .tuple us.toArray, ?_, ?_⟩
      · rw [results_eq, Sem.run_bind, hm]
        rfl
      · match us, hrs : fn.results.toList.map (resV P s'), (show us.length = (fn.results.toList.map (resV P s')).length by simpa using k2) with
        | [u], [x], _ =>
          simp only [List.size_toArray, List.length_cons, List.length_nil, Nat.zero_add, dite_true, retV]
          exact k3 0 u x rfl (by rw [hrs]; rfl)
        | [], [], _ =>
          simp only [retV]
          exact .tup [] [] rfl (by simp)
        | u :: u2 :: us', x :: x2 :: xs', hl =>
          have : ¬ ((u :: u2 :: us').toArray.size = 1) := by simp
          rw [dif_neg this]
          simp only [retV]
          exact .tup _ _ hl (fun j v x hv hx => k3 j v x hv (by rw [hrs]; exact hx))
    obtain ⟨hpl, hpo⟩ := postOk_spec h4
    have hρ : ∀ i, i < post.length → ρ[i]? = some (rh ρ i) := fun i hi => by
      have : i < ρ.length := by omega
      simp [rh, this]
    have hob : ∀ i o, post[i]? = some o → rh ρ i < s'.nx ∧ obLe (s'.h.get (rh ρ i)) (renO (rh ρ) o) ∧ okO post.length o := fun i o ho => hpo i _ o (hρ i (List.getElem?_eq_some_iff.1 ho).1) ho
    have hlt : ∀ i, i < post.length → rh ρ i < s'.nx := fun i hi => (hob i _ (List.getElem?_eq_getElem hi)).1
    have hself : ∀ i, i < pre.length → rh ρ i = i := fun i hi => by simp [rh, h7 i hi]
    have hinj : ∀ i j, i < post.length → j < post.length → rh ρ i = rh ρ j → i = j := by
      intro i j hi hj hij
      exact (List.getElem?_inj (by omega) h5).1 (by rw [hρ i hi, hρ j hj, hij])
    let G'' : Gh := ⟨fun i => G'.loc (rh ρ i), fun i => G'.tloc (rh ρ i), G'.lim⟩
    have hw := hR'.wr
    have htip : ∀ i t, i < post.length → (hpOf 0 post).get i = some (.tip t) → s'.h.get (rh ρ i) = some (.tip t) := by
      intro i t hi hg
      rw [hpOf_get0] at hg
      exact obLe_tip (hob i _ hg).2.1
    have hlive : ∀ i, live (hpOf 0 post) i → live s'.h (rh ρ i) := by
      intro i l
      obtain ⟨o, ho, hd⟩ := live_of l
      rw [hpOf_get0] at ho
      obtain ⟨_, q, _⟩ := hob i o ho
      cases o with
      | cells l => obtain ⟨l0, q1, _⟩ := obLe_cells q; exact live_cells q1
      | tip t => exact live_tip (obLe_tip q)
      | map es => exact live_map (obLe_map q)
      | dead => exact (hd rfl).elim
    refine ⟨v, hv1, v, G'', rfl, ?_, ⟨?_, ?_, ?_, ?_, ?_, hw.lim⟩, ⟨hR'.fr.os, hR'.fr.tape, hR'.fr.output, hR'.fr.size, hR'.fr.same, hR'.fr.mono⟩, ⟨h6, ?_, ?_, hR'.ex.csz⟩⟩
    · exact ren_back (σ := rh ρ) (G := G') (G' := G'') (h := s'.h) (nx := s'.nx) rfl (fun _ _ => rfl) (fun _ _ => rfl) htip (hv2.le h1) h2
    · intro id l hg
      rw [hpOf_get0] at hg
      obtain ⟨_, q1, q2⟩ := hob id _ hg
      obtain ⟨l0, hgt, hle⟩ := obLe_cells q1
      obtain ⟨b, e', cs, m1, m2, m3, m4, m5, m6⟩ := hw.obj (rh ρ id) l0 hgt
      obtain ⟨n1, n2, n3⟩ := leL_spec hle
      rw [List.length_map] at n1
      refine ⟨b, e', cs, m1, m2, m3, by omega, fun x hx => ?_, fun j u x hu hx => ?_⟩
      · rw [← ren1_one (rh ρ) x]; exact n2 _ (List.mem_map.2 ⟨x, hx, rfl⟩)
      · have hj : j < l0.length := by have := (List.getElem?_eq_some_iff.1 hx).1; omega
        have := (m6 j u _ hu (List.getElem?_eq_getElem hj)).le1 (n3 j _ (ren1 (rh ρ) x) (List.getElem?_eq_getElem hj) (by rw [List.getElem?_map, hx]; rfl))
        exact ren_back1 (G := G') (G' := G'') rfl (fun _ _ => rfl) (fun _ _ => rfl) htip this (okL_spec q2 j x hx)
    · intro id es hg
      rw [hpOf_get0] at hg
      obtain ⟨_, q1, q2⟩ := hob id _ hg
      obtain ⟨b, clk, ms, m1, m2, m3, m0, m4⟩ := hw.mob (rh ρ id) _ (obLe_map q1)
      refine ⟨b, clk, ms, m1, m2, by simpa using m3, fun e he l hl => ?_, fun j m e hm he => ?_⟩
      · exact m0 (e.1, ren0 (rh ρ) e.2) (List.mem_map.2 ⟨e, he, rfl⟩) l (by simp only [hl]; rfl)
      · obtain ⟨n1, n2⟩ := m4 j m (e.1, ren0 (rh ρ) e.2) hm (by rw [List.getElem?_map, he]; rfl)
        exact ⟨n1, ren_back0 (G := G') (G' := G'') rfl (fun _ _ => rfl) (fun _ _ => rfl) htip n2 (okM_spec q2 j e he)⟩
    · intro id b hi hb
      exact hw.here (rh ρ id) b (hlt id hi) hb
    · intro i j b hi hj hbi hbj li lj
      exact hinj i j hi hj (hw.inj (rh ρ i) (rh ρ j) b (hlt i hi) (hlt j hj) hbi hbj (hlive i li) (hlive j lj))
    · intro id ob hg
      rw [hpOf_get0] at hg
      exact (List.getElem?_eq_some_iff.1 hg).1
    · intro id b hi hb
      have hi : id < pre.length := hi
      show G'.loc (rh ρ id) = some b
      rw [hself id hi]
      exact hR'.ex.loc id b hi hb
    · intro tok t' ht hg
      have ht : tok < pre.length := ht
      have := htip tok t' (by omega) hg
      rw [hself tok ht] at this
      obtain ⟨t0, q1, q2, q3⟩ := hR'.ex.tok tok t' ht this
      refine ⟨t0, q1, q2, fun htt b hb => ?_⟩
      obtain ⟨r1, r2, r3⟩ := q3 htt b hb
      exact ⟨by show G'.tloc (rh ρ tok) = some b; rw [hself tok ht]; exact r1, r2, r3⟩
  cases e with
  | normal => obtain ⟨v, h1, h2⟩ := main hq; exact ⟨hR'.df, v, h1, h2⟩
  | ret => obtain ⟨v, h1, h2⟩ := main hq; exact ⟨hR'.df, v, h1, h2⟩
  | _ => exact hq.elim

end
end Go.Bv
