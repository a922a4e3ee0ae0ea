/-
  Part of a machine over pure data and objects that is sound for the model: what it says of a Go function holds of every call of that function. Conditions: those in each theorem. It speaks of any program.
-/
import Derived.Test.YtjaignojekmfgaaBvSet2
namespace Go.Bv
open Go.RowKit

section
variable {P : Program} {T : Tk} {G0 G : Gh} {w0 w : World} {N : Nat} {s : St} {a : Act}

theorem R.reslot (hR : R T G0 w0 N s a G w) (t : Nat) {y : V} (hv : RepV G w s.h s.nx (a.tmps.getD t undef) y) : R T G0 w0 N ⟨(t, y) :: s.sl, s.h, s.nx⟩ a G w :=
  ⟨hR.fr, hR.wr, hR.df, hR.sz, fun u => by
    simp only [getS]
    split
    · rename_i h; subst h; exact hv
    · exact hR.sl u, hR.ex⟩
theorem R.recell (hR : R T G0 w0 N s a G w) {id j : Nat} {l : List V} {x y : V} (hg : s.h.get id = some (.cells l)) (hx : l[j]? = some x) (hy : y.one = true) (hv : ∀ v, RepV G w s.h s.nx v x → RepV G w s.h s.nx v y) :
    R T G0 w0 N ⟨s.sl, (id, .cells (l.set j y)) :: s.h, s.nx⟩ a G w := by
  have hw := hR.wr
  have he : Ext G w s.h s.nx G w ((id, .cells (l.set j y)) :: s.h) s.nx := by
    refine ⟨Mono.refl _ _, Nat.le_refl _, fun _ _ _ h => h, fun tok t' _ h1 => ?_, fun _ _ h => h⟩
    simp only [Hp.get] at h1
    split at h1
    · cases h1
    · exact ⟨t', h1, Nat.le_refl _, fun _ _ hb => ⟨hb, rfl, rfl⟩⟩
  refine ⟨hR.fr, ⟨?_, hw.mob.ext he (fun i es hgo => ?_) hw.hid (fun _ _ _ _ _ => rfl), hw.here, fun i k b hi hk h1 h2 l1 l2 => hw.inj i k b hi hk h1 h2 (live_over (live_cells hg) l1) (live_over (live_cells hg) l2), ?_, hw.lim⟩, hR.df, hR.sz, fun t => (hR.sl t).ext he, hR.ex.ext he⟩
  · intro i l' hl'
    simp only [Hp.get] at hl'
    split at hl'
    · rename_i hi
      subst hi
      injection hl' with hl'
      injection hl' with hl'
      subst hl'
      obtain ⟨b, e, cs, h1, h2, h3, h4, h5, h6⟩ := hw.obj i l hg
      refine ⟨b, e, cs, h1, h2, h3, by simpa using h4, fun z hz => ?_, fun k v z hkv hz => ?_⟩
      · rcases List.mem_or_eq_of_mem_set hz with h | h
        · exact h5 z h
        · rw [h]; exact hy
      · rw [List.getElem?_set] at hz
        split at hz
        · rename_i hk
          subst hk
          split at hz
          · injection hz with hz
            subst hz
            exact (hv v (h6 j v x hkv hx)).ext he
          · cases hz
        · exact (h6 k v z hkv hz).ext he
    · obtain ⟨b, e, cs, h1, h2, h3, h4, h5, h6⟩ := hw.obj i l' hl'
      exact ⟨b, e, cs, h1, h2, h3, h4, h5, fun k v x hv hx => (h6 k v x hv hx).ext he⟩
  · simp only [Hp.get] at hgo
    split at hgo
    · cases hgo
    · exact hgo
  · intro i ob hgo
    simp only [Hp.get] at hgo
    split at hgo
    · rename_i h; subst h; exact hw.hid _ _ hg
    · exact hw.hid _ _ hgo

/-- A slice without spare room gets a number: it may grow. -/
def growsFrom (sz : Nat) (l : List D) : V → Prop
  | .full z m => z = sz ∧ m = l
  | .k (.slice none 0 0) => l = []
  | _ => False
theorem R.tok (hR : R T G0 w0 N s a G w) (sz : Nat) (l : List D) :
    ∃ G', R T G0 w0 N ⟨s.sl, (s.nx, .tip l.length) :: s.h, s.nx + 1⟩ a G' w ∧ ∀ x v, growsFrom sz l x → RepV G' w ((s.nx, .tip l.length) :: s.h) (s.nx + 1) v x → RepV G' w ((s.nx, .tip l.length) :: s.h) (s.nx + 1) v (.own s.nx sz l) := by
  have hw := hR.wr
  let G' : Gh := ⟨fun i => if i = s.nx then none else G.loc i, fun i => if i = s.nx then none else G.tloc i, G.lim⟩
  have hlo : ∀ i, i < s.nx → G'.loc i = G.loc i ∧ G'.tloc i = G.tloc i := fun i hi => by simp [G', show i ≠ s.nx by omega]
  have hh : ∀ i, i ≠ s.nx → Hp.get ((s.nx, .tip l.length) :: s.h) i = s.h.get i := fun i hi => by simp [Hp.get, hi]
  have he : Ext G w s.h s.nx G' w ((s.nx, .tip l.length) :: s.h) (s.nx + 1) :=
    ⟨Mono.refl _ _, by omega, fun id b hi hb => by rw [(hlo id hi).1]; exact hb, fun tok t' ht h1 => by
      rw [hh tok (by omega)] at h1
      exact ⟨t', h1, Nat.le_refl _, fun _ b hb => ⟨by rw [(hlo tok ht).2]; exact hb, rfl, rfl⟩⟩, fun _ _ h => h⟩
  have hsome : ∀ i b, i < s.nx + 1 → (G'.loc i = some b ∨ G'.tloc i = some b) → i < s.nx ∧ (G.loc i = some b ∨ G.tloc i = some b) := by
    intro i b hi hb
    by_cases hin : i = s.nx
    · subst hin; simp [G'] at hb
    · have hi' : i < s.nx := by omega
      rw [(hlo i hi').1, (hlo i hi').2] at hb
      exact ⟨hi', hb⟩
  refine ⟨G', ⟨⟨hR.fr.os, hR.fr.tape, hR.fr.output, hR.fr.size, hR.fr.same, hR.fr.mono⟩, ⟨?_, hw.mob.ext he (fun i es hgo => ?_) hw.hid (fun _ _ _ _ _ => rfl), ?_, ?_, ?_, hw.lim⟩, hR.df, hR.sz, fun t => (hR.sl t).ext he, hR.ex.ext he⟩, fun x v hg hv => ?_⟩
  · intro id l' hl'
    simp only [Hp.get] at hl'
    split at hl'
    · cases hl'
    · obtain ⟨b, e', cs', h1, h2, h3, h4, h5, h6⟩ := hw.obj id l' hl'
      have hid := hw.hid id _ hl'
      exact ⟨b, e', cs', by rw [(hlo id hid).1]; exact h1, h2, h3, h4, h5, fun j v x hv hx => (h6 j v x hv hx).ext he⟩
  · simp only [Hp.get] at hgo
    split at hgo
    · cases hgo
    · exact hgo
  · intro id b hid hb
    obtain ⟨h1, h2⟩ := hsome id b hid hb
    exact hw.here id b h1 h2
  · intro i j b hi hj hbi hbj li lj
    obtain ⟨h1, h2⟩ := hsome i b hi hbi
    obtain ⟨h3, h4⟩ := hsome j b hj hbj
    exact hw.inj i j b h1 h3 h2 h4 (live_eq (hh i (by omega)) li) (live_eq (hh j (by omega)) lj)
  · intro id ob hg
    show id < s.nx + 1
    simp only [Hp.get] at hg
    split at hg
    · omega
    · have := hw.hid id ob hg; omega
  · have main : ∃ A, v = .slice A l.length l.length ∧ RepD G'.lim w v (.slice sz l) := by
      cases x with
      | full z m => obtain ⟨rfl, rfl⟩ := hg; exact hv.full_inv
      | k u =>
        unfold growsFrom at hg
        split at hg
        · rename_i h; cases h
        · subst hg; rw [hv.k_inv]; exact ⟨none, by simp_all, by simp_all; exact .nil sz⟩
        · exact hg.elim
      | _ => exact hg.elim
    obtain ⟨A, hA, hd⟩ := main
    refine .own _ _ _ _ hd (by omega) fun t' ht' => ?_
    simp only [Hp.get, if_true, Option.some.injEq, Ob.tip.injEq] at ht'
    rw [hA]
    exact ⟨by omega, fun _ => .inl rfl⟩

end

section
variable {P : Program} {T : Tk} {G0 : Gh} {w0 : World} {N : Nat} {tb : List (Option Nat)} {d : Option Nat} {ty : TypeId} {p : String} {af : Array Edge} {r : List Oper} {K : St → Prop} {s : St} {Q : Exit → St → Prop}

theorem sat_condT {c : Operand} {x y : Code} (hc : s.ev c = .d (.bool true)) (ht : Sat P T G0 w0 N x s Q) : Sat P T G0 w0 N (.cond c x y) s Q := sat_cond hc (fun _ => ht) (fun h => by cases h)
theorem sat_condF {c : Operand} {x y : Code} (hc : s.ev c = .d (.bool false)) (hf : Sat P T G0 w0 N y s Q) : Sat P T G0 w0 N (.cond c x y) s Q := sat_cond hc (fun h => by cases h) (fun _ => hf)
theorem sat_dstep (S : Nat) {id : Nat} {l : List Oper} {y : Code} (hm : P.follows .mixedOrders = true) (hB : Region.lexB .any l.toArray = true)
    (h : ∀ K : St → Prop, (∀ s', Sat P T G0 w0 N y s' Q → K s') → DOps P N (l.map (·.dst)) s.nx S [] [] 0 l K ⟨s.sl, s.h, s.nx + l.length * S⟩) : Sat P T G0 w0 N (.seq (.region id l.toArray true) y) s Q :=
  sat_seq (sat_drawn S hm hB h)
/-- A CUT: after c the state is below st. -/
theorem sat_mid (st : St) {c y : Code} (h1 : Sat P T G0 w0 N c s (thenA (fun s' => St.le T.nx s' st) Q)) (h2 : Sat P T G0 w0 N y st Q) : Sat P T G0 w0 N (.seq c y) s Q :=
  sat_seq (sat_mono h1 fun e s' hq => by
    cases e with
    | normal => exact sat_le hq h2
    | _ => exact hq)
theorem sat_cut (st : St) {c y : Code} (h1 : Sat P T G0 w0 N c s (thenA (fun s' => St.le T.nx s' st) Q)) (h2 : Sat P T G0 w0 N y st Q) : Sat P T G0 w0 N c s (thenA (fun s' => Sat P T G0 w0 N y s' Q) Q) :=
  sat_mono h1 fun e s' hq => by
    cases e with
    | normal => exact sat_le hq h2
    | _ => exact hq
/-- Where ways meet: the state is st x, for an x that p lets. -/
theorem sat_join {ι : Type} (st : ι → St) (p : ι → Prop) {c y : Code} (h1 : Sat P T G0 w0 N c s (thenA (fun s' => ∃ x, p x ∧ St.le T.nx s' (st x)) Q)) (h2 : ∀ x, p x → Sat P T G0 w0 N y (st x) Q) : Sat P T G0 w0 N (.seq c y) s Q :=
  sat_seq (sat_mono h1 fun e s' hq => by
    cases e with
    | normal => obtain ⟨x, hx, hl⟩ := hq; exact sat_le hl (h2 x hx)
    | _ => exact hq)
/-- A CALL, by its contract. -/
theorem a_call {f : Operand} {args : List Operand} {tys : Array TypeId} {g : FuncId} {xs : List V} {pre : List Ob} {rv : V} {post : List Ob} (ids : List Nat) (hs : SoundH P g xs pre rv post) (hb : Callable P g) (hc : callOk N d s f g args xs ids pre rv post s.nx)
    (h : AOps P N tb r K (callS s ids pre post d rv)) : AOps P N tb (⟨d, .call ⟨.value f, args.toArray, tys⟩, ty, p, af, none⟩ :: r) K s :=
  A_call P N tb d ty p af r K s hs hc.1 hc.2.1 hb hc.2.2.1 hc.2.2.2.1 hc.2.2.2.2.1 hc.2.2.2.2.2.1 hc.2.2.2.2.2.2 h

/-- THE END: where the contract's objects lie in the state. -/
def selfP : Nat → Nat → List Nat → Prop
  | _, 0, _ => True
  | i, n + 1, a :: r => a = i ∧ selfP (i + 1) n r
  | _, _ + 1, [] => False
theorem selfP_spec : ∀ (n k : Nat) (r : List Nat), selfP k n r → ∀ i, i < n → r[i]? = some (k + i)
  | 0, _, _, _, i, hi => by omega
  | n + 1, k, [], h, _, _ => h.elim
  | n + 1, k, a :: r, h, i, hi => by
    cases i with
    | zero => simp [h.1]
    | succ i => rw [List.getElem?_cons_succ, selfP_spec n (k + 1) r h.2 i (by omega)]; congr 1; omega
theorem retN (ρ : List Nat) {np : Nat} {post : List Ob} {rs : List ResultVar} {rv : V} (h : allOk P s rs ∧ le (retV (rs.map (resV P s))) (ren (rh ρ) rv) ∧ ok post.length rv ∧ noTup rv ∧ postOk s.h (rh ρ) post.length s.nx ρ post ∧ ρ.Nodup ∧ np ≤ post.length ∧ selfP 0 np ρ) : RetA P rs rv np post s :=
  ⟨h.1, ρ, h.2.1, h.2.2.1, h.2.2.2.1, h.2.2.2.2.1, h.2.2.2.2.2.1, h.2.2.2.2.2.2.1, fun i hi => by have := selfP_spec np 0 ρ h.2.2.2.2.2.2.2 i hi; simpa using this⟩
theorem e_sp0 (i : Nat) (r : List Nat) : selfP i 0 r = True := by cases r <;> rfl
theorem e_sp1 (i n a : Nat) (r : List Nat) : selfP i (n + 1) (a :: r) = (a = i ∧ selfP (i + 1) n r) := rfl

/-- A slot's slice that may grow gets a number. -/
theorem sat_tok (t : Nat) {sz : Nat} {l : List D} {c : Code} (hv : growsFrom sz l (getS s.sl t)) (h : Sat P T G0 w0 N c ⟨(t, .own s.nx sz l) :: s.sl, (s.nx, .tip l.length) :: s.h, s.nx + 1⟩ Q) : Sat P T G0 w0 N c s Q := by
  intro G a w hR
  obtain ⟨G', h1, h2⟩ := hR.tok sz l
  exact h G' a w (h1.reslot t (h2 _ _ hv (h1.sl t)))
/-- A cell of an object likewise. -/
theorem sat_tokc (id j : Nat) {sz : Nat} {l : List D} {cs : List V} {x : V} {c : Code} (hg : s.h.get id = some (.cells cs)) (hx : cs[j]? = some x) (hv : growsFrom sz l x)
    (h : Sat P T G0 w0 N c ⟨s.sl, (id, .cells (cs.set j (.own s.nx sz l))) :: (s.nx, .tip l.length) :: s.h, s.nx + 1⟩ Q) : Sat P T G0 w0 N c s Q := by
  intro G a w hR
  obtain ⟨G', h1, h2⟩ := hR.tok sz l
  have hid : id < s.nx := hR.wr.hid _ _ hg
  have hg' : Hp.get ((s.nx, Ob.tip l.length) :: s.h) id = some (.cells cs) := by simp only [Hp.get]; rw [if_neg (by omega)]; exact hg
  exact h G' a w (h1.recell (s := ⟨s.sl, (s.nx, .tip l.length) :: s.h, s.nx + 1⟩) hg' hx rfl (fun v => h2 x v hv))
/-- A row in a slot is written no more: it is read-only from now on, and may grow. -/
theorem sat_freeze (t : Nat) {id n sz : Nat} {l : List D} {c : Code} (hv : getS s.sl t = .row id 0 n sz) (hg : s.h.get id = some (.cells ((l.flatMap D.cells).map .d))) (hsz : ∀ d ∈ l, d.cells.length = sz ∧ ∀ c ∈ d.cells, c.one = true) (hn : l.length = n)
    (h : Sat P T G0 w0 N c ⟨(t, .own s.nx sz l) :: s.sl, (s.nx, .tip n) :: (id, .dead) :: s.h, s.nx + 1⟩ Q) : Sat P T G0 w0 N c s Q := by
  intro G a w hR
  obtain ⟨G', h1, _, h2⟩ := hR.freeze hg hsz hn
  have := h1.sl t
  simp only [hv] at this
  exact h G' a w (h1.reslot t (h2 _ this))
/-- A row in a cell likewise. -/
theorem sat_freezec (i j : Nat) {id n sz : Nat} {l : List D} {cs : List V} {c : Code} (hne : i ≠ id) (hi : s.h.get i = some (.cells cs)) (hx : cs[j]? = some (.row id 0 n sz)) (hg : s.h.get id = some (.cells ((l.flatMap D.cells).map .d))) (hsz : ∀ d ∈ l, d.cells.length = sz ∧ ∀ c ∈ d.cells, c.one = true) (hn : l.length = n)
    (h : Sat P T G0 w0 N c ⟨s.sl, (i, .cells (cs.set j (.own s.nx sz l))) :: (s.nx, .tip n) :: (id, .dead) :: s.h, s.nx + 1⟩ Q) : Sat P T G0 w0 N c s Q := by
  intro G a w hR
  obtain ⟨G', h1, _, h2⟩ := hR.freeze hg hsz hn
  have hin : i < s.nx := hR.wr.hid _ _ hi
  have hg' : Hp.get ((s.nx, Ob.tip n) :: (id, .dead) :: s.h) i = some (.cells cs) := by simp only [Hp.get]; rw [if_neg (by omega), if_neg hne]; exact hi
  exact h G' a w (h1.recell (s := ⟨s.sl, (s.nx, .tip n) :: (id, .dead) :: s.h, s.nx + 1⟩) hg' hx rfl (fun v => h2 v))
theorem e_gfF (sz sz' : Nat) (l m : List D) : growsFrom sz l (.full sz' m) = (sz' = sz ∧ m = l) := rfl
theorem e_gfN (sz : Nat) (l : List D) : growsFrom sz l (.k (.slice none 0 0)) = (l = []) := rfl

end
end Go.Bv
