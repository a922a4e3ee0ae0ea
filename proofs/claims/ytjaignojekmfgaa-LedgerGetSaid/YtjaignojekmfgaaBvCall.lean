/-
  Part of a machine over pure data and objects that is sound for the model: what it says of a Go function holds of every call of that function. Conditions: those in each theorem. It speaks of any program.
-/
import Derived.Test.YtjaignojekmfgaaBvSat
namespace Go.Bv
open Go.RowKit

/-! ### Other numbers for the same things -/
def ren1 (σ : Nat → Nat) : V → V
  | .ptr id off => .ptr (σ id) off
  | .own tok sz l => .own (σ tok) sz l
  | .row id off len sz => .row (σ id) off len sz
  | .mp id => .mp (σ id)
  | x => x
def ren0 (σ : Nat → Nat) : V → V
  | .agg l => .agg (l.map (ren1 σ))
  | x => ren1 σ x
def ren (σ : Nat → Nat) : V → V
  | .tup l => .tup (l.map (ren0 σ))
  | x => ren0 σ x

theorem ren1_one (σ : Nat → Nat) (x : V) : (ren1 σ x).one = x.one := by cases x <;> rfl

def renO (σ : Nat → Nat) : Ob → Ob
  | .cells l => .cells (l.map (ren1 σ))
  | .map es => .map (es.map fun e => (e.1, ren0 σ e.2))
  | .tip n => .tip n
  | .dead => .dead
def hpOf : Nat → List Ob → Hp
  | _, [] => []
  | k, o :: r => (k, o) :: hpOf (k + 1) r

def tipsOf : Nat → List Nat → Hp
  | _, [] => []
  | k, n :: r => (k, .tip n) :: tipsOf (k + 1) r

section
variable {P : Program} {T : Tk} {G0 G G' : Gh} {w0 w : World} {N : Nat} {s : St} {a : Act} {h h' : Hp} {nx nx' : Nat}

/-- σ takes the numbers of (G, h, nx) to those of (G', h', nx'). -/
structure Ren (σ : Nat → Nat) (G : Gh) (h : Hp) (nx : Nat) (G' : Gh) (h' : Hp) (nx' : Nat) : Prop where
  lim : G'.lim = G.lim
  lt : ∀ i, i < nx → σ i < nx'
  loc : ∀ i, i < nx → G'.loc (σ i) = G.loc i
  tloc : ∀ i, i < nx → G'.tloc (σ i) = G.tloc i
  tip : ∀ i t, i < nx → h'.get (σ i) = some (.tip t) → h.get i = some (.tip t)

theorem RepV.ren1 {σ : Nat → Nat} (hσ : Ren σ G h nx G' h' nx') {v : Value} {x : V} (hv : RepV G w h nx v x) (hn : ∀ l, x ≠ .agg l) (hn' : ∀ l, x ≠ .tup l) : RepV G' w h' nx' v (Bv.ren1 σ x) := by
  cases hv with
  | any => exact .any _
  | k => exact .k _
  | d _ _ hd => exact .d _ _ (by rw [hσ.lim]; exact hd)
  | agg _ l => exact (hn l rfl).elim
  | tup _ l => exact (hn' l rfl).elim
  | ptr id _ b hid hl => exact .ptr _ _ b (hσ.lt id hid) (by rw [hσ.loc id hid]; exact hl)
  | ro b off l vs h1 h2 h3 h4 => exact .ro b off l vs h1 h2 (by rw [hσ.lim]; exact h3) (by rw [hσ.lim]; exact h4)
  | own _ tok sz l hd ht hs =>
    refine .own _ _ _ _ (by rw [hσ.lim]; exact hd) (hσ.lt tok ht) fun t h1 => ?_
    obtain ⟨g1, g2⟩ := hs t (hσ.tip tok t ht h1)
    refine ⟨g1, fun e => ?_⟩
    have := g2 e
    cases v with
    | slice A n cap =>
      simp only [Spare] at this ⊢
      rcases this with h6 | ⟨b, off, c, e', hA, hloc, hheap, ho, hc⟩
      · exact .inl h6
      · exact .inr ⟨b, off, c, e', hA, by rw [hσ.tloc tok ht]; exact hloc, hheap, by rw [hσ.lim]; exact ho, hc⟩
    | _ => exact this
  | full A sz l hd => exact .full A sz l (by rw [hσ.lim]; exact hd)
  | row id _ _ _ b o cap n hid hl h1 h2 h3 h4 h5 => exact .row _ _ _ _ b o cap n (hσ.lt id hid) (by rw [hσ.loc id hid]; exact hl) h1 h2 h3 h4 h5
  | mp id b hid hl => exact .mp _ b (hσ.lt id hid) (by rw [hσ.loc id hid]; exact hl)

theorem RepV.ren0 {σ : Nat → Nat} (hσ : Ren σ G h nx G' h' nx') {v : Value} {x : V} (hv : RepV G w h nx v x) (hn' : ∀ l, x ≠ .tup l) : RepV G' w h' nx' v (Bv.ren0 σ x) := by
  unfold Bv.ren0
  split
  · obtain ⟨vs, rfl, h1, h2, h3⟩ := hv.agg_inv
    refine .agg _ _ (by simpa using h1) (fun x hx => ?_) fun j v x hv hx => ?_
    · obtain ⟨y, hy, rfl⟩ := List.mem_map.1 hx
      rw [ren1_one]; exact h2 y hy
    · rw [List.getElem?_map, Option.map_eq_some_iff] at hx
      obtain ⟨y, hy, rfl⟩ := hx
      have ho := h2 y (List.mem_of_getElem? hy)
      exact (h3 j v y hv hy).ren1 hσ (fun l e => by subst e; cases ho) (fun l e => by subst e; cases ho)
  · rename_i hn
    exact hv.ren1 hσ hn hn'

theorem RepV.ren {σ : Nat → Nat} (hσ : Ren σ G h nx G' h' nx') {v : Value} {x : V} (hv : RepV G w h nx v x) (hflat : ∀ l, x = .tup l → ∀ y ∈ l, ∀ l', y ≠ .tup l') : RepV G' w h' nx' v (Bv.ren σ x) := by
  unfold Bv.ren
  split
  · rename_i l
    obtain ⟨vs, rfl, h1, h3⟩ := hv.tup_inv
    refine .tup _ _ (by simpa using h1) fun j v x hv hx => ?_
    rw [List.getElem?_map, Option.map_eq_some_iff] at hx
    obtain ⟨y, hy, rfl⟩ := hx
    exact (h3 j v y hv hy).ren0 hσ (hflat l rfl y (List.mem_of_getElem? hy))
  · rename_i hn
    exact hv.ren0 hσ hn

theorem ren_back1 {σ : Nat → Nat} {h h' : Hp} {nx nx' : Nat} {G G' : Gh} {w : World} (hlim : G'.lim = G.lim) (hloc : ∀ i, i < nx' → G'.loc i = G.loc (σ i)) (htl : ∀ i, i < nx' → G'.tloc i = G.tloc (σ i))
    (htip : ∀ i t, i < nx' → h'.get i = some (.tip t) → h.get (σ i) = some (.tip t)) {v : Value} {x : V} (hv : RepV G w h nx v (ren1 σ x)) (ho : ok1 nx' x) : RepV G' w h' nx' v x := by
  cases x with
  | any => exact .any _
  | k u => rw [hv.k_inv]; exact .k _
  | d y => cases hv with | d _ _ hd => exact .d _ _ (by rw [hlim]; exact hd)
  | agg l => exact ho.elim
  | tup l => exact ho.elim
  | ptr id off =>
    simp only [Bv.ren1] at hv
    cases hv with | ptr _ _ b hid hl => exact .ptr _ _ b ho (by rw [hloc id ho]; exact hl)
  | ro l => cases hv with | ro b off _ vs h1 h2 h3 h4 => exact .ro b off l vs h1 h2 (by rw [hlim]; exact h3) (by rw [hlim]; exact h4)
  | own tok sz l =>
    simp only [Bv.ren1] at hv
    cases hv with | own _ _ _ _ hd ht hs =>
    refine .own _ _ _ _ (by rw [hlim]; exact hd) ho fun t h1 => ?_
    obtain ⟨g1, g2⟩ := hs t (htip tok t ho h1)
    refine ⟨g1, fun e => ?_⟩
    have := g2 e
    cases v with
    | slice A n cap =>
      simp only [Spare] at this ⊢
      rcases this with h6 | ⟨b, off, c, e', hA, hl, hheap, ho', hc⟩
      · exact .inl h6
      · exact .inr ⟨b, off, c, e', hA, by rw [htl tok ho]; exact hl, hheap, by rw [hlim]; exact ho', hc⟩
    | _ => exact this
  | full sz l =>
    obtain ⟨A, rfl, hd⟩ := hv.full_inv
    exact .full A sz l (by rw [hlim]; exact hd)
  | row id off len sz =>
    simp only [Bv.ren1] at hv
    cases hv with | row _ _ _ _ b o cap n hid hl h1 h2 h3 h4 h5 => exact .row _ _ _ _ b o cap n ho (by rw [hloc id ho]; exact hl) h1 h2 h3 h4 h5
  | mp id =>
    simp only [Bv.ren1] at hv
    cases hv with | mp _ b hid hl => exact .mp _ b ho (by rw [hloc id ho]; exact hl)

theorem ren_back0 {σ : Nat → Nat} {h h' : Hp} {nx nx' : Nat} {G G' : Gh} {w : World} (hlim : G'.lim = G.lim) (hloc : ∀ i, i < nx' → G'.loc i = G.loc (σ i)) (htl : ∀ i, i < nx' → G'.tloc i = G.tloc (σ i))
    (htip : ∀ i t, i < nx' → h'.get i = some (.tip t) → h.get (σ i) = some (.tip t)) {v : Value} {x : V} (hv : RepV G w h nx v (ren0 σ x)) (ho : ok0 nx' x) : RepV G' w h' nx' v x := by
  cases x with
  | agg l =>
    simp only [Bv.ren0] at hv
    obtain ⟨vs, rfl, h1, h2, h3⟩ := hv.agg_inv
    refine .agg _ _ (by simpa using h1) (fun y hy => ?_) fun j u y hu hy => ?_
    · rw [← ren1_one σ y]; exact h2 _ (List.mem_map.2 ⟨y, hy, rfl⟩)
    · exact ren_back1 hlim hloc htl htip (h3 j u (ren1 σ y) hu (by rw [List.getElem?_map, hy]; rfl)) (okL_spec ho j y hy)
  | _ => exact ren_back1 hlim hloc htl htip hv ho

theorem ren_back {σ : Nat → Nat} {h h' : Hp} {nx nx' : Nat} {G G' : Gh} {w : World} (hlim : G'.lim = G.lim) (hloc : ∀ i, i < nx' → G'.loc i = G.loc (σ i)) (htl : ∀ i, i < nx' → G'.tloc i = G.tloc (σ i))
    (htip : ∀ i t, i < nx' → h'.get i = some (.tip t) → h.get (σ i) = some (.tip t)) {v : Value} {x : V} (hv : RepV G w h nx v (ren σ x)) (ho : ok nx' x) : RepV G' w h' nx' v x := by
  cases x with
  | tup l =>
    simp only [Bv.ren] at hv
    obtain ⟨vs, rfl, h1, h3⟩ := hv.tup_inv
    refine .tup _ _ (by simpa using h1) fun j u y hu hy => ?_
    exact ren_back0 hlim hloc htl htip (h3 j u (ren0 σ y) hu (by rw [List.getElem?_map, hy]; rfl)) (okT_spec ho j y hy)
  | _ => exact ren_back0 hlim hloc htl htip hv ho


theorem hpOf_get : ∀ (os : List Ob) (k i : Nat), (hpOf k os).get i = if k ≤ i then os[i - k]? else none
  | [], k, i => by simp [hpOf, Hp.get]
  | n :: r, k, i => by
    simp only [hpOf, Hp.get]
    by_cases hi : i = k
    · subst hi; simp
    · rw [if_neg hi, hpOf_get r (k + 1) i]
      by_cases hk : k ≤ i
      · rw [if_pos hk, if_pos (by omega), show i - k = (i - (k + 1)) + 1 by omega, List.getElem?_cons_succ]
      · rw [if_neg hk, if_neg (by omega)]
theorem hpOf_get0 (os : List Ob) (i : Nat) : (hpOf 0 os).get i = os[i]? := by rw [hpOf_get, if_pos (Nat.zero_le _), Nat.sub_zero]
theorem get_append : ∀ (h1 h2 : Hp) (i : Nat), Hp.get (h1 ++ h2) i = (match h1.get i with | some o => some o | none => h2.get i)
  | [], h2, i => rfl
  | (j, o) :: r, h2, i => by
    simp only [List.cons_append, Hp.get]
    split
    · rfl
    · exact get_append r h2 i

/-- What a call with these objects begins with. -/
def tkOf (G : Gh) (pre : List Ob) : Tk := ⟨fun b => ∃ i, i < pre.length ∧ (G.loc i = some b ∨ G.tloc i = some b), hpOf 0 pre, pre.length⟩

/-- A CONTRACT of a function: called with values that hold xs, over objects pre (numbers 0, 1, ..), it returns a value that holds r, and leaves the objects post: first those of pre, then new ones. -/
def SoundH (P : Program) (f : FuncId) (xs : List V) (pre : List Ob) (r : V) (post : List Ob) : Prop :=
  ∀ (G : Gh) (w : World) (vs : List Value), vs.length = xs.length → (∀ (j : Nat) (v : Value) (x : V), vs[j]? = some v → xs[j]? = some x → RepV G w (hpOf 0 pre) pre.length v x) →
    WR (tkOf G pre) w.heap.size G w (hpOf 0 pre) pre.length →
    Calls P f vs.toArray w fun e w' => ∃ v G', e = .returned v ∧ RepV G' w' (hpOf 0 post) post.length v r ∧ WR (tkOf G pre) w.heap.size G' w' (hpOf 0 post) post.length ∧ Fr (tkOf G pre) G w G' w' ∧ Ex (tkOf G pre) G w G' w' (hpOf 0 post) post.length

def noTup : V → Prop
  | .tup l => ∀ y ∈ l, ∀ l', y ≠ .tup l'
  | _ => True

/-- Where the callee's numbers lie with the caller: those of its objects, then new ones from fb on. -/
def sgm (ids : List Nat) (fb : Nat) (i : Nat) : Nat := match ids[i]? with
  | some k => k
  | none => fb + (i - ids.length)
def notDead : Ob → Prop
  | .dead => False
  | _ => True
def hpNew (σ : Nat → Nat) : Nat → List Ob → Hp
  | _, [] => []
  | k, o :: r => (σ k, renO σ o) :: hpNew σ (k + 1) r
def preOk (h : Hp) (σ : Nat → Nat) (m fb nx : Nat) : List Nat → List Ob → Prop
  | [], [] => True
  | k :: ks, o :: os => (k < fb ∧ k < nx ∧ obLe (h.get k) (renO σ o) ∧ okO m o ∧ notDead o) ∧ preOk h σ m fb nx ks os
  | _, _ => False
theorem preOk_spec {σ : Nat → Nat} {m fb : Nat} : ∀ {ks : List Nat} {os : List Ob}, preOk h σ m fb nx ks os → ks.length = os.length ∧ ∀ (i k : Nat) (o : Ob), ks[i]? = some k → os[i]? = some o → k < fb ∧ k < nx ∧ obLe (h.get k) (renO σ o) ∧ okO m o ∧ notDead o
  | [], [], _ => ⟨rfl, by simp⟩
  | k :: ks, o :: os, hh => by
    obtain ⟨h1, h2⟩ := preOk_spec hh.2
    refine ⟨by simp [h1], fun i k' o' hk ho => ?_⟩
    cases i with
    | zero => simp at hk ho; subst hk; subst ho; exact hh.1
    | succ i => simp at hk ho; exact h2 i k' o' hk ho
  | [], _ :: _, hh => hh.elim
  | _ :: _, [], hh => hh.elim
def notTip : Ob → Prop
  | .tip _ => False
  | _ => True
theorem hpNew_get {σ : Nat → Nat} : ∀ (os : List Ob) (k i : Nat) (o : Ob), (∀ i j, i < k + os.length → j < k + os.length → σ i = σ j → i = j) → k ≤ i → os[i - k]? = some o → (hpNew σ k os).get (σ i) = some (renO σ o)
  | [], k, i, o, _, _, ho => by simp at ho
  | n :: r, k, i, o, hinj, hki, ho => by
    simp only [hpNew, Hp.get]
    by_cases hi : i = k
    · subst hi
      simp at ho
      subst ho
      simp
    · have hlt : i - k < (n :: r).length := (List.getElem?_eq_some_iff.1 ho).1
      rw [if_neg (fun h => hi (hinj i k (by omega) (by simp) h))]
      refine hpNew_get r (k + 1) i o (fun a b ha hb => hinj a b (by simp at ha ⊢; omega) (by simp at hb ⊢; omega)) (by omega) ?_
      rw [show i - k = (i - (k + 1)) + 1 by omega, List.getElem?_cons_succ] at ho
      exact ho
theorem hpNew_out {σ : Nat → Nat} : ∀ (os : List Ob) (k id : Nat), (∀ i, k ≤ i → i < k + os.length → σ i ≠ id) → (hpNew σ k os).get id = none
  | [], _, _, _ => rfl
  | n :: r, k, id, hh => by
    simp only [hpNew, Hp.get]
    rw [if_neg (fun h => hh k (Nat.le_refl _) (by simp) h.symm)]
    exact hpNew_out r (k + 1) id (fun i h1 h2 => hh i (by omega) (by simp; omega))

end
end Go.Bv
