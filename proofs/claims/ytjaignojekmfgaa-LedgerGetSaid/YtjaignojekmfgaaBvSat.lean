/-
  Part of a machine over pure data and objects that is sound for the model: what it says of a Go function holds of every call of that function. Conditions: those in each theorem. It speaks of any program.
-/
import Derived.Test.YtjaignojekmfgaaBvRun
namespace Go.Bv
open Go.RowKit

/-! ### Weakening -/

def le1 : V → V → Prop
  | _, .any => True
  | .own _ s l, .d (.slice s' l') => s = s' ∧ l = l'
  | .full s l, .d (.slice s' l') => s = s' ∧ l = l'
  | .k (.slice none 0 0), .d (.slice _ l) => l = []
  | .k (.slice none 0 0), .full _ l => l = []
  | x, y => x = y
def leL : List V → List V → Prop
  | [], [] => True
  | x :: xs, y :: ys => (le1 x y ∧ y.one = true) ∧ leL xs ys
  | _, _ => False
def le0 : V → V → Prop
  | .agg l, .agg l' => leL l l'
  | x, y => le1 x y
def leT : List V → List V → Prop
  | [], [] => True
  | x :: xs, y :: ys => le0 x y ∧ leT xs ys
  | _, _ => False
def le : V → V → Prop
  | .tup l, .tup l' => leT l l'
  | x, y => le0 x y

theorem le1_refl (x : V) : le1 x x := by
  unfold le1
  split <;> first | trivial | rfl | simp_all

/-- The numbers that a value names. -/
def ok1 (nx : Nat) : V → Prop
  | .ptr id _ => id < nx
  | .own tok _ _ => tok < nx
  | .row id _ _ _ => id < nx
  | .mp id => id < nx
  | .agg _ => False
  | .tup _ => False
  | _ => True
def okL (nx : Nat) : List V → Prop
  | [] => True
  | x :: xs => ok1 nx x ∧ okL nx xs
def ok0 (nx : Nat) : V → Prop
  | .agg l => okL nx l
  | x => ok1 nx x
def okT (nx : Nat) : List V → Prop
  | [] => True
  | x :: xs => ok0 nx x ∧ okT nx xs
def ok (nx : Nat) : V → Prop
  | .tup l => okT nx l
  | x => ok0 nx x

section
variable {P : Program} {T : Tk} {G0 G : Gh} {w0 w : World} {N : Nat} {s : St} {a : Act} {h h' : Hp} {nx nx' : Nat}

theorem RepV.le1 {v : Value} {x y : V} (hv : RepV G w h nx v x) (hl : Bv.le1 x y) : RepV G w h nx v y := by
  unfold Bv.le1 at hl
  split at hl
  · exact .any _
  · obtain ⟨rfl, rfl⟩ := hl; cases hv; exact .d _ _ (by assumption)
  · obtain ⟨rfl, rfl⟩ := hl; exact .d _ _ (hv.full_inv.elim fun _ h => h.2)
  · subst hl; rw [hv.k_inv]; exact .d _ _ (.nil _)
  · subst hl; rw [hv.k_inv]; exact .full none _ [] (.nil _)
  · subst hl; exact hv

theorem leL_spec : ∀ {l l' : List V}, leL l l' → l.length = l'.length ∧ (∀ y ∈ l', y.one = true) ∧ ∀ (j : Nat) (x y : V), l[j]? = some x → l'[j]? = some y → Bv.le1 x y
  | [], [], _ => ⟨rfl, by simp, by simp⟩
  | x :: xs, y :: ys, hh => by
    obtain ⟨⟨h1, h2⟩, h3⟩ := hh
    obtain ⟨g1, g2, g3⟩ := leL_spec h3
    refine ⟨by simp [g1], fun z hz => ?_, fun j a b ha hb => ?_⟩
    · rcases List.mem_cons.1 hz with rfl | hz
      · exact h2
      · exact g2 z hz
    · cases j with
      | zero => simp at ha hb; subst ha; subst hb; exact h1
      | succ j => simp at ha hb; exact g3 j a b ha hb
  | [], _ :: _, hh => hh.elim
  | _ :: _, [], hh => hh.elim
theorem leT_spec : ∀ {l l' : List V}, leT l l' → l.length = l'.length ∧ ∀ (j : Nat) (x y : V), l[j]? = some x → l'[j]? = some y → Bv.le0 x y
  | [], [], _ => ⟨rfl, by simp⟩
  | x :: xs, y :: ys, hh => by
    obtain ⟨h1, h3⟩ := hh
    obtain ⟨g1, g3⟩ := leT_spec h3
    refine ⟨by simp [g1], fun j a b ha hb => ?_⟩
    cases j with
    | zero => simp at ha hb; subst ha; subst hb; exact h1
    | succ j => simp at ha hb; exact g3 j a b ha hb
  | [], _ :: _, hh => hh.elim
  | _ :: _, [], hh => hh.elim
theorem okL_spec : ∀ {l : List V}, okL nx l → ∀ (j : Nat) (x : V), l[j]? = some x → ok1 nx x
  | [], _ => by simp
  | x :: xs, hh => by
    intro j y hy
    cases j with
    | zero => simp at hy; subst hy; exact hh.1
    | succ j => simp at hy; exact okL_spec hh.2 j y hy
theorem okT_spec : ∀ {l : List V}, okT nx l → ∀ (j : Nat) (x : V), l[j]? = some x → ok0 nx x
  | [], _ => by simp
  | x :: xs, hh => by
    intro j y hy
    cases j with
    | zero => simp at hy; subst hy; exact hh.1
    | succ j => simp at hy; exact okT_spec hh.2 j y hy

theorem leL_rep {cs : List Value} {l l' : List V} (hlen : cs.length = l.length) (hr : ∀ (j : Nat) (v : Value) (x : V), cs[j]? = some v → l[j]? = some x → RepV G w h nx v x) (hl : leL l l') :
    cs.length = l'.length ∧ (∀ y ∈ l', y.one = true) ∧ ∀ (j : Nat) (v : Value) (x : V), cs[j]? = some v → l'[j]? = some x → RepV G w h nx v x := by
  obtain ⟨g1, g2, g3⟩ := leL_spec hl
  refine ⟨by omega, g2, fun j v y hv hy => ?_⟩
  have hj : j < l.length := by have := (List.getElem?_eq_some_iff.1 hv).1; omega
  exact (hr j v _ hv (List.getElem?_eq_getElem hj)).le1 (g3 j _ y (List.getElem?_eq_getElem hj) hy)

theorem RepV.agg_inv {v : Value} {l : List V} (hv : RepV G w h nx v (.agg l)) : ∃ vs, v = .agg (List.toArray vs) ∧ vs.length = l.length ∧ (∀ x ∈ l, x.one = true) ∧ ∀ (j : Nat) (u : Value) (x : V), vs[j]? = some u → l[j]? = some x → RepV G w h nx u x := by
  generalize hx : V.agg l = x at hv
  cases hv <;> first | cases hx | skip
  rename_i vs hlen hone hr
  exact ⟨vs, rfl, hlen, hone, hr⟩
theorem RepV.tup_inv {v : Value} {l : List V} (hv : RepV G w h nx v (.tup l)) : ∃ vs, v = .tuple (List.toArray vs) ∧ vs.length = l.length ∧ ∀ (j : Nat) (u : Value) (x : V), vs[j]? = some u → l[j]? = some x → RepV G w h nx u x := by
  generalize hx : V.tup l = x at hv
  cases hv <;> first | cases hx | skip
  rename_i vs hlen hr
  exact ⟨vs, rfl, hlen, hr⟩

theorem RepV.le0 {v : Value} {x y : V} (hv : RepV G w h nx v x) (hl : Bv.le0 x y) : RepV G w h nx v y := by
  unfold Bv.le0 at hl
  split at hl
  · obtain ⟨vs, rfl, h1, h2, h3⟩ := hv.agg_inv
    obtain ⟨g1, g2, g3⟩ := leL_rep h1 h3 hl
    exact .agg _ _ g1 g2 g3
  · exact hv.le1 hl
theorem RepV.le {v : Value} {x y : V} (hv : RepV G w h nx v x) (hl : Bv.le x y) : RepV G w h nx v y := by
  unfold Bv.le at hl
  split at hl
  · rename_i l l'
    obtain ⟨vs, rfl, h1, h3⟩ := hv.tup_inv
    obtain ⟨g1, g3⟩ := leT_spec hl
    refine .tup _ _ (by omega) fun j v y hv hy => ?_
    have hj : j < l.length := by have := (List.getElem?_eq_some_iff.1 hv).1; omega
    exact (h3 j v _ hv (List.getElem?_eq_getElem hj)).le0 (g3 j _ y (List.getElem?_eq_getElem hj) hy)
  · exact hv.le0 hl

/-- Fewer numbers, fewer objects. -/
theorem RepV.low1 (hh : ∀ tok t, tok < nx' → h'.get tok = some (.tip t) → h.get tok = some (.tip t)) {v : Value} {x : V} (hv : RepV G w h nx v x) (ho : ok1 nx' x) : RepV G w h' nx' v x := by
  cases hv with
  | any => exact .any _
  | k => exact .k _
  | d _ _ hd => exact .d _ _ hd
  | agg => exact ho.elim
  | tup => exact ho.elim
  | ptr _ _ b hid hl => exact .ptr _ _ b ho hl
  | ro b off l vs h1 h2 h3 h4 => exact .ro b off l vs h1 h2 h3 h4
  | own _ tok sz l hd ht hs => exact .own _ _ _ _ hd ho (fun t h1 => hs t (hh tok t ho h1))
  | full A sz l hd => exact .full A sz l hd
  | row _ _ _ _ b o cap n hid hl h1 h2 h3 h4 h5 => exact .row _ _ _ _ b o cap n ho hl h1 h2 h3 h4 h5
  | mp _ b hid hl => exact .mp _ b ho hl
theorem RepV.low0 (hh : ∀ tok t, tok < nx' → h'.get tok = some (.tip t) → h.get tok = some (.tip t)) {v : Value} {x : V} (hv : RepV G w h nx v x) (ho : ok0 nx' x) : RepV G w h' nx' v x := by
  unfold ok0 at ho
  split at ho
  · obtain ⟨vs, rfl, h1, h2, h3⟩ := hv.agg_inv
    exact .agg _ _ h1 h2 fun j v x hv hx => (h3 j v x hv hx).low1 hh (okL_spec ho j x hx)
  · exact hv.low1 hh ho
theorem RepV.low (hh : ∀ tok t, tok < nx' → h'.get tok = some (.tip t) → h.get tok = some (.tip t)) {v : Value} {x : V} (hv : RepV G w h nx v x) (ho : ok nx' x) : RepV G w h' nx' v x := by
  unfold ok at ho
  split at ho
  · obtain ⟨vs, rfl, h1, h3⟩ := hv.tup_inv
    exact .tup _ _ h1 fun j v x hv hx => (h3 j v x hv hx).low0 hh (okT_spec ho j x hx)
  · exact hv.low0 hh ho

def obLe : Option Ob → Ob → Prop
  | some (.tip n), .tip n' => n = n'
  | some (.cells l), .cells l' => leL l l'
  | some (.map es), .map es' => es = es'
  | _, .dead => True
  | _, _ => False
def okM (nx : Nat) : List (D × V) → Prop
  | [] => True
  | x :: xs => ok0 nx x.2 ∧ okM nx xs
theorem okM_spec {nx : Nat} : ∀ {l : List (D × V)}, okM nx l → ∀ (j : Nat) (x : D × V), l[j]? = some x → ok0 nx x.2
  | [], _ => by simp
  | x :: xs, hh => by
    intro j y hy
    cases j with
    | zero => simp at hy; subst hy; exact hh.1
    | succ j => simp at hy; exact okM_spec hh.2 j y hy
def okO (nx : Nat) : Ob → Prop
  | .tip _ => True
  | .cells l => okL nx l
  | .map es => okM nx es
  | .dead => True
def slLe (sl : List (Nat × V)) (nx : Nat) : List (Nat × V) → Prop
  | [] => True
  | (t, x) :: r => (le (getS sl t) x ∧ ok nx x) ∧ slLe sl nx r
def hpLe (h : Hp) (nx : Nat) : Hp → Prop
  | [] => True
  | (i, o) :: r => (i < nx ∧ obLe (h.get i) o ∧ okO nx o) ∧ hpLe h nx r
/-- The state s serves as the state s'. -/
def St.le (n0 : Nat) (s s' : St) : Prop := (n0 ≤ s'.nx ∧ s'.nx ≤ s.nx) ∧ slLe s.sl s'.nx s'.sl ∧ hpLe s.h s'.nx s'.h

theorem slLe_spec {sl : List (Nat × V)} : ∀ {sl' : List (Nat × V)}, slLe sl nx sl' → ∀ t, getS sl' t = .any ∨ (Bv.le (getS sl t) (getS sl' t) ∧ ok nx (getS sl' t))
  | [], _, t => .inl rfl
  | (i, x) :: r, hh, t => by
    simp only [getS]
    split
    · rename_i hi; subst hi; exact .inr hh.1
    · exact slLe_spec hh.2 t
theorem hpLe_spec : ∀ {h' : Hp}, hpLe h nx h' → ∀ i o, h'.get i = some o → i < nx ∧ obLe (h.get i) o ∧ okO nx o
  | [], _, i, o, hg => by cases hg
  | (j, p) :: r, hh, i, o, hg => by
    simp only [Hp.get] at hg
    split at hg
    · rename_i hi; subst hi; injection hg with hg; subst hg; exact hh.1
    · exact hpLe_spec hh.2 i o hg

theorem obLe_tip {o : Option Ob} {t : Nat} (h : obLe o (.tip t)) : o = some (.tip t) := by
  cases o with
  | none => exact h.elim
  | some ob => cases ob with
    | tip n => have : n = t := h; rw [this]
    | _ => exact h.elim
theorem obLe_cells {o : Option Ob} {l : List V} (h : obLe o (.cells l)) : ∃ l0, o = some (.cells l0) ∧ leL l0 l := by
  cases o with
  | none => exact h.elim
  | some ob => cases ob with
    | cells l0 => exact ⟨l0, rfl, h⟩
    | _ => exact h.elim
theorem obLe_map {o : Option Ob} {es : List (D × V)} (h : obLe o (.map es)) : o = some (.map es) := by
  cases o with
  | none => exact h.elim
  | some ob => cases ob with
    | map es0 => have : es0 = es := h; rw [this]
    | _ => exact h.elim

theorem hpLe_live (h3 : hpLe h nx h') {i : Nat} (l : live h' i) : live h i := by
  obtain ⟨o, ho, hd⟩ := live_of l
  have := (hpLe_spec h3 i o ho).2.1
  cases o with
  | cells l => obtain ⟨l0, h1, _⟩ := obLe_cells this; exact live_cells h1
  | tip t => exact live_tip (obLe_tip this)
  | map es => exact live_map (obLe_map this)
  | dead => exact (hd rfl).elim

theorem R.le {s' : St} (hR : R T G0 w0 N s a G w) (hl : St.le T.nx s s') : R T G0 w0 N s' a G w := by
  obtain ⟨⟨h0, h1⟩, h2, h3⟩ := hl
  have hw := hR.wr
  have htip : ∀ tok t, tok < s'.nx → s'.h.get tok = some (.tip t) → s.h.get tok = some (.tip t) := by
    intro tok t _ hg
    exact obLe_tip (hpLe_spec h3 tok _ hg).2.1
  refine ⟨hR.fr, ⟨?_, ?_, fun id b hi => hw.here id b (by omega), fun i j b hi hj h1 h2 l1 l2 => hw.inj i j b (by omega) (by omega) h1 h2 (hpLe_live h3 l1) (hpLe_live h3 l2), fun id ob hg => (hpLe_spec h3 id ob hg).1, hw.lim⟩, hR.df, hR.sz, fun t => ?_, ⟨h0, hR.ex.loc, fun tok t' ht hg => hR.ex.tok tok t' ht (htip tok t' (by omega) hg), hR.ex.csz⟩⟩
  · intro id l hg
    obtain ⟨g1, g2, g3⟩ := hpLe_spec h3 id _ hg
    obtain ⟨l0, hgt, g2⟩ := obLe_cells g2
    obtain ⟨b, e, cs, k1, k2, k3, k4, k5, k6⟩ := hw.obj id l0 hgt
    obtain ⟨q1, q2, q3⟩ := leL_spec g2
    exact ⟨b, e, cs, k1, k2, k3, by omega, q2, fun j v x hv hx => by
      have hj : j < l0.length := by have := (List.getElem?_eq_some_iff.1 hx).1; omega
      exact ((k6 j v _ hv (List.getElem?_eq_getElem hj)).le1 (q3 j _ x (List.getElem?_eq_getElem hj) hx)).low1 htip (okL_spec g3 j x hx)⟩
  · intro id es hg
    obtain ⟨g1, g2, g3⟩ := hpLe_spec h3 id _ hg
    obtain ⟨b, clk, ms, k1, k2, k3, k0, k4⟩ := hw.mob id es (obLe_map g2)
    exact ⟨b, clk, ms, k1, k2, k3, k0, fun j m e hm he => ⟨(k4 j m e hm he).1, (k4 j m e hm he).2.low0 htip (okM_spec g3 j e he)⟩⟩
  · rcases slLe_spec h2 t with g | ⟨g1, g2⟩
    · rw [g]; exact .any _
    · exact ((hR.sl t).le g1).low htip g2

end
end Go.Bv
