/-
  Part of a machine over pure data and objects that is sound for the model: what it says of a Go function holds of every call of that function. Conditions: those in each theorem. It speaks of any program.
-/
import Derived.WalkKit
import Derived.KernelRfl
namespace Go.Bv
open Go.RowKit

/-! Integer operations by name. -/
def iand (k : IntKind) (a b : Int) : Int := k.wrap (BitVec.ofInt k.bits a &&& BitVec.ofInt k.bits b).toNat
def ior (k : IntKind) (a b : Int) : Int := k.wrap (BitVec.ofInt k.bits a ||| BitVec.ofInt k.bits b).toNat
def ixor (k : IntKind) (a b : Int) : Int := k.wrap (BitVec.ofInt k.bits a ^^^ BitVec.ofInt k.bits b).toNat
def ianot (k : IntKind) (a b : Int) : Int := k.wrap (BitVec.ofInt k.bits a &&& ~~~BitVec.ofInt k.bits b).toNat
def ishl (k : IntKind) (a b : Int) : Int := k.wrap (a * 2 ^ min b.toNat k.bits)
def ishr (k : IntKind) (a b : Int) : Int := a.fdiv (2 ^ min b.toNat k.bits)

/-- Pure data: what a Go value holds, memory read through. 'sz': cells an element takes. -/
inductive D where
  | int (k : IntKind) (n : Int)
  | bool (b : Bool)
  | str (s : ByteArray)
  | slice (sz : Nat) (l : List D)
  | agg (l : List D)

def D.cells : D → List D
  | .agg l => l
  | d => [d]
def D.one : D → Bool
  | .agg _ => false
  | _ => true

/-- One-cell value v holds the datum, all cells read below the blocks' limits m. -/
inductive RepD (m : Nat → Nat) (w : World) : Value → D → Prop
  | int (k : IntKind) (n : Int) : RepD m w (.int k n) (.int k n)
  | bool (b : Bool) : RepD m w (.bool b) (.bool b)
  | str (s : ByteArray) : RepD m w (.string s) (.str s)
  | nil (sz : Nat) : RepD m w (.slice none 0 0) (.slice sz [])
  | slice (b off cap sz : Nat) (l : List D) (vs : List Value) (hcap : l.length ≤ cap) (hmax : cap ≤ maxLen)
      (hsz : ∀ d ∈ l, d.cells.length = sz ∧ ∀ c ∈ d.cells, c.one = true)
      (hlen : vs.length = (l.flatMap D.cells).length)
      (hc : ∀ (j : Nat) (u : Value), vs[j]? = some u → off + j < m b ∧ w.cell? ⟨b, off + j, none⟩ = some u)
      (hr : ∀ (j : Nat) (u : Value) (c : D), vs[j]? = some u → (l.flatMap D.cells)[j]? = some c → RepD m w u c) :
      RepD m w (.slice (some ⟨b, off, none⟩) l.length cap) (.slice sz l)

def Mono (m : Nat → Nat) (w : World) (m' : Nat → Nat) (w' : World) : Prop :=
  ∀ b o v, o < m b → w.cell? ⟨b, o, none⟩ = some v → o < m' b ∧ w'.cell? ⟨b, o, none⟩ = some v

theorem Mono.refl (m : Nat → Nat) (w : World) : Mono m w m w := fun _ _ _ h1 h2 => ⟨h1, h2⟩
theorem Mono.trans {m m1 m2 : Nat → Nat} {w w1 w2 : World} (h : Mono m w m1 w1) (h' : Mono m1 w1 m2 w2) : Mono m w m2 w2 :=
  fun b o v h1 h2 => let ⟨a, c⟩ := h b o v h1 h2; h' b o v a c

theorem RepD.mono {m m' : Nat → Nat} {w w' : World} (hm : Mono m w m' w') {v : Value} {d : D} (h : RepD m w v d) : RepD m' w' v d := by
  induction h with
  | int k n => exact .int k n
  | bool b => exact .bool b
  | str s => exact .str s
  | nil sz => exact .nil sz
  | slice b off cap sz l vs hcap hmax hsz hlen hc hr ih =>
    exact .slice b off cap sz l vs hcap hmax hsz hlen (fun j u hu => let ⟨a, c⟩ := hc j u hu; hm _ _ _ a c) ih

theorem RepD.one {m : Nat → Nat} {w : World} {v : Value} {d : D} (h : RepD m w v d) : v.oneCell' = true := by cases h <;> rfl
theorem RepD.done {m : Nat → Nat} {w : World} {v : Value} {d : D} (h : RepD m w v d) : d.one = true := by cases h <;> rfl

theorem flat_length {sz : Nat} {l : List D} (h : ∀ d ∈ l, d.cells.length = sz ∧ ∀ c ∈ d.cells, c.one = true) : (l.flatMap D.cells).length = l.length * sz := by
  induction l with
  | nil => simp
  | cons d l ih =>
    have h1 := (h d (by simp)).1
    have h2 := ih (fun x hx => h x (by simp [hx]))
    simp only [List.flatMap_cons, List.length_append, List.length_cons, h1, h2, Nat.add_mul, Nat.one_mul]
    omega

theorem flat_get {sz : Nat} {l : List D} (h : ∀ d ∈ l, d.cells.length = sz ∧ ∀ c ∈ d.cells, c.one = true) {i : Nat} {d : D} (hi : l[i]? = some d) (j : Nat) (hj : j < sz) :
    (l.flatMap D.cells)[i * sz + j]? = d.cells[j]? := by
  induction l generalizing i with
  | nil => simp at hi
  | cons x l ih =>
    have h1 := (h x (by simp)).1
    cases i with
    | zero =>
      simp at hi; subst hi
      simp only [List.flatMap_cons, Nat.zero_mul, Nat.zero_add]
      rw [List.getElem?_append_left (by omega)]
    | succ i =>
      simp at hi
      simp only [List.flatMap_cons]
      rw [List.getElem?_append_right (by rw [h1, Nat.add_mul]; omega)]
      rw [show (i + 1) * sz + j - x.cells.length = i * sz + j by rw [h1, Nat.add_mul]; omega]
      exact ih (fun y hy => h y (by simp [hy])) hi

/-- Abstract values: what a slot, or a cell of an object, holds. -/
inductive V where
  | any
  | k (v : Value)
  | d (x : D)
  | agg (l : List V)
  | tup (l : List V)
  | ptr (id off : Nat)
  | ro (l : List D)
  | own (tok sz : Nat) (l : List D)
  | full (sz : Nat) (l : List D)
  | row (id off len sz : Nat)
  | mp (id : Nat)

def V.one : V → Bool
  | .any => false
  | .agg _ => false
  | .tup _ => false
  | .k v => v.oneCell'
  | .d x => x.one
  | _ => true

def V.cells : V → List V
  | .agg l => l
  | v => [v]
def V.ofD : D → V
  | .agg l => .agg (l.map .d)
  | x => .d x

/-- Objects: a block of cells of the call's own (or of an argument's), or the token of a slice that may grow. -/
inductive Ob where
  | cells (l : List V)
  | tip (n : Nat)
  | map (es : List (D × V))
  | dead

abbrev Hp := List (Nat × Ob)
def Hp.get : Hp → Nat → Option Ob
  | [], _ => none
  | (i, o) :: r, j => if j = i then some o else Hp.get r j

/-- A number that speaks of something. -/
def live (h : Hp) (i : Nat) : Prop := match h.get i with
  | none => False
  | some .dead => False
  | some _ => True
theorem live_eq {h h' : Hp} {i : Nat} (e : h'.get i = h.get i) (l : live h' i) : live h i := by unfold live at *; rw [e] at l; exact l
theorem live_cells {h : Hp} {i : Nat} {l : List V} (e : h.get i = some (.cells l)) : live h i := by unfold live; rw [e]; trivial
theorem live_tip {h : Hp} {i t : Nat} (e : h.get i = some (.tip t)) : live h i := by unfold live; rw [e]; trivial
theorem live_map {h : Hp} {i : Nat} {es : List (D × V)} (e : h.get i = some (.map es)) : live h i := by unfold live; rw [e]; trivial
theorem live_of {h : Hp} {i : Nat} (l : live h i) : ∃ o, h.get i = some o ∧ o ≠ .dead := by
  unfold live at l
  split at l
  · exact l.elim
  · exact l.elim
  · rename_i o hn hg; exact ⟨o, hg, fun h => hn h⟩
/-- One object over an elder live one. -/
theorem live_over {h : Hp} {k i : Nat} {o : Ob} (hk : live h k) (l : live ((k, o) :: h) i) : live h i := by
  by_cases e : i = k
  · subst e; exact hk
  · exact live_eq (by simp [Hp.get, e]) l
theorem live_new {h : Hp} {k i : Nat} {o : Ob} (e : i ≠ k) (l : live ((k, o) :: h) i) : live h i := live_eq (by simp [Hp.get, e]) l

structure Gh where
  loc : Nat → Option Nat
  tloc : Nat → Option Nat
  lim : Nat → Nat

/-- How many cells a block has. -/
def csz (w : World) (b : Nat) : Option Nat := match w.heap[b]? with
  | some (.cells c _ (0, 0)) => some c.size
  | _ => none
theorem csz_of {w : World} {b : Nat} {c : Array Value} {e : TypeId} (h : w.heap[b]? = some (.cells c e (0, 0))) : csz w b = some c.size := by simp [csz, h]
theorem csz_same {w w' : World} {b : Nat} (h : w'.heap[b]? = w.heap[b]?) : csz w' b = csz w b := by simp [csz, h]

def Spare (G : Gh) (w : World) (tok sz n : Nat) : Value → Prop
  | .slice A _ cap => cap = n ∨ ∃ b off c e, A = some ⟨b, off, none⟩ ∧ G.tloc tok = some b ∧ w.heap[b]? = some (.cells c e (0, 0)) ∧ off + n * sz = G.lim b ∧ off + cap * sz ≤ c.size
  | _ => False

inductive RepV (G : Gh) (w : World) (h : Hp) (nx : Nat) : Value → V → Prop
  | any (v : Value) : RepV G w h nx v .any
  | k (v : Value) : RepV G w h nx v (.k v)
  | d (v : Value) (x : D) (hd : RepD G.lim w v x) : RepV G w h nx v (.d x)
  | agg (vs : List Value) (l : List V) (hlen : vs.length = l.length) (hone : ∀ x ∈ l, x.one = true)
      (hr : ∀ (j : Nat) (v : Value) (x : V), vs[j]? = some v → l[j]? = some x → RepV G w h nx v x) : RepV G w h nx (.agg vs.toArray) (.agg l)
  | tup (vs : List Value) (l : List V) (hlen : vs.length = l.length)
      (hr : ∀ (j : Nat) (v : Value) (x : V), vs[j]? = some v → l[j]? = some x → RepV G w h nx v x) : RepV G w h nx (.tuple vs.toArray) (.tup l)
  | ptr (id off b : Nat) (hid : id < nx) (hl : G.loc id = some b) : RepV G w h nx (.pointer (some ⟨b, off, none⟩)) (.ptr id off)
  | ro (b off : Nat) (l : List D) (vs : List Value) (hlen : vs.length = l.length) (hone : ∀ c ∈ l, c.one = true)
      (hc : ∀ (j : Nat) (u : Value), vs[j]? = some u → off + j < G.lim b ∧ w.cell? ⟨b, off + j, none⟩ = some u)
      (hr : ∀ (j : Nat) (u : Value) (c : D), vs[j]? = some u → l[j]? = some c → RepD G.lim w u c) : RepV G w h nx (.pointer (some ⟨b, off, none⟩)) (.ro l)
  | own (v : Value) (tok sz : Nat) (l : List D) (hd : RepD G.lim w v (.slice sz l)) (ht : tok < nx)
      (hs : ∀ t, h.get tok = some (.tip t) → l.length ≤ t ∧ (l.length = t → Spare G w tok sz l.length v)) : RepV G w h nx v (.own tok sz l)
  | full (A : Option Addr) (sz : Nat) (l : List D) (hd : RepD G.lim w (.slice A l.length l.length) (.slice sz l)) : RepV G w h nx (.slice A l.length l.length) (.full sz l)
  | row (id off len sz b o cap n : Nat) (hid : id < nx) (hl : G.loc id = some b) (ho : cap ≠ 0 → o = off) (hc : len ≤ cap) (hm : cap ≤ maxLen) (hn : csz w b = some n) (hs : off + cap * sz ≤ n) : RepV G w h nx (.slice (some ⟨b, o, none⟩) len cap) (.row id off len sz)
  | mp (id b : Nat) (hid : id < nx) (hl : G.loc id = some b) : RepV G w h nx (.map (some b)) (.mp id)

theorem RepV.one {G : Gh} {w : World} {h : Hp} {nx : Nat} {v : Value} {x : V} (hr : RepV G w h nx v x) (h1 : x.one = true) : v.oneCell' = true := by
  cases hr <;> first | (exact RepD.one (by assumption)) | exact h1 | rfl | cases h1

/-- From (G, w, h, nx) to (G', w', h', nx'): what every value that is held needs to be held still. -/
structure Ext (G : Gh) (w : World) (h : Hp) (nx : Nat) (G' : Gh) (w' : World) (h' : Hp) (nx' : Nat) : Prop where
  mono : Mono G.lim w G'.lim w'
  hnx : nx ≤ nx'
  loc : ∀ id b, id < nx → G.loc id = some b → G'.loc id = some b
  tok : ∀ tok t', tok < nx → h'.get tok = some (.tip t') → ∃ t, h.get tok = some (.tip t) ∧ t ≤ t' ∧
    (t = t' → ∀ b, G.tloc tok = some b → G'.tloc tok = some b ∧ w'.heap[b]? = w.heap[b]? ∧ G'.lim b = G.lim b)
  csz : ∀ b n, csz w b = some n → csz w' b = some n

theorem Ext.refl (G : Gh) (w : World) (h : Hp) (nx : Nat) : Ext G w h nx G w h nx :=
  ⟨Mono.refl _ _, Nat.le_refl _, fun _ _ _ h => h, fun _ t' _ h => ⟨t', h, Nat.le_refl _, fun _ _ hb => ⟨hb, rfl, rfl⟩⟩, fun _ _ h => h⟩
theorem Ext.trans {G G' G2 : Gh} {w w' w2 : World} {h h' h2 : Hp} {nx nx' nx2 : Nat} (a : Ext G w h nx G' w' h' nx') (b : Ext G' w' h' nx' G2 w2 h2 nx2) : Ext G w h nx G2 w2 h2 nx2 := by
  have hn := a.hnx
  refine ⟨a.mono.trans b.mono, Nat.le_trans a.hnx b.hnx, fun id k hi hk => b.loc id k (by omega) (a.loc id k hi hk), fun tok t2 ht h2 => ?_, fun k n hk => b.csz k n (a.csz k n hk)⟩
  obtain ⟨t', g1, g2, g3⟩ := b.tok tok t2 (by omega) h2
  obtain ⟨t, f1, f2, f3⟩ := a.tok tok t' ht g1
  refine ⟨t, f1, by omega, fun htt k hk => ?_⟩
  obtain ⟨q1, q2, q3⟩ := f3 (by omega) k hk
  obtain ⟨r1, r2, r3⟩ := g3 (by omega) k q1
  exact ⟨r1, r2.trans q2, r3.trans q3⟩

theorem RepV.ext {G G' : Gh} {w w' : World} {h h' : Hp} {nx nx' : Nat} (he : Ext G w h nx G' w' h' nx') {v : Value} {x : V} (hr : RepV G w h nx v x) : RepV G' w' h' nx' v x := by
  induction hr with
  | any v => exact .any v
  | k v => exact .k v
  | d v x hd => exact .d v x (hd.mono he.mono)
  | agg vs l hlen hone _ ih => exact .agg vs l hlen hone ih
  | tup vs l hlen _ ih => exact .tup vs l hlen ih
  | ptr id off b hid hl => exact .ptr id off b (Nat.lt_of_lt_of_le hid he.hnx) (he.loc id b hid hl)
  | ro b off l vs hlen hone hc hr => exact .ro b off l vs hlen hone (fun j u hu => let ⟨a, c⟩ := hc j u hu; he.mono _ _ _ a c) (fun j u c h1 h2 => (hr j u c h1 h2).mono he.mono)
  | own v tok sz l hd ht hs =>
    refine .own v tok sz l (hd.mono he.mono) (Nat.lt_of_lt_of_le ht he.hnx) fun t' ht' => ?_
    obtain ⟨t, h1, h2, h3⟩ := he.tok tok t' ht ht'
    obtain ⟨h4, h5⟩ := hs t h1
    refine ⟨by omega, fun hl => ?_⟩
    have htt : t = t' := by omega
    have h6 := h5 (by omega)
    have h7 := h3 htt
    cases v with
    | slice A n cap =>
      simp only [Spare] at h6 ⊢
      rcases h6 with h6 | ⟨b, off, c, e, hA, hloc, hheap, ho, hc⟩
      · exact .inl h6
      · obtain ⟨g1, g2, g3⟩ := h7 b hloc
        exact .inr ⟨b, off, c, e, hA, g1, g2.trans hheap, by rw [g3]; exact ho, hc⟩
    | _ => exact h6
  | full A sz l hd => exact .full A sz l (hd.mono he.mono)
  | row id off len sz b o cap n hid hl ho hc hm hn hs => exact .row id off len sz b o cap n (Nat.lt_of_lt_of_le hid he.hnx) (he.loc id b hid hl) ho hc hm (he.csz b n hn) hs
  | mp id b hid hl => exact .mp id b (Nat.lt_of_lt_of_le hid he.hnx) (he.loc id b hid hl)

end Go.Bv
