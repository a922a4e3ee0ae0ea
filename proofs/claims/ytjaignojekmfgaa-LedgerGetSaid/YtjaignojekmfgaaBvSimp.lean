/-
  Part of a machine over pure data and objects that is sound for the model: what it says of a Go function holds of every call of that function. Conditions: those in each theorem. It speaks of any program.
-/
import Derived.Test.YtjaignojekmfgaaBvWalk
namespace Go.Bv
open Go.RowKit

section
variable (P : Program) (N : Nat) (tb : List (Option Nat)) (d : Option Nat) (ty : TypeId) (p : String) (af : Array Edge) (r : List Oper) (K : St → Prop) (s : St)

theorem A_nil : AOps P N tb [] K s = K s := rfl
theorem A_move (x : Operand) : AOps P N tb (⟨d, .move x, ty, p, af, none⟩ :: r) K s = (dstOk N d ∧ AOps P N tb r K (s.put d (s.ev x))) := by simp only [AOps, AOp, avOk, av, true_and]
theorem A_assign (x : Operand) : AOps P N tb (⟨d, .assign x, ty, p, af, none⟩ :: r) K s = (dstOk N d ∧ AOps P N tb r K (s.put d (s.ev x))) := by simp only [AOps, AOp, avOk, av, true_and]
theorem A_pick (c x y : Operand) : AOps P N tb (⟨d, .pick c x y, ty, p, af, none⟩ :: r) K s = (dstOk N d ∧ pickOk (s.ev c) ∧ AOps P N tb r K (s.put d (pickV (s.ev c) (s.ev x) (s.ev y)))) := rfl
theorem A_load (t : TypeId) (x : Operand) : AOps P N tb (⟨d, .load t x, ty, p, af, none⟩ :: r) K s = (dstOk N d ∧ loadOk (tyOf P t) s.h (s.ev x) ∧ AOps P N tb r K (s.put d (loadV (tyOf P t) s.h (s.ev x)))) := rfl
theorem A_fieldAddr (t : TypeId) (x : Operand) (f : Nat) : AOps P N tb (⟨d, .fieldAddr t x f, ty, p, af, none⟩ :: r) K s = (dstOk N d ∧ faddrOk (fldOf P t f) (s.ev x) ∧ AOps P N tb r K (s.put d (faddrV (fldOf P t f) (s.ev x)))) := rfl
theorem A_field (t : TypeId) (x : Operand) (f : Nat) : AOps P N tb (⟨d, .field t x f, ty, p, af, none⟩ :: r) K s = (dstOk N d ∧ fieldOk (fldOf P t f) (s.ev x) ∧ AOps P N tb r K (s.put d (fieldV (fldOf P t f) (s.ev x)))) := rfl
theorem A_indexAddr (t : TypeId) (x i : Operand) : AOps P N tb (⟨d, .indexAddr t x i, ty, p, af, none⟩ :: r) K s = (dstOk N d ∧ iaddrOk (elemOf P t) (arrOf P t) (s.ev x) (s.ev i) ∧ AOps P N tb r K (s.put d (iaddrV (elemOf P t) (arrOf P t) (s.ev x) (s.ev i)))) := rfl
theorem A_index (t : TypeId) (x i : Operand) : AOps P N tb (⟨d, .index t x i, ty, p, af, none⟩ :: r) K s = (dstOk N d ∧ indexOk P t (arrOf P t) (s.ev x) (s.ev i) ∧ AOps P N tb r K (s.put d (indexV (arrOf P t) (s.ev x) (s.ev i)))) := rfl
theorem A_extract (x : Operand) (i : Nat) : AOps P N tb (⟨d, .extract x i, ty, p, af, none⟩ :: r) K s = (dstOk N d ∧ extOk i (s.ev x) ∧ AOps P N tb r K (s.put d (extV i (s.ev x)))) := rfl
theorem A_binOp (op : BinOp) (t t' : TypeId) (x y : Operand) (hn : isNilV (s.ev y) = false) : AOps P N tb (⟨d, .binOp op t x y t', ty, p, af, none⟩ :: r) K s = (dstOk N d ∧ binOk (eqT P t) (P.underlying t) op (s.ev x) (s.ev y) ∧ AOps P N tb r K (s.put d (binV op (s.ev x) (s.ev y)))) := by
  simp only [AOps, AOp, hn]
  rfl
/-- Is a slice nil: both ways. -/
theorem A_isNil {op : BinOp} {t t' : TypeId} {x : Operand} (h : dstOk N d ∧ isEq op ∧ isSl (P.underlying t) ∧ nilOk (s.ev x)) (hK : ∀ b : Bool, (b = true → nilMay (s.ev x)) → AOps P N tb r K (s.put d (aggV op b))) :
    AOps P N tb (⟨d, .binOp op t x (.const (.slice none 0 0)) t', ty, p, af, none⟩ :: r) K s := ⟨h.1, h.2.1, h.2.2.1, h.2.2.2, hK⟩
/-- A call of a function that the model has itself. -/
theorem A_ext {f : Operand} {args : List Operand} {tys : Array TypeId} {g : FuncId} {rv : V} (hd : dstOk N d ∧ s.ev f = .k (.func (.func g) #[] #[])) (hs : SoundX P g (args.map s.ev) rv) (h : AOps P N tb r K (s.put d rv)) :
    AOps P N tb (⟨d, .call ⟨.value f, args.toArray, tys⟩, ty, p, af, none⟩ :: r) K s := ⟨hd.1, .inl ⟨g, rv, hd.2, hs, h⟩⟩
theorem A_unOp (op : UnOp) (t : TypeId) (x : Operand) : AOps P N tb (⟨d, .unOp op t x, ty, p, af, none⟩ :: r) K s = (dstOk N d ∧ unOk op (s.ev x) ∧ AOps P N tb r K (s.put d (unV (s.ev x)))) := rfl
theorem A_convert (t t' : TypeId) (x : Operand) : AOps P N tb (⟨d, .convert t t' x, ty, p, af, none⟩ :: r) K s = (dstOk N d ∧ ((P.underlying t).isSome = true ∧ convOk (P.underlying t') (s.ev x)) ∧ AOps P N tb r K (s.put d (convV (P.underlying t') (s.ev x)))) := rfl
theorem A_slice (t : TypeId) (x : Operand) (lo hi : Option Operand) : AOps P N tb (⟨d, .slice t x lo hi none, ty, p, af, none⟩ :: r) K s = (dstOk N d ∧ sliceOk (elemOf P t) (s.ev x) (lo.map s.ev) (hi.map s.ev) ∧ AOps P N tb r K (s.put d (sliceV (elemOf P t) (s.ev x) (lo.map s.ev) (hi.map s.ev)))) := by
  simp only [AOps, AOp, avOk, av, true_and]
theorem A_len (x : Operand) (t : TypeId) : AOps P N tb (⟨d, .call ⟨.builtin .len, #[x], #[t]⟩, ty, p, af, none⟩ :: r) K s = (dstOk N d ∧ lenOk (P.underlying t) (s.ev x) ∧ AOps P N tb r K (s.put d (lenV (s.ev x)))) := by
  apply propext
  constructor
  · rintro ⟨h1, ⟨_, h2⟩, h3⟩; exact ⟨h1, h2, h3⟩
  · rintro ⟨h1, h2, h3⟩; exact ⟨h1, ⟨⟨rfl, rfl, rfl⟩, h2⟩, h3⟩
theorem A_append (x y : Operand) (t : TypeId) : AOps P N tb (⟨d, .call ⟨.builtin .append, #[x, y], #[t, t]⟩, ty, p, af, none⟩ :: r) K s = (dstOk N d ∧ appOk P s t (s.ev x) (s.ev y) ∧ AOps P N tb r K (appS P s t (s.ev x) (s.ev y) d)) := by
  apply propext
  constructor
  · rintro ⟨h1, _, h2, h3⟩; exact ⟨h1, h2, h3⟩
  · rintro ⟨h1, h2, h3⟩; exact ⟨h1, ⟨rfl, rfl, rfl⟩, h2, h3⟩
theorem A_alloc (t : TypeId) : AOps P N tb (⟨d, .alloc t, ty, p, af, none⟩ :: r) K s = (dstOk N d ∧ (zeroV P t).isSome = true ∧ AOps P N tb r K (St.put ⟨s.sl, (s.nx, .cells (zeroD P t)) :: s.h, s.nx + 1⟩ d (.ptr s.nx 0))) := rfl
def isFlat (x : V) : Prop := ∃ n, x.flat n
theorem A_box (t : TypeId) (x : Operand) : AOps P N tb (⟨d, .box t x, ty, p, af, none⟩ :: r) K s = (dstOk N d ∧ isFlat (s.ev x) ∧ AOps P N tb r K (St.put ⟨s.sl, (s.nx, .cells (s.ev x).cells) :: s.h, s.nx + 1⟩ d (.ptr s.nx 0))) := rfl
theorem A_store (t : TypeId) (q x : Operand) : AOps P N tb (⟨d, .store t q x, ty, p, af, none⟩ :: r) K s = (dstOk N d ∧ storeOk (tyOf P t) s.h (s.ev x) (s.ev q) ∧ AOps P N tb r K (St.put ⟨s.sl, storeH s.h (s.ev x) (s.ev q), s.nx⟩ d .any)) := rfl
theorem A_build (t : TypeId) (ps : List (Nat × Operand)) : AOps P N tb (⟨d, .build t ps.toArray, ty, p, af, none⟩ :: r) K s = (dstOk N d ∧ ((plOf P t).isSome = true ∧ (zeroV P t).isSome = true) ∧ fillOk (plD P t) (zeroD P t) (ps.map fun p => (p.1, s.ev p.2)) ∧
    AOps P N tb r K (s.put d (.agg (fillR (plD P t) (zeroD P t) (ps.map fun p => (p.1, s.ev p.2)))))) := by
  apply propext
  constructor
  · rintro ⟨h1, h2, h3, h4, h5⟩; exact ⟨h1, ⟨h2, h3⟩, h4, h5⟩
  · rintro ⟨h1, ⟨h2, h3⟩, h4, h5⟩; exact ⟨h1, h2, h3, h4, h5⟩
def litOk (P : Program) (t : TypeId) (n : Nat) (ix : List Nat) (l : List V) : Prop :=
  (rowOf P t).isSome = true ∧ ix = List.range n ∧ (toDs l).isSome = true ∧ sizesOk (rowD P t).1 ((toDs l).getD []) ∧ n * (rowD P t).1 ≤ 16777216
theorem A_buildSlice (t : TypeId) (n : Nat) (ps : List (Nat × Operand)) : AOps P N tb (⟨d, .buildSlice t n ps.toArray, ty, p, af, none⟩ :: r) K s = (dstOk N d ∧ litOk P t n (ps.map (·.1)) (ps.map fun p => s.ev p.2) ∧
    AOps P N tb r K (St.put ⟨s.sl, s.h, s.nx + 1⟩ d (.full (rowD P t).1 ((toDs (ps.map fun p => s.ev p.2)).getD [])))) := by
  apply propext
  constructor
  · rintro ⟨h1, h2, h3, h4, h5, h6, h7⟩; exact ⟨h1, ⟨h2, h3, h4, h5, h6⟩, h7⟩
  · rintro ⟨h1, ⟨h2, h3, h4, h5, h6⟩, h7⟩; exact ⟨h1, h2, h3, h4, h5, h6, h7⟩
def Callable (P : Program) (g : FuncId) : Prop := (P.funcs[g]?.bind (·.body)).isSome = true ∧ P.funcs[g]?.map (·.name) ≠ some "runtime.NumGoroutine"
/-- A call by a contract. -/
theorem A_call {f : Operand} {args : List Operand} {tys : Array TypeId} {g : FuncId} {xs : List V} {pre : List Ob} {rv : V} {post : List Ob} {ids : List Nat} (hs : SoundH P g xs pre rv post) (hd : dstOk N d) (hf : s.ev f = .k (.func (.func g) #[] #[]))
    (hb : Callable P g) (hp : preOk s.h (sgm ids s.nx) pre.length s.nx s.nx ids pre) (hn : ids.Nodup) (hl : pre.length ≤ post.length) (ha : leArgs (sgm ids s.nx) pre.length (args.map s.ev) xs) (ht : noTup rv)
    (h : AOps P N tb r K (callS s ids pre post d rv)) : AOps P N tb (⟨d, .call ⟨.value f, args.toArray, tys⟩, ty, p, af, none⟩ :: r) K s :=
  ⟨hd, .inr ⟨g, xs, pre, rv, post, ids, hf, hb.1, hb.2, hs, hp, hn, hl, ha, ht, h⟩⟩
theorem A_nilCheck (x : Operand) : AOps P N tb (⟨d, .nilCheck x, ty, p, af, none⟩ :: r) K s = (dstOk N d ∧ nilCkOk (s.ev x) ∧ AOps P N tb r K (s.put d (nilCkV (s.ev x)))) := rfl
theorem A_min (x y : Operand) (ts : Array TypeId) : AOps P N tb (⟨d, .call ⟨.builtin .min, #[x, y], ts⟩, ty, p, af, none⟩ :: r) K s = (dstOk N d ∧ twoInts (s.ev x) (s.ev y) ∧ AOps P N tb r K (s.put d (minV (s.ev x) (s.ev y)))) := by
  apply propext
  constructor
  · rintro ⟨h1, ⟨_, h2⟩, h3⟩; exact ⟨h1, h2, h3⟩
  · rintro ⟨h1, h2, h3⟩; exact ⟨h1, ⟨rfl, h2⟩, h3⟩
theorem A_max (x y : Operand) (ts : Array TypeId) : AOps P N tb (⟨d, .call ⟨.builtin .max, #[x, y], ts⟩, ty, p, af, none⟩ :: r) K s = (dstOk N d ∧ twoInts (s.ev x) (s.ev y) ∧ AOps P N tb r K (s.put d (maxV (s.ev x) (s.ev y)))) := by
  apply propext
  constructor
  · rintro ⟨h1, ⟨_, h2⟩, h3⟩; exact ⟨h1, h2, h3⟩
  · rintro ⟨h1, h2, h3⟩; exact ⟨h1, ⟨rfl, h2⟩, h3⟩
theorem A_makeSlice (t : TypeId) (l c : Operand) : AOps P N tb (⟨d, .makeSlice t l c, ty, p, af, none⟩ :: r) K s = (dstOk N d ∧ mkOk P t (s.ev l) (s.ev c) ∧ AOps P N tb r K (St.put ⟨s.sl, (s.nx, .cells (zrow (natOf (s.ev l)) (elZD P t))) :: s.h, s.nx + 1⟩ d (.row s.nx 0 (natOf (s.ev l)) (rowD P t).1))) := rfl
theorem A_copy (x y : Operand) (t t' : TypeId) : AOps P N tb (⟨d, .call ⟨.builtin .copy, #[x, y], #[t, t']⟩, ty, p, af, none⟩ :: r) K s = (dstOk N d ∧ copyOk P t s.h (s.ev x) (s.ev y) ∧ AOps P N tb r K (St.put ⟨s.sl, copyH s.h (s.ev x) (s.ev y), s.nx⟩ d (copyN (s.ev x) (s.ev y)))) := by
  apply propext
  constructor
  · rintro ⟨h1, _, h2, h3⟩; exact ⟨h1, h2, h3⟩
  · rintro ⟨h1, h2, h3⟩; exact ⟨h1, ⟨rfl, rfl⟩, h2, h3⟩
/-- A guarded operation. -/
theorem A_guard_yes {op : Op} {j : Nat} {b : Bool} (hg : guardV s tb j = .d (.bool b)) : AOps P N tb (⟨d, op, ty, p, af, some (j, b)⟩ :: r) K s = AOps P N tb (⟨d, op, ty, p, af, none⟩ :: r) K s := by
  apply propext
  simp only [AOps, hg]
  constructor
  · rintro (⟨h1, _⟩ | ⟨t, h1, h2, _⟩)
    · cases h1
    injection h1 with h1
    injection h1 with h1
    exact h2 h1.symm
  · intro h
    exact .inr ⟨b, rfl, fun _ => h, fun hn => (hn rfl).elim⟩
theorem A_guard_no {op : Op} {j : Nat} {b : Bool} (hg : guardV s tb j = .d (.bool (!b))) : AOps P N tb (⟨d, op, ty, p, af, some (j, b)⟩ :: r) K s = (dstOk N d ∧ AOps P N tb r K (s.put d (.k undef))) := by
  apply propext
  simp only [AOps, hg]
  constructor
  · rintro (⟨h1, _⟩ | ⟨t, h1, _, h2⟩)
    · cases h1
    injection h1 with h1
    injection h1 with h1
    exact h2 (by rw [← h1]; cases b <;> simp)
  · intro h
    exact .inr ⟨!b, rfl, fun hn => by cases b <;> simp at hn, fun _ => h⟩
theorem A_guard_un {op : Op} {j : Nat} {b : Bool} (hg : guardV s tb j = .k undef) : AOps P N tb (⟨d, op, ty, p, af, some (j, b)⟩ :: r) K s = (dstOk N d ∧ AOps P N tb r K (s.put d (.k undef))) := by
  apply propext
  simp only [AOps, hg]
  constructor
  · rintro (⟨_, h1⟩ | ⟨t, h1, _⟩)
    · exact h1
    · cases h1
  · intro h
    exact .inl ⟨trivial, h⟩
/-- A guard that is not decided yet. -/
theorem A_split {t : Bool} {X : Prop} (h1 : t = true → X) (h2 : t = false → X) : X := by cases t <;> simp_all
end

theorem S_put (sl : List (Nat × V)) (h : Hp) (nx t : Nat) (x : V) : St.put ⟨sl, h, nx⟩ (some t) x = ⟨(t, x) :: sl, h, nx⟩ := rfl
theorem S_put0 (s : St) (x : V) : St.put s none x = s := rfl
theorem S_tmp (sl : List (Nat × V)) (h : Hp) (nx t : Nat) : St.ev ⟨sl, h, nx⟩ (.tmp t) = getS sl t := rfl
theorem S_const (s : St) (v : Value) : St.ev s (.const v) = V.ofK v := rfl
theorem S_func (s : St) (f : FuncId) : St.ev s (.func f) = .k (.func (.func f) #[] #[]) := rfl
theorem G_hit (i : Nat) (x : V) (r : List (Nat × V)) : getS ((i, x) :: r) i = x := by simp [getS]
theorem G_miss {i j : Nat} (h : (j = i) = False) (x : V) (r : List (Nat × V)) : getS ((i, x) :: r) j = getS r j := by simp [getS, h]
theorem G_nil (j : Nat) : getS [] j = .any := rfl
theorem H_hit (i : Nat) (o : Ob) (r : Hp) : Hp.get ((i, o) :: r) i = some o := by simp [Hp.get]
theorem H_miss {i j : Nat} (h : (j = i) = False) (o : Ob) (r : Hp) : Hp.get ((i, o) :: r) j = Hp.get r j := by simp [Hp.get, h]
theorem H_nil (j : Nat) : Hp.get [] j = none := rfl
theorem D_some (N t : Nat) : dstOk N (some t) = (t < N) := rfl
theorem D_none (N : Nat) : dstOk N none = True := rfl
theorem K_int (q : IntKind) (n : Int) : V.ofK (.int q n) = .d (.int q n) := rfl
theorem K_bool (b : Bool) : V.ofK (.bool b) = .d (.bool b) := rfl
theorem K_str (s : ByteArray) : V.ofK (.string s) = .d (.str s) := rfl
theorem K_nil : V.ofK (.slice none 0 0) = .k (.slice none 0 0) := rfl
theorem L_ptr (a : Bool) (n : Nat) (h : Hp) (id off : Nat) (l : List V) (hg : h.get id = some (.cells l)) : loadV (some (a, n)) h (.ptr id off) = partOf a n l off := by simp [loadV, hg]
theorem Lo_ptr (a : Bool) (n : Nat) (h : Hp) (id off : Nat) (l : List V) (hg : h.get id = some (.cells l)) : loadOk (some (a, n)) h (.ptr id off) = partOk a n l off := by simp [loadOk, hg]

end Go.Bv
