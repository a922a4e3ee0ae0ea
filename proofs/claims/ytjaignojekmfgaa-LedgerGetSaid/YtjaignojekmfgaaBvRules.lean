/-
  Part of a machine over pure data and objects that is sound for the model: what it says of a Go function holds of every call of that function. Conditions: those in each theorem. It speaks of any program.
-/
import Derived.Test.YtjaignojekmfgaaBvDraw4
namespace Go.Bv
open Go.RowKit

/-! ### Rules for the reckoning -/
def loadO (ty : Option (Bool × Nat)) (off : Nat) : Option Ob → V
  | some (.cells l) => match ty with
    | some (a, n) => partOf a n l off
    | none => .any
  | _ => .any
def loadOO (ty : Option (Bool × Nat)) (off : Nat) : Option Ob → Prop
  | some (.cells l) => match ty with
    | some (a, n) => partOk a n l off
    | none => False
  | _ => False
theorem r_loadV (ty : Option (Bool × Nat)) (h : Hp) (id off : Nat) : loadV ty h (.ptr id off) = loadO ty off (h.get id) := by
  cases hh : h.get id with
  | none => cases ty <;> simp [loadV, loadO, hh]
  | some o => cases o <;> cases ty <;> simp [loadV, loadO, hh]
theorem r_loadOk (ty : Option (Bool × Nat)) (h : Hp) (id off : Nat) : loadOk ty h (.ptr id off) = loadOO ty off (h.get id) := by
  cases hh : h.get id with
  | none => cases ty <;> simp [loadOk, loadOO, hh]
  | some o => cases o <;> cases ty <;> simp [loadOk, loadOO, hh]
def storeO (x : V) (n : Nat) (off : Nat) : Option Ob → Prop
  | some (.cells l) => x.flat n ∧ off + n ≤ l.length
  | _ => False
theorem r_storeOk (a : Bool) (n : Nat) (h : Hp) (x : V) (id off : Nat) : storeOk (some (a, n)) h x (.ptr id off) = storeO x n off (h.get id) := by
  cases hh : h.get id with
  | none => simp [storeOk, storeO, hh]
  | some o => cases o <;> simp [storeOk, storeO, hh]
def storeHO (h : Hp) (x : V) (id off : Nat) : Option Ob → Hp
  | some (.cells l) => (id, .cells (setAt l off x.cells)) :: h
  | _ => h
theorem r_storeH (h : Hp) (x : V) (id off : Nat) : storeH h x (.ptr id off) = storeHO h x id off (h.get id) := by
  cases hh : h.get id with
  | none => simp [storeH, storeHO, hh]
  | some o => cases o <;> simp [storeH, storeHO, hh]
def growO (tok nx : Nat) (l : List D) : Option Ob → Option (Nat × Nat × List D)
  | some (.tip t) => if t = l.length then some (tok, nx, l) else none
  | _ => none
theorem r_growOwn (sl : List (Nat × V)) (h : Hp) (nx tok sz : Nat) (l : List D) : growA ⟨sl, h, nx⟩ sz (.own tok sz l) = growO tok nx l (h.get tok) := by
  cases hh : h.get tok with
  | none => simp [growA, growO, hh]
  | some o => cases o <;> simp [growA, growO, hh]
theorem r_growO {t : Nat} {l : List D} (tok nx : Nat) (e : t = l.length) : growO tok nx l (some (.tip t)) = some (tok, nx, l) := by simp [growO, e]
theorem r_growFull (sl : List (Nat × V)) (h : Hp) (nx sz : Nat) (l : List D) : growA ⟨sl, h, nx⟩ sz (.full sz l) = some (nx, nx + 1, l) := by simp [growA]
theorem r_growNil (sl : List (Nat × V)) (h : Hp) (nx sz : Nat) : growA ⟨sl, h, nx⟩ sz (.k (.slice none 0 0)) = some (nx, nx + 1, []) := rfl
theorem r_elsD (sz : Nat) (l : List D) : V.elsD sz (.d (.slice sz l)) = l := by simp [V.elsD, V.els]
theorem r_elsO (t sz : Nat) (l : List D) : V.elsD sz (.own t sz l) = l := by simp [V.elsD, V.els]
theorem r_elsF (sz : Nat) (l : List D) : V.elsD sz (.full sz l) = l := by simp [V.elsD, V.els]
theorem r_elsN (sz : Nat) : V.elsD sz (.k (.slice none 0 0)) = [] := rfl
theorem r_isD (sz : Nat) (l : List D) : isEls sz (.d (.slice sz l)) = True := by simp [isEls, V.els]
theorem r_isO (t sz : Nat) (l : List D) : isEls sz (.own t sz l) = True := by simp [isEls, V.els]
theorem r_isF (sz : Nat) (l : List D) : isEls sz (.full sz l) = True := by simp [isEls, V.els]
theorem r_isN (sz : Nat) : isEls sz (.k (.slice none 0 0)) = True := by simp [isEls, V.els]
theorem r_sameK (op : BinOp) (k : IntKind) : sameK op k k = True := by cases op <;> simp [sameK]
theorem r_pickB (t p q : Bool) : pickV (.d (.bool t)) (.d (.bool p)) (.d (.bool q)) = .d (.bool (bif t then p else q)) := rfl
theorem r_pickOk (t : Bool) : pickOk (.d (.bool t)) = True := by simp [pickOk, boolOf]
def bnd (d : Nat) (o : Option V) : Nat := ((boundA d o).getD 0).toNat
theorem r_sliceD (g : Bool) (sz : Nat) (l : List D) (lo hi : Option V) : sliceV (some (g, sz)) (.d (.slice sz l)) lo hi = .d (.slice sz ((l.take (bnd l.length hi)).drop (bnd 0 lo))) := by
  simp only [sliceV, sliceDV, r_elsD, bnd]
theorem r_sliceO (g : Bool) (t sz : Nat) (l : List D) (lo hi : Option V) : sliceV (some (g, sz)) (.own t sz l) lo hi = .d (.slice sz ((l.take (bnd l.length hi)).drop (bnd 0 lo))) := by
  simp only [sliceV, sliceDV, r_elsO, bnd]
theorem r_sliceF (g : Bool) (sz : Nat) (l : List D) (lo : Option V) (hi : V) : sliceV (some (g, sz)) (.full sz l) lo (some hi) = .d (.slice sz ((l.take (bnd l.length (some hi))).drop (bnd 0 lo))) := by
  simp only [sliceV, sliceDV, r_elsF, bnd]
theorem r_sliceFn (g : Bool) (sz : Nat) (l : List D) (lo : Option V) : sliceV (some (g, sz)) (.full sz l) lo none = .full sz (l.drop (bnd 0 lo)) := rfl
theorem r_bnd0 (d : Nat) : bnd d none = d := by simp [bnd, boundA]
theorem r_bnd1 (d : Nat) (q : IntKind) (n : Int) : bnd d (some (.d (.int q n))) = n.toNat := by simp [bnd, boundA]
theorem r_bA0 (d : Nat) : (boundA d none).getD 0 = (d : Int) := rfl
theorem r_bA1 (d : Nat) (q : IntKind) (n : Int) : (boundA d (some (.d (.int q n)))).getD 0 = n := rfl
theorem r_toDs0 : toDs [] = some [] := rfl
theorem r_toDs1 (x : V) (l : List V) : toDs (x :: l) = (x.toD).bind fun d => (toDs l).bind fun ds => some (d :: ds) := by
  simp only [toDs, List.mapM_cons]; rfl
def toD1s (l : List V) : Option (List D) := l.mapM V.toD1
theorem r_toDagg (l : List V) : V.toD (.agg l) = (toD1s l).map .agg := rfl
theorem r_toD1s0 : toD1s [] = some [] := rfl
theorem r_toD1s1 (x : V) (l : List V) : toD1s (x :: l) = (x.toD1).bind fun d => (toD1s l).bind fun ds => some (d :: ds) := by
  simp only [toD1s, List.mapM_cons]; rfl
theorem r_guard (s : St) (tb : List (Option Nat)) (j : Nat) : guardV s tb j = (match tb[j]? with | some (some t) => getS s.sl t | _ => .any) := rfl
theorem r_flatAgg (l : List V) (n : Nat) : V.flat (.agg l) n = (l.length = n ∧ ∀ c ∈ l, c.one = true) := rfl
theorem r_flatD (x : D) (n : Nat) : V.flat (.d x) n = (1 = n ∧ x.one = true) := by simp [V.flat, V.cells, V.one]
theorem r_flatP (i o n : Nat) : V.flat (.ptr i o) n = (1 = n) := by simp [V.flat, V.cells, V.one]
theorem r_flatO (t s : Nat) (l : List D) (n : Nat) : V.flat (.own t s l) n = (1 = n) := by simp [V.flat, V.cells, V.one]
theorem r_flatF (s : Nat) (l : List D) (n : Nat) : V.flat (.full s l) n = (1 = n) := by simp [V.flat, V.cells, V.one]
theorem r_flatK (v : Value) (n : Nat) : V.flat (.k v) n = (1 = n ∧ v.oneCell' = true) := by simp [V.flat, V.cells, V.one]
theorem r_isFlatAgg (l : List V) : isFlat (.agg l) = ∀ c ∈ l, c.one = true := by
  apply propext
  constructor
  · rintro ⟨n, h1, h2⟩; exact h2
  · intro h; exact ⟨_, rfl, h⟩
theorem le_refl1 (x : V) : le1 x x = True := by simp [le1_refl]
theorem leL_refl (l : List V) (h : ∀ x ∈ l, x.one = true) : leL l l := by
  induction l with
  | nil => trivial
  | cons x l ih => exact ⟨⟨le1_refl x, h x (by simp)⟩, ih (fun y hy => h y (by simp [hy]))⟩
theorem le_d (x : D) : le (.d x) (.d x) = True := by simp [le, le0, le1_refl]
theorem le_k (x : Value) : le (.k x) (.k x) = True := by simp [le, le0, le1_refl]
theorem le_ptr (i o : Nat) : le (.ptr i o) (.ptr i o) = True := by simp [le, le0, le1_refl]
theorem le_ro (l : List D) : le (.ro l) (.ro l) = True := by simp [le, le0, le1_refl]
theorem le_own (t s : Nat) (l : List D) : le (.own t s l) (.own t s l) = True := by simp [le, le0, le1_refl]
theorem le_full (s : Nat) (l : List D) : le (.full s l) (.full s l) = True := by simp [le, le0, le1_refl]
theorem le_any (x : V) : le x .any = True := by cases x <;> simp [le, le0, le1]
theorem le_ownD (t s s' : Nat) (l l' : List D) : le (.own t s l) (.d (.slice s' l')) = (s = s' ∧ l = l') := rfl
theorem le_fullD (s s' : Nat) (l l' : List D) : le (.full s l) (.d (.slice s' l')) = (s = s' ∧ l = l') := rfl
theorem le_kD (s : Nat) (l : List D) : le (.k (.slice none 0 0)) (.d (.slice s l)) = (l = []) := rfl
theorem le_kF (s : Nat) (l : List D) : le (.k (.slice none 0 0)) (.full s l) = (l = []) := rfl
theorem le_agg (l l' : List V) : le (.agg l) (.agg l') = leL l l' := rfl
theorem le_tup (l l' : List V) : le (.tup l) (.tup l') = leT l l' := rfl
theorem le_dd (x y : D) : le (.d x) (.d y) = (x = y) := by cases x <;> cases y <;> simp [le, le0, le1]
theorem leT_cons (x y : V) (l l' : List V) : leT (x :: l) (y :: l') = (le0 x y ∧ leT l l') := rfl
theorem leT_nil : leT [] [] = True := rfl
theorem leL_cons (x y : V) (l l' : List V) : leL (x :: l) (y :: l') = ((le1 x y ∧ y.one = true) ∧ leL l l') := rfl
theorem leL_nil : leL [] [] = True := rfl
theorem le0_agg (l l' : List V) : le0 (.agg l) (.agg l') = leL l l' := rfl
theorem le1_dd (x y : D) : le1 (.d x) (.d y) = (x = y) := by cases x <;> cases y <;> simp [le1]
theorem le0_of1 (x y : V) (h : ∀ l l', x = .agg l → y ≠ .agg l') : le0 x y = le1 x y := by
  unfold le0
  split
  · rename_i l l'; exact (h l l' rfl rfl).elim
  · rfl
theorem le0_dd (x y : D) : le0 (.d x) (.d y) = (x = y) := le1_dd x y
theorem le0_kD (s : Nat) (l : List D) : le0 (.k (.slice none 0 0)) (.d (.slice s l)) = (l = []) := rfl
theorem le0_kF (s : Nat) (l : List D) : le0 (.k (.slice none 0 0)) (.full s l) = (l = []) := rfl
theorem le0_ownD (t s s' : Nat) (l l' : List D) : le0 (.own t s l) (.d (.slice s' l')) = (s = s' ∧ l = l') := rfl
theorem le0_fullD (s s' : Nat) (l l' : List D) : le0 (.full s l) (.d (.slice s' l')) = (s = s' ∧ l = l') := rfl
theorem le1_ownD (t s s' : Nat) (l l' : List D) : le1 (.own t s l) (.d (.slice s' l')) = (s = s' ∧ l = l') := rfl
theorem le1_fullD (s s' : Nat) (l l' : List D) : le1 (.full s l) (.d (.slice s' l')) = (s = s' ∧ l = l') := rfl
theorem le1_kD (s : Nat) (l : List D) : le1 (.k (.slice none 0 0)) (.d (.slice s l)) = (l = []) := rfl
theorem le1_kF (s : Nat) (l : List D) : le1 (.k (.slice none 0 0)) (.full s l) = (l = []) := rfl
theorem le1_own (t t' s s' : Nat) (l l' : List D) : le1 (.own t s l) (.own t' s' l') = (t = t' ∧ s = s' ∧ l = l') := by
  simp [le1]
theorem le0_own (t t' s s' : Nat) (l l' : List D) : le0 (.own t s l) (.own t' s' l') = (t = t' ∧ s = s' ∧ l = l') := le1_own t t' s s' l l'
theorem le_own' (t t' s s' : Nat) (l l' : List D) : le (.own t s l) (.own t' s' l') = (t = t' ∧ s = s' ∧ l = l') := le1_own t t' s s' l l'
theorem le1_full (s s' : Nat) (l l' : List D) : le1 (.full s l) (.full s' l') = (s = s' ∧ l = l') := by
  simp [le1]
theorem le0_full (s s' : Nat) (l l' : List D) : le0 (.full s l) (.full s' l') = (s = s' ∧ l = l') := le1_full s s' l l'
theorem le_ptr' (i i' o o' : Nat) : le (.ptr i o) (.ptr i' o') = (i = i' ∧ o = o') := by
  simp [le, le0, le1]
theorem leA_cons (σ : Nat → Nat) (m : Nat) (x y : V) (l l' : List V) : leArgs σ m (x :: l) (y :: l') = ((le x (ren σ y) ∧ ok m y) ∧ leArgs σ m l l') := rfl
theorem leA_nil (σ : Nat → Nat) (m : Nat) : leArgs σ m [] [] = True := rfl
theorem ok_d (n : Nat) (x : D) : ok n (.d x) = True := rfl
theorem ok_k (n : Nat) (x : Value) : ok n (.k x) = True := rfl
theorem ok_full (n s : Nat) (l : List D) : ok n (.full s l) = True := rfl
theorem ok_ro (n : Nat) (l : List D) : ok n (.ro l) = True := rfl
theorem ok_any (n : Nat) : ok n .any = True := rfl
theorem ok_own (n t s : Nat) (l : List D) : ok n (.own t s l) = (t < n) := rfl
theorem ok_ptr (n i o : Nat) : ok n (.ptr i o) = (i < n) := rfl
theorem ok_agg (n : Nat) (l : List V) : ok n (.agg l) = okL n l := rfl
theorem ok_tup (n : Nat) (l : List V) : ok n (.tup l) = okT n l := rfl
theorem okL_cons (n : Nat) (x : V) (l : List V) : okL n (x :: l) = (ok1 n x ∧ okL n l) := rfl
theorem okL_nil (n : Nat) : okL n [] = True := rfl
theorem okT_cons (n : Nat) (x : V) (l : List V) : okT n (x :: l) = (ok0 n x ∧ okT n l) := rfl
theorem okT_nil (n : Nat) : okT n [] = True := rfl

end Go.Bv
