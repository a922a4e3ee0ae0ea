/-
  Part of a machine over pure data and objects that is sound for the model: what it says of a Go function holds of every call of that function. Conditions: those in each theorem. It speaks of any program.
-/
import Derived.Test.YtjaignojekmfgaaBvEq
namespace Go.Bv
open Go.RowKit

/-! ### The value of an operation that leaves the world alone, and when it has one -/

def partOk (a : Bool) (n : Nat) (l : List V) (off : Nat) : Prop := match a with
  | true => off + n ≤ l.length
  | false => off < l.length
def partOf (a : Bool) (n : Nat) (l : List V) (off : Nat) : V := match a with
  | true => .agg ((l.drop off).take n)
  | false => (l[off]?).getD .any

def boolOf : V → Option Bool
  | .d (.bool b) => some b
  | _ => none
def pick2 (t : Bool) (a b : V) : Option Bool → Option Bool → V
  | some p, some q => .d (.bool (bif t then p else q))
  | _, _ => match t with
    | true => a
    | false => b
def pickV (c a b : V) : V := match boolOf c with
  | some t => pick2 t a b (boolOf a) (boolOf b)
  | none => .any
def pickOk (c : V) : Prop := (boolOf c).isSome = true
theorem boolOf_some {x : V} {b : Bool} (h : boolOf x = some b) : x = .d (.bool b) := by
  unfold boolOf at h
  split at h
  · injection h with h; subst h; rfl
  · cases h
theorem pickV_true (a b : V) : pickV (.d (.bool true)) a b = a := by
  show pick2 true a b (boolOf a) (boolOf b) = a
  cases ha : boolOf a with
  | none => rfl
  | some p =>
    cases hb : boolOf b with
    | none => rfl
    | some q => rw [boolOf_some ha]; rfl
theorem pickV_false (a b : V) : pickV (.d (.bool false)) a b = b := by
  show pick2 false a b (boolOf a) (boolOf b) = b
  cases ha : boolOf a with
  | none => rfl
  | some p =>
    cases hb : boolOf b with
    | none => rfl
    | some q => rw [boolOf_some hb]; rfl

def loadV (ty : Option (Bool × Nat)) (h : Hp) : V → V
  | .ptr id off => match ty, h.get id with
    | some (a, n), some (.cells l) => partOf a n l off
    | _, _ => .any
  | .ro l => match ty with
    | some (a, n) => partOf a n (l.map .d) 0
    | none => .any
  | _ => .any
def loadOk (ty : Option (Bool × Nat)) (h : Hp) : V → Prop
  | .ptr id off => match ty, h.get id with
    | some (a, n), some (.cells l) => partOk a n l off
    | _, _ => False
  | .ro l => match ty with
    | some (a, n) => partOk a n (l.map .d) 0
    | none => False
  | _ => False

def faddrV (fl : Option (Nat × Bool × Nat)) : V → V
  | .ptr id off => match fl with
    | some (o, _, _) => .ptr id (off + o)
    | none => .any
  | .ro l => match fl with
    | some (o, _, _) => .ro (l.drop o)
    | none => .any
  | _ => .any
def faddrOk (fl : Option (Nat × Bool × Nat)) : V → Prop
  | .ptr _ _ => match fl with
    | some _ => True
    | none => False
  | .ro _ => match fl with
    | some _ => True
    | none => False
  | _ => False

def fieldV (fl : Option (Nat × Bool × Nat)) : V → V
  | .agg l => match fl with
    | some (o, a, n) => partOf a n l o
    | none => .any
  | _ => .any
def fieldOk (fl : Option (Nat × Bool × Nat)) : V → Prop
  | .agg l => match fl with
    | some (o, a, n) => partOk a n l o
    | none => False
  | _ => False

def V.elsD (sz : Nat) (x : V) : List D := (x.els sz).getD []
def isEls (sz : Nat) (x : V) : Prop := (x.els sz).isSome = true
def elt (l : List D) (n : Nat) : D := (l[n]?).getD (.agg [])

def iaddrDV (el : Option (Bool × Nat)) (ar : Option (Nat × Bool × Nat)) (x : V) : V → V
  | .d (.int _ i) => match el with
    | some (_, sz) => .ro (elt (x.elsD sz) i.toNat).cells
    | none => match ar with
      | some (_, _, sz) => match x with
        | .ptr id off => .ptr id (off + i.toNat * sz)
        | .ro l => .ro (l.drop (i.toNat * sz))
        | _ => .any
      | none => .any
  | _ => .any
def iaddrDOk (el : Option (Bool × Nat)) (ar : Option (Nat × Bool × Nat)) (x : V) : V → Prop
  | .d (.int _ i) => match el with
    | some (_, sz) => isEls sz x ∧ 0 ≤ i ∧ i < ((x.elsD sz).length : Int)
    | none => match ar with
      | some (n, _, _) => match x with
        | .ptr _ _ => 0 ≤ i ∧ i < (n : Int)
        | .ro _ => 0 ≤ i ∧ i < (n : Int)
        | _ => False
      | none => False
  | _ => False

/-- An element of a row that may be written. -/
def rowIx (id off sz : Nat) : V → V
  | .d (.int _ i) => .ptr id (off + i.toNat * sz)
  | _ => .any
def elSz (sz : Nat) : Option (Bool × Nat) → Prop
  | some (_, s) => s = sz
  | none => False
def rowIxOk (el : Option (Bool × Nat)) (len sz : Nat) : V → Prop
  | .d (.int _ i) => elSz sz el ∧ 0 ≤ i ∧ i < (len : Int)
  | _ => False
def iaddrV (el : Option (Bool × Nat)) (ar : Option (Nat × Bool × Nat)) : V → V → V
  | .row id off _ sz, i => rowIx id off sz i
  | x, i => iaddrDV el ar x i
def iaddrOk (el : Option (Bool × Nat)) (ar : Option (Nat × Bool × Nat)) : V → V → Prop
  | .row _ _ len sz, i => rowIxOk el len sz i
  | x, i => iaddrDOk el ar x i

def indexV (ar : Option (Nat × Bool × Nat)) : V → V → V
  | .agg l, .d (.int _ i) => match ar with
    | some (_, a, sz) => partOf a sz l (i.toNat * sz)
    | none => .any
  | .d (.str s), .d (.int _ i) => .d (.int .u8 (((s[i.toNat]?).getD 0).toNat))
  | _, _ => .any
def indexOk (P : Program) (t : TypeId) (ar : Option (Nat × Bool × Nat)) : V → V → Prop
  | .agg l, .d (.int _ i) => match ar with
    | some (n, a, sz) => 0 ≤ i ∧ i < (n : Int) ∧ partOk a sz l (i.toNat * sz)
    | none => False
  | .d (.str s), .d (.int _ i) => arrOf P t = none ∧ P.underlying t = some .string ∧ 0 ≤ i ∧ i < (s.size : Int)
  | _, _ => False

def extV (i : Nat) : V → V
  | .tup l => (l[i]?).getD .any
  | _ => .any
def extOk (i : Nat) : V → Prop
  | .tup l => i < l.length
  | _ => False

def lenV : V → V
  | .d (.str s) => .d (.int .i64 s.size)
  | .d (.slice _ l) => .d (.int .i64 l.length)
  | .own _ _ l => .d (.int .i64 l.length)
  | .full _ l => .d (.int .i64 l.length)
  | .k (.slice none 0 0) => .d (.int .i64 0)
  | .row _ _ len _ => .d (.int .i64 len)
  | _ => .any
def isStrT : Option TypeDesc → Prop
  | some .string => True
  | _ => False
def isSliceT : Option TypeDesc → Prop
  | some (.slice _) => True
  | _ => False
def lenOk (d : Option TypeDesc) : V → Prop
  | .d (.str _) => isStrT d
  | .d (.slice _ _) => isSliceT d
  | .own _ _ _ => isSliceT d
  | .full _ _ => isSliceT d
  | .k (.slice none 0 0) => isSliceT d
  | .row _ _ _ _ => isSliceT d
  | _ => False

def intV (op : BinOp) (k : IntKind) (a b : Int) : V :=
  match op with
  | .add => .d (.int k (k.wrap (a + b)))
  | .sub => .d (.int k (k.wrap (a - b)))
  | .mul => .d (.int k (k.wrap (a * b)))
  | .quo => .d (.int k (k.wrap (a.tdiv b)))
  | .rem => .d (.int k (a.tmod b))
  | .and => .d (.int k (k.wrap (BitVec.ofInt k.bits a &&& BitVec.ofInt k.bits b).toNat))
  | .or => .d (.int k (k.wrap (BitVec.ofInt k.bits a ||| BitVec.ofInt k.bits b).toNat))
  | .xor => .d (.int k (k.wrap (BitVec.ofInt k.bits a ^^^ BitVec.ofInt k.bits b).toNat))
  | .andNot => .d (.int k (k.wrap (BitVec.ofInt k.bits a &&& ~~~BitVec.ofInt k.bits b).toNat))
  | .eql => .d (.bool (a == b))
  | .neq => .d (.bool (a != b))
  | .lss => .d (.bool (decide (a < b)))
  | .leq => .d (.bool (decide (a ≤ b)))
  | .gtr => .d (.bool (decide (b < a)))
  | .geq => .d (.bool (decide (b ≤ a)))
  | .shl => .d (.int k (k.wrap (a * 2 ^ min b.toNat k.bits)))
  | .shr => .d (.int k (a.fdiv (2 ^ min b.toNat k.bits)))
def intOk (op : BinOp) (b : Int) : Prop :=
  match op with
  | .quo => b ≠ 0
  | .rem => b ≠ 0
  | .shl => 0 ≤ b
  | .shr => 0 ≤ b
  | _ => True
def aggV (op : BinOp) (b : Bool) : V := match op with
  | .eql => .d (.bool b)
  | .neq => .d (.bool (!b))
  | _ => .any
def binV (op : BinOp) : V → V → V
  | .d (.int k a), .d (.int _ b) => intV op k a b
  | .agg l, .agg m => aggV op (eqL l m)
  | .d (.bool a), .d (.bool b) => aggV op (a == b)
  | .d (.str a), .d (.str b) => aggV op (a.toList == b.toList)
  | .ptr _ _, .k (.pointer none) => aggV op false
  | .ro _, .k (.pointer none) => aggV op false
  | .k (.pointer none), .k (.pointer none) => aggV op true
  | .mp _, .k (.map none) => aggV op false
  | .k (.map none), .k (.map none) => aggV op true
  | _, _ => .any
def sameK (op : BinOp) (k k' : IntKind) : Prop :=
  match op with
  | .shl => True
  | .shr => True
  | _ => k = k'
def eqTO (et : Option (List TypeDesc)) (l m : List V) : Prop := match et with
  | some ts => eqLOk ts l m
  | none => False
def isEq : BinOp → Prop
  | .eql => True
  | .neq => True
  | _ => False
def isBoolT : Option TypeDesc → Prop
  | some .bool => True
  | _ => False
def isPtrT : Option TypeDesc → Prop
  | some (.pointer _) => True
  | _ => False
def isMapT : Option TypeDesc → Prop
  | some (.map _ _) => True
  | _ => False
def binOk (et : Option (List TypeDesc)) (ud : Option TypeDesc) (op : BinOp) : V → V → Prop
  | .d (.int k _), .d (.int k' b) => sameK op k k' ∧ intOk op b
  | .agg l, .agg m => isEq op ∧ eqTO et l m
  | .d (.bool _), .d (.bool _) => isEq op ∧ isBoolT ud
  | .d (.str _), .d (.str _) => isEq op
  | .ptr _ _, .k (.pointer none) => isEq op ∧ isPtrT ud
  | .ro _, .k (.pointer none) => isEq op ∧ isPtrT ud
  | .k (.pointer none), .k (.pointer none) => isEq op ∧ isPtrT ud
  | .mp _, .k (.map none) => isEq op ∧ isMapT ud
  | .k (.map none), .k (.map none) => isEq op ∧ isMapT ud
  | _, _ => False
def nilCkV : V → V
  | .ptr id off => .ptr id off
  | .ro l => .ro l
  | _ => .any
def nilCkOk : V → Prop
  | .ptr _ _ => True
  | .ro _ => True
  | _ => False
def minV : V → V → V
  | .d (.int k a), .d (.int _ b) => .d (.int k (if b < a then b else a))
  | _, _ => .any
def maxV : V → V → V
  | .d (.int k a), .d (.int _ b) => .d (.int k (if a < b then b else a))
  | _, _ => .any
def twoInts : V → V → Prop
  | .d (.int _ _), .d (.int _ _) => True
  | _, _ => False
def callV (ev : Operand → V) (c : Call) : V := match c.callee with
  | .builtin .min => minV (ev (c.args.getD 0 (.const .nilIface))) (ev (c.args.getD 1 (.const .nilIface)))
  | .builtin .max => maxV (ev (c.args.getD 0 (.const .nilIface))) (ev (c.args.getD 1 (.const .nilIface)))
  | _ => lenV (ev (c.args.getD 0 (.const .nilIface)))
def callVOk (P : Program) (ev : Operand → V) (c : Call) : Prop := match c.callee with
  | .builtin .min => c.args.size = 2 ∧ twoInts (ev (c.args.getD 0 (.const .nilIface))) (ev (c.args.getD 1 (.const .nilIface)))
  | .builtin .max => c.args.size = 2 ∧ twoInts (ev (c.args.getD 0 (.const .nilIface))) (ev (c.args.getD 1 (.const .nilIface)))
  | _ => (c.callee = .builtin .len ∧ c.args.size = 1 ∧ c.argTypes.size = 1) ∧ lenOk (P.underlying (c.argTypes.getD 0 0)) (ev (c.args.getD 0 (.const .nilIface)))

def unV : V → V
  | .d (.bool b) => .d (.bool (!b))
  | .d (.int k n) => .d (.int k (k.wrap (0 - n)))
  | _ => .any
def unOk : UnOp → V → Prop
  | op, .d (.bool _) => op = .not
  | op, .d (.int _ _) => op = .neg
  | _, _ => False

def convV (d : Option TypeDesc) : V → V
  | .d (.int _ n) => match d with
    | some (.int k) => .d (.int k (k.wrap n))
    | _ => .any
  | _ => .any
def convOk (d : Option TypeDesc) : V → Prop
  | .d (.int _ _) => match d with
    | some (.int _) => True
    | _ => False
  | _ => False

def sliceDV (el : Option (Bool × Nat)) (x : V) (lo hi : Option V) : V :=
  match el with
  | some (_, sz) => match x, hi with
    | .full _ l, none => .full sz (l.drop ((boundA 0 lo).getD 0).toNat)
    | .k v, _ => .k v
    | x, hi => .d (.slice sz (((x.elsD sz).take ((boundA (x.elsD sz).length hi).getD 0).toNat).drop ((boundA 0 lo).getD 0).toNat))
  | none => .any
def isBnd : Option V → Prop
  | none => True
  | some (.d (.int _ _)) => True
  | some _ => False
def sliceDOk (el : Option (Bool × Nat)) (x : V) (lo hi : Option V) : Prop :=
  match el with
  | some (_, sz) => isEls sz x ∧ isBnd lo ∧ isBnd hi ∧ 0 ≤ (boundA 0 lo).getD 0 ∧ (boundA 0 lo).getD 0 ≤ (boundA (x.elsD sz).length hi).getD 0 ∧ (boundA (x.elsD sz).length hi).getD 0 ≤ ((x.elsD sz).length : Int)
  | none => False

def sliceV (el : Option (Bool × Nat)) (x : V) (lo hi : Option V) : V := match x with
  | .row id off len sz => .row id (off + ((boundA 0 lo).getD 0).toNat * sz) (((boundA len hi).getD 0).toNat - ((boundA 0 lo).getD 0).toNat) sz
  | x => sliceDV el x lo hi
def sliceOk (el : Option (Bool × Nat)) (x : V) (lo hi : Option V) : Prop := match x with
  | .row _ _ len sz => elSz sz el ∧ isBnd lo ∧ isBnd hi ∧ 0 ≤ (boundA 0 lo).getD 0 ∧ (boundA 0 lo).getD 0 ≤ (boundA len hi).getD 0 ∧ (boundA len hi).getD 0 ≤ (len : Int)
  | x => sliceDOk el x lo hi

theorem part_iff {K : V → Prop} {a : Bool} {n : Nat} {l : List V} {off : Nat} (ho : partOk a n l off) (hk : K (partOf a n l off)) : partV K a n l off := by
  unfold partV
  cases a with
  | true => exact ⟨ho, hk⟩
  | false =>
    simp only [partOk] at ho
    simp only [partOf] at hk
    simp only [Bool.false_eq_true, if_false]
    rw [List.getElem?_eq_getElem ho] at hk ⊢
    exact hk

theorem load_iff {K : V → Prop} {ty : Option (Bool × Nat)} {h : Hp} {x : V} (ho : loadOk ty h x) (hk : K (loadV ty h x)) : loadA K ty h x := by
  cases x with
  | ptr id off =>
    simp only [loadOk, loadV, loadA] at *
    rcases ty with _ | ⟨a, n⟩
    · exact ho.elim
    · cases hg : h.get id with
      | none => simp only [hg] at ho
      | some ob => cases ob with
        | cells l => simp only [hg] at ho hk ⊢; exact part_iff ho hk
        | _ => simp only [hg] at ho
  | ro l =>
    simp only [loadOk, loadV, loadA] at *
    rcases ty with _ | ⟨a, n⟩
    · exact ho.elim
    · exact part_iff ho hk
  | _ => exact ho.elim

theorem faddr_iff {K : V → Prop} {fl : Option (Nat × Bool × Nat)} {x : V} (ho : faddrOk fl x) (hk : K (faddrV fl x)) : faddrA K fl x := by
  cases x with
  | ptr id off => rcases fl with _ | ⟨o, a, n⟩ <;> first | exact ho.elim | exact hk
  | ro l => rcases fl with _ | ⟨o, a, n⟩ <;> first | exact ho.elim | exact hk
  | _ => exact ho.elim
theorem field_iff {K : V → Prop} {fl : Option (Nat × Bool × Nat)} {x : V} (ho : fieldOk fl x) (hk : K (fieldV fl x)) : fieldA K fl x := by
  cases x with
  | agg l => rcases fl with _ | ⟨o, a, n⟩ <;> first | exact ho.elim | exact part_iff ho hk
  | _ => exact ho.elim
theorem iaddr_iff {K : V → Prop} {el : Option (Bool × Nat)} {ar : Option (Nat × Bool × Nat)} {x i : V} (ho : iaddrDOk el ar x i) (hk : K (iaddrDV el ar x i)) : iaddrA K el ar x i := by
  cases i with
  | d i => cases i with
    | int q i =>
      rcases el with _ | ⟨g, sz⟩
      · rcases ar with _ | ⟨n, g, sz⟩
        · exact ho.elim
        · cases x with
          | ptr id off => exact ⟨ho.1, ho.2, hk⟩
          | ro l => exact ⟨ho.1, ho.2, hk⟩
          | _ => exact ho.elim
      · simp only [iaddrDOk, iaddrDV, iaddrA, isEls, V.elsD] at *
        obtain ⟨l, hl⟩ := Option.isSome_iff_exists.1 ho.1
        simp only [hl, Option.getD_some] at ho hk ⊢
        have hlt : i.toNat < l.length := by omega
        refine ⟨ho.2.1, _, List.getElem?_eq_getElem hlt, ?_⟩
        simpa [elt, hlt] using hk
    | _ => exact ho.elim
  | _ => exact ho.elim

/-- The operations that leave the world alone: the value. -/
def av (P : Program) (h : Hp) (ev : Operand → V) : Op → V
  | .move x => ev x
  | .assign x => ev x
  | .pick c a b => pickV (ev c) (ev a) (ev b)
  | .load t a => loadV (tyOf P t) h (ev a)
  | .fieldAddr t x f => faddrV (fldOf P t f) (ev x)
  | .field t x f => fieldV (fldOf P t f) (ev x)
  | .indexAddr t x i => iaddrV (elemOf P t) (arrOf P t) (ev x) (ev i)
  | .index t x i => indexV (arrOf P t) (ev x) (ev i)
  | .extract x i => extV i (ev x)
  | .binOp op _ x y _ => binV op (ev x) (ev y)
  | .unOp _ _ x => unV (ev x)
  | .convert _ d x => convV (P.underlying d) (ev x)
  | .slice t x lo hi _ => sliceV (elemOf P t) (ev x) (lo.map ev) (hi.map ev)
  | .call c => callV ev c
  | .nilCheck x => nilCkV (ev x)
  | _ => .any
def avOk (P : Program) (h : Hp) (ev : Operand → V) : Op → Prop
  | .move _ => True
  | .assign _ => True
  | .pick c _ _ => pickOk (ev c)
  | .load t a => loadOk (tyOf P t) h (ev a)
  | .fieldAddr t x f => faddrOk (fldOf P t f) (ev x)
  | .field t x f => fieldOk (fldOf P t f) (ev x)
  | .indexAddr t x i => iaddrOk (elemOf P t) (arrOf P t) (ev x) (ev i)
  | .index t x i => indexOk P t (arrOf P t) (ev x) (ev i)
  | .extract x i => extOk i (ev x)
  | .binOp op t x y _ => binOk (eqT P t) (P.underlying t) op (ev x) (ev y)
  | .unOp op _ x => unOk op (ev x)
  | .convert s d x => (P.underlying s).isSome = true ∧ convOk (P.underlying d) (ev x)
  | .slice t x lo hi mx => mx = none ∧ sliceOk (elemOf P t) (ev x) (lo.map ev) (hi.map ev)
  | .call c => callVOk P ev c
  | .nilCheck x => nilCkOk (ev x)
  | _ => False

section
variable {P : Program} {G : Gh} {w : World} {h : Hp} {nx : Nat}

theorem RepV.bool_inv {v : Value} {t : Bool} (hv : RepV G w h nx v (.d (.bool t))) : v = .bool t := by
  generalize hx : V.d (.bool t) = x at hv
  cases hv <;> first | cases hx | skip
  rename_i hd
  cases hd
  rfl
theorem RepV.int_inv {v : Value} {k : IntKind} {n : Int} (hv : RepV G w h nx v (.d (.int k n))) : v = .int k n := by
  generalize hx : V.d (.int k n) = x at hv
  cases hv <;> first | cases hx | skip
  rename_i hd
  cases hd
  rfl
theorem RepV.str_inv {v : Value} {s : ByteArray} (hv : RepV G w h nx v (.d (.str s))) : v = .string s := by
  generalize hx : V.d (.str s) = x at hv
  cases hv <;> first | cases hx | skip
  rename_i hd
  cases hd
  rfl

def plainPair : Value → Value → Prop
  | .bool _, .bool _ => True
  | .pointer _, .pointer _ => True
  | .map _, .map _ => True
  | _, _ => False
theorem eq_plain {op : BinOp} {t : TypeId} {x y : Operand} {vx vy : Value} {b : Bool} (hop : isEq op) (hp : plainPair vx vy) (he : (Op.equal t vx vy).run P w = .ok b w) :
    ∃ v, (do eqGuard op t x y vx vy; binOp op t vx vy : Sem Value).run P w = .ok v w ∧ RepV G w h nx v (aggV op b) := by
  refine ⟨.bool (if op = .eql then b else !b), ?_, ?_⟩
  · cases vx <;> cases vy <;> simp only [plainPair] at hp <;> cases op <;> simp only [isEq] at hop <;> simp [eqGuard, binOp, he]
  · cases op <;> simp only [isEq] at hop <;> exact .d _ _ (.bool _)
theorem eq_deep {t : TypeId} {vx vy : Value} {b : Bool} (h : ∀ d, (Op.equalIn (d + 1) t vx vy).run P w = .ok b w) : (Op.equal t vx vy).run P w = .ok b w := h 9999
theorem RepV.ptr_inv {v : Value} {id off : Nat} (hv : RepV G w h nx v (.ptr id off)) : ∃ a, v = .pointer (some a) := by cases hv; exact ⟨_, rfl⟩
theorem RepV.ro_inv {v : Value} {l : List D} (hv : RepV G w h nx v (.ro l)) : ∃ a, v = .pointer (some a) := by cases hv; exact ⟨_, rfl⟩
theorem RepV.mp_inv {v : Value} {id : Nat} (hv : RepV G w h nx v (.mp id)) : ∃ a, v = .map (some a) := by cases hv; exact ⟨_, rfl⟩

theorem av_sound {ρ : Operand → Value} {ev : Operand → V} (hev : ∀ x, RepV G w h nx (ρ x) (ev x)) (hobj : ObjR G w h nx) {o : Oper} (ha : avOk P h ev o.op) :
    ∃ v, (execOp ρ o).run P w = .ok (.value v) w ∧ RepV G w h nx v (av P h ev o.op) := by
  have val : ∀ (sv : Sem Value) (v : Value), sv.run P w = .ok v w → (do pure (.value (← sv)) : Sem Next).run P w = .ok (.value v) w := by
    intro sv v hv; simp only [Sem.run_bind, hv, Result.andThen_ok, Sem.run_pure]
  obtain ⟨dst, op, ty, pos, after, guard⟩ := o
  cases op with
  | move x => exact ⟨_, rfl, hev x⟩
  | assign x => exact ⟨_, rfl, hev x⟩
  | pick c x y =>
    obtain ⟨t, ht⟩ := Option.isSome_iff_exists.1 (show (boolOf (ev c)).isSome = true from ha)
    have hc := hev c
    rw [boolOf_some ht] at hc
    have hcv : ρ c = .bool t := hc.bool_inv
    refine ⟨if t then ρ x else ρ y, ?_, ?_⟩
    · simp only [execOp, hcv, asBool, Sem.run_bind, Sem.run_pure, Result.andThen_ok]
    · simp only [av, boolOf_some ht]
      cases t
      · rw [pickV_false]; exact hev y
      · rw [pickV_true]; exact hev x
  | load t x =>
    have hl := load_iff (K := fun v => v = loadV (tyOf P t) h (ev x)) ha rfl
    have hx := hev x
    obtain ⟨v, z, h1, h2, h3⟩ : ∃ v z, (Instr.loadAt t (ρ x)).run P w = .ok v w ∧ RepV G w h nx v z ∧ z = loadV (tyOf P t) h (ev x) := by
      unfold loadA at hl
      split at hl
      · rename_i id off hxe
        rw [hxe] at hx
        split at hl
        · rename_i g n l hty hg
          generalize hρ : ρ x = vx at hx ⊢
          cases hx with | ptr _ _ b hid hb =>
          obtain ⟨b', e, cs, k1, k2, k3, k4, k5, k6⟩ := hobj id l hg
          obtain rfl : b' = b := by rw [hb] at k1; injection k1 with k1; exact k1.symm
          obtain ⟨v, z, q1, q2, q3⟩ := load_sound (b := b') (o := 0) hty hl k4 k5 k6 (fun j u hu => by
            rw [Nat.zero_add, cell_of_row w b' j cs.toArray e _ k2]; simpa using hu)
          refine ⟨v, z, ?_, q2, q3⟩
          simp only [Instr.loadAt, Instr.sureAddr, Sem.run_bind, Sem.run_pure, Result.andThen_ok]
          rw [Nat.zero_add] at q1
          exact q1
        · exact hl.elim
      · rename_i l hxe
        rw [hxe] at hx
        split at hl
        · rename_i g n hty
          generalize hρ : ρ x = vx at hx ⊢
          cases hx with | ro b off _ vs hlen hone hc hr =>
          obtain ⟨v, z, q1, q2, q3⟩ := load_sound (G := G) (h := h) (nx := nx) (b := b) (o := off) (cs := vs) (l := l.map .d) hty hl (by simpa using Nat.le_of_eq hlen.symm) (fun y hy => by
            obtain ⟨c, hc, rfl⟩ := List.mem_map.1 hy
            exact hone c hc) (fun j u c hu hc' => by
              rw [List.getElem?_map, Option.map_eq_some_iff] at hc'
              obtain ⟨d, hd, rfl⟩ := hc'
              exact .d _ _ (hr j u d hu hd)) (fun j u hu => (hc j u hu).2)
          refine ⟨v, z, ?_, q2, q3⟩
          simp only [Instr.loadAt, Instr.sureAddr, Sem.run_bind, Sem.run_pure, Result.andThen_ok]
          rw [Nat.add_zero] at q1
          exact q1
        · exact hl.elim
      · exact hl.elim
    subst h3
    exact ⟨v, val _ _ h1, h2⟩
  | fieldAddr t x f =>
    obtain ⟨v, z, h1, h2, h3⟩ := faddr_sound (P := P) (faddr_iff (K := fun v => v = faddrV (fldOf P t f) (ev x)) ha rfl) (hev x)
    subst h3
    exact ⟨v, val _ _ h1, h2⟩
  | field t x f =>
    obtain ⟨v, z, h1, h2, h3⟩ := field_sound (P := P) (field_iff (K := fun v => v = fieldV (fldOf P t f) (ev x)) ha rfl) (hev x)
    subst h3
    exact ⟨v, val _ _ h1, h2⟩
  | indexAddr t x i =>
    by_cases hrow : ∃ id off len sz, ev x = .row id off len sz
    · obtain ⟨id, off, len, sz, hxe⟩ := hrow
      have hx := hev x
      have hi := hev i
      simp only [avOk, av, hxe] at ha ⊢
      rw [hxe] at hx
      simp only [iaddrOk, iaddrV] at ha ⊢
      unfold rowIxOk at ha
      split at ha
      · rename_i q n hie
        rw [hie] at hi
        have hiv := hi.int_inv
        obtain ⟨hel, h0, hlt⟩ := ha
        generalize hρ : ρ x = vx at hx
        cases hx with | row _ _ _ _ b o cap m hid hl ho hc hm hn hs =>
        have ho' : o = off := ho (by omega)
        subst ho'
        unfold elSz at hel
        split at hel
        · rename_i g s hes
          subst hel
          obtain ⟨e, hu, ht⟩ := elemOf_run hes
          have hsz := (tyOf_run ht w).2
          rw [hie]
          refine ⟨_, val _ _ ?_, .ptr id (o + n.toNat * s) b hid hl⟩
          simp only [hρ, hiv, Instr.indexAt, asIntOf, Sem.run_bind, Sem.run_pure, Result.andThen_ok, run_underlying hu]
          rw [if_pos ⟨h0, by omega⟩]
          simp only [Sem.run_bind, hsz, Result.andThen_ok, Sem.run_pure, add_mk]
        · exact hel.elim
      · exact ha.elim
    have e1 : iaddrOk (elemOf P t) (arrOf P t) (ev x) (ev i) = iaddrDOk (elemOf P t) (arrOf P t) (ev x) (ev i) ∧ iaddrV (elemOf P t) (arrOf P t) (ev x) (ev i) = iaddrDV (elemOf P t) (arrOf P t) (ev x) (ev i) := by
      generalize ev x = vx at hrow
      cases vx <;> first | exact ⟨rfl, rfl⟩ | exact (hrow ⟨_, _, _, _, rfl⟩).elim
    simp only [avOk, av, e1.1, e1.2] at ha ⊢
    obtain ⟨v, z, h1, h2, h3⟩ := iaddr_sound (P := P) (iaddr_iff (K := fun v => v = iaddrDV (elemOf P t) (arrOf P t) (ev x) (ev i)) ha rfl) (hev x) (hev i)
    subst h3
    exact ⟨v, val _ _ h1, h2⟩
  | index t x i =>
    have hi : indexA (fun v => v = indexV (arrOf P t) (ev x) (ev i)) (arrOf P t) (ev x) (ev i) ∧ (arrOf P t = none → P.underlying t = some .string) := by
      simp only [avOk] at ha
      unfold indexOk at ha
      unfold indexA indexV
      split at ha
      · rename_i l q n h1 h2
        simp only [h1, h2]
        split at ha
        · rename_i m g sz har
          simp only [har]
          exact ⟨⟨ha.1, ha.2.1, part_iff ha.2.2 rfl⟩, fun h => by cases h⟩
        · exact ha.elim
      · rename_i s q n h1 h2
        obtain ⟨k1, k2, k3, k4⟩ := ha
        simp only [h1, h2, k1]
        have hlt : n.toNat < s.size := by omega
        refine ⟨⟨k3, s[n.toNat], by simp [hlt], by simp [hlt]⟩, fun _ => k2⟩
      · exact ha.elim
    obtain ⟨v, z, h1, h2, h3⟩ := index_sound (P := P) hi.1 hi.2 (hev x) (hev i)
    subst h3
    exact ⟨v, val _ _ h1, h2⟩
  | extract x i =>
    simp only [avOk] at ha
    have hx := hev x
    unfold extOk at ha
    split at ha
    · rename_i l hxe
      rw [hxe] at hx
      simp only [av, hxe, extV]
      generalize hρ : ρ x = vx at hx
      cases hx with | tup vs _ hlen hr =>
      have hlt : i < vs.length := by omega
      have h1 : (Instr.extract (.tuple vs.toArray) i).run P w = .ok vs[i] w := by simp [Instr.extract, hlt]
      refine ⟨vs[i], ?_, ?_⟩
      · simp only [execOp, hρ]
        exact val _ _ h1
      · rw [List.getElem?_eq_getElem ha]
        exact hr i _ _ (List.getElem?_eq_getElem hlt) (List.getElem?_eq_getElem ha)
    · exact ha.elim
  | binOp op t x y ty2 =>
    simp only [avOk] at ha
    have hx := hev x
    have hy := hev y
    simp only [av]
    unfold binOk at ha
    split at ha
    · rename_i k a k' b h1 h2
      have hb : binA (fun v => v = binV op (ev x) (ev y)) op (ev x) (ev y) := by
        unfold binA binV
        simp only [h1, h2]
        cases op <;> simp only [sameK, intOk, intV, shiftA, intA] at ha ⊢ <;> simp_all
      obtain ⟨v, z, h1, h2, h3⟩ := bin_sound (P := P) hb (hev x) (hev y) t x y
      subst h3
      exact ⟨v, val _ _ h1, h2⟩
    · rename_i l m h1 h2
      rw [h1] at hx
      rw [h2] at hy
      obtain ⟨ha1, ha2⟩ := ha
      unfold eqTO at ha2
      split at ha2
      · rename_i ts he
        have hop : op = .eql ∨ op = .neq := by cases op <;> simp_all [isEq]
        have hr := eqT_run (P := P) he ha2 hx hy op hop x y
        refine ⟨_, val _ _ hr, ?_⟩
        rw [h1, h2]
        rcases hop with rfl | rfl
        · exact .d _ _ (.bool _)
        · exact .d _ _ (.bool _)
      · exact ha2.elim
    all_goals try (exact ha.elim)
    · -- bool
      rename_i a b h1 h2
      obtain ⟨hop, hT⟩ := ha
      rw [h1] at hx
      rw [h2] at hy
      have hu : P.underlying t = some .bool := by unfold isBoolT at hT; split at hT; (· assumption); exact hT.elim
      rw [h1, h2]
      obtain ⟨v, g1, g2⟩ := eq_plain (P := P) (G := G) (w := w) (h := h) (nx := nx) (x := x) (y := y) (vx := .bool a) (vy := .bool b) hop trivial (eq_deep (t := t) (b := a == b) (fun d => by simp [Op.equalIn, run_underlying hu]))
      exact ⟨v, val _ _ (by rw [hx.bool_inv, hy.bool_inv]; exact g1), g2⟩
    · -- string
      rename_i a b h1 h2
      rw [h1] at hx
      rw [h2] at hy
      rw [h1, h2]
      refine ⟨.bool (if op = .eql then (a.toList == b.toList) else !(a.toList == b.toList)), val _ _ ?_, ?_⟩
      · simp only [hx.str_inv, hy.str_inv]
        cases op <;> simp only [isEq] at ha <;> simp [eqGuard, binOp, Op.stringOp]
      · cases op <;> simp only [isEq] at ha <;> exact .d _ _ (.bool _)
    · rename_i h1 h2
      obtain ⟨hop, hT⟩ := ha
      rw [h1] at hx
      rw [h2] at hy
      obtain ⟨e, hu⟩ : ∃ e, P.underlying t = some (.pointer e) := by unfold isPtrT at hT; split at hT; (· exact ⟨_, by assumption⟩); exact hT.elim
      obtain ⟨ad, hxv⟩ := hx.ptr_inv
      rw [h1, h2]
      obtain ⟨v, g1, g2⟩ := eq_plain (P := P) (G := G) (w := w) (h := h) (nx := nx) (x := x) (y := y) (vx := .pointer (some ad)) (vy := .pointer none) hop trivial (eq_deep (t := t) (b := false) (fun d => by simp [Op.equalIn, run_underlying hu]))
      exact ⟨v, val _ _ (by rw [hxv, hy.k_inv]; exact g1), g2⟩
    · rename_i h1 h2
      obtain ⟨hop, hT⟩ := ha
      rw [h1] at hx
      rw [h2] at hy
      obtain ⟨e, hu⟩ : ∃ e, P.underlying t = some (.pointer e) := by unfold isPtrT at hT; split at hT; (· exact ⟨_, by assumption⟩); exact hT.elim
      obtain ⟨ad, hxv⟩ := hx.ro_inv
      rw [h1, h2]
      obtain ⟨v, g1, g2⟩ := eq_plain (P := P) (G := G) (w := w) (h := h) (nx := nx) (x := x) (y := y) (vx := .pointer (some ad)) (vy := .pointer none) hop trivial (eq_deep (t := t) (b := false) (fun d => by simp [Op.equalIn, run_underlying hu]))
      exact ⟨v, val _ _ (by rw [hxv, hy.k_inv]; exact g1), g2⟩
    · rename_i h1 h2
      obtain ⟨hop, hT⟩ := ha
      rw [h1] at hx
      rw [h2] at hy
      obtain ⟨e, hu⟩ : ∃ e, P.underlying t = some (.pointer e) := by unfold isPtrT at hT; split at hT; (· exact ⟨_, by assumption⟩); exact hT.elim
      rw [h1, h2]
      obtain ⟨v, g1, g2⟩ := eq_plain (P := P) (G := G) (w := w) (h := h) (nx := nx) (x := x) (y := y) (vx := .pointer none) (vy := .pointer none) hop trivial (eq_deep (t := t) (b := true) (fun d => by simp [Op.equalIn, run_underlying hu]))
      exact ⟨v, val _ _ (by rw [hx.k_inv, hy.k_inv]; exact g1), g2⟩
    · rename_i h1 h2
      obtain ⟨hop, hT⟩ := ha
      rw [h1] at hx
      rw [h2] at hy
      obtain ⟨e, e2, hu⟩ : ∃ e e2, P.underlying t = some (.map e e2) := by unfold isMapT at hT; split at hT; (· exact ⟨_, _, by assumption⟩); exact hT.elim
      obtain ⟨ad, hxv⟩ := hx.mp_inv
      rw [h1, h2]
      obtain ⟨v, g1, g2⟩ := eq_plain (P := P) (G := G) (w := w) (h := h) (nx := nx) (x := x) (y := y) (vx := .map (some ad)) (vy := .map none) hop trivial (eq_deep (t := t) (b := false) (fun d => by simp [Op.equalIn, run_underlying hu]))
      exact ⟨v, val _ _ (by rw [hxv, hy.k_inv]; exact g1), g2⟩
    · rename_i h1 h2
      obtain ⟨hop, hT⟩ := ha
      rw [h1] at hx
      rw [h2] at hy
      obtain ⟨e, e2, hu⟩ : ∃ e e2, P.underlying t = some (.map e e2) := by unfold isMapT at hT; split at hT; (· exact ⟨_, _, by assumption⟩); exact hT.elim
      rw [h1, h2]
      obtain ⟨v, g1, g2⟩ := eq_plain (P := P) (G := G) (w := w) (h := h) (nx := nx) (x := x) (y := y) (vx := .map none) (vy := .map none) hop trivial (eq_deep (t := t) (b := true) (fun d => by simp [Op.equalIn, run_underlying hu]))
      exact ⟨v, val _ _ (by rw [hx.k_inv, hy.k_inv]; exact g1), g2⟩
  | unOp op t x =>
    have hb : unA (fun v => v = unV (ev x)) op (ev x) := by
      simp only [avOk] at ha
      unfold unOk at ha
      unfold unA unV
      split at ha
      · rename_i b h1; subst ha; simp only [h1]
      · rename_i k n h1; subst ha; simp only [h1]
      · exact ha.elim
    obtain ⟨v, z, h1, h2, h3⟩ := un_sound (P := P) hb (hev x)
    subst h3
    exact ⟨v, val _ _ h1, h2⟩
  | convert s d x =>
    obtain ⟨hs, hc⟩ := ha
    have hb : convA (fun v => v = convV (P.underlying d) (ev x)) (P.underlying d) (ev x) := by
      unfold convOk at hc
      unfold convA convV
      split at hc
      · rename_i k n h1
        simp only [h1]
        split at hc
        · rename_i k' h2; simp only [h2]
        · exact hc.elim
      · exact hc.elim
    obtain ⟨v, z, h1, h2, h3⟩ := conv_sound (P := P) hb hs (hev x)
    subst h3
    exact ⟨v, val _ _ h1, h2⟩
  | slice t x lo hi mx =>
    obtain ⟨rfl, hc⟩ := ha
    by_cases hrow : ∃ id off len sz, ev x = .row id off len sz
    · obtain ⟨id, off, len, sz, hxe⟩ := hrow
      have hx := hev x
      rw [hxe] at hx
      simp only [av, hxe, sliceOk, sliceV] at hc ⊢
      obtain ⟨hel, c2, c3, c4, c5, c6⟩ := hc
      have bs : ∀ (d : Nat) (o : Option Operand), isBnd (o.map ev) → (o.map ρ = none ∧ (boundA d (o.map ev)).getD 0 = d) ∨ ∃ q n, o.map ρ = some (.int q n) ∧ (boundA d (o.map ev)).getD 0 = n := by
        intro d o ho
        cases o with
        | none => exact .inl ⟨rfl, rfl⟩
        | some y =>
          simp only [Option.map_some] at ho ⊢
          unfold isBnd at ho
          split at ho
          · contradiction
          · rename_i q n he
            injection he with he
            have hy := hev y
            rw [he] at hy
            exact .inr ⟨q, n, by rw [hy.int_inv], by rw [he]; rfl⟩
          · exact ho.elim
      have h1 := bs 0 lo c2
      have h2 := bs len hi c3
      generalize (boundA 0 (lo.map ev)).getD 0 = a at *
      generalize (boundA len (hi.map ev)).getD 0 = b at *
      obtain ⟨a', rfl⟩ := Int.eq_ofNat_of_zero_le c4
      obtain ⟨b', rfl⟩ := Int.eq_ofNat_of_zero_le (Int.le_trans c4 c5)
      generalize hρ : ρ x = vx at hx
      cases hx with | row _ _ _ _ bk o cap m hid hl ho hc hm hn hs =>
      unfold elSz at hel
      split at hel
      case h_2 => exact hel.elim
      rename_i g s hes
      subst hel
      obtain ⟨e, hu, ht⟩ := elemOf_run hes
      have hsz := (tyOf_run ht w).2
      have hrun : (Instr.sliceAt t (.slice (some ⟨bk, o, none⟩) len cap) (lo.map ρ) (hi.map ρ) none).run P w = .ok (.slice (if cap = a' then some ⟨bk, o, none⟩ else some (Addr.add ⟨bk, o, none⟩ (a' * s))) (b' - a') (cap - a')) w := by
        have k1 : (0 : Int) ≤ (b' : Int) ∧ (b' : Int) ≤ (cap : Int) := by omega
        have k2 : (0 : Int) ≤ (a' : Int) ∧ (a' : Int) ≤ (b' : Int) := by omega
        have h1' : (lo.map ρ = none ∧ a' = 0) ∨ ∃ q, lo.map ρ = some (.int q a') := by
          rcases h1 with ⟨e1, e2⟩ | ⟨q, n, e1, e2⟩
          · exact .inl ⟨e1, by omega⟩
          · exact .inr ⟨q, by rw [e1, e2]⟩
        have h2' : (hi.map ρ = none ∧ b' = len) ∨ ∃ q, hi.map ρ = some (.int q b') := by
          rcases h2 with ⟨e1, e2⟩ | ⟨q, n, e1, e2⟩
          · exact .inl ⟨e1, by omega⟩
          · exact .inr ⟨q, by rw [e1, e2]⟩
        clear h1 h2 bs
        rcases h1' with ⟨e1, rfl⟩ | ⟨q, e1⟩ <;> rcases h2' with ⟨e3, rfl⟩ | ⟨q', e3⟩ <;> rw [e1, e3] <;>
          simp [Instr.sliceAt, run_underlying hu, Instr.slice, Instr.sliceBounds, Instr.sliceBound, asIntOf, hsz] <;> (try simp_all) <;> (intros; exfalso; omega)
      refine ⟨_, val _ _ (by simp only [hρ]; exact hrun), ?_⟩
      by_cases hca : cap = a'
      · rw [if_pos hca]
        have : cap - a' = 0 := by omega
        rw [this]
        have hba : b' - a' = 0 := by omega
        simp only [Int.toNat_natCast, hba]
        exact .row id _ _ s bk o 0 m hid hl (fun h => (h rfl).elim) (Nat.le_refl _) (Nat.zero_le _) hn (by rw [hca] at hs; omega)
      · rw [if_neg hca, add_mk]
        simp only [Int.toNat_natCast]
        refine .row id _ _ s bk _ (cap - a') m hid hl (fun _ => ?_) (by omega) (by omega) hn ?_
        · rw [ho (by omega)]
        · have : a' * s + (cap - a') * s = cap * s := by rw [← Nat.add_mul]; congr 1; omega
          omega
    have e0 : sliceOk (elemOf P t) (ev x) (lo.map ev) (hi.map ev) = sliceDOk (elemOf P t) (ev x) (lo.map ev) (hi.map ev) ∧ sliceV (elemOf P t) (ev x) (lo.map ev) (hi.map ev) = sliceDV (elemOf P t) (ev x) (lo.map ev) (hi.map ev) := by
      generalize ev x = vx at hrow
      cases vx <;> first | exact ⟨rfl, rfl⟩ | exact (hrow ⟨_, _, _, _, rfl⟩).elim
    simp only [av, e0.1, e0.2] at hc ⊢
    have hb : sliceA (fun v => v = sliceDV (elemOf P t) (ev x) (lo.map ev) (hi.map ev)) (elemOf P t) (ev x) (lo.map ev) (hi.map ev) := by
      unfold sliceDOk at hc
      unfold sliceA sliceDV
      split at hc
      · rename_i g sz hel
        simp only [hel]
        obtain ⟨c1, c2, c3, c4, c5, c6⟩ := hc
        obtain ⟨l, hl⟩ := Option.isSome_iff_exists.1 (show ((ev x).els sz).isSome = true from c1)
        have bs : ∀ (d : Nat) (o : Option V), isBnd o → ∃ n, boundA d o = some n := by
          intro d o ho
          unfold isBnd at ho
          split at ho
          · exact ⟨_, rfl⟩
          · exact ⟨_, rfl⟩
          · exact ho.elim
        obtain ⟨a, ha⟩ := bs 0 _ c2
        obtain ⟨b, hb⟩ := bs l.length _ c3
        simp only [V.elsD, hl, Option.getD_some, ha, hb] at c4 c5 c6 ⊢
        refine ⟨c4, c5, c6, ?_⟩
        split
        · rename_i s' l' hx' hh'
          have : l' = l := by
            rw [hx'] at hl
            simp only [V.els] at hl
            split at hl <;> simp_all
          subst this
          simp only [hx', hh']
        · rename_i v' hx'
          simp only [hx']
        · rename_i hn1 hn2
          generalize hgx : ev x = vx at *
          generalize hgh : hi.map ev = vh at *
          cases vx with
          | k v => exact (hn1 _ rfl).elim
          | full s' l' => cases vh with
            | none => exact (hn2 _ _ rfl rfl).elim
            | some y => simp [hl, hb]
          | d x' => simp [hl, hb]
          | own _ _ _ => simp [hl, hb]
          | _ => cases hl
      · exact hc.elim
    obtain ⟨v, z, h1, h2, h3⟩ := slice_sound (P := P) hb (hev x) (vlo := lo.map ρ) (vhi := hi.map ρ) (fun y hy => by
        obtain ⟨o, rfl, rfl⟩ := Option.map_eq_some_iff.1 hy
        exact ⟨_, rfl, hev o⟩) (fun y hy => by
        obtain ⟨o, rfl, rfl⟩ := Option.map_eq_some_iff.1 hy
        exact ⟨_, rfl, hev o⟩) (fun hn => by simpa using hn) (fun hn => by simpa using hn)
    subst h3
    exact ⟨v, val _ _ h1, h2⟩
  | nilCheck x =>
    have hx := hev x
    simp only [avOk, av] at ha ⊢
    generalize hxe : ev x = xv at hx ha
    cases xv with
    | ptr id off =>
      obtain ⟨ad, hv⟩ := hx.ptr_inv
      exact ⟨_, by simp only [execOp, hv]; rfl, by rw [← hv]; exact hx⟩
    | ro l =>
      obtain ⟨ad, hv⟩ := hx.ro_inv
      exact ⟨_, by simp only [execOp, hv]; rfl, by rw [← hv]; exact hx⟩
    | _ => exact ha.elim
  | call c =>
    obtain ⟨callee, args, argTypes⟩ := c
    by_cases hmin : callee = .builtin .min
    · subst hmin
      simp only [avOk, callVOk, av, callV] at ha ⊢
      obtain ⟨h1, h2⟩ := ha
      obtain ⟨x, y, rfl⟩ : ∃ x y, args = #[x, y] := by
        obtain ⟨l⟩ := args
        match l, h1 with
        | [x, y], _ => exact ⟨x, y, rfl⟩
      have e0 : (#[x, y] : Array Operand).getD 0 (.const .nilIface) = x := rfl
      have e1 : (#[x, y] : Array Operand).getD 1 (.const .nilIface) = y := rfl
      rw [e0, e1] at h2 ⊢
      have hx := hev x
      have hy := hev y
      unfold twoInts at h2
      split at h2
      · rename_i k a k' b hxe hye
        rw [hxe] at hx
        rw [hye] at hy
        rw [hxe, hye]
        refine ⟨.int k (if b < a then b else a), ?_, .d _ _ (.int _ _)⟩
        simp only [execOp, resolve, invoke, builtin, Sem.run_bind, Sem.run_pure, Result.andThen_ok, List.map_toArray, List.map_cons, List.map_nil, hx.int_inv, hy.int_inv, Builtin.min_, Builtin.min2, List.foldlM_cons, List.foldlM_nil]
      · exact h2.elim
    by_cases hmax : callee = .builtin .max
    · subst hmax
      simp only [avOk, callVOk, av, callV] at ha ⊢
      obtain ⟨h1, h2⟩ := ha
      obtain ⟨x, y, rfl⟩ : ∃ x y, args = #[x, y] := by
        obtain ⟨l⟩ := args
        match l, h1 with
        | [x, y], _ => exact ⟨x, y, rfl⟩
      have e0 : (#[x, y] : Array Operand).getD 0 (.const .nilIface) = x := rfl
      have e1 : (#[x, y] : Array Operand).getD 1 (.const .nilIface) = y := rfl
      rw [e0, e1] at h2 ⊢
      have hx := hev x
      have hy := hev y
      unfold twoInts at h2
      split at h2
      · rename_i k a k' b hxe hye
        rw [hxe] at hx
        rw [hye] at hy
        rw [hxe, hye]
        refine ⟨.int k (if a < b then b else a), ?_, .d _ _ (.int _ _)⟩
        simp only [execOp, resolve, invoke, builtin, Sem.run_bind, Sem.run_pure, Result.andThen_ok, List.map_toArray, List.map_cons, List.map_nil, hx.int_inv, hy.int_inv, Builtin.max_, Builtin.max2, List.foldlM_cons, List.foldlM_nil]
      · exact h2.elim
    have hold : ((callee = .builtin .len ∧ args.size = 1 ∧ argTypes.size = 1) ∧ lenOk (P.underlying (argTypes.getD 0 0)) (ev (args.getD 0 (.const .nilIface)))) ∧ av P h ev (.call ⟨callee, args, argTypes⟩) = lenV (ev (args.getD 0 (.const .nilIface))) := by
      simp only [avOk, callVOk, av, callV] at ha ⊢
      exact ⟨ha, trivial⟩
    simp only [hold.2]
    obtain ⟨⟨⟨h1, h2, h3⟩, h6⟩, _⟩ := hold
    subst h1
    obtain ⟨x, rfl⟩ : ∃ x, args = #[x] := by
      obtain ⟨l⟩ := args
      match l, h2 with
      | [x], _ => exact ⟨x, rfl⟩
    obtain ⟨t, rfl⟩ : ∃ t, argTypes = #[t] := by
      obtain ⟨l⟩ := argTypes
      match l, h3 with
      | [x], _ => exact ⟨x, rfl⟩
    have hx := hev x
    have e0 : (#[x] : Array Operand).getD 0 (.const .nilIface) = x := rfl
    have e1 : (#[t] : Array TypeId).getD 0 0 = t := rfl
    rw [e0, e1] at h6
    rw [e0]
    have fin : ∀ n : Nat, (Builtin.len_ #[t] ty #[ρ x]).run P w = .ok (goInt n) w → lenV (ev x) = .d (.int .i64 n) → ∃ v, (execOp ρ ⟨dst, .call ⟨.builtin .len, #[x], #[t]⟩, ty, pos, after, guard⟩).run P w = .ok (.value v) w ∧ RepV G w h nx v (lenV (ev x)) := by
      intro n hn hv
      refine ⟨goInt n, ?_, by rw [hv]; exact .d _ _ (.int _ _)⟩
      simp only [execOp, resolve, invoke, builtin, Sem.run_bind, Sem.run_pure, Result.andThen_ok, List.map_toArray, List.map_cons, List.map_nil, hn]
    have hsl : ∀ n A cc, ρ x = .slice A n cc → isSliceT (P.underlying t) → (Builtin.len_ #[t] ty #[ρ x]).run P w = .ok (goInt n) w := by
      intro n A cc hr hd
      unfold isSliceT at hd
      split at hd
      · rename_i e hu
        simp [Builtin.len_, run_underlying hu, hr]
      · exact hd.elim
    unfold lenOk at h6
    split at h6
    · rename_i s hxe
      rw [hxe] at hx
      unfold isStrT at h6
      split at h6
      · rename_i hu
        have hr : ρ x = .string s := hx.str_inv
        exact fin s.size (by simp [Builtin.len_, run_underlying hu, hr]) (by rw [hxe]; rfl)
      · exact h6.elim
    · rename_i hxe
      rw [hxe] at hx
      obtain ⟨A, cc, hr⟩ := len_rep rfl hx
      exact fin _ (hsl _ A cc hr h6) (by rw [hxe]; rfl)
    · rename_i hxe
      rw [hxe] at hx
      obtain ⟨A, cc, hr⟩ := len_rep rfl hx
      exact fin _ (hsl _ A cc hr h6) (by rw [hxe]; rfl)
    · rename_i hxe
      rw [hxe] at hx
      obtain ⟨A, cc, hr⟩ := len_rep rfl hx
      exact fin _ (hsl _ A cc hr h6) (by rw [hxe]; rfl)
    · rename_i hxe
      rw [hxe] at hx
      obtain ⟨A, cc, hr⟩ := len_rep rfl hx
      exact fin _ (hsl _ A cc hr h6) (by rw [hxe]; rfl)
    · rename_i hxe
      rw [hxe] at hx
      obtain ⟨A, cc, hr⟩ := len_rep rfl hx
      exact fin _ (hsl _ A cc hr h6) (by rw [hxe]; rfl)
    · exact h6.elim
  | _ => exact ha.elim

end
end Go.Bv
