/-
  Part of a machine over pure data and objects that is sound for the model: what it says of a Go function holds of every call of that function. Conditions: those in each theorem. It speaks of any program.
-/
import Derived.Test.YtjaignojekmfgaaBvBase
namespace Go.Bv
open Go.RowKit

/-- Is the type a struct or an array; how many cells it takes. -/
def tyOf (P : Program) (t : TypeId) : Option (Bool × Nat) :=
  match P.underlying t, P.info? t with
  | some u, some i => some ((match u with | .struct _ | .array _ _ => true | _ => false), i.size)
  | _, _ => none
/-- A field: where it lies, is it a struct or an array, how many cells it takes (none: no cell). -/
def fldOf (P : Program) (t : TypeId) (f : Nat) : Option (Nat × Bool × Nat) :=
  match P.underlying t with
  | some (.struct fs) => match fs[f]? with
    | some g => match tyOf P g.type with
      | some (a, n + 1) => some (g.offset, a, n + 1)
      | _ => none
    | none => none
  | _ => none
/-- A slice's element: is it a struct or an array, its cells. -/
def elemOf (P : Program) (t : TypeId) : Option (Bool × Nat) :=
  match P.underlying t with
  | some (.slice e) => tyOf P e
  | _ => none
/-- An array: its length, its element. -/
def arrOf (P : Program) (t : TypeId) : Option (Nat × Bool × Nat) :=
  match P.underlying t with
  | some (.array n e) => (tyOf P e).map fun (a, s) => (n, a, s)
  | _ => none

/-- Constants. -/
def V.ofK1 : Value → V
  | .int q n => .d (.int q n)
  | .bool b => .d (.bool b)
  | .string s => .d (.str s)
  | v => if v.oneCell' then .k v else .any
def V.ofK : Value → V
  | .agg cs => if cs.all (·.oneCell') then .agg (cs.toList.map V.ofK1) else .any
  | v => V.ofK1 v

/-- A slice's elements, whatever form it has. -/
def V.els (sz : Nat) : V → Option (List D)
  | .d (.slice s l) => if s = sz then some l else none
  | .own _ s l => if s = sz then some l else none
  | .full s l => if s = sz then some l else none
  | .k (.slice none 0 0) => some []
  | _ => none
def V.len : V → Option Nat
  | .d (.slice _ l) => some l.length
  | .own _ _ l => some l.length
  | .full _ l => some l.length
  | .k (.slice none 0 0) => some 0
  | .row _ _ len _ => some len
  | _ => none

section
variable (K : V → Prop)

def pickA : V → V → V → Prop
  | .d (.bool t), .d (.bool p), .d (.bool q) => K (.d (.bool (bif t then p else q)))
  | .d (.bool true), a, _ => K a
  | .d (.bool false), _, b => K b
  | _, _, _ => False

def partV (a : Bool) (n : Nat) (l : List V) (off : Nat) : Prop :=
  if a then off + n ≤ l.length ∧ K (.agg ((l.drop off).take n)) else
    match l[off]? with
    | some x => K x
    | none => False

def loadA (ty : Option (Bool × Nat)) (h : Hp) : V → Prop
  | .ptr id off => match ty, h.get id with
    | some (a, n), some (.cells l) => partV K a n l off
    | _, _ => False
  | .ro l => match ty with
    | some (a, n) => partV K a n (l.map .d) 0
    | none => False
  | _ => False

def faddrA (fl : Option (Nat × Bool × Nat)) : V → Prop
  | .ptr id off => match fl with
    | some (o, _, _) => K (.ptr id (off + o))
    | none => False
  | .ro l => match fl with
    | some (o, _, _) => K (.ro (l.drop o))
    | none => False
  | _ => False

def fieldA (fl : Option (Nat × Bool × Nat)) : V → Prop
  | .agg l => match fl with
    | some (o, a, n) => partV K a n l o
    | none => False
  | _ => False

def iaddrA (el : Option (Bool × Nat)) (ar : Option (Nat × Bool × Nat)) (x : V) : V → Prop
  | .d (.int _ i) => match el, ar with
    | some (_, sz), _ => match x.els sz with
      | some l => 0 ≤ i ∧ ∃ e, l[i.toNat]? = some e ∧ K (.ro e.cells)
      | none => False
    | none, some (n, _, sz) => match x with
      | .ptr id off => 0 ≤ i ∧ i < n ∧ K (.ptr id (off + i.toNat * sz))
      | .ro l => 0 ≤ i ∧ i < n ∧ K (.ro (l.drop (i.toNat * sz)))
      | _ => False
    | none, none => False
  | _ => False

def indexA (ar : Option (Nat × Bool × Nat)) : V → V → Prop
  | .agg l, .d (.int _ i) => match ar with
    | some (n, a, sz) => 0 ≤ i ∧ i < n ∧ partV K a sz l (i.toNat * sz)
    | none => False
  | .d (.str s), .d (.int _ i) => match ar with
    | none => 0 ≤ i ∧ ∃ b, s[i.toNat]? = some b ∧ K (.d (.int .u8 b.toNat))
    | _ => False
  | _, _ => False

def extA (i : Nat) : V → Prop
  | .tup l => match l[i]? with
    | some x => K x
    | none => False
  | _ => False

def lenA : V → Prop
  | .d (.str s) => K (.d (.int .i64 s.size))
  | x => match x.len with
    | some n => K (.d (.int .i64 n))
    | none => False

/-- Integer operations. -/
def intA (op : BinOp) (k : IntKind) (a b : Int) : Prop :=
  match op with
  | .add => K (.d (.int k (k.wrap (a + b))))
  | .sub => K (.d (.int k (k.wrap (a - b))))
  | .mul => K (.d (.int k (k.wrap (a * b))))
  | .quo => b ≠ 0 ∧ K (.d (.int k (k.wrap (a.tdiv b))))
  | .rem => b ≠ 0 ∧ K (.d (.int k (a.tmod b)))
  | .and => K (.d (.int k (k.wrap (BitVec.ofInt k.bits a &&& BitVec.ofInt k.bits b).toNat)))
  | .or => K (.d (.int k (k.wrap (BitVec.ofInt k.bits a ||| BitVec.ofInt k.bits b).toNat)))
  | .xor => K (.d (.int k (k.wrap (BitVec.ofInt k.bits a ^^^ BitVec.ofInt k.bits b).toNat)))
  | .andNot => K (.d (.int k (k.wrap (BitVec.ofInt k.bits a &&& ~~~BitVec.ofInt k.bits b).toNat)))
  | .eql => K (.d (.bool (a == b)))
  | .neq => K (.d (.bool (a != b)))
  | .lss => K (.d (.bool (decide (a < b))))
  | .leq => K (.d (.bool (decide (a ≤ b))))
  | .gtr => K (.d (.bool (decide (b < a))))
  | .geq => K (.d (.bool (decide (b ≤ a))))
  | _ => False
def shiftA (op : BinOp) (k : IntKind) (a b : Int) : Prop :=
  match op with
  | .shl => 0 ≤ b ∧ K (.d (.int k (k.wrap (a * 2 ^ min b.toNat k.bits))))
  | .shr => 0 ≤ b ∧ K (.d (.int k (a.fdiv (2 ^ min b.toNat k.bits))))
  | _ => False

def binA (op : BinOp) : V → V → Prop
  | .d (.int k a), .d (.int k' b) => match op with
    | .shl => shiftA K .shl k a b
    | .shr => shiftA K .shr k a b
    | op => k = k' ∧ intA K op k a b
  | _, _ => False

def unA (op : UnOp) : V → Prop
  | .d (.bool b) => match op with
    | .not => K (.d (.bool (!b)))
    | _ => False
  | .d (.int k n) => match op with
    | .neg => K (.d (.int k (k.wrap (0 - n))))
    | _ => False
  | _ => False

def convA (d : Option TypeDesc) : V → Prop
  | .d (.int _ n) => match d with
    | some (.int k) => K (.d (.int k (k.wrap n)))
    | _ => False
  | _ => False

end

/-- The operations that leave the world alone. -/
def AV (P : Program) (h : Hp) (ev : Operand → V) (K : V → Prop) : Op → Prop
  | .move x => K (ev x)
  | .assign x => K (ev x)
  | .pick c a b => pickA K (ev c) (ev a) (ev b)
  | .load t a => loadA K (tyOf P t) h (ev a)
  | .fieldAddr t x f => faddrA K (fldOf P t f) (ev x)
  | .field t x f => fieldA K (fldOf P t f) (ev x)
  | .indexAddr t x i => iaddrA K (elemOf P t) (arrOf P t) (ev x) (ev i)
  | .index t x i => indexA K (arrOf P t) (ev x) (ev i)
  | .extract x i => extA K i (ev x)
  | .binOp op _ x y _ => binA K op (ev x) (ev y)
  | .unOp op _ x => unA K op (ev x)
  | .convert _ d x => convA K (P.underlying d) (ev x)
  | .call { callee := .builtin .len, args := #[x], argTypes := #[_] } => lenA K (ev x)
  | _ => False

end Go.Bv
