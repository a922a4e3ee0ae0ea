/-
  Part of a machine over pure data and objects that is sound for the model: what it says of a Go function holds of every call of that function. Conditions: those in each theorem. It speaks of any program.
-/
import Derived.Test.YtjaignojekmfgaaBvSet
namespace Go.Bv
open Go.RowKit

theorem v1 :
    (∀ (P : Program) (N : Nat) (tb : List (Option Nat)) (K : St → Prop) (s : St), AOps P N tb [] K s = K s) ∧
    (∀ (P : Program) (N : Nat) (tb : List (Option Nat)) (nb S : Nat) (ws rs : List (Nat × Nat)) (k : Nat) (K : St → Prop) (s : St), DOps P N tb nb S ws rs k [] K s = K s) ∧
    (∀ {i j : Nat}, (j = i) = False → ∀ (x : V) (r : List (Nat × V)), getS ((i, x) :: r) j = getS r j) ∧
    (∀ {i j : Nat}, (j = i) = False → ∀ (o : Ob) (r : Hp), Hp.get ((i, o) :: r) j = r.get j) ∧
    (∀ (P : Program) (N : Nat) (tb : List (Option Nat)) (d : Option Nat) (ty : TypeId) (p : String) (af : Array Edge) (r : List Oper) (K : St → Prop) (s : St) {op : Op} {j : Nat} {b : Bool}, guardV s tb j = V.d (D.bool b) → AOps P N tb (Oper.mk d op ty p af (some (j, b)) :: r) K s = AOps P N tb (Oper.mk d op ty p af none :: r) K s) ∧
    (∀ (P : Program) (N : Nat) (tb : List (Option Nat)) (d : Option Nat) (ty : TypeId) (p : String) (af : Array Edge) (r : List Oper) (K : St → Prop) (s : St) {op : Op} {j : Nat} {b : Bool}, guardV s tb j = V.d (D.bool !b) → AOps P N tb (Oper.mk d op ty p af (some (j, b)) :: r) K s = (dstOk N d ∧ AOps P N tb r K (s.put d (V.k undef)))) ∧
    (∀ (P : Program) (N : Nat) (tb : List (Option Nat)) (nb S : Nat) (ws rs : List (Nat × Nat)) (k : Nat) (d : Option Nat) (ty : TypeId) (p : String) (af : Array Edge) (r : List Oper) (K : St → Prop) (s : St) {op : Op} {j : Nat} {b : Bool}, guardV s tb j = V.d (D.bool b) → DOps P N tb nb S ws rs k (Oper.mk d op ty p af (some (j, b)) :: r) K s = DOps P N tb nb S ws rs k (Oper.mk d op ty p af none :: r) K s) ∧
    (∀ (P : Program) (N : Nat) (tb : List (Option Nat)) (nb S : Nat) (ws rs : List (Nat × Nat)) (k : Nat) (d : Option Nat) (ty : TypeId) (p : String) (af : Array Edge) (r : List Oper) (K : St → Prop) (s : St) {op : Op} {j : Nat} {b : Bool}, guardV s tb j = V.d (D.bool !b) → DOps P N tb nb S ws rs k (Oper.mk d op ty p af (some (j, b)) :: r) K s = (dstOk N d ∧ DOps P N tb nb S ws rs (k + 1) r K (s.put d (V.k undef)))) ∧
    (∀ (P : Program) (N : Nat) (tb : List (Option Nat)) (d : Option Nat) (ty : TypeId) (p : String) (af : Array Edge) (r : List Oper) (K : St → Prop) (s : St) {op : Op} {j : Nat} {b : Bool}, guardV s tb j = V.k undef → AOps P N tb (Oper.mk d op ty p af (some (j, b)) :: r) K s = (dstOk N d ∧ AOps P N tb r K (s.put d (V.k undef)))) ∧
    (∀ (P : Program) (N : Nat) (tb : List (Option Nat)) (nb S : Nat) (ws rs : List (Nat × Nat)) (k : Nat) (d : Option Nat) (ty : TypeId) (p : String) (af : Array Edge) (r : List Oper) (K : St → Prop) (s : St) {op : Op} {j : Nat} {b : Bool}, guardV s tb j = V.k undef → DOps P N tb nb S ws rs k (Oper.mk d op ty p af (some (j, b)) :: r) K s = (dstOk N d ∧ DOps P N tb nb S ws rs (k + 1) r K (s.put d (V.k undef)))) ∧
    (∀ {t : Nat} {l : List D} (tok nx : Nat), t = l.length → growO tok nx l (some (Ob.tip t)) = some (tok, nx, l)) ∧
    (∀ (P : Program) (N : Nat) (tb : List (Option Nat)) (d : Option Nat) (ty : TypeId) (p : String) (af : Array Edge) (r : List Oper) (K : St → Prop) (s : St) (x : Operand), AOps P N tb (Oper.mk d (Op.move x) ty p af none :: r) K s = (dstOk N d ∧ AOps P N tb r K (s.put d (s.ev x)))) ∧
    (∀ (P : Program) (N : Nat) (tb : List (Option Nat)) (d : Option Nat) (ty : TypeId) (p : String) (af : Array Edge) (r : List Oper) (K : St → Prop) (s : St) (x : Operand), AOps P N tb (Oper.mk d (Op.assign x) ty p af none :: r) K s = (dstOk N d ∧ AOps P N tb r K (s.put d (s.ev x)))) ∧
    (∀ (P : Program) (N : Nat) (tb : List (Option Nat)) (d : Option Nat) (ty : TypeId) (p : String) (af : Array Edge) (r : List Oper) (K : St → Prop) (s : St) (c x y : Operand), AOps P N tb (Oper.mk d (Op.pick c x y) ty p af none :: r) K s = (dstOk N d ∧ pickOk (s.ev c) ∧ AOps P N tb r K (s.put d (pickV (s.ev c) (s.ev x) (s.ev y))))) ∧
    (∀ (P : Program) (N : Nat) (tb : List (Option Nat)) (d : Option Nat) (ty : TypeId) (p : String) (af : Array Edge) (r : List Oper) (K : St → Prop) (s : St) (t : TypeId) (x : Operand), AOps P N tb (Oper.mk d (Op.load t x) ty p af none :: r) K s = (dstOk N d ∧ loadOk (tyOf P t) s.h (s.ev x) ∧ AOps P N tb r K (s.put d (loadV (tyOf P t) s.h (s.ev x))))) ∧
    (∀ (P : Program) (N : Nat) (tb : List (Option Nat)) (d : Option Nat) (ty : TypeId) (p : String) (af : Array Edge) (r : List Oper) (K : St → Prop) (s : St) (t : TypeId) (x : Operand) (f : Nat), AOps P N tb (Oper.mk d (Op.fieldAddr t x f) ty p af none :: r) K s = (dstOk N d ∧ faddrOk (fldOf P t f) (s.ev x) ∧ AOps P N tb r K (s.put d (faddrV (fldOf P t f) (s.ev x))))) ∧
    (∀ (P : Program) (N : Nat) (tb : List (Option Nat)) (d : Option Nat) (ty : TypeId) (p : String) (af : Array Edge) (r : List Oper) (K : St → Prop) (s : St) (t : TypeId) (x : Operand) (f : Nat), AOps P N tb (Oper.mk d (Op.field t x f) ty p af none :: r) K s = (dstOk N d ∧ fieldOk (fldOf P t f) (s.ev x) ∧ AOps P N tb r K (s.put d (fieldV (fldOf P t f) (s.ev x))))) ∧
    (∀ (P : Program) (N : Nat) (tb : List (Option Nat)) (d : Option Nat) (ty : TypeId) (p : String) (af : Array Edge) (r : List Oper) (K : St → Prop) (s : St) (t : TypeId) (x i : Operand), AOps P N tb (Oper.mk d (Op.indexAddr t x i) ty p af none :: r) K s = (dstOk N d ∧ iaddrOk (elemOf P t) (arrOf P t) (s.ev x) (s.ev i) ∧ AOps P N tb r K (s.put d (iaddrV (elemOf P t) (arrOf P t) (s.ev x) (s.ev i))))) ∧
    (∀ (P : Program) (N : Nat) (tb : List (Option Nat)) (d : Option Nat) (ty : TypeId) (p : String) (af : Array Edge) (r : List Oper) (K : St → Prop) (s : St) (t : TypeId) (x i : Operand), AOps P N tb (Oper.mk d (Op.index t x i) ty p af none :: r) K s = (dstOk N d ∧ indexOk P t (arrOf P t) (s.ev x) (s.ev i) ∧ AOps P N tb r K (s.put d (indexV (arrOf P t) (s.ev x) (s.ev i))))) ∧
    (∀ (P : Program) (N : Nat) (tb : List (Option Nat)) (d : Option Nat) (ty : TypeId) (p : String) (af : Array Edge) (r : List Oper) (K : St → Prop) (s : St) (x : Operand) (i : Nat), AOps P N tb (Oper.mk d (Op.extract x i) ty p af none :: r) K s = (dstOk N d ∧ extOk i (s.ev x) ∧ AOps P N tb r K (s.put d (extV i (s.ev x))))) ∧
    (∀ (P : Program) (N : Nat) (tb : List (Option Nat)) (d : Option Nat) (ty : TypeId) (p : String) (af : Array Edge) (r : List Oper) (K : St → Prop) (s : St) (op : BinOp) (t t' : TypeId) (x y : Operand), isNilV (s.ev y) = false → AOps P N tb (Oper.mk d (Op.binOp op t x y t') ty p af none :: r) K s = (dstOk N d ∧ binOk (eqT P t) (P.underlying t) op (s.ev x) (s.ev y) ∧ AOps P N tb r K (s.put d (binV op (s.ev x) (s.ev y))))) ∧
    (∀ (P : Program) (N : Nat) (tb : List (Option Nat)) (d : Option Nat) (ty : TypeId) (p : String) (af : Array Edge) (r : List Oper) (K : St → Prop) (s : St) (op : UnOp) (t : TypeId) (x : Operand), AOps P N tb (Oper.mk d (Op.unOp op t x) ty p af none :: r) K s = (dstOk N d ∧ unOk op (s.ev x) ∧ AOps P N tb r K (s.put d (unV (s.ev x))))) ∧
    (∀ (P : Program) (N : Nat) (tb : List (Option Nat)) (d : Option Nat) (ty : TypeId) (p : String) (af : Array Edge) (r : List Oper) (K : St → Prop) (s : St) (t t' : TypeId) (x : Operand), AOps P N tb (Oper.mk d (Op.convert t t' x) ty p af none :: r) K s = (dstOk N d ∧ ((P.underlying t).isSome = true ∧ convOk (P.underlying t') (s.ev x)) ∧ AOps P N tb r K (s.put d (convV (P.underlying t') (s.ev x))))) ∧
    (∀ (P : Program) (N : Nat) (tb : List (Option Nat)) (d : Option Nat) (ty : TypeId) (p : String) (af : Array Edge) (r : List Oper) (K : St → Prop) (s : St) (t : TypeId) (x : Operand) (lo hi : Option Operand), AOps P N tb (Oper.mk d (Op.slice t x lo hi none) ty p af none :: r) K s = (dstOk N d ∧ sliceOk (elemOf P t) (s.ev x) (Option.map s.ev lo) (Option.map s.ev hi) ∧ AOps P N tb r K (s.put d (sliceV (elemOf P t) (s.ev x) (Option.map s.ev lo) (Option.map s.ev hi))))) ∧
    (∀ (P : Program) (N : Nat) (tb : List (Option Nat)) (d : Option Nat) (ty : TypeId) (p : String) (af : Array Edge) (r : List Oper) (K : St → Prop) (s : St) (x : Operand) (t : TypeId), AOps P N tb (Oper.mk d (Op.call (Call.mk (Callee.builtin Builtin.len) #[x] #[t])) ty p af none :: r) K s = (dstOk N d ∧ lenOk (P.underlying t) (s.ev x) ∧ AOps P N tb r K (s.put d (lenV (s.ev x))))) ∧
    (∀ (P : Program) (N : Nat) (tb : List (Option Nat)) (d : Option Nat) (ty : TypeId) (p : String) (af : Array Edge) (r : List Oper) (K : St → Prop) (s : St) (x y : Operand) (t : TypeId), AOps P N tb (Oper.mk d (Op.call (Call.mk (Callee.builtin Builtin.append) #[x, y] #[t, t])) ty p af none :: r) K s = (dstOk N d ∧ appOk P s t (s.ev x) (s.ev y) ∧ AOps P N tb r K (appS P s t (s.ev x) (s.ev y) d))) ∧
    (∀ (P : Program) (N : Nat) (tb : List (Option Nat)) (d : Option Nat) (ty : TypeId) (p : String) (af : Array Edge) (r : List Oper) (K : St → Prop) (s : St) (t : TypeId), AOps P N tb (Oper.mk d (Op.alloc t) ty p af none :: r) K s = (dstOk N d ∧ (zeroV P t).isSome = true ∧ AOps P N tb r K ((St.mk s.sl ((s.nx, Ob.cells (zeroD P t)) :: s.h) (s.nx + 1)).put d (V.ptr s.nx 0)))) ∧
    (∀ (P : Program) (N : Nat) (tb : List (Option Nat)) (d : Option Nat) (ty : TypeId) (p : String) (af : Array Edge) (r : List Oper) (K : St → Prop) (s : St) (t : TypeId) (x : Operand), AOps P N tb (Oper.mk d (Op.box t x) ty p af none :: r) K s = (dstOk N d ∧ isFlat (s.ev x) ∧ AOps P N tb r K ((St.mk s.sl ((s.nx, Ob.cells (s.ev x).cells) :: s.h) (s.nx + 1)).put d (V.ptr s.nx 0)))) ∧
    (∀ (P : Program) (N : Nat) (tb : List (Option Nat)) (d : Option Nat) (ty : TypeId) (p : String) (af : Array Edge) (r : List Oper) (K : St → Prop) (s : St) (t : TypeId) (q x : Operand), AOps P N tb (Oper.mk d (Op.store t q x) ty p af none :: r) K s = (dstOk N d ∧ storeOk (tyOf P t) s.h (s.ev x) (s.ev q) ∧ AOps P N tb r K ((St.mk s.sl (storeH s.h (s.ev x) (s.ev q)) s.nx).put d V.any))) ∧
    (∀ (P : Program) (N : Nat) (tb : List (Option Nat)) (d : Option Nat) (ty : TypeId) (p : String) (af : Array Edge) (r : List Oper) (K : St → Prop) (s : St) (t : TypeId) (ps : List (Nat × Operand)), AOps P N tb (Oper.mk d (Op.build t ps.toArray) ty p af none :: r) K s = (dstOk N d ∧ ((plOf P t).isSome = true ∧ (zeroV P t).isSome = true) ∧ fillOk (plD P t) (zeroD P t) (List.map (fun p ↦ (p.fst, s.ev p.snd)) ps) ∧ AOps P N tb r K (s.put d (V.agg (fillR (plD P t) (zeroD P t) (List.map (fun p ↦ (p.fst, s.ev p.snd)) ps)))))) ∧
    (∀ (P : Program) (N : Nat) (tb : List (Option Nat)) (d : Option Nat) (ty : TypeId) (p : String) (af : Array Edge) (r : List Oper) (K : St → Prop) (s : St) (t : TypeId) (n : Nat) (ps : List (Nat × Operand)), AOps P N tb (Oper.mk d (Op.buildSlice t n ps.toArray) ty p af none :: r) K s = (dstOk N d ∧ litOk P t n (List.map (fun x ↦ x.fst) ps) (List.map (fun p ↦ s.ev p.snd) ps) ∧ AOps P N tb r K ((St.mk s.sl s.h (s.nx + 1)).put d (V.full (rowD P t).fst ((toDs (List.map (fun p ↦ s.ev p.snd) ps)).getD []))))) ∧
    (∀ (P : Program) (N : Nat) (tb : List (Option Nat)) (d : Option Nat) (ty : TypeId) (p : String) (af : Array Edge) (r : List Oper) (K : St → Prop) (s : St) (x : Operand), AOps P N tb (Oper.mk d (Op.nilCheck x) ty p af none :: r) K s = (dstOk N d ∧ nilCkOk (s.ev x) ∧ AOps P N tb r K (s.put d (nilCkV (s.ev x))))) ∧
    (∀ (P : Program) (N : Nat) (tb : List (Option Nat)) (d : Option Nat) (ty : TypeId) (p : String) (af : Array Edge) (r : List Oper) (K : St → Prop) (s : St) (x y : Operand) (ts : Array TypeId), AOps P N tb (Oper.mk d (Op.call (Call.mk (Callee.builtin Builtin.min) #[x, y] ts)) ty p af none :: r) K s = (dstOk N d ∧ twoInts (s.ev x) (s.ev y) ∧ AOps P N tb r K (s.put d (minV (s.ev x) (s.ev y))))) ∧
    (∀ (P : Program) (N : Nat) (tb : List (Option Nat)) (d : Option Nat) (ty : TypeId) (p : String) (af : Array Edge) (r : List Oper) (K : St → Prop) (s : St) (x y : Operand) (ts : Array TypeId), AOps P N tb (Oper.mk d (Op.call (Call.mk (Callee.builtin Builtin.max) #[x, y] ts)) ty p af none :: r) K s = (dstOk N d ∧ twoInts (s.ev x) (s.ev y) ∧ AOps P N tb r K (s.put d (maxV (s.ev x) (s.ev y))))) ∧
    (∀ (P : Program) (N : Nat) (tb : List (Option Nat)) (d : Option Nat) (ty : TypeId) (p : String) (af : Array Edge) (r : List Oper) (K : St → Prop) (s : St) (t : TypeId) (l c : Operand), AOps P N tb (Oper.mk d (Op.makeSlice t l c) ty p af none :: r) K s = (dstOk N d ∧ mkOk P t (s.ev l) (s.ev c) ∧ AOps P N tb r K ((St.mk s.sl ((s.nx, Ob.cells (zrow (natOf (s.ev l)) (elZD P t))) :: s.h) (s.nx + 1)).put d (V.row s.nx 0 (natOf (s.ev l)) (rowD P t).fst)))) ∧
    (∀ (P : Program) (N : Nat) (tb : List (Option Nat)) (d : Option Nat) (ty : TypeId) (p : String) (af : Array Edge) (r : List Oper) (K : St → Prop) (s : St) (x y : Operand) (t t' : TypeId), AOps P N tb (Oper.mk d (Op.call (Call.mk (Callee.builtin Builtin.copy) #[x, y] #[t, t'])) ty p af none :: r) K s = (dstOk N d ∧ copyOk P t s.h (s.ev x) (s.ev y) ∧ AOps P N tb r K ((St.mk s.sl (copyH s.h (s.ev x) (s.ev y)) s.nx).put d (copyN (s.ev x) (s.ev y))))) ∧
    (∀ (sl : List (Nat × V)) (h : Hp) (nx t : Nat) (x : V), (St.mk sl h nx).put (some t) x = St.mk ((t, x) :: sl) h nx) ∧
    (∀ (s : St) (x : V), s.put none x = s) ∧
    (∀ (sl : List (Nat × V)) (h : Hp) (nx t : Nat), (St.mk sl h nx).ev (Operand.tmp t) = getS sl t) ∧
    (∀ (s : St) (v : Value), s.ev (Operand.const v) = V.ofK v) ∧
    (∀ (s : St) (f : FuncId), s.ev (Operand.func f) = V.k (Value.func (Fn.func f) #[] #[])) ∧
    (∀ (i : Nat) (x : V) (r : List (Nat × V)), getS ((i, x) :: r) i = x) ∧
    (∀ (j : Nat), getS [] j = V.any) ∧
    (∀ (i : Nat) (o : Ob) (r : Hp), Hp.get ((i, o) :: r) i = some o) ∧
    (∀ (j : Nat), Hp.get [] j = none) ∧
    (∀ (N t : Nat), dstOk N (some t) = (t < N)) ∧
    (∀ (N : Nat), dstOk N none = True) ∧
    (∀ (q : IntKind) (n : Int), V.ofK (Value.int q n) = V.d (D.int q n)) ∧
    (∀ (b : Bool), V.ofK (Value.bool b) = V.d (D.bool b)) ∧
    (∀ (s : ByteArray), V.ofK (Value.string s) = V.d (D.str s)) ∧
    (V.ofK (Value.slice none 0 0) = V.k (Value.slice none 0 0)) ∧
    (∀ (P : Program) (N : Nat) (tb : List (Option Nat)) (nb S : Nat) (ws rs : List (Nat × Nat)) (k : Nat) (d : Option Nat) (ty : TypeId) (p : String) (af : Array Edge) (r : List Oper) (K : St → Prop) (s : St) (x : Operand), DOps P N tb nb S ws rs k (Oper.mk d (Op.move x) ty p af none :: r) K s = (dstOk N d ∧ DOps P N tb nb S ws rs (k + 1) r K (s.put d (s.ev x)))) ∧
    (∀ (P : Program) (N : Nat) (tb : List (Option Nat)) (nb S : Nat) (ws rs : List (Nat × Nat)) (k : Nat) (d : Option Nat) (ty : TypeId) (p : String) (af : Array Edge) (r : List Oper) (K : St → Prop) (s : St) (x : Operand), DOps P N tb nb S ws rs k (Oper.mk d (Op.assign x) ty p af none :: r) K s = (dstOk N d ∧ DOps P N tb nb S ws rs (k + 1) r K (s.put d (s.ev x)))) ∧
    (∀ (P : Program) (N : Nat) (tb : List (Option Nat)) (nb S : Nat) (ws rs : List (Nat × Nat)) (k : Nat) (d : Option Nat) (ty : TypeId) (p : String) (af : Array Edge) (r : List Oper) (K : St → Prop) (s : St) (c x y : Operand), DOps P N tb nb S ws rs k (Oper.mk d (Op.pick c x y) ty p af none :: r) K s = (dstOk N d ∧ pickOk (s.ev c) ∧ DOps P N tb nb S ws rs (k + 1) r K (s.put d (pickV (s.ev c) (s.ev x) (s.ev y))))) ∧
    (∀ (P : Program) (N : Nat) (tb : List (Option Nat)) (nb S : Nat) (ws rs : List (Nat × Nat)) (k : Nat) (d : Option Nat) (ty : TypeId) (p : String) (af : Array Edge) (r : List Oper) (K : St → Prop) (s : St) (t : TypeId) (x : Operand) (f : Nat), DOps P N tb nb S ws rs k (Oper.mk d (Op.fieldAddr t x f) ty p af none :: r) K s = (dstOk N d ∧ faddrOk (fldOf P t f) (s.ev x) ∧ DOps P N tb nb S ws rs (k + 1) r K (s.put d (faddrV (fldOf P t f) (s.ev x))))) ∧
    (∀ (P : Program) (N : Nat) (tb : List (Option Nat)) (nb S : Nat) (ws rs : List (Nat × Nat)) (k : Nat) (d : Option Nat) (ty : TypeId) (p : String) (af : Array Edge) (r : List Oper) (K : St → Prop) (s : St) (t : TypeId) (x : Operand) (f : Nat), DOps P N tb nb S ws rs k (Oper.mk d (Op.field t x f) ty p af none :: r) K s = (dstOk N d ∧ fieldOk (fldOf P t f) (s.ev x) ∧ DOps P N tb nb S ws rs (k + 1) r K (s.put d (fieldV (fldOf P t f) (s.ev x))))) ∧
    (∀ (P : Program) (N : Nat) (tb : List (Option Nat)) (nb S : Nat) (ws rs : List (Nat × Nat)) (k : Nat) (d : Option Nat) (ty : TypeId) (p : String) (af : Array Edge) (r : List Oper) (K : St → Prop) (s : St) (t : TypeId) (x i : Operand), DOps P N tb nb S ws rs k (Oper.mk d (Op.indexAddr t x i) ty p af none :: r) K s = (dstOk N d ∧ iaddrOk (elemOf P t) (arrOf P t) (s.ev x) (s.ev i) ∧ DOps P N tb nb S ws rs (k + 1) r K (s.put d (iaddrV (elemOf P t) (arrOf P t) (s.ev x) (s.ev i))))) ∧
    (∀ (P : Program) (N : Nat) (tb : List (Option Nat)) (nb S : Nat) (ws rs : List (Nat × Nat)) (k : Nat) (d : Option Nat) (ty : TypeId) (p : String) (af : Array Edge) (r : List Oper) (K : St → Prop) (s : St) (t : TypeId) (x i : Operand), DOps P N tb nb S ws rs k (Oper.mk d (Op.index t x i) ty p af none :: r) K s = (dstOk N d ∧ indexOk P t (arrOf P t) (s.ev x) (s.ev i) ∧ DOps P N tb nb S ws rs (k + 1) r K (s.put d (indexV (arrOf P t) (s.ev x) (s.ev i))))) ∧
    (∀ (P : Program) (N : Nat) (tb : List (Option Nat)) (nb S : Nat) (ws rs : List (Nat × Nat)) (k : Nat) (d : Option Nat) (ty : TypeId) (p : String) (af : Array Edge) (r : List Oper) (K : St → Prop) (s : St) (x : Operand) (i : Nat), DOps P N tb nb S ws rs k (Oper.mk d (Op.extract x i) ty p af none :: r) K s = (dstOk N d ∧ extOk i (s.ev x) ∧ DOps P N tb nb S ws rs (k + 1) r K (s.put d (extV i (s.ev x))))) ∧
    (∀ (P : Program) (N : Nat) (tb : List (Option Nat)) (nb S : Nat) (ws rs : List (Nat × Nat)) (k : Nat) (d : Option Nat) (ty : TypeId) (p : String) (af : Array Edge) (r : List Oper) (K : St → Prop) (s : St) (op : BinOp) (t t' : TypeId) (x y : Operand), DOps P N tb nb S ws rs k (Oper.mk d (Op.binOp op t x y t') ty p af none :: r) K s = (dstOk N d ∧ binOk (eqT P t) (P.underlying t) op (s.ev x) (s.ev y) ∧ DOps P N tb nb S ws rs (k + 1) r K (s.put d (binV op (s.ev x) (s.ev y))))) :=
  ⟨@A_nil, @D_nil, @G_miss, @H_miss, @A_guard_yes, @A_guard_no, @D_guard_yes, @D_guard_no, @A_guard_un, @D_guard_un, @r_growO, @A_move, @A_assign, @A_pick, @A_load, @A_fieldAddr, @A_field, @A_indexAddr, @A_index, @A_extract, @A_binOp, @A_unOp, @A_convert, @A_slice, @A_len, @A_append, @A_alloc, @A_box, @A_store, @A_build, @A_buildSlice, @A_nilCheck, @A_min, @A_max, @A_makeSlice, @A_copy, @S_put, @S_put0, @S_tmp, @S_const, @S_func, @G_hit, @G_nil, @H_hit, @H_nil, @D_some, @D_none, @K_int, @K_bool, @K_str, @K_nil, @D_move, @D_assign, @D_pick, @D_fieldAddr, @D_field, @D_indexAddr, @D_index, @D_extract, @D_binOp⟩

theorem v2 :
    (∀ (P : Program) (N : Nat) (tb : List (Option Nat)) (nb S : Nat) (ws rs : List (Nat × Nat)) (k : Nat) (d : Option Nat) (ty : TypeId) (p : String) (af : Array Edge) (r : List Oper) (K : St → Prop) (s : St) (op : UnOp) (t : TypeId) (x : Operand), DOps P N tb nb S ws rs k (Oper.mk d (Op.unOp op t x) ty p af none :: r) K s = (dstOk N d ∧ unOk op (s.ev x) ∧ DOps P N tb nb S ws rs (k + 1) r K (s.put d (unV (s.ev x))))) ∧
    (∀ (P : Program) (N : Nat) (tb : List (Option Nat)) (nb S : Nat) (ws rs : List (Nat × Nat)) (k : Nat) (d : Option Nat) (ty : TypeId) (p : String) (af : Array Edge) (r : List Oper) (K : St → Prop) (s : St) (t t' : TypeId) (x : Operand), DOps P N tb nb S ws rs k (Oper.mk d (Op.convert t t' x) ty p af none :: r) K s = (dstOk N d ∧ ((P.underlying t).isSome = true ∧ convOk (P.underlying t') (s.ev x)) ∧ DOps P N tb nb S ws rs (k + 1) r K (s.put d (convV (P.underlying t') (s.ev x))))) ∧
    (∀ (P : Program) (N : Nat) (tb : List (Option Nat)) (nb S : Nat) (ws rs : List (Nat × Nat)) (k : Nat) (d : Option Nat) (ty : TypeId) (p : String) (af : Array Edge) (r : List Oper) (K : St → Prop) (s : St) (x : Operand), DOps P N tb nb S ws rs k (Oper.mk d (Op.nilCheck x) ty p af none :: r) K s = (dstOk N d ∧ nilCkOk (s.ev x) ∧ DOps P N tb nb S ws rs (k + 1) r K (s.put d (nilCkV (s.ev x))))) ∧
    (∀ (P : Program) (N : Nat) (tb : List (Option Nat)) (nb S : Nat) (ws rs : List (Nat × Nat)) (k : Nat) (d : Option Nat) (ty : TypeId) (p : String) (af : Array Edge) (r : List Oper) (K : St → Prop) (s : St) (t : TypeId) (x : Operand) (lo hi : Option Operand), DOps P N tb nb S ws rs k (Oper.mk d (Op.slice t x lo hi none) ty p af none :: r) K s = (dstOk N d ∧ sliceOk (elemOf P t) (s.ev x) (Option.map s.ev lo) (Option.map s.ev hi) ∧ DOps P N tb nb S ws rs (k + 1) r K (s.put d (sliceV (elemOf P t) (s.ev x) (Option.map s.ev lo) (Option.map s.ev hi))))) ∧
    (∀ (P : Program) (N : Nat) (tb : List (Option Nat)) (nb S : Nat) (ws rs : List (Nat × Nat)) (k : Nat) (d : Option Nat) (ty : TypeId) (p : String) (af : Array Edge) (r : List Oper) (K : St → Prop) (s : St) (x : Operand) (t : TypeId), DOps P N tb nb S ws rs k (Oper.mk d (Op.call (Call.mk (Callee.builtin Builtin.len) #[x] #[t])) ty p af none :: r) K s = (dstOk N d ∧ lenOk (P.underlying t) (s.ev x) ∧ DOps P N tb nb S ws rs (k + 1) r K (s.put d (lenV (s.ev x))))) ∧
    (∀ (P : Program) (N : Nat) (tb : List (Option Nat)) (nb S : Nat) (ws rs : List (Nat × Nat)) (k : Nat) (d : Option Nat) (ty : TypeId) (p : String) (af : Array Edge) (r : List Oper) (K : St → Prop) (s : St) (x y : Operand) (ts : Array TypeId), DOps P N tb nb S ws rs k (Oper.mk d (Op.call (Call.mk (Callee.builtin Builtin.min) #[x, y] ts)) ty p af none :: r) K s = (dstOk N d ∧ twoInts (s.ev x) (s.ev y) ∧ DOps P N tb nb S ws rs (k + 1) r K (s.put d (minV (s.ev x) (s.ev y))))) ∧
    (∀ (P : Program) (N : Nat) (tb : List (Option Nat)) (nb S : Nat) (ws rs : List (Nat × Nat)) (k : Nat) (d : Option Nat) (ty : TypeId) (p : String) (af : Array Edge) (r : List Oper) (K : St → Prop) (s : St) (x y : Operand) (ts : Array TypeId), DOps P N tb nb S ws rs k (Oper.mk d (Op.call (Call.mk (Callee.builtin Builtin.max) #[x, y] ts)) ty p af none :: r) K s = (dstOk N d ∧ twoInts (s.ev x) (s.ev y) ∧ DOps P N tb nb S ws rs (k + 1) r K (s.put d (maxV (s.ev x) (s.ev y))))) ∧
    (∀ (P : Program) (N : Nat) (tb : List (Option Nat)) (nb S : Nat) (ws rs : List (Nat × Nat)) (k : Nat) (d : Option Nat) (ty : TypeId) (p : String) (af : Array Edge) (r : List Oper) (K : St → Prop) (s : St) (t : TypeId) (ps : List (Nat × Operand)), DOps P N tb nb S ws rs k (Oper.mk d (Op.build t ps.toArray) ty p af none :: r) K s = (dstOk N d ∧ (((plOf P t).isSome = true ∧ (zeroV P t).isSome = true) ∧ fillOk (plD P t) (zeroD P t) (List.map (fun p ↦ (p.fst, s.ev p.snd)) ps)) ∧ DOps P N tb nb S ws rs (k + 1) r K (s.put d (V.agg (fillR (plD P t) (zeroD P t) (List.map (fun p ↦ (p.fst, s.ev p.snd)) ps)))))) ∧
    (∀ (P : Program) (N : Nat) (tb : List (Option Nat)) (nb S : Nat) (ws rs : List (Nat × Nat)) (k : Nat) (d : Option Nat) (ty : TypeId) (p : String) (af : Array Edge) (r : List Oper) (K : St → Prop) (s : St) (t : TypeId) (n : Nat) (ps : List (Nat × Operand)), DOps P N tb nb S ws rs k (Oper.mk d (Op.buildSlice t n ps.toArray) ty p af none :: r) K s = (dstOk N d ∧ (litOk P t n (List.map (fun x ↦ x.fst) ps) (List.map (fun p ↦ s.ev p.snd) ps) ∧ 0 < S) ∧ DOps P N tb nb S ws rs (k + 1) r K (s.put d (V.full (rowD P t).fst ((toDs (List.map (fun p ↦ s.ev p.snd) ps)).getD []))))) ∧
    (∀ (P : Program) (N : Nat) (tb : List (Option Nat)) (nb S : Nat) (ws rs : List (Nat × Nat)) (k : Nat) (d : Option Nat) (ty : TypeId) (p : String) (af : Array Edge) (r : List Oper) (K : St → Prop) (s : St) (t : TypeId) (x : Operand), DOps P N tb nb S ws rs k (Oper.mk d (Op.load t x) ty p af none :: r) K s = (dstOk N d ∧ (loadOk (tyOf P t) s.h (s.ev x) ∧ rdOk ws af (rdV (s.ev x))) ∧ DOps P N tb nb S ws (List.map (fun x ↦ (x, k)) (rdV (s.ev x)) ++ rs) (k + 1) r K (s.put d (loadV (tyOf P t) s.h (s.ev x))))) ∧
    (∀ (P : Program) (N : Nat) (tb : List (Option Nat)) (nb S : Nat) (ws rs : List (Nat × Nat)) (k : Nat) (d : Option Nat) (ty : TypeId) (p : String) (af : Array Edge) (r : List Oper) (K : St → Prop) (s : St) (t : TypeId), DOps P N tb nb S ws rs k (Oper.mk d (Op.alloc t) ty p af none :: r) K s = (dstOk N d ∧ (((zeroV P t).isSome = true ∧ 0 < S) ∧ wrOk nb S k ws rs af s.h [frs nb S k]) ∧ DOps P N tb nb S ((frs nb S k, k) :: ws) rs (k + 1) r K ((St.mk s.sl ((frs nb S k, Ob.cells (zeroD P t)) :: s.h) s.nx).put d (V.ptr (frs nb S k) 0)))) ∧
    (∀ (P : Program) (N : Nat) (tb : List (Option Nat)) (nb S : Nat) (ws rs : List (Nat × Nat)) (k : Nat) (d : Option Nat) (ty : TypeId) (p : String) (af : Array Edge) (r : List Oper) (K : St → Prop) (s : St) (t : TypeId) (x : Operand), DOps P N tb nb S ws rs k (Oper.mk d (Op.box t x) ty p af none :: r) K s = (dstOk N d ∧ ((isFlat (s.ev x) ∧ 0 < S) ∧ wrOk nb S k ws rs af s.h [frs nb S k]) ∧ DOps P N tb nb S ((frs nb S k, k) :: ws) rs (k + 1) r K ((St.mk s.sl ((frs nb S k, Ob.cells (s.ev x).cells) :: s.h) s.nx).put d (V.ptr (frs nb S k) 0)))) ∧
    (∀ (P : Program) (N : Nat) (tb : List (Option Nat)) (nb S : Nat) (ws rs : List (Nat × Nat)) (k : Nat) (d : Option Nat) (ty : TypeId) (p : String) (af : Array Edge) (r : List Oper) (K : St → Prop) (s : St) (t : TypeId) (l c : Operand), DOps P N tb nb S ws rs k (Oper.mk d (Op.makeSlice t l c) ty p af none :: r) K s = (dstOk N d ∧ ((mkOk P t (s.ev l) (s.ev c) ∧ 0 < S) ∧ wrOk nb S k ws rs af s.h [frs nb S k]) ∧ DOps P N tb nb S ((frs nb S k, k) :: ws) rs (k + 1) r K ((St.mk s.sl ((frs nb S k, Ob.cells (zrow (natOf (s.ev l)) (elZD P t))) :: s.h) s.nx).put d (V.row (frs nb S k) 0 (natOf (s.ev l)) (rowD P t).fst)))) ∧
    (∀ (P : Program) (N : Nat) (tb : List (Option Nat)) (nb S : Nat) (ws rs : List (Nat × Nat)) (k : Nat) (d : Option Nat) (ty : TypeId) (p : String) (af : Array Edge) (r : List Oper) (K : St → Prop) (s : St) (t : TypeId) (q x : Operand), DOps P N tb nb S ws rs k (Oper.mk d (Op.store t q x) ty p af none :: r) K s = (dstOk N d ∧ (storeOk (tyOf P t) s.h (s.ev x) (s.ev q) ∧ wrOk nb S k ws rs af s.h (rdV (s.ev q))) ∧ DOps P N tb nb S (List.map (fun x ↦ (x, k)) (rdV (s.ev q)) ++ ws) rs (k + 1) r K ((St.mk s.sl (storeH s.h (s.ev x) (s.ev q)) s.nx).put d V.any))) ∧
    (∀ (ty : Option (Bool × Nat)) (h : Hp) (id off : Nat), loadV ty h (V.ptr id off) = loadO ty off (h.get id)) ∧
    (∀ (ty : Option (Bool × Nat)) (h : Hp) (id off : Nat), loadOk ty h (V.ptr id off) = loadOO ty off (h.get id)) ∧
    (∀ (a : Bool) (n : Nat) (h : Hp) (x : V) (id off : Nat), storeOk (some (a, n)) h x (V.ptr id off) = storeO x n off (h.get id)) ∧
    (∀ (h : Hp) (x : V) (id off : Nat), storeH h x (V.ptr id off) = storeHO h x id off (h.get id)) ∧
    (∀ (sl : List (Nat × V)) (h : Hp) (nx tok sz : Nat) (l : List D), growA (St.mk sl h nx) sz (V.own tok sz l) = growO tok nx l (h.get tok)) ∧
    (∀ (sl : List (Nat × V)) (h : Hp) (nx sz : Nat) (l : List D), growA (St.mk sl h nx) sz (V.full sz l) = some (nx, nx + 1, l)) ∧
    (∀ (sl : List (Nat × V)) (h : Hp) (nx sz : Nat), growA (St.mk sl h nx) sz (V.k (Value.slice none 0 0)) = some (nx, nx + 1, [])) ∧
    (∀ (sz : Nat) (l : List D), V.elsD sz (V.d (D.slice sz l)) = l) ∧
    (∀ (t sz : Nat) (l : List D), V.elsD sz (V.own t sz l) = l) ∧
    (∀ (sz : Nat) (l : List D), V.elsD sz (V.full sz l) = l) ∧
    (∀ (sz : Nat), V.elsD sz (V.k (Value.slice none 0 0)) = []) ∧
    (∀ (sz : Nat) (l : List D), isEls sz (V.d (D.slice sz l)) = True) ∧
    (∀ (t sz : Nat) (l : List D), isEls sz (V.own t sz l) = True) ∧
    (∀ (sz : Nat) (l : List D), isEls sz (V.full sz l) = True) ∧
    (∀ (sz : Nat), isEls sz (V.k (Value.slice none 0 0)) = True) ∧
    (∀ (op : BinOp) (k : IntKind), sameK op k k = True) ∧
    (∀ (t p q : Bool), pickV (V.d (D.bool t)) (V.d (D.bool p)) (V.d (D.bool q)) = V.d (D.bool (bif t then p else q))) ∧
    (∀ (t : Bool), pickOk (V.d (D.bool t)) = True) ∧
    (∀ (g : Bool) (sz : Nat) (l : List D) (lo hi : Option V), sliceV (some (g, sz)) (V.d (D.slice sz l)) lo hi = V.d (D.slice sz (List.drop (bnd 0 lo) (List.take (bnd l.length hi) l)))) ∧
    (∀ (g : Bool) (t sz : Nat) (l : List D) (lo hi : Option V), sliceV (some (g, sz)) (V.own t sz l) lo hi = V.d (D.slice sz (List.drop (bnd 0 lo) (List.take (bnd l.length hi) l)))) ∧
    (∀ (g : Bool) (sz : Nat) (l : List D) (lo : Option V) (hi : V), sliceV (some (g, sz)) (V.full sz l) lo (some hi) = V.d (D.slice sz (List.drop (bnd 0 lo) (List.take (bnd l.length (some hi)) l)))) ∧
    (∀ (g : Bool) (sz : Nat) (l : List D) (lo : Option V), sliceV (some (g, sz)) (V.full sz l) lo none = V.full sz (List.drop (bnd 0 lo) l)) ∧
    (∀ (d : Nat), bnd d none = d) ∧
    (∀ (d : Nat) (q : IntKind) (n : Int), bnd d (some (V.d (D.int q n))) = n.toNat) ∧
    (∀ (d : Nat), (boundA d none).getD 0 = (↑d : Int)) ∧
    (∀ (d : Nat) (q : IntKind) (n : Int), (boundA d (some (V.d (D.int q n)))).getD 0 = n) ∧
    (toDs [] = some []) ∧
    (∀ (x : V) (l : List V), toDs (x :: l) = x.toD.bind fun d ↦ (toDs l).bind fun ds ↦ some (d :: ds)) ∧
    (∀ (l : List V), (V.agg l).toD = Option.map D.agg (toD1s l)) ∧
    (toD1s [] = some []) ∧
    (∀ (x : V) (l : List V), toD1s (x :: l) = x.toD1.bind fun d ↦ (toD1s l).bind fun ds ↦ some (d :: ds)) ∧
    (∀ (s : St) (tb : List (Option Nat)) (j : Nat), guardV s tb j = match tb[j]? with | some (some t) => getS s.sl t | _ => V.any) ∧
    (∀ (l : List V) (n : Nat), (V.agg l).flat n = (l.length = n ∧ ∀ (c : V), c ∈ l → c.one = true)) ∧
    (∀ (x : D) (n : Nat), (V.d x).flat n = (1 = n ∧ x.one = true)) ∧
    (∀ (i o n : Nat), (V.ptr i o).flat n = (1 = n)) ∧
    (∀ (t s : Nat) (l : List D) (n : Nat), (V.own t s l).flat n = (1 = n)) ∧
    (∀ (s : Nat) (l : List D) (n : Nat), (V.full s l).flat n = (1 = n)) ∧
    (∀ (v : Value) (n : Nat), (V.k v).flat n = (1 = n ∧ v.oneCell' = true)) ∧
    (∀ (l : List V), isFlat (V.agg l) = ∀ (c : V), c ∈ l → c.one = true) ∧
    (∀ (a : Bool) (n off : Nat) (l : List V), loadO (some (a, n)) off (some (Ob.cells l)) = partOf a n l off) ∧
    (∀ (a : Bool) (n off : Nat) (l : List V), loadOO (some (a, n)) off (some (Ob.cells l)) = partOk a n l off) ∧
    (∀ (a : Bool) (n : Nat) (ds : List D) (h : Hp), loadV (some (a, n)) h (V.ro ds) = partOf a n (List.map V.d ds) 0) ∧
    (∀ (a : Bool) (n : Nat) (ds : List D) (h : Hp), loadOk (some (a, n)) h (V.ro ds) = partOk a n (List.map V.d ds) 0) ∧
    (∀ (n off : Nat) (l : List V), partOf true n l off = V.agg (List.take n (List.drop off l))) ∧
    (∀ (n off : Nat) (l : List V), partOf false n l off = l[off]?.getD V.any) ∧
    (∀ (n off : Nat) (l : List V), partOk true n l off = (off + n ≤ l.length)) :=
  ⟨@D_unOp, @D_convert, @D_nilCheck, @D_slice, @D_len, @D_min, @D_max, @D_build, @D_buildSlice, @D_load, @D_alloc, @D_box, @D_makeSlice, @D_store, @r_loadV, @r_loadOk, @r_storeOk, @r_storeH, @r_growOwn, @r_growFull, @r_growNil, @r_elsD, @r_elsO, @r_elsF, @r_elsN, @r_isD, @r_isO, @r_isF, @r_isN, @r_sameK, @r_pickB, @r_pickOk, @r_sliceD, @r_sliceO, @r_sliceF, @r_sliceFn, @r_bnd0, @r_bnd1, @r_bA0, @r_bA1, @r_toDs0, @r_toDs1, @r_toDagg, @r_toD1s0, @r_toD1s1, @r_guard, @r_flatAgg, @r_flatD, @r_flatP, @r_flatO, @r_flatF, @r_flatK, @r_isFlatAgg, @e_loadO, @e_loadOO, @e_loadR, @e_loadRO, @e_partT, @e_partF, @e_partOT⟩

theorem v3 :
    (∀ (n off : Nat) (l : List V), partOk false n l off = (off < l.length)) ∧
    (∀ (a : Bool) (n off o id : Nat), faddrV (some (o, a, n)) (V.ptr id off) = V.ptr id (off + o)) ∧
    (∀ (a : Bool) (n o : Nat) (ds : List D), faddrV (some (o, a, n)) (V.ro ds) = V.ro (List.drop o ds)) ∧
    (∀ (a : Bool) (n off o id : Nat), faddrOk (some (o, a, n)) (V.ptr id off) = True) ∧
    (∀ (a : Bool) (n o : Nat) (ds : List D), faddrOk (some (o, a, n)) (V.ro ds) = True) ∧
    (∀ (a : Bool) (n o : Nat) (l : List V), fieldV (some (o, a, n)) (V.agg l) = partOf a n l o) ∧
    (∀ (a : Bool) (n o : Nat) (l : List V), fieldOk (some (o, a, n)) (V.agg l) = partOk a n l o) ∧
    (∀ (g : Bool) (sz : Nat) (q : IntKind) (i : Int) (ar : Option (Nat × Bool × Nat)) (dd : D), iaddrV (some (g, sz)) ar (V.d dd) (V.d (D.int q i)) = V.ro (elt (V.elsD sz (V.d dd)) i.toNat).cells) ∧
    (∀ (g : Bool) (n m sz : Nat) (ds : List D) (q : IntKind) (i : Int) (ar : Option (Nat × Bool × Nat)), iaddrV (some (g, sz)) ar (V.own n m ds) (V.d (D.int q i)) = V.ro (elt (V.elsD sz (V.own n m ds)) i.toNat).cells) ∧
    (∀ (g : Bool) (m sz : Nat) (ds : List D) (q : IntKind) (i : Int) (ar : Option (Nat × Bool × Nat)), iaddrV (some (g, sz)) ar (V.full m ds) (V.d (D.int q i)) = V.ro (elt (V.elsD sz (V.full m ds)) i.toNat).cells) ∧
    (∀ (n off id sz : Nat) (q : IntKind) (i : Int) (ar : Option (Nat × Bool × Nat)) (el : Option (Bool × Nat)), iaddrV el ar (V.row id off n sz) (V.d (D.int q i)) = V.ptr id (off + i.toNat * sz)) ∧
    (∀ (g : Bool) (n m off id sz : Nat) (q : IntKind) (i : Int) (ar : Option (Nat × Bool × Nat)), iaddrOk (some (g, m)) ar (V.row id off n sz) (V.d (D.int q i)) = (m = sz ∧ 0 ≤ i ∧ i < (↑n : Int))) ∧
    (∀ (g : Bool) (sz : Nat) (q : IntKind) (i : Int) (ar : Option (Nat × Bool × Nat)) (dd : D), iaddrOk (some (g, sz)) ar (V.d dd) (V.d (D.int q i)) = (isEls sz (V.d dd) ∧ 0 ≤ i ∧ i < (↑(V.elsD sz (V.d dd)).length : Int))) ∧
    (∀ (g : Bool) (n m sz : Nat) (ds : List D) (q : IntKind) (i : Int) (ar : Option (Nat × Bool × Nat)), iaddrOk (some (g, sz)) ar (V.own n m ds) (V.d (D.int q i)) = (isEls sz (V.own n m ds) ∧ 0 ≤ i ∧ i < (↑(V.elsD sz (V.own n m ds)).length : Int))) ∧
    (∀ (g : Bool) (m sz : Nat) (ds : List D) (q : IntKind) (i : Int) (ar : Option (Nat × Bool × Nat)), iaddrOk (some (g, sz)) ar (V.full m ds) (V.d (D.int q i)) = (isEls sz (V.full m ds) ∧ 0 ≤ i ∧ i < (↑(V.elsD sz (V.full m ds)).length : Int))) ∧
    (∀ (g : Bool) (n off id sz : Nat) (q : IntKind) (i : Int), iaddrV none (some (n, g, sz)) (V.ptr id off) (V.d (D.int q i)) = V.ptr id (off + i.toNat * sz)) ∧
    (∀ (g : Bool) (n off id sz : Nat) (q : IntKind) (i : Int), iaddrOk none (some (n, g, sz)) (V.ptr id off) (V.d (D.int q i)) = (0 ≤ i ∧ i < (↑n : Int))) ∧
    (∀ (g : Bool) (n sz : Nat) (ds : List D) (q : IntKind) (i : Int), iaddrV none (some (n, g, sz)) (V.ro ds) (V.d (D.int q i)) = V.ro (List.drop (i.toNat * sz) ds)) ∧
    (∀ (g : Bool) (n sz : Nat) (ds : List D) (q : IntKind) (i : Int), iaddrOk none (some (n, g, sz)) (V.ro ds) (V.d (D.int q i)) = (0 ≤ i ∧ i < (↑n : Int))) ∧
    (∀ (g : Bool) (n sz : Nat) (l : List V) (q : IntKind) (i : Int), indexV (some (n, g, sz)) (V.agg l) (V.d (D.int q i)) = partOf g sz l (i.toNat * sz)) ∧
    (∀ (n : Nat) (l : List V), extV n (V.tup l) = l[n]?.getD V.any) ∧
    (∀ (n : Nat) (l : List V), extOk n (V.tup l) = (n < l.length)) ∧
    (∀ (sz : Nat) (ds : List D), lenV (V.d (D.slice sz ds)) = V.d (D.int IntKind.i64 (↑ds.length : Int))) ∧
    (∀ (n sz : Nat) (ds : List D), lenV (V.own n sz ds) = V.d (D.int IntKind.i64 (↑ds.length : Int))) ∧
    (∀ (sz : Nat) (ds : List D), lenV (V.full sz ds) = V.d (D.int IntKind.i64 (↑ds.length : Int))) ∧
    (∀ (n off id sz : Nat), lenV (V.row id off n sz) = V.d (D.int IntKind.i64 (↑n : Int))) ∧
    (∀ (n off id sz : Nat) (e : TypeId), lenOk (some (TypeDesc.slice e)) (V.row id off n sz) = True) ∧
    (lenV (V.k (Value.slice none 0 0)) = V.d (D.int IntKind.i64 0)) ∧
    (∀ (s : ByteArray), lenV (V.d (D.str s)) = V.d (D.int IntKind.i64 (↑s.size : Int))) ∧
    (∀ (sz : Nat) (ds : List D) (e : TypeId), lenOk (some (TypeDesc.slice e)) (V.d (D.slice sz ds)) = True) ∧
    (∀ (n sz : Nat) (ds : List D) (e : TypeId), lenOk (some (TypeDesc.slice e)) (V.own n sz ds) = True) ∧
    (∀ (sz : Nat) (ds : List D) (e : TypeId), lenOk (some (TypeDesc.slice e)) (V.full sz ds) = True) ∧
    (∀ (e : TypeId), lenOk (some (TypeDesc.slice e)) (V.k (Value.slice none 0 0)) = True) ∧
    (∀ (s : ByteArray), lenOk (some TypeDesc.string) (V.d (D.str s)) = True) ∧
    (∀ (q q' : IntKind) (i j : Int) (op : BinOp), binV op (V.d (D.int q i)) (V.d (D.int q' j)) = intV op q i j) ∧
    (∀ (q q' : IntKind) (i j : Int) (et : Option (List TypeDesc)) (ud : Option TypeDesc) (op : BinOp), binOk et ud op (V.d (D.int q i)) (V.d (D.int q' j)) = (sameK op q q' ∧ intOk op j)) ∧
    (∀ (l : List V) (op : BinOp) (m : List V), binV op (V.agg l) (V.agg m) = aggV op (eqL l m)) ∧
    (∀ (l : List V) (ts : List TypeDesc) (ud : Option TypeDesc) (op : BinOp) (m : List V), binOk (some ts) ud op (V.agg l) (V.agg m) = (isEq op ∧ eqLOk ts l m)) ∧
    (∀ (b : Bool), aggV BinOp.eql b = V.d (D.bool b)) ∧
    (∀ (b : Bool), aggV BinOp.neq b = V.d (D.bool !b)) ∧
    (isEq BinOp.eql = True) ∧
    (isEq BinOp.neq = True) ∧
    (∀ (l : List V) (x y : V) (m : List V), eqL (x :: l) (y :: m) = (eqCell x y && eqL l m)) ∧
    (eqL [] [] = true) ∧
    (∀ (l : List V) (x y : V) (t : TypeDesc) (ts : List TypeDesc) (m : List V), eqLOk (t :: ts) (x :: l) (y :: m) = (eqCellOk t x y ∧ eqLOk ts l m)) ∧
    (eqLOk [] [] [] = True) ∧
    (∀ (q q' : IntKind) (i j : Int), eqCell (V.d (D.int q i)) (V.d (D.int q' j)) = (i == j)) ∧
    (∀ (b c : Bool), eqCell (V.d (D.bool b)) (V.d (D.bool c)) = (b == c)) ∧
    (∀ (s s' : ByteArray), eqCell (V.d (D.str s)) (V.d (D.str s')) = (s == s')) ∧
    (∀ (q : IntKind) (i j : Int) (k : IntKind), eqCellOk (TypeDesc.int k) (V.d (D.int q i)) (V.d (D.int q j)) = True) ∧
    (∀ (b c : Bool), eqCellOk TypeDesc.bool (V.d (D.bool b)) (V.d (D.bool c)) = True) ∧
    (∀ (s s' : ByteArray), eqCellOk TypeDesc.string (V.d (D.str s)) (V.d (D.str s')) = True) ∧
    (∀ (dd : D), isNilV (V.d dd) = false) ∧
    (∀ (l : List V), isNilV (V.agg l) = false) ∧
    (isNilV (V.k (Value.pointer none)) = false) ∧
    (isNilV (V.k (Value.map none)) = false) ∧
    (∀ (n sz : Nat) (ds : List D), isNilV (V.own n sz ds) = false) ∧
    (∀ (sz : Nat) (ds : List D), isNilV (V.full sz ds) = false) ∧
    (∀ (n off id sz : Nat), isNilV (V.row id off n sz) = false) ∧
    (∀ (n off id sz : Nat), nilOk (V.row id off n sz) = True) :=
  ⟨@e_partOF, @e_faP, @e_faR, @e_faOP, @e_faOR, @e_fld, @e_fldO, @e_ia, @e_iaOw, @e_iaFu, @e_iaW, @e_iaWO, @e_iaO, @e_iaOwO, @e_iaFuO, @e_iaP, @e_iaPO, @e_iaR, @e_iaRO, @e_ix, @e_ext, @e_extO, @e_lenD, @e_lenO, @e_lenF, @e_lenW, @e_lenOW, @e_lenN, @e_lenS, @e_lenOD, @e_lenOO, @e_lenOF, @e_lenON, @e_lenOS, @e_bin, @e_binO, @e_binA, @e_binAO, @e_aggE, @e_aggN, @e_isE, @e_isN, @e_eqL1, @e_eqL0, @e_eqLO1, @e_eqLO0, @e_eqCI, @e_eqCB, @e_eqCS, @e_eqCIO, @e_eqCBO, @e_eqCSO, @e_nvD, @e_nvA, @e_nvPn, @e_nvMn, @e_nvO, @e_nvF, @e_nvW, @e_noW⟩

theorem v4 :
    (∀ (n off id sz : Nat), nilMay (V.row id off n sz) = False) ∧
    (V.ofK (Value.pointer none) = V.k (Value.pointer none)) ∧
    (V.ofK (Value.map none) = V.k (Value.map none)) ∧
    (∀ (b c : Bool) (op : BinOp), binV op (V.d (D.bool b)) (V.d (D.bool c)) = aggV op (b == c)) ∧
    (∀ (b c : Bool) (et : Option (List TypeDesc)) (op : BinOp), binOk et (some TypeDesc.bool) op (V.d (D.bool b)) (V.d (D.bool c)) = isEq op) ∧
    (∀ (op : BinOp) (s s' : ByteArray), binV op (V.d (D.str s)) (V.d (D.str s')) = aggV op (s.toList == s'.toList)) ∧
    (∀ (et : Option (List TypeDesc)) (ud : Option TypeDesc) (op : BinOp) (s s' : ByteArray), binOk et ud op (V.d (D.str s)) (V.d (D.str s')) = isEq op) ∧
    (∀ (off id : Nat) (op : BinOp), binV op (V.ptr id off) (V.k (Value.pointer none)) = aggV op false) ∧
    (∀ (off id : Nat) (et : Option (List TypeDesc)) (t : TypeId) (op : BinOp), binOk et (some (TypeDesc.pointer t)) op (V.ptr id off) (V.k (Value.pointer none)) = isEq op) ∧
    (∀ (ds : List D) (op : BinOp), binV op (V.ro ds) (V.k (Value.pointer none)) = aggV op false) ∧
    (∀ (ds : List D) (et : Option (List TypeDesc)) (t : TypeId) (op : BinOp), binOk et (some (TypeDesc.pointer t)) op (V.ro ds) (V.k (Value.pointer none)) = isEq op) ∧
    (∀ (op : BinOp), binV op (V.k (Value.pointer none)) (V.k (Value.pointer none)) = aggV op true) ∧
    (∀ (et : Option (List TypeDesc)) (t : TypeId) (op : BinOp), binOk et (some (TypeDesc.pointer t)) op (V.k (Value.pointer none)) (V.k (Value.pointer none)) = isEq op) ∧
    (∀ (id : Nat) (op : BinOp), binV op (V.mp id) (V.k (Value.map none)) = aggV op false) ∧
    (∀ (id : Nat) (et : Option (List TypeDesc)) (t t' : TypeId) (op : BinOp), binOk et (some (TypeDesc.map t t')) op (V.mp id) (V.k (Value.map none)) = isEq op) ∧
    (∀ (op : BinOp), binV op (V.k (Value.map none)) (V.k (Value.map none)) = aggV op true) ∧
    (∀ (et : Option (List TypeDesc)) (t t' : TypeId) (op : BinOp), binOk et (some (TypeDesc.map t t')) op (V.k (Value.map none)) (V.k (Value.map none)) = isEq op) ∧
    (∀ (off id : Nat), nilCkV (V.ptr id off) = V.ptr id off) ∧
    (∀ (off id : Nat), nilCkOk (V.ptr id off) = True) ∧
    (∀ (ds : List D), nilCkV (V.ro ds) = V.ro ds) ∧
    (∀ (ds : List D), nilCkOk (V.ro ds) = True) ∧
    (∀ (q q' : IntKind) (i j : Int), minV (V.d (D.int q i)) (V.d (D.int q' j)) = V.d (D.int q (if j < i then j else i))) ∧
    (∀ (q q' : IntKind) (i j : Int), maxV (V.d (D.int q i)) (V.d (D.int q' j)) = V.d (D.int q (if i < j then j else i))) ∧
    (∀ (q q' : IntKind) (i j : Int), twoInts (V.d (D.int q i)) (V.d (D.int q' j)) = True) ∧
    (∀ (q q' : IntKind) (i j : Int) (P : Program) (t : TypeId), mkOk P t (V.d (D.int q i)) (V.d (D.int q' j)) = (((rowOf P t).isSome = true ∧ (elZ P t).isSome = true) ∧ 0 ≤ i ∧ i ≤ j ∧ j.toNat * (rowD P t).snd ≤ 140737488355328 ∧ j.toNat ≤ maxLen)) ∧
    (∀ (q : IntKind) (i : Int), natOf (V.d (D.int q i)) = i.toNat) ∧
    (∀ (P : Program) (t : TypeId), elZD P t = (elZ P t).getD []) ∧
    (∀ (n : Nat) (x : V), zrow n [x] = List.replicate n x) ∧
    (∀ (n off id sz : Nat) (y : V) (h : Hp) (P : Program) (t : TypeId), copyOk P t h (V.row id off n sz) y = (((rowOf P t).isSome = true ∧ sz = (rowD P t).fst) ∧ isEls sz y ∧ fitsO off (n * sz) (h.get id))) ∧
    (∀ (n off : Nat) (l : List V), fitsO off n (some (Ob.cells l)) = (off + n ≤ l.length)) ∧
    (∀ (n off id sz : Nat) (y : V) (h : Hp), copyH h (V.row id off n sz) y = copyO h id off n (V.elsD sz y) (h.get id)) ∧
    (∀ (n off id : Nat) (l : List V) (ds : List D) (h : Hp), copyO h id off n ds (some (Ob.cells l)) = (id, Ob.cells (setAt l off (List.map V.d (List.flatMap D.cells (List.take (min ds.length n) ds))))) :: h) ∧
    (∀ (n off id sz : Nat) (y : V), copyN (V.row id off n sz) y = V.d (D.int IntKind.i64 (↑(min (V.elsD sz y).length n) : Int))) ∧
    (∀ (n : Nat) (x : V) (h : Hp) (sl : List (Nat × V)) (ids : List Nat) (pre post : List Ob) (d : Option Nat), callS (St.mk sl h n) ids pre post d x = (St.mk sl (hpNew (sgm ids n) 0 post ++ h) (n + (post.length - pre.length))).put d (ren (sgm ids n) x)) ∧
    (∀ (σ : Nat → Nat) (k : Nat), hpNew σ k [] = []) ∧
    (∀ (σ : Nat → Nat) (k : Nat) (ob : Ob) (r : List Ob), hpNew σ k (ob :: r) = (σ k, renO σ ob) :: hpNew σ (k + 1) r) ∧
    (∀ (k : Nat), hpOf k [] = []) ∧
    (∀ (k : Nat) (ob : Ob) (r : List Ob), hpOf k (ob :: r) = (k, ob) :: hpOf (k + 1) r) ∧
    (∀ (fb k : Nat), sgm [] fb k = fb + k) ∧
    (∀ (n fb : Nat) (r : List Nat), sgm (n :: r) fb 0 = n) ∧
    (∀ (n fb k : Nat) (r : List Nat), sgm (n :: r) fb (k + 1) = sgm r fb k) ∧
    (∀ (k : Nat), rh [] k = 0) ∧
    (∀ (n : Nat) (r : List Nat), rh (n :: r) 0 = n) ∧
    (∀ (n k : Nat) (r : List Nat), rh (n :: r) (k + 1) = rh r k) ∧
    (∀ (l : List V) (σ : Nat → Nat), renO σ (Ob.cells l) = Ob.cells (List.map (ren1 σ) l)) ∧
    (∀ (n : Nat) (σ : Nat → Nat), renO σ (Ob.tip n) = Ob.tip n) ∧
    (∀ (σ : Nat → Nat), renO σ Ob.dead = Ob.dead) ∧
    (∀ (σ : Nat → Nat) (es : List (D × V)), renO σ (Ob.map es) = Ob.map (List.map (fun e ↦ (e.fst, ren0 σ e.snd)) es)) ∧
    (∀ (n : Nat) (h : Hp) (σ : Nat → Nat) (fb k : Nat), preOk h σ n fb k [] [] = True) ∧
    (∀ (n : Nat) (h : Hp) (σ : Nat → Nat) (fb k a : Nat) (r : List Nat) (ob : Ob) (os : List Ob), preOk h σ n fb k (a :: r) (ob :: os) = ((a < fb ∧ a < k ∧ obLe (h.get a) (renO σ ob) ∧ okO n ob ∧ notDead ob) ∧ preOk h σ n fb k r os)) ∧
    (∀ (n : Nat) (h : Hp) (σ : Nat → Nat) (k : Nat), postOk h σ n k [] [] = True) ∧
    (∀ (n : Nat) (h : Hp) (σ : Nat → Nat) (k a : Nat) (r : List Nat) (ob : Ob) (os : List Ob), postOk h σ n k (a :: r) (ob :: os) = ((a < k ∧ obLe (h.get a) (renO σ ob) ∧ okO n ob) ∧ postOk h σ n k r os)) ∧
    (∀ (l : List V), notDead (Ob.cells l) = True) ∧
    (∀ (n : Nat), notDead (Ob.tip n) = True) ∧
    (∀ (es : List (D × V)), notDead (Ob.map es) = True) ∧
    (∀ (l : List V), notTip (Ob.cells l) = True) ∧
    (∀ (es : List (D × V)), notTip (Ob.map es) = True) ∧
    (notTip Ob.dead = True) ∧
    (∀ (n S : Nat) (os : List Ob), freshOk S n os = (os.length - n ≤ S ∧ ∀ (o : Ob), o ∈ List.drop n os → notTip o)) ∧
    (∀ (o : Option Ob), obLe o Ob.dead = True) :=
  ⟨@e_nmW, @e_kPn, @e_kMn, @e_binB, @e_binBO, @e_binS, @e_binSO, @e_binP, @e_binPO, @e_binR, @e_binRO, @e_binN, @e_binNO, @e_binM, @e_binMO, @e_binMn, @e_binMnO, @e_nckP, @e_nckPO, @e_nckR, @e_nckRO, @e_min, @e_max, @e_twI, @e_mk, @e_nat, @e_elZD, @e_zr1, @e_cpO, @e_fit, @e_cpH, @e_cpHO, @e_cpN, @e_callS, @e_hn0, @e_hn1, @e_ho0, @e_ho1, @e_sg0, @e_sg1, @e_sg2, @e_rh0, @e_rh1, @e_rh2, @e_roC, @e_roT, @e_roD, @e_roM, @e_po0, @e_po1, @e_qo0, @e_qo1, @e_ndC, @e_ndT, @e_ndM, @e_tpC, @e_tpM, @e_tpD, @e_fo, @s_obD⟩

theorem v5 :
    (∀ (es es' : List (D × V)), obLe (some (Ob.map es)) (Ob.map es') = (es = es')) ∧
    (∀ (n : Nat) (es : List (D × V)), okO n (Ob.map es) = okM n es) ∧
    (∀ (n : Nat), okO n Ob.dead = True) ∧
    (∀ (n : Nat), okM n [] = True) ∧
    (∀ (n : Nat) (e : D × V) (es : List (D × V)), okM n (e :: es) = (ok0 n e.snd ∧ okM n es)) ∧
    (∀ (n off id sz : Nat) (σ : Nat → Nat), ren σ (V.row id off n sz) = V.row (σ id) off n sz) ∧
    (∀ (n off id sz : Nat) (σ : Nat → Nat), ren0 σ (V.row id off n sz) = V.row (σ id) off n sz) ∧
    (∀ (n off id sz : Nat) (σ : Nat → Nat), ren1 σ (V.row id off n sz) = V.row (σ id) off n sz) ∧
    (∀ (id : Nat) (σ : Nat → Nat), ren σ (V.mp id) = V.mp (σ id)) ∧
    (∀ (id : Nat) (σ : Nat → Nat), ren0 σ (V.mp id) = V.mp (σ id)) ∧
    (∀ (id : Nat) (σ : Nat → Nat), ren1 σ (V.mp id) = V.mp (σ id)) ∧
    (∀ (off id : Nat) (σ : Nat → Nat), ren σ (V.ptr id off) = V.ptr (σ id) off) ∧
    (∀ (off id : Nat) (σ : Nat → Nat), ren0 σ (V.ptr id off) = V.ptr (σ id) off) ∧
    (∀ (off id : Nat) (σ : Nat → Nat), ren1 σ (V.ptr id off) = V.ptr (σ id) off) ∧
    (∀ (σ : Nat → Nat) (v : Value), ren0 σ (V.k v) = V.k v) ∧
    (∀ (ds : List D) (σ : Nat → Nat), ren σ (V.ro ds) = V.ro ds) ∧
    (∀ (σ : Nat → Nat), ren σ V.any = V.any) ∧
    (∀ (σ : Nat → Nat), ren0 σ V.any = V.any) ∧
    (∀ (off id : Nat), noTup (V.ptr id off) = True) ∧
    (∀ (v : Value), noTup (V.k v) = True) ∧
    (∀ (n off id sz : Nat), noTup (V.row id off n sz) = True) ∧
    (∀ (id : Nat), noTup (V.mp id) = True) ∧
    (∀ (off id : Nat), notT (V.ptr id off) = True) ∧
    (∀ (v : Value), notT (V.k v) = True) ∧
    (∀ (n off id sz : Nat), notT (V.row id off n sz) = True) ∧
    (∀ (id : Nat), notT (V.mp id) = True) ∧
    (notT V.any = True) ∧
    (∀ (n off id : Nat), ok0 n (V.ptr id off) = (id < n)) ∧
    (∀ (n : Nat) (v : Value), ok0 n (V.k v) = True) ∧
    (∀ (n m off id sz : Nat), ok0 n (V.row id off m sz) = (id < n)) ∧
    (∀ (n id : Nat), ok0 n (V.mp id) = (id < n)) ∧
    (∀ (n m off id sz : Nat), ok1 n (V.row id off m sz) = (id < n)) ∧
    (∀ (n id : Nat), ok1 n (V.mp id) = (id < n)) ∧
    (∀ (n m off id sz : Nat), ok n (V.row id off m sz) = (id < n)) ∧
    (∀ (n id : Nat), ok n (V.mp id) = (id < n)) ∧
    (∀ (n off id sz : Nat), (V.row id off n sz).cells = [V.row id off n sz]) ∧
    (∀ (id : Nat), (V.mp id).cells = [V.mp id]) ∧
    (∀ (n off id sz : Nat), (V.row id off n sz).one = true) ∧
    (∀ (id : Nat), (V.mp id).one = true) ∧
    (∀ (n m off id sz : Nat), (V.row id off n sz).flat m = (1 = m)) ∧
    (∀ (m id : Nat), (V.mp id).flat m = (1 = m)) ∧
    (∀ (G : Gh) (pre : List Ob), (tkOf G pre).nx = pre.length) ∧
    (([] : List Nat).Nodup = True) ∧
    (∀ (n : Nat) (r : List Nat), (n :: r).Nodup = (¬n ∈ r ∧ r.Nodup)) ∧
    (∀ (n : Nat), (n ∈ ([] : List Nat)) = False) ∧
    (∀ (n m : Nat) (r : List Nat), (n ∈ m :: r) = (n = m ∨ n ∈ r)) ∧
    (((0 : Nat) : Int) = 0) ∧
    (((1 : Nat) : Int) = 1) ∧
    (∀ (n : Nat), 0 + n = n) ∧
    (∀ (n : Nat), n + 0 = n) ∧
    (∀ (n : Nat), n - 0 = n) ∧
    ((¬False) = True) ∧
    ((¬True) = False) ∧
    ((False ∨ False) = False) ∧
    (∀ (P : Prop), (True ∨ P) = True) ∧
    (∀ (P : Prop), (P ∨ True) = True) ∧
    (∀ (P : Prop), (False ∨ P) = P) ∧
    (∀ (off id : Nat), isNilV (V.ptr id off) = false) ∧
    (∀ (sz : Nat) (ds : List D), nilOk (V.d (D.slice sz ds)) = True) ∧
    (∀ (n sz : Nat) (ds : List D), nilOk (V.own n sz ds) = True) :=
  ⟨@s_obM, @s_okM, @s_okD, @s_oM0, @s_oM1, @e_r1W, @e_r0W, @e_r1'W, @e_r1M, @e_r0M, @e_r1'M, @e_r1P, @e_r0P, @e_r1'P, @e_r0K, @e_r1R, @e_r1Y, @e_r0Y, @e_ntP, @e_ntK, @e_ntW, @e_ntM, @e_ntp, @e_ntk, @e_ntw, @e_ntm, @e_nty, @e_k0p, @e_k0k, @e_k0w, @e_k0m, @e_k1w, @e_k1m, @e_kkw, @e_kkm, @e_cW, @e_cM, @e_oW, @e_oM, @e_flW, @e_flM, @e_tkn, @s_nd0, @s_nd1, @s_mm0, @s_mm1, @s_c0, @s_c1, @s_z0, @s_a0, @s_s0, @s_nF, @s_nT, @s_oFF, @s_oTl, @s_oTr, @s_oFl, @e_nvP, @e_noD, @e_noO⟩

theorem v6 :
    (∀ (sz : Nat) (ds : List D), nilOk (V.full sz ds) = True) ∧
    (∀ (sz : Nat) (ds : List D), nilMay (V.d (D.slice sz ds)) = (ds = [])) ∧
    (∀ (n sz : Nat) (ds : List D), nilMay (V.own n sz ds) = (ds = [])) ∧
    (∀ (sz : Nat) (ds : List D), nilMay (V.full sz ds) = (ds = [])) ∧
    (∀ (t : TypeId), isSl (some (TypeDesc.slice t)) = True) ∧
    (∀ (n : Nat) (af : Array Edge), wsL [] af n = True) ∧
    (∀ (n m k : Nat) (ws : List (Nat × Nat)) (af : Array Edge), wsL ((m, k) :: ws) af n = ((m = n → edgeB af k = true) ∧ wsL ws af n)) ∧
    (∀ (ws : List (Nat × Nat)) (af : Array Edge), rdOk ws af [] = True) ∧
    (∀ (n : Nat) (ws : List (Nat × Nat)) (af : Array Edge) (r : List Nat), rdOk ws af (n :: r) = (wsL ws af n ∧ rdOk ws af r)) ∧
    (∀ (n : Nat) (h : Hp) (S k : Nat) (ws rs : List (Nat × Nat)) (af : Array Edge), wrOk n S k ws rs af h [] = True) ∧
    (∀ (n m : Nat) (h : Hp) (S k : Nat) (ws rs : List (Nat × Nat)) (af : Array Edge) (r : List Nat), wrOk n S k ws rs af h (m :: r) = ((wsL ws af m ∧ wsL rs af m ∧ m < frs n S (k + 1) ∧ (frs n S k ≤ m ∨ (h.get m).isSome = true)) ∧ wrOk n S k ws rs af h r)) ∧
    (∀ (n S k : Nat), frs n S k = n + k * S) ∧
    (∀ (off id : Nat), rdV (V.ptr id off) = [id]) ∧
    (∀ (ds : List D), rdV (V.ro ds) = []) ∧
    (keys [] = []) ∧
    (∀ (n : Nat) (o : Ob) (r : Hp), keys ((n, o) :: r) = n :: keys r) ∧
    (∀ (n : Nat), edgeB #[] n = false) ∧
    (∀ (n : Nat) (e : Edge) (r : List Edge), edgeB (e :: r).toArray n = (Region.binds Region.Mode.any e && e.on == n || edgeB r.toArray n)) ∧
    (∀ (n : Nat), Region.binds Region.Mode.any (Edge.mk n Ground.data) = true) ∧
    (∀ (n : Nat), Region.binds Region.Mode.any (Edge.mk n Ground.chain) = true) ∧
    (∀ (n : Nat), Region.binds Region.Mode.any (Edge.mk n Ground.guard) = true) ∧
    (∀ (n : Nat), Region.binds Region.Mode.any (Edge.mk n Ground.phase) = true) ∧
    (∀ (n : Nat) (w : Departure), Region.binds Region.Mode.any (Edge.mk n (Ground.textOnly w)) = false) ∧
    (∀ (n : Nat) (w : Departure), Region.binds Region.Mode.any (Edge.mk n (Ground.gcOnly w)) = false) ∧
    (∀ (n : Nat) (g : Ground), (Edge.mk n g).on = n) ∧
    (([0] = List.range 1) = True) ∧
    (([0, 1] = List.range 2) = True) ∧
    (([0, 1, 2] = List.range 3) = True) ∧
    (([0, 1, 2, 3] = List.range 4) = True) ∧
    (∀ (p : Prop), (True → p) = p) ∧
    (∀ (p : Prop), (False → p) = True) ∧
    (∀ (a : Bool), (true && a) = a) ∧
    (∀ (a : Bool), (false && a) = false) ∧
    (∀ (a : Bool), (true || a) = true) ∧
    (∀ (a : Bool), (false || a) = a) ∧
    (∀ (q : IntKind) (i j : Int), intV BinOp.add q i j = V.d (D.int q (q.wrap (i + j)))) ∧
    (∀ (q : IntKind) (i j : Int), intV BinOp.sub q i j = V.d (D.int q (q.wrap (i - j)))) ∧
    (∀ (q : IntKind) (i j : Int), intV BinOp.mul q i j = V.d (D.int q (q.wrap (i * j)))) ∧
    (∀ (q : IntKind) (i j : Int), intV BinOp.quo q i j = V.d (D.int q (q.wrap (i.tdiv j)))) ∧
    (∀ (q : IntKind) (i j : Int), intV BinOp.rem q i j = V.d (D.int q (i.tmod j))) ∧
    (∀ (q : IntKind) (i j : Int), intV BinOp.eql q i j = V.d (D.bool (i == j))) ∧
    (∀ (q : IntKind) (i j : Int), intV BinOp.neq q i j = V.d (D.bool (i != j))) ∧
    (∀ (q : IntKind) (i j : Int), intV BinOp.lss q i j = V.d (D.bool (decide (i < j)))) ∧
    (∀ (q : IntKind) (i j : Int), intV BinOp.leq q i j = V.d (D.bool (decide (i ≤ j)))) ∧
    (∀ (q : IntKind) (i j : Int), intV BinOp.gtr q i j = V.d (D.bool (decide (j < i)))) ∧
    (∀ (q : IntKind) (i j : Int), intV BinOp.geq q i j = V.d (D.bool (decide (j ≤ i)))) ∧
    (∀ (q : IntKind) (i j : Int), intV BinOp.shl q i j = V.d (D.int q (ishl q i j))) ∧
    (∀ (q : IntKind) (i j : Int), intV BinOp.shr q i j = V.d (D.int q (ishr q i j))) ∧
    (∀ (q : IntKind) (i j : Int), intV BinOp.and q i j = V.d (D.int q (iand q i j))) ∧
    (∀ (q : IntKind) (i j : Int), intV BinOp.or q i j = V.d (D.int q (ior q i j))) ∧
    (∀ (q : IntKind) (i j : Int), intV BinOp.xor q i j = V.d (D.int q (ixor q i j))) ∧
    (∀ (q : IntKind) (i j : Int), intV BinOp.andNot q i j = V.d (D.int q (ianot q i j))) ∧
    (∀ (j : Int), intOk BinOp.andNot j = True) ∧
    (∀ (j : Int), intOk BinOp.add j = True) ∧
    (∀ (j : Int), intOk BinOp.sub j = True) ∧
    (∀ (j : Int), intOk BinOp.mul j = True) ∧
    (∀ (j : Int), intOk BinOp.quo j = (j ≠ 0)) ∧
    (∀ (j : Int), intOk BinOp.rem j = (j ≠ 0)) ∧
    (∀ (j : Int), intOk BinOp.eql j = True) ∧
    (∀ (j : Int), intOk BinOp.neq j = True) :=
  ⟨@e_noF, @e_nmD, @e_nmO, @e_nmF, @e_isl, @e_ws0, @e_ws1, @e_rd0, @e_rd1, @e_wr0, @e_wr1, @e_frs, @e_rvP, @e_rvR, @e_ks0, @e_ks1, @e_ed0, @e_ed1, @e_bnD, @e_bnC, @e_bnG, @e_bnP, @e_bnT, @e_bnX, @e_on, @s_rg1, @s_rg2, @s_rg3, @s_rg4, @s_impT, @s_impF, @s_bt, @s_bf, @s_ot, @s_of, @e_add, @e_sub, @e_mul, @e_quo, @e_rem, @e_eql, @e_neq, @e_lss, @e_leq, @e_gtr, @e_geq, @e_shl, @e_shr, @e_and, @e_or, @e_xor, @e_anot, @o_anot, @o_add, @o_sub, @o_mul, @o_quo, @o_rem, @o_eql, @o_neq⟩

theorem v7 :
    (∀ (j : Int), intOk BinOp.lss j = True) ∧
    (∀ (j : Int), intOk BinOp.leq j = True) ∧
    (∀ (j : Int), intOk BinOp.gtr j = True) ∧
    (∀ (j : Int), intOk BinOp.geq j = True) ∧
    (∀ (j : Int), intOk BinOp.shl j = (0 ≤ j)) ∧
    (∀ (j : Int), intOk BinOp.shr j = (0 ≤ j)) ∧
    (∀ (j : Int), intOk BinOp.and j = True) ∧
    (∀ (j : Int), intOk BinOp.or j = True) ∧
    (∀ (j : Int), intOk BinOp.xor j = True) ∧
    (∀ (q q' : IntKind), sameK BinOp.shl q q' = True) ∧
    (∀ (q q' : IntKind), sameK BinOp.shr q q' = True) ∧
    (∀ (b : Bool), unV (V.d (D.bool b)) = V.d (D.bool !b)) ∧
    (∀ (q : IntKind) (i : Int), unV (V.d (D.int q i)) = V.d (D.int q (q.wrap (0 - i)))) ∧
    (∀ (b : Bool), unOk UnOp.not (V.d (D.bool b)) = True) ∧
    (∀ (q : IntKind) (i : Int), unOk UnOp.neg (V.d (D.int q i)) = True) ∧
    (∀ (q q' : IntKind) (i : Int), convV (some (TypeDesc.int q')) (V.d (D.int q i)) = V.d (D.int q' (q'.wrap i))) ∧
    (∀ (q q' : IntKind) (i : Int), convOk (some (TypeDesc.int q')) (V.d (D.int q i)) = True) ∧
    (∀ (g : Bool) (sz : Nat) (dd : D) (lo hi : Option V), sliceOk (some (g, sz)) (V.d dd) lo hi = (isEls sz (V.d dd) ∧ isBnd lo ∧ isBnd hi ∧ 0 ≤ (boundA 0 lo).getD 0 ∧ (boundA 0 lo).getD 0 ≤ (boundA (V.elsD sz (V.d dd)).length hi).getD 0 ∧ (boundA (V.elsD sz (V.d dd)).length hi).getD 0 ≤ (↑(V.elsD sz (V.d dd)).length : Int))) ∧
    (∀ (g : Bool) (n m sz : Nat) (ds : List D) (lo hi : Option V), sliceOk (some (g, sz)) (V.own n m ds) lo hi = (isEls sz (V.own n m ds) ∧ isBnd lo ∧ isBnd hi ∧ 0 ≤ (boundA 0 lo).getD 0 ∧ (boundA 0 lo).getD 0 ≤ (boundA (V.elsD sz (V.own n m ds)).length hi).getD 0 ∧ (boundA (V.elsD sz (V.own n m ds)).length hi).getD 0 ≤ (↑(V.elsD sz (V.own n m ds)).length : Int))) ∧
    (∀ (g : Bool) (m sz : Nat) (ds : List D) (lo hi : Option V), sliceOk (some (g, sz)) (V.full m ds) lo hi = (isEls sz (V.full m ds) ∧ isBnd lo ∧ isBnd hi ∧ 0 ≤ (boundA 0 lo).getD 0 ∧ (boundA 0 lo).getD 0 ≤ (boundA (V.elsD sz (V.full m ds)).length hi).getD 0 ∧ (boundA (V.elsD sz (V.full m ds)).length hi).getD 0 ≤ (↑(V.elsD sz (V.full m ds)).length : Int))) ∧
    (∀ (g : Bool) (sz : Nat) (lo hi : Option V), sliceOk (some (g, sz)) (V.k (Value.slice none 0 0)) lo hi = (isEls sz (V.k (Value.slice none 0 0)) ∧ isBnd lo ∧ isBnd hi ∧ 0 ≤ (boundA 0 lo).getD 0 ∧ (boundA 0 lo).getD 0 ≤ (boundA (V.elsD sz (V.k (Value.slice none 0 0))).length hi).getD 0 ∧ (boundA (V.elsD sz (V.k (Value.slice none 0 0))).length hi).getD 0 ≤ (↑(V.elsD sz (V.k (Value.slice none 0 0))).length : Int))) ∧
    (∀ (g : Bool) (n m off id sz : Nat) (lo hi : Option V), sliceOk (some (g, m)) (V.row id off n sz) lo hi = (m = sz ∧ isBnd lo ∧ isBnd hi ∧ 0 ≤ (boundA 0 lo).getD 0 ∧ (boundA 0 lo).getD 0 ≤ (boundA n hi).getD 0 ∧ (boundA n hi).getD 0 ≤ (↑n : Int))) ∧
    (∀ (n off id sz : Nat) (el : Option (Bool × Nat)) (lo hi : Option V), sliceV el (V.row id off n sz) lo hi = V.row id (off + bnd 0 lo * sz) (bnd n hi - bnd 0 lo) sz) ∧
    (isBnd none = True) ∧
    (∀ (q : IntKind) (i : Int), isBnd (some (V.d (D.int q i))) = True) ∧
    (∀ (n off : Nat) (l : List V) (x : V), storeO x n off (some (Ob.cells l)) = (x.flat n ∧ off + n ≤ l.length)) ∧
    (∀ (off id : Nat) (l : List V) (x : V) (h : Hp), storeHO h x id off (some (Ob.cells l)) = (id, Ob.cells (setAt l off x.cells)) :: h) ∧
    (∀ (off : Nat) (l cs : List V), setAt l off cs = List.take off l ++ cs ++ List.drop (off + cs.length) l) ∧
    (∀ (l : List V), (V.agg l).cells = l) ∧
    (∀ (dd : D), (V.d dd).cells = [V.d dd]) ∧
    (∀ (v : Value), (V.k v).cells = [V.k v]) ∧
    (∀ (off id : Nat), (V.ptr id off).cells = [V.ptr id off]) ∧
    (∀ (n sz : Nat) (ds : List D), (V.own n sz ds).cells = [V.own n sz ds]) ∧
    (∀ (sz : Nat) (ds : List D), (V.full sz ds).cells = [V.full sz ds]) ∧
    (∀ (dd : D), (V.d dd).one = dd.one) ∧
    (∀ (v : Value), (V.k v).one = v.oneCell') ∧
    (∀ (off id : Nat), (V.ptr id off).one = true) ∧
    (∀ (n sz : Nat) (ds : List D), (V.own n sz ds).one = true) ∧
    (∀ (sz : Nat) (ds : List D), (V.full sz ds).one = true) ∧
    (∀ (q : IntKind) (i : Int), (D.int q i).one = true) ∧
    (∀ (b : Bool), (D.bool b).one = true) ∧
    (∀ (s : ByteArray), (D.str s).one = true) ∧
    (∀ (sz : Nat) (ds : List D), (D.slice sz ds).one = true) ∧
    (∀ (q : IntKind) (i : Int), (D.int q i).cells = [D.int q i]) ∧
    (∀ (b : Bool), (D.bool b).cells = [D.bool b]) ∧
    (∀ (sz : Nat) (ds : List D), (D.slice sz ds).cells = [D.slice sz ds]) ∧
    (∀ (ds : List D), (D.agg ds).cells = ds) ∧
    (∀ (P : Program) (t : TypeId), zeroD P t = (zeroV P t).getD []) ∧
    (∀ (P : Program) (t : TypeId), plD P t = (plOf P t).getD []) ∧
    (∀ (P : Program) (t : TypeId), rowD P t = (rowOf P t).getD (0, 0)) ∧
    (∀ (l : List V) (pl : List (Nat × Nat)), fillR pl l [] = l) ∧
    (∀ (n : Nat) (l : List V) (x : V) (pl : List (Nat × Nat)) (ps : List (Nat × V)), fillR pl l ((n, x) :: ps) = match pl[n]? with | some (off, _) => fillR pl (setAt l off x.cells) ps | none => l) ∧
    (∀ (l : List V) (pl : List (Nat × Nat)), fillOk pl l [] = True) ∧
    (∀ (n : Nat) (l : List V) (x : V) (pl : List (Nat × Nat)) (ps : List (Nat × V)), fillOk pl l ((n, x) :: ps) = match pl[n]? with | some (off, m) => x.flat m ∧ off + m ≤ l.length ∧ fillOk pl (setAt l off x.cells) ps | none => False) ∧
    (∀ (dd : D), (V.d dd).toD = some dd) ∧
    (∀ (n sz : Nat) (ds : List D), (V.own n sz ds).toD = some (D.slice sz ds)) ∧
    (∀ (sz : Nat) (ds : List D), (V.full sz ds).toD = some (D.slice sz ds)) ∧
    (∀ (dd : D), (V.d dd).toD1 = some dd) ∧
    (∀ (n sz : Nat) (ds : List D), (V.own n sz ds).toD1 = some (D.slice sz ds)) ∧
    (∀ (sz : Nat) (ds : List D), (V.full sz ds).toD1 = some (D.slice sz ds)) :=
  ⟨@o_lss, @o_leq, @o_gtr, @o_geq, @o_shl, @o_shr, @o_and, @o_or, @o_xor, @k_shl, @k_shr, @e_not, @e_neg, @e_notO, @e_negO, @e_conv, @e_convO, @e_slOD, @e_slOO, @e_slOF, @e_slOK, @e_slOW, @e_slW, @e_bn0, @e_bn1, @e_stO, @e_stH, @e_setAt, @e_cAgg, @e_cD, @e_cK, @e_cP, @e_cO, @e_cF, @e_oD, @e_oK, @e_oP, @e_oO, @e_oF, @e_dI, @e_dB, @e_dS, @e_dL, @e_dcI, @e_dcB, @e_dcL, @e_dcA, @e_zeroD, @e_plD, @e_rowD, @e_fill0, @e_fill1, @e_fillO0, @e_fillO1, @e_tD, @e_tO, @e_tF, @e_t1D, @e_t1O, @e_t1F⟩

theorem v8 :
    (∀ (sz : Nat), sizesOk sz [] = True) ∧
    (∀ (sz : Nat) (ds : List D) (dd : D), sizesOk sz (dd :: ds) = (dd.cells.length = sz ∧ sizesOk sz ds)) ∧
    (∀ (dd : D) (σ : Nat → Nat), ren σ (V.d dd) = V.d dd) ∧
    (∀ (sz : Nat) (ds : List D) (σ : Nat → Nat), ren σ (V.full sz ds) = V.full sz ds) ∧
    (∀ (n sz : Nat) (ds : List D) (σ : Nat → Nat), ren σ (V.own n sz ds) = V.own (σ n) sz ds) ∧
    (∀ (σ : Nat → Nat) (v : Value), ren σ (V.k v) = V.k v) ∧
    (∀ (l : List V) (σ : Nat → Nat), ren σ (V.agg l) = V.agg (List.map (ren1 σ) l)) ∧
    (∀ (l : List V) (σ : Nat → Nat), ren σ (V.tup l) = V.tup (List.map (ren0 σ) l)) ∧
    (∀ (l : List V) (σ : Nat → Nat), ren0 σ (V.agg l) = V.agg (List.map (ren1 σ) l)) ∧
    (∀ (dd : D) (σ : Nat → Nat), ren0 σ (V.d dd) = V.d dd) ∧
    (∀ (n sz : Nat) (ds : List D) (σ : Nat → Nat), ren0 σ (V.own n sz ds) = V.own (σ n) sz ds) ∧
    (∀ (sz : Nat) (ds : List D) (σ : Nat → Nat), ren0 σ (V.full sz ds) = V.full sz ds) ∧
    (∀ (dd : D) (σ : Nat → Nat), ren1 σ (V.d dd) = V.d dd) ∧
    (∀ (n sz : Nat) (ds : List D) (σ : Nat → Nat), ren1 σ (V.own n sz ds) = V.own (σ n) sz ds) ∧
    (∀ (sz : Nat) (ds : List D) (σ : Nat → Nat), ren1 σ (V.full sz ds) = V.full sz ds) ∧
    (∀ (σ : Nat → Nat) (v : Value), ren1 σ (V.k v) = V.k v) ∧
    (∀ (n : Nat), tipsOf n [] = []) ∧
    (∀ (n m : Nat) (ts : List Nat), tipsOf n (m :: ts) = (n, Ob.tip m) :: tipsOf (n + 1) ts) ∧
    (∀ (dd : D), noTup (V.d dd) = True) ∧
    (∀ (l : List V), noTup (V.agg l) = True) ∧
    (∀ (n sz : Nat) (ds : List D), noTup (V.own n sz ds) = True) ∧
    (∀ (sz : Nat) (ds : List D), noTup (V.full sz ds) = True) ∧
    (∀ (l : List V), noTup (V.tup l) = notTs l) ∧
    (notTs [] = True) ∧
    (∀ (l : List V) (x : V), notTs (x :: l) = (notT x ∧ notTs l)) ∧
    (∀ (dd : D), notT (V.d dd) = True) ∧
    (∀ (l : List V), notT (V.agg l) = True) ∧
    (∀ (n sz : Nat) (ds : List D), notT (V.own n sz ds) = True) ∧
    (∀ (sz : Nat) (ds : List D), notT (V.full sz ds) = True) ∧
    (∀ (n : Nat) (dd : D), ok0 n (V.d dd) = True) ∧
    (∀ (n : Nat) (l : List V), ok0 n (V.agg l) = okL n l) ∧
    (∀ (n m sz : Nat) (ds : List D), ok0 n (V.own m sz ds) = (m < n)) ∧
    (∀ (n sz : Nat) (ds : List D), ok0 n (V.full sz ds) = True) ∧
    (∀ (n : Nat) (dd : D), ok1 n (V.d dd) = True) ∧
    (∀ (n m sz : Nat) (ds : List D), ok1 n (V.own m sz ds) = (m < n)) ∧
    (∀ (n sz : Nat) (ds : List D), ok1 n (V.full sz ds) = True) ∧
    (∀ (n : Nat) (v : Value), ok1 n (V.k v) = True) ∧
    (∀ (n off id : Nat), ok1 n (V.ptr id off) = (id < n)) ∧
    (∀ {α β : Type} (f : α → β) (a : α) (l : List α), List.map f (a :: l) = f a :: List.map f l) ∧
    (∀ {α β : Type} (f : α → β), ([] : List α).map f = []) ∧
    (∀ {α : Type} (a : α) (l : List α) (n : Nat), (a :: l)[n + 1]? = l[n]?) ∧
    (∀ {α : Type} (a : α) (l : List α), (a :: l)[0]? = some a) ∧
    (∀ {α : Type} (n : Nat), ([] : List α)[n]? = none) ∧
    (∀ {α : Type} (a b : α), (some a).getD b = a) ∧
    (∀ {α : Type} (b : α), (none : Option α).getD b = b) ∧
    (∀ {α : Type} (a : α) (l : List α) (n : Nat), List.take (n + 1) (a :: l) = a :: List.take n l) ∧
    (∀ {α : Type} (l : List α), List.take 0 l = []) ∧
    (∀ {α : Type} (n : Nat), ([] : List α).take n = []) ∧
    (∀ {α : Type} (a : α) (l : List α) (n : Nat), List.drop (n + 1) (a :: l) = List.drop n l) ∧
    (∀ {α : Type} (l : List α), List.drop 0 l = l) ∧
    (∀ {α : Type} (n : Nat), ([] : List α).drop n = []) ∧
    (∀ {α : Type} (a : α) (l l' : List α), a :: l ++ l' = a :: (l ++ l')) ∧
    (∀ {α : Type} (l' : List α), [] ++ l' = l') ∧
    (∀ {α : Type} (l : List α), l ++ [] = l) ∧
    (∀ {α : Type} (a : α) (l : List α), (a :: l).length = l.length + 1) ∧
    (∀ {α : Type}, ([] : List α).length = 0) ∧
    (∀ {α : Type} (l l' : List α), (l ++ l').length = l.length + l'.length) ∧
    (∀ {α : Type} (a : α), (some a).isSome = true) ∧
    (∀ {α β : Type} (a : α) (g : α → Option β), (some a).bind g = g a) ∧
    (∀ {α β : Type} (f : α → β) (a : α), Option.map f (some a) = some (f a)) :=
  ⟨@e_sz0, @e_sz1, @e_r1D, @e_r1F, @e_r1O, @e_r1K, @e_r1A, @e_r1T, @e_r0A, @e_r0D, @e_r0O, @e_r0F, @e_r1'D, @e_r1'O, @e_r1'F, @e_r1'K, @e_tip0, @e_tip1, @e_ntD, @e_ntA, @e_ntO, @e_ntF, @e_ntT, @e_nt0, @e_nt1, @e_ntd, @e_nta, @e_nto, @e_ntf, @e_k0, @e_k0a, @e_k0o, @e_k0f, @e_k1, @e_k1o, @e_k1f, @e_k1k, @e_k1p, @s_map1, @s_map0, @s_get1, @s_get0, @s_getN, @s_getD, @s_getDn, @s_take1, @s_take0, @s_takeN, @s_drop1, @s_drop0, @s_dropN, @s_app1, @s_app0, @s_appN, @s_len1, @s_len0, @s_lenA, @s_some, @s_bind, @s_omap⟩

theorem v9 :
    (∀ {α β : Type} (f : α → β), (none : Option α).map f = none) ∧
    (∀ {α : Type} (a : α) (l : List α) (p : α → Prop), (∀ (x : α), x ∈ a :: l → p x) = (p a ∧ ∀ (x : α), x ∈ l → p x)) ∧
    (∀ {α : Type} (p : α → Prop), (∀ x ∈ ([] : List α), p x) = True) ∧
    (∀ (q : Prop), (True ∧ q) = q) ∧
    (∀ (q : Prop), (q ∧ True) = q) ∧
    ((true = true) = True) ∧
    ((false = true) = False) ∧
    ((true = false) = False) ∧
    ((false = false) = True) ∧
    (∀ (inst : Decidable True), @decide True inst = true) ∧
    (∀ (inst : Decidable False), @decide False inst = false) ∧
    ((!true) = false) ∧
    ((!false) = true) ∧
    (∀ {α : Type} (a b : α), (bif true then a else b) = a) ∧
    (∀ {α : Type} (a b : α), (bif false then a else b) = b) ∧
    (∀ (n : Nat), (↑n : Int).toNat = n) ∧
    (Int.toNat 0 = 0) ∧
    (∀ (n : Nat), (0 ≤ (↑n : Int)) = True) ∧
    (∀ (n m : Nat), ((↑n : Int) < (↑m : Int)) = (n < m)) ∧
    (∀ (n m : Nat), ((↑n : Int) ≤ (↑m : Int)) = (n ≤ m)) ∧
    (∀ (k : Nat) (x : V) (r : List V), initSl k (x :: r) = (k, x) :: initSl (k + 1) r) ∧
    (∀ (k : Nat), initSl k [] = []) ∧
    (∀ (x : V), retV [x] = x) ∧
    (∀ (x y : V) (r : List V), retV (x :: y :: r) = V.tup (x :: y :: r)) ∧
    (retV [] = V.tup []) ∧
    (∀ (P : Program) (s : St) (t : Nat), resV P s (ResultVar.tmp t) = getS s.sl t) ∧
    (∀ (P : Program) (s : St) (t : Nat) (ty : TypeId), resV P s (ResultVar.cell t ty) = loadV (tyOf P ty) s.h (getS s.sl t)) ∧
    (∀ (P : Program) (s : St) (t : Nat), resOk P s (ResultVar.tmp t) = True) ∧
    (∀ (P : Program) (s : St) (t : Nat) (ty : TypeId), resOk P s (ResultVar.cell t ty) = loadOk (tyOf P ty) s.h (getS s.sl t)) ∧
    (∀ (P : Program) (s : St) (r : ResultVar) (rs : List ResultVar), allOk P s (r :: rs) = (resOk P s r ∧ allOk P s rs)) ∧
    (∀ (P : Program) (s : St), allOk P s [] = True) ∧
    (∀ (n0 : Nat) (s s' : St), St.le n0 s s' = ((n0 ≤ s'.nx ∧ s'.nx ≤ s.nx) ∧ slLe s.sl s'.nx s'.sl ∧ hpLe s.h s'.nx s'.h)) ∧
    (∀ (sl : List (Nat × V)) (nx t : Nat) (x : V) (r : List (Nat × V)), slLe sl nx ((t, x) :: r) = ((le (getS sl t) x ∧ ok nx x) ∧ slLe sl nx r)) ∧
    (∀ (sl : List (Nat × V)) (nx : Nat), slLe sl nx [] = True) ∧
    (∀ (h : Hp) (nx i : Nat) (o : Ob) (r : Hp), hpLe h nx ((i, o) :: r) = ((i < nx ∧ obLe (h.get i) o ∧ okO nx o) ∧ hpLe h nx r)) ∧
    (∀ (h : Hp) (nx : Nat), hpLe h nx [] = True) ∧
    (∀ (n m : Nat), obLe (some (Ob.tip n)) (Ob.tip m) = (n = m)) ∧
    (∀ (l l' : List V), obLe (some (Ob.cells l)) (Ob.cells l') = leL l l') ∧
    (∀ (nx n : Nat), okO nx (Ob.tip n) = True) ∧
    (∀ (nx : Nat) (l : List V), okO nx (Ob.cells l) = okL nx l) ∧
    (∀ (K : St → Prop) (Q : Exit → St → Prop) (s : St), thenA K Q Exit.normal s = K s) ∧
    (∀ (K : St → Prop) (Q : Exit → St → Prop) (s : St), thenA K Q Exit.ret s = Q Exit.ret s) ∧
    (∀ (K : St → Prop) (Q : Exit → St → Prop) (i : Nat) (s : St), thenA K Q (Exit.exit i) s = Q (Exit.exit i) s) ∧
    (∀ (i : Nat) (Q : Exit → St → Prop) (s : St), blockA i Q Exit.normal s = Q Exit.normal s) ∧
    (∀ (i : Nat) (Q : Exit → St → Prop) (s : St), blockA i Q Exit.ret s = Q Exit.ret s) ∧
    (∀ (i : Nat) (Q : Exit → St → Prop) (s : St), blockA i Q (Exit.exit i) s = Q Exit.normal s) ∧
    (∀ (i j : Nat) (Q : Exit → St → Prop) (s : St), (j = i) = False → blockA i Q (Exit.exit j) s = Q (Exit.exit j) s) ∧
    (∀ (a b : V), pickV (V.d (D.bool true)) a b = a) ∧
    (∀ (a b : V), pickV (V.d (D.bool false)) a b = b) ∧
    (([] = List.range 0) = True) :=
  ⟨@s_omapN, @s_all1, @s_all0, @s_ta, @s_at, @s_tt, @s_ft, @s_tf, @s_ff, @s_dT, @s_dF, @s_nt, @s_nf, @s_ct, @s_cf, @s_toNat, @s_tn0, @s_nn, @s_lt, @s_le, @s_init1, @s_init0, @s_ret1, @s_ret2, @s_ret0, @s_resT, @s_resC, @s_roT, @s_roC, @s_ao1, @s_ao0, @s_stle, @s_sl1, @s_sl0, @s_hp1, @s_hp0, @s_obT, @s_obC, @s_okT, @s_okC, @s_thN, @s_thR, @s_thE, @s_blN, @s_blR, @s_blE, @s_blM, @pickV_true, @pickV_false, @s_rg0⟩

theorem vl :
    (∀ (x : D), le (V.d x) (V.d x) = True) ∧
    (∀ (x : Value), le (V.k x) (V.k x) = True) ∧
    (∀ (i o : Nat), le (V.ptr i o) (V.ptr i o) = True) ∧
    (∀ (l : List D), le (V.ro l) (V.ro l) = True) ∧
    (∀ (t s : Nat) (l : List D), le (V.own t s l) (V.own t s l) = True) ∧
    (∀ (s : Nat) (l : List D), le (V.full s l) (V.full s l) = True) ∧
    (∀ (x : V), le x V.any = True) ∧
    (∀ (t s s' : Nat) (l l' : List D), le (V.own t s l) (V.d (D.slice s' l')) = (s = s' ∧ l = l')) ∧
    (∀ (s s' : Nat) (l l' : List D), le (V.full s l) (V.d (D.slice s' l')) = (s = s' ∧ l = l')) ∧
    (∀ (s : Nat) (l : List D), le (V.k (Value.slice none 0 0)) (V.d (D.slice s l)) = (l = [])) ∧
    (∀ (s : Nat) (l : List D), le (V.k (Value.slice none 0 0)) (V.full s l) = (l = [])) ∧
    (∀ (l l' : List V), le (V.agg l) (V.agg l') = leL l l') ∧
    (∀ (l l' : List V), le (V.tup l) (V.tup l') = leT l l') ∧
    (∀ (x y : D), le (V.d x) (V.d y) = (x = y)) ∧
    (∀ (x y : V) (l l' : List V), leT (x :: l) (y :: l') = (le0 x y ∧ leT l l')) ∧
    (leT [] [] = True) ∧
    (∀ (x y : V) (l l' : List V), leL (x :: l) (y :: l') = ((le1 x y ∧ y.one = true) ∧ leL l l')) ∧
    (leL [] [] = True) ∧
    (∀ (l l' : List V), le0 (V.agg l) (V.agg l') = leL l l') ∧
    (∀ (x y : D), le1 (V.d x) (V.d y) = (x = y)) ∧
    (∀ (x y : D), le0 (V.d x) (V.d y) = (x = y)) ∧
    (∀ (s : Nat) (l : List D), le0 (V.k (Value.slice none 0 0)) (V.d (D.slice s l)) = (l = [])) ∧
    (∀ (s : Nat) (l : List D), le0 (V.k (Value.slice none 0 0)) (V.full s l) = (l = [])) ∧
    (∀ (t s s' : Nat) (l l' : List D), le0 (V.own t s l) (V.d (D.slice s' l')) = (s = s' ∧ l = l')) ∧
    (∀ (s s' : Nat) (l l' : List D), le0 (V.full s l) (V.d (D.slice s' l')) = (s = s' ∧ l = l')) ∧
    (∀ (t s s' : Nat) (l l' : List D), le1 (V.own t s l) (V.d (D.slice s' l')) = (s = s' ∧ l = l')) ∧
    (∀ (s s' : Nat) (l l' : List D), le1 (V.full s l) (V.d (D.slice s' l')) = (s = s' ∧ l = l')) ∧
    (∀ (s : Nat) (l : List D), le1 (V.k (Value.slice none 0 0)) (V.d (D.slice s l)) = (l = [])) ∧
    (∀ (s : Nat) (l : List D), le1 (V.k (Value.slice none 0 0)) (V.full s l) = (l = [])) ∧
    (∀ (t t' s s' : Nat) (l l' : List D), le1 (V.own t s l) (V.own t' s' l') = (t = t' ∧ s = s' ∧ l = l')) ∧
    (∀ (t t' s s' : Nat) (l l' : List D), le0 (V.own t s l) (V.own t' s' l') = (t = t' ∧ s = s' ∧ l = l')) ∧
    (∀ (t t' s s' : Nat) (l l' : List D), le (V.own t s l) (V.own t' s' l') = (t = t' ∧ s = s' ∧ l = l')) ∧
    (∀ (s s' : Nat) (l l' : List D), le1 (V.full s l) (V.full s' l') = (s = s' ∧ l = l')) ∧
    (∀ (s s' : Nat) (l l' : List D), le0 (V.full s l) (V.full s' l') = (s = s' ∧ l = l')) ∧
    (∀ (i i' o o' : Nat), le (V.ptr i o) (V.ptr i' o') = (i = i' ∧ o = o')) ∧
    (∀ (σ : Nat → Nat) (m : Nat) (x y : V) (l l' : List V), leArgs σ m (x :: l) (y :: l') = ((le x (ren σ y) ∧ ok m y) ∧ leArgs σ m l l')) ∧
    (∀ (σ : Nat → Nat) (m : Nat), leArgs σ m [] [] = True) ∧
    (∀ (n : Nat) (x : D), ok n (V.d x) = True) ∧
    (∀ (n : Nat) (x : Value), ok n (V.k x) = True) ∧
    (∀ (n s : Nat) (l : List D), ok n (V.full s l) = True) ∧
    (∀ (n : Nat) (l : List D), ok n (V.ro l) = True) ∧
    (∀ (n : Nat), ok n V.any = True) ∧
    (∀ (n t s : Nat) (l : List D), ok n (V.own t s l) = (t < n)) ∧
    (∀ (n i o : Nat), ok n (V.ptr i o) = (i < n)) ∧
    (∀ (n : Nat) (l : List V), ok n (V.agg l) = okL n l) ∧
    (∀ (n : Nat) (l : List V), ok n (V.tup l) = okT n l) ∧
    (∀ (n : Nat) (x : V) (l : List V), okL n (x :: l) = (ok1 n x ∧ okL n l)) ∧
    (∀ (n : Nat), okL n [] = True) ∧
    (∀ (n : Nat) (x : V) (l : List V), okT n (x :: l) = (ok0 n x ∧ okT n l)) ∧
    (∀ (n : Nat), okT n [] = True) ∧
    (∀ (n off id sz id' off' n' sz' : Nat), le (V.row id off n sz) (V.row id' off' n' sz') = (id = id' ∧ off = off' ∧ n = n' ∧ sz = sz')) ∧
    (∀ (n off id sz id' off' n' sz' : Nat), le1 (V.row id off n sz) (V.row id' off' n' sz') = (id = id' ∧ off = off' ∧ n = n' ∧ sz = sz')) ∧
    (∀ (id id' : Nat), le (V.mp id) (V.mp id') = (id = id')) ∧
    (∀ (id id' : Nat), le1 (V.mp id) (V.mp id') = (id = id')) ∧
    (∀ (off id id' off' : Nat), le1 (V.ptr id off) (V.ptr id' off') = (id = id' ∧ off = off')) ∧
    (∀ (off id id' off' : Nat), le0 (V.ptr id off) (V.ptr id' off') = (id = id' ∧ off = off')) ∧
    (∀ (v : Value), le0 (V.k v) (V.k v) = True) ∧
    (∀ (x : V), le1 x x = True) :=
  ⟨@le_d, @le_k, @le_ptr, @le_ro, @le_own, @le_full, @le_any, @le_ownD, @le_fullD, @le_kD, @le_kF, @le_agg, @le_tup, @le_dd, @leT_cons, @leT_nil, @leL_cons, @leL_nil, @le0_agg, @le1_dd, @le0_dd, @le0_kD, @le0_kF, @le0_ownD, @le0_fullD, @le1_ownD, @le1_fullD, @le1_kD, @le1_kF, @le1_own, @le0_own, @le_own', @le1_full, @le0_full, @le_ptr', @leA_cons, @leA_nil, @ok_d, @ok_k, @ok_full, @ok_ro, @ok_any, @ok_own, @ok_ptr, @ok_agg, @ok_tup, @okL_cons, @okL_nil, @okT_cons, @okT_nil, @e_leW, @e_le1W, @e_leM, @e_le1M, @e_le1P, @e_le0P, @e_le0K, @le_refl1⟩

end Go.Bv
