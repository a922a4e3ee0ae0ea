/-
  Part of a machine over pure data and objects that is sound for the model: what it says of a Go function holds of every call of that function. Conditions: those in each theorem. It speaks of any program.
-/
import Derived.Test.YtjaignojekmfgaaBvBuild
import Derived.Laws.StructEq
namespace Go.Bv
open Go.RowKit

/-! ### == at a struct of plain cells -/
def eqFs (P : Program) : Nat → List Field → Option (List TypeDesc)
  | _, [] => some []
  | k, f :: fs => match (f.name != "_" && f.offset == k), tyOf P f.type, P.underlying f.type, eqFs P (k + 1) fs with
    | true, some (false, 1), some u, some r => some (u :: r)
    | _, _, _, _ => none
def eqT (P : Program) (t : TypeId) : Option (List TypeDesc) := match P.underlying t with
  | some (.struct fs) => match P.stoodInHeld t || P.eqGuardType P.depth t with
    | false => eqFs P 0 fs.toList
    | true => none
  | _ => none
def eqCell : V → V → Bool
  | .d (.int _ a), .d (.int _ b) => a == b
  | .d (.bool a), .d (.bool b) => a == b
  | .d (.str a), .d (.str b) => a == b
  | _, _ => false
def eqCellOk : TypeDesc → V → V → Prop
  | .int _, .d (.int k _), .d (.int k' _) => k = k'
  | .bool, .d (.bool _), .d (.bool _) => True
  | .string, .d (.str _), .d (.str _) => True
  | _, _, _ => False
def eqL : List V → List V → Bool
  | x :: xs, y :: ys => eqCell x y && eqL xs ys
  | _, _ => true
def eqLOk : List TypeDesc → List V → List V → Prop
  | [], [], [] => True
  | t :: ts, x :: xs, y :: ys => eqCellOk t x y ∧ eqLOk ts xs ys
  | _, _, _ => False

section
variable {P : Program} {G : Gh} {w : World} {h : Hp} {nx : Nat}

theorem eqCell_run {t : TypeId} {u : TypeDesc} (hu : P.underlying t = some u) {x y : V} (ho : eqCellOk u x y) {v v' : Value} (hv : RepV G w h nx v x) (hv' : RepV G w h nx v' y) (d : Nat) :
    (Op.equalIn (d + 1) t v v').run P w = .ok (eqCell x y) w := by
  unfold eqCellOk at ho
  split at ho
  · subst ho
    cases hv with | d _ _ hd =>
    cases hd
    cases hv' with | d _ _ hd =>
    cases hd
    simp [Op.equalIn, run_underlying hu, eqCell]
  · cases hv with | d _ _ hd =>
    cases hd
    cases hv' with | d _ _ hd =>
    cases hd
    simp [Op.equalIn, run_underlying hu, eqCell]
  · cases hv with | d _ _ hd =>
    cases hd
    cases hv' with | d _ _ hd =>
    cases hd
    simp [Op.equalIn, run_underlying hu, eqCell]
  · exact ho.elim

theorem eqFs_run (d : Nat) (vs us : List Value) (l m : List V) (hl : vs.length = l.length) (hm : us.length = m.length) (hr : ∀ (j : Nat) (v : Value) (x : V), vs[j]? = some v → l[j]? = some x → RepV G w h nx v x)
    (hs : ∀ (j : Nat) (v : Value) (x : V), us[j]? = some v → m[j]? = some x → RepV G w h nx v x) : ∀ (fs : List Field) (k : Nat) (ts : List TypeDesc), eqFs P k fs = some ts → eqLOk ts (l.drop k) (m.drop k) →
      (Op.eqFields (d + 1) vs.toArray us.toArray fs).run P w = .ok (eqL (l.drop k) (m.drop k)) w
  | [], k, ts, he, ho => by
    simp only [eqFs, Option.some.injEq] at he
    subst he
    unfold eqLOk at ho
    split at ho
    · rename_i h1 h2 h3; simp [h2, Op.eqFields, eqL]
    · rename_i h1 _ _; cases h1
    · exact ho.elim
  | f :: fs, k, ts, he, ho => by
    simp only [eqFs] at he
    split at he
    · rename_i u r h1 h2 h3 h4
      injection he with he
      subst he
      simp only [Bool.and_eq_true, bne_iff_ne, ne_eq, beq_iff_eq] at h1
      unfold eqLOk at ho
      split at ho
      · rename_i q _ _; cases q
      · rename_i t' ts' x xs y ys q1 q2 q3
        injection q1 with q1 q1'
        subst q1 q1'
        have hxk : l[k]? = some x := by have := congrArg (fun l => l[0]?) q2; simpa using this
        have hyk : m[k]? = some y := by have := congrArg (fun l => l[0]?) q3; simpa using this
        have hl1 : l.drop (k + 1) = xs := by have := congrArg List.tail q2; simpa using this
        have hm1 : m.drop (k + 1) = ys := by have := congrArg List.tail q3; simpa using this
        have hkl : k < l.length := (List.getElem?_eq_some_iff.1 hxk).1
        have hkm : k < m.length := (List.getElem?_eq_some_iff.1 hyk).1
        have part1 : ∀ (ws : List Value), k < ws.length → (part f.type ws.toArray f.offset).run P w = .ok (ws[k]?.getD undef) w := by
          intro ws hk
          rw [h1.2]
          simp only [part, Sem.run_bind, (tyOf_run h2 w).1, Result.andThen_ok, Bool.false_eq_true, if_false]
          simp [hk]
        have e1 : vs[k]? = some (vs[k]'(by omega)) := List.getElem?_eq_getElem (by omega)
        have e2 : us[k]? = some (us[k]'(by omega)) := List.getElem?_eq_getElem (by omega)
        simp only [Op.eqFields, h1.1, not_false_eq_true, ne_eq, if_true, Sem.run_bind, part1 vs (by omega), part1 us (by omega), Result.andThen_ok]
        rw [e1, e2, Option.getD_some, Option.getD_some, eqCell_run h3 ho.1 (hr k _ _ e1 hxk) (hs k _ _ e2 hyk) d]
        have ih := eqFs_run d vs us l m hl hm hr hs fs (k + 1) r h4 (by rw [hl1, hm1]; exact ho.2)
        simp only [Result.andThen_ok, Sem.run_ite, q2, q3, eqL]
        rw [hl1, hm1] at ih
        cases hc : eqCell x y with
        | true => simpa using ih
        | false => simp
      · exact ho.elim
    · cases he

theorem eqT_run {t : TypeId} {ts : List TypeDesc} (he : eqT P t = some ts) {l m : List V} (ho : eqLOk ts l m) {v v' : Value} (hv : RepV G w h nx v (.agg l)) (hv' : RepV G w h nx v' (.agg m)) (op : BinOp) (hop : op = .eql ∨ op = .neq) (ox oy : Operand) :
    (do eqGuard op t ox oy v v'; binOp op t v v' : Sem Value).run P w = .ok (.bool (if op = .eql then eqL l m else !eqL l m)) w := by
  generalize hx : V.agg l = x at hv
  cases hv <;> first | cases hx | skip
  rename_i vs hlen hone hr
  generalize hy : V.agg m = y at hv'
  cases hv' <;> first | cases hy | skip
  rename_i us hlen' hone' hr'
  unfold eqT at he
  split at he
  · rename_i fs hu
    split at he
    · rename_i hg
      simp only [Bool.or_eq_false_iff] at hg
      have hf : P.fieldsOf t = fs := by simp [Program.fieldsOf, hu]
      have key := eqFs_run (P := P) (w := w) 9998 vs us l m hlen hlen' hr hr' fs.toList 0 ts he (by simpa using ho)
      have h1 : (Op.equalIn 10000 t (.agg vs.toArray) (.agg us.toArray)).run P w = .ok (eqL l m) w := by
        rw [run_equalIn_struct w 9999 t _ _ (by rw [hf]; exact hu) hg.1, hf]
        simpa using key
      rcases hop with rfl | rfl
      · simp only [Sem.run_bind, run_eqGuard_agg w _ _ _ _ _ _ hg.2, Result.andThen_ok, run_eql_struct, h1, if_true]
      · simp only [Sem.run_bind, run_eqGuard_agg w _ _ _ _ _ _ hg.2, Result.andThen_ok, run_neq_struct, h1]
        simp
    · cases he
  · cases he
end
end Go.Bv
