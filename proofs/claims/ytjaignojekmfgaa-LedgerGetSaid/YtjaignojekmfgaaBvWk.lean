/-
  Part of a machine over pure data and objects that is sound for the model: what it says of a Go function holds of every call of that function. Conditions: those in each theorem. It speaks of any program.
-/
import Derived.Test.YtjaignojekmfgaaBvFin
import Derived.Test.YtjaignojekmfgaaBvPre
import Derived.Laws.Externs
namespace Go.Bv
open Go.RowKit Go.Md

theorem elt_ix {α : Type} [Inhabited α] (f : α → D) (l : List α) (i : Int) (h0 : 0 ≤ i) (h1 : i < (l.length : Int)) : elt (l.map f) i.toNat = f (ix l i) := by
  have : i.toNat < l.length := by omega
  simp [elt, ix, this]

theorem repv_int {G : Gh} {w : World} {h : Hp} {nx : Nat} {v : Value} {k : IntKind} {n : Int} (hv : RepV G w h nx v (.d (.int k n))) : v = .int k n := by
  cases hv with | d _ _ hd => cases hd; rfl
theorem repv_two {G : Gh} {w : World} {h : Hp} {nx : Nat} (k k' : IntKind) (a b : Int) : RepV G w h nx (.tuple #[.int k a, .int k' b]) (.tup [.d (.int k a), .d (.int k' b)]) := by
  refine .tup [.int k a, .int k' b] _ rfl fun j v x hv hx => ?_
  match j with
  | 0 => simp at hv hx; subst hv; subst hx; exact .d _ _ (.int _ _)
  | 1 => simp at hv hx; subst hv; subst hx; exact .d _ _ (.int _ _)
  | j + 2 => simp at hv
/-- The model's own 'math/bits.Add64'. -/
theorem soundX_add64 {P : Program} {f : FuncId} {fn : Func} (hf : P.funcs[f]? = some fn) (hname : (fn.name == "runtime.NumGoroutine") = false) (hb : fn.body.isNone = true) (hn : Extern.findNext fn = none) (he : Extern.find fn = some add64Entry)
    (x y c : Int) (hx : 0 ≤ x) (hy : 0 ≤ y) (hc0 : 0 ≤ c) (hc : c ≤ 1) :
    SoundX P f [.d (.int .u64 x), .d (.int .u64 y), .d (.int .u64 c)] (.tup [.d (.int .u64 ((x + y + c) % 18446744073709551616)), .d (.int .u64 ((x + y + c) / 18446744073709551616))]) := by
  intro G w h nx vs hl hr
  match vs, hl with
  | [v0, v1, v2], _ =>
    have e0 := repv_int (hr 0 v0 _ rfl rfl)
    have e1 := repv_int (hr 1 v1 _ rfl rfl)
    have e2 := repv_int (hr 2 v2 _ rfl rfl)
    subst e0; subst e1; subst e2
    refine ⟨_, ?_, repv_two _ _ _ _⟩
    rw [run_callFunc_extern hf hname hb hn he]
    show ((add64Entry #[.int .u64 x, .int .u64 y, .int .u64 c]).run P w).andThen _ = _
    rw [run_add64 x y c hx hy hc0 hc w]
    rfl
end Go.Bv
