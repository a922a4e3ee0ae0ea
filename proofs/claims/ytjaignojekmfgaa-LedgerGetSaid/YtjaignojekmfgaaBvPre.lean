/-
  Part of a machine over pure data and objects that is sound for the model: what it says of a Go function holds of every call of that function. Conditions: those in each theorem. It speaks of any program.
-/
import Derived.Test.YtjaignojekmfgaaBvBase
import Derived.IntWalk
namespace Go.Md
open Go Go.Bv

/-- An element of a list by an integer. -/
def ix {α : Type} [Inhabited α] (l : List α) (i : Int) : α := (l[i.toNat]?).getD default
/-- A loop from s0: nx: what holds at the head of the next round. -/
def Loop {σ : Type} (s0 : σ) (body : (σ → Prop) → σ → Prop) : Prop :=
  ∃ (inv : σ → Prop) (μ : σ → Nat), inv s0 ∧ ∀ s, inv s → body (fun s' => inv s' ∧ μ s' < μ s) s
theorem ix_get {α : Type} [Inhabited α] (l : List α) (k : Nat) (h : k < l.length) : ix l (k : Int) = l[k] := by simp [ix, h]
theorem wrap_u64 (n : Int) (h0 : 0 ≤ n) (h : n < 18446744073709551616) : IntKind.u64.wrap n = n := IntWalk.u64_in n ⟨h0, by omega⟩
theorem wrap_i64 (n : Int) (h0 : -9223372036854775808 ≤ n) (h : n < 9223372036854775808) : IntKind.i64.wrap n = n := IntWalk.i64_in n ⟨by omega, by omega⟩

end Go.Md
