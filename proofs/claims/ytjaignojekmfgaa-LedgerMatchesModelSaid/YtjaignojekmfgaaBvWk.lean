/-
  Part of a machine over pure data and objects that is sound for the model: what it says of a Go function holds of every call of that function. Conditions: those in each theorem. It speaks of any program.
-/
import Derived.Test.YtjaignojekmfgaaBvFin
import Derived.Test.YtjaignojekmfgaaBvPre
namespace Go.Bv
open Go.RowKit Go.Md

theorem elt_ix {α : Type} [Inhabited α] (f : α → D) (l : List α) (i : Int) (h0 : 0 ≤ i) (h1 : i < (l.length : Int)) : elt (l.map f) i.toNat = f (ix l i) := by
  have : i.toNat < l.length := by omega
  simp [elt, ix, this]

end Go.Bv
