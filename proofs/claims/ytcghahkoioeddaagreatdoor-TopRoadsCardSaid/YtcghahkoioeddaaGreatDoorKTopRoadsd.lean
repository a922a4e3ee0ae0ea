/-
  A closed fact for the card of the law 'TopRoads'. No conditions.
-/
import Derived.Test.YtcghahkoioeddaaGreatDoorRows
import Derived.SevenTiedAt
import Derived.KernelRfl
set_option linter.all false
namespace Go.Proofs.YtcghahkoioeddaaGreatDoor.topRoads
open Go
set_option maxRecDepth 100000
theorem noGoes {P : Program} (h : P.funcs.any Func.goes = false) (func : String) : false = P.goesAt .entering func := by
  have h1 : ∀ g : Nat, (P.funcs[g]?).any Func.goes = false := fun g => by
    cases hg : P.funcs[g]? with
    | none => rfl
    | some x =>
      have hm := Array.mem_of_getElem? hg
      have := h
      simp only [Array.any_eq_false', Bool.not_eq_true] at this
      simpa using this x hm
  have h2 : ∀ f, P.goes f = false := fun f => by
    unfold Program.goes
    rw [h, Bool.and_false, Bool.or_false]
    simp [h1]
  unfold Program.goesAt Program.goesFrom
  cases P.funcNamed func with
  | none => rfl
  | some f => simp [h2]
theorem nog : Tryz.pinned.checked.prog.funcs.any Func.goes = false := by kernel_rfl
theorem goes : false = Rows.topRoadsRow.goesBy Tryz.pinned.checked.prog := noGoes nog _
end Go.Proofs.YtcghahkoioeddaaGreatDoor.topRoads
