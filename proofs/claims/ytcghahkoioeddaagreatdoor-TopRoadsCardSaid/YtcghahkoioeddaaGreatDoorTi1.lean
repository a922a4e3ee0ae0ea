/-
  The tie of the listed variables to the text of the program: its words, its kinds, what is named. Closed facts; no conditions.
-/
import Derived.Test.YtcghahkoioeddaaGreatDoorRows
import Derived.LaidOnce
import Derived.KernelRfl
set_option linter.all false
namespace Go.Proofs.YtcghahkoioeddaaGreatDoor
open Go
noncomputable abbrev laidL : List (String × DataW Unit) := [("internal/strconv.uint64pow10", Rows.laid_internal_strconv_uint64pow10), ("math/bits.deBruijn32tab", Rows.laid_math_bits_deBruijn32tab), ("math/bits.deBruijn64tab", Rows.laid_math_bits_deBruijn64tab), ("strconv.ErrSyntax", Rows.laid_strconv_ErrSyntax), ("strconv.ErrRange", Rows.laid_strconv_ErrRange), ("moidore/parser.operators", Rows.laid_moidore_parser_operators)]
set_option maxRecDepth 100000
theorem tw1 : Tryz.prog.worded (varsWordLater true) = true := by kernel_rfl
theorem tw2 : Tryz.prog.worded (varsWordLater !true) = false := by kernel_rfl
theorem tw3 : Tryz.prog.worded rootWordLater = true := by kernel_rfl
theorem tw4 : laidL.map (fun x => Tryz.prog.kindOfLater x.1) = ([.data, .data, .data, .sentinel, .sentinel, .data] : List LaidKind).map some := by kernel_rfl
theorem tw5 : (Tryz.prog.funcNamed "gosem.cut.vars").isSome = true := by kernel_rfl
end Go.Proofs.YtcghahkoioeddaaGreatDoor
