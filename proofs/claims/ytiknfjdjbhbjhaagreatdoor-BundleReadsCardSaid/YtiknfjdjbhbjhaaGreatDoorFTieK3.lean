/-
  The program's tie, a part of it. (Printed by mkbufin.py.)
-/
import Derived.Test.YtiknfjdjbhbjhaaGreatDoorRows
import Derived.LaidByTextLater
import Derived.SevenTiedAt
import Derived.LaidOnce
import Derived.KernelRfl
set_option linter.unusedVariables false
set_option maxRecDepth 100000
namespace Go.Proofs.YtiknfjdjbhbjhaaGreatDoor
open Go
noncomputable def butL3 : List (String × DataW Unit) := [("strconv.ErrSyntax", Rows.laid_strconv_ErrSyntax), ("strconv.ErrRange", Rows.laid_strconv_ErrRange), ("internal/strconv.uint64pow10", Rows.laid_internal_strconv_uint64pow10), ("math/bits.deBruijn32tab", Rows.laid_math_bits_deBruijn32tab), ("math/bits.deBruijn64tab", Rows.laid_math_bits_deBruijn64tab)]
def butK3 : List LaidKind := [.sentinel, .sentinel, .data, .data, .data]
theorem but_k3 : butL3.map (fun x => Tryz.prog.kindOfLater x.1) = butK3.map some := by kernel_rfl
end Go.Proofs.YtiknfjdjbhbjhaaGreatDoor
