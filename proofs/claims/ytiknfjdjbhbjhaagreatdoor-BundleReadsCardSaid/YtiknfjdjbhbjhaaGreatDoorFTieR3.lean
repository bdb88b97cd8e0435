/-
  The program's tie, a part of it. (Printed by mkbufin.py.)
-/
import Derived.Test.YtiknfjdjbhbjhaaGreatDoorFTieA
import Derived.Test.YtiknfjdjbhbjhaaGreatDoorFTieB
import Derived.Test.YtiknfjdjbhbjhaaGreatDoorFTieC3
import Derived.Test.YtiknfjdjbhbjhaaGreatDoorFTieD3
import Derived.Test.YtiknfjdjbhbjhaaGreatDoorFTieE
import Derived.SevenTiedAt
set_option linter.unusedVariables false
set_option maxRecDepth 100000
namespace Go.Proofs.YtiknfjdjbhbjhaaGreatDoor
open Go
theorem tie3 : Tryz.prog.laidByTextLater [("strconv.ErrSyntax", Rows.laid_strconv_ErrSyntax), ("strconv.ErrRange", Rows.laid_strconv_ErrRange), ("internal/strconv.uint64pow10", Rows.laid_internal_strconv_uint64pow10), ("math/bits.deBruijn32tab", Rows.laid_math_bits_deBruijn32tab), ("math/bits.deBruijn64tab", Rows.laid_math_bits_deBruijn64tab)] [.sentinel, .sentinel, .data, .data, .data] true :=
  Program.laidByTextLater_by_one 72 8 65 but_w but_v but_r but_k3 but_g but_n3 but_d3
theorem bundleReads_row_tie : Rows.bundleReadsRow.laidByTextAt .later Tryz.pinned [.sentinel, .sentinel, .data, .data, .data] true :=
  OpenClaim.laidByTextAt_later rfl rfl tie3 noOwnUnsafe
end Go.Proofs.YtiknfjdjbhbjhaaGreatDoor
