/-
  The program's tie, a part of it. (Printed by mkbufin.py.)
-/
import Derived.Test.YtiknfjdjbhbjhaaGreatDoorFTieA
import Derived.Test.YtiknfjdjbhbjhaaGreatDoorFTieB
import Derived.Test.YtiknfjdjbhbjhaaGreatDoorFTieC0
import Derived.Test.YtiknfjdjbhbjhaaGreatDoorFTieD0
import Derived.Test.YtiknfjdjbhbjhaaGreatDoorFTieE
import Derived.SevenTiedAt
set_option linter.unusedVariables false
set_option maxRecDepth 100000
namespace Go.Proofs.YtiknfjdjbhbjhaaGreatDoor
open Go
theorem tie0 : Tryz.prog.laidByTextLater [("internal/strconv.uint64pow10", Rows.laid_internal_strconv_uint64pow10), ("math/bits.deBruijn32tab", Rows.laid_math_bits_deBruijn32tab), ("math/bits.deBruijn64tab", Rows.laid_math_bits_deBruijn64tab), ("strconv.ErrSyntax", Rows.laid_strconv_ErrSyntax), ("strconv.ErrRange", Rows.laid_strconv_ErrRange)] [.data, .data, .data, .sentinel, .sentinel] true :=
  Program.laidByTextLater_by_one 72 8 65 but_w but_v but_r but_k0 but_g but_n0 but_d0
theorem bundlePacks_row_tie : Rows.bundlePacksRow.laidByTextAt .later Tryz.pinned [.data, .data, .data, .sentinel, .sentinel] true :=
  OpenClaim.laidByTextAt_later rfl rfl tie0 noOwnUnsafe
theorem bundleBack_row_tie : Rows.bundleBackRow.laidByTextAt .later Tryz.pinned [.data, .data, .data, .sentinel, .sentinel] true :=
  OpenClaim.laidByTextAt_later rfl rfl tie0 noOwnUnsafe
end Go.Proofs.YtiknfjdjbhbjhaaGreatDoor
