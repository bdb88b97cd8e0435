/-
  The program's tie, a part of it. (Printed by mkbufin.py.)
-/
import Derived.Test.YtiknfjdjbhbjhaaGreatDoorFTieA
import Derived.Test.YtiknfjdjbhbjhaaGreatDoorFTieB
import Derived.Test.YtiknfjdjbhbjhaaGreatDoorFTieC2
import Derived.Test.YtiknfjdjbhbjhaaGreatDoorFTieD2
import Derived.Test.YtiknfjdjbhbjhaaGreatDoorFTieE
import Derived.SevenTiedAt
set_option linter.unusedVariables false
set_option maxRecDepth 100000
namespace Go.Proofs.YtiknfjdjbhbjhaaGreatDoor
open Go
theorem tie2 : Tryz.prog.laidByTextLater [("strconv.ErrSyntax", Rows.laid_strconv_ErrSyntax), ("strconv.ErrRange", Rows.laid_strconv_ErrRange), ("internal/strconv.uint64pow10", Rows.laid_internal_strconv_uint64pow10), ("math/bits.deBruijn32tab", Rows.laid_math_bits_deBruijn32tab), ("math/bits.deBruijn64tab", Rows.laid_math_bits_deBruijn64tab), ("unicode/utf8.acceptRanges", Rows.laid_unicode_utf8_acceptRanges)] [.sentinel, .sentinel, .data, .data, .data, .data] true :=
  Program.laidByTextLater_by_one 72 8 65 but_w but_v but_r but_k2 but_g but_n2 but_d2
theorem fits2 : Tryz.pinned.checked.prog.listedFits [("strconv.ErrSyntax", Rows.laid_strconv_ErrSyntax), ("strconv.ErrRange", Rows.laid_strconv_ErrRange), ("internal/strconv.uint64pow10", Rows.laid_internal_strconv_uint64pow10), ("math/bits.deBruijn32tab", Rows.laid_math_bits_deBruijn32tab), ("math/bits.deBruijn64tab", Rows.laid_math_bits_deBruijn64tab), ("unicode/utf8.first", Rows.laid_unicode_utf8_first), ("unicode/utf8.acceptRanges", Rows.laid_unicode_utf8_acceptRanges)] = true := by
  unfold Program.listedFits
  rw [noOwnUnsafe]
  kernel_rfl
theorem bundleThere_row_tie : Rows.bundleThereRow.laidByTextAt .later Tryz.pinned [.sentinel, .sentinel, .data, .data, .data, .pinned, .data] true :=
  OpenClaim.laidByTextAt_pinned rfl rfl tie2 rfl rfl rfl rfl (fun y hy _e => by
    simp only [Rows.bundleThereRow, List.zip_cons_cons, List.zip_nil_right, List.mem_cons, List.mem_nil_iff, or_false] at hy
    rcases hy with rfl | rfl | rfl | rfl | rfl | rfl | rfl
    · cases _e
    · cases _e
    · cases _e
    · cases _e
    · cases _e
    · exact ⟨pin_laid_unicode_utf8_first, by kernel_rfl⟩
    · cases _e) fits2
end Go.Proofs.YtiknfjdjbhbjhaaGreatDoor
