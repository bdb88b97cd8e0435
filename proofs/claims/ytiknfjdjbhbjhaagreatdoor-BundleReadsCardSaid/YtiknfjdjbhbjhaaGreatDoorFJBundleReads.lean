/-
  What the row of BundleReads asks of the program's text: closed facts, each for itself. (Printed by mkburow.py.)
-/
import Derived.Test.YtiknfjdjbhbjhaaGreatDoorFCc
import Derived.Test.YtiknfjdjbhbjhaaGreatDoorFFp
import Derived.Test.YtiknfjdjbhbjhaaGreatDoorFNBundleReads
import Derived.JoinedCond
import Derived.SevenTiedAt
set_option linter.unusedVariables false
set_option maxRecDepth 100000
namespace Go.Proofs.YtiknfjdjbhbjhaaGreatDoor
open Go
theorem bundleReads_unf : Tryz.prog.unfollowed 6 = true := by rw [Cl.unfollowed_of Tryz.hfr Tryz.huf Tryz.okuf Tryz.closure6]; kernel_rfl
theorem bundleReads_closed : joinedFacts Tryz.prog 6 Tryz.f6 Rows.bundleReadsSpec Rows.bundleReadsRow = true := by
  unfold joinedFacts
  repeat' (with_reducible refine and_t ?_ ?_)
  · kernel_rfl
  · exact laidOut
  · exact mapsRow
  · kernel_rfl
  · kernel_rfl
  · kernel_rfl
  · exact noStops
  · kernel_rfl
  · exact noKnobs
  · rw [Cl.inPlace_of Tryz.hfr Tryz.hip Tryz.okip Tryz.closure6]
    kernel_rfl
  · rw [bundleReads_unf]
    rfl
  · rw [Cl.recurses_of bundleReads_unf]
    rfl
  · rw [Cl.varsNamed_of Tryz.hfr Tryz.hgn Tryz.okgn Tryz.her Tryz.oker Tryz.closure6]
    kernel_rfl
  · kernel_rfl
  · kernel_rfl
  · kernel_rfl
  · kernel_rfl
  · kernel_rfl
  · kernel_rfl
  · kernel_rfl
  · kernel_rfl
  · kernel_rfl
  · rw [plainK]
    rfl
  · exact rfl
  · exact stopsH
  · exact mayE
  · rw [liftsF]
    rfl
  · rw [makeF]
    rfl
  · kernel_rfl
  · kernel_rfl
  · kernel_rfl
  · kernel_rfl
theorem bundleReads_inst : Tryz.f6.isInstance Tryz.prog Rows.bundleReadsRow.origin Rows.bundleReadsRow.targs := of_decide_eq_true (by kernel_rfl)
theorem bundleReads_wrap : Tryz.f6.isWrapper Tryz.prog Rows.bundleReadsRow.wrapper Rows.bundleReadsRow.mainSum := by unfold Func.isWrapper; first | (rw [if_pos (by decide +kernel)]; kernel_rfl) | (rw [if_neg (by decide +kernel)]; exact ⟨rfl, rfl⟩)
theorem bundleReads_wf : Rows.bundleReadsRow.wfByText (OpenSpec.ofChange Rows.bundleReadsSpec) = true := by kernel_rfl
theorem bundleReads_goes : false = Rows.bundleReadsRow.goesBy Tryz.prog := by
  have h1 : Rows.bundleReadsRow.func = "halyard/halyardlaw23.BundleReads" := rfl
  have h2 : Rows.bundleReadsRow.start = .entering := rfl
  unfold OpenClaim.goesBy Program.goesAt Program.goesFrom
  rw [h1, h2, bundleReads_named, Option.any_some, Cl.goes_of Tryz.hgo]
  rfl
end Go.Proofs.YtiknfjdjbhbjhaaGreatDoor
