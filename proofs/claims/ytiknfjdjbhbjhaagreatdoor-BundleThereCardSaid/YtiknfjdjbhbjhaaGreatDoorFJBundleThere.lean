/-
  What the row of BundleThere asks of the program's text: closed facts, each for itself. (Printed by mkburow.py.)
-/
import Derived.Test.YtiknfjdjbhbjhaaGreatDoorFCc
import Derived.Test.YtiknfjdjbhbjhaaGreatDoorFFp
import Derived.Test.YtiknfjdjbhbjhaaGreatDoorFNBundleThere
import Derived.JoinedCond
import Derived.SevenTiedAt
set_option linter.unusedVariables false
set_option maxRecDepth 100000
namespace Go.Proofs.YtiknfjdjbhbjhaaGreatDoor
open Go
theorem bundleThere_unf : Tryz.prog.unfollowed 5 = true := by rw [Cl.unfollowed_of Tryz.hfr Tryz.huf Tryz.okuf Tryz.closure5]; kernel_rfl
theorem bundleThere_closed : joinedFacts Tryz.prog 5 Tryz.f5 Rows.bundleThereSpec Rows.bundleThereRow = true := by
  unfold joinedFacts
  repeat' (with_reducible refine and_t ?_ ?_)
  · kernel_rfl
  · exact laidOut
  · exact mapsRow
  · kernel_rfl
  · kernel_rfl
  · kernel_rfl
  · exact noStops
  · kernel_rfl
  · exact noKnobs
  · rw [Cl.inPlace_of Tryz.hfr Tryz.hip Tryz.okip Tryz.closure5]
    kernel_rfl
  · rw [bundleThere_unf]
    rfl
  · rw [Cl.recurses_of bundleThere_unf]
    rfl
  · rw [Cl.varsNamed_of Tryz.hfr Tryz.hgn Tryz.okgn Tryz.her Tryz.oker Tryz.closure5]
    kernel_rfl
  · kernel_rfl
  · kernel_rfl
  · kernel_rfl
  · kernel_rfl
  · kernel_rfl
  · kernel_rfl
  · kernel_rfl
  · kernel_rfl
  · kernel_rfl
  · rw [plainK]
    rfl
  · exact rfl
  · exact stopsH
  · exact mayE
  · rw [liftsF]
    rfl
  · rw [makeF]
    rfl
  · kernel_rfl
  · kernel_rfl
  · kernel_rfl
  · kernel_rfl
theorem bundleThere_inst : Tryz.f5.isInstance Tryz.prog Rows.bundleThereRow.origin Rows.bundleThereRow.targs := of_decide_eq_true (by kernel_rfl)
theorem bundleThere_wrap : Tryz.f5.isWrapper Tryz.prog Rows.bundleThereRow.wrapper Rows.bundleThereRow.mainSum := by unfold Func.isWrapper; first | (rw [if_pos (by decide +kernel)]; kernel_rfl) | (rw [if_neg (by decide +kernel)]; exact ⟨rfl, rfl⟩)
theorem bundleThere_wf : Rows.bundleThereRow.wfByText (OpenSpec.ofChange Rows.bundleThereSpec) = true := by kernel_rfl
theorem bundleThere_goes : false = Rows.bundleThereRow.goesBy Tryz.prog := by
  have h1 : Rows.bundleThereRow.func = "halyard/halyardlaw23.BundleThere" := rfl
  have h2 : Rows.bundleThereRow.start = .entering := rfl
  unfold OpenClaim.goesBy Program.goesAt Program.goesFrom
  rw [h1, h2, bundleThere_named, Option.any_some, Cl.goes_of Tryz.hgo]
  rfl
end Go.Proofs.YtiknfjdjbhbjhaaGreatDoor
