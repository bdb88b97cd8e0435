/-
  What the row of BundleSpots asks of the program's text: closed facts, each for itself. (Printed by mkburow.py.)
-/
import Derived.Test.YtiknfjdjbhbjhaaGreatDoorFCc
import Derived.Test.YtiknfjdjbhbjhaaGreatDoorFFp
import Derived.Test.YtiknfjdjbhbjhaaGreatDoorFNBundleSpots
import Derived.JoinedCond
import Derived.SevenTiedAt
set_option linter.unusedVariables false
set_option maxRecDepth 100000
namespace Go.Proofs.YtiknfjdjbhbjhaaGreatDoor
open Go
theorem bundleSpots_unf : Tryz.prog.unfollowed 4 = true := by rw [Cl.unfollowed_of Tryz.hfr Tryz.huf Tryz.okuf Tryz.closure4]; kernel_rfl
theorem bundleSpots_closed : joinedFacts Tryz.prog 4 Tryz.f4 Rows.bundleSpotsSpec Rows.bundleSpotsRow = true := by
  unfold joinedFacts
  repeat' (with_reducible refine and_t ?_ ?_)
  · kernel_rfl
  · exact laidOut
  · exact mapsRow
  · kernel_rfl
  · kernel_rfl
  · kernel_rfl
  · exact noStops
  · kernel_rfl
  · exact noKnobs
  · rw [Cl.inPlace_of Tryz.hfr Tryz.hip Tryz.okip Tryz.closure4]
    kernel_rfl
  · rw [bundleSpots_unf]
    rfl
  · rw [Cl.recurses_of bundleSpots_unf]
    rfl
  · rw [Cl.varsNamed_of Tryz.hfr Tryz.hgn Tryz.okgn Tryz.her Tryz.oker Tryz.closure4]
    kernel_rfl
  · kernel_rfl
  · kernel_rfl
  · kernel_rfl
  · kernel_rfl
  · kernel_rfl
  · kernel_rfl
  · kernel_rfl
  · kernel_rfl
  · kernel_rfl
  · rw [plainK]
    rfl
  · exact rfl
  · exact stopsH
  · exact mayE
  · rw [liftsF]
    rfl
  · rw [makeF]
    rfl
  · kernel_rfl
  · kernel_rfl
  · kernel_rfl
  · kernel_rfl
theorem bundleSpots_inst : Tryz.f4.isInstance Tryz.prog Rows.bundleSpotsRow.origin Rows.bundleSpotsRow.targs := of_decide_eq_true (by kernel_rfl)
theorem bundleSpots_wrap : Tryz.f4.isWrapper Tryz.prog Rows.bundleSpotsRow.wrapper Rows.bundleSpotsRow.mainSum := by unfold Func.isWrapper; first | (rw [if_pos (by decide +kernel)]; kernel_rfl) | (rw [if_neg (by decide +kernel)]; exact ⟨rfl, rfl⟩)
theorem bundleSpots_wf : Rows.bundleSpotsRow.wfByText (OpenSpec.ofChange Rows.bundleSpotsSpec) = true := by kernel_rfl
theorem bundleSpots_goes : false = Rows.bundleSpotsRow.goesBy Tryz.prog := by
  have h1 : Rows.bundleSpotsRow.func = "halyard/halyardlaw23.BundleSpots" := rfl
  have h2 : Rows.bundleSpotsRow.start = .entering := rfl
  unfold OpenClaim.goesBy Program.goesAt Program.goesFrom
  rw [h1, h2, bundleSpots_named, Option.any_some, Cl.goes_of Tryz.hgo]
  rfl
end Go.Proofs.YtiknfjdjbhbjhaaGreatDoor
