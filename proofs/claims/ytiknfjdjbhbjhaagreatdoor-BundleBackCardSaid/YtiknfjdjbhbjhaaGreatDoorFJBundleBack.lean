/-
  What the row of BundleBack asks of the program's text: closed facts, each for itself. (Printed by mkburow.py.)
-/
import Derived.Test.YtiknfjdjbhbjhaaGreatDoorFCc
import Derived.Test.YtiknfjdjbhbjhaaGreatDoorFFp
import Derived.Test.YtiknfjdjbhbjhaaGreatDoorFNBundleBack
import Derived.JoinedCond
import Derived.SevenTiedAt
set_option linter.unusedVariables false
set_option maxRecDepth 100000
namespace Go.Proofs.YtiknfjdjbhbjhaaGreatDoor
open Go
theorem bundleBack_unf : Tryz.prog.unfollowed 7 = true := by rw [Cl.unfollowed_of Tryz.hfr Tryz.huf Tryz.okuf Tryz.closure7]; kernel_rfl
theorem bundleBack_closed : joinedFacts Tryz.prog 7 Tryz.f7 Rows.bundleBackSpec Rows.bundleBackRow = true := by
  unfold joinedFacts
  repeat' (with_reducible refine and_t ?_ ?_)
  · kernel_rfl
  · exact laidOut
  · exact mapsRow
  · kernel_rfl
  · kernel_rfl
  · kernel_rfl
  · exact noStops
  · kernel_rfl
  · exact noKnobs
  · rw [Cl.inPlace_of Tryz.hfr Tryz.hip Tryz.okip Tryz.closure7]
    kernel_rfl
  · rw [bundleBack_unf]
    rfl
  · rw [Cl.recurses_of bundleBack_unf]
    rfl
  · rw [Cl.varsNamed_of Tryz.hfr Tryz.hgn Tryz.okgn Tryz.her Tryz.oker Tryz.closure7]
    kernel_rfl
  · kernel_rfl
  · kernel_rfl
  · kernel_rfl
  · kernel_rfl
  · kernel_rfl
  · kernel_rfl
  · kernel_rfl
  · kernel_rfl
  · kernel_rfl
  · rw [plainK]
    rfl
  · exact rfl
  · exact stopsH
  · exact mayE
  · rw [liftsF]
    rfl
  · rw [makeF]
    rfl
  · kernel_rfl
  · kernel_rfl
  · kernel_rfl
  · kernel_rfl
theorem bundleBack_inst : Tryz.f7.isInstance Tryz.prog Rows.bundleBackRow.origin Rows.bundleBackRow.targs := of_decide_eq_true (by kernel_rfl)
theorem bundleBack_wrap : Tryz.f7.isWrapper Tryz.prog Rows.bundleBackRow.wrapper Rows.bundleBackRow.mainSum := by unfold Func.isWrapper; first | (rw [if_pos (by decide +kernel)]; kernel_rfl) | (rw [if_neg (by decide +kernel)]; exact ⟨rfl, rfl⟩)
theorem bundleBack_wf : Rows.bundleBackRow.wfByText (OpenSpec.ofChange Rows.bundleBackSpec) = true := by kernel_rfl
theorem bundleBack_goes : false = Rows.bundleBackRow.goesBy Tryz.prog := by
  have h1 : Rows.bundleBackRow.func = "halyard/halyardlaw23.BundleBack" := rfl
  have h2 : Rows.bundleBackRow.start = .entering := rfl
  unfold OpenClaim.goesBy Program.goesAt Program.goesFrom
  rw [h1, h2, bundleBack_named, Option.any_some, Cl.goes_of Tryz.hgo]
  rfl
end Go.Proofs.YtiknfjdjbhbjhaaGreatDoor
