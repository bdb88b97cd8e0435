/-
  What the row of BundlePacks asks of the program's text: closed facts, each for itself. (Printed by mkburow.py.)
-/
import Derived.Test.YtiknfjdjbhbjhaaGreatDoorFCc
import Derived.Test.YtiknfjdjbhbjhaaGreatDoorFFp
import Derived.Test.YtiknfjdjbhbjhaaGreatDoorFNBundlePacks
import Derived.JoinedCond
import Derived.SevenTiedAt
set_option linter.unusedVariables false
set_option maxRecDepth 100000
namespace Go.Proofs.YtiknfjdjbhbjhaaGreatDoor
open Go
theorem bundlePacks_unf : Tryz.prog.unfollowed 3 = true := by rw [Cl.unfollowed_of Tryz.hfr Tryz.huf Tryz.okuf Tryz.closure3]; kernel_rfl
theorem bundlePacks_closed : joinedFacts Tryz.prog 3 Tryz.f3 Rows.bundlePacksSpec Rows.bundlePacksRow = true := by
  unfold joinedFacts
  repeat' (with_reducible refine and_t ?_ ?_)
  · kernel_rfl
  · exact laidOut
  · exact mapsRow
  · kernel_rfl
  · kernel_rfl
  · kernel_rfl
  · exact noStops
  · kernel_rfl
  · exact noKnobs
  · rw [Cl.inPlace_of Tryz.hfr Tryz.hip Tryz.okip Tryz.closure3]
    kernel_rfl
  · rw [bundlePacks_unf]
    rfl
  · rw [Cl.recurses_of bundlePacks_unf]
    rfl
  · rw [Cl.varsNamed_of Tryz.hfr Tryz.hgn Tryz.okgn Tryz.her Tryz.oker Tryz.closure3]
    kernel_rfl
  · kernel_rfl
  · kernel_rfl
  · kernel_rfl
  · kernel_rfl
  · kernel_rfl
  · kernel_rfl
  · kernel_rfl
  · kernel_rfl
  · kernel_rfl
  · rw [plainK]
    rfl
  · exact rfl
  · exact stopsH
  · exact mayE
  · rw [liftsF]
    rfl
  · rw [makeF]
    rfl
  · kernel_rfl
  · kernel_rfl
  · kernel_rfl
  · kernel_rfl
theorem bundlePacks_inst : Tryz.f3.isInstance Tryz.prog Rows.bundlePacksRow.origin Rows.bundlePacksRow.targs := of_decide_eq_true (by kernel_rfl)
theorem bundlePacks_wrap : Tryz.f3.isWrapper Tryz.prog Rows.bundlePacksRow.wrapper Rows.bundlePacksRow.mainSum := by unfold Func.isWrapper; first | (rw [if_pos (by decide +kernel)]; kernel_rfl) | (rw [if_neg (by decide +kernel)]; exact ⟨rfl, rfl⟩)
theorem bundlePacks_wf : Rows.bundlePacksRow.wfByText (OpenSpec.ofChange Rows.bundlePacksSpec) = true := by kernel_rfl
theorem bundlePacks_goes : false = Rows.bundlePacksRow.goesBy Tryz.prog := by
  have h1 : Rows.bundlePacksRow.func = "halyard/halyardlaw23.BundlePacks" := rfl
  have h2 : Rows.bundlePacksRow.start = .entering := rfl
  unfold OpenClaim.goesBy Program.goesAt Program.goesFrom
  rw [h1, h2, bundlePacks_named, Option.any_some, Cl.goes_of Tryz.hgo]
  rfl
end Go.Proofs.YtiknfjdjbhbjhaaGreatDoor
