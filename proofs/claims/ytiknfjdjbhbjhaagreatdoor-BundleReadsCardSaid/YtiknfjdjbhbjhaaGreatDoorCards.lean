/-
  DERIVED. GIVEN WITH THE SEED: THE CARDS: each row of YtiknfjdjbhbjhaaGreatDoorRows.lean that lists a variable, with what it lists TIED to the program's text (the seventh form; the later family's looks); each row that meets fmt, with fmt's text TOLD by the authors' own Lean function (tested against real Go, not proved from fmt's source: count such statements apart). THE CARD IS WHAT COUNTS. Prove the row's statement (the work); the ties are given (YtiknfjdjbhbjhaaGreatDoorTie.lean); close each card by the builder's one call (the guide's Derived/Test/ToyasCard.lean, 'card_holds'). Laid BY PROGRAM, IN A SANDBOX (cutbox-door.mjs). By AI agents, Wed Nov 11 2026. No macro, syntax, notation, axiom, sorry.
-/
import Derived.Test.YtiknfjdjbhbjhaaGreatDoorRows
import GoSem.ClaimSeven
namespace Go.Proofs.YtiknfjdjbhbjhaaGreatDoor
namespace Rows

/-- THE TIED CARD OF 'halyardlaw23.BundlePacks'. -/
def bundlePacksCard : Claim7 := { stood := { row := bundlePacksRow, standIns := [], harness := (true, "f838440ed992274a2b01fc523eb15eeb823bda8dee6870377d25f9b1898c98ff"), looks := true }, kinds := [], alts := [], laidByText := true, laidKinds := [.data, .data, .data, .sentinel, .sentinel], laidTests := true, laidLooks := .later }
def BundlePacksCardSaid : Prop := Claim7.holds Tryz.pinned (.plain (OpenSpec.ofChange bundlePacksSpec)) bundlePacksCard

/-- THE TIED CARD OF 'halyardlaw23.BundleSpots'. -/
def bundleSpotsCard : Claim7 := { stood := { row := bundleSpotsRow, standIns := [], harness := (true, "f838440ed992274a2b01fc523eb15eeb823bda8dee6870377d25f9b1898c98ff"), looks := true }, kinds := [], alts := [], laidByText := true, laidKinds := [.pinned, .data, .sentinel, .sentinel, .data, .data, .data], laidTests := true, laidLooks := .later }
def BundleSpotsCardSaid : Prop := Claim7.holds Tryz.pinned (.plain (OpenSpec.ofChange bundleSpotsSpec)) bundleSpotsCard

/-- THE TIED CARD OF 'halyardlaw23.BundleThere'. -/
def bundleThereCard : Claim7 := { stood := { row := bundleThereRow, standIns := [], harness := (true, "f838440ed992274a2b01fc523eb15eeb823bda8dee6870377d25f9b1898c98ff"), looks := true }, kinds := [], alts := [], laidByText := true, laidKinds := [.sentinel, .sentinel, .data, .data, .data, .pinned, .data], laidTests := true, laidLooks := .later }
def BundleThereCardSaid : Prop := Claim7.holds Tryz.pinned (.plain (OpenSpec.ofChange bundleThereSpec)) bundleThereCard

/-- THE TIED CARD OF 'halyardlaw23.BundleReads'. -/
def bundleReadsCard : Claim7 := { stood := { row := bundleReadsRow, standIns := [], harness := (true, "f838440ed992274a2b01fc523eb15eeb823bda8dee6870377d25f9b1898c98ff"), looks := true }, kinds := [], alts := [], laidByText := true, laidKinds := [.sentinel, .sentinel, .data, .data, .data], laidTests := true, laidLooks := .later }
def BundleReadsCardSaid : Prop := Claim7.holds Tryz.pinned (.plain (OpenSpec.ofChange bundleReadsSpec)) bundleReadsCard

/-- THE TIED CARD OF 'halyardlaw23.BundleBack'. -/
def bundleBackCard : Claim7 := { stood := { row := bundleBackRow, standIns := [], harness := (true, "f838440ed992274a2b01fc523eb15eeb823bda8dee6870377d25f9b1898c98ff"), looks := true }, kinds := [], alts := [], laidByText := true, laidKinds := [.data, .data, .data, .sentinel, .sentinel], laidTests := true, laidLooks := .later }
def BundleBackCardSaid : Prop := Claim7.holds Tryz.pinned (.plain (OpenSpec.ofChange bundleBackSpec)) bundleBackCard

/-- THE TIED CARD OF 'halyardlaw23.BundleSplits'. -/
def bundleSplitsCard : Claim7 := { stood := { row := bundleSplitsRow, standIns := [], harness := (true, "f838440ed992274a2b01fc523eb15eeb823bda8dee6870377d25f9b1898c98ff"), looks := true }, kinds := [], alts := [], laidByText := true, laidKinds := [.sentinel, .sentinel, .data, .data, .data], laidTests := true, laidLooks := .later }
def BundleSplitsCardSaid : Prop := Claim7.holds Tryz.pinned (.plain (OpenSpec.ofChange bundleSplitsSpec)) bundleSplitsCard

/-- THE SECOND FORM's CARD OF 'halyardlaw23.BundlePacks'. -/
def bundlePacksUptoCard : Claim7 := { stood := { row := bundlePacksUptoRow, standIns := [], harness := (true, "f838440ed992274a2b01fc523eb15eeb823bda8dee6870377d25f9b1898c98ff"), looks := true }, kinds := [], alts := [], laidByText := true, laidKinds := [.data, .data, .data, .sentinel, .sentinel], laidTests := true, laidLooks := .later }
def BundlePacksUptoCardSaid : Prop := Claim7.holds Tryz.pinned (.plain (OpenSpec.upto bundlePacksSpec)) bundlePacksUptoCard

/-- THE SECOND FORM's CARD OF 'halyardlaw23.BundleSpots'. -/
def bundleSpotsUptoCard : Claim7 := { stood := { row := bundleSpotsUptoRow, standIns := [], harness := (true, "f838440ed992274a2b01fc523eb15eeb823bda8dee6870377d25f9b1898c98ff"), looks := true }, kinds := [], alts := [], laidByText := true, laidKinds := [.pinned, .data, .sentinel, .sentinel, .data, .data, .data], laidTests := true, laidLooks := .later }
def BundleSpotsUptoCardSaid : Prop := Claim7.holds Tryz.pinned (.plain (OpenSpec.upto bundleSpotsSpec)) bundleSpotsUptoCard

/-- THE SECOND FORM's CARD OF 'halyardlaw23.BundleThere'. -/
def bundleThereUptoCard : Claim7 := { stood := { row := bundleThereUptoRow, standIns := [], harness := (true, "f838440ed992274a2b01fc523eb15eeb823bda8dee6870377d25f9b1898c98ff"), looks := true }, kinds := [], alts := [], laidByText := true, laidKinds := [.sentinel, .sentinel, .data, .data, .data, .pinned, .data], laidTests := true, laidLooks := .later }
def BundleThereUptoCardSaid : Prop := Claim7.holds Tryz.pinned (.plain (OpenSpec.upto bundleThereSpec)) bundleThereUptoCard

/-- THE SECOND FORM's CARD OF 'halyardlaw23.BundleReads'. -/
def bundleReadsUptoCard : Claim7 := { stood := { row := bundleReadsUptoRow, standIns := [], harness := (true, "f838440ed992274a2b01fc523eb15eeb823bda8dee6870377d25f9b1898c98ff"), looks := true }, kinds := [], alts := [], laidByText := true, laidKinds := [.sentinel, .sentinel, .data, .data, .data], laidTests := true, laidLooks := .later }
def BundleReadsUptoCardSaid : Prop := Claim7.holds Tryz.pinned (.plain (OpenSpec.upto bundleReadsSpec)) bundleReadsUptoCard

/-- THE SECOND FORM's CARD OF 'halyardlaw23.BundleBack'. -/
def bundleBackUptoCard : Claim7 := { stood := { row := bundleBackUptoRow, standIns := [], harness := (true, "f838440ed992274a2b01fc523eb15eeb823bda8dee6870377d25f9b1898c98ff"), looks := true }, kinds := [], alts := [], laidByText := true, laidKinds := [.data, .data, .data, .sentinel, .sentinel], laidTests := true, laidLooks := .later }
def BundleBackUptoCardSaid : Prop := Claim7.holds Tryz.pinned (.plain (OpenSpec.upto bundleBackSpec)) bundleBackUptoCard

/-- THE SECOND FORM's CARD OF 'halyardlaw23.BundleSplits'. -/
def bundleSplitsUptoCard : Claim7 := { stood := { row := bundleSplitsUptoRow, standIns := [], harness := (true, "f838440ed992274a2b01fc523eb15eeb823bda8dee6870377d25f9b1898c98ff"), looks := true }, kinds := [], alts := [], laidByText := true, laidKinds := [.sentinel, .sentinel, .data, .data, .data], laidTests := true, laidLooks := .later }
def BundleSplitsUptoCardSaid : Prop := Claim7.holds Tryz.pinned (.plain (OpenSpec.upto bundleSplitsSpec)) bundleSplitsUptoCard
end Rows
end Go.Proofs.YtiknfjdjbhbjhaaGreatDoor
