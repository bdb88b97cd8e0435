/-
  DERIVED. GIVEN WITH THE SEED: THE CARDS: each row of YtlfiikhclgeadaaGreatDoorRows.lean that lists a variable, with what it lists TIED to the program's text (the seventh form; the later family's looks); each row that meets fmt, with fmt's text TOLD by the authors' own Lean function (tested against real Go, not proved from fmt's source: count such statements apart). THE CARD IS WHAT COUNTS. Prove the row's statement (the work); the ties are given (YtlfiikhclgeadaaGreatDoorTie.lean); close each card by the builder's one call (the guide's Derived/Test/ToyasCard.lean, 'card_holds'). Laid BY PROGRAM, IN A SANDBOX (cutbox-door.mjs). By AI agents, Wed Nov 11 2026. No macro, syntax, notation, axiom, sorry.
-/
import Derived.Test.YtlfiikhclgeadaaGreatDoorRows
import GoSem.ClaimSeven
namespace Go.Proofs.YtlfiikhclgeadaaGreatDoor
namespace Rows

/-- THE TIED CARD OF 'halyardlaw02.ParseTrees'. -/
def parseTreesCard : Claim7 := { stood := { row := parseTreesRow, standIns := [], harness := (true, "259dfb1a47b7efaa4933b84a87edcc30f1e3011a67485c2dcfa9def8ec9e7215"), looks := true }, kinds := [], alts := [], laidByText := true, laidKinds := [.data, .data, .data, .sentinel, .sentinel], laidTests := true, laidLooks := .later }
def ParseTreesCardSaid : Prop := Claim7.holds Tryz.pinned (.plain (OpenSpec.ofChange parseTreesSpec)) parseTreesCard

/-- THE TIED CARD OF 'halyardlaw02.ParseSound'. -/
def parseSoundCard : Claim7 := { stood := { row := parseSoundRow, standIns := [], harness := (true, "259dfb1a47b7efaa4933b84a87edcc30f1e3011a67485c2dcfa9def8ec9e7215"), looks := true }, kinds := [], alts := [], laidByText := true, laidKinds := [.data, .data, .data, .sentinel, .sentinel], laidTests := true, laidLooks := .later }
def ParseSoundCardSaid : Prop := Claim7.holds Tryz.pinned (.plain (OpenSpec.ofChange parseSoundSpec)) parseSoundCard

/-- THE TIED CARD OF 'halyardlaw02.ParsePlaces'. -/
def parsePlacesCard : Claim7 := { stood := { row := parsePlacesRow, standIns := [], harness := (true, "259dfb1a47b7efaa4933b84a87edcc30f1e3011a67485c2dcfa9def8ec9e7215"), looks := true }, kinds := [], alts := [], laidByText := true, laidKinds := [.data, .data, .data, .sentinel, .sentinel], laidTests := true, laidLooks := .later }
def ParsePlacesCardSaid : Prop := Claim7.holds Tryz.pinned (.plain (OpenSpec.ofChange parsePlacesSpec)) parsePlacesCard

/-- THE TIED CARD OF 'halyardlaw02.ParseJoins'. -/
def parseJoinsCard : Claim7 := { stood := { row := parseJoinsRow, standIns := [], harness := (true, "259dfb1a47b7efaa4933b84a87edcc30f1e3011a67485c2dcfa9def8ec9e7215"), looks := true }, kinds := [], alts := [], laidByText := true, laidKinds := [.data, .data, .data, .sentinel, .sentinel], laidTests := true, laidLooks := .later }
def ParseJoinsCardSaid : Prop := Claim7.holds Tryz.pinned (.plain (OpenSpec.ofChange parseJoinsSpec)) parseJoinsCard

/-- THE TIED CARD OF 'halyardlaw02.ParseLevels'. -/
def parseLevelsCard : Claim7 := { stood := { row := parseLevelsRow, standIns := [], harness := (true, "259dfb1a47b7efaa4933b84a87edcc30f1e3011a67485c2dcfa9def8ec9e7215"), looks := true }, kinds := [], alts := [], laidByText := true, laidKinds := [.data, .data, .data, .sentinel, .sentinel], laidTests := true, laidLooks := .later }
def ParseLevelsCardSaid : Prop := Claim7.holds Tryz.pinned (.plain (OpenSpec.ofChange parseLevelsSpec)) parseLevelsCard

/-- THE SECOND FORM's CARD OF 'halyardlaw02.ParseTrees'. -/
def parseTreesUptoCard : Claim7 := { stood := { row := parseTreesUptoRow, standIns := [], harness := (true, "259dfb1a47b7efaa4933b84a87edcc30f1e3011a67485c2dcfa9def8ec9e7215"), looks := true }, kinds := [], alts := [], laidByText := true, laidKinds := [.data, .data, .data, .sentinel, .sentinel], laidTests := true, laidLooks := .later }
def ParseTreesUptoCardSaid : Prop := Claim7.holds Tryz.pinned (.plain (OpenSpec.upto parseTreesSpec)) parseTreesUptoCard

/-- THE SECOND FORM's CARD OF 'halyardlaw02.ParseSound'. -/
def parseSoundUptoCard : Claim7 := { stood := { row := parseSoundUptoRow, standIns := [], harness := (true, "259dfb1a47b7efaa4933b84a87edcc30f1e3011a67485c2dcfa9def8ec9e7215"), looks := true }, kinds := [], alts := [], laidByText := true, laidKinds := [.data, .data, .data, .sentinel, .sentinel], laidTests := true, laidLooks := .later }
def ParseSoundUptoCardSaid : Prop := Claim7.holds Tryz.pinned (.plain (OpenSpec.upto parseSoundSpec)) parseSoundUptoCard

/-- THE SECOND FORM's CARD OF 'halyardlaw02.ParsePlaces'. -/
def parsePlacesUptoCard : Claim7 := { stood := { row := parsePlacesUptoRow, standIns := [], harness := (true, "259dfb1a47b7efaa4933b84a87edcc30f1e3011a67485c2dcfa9def8ec9e7215"), looks := true }, kinds := [], alts := [], laidByText := true, laidKinds := [.data, .data, .data, .sentinel, .sentinel], laidTests := true, laidLooks := .later }
def ParsePlacesUptoCardSaid : Prop := Claim7.holds Tryz.pinned (.plain (OpenSpec.upto parsePlacesSpec)) parsePlacesUptoCard

/-- THE SECOND FORM's CARD OF 'halyardlaw02.ParseJoins'. -/
def parseJoinsUptoCard : Claim7 := { stood := { row := parseJoinsUptoRow, standIns := [], harness := (true, "259dfb1a47b7efaa4933b84a87edcc30f1e3011a67485c2dcfa9def8ec9e7215"), looks := true }, kinds := [], alts := [], laidByText := true, laidKinds := [.data, .data, .data, .sentinel, .sentinel], laidTests := true, laidLooks := .later }
def ParseJoinsUptoCardSaid : Prop := Claim7.holds Tryz.pinned (.plain (OpenSpec.upto parseJoinsSpec)) parseJoinsUptoCard

/-- THE SECOND FORM's CARD OF 'halyardlaw02.ParseLevels'. -/
def parseLevelsUptoCard : Claim7 := { stood := { row := parseLevelsUptoRow, standIns := [], harness := (true, "259dfb1a47b7efaa4933b84a87edcc30f1e3011a67485c2dcfa9def8ec9e7215"), looks := true }, kinds := [], alts := [], laidByText := true, laidKinds := [.data, .data, .data, .sentinel, .sentinel], laidTests := true, laidLooks := .later }
def ParseLevelsUptoCardSaid : Prop := Claim7.holds Tryz.pinned (.plain (OpenSpec.upto parseLevelsSpec)) parseLevelsUptoCard
end Rows
end Go.Proofs.YtlfiikhclgeadaaGreatDoor
