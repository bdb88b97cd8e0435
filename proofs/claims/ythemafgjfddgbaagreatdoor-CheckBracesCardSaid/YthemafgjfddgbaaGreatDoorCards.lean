/-
  DERIVED. GIVEN WITH THE SEED: THE CARDS: each row of YthemafgjfddgbaaGreatDoorRows.lean that lists a variable, with what it lists TIED to the program's text (the seventh form; the later family's looks); each row that meets fmt, with fmt's text TOLD by the authors' own Lean function (tested against real Go, not proved from fmt's source: count such statements apart). THE CARD IS WHAT COUNTS. Prove the row's statement (the work); the ties are given (YthemafgjfddgbaaGreatDoorTie.lean); close each card by the builder's one call (the guide's Derived/Test/ToyasCard.lean, 'card_holds'). Laid BY PROGRAM, IN A SANDBOX (cutbox-door.mjs). By AI agents, Wed Nov 11 2026. No macro, syntax, notation, axiom, sorry.
-/
import Derived.Test.YthemafgjfddgbaaGreatDoorRows
import GoSem.ClaimSeven
namespace Go.Proofs.YthemafgjfddgbaaGreatDoor
namespace Rows

/-- THE TIED CARD OF 'halyardlaw05.CheckTables'. -/
def checkTablesCard : Claim7 := { stood := { row := checkTablesRow, standIns := [], harness := (true, "7422b944ab3ecf1fee549c2dc5ca04a2db8f092557974e32323c925c0beeb2fb"), looks := true }, kinds := [], alts := [], laidByText := true, laidKinds := [.data, .data, .data, .sentinel, .sentinel], laidTests := true, laidLooks := .later }
def CheckTablesCardSaid : Prop := Claim7.holds Tryz.pinned (.plain (OpenSpec.ofChange checkTablesSpec)) checkTablesCard

/-- THE TIED CARD OF 'halyardlaw05.CheckBraces'. -/
def checkBracesCard : Claim7 := { stood := { row := checkBracesRow, standIns := [], harness := (true, "7422b944ab3ecf1fee549c2dc5ca04a2db8f092557974e32323c925c0beeb2fb"), looks := true }, kinds := [], alts := [], laidByText := true, laidKinds := [.data, .data, .data, .sentinel, .sentinel], laidTests := true, laidLooks := .later }
def CheckBracesCardSaid : Prop := Claim7.holds Tryz.pinned (.plain (OpenSpec.ofChange checkBracesSpec)) checkBracesCard

/-- THE TIED CARD OF 'halyardlaw05.CheckOrder'. -/
def checkOrderCard : Claim7 := { stood := { row := checkOrderRow, standIns := [], harness := (true, "7422b944ab3ecf1fee549c2dc5ca04a2db8f092557974e32323c925c0beeb2fb"), looks := true }, kinds := [], alts := [], laidByText := true, laidKinds := [.data, .data, .data, .sentinel, .sentinel], laidTests := true, laidLooks := .later }
def CheckOrderCardSaid : Prop := Claim7.holds Tryz.pinned (.plain (OpenSpec.ofChange checkOrderSpec)) checkOrderCard

/-- THE TIED CARD OF 'halyardlaw05.CheckAdds'. -/
def checkAddsCard : Claim7 := { stood := { row := checkAddsRow, standIns := [], harness := (true, "7422b944ab3ecf1fee549c2dc5ca04a2db8f092557974e32323c925c0beeb2fb"), looks := true }, kinds := [], alts := [], laidByText := true, laidKinds := [.data, .data, .data, .sentinel, .sentinel], laidTests := true, laidLooks := .later }
def CheckAddsCardSaid : Prop := Claim7.holds Tryz.pinned (.plain (OpenSpec.ofChange checkAddsSpec)) checkAddsCard

/-- THE TIED CARD OF 'halyardlaw05.CheckPrinted'. -/
def checkPrintedCard : Claim7 := { stood := { row := checkPrintedRow, standIns := [], harness := (true, "7422b944ab3ecf1fee549c2dc5ca04a2db8f092557974e32323c925c0beeb2fb"), looks := true }, kinds := [], alts := [], laidByText := true, laidKinds := [.data, .data, .data, .sentinel, .sentinel], laidTests := true, laidLooks := .later }
def CheckPrintedCardSaid : Prop := Claim7.holds Tryz.pinned (.plain (OpenSpec.ofChange checkPrintedSpec)) checkPrintedCard

/-- THE SECOND FORM's CARD OF 'halyardlaw05.CheckTables'. -/
def checkTablesUptoCard : Claim7 := { stood := { row := checkTablesUptoRow, standIns := [], harness := (true, "7422b944ab3ecf1fee549c2dc5ca04a2db8f092557974e32323c925c0beeb2fb"), looks := true }, kinds := [], alts := [], laidByText := true, laidKinds := [.data, .data, .data, .sentinel, .sentinel], laidTests := true, laidLooks := .later }
def CheckTablesUptoCardSaid : Prop := Claim7.holds Tryz.pinned (.plain (OpenSpec.upto checkTablesSpec)) checkTablesUptoCard

/-- THE SECOND FORM's CARD OF 'halyardlaw05.CheckBraces'. -/
def checkBracesUptoCard : Claim7 := { stood := { row := checkBracesUptoRow, standIns := [], harness := (true, "7422b944ab3ecf1fee549c2dc5ca04a2db8f092557974e32323c925c0beeb2fb"), looks := true }, kinds := [], alts := [], laidByText := true, laidKinds := [.data, .data, .data, .sentinel, .sentinel], laidTests := true, laidLooks := .later }
def CheckBracesUptoCardSaid : Prop := Claim7.holds Tryz.pinned (.plain (OpenSpec.upto checkBracesSpec)) checkBracesUptoCard

/-- THE SECOND FORM's CARD OF 'halyardlaw05.CheckOrder'. -/
def checkOrderUptoCard : Claim7 := { stood := { row := checkOrderUptoRow, standIns := [], harness := (true, "7422b944ab3ecf1fee549c2dc5ca04a2db8f092557974e32323c925c0beeb2fb"), looks := true }, kinds := [], alts := [], laidByText := true, laidKinds := [.data, .data, .data, .sentinel, .sentinel], laidTests := true, laidLooks := .later }
def CheckOrderUptoCardSaid : Prop := Claim7.holds Tryz.pinned (.plain (OpenSpec.upto checkOrderSpec)) checkOrderUptoCard

/-- THE SECOND FORM's CARD OF 'halyardlaw05.CheckAdds'. -/
def checkAddsUptoCard : Claim7 := { stood := { row := checkAddsUptoRow, standIns := [], harness := (true, "7422b944ab3ecf1fee549c2dc5ca04a2db8f092557974e32323c925c0beeb2fb"), looks := true }, kinds := [], alts := [], laidByText := true, laidKinds := [.data, .data, .data, .sentinel, .sentinel], laidTests := true, laidLooks := .later }
def CheckAddsUptoCardSaid : Prop := Claim7.holds Tryz.pinned (.plain (OpenSpec.upto checkAddsSpec)) checkAddsUptoCard

/-- THE SECOND FORM's CARD OF 'halyardlaw05.CheckPrinted'. -/
def checkPrintedUptoCard : Claim7 := { stood := { row := checkPrintedUptoRow, standIns := [], harness := (true, "7422b944ab3ecf1fee549c2dc5ca04a2db8f092557974e32323c925c0beeb2fb"), looks := true }, kinds := [], alts := [], laidByText := true, laidKinds := [.data, .data, .data, .sentinel, .sentinel], laidTests := true, laidLooks := .later }
def CheckPrintedUptoCardSaid : Prop := Claim7.holds Tryz.pinned (.plain (OpenSpec.upto checkPrintedSpec)) checkPrintedUptoCard
end Rows
end Go.Proofs.YthemafgjfddgbaaGreatDoor
