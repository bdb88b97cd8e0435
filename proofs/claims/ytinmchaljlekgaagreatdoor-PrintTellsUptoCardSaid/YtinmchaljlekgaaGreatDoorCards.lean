/-
  DERIVED. GIVEN WITH THE SEED: THE CARDS: each row of YtinmchaljlekgaaGreatDoorRows.lean that lists a variable, with what it lists TIED to the program's text (the seventh form; the later family's looks); each row that meets fmt, with fmt's text TOLD by the authors' own Lean function (tested against real Go, not proved from fmt's source: count such statements apart). THE CARD IS WHAT COUNTS. Prove the row's statement (the work); the ties are given (YtinmchaljlekgaaGreatDoorTie.lean); close each card by the builder's one call (the guide's Derived/Test/ToyasCard.lean, 'card_holds'). Laid BY PROGRAM, IN A SANDBOX (cutbox-door.mjs). By AI agents, Wed Nov 11 2026. No macro, syntax, notation, axiom, sorry.
-/
import Derived.Test.YtinmchaljlekgaaGreatDoorRows
import GoSem.ClaimSeven
namespace Go.Proofs.YtinmchaljlekgaaGreatDoor
namespace Rows

/-- THE TIED CARD OF 'halyardlaw04.TypesBack'. -/
def typesBackCard : Claim7 := { stood := { row := typesBackRow, standIns := [], harness := (true, "6c01a82e6a0794afda017dc93f235d3030591494991c89b1806286a3acb50fde"), looks := true }, kinds := [], alts := [], laidByText := true, laidKinds := [.data, .data, .data, .sentinel, .sentinel], laidTests := true, laidLooks := .later }
def TypesBackCardSaid : Prop := Claim7.holds Tryz.pinned (.plain (OpenSpec.ofChange typesBackSpec)) typesBackCard

/-- THE TIED CARD OF 'halyardlaw04.TypesTree'. -/
def typesTreeCard : Claim7 := { stood := { row := typesTreeRow, standIns := [], harness := (true, "6c01a82e6a0794afda017dc93f235d3030591494991c89b1806286a3acb50fde"), looks := true }, kinds := [], alts := [], laidByText := true, laidKinds := [.data, .data, .data, .sentinel, .sentinel], laidTests := true, laidLooks := .later }
def TypesTreeCardSaid : Prop := Claim7.holds Tryz.pinned (.plain (OpenSpec.ofChange typesTreeSpec)) typesTreeCard

/-- THE TIED CARD OF 'halyardlaw03.PrintBack'. -/
def printBackCard : Claim7 := { stood := { row := printBackRow, standIns := [], harness := (true, "6c01a82e6a0794afda017dc93f235d3030591494991c89b1806286a3acb50fde"), looks := true }, kinds := [], alts := [], laidByText := true, laidKinds := [.data, .data, .data, .sentinel, .sentinel], laidTests := true, laidLooks := .later }
def PrintBackCardSaid : Prop := Claim7.holds Tryz.pinned (.plain (OpenSpec.ofChange printBackSpec)) printBackCard

/-- THE TIED CARD OF 'halyardlaw03.PrintOnce'. -/
def printOnceCard : Claim7 := { stood := { row := printOnceRow, standIns := [], harness := (true, "6c01a82e6a0794afda017dc93f235d3030591494991c89b1806286a3acb50fde"), looks := true }, kinds := [], alts := [], laidByText := true, laidKinds := [.data, .data, .data, .sentinel, .sentinel], laidTests := true, laidLooks := .later }
def PrintOnceCardSaid : Prop := Claim7.holds Tryz.pinned (.plain (OpenSpec.ofChange printOnceSpec)) printOnceCard

/-- THE TIED CARD OF 'halyardlaw03.PrintTells'. -/
def printTellsCard : Claim7 := { stood := { row := printTellsRow, standIns := [], harness := (true, "6c01a82e6a0794afda017dc93f235d3030591494991c89b1806286a3acb50fde"), looks := true }, kinds := [], alts := [], laidByText := true, laidKinds := [.data, .data, .data, .sentinel, .sentinel], laidTests := true, laidLooks := .later }
def PrintTellsCardSaid : Prop := Claim7.holds Tryz.pinned (.plain (OpenSpec.ofChange printTellsSpec)) printTellsCard

/-- THE TIED CARD OF 'halyardlaw03.PrintExprs'. -/
def printExprsCard : Claim7 := { stood := { row := printExprsRow, standIns := [], harness := (true, "6c01a82e6a0794afda017dc93f235d3030591494991c89b1806286a3acb50fde"), looks := true }, kinds := [], alts := [], laidByText := true, laidKinds := [.data, .data, .data, .sentinel, .sentinel], laidTests := true, laidLooks := .later }
def PrintExprsCardSaid : Prop := Claim7.holds Tryz.pinned (.plain (OpenSpec.ofChange printExprsSpec)) printExprsCard

/-- THE SECOND FORM's CARD OF 'halyardlaw04.TypesBack'. -/
def typesBackUptoCard : Claim7 := { stood := { row := typesBackUptoRow, standIns := [], harness := (true, "6c01a82e6a0794afda017dc93f235d3030591494991c89b1806286a3acb50fde"), looks := true }, kinds := [], alts := [], laidByText := true, laidKinds := [.data, .data, .data, .sentinel, .sentinel], laidTests := true, laidLooks := .later }
def TypesBackUptoCardSaid : Prop := Claim7.holds Tryz.pinned (.plain (OpenSpec.upto typesBackSpec)) typesBackUptoCard

/-- THE SECOND FORM's CARD OF 'halyardlaw04.TypesTree'. -/
def typesTreeUptoCard : Claim7 := { stood := { row := typesTreeUptoRow, standIns := [], harness := (true, "6c01a82e6a0794afda017dc93f235d3030591494991c89b1806286a3acb50fde"), looks := true }, kinds := [], alts := [], laidByText := true, laidKinds := [.data, .data, .data, .sentinel, .sentinel], laidTests := true, laidLooks := .later }
def TypesTreeUptoCardSaid : Prop := Claim7.holds Tryz.pinned (.plain (OpenSpec.upto typesTreeSpec)) typesTreeUptoCard

/-- THE SECOND FORM's CARD OF 'halyardlaw03.PrintBack'. -/
def printBackUptoCard : Claim7 := { stood := { row := printBackUptoRow, standIns := [], harness := (true, "6c01a82e6a0794afda017dc93f235d3030591494991c89b1806286a3acb50fde"), looks := true }, kinds := [], alts := [], laidByText := true, laidKinds := [.data, .data, .data, .sentinel, .sentinel], laidTests := true, laidLooks := .later }
def PrintBackUptoCardSaid : Prop := Claim7.holds Tryz.pinned (.plain (OpenSpec.upto printBackSpec)) printBackUptoCard

/-- THE SECOND FORM's CARD OF 'halyardlaw03.PrintOnce'. -/
def printOnceUptoCard : Claim7 := { stood := { row := printOnceUptoRow, standIns := [], harness := (true, "6c01a82e6a0794afda017dc93f235d3030591494991c89b1806286a3acb50fde"), looks := true }, kinds := [], alts := [], laidByText := true, laidKinds := [.data, .data, .data, .sentinel, .sentinel], laidTests := true, laidLooks := .later }
def PrintOnceUptoCardSaid : Prop := Claim7.holds Tryz.pinned (.plain (OpenSpec.upto printOnceSpec)) printOnceUptoCard

/-- THE SECOND FORM's CARD OF 'halyardlaw03.PrintTells'. -/
def printTellsUptoCard : Claim7 := { stood := { row := printTellsUptoRow, standIns := [], harness := (true, "6c01a82e6a0794afda017dc93f235d3030591494991c89b1806286a3acb50fde"), looks := true }, kinds := [], alts := [], laidByText := true, laidKinds := [.data, .data, .data, .sentinel, .sentinel], laidTests := true, laidLooks := .later }
def PrintTellsUptoCardSaid : Prop := Claim7.holds Tryz.pinned (.plain (OpenSpec.upto printTellsSpec)) printTellsUptoCard

/-- THE SECOND FORM's CARD OF 'halyardlaw03.PrintExprs'. -/
def printExprsUptoCard : Claim7 := { stood := { row := printExprsUptoRow, standIns := [], harness := (true, "6c01a82e6a0794afda017dc93f235d3030591494991c89b1806286a3acb50fde"), looks := true }, kinds := [], alts := [], laidByText := true, laidKinds := [.data, .data, .data, .sentinel, .sentinel], laidTests := true, laidLooks := .later }
def PrintExprsUptoCardSaid : Prop := Claim7.holds Tryz.pinned (.plain (OpenSpec.upto printExprsSpec)) printExprsUptoCard
end Rows
end Go.Proofs.YtinmchaljlekgaaGreatDoor
