/-
  No cell of these rows narrows 'for every input' (looked for: loops, veiled, ifaces, maps, wideKeys, modest, calm, conditions, laid).
  DERIVED. THE GIVEN ROWS OF THIS SEAT. 4 by the template 'for every input the law returns true; each argument reads behind the call as it read before'; 0 by the template 'total and deterministic' (their statements: YtggfaplmdcpccaaTotals.lean).
  GIVEN WITH THE SEED: the statements are not yours to turn. If you find one false, say at which input.
  Laid BY PROGRAM, IN A SANDBOX (cutbox-rows.mjs): the forced cells as the released guide's own fill.sh prints them over the translation 6b099c4afaf65e99… (all of the seat's roots in one cut). By AI agents, Wed Nov 11 2026. No macro, syntax, notation, axiom, sorry.
-/
import Derived.Test.YtggfaplmdcpccaaChecked
import GoSem.Claim
import GoSem.ClaimJoined
import GoSem.ClaimMapViews
import Derived.JoinedTies
import Derived.KernelRfl
namespace Go.Proofs.Ytggfaplmdcpccaa
/- THE CELL 'sum', in the pinned program and in every row, IS THE sha256 OF THE DUMP (.gsa) THAT YtggfaplmdcpccaaProg.lean LOADS. Nothing in Lean hashes anything: it is a label: what it is worth is what the hold of that sum in a sandbox is worth. -/
noncomputable def Try.pinned : Pinned := { name := "ytggfaplmdcpccaa", sum := "6b099c4afaf65e998f18452a7cb281a4435e34ae2e27ce14e9db4342657c0fb5", checked := Try.checked }
namespace Rows
def none {H : Type} : Left H := { results := [], args := [] }

/-- 'halyardlaw18.SlotsMoved': WHATEVER THE INPUT: true; the input reads as it did. -/
def slotsMovedSpec : ChangeSpec := { name := "slotsMoved", fn := fun _ => fun
  | [d1, d2] => { results := [.lit (.bool true)], args := [d1, d2] }
  | _ => none }
def slotsMovedRow : OpenClaim := { program := "ytggfaplmdcpccaa", sum := "6b099c4afaf65e998f18452a7cb281a4435e34ae2e27ce14e9db4342657c0fb5", func := "halyard/halyardlaw18.SlotsMoved", spec := "slotsMoved", unfollowed := true, recurses := true, apart := false }
def SlotsMovedSaid : Prop := slotsMovedRow.holds Try.pinned (OpenSpec.ofChange slotsMovedSpec)

/-- ITS FALSE NEIGHBOUR: 'it returns false'. Refute it at one input. -/
def slotsMovedWrong : ChangeSpec := { name := "slotsMoved", fn := fun _ => fun
  | [d1, d2] => { results := [.lit (.bool false)], args := [d1, d2] }
  | _ => none }
def SlotsMovedWrongFalsely : Prop := slotsMovedRow.holds Try.pinned (OpenSpec.ofChange slotsMovedWrong)

/-- 'halyardlaw18.SlotsOne': WHATEVER THE INPUT: true; the input reads as it did. -/
def slotsOneSpec : ChangeSpec := { name := "slotsOne", fn := fun _ => fun
  | [d] => { results := [.lit (.bool true)], args := [d] }
  | _ => none }
def slotsOneRow : OpenClaim := { program := "ytggfaplmdcpccaa", sum := "6b099c4afaf65e998f18452a7cb281a4435e34ae2e27ce14e9db4342657c0fb5", func := "halyard/halyardlaw18.SlotsOne", spec := "slotsOne", unfollowed := true, recurses := true, apart := false }
def SlotsOneSaid : Prop := slotsOneRow.holds Try.pinned (OpenSpec.ofChange slotsOneSpec)

/-- ITS FALSE NEIGHBOUR: 'it returns false'. Refute it at one input. -/
def slotsOneWrong : ChangeSpec := { name := "slotsOne", fn := fun _ => fun
  | [d] => { results := [.lit (.bool false)], args := [d] }
  | _ => none }
def SlotsOneWrongFalsely : Prop := slotsOneRow.holds Try.pinned (OpenSpec.ofChange slotsOneWrong)

/-- 'halyardlaw18.SlotsAssigned': WHATEVER THE INPUT: true; the input reads as it did. -/
def slotsAssignedSpec : ChangeSpec := { name := "slotsAssigned", fn := fun _ => fun
  | [d] => { results := [.lit (.bool true)], args := [d] }
  | _ => none }
def slotsAssignedRow : OpenClaim := { program := "ytggfaplmdcpccaa", sum := "6b099c4afaf65e998f18452a7cb281a4435e34ae2e27ce14e9db4342657c0fb5", func := "halyard/halyardlaw18.SlotsAssigned", spec := "slotsAssigned", unfollowed := true, recurses := true, apart := false }
def SlotsAssignedSaid : Prop := slotsAssignedRow.holds Try.pinned (OpenSpec.ofChange slotsAssignedSpec)

/-- ITS FALSE NEIGHBOUR: 'it returns false'. Refute it at one input. -/
def slotsAssignedWrong : ChangeSpec := { name := "slotsAssigned", fn := fun _ => fun
  | [d] => { results := [.lit (.bool false)], args := [d] }
  | _ => none }
def SlotsAssignedWrongFalsely : Prop := slotsAssignedRow.holds Try.pinned (OpenSpec.ofChange slotsAssignedWrong)

/-- 'halyardlaw18.SlotsApart': WHATEVER THE INPUT: true; the input reads as it did. -/
def slotsApartSpec : ChangeSpec := { name := "slotsApart", fn := fun _ => fun
  | [d] => { results := [.lit (.bool true)], args := [d] }
  | _ => none }
def slotsApartRow : OpenClaim := { program := "ytggfaplmdcpccaa", sum := "6b099c4afaf65e998f18452a7cb281a4435e34ae2e27ce14e9db4342657c0fb5", func := "halyard/halyardlaw18.SlotsApart", spec := "slotsApart", unfollowed := true, recurses := true, apart := false }
def SlotsApartSaid : Prop := slotsApartRow.holds Try.pinned (OpenSpec.ofChange slotsApartSpec)

/-- ITS FALSE NEIGHBOUR: 'it returns false'. Refute it at one input. -/
def slotsApartWrong : ChangeSpec := { name := "slotsApart", fn := fun _ => fun
  | [d] => { results := [.lit (.bool false)], args := [d] }
  | _ => none }
def SlotsApartWrongFalsely : Prop := slotsApartRow.holds Try.pinned (OpenSpec.ofChange slotsApartWrong)

/- THE SECOND FORM. 'bulk': how many values and letters a reading holds, each counted each time it is reached (what is shared counts as often as it is met; a slice's spare places count too). A statement '..UptoSaid' is the law's where the arguments, and the package variables that the reading takes, are together of bulk at most 1048576: NARROWER than '..Said'. Prove '..Said' where nothing that the law and all that it calls make is longer than what came in: it says more and counts as full. Else prove '..UptoSaid'. A law counts once. -/
mutual
def uptoBulk {H : Type} : DataW H → Nat
  | .lit (.string bytes) => bytes.length + 1
  | .lit _ => 1
  | .nil => 1
  | .ptr d => uptoBulk d + 1
  | .slice elems spare => uptoBulkAll elems + uptoBulkAll spare + 1
  | .agg parts => uptoBulkAll parts + 1
  | .iface _ d => uptoBulk d + 1
  | .map entries => uptoBulkEntries entries + 1
  | .held _ => 1
def uptoBulkAll {H : Type} : List (DataW H) → Nat
  | [] => 0
  | d :: r => uptoBulk d + uptoBulkAll r
def uptoBulkEntries {H : Type} : List (Lit × DataW H) → Nat
  | [] => 0
  | x :: r => uptoBulkEntry x + uptoBulkEntries r
def uptoBulkEntry {H : Type} : Lit × DataW H → Nat
  | (.string bytes, d) => bytes.length + uptoBulk d + 1
  | (_, d) => uptoBulk d + 1
 end
def uptoSmall : (H : Type) → List (DataW H) → Bool := fun _ ds => decide (uptoBulkAll ds ≤ 1048576)
def OpenSpec.upto (s : _root_.Go.ChangeSpec) : _root_.Go.OpenSpec := { _root_.Go.OpenSpec.ofChange s with cond := some uptoSmall }

/-- 'halyardlaw18.SlotsMoved', WHERE WHAT IT READS IS OF BULK AT MOST 1048576: true; the input reads as it did. -/
def slotsMovedUptoRow : OpenClaim := { program := "ytggfaplmdcpccaa", sum := "6b099c4afaf65e998f18452a7cb281a4435e34ae2e27ce14e9db4342657c0fb5", func := "halyard/halyardlaw18.SlotsMoved", spec := "slotsMoved", unfollowed := true, recurses := true, apart := false, narrowed := true }
def SlotsMovedUptoSaid : Prop := slotsMovedUptoRow.holds Try.pinned (OpenSpec.upto slotsMovedSpec)

/-- 'halyardlaw18.SlotsOne', WHERE WHAT IT READS IS OF BULK AT MOST 1048576: true; the input reads as it did. -/
def slotsOneUptoRow : OpenClaim := { program := "ytggfaplmdcpccaa", sum := "6b099c4afaf65e998f18452a7cb281a4435e34ae2e27ce14e9db4342657c0fb5", func := "halyard/halyardlaw18.SlotsOne", spec := "slotsOne", unfollowed := true, recurses := true, apart := false, narrowed := true }
def SlotsOneUptoSaid : Prop := slotsOneUptoRow.holds Try.pinned (OpenSpec.upto slotsOneSpec)

/-- 'halyardlaw18.SlotsAssigned', WHERE WHAT IT READS IS OF BULK AT MOST 1048576: true; the input reads as it did. -/
def slotsAssignedUptoRow : OpenClaim := { program := "ytggfaplmdcpccaa", sum := "6b099c4afaf65e998f18452a7cb281a4435e34ae2e27ce14e9db4342657c0fb5", func := "halyard/halyardlaw18.SlotsAssigned", spec := "slotsAssigned", unfollowed := true, recurses := true, apart := false, narrowed := true }
def SlotsAssignedUptoSaid : Prop := slotsAssignedUptoRow.holds Try.pinned (OpenSpec.upto slotsAssignedSpec)

/-- 'halyardlaw18.SlotsApart', WHERE WHAT IT READS IS OF BULK AT MOST 1048576: true; the input reads as it did. -/
def slotsApartUptoRow : OpenClaim := { program := "ytggfaplmdcpccaa", sum := "6b099c4afaf65e998f18452a7cb281a4435e34ae2e27ce14e9db4342657c0fb5", func := "halyard/halyardlaw18.SlotsApart", spec := "slotsApart", unfollowed := true, recurses := true, apart := false, narrowed := true }
def SlotsApartUptoSaid : Prop := slotsApartUptoRow.holds Try.pinned (OpenSpec.upto slotsApartSpec)

end Rows
end Go.Proofs.Ytggfaplmdcpccaa
