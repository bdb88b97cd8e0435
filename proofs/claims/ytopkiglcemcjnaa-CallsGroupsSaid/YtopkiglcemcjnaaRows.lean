/-
  No cell of these rows narrows 'for every input' (looked for: loops, veiled, ifaces, maps, wideKeys, modest, calm, conditions, laid).
  DERIVED. THE GIVEN ROWS OF THIS SEAT. 5 by the template 'for every input the law returns true; each argument reads behind the call as it read before'; 0 by the template 'total and deterministic' (their statements: YtopkiglcemcjnaaTotals.lean).
  GIVEN WITH THE SEED: the statements are not yours to turn. If you find one false, say at which input.
  Laid BY PROGRAM, IN A SANDBOX (cutbox-rows.mjs): the forced cells as the released guide's own fill.sh prints them over the translation d5e2bf37d4b7c670… (all of the seat's roots in one cut). By AI agents, Wed Nov 11 2026. No macro, syntax, notation, axiom, sorry.
-/
import Derived.Test.YtopkiglcemcjnaaChecked
import GoSem.Claim
import GoSem.ClaimJoined
import GoSem.ClaimMapViews
import Derived.JoinedTies
import Derived.KernelRfl
namespace Go.Proofs.Ytopkiglcemcjnaa
/- THE CELL 'sum', in the pinned program and in every row, IS THE sha256 OF THE DUMP (.gsa) THAT YtopkiglcemcjnaaProg.lean LOADS. Nothing in Lean hashes anything: it is a label: what it is worth is what the hold of that sum in a sandbox is worth. -/
noncomputable def Try.pinned : Pinned := { name := "ytopkiglcemcjnaa", sum := "d5e2bf37d4b7c67017f8c771f32cf7642c507787e789014c4f1cd7d27e9413c3", checked := Try.checked }
namespace Rows
def none {H : Type} : Left H := { results := [], args := [] }

/-- 'halyardlaw13.CallsOrder': WHATEVER THE INPUT: true; the input reads as it did. -/
def callsOrderSpec : ChangeSpec := { name := "callsOrder", fn := fun _ => fun
  | [d] => { results := [.lit (.bool true)], args := [d] }
  | _ => none }
def callsOrderRow : OpenClaim := { program := "ytopkiglcemcjnaa", sum := "d5e2bf37d4b7c67017f8c771f32cf7642c507787e789014c4f1cd7d27e9413c3", func := "halyard/halyardlaw13.CallsOrder", spec := "callsOrder", inPlace := ["slices.overlaps[int]"], unfollowed := true, recurses := true, apart := false }
def CallsOrderSaid : Prop := callsOrderRow.holds Try.pinned (OpenSpec.ofChange callsOrderSpec)

/-- ITS FALSE NEIGHBOUR: 'it returns false'. Refute it at one input. -/
def callsOrderWrong : ChangeSpec := { name := "callsOrder", fn := fun _ => fun
  | [d] => { results := [.lit (.bool false)], args := [d] }
  | _ => none }
def CallsOrderWrongFalsely : Prop := callsOrderRow.holds Try.pinned (OpenSpec.ofChange callsOrderWrong)

/-- 'halyardlaw13.CallsGroups': WHATEVER THE INPUT: true; the input reads as it did. -/
def callsGroupsSpec : ChangeSpec := { name := "callsGroups", fn := fun _ => fun
  | [d1, d2] => { results := [.lit (.bool true)], args := [d1, d2] }
  | _ => none }
def callsGroupsRow : OpenClaim := { program := "ytopkiglcemcjnaa", sum := "d5e2bf37d4b7c67017f8c771f32cf7642c507787e789014c4f1cd7d27e9413c3", func := "halyard/halyardlaw13.CallsGroups", spec := "callsGroups", inPlace := ["slices.overlaps[int]"], unfollowed := true, recurses := true, apart := false }
def CallsGroupsSaid : Prop := callsGroupsRow.holds Try.pinned (OpenSpec.ofChange callsGroupsSpec)

/-- ITS FALSE NEIGHBOUR: 'it returns false'. Refute it at one input. -/
def callsGroupsWrong : ChangeSpec := { name := "callsGroups", fn := fun _ => fun
  | [d1, d2] => { results := [.lit (.bool false)], args := [d1, d2] }
  | _ => none }
def CallsGroupsWrongFalsely : Prop := callsGroupsRow.holds Try.pinned (OpenSpec.ofChange callsGroupsWrong)

/-- 'halyardlaw13.CallsReach': WHATEVER THE INPUT: true; the input reads as it did. -/
def callsReachSpec : ChangeSpec := { name := "callsReach", fn := fun _ => fun
  | [d1, d2] => { results := [.lit (.bool true)], args := [d1, d2] }
  | _ => none }
def callsReachRow : OpenClaim := { program := "ytopkiglcemcjnaa", sum := "d5e2bf37d4b7c67017f8c771f32cf7642c507787e789014c4f1cd7d27e9413c3", func := "halyard/halyardlaw13.CallsReach", spec := "callsReach", inPlace := ["slices.overlaps[int]"], unfollowed := true, recurses := true, apart := false }
def CallsReachSaid : Prop := callsReachRow.holds Try.pinned (OpenSpec.ofChange callsReachSpec)

/-- ITS FALSE NEIGHBOUR: 'it returns false'. Refute it at one input. -/
def callsReachWrong : ChangeSpec := { name := "callsReach", fn := fun _ => fun
  | [d1, d2] => { results := [.lit (.bool false)], args := [d1, d2] }
  | _ => none }
def CallsReachWrongFalsely : Prop := callsReachRow.holds Try.pinned (OpenSpec.ofChange callsReachWrong)

/-- 'halyardlaw13.CallsTargets': WHATEVER THE INPUT: true; the input reads as it did. -/
def callsTargetsSpec : ChangeSpec := { name := "callsTargets", fn := fun _ => fun
  | [d] => { results := [.lit (.bool true)], args := [d] }
  | _ => none }
def callsTargetsRow : OpenClaim := { program := "ytopkiglcemcjnaa", sum := "d5e2bf37d4b7c67017f8c771f32cf7642c507787e789014c4f1cd7d27e9413c3", func := "halyard/halyardlaw13.CallsTargets", spec := "callsTargets", inPlace := ["slices.overlaps[int]"], unfollowed := true, recurses := true, apart := false }
def CallsTargetsSaid : Prop := callsTargetsRow.holds Try.pinned (OpenSpec.ofChange callsTargetsSpec)

/-- ITS FALSE NEIGHBOUR: 'it returns false'. Refute it at one input. -/
def callsTargetsWrong : ChangeSpec := { name := "callsTargets", fn := fun _ => fun
  | [d] => { results := [.lit (.bool false)], args := [d] }
  | _ => none }
def CallsTargetsWrongFalsely : Prop := callsTargetsRow.holds Try.pinned (OpenSpec.ofChange callsTargetsWrong)

/-- 'halyardlaw13.CallsDirect': WHATEVER THE INPUT: true; the input reads as it did. -/
def callsDirectSpec : ChangeSpec := { name := "callsDirect", fn := fun _ => fun
  | [d] => { results := [.lit (.bool true)], args := [d] }
  | _ => none }
def callsDirectRow : OpenClaim := { program := "ytopkiglcemcjnaa", sum := "d5e2bf37d4b7c67017f8c771f32cf7642c507787e789014c4f1cd7d27e9413c3", func := "halyard/halyardlaw13.CallsDirect", spec := "callsDirect", inPlace := ["slices.overlaps[int]"], unfollowed := true, recurses := true, apart := false }
def CallsDirectSaid : Prop := callsDirectRow.holds Try.pinned (OpenSpec.ofChange callsDirectSpec)

/-- ITS FALSE NEIGHBOUR: 'it returns false'. Refute it at one input. -/
def callsDirectWrong : ChangeSpec := { name := "callsDirect", fn := fun _ => fun
  | [d] => { results := [.lit (.bool false)], args := [d] }
  | _ => none }
def CallsDirectWrongFalsely : Prop := callsDirectRow.holds Try.pinned (OpenSpec.ofChange callsDirectWrong)

/- THE SECOND FORM. 'bulk': how many values and letters a reading holds, each counted each time it is reached (what is shared counts as often as it is met; a slice's spare places count too). A statement '..UptoSaid' is the law's where the arguments, and the package variables that the reading takes, are together of bulk at most 1048576: NARROWER than '..Said'. Prove '..Said' where nothing that the law and all that it calls make is longer than what came in: it says more and counts as full. Else prove '..UptoSaid'. A law counts once. -/
mutual
def uptoBulk {H : Type} : DataW H → Nat
  | .lit (.string bytes) => bytes.length + 1
  | .lit _ => 1
  | .nil => 1
  | .ptr d => uptoBulk d + 1
  | .slice elems spare => uptoBulkAll elems + uptoBulkAll spare + 1
  | .agg parts => uptoBulkAll parts + 1
  | .iface _ d => uptoBulk d + 1
  | .map entries => uptoBulkEntries entries + 1
  | .held _ => 1
def uptoBulkAll {H : Type} : List (DataW H) → Nat
  | [] => 0
  | d :: r => uptoBulk d + uptoBulkAll r
def uptoBulkEntries {H : Type} : List (Lit × DataW H) → Nat
  | [] => 0
  | x :: r => uptoBulkEntry x + uptoBulkEntries r
def uptoBulkEntry {H : Type} : Lit × DataW H → Nat
  | (.string bytes, d) => bytes.length + uptoBulk d + 1
  | (_, d) => uptoBulk d + 1
 end
def uptoSmall : (H : Type) → List (DataW H) → Bool := fun _ ds => decide (uptoBulkAll ds ≤ 1048576)
def OpenSpec.upto (s : _root_.Go.ChangeSpec) : _root_.Go.OpenSpec := { _root_.Go.OpenSpec.ofChange s with cond := some uptoSmall }

/-- 'halyardlaw13.CallsOrder', WHERE WHAT IT READS IS OF BULK AT MOST 1048576: true; the input reads as it did. -/
def callsOrderUptoRow : OpenClaim := { program := "ytopkiglcemcjnaa", sum := "d5e2bf37d4b7c67017f8c771f32cf7642c507787e789014c4f1cd7d27e9413c3", func := "halyard/halyardlaw13.CallsOrder", spec := "callsOrder", inPlace := ["slices.overlaps[int]"], unfollowed := true, recurses := true, apart := false, narrowed := true }
def CallsOrderUptoSaid : Prop := callsOrderUptoRow.holds Try.pinned (OpenSpec.upto callsOrderSpec)

/-- 'halyardlaw13.CallsGroups', WHERE WHAT IT READS IS OF BULK AT MOST 1048576: true; the input reads as it did. -/
def callsGroupsUptoRow : OpenClaim := { program := "ytopkiglcemcjnaa", sum := "d5e2bf37d4b7c67017f8c771f32cf7642c507787e789014c4f1cd7d27e9413c3", func := "halyard/halyardlaw13.CallsGroups", spec := "callsGroups", inPlace := ["slices.overlaps[int]"], unfollowed := true, recurses := true, apart := false, narrowed := true }
def CallsGroupsUptoSaid : Prop := callsGroupsUptoRow.holds Try.pinned (OpenSpec.upto callsGroupsSpec)

/-- 'halyardlaw13.CallsReach', WHERE WHAT IT READS IS OF BULK AT MOST 1048576: true; the input reads as it did. -/
def callsReachUptoRow : OpenClaim := { program := "ytopkiglcemcjnaa", sum := "d5e2bf37d4b7c67017f8c771f32cf7642c507787e789014c4f1cd7d27e9413c3", func := "halyard/halyardlaw13.CallsReach", spec := "callsReach", inPlace := ["slices.overlaps[int]"], unfollowed := true, recurses := true, apart := false, narrowed := true }
def CallsReachUptoSaid : Prop := callsReachUptoRow.holds Try.pinned (OpenSpec.upto callsReachSpec)

/-- 'halyardlaw13.CallsTargets', WHERE WHAT IT READS IS OF BULK AT MOST 1048576: true; the input reads as it did. -/
def callsTargetsUptoRow : OpenClaim := { program := "ytopkiglcemcjnaa", sum := "d5e2bf37d4b7c67017f8c771f32cf7642c507787e789014c4f1cd7d27e9413c3", func := "halyard/halyardlaw13.CallsTargets", spec := "callsTargets", inPlace := ["slices.overlaps[int]"], unfollowed := true, recurses := true, apart := false, narrowed := true }
def CallsTargetsUptoSaid : Prop := callsTargetsUptoRow.holds Try.pinned (OpenSpec.upto callsTargetsSpec)

/-- 'halyardlaw13.CallsDirect', WHERE WHAT IT READS IS OF BULK AT MOST 1048576: true; the input reads as it did. -/
def callsDirectUptoRow : OpenClaim := { program := "ytopkiglcemcjnaa", sum := "d5e2bf37d4b7c67017f8c771f32cf7642c507787e789014c4f1cd7d27e9413c3", func := "halyard/halyardlaw13.CallsDirect", spec := "callsDirect", inPlace := ["slices.overlaps[int]"], unfollowed := true, recurses := true, apart := false, narrowed := true }
def CallsDirectUptoSaid : Prop := callsDirectUptoRow.holds Try.pinned (OpenSpec.upto callsDirectSpec)

end Rows
end Go.Proofs.Ytopkiglcemcjnaa
