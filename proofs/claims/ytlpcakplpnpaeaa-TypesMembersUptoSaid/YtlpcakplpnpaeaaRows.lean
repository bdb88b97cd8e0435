/-
  NARROWER THAN 'FOR EVERY INPUT', by the rows' own cells (each row's printed sentence says how): TypesOf: loops · TypesTell: loops · TypesSound: loops · TypesFit: loops · TypesLaws: loops · TypesAdds: loops · TypesMembers: loops.
  DERIVED. THE GIVEN ROWS OF THIS SEAT. 7 by the template 'for every input the law returns true; each argument reads behind the call as it read before'; 0 by the template 'total and deterministic' (their statements: YtlpcakplpnpaeaaTotals.lean).
  GIVEN WITH THE SEED: the statements are not yours to turn. If you find one false, say at which input.
  Laid BY PROGRAM, IN A SANDBOX (cutbox-rows.mjs): the forced cells as the released guide's own fill.sh prints them over the translation 8078a2fc2f70f6ff… (all of the seat's roots in one cut). By AI agents, Wed Nov 11 2026. No macro, syntax, notation, axiom, sorry.
-/
import Derived.Test.YtlpcakplpnpaeaaChecked
import GoSem.Claim
import GoSem.ClaimJoined
import GoSem.ClaimMapViews
import Derived.JoinedTies
import Derived.KernelRfl
namespace Go.Proofs.Ytlpcakplpnpaeaa
/- THE CELL 'sum', in the pinned program and in every row, IS THE sha256 OF THE DUMP (.gsa) THAT YtlpcakplpnpaeaaProg.lean LOADS. Nothing in Lean hashes anything: it is a label: what it is worth is what the hold of that sum in a sandbox is worth. -/
noncomputable def Try.pinned : Pinned := { name := "ytlpcakplpnpaeaa", sum := "8078a2fc2f70f6ffeee08570f41d6c96b63bccb7eba766a85b531b75ff562aae", checked := Try.checked }
namespace Rows
def none {H : Type} : Left H := { results := [], args := [] }

/-- 'halyardlaw04.TypesOf': WHATEVER THE INPUT: true; the input reads as it did. -/
def typesOfSpec : ChangeSpec := { name := "typesOf", fn := fun _ => fun
  | [d] => { results := [.lit (.bool true)], args := [d] }
  | _ => none }
def typesOfRow : OpenClaim := { program := "ytlpcakplpnpaeaa", sum := "8078a2fc2f70f6ffeee08570f41d6c96b63bccb7eba766a85b531b75ff562aae", func := "halyard/halyardlaw04.TypesOf", spec := "typesOf", inPlace := ["internal/abi.NoEscape", "internal/bytealg.MakeNoZero"], unfollowed := true, recurses := true, loops := true, apart := false }
def TypesOfSaid : Prop := typesOfRow.holds Try.pinned (OpenSpec.ofChange typesOfSpec)

/-- ITS FALSE NEIGHBOUR: 'it returns false'. Refute it at one input. -/
def typesOfWrong : ChangeSpec := { name := "typesOf", fn := fun _ => fun
  | [d] => { results := [.lit (.bool false)], args := [d] }
  | _ => none }
def TypesOfWrongFalsely : Prop := typesOfRow.holds Try.pinned (OpenSpec.ofChange typesOfWrong)

/-- 'halyardlaw04.TypesTell': WHATEVER THE INPUT: true; the input reads as it did. -/
def typesTellSpec : ChangeSpec := { name := "typesTell", fn := fun _ => fun
  | [d1, d2] => { results := [.lit (.bool true)], args := [d1, d2] }
  | _ => none }
def typesTellRow : OpenClaim := { program := "ytlpcakplpnpaeaa", sum := "8078a2fc2f70f6ffeee08570f41d6c96b63bccb7eba766a85b531b75ff562aae", func := "halyard/halyardlaw04.TypesTell", spec := "typesTell", inPlace := ["internal/abi.NoEscape", "internal/bytealg.MakeNoZero"], unfollowed := true, recurses := true, loops := true, apart := false }
def TypesTellSaid : Prop := typesTellRow.holds Try.pinned (OpenSpec.ofChange typesTellSpec)

/-- ITS FALSE NEIGHBOUR: 'it returns false'. Refute it at one input. -/
def typesTellWrong : ChangeSpec := { name := "typesTell", fn := fun _ => fun
  | [d1, d2] => { results := [.lit (.bool false)], args := [d1, d2] }
  | _ => none }
def TypesTellWrongFalsely : Prop := typesTellRow.holds Try.pinned (OpenSpec.ofChange typesTellWrong)

/-- 'halyardlaw04.TypesSound': WHATEVER THE INPUT: true; the input reads as it did. -/
def typesSoundSpec : ChangeSpec := { name := "typesSound", fn := fun _ => fun
  | [d1, d2] => { results := [.lit (.bool true)], args := [d1, d2] }
  | _ => none }
def typesSoundRow : OpenClaim := { program := "ytlpcakplpnpaeaa", sum := "8078a2fc2f70f6ffeee08570f41d6c96b63bccb7eba766a85b531b75ff562aae", func := "halyard/halyardlaw04.TypesSound", spec := "typesSound", inPlace := ["internal/abi.NoEscape", "internal/bytealg.MakeNoZero"], unfollowed := true, recurses := true, loops := true, apart := false }
def TypesSoundSaid : Prop := typesSoundRow.holds Try.pinned (OpenSpec.ofChange typesSoundSpec)

/-- ITS FALSE NEIGHBOUR: 'it returns false'. Refute it at one input. -/
def typesSoundWrong : ChangeSpec := { name := "typesSound", fn := fun _ => fun
  | [d1, d2] => { results := [.lit (.bool false)], args := [d1, d2] }
  | _ => none }
def TypesSoundWrongFalsely : Prop := typesSoundRow.holds Try.pinned (OpenSpec.ofChange typesSoundWrong)

/-- 'halyardlaw04.TypesFit': WHATEVER THE INPUT: true; the input reads as it did. -/
def typesFitSpec : ChangeSpec := { name := "typesFit", fn := fun _ => fun
  | [d1, d2, d3] => { results := [.lit (.bool true)], args := [d1, d2, d3] }
  | _ => none }
def typesFitRow : OpenClaim := { program := "ytlpcakplpnpaeaa", sum := "8078a2fc2f70f6ffeee08570f41d6c96b63bccb7eba766a85b531b75ff562aae", func := "halyard/halyardlaw04.TypesFit", spec := "typesFit", inPlace := ["internal/abi.NoEscape", "internal/bytealg.MakeNoZero"], unfollowed := true, recurses := true, loops := true, apart := false }
def TypesFitSaid : Prop := typesFitRow.holds Try.pinned (OpenSpec.ofChange typesFitSpec)

/-- ITS FALSE NEIGHBOUR: 'it returns false'. Refute it at one input. -/
def typesFitWrong : ChangeSpec := { name := "typesFit", fn := fun _ => fun
  | [d1, d2, d3] => { results := [.lit (.bool false)], args := [d1, d2, d3] }
  | _ => none }
def TypesFitWrongFalsely : Prop := typesFitRow.holds Try.pinned (OpenSpec.ofChange typesFitWrong)

/-- 'halyardlaw04.TypesLaws': WHATEVER THE INPUT: true; the input reads as it did. -/
def typesLawsSpec : ChangeSpec := { name := "typesLaws", fn := fun _ => fun
  | [d1, d2, d3] => { results := [.lit (.bool true)], args := [d1, d2, d3] }
  | _ => none }
def typesLawsRow : OpenClaim := { program := "ytlpcakplpnpaeaa", sum := "8078a2fc2f70f6ffeee08570f41d6c96b63bccb7eba766a85b531b75ff562aae", func := "halyard/halyardlaw04.TypesLaws", spec := "typesLaws", inPlace := ["internal/abi.NoEscape", "internal/bytealg.MakeNoZero"], unfollowed := true, recurses := true, loops := true, apart := false }
def TypesLawsSaid : Prop := typesLawsRow.holds Try.pinned (OpenSpec.ofChange typesLawsSpec)

/-- ITS FALSE NEIGHBOUR: 'it returns false'. Refute it at one input. -/
def typesLawsWrong : ChangeSpec := { name := "typesLaws", fn := fun _ => fun
  | [d1, d2, d3] => { results := [.lit (.bool false)], args := [d1, d2, d3] }
  | _ => none }
def TypesLawsWrongFalsely : Prop := typesLawsRow.holds Try.pinned (OpenSpec.ofChange typesLawsWrong)

/-- 'halyardlaw04.TypesAdds': WHATEVER THE INPUT: true; the input reads as it did. -/
def typesAddsSpec : ChangeSpec := { name := "typesAdds", fn := fun _ => fun
  | [d1, d2, d3] => { results := [.lit (.bool true)], args := [d1, d2, d3] }
  | _ => none }
def typesAddsRow : OpenClaim := { program := "ytlpcakplpnpaeaa", sum := "8078a2fc2f70f6ffeee08570f41d6c96b63bccb7eba766a85b531b75ff562aae", func := "halyard/halyardlaw04.TypesAdds", spec := "typesAdds", inPlace := ["internal/abi.NoEscape", "internal/bytealg.MakeNoZero"], unfollowed := true, recurses := true, loops := true, apart := false }
def TypesAddsSaid : Prop := typesAddsRow.holds Try.pinned (OpenSpec.ofChange typesAddsSpec)

/-- ITS FALSE NEIGHBOUR: 'it returns false'. Refute it at one input. -/
def typesAddsWrong : ChangeSpec := { name := "typesAdds", fn := fun _ => fun
  | [d1, d2, d3] => { results := [.lit (.bool false)], args := [d1, d2, d3] }
  | _ => none }
def TypesAddsWrongFalsely : Prop := typesAddsRow.holds Try.pinned (OpenSpec.ofChange typesAddsWrong)

/-- 'halyardlaw04.TypesMembers': WHATEVER THE INPUT: true; the input reads as it did. -/
def typesMembersSpec : ChangeSpec := { name := "typesMembers", fn := fun _ => fun
  | [d1, d2, d3] => { results := [.lit (.bool true)], args := [d1, d2, d3] }
  | _ => none }
def typesMembersRow : OpenClaim := { program := "ytlpcakplpnpaeaa", sum := "8078a2fc2f70f6ffeee08570f41d6c96b63bccb7eba766a85b531b75ff562aae", func := "halyard/halyardlaw04.TypesMembers", spec := "typesMembers", inPlace := ["internal/abi.NoEscape", "internal/bytealg.MakeNoZero"], unfollowed := true, recurses := true, loops := true, apart := false }
def TypesMembersSaid : Prop := typesMembersRow.holds Try.pinned (OpenSpec.ofChange typesMembersSpec)

/-- ITS FALSE NEIGHBOUR: 'it returns false'. Refute it at one input. -/
def typesMembersWrong : ChangeSpec := { name := "typesMembers", fn := fun _ => fun
  | [d1, d2, d3] => { results := [.lit (.bool false)], args := [d1, d2, d3] }
  | _ => none }
def TypesMembersWrongFalsely : Prop := typesMembersRow.holds Try.pinned (OpenSpec.ofChange typesMembersWrong)

/- THE SECOND FORM. 'bulk': how many values and letters a reading holds, each counted each time it is reached (what is shared counts as often as it is met; a slice's spare places count too). A statement '..UptoSaid' is the law's where the arguments, and the package variables that the reading takes, are together of bulk at most 1048576: NARROWER than '..Said'. Prove '..Said' where nothing that the law and all that it calls make is longer than what came in: it says more and counts as full. Else prove '..UptoSaid'. A law counts once. -/
mutual
def uptoBulk {H : Type} : DataW H → Nat
  | .lit (.string bytes) => bytes.length + 1
  | .lit _ => 1
  | .nil => 1
  | .ptr d => uptoBulk d + 1
  | .slice elems spare => uptoBulkAll elems + uptoBulkAll spare + 1
  | .agg parts => uptoBulkAll parts + 1
  | .iface _ d => uptoBulk d + 1
  | .map entries => uptoBulkEntries entries + 1
  | .held _ => 1
def uptoBulkAll {H : Type} : List (DataW H) → Nat
  | [] => 0
  | d :: r => uptoBulk d + uptoBulkAll r
def uptoBulkEntries {H : Type} : List (Lit × DataW H) → Nat
  | [] => 0
  | x :: r => uptoBulkEntry x + uptoBulkEntries r
def uptoBulkEntry {H : Type} : Lit × DataW H → Nat
  | (.string bytes, d) => bytes.length + uptoBulk d + 1
  | (_, d) => uptoBulk d + 1
 end
def uptoSmall : (H : Type) → List (DataW H) → Bool := fun _ ds => decide (uptoBulkAll ds ≤ 1048576)
def OpenSpec.upto (s : _root_.Go.ChangeSpec) : _root_.Go.OpenSpec := { _root_.Go.OpenSpec.ofChange s with cond := some uptoSmall }

/-- 'halyardlaw04.TypesOf', WHERE WHAT IT READS IS OF BULK AT MOST 1048576: true; the input reads as it did. -/
def typesOfUptoRow : OpenClaim := { program := "ytlpcakplpnpaeaa", sum := "8078a2fc2f70f6ffeee08570f41d6c96b63bccb7eba766a85b531b75ff562aae", func := "halyard/halyardlaw04.TypesOf", spec := "typesOf", inPlace := ["internal/abi.NoEscape", "internal/bytealg.MakeNoZero"], unfollowed := true, recurses := true, loops := true, apart := false, narrowed := true }
def TypesOfUptoSaid : Prop := typesOfUptoRow.holds Try.pinned (OpenSpec.upto typesOfSpec)

/-- 'halyardlaw04.TypesTell', WHERE WHAT IT READS IS OF BULK AT MOST 1048576: true; the input reads as it did. -/
def typesTellUptoRow : OpenClaim := { program := "ytlpcakplpnpaeaa", sum := "8078a2fc2f70f6ffeee08570f41d6c96b63bccb7eba766a85b531b75ff562aae", func := "halyard/halyardlaw04.TypesTell", spec := "typesTell", inPlace := ["internal/abi.NoEscape", "internal/bytealg.MakeNoZero"], unfollowed := true, recurses := true, loops := true, apart := false, narrowed := true }
def TypesTellUptoSaid : Prop := typesTellUptoRow.holds Try.pinned (OpenSpec.upto typesTellSpec)

/-- 'halyardlaw04.TypesSound', WHERE WHAT IT READS IS OF BULK AT MOST 1048576: true; the input reads as it did. -/
def typesSoundUptoRow : OpenClaim := { program := "ytlpcakplpnpaeaa", sum := "8078a2fc2f70f6ffeee08570f41d6c96b63bccb7eba766a85b531b75ff562aae", func := "halyard/halyardlaw04.TypesSound", spec := "typesSound", inPlace := ["internal/abi.NoEscape", "internal/bytealg.MakeNoZero"], unfollowed := true, recurses := true, loops := true, apart := false, narrowed := true }
def TypesSoundUptoSaid : Prop := typesSoundUptoRow.holds Try.pinned (OpenSpec.upto typesSoundSpec)

/-- 'halyardlaw04.TypesFit', WHERE WHAT IT READS IS OF BULK AT MOST 1048576: true; the input reads as it did. -/
def typesFitUptoRow : OpenClaim := { program := "ytlpcakplpnpaeaa", sum := "8078a2fc2f70f6ffeee08570f41d6c96b63bccb7eba766a85b531b75ff562aae", func := "halyard/halyardlaw04.TypesFit", spec := "typesFit", inPlace := ["internal/abi.NoEscape", "internal/bytealg.MakeNoZero"], unfollowed := true, recurses := true, loops := true, apart := false, narrowed := true }
def TypesFitUptoSaid : Prop := typesFitUptoRow.holds Try.pinned (OpenSpec.upto typesFitSpec)

/-- 'halyardlaw04.TypesLaws', WHERE WHAT IT READS IS OF BULK AT MOST 1048576: true; the input reads as it did. -/
def typesLawsUptoRow : OpenClaim := { program := "ytlpcakplpnpaeaa", sum := "8078a2fc2f70f6ffeee08570f41d6c96b63bccb7eba766a85b531b75ff562aae", func := "halyard/halyardlaw04.TypesLaws", spec := "typesLaws", inPlace := ["internal/abi.NoEscape", "internal/bytealg.MakeNoZero"], unfollowed := true, recurses := true, loops := true, apart := false, narrowed := true }
def TypesLawsUptoSaid : Prop := typesLawsUptoRow.holds Try.pinned (OpenSpec.upto typesLawsSpec)

/-- 'halyardlaw04.TypesAdds', WHERE WHAT IT READS IS OF BULK AT MOST 1048576: true; the input reads as it did. -/
def typesAddsUptoRow : OpenClaim := { program := "ytlpcakplpnpaeaa", sum := "8078a2fc2f70f6ffeee08570f41d6c96b63bccb7eba766a85b531b75ff562aae", func := "halyard/halyardlaw04.TypesAdds", spec := "typesAdds", inPlace := ["internal/abi.NoEscape", "internal/bytealg.MakeNoZero"], unfollowed := true, recurses := true, loops := true, apart := false, narrowed := true }
def TypesAddsUptoSaid : Prop := typesAddsUptoRow.holds Try.pinned (OpenSpec.upto typesAddsSpec)

/-- 'halyardlaw04.TypesMembers', WHERE WHAT IT READS IS OF BULK AT MOST 1048576: true; the input reads as it did. -/
def typesMembersUptoRow : OpenClaim := { program := "ytlpcakplpnpaeaa", sum := "8078a2fc2f70f6ffeee08570f41d6c96b63bccb7eba766a85b531b75ff562aae", func := "halyard/halyardlaw04.TypesMembers", spec := "typesMembers", inPlace := ["internal/abi.NoEscape", "internal/bytealg.MakeNoZero"], unfollowed := true, recurses := true, loops := true, apart := false, narrowed := true }
def TypesMembersUptoSaid : Prop := typesMembersUptoRow.holds Try.pinned (OpenSpec.upto typesMembersSpec)

end Rows
end Go.Proofs.Ytlpcakplpnpaeaa
