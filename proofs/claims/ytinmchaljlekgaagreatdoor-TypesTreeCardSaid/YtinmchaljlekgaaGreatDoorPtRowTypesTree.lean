/-
  TypesTree returns true for every string, with what the row lists tied to the program's text.
-/
import Derived.Test.YtinmchaljlekgaaGreatDoorB12
namespace Go.Proofs.YtinmchaljlekgaaGreatDoor
open Go.ChangeShapes Go.WideShapes Go.ChangeAt Go.RowKit Go.Sep
set_option linter.unusedVariables false

theorem typesTree_reads (os : Os) {H : Type} (enc : TypeId × Value → H) : ∃ places, DataW.whole enc Tryz.prog ((laidWorld os).forCall (fun _ _ => 0) ⟨#[], #[.string ⟨#[]⟩], []⟩).memory Tryz.f4.params.toList Rows.typesTreeSpec.vars false #[Value.string ⟨#[]⟩].toList 8 = some ([.lit (.string [])], [], places) :=
  ⟨[], by kernel_rfl⟩

set_option maxRecDepth 100000 in
theorem typesTree_lifted (os : Os) (started : os.Started) (H : Type) (enc : TypeId × Value → H) (F : Stop.Interp) :
    ReturnsInHanded {} Tryz.checked os 4 .any ((OpenSpec.ofChange Rows.typesTreeSpec).preRow enc Tryz.prog Tryz.f4 Rows.typesTreeRow.domain false Rows.typesTreeRow.laid) (((OpenSpec.ofChange Rows.typesTreeSpec).at F).post enc Tryz.prog Tryz.f4 false true false false) := by
  obtain ⟨places, hx⟩ := typesTree_reads os enc
  refine returnsInHanded_of_row (C := Tryz.checked) (s := OpenSpec.ofChange Rows.typesTreeSpec) own started (by kernel_rfl) Tryz.func4
    (witness_row_atRef (enc := enc) (C := Tryz.checked) false (laidWorld os) #[.string ⟨#[]⟩] rfl (by kernel_rfl) (by kernel_rfl) (by kernel_rfl)
      (OpenSpec.preRow_of_cond 8 hx (by kernel_rfl) (fun k hk => by cases hk) (by kernel_rfl) (laid_met os _))) ?_
  intro W base args ds gs before hval hW _ hcond hsz hL _ _
  exact lawS (s := Rows.typesTreeSpec) rfl Tryz.params4 rfl (fun _ _ => rfl) (fun t => t.length ≤ 140737488355328) ((fun m L t hE hT hok => typesTree_walk m L t hE hok)) H enc W base args ds gs before hval hW (fun t e => by
    rw [e] at hsz
    have h1 := List.all_eq_true.1 hsz t.length (DataW.weights_mem_each (j := 0) (t := 9) (d := .lit (.string t)) (by rw [Tryz.params4]; rfl) rfl _ (by simp [DataW.weights]))
    have h3 : reachBytes ≤ 140737488355328 := by decide
    have h2 : t.length ≤ reachBytes := by simpa using h1
    show t.length ≤ _
    omega) hL

theorem typesTree_said : Rows.TypesTreeSaid :=
  OpenClaim.holds_of_cond 4 Tryz.f4 rfl rfl rfl rfl rfl rfl rfl ⟨rfl, rfl, rfl, rfl, rfl⟩ rfl rfl rfl rfl rfl (by kernel_rfl) Tryz.func4 (by kernel_rfl)
    (of_decide_eq_true (by kernel_rfl)) (by unfold Func.isWrapper; first | (rw [if_pos (by decide +kernel)]; kernel_rfl) | (rw [if_neg (by decide +kernel)]; exact ⟨rfl, rfl⟩))
    (fun os started H enc _ F => by rw [OpenClaim.pre_eq_preRow]; exact typesTree_lifted os started H enc F)

theorem typesTree_plain (f : FuncId) (fn : Func) (hf : Tryz.pinned.checked.prog.funcNamed "halyard/halyardlaw04.TypesTree" = some f) (hfn : Tryz.pinned.checked.prog.funcs[f]? = some fn) :
    true = Tryz.pinned.checked.prog.looks [] ∧ ∀ (j : Nat) t, fn.params[j]? = some t → Tryz.pinned.checked.prog.wantsStandIn t = false := by
  obtain rfl : f = 4 := Option.some.inj ((show Tryz.prog.funcNamed "halyard/halyardlaw04.TypesTree" = some 4 by kernel_rfl).symm.trans hf) |>.symm
  obtain rfl : fn = Tryz.f4 := (Option.some.inj (Tryz.func4.symm.trans hfn)).symm
  refine ⟨by kernel_rfl, fun j t ht => ?_⟩
  rw [Tryz.params4] at ht
  obtain rfl : t = 9 := by simpa using Array.mem_of_getElem? ht
  exact (show Tryz.prog.wantsStandIn 9 = false by kernel_rfl)

theorem typesTree_card : Rows.TypesTreeCardSaid :=
  Claim7.holds_tied_plain_at .later [] _ _ _ _ typesTree_said (fun _ h => by cases h) (by kernel_rfl) (fun _ h => by cases h) typesTree_row_tie rfl ⟨rfl, rfl⟩ (by kernel_rfl) rfl typesTree_plain (by kernel_rfl)
end Go.Proofs.YtinmchaljlekgaaGreatDoor
