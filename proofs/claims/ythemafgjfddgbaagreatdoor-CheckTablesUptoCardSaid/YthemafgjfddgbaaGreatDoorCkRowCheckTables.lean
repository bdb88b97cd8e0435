/-
  CheckTables returns true for every node of bulk at most 1048576, with what the row lists tied to the program's text.
-/
import Derived.Test.YthemafgjfddgbaaGreatDoorB15
namespace Go.Proofs.YthemafgjfddgbaaGreatDoor
open Go.ChangeShapes Go.WideShapes Go.ChangeAt Go.RowKit Go.Sep
set_option linter.unusedVariables false

theorem checkTables_reads (os : Os) {H : Type} (enc : TypeId × Value → H) : ∃ places, DataW.whole enc Tryz.prog ((laidWorld os).forCall (fun _ _ => 0) ⟨#[], #[.agg #[.int .i64 0, .string ⟨#[]⟩, .int .i64 0, .slice none 0 0]], []⟩).memory Tryz.f3.params.toList Rows.checkTablesSpec.vars false #[.agg #[.int .i64 0, .string ⟨#[]⟩, .int .i64 0, .slice none 0 0]].toList 8 = some ([.agg [.lit (.int .i64 0), .lit (.string []), .lit (.int .i64 0), .nil]], [], places) :=
  ⟨[], by kernel_rfl⟩

set_option maxRecDepth 100000 in
theorem checkTables_lifted (os : Os) (started : os.Started) (H : Type) (enc : TypeId × Value → H) (F : Stop.Interp) :
    ReturnsInHanded {} Tryz.checked os 3 .any ((Rows.OpenSpec.upto Rows.checkTablesSpec).preRow enc Tryz.prog Tryz.f3 Rows.checkTablesUptoRow.domain false Rows.checkTablesUptoRow.laid) (((Rows.OpenSpec.upto Rows.checkTablesSpec).at F).post enc Tryz.prog Tryz.f3 false true false false) := by
  obtain ⟨places, hx⟩ := checkTables_reads os enc
  refine returnsInHanded_of_row (C := Tryz.checked) (s := Rows.OpenSpec.upto Rows.checkTablesSpec) own started (by kernel_rfl) Tryz.func3
    (witness_row_atRef (enc := enc) (C := Tryz.checked) false (laidWorld os) #[.agg #[.int .i64 0, .string ⟨#[]⟩, .int .i64 0, .slice none 0 0]] rfl (by kernel_rfl) (by kernel_rfl) (by kernel_rfl)
      (OpenSpec.preRow_of_cond 8 hx (by kernel_rfl) (fun k hk => by cases hk; kernel_rfl) (by kernel_rfl) (laid_met os _))) ?_
  intro W base args ds gs before hval hW _ hcond hsz hL _ _
  exact lawN (s := Rows.checkTablesSpec) rfl Tryz.params3 rfl (fun _ _ => rfl) (fun a => a.bulk ≤ 1048576 ∧ a.inR = true) (fun m L h a hE hr hok => checkTables_walk m L a h hE hr hok.1) H enc W base args ds gs before hval hW (fun d a e hB hR => ⟨by have h := hcond _ rfl; rw [e] at h; have h2 : Rows.uptoBulkAll [d] ≤ 1048576 := of_decide_eq_true h; simp only [Rows.uptoBulkAll] at h2; show a.bulk ≤ _; omega, hR⟩) hL hsz

theorem checkTables_said : Rows.CheckTablesUptoSaid :=
  OpenClaim.holds_of_cond 3 Tryz.f3 rfl rfl rfl rfl rfl rfl rfl ⟨rfl, rfl, rfl, rfl, rfl⟩ rfl rfl rfl rfl rfl (by kernel_rfl) Tryz.func3 (by kernel_rfl)
    (of_decide_eq_true (by kernel_rfl)) (by unfold Func.isWrapper; first | (rw [if_pos (by decide +kernel)]; kernel_rfl) | (rw [if_neg (by decide +kernel)]; exact ⟨rfl, rfl⟩))
    (fun os started H enc _ F => by rw [OpenClaim.pre_eq_preRow]; exact checkTables_lifted os started H enc F)

theorem checkTables_plain (f : FuncId) (fn : Func) (hf : Tryz.pinned.checked.prog.funcNamed "halyard/halyardlaw05.CheckTables" = some f) (hfn : Tryz.pinned.checked.prog.funcs[f]? = some fn) :
    true = Tryz.pinned.checked.prog.looks [] ∧ ∀ (j : Nat) t, fn.params[j]? = some t → Tryz.pinned.checked.prog.wantsStandIn t = false := by
  obtain rfl : f = 3 := Option.some.inj ((show Tryz.prog.funcNamed "halyard/halyardlaw05.CheckTables" = some 3 by kernel_rfl).symm.trans hf) |>.symm
  obtain rfl : fn = Tryz.f3 := (Option.some.inj (Tryz.func3.symm.trans hfn)).symm
  refine ⟨by kernel_rfl, fun j t ht => ?_⟩
  rw [Tryz.params3] at ht
  obtain rfl : t = 24 := by simpa using Array.mem_of_getElem? ht
  exact (show Tryz.prog.wantsStandIn 24 = false by kernel_rfl)

theorem checkTables_card : Rows.CheckTablesUptoCardSaid :=
  Claim7.holds_tied_plain_at .later [] _ _ _ _ checkTables_said (fun _ h => by cases h) (by kernel_rfl) (fun _ h => by cases h) checkTablesUpto_row_tie rfl ⟨rfl, rfl⟩ (by kernel_rfl) rfl checkTables_plain (by kernel_rfl)
end Go.Proofs.YthemafgjfddgbaaGreatDoor
