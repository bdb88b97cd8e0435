/-
  The law TypesTell.
-/
import Derived.Test.YtlpcakplpnpaeaaTyAwake
import Derived.Test.YtlpcakplpnpaeaaSepT
set_option linter.unusedVariables false
set_option linter.unusedSimpArgs false
namespace Go.Sep
open Go.Proofs Go.RowKit
attribute [local irreducible] TC TO OT TCallX TCall DO DOt thenQ blockQ retQ At

set_option maxHeartbeats 1600000 in
theorem typesTell_law (a c : Tree) (m : Mem) (L : List Item) (h g : HTree) (hr : TreeRep m h a) (gr : TreeRep m g c) (hB : a.bulk ≤ 1048576) (gB : c.bulk ≤ 1048576) : TCall Try.prog 4 ⟨[treeV h, treeV g]⟩ m L (Ret (.bool true) m L) := by
  unfold TCall
  refine TCallX.enter Try.func4 rfl 22 rfl ?_
  generalize hs : sameB a c = sb
  generalize ht : textS a = tx
  have hsl := same_law a c
  have hsr := same_ref a c
  have htl := text_law a
  have htr := text_ref a
  rw [hs] at hsl hsr
  rw [ht] at htl htr
  repeat (first|refine q1 ?_|refine q2 ?_|refine q3 ?_|refine q4 tab rfl rfl ?_|refine q5 ?_|refine q6 ?_|refine q7 ?_|refine q8 ?_|refine q9 ?_|refine q10 ?_|refine q11 ?_|refine q12 rfl ?_|refine q13 ?_|refine q14 ?_|refine q15 ?_|refine q16 rfl ?_|refine q17 rfl ?_)
  refine TO.step rfl (OT.box rfl rfl rfl rfl rfl (fun b => ?_))
  repeat (first|refine q1 ?_|refine q2 ?_|refine q3 ?_|refine q4 tab rfl rfl ?_|refine q5 ?_|refine q6 ?_|refine q7 ?_|refine q8 ?_|refine q9 ?_|refine q10 ?_|refine q11 ?_|refine q12 rfl ?_|refine q13 ?_|refine q14 ?_|refine q15 ?_|refine q16 rfl ?_|refine q17 rfl ?_)
  refine TO.step rfl (OT.box rfl rfl rfl rfl rfl (fun b2 => ?_))
  repeat (first|refine q1 ?_|refine q2 ?_|refine q3 ?_|refine q4 tab rfl rfl ?_|refine q5 ?_|refine q6 ?_|refine q7 ?_|refine q8 ?_|refine q9 ?_|refine q10 ?_|refine q11 ?_|refine q12 rfl ?_|refine q13 ?_|refine q14 ?_|refine q15 ?_|refine q16 rfl ?_|refine q17 rfl ?_)
  refine TC.draw0 [] mixed 18 rfl ?_
  refine DO.run 0 rfl rfl (by kernel_rfl) rfl (OT.call rfl rfl rfl rfl rfl rfl goes12 ((awake_law _ _).x ?_))
  rintro _ _ _ ⟨rfl, rfl, rfl⟩; refine ⟨Mem.le_refl _, _, List.Perm.refl _, ?_⟩
  refine DO.pure tab (by repeat (first | exact Calm.ret | refine Calm.then ?_ | refine Calm.block ?_ | assumption)) (by kernel_rfl) [1] (by kernel_rfl) rfl ?_
  (first | refine DO.loadL tab 2 0 (by repeat (first | exact Calm.ret | refine Calm.then ?_ | refine Calm.block ?_ | assumption)) (by kernel_rfl) (by kernel_rfl) rfl rfl rfl rfl rfl rfl rfl rfl ?_ | refine DO.loadL tab 2 1 (by repeat (first | exact Calm.ret | refine Calm.then ?_ | refine Calm.block ?_ | assumption)) (by kernel_rfl) (by kernel_rfl) rfl rfl rfl rfl rfl rfl rfl rfl ?_ | refine DO.loadL tab 2 2 (by repeat (first | exact Calm.ret | refine Calm.then ?_ | refine Calm.block ?_ | assumption)) (by kernel_rfl) (by kernel_rfl) rfl rfl rfl rfl rfl rfl rfl rfl ?_ | refine DO.loadL (k := 0) tab 2 0 (by repeat (first | exact Calm.ret | refine Calm.then ?_ | refine Calm.block ?_ | assumption)) (by kernel_rfl) (by kernel_rfl) rfl rfl rfl rfl rfl rfl rfl rfl ?_ | refine DO.loadL (k := 0) tab 2 1 (by repeat (first | exact Calm.ret | refine Calm.then ?_ | refine Calm.block ?_ | assumption)) (by kernel_rfl) (by kernel_rfl) rfl rfl rfl rfl rfl rfl rfl rfl ?_ | refine DO.loadL (k := 0) tab 2 2 (by repeat (first | exact Calm.ret | refine Calm.then ?_ | refine Calm.block ?_ | assumption)) (by kernel_rfl) (by kernel_rfl) rfl rfl rfl rfl rfl rfl rfl rfl ?_)
  (first | refine DO.loadL tab 3 0 (by repeat (first | exact Calm.ret | refine Calm.then ?_ | refine Calm.block ?_ | assumption)) (by kernel_rfl) (by kernel_rfl) rfl rfl rfl rfl rfl rfl rfl rfl ?_ | refine DO.loadL tab 3 1 (by repeat (first | exact Calm.ret | refine Calm.then ?_ | refine Calm.block ?_ | assumption)) (by kernel_rfl) (by kernel_rfl) rfl rfl rfl rfl rfl rfl rfl rfl ?_ | refine DO.loadL tab 3 2 (by repeat (first | exact Calm.ret | refine Calm.then ?_ | refine Calm.block ?_ | assumption)) (by kernel_rfl) (by kernel_rfl) rfl rfl rfl rfl rfl rfl rfl rfl ?_ | refine DO.loadL (k := 0) tab 3 0 (by repeat (first | exact Calm.ret | refine Calm.then ?_ | refine Calm.block ?_ | assumption)) (by kernel_rfl) (by kernel_rfl) rfl rfl rfl rfl rfl rfl rfl rfl ?_ | refine DO.loadL (k := 0) tab 3 1 (by repeat (first | exact Calm.ret | refine Calm.then ?_ | refine Calm.block ?_ | assumption)) (by kernel_rfl) (by kernel_rfl) rfl rfl rfl rfl rfl rfl rfl rfl ?_ | refine DO.loadL (k := 0) tab 3 2 (by repeat (first | exact Calm.ret | refine Calm.then ?_ | refine Calm.block ?_ | assumption)) (by kernel_rfl) (by kernel_rfl) rfl rfl rfl rfl rfl rfl rfl rfl ?_)
  (first | refine DO.loadL tab 5 0 (by repeat (first | exact Calm.ret | refine Calm.then ?_ | refine Calm.block ?_ | assumption)) (by kernel_rfl) (by kernel_rfl) rfl rfl rfl rfl rfl rfl rfl rfl ?_ | refine DO.loadL tab 5 1 (by repeat (first | exact Calm.ret | refine Calm.then ?_ | refine Calm.block ?_ | assumption)) (by kernel_rfl) (by kernel_rfl) rfl rfl rfl rfl rfl rfl rfl rfl ?_ | refine DO.loadL tab 5 2 (by repeat (first | exact Calm.ret | refine Calm.then ?_ | refine Calm.block ?_ | assumption)) (by kernel_rfl) (by kernel_rfl) rfl rfl rfl rfl rfl rfl rfl rfl ?_ | refine DO.loadL (k := 0) tab 5 0 (by repeat (first | exact Calm.ret | refine Calm.then ?_ | refine Calm.block ?_ | assumption)) (by kernel_rfl) (by kernel_rfl) rfl rfl rfl rfl rfl rfl rfl rfl ?_ | refine DO.loadL (k := 0) tab 5 1 (by repeat (first | exact Calm.ret | refine Calm.then ?_ | refine Calm.block ?_ | assumption)) (by kernel_rfl) (by kernel_rfl) rfl rfl rfl rfl rfl rfl rfl rfl ?_ | refine DO.loadL (k := 0) tab 5 2 (by repeat (first | exact Calm.ret | refine Calm.then ?_ | refine Calm.block ?_ | assumption)) (by kernel_rfl) (by kernel_rfl) rfl rfl rfl rfl rfl rfl rfl rfl ?_)
  (first | refine DO.loadL tab 6 0 (by repeat (first | exact Calm.ret | refine Calm.then ?_ | refine Calm.block ?_ | assumption)) (by kernel_rfl) (by kernel_rfl) rfl rfl rfl rfl rfl rfl rfl rfl ?_ | refine DO.loadL tab 6 1 (by repeat (first | exact Calm.ret | refine Calm.then ?_ | refine Calm.block ?_ | assumption)) (by kernel_rfl) (by kernel_rfl) rfl rfl rfl rfl rfl rfl rfl rfl ?_ | refine DO.loadL tab 6 2 (by repeat (first | exact Calm.ret | refine Calm.then ?_ | refine Calm.block ?_ | assumption)) (by kernel_rfl) (by kernel_rfl) rfl rfl rfl rfl rfl rfl rfl rfl ?_ | refine DO.loadL (k := 0) tab 6 0 (by repeat (first | exact Calm.ret | refine Calm.then ?_ | refine Calm.block ?_ | assumption)) (by kernel_rfl) (by kernel_rfl) rfl rfl rfl rfl rfl rfl rfl rfl ?_ | refine DO.loadL (k := 0) tab 6 1 (by repeat (first | exact Calm.ret | refine Calm.then ?_ | refine Calm.block ?_ | assumption)) (by kernel_rfl) (by kernel_rfl) rfl rfl rfl rfl rfl rfl rfl rfl ?_ | refine DO.loadL (k := 0) tab 6 2 (by repeat (first | exact Calm.ret | refine Calm.then ?_ | refine Calm.block ?_ | assumption)) (by kernel_rfl) (by kernel_rfl) rfl rfl rfl rfl rfl rfl rfl rfl ?_)
  refine DO.run 4 rfl rfl (by kernel_rfl) rfl (OT.call rfl rfl rfl rfl rfl rfl goes14 ((hsl _ _ h g hr gr hB gB).x ?_))
  rintro _ _ _ ⟨rfl, rfl, rfl⟩; refine ⟨Mem.le_refl _, _, List.Perm.refl _, ?_⟩
  refine DO.run 7 rfl rfl (by kernel_rfl) rfl (OT.call rfl rfl rfl rfl rfl rfl goes15 ((hsr _ _ h g hr gr hB gB).x ?_))
  rintro _ _ _ ⟨rfl, rfl, rfl⟩; refine ⟨Mem.le_refl _, _, List.Perm.refl _, ?_⟩
  refine DO.run 8 rfl rfl (by kernel_rfl) rfl ?_; refine OT.eqBool tab rfl rfl rfl rfl rfl rfl ?_; rw [beq_self_eq_true]; refine ⟨Mem.le_refl _, _, List.Perm.refl _, ?_⟩
  refine DO.pure tab (by repeat (first | exact Calm.ret | refine Calm.then ?_ | refine Calm.block ?_ | assumption)) (by kernel_rfl) [9, 10] (by kernel_rfl) rfl ?_
  (first | refine DO.loadL tab 11 0 (by repeat (first | exact Calm.ret | refine Calm.then ?_ | refine Calm.block ?_ | assumption)) (by kernel_rfl) (by kernel_rfl) rfl rfl rfl rfl rfl rfl rfl rfl ?_ | refine DO.loadL tab 11 1 (by repeat (first | exact Calm.ret | refine Calm.then ?_ | refine Calm.block ?_ | assumption)) (by kernel_rfl) (by kernel_rfl) rfl rfl rfl rfl rfl rfl rfl rfl ?_ | refine DO.loadL tab 11 2 (by repeat (first | exact Calm.ret | refine Calm.then ?_ | refine Calm.block ?_ | assumption)) (by kernel_rfl) (by kernel_rfl) rfl rfl rfl rfl rfl rfl rfl rfl ?_ | refine DO.loadL (k := 0) tab 11 0 (by repeat (first | exact Calm.ret | refine Calm.then ?_ | refine Calm.block ?_ | assumption)) (by kernel_rfl) (by kernel_rfl) rfl rfl rfl rfl rfl rfl rfl rfl ?_ | refine DO.loadL (k := 0) tab 11 1 (by repeat (first | exact Calm.ret | refine Calm.then ?_ | refine Calm.block ?_ | assumption)) (by kernel_rfl) (by kernel_rfl) rfl rfl rfl rfl rfl rfl rfl rfl ?_ | refine DO.loadL (k := 0) tab 11 2 (by repeat (first | exact Calm.ret | refine Calm.then ?_ | refine Calm.block ?_ | assumption)) (by kernel_rfl) (by kernel_rfl) rfl rfl rfl rfl rfl rfl rfl rfl ?_)
  (first | refine DO.loadL tab 13 0 (by repeat (first | exact Calm.ret | refine Calm.then ?_ | refine Calm.block ?_ | assumption)) (by kernel_rfl) (by kernel_rfl) rfl rfl rfl rfl rfl rfl rfl rfl ?_ | refine DO.loadL tab 13 1 (by repeat (first | exact Calm.ret | refine Calm.then ?_ | refine Calm.block ?_ | assumption)) (by kernel_rfl) (by kernel_rfl) rfl rfl rfl rfl rfl rfl rfl rfl ?_ | refine DO.loadL tab 13 2 (by repeat (first | exact Calm.ret | refine Calm.then ?_ | refine Calm.block ?_ | assumption)) (by kernel_rfl) (by kernel_rfl) rfl rfl rfl rfl rfl rfl rfl rfl ?_ | refine DO.loadL (k := 0) tab 13 0 (by repeat (first | exact Calm.ret | refine Calm.then ?_ | refine Calm.block ?_ | assumption)) (by kernel_rfl) (by kernel_rfl) rfl rfl rfl rfl rfl rfl rfl rfl ?_ | refine DO.loadL (k := 0) tab 13 1 (by repeat (first | exact Calm.ret | refine Calm.then ?_ | refine Calm.block ?_ | assumption)) (by kernel_rfl) (by kernel_rfl) rfl rfl rfl rfl rfl rfl rfl rfl ?_ | refine DO.loadL (k := 0) tab 13 2 (by repeat (first | exact Calm.ret | refine Calm.then ?_ | refine Calm.block ?_ | assumption)) (by kernel_rfl) (by kernel_rfl) rfl rfl rfl rfl rfl rfl rfl rfl ?_)
  refine DO.run 12 rfl rfl (by kernel_rfl) rfl (OT.call rfl rfl rfl rfl rfl rfl goes16 ((htl _ _ h hr hB).x ?_))
  rintro _ _ _ ⟨rfl, rfl, rfl⟩; refine ⟨Mem.le_refl _, _, List.Perm.refl _, ?_⟩
  refine DO.run 14 rfl rfl (by kernel_rfl) rfl (OT.call rfl rfl rfl rfl rfl rfl goes17 ((htr _ _ h hr hB).x ?_))
  rintro _ _ _ ⟨rfl, rfl, rfl⟩; refine ⟨Mem.le_refl _, _, List.Perm.refl _, ?_⟩
  refine DO.pure tab (by repeat (first | exact Calm.ret | refine Calm.then ?_ | refine Calm.block ?_ | assumption)) (by kernel_rfl) [15, 16, 17] (by kernel_rfl) rfl ?_
  (first | refine DO.nil0 (by kernel_rfl) ?_ | refine DO.nil (by kernel_rfl) ?_)
  rotate_left 1
  refine thenQ_n ?_
  repeat (first|refine q1 ?_|refine q2 ?_|refine q3 ?_|refine q4 tab rfl rfl ?_|refine q5 ?_|refine q6 ?_|refine q7 ?_|refine q8 ?_|refine q9 ?_|refine q10 ?_|refine q11 ?_|refine q12 rfl ?_|refine q13 ?_|refine q14 ?_|refine q15 ?_|refine q16 rfl ?_|refine q17 rfl ?_)
  refine retQ_ret rfl (by repeat (first | exact List.Sublist.refl _ | exact List.sublist_append_left _ _ | refine List.Sublist.cons_cons _ ?_ | refine List.Sublist.cons _ ?_)) ⟨rfl, rfl, ?_⟩
  exact congrArg Value.bool (decide_eq_true rfl)
end Go.Sep
