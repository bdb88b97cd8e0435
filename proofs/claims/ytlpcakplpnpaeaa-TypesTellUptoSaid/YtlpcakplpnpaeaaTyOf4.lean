/-
  types.Of and the reference's Of.
-/
import Derived.Test.YtlpcakplpnpaeaaTyOf3
import Derived.Test.YtlpcakplpnpaeaaSepL
set_option linter.unusedVariables false
set_option linter.unusedSimpArgs false
namespace Go.Sep
open Go.Proofs
attribute [local irreducible] TC TO OT TCallX TCall DO DOt thenQ blockQ retQ At

def okT (a : Tree) : Bool := okType a || okSig a
def ofRes (a : Tree) : Tree × Int := if okT a = true then (a.ofT, 0) else (.mk 0 [] 0 [], 2)
/-- a tree and a number are made -/
def MadeTI (m : Mem) (L : List Item) (x : Tree × Int) : Value → Mem → List Item → Prop := Made m L fun r m' => ∃ h : HTree, r = .tuple ⟨[treeV h, .int .i64 x.2]⟩ ∧ TreeRep m' h x.1

theorem okT_node {a : Tree} (h : okT a = true) : okNode a = true := by
  unfold okT okType okSig at h
  unfold okNode
  rw [Bool.or_eq_true, Bool.and_eq_true, Bool.and_eq_true] at h
  rcases h with h | h
  · rw [h.2]; rfl
  · rw [h.2]; simp

set_option maxHeartbeats 1600000 in
theorem of_ref (a : Tree) (m : Mem) (L : List Item) (h : HTree) (hr : TreeRep m h a) (hB : a.bulk ≤ 1048576) : TCall Try.prog 11 ⟨[treeV h]⟩ m L (MadeTI m L (ofRes a)) := by
  unfold TCall
  refine TCallX.enter Try.func11 rfl 15 rfl ?_
  repeat (first|refine q1 ?_|refine q2 ?_|refine q3 ?_|refine q4 tab rfl rfl ?_|refine q5 ?_|refine q6 ?_|refine q7 ?_|refine q8 ?_|refine q9 ?_|refine q10 ?_|refine q11 ?_|refine q12 rfl ?_|refine q13 ?_|refine q14 ?_|refine q15 ?_|refine q16 rfl ?_|refine q17 rfl ?_)
  refine TO.step rfl (OT.box rfl rfl rfl rfl rfl (fun b => ?_))
  repeat (first|refine q1 ?_|refine q2 ?_|refine q3 ?_|refine q4 tab rfl rfl ?_|refine q5 ?_|refine q6 ?_|refine q7 ?_|refine q8 ?_|refine q9 ?_|refine q10 ?_|refine q11 ?_|refine q12 rfl ?_|refine q13 ?_|refine q14 ?_|refine q15 ?_|refine q16 rfl ?_|refine q17 rfl ?_)
  refine TO.step rfl (OT.alloc tab rfl rfl rfl rfl (fun b2 => ?_))
  repeat (first | (first|refine q1 ?_|refine q2 ?_|refine q3 ?_|refine q4 tab rfl rfl ?_|refine q5 ?_|refine q6 ?_|refine q7 ?_|refine q8 ?_|refine q9 ?_|refine q10 ?_|refine q11 ?_|refine q12 rfl ?_|refine q13 ?_|refine q14 ?_|refine q15 ?_|refine q16 rfl ?_|refine q17 rfl ?_) | (first | refine qs rfl (ql tab 0 rfl rfl rfl rfl rfl rfl ?_) | refine qs rfl (qz tab 0 rfl rfl rfl rfl rfl rfl ?_) | refine qs rfl (ql tab 1 rfl rfl rfl rfl rfl rfl ?_) | refine qs rfl (qz tab 1 rfl rfl rfl rfl rfl rfl ?_) | refine qs rfl (ql tab 2 rfl rfl rfl rfl rfl rfl ?_) | refine qs rfl (qz tab 2 rfl rfl rfl rfl rfl rfl ?_) | refine qs rfl (ql tab 3 rfl rfl rfl rfl rfl rfl ?_) | refine qs rfl (qz tab 3 rfl rfl rfl rfl rfl rfl ?_) | refine qs rfl (ql tab 4 rfl rfl rfl rfl rfl rfl ?_) | refine qs rfl (qz tab 4 rfl rfl rfl rfl rfl rfl ?_) | refine qs rfl (ql tab 5 rfl rfl rfl rfl rfl rfl ?_) | refine qs rfl (qz tab 5 rfl rfl rfl rfl rfl rfl ?_)))
  refine TO.step rfl (OT.call rfl rfl rfl rfl rfl rfl goes37 ((isType_ref a _ _ h hr hB).x ?_));
  rintro _ _ _ ⟨rfl, rfl, rfl⟩
  repeat (first|refine q1 ?_|refine q2 ?_|refine q3 ?_|refine q4 tab rfl rfl ?_|refine q5 ?_|refine q6 ?_|refine q7 ?_|refine q8 ?_|refine q9 ?_|refine q10 ?_|refine q11 ?_|refine q12 rfl ?_|refine q13 ?_|refine q14 ?_|refine q15 ?_|refine q16 rfl ?_|refine q17 rfl ?_)
  refine TO.split (b := !okType a) rfl rfl (fun h1 => ?_) (fun h1 => ?_)
  · rw [Bool.not_eq_true'] at h1
    repeat (first | (first|refine q1 ?_|refine q2 ?_|refine q3 ?_|refine q4 tab rfl rfl ?_|refine q5 ?_|refine q6 ?_|refine q7 ?_|refine q8 ?_|refine q9 ?_|refine q10 ?_|refine q11 ?_|refine q12 rfl ?_|refine q13 ?_|refine q14 ?_|refine q15 ?_|refine q16 rfl ?_|refine q17 rfl ?_) | (first | refine qs rfl (ql tab 0 rfl rfl rfl rfl rfl rfl ?_) | refine qs rfl (qz tab 0 rfl rfl rfl rfl rfl rfl ?_) | refine qs rfl (ql tab 1 rfl rfl rfl rfl rfl rfl ?_) | refine qs rfl (qz tab 1 rfl rfl rfl rfl rfl rfl ?_) | refine qs rfl (ql tab 2 rfl rfl rfl rfl rfl rfl ?_) | refine qs rfl (qz tab 2 rfl rfl rfl rfl rfl rfl ?_) | refine qs rfl (ql tab 3 rfl rfl rfl rfl rfl rfl ?_) | refine qs rfl (qz tab 3 rfl rfl rfl rfl rfl rfl ?_) | refine qs rfl (ql tab 4 rfl rfl rfl rfl rfl rfl ?_) | refine qs rfl (qz tab 4 rfl rfl rfl rfl rfl rfl ?_) | refine qs rfl (ql tab 5 rfl rfl rfl rfl rfl rfl ?_) | refine qs rfl (qz tab 5 rfl rfl rfl rfl rfl rfl ?_)))
    refine TO.step rfl (OT.call rfl rfl rfl rfl rfl rfl goes38 ((isSig_ref a _ _ h hr hB).x ?_));
    rintro _ _ _ ⟨rfl, rfl, rfl⟩
    repeat (first|refine q1 ?_|refine q2 ?_|refine q3 ?_|refine q4 tab rfl rfl ?_|refine q5 ?_|refine q6 ?_|refine q7 ?_|refine q8 ?_|refine q9 ?_|refine q10 ?_|refine q11 ?_|refine q12 rfl ?_|refine q13 ?_|refine q14 ?_|refine q15 ?_|refine q16 rfl ?_|refine q17 rfl ?_)
    refine TC.cond (t := !okSig a) rfl (fun h2 => ?_) (fun h2 => ?_)
    · rw [Bool.not_eq_true'] at h2
      repeat (first|refine q1 ?_|refine q2 ?_|refine q3 ?_|refine q4 tab rfl rfl ?_|refine q5 ?_|refine q6 ?_|refine q7 ?_|refine q8 ?_|refine q9 ?_|refine q10 ?_|refine q11 ?_|refine q12 rfl ?_|refine q13 ?_|refine q14 ?_|refine q15 ?_|refine q16 rfl ?_|refine q17 rfl ?_)
      (first | refine TO.step rfl (OT.storeL tab 0 rfl rfl rfl rfl rfl rfl rfl rfl ?_) | refine TO.step rfl (OT.storeL0 tab 0 rfl rfl rfl rfl rfl rfl rfl rfl ?_) | refine TO.step rfl (OT.storeL tab 1 rfl rfl rfl rfl rfl rfl rfl rfl ?_) | refine TO.step rfl (OT.storeL0 tab 1 rfl rfl rfl rfl rfl rfl rfl rfl ?_) | refine TO.step rfl (OT.storeL tab 2 rfl rfl rfl rfl rfl rfl rfl rfl ?_) | refine TO.step rfl (OT.storeL0 tab 2 rfl rfl rfl rfl rfl rfl rfl rfl ?_) | refine TO.step rfl (OT.storeL tab 3 rfl rfl rfl rfl rfl rfl rfl rfl ?_) | refine TO.step rfl (OT.storeL0 tab 3 rfl rfl rfl rfl rfl rfl rfl rfl ?_) | refine TO.step rfl (OT.storeL tab 4 rfl rfl rfl rfl rfl rfl rfl rfl ?_) | refine TO.step rfl (OT.storeL0 tab 4 rfl rfl rfl rfl rfl rfl rfl rfl ?_) | refine TO.step rfl (OT.storeL tab 5 rfl rfl rfl rfl rfl rfl rfl rfl ?_) | refine TO.step rfl (OT.storeL0 tab 5 rfl rfl rfl rfl rfl rfl rfl rfl ?_))
      repeat (first|refine q1 ?_|refine q2 ?_|refine q3 ?_|refine q4 tab rfl rfl ?_|refine q5 ?_|refine q6 ?_|refine q7 ?_|refine q8 ?_|refine q9 ?_|refine q10 ?_|refine q11 ?_|refine q12 rfl ?_|refine q13 ?_|refine q14 ?_|refine q15 ?_|refine q16 rfl ?_|refine q17 rfl ?_)
      refine retQ_ret_c tab 0 rfl rfl rfl rfl rfl (by repeat (first | exact List.Sublist.refl _ | exact List.sublist_append_left _ _ | refine List.Sublist.cons_cons _ ?_ | refine List.Sublist.cons _ ?_)) ⟨Mem.le_refl _, rfl, ⟨0, [], 0, ⟨none, 0, 0⟩⟩, ?_⟩
      have : okT a = false := by unfold okT; rw [h1, h2]; rfl
      rw [ofRes, this]
      exact ⟨rfl, TreeRep.leaf _ _ _ _⟩
    · rw [Bool.not_eq_false'] at h2
      have hok : okT a = true := by unfold okT; rw [h2, Bool.or_true]
      repeat (first | (first|refine q1 ?_|refine q2 ?_|refine q3 ?_|refine q4 tab rfl rfl ?_|refine q5 ?_|refine q6 ?_|refine q7 ?_|refine q8 ?_|refine q9 ?_|refine q10 ?_|refine q11 ?_|refine q12 rfl ?_|refine q13 ?_|refine q14 ?_|refine q15 ?_|refine q16 rfl ?_|refine q17 rfl ?_) | (first | refine qs rfl (ql tab 0 rfl rfl rfl rfl rfl rfl ?_) | refine qs rfl (qz tab 0 rfl rfl rfl rfl rfl rfl ?_) | refine qs rfl (ql tab 1 rfl rfl rfl rfl rfl rfl ?_) | refine qs rfl (qz tab 1 rfl rfl rfl rfl rfl rfl ?_) | refine qs rfl (ql tab 2 rfl rfl rfl rfl rfl rfl ?_) | refine qs rfl (qz tab 2 rfl rfl rfl rfl rfl rfl ?_) | refine qs rfl (ql tab 3 rfl rfl rfl rfl rfl rfl ?_) | refine qs rfl (qz tab 3 rfl rfl rfl rfl rfl rfl ?_) | refine qs rfl (ql tab 4 rfl rfl rfl rfl rfl rfl ?_) | refine qs rfl (qz tab 4 rfl rfl rfl rfl rfl rfl ?_) | refine qs rfl (ql tab 5 rfl rfl rfl rfl rfl rfl ?_) | refine qs rfl (qz tab 5 rfl rfl rfl rfl rfl rfl ?_)))
      refine TO.step rfl (OT.call rfl rfl rfl rfl rfl rfl goes39 ((from_ref a (okT_node hok) _ _ h hr hB).x ?_));
      rintro _ m1 _ ⟨hm1, rfl, h', rfl, hr'⟩
      repeat (first|refine q1 ?_|refine q2 ?_|refine q3 ?_|refine q4 tab rfl rfl ?_|refine q5 ?_|refine q6 ?_|refine q7 ?_|refine q8 ?_|refine q9 ?_|refine q10 ?_|refine q11 ?_|refine q12 rfl ?_|refine q13 ?_|refine q14 ?_|refine q15 ?_|refine q16 rfl ?_|refine q17 rfl ?_)
      (first | refine TO.step rfl (OT.storeL tab 0 rfl rfl rfl rfl rfl rfl rfl rfl ?_) | refine TO.step rfl (OT.storeL0 tab 0 rfl rfl rfl rfl rfl rfl rfl rfl ?_) | refine TO.step rfl (OT.storeL tab 1 rfl rfl rfl rfl rfl rfl rfl rfl ?_) | refine TO.step rfl (OT.storeL0 tab 1 rfl rfl rfl rfl rfl rfl rfl rfl ?_) | refine TO.step rfl (OT.storeL tab 2 rfl rfl rfl rfl rfl rfl rfl rfl ?_) | refine TO.step rfl (OT.storeL0 tab 2 rfl rfl rfl rfl rfl rfl rfl rfl ?_) | refine TO.step rfl (OT.storeL tab 3 rfl rfl rfl rfl rfl rfl rfl rfl ?_) | refine TO.step rfl (OT.storeL0 tab 3 rfl rfl rfl rfl rfl rfl rfl rfl ?_) | refine TO.step rfl (OT.storeL tab 4 rfl rfl rfl rfl rfl rfl rfl rfl ?_) | refine TO.step rfl (OT.storeL0 tab 4 rfl rfl rfl rfl rfl rfl rfl rfl ?_) | refine TO.step rfl (OT.storeL tab 5 rfl rfl rfl rfl rfl rfl rfl rfl ?_) | refine TO.step rfl (OT.storeL0 tab 5 rfl rfl rfl rfl rfl rfl rfl rfl ?_))
      repeat (first|refine q1 ?_|refine q2 ?_|refine q3 ?_|refine q4 tab rfl rfl ?_|refine q5 ?_|refine q6 ?_|refine q7 ?_|refine q8 ?_|refine q9 ?_|refine q10 ?_|refine q11 ?_|refine q12 rfl ?_|refine q13 ?_|refine q14 ?_|refine q15 ?_|refine q16 rfl ?_|refine q17 rfl ?_)
      refine retQ_ret_c tab 0 rfl rfl rfl rfl rfl (by repeat (first | exact List.Sublist.refl _ | exact List.sublist_append_left _ _ | refine List.Sublist.cons_cons _ ?_ | refine List.Sublist.cons _ ?_)) ⟨hm1, rfl, h', ?_⟩
      rw [ofRes, hok]
      exact ⟨rfl, hr'⟩
  · rw [Bool.not_eq_false'] at h1
    have hok : okT a = true := by unfold okT; rw [h1]; rfl
    repeat (first | (first|refine q1 ?_|refine q2 ?_|refine q3 ?_|refine q4 tab rfl rfl ?_|refine q5 ?_|refine q6 ?_|refine q7 ?_|refine q8 ?_|refine q9 ?_|refine q10 ?_|refine q11 ?_|refine q12 rfl ?_|refine q13 ?_|refine q14 ?_|refine q15 ?_|refine q16 rfl ?_|refine q17 rfl ?_) | (first | refine qs rfl (ql tab 0 rfl rfl rfl rfl rfl rfl ?_) | refine qs rfl (qz tab 0 rfl rfl rfl rfl rfl rfl ?_) | refine qs rfl (ql tab 1 rfl rfl rfl rfl rfl rfl ?_) | refine qs rfl (qz tab 1 rfl rfl rfl rfl rfl rfl ?_) | refine qs rfl (ql tab 2 rfl rfl rfl rfl rfl rfl ?_) | refine qs rfl (qz tab 2 rfl rfl rfl rfl rfl rfl ?_) | refine qs rfl (ql tab 3 rfl rfl rfl rfl rfl rfl ?_) | refine qs rfl (qz tab 3 rfl rfl rfl rfl rfl rfl ?_) | refine qs rfl (ql tab 4 rfl rfl rfl rfl rfl rfl ?_) | refine qs rfl (qz tab 4 rfl rfl rfl rfl rfl rfl ?_) | refine qs rfl (ql tab 5 rfl rfl rfl rfl rfl rfl ?_) | refine qs rfl (qz tab 5 rfl rfl rfl rfl rfl rfl ?_)))
    refine TO.step rfl (OT.call rfl rfl rfl rfl rfl rfl goes39 ((from_ref a (okT_node hok) _ _ h hr hB).x ?_));
    rintro _ m1 _ ⟨hm1, rfl, h', rfl, hr'⟩
    repeat (first|refine q1 ?_|refine q2 ?_|refine q3 ?_|refine q4 tab rfl rfl ?_|refine q5 ?_|refine q6 ?_|refine q7 ?_|refine q8 ?_|refine q9 ?_|refine q10 ?_|refine q11 ?_|refine q12 rfl ?_|refine q13 ?_|refine q14 ?_|refine q15 ?_|refine q16 rfl ?_|refine q17 rfl ?_)
    (first | refine TO.step rfl (OT.storeL tab 0 rfl rfl rfl rfl rfl rfl rfl rfl ?_) | refine TO.step rfl (OT.storeL0 tab 0 rfl rfl rfl rfl rfl rfl rfl rfl ?_) | refine TO.step rfl (OT.storeL tab 1 rfl rfl rfl rfl rfl rfl rfl rfl ?_) | refine TO.step rfl (OT.storeL0 tab 1 rfl rfl rfl rfl rfl rfl rfl rfl ?_) | refine TO.step rfl (OT.storeL tab 2 rfl rfl rfl rfl rfl rfl rfl rfl ?_) | refine TO.step rfl (OT.storeL0 tab 2 rfl rfl rfl rfl rfl rfl rfl rfl ?_) | refine TO.step rfl (OT.storeL tab 3 rfl rfl rfl rfl rfl rfl rfl rfl ?_) | refine TO.step rfl (OT.storeL0 tab 3 rfl rfl rfl rfl rfl rfl rfl rfl ?_) | refine TO.step rfl (OT.storeL tab 4 rfl rfl rfl rfl rfl rfl rfl rfl ?_) | refine TO.step rfl (OT.storeL0 tab 4 rfl rfl rfl rfl rfl rfl rfl rfl ?_) | refine TO.step rfl (OT.storeL tab 5 rfl rfl rfl rfl rfl rfl rfl rfl ?_) | refine TO.step rfl (OT.storeL0 tab 5 rfl rfl rfl rfl rfl rfl rfl rfl ?_))
    repeat (first|refine q1 ?_|refine q2 ?_|refine q3 ?_|refine q4 tab rfl rfl ?_|refine q5 ?_|refine q6 ?_|refine q7 ?_|refine q8 ?_|refine q9 ?_|refine q10 ?_|refine q11 ?_|refine q12 rfl ?_|refine q13 ?_|refine q14 ?_|refine q15 ?_|refine q16 rfl ?_|refine q17 rfl ?_)
    refine retQ_ret_c tab 0 rfl rfl rfl rfl rfl (by repeat (first | exact List.Sublist.refl _ | exact List.sublist_append_left _ _ | refine List.Sublist.cons_cons _ ?_ | refine List.Sublist.cons _ ?_)) ⟨hm1, rfl, h', ?_⟩
    rw [ofRes, hok]
    exact ⟨rfl, hr'⟩

theorem type_not7 {a : Tree} (h : a.isType = true) : ¬ a.kind = 7 := by
  rcases isType_facts h with h | h | h <;> omega

set_option maxHeartbeats 1600000 in
theorem of_own (a : Tree) (m : Mem) (L : List Item) (h : HTree) (hr : TreeRep m h a) (hB : a.bulk ≤ 1048576) : TCall Try.prog 10 ⟨[treeV h]⟩ m L (MadeTI m L (ofRes a)) := by
  have hk := hr.kind
  unfold TCall
  refine TCallX.enter Try.func10 rfl 28 rfl ?_
  repeat (first|refine q1 ?_|refine q2 ?_|refine q3 ?_|refine q4 tab rfl rfl ?_|refine q5 ?_|refine q6 ?_|refine q7 ?_|refine q8 ?_|refine q9 ?_|refine q10 ?_|refine q11 ?_|refine q12 rfl ?_|refine q13 ?_|refine q14 ?_|refine q15 ?_|refine q16 rfl ?_|refine q17 rfl ?_)
  refine TO.step rfl (OT.box rfl rfl rfl rfl rfl (fun b => ?_))
  repeat (first|refine q1 ?_|refine q2 ?_|refine q3 ?_|refine q4 tab rfl rfl ?_|refine q5 ?_|refine q6 ?_|refine q7 ?_|refine q8 ?_|refine q9 ?_|refine q10 ?_|refine q11 ?_|refine q12 rfl ?_|refine q13 ?_|refine q14 ?_|refine q15 ?_|refine q16 rfl ?_|refine q17 rfl ?_)
  refine TO.step rfl (OT.alloc tab rfl rfl rfl rfl (fun b2 => ?_))
  repeat (first|refine q1 ?_|refine q2 ?_|refine q3 ?_|refine q4 tab rfl rfl ?_|refine q5 ?_|refine q6 ?_|refine q7 ?_|refine q8 ?_|refine q9 ?_|refine q10 ?_|refine q11 ?_|refine q12 rfl ?_|refine q13 ?_|refine q14 ?_|refine q15 ?_|refine q16 rfl ?_|refine q17 rfl ?_)
  refine TO.step rfl (OT.alloc tab rfl rfl rfl rfl (fun b3 => ?_))
  repeat (first|refine q1 ?_|refine q2 ?_|refine q3 ?_|refine q4 tab rfl rfl ?_|refine q5 ?_|refine q6 ?_|refine q7 ?_|refine q8 ?_|refine q9 ?_|refine q10 ?_|refine q11 ?_|refine q12 rfl ?_|refine q13 ?_|refine q14 ?_|refine q15 ?_|refine q16 rfl ?_|refine q17 rfl ?_)
  (first | refine TO.step rfl (OT.storeL tab 0 rfl rfl rfl rfl rfl rfl rfl rfl ?_) | refine TO.step rfl (OT.storeL0 tab 0 rfl rfl rfl rfl rfl rfl rfl rfl ?_) | refine TO.step rfl (OT.storeL tab 1 rfl rfl rfl rfl rfl rfl rfl rfl ?_) | refine TO.step rfl (OT.storeL0 tab 1 rfl rfl rfl rfl rfl rfl rfl rfl ?_) | refine TO.step rfl (OT.storeL tab 2 rfl rfl rfl rfl rfl rfl rfl rfl ?_) | refine TO.step rfl (OT.storeL0 tab 2 rfl rfl rfl rfl rfl rfl rfl rfl ?_) | refine TO.step rfl (OT.storeL tab 3 rfl rfl rfl rfl rfl rfl rfl rfl ?_) | refine TO.step rfl (OT.storeL0 tab 3 rfl rfl rfl rfl rfl rfl rfl rfl ?_) | refine TO.step rfl (OT.storeL tab 4 rfl rfl rfl rfl rfl rfl rfl rfl ?_) | refine TO.step rfl (OT.storeL0 tab 4 rfl rfl rfl rfl rfl rfl rfl rfl ?_) | refine TO.step rfl (OT.storeL tab 5 rfl rfl rfl rfl rfl rfl rfl rfl ?_) | refine TO.step rfl (OT.storeL0 tab 5 rfl rfl rfl rfl rfl rfl rfl rfl ?_))
  repeat (first | (first|refine q1 ?_|refine q2 ?_|refine q3 ?_|refine q4 tab rfl rfl ?_|refine q5 ?_|refine q6 ?_|refine q7 ?_|refine q8 ?_|refine q9 ?_|refine q10 ?_|refine q11 ?_|refine q12 rfl ?_|refine q13 ?_|refine q14 ?_|refine q15 ?_|refine q16 rfl ?_|refine q17 rfl ?_) | (first | refine qs rfl (ql tab 0 rfl rfl rfl rfl rfl rfl ?_) | refine qs rfl (qz tab 0 rfl rfl rfl rfl rfl rfl ?_) | refine qs rfl (ql tab 1 rfl rfl rfl rfl rfl rfl ?_) | refine qs rfl (qz tab 1 rfl rfl rfl rfl rfl rfl ?_) | refine qs rfl (ql tab 2 rfl rfl rfl rfl rfl rfl ?_) | refine qs rfl (qz tab 2 rfl rfl rfl rfl rfl rfl ?_) | refine qs rfl (ql tab 3 rfl rfl rfl rfl rfl rfl ?_) | refine qs rfl (qz tab 3 rfl rfl rfl rfl rfl rfl ?_) | refine qs rfl (ql tab 4 rfl rfl rfl rfl rfl rfl ?_) | refine qs rfl (qz tab 4 rfl rfl rfl rfl rfl rfl ?_) | refine qs rfl (ql tab 5 rfl rfl rfl rfl rfl rfl ?_) | refine qs rfl (qz tab 5 rfl rfl rfl rfl rfl rfl ?_)))
  refine TC.condP rfl (fun h7 => ?_) (fun h7 => ?_)
  · repeat (first|refine q1 ?_|refine q2 ?_|refine q3 ?_|refine q4 tab rfl rfl ?_|refine q5 ?_|refine q6 ?_|refine q7 ?_|refine q8 ?_|refine q9 ?_|refine q10 ?_|refine q11 ?_|refine q12 rfl ?_|refine q13 ?_|refine q14 ?_|refine q15 ?_|refine q16 rfl ?_|refine q17 rfl ?_)
    refine TO.step rfl (OT.arith (r' := 98) rfl rfl rfl rfl rfl rfl rfl (by omega) ?_)
    repeat (first | (first|refine q1 ?_|refine q2 ?_|refine q3 ?_|refine q4 tab rfl rfl ?_|refine q5 ?_|refine q6 ?_|refine q7 ?_|refine q8 ?_|refine q9 ?_|refine q10 ?_|refine q11 ?_|refine q12 rfl ?_|refine q13 ?_|refine q14 ?_|refine q15 ?_|refine q16 rfl ?_|refine q17 rfl ?_) | (first | refine qs rfl (ql tab 0 rfl rfl rfl rfl rfl rfl ?_) | refine qs rfl (qz tab 0 rfl rfl rfl rfl rfl rfl ?_) | refine qs rfl (ql tab 1 rfl rfl rfl rfl rfl rfl ?_) | refine qs rfl (qz tab 1 rfl rfl rfl rfl rfl rfl ?_) | refine qs rfl (ql tab 2 rfl rfl rfl rfl rfl rfl ?_) | refine qs rfl (qz tab 2 rfl rfl rfl rfl rfl rfl ?_) | refine qs rfl (ql tab 3 rfl rfl rfl rfl rfl rfl ?_) | refine qs rfl (qz tab 3 rfl rfl rfl rfl rfl rfl ?_) | refine qs rfl (ql tab 4 rfl rfl rfl rfl rfl rfl ?_) | refine qs rfl (qz tab 4 rfl rfl rfl rfl rfl rfl ?_) | refine qs rfl (ql tab 5 rfl rfl rfl rfl rfl rfl ?_) | refine qs rfl (qz tab 5 rfl rfl rfl rfl rfl rfl ?_)))
    have hsB : ∀ r : Bool, r = decide ((a.size : Int) ≤ 19997 ∧ (a.deep : Int) ≤ 98) → (r = true → (a.isType = true ∨ a.isSig = true) → okT a = true) ∧ (r = false → okT a = false) := by
      intro r hrr
      subst hrr
      unfold okT okType okSig
      rw [withinB_eq, withinB_eq]
      refine ⟨fun hd ht => ?_, fun hd => ?_⟩
      · have hd := of_decide_eq_true hd
        rcases ht with ht | ht
        · have := type_not7 ht
          rw [ht, decide_eq_true (show (a.size : Int) + 3 ≤ 20000 by omega), decide_eq_true (show (a.deep : Int) + 3 ≤ 100 by omega)]; rfl
        · have := (isSig_facts ht).1
          rw [ht, decide_eq_true (show (a.size : Int) + 3 ≤ 20000 by omega), decide_eq_true (show (a.deep : Int) + 2 ≤ 100 by omega)]; simp
      · have hd := of_decide_eq_false hd
        rw [Bool.or_eq_false_iff]
        refine ⟨Bool.eq_false_iff.2 fun hc => ?_, Bool.eq_false_iff.2 fun hc => ?_⟩
        · simp only [Bool.and_eq_true, decide_eq_true_eq] at hc
          have := type_not7 hc.2
          omega
        · simp only [Bool.and_eq_true, decide_eq_true_eq] at hc
          have := (isSig_facts hc.2).1
          omega
    have hno : a.isType = false → a.isSig = false → okT a = false := fun h1 h2 => by unfold okT okType okSig; rw [h1, h2]; simp
    refine TO.step rfl (OT.call rfl rfl rfl rfl rfl rfl goes33 ((small_law a _ _ h hr 98 19997 0 b3 rfl (by omega) (by omega)).x ?_));
    rintro v _ L3 ⟨rfl, hv, y, hL, _⟩
    generalize hsm : decide ((a.size : Int) ≤ 19997 ∧ (a.deep : Int) ≤ 98) = sm at hv
    have hsB' := hsB sm hsm.symm
    clear hsm hsB
    subst hv
    subst hL
    repeat (first|refine q1 ?_|refine q2 ?_|refine q3 ?_|refine q4 tab rfl rfl ?_|refine q5 ?_|refine q6 ?_|refine q7 ?_|refine q8 ?_|refine q9 ?_|refine q10 ?_|refine q11 ?_|refine q12 rfl ?_|refine q13 ?_|refine q14 ?_|refine q15 ?_|refine q16 rfl ?_|refine q17 rfl ?_)
    refine TO.split (b := !sm) rfl rfl (fun h1 => ?_) (fun h1 => ?_)
    · rw [Bool.not_eq_true'] at h1
      have hbad := hsB'.2 h1
      repeat (first|refine q1 ?_|refine q2 ?_|refine q3 ?_|refine q4 tab rfl rfl ?_|refine q5 ?_|refine q6 ?_|refine q7 ?_|refine q8 ?_|refine q9 ?_|refine q10 ?_|refine q11 ?_|refine q12 rfl ?_|refine q13 ?_|refine q14 ?_|refine q15 ?_|refine q16 rfl ?_|refine q17 rfl ?_)
      (first | refine TO.step rfl (OT.storeL tab 0 rfl rfl rfl rfl rfl rfl rfl rfl ?_) | refine TO.step rfl (OT.storeL0 tab 0 rfl rfl rfl rfl rfl rfl rfl rfl ?_) | refine TO.step rfl (OT.storeL tab 1 rfl rfl rfl rfl rfl rfl rfl rfl ?_) | refine TO.step rfl (OT.storeL0 tab 1 rfl rfl rfl rfl rfl rfl rfl rfl ?_) | refine TO.step rfl (OT.storeL tab 2 rfl rfl rfl rfl rfl rfl rfl rfl ?_) | refine TO.step rfl (OT.storeL0 tab 2 rfl rfl rfl rfl rfl rfl rfl rfl ?_) | refine TO.step rfl (OT.storeL tab 3 rfl rfl rfl rfl rfl rfl rfl rfl ?_) | refine TO.step rfl (OT.storeL0 tab 3 rfl rfl rfl rfl rfl rfl rfl rfl ?_) | refine TO.step rfl (OT.storeL tab 4 rfl rfl rfl rfl rfl rfl rfl rfl ?_) | refine TO.step rfl (OT.storeL0 tab 4 rfl rfl rfl rfl rfl rfl rfl rfl ?_) | refine TO.step rfl (OT.storeL tab 5 rfl rfl rfl rfl rfl rfl rfl rfl ?_) | refine TO.step rfl (OT.storeL0 tab 5 rfl rfl rfl rfl rfl rfl rfl rfl ?_))
      repeat (first|refine q1 ?_|refine q2 ?_|refine q3 ?_|refine q4 tab rfl rfl ?_|refine q5 ?_|refine q6 ?_|refine q7 ?_|refine q8 ?_|refine q9 ?_|refine q10 ?_|refine q11 ?_|refine q12 rfl ?_|refine q13 ?_|refine q14 ?_|refine q15 ?_|refine q16 rfl ?_|refine q17 rfl ?_)
      refine retQ_ret_c tab 1 rfl rfl rfl rfl rfl (by repeat (first | exact List.Sublist.refl _ | exact List.sublist_append_left _ _ | refine List.Sublist.cons_cons _ ?_ | refine List.Sublist.cons _ ?_)) ⟨Mem.le_refl _, rfl, ⟨0, [], 0, ⟨none, 0, 0⟩⟩, ?_⟩
      rw [ofRes, hbad]
      exact ⟨rfl, TreeRep.leaf _ _ _ _⟩
    rw [Bool.not_eq_false'] at h1
    repeat (first | (first|refine q1 ?_|refine q2 ?_|refine q3 ?_|refine q4 tab rfl rfl ?_|refine q5 ?_|refine q6 ?_|refine q7 ?_|refine q8 ?_|refine q9 ?_|refine q10 ?_|refine q11 ?_|refine q12 rfl ?_|refine q13 ?_|refine q14 ?_|refine q15 ?_|refine q16 rfl ?_|refine q17 rfl ?_) | (first | refine qs rfl (ql tab 0 rfl rfl rfl rfl rfl rfl ?_) | refine qs rfl (qz tab 0 rfl rfl rfl rfl rfl rfl ?_) | refine qs rfl (ql tab 1 rfl rfl rfl rfl rfl rfl ?_) | refine qs rfl (qz tab 1 rfl rfl rfl rfl rfl rfl ?_) | refine qs rfl (ql tab 2 rfl rfl rfl rfl rfl rfl ?_) | refine qs rfl (qz tab 2 rfl rfl rfl rfl rfl rfl ?_) | refine qs rfl (ql tab 3 rfl rfl rfl rfl rfl rfl ?_) | refine qs rfl (qz tab 3 rfl rfl rfl rfl rfl rfl ?_) | refine qs rfl (ql tab 4 rfl rfl rfl rfl rfl rfl ?_) | refine qs rfl (qz tab 4 rfl rfl rfl rfl rfl rfl ?_) | refine qs rfl (ql tab 5 rfl rfl rfl rfl rfl rfl ?_) | refine qs rfl (qz tab 5 rfl rfl rfl rfl rfl rfl ?_)))
    refine TO.step rfl (OT.call rfl rfl rfl rfl rfl rfl goes34 ((type_law a _ _ h hr hB).x ?_));
    rintro _ _ _ ⟨rfl, rfl, rfl⟩
    repeat (first|refine q1 ?_|refine q2 ?_|refine q3 ?_|refine q4 tab rfl rfl ?_|refine q5 ?_|refine q6 ?_|refine q7 ?_|refine q8 ?_|refine q9 ?_|refine q10 ?_|refine q11 ?_|refine q12 rfl ?_|refine q13 ?_|refine q14 ?_|refine q15 ?_|refine q16 rfl ?_|refine q17 rfl ?_)
    refine TO.split (b := !a.isType) rfl rfl (fun h2 => ?_) (fun h2 => ?_)
    · rw [Bool.not_eq_true'] at h2
      repeat (first | (first|refine q1 ?_|refine q2 ?_|refine q3 ?_|refine q4 tab rfl rfl ?_|refine q5 ?_|refine q6 ?_|refine q7 ?_|refine q8 ?_|refine q9 ?_|refine q10 ?_|refine q11 ?_|refine q12 rfl ?_|refine q13 ?_|refine q14 ?_|refine q15 ?_|refine q16 rfl ?_|refine q17 rfl ?_) | (first | refine qs rfl (ql tab 0 rfl rfl rfl rfl rfl rfl ?_) | refine qs rfl (qz tab 0 rfl rfl rfl rfl rfl rfl ?_) | refine qs rfl (ql tab 1 rfl rfl rfl rfl rfl rfl ?_) | refine qs rfl (qz tab 1 rfl rfl rfl rfl rfl rfl ?_) | refine qs rfl (ql tab 2 rfl rfl rfl rfl rfl rfl ?_) | refine qs rfl (qz tab 2 rfl rfl rfl rfl rfl rfl ?_) | refine qs rfl (ql tab 3 rfl rfl rfl rfl rfl rfl ?_) | refine qs rfl (qz tab 3 rfl rfl rfl rfl rfl rfl ?_) | refine qs rfl (ql tab 4 rfl rfl rfl rfl rfl rfl ?_) | refine qs rfl (qz tab 4 rfl rfl rfl rfl rfl rfl ?_) | refine qs rfl (ql tab 5 rfl rfl rfl rfl rfl rfl ?_) | refine qs rfl (qz tab 5 rfl rfl rfl rfl rfl rfl ?_)))
      refine TO.step rfl (OT.call rfl rfl rfl rfl rfl rfl goes35 ((sig_law a _ _ h hr hB).x ?_));
      rintro _ _ _ ⟨rfl, rfl, rfl⟩
      repeat (first|refine q1 ?_|refine q2 ?_|refine q3 ?_|refine q4 tab rfl rfl ?_|refine q5 ?_|refine q6 ?_|refine q7 ?_|refine q8 ?_|refine q9 ?_|refine q10 ?_|refine q11 ?_|refine q12 rfl ?_|refine q13 ?_|refine q14 ?_|refine q15 ?_|refine q16 rfl ?_|refine q17 rfl ?_)
      refine TC.cond (t := !a.isSig) rfl (fun h3 => ?_) (fun h3 => ?_)
      · rw [Bool.not_eq_true'] at h3
        have hbad := hno h2 h3
        repeat (first|refine q1 ?_|refine q2 ?_|refine q3 ?_|refine q4 tab rfl rfl ?_|refine q5 ?_|refine q6 ?_|refine q7 ?_|refine q8 ?_|refine q9 ?_|refine q10 ?_|refine q11 ?_|refine q12 rfl ?_|refine q13 ?_|refine q14 ?_|refine q15 ?_|refine q16 rfl ?_|refine q17 rfl ?_)
        (first | refine TO.step rfl (OT.storeL tab 0 rfl rfl rfl rfl rfl rfl rfl rfl ?_) | refine TO.step rfl (OT.storeL0 tab 0 rfl rfl rfl rfl rfl rfl rfl rfl ?_) | refine TO.step rfl (OT.storeL tab 1 rfl rfl rfl rfl rfl rfl rfl rfl ?_) | refine TO.step rfl (OT.storeL0 tab 1 rfl rfl rfl rfl rfl rfl rfl rfl ?_) | refine TO.step rfl (OT.storeL tab 2 rfl rfl rfl rfl rfl rfl rfl rfl ?_) | refine TO.step rfl (OT.storeL0 tab 2 rfl rfl rfl rfl rfl rfl rfl rfl ?_) | refine TO.step rfl (OT.storeL tab 3 rfl rfl rfl rfl rfl rfl rfl rfl ?_) | refine TO.step rfl (OT.storeL0 tab 3 rfl rfl rfl rfl rfl rfl rfl rfl ?_) | refine TO.step rfl (OT.storeL tab 4 rfl rfl rfl rfl rfl rfl rfl rfl ?_) | refine TO.step rfl (OT.storeL0 tab 4 rfl rfl rfl rfl rfl rfl rfl rfl ?_) | refine TO.step rfl (OT.storeL tab 5 rfl rfl rfl rfl rfl rfl rfl rfl ?_) | refine TO.step rfl (OT.storeL0 tab 5 rfl rfl rfl rfl rfl rfl rfl rfl ?_))
        repeat (first|refine q1 ?_|refine q2 ?_|refine q3 ?_|refine q4 tab rfl rfl ?_|refine q5 ?_|refine q6 ?_|refine q7 ?_|refine q8 ?_|refine q9 ?_|refine q10 ?_|refine q11 ?_|refine q12 rfl ?_|refine q13 ?_|refine q14 ?_|refine q15 ?_|refine q16 rfl ?_|refine q17 rfl ?_)
        refine retQ_ret_c tab 1 rfl rfl rfl rfl rfl (by repeat (first | exact List.Sublist.refl _ | exact List.sublist_append_left _ _ | refine List.Sublist.cons_cons _ ?_ | refine List.Sublist.cons _ ?_)) ⟨Mem.le_refl _, rfl, ⟨0, [], 0, ⟨none, 0, 0⟩⟩, ?_⟩
        rw [ofRes, hbad]
        exact ⟨rfl, TreeRep.leaf _ _ _ _⟩
      · rw [Bool.not_eq_false'] at h3
        have hok := hsB'.1 h1 (.inr h3)
        repeat (first | (first|refine q1 ?_|refine q2 ?_|refine q3 ?_|refine q4 tab rfl rfl ?_|refine q5 ?_|refine q6 ?_|refine q7 ?_|refine q8 ?_|refine q9 ?_|refine q10 ?_|refine q11 ?_|refine q12 rfl ?_|refine q13 ?_|refine q14 ?_|refine q15 ?_|refine q16 rfl ?_|refine q17 rfl ?_) | (first | refine qs rfl (ql tab 0 rfl rfl rfl rfl rfl rfl ?_) | refine qs rfl (qz tab 0 rfl rfl rfl rfl rfl rfl ?_) | refine qs rfl (ql tab 1 rfl rfl rfl rfl rfl rfl ?_) | refine qs rfl (qz tab 1 rfl rfl rfl rfl rfl rfl ?_) | refine qs rfl (ql tab 2 rfl rfl rfl rfl rfl rfl ?_) | refine qs rfl (qz tab 2 rfl rfl rfl rfl rfl rfl ?_) | refine qs rfl (ql tab 3 rfl rfl rfl rfl rfl rfl ?_) | refine qs rfl (qz tab 3 rfl rfl rfl rfl rfl rfl ?_) | refine qs rfl (ql tab 4 rfl rfl rfl rfl rfl rfl ?_) | refine qs rfl (qz tab 4 rfl rfl rfl rfl rfl rfl ?_) | refine qs rfl (ql tab 5 rfl rfl rfl rfl rfl rfl ?_) | refine qs rfl (qz tab 5 rfl rfl rfl rfl rfl rfl ?_)))
        refine TO.step rfl (OT.call rfl rfl rfl rfl rfl rfl goes36 ((ofN_law a (okT_node hok) _ _ h hr hB).x ?_));
        rintro _ m1 _ ⟨hm1, rfl, h', rfl, hr'⟩
        repeat (first|refine q1 ?_|refine q2 ?_|refine q3 ?_|refine q4 tab rfl rfl ?_|refine q5 ?_|refine q6 ?_|refine q7 ?_|refine q8 ?_|refine q9 ?_|refine q10 ?_|refine q11 ?_|refine q12 rfl ?_|refine q13 ?_|refine q14 ?_|refine q15 ?_|refine q16 rfl ?_|refine q17 rfl ?_)
        (first | refine TO.step rfl (OT.storeL tab 0 rfl rfl rfl rfl rfl rfl rfl rfl ?_) | refine TO.step rfl (OT.storeL0 tab 0 rfl rfl rfl rfl rfl rfl rfl rfl ?_) | refine TO.step rfl (OT.storeL tab 1 rfl rfl rfl rfl rfl rfl rfl rfl ?_) | refine TO.step rfl (OT.storeL0 tab 1 rfl rfl rfl rfl rfl rfl rfl rfl ?_) | refine TO.step rfl (OT.storeL tab 2 rfl rfl rfl rfl rfl rfl rfl rfl ?_) | refine TO.step rfl (OT.storeL0 tab 2 rfl rfl rfl rfl rfl rfl rfl rfl ?_) | refine TO.step rfl (OT.storeL tab 3 rfl rfl rfl rfl rfl rfl rfl rfl ?_) | refine TO.step rfl (OT.storeL0 tab 3 rfl rfl rfl rfl rfl rfl rfl rfl ?_) | refine TO.step rfl (OT.storeL tab 4 rfl rfl rfl rfl rfl rfl rfl rfl ?_) | refine TO.step rfl (OT.storeL0 tab 4 rfl rfl rfl rfl rfl rfl rfl rfl ?_) | refine TO.step rfl (OT.storeL tab 5 rfl rfl rfl rfl rfl rfl rfl rfl ?_) | refine TO.step rfl (OT.storeL0 tab 5 rfl rfl rfl rfl rfl rfl rfl rfl ?_))
        repeat (first|refine q1 ?_|refine q2 ?_|refine q3 ?_|refine q4 tab rfl rfl ?_|refine q5 ?_|refine q6 ?_|refine q7 ?_|refine q8 ?_|refine q9 ?_|refine q10 ?_|refine q11 ?_|refine q12 rfl ?_|refine q13 ?_|refine q14 ?_|refine q15 ?_|refine q16 rfl ?_|refine q17 rfl ?_)
        refine retQ_ret_c tab 1 rfl rfl rfl rfl rfl (by repeat (first | exact List.Sublist.refl _ | exact List.sublist_append_left _ _ | refine List.Sublist.cons_cons _ ?_ | refine List.Sublist.cons _ ?_)) ⟨hm1, rfl, h', ?_⟩
        rw [ofRes, hok]
        exact ⟨rfl, hr'⟩
    · rw [Bool.not_eq_false'] at h2
      have hok := hsB'.1 h1 (.inl h2)
      repeat (first | (first|refine q1 ?_|refine q2 ?_|refine q3 ?_|refine q4 tab rfl rfl ?_|refine q5 ?_|refine q6 ?_|refine q7 ?_|refine q8 ?_|refine q9 ?_|refine q10 ?_|refine q11 ?_|refine q12 rfl ?_|refine q13 ?_|refine q14 ?_|refine q15 ?_|refine q16 rfl ?_|refine q17 rfl ?_) | (first | refine qs rfl (ql tab 0 rfl rfl rfl rfl rfl rfl ?_) | refine qs rfl (qz tab 0 rfl rfl rfl rfl rfl rfl ?_) | refine qs rfl (ql tab 1 rfl rfl rfl rfl rfl rfl ?_) | refine qs rfl (qz tab 1 rfl rfl rfl rfl rfl rfl ?_) | refine qs rfl (ql tab 2 rfl rfl rfl rfl rfl rfl ?_) | refine qs rfl (qz tab 2 rfl rfl rfl rfl rfl rfl ?_) | refine qs rfl (ql tab 3 rfl rfl rfl rfl rfl rfl ?_) | refine qs rfl (qz tab 3 rfl rfl rfl rfl rfl rfl ?_) | refine qs rfl (ql tab 4 rfl rfl rfl rfl rfl rfl ?_) | refine qs rfl (qz tab 4 rfl rfl rfl rfl rfl rfl ?_) | refine qs rfl (ql tab 5 rfl rfl rfl rfl rfl rfl ?_) | refine qs rfl (qz tab 5 rfl rfl rfl rfl rfl rfl ?_)))
      refine TO.step rfl (OT.call rfl rfl rfl rfl rfl rfl goes36 ((ofN_law a (okT_node hok) _ _ h hr hB).x ?_));
      rintro _ m1 _ ⟨hm1, rfl, h', rfl, hr'⟩
      repeat (first|refine q1 ?_|refine q2 ?_|refine q3 ?_|refine q4 tab rfl rfl ?_|refine q5 ?_|refine q6 ?_|refine q7 ?_|refine q8 ?_|refine q9 ?_|refine q10 ?_|refine q11 ?_|refine q12 rfl ?_|refine q13 ?_|refine q14 ?_|refine q15 ?_|refine q16 rfl ?_|refine q17 rfl ?_)
      (first | refine TO.step rfl (OT.storeL tab 0 rfl rfl rfl rfl rfl rfl rfl rfl ?_) | refine TO.step rfl (OT.storeL0 tab 0 rfl rfl rfl rfl rfl rfl rfl rfl ?_) | refine TO.step rfl (OT.storeL tab 1 rfl rfl rfl rfl rfl rfl rfl rfl ?_) | refine TO.step rfl (OT.storeL0 tab 1 rfl rfl rfl rfl rfl rfl rfl rfl ?_) | refine TO.step rfl (OT.storeL tab 2 rfl rfl rfl rfl rfl rfl rfl rfl ?_) | refine TO.step rfl (OT.storeL0 tab 2 rfl rfl rfl rfl rfl rfl rfl rfl ?_) | refine TO.step rfl (OT.storeL tab 3 rfl rfl rfl rfl rfl rfl rfl rfl ?_) | refine TO.step rfl (OT.storeL0 tab 3 rfl rfl rfl rfl rfl rfl rfl rfl ?_) | refine TO.step rfl (OT.storeL tab 4 rfl rfl rfl rfl rfl rfl rfl rfl ?_) | refine TO.step rfl (OT.storeL0 tab 4 rfl rfl rfl rfl rfl rfl rfl rfl ?_) | refine TO.step rfl (OT.storeL tab 5 rfl rfl rfl rfl rfl rfl rfl rfl ?_) | refine TO.step rfl (OT.storeL0 tab 5 rfl rfl rfl rfl rfl rfl rfl rfl ?_))
      repeat (first|refine q1 ?_|refine q2 ?_|refine q3 ?_|refine q4 tab rfl rfl ?_|refine q5 ?_|refine q6 ?_|refine q7 ?_|refine q8 ?_|refine q9 ?_|refine q10 ?_|refine q11 ?_|refine q12 rfl ?_|refine q13 ?_|refine q14 ?_|refine q15 ?_|refine q16 rfl ?_|refine q17 rfl ?_)
      refine retQ_ret_c tab 1 rfl rfl rfl rfl rfl (by repeat (first | exact List.Sublist.refl _ | exact List.sublist_append_left _ _ | refine List.Sublist.cons_cons _ ?_ | refine List.Sublist.cons _ ?_)) ⟨hm1, rfl, h', ?_⟩
      rw [ofRes, hok]
      exact ⟨rfl, hr'⟩
  · repeat (first | (first|refine q1 ?_|refine q2 ?_|refine q3 ?_|refine q4 tab rfl rfl ?_|refine q5 ?_|refine q6 ?_|refine q7 ?_|refine q8 ?_|refine q9 ?_|refine q10 ?_|refine q11 ?_|refine q12 rfl ?_|refine q13 ?_|refine q14 ?_|refine q15 ?_|refine q16 rfl ?_|refine q17 rfl ?_) | (first | refine qs rfl (ql tab 0 rfl rfl rfl rfl rfl rfl ?_) | refine qs rfl (qz tab 0 rfl rfl rfl rfl rfl rfl ?_) | refine qs rfl (ql tab 1 rfl rfl rfl rfl rfl rfl ?_) | refine qs rfl (qz tab 1 rfl rfl rfl rfl rfl rfl ?_) | refine qs rfl (ql tab 2 rfl rfl rfl rfl rfl rfl ?_) | refine qs rfl (qz tab 2 rfl rfl rfl rfl rfl rfl ?_) | refine qs rfl (ql tab 3 rfl rfl rfl rfl rfl rfl ?_) | refine qs rfl (qz tab 3 rfl rfl rfl rfl rfl rfl ?_) | refine qs rfl (ql tab 4 rfl rfl rfl rfl rfl rfl ?_) | refine qs rfl (qz tab 4 rfl rfl rfl rfl rfl rfl ?_) | refine qs rfl (ql tab 5 rfl rfl rfl rfl rfl rfl ?_) | refine qs rfl (qz tab 5 rfl rfl rfl rfl rfl rfl ?_)))
    have hsB : ∀ r : Bool, r = decide ((a.size : Int) ≤ 19997 ∧ (a.deep : Int) ≤ 97) → (r = true → (a.isType = true ∨ a.isSig = true) → okT a = true) ∧ (r = false → okT a = false) := by
      intro r hrr
      subst hrr
      unfold okT okType okSig
      rw [withinB_eq, withinB_eq]
      refine ⟨fun hd ht => ?_, fun hd => ?_⟩
      · have hd := of_decide_eq_true hd
        rcases ht with ht | ht
        · have := type_not7 ht
          rw [ht, decide_eq_true (show (a.size : Int) + 3 ≤ 20000 by omega), decide_eq_true (show (a.deep : Int) + 3 ≤ 100 by omega)]; rfl
        · have := (isSig_facts ht).1
          rw [ht, decide_eq_true (show (a.size : Int) + 3 ≤ 20000 by omega), decide_eq_true (show (a.deep : Int) + 2 ≤ 100 by omega)]; simp
      · have hd := of_decide_eq_false hd
        rw [Bool.or_eq_false_iff]
        refine ⟨Bool.eq_false_iff.2 fun hc => ?_, Bool.eq_false_iff.2 fun hc => ?_⟩
        · simp only [Bool.and_eq_true, decide_eq_true_eq] at hc
          have := type_not7 hc.2
          omega
        · simp only [Bool.and_eq_true, decide_eq_true_eq] at hc
          have := (isSig_facts hc.2).1
          omega
    have hno : a.isType = false → a.isSig = false → okT a = false := fun h1 h2 => by unfold okT okType okSig; rw [h1, h2]; simp
    refine TO.step rfl (OT.call rfl rfl rfl rfl rfl rfl goes33 ((small_law a _ _ h hr 97 19997 0 b3 rfl (by omega) (by omega)).x ?_));
    rintro v _ L3 ⟨rfl, hv, y, hL, _⟩
    generalize hsm : decide ((a.size : Int) ≤ 19997 ∧ (a.deep : Int) ≤ 97) = sm at hv
    have hsB' := hsB sm hsm.symm
    clear hsm hsB
    subst hv
    subst hL
    repeat (first|refine q1 ?_|refine q2 ?_|refine q3 ?_|refine q4 tab rfl rfl ?_|refine q5 ?_|refine q6 ?_|refine q7 ?_|refine q8 ?_|refine q9 ?_|refine q10 ?_|refine q11 ?_|refine q12 rfl ?_|refine q13 ?_|refine q14 ?_|refine q15 ?_|refine q16 rfl ?_|refine q17 rfl ?_)
    refine TO.split (b := !sm) rfl rfl (fun h1 => ?_) (fun h1 => ?_)
    · rw [Bool.not_eq_true'] at h1
      have hbad := hsB'.2 h1
      repeat (first|refine q1 ?_|refine q2 ?_|refine q3 ?_|refine q4 tab rfl rfl ?_|refine q5 ?_|refine q6 ?_|refine q7 ?_|refine q8 ?_|refine q9 ?_|refine q10 ?_|refine q11 ?_|refine q12 rfl ?_|refine q13 ?_|refine q14 ?_|refine q15 ?_|refine q16 rfl ?_|refine q17 rfl ?_)
      (first | refine TO.step rfl (OT.storeL tab 0 rfl rfl rfl rfl rfl rfl rfl rfl ?_) | refine TO.step rfl (OT.storeL0 tab 0 rfl rfl rfl rfl rfl rfl rfl rfl ?_) | refine TO.step rfl (OT.storeL tab 1 rfl rfl rfl rfl rfl rfl rfl rfl ?_) | refine TO.step rfl (OT.storeL0 tab 1 rfl rfl rfl rfl rfl rfl rfl rfl ?_) | refine TO.step rfl (OT.storeL tab 2 rfl rfl rfl rfl rfl rfl rfl rfl ?_) | refine TO.step rfl (OT.storeL0 tab 2 rfl rfl rfl rfl rfl rfl rfl rfl ?_) | refine TO.step rfl (OT.storeL tab 3 rfl rfl rfl rfl rfl rfl rfl rfl ?_) | refine TO.step rfl (OT.storeL0 tab 3 rfl rfl rfl rfl rfl rfl rfl rfl ?_) | refine TO.step rfl (OT.storeL tab 4 rfl rfl rfl rfl rfl rfl rfl rfl ?_) | refine TO.step rfl (OT.storeL0 tab 4 rfl rfl rfl rfl rfl rfl rfl rfl ?_) | refine TO.step rfl (OT.storeL tab 5 rfl rfl rfl rfl rfl rfl rfl rfl ?_) | refine TO.step rfl (OT.storeL0 tab 5 rfl rfl rfl rfl rfl rfl rfl rfl ?_))
      repeat (first|refine q1 ?_|refine q2 ?_|refine q3 ?_|refine q4 tab rfl rfl ?_|refine q5 ?_|refine q6 ?_|refine q7 ?_|refine q8 ?_|refine q9 ?_|refine q10 ?_|refine q11 ?_|refine q12 rfl ?_|refine q13 ?_|refine q14 ?_|refine q15 ?_|refine q16 rfl ?_|refine q17 rfl ?_)
      refine retQ_ret_c tab 1 rfl rfl rfl rfl rfl (by repeat (first | exact List.Sublist.refl _ | exact List.sublist_append_left _ _ | refine List.Sublist.cons_cons _ ?_ | refine List.Sublist.cons _ ?_)) ⟨Mem.le_refl _, rfl, ⟨0, [], 0, ⟨none, 0, 0⟩⟩, ?_⟩
      rw [ofRes, hbad]
      exact ⟨rfl, TreeRep.leaf _ _ _ _⟩
    rw [Bool.not_eq_false'] at h1
    repeat (first | (first|refine q1 ?_|refine q2 ?_|refine q3 ?_|refine q4 tab rfl rfl ?_|refine q5 ?_|refine q6 ?_|refine q7 ?_|refine q8 ?_|refine q9 ?_|refine q10 ?_|refine q11 ?_|refine q12 rfl ?_|refine q13 ?_|refine q14 ?_|refine q15 ?_|refine q16 rfl ?_|refine q17 rfl ?_) | (first | refine qs rfl (ql tab 0 rfl rfl rfl rfl rfl rfl ?_) | refine qs rfl (qz tab 0 rfl rfl rfl rfl rfl rfl ?_) | refine qs rfl (ql tab 1 rfl rfl rfl rfl rfl rfl ?_) | refine qs rfl (qz tab 1 rfl rfl rfl rfl rfl rfl ?_) | refine qs rfl (ql tab 2 rfl rfl rfl rfl rfl rfl ?_) | refine qs rfl (qz tab 2 rfl rfl rfl rfl rfl rfl ?_) | refine qs rfl (ql tab 3 rfl rfl rfl rfl rfl rfl ?_) | refine qs rfl (qz tab 3 rfl rfl rfl rfl rfl rfl ?_) | refine qs rfl (ql tab 4 rfl rfl rfl rfl rfl rfl ?_) | refine qs rfl (qz tab 4 rfl rfl rfl rfl rfl rfl ?_) | refine qs rfl (ql tab 5 rfl rfl rfl rfl rfl rfl ?_) | refine qs rfl (qz tab 5 rfl rfl rfl rfl rfl rfl ?_)))
    refine TO.step rfl (OT.call rfl rfl rfl rfl rfl rfl goes34 ((type_law a _ _ h hr hB).x ?_));
    rintro _ _ _ ⟨rfl, rfl, rfl⟩
    repeat (first|refine q1 ?_|refine q2 ?_|refine q3 ?_|refine q4 tab rfl rfl ?_|refine q5 ?_|refine q6 ?_|refine q7 ?_|refine q8 ?_|refine q9 ?_|refine q10 ?_|refine q11 ?_|refine q12 rfl ?_|refine q13 ?_|refine q14 ?_|refine q15 ?_|refine q16 rfl ?_|refine q17 rfl ?_)
    refine TO.split (b := !a.isType) rfl rfl (fun h2 => ?_) (fun h2 => ?_)
    · rw [Bool.not_eq_true'] at h2
      repeat (first | (first|refine q1 ?_|refine q2 ?_|refine q3 ?_|refine q4 tab rfl rfl ?_|refine q5 ?_|refine q6 ?_|refine q7 ?_|refine q8 ?_|refine q9 ?_|refine q10 ?_|refine q11 ?_|refine q12 rfl ?_|refine q13 ?_|refine q14 ?_|refine q15 ?_|refine q16 rfl ?_|refine q17 rfl ?_) | (first | refine qs rfl (ql tab 0 rfl rfl rfl rfl rfl rfl ?_) | refine qs rfl (qz tab 0 rfl rfl rfl rfl rfl rfl ?_) | refine qs rfl (ql tab 1 rfl rfl rfl rfl rfl rfl ?_) | refine qs rfl (qz tab 1 rfl rfl rfl rfl rfl rfl ?_) | refine qs rfl (ql tab 2 rfl rfl rfl rfl rfl rfl ?_) | refine qs rfl (qz tab 2 rfl rfl rfl rfl rfl rfl ?_) | refine qs rfl (ql tab 3 rfl rfl rfl rfl rfl rfl ?_) | refine qs rfl (qz tab 3 rfl rfl rfl rfl rfl rfl ?_) | refine qs rfl (ql tab 4 rfl rfl rfl rfl rfl rfl ?_) | refine qs rfl (qz tab 4 rfl rfl rfl rfl rfl rfl ?_) | refine qs rfl (ql tab 5 rfl rfl rfl rfl rfl rfl ?_) | refine qs rfl (qz tab 5 rfl rfl rfl rfl rfl rfl ?_)))
      refine TO.step rfl (OT.call rfl rfl rfl rfl rfl rfl goes35 ((sig_law a _ _ h hr hB).x ?_));
      rintro _ _ _ ⟨rfl, rfl, rfl⟩
      repeat (first|refine q1 ?_|refine q2 ?_|refine q3 ?_|refine q4 tab rfl rfl ?_|refine q5 ?_|refine q6 ?_|refine q7 ?_|refine q8 ?_|refine q9 ?_|refine q10 ?_|refine q11 ?_|refine q12 rfl ?_|refine q13 ?_|refine q14 ?_|refine q15 ?_|refine q16 rfl ?_|refine q17 rfl ?_)
      refine TC.cond (t := !a.isSig) rfl (fun h3 => ?_) (fun h3 => ?_)
      · rw [Bool.not_eq_true'] at h3
        have hbad := hno h2 h3
        repeat (first|refine q1 ?_|refine q2 ?_|refine q3 ?_|refine q4 tab rfl rfl ?_|refine q5 ?_|refine q6 ?_|refine q7 ?_|refine q8 ?_|refine q9 ?_|refine q10 ?_|refine q11 ?_|refine q12 rfl ?_|refine q13 ?_|refine q14 ?_|refine q15 ?_|refine q16 rfl ?_|refine q17 rfl ?_)
        (first | refine TO.step rfl (OT.storeL tab 0 rfl rfl rfl rfl rfl rfl rfl rfl ?_) | refine TO.step rfl (OT.storeL0 tab 0 rfl rfl rfl rfl rfl rfl rfl rfl ?_) | refine TO.step rfl (OT.storeL tab 1 rfl rfl rfl rfl rfl rfl rfl rfl ?_) | refine TO.step rfl (OT.storeL0 tab 1 rfl rfl rfl rfl rfl rfl rfl rfl ?_) | refine TO.step rfl (OT.storeL tab 2 rfl rfl rfl rfl rfl rfl rfl rfl ?_) | refine TO.step rfl (OT.storeL0 tab 2 rfl rfl rfl rfl rfl rfl rfl rfl ?_) | refine TO.step rfl (OT.storeL tab 3 rfl rfl rfl rfl rfl rfl rfl rfl ?_) | refine TO.step rfl (OT.storeL0 tab 3 rfl rfl rfl rfl rfl rfl rfl rfl ?_) | refine TO.step rfl (OT.storeL tab 4 rfl rfl rfl rfl rfl rfl rfl rfl ?_) | refine TO.step rfl (OT.storeL0 tab 4 rfl rfl rfl rfl rfl rfl rfl rfl ?_) | refine TO.step rfl (OT.storeL tab 5 rfl rfl rfl rfl rfl rfl rfl rfl ?_) | refine TO.step rfl (OT.storeL0 tab 5 rfl rfl rfl rfl rfl rfl rfl rfl ?_))
        repeat (first|refine q1 ?_|refine q2 ?_|refine q3 ?_|refine q4 tab rfl rfl ?_|refine q5 ?_|refine q6 ?_|refine q7 ?_|refine q8 ?_|refine q9 ?_|refine q10 ?_|refine q11 ?_|refine q12 rfl ?_|refine q13 ?_|refine q14 ?_|refine q15 ?_|refine q16 rfl ?_|refine q17 rfl ?_)
        refine retQ_ret_c tab 1 rfl rfl rfl rfl rfl (by repeat (first | exact List.Sublist.refl _ | exact List.sublist_append_left _ _ | refine List.Sublist.cons_cons _ ?_ | refine List.Sublist.cons _ ?_)) ⟨Mem.le_refl _, rfl, ⟨0, [], 0, ⟨none, 0, 0⟩⟩, ?_⟩
        rw [ofRes, hbad]
        exact ⟨rfl, TreeRep.leaf _ _ _ _⟩
      · rw [Bool.not_eq_false'] at h3
        have hok := hsB'.1 h1 (.inr h3)
        repeat (first | (first|refine q1 ?_|refine q2 ?_|refine q3 ?_|refine q4 tab rfl rfl ?_|refine q5 ?_|refine q6 ?_|refine q7 ?_|refine q8 ?_|refine q9 ?_|refine q10 ?_|refine q11 ?_|refine q12 rfl ?_|refine q13 ?_|refine q14 ?_|refine q15 ?_|refine q16 rfl ?_|refine q17 rfl ?_) | (first | refine qs rfl (ql tab 0 rfl rfl rfl rfl rfl rfl ?_) | refine qs rfl (qz tab 0 rfl rfl rfl rfl rfl rfl ?_) | refine qs rfl (ql tab 1 rfl rfl rfl rfl rfl rfl ?_) | refine qs rfl (qz tab 1 rfl rfl rfl rfl rfl rfl ?_) | refine qs rfl (ql tab 2 rfl rfl rfl rfl rfl rfl ?_) | refine qs rfl (qz tab 2 rfl rfl rfl rfl rfl rfl ?_) | refine qs rfl (ql tab 3 rfl rfl rfl rfl rfl rfl ?_) | refine qs rfl (qz tab 3 rfl rfl rfl rfl rfl rfl ?_) | refine qs rfl (ql tab 4 rfl rfl rfl rfl rfl rfl ?_) | refine qs rfl (qz tab 4 rfl rfl rfl rfl rfl rfl ?_) | refine qs rfl (ql tab 5 rfl rfl rfl rfl rfl rfl ?_) | refine qs rfl (qz tab 5 rfl rfl rfl rfl rfl rfl ?_)))
        refine TO.step rfl (OT.call rfl rfl rfl rfl rfl rfl goes36 ((ofN_law a (okT_node hok) _ _ h hr hB).x ?_));
        rintro _ m1 _ ⟨hm1, rfl, h', rfl, hr'⟩
        repeat (first|refine q1 ?_|refine q2 ?_|refine q3 ?_|refine q4 tab rfl rfl ?_|refine q5 ?_|refine q6 ?_|refine q7 ?_|refine q8 ?_|refine q9 ?_|refine q10 ?_|refine q11 ?_|refine q12 rfl ?_|refine q13 ?_|refine q14 ?_|refine q15 ?_|refine q16 rfl ?_|refine q17 rfl ?_)
        (first | refine TO.step rfl (OT.storeL tab 0 rfl rfl rfl rfl rfl rfl rfl rfl ?_) | refine TO.step rfl (OT.storeL0 tab 0 rfl rfl rfl rfl rfl rfl rfl rfl ?_) | refine TO.step rfl (OT.storeL tab 1 rfl rfl rfl rfl rfl rfl rfl rfl ?_) | refine TO.step rfl (OT.storeL0 tab 1 rfl rfl rfl rfl rfl rfl rfl rfl ?_) | refine TO.step rfl (OT.storeL tab 2 rfl rfl rfl rfl rfl rfl rfl rfl ?_) | refine TO.step rfl (OT.storeL0 tab 2 rfl rfl rfl rfl rfl rfl rfl rfl ?_) | refine TO.step rfl (OT.storeL tab 3 rfl rfl rfl rfl rfl rfl rfl rfl ?_) | refine TO.step rfl (OT.storeL0 tab 3 rfl rfl rfl rfl rfl rfl rfl rfl ?_) | refine TO.step rfl (OT.storeL tab 4 rfl rfl rfl rfl rfl rfl rfl rfl ?_) | refine TO.step rfl (OT.storeL0 tab 4 rfl rfl rfl rfl rfl rfl rfl rfl ?_) | refine TO.step rfl (OT.storeL tab 5 rfl rfl rfl rfl rfl rfl rfl rfl ?_) | refine TO.step rfl (OT.storeL0 tab 5 rfl rfl rfl rfl rfl rfl rfl rfl ?_))
        repeat (first|refine q1 ?_|refine q2 ?_|refine q3 ?_|refine q4 tab rfl rfl ?_|refine q5 ?_|refine q6 ?_|refine q7 ?_|refine q8 ?_|refine q9 ?_|refine q10 ?_|refine q11 ?_|refine q12 rfl ?_|refine q13 ?_|refine q14 ?_|refine q15 ?_|refine q16 rfl ?_|refine q17 rfl ?_)
        refine retQ_ret_c tab 1 rfl rfl rfl rfl rfl (by repeat (first | exact List.Sublist.refl _ | exact List.sublist_append_left _ _ | refine List.Sublist.cons_cons _ ?_ | refine List.Sublist.cons _ ?_)) ⟨hm1, rfl, h', ?_⟩
        rw [ofRes, hok]
        exact ⟨rfl, hr'⟩
    · rw [Bool.not_eq_false'] at h2
      have hok := hsB'.1 h1 (.inl h2)
      repeat (first | (first|refine q1 ?_|refine q2 ?_|refine q3 ?_|refine q4 tab rfl rfl ?_|refine q5 ?_|refine q6 ?_|refine q7 ?_|refine q8 ?_|refine q9 ?_|refine q10 ?_|refine q11 ?_|refine q12 rfl ?_|refine q13 ?_|refine q14 ?_|refine q15 ?_|refine q16 rfl ?_|refine q17 rfl ?_) | (first | refine qs rfl (ql tab 0 rfl rfl rfl rfl rfl rfl ?_) | refine qs rfl (qz tab 0 rfl rfl rfl rfl rfl rfl ?_) | refine qs rfl (ql tab 1 rfl rfl rfl rfl rfl rfl ?_) | refine qs rfl (qz tab 1 rfl rfl rfl rfl rfl rfl ?_) | refine qs rfl (ql tab 2 rfl rfl rfl rfl rfl rfl ?_) | refine qs rfl (qz tab 2 rfl rfl rfl rfl rfl rfl ?_) | refine qs rfl (ql tab 3 rfl rfl rfl rfl rfl rfl ?_) | refine qs rfl (qz tab 3 rfl rfl rfl rfl rfl rfl ?_) | refine qs rfl (ql tab 4 rfl rfl rfl rfl rfl rfl ?_) | refine qs rfl (qz tab 4 rfl rfl rfl rfl rfl rfl ?_) | refine qs rfl (ql tab 5 rfl rfl rfl rfl rfl rfl ?_) | refine qs rfl (qz tab 5 rfl rfl rfl rfl rfl rfl ?_)))
      refine TO.step rfl (OT.call rfl rfl rfl rfl rfl rfl goes36 ((ofN_law a (okT_node hok) _ _ h hr hB).x ?_));
      rintro _ m1 _ ⟨hm1, rfl, h', rfl, hr'⟩
      repeat (first|refine q1 ?_|refine q2 ?_|refine q3 ?_|refine q4 tab rfl rfl ?_|refine q5 ?_|refine q6 ?_|refine q7 ?_|refine q8 ?_|refine q9 ?_|refine q10 ?_|refine q11 ?_|refine q12 rfl ?_|refine q13 ?_|refine q14 ?_|refine q15 ?_|refine q16 rfl ?_|refine q17 rfl ?_)
      (first | refine TO.step rfl (OT.storeL tab 0 rfl rfl rfl rfl rfl rfl rfl rfl ?_) | refine TO.step rfl (OT.storeL0 tab 0 rfl rfl rfl rfl rfl rfl rfl rfl ?_) | refine TO.step rfl (OT.storeL tab 1 rfl rfl rfl rfl rfl rfl rfl rfl ?_) | refine TO.step rfl (OT.storeL0 tab 1 rfl rfl rfl rfl rfl rfl rfl rfl ?_) | refine TO.step rfl (OT.storeL tab 2 rfl rfl rfl rfl rfl rfl rfl rfl ?_) | refine TO.step rfl (OT.storeL0 tab 2 rfl rfl rfl rfl rfl rfl rfl rfl ?_) | refine TO.step rfl (OT.storeL tab 3 rfl rfl rfl rfl rfl rfl rfl rfl ?_) | refine TO.step rfl (OT.storeL0 tab 3 rfl rfl rfl rfl rfl rfl rfl rfl ?_) | refine TO.step rfl (OT.storeL tab 4 rfl rfl rfl rfl rfl rfl rfl rfl ?_) | refine TO.step rfl (OT.storeL0 tab 4 rfl rfl rfl rfl rfl rfl rfl rfl ?_) | refine TO.step rfl (OT.storeL tab 5 rfl rfl rfl rfl rfl rfl rfl rfl ?_) | refine TO.step rfl (OT.storeL0 tab 5 rfl rfl rfl rfl rfl rfl rfl rfl ?_))
      repeat (first|refine q1 ?_|refine q2 ?_|refine q3 ?_|refine q4 tab rfl rfl ?_|refine q5 ?_|refine q6 ?_|refine q7 ?_|refine q8 ?_|refine q9 ?_|refine q10 ?_|refine q11 ?_|refine q12 rfl ?_|refine q13 ?_|refine q14 ?_|refine q15 ?_|refine q16 rfl ?_|refine q17 rfl ?_)
      refine retQ_ret_c tab 1 rfl rfl rfl rfl rfl (by repeat (first | exact List.Sublist.refl _ | exact List.sublist_append_left _ _ | refine List.Sublist.cons_cons _ ?_ | refine List.Sublist.cons _ ?_)) ⟨hm1, rfl, h', ?_⟩
      rw [ofRes, hok]
      exact ⟨rfl, hr'⟩
end Go.Sep
