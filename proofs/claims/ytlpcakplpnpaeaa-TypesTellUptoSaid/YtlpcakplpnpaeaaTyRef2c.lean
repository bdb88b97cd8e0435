/-
  is, IsType, IsSig.
-/
import Derived.Test.YtlpcakplpnpaeaaTyRef2b
set_option linter.unusedVariables false
set_option linter.unusedSimpArgs false
namespace Go.Sep
open Go.Proofs
attribute [local irreducible] TC TO OT TCallX TCall DO DOt thenQ blockQ retQ At

theorem fit_facts {x : Shape} {a : Tree} (h : fitB x a = true) : x.ok = true ∧ x.ks.length ≤ a.kids.length ∧ (x.rest = 0 → a.kids.length ≤ x.ks.length) := by
  unfold fitB at h
  simp only [Bool.and_eq_true, Bool.or_eq_true, decide_eq_true_eq, Bool.not_eq_true', decide_eq_false_iff_not] at h
  exact ⟨h.1, h.2.1, fun h0 => h.2.2.1.resolve_left (fun h => h h0)⟩

theorem want_ok {k : Int} (hk : k = 2 ∨ k = 3 ∨ k = 4) {a : Tree} (hf : fitB (shapeOf k a) a = true) {i : Nat} (hi : i < a.kids.length) : want (shapeOf k a) i = 2 ∨ want (shapeOf k a) i = 4 := by
  obtain ⟨h1, h2, h3⟩ := fit_facts hf
  have key : ∀ x : Shape, (∀ v ∈ x.ks, v = 2 ∨ v = 4) → (x.rest = 2 ∨ i < x.ks.length) → want x i = 2 ∨ want x i = 4 := by
    intro x hv hr
    unfold want
    by_cases h : i < x.ks.length
    · rw [List.getElem?_eq_getElem h]
      exact hv _ (List.getElem_mem h)
    · rw [List.getElem?_eq_none (by omega)]
      exact .inl (hr.resolve_right h)
  refine key _ ?_ ?_
  · rcases hk with rfl | rfl | rfl
    · show ∀ v ∈ (shapeT a).ks, _
      unfold shapeT
      split
      · simp
      split
      · simp
      split <;> simp
    · show ∀ v ∈ (shapeS a).ks, _
      unfold shapeS
      intro v hv
      exact .inr (List.eq_of_mem_replicate hv)
    · show ∀ v ∈ (shapeP a).ks, _
      simp [shapeP]
  · by_cases h0 : (shapeOf k a).rest = 0
    · exact .inr (by have := h3 h0; omega)
    · left
      rcases hk with rfl | rfl | rfl
      · change (shapeT a).rest ≠ 0 at h0
        show (shapeT a).rest = 2
        unfold shapeT at *
        split
        · simp_all
        split
        · simp_all
        split
        · rfl
        · simp_all
      · rfl
      · exact absurd rfl h0

theorem text_ok {k : Int} (hk : k = 2 ∨ k = 3 ∨ k = 4) (a : Tree) : (shapeOf k a).text = 0 ∨ (shapeOf k a).text = 1 := by
  rcases hk with rfl | rfl | rfl
  · show (shapeT a).text = 0 ∨ (shapeT a).text = 1
    unfold shapeT
    split
    · exact .inr rfl
    split
    · exact .inl rfl
    split <;> exact .inl rfl
  · exact .inl rfl
  · exact .inr rfl

theorem is_ref (a : Tree) : ∀ (k : Int) (hk : k = 2 ∨ k = 3 ∨ k = 4) (hl : k = 3 → a.kids.length ≤ 20000) (m : Mem) (L : List Item) (h : HTree) (hr : TreeRep m h a) (hB : a.bulk ≤ 1048576), TCall Try.prog 74 ⟨[treeV h, .int .i64 k]⟩ m L (Ret (.bool (isB k a)) m L) := by
  induction a using Tree.ind with
  | h a ih =>
  intro k hk hl m L h hr hB
  have hw := is_walk k a m L h hr hB (shapeOf k a) (fun m L hr => shape_law k hk a m L h hr) (text_ok hk a) isB (fun hf i hi m L h' hr' => by
    have hm := List.getElem_mem hi
    have hw := want_ok hk hf hi
    exact ih _ hm _ (by omega) (by omega) m L h' hr' (Nat.le_trans (Nat.le_of_lt (bulk_kid hm)) hB))
  have e : (fitB (shapeOf k a) a && (textB (shapeOf k a) a && allS isB (shapeOf k a).ks (shapeOf k a).rest a.kids)) = isB k a := by
    rcases hk with rfl | rfl | rfl
    · exact is_type_eq a
    · exact is_sig_eq a (hl rfl)
    · exact is_param_eq a
  rw [e] at hw
  exact hw

theorem two_or : (2 : Int) = 2 ∨ (2 : Int) = 3 ∨ (2 : Int) = 4 := .inl rfl
theorem three_or : (3 : Int) = 2 ∨ (3 : Int) = 3 ∨ (3 : Int) = 4 := .inr (.inl rfl)
theorem two_not {n : Nat} : (2 : Int) = 3 → n ≤ 20000 := fun h => by cases h
def okType (a : Tree) : Bool := withinB a 3 3 && a.isType
def okSig (a : Tree) : Bool := withinB a 3 2 && a.isSig

set_option maxHeartbeats 800000 in
theorem isType_ref (a : Tree) (m : Mem) (L : List Item) (h : HTree) (hr : TreeRep m h a) (hB : a.bulk ≤ 1048576) : TCall Try.prog 37 ⟨[treeV h]⟩ m L (Ret (.bool (okType a)) m L) := by
  unfold TCall
  refine TCallX.enter Try.func37 rfl 9 rfl ?_
  repeat (first|refine q1 ?_|refine q2 ?_|refine q3 ?_|refine q4 tab rfl rfl ?_|refine q5 ?_|refine q6 ?_|refine q7 ?_|refine q8 ?_|refine q9 ?_|refine q10 ?_|refine q11 ?_|refine q12 rfl ?_|refine q13 ?_|refine q14 ?_|refine q15 ?_|refine q16 rfl ?_|refine q17 rfl ?_)
  refine TO.step rfl (OT.box rfl rfl rfl rfl rfl (fun b => ?_))
  repeat (first | (first|refine q1 ?_|refine q2 ?_|refine q3 ?_|refine q4 tab rfl rfl ?_|refine q5 ?_|refine q6 ?_|refine q7 ?_|refine q8 ?_|refine q9 ?_|refine q10 ?_|refine q11 ?_|refine q12 rfl ?_|refine q13 ?_|refine q14 ?_|refine q15 ?_|refine q16 rfl ?_|refine q17 rfl ?_) | (first | refine qs rfl (ql tab 0 rfl rfl rfl rfl rfl rfl ?_) | refine qs rfl (qz tab 0 rfl rfl rfl rfl rfl rfl ?_) | refine qs rfl (ql tab 1 rfl rfl rfl rfl rfl rfl ?_) | refine qs rfl (qz tab 1 rfl rfl rfl rfl rfl rfl ?_) | refine qs rfl (ql tab 2 rfl rfl rfl rfl rfl rfl ?_) | refine qs rfl (qz tab 2 rfl rfl rfl rfl rfl rfl ?_) | refine qs rfl (ql tab 3 rfl rfl rfl rfl rfl rfl ?_) | refine qs rfl (qz tab 3 rfl rfl rfl rfl rfl rfl ?_) | refine qs rfl (ql tab 4 rfl rfl rfl rfl rfl rfl ?_) | refine qs rfl (qz tab 4 rfl rfl rfl rfl rfl rfl ?_) | refine qs rfl (ql tab 5 rfl rfl rfl rfl rfl rfl ?_) | refine qs rfl (qz tab 5 rfl rfl rfl rfl rfl rfl ?_)))
  refine TO.step rfl (OT.call rfl rfl rfl rfl rfl rfl goes73 ((within_ref a _ _ h hr hB 3 3 (by omega) (by omega)).x ?_));
  rintro _ _ _ ⟨rfl, rfl, rfl⟩
  repeat (first|refine q1 ?_|refine q2 ?_|refine q3 ?_|refine q4 tab rfl rfl ?_|refine q5 ?_|refine q6 ?_|refine q7 ?_|refine q8 ?_|refine q9 ?_|refine q10 ?_|refine q11 ?_|refine q12 rfl ?_|refine q13 ?_|refine q14 ?_|refine q15 ?_|refine q16 rfl ?_|refine q17 rfl ?_)
  refine TO.split rfl rfl (fun hw => ?_) (fun hw => ?_)
  · repeat (first | (first|refine q1 ?_|refine q2 ?_|refine q3 ?_|refine q4 tab rfl rfl ?_|refine q5 ?_|refine q6 ?_|refine q7 ?_|refine q8 ?_|refine q9 ?_|refine q10 ?_|refine q11 ?_|refine q12 rfl ?_|refine q13 ?_|refine q14 ?_|refine q15 ?_|refine q16 rfl ?_|refine q17 rfl ?_) | (first | refine qs rfl (ql tab 0 rfl rfl rfl rfl rfl rfl ?_) | refine qs rfl (qz tab 0 rfl rfl rfl rfl rfl rfl ?_) | refine qs rfl (ql tab 1 rfl rfl rfl rfl rfl rfl ?_) | refine qs rfl (qz tab 1 rfl rfl rfl rfl rfl rfl ?_) | refine qs rfl (ql tab 2 rfl rfl rfl rfl rfl rfl ?_) | refine qs rfl (qz tab 2 rfl rfl rfl rfl rfl rfl ?_) | refine qs rfl (ql tab 3 rfl rfl rfl rfl rfl rfl ?_) | refine qs rfl (qz tab 3 rfl rfl rfl rfl rfl rfl ?_) | refine qs rfl (ql tab 4 rfl rfl rfl rfl rfl rfl ?_) | refine qs rfl (qz tab 4 rfl rfl rfl rfl rfl rfl ?_) | refine qs rfl (ql tab 5 rfl rfl rfl rfl rfl rfl ?_) | refine qs rfl (qz tab 5 rfl rfl rfl rfl rfl rfl ?_)))
    refine TO.step rfl (OT.call rfl rfl rfl rfl rfl rfl goes74 ((is_ref a 2 two_or two_not _ _ h hr hB).x ?_));
    rintro _ _ _ ⟨rfl, rfl, rfl⟩
    repeat (first|refine q1 ?_|refine q2 ?_|refine q3 ?_|refine q4 tab rfl rfl ?_|refine q5 ?_|refine q6 ?_|refine q7 ?_|refine q8 ?_|refine q9 ?_|refine q10 ?_|refine q11 ?_|refine q12 rfl ?_|refine q13 ?_|refine q14 ?_|refine q15 ?_|refine q16 rfl ?_|refine q17 rfl ?_)
    refine retQ_ret rfl (by repeat (first | exact List.Sublist.refl _ | exact List.sublist_append_left _ _ | refine List.Sublist.cons_cons _ ?_ | refine List.Sublist.cons _ ?_)) ⟨rfl, rfl, ?_⟩
    rw [okType, hw]; rfl
  · repeat (first|refine q1 ?_|refine q2 ?_|refine q3 ?_|refine q4 tab rfl rfl ?_|refine q5 ?_|refine q6 ?_|refine q7 ?_|refine q8 ?_|refine q9 ?_|refine q10 ?_|refine q11 ?_|refine q12 rfl ?_|refine q13 ?_|refine q14 ?_|refine q15 ?_|refine q16 rfl ?_|refine q17 rfl ?_)
    refine retQ_ret rfl (by repeat (first | exact List.Sublist.refl _ | exact List.sublist_append_left _ _ | refine List.Sublist.cons_cons _ ?_ | refine List.Sublist.cons _ ?_)) ⟨rfl, rfl, ?_⟩
    rw [okType, hw]; rfl

set_option maxHeartbeats 800000 in
theorem isSig_ref (a : Tree) (m : Mem) (L : List Item) (h : HTree) (hr : TreeRep m h a) (hB : a.bulk ≤ 1048576) : TCall Try.prog 38 ⟨[treeV h]⟩ m L (Ret (.bool (okSig a)) m L) := by
  unfold TCall
  refine TCallX.enter Try.func38 rfl 9 rfl ?_
  repeat (first|refine q1 ?_|refine q2 ?_|refine q3 ?_|refine q4 tab rfl rfl ?_|refine q5 ?_|refine q6 ?_|refine q7 ?_|refine q8 ?_|refine q9 ?_|refine q10 ?_|refine q11 ?_|refine q12 rfl ?_|refine q13 ?_|refine q14 ?_|refine q15 ?_|refine q16 rfl ?_|refine q17 rfl ?_)
  refine TO.step rfl (OT.box rfl rfl rfl rfl rfl (fun b => ?_))
  repeat (first | (first|refine q1 ?_|refine q2 ?_|refine q3 ?_|refine q4 tab rfl rfl ?_|refine q5 ?_|refine q6 ?_|refine q7 ?_|refine q8 ?_|refine q9 ?_|refine q10 ?_|refine q11 ?_|refine q12 rfl ?_|refine q13 ?_|refine q14 ?_|refine q15 ?_|refine q16 rfl ?_|refine q17 rfl ?_) | (first | refine qs rfl (ql tab 0 rfl rfl rfl rfl rfl rfl ?_) | refine qs rfl (qz tab 0 rfl rfl rfl rfl rfl rfl ?_) | refine qs rfl (ql tab 1 rfl rfl rfl rfl rfl rfl ?_) | refine qs rfl (qz tab 1 rfl rfl rfl rfl rfl rfl ?_) | refine qs rfl (ql tab 2 rfl rfl rfl rfl rfl rfl ?_) | refine qs rfl (qz tab 2 rfl rfl rfl rfl rfl rfl ?_) | refine qs rfl (ql tab 3 rfl rfl rfl rfl rfl rfl ?_) | refine qs rfl (qz tab 3 rfl rfl rfl rfl rfl rfl ?_) | refine qs rfl (ql tab 4 rfl rfl rfl rfl rfl rfl ?_) | refine qs rfl (qz tab 4 rfl rfl rfl rfl rfl rfl ?_) | refine qs rfl (ql tab 5 rfl rfl rfl rfl rfl rfl ?_) | refine qs rfl (qz tab 5 rfl rfl rfl rfl rfl rfl ?_)))
  refine TO.step rfl (OT.call rfl rfl rfl rfl rfl rfl goes73 ((within_ref a _ _ h hr hB 3 2 (by omega) (by omega)).x ?_));
  rintro _ _ _ ⟨rfl, rfl, rfl⟩
  repeat (first|refine q1 ?_|refine q2 ?_|refine q3 ?_|refine q4 tab rfl rfl ?_|refine q5 ?_|refine q6 ?_|refine q7 ?_|refine q8 ?_|refine q9 ?_|refine q10 ?_|refine q11 ?_|refine q12 rfl ?_|refine q13 ?_|refine q14 ?_|refine q15 ?_|refine q16 rfl ?_|refine q17 rfl ?_)
  refine TO.split rfl rfl (fun hw => ?_) (fun hw => ?_)
  · have hk : a.kids.length ≤ 20000 := by
      rw [withinB_eq, Bool.and_eq_true, decide_eq_true_eq] at hw
      have h1 := size_kids a
      have h2 : a.kids.length ≤ sizeL a.kids := len_sizeL _
      omega
    repeat (first | (first|refine q1 ?_|refine q2 ?_|refine q3 ?_|refine q4 tab rfl rfl ?_|refine q5 ?_|refine q6 ?_|refine q7 ?_|refine q8 ?_|refine q9 ?_|refine q10 ?_|refine q11 ?_|refine q12 rfl ?_|refine q13 ?_|refine q14 ?_|refine q15 ?_|refine q16 rfl ?_|refine q17 rfl ?_) | (first | refine qs rfl (ql tab 0 rfl rfl rfl rfl rfl rfl ?_) | refine qs rfl (qz tab 0 rfl rfl rfl rfl rfl rfl ?_) | refine qs rfl (ql tab 1 rfl rfl rfl rfl rfl rfl ?_) | refine qs rfl (qz tab 1 rfl rfl rfl rfl rfl rfl ?_) | refine qs rfl (ql tab 2 rfl rfl rfl rfl rfl rfl ?_) | refine qs rfl (qz tab 2 rfl rfl rfl rfl rfl rfl ?_) | refine qs rfl (ql tab 3 rfl rfl rfl rfl rfl rfl ?_) | refine qs rfl (qz tab 3 rfl rfl rfl rfl rfl rfl ?_) | refine qs rfl (ql tab 4 rfl rfl rfl rfl rfl rfl ?_) | refine qs rfl (qz tab 4 rfl rfl rfl rfl rfl rfl ?_) | refine qs rfl (ql tab 5 rfl rfl rfl rfl rfl rfl ?_) | refine qs rfl (qz tab 5 rfl rfl rfl rfl rfl rfl ?_)))
    refine TO.step rfl (OT.call rfl rfl rfl rfl rfl rfl goes74 ((is_ref a 3 three_or (fun _ => hk) _ _ h hr hB).x ?_));
    rintro _ _ _ ⟨rfl, rfl, rfl⟩
    repeat (first|refine q1 ?_|refine q2 ?_|refine q3 ?_|refine q4 tab rfl rfl ?_|refine q5 ?_|refine q6 ?_|refine q7 ?_|refine q8 ?_|refine q9 ?_|refine q10 ?_|refine q11 ?_|refine q12 rfl ?_|refine q13 ?_|refine q14 ?_|refine q15 ?_|refine q16 rfl ?_|refine q17 rfl ?_)
    refine retQ_ret rfl (by repeat (first | exact List.Sublist.refl _ | exact List.sublist_append_left _ _ | refine List.Sublist.cons_cons _ ?_ | refine List.Sublist.cons _ ?_)) ⟨rfl, rfl, ?_⟩
    rw [okSig, hw]; rfl
  · repeat (first|refine q1 ?_|refine q2 ?_|refine q3 ?_|refine q4 tab rfl rfl ?_|refine q5 ?_|refine q6 ?_|refine q7 ?_|refine q8 ?_|refine q9 ?_|refine q10 ?_|refine q11 ?_|refine q12 rfl ?_|refine q13 ?_|refine q14 ?_|refine q15 ?_|refine q16 rfl ?_|refine q17 rfl ?_)
    refine retQ_ret rfl (by repeat (first | exact List.Sublist.refl _ | exact List.sublist_append_left _ _ | refine List.Sublist.cons_cons _ ?_ | refine List.Sublist.cons _ ?_)) ⟨rfl, rfl, ?_⟩
    rw [okSig, hw]; rfl
end Go.Sep
