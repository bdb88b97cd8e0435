/-
  The walks of the tellers of types: size, formed, IsSound; sound, isSound; Same.
-/
import Derived.Test.YtlpcakplpnpaeaaTyEq
import Derived.Test.YtlpcakplpnpaeaaTyOf
set_option linter.unusedVariables false
set_option linter.unusedSimpArgs false
namespace Go.Sep
open Go.Proofs
attribute [local irreducible] TC TO OT TCallX TCall DO DOt thenQ blockQ retQ At

set_option maxHeartbeats 800000 in
theorem size_type (a : Tree) : ∀ (m : Mem) (L : List Item) (h : HTree) (hr : TreeRep m h a) (hB : a.bulk ≤ 1048576), TCall Try.prog 78 ⟨[treeV h]⟩ m L (Ret (.tuple ⟨[.int .i64 (a.size : Int), .int .i64 (a.deep : Int)]⟩) m L) := by
  induction a using Tree.ind with
  | h a ih =>
  intro m L h hr hB
  obtain ⟨h1, h2, h3, h4⟩ := hr
  have hl := h4.len
  have hsm := h4.small rfl
  have hbl := bulk_len a.kids
  unfold TCall
  refine TCallX.enter Try.func78 rfl 35 rfl ?_
  repeat (first|refine q1 ?_|refine q2 ?_|refine q3 ?_|refine q4 tab rfl rfl ?_|refine q5 ?_|refine q6 ?_|refine q7 ?_|refine q8 ?_|refine q9 ?_|refine q10 ?_|refine q11 ?_|refine q12 rfl ?_|refine q13 ?_|refine q14 ?_|refine q15 ?_|refine q16 rfl ?_|refine q17 rfl ?_)
  refine TO.step rfl (OT.box rfl rfl rfl rfl rfl (fun b => ?_))
  repeat (first|refine q1 ?_|refine q2 ?_|refine q3 ?_|refine q4 tab rfl rfl ?_|refine q5 ?_|refine q6 ?_|refine q7 ?_|refine q8 ?_|refine q9 ?_|refine q10 ?_|refine q11 ?_|refine q12 rfl ?_|refine q13 ?_|refine q14 ?_|refine q15 ?_|refine q16 rfl ?_|refine q17 rfl ?_)
  refine TC.loopK (ι := Nat) [1] rfl (fun k => [(6, .int .i64 (k : Int)), (4, .int .i64 ((1 + sizeL (a.kids.take k) : Nat) : Int)), (5, .int .i64 ((deepL (a.kids.take k) : Nat) : Int))]) (fun _ => m) (fun _ => .cells b 0 (treeC h) :: L) (fun k => k ≤ a.kids.length) (fun k => a.kids.length - k) 0 (by repeat (first | exact trivial | refine And.intro rfl ?_)) rfl (by repeat (first | exact List.Sublist.refl _ | exact List.sublist_append_left _ _ | refine List.Sublist.cons_cons _ ?_ | refine List.Sublist.cons _ ?_)) (Nat.zero_le _) ?_
  rintro k hk
  repeat (first | (first|refine q1 ?_|refine q2 ?_|refine q3 ?_|refine q4 tab rfl rfl ?_|refine q5 ?_|refine q6 ?_|refine q7 ?_|refine q8 ?_|refine q9 ?_|refine q10 ?_|refine q11 ?_|refine q12 rfl ?_|refine q13 ?_|refine q14 ?_|refine q15 ?_|refine q16 rfl ?_|refine q17 rfl ?_) | (first | refine qs rfl (ql tab 0 rfl rfl rfl rfl rfl rfl ?_) | refine qs rfl (qz tab 0 rfl rfl rfl rfl rfl rfl ?_) | refine qs rfl (ql tab 1 rfl rfl rfl rfl rfl rfl ?_) | refine qs rfl (qz tab 1 rfl rfl rfl rfl rfl rfl ?_) | refine qs rfl (ql tab 2 rfl rfl rfl rfl rfl rfl ?_) | refine qs rfl (qz tab 2 rfl rfl rfl rfl rfl rfl ?_) | refine qs rfl (ql tab 3 rfl rfl rfl rfl rfl rfl ?_) | refine qs rfl (qz tab 3 rfl rfl rfl rfl rfl rfl ?_) | refine qs rfl (ql tab 4 rfl rfl rfl rfl rfl rfl ?_) | refine qs rfl (qz tab 4 rfl rfl rfl rfl rfl rfl ?_) | refine qs rfl (ql tab 5 rfl rfl rfl rfl rfl rfl ?_) | refine qs rfl (qz tab 5 rfl rfl rfl rfl rfl rfl ?_)))
  refine TC.condP rfl (fun h => ?_) (fun h => ?_)
  · have hlt : k < a.kids.length := by omega
    have hx : a.kids[k]? = some a.kids[k] := by simp [hlt]
    have hmem := List.getElem_mem hlt
    repeat (first | (first|refine q1 ?_|refine q2 ?_|refine q3 ?_|refine q4 tab rfl rfl ?_|refine q5 ?_|refine q6 ?_|refine q7 ?_|refine q8 ?_|refine q9 ?_|refine q10 ?_|refine q11 ?_|refine q12 rfl ?_|refine q13 ?_|refine q14 ?_|refine q15 ?_|refine q16 rfl ?_|refine q17 rfl ?_) | (first | refine qs rfl (ql tab 0 rfl rfl rfl rfl rfl rfl ?_) | refine qs rfl (qz tab 0 rfl rfl rfl rfl rfl rfl ?_) | refine qs rfl (ql tab 1 rfl rfl rfl rfl rfl rfl ?_) | refine qs rfl (qz tab 1 rfl rfl rfl rfl rfl rfl ?_) | refine qs rfl (ql tab 2 rfl rfl rfl rfl rfl rfl ?_) | refine qs rfl (qz tab 2 rfl rfl rfl rfl rfl rfl ?_) | refine qs rfl (ql tab 3 rfl rfl rfl rfl rfl rfl ?_) | refine qs rfl (qz tab 3 rfl rfl rfl rfl rfl rfl ?_) | refine qs rfl (ql tab 4 rfl rfl rfl rfl rfl rfl ?_) | refine qs rfl (qz tab 4 rfl rfl rfl rfl rfl rfl ?_) | refine qs rfl (ql tab 5 rfl rfl rfl rfl rfl rfl ?_) | refine qs rfl (qz tab 5 rfl rfl rfl rfl rfl rfl ?_)))
    refine TO.step rfl (OT.index tab rTree k h4 rfl rfl rfl rfl rfl (by first | rfl | omega) rfl hx ?_)
    rintro b' i hd hrd hA
    (first | refine TO.step rfl (OT.loadA tab hA rfl rfl rfl rfl rfl ?_) | refine TO.step rfl (OT.loadA0 tab hA rfl rfl rfl rfl rfl ?_))
    repeat (first | (first|refine q1 ?_|refine q2 ?_|refine q3 ?_|refine q4 tab rfl rfl ?_|refine q5 ?_|refine q6 ?_|refine q7 ?_|refine q8 ?_|refine q9 ?_|refine q10 ?_|refine q11 ?_|refine q12 rfl ?_|refine q13 ?_|refine q14 ?_|refine q15 ?_|refine q16 rfl ?_|refine q17 rfl ?_) | (first | refine qs rfl (ql tab 0 rfl rfl rfl rfl rfl rfl ?_) | refine qs rfl (qz tab 0 rfl rfl rfl rfl rfl rfl ?_) | refine qs rfl (ql tab 1 rfl rfl rfl rfl rfl rfl ?_) | refine qs rfl (qz tab 1 rfl rfl rfl rfl rfl rfl ?_) | refine qs rfl (ql tab 2 rfl rfl rfl rfl rfl rfl ?_) | refine qs rfl (qz tab 2 rfl rfl rfl rfl rfl rfl ?_) | refine qs rfl (ql tab 3 rfl rfl rfl rfl rfl rfl ?_) | refine qs rfl (qz tab 3 rfl rfl rfl rfl rfl rfl ?_) | refine qs rfl (ql tab 4 rfl rfl rfl rfl rfl rfl ?_) | refine qs rfl (qz tab 4 rfl rfl rfl rfl rfl rfl ?_) | refine qs rfl (ql tab 5 rfl rfl rfl rfl rfl rfl ?_) | refine qs rfl (qz tab 5 rfl rfl rfl rfl rfl rfl ?_)))
    refine TO.step rfl (OT.call rfl rfl rfl rfl rfl rfl goes78 ((ih _ hmem _ _ hd (rTree_iff.1 hrd) (Nat.le_trans (Nat.le_of_lt (bulk_kid hmem)) hB)).x ?_));
    rintro _ _ _ ⟨rfl, rfl, rfl⟩
    have e1 := sizeL_next a.kids k hlt
    have e2 := deepL_next a.kids k hlt
    have e3 : sizeL (a.kids.take (k + 1)) ≤ 1048576 := by
      have := size_bulk a
      have := size_kids a
      have := sizeL_take a.kids (k + 1)
      omega
    repeat (first|refine q1 ?_|refine q2 ?_|refine q3 ?_|refine q4 tab rfl rfl ?_|refine q5 ?_|refine q6 ?_|refine q7 ?_|refine q8 ?_|refine q9 ?_|refine q10 ?_|refine q11 ?_|refine q12 rfl ?_|refine q13 ?_|refine q14 ?_|refine q15 ?_|refine q16 rfl ?_|refine q17 rfl ?_)
    refine TO.step rfl (OT.arith (r' := ((1 + sizeL (a.kids.take (k + 1)) : Nat) : Int)) rfl rfl rfl rfl rfl rfl (by rw [e1]; omega) (by omega) ?_)
    repeat (first|refine q1 ?_|refine q2 ?_|refine q3 ?_|refine q4 tab rfl rfl ?_|refine q5 ?_|refine q6 ?_|refine q7 ?_|refine q8 ?_|refine q9 ?_|refine q10 ?_|refine q11 ?_|refine q12 rfl ?_|refine q13 ?_|refine q14 ?_|refine q15 ?_|refine q16 rfl ?_|refine q17 rfl ?_)
    refine TC.condP rfl (fun h6 => ?_) (fun h6 => ?_)
    · repeat (first|refine q1 ?_|refine q2 ?_|refine q3 ?_|refine q4 tab rfl rfl ?_|refine q5 ?_|refine q6 ?_|refine q7 ?_|refine q8 ?_|refine q9 ?_|refine q10 ?_|refine q11 ?_|refine q12 rfl ?_|refine q13 ?_|refine q14 ?_|refine q15 ?_|refine q16 rfl ?_|refine q17 rfl ?_)
      refine TO.step rfl (OT.arith (r' := ((k + 1 : Nat) : Int)) rfl rfl rfl rfl rfl rfl rfl (by omega) ?_)
      repeat (first|refine q1 ?_|refine q2 ?_|refine q3 ?_|refine q4 tab rfl rfl ?_|refine q5 ?_|refine q6 ?_|refine q7 ?_|refine q8 ?_|refine q9 ?_|refine q10 ?_|refine q11 ?_|refine q12 rfl ?_|refine q13 ?_|refine q14 ?_|refine q15 ?_|refine q16 rfl ?_|refine q17 rfl ?_)
      have e4 : deepL (a.kids.take (k + 1)) = a.kids[k].deep := by omega
      exact ⟨k + 1, by simp only [e4]; exact (by repeat (first | exact trivial | refine And.intro rfl ?_)), (by repeat (first | exact trivial | refine And.intro rfl ?_)), rfl, rfl, (by repeat (first | exact List.Sublist.refl _ | exact List.sublist_append_left _ _ | refine List.Sublist.cons_cons _ ?_ | refine List.Sublist.cons _ ?_)), by omega, by omega⟩
    · repeat (first|refine q1 ?_|refine q2 ?_|refine q3 ?_|refine q4 tab rfl rfl ?_|refine q5 ?_|refine q6 ?_|refine q7 ?_|refine q8 ?_|refine q9 ?_|refine q10 ?_|refine q11 ?_|refine q12 rfl ?_|refine q13 ?_|refine q14 ?_|refine q15 ?_|refine q16 rfl ?_|refine q17 rfl ?_)
      refine TO.step rfl (OT.arith (r' := ((k + 1 : Nat) : Int)) rfl rfl rfl rfl rfl rfl rfl (by omega) ?_)
      repeat (first|refine q1 ?_|refine q2 ?_|refine q3 ?_|refine q4 tab rfl rfl ?_|refine q5 ?_|refine q6 ?_|refine q7 ?_|refine q8 ?_|refine q9 ?_|refine q10 ?_|refine q11 ?_|refine q12 rfl ?_|refine q13 ?_|refine q14 ?_|refine q15 ?_|refine q16 rfl ?_|refine q17 rfl ?_)
      have e4 : deepL (a.kids.take (k + 1)) = deepL (a.kids.take k) := by omega
      exact ⟨k + 1, by simp only [e4]; exact (by repeat (first | exact trivial | refine And.intro rfl ?_)), (by repeat (first | exact trivial | refine And.intro rfl ?_)), rfl, rfl, (by repeat (first | exact List.Sublist.refl _ | exact List.sublist_append_left _ _ | refine List.Sublist.cons_cons _ ?_ | refine List.Sublist.cons _ ?_)), by omega, by omega⟩
  · have hd : deepL a.kids ≤ 1048576 := by
      have := deep_size a
      have := size_bulk a
      obtain ⟨_, _, _, ks⟩ := a
      simp only [Tree.deep, Tree.kids] at *
      omega
    repeat (first|refine q1 ?_|refine q2 ?_|refine q3 ?_|refine q4 tab rfl rfl ?_|refine q5 ?_|refine q6 ?_|refine q7 ?_|refine q8 ?_|refine q9 ?_|refine q10 ?_|refine q11 ?_|refine q12 rfl ?_|refine q13 ?_|refine q14 ?_|refine q15 ?_|refine q16 rfl ?_|refine q17 rfl ?_)
    rw [List.take_of_length_le (by omega)]
    refine TO.step rfl (OT.arith (r' := ((deepL a.kids + 1 : Nat) : Int)) rfl rfl rfl rfl rfl rfl (by omega) (by omega) ?_)
    repeat (first|refine q1 ?_|refine q2 ?_|refine q3 ?_|refine q4 tab rfl rfl ?_|refine q5 ?_|refine q6 ?_|refine q7 ?_|refine q8 ?_|refine q9 ?_|refine q10 ?_|refine q11 ?_|refine q12 rfl ?_|refine q13 ?_|refine q14 ?_|refine q15 ?_|refine q16 rfl ?_|refine q17 rfl ?_)
    refine retQ_ret rfl (by repeat (first | exact List.Sublist.refl _ | exact List.sublist_append_left _ _ | refine List.Sublist.cons_cons _ ?_ | refine List.Sublist.cons _ ?_)) ⟨rfl, rfl, ?_⟩
    obtain ⟨_, _, _, ks⟩ := a
    rfl


theorem kindB_leaf {a : Tree} (h : a.kind = 1 ∨ a.kind = 2 ∨ a.kind = 3 ∨ a.kind = 8) : kindB a = decide (a.kids.length = 0) := by unfold kindB; rw [if_pos h]
theorem kindB_4 {a : Tree} (h : a.kind = 4) : kindB a = (decide (a.kids.length = 0) && (isName a.name && decide (basicOf a.name = 0))) := by unfold kindB; rw [if_neg (by omega), if_pos h]
theorem kindB_5 {a : Tree} (h : a.kind = 5 ∨ a.kind = 6) : kindB a = decide (a.kids.length = 1) := by unfold kindB; rw [if_neg (by omega), if_neg (by omega), if_pos h]
theorem kindB_7 {a : Tree} (h : a.kind = 7) : kindB a = (decide (0 ≤ a.num) && decide (a.num ≤ (a.kids.length : Int))) := by unfold kindB; rw [if_neg (by omega), if_neg (by omega), if_neg (by omega), if_pos h]
theorem kindB_no {a : Tree} (h1 : ¬ (a.kind = 1 ∨ a.kind = 2 ∨ a.kind = 3 ∨ a.kind = 8)) (h2 : ¬ a.kind = 4) (h3 : ¬ (a.kind = 5 ∨ a.kind = 6)) (h4 : ¬ a.kind = 7) : kindB a = false := by unfold kindB; rw [if_neg h1, if_neg h2, if_neg h3, if_neg h4]

set_option maxHeartbeats 6400000 in
theorem formed_ref (a : Tree) : ∀ (m : Mem) (L : List Item) (h : HTree) (hr : TreeRep m h a) (hB : a.bulk ≤ 1048576), TCall Try.prog 79 ⟨[treeV h]⟩ m L (Ret (.bool a.formed) m L) := by
  induction a using Tree.ind with
  | h a ih =>
  intro m L h hr hB
  obtain ⟨h1, h2, h3, h4⟩ := hr
  have hl := h4.len
  have hsm := h4.small rfl
  have hnl := bulk_name a
  rw [formed_eq]
  unfold TCall
  refine TCallX.enter Try.func79 rfl 93 rfl ?_
  repeat (first|refine q1 ?_|refine q2 ?_|refine q3 ?_|refine q4 tab rfl rfl ?_|refine q5 ?_|refine q6 ?_|refine q7 ?_|refine q8 ?_|refine q9 ?_|refine q10 ?_|refine q11 ?_|refine q12 rfl ?_|refine q13 ?_|refine q14 ?_|refine q15 ?_|refine q16 rfl ?_|refine q17 rfl ?_)
  refine TO.step rfl (OT.box rfl rfl rfl rfl rfl (fun b => ?_))
  repeat (first|refine q1 ?_|refine q2 ?_|refine q3 ?_|refine q4 tab rfl rfl ?_|refine q5 ?_|refine q6 ?_|refine q7 ?_|refine q8 ?_|refine q9 ?_|refine q10 ?_|refine q11 ?_|refine q12 rfl ?_|refine q13 ?_|refine q14 ?_|refine q15 ?_|refine q16 rfl ?_|refine q17 rfl ?_)
  refine TC.loopK (ι := Nat) [1] rfl (fun k => [(3, .int .i64 (k : Int))]) (fun _ => m) (fun _ => .cells b 0 (treeC h) :: L) (fun k => k ≤ a.kids.length ∧ formedL (a.kids.take k) = true) (fun k => a.kids.length - k) 0 (by repeat (first | exact trivial | refine And.intro rfl ?_)) rfl (by repeat (first | exact List.Sublist.refl _ | exact List.sublist_append_left _ _ | refine List.Sublist.cons_cons _ ?_ | refine List.Sublist.cons _ ?_)) ⟨Nat.zero_le _, rfl⟩ ?_
  rintro k ⟨hk, hI⟩
  repeat (first | (first|refine q1 ?_|refine q2 ?_|refine q3 ?_|refine q4 tab rfl rfl ?_|refine q5 ?_|refine q6 ?_|refine q7 ?_|refine q8 ?_|refine q9 ?_|refine q10 ?_|refine q11 ?_|refine q12 rfl ?_|refine q13 ?_|refine q14 ?_|refine q15 ?_|refine q16 rfl ?_|refine q17 rfl ?_) | (first | refine qs rfl (ql tab 0 rfl rfl rfl rfl rfl rfl ?_) | refine qs rfl (qz tab 0 rfl rfl rfl rfl rfl rfl ?_) | refine qs rfl (ql tab 1 rfl rfl rfl rfl rfl rfl ?_) | refine qs rfl (qz tab 1 rfl rfl rfl rfl rfl rfl ?_) | refine qs rfl (ql tab 2 rfl rfl rfl rfl rfl rfl ?_) | refine qs rfl (qz tab 2 rfl rfl rfl rfl rfl rfl ?_) | refine qs rfl (ql tab 3 rfl rfl rfl rfl rfl rfl ?_) | refine qs rfl (qz tab 3 rfl rfl rfl rfl rfl rfl ?_) | refine qs rfl (ql tab 4 rfl rfl rfl rfl rfl rfl ?_) | refine qs rfl (qz tab 4 rfl rfl rfl rfl rfl rfl ?_) | refine qs rfl (ql tab 5 rfl rfl rfl rfl rfl rfl ?_) | refine qs rfl (qz tab 5 rfl rfl rfl rfl rfl rfl ?_)))
  refine TC.condP rfl (fun hlt' => ?_) (fun hlt' => ?_)
  · have hlt : k < a.kids.length := by omega
    have hx : a.kids[k]? = some a.kids[k] := by simp [hlt]
    have hmem := List.getElem_mem hlt
    have hnx := formedL_next a.kids k hlt
    repeat (first | (first|refine q1 ?_|refine q2 ?_|refine q3 ?_|refine q4 tab rfl rfl ?_|refine q5 ?_|refine q6 ?_|refine q7 ?_|refine q8 ?_|refine q9 ?_|refine q10 ?_|refine q11 ?_|refine q12 rfl ?_|refine q13 ?_|refine q14 ?_|refine q15 ?_|refine q16 rfl ?_|refine q17 rfl ?_) | (first | refine qs rfl (ql tab 0 rfl rfl rfl rfl rfl rfl ?_) | refine qs rfl (qz tab 0 rfl rfl rfl rfl rfl rfl ?_) | refine qs rfl (ql tab 1 rfl rfl rfl rfl rfl rfl ?_) | refine qs rfl (qz tab 1 rfl rfl rfl rfl rfl rfl ?_) | refine qs rfl (ql tab 2 rfl rfl rfl rfl rfl rfl ?_) | refine qs rfl (qz tab 2 rfl rfl rfl rfl rfl rfl ?_) | refine qs rfl (ql tab 3 rfl rfl rfl rfl rfl rfl ?_) | refine qs rfl (qz tab 3 rfl rfl rfl rfl rfl rfl ?_) | refine qs rfl (ql tab 4 rfl rfl rfl rfl rfl rfl ?_) | refine qs rfl (qz tab 4 rfl rfl rfl rfl rfl rfl ?_) | refine qs rfl (ql tab 5 rfl rfl rfl rfl rfl rfl ?_) | refine qs rfl (qz tab 5 rfl rfl rfl rfl rfl rfl ?_)))
    refine TO.step rfl (OT.index tab rTree k h4 rfl rfl rfl rfl rfl (by first | rfl | omega) rfl hx ?_)
    rintro b' i' h' hrd hA
    have hk' := (rTree_iff.1 hrd).kind
    repeat (first|refine q1 ?_|refine q2 ?_|refine q3 ?_|refine q4 tab rfl rfl ?_|refine q5 ?_|refine q6 ?_|refine q7 ?_|refine q8 ?_|refine q9 ?_|refine q10 ?_|refine q11 ?_|refine q12 rfl ?_|refine q13 ?_|refine q14 ?_|refine q15 ?_|refine q16 rfl ?_|refine q17 rfl ?_)
    (first | refine TO.step rfl (OT.loadA tab hA rfl rfl rfl rfl rfl ?_) | refine TO.step rfl (OT.loadA0 tab hA rfl rfl rfl rfl rfl ?_))
    repeat (first|refine q1 ?_|refine q2 ?_|refine q3 ?_|refine q4 tab rfl rfl ?_|refine q5 ?_|refine q6 ?_|refine q7 ?_|refine q8 ?_|refine q9 ?_|refine q10 ?_|refine q11 ?_|refine q12 rfl ?_|refine q13 ?_|refine q14 ?_|refine q15 ?_|refine q16 rfl ?_|refine q17 rfl ?_)
    (first | refine TO.splitP rfl rfl (fun e8 => ?_) (fun e8 => ?_) | refine TO.splitN rfl rfl (fun e8 => ?_) (fun e8 => ?_) | refine TO.split rfl rfl (fun e8 => ?_) (fun e8 => ?_))
    · repeat (first|refine q1 ?_|refine q2 ?_|refine q3 ?_|refine q4 tab rfl rfl ?_|refine q5 ?_|refine q6 ?_|refine q7 ?_|refine q8 ?_|refine q9 ?_|refine q10 ?_|refine q11 ?_|refine q12 rfl ?_|refine q13 ?_|refine q14 ?_|refine q15 ?_|refine q16 rfl ?_|refine q17 rfl ?_)
      refine retQ_ret rfl (by repeat (first | exact List.Sublist.refl _ | exact List.sublist_append_left _ _ | refine List.Sublist.cons_cons _ ?_ | refine List.Sublist.cons _ ?_)) ⟨rfl, rfl, ?_⟩
      rw [formedL_false hmem (by rw [decide_eq_true (show a.kids[k].kind = 8 by omega)]; rfl)]; rfl
    repeat (first | (first|refine q1 ?_|refine q2 ?_|refine q3 ?_|refine q4 tab rfl rfl ?_|refine q5 ?_|refine q6 ?_|refine q7 ?_|refine q8 ?_|refine q9 ?_|refine q10 ?_|refine q11 ?_|refine q12 rfl ?_|refine q13 ?_|refine q14 ?_|refine q15 ?_|refine q16 rfl ?_|refine q17 rfl ?_) | (first | refine qs rfl (ql tab 0 rfl rfl rfl rfl rfl rfl ?_) | refine qs rfl (qz tab 0 rfl rfl rfl rfl rfl rfl ?_) | refine qs rfl (ql tab 1 rfl rfl rfl rfl rfl rfl ?_) | refine qs rfl (qz tab 1 rfl rfl rfl rfl rfl rfl ?_) | refine qs rfl (ql tab 2 rfl rfl rfl rfl rfl rfl ?_) | refine qs rfl (qz tab 2 rfl rfl rfl rfl rfl rfl ?_) | refine qs rfl (ql tab 3 rfl rfl rfl rfl rfl rfl ?_) | refine qs rfl (qz tab 3 rfl rfl rfl rfl rfl rfl ?_) | refine qs rfl (ql tab 4 rfl rfl rfl rfl rfl rfl ?_) | refine qs rfl (qz tab 4 rfl rfl rfl rfl rfl rfl ?_) | refine qs rfl (ql tab 5 rfl rfl rfl rfl rfl rfl ?_) | refine qs rfl (qz tab 5 rfl rfl rfl rfl rfl rfl ?_)))
    refine TO.step rfl (OT.index tab rTree k h4 rfl rfl rfl rfl rfl (by first | rfl | omega) rfl hx ?_)
    rintro b'' i'' h'' hrd' hA'
    (first | refine TO.step rfl (OT.loadA tab hA' rfl rfl rfl rfl rfl ?_) | refine TO.step rfl (OT.loadA0 tab hA' rfl rfl rfl rfl rfl ?_))
    repeat (first | (first|refine q1 ?_|refine q2 ?_|refine q3 ?_|refine q4 tab rfl rfl ?_|refine q5 ?_|refine q6 ?_|refine q7 ?_|refine q8 ?_|refine q9 ?_|refine q10 ?_|refine q11 ?_|refine q12 rfl ?_|refine q13 ?_|refine q14 ?_|refine q15 ?_|refine q16 rfl ?_|refine q17 rfl ?_) | (first | refine qs rfl (ql tab 0 rfl rfl rfl rfl rfl rfl ?_) | refine qs rfl (qz tab 0 rfl rfl rfl rfl rfl rfl ?_) | refine qs rfl (ql tab 1 rfl rfl rfl rfl rfl rfl ?_) | refine qs rfl (qz tab 1 rfl rfl rfl rfl rfl rfl ?_) | refine qs rfl (ql tab 2 rfl rfl rfl rfl rfl rfl ?_) | refine qs rfl (qz tab 2 rfl rfl rfl rfl rfl rfl ?_) | refine qs rfl (ql tab 3 rfl rfl rfl rfl rfl rfl ?_) | refine qs rfl (qz tab 3 rfl rfl rfl rfl rfl rfl ?_) | refine qs rfl (ql tab 4 rfl rfl rfl rfl rfl rfl ?_) | refine qs rfl (qz tab 4 rfl rfl rfl rfl rfl rfl ?_) | refine qs rfl (ql tab 5 rfl rfl rfl rfl rfl rfl ?_) | refine qs rfl (qz tab 5 rfl rfl rfl rfl rfl rfl ?_)))
    refine TO.step rfl (OT.call rfl rfl rfl rfl rfl rfl goes79 ((ih _ hmem _ _ h'' (rTree_iff.1 hrd') (Nat.le_trans (Nat.le_of_lt (bulk_kid hmem)) hB)).x ?_));
    rintro _ _ _ ⟨rfl, rfl, rfl⟩
    repeat (first|refine q1 ?_|refine q2 ?_|refine q3 ?_|refine q4 tab rfl rfl ?_|refine q5 ?_|refine q6 ?_|refine q7 ?_|refine q8 ?_|refine q9 ?_|refine q10 ?_|refine q11 ?_|refine q12 rfl ?_|refine q13 ?_|refine q14 ?_|refine q15 ?_|refine q16 rfl ?_|refine q17 rfl ?_)
    refine TC.cond (t := !a.kids[k].formed) rfl (fun e5 => ?_) (fun e5 => ?_)
    · rw [Bool.not_eq_true'] at e5
      repeat (first|refine q1 ?_|refine q2 ?_|refine q3 ?_|refine q4 tab rfl rfl ?_|refine q5 ?_|refine q6 ?_|refine q7 ?_|refine q8 ?_|refine q9 ?_|refine q10 ?_|refine q11 ?_|refine q12 rfl ?_|refine q13 ?_|refine q14 ?_|refine q15 ?_|refine q16 rfl ?_|refine q17 rfl ?_)
      refine retQ_ret rfl (by repeat (first | exact List.Sublist.refl _ | exact List.sublist_append_left _ _ | refine List.Sublist.cons_cons _ ?_ | refine List.Sublist.cons _ ?_)) ⟨rfl, rfl, ?_⟩
      rw [formedL_false hmem (by rw [e5]; simp)]; rfl
    · rw [Bool.not_eq_false'] at e5
      repeat (first|refine q1 ?_|refine q2 ?_|refine q3 ?_|refine q4 tab rfl rfl ?_|refine q5 ?_|refine q6 ?_|refine q7 ?_|refine q8 ?_|refine q9 ?_|refine q10 ?_|refine q11 ?_|refine q12 rfl ?_|refine q13 ?_|refine q14 ?_|refine q15 ?_|refine q16 rfl ?_|refine q17 rfl ?_)
      refine TO.step rfl (OT.arith (r' := ((k + 1 : Nat) : Int)) rfl rfl rfl rfl rfl rfl rfl (by omega) ?_)
      repeat (first|refine q1 ?_|refine q2 ?_|refine q3 ?_|refine q4 tab rfl rfl ?_|refine q5 ?_|refine q6 ?_|refine q7 ?_|refine q8 ?_|refine q9 ?_|refine q10 ?_|refine q11 ?_|refine q12 rfl ?_|refine q13 ?_|refine q14 ?_|refine q15 ?_|refine q16 rfl ?_|refine q17 rfl ?_)
      exact ⟨k + 1, (by repeat (first | exact trivial | refine And.intro rfl ?_)), (by repeat (first | exact trivial | refine And.intro rfl ?_)), rfl, rfl, (by repeat (first | exact List.Sublist.refl _ | exact List.sublist_append_left _ _ | refine List.Sublist.cons_cons _ ?_ | refine List.Sublist.cons _ ?_)), ⟨by omega, by rw [hnx, hI, e5, decide_eq_false (show ¬ a.kids[k].kind = 8 by omega)]; rfl⟩, by omega⟩
  have hf : formedL a.kids = true := by rw [List.take_of_length_le (by omega)] at hI; exact hI
  rw [hf, Bool.true_and]
  obtain ⟨q, n, u, s⟩ := h
  simp only at h1 h2 h3 hl
  by_cases hA : a.kind = 1 ∨ a.kind = 2 ∨ a.kind = 3 ∨ a.kind = 8
  · rw [kindB_leaf hA]
    rcases hA with hA | hA | hA | hA
    · obtain rfl : q = 1 := h1.trans hA
      repeat (first | (first|refine q1 ?_|refine q2 ?_|refine q3 ?_|refine q4 tab rfl rfl ?_|refine q5 ?_|refine q6 ?_|refine q7 ?_|refine q8 ?_|refine q9 ?_|refine q10 ?_|refine q11 ?_|refine q12 rfl ?_|refine q13 ?_|refine q14 ?_|refine q15 ?_|refine q16 rfl ?_|refine q17 rfl ?_) | (first | refine qs rfl (ql tab 0 rfl rfl rfl rfl rfl rfl ?_) | refine qs rfl (qz tab 0 rfl rfl rfl rfl rfl rfl ?_) | refine qs rfl (ql tab 1 rfl rfl rfl rfl rfl rfl ?_) | refine qs rfl (qz tab 1 rfl rfl rfl rfl rfl rfl ?_) | refine qs rfl (ql tab 2 rfl rfl rfl rfl rfl rfl ?_) | refine qs rfl (qz tab 2 rfl rfl rfl rfl rfl rfl ?_) | refine qs rfl (ql tab 3 rfl rfl rfl rfl rfl rfl ?_) | refine qs rfl (qz tab 3 rfl rfl rfl rfl rfl rfl ?_) | refine qs rfl (ql tab 4 rfl rfl rfl rfl rfl rfl ?_) | refine qs rfl (qz tab 4 rfl rfl rfl rfl rfl rfl ?_) | refine qs rfl (ql tab 5 rfl rfl rfl rfl rfl rfl ?_) | refine qs rfl (qz tab 5 rfl rfl rfl rfl rfl rfl ?_)))
      (first | refine TO.splitP rfl rfl (fun e1 => ?_) (fun e1 => ?_) | refine TO.splitN rfl rfl (fun e1 => ?_) (fun e1 => ?_) | refine TO.split rfl rfl (fun e1 => ?_) (fun e1 => ?_))
      · repeat (first|refine q1 ?_|refine q2 ?_|refine q3 ?_|refine q4 tab rfl rfl ?_|refine q5 ?_|refine q6 ?_|refine q7 ?_|refine q8 ?_|refine q9 ?_|refine q10 ?_|refine q11 ?_|refine q12 rfl ?_|refine q13 ?_|refine q14 ?_|refine q15 ?_|refine q16 rfl ?_|refine q17 rfl ?_)
        refine retQ_ret rfl (by repeat (first | exact List.Sublist.refl _ | exact List.sublist_append_left _ _ | refine List.Sublist.cons_cons _ ?_ | refine List.Sublist.cons _ ?_)) ⟨rfl, rfl, ?_⟩
        unfold headB
        rw [← h2, decide_eq_false e1, decide_eq_false (show ¬ a.kind = 4 by omega)]; rfl
      repeat (first | (first|refine q1 ?_|refine q2 ?_|refine q3 ?_|refine q4 tab rfl rfl ?_|refine q5 ?_|refine q6 ?_|refine q7 ?_|refine q8 ?_|refine q9 ?_|refine q10 ?_|refine q11 ?_|refine q12 rfl ?_|refine q13 ?_|refine q14 ?_|refine q15 ?_|refine q16 rfl ?_|refine q17 rfl ?_) | (first | refine qs rfl (ql tab 0 rfl rfl rfl rfl rfl rfl ?_) | refine qs rfl (qz tab 0 rfl rfl rfl rfl rfl rfl ?_) | refine qs rfl (ql tab 1 rfl rfl rfl rfl rfl rfl ?_) | refine qs rfl (qz tab 1 rfl rfl rfl rfl rfl rfl ?_) | refine qs rfl (ql tab 2 rfl rfl rfl rfl rfl rfl ?_) | refine qs rfl (qz tab 2 rfl rfl rfl rfl rfl rfl ?_) | refine qs rfl (ql tab 3 rfl rfl rfl rfl rfl rfl ?_) | refine qs rfl (qz tab 3 rfl rfl rfl rfl rfl rfl ?_) | refine qs rfl (ql tab 4 rfl rfl rfl rfl rfl rfl ?_) | refine qs rfl (qz tab 4 rfl rfl rfl rfl rfl rfl ?_) | refine qs rfl (ql tab 5 rfl rfl rfl rfl rfl rfl ?_) | refine qs rfl (qz tab 5 rfl rfl rfl rfl rfl rfl ?_)))
      refine TC.condN rfl (fun e2 => ?_) (fun e2 => ?_)
      · repeat (first|refine q1 ?_|refine q2 ?_|refine q3 ?_|refine q4 tab rfl rfl ?_|refine q5 ?_|refine q6 ?_|refine q7 ?_|refine q8 ?_|refine q9 ?_|refine q10 ?_|refine q11 ?_|refine q12 rfl ?_|refine q13 ?_|refine q14 ?_|refine q15 ?_|refine q16 rfl ?_|refine q17 rfl ?_)
        refine retQ_ret rfl (by repeat (first | exact List.Sublist.refl _ | exact List.sublist_append_left _ _ | refine List.Sublist.cons_cons _ ?_ | refine List.Sublist.cons _ ?_)) ⟨rfl, rfl, ?_⟩
        unfold headB
        rw [← h3, decide_eq_false e2, decide_eq_false (show ¬ a.kind = 7 by omega)]; simp
      have hhd : headB a = true := by unfold headB; rw [← h2, ← h3, decide_eq_true e1, decide_eq_true e2]; simp
      rw [hhd, Bool.true_and]
      repeat (first | (first|refine q1 ?_|refine q2 ?_|refine q3 ?_|refine q4 tab rfl rfl ?_|refine q5 ?_|refine q6 ?_|refine q7 ?_|refine q8 ?_|refine q9 ?_|refine q10 ?_|refine q11 ?_|refine q12 rfl ?_|refine q13 ?_|refine q14 ?_|refine q15 ?_|refine q16 rfl ?_|refine q17 rfl ?_) | (first | refine qs rfl (ql tab 0 rfl rfl rfl rfl rfl rfl ?_) | refine qs rfl (qz tab 0 rfl rfl rfl rfl rfl rfl ?_) | refine qs rfl (ql tab 1 rfl rfl rfl rfl rfl rfl ?_) | refine qs rfl (qz tab 1 rfl rfl rfl rfl rfl rfl ?_) | refine qs rfl (ql tab 2 rfl rfl rfl rfl rfl rfl ?_) | refine qs rfl (qz tab 2 rfl rfl rfl rfl rfl rfl ?_) | refine qs rfl (ql tab 3 rfl rfl rfl rfl rfl rfl ?_) | refine qs rfl (qz tab 3 rfl rfl rfl rfl rfl rfl ?_) | refine qs rfl (ql tab 4 rfl rfl rfl rfl rfl rfl ?_) | refine qs rfl (qz tab 4 rfl rfl rfl rfl rfl rfl ?_) | refine qs rfl (ql tab 5 rfl rfl rfl rfl rfl rfl ?_) | refine qs rfl (qz tab 5 rfl rfl rfl rfl rfl rfl ?_)))
      refine retQ_ret rfl (by repeat (first | exact List.Sublist.refl _ | exact List.sublist_append_left _ _ | refine List.Sublist.cons_cons _ ?_ | refine List.Sublist.cons _ ?_)) ⟨rfl, rfl, ?_⟩
      refine congrArg Value.bool ?_
      congr 1
      apply propext
      (try simp only)
      omega
    · obtain rfl : q = 2 := h1.trans hA
      repeat (first | (first|refine q1 ?_|refine q2 ?_|refine q3 ?_|refine q4 tab rfl rfl ?_|refine q5 ?_|refine q6 ?_|refine q7 ?_|refine q8 ?_|refine q9 ?_|refine q10 ?_|refine q11 ?_|refine q12 rfl ?_|refine q13 ?_|refine q14 ?_|refine q15 ?_|refine q16 rfl ?_|refine q17 rfl ?_) | (first | refine qs rfl (ql tab 0 rfl rfl rfl rfl rfl rfl ?_) | refine qs rfl (qz tab 0 rfl rfl rfl rfl rfl rfl ?_) | refine qs rfl (ql tab 1 rfl rfl rfl rfl rfl rfl ?_) | refine qs rfl (qz tab 1 rfl rfl rfl rfl rfl rfl ?_) | refine qs rfl (ql tab 2 rfl rfl rfl rfl rfl rfl ?_) | refine qs rfl (qz tab 2 rfl rfl rfl rfl rfl rfl ?_) | refine qs rfl (ql tab 3 rfl rfl rfl rfl rfl rfl ?_) | refine qs rfl (qz tab 3 rfl rfl rfl rfl rfl rfl ?_) | refine qs rfl (ql tab 4 rfl rfl rfl rfl rfl rfl ?_) | refine qs rfl (qz tab 4 rfl rfl rfl rfl rfl rfl ?_) | refine qs rfl (ql tab 5 rfl rfl rfl rfl rfl rfl ?_) | refine qs rfl (qz tab 5 rfl rfl rfl rfl rfl rfl ?_)))
      (first | refine TO.splitP rfl rfl (fun e1 => ?_) (fun e1 => ?_) | refine TO.splitN rfl rfl (fun e1 => ?_) (fun e1 => ?_) | refine TO.split rfl rfl (fun e1 => ?_) (fun e1 => ?_))
      · repeat (first|refine q1 ?_|refine q2 ?_|refine q3 ?_|refine q4 tab rfl rfl ?_|refine q5 ?_|refine q6 ?_|refine q7 ?_|refine q8 ?_|refine q9 ?_|refine q10 ?_|refine q11 ?_|refine q12 rfl ?_|refine q13 ?_|refine q14 ?_|refine q15 ?_|refine q16 rfl ?_|refine q17 rfl ?_)
        refine retQ_ret rfl (by repeat (first | exact List.Sublist.refl _ | exact List.sublist_append_left _ _ | refine List.Sublist.cons_cons _ ?_ | refine List.Sublist.cons _ ?_)) ⟨rfl, rfl, ?_⟩
        unfold headB
        rw [← h2, decide_eq_false e1, decide_eq_false (show ¬ a.kind = 4 by omega)]; rfl
      repeat (first | (first|refine q1 ?_|refine q2 ?_|refine q3 ?_|refine q4 tab rfl rfl ?_|refine q5 ?_|refine q6 ?_|refine q7 ?_|refine q8 ?_|refine q9 ?_|refine q10 ?_|refine q11 ?_|refine q12 rfl ?_|refine q13 ?_|refine q14 ?_|refine q15 ?_|refine q16 rfl ?_|refine q17 rfl ?_) | (first | refine qs rfl (ql tab 0 rfl rfl rfl rfl rfl rfl ?_) | refine qs rfl (qz tab 0 rfl rfl rfl rfl rfl rfl ?_) | refine qs rfl (ql tab 1 rfl rfl rfl rfl rfl rfl ?_) | refine qs rfl (qz tab 1 rfl rfl rfl rfl rfl rfl ?_) | refine qs rfl (ql tab 2 rfl rfl rfl rfl rfl rfl ?_) | refine qs rfl (qz tab 2 rfl rfl rfl rfl rfl rfl ?_) | refine qs rfl (ql tab 3 rfl rfl rfl rfl rfl rfl ?_) | refine qs rfl (qz tab 3 rfl rfl rfl rfl rfl rfl ?_) | refine qs rfl (ql tab 4 rfl rfl rfl rfl rfl rfl ?_) | refine qs rfl (qz tab 4 rfl rfl rfl rfl rfl rfl ?_) | refine qs rfl (ql tab 5 rfl rfl rfl rfl rfl rfl ?_) | refine qs rfl (qz tab 5 rfl rfl rfl rfl rfl rfl ?_)))
      refine TC.condN rfl (fun e2 => ?_) (fun e2 => ?_)
      · repeat (first|refine q1 ?_|refine q2 ?_|refine q3 ?_|refine q4 tab rfl rfl ?_|refine q5 ?_|refine q6 ?_|refine q7 ?_|refine q8 ?_|refine q9 ?_|refine q10 ?_|refine q11 ?_|refine q12 rfl ?_|refine q13 ?_|refine q14 ?_|refine q15 ?_|refine q16 rfl ?_|refine q17 rfl ?_)
        refine retQ_ret rfl (by repeat (first | exact List.Sublist.refl _ | exact List.sublist_append_left _ _ | refine List.Sublist.cons_cons _ ?_ | refine List.Sublist.cons _ ?_)) ⟨rfl, rfl, ?_⟩
        unfold headB
        rw [← h3, decide_eq_false e2, decide_eq_false (show ¬ a.kind = 7 by omega)]; simp
      have hhd : headB a = true := by unfold headB; rw [← h2, ← h3, decide_eq_true e1, decide_eq_true e2]; simp
      rw [hhd, Bool.true_and]
      repeat (first | (first|refine q1 ?_|refine q2 ?_|refine q3 ?_|refine q4 tab rfl rfl ?_|refine q5 ?_|refine q6 ?_|refine q7 ?_|refine q8 ?_|refine q9 ?_|refine q10 ?_|refine q11 ?_|refine q12 rfl ?_|refine q13 ?_|refine q14 ?_|refine q15 ?_|refine q16 rfl ?_|refine q17 rfl ?_) | (first | refine qs rfl (ql tab 0 rfl rfl rfl rfl rfl rfl ?_) | refine qs rfl (qz tab 0 rfl rfl rfl rfl rfl rfl ?_) | refine qs rfl (ql tab 1 rfl rfl rfl rfl rfl rfl ?_) | refine qs rfl (qz tab 1 rfl rfl rfl rfl rfl rfl ?_) | refine qs rfl (ql tab 2 rfl rfl rfl rfl rfl rfl ?_) | refine qs rfl (qz tab 2 rfl rfl rfl rfl rfl rfl ?_) | refine qs rfl (ql tab 3 rfl rfl rfl rfl rfl rfl ?_) | refine qs rfl (qz tab 3 rfl rfl rfl rfl rfl rfl ?_) | refine qs rfl (ql tab 4 rfl rfl rfl rfl rfl rfl ?_) | refine qs rfl (qz tab 4 rfl rfl rfl rfl rfl rfl ?_) | refine qs rfl (ql tab 5 rfl rfl rfl rfl rfl rfl ?_) | refine qs rfl (qz tab 5 rfl rfl rfl rfl rfl rfl ?_)))
      refine retQ_ret rfl (by repeat (first | exact List.Sublist.refl _ | exact List.sublist_append_left _ _ | refine List.Sublist.cons_cons _ ?_ | refine List.Sublist.cons _ ?_)) ⟨rfl, rfl, ?_⟩
      refine congrArg Value.bool ?_
      congr 1
      apply propext
      (try simp only)
      omega
    · obtain rfl : q = 3 := h1.trans hA
      repeat (first | (first|refine q1 ?_|refine q2 ?_|refine q3 ?_|refine q4 tab rfl rfl ?_|refine q5 ?_|refine q6 ?_|refine q7 ?_|refine q8 ?_|refine q9 ?_|refine q10 ?_|refine q11 ?_|refine q12 rfl ?_|refine q13 ?_|refine q14 ?_|refine q15 ?_|refine q16 rfl ?_|refine q17 rfl ?_) | (first | refine qs rfl (ql tab 0 rfl rfl rfl rfl rfl rfl ?_) | refine qs rfl (qz tab 0 rfl rfl rfl rfl rfl rfl ?_) | refine qs rfl (ql tab 1 rfl rfl rfl rfl rfl rfl ?_) | refine qs rfl (qz tab 1 rfl rfl rfl rfl rfl rfl ?_) | refine qs rfl (ql tab 2 rfl rfl rfl rfl rfl rfl ?_) | refine qs rfl (qz tab 2 rfl rfl rfl rfl rfl rfl ?_) | refine qs rfl (ql tab 3 rfl rfl rfl rfl rfl rfl ?_) | refine qs rfl (qz tab 3 rfl rfl rfl rfl rfl rfl ?_) | refine qs rfl (ql tab 4 rfl rfl rfl rfl rfl rfl ?_) | refine qs rfl (qz tab 4 rfl rfl rfl rfl rfl rfl ?_) | refine qs rfl (ql tab 5 rfl rfl rfl rfl rfl rfl ?_) | refine qs rfl (qz tab 5 rfl rfl rfl rfl rfl rfl ?_)))
      (first | refine TO.splitP rfl rfl (fun e1 => ?_) (fun e1 => ?_) | refine TO.splitN rfl rfl (fun e1 => ?_) (fun e1 => ?_) | refine TO.split rfl rfl (fun e1 => ?_) (fun e1 => ?_))
      · repeat (first|refine q1 ?_|refine q2 ?_|refine q3 ?_|refine q4 tab rfl rfl ?_|refine q5 ?_|refine q6 ?_|refine q7 ?_|refine q8 ?_|refine q9 ?_|refine q10 ?_|refine q11 ?_|refine q12 rfl ?_|refine q13 ?_|refine q14 ?_|refine q15 ?_|refine q16 rfl ?_|refine q17 rfl ?_)
        refine retQ_ret rfl (by repeat (first | exact List.Sublist.refl _ | exact List.sublist_append_left _ _ | refine List.Sublist.cons_cons _ ?_ | refine List.Sublist.cons _ ?_)) ⟨rfl, rfl, ?_⟩
        unfold headB
        rw [← h2, decide_eq_false e1, decide_eq_false (show ¬ a.kind = 4 by omega)]; rfl
      repeat (first | (first|refine q1 ?_|refine q2 ?_|refine q3 ?_|refine q4 tab rfl rfl ?_|refine q5 ?_|refine q6 ?_|refine q7 ?_|refine q8 ?_|refine q9 ?_|refine q10 ?_|refine q11 ?_|refine q12 rfl ?_|refine q13 ?_|refine q14 ?_|refine q15 ?_|refine q16 rfl ?_|refine q17 rfl ?_) | (first | refine qs rfl (ql tab 0 rfl rfl rfl rfl rfl rfl ?_) | refine qs rfl (qz tab 0 rfl rfl rfl rfl rfl rfl ?_) | refine qs rfl (ql tab 1 rfl rfl rfl rfl rfl rfl ?_) | refine qs rfl (qz tab 1 rfl rfl rfl rfl rfl rfl ?_) | refine qs rfl (ql tab 2 rfl rfl rfl rfl rfl rfl ?_) | refine qs rfl (qz tab 2 rfl rfl rfl rfl rfl rfl ?_) | refine qs rfl (ql tab 3 rfl rfl rfl rfl rfl rfl ?_) | refine qs rfl (qz tab 3 rfl rfl rfl rfl rfl rfl ?_) | refine qs rfl (ql tab 4 rfl rfl rfl rfl rfl rfl ?_) | refine qs rfl (qz tab 4 rfl rfl rfl rfl rfl rfl ?_) | refine qs rfl (ql tab 5 rfl rfl rfl rfl rfl rfl ?_) | refine qs rfl (qz tab 5 rfl rfl rfl rfl rfl rfl ?_)))
      refine TC.condN rfl (fun e2 => ?_) (fun e2 => ?_)
      · repeat (first|refine q1 ?_|refine q2 ?_|refine q3 ?_|refine q4 tab rfl rfl ?_|refine q5 ?_|refine q6 ?_|refine q7 ?_|refine q8 ?_|refine q9 ?_|refine q10 ?_|refine q11 ?_|refine q12 rfl ?_|refine q13 ?_|refine q14 ?_|refine q15 ?_|refine q16 rfl ?_|refine q17 rfl ?_)
        refine retQ_ret rfl (by repeat (first | exact List.Sublist.refl _ | exact List.sublist_append_left _ _ | refine List.Sublist.cons_cons _ ?_ | refine List.Sublist.cons _ ?_)) ⟨rfl, rfl, ?_⟩
        unfold headB
        rw [← h3, decide_eq_false e2, decide_eq_false (show ¬ a.kind = 7 by omega)]; simp
      have hhd : headB a = true := by unfold headB; rw [← h2, ← h3, decide_eq_true e1, decide_eq_true e2]; simp
      rw [hhd, Bool.true_and]
      repeat (first | (first|refine q1 ?_|refine q2 ?_|refine q3 ?_|refine q4 tab rfl rfl ?_|refine q5 ?_|refine q6 ?_|refine q7 ?_|refine q8 ?_|refine q9 ?_|refine q10 ?_|refine q11 ?_|refine q12 rfl ?_|refine q13 ?_|refine q14 ?_|refine q15 ?_|refine q16 rfl ?_|refine q17 rfl ?_) | (first | refine qs rfl (ql tab 0 rfl rfl rfl rfl rfl rfl ?_) | refine qs rfl (qz tab 0 rfl rfl rfl rfl rfl rfl ?_) | refine qs rfl (ql tab 1 rfl rfl rfl rfl rfl rfl ?_) | refine qs rfl (qz tab 1 rfl rfl rfl rfl rfl rfl ?_) | refine qs rfl (ql tab 2 rfl rfl rfl rfl rfl rfl ?_) | refine qs rfl (qz tab 2 rfl rfl rfl rfl rfl rfl ?_) | refine qs rfl (ql tab 3 rfl rfl rfl rfl rfl rfl ?_) | refine qs rfl (qz tab 3 rfl rfl rfl rfl rfl rfl ?_) | refine qs rfl (ql tab 4 rfl rfl rfl rfl rfl rfl ?_) | refine qs rfl (qz tab 4 rfl rfl rfl rfl rfl rfl ?_) | refine qs rfl (ql tab 5 rfl rfl rfl rfl rfl rfl ?_) | refine qs rfl (qz tab 5 rfl rfl rfl rfl rfl rfl ?_)))
      refine retQ_ret rfl (by repeat (first | exact List.Sublist.refl _ | exact List.sublist_append_left _ _ | refine List.Sublist.cons_cons _ ?_ | refine List.Sublist.cons _ ?_)) ⟨rfl, rfl, ?_⟩
      refine congrArg Value.bool ?_
      congr 1
      apply propext
      (try simp only)
      omega
    · obtain rfl : q = 8 := h1.trans hA
      repeat (first | (first|refine q1 ?_|refine q2 ?_|refine q3 ?_|refine q4 tab rfl rfl ?_|refine q5 ?_|refine q6 ?_|refine q7 ?_|refine q8 ?_|refine q9 ?_|refine q10 ?_|refine q11 ?_|refine q12 rfl ?_|refine q13 ?_|refine q14 ?_|refine q15 ?_|refine q16 rfl ?_|refine q17 rfl ?_) | (first | refine qs rfl (ql tab 0 rfl rfl rfl rfl rfl rfl ?_) | refine qs rfl (qz tab 0 rfl rfl rfl rfl rfl rfl ?_) | refine qs rfl (ql tab 1 rfl rfl rfl rfl rfl rfl ?_) | refine qs rfl (qz tab 1 rfl rfl rfl rfl rfl rfl ?_) | refine qs rfl (ql tab 2 rfl rfl rfl rfl rfl rfl ?_) | refine qs rfl (qz tab 2 rfl rfl rfl rfl rfl rfl ?_) | refine qs rfl (ql tab 3 rfl rfl rfl rfl rfl rfl ?_) | refine qs rfl (qz tab 3 rfl rfl rfl rfl rfl rfl ?_) | refine qs rfl (ql tab 4 rfl rfl rfl rfl rfl rfl ?_) | refine qs rfl (qz tab 4 rfl rfl rfl rfl rfl rfl ?_) | refine qs rfl (ql tab 5 rfl rfl rfl rfl rfl rfl ?_) | refine qs rfl (qz tab 5 rfl rfl rfl rfl rfl rfl ?_)))
      (first | refine TO.splitP rfl rfl (fun e1 => ?_) (fun e1 => ?_) | refine TO.splitN rfl rfl (fun e1 => ?_) (fun e1 => ?_) | refine TO.split rfl rfl (fun e1 => ?_) (fun e1 => ?_))
      · repeat (first|refine q1 ?_|refine q2 ?_|refine q3 ?_|refine q4 tab rfl rfl ?_|refine q5 ?_|refine q6 ?_|refine q7 ?_|refine q8 ?_|refine q9 ?_|refine q10 ?_|refine q11 ?_|refine q12 rfl ?_|refine q13 ?_|refine q14 ?_|refine q15 ?_|refine q16 rfl ?_|refine q17 rfl ?_)
        refine retQ_ret rfl (by repeat (first | exact List.Sublist.refl _ | exact List.sublist_append_left _ _ | refine List.Sublist.cons_cons _ ?_ | refine List.Sublist.cons _ ?_)) ⟨rfl, rfl, ?_⟩
        unfold headB
        rw [← h2, decide_eq_false e1, decide_eq_false (show ¬ a.kind = 4 by omega)]; rfl
      repeat (first | (first|refine q1 ?_|refine q2 ?_|refine q3 ?_|refine q4 tab rfl rfl ?_|refine q5 ?_|refine q6 ?_|refine q7 ?_|refine q8 ?_|refine q9 ?_|refine q10 ?_|refine q11 ?_|refine q12 rfl ?_|refine q13 ?_|refine q14 ?_|refine q15 ?_|refine q16 rfl ?_|refine q17 rfl ?_) | (first | refine qs rfl (ql tab 0 rfl rfl rfl rfl rfl rfl ?_) | refine qs rfl (qz tab 0 rfl rfl rfl rfl rfl rfl ?_) | refine qs rfl (ql tab 1 rfl rfl rfl rfl rfl rfl ?_) | refine qs rfl (qz tab 1 rfl rfl rfl rfl rfl rfl ?_) | refine qs rfl (ql tab 2 rfl rfl rfl rfl rfl rfl ?_) | refine qs rfl (qz tab 2 rfl rfl rfl rfl rfl rfl ?_) | refine qs rfl (ql tab 3 rfl rfl rfl rfl rfl rfl ?_) | refine qs rfl (qz tab 3 rfl rfl rfl rfl rfl rfl ?_) | refine qs rfl (ql tab 4 rfl rfl rfl rfl rfl rfl ?_) | refine qs rfl (qz tab 4 rfl rfl rfl rfl rfl rfl ?_) | refine qs rfl (ql tab 5 rfl rfl rfl rfl rfl rfl ?_) | refine qs rfl (qz tab 5 rfl rfl rfl rfl rfl rfl ?_)))
      refine TC.condN rfl (fun e2 => ?_) (fun e2 => ?_)
      · repeat (first|refine q1 ?_|refine q2 ?_|refine q3 ?_|refine q4 tab rfl rfl ?_|refine q5 ?_|refine q6 ?_|refine q7 ?_|refine q8 ?_|refine q9 ?_|refine q10 ?_|refine q11 ?_|refine q12 rfl ?_|refine q13 ?_|refine q14 ?_|refine q15 ?_|refine q16 rfl ?_|refine q17 rfl ?_)
        refine retQ_ret rfl (by repeat (first | exact List.Sublist.refl _ | exact List.sublist_append_left _ _ | refine List.Sublist.cons_cons _ ?_ | refine List.Sublist.cons _ ?_)) ⟨rfl, rfl, ?_⟩
        unfold headB
        rw [← h3, decide_eq_false e2, decide_eq_false (show ¬ a.kind = 7 by omega)]; simp
      have hhd : headB a = true := by unfold headB; rw [← h2, ← h3, decide_eq_true e1, decide_eq_true e2]; simp
      rw [hhd, Bool.true_and]
      repeat (first | (first|refine q1 ?_|refine q2 ?_|refine q3 ?_|refine q4 tab rfl rfl ?_|refine q5 ?_|refine q6 ?_|refine q7 ?_|refine q8 ?_|refine q9 ?_|refine q10 ?_|refine q11 ?_|refine q12 rfl ?_|refine q13 ?_|refine q14 ?_|refine q15 ?_|refine q16 rfl ?_|refine q17 rfl ?_) | (first | refine qs rfl (ql tab 0 rfl rfl rfl rfl rfl rfl ?_) | refine qs rfl (qz tab 0 rfl rfl rfl rfl rfl rfl ?_) | refine qs rfl (ql tab 1 rfl rfl rfl rfl rfl rfl ?_) | refine qs rfl (qz tab 1 rfl rfl rfl rfl rfl rfl ?_) | refine qs rfl (ql tab 2 rfl rfl rfl rfl rfl rfl ?_) | refine qs rfl (qz tab 2 rfl rfl rfl rfl rfl rfl ?_) | refine qs rfl (ql tab 3 rfl rfl rfl rfl rfl rfl ?_) | refine qs rfl (qz tab 3 rfl rfl rfl rfl rfl rfl ?_) | refine qs rfl (ql tab 4 rfl rfl rfl rfl rfl rfl ?_) | refine qs rfl (qz tab 4 rfl rfl rfl rfl rfl rfl ?_) | refine qs rfl (ql tab 5 rfl rfl rfl rfl rfl rfl ?_) | refine qs rfl (qz tab 5 rfl rfl rfl rfl rfl rfl ?_)))
      refine retQ_ret rfl (by repeat (first | exact List.Sublist.refl _ | exact List.sublist_append_left _ _ | refine List.Sublist.cons_cons _ ?_ | refine List.Sublist.cons _ ?_)) ⟨rfl, rfl, ?_⟩
      refine congrArg Value.bool ?_
      congr 1
      apply propext
      (try simp only)
      omega
  by_cases hB4 : a.kind = 4
  · rw [kindB_4 hB4]
    obtain rfl : q = 4 := h1.trans hB4
    repeat (first | (first|refine q1 ?_|refine q2 ?_|refine q3 ?_|refine q4 tab rfl rfl ?_|refine q5 ?_|refine q6 ?_|refine q7 ?_|refine q8 ?_|refine q9 ?_|refine q10 ?_|refine q11 ?_|refine q12 rfl ?_|refine q13 ?_|refine q14 ?_|refine q15 ?_|refine q16 rfl ?_|refine q17 rfl ?_) | (first | refine qs rfl (ql tab 0 rfl rfl rfl rfl rfl rfl ?_) | refine qs rfl (qz tab 0 rfl rfl rfl rfl rfl rfl ?_) | refine qs rfl (ql tab 1 rfl rfl rfl rfl rfl rfl ?_) | refine qs rfl (qz tab 1 rfl rfl rfl rfl rfl rfl ?_) | refine qs rfl (ql tab 2 rfl rfl rfl rfl rfl rfl ?_) | refine qs rfl (qz tab 2 rfl rfl rfl rfl rfl rfl ?_) | refine qs rfl (ql tab 3 rfl rfl rfl rfl rfl rfl ?_) | refine qs rfl (qz tab 3 rfl rfl rfl rfl rfl rfl ?_) | refine qs rfl (ql tab 4 rfl rfl rfl rfl rfl rfl ?_) | refine qs rfl (qz tab 4 rfl rfl rfl rfl rfl rfl ?_) | refine qs rfl (ql tab 5 rfl rfl rfl rfl rfl rfl ?_) | refine qs rfl (qz tab 5 rfl rfl rfl rfl rfl rfl ?_)))
    refine TC.condN rfl (fun e2 => ?_) (fun e2 => ?_)
    · repeat (first|refine q1 ?_|refine q2 ?_|refine q3 ?_|refine q4 tab rfl rfl ?_|refine q5 ?_|refine q6 ?_|refine q7 ?_|refine q8 ?_|refine q9 ?_|refine q10 ?_|refine q11 ?_|refine q12 rfl ?_|refine q13 ?_|refine q14 ?_|refine q15 ?_|refine q16 rfl ?_|refine q17 rfl ?_)
      refine retQ_ret rfl (by repeat (first | exact List.Sublist.refl _ | exact List.sublist_append_left _ _ | refine List.Sublist.cons_cons _ ?_ | refine List.Sublist.cons _ ?_)) ⟨rfl, rfl, ?_⟩
      unfold headB
      rw [← h3, decide_eq_false e2, decide_eq_false (show ¬ a.kind = 7 by omega)]; simp
    have hhd : headB a = true := by unfold headB; rw [← h3, decide_eq_true hB4, decide_eq_true e2]; simp
    rw [hhd, Bool.true_and]
    repeat (first | (first|refine q1 ?_|refine q2 ?_|refine q3 ?_|refine q4 tab rfl rfl ?_|refine q5 ?_|refine q6 ?_|refine q7 ?_|refine q8 ?_|refine q9 ?_|refine q10 ?_|refine q11 ?_|refine q12 rfl ?_|refine q13 ?_|refine q14 ?_|refine q15 ?_|refine q16 rfl ?_|refine q17 rfl ?_) | (first | refine qs rfl (ql tab 0 rfl rfl rfl rfl rfl rfl ?_) | refine qs rfl (qz tab 0 rfl rfl rfl rfl rfl rfl ?_) | refine qs rfl (ql tab 1 rfl rfl rfl rfl rfl rfl ?_) | refine qs rfl (qz tab 1 rfl rfl rfl rfl rfl rfl ?_) | refine qs rfl (ql tab 2 rfl rfl rfl rfl rfl rfl ?_) | refine qs rfl (qz tab 2 rfl rfl rfl rfl rfl rfl ?_) | refine qs rfl (ql tab 3 rfl rfl rfl rfl rfl rfl ?_) | refine qs rfl (qz tab 3 rfl rfl rfl rfl rfl rfl ?_) | refine qs rfl (ql tab 4 rfl rfl rfl rfl rfl rfl ?_) | refine qs rfl (qz tab 4 rfl rfl rfl rfl rfl rfl ?_) | refine qs rfl (ql tab 5 rfl rfl rfl rfl rfl rfl ?_) | refine qs rfl (qz tab 5 rfl rfl rfl rfl rfl rfl ?_)))
    (first | refine TO.splitP rfl rfl (fun e3 => ?_) (fun e3 => ?_) | refine TO.splitN rfl rfl (fun e3 => ?_) (fun e3 => ?_) | refine TO.split rfl rfl (fun e3 => ?_) (fun e3 => ?_))
    · simp only at e3
      repeat (first | (first|refine q1 ?_|refine q2 ?_|refine q3 ?_|refine q4 tab rfl rfl ?_|refine q5 ?_|refine q6 ?_|refine q7 ?_|refine q8 ?_|refine q9 ?_|refine q10 ?_|refine q11 ?_|refine q12 rfl ?_|refine q13 ?_|refine q14 ?_|refine q15 ?_|refine q16 rfl ?_|refine q17 rfl ?_) | (first | refine qs rfl (ql tab 0 rfl rfl rfl rfl rfl rfl ?_) | refine qs rfl (qz tab 0 rfl rfl rfl rfl rfl rfl ?_) | refine qs rfl (ql tab 1 rfl rfl rfl rfl rfl rfl ?_) | refine qs rfl (qz tab 1 rfl rfl rfl rfl rfl rfl ?_) | refine qs rfl (ql tab 2 rfl rfl rfl rfl rfl rfl ?_) | refine qs rfl (qz tab 2 rfl rfl rfl rfl rfl rfl ?_) | refine qs rfl (ql tab 3 rfl rfl rfl rfl rfl rfl ?_) | refine qs rfl (qz tab 3 rfl rfl rfl rfl rfl rfl ?_) | refine qs rfl (ql tab 4 rfl rfl rfl rfl rfl rfl ?_) | refine qs rfl (qz tab 4 rfl rfl rfl rfl rfl rfl ?_) | refine qs rfl (ql tab 5 rfl rfl rfl rfl rfl rfl ?_) | refine qs rfl (qz tab 5 rfl rfl rfl rfl rfl rfl ?_)))
      refine TO.step rfl (OT.call rfl rfl rfl rfl rfl rfl goes51 ((name_ref _ _ n (by rw [h2]; omega)).x ?_));
      rintro _ _ _ ⟨rfl, rfl, rfl⟩
      repeat (first|refine q1 ?_|refine q2 ?_|refine q3 ?_|refine q4 tab rfl rfl ?_|refine q5 ?_|refine q6 ?_|refine q7 ?_|refine q8 ?_|refine q9 ?_|refine q10 ?_|refine q11 ?_|refine q12 rfl ?_|refine q13 ?_|refine q14 ?_|refine q15 ?_|refine q16 rfl ?_|refine q17 rfl ?_)
      refine TO.split (b := isName n) rfl rfl (fun e4 => ?_) (fun e4 => ?_)
      · repeat (first | (first|refine q1 ?_|refine q2 ?_|refine q3 ?_|refine q4 tab rfl rfl ?_|refine q5 ?_|refine q6 ?_|refine q7 ?_|refine q8 ?_|refine q9 ?_|refine q10 ?_|refine q11 ?_|refine q12 rfl ?_|refine q13 ?_|refine q14 ?_|refine q15 ?_|refine q16 rfl ?_|refine q17 rfl ?_) | (first | refine qs rfl (ql tab 0 rfl rfl rfl rfl rfl rfl ?_) | refine qs rfl (qz tab 0 rfl rfl rfl rfl rfl rfl ?_) | refine qs rfl (ql tab 1 rfl rfl rfl rfl rfl rfl ?_) | refine qs rfl (qz tab 1 rfl rfl rfl rfl rfl rfl ?_) | refine qs rfl (ql tab 2 rfl rfl rfl rfl rfl rfl ?_) | refine qs rfl (qz tab 2 rfl rfl rfl rfl rfl rfl ?_) | refine qs rfl (ql tab 3 rfl rfl rfl rfl rfl rfl ?_) | refine qs rfl (qz tab 3 rfl rfl rfl rfl rfl rfl ?_) | refine qs rfl (ql tab 4 rfl rfl rfl rfl rfl rfl ?_) | refine qs rfl (qz tab 4 rfl rfl rfl rfl rfl rfl ?_) | refine qs rfl (ql tab 5 rfl rfl rfl rfl rfl rfl ?_) | refine qs rfl (qz tab 5 rfl rfl rfl rfl rfl rfl ?_)))
        refine TO.step rfl (OT.call rfl rfl rfl rfl rfl rfl goes52 ((basic_ref _ _ n).x ?_));
        rintro _ _ _ ⟨rfl, rfl, rfl⟩
        repeat (first|refine q1 ?_|refine q2 ?_|refine q3 ?_|refine q4 tab rfl rfl ?_|refine q5 ?_|refine q6 ?_|refine q7 ?_|refine q8 ?_|refine q9 ?_|refine q10 ?_|refine q11 ?_|refine q12 rfl ?_|refine q13 ?_|refine q14 ?_|refine q15 ?_|refine q16 rfl ?_|refine q17 rfl ?_)
        refine retQ_ret rfl (by repeat (first | exact List.Sublist.refl _ | exact List.sublist_append_left _ _ | refine List.Sublist.cons_cons _ ?_ | refine List.Sublist.cons _ ?_)) ⟨rfl, rfl, ?_⟩
        rw [← h2, e4, decide_eq_true (show a.kids.length = 0 by omega)]; rfl
      · repeat (first|refine q1 ?_|refine q2 ?_|refine q3 ?_|refine q4 tab rfl rfl ?_|refine q5 ?_|refine q6 ?_|refine q7 ?_|refine q8 ?_|refine q9 ?_|refine q10 ?_|refine q11 ?_|refine q12 rfl ?_|refine q13 ?_|refine q14 ?_|refine q15 ?_|refine q16 rfl ?_|refine q17 rfl ?_)
        refine retQ_ret rfl (by repeat (first | exact List.Sublist.refl _ | exact List.sublist_append_left _ _ | refine List.Sublist.cons_cons _ ?_ | refine List.Sublist.cons _ ?_)) ⟨rfl, rfl, ?_⟩
        rw [← h2, e4]; simp
    · simp only at e3
      repeat (first|refine q1 ?_|refine q2 ?_|refine q3 ?_|refine q4 tab rfl rfl ?_|refine q5 ?_|refine q6 ?_|refine q7 ?_|refine q8 ?_|refine q9 ?_|refine q10 ?_|refine q11 ?_|refine q12 rfl ?_|refine q13 ?_|refine q14 ?_|refine q15 ?_|refine q16 rfl ?_|refine q17 rfl ?_)
      refine retQ_ret rfl (by repeat (first | exact List.Sublist.refl _ | exact List.sublist_append_left _ _ | refine List.Sublist.cons_cons _ ?_ | refine List.Sublist.cons _ ?_)) ⟨rfl, rfl, ?_⟩
      rw [decide_eq_false (show ¬ a.kids.length = 0 by omega)]; rfl
  by_cases hC : a.kind = 5 ∨ a.kind = 6
  · rw [kindB_5 hC]
    rcases hC with hC | hC
    · obtain rfl : q = 5 := h1.trans hC
      repeat (first | (first|refine q1 ?_|refine q2 ?_|refine q3 ?_|refine q4 tab rfl rfl ?_|refine q5 ?_|refine q6 ?_|refine q7 ?_|refine q8 ?_|refine q9 ?_|refine q10 ?_|refine q11 ?_|refine q12 rfl ?_|refine q13 ?_|refine q14 ?_|refine q15 ?_|refine q16 rfl ?_|refine q17 rfl ?_) | (first | refine qs rfl (ql tab 0 rfl rfl rfl rfl rfl rfl ?_) | refine qs rfl (qz tab 0 rfl rfl rfl rfl rfl rfl ?_) | refine qs rfl (ql tab 1 rfl rfl rfl rfl rfl rfl ?_) | refine qs rfl (qz tab 1 rfl rfl rfl rfl rfl rfl ?_) | refine qs rfl (ql tab 2 rfl rfl rfl rfl rfl rfl ?_) | refine qs rfl (qz tab 2 rfl rfl rfl rfl rfl rfl ?_) | refine qs rfl (ql tab 3 rfl rfl rfl rfl rfl rfl ?_) | refine qs rfl (qz tab 3 rfl rfl rfl rfl rfl rfl ?_) | refine qs rfl (ql tab 4 rfl rfl rfl rfl rfl rfl ?_) | refine qs rfl (qz tab 4 rfl rfl rfl rfl rfl rfl ?_) | refine qs rfl (ql tab 5 rfl rfl rfl rfl rfl rfl ?_) | refine qs rfl (qz tab 5 rfl rfl rfl rfl rfl rfl ?_)))
      (first | refine TO.splitP rfl rfl (fun e1 => ?_) (fun e1 => ?_) | refine TO.splitN rfl rfl (fun e1 => ?_) (fun e1 => ?_) | refine TO.split rfl rfl (fun e1 => ?_) (fun e1 => ?_))
      · repeat (first|refine q1 ?_|refine q2 ?_|refine q3 ?_|refine q4 tab rfl rfl ?_|refine q5 ?_|refine q6 ?_|refine q7 ?_|refine q8 ?_|refine q9 ?_|refine q10 ?_|refine q11 ?_|refine q12 rfl ?_|refine q13 ?_|refine q14 ?_|refine q15 ?_|refine q16 rfl ?_|refine q17 rfl ?_)
        refine retQ_ret rfl (by repeat (first | exact List.Sublist.refl _ | exact List.sublist_append_left _ _ | refine List.Sublist.cons_cons _ ?_ | refine List.Sublist.cons _ ?_)) ⟨rfl, rfl, ?_⟩
        unfold headB
        rw [← h2, decide_eq_false e1, decide_eq_false (show ¬ a.kind = 4 by omega)]; rfl
      repeat (first | (first|refine q1 ?_|refine q2 ?_|refine q3 ?_|refine q4 tab rfl rfl ?_|refine q5 ?_|refine q6 ?_|refine q7 ?_|refine q8 ?_|refine q9 ?_|refine q10 ?_|refine q11 ?_|refine q12 rfl ?_|refine q13 ?_|refine q14 ?_|refine q15 ?_|refine q16 rfl ?_|refine q17 rfl ?_) | (first | refine qs rfl (ql tab 0 rfl rfl rfl rfl rfl rfl ?_) | refine qs rfl (qz tab 0 rfl rfl rfl rfl rfl rfl ?_) | refine qs rfl (ql tab 1 rfl rfl rfl rfl rfl rfl ?_) | refine qs rfl (qz tab 1 rfl rfl rfl rfl rfl rfl ?_) | refine qs rfl (ql tab 2 rfl rfl rfl rfl rfl rfl ?_) | refine qs rfl (qz tab 2 rfl rfl rfl rfl rfl rfl ?_) | refine qs rfl (ql tab 3 rfl rfl rfl rfl rfl rfl ?_) | refine qs rfl (qz tab 3 rfl rfl rfl rfl rfl rfl ?_) | refine qs rfl (ql tab 4 rfl rfl rfl rfl rfl rfl ?_) | refine qs rfl (qz tab 4 rfl rfl rfl rfl rfl rfl ?_) | refine qs rfl (ql tab 5 rfl rfl rfl rfl rfl rfl ?_) | refine qs rfl (qz tab 5 rfl rfl rfl rfl rfl rfl ?_)))
      refine TC.condN rfl (fun e2 => ?_) (fun e2 => ?_)
      · repeat (first|refine q1 ?_|refine q2 ?_|refine q3 ?_|refine q4 tab rfl rfl ?_|refine q5 ?_|refine q6 ?_|refine q7 ?_|refine q8 ?_|refine q9 ?_|refine q10 ?_|refine q11 ?_|refine q12 rfl ?_|refine q13 ?_|refine q14 ?_|refine q15 ?_|refine q16 rfl ?_|refine q17 rfl ?_)
        refine retQ_ret rfl (by repeat (first | exact List.Sublist.refl _ | exact List.sublist_append_left _ _ | refine List.Sublist.cons_cons _ ?_ | refine List.Sublist.cons _ ?_)) ⟨rfl, rfl, ?_⟩
        unfold headB
        rw [← h3, decide_eq_false e2, decide_eq_false (show ¬ a.kind = 7 by omega)]; simp
      have hhd : headB a = true := by unfold headB; rw [← h2, ← h3, decide_eq_true e1, decide_eq_true e2]; simp
      rw [hhd, Bool.true_and]
      repeat (first | (first|refine q1 ?_|refine q2 ?_|refine q3 ?_|refine q4 tab rfl rfl ?_|refine q5 ?_|refine q6 ?_|refine q7 ?_|refine q8 ?_|refine q9 ?_|refine q10 ?_|refine q11 ?_|refine q12 rfl ?_|refine q13 ?_|refine q14 ?_|refine q15 ?_|refine q16 rfl ?_|refine q17 rfl ?_) | (first | refine qs rfl (ql tab 0 rfl rfl rfl rfl rfl rfl ?_) | refine qs rfl (qz tab 0 rfl rfl rfl rfl rfl rfl ?_) | refine qs rfl (ql tab 1 rfl rfl rfl rfl rfl rfl ?_) | refine qs rfl (qz tab 1 rfl rfl rfl rfl rfl rfl ?_) | refine qs rfl (ql tab 2 rfl rfl rfl rfl rfl rfl ?_) | refine qs rfl (qz tab 2 rfl rfl rfl rfl rfl rfl ?_) | refine qs rfl (ql tab 3 rfl rfl rfl rfl rfl rfl ?_) | refine qs rfl (qz tab 3 rfl rfl rfl rfl rfl rfl ?_) | refine qs rfl (ql tab 4 rfl rfl rfl rfl rfl rfl ?_) | refine qs rfl (qz tab 4 rfl rfl rfl rfl rfl rfl ?_) | refine qs rfl (ql tab 5 rfl rfl rfl rfl rfl rfl ?_) | refine qs rfl (qz tab 5 rfl rfl rfl rfl rfl rfl ?_)))
      refine retQ_ret rfl (by repeat (first | exact List.Sublist.refl _ | exact List.sublist_append_left _ _ | refine List.Sublist.cons_cons _ ?_ | refine List.Sublist.cons _ ?_)) ⟨rfl, rfl, ?_⟩
      refine congrArg Value.bool ?_
      congr 1
      apply propext
      (try simp only)
      omega
    · obtain rfl : q = 6 := h1.trans hC
      repeat (first | (first|refine q1 ?_|refine q2 ?_|refine q3 ?_|refine q4 tab rfl rfl ?_|refine q5 ?_|refine q6 ?_|refine q7 ?_|refine q8 ?_|refine q9 ?_|refine q10 ?_|refine q11 ?_|refine q12 rfl ?_|refine q13 ?_|refine q14 ?_|refine q15 ?_|refine q16 rfl ?_|refine q17 rfl ?_) | (first | refine qs rfl (ql tab 0 rfl rfl rfl rfl rfl rfl ?_) | refine qs rfl (qz tab 0 rfl rfl rfl rfl rfl rfl ?_) | refine qs rfl (ql tab 1 rfl rfl rfl rfl rfl rfl ?_) | refine qs rfl (qz tab 1 rfl rfl rfl rfl rfl rfl ?_) | refine qs rfl (ql tab 2 rfl rfl rfl rfl rfl rfl ?_) | refine qs rfl (qz tab 2 rfl rfl rfl rfl rfl rfl ?_) | refine qs rfl (ql tab 3 rfl rfl rfl rfl rfl rfl ?_) | refine qs rfl (qz tab 3 rfl rfl rfl rfl rfl rfl ?_) | refine qs rfl (ql tab 4 rfl rfl rfl rfl rfl rfl ?_) | refine qs rfl (qz tab 4 rfl rfl rfl rfl rfl rfl ?_) | refine qs rfl (ql tab 5 rfl rfl rfl rfl rfl rfl ?_) | refine qs rfl (qz tab 5 rfl rfl rfl rfl rfl rfl ?_)))
      (first | refine TO.splitP rfl rfl (fun e1 => ?_) (fun e1 => ?_) | refine TO.splitN rfl rfl (fun e1 => ?_) (fun e1 => ?_) | refine TO.split rfl rfl (fun e1 => ?_) (fun e1 => ?_))
      · repeat (first|refine q1 ?_|refine q2 ?_|refine q3 ?_|refine q4 tab rfl rfl ?_|refine q5 ?_|refine q6 ?_|refine q7 ?_|refine q8 ?_|refine q9 ?_|refine q10 ?_|refine q11 ?_|refine q12 rfl ?_|refine q13 ?_|refine q14 ?_|refine q15 ?_|refine q16 rfl ?_|refine q17 rfl ?_)
        refine retQ_ret rfl (by repeat (first | exact List.Sublist.refl _ | exact List.sublist_append_left _ _ | refine List.Sublist.cons_cons _ ?_ | refine List.Sublist.cons _ ?_)) ⟨rfl, rfl, ?_⟩
        unfold headB
        rw [← h2, decide_eq_false e1, decide_eq_false (show ¬ a.kind = 4 by omega)]; rfl
      repeat (first | (first|refine q1 ?_|refine q2 ?_|refine q3 ?_|refine q4 tab rfl rfl ?_|refine q5 ?_|refine q6 ?_|refine q7 ?_|refine q8 ?_|refine q9 ?_|refine q10 ?_|refine q11 ?_|refine q12 rfl ?_|refine q13 ?_|refine q14 ?_|refine q15 ?_|refine q16 rfl ?_|refine q17 rfl ?_) | (first | refine qs rfl (ql tab 0 rfl rfl rfl rfl rfl rfl ?_) | refine qs rfl (qz tab 0 rfl rfl rfl rfl rfl rfl ?_) | refine qs rfl (ql tab 1 rfl rfl rfl rfl rfl rfl ?_) | refine qs rfl (qz tab 1 rfl rfl rfl rfl rfl rfl ?_) | refine qs rfl (ql tab 2 rfl rfl rfl rfl rfl rfl ?_) | refine qs rfl (qz tab 2 rfl rfl rfl rfl rfl rfl ?_) | refine qs rfl (ql tab 3 rfl rfl rfl rfl rfl rfl ?_) | refine qs rfl (qz tab 3 rfl rfl rfl rfl rfl rfl ?_) | refine qs rfl (ql tab 4 rfl rfl rfl rfl rfl rfl ?_) | refine qs rfl (qz tab 4 rfl rfl rfl rfl rfl rfl ?_) | refine qs rfl (ql tab 5 rfl rfl rfl rfl rfl rfl ?_) | refine qs rfl (qz tab 5 rfl rfl rfl rfl rfl rfl ?_)))
      refine TC.condN rfl (fun e2 => ?_) (fun e2 => ?_)
      · repeat (first|refine q1 ?_|refine q2 ?_|refine q3 ?_|refine q4 tab rfl rfl ?_|refine q5 ?_|refine q6 ?_|refine q7 ?_|refine q8 ?_|refine q9 ?_|refine q10 ?_|refine q11 ?_|refine q12 rfl ?_|refine q13 ?_|refine q14 ?_|refine q15 ?_|refine q16 rfl ?_|refine q17 rfl ?_)
        refine retQ_ret rfl (by repeat (first | exact List.Sublist.refl _ | exact List.sublist_append_left _ _ | refine List.Sublist.cons_cons _ ?_ | refine List.Sublist.cons _ ?_)) ⟨rfl, rfl, ?_⟩
        unfold headB
        rw [← h3, decide_eq_false e2, decide_eq_false (show ¬ a.kind = 7 by omega)]; simp
      have hhd : headB a = true := by unfold headB; rw [← h2, ← h3, decide_eq_true e1, decide_eq_true e2]; simp
      rw [hhd, Bool.true_and]
      repeat (first | (first|refine q1 ?_|refine q2 ?_|refine q3 ?_|refine q4 tab rfl rfl ?_|refine q5 ?_|refine q6 ?_|refine q7 ?_|refine q8 ?_|refine q9 ?_|refine q10 ?_|refine q11 ?_|refine q12 rfl ?_|refine q13 ?_|refine q14 ?_|refine q15 ?_|refine q16 rfl ?_|refine q17 rfl ?_) | (first | refine qs rfl (ql tab 0 rfl rfl rfl rfl rfl rfl ?_) | refine qs rfl (qz tab 0 rfl rfl rfl rfl rfl rfl ?_) | refine qs rfl (ql tab 1 rfl rfl rfl rfl rfl rfl ?_) | refine qs rfl (qz tab 1 rfl rfl rfl rfl rfl rfl ?_) | refine qs rfl (ql tab 2 rfl rfl rfl rfl rfl rfl ?_) | refine qs rfl (qz tab 2 rfl rfl rfl rfl rfl rfl ?_) | refine qs rfl (ql tab 3 rfl rfl rfl rfl rfl rfl ?_) | refine qs rfl (qz tab 3 rfl rfl rfl rfl rfl rfl ?_) | refine qs rfl (ql tab 4 rfl rfl rfl rfl rfl rfl ?_) | refine qs rfl (qz tab 4 rfl rfl rfl rfl rfl rfl ?_) | refine qs rfl (ql tab 5 rfl rfl rfl rfl rfl rfl ?_) | refine qs rfl (qz tab 5 rfl rfl rfl rfl rfl rfl ?_)))
      refine retQ_ret rfl (by repeat (first | exact List.Sublist.refl _ | exact List.sublist_append_left _ _ | refine List.Sublist.cons_cons _ ?_ | refine List.Sublist.cons _ ?_)) ⟨rfl, rfl, ?_⟩
      refine congrArg Value.bool ?_
      congr 1
      apply propext
      (try simp only)
      omega
  by_cases hD : a.kind = 7
  · rw [kindB_7 hD]
    obtain rfl : q = 7 := h1.trans hD
    repeat (first | (first|refine q1 ?_|refine q2 ?_|refine q3 ?_|refine q4 tab rfl rfl ?_|refine q5 ?_|refine q6 ?_|refine q7 ?_|refine q8 ?_|refine q9 ?_|refine q10 ?_|refine q11 ?_|refine q12 rfl ?_|refine q13 ?_|refine q14 ?_|refine q15 ?_|refine q16 rfl ?_|refine q17 rfl ?_) | (first | refine qs rfl (ql tab 0 rfl rfl rfl rfl rfl rfl ?_) | refine qs rfl (qz tab 0 rfl rfl rfl rfl rfl rfl ?_) | refine qs rfl (ql tab 1 rfl rfl rfl rfl rfl rfl ?_) | refine qs rfl (qz tab 1 rfl rfl rfl rfl rfl rfl ?_) | refine qs rfl (ql tab 2 rfl rfl rfl rfl rfl rfl ?_) | refine qs rfl (qz tab 2 rfl rfl rfl rfl rfl rfl ?_) | refine qs rfl (ql tab 3 rfl rfl rfl rfl rfl rfl ?_) | refine qs rfl (qz tab 3 rfl rfl rfl rfl rfl rfl ?_) | refine qs rfl (ql tab 4 rfl rfl rfl rfl rfl rfl ?_) | refine qs rfl (qz tab 4 rfl rfl rfl rfl rfl rfl ?_) | refine qs rfl (ql tab 5 rfl rfl rfl rfl rfl rfl ?_) | refine qs rfl (qz tab 5 rfl rfl rfl rfl rfl rfl ?_)))
    (first | refine TO.splitP rfl rfl (fun e1 => ?_) (fun e1 => ?_) | refine TO.splitN rfl rfl (fun e1 => ?_) (fun e1 => ?_) | refine TO.split rfl rfl (fun e1 => ?_) (fun e1 => ?_))
    · repeat (first|refine q1 ?_|refine q2 ?_|refine q3 ?_|refine q4 tab rfl rfl ?_|refine q5 ?_|refine q6 ?_|refine q7 ?_|refine q8 ?_|refine q9 ?_|refine q10 ?_|refine q11 ?_|refine q12 rfl ?_|refine q13 ?_|refine q14 ?_|refine q15 ?_|refine q16 rfl ?_|refine q17 rfl ?_)
      refine retQ_ret rfl (by repeat (first | exact List.Sublist.refl _ | exact List.sublist_append_left _ _ | refine List.Sublist.cons_cons _ ?_ | refine List.Sublist.cons _ ?_)) ⟨rfl, rfl, ?_⟩
      unfold headB
      rw [← h2, decide_eq_false e1, decide_eq_false hB4]; rfl
    have hhd : headB a = true := by unfold headB; rw [← h2, decide_eq_true e1, decide_eq_true hD]; simp
    rw [hhd, Bool.true_and]
    repeat (first | (first|refine q1 ?_|refine q2 ?_|refine q3 ?_|refine q4 tab rfl rfl ?_|refine q5 ?_|refine q6 ?_|refine q7 ?_|refine q8 ?_|refine q9 ?_|refine q10 ?_|refine q11 ?_|refine q12 rfl ?_|refine q13 ?_|refine q14 ?_|refine q15 ?_|refine q16 rfl ?_|refine q17 rfl ?_) | (first | refine qs rfl (ql tab 0 rfl rfl rfl rfl rfl rfl ?_) | refine qs rfl (qz tab 0 rfl rfl rfl rfl rfl rfl ?_) | refine qs rfl (ql tab 1 rfl rfl rfl rfl rfl rfl ?_) | refine qs rfl (qz tab 1 rfl rfl rfl rfl rfl rfl ?_) | refine qs rfl (ql tab 2 rfl rfl rfl rfl rfl rfl ?_) | refine qs rfl (qz tab 2 rfl rfl rfl rfl rfl rfl ?_) | refine qs rfl (ql tab 3 rfl rfl rfl rfl rfl rfl ?_) | refine qs rfl (qz tab 3 rfl rfl rfl rfl rfl rfl ?_) | refine qs rfl (ql tab 4 rfl rfl rfl rfl rfl rfl ?_) | refine qs rfl (qz tab 4 rfl rfl rfl rfl rfl rfl ?_) | refine qs rfl (ql tab 5 rfl rfl rfl rfl rfl rfl ?_) | refine qs rfl (qz tab 5 rfl rfl rfl rfl rfl rfl ?_)))
    (first | refine TO.splitP rfl rfl (fun e3 => ?_) (fun e3 => ?_) | refine TO.splitN rfl rfl (fun e3 => ?_) (fun e3 => ?_) | refine TO.split rfl rfl (fun e3 => ?_) (fun e3 => ?_))
    · simp only at e3
      repeat (first | (first|refine q1 ?_|refine q2 ?_|refine q3 ?_|refine q4 tab rfl rfl ?_|refine q5 ?_|refine q6 ?_|refine q7 ?_|refine q8 ?_|refine q9 ?_|refine q10 ?_|refine q11 ?_|refine q12 rfl ?_|refine q13 ?_|refine q14 ?_|refine q15 ?_|refine q16 rfl ?_|refine q17 rfl ?_) | (first | refine qs rfl (ql tab 0 rfl rfl rfl rfl rfl rfl ?_) | refine qs rfl (qz tab 0 rfl rfl rfl rfl rfl rfl ?_) | refine qs rfl (ql tab 1 rfl rfl rfl rfl rfl rfl ?_) | refine qs rfl (qz tab 1 rfl rfl rfl rfl rfl rfl ?_) | refine qs rfl (ql tab 2 rfl rfl rfl rfl rfl rfl ?_) | refine qs rfl (qz tab 2 rfl rfl rfl rfl rfl rfl ?_) | refine qs rfl (ql tab 3 rfl rfl rfl rfl rfl rfl ?_) | refine qs rfl (qz tab 3 rfl rfl rfl rfl rfl rfl ?_) | refine qs rfl (ql tab 4 rfl rfl rfl rfl rfl rfl ?_) | refine qs rfl (qz tab 4 rfl rfl rfl rfl rfl rfl ?_) | refine qs rfl (ql tab 5 rfl rfl rfl rfl rfl rfl ?_) | refine qs rfl (qz tab 5 rfl rfl rfl rfl rfl rfl ?_)))
      refine retQ_ret rfl (by repeat (first | exact List.Sublist.refl _ | exact List.sublist_append_left _ _ | refine List.Sublist.cons_cons _ ?_ | refine List.Sublist.cons _ ?_)) ⟨rfl, rfl, ?_⟩
      rw [decide_eq_true (show 0 ≤ a.num by omega), Bool.true_and]
      refine congrArg Value.bool ?_
      congr 1
      apply propext
      (try simp only)
      omega
    · simp only at e3
      repeat (first|refine q1 ?_|refine q2 ?_|refine q3 ?_|refine q4 tab rfl rfl ?_|refine q5 ?_|refine q6 ?_|refine q7 ?_|refine q8 ?_|refine q9 ?_|refine q10 ?_|refine q11 ?_|refine q12 rfl ?_|refine q13 ?_|refine q14 ?_|refine q15 ?_|refine q16 rfl ?_|refine q17 rfl ?_)
      refine retQ_ret rfl (by repeat (first | exact List.Sublist.refl _ | exact List.sublist_append_left _ _ | refine List.Sublist.cons_cons _ ?_ | refine List.Sublist.cons _ ?_)) ⟨rfl, rfl, ?_⟩
      rw [decide_eq_false (show ¬ 0 ≤ a.num by omega)]; rfl
  rw [kindB_no hA hB4 hC hD, Bool.and_false]
  repeat (first | (first|refine q1 ?_|refine q2 ?_|refine q3 ?_|refine q4 tab rfl rfl ?_|refine q5 ?_|refine q6 ?_|refine q7 ?_|refine q8 ?_|refine q9 ?_|refine q10 ?_|refine q11 ?_|refine q12 rfl ?_|refine q13 ?_|refine q14 ?_|refine q15 ?_|refine q16 rfl ?_|refine q17 rfl ?_) | (first | refine qs rfl (ql tab 0 rfl rfl rfl rfl rfl rfl ?_) | refine qs rfl (qz tab 0 rfl rfl rfl rfl rfl rfl ?_) | refine qs rfl (ql tab 1 rfl rfl rfl rfl rfl rfl ?_) | refine qs rfl (qz tab 1 rfl rfl rfl rfl rfl rfl ?_) | refine qs rfl (ql tab 2 rfl rfl rfl rfl rfl rfl ?_) | refine qs rfl (qz tab 2 rfl rfl rfl rfl rfl rfl ?_) | refine qs rfl (ql tab 3 rfl rfl rfl rfl rfl rfl ?_) | refine qs rfl (qz tab 3 rfl rfl rfl rfl rfl rfl ?_) | refine qs rfl (ql tab 4 rfl rfl rfl rfl rfl rfl ?_) | refine qs rfl (qz tab 4 rfl rfl rfl rfl rfl rfl ?_) | refine qs rfl (ql tab 5 rfl rfl rfl rfl rfl rfl ?_) | refine qs rfl (qz tab 5 rfl rfl rfl rfl rfl rfl ?_)))
  (first | refine TO.splitP rfl rfl (fun e0 => ?_) (fun e0 => ?_) | refine TO.splitN rfl rfl (fun e0 => ?_) (fun e0 => ?_) | refine TO.split rfl rfl (fun e0 => ?_) (fun e0 => ?_))
  · repeat (first | (first|refine q1 ?_|refine q2 ?_|refine q3 ?_|refine q4 tab rfl rfl ?_|refine q5 ?_|refine q6 ?_|refine q7 ?_|refine q8 ?_|refine q9 ?_|refine q10 ?_|refine q11 ?_|refine q12 rfl ?_|refine q13 ?_|refine q14 ?_|refine q15 ?_|refine q16 rfl ?_|refine q17 rfl ?_) | (first | refine qs rfl (ql tab 0 rfl rfl rfl rfl rfl rfl ?_) | refine qs rfl (qz tab 0 rfl rfl rfl rfl rfl rfl ?_) | refine qs rfl (ql tab 1 rfl rfl rfl rfl rfl rfl ?_) | refine qs rfl (qz tab 1 rfl rfl rfl rfl rfl rfl ?_) | refine qs rfl (ql tab 2 rfl rfl rfl rfl rfl rfl ?_) | refine qs rfl (qz tab 2 rfl rfl rfl rfl rfl rfl ?_) | refine qs rfl (ql tab 3 rfl rfl rfl rfl rfl rfl ?_) | refine qs rfl (qz tab 3 rfl rfl rfl rfl rfl rfl ?_) | refine qs rfl (ql tab 4 rfl rfl rfl rfl rfl rfl ?_) | refine qs rfl (qz tab 4 rfl rfl rfl rfl rfl rfl ?_) | refine qs rfl (ql tab 5 rfl rfl rfl rfl rfl rfl ?_) | refine qs rfl (qz tab 5 rfl rfl rfl rfl rfl rfl ?_)))
    (first | refine TO.splitP rfl rfl (fun e1 => ?_) (fun e1 => ?_) | refine TO.splitN rfl rfl (fun e1 => ?_) (fun e1 => ?_) | refine TO.split rfl rfl (fun e1 => ?_) (fun e1 => ?_))
    · repeat (first|refine q1 ?_|refine q2 ?_|refine q3 ?_|refine q4 tab rfl rfl ?_|refine q5 ?_|refine q6 ?_|refine q7 ?_|refine q8 ?_|refine q9 ?_|refine q10 ?_|refine q11 ?_|refine q12 rfl ?_|refine q13 ?_|refine q14 ?_|refine q15 ?_|refine q16 rfl ?_|refine q17 rfl ?_)
      refine retQ_ret rfl (by repeat (first | exact List.Sublist.refl _ | exact List.sublist_append_left _ _ | refine List.Sublist.cons_cons _ ?_ | refine List.Sublist.cons _ ?_)) ⟨rfl, rfl, ?_⟩
      rfl
    repeat (first | (first|refine q1 ?_|refine q2 ?_|refine q3 ?_|refine q4 tab rfl rfl ?_|refine q5 ?_|refine q6 ?_|refine q7 ?_|refine q8 ?_|refine q9 ?_|refine q10 ?_|refine q11 ?_|refine q12 rfl ?_|refine q13 ?_|refine q14 ?_|refine q15 ?_|refine q16 rfl ?_|refine q17 rfl ?_) | (first | refine qs rfl (ql tab 0 rfl rfl rfl rfl rfl rfl ?_) | refine qs rfl (qz tab 0 rfl rfl rfl rfl rfl rfl ?_) | refine qs rfl (ql tab 1 rfl rfl rfl rfl rfl rfl ?_) | refine qs rfl (qz tab 1 rfl rfl rfl rfl rfl rfl ?_) | refine qs rfl (ql tab 2 rfl rfl rfl rfl rfl rfl ?_) | refine qs rfl (qz tab 2 rfl rfl rfl rfl rfl rfl ?_) | refine qs rfl (ql tab 3 rfl rfl rfl rfl rfl rfl ?_) | refine qs rfl (qz tab 3 rfl rfl rfl rfl rfl rfl ?_) | refine qs rfl (ql tab 4 rfl rfl rfl rfl rfl rfl ?_) | refine qs rfl (qz tab 4 rfl rfl rfl rfl rfl rfl ?_) | refine qs rfl (ql tab 5 rfl rfl rfl rfl rfl rfl ?_) | refine qs rfl (qz tab 5 rfl rfl rfl rfl rfl rfl ?_)))
    (first | refine TO.splitP rfl rfl (fun e3 => ?_) (fun e3 => ?_) | refine TO.splitN rfl rfl (fun e3 => ?_) (fun e3 => ?_) | refine TO.split rfl rfl (fun e3 => ?_) (fun e3 => ?_))
    · repeat (first | (first|refine q1 ?_|refine q2 ?_|refine q3 ?_|refine q4 tab rfl rfl ?_|refine q5 ?_|refine q6 ?_|refine q7 ?_|refine q8 ?_|refine q9 ?_|refine q10 ?_|refine q11 ?_|refine q12 rfl ?_|refine q13 ?_|refine q14 ?_|refine q15 ?_|refine q16 rfl ?_|refine q17 rfl ?_) | (first | refine qs rfl (ql tab 0 rfl rfl rfl rfl rfl rfl ?_) | refine qs rfl (qz tab 0 rfl rfl rfl rfl rfl rfl ?_) | refine qs rfl (ql tab 1 rfl rfl rfl rfl rfl rfl ?_) | refine qs rfl (qz tab 1 rfl rfl rfl rfl rfl rfl ?_) | refine qs rfl (ql tab 2 rfl rfl rfl rfl rfl rfl ?_) | refine qs rfl (qz tab 2 rfl rfl rfl rfl rfl rfl ?_) | refine qs rfl (ql tab 3 rfl rfl rfl rfl rfl rfl ?_) | refine qs rfl (qz tab 3 rfl rfl rfl rfl rfl rfl ?_) | refine qs rfl (ql tab 4 rfl rfl rfl rfl rfl rfl ?_) | refine qs rfl (qz tab 4 rfl rfl rfl rfl rfl rfl ?_) | refine qs rfl (ql tab 5 rfl rfl rfl rfl rfl rfl ?_) | refine qs rfl (qz tab 5 rfl rfl rfl rfl rfl rfl ?_)))
      refine TC.condN rfl (fun e2 => ?_) (fun e2 => ?_)
      · repeat (first|refine q1 ?_|refine q2 ?_|refine q3 ?_|refine q4 tab rfl rfl ?_|refine q5 ?_|refine q6 ?_|refine q7 ?_|refine q8 ?_|refine q9 ?_|refine q10 ?_|refine q11 ?_|refine q12 rfl ?_|refine q13 ?_|refine q14 ?_|refine q15 ?_|refine q16 rfl ?_|refine q17 rfl ?_)
        refine retQ_ret rfl (by repeat (first | exact List.Sublist.refl _ | exact List.sublist_append_left _ _ | refine List.Sublist.cons_cons _ ?_ | refine List.Sublist.cons _ ?_)) ⟨rfl, rfl, ?_⟩
        rfl
      repeat (first | (first|refine q1 ?_|refine q2 ?_|refine q3 ?_|refine q4 tab rfl rfl ?_|refine q5 ?_|refine q6 ?_|refine q7 ?_|refine q8 ?_|refine q9 ?_|refine q10 ?_|refine q11 ?_|refine q12 rfl ?_|refine q13 ?_|refine q14 ?_|refine q15 ?_|refine q16 rfl ?_|refine q17 rfl ?_) | (first | refine qs rfl (ql tab 0 rfl rfl rfl rfl rfl rfl ?_) | refine qs rfl (qz tab 0 rfl rfl rfl rfl rfl rfl ?_) | refine qs rfl (ql tab 1 rfl rfl rfl rfl rfl rfl ?_) | refine qs rfl (qz tab 1 rfl rfl rfl rfl rfl rfl ?_) | refine qs rfl (ql tab 2 rfl rfl rfl rfl rfl rfl ?_) | refine qs rfl (qz tab 2 rfl rfl rfl rfl rfl rfl ?_) | refine qs rfl (ql tab 3 rfl rfl rfl rfl rfl rfl ?_) | refine qs rfl (qz tab 3 rfl rfl rfl rfl rfl rfl ?_) | refine qs rfl (ql tab 4 rfl rfl rfl rfl rfl rfl ?_) | refine qs rfl (qz tab 4 rfl rfl rfl rfl rfl rfl ?_) | refine qs rfl (ql tab 5 rfl rfl rfl rfl rfl rfl ?_) | refine qs rfl (qz tab 5 rfl rfl rfl rfl rfl rfl ?_)))
      refine TC.condP rfl (fun e5 => ?_) (fun e5 => ?_)
      · simp only at e5; omega
      repeat (first|refine q1 ?_|refine q2 ?_|refine q3 ?_|refine q4 tab rfl rfl ?_|refine q5 ?_|refine q6 ?_|refine q7 ?_|refine q8 ?_|refine q9 ?_|refine q10 ?_|refine q11 ?_|refine q12 rfl ?_|refine q13 ?_|refine q14 ?_|refine q15 ?_|refine q16 rfl ?_|refine q17 rfl ?_)
      refine TC.condP rfl (fun e5 => ?_) (fun e5 => ?_)
      · simp only at e5; omega
      repeat (first|refine q1 ?_|refine q2 ?_|refine q3 ?_|refine q4 tab rfl rfl ?_|refine q5 ?_|refine q6 ?_|refine q7 ?_|refine q8 ?_|refine q9 ?_|refine q10 ?_|refine q11 ?_|refine q12 rfl ?_|refine q13 ?_|refine q14 ?_|refine q15 ?_|refine q16 rfl ?_|refine q17 rfl ?_)
      refine TC.condP rfl (fun e5 => ?_) (fun e5 => ?_)
      · simp only at e5; omega
      repeat (first|refine q1 ?_|refine q2 ?_|refine q3 ?_|refine q4 tab rfl rfl ?_|refine q5 ?_|refine q6 ?_|refine q7 ?_|refine q8 ?_|refine q9 ?_|refine q10 ?_|refine q11 ?_|refine q12 rfl ?_|refine q13 ?_|refine q14 ?_|refine q15 ?_|refine q16 rfl ?_|refine q17 rfl ?_)
      refine TC.condP rfl (fun e5 => ?_) (fun e5 => ?_)
      · simp only at e5; omega
      repeat (first|refine q1 ?_|refine q2 ?_|refine q3 ?_|refine q4 tab rfl rfl ?_|refine q5 ?_|refine q6 ?_|refine q7 ?_|refine q8 ?_|refine q9 ?_|refine q10 ?_|refine q11 ?_|refine q12 rfl ?_|refine q13 ?_|refine q14 ?_|refine q15 ?_|refine q16 rfl ?_|refine q17 rfl ?_)
      refine TC.condP rfl (fun e5 => ?_) (fun e5 => ?_)
      · simp only at e5; omega
      repeat (first|refine q1 ?_|refine q2 ?_|refine q3 ?_|refine q4 tab rfl rfl ?_|refine q5 ?_|refine q6 ?_|refine q7 ?_|refine q8 ?_|refine q9 ?_|refine q10 ?_|refine q11 ?_|refine q12 rfl ?_|refine q13 ?_|refine q14 ?_|refine q15 ?_|refine q16 rfl ?_|refine q17 rfl ?_)
      refine TC.condP rfl (fun e5 => ?_) (fun e5 => ?_)
      · simp only at e5; omega
      repeat (first|refine q1 ?_|refine q2 ?_|refine q3 ?_|refine q4 tab rfl rfl ?_|refine q5 ?_|refine q6 ?_|refine q7 ?_|refine q8 ?_|refine q9 ?_|refine q10 ?_|refine q11 ?_|refine q12 rfl ?_|refine q13 ?_|refine q14 ?_|refine q15 ?_|refine q16 rfl ?_|refine q17 rfl ?_)
      refine TC.condP rfl (fun e5 => ?_) (fun e5 => ?_)
      · simp only at e5; omega
      repeat (first|refine q1 ?_|refine q2 ?_|refine q3 ?_|refine q4 tab rfl rfl ?_|refine q5 ?_|refine q6 ?_|refine q7 ?_|refine q8 ?_|refine q9 ?_|refine q10 ?_|refine q11 ?_|refine q12 rfl ?_|refine q13 ?_|refine q14 ?_|refine q15 ?_|refine q16 rfl ?_|refine q17 rfl ?_)
      refine TC.condP rfl (fun e5 => ?_) (fun e5 => ?_)
      · simp only at e5; omega
      repeat (first|refine q1 ?_|refine q2 ?_|refine q3 ?_|refine q4 tab rfl rfl ?_|refine q5 ?_|refine q6 ?_|refine q7 ?_|refine q8 ?_|refine q9 ?_|refine q10 ?_|refine q11 ?_|refine q12 rfl ?_|refine q13 ?_|refine q14 ?_|refine q15 ?_|refine q16 rfl ?_|refine q17 rfl ?_)
      refine retQ_ret rfl (by repeat (first | exact List.Sublist.refl _ | exact List.sublist_append_left _ _ | refine List.Sublist.cons_cons _ ?_ | refine List.Sublist.cons _ ?_)) ⟨rfl, rfl, ?_⟩
      rfl
    · simp only at e3; omega
  · simp only at e0; omega
end Go.Sep
