/-
  The walks of the reference's tellers of nodes: Size, within, num, repeat, shape (three sorts), is.
-/
import Derived.Test.YtlpcakplpnpaeaaTyParse
import Derived.Test.YtlpcakplpnpaeaaSepO
set_option linter.unusedVariables false
set_option linter.unusedSimpArgs false
namespace Go.Sep
open Go.Proofs
attribute [local irreducible] TC TO OT TCallX TCall DO DOt thenQ blockQ retQ At

set_option maxHeartbeats 800000 in
theorem size_node (a : Tree) : ∀ (m : Mem) (L : List Item) (h : HTree) (hr : TreeRep m h a) (hB : a.bulk ≤ 1048576), TCall Try.prog 106 ⟨[treeV h]⟩ m L (Ret (.tuple ⟨[.int .i64 (a.size : Int), .int .i64 (a.deep : Int)]⟩) m L) := by
  induction a using Tree.ind with
  | h a ih =>
  intro m L h hr hB
  obtain ⟨h1, h2, h3, h4⟩ := hr
  have hl := h4.len
  have hsm := h4.small rfl
  have hbl := bulk_len a.kids
  unfold TCall
  refine TCallX.enter Try.func106 rfl 35 rfl ?_
  repeat (first|refine q1 ?_|refine q2 ?_|refine q3 ?_|refine q4 tab rfl rfl ?_|refine q5 ?_|refine q6 ?_|refine q7 ?_|refine q8 ?_|refine q9 ?_|refine q10 ?_|refine q11 ?_|refine q12 rfl ?_|refine q13 ?_|refine q14 ?_|refine q15 ?_|refine q16 rfl ?_|refine q17 rfl ?_)
  refine TO.step rfl (OT.box rfl rfl rfl rfl rfl (fun b => ?_))
  repeat (first|refine q1 ?_|refine q2 ?_|refine q3 ?_|refine q4 tab rfl rfl ?_|refine q5 ?_|refine q6 ?_|refine q7 ?_|refine q8 ?_|refine q9 ?_|refine q10 ?_|refine q11 ?_|refine q12 rfl ?_|refine q13 ?_|refine q14 ?_|refine q15 ?_|refine q16 rfl ?_|refine q17 rfl ?_)
  refine TC.loopK (ι := Nat) [1] rfl (fun k => [(6, .int .i64 (k : Int)), (4, .int .i64 ((1 + sizeL (a.kids.take k) : Nat) : Int)), (5, .int .i64 ((deepL (a.kids.take k) : Nat) : Int))]) (fun _ => m) (fun _ => .cells b 0 (treeC h) :: L) (fun k => k ≤ a.kids.length) (fun k => a.kids.length - k) 0 (by repeat (first | exact trivial | refine And.intro rfl ?_)) rfl (by repeat (first | exact List.Sublist.refl _ | exact List.sublist_append_left _ _ | refine List.Sublist.cons_cons _ ?_ | refine List.Sublist.cons _ ?_)) (Nat.zero_le _) ?_
  rintro k hk
  repeat (first | (first|refine q1 ?_|refine q2 ?_|refine q3 ?_|refine q4 tab rfl rfl ?_|refine q5 ?_|refine q6 ?_|refine q7 ?_|refine q8 ?_|refine q9 ?_|refine q10 ?_|refine q11 ?_|refine q12 rfl ?_|refine q13 ?_|refine q14 ?_|refine q15 ?_|refine q16 rfl ?_|refine q17 rfl ?_) | (first | refine qs rfl (ql tab 0 rfl rfl rfl rfl rfl rfl ?_) | refine qs rfl (qz tab 0 rfl rfl rfl rfl rfl rfl ?_) | refine qs rfl (ql tab 1 rfl rfl rfl rfl rfl rfl ?_) | refine qs rfl (qz tab 1 rfl rfl rfl rfl rfl rfl ?_) | refine qs rfl (ql tab 2 rfl rfl rfl rfl rfl rfl ?_) | refine qs rfl (qz tab 2 rfl rfl rfl rfl rfl rfl ?_) | refine qs rfl (ql tab 3 rfl rfl rfl rfl rfl rfl ?_) | refine qs rfl (qz tab 3 rfl rfl rfl rfl rfl rfl ?_) | refine qs rfl (ql tab 4 rfl rfl rfl rfl rfl rfl ?_) | refine qs rfl (qz tab 4 rfl rfl rfl rfl rfl rfl ?_) | refine qs rfl (ql tab 5 rfl rfl rfl rfl rfl rfl ?_) | refine qs rfl (qz tab 5 rfl rfl rfl rfl rfl rfl ?_)))
  refine TC.condP rfl (fun h => ?_) (fun h => ?_)
  · have hlt : k < a.kids.length := by omega
    have hx : a.kids[k]? = some a.kids[k] := by simp [hlt]
    have hmem := List.getElem_mem hlt
    repeat (first | (first|refine q1 ?_|refine q2 ?_|refine q3 ?_|refine q4 tab rfl rfl ?_|refine q5 ?_|refine q6 ?_|refine q7 ?_|refine q8 ?_|refine q9 ?_|refine q10 ?_|refine q11 ?_|refine q12 rfl ?_|refine q13 ?_|refine q14 ?_|refine q15 ?_|refine q16 rfl ?_|refine q17 rfl ?_) | (first | refine qs rfl (ql tab 0 rfl rfl rfl rfl rfl rfl ?_) | refine qs rfl (qz tab 0 rfl rfl rfl rfl rfl rfl ?_) | refine qs rfl (ql tab 1 rfl rfl rfl rfl rfl rfl ?_) | refine qs rfl (qz tab 1 rfl rfl rfl rfl rfl rfl ?_) | refine qs rfl (ql tab 2 rfl rfl rfl rfl rfl rfl ?_) | refine qs rfl (qz tab 2 rfl rfl rfl rfl rfl rfl ?_) | refine qs rfl (ql tab 3 rfl rfl rfl rfl rfl rfl ?_) | refine qs rfl (qz tab 3 rfl rfl rfl rfl rfl rfl ?_) | refine qs rfl (ql tab 4 rfl rfl rfl rfl rfl rfl ?_) | refine qs rfl (qz tab 4 rfl rfl rfl rfl rfl rfl ?_) | refine qs rfl (ql tab 5 rfl rfl rfl rfl rfl rfl ?_) | refine qs rfl (qz tab 5 rfl rfl rfl rfl rfl rfl ?_)))
    refine TO.step rfl (OT.index tab rTree k h4 rfl rfl rfl rfl rfl (by first | rfl | omega) rfl hx ?_)
    rintro b' i hd hrd hA
    (first | refine TO.step rfl (OT.loadA tab hA rfl rfl rfl rfl rfl ?_) | refine TO.step rfl (OT.loadA0 tab hA rfl rfl rfl rfl rfl ?_))
    repeat (first | (first|refine q1 ?_|refine q2 ?_|refine q3 ?_|refine q4 tab rfl rfl ?_|refine q5 ?_|refine q6 ?_|refine q7 ?_|refine q8 ?_|refine q9 ?_|refine q10 ?_|refine q11 ?_|refine q12 rfl ?_|refine q13 ?_|refine q14 ?_|refine q15 ?_|refine q16 rfl ?_|refine q17 rfl ?_) | (first | refine qs rfl (ql tab 0 rfl rfl rfl rfl rfl rfl ?_) | refine qs rfl (qz tab 0 rfl rfl rfl rfl rfl rfl ?_) | refine qs rfl (ql tab 1 rfl rfl rfl rfl rfl rfl ?_) | refine qs rfl (qz tab 1 rfl rfl rfl rfl rfl rfl ?_) | refine qs rfl (ql tab 2 rfl rfl rfl rfl rfl rfl ?_) | refine qs rfl (qz tab 2 rfl rfl rfl rfl rfl rfl ?_) | refine qs rfl (ql tab 3 rfl rfl rfl rfl rfl rfl ?_) | refine qs rfl (qz tab 3 rfl rfl rfl rfl rfl rfl ?_) | refine qs rfl (ql tab 4 rfl rfl rfl rfl rfl rfl ?_) | refine qs rfl (qz tab 4 rfl rfl rfl rfl rfl rfl ?_) | refine qs rfl (ql tab 5 rfl rfl rfl rfl rfl rfl ?_) | refine qs rfl (qz tab 5 rfl rfl rfl rfl rfl rfl ?_)))
    refine TO.step rfl (OT.call rfl rfl rfl rfl rfl rfl goes106 ((ih _ hmem _ _ hd (rTree_iff.1 hrd) (Nat.le_trans (Nat.le_of_lt (bulk_kid hmem)) hB)).x ?_));
    rintro _ _ _ ⟨rfl, rfl, rfl⟩
    have e1 := sizeL_next a.kids k hlt
    have e2 := deepL_next a.kids k hlt
    have e3 : sizeL (a.kids.take (k + 1)) ≤ 1048576 := by
      have := size_bulk a
      have := size_kids a
      have := sizeL_take a.kids (k + 1)
      omega
    repeat (first|refine q1 ?_|refine q2 ?_|refine q3 ?_|refine q4 tab rfl rfl ?_|refine q5 ?_|refine q6 ?_|refine q7 ?_|refine q8 ?_|refine q9 ?_|refine q10 ?_|refine q11 ?_|refine q12 rfl ?_|refine q13 ?_|refine q14 ?_|refine q15 ?_|refine q16 rfl ?_|refine q17 rfl ?_)
    refine TO.step rfl (OT.arith (r' := ((1 + sizeL (a.kids.take (k + 1)) : Nat) : Int)) rfl rfl rfl rfl rfl rfl (by rw [e1]; omega) (by omega) ?_)
    repeat (first|refine q1 ?_|refine q2 ?_|refine q3 ?_|refine q4 tab rfl rfl ?_|refine q5 ?_|refine q6 ?_|refine q7 ?_|refine q8 ?_|refine q9 ?_|refine q10 ?_|refine q11 ?_|refine q12 rfl ?_|refine q13 ?_|refine q14 ?_|refine q15 ?_|refine q16 rfl ?_|refine q17 rfl ?_)
    refine TC.condP rfl (fun h6 => ?_) (fun h6 => ?_)
    · repeat (first|refine q1 ?_|refine q2 ?_|refine q3 ?_|refine q4 tab rfl rfl ?_|refine q5 ?_|refine q6 ?_|refine q7 ?_|refine q8 ?_|refine q9 ?_|refine q10 ?_|refine q11 ?_|refine q12 rfl ?_|refine q13 ?_|refine q14 ?_|refine q15 ?_|refine q16 rfl ?_|refine q17 rfl ?_)
      refine TO.step rfl (OT.arith (r' := ((k + 1 : Nat) : Int)) rfl rfl rfl rfl rfl rfl rfl (by omega) ?_)
      repeat (first|refine q1 ?_|refine q2 ?_|refine q3 ?_|refine q4 tab rfl rfl ?_|refine q5 ?_|refine q6 ?_|refine q7 ?_|refine q8 ?_|refine q9 ?_|refine q10 ?_|refine q11 ?_|refine q12 rfl ?_|refine q13 ?_|refine q14 ?_|refine q15 ?_|refine q16 rfl ?_|refine q17 rfl ?_)
      have e4 : deepL (a.kids.take (k + 1)) = a.kids[k].deep := by omega
      exact ⟨k + 1, by simp only [e4]; exact (by repeat (first | exact trivial | refine And.intro rfl ?_)), (by repeat (first | exact trivial | refine And.intro rfl ?_)), rfl, rfl, (by repeat (first | exact List.Sublist.refl _ | exact List.sublist_append_left _ _ | refine List.Sublist.cons_cons _ ?_ | refine List.Sublist.cons _ ?_)), by omega, by omega⟩
    · repeat (first|refine q1 ?_|refine q2 ?_|refine q3 ?_|refine q4 tab rfl rfl ?_|refine q5 ?_|refine q6 ?_|refine q7 ?_|refine q8 ?_|refine q9 ?_|refine q10 ?_|refine q11 ?_|refine q12 rfl ?_|refine q13 ?_|refine q14 ?_|refine q15 ?_|refine q16 rfl ?_|refine q17 rfl ?_)
      refine TO.step rfl (OT.arith (r' := ((k + 1 : Nat) : Int)) rfl rfl rfl rfl rfl rfl rfl (by omega) ?_)
      repeat (first|refine q1 ?_|refine q2 ?_|refine q3 ?_|refine q4 tab rfl rfl ?_|refine q5 ?_|refine q6 ?_|refine q7 ?_|refine q8 ?_|refine q9 ?_|refine q10 ?_|refine q11 ?_|refine q12 rfl ?_|refine q13 ?_|refine q14 ?_|refine q15 ?_|refine q16 rfl ?_|refine q17 rfl ?_)
      have e4 : deepL (a.kids.take (k + 1)) = deepL (a.kids.take k) := by omega
      exact ⟨k + 1, by simp only [e4]; exact (by repeat (first | exact trivial | refine And.intro rfl ?_)), (by repeat (first | exact trivial | refine And.intro rfl ?_)), rfl, rfl, (by repeat (first | exact List.Sublist.refl _ | exact List.sublist_append_left _ _ | refine List.Sublist.cons_cons _ ?_ | refine List.Sublist.cons _ ?_)), by omega, by omega⟩
  · have hd : deepL a.kids ≤ 1048576 := by
      have := deep_size a
      have := size_bulk a
      obtain ⟨_, _, _, ks⟩ := a
      simp only [Tree.deep, Tree.kids] at *
      omega
    repeat (first|refine q1 ?_|refine q2 ?_|refine q3 ?_|refine q4 tab rfl rfl ?_|refine q5 ?_|refine q6 ?_|refine q7 ?_|refine q8 ?_|refine q9 ?_|refine q10 ?_|refine q11 ?_|refine q12 rfl ?_|refine q13 ?_|refine q14 ?_|refine q15 ?_|refine q16 rfl ?_|refine q17 rfl ?_)
    rw [List.take_of_length_le (by omega)]
    refine TO.step rfl (OT.arith (r' := ((deepL a.kids + 1 : Nat) : Int)) rfl rfl rfl rfl rfl rfl (by omega) (by omega) ?_)
    repeat (first|refine q1 ?_|refine q2 ?_|refine q3 ?_|refine q4 tab rfl rfl ?_|refine q5 ?_|refine q6 ?_|refine q7 ?_|refine q8 ?_|refine q9 ?_|refine q10 ?_|refine q11 ?_|refine q12 rfl ?_|refine q13 ?_|refine q14 ?_|refine q15 ?_|refine q16 rfl ?_|refine q17 rfl ?_)
    refine retQ_ret rfl (by repeat (first | exact List.Sublist.refl _ | exact List.sublist_append_left _ _ | refine List.Sublist.cons_cons _ ?_ | refine List.Sublist.cons _ ?_)) ⟨rfl, rfl, ?_⟩
    obtain ⟨_, _, _, ks⟩ := a
    rfl

def withinB (a : Tree) (x y : Int) : Bool := decide ((a.size : Int) + x ≤ 20000) && decide ((a.deep : Int) + y ≤ 100)
set_option maxHeartbeats 800000 in
theorem within_ref (a : Tree) (m : Mem) (L : List Item) (h : HTree) (hr : TreeRep m h a) (hB : a.bulk ≤ 1048576) (x y : Int) (hx : 0 ≤ x ∧ x ≤ 100) (hy : 0 ≤ y ∧ y ≤ 100) :
    TCall Try.prog 73 ⟨[treeV h, .int .i64 x, .int .i64 y]⟩ m L (Ret (.bool (withinB a x y)) m L) := by
  have h5 := size_bulk a
  have h6 := deep_size a
  unfold TCall
  refine TCallX.enter Try.func73 rfl 24 rfl ?_
  repeat (first|refine q1 ?_|refine q2 ?_|refine q3 ?_|refine q4 tab rfl rfl ?_|refine q5 ?_|refine q6 ?_|refine q7 ?_|refine q8 ?_|refine q9 ?_|refine q10 ?_|refine q11 ?_|refine q12 rfl ?_|refine q13 ?_|refine q14 ?_|refine q15 ?_|refine q16 rfl ?_|refine q17 rfl ?_)
  refine TO.step rfl (OT.box rfl rfl rfl rfl rfl (fun b => ?_))
  repeat (first | (first|refine q1 ?_|refine q2 ?_|refine q3 ?_|refine q4 tab rfl rfl ?_|refine q5 ?_|refine q6 ?_|refine q7 ?_|refine q8 ?_|refine q9 ?_|refine q10 ?_|refine q11 ?_|refine q12 rfl ?_|refine q13 ?_|refine q14 ?_|refine q15 ?_|refine q16 rfl ?_|refine q17 rfl ?_) | (first | refine qs rfl (ql tab 0 rfl rfl rfl rfl rfl rfl ?_) | refine qs rfl (qz tab 0 rfl rfl rfl rfl rfl rfl ?_) | refine qs rfl (ql tab 1 rfl rfl rfl rfl rfl rfl ?_) | refine qs rfl (qz tab 1 rfl rfl rfl rfl rfl rfl ?_) | refine qs rfl (ql tab 2 rfl rfl rfl rfl rfl rfl ?_) | refine qs rfl (qz tab 2 rfl rfl rfl rfl rfl rfl ?_) | refine qs rfl (ql tab 3 rfl rfl rfl rfl rfl rfl ?_) | refine qs rfl (qz tab 3 rfl rfl rfl rfl rfl rfl ?_) | refine qs rfl (ql tab 4 rfl rfl rfl rfl rfl rfl ?_) | refine qs rfl (qz tab 4 rfl rfl rfl rfl rfl rfl ?_) | refine qs rfl (ql tab 5 rfl rfl rfl rfl rfl rfl ?_) | refine qs rfl (qz tab 5 rfl rfl rfl rfl rfl rfl ?_)))
  refine TO.step rfl (OT.call rfl rfl rfl rfl rfl rfl goes106 ((size_node a _ _ h hr hB).x ?_));
  rintro _ _ _ ⟨rfl, rfl, rfl⟩
  repeat (first|refine q1 ?_|refine q2 ?_|refine q3 ?_|refine q4 tab rfl rfl ?_|refine q5 ?_|refine q6 ?_|refine q7 ?_|refine q8 ?_|refine q9 ?_|refine q10 ?_|refine q11 ?_|refine q12 rfl ?_|refine q13 ?_|refine q14 ?_|refine q15 ?_|refine q16 rfl ?_|refine q17 rfl ?_)
  refine TO.step rfl (OT.arith (r' := (a.size : Int) + x) rfl rfl rfl rfl rfl rfl rfl (by omega) ?_)
  repeat (first|refine q1 ?_|refine q2 ?_|refine q3 ?_|refine q4 tab rfl rfl ?_|refine q5 ?_|refine q6 ?_|refine q7 ?_|refine q8 ?_|refine q9 ?_|refine q10 ?_|refine q11 ?_|refine q12 rfl ?_|refine q13 ?_|refine q14 ?_|refine q15 ?_|refine q16 rfl ?_|refine q17 rfl ?_)
  (first | refine TO.splitP rfl rfl (fun h7 => ?_) (fun h7 => ?_) | refine TO.splitN rfl rfl (fun h7 => ?_) (fun h7 => ?_) | refine TO.split rfl rfl (fun h7 => ?_) (fun h7 => ?_))
  · repeat (first|refine q1 ?_|refine q2 ?_|refine q3 ?_|refine q4 tab rfl rfl ?_|refine q5 ?_|refine q6 ?_|refine q7 ?_|refine q8 ?_|refine q9 ?_|refine q10 ?_|refine q11 ?_|refine q12 rfl ?_|refine q13 ?_|refine q14 ?_|refine q15 ?_|refine q16 rfl ?_|refine q17 rfl ?_)
    refine TO.step rfl (OT.arith (r' := (a.deep : Int) + y) rfl rfl rfl rfl rfl rfl rfl (by omega) ?_)
    repeat (first|refine q1 ?_|refine q2 ?_|refine q3 ?_|refine q4 tab rfl rfl ?_|refine q5 ?_|refine q6 ?_|refine q7 ?_|refine q8 ?_|refine q9 ?_|refine q10 ?_|refine q11 ?_|refine q12 rfl ?_|refine q13 ?_|refine q14 ?_|refine q15 ?_|refine q16 rfl ?_|refine q17 rfl ?_)
    refine retQ_ret rfl (by repeat (first | exact List.Sublist.refl _ | exact List.sublist_append_left _ _ | refine List.Sublist.cons_cons _ ?_ | refine List.Sublist.cons _ ?_)) ⟨rfl, rfl, ?_⟩
    rw [withinB, decide_eq_true h7]; rfl
  · repeat (first|refine q1 ?_|refine q2 ?_|refine q3 ?_|refine q4 tab rfl rfl ?_|refine q5 ?_|refine q6 ?_|refine q7 ?_|refine q8 ?_|refine q9 ?_|refine q10 ?_|refine q11 ?_|refine q12 rfl ?_|refine q13 ?_|refine q14 ?_|refine q15 ?_|refine q16 rfl ?_|refine q17 rfl ?_)
    refine retQ_ret rfl (by repeat (first | exact List.Sublist.refl _ | exact List.sublist_append_left _ _ | refine List.Sublist.cons_cons _ ?_ | refine List.Sublist.cons _ ?_)) ⟨rfl, rfl, ?_⟩
    rw [withinB, decide_eq_false h7]; rfl

theorem withinB_eq (a : Tree) (x y : Int) : withinB a x y = (decide ((a.size : Int) + x ≤ 20000) && decide ((a.deep : Int) + y ≤ 100)) := rfl
attribute [irreducible] withinB
def numB (k : Int) : Bool := decide (k = 7 ∨ k = 13 ∨ k = 22 ∨ k = 23 ∨ k = 40 ∨ k = 42 ∨ k = 50)

set_option maxHeartbeats 800000 in
theorem num_ref (m : Mem) (L : List Item) (k : Int) : TCall Try.prog 108 ⟨[.int .i64 k]⟩ m L (Ret (.bool (numB k)) m L) := by
  unfold TCall
  refine TCallX.enter Try.func108 rfl 12 rfl ?_
  by_cases h : k = 7 ∨ k = 13 ∨ k = 22 ∨ k = 23 ∨ k = 40 ∨ k = 42 ∨ k = 50
  · rw [numB, decide_eq_true h]
    rcases h with rfl | rfl | rfl | rfl | rfl | rfl | rfl
    all_goals
      repeat (first|refine q1 ?_|refine q2 ?_|refine q3 ?_|refine q4 tab rfl rfl ?_|refine q5 ?_|refine q6 ?_|refine q7 ?_|refine q8 ?_|refine q9 ?_|refine q10 ?_|refine q11 ?_|refine q12 rfl ?_|refine q13 ?_|refine q14 ?_|refine q15 ?_|refine q16 rfl ?_|refine q17 rfl ?_)
      refine retQ_ret rfl (by repeat (first | exact List.Sublist.refl _ | exact List.sublist_append_left _ _ | refine List.Sublist.cons_cons _ ?_ | refine List.Sublist.cons _ ?_)) ⟨rfl, rfl, ?_⟩
      rfl
  · rw [numB, decide_eq_false h]
    repeat (first|refine q1 ?_|refine q2 ?_|refine q3 ?_|refine q4 tab rfl rfl ?_|refine q5 ?_|refine q6 ?_|refine q7 ?_|refine q8 ?_|refine q9 ?_|refine q10 ?_|refine q11 ?_|refine q12 rfl ?_|refine q13 ?_|refine q14 ?_|refine q15 ?_|refine q16 rfl ?_|refine q17 rfl ?_)
    refine TC.condP rfl (fun h1 => ?_) (fun h1 => ?_)
    · omega
    repeat (first|refine q1 ?_|refine q2 ?_|refine q3 ?_|refine q4 tab rfl rfl ?_|refine q5 ?_|refine q6 ?_|refine q7 ?_|refine q8 ?_|refine q9 ?_|refine q10 ?_|refine q11 ?_|refine q12 rfl ?_|refine q13 ?_|refine q14 ?_|refine q15 ?_|refine q16 rfl ?_|refine q17 rfl ?_)
    refine TC.condP rfl (fun h1 => ?_) (fun h1 => ?_)
    · omega
    repeat (first|refine q1 ?_|refine q2 ?_|refine q3 ?_|refine q4 tab rfl rfl ?_|refine q5 ?_|refine q6 ?_|refine q7 ?_|refine q8 ?_|refine q9 ?_|refine q10 ?_|refine q11 ?_|refine q12 rfl ?_|refine q13 ?_|refine q14 ?_|refine q15 ?_|refine q16 rfl ?_|refine q17 rfl ?_)
    refine TC.condP rfl (fun h1 => ?_) (fun h1 => ?_)
    · omega
    repeat (first|refine q1 ?_|refine q2 ?_|refine q3 ?_|refine q4 tab rfl rfl ?_|refine q5 ?_|refine q6 ?_|refine q7 ?_|refine q8 ?_|refine q9 ?_|refine q10 ?_|refine q11 ?_|refine q12 rfl ?_|refine q13 ?_|refine q14 ?_|refine q15 ?_|refine q16 rfl ?_|refine q17 rfl ?_)
    refine TC.condP rfl (fun h1 => ?_) (fun h1 => ?_)
    · omega
    repeat (first|refine q1 ?_|refine q2 ?_|refine q3 ?_|refine q4 tab rfl rfl ?_|refine q5 ?_|refine q6 ?_|refine q7 ?_|refine q8 ?_|refine q9 ?_|refine q10 ?_|refine q11 ?_|refine q12 rfl ?_|refine q13 ?_|refine q14 ?_|refine q15 ?_|refine q16 rfl ?_|refine q17 rfl ?_)
    refine TC.condP rfl (fun h1 => ?_) (fun h1 => ?_)
    · omega
    repeat (first|refine q1 ?_|refine q2 ?_|refine q3 ?_|refine q4 tab rfl rfl ?_|refine q5 ?_|refine q6 ?_|refine q7 ?_|refine q8 ?_|refine q9 ?_|refine q10 ?_|refine q11 ?_|refine q12 rfl ?_|refine q13 ?_|refine q14 ?_|refine q15 ?_|refine q16 rfl ?_|refine q17 rfl ?_)
    refine TC.condP rfl (fun h1 => ?_) (fun h1 => ?_)
    · omega
    repeat (first|refine q1 ?_|refine q2 ?_|refine q3 ?_|refine q4 tab rfl rfl ?_|refine q5 ?_|refine q6 ?_|refine q7 ?_|refine q8 ?_|refine q9 ?_|refine q10 ?_|refine q11 ?_|refine q12 rfl ?_|refine q13 ?_|refine q14 ?_|refine q15 ?_|refine q16 rfl ?_|refine q17 rfl ?_)
    refine TC.condP rfl (fun h1 => ?_) (fun h1 => ?_)
    · omega
    repeat (first|refine q1 ?_|refine q2 ?_|refine q3 ?_|refine q4 tab rfl rfl ?_|refine q5 ?_|refine q6 ?_|refine q7 ?_|refine q8 ?_|refine q9 ?_|refine q10 ?_|refine q11 ?_|refine q12 rfl ?_|refine q13 ?_|refine q14 ?_|refine q15 ?_|refine q16 rfl ?_|refine q17 rfl ?_)
    refine retQ_ret rfl (by repeat (first | exact List.Sublist.refl _ | exact List.sublist_append_left _ _ | refine List.Sublist.cons_cons _ ?_ | refine List.Sublist.cons _ ?_)) ⟨rfl, rfl, ?_⟩
    rfl

set_option maxHeartbeats 800000 in
theorem repeat_ref (m : Mem) (L : List Item) (c n : Int) : TCall Try.prog 118 ⟨[.int .i64 c, .int .i64 n]⟩ m L
    (Made m L fun r m' => ∃ s : Sl, r = s.v ∧ SlRep rInt m' s (List.replicate (min n.toNat 20001) c)) := by
  unfold TCall
  refine TCallX.enter Try.func118 rfl 22 rfl ?_
  repeat (first|refine q1 ?_|refine q3 ?_|refine q4 tab rfl rfl ?_|refine q5 ?_|refine q6 ?_|refine q7 ?_|refine q8 ?_|refine q9 ?_|refine q10 ?_|refine q11 ?_|refine q12 rfl ?_|refine q13 ?_|refine q14 ?_|refine q15 ?_|refine q16 rfl ?_|refine q17 rfl ?_)
  refine TO.step rfl (OT.lit tab rfl rfl rfl rfl (fun b => ?_))
  refine TO.growL b 1 ?_
  repeat (first|refine q1 ?_|refine q2 ?_|refine q3 ?_|refine q4 tab rfl rfl ?_|refine q5 ?_|refine q6 ?_|refine q7 ?_|refine q8 ?_|refine q9 ?_|refine q10 ?_|refine q11 ?_|refine q12 rfl ?_|refine q13 ?_|refine q14 ?_|refine q15 ?_|refine q16 rfl ?_|refine q17 rfl ?_)
  refine TC.loopK (ι := Grow) [0, 1] rfl (fun g => [(5, g.s.v), (6, .int .i64 (g.k : Int))]) (fun g => g.m) (fun g => tok g.s 1 :: L) (fun g => g.k ≤ min n.toNat 20001 ∧ SlRep rInt g.m g.s (List.replicate g.k c) ∧ Own g.s ∧ m ≤ g.m) (fun g => 20001 - g.k) ⟨0, ⟨some ⟨b, 0, none⟩, 0, 0⟩, m⟩ (by repeat (first | exact trivial | refine And.intro rfl ?_)) rfl (by repeat (first | exact List.Sublist.refl _ | exact List.sublist_append_left _ _ | refine List.Sublist.cons_cons _ ?_ | refine List.Sublist.cons _ ?_)) ⟨Nat.zero_le _, SlRep.lit0 _ _ _, Own.lit _ _ _, Mem.le_refl _⟩ ?_
  rintro ⟨k, s, m1⟩ ⟨hk, hs, hown, hm1⟩
  simp only at hk hs hown hm1
  repeat (first|refine q1 ?_|refine q2 ?_|refine q3 ?_|refine q4 tab rfl rfl ?_|refine q5 ?_|refine q6 ?_|refine q7 ?_|refine q8 ?_|refine q9 ?_|refine q10 ?_|refine q11 ?_|refine q12 rfl ?_|refine q13 ?_|refine q14 ?_|refine q15 ?_|refine q16 rfl ?_|refine q17 rfl ?_)
  (first | refine TO.splitP rfl rfl (fun h => ?_) (fun h => ?_) | refine TO.splitN rfl rfl (fun h => ?_) (fun h => ?_) | refine TO.split rfl rfl (fun h => ?_) (fun h => ?_))
  · repeat (first|refine q1 ?_|refine q2 ?_|refine q3 ?_|refine q4 tab rfl rfl ?_|refine q5 ?_|refine q6 ?_|refine q7 ?_|refine q8 ?_|refine q9 ?_|refine q10 ?_|refine q11 ?_|refine q12 rfl ?_|refine q13 ?_|refine q14 ?_|refine q15 ?_)
    refine TC.condP rfl (fun h2 => ?_) (fun h2 => ?_)
    · simp only at h h2
      repeat (first|refine q1 ?_|refine q2 ?_|refine q3 ?_|refine q4 tab rfl rfl ?_|refine q5 ?_|refine q6 ?_|refine q7 ?_|refine q8 ?_|refine q9 ?_|refine q10 ?_|refine q11 ?_|refine q12 rfl ?_|refine q13 ?_|refine q14 ?_|refine q15 ?_|refine q16 rfl ?_|refine q17 rfl ?_)
      refine TO.step rfl (OT.lit tab rfl rfl rfl rfl (fun b2 => ?_))
      refine TO.step rfl (OT.append1 tab rInt 0 (hd' := c) (a := c) hs hown rfl rfl rfl rfl rfl rfl rfl rfl (by simp only [rInt, List.length_replicate]; omega) (fun s2 m2 hm2 hs2 hown2 => ?_))
      repeat (first|refine q1 ?_|refine q2 ?_|refine q3 ?_|refine q4 tab rfl rfl ?_|refine q5 ?_|refine q6 ?_|refine q7 ?_|refine q8 ?_|refine q9 ?_|refine q10 ?_|refine q11 ?_|refine q12 rfl ?_|refine q13 ?_|refine q14 ?_|refine q15 ?_|refine q16 rfl ?_|refine q17 rfl ?_)
      refine TO.step rfl (OT.arith (r' := ((k + 1 : Nat) : Int)) rfl rfl rfl rfl rfl rfl rfl (by omega) ?_)
      repeat (first|refine q1 ?_|refine q2 ?_|refine q3 ?_|refine q4 tab rfl rfl ?_|refine q5 ?_|refine q6 ?_|refine q7 ?_|refine q8 ?_|refine q9 ?_|refine q10 ?_|refine q11 ?_|refine q12 rfl ?_|refine q13 ?_|refine q14 ?_|refine q15 ?_|refine q16 rfl ?_|refine q17 rfl ?_)
      refine ⟨⟨k + 1, s2, m2⟩, (by repeat (first | exact trivial | refine And.intro rfl ?_)), (by repeat (first | exact trivial | refine And.intro rfl ?_)), rfl, rfl, (by repeat (first | exact List.Sublist.refl _ | exact List.sublist_append_left _ _ | refine List.Sublist.cons_cons _ ?_ | refine List.Sublist.cons _ ?_)), ⟨by simp only; omega, ?_, hown2, Mem.le_trans hm1 hm2⟩, by simp only; omega⟩
      rw [List.replicate_succ']; exact hs2
    · simp only at h h2
      repeat (first|refine q1 ?_|refine q2 ?_|refine q3 ?_|refine q4 tab rfl rfl ?_|refine q5 ?_|refine q6 ?_|refine q7 ?_|refine q8 ?_|refine q9 ?_|refine q10 ?_|refine q11 ?_|refine q12 rfl ?_|refine q13 ?_|refine q14 ?_|refine q15 ?_)
      refine retQ_ret rfl (by repeat (first | exact List.Sublist.refl _ | exact List.sublist_append_left _ _ | refine List.Sublist.cons_cons _ ?_ | refine List.Sublist.cons _ ?_)) ⟨hm1, rfl, s, rfl, ?_⟩
      rw [show min n.toNat 20001 = k by omega]; exact hs
  · simp only at h
    repeat (first|refine q1 ?_|refine q2 ?_|refine q3 ?_|refine q4 tab rfl rfl ?_|refine q5 ?_|refine q6 ?_|refine q7 ?_|refine q8 ?_|refine q9 ?_|refine q10 ?_|refine q11 ?_|refine q12 rfl ?_|refine q13 ?_|refine q14 ?_|refine q15 ?_|refine q16 rfl ?_|refine q17 rfl ?_)
    refine retQ_ret rfl (by repeat (first | exact List.Sublist.refl _ | exact List.sublist_append_left _ _ | refine List.Sublist.cons_cons _ ?_ | refine List.Sublist.cons _ ?_)) ⟨hm1, rfl, s, rfl, ?_⟩
    rw [show min n.toNat 20001 = k by omega]; exact hs

/-- what the tables of shapes say: the sorts of the first kids, that of the rest, the text's kind, is it one -/
structure Shape where
  ks : List Int
  rest : Int
  text : Int
  ok : Bool
def shapeP (a : Tree) : Shape := ⟨[2], 0, 1, decide (a.kind = 8)⟩
def shapeS (a : Tree) : Shape := ⟨List.replicate (min a.num.toNat 20001) 4, 2, 0, decide (a.kind = 7) && (decide (0 ≤ a.num) && decide (a.num ≤ (a.kids.length : Int)))⟩
def shapeT (a : Tree) : Shape :=
  if a.kind = 10 then ⟨[], 0, 1, true⟩ else if a.kind = 11 ∨ a.kind = 12 then ⟨[2], 0, 0, true⟩
  else if a.kind = 13 then ⟨[], 2, 0, decide (0 ≤ a.num) && decide (a.num ≤ (a.kids.length : Int))⟩ else ⟨[], 0, 0, false⟩
def shapeOf (k : Int) : Tree → Shape := if k = 2 then shapeT else if k = 3 then shapeS else shapeP
def ShapeIs (m : Mem) (L : List Item) (x : Shape) : Value → Mem → List Item → Prop := Made m L fun r m' => ∃ s : Sl, r = .tuple ⟨[s.v, .int .i64 x.rest, .int .i64 x.text, .bool x.ok]⟩ ∧ SlRep rInt m' s x.ks

theorem ints1 {m : Mem} {b : Nat} {x : Int} (h : At m b 0 [.int .i64 x]) : SlRep rInt m ⟨some ⟨b, 0, none⟩, 1, 1⟩ [x] := SlRep.one (r := rInt) (h := x) h rfl (by decide)

set_option maxHeartbeats 1600000 in
theorem shape_param (a : Tree) (m : Mem) (L : List Item) (h : HTree) (hr : TreeRep m h a) : TCall Try.prog 107 ⟨[treeV h, .int .i64 4]⟩ m L (ShapeIs m L (shapeP a)) := by
  obtain ⟨h1, h2, h3, h4⟩ := hr
  unfold TCall
  refine TCallX.enter Try.func107 rfl 236 rfl ?_
  repeat (first|refine q1 ?_|refine q2 ?_|refine q3 ?_|refine q4 tab rfl rfl ?_|refine q5 ?_|refine q6 ?_|refine q7 ?_|refine q8 ?_|refine q9 ?_|refine q10 ?_|refine q11 ?_|refine q12 rfl ?_|refine q13 ?_|refine q14 ?_|refine q15 ?_|refine q16 rfl ?_|refine q17 rfl ?_)
  refine TO.step rfl (OT.box rfl rfl rfl rfl rfl (fun b => ?_))
  repeat (first|refine q1 ?_|refine q2 ?_|refine q3 ?_|refine q4 tab rfl rfl ?_|refine q5 ?_|refine q6 ?_|refine q7 ?_|refine q8 ?_|refine q9 ?_|refine q10 ?_|refine q11 ?_|refine q12 rfl ?_|refine q13 ?_|refine q14 ?_|refine q15 ?_|refine q16 rfl ?_|refine q17 rfl ?_)
  refine TC.draw0 [] mixed 8 rfl ?_
  refine DO.pure tab (by repeat (first | exact Calm.ret | refine Calm.then ?_ | refine Calm.block ?_ | assumption)) (by kernel_rfl) [1] (by kernel_rfl) rfl ?_
  (first | refine DO.loadL tab 2 0 (by repeat (first | exact Calm.ret | refine Calm.then ?_ | refine Calm.block ?_ | assumption)) (by kernel_rfl) (by kernel_rfl) rfl rfl rfl rfl rfl rfl rfl rfl ?_ | refine DO.loadL tab 2 1 (by repeat (first | exact Calm.ret | refine Calm.then ?_ | refine Calm.block ?_ | assumption)) (by kernel_rfl) (by kernel_rfl) rfl rfl rfl rfl rfl rfl rfl rfl ?_ | refine DO.loadL tab 2 2 (by repeat (first | exact Calm.ret | refine Calm.then ?_ | refine Calm.block ?_ | assumption)) (by kernel_rfl) (by kernel_rfl) rfl rfl rfl rfl rfl rfl rfl rfl ?_ | refine DO.loadL tab 2 3 (by repeat (first | exact Calm.ret | refine Calm.then ?_ | refine Calm.block ?_ | assumption)) (by kernel_rfl) (by kernel_rfl) rfl rfl rfl rfl rfl rfl rfl rfl ?_ | refine DO.loadL tab 2 4 (by repeat (first | exact Calm.ret | refine Calm.then ?_ | refine Calm.block ?_ | assumption)) (by kernel_rfl) (by kernel_rfl) rfl rfl rfl rfl rfl rfl rfl rfl ?_ | refine DO.loadL tab 2 5 (by repeat (first | exact Calm.ret | refine Calm.then ?_ | refine Calm.block ?_ | assumption)) (by kernel_rfl) (by kernel_rfl) rfl rfl rfl rfl rfl rfl rfl rfl ?_ | refine DO.loadL (k := 0) tab 2 0 (by repeat (first | exact Calm.ret | refine Calm.then ?_ | refine Calm.block ?_ | assumption)) (by kernel_rfl) (by kernel_rfl) rfl rfl rfl rfl rfl rfl rfl rfl ?_ | refine DO.loadL (k := 0) tab 2 1 (by repeat (first | exact Calm.ret | refine Calm.then ?_ | refine Calm.block ?_ | assumption)) (by kernel_rfl) (by kernel_rfl) rfl rfl rfl rfl rfl rfl rfl rfl ?_ | refine DO.loadL (k := 0) tab 2 2 (by repeat (first | exact Calm.ret | refine Calm.then ?_ | refine Calm.block ?_ | assumption)) (by kernel_rfl) (by kernel_rfl) rfl rfl rfl rfl rfl rfl rfl rfl ?_ | refine DO.loadL (k := 0) tab 2 3 (by repeat (first | exact Calm.ret | refine Calm.then ?_ | refine Calm.block ?_ | assumption)) (by kernel_rfl) (by kernel_rfl) rfl rfl rfl rfl rfl rfl rfl rfl ?_ | refine DO.loadL (k := 0) tab 2 4 (by repeat (first | exact Calm.ret | refine Calm.then ?_ | refine Calm.block ?_ | assumption)) (by kernel_rfl) (by kernel_rfl) rfl rfl rfl rfl rfl rfl rfl rfl ?_ | refine DO.loadL (k := 0) tab 2 5 (by repeat (first | exact Calm.ret | refine Calm.then ?_ | refine Calm.block ?_ | assumption)) (by kernel_rfl) (by kernel_rfl) rfl rfl rfl rfl rfl rfl rfl rfl ?_)
  refine DO.pure tab (by repeat (first | exact Calm.ret | refine Calm.then ?_ | refine Calm.block ?_ | assumption)) (by kernel_rfl) [3] (by kernel_rfl) rfl ?_
  refine DO.run 0 rfl rfl (by kernel_rfl) rfl ?_
  refine OT.lit tab rfl rfl rfl rfl (fun b2 => ?_); refine ⟨Mem.le_refl _, [_], perm_mid, ?_⟩
  refine DO.pure tab (by repeat (first | exact Calm.ret | refine Calm.then ?_ | refine Calm.block ?_ | assumption)) (by kernel_rfl) [4, 5, 6, 7] (by kernel_rfl) rfl ?_
  (first | refine DO.nil0 (by kernel_rfl) ?_ | refine DO.nil (by kernel_rfl) ?_)
  rotate_left 1
  · refine thenQ_n (TC.perm perm_first (TC.freeze fun m1 hm1 hA1 => ?_))
    repeat (first|refine q1 ?_|refine q2 ?_|refine q3 ?_|refine q4 tab rfl rfl ?_|refine q5 ?_|refine q6 ?_|refine q7 ?_|refine q8 ?_|refine q9 ?_|refine q10 ?_|refine q11 ?_|refine q12 rfl ?_|refine q13 ?_|refine q14 ?_|refine q15 ?_|refine q16 rfl ?_|refine q17 rfl ?_)
    exact retQ_ret rfl (by repeat (first | exact List.Sublist.refl _ | exact List.sublist_append_left _ _ | refine List.Sublist.cons_cons _ ?_ | refine List.Sublist.cons _ ?_)) ⟨hm1, rfl, ⟨some ⟨b2, 0, none⟩, 1, 1⟩, by rw [shapeP, ← h1], ints1 hA1⟩

set_option maxHeartbeats 1600000 in
theorem shape_sig (a : Tree) (m : Mem) (L : List Item) (h : HTree) (hr : TreeRep m h a) : TCall Try.prog 107 ⟨[treeV h, .int .i64 3]⟩ m L (ShapeIs m L (shapeS a)) := by
  obtain ⟨h1, h2, h3, h4⟩ := hr
  have hl := h4.len
  unfold TCall
  refine TCallX.enter Try.func107 rfl 236 rfl ?_
  repeat (first|refine q1 ?_|refine q2 ?_|refine q3 ?_|refine q4 tab rfl rfl ?_|refine q5 ?_|refine q6 ?_|refine q7 ?_|refine q8 ?_|refine q9 ?_|refine q10 ?_|refine q11 ?_|refine q12 rfl ?_|refine q13 ?_|refine q14 ?_|refine q15 ?_|refine q16 rfl ?_|refine q17 rfl ?_)
  refine TO.step rfl (OT.box rfl rfl rfl rfl rfl (fun b => ?_))
  repeat (first|refine q1 ?_|refine q2 ?_|refine q3 ?_|refine q4 tab rfl rfl ?_|refine q5 ?_|refine q6 ?_|refine q7 ?_|refine q8 ?_|refine q9 ?_|refine q10 ?_|refine q11 ?_|refine q12 rfl ?_|refine q13 ?_|refine q14 ?_|refine q15 ?_|refine q16 rfl ?_|refine q17 rfl ?_)
  refine TC.draw0 [] mixed 23 rfl ?_
  refine DO.pure tab (by repeat (first | exact Calm.ret | refine Calm.then ?_ | refine Calm.block ?_ | assumption)) (by kernel_rfl) [0] (by kernel_rfl) rfl ?_
  (first | refine DO.loadL tab 1 0 (by repeat (first | exact Calm.ret | refine Calm.then ?_ | refine Calm.block ?_ | assumption)) (by kernel_rfl) (by kernel_rfl) rfl rfl rfl rfl rfl rfl rfl rfl ?_ | refine DO.loadL tab 1 1 (by repeat (first | exact Calm.ret | refine Calm.then ?_ | refine Calm.block ?_ | assumption)) (by kernel_rfl) (by kernel_rfl) rfl rfl rfl rfl rfl rfl rfl rfl ?_ | refine DO.loadL tab 1 2 (by repeat (first | exact Calm.ret | refine Calm.then ?_ | refine Calm.block ?_ | assumption)) (by kernel_rfl) (by kernel_rfl) rfl rfl rfl rfl rfl rfl rfl rfl ?_ | refine DO.loadL tab 1 3 (by repeat (first | exact Calm.ret | refine Calm.then ?_ | refine Calm.block ?_ | assumption)) (by kernel_rfl) (by kernel_rfl) rfl rfl rfl rfl rfl rfl rfl rfl ?_ | refine DO.loadL tab 1 4 (by repeat (first | exact Calm.ret | refine Calm.then ?_ | refine Calm.block ?_ | assumption)) (by kernel_rfl) (by kernel_rfl) rfl rfl rfl rfl rfl rfl rfl rfl ?_ | refine DO.loadL tab 1 5 (by repeat (first | exact Calm.ret | refine Calm.then ?_ | refine Calm.block ?_ | assumption)) (by kernel_rfl) (by kernel_rfl) rfl rfl rfl rfl rfl rfl rfl rfl ?_ | refine DO.loadL (k := 0) tab 1 0 (by repeat (first | exact Calm.ret | refine Calm.then ?_ | refine Calm.block ?_ | assumption)) (by kernel_rfl) (by kernel_rfl) rfl rfl rfl rfl rfl rfl rfl rfl ?_ | refine DO.loadL (k := 0) tab 1 1 (by repeat (first | exact Calm.ret | refine Calm.then ?_ | refine Calm.block ?_ | assumption)) (by kernel_rfl) (by kernel_rfl) rfl rfl rfl rfl rfl rfl rfl rfl ?_ | refine DO.loadL (k := 0) tab 1 2 (by repeat (first | exact Calm.ret | refine Calm.then ?_ | refine Calm.block ?_ | assumption)) (by kernel_rfl) (by kernel_rfl) rfl rfl rfl rfl rfl rfl rfl rfl ?_ | refine DO.loadL (k := 0) tab 1 3 (by repeat (first | exact Calm.ret | refine Calm.then ?_ | refine Calm.block ?_ | assumption)) (by kernel_rfl) (by kernel_rfl) rfl rfl rfl rfl rfl rfl rfl rfl ?_ | refine DO.loadL (k := 0) tab 1 4 (by repeat (first | exact Calm.ret | refine Calm.then ?_ | refine Calm.block ?_ | assumption)) (by kernel_rfl) (by kernel_rfl) rfl rfl rfl rfl rfl rfl rfl rfl ?_ | refine DO.loadL (k := 0) tab 1 5 (by repeat (first | exact Calm.ret | refine Calm.then ?_ | refine Calm.block ?_ | assumption)) (by kernel_rfl) (by kernel_rfl) rfl rfl rfl rfl rfl rfl rfl rfl ?_)
  refine DO.pure tab (by repeat (first | exact Calm.ret | refine Calm.then ?_ | refine Calm.block ?_ | assumption)) (by kernel_rfl) [3] (by kernel_rfl) rfl ?_
  (first | refine DO.loadL tab 4 0 (by repeat (first | exact Calm.ret | refine Calm.then ?_ | refine Calm.block ?_ | assumption)) (by kernel_rfl) (by kernel_rfl) rfl rfl rfl rfl rfl rfl rfl rfl ?_ | refine DO.loadL tab 4 1 (by repeat (first | exact Calm.ret | refine Calm.then ?_ | refine Calm.block ?_ | assumption)) (by kernel_rfl) (by kernel_rfl) rfl rfl rfl rfl rfl rfl rfl rfl ?_ | refine DO.loadL tab 4 2 (by repeat (first | exact Calm.ret | refine Calm.then ?_ | refine Calm.block ?_ | assumption)) (by kernel_rfl) (by kernel_rfl) rfl rfl rfl rfl rfl rfl rfl rfl ?_ | refine DO.loadL tab 4 3 (by repeat (first | exact Calm.ret | refine Calm.then ?_ | refine Calm.block ?_ | assumption)) (by kernel_rfl) (by kernel_rfl) rfl rfl rfl rfl rfl rfl rfl rfl ?_ | refine DO.loadL tab 4 4 (by repeat (first | exact Calm.ret | refine Calm.then ?_ | refine Calm.block ?_ | assumption)) (by kernel_rfl) (by kernel_rfl) rfl rfl rfl rfl rfl rfl rfl rfl ?_ | refine DO.loadL tab 4 5 (by repeat (first | exact Calm.ret | refine Calm.then ?_ | refine Calm.block ?_ | assumption)) (by kernel_rfl) (by kernel_rfl) rfl rfl rfl rfl rfl rfl rfl rfl ?_ | refine DO.loadL (k := 0) tab 4 0 (by repeat (first | exact Calm.ret | refine Calm.then ?_ | refine Calm.block ?_ | assumption)) (by kernel_rfl) (by kernel_rfl) rfl rfl rfl rfl rfl rfl rfl rfl ?_ | refine DO.loadL (k := 0) tab 4 1 (by repeat (first | exact Calm.ret | refine Calm.then ?_ | refine Calm.block ?_ | assumption)) (by kernel_rfl) (by kernel_rfl) rfl rfl rfl rfl rfl rfl rfl rfl ?_ | refine DO.loadL (k := 0) tab 4 2 (by repeat (first | exact Calm.ret | refine Calm.then ?_ | refine Calm.block ?_ | assumption)) (by kernel_rfl) (by kernel_rfl) rfl rfl rfl rfl rfl rfl rfl rfl ?_ | refine DO.loadL (k := 0) tab 4 3 (by repeat (first | exact Calm.ret | refine Calm.then ?_ | refine Calm.block ?_ | assumption)) (by kernel_rfl) (by kernel_rfl) rfl rfl rfl rfl rfl rfl rfl rfl ?_ | refine DO.loadL (k := 0) tab 4 4 (by repeat (first | exact Calm.ret | refine Calm.then ?_ | refine Calm.block ?_ | assumption)) (by kernel_rfl) (by kernel_rfl) rfl rfl rfl rfl rfl rfl rfl rfl ?_ | refine DO.loadL (k := 0) tab 4 5 (by repeat (first | exact Calm.ret | refine Calm.then ?_ | refine Calm.block ?_ | assumption)) (by kernel_rfl) (by kernel_rfl) rfl rfl rfl rfl rfl rfl rfl rfl ?_)
  refine DO.pure tab (by repeat (first | exact Calm.ret | refine Calm.then ?_ | refine Calm.block ?_ | assumption)) (by kernel_rfl) [5] (by kernel_rfl) rfl ?_
  refine DO.run 2 rfl rfl (by kernel_rfl) rfl (OT.call rfl rfl rfl rfl rfl rfl goes118 ((repeat_ref _ _ 4 h.num).x ?_))
  rintro _ m1 _ ⟨hm1, rfl, s, rfl, hs⟩; refine ⟨hm1, _, List.Perm.refl _, ?_⟩
  refine DO.pure tab (by repeat (first | exact Calm.ret | refine Calm.then ?_ | refine Calm.block ?_ | assumption)) (by kernel_rfl) [6] (by kernel_rfl) rfl ?_
  (first | refine DO.splitP (d := 170) rfl (fun hg6 => ?_) (fun hg6 => ?_) | refine DO.splitN (d := 170) rfl (fun hg6 => ?_) (fun hg6 => ?_) | refine DO.split (d := 170) rfl (fun hg6 => ?_) (fun hg6 => ?_))
  refine DO.pure tab (by repeat (first | exact Calm.ret | refine Calm.then ?_ | refine Calm.block ?_ | assumption)) (by kernel_rfl) [7] (by kernel_rfl) rfl ?_
  (first | refine DO.loadL tab 8 0 (by repeat (first | exact Calm.ret | refine Calm.then ?_ | refine Calm.block ?_ | assumption)) (by kernel_rfl) (by kernel_rfl) rfl rfl rfl rfl rfl rfl rfl rfl ?_ | refine DO.loadL tab 8 1 (by repeat (first | exact Calm.ret | refine Calm.then ?_ | refine Calm.block ?_ | assumption)) (by kernel_rfl) (by kernel_rfl) rfl rfl rfl rfl rfl rfl rfl rfl ?_ | refine DO.loadL tab 8 2 (by repeat (first | exact Calm.ret | refine Calm.then ?_ | refine Calm.block ?_ | assumption)) (by kernel_rfl) (by kernel_rfl) rfl rfl rfl rfl rfl rfl rfl rfl ?_ | refine DO.loadL tab 8 3 (by repeat (first | exact Calm.ret | refine Calm.then ?_ | refine Calm.block ?_ | assumption)) (by kernel_rfl) (by kernel_rfl) rfl rfl rfl rfl rfl rfl rfl rfl ?_ | refine DO.loadL tab 8 4 (by repeat (first | exact Calm.ret | refine Calm.then ?_ | refine Calm.block ?_ | assumption)) (by kernel_rfl) (by kernel_rfl) rfl rfl rfl rfl rfl rfl rfl rfl ?_ | refine DO.loadL tab 8 5 (by repeat (first | exact Calm.ret | refine Calm.then ?_ | refine Calm.block ?_ | assumption)) (by kernel_rfl) (by kernel_rfl) rfl rfl rfl rfl rfl rfl rfl rfl ?_ | refine DO.loadL (k := 0) tab 8 0 (by repeat (first | exact Calm.ret | refine Calm.then ?_ | refine Calm.block ?_ | assumption)) (by kernel_rfl) (by kernel_rfl) rfl rfl rfl rfl rfl rfl rfl rfl ?_ | refine DO.loadL (k := 0) tab 8 1 (by repeat (first | exact Calm.ret | refine Calm.then ?_ | refine Calm.block ?_ | assumption)) (by kernel_rfl) (by kernel_rfl) rfl rfl rfl rfl rfl rfl rfl rfl ?_ | refine DO.loadL (k := 0) tab 8 2 (by repeat (first | exact Calm.ret | refine Calm.then ?_ | refine Calm.block ?_ | assumption)) (by kernel_rfl) (by kernel_rfl) rfl rfl rfl rfl rfl rfl rfl rfl ?_ | refine DO.loadL (k := 0) tab 8 3 (by repeat (first | exact Calm.ret | refine Calm.then ?_ | refine Calm.block ?_ | assumption)) (by kernel_rfl) (by kernel_rfl) rfl rfl rfl rfl rfl rfl rfl rfl ?_ | refine DO.loadL (k := 0) tab 8 4 (by repeat (first | exact Calm.ret | refine Calm.then ?_ | refine Calm.block ?_ | assumption)) (by kernel_rfl) (by kernel_rfl) rfl rfl rfl rfl rfl rfl rfl rfl ?_ | refine DO.loadL (k := 0) tab 8 5 (by repeat (first | exact Calm.ret | refine Calm.then ?_ | refine Calm.block ?_ | assumption)) (by kernel_rfl) (by kernel_rfl) rfl rfl rfl rfl rfl rfl rfl rfl ?_)
  refine DO.pure tab (by repeat (first | exact Calm.ret | refine Calm.then ?_ | refine Calm.block ?_ | assumption)) (by kernel_rfl) [9, 10, 11] (by kernel_rfl) rfl ?_
  (first | refine DO.splitP (d := 175) rfl (fun hg11 => ?_) (fun hg11 => ?_) | refine DO.splitN (d := 175) rfl (fun hg11 => ?_) (fun hg11 => ?_) | refine DO.split (d := 175) rfl (fun hg11 => ?_) (fun hg11 => ?_))
  refine DO.pure tab (by repeat (first | exact Calm.ret | refine Calm.then ?_ | refine Calm.block ?_ | assumption)) (by kernel_rfl) [12] (by kernel_rfl) rfl ?_
  (first | refine DO.loadL tab 13 0 (by repeat (first | exact Calm.ret | refine Calm.then ?_ | refine Calm.block ?_ | assumption)) (by kernel_rfl) (by kernel_rfl) rfl rfl rfl rfl rfl rfl rfl rfl ?_ | refine DO.loadL tab 13 1 (by repeat (first | exact Calm.ret | refine Calm.then ?_ | refine Calm.block ?_ | assumption)) (by kernel_rfl) (by kernel_rfl) rfl rfl rfl rfl rfl rfl rfl rfl ?_ | refine DO.loadL tab 13 2 (by repeat (first | exact Calm.ret | refine Calm.then ?_ | refine Calm.block ?_ | assumption)) (by kernel_rfl) (by kernel_rfl) rfl rfl rfl rfl rfl rfl rfl rfl ?_ | refine DO.loadL tab 13 3 (by repeat (first | exact Calm.ret | refine Calm.then ?_ | refine Calm.block ?_ | assumption)) (by kernel_rfl) (by kernel_rfl) rfl rfl rfl rfl rfl rfl rfl rfl ?_ | refine DO.loadL tab 13 4 (by repeat (first | exact Calm.ret | refine Calm.then ?_ | refine Calm.block ?_ | assumption)) (by kernel_rfl) (by kernel_rfl) rfl rfl rfl rfl rfl rfl rfl rfl ?_ | refine DO.loadL tab 13 5 (by repeat (first | exact Calm.ret | refine Calm.then ?_ | refine Calm.block ?_ | assumption)) (by kernel_rfl) (by kernel_rfl) rfl rfl rfl rfl rfl rfl rfl rfl ?_ | refine DO.loadL (k := 0) tab 13 0 (by repeat (first | exact Calm.ret | refine Calm.then ?_ | refine Calm.block ?_ | assumption)) (by kernel_rfl) (by kernel_rfl) rfl rfl rfl rfl rfl rfl rfl rfl ?_ | refine DO.loadL (k := 0) tab 13 1 (by repeat (first | exact Calm.ret | refine Calm.then ?_ | refine Calm.block ?_ | assumption)) (by kernel_rfl) (by kernel_rfl) rfl rfl rfl rfl rfl rfl rfl rfl ?_ | refine DO.loadL (k := 0) tab 13 2 (by repeat (first | exact Calm.ret | refine Calm.then ?_ | refine Calm.block ?_ | assumption)) (by kernel_rfl) (by kernel_rfl) rfl rfl rfl rfl rfl rfl rfl rfl ?_ | refine DO.loadL (k := 0) tab 13 3 (by repeat (first | exact Calm.ret | refine Calm.then ?_ | refine Calm.block ?_ | assumption)) (by kernel_rfl) (by kernel_rfl) rfl rfl rfl rfl rfl rfl rfl rfl ?_ | refine DO.loadL (k := 0) tab 13 4 (by repeat (first | exact Calm.ret | refine Calm.then ?_ | refine Calm.block ?_ | assumption)) (by kernel_rfl) (by kernel_rfl) rfl rfl rfl rfl rfl rfl rfl rfl ?_ | refine DO.loadL (k := 0) tab 13 5 (by repeat (first | exact Calm.ret | refine Calm.then ?_ | refine Calm.block ?_ | assumption)) (by kernel_rfl) (by kernel_rfl) rfl rfl rfl rfl rfl rfl rfl rfl ?_)
  refine DO.pure tab (by repeat (first | exact Calm.ret | refine Calm.then ?_ | refine Calm.block ?_ | assumption)) (by kernel_rfl) [14] (by kernel_rfl) rfl ?_
  (first | refine DO.loadL tab 15 0 (by repeat (first | exact Calm.ret | refine Calm.then ?_ | refine Calm.block ?_ | assumption)) (by kernel_rfl) (by kernel_rfl) rfl rfl rfl rfl rfl rfl rfl rfl ?_ | refine DO.loadL tab 15 1 (by repeat (first | exact Calm.ret | refine Calm.then ?_ | refine Calm.block ?_ | assumption)) (by kernel_rfl) (by kernel_rfl) rfl rfl rfl rfl rfl rfl rfl rfl ?_ | refine DO.loadL tab 15 2 (by repeat (first | exact Calm.ret | refine Calm.then ?_ | refine Calm.block ?_ | assumption)) (by kernel_rfl) (by kernel_rfl) rfl rfl rfl rfl rfl rfl rfl rfl ?_ | refine DO.loadL tab 15 3 (by repeat (first | exact Calm.ret | refine Calm.then ?_ | refine Calm.block ?_ | assumption)) (by kernel_rfl) (by kernel_rfl) rfl rfl rfl rfl rfl rfl rfl rfl ?_ | refine DO.loadL tab 15 4 (by repeat (first | exact Calm.ret | refine Calm.then ?_ | refine Calm.block ?_ | assumption)) (by kernel_rfl) (by kernel_rfl) rfl rfl rfl rfl rfl rfl rfl rfl ?_ | refine DO.loadL tab 15 5 (by repeat (first | exact Calm.ret | refine Calm.then ?_ | refine Calm.block ?_ | assumption)) (by kernel_rfl) (by kernel_rfl) rfl rfl rfl rfl rfl rfl rfl rfl ?_ | refine DO.loadL (k := 0) tab 15 0 (by repeat (first | exact Calm.ret | refine Calm.then ?_ | refine Calm.block ?_ | assumption)) (by kernel_rfl) (by kernel_rfl) rfl rfl rfl rfl rfl rfl rfl rfl ?_ | refine DO.loadL (k := 0) tab 15 1 (by repeat (first | exact Calm.ret | refine Calm.then ?_ | refine Calm.block ?_ | assumption)) (by kernel_rfl) (by kernel_rfl) rfl rfl rfl rfl rfl rfl rfl rfl ?_ | refine DO.loadL (k := 0) tab 15 2 (by repeat (first | exact Calm.ret | refine Calm.then ?_ | refine Calm.block ?_ | assumption)) (by kernel_rfl) (by kernel_rfl) rfl rfl rfl rfl rfl rfl rfl rfl ?_ | refine DO.loadL (k := 0) tab 15 3 (by repeat (first | exact Calm.ret | refine Calm.then ?_ | refine Calm.block ?_ | assumption)) (by kernel_rfl) (by kernel_rfl) rfl rfl rfl rfl rfl rfl rfl rfl ?_ | refine DO.loadL (k := 0) tab 15 4 (by repeat (first | exact Calm.ret | refine Calm.then ?_ | refine Calm.block ?_ | assumption)) (by kernel_rfl) (by kernel_rfl) rfl rfl rfl rfl rfl rfl rfl rfl ?_ | refine DO.loadL (k := 0) tab 15 5 (by repeat (first | exact Calm.ret | refine Calm.then ?_ | refine Calm.block ?_ | assumption)) (by kernel_rfl) (by kernel_rfl) rfl rfl rfl rfl rfl rfl rfl rfl ?_)
  refine DO.pure tab (by repeat (first | exact Calm.ret | refine Calm.then ?_ | refine Calm.block ?_ | assumption)) (by kernel_rfl) [16, 17, 18, 19, 20, 21, 22] (by kernel_rfl) rfl ?_
  (first | refine DO.nil0 (by kernel_rfl) ?_ | refine DO.nil (by kernel_rfl) ?_)
  rotate_left 1
  refine DO.pure tab (by repeat (first | exact Calm.ret | refine Calm.then ?_ | refine Calm.block ?_ | assumption)) (by kernel_rfl) [12, 13, 14, 15, 16, 17, 18, 19, 20, 21, 22] (by kernel_rfl) rfl ?_
  (first | refine DO.nil0 (by kernel_rfl) ?_ | refine DO.nil (by kernel_rfl) ?_)
  rotate_left 1
  refine DO.pure tab (by repeat (first | exact Calm.ret | refine Calm.then ?_ | refine Calm.block ?_ | assumption)) (by kernel_rfl) [7, 8, 9, 10, 11, 12, 13, 14, 15, 16, 17, 18, 19, 20, 21, 22] (by kernel_rfl) rfl ?_
  (first | refine DO.nil0 (by kernel_rfl) ?_ | refine DO.nil (by kernel_rfl) ?_)
  rotate_left 1
  · refine thenQ_n ?_
    repeat (first|refine q1 ?_|refine q2 ?_|refine q3 ?_|refine q4 tab rfl rfl ?_|refine q5 ?_|refine q6 ?_|refine q7 ?_|refine q8 ?_|refine q9 ?_|refine q10 ?_|refine q11 ?_|refine q12 rfl ?_|refine q13 ?_|refine q14 ?_|refine q15 ?_|refine q16 rfl ?_|refine q17 rfl ?_)
    refine retQ_ret rfl (by repeat (first | exact List.Sublist.refl _ | exact List.sublist_append_left _ _ | refine List.Sublist.cons_cons _ ?_ | refine List.Sublist.cons _ ?_)) ⟨hm1, rfl, s, ?_, by rw [shapeS, ← h3]; exact hs⟩
    rw [shapeS, ← h1, ← h3, ← hl, decide_eq_true hg6, decide_eq_true hg11]; rfl
  · refine thenQ_n ?_
    repeat (first|refine q1 ?_|refine q2 ?_|refine q3 ?_|refine q4 tab rfl rfl ?_|refine q5 ?_|refine q6 ?_|refine q7 ?_|refine q8 ?_|refine q9 ?_|refine q10 ?_|refine q11 ?_|refine q12 rfl ?_|refine q13 ?_|refine q14 ?_|refine q15 ?_|refine q16 rfl ?_|refine q17 rfl ?_)
    refine retQ_ret rfl (by repeat (first | exact List.Sublist.refl _ | exact List.sublist_append_left _ _ | refine List.Sublist.cons_cons _ ?_ | refine List.Sublist.cons _ ?_)) ⟨hm1, rfl, s, ?_, by rw [shapeS, ← h3]; exact hs⟩
    rw [shapeS, ← h1, ← h3, ← hl, decide_eq_true hg6, decide_eq_false hg11]; rfl
  · refine thenQ_n ?_
    repeat (first|refine q1 ?_|refine q2 ?_|refine q3 ?_|refine q4 tab rfl rfl ?_|refine q5 ?_|refine q6 ?_|refine q7 ?_|refine q8 ?_|refine q9 ?_|refine q10 ?_|refine q11 ?_|refine q12 rfl ?_|refine q13 ?_|refine q14 ?_|refine q15 ?_|refine q16 rfl ?_|refine q17 rfl ?_)
    refine retQ_ret rfl (by repeat (first | exact List.Sublist.refl _ | exact List.sublist_append_left _ _ | refine List.Sublist.cons_cons _ ?_ | refine List.Sublist.cons _ ?_)) ⟨hm1, rfl, s, ?_, by rw [shapeS, ← h3]; exact hs⟩
    rw [shapeS, ← h1, ← h3, ← hl, decide_eq_false hg6]; rfl

set_option maxHeartbeats 1600000 in
theorem shape_typ (a : Tree) (m : Mem) (L : List Item) (h : HTree) (hr : TreeRep m h a) : TCall Try.prog 107 ⟨[treeV h, .int .i64 2]⟩ m L (ShapeIs m L (shapeT a)) := by
  obtain ⟨h1, h2, h3, h4⟩ := hr
  have hl := h4.len
  unfold shapeT
  unfold TCall
  refine TCallX.enter Try.func107 rfl 236 rfl ?_
  by_cases h10 : a.kind = 10
  · rw [if_pos h10]
    obtain ⟨k, n, u, s⟩ := h
    obtain rfl : k = 10 := h1.trans h10
    repeat (first|refine q1 ?_|refine q2 ?_|refine q3 ?_|refine q4 tab rfl rfl ?_|refine q5 ?_|refine q6 ?_|refine q7 ?_|refine q8 ?_|refine q9 ?_|refine q10 ?_|refine q11 ?_|refine q12 rfl ?_|refine q13 ?_|refine q14 ?_|refine q15 ?_|refine q16 rfl ?_|refine q17 rfl ?_)
    refine TO.step rfl (OT.box rfl rfl rfl rfl rfl (fun b => ?_))
    repeat (first | (first|refine q1 ?_|refine q2 ?_|refine q3 ?_|refine q4 tab rfl rfl ?_|refine q5 ?_|refine q6 ?_|refine q7 ?_|refine q8 ?_|refine q9 ?_|refine q10 ?_|refine q11 ?_|refine q12 rfl ?_|refine q13 ?_|refine q14 ?_|refine q15 ?_|refine q16 rfl ?_|refine q17 rfl ?_) | (first | refine qs rfl (ql tab 0 rfl rfl rfl rfl rfl rfl ?_) | refine qs rfl (qz tab 0 rfl rfl rfl rfl rfl rfl ?_) | refine qs rfl (ql tab 1 rfl rfl rfl rfl rfl rfl ?_) | refine qs rfl (qz tab 1 rfl rfl rfl rfl rfl rfl ?_) | refine qs rfl (ql tab 2 rfl rfl rfl rfl rfl rfl ?_) | refine qs rfl (qz tab 2 rfl rfl rfl rfl rfl rfl ?_) | refine qs rfl (ql tab 3 rfl rfl rfl rfl rfl rfl ?_) | refine qs rfl (qz tab 3 rfl rfl rfl rfl rfl rfl ?_) | refine qs rfl (ql tab 4 rfl rfl rfl rfl rfl rfl ?_) | refine qs rfl (qz tab 4 rfl rfl rfl rfl rfl rfl ?_) | refine qs rfl (ql tab 5 rfl rfl rfl rfl rfl rfl ?_) | refine qs rfl (qz tab 5 rfl rfl rfl rfl rfl rfl ?_)))
    exact retQ_ret rfl (by repeat (first | exact List.Sublist.refl _ | exact List.sublist_append_left _ _ | refine List.Sublist.cons_cons _ ?_ | refine List.Sublist.cons _ ?_)) ⟨Mem.le_refl _, rfl, ⟨none, 0, 0⟩, rfl, SlRep.nil _ _⟩
  rw [if_neg h10]
  by_cases h11 : a.kind = 11 ∨ a.kind = 12
  · rw [if_pos h11]
    have h12 : h.kind = 11 ∨ h.kind = 12 := by rw [h1]; exact h11
    obtain ⟨k, n, u, s⟩ := h
    rcases h12 with h12 | h12
    all_goals
      simp only at h12
      subst h12
      repeat (first|refine q1 ?_|refine q2 ?_|refine q3 ?_|refine q4 tab rfl rfl ?_|refine q5 ?_|refine q6 ?_|refine q7 ?_|refine q8 ?_|refine q9 ?_|refine q10 ?_|refine q11 ?_|refine q12 rfl ?_|refine q13 ?_|refine q14 ?_|refine q15 ?_|refine q16 rfl ?_|refine q17 rfl ?_)
      refine TO.step rfl (OT.box rfl rfl rfl rfl rfl (fun b => ?_))
      repeat (first | (first|refine q1 ?_|refine q2 ?_|refine q3 ?_|refine q4 tab rfl rfl ?_|refine q5 ?_|refine q6 ?_|refine q7 ?_|refine q8 ?_|refine q9 ?_|refine q10 ?_|refine q11 ?_|refine q12 rfl ?_|refine q13 ?_|refine q14 ?_|refine q15 ?_|refine q16 rfl ?_|refine q17 rfl ?_) | (first | refine qs rfl (ql tab 0 rfl rfl rfl rfl rfl rfl ?_) | refine qs rfl (qz tab 0 rfl rfl rfl rfl rfl rfl ?_) | refine qs rfl (ql tab 1 rfl rfl rfl rfl rfl rfl ?_) | refine qs rfl (qz tab 1 rfl rfl rfl rfl rfl rfl ?_) | refine qs rfl (ql tab 2 rfl rfl rfl rfl rfl rfl ?_) | refine qs rfl (qz tab 2 rfl rfl rfl rfl rfl rfl ?_) | refine qs rfl (ql tab 3 rfl rfl rfl rfl rfl rfl ?_) | refine qs rfl (qz tab 3 rfl rfl rfl rfl rfl rfl ?_) | refine qs rfl (ql tab 4 rfl rfl rfl rfl rfl rfl ?_) | refine qs rfl (qz tab 4 rfl rfl rfl rfl rfl rfl ?_) | refine qs rfl (ql tab 5 rfl rfl rfl rfl rfl rfl ?_) | refine qs rfl (qz tab 5 rfl rfl rfl rfl rfl rfl ?_)))
      refine TO.step rfl (OT.lit tab rfl rfl rfl rfl (fun b2 => ?_))
      refine TO.freeze fun m1 hm1 hA1 => ?_
      repeat (first | (first|refine q1 ?_|refine q2 ?_|refine q3 ?_|refine q4 tab rfl rfl ?_|refine q5 ?_|refine q6 ?_|refine q7 ?_|refine q8 ?_|refine q9 ?_|refine q10 ?_|refine q11 ?_|refine q12 rfl ?_|refine q13 ?_|refine q14 ?_|refine q15 ?_|refine q16 rfl ?_|refine q17 rfl ?_) | (first | refine qs rfl (ql tab 0 rfl rfl rfl rfl rfl rfl ?_) | refine qs rfl (qz tab 0 rfl rfl rfl rfl rfl rfl ?_) | refine qs rfl (ql tab 1 rfl rfl rfl rfl rfl rfl ?_) | refine qs rfl (qz tab 1 rfl rfl rfl rfl rfl rfl ?_) | refine qs rfl (ql tab 2 rfl rfl rfl rfl rfl rfl ?_) | refine qs rfl (qz tab 2 rfl rfl rfl rfl rfl rfl ?_) | refine qs rfl (ql tab 3 rfl rfl rfl rfl rfl rfl ?_) | refine qs rfl (qz tab 3 rfl rfl rfl rfl rfl rfl ?_) | refine qs rfl (ql tab 4 rfl rfl rfl rfl rfl rfl ?_) | refine qs rfl (qz tab 4 rfl rfl rfl rfl rfl rfl ?_) | refine qs rfl (ql tab 5 rfl rfl rfl rfl rfl rfl ?_) | refine qs rfl (qz tab 5 rfl rfl rfl rfl rfl rfl ?_)))
      exact retQ_ret rfl (by repeat (first | exact List.Sublist.refl _ | exact List.sublist_append_left _ _ | refine List.Sublist.cons_cons _ ?_ | refine List.Sublist.cons _ ?_)) ⟨hm1, rfl, ⟨some ⟨b2, 0, none⟩, 1, 1⟩, rfl, ints1 hA1⟩
  rw [if_neg h11]
  by_cases h13 : a.kind = 13
  · rw [if_pos h13]
    obtain ⟨k, n, u, s⟩ := h
    obtain rfl : k = 13 := h1.trans h13
    simp only at h2 h3 hl
    repeat (first|refine q1 ?_|refine q2 ?_|refine q3 ?_|refine q4 tab rfl rfl ?_|refine q5 ?_|refine q6 ?_|refine q7 ?_|refine q8 ?_|refine q9 ?_|refine q10 ?_|refine q11 ?_|refine q12 rfl ?_|refine q13 ?_|refine q14 ?_|refine q15 ?_|refine q16 rfl ?_|refine q17 rfl ?_)
    refine TO.step rfl (OT.box rfl rfl rfl rfl rfl (fun b => ?_))
    repeat (first | (first|refine q1 ?_|refine q2 ?_|refine q3 ?_|refine q4 tab rfl rfl ?_|refine q5 ?_|refine q6 ?_|refine q7 ?_|refine q8 ?_|refine q9 ?_|refine q10 ?_|refine q11 ?_|refine q12 rfl ?_|refine q13 ?_|refine q14 ?_|refine q15 ?_|refine q16 rfl ?_|refine q17 rfl ?_) | (first | refine qs rfl (ql tab 0 rfl rfl rfl rfl rfl rfl ?_) | refine qs rfl (qz tab 0 rfl rfl rfl rfl rfl rfl ?_) | refine qs rfl (ql tab 1 rfl rfl rfl rfl rfl rfl ?_) | refine qs rfl (qz tab 1 rfl rfl rfl rfl rfl rfl ?_) | refine qs rfl (ql tab 2 rfl rfl rfl rfl rfl rfl ?_) | refine qs rfl (qz tab 2 rfl rfl rfl rfl rfl rfl ?_) | refine qs rfl (ql tab 3 rfl rfl rfl rfl rfl rfl ?_) | refine qs rfl (qz tab 3 rfl rfl rfl rfl rfl rfl ?_) | refine qs rfl (ql tab 4 rfl rfl rfl rfl rfl rfl ?_) | refine qs rfl (qz tab 4 rfl rfl rfl rfl rfl rfl ?_) | refine qs rfl (ql tab 5 rfl rfl rfl rfl rfl rfl ?_) | refine qs rfl (qz tab 5 rfl rfl rfl rfl rfl rfl ?_)))
    refine TC.draw0 [] mixed 15 rfl ?_
    refine DO.pure tab (by repeat (first | exact Calm.ret | refine Calm.then ?_ | refine Calm.block ?_ | assumption)) (by kernel_rfl) [0] (by kernel_rfl) rfl ?_
    (first | refine DO.loadL tab 1 0 (by repeat (first | exact Calm.ret | refine Calm.then ?_ | refine Calm.block ?_ | assumption)) (by kernel_rfl) (by kernel_rfl) rfl rfl rfl rfl rfl rfl rfl rfl ?_ | refine DO.loadL tab 1 1 (by repeat (first | exact Calm.ret | refine Calm.then ?_ | refine Calm.block ?_ | assumption)) (by kernel_rfl) (by kernel_rfl) rfl rfl rfl rfl rfl rfl rfl rfl ?_ | refine DO.loadL tab 1 2 (by repeat (first | exact Calm.ret | refine Calm.then ?_ | refine Calm.block ?_ | assumption)) (by kernel_rfl) (by kernel_rfl) rfl rfl rfl rfl rfl rfl rfl rfl ?_ | refine DO.loadL tab 1 3 (by repeat (first | exact Calm.ret | refine Calm.then ?_ | refine Calm.block ?_ | assumption)) (by kernel_rfl) (by kernel_rfl) rfl rfl rfl rfl rfl rfl rfl rfl ?_ | refine DO.loadL tab 1 4 (by repeat (first | exact Calm.ret | refine Calm.then ?_ | refine Calm.block ?_ | assumption)) (by kernel_rfl) (by kernel_rfl) rfl rfl rfl rfl rfl rfl rfl rfl ?_ | refine DO.loadL tab 1 5 (by repeat (first | exact Calm.ret | refine Calm.then ?_ | refine Calm.block ?_ | assumption)) (by kernel_rfl) (by kernel_rfl) rfl rfl rfl rfl rfl rfl rfl rfl ?_ | refine DO.loadL (k := 0) tab 1 0 (by repeat (first | exact Calm.ret | refine Calm.then ?_ | refine Calm.block ?_ | assumption)) (by kernel_rfl) (by kernel_rfl) rfl rfl rfl rfl rfl rfl rfl rfl ?_ | refine DO.loadL (k := 0) tab 1 1 (by repeat (first | exact Calm.ret | refine Calm.then ?_ | refine Calm.block ?_ | assumption)) (by kernel_rfl) (by kernel_rfl) rfl rfl rfl rfl rfl rfl rfl rfl ?_ | refine DO.loadL (k := 0) tab 1 2 (by repeat (first | exact Calm.ret | refine Calm.then ?_ | refine Calm.block ?_ | assumption)) (by kernel_rfl) (by kernel_rfl) rfl rfl rfl rfl rfl rfl rfl rfl ?_ | refine DO.loadL (k := 0) tab 1 3 (by repeat (first | exact Calm.ret | refine Calm.then ?_ | refine Calm.block ?_ | assumption)) (by kernel_rfl) (by kernel_rfl) rfl rfl rfl rfl rfl rfl rfl rfl ?_ | refine DO.loadL (k := 0) tab 1 4 (by repeat (first | exact Calm.ret | refine Calm.then ?_ | refine Calm.block ?_ | assumption)) (by kernel_rfl) (by kernel_rfl) rfl rfl rfl rfl rfl rfl rfl rfl ?_ | refine DO.loadL (k := 0) tab 1 5 (by repeat (first | exact Calm.ret | refine Calm.then ?_ | refine Calm.block ?_ | assumption)) (by kernel_rfl) (by kernel_rfl) rfl rfl rfl rfl rfl rfl rfl rfl ?_)
    refine DO.pure tab (by repeat (first | exact Calm.ret | refine Calm.then ?_ | refine Calm.block ?_ | assumption)) (by kernel_rfl) [2, 3] (by kernel_rfl) rfl ?_
    (first | refine DO.splitP (d := 212) rfl (fun hg3 => ?_) (fun hg3 => ?_) | refine DO.splitN (d := 212) rfl (fun hg3 => ?_) (fun hg3 => ?_) | refine DO.split (d := 212) rfl (fun hg3 => ?_) (fun hg3 => ?_))
    refine DO.pure tab (by repeat (first | exact Calm.ret | refine Calm.then ?_ | refine Calm.block ?_ | assumption)) (by kernel_rfl) [4] (by kernel_rfl) rfl ?_
    (first | refine DO.loadL tab 5 0 (by repeat (first | exact Calm.ret | refine Calm.then ?_ | refine Calm.block ?_ | assumption)) (by kernel_rfl) (by kernel_rfl) rfl rfl rfl rfl rfl rfl rfl rfl ?_ | refine DO.loadL tab 5 1 (by repeat (first | exact Calm.ret | refine Calm.then ?_ | refine Calm.block ?_ | assumption)) (by kernel_rfl) (by kernel_rfl) rfl rfl rfl rfl rfl rfl rfl rfl ?_ | refine DO.loadL tab 5 2 (by repeat (first | exact Calm.ret | refine Calm.then ?_ | refine Calm.block ?_ | assumption)) (by kernel_rfl) (by kernel_rfl) rfl rfl rfl rfl rfl rfl rfl rfl ?_ | refine DO.loadL tab 5 3 (by repeat (first | exact Calm.ret | refine Calm.then ?_ | refine Calm.block ?_ | assumption)) (by kernel_rfl) (by kernel_rfl) rfl rfl rfl rfl rfl rfl rfl rfl ?_ | refine DO.loadL tab 5 4 (by repeat (first | exact Calm.ret | refine Calm.then ?_ | refine Calm.block ?_ | assumption)) (by kernel_rfl) (by kernel_rfl) rfl rfl rfl rfl rfl rfl rfl rfl ?_ | refine DO.loadL tab 5 5 (by repeat (first | exact Calm.ret | refine Calm.then ?_ | refine Calm.block ?_ | assumption)) (by kernel_rfl) (by kernel_rfl) rfl rfl rfl rfl rfl rfl rfl rfl ?_ | refine DO.loadL (k := 0) tab 5 0 (by repeat (first | exact Calm.ret | refine Calm.then ?_ | refine Calm.block ?_ | assumption)) (by kernel_rfl) (by kernel_rfl) rfl rfl rfl rfl rfl rfl rfl rfl ?_ | refine DO.loadL (k := 0) tab 5 1 (by repeat (first | exact Calm.ret | refine Calm.then ?_ | refine Calm.block ?_ | assumption)) (by kernel_rfl) (by kernel_rfl) rfl rfl rfl rfl rfl rfl rfl rfl ?_ | refine DO.loadL (k := 0) tab 5 2 (by repeat (first | exact Calm.ret | refine Calm.then ?_ | refine Calm.block ?_ | assumption)) (by kernel_rfl) (by kernel_rfl) rfl rfl rfl rfl rfl rfl rfl rfl ?_ | refine DO.loadL (k := 0) tab 5 3 (by repeat (first | exact Calm.ret | refine Calm.then ?_ | refine Calm.block ?_ | assumption)) (by kernel_rfl) (by kernel_rfl) rfl rfl rfl rfl rfl rfl rfl rfl ?_ | refine DO.loadL (k := 0) tab 5 4 (by repeat (first | exact Calm.ret | refine Calm.then ?_ | refine Calm.block ?_ | assumption)) (by kernel_rfl) (by kernel_rfl) rfl rfl rfl rfl rfl rfl rfl rfl ?_ | refine DO.loadL (k := 0) tab 5 5 (by repeat (first | exact Calm.ret | refine Calm.then ?_ | refine Calm.block ?_ | assumption)) (by kernel_rfl) (by kernel_rfl) rfl rfl rfl rfl rfl rfl rfl rfl ?_)
    refine DO.pure tab (by repeat (first | exact Calm.ret | refine Calm.then ?_ | refine Calm.block ?_ | assumption)) (by kernel_rfl) [6] (by kernel_rfl) rfl ?_
    (first | refine DO.loadL tab 7 0 (by repeat (first | exact Calm.ret | refine Calm.then ?_ | refine Calm.block ?_ | assumption)) (by kernel_rfl) (by kernel_rfl) rfl rfl rfl rfl rfl rfl rfl rfl ?_ | refine DO.loadL tab 7 1 (by repeat (first | exact Calm.ret | refine Calm.then ?_ | refine Calm.block ?_ | assumption)) (by kernel_rfl) (by kernel_rfl) rfl rfl rfl rfl rfl rfl rfl rfl ?_ | refine DO.loadL tab 7 2 (by repeat (first | exact Calm.ret | refine Calm.then ?_ | refine Calm.block ?_ | assumption)) (by kernel_rfl) (by kernel_rfl) rfl rfl rfl rfl rfl rfl rfl rfl ?_ | refine DO.loadL tab 7 3 (by repeat (first | exact Calm.ret | refine Calm.then ?_ | refine Calm.block ?_ | assumption)) (by kernel_rfl) (by kernel_rfl) rfl rfl rfl rfl rfl rfl rfl rfl ?_ | refine DO.loadL tab 7 4 (by repeat (first | exact Calm.ret | refine Calm.then ?_ | refine Calm.block ?_ | assumption)) (by kernel_rfl) (by kernel_rfl) rfl rfl rfl rfl rfl rfl rfl rfl ?_ | refine DO.loadL tab 7 5 (by repeat (first | exact Calm.ret | refine Calm.then ?_ | refine Calm.block ?_ | assumption)) (by kernel_rfl) (by kernel_rfl) rfl rfl rfl rfl rfl rfl rfl rfl ?_ | refine DO.loadL (k := 0) tab 7 0 (by repeat (first | exact Calm.ret | refine Calm.then ?_ | refine Calm.block ?_ | assumption)) (by kernel_rfl) (by kernel_rfl) rfl rfl rfl rfl rfl rfl rfl rfl ?_ | refine DO.loadL (k := 0) tab 7 1 (by repeat (first | exact Calm.ret | refine Calm.then ?_ | refine Calm.block ?_ | assumption)) (by kernel_rfl) (by kernel_rfl) rfl rfl rfl rfl rfl rfl rfl rfl ?_ | refine DO.loadL (k := 0) tab 7 2 (by repeat (first | exact Calm.ret | refine Calm.then ?_ | refine Calm.block ?_ | assumption)) (by kernel_rfl) (by kernel_rfl) rfl rfl rfl rfl rfl rfl rfl rfl ?_ | refine DO.loadL (k := 0) tab 7 3 (by repeat (first | exact Calm.ret | refine Calm.then ?_ | refine Calm.block ?_ | assumption)) (by kernel_rfl) (by kernel_rfl) rfl rfl rfl rfl rfl rfl rfl rfl ?_ | refine DO.loadL (k := 0) tab 7 4 (by repeat (first | exact Calm.ret | refine Calm.then ?_ | refine Calm.block ?_ | assumption)) (by kernel_rfl) (by kernel_rfl) rfl rfl rfl rfl rfl rfl rfl rfl ?_ | refine DO.loadL (k := 0) tab 7 5 (by repeat (first | exact Calm.ret | refine Calm.then ?_ | refine Calm.block ?_ | assumption)) (by kernel_rfl) (by kernel_rfl) rfl rfl rfl rfl rfl rfl rfl rfl ?_)
    refine DO.pure tab (by repeat (first | exact Calm.ret | refine Calm.then ?_ | refine Calm.block ?_ | assumption)) (by kernel_rfl) [8, 9, 10, 11, 12, 13, 14] (by kernel_rfl) rfl ?_
    (first | refine DO.nil0 (by kernel_rfl) ?_ | refine DO.nil (by kernel_rfl) ?_)
    rotate_left 1
    refine DO.pure tab (by repeat (first | exact Calm.ret | refine Calm.then ?_ | refine Calm.block ?_ | assumption)) (by kernel_rfl) [4, 5, 6, 7, 8, 9, 10, 11, 12, 13, 14] (by kernel_rfl) rfl ?_
    (first | refine DO.nil0 (by kernel_rfl) ?_ | refine DO.nil (by kernel_rfl) ?_)
    rotate_left 1
    · refine thenQ_n ?_
      repeat (first|refine q1 ?_|refine q2 ?_|refine q3 ?_|refine q4 tab rfl rfl ?_|refine q5 ?_|refine q6 ?_|refine q7 ?_|refine q8 ?_|refine q9 ?_|refine q10 ?_|refine q11 ?_|refine q12 rfl ?_|refine q13 ?_|refine q14 ?_|refine q15 ?_|refine q16 rfl ?_|refine q17 rfl ?_)
      refine retQ_ret rfl (by repeat (first | exact List.Sublist.refl _ | exact List.sublist_append_left _ _ | refine List.Sublist.cons_cons _ ?_ | refine List.Sublist.cons _ ?_)) ⟨Mem.le_refl _, rfl, ⟨none, 0, 0⟩, ?_, SlRep.nil _ _⟩
      simp only at hg3
      rw [← h3, ← hl, decide_eq_true hg3]; rfl
    · refine thenQ_n ?_
      repeat (first|refine q1 ?_|refine q2 ?_|refine q3 ?_|refine q4 tab rfl rfl ?_|refine q5 ?_|refine q6 ?_|refine q7 ?_|refine q8 ?_|refine q9 ?_|refine q10 ?_|refine q11 ?_|refine q12 rfl ?_|refine q13 ?_|refine q14 ?_|refine q15 ?_|refine q16 rfl ?_|refine q17 rfl ?_)
      refine retQ_ret rfl (by repeat (first | exact List.Sublist.refl _ | exact List.sublist_append_left _ _ | refine List.Sublist.cons_cons _ ?_ | refine List.Sublist.cons _ ?_)) ⟨Mem.le_refl _, rfl, ⟨none, 0, 0⟩, ?_, SlRep.nil _ _⟩
      simp only at hg3
      rw [← h3, ← hl, decide_eq_false hg3]; rfl
  rw [if_neg h13]
  repeat (first|refine q1 ?_|refine q2 ?_|refine q3 ?_|refine q4 tab rfl rfl ?_|refine q5 ?_|refine q6 ?_|refine q7 ?_|refine q8 ?_|refine q9 ?_|refine q10 ?_|refine q11 ?_|refine q12 rfl ?_|refine q13 ?_|refine q14 ?_|refine q15 ?_|refine q16 rfl ?_|refine q17 rfl ?_)
  refine TO.step rfl (OT.box rfl rfl rfl rfl rfl (fun b => ?_))
  repeat (first | (first|refine q1 ?_|refine q2 ?_|refine q3 ?_|refine q4 tab rfl rfl ?_|refine q5 ?_|refine q6 ?_|refine q7 ?_|refine q8 ?_|refine q9 ?_|refine q10 ?_|refine q11 ?_|refine q12 rfl ?_|refine q13 ?_|refine q14 ?_|refine q15 ?_|refine q16 rfl ?_|refine q17 rfl ?_) | (first | refine qs rfl (ql tab 0 rfl rfl rfl rfl rfl rfl ?_) | refine qs rfl (qz tab 0 rfl rfl rfl rfl rfl rfl ?_) | refine qs rfl (ql tab 1 rfl rfl rfl rfl rfl rfl ?_) | refine qs rfl (qz tab 1 rfl rfl rfl rfl rfl rfl ?_) | refine qs rfl (ql tab 2 rfl rfl rfl rfl rfl rfl ?_) | refine qs rfl (qz tab 2 rfl rfl rfl rfl rfl rfl ?_) | refine qs rfl (ql tab 3 rfl rfl rfl rfl rfl rfl ?_) | refine qs rfl (qz tab 3 rfl rfl rfl rfl rfl rfl ?_) | refine qs rfl (ql tab 4 rfl rfl rfl rfl rfl rfl ?_) | refine qs rfl (qz tab 4 rfl rfl rfl rfl rfl rfl ?_) | refine qs rfl (ql tab 5 rfl rfl rfl rfl rfl rfl ?_) | refine qs rfl (qz tab 5 rfl rfl rfl rfl rfl rfl ?_)))
  refine TC.condP rfl (fun h5 => ?_) (fun h5 => ?_)
  · omega
  repeat (first|refine q1 ?_|refine q2 ?_|refine q3 ?_|refine q4 tab rfl rfl ?_|refine q5 ?_|refine q6 ?_|refine q7 ?_|refine q8 ?_|refine q9 ?_|refine q10 ?_|refine q11 ?_|refine q12 rfl ?_|refine q13 ?_|refine q14 ?_|refine q15 ?_|refine q16 rfl ?_|refine q17 rfl ?_)
  refine TC.condP rfl (fun h5 => ?_) (fun h5 => ?_)
  · omega
  repeat (first|refine q1 ?_|refine q2 ?_|refine q3 ?_|refine q4 tab rfl rfl ?_|refine q5 ?_|refine q6 ?_|refine q7 ?_|refine q8 ?_|refine q9 ?_|refine q10 ?_|refine q11 ?_|refine q12 rfl ?_|refine q13 ?_|refine q14 ?_|refine q15 ?_|refine q16 rfl ?_|refine q17 rfl ?_)
  refine TC.condP rfl (fun h5 => ?_) (fun h5 => ?_)
  · omega
  repeat (first|refine q1 ?_|refine q2 ?_|refine q3 ?_|refine q4 tab rfl rfl ?_|refine q5 ?_|refine q6 ?_|refine q7 ?_|refine q8 ?_|refine q9 ?_|refine q10 ?_|refine q11 ?_|refine q12 rfl ?_|refine q13 ?_|refine q14 ?_|refine q15 ?_|refine q16 rfl ?_|refine q17 rfl ?_)
  refine TC.condP rfl (fun h5 => ?_) (fun h5 => ?_)
  · omega
  repeat (first | (first|refine q1 ?_|refine q2 ?_|refine q3 ?_|refine q4 tab rfl rfl ?_|refine q5 ?_|refine q6 ?_|refine q7 ?_|refine q8 ?_|refine q9 ?_|refine q10 ?_|refine q11 ?_|refine q12 rfl ?_|refine q13 ?_|refine q14 ?_|refine q15 ?_|refine q16 rfl ?_|refine q17 rfl ?_) | (first | refine qs rfl (ql tab 0 rfl rfl rfl rfl rfl rfl ?_) | refine qs rfl (qz tab 0 rfl rfl rfl rfl rfl rfl ?_) | refine qs rfl (ql tab 1 rfl rfl rfl rfl rfl rfl ?_) | refine qs rfl (qz tab 1 rfl rfl rfl rfl rfl rfl ?_) | refine qs rfl (ql tab 2 rfl rfl rfl rfl rfl rfl ?_) | refine qs rfl (qz tab 2 rfl rfl rfl rfl rfl rfl ?_) | refine qs rfl (ql tab 3 rfl rfl rfl rfl rfl rfl ?_) | refine qs rfl (qz tab 3 rfl rfl rfl rfl rfl rfl ?_) | refine qs rfl (ql tab 4 rfl rfl rfl rfl rfl rfl ?_) | refine qs rfl (qz tab 4 rfl rfl rfl rfl rfl rfl ?_) | refine qs rfl (ql tab 5 rfl rfl rfl rfl rfl rfl ?_) | refine qs rfl (qz tab 5 rfl rfl rfl rfl rfl rfl ?_)))
  exact retQ_ret rfl (by repeat (first | exact List.Sublist.refl _ | exact List.sublist_append_left _ _ | refine List.Sublist.cons_cons _ ?_ | refine List.Sublist.cons _ ?_)) ⟨Mem.le_refl _, rfl, ⟨none, 0, 0⟩, rfl, SlRep.nil _ _⟩

theorem shape_law (k : Int) (hk : k = 2 ∨ k = 3 ∨ k = 4) (a : Tree) (m : Mem) (L : List Item) (h : HTree) (hr : TreeRep m h a) : TCall Try.prog 107 ⟨[treeV h, .int .i64 k]⟩ m L (ShapeIs m L (shapeOf k a)) := by
  rcases hk with rfl | rfl | rfl
  · exact shape_typ a m L h hr
  · exact shape_sig a m L h hr
  · exact shape_param a m L h hr
end Go.Sep
