/-
  The walks of IsSound, sound, isSound and Same.
-/
import Derived.Test.YtlpcakplpnpaeaaB3
set_option linter.unusedVariables false
set_option linter.unusedSimpArgs false
namespace Go.Sep
open Go.Proofs
attribute [local irreducible] TC TO OT TCallX TCall DO DOt thenQ blockQ retQ At

set_option maxHeartbeats 1600000 in
theorem isSound_ref (a : Tree) (m : Mem) (L : List Item) (h : HTree) (hr : TreeRep m h a) (hB : a.bulk ≤ 1048576) : TCall Try.prog 42 ⟨[treeV h]⟩ m L (Ret (.bool a.sound) m L) := by
  unfold TCall
  refine TCallX.enter Try.func42 rfl 20 rfl ?_
  repeat (first|refine q1 ?_|refine q3 ?_)
  refine TO.step rfl (OT.box rfl rfl rfl rfl rfl (fun b => ?_))
  repeat (first|(first|refine q1 ?_|refine q3 ?_|refine q4 tab rfl rfl ?_|refine q5 ?_|refine q6 ?_)|(refine qs rfl (qz tab 0 rfl rfl rfl rfl rfl rfl ?_)))
  refine TO.step rfl (OT.call rfl rfl rfl rfl rfl rfl goes78 ((size_type a _ _ h hr hB).x ?_));
  rintro _ _ _ ⟨rfl, rfl, rfl⟩
  repeat (first|refine q1 ?_|refine q3 ?_|refine q4 tab rfl rfl ?_|refine q5 ?_|refine q6 ?_)
  (refine TO.splitP rfl rfl (fun e1 => ?_) (fun e1 => ?_))
  · repeat (refine q4 tab rfl rfl ?_)
    (refine TO.splitP rfl rfl (fun e2 => ?_) (fun e2 => ?_))
    · repeat ((refine qs rfl (qz tab 0 rfl rfl rfl rfl rfl rfl ?_)))
      refine TO.step rfl (OT.call rfl rfl rfl rfl rfl rfl goes79 ((formed_ref a _ _ h hr hB).x ?_));
      rintro _ _ _ ⟨rfl, rfl, rfl⟩
      repeat (first|refine q4 tab rfl rfl ?_|refine q5 ?_|refine q6 ?_|refine q15 ?_)
      refine retQ_ret rfl (by repeat (first|exact List.Sublist.refl _|refine List.Sublist.cons _ ?_)) ⟨rfl, rfl, ?_⟩
      rw [Tree.sound, decide_eq_true (by omega)]; rfl
    · repeat (first|refine q4 tab rfl rfl ?_|refine q5 ?_|refine q6 ?_|refine q15 ?_)
      refine retQ_ret rfl (by repeat (first|exact List.Sublist.refl _|refine List.Sublist.cons _ ?_)) ⟨rfl, rfl, ?_⟩
      rw [Tree.sound, decide_eq_false (by omega)]; rfl
  · repeat (first|refine q4 tab rfl rfl ?_|refine q5 ?_|refine q6 ?_|refine q15 ?_)
    refine retQ_ret rfl (by repeat (first|exact List.Sublist.refl _|refine List.Sublist.cons _ ?_)) ⟨rfl, rfl, ?_⟩
    rw [Tree.sound, decide_eq_false (by omega)]; rfl

def fitsB (a : Tree) (z d : Int) : Bool := decide ((a.size : Int) ≤ z ∧ (a.deep : Int) + d ≤ 101)

set_option maxHeartbeats 6400000 in
theorem sound_law (a : Tree) : ∀ (m : Mem) (L : List Item) (h : HTree) (hr : TreeRep m h a) (hB : a.bulk ≤ 1048576) (d z : Int) (i bl : Nat) (hi : L[i]? = some (cellI bl z)) (hz : 0 ≤ z ∧ z ≤ 20000) (hd : 0 ≤ d ∧ d ≤ 101),
    TCall Try.prog 76 ⟨[treeV h, .int .i64 d, .pointer (some ⟨bl, 0, none⟩)]⟩ m L (Low m L i bl (fitsB a z d && a.formed) (z - a.size)) := by
  induction a using Tree.ind with
  | h a ih =>
  intro m L h hr hB d z i bl hi hz hd
  obtain ⟨h1, h2, h3, h4⟩ := hr
  have hl := h4.len
  have hsm := h4.small rfl
  have hsz := size_kids a
  have hdp := deep_kids a
  have hnl := bulk_name a
  obtain ⟨q, n, u, s⟩ := h
  simp only at h1 h2 h3 h4 hl
  unfold TCall
  refine TCallX.enter Try.func76 rfl 112 rfl ?_
  have bad : ∀ {y : Int}, (fitsB a z d && a.formed) = false → Low m L i bl (fitsB a z d && a.formed) (z - a.size) (.bool false) m (L.set i (cellI bl y)) := fun {y} hn => ⟨rfl, by rw [hn], y, rfl, fun hd => by rw [hn] at hd; cases hd⟩
  have bad1 : ∀ {y : Int}, ¬ ((a.size : Int) ≤ z ∧ (a.deep : Int) + d ≤ 101) → Low m L i bl (fitsB a z d && a.formed) (z - a.size) (.bool false) m (L.set i (cellI bl y)) := fun hn => bad (by unfold fitsB; rw [decide_eq_false hn]; rfl)
  have bad2 : ∀ {y : Int}, headB a = false → Low m L i bl (fitsB a z d && a.formed) (z - a.size) (.bool false) m (L.set i (cellI bl y)) := fun hn => bad (by rw [formed_eq, hn]; simp)
  have bad3 : ∀ {y : Int}, formedL a.kids = false → Low m L i bl (fitsB a z d && a.formed) (z - a.size) (.bool false) m (L.set i (cellI bl y)) := fun hn => bad (by rw [formed_eq, hn]; simp)
  have hset := fun y => set_get hi (cellI bl y)
  repeat (first|refine q1 ?_|refine q3 ?_)
  refine TO.step rfl (OT.box rfl rfl rfl rfl rfl (fun b => ?_))
  repeat (first|refine q1 ?_|refine q3 ?_|refine q4 tab rfl rfl ?_|refine q5 ?_|refine q6 ?_)
  refine TO.step rfl (OT.loadL0 tab (i + 1) rfl rfl rfl rfl hi rfl ?_)
  refine TO.step rfl (OT.arith (r' := z - 1) rfl rfl rfl rfl rfl rfl rfl (by omega) ?_)
  repeat (refine q4 tab rfl rfl ?_)
  refine TO.step rfl (OT.storeL0 tab (i + 1) rfl rfl rfl rfl rfl rfl hi rfl ?_)
  repeat (first|refine q1 ?_|refine q3 ?_|refine q4 tab rfl rfl ?_|refine q5 ?_|refine q6 ?_)
  refine TO.step rfl (OT.loadL0 tab (i + 1) rfl rfl rfl rfl (hset _) rfl ?_)
  repeat (refine q4 tab rfl rfl ?_)
  (refine TO.splitP rfl rfl (fun h5 => ?_) (fun h5 => ?_))
  · repeat (first|refine q4 tab rfl rfl ?_|refine q5 ?_|refine q6 ?_)
    refine TC.cond_t rfl ?_
    repeat (first|refine q1 ?_|refine q3 ?_|refine q4 tab rfl rfl ?_|refine q5 ?_|refine q6 ?_|refine q8 ?_|refine q15 ?_)
    exact retQ_ret rfl (by repeat (first|exact List.Sublist.refl _|refine List.Sublist.cons _ ?_)) (bad1 (by omega))
  repeat (refine q4 tab rfl rfl ?_)
  (refine TO.splitP rfl rfl (fun h6 => ?_) (fun h6 => ?_))
  · repeat (first|refine q4 tab rfl rfl ?_|refine q5 ?_|refine q6 ?_)
    refine TC.cond_t rfl ?_
    repeat (first|refine q1 ?_|refine q3 ?_|refine q4 tab rfl rfl ?_|refine q5 ?_|refine q6 ?_|refine q8 ?_|refine q15 ?_)
    exact retQ_ret rfl (by repeat (first|exact List.Sublist.refl _|refine List.Sublist.cons _ ?_)) (bad1 (by omega))
  repeat (first|(refine q4 tab rfl rfl ?_)|(refine qs rfl (ql tab 0 rfl rfl rfl rfl rfl rfl ?_)))
  by_cases k4 : a.kind = 4
  · obtain rfl : q = 4 := h1.trans k4
    repeat (first|(first|refine q4 tab rfl rfl ?_|refine q5 ?_|refine q6 ?_)|(refine qs rfl (ql tab 0 rfl rfl rfl rfl rfl rfl ?_)))
    refine TC.condN rfl (fun e2 => ?_) (fun e2 => ?_)
    · repeat (first|refine q1 ?_|refine q3 ?_|refine q4 tab rfl rfl ?_|refine q5 ?_|refine q6 ?_|refine q8 ?_|refine q15 ?_)
      exact retQ_ret rfl (by repeat (first|exact List.Sublist.refl _|refine List.Sublist.cons _ ?_)) (bad2 (by unfold headB; rw [← h3, decide_eq_false e2, decide_eq_false (show ¬ a.kind = 7 by omega)]; simp))
    have hhd : headB a = true := by unfold headB; rw [← h3, decide_eq_true k4, decide_eq_true e2]; simp
    repeat (first|(first|refine q1 ?_|refine q2 ?_|refine q3 ?_|refine q4 tab rfl rfl ?_|refine q5 ?_|refine q6 ?_|refine q13 ?_)|(refine qs rfl (ql tab 0 rfl rfl rfl rfl rfl rfl ?_)))
    refine TC.loopK (ι := Nat × Int) [1, 2, 3, 43, 44] rfl (fun x => [(45, .int .i64 (x.1 : Int))]) (fun _ => m) (fun x => .cells b 0 (treeC ⟨4, n, u, s⟩) :: L.set i (cellI bl x.2)) (fun x => x.1 ≤ a.kids.length ∧ x.2 = z - 1 - sizeL (a.kids.take x.1) ∧ 0 ≤ x.2 ∧ (deepL (a.kids.take x.1) : Int) + d ≤ 100 ∧ formedL (a.kids.take x.1) = true) (fun x => a.kids.length - x.1) (0, z - 1) (by repeat (first|exact trivial|refine And.intro rfl ?_)) rfl (by repeat (exact List.Sublist.refl _)) ⟨Nat.zero_le _, by simp [sizeL], by simp only; omega, by simp [deepL]; omega, rfl⟩ ?_
    rintro ⟨k, y⟩ ⟨hk, hy, hy0, hd', hI⟩
    simp only at hk hy hy0 hd' hI ⊢
    repeat (first|refine q1 ?_|refine q3 ?_|refine q4 tab rfl rfl ?_|refine q5 ?_|refine q6 ?_)
    refine TC.condP rfl (fun hlt' => ?_) (fun hlt' => ?_)
    · have hlt : k < a.kids.length := by omega
      have hx : a.kids[k]? = some a.kids[k] := by simp [hlt]
      have hmem := List.getElem_mem hlt
      have e1' := sizeL_next a.kids k hlt
      have e2' := deepL_next a.kids k hlt
      have e3' := sizeL_take a.kids (k + 1)
      have e4' := deepL_take a.kids (k + 1)
      have hnx := formedL_next a.kids k hlt
      repeat (first|refine q1 ?_|refine q2 ?_|refine q3 ?_|refine q6 ?_|refine q13 ?_)
      refine TO.step rfl (OT.index tab rTree k h4 rfl rfl rfl rfl rfl (by first | rfl | omega) rfl hx ?_)
      rintro b' i' h' hrd hA
      have hk' := (rTree_iff.1 hrd).kind
      (refine TO.step rfl (OT.loadA0 tab hA rfl rfl rfl rfl rfl ?_))
      skip
      refine TO.step rfl (OT.alloc tab rfl rfl rfl rfl (fun b2 => ?_))
      skip
      (refine TO.step rfl (OT.storeL0 tab 0 rfl rfl rfl rfl rfl rfl rfl rfl ?_))
      repeat (first|(first|refine q1 ?_|refine q3 ?_|refine q4 tab rfl rfl ?_|refine q5 ?_|refine q6 ?_)|(refine qs rfl (ql tab 0 rfl rfl rfl rfl rfl rfl ?_)))
      (refine TO.splitP rfl rfl (fun e8 => ?_) (fun e8 => ?_))
      · repeat (first|refine q1 ?_|refine q3 ?_|refine q4 tab rfl rfl ?_|refine q5 ?_|refine q6 ?_|refine q8 ?_|refine q9 ?_|refine q15 ?_|refine q16 rfl ?_)
        exact retQ_ret rfl (by repeat (first|exact List.Sublist.refl _|refine List.Sublist.cons _ ?_)) (bad3 (formedL_false hmem (by rw [decide_eq_true (show a.kids[k].kind = 8 by omega)]; rfl)))
      repeat (first|(refine q4 tab rfl rfl ?_)|(refine qs rfl (qz tab 0 rfl rfl rfl rfl rfl rfl ?_)))
      refine TO.step rfl (OT.arith (r' := d + 1) rfl rfl rfl rfl rfl rfl rfl (by omega) ?_)
      repeat (refine q4 tab rfl rfl ?_)
      refine TO.step rfl (OT.call rfl rfl rfl rfl rfl rfl goes76 ((ih _ hmem _ _ h' (rTree_iff.1 hrd) (Nat.le_trans (Nat.le_of_lt (bulk_kid hmem)) hB) (d + 1) y (i + 2) bl (hset y) (by omega) (by omega)).x ?_));
      rintro _ _ L3 ⟨rfl, rfl, y', hL, hy'⟩
      have hL2 : ∀ (x1 x2 : Item), (x1 :: x2 :: L.set i (cellI bl y)).set (i + 2) (cellI bl y') = x1 :: x2 :: L.set i (cellI bl y') := fun x1 x2 => by simp [List.set_set]
      replace hL := hL.trans (hL2 (.cells b2 0 (treeC h')) _)
      subst hL
      repeat (first|refine q4 tab rfl rfl ?_|refine q5 ?_|refine q6 ?_)
      refine TC.cond (t := !(fitsB a.kids[k] y (d + 1) && a.kids[k].formed)) rfl (fun e9 => ?_) (fun e9 => ?_)
      · rw [Bool.not_eq_true', Bool.and_eq_false_iff] at e9
        repeat (first|refine q1 ?_|refine q3 ?_|refine q4 tab rfl rfl ?_|refine q5 ?_|refine q6 ?_|refine q8 ?_|refine q9 ?_|refine q15 ?_)
        rcases e9 with e9 | e9
        · exact retQ_ret rfl (by repeat (first|exact List.Sublist.refl _|refine List.Sublist.cons _ ?_)) (bad1 (fun hc => (of_decide_eq_false e9) (by omega)))
        · exact retQ_ret rfl (by repeat (first|exact List.Sublist.refl _|refine List.Sublist.cons _ ?_)) (bad3 (formedL_false hmem (by rw [e9]; simp)))
      · rw [Bool.not_eq_false'] at e9
        have hyy := hy' e9
        rw [Bool.and_eq_true] at e9
        have hfit := of_decide_eq_true e9.1
        repeat (first|refine q3 ?_|refine q6 ?_|refine q7 ?_|refine q13 ?_)
        refine TO.step rfl (OT.arith (r' := ((k + 1 : Nat) : Int)) rfl rfl rfl rfl rfl rfl rfl (by omega) ?_)
        repeat (first|refine q4 tab rfl rfl ?_|refine q5 ?_|refine q6 ?_)
        exact ⟨(k + 1, y'), (by repeat (first|exact trivial|refine And.intro rfl ?_)), (by repeat (first|exact trivial|refine And.intro rfl ?_)), rfl, rfl, (by repeat (first|exact List.Sublist.refl _|refine List.Sublist.cons _ ?_)), ⟨by simp only; omega, by simp only; omega, by simp only; omega, by simp only; omega, by simp only; rw [hnx, hI, e9.2, decide_eq_false (show ¬ a.kids[k].kind = 8 by omega)]; rfl⟩, by simp only; omega⟩
    rw [List.take_of_length_le (by omega)] at hy hd' hI
    have hall : (fitsB a z d && a.formed) = kindB a := by
      unfold fitsB
      rw [formed_eq, hI, hhd, decide_eq_true (by omega)]; rfl
    have good : ∀ {r : Bool}, r = kindB a → Low m L i bl (fitsB a z d && a.formed) (z - a.size) (.bool r) m (L.set i (cellI bl y)) := fun hr => ⟨rfl, by rw [hall, hr], y, rfl, fun _ => by omega⟩
    have hkb := kindB_4 k4
    repeat (first|(first|refine q1 ?_|refine q2 ?_|refine q3 ?_|refine q4 tab rfl rfl ?_|refine q5 ?_|refine q6 ?_|refine q10 ?_|refine q11 ?_|refine q14 ?_|refine q16 rfl ?_|refine q17 rfl ?_)|(refine qs rfl (ql tab 0 rfl rfl rfl rfl rfl rfl ?_)))
    (refine TO.splitP rfl rfl (fun e5 => ?_) (fun e5 => ?_))
    · simp only at e5
      repeat (first|(refine q4 tab rfl rfl ?_)|(refine qs rfl (ql tab 0 rfl rfl rfl rfl rfl rfl ?_)))
      refine TO.step rfl (OT.call rfl rfl rfl rfl rfl rfl goes45 ((name_law _ _ n (by rw [h2]; omega)).x ?_));
      rintro _ _ _ ⟨rfl, rfl, rfl⟩
      repeat (refine q4 tab rfl rfl ?_)
      refine TO.split (b := isName n) rfl rfl (fun e6 => ?_) (fun e6 => ?_)
      · repeat (first|(refine q4 tab rfl rfl ?_)|(refine qs rfl (ql tab 0 rfl rfl rfl rfl rfl rfl ?_)))
        refine TO.step rfl (OT.call rfl rfl rfl rfl rfl rfl goes46 ((basic_law _ _ n).x ?_));
        rintro _ _ _ ⟨rfl, rfl, rfl⟩
        repeat (first|refine q4 tab rfl rfl ?_|refine q5 ?_|refine q6 ?_|refine q8 ?_|refine q9 ?_|refine q15 ?_)
        refine retQ_ret rfl (by repeat (first|exact List.Sublist.refl _|refine List.Sublist.cons _ ?_)) (good ?_)
        rw [hkb, ← h2, e6, decide_eq_true (show a.kids.length = 0 by omega)]; rfl
      · repeat (first|refine q4 tab rfl rfl ?_|refine q5 ?_|refine q6 ?_|refine q8 ?_|refine q9 ?_|refine q15 ?_)
        refine retQ_ret rfl (by repeat (first|exact List.Sublist.refl _|refine List.Sublist.cons _ ?_)) (good ?_)
        rw [hkb, ← h2, e6]; simp
    · simp only at e5
      repeat (first|refine q4 tab rfl rfl ?_|refine q5 ?_|refine q6 ?_|refine q8 ?_|refine q9 ?_|refine q15 ?_)
      refine retQ_ret rfl (by repeat (first|exact List.Sublist.refl _|refine List.Sublist.cons _ ?_)) (good ?_)
      rw [hkb, decide_eq_false (show ¬ a.kids.length = 0 by omega)]; rfl
  have n4 := k4
  by_cases h7 : a.kind = 7
  · obtain rfl : q = 7 := h1.trans h7
    repeat (first|(refine q4 tab rfl rfl ?_)|(refine qs rfl (ql tab 0 rfl rfl rfl rfl rfl rfl ?_)))
    (refine TO.splitN rfl rfl (fun e1 => ?_) (fun e1 => ?_))
    · repeat (first|refine q1 ?_|refine q3 ?_|refine q4 tab rfl rfl ?_|refine q5 ?_|refine q6 ?_|refine q8 ?_|refine q15 ?_|refine q16 rfl ?_)
      exact retQ_ret rfl (by repeat (first|exact List.Sublist.refl _|refine List.Sublist.cons _ ?_)) (bad2 (by unfold headB; rw [← h2, decide_eq_false e1, decide_eq_false k4]; rfl))
    have hhd : headB a = true := by unfold headB; rw [← h2, decide_eq_true e1, decide_eq_true h7]; simp
    repeat (first|(first|refine q1 ?_|refine q2 ?_|refine q3 ?_|refine q4 tab rfl rfl ?_|refine q5 ?_|refine q6 ?_|refine q13 ?_|refine q17 rfl ?_)|(refine qs rfl (ql tab 0 rfl rfl rfl rfl rfl rfl ?_)))
    refine TC.loopK (ι := Nat × Int) [1, 2, 3, 43, 44] rfl (fun x => [(45, .int .i64 (x.1 : Int))]) (fun _ => m) (fun x => .cells b 0 (treeC ⟨7, n, u, s⟩) :: L.set i (cellI bl x.2)) (fun x => x.1 ≤ a.kids.length ∧ x.2 = z - 1 - sizeL (a.kids.take x.1) ∧ 0 ≤ x.2 ∧ (deepL (a.kids.take x.1) : Int) + d ≤ 100 ∧ formedL (a.kids.take x.1) = true) (fun x => a.kids.length - x.1) (0, z - 1) (by repeat (first|exact trivial|refine And.intro rfl ?_)) rfl (by repeat (exact List.Sublist.refl _)) ⟨Nat.zero_le _, by simp [sizeL], by simp only; omega, by simp [deepL]; omega, rfl⟩ ?_
    rintro ⟨k, y⟩ ⟨hk, hy, hy0, hd', hI⟩
    simp only at hk hy hy0 hd' hI ⊢
    repeat (first|refine q1 ?_|refine q3 ?_|refine q4 tab rfl rfl ?_|refine q5 ?_|refine q6 ?_)
    refine TC.condP rfl (fun hlt' => ?_) (fun hlt' => ?_)
    · have hlt : k < a.kids.length := by omega
      have hx : a.kids[k]? = some a.kids[k] := by simp [hlt]
      have hmem := List.getElem_mem hlt
      have e1' := sizeL_next a.kids k hlt
      have e2' := deepL_next a.kids k hlt
      have e3' := sizeL_take a.kids (k + 1)
      have e4' := deepL_take a.kids (k + 1)
      have hnx := formedL_next a.kids k hlt
      repeat (first|refine q1 ?_|refine q2 ?_|refine q3 ?_|refine q6 ?_|refine q13 ?_)
      refine TO.step rfl (OT.index tab rTree k h4 rfl rfl rfl rfl rfl (by first | rfl | omega) rfl hx ?_)
      rintro b' i' h' hrd hA
      have hk' := (rTree_iff.1 hrd).kind
      (refine TO.step rfl (OT.loadA0 tab hA rfl rfl rfl rfl rfl ?_))
      skip
      refine TO.step rfl (OT.alloc tab rfl rfl rfl rfl (fun b2 => ?_))
      skip
      (refine TO.step rfl (OT.storeL0 tab 0 rfl rfl rfl rfl rfl rfl rfl rfl ?_))
      repeat (first|(first|refine q1 ?_|refine q3 ?_|refine q4 tab rfl rfl ?_|refine q5 ?_|refine q6 ?_)|(refine qs rfl (ql tab 0 rfl rfl rfl rfl rfl rfl ?_)))
      (refine TO.splitP rfl rfl (fun e8 => ?_) (fun e8 => ?_))
      · repeat (first|refine q1 ?_|refine q3 ?_|refine q4 tab rfl rfl ?_|refine q5 ?_|refine q6 ?_|refine q8 ?_|refine q9 ?_|refine q15 ?_|refine q16 rfl ?_)
        exact retQ_ret rfl (by repeat (first|exact List.Sublist.refl _|refine List.Sublist.cons _ ?_)) (bad3 (formedL_false hmem (by rw [decide_eq_true (show a.kids[k].kind = 8 by omega)]; rfl)))
      repeat (first|(refine q4 tab rfl rfl ?_)|(refine qs rfl (qz tab 0 rfl rfl rfl rfl rfl rfl ?_)))
      refine TO.step rfl (OT.arith (r' := d + 1) rfl rfl rfl rfl rfl rfl rfl (by omega) ?_)
      repeat (refine q4 tab rfl rfl ?_)
      refine TO.step rfl (OT.call rfl rfl rfl rfl rfl rfl goes76 ((ih _ hmem _ _ h' (rTree_iff.1 hrd) (Nat.le_trans (Nat.le_of_lt (bulk_kid hmem)) hB) (d + 1) y (i + 2) bl (hset y) (by omega) (by omega)).x ?_));
      rintro _ _ L3 ⟨rfl, rfl, y', hL, hy'⟩
      have hL2 : ∀ (x1 x2 : Item), (x1 :: x2 :: L.set i (cellI bl y)).set (i + 2) (cellI bl y') = x1 :: x2 :: L.set i (cellI bl y') := fun x1 x2 => by simp [List.set_set]
      replace hL := hL.trans (hL2 (.cells b2 0 (treeC h')) _)
      subst hL
      repeat (first|refine q4 tab rfl rfl ?_|refine q5 ?_|refine q6 ?_)
      refine TC.cond (t := !(fitsB a.kids[k] y (d + 1) && a.kids[k].formed)) rfl (fun e9 => ?_) (fun e9 => ?_)
      · rw [Bool.not_eq_true', Bool.and_eq_false_iff] at e9
        repeat (first|refine q1 ?_|refine q3 ?_|refine q4 tab rfl rfl ?_|refine q5 ?_|refine q6 ?_|refine q8 ?_|refine q9 ?_|refine q15 ?_)
        rcases e9 with e9 | e9
        · exact retQ_ret rfl (by repeat (first|exact List.Sublist.refl _|refine List.Sublist.cons _ ?_)) (bad1 (fun hc => (of_decide_eq_false e9) (by omega)))
        · exact retQ_ret rfl (by repeat (first|exact List.Sublist.refl _|refine List.Sublist.cons _ ?_)) (bad3 (formedL_false hmem (by rw [e9]; simp)))
      · rw [Bool.not_eq_false'] at e9
        have hyy := hy' e9
        rw [Bool.and_eq_true] at e9
        have hfit := of_decide_eq_true e9.1
        repeat (first|refine q3 ?_|refine q6 ?_|refine q7 ?_|refine q13 ?_)
        refine TO.step rfl (OT.arith (r' := ((k + 1 : Nat) : Int)) rfl rfl rfl rfl rfl rfl rfl (by omega) ?_)
        repeat (first|refine q4 tab rfl rfl ?_|refine q5 ?_|refine q6 ?_)
        exact ⟨(k + 1, y'), (by repeat (first|exact trivial|refine And.intro rfl ?_)), (by repeat (first|exact trivial|refine And.intro rfl ?_)), rfl, rfl, (by repeat (first|exact List.Sublist.refl _|refine List.Sublist.cons _ ?_)), ⟨by simp only; omega, by simp only; omega, by simp only; omega, by simp only; omega, by simp only; rw [hnx, hI, e9.2, decide_eq_false (show ¬ a.kids[k].kind = 8 by omega)]; rfl⟩, by simp only; omega⟩
    rw [List.take_of_length_le (by omega)] at hy hd' hI
    have hall : (fitsB a z d && a.formed) = kindB a := by
      unfold fitsB
      rw [formed_eq, hI, hhd, decide_eq_true (by omega)]; rfl
    have good : ∀ {r : Bool}, r = kindB a → Low m L i bl (fitsB a z d && a.formed) (z - a.size) (.bool r) m (L.set i (cellI bl y)) := fun hr => ⟨rfl, by rw [hall, hr], y, rfl, fun _ => by omega⟩
    have hkb := kindB_7 h7
    repeat (first|(first|refine q1 ?_|refine q2 ?_|refine q3 ?_|refine q4 tab rfl rfl ?_|refine q5 ?_|refine q6 ?_|refine q7 ?_|refine q10 ?_|refine q11 ?_|refine q13 ?_|refine q14 ?_|refine q17 rfl ?_)|(refine qs rfl (ql tab 0 rfl rfl rfl rfl rfl rfl ?_)))
    (refine TO.splitP rfl rfl (fun e5 => ?_) (fun e5 => ?_))
    · simp only at e5
      repeat (first|(first|refine q4 tab rfl rfl ?_|refine q5 ?_|refine q6 ?_|refine q15 ?_)|(refine qs rfl (ql tab 0 rfl rfl rfl rfl rfl rfl ?_)))
      refine retQ_ret rfl (by repeat (first|exact List.Sublist.refl _|refine List.Sublist.cons _ ?_)) (good ?_)
      rw [hkb, decide_eq_true (show 0 ≤ a.num by omega), Bool.true_and]
      congr 1
      apply propext
      (try simp only)
      omega
    · simp only at e5
      repeat (first|refine q4 tab rfl rfl ?_|refine q5 ?_|refine q6 ?_|refine q15 ?_)
      refine retQ_ret rfl (by repeat (first|exact List.Sublist.refl _|refine List.Sublist.cons _ ?_)) (good ?_)
      rw [hkb, decide_eq_false (show ¬ 0 ≤ a.num by omega)]; rfl
  have n7 := h7
  (refine TO.splitN rfl rfl (fun e0 => ?_) (fun e0 => ?_))
  · repeat (first|(refine q4 tab rfl rfl ?_)|(refine qs rfl (ql tab 0 rfl rfl rfl rfl rfl rfl ?_)))
    (refine TO.splitN rfl rfl (fun e1 => ?_) (fun e1 => ?_))
    · repeat (first|refine q1 ?_|refine q3 ?_|refine q4 tab rfl rfl ?_|refine q5 ?_|refine q6 ?_|refine q8 ?_|refine q15 ?_|refine q16 rfl ?_)
      exact retQ_ret rfl (by repeat (first|exact List.Sublist.refl _|refine List.Sublist.cons _ ?_)) (bad2 (by unfold headB; rw [← h2, decide_eq_false e1, decide_eq_false k4]; rfl))
    repeat (first|(refine q4 tab rfl rfl ?_)|(refine qs rfl (ql tab 0 rfl rfl rfl rfl rfl rfl ?_)))
    (refine TO.splitN rfl rfl (fun e3 => ?_) (fun e3 => ?_))
    · repeat (first|(first|refine q4 tab rfl rfl ?_|refine q5 ?_|refine q6 ?_)|(refine qs rfl (ql tab 0 rfl rfl rfl rfl rfl rfl ?_)))
      refine TC.condN rfl (fun e2 => ?_) (fun e2 => ?_)
      · repeat (first|refine q1 ?_|refine q3 ?_|refine q4 tab rfl rfl ?_|refine q5 ?_|refine q6 ?_|refine q8 ?_|refine q15 ?_)
        exact retQ_ret rfl (by repeat (first|exact List.Sublist.refl _|refine List.Sublist.cons _ ?_)) (bad2 (by unfold headB; rw [← h3, decide_eq_false e2, decide_eq_false h7]; simp))
      have hhd : headB a = true := by unfold headB; rw [← h2, ← h3, decide_eq_true e1, decide_eq_true e2]; simp
      repeat (first|(first|refine q1 ?_|refine q2 ?_|refine q3 ?_|refine q4 tab rfl rfl ?_|refine q5 ?_|refine q6 ?_|refine q13 ?_)|(refine qs rfl (ql tab 0 rfl rfl rfl rfl rfl rfl ?_)))
      refine TC.loopK (ι := Nat × Int) [1, 2, 3, 43, 44] rfl (fun x => [(45, .int .i64 (x.1 : Int))]) (fun _ => m) (fun x => .cells b 0 (treeC ⟨q, n, u, s⟩) :: L.set i (cellI bl x.2)) (fun x => x.1 ≤ a.kids.length ∧ x.2 = z - 1 - sizeL (a.kids.take x.1) ∧ 0 ≤ x.2 ∧ (deepL (a.kids.take x.1) : Int) + d ≤ 100 ∧ formedL (a.kids.take x.1) = true) (fun x => a.kids.length - x.1) (0, z - 1) (by repeat (first|exact trivial|refine And.intro rfl ?_)) rfl (by repeat (exact List.Sublist.refl _)) ⟨Nat.zero_le _, by simp [sizeL], by simp only; omega, by simp [deepL]; omega, rfl⟩ ?_
      rintro ⟨k, y⟩ ⟨hk, hy, hy0, hd', hI⟩
      simp only at hk hy hy0 hd' hI ⊢
      repeat (first|refine q1 ?_|refine q3 ?_|refine q4 tab rfl rfl ?_|refine q5 ?_|refine q6 ?_)
      refine TC.condP rfl (fun hlt' => ?_) (fun hlt' => ?_)
      · have hlt : k < a.kids.length := by omega
        have hx : a.kids[k]? = some a.kids[k] := by simp [hlt]
        have hmem := List.getElem_mem hlt
        have e1' := sizeL_next a.kids k hlt
        have e2' := deepL_next a.kids k hlt
        have e3' := sizeL_take a.kids (k + 1)
        have e4' := deepL_take a.kids (k + 1)
        have hnx := formedL_next a.kids k hlt
        repeat (first|refine q1 ?_|refine q2 ?_|refine q3 ?_|refine q6 ?_|refine q13 ?_)
        refine TO.step rfl (OT.index tab rTree k h4 rfl rfl rfl rfl rfl (by first | rfl | omega) rfl hx ?_)
        rintro b' i' h' hrd hA
        have hk' := (rTree_iff.1 hrd).kind
        (refine TO.step rfl (OT.loadA0 tab hA rfl rfl rfl rfl rfl ?_))
        skip
        refine TO.step rfl (OT.alloc tab rfl rfl rfl rfl (fun b2 => ?_))
        skip
        (refine TO.step rfl (OT.storeL0 tab 0 rfl rfl rfl rfl rfl rfl rfl rfl ?_))
        repeat (first|(first|refine q1 ?_|refine q3 ?_|refine q4 tab rfl rfl ?_|refine q5 ?_|refine q6 ?_)|(refine qs rfl (ql tab 0 rfl rfl rfl rfl rfl rfl ?_)))
        (refine TO.splitP rfl rfl (fun e8 => ?_) (fun e8 => ?_))
        · repeat (first|refine q1 ?_|refine q3 ?_|refine q4 tab rfl rfl ?_|refine q5 ?_|refine q6 ?_|refine q8 ?_|refine q9 ?_|refine q15 ?_|refine q16 rfl ?_)
          exact retQ_ret rfl (by repeat (first|exact List.Sublist.refl _|refine List.Sublist.cons _ ?_)) (bad3 (formedL_false hmem (by rw [decide_eq_true (show a.kids[k].kind = 8 by omega)]; rfl)))
        repeat (first|(refine q4 tab rfl rfl ?_)|(refine qs rfl (qz tab 0 rfl rfl rfl rfl rfl rfl ?_)))
        refine TO.step rfl (OT.arith (r' := d + 1) rfl rfl rfl rfl rfl rfl rfl (by omega) ?_)
        repeat (refine q4 tab rfl rfl ?_)
        refine TO.step rfl (OT.call rfl rfl rfl rfl rfl rfl goes76 ((ih _ hmem _ _ h' (rTree_iff.1 hrd) (Nat.le_trans (Nat.le_of_lt (bulk_kid hmem)) hB) (d + 1) y (i + 2) bl (hset y) (by omega) (by omega)).x ?_));
        rintro _ _ L3 ⟨rfl, rfl, y', hL, hy'⟩
        have hL2 : ∀ (x1 x2 : Item), (x1 :: x2 :: L.set i (cellI bl y)).set (i + 2) (cellI bl y') = x1 :: x2 :: L.set i (cellI bl y') := fun x1 x2 => by simp [List.set_set]
        replace hL := hL.trans (hL2 (.cells b2 0 (treeC h')) _)
        subst hL
        repeat (first|refine q4 tab rfl rfl ?_|refine q5 ?_|refine q6 ?_)
        refine TC.cond (t := !(fitsB a.kids[k] y (d + 1) && a.kids[k].formed)) rfl (fun e9 => ?_) (fun e9 => ?_)
        · rw [Bool.not_eq_true', Bool.and_eq_false_iff] at e9
          repeat (first|refine q1 ?_|refine q3 ?_|refine q4 tab rfl rfl ?_|refine q5 ?_|refine q6 ?_|refine q8 ?_|refine q9 ?_|refine q15 ?_)
          rcases e9 with e9 | e9
          · exact retQ_ret rfl (by repeat (first|exact List.Sublist.refl _|refine List.Sublist.cons _ ?_)) (bad1 (fun hc => (of_decide_eq_false e9) (by omega)))
          · exact retQ_ret rfl (by repeat (first|exact List.Sublist.refl _|refine List.Sublist.cons _ ?_)) (bad3 (formedL_false hmem (by rw [e9]; simp)))
        · rw [Bool.not_eq_false'] at e9
          have hyy := hy' e9
          rw [Bool.and_eq_true] at e9
          have hfit := of_decide_eq_true e9.1
          repeat (first|refine q3 ?_|refine q6 ?_|refine q7 ?_|refine q13 ?_)
          refine TO.step rfl (OT.arith (r' := ((k + 1 : Nat) : Int)) rfl rfl rfl rfl rfl rfl rfl (by omega) ?_)
          repeat (first|refine q4 tab rfl rfl ?_|refine q5 ?_|refine q6 ?_)
          exact ⟨(k + 1, y'), (by repeat (first|exact trivial|refine And.intro rfl ?_)), (by repeat (first|exact trivial|refine And.intro rfl ?_)), rfl, rfl, (by repeat (first|exact List.Sublist.refl _|refine List.Sublist.cons _ ?_)), ⟨by simp only; omega, by simp only; omega, by simp only; omega, by simp only; omega, by simp only; rw [hnx, hI, e9.2, decide_eq_false (show ¬ a.kids[k].kind = 8 by omega)]; rfl⟩, by simp only; omega⟩
      rw [List.take_of_length_le (by omega)] at hy hd' hI
      have hall : (fitsB a z d && a.formed) = kindB a := by
        unfold fitsB
        rw [formed_eq, hI, hhd, decide_eq_true (by omega)]; rfl
      have good : ∀ {r : Bool}, r = kindB a → Low m L i bl (fitsB a z d && a.formed) (z - a.size) (.bool r) m (L.set i (cellI bl y)) := fun hr => ⟨rfl, by rw [hall, hr], y, rfl, fun _ => by omega⟩
      by_cases hA : a.kind = 1 ∨ a.kind = 2 ∨ a.kind = 3 ∨ a.kind = 8
      · have hkb := kindB_leaf hA
        rcases hA with hA | hA | hA | hA
        · obtain rfl : q = 1 := h1.trans hA
          repeat (first|(first|refine q1 ?_|refine q2 ?_|refine q3 ?_|refine q4 tab rfl rfl ?_|refine q5 ?_|refine q6 ?_|refine q8 ?_|refine q9 ?_|refine q10 ?_|refine q11 ?_|refine q13 ?_|refine q14 ?_|refine q15 ?_|refine q16 rfl ?_)|(refine qs rfl (ql tab 0 rfl rfl rfl rfl rfl rfl ?_)))
          refine retQ_ret rfl (by repeat (first|exact List.Sublist.refl _|refine List.Sublist.cons _ ?_)) (good ?_)
          rw [hkb]
          congr 1
          apply propext
          (try simp only)
          omega
        · obtain rfl : q = 2 := h1.trans hA
          repeat (first|(first|refine q1 ?_|refine q2 ?_|refine q3 ?_|refine q4 tab rfl rfl ?_|refine q5 ?_|refine q6 ?_|refine q8 ?_|refine q9 ?_|refine q10 ?_|refine q11 ?_|refine q13 ?_|refine q14 ?_|refine q15 ?_|refine q16 rfl ?_|refine q17 rfl ?_)|(refine qs rfl (ql tab 0 rfl rfl rfl rfl rfl rfl ?_)))
          refine retQ_ret rfl (by repeat (first|exact List.Sublist.refl _|refine List.Sublist.cons _ ?_)) (good ?_)
          rw [hkb]
          congr 1
          apply propext
          (try simp only)
          omega
        · obtain rfl : q = 3 := h1.trans hA
          repeat (first|(first|refine q1 ?_|refine q2 ?_|refine q3 ?_|refine q4 tab rfl rfl ?_|refine q5 ?_|refine q6 ?_|refine q8 ?_|refine q9 ?_|refine q10 ?_|refine q11 ?_|refine q13 ?_|refine q14 ?_|refine q15 ?_|refine q16 rfl ?_|refine q17 rfl ?_)|(refine qs rfl (ql tab 0 rfl rfl rfl rfl rfl rfl ?_)))
          refine retQ_ret rfl (by repeat (first|exact List.Sublist.refl _|refine List.Sublist.cons _ ?_)) (good ?_)
          rw [hkb]
          congr 1
          apply propext
          (try simp only)
          omega
        · obtain rfl : q = 8 := h1.trans hA
          repeat (first|(first|refine q1 ?_|refine q2 ?_|refine q3 ?_|refine q4 tab rfl rfl ?_|refine q5 ?_|refine q6 ?_|refine q8 ?_|refine q9 ?_|refine q10 ?_|refine q11 ?_|refine q14 ?_|refine q15 ?_|refine q16 rfl ?_|refine q17 rfl ?_)|(refine qs rfl (ql tab 0 rfl rfl rfl rfl rfl rfl ?_)))
          refine retQ_ret rfl (by repeat (first|exact List.Sublist.refl _|refine List.Sublist.cons _ ?_)) (good ?_)
          rw [hkb]
          congr 1
          apply propext
          (try simp only)
          omega
      by_cases hC : a.kind = 5 ∨ a.kind = 6
      · have hkb := kindB_5 hC
        rcases hC with hC | hC
        · obtain rfl : q = 5 := h1.trans hC
          repeat (first|(first|refine q1 ?_|refine q2 ?_|refine q3 ?_|refine q4 tab rfl rfl ?_|refine q5 ?_|refine q6 ?_|refine q8 ?_|refine q9 ?_|refine q10 ?_|refine q11 ?_|refine q13 ?_|refine q14 ?_|refine q15 ?_|refine q16 rfl ?_|refine q17 rfl ?_)|(refine qs rfl (ql tab 0 rfl rfl rfl rfl rfl rfl ?_)))
          refine retQ_ret rfl (by repeat (first|exact List.Sublist.refl _|refine List.Sublist.cons _ ?_)) (good ?_)
          rw [hkb]
          congr 1
          apply propext
          (try simp only)
          omega
        · obtain rfl : q = 6 := h1.trans hC
          repeat (first|(first|refine q1 ?_|refine q2 ?_|refine q3 ?_|refine q4 tab rfl rfl ?_|refine q5 ?_|refine q6 ?_|refine q8 ?_|refine q9 ?_|refine q10 ?_|refine q11 ?_|refine q14 ?_|refine q15 ?_|refine q16 rfl ?_|refine q17 rfl ?_)|(refine qs rfl (ql tab 0 rfl rfl rfl rfl rfl rfl ?_)))
          refine retQ_ret rfl (by repeat (first|exact List.Sublist.refl _|refine List.Sublist.cons _ ?_)) (good ?_)
          rw [hkb]
          congr 1
          apply propext
          (try simp only)
          omega
      have hkb := kindB_no hA n4 hC n7
      repeat (first|(first|refine q1 ?_|refine q2 ?_|refine q3 ?_|refine q4 tab rfl rfl ?_|refine q5 ?_|refine q6 ?_|refine q10 ?_|refine q11 ?_|refine q14 ?_)|(refine qs rfl (ql tab 0 rfl rfl rfl rfl rfl rfl ?_)))
      refine TC.condP rfl (fun e5 => ?_) (fun e5 => ?_)
      · simp only at e5; omega
      repeat (first|refine q1 ?_|refine q3 ?_|refine q4 tab rfl rfl ?_|refine q5 ?_|refine q6 ?_)
      refine TC.condP rfl (fun e5 => ?_) (fun e5 => ?_)
      · simp only at e5; omega
      repeat (first|refine q1 ?_|refine q3 ?_|refine q4 tab rfl rfl ?_|refine q5 ?_|refine q6 ?_)
      refine TC.condP rfl (fun e5 => ?_) (fun e5 => ?_)
      · simp only at e5; omega
      repeat (first|refine q3 ?_|refine q4 tab rfl rfl ?_|refine q5 ?_|refine q6 ?_)
      refine TC.condP rfl (fun e5 => ?_) (fun e5 => ?_)
      · simp only at e5; omega
      repeat (first|refine q1 ?_|refine q3 ?_|refine q4 tab rfl rfl ?_|refine q5 ?_|refine q6 ?_)
      refine TC.condP rfl (fun e5 => ?_) (fun e5 => ?_)
      · simp only at e5; omega
      repeat (first|refine q1 ?_|refine q3 ?_|refine q4 tab rfl rfl ?_|refine q5 ?_|refine q6 ?_)
      refine TC.condP rfl (fun e5 => ?_) (fun e5 => ?_)
      · simp only at e5; omega
      repeat (first|refine q3 ?_|refine q4 tab rfl rfl ?_|refine q5 ?_|refine q6 ?_)
      refine TC.condP rfl (fun e5 => ?_) (fun e5 => ?_)
      · simp only at e5; omega
      repeat (first|(first|refine q1 ?_|refine q3 ?_|refine q4 tab rfl rfl ?_|refine q6 ?_|refine q7 ?_|refine q13 ?_)|(refine qs rfl (ql tab 0 rfl rfl rfl rfl rfl rfl ?_)))
      (refine TO.splitP rfl rfl (fun e5 => ?_) (fun e5 => ?_))
      · simp only at e5; omega
      repeat (first|refine q4 tab rfl rfl ?_|refine q5 ?_|refine q6 ?_|refine q15 ?_)
      exact retQ_ret rfl (by repeat (first|exact List.Sublist.refl _|refine List.Sublist.cons _ ?_)) (good hkb.symm)
    · simp only at e3; omega
  · simp only at e0; omega
end Go.Sep

/-
  The walks of isSound and Same.
-/
set_option linter.unusedVariables false
set_option linter.unusedSimpArgs false
namespace Go.Sep
open Go.Proofs
attribute [local irreducible] TC TO OT TCallX TCall DO DOt thenQ blockQ retQ At

set_option maxHeartbeats 800000 in
theorem isSound_law (a : Tree) (m : Mem) (L : List Item) (h : HTree) (hr : TreeRep m h a) (hB : a.bulk ≤ 1048576) : TCall Try.prog 40 ⟨[treeV h]⟩ m L (Ret (.bool a.sound) m L) := by
  unfold TCall
  refine TCallX.enter Try.func40 rfl 6 rfl ?_
  repeat (first|refine q1 ?_|refine q3 ?_)
  refine TO.step rfl (OT.box rfl rfl rfl rfl rfl (fun b => ?_))
  repeat (first|refine q1 ?_|refine q3 ?_|refine q4 tab rfl rfl ?_|refine q5 ?_|refine q6 ?_)
  refine TO.step rfl (OT.alloc tab rfl rfl rfl rfl (fun b2 => ?_))
  skip
  (refine TO.step rfl (OT.storeL0 tab 0 rfl rfl rfl rfl rfl rfl rfl rfl ?_))
  repeat (first|(first|refine q1 ?_|refine q3 ?_|refine q5 ?_|refine q6 ?_)|(refine qs rfl (qz tab 1 rfl rfl rfl rfl rfl rfl ?_)))
  refine TO.step rfl (OT.call rfl rfl rfl rfl rfl rfl goes76 ((sound_law a _ _ h hr hB 1 20000 0 b2 rfl (by omega) (by omega)).x ?_));
  rintro v _ L3 ⟨rfl, rfl, y, rfl, _⟩
  repeat (first|refine q4 tab rfl rfl ?_|refine q5 ?_|refine q6 ?_|refine q15 ?_)
  refine retQ_ret rfl (by repeat (first|exact List.Sublist.refl _|refine List.Sublist.cons _ ?_)) ⟨rfl, rfl, ?_⟩
  unfold fitsB Tree.sound
  congr 2
  congr 1
  apply propext
  omega

attribute [local irreducible] Tree.sound

def sameB (a c : Tree) : Bool := a.sound && (c.sound && teq a c)

set_option maxHeartbeats 800000 in
theorem same_law (a c : Tree) (m : Mem) (L : List Item) (h g : HTree) (hr : TreeRep m h a) (gr : TreeRep m g c) (hB : a.bulk ≤ 1048576) (gB : c.bulk ≤ 1048576) : TCall Try.prog 14 ⟨[treeV h, treeV g]⟩ m L (Ret (.bool (sameB a c)) m L) := by
  unfold TCall
  refine TCallX.enter Try.func14 rfl 16 rfl ?_
  repeat (first|refine q1 ?_|refine q3 ?_)
  refine TO.step rfl (OT.box rfl rfl rfl rfl rfl (fun b => ?_))
  skip
  refine TO.step rfl (OT.box rfl rfl rfl rfl rfl (fun b2 => ?_))
  repeat (first|(first|refine q1 ?_|refine q3 ?_|refine q4 tab rfl rfl ?_|refine q5 ?_|refine q6 ?_)|(refine qs rfl (qz tab 1 rfl rfl rfl rfl rfl rfl ?_)))
  refine TO.step rfl (OT.call rfl rfl rfl rfl rfl rfl goes40 ((isSound_law a _ _ h hr hB).x ?_));
  rintro _ _ _ ⟨rfl, rfl, rfl⟩
  repeat (refine q4 tab rfl rfl ?_)
  refine TO.split (b := a.sound) rfl rfl (fun e1 => ?_) (fun e1 => ?_)
  · repeat ((refine qs rfl (qz tab 0 rfl rfl rfl rfl rfl rfl ?_)))
    refine TO.step rfl (OT.call rfl rfl rfl rfl rfl rfl goes40 ((isSound_law c _ _ g gr gB).x ?_));
    rintro _ _ _ ⟨rfl, rfl, rfl⟩
    repeat (refine q4 tab rfl rfl ?_)
    refine TO.split (b := c.sound) rfl rfl (fun e2 => ?_) (fun e2 => ?_)
    · repeat ((first|refine qs rfl (qz tab 0 rfl rfl rfl rfl rfl rfl ?_)|refine qs rfl (qz tab 1 rfl rfl rfl rfl rfl rfl ?_)))
      refine TO.step rfl (OT.call rfl rfl rfl rfl rfl rfl goes41 ((equal_law a c _ _ h g hr gr).x ?_));
      rintro _ _ _ ⟨rfl, rfl, rfl⟩
      repeat (first|refine q4 tab rfl rfl ?_|refine q5 ?_|refine q6 ?_|refine q15 ?_)
      refine retQ_ret rfl (by repeat (first|exact List.Sublist.refl _|refine List.Sublist.cons _ ?_)) ⟨rfl, rfl, ?_⟩
      rw [sameB, e1, e2]; rfl
    · repeat (first|refine q4 tab rfl rfl ?_|refine q5 ?_|refine q6 ?_|refine q15 ?_)
      refine retQ_ret rfl (by repeat (first|exact List.Sublist.refl _|refine List.Sublist.cons _ ?_)) ⟨rfl, rfl, ?_⟩
      rw [sameB, e1, e2]; rfl
  · repeat (first|refine q4 tab rfl rfl ?_|refine q5 ?_|refine q6 ?_|refine q15 ?_)
    refine retQ_ret rfl (by repeat (first|exact List.Sublist.refl _|refine List.Sublist.cons _ ?_)) ⟨rfl, rfl, ?_⟩
    rw [sameB, e1]; rfl
set_option maxHeartbeats 800000 in
theorem same_ref (a c : Tree) (m : Mem) (L : List Item) (h g : HTree) (hr : TreeRep m h a) (gr : TreeRep m g c) (hB : a.bulk ≤ 1048576) (gB : c.bulk ≤ 1048576) : TCall Try.prog 15 ⟨[treeV h, treeV g]⟩ m L (Ret (.bool (sameB a c)) m L) := by
  unfold TCall
  refine TCallX.enter Try.func15 rfl 16 rfl ?_
  repeat (first|refine q1 ?_|refine q3 ?_)
  refine TO.step rfl (OT.box rfl rfl rfl rfl rfl (fun b => ?_))
  skip
  refine TO.step rfl (OT.box rfl rfl rfl rfl rfl (fun b2 => ?_))
  repeat (first|(first|refine q1 ?_|refine q3 ?_|refine q4 tab rfl rfl ?_|refine q5 ?_|refine q6 ?_)|(refine qs rfl (qz tab 1 rfl rfl rfl rfl rfl rfl ?_)))
  refine TO.step rfl (OT.call rfl rfl rfl rfl rfl rfl goes42 ((isSound_ref a _ _ h hr hB).x ?_));
  rintro _ _ _ ⟨rfl, rfl, rfl⟩
  repeat (refine q4 tab rfl rfl ?_)
  refine TO.split (b := a.sound) rfl rfl (fun e1 => ?_) (fun e1 => ?_)
  · repeat ((refine qs rfl (qz tab 0 rfl rfl rfl rfl rfl rfl ?_)))
    refine TO.step rfl (OT.call rfl rfl rfl rfl rfl rfl goes42 ((isSound_ref c _ _ g gr gB).x ?_));
    rintro _ _ _ ⟨rfl, rfl, rfl⟩
    repeat (refine q4 tab rfl rfl ?_)
    refine TO.split (b := c.sound) rfl rfl (fun e2 => ?_) (fun e2 => ?_)
    · repeat ((first|refine qs rfl (qz tab 0 rfl rfl rfl rfl rfl rfl ?_)|refine qs rfl (qz tab 1 rfl rfl rfl rfl rfl rfl ?_)))
      refine TO.step rfl (OT.call rfl rfl rfl rfl rfl rfl goes13 ((equal_ref a c _ _ h g hr gr).x ?_));
      rintro _ _ _ ⟨rfl, rfl, rfl⟩
      repeat (first|refine q4 tab rfl rfl ?_|refine q5 ?_|refine q6 ?_|refine q15 ?_)
      refine retQ_ret rfl (by repeat (first|exact List.Sublist.refl _|refine List.Sublist.cons _ ?_)) ⟨rfl, rfl, ?_⟩
      rw [sameB, e1, e2]; rfl
    · repeat (first|refine q4 tab rfl rfl ?_|refine q5 ?_|refine q6 ?_|refine q15 ?_)
      refine retQ_ret rfl (by repeat (first|exact List.Sublist.refl _|refine List.Sublist.cons _ ?_)) ⟨rfl, rfl, ?_⟩
      rw [sameB, e1, e2]; rfl
  · repeat (first|refine q4 tab rfl rfl ?_|refine q5 ?_|refine q6 ?_|refine q15 ?_)
    refine retQ_ret rfl (by repeat (first|exact List.Sublist.refl _|refine List.Sublist.cons _ ?_)) ⟨rfl, rfl, ?_⟩
    rw [sameB, e1]; rfl
end Go.Sep
