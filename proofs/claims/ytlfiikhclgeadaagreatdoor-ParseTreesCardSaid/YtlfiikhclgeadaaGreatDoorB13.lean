/- ScRef5 -/
import Derived.Test.YtlfiikhclgeadaaGreatDoorB12
set_option linter.unusedVariables false
set_option linter.unusedSimpArgs false
namespace Go.Sep
open Go.Proofs
attribute [local irreducible] TC TO OT TCallX TCall DO DOt thenQ blockQ retQ At
def mark2 : List Str := [[58, 61], [61, 61], [33, 61], [60, 61], [62, 61], [38, 38], [124, 124]]
def mark1 : List Str := [[40], [41], [123], [125], [91], [93], [44], [59], [46], [58], [61], [60], [62], [43], [45], [42], [47], [37], [38], [33]]
theorem mark2_len : ∀ p ∈ mark2, p.length = 2 := by decide
theorem mark1_len : ∀ p ∈ mark1, p.length = 1 := by decide
def markT (s : Str) : Str := (markL.find? (fun p => prefixB p s)).getD []
theorem mark2_rep {m : Mem} {b : Nat} (h : At m b 0 (encs rStr mark2)) : SlRep rStr m ⟨some ⟨b, 0, none⟩, 7, 7⟩ mark2 :=
 ⟨rfl, Nat.le_refl _, (by show 7 * 16 ≤ _; decide), mark2, all_refl2 mark2, .inr ⟨b, 0, rfl, h⟩⟩
theorem mark1_rep {m : Mem} {b : Nat} (h : At m b 0 (encs rStr mark1)) : SlRep rStr m ⟨some ⟨b, 0, none⟩, 20, 20⟩ mark1 :=
 ⟨rfl, Nat.le_refl _, (by show 20 * 16 ≤ _; decide), mark1, all_refl2 mark1, .inr ⟨b, 0, rfl, h⟩⟩
theorem pre_at {s p : Str} {a n : Nat} (hp : p.length = n) (h : a + n ≤ s.length) : prefixB p (s.drop a) = decide ((s.take (a + n)).drop a = p) := by
 rw [Bool.eq_iff_iff, prefixB_iff, decide_eq_true_iff, hp, List.length_drop, List.drop_take, Nat.add_sub_cancel_left]
 exact ⟨fun h => h.2, fun h2 => ⟨by omega, h2⟩⟩
set_option maxHeartbeats 2000000 in
theorem mark_ref (m : Mem) (L : List Item) (s : Str) (a : Nat) (ha : a < s.length) (hl : s.length ≤ 70000) : TCall Tryz.prog 76 ⟨[strV s, .int .i64 (a : Int)]⟩ m L (Made m L fun r _ => r = strV (markT (s.drop a))) := by
 unfold TCall
 refine TCallX.enter Tryz.func76 rfl 46 rfl ?_
 repeat (first|refine q1 ?_|refine q3 ?_|refine q4 tab rfl rfl ?_|refine q5 ?_|refine q6 ?_)
 refine TO.step rfl (OT.lit tab rfl rfl rfl rfl (fun b1 => ?_))
 refine TO.freeze fun m1 hm1 hA1 => ?_
 have hw1 := mark2_rep hA1
 repeat (first|refine q2 ?_|refine q4 tab rfl rfl ?_|refine q5 ?_|refine q6 ?_)
 refine TC.loopK (ι := Nat) [0, 1, 9, 10] rfl (fun k => [(11, .int .i64 (k : Int))]) (fun _ => m1) (fun _ => L) (fun k => k ≤ 7 ∧ markL.find? (fun p => prefixB p (s.drop a)) = ((mark2.drop k) ++ mark1).find? (fun p => prefixB p (s.drop a))) (fun k => 7 - k) 0 (by repeat (first|exact trivial|refine And.intro rfl ?_)) rfl (by repeat (exact List.Sublist.refl _)) ⟨Nat.zero_le _, rfl⟩ ?_
 rintro k ⟨hk, hI⟩
 have hm2l : mark2.length = 7 := rfl
 repeat (first|refine q1 ?_|refine q3 ?_|refine q4 tab rfl rfl ?_|refine q5 ?_|refine q6 ?_)
 refine TC.condP rfl (fun g1 => ?_) (fun g1 => ?_)
 ·have hlt : k < mark2.length := by omega
  have hx : mark2[k]? = some mark2[k] := by simp [hlt]
  have h2 := mark2_len mark2[k] (List.getElem_mem hlt)
  have hcons := List.drop_eq_getElem_cons hlt
  repeat (first|refine q1 ?_|refine q2 ?_|refine q3 ?_|refine q6 ?_|refine q13 ?_)
  refine TO.step rfl (OT.index tab rStr k hw1 rfl rfl rfl rfl rfl (by first | rfl | omega | (simp only; omega)) rfl hx ?_)
  rintro b i hd rfl hA
  (refine TO.step rfl (OT.loadA0 tab hA rfl rfl rfl rfl rfl ?_))
  repeat (first|refine q1 ?_|refine q3 ?_|refine q4 tab rfl rfl ?_|refine q5 ?_|refine q6 ?_)
  refine TO.step rfl (OT.arith (r' := ((a + 2 : Nat) : Int)) rfl rfl rfl rfl rfl rfl rfl (by omega) ?_)
  repeat (refine q4 tab rfl rfl ?_)
  (refine TO.splitP rfl rfl (fun g2 => ?_) (fun g2 => ?_))
  ·repeat (refine q4 tab rfl rfl ?_)
   refine TO.step rfl (OT.arith (r' := ((a + 2 : Nat) : Int)) rfl rfl rfl rfl rfl rfl rfl (by omega) ?_)
   refine TO.step rfl (OT.sub tab a (a + 2) rfl rfl rfl rfl rfl rfl rfl (.inr rfl) (.inr rfl) (by omega) (by omega) ?_)
   have hpre := pre_at (s := s) h2 (show a + 2 ≤ s.length by omega)
   repeat (first|refine q4 tab rfl rfl ?_|refine q5 ?_|refine q6 ?_)
   refine TC.condP rfl (fun g3 => ?_) (fun g3 => ?_)
   ·repeat (first|refine q1 ?_|refine q3 ?_|refine q4 tab rfl rfl ?_|refine q5 ?_|refine q6 ?_|refine q8 ?_|refine q9 ?_|refine q15 ?_)
    refine retQ_ret rfl (by repeat (exact List.Sublist.refl _)) ⟨hm1, rfl, ?_⟩
    rw [decide_eq_true g3] at hpre
    rw [markT, hI, hcons, List.cons_append, List.find?_cons_of_pos (p := fun p => prefixB p (s.drop a)) hpre]
    rfl
   ·rw [decide_eq_false g3] at hpre
    repeat (first|refine q3 ?_|refine q6 ?_|refine q7 ?_|refine q13 ?_)
    refine TO.step rfl (OT.arith (r' := ((k + 1 : Nat) : Int)) rfl rfl rfl rfl rfl rfl rfl (by omega) ?_)
    repeat (first|refine q4 tab rfl rfl ?_|refine q5 ?_|refine q6 ?_)
    exact ⟨k + 1, (by repeat (first|exact trivial|refine And.intro rfl ?_)), (by repeat (first|exact trivial|refine And.intro rfl ?_)), rfl, rfl, (by repeat (exact List.Sublist.refl _)), ⟨by omega, by rw [hI, hcons, List.cons_append, List.find?_cons_of_neg (p := fun p => prefixB p (s.drop a)) (by show ¬ prefixB mark2[k] (s.drop a) = true; rw [hpre]; decide)]⟩, by omega⟩
  ·repeat (first|refine q3 ?_|refine q4 tab rfl rfl ?_|refine q5 ?_|refine q6 ?_|refine q7 ?_|refine q13 ?_|refine q17 rfl ?_)
   refine TO.step rfl (OT.arith (r' := ((k + 1 : Nat) : Int)) rfl rfl rfl rfl rfl rfl rfl (by omega) ?_)
   repeat (first|refine q4 tab rfl rfl ?_|refine q5 ?_|refine q6 ?_)
   refine ⟨k + 1, (by repeat (first|exact trivial|refine And.intro rfl ?_)), (by repeat (first|exact trivial|refine And.intro rfl ?_)), rfl, rfl, (by repeat (exact List.Sublist.refl _)), ⟨by omega, ?_⟩, by omega⟩
   rw [hI, hcons, List.cons_append, List.find?_cons_of_neg (p := fun p => prefixB p (s.drop a))]
   show ¬ prefixB mark2[k] (s.drop a) = true
   rw [prefixB_iff, List.length_drop, h2]
   omega
 have hk7 : k = 7 := by omega
 subst hk7
 rw [show mark2.drop 7 ++ mark1 = mark1 from rfl] at hI
 repeat (first|refine q1 ?_|refine q3 ?_|refine q6 ?_|refine q10 ?_|refine q11 ?_|refine q14 ?_)
 refine TO.step rfl (OT.lit tab rfl rfl rfl rfl (fun b2 => ?_))
 refine TO.freeze fun m2 hm2 hA2 => ?_
 have hw2 := mark1_rep hA2
 have hm12 := Mem.le_trans hm1 hm2
 repeat (first|refine q2 ?_|refine q4 tab rfl rfl ?_|refine q5 ?_|refine q6 ?_)
 refine TC.loopK (ι := Nat) [0, 1, 31, 32] rfl (fun k => [(33, .int .i64 (k : Int))]) (fun _ => m2) (fun _ => L) (fun k => k ≤ 20 ∧ markL.find? (fun p => prefixB p (s.drop a)) = (mark1.drop k).find? (fun p => prefixB p (s.drop a))) (fun k => 20 - k) 0 (by repeat (first|exact trivial|refine And.intro rfl ?_)) rfl (by repeat (exact List.Sublist.refl _)) ⟨Nat.zero_le _, hI⟩ ?_
 rintro k ⟨hk, hI⟩
 have hm1l : mark1.length = 20 := rfl
 repeat (first|refine q1 ?_|refine q3 ?_|refine q4 tab rfl rfl ?_|refine q5 ?_|refine q6 ?_)
 refine TC.condP rfl (fun g1 => ?_) (fun g1 => ?_)
 ·have hlt : k < mark1.length := by omega
  have hx : mark1[k]? = some mark1[k] := by simp [hlt]
  have h2 := mark1_len mark1[k] (List.getElem_mem hlt)
  have hcons := List.drop_eq_getElem_cons hlt
  have hpre := pre_at (s := s) h2 (show a + 1 ≤ s.length by omega)
  repeat (first|refine q1 ?_|refine q2 ?_|refine q3 ?_|refine q6 ?_|refine q13 ?_)
  refine TO.step rfl (OT.index tab rStr k hw2 rfl rfl rfl rfl rfl (by first | rfl | omega | (simp only; omega)) rfl hx ?_)
  rintro b i hd rfl hA
  (refine TO.step rfl (OT.loadA0 tab hA rfl rfl rfl rfl rfl ?_))
  repeat (first|refine q1 ?_|refine q3 ?_|refine q4 tab rfl rfl ?_|refine q5 ?_|refine q6 ?_)
  refine TO.step rfl (OT.arith (r' := ((a + 1 : Nat) : Int)) rfl rfl rfl rfl rfl rfl rfl (by omega) ?_)
  refine TO.step rfl (OT.sub tab a (a + 1) rfl rfl rfl rfl rfl rfl rfl (.inr rfl) (.inr rfl) (by omega) (by omega) ?_)
  repeat (first|refine q4 tab rfl rfl ?_|refine q5 ?_|refine q6 ?_)
  refine TC.condP rfl (fun g3 => ?_) (fun g3 => ?_)
  ·repeat (first|refine q1 ?_|refine q3 ?_|refine q4 tab rfl rfl ?_|refine q5 ?_|refine q6 ?_|refine q8 ?_|refine q9 ?_|refine q15 ?_)
   refine retQ_ret rfl (by repeat (exact List.Sublist.refl _)) ⟨hm12, rfl, ?_⟩
   rw [decide_eq_true g3] at hpre
   rw [markT, hI, hcons, List.find?_cons_of_pos (p := fun p => prefixB p (s.drop a)) hpre]
   rfl
  ·rw [decide_eq_false g3] at hpre
   repeat (first|refine q3 ?_|refine q6 ?_|refine q7 ?_|refine q13 ?_)
   refine TO.step rfl (OT.arith (r' := ((k + 1 : Nat) : Int)) rfl rfl rfl rfl rfl rfl rfl (by omega) ?_)
   repeat (first|refine q4 tab rfl rfl ?_|refine q5 ?_|refine q6 ?_)
   exact ⟨k + 1, (by repeat (first|exact trivial|refine And.intro rfl ?_)), (by repeat (first|exact trivial|refine And.intro rfl ?_)), rfl, rfl, (by repeat (exact List.Sublist.refl _)), ⟨by omega, by rw [hI, hcons, List.find?_cons_of_neg (p := fun p => prefixB p (s.drop a)) (by show ¬ prefixB mark1[k] (s.drop a) = true; rw [hpre]; decide)]⟩, by omega⟩
 ·repeat (first|refine q1 ?_|refine q3 ?_|refine q4 tab rfl rfl ?_|refine q5 ?_|refine q6 ?_|refine q10 ?_|refine q11 ?_|refine q14 ?_|refine q15 ?_)
  refine retQ_ret rfl (by repeat (exact List.Sublist.refl _)) ⟨hm12, rfl, ?_⟩
  rw [markT, hI, show mark1.drop k = [] from List.drop_eq_nil_of_le (by omega)]
  rfl
end Go.Sep


/- ScRef6 -/
set_option linter.unusedVariables false
set_option linter.unusedSimpArgs false
namespace Go.Sep
open Go.Proofs
attribute [local irreducible] TC TO OT TCallX TCall DO DOt thenQ blockQ retQ At
def TokR (a : Nat) (o : Option (Tok × Nat)) (r : Value) : Prop := ∃ t e, r = .tuple ⟨[tokV t, .int .i64 e]⟩ ∧ ((∃ t' n, o = some (t', n) ∧ t = ⟨t'.kind, t'.text, t'.num, (a : Int)⟩ ∧ e = ((a + n : Nat) : Int)) ∨ (o = none ∧ e = -1))
set_option maxHeartbeats 2000000 in
theorem token_ref (m : Mem) (L : List Item) (s : Str) (a : Nat) (ha : a < s.length) (hl : s.length ≤ 70000) : TCall Tryz.prog 34 ⟨[strV s, .int .i64 (a : Int)]⟩ m L (Made m L fun r _ => TokR a (tokD (s.drop a)) r) := by
 have hx0 : s[a]? = some s[a] := by simp [ha]
 have hd := List.drop_eq_getElem_cons ha
 unfold TCall
 refine TCallX.enter Tryz.func34 rfl 90 rfl ?_
 repeat (first|refine q1 ?_|refine q3 ?_)
 refine TO.step rfl (OT.alloc tab rfl rfl rfl rfl (fun b4 => ?_))
 repeat (first|refine q1 ?_|refine q3 ?_|refine q4 tab rfl rfl ?_|refine q5 ?_|refine q6 ?_)
 refine TO.step rfl (OT.alloc tab rfl rfl rfl rfl (fun b6 => ?_))
 skip
 (refine TO.step rfl (OT.storeL0 tab 0 rfl rfl rfl rfl rfl rfl rfl rfl ?_))
 repeat (first|refine q1 ?_|refine q2 ?_|refine q3 ?_|refine q4 tab rfl rfl ?_|refine q5 ?_|refine q6 ?_)
 refine TO.step rfl (OT.sidx tab a rfl rfl rfl rfl rfl rfl rfl hx0 ?_)
 refine TO.step rfl (OT.call rfl rfl rfl rfl rfl rfl goes71 ((letter_ref _ _ s[a]).x ?_));
 rintro _ _ _ ⟨rfl, rfl, rfl⟩
 repeat (first|refine q4 tab rfl rfl ?_|refine q5 ?_|refine q6 ?_)
 refine TC.cond rfl (fun c1 => ?_) (fun c1 => ?_)
 ·repeat (first|refine q1 ?_|refine q2 ?_)
  refine TC.loopK (ι := Nat) [0, 1, 4, 6] rfl (fun k => [(7, .int .i64 ((a + k : Nat) : Int))]) (fun _ => m) (fun _ => .cells b6 0 (tokC ⟨0, [], 0, (a : Int)⟩) :: .cells b4 0 (tokC ⟨0, [], 0, 0⟩) :: L) (fun k => a + k ≤ s.length ∧ ((s.drop a).take k).all lod = true) (fun k => s.length - (a + k)) 0 (by repeat (first|exact trivial|refine And.intro rfl ?_)) rfl (by repeat (exact List.Sublist.refl _)) ⟨by omega, by simp⟩ ?_
  rintro k ⟨hk, hall⟩
  repeat (refine q1 ?_)
  refine TC.cutT (ι := Bool) [0, 1, 4, 6, 7] rfl (fun v => [(44, .bool v)]) (fun _ => m) (fun _ => .cells b6 0 (tokC ⟨0, [], 0, (a : Int)⟩) :: .cells b4 0 (tokC ⟨0, [], 0, 0⟩) :: L) (fun v => (v = true → ∃ h : a + k < s.length, lod s[a + k] = true) ∧ (v = false → ∀ x, (s.drop a)[k]? = some x → lod x = false)) ?_ (fun v hv => ?_)
  ·repeat (first|refine q3 ?_|refine q4 tab rfl rfl ?_)
   (refine TO.splitP rfl rfl (fun g1 => ?_) (fun g1 => ?_))
   ·have hlt : a + k < s.length := by omega
    have hx : s[a + k]? = some s[a + k] := by simp [hlt]
    repeat (refine q4 tab rfl rfl ?_)
    refine TO.step rfl (OT.sidx tab (a + k) rfl rfl rfl rfl rfl rfl rfl hx ?_)
    skip
    refine TO.step rfl (OT.call rfl rfl rfl rfl rfl rfl goes71 ((letter_ref _ _ s[a + k]).x ?_));
    rintro _ _ _ ⟨rfl, rfl, rfl⟩
    repeat (refine q4 tab rfl rfl ?_)
    (refine TO.split rfl rfl (fun g2 => ?_) (fun g2 => ?_))
    ·repeat (first|refine q4 tab rfl rfl ?_|refine q5 ?_|refine q6 ?_)
     refine ⟨true, (by repeat (first|exact trivial|refine And.intro rfl ?_)), (by repeat (first|exact trivial|refine And.intro rfl ?_)), rfl, rfl, (by repeat (exact List.Sublist.refl _)), fun _ => ⟨hlt, by unfold lod; rw [g2]; rfl⟩, fun h => (by cases h)⟩
    ·repeat (refine q4 tab rfl rfl ?_)
     refine TO.step rfl (OT.sidx tab (a + k) rfl rfl rfl rfl rfl rfl rfl hx ?_)
     skip
     refine TO.step rfl (OT.call rfl rfl rfl rfl rfl rfl goes72 ((digit_ref _ _ s[a + k]).x ?_));
     rintro _ _ _ ⟨rfl, rfl, rfl⟩
     repeat (first|refine q4 tab rfl rfl ?_|refine q5 ?_|refine q6 ?_)
     refine ⟨_, (by repeat (first|exact trivial|refine And.intro rfl ?_)), (by repeat (first|exact trivial|refine And.intro rfl ?_)), rfl, rfl, (by repeat (exact List.Sublist.refl _)), fun h => ⟨hlt, by unfold lod; rw [h]; simp⟩, fun h x hx2 => ?_⟩
     rw [List.getElem?_drop, hx] at hx2
     cases hx2
     unfold lod
     rw [g2, h]; rfl
   ·repeat (first|refine q4 tab rfl rfl ?_|refine q5 ?_|refine q6 ?_)
    refine ⟨false, (by repeat (first|exact trivial|refine And.intro rfl ?_)), (by repeat (first|exact trivial|refine And.intro rfl ?_)), rfl, rfl, (by repeat (exact List.Sublist.refl _)), fun h => (by cases h), fun _ x hx2 => ?_⟩
    rw [List.getElem?_drop, List.getElem?_eq_none (by omega)] at hx2
    cases hx2
  skip
  refine TC.cond rfl (fun g1 => ?_) (fun g1 => ?_)
  ·subst g1
   obtain ⟨hlt, hlo⟩ := hv.1 rfl
   have hlt' : k < (s.drop a).length := by rw [List.length_drop]; omega
   have hget : (s.drop a)[k] = s[a + k] := by simp
   repeat (first|refine q2 ?_|refine q3 ?_|refine q4 tab rfl rfl ?_|refine q6 ?_|refine q13 ?_)
   refine TO.step rfl (OT.arith (r' := ((a + (k + 1) : Nat) : Int)) rfl rfl rfl rfl rfl rfl rfl (by omega) ?_)
   repeat (first|refine q4 tab rfl rfl ?_|refine q5 ?_|refine q6 ?_|refine q7 ?_)
   exact ⟨k + 1, (by repeat (first|exact trivial|refine And.intro rfl ?_)), (by repeat (first|exact trivial|refine And.intro rfl ?_)), rfl, rfl, (by repeat (exact List.Sublist.refl _)), ⟨by omega, by rw [List.take_succ_eq_append_getElem hlt', List.all_append, hall, hget, List.all_cons, hlo]; rfl⟩, by omega⟩
  subst g1
  have hsp : spanOf lod (s.drop a) = k := span_eq_of hall (by rw [List.length_drop]; omega) (hv.2 rfl)
  have hcut : (s.take (a + k)).drop a = (s.drop a).take k := by rw [List.drop_take, Nat.add_sub_cancel_left]
  repeat (first|refine q1 ?_|refine q3 ?_|refine q4 tab rfl rfl ?_|refine q6 ?_|refine q10 ?_|refine q11 ?_|refine q14 ?_)
  refine TO.step rfl (OT.arith (r' := ((k : Nat) : Int)) rfl rfl rfl rfl rfl rfl (by omega) (by omega) ?_)
  repeat (first|refine q4 tab rfl rfl ?_|refine q5 ?_|refine q6 ?_)
  refine TC.condP rfl (fun c2 => ?_) (fun c2 => ?_)
  ·repeat (first|refine q1 ?_|refine q3 ?_)
   (refine qs rfl (qz tab 0 rfl rfl rfl rfl rfl rfl ?_))
   skip
   (refine TO.step rfl (OT.storeL0 tab 1 rfl rfl rfl rfl rfl rfl rfl rfl ?_))
   repeat (first|refine q4 tab rfl rfl ?_|refine q5 ?_|refine q6 ?_|refine q8 ?_|refine q9 ?_|refine q15 ?_)
   refine retQ_ret_c tab 1 rfl rfl rfl rfl rfl (L' := L) (by repeat (first|exact List.Sublist.refl _|refine List.Sublist.cons _ ?_)) ⟨(Mem.le_refl _), rfl, ?_⟩
   refine ⟨⟨0, [], 0, (a : Int)⟩, _, rfl, .inr ⟨?_, rfl⟩⟩
   rw [hd, tokD, if_pos c1, ← hd, hsp, if_pos (by omega)]
  ·repeat (first|refine q1 ?_|refine q6 ?_|refine q13 ?_)
   refine TC.draw [] mixed 8 rfl [] (.cells b6 0 (tokC ⟨0, [], 0, (a : Int)⟩) :: .cells b4 0 (tokC ⟨0, [], 0, 0⟩) :: L) (List.Perm.refl _) ?_
   refine DO.pure tab (by repeat (first|exact Calm.ret|refine Calm.then ?_|refine Calm.block ?_)) (by kernel_rfl) [0, 1, 2, 4] (by kernel_rfl) rfl ?_
   refine DO.fork 3 [5] (by kernel_rfl) ⟨⟨_, rfl, rfl, rfl, ?_⟩, ⟨_, rfl, rfl, rfl, ?_⟩, trivial⟩
   ·refine OT.sub tab a (a + k) rfl rfl rfl rfl rfl rfl rfl (.inr rfl) (.inr rfl) (by omega) (by omega) ?_
    refine ⟨Mem.le_refl _, _, List.Perm.refl _, ?_⟩
    refine DO.run 5 rfl rfl (by kernel_rfl) rfl ?_
    refine OT.storeL0 tab 0 rfl rfl rfl rfl rfl rfl rfl rfl ?_
    refine ⟨Mem.le_refl _, _, List.Perm.refl _, ?_⟩
    refine DO.pure tab (by repeat (first|exact Calm.ret|refine Calm.then ?_|refine Calm.block ?_)) (by kernel_rfl) [6] (by kernel_rfl) rfl ?_
    refine DO.run 7 rfl rfl (by kernel_rfl) rfl ?_
    refine OT.storeL tab 0 rfl rfl rfl rfl rfl rfl rfl rfl ?_
    refine ⟨Mem.le_refl _, _, List.Perm.refl _, ?_⟩
    refine DO.nil (by kernel_rfl) ?_
    refine thenQ_n ?_
    repeat (first|refine q1 ?_|refine q3 ?_|refine q4 tab rfl rfl ?_)
    (refine qs rfl (ql tab 0 rfl rfl rfl rfl rfl rfl ?_))
    skip
    refine TO.step rfl (OT.call rfl rfl rfl rfl rfl rfl goes73 ((reserved_ref _ _ _).x ?_));
    rintro _ _ _ ⟨rfl, rfl, rfl⟩
    rw [hcut]
    repeat (first|refine q5 ?_|refine q6 ?_)
    refine TC.condP rfl (fun c3 => ?_) (fun c3 => ?_)
    ·repeat (first|refine q3 ?_|refine q4 tab rfl rfl ?_)
     (refine TO.step rfl (OT.storeL tab 0 rfl rfl rfl rfl rfl rfl rfl rfl ?_))
     repeat (first|refine q1 ?_|refine q3 ?_|refine q5 ?_|refine q6 ?_|refine q7 ?_)
     (refine qs rfl (qz tab 0 rfl rfl rfl rfl rfl rfl ?_))
     repeat (refine q4 tab rfl rfl ?_)
     (refine TO.step rfl (OT.storeL0 tab 1 rfl rfl rfl rfl rfl rfl rfl rfl ?_))
     repeat (first|refine q4 tab rfl rfl ?_|refine q5 ?_|refine q6 ?_|refine q15 ?_)
     refine retQ_ret_c tab 1 rfl rfl rfl rfl rfl (L' := L) (by repeat (first|exact List.Sublist.refl _|refine List.Sublist.cons _ ?_)) ⟨(Mem.le_refl _), rfl, ?_⟩
     refine ⟨⟨5, (s.drop a).take k, 0, (a : Int)⟩, _, rfl, .inl ⟨⟨5, (s.drop a).take k, 0, 0⟩, k, ?_, rfl, rfl⟩⟩
     rw [hd, tokD, if_pos c1, ← hd, hsp, if_neg (by omega), if_pos c3]
    ·repeat (first|refine q1 ?_|refine q3 ?_|refine q6 ?_|refine q7 ?_|refine q13 ?_)
     (refine qs rfl (qz tab 0 rfl rfl rfl rfl rfl rfl ?_))
     repeat (refine q4 tab rfl rfl ?_)
     (refine TO.step rfl (OT.storeL0 tab 1 rfl rfl rfl rfl rfl rfl rfl rfl ?_))
     repeat (first|refine q4 tab rfl rfl ?_|refine q5 ?_|refine q6 ?_|refine q15 ?_)
     refine retQ_ret_c tab 1 rfl rfl rfl rfl rfl (L' := L) (by repeat (first|exact List.Sublist.refl _|refine List.Sublist.cons _ ?_)) ⟨(Mem.le_refl _), rfl, ?_⟩
     refine ⟨⟨1, (s.drop a).take k, 0, (a : Int)⟩, _, rfl, .inl ⟨⟨1, (s.drop a).take k, 0, 0⟩, k, ?_, rfl, rfl⟩⟩
     rw [hd, tokD, if_pos c1, ← hd, hsp, if_neg (by omega), if_neg c3]
   ·refine OT.storeL0 tab 0 rfl rfl rfl rfl rfl rfl rfl rfl ?_
    refine ⟨Mem.le_refl _, _, List.Perm.refl _, ?_⟩
    refine DO.run 3 rfl rfl (by kernel_rfl) rfl ?_
    refine OT.sub tab a (a + k) rfl rfl rfl rfl rfl rfl rfl (.inr rfl) (.inr rfl) (by omega) (by omega) ?_
    refine ⟨Mem.le_refl _, _, List.Perm.refl _, ?_⟩
    refine DO.pure tab (by repeat (first|exact Calm.ret|refine Calm.then ?_|refine Calm.block ?_)) (by kernel_rfl) [6] (by kernel_rfl) rfl ?_
    refine DO.run 7 rfl rfl (by kernel_rfl) rfl ?_
    refine OT.storeL tab 0 rfl rfl rfl rfl rfl rfl rfl rfl ?_
    refine ⟨Mem.le_refl _, _, List.Perm.refl _, ?_⟩
    refine DO.nil (by kernel_rfl) ?_
    refine thenQ_n ?_
    repeat (first|refine q1 ?_|refine q3 ?_|refine q4 tab rfl rfl ?_)
    (refine qs rfl (ql tab 0 rfl rfl rfl rfl rfl rfl ?_))
    skip
    refine TO.step rfl (OT.call rfl rfl rfl rfl rfl rfl goes73 ((reserved_ref _ _ _).x ?_));
    rintro _ _ _ ⟨rfl, rfl, rfl⟩
    rw [hcut]
    repeat (first|refine q5 ?_|refine q6 ?_)
    refine TC.condP rfl (fun c3 => ?_) (fun c3 => ?_)
    ·repeat (first|refine q3 ?_|refine q4 tab rfl rfl ?_)
     (refine TO.step rfl (OT.storeL tab 0 rfl rfl rfl rfl rfl rfl rfl rfl ?_))
     repeat (first|refine q1 ?_|refine q3 ?_|refine q5 ?_|refine q6 ?_|refine q7 ?_)
     (refine qs rfl (qz tab 0 rfl rfl rfl rfl rfl rfl ?_))
     repeat (refine q4 tab rfl rfl ?_)
     (refine TO.step rfl (OT.storeL0 tab 1 rfl rfl rfl rfl rfl rfl rfl rfl ?_))
     repeat (first|refine q4 tab rfl rfl ?_|refine q5 ?_|refine q6 ?_|refine q15 ?_)
     refine retQ_ret_c tab 1 rfl rfl rfl rfl rfl (L' := L) (by repeat (first|exact List.Sublist.refl _|refine List.Sublist.cons _ ?_)) ⟨(Mem.le_refl _), rfl, ?_⟩
     refine ⟨⟨5, (s.drop a).take k, 0, (a : Int)⟩, _, rfl, .inl ⟨⟨5, (s.drop a).take k, 0, 0⟩, k, ?_, rfl, rfl⟩⟩
     rw [hd, tokD, if_pos c1, ← hd, hsp, if_neg (by omega), if_pos c3]
    ·repeat (first|refine q1 ?_|refine q3 ?_|refine q6 ?_|refine q7 ?_|refine q13 ?_)
     (refine qs rfl (qz tab 0 rfl rfl rfl rfl rfl rfl ?_))
     repeat (refine q4 tab rfl rfl ?_)
     (refine TO.step rfl (OT.storeL0 tab 1 rfl rfl rfl rfl rfl rfl rfl rfl ?_))
     repeat (first|refine q4 tab rfl rfl ?_|refine q5 ?_|refine q6 ?_|refine q15 ?_)
     refine retQ_ret_c tab 1 rfl rfl rfl rfl rfl (L' := L) (by repeat (first|exact List.Sublist.refl _|refine List.Sublist.cons _ ?_)) ⟨(Mem.le_refl _), rfl, ?_⟩
     refine ⟨⟨1, (s.drop a).take k, 0, (a : Int)⟩, _, rfl, .inl ⟨⟨1, (s.drop a).take k, 0, 0⟩, k, ?_, rfl, rfl⟩⟩
     rw [hd, tokD, if_pos c1, ← hd, hsp, if_neg (by omega), if_neg c3]
 have c1' : ¬ ltr s[a] = true := by rw [c1]; decide
 repeat (first|refine q1 ?_|refine q3 ?_|refine q4 tab rfl rfl ?_)
 refine TO.step rfl (OT.sidx tab a rfl rfl rfl rfl rfl rfl rfl hx0 ?_)
 refine TO.step rfl (OT.call rfl rfl rfl rfl rfl rfl goes72 ((digit_ref _ _ s[a]).x ?_));
 rintro _ _ _ ⟨rfl, rfl, rfl⟩
 repeat (first|refine q4 tab rfl rfl ?_|refine q5 ?_|refine q6 ?_)
 refine TC.cond rfl (fun c2 => ?_) (fun c2 => ?_)
 ·repeat (first|refine q1 ?_|refine q3 ?_|refine q4 tab rfl rfl ?_)
  (refine TO.step rfl (OT.storeL tab 0 rfl rfl rfl rfl rfl rfl rfl rfl ?_))
  repeat (first|refine q3 ?_|refine q4 tab rfl rfl ?_|refine q5 ?_|refine q6 ?_)
  refine TO.step rfl (OT.call rfl rfl rfl rfl rfl rfl goes74 ((number_ref _ _ s a ha c2 hl).x ?_));
  rintro _ _ _ ⟨rfl, rfl, rfl⟩
  have hD : tokD (s.drop a) = (numT (s.drop a)).map fun p => (⟨2, [], p.1, 0⟩, p.2) := by rw [hd, tokD_num c2]
  cases hn : numT (s.drop a) with
  | none =>
   rw [hn] at hD
   show TO _ _ _ _ ((_, .tuple ⟨[.int .i64 0, .int .i64 (-1)]⟩) :: _) _ _ _ _
   repeat (refine q4 tab rfl rfl ?_)
   (refine TO.step rfl (OT.storeL tab 0 rfl rfl rfl rfl rfl rfl rfl rfl ?_))
   repeat (first|refine q1 ?_|refine q3 ?_|refine q4 tab rfl rfl ?_|refine q5 ?_|refine q6 ?_|refine q7 ?_)
   (refine qs rfl (qz tab 0 rfl rfl rfl rfl rfl rfl ?_))
   repeat (refine q4 tab rfl rfl ?_)
   (refine TO.step rfl (OT.storeL0 tab 1 rfl rfl rfl rfl rfl rfl rfl rfl ?_))
   repeat (first|refine q4 tab rfl rfl ?_|refine q5 ?_|refine q6 ?_|refine q15 ?_)
   refine retQ_ret_c tab 1 rfl rfl rfl rfl rfl (L' := L) (by repeat (first|exact List.Sublist.refl _|refine List.Sublist.cons _ ?_)) ⟨(Mem.le_refl _), rfl, ?_⟩
   exact ⟨⟨2, [], 0, (a : Int)⟩, _, rfl, .inr ⟨hD, rfl⟩⟩
  | some p =>
   obtain ⟨v, n⟩ := p
   rw [hn] at hD
   show TO _ _ _ _ ((_, .tuple ⟨[.int .i64 (v : Int), .int .i64 ((a + n : Nat) : Int)]⟩) :: _) _ _ _ _
   repeat (refine q4 tab rfl rfl ?_)
   (refine TO.step rfl (OT.storeL tab 0 rfl rfl rfl rfl rfl rfl rfl rfl ?_))
   repeat (first|refine q1 ?_|refine q3 ?_|refine q4 tab rfl rfl ?_|refine q5 ?_|refine q6 ?_|refine q7 ?_)
   (refine qs rfl (qz tab 0 rfl rfl rfl rfl rfl rfl ?_))
   repeat (refine q4 tab rfl rfl ?_)
   (refine TO.step rfl (OT.storeL0 tab 1 rfl rfl rfl rfl rfl rfl rfl rfl ?_))
   repeat (first|refine q4 tab rfl rfl ?_|refine q5 ?_|refine q6 ?_|refine q15 ?_)
   refine retQ_ret_c tab 1 rfl rfl rfl rfl rfl (L' := L) (by repeat (first|exact List.Sublist.refl _|refine List.Sublist.cons _ ?_)) ⟨(Mem.le_refl _), rfl, ?_⟩
   exact ⟨⟨2, [], v, (a : Int)⟩, _, rfl, .inl ⟨⟨2, [], v, 0⟩, n, hD, rfl, rfl⟩⟩
 have c2' : ¬ dgt s[a] = true := by rw [c2]; decide
 repeat (first|refine q1 ?_|refine q3 ?_|refine q4 tab rfl rfl ?_)
 refine TO.step rfl (OT.sidx tab a rfl rfl rfl rfl rfl rfl rfl hx0 ?_)
 repeat (first|refine q4 tab rfl rfl ?_|refine q5 ?_|refine q6 ?_)
 refine TC.condP rfl (fun c3 => ?_) (fun c3 => ?_)
 ·repeat (first|refine q1 ?_|refine q3 ?_|refine q4 tab rfl rfl ?_)
  (refine TO.step rfl (OT.storeL tab 0 rfl rfl rfl rfl rfl rfl rfl rfl ?_))
  repeat (first|refine q3 ?_|refine q4 tab rfl rfl ?_|refine q5 ?_|refine q6 ?_)
  refine TO.step rfl (OT.call rfl rfl rfl rfl rfl rfl goes75 ((str_ref _ _ s a ha hl).x ?_));
  rintro _ m1 _ ⟨hm1, rfl, rfl⟩
  have hD : tokD (s.drop a) = (match lit (s.drop (a + 1)) with
   | none => none
   | some (t, n) => if 1024 < t.length then none else some (⟨3, t, 0, 0⟩, n + 1)) := by
   rw [hd, tokD, if_neg c1', if_neg c2', if_pos (by omega)]
   try rfl
  cases hn : lit (s.drop (a + 1)) with
  | none =>
   rw [hn] at hD
   show TO _ _ _ _ ((_, .tuple ⟨[strV [], .int .i64 (-1)]⟩) :: _) _ _ _ _
   repeat (refine q4 tab rfl rfl ?_)
   (refine TO.step rfl (OT.storeL tab 0 rfl rfl rfl rfl rfl rfl rfl rfl ?_))
   repeat (first|refine q1 ?_|refine q3 ?_|refine q4 tab rfl rfl ?_|refine q5 ?_|refine q6 ?_|refine q7 ?_)
   (refine qs rfl (qz tab 0 rfl rfl rfl rfl rfl rfl ?_))
   repeat (refine q4 tab rfl rfl ?_)
   (refine TO.step rfl (OT.storeL0 tab 1 rfl rfl rfl rfl rfl rfl rfl rfl ?_))
   repeat (first|refine q4 tab rfl rfl ?_|refine q5 ?_|refine q6 ?_|refine q15 ?_)
   refine retQ_ret_c tab 1 rfl rfl rfl rfl rfl (L' := L) (by repeat (first|exact List.Sublist.refl _|refine List.Sublist.cons _ ?_)) ⟨hm1, rfl, ?_⟩
   exact ⟨⟨3, [], 0, (a : Int)⟩, _, rfl, .inr ⟨hD, rfl⟩⟩
  | some p =>
   obtain ⟨t, n⟩ := p
   rw [hn] at hD
   simp only at hD
   by_cases h1024 : 1024 < t.length
   ·rw [if_pos h1024] at hD
    rw [show strR a (some (t, n)) = .tuple ⟨[strV [], .int .i64 (-1)]⟩ from if_pos h1024]
    repeat (refine q4 tab rfl rfl ?_)
    (refine TO.step rfl (OT.storeL tab 0 rfl rfl rfl rfl rfl rfl rfl rfl ?_))
    repeat (first|refine q1 ?_|refine q3 ?_|refine q4 tab rfl rfl ?_|refine q5 ?_|refine q6 ?_|refine q7 ?_)
    (refine qs rfl (qz tab 0 rfl rfl rfl rfl rfl rfl ?_))
    repeat (refine q4 tab rfl rfl ?_)
    (refine TO.step rfl (OT.storeL0 tab 1 rfl rfl rfl rfl rfl rfl rfl rfl ?_))
    repeat (first|refine q4 tab rfl rfl ?_|refine q5 ?_|refine q6 ?_|refine q15 ?_)
    refine retQ_ret_c tab 1 rfl rfl rfl rfl rfl (L' := L) (by repeat (first|exact List.Sublist.refl _|refine List.Sublist.cons _ ?_)) ⟨hm1, rfl, ?_⟩
    exact ⟨⟨3, [], 0, (a : Int)⟩, _, rfl, .inr ⟨hD, rfl⟩⟩
   ·rw [if_neg h1024] at hD
    rw [show strR a (some (t, n)) = .tuple ⟨[strV t, .int .i64 ((a + 1 + n : Nat) : Int)]⟩ from if_neg h1024]
    repeat (refine q4 tab rfl rfl ?_)
    (refine TO.step rfl (OT.storeL tab 0 rfl rfl rfl rfl rfl rfl rfl rfl ?_))
    repeat (first|refine q1 ?_|refine q3 ?_|refine q4 tab rfl rfl ?_|refine q5 ?_|refine q6 ?_|refine q7 ?_)
    (refine qs rfl (qz tab 0 rfl rfl rfl rfl rfl rfl ?_))
    repeat (refine q4 tab rfl rfl ?_)
    (refine TO.step rfl (OT.storeL0 tab 1 rfl rfl rfl rfl rfl rfl rfl rfl ?_))
    repeat (first|refine q4 tab rfl rfl ?_|refine q5 ?_|refine q6 ?_|refine q15 ?_)
    refine retQ_ret_c tab 1 rfl rfl rfl rfl rfl (L' := L) (by repeat (first|exact List.Sublist.refl _|refine List.Sublist.cons _ ?_)) ⟨hm1, rfl, ?_⟩
    exact ⟨⟨3, t, 0, (a : Int)⟩, _, rfl, .inl ⟨⟨3, t, 0, 0⟩, n + 1, hD, rfl, by omega⟩⟩
 ·repeat (first|refine q1 ?_|refine q3 ?_|refine q4 tab rfl rfl ?_)
  refine TO.step rfl (OT.call rfl rfl rfl rfl rfl rfl goes76 ((mark_ref _ _ s a ha hl).x ?_));
  rintro _ m1 _ ⟨hm1, rfl, rfl⟩
  have hD : tokD (s.drop a) = (match markL.find? (fun p => prefixB p (s.drop a)) with
   | none => none
   | some p => some (⟨4, p, 0, 0⟩, p.length)) := by
   rw [hd, tokD, if_neg c1', if_neg c2', if_neg (by omega)]
   try rfl
  repeat (refine q4 tab rfl rfl ?_)
  (refine TO.step rfl (OT.storeL tab 0 rfl rfl rfl rfl rfl rfl rfl rfl ?_))
  repeat (refine q4 tab rfl rfl ?_)
  (refine TO.step rfl (OT.storeL tab 0 rfl rfl rfl rfl rfl rfl rfl rfl ?_))
  repeat (first|refine q1 ?_|refine q3 ?_|refine q4 tab rfl rfl ?_|refine q5 ?_|refine q6 ?_)
  (refine qs rfl (ql tab 0 rfl rfl rfl rfl rfl rfl ?_))
  repeat (refine q4 tab rfl rfl ?_)
  cases hn : markL.find? (fun p => prefixB p (s.drop a)) with
  | none =>
   rw [hn] at hD
   have hmt : markT (s.drop a) = [] := by rw [markT, hn]; rfl
   rw [hmt]
   refine TO.step rfl (OT.arith (r' := (a : Int)) rfl rfl rfl rfl rfl rfl (by simp) (by omega) ?_)
   repeat (first|refine q1 ?_|refine q3 ?_|refine q4 tab rfl rfl ?_|refine q5 ?_|refine q6 ?_)
   (refine qs rfl (ql tab 0 rfl rfl rfl rfl rfl rfl ?_))
   repeat (first|refine q1 ?_|refine q3 ?_|refine q4 tab rfl rfl ?_|refine q5 ?_|refine q6 ?_|refine q7 ?_|refine q16 rfl ?_)
   (refine qs rfl (qz tab 0 rfl rfl rfl rfl rfl rfl ?_))
   repeat (refine q4 tab rfl rfl ?_)
   (refine TO.step rfl (OT.storeL0 tab 1 rfl rfl rfl rfl rfl rfl rfl rfl ?_))
   repeat (first|refine q4 tab rfl rfl ?_|refine q5 ?_|refine q6 ?_|refine q15 ?_)
   refine retQ_ret_c tab 1 rfl rfl rfl rfl rfl (L' := L) (by repeat (first|exact List.Sublist.refl _|refine List.Sublist.cons _ ?_)) ⟨hm1, rfl, ?_⟩
   exact ⟨⟨4, [], 0, (a : Int)⟩, _, rfl, .inr ⟨hD, rfl⟩⟩
  | some p =>
   rw [hn] at hD
   simp only at hD
   have hmt : markT (s.drop a) = p := by rw [markT, hn]; rfl
   have hp := markL_len p (List.mem_of_find?_eq_some hn)
   have hple := (tokD_le hD).2
   rw [List.length_drop] at hple
   rw [hmt]
   refine TO.step rfl (OT.arith (r' := ((a + p.length : Nat) : Int)) rfl rfl rfl rfl rfl rfl rfl (by omega) ?_)
   repeat (first|refine q1 ?_|refine q3 ?_|refine q4 tab rfl rfl ?_|refine q5 ?_|refine q6 ?_)
   (refine qs rfl (ql tab 0 rfl rfl rfl rfl rfl rfl ?_))
   repeat (first|refine q4 tab rfl rfl ?_|refine q5 ?_|refine q6 ?_)
   refine TC.condP rfl (fun c4 => ?_) (fun c4 => ?_)
   ·rw [c4] at hp; simp at hp
   ·repeat (first|refine q1 ?_|refine q3 ?_|refine q6 ?_|refine q7 ?_|refine q13 ?_)
    (refine qs rfl (qz tab 0 rfl rfl rfl rfl rfl rfl ?_))
    repeat (refine q4 tab rfl rfl ?_)
    (refine TO.step rfl (OT.storeL0 tab 1 rfl rfl rfl rfl rfl rfl rfl rfl ?_))
    repeat (first|refine q4 tab rfl rfl ?_|refine q5 ?_|refine q6 ?_|refine q15 ?_)
    refine retQ_ret_c tab 1 rfl rfl rfl rfl rfl (L' := L) (by repeat (first|exact List.Sublist.refl _|refine List.Sublist.cons _ ?_)) ⟨hm1, rfl, ?_⟩
    exact ⟨⟨4, p, 0, (a : Int)⟩, _, rfl, .inl ⟨⟨4, p, 0, 0⟩, p.length, hD, rfl, rfl⟩⟩
end Go.Sep


/- ScRefW -/
set_option linter.unusedVariables false
set_option linter.unusedSimpArgs false
namespace Go.Sep
open Go.Proofs
attribute [local irreducible] TC TO OT TCallX TCall DO DOt thenQ blockQ retQ At
def CutB (s : Str) (a : Nat) (l : List Tok) (res : Except (Nat × Int) (List Tok)) : Prop := ∃ a0, a0 ≤ s.length ∧ a = a0 + blk false (s.drop a0) ∧ CutAt s a0 l res
theorem blk_lt {s : Str} {a : Nat} (h : a ≤ s.length) : a + blk false (s.drop a) ≤ s.length := by
 have := blk_le false (s.drop a)
 rw [List.length_drop] at this
 omega
structure RScanS where
 m : Mem
 sl : Sl
 l : List Tok
 a : Nat
set_option maxHeartbeats 1000000 in
theorem scan_ref (m : Mem) (L : List Item) (s : Str) : TCall Tryz.prog 21 ⟨[strV s]⟩ m L (Made m L fun r m' => ScanR (scanD s) r m') := by
 unfold TCall
 refine TCallX.enter Tryz.func21 rfl 40 rfl ?_
 repeat (first|refine q1 ?_|refine q3 ?_|refine q4 tab rfl rfl ?_|refine q5 ?_|refine q6 ?_)
 refine TC.condP rfl (fun c0 => ?_) (fun c0 => ?_)
 ·repeat (first|refine q1 ?_|refine q3 ?_|refine q4 tab rfl rfl ?_|refine q5 ?_|refine q6 ?_|refine q8 ?_|refine q15 ?_)
  refine retQ_ret rfl (by repeat (exact List.Sublist.refl _)) ⟨Mem.le_refl _, rfl, ?_⟩
  rw [scanD, if_pos (by omega)]
  exact ⟨⟨none, 0, 0⟩, rfl, SlRep.nil _ _⟩
 have hl : s.length ≤ 65536 := by omega
 have hD : scanD s = .of (cutF (s.length + 1) s 0 0) := by rw [scanD, if_neg (by omega)]
 repeat (first|refine q1 ?_|refine q3 ?_|refine q6 ?_|refine q13 ?_)
 refine TO.step rfl (OT.lit tab rfl rfl rfl rfl (fun b0 => ?_))
 refine TO.drop (List.sublist_cons_self _ _) ?_
 repeat (first|refine q1 ?_|refine q3 ?_|refine q4 tab rfl rfl ?_|refine q5 ?_|refine q6 ?_)
 refine TO.step rfl (OT.call rfl rfl rfl rfl rfl rfl goes33 ((blanks_ref _ _ s 0 (Nat.zero_le _) (by omega)).x ?_));
 rintro _ _ _ ⟨rfl, rfl, rfl⟩
 repeat (first|refine q1 ?_|refine q2 ?_|refine q4 tab rfl rfl ?_|refine q5 ?_|refine q6 ?_)
 refine TC.growL b0 4 ?_
 refine TC.loopK (ι := RScanS) [0] rfl (fun x => [(5, x.sl.v), (6, .int .i64 (x.a : Int))]) (fun x => x.m) (fun x => tok x.sl 4 :: L) (fun x => m ≤ x.m ∧ x.a ≤ s.length ∧ SlRep rTok x.m x.sl x.l ∧ Own x.sl ∧ x.l.length ≤ 20000 ∧ CutB s x.a x.l (cutF (s.length + 1) s 0 0)) (fun x => s.length - x.a) ⟨m, ⟨some ⟨b0, 0, none⟩, 0, 0⟩, [], 0 + blk false (s.drop 0)⟩ (by repeat (first|exact trivial|refine And.intro rfl ?_)) rfl (by repeat (exact List.Sublist.refl _)) ⟨Mem.le_refl _, blk_lt (Nat.zero_le _), SlRep.lit0 _ _ _, Own.lit _ _ _, Nat.zero_le _, 0, Nat.zero_le _, rfl, CutAt.start s⟩ ?_
 rintro ⟨m1, sl, l, a⟩ ⟨hm, ha, hsl, hown, hll, hI⟩
 replace hm : m ≤ m1 := hm
 replace ha : a ≤ s.length := ha
 replace hsl : SlRep rTok m1 sl l := hsl
 replace hown : Own sl := hown
 replace hll : l.length ≤ 20000 := hll
 obtain ⟨a0, ha0, hab, hI⟩ := (show CutB s a l (cutF (s.length + 1) s 0 0) from hI)
 show TC _ _ _ ((5, sl.v) :: (6, .int .i64 (a : Int)) :: _) _ m1 (tok sl 4 :: L) _
 have hlen := hsl.len
 repeat (first|refine q1 ?_|refine q3 ?_|refine q4 tab rfl rfl ?_|refine q5 ?_|refine q6 ?_)
 refine TC.condP rfl (fun c1 => ?_) (fun c1 => ?_)
 ·repeat (first|refine q1 ?_|refine q2 ?_|refine q3 ?_|refine q4 tab rfl rfl ?_|refine q5 ?_|refine q6 ?_|refine q13 ?_)
  refine TC.condP rfl (fun c2 => ?_) (fun c2 => ?_)
  ·repeat (first|refine q1 ?_|refine q3 ?_|refine q4 tab rfl rfl ?_|refine q5 ?_|refine q6 ?_|refine q8 ?_|refine q9 ?_|refine q15 ?_)
   refine retQ_ret rfl (by repeat (first|exact List.Sublist.refl _|refine List.Sublist.cons _ ?_)) ⟨hm, rfl, ?_⟩
   rw [hD, hI.large ha0 (by omega) (by omega), ← hab]
   exact ⟨⟨none, 0, 0⟩, rfl, SlRep.nil _ _⟩
  repeat (first|refine q1 ?_|refine q3 ?_|refine q4 tab rfl rfl ?_|refine q6 ?_|refine q13 ?_)
  refine TO.step rfl (OT.call rfl rfl rfl rfl rfl rfl goes34 ((token_ref _ _ s a (by omega) (by omega)).x ?_));
  rintro _ m2 _ ⟨hm2, rfl, t, e, rfl, hn⟩
  repeat (refine q4 tab rfl rfl ?_)
  refine TO.step rfl (OT.alloc tab rfl rfl rfl rfl (fun b5 => ?_))
  skip
  (refine TO.step rfl (OT.storeL0 tab 0 rfl rfl rfl rfl rfl rfl rfl rfl ?_))
  repeat (first|refine q1 ?_|refine q3 ?_|refine q4 tab rfl rfl ?_|refine q5 ?_|refine q6 ?_)
  rcases hn with ⟨t', n, hn, rfl, rfl⟩ | ⟨hn, rfl⟩
  ·have hnl := tokD_le hn
   rw [List.length_drop] at hnl
   have hgo := hI.go ha0 (by omega) (by omega) (by rw [← hab]; exact hn)
   rw [← hab] at hgo
   repeat (first|refine q1 ?_|refine q3 ?_|refine q4 tab rfl rfl ?_|refine q6 ?_|refine q13 ?_|refine q17 rfl ?_)
   (refine qs rfl (qz tab 0 rfl rfl rfl rfl rfl rfl ?_))
   skip
   refine TO.step rfl (OT.lit tab rfl rfl rfl rfl (fun b => ?_))
   refine TO.step rfl (OT.append1 tab rTok 1 (hd' := ⟨t'.kind, t'.text, t'.num, (a : Int)⟩) (a := ⟨t'.kind, t'.text, t'.num, (a : Int)⟩) (hsl.mono hm2) hown rfl rfl rfl rfl rfl rfl rfl rfl (by show (l.length + 1) * 40 ≤ _; omega) (fun s' m3 hm3 hs3 ho3 => ?_))
   repeat (first|refine q3 ?_|refine q4 tab rfl rfl ?_|refine q5 ?_|refine q6 ?_)
   refine TO.step rfl (OT.call rfl rfl rfl rfl rfl rfl goes33 ((blanks_ref _ _ s (a + n) (by omega) (by omega)).x ?_));
   rintro _ _ _ ⟨rfl, rfl, rfl⟩
   repeat (first|refine q4 tab rfl rfl ?_|refine q5 ?_|refine q6 ?_|refine q7 ?_)
   exact ⟨⟨m3, s', l ++ [⟨t'.kind, t'.text, t'.num, (a : Int)⟩], a + n + blk false (s.drop (a + n))⟩, (by repeat (first|exact trivial|refine And.intro rfl ?_)), (by repeat (first|exact trivial|refine And.intro rfl ?_)), rfl, rfl, (by repeat (first|exact List.Sublist.refl _|refine List.Sublist.cons _ ?_)), ⟨Mem.le_trans hm (Mem.le_trans hm2 hm3), blk_lt (by omega), hs3, ho3, by show (l ++ [_]).length ≤ _; rw [List.length_append]; simp only [List.length_cons, List.length_nil]; omega, a + n, by omega, rfl, hgo⟩, by show s.length - (a + n + _) < s.length - a; omega⟩
  ·repeat (first|refine q1 ?_|refine q3 ?_|refine q4 tab rfl rfl ?_|refine q5 ?_|refine q6 ?_|refine q8 ?_|refine q9 ?_|refine q15 ?_|refine q16 rfl ?_)
   refine retQ_ret rfl (by repeat (first|exact List.Sublist.refl _|refine List.Sublist.cons _ ?_)) ⟨Mem.le_trans hm hm2, rfl, ?_⟩
   rw [hD, hI.text ha0 (by omega) (by omega) (by rw [← hab]; exact hn), ← hab]
   exact ⟨⟨none, 0, 0⟩, rfl, SlRep.nil _ _⟩
 ·repeat (first|refine q1 ?_|refine q3 ?_|refine q4 tab rfl rfl ?_|refine q5 ?_|refine q6 ?_|refine q10 ?_|refine q11 ?_|refine q14 ?_|refine q15 ?_)
  refine retQ_ret rfl (by repeat (first|exact List.Sublist.refl _|refine List.Sublist.cons _ ?_)) ⟨hm, rfl, ?_⟩
  rw [hD, hI.end_ ha0 (by omega)]
  exact ⟨sl, rfl, hsl⟩
end Go.Sep


/- PsCnt -/
set_option linter.unusedVariables false
set_option linter.unusedSimpArgs false
namespace Go.Ps
open Go.Sep (Tree Str sizeL)
variable {α β : Type}
def Wt (c : Nat) (w : α → Nat) (p : Pp α) : Prop := ∀ f k a k', p f k = .ok a k' → w a + k ≤ k' + c
theorem Wt.up {c c' : Nat} {w : α → Nat} {p : Pp α} (h : Wt c w p) (hc : c ≤ c') : Wt c' w p := fun f k a k' e => by have := h f k a k' e; omega
theorem Wt.ret {c : Nat} {w : α → Nat} {a : α} (h : w a ≤ c) : Wt c w (ret a) := fun f k b k' e => by injection e with e1 e2; subst e1; subst e2; omega
theorem Wt.fail {c : Nat} {w : α → Nat} : Wt c w (fail : Pp α) := fun f k a k' e => by cases e
theorem Wt.dry {c : Nat} {w : α → Nat} : Wt c w (dry : Pp α) := fun f k a k' e => by cases e
theorem Wt.bind {c c1 : Nat} {w1 : α → Nat} {w : β → Nat} {p : Pp α} {g : α → Pp β} (hp : Wt c1 w1 p) (hg : ∀ a, ∃ d, d ≤ c + w1 a - c1 ∧ c1 ≤ c + w1 a ∧ Wt d w (g a)) : Wt c w (bind p g) := fun f k b k' e => by
 unfold Ps.bind at e
 cases hx : p f k with
 | ok a k1 =>
  simp only [hx] at e
  obtain ⟨d, h1, h2, h3⟩ := hg a
  have h4 := hp f k a k1 hx
  have h5 := h3 f k1 b k' e
  omega
 | bad k1 => simp only [hx] at e; cases e
 | out => simp only [hx] at e; cases e
theorem Wt.bind0 {c : Nat} {w1 : α → Nat} {w : β → Nat} {p : Pp α} {g : α → Pp β} (hp : Wt 0 w1 p) (hg : ∀ a, Wt (c + w1 a) w (g a)) : Wt c w (Ps.bind p g) := Wt.bind hp fun a => ⟨_, Nat.le_refl _, Nat.zero_le _, hg a⟩
theorem Wt.tok {c : Nat} {w : α → Nat} {s : Str} {A B : Pp α} (hA : Wt (c + 1) w A) (hB : Wt c w B) : Wt c w (tok s A B) := fun f k a k' e => by
 unfold Ps.tok at e
 cases hb : isM s f k with
 | true => simp only [hb, cond_true] at e; have := hA f _ a k' e; omega
 | false => simp only [hb, cond_false] at e; exact hB f k a k' e
theorem Wt.need {c : Nat} {w : α → Nat} {s : Str} {A : Pp α} (hA : Wt (c + 1) w A) : Wt c w (need s A) := Wt.tok hA Wt.fail
theorem Wt.tkn {c : Nat} {w : α → Nat} {n : Int} {A : Tk → Pp α} {B : Pp α} (hA : ∀ t, Wt (c + 1) w (A t)) (hB : Wt c w B) : Wt c w (tkn n A B) := fun f k a k' e => by
 unfold Ps.tkn at e
 cases hx : f k with
 | none => simp only [hx] at e; exact hB f k a k' e
 | some t =>
  cases hb : decide (t.kind = n) with
  | true => simp only [hx, hb, cond_true] at e; have := hA t f _ a k' e; omega
  | false => simp only [hx, hb, cond_false] at e; exact hB f k a k' e
theorem Wt.name {c : Nat} {w : α → Nat} {A : Str → Pp α} (hA : ∀ t, Wt (c + 1) w (A t)) : Wt c w (name A) := Wt.tkn (fun t => hA t.text) Wt.fail
theorem Wt.oneOf {c : Nat} {w : α → Nat} {ops : List Str} {A : Str → Pp α} {B : Pp α} (hA : ∀ t, Wt (c + 1) w (A t)) (hB : Wt c w B) : Wt c w (oneOf ops A B) := fun f k a k' e => by
 unfold Ps.oneOf at e
 cases hx : ops.find? (fun s => isM s f k) with
 | none => simp only [hx] at e; exact hB f k a k' e
 | some t => simp only [hx] at e; have := hA t f _ a k' e; omega
theorem Wt.peek {c : Nat} {w : α → Nat} {q : F → Nat → Bool} {A B : Pp α} (hA : Wt c w A) (hB : Wt c w B) : Wt c w (peek q A B) := fun f k a k' e => by
 unfold Ps.peek at e
 cases hb : q f k with
 | true => simp only [hb, cond_true] at e; exact hA f k a k' e
 | false => simp only [hb, cond_false] at e; exact hB f k a k' e
theorem Wt.tokIf {c : Nat} {w : α → Nat} {x : Bool} {s : Str} {A B : Pp α} (hA : Wt (c + 1) w A) (hB : Wt c w B) : Wt c w (tokIf x s A B) := by
 cases x with
 | true => exact Wt.tok hA hB
 | false => exact hB
@[reducible] def T0 (p : Pp Tree) : Prop := Wt 0 Tree.size p
@[reducible] def L0 (p : Pp (List Tree)) : Prop := Wt 0 sizeL p
theorem szL_app (a b : List Tree) : sizeL (a ++ b) = sizeL a + sizeL b := by
 induction a with
 | nil => simp [sizeL]
 | cons x l ih => simp only [List.cons_append, sizeL, ih]; omega
theorem sz_mk (k : Int) (s : Str) (n : Int) (ks : List Tree) : (Tree.mk k s n ks).size = 1 + sizeL ks := by simp only [Tree.size]
theorem sz_leaf (k : Int) (s : Str) : (leaf k s).size = 1 := rfl
theorem commas_wt {X : Pp Tree} (h : T0 X) : ∀ j, L0 (commas j X)
 | 0 => Wt.dry
 | j + 1 => Wt.bind0 h fun a => Wt.tok (Wt.bind0 (commas_wt h j) fun l => Wt.ret (by (simp only [sz_mk, sz_leaf, sizeL, szL_app]; omega))) (Wt.ret (by (simp only [sz_mk, sz_leaf, sizeL, szL_app]; omega)))
theorem upto_wt {X : Pp Tree} {s : Str} (h : T0 X) : ∀ j, L0 (upto j s X)
 | 0 => Wt.dry
 | j + 1 => Wt.tok (Wt.ret (by (simp only [sz_mk, sz_leaf, sizeL, szL_app]; omega))) (Wt.bind0 h fun a => Wt.bind0 (upto_wt h j) fun l => Wt.ret (by (simp only [sz_mk, sz_leaf, sizeL, szL_app]; omega)))
variable {N : Nat}
theorem inP_wt {s : Str} {X : Pp Tree} (h : T0 X) : L0 (inP N s X) := Wt.tok (Wt.ret (by (simp only [sz_mk, sz_leaf, sizeL, szL_app]; omega))) (Wt.bind0 (commas_wt h N) fun l => Wt.need (Wt.ret (by omega)))
theorem results_wt {typ : Pp Tree} (h : T0 typ) : L0 (resultsP N typ) :=
 Wt.tok (Wt.bind0 (commas_wt h N) fun l => Wt.need (Wt.ret (by omega))) (Wt.peek (Wt.bind0 h fun t => Wt.ret (by (simp only [sz_mk, sz_leaf, sizeL, szL_app]; omega))) (Wt.ret (by (simp only [sz_mk, sz_leaf, sizeL, szL_app]; omega))))
theorem param_wt {typ : Pp Tree} (h : T0 typ) : T0 (paramP typ) := Wt.name fun s => Wt.bind0 h fun t => Wt.ret (by (simp only [sz_mk, sz_leaf, sizeL, szL_app]; omega))
theorem sigLike_wt {kind : Int} {X typ : Pp Tree} (hX : T0 X) (h : T0 typ) : T0 (sigLike N kind X typ) :=
 Wt.need (Wt.bind0 (inP_wt hX) fun ps => Wt.bind0 (results_wt h) fun rs => Wt.ret (by (simp only [sz_mk, sz_leaf, sizeL, szL_app]; omega)))
theorem sig_wt {typ : Pp Tree} (h : T0 typ) : T0 (sigP N typ) := sigLike_wt (param_wt h) h
theorem typP_wt {typ : Pp Tree} (h : T0 typ) : T0 (typP N typ) :=
 Wt.tok (Wt.bind0 h fun t => Wt.ret (by (simp only [sz_mk, sz_leaf, sizeL, szL_app]; omega))) (Wt.tok (Wt.need (Wt.bind0 h fun t => Wt.ret (by (simp only [sz_mk, sz_leaf, sizeL, szL_app]; omega)))) (Wt.tok ((sigLike_wt h h).up (by omega)) (Wt.name fun s => Wt.ret (by (simp only [sz_mk, sz_leaf, sizeL, szL_app]; omega)))))
theorem field_wt {mb : Pp Tree} (h : T0 mb) : T0 (fieldP mb) := Wt.name fun s => Wt.bind0 h fun t => Wt.need (Wt.ret (by (simp only [sz_mk, sz_leaf, sizeL, szL_app]; omega)))
theorem body_wt {kind : Int} {nm : Str} {mb : Pp Tree} (h : T0 mb) : T0 (bodyP N kind nm mb) := Wt.need (Wt.bind0 (upto_wt (field_wt h) N) fun l => Wt.ret (by (simp only [sz_mk, sz_leaf, sizeL, szL_app]; omega)))
theorem typeDecl_wt {typ : Pp Tree} (h : T0 typ) : T0 (typeDeclP N typ) := Wt.name fun nm => Wt.tok ((body_wt (sig_wt h)).up (by omega)) (Wt.need ((body_wt h).up (by omega)))
theorem decl_wt {typ block : Pp Tree} (h : T0 typ) (hb : T0 block) : T0 (declP N typ block) := by
 refine Wt.tok ((typeDecl_wt h).up (by omega)) (Wt.need (Wt.tok ?_ ?_))
 ·exact Wt.name fun recv => Wt.need (Wt.name fun of => Wt.need (Wt.name fun nm => Wt.bind0 (sig_wt h) fun s => Wt.bind0 hb fun b => Wt.ret (by simp only [sz_mk, sizeL, recvT, sz_leaf]; omega)))
 ·exact Wt.name fun nm => Wt.bind0 (sig_wt h) fun s => Wt.bind0 hb fun b => Wt.ret (by (simp only [sz_mk, sz_leaf, sizeL, szL_app]; omega))
theorem block_wt {stmt : Pp Tree} (h : T0 stmt) : T0 (blockP N stmt) := Wt.need (Wt.bind0 (upto_wt h N) fun l => Wt.ret (by (simp only [sz_mk, sz_leaf, sizeL, szL_app]; omega)))
theorem branch_wt {expr block branch : Pp Tree} (he : T0 expr) (hb : T0 block) (hr : T0 branch) : T0 (branchP expr block branch) :=
 Wt.need (Wt.bind0 he fun c => Wt.bind0 hb fun b => Wt.tok (Wt.peek (Wt.bind0 hr fun e => Wt.ret (by (simp only [sz_mk, sz_leaf, sizeL, szL_app]; omega))) (Wt.bind0 hb fun e => Wt.ret (by (simp only [sz_mk, sz_leaf, sizeL, szL_app]; omega)))) (Wt.ret (by (simp only [sz_mk, sz_leaf, sizeL, szL_app]; omega))))
theorem for_wt {expr block : Pp Tree} (he : T0 expr) (hb : T0 block) : Wt 1 Tree.size (forP expr block) :=
 Wt.peek (Wt.bind0 hb fun b => Wt.ret (by (simp only [sz_mk, sz_leaf, sizeL, szL_app]; omega))) (Wt.bind0 he fun c => Wt.bind0 hb fun b => Wt.ret (by (simp only [sz_mk, sz_leaf, sizeL, szL_app]; omega)))
theorem assign_wt {expr : Pp Tree} {left : List Tree} (he : T0 expr) : Wt (sizeL left + 1) Tree.size (assignP N expr left) := by
 refine Wt.tokIf (Wt.bind0 (commas_wt he N) fun l => Wt.ret (by (simp only [sz_mk, sz_leaf, sizeL, szL_app]; omega))) (Wt.tokIf (Wt.bind0 (commas_wt he N) fun l => Wt.ret (by (simp only [sz_mk, sz_leaf, sizeL, szL_app]; omega))) ?_)
 cases isC1 left with
 | true => exact Wt.peek (Wt.ret (by (simp only [sz_mk, sz_leaf, sizeL, szL_app]; omega))) Wt.fail
 | false => exact Wt.fail
theorem simple_wt {typ expr : Pp Tree} (h : T0 typ) (he : T0 expr) : Wt 1 Tree.size (simpleP N typ expr) := by
 refine Wt.tok (Wt.name fun s => Wt.bind0 h fun t => Wt.tok (Wt.bind0 he fun e => Wt.ret (by (simp only [sz_mk, sz_leaf, sizeL, szL_app]; omega))) (Wt.ret (by (simp only [sz_mk, sz_leaf, sizeL, szL_app]; omega)))) ?_
 refine Wt.tok (Wt.peek (Wt.ret (by (simp only [sz_mk, sz_leaf, sizeL, szL_app]; omega))) (Wt.bind0 (commas_wt he N) fun l => Wt.ret (by (simp only [sz_mk, sz_leaf, sizeL, szL_app]; omega)))) ?_
 refine Wt.tok (Wt.ret (by (simp only [sz_mk, sz_leaf, sizeL, szL_app]; omega))) (Wt.tok (Wt.ret (by (simp only [sz_mk, sz_leaf, sizeL, szL_app]; omega))) ?_)
 exact Wt.bind0 (commas_wt he N) fun l => (assign_wt he).up (by omega)
theorem exprs_wt {s : Str} {expr : Pp Tree} (he : T0 expr) : L0 (exprsP N s expr) := inP_wt he
theorem cut_wt {expr : Pp Tree} {num : Int} {ks : List Tree} {c : Nat} (he : T0 expr) (hc : sizeL ks ≤ c) : Wt c Tree.size (cutP expr num ks) :=
 Wt.need (Wt.tok (Wt.ret (by (simp only [sz_mk, sz_leaf, sizeL, szL_app]; omega))) (Wt.bind0 he fun e => Wt.need (Wt.ret (by (simp only [sz_mk, sz_leaf, sizeL, szL_app]; omega)))))
theorem index_wt {expr : Pp Tree} {n : Tree} (he : T0 expr) : Wt n.size Tree.size (indexP expr n) :=
 Wt.peek (cut_wt he (by (simp only [sz_mk, sz_leaf, sizeL, szL_app]; omega))) (Wt.bind0 he fun e => Wt.tok (Wt.ret (by (simp only [sz_mk, sz_leaf, sizeL, szL_app]; omega))) (cut_wt he (by (simp only [sz_mk, sz_leaf, sizeL, szL_app]; omega))))
theorem post_wt {expr : Pp Tree} (he : T0 expr) : ∀ (j : Nat) (n : Tree), Wt n.size Tree.size (postP N expr j n)
 | 0, n => Wt.dry
 | j + 1, n => by
  refine Wt.tok (Wt.name fun s => (post_wt he j _).up (by (simp only [sz_mk, sz_leaf, sizeL, szL_app]; omega))) (Wt.tok (Wt.bind (index_wt he) fun t => ⟨_, ?_, ?_, post_wt he j t⟩) (Wt.tok (Wt.bind0 (exprs_wt he) fun l => (post_wt he j _).up (by (simp only [sz_mk, sz_leaf, sizeL, szL_app]; omega))) (Wt.ret (Nat.le_refl _))))
  ·omega
  ·omega
theorem prim_wt {typ block expr : Pp Tree} {h : Bool} (ht : T0 typ) (hb : T0 block) (he : T0 expr) : T0 (primP N typ block expr h) := by
 refine Wt.tkn (fun t => Wt.ret (by (simp only [sz_mk, sz_leaf, sizeL, szL_app]; omega))) (Wt.tkn (fun t => Wt.ret (by (simp only [sz_mk, sz_leaf, sizeL, szL_app]; omega))) (Wt.tok (Wt.ret (by (simp only [sz_mk, sz_leaf, sizeL, szL_app]; omega))) (Wt.tok (Wt.ret (by (simp only [sz_mk, sz_leaf, sizeL, szL_app]; omega))) (Wt.tok (Wt.ret (by (simp only [sz_mk, sz_leaf, sizeL, szL_app]; omega))) ?_))))
 refine Wt.tok (Wt.bind0 he fun t => Wt.need (Wt.ret (by omega))) ?_
 refine Wt.tok (Wt.need (Wt.bind0 ht fun t => Wt.need (Wt.bind0 (exprs_wt he) fun l => Wt.ret (by (simp only [sz_mk, sz_leaf, sizeL, szL_app]; omega))))) ?_
 refine Wt.tok (Wt.bind0 (sig_wt ht) fun s => Wt.bind0 hb fun b => Wt.ret (by (simp only [sz_mk, sz_leaf, sizeL, szL_app]; omega))) (Wt.name fun s => ?_)
 cases h with
 | true => exact Wt.ret (by (simp only [sz_mk, sz_leaf, sizeL, szL_app]; omega))
 | false => exact Wt.tok (Wt.bind0 (exprs_wt he) fun l => Wt.ret (by (simp only [sz_mk, sz_leaf, sizeL, szL_app]; omega))) (Wt.ret (by (simp only [sz_mk, sz_leaf, sizeL, szL_app]; omega)))
theorem loopB_wt {X : Pp Tree} {ops : List Str} (h : T0 X) : ∀ (j : Nat) (n : Tree), Wt n.size Tree.size (loopB j ops X n)
 | 0, n => Wt.dry
 | j + 1, n => Wt.oneOf (fun op => Wt.bind0 h fun m => (loopB_wt h j _).up (by simp only [binT, sz_mk, sizeL]; omega)) (Wt.ret (Nat.le_refl _))
theorem binL_wt {U : Pp Tree} (hU : T0 U) : ∀ l, T0 (binL N U l)
 | [] => hU
 | ops :: rest => Wt.bind0 (binL_wt hU rest) fun n => (loopB_wt (binL_wt hU rest) N n).up (by omega)
structure GWt (g : Gr) : Prop where
 typ : T0 g.typ
 block : T0 g.block
 stmt : T0 g.stmt
 branch : T0 g.branch
 expr : ∀ b, T0 (g.expr b)
 unary : ∀ b, T0 (g.unary b)
theorem gwt : ∀ n, GWt (gr N n)
 | 0 => ⟨Wt.dry, Wt.dry, Wt.dry, Wt.dry, fun _ => Wt.dry, fun _ => Wt.dry⟩
 | n + 1 => by
  have IH := gwt n
  refine ⟨typP_wt IH.typ, block_wt IH.stmt, ?_, branch_wt (IH.expr _) IH.block IH.branch, fun b => binL_wt (IH.unary b) _, fun b => ?_⟩
  ·exact Wt.peek IH.block (Wt.peek IH.branch (Wt.tok (for_wt (IH.expr _) IH.block) (Wt.bind (simple_wt IH.typ (IH.expr _)) fun s => ⟨s.size - 1, by omega, by have := Sep.size_pos s; omega, Wt.need (Wt.ret (by omega))⟩)))
  ·exact Wt.oneOf (fun op => Wt.bind0 (IH.unary b) fun t => Wt.ret (by (simp only [sz_mk, sz_leaf, sizeL, szL_app]; omega))) (Wt.bind0 (prim_wt IH.typ IH.block (IH.expr _)) fun t => (post_wt (IH.expr _) N t).up (by omega))
theorem declG_wt (n : Nat) : T0 (declG N n) := decl_wt (gwt n).typ (gwt n).block
theorem progL_wt {decl : Pp Tree} (h : T0 decl) : ∀ j, L0 (progL decl j)
 | 0 => Wt.dry
 | j + 1 => fun f k a k' e => by
  have hr : L0 (bind decl fun a => bind (progL decl j) fun l => ret (a :: l)) := Wt.bind0 h fun a => Wt.bind0 (progL_wt h j) fun l => Wt.ret (by (simp only [sz_mk, sz_leaf, sizeL, szL_app]; omega))
  unfold progL at e
  cases hb : (f k).isNone with
  | true => simp only [hb, cond_true] at e; injection e with e1 e2; subst e1; subst e2; simp only [sizeL]; omega
  | false => simp only [hb, cond_false] at e; exact hr f k a k' e
theorem program_wt (M : Nat) : L0 (program M) := progL_wt (declG_wt _) _
end Go.Ps


/- PrParse -/
set_option linter.unusedVariables false
set_option linter.unusedSimpArgs false
namespace Go.Sep
open Go.Proofs
theorem retQ_ret_c3 {P : Program} {ρ : Env} {m : Mem} {L : List Item} (T : Tab P) (i : Nat) {fn : Func} {R : Value → Mem → List Item → Prop} {X : List PanicEntry → Mem → List Item → Prop} {t u u2 : Nat} {ty : TypeId} {b : Nat} {cs : List Value} {v v2 v3 : Value} {L' : List Item}
  (hres : fn.results = ⟨[.cell t ty, .tmp u, .tmp u2]⟩) (ht : look ρ t = some (.pointer (some ⟨b, 0, none⟩))) (hi : L[i]? = some (.cells b 0 cs)) (hv : T.load ty cs 0 = some v) (hu : look ρ u = some v2) (hu2 : look ρ u2 = some v3) (hs : L'.Sublist L)
  (h : R (.tuple ⟨[v, v2, v3]⟩) m L') : retQ P fn R X .ret ρ [] m L := by
 refine ⟨rfl, _, L', fun a w hA hst => ?_, hs, h⟩
 have h1 := run_loadVar (P := P) T (k := 0) (hst.cells hi) hv
 have h2 := hA t _ ht
 have h3 := hA u _ hu
 have h4 := hA u2 _ hu2
 unfold results
 rw [hres, Array.mapM_eq_mapM_toList]
 simp [Sem.run_bind, Sem.run_map, h2, h3, h4, asAddr, h1]
attribute [local irreducible] TC TO OT TCallX TCall DO DOt thenQ blockQ retQ At
theorem program_size {l : List Tok} {ds : List Tree} {k : Nat} (h : Ps.program l.length (tkF l) 0 = .ok ds k) : sizeL ds ≤ l.length := by
 have h1 := (Ps.Run.program (tkF_none l)).ok 0 (Nat.le_refl _) (Nat.zero_le _) ds k h
 have h2 := Ps.program_wt l.length (tkF l) 0 ds k h
 omega
set_option maxHeartbeats 3000000 in
theorem refParse_law (m : Mem) (L : List Item) (s : Str) : TCall Tryz.prog 9 ⟨[strV s]⟩ m L (Made m L (ParseR (parseD s))) := by
 have hll := scanD_len s
 unfold TCall
 refine TCallX.enter Tryz.func9 rfl 84 rfl ?_
 repeat (first|refine q1 ?_|refine q3 ?_)
 refine TO.step rfl (OT.alloc tab rfl rfl rfl rfl (fun b2 => ?_))
 repeat (first|refine q1 ?_|refine q3 ?_|refine q4 tab rfl rfl ?_|refine q5 ?_|refine q6 ?_)
 refine TO.step rfl (OT.call rfl rfl rfl rfl rfl rfl goes21 ((scan_ref _ _ s).x ?_));
 rintro _ m1 _ ⟨hm1, rfl, sl, rfl, hsl⟩
 repeat (first|refine q1 ?_|refine q3 ?_|refine q4 tab rfl rfl ?_|refine q5 ?_|refine q6 ?_)
 refine TC.condN rfl (fun he => ?_) (fun he => ?_)
 ·have hD : parseD s = ⟨emptyT, ((scanD s).at_ : Int), (scanD s).e⟩ := by rw [parseD, if_neg he]
  repeat (first|refine q1 ?_|refine q3 ?_|refine q4 tab rfl rfl ?_)
  (refine TO.step rfl (OT.storeL0 tab 0 rfl rfl rfl rfl rfl rfl rfl rfl ?_))
  repeat (first|refine q4 tab rfl rfl ?_|refine q5 ?_|refine q6 ?_|refine q8 ?_|refine q15 ?_)
  refine retQ_ret_c3 tab 0 rfl rfl rfl rfl rfl rfl (L' := L) (by repeat (first|exact List.Sublist.refl _|refine List.Sublist.cons _ ?_)) ⟨hm1, rfl, ?_⟩
  rw [hD]
  exact ⟨⟨0, [], 0, ⟨none, 0, 0⟩⟩, rfl, emptyT_rep _⟩
 have hD : parseD s = parseL s (scanD s).list := by rw [parseD, if_pos he]
 rw [hD]
 generalize (scanD s).list = l at hsl hll
 repeat (first|refine q1 ?_|refine q3 ?_|refine q4 tab rfl rfl ?_|refine q6 ?_|refine q13 ?_)
 refine TO.step rfl (OT.box rfl rfl rfl rfl rfl (fun bp => ?_))
 repeat (first|refine q1 ?_|refine q3 ?_|refine q4 tab rfl rfl ?_|refine q5 ?_|refine q6 ?_)
 have hlen := hsl.len
 generalize hEe : (⟨s, sl, l, bp, l.length + 1⟩ : PE) = E
 have hE : E.Ok m1 := by subst hEe; exact ⟨hsl, hll, by show l.length + 1 ≤ _; omega, by show 1 ≤ l.length + 1; omega⟩
 have et : E.toks = l := by subst hEe; rfl
 have el : E.list = sl := by subst hEe; rfl
 have ep : E.p = bp := by subst hEe; rfl
 have eN : E.N = l.length + 1 := by subst hEe; rfl
 have ef : E.f = tkF l := by subst hEe; rfl
 have hG := grR (mb := m1) (E := E) (3 * l.length + 4)
 have hX := rdecl_rc (hG.typ false) (hG.block false)
 have hn := program_ne l
 have hpe : Ps.program l.length (tkF l) 0 = Ps.progL (Ps.declP E.N (Ps.gr E.N (3 * l.length + 4)).typ (Ps.gr E.N (3 * l.length + 4)).block) (l.length + 1) E.f 0 := by rw [eN, ef]; rfl
 generalize hT : Ps.program l.length (tkF l) 0 = T at hn hpe
 generalize Ps.declP E.N (Ps.gr E.N (3 * l.length + 4)).typ (Ps.gr E.N (3 * l.length + 4)).block = X at hX hpe
 have hk : 0 ≤ E.toks.length := Nat.zero_le _
 have hm : m1 ≤ m1 := Mem.le_refl _
 have hS : RS E T false 0 false false (Ps.progL X (l.length + 1)) := RS.good hpe
 rw [Ps.decls_start] at hS
 rw [← ep, ← el]
 have hle := hE.rep.len
 have hfew := hE.few
 refine TO.perm (L' := E.J 0 false false :: .cells b2 0 [.int .i64 0, strV [], .int .i64 0, .slice none 0 0] :: L) (List.Perm.refl _) ?_
 skip
 refine TO.step rfl (OT.node (sl := ⟨none, 0, 0⟩) rfl rfl rfl rfl rfl rfl ?_)
 refine TO.step rfl (OT.alloc tab rfl rfl rfl rfl (fun b9 => ?_)); refine TO.perm (List.Perm.swap _ _ _) ?_
 skip
 (refine TO.step rfl (OT.storeL0 tab 1 rfl rfl rfl rfl rfl rfl rfl rfl ?_))
 refine TO.grow0 (size := 4) ?_
 refine TO.perm (L' := E.J 0 false false :: .cells b9 0 [.int .i64 1, strV [], .int .i64 0, .slice none 0 0] :: tok ⟨none, 0, 0⟩ 4 :: .cells b2 0 [.int .i64 0, strV [], .int .i64 0, .slice none 0 0] :: L) ((List.Perm.trans pfr1 (List.Perm.cons _ pfr1))) ?_
 repeat (first|refine q1 ?_|refine q2 ?_|refine q5 ?_|refine q6 ?_)
 refine TC.loopK (ι := Sl × Mem × List Tree × Nat × Nat × Bool × Bool) [0, 2, 5, 8, 9] rfl (fun x => []) (fun x => x.2.1) (fun x => E.J x.2.2.2.1 x.2.2.2.2.2.1 x.2.2.2.2.2.2 :: .cells b9 0 [.int .i64 1, strV [], .int .i64 0, x.1.v] :: tok x.1 4 :: .cells b2 0 [.int .i64 0, strV [], .int .i64 0, .slice none 0 0] :: L) (fun x => m1 ≤ x.2.1 ∧ E.Ok x.2.1 ∧ x.2.2.2.1 ≤ E.toks.length ∧ SlRep rTree x.2.1 x.1 x.2.2.1 ∧ Own x.1 ∧ x.2.2.1.length + x.2.2.2.2.1 = l.length + 1 ∧ RS E T x.2.2.2.2.2.1 x.2.2.2.1 x.2.2.2.2.2.2 false (Ps.decls X x.2.2.2.2.1 x.2.2.1)) (fun x => x.2.2.2.2.1) (⟨none, 0, 0⟩, m1, [], 0, l.length + 1, false, false) (by repeat (exact trivial)) rfl (by repeat (exact List.Sublist.refl _)) ⟨hm, hE, hk, SlRep.nil _ _, Own.nil, by simp, hS⟩ ?_
 clear hS hk hE hm hle
 rintro ⟨s5, m2, acc, k, j, b, h⟩ ⟨hm, hE, hk, hs5, ho5, hlen2, hS⟩
 simp only at hm hE hk hs5 ho5 hlen2 hS
 show TC _ _ _ _ _ m2 (E.J k b h :: .cells b9 0 [.int .i64 1, strV [], .int .i64 0, s5.v] :: tok s5 4 :: .cells b2 0 [.int .i64 0, strV [], .int .i64 0, .slice none 0 0] :: L) _
 have hle := hE.rep.len
 cases b with
 | true =>
  have hTb : T = .bad k := hS.2 rfl
  have hA2 : parseL s l = ⟨emptyT, placeD s l k, 3⟩ := by rw [parseL, hT, hTb]
  repeat (first|(first|refine q1 ?_|refine q3 ?_|refine q4 tab rfl rfl ?_|refine q5 ?_|refine q6 ?_|refine q10 ?_|refine q11 ?_|refine q14 ?_|refine q16 rfl ?_|refine q17 rfl ?_)|(refine qs rfl (ql tab 0 rfl rfl rfl rfl rfl rfl ?_)))
  refine TC.condP rfl (fun hc => ?_) (fun hc => ?_)
  ·have hlt : k < E.toks.length := by omega
   have hx : E.toks[k]? = some E.toks[k] := List.getElem?_eq_getElem hlt
   repeat (refine q1 ?_)
   refine TC.draw [] mixed 12 rfl [E.J k true h] (.cells b9 0 [.int .i64 1, strV [], .int .i64 0, s5.v] :: tok s5 4 :: .cells b2 0 [.int .i64 0, strV [], .int .i64 0, .slice none 0 0] :: L) (by first | exact List.Perm.refl _ | (rw [List.append_nil]; exact List.Perm.refl _)) ?_
   refine DO.pure tab (by repeat (first|exact Calm.ret|refine Calm.then ?_)) (by kernel_rfl) [0, 1, 2, 3, 4] (by kernel_rfl) rfl ?_
   (refine DO.loadL tab 5 0 (by repeat (first|exact Calm.ret|refine Calm.then ?_)) (by kernel_rfl) (by kernel_rfl) rfl rfl rfl rfl rfl rfl rfl rfl ?_)
   refine DO.index tab rTok 6 k hE.rep (by repeat (first|exact Calm.ret|refine Calm.then ?_)) (by kernel_rfl) (by kernel_rfl) rfl rfl rfl rfl rfl rfl rfl (by first | rfl | omega) rfl hx ?_
   rintro b' i' hd' hr' hA'; obtain rfl := (show hd' = E.toks[k] from hr')
   refine DO.pure tab (by repeat (first|exact Calm.ret|refine Calm.then ?_)) (by kernel_rfl) [7] (by kernel_rfl) rfl ?_
   (refine DO.loadA tab 8 hA' (by repeat (first|exact Calm.ret|refine Calm.then ?_)) (by kernel_rfl) (by kernel_rfl) rfl rfl rfl rfl rfl rfl rfl ?_)
   refine DO.run 9 rfl rfl (by kernel_rfl) rfl ?_
   refine OT.storeL0 tab 3 rfl rfl rfl rfl rfl rfl rfl rfl ?_; refine ⟨Mem.le_refl _, _, List.Perm.refl _, ?_⟩
   refine DO.pure tab (by repeat (first|exact Calm.ret|refine Calm.then ?_)) (by kernel_rfl) [10, 11] (by kernel_rfl) rfl ?_
   (refine DO.nil (by kernel_rfl) ?_)
   rotate_left 1
   repeat (first|refine q6 ?_|refine q8 ?_|refine q15 ?_)
   refine retQ_ret_c3 tab 3 rfl rfl rfl rfl rfl rfl (L' := L) (by repeat (first|exact List.Sublist.refl _|refine List.Sublist.cons _ ?_)) ⟨Mem.le_trans hm1 hm, rfl, ?_⟩
   rw [hA2]
   refine ⟨⟨0, [], 0, ⟨none, 0, 0⟩⟩, ?_, emptyT_rep _⟩
   unfold placeD
   rw [← et, hx]
  ·repeat (first|refine q1 ?_|refine q3 ?_|refine q4 tab rfl rfl ?_|refine q6 ?_|refine q13 ?_)
   (refine TO.step rfl (OT.storeL0 tab 3 rfl rfl rfl rfl rfl rfl rfl rfl ?_))
   repeat (first|refine q4 tab rfl rfl ?_|refine q5 ?_|refine q6 ?_|refine q8 ?_|refine q15 ?_)
   refine retQ_ret_c3 tab 3 rfl rfl rfl rfl rfl rfl (L' := L) (by repeat (first|exact List.Sublist.refl _|refine List.Sublist.cons _ ?_)) ⟨Mem.le_trans hm1 hm, rfl, ?_⟩
   rw [hA2]
   refine ⟨⟨0, [], 0, ⟨none, 0, 0⟩⟩, ?_, emptyT_rep _⟩
   unfold placeD
   rw [← et, List.getElem?_eq_none (by omega)]
 | false =>
  cases j with
  | zero => exact absurd (hS.1 rfl).2 hn
  | succ j =>
   repeat (first|(first|refine q1 ?_|refine q3 ?_|refine q4 tab rfl rfl ?_|refine q5 ?_|refine q6 ?_)|(refine qs rfl (ql tab 0 rfl rfl rfl rfl rfl rfl ?_)))
   refine TC.condP rfl (fun hc => ?_) (fun hc => ?_)
   ·have hlt : k < E.toks.length := by omega
    have hS : RS E T false k h false (Ps.bind X fun a => Ps.decls X j (acc ++ [a])) := hS.to fun _ => Ps.decls_some (by rw [PE.f_some hlt]; exact fun h => by cases h)
    repeat (first|refine q2 ?_|refine q6 ?_|refine q13 ?_)
    refine TC.draw [7] mixed 8 rfl [.cells b9 0 [.int .i64 1, strV [], .int .i64 0, s5.v]] (E.J k false h :: tok s5 4 :: .cells b2 0 [.int .i64 0, strV [], .int .i64 0, .slice none 0 0] :: L) (List.Perm.swap _ _ _) ?_
    refine DO.pure tab (by repeat (first|exact Calm.ret|refine Calm.then ?_|refine Calm.block ?_)) (by kernel_rfl) [0] (by kernel_rfl) rfl ?_
    (refine DO.loadL tab 1 0 (by repeat (first|exact Calm.ret|refine Calm.then ?_|refine Calm.block ?_)) (by kernel_rfl) (by kernel_rfl) rfl rfl rfl rfl rfl rfl rfl rfl ?_)
    refine DO.pure tab (by repeat (first|exact Calm.ret|refine Calm.then ?_|refine Calm.block ?_)) (by kernel_rfl) [2] (by kernel_rfl) rfl ?_
    refine DO.run 3 rfl rfl (by kernel_rfl) rfl ?_
    refine OT.perm (List.Perm.swap _ _ _) (OT.rcT ((hX.up hm)) (Mem.le_refl _) hS hn hE hk hm rfl rfl rfl rfl rfl rfl goes23 (fun x mA a k b h hS hm hE hleA hk hr => ?_)); refine ⟨hleA, E.J k b h :: tok s5 4 :: .cells b2 0 [.int .i64 0, strV [], .int .i64 0, .slice none 0 0] :: L, List.Perm.swap _ _ _, ?_⟩
    refine DO.run 4 rfl rfl (by kernel_rfl) rfl ?_
    refine OT.litR tab rTree (hs := [x]) (l := [a]) ⟨rTree_iff.2 hr, trivial⟩ rfl rfl rfl rfl rfl (by decide) (fun sB mB hleB hsB hoB hcB => ?_); refine ⟨hleB, _, List.Perm.refl _, ?_⟩
    refine DO.run 5 rfl rfl (by kernel_rfl) rfl ?_
    refine OT.append tab rTree 2 (hs5.mono (Mem.le_trans hleA hleB)) ho5 hsB rfl rfl rfl rfl rfl rfl rfl (by simp only [List.length_append, List.length_cons, List.length_nil, rTree, mkR]; omega) (fun s3 mC hleC hs3 ho3 => ?_); refine ⟨hleC, E.J k b h :: tok s3 4 :: .cells b2 0 [.int .i64 0, strV [], .int .i64 0, .slice none 0 0] :: L, List.Perm.refl _, ?_⟩
    refine DO.pure tab (by repeat (first|exact Calm.ret|refine Calm.then ?_|refine Calm.block ?_)) (by kernel_rfl) [6] (by kernel_rfl) rfl ?_
    refine DO.tail ?_
    refine DOt.run 7 rfl rfl (by kernel_rfl) rfl ?_
    refine OT.storeL (k := 3) tab 0 rfl rfl rfl rfl rfl rfl rfl rfl ?_; refine DOt.perm (List.Perm.swap _ _ _) ?_
    refine DOt.nil (by kernel_rfl) ?_
    rotate_left 1
    replace hm := Mem.le_trans hm (Mem.le_trans hleB hleC)
    replace hE := hE.mono (Mem.le_trans hleB hleC)
    repeat (first|refine q6 ?_|refine q7 ?_)
    exact ⟨(s3, mC, acc ++ [a], k, j, b, h), (by repeat (exact trivial)), (by repeat (first|exact trivial|refine And.intro rfl ?_)), rfl, rfl, (by repeat (exact List.Sublist.refl _)), ⟨hm, hE, hk, hs3, ho3, by simp only [List.length_append, List.length_cons, List.length_nil]; omega, hS⟩, by simp only; omega⟩
   ·have hTo : T = .ok acc k := by
     rw [(hS.1 rfl).2]
     exact Ps.decls_none (PE.f_none (by omega))
    have hsz := program_size (hT.trans hTo)
    have hA2 : parseL s l = if (Tree.mk 1 [] 0 acc).size ≤ 20000 ∧ (Tree.mk 1 [] 0 acc).deep ≤ 100 then ⟨.mk 1 [] 0 acc, 0, 0⟩ else ⟨emptyT, 0, 4⟩ := by rw [parseL, hT, hTo]
    have hrep : TreeRep m2 ⟨1, [], 0, s5⟩ (.mk 1 [] 0 acc) := ⟨rfl, rfl, rfl, hs5⟩
    repeat (first|refine q1 ?_|refine q3 ?_|refine q4 tab rfl rfl ?_|refine q6 ?_|refine q10 ?_|refine q11 ?_|refine q14 ?_)
    (refine qs rfl (ql tab 0 rfl rfl rfl rfl rfl rfl ?_))
    repeat (first|refine q1 ?_|refine q3 ?_|refine q5 ?_|refine q6 ?_|refine q13 ?_|refine q17 rfl ?_)
    refine TO.step rfl (OT.loadL0 tab 1 rfl rfl rfl rfl rfl rfl ?_)
    skip
    refine TO.step rfl (OT.call rfl rfl rfl rfl rfl rfl goes24 ((size_ref (.mk 1 [] 0 acc) _ _ ⟨1, [], 0, s5⟩ hrep (by simp only [Tree.size]; omega)).x ?_));
    rintro _ _ _ ⟨rfl, rfl, rfl⟩
    repeat (first|refine q1 ?_|refine q3 ?_|refine q4 tab rfl rfl ?_|refine q5 ?_|refine q6 ?_)
    (refine TO.splitP rfl rfl (fun e1 => ?_) (fun e1 => ?_))
    ·skip
     repeat (first|refine q1 ?_|refine q3 ?_|refine q4 tab rfl rfl ?_|refine q5 ?_|refine q6 ?_|refine q16 rfl ?_)
     (refine TO.step rfl (OT.storeL0 tab 3 rfl rfl rfl rfl rfl rfl rfl rfl ?_))
     repeat (first|refine q4 tab rfl rfl ?_|refine q5 ?_|refine q6 ?_|refine q8 ?_|refine q15 ?_)
     refine retQ_ret_c3 tab 3 rfl rfl rfl rfl rfl rfl (L' := L) (by repeat (first|exact List.Sublist.refl _|refine List.Sublist.cons _ ?_)) ⟨Mem.le_trans hm1 hm, rfl, ?_⟩
     rw [hA2, if_neg (by omega)]
     exact ⟨⟨0, [], 0, ⟨none, 0, 0⟩⟩, rfl, emptyT_rep _⟩
    ·repeat (first|refine q4 tab rfl rfl ?_|refine q5 ?_|refine q6 ?_)
     refine TC.condP rfl (fun e2 => ?_) (fun e2 => ?_)
     ·skip
      repeat (first|refine q1 ?_|refine q3 ?_|refine q4 tab rfl rfl ?_)
      (refine TO.step rfl (OT.storeL0 tab 3 rfl rfl rfl rfl rfl rfl rfl rfl ?_))
      repeat (first|refine q4 tab rfl rfl ?_|refine q5 ?_|refine q6 ?_|refine q8 ?_|refine q15 ?_)
      refine retQ_ret_c3 tab 3 rfl rfl rfl rfl rfl rfl (L' := L) (by repeat (first|exact List.Sublist.refl _|refine List.Sublist.cons _ ?_)) ⟨Mem.le_trans hm1 hm, rfl, ?_⟩
      rw [hA2, if_neg (by omega)]
      exact ⟨⟨0, [], 0, ⟨none, 0, 0⟩⟩, rfl, emptyT_rep _⟩
     ·repeat (first|refine q1 ?_|refine q3 ?_|refine q6 ?_|refine q13 ?_)
      refine TO.step rfl (OT.loadL0 tab 1 rfl rfl rfl rfl rfl rfl ?_)
      skip
      (refine TO.step rfl (OT.storeL0 tab 3 rfl rfl rfl rfl rfl rfl rfl rfl ?_))
      repeat (first|refine q4 tab rfl rfl ?_|refine q5 ?_|refine q6 ?_|refine q15 ?_)
      refine retQ_ret_c3 tab 3 rfl rfl rfl rfl rfl rfl (L' := L) (by repeat (first|exact List.Sublist.refl _|refine List.Sublist.cons _ ?_)) ⟨Mem.le_trans hm1 hm, rfl, ?_⟩
      rw [hA2, if_pos (by omega)]
      exact ⟨⟨1, [], 0, s5⟩, rfl, hrep⟩
end Go.Sep


/- TyEqP -/
set_option linter.unusedVariables false
set_option linter.unusedSimpArgs false
namespace Go.Sep
mutual
def teq : Tree → Tree → Bool
 | .mk k n u ks, .mk k' n' u' ks' => decide (k = k') && (decide (n = n') && (decide (u = u') && teqL ks ks'))
def teqL : List Tree → List Tree → Bool
 | [], [] => true
 | t :: ts, s :: ss => teq t s && teqL ts ss
 | [], _ :: _ => false
 | _ :: _, [] => false
end
mutual
theorem teq_iff : ∀ a b : Tree, teq a b = true ↔ a = b
 | .mk k n u ks, .mk k' n' u' ks' => by
  have := teqL_iff ks ks'
  simp only [teq, Bool.and_eq_true, decide_eq_true_eq, this, Tree.mk.injEq]
theorem teqL_iff : ∀ l r : List Tree, teqL l r = true ↔ l = r
 | [], [] => by simp [teqL]
 | t :: ts, s :: ss => by
  have h1 := teq_iff t s
  have h2 := teqL_iff ts ss
  simp only [teqL, Bool.and_eq_true, h1, h2, List.cons.injEq]
 | [], _ :: _ => by simp [teqL]
 | _ :: _, [] => by simp [teqL]
end
theorem teq_refl (a : Tree) : teq a a = true := (teq_iff a a).2 rfl
theorem teq_eq (a b : Tree) : teq a b = (decide (a.kind = b.kind) && (decide (a.name = b.name) && (decide (a.num = b.num) && teqL a.kids b.kids))) := by
 obtain ⟨_, _, _, _⟩ := a
 obtain ⟨_, _, _, _⟩ := b
 rfl
theorem teqL_len {l r : List Tree} (h : l.length ≠ r.length) : teqL l r = false := by
 cases hc : teqL l r with
 | false => rfl
 | true => exact absurd (congrArg List.length ((teqL_iff l r).1 hc)) h
theorem teqL_step (l r : List Tree) (k : Nat) (h1 : k < l.length) (h2 : k < r.length) : teqL (l.drop k) (r.drop k) = (teq l[k] r[k] && teqL (l.drop (k + 1)) (r.drop (k + 1))) := by
 rw [List.drop_eq_getElem_cons h1, List.drop_eq_getElem_cons h2, teqL]
end Go.Sep


/- PrSame -/
set_option linter.unusedVariables false
set_option linter.unusedSimpArgs false
namespace Go.Sep
open Go.Proofs
attribute [local irreducible] TC TO OT TCallX TCall DO DOt thenQ blockQ retQ At
set_option maxHeartbeats 1600000 in
theorem same_ref (a : Tree) : ∀ (c : Tree) (m : Mem) (L : List Item) (h g : HTree) (hr : TreeRep m h a) (gr : TreeRep m g c), TCall Tryz.prog 11 ⟨[treeV h, treeV g]⟩ m L (Ret (.bool (teq a c)) m L) := by
 induction a using Tree.ind with
 | h a ih =>
 intro c m L h g hr gr
 obtain ⟨h1, h2, h3, h4⟩ := hr
 obtain ⟨g1, g2, g3, g4⟩ := gr
 have hl := h4.len
 have gl := g4.len
 have hsm := h4.small rfl
 have gsm := g4.small rfl
 rw [teq_eq, ← h1, ← g1, ← h2, ← g2, ← h3, ← g3]
 unfold TCall
 refine TCallX.enter Tryz.func11 rfl 53 rfl ?_
 repeat (first|refine q1 ?_|refine q3 ?_)
 refine TO.step rfl (OT.box rfl rfl rfl rfl rfl (fun b => ?_))
 skip
 refine TO.step rfl (OT.box rfl rfl rfl rfl rfl (fun b2 => ?_))
 repeat (first|(first|refine q1 ?_|refine q3 ?_|refine q4 tab rfl rfl ?_|refine q5 ?_|refine q6 ?_)|(first|refine qs rfl (ql tab 0 rfl rfl rfl rfl rfl rfl ?_)|refine qs rfl (ql tab 1 rfl rfl rfl rfl rfl rfl ?_)))
 (refine TO.splitN rfl rfl (fun e1 => ?_) (fun e1 => ?_))
 ·repeat (first|refine q1 ?_|refine q3 ?_|refine q4 tab rfl rfl ?_|refine q5 ?_|refine q6 ?_|refine q8 ?_|refine q15 ?_|refine q16 rfl ?_)
  refine retQ_ret rfl (by repeat (first|exact List.Sublist.refl _|refine List.Sublist.cons _ ?_)) ⟨rfl, rfl, ?_⟩
  rw [decide_eq_false e1]; rfl
 repeat (first|(refine q4 tab rfl rfl ?_)|(first|refine qs rfl (ql tab 0 rfl rfl rfl rfl rfl rfl ?_)|refine qs rfl (ql tab 1 rfl rfl rfl rfl rfl rfl ?_)))
 (refine TO.splitN rfl rfl (fun e2 => ?_) (fun e2 => ?_))
 ·repeat (first|refine q1 ?_|refine q3 ?_|refine q4 tab rfl rfl ?_|refine q5 ?_|refine q6 ?_|refine q8 ?_|refine q15 ?_|refine q16 rfl ?_)
  refine retQ_ret rfl (by repeat (first|exact List.Sublist.refl _|refine List.Sublist.cons _ ?_)) ⟨rfl, rfl, ?_⟩
  rw [decide_eq_true e1, decide_eq_false e2]; rfl
 repeat (first|(refine q4 tab rfl rfl ?_)|(first|refine qs rfl (ql tab 0 rfl rfl rfl rfl rfl rfl ?_)|refine qs rfl (ql tab 1 rfl rfl rfl rfl rfl rfl ?_)))
 (refine TO.splitN rfl rfl (fun e3 => ?_) (fun e3 => ?_))
 ·repeat (first|refine q1 ?_|refine q3 ?_|refine q4 tab rfl rfl ?_|refine q5 ?_|refine q6 ?_|refine q8 ?_|refine q15 ?_|refine q16 rfl ?_)
  refine retQ_ret rfl (by repeat (first|exact List.Sublist.refl _|refine List.Sublist.cons _ ?_)) ⟨rfl, rfl, ?_⟩
  rw [decide_eq_true e1, decide_eq_true e2, decide_eq_false e3]; rfl
 repeat (first|(first|refine q4 tab rfl rfl ?_|refine q5 ?_|refine q6 ?_)|(first|refine qs rfl (ql tab 0 rfl rfl rfl rfl rfl rfl ?_)|refine qs rfl (ql tab 1 rfl rfl rfl rfl rfl rfl ?_)))
 refine TC.condN rfl (fun e4 => ?_) (fun e4 => ?_)
 ·repeat (first|refine q1 ?_|refine q3 ?_|refine q4 tab rfl rfl ?_|refine q5 ?_|refine q6 ?_|refine q8 ?_|refine q15 ?_)
  refine retQ_ret rfl (by repeat (first|exact List.Sublist.refl _|refine List.Sublist.cons _ ?_)) ⟨rfl, rfl, ?_⟩
  rw [teqL_len (by omega)]; simp
 rw [decide_eq_true e1, decide_eq_true e2, decide_eq_true e3, Bool.true_and, Bool.true_and, Bool.true_and]
 have hlen : a.kids.length = c.kids.length := by omega
 repeat (first|refine q1 ?_|refine q2 ?_|refine q3 ?_|refine q4 tab rfl rfl ?_|refine q5 ?_|refine q6 ?_|refine q13 ?_)
 refine TC.loopK (ι := Nat) [2, 3] rfl (fun k => [(5, .int .i64 (k : Int))]) (fun _ => m) (fun _ => .cells b2 0 (treeC g) :: .cells b 0 (treeC h) :: L) (fun k => k ≤ a.kids.length ∧ teqL a.kids c.kids = teqL (a.kids.drop k) (c.kids.drop k)) (fun k => a.kids.length - k) 0 (by repeat (first|exact trivial|refine And.intro rfl ?_)) rfl (by repeat (exact List.Sublist.refl _)) ⟨Nat.zero_le _, rfl⟩ ?_
 rintro k ⟨hk, hI⟩
 repeat (first|(first|refine q1 ?_|refine q3 ?_|refine q4 tab rfl rfl ?_|refine q5 ?_|refine q6 ?_)|(refine qs rfl (ql tab 1 rfl rfl rfl rfl rfl rfl ?_)))
 refine TC.condP rfl (fun hlt' => ?_) (fun hlt' => ?_)
 ·have hlt : k < a.kids.length := by omega
  have hlt2 : k < c.kids.length := by omega
  have hx : a.kids[k]? = some a.kids[k] := by simp [hlt]
  have hx2 : c.kids[k]? = some c.kids[k] := by simp [hlt2]
  rw [teqL_step _ _ k hlt hlt2] at hI
  repeat (first|refine q1 ?_|refine q2 ?_|refine q6 ?_|refine q13 ?_)
  refine TC.draw0 [] mixed 12 rfl ?_
  refine DO.pure tab (by repeat (first|exact Calm.ret|refine Calm.then ?_|refine Calm.block ?_)) (by kernel_rfl) [0] (by kernel_rfl) rfl ?_
  (refine DO.loadL tab 1 1 (by repeat (first|exact Calm.ret|refine Calm.then ?_|refine Calm.block ?_)) (by kernel_rfl) (by kernel_rfl) rfl rfl rfl rfl rfl rfl rfl rfl ?_)
  refine DO.pure tab (by repeat (first|exact Calm.ret|refine Calm.then ?_|refine Calm.block ?_)) (by kernel_rfl) [2] (by kernel_rfl) rfl ?_
  refine DO.index tab rTree 3 k h4 (by repeat (first|exact Calm.ret|refine Calm.then ?_|refine Calm.block ?_)) (by kernel_rfl) (by kernel_rfl) rfl rfl rfl rfl rfl rfl rfl (by first | rfl | omega) rfl hx ?_
  rintro b' i' h' hrd hA
  (refine DO.loadA (k := 0) tab 4 hA (by repeat (first|exact Calm.ret|refine Calm.then ?_|refine Calm.block ?_)) (by kernel_rfl) (by kernel_rfl) rfl rfl rfl rfl rfl rfl rfl ?_)
  refine DO.pure tab (by repeat (first|exact Calm.ret|refine Calm.then ?_|refine Calm.block ?_)) (by kernel_rfl) [5] (by kernel_rfl) rfl ?_
  (refine DO.loadL tab 6 0 (by repeat (first|exact Calm.ret|refine Calm.then ?_|refine Calm.block ?_)) (by kernel_rfl) (by kernel_rfl) rfl rfl rfl rfl rfl rfl rfl rfl ?_)
  refine DO.pure tab (by repeat (first|exact Calm.ret|refine Calm.then ?_|refine Calm.block ?_)) (by kernel_rfl) [7] (by kernel_rfl) rfl ?_
  refine DO.index tab rTree 8 k g4 (by repeat (first|exact Calm.ret|refine Calm.then ?_|refine Calm.block ?_)) (by kernel_rfl) (by kernel_rfl) rfl rfl rfl rfl rfl rfl rfl (by first | rfl | omega) rfl hx2 ?_
  rintro b'' i'' g' grd gA
  (refine DO.loadA (k := 0) tab 9 gA (by repeat (first|exact Calm.ret|refine Calm.then ?_|refine Calm.block ?_)) (by kernel_rfl) (by kernel_rfl) rfl rfl rfl rfl rfl rfl rfl ?_)
  refine DO.run 10 rfl rfl (by kernel_rfl) rfl (OT.call rfl rfl rfl rfl rfl rfl goes11 ((ih _ (List.getElem_mem hlt) c.kids[k] _ _ h' g' (rTree_iff.1 hrd) (rTree_iff.1 grd)).x ?_))
  rintro _ _ _ ⟨rfl, rfl, rfl⟩; refine ⟨Mem.le_refl _, _, List.Perm.refl _, ?_⟩
  refine DO.pure tab (by repeat (first|exact Calm.ret|refine Calm.then ?_|refine Calm.block ?_)) (by kernel_rfl) [11] (by kernel_rfl) rfl ?_
  (refine DO.nil0 (by kernel_rfl) ?_)
  rotate_left 1
  refine thenQ_n ?_
  skip
  refine TC.cond (t := !teq a.kids[k] c.kids[k]) rfl (fun e5 => ?_) (fun e5 => ?_)
  ·rw [Bool.not_eq_true'] at e5
   repeat (first|refine q1 ?_|refine q3 ?_|refine q4 tab rfl rfl ?_|refine q5 ?_|refine q6 ?_|refine q8 ?_|refine q9 ?_|refine q15 ?_)
   refine retQ_ret rfl (by repeat (first|exact List.Sublist.refl _|refine List.Sublist.cons _ ?_)) ⟨rfl, rfl, ?_⟩
   rw [hI, e5]; rfl
  ·rw [Bool.not_eq_false'] at e5
   repeat (first|refine q3 ?_|refine q4 tab rfl rfl ?_|refine q6 ?_|refine q7 ?_|refine q13 ?_)
   refine TO.step rfl (OT.arith (r' := ((k + 1 : Nat) : Int)) rfl rfl rfl rfl rfl rfl rfl (by omega) ?_)
   repeat (first|refine q4 tab rfl rfl ?_|refine q5 ?_|refine q6 ?_)
   exact ⟨k + 1, (by repeat (first|exact trivial|refine And.intro rfl ?_)), (by repeat (first|exact trivial|refine And.intro rfl ?_)), rfl, rfl, (by repeat (exact List.Sublist.refl _)), ⟨by omega, by rw [hI, e5]; rfl⟩, by omega⟩
 ·repeat (first|refine q1 ?_|refine q3 ?_|refine q4 tab rfl rfl ?_|refine q5 ?_|refine q6 ?_|refine q10 ?_|refine q11 ?_|refine q14 ?_|refine q15 ?_)
  refine retQ_ret rfl (by repeat (first|exact List.Sublist.refl _|refine List.Sublist.cons _ ?_)) ⟨rfl, rfl, ?_⟩
  rw [hI, List.drop_eq_nil_of_le (by omega), List.drop_eq_nil_of_le (by omega)]; rfl
end Go.Sep


/- PsTreesW -/
set_option linter.unusedVariables false
set_option linter.unusedSimpArgs false
namespace Go.Sep
open Go.Proofs
attribute [local irreducible] TC TO OT TCallX TCall DO DOt thenQ blockQ retQ At
attribute [local irreducible] parseD
set_option maxHeartbeats 1000000 in
theorem parseTrees_walk (m : Mem) (L : List Item) (s : Str) (hE : Errs m) : TCall Tryz.prog 3 ⟨[strV s]⟩ m L (Made m L fun r _ => r = .bool true) := by
 unfold TCall
 refine TCallX.enter Tryz.func3 rfl 37 rfl ?_
 repeat (first|refine q1 ?_|refine q3 ?_|refine q4 tab rfl rfl ?_|refine q5 ?_|refine q6 ?_)
 refine TO.step rfl (OT.call rfl rfl rfl rfl rfl rfl goes8 ((parse_law program_ne _ _ s hE).x ?_));
 rintro _ m1 _ ⟨hm1, rfl, x, rfl, hx⟩
 repeat (refine q4 tab rfl rfl ?_)
 refine TO.step rfl (OT.alloc tab rfl rfl rfl rfl (fun b => ?_))
 skip
 (refine TO.step rfl (OT.storeL0 tab 0 rfl rfl rfl rfl rfl rfl rfl rfl ?_))
 repeat (first|refine q1 ?_|refine q3 ?_|refine q4 tab rfl rfl ?_|refine q5 ?_|refine q6 ?_)
 refine TO.step rfl (OT.call rfl rfl rfl rfl rfl rfl goes9 ((refParse_law _ _ s).x ?_));
 rintro _ m2 _ ⟨hm2, rfl, y, rfl, hy⟩
 repeat (refine q4 tab rfl rfl ?_)
 refine TO.step rfl (OT.alloc tab rfl rfl rfl rfl (fun b2 => ?_))
 skip
 (refine TO.step rfl (OT.storeL0 tab 0 rfl rfl rfl rfl rfl rfl rfl rfl ?_))
 repeat (first|refine q1 ?_|refine q3 ?_|refine q4 tab rfl rfl ?_|refine q5 ?_|refine q6 ?_)
 refine TO.step rfl (OT.call rfl rfl rfl rfl rfl rfl goes10 ((awake_law _ _ (hE.mono (Mem.le_trans hm1 hm2))).x ?_));
 rintro _ m3 _ ⟨hm3, rfl, rfl⟩
 repeat (refine q4 tab rfl rfl ?_)
 (refine TO.splitP rfl rfl (fun e1 => ?_) (fun e1 => ?_))
 ·repeat (refine q4 tab rfl rfl ?_)
  (refine TO.splitP rfl rfl (fun e2 => ?_) (fun e2 => ?_))
  ·skip
   refine TO.step rfl (OT.loadL0 tab 1 rfl rfl rfl rfl rfl rfl ?_)
   refine TO.step rfl (OT.loadL0 tab 0 rfl rfl rfl rfl rfl rfl ?_)
   skip
   refine TO.step rfl (OT.call rfl rfl rfl rfl rfl rfl goes11 ((same_ref _ _ _ _ x y ((hx.mono hm2).mono hm3) (hy.mono hm3)).x ?_));
   rw [teq_refl]
   rintro _ _ _ ⟨rfl, rfl, rfl⟩
   repeat (first|refine q4 tab rfl rfl ?_|refine q5 ?_|refine q6 ?_|refine q15 ?_)
   exact retQ_ret rfl (by repeat (first|exact List.Sublist.refl _|refine List.Sublist.cons _ ?_)) ⟨Mem.le_trans (Mem.le_trans hm1 hm2) hm3, rfl, rfl⟩
  ·exact absurd rfl e2
 ·exact absurd rfl e1
end Go.Sep

