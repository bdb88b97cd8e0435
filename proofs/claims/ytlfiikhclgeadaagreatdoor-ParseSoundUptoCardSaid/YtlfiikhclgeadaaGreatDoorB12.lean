/- PrTel -/
import Derived.Test.YtlfiikhclgeadaaGreatDoorB11
set_option linter.unusedVariables false
set_option linter.unusedSimpArgs false
namespace Go.Sep
open Go.Proofs
attribute [local irreducible] TC TO OT TCallX TCall DO DOt thenQ blockQ retQ At
def withinB (a : Tree) (x y : Int) : Bool := decide ((a.size : Int) + x ≤ 20000) && decide ((a.deep : Int) + y ≤ 100)
theorem withinB_eq (a : Tree) (x y : Int) : withinB a x y = (decide ((a.size : Int) + x ≤ 20000) && decide ((a.deep : Int) + y ≤ 100)) := rfl
attribute [irreducible] withinB
set_option maxHeartbeats 800000 in
theorem within_ref (a : Tree) (m : Mem) (L : List Item) (h : HTree) (hr : TreeRep m h a) (hB : a.bulk ≤ 1048576) (x y : Int) (hx : 0 ≤ x ∧ x ≤ 100) (hy : 0 ≤ y ∧ y ≤ 100) :
  TCall Tryz.prog 28 ⟨[treeV h, .int .i64 x, .int .i64 y]⟩ m L (Ret (.bool (withinB a x y)) m L) := by
 have h5 := size_bulk a
 have h6 := deep_size a
 unfold TCall
 refine TCallX.enter Tryz.func28 rfl 24 rfl ?_
 repeat (first|refine q1 ?_|refine q3 ?_)
 refine TO.step rfl (OT.box rfl rfl rfl rfl rfl (fun b => ?_))
 repeat (first|(first|refine q1 ?_|refine q3 ?_|refine q4 tab rfl rfl ?_|refine q5 ?_|refine q6 ?_)|(refine qs rfl (qz tab 0 rfl rfl rfl rfl rfl rfl ?_)))
 refine TO.step rfl (OT.call rfl rfl rfl rfl rfl rfl goes24 ((size_ref a _ _ h hr (Nat.le_trans (size_bulk a) hB)).x ?_));
 rintro _ _ _ ⟨rfl, rfl, rfl⟩
 repeat (first|refine q1 ?_|refine q3 ?_|refine q4 tab rfl rfl ?_|refine q5 ?_|refine q6 ?_)
 refine TO.step rfl (OT.arith (r' := (a.size : Int) + x) rfl rfl rfl rfl rfl rfl rfl (by omega) ?_)
 repeat (refine q4 tab rfl rfl ?_)
 (refine TO.splitP rfl rfl (fun h7 => ?_) (fun h7 => ?_))
 ·repeat (refine q4 tab rfl rfl ?_)
  refine TO.step rfl (OT.arith (r' := (a.deep : Int) + y) rfl rfl rfl rfl rfl rfl rfl (by omega) ?_)
  repeat (first|refine q4 tab rfl rfl ?_|refine q5 ?_|refine q6 ?_|refine q15 ?_)
  refine retQ_ret rfl (by repeat (first|exact List.Sublist.refl _|refine List.Sublist.cons _ ?_)) ⟨rfl, rfl, ?_⟩
  rw [withinB_eq, decide_eq_true h7]; rfl
 ·repeat (first|refine q4 tab rfl rfl ?_|refine q5 ?_|refine q6 ?_|refine q15 ?_)
  refine retQ_ret rfl (by repeat (first|exact List.Sublist.refl _|refine List.Sublist.cons _ ?_)) ⟨rfl, rfl, ?_⟩
  rw [withinB_eq, decide_eq_false h7]; rfl
def numB (k : Int) : Bool := decide (k = 7 ∨ k = 13 ∨ k = 22 ∨ k = 23 ∨ k = 40 ∨ k = 42 ∨ k = 50)
set_option maxHeartbeats 800000 in
theorem num_ref (m : Mem) (L : List Item) (k : Int) : TCall Tryz.prog 52 ⟨[.int .i64 k]⟩ m L (Ret (.bool (numB k)) m L) := by
 unfold TCall
 refine TCallX.enter Tryz.func52 rfl 12 rfl ?_
 by_cases h : k = 7 ∨ k = 13 ∨ k = 22 ∨ k = 23 ∨ k = 40 ∨ k = 42 ∨ k = 50
 ·rw [numB, decide_eq_true h]
  rcases h with rfl | rfl | rfl | rfl | rfl | rfl | rfl
  all_goals
   repeat (first|refine q1 ?_|refine q2 ?_|refine q3 ?_|refine q4 tab rfl rfl ?_|refine q5 ?_|refine q6 ?_|refine q8 ?_|refine q9 ?_|refine q13 ?_|refine q15 ?_|refine q16 rfl ?_|refine q17 rfl ?_)
   refine retQ_ret rfl (by repeat (exact List.Sublist.refl _)) ⟨rfl, rfl, ?_⟩
   rfl
 ·rw [numB, decide_eq_false h]
  repeat (first|refine q1 ?_|refine q2 ?_|refine q3 ?_|refine q4 tab rfl rfl ?_|refine q5 ?_|refine q6 ?_)
  refine TC.condP rfl (fun h1 => ?_) (fun h1 => ?_)
  ·omega
  repeat (first|refine q1 ?_|refine q3 ?_|refine q4 tab rfl rfl ?_|refine q5 ?_|refine q6 ?_)
  refine TC.condP rfl (fun h1 => ?_) (fun h1 => ?_)
  ·omega
  repeat (first|refine q1 ?_|refine q3 ?_|refine q4 tab rfl rfl ?_|refine q5 ?_|refine q6 ?_)
  refine TC.condP rfl (fun h1 => ?_) (fun h1 => ?_)
  ·omega
  repeat (first|refine q1 ?_|refine q3 ?_|refine q4 tab rfl rfl ?_|refine q5 ?_|refine q6 ?_)
  refine TC.condP rfl (fun h1 => ?_) (fun h1 => ?_)
  ·omega
  repeat (first|refine q1 ?_|refine q3 ?_|refine q4 tab rfl rfl ?_|refine q5 ?_|refine q6 ?_)
  refine TC.condP rfl (fun h1 => ?_) (fun h1 => ?_)
  ·omega
  repeat (first|refine q1 ?_|refine q3 ?_|refine q4 tab rfl rfl ?_|refine q5 ?_|refine q6 ?_)
  refine TC.condP rfl (fun h1 => ?_) (fun h1 => ?_)
  ·omega
  repeat (first|refine q3 ?_|refine q4 tab rfl rfl ?_|refine q5 ?_|refine q6 ?_)
  refine TC.condP rfl (fun h1 => ?_) (fun h1 => ?_)
  ·omega
  repeat (first|refine q1 ?_|refine q3 ?_|refine q4 tab rfl rfl ?_|refine q5 ?_|refine q6 ?_|refine q7 ?_|refine q13 ?_|refine q15 ?_)
  refine retQ_ret rfl (by repeat (exact List.Sublist.refl _)) ⟨rfl, rfl, ?_⟩
  rfl
set_option maxHeartbeats 800000 in
theorem repeat_ref (m : Mem) (L : List Item) (c n : Int) : TCall Tryz.prog 86 ⟨[.int .i64 c, .int .i64 n]⟩ m L
  (Made m L fun r m' => ∃ s : Sl, r = s.v ∧ SlRep rInt m' s (List.replicate (min n.toNat 20001) c)) := by
 unfold TCall
 refine TCallX.enter Tryz.func86 rfl 22 rfl ?_
 repeat (first|refine q1 ?_|refine q3 ?_|refine q4 tab rfl rfl ?_|refine q5 ?_|refine q6 ?_)
 refine TO.step rfl (OT.lit tab rfl rfl rfl rfl (fun b => ?_))
 refine TO.growL b 1 ?_
 repeat (first|refine q1 ?_|refine q2 ?_|refine q3 ?_|refine q4 tab rfl rfl ?_|refine q5 ?_|refine q6 ?_)
 refine TC.loopK (ι := Grow) [0, 1] rfl (fun g => [(5, g.s.v), (6, .int .i64 (g.k : Int))]) (fun g => g.m) (fun g => tok g.s 1 :: L) (fun g => g.k ≤ min n.toNat 20001 ∧ SlRep rInt g.m g.s (List.replicate g.k c) ∧ Own g.s ∧ m ≤ g.m) (fun g => 20001 - g.k) ⟨0, ⟨some ⟨b, 0, none⟩, 0, 0⟩, m⟩ (by repeat (first|exact trivial|refine And.intro rfl ?_)) rfl (by repeat (first|exact List.Sublist.refl _|refine List.Sublist.cons_cons _ ?_|refine List.Sublist.cons _ ?_)) ⟨Nat.zero_le _, SlRep.lit0 _ _ _, Own.lit _ _ _, Mem.le_refl _⟩ ?_
 rintro ⟨k, s, m1⟩ ⟨hk, hs, hown, hm1⟩
 simp only at hk hs hown hm1
 repeat (first|refine q1 ?_|refine q3 ?_|refine q4 tab rfl rfl ?_)
 (refine TO.splitP rfl rfl (fun h => ?_) (fun h => ?_))
 ·repeat (first|refine q4 tab rfl rfl ?_|refine q5 ?_|refine q6 ?_)
  refine TC.condP rfl (fun h2 => ?_) (fun h2 => ?_)
  ·simp only at h h2
   repeat (first|refine q1 ?_|refine q2 ?_|refine q3 ?_|refine q4 tab rfl rfl ?_|refine q6 ?_|refine q13 ?_)
   refine TO.step rfl (OT.lit tab rfl rfl rfl rfl (fun b2 => ?_))
   refine TO.step rfl (OT.append1 tab rInt 0 (hd' := c) (a := c) hs hown rfl rfl rfl rfl rfl rfl rfl rfl (by simp only [rInt, List.length_replicate]; omega) (fun s2 m2 hm2 hs2 hown2 => ?_))
   repeat (first|refine q3 ?_|refine q4 tab rfl rfl ?_|refine q5 ?_|refine q6 ?_|refine q7 ?_)
   refine TO.step rfl (OT.arith (r' := ((k + 1 : Nat) : Int)) rfl rfl rfl rfl rfl rfl rfl (by omega) ?_)
   repeat (first|refine q4 tab rfl rfl ?_|refine q5 ?_|refine q6 ?_)
   refine ⟨⟨k + 1, s2, m2⟩, (by repeat (first|exact trivial|refine And.intro rfl ?_)), (by repeat (first|exact trivial|refine And.intro rfl ?_)), rfl, rfl, (by repeat (exact List.Sublist.refl _)), ⟨by simp only; omega, ?_, hown2, Mem.le_trans hm1 hm2⟩, by simp only; omega⟩
   rw [List.replicate_succ']; exact hs2
  ·simp only at h h2
   repeat (first|refine q1 ?_|refine q3 ?_|refine q4 tab rfl rfl ?_|refine q5 ?_|refine q6 ?_|refine q10 ?_|refine q11 ?_|refine q14 ?_|refine q15 ?_)
   refine retQ_ret rfl (by repeat (first|exact List.Sublist.refl _|refine List.Sublist.cons _ ?_)) ⟨hm1, rfl, s, rfl, ?_⟩
   rw [show min n.toNat 20001 = k by omega]; exact hs
 ·simp only at h
  repeat (first|refine q1 ?_|refine q3 ?_|refine q4 tab rfl rfl ?_|refine q5 ?_|refine q6 ?_|refine q10 ?_|refine q11 ?_|refine q14 ?_|refine q15 ?_|refine q17 rfl ?_)
  refine retQ_ret rfl (by repeat (first|exact List.Sublist.refl _|refine List.Sublist.cons _ ?_)) ⟨hm1, rfl, s, rfl, ?_⟩
  rw [show min n.toNat 20001 = k by omega]; exact hs
structure Shape where
 ks : List Int
 rest : Int
 text : Int
 ok : Bool
def ShapeIs (m : Mem) (L : List Item) (x : Shape) : Value → Mem → List Item → Prop := Made m L fun r m' => ∃ s : Sl, r = .tuple ⟨[s.v, .int .i64 x.rest, .int .i64 x.text, .bool x.ok]⟩ ∧ SlRep rInt m' s x.ks
def allS (p : Int → Tree → Bool) : List Int → Int → List Tree → Bool
 | _, _, [] => true
 | [], r, t :: ts => p r t && allS p [] r ts
 | k :: ks, r, t :: ts => p k t && allS p ks r ts
def want (x : Shape) (i : Nat) : Int := x.ks[i]?.getD x.rest
theorem allS_step (p : Int → Tree → Bool) (x : Shape) (l : List Tree) (i : Nat) (h : i < l.length) :
  allS p (x.ks.drop i) x.rest (l.drop i) = (p (want x i) l[i] && allS p (x.ks.drop (i + 1)) x.rest (l.drop (i + 1))) := by
 rw [List.drop_eq_getElem_cons h]
 by_cases h2 : i < x.ks.length
 ·rw [List.drop_eq_getElem_cons h2, allS, want, List.getElem?_eq_getElem h2]; rfl
 ·rw [List.drop_eq_nil_of_le (show x.ks.length ≤ i by omega), List.drop_eq_nil_of_le (show x.ks.length ≤ i + 1 by omega), allS, want, List.getElem?_eq_none (by omega)]; rfl
def textB (x : Shape) (a : Tree) : Bool := !((decide (x.text = 0) && !decide (a.name = [])) || (decide (x.text = 1) && !isName a.name))
def fitB (x : Shape) (a : Tree) : Bool := x.ok && (decide (x.ks.length ≤ a.kids.length) && ((!decide (x.rest = 0) || decide (a.kids.length ≤ x.ks.length)) && (decide (a.num = 0) || numB a.kind)))
set_option maxHeartbeats 3200000 in
theorem is_walk (k : Int) (a : Tree) (m : Mem) (L : List Item) (h : HTree) (hr : TreeRep m h a) (hB : a.bulk ≤ 1048576) (x : Shape)
  (hx : ∀ (m : Mem) (L : List Item), TreeRep m h a → TCall Tryz.prog 51 ⟨[treeV h, .int .i64 k]⟩ m L (ShapeIs m L x)) (htext : x.text = 0 ∨ x.text = 1 ∨ x.text = 2) (p : Int → Tree → Bool)
  (hp : fitB x a = true → ∀ (i : Nat) (hi : i < a.kids.length) (m : Mem) (L : List Item) (h' : HTree), TreeRep m h' a.kids[i] → TCall Tryz.prog 29 ⟨[treeV h', .int .i64 (want x i)]⟩ m L (Ret (.bool (p (want x i) a.kids[i])) m L)) :
  TCall Tryz.prog 29 ⟨[treeV h, .int .i64 k]⟩ m L (Ret (.bool (fitB x a && (textB x a && allS p x.ks x.rest a.kids))) m L) := by
 have hr' := hr
 obtain ⟨h1, h2, h3, h4⟩ := hr
 have hl := h4.len
 have hsm := h4.small rfl
 have hnl := bulk_name a
 refine TCall.forget ?_
 unfold TCall
 refine TCallX.enter Tryz.func29 rfl 93 rfl ?_
 repeat (first|refine q1 ?_|refine q3 ?_)
 refine TO.step rfl (OT.box rfl rfl rfl rfl rfl (fun b => ?_))
 repeat (first|(first|refine q1 ?_|refine q3 ?_|refine q4 tab rfl rfl ?_|refine q5 ?_|refine q6 ?_)|(refine qs rfl (qz tab 0 rfl rfl rfl rfl rfl rfl ?_)))
 refine TO.step rfl (OT.call rfl rfl rfl rfl rfl rfl goes51 ((hx _ _ hr').x ?_));
 rintro _ m1 _ ⟨hm1, rfl, s, rfl, hs⟩
 have hsl := hs.len
 have hr1 := hr'.mono hm1
 have h41 := h4.mono hm1
 repeat (first|refine q1 ?_|refine q3 ?_|refine q4 tab rfl rfl ?_|refine q5 ?_|refine q6 ?_)
 have out : ∀ {v : Value} {m' : Mem}, m1 ≤ m' → v = .bool (fitB x a && (textB x a && allS p x.ks x.rest a.kids)) → Made m L (fun r _ => r = .bool (fitB x a && (textB x a && allS p x.ks x.rest a.kids))) v m' L := fun h1 h2 => ⟨Mem.le_trans hm1 h1, rfl, h2⟩
 have bad : ∀ {m' : Mem}, m1 ≤ m' → fitB x a = false → Made m L (fun r _ => r = .bool (fitB x a && (textB x a && allS p x.ks x.rest a.kids))) (.bool false) m' L := fun h1 h2 => out h1 (by rw [h2]; rfl)
 refine TO.split (b := !x.ok) rfl rfl (fun hok => ?_) (fun hok => ?_)
 ·repeat (first|refine q1 ?_|refine q3 ?_|refine q4 tab rfl rfl ?_|refine q5 ?_|refine q6 ?_|refine q8 ?_|refine q15 ?_|refine q16 rfl ?_)
  exact retQ_ret rfl (by repeat (first|exact List.Sublist.refl _|refine List.Sublist.cons _ ?_)) (bad (Mem.le_refl _) (by unfold fitB; simp_all))
 have hok2 : x.ok = true := by simpa using hok
 repeat (first|(refine q4 tab rfl rfl ?_)|(refine qs rfl (ql tab 0 rfl rfl rfl rfl rfl rfl ?_)))
 (refine TO.splitP rfl rfl (fun hlt => ?_) (fun hlt => ?_))
 ·repeat (first|refine q1 ?_|refine q3 ?_|refine q4 tab rfl rfl ?_|refine q5 ?_|refine q6 ?_|refine q8 ?_|refine q15 ?_|refine q16 rfl ?_)
  exact retQ_ret rfl (by repeat (first|exact List.Sublist.refl _|refine List.Sublist.cons _ ?_)) (bad (Mem.le_refl _) (by unfold fitB; rw [decide_eq_false (show ¬ x.ks.length ≤ a.kids.length by omega)]; simp))
 repeat ((refine q4 tab rfl rfl ?_))
 (refine TO.splitP rfl rfl (fun hrest => ?_) (fun hrest => ?_))
 ·repeat (first|(refine q4 tab rfl rfl ?_)|(refine qs rfl (ql tab 0 rfl rfl rfl rfl rfl rfl ?_)))
  (refine TO.splitP rfl rfl (fun hgt => ?_) (fun hgt => ?_))
  ·repeat (first|refine q1 ?_|refine q3 ?_|refine q4 tab rfl rfl ?_|refine q5 ?_|refine q6 ?_|refine q8 ?_|refine q15 ?_|refine q16 rfl ?_)
   exact retQ_ret rfl (by repeat (first|exact List.Sublist.refl _|refine List.Sublist.cons _ ?_)) (bad (Mem.le_refl _) (by unfold fitB; rw [decide_eq_true hrest, decide_eq_false (show ¬ a.kids.length ≤ x.ks.length by omega)]; simp))
  have hcnt : (!decide (x.rest = 0) || decide (a.kids.length ≤ x.ks.length)) = true := by rw [decide_eq_true (show a.kids.length ≤ x.ks.length by omega), Bool.or_true]
  have hcnt0 : x.rest = 0 → a.kids.length ≤ x.ks.length := fun h0 => by simpa [h0] using hcnt
  have hcnt2 : decide (x.ks.length ≤ a.kids.length) = true := decide_eq_true (by omega)
  repeat (first|(refine q4 tab rfl rfl ?_)|(refine qs rfl (ql tab 0 rfl rfl rfl rfl rfl rfl ?_)))
  (refine TO.splitN rfl rfl (fun hnum => ?_) (fun hnum => ?_))
  ·repeat (first|(refine q4 tab rfl rfl ?_)|(refine qs rfl (ql tab 0 rfl rfl rfl rfl rfl rfl ?_)))
   refine TO.step rfl (OT.call rfl rfl rfl rfl rfl rfl goes52 ((num_ref _ _ h.kind).x ?_));
   rintro _ _ _ ⟨rfl, rfl, rfl⟩
   repeat (first|refine q4 tab rfl rfl ?_|refine q5 ?_|refine q6 ?_)
   refine TC.cond (t := !numB h.kind) rfl (fun hn => ?_) (fun hn => ?_)
   ·repeat (first|refine q1 ?_|refine q3 ?_|refine q4 tab rfl rfl ?_|refine q5 ?_|refine q6 ?_|refine q8 ?_|refine q15 ?_)
    exact retQ_ret rfl (by repeat (first|exact List.Sublist.refl _|refine List.Sublist.cons _ ?_)) (bad (Mem.le_refl _) (by unfold fitB; rw [← h3, ← h1, decide_eq_false hnum]; simp_all))
   have hfit : fitB x a = true := by unfold fitB; rw [hok2, hcnt2, hcnt, ← h1, show numB h.kind = true by simpa using hn]; simp
   rcases htext with ht | ht | ht
   ·rw [ht]
    repeat (first|(first|refine q1 ?_|refine q3 ?_|refine q4 tab rfl rfl ?_|refine q6 ?_|refine q13 ?_)|(refine qs rfl (ql tab 0 rfl rfl rfl rfl rfl rfl ?_)))
    (refine TO.splitN rfl rfl (fun hnm => ?_) (fun hnm => ?_))
    ·repeat (first|refine q1 ?_|refine q3 ?_|refine q4 tab rfl rfl ?_|refine q5 ?_|refine q6 ?_|refine q8 ?_|refine q15 ?_|refine q16 rfl ?_)
     refine retQ_ret rfl (by repeat (first|exact List.Sublist.refl _|refine List.Sublist.cons _ ?_)) (out (Mem.le_refl _) ?_)
     have : textB x a = false := by unfold textB; rw [ht, ← h2, decide_eq_false hnm]; rfl
     rw [this, Bool.false_and, Bool.and_false]
    ·have htxt : textB x a = true := by unfold textB; rw [ht, ← h2, decide_eq_true hnm]; rfl
     repeat (first|refine q1 ?_|refine q2 ?_|refine q3 ?_|refine q4 tab rfl rfl ?_|refine q5 ?_|refine q6 ?_|refine q13 ?_|refine q17 rfl ?_)
     refine TC.loopK (ι := Nat) [2, 5, 6] rfl (fun i => [(9, .int .i64 (i : Int))]) (fun _ => m1) (fun _ => .cells b 0 (treeC h) :: L) (fun i => i ≤ a.kids.length ∧ allS p x.ks x.rest a.kids = allS p (x.ks.drop i) x.rest (a.kids.drop i)) (fun i => a.kids.length - i) 0 (by repeat (first|exact trivial|refine And.intro rfl ?_)) rfl (by repeat (exact List.Sublist.refl _)) ⟨Nat.zero_le _, rfl⟩ ?_
     rintro i ⟨hi, hI⟩
     repeat (first|(first|refine q1 ?_|refine q3 ?_|refine q4 tab rfl rfl ?_|refine q5 ?_|refine q6 ?_)|(refine qs rfl (ql tab 0 rfl rfl rfl rfl rfl rfl ?_)))
     refine TC.condP rfl (fun hik => ?_) (fun hik => ?_)
     ·have hilt : i < a.kids.length := by omega
      have hxi : a.kids[i]? = some a.kids[i] := by simp [hilt]
      rw [allS_step p x a.kids i hilt] at hI
      have hpi := hp hfit i hilt
      repeat (first|refine q1 ?_|refine q2 ?_|refine q3 ?_|refine q4 tab rfl rfl ?_|refine q5 ?_|refine q6 ?_|refine q13 ?_)
      refine TC.condP rfl (fun hiks => ?_) (fun hiks => ?_)
      ·have hks : i < x.ks.length := by omega
       have hxs : x.ks[i]? = some x.ks[i] := by simp [hks]
       have hw : want x i = x.ks[i] := by rw [want, hxs]; rfl
       rw [hw] at hpi hI
       repeat (first|refine q3 ?_|refine q4 tab rfl rfl ?_)
       refine TO.step rfl (OT.index tab rInt i hs rfl rfl rfl rfl rfl (by first | rfl | omega | (simp only; omega)) rfl hxs ?_)
       rintro b3 i3 v3 hv3 hA3
       obtain rfl : v3 = x.ks[i] := hv3
       (refine TO.step rfl (OT.loadA0 tab hA3 rfl rfl rfl rfl rfl ?_))
       repeat (first|(first|refine q1 ?_|refine q3 ?_|refine q4 tab rfl rfl ?_|refine q5 ?_|refine q6 ?_)|(refine qs rfl (ql tab 0 rfl rfl rfl rfl rfl rfl ?_)))
       refine TO.step rfl (OT.index tab rTree i h41 rfl rfl rfl rfl rfl (by first | rfl | omega | (simp only; omega)) rfl hxi ?_)
       rintro b4 i4 h' hr4 hA4
       (refine TO.step rfl (OT.loadA0 tab hA4 rfl rfl rfl rfl rfl ?_))
       repeat (refine q4 tab rfl rfl ?_)
       refine TO.step rfl (OT.call rfl rfl rfl rfl rfl rfl goes29 ((hpi _ _ h' (rTree_iff.1 hr4)).x ?_))
       rintro _ _ _ ⟨rfl, rfl, rfl⟩
       repeat (first|refine q4 tab rfl rfl ?_|refine q5 ?_|refine q6 ?_)
       refine TC.cond rfl (fun hpb => ?_) (fun hpb => ?_)
       ·repeat (first|refine q1 ?_|refine q3 ?_|refine q4 tab rfl rfl ?_|refine q5 ?_|refine q6 ?_|refine q8 ?_|refine q9 ?_|refine q15 ?_)
        refine retQ_ret rfl (by repeat (first|exact List.Sublist.refl _|refine List.Sublist.cons _ ?_)) (out (Mem.le_refl _) ?_)
        rw [Bool.not_eq_true'] at hpb
        rw [hfit, htxt, hI, hpb]; rfl
       ·repeat (first|refine q3 ?_|refine q4 tab rfl rfl ?_|refine q6 ?_|refine q7 ?_|refine q13 ?_)
        refine TO.step rfl (OT.arith (r' := ((i + 1 : Nat) : Int)) rfl rfl rfl rfl rfl rfl rfl (by omega) ?_)
        repeat (first|refine q4 tab rfl rfl ?_|refine q5 ?_|refine q6 ?_)
        rw [Bool.not_eq_false'] at hpb
        exact ⟨i + 1, (by repeat (first|exact trivial|refine And.intro rfl ?_)), (by repeat (first|exact trivial|refine And.intro rfl ?_)), rfl, rfl, (by repeat (exact List.Sublist.refl _)), ⟨by omega, by rw [hI, hpb, Bool.true_and]⟩, by omega⟩
      ·have hw : want x i = x.rest := by rw [want, List.getElem?_eq_none (by omega)]; rfl
       rw [hw] at hpi hI
       repeat (first|(first|refine q1 ?_|refine q3 ?_|refine q4 tab rfl rfl ?_|refine q6 ?_|refine q13 ?_)|(refine qs rfl (ql tab 0 rfl rfl rfl rfl rfl rfl ?_)))
       refine TO.step rfl (OT.index tab rTree i h41 rfl rfl rfl rfl rfl (by first | rfl | omega | (simp only; omega)) rfl hxi ?_)
       rintro b4 i4 h' hr4 hA4
       (refine TO.step rfl (OT.loadA0 tab hA4 rfl rfl rfl rfl rfl ?_))
       repeat (refine q4 tab rfl rfl ?_)
       refine TO.step rfl (OT.call rfl rfl rfl rfl rfl rfl goes29 ((hpi _ _ h' (rTree_iff.1 hr4)).x ?_))
       rintro _ _ _ ⟨rfl, rfl, rfl⟩
       repeat (first|refine q4 tab rfl rfl ?_|refine q5 ?_|refine q6 ?_)
       refine TC.cond rfl (fun hpb => ?_) (fun hpb => ?_)
       ·repeat (first|refine q1 ?_|refine q3 ?_|refine q4 tab rfl rfl ?_|refine q5 ?_|refine q6 ?_|refine q8 ?_|refine q9 ?_|refine q15 ?_)
        refine retQ_ret rfl (by repeat (first|exact List.Sublist.refl _|refine List.Sublist.cons _ ?_)) (out (Mem.le_refl _) ?_)
        rw [Bool.not_eq_true'] at hpb
        rw [hfit, htxt, hI, hpb]; rfl
       ·repeat (first|refine q3 ?_|refine q4 tab rfl rfl ?_|refine q6 ?_|refine q7 ?_|refine q13 ?_)
        refine TO.step rfl (OT.arith (r' := ((i + 1 : Nat) : Int)) rfl rfl rfl rfl rfl rfl rfl (by omega) ?_)
        repeat (first|refine q4 tab rfl rfl ?_|refine q5 ?_|refine q6 ?_)
        rw [Bool.not_eq_false'] at hpb
        exact ⟨i + 1, (by repeat (first|exact trivial|refine And.intro rfl ?_)), (by repeat (first|exact trivial|refine And.intro rfl ?_)), rfl, rfl, (by repeat (exact List.Sublist.refl _)), ⟨by omega, by rw [hI, hpb, Bool.true_and]⟩, by omega⟩
     ·repeat (first|refine q1 ?_|refine q3 ?_|refine q4 tab rfl rfl ?_|refine q5 ?_|refine q6 ?_|refine q10 ?_|refine q11 ?_|refine q14 ?_|refine q15 ?_)
      refine retQ_ret rfl (by repeat (first|exact List.Sublist.refl _|refine List.Sublist.cons _ ?_)) (out (Mem.le_refl _) ?_)
      rw [hfit, htxt, hI, show a.kids.drop i = [] from List.drop_eq_nil_of_le (by omega)]
      cases x.ks.drop i <;> rfl
   ·rw [ht]
    repeat (first|(first|refine q1 ?_|refine q3 ?_|refine q4 tab rfl rfl ?_|refine q6 ?_|refine q13 ?_)|(refine qs rfl (ql tab 0 rfl rfl rfl rfl rfl rfl ?_)))
    refine TO.step rfl (OT.call rfl rfl rfl rfl rfl rfl goes53 ((name_ref _ _ h.name (by rw [h2]; omega)).x ?_));
    rintro _ _ _ ⟨rfl, rfl, rfl⟩
    repeat (first|refine q4 tab rfl rfl ?_|refine q5 ?_|refine q6 ?_)
    refine TC.cond (t := !isName h.name) rfl (fun hnm => ?_) (fun hnm => ?_)
    ·repeat (first|refine q1 ?_|refine q3 ?_|refine q4 tab rfl rfl ?_|refine q5 ?_|refine q6 ?_|refine q8 ?_|refine q15 ?_)
     refine retQ_ret rfl (by repeat (first|exact List.Sublist.refl _|refine List.Sublist.cons _ ?_)) (out (Mem.le_refl _) ?_)
     have : textB x a = false := by unfold textB; rw [ht, ← h2, hnm]; rfl
     rw [this, Bool.false_and, Bool.and_false]
    ·have htxt : textB x a = true := by unfold textB; rw [ht, ← h2, hnm]; rfl
     repeat (first|refine q1 ?_|refine q2 ?_|refine q3 ?_|refine q4 tab rfl rfl ?_|refine q5 ?_|refine q6 ?_|refine q13 ?_)
     refine TC.loopK (ι := Nat) [2, 5, 6] rfl (fun i => [(9, .int .i64 (i : Int))]) (fun _ => m1) (fun _ => .cells b 0 (treeC h) :: L) (fun i => i ≤ a.kids.length ∧ allS p x.ks x.rest a.kids = allS p (x.ks.drop i) x.rest (a.kids.drop i)) (fun i => a.kids.length - i) 0 (by repeat (first|exact trivial|refine And.intro rfl ?_)) rfl (by repeat (exact List.Sublist.refl _)) ⟨Nat.zero_le _, rfl⟩ ?_
     rintro i ⟨hi, hI⟩
     repeat (first|(first|refine q1 ?_|refine q3 ?_|refine q4 tab rfl rfl ?_|refine q5 ?_|refine q6 ?_)|(refine qs rfl (ql tab 0 rfl rfl rfl rfl rfl rfl ?_)))
     refine TC.condP rfl (fun hik => ?_) (fun hik => ?_)
     ·have hilt : i < a.kids.length := by omega
      have hxi : a.kids[i]? = some a.kids[i] := by simp [hilt]
      rw [allS_step p x a.kids i hilt] at hI
      have hpi := hp hfit i hilt
      repeat (first|refine q1 ?_|refine q2 ?_|refine q3 ?_|refine q4 tab rfl rfl ?_|refine q5 ?_|refine q6 ?_|refine q13 ?_)
      refine TC.condP rfl (fun hiks => ?_) (fun hiks => ?_)
      ·have hks : i < x.ks.length := by omega
       have hxs : x.ks[i]? = some x.ks[i] := by simp [hks]
       have hw : want x i = x.ks[i] := by rw [want, hxs]; rfl
       rw [hw] at hpi hI
       repeat (first|refine q3 ?_|refine q4 tab rfl rfl ?_)
       refine TO.step rfl (OT.index tab rInt i hs rfl rfl rfl rfl rfl (by first | rfl | omega | (simp only; omega)) rfl hxs ?_)
       rintro b3 i3 v3 hv3 hA3
       obtain rfl : v3 = x.ks[i] := hv3
       (refine TO.step rfl (OT.loadA0 tab hA3 rfl rfl rfl rfl rfl ?_))
       repeat (first|(first|refine q1 ?_|refine q3 ?_|refine q4 tab rfl rfl ?_|refine q5 ?_|refine q6 ?_)|(refine qs rfl (ql tab 0 rfl rfl rfl rfl rfl rfl ?_)))
       refine TO.step rfl (OT.index tab rTree i h41 rfl rfl rfl rfl rfl (by first | rfl | omega | (simp only; omega)) rfl hxi ?_)
       rintro b4 i4 h' hr4 hA4
       (refine TO.step rfl (OT.loadA0 tab hA4 rfl rfl rfl rfl rfl ?_))
       repeat (refine q4 tab rfl rfl ?_)
       refine TO.step rfl (OT.call rfl rfl rfl rfl rfl rfl goes29 ((hpi _ _ h' (rTree_iff.1 hr4)).x ?_))
       rintro _ _ _ ⟨rfl, rfl, rfl⟩
       repeat (first|refine q4 tab rfl rfl ?_|refine q5 ?_|refine q6 ?_)
       refine TC.cond rfl (fun hpb => ?_) (fun hpb => ?_)
       ·repeat (first|refine q1 ?_|refine q3 ?_|refine q4 tab rfl rfl ?_|refine q5 ?_|refine q6 ?_|refine q8 ?_|refine q9 ?_|refine q15 ?_)
        refine retQ_ret rfl (by repeat (first|exact List.Sublist.refl _|refine List.Sublist.cons _ ?_)) (out (Mem.le_refl _) ?_)
        rw [Bool.not_eq_true'] at hpb
        rw [hfit, htxt, hI, hpb]; rfl
       ·repeat (first|refine q3 ?_|refine q4 tab rfl rfl ?_|refine q6 ?_|refine q7 ?_|refine q13 ?_)
        refine TO.step rfl (OT.arith (r' := ((i + 1 : Nat) : Int)) rfl rfl rfl rfl rfl rfl rfl (by omega) ?_)
        repeat (first|refine q4 tab rfl rfl ?_|refine q5 ?_|refine q6 ?_)
        rw [Bool.not_eq_false'] at hpb
        exact ⟨i + 1, (by repeat (first|exact trivial|refine And.intro rfl ?_)), (by repeat (first|exact trivial|refine And.intro rfl ?_)), rfl, rfl, (by repeat (exact List.Sublist.refl _)), ⟨by omega, by rw [hI, hpb, Bool.true_and]⟩, by omega⟩
      ·have hw : want x i = x.rest := by rw [want, List.getElem?_eq_none (by omega)]; rfl
       rw [hw] at hpi hI
       repeat (first|(first|refine q1 ?_|refine q3 ?_|refine q4 tab rfl rfl ?_|refine q6 ?_|refine q13 ?_)|(refine qs rfl (ql tab 0 rfl rfl rfl rfl rfl rfl ?_)))
       refine TO.step rfl (OT.index tab rTree i h41 rfl rfl rfl rfl rfl (by first | rfl | omega | (simp only; omega)) rfl hxi ?_)
       rintro b4 i4 h' hr4 hA4
       (refine TO.step rfl (OT.loadA0 tab hA4 rfl rfl rfl rfl rfl ?_))
       repeat (refine q4 tab rfl rfl ?_)
       refine TO.step rfl (OT.call rfl rfl rfl rfl rfl rfl goes29 ((hpi _ _ h' (rTree_iff.1 hr4)).x ?_))
       rintro _ _ _ ⟨rfl, rfl, rfl⟩
       repeat (first|refine q4 tab rfl rfl ?_|refine q5 ?_|refine q6 ?_)
       refine TC.cond rfl (fun hpb => ?_) (fun hpb => ?_)
       ·repeat (first|refine q1 ?_|refine q3 ?_|refine q4 tab rfl rfl ?_|refine q5 ?_|refine q6 ?_|refine q8 ?_|refine q9 ?_|refine q15 ?_)
        refine retQ_ret rfl (by repeat (first|exact List.Sublist.refl _|refine List.Sublist.cons _ ?_)) (out (Mem.le_refl _) ?_)
        rw [Bool.not_eq_true'] at hpb
        rw [hfit, htxt, hI, hpb]; rfl
       ·repeat (first|refine q3 ?_|refine q4 tab rfl rfl ?_|refine q6 ?_|refine q7 ?_|refine q13 ?_)
        refine TO.step rfl (OT.arith (r' := ((i + 1 : Nat) : Int)) rfl rfl rfl rfl rfl rfl rfl (by omega) ?_)
        repeat (first|refine q4 tab rfl rfl ?_|refine q5 ?_|refine q6 ?_)
        rw [Bool.not_eq_false'] at hpb
        exact ⟨i + 1, (by repeat (first|exact trivial|refine And.intro rfl ?_)), (by repeat (first|exact trivial|refine And.intro rfl ?_)), rfl, rfl, (by repeat (exact List.Sublist.refl _)), ⟨by omega, by rw [hI, hpb, Bool.true_and]⟩, by omega⟩
     ·repeat (first|refine q1 ?_|refine q3 ?_|refine q4 tab rfl rfl ?_|refine q5 ?_|refine q6 ?_|refine q10 ?_|refine q11 ?_|refine q14 ?_|refine q15 ?_)
      refine retQ_ret rfl (by repeat (first|exact List.Sublist.refl _|refine List.Sublist.cons _ ?_)) (out (Mem.le_refl _) ?_)
      rw [hfit, htxt, hI, show a.kids.drop i = [] from List.drop_eq_nil_of_le (by omega)]
      cases x.ks.drop i <;> rfl
   ·rw [ht]
    have htxt : textB x a = true := by unfold textB; rw [ht]; rfl
    repeat (first|refine q1 ?_|refine q2 ?_|refine q3 ?_|refine q4 tab rfl rfl ?_|refine q5 ?_|refine q6 ?_|refine q13 ?_|refine q17 rfl ?_)
    refine TC.loopK (ι := Nat) [2, 5, 6] rfl (fun i => [(9, .int .i64 (i : Int))]) (fun _ => m1) (fun _ => .cells b 0 (treeC h) :: L) (fun i => i ≤ a.kids.length ∧ allS p x.ks x.rest a.kids = allS p (x.ks.drop i) x.rest (a.kids.drop i)) (fun i => a.kids.length - i) 0 (by repeat (first|exact trivial|refine And.intro rfl ?_)) rfl (by repeat (exact List.Sublist.refl _)) ⟨Nat.zero_le _, rfl⟩ ?_
    rintro i ⟨hi, hI⟩
    repeat (first|(first|refine q1 ?_|refine q3 ?_|refine q4 tab rfl rfl ?_|refine q5 ?_|refine q6 ?_)|(refine qs rfl (ql tab 0 rfl rfl rfl rfl rfl rfl ?_)))
    refine TC.condP rfl (fun hik => ?_) (fun hik => ?_)
    ·have hilt : i < a.kids.length := by omega
     have hxi : a.kids[i]? = some a.kids[i] := by simp [hilt]
     rw [allS_step p x a.kids i hilt] at hI
     have hpi := hp hfit i hilt
     repeat (first|refine q1 ?_|refine q2 ?_|refine q3 ?_|refine q4 tab rfl rfl ?_|refine q5 ?_|refine q6 ?_|refine q13 ?_)
     refine TC.condP rfl (fun hiks => ?_) (fun hiks => ?_)
     ·have hks : i < x.ks.length := by omega
      have hxs : x.ks[i]? = some x.ks[i] := by simp [hks]
      have hw : want x i = x.ks[i] := by rw [want, hxs]; rfl
      rw [hw] at hpi hI
      repeat (first|refine q3 ?_|refine q4 tab rfl rfl ?_)
      refine TO.step rfl (OT.index tab rInt i hs rfl rfl rfl rfl rfl (by first | rfl | omega | (simp only; omega)) rfl hxs ?_)
      rintro b3 i3 v3 hv3 hA3
      obtain rfl : v3 = x.ks[i] := hv3
      (refine TO.step rfl (OT.loadA0 tab hA3 rfl rfl rfl rfl rfl ?_))
      repeat (first|(first|refine q1 ?_|refine q3 ?_|refine q4 tab rfl rfl ?_|refine q5 ?_|refine q6 ?_)|(refine qs rfl (ql tab 0 rfl rfl rfl rfl rfl rfl ?_)))
      refine TO.step rfl (OT.index tab rTree i h41 rfl rfl rfl rfl rfl (by first | rfl | omega | (simp only; omega)) rfl hxi ?_)
      rintro b4 i4 h' hr4 hA4
      (refine TO.step rfl (OT.loadA0 tab hA4 rfl rfl rfl rfl rfl ?_))
      repeat (refine q4 tab rfl rfl ?_)
      refine TO.step rfl (OT.call rfl rfl rfl rfl rfl rfl goes29 ((hpi _ _ h' (rTree_iff.1 hr4)).x ?_))
      rintro _ _ _ ⟨rfl, rfl, rfl⟩
      repeat (first|refine q4 tab rfl rfl ?_|refine q5 ?_|refine q6 ?_)
      refine TC.cond rfl (fun hpb => ?_) (fun hpb => ?_)
      ·repeat (first|refine q1 ?_|refine q3 ?_|refine q4 tab rfl rfl ?_|refine q5 ?_|refine q6 ?_|refine q8 ?_|refine q9 ?_|refine q15 ?_)
       refine retQ_ret rfl (by repeat (first|exact List.Sublist.refl _|refine List.Sublist.cons _ ?_)) (out (Mem.le_refl _) ?_)
       rw [Bool.not_eq_true'] at hpb
       rw [hfit, htxt, hI, hpb]; rfl
      ·repeat (first|refine q3 ?_|refine q4 tab rfl rfl ?_|refine q6 ?_|refine q7 ?_|refine q13 ?_)
       refine TO.step rfl (OT.arith (r' := ((i + 1 : Nat) : Int)) rfl rfl rfl rfl rfl rfl rfl (by omega) ?_)
       repeat (first|refine q4 tab rfl rfl ?_|refine q5 ?_|refine q6 ?_)
       rw [Bool.not_eq_false'] at hpb
       exact ⟨i + 1, (by repeat (first|exact trivial|refine And.intro rfl ?_)), (by repeat (first|exact trivial|refine And.intro rfl ?_)), rfl, rfl, (by repeat (exact List.Sublist.refl _)), ⟨by omega, by rw [hI, hpb, Bool.true_and]⟩, by omega⟩
     ·have hw : want x i = x.rest := by rw [want, List.getElem?_eq_none (by omega)]; rfl
      rw [hw] at hpi hI
      repeat (first|(first|refine q1 ?_|refine q3 ?_|refine q4 tab rfl rfl ?_|refine q6 ?_|refine q13 ?_)|(refine qs rfl (ql tab 0 rfl rfl rfl rfl rfl rfl ?_)))
      refine TO.step rfl (OT.index tab rTree i h41 rfl rfl rfl rfl rfl (by first | rfl | omega | (simp only; omega)) rfl hxi ?_)
      rintro b4 i4 h' hr4 hA4
      (refine TO.step rfl (OT.loadA0 tab hA4 rfl rfl rfl rfl rfl ?_))
      repeat (refine q4 tab rfl rfl ?_)
      refine TO.step rfl (OT.call rfl rfl rfl rfl rfl rfl goes29 ((hpi _ _ h' (rTree_iff.1 hr4)).x ?_))
      rintro _ _ _ ⟨rfl, rfl, rfl⟩
      repeat (first|refine q4 tab rfl rfl ?_|refine q5 ?_|refine q6 ?_)
      refine TC.cond rfl (fun hpb => ?_) (fun hpb => ?_)
      ·repeat (first|refine q1 ?_|refine q3 ?_|refine q4 tab rfl rfl ?_|refine q5 ?_|refine q6 ?_|refine q8 ?_|refine q9 ?_|refine q15 ?_)
       refine retQ_ret rfl (by repeat (first|exact List.Sublist.refl _|refine List.Sublist.cons _ ?_)) (out (Mem.le_refl _) ?_)
       rw [Bool.not_eq_true'] at hpb
       rw [hfit, htxt, hI, hpb]; rfl
      ·repeat (first|refine q3 ?_|refine q4 tab rfl rfl ?_|refine q6 ?_|refine q7 ?_|refine q13 ?_)
       refine TO.step rfl (OT.arith (r' := ((i + 1 : Nat) : Int)) rfl rfl rfl rfl rfl rfl rfl (by omega) ?_)
       repeat (first|refine q4 tab rfl rfl ?_|refine q5 ?_|refine q6 ?_)
       rw [Bool.not_eq_false'] at hpb
       exact ⟨i + 1, (by repeat (first|exact trivial|refine And.intro rfl ?_)), (by repeat (first|exact trivial|refine And.intro rfl ?_)), rfl, rfl, (by repeat (exact List.Sublist.refl _)), ⟨by omega, by rw [hI, hpb, Bool.true_and]⟩, by omega⟩
    ·repeat (first|refine q1 ?_|refine q3 ?_|refine q4 tab rfl rfl ?_|refine q5 ?_|refine q6 ?_|refine q10 ?_|refine q11 ?_|refine q14 ?_|refine q15 ?_)
     refine retQ_ret rfl (by repeat (first|exact List.Sublist.refl _|refine List.Sublist.cons _ ?_)) (out (Mem.le_refl _) ?_)
     rw [hfit, htxt, hI, show a.kids.drop i = [] from List.drop_eq_nil_of_le (by omega)]
     cases x.ks.drop i <;> rfl
  ·have hfit : fitB x a = true := by unfold fitB; rw [hok2, hcnt2, hcnt, ← h3, decide_eq_true hnum]; rfl
   repeat (first|refine q1 ?_|refine q3 ?_|refine q4 tab rfl rfl ?_|refine q5 ?_|refine q6 ?_|refine q13 ?_|refine q17 rfl ?_)
   rcases htext with ht | ht | ht
   ·rw [ht]
    repeat (first|(refine q4 tab rfl rfl ?_)|(refine qs rfl (ql tab 0 rfl rfl rfl rfl rfl rfl ?_)))
    (refine TO.splitN rfl rfl (fun hnm => ?_) (fun hnm => ?_))
    ·repeat (first|refine q1 ?_|refine q3 ?_|refine q4 tab rfl rfl ?_|refine q5 ?_|refine q6 ?_|refine q8 ?_|refine q15 ?_|refine q16 rfl ?_)
     refine retQ_ret rfl (by repeat (first|exact List.Sublist.refl _|refine List.Sublist.cons _ ?_)) (out (Mem.le_refl _) ?_)
     have : textB x a = false := by unfold textB; rw [ht, ← h2, decide_eq_false hnm]; rfl
     rw [this, Bool.false_and, Bool.and_false]
    ·have htxt : textB x a = true := by unfold textB; rw [ht, ← h2, decide_eq_true hnm]; rfl
     repeat (first|refine q1 ?_|refine q2 ?_|refine q3 ?_|refine q4 tab rfl rfl ?_|refine q5 ?_|refine q6 ?_|refine q13 ?_|refine q17 rfl ?_)
     refine TC.loopK (ι := Nat) [2, 5, 6] rfl (fun i => [(9, .int .i64 (i : Int))]) (fun _ => m1) (fun _ => .cells b 0 (treeC h) :: L) (fun i => i ≤ a.kids.length ∧ allS p x.ks x.rest a.kids = allS p (x.ks.drop i) x.rest (a.kids.drop i)) (fun i => a.kids.length - i) 0 (by repeat (first|exact trivial|refine And.intro rfl ?_)) rfl (by repeat (exact List.Sublist.refl _)) ⟨Nat.zero_le _, rfl⟩ ?_
     rintro i ⟨hi, hI⟩
     repeat (first|(first|refine q1 ?_|refine q3 ?_|refine q4 tab rfl rfl ?_|refine q5 ?_|refine q6 ?_)|(refine qs rfl (ql tab 0 rfl rfl rfl rfl rfl rfl ?_)))
     refine TC.condP rfl (fun hik => ?_) (fun hik => ?_)
     ·have hilt : i < a.kids.length := by omega
      have hxi : a.kids[i]? = some a.kids[i] := by simp [hilt]
      rw [allS_step p x a.kids i hilt] at hI
      have hpi := hp hfit i hilt
      repeat (first|refine q1 ?_|refine q2 ?_|refine q3 ?_|refine q4 tab rfl rfl ?_|refine q5 ?_|refine q6 ?_|refine q13 ?_)
      refine TC.condP rfl (fun hiks => ?_) (fun hiks => ?_)
      ·have hks : i < x.ks.length := by omega
       have hxs : x.ks[i]? = some x.ks[i] := by simp [hks]
       have hw : want x i = x.ks[i] := by rw [want, hxs]; rfl
       rw [hw] at hpi hI
       repeat (first|refine q3 ?_|refine q4 tab rfl rfl ?_)
       refine TO.step rfl (OT.index tab rInt i hs rfl rfl rfl rfl rfl (by first | rfl | omega | (simp only; omega)) rfl hxs ?_)
       rintro b3 i3 v3 hv3 hA3
       obtain rfl : v3 = x.ks[i] := hv3
       (refine TO.step rfl (OT.loadA0 tab hA3 rfl rfl rfl rfl rfl ?_))
       repeat (first|(first|refine q1 ?_|refine q3 ?_|refine q4 tab rfl rfl ?_|refine q5 ?_|refine q6 ?_)|(refine qs rfl (ql tab 0 rfl rfl rfl rfl rfl rfl ?_)))
       refine TO.step rfl (OT.index tab rTree i h41 rfl rfl rfl rfl rfl (by first | rfl | omega | (simp only; omega)) rfl hxi ?_)
       rintro b4 i4 h' hr4 hA4
       (refine TO.step rfl (OT.loadA0 tab hA4 rfl rfl rfl rfl rfl ?_))
       repeat (refine q4 tab rfl rfl ?_)
       refine TO.step rfl (OT.call rfl rfl rfl rfl rfl rfl goes29 ((hpi _ _ h' (rTree_iff.1 hr4)).x ?_))
       rintro _ _ _ ⟨rfl, rfl, rfl⟩
       repeat (first|refine q4 tab rfl rfl ?_|refine q5 ?_|refine q6 ?_)
       refine TC.cond rfl (fun hpb => ?_) (fun hpb => ?_)
       ·repeat (first|refine q1 ?_|refine q3 ?_|refine q4 tab rfl rfl ?_|refine q5 ?_|refine q6 ?_|refine q8 ?_|refine q9 ?_|refine q15 ?_)
        refine retQ_ret rfl (by repeat (first|exact List.Sublist.refl _|refine List.Sublist.cons _ ?_)) (out (Mem.le_refl _) ?_)
        rw [Bool.not_eq_true'] at hpb
        rw [hfit, htxt, hI, hpb]; rfl
       ·repeat (first|refine q3 ?_|refine q4 tab rfl rfl ?_|refine q6 ?_|refine q7 ?_|refine q13 ?_)
        refine TO.step rfl (OT.arith (r' := ((i + 1 : Nat) : Int)) rfl rfl rfl rfl rfl rfl rfl (by omega) ?_)
        repeat (first|refine q4 tab rfl rfl ?_|refine q5 ?_|refine q6 ?_)
        rw [Bool.not_eq_false'] at hpb
        exact ⟨i + 1, (by repeat (first|exact trivial|refine And.intro rfl ?_)), (by repeat (first|exact trivial|refine And.intro rfl ?_)), rfl, rfl, (by repeat (exact List.Sublist.refl _)), ⟨by omega, by rw [hI, hpb, Bool.true_and]⟩, by omega⟩
      ·have hw : want x i = x.rest := by rw [want, List.getElem?_eq_none (by omega)]; rfl
       rw [hw] at hpi hI
       repeat (first|(first|refine q1 ?_|refine q3 ?_|refine q4 tab rfl rfl ?_|refine q6 ?_|refine q13 ?_)|(refine qs rfl (ql tab 0 rfl rfl rfl rfl rfl rfl ?_)))
       refine TO.step rfl (OT.index tab rTree i h41 rfl rfl rfl rfl rfl (by first | rfl | omega | (simp only; omega)) rfl hxi ?_)
       rintro b4 i4 h' hr4 hA4
       (refine TO.step rfl (OT.loadA0 tab hA4 rfl rfl rfl rfl rfl ?_))
       repeat (refine q4 tab rfl rfl ?_)
       refine TO.step rfl (OT.call rfl rfl rfl rfl rfl rfl goes29 ((hpi _ _ h' (rTree_iff.1 hr4)).x ?_))
       rintro _ _ _ ⟨rfl, rfl, rfl⟩
       repeat (first|refine q4 tab rfl rfl ?_|refine q5 ?_|refine q6 ?_)
       refine TC.cond rfl (fun hpb => ?_) (fun hpb => ?_)
       ·repeat (first|refine q1 ?_|refine q3 ?_|refine q4 tab rfl rfl ?_|refine q5 ?_|refine q6 ?_|refine q8 ?_|refine q9 ?_|refine q15 ?_)
        refine retQ_ret rfl (by repeat (first|exact List.Sublist.refl _|refine List.Sublist.cons _ ?_)) (out (Mem.le_refl _) ?_)
        rw [Bool.not_eq_true'] at hpb
        rw [hfit, htxt, hI, hpb]; rfl
       ·repeat (first|refine q3 ?_|refine q4 tab rfl rfl ?_|refine q6 ?_|refine q7 ?_|refine q13 ?_)
        refine TO.step rfl (OT.arith (r' := ((i + 1 : Nat) : Int)) rfl rfl rfl rfl rfl rfl rfl (by omega) ?_)
        repeat (first|refine q4 tab rfl rfl ?_|refine q5 ?_|refine q6 ?_)
        rw [Bool.not_eq_false'] at hpb
        exact ⟨i + 1, (by repeat (first|exact trivial|refine And.intro rfl ?_)), (by repeat (first|exact trivial|refine And.intro rfl ?_)), rfl, rfl, (by repeat (exact List.Sublist.refl _)), ⟨by omega, by rw [hI, hpb, Bool.true_and]⟩, by omega⟩
     ·repeat (first|refine q1 ?_|refine q3 ?_|refine q4 tab rfl rfl ?_|refine q5 ?_|refine q6 ?_|refine q10 ?_|refine q11 ?_|refine q14 ?_|refine q15 ?_)
      refine retQ_ret rfl (by repeat (first|exact List.Sublist.refl _|refine List.Sublist.cons _ ?_)) (out (Mem.le_refl _) ?_)
      rw [hfit, htxt, hI, show a.kids.drop i = [] from List.drop_eq_nil_of_le (by omega)]
      cases x.ks.drop i <;> rfl
   ·rw [ht]
    repeat (first|(refine q4 tab rfl rfl ?_)|(refine qs rfl (ql tab 0 rfl rfl rfl rfl rfl rfl ?_)))
    refine TO.step rfl (OT.call rfl rfl rfl rfl rfl rfl goes53 ((name_ref _ _ h.name (by rw [h2]; omega)).x ?_));
    rintro _ _ _ ⟨rfl, rfl, rfl⟩
    repeat (first|refine q4 tab rfl rfl ?_|refine q5 ?_|refine q6 ?_)
    refine TC.cond (t := !isName h.name) rfl (fun hnm => ?_) (fun hnm => ?_)
    ·repeat (first|refine q1 ?_|refine q3 ?_|refine q4 tab rfl rfl ?_|refine q5 ?_|refine q6 ?_|refine q8 ?_|refine q15 ?_)
     refine retQ_ret rfl (by repeat (first|exact List.Sublist.refl _|refine List.Sublist.cons _ ?_)) (out (Mem.le_refl _) ?_)
     have : textB x a = false := by unfold textB; rw [ht, ← h2, hnm]; rfl
     rw [this, Bool.false_and, Bool.and_false]
    ·have htxt : textB x a = true := by unfold textB; rw [ht, ← h2, hnm]; rfl
     repeat (first|refine q1 ?_|refine q2 ?_|refine q3 ?_|refine q4 tab rfl rfl ?_|refine q5 ?_|refine q6 ?_|refine q13 ?_)
     refine TC.loopK (ι := Nat) [2, 5, 6] rfl (fun i => [(9, .int .i64 (i : Int))]) (fun _ => m1) (fun _ => .cells b 0 (treeC h) :: L) (fun i => i ≤ a.kids.length ∧ allS p x.ks x.rest a.kids = allS p (x.ks.drop i) x.rest (a.kids.drop i)) (fun i => a.kids.length - i) 0 (by repeat (first|exact trivial|refine And.intro rfl ?_)) rfl (by repeat (exact List.Sublist.refl _)) ⟨Nat.zero_le _, rfl⟩ ?_
     rintro i ⟨hi, hI⟩
     repeat (first|(first|refine q1 ?_|refine q3 ?_|refine q4 tab rfl rfl ?_|refine q5 ?_|refine q6 ?_)|(refine qs rfl (ql tab 0 rfl rfl rfl rfl rfl rfl ?_)))
     refine TC.condP rfl (fun hik => ?_) (fun hik => ?_)
     ·have hilt : i < a.kids.length := by omega
      have hxi : a.kids[i]? = some a.kids[i] := by simp [hilt]
      rw [allS_step p x a.kids i hilt] at hI
      have hpi := hp hfit i hilt
      repeat (first|refine q1 ?_|refine q2 ?_|refine q3 ?_|refine q4 tab rfl rfl ?_|refine q5 ?_|refine q6 ?_|refine q13 ?_)
      refine TC.condP rfl (fun hiks => ?_) (fun hiks => ?_)
      ·have hks : i < x.ks.length := by omega
       have hxs : x.ks[i]? = some x.ks[i] := by simp [hks]
       have hw : want x i = x.ks[i] := by rw [want, hxs]; rfl
       rw [hw] at hpi hI
       repeat (first|refine q3 ?_|refine q4 tab rfl rfl ?_)
       refine TO.step rfl (OT.index tab rInt i hs rfl rfl rfl rfl rfl (by first | rfl | omega | (simp only; omega)) rfl hxs ?_)
       rintro b3 i3 v3 hv3 hA3
       obtain rfl : v3 = x.ks[i] := hv3
       (refine TO.step rfl (OT.loadA0 tab hA3 rfl rfl rfl rfl rfl ?_))
       repeat (first|(first|refine q1 ?_|refine q3 ?_|refine q4 tab rfl rfl ?_|refine q5 ?_|refine q6 ?_)|(refine qs rfl (ql tab 0 rfl rfl rfl rfl rfl rfl ?_)))
       refine TO.step rfl (OT.index tab rTree i h41 rfl rfl rfl rfl rfl (by first | rfl | omega | (simp only; omega)) rfl hxi ?_)
       rintro b4 i4 h' hr4 hA4
       (refine TO.step rfl (OT.loadA0 tab hA4 rfl rfl rfl rfl rfl ?_))
       repeat (refine q4 tab rfl rfl ?_)
       refine TO.step rfl (OT.call rfl rfl rfl rfl rfl rfl goes29 ((hpi _ _ h' (rTree_iff.1 hr4)).x ?_))
       rintro _ _ _ ⟨rfl, rfl, rfl⟩
       repeat (first|refine q4 tab rfl rfl ?_|refine q5 ?_|refine q6 ?_)
       refine TC.cond rfl (fun hpb => ?_) (fun hpb => ?_)
       ·repeat (first|refine q1 ?_|refine q3 ?_|refine q4 tab rfl rfl ?_|refine q5 ?_|refine q6 ?_|refine q8 ?_|refine q9 ?_|refine q15 ?_)
        refine retQ_ret rfl (by repeat (first|exact List.Sublist.refl _|refine List.Sublist.cons _ ?_)) (out (Mem.le_refl _) ?_)
        rw [Bool.not_eq_true'] at hpb
        rw [hfit, htxt, hI, hpb]; rfl
       ·repeat (first|refine q3 ?_|refine q4 tab rfl rfl ?_|refine q6 ?_|refine q7 ?_|refine q13 ?_)
        refine TO.step rfl (OT.arith (r' := ((i + 1 : Nat) : Int)) rfl rfl rfl rfl rfl rfl rfl (by omega) ?_)
        repeat (first|refine q4 tab rfl rfl ?_|refine q5 ?_|refine q6 ?_)
        rw [Bool.not_eq_false'] at hpb
        exact ⟨i + 1, (by repeat (first|exact trivial|refine And.intro rfl ?_)), (by repeat (first|exact trivial|refine And.intro rfl ?_)), rfl, rfl, (by repeat (exact List.Sublist.refl _)), ⟨by omega, by rw [hI, hpb, Bool.true_and]⟩, by omega⟩
      ·have hw : want x i = x.rest := by rw [want, List.getElem?_eq_none (by omega)]; rfl
       rw [hw] at hpi hI
       repeat (first|(first|refine q1 ?_|refine q3 ?_|refine q4 tab rfl rfl ?_|refine q6 ?_|refine q13 ?_)|(refine qs rfl (ql tab 0 rfl rfl rfl rfl rfl rfl ?_)))
       refine TO.step rfl (OT.index tab rTree i h41 rfl rfl rfl rfl rfl (by first | rfl | omega | (simp only; omega)) rfl hxi ?_)
       rintro b4 i4 h' hr4 hA4
       (refine TO.step rfl (OT.loadA0 tab hA4 rfl rfl rfl rfl rfl ?_))
       repeat (refine q4 tab rfl rfl ?_)
       refine TO.step rfl (OT.call rfl rfl rfl rfl rfl rfl goes29 ((hpi _ _ h' (rTree_iff.1 hr4)).x ?_))
       rintro _ _ _ ⟨rfl, rfl, rfl⟩
       repeat (first|refine q4 tab rfl rfl ?_|refine q5 ?_|refine q6 ?_)
       refine TC.cond rfl (fun hpb => ?_) (fun hpb => ?_)
       ·repeat (first|refine q1 ?_|refine q3 ?_|refine q4 tab rfl rfl ?_|refine q5 ?_|refine q6 ?_|refine q8 ?_|refine q9 ?_|refine q15 ?_)
        refine retQ_ret rfl (by repeat (first|exact List.Sublist.refl _|refine List.Sublist.cons _ ?_)) (out (Mem.le_refl _) ?_)
        rw [Bool.not_eq_true'] at hpb
        rw [hfit, htxt, hI, hpb]; rfl
       ·repeat (first|refine q3 ?_|refine q4 tab rfl rfl ?_|refine q6 ?_|refine q7 ?_|refine q13 ?_)
        refine TO.step rfl (OT.arith (r' := ((i + 1 : Nat) : Int)) rfl rfl rfl rfl rfl rfl rfl (by omega) ?_)
        repeat (first|refine q4 tab rfl rfl ?_|refine q5 ?_|refine q6 ?_)
        rw [Bool.not_eq_false'] at hpb
        exact ⟨i + 1, (by repeat (first|exact trivial|refine And.intro rfl ?_)), (by repeat (first|exact trivial|refine And.intro rfl ?_)), rfl, rfl, (by repeat (exact List.Sublist.refl _)), ⟨by omega, by rw [hI, hpb, Bool.true_and]⟩, by omega⟩
     ·repeat (first|refine q1 ?_|refine q3 ?_|refine q4 tab rfl rfl ?_|refine q5 ?_|refine q6 ?_|refine q10 ?_|refine q11 ?_|refine q14 ?_|refine q15 ?_)
      refine retQ_ret rfl (by repeat (first|exact List.Sublist.refl _|refine List.Sublist.cons _ ?_)) (out (Mem.le_refl _) ?_)
      rw [hfit, htxt, hI, show a.kids.drop i = [] from List.drop_eq_nil_of_le (by omega)]
      cases x.ks.drop i <;> rfl
   ·rw [ht]
    have htxt : textB x a = true := by unfold textB; rw [ht]; rfl
    repeat (first|refine q1 ?_|refine q2 ?_|refine q3 ?_|refine q4 tab rfl rfl ?_|refine q5 ?_|refine q6 ?_|refine q13 ?_|refine q17 rfl ?_)
    refine TC.loopK (ι := Nat) [2, 5, 6] rfl (fun i => [(9, .int .i64 (i : Int))]) (fun _ => m1) (fun _ => .cells b 0 (treeC h) :: L) (fun i => i ≤ a.kids.length ∧ allS p x.ks x.rest a.kids = allS p (x.ks.drop i) x.rest (a.kids.drop i)) (fun i => a.kids.length - i) 0 (by repeat (first|exact trivial|refine And.intro rfl ?_)) rfl (by repeat (exact List.Sublist.refl _)) ⟨Nat.zero_le _, rfl⟩ ?_
    rintro i ⟨hi, hI⟩
    repeat (first|(first|refine q1 ?_|refine q3 ?_|refine q4 tab rfl rfl ?_|refine q5 ?_|refine q6 ?_)|(refine qs rfl (ql tab 0 rfl rfl rfl rfl rfl rfl ?_)))
    refine TC.condP rfl (fun hik => ?_) (fun hik => ?_)
    ·have hilt : i < a.kids.length := by omega
     have hxi : a.kids[i]? = some a.kids[i] := by simp [hilt]
     rw [allS_step p x a.kids i hilt] at hI
     have hpi := hp hfit i hilt
     repeat (first|refine q1 ?_|refine q2 ?_|refine q3 ?_|refine q4 tab rfl rfl ?_|refine q5 ?_|refine q6 ?_|refine q13 ?_)
     refine TC.condP rfl (fun hiks => ?_) (fun hiks => ?_)
     ·have hks : i < x.ks.length := by omega
      have hxs : x.ks[i]? = some x.ks[i] := by simp [hks]
      have hw : want x i = x.ks[i] := by rw [want, hxs]; rfl
      rw [hw] at hpi hI
      repeat (first|refine q3 ?_|refine q4 tab rfl rfl ?_)
      refine TO.step rfl (OT.index tab rInt i hs rfl rfl rfl rfl rfl (by first | rfl | omega | (simp only; omega)) rfl hxs ?_)
      rintro b3 i3 v3 hv3 hA3
      obtain rfl : v3 = x.ks[i] := hv3
      (refine TO.step rfl (OT.loadA0 tab hA3 rfl rfl rfl rfl rfl ?_))
      repeat (first|(first|refine q1 ?_|refine q3 ?_|refine q4 tab rfl rfl ?_|refine q5 ?_|refine q6 ?_)|(refine qs rfl (ql tab 0 rfl rfl rfl rfl rfl rfl ?_)))
      refine TO.step rfl (OT.index tab rTree i h41 rfl rfl rfl rfl rfl (by first | rfl | omega | (simp only; omega)) rfl hxi ?_)
      rintro b4 i4 h' hr4 hA4
      (refine TO.step rfl (OT.loadA0 tab hA4 rfl rfl rfl rfl rfl ?_))
      repeat (refine q4 tab rfl rfl ?_)
      refine TO.step rfl (OT.call rfl rfl rfl rfl rfl rfl goes29 ((hpi _ _ h' (rTree_iff.1 hr4)).x ?_))
      rintro _ _ _ ⟨rfl, rfl, rfl⟩
      repeat (first|refine q4 tab rfl rfl ?_|refine q5 ?_|refine q6 ?_)
      refine TC.cond rfl (fun hpb => ?_) (fun hpb => ?_)
      ·repeat (first|refine q1 ?_|refine q3 ?_|refine q4 tab rfl rfl ?_|refine q5 ?_|refine q6 ?_|refine q8 ?_|refine q9 ?_|refine q15 ?_)
       refine retQ_ret rfl (by repeat (first|exact List.Sublist.refl _|refine List.Sublist.cons _ ?_)) (out (Mem.le_refl _) ?_)
       rw [Bool.not_eq_true'] at hpb
       rw [hfit, htxt, hI, hpb]; rfl
      ·repeat (first|refine q3 ?_|refine q4 tab rfl rfl ?_|refine q6 ?_|refine q7 ?_|refine q13 ?_)
       refine TO.step rfl (OT.arith (r' := ((i + 1 : Nat) : Int)) rfl rfl rfl rfl rfl rfl rfl (by omega) ?_)
       repeat (first|refine q4 tab rfl rfl ?_|refine q5 ?_|refine q6 ?_)
       rw [Bool.not_eq_false'] at hpb
       exact ⟨i + 1, (by repeat (first|exact trivial|refine And.intro rfl ?_)), (by repeat (first|exact trivial|refine And.intro rfl ?_)), rfl, rfl, (by repeat (exact List.Sublist.refl _)), ⟨by omega, by rw [hI, hpb, Bool.true_and]⟩, by omega⟩
     ·have hw : want x i = x.rest := by rw [want, List.getElem?_eq_none (by omega)]; rfl
      rw [hw] at hpi hI
      repeat (first|(first|refine q1 ?_|refine q3 ?_|refine q4 tab rfl rfl ?_|refine q6 ?_|refine q13 ?_)|(refine qs rfl (ql tab 0 rfl rfl rfl rfl rfl rfl ?_)))
      refine TO.step rfl (OT.index tab rTree i h41 rfl rfl rfl rfl rfl (by first | rfl | omega | (simp only; omega)) rfl hxi ?_)
      rintro b4 i4 h' hr4 hA4
      (refine TO.step rfl (OT.loadA0 tab hA4 rfl rfl rfl rfl rfl ?_))
      repeat (refine q4 tab rfl rfl ?_)
      refine TO.step rfl (OT.call rfl rfl rfl rfl rfl rfl goes29 ((hpi _ _ h' (rTree_iff.1 hr4)).x ?_))
      rintro _ _ _ ⟨rfl, rfl, rfl⟩
      repeat (first|refine q4 tab rfl rfl ?_|refine q5 ?_|refine q6 ?_)
      refine TC.cond rfl (fun hpb => ?_) (fun hpb => ?_)
      ·repeat (first|refine q1 ?_|refine q3 ?_|refine q4 tab rfl rfl ?_|refine q5 ?_|refine q6 ?_|refine q8 ?_|refine q9 ?_|refine q15 ?_)
       refine retQ_ret rfl (by repeat (first|exact List.Sublist.refl _|refine List.Sublist.cons _ ?_)) (out (Mem.le_refl _) ?_)
       rw [Bool.not_eq_true'] at hpb
       rw [hfit, htxt, hI, hpb]; rfl
      ·repeat (first|refine q3 ?_|refine q4 tab rfl rfl ?_|refine q6 ?_|refine q7 ?_|refine q13 ?_)
       refine TO.step rfl (OT.arith (r' := ((i + 1 : Nat) : Int)) rfl rfl rfl rfl rfl rfl rfl (by omega) ?_)
       repeat (first|refine q4 tab rfl rfl ?_|refine q5 ?_|refine q6 ?_)
       rw [Bool.not_eq_false'] at hpb
       exact ⟨i + 1, (by repeat (first|exact trivial|refine And.intro rfl ?_)), (by repeat (first|exact trivial|refine And.intro rfl ?_)), rfl, rfl, (by repeat (exact List.Sublist.refl _)), ⟨by omega, by rw [hI, hpb, Bool.true_and]⟩, by omega⟩
    ·repeat (first|refine q1 ?_|refine q3 ?_|refine q4 tab rfl rfl ?_|refine q5 ?_|refine q6 ?_|refine q10 ?_|refine q11 ?_|refine q14 ?_|refine q15 ?_)
     refine retQ_ret rfl (by repeat (first|exact List.Sublist.refl _|refine List.Sublist.cons _ ?_)) (out (Mem.le_refl _) ?_)
     rw [hfit, htxt, hI, show a.kids.drop i = [] from List.drop_eq_nil_of_le (by omega)]
     cases x.ks.drop i <;> rfl
 ·have hcnt : (!decide (x.rest = 0) || decide (a.kids.length ≤ x.ks.length)) = true := by rw [decide_eq_false hrest]; rfl
  have hcnt0 : x.rest = 0 → a.kids.length ≤ x.ks.length := fun h0 => by simpa [h0] using hcnt
  have hcnt2 : decide (x.ks.length ≤ a.kids.length) = true := decide_eq_true (by omega)
  repeat (first|(refine q4 tab rfl rfl ?_)|(refine qs rfl (ql tab 0 rfl rfl rfl rfl rfl rfl ?_)))
  (refine TO.splitN rfl rfl (fun hnum => ?_) (fun hnum => ?_))
  ·repeat (first|(refine q4 tab rfl rfl ?_)|(refine qs rfl (ql tab 0 rfl rfl rfl rfl rfl rfl ?_)))
   refine TO.step rfl (OT.call rfl rfl rfl rfl rfl rfl goes52 ((num_ref _ _ h.kind).x ?_));
   rintro _ _ _ ⟨rfl, rfl, rfl⟩
   repeat (first|refine q4 tab rfl rfl ?_|refine q5 ?_|refine q6 ?_)
   refine TC.cond (t := !numB h.kind) rfl (fun hn => ?_) (fun hn => ?_)
   ·repeat (first|refine q1 ?_|refine q3 ?_|refine q4 tab rfl rfl ?_|refine q5 ?_|refine q6 ?_|refine q8 ?_|refine q15 ?_)
    exact retQ_ret rfl (by repeat (first|exact List.Sublist.refl _|refine List.Sublist.cons _ ?_)) (bad (Mem.le_refl _) (by unfold fitB; rw [← h3, ← h1, decide_eq_false hnum]; simp_all))
   have hfit : fitB x a = true := by unfold fitB; rw [hok2, hcnt2, hcnt, ← h1, show numB h.kind = true by simpa using hn]; simp
   rcases htext with ht | ht | ht
   ·rw [ht]
    repeat (first|(first|refine q1 ?_|refine q3 ?_|refine q4 tab rfl rfl ?_|refine q6 ?_|refine q13 ?_)|(refine qs rfl (ql tab 0 rfl rfl rfl rfl rfl rfl ?_)))
    (refine TO.splitN rfl rfl (fun hnm => ?_) (fun hnm => ?_))
    ·repeat (first|refine q1 ?_|refine q3 ?_|refine q4 tab rfl rfl ?_|refine q5 ?_|refine q6 ?_|refine q8 ?_|refine q15 ?_|refine q16 rfl ?_)
     refine retQ_ret rfl (by repeat (first|exact List.Sublist.refl _|refine List.Sublist.cons _ ?_)) (out (Mem.le_refl _) ?_)
     have : textB x a = false := by unfold textB; rw [ht, ← h2, decide_eq_false hnm]; rfl
     rw [this, Bool.false_and, Bool.and_false]
    ·have htxt : textB x a = true := by unfold textB; rw [ht, ← h2, decide_eq_true hnm]; rfl
     repeat (first|refine q1 ?_|refine q2 ?_|refine q3 ?_|refine q4 tab rfl rfl ?_|refine q5 ?_|refine q6 ?_|refine q13 ?_|refine q17 rfl ?_)
     refine TC.loopK (ι := Nat) [2, 5, 6] rfl (fun i => [(9, .int .i64 (i : Int))]) (fun _ => m1) (fun _ => .cells b 0 (treeC h) :: L) (fun i => i ≤ a.kids.length ∧ allS p x.ks x.rest a.kids = allS p (x.ks.drop i) x.rest (a.kids.drop i)) (fun i => a.kids.length - i) 0 (by repeat (first|exact trivial|refine And.intro rfl ?_)) rfl (by repeat (exact List.Sublist.refl _)) ⟨Nat.zero_le _, rfl⟩ ?_
     rintro i ⟨hi, hI⟩
     repeat (first|(first|refine q1 ?_|refine q3 ?_|refine q4 tab rfl rfl ?_|refine q5 ?_|refine q6 ?_)|(refine qs rfl (ql tab 0 rfl rfl rfl rfl rfl rfl ?_)))
     refine TC.condP rfl (fun hik => ?_) (fun hik => ?_)
     ·have hilt : i < a.kids.length := by omega
      have hxi : a.kids[i]? = some a.kids[i] := by simp [hilt]
      rw [allS_step p x a.kids i hilt] at hI
      have hpi := hp hfit i hilt
      repeat (first|refine q1 ?_|refine q2 ?_|refine q3 ?_|refine q4 tab rfl rfl ?_|refine q5 ?_|refine q6 ?_|refine q13 ?_)
      refine TC.condP rfl (fun hiks => ?_) (fun hiks => ?_)
      ·have hks : i < x.ks.length := by omega
       have hxs : x.ks[i]? = some x.ks[i] := by simp [hks]
       have hw : want x i = x.ks[i] := by rw [want, hxs]; rfl
       rw [hw] at hpi hI
       repeat (first|refine q3 ?_|refine q4 tab rfl rfl ?_)
       refine TO.step rfl (OT.index tab rInt i hs rfl rfl rfl rfl rfl (by first | rfl | omega | (simp only; omega)) rfl hxs ?_)
       rintro b3 i3 v3 hv3 hA3
       obtain rfl : v3 = x.ks[i] := hv3
       (refine TO.step rfl (OT.loadA0 tab hA3 rfl rfl rfl rfl rfl ?_))
       repeat (first|(first|refine q1 ?_|refine q3 ?_|refine q4 tab rfl rfl ?_|refine q5 ?_|refine q6 ?_)|(refine qs rfl (ql tab 0 rfl rfl rfl rfl rfl rfl ?_)))
       refine TO.step rfl (OT.index tab rTree i h41 rfl rfl rfl rfl rfl (by first | rfl | omega | (simp only; omega)) rfl hxi ?_)
       rintro b4 i4 h' hr4 hA4
       (refine TO.step rfl (OT.loadA0 tab hA4 rfl rfl rfl rfl rfl ?_))
       repeat (refine q4 tab rfl rfl ?_)
       refine TO.step rfl (OT.call rfl rfl rfl rfl rfl rfl goes29 ((hpi _ _ h' (rTree_iff.1 hr4)).x ?_))
       rintro _ _ _ ⟨rfl, rfl, rfl⟩
       repeat (first|refine q4 tab rfl rfl ?_|refine q5 ?_|refine q6 ?_)
       refine TC.cond rfl (fun hpb => ?_) (fun hpb => ?_)
       ·repeat (first|refine q1 ?_|refine q3 ?_|refine q4 tab rfl rfl ?_|refine q5 ?_|refine q6 ?_|refine q8 ?_|refine q9 ?_|refine q15 ?_)
        refine retQ_ret rfl (by repeat (first|exact List.Sublist.refl _|refine List.Sublist.cons _ ?_)) (out (Mem.le_refl _) ?_)
        rw [Bool.not_eq_true'] at hpb
        rw [hfit, htxt, hI, hpb]; rfl
       ·repeat (first|refine q3 ?_|refine q4 tab rfl rfl ?_|refine q6 ?_|refine q7 ?_|refine q13 ?_)
        refine TO.step rfl (OT.arith (r' := ((i + 1 : Nat) : Int)) rfl rfl rfl rfl rfl rfl rfl (by omega) ?_)
        repeat (first|refine q4 tab rfl rfl ?_|refine q5 ?_|refine q6 ?_)
        rw [Bool.not_eq_false'] at hpb
        exact ⟨i + 1, (by repeat (first|exact trivial|refine And.intro rfl ?_)), (by repeat (first|exact trivial|refine And.intro rfl ?_)), rfl, rfl, (by repeat (exact List.Sublist.refl _)), ⟨by omega, by rw [hI, hpb, Bool.true_and]⟩, by omega⟩
      ·have hw : want x i = x.rest := by rw [want, List.getElem?_eq_none (by omega)]; rfl
       rw [hw] at hpi hI
       repeat (first|(first|refine q1 ?_|refine q3 ?_|refine q4 tab rfl rfl ?_|refine q6 ?_|refine q13 ?_)|(refine qs rfl (ql tab 0 rfl rfl rfl rfl rfl rfl ?_)))
       refine TO.step rfl (OT.index tab rTree i h41 rfl rfl rfl rfl rfl (by first | rfl | omega | (simp only; omega)) rfl hxi ?_)
       rintro b4 i4 h' hr4 hA4
       (refine TO.step rfl (OT.loadA0 tab hA4 rfl rfl rfl rfl rfl ?_))
       repeat (refine q4 tab rfl rfl ?_)
       refine TO.step rfl (OT.call rfl rfl rfl rfl rfl rfl goes29 ((hpi _ _ h' (rTree_iff.1 hr4)).x ?_))
       rintro _ _ _ ⟨rfl, rfl, rfl⟩
       repeat (first|refine q4 tab rfl rfl ?_|refine q5 ?_|refine q6 ?_)
       refine TC.cond rfl (fun hpb => ?_) (fun hpb => ?_)
       ·repeat (first|refine q1 ?_|refine q3 ?_|refine q4 tab rfl rfl ?_|refine q5 ?_|refine q6 ?_|refine q8 ?_|refine q9 ?_|refine q15 ?_)
        refine retQ_ret rfl (by repeat (first|exact List.Sublist.refl _|refine List.Sublist.cons _ ?_)) (out (Mem.le_refl _) ?_)
        rw [Bool.not_eq_true'] at hpb
        rw [hfit, htxt, hI, hpb]; rfl
       ·repeat (first|refine q3 ?_|refine q4 tab rfl rfl ?_|refine q6 ?_|refine q7 ?_|refine q13 ?_)
        refine TO.step rfl (OT.arith (r' := ((i + 1 : Nat) : Int)) rfl rfl rfl rfl rfl rfl rfl (by omega) ?_)
        repeat (first|refine q4 tab rfl rfl ?_|refine q5 ?_|refine q6 ?_)
        rw [Bool.not_eq_false'] at hpb
        exact ⟨i + 1, (by repeat (first|exact trivial|refine And.intro rfl ?_)), (by repeat (first|exact trivial|refine And.intro rfl ?_)), rfl, rfl, (by repeat (exact List.Sublist.refl _)), ⟨by omega, by rw [hI, hpb, Bool.true_and]⟩, by omega⟩
     ·repeat (first|refine q1 ?_|refine q3 ?_|refine q4 tab rfl rfl ?_|refine q5 ?_|refine q6 ?_|refine q10 ?_|refine q11 ?_|refine q14 ?_|refine q15 ?_)
      refine retQ_ret rfl (by repeat (first|exact List.Sublist.refl _|refine List.Sublist.cons _ ?_)) (out (Mem.le_refl _) ?_)
      rw [hfit, htxt, hI, show a.kids.drop i = [] from List.drop_eq_nil_of_le (by omega)]
      cases x.ks.drop i <;> rfl
   ·rw [ht]
    repeat (first|(first|refine q1 ?_|refine q3 ?_|refine q4 tab rfl rfl ?_|refine q6 ?_|refine q13 ?_)|(refine qs rfl (ql tab 0 rfl rfl rfl rfl rfl rfl ?_)))
    refine TO.step rfl (OT.call rfl rfl rfl rfl rfl rfl goes53 ((name_ref _ _ h.name (by rw [h2]; omega)).x ?_));
    rintro _ _ _ ⟨rfl, rfl, rfl⟩
    repeat (first|refine q4 tab rfl rfl ?_|refine q5 ?_|refine q6 ?_)
    refine TC.cond (t := !isName h.name) rfl (fun hnm => ?_) (fun hnm => ?_)
    ·repeat (first|refine q1 ?_|refine q3 ?_|refine q4 tab rfl rfl ?_|refine q5 ?_|refine q6 ?_|refine q8 ?_|refine q15 ?_)
     refine retQ_ret rfl (by repeat (first|exact List.Sublist.refl _|refine List.Sublist.cons _ ?_)) (out (Mem.le_refl _) ?_)
     have : textB x a = false := by unfold textB; rw [ht, ← h2, hnm]; rfl
     rw [this, Bool.false_and, Bool.and_false]
    ·have htxt : textB x a = true := by unfold textB; rw [ht, ← h2, hnm]; rfl
     repeat (first|refine q1 ?_|refine q2 ?_|refine q3 ?_|refine q4 tab rfl rfl ?_|refine q5 ?_|refine q6 ?_|refine q13 ?_)
     refine TC.loopK (ι := Nat) [2, 5, 6] rfl (fun i => [(9, .int .i64 (i : Int))]) (fun _ => m1) (fun _ => .cells b 0 (treeC h) :: L) (fun i => i ≤ a.kids.length ∧ allS p x.ks x.rest a.kids = allS p (x.ks.drop i) x.rest (a.kids.drop i)) (fun i => a.kids.length - i) 0 (by repeat (first|exact trivial|refine And.intro rfl ?_)) rfl (by repeat (exact List.Sublist.refl _)) ⟨Nat.zero_le _, rfl⟩ ?_
     rintro i ⟨hi, hI⟩
     repeat (first|(first|refine q1 ?_|refine q3 ?_|refine q4 tab rfl rfl ?_|refine q5 ?_|refine q6 ?_)|(refine qs rfl (ql tab 0 rfl rfl rfl rfl rfl rfl ?_)))
     refine TC.condP rfl (fun hik => ?_) (fun hik => ?_)
     ·have hilt : i < a.kids.length := by omega
      have hxi : a.kids[i]? = some a.kids[i] := by simp [hilt]
      rw [allS_step p x a.kids i hilt] at hI
      have hpi := hp hfit i hilt
      repeat (first|refine q1 ?_|refine q2 ?_|refine q3 ?_|refine q4 tab rfl rfl ?_|refine q5 ?_|refine q6 ?_|refine q13 ?_)
      refine TC.condP rfl (fun hiks => ?_) (fun hiks => ?_)
      ·have hks : i < x.ks.length := by omega
       have hxs : x.ks[i]? = some x.ks[i] := by simp [hks]
       have hw : want x i = x.ks[i] := by rw [want, hxs]; rfl
       rw [hw] at hpi hI
       repeat (first|refine q3 ?_|refine q4 tab rfl rfl ?_)
       refine TO.step rfl (OT.index tab rInt i hs rfl rfl rfl rfl rfl (by first | rfl | omega | (simp only; omega)) rfl hxs ?_)
       rintro b3 i3 v3 hv3 hA3
       obtain rfl : v3 = x.ks[i] := hv3
       (refine TO.step rfl (OT.loadA0 tab hA3 rfl rfl rfl rfl rfl ?_))
       repeat (first|(first|refine q1 ?_|refine q3 ?_|refine q4 tab rfl rfl ?_|refine q5 ?_|refine q6 ?_)|(refine qs rfl (ql tab 0 rfl rfl rfl rfl rfl rfl ?_)))
       refine TO.step rfl (OT.index tab rTree i h41 rfl rfl rfl rfl rfl (by first | rfl | omega | (simp only; omega)) rfl hxi ?_)
       rintro b4 i4 h' hr4 hA4
       (refine TO.step rfl (OT.loadA0 tab hA4 rfl rfl rfl rfl rfl ?_))
       repeat (refine q4 tab rfl rfl ?_)
       refine TO.step rfl (OT.call rfl rfl rfl rfl rfl rfl goes29 ((hpi _ _ h' (rTree_iff.1 hr4)).x ?_))
       rintro _ _ _ ⟨rfl, rfl, rfl⟩
       repeat (first|refine q4 tab rfl rfl ?_|refine q5 ?_|refine q6 ?_)
       refine TC.cond rfl (fun hpb => ?_) (fun hpb => ?_)
       ·repeat (first|refine q1 ?_|refine q3 ?_|refine q4 tab rfl rfl ?_|refine q5 ?_|refine q6 ?_|refine q8 ?_|refine q9 ?_|refine q15 ?_)
        refine retQ_ret rfl (by repeat (first|exact List.Sublist.refl _|refine List.Sublist.cons _ ?_)) (out (Mem.le_refl _) ?_)
        rw [Bool.not_eq_true'] at hpb
        rw [hfit, htxt, hI, hpb]; rfl
       ·repeat (first|refine q3 ?_|refine q4 tab rfl rfl ?_|refine q6 ?_|refine q7 ?_|refine q13 ?_)
        refine TO.step rfl (OT.arith (r' := ((i + 1 : Nat) : Int)) rfl rfl rfl rfl rfl rfl rfl (by omega) ?_)
        repeat (first|refine q4 tab rfl rfl ?_|refine q5 ?_|refine q6 ?_)
        rw [Bool.not_eq_false'] at hpb
        exact ⟨i + 1, (by repeat (first|exact trivial|refine And.intro rfl ?_)), (by repeat (first|exact trivial|refine And.intro rfl ?_)), rfl, rfl, (by repeat (exact List.Sublist.refl _)), ⟨by omega, by rw [hI, hpb, Bool.true_and]⟩, by omega⟩
      ·have hw : want x i = x.rest := by rw [want, List.getElem?_eq_none (by omega)]; rfl
       rw [hw] at hpi hI
       repeat (first|(first|refine q1 ?_|refine q3 ?_|refine q4 tab rfl rfl ?_|refine q6 ?_|refine q13 ?_)|(refine qs rfl (ql tab 0 rfl rfl rfl rfl rfl rfl ?_)))
       refine TO.step rfl (OT.index tab rTree i h41 rfl rfl rfl rfl rfl (by first | rfl | omega | (simp only; omega)) rfl hxi ?_)
       rintro b4 i4 h' hr4 hA4
       (refine TO.step rfl (OT.loadA0 tab hA4 rfl rfl rfl rfl rfl ?_))
       repeat (refine q4 tab rfl rfl ?_)
       refine TO.step rfl (OT.call rfl rfl rfl rfl rfl rfl goes29 ((hpi _ _ h' (rTree_iff.1 hr4)).x ?_))
       rintro _ _ _ ⟨rfl, rfl, rfl⟩
       repeat (first|refine q4 tab rfl rfl ?_|refine q5 ?_|refine q6 ?_)
       refine TC.cond rfl (fun hpb => ?_) (fun hpb => ?_)
       ·repeat (first|refine q1 ?_|refine q3 ?_|refine q4 tab rfl rfl ?_|refine q5 ?_|refine q6 ?_|refine q8 ?_|refine q9 ?_|refine q15 ?_)
        refine retQ_ret rfl (by repeat (first|exact List.Sublist.refl _|refine List.Sublist.cons _ ?_)) (out (Mem.le_refl _) ?_)
        rw [Bool.not_eq_true'] at hpb
        rw [hfit, htxt, hI, hpb]; rfl
       ·repeat (first|refine q3 ?_|refine q4 tab rfl rfl ?_|refine q6 ?_|refine q7 ?_|refine q13 ?_)
        refine TO.step rfl (OT.arith (r' := ((i + 1 : Nat) : Int)) rfl rfl rfl rfl rfl rfl rfl (by omega) ?_)
        repeat (first|refine q4 tab rfl rfl ?_|refine q5 ?_|refine q6 ?_)
        rw [Bool.not_eq_false'] at hpb
        exact ⟨i + 1, (by repeat (first|exact trivial|refine And.intro rfl ?_)), (by repeat (first|exact trivial|refine And.intro rfl ?_)), rfl, rfl, (by repeat (exact List.Sublist.refl _)), ⟨by omega, by rw [hI, hpb, Bool.true_and]⟩, by omega⟩
     ·repeat (first|refine q1 ?_|refine q3 ?_|refine q4 tab rfl rfl ?_|refine q5 ?_|refine q6 ?_|refine q10 ?_|refine q11 ?_|refine q14 ?_|refine q15 ?_)
      refine retQ_ret rfl (by repeat (first|exact List.Sublist.refl _|refine List.Sublist.cons _ ?_)) (out (Mem.le_refl _) ?_)
      rw [hfit, htxt, hI, show a.kids.drop i = [] from List.drop_eq_nil_of_le (by omega)]
      cases x.ks.drop i <;> rfl
   ·rw [ht]
    have htxt : textB x a = true := by unfold textB; rw [ht]; rfl
    repeat (first|refine q1 ?_|refine q2 ?_|refine q3 ?_|refine q4 tab rfl rfl ?_|refine q5 ?_|refine q6 ?_|refine q13 ?_|refine q17 rfl ?_)
    refine TC.loopK (ι := Nat) [2, 5, 6] rfl (fun i => [(9, .int .i64 (i : Int))]) (fun _ => m1) (fun _ => .cells b 0 (treeC h) :: L) (fun i => i ≤ a.kids.length ∧ allS p x.ks x.rest a.kids = allS p (x.ks.drop i) x.rest (a.kids.drop i)) (fun i => a.kids.length - i) 0 (by repeat (first|exact trivial|refine And.intro rfl ?_)) rfl (by repeat (exact List.Sublist.refl _)) ⟨Nat.zero_le _, rfl⟩ ?_
    rintro i ⟨hi, hI⟩
    repeat (first|(first|refine q1 ?_|refine q3 ?_|refine q4 tab rfl rfl ?_|refine q5 ?_|refine q6 ?_)|(refine qs rfl (ql tab 0 rfl rfl rfl rfl rfl rfl ?_)))
    refine TC.condP rfl (fun hik => ?_) (fun hik => ?_)
    ·have hilt : i < a.kids.length := by omega
     have hxi : a.kids[i]? = some a.kids[i] := by simp [hilt]
     rw [allS_step p x a.kids i hilt] at hI
     have hpi := hp hfit i hilt
     repeat (first|refine q1 ?_|refine q2 ?_|refine q3 ?_|refine q4 tab rfl rfl ?_|refine q5 ?_|refine q6 ?_|refine q13 ?_)
     refine TC.condP rfl (fun hiks => ?_) (fun hiks => ?_)
     ·have hks : i < x.ks.length := by omega
      have hxs : x.ks[i]? = some x.ks[i] := by simp [hks]
      have hw : want x i = x.ks[i] := by rw [want, hxs]; rfl
      rw [hw] at hpi hI
      repeat (first|refine q3 ?_|refine q4 tab rfl rfl ?_)
      refine TO.step rfl (OT.index tab rInt i hs rfl rfl rfl rfl rfl (by first | rfl | omega | (simp only; omega)) rfl hxs ?_)
      rintro b3 i3 v3 hv3 hA3
      obtain rfl : v3 = x.ks[i] := hv3
      (refine TO.step rfl (OT.loadA0 tab hA3 rfl rfl rfl rfl rfl ?_))
      repeat (first|(first|refine q1 ?_|refine q3 ?_|refine q4 tab rfl rfl ?_|refine q5 ?_|refine q6 ?_)|(refine qs rfl (ql tab 0 rfl rfl rfl rfl rfl rfl ?_)))
      refine TO.step rfl (OT.index tab rTree i h41 rfl rfl rfl rfl rfl (by first | rfl | omega | (simp only; omega)) rfl hxi ?_)
      rintro b4 i4 h' hr4 hA4
      (refine TO.step rfl (OT.loadA0 tab hA4 rfl rfl rfl rfl rfl ?_))
      repeat (refine q4 tab rfl rfl ?_)
      refine TO.step rfl (OT.call rfl rfl rfl rfl rfl rfl goes29 ((hpi _ _ h' (rTree_iff.1 hr4)).x ?_))
      rintro _ _ _ ⟨rfl, rfl, rfl⟩
      repeat (first|refine q4 tab rfl rfl ?_|refine q5 ?_|refine q6 ?_)
      refine TC.cond rfl (fun hpb => ?_) (fun hpb => ?_)
      ·repeat (first|refine q1 ?_|refine q3 ?_|refine q4 tab rfl rfl ?_|refine q5 ?_|refine q6 ?_|refine q8 ?_|refine q9 ?_|refine q15 ?_)
       refine retQ_ret rfl (by repeat (first|exact List.Sublist.refl _|refine List.Sublist.cons _ ?_)) (out (Mem.le_refl _) ?_)
       rw [Bool.not_eq_true'] at hpb
       rw [hfit, htxt, hI, hpb]; rfl
      ·repeat (first|refine q3 ?_|refine q4 tab rfl rfl ?_|refine q6 ?_|refine q7 ?_|refine q13 ?_)
       refine TO.step rfl (OT.arith (r' := ((i + 1 : Nat) : Int)) rfl rfl rfl rfl rfl rfl rfl (by omega) ?_)
       repeat (first|refine q4 tab rfl rfl ?_|refine q5 ?_|refine q6 ?_)
       rw [Bool.not_eq_false'] at hpb
       exact ⟨i + 1, (by repeat (first|exact trivial|refine And.intro rfl ?_)), (by repeat (first|exact trivial|refine And.intro rfl ?_)), rfl, rfl, (by repeat (exact List.Sublist.refl _)), ⟨by omega, by rw [hI, hpb, Bool.true_and]⟩, by omega⟩
     ·have hw : want x i = x.rest := by rw [want, List.getElem?_eq_none (by omega)]; rfl
      rw [hw] at hpi hI
      repeat (first|(first|refine q1 ?_|refine q3 ?_|refine q4 tab rfl rfl ?_|refine q6 ?_|refine q13 ?_)|(refine qs rfl (ql tab 0 rfl rfl rfl rfl rfl rfl ?_)))
      refine TO.step rfl (OT.index tab rTree i h41 rfl rfl rfl rfl rfl (by first | rfl | omega | (simp only; omega)) rfl hxi ?_)
      rintro b4 i4 h' hr4 hA4
      (refine TO.step rfl (OT.loadA0 tab hA4 rfl rfl rfl rfl rfl ?_))
      repeat (refine q4 tab rfl rfl ?_)
      refine TO.step rfl (OT.call rfl rfl rfl rfl rfl rfl goes29 ((hpi _ _ h' (rTree_iff.1 hr4)).x ?_))
      rintro _ _ _ ⟨rfl, rfl, rfl⟩
      repeat (first|refine q4 tab rfl rfl ?_|refine q5 ?_|refine q6 ?_)
      refine TC.cond rfl (fun hpb => ?_) (fun hpb => ?_)
      ·repeat (first|refine q1 ?_|refine q3 ?_|refine q4 tab rfl rfl ?_|refine q5 ?_|refine q6 ?_|refine q8 ?_|refine q9 ?_|refine q15 ?_)
       refine retQ_ret rfl (by repeat (first|exact List.Sublist.refl _|refine List.Sublist.cons _ ?_)) (out (Mem.le_refl _) ?_)
       rw [Bool.not_eq_true'] at hpb
       rw [hfit, htxt, hI, hpb]; rfl
      ·repeat (first|refine q3 ?_|refine q4 tab rfl rfl ?_|refine q6 ?_|refine q7 ?_|refine q13 ?_)
       refine TO.step rfl (OT.arith (r' := ((i + 1 : Nat) : Int)) rfl rfl rfl rfl rfl rfl rfl (by omega) ?_)
       repeat (first|refine q4 tab rfl rfl ?_|refine q5 ?_|refine q6 ?_)
       rw [Bool.not_eq_false'] at hpb
       exact ⟨i + 1, (by repeat (first|exact trivial|refine And.intro rfl ?_)), (by repeat (first|exact trivial|refine And.intro rfl ?_)), rfl, rfl, (by repeat (exact List.Sublist.refl _)), ⟨by omega, by rw [hI, hpb, Bool.true_and]⟩, by omega⟩
    ·repeat (first|refine q1 ?_|refine q3 ?_|refine q4 tab rfl rfl ?_|refine q5 ?_|refine q6 ?_|refine q10 ?_|refine q11 ?_|refine q14 ?_|refine q15 ?_)
     refine retQ_ret rfl (by repeat (first|exact List.Sublist.refl _|refine List.Sublist.cons _ ?_)) (out (Mem.le_refl _) ?_)
     rw [hfit, htxt, hI, show a.kids.drop i = [] from List.drop_eq_nil_of_le (by omega)]
     cases x.ks.drop i <;> rfl
  ·have hfit : fitB x a = true := by unfold fitB; rw [hok2, hcnt2, hcnt, ← h3, decide_eq_true hnum]; rfl
   repeat (first|refine q1 ?_|refine q3 ?_|refine q4 tab rfl rfl ?_|refine q5 ?_|refine q6 ?_|refine q13 ?_|refine q17 rfl ?_)
   rcases htext with ht | ht | ht
   ·rw [ht]
    repeat (first|(refine q4 tab rfl rfl ?_)|(refine qs rfl (ql tab 0 rfl rfl rfl rfl rfl rfl ?_)))
    (refine TO.splitN rfl rfl (fun hnm => ?_) (fun hnm => ?_))
    ·repeat (first|refine q1 ?_|refine q3 ?_|refine q4 tab rfl rfl ?_|refine q5 ?_|refine q6 ?_|refine q8 ?_|refine q15 ?_|refine q16 rfl ?_)
     refine retQ_ret rfl (by repeat (first|exact List.Sublist.refl _|refine List.Sublist.cons _ ?_)) (out (Mem.le_refl _) ?_)
     have : textB x a = false := by unfold textB; rw [ht, ← h2, decide_eq_false hnm]; rfl
     rw [this, Bool.false_and, Bool.and_false]
    ·have htxt : textB x a = true := by unfold textB; rw [ht, ← h2, decide_eq_true hnm]; rfl
     repeat (first|refine q1 ?_|refine q2 ?_|refine q3 ?_|refine q4 tab rfl rfl ?_|refine q5 ?_|refine q6 ?_|refine q13 ?_|refine q17 rfl ?_)
     refine TC.loopK (ι := Nat) [2, 5, 6] rfl (fun i => [(9, .int .i64 (i : Int))]) (fun _ => m1) (fun _ => .cells b 0 (treeC h) :: L) (fun i => i ≤ a.kids.length ∧ allS p x.ks x.rest a.kids = allS p (x.ks.drop i) x.rest (a.kids.drop i)) (fun i => a.kids.length - i) 0 (by repeat (first|exact trivial|refine And.intro rfl ?_)) rfl (by repeat (exact List.Sublist.refl _)) ⟨Nat.zero_le _, rfl⟩ ?_
     rintro i ⟨hi, hI⟩
     repeat (first|(first|refine q1 ?_|refine q3 ?_|refine q4 tab rfl rfl ?_|refine q5 ?_|refine q6 ?_)|(refine qs rfl (ql tab 0 rfl rfl rfl rfl rfl rfl ?_)))
     refine TC.condP rfl (fun hik => ?_) (fun hik => ?_)
     ·have hilt : i < a.kids.length := by omega
      have hxi : a.kids[i]? = some a.kids[i] := by simp [hilt]
      rw [allS_step p x a.kids i hilt] at hI
      have hpi := hp hfit i hilt
      repeat (first|refine q1 ?_|refine q2 ?_|refine q3 ?_|refine q4 tab rfl rfl ?_|refine q5 ?_|refine q6 ?_|refine q13 ?_)
      refine TC.condP rfl (fun hiks => ?_) (fun hiks => ?_)
      ·have hks : i < x.ks.length := by omega
       have hxs : x.ks[i]? = some x.ks[i] := by simp [hks]
       have hw : want x i = x.ks[i] := by rw [want, hxs]; rfl
       rw [hw] at hpi hI
       repeat (first|refine q3 ?_|refine q4 tab rfl rfl ?_)
       refine TO.step rfl (OT.index tab rInt i hs rfl rfl rfl rfl rfl (by first | rfl | omega | (simp only; omega)) rfl hxs ?_)
       rintro b3 i3 v3 hv3 hA3
       obtain rfl : v3 = x.ks[i] := hv3
       (refine TO.step rfl (OT.loadA0 tab hA3 rfl rfl rfl rfl rfl ?_))
       repeat (first|(first|refine q1 ?_|refine q3 ?_|refine q4 tab rfl rfl ?_|refine q5 ?_|refine q6 ?_)|(refine qs rfl (ql tab 0 rfl rfl rfl rfl rfl rfl ?_)))
       refine TO.step rfl (OT.index tab rTree i h41 rfl rfl rfl rfl rfl (by first | rfl | omega | (simp only; omega)) rfl hxi ?_)
       rintro b4 i4 h' hr4 hA4
       (refine TO.step rfl (OT.loadA0 tab hA4 rfl rfl rfl rfl rfl ?_))
       repeat (refine q4 tab rfl rfl ?_)
       refine TO.step rfl (OT.call rfl rfl rfl rfl rfl rfl goes29 ((hpi _ _ h' (rTree_iff.1 hr4)).x ?_))
       rintro _ _ _ ⟨rfl, rfl, rfl⟩
       repeat (first|refine q4 tab rfl rfl ?_|refine q5 ?_|refine q6 ?_)
       refine TC.cond rfl (fun hpb => ?_) (fun hpb => ?_)
       ·repeat (first|refine q1 ?_|refine q3 ?_|refine q4 tab rfl rfl ?_|refine q5 ?_|refine q6 ?_|refine q8 ?_|refine q9 ?_|refine q15 ?_)
        refine retQ_ret rfl (by repeat (first|exact List.Sublist.refl _|refine List.Sublist.cons _ ?_)) (out (Mem.le_refl _) ?_)
        rw [Bool.not_eq_true'] at hpb
        rw [hfit, htxt, hI, hpb]; rfl
       ·repeat (first|refine q3 ?_|refine q4 tab rfl rfl ?_|refine q6 ?_|refine q7 ?_|refine q13 ?_)
        refine TO.step rfl (OT.arith (r' := ((i + 1 : Nat) : Int)) rfl rfl rfl rfl rfl rfl rfl (by omega) ?_)
        repeat (first|refine q4 tab rfl rfl ?_|refine q5 ?_|refine q6 ?_)
        rw [Bool.not_eq_false'] at hpb
        exact ⟨i + 1, (by repeat (first|exact trivial|refine And.intro rfl ?_)), (by repeat (first|exact trivial|refine And.intro rfl ?_)), rfl, rfl, (by repeat (exact List.Sublist.refl _)), ⟨by omega, by rw [hI, hpb, Bool.true_and]⟩, by omega⟩
      ·have hw : want x i = x.rest := by rw [want, List.getElem?_eq_none (by omega)]; rfl
       rw [hw] at hpi hI
       repeat (first|(first|refine q1 ?_|refine q3 ?_|refine q4 tab rfl rfl ?_|refine q6 ?_|refine q13 ?_)|(refine qs rfl (ql tab 0 rfl rfl rfl rfl rfl rfl ?_)))
       refine TO.step rfl (OT.index tab rTree i h41 rfl rfl rfl rfl rfl (by first | rfl | omega | (simp only; omega)) rfl hxi ?_)
       rintro b4 i4 h' hr4 hA4
       (refine TO.step rfl (OT.loadA0 tab hA4 rfl rfl rfl rfl rfl ?_))
       repeat (refine q4 tab rfl rfl ?_)
       refine TO.step rfl (OT.call rfl rfl rfl rfl rfl rfl goes29 ((hpi _ _ h' (rTree_iff.1 hr4)).x ?_))
       rintro _ _ _ ⟨rfl, rfl, rfl⟩
       repeat (first|refine q4 tab rfl rfl ?_|refine q5 ?_|refine q6 ?_)
       refine TC.cond rfl (fun hpb => ?_) (fun hpb => ?_)
       ·repeat (first|refine q1 ?_|refine q3 ?_|refine q4 tab rfl rfl ?_|refine q5 ?_|refine q6 ?_|refine q8 ?_|refine q9 ?_|refine q15 ?_)
        refine retQ_ret rfl (by repeat (first|exact List.Sublist.refl _|refine List.Sublist.cons _ ?_)) (out (Mem.le_refl _) ?_)
        rw [Bool.not_eq_true'] at hpb
        rw [hfit, htxt, hI, hpb]; rfl
       ·repeat (first|refine q3 ?_|refine q4 tab rfl rfl ?_|refine q6 ?_|refine q7 ?_|refine q13 ?_)
        refine TO.step rfl (OT.arith (r' := ((i + 1 : Nat) : Int)) rfl rfl rfl rfl rfl rfl rfl (by omega) ?_)
        repeat (first|refine q4 tab rfl rfl ?_|refine q5 ?_|refine q6 ?_)
        rw [Bool.not_eq_false'] at hpb
        exact ⟨i + 1, (by repeat (first|exact trivial|refine And.intro rfl ?_)), (by repeat (first|exact trivial|refine And.intro rfl ?_)), rfl, rfl, (by repeat (exact List.Sublist.refl _)), ⟨by omega, by rw [hI, hpb, Bool.true_and]⟩, by omega⟩
     ·repeat (first|refine q1 ?_|refine q3 ?_|refine q4 tab rfl rfl ?_|refine q5 ?_|refine q6 ?_|refine q10 ?_|refine q11 ?_|refine q14 ?_|refine q15 ?_)
      refine retQ_ret rfl (by repeat (first|exact List.Sublist.refl _|refine List.Sublist.cons _ ?_)) (out (Mem.le_refl _) ?_)
      rw [hfit, htxt, hI, show a.kids.drop i = [] from List.drop_eq_nil_of_le (by omega)]
      cases x.ks.drop i <;> rfl
   ·rw [ht]
    repeat (first|(refine q4 tab rfl rfl ?_)|(refine qs rfl (ql tab 0 rfl rfl rfl rfl rfl rfl ?_)))
    refine TO.step rfl (OT.call rfl rfl rfl rfl rfl rfl goes53 ((name_ref _ _ h.name (by rw [h2]; omega)).x ?_));
    rintro _ _ _ ⟨rfl, rfl, rfl⟩
    repeat (first|refine q4 tab rfl rfl ?_|refine q5 ?_|refine q6 ?_)
    refine TC.cond (t := !isName h.name) rfl (fun hnm => ?_) (fun hnm => ?_)
    ·repeat (first|refine q1 ?_|refine q3 ?_|refine q4 tab rfl rfl ?_|refine q5 ?_|refine q6 ?_|refine q8 ?_|refine q15 ?_)
     refine retQ_ret rfl (by repeat (first|exact List.Sublist.refl _|refine List.Sublist.cons _ ?_)) (out (Mem.le_refl _) ?_)
     have : textB x a = false := by unfold textB; rw [ht, ← h2, hnm]; rfl
     rw [this, Bool.false_and, Bool.and_false]
    ·have htxt : textB x a = true := by unfold textB; rw [ht, ← h2, hnm]; rfl
     repeat (first|refine q1 ?_|refine q2 ?_|refine q3 ?_|refine q4 tab rfl rfl ?_|refine q5 ?_|refine q6 ?_|refine q13 ?_)
     refine TC.loopK (ι := Nat) [2, 5, 6] rfl (fun i => [(9, .int .i64 (i : Int))]) (fun _ => m1) (fun _ => .cells b 0 (treeC h) :: L) (fun i => i ≤ a.kids.length ∧ allS p x.ks x.rest a.kids = allS p (x.ks.drop i) x.rest (a.kids.drop i)) (fun i => a.kids.length - i) 0 (by repeat (first|exact trivial|refine And.intro rfl ?_)) rfl (by repeat (exact List.Sublist.refl _)) ⟨Nat.zero_le _, rfl⟩ ?_
     rintro i ⟨hi, hI⟩
     repeat (first|(first|refine q1 ?_|refine q3 ?_|refine q4 tab rfl rfl ?_|refine q5 ?_|refine q6 ?_)|(refine qs rfl (ql tab 0 rfl rfl rfl rfl rfl rfl ?_)))
     refine TC.condP rfl (fun hik => ?_) (fun hik => ?_)
     ·have hilt : i < a.kids.length := by omega
      have hxi : a.kids[i]? = some a.kids[i] := by simp [hilt]
      rw [allS_step p x a.kids i hilt] at hI
      have hpi := hp hfit i hilt
      repeat (first|refine q1 ?_|refine q2 ?_|refine q3 ?_|refine q4 tab rfl rfl ?_|refine q5 ?_|refine q6 ?_|refine q13 ?_)
      refine TC.condP rfl (fun hiks => ?_) (fun hiks => ?_)
      ·have hks : i < x.ks.length := by omega
       have hxs : x.ks[i]? = some x.ks[i] := by simp [hks]
       have hw : want x i = x.ks[i] := by rw [want, hxs]; rfl
       rw [hw] at hpi hI
       repeat (first|refine q3 ?_|refine q4 tab rfl rfl ?_)
       refine TO.step rfl (OT.index tab rInt i hs rfl rfl rfl rfl rfl (by first | rfl | omega | (simp only; omega)) rfl hxs ?_)
       rintro b3 i3 v3 hv3 hA3
       obtain rfl : v3 = x.ks[i] := hv3
       (refine TO.step rfl (OT.loadA0 tab hA3 rfl rfl rfl rfl rfl ?_))
       repeat (first|(first|refine q1 ?_|refine q3 ?_|refine q4 tab rfl rfl ?_|refine q5 ?_|refine q6 ?_)|(refine qs rfl (ql tab 0 rfl rfl rfl rfl rfl rfl ?_)))
       refine TO.step rfl (OT.index tab rTree i h41 rfl rfl rfl rfl rfl (by first | rfl | omega | (simp only; omega)) rfl hxi ?_)
       rintro b4 i4 h' hr4 hA4
       (refine TO.step rfl (OT.loadA0 tab hA4 rfl rfl rfl rfl rfl ?_))
       repeat (refine q4 tab rfl rfl ?_)
       refine TO.step rfl (OT.call rfl rfl rfl rfl rfl rfl goes29 ((hpi _ _ h' (rTree_iff.1 hr4)).x ?_))
       rintro _ _ _ ⟨rfl, rfl, rfl⟩
       repeat (first|refine q4 tab rfl rfl ?_|refine q5 ?_|refine q6 ?_)
       refine TC.cond rfl (fun hpb => ?_) (fun hpb => ?_)
       ·repeat (first|refine q1 ?_|refine q3 ?_|refine q4 tab rfl rfl ?_|refine q5 ?_|refine q6 ?_|refine q8 ?_|refine q9 ?_|refine q15 ?_)
        refine retQ_ret rfl (by repeat (first|exact List.Sublist.refl _|refine List.Sublist.cons _ ?_)) (out (Mem.le_refl _) ?_)
        rw [Bool.not_eq_true'] at hpb
        rw [hfit, htxt, hI, hpb]; rfl
       ·repeat (first|refine q3 ?_|refine q4 tab rfl rfl ?_|refine q6 ?_|refine q7 ?_|refine q13 ?_)
        refine TO.step rfl (OT.arith (r' := ((i + 1 : Nat) : Int)) rfl rfl rfl rfl rfl rfl rfl (by omega) ?_)
        repeat (first|refine q4 tab rfl rfl ?_|refine q5 ?_|refine q6 ?_)
        rw [Bool.not_eq_false'] at hpb
        exact ⟨i + 1, (by repeat (first|exact trivial|refine And.intro rfl ?_)), (by repeat (first|exact trivial|refine And.intro rfl ?_)), rfl, rfl, (by repeat (exact List.Sublist.refl _)), ⟨by omega, by rw [hI, hpb, Bool.true_and]⟩, by omega⟩
      ·have hw : want x i = x.rest := by rw [want, List.getElem?_eq_none (by omega)]; rfl
       rw [hw] at hpi hI
       repeat (first|(first|refine q1 ?_|refine q3 ?_|refine q4 tab rfl rfl ?_|refine q6 ?_|refine q13 ?_)|(refine qs rfl (ql tab 0 rfl rfl rfl rfl rfl rfl ?_)))
       refine TO.step rfl (OT.index tab rTree i h41 rfl rfl rfl rfl rfl (by first | rfl | omega | (simp only; omega)) rfl hxi ?_)
       rintro b4 i4 h' hr4 hA4
       (refine TO.step rfl (OT.loadA0 tab hA4 rfl rfl rfl rfl rfl ?_))
       repeat (refine q4 tab rfl rfl ?_)
       refine TO.step rfl (OT.call rfl rfl rfl rfl rfl rfl goes29 ((hpi _ _ h' (rTree_iff.1 hr4)).x ?_))
       rintro _ _ _ ⟨rfl, rfl, rfl⟩
       repeat (first|refine q4 tab rfl rfl ?_|refine q5 ?_|refine q6 ?_)
       refine TC.cond rfl (fun hpb => ?_) (fun hpb => ?_)
       ·repeat (first|refine q1 ?_|refine q3 ?_|refine q4 tab rfl rfl ?_|refine q5 ?_|refine q6 ?_|refine q8 ?_|refine q9 ?_|refine q15 ?_)
        refine retQ_ret rfl (by repeat (first|exact List.Sublist.refl _|refine List.Sublist.cons _ ?_)) (out (Mem.le_refl _) ?_)
        rw [Bool.not_eq_true'] at hpb
        rw [hfit, htxt, hI, hpb]; rfl
       ·repeat (first|refine q3 ?_|refine q4 tab rfl rfl ?_|refine q6 ?_|refine q7 ?_|refine q13 ?_)
        refine TO.step rfl (OT.arith (r' := ((i + 1 : Nat) : Int)) rfl rfl rfl rfl rfl rfl rfl (by omega) ?_)
        repeat (first|refine q4 tab rfl rfl ?_|refine q5 ?_|refine q6 ?_)
        rw [Bool.not_eq_false'] at hpb
        exact ⟨i + 1, (by repeat (first|exact trivial|refine And.intro rfl ?_)), (by repeat (first|exact trivial|refine And.intro rfl ?_)), rfl, rfl, (by repeat (exact List.Sublist.refl _)), ⟨by omega, by rw [hI, hpb, Bool.true_and]⟩, by omega⟩
     ·repeat (first|refine q1 ?_|refine q3 ?_|refine q4 tab rfl rfl ?_|refine q5 ?_|refine q6 ?_|refine q10 ?_|refine q11 ?_|refine q14 ?_|refine q15 ?_)
      refine retQ_ret rfl (by repeat (first|exact List.Sublist.refl _|refine List.Sublist.cons _ ?_)) (out (Mem.le_refl _) ?_)
      rw [hfit, htxt, hI, show a.kids.drop i = [] from List.drop_eq_nil_of_le (by omega)]
      cases x.ks.drop i <;> rfl
   ·rw [ht]
    have htxt : textB x a = true := by unfold textB; rw [ht]; rfl
    repeat (first|refine q1 ?_|refine q2 ?_|refine q3 ?_|refine q4 tab rfl rfl ?_|refine q5 ?_|refine q6 ?_|refine q13 ?_|refine q17 rfl ?_)
    refine TC.loopK (ι := Nat) [2, 5, 6] rfl (fun i => [(9, .int .i64 (i : Int))]) (fun _ => m1) (fun _ => .cells b 0 (treeC h) :: L) (fun i => i ≤ a.kids.length ∧ allS p x.ks x.rest a.kids = allS p (x.ks.drop i) x.rest (a.kids.drop i)) (fun i => a.kids.length - i) 0 (by repeat (first|exact trivial|refine And.intro rfl ?_)) rfl (by repeat (exact List.Sublist.refl _)) ⟨Nat.zero_le _, rfl⟩ ?_
    rintro i ⟨hi, hI⟩
    repeat (first|(first|refine q1 ?_|refine q3 ?_|refine q4 tab rfl rfl ?_|refine q5 ?_|refine q6 ?_)|(refine qs rfl (ql tab 0 rfl rfl rfl rfl rfl rfl ?_)))
    refine TC.condP rfl (fun hik => ?_) (fun hik => ?_)
    ·have hilt : i < a.kids.length := by omega
     have hxi : a.kids[i]? = some a.kids[i] := by simp [hilt]
     rw [allS_step p x a.kids i hilt] at hI
     have hpi := hp hfit i hilt
     repeat (first|refine q1 ?_|refine q2 ?_|refine q3 ?_|refine q4 tab rfl rfl ?_|refine q5 ?_|refine q6 ?_|refine q13 ?_)
     refine TC.condP rfl (fun hiks => ?_) (fun hiks => ?_)
     ·have hks : i < x.ks.length := by omega
      have hxs : x.ks[i]? = some x.ks[i] := by simp [hks]
      have hw : want x i = x.ks[i] := by rw [want, hxs]; rfl
      rw [hw] at hpi hI
      repeat (first|refine q3 ?_|refine q4 tab rfl rfl ?_)
      refine TO.step rfl (OT.index tab rInt i hs rfl rfl rfl rfl rfl (by first | rfl | omega | (simp only; omega)) rfl hxs ?_)
      rintro b3 i3 v3 hv3 hA3
      obtain rfl : v3 = x.ks[i] := hv3
      (refine TO.step rfl (OT.loadA0 tab hA3 rfl rfl rfl rfl rfl ?_))
      repeat (first|(first|refine q1 ?_|refine q3 ?_|refine q4 tab rfl rfl ?_|refine q5 ?_|refine q6 ?_)|(refine qs rfl (ql tab 0 rfl rfl rfl rfl rfl rfl ?_)))
      refine TO.step rfl (OT.index tab rTree i h41 rfl rfl rfl rfl rfl (by first | rfl | omega | (simp only; omega)) rfl hxi ?_)
      rintro b4 i4 h' hr4 hA4
      (refine TO.step rfl (OT.loadA0 tab hA4 rfl rfl rfl rfl rfl ?_))
      repeat (refine q4 tab rfl rfl ?_)
      refine TO.step rfl (OT.call rfl rfl rfl rfl rfl rfl goes29 ((hpi _ _ h' (rTree_iff.1 hr4)).x ?_))
      rintro _ _ _ ⟨rfl, rfl, rfl⟩
      repeat (first|refine q4 tab rfl rfl ?_|refine q5 ?_|refine q6 ?_)
      refine TC.cond rfl (fun hpb => ?_) (fun hpb => ?_)
      ·repeat (first|refine q1 ?_|refine q3 ?_|refine q4 tab rfl rfl ?_|refine q5 ?_|refine q6 ?_|refine q8 ?_|refine q9 ?_|refine q15 ?_)
       refine retQ_ret rfl (by repeat (first|exact List.Sublist.refl _|refine List.Sublist.cons _ ?_)) (out (Mem.le_refl _) ?_)
       rw [Bool.not_eq_true'] at hpb
       rw [hfit, htxt, hI, hpb]; rfl
      ·repeat (first|refine q3 ?_|refine q4 tab rfl rfl ?_|refine q6 ?_|refine q7 ?_|refine q13 ?_)
       refine TO.step rfl (OT.arith (r' := ((i + 1 : Nat) : Int)) rfl rfl rfl rfl rfl rfl rfl (by omega) ?_)
       repeat (first|refine q4 tab rfl rfl ?_|refine q5 ?_|refine q6 ?_)
       rw [Bool.not_eq_false'] at hpb
       exact ⟨i + 1, (by repeat (first|exact trivial|refine And.intro rfl ?_)), (by repeat (first|exact trivial|refine And.intro rfl ?_)), rfl, rfl, (by repeat (exact List.Sublist.refl _)), ⟨by omega, by rw [hI, hpb, Bool.true_and]⟩, by omega⟩
     ·have hw : want x i = x.rest := by rw [want, List.getElem?_eq_none (by omega)]; rfl
      rw [hw] at hpi hI
      repeat (first|(first|refine q1 ?_|refine q3 ?_|refine q4 tab rfl rfl ?_|refine q6 ?_|refine q13 ?_)|(refine qs rfl (ql tab 0 rfl rfl rfl rfl rfl rfl ?_)))
      refine TO.step rfl (OT.index tab rTree i h41 rfl rfl rfl rfl rfl (by first | rfl | omega | (simp only; omega)) rfl hxi ?_)
      rintro b4 i4 h' hr4 hA4
      (refine TO.step rfl (OT.loadA0 tab hA4 rfl rfl rfl rfl rfl ?_))
      repeat (refine q4 tab rfl rfl ?_)
      refine TO.step rfl (OT.call rfl rfl rfl rfl rfl rfl goes29 ((hpi _ _ h' (rTree_iff.1 hr4)).x ?_))
      rintro _ _ _ ⟨rfl, rfl, rfl⟩
      repeat (first|refine q4 tab rfl rfl ?_|refine q5 ?_|refine q6 ?_)
      refine TC.cond rfl (fun hpb => ?_) (fun hpb => ?_)
      ·repeat (first|refine q1 ?_|refine q3 ?_|refine q4 tab rfl rfl ?_|refine q5 ?_|refine q6 ?_|refine q8 ?_|refine q9 ?_|refine q15 ?_)
       refine retQ_ret rfl (by repeat (first|exact List.Sublist.refl _|refine List.Sublist.cons _ ?_)) (out (Mem.le_refl _) ?_)
       rw [Bool.not_eq_true'] at hpb
       rw [hfit, htxt, hI, hpb]; rfl
      ·repeat (first|refine q3 ?_|refine q4 tab rfl rfl ?_|refine q6 ?_|refine q7 ?_|refine q13 ?_)
       refine TO.step rfl (OT.arith (r' := ((i + 1 : Nat) : Int)) rfl rfl rfl rfl rfl rfl rfl (by omega) ?_)
       repeat (first|refine q4 tab rfl rfl ?_|refine q5 ?_|refine q6 ?_)
       rw [Bool.not_eq_false'] at hpb
       exact ⟨i + 1, (by repeat (first|exact trivial|refine And.intro rfl ?_)), (by repeat (first|exact trivial|refine And.intro rfl ?_)), rfl, rfl, (by repeat (exact List.Sublist.refl _)), ⟨by omega, by rw [hI, hpb, Bool.true_and]⟩, by omega⟩
    ·repeat (first|refine q1 ?_|refine q3 ?_|refine q4 tab rfl rfl ?_|refine q5 ?_|refine q6 ?_|refine q10 ?_|refine q11 ?_|refine q14 ?_|refine q15 ?_)
     refine retQ_ret rfl (by repeat (first|exact List.Sublist.refl _|refine List.Sublist.cons _ ?_)) (out (Mem.le_refl _) ?_)
     rw [hfit, htxt, hI, show a.kids.drop i = [] from List.drop_eq_nil_of_le (by omega)]
     cases x.ks.drop i <;> rfl
end Go.Sep


/- PrShP -/
set_option linter.unusedVariables false
set_option linter.unusedSimpArgs false
namespace Go.Sep
def rep (c : Int) (a : Tree) : List Int := List.replicate (min a.num.toNat 20001) c
def shStmt (lv : Str → Nat) (a : Tree) : Shape :=
 if a.kind = 20 then ⟨[], 6, 0, true⟩
 else if a.kind = 21 then (if a.kids.length = 1 then ⟨[2], 0, 1, true⟩ else ⟨[2, 7], 0, 1, true⟩)
 else if a.kind = 22 then ⟨rep 11 a, 7, 0, decide (1 ≤ a.num) && decide (a.num < (a.kids.length : Int))⟩
 else if a.kind = 23 then ⟨rep 10 a, 7, 0, decide (1 ≤ a.num) && decide (a.num < (a.kids.length : Int))⟩
 else if a.kind = 24 then ⟨[12], 0, 0, true⟩
 else if a.kind = 25 then (if a.kids.length = 2 then ⟨[7, 5], 0, 0, true⟩ else ⟨[7, 5, 13], 0, 0, true⟩)
 else if a.kind = 26 then (if a.kids.length = 1 then ⟨[5], 0, 0, true⟩ else ⟨[7, 5], 0, 0, true⟩)
 else if a.kind = 27 then ⟨[], 7, 0, true⟩
 else if a.kind = 28 ∨ a.kind = 29 then ⟨[], 0, 0, true⟩
 else ⟨[], 0, 0, false⟩
def shExpr (lv : Str → Nat) (a : Tree) : Shape :=
 if a.kind = 40 then ⟨[], 0, 0, decide (0 ≤ a.num)⟩
 else if a.kind = 41 then ⟨[], 0, 2, decide ((a.name.length : Int) ≤ 1024)⟩
 else if a.kind = 42 then ⟨[], 0, 0, decide (a.num = 0) || decide (a.num = 1)⟩
 else if a.kind = 43 then ⟨[], 0, 0, true⟩
 else if a.kind = 44 then ⟨[], 0, 1, true⟩
 else if a.kind = 45 then ⟨[], 7, 1, true⟩
 else if a.kind = 46 then ⟨[2], 7, 0, true⟩
 else if a.kind = 47 then ⟨[3, 5], 0, 0, true⟩
 else if a.kind = 48 then ⟨[7], 0, 1, true⟩
 else if a.kind = 49 then ⟨[7, 7], 0, 0, true⟩
 else if a.kind = 50 then (if a.num = 0 then ⟨[7], 0, 0, true⟩ else if a.num = 1 ∨ a.num = 2 then ⟨[7, 7], 0, 0, true⟩ else if a.num = 3 then ⟨[7, 7, 7], 0, 0, true⟩ else ⟨[], 0, 0, false⟩)
 else if a.kind = 51 then ⟨[7], 7, 0, true⟩
 else if a.kind = 52 then ⟨[7], 0, 2, decide (a.name = [45]) || (decide (a.name = [33]) || (decide (a.name = [38]) || decide (a.name = [42])))⟩
 else if a.kind = 53 then ⟨[7, 7], 0, 2, decide (0 < (lv a.name : Int))⟩
 else ⟨[], 0, 0, false⟩
def kd0 (a : Tree) : Tree := a.kids.headD (.mk 0 [] 0 [])
def shDecl (a : Tree) : Shape :=
 if a.kind = 2 then ⟨[], 8, 1, true⟩ else if a.kind = 3 then ⟨[], 9, 1, true⟩
 else if a.kind = 4 then ⟨[3, 5], 0, 1, true⟩ else if a.kind = 5 then ⟨[14, 3, 5], 0, 1, true⟩ else ⟨[], 0, 0, false⟩
def shTyp (a : Tree) : Shape :=
 if a.kind = 10 then ⟨[], 0, 1, true⟩ else if a.kind = 11 ∨ a.kind = 12 then ⟨[2], 0, 0, true⟩
 else if a.kind = 13 then ⟨[], 2, 0, decide (0 ≤ a.num) && decide (a.num ≤ (a.kids.length : Int))⟩ else ⟨[], 0, 0, false⟩
def shSig (a : Tree) : Shape := ⟨rep 4 a, 2, 0, decide (a.kind = 7) && (decide (0 ≤ a.num) && decide (a.num ≤ (a.kids.length : Int)))⟩
def Shape.but (x : Shape) (c : Bool) : Shape := ⟨x.ks, x.rest, x.text, c && x.ok⟩
def shapeR (lv : Str → Nat) (k : Int) (a : Tree) : Shape :=
 if k = 10 then (shExpr lv a).but (Ps.isPl a)
 else if k = 11 then ⟨[], 0, 1, decide (a.kind = 44)⟩
 else if k = 12 then (shExpr lv a).but (decide (a.kind = 51))
 else if k = 13 then (if a.kind = 25 then shStmt lv a else ⟨[], 6, 0, decide (a.kind = 20)⟩)
 else if k = 14 then ⟨[2], 0, 1, ((decide (a.kids.length = 1) && decide ((kd0 a).kind = 11)) && (decide ((kd0 a).kids.length = 1) && decide ((kd0 (kd0 a)).kind = 10))) && decide (a.kind = 8)⟩
 else if k = 8 then ⟨[2], 0, 1, decide (a.kind = 6)⟩
 else if k = 9 then ⟨[3], 0, 1, decide (a.kind = 6)⟩
 else if k = 4 then ⟨[2], 0, 1, decide (a.kind = 8)⟩
 else if k = 5 then ⟨[], 6, 0, decide (a.kind = 20)⟩
 else if k = 3 then shSig a
 else if k = 1 then shDecl a
 else if k = 2 then shTyp a
 else if k = 6 then shStmt lv a
 else if k = 7 then shExpr lv a
 else ⟨[], 0, 0, false⟩
def isD (lv : Str → Nat) : Nat → Int → Tree → Bool
 | 0, _, _ => false
 | n + 1, k, a => fitB (shapeR lv k a) a && (textB (shapeR lv k a) a && allS (isD lv n) (shapeR lv k a).ks (shapeR lv k a).rest a.kids)
end Go.Sep


/- PrShS -/
set_option linter.unusedVariables false
set_option linter.unusedSimpArgs false
namespace Go.Sep
open Go.Proofs
attribute [local irreducible] TC TO OT TCallX TCall DO DOt thenQ blockQ retQ At
set_option maxHeartbeats 4000000 in
theorem statement_ref (lv : Str → Nat) (a : Tree) (m : Mem) (L : List Item) (h : HTree) (hr : TreeRep m h a) :
  TCall Tryz.prog 87 ⟨[treeV h]⟩ m L (ShapeIs m L (shStmt lv a)) := by
 have hr' := hr
 obtain ⟨h1, h2, h3, h4⟩ := hr
 have hl := h4.len
 have hsm := h4.small rfl
 unfold shStmt TCall
 refine TCallX.enter Tryz.func87 rfl 68 rfl ?_
 by_cases hk20 : a.kind = 20
 ·rw [if_pos hk20]
  obtain ⟨k, n, u, s⟩ := h
  obtain rfl : k = 20 := h1.trans hk20
  simp only at h2 h3 h4 hl
  subst h2
  subst h3
  repeat (first|refine q1 ?_|refine q3 ?_)
  refine TO.step rfl (OT.box rfl rfl rfl rfl rfl (fun b => ?_))
  repeat (first|(first|refine q1 ?_|refine q2 ?_|refine q3 ?_|refine q4 tab rfl rfl ?_|refine q5 ?_|refine q6 ?_|refine q8 ?_|refine q9 ?_|refine q15 ?_|refine q16 rfl ?_)|(refine qs rfl (ql tab 0 rfl rfl rfl rfl rfl rfl ?_)))
  exact retQ_ret rfl (by repeat (first|exact List.Sublist.refl _|refine List.Sublist.cons _ ?_)) ⟨Mem.le_refl _, rfl, ⟨none, 0, 0⟩, rfl, SlRep.nil _ _⟩
 rw [if_neg hk20]
 by_cases hk21 : a.kind = 21
 ·rw [if_pos hk21]
  obtain ⟨k, n, u, s⟩ := h
  obtain rfl : k = 21 := h1.trans hk21
  simp only at h2 h3 h4 hl
  subst h2
  subst h3
  repeat (first|refine q1 ?_|refine q3 ?_)
  refine TO.step rfl (OT.box rfl rfl rfl rfl rfl (fun b => ?_))
  repeat (first|(first|refine q1 ?_|refine q2 ?_|refine q3 ?_|refine q4 tab rfl rfl ?_|refine q5 ?_|refine q6 ?_|refine q16 rfl ?_|refine q17 rfl ?_)|(refine qs rfl (ql tab 0 rfl rfl rfl rfl rfl rfl ?_)))
  refine TC.condP rfl (fun h5 => ?_) (fun h5 => ?_)
  ·simp only at h5
   rw [if_pos (show a.kids.length = 1 by omega)]
   repeat ((first|refine q1 ?_|refine q3 ?_))
   refine TO.step rfl (OT.litR tab rInt (hs := [2]) (l := [2]) ⟨rfl, trivial⟩ rfl rfl rfl rfl rfl (by decide) (fun s1 m1 hm1 hs1 _ _ => ?_))
   repeat (first|refine q4 tab rfl rfl ?_|refine q5 ?_|refine q6 ?_|refine q8 ?_|refine q9 ?_|refine q15 ?_)
   exact retQ_ret rfl (by repeat (first|exact List.Sublist.refl _|refine List.Sublist.cons _ ?_)) ⟨hm1, rfl, s1, rfl, hs1⟩
  ·simp only at h5
   rw [if_neg (show ¬ a.kids.length = 1 by omega)]
   repeat ((first|refine q1 ?_|refine q3 ?_|refine q6 ?_|refine q13 ?_))
   refine TO.step rfl (OT.litR tab rInt (hs := [2, 7]) (l := [2, 7]) ⟨rfl, rfl, trivial⟩ rfl rfl rfl rfl rfl (by decide) (fun s1 m1 hm1 hs1 _ _ => ?_))
   repeat (first|refine q4 tab rfl rfl ?_|refine q5 ?_|refine q6 ?_|refine q8 ?_|refine q9 ?_|refine q15 ?_)
   exact retQ_ret rfl (by repeat (first|exact List.Sublist.refl _|refine List.Sublist.cons _ ?_)) ⟨hm1, rfl, s1, rfl, hs1⟩
 rw [if_neg hk21]
 by_cases hk22 : a.kind = 22
 ·rw [if_pos hk22]
  obtain ⟨k, n, u, s⟩ := h
  obtain rfl : k = 22 := h1.trans hk22
  simp only at h2 h3 h4 hl
  subst h2
  subst h3
  repeat (first|refine q1 ?_|refine q3 ?_)
  refine TO.step rfl (OT.box rfl rfl rfl rfl rfl (fun b => ?_))
  repeat (first|(first|refine q1 ?_|refine q2 ?_|refine q3 ?_|refine q4 tab rfl rfl ?_|refine q5 ?_|refine q6 ?_|refine q16 rfl ?_|refine q17 rfl ?_)|(refine qs rfl (ql tab 0 rfl rfl rfl rfl rfl rfl ?_)))
  refine TC.draw0 [] mixed 16 rfl ?_
  refine DO.pure tab (by repeat (first|exact Calm.ret|refine Calm.then ?_|refine Calm.block ?_)) (by kernel_rfl) [0] (by kernel_rfl) rfl ?_
  (refine DO.loadL tab 1 0 (by repeat (first|exact Calm.ret|refine Calm.then ?_|refine Calm.block ?_)) (by kernel_rfl) (by kernel_rfl) rfl rfl rfl rfl rfl rfl rfl rfl ?_)
  refine DO.pure tab (by repeat (first|exact Calm.ret|refine Calm.then ?_|refine Calm.block ?_)) (by kernel_rfl) [3] (by kernel_rfl) rfl ?_
  (refine DO.loadL tab 4 0 (by repeat (first|exact Calm.ret|refine Calm.then ?_|refine Calm.block ?_)) (by kernel_rfl) (by kernel_rfl) rfl rfl rfl rfl rfl rfl rfl rfl ?_)
  refine DO.pure tab (by repeat (first|exact Calm.ret|refine Calm.then ?_|refine Calm.block ?_)) (by kernel_rfl) [5] (by kernel_rfl) rfl ?_
  refine DO.run 2 rfl rfl (by kernel_rfl) rfl (OT.call rfl rfl rfl rfl rfl rfl goes86 ((repeat_ref _ _ 11 a.num).x ?_))
  rintro _ m1 _ ⟨hm1, rfl, s1, rfl, hs1⟩; refine ⟨hm1, _, List.Perm.refl _, ?_⟩
  refine DO.pure tab (by repeat (first|exact Calm.ret|refine Calm.then ?_|refine Calm.block ?_)) (by kernel_rfl) [6] (by kernel_rfl) rfl ?_
  (refine DO.splitP (d := 28) rfl (fun hg6 => ?_) (fun hg6 => ?_))
  refine DO.pure tab (by repeat (first|exact Calm.ret|refine Calm.then ?_|refine Calm.block ?_)) (by kernel_rfl) [7] (by kernel_rfl) rfl ?_
  (refine DO.loadL tab 8 0 (by repeat (first|exact Calm.ret|refine Calm.then ?_|refine Calm.block ?_)) (by kernel_rfl) (by kernel_rfl) rfl rfl rfl rfl rfl rfl rfl rfl ?_)
  refine DO.pure tab (by repeat (first|exact Calm.ret|refine Calm.then ?_|refine Calm.block ?_)) (by kernel_rfl) [9, 10, 11, 12, 13, 14, 15] (by kernel_rfl) rfl ?_
  (refine DO.nil0 (by kernel_rfl) ?_)
  rotate_left 1
  refine DO.pure tab (by repeat (first|exact Calm.ret|refine Calm.then ?_|refine Calm.block ?_)) (by kernel_rfl) [7, 8, 9, 10, 11, 12, 13, 14, 15] (by kernel_rfl) rfl ?_
  (refine DO.nil0 (by kernel_rfl) ?_)
  rotate_left 1
  ·repeat (first|refine q6 ?_|refine q8 ?_|refine q9 ?_|refine q15 ?_)
   refine retQ_ret rfl (by repeat (first|exact List.Sublist.refl _|refine List.Sublist.cons _ ?_)) ⟨hm1, rfl, s1, ?_, hs1⟩
   rw [← hl, decide_eq_true hg6]; rfl
  ·repeat (first|refine q6 ?_|refine q8 ?_|refine q9 ?_|refine q15 ?_)
   refine retQ_ret rfl (by repeat (first|exact List.Sublist.refl _|refine List.Sublist.cons _ ?_)) ⟨hm1, rfl, s1, ?_, hs1⟩
   rw [← hl, decide_eq_false hg6]; rfl
 rw [if_neg hk22]
 by_cases hk23 : a.kind = 23
 ·rw [if_pos hk23]
  obtain ⟨k, n, u, s⟩ := h
  obtain rfl : k = 23 := h1.trans hk23
  simp only at h2 h3 h4 hl
  subst h2
  subst h3
  repeat (first|refine q1 ?_|refine q3 ?_)
  refine TO.step rfl (OT.box rfl rfl rfl rfl rfl (fun b => ?_))
  repeat (first|(first|refine q1 ?_|refine q2 ?_|refine q3 ?_|refine q4 tab rfl rfl ?_|refine q5 ?_|refine q6 ?_|refine q16 rfl ?_|refine q17 rfl ?_)|(refine qs rfl (ql tab 0 rfl rfl rfl rfl rfl rfl ?_)))
  refine TC.draw0 [] mixed 16 rfl ?_
  refine DO.pure tab (by repeat (first|exact Calm.ret|refine Calm.then ?_|refine Calm.block ?_)) (by kernel_rfl) [0] (by kernel_rfl) rfl ?_
  (refine DO.loadL tab 1 0 (by repeat (first|exact Calm.ret|refine Calm.then ?_|refine Calm.block ?_)) (by kernel_rfl) (by kernel_rfl) rfl rfl rfl rfl rfl rfl rfl rfl ?_)
  refine DO.pure tab (by repeat (first|exact Calm.ret|refine Calm.then ?_|refine Calm.block ?_)) (by kernel_rfl) [3] (by kernel_rfl) rfl ?_
  (refine DO.loadL tab 4 0 (by repeat (first|exact Calm.ret|refine Calm.then ?_|refine Calm.block ?_)) (by kernel_rfl) (by kernel_rfl) rfl rfl rfl rfl rfl rfl rfl rfl ?_)
  refine DO.pure tab (by repeat (first|exact Calm.ret|refine Calm.then ?_|refine Calm.block ?_)) (by kernel_rfl) [5] (by kernel_rfl) rfl ?_
  refine DO.run 2 rfl rfl (by kernel_rfl) rfl (OT.call rfl rfl rfl rfl rfl rfl goes86 ((repeat_ref _ _ 10 a.num).x ?_))
  rintro _ m1 _ ⟨hm1, rfl, s1, rfl, hs1⟩; refine ⟨hm1, _, List.Perm.refl _, ?_⟩
  refine DO.pure tab (by repeat (first|exact Calm.ret|refine Calm.then ?_|refine Calm.block ?_)) (by kernel_rfl) [6] (by kernel_rfl) rfl ?_
  (refine DO.splitP (d := 42) rfl (fun hg6 => ?_) (fun hg6 => ?_))
  refine DO.pure tab (by repeat (first|exact Calm.ret|refine Calm.then ?_|refine Calm.block ?_)) (by kernel_rfl) [7] (by kernel_rfl) rfl ?_
  (refine DO.loadL tab 8 0 (by repeat (first|exact Calm.ret|refine Calm.then ?_|refine Calm.block ?_)) (by kernel_rfl) (by kernel_rfl) rfl rfl rfl rfl rfl rfl rfl rfl ?_)
  refine DO.pure tab (by repeat (first|exact Calm.ret|refine Calm.then ?_|refine Calm.block ?_)) (by kernel_rfl) [9, 10, 11, 12, 13, 14, 15] (by kernel_rfl) rfl ?_
  (refine DO.nil0 (by kernel_rfl) ?_)
  rotate_left 1
  refine DO.pure tab (by repeat (first|exact Calm.ret|refine Calm.then ?_|refine Calm.block ?_)) (by kernel_rfl) [7, 8, 9, 10, 11, 12, 13, 14, 15] (by kernel_rfl) rfl ?_
  (refine DO.nil0 (by kernel_rfl) ?_)
  rotate_left 1
  ·repeat (first|refine q6 ?_|refine q8 ?_|refine q9 ?_|refine q15 ?_)
   refine retQ_ret rfl (by repeat (first|exact List.Sublist.refl _|refine List.Sublist.cons _ ?_)) ⟨hm1, rfl, s1, ?_, hs1⟩
   rw [← hl, decide_eq_true hg6]; rfl
  ·repeat (first|refine q6 ?_|refine q8 ?_|refine q9 ?_|refine q15 ?_)
   refine retQ_ret rfl (by repeat (first|exact List.Sublist.refl _|refine List.Sublist.cons _ ?_)) ⟨hm1, rfl, s1, ?_, hs1⟩
   rw [← hl, decide_eq_false hg6]; rfl
 rw [if_neg hk23]
 by_cases hk24 : a.kind = 24
 ·rw [if_pos hk24]
  obtain ⟨k, n, u, s⟩ := h
  obtain rfl : k = 24 := h1.trans hk24
  simp only at h2 h3 h4 hl
  subst h2
  subst h3
  repeat (first|refine q1 ?_|refine q3 ?_)
  refine TO.step rfl (OT.box rfl rfl rfl rfl rfl (fun b => ?_))
  repeat (first|(first|refine q1 ?_|refine q2 ?_|refine q3 ?_|refine q4 tab rfl rfl ?_|refine q5 ?_|refine q6 ?_|refine q16 rfl ?_|refine q17 rfl ?_)|(refine qs rfl (ql tab 0 rfl rfl rfl rfl rfl rfl ?_)))
  refine TO.step rfl (OT.litR tab rInt (hs := [12]) (l := [12]) ⟨rfl, trivial⟩ rfl rfl rfl rfl rfl (by decide) (fun s1 m1 hm1 hs1 _ _ => ?_))
  repeat (first|refine q4 tab rfl rfl ?_|refine q5 ?_|refine q6 ?_|refine q8 ?_|refine q9 ?_|refine q15 ?_)
  exact retQ_ret rfl (by repeat (first|exact List.Sublist.refl _|refine List.Sublist.cons _ ?_)) ⟨hm1, rfl, s1, rfl, hs1⟩
 rw [if_neg hk24]
 by_cases hk25 : a.kind = 25
 ·rw [if_pos hk25]
  obtain ⟨k, n, u, s⟩ := h
  obtain rfl : k = 25 := h1.trans hk25
  simp only at h2 h3 h4 hl
  subst h2
  subst h3
  repeat (first|refine q1 ?_|refine q3 ?_)
  refine TO.step rfl (OT.box rfl rfl rfl rfl rfl (fun b => ?_))
  repeat (first|(first|refine q1 ?_|refine q2 ?_|refine q3 ?_|refine q4 tab rfl rfl ?_|refine q5 ?_|refine q6 ?_|refine q16 rfl ?_|refine q17 rfl ?_)|(refine qs rfl (ql tab 0 rfl rfl rfl rfl rfl rfl ?_)))
  refine TC.condP rfl (fun h5 => ?_) (fun h5 => ?_)
  ·simp only at h5
   rw [if_pos (show a.kids.length = 2 by omega)]
   repeat ((first|refine q1 ?_|refine q3 ?_))
   refine TO.step rfl (OT.litR tab rInt (hs := [7, 5]) (l := [7, 5]) ⟨rfl, rfl, trivial⟩ rfl rfl rfl rfl rfl (by decide) (fun s1 m1 hm1 hs1 _ _ => ?_))
   repeat (first|refine q4 tab rfl rfl ?_|refine q5 ?_|refine q6 ?_|refine q8 ?_|refine q9 ?_|refine q15 ?_)
   exact retQ_ret rfl (by repeat (first|exact List.Sublist.refl _|refine List.Sublist.cons _ ?_)) ⟨hm1, rfl, s1, rfl, hs1⟩
  ·simp only at h5
   rw [if_neg (show ¬ a.kids.length = 2 by omega)]
   repeat ((first|refine q1 ?_|refine q3 ?_|refine q6 ?_|refine q13 ?_))
   refine TO.step rfl (OT.litR tab rInt (hs := [7, 5, 13]) (l := [7, 5, 13]) ⟨rfl, rfl, rfl, trivial⟩ rfl rfl rfl rfl rfl (by decide) (fun s1 m1 hm1 hs1 _ _ => ?_))
   repeat (first|refine q4 tab rfl rfl ?_|refine q5 ?_|refine q6 ?_|refine q8 ?_|refine q9 ?_|refine q15 ?_)
   exact retQ_ret rfl (by repeat (first|exact List.Sublist.refl _|refine List.Sublist.cons _ ?_)) ⟨hm1, rfl, s1, rfl, hs1⟩
 rw [if_neg hk25]
 by_cases hk26 : a.kind = 26
 ·rw [if_pos hk26]
  obtain ⟨k, n, u, s⟩ := h
  obtain rfl : k = 26 := h1.trans hk26
  simp only at h2 h3 h4 hl
  subst h2
  subst h3
  repeat (first|refine q1 ?_|refine q3 ?_)
  refine TO.step rfl (OT.box rfl rfl rfl rfl rfl (fun b => ?_))
  repeat (first|(first|refine q1 ?_|refine q2 ?_|refine q3 ?_|refine q4 tab rfl rfl ?_|refine q5 ?_|refine q6 ?_|refine q16 rfl ?_|refine q17 rfl ?_)|(refine qs rfl (ql tab 0 rfl rfl rfl rfl rfl rfl ?_)))
  refine TC.condP rfl (fun h5 => ?_) (fun h5 => ?_)
  ·simp only at h5
   rw [if_pos (show a.kids.length = 1 by omega)]
   repeat ((first|refine q1 ?_|refine q3 ?_))
   refine TO.step rfl (OT.litR tab rInt (hs := [5]) (l := [5]) ⟨rfl, trivial⟩ rfl rfl rfl rfl rfl (by decide) (fun s1 m1 hm1 hs1 _ _ => ?_))
   repeat (first|refine q4 tab rfl rfl ?_|refine q5 ?_|refine q6 ?_|refine q8 ?_|refine q9 ?_|refine q15 ?_)
   exact retQ_ret rfl (by repeat (first|exact List.Sublist.refl _|refine List.Sublist.cons _ ?_)) ⟨hm1, rfl, s1, rfl, hs1⟩
  ·simp only at h5
   rw [if_neg (show ¬ a.kids.length = 1 by omega)]
   repeat ((first|refine q1 ?_|refine q3 ?_|refine q6 ?_|refine q13 ?_))
   refine TO.step rfl (OT.litR tab rInt (hs := [7, 5]) (l := [7, 5]) ⟨rfl, rfl, trivial⟩ rfl rfl rfl rfl rfl (by decide) (fun s1 m1 hm1 hs1 _ _ => ?_))
   repeat (first|refine q4 tab rfl rfl ?_|refine q5 ?_|refine q6 ?_|refine q8 ?_|refine q9 ?_|refine q15 ?_)
   exact retQ_ret rfl (by repeat (first|exact List.Sublist.refl _|refine List.Sublist.cons _ ?_)) ⟨hm1, rfl, s1, rfl, hs1⟩
 rw [if_neg hk26]
 by_cases hk27 : a.kind = 27
 ·rw [if_pos hk27]
  obtain ⟨k, n, u, s⟩ := h
  obtain rfl : k = 27 := h1.trans hk27
  simp only at h2 h3 h4 hl
  subst h2
  subst h3
  repeat (first|refine q1 ?_|refine q3 ?_)
  refine TO.step rfl (OT.box rfl rfl rfl rfl rfl (fun b => ?_))
  repeat (first|(first|refine q1 ?_|refine q2 ?_|refine q3 ?_|refine q4 tab rfl rfl ?_|refine q5 ?_|refine q6 ?_|refine q8 ?_|refine q9 ?_|refine q15 ?_|refine q16 rfl ?_|refine q17 rfl ?_)|(refine qs rfl (ql tab 0 rfl rfl rfl rfl rfl rfl ?_)))
  exact retQ_ret rfl (by repeat (first|exact List.Sublist.refl _|refine List.Sublist.cons _ ?_)) ⟨Mem.le_refl _, rfl, ⟨none, 0, 0⟩, rfl, SlRep.nil _ _⟩
 rw [if_neg hk27]
 by_cases hk28 : a.kind = 28 ∨ a.kind = 29
 ·rw [if_pos hk28]
  obtain ⟨k, n, u, s⟩ := h
  rcases hk28 with hk | hk
  all_goals
   obtain rfl := h1.trans hk
   repeat (first|refine q1 ?_|refine q3 ?_)
   refine TO.step rfl (OT.box rfl rfl rfl rfl rfl (fun b => ?_))
   repeat (first|(first|refine q1 ?_|refine q2 ?_|refine q3 ?_|refine q4 tab rfl rfl ?_|refine q5 ?_|refine q6 ?_|refine q8 ?_|refine q9 ?_|refine q13 ?_|refine q15 ?_|refine q16 rfl ?_|refine q17 rfl ?_)|(refine qs rfl (ql tab 0 rfl rfl rfl rfl rfl rfl ?_)))
   exact retQ_ret rfl (by repeat (first|exact List.Sublist.refl _|refine List.Sublist.cons _ ?_)) ⟨Mem.le_refl _, rfl, ⟨none, 0, 0⟩, rfl, SlRep.nil _ _⟩
 rw [if_neg hk28]
 repeat (first|refine q1 ?_|refine q3 ?_)
 refine TO.step rfl (OT.box rfl rfl rfl rfl rfl (fun b => ?_))
 repeat (first|(first|refine q1 ?_|refine q2 ?_|refine q3 ?_|refine q4 tab rfl rfl ?_|refine q5 ?_|refine q6 ?_)|(refine qs rfl (ql tab 0 rfl rfl rfl rfl rfl rfl ?_)))
 refine TC.condP rfl (fun h5 => ?_) (fun h5 => ?_)
 ·omega
 repeat (first|refine q1 ?_|refine q3 ?_|refine q4 tab rfl rfl ?_|refine q5 ?_|refine q6 ?_)
 refine TC.condP rfl (fun h5 => ?_) (fun h5 => ?_)
 ·omega
 repeat (first|refine q1 ?_|refine q3 ?_|refine q4 tab rfl rfl ?_|refine q5 ?_|refine q6 ?_)
 refine TC.condP rfl (fun h5 => ?_) (fun h5 => ?_)
 ·omega
 repeat (first|refine q1 ?_|refine q3 ?_|refine q4 tab rfl rfl ?_|refine q5 ?_|refine q6 ?_)
 refine TC.condP rfl (fun h5 => ?_) (fun h5 => ?_)
 ·omega
 repeat (first|refine q1 ?_|refine q3 ?_|refine q4 tab rfl rfl ?_|refine q5 ?_|refine q6 ?_)
 refine TC.condP rfl (fun h5 => ?_) (fun h5 => ?_)
 ·omega
 repeat (first|refine q1 ?_|refine q3 ?_|refine q4 tab rfl rfl ?_|refine q5 ?_|refine q6 ?_)
 refine TC.condP rfl (fun h5 => ?_) (fun h5 => ?_)
 ·omega
 repeat (first|refine q1 ?_|refine q3 ?_|refine q4 tab rfl rfl ?_|refine q5 ?_|refine q6 ?_)
 refine TC.condP rfl (fun h5 => ?_) (fun h5 => ?_)
 ·omega
 repeat (first|refine q1 ?_|refine q3 ?_|refine q4 tab rfl rfl ?_|refine q5 ?_|refine q6 ?_)
 refine TC.condP rfl (fun h5 => ?_) (fun h5 => ?_)
 ·omega
 repeat (first|refine q1 ?_|refine q3 ?_|refine q4 tab rfl rfl ?_|refine q5 ?_|refine q6 ?_)
 refine TC.condP rfl (fun h5 => ?_) (fun h5 => ?_)
 ·omega
 repeat (first|refine q3 ?_|refine q4 tab rfl rfl ?_|refine q5 ?_|refine q6 ?_)
 refine TC.condP rfl (fun h5 => ?_) (fun h5 => ?_)
 ·omega
 repeat (first|refine q1 ?_|refine q3 ?_|refine q4 tab rfl rfl ?_|refine q5 ?_|refine q6 ?_|refine q7 ?_|refine q13 ?_|refine q15 ?_)
 exact retQ_ret rfl (by repeat (first|exact List.Sublist.refl _|refine List.Sublist.cons _ ?_)) ⟨Mem.le_refl _, rfl, ⟨none, 0, 0⟩, rfl, SlRep.nil _ _⟩
end Go.Sep


/- PrShE -/
set_option linter.unusedVariables false
set_option linter.unusedSimpArgs false
namespace Go.Sep
open Go.Proofs
attribute [local irreducible] TC TO OT TCallX TCall DO DOt thenQ blockQ retQ At
set_option maxHeartbeats 4000000 in
theorem expression_ref (lv : Str → Nat) (hlv : ∀ (m : Mem) (L : List Item) (s : Str), TCall Tryz.prog 16 ⟨[strV s]⟩ m L (Ret (.int .i64 (lv s : Int)) m L)) (a : Tree) (m : Mem) (L : List Item) (h : HTree) (hr : TreeRep m h a) :
  TCall Tryz.prog 88 ⟨[treeV h]⟩ m L (ShapeIs m L (shExpr lv a)) := by
 have hr' := hr
 obtain ⟨h1, h2, h3, h4⟩ := hr
 have hl := h4.len
 have hsm := h4.small rfl
 unfold shExpr TCall
 refine TCallX.enter Tryz.func88 rfl 92 rfl ?_
 by_cases hk40 : a.kind = 40
 ·rw [if_pos hk40]
  obtain ⟨k, n, u, s⟩ := h
  obtain rfl : k = 40 := h1.trans hk40
  simp only at h2 h3 h4 hl
  subst h2
  subst h3
  repeat (first|refine q1 ?_|refine q3 ?_)
  refine TO.step rfl (OT.box rfl rfl rfl rfl rfl (fun b => ?_))
  repeat (first|(first|refine q1 ?_|refine q2 ?_|refine q3 ?_|refine q4 tab rfl rfl ?_|refine q5 ?_|refine q6 ?_|refine q16 rfl ?_)|(refine qs rfl (ql tab 0 rfl rfl rfl rfl rfl rfl ?_)))
  refine TC.draw0 [] mixed 7 rfl ?_
  refine DO.pure tab (by repeat (first|exact Calm.ret|refine Calm.then ?_|refine Calm.block ?_)) (by kernel_rfl) [0] (by kernel_rfl) rfl ?_
  (refine DO.loadL tab 1 0 (by repeat (first|exact Calm.ret|refine Calm.then ?_|refine Calm.block ?_)) (by kernel_rfl) (by kernel_rfl) rfl rfl rfl rfl rfl rfl rfl rfl ?_)
  refine DO.pure tab (by repeat (first|exact Calm.ret|refine Calm.then ?_|refine Calm.block ?_)) (by kernel_rfl) [2, 3, 4, 5, 6] (by kernel_rfl) rfl ?_
  (refine DO.nil0 (by kernel_rfl) ?_)
  rotate_left 1
  ·repeat (first|refine q6 ?_|refine q8 ?_|refine q9 ?_|refine q15 ?_)
   exact retQ_ret rfl (by repeat (first|exact List.Sublist.refl _|refine List.Sublist.cons _ ?_)) ⟨Mem.le_refl _, rfl, ⟨none, 0, 0⟩, rfl, SlRep.nil _ _⟩
 rw [if_neg hk40]
 by_cases hk41 : a.kind = 41
 ·rw [if_pos hk41]
  obtain ⟨k, n, u, s⟩ := h
  obtain rfl : k = 41 := h1.trans hk41
  simp only at h2 h3 h4 hl
  subst h2
  subst h3
  repeat (first|refine q1 ?_|refine q3 ?_)
  refine TO.step rfl (OT.box rfl rfl rfl rfl rfl (fun b => ?_))
  repeat (first|(first|refine q1 ?_|refine q2 ?_|refine q3 ?_|refine q4 tab rfl rfl ?_|refine q5 ?_|refine q6 ?_|refine q16 rfl ?_|refine q17 rfl ?_)|(refine qs rfl (ql tab 0 rfl rfl rfl rfl rfl rfl ?_)))
  refine TC.draw0 [] mixed 8 rfl ?_
  refine DO.pure tab (by repeat (first|exact Calm.ret|refine Calm.then ?_|refine Calm.block ?_)) (by kernel_rfl) [0] (by kernel_rfl) rfl ?_
  (refine DO.loadL tab 1 0 (by repeat (first|exact Calm.ret|refine Calm.then ?_|refine Calm.block ?_)) (by kernel_rfl) (by kernel_rfl) rfl rfl rfl rfl rfl rfl rfl rfl ?_)
  refine DO.pure tab (by repeat (first|exact Calm.ret|refine Calm.then ?_|refine Calm.block ?_)) (by kernel_rfl) [2, 3, 4, 5, 6, 7] (by kernel_rfl) rfl ?_
  (refine DO.nil0 (by kernel_rfl) ?_)
  rotate_left 1
  ·repeat (first|refine q6 ?_|refine q8 ?_|refine q9 ?_|refine q15 ?_)
   exact retQ_ret rfl (by repeat (first|exact List.Sublist.refl _|refine List.Sublist.cons _ ?_)) ⟨Mem.le_refl _, rfl, ⟨none, 0, 0⟩, rfl, SlRep.nil _ _⟩
 rw [if_neg hk41]
 by_cases hk42 : a.kind = 42
 ·rw [if_pos hk42]
  obtain ⟨k, n, u, s⟩ := h
  obtain rfl : k = 42 := h1.trans hk42
  simp only at h2 h3 h4 hl
  subst h2
  subst h3
  repeat (first|refine q1 ?_|refine q3 ?_)
  refine TO.step rfl (OT.box rfl rfl rfl rfl rfl (fun b => ?_))
  repeat (first|(first|refine q1 ?_|refine q2 ?_|refine q3 ?_|refine q4 tab rfl rfl ?_|refine q5 ?_|refine q6 ?_|refine q16 rfl ?_|refine q17 rfl ?_)|(refine qs rfl (ql tab 0 rfl rfl rfl rfl rfl rfl ?_)))
  refine TC.draw0 [] mixed 12 rfl ?_
  refine DO.pure tab (by repeat (first|exact Calm.ret|refine Calm.then ?_|refine Calm.block ?_)) (by kernel_rfl) [0] (by kernel_rfl) rfl ?_
  (refine DO.loadL tab 1 0 (by repeat (first|exact Calm.ret|refine Calm.then ?_|refine Calm.block ?_)) (by kernel_rfl) (by kernel_rfl) rfl rfl rfl rfl rfl rfl rfl rfl ?_)
  refine DO.pure tab (by repeat (first|exact Calm.ret|refine Calm.then ?_|refine Calm.block ?_)) (by kernel_rfl) [2, 3] (by kernel_rfl) rfl ?_
  (refine DO.splitP (d := 24) rfl (fun hg3 => ?_) (fun hg3 => ?_))
  refine DO.pure tab (by repeat (first|exact Calm.ret|refine Calm.then ?_|refine Calm.block ?_)) (by kernel_rfl) [4, 5, 6, 7, 8, 9, 10, 11] (by kernel_rfl) rfl ?_
  (refine DO.nil0 (by kernel_rfl) ?_)
  rotate_left 1
  refine DO.pure tab (by repeat (first|exact Calm.ret|refine Calm.then ?_|refine Calm.block ?_)) (by kernel_rfl) [4] (by kernel_rfl) rfl ?_
  (refine DO.loadL tab 5 0 (by repeat (first|exact Calm.ret|refine Calm.then ?_|refine Calm.block ?_)) (by kernel_rfl) (by kernel_rfl) rfl rfl rfl rfl rfl rfl rfl rfl ?_)
  refine DO.pure tab (by repeat (first|exact Calm.ret|refine Calm.then ?_|refine Calm.block ?_)) (by kernel_rfl) [6, 7, 8, 9, 10, 11] (by kernel_rfl) rfl ?_
  (refine DO.nil0 (by kernel_rfl) ?_)
  rotate_left 1
  ·repeat (first|refine q6 ?_|refine q8 ?_|refine q9 ?_|refine q15 ?_)
   refine retQ_ret rfl (by repeat (first|exact List.Sublist.refl _|refine List.Sublist.cons _ ?_)) ⟨Mem.le_refl _, rfl, ⟨none, 0, 0⟩, ?_, SlRep.nil _ _⟩
   rw [decide_eq_true hg3]; rfl
  ·repeat (first|refine q6 ?_|refine q8 ?_|refine q9 ?_|refine q15 ?_)
   refine retQ_ret rfl (by repeat (first|exact List.Sublist.refl _|refine List.Sublist.cons _ ?_)) ⟨Mem.le_refl _, rfl, ⟨none, 0, 0⟩, ?_, SlRep.nil _ _⟩
   rw [decide_eq_false hg3]; rfl
 rw [if_neg hk42]
 by_cases hk43 : a.kind = 43
 ·rw [if_pos hk43]
  obtain ⟨k, n, u, s⟩ := h
  obtain rfl : k = 43 := h1.trans hk43
  simp only at h2 h3 h4 hl
  subst h2
  subst h3
  repeat (first|refine q1 ?_|refine q3 ?_)
  refine TO.step rfl (OT.box rfl rfl rfl rfl rfl (fun b => ?_))
  repeat (first|(first|refine q1 ?_|refine q2 ?_|refine q3 ?_|refine q4 tab rfl rfl ?_|refine q5 ?_|refine q6 ?_|refine q8 ?_|refine q9 ?_|refine q15 ?_|refine q16 rfl ?_|refine q17 rfl ?_)|(refine qs rfl (ql tab 0 rfl rfl rfl rfl rfl rfl ?_)))
  exact retQ_ret rfl (by repeat (first|exact List.Sublist.refl _|refine List.Sublist.cons _ ?_)) ⟨Mem.le_refl _, rfl, ⟨none, 0, 0⟩, rfl, SlRep.nil _ _⟩
 rw [if_neg hk43]
 by_cases hk44 : a.kind = 44
 ·rw [if_pos hk44]
  obtain ⟨k, n, u, s⟩ := h
  obtain rfl : k = 44 := h1.trans hk44
  simp only at h2 h3 h4 hl
  subst h2
  subst h3
  repeat (first|refine q1 ?_|refine q3 ?_)
  refine TO.step rfl (OT.box rfl rfl rfl rfl rfl (fun b => ?_))
  repeat (first|(first|refine q1 ?_|refine q2 ?_|refine q3 ?_|refine q4 tab rfl rfl ?_|refine q5 ?_|refine q6 ?_|refine q8 ?_|refine q9 ?_|refine q15 ?_|refine q16 rfl ?_|refine q17 rfl ?_)|(refine qs rfl (ql tab 0 rfl rfl rfl rfl rfl rfl ?_)))
  exact retQ_ret rfl (by repeat (first|exact List.Sublist.refl _|refine List.Sublist.cons _ ?_)) ⟨Mem.le_refl _, rfl, ⟨none, 0, 0⟩, rfl, SlRep.nil _ _⟩
 rw [if_neg hk44]
 by_cases hk45 : a.kind = 45
 ·rw [if_pos hk45]
  obtain ⟨k, n, u, s⟩ := h
  obtain rfl : k = 45 := h1.trans hk45
  simp only at h2 h3 h4 hl
  subst h2
  subst h3
  repeat (first|refine q1 ?_|refine q3 ?_)
  refine TO.step rfl (OT.box rfl rfl rfl rfl rfl (fun b => ?_))
  repeat (first|(first|refine q1 ?_|refine q2 ?_|refine q3 ?_|refine q4 tab rfl rfl ?_|refine q5 ?_|refine q6 ?_|refine q8 ?_|refine q9 ?_|refine q15 ?_|refine q16 rfl ?_|refine q17 rfl ?_)|(refine qs rfl (ql tab 0 rfl rfl rfl rfl rfl rfl ?_)))
  exact retQ_ret rfl (by repeat (first|exact List.Sublist.refl _|refine List.Sublist.cons _ ?_)) ⟨Mem.le_refl _, rfl, ⟨none, 0, 0⟩, rfl, SlRep.nil _ _⟩
 rw [if_neg hk45]
 by_cases hk46 : a.kind = 46
 ·rw [if_pos hk46]
  obtain ⟨k, n, u, s⟩ := h
  obtain rfl : k = 46 := h1.trans hk46
  simp only at h2 h3 h4 hl
  subst h2
  subst h3
  repeat (first|refine q1 ?_|refine q3 ?_)
  refine TO.step rfl (OT.box rfl rfl rfl rfl rfl (fun b => ?_))
  repeat (first|(first|refine q1 ?_|refine q2 ?_|refine q3 ?_|refine q4 tab rfl rfl ?_|refine q5 ?_|refine q6 ?_|refine q16 rfl ?_|refine q17 rfl ?_)|(refine qs rfl (ql tab 0 rfl rfl rfl rfl rfl rfl ?_)))
  refine TO.step rfl (OT.litR tab rInt (hs := [2]) (l := [2]) ⟨rfl, trivial⟩ rfl rfl rfl rfl rfl (by decide) (fun s1 m1 hm1 hs1 _ _ => ?_))
  repeat (first|refine q4 tab rfl rfl ?_|refine q5 ?_|refine q6 ?_|refine q8 ?_|refine q9 ?_|refine q15 ?_)
  exact retQ_ret rfl (by repeat (first|exact List.Sublist.refl _|refine List.Sublist.cons _ ?_)) ⟨hm1, rfl, s1, rfl, hs1⟩
 rw [if_neg hk46]
 by_cases hk47 : a.kind = 47
 ·rw [if_pos hk47]
  obtain ⟨k, n, u, s⟩ := h
  obtain rfl : k = 47 := h1.trans hk47
  simp only at h2 h3 h4 hl
  subst h2
  subst h3
  repeat (first|refine q1 ?_|refine q3 ?_)
  refine TO.step rfl (OT.box rfl rfl rfl rfl rfl (fun b => ?_))
  repeat (first|(first|refine q1 ?_|refine q2 ?_|refine q3 ?_|refine q4 tab rfl rfl ?_|refine q5 ?_|refine q6 ?_|refine q16 rfl ?_|refine q17 rfl ?_)|(refine qs rfl (ql tab 0 rfl rfl rfl rfl rfl rfl ?_)))
  refine TO.step rfl (OT.litR tab rInt (hs := [3, 5]) (l := [3, 5]) ⟨rfl, rfl, trivial⟩ rfl rfl rfl rfl rfl (by decide) (fun s1 m1 hm1 hs1 _ _ => ?_))
  repeat (first|refine q4 tab rfl rfl ?_|refine q5 ?_|refine q6 ?_|refine q8 ?_|refine q9 ?_|refine q15 ?_)
  exact retQ_ret rfl (by repeat (first|exact List.Sublist.refl _|refine List.Sublist.cons _ ?_)) ⟨hm1, rfl, s1, rfl, hs1⟩
 rw [if_neg hk47]
 by_cases hk48 : a.kind = 48
 ·rw [if_pos hk48]
  obtain ⟨k, n, u, s⟩ := h
  obtain rfl : k = 48 := h1.trans hk48
  simp only at h2 h3 h4 hl
  subst h2
  subst h3
  repeat (first|refine q1 ?_|refine q3 ?_)
  refine TO.step rfl (OT.box rfl rfl rfl rfl rfl (fun b => ?_))
  repeat (first|(first|refine q1 ?_|refine q2 ?_|refine q3 ?_|refine q4 tab rfl rfl ?_|refine q5 ?_|refine q6 ?_|refine q16 rfl ?_|refine q17 rfl ?_)|(refine qs rfl (ql tab 0 rfl rfl rfl rfl rfl rfl ?_)))
  refine TO.step rfl (OT.litR tab rInt (hs := [7]) (l := [7]) ⟨rfl, trivial⟩ rfl rfl rfl rfl rfl (by decide) (fun s1 m1 hm1 hs1 _ _ => ?_))
  repeat (first|refine q4 tab rfl rfl ?_|refine q5 ?_|refine q6 ?_|refine q8 ?_|refine q9 ?_|refine q15 ?_)
  exact retQ_ret rfl (by repeat (first|exact List.Sublist.refl _|refine List.Sublist.cons _ ?_)) ⟨hm1, rfl, s1, rfl, hs1⟩
 rw [if_neg hk48]
 by_cases hk49 : a.kind = 49
 ·rw [if_pos hk49]
  obtain ⟨k, n, u, s⟩ := h
  obtain rfl : k = 49 := h1.trans hk49
  simp only at h2 h3 h4 hl
  subst h2
  subst h3
  repeat (first|refine q1 ?_|refine q3 ?_)
  refine TO.step rfl (OT.box rfl rfl rfl rfl rfl (fun b => ?_))
  repeat (first|(first|refine q1 ?_|refine q2 ?_|refine q3 ?_|refine q4 tab rfl rfl ?_|refine q5 ?_|refine q6 ?_|refine q16 rfl ?_|refine q17 rfl ?_)|(refine qs rfl (ql tab 0 rfl rfl rfl rfl rfl rfl ?_)))
  refine TO.step rfl (OT.litR tab rInt (hs := [7, 7]) (l := [7, 7]) ⟨rfl, rfl, trivial⟩ rfl rfl rfl rfl rfl (by decide) (fun s1 m1 hm1 hs1 _ _ => ?_))
  repeat (first|refine q4 tab rfl rfl ?_|refine q5 ?_|refine q6 ?_|refine q8 ?_|refine q9 ?_|refine q15 ?_)
  exact retQ_ret rfl (by repeat (first|exact List.Sublist.refl _|refine List.Sublist.cons _ ?_)) ⟨hm1, rfl, s1, rfl, hs1⟩
 rw [if_neg hk49]
 by_cases hk50 : a.kind = 50
 ·rw [if_pos hk50]
  obtain ⟨k, n, u, s⟩ := h
  obtain rfl : k = 50 := h1.trans hk50
  simp only at h2 h3 h4 hl
  by_cases n0 : a.num = 0
  ·rw [if_pos n0]
   obtain rfl : u = 0 := h3.trans n0
   repeat (first|refine q1 ?_|refine q3 ?_)
   refine TO.step rfl (OT.box rfl rfl rfl rfl rfl (fun b => ?_))
   repeat (first|(first|refine q1 ?_|refine q2 ?_|refine q3 ?_|refine q4 tab rfl rfl ?_|refine q5 ?_|refine q6 ?_|refine q16 rfl ?_|refine q17 rfl ?_)|(refine qs rfl (ql tab 0 rfl rfl rfl rfl rfl rfl ?_)))
   refine TO.step rfl (OT.litR tab rInt (hs := [7]) (l := [7]) ⟨rfl, trivial⟩ rfl rfl rfl rfl rfl (by decide) (fun s1 m1 hm1 hs1 _ _ => ?_))
   repeat (first|refine q4 tab rfl rfl ?_|refine q5 ?_|refine q6 ?_|refine q8 ?_|refine q9 ?_|refine q15 ?_)
   exact retQ_ret rfl (by repeat (first|exact List.Sublist.refl _|refine List.Sublist.cons _ ?_)) ⟨hm1, rfl, s1, rfl, hs1⟩
  rw [if_neg n0]
  by_cases n1 : a.num = 1 ∨ a.num = 2
  ·rw [if_pos n1]
   rcases n1 with n1 | n1
   all_goals
    obtain rfl := h3.trans n1
    repeat (first|refine q1 ?_|refine q3 ?_)
    refine TO.step rfl (OT.box rfl rfl rfl rfl rfl (fun b => ?_))
    repeat (first|(first|refine q1 ?_|refine q2 ?_|refine q3 ?_|refine q4 tab rfl rfl ?_|refine q5 ?_|refine q6 ?_|refine q13 ?_|refine q16 rfl ?_|refine q17 rfl ?_)|(refine qs rfl (ql tab 0 rfl rfl rfl rfl rfl rfl ?_)))
    refine TO.step rfl (OT.litR tab rInt (hs := [7, 7]) (l := [7, 7]) ⟨rfl, rfl, trivial⟩ rfl rfl rfl rfl rfl (by decide) (fun s1 m1 hm1 hs1 _ _ => ?_))
    repeat (first|refine q4 tab rfl rfl ?_|refine q5 ?_|refine q6 ?_|refine q8 ?_|refine q9 ?_|refine q15 ?_)
    exact retQ_ret rfl (by repeat (first|exact List.Sublist.refl _|refine List.Sublist.cons _ ?_)) ⟨hm1, rfl, s1, rfl, hs1⟩
  rw [if_neg n1]
  by_cases n3 : a.num = 3
  ·rw [if_pos n3]
   obtain rfl : u = 3 := h3.trans n3
   repeat (first|refine q1 ?_|refine q3 ?_)
   refine TO.step rfl (OT.box rfl rfl rfl rfl rfl (fun b => ?_))
   repeat (first|(first|refine q1 ?_|refine q2 ?_|refine q3 ?_|refine q4 tab rfl rfl ?_|refine q5 ?_|refine q6 ?_|refine q16 rfl ?_|refine q17 rfl ?_)|(refine qs rfl (ql tab 0 rfl rfl rfl rfl rfl rfl ?_)))
   refine TO.step rfl (OT.litR tab rInt (hs := [7, 7, 7]) (l := [7, 7, 7]) ⟨rfl, rfl, rfl, trivial⟩ rfl rfl rfl rfl rfl (by decide) (fun s1 m1 hm1 hs1 _ _ => ?_))
   repeat (first|refine q4 tab rfl rfl ?_|refine q5 ?_|refine q6 ?_|refine q8 ?_|refine q9 ?_|refine q15 ?_)
   exact retQ_ret rfl (by repeat (first|exact List.Sublist.refl _|refine List.Sublist.cons _ ?_)) ⟨hm1, rfl, s1, rfl, hs1⟩
  rw [if_neg n3]
  repeat (first|refine q1 ?_|refine q3 ?_)
  refine TO.step rfl (OT.box rfl rfl rfl rfl rfl (fun b => ?_))
  repeat (first|(first|refine q1 ?_|refine q2 ?_|refine q3 ?_|refine q4 tab rfl rfl ?_|refine q5 ?_|refine q6 ?_|refine q16 rfl ?_|refine q17 rfl ?_)|(refine qs rfl (ql tab 0 rfl rfl rfl rfl rfl rfl ?_)))
  refine TC.condP rfl (fun h5 => ?_) (fun h5 => ?_)
  ·simp only at h5; omega
  repeat (first|refine q1 ?_|refine q3 ?_|refine q4 tab rfl rfl ?_|refine q5 ?_|refine q6 ?_)
  refine TC.condP rfl (fun h5 => ?_) (fun h5 => ?_)
  ·simp only at h5; omega
  repeat (first|refine q3 ?_|refine q4 tab rfl rfl ?_|refine q5 ?_|refine q6 ?_)
  refine TC.condP rfl (fun h5 => ?_) (fun h5 => ?_)
  ·simp only at h5; omega
  repeat (first|refine q1 ?_|refine q3 ?_|refine q4 tab rfl rfl ?_|refine q5 ?_|refine q6 ?_)
  refine TC.condP rfl (fun h5 => ?_) (fun h5 => ?_)
  ·simp only at h5; omega
  repeat (first|refine q1 ?_|refine q3 ?_|refine q4 tab rfl rfl ?_|refine q5 ?_|refine q6 ?_|refine q7 ?_|refine q13 ?_|refine q15 ?_)
  exact retQ_ret rfl (by repeat (first|exact List.Sublist.refl _|refine List.Sublist.cons _ ?_)) ⟨Mem.le_refl _, rfl, ⟨none, 0, 0⟩, rfl, SlRep.nil _ _⟩
 rw [if_neg hk50]
 by_cases hk51 : a.kind = 51
 ·rw [if_pos hk51]
  obtain ⟨k, n, u, s⟩ := h
  obtain rfl : k = 51 := h1.trans hk51
  simp only at h2 h3 h4 hl
  subst h2
  subst h3
  repeat (first|refine q1 ?_|refine q3 ?_)
  refine TO.step rfl (OT.box rfl rfl rfl rfl rfl (fun b => ?_))
  repeat (first|(first|refine q1 ?_|refine q2 ?_|refine q3 ?_|refine q4 tab rfl rfl ?_|refine q5 ?_|refine q6 ?_|refine q16 rfl ?_|refine q17 rfl ?_)|(refine qs rfl (ql tab 0 rfl rfl rfl rfl rfl rfl ?_)))
  refine TO.step rfl (OT.litR tab rInt (hs := [7]) (l := [7]) ⟨rfl, trivial⟩ rfl rfl rfl rfl rfl (by decide) (fun s1 m1 hm1 hs1 _ _ => ?_))
  repeat (first|refine q4 tab rfl rfl ?_|refine q5 ?_|refine q6 ?_|refine q8 ?_|refine q9 ?_|refine q15 ?_)
  exact retQ_ret rfl (by repeat (first|exact List.Sublist.refl _|refine List.Sublist.cons _ ?_)) ⟨hm1, rfl, s1, rfl, hs1⟩
 rw [if_neg hk51]
 by_cases hk52 : a.kind = 52
 ·rw [if_pos hk52]
  obtain ⟨k, n, u, s⟩ := h
  obtain rfl : k = 52 := h1.trans hk52
  simp only at h2 h3 h4 hl
  subst h2
  subst h3
  repeat (first|refine q1 ?_|refine q3 ?_)
  refine TO.step rfl (OT.box rfl rfl rfl rfl rfl (fun b => ?_))
  repeat (first|(first|refine q1 ?_|refine q2 ?_|refine q3 ?_|refine q4 tab rfl rfl ?_|refine q5 ?_|refine q6 ?_|refine q16 rfl ?_|refine q17 rfl ?_)|(refine qs rfl (ql tab 0 rfl rfl rfl rfl rfl rfl ?_)))
  refine TC.draw0 [] mixed 23 rfl ?_
  refine DO.pure tab (by repeat (first|exact Calm.ret|refine Calm.then ?_|refine Calm.block ?_)) (by kernel_rfl) [1] (by kernel_rfl) rfl ?_
  (refine DO.loadL tab 2 0 (by repeat (first|exact Calm.ret|refine Calm.then ?_|refine Calm.block ?_)) (by kernel_rfl) (by kernel_rfl) rfl rfl rfl rfl rfl rfl rfl rfl ?_)
  refine DO.pure tab (by repeat (first|exact Calm.ret|refine Calm.then ?_|refine Calm.block ?_)) (by kernel_rfl) [3, 4] (by kernel_rfl) rfl ?_
  (refine DO.splitP (d := 70) rfl (fun hg4 => ?_) (fun hg4 => ?_))
  refine DO.pure tab (by repeat (first|exact Calm.ret|refine Calm.then ?_|refine Calm.block ?_)) (by kernel_rfl) [5, 6, 7, 8, 9, 10, 11, 12, 13, 14, 15, 16, 17, 18] (by kernel_rfl) rfl ?_
  refine DO.run 0 rfl rfl (by kernel_rfl) rfl ?_
  refine OT.litR tab rInt (hs := [7]) (l := [7]) ⟨rfl, trivial⟩ rfl rfl rfl rfl rfl (by decide) (fun s1 m1 hm1 hs1 _ _ => ?_); refine ⟨hm1, _, List.Perm.refl _, ?_⟩
  refine DO.pure tab (by repeat (first|exact Calm.ret|refine Calm.then ?_|refine Calm.block ?_)) (by kernel_rfl) [19, 20, 21, 22] (by kernel_rfl) rfl ?_
  (refine DO.nil0 (by kernel_rfl) ?_)
  rotate_left 1
  refine DO.pure tab (by repeat (first|exact Calm.ret|refine Calm.then ?_|refine Calm.block ?_)) (by kernel_rfl) [5] (by kernel_rfl) rfl ?_
  (refine DO.loadL tab 6 0 (by repeat (first|exact Calm.ret|refine Calm.then ?_|refine Calm.block ?_)) (by kernel_rfl) (by kernel_rfl) rfl rfl rfl rfl rfl rfl rfl rfl ?_)
  refine DO.pure tab (by repeat (first|exact Calm.ret|refine Calm.then ?_|refine Calm.block ?_)) (by kernel_rfl) [7, 8, 9] (by kernel_rfl) rfl ?_
  (refine DO.splitP (d := 75) rfl (fun hg9 => ?_) (fun hg9 => ?_))
  refine DO.pure tab (by repeat (first|exact Calm.ret|refine Calm.then ?_|refine Calm.block ?_)) (by kernel_rfl) [10, 11, 12, 13, 14, 15, 16, 17, 18] (by kernel_rfl) rfl ?_
  refine DO.run 0 rfl rfl (by kernel_rfl) rfl ?_
  refine OT.litR tab rInt (hs := [7]) (l := [7]) ⟨rfl, trivial⟩ rfl rfl rfl rfl rfl (by decide) (fun s1 m1 hm1 hs1 _ _ => ?_); refine ⟨hm1, _, List.Perm.refl _, ?_⟩
  refine DO.pure tab (by repeat (first|exact Calm.ret|refine Calm.then ?_|refine Calm.block ?_)) (by kernel_rfl) [19, 20, 21, 22] (by kernel_rfl) rfl ?_
  (refine DO.nil0 (by kernel_rfl) ?_)
  rotate_left 1
  refine DO.pure tab (by repeat (first|exact Calm.ret|refine Calm.then ?_|refine Calm.block ?_)) (by kernel_rfl) [10] (by kernel_rfl) rfl ?_
  (refine DO.loadL tab 11 0 (by repeat (first|exact Calm.ret|refine Calm.then ?_|refine Calm.block ?_)) (by kernel_rfl) (by kernel_rfl) rfl rfl rfl rfl rfl rfl rfl rfl ?_)
  refine DO.pure tab (by repeat (first|exact Calm.ret|refine Calm.then ?_|refine Calm.block ?_)) (by kernel_rfl) [12, 13, 14] (by kernel_rfl) rfl ?_
  (refine DO.splitP (d := 80) rfl (fun hg14 => ?_) (fun hg14 => ?_))
  refine DO.pure tab (by repeat (first|exact Calm.ret|refine Calm.then ?_|refine Calm.block ?_)) (by kernel_rfl) [15, 16, 17, 18] (by kernel_rfl) rfl ?_
  refine DO.run 0 rfl rfl (by kernel_rfl) rfl ?_
  refine OT.litR tab rInt (hs := [7]) (l := [7]) ⟨rfl, trivial⟩ rfl rfl rfl rfl rfl (by decide) (fun s1 m1 hm1 hs1 _ _ => ?_); refine ⟨hm1, _, List.Perm.refl _, ?_⟩
  refine DO.pure tab (by repeat (first|exact Calm.ret|refine Calm.then ?_|refine Calm.block ?_)) (by kernel_rfl) [19, 20, 21, 22] (by kernel_rfl) rfl ?_
  (refine DO.nil0 (by kernel_rfl) ?_)
  rotate_left 1
  refine DO.pure tab (by repeat (first|exact Calm.ret|refine Calm.then ?_|refine Calm.block ?_)) (by kernel_rfl) [15] (by kernel_rfl) rfl ?_
  (refine DO.loadL tab 16 0 (by repeat (first|exact Calm.ret|refine Calm.then ?_|refine Calm.block ?_)) (by kernel_rfl) (by kernel_rfl) rfl rfl rfl rfl rfl rfl rfl rfl ?_)
  refine DO.pure tab (by repeat (first|exact Calm.ret|refine Calm.then ?_|refine Calm.block ?_)) (by kernel_rfl) [17, 18] (by kernel_rfl) rfl ?_
  refine DO.run 0 rfl rfl (by kernel_rfl) rfl ?_
  refine OT.litR tab rInt (hs := [7]) (l := [7]) ⟨rfl, trivial⟩ rfl rfl rfl rfl rfl (by decide) (fun s1 m1 hm1 hs1 _ _ => ?_); refine ⟨hm1, _, List.Perm.refl _, ?_⟩
  refine DO.pure tab (by repeat (first|exact Calm.ret|refine Calm.then ?_|refine Calm.block ?_)) (by kernel_rfl) [19, 20, 21, 22] (by kernel_rfl) rfl ?_
  (refine DO.nil0 (by kernel_rfl) ?_)
  rotate_left 1
  all_goals
   repeat (first|refine q6 ?_|refine q8 ?_|refine q9 ?_|refine q15 ?_)
   refine retQ_ret rfl (by repeat (first|exact List.Sublist.refl _|refine List.Sublist.cons _ ?_)) ⟨hm1, rfl, s1, ?_, hs1⟩
   simp_all
 rw [if_neg hk52]
 by_cases hk53 : a.kind = 53
 ·rw [if_pos hk53]
  obtain ⟨k, n, u, s⟩ := h
  obtain rfl : k = 53 := h1.trans hk53
  simp only at h2 h3 h4 hl
  subst h2
  subst h3
  repeat (first|refine q1 ?_|refine q3 ?_)
  refine TO.step rfl (OT.box rfl rfl rfl rfl rfl (fun b => ?_))
  repeat (first|(first|refine q1 ?_|refine q2 ?_|refine q3 ?_|refine q4 tab rfl rfl ?_|refine q5 ?_|refine q6 ?_|refine q16 rfl ?_|refine q17 rfl ?_)|(refine qs rfl (ql tab 0 rfl rfl rfl rfl rfl rfl ?_)))
  refine TO.step rfl (OT.litR tab rInt (hs := [7, 7]) (l := [7, 7]) ⟨rfl, rfl, trivial⟩ rfl rfl rfl rfl rfl (by decide) (fun s1 m1 hm1 hs1 _ _ => ?_))
  repeat (first|(refine q4 tab rfl rfl ?_)|(refine qs rfl (ql tab 0 rfl rfl rfl rfl rfl rfl ?_)))
  refine TO.step rfl (OT.call rfl rfl rfl rfl rfl rfl goes16 ((hlv _ _ a.name).x ?_));
  rintro _ _ _ ⟨rfl, rfl, rfl⟩
  repeat (first|refine q4 tab rfl rfl ?_|refine q5 ?_|refine q6 ?_|refine q8 ?_|refine q9 ?_|refine q15 ?_)
  exact retQ_ret rfl (by repeat (first|exact List.Sublist.refl _|refine List.Sublist.cons _ ?_)) ⟨hm1, rfl, s1, rfl, hs1⟩
 rw [if_neg hk53]
 repeat (first|refine q1 ?_|refine q3 ?_)
 refine TO.step rfl (OT.box rfl rfl rfl rfl rfl (fun b => ?_))
 repeat (first|(first|refine q1 ?_|refine q2 ?_|refine q3 ?_|refine q4 tab rfl rfl ?_|refine q5 ?_|refine q6 ?_)|(refine qs rfl (ql tab 0 rfl rfl rfl rfl rfl rfl ?_)))
 refine TC.condP rfl (fun h5 => ?_) (fun h5 => ?_)
 ·omega
 repeat (first|refine q1 ?_|refine q3 ?_|refine q4 tab rfl rfl ?_|refine q5 ?_|refine q6 ?_)
 refine TC.condP rfl (fun h5 => ?_) (fun h5 => ?_)
 ·omega
 repeat (first|refine q1 ?_|refine q3 ?_|refine q4 tab rfl rfl ?_|refine q5 ?_|refine q6 ?_)
 refine TC.condP rfl (fun h5 => ?_) (fun h5 => ?_)
 ·omega
 repeat (first|refine q1 ?_|refine q3 ?_|refine q4 tab rfl rfl ?_|refine q5 ?_|refine q6 ?_)
 refine TC.condP rfl (fun h5 => ?_) (fun h5 => ?_)
 ·omega
 repeat (first|refine q1 ?_|refine q3 ?_|refine q4 tab rfl rfl ?_|refine q5 ?_|refine q6 ?_)
 refine TC.condP rfl (fun h5 => ?_) (fun h5 => ?_)
 ·omega
 repeat (first|refine q1 ?_|refine q3 ?_|refine q4 tab rfl rfl ?_|refine q5 ?_|refine q6 ?_)
 refine TC.condP rfl (fun h5 => ?_) (fun h5 => ?_)
 ·omega
 repeat (first|refine q1 ?_|refine q3 ?_|refine q4 tab rfl rfl ?_|refine q5 ?_|refine q6 ?_)
 refine TC.condP rfl (fun h5 => ?_) (fun h5 => ?_)
 ·omega
 repeat (first|refine q1 ?_|refine q3 ?_|refine q4 tab rfl rfl ?_|refine q5 ?_|refine q6 ?_)
 refine TC.condP rfl (fun h5 => ?_) (fun h5 => ?_)
 ·omega
 repeat (first|refine q1 ?_|refine q3 ?_|refine q4 tab rfl rfl ?_|refine q5 ?_|refine q6 ?_)
 refine TC.condP rfl (fun h5 => ?_) (fun h5 => ?_)
 ·omega
 repeat (first|refine q1 ?_|refine q3 ?_|refine q4 tab rfl rfl ?_|refine q5 ?_|refine q6 ?_)
 refine TC.condP rfl (fun h5 => ?_) (fun h5 => ?_)
 ·omega
 repeat (first|refine q1 ?_|refine q3 ?_|refine q4 tab rfl rfl ?_|refine q5 ?_|refine q6 ?_)
 refine TC.condP rfl (fun h5 => ?_) (fun h5 => ?_)
 ·omega
 repeat (first|refine q1 ?_|refine q3 ?_|refine q4 tab rfl rfl ?_|refine q5 ?_|refine q6 ?_)
 refine TC.condP rfl (fun h5 => ?_) (fun h5 => ?_)
 ·omega
 repeat (first|refine q1 ?_|refine q3 ?_|refine q4 tab rfl rfl ?_|refine q5 ?_|refine q6 ?_)
 refine TC.condP rfl (fun h5 => ?_) (fun h5 => ?_)
 ·omega
 repeat (first|refine q1 ?_|refine q3 ?_|refine q4 tab rfl rfl ?_|refine q5 ?_|refine q6 ?_)
 refine TC.condP rfl (fun h5 => ?_) (fun h5 => ?_)
 ·omega
 repeat (first|refine q1 ?_|refine q3 ?_|refine q4 tab rfl rfl ?_|refine q5 ?_|refine q6 ?_|refine q7 ?_|refine q13 ?_|refine q15 ?_)
 exact retQ_ret rfl (by repeat (first|exact List.Sublist.refl _|refine List.Sublist.cons _ ?_)) ⟨Mem.le_refl _, rfl, ⟨none, 0, 0⟩, rfl, SlRep.nil _ _⟩
end Go.Sep


/- PrShA -/
set_option linter.unusedVariables false
set_option linter.unusedSimpArgs false
namespace Go.Sep
open Go.Proofs
attribute [local irreducible] TC TO OT TCallX TCall DO DOt thenQ blockQ retQ At
set_option maxHeartbeats 1600000 in
theorem shape_k4 (a : Tree) (m : Mem) (L : List Item) (h : HTree) (hr : TreeRep m h a) : TCall Tryz.prog 51 ⟨[treeV h, .int .i64 4]⟩ m L (ShapeIs m L ⟨[2], 0, 1, decide (a.kind = 8)⟩) := by
 obtain ⟨h1, h2, h3, h4⟩ := hr
 rw [← h1]
 unfold TCall
 refine TCallX.enter Tryz.func51 rfl 236 rfl ?_
 repeat (first|refine q1 ?_|refine q3 ?_)
 refine TO.step rfl (OT.box rfl rfl rfl rfl rfl (fun b => ?_))
 repeat (first|refine q1 ?_|refine q2 ?_|refine q3 ?_|refine q4 tab rfl rfl ?_|refine q5 ?_|refine q6 ?_|refine q16 rfl ?_|refine q17 rfl ?_)
 refine TC.draw0 [] mixed 8 rfl ?_
 refine DO.pure tab (by repeat (first|exact Calm.ret|refine Calm.then ?_|refine Calm.block ?_)) (by kernel_rfl) [1] (by kernel_rfl) rfl ?_
 (refine DO.loadL tab 2 0 (by repeat (first|exact Calm.ret|refine Calm.then ?_|refine Calm.block ?_)) (by kernel_rfl) (by kernel_rfl) rfl rfl rfl rfl rfl rfl rfl rfl ?_)
 refine DO.pure tab (by repeat (first|exact Calm.ret|refine Calm.then ?_|refine Calm.block ?_)) (by kernel_rfl) [3] (by kernel_rfl) rfl ?_
 refine DO.run 0 rfl rfl (by kernel_rfl) rfl ?_
 refine OT.litR tab rInt (hs := [2]) (l := [2]) ⟨rfl, trivial⟩ rfl rfl rfl rfl rfl (by decide) (fun s1 m1 hm1 hs1 _ _ => ?_); refine ⟨hm1, _, List.Perm.refl _, ?_⟩
 refine DO.pure tab (by repeat (first|exact Calm.ret|refine Calm.then ?_|refine Calm.block ?_)) (by kernel_rfl) [4, 5, 6, 7] (by kernel_rfl) rfl ?_
 (refine DO.nil0 (by kernel_rfl) ?_)
 rotate_left 1
 ·repeat (first|refine q6 ?_|refine q8 ?_|refine q9 ?_|refine q15 ?_)
  exact retQ_ret rfl (by repeat (first|exact List.Sublist.refl _|refine List.Sublist.cons _ ?_)) ⟨hm1, rfl, s1, rfl, hs1⟩
set_option maxHeartbeats 1600000 in
theorem shape_k8 (a : Tree) (m : Mem) (L : List Item) (h : HTree) (hr : TreeRep m h a) : TCall Tryz.prog 51 ⟨[treeV h, .int .i64 8]⟩ m L (ShapeIs m L ⟨[2], 0, 1, decide (a.kind = 6)⟩) := by
 obtain ⟨h1, h2, h3, h4⟩ := hr
 rw [← h1]
 unfold TCall
 refine TCallX.enter Tryz.func51 rfl 236 rfl ?_
 repeat (first|refine q1 ?_|refine q3 ?_)
 refine TO.step rfl (OT.box rfl rfl rfl rfl rfl (fun b => ?_))
 repeat (first|refine q1 ?_|refine q2 ?_|refine q3 ?_|refine q4 tab rfl rfl ?_|refine q5 ?_|refine q6 ?_|refine q16 rfl ?_|refine q17 rfl ?_)
 refine TC.draw0 [] mixed 8 rfl ?_
 refine DO.pure tab (by repeat (first|exact Calm.ret|refine Calm.then ?_|refine Calm.block ?_)) (by kernel_rfl) [1] (by kernel_rfl) rfl ?_
 (refine DO.loadL tab 2 0 (by repeat (first|exact Calm.ret|refine Calm.then ?_|refine Calm.block ?_)) (by kernel_rfl) (by kernel_rfl) rfl rfl rfl rfl rfl rfl rfl rfl ?_)
 refine DO.pure tab (by repeat (first|exact Calm.ret|refine Calm.then ?_|refine Calm.block ?_)) (by kernel_rfl) [3] (by kernel_rfl) rfl ?_
 refine DO.run 0 rfl rfl (by kernel_rfl) rfl ?_
 refine OT.litR tab rInt (hs := [2]) (l := [2]) ⟨rfl, trivial⟩ rfl rfl rfl rfl rfl (by decide) (fun s1 m1 hm1 hs1 _ _ => ?_); refine ⟨hm1, _, List.Perm.refl _, ?_⟩
 refine DO.pure tab (by repeat (first|exact Calm.ret|refine Calm.then ?_|refine Calm.block ?_)) (by kernel_rfl) [4, 5, 6, 7] (by kernel_rfl) rfl ?_
 (refine DO.nil0 (by kernel_rfl) ?_)
 rotate_left 1
 ·repeat (first|refine q6 ?_|refine q8 ?_|refine q9 ?_|refine q15 ?_)
  exact retQ_ret rfl (by repeat (first|exact List.Sublist.refl _|refine List.Sublist.cons _ ?_)) ⟨hm1, rfl, s1, rfl, hs1⟩
set_option maxHeartbeats 1600000 in
theorem shape_k9 (a : Tree) (m : Mem) (L : List Item) (h : HTree) (hr : TreeRep m h a) : TCall Tryz.prog 51 ⟨[treeV h, .int .i64 9]⟩ m L (ShapeIs m L ⟨[3], 0, 1, decide (a.kind = 6)⟩) := by
 obtain ⟨h1, h2, h3, h4⟩ := hr
 rw [← h1]
 unfold TCall
 refine TCallX.enter Tryz.func51 rfl 236 rfl ?_
 repeat (first|refine q1 ?_|refine q3 ?_)
 refine TO.step rfl (OT.box rfl rfl rfl rfl rfl (fun b => ?_))
 repeat (first|refine q1 ?_|refine q2 ?_|refine q3 ?_|refine q4 tab rfl rfl ?_|refine q5 ?_|refine q6 ?_|refine q16 rfl ?_|refine q17 rfl ?_)
 refine TC.draw0 [] mixed 8 rfl ?_
 refine DO.pure tab (by repeat (first|exact Calm.ret|refine Calm.then ?_|refine Calm.block ?_)) (by kernel_rfl) [1] (by kernel_rfl) rfl ?_
 (refine DO.loadL tab 2 0 (by repeat (first|exact Calm.ret|refine Calm.then ?_|refine Calm.block ?_)) (by kernel_rfl) (by kernel_rfl) rfl rfl rfl rfl rfl rfl rfl rfl ?_)
 refine DO.pure tab (by repeat (first|exact Calm.ret|refine Calm.then ?_|refine Calm.block ?_)) (by kernel_rfl) [3] (by kernel_rfl) rfl ?_
 refine DO.run 0 rfl rfl (by kernel_rfl) rfl ?_
 refine OT.litR tab rInt (hs := [3]) (l := [3]) ⟨rfl, trivial⟩ rfl rfl rfl rfl rfl (by decide) (fun s1 m1 hm1 hs1 _ _ => ?_); refine ⟨hm1, _, List.Perm.refl _, ?_⟩
 refine DO.pure tab (by repeat (first|exact Calm.ret|refine Calm.then ?_|refine Calm.block ?_)) (by kernel_rfl) [4, 5, 6, 7] (by kernel_rfl) rfl ?_
 (refine DO.nil0 (by kernel_rfl) ?_)
 rotate_left 1
 ·repeat (first|refine q6 ?_|refine q8 ?_|refine q9 ?_|refine q15 ?_)
  exact retQ_ret rfl (by repeat (first|exact List.Sublist.refl _|refine List.Sublist.cons _ ?_)) ⟨hm1, rfl, s1, rfl, hs1⟩
set_option maxHeartbeats 1600000 in
theorem shape_k5 (a : Tree) (m : Mem) (L : List Item) (h : HTree) (hr : TreeRep m h a) : TCall Tryz.prog 51 ⟨[treeV h, .int .i64 5]⟩ m L (ShapeIs m L ⟨[], 6, 0, decide (a.kind = 20)⟩) := by
 obtain ⟨h1, h2, h3, h4⟩ := hr
 rw [← h1]
 unfold TCall
 refine TCallX.enter Tryz.func51 rfl 236 rfl ?_
 repeat (first|refine q1 ?_|refine q3 ?_)
 refine TO.step rfl (OT.box rfl rfl rfl rfl rfl (fun b => ?_))
 repeat (first|refine q1 ?_|refine q2 ?_|refine q3 ?_|refine q4 tab rfl rfl ?_|refine q5 ?_|refine q6 ?_|refine q16 rfl ?_|refine q17 rfl ?_)
 refine TC.draw0 [] mixed 7 rfl ?_
 refine DO.pure tab (by repeat (first|exact Calm.ret|refine Calm.then ?_|refine Calm.block ?_)) (by kernel_rfl) [0] (by kernel_rfl) rfl ?_
 (refine DO.loadL tab 1 0 (by repeat (first|exact Calm.ret|refine Calm.then ?_|refine Calm.block ?_)) (by kernel_rfl) (by kernel_rfl) rfl rfl rfl rfl rfl rfl rfl rfl ?_)
 refine DO.pure tab (by repeat (first|exact Calm.ret|refine Calm.then ?_|refine Calm.block ?_)) (by kernel_rfl) [2, 3, 4, 5, 6] (by kernel_rfl) rfl ?_
 (refine DO.nil0 (by kernel_rfl) ?_)
 rotate_left 1
 ·repeat (first|refine q6 ?_|refine q8 ?_|refine q9 ?_|refine q15 ?_)
  exact retQ_ret rfl (by repeat (first|exact List.Sublist.refl _|refine List.Sublist.cons _ ?_)) ⟨Mem.le_refl _, rfl, ⟨none, 0, 0⟩, rfl, SlRep.nil _ _⟩
set_option maxHeartbeats 1600000 in
theorem shape_k11 (a : Tree) (m : Mem) (L : List Item) (h : HTree) (hr : TreeRep m h a) : TCall Tryz.prog 51 ⟨[treeV h, .int .i64 11]⟩ m L (ShapeIs m L ⟨[], 0, 1, decide (a.kind = 44)⟩) := by
 obtain ⟨h1, h2, h3, h4⟩ := hr
 rw [← h1]
 unfold TCall
 refine TCallX.enter Tryz.func51 rfl 236 rfl ?_
 repeat (first|refine q1 ?_|refine q3 ?_)
 refine TO.step rfl (OT.box rfl rfl rfl rfl rfl (fun b => ?_))
 repeat (first|refine q1 ?_|refine q2 ?_|refine q3 ?_|refine q4 tab rfl rfl ?_|refine q5 ?_|refine q6 ?_|refine q16 rfl ?_|refine q17 rfl ?_)
 refine TC.draw0 [] mixed 7 rfl ?_
 refine DO.pure tab (by repeat (first|exact Calm.ret|refine Calm.then ?_|refine Calm.block ?_)) (by kernel_rfl) [0] (by kernel_rfl) rfl ?_
 (refine DO.loadL tab 1 0 (by repeat (first|exact Calm.ret|refine Calm.then ?_|refine Calm.block ?_)) (by kernel_rfl) (by kernel_rfl) rfl rfl rfl rfl rfl rfl rfl rfl ?_)
 refine DO.pure tab (by repeat (first|exact Calm.ret|refine Calm.then ?_|refine Calm.block ?_)) (by kernel_rfl) [2, 3, 4, 5, 6] (by kernel_rfl) rfl ?_
 (refine DO.nil0 (by kernel_rfl) ?_)
 rotate_left 1
 ·repeat (first|refine q6 ?_|refine q8 ?_|refine q9 ?_|refine q15 ?_)
  exact retQ_ret rfl (by repeat (first|exact List.Sublist.refl _|refine List.Sublist.cons _ ?_)) ⟨Mem.le_refl _, rfl, ⟨none, 0, 0⟩, rfl, SlRep.nil _ _⟩
section
variable (lv : Str → Nat) (hlv : ∀ (m : Mem) (L : List Item) (s : Str), TCall Tryz.prog 16 ⟨[strV s]⟩ m L (Ret (.int .i64 (lv s : Int)) m L))
set_option maxHeartbeats 1600000 in
theorem shape_stmt (a : Tree) (m : Mem) (L : List Item) (h : HTree) (hr : TreeRep m h a) : TCall Tryz.prog 51 ⟨[treeV h, .int .i64 6]⟩ m L (ShapeIs m L (shStmt lv a)) := by
 unfold TCall
 refine TCallX.enter Tryz.func51 rfl 236 rfl ?_
 repeat (first|refine q1 ?_|refine q3 ?_)
 refine TO.step rfl (OT.box rfl rfl rfl rfl rfl (fun b => ?_))
 repeat (first|(first|refine q1 ?_|refine q2 ?_|refine q3 ?_|refine q4 tab rfl rfl ?_|refine q5 ?_|refine q6 ?_|refine q16 rfl ?_|refine q17 rfl ?_)|(refine qs rfl (qz tab 0 rfl rfl rfl rfl rfl rfl ?_)))
 refine TO.step rfl (OT.call rfl rfl rfl rfl rfl rfl goes87 ((statement_ref lv a _ _ h hr).x ?_));
 rintro _ m1 _ ⟨hm1, rfl, s, rfl, hs⟩
 repeat (first|refine q4 tab rfl rfl ?_|refine q5 ?_|refine q6 ?_|refine q8 ?_|refine q9 ?_|refine q15 ?_)
 exact retQ_ret rfl (by repeat (first|exact List.Sublist.refl _|refine List.Sublist.cons _ ?_)) ⟨hm1, rfl, s, rfl, hs⟩
set_option maxHeartbeats 1600000 in
theorem shape_k13 (a : Tree) (m : Mem) (L : List Item) (h : HTree) (hr : TreeRep m h a) : TCall Tryz.prog 51 ⟨[treeV h, .int .i64 13]⟩ m L (ShapeIs m L (if a.kind = 25 then shStmt lv a else ⟨[], 6, 0, decide (a.kind = 20)⟩)) := by
 have h1 := hr.1
 unfold TCall
 refine TCallX.enter Tryz.func51 rfl 236 rfl ?_
 repeat (first|refine q1 ?_|refine q3 ?_)
 refine TO.step rfl (OT.box rfl rfl rfl rfl rfl (fun b => ?_))
 repeat (first|(first|refine q1 ?_|refine q2 ?_|refine q3 ?_|refine q4 tab rfl rfl ?_|refine q5 ?_|refine q6 ?_|refine q16 rfl ?_|refine q17 rfl ?_)|(refine qs rfl (ql tab 0 rfl rfl rfl rfl rfl rfl ?_)))
 refine TC.condP rfl (fun h5 => ?_) (fun h5 => ?_)
 ·rw [if_pos (h1.symm.trans h5)]
  repeat (first|(first|refine q1 ?_|refine q3 ?_)|(refine qs rfl (qz tab 0 rfl rfl rfl rfl rfl rfl ?_)))
  refine TO.step rfl (OT.call rfl rfl rfl rfl rfl rfl goes51 ((shape_stmt lv a _ _ h hr).x ?_));
  rintro _ m1 _ ⟨hm1, rfl, s, rfl, hs⟩
  repeat (first|refine q4 tab rfl rfl ?_|refine q5 ?_|refine q6 ?_|refine q8 ?_|refine q9 ?_|refine q15 ?_)
  exact retQ_ret rfl (by repeat (first|exact List.Sublist.refl _|refine List.Sublist.cons _ ?_)) ⟨hm1, rfl, s, rfl, hs⟩
 ·rw [if_neg (fun e => h5 (h1.trans e))]
  repeat (first|(first|refine q1 ?_|refine q3 ?_|refine q6 ?_|refine q13 ?_)|(refine qs rfl (qz tab 0 rfl rfl rfl rfl rfl rfl ?_)))
  refine TO.step rfl (OT.call rfl rfl rfl rfl rfl rfl goes51 ((shape_k5 a _ _ h hr).x ?_));
  rintro _ m1 _ ⟨hm1, rfl, s, rfl, hs⟩
  repeat (first|refine q4 tab rfl rfl ?_|refine q5 ?_|refine q6 ?_|refine q8 ?_|refine q9 ?_|refine q15 ?_)
  exact retQ_ret rfl (by repeat (first|exact List.Sublist.refl _|refine List.Sublist.cons _ ?_)) ⟨hm1, rfl, s, rfl, hs⟩
include hlv in
set_option maxHeartbeats 1600000 in
theorem shape_expr (a : Tree) (m : Mem) (L : List Item) (h : HTree) (hr : TreeRep m h a) : TCall Tryz.prog 51 ⟨[treeV h, .int .i64 7]⟩ m L (ShapeIs m L (shExpr lv a)) := by
 unfold TCall
 refine TCallX.enter Tryz.func51 rfl 236 rfl ?_
 repeat (first|refine q1 ?_|refine q3 ?_)
 refine TO.step rfl (OT.box rfl rfl rfl rfl rfl (fun b => ?_))
 repeat (first|(first|refine q1 ?_|refine q2 ?_|refine q3 ?_|refine q4 tab rfl rfl ?_|refine q5 ?_|refine q6 ?_|refine q16 rfl ?_|refine q17 rfl ?_)|(refine qs rfl (qz tab 0 rfl rfl rfl rfl rfl rfl ?_)))
 refine TO.step rfl (OT.call rfl rfl rfl rfl rfl rfl goes88 ((expression_ref lv hlv a _ _ h hr).x ?_));
 rintro _ m1 _ ⟨hm1, rfl, s, rfl, hs⟩
 repeat (first|refine q4 tab rfl rfl ?_|refine q5 ?_|refine q6 ?_|refine q8 ?_|refine q9 ?_|refine q15 ?_)
 exact retQ_ret rfl (by repeat (first|exact List.Sublist.refl _|refine List.Sublist.cons _ ?_)) ⟨hm1, rfl, s, rfl, hs⟩
end
end Go.Sep


/- PsWf -/
set_option linter.unusedVariables false
set_option linter.unusedSimpArgs false
namespace Go.Sep
def lim : Sg := ⟨fun a => (sg a.deep).expr a, fun a => (sg a.deep).stmt a, fun a => (sg a.deep).block a⟩
structure EqOn (g g' : Sg) (l : List Tree) : Prop where
 expr : ∀ x ∈ l, g.expr x = g'.expr x
 stmt : ∀ x ∈ l, g.stmt x = g'.stmt x
 block : ∀ x ∈ l, g.block x = g'.block x
theorem all_congr {p q : Tree → Bool} : ∀ {l : List Tree}, (∀ x ∈ l, p x = q x) → l.all p = l.all q
 | [], _ => rfl
 | x :: l, h => by rw [List.all_cons, List.all_cons, h x (by simp), all_congr fun y hy => h y (by simp [hy])]
theorem kidsR_congr : ∀ (ps qs : List (Tree → Bool)) (r r' : Option (Tree → Bool)) (l : List Tree), All2 (fun p q => ∀ x ∈ l, p x = q x) ps qs → (∀ l', l' ⊆ l → kidsR [] r l' = kidsR [] r' l') → kidsR ps r l = kidsR qs r' l
 | [], [], r, r', l, _, hr => hr l (fun _ h => h)
 | p :: ps, q :: qs, r, r', [], _, _ => rfl
 | p :: ps, q :: qs, r, r', x :: l, h, hr => by
  rw [kidsR, kidsR, h.1 x (by simp), kidsR_congr ps qs r r' l (h.2.mono fun p q hp y hy => hp y (by simp [hy])) (fun l' hl => hr l' (fun y hy => by have := hl hy; simp [this]))]
theorem kidsR_some {p q : Tree → Bool} {l : List Tree} (h : ∀ x ∈ l, p x = q x) (l' : List Tree) (hl : l' ⊆ l) : kidsR [] (some p) l' = kidsR [] (some q) l' := all_congr fun x hx => h x (hl hx)
section
variable {g g' : Sg} {a : Tree} (h : EqOn g g' a.kids)
include h
theorem exprS_congr : exprS g a = exprS g' a := by
 have k1 : kidsR [g.expr] none a.kids = kidsR [g'.expr] none a.kids := kidsR_congr _ _ _ _ _ ⟨h.expr, trivial⟩ (fun _ _ => rfl)
 have k2 : kidsR [g.expr, g.expr] none a.kids = kidsR [g'.expr, g'.expr] none a.kids := kidsR_congr _ _ _ _ _ ⟨h.expr, h.expr, trivial⟩ (fun _ _ => rfl)
 have k3 : kidsR [Tree.isType] (some g.expr) a.kids = kidsR [Tree.isType] (some g'.expr) a.kids := kidsR_congr _ _ _ _ _ ⟨fun _ _ => rfl, trivial⟩ (kidsR_some h.expr)
 have k4 : kidsR [Tree.isSig, g.block] none a.kids = kidsR [Tree.isSig, g'.block] none a.kids := kidsR_congr _ _ _ _ _ ⟨fun _ _ => rfl, h.block, trivial⟩ (fun _ _ => rfl)
 have k5 : kidsR [g.expr] (some g.expr) a.kids = kidsR [g'.expr] (some g'.expr) a.kids := kidsR_congr _ _ _ _ _ ⟨h.expr, trivial⟩ (kidsR_some h.expr)
 have k6 : a.kids.all g.expr = a.kids.all g'.expr := all_congr h.expr
 unfold exprS
 rw [k1, k2, k3, k4, k5, k6]
theorem blockS_congr : blockS g a = blockS g' a := by
 unfold blockS
 rw [all_congr h.stmt]
theorem stmtS_congr : stmtS g a = stmtS g' a := by
 have k1 : kidsR [Tree.isType, g.expr] none a.kids = kidsR [Tree.isType, g'.expr] none a.kids := kidsR_congr _ _ _ _ _ ⟨fun _ _ => rfl, h.expr, trivial⟩ (fun _ _ => rfl)
 have k2 : kidsR [callS g] none a.kids = kidsR [callS g'] none a.kids := kidsR_congr _ _ _ _ _ ⟨fun x hx => by unfold callS; rw [h.expr x hx], trivial⟩ (fun _ _ => rfl)
 have k3 : kidsR [g.expr, g.block] none a.kids = kidsR [g'.expr, g'.block] none a.kids := kidsR_congr _ _ _ _ _ ⟨h.expr, h.block, trivial⟩ (fun _ _ => rfl)
 have k4 : kidsR [g.expr, g.block, otherS g] none a.kids = kidsR [g'.expr, g'.block, otherS g'] none a.kids := kidsR_congr _ _ _ _ _ ⟨h.expr, h.block, fun x hx => by unfold otherS; rw [h.block x hx, h.stmt x hx], trivial⟩ (fun _ _ => rfl)
 have k5 : kidsR [g.block] none a.kids = kidsR [g'.block] none a.kids := kidsR_congr _ _ _ _ _ ⟨h.block, trivial⟩ (fun _ _ => rfl)
 have k6 : a.kids.all g.expr = a.kids.all g'.expr := all_congr h.expr
 have k7 : ∀ left left' : Tree → Bool, (∀ x ∈ a.kids, left x = left' x) → asgS g left a = asgS g' left' a := fun left left' hl => by
  unfold asgS
  rw [all_congr (l := a.kids.take a.num.toNat) fun x hx => hl x (List.mem_of_mem_take hx), all_congr (l := a.kids.drop a.num.toNat) fun x hx => h.expr x (List.mem_of_mem_drop hx)]
 unfold stmtS
 rw [k1, k2, k3, k4, k5, k6, blockS_congr h, k7 (nmS g) (nmS g') (fun x hx => by unfold nmS; rw [h.expr x hx]), k7 (plS g) (plS g') (fun x hx => by unfold plS; rw [h.expr x hx])]
end
theorem deepL_of_mem : ∀ {l : List Tree} {t : Tree}, t ∈ l → t.deep ≤ deepL l
 | x :: xs, t, h => by
  rcases List.mem_cons.1 h with rfl | h
  ·simp only [deepL]; omega
  ·have := deepL_of_mem h; simp only [deepL]; omega
theorem deep_of_kid {a t : Tree} (h : t ∈ a.kids) : t.deep < a.deep := by
 obtain ⟨k, n, u, ks⟩ := a
 have := deepL_of_mem h
 simp only [Tree.kids, Tree.deep] at *
 omega
theorem deep_pos (a : Tree) : 1 ≤ a.deep := by obtain ⟨k, n, u, ks⟩ := a; simp only [Tree.deep]; omega
theorem sg_lim : ∀ (n : Nat) (a : Tree), a.deep ≤ n → (sg n).expr a = lim.expr a ∧ (sg n).stmt a = lim.stmt a ∧ (sg n).block a = lim.block a := by
 intro n
 induction n using Nat.strongRecOn with
 | _ n ih =>
  intro a ha
  have hp := deep_pos a
  obtain ⟨d, hd⟩ : ∃ d, a.deep = d + 1 := ⟨a.deep - 1, by omega⟩
  obtain ⟨m, rfl⟩ : ∃ m, n = m + 1 := ⟨n - 1, by omega⟩
  have he : EqOn (sg m) (sg d) a.kids := by
   have h1 : ∀ x ∈ a.kids, _ := fun x hx => ih m (by omega) x (by have := deep_of_kid hx; omega)
   have h2 : ∀ x ∈ a.kids, _ := fun x hx => ih d (by omega) x (by have := deep_of_kid hx; omega)
   exact ⟨fun x hx => (h1 x hx).1.trans (h2 x hx).1.symm, fun x hx => (h1 x hx).2.1.trans (h2 x hx).2.1.symm, fun x hx => (h1 x hx).2.2.trans (h2 x hx).2.2.symm⟩
  show (sg m).step.expr a = (sg a.deep).expr a ∧ (sg m).step.stmt a = (sg a.deep).stmt a ∧ (sg m).step.block a = (sg a.deep).block a
  rw [hd]
  exact ⟨exprS_congr he, stmtS_congr he, blockS_congr he⟩
theorem lim_fix (a : Tree) : lim.expr a = exprS lim a ∧ lim.stmt a = stmtS lim a ∧ lim.block a = blockS lim a := by
 have he : EqOn (sg a.deep) lim a.kids := by
  have h1 : ∀ x ∈ a.kids, _ := fun x hx => sg_lim a.deep x (Nat.le_of_lt (deep_of_kid hx))
  exact ⟨fun x hx => (h1 x hx).1, fun x hx => (h1 x hx).2.1, fun x hx => (h1 x hx).2.2⟩
 have h2 := sg_lim (a.deep + 1) a (by omega)
 exact ⟨h2.1.symm.trans (exprS_congr he), h2.2.1.symm.trans (stmtS_congr he), h2.2.2.symm.trans (blockS_congr he)⟩
theorem declS_lim {a : Tree} (h : a.deep ≤ 101) : declS (sg 100) a = declS lim a := by
 have hb : ∀ x ∈ a.kids, (sg 100).block x = lim.block x := fun x hx => (sg_lim 100 x (by have := deep_of_kid hx; omega)).2.2
 unfold declS
 rw [kidsR_congr [Tree.isSig, (sg 100).block] [Tree.isSig, lim.block] none none a.kids ⟨fun _ _ => rfl, hb, trivial⟩ (fun _ _ => rfl),
  kidsR_congr [recvS, Tree.isSig, (sg 100).block] [recvS, Tree.isSig, lim.block] none none a.kids ⟨fun _ _ => rfl, fun _ _ => rfl, hb, trivial⟩ (fun _ _ => rfl)]
end Go.Sep
namespace Go.Ps
open Go.Sep
variable {α β : Type}
structure TkOk (t : Tk) : Prop where
 name : t.kind = 1 → isName t.text = true
 num : t.kind = 2 → 0 ≤ t.num
 str : t.kind = 3 → t.text.length ≤ 1024
def FOk (f : F) : Prop := ∀ i t, f i = some t → TkOk t
def Sd (w : α → Prop) (p : Pp α) : Prop := ∀ f, FOk f → ∀ k a k', p f k = .ok a k' → w a
theorem Sd.ret {w : α → Prop} {a : α} (h : w a) : Sd w (ret a) := fun f _ k b k' e => by injection e with e1 e2; subst e1; exact h
theorem Sd.fail {w : α → Prop} : Sd w (fail : Pp α) := fun f _ k a k' e => by cases e
theorem Sd.dry {w : α → Prop} : Sd w (dry : Pp α) := fun f _ k a k' e => by cases e
theorem Sd.mono {w w' : α → Prop} {p : Pp α} (h : Sd w p) (hw : ∀ a, w a → w' a) : Sd w' p := fun f hf k a k' e => hw a (h f hf k a k' e)
theorem Sd.bind {w1 : α → Prop} {w : β → Prop} {p : Pp α} {g : α → Pp β} (hp : Sd w1 p) (hg : ∀ a, w1 a → Sd w (g a)) : Sd w (Ps.bind p g) := fun f hf k b k' e => by
 unfold Ps.bind at e
 cases hx : p f k with
 | ok a k1 => simp only [hx] at e; exact hg a (hp f hf k a k1 hx) f hf k1 b k' e
 | bad k1 => simp only [hx] at e; cases e
 | out => simp only [hx] at e; cases e
theorem Sd.tok {w : α → Prop} {s : Str} {A B : Pp α} (hA : Sd w A) (hB : Sd w B) : Sd w (tok s A B) := fun f hf k a k' e => by
 unfold Ps.tok at e
 cases hb : isM s f k with
 | true => simp only [hb, cond_true] at e; exact hA f hf _ a k' e
 | false => simp only [hb, cond_false] at e; exact hB f hf k a k' e
theorem Sd.need {w : α → Prop} {s : Str} {A : Pp α} (hA : Sd w A) : Sd w (need s A) := Sd.tok hA Sd.fail
theorem Sd.tkn {w : α → Prop} {n : Int} {A : Tk → Pp α} {B : Pp α} (hA : ∀ t, TkOk t → t.kind = n → Sd w (A t)) (hB : Sd w B) : Sd w (tkn n A B) := fun f hf k a k' e => by
 unfold Ps.tkn at e
 cases hx : f k with
 | none => simp only [hx] at e; exact hB f hf k a k' e
 | some t =>
  cases hb : decide (t.kind = n) with
  | true => simp only [hx, hb, cond_true] at e; exact hA t (hf k t hx) (of_decide_eq_true hb) f hf _ a k' e
  | false => simp only [hx, hb, cond_false] at e; exact hB f hf k a k' e
theorem Sd.name {w : α → Prop} {A : Str → Pp α} (hA : ∀ t, isName t = true → Sd w (A t)) : Sd w (name A) := Sd.tkn (fun t ht hk => hA t.text (ht.name hk)) Sd.fail
theorem Sd.oneOf {w : α → Prop} {ops : List Str} {A : Str → Pp α} {B : Pp α} (hA : ∀ t ∈ ops, Sd w (A t)) (hB : Sd w B) : Sd w (oneOf ops A B) := fun f hf k a k' e => by
 unfold Ps.oneOf at e
 cases hx : ops.find? (fun s => isM s f k) with
 | none => simp only [hx] at e; exact hB f hf k a k' e
 | some t => simp only [hx] at e; exact hA t (List.mem_of_find?_eq_some hx) f hf _ a k' e
theorem Sd.peek {w : α → Prop} {q : F → Nat → Bool} {A B : Pp α} (hA : Sd w A) (hB : Sd w B) : Sd w (peek q A B) := fun f hf k a k' e => by
 unfold Ps.peek at e
 cases hb : q f k with
 | true => simp only [hb, cond_true] at e; exact hA f hf k a k' e
 | false => simp only [hb, cond_false] at e; exact hB f hf k a k' e
theorem Sd.tokIf {w : α → Prop} {x : Bool} {s : Str} {A B : Pp α} (hA : x = true → Sd w A) (hB : Sd w B) : Sd w (tokIf x s A B) := by
 cases x with
 | true => exact Sd.tok (hA rfl) hB
 | false => exact hB
def AllW (w : α → Prop) (l : List α) : Prop := ∀ a ∈ l, w a
def Row (w : α → Prop) (l : List α) : Prop := AllW w l ∧ 1 ≤ l.length
theorem AllW.nil {w : α → Prop} : AllW w ([] : List α) := fun _ h => by cases h
theorem AllW.cons {w : α → Prop} {a : α} {l : List α} (h : w a) (hl : AllW w l) : AllW w (a :: l) := fun b hb => by
 rcases List.mem_cons.1 hb with rfl | hb
 ·exact h
 ·exact hl b hb
theorem AllW.all {p : Tree → Bool} {l : List Tree} (h : AllW (fun a => p a = true) l) : l.all p = true := List.all_eq_true.2 h
theorem commas_sd {w : α → Prop} {X : Pp α} (h : Sd w X) : ∀ j, Sd (Row w) (commas j X)
 | 0 => Sd.dry
 | j + 1 => Sd.bind h fun a ha => Sd.tok (Sd.bind (commas_sd h j) fun l hl => Sd.ret ⟨AllW.cons ha hl.1, by simp⟩) (Sd.ret ⟨AllW.cons ha AllW.nil, by simp⟩)
variable {N : Nat}
@[reducible] def Ty (a : Tree) : Prop := a.isType = true
@[reducible] def Pa (a : Tree) : Prop := a.isParam = true
@[reducible] def Sgn (a : Tree) : Prop := a.isSig = true
@[reducible] def Ex (a : Tree) : Prop := lim.expr a = true
@[reducible] def Stt (a : Tree) : Prop := lim.stmt a = true
@[reducible] def Bl (a : Tree) : Prop := lim.block a = true
theorem results_sd {typ : Pp Tree} (h : Sd Ty typ) : Sd (AllW Ty) (resultsP N typ) :=
 Sd.tok (Sd.bind (commas_sd h N) fun l hl => Sd.need (Sd.ret hl.1)) (Sd.peek (Sd.bind h fun t ht => Sd.ret (AllW.cons ht AllW.nil)) (Sd.ret AllW.nil))
@[reducible] def If (a : Tree) : Prop := lim.stmt a = true ∧ a.kind = 25
theorem branchP_sd {expr block branch : Pp Tree} (he : Sd Ex expr) (hb : Sd Bl block) (hr : Sd If branch) : Sd If (branchP expr block branch) := by
 refine Sd.need (Sd.bind he fun c hc => Sd.bind hb fun b hb1 => Sd.tok (Sd.peek (Sd.bind hr fun e he1 => Sd.ret ⟨?_, rfl⟩) (Sd.bind hb fun e he1 => Sd.ret ⟨?_, rfl⟩)) (Sd.ret ⟨?_, rfl⟩))
 ·rw [(lim_fix _).2.1]
  simp [stmtS, headS, otherS, kidsR, Tree.kind, Tree.num, Tree.name, Tree.kids, show lim.expr c = true from hc, show lim.block b = true from hb1, he1.1]
  exact .inr (decide_eq_true he1.2)
 ·rw [(lim_fix _).2.1]
  simp [stmtS, headS, otherS, kidsR, Tree.kind, Tree.num, Tree.name, Tree.kids, show lim.expr c = true from hc, show lim.block b = true from hb1, show lim.block e = true from he1]
 ·rw [(lim_fix _).2.1]
  simp [stmtS, headS, otherS, kidsR, Tree.kind, Tree.num, Tree.name, Tree.kids, show lim.expr c = true from hc, show lim.block b = true from hb1]
structure GSd (g : Gr) : Prop where
 typ : Sd Ty g.typ
 block : Sd Bl g.block
 stmt : Sd Stt g.stmt
 branch : Sd If g.branch
 expr : ∀ b, Sd Ex (g.expr b)
 unary : ∀ b, Sd Ex (g.unary b)
end Go.Ps


/- PrPar -/
set_option linter.unusedVariables false
set_option linter.unusedSimpArgs false
namespace Go.Sep
attribute [local irreducible] TC TO OT TCallX TCall DO DOt thenQ blockQ retQ At
@[reducible] def PE.J (E : PE) (k : Nat) (b h : Bool) : Item := .cells E.p 0 [E.list.v, .int .i64 (k : Int), .bool b, .bool h]
def RS {β : Type} (E : PE) (T : Ps.Res β) (b : Bool) (k : Nat) (h h0 : Bool) (rest : Ps.Pp β) : Prop := (b = false → h = h0 ∧ T = rest E.f k) ∧ (b = true → T = .bad k)
section
variable {β : Type} {E : PE} {T : Ps.Res β} {b : Bool} {k : Nat} {h h0 : Bool} {rest : Ps.Pp β}
theorem RS.good (hT : T = rest E.f k) : RS E T false k h h rest := ⟨fun _ => ⟨rfl, hT⟩, fun e => (by cases e)⟩
theorem RS.bad (hT : T = .bad k) : RS E T true k h h0 rest := ⟨fun e => (by cases e), fun _ => hT⟩
theorem RS.eq {rest' : Ps.Pp β} (hs : RS E T b k h h0 rest) (he : rest = rest') : RS E T b k h h0 rest' := he ▸ hs
theorem RS.to {rest' : Ps.Pp β} (hs : RS E T b k h h0 rest) (he : b = false → rest E.f k = rest' E.f k) : RS E T b k h h0 rest' := ⟨fun hb => ⟨(hs.1 hb).1, (hs.1 hb).2.trans (he hb)⟩, hs.2⟩
theorem RS.any {rest' : Ps.Pp β} (hs : RS E T true k h h0 rest) (h' : Bool) : RS E T true k h' h0 rest' := RS.bad (hs.2 rfl)
end
def RC {α : Type} (P : Program) (mb : Mem) (E : PE) (V : RV α) (f : FuncId) (args : List Value) (h0 : Bool) (X : Ps.Pp α) : Prop :=
 ∀ (m : Mem) (L : List Item) (k : Nat) (b h : Bool), mb ≤ m → E.Ok m → k ≤ E.toks.length → (b = false → h = h0 ∧ X E.f k ≠ .out) →
  TCall P f ⟨args⟩ m (E.J k b h :: L) fun v m' L' => ∃ a k' b' h' xs, m ≤ m' ∧ k' ≤ E.toks.length ∧ V m' v xs a ∧ L' = E.J k' b' h' :: (xs ++ L) ∧
   ((b = true ∧ b' = true ∧ k' = k) ∨ (b = false ∧ b' = true ∧ X E.f k = .bad k') ∨ (b = false ∧ b' = false ∧ h' = h0 ∧ X E.f k = .ok a k'))
theorem RC.up {α : Type} {P : Program} {mb mb' : Mem} {E : PE} {V : RV α} {f : FuncId} {args : List Value} {h0 : Bool} {X : Ps.Pp α} (hp : RC P mb E V f args h0 X) (hm : mb ≤ mb') : RC P mb' E V f args h0 X := fun m L k b h hq => hp m L k b h (Mem.le_trans hm hq)
def rQ {α : Type} (E : PE) (V : RV α) (T : Ps.Res α) (h0 : Bool) (m : Mem) (L : List Item) : Value → Mem → List Item → Prop :=
 fun v m' L' => ∃ a k' b' h' xs, m ≤ m' ∧ k' ≤ E.toks.length ∧ V m' v xs a ∧ L' = E.J k' b' h' :: (xs ++ L) ∧ RS E T b' k' h' h0 (Ps.ret a)
theorem RC.enter {α : Type} {P : Program} {mb : Mem} {E : PE} {V : RV α} {f : FuncId} {args : List Value} {h0 : Bool} {X : Ps.Pp α} {fn : Func} {c : Code} (hf : P.funcs[f]? = some fn) (hb : fn.body = some c) (N : Nat) (hN : Nat.ble N fn.ntmps = true)
  (hK : ∀ (m : Mem) (L : List Item) (k : Nat) (b h : Bool) (T : Ps.Res α), mb ≤ m → E.Ok m → k ≤ E.toks.length → RS E T b k h h0 X → T ≠ .out → TC P N c (argEnv args 0) [] m (E.J k b h :: L) (retQ P fn (rQ E V T h0 m L) fun _ _ _ => False)) : RC P mb E V f args h0 X := by
 intro m L k b h h1 h2 h3 h4
 unfold TCall
 cases b with
 | true =>
  refine TCallX.mono (TCallX.enter hf hb N hN (hK m L k true h (.bad k) h1 h2 h3 (RS.bad rfl) (fun e => by cases e))) ?_ (fun _ _ _ hx => hx)
  rintro v m' L' ⟨a, k', b', h', xs, q1, q2, q3, q4, q5⟩
  cases b' with
  | false => exact absurd (q5.1 rfl).2 (fun e => by cases e)
  | true =>
   have := q5.2 rfl
   injection this with this
   exact ⟨a, k', true, h', xs, q1, q2, q3, q4, .inl ⟨rfl, rfl, this.symm⟩⟩
 | false =>
  obtain ⟨rfl, hn⟩ := h4 rfl
  refine TCallX.mono (TCallX.enter hf hb N hN (hK m L k false h (X E.f k) h1 h2 h3 (RS.good rfl) hn)) ?_ (fun _ _ _ hx => hx)
  rintro v m' L' ⟨a, k', b', h', xs, q1, q2, q3, q4, q5⟩
  cases b' with
  | true => exact ⟨a, k', true, h', xs, q1, q2, q3, q4, .inr (.inl ⟨rfl, rfl, q5.2 rfl⟩)⟩
  | false => exact ⟨a, k', false, h', xs, q1, q2, q3, q4, .inr (.inr ⟨rfl, rfl, (q5.1 rfl).1, (q5.1 rfl).2⟩)⟩
section
variable {P : Program} {N : Nat} {ρ : Env} {D : List Deferred} {m : Mem} {L : List Item} {Q : EPost} {o : Oper} {K : Env → Mem → List Item → Prop} {E : PE} {α β : Type}
section
variable {FF : Operand} {args : List Operand} {ats : Array TypeId} {f : FuncId} {first cap vs all : List Value} {d : Nat} {h h0 b : Bool} {T : Ps.Res β} {k : Nat} {m0 mb : Mem}
end
end
end Go.Sep


/- PrW1 -/
set_option linter.unusedVariables false
set_option linter.unusedSimpArgs false
namespace Go.Sep
open Go.Proofs
attribute [local irreducible] TC TO OT TCallX TCall DO DOt thenQ blockQ retQ At
def nowD (E : PE) (b : Bool) (k : Nat) : Str := bif b then [] else match E.toks[k]? with
 | some t => if t.kind = 4 ∨ t.kind = 5 then t.text else []
 | none => []
section
variable {E : PE} {m : Mem} {L : List Item} {k : Nat} {b h : Bool}
theorem nowD_eq {s : Str} (hs : s ≠ []) : decide (nowD E b k = s) = (!b && Ps.isM s E.f k) := by
 unfold nowD
 cases b with
 | true => simp only [cond_true, Bool.not_true, Bool.false_and, decide_eq_false_iff_not]; exact fun e => hs e.symm
 | false =>
  simp only [cond_false, Bool.not_false, Bool.true_and]
  rcases Nat.lt_or_ge k E.toks.length with hlt | hge
  ·rw [List.getElem?_eq_getElem hlt, PE.isM hlt]
   simp only
   by_cases h1 : E.toks[k].kind = 4 ∨ E.toks[k].kind = 5
   ·rcases h1 with h1 | h1 <;> simp [h1]
   ·have h2 : ¬ E.toks[k].kind = 4 := fun e => h1 (.inl e)
    have h3 : ¬ E.toks[k].kind = 5 := fun e => h1 (.inr e)
    simp [h2, h3]
    exact hs
  ·rw [List.getElem?_eq_none hge, PE.isM_no hge]
   simp only [decide_eq_false_iff_not]
   exact fun e => hs e.symm
set_option maxHeartbeats 1000000 in
theorem now_law (hE : E.Ok m) (hk : k ≤ E.toks.length) : TCall Tryz.prog 77 ⟨[E.v]⟩ m (E.J k b h :: L) (Ret (strV (nowD E b k)) m (E.J k b h :: L)) := by
 have hlen := hE.rep.len
 have hfew := hE.few
 unfold TCall
 refine TCallX.enter Tryz.func77 rfl 58 rfl ?_
 repeat (first|refine q1 ?_|refine q3 ?_|refine q4 tab rfl rfl ?_|refine q5 ?_|refine q6 ?_)
 unfold nowD
 cases b with
 | true =>
  refine TC.draw0 [] mixed 44 rfl ?_
  refine DO.pure tab (by repeat (first|exact Calm.ret|refine Calm.then ?_)) (by kernel_rfl) [0, 1, 2] (by kernel_rfl) rfl ?_
  (refine DO.loadL tab 3 0 (by repeat (first|exact Calm.ret|refine Calm.then ?_)) (by kernel_rfl) (by kernel_rfl) rfl rfl rfl rfl rfl rfl rfl rfl ?_)
  refine DO.pure tab (by repeat (first|exact Calm.ret|refine Calm.then ?_)) (by kernel_rfl) [4, 5, 6, 7, 8, 9, 10, 11, 12, 13, 14, 15, 16, 17, 18, 19, 20, 21, 22, 23, 24, 25, 26, 27, 28, 29, 30, 31, 32, 33, 34, 35, 36, 37, 38, 39, 40, 41, 42, 43] (by kernel_rfl) rfl ?_
  (refine DO.nil0 (by kernel_rfl) ?_)
  rotate_left 1
  repeat (first|refine q1 ?_|refine q3 ?_|refine q4 tab rfl rfl ?_|refine q5 ?_|refine q6 ?_|refine q8 ?_|refine q15 ?_|refine q16 rfl ?_)
  refine retQ_ret rfl (by repeat (exact List.Sublist.refl _)) ⟨rfl, rfl, ?_⟩
  rfl
 | false =>
  rcases Nat.lt_or_ge k E.toks.length with hlt | hge
  ·have hx : E.toks[k]? = some E.toks[k] := List.getElem?_eq_getElem hlt
   rw [hx]
   refine TC.draw0 [] mixed 44 rfl ?_
   refine DO.pure tab (by repeat (first|exact Calm.ret|refine Calm.then ?_)) (by kernel_rfl) [0, 1, 2] (by kernel_rfl) rfl ?_
   (refine DO.loadL tab 3 0 (by repeat (first|exact Calm.ret|refine Calm.then ?_)) (by kernel_rfl) (by kernel_rfl) rfl rfl rfl rfl rfl rfl rfl rfl ?_)
   refine DO.pure tab (by repeat (first|exact Calm.ret|refine Calm.then ?_)) (by kernel_rfl) [4, 5, 6, 7] (by kernel_rfl) rfl ?_
   (refine DO.loadL tab 8 0 (by repeat (first|exact Calm.ret|refine Calm.then ?_)) (by kernel_rfl) (by kernel_rfl) rfl rfl rfl rfl rfl rfl rfl rfl ?_)
   refine DO.pure tab (by repeat (first|exact Calm.ret|refine Calm.then ?_)) (by kernel_rfl) [9, 10, 11] (by kernel_rfl) rfl ?_
   (refine DO.loadL tab 12 0 (by repeat (first|exact Calm.ret|refine Calm.then ?_)) (by kernel_rfl) (by kernel_rfl) rfl rfl rfl rfl rfl rfl rfl rfl ?_)
   refine DO.pure tab (by repeat (first|exact Calm.ret|refine Calm.then ?_)) (by kernel_rfl) [13, 14, 15, 16] (by kernel_rfl) rfl ?_
   (refine DO.splitP (d := 19) rfl (fun hg16 => ?_) (fun hg16 => ?_))
   ·first | (exfalso; omega) | exact absurd rfl hg16 | exact absurd (by assumption) hg16 | contradiction
   refine DO.pure tab (by repeat (first|exact Calm.ret|refine Calm.then ?_)) (by kernel_rfl) [17, 18, 19] (by kernel_rfl) rfl ?_
   (refine DO.loadL tab 20 0 (by repeat (first|exact Calm.ret|refine Calm.then ?_)) (by kernel_rfl) (by kernel_rfl) rfl rfl rfl rfl rfl rfl rfl rfl ?_)
   refine DO.pure tab (by repeat (first|exact Calm.ret|refine Calm.then ?_)) (by kernel_rfl) [21, 22, 23] (by kernel_rfl) rfl ?_
   (refine DO.loadL tab 24 0 (by repeat (first|exact Calm.ret|refine Calm.then ?_)) (by kernel_rfl) (by kernel_rfl) rfl rfl rfl rfl rfl rfl rfl rfl ?_)
   refine DO.index tab rTok 25 k hE.rep (by repeat (first|exact Calm.ret|refine Calm.then ?_)) (by kernel_rfl) (by kernel_rfl) rfl rfl rfl rfl rfl rfl rfl (by first | rfl | omega) rfl hx ?_
   rintro b i hd hr hA; obtain rfl := (show hd = E.toks[k] from hr)
   refine DO.pure tab (by repeat (first|exact Calm.ret|refine Calm.then ?_)) (by kernel_rfl) [26] (by kernel_rfl) rfl ?_
   (refine DO.loadA tab 27 hA (by repeat (first|exact Calm.ret|refine Calm.then ?_)) (by kernel_rfl) (by kernel_rfl) rfl rfl rfl rfl rfl rfl rfl ?_)
   refine DO.pure tab (by repeat (first|exact Calm.ret|refine Calm.then ?_)) (by kernel_rfl) [28, 29] (by kernel_rfl) rfl ?_
   (refine DO.splitN (d := 32) rfl (fun hg29 => ?_) (fun hg29 => ?_))
   refine DO.pure tab (by repeat (first|exact Calm.ret|refine Calm.then ?_)) (by kernel_rfl) [30, 31, 32] (by kernel_rfl) rfl ?_
   (refine DO.loadL tab 33 0 (by repeat (first|exact Calm.ret|refine Calm.then ?_)) (by kernel_rfl) (by kernel_rfl) rfl rfl rfl rfl rfl rfl rfl rfl ?_)
   refine DO.pure tab (by repeat (first|exact Calm.ret|refine Calm.then ?_)) (by kernel_rfl) [34, 35, 36] (by kernel_rfl) rfl ?_
   (refine DO.loadL tab 37 0 (by repeat (first|exact Calm.ret|refine Calm.then ?_)) (by kernel_rfl) (by kernel_rfl) rfl rfl rfl rfl rfl rfl rfl rfl ?_)
   refine DO.index tab rTok 38 k hE.rep (by repeat (first|exact Calm.ret|refine Calm.then ?_)) (by kernel_rfl) (by kernel_rfl) rfl rfl rfl rfl rfl rfl rfl (by first | rfl | omega) rfl hx ?_
   rintro b' i' hd' hr' hA'; obtain rfl := (show hd' = E.toks[k] from hr')
   refine DO.pure tab (by repeat (first|exact Calm.ret|refine Calm.then ?_)) (by kernel_rfl) [39] (by kernel_rfl) rfl ?_
   (refine DO.loadA tab 40 hA' (by repeat (first|exact Calm.ret|refine Calm.then ?_)) (by kernel_rfl) (by kernel_rfl) rfl rfl rfl rfl rfl rfl rfl ?_)
   refine DO.pure tab (by repeat (first|exact Calm.ret|refine Calm.then ?_)) (by kernel_rfl) [41, 42, 43] (by kernel_rfl) rfl ?_
   (refine DO.nil0 (by kernel_rfl) ?_)
   rotate_left 1
   refine DO.pure tab (by repeat (first|exact Calm.ret|refine Calm.then ?_)) (by kernel_rfl) [30, 31, 32, 33, 34, 35, 36, 37, 38, 39, 40, 41, 42, 43] (by kernel_rfl) rfl ?_
   (refine DO.nil0 (by kernel_rfl) ?_)
   rotate_left 1
   all_goals repeat (first|refine q1 ?_|refine q6 ?_|refine q13 ?_|refine q17 rfl ?_)
   ·refine TC.condN rfl (fun hg5 => ?_) (fun hg5 => ?_)
    ·repeat (first|refine q1 ?_|refine q3 ?_|refine q4 tab rfl rfl ?_|refine q5 ?_|refine q6 ?_|refine q8 ?_|refine q15 ?_)
     refine retQ_ret rfl (by repeat (exact List.Sublist.refl _)) ⟨rfl, rfl, ?_⟩
     simp_all
    ·repeat (first|refine q1 ?_|refine q6 ?_|refine q13 ?_)
     refine TC.draw0 [] mixed 12 rfl ?_
     refine DO.pure tab (by repeat (first|exact Calm.ret|refine Calm.then ?_)) (by kernel_rfl) [0, 1, 2] (by kernel_rfl) rfl ?_
     (refine DO.loadL tab 3 0 (by repeat (first|exact Calm.ret|refine Calm.then ?_)) (by kernel_rfl) (by kernel_rfl) rfl rfl rfl rfl rfl rfl rfl rfl ?_)
     refine DO.pure tab (by repeat (first|exact Calm.ret|refine Calm.then ?_)) (by kernel_rfl) [4, 5, 6] (by kernel_rfl) rfl ?_
     (refine DO.loadL tab 7 0 (by repeat (first|exact Calm.ret|refine Calm.then ?_)) (by kernel_rfl) (by kernel_rfl) rfl rfl rfl rfl rfl rfl rfl rfl ?_)
     refine DO.index tab rTok 8 k hE.rep (by repeat (first|exact Calm.ret|refine Calm.then ?_)) (by kernel_rfl) (by kernel_rfl) rfl rfl rfl rfl rfl rfl rfl (by first | rfl | omega) rfl hx ?_
     rintro b2 i2 hd2 hr2 hA2; obtain rfl := (show hd2 = E.toks[k] from hr2)
     refine DO.pure tab (by repeat (first|exact Calm.ret|refine Calm.then ?_)) (by kernel_rfl) [9] (by kernel_rfl) rfl ?_
     (refine DO.loadA tab 10 hA2 (by repeat (first|exact Calm.ret|refine Calm.then ?_)) (by kernel_rfl) (by kernel_rfl) rfl rfl rfl rfl rfl rfl rfl ?_)
     refine DO.pure tab (by repeat (first|exact Calm.ret|refine Calm.then ?_)) (by kernel_rfl) [11] (by kernel_rfl) rfl ?_
     (refine DO.nil0 (by kernel_rfl) ?_)
     rotate_left 1
     repeat (first|refine q6 ?_|refine q15 ?_)
     refine retQ_ret rfl (by repeat (exact List.Sublist.refl _)) ⟨rfl, rfl, ?_⟩
     simp_all
   ·skip
    refine TC.draw0 [] mixed 12 rfl ?_
    refine DO.pure tab (by repeat (first|exact Calm.ret|refine Calm.then ?_)) (by kernel_rfl) [0, 1, 2] (by kernel_rfl) rfl ?_
    (refine DO.loadL tab 3 0 (by repeat (first|exact Calm.ret|refine Calm.then ?_)) (by kernel_rfl) (by kernel_rfl) rfl rfl rfl rfl rfl rfl rfl rfl ?_)
    refine DO.pure tab (by repeat (first|exact Calm.ret|refine Calm.then ?_)) (by kernel_rfl) [4, 5, 6] (by kernel_rfl) rfl ?_
    (refine DO.loadL tab 7 0 (by repeat (first|exact Calm.ret|refine Calm.then ?_)) (by kernel_rfl) (by kernel_rfl) rfl rfl rfl rfl rfl rfl rfl rfl ?_)
    refine DO.index tab rTok 8 k hE.rep (by repeat (first|exact Calm.ret|refine Calm.then ?_)) (by kernel_rfl) (by kernel_rfl) rfl rfl rfl rfl rfl rfl rfl (by first | rfl | omega) rfl hx ?_
    rintro b2 i2 hd2 hr2 hA2; obtain rfl := (show hd2 = E.toks[k] from hr2)
    refine DO.pure tab (by repeat (first|exact Calm.ret|refine Calm.then ?_)) (by kernel_rfl) [9] (by kernel_rfl) rfl ?_
    (refine DO.loadA tab 10 hA2 (by repeat (first|exact Calm.ret|refine Calm.then ?_)) (by kernel_rfl) (by kernel_rfl) rfl rfl rfl rfl rfl rfl rfl ?_)
    refine DO.pure tab (by repeat (first|exact Calm.ret|refine Calm.then ?_)) (by kernel_rfl) [11] (by kernel_rfl) rfl ?_
    (refine DO.nil0 (by kernel_rfl) ?_)
    rotate_left 1
    repeat (first|refine q6 ?_|refine q15 ?_)
    refine retQ_ret rfl (by repeat (exact List.Sublist.refl _)) ⟨rfl, rfl, ?_⟩
    simp_all
  ·rw [List.getElem?_eq_none hge]
   refine TC.draw0 [] mixed 44 rfl ?_
   refine DO.pure tab (by repeat (first|exact Calm.ret|refine Calm.then ?_)) (by kernel_rfl) [0, 1, 2] (by kernel_rfl) rfl ?_
   (refine DO.loadL tab 3 0 (by repeat (first|exact Calm.ret|refine Calm.then ?_)) (by kernel_rfl) (by kernel_rfl) rfl rfl rfl rfl rfl rfl rfl rfl ?_)
   refine DO.pure tab (by repeat (first|exact Calm.ret|refine Calm.then ?_)) (by kernel_rfl) [4, 5, 6, 7] (by kernel_rfl) rfl ?_
   (refine DO.loadL tab 8 0 (by repeat (first|exact Calm.ret|refine Calm.then ?_)) (by kernel_rfl) (by kernel_rfl) rfl rfl rfl rfl rfl rfl rfl rfl ?_)
   refine DO.pure tab (by repeat (first|exact Calm.ret|refine Calm.then ?_)) (by kernel_rfl) [9, 10, 11] (by kernel_rfl) rfl ?_
   (refine DO.loadL tab 12 0 (by repeat (first|exact Calm.ret|refine Calm.then ?_)) (by kernel_rfl) (by kernel_rfl) rfl rfl rfl rfl rfl rfl rfl rfl ?_)
   refine DO.pure tab (by repeat (first|exact Calm.ret|refine Calm.then ?_)) (by kernel_rfl) [13, 14, 15, 16] (by kernel_rfl) rfl ?_
   (refine DO.splitP (d := 19) rfl (fun hg16 => ?_) (fun hg16 => ?_))
   refine DO.pure tab (by repeat (first|exact Calm.ret|refine Calm.then ?_)) (by kernel_rfl) [17, 18, 19, 20, 21, 22, 23, 24, 25, 26, 27, 28, 29, 30, 31, 32, 33, 34, 35, 36, 37, 38, 39, 40, 41, 42, 43] (by kernel_rfl) rfl ?_
   (refine DO.nil0 (by kernel_rfl) ?_)
   rotate_left 1
   ·first | (exfalso; omega) | exact absurd rfl hg16 | exact absurd (by assumption) hg16 | contradiction
   repeat (first|refine q1 ?_|refine q3 ?_|refine q4 tab rfl rfl ?_|refine q5 ?_|refine q6 ?_|refine q8 ?_|refine q15 ?_|refine q16 rfl ?_)
   refine retQ_ret rfl (by repeat (exact List.Sublist.refl _)) ⟨rfl, rfl, ?_⟩
   rfl
@[reducible] def takes (E : PE) (b : Bool) (k : Nat) (s : Str) : Bool := !b && Ps.isM s E.f k
theorem rtake_law (s : Str) (hs : s ≠ []) (hE : E.Ok m) (hk : k ≤ E.toks.length) : TCall Tryz.prog 35 ⟨[E.v, strV s]⟩ m (E.J k b h :: L) (Ret (.bool (takes E b k s)) m (E.J (bif takes E b k s then k + 1 else k) b h :: L)) := by
 have hfew := hE.few
 unfold TCall
 refine TCallX.enter Tryz.func35 rfl 16 rfl ?_
 repeat (first|refine q1 ?_|refine q3 ?_|refine q4 tab rfl rfl ?_|refine q5 ?_|refine q6 ?_)
 refine TO.step rfl (OT.call rfl rfl rfl rfl rfl rfl goes77 ((now_law hE hk).x ?_));
 rintro _ _ _ ⟨rfl, rfl, rfl⟩
 have hn := nowD_eq (E := E) (b := b) (k := k) hs
 repeat (first|refine q4 tab rfl rfl ?_|refine q5 ?_|refine q6 ?_)
 refine TC.condN rfl (fun hc => ?_) (fun hc => ?_)
 ·rw [decide_eq_false hc] at hn
  unfold takes
  rw [← hn]
  repeat (first|refine q1 ?_|refine q3 ?_|refine q4 tab rfl rfl ?_|refine q5 ?_|refine q6 ?_|refine q8 ?_|refine q15 ?_)
  refine retQ_ret rfl (L' := E.J k b h :: L) (by repeat (exact List.Sublist.refl _)) ⟨rfl, rfl, rfl⟩
 ·rw [decide_eq_true hc] at hn
  unfold takes
  rw [← hn]
  repeat (first|refine q1 ?_|refine q3 ?_|refine q4 tab rfl rfl ?_|refine q6 ?_|refine q13 ?_)
  (refine qs rfl (ql tab 0 rfl rfl rfl rfl rfl rfl ?_))
  refine TO.step rfl (OT.arith (r' := ((k + 1 : Nat) : Int)) rfl rfl rfl rfl rfl rfl rfl (by omega) ?_)
  repeat (refine q4 tab rfl rfl ?_)
  refine TO.step rfl (OT.storeL (k := 1) tab 0 rfl rfl rfl rfl rfl rfl rfl rfl ?_)
  repeat (first|refine q1 ?_|refine q3 ?_|refine q4 tab rfl rfl ?_|refine q5 ?_|refine q6 ?_|refine q15 ?_)
  refine retQ_ret rfl (L' := E.J (k + 1) b h :: L) (by repeat (exact List.Sublist.refl _)) ⟨rfl, rfl, rfl⟩
end
theorem node_law (m : Mem) (L : List Item) (kd : Int) (nm : Str) (s : Sl) : TCall Tryz.prog 22 ⟨[.int .i64 kd, strV nm, s.v]⟩ m L (Ret (treeV ⟨kd, nm, 0, s⟩) m L) := by
 unfold TCall
 refine TCallX.enter Tryz.func22 rfl 11 rfl ?_
 repeat (first|refine q1 ?_|refine q3 ?_)
 refine TO.step rfl (OT.alloc tab rfl rfl rfl rfl (fun b => ?_))
 repeat (first|refine q1 ?_|refine q3 ?_|refine q4 tab rfl rfl ?_|refine q5 ?_|refine q6 ?_)
 (refine TO.step rfl (OT.storeL0 tab 0 rfl rfl rfl rfl rfl rfl rfl rfl ?_))
 repeat (first|refine q5 ?_|refine q6 ?_|refine q15 ?_)
 refine retQ_ret_c1 tab 0 rfl rfl rfl rfl (L' := L) (by repeat (first|exact List.Sublist.refl _|refine List.Sublist.cons _ ?_)) ⟨rfl, rfl, rfl⟩
section
variable {N : Nat} {ρ : Env} {m : Mem} {L : List Item} {Q : EPost} {o : Oper} {K : Env → Mem → List Item → Prop} {E : PE} {β : Type}
 {FF : Operand} {args : List Operand} {ats : Array TypeId} {first cap vs : List Value} {d : Nat} {b h h0 : Bool} {T : Ps.Res β} {k : Nat} {s : Str} {A B : Ps.Pp β} {D : List Deferred}
theorem OT.node {kd : Int} {nm : Str} {sl : Sl}
  (ho : o.op = .call ⟨.value FF, ⟨args⟩, ats⟩) (hd : o.dst = some d) (hN : Nat.blt d N = true)
  (hF : ev ρ FF = some (.func (.func 22) ⟨first⟩ ⟨cap⟩)) (ha : evs ρ args = some vs) (hall : fl (first ++ (vs ++ cap)) = some [.int .i64 kd, strV nm, sl.v])
  (hK : K ((d, treeV ⟨kd, nm, 0, sl⟩) :: ρ) m L) : OT Tryz.prog N o ρ D m L Q K := by
 refine OT.call ho hd hN hF ha hall goes22 ((node_law m L kd nm sl).x ?_)
 rintro _ _ _ ⟨rfl, rfl, rfl⟩
 exact hK
end
end Go.Sep


/- PrW2 -/
set_option linter.unusedVariables false
set_option linter.unusedSimpArgs false
namespace Go.Sep
open Go.Proofs
attribute [local irreducible] TC TO OT TCallX TCall DO DOt thenQ blockQ retQ At
theorem RS.dry {E : PE} {β : Type} {T : Ps.Res β} {k : Nat} {h h0 : Bool} (hS : RS E T false k h h0 Ps.dry) (hn : T ≠ .out) : False := hn (hS.1 rfl).2
section
variable {mb : Mem} {E : PE} {h0 : Bool}
end
end Go.Sep


/- PrW3 -/
set_option linter.unusedVariables false
set_option linter.unusedSimpArgs false
namespace Go.Sep
open Go.Proofs
attribute [local irreducible] TC TO OT TCallX TCall DO DOt thenQ blockQ retQ At
section
variable {E : PE} {β : Type} {T : Ps.Res β} {k : Nat} {b h h0 : Bool} {s : Str} {A B : Ps.Pp β}
theorem RS.tok_t (hS : RS E T false k h h0 (Ps.tok s A B)) (hb : Ps.isM s E.f k = true) : RS E T false (k + 1) h h0 A := ⟨fun _ => ⟨(hS.1 rfl).1, (hS.1 rfl).2.trans (Ps.tok_t hb)⟩, fun e => (by cases e)⟩
theorem RS.tok_f (hS : RS E T b k h h0 (Ps.tok s A B)) (hb : (!b && Ps.isM s E.f k) = false) : RS E T b k h h0 B := hS.to fun e => Ps.tok_f (by rw [e] at hb; exact hb)
end
section
variable {mb : Mem} {E : PE} {h0 : Bool}
end
end Go.Sep


/- PrW4 -/
set_option linter.unusedVariables false
set_option linter.unusedSimpArgs false
namespace Go.Sep
open Go.Proofs
attribute [local irreducible] TC TO OT TCallX TCall DO DOt thenQ blockQ retQ At
section
variable {mb : Mem} {E : PE} {h0 : Bool}
end
end Go.Sep


/- PrW5 -/
set_option linter.unusedVariables false
set_option linter.unusedSimpArgs false
namespace Go.Sep
open Go.Proofs
attribute [local irreducible] TC TO OT TCallX TCall DO DOt thenQ blockQ retQ At
section
variable {E : PE} {β : Type} {T : Ps.Res β} {k : Nat} {b h h0 : Bool} {A B : Ps.Pp β}
theorem RS.set (hS : RS E T b k h h0 A) (h' : Bool) : RS E T b k h' h' A := ⟨fun e => ⟨rfl, (hS.1 e).2⟩, hS.2⟩
end
section
variable {mb : Mem} {E : PE} {h0 : Bool}
end
end Go.Sep


/- PrW6 -/
set_option linter.unusedVariables false
set_option linter.unusedSimpArgs false
namespace Go.Sep
open Go.Proofs
attribute [local irreducible] TC TO OT TCallX TCall DO DOt thenQ blockQ retQ At
section
variable {mb : Mem} {E : PE} {h0 : Bool}
end
end Go.Sep


/- PrW7 -/
set_option linter.unusedVariables false
set_option linter.unusedSimpArgs false
namespace Go.Sep
open Go.Proofs
attribute [local irreducible] TC TO OT TCallX TCall DO DOt thenQ blockQ retQ At
section
variable {mb : Mem} {E : PE}
end
end Go.Sep


/- PrW8 -/
set_option linter.unusedVariables false
set_option linter.unusedSimpArgs false
namespace Go.Sep
open Go.Proofs
attribute [local irreducible] TC TO OT TCallX TCall DO DOt thenQ blockQ retQ At
section
variable {mb : Mem} {E : PE}
end
end Go.Sep


/- PrClimb -/
set_option linter.unusedVariables false
set_option linter.unusedSimpArgs false
namespace Go.Ps
open Go.Sep (Tree Str)
variable {β : Type}
def opsAt (l : Nat) : List Str := (levels[l]?).getD []
end Go.Ps


/- PrW9 -/
set_option linter.unusedVariables false
set_option linter.unusedSimpArgs false
namespace Go.Sep
open Go.Proofs
attribute [local irreducible] TC TO OT TCallX TCall DO DOt thenQ blockQ retQ At
def levelD (s : Str) : Nat :=
 if s = [124, 124] then 1 else if s = [38, 38] then 2
 else if s = [61, 61] ∨ s = [33, 61] ∨ s = [60] ∨ s = [60, 61] ∨ s = [62] ∨ s = [62, 61] then 3
 else if s = [43] ∨ s = [45] then 4
 else if s = [42] ∨ s = [47] ∨ s = [37] then 5 else 0
theorem levelD_pos {s : Str} (h : levelD s ≠ 0) : ∃ l, l < 5 ∧ levelD s = l + 1 ∧ s ∈ Ps.opsAt l := by
 unfold levelD at h ⊢
 by_cases h1 : s = [124, 124]
 ·exact ⟨0, by decide, by rw [if_pos h1], by rw [h1]; decide⟩
 rw [if_neg h1] at h ⊢
 by_cases h2 : s = [38, 38]
 ·exact ⟨1, by decide, by rw [if_pos h2], by rw [h2]; decide⟩
 rw [if_neg h2] at h ⊢
 by_cases h3 : s = [61, 61] ∨ s = [33, 61] ∨ s = [60] ∨ s = [60, 61] ∨ s = [62] ∨ s = [62, 61]
 ·refine ⟨2, by decide, by rw [if_pos h3], ?_⟩
  rcases h3 with h | h | h | h | h | h <;> (rw [h]; decide)
 rw [if_neg h3] at h ⊢
 by_cases h4 : s = [43] ∨ s = [45]
 ·refine ⟨3, by decide, by rw [if_pos h4], ?_⟩
  rcases h4 with h | h <;> (rw [h]; decide)
 rw [if_neg h4] at h ⊢
 by_cases h5 : s = [42] ∨ s = [47] ∨ s = [37]
 ·refine ⟨4, by decide, by rw [if_pos h5], ?_⟩
  rcases h5 with h | h | h <;> (rw [h]; decide)
 ·rw [if_neg h5] at h; exact absurd rfl h
set_option maxHeartbeats 1000000 in
theorem level_law (m : Mem) (L : List Item) (s : Str) : TCall Tryz.prog 16 ⟨[strV s]⟩ m L (Ret (.int .i64 (levelD s : Int)) m L) := by
 unfold TCall levelD
 refine TCallX.enter Tryz.func16 rfl 22 rfl ?_
 repeat (first|refine q1 ?_|refine q2 ?_|refine q3 ?_|refine q4 tab rfl rfl ?_|refine q5 ?_|refine q6 ?_)
 refine TC.condP rfl (fun a1 => ?_) (fun a1 => ?_)
 ·skip
  subst a1
  repeat (first|refine q1 ?_|refine q3 ?_|refine q4 tab rfl rfl ?_|refine q5 ?_|refine q6 ?_|refine q8 ?_|refine q9 ?_|refine q15 ?_)
  refine retQ_ret rfl (by repeat (exact List.Sublist.refl _)) ⟨rfl, rfl, ?_⟩
  rfl
 repeat (first|refine q1 ?_|refine q3 ?_|refine q4 tab rfl rfl ?_|refine q5 ?_|refine q6 ?_)
 refine TC.condP rfl (fun a2 => ?_) (fun a2 => ?_)
 ·skip
  subst a2
  repeat (first|refine q1 ?_|refine q3 ?_|refine q4 tab rfl rfl ?_|refine q5 ?_|refine q6 ?_|refine q8 ?_|refine q9 ?_|refine q15 ?_)
  refine retQ_ret rfl (by repeat (exact List.Sublist.refl _)) ⟨rfl, rfl, ?_⟩
  rfl
 repeat (first|refine q1 ?_|refine q3 ?_|refine q4 tab rfl rfl ?_|refine q5 ?_|refine q6 ?_)
 refine TC.condP rfl (fun a3 => ?_) (fun a3 => ?_)
 ·skip
  subst a3
  repeat (first|refine q1 ?_|refine q3 ?_|refine q4 tab rfl rfl ?_|refine q5 ?_|refine q6 ?_|refine q8 ?_|refine q9 ?_|refine q13 ?_|refine q15 ?_|refine q16 rfl ?_)
  refine retQ_ret rfl (by repeat (exact List.Sublist.refl _)) ⟨rfl, rfl, ?_⟩
  rfl
 repeat (first|refine q1 ?_|refine q3 ?_|refine q4 tab rfl rfl ?_|refine q5 ?_|refine q6 ?_)
 refine TC.condP rfl (fun a4 => ?_) (fun a4 => ?_)
 ·skip
  subst a4
  repeat (first|refine q1 ?_|refine q3 ?_|refine q4 tab rfl rfl ?_|refine q5 ?_|refine q6 ?_|refine q8 ?_|refine q9 ?_|refine q13 ?_|refine q15 ?_|refine q16 rfl ?_)
  refine retQ_ret rfl (by repeat (exact List.Sublist.refl _)) ⟨rfl, rfl, ?_⟩
  rfl
 repeat (first|refine q1 ?_|refine q3 ?_|refine q4 tab rfl rfl ?_|refine q5 ?_|refine q6 ?_)
 refine TC.condP rfl (fun a5 => ?_) (fun a5 => ?_)
 ·skip
  subst a5
  repeat (first|refine q1 ?_|refine q3 ?_|refine q4 tab rfl rfl ?_|refine q5 ?_|refine q6 ?_|refine q8 ?_|refine q9 ?_|refine q13 ?_|refine q15 ?_|refine q16 rfl ?_)
  refine retQ_ret rfl (by repeat (exact List.Sublist.refl _)) ⟨rfl, rfl, ?_⟩
  rfl
 repeat (first|refine q1 ?_|refine q3 ?_|refine q4 tab rfl rfl ?_|refine q5 ?_|refine q6 ?_)
 refine TC.condP rfl (fun a6 => ?_) (fun a6 => ?_)
 ·skip
  subst a6
  repeat (first|refine q1 ?_|refine q3 ?_|refine q4 tab rfl rfl ?_|refine q5 ?_|refine q6 ?_|refine q8 ?_|refine q9 ?_|refine q13 ?_|refine q15 ?_|refine q16 rfl ?_)
  refine retQ_ret rfl (by repeat (exact List.Sublist.refl _)) ⟨rfl, rfl, ?_⟩
  rfl
 repeat (first|refine q1 ?_|refine q3 ?_|refine q4 tab rfl rfl ?_|refine q5 ?_|refine q6 ?_)
 refine TC.condP rfl (fun a7 => ?_) (fun a7 => ?_)
 ·skip
  subst a7
  repeat (first|refine q1 ?_|refine q3 ?_|refine q4 tab rfl rfl ?_|refine q5 ?_|refine q6 ?_|refine q8 ?_|refine q9 ?_|refine q13 ?_|refine q15 ?_|refine q16 rfl ?_)
  refine retQ_ret rfl (by repeat (exact List.Sublist.refl _)) ⟨rfl, rfl, ?_⟩
  rfl
 repeat (first|refine q3 ?_|refine q4 tab rfl rfl ?_|refine q5 ?_|refine q6 ?_)
 refine TC.condP rfl (fun a8 => ?_) (fun a8 => ?_)
 ·skip
  subst a8
  repeat (first|refine q1 ?_|refine q3 ?_|refine q4 tab rfl rfl ?_|refine q5 ?_|refine q6 ?_|refine q8 ?_|refine q9 ?_|refine q15 ?_)
  refine retQ_ret rfl (by repeat (exact List.Sublist.refl _)) ⟨rfl, rfl, ?_⟩
  rfl
 repeat (first|refine q1 ?_|refine q3 ?_|refine q4 tab rfl rfl ?_|refine q5 ?_|refine q6 ?_)
 refine TC.condP rfl (fun a9 => ?_) (fun a9 => ?_)
 ·skip
  subst a9
  repeat (first|refine q1 ?_|refine q3 ?_|refine q4 tab rfl rfl ?_|refine q5 ?_|refine q6 ?_|refine q8 ?_|refine q9 ?_|refine q13 ?_|refine q15 ?_|refine q16 rfl ?_)
  refine retQ_ret rfl (by repeat (exact List.Sublist.refl _)) ⟨rfl, rfl, ?_⟩
  rfl
 repeat (first|refine q3 ?_|refine q4 tab rfl rfl ?_|refine q5 ?_|refine q6 ?_)
 refine TC.condP rfl (fun a10 => ?_) (fun a10 => ?_)
 ·skip
  subst a10
  repeat (first|refine q1 ?_|refine q3 ?_|refine q4 tab rfl rfl ?_|refine q5 ?_|refine q6 ?_|refine q8 ?_|refine q9 ?_|refine q15 ?_)
  refine retQ_ret rfl (by repeat (exact List.Sublist.refl _)) ⟨rfl, rfl, ?_⟩
  rfl
 repeat (first|refine q1 ?_|refine q3 ?_|refine q4 tab rfl rfl ?_|refine q5 ?_|refine q6 ?_)
 refine TC.condP rfl (fun a11 => ?_) (fun a11 => ?_)
 ·skip
  subst a11
  repeat (first|refine q1 ?_|refine q3 ?_|refine q4 tab rfl rfl ?_|refine q5 ?_|refine q6 ?_|refine q8 ?_|refine q9 ?_|refine q13 ?_|refine q15 ?_|refine q16 rfl ?_)
  refine retQ_ret rfl (by repeat (exact List.Sublist.refl _)) ⟨rfl, rfl, ?_⟩
  rfl
 repeat (first|refine q1 ?_|refine q3 ?_|refine q4 tab rfl rfl ?_|refine q5 ?_|refine q6 ?_)
 refine TC.condP rfl (fun a12 => ?_) (fun a12 => ?_)
 ·skip
  subst a12
  repeat (first|refine q1 ?_|refine q3 ?_|refine q4 tab rfl rfl ?_|refine q5 ?_|refine q6 ?_|refine q8 ?_|refine q9 ?_|refine q13 ?_|refine q15 ?_|refine q16 rfl ?_)
  refine retQ_ret rfl (by repeat (exact List.Sublist.refl _)) ⟨rfl, rfl, ?_⟩
  rfl
 repeat (first|refine q3 ?_|refine q4 tab rfl rfl ?_|refine q5 ?_|refine q6 ?_)
 refine TC.condP rfl (fun a13 => ?_) (fun a13 => ?_)
 ·skip
  subst a13
  repeat (first|refine q1 ?_|refine q3 ?_|refine q4 tab rfl rfl ?_|refine q5 ?_|refine q6 ?_|refine q8 ?_|refine q9 ?_|refine q15 ?_)
  refine retQ_ret rfl (by repeat (exact List.Sublist.refl _)) ⟨rfl, rfl, ?_⟩
  rfl
 repeat (first|refine q1 ?_|refine q3 ?_|refine q4 tab rfl rfl ?_|refine q5 ?_|refine q6 ?_|refine q7 ?_|refine q13 ?_|refine q15 ?_)
 refine retQ_ret rfl (by repeat (exact List.Sublist.refl _)) ⟨rfl, rfl, ?_⟩
 simp [a1, a2, a3, a4, a5, a6, a7, a8, a9, a10, a11, a12, a13]
section
variable {mb : Mem} {E : PE} {h0 : Bool}
end
end Go.Sep

