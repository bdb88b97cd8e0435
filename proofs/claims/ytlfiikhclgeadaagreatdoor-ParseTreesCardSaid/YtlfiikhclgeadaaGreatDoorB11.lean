/- PrW1 -/
import Derived.Test.YtlfiikhclgeadaaGreatDoorB10
set_option linter.unusedVariables false
set_option linter.unusedSimpArgs false
namespace Go.Sep
open Go.Proofs
attribute [local irreducible] TC TO OT TCallX TCall DO DOt thenQ blockQ retQ At
def nowD (E : PE) (b : Bool) (k : Nat) : Str := bif b then [] else match E.toks[k]? with
 | some t => if t.kind = 4 ∨ t.kind = 5 then t.text else []
 | none => []
def kindD (E : PE) (b : Bool) (k : Nat) : Int := bif b then 0 else match E.toks[k]? with
 | some t => t.kind
 | none => 0
section
variable {E : PE} {m : Mem} {L : List Item} {k : Nat} {b h : Bool}
theorem nowD_eq {s : Str} (hs : s ≠ []) : decide (nowD E b k = s) = (!b && Ps.isM s E.f k) := by
 unfold nowD
 cases b with
 | true => simp only [cond_true, Bool.not_true, Bool.false_and, decide_eq_false_iff_not]; exact fun e => hs e.symm
 | false =>
  simp only [cond_false, Bool.not_false, Bool.true_and]
  rcases Nat.lt_or_ge k E.toks.length with hlt | hge
  ·rw [List.getElem?_eq_getElem hlt, PE.isM hlt]
   simp only
   by_cases h1 : E.toks[k].kind = 4 ∨ E.toks[k].kind = 5
   ·rcases h1 with h1 | h1 <;> simp [h1]
   ·have h2 : ¬ E.toks[k].kind = 4 := fun e => h1 (.inl e)
    have h3 : ¬ E.toks[k].kind = 5 := fun e => h1 (.inr e)
    simp [h2, h3]
    exact hs
  ·rw [List.getElem?_eq_none hge, PE.isM_no hge]
   simp only [decide_eq_false_iff_not]
   exact fun e => hs e.symm
theorem kindD_eq {c : Int} (hc : c ≠ 0) : decide (kindD E b k = c) = (!b && Ps.isK c E.f k) := by
 unfold kindD
 cases b with
 | true => simp only [cond_true, Bool.not_true, Bool.false_and, decide_eq_false_iff_not]; exact fun e => hc e.symm
 | false =>
  simp only [cond_false, Bool.not_false, Bool.true_and]
  rcases Nat.lt_or_ge k E.toks.length with hlt | hge
  ·rw [List.getElem?_eq_getElem hlt, PE.isK hlt]
  ·rw [List.getElem?_eq_none hge, PE.isK_no hge]
   simp only [decide_eq_false_iff_not]
   exact fun e => hc e.symm
set_option maxHeartbeats 1000000 in
theorem now_law (hE : E.Ok m) (hk : k ≤ E.toks.length) : TCall Tryz.prog 77 ⟨[E.v]⟩ m (E.J k b h :: L) (Ret (strV (nowD E b k)) m (E.J k b h :: L)) := by
 have hlen := hE.rep.len
 have hfew := hE.few
 unfold TCall
 refine TCallX.enter Tryz.func77 rfl 58 rfl ?_
 repeat (first|refine q1 ?_|refine q3 ?_|refine q4 tab rfl rfl ?_|refine q5 ?_|refine q6 ?_)
 unfold nowD
 cases b with
 | true =>
  refine TC.draw0 [] mixed 44 rfl ?_
  refine DO.pure tab (by repeat (first|exact Calm.ret|refine Calm.then ?_)) (by kernel_rfl) [0, 1, 2] (by kernel_rfl) rfl ?_
  (refine DO.loadL tab 3 0 (by repeat (first|exact Calm.ret|refine Calm.then ?_)) (by kernel_rfl) (by kernel_rfl) rfl rfl rfl rfl rfl rfl rfl rfl ?_)
  refine DO.pure tab (by repeat (first|exact Calm.ret|refine Calm.then ?_)) (by kernel_rfl) [4, 5, 6, 7, 8, 9, 10, 11, 12, 13, 14, 15, 16, 17, 18, 19, 20, 21, 22, 23, 24, 25, 26, 27, 28, 29, 30, 31, 32, 33, 34, 35, 36, 37, 38, 39, 40, 41, 42, 43] (by kernel_rfl) rfl ?_
  (refine DO.nil0 (by kernel_rfl) ?_)
  rotate_left 1
  repeat (first|refine q1 ?_|refine q3 ?_|refine q4 tab rfl rfl ?_|refine q5 ?_|refine q6 ?_|refine q8 ?_|refine q15 ?_|refine q16 rfl ?_)
  refine retQ_ret rfl (by repeat (exact List.Sublist.refl _)) ⟨rfl, rfl, ?_⟩
  rfl
 | false =>
  rcases Nat.lt_or_ge k E.toks.length with hlt | hge
  ·have hx : E.toks[k]? = some E.toks[k] := List.getElem?_eq_getElem hlt
   rw [hx]
   refine TC.draw0 [] mixed 44 rfl ?_
   refine DO.pure tab (by repeat (first|exact Calm.ret|refine Calm.then ?_)) (by kernel_rfl) [0, 1, 2] (by kernel_rfl) rfl ?_
   (refine DO.loadL tab 3 0 (by repeat (first|exact Calm.ret|refine Calm.then ?_)) (by kernel_rfl) (by kernel_rfl) rfl rfl rfl rfl rfl rfl rfl rfl ?_)
   refine DO.pure tab (by repeat (first|exact Calm.ret|refine Calm.then ?_)) (by kernel_rfl) [4, 5, 6, 7] (by kernel_rfl) rfl ?_
   (refine DO.loadL tab 8 0 (by repeat (first|exact Calm.ret|refine Calm.then ?_)) (by kernel_rfl) (by kernel_rfl) rfl rfl rfl rfl rfl rfl rfl rfl ?_)
   refine DO.pure tab (by repeat (first|exact Calm.ret|refine Calm.then ?_)) (by kernel_rfl) [9, 10, 11] (by kernel_rfl) rfl ?_
   (refine DO.loadL tab 12 0 (by repeat (first|exact Calm.ret|refine Calm.then ?_)) (by kernel_rfl) (by kernel_rfl) rfl rfl rfl rfl rfl rfl rfl rfl ?_)
   refine DO.pure tab (by repeat (first|exact Calm.ret|refine Calm.then ?_)) (by kernel_rfl) [13, 14, 15, 16] (by kernel_rfl) rfl ?_
   (refine DO.splitP (d := 19) rfl (fun hg16 => ?_) (fun hg16 => ?_))
   ·first | (exfalso; omega) | exact absurd rfl hg16 | exact absurd (by assumption) hg16 | contradiction
   refine DO.pure tab (by repeat (first|exact Calm.ret|refine Calm.then ?_)) (by kernel_rfl) [17, 18, 19] (by kernel_rfl) rfl ?_
   (refine DO.loadL tab 20 0 (by repeat (first|exact Calm.ret|refine Calm.then ?_)) (by kernel_rfl) (by kernel_rfl) rfl rfl rfl rfl rfl rfl rfl rfl ?_)
   refine DO.pure tab (by repeat (first|exact Calm.ret|refine Calm.then ?_)) (by kernel_rfl) [21, 22, 23] (by kernel_rfl) rfl ?_
   (refine DO.loadL tab 24 0 (by repeat (first|exact Calm.ret|refine Calm.then ?_)) (by kernel_rfl) (by kernel_rfl) rfl rfl rfl rfl rfl rfl rfl rfl ?_)
   refine DO.index tab rTok 25 k hE.rep (by repeat (first|exact Calm.ret|refine Calm.then ?_)) (by kernel_rfl) (by kernel_rfl) rfl rfl rfl rfl rfl rfl rfl (by first | rfl | omega) rfl hx ?_
   rintro b i hd hr hA; obtain rfl := (show hd = E.toks[k] from hr)
   refine DO.pure tab (by repeat (first|exact Calm.ret|refine Calm.then ?_)) (by kernel_rfl) [26] (by kernel_rfl) rfl ?_
   (refine DO.loadA tab 27 hA (by repeat (first|exact Calm.ret|refine Calm.then ?_)) (by kernel_rfl) (by kernel_rfl) rfl rfl rfl rfl rfl rfl rfl ?_)
   refine DO.pure tab (by repeat (first|exact Calm.ret|refine Calm.then ?_)) (by kernel_rfl) [28, 29] (by kernel_rfl) rfl ?_
   (refine DO.splitN (d := 32) rfl (fun hg29 => ?_) (fun hg29 => ?_))
   refine DO.pure tab (by repeat (first|exact Calm.ret|refine Calm.then ?_)) (by kernel_rfl) [30, 31, 32] (by kernel_rfl) rfl ?_
   (refine DO.loadL tab 33 0 (by repeat (first|exact Calm.ret|refine Calm.then ?_)) (by kernel_rfl) (by kernel_rfl) rfl rfl rfl rfl rfl rfl rfl rfl ?_)
   refine DO.pure tab (by repeat (first|exact Calm.ret|refine Calm.then ?_)) (by kernel_rfl) [34, 35, 36] (by kernel_rfl) rfl ?_
   (refine DO.loadL tab 37 0 (by repeat (first|exact Calm.ret|refine Calm.then ?_)) (by kernel_rfl) (by kernel_rfl) rfl rfl rfl rfl rfl rfl rfl rfl ?_)
   refine DO.index tab rTok 38 k hE.rep (by repeat (first|exact Calm.ret|refine Calm.then ?_)) (by kernel_rfl) (by kernel_rfl) rfl rfl rfl rfl rfl rfl rfl (by first | rfl | omega) rfl hx ?_
   rintro b' i' hd' hr' hA'; obtain rfl := (show hd' = E.toks[k] from hr')
   refine DO.pure tab (by repeat (first|exact Calm.ret|refine Calm.then ?_)) (by kernel_rfl) [39] (by kernel_rfl) rfl ?_
   (refine DO.loadA tab 40 hA' (by repeat (first|exact Calm.ret|refine Calm.then ?_)) (by kernel_rfl) (by kernel_rfl) rfl rfl rfl rfl rfl rfl rfl ?_)
   refine DO.pure tab (by repeat (first|exact Calm.ret|refine Calm.then ?_)) (by kernel_rfl) [41, 42, 43] (by kernel_rfl) rfl ?_
   (refine DO.nil0 (by kernel_rfl) ?_)
   rotate_left 1
   refine DO.pure tab (by repeat (first|exact Calm.ret|refine Calm.then ?_)) (by kernel_rfl) [30, 31, 32, 33, 34, 35, 36, 37, 38, 39, 40, 41, 42, 43] (by kernel_rfl) rfl ?_
   (refine DO.nil0 (by kernel_rfl) ?_)
   rotate_left 1
   all_goals repeat (first|refine q1 ?_|refine q6 ?_|refine q13 ?_|refine q17 rfl ?_)
   ·refine TC.condN rfl (fun hg5 => ?_) (fun hg5 => ?_)
    ·repeat (first|refine q1 ?_|refine q3 ?_|refine q4 tab rfl rfl ?_|refine q5 ?_|refine q6 ?_|refine q8 ?_|refine q15 ?_)
     refine retQ_ret rfl (by repeat (exact List.Sublist.refl _)) ⟨rfl, rfl, ?_⟩
     simp_all
    ·repeat (first|refine q1 ?_|refine q6 ?_|refine q13 ?_)
     refine TC.draw0 [] mixed 12 rfl ?_
     refine DO.pure tab (by repeat (first|exact Calm.ret|refine Calm.then ?_)) (by kernel_rfl) [0, 1, 2] (by kernel_rfl) rfl ?_
     (refine DO.loadL tab 3 0 (by repeat (first|exact Calm.ret|refine Calm.then ?_)) (by kernel_rfl) (by kernel_rfl) rfl rfl rfl rfl rfl rfl rfl rfl ?_)
     refine DO.pure tab (by repeat (first|exact Calm.ret|refine Calm.then ?_)) (by kernel_rfl) [4, 5, 6] (by kernel_rfl) rfl ?_
     (refine DO.loadL tab 7 0 (by repeat (first|exact Calm.ret|refine Calm.then ?_)) (by kernel_rfl) (by kernel_rfl) rfl rfl rfl rfl rfl rfl rfl rfl ?_)
     refine DO.index tab rTok 8 k hE.rep (by repeat (first|exact Calm.ret|refine Calm.then ?_)) (by kernel_rfl) (by kernel_rfl) rfl rfl rfl rfl rfl rfl rfl (by first | rfl | omega) rfl hx ?_
     rintro b2 i2 hd2 hr2 hA2; obtain rfl := (show hd2 = E.toks[k] from hr2)
     refine DO.pure tab (by repeat (first|exact Calm.ret|refine Calm.then ?_)) (by kernel_rfl) [9] (by kernel_rfl) rfl ?_
     (refine DO.loadA tab 10 hA2 (by repeat (first|exact Calm.ret|refine Calm.then ?_)) (by kernel_rfl) (by kernel_rfl) rfl rfl rfl rfl rfl rfl rfl ?_)
     refine DO.pure tab (by repeat (first|exact Calm.ret|refine Calm.then ?_)) (by kernel_rfl) [11] (by kernel_rfl) rfl ?_
     (refine DO.nil0 (by kernel_rfl) ?_)
     rotate_left 1
     repeat (first|refine q6 ?_|refine q15 ?_)
     refine retQ_ret rfl (by repeat (exact List.Sublist.refl _)) ⟨rfl, rfl, ?_⟩
     simp_all
   ·skip
    refine TC.draw0 [] mixed 12 rfl ?_
    refine DO.pure tab (by repeat (first|exact Calm.ret|refine Calm.then ?_)) (by kernel_rfl) [0, 1, 2] (by kernel_rfl) rfl ?_
    (refine DO.loadL tab 3 0 (by repeat (first|exact Calm.ret|refine Calm.then ?_)) (by kernel_rfl) (by kernel_rfl) rfl rfl rfl rfl rfl rfl rfl rfl ?_)
    refine DO.pure tab (by repeat (first|exact Calm.ret|refine Calm.then ?_)) (by kernel_rfl) [4, 5, 6] (by kernel_rfl) rfl ?_
    (refine DO.loadL tab 7 0 (by repeat (first|exact Calm.ret|refine Calm.then ?_)) (by kernel_rfl) (by kernel_rfl) rfl rfl rfl rfl rfl rfl rfl rfl ?_)
    refine DO.index tab rTok 8 k hE.rep (by repeat (first|exact Calm.ret|refine Calm.then ?_)) (by kernel_rfl) (by kernel_rfl) rfl rfl rfl rfl rfl rfl rfl (by first | rfl | omega) rfl hx ?_
    rintro b2 i2 hd2 hr2 hA2; obtain rfl := (show hd2 = E.toks[k] from hr2)
    refine DO.pure tab (by repeat (first|exact Calm.ret|refine Calm.then ?_)) (by kernel_rfl) [9] (by kernel_rfl) rfl ?_
    (refine DO.loadA tab 10 hA2 (by repeat (first|exact Calm.ret|refine Calm.then ?_)) (by kernel_rfl) (by kernel_rfl) rfl rfl rfl rfl rfl rfl rfl ?_)
    refine DO.pure tab (by repeat (first|exact Calm.ret|refine Calm.then ?_)) (by kernel_rfl) [11] (by kernel_rfl) rfl ?_
    (refine DO.nil0 (by kernel_rfl) ?_)
    rotate_left 1
    repeat (first|refine q6 ?_|refine q15 ?_)
    refine retQ_ret rfl (by repeat (exact List.Sublist.refl _)) ⟨rfl, rfl, ?_⟩
    simp_all
  ·rw [List.getElem?_eq_none hge]
   refine TC.draw0 [] mixed 44 rfl ?_
   refine DO.pure tab (by repeat (first|exact Calm.ret|refine Calm.then ?_)) (by kernel_rfl) [0, 1, 2] (by kernel_rfl) rfl ?_
   (refine DO.loadL tab 3 0 (by repeat (first|exact Calm.ret|refine Calm.then ?_)) (by kernel_rfl) (by kernel_rfl) rfl rfl rfl rfl rfl rfl rfl rfl ?_)
   refine DO.pure tab (by repeat (first|exact Calm.ret|refine Calm.then ?_)) (by kernel_rfl) [4, 5, 6, 7] (by kernel_rfl) rfl ?_
   (refine DO.loadL tab 8 0 (by repeat (first|exact Calm.ret|refine Calm.then ?_)) (by kernel_rfl) (by kernel_rfl) rfl rfl rfl rfl rfl rfl rfl rfl ?_)
   refine DO.pure tab (by repeat (first|exact Calm.ret|refine Calm.then ?_)) (by kernel_rfl) [9, 10, 11] (by kernel_rfl) rfl ?_
   (refine DO.loadL tab 12 0 (by repeat (first|exact Calm.ret|refine Calm.then ?_)) (by kernel_rfl) (by kernel_rfl) rfl rfl rfl rfl rfl rfl rfl rfl ?_)
   refine DO.pure tab (by repeat (first|exact Calm.ret|refine Calm.then ?_)) (by kernel_rfl) [13, 14, 15, 16] (by kernel_rfl) rfl ?_
   (refine DO.splitP (d := 19) rfl (fun hg16 => ?_) (fun hg16 => ?_))
   refine DO.pure tab (by repeat (first|exact Calm.ret|refine Calm.then ?_)) (by kernel_rfl) [17, 18, 19, 20, 21, 22, 23, 24, 25, 26, 27, 28, 29, 30, 31, 32, 33, 34, 35, 36, 37, 38, 39, 40, 41, 42, 43] (by kernel_rfl) rfl ?_
   (refine DO.nil0 (by kernel_rfl) ?_)
   rotate_left 1
   ·first | (exfalso; omega) | exact absurd rfl hg16 | exact absurd (by assumption) hg16 | contradiction
   repeat (first|refine q1 ?_|refine q3 ?_|refine q4 tab rfl rfl ?_|refine q5 ?_|refine q6 ?_|refine q8 ?_|refine q15 ?_|refine q16 rfl ?_)
   refine retQ_ret rfl (by repeat (exact List.Sublist.refl _)) ⟨rfl, rfl, ?_⟩
   rfl
theorem kind_law (hE : E.Ok m) (hk : k ≤ E.toks.length) : TCall Tryz.prog 78 ⟨[E.v]⟩ m (E.J k b h :: L) (Ret (.int .i64 (kindD E b k)) m (E.J k b h :: L)) := by
 have hlen := hE.rep.len
 have hfew := hE.few
 unfold TCall
 refine TCallX.enter Tryz.func78 rfl 30 rfl ?_
 repeat (first|refine q1 ?_|refine q3 ?_|refine q4 tab rfl rfl ?_|refine q5 ?_|refine q6 ?_)
 unfold kindD
 cases b with
 | true =>
  refine TC.draw0 [] mixed 16 rfl ?_
  refine DO.pure tab (by repeat (first|exact Calm.ret|refine Calm.then ?_)) (by kernel_rfl) [0, 1, 2] (by kernel_rfl) rfl ?_
  (refine DO.loadL tab 3 0 (by repeat (first|exact Calm.ret|refine Calm.then ?_)) (by kernel_rfl) (by kernel_rfl) rfl rfl rfl rfl rfl rfl rfl rfl ?_)
  refine DO.pure tab (by repeat (first|exact Calm.ret|refine Calm.then ?_)) (by kernel_rfl) [4, 5, 6, 7, 8, 9, 10, 11, 12, 13, 14, 15] (by kernel_rfl) rfl ?_
  (refine DO.nil0 (by kernel_rfl) ?_)
  rotate_left 1
  repeat (first|refine q1 ?_|refine q3 ?_|refine q4 tab rfl rfl ?_|refine q5 ?_|refine q6 ?_|refine q8 ?_|refine q15 ?_|refine q16 rfl ?_)
  refine retQ_ret rfl (by repeat (exact List.Sublist.refl _)) ⟨rfl, rfl, ?_⟩
  rfl
 | false =>
  rcases Nat.lt_or_ge k E.toks.length with hlt | hge
  ·have hx : E.toks[k]? = some E.toks[k] := List.getElem?_eq_getElem hlt
   rw [hx]
   refine TC.draw0 [] mixed 16 rfl ?_
   refine DO.pure tab (by repeat (first|exact Calm.ret|refine Calm.then ?_)) (by kernel_rfl) [0, 1, 2] (by kernel_rfl) rfl ?_
   (refine DO.loadL tab 3 0 (by repeat (first|exact Calm.ret|refine Calm.then ?_)) (by kernel_rfl) (by kernel_rfl) rfl rfl rfl rfl rfl rfl rfl rfl ?_)
   refine DO.pure tab (by repeat (first|exact Calm.ret|refine Calm.then ?_)) (by kernel_rfl) [4, 5, 6, 7] (by kernel_rfl) rfl ?_
   (refine DO.loadL tab 8 0 (by repeat (first|exact Calm.ret|refine Calm.then ?_)) (by kernel_rfl) (by kernel_rfl) rfl rfl rfl rfl rfl rfl rfl rfl ?_)
   refine DO.pure tab (by repeat (first|exact Calm.ret|refine Calm.then ?_)) (by kernel_rfl) [9, 10, 11] (by kernel_rfl) rfl ?_
   (refine DO.loadL tab 12 0 (by repeat (first|exact Calm.ret|refine Calm.then ?_)) (by kernel_rfl) (by kernel_rfl) rfl rfl rfl rfl rfl rfl rfl rfl ?_)
   refine DO.pure tab (by repeat (first|exact Calm.ret|refine Calm.then ?_)) (by kernel_rfl) [13, 14, 15] (by kernel_rfl) rfl ?_
   (refine DO.nil0 (by kernel_rfl) ?_)
   rotate_left 1
   repeat (refine q6 ?_)
   refine TC.condP rfl (fun hc => ?_) (fun hc => ?_)
   ·omega
   repeat (first|refine q1 ?_|refine q6 ?_|refine q13 ?_)
   refine TC.draw0 [] mixed 12 rfl ?_
   refine DO.pure tab (by repeat (first|exact Calm.ret|refine Calm.then ?_)) (by kernel_rfl) [0, 1, 2] (by kernel_rfl) rfl ?_
   (refine DO.loadL tab 3 0 (by repeat (first|exact Calm.ret|refine Calm.then ?_)) (by kernel_rfl) (by kernel_rfl) rfl rfl rfl rfl rfl rfl rfl rfl ?_)
   refine DO.pure tab (by repeat (first|exact Calm.ret|refine Calm.then ?_)) (by kernel_rfl) [4, 5, 6] (by kernel_rfl) rfl ?_
   (refine DO.loadL tab 7 0 (by repeat (first|exact Calm.ret|refine Calm.then ?_)) (by kernel_rfl) (by kernel_rfl) rfl rfl rfl rfl rfl rfl rfl rfl ?_)
   refine DO.index tab rTok 8 k hE.rep (by repeat (first|exact Calm.ret|refine Calm.then ?_)) (by kernel_rfl) (by kernel_rfl) rfl rfl rfl rfl rfl rfl rfl (by first | rfl | omega) rfl hx ?_
   rintro b i hd hr hA; obtain rfl := (show hd = E.toks[k] from hr)
   refine DO.pure tab (by repeat (first|exact Calm.ret|refine Calm.then ?_)) (by kernel_rfl) [9] (by kernel_rfl) rfl ?_
   (refine DO.loadA tab 10 hA (by repeat (first|exact Calm.ret|refine Calm.then ?_)) (by kernel_rfl) (by kernel_rfl) rfl rfl rfl rfl rfl rfl rfl ?_)
   refine DO.pure tab (by repeat (first|exact Calm.ret|refine Calm.then ?_)) (by kernel_rfl) [11] (by kernel_rfl) rfl ?_
   (refine DO.nil0 (by kernel_rfl) ?_)
   rotate_left 1
   repeat (first|refine q6 ?_|refine q15 ?_)
   refine retQ_ret rfl (by repeat (exact List.Sublist.refl _)) ⟨rfl, rfl, ?_⟩
   rfl
  ·rw [List.getElem?_eq_none hge]
   refine TC.draw0 [] mixed 16 rfl ?_
   refine DO.pure tab (by repeat (first|exact Calm.ret|refine Calm.then ?_)) (by kernel_rfl) [0, 1, 2] (by kernel_rfl) rfl ?_
   (refine DO.loadL tab 3 0 (by repeat (first|exact Calm.ret|refine Calm.then ?_)) (by kernel_rfl) (by kernel_rfl) rfl rfl rfl rfl rfl rfl rfl rfl ?_)
   refine DO.pure tab (by repeat (first|exact Calm.ret|refine Calm.then ?_)) (by kernel_rfl) [4, 5, 6, 7] (by kernel_rfl) rfl ?_
   (refine DO.loadL tab 8 0 (by repeat (first|exact Calm.ret|refine Calm.then ?_)) (by kernel_rfl) (by kernel_rfl) rfl rfl rfl rfl rfl rfl rfl rfl ?_)
   refine DO.pure tab (by repeat (first|exact Calm.ret|refine Calm.then ?_)) (by kernel_rfl) [9, 10, 11] (by kernel_rfl) rfl ?_
   (refine DO.loadL tab 12 0 (by repeat (first|exact Calm.ret|refine Calm.then ?_)) (by kernel_rfl) (by kernel_rfl) rfl rfl rfl rfl rfl rfl rfl rfl ?_)
   refine DO.pure tab (by repeat (first|exact Calm.ret|refine Calm.then ?_)) (by kernel_rfl) [13, 14, 15] (by kernel_rfl) rfl ?_
   (refine DO.nil0 (by kernel_rfl) ?_)
   rotate_left 1
   repeat (refine q6 ?_)
   refine TC.condP rfl (fun hc => ?_) (fun hc => ?_)
   ·repeat (first|refine q1 ?_|refine q3 ?_|refine q4 tab rfl rfl ?_|refine q5 ?_|refine q6 ?_|refine q8 ?_|refine q15 ?_)
    refine retQ_ret rfl (by repeat (exact List.Sublist.refl _)) ⟨rfl, rfl, ?_⟩
    rfl
   ·omega
@[reducible] def takes (E : PE) (b : Bool) (k : Nat) (s : Str) : Bool := !b && Ps.isM s E.f k
theorem rtake_law (s : Str) (hs : s ≠ []) (hE : E.Ok m) (hk : k ≤ E.toks.length) : TCall Tryz.prog 35 ⟨[E.v, strV s]⟩ m (E.J k b h :: L) (Ret (.bool (takes E b k s)) m (E.J (bif takes E b k s then k + 1 else k) b h :: L)) := by
 have hfew := hE.few
 unfold TCall
 refine TCallX.enter Tryz.func35 rfl 16 rfl ?_
 repeat (first|refine q1 ?_|refine q3 ?_|refine q4 tab rfl rfl ?_|refine q5 ?_|refine q6 ?_)
 refine TO.step rfl (OT.call rfl rfl rfl rfl rfl rfl goes77 ((now_law hE hk).x ?_));
 rintro _ _ _ ⟨rfl, rfl, rfl⟩
 have hn := nowD_eq (E := E) (b := b) (k := k) hs
 repeat (first|refine q4 tab rfl rfl ?_|refine q5 ?_|refine q6 ?_)
 refine TC.condN rfl (fun hc => ?_) (fun hc => ?_)
 ·rw [decide_eq_false hc] at hn
  unfold takes
  rw [← hn]
  repeat (first|refine q1 ?_|refine q3 ?_|refine q4 tab rfl rfl ?_|refine q5 ?_|refine q6 ?_|refine q8 ?_|refine q15 ?_)
  refine retQ_ret rfl (L' := E.J k b h :: L) (by repeat (exact List.Sublist.refl _)) ⟨rfl, rfl, rfl⟩
 ·rw [decide_eq_true hc] at hn
  unfold takes
  rw [← hn]
  repeat (first|refine q1 ?_|refine q3 ?_|refine q4 tab rfl rfl ?_|refine q6 ?_|refine q13 ?_)
  (refine qs rfl (ql tab 0 rfl rfl rfl rfl rfl rfl ?_))
  refine TO.step rfl (OT.arith (r' := ((k + 1 : Nat) : Int)) rfl rfl rfl rfl rfl rfl rfl (by omega) ?_)
  repeat (refine q4 tab rfl rfl ?_)
  refine TO.step rfl (OT.storeL (k := 1) tab 0 rfl rfl rfl rfl rfl rfl rfl rfl ?_)
  repeat (first|refine q1 ?_|refine q3 ?_|refine q4 tab rfl rfl ?_|refine q5 ?_|refine q6 ?_|refine q15 ?_)
  refine retQ_ret rfl (L' := E.J (k + 1) b h :: L) (by repeat (exact List.Sublist.refl _)) ⟨rfl, rfl, rfl⟩
theorem rneed_law (s : Str) (hs : s ≠ []) (hE : E.Ok m) (hk : k ≤ E.toks.length) : TCall Tryz.prog 37 ⟨[E.v, strV s]⟩ m (E.J k b h :: L) (fun _ m' L' => m' = m ∧ L' = E.J (bif takes E b k s then k + 1 else k) (!takes E b k s) h :: L) := by
 unfold TCall
 refine TCallX.enter Tryz.func37 rfl 11 rfl ?_
 repeat (first|refine q1 ?_|refine q3 ?_|refine q4 tab rfl rfl ?_)
 refine TO.step rfl (OT.call rfl rfl rfl rfl rfl rfl goes35 ((rtake_law s hs hE hk).x ?_));
 rintro _ _ _ ⟨rfl, rfl, rfl⟩
 cases hb : takes E b k s with
 | true =>
  have : b = false := by cases b with
   | true => cases hb
   | false => rfl
  subst this
  repeat (first|refine q4 tab rfl rfl ?_|refine q5 ?_|refine q6 ?_|refine q13 ?_|refine q17 rfl ?_)
  refine retQ_n rfl (L' := E.J (k + 1) false h :: L) (by repeat (exact List.Sublist.refl _)) ⟨rfl, rfl⟩
 | false =>
  repeat (first|refine q3 ?_|refine q4 tab rfl rfl ?_|refine q5 ?_|refine q6 ?_|refine q16 rfl ?_)
  refine TO.step rfl (OT.storeL (k := 2) tab 0 rfl rfl rfl rfl rfl rfl rfl rfl ?_)
  repeat (refine q5 ?_)
  refine retQ_n rfl (L' := E.J k true h :: L) (by repeat (exact List.Sublist.refl _)) ⟨rfl, rfl⟩
theorem rname_law (hE : E.Ok m) (hk : k ≤ E.toks.length) : TCall Tryz.prog 36 ⟨[E.v]⟩ m (E.J k b h :: L)
  (fun v m' L' => m' = m ∧ ((b = false ∧ ∃ t, E.f k = some t ∧ t.kind = 1 ∧ v = strV t.text ∧ k + 1 ≤ E.toks.length ∧ L' = E.J (k + 1) false h :: L) ∨ ((b = true ∨ Ps.isK 1 E.f k = false) ∧ v = strV [] ∧ L' = E.J k true h :: L))) := by
 have hlen := hE.rep.len
 have hfew := hE.few
 unfold TCall
 refine TCallX.enter Tryz.func36 rfl 28 rfl ?_
 repeat (first|refine q1 ?_|refine q3 ?_|refine q4 tab rfl rfl ?_|refine q5 ?_|refine q6 ?_)
 refine TO.step rfl (OT.call rfl rfl rfl rfl rfl rfl goes78 ((kind_law hE hk).x ?_));
 rintro _ _ _ ⟨rfl, rfl, rfl⟩
 have hn := kindD_eq (E := E) (b := b) (k := k) (c := 1) (by decide)
 repeat (first|refine q4 tab rfl rfl ?_|refine q5 ?_|refine q6 ?_)
 refine TC.condN rfl (fun hc => ?_) (fun hc => ?_)
 ·rw [decide_eq_false hc] at hn
  repeat (first|refine q1 ?_|refine q3 ?_|refine q4 tab rfl rfl ?_)
  refine TO.step rfl (OT.storeL (k := 2) tab 0 rfl rfl rfl rfl rfl rfl rfl rfl ?_)
  repeat (first|refine q1 ?_|refine q3 ?_|refine q4 tab rfl rfl ?_|refine q5 ?_|refine q6 ?_|refine q8 ?_|refine q15 ?_)
  refine retQ_ret rfl (L' := E.J k true h :: L) (by repeat (exact List.Sublist.refl _)) ⟨rfl, .inr ⟨?_, rfl, rfl⟩⟩
  cases b with
  | true => exact .inl rfl
  | false => exact .inr hn.symm
 ·rw [decide_eq_true hc] at hn
  cases b with
  | true => cases hn
  | false =>
  have hb : Ps.isK 1 E.f k = true := hn.symm
  have hlt := PE.isK_lt hb
  have hx : E.toks[k]? = some E.toks[k] := List.getElem?_eq_getElem hlt
  have hkind : E.toks[k].kind = 1 := by rw [PE.isK hlt] at hb; simpa using hb
  repeat (first|refine q1 ?_|refine q3 ?_|refine q4 tab rfl rfl ?_|refine q6 ?_|refine q13 ?_)
  (refine qs rfl (ql tab 0 rfl rfl rfl rfl rfl rfl ?_))
  refine TO.step rfl (OT.arith (r' := ((k + 1 : Nat) : Int)) rfl rfl rfl rfl rfl rfl rfl (by omega) ?_)
  repeat (refine q4 tab rfl rfl ?_)
  refine TO.step rfl (OT.storeL (k := 1) tab 0 rfl rfl rfl rfl rfl rfl rfl rfl ?_)
  repeat (first|refine q1 ?_|refine q5 ?_|refine q6 ?_)
  refine TC.draw0 [] mixed 13 rfl ?_
  refine DO.pure tab (by repeat (first|exact Calm.ret|refine Calm.then ?_)) (by kernel_rfl) [0, 1, 2] (by kernel_rfl) rfl ?_
  (refine DO.loadL tab 3 0 (by repeat (first|exact Calm.ret|refine Calm.then ?_)) (by kernel_rfl) (by kernel_rfl) rfl rfl rfl rfl rfl rfl rfl rfl ?_)
  refine DO.pure tab (by repeat (first|exact Calm.ret|refine Calm.then ?_)) (by kernel_rfl) [4, 5, 6] (by kernel_rfl) rfl ?_
  (refine DO.loadL tab 7 0 (by repeat (first|exact Calm.ret|refine Calm.then ?_)) (by kernel_rfl) (by kernel_rfl) rfl rfl rfl rfl rfl rfl rfl rfl ?_)
  refine DO.arith 8 (r' := ((k : Nat) : Int)) (by repeat (first|exact Calm.ret|refine Calm.then ?_)) (by kernel_rfl) (by kernel_rfl) rfl rfl rfl rfl rfl rfl rfl rfl (by first | rfl | omega | (simp only; omega)) (by omega) ?_
  refine DO.index tab rTok 9 k hE.rep (by repeat (first|exact Calm.ret|refine Calm.then ?_)) (by kernel_rfl) (by kernel_rfl) rfl rfl rfl rfl rfl rfl rfl (by first | rfl | omega) rfl hx ?_
  rintro b i hd hr hA; obtain rfl := (show hd = E.toks[k] from hr)
  refine DO.pure tab (by repeat (first|exact Calm.ret|refine Calm.then ?_)) (by kernel_rfl) [10] (by kernel_rfl) rfl ?_
  (refine DO.loadA tab 11 hA (by repeat (first|exact Calm.ret|refine Calm.then ?_)) (by kernel_rfl) (by kernel_rfl) rfl rfl rfl rfl rfl rfl rfl ?_)
  refine DO.pure tab (by repeat (first|exact Calm.ret|refine Calm.then ?_)) (by kernel_rfl) [12] (by kernel_rfl) rfl ?_
  (refine DO.nil0 (by kernel_rfl) ?_)
  rotate_left 1
  repeat (first|refine q6 ?_|refine q15 ?_)
  refine retQ_ret rfl (L' := E.J (k + 1) false h :: L) (by repeat (exact List.Sublist.refl _)) ⟨rfl, .inl ⟨rfl, _, PE.f_some hlt, hkind, rfl, hlt, rfl⟩⟩
end
theorem node_law (m : Mem) (L : List Item) (kd : Int) (nm : Str) (s : Sl) : TCall Tryz.prog 22 ⟨[.int .i64 kd, strV nm, s.v]⟩ m L (Ret (treeV ⟨kd, nm, 0, s⟩) m L) := by
 unfold TCall
 refine TCallX.enter Tryz.func22 rfl 11 rfl ?_
 repeat (first|refine q1 ?_|refine q3 ?_)
 refine TO.step rfl (OT.alloc tab rfl rfl rfl rfl (fun b => ?_))
 repeat (first|refine q1 ?_|refine q3 ?_|refine q4 tab rfl rfl ?_|refine q5 ?_|refine q6 ?_)
 (refine TO.step rfl (OT.storeL0 tab 0 rfl rfl rfl rfl rfl rfl rfl rfl ?_))
 repeat (first|refine q5 ?_|refine q6 ?_|refine q15 ?_)
 refine retQ_ret_c1 tab 0 rfl rfl rfl rfl (L' := L) (by repeat (first|exact List.Sublist.refl _|refine List.Sublist.cons _ ?_)) ⟨rfl, rfl, rfl⟩
section
variable {N : Nat} {ρ : Env} {m : Mem} {L : List Item} {Q : EPost} {o : Oper} {K : Env → Mem → List Item → Prop} {E : PE} {β : Type}
 {FF : Operand} {args : List Operand} {ats : Array TypeId} {first cap vs : List Value} {d : Nat} {b h h0 : Bool} {T : Ps.Res β} {k : Nat} {s : Str} {A B : Ps.Pp β} {D : List Deferred}
theorem OT.rtake (hs : s ≠ []) (hS : RS E T b k h h0 (Ps.tok s A B)) (hE : E.Ok m) (hk : k ≤ E.toks.length)
  (ho : o.op = .call ⟨.value FF, ⟨args⟩, ats⟩) (hd : o.dst = some d) (hN : Nat.blt d N = true)
  (hF : ev ρ FF = some (.func (.func 35) ⟨first⟩ ⟨cap⟩)) (ha : evs ρ args = some vs) (hall : fl (first ++ (vs ++ cap)) = some [E.v, strV s])
  (h1 : RS E T false (k + 1) h h0 A → k + 1 ≤ E.toks.length → K ((d, .bool true) :: ρ) m (E.J (k + 1) false h :: L)) (h2 : RS E T b k h h0 B → K ((d, .bool false) :: ρ) m (E.J k b h :: L)) : OT Tryz.prog N o ρ D m (E.J k b h :: L) Q K := by
 refine OT.call ho hd hN hF ha hall goes35 ((rtake_law s hs hE hk).x ?_)
 rintro _ _ _ ⟨rfl, rfl, rfl⟩
 cases b with
 | true => exact h2 (RS.bad (hS.2 rfl))
 | false =>
  unfold takes
  cases hb : Ps.isM s E.f k with
  | true => exact h1 ⟨fun _ => ⟨(hS.1 rfl).1, (hS.1 rfl).2.trans (Ps.tok_t hb)⟩, fun e => by cases e⟩ (PE.isM_lt hb)
  | false => exact h2 (hS.to fun _ => Ps.tok_f hb)
theorem OT.rneed (hs : s ≠ []) (hS : RS E T b k h h0 (Ps.need s A)) (hE : E.Ok m) (hk : k ≤ E.toks.length)
  (ho : o.op = .call ⟨.value FF, ⟨args⟩, ats⟩) (hd : o.dst = some d) (hN : Nat.blt d N = true)
  (hF : ev ρ FF = some (.func (.func 37) ⟨first⟩ ⟨cap⟩)) (ha : evs ρ args = some vs) (hall : fl (first ++ (vs ++ cap)) = some [E.v, strV s])
  (hK : ∀ v b' k', RS E T b' k' h h0 A → k' ≤ E.toks.length → K ((d, v) :: ρ) m (E.J k' b' h :: L)) : OT Tryz.prog N o ρ D m (E.J k b h :: L) Q K := by
 refine OT.call ho hd hN hF ha hall goes37 ((rneed_law s hs hE hk).x ?_)
 rintro v _ _ ⟨rfl, rfl⟩
 cases b with
 | true => exact hK v true k (RS.bad (hS.2 rfl)) hk
 | false =>
  unfold takes
  cases hb : Ps.isM s E.f k with
  | true => exact hK v false (k + 1) ⟨fun _ => ⟨(hS.1 rfl).1, (hS.1 rfl).2.trans (Ps.tok_t hb)⟩, fun e => by cases e⟩ (PE.isM_lt hb)
  | false => exact hK v true k (RS.bad ((hS.1 rfl).2.trans (Ps.tok_f hb))) hk
theorem OT.rname {A : Str → Ps.Pp β} (hS : RS E T b k h h0 (Ps.name A)) (hE : E.Ok m) (hk : k ≤ E.toks.length)
  (ho : o.op = .call ⟨.value FF, ⟨args⟩, ats⟩) (hd : o.dst = some d) (hN : Nat.blt d N = true)
  (hF : ev ρ FF = some (.func (.func 36) ⟨first⟩ ⟨cap⟩)) (ha : evs ρ args = some vs) (hall : fl (first ++ (vs ++ cap)) = some [E.v])
  (hK : ∀ (t : Str) b' k', RS E T b' k' h h0 (A t) → k' ≤ E.toks.length → K ((d, strV t) :: ρ) m (E.J k' b' h :: L)) : OT Tryz.prog N o ρ D m (E.J k b h :: L) Q K := by
 refine OT.call ho hd hN hF ha hall goes36 ((rname_law hE hk).x ?_)
 rintro v _ _ ⟨rfl, ⟨rfl, t, h1, h2, rfl, h3, rfl⟩ | ⟨h1, rfl, rfl⟩⟩
 ·exact hK _ false (k + 1) ⟨fun _ => ⟨(hS.1 rfl).1, (hS.1 rfl).2.trans (Ps.name_t h1 h2)⟩, fun e => by cases e⟩ h3
 ·refine hK [] true k (RS.bad ?_) hk
  cases b with
  | true => exact hS.2 rfl
  | false => exact (hS.1 rfl).2.trans (Ps.name_f (h1.resolve_left (fun e => by cases e)))
theorem OT.node {kd : Int} {nm : Str} {sl : Sl}
  (ho : o.op = .call ⟨.value FF, ⟨args⟩, ats⟩) (hd : o.dst = some d) (hN : Nat.blt d N = true)
  (hF : ev ρ FF = some (.func (.func 22) ⟨first⟩ ⟨cap⟩)) (ha : evs ρ args = some vs) (hall : fl (first ++ (vs ++ cap)) = some [.int .i64 kd, strV nm, sl.v])
  (hK : K ((d, treeV ⟨kd, nm, 0, sl⟩) :: ρ) m L) : OT Tryz.prog N o ρ D m L Q K := by
 refine OT.call ho hd hN hF ha hall goes22 ((node_law m L kd nm sl).x ?_)
 rintro _ _ _ ⟨rfl, rfl, rfl⟩
 exact hK
end
end Go.Sep


/- PrW2 -/
set_option linter.unusedVariables false
set_option linter.unusedSimpArgs false
namespace Go.Sep
open Go.Proofs
attribute [local irreducible] TC TO OT TCallX TCall DO DOt thenQ blockQ retQ At
theorem RS.dry {E : PE} {β : Type} {T : Ps.Res β} {k : Nat} {h h0 : Bool} (hS : RS E T false k h h0 Ps.dry) (hn : T ≠ .out) : False := hn (hS.1 rfl).2
section
variable {mb : Mem} {E : PE} {h0 : Bool}
set_option maxHeartbeats 1000000 in
theorem rtypes_rc {X : Ps.Pp Tree} (hX : RC Tryz.prog mb E vTree 39 [E.v] h0 X) :
  RC Tryz.prog mb E vList 80 [E.v] h0 (Ps.commas E.N X) := by
 refine RC.enter Tryz.func80 rfl 15 rfl fun m L k b h T hm0 hE hk hS hn => ?_
 replace hX := hX.up hm0
 have hrows := hE.rows
 have hm : m ≤ m := Mem.le_refl _
 obtain ⟨j, hj⟩ : ∃ j, E.N = j + 1 := ⟨E.N - 1, by have := hE.pos; omega⟩
 rw [hj, Ps.commas_start] at hS
 repeat (first|refine q1 ?_|refine q3 ?_|refine q4 tab rfl rfl ?_|refine q5 ?_|refine q6 ?_)
 refine TO.step rfl (OT.rcT (hX) hm hS hn hE hk hm rfl rfl rfl rfl rfl rfl goes39 (fun x m2 a k b h hS hm hE hlex hk hrx => ?_))
 skip
 refine TO.step rfl (OT.litR tab rTree (hs := [x]) (l := [a]) ⟨rTree_iff.2 hrx, trivial⟩ rfl rfl rfl rfl rfl (by decide) (fun s m3 hle3 hs ho hc => ?_))
 refine TO.tokFo hc ho 4 ?_
 refine TO.perm (List.Perm.swap _ _ _) ?_
 repeat (first|refine q1 ?_|refine q2 ?_|refine q4 tab rfl rfl ?_|refine q5 ?_|refine q6 ?_)
 refine TC.loopK (ι := Sl × Mem × List Tree × Nat × Nat × Bool × Bool) [0] rfl (fun x => [(3, x.1.v)]) (fun x => x.2.1) (fun x => E.J x.2.2.2.1 x.2.2.2.2.2.1 x.2.2.2.2.2.2 :: tok x.1 4 :: L) (fun x => m ≤ x.2.1 ∧ E.Ok x.2.1 ∧ x.2.2.2.1 ≤ E.toks.length ∧ SlRep rTree x.2.1 x.1 x.2.2.1 ∧ Own x.1 ∧ x.2.2.1.length + x.2.2.2.2.1 = j + 1 ∧ RS E T x.2.2.2.2.2.1 x.2.2.2.1 x.2.2.2.2.2.2 h0 (Ps.more x.2.2.2.2.1 X x.2.2.1)) (fun x => x.2.2.2.2.1) (s, m3, [a], k, j, b, h) (by repeat (first|exact trivial|refine And.intro rfl ?_)) rfl (by repeat (exact List.Sublist.refl _)) ⟨Mem.le_trans hm hle3, hE.mono hle3, hk, hs, ho, by simp only [List.length_cons, List.length_nil]; omega, hS⟩ ?_
 rintro ⟨s, m3, acc, k, j2, b, h⟩ ⟨hm, hE, hk, hs, ho, hlen, hS⟩
 simp only at hm hE hk hs ho hlen hS
 show TC _ _ _ _ _ m3 (E.J k b h :: tok s 4 :: L) _
 cases j2 with
 | zero =>
  rw [Ps.more_zero] at hS
  repeat (first|refine q1 ?_|refine q3 ?_|refine q4 tab rfl rfl ?_)
  refine TO.step rfl (OT.rtake (by decide) hS hE hk rfl rfl rfl rfl rfl rfl (fun hS hk => ?_) (fun hS => ?_))
  ·exact (hS.dry hn).elim
  ·repeat (first|refine q1 ?_|refine q3 ?_|refine q4 tab rfl rfl ?_|refine q5 ?_|refine q6 ?_|refine q10 ?_|refine q11 ?_|refine q14 ?_|refine q15 ?_|refine q17 rfl ?_)
   refine retQ_ret rfl (L' := E.J k b h :: tok s 4 :: L) (by repeat (exact List.Sublist.refl _)) ⟨acc, k, b, h, [tok s 4], hm, hk, ⟨s, rfl, rfl, hs, ho, by omega⟩, rfl, hS⟩
 | succ j2 =>
  rw [Ps.more_succ] at hS
  repeat (first|refine q1 ?_|refine q3 ?_|refine q4 tab rfl rfl ?_)
  refine TO.step rfl (OT.rtake (by decide) hS hE hk rfl rfl rfl rfl rfl rfl (fun hS hk => ?_) (fun hS => ?_))
  ·repeat (first|refine q2 ?_|refine q3 ?_|refine q4 tab rfl rfl ?_|refine q5 ?_|refine q6 ?_|refine q13 ?_|refine q16 rfl ?_)
   refine TO.step rfl (OT.rcT (hX) hm hS hn hE hk hm rfl rfl rfl rfl rfl rfl goes39 (fun x m2 a k b h hS hm hE hlex hk hrx => ?_))
   skip
   refine TO.step rfl (OT.litR tab rTree (hs := [x]) (l := [a]) ⟨rTree_iff.2 hrx, trivial⟩ rfl rfl rfl rfl rfl (by decide) (fun s2 m4 hle3 hs2 ho2 hc2 => ?_))
   refine TO.step rfl (OT.append tab rTree 1 (hs.mono (Mem.le_trans hlex hle3)) ho hs2 rfl rfl rfl rfl rfl rfl rfl (by simp only [List.length_cons, List.length_nil, rTree, mkR]; omega) (fun s3 m5 hle4 hs3 ho3 => ?_))
   repeat (first|refine q4 tab rfl rfl ?_|refine q5 ?_|refine q6 ?_|refine q7 ?_)
   exact ⟨(s3, m5, acc ++ [a], k, j2, b, h), (by repeat (first|exact trivial|refine And.intro rfl ?_)), (by repeat (first|exact trivial|refine And.intro rfl ?_)), rfl, rfl, (by repeat (exact List.Sublist.refl _)), ⟨Mem.le_trans hm (Mem.le_trans hle3 hle4), hE.mono (Mem.le_trans hle3 hle4), hk, hs3, ho3, by simp only [List.length_append, List.length_cons, List.length_nil]; omega, hS⟩, by simp only; omega⟩
  ·repeat (first|refine q1 ?_|refine q3 ?_|refine q4 tab rfl rfl ?_|refine q5 ?_|refine q6 ?_|refine q10 ?_|refine q11 ?_|refine q14 ?_|refine q15 ?_|refine q17 rfl ?_)
   refine retQ_ret rfl (L' := E.J k b h :: tok s 4 :: L) (by repeat (exact List.Sublist.refl _)) ⟨acc, k, b, h, [tok s 4], hm, hk, ⟨s, rfl, rfl, hs, ho, by omega⟩, rfl, hS⟩
set_option maxHeartbeats 1000000 in
theorem rexprs_rc {X : Ps.Pp Tree} (hX : RC Tryz.prog mb E vTree 127 [E.v] h0 X) :
  RC Tryz.prog mb E vList 128 [E.v] h0 (Ps.commas E.N X) := by
 refine RC.enter Tryz.func128 rfl 15 rfl fun m L k b h T hm0 hE hk hS hn => ?_
 replace hX := hX.up hm0
 have hrows := hE.rows
 have hm : m ≤ m := Mem.le_refl _
 obtain ⟨j, hj⟩ : ∃ j, E.N = j + 1 := ⟨E.N - 1, by have := hE.pos; omega⟩
 rw [hj, Ps.commas_start] at hS
 repeat (first|refine q1 ?_|refine q3 ?_|refine q4 tab rfl rfl ?_|refine q5 ?_|refine q6 ?_)
 refine TO.step rfl (OT.rcT (hX) hm hS hn hE hk hm rfl rfl rfl rfl rfl rfl goes127 (fun x m2 a k b h hS hm hE hlex hk hrx => ?_))
 skip
 refine TO.step rfl (OT.litR tab rTree (hs := [x]) (l := [a]) ⟨rTree_iff.2 hrx, trivial⟩ rfl rfl rfl rfl rfl (by decide) (fun s m3 hle3 hs ho hc => ?_))
 refine TO.tokFo hc ho 4 ?_
 refine TO.perm (List.Perm.swap _ _ _) ?_
 repeat (first|refine q1 ?_|refine q2 ?_|refine q4 tab rfl rfl ?_|refine q5 ?_|refine q6 ?_)
 refine TC.loopK (ι := Sl × Mem × List Tree × Nat × Nat × Bool × Bool) [0] rfl (fun x => [(3, x.1.v)]) (fun x => x.2.1) (fun x => E.J x.2.2.2.1 x.2.2.2.2.2.1 x.2.2.2.2.2.2 :: tok x.1 4 :: L) (fun x => m ≤ x.2.1 ∧ E.Ok x.2.1 ∧ x.2.2.2.1 ≤ E.toks.length ∧ SlRep rTree x.2.1 x.1 x.2.2.1 ∧ Own x.1 ∧ x.2.2.1.length + x.2.2.2.2.1 = j + 1 ∧ RS E T x.2.2.2.2.2.1 x.2.2.2.1 x.2.2.2.2.2.2 h0 (Ps.more x.2.2.2.2.1 X x.2.2.1)) (fun x => x.2.2.2.2.1) (s, m3, [a], k, j, b, h) (by repeat (first|exact trivial|refine And.intro rfl ?_)) rfl (by repeat (exact List.Sublist.refl _)) ⟨Mem.le_trans hm hle3, hE.mono hle3, hk, hs, ho, by simp only [List.length_cons, List.length_nil]; omega, hS⟩ ?_
 rintro ⟨s, m3, acc, k, j2, b, h⟩ ⟨hm, hE, hk, hs, ho, hlen, hS⟩
 simp only at hm hE hk hs ho hlen hS
 show TC _ _ _ _ _ m3 (E.J k b h :: tok s 4 :: L) _
 cases j2 with
 | zero =>
  rw [Ps.more_zero] at hS
  repeat (first|refine q1 ?_|refine q3 ?_|refine q4 tab rfl rfl ?_)
  refine TO.step rfl (OT.rtake (by decide) hS hE hk rfl rfl rfl rfl rfl rfl (fun hS hk => ?_) (fun hS => ?_))
  ·exact (hS.dry hn).elim
  ·repeat (first|refine q1 ?_|refine q3 ?_|refine q4 tab rfl rfl ?_|refine q5 ?_|refine q6 ?_|refine q10 ?_|refine q11 ?_|refine q14 ?_|refine q15 ?_|refine q17 rfl ?_)
   refine retQ_ret rfl (L' := E.J k b h :: tok s 4 :: L) (by repeat (exact List.Sublist.refl _)) ⟨acc, k, b, h, [tok s 4], hm, hk, ⟨s, rfl, rfl, hs, ho, by omega⟩, rfl, hS⟩
 | succ j2 =>
  rw [Ps.more_succ] at hS
  repeat (first|refine q1 ?_|refine q3 ?_|refine q4 tab rfl rfl ?_)
  refine TO.step rfl (OT.rtake (by decide) hS hE hk rfl rfl rfl rfl rfl rfl (fun hS hk => ?_) (fun hS => ?_))
  ·repeat (first|refine q2 ?_|refine q3 ?_|refine q4 tab rfl rfl ?_|refine q5 ?_|refine q6 ?_|refine q13 ?_|refine q16 rfl ?_)
   refine TO.step rfl (OT.rcT (hX) hm hS hn hE hk hm rfl rfl rfl rfl rfl rfl goes127 (fun x m2 a k b h hS hm hE hlex hk hrx => ?_))
   skip
   refine TO.step rfl (OT.litR tab rTree (hs := [x]) (l := [a]) ⟨rTree_iff.2 hrx, trivial⟩ rfl rfl rfl rfl rfl (by decide) (fun s2 m4 hle3 hs2 ho2 hc2 => ?_))
   refine TO.step rfl (OT.append tab rTree 1 (hs.mono (Mem.le_trans hlex hle3)) ho hs2 rfl rfl rfl rfl rfl rfl rfl (by simp only [List.length_cons, List.length_nil, rTree, mkR]; omega) (fun s3 m5 hle4 hs3 ho3 => ?_))
   repeat (first|refine q4 tab rfl rfl ?_|refine q5 ?_|refine q6 ?_|refine q7 ?_)
   exact ⟨(s3, m5, acc ++ [a], k, j2, b, h), (by repeat (first|exact trivial|refine And.intro rfl ?_)), (by repeat (first|exact trivial|refine And.intro rfl ?_)), rfl, rfl, (by repeat (exact List.Sublist.refl _)), ⟨Mem.le_trans hm (Mem.le_trans hle3 hle4), hE.mono (Mem.le_trans hle3 hle4), hk, hs3, ho3, by simp only [List.length_append, List.length_cons, List.length_nil]; omega, hS⟩, by simp only; omega⟩
  ·repeat (first|refine q1 ?_|refine q3 ?_|refine q4 tab rfl rfl ?_|refine q5 ?_|refine q6 ?_|refine q10 ?_|refine q11 ?_|refine q14 ?_|refine q15 ?_|refine q17 rfl ?_)
   refine retQ_ret rfl (L' := E.J k b h :: tok s 4 :: L) (by repeat (exact List.Sublist.refl _)) ⟨acc, k, b, h, [tok s 4], hm, hk, ⟨s, rfl, rfl, hs, ho, by omega⟩, rfl, hS⟩
set_option maxHeartbeats 1000000 in
theorem rresults_rc {X : Ps.Pp Tree} (hX : RC Tryz.prog mb E vTree 39 [E.v] h0 X) :
  RC Tryz.prog mb E vSl 79 [E.v] h0 (Ps.resultsP E.N X) := by
 refine RC.enter Tryz.func79 rfl 32 rfl fun m L k b h T hm0 hE hk hS hn => ?_
 replace hX := hX.up hm0
 have hm : m ≤ m := Mem.le_refl _
 unfold Ps.resultsP at hS
 repeat (first|refine q1 ?_|refine q3 ?_|refine q4 tab rfl rfl ?_|refine q5 ?_|refine q6 ?_)
 refine TO.step rfl (OT.rtake (by decide) hS hE hk rfl rfl rfl rfl rfl rfl (fun hS hk => ?_) (fun hS => ?_))
 ·repeat (first|refine q1 ?_|refine q3 ?_|refine q4 tab rfl rfl ?_|refine q5 ?_|refine q6 ?_|refine q16 rfl ?_)
  refine TO.step rfl (OT.rcL (rtypes_rc hX) hm hS hn hE hk hm rfl rfl rfl rfl rfl rfl goes80 (fun x m2 a k b h hS hm hE hlex hk hrx hox hlx => ?_))
  repeat (first|refine q1 ?_|refine q3 ?_|refine q4 tab rfl rfl ?_|refine q5 ?_|refine q6 ?_)
  refine TO.step rfl (OT.rneed (by decide) hS hE hk rfl rfl rfl rfl rfl rfl (fun _ b k hS hk => ?_))
  repeat (first|refine q1 ?_|refine q3 ?_|refine q4 tab rfl rfl ?_|refine q5 ?_|refine q6 ?_|refine q8 ?_|refine q15 ?_)
  refine retQ_ret rfl (L' := E.J k b h :: L) (by repeat (first|exact List.Sublist.refl _|refine List.Sublist.cons_cons _ ?_|refine List.Sublist.cons _ ?_)) ⟨a, k, b, h, [], hm, hk, ⟨x, rfl, rfl, hrx, hlx⟩, rfl, hS⟩
 ·skip
  repeat (first|refine q1 ?_|refine q3 ?_|refine q4 tab rfl rfl ?_|refine q5 ?_|refine q6 ?_|refine q13 ?_|refine q17 rfl ?_)
  refine TO.step rfl (OT.call rfl rfl rfl rfl rfl rfl goes78 ((kind_law hE hk).x ?_));
  rintro _ _ _ ⟨rfl, rfl, rfl⟩
  repeat (refine q4 tab rfl rfl ?_)
  rw [kindD_eq (by decide)]
  cases h1 : (!b && Ps.isK 1 E.f k) with
  | true =>
   replace hS := hS.to fun _ => Ps.peek_t' (by unfold Ps.begins; simp_all)
   repeat (first|refine q1 ?_|refine q3 ?_|refine q4 tab rfl rfl ?_|refine q5 ?_|refine q6 ?_|refine q16 rfl ?_)
   refine TO.step rfl (OT.rcT (hX) hm hS hn hE hk hm rfl rfl rfl rfl rfl rfl goes39 (fun x m2 a k b h hS hm hE hlex hk hrx => ?_))
   skip
   refine TO.step rfl (OT.litR tab rTree (hs := [x]) (l := [a]) ⟨rTree_iff.2 hrx, trivial⟩ rfl rfl rfl rfl rfl (by decide) (fun s m3 hle3 hs ho hc => ?_))
   repeat (first|refine q4 tab rfl rfl ?_|refine q5 ?_|refine q6 ?_|refine q8 ?_|refine q15 ?_)
   refine retQ_ret rfl (L' := E.J k b h :: L) (by repeat (exact List.Sublist.refl _)) ⟨[a], k, b, h, [], Mem.le_trans hm hle3, hk, ⟨s, rfl, rfl, hs, by simp⟩, rfl, hS⟩
  | false =>
  repeat (refine q4 tab rfl rfl ?_)
  refine TO.step rfl (OT.call rfl rfl rfl rfl rfl rfl goes77 ((now_law hE hk).x ?_));
  rintro _ _ _ ⟨rfl, rfl, rfl⟩
  repeat (refine q4 tab rfl rfl ?_)
  rw [nowD_eq (by decide)]
  cases h2 : (!b && Ps.isM [42] E.f k) with
  | true =>
   replace hS := hS.to fun _ => Ps.peek_t' (by unfold Ps.begins; simp_all)
   repeat (first|refine q1 ?_|refine q3 ?_|refine q4 tab rfl rfl ?_|refine q5 ?_|refine q6 ?_|refine q16 rfl ?_)
   refine TO.step rfl (OT.rcT (hX) hm hS hn hE hk hm rfl rfl rfl rfl rfl rfl goes39 (fun x m2 a k b h hS hm hE hlex hk hrx => ?_))
   skip
   refine TO.step rfl (OT.litR tab rTree (hs := [x]) (l := [a]) ⟨rTree_iff.2 hrx, trivial⟩ rfl rfl rfl rfl rfl (by decide) (fun s m3 hle3 hs ho hc => ?_))
   repeat (first|refine q4 tab rfl rfl ?_|refine q5 ?_|refine q6 ?_|refine q8 ?_|refine q15 ?_)
   refine retQ_ret rfl (L' := E.J k b h :: L) (by repeat (exact List.Sublist.refl _)) ⟨[a], k, b, h, [], Mem.le_trans hm hle3, hk, ⟨s, rfl, rfl, hs, by simp⟩, rfl, hS⟩
  | false =>
  repeat (refine q4 tab rfl rfl ?_)
  refine TO.step rfl (OT.call rfl rfl rfl rfl rfl rfl goes77 ((now_law hE hk).x ?_));
  rintro _ _ _ ⟨rfl, rfl, rfl⟩
  repeat (refine q4 tab rfl rfl ?_)
  rw [nowD_eq (by decide)]
  cases h3 : (!b && Ps.isM [91] E.f k) with
  | true =>
   replace hS := hS.to fun _ => Ps.peek_t' (by unfold Ps.begins; simp_all)
   repeat (first|refine q1 ?_|refine q3 ?_|refine q4 tab rfl rfl ?_|refine q5 ?_|refine q6 ?_|refine q16 rfl ?_)
   refine TO.step rfl (OT.rcT (hX) hm hS hn hE hk hm rfl rfl rfl rfl rfl rfl goes39 (fun x m2 a k b h hS hm hE hlex hk hrx => ?_))
   skip
   refine TO.step rfl (OT.litR tab rTree (hs := [x]) (l := [a]) ⟨rTree_iff.2 hrx, trivial⟩ rfl rfl rfl rfl rfl (by decide) (fun s m3 hle3 hs ho hc => ?_))
   repeat (first|refine q4 tab rfl rfl ?_|refine q5 ?_|refine q6 ?_|refine q8 ?_|refine q15 ?_)
   refine retQ_ret rfl (L' := E.J k b h :: L) (by repeat (exact List.Sublist.refl _)) ⟨[a], k, b, h, [], Mem.le_trans hm hle3, hk, ⟨s, rfl, rfl, hs, by simp⟩, rfl, hS⟩
  | false =>
  repeat (refine q4 tab rfl rfl ?_)
  refine TO.step rfl (OT.call rfl rfl rfl rfl rfl rfl goes77 ((now_law hE hk).x ?_));
  rintro _ _ _ ⟨rfl, rfl, rfl⟩
  repeat (first|refine q4 tab rfl rfl ?_|refine q5 ?_|refine q6 ?_)
  rw [nowD_eq (by decide)]
  cases h4 : (!b && Ps.isM [102, 117, 110, 99] E.f k) with
  | true =>
   replace hS := hS.to fun _ => Ps.peek_t' (by unfold Ps.begins; simp_all)
   repeat (first|refine q1 ?_|refine q3 ?_|refine q4 tab rfl rfl ?_|refine q16 rfl ?_)
   refine TO.step rfl (OT.rcT (hX) hm hS hn hE hk hm rfl rfl rfl rfl rfl rfl goes39 (fun x m2 a k b h hS hm hE hlex hk hrx => ?_))
   skip
   refine TO.step rfl (OT.litR tab rTree (hs := [x]) (l := [a]) ⟨rTree_iff.2 hrx, trivial⟩ rfl rfl rfl rfl rfl (by decide) (fun s m3 hle3 hs ho hc => ?_))
   repeat (first|refine q4 tab rfl rfl ?_|refine q5 ?_|refine q6 ?_|refine q8 ?_|refine q15 ?_)
   refine retQ_ret rfl (L' := E.J k b h :: L) (by repeat (exact List.Sublist.refl _)) ⟨[a], k, b, h, [], Mem.le_trans hm hle3, hk, ⟨s, rfl, rfl, hs, by simp⟩, rfl, hS⟩
  | false =>
  replace hS := hS.to fun _ => Ps.peek_f' (by unfold Ps.begins; simp_all)
  repeat (first|refine q1 ?_|refine q3 ?_|refine q4 tab rfl rfl ?_|refine q5 ?_|refine q6 ?_|refine q13 ?_|refine q15 ?_|refine q17 rfl ?_)
  refine retQ_ret rfl (L' := E.J k b h :: L) (by repeat (exact List.Sublist.refl _)) ⟨[], k, b, h, [], hm, hk, ⟨⟨none, 0, 0⟩, rfl, rfl, SlRep.nil _ _, by simp⟩, rfl, hS⟩
end
end Go.Sep


/- PrW3 -/
set_option linter.unusedVariables false
set_option linter.unusedSimpArgs false
namespace Go.Sep
open Go.Proofs
attribute [local irreducible] TC TO OT TCallX TCall DO DOt thenQ blockQ retQ At
section
variable {E : PE} {β : Type} {T : Ps.Res β} {k : Nat} {b h h0 : Bool} {s : Str} {A B : Ps.Pp β}
theorem RS.tok_t (hS : RS E T false k h h0 (Ps.tok s A B)) (hb : Ps.isM s E.f k = true) : RS E T false (k + 1) h h0 A := ⟨fun _ => ⟨(hS.1 rfl).1, (hS.1 rfl).2.trans (Ps.tok_t hb)⟩, fun e => (by cases e)⟩
theorem RS.tok_f (hS : RS E T b k h h0 (Ps.tok s A B)) (hb : (!b && Ps.isM s E.f k) = false) : RS E T b k h h0 B := hS.to fun e => Ps.tok_f (by rw [e] at hb; exact hb)
theorem takes_f {b : Bool} (hb : (!b && Ps.isM s E.f k) = true) : b = false ∧ Ps.isM s E.f k = true := by cases b <;> simp_all
end
section
variable {mb : Mem} {E : PE} {h0 : Bool}
set_option maxHeartbeats 2000000 in
theorem rtyp_rc {X : Ps.Pp Tree} (hX : RC Tryz.prog mb E vTree 39 [E.v] h0 X) :
  RC Tryz.prog mb E vTree 39 [E.v] h0 (Ps.typP E.N X) := by
 refine RC.enter Tryz.func39 rfl 73 rfl fun m L k b h T hm0 hE hk hS hn => ?_
 replace hX := hX.up hm0
 have hm : m ≤ m := Mem.le_refl _
 have hrows := hE.rows
 have hfew := hE.few
 unfold Ps.typP at hS
 repeat (first|refine q1 ?_|refine q3 ?_)
 refine TO.step rfl (OT.alloc tab rfl rfl rfl rfl (fun b2 => ?_)); refine TO.perm (List.Perm.swap _ _ _) ?_
 repeat (first|refine q1 ?_|refine q3 ?_|refine q4 tab rfl rfl ?_|refine q5 ?_|refine q6 ?_)
 (refine qs rfl (ql tab 0 rfl rfl rfl rfl rfl rfl ?_))
 cases b with
 | true =>
  repeat (first|refine q1 ?_|refine q3 ?_|refine q4 tab rfl rfl ?_|refine q5 ?_|refine q6 ?_|refine q16 rfl ?_)
  (refine TO.step rfl (OT.storeL0 tab 1 rfl rfl rfl rfl rfl rfl rfl rfl ?_))
  repeat (first|refine q5 ?_|refine q6 ?_|refine q8 ?_|refine q15 ?_)
  refine retQ_ret_c1 tab 1 rfl rfl rfl rfl (L' := E.J k true h :: L) (by repeat (first|exact List.Sublist.refl _|refine List.Sublist.cons_cons _ ?_|refine List.Sublist.cons _ ?_)) ⟨.mk 0 [] 0 [], k, true, h, [], hm, hk, ⟨⟨0, [], 0, ⟨none, 0, 0⟩⟩, rfl, rfl, ⟨rfl, rfl, rfl, SlRep.nil _ _⟩⟩, rfl, hS.any _⟩
 | false =>
 repeat (first|refine q1 ?_|refine q3 ?_|refine q4 tab rfl rfl ?_|refine q5 ?_|refine q6 ?_|refine q13 ?_|refine q17 rfl ?_)
 refine TO.step rfl (OT.call rfl rfl rfl rfl rfl rfl goes77 ((now_law hE hk).x ?_));
 rintro _ _ _ ⟨rfl, rfl, rfl⟩
 repeat (first|refine q1 ?_|refine q2 ?_|refine q3 ?_|refine q4 tab rfl rfl ?_|refine q5 ?_|refine q6 ?_)
 rw [nowD_eq (by decide)]
 cases hb : (!false && Ps.isM [42] E.f k) with
 | true =>
  repeat (first|refine q1 ?_|refine q3 ?_|refine q4 tab rfl rfl ?_|refine q16 rfl ?_)
  (refine qs rfl (ql tab 0 rfl rfl rfl rfl rfl rfl ?_))
  refine TO.step rfl (OT.arith (r' := ((k + 1 : Nat) : Int)) rfl rfl rfl rfl rfl rfl rfl (by omega) ?_)
  repeat (refine q4 tab rfl rfl ?_)
  refine TO.step rfl (OT.storeL (k := 1) tab 0 rfl rfl rfl rfl rfl rfl rfl rfl ?_)
  replace hk := PE.isM_lt (takes_f hb).2
  replace hS := hS.tok_t (takes_f hb).2
  repeat (first|refine q1 ?_|refine q3 ?_|refine q4 tab rfl rfl ?_|refine q5 ?_|refine q6 ?_)
  refine TO.step rfl (OT.rcT (hX) hm hS hn hE hk hm rfl rfl rfl rfl rfl rfl goes39 (fun x m2 a k b h hS hm hE hlex hk hrx => ?_))
  skip
  refine TO.step rfl (OT.litR tab rTree (hs := [x]) (l := [a]) ⟨rTree_iff.2 hrx, trivial⟩ rfl rfl rfl rfl rfl (by decide) (fun s m3 hle3 hs ho hc => ?_))
  refine TO.step rfl (OT.node rfl rfl rfl rfl rfl rfl ?_)
  skip
  (refine TO.step rfl (OT.storeL0 tab 1 rfl rfl rfl rfl rfl rfl rfl rfl ?_))
  repeat (first|refine q5 ?_|refine q6 ?_|refine q8 ?_|refine q9 ?_|refine q15 ?_)
  refine retQ_ret_c1 tab 1 rfl rfl rfl rfl (L' := E.J k b h :: L) (by repeat (first|exact List.Sublist.refl _|refine List.Sublist.cons_cons _ ?_|refine List.Sublist.cons _ ?_)) ⟨.mk 11 [] 0 [a], k, b, h, [], Mem.le_trans hm hle3, hk, ⟨⟨11, [], 0, s⟩, rfl, rfl, ⟨rfl, rfl, rfl, hs⟩⟩, rfl, hS⟩
 | false =>
 replace hS := hS.tok_f hb
 repeat (first|refine q1 ?_|refine q3 ?_|refine q4 tab rfl rfl ?_|refine q5 ?_|refine q6 ?_|refine q17 rfl ?_)
 rw [nowD_eq (by decide)]
 clear hb
 cases hb : (!false && Ps.isM [91] E.f k) with
 | true =>
  repeat (first|refine q1 ?_|refine q3 ?_|refine q4 tab rfl rfl ?_|refine q16 rfl ?_)
  (refine qs rfl (ql tab 0 rfl rfl rfl rfl rfl rfl ?_))
  refine TO.step rfl (OT.arith (r' := ((k + 1 : Nat) : Int)) rfl rfl rfl rfl rfl rfl rfl (by omega) ?_)
  repeat (refine q4 tab rfl rfl ?_)
  refine TO.step rfl (OT.storeL (k := 1) tab 0 rfl rfl rfl rfl rfl rfl rfl rfl ?_)
  replace hk := PE.isM_lt (takes_f hb).2
  replace hS := hS.tok_t (takes_f hb).2
  repeat (first|refine q1 ?_|refine q3 ?_|refine q4 tab rfl rfl ?_|refine q5 ?_|refine q6 ?_)
  refine TO.step rfl (OT.rneed (by decide) hS hE hk rfl rfl rfl rfl rfl rfl (fun _ b k hS hk => ?_))
  repeat (first|refine q1 ?_|refine q3 ?_|refine q4 tab rfl rfl ?_|refine q5 ?_|refine q6 ?_)
  refine TO.step rfl (OT.rcT (hX) hm hS hn hE hk hm rfl rfl rfl rfl rfl rfl goes39 (fun x m2 a k b h hS hm hE hlex hk hrx => ?_))
  skip
  refine TO.step rfl (OT.litR tab rTree (hs := [x]) (l := [a]) ⟨rTree_iff.2 hrx, trivial⟩ rfl rfl rfl rfl rfl (by decide) (fun s m3 hle3 hs ho hc => ?_))
  refine TO.step rfl (OT.node rfl rfl rfl rfl rfl rfl ?_)
  skip
  (refine TO.step rfl (OT.storeL0 tab 1 rfl rfl rfl rfl rfl rfl rfl rfl ?_))
  repeat (first|refine q5 ?_|refine q6 ?_|refine q8 ?_|refine q9 ?_|refine q15 ?_)
  refine retQ_ret_c1 tab 1 rfl rfl rfl rfl (L' := E.J k b h :: L) (by repeat (first|exact List.Sublist.refl _|refine List.Sublist.cons_cons _ ?_|refine List.Sublist.cons _ ?_)) ⟨.mk 12 [] 0 [a], k, b, h, [], Mem.le_trans hm hle3, hk, ⟨⟨12, [], 0, s⟩, rfl, rfl, ⟨rfl, rfl, rfl, hs⟩⟩, rfl, hS⟩
 | false =>
 replace hS := hS.tok_f hb
 repeat (first|refine q1 ?_|refine q3 ?_|refine q4 tab rfl rfl ?_|refine q5 ?_|refine q6 ?_|refine q17 rfl ?_)
 rw [nowD_eq (by decide)]
 clear hb
 cases hb : (!false && Ps.isM [102, 117, 110, 99] E.f k) with
 | true =>
  repeat (first|refine q1 ?_|refine q3 ?_|refine q4 tab rfl rfl ?_|refine q16 rfl ?_)
  (refine qs rfl (ql tab 0 rfl rfl rfl rfl rfl rfl ?_))
  refine TO.step rfl (OT.arith (r' := ((k + 1 : Nat) : Int)) rfl rfl rfl rfl rfl rfl rfl (by omega) ?_)
  repeat (refine q4 tab rfl rfl ?_)
  refine TO.step rfl (OT.storeL (k := 1) tab 0 rfl rfl rfl rfl rfl rfl rfl rfl ?_)
  replace hk := PE.isM_lt (takes_f hb).2
  replace hS := hS.tok_t (takes_f hb).2
  unfold Ps.sigLike at hS
  repeat (first|refine q1 ?_|refine q3 ?_|refine q4 tab rfl rfl ?_|refine q5 ?_|refine q6 ?_)
  refine TO.step rfl (OT.rneed (by decide) hS hE hk rfl rfl rfl rfl rfl rfl (fun _ b k hS hk => ?_))
  unfold Ps.inP at hS
  simp only [Ps.tok_bind, Ps.ret_bind, Ps.bind_assoc, Ps.need_bind] at hS
  repeat (first|refine q1 ?_|refine q3 ?_|refine q5 ?_|refine q6 ?_)
  refine TO.step rfl (OT.node (sl := ⟨none, 0, 0⟩) rfl rfl rfl rfl rfl rfl ?_)
  refine TO.step rfl (OT.alloc tab rfl rfl rfl rfl (fun b3 => ?_)); refine TO.perm (List.Perm.swap _ _ _) ?_
  skip
  (refine TO.step rfl (OT.storeL0 tab 1 rfl rfl rfl rfl rfl rfl rfl rfl ?_))
  refine TO.nil ?_
  refine thenQ_n ?_
  refine TC.cut (ι := Sl × Mem × List Tree × Nat × Bool × Bool) [0, 2, 3] rfl (fun _ => []) (fun i => i.2.1) (fun i => E.J i.2.2.2.1 i.2.2.2.2.1 i.2.2.2.2.2 :: .cells b3 0 [.int .i64 13, strV [], .int .i64 0, i.1.v] :: tok i.1 4 :: .cells b2 0 [.int .i64 0, strV [], .int .i64 0, .slice none 0 0] :: L) (fun i => m ≤ i.2.1 ∧ E.Ok i.2.1 ∧ i.2.2.2.1 ≤ E.toks.length ∧ SlRep rTree i.2.1 i.1 i.2.2.1 ∧ Own i.1 ∧ i.2.2.1.length ≤ 20001 ∧ RS E T i.2.2.2.2.1 i.2.2.2.1 i.2.2.2.2.2 h0 (Ps.bind (Ps.resultsP E.N X) fun rs => Ps.ret (Tree.mk 13 [] (i.2.2.1.length : Int) (i.2.2.1 ++ rs)))) ?_ ?_
  ·repeat (first|refine q1 ?_|refine q3 ?_|refine q4 tab rfl rfl ?_)
   refine TO.step rfl (OT.rtake (by decide) hS hE hk rfl rfl rfl rfl rfl rfl (fun hS hk => ?_) (fun hS => ?_))
   ·refine TO.grow0 (size := 4) ?_
    refine TO.perm (L' := E.J (k + 1) false h :: .cells b3 0 [.int .i64 13, strV [], .int .i64 0, .slice none 0 0] :: tok ⟨none, 0, 0⟩ 4 :: .cells b2 0 [.int .i64 0, strV [], .int .i64 0, .slice none 0 0] :: L) ((List.Perm.trans pfr1 (List.Perm.cons _ pfr1))) ?_
    repeat (first|refine q4 tab rfl rfl ?_|refine q5 ?_|refine q6 ?_|refine q13 ?_|refine q17 rfl ?_)
    exact ⟨(⟨none, 0, 0⟩, m, [], k + 1, false, h), (by repeat (exact trivial)), (by repeat (first|exact trivial|refine And.intro rfl ?_)), rfl, rfl, (by repeat (exact List.Sublist.refl _)), hm, hE, hk, SlRep.nil _ _, Own.nil, by simp, hS⟩
   ·repeat (first|refine q1 ?_|refine q3 ?_|refine q4 tab rfl rfl ?_|refine q5 ?_|refine q6 ?_|refine q16 rfl ?_)
    refine TO.step rfl (OT.rcL (rtypes_rc hX) hm hS hn hE hk hm rfl rfl rfl rfl rfl rfl goes80 (fun x m2 a k b h hS hm hE hlex hk hrx hox hlx => ?_))
    refine TO.perm (L' := E.J k b h :: .cells b3 0 [.int .i64 13, strV [], .int .i64 0, .slice none 0 0] :: tok x 4 :: .cells b2 0 [.int .i64 0, strV [], .int .i64 0, .slice none 0 0] :: L) ((List.Perm.cons _ pfr1)) ?_
    repeat (refine q4 tab rfl rfl ?_)
    refine TO.step rfl (OT.storeL (k := 3) tab 1 rfl rfl rfl rfl rfl rfl rfl rfl ?_)
    repeat (first|refine q3 ?_|refine q4 tab rfl rfl ?_|refine q5 ?_|refine q6 ?_)
    refine TO.step rfl (OT.rneed (by decide) hS hE hk rfl rfl rfl rfl rfl rfl (fun _ b k hS hk => ?_))
    repeat (first|refine q5 ?_|refine q6 ?_)
    exact ⟨(x, m2, a, k, b, h), (by repeat (exact trivial)), (by repeat (first|exact trivial|refine And.intro rfl ?_)), rfl, rfl, (by repeat (exact List.Sublist.refl _)), hm, hE, hk, hrx, hox, hlx, hS⟩
  ·rintro ⟨s, m1, l, k, b, h⟩ ⟨hm, hE, hk, hs, ho, hl, hS⟩
   simp only at hm hE hk hs ho hl hS
   have hsl := hs.len
   repeat (first|refine q1 ?_|refine q3 ?_|refine q4 tab rfl rfl ?_)
   (refine qs rfl (ql tab 1 rfl rfl rfl rfl rfl rfl ?_))
   repeat (refine q4 tab rfl rfl ?_)
   refine TO.step rfl (OT.storeL (k := 2) tab 1 rfl rfl rfl rfl rfl rfl rfl rfl ?_)
   repeat (first|refine q1 ?_|refine q5 ?_|refine q6 ?_)
   refine TC.draw [6] mixed 7 rfl [.cells b3 0 [.int .i64 13, strV [], .int .i64 (s.len : Int), s.v]] (E.J k b h :: tok s 4 :: .cells b2 0 [.int .i64 0, strV [], .int .i64 0, .slice none 0 0] :: L) (List.Perm.swap _ _ _) ?_
   refine DO.pure tab (by repeat (first|exact Calm.ret|refine Calm.then ?_|refine Calm.block ?_)) (by kernel_rfl) [0] (by kernel_rfl) rfl ?_
   (refine DO.loadL tab 1 0 (by repeat (first|exact Calm.ret|refine Calm.then ?_|refine Calm.block ?_)) (by kernel_rfl) (by kernel_rfl) rfl rfl rfl rfl rfl rfl rfl rfl ?_)
   refine DO.pure tab (by repeat (first|exact Calm.ret|refine Calm.then ?_|refine Calm.block ?_)) (by kernel_rfl) [2] (by kernel_rfl) rfl ?_
   refine DO.run 3 rfl rfl (by kernel_rfl) rfl ?_
   refine OT.perm (List.Perm.swap _ _ _) (OT.rcS (rresults_rc hX) hm hS hn hE hk hm rfl rfl rfl rfl rfl rfl goes79 (fun x m2 a k b h hS hm hE hle hk hr hla => ?_)); refine ⟨hle, E.J k b h :: tok s 4 :: .cells b2 0 [.int .i64 0, strV [], .int .i64 0, .slice none 0 0] :: L, List.Perm.swap _ _ _, ?_⟩
   refine DO.run 4 rfl rfl (by kernel_rfl) rfl ?_
   refine OT.append tab rTree 2 (hs.mono hle) ho hr rfl rfl rfl rfl rfl rfl rfl (by simp only [rTree, mkR]; omega) (fun s3 m4 hle4 hs3 ho3 => ?_); refine ⟨hle4, E.J k b h :: tok s3 4 :: .cells b2 0 [.int .i64 0, strV [], .int .i64 0, .slice none 0 0] :: L, List.Perm.refl _, ?_⟩
   refine DO.pure tab (by repeat (first|exact Calm.ret|refine Calm.then ?_|refine Calm.block ?_)) (by kernel_rfl) [5] (by kernel_rfl) rfl ?_
   refine DO.tail ?_
   refine DOt.run 6 rfl rfl (by kernel_rfl) rfl ?_
   refine OT.storeL (k := 3) tab 0 rfl rfl rfl rfl rfl rfl rfl rfl ?_; refine DOt.perm (List.Perm.swap _ _ _) ?_
   refine DOt.nil (by kernel_rfl) ?_
   rotate_left 1
   repeat (first|refine q1 ?_|refine q3 ?_|refine q6 ?_)
   (refine qs rfl (qz tab 1 rfl rfl rfl rfl rfl rfl ?_))
   skip
   refine TO.step rfl (OT.storeL0 tab 3 rfl rfl rfl rfl rfl rfl rfl rfl ?_)
   repeat (first|refine q5 ?_|refine q6 ?_|refine q8 ?_|refine q9 ?_|refine q15 ?_)
   refine retQ_ret_c1 tab 3 rfl rfl rfl rfl (L' := E.J k b h :: L) (by repeat (first|exact List.Sublist.refl _|refine List.Sublist.cons_cons _ ?_|refine List.Sublist.cons _ ?_)) ⟨.mk 13 [] (l.length : Int) (l ++ a), k, b, h, [], Mem.le_trans hm hle4, hk, ⟨⟨13, [], (s.len : Int), s3⟩, rfl, rfl, ⟨rfl, rfl, by show (s.len : Int) = _; rw [hsl]; rfl, hs3⟩⟩, rfl, hS⟩
 | false =>
 replace hS := hS.tok_f hb
 repeat (first|refine q1 ?_|refine q3 ?_|refine q4 tab rfl rfl ?_|refine q6 ?_|refine q7 ?_|refine q13 ?_|refine q17 rfl ?_)
 refine TO.step rfl (OT.rname hS hE hk rfl rfl rfl rfl rfl rfl (fun t b k hS hk => ?_))
 refine TO.step rfl (OT.node (sl := ⟨none, 0, 0⟩) rfl rfl rfl rfl rfl rfl ?_)
 skip
 (refine TO.step rfl (OT.storeL0 tab 1 rfl rfl rfl rfl rfl rfl rfl rfl ?_))
 repeat (first|refine q5 ?_|refine q6 ?_|refine q15 ?_)
 refine retQ_ret_c1 tab 1 rfl rfl rfl rfl (L' := E.J k b h :: L) (by repeat (first|exact List.Sublist.refl _|refine List.Sublist.cons_cons _ ?_|refine List.Sublist.cons _ ?_)) ⟨Ps.leaf 10 t, k, b, h, [], hm, hk, ⟨⟨10, t, 0, ⟨none, 0, 0⟩⟩, rfl, rfl, ⟨rfl, rfl, rfl, SlRep.nil _ _⟩⟩, rfl, hS⟩
end
end Go.Sep


/- PrW4 -/
set_option linter.unusedVariables false
set_option linter.unusedSimpArgs false
namespace Go.Sep
open Go.Proofs
attribute [local irreducible] TC TO OT TCallX TCall DO DOt thenQ blockQ retQ At
section
variable {mb : Mem} {E : PE} {h0 : Bool}
def elems {α : Type} (j : Nat) (X : Ps.Pp α) (acc : List α) : Ps.Pp (List α) := Ps.bind (Ps.commas j X) fun l => Ps.ret (acc ++ l)
theorem elems_succ {α : Type} (j : Nat) (X : Ps.Pp α) (acc : List α) : elems (j + 1) X acc = Ps.bind X fun a => Ps.more j X (acc ++ [a]) := Ps.commas_acc j X acc
theorem more_elems {α : Type} (j : Nat) (X : Ps.Pp α) (acc : List α) : Ps.more j X acc = Ps.tok [44] (elems j X acc) (Ps.ret acc) := rfl
set_option maxHeartbeats 2000000 in
theorem rsig_rc {X : Ps.Pp Tree} (hX : RC Tryz.prog mb E vTree 39 [E.v] h0 X) :
  RC Tryz.prog mb E vTree 38 [E.v] h0 (Ps.sigP E.N X) := by
 refine RC.enter Tryz.func38 rfl 47 rfl fun m L k b h T hm0 hE hk hS hn => ?_
 replace hX := hX.up hm0
 have hm : m ≤ m := Mem.le_refl _
 have hrows := hE.rows
 unfold Ps.sigP Ps.sigLike at hS
 repeat (first|refine q1 ?_|refine q3 ?_)
 refine TO.step rfl (OT.alloc tab rfl rfl rfl rfl (fun b2 => ?_)); refine TO.perm (List.Perm.swap _ _ _) ?_
 repeat (first|refine q1 ?_|refine q3 ?_|refine q5 ?_|refine q6 ?_)
 refine TO.step rfl (OT.node (sl := ⟨none, 0, 0⟩) rfl rfl rfl rfl rfl rfl ?_)
 refine TO.step rfl (OT.alloc tab rfl rfl rfl rfl (fun b3 => ?_)); refine TO.perm (List.Perm.swap _ _ _) ?_
 skip
 (refine TO.step rfl (OT.storeL0 tab 1 rfl rfl rfl rfl rfl rfl rfl rfl ?_))
 repeat (first|refine q1 ?_|refine q3 ?_|refine q4 tab rfl rfl ?_|refine q5 ?_|refine q6 ?_)
 refine TO.step rfl (OT.rneed (by decide) hS hE hk rfl rfl rfl rfl rfl rfl (fun _ b k hS hk => ?_))
 unfold Ps.inP at hS
 simp only [Ps.tok_bind, Ps.ret_bind, Ps.bind_assoc, Ps.need_bind] at hS
 refine TO.grow0 (size := 4) ?_
 refine TO.perm (L' := E.J k b h :: .cells b3 0 [.int .i64 7, strV [], .int .i64 0, .slice none 0 0] :: tok ⟨none, 0, 0⟩ 4 :: .cells b2 0 [.int .i64 0, strV [], .int .i64 0, .slice none 0 0] :: L) ((List.Perm.trans pfr1 (List.Perm.cons _ pfr1))) ?_
 refine TO.nil ?_
 refine thenQ_n ?_
 refine TC.cut (ι := Sl × Mem × List Tree × Nat × Bool × Bool) [0, 2, 3] rfl (fun _ => []) (fun i => i.2.1) (fun i => E.J i.2.2.2.1 i.2.2.2.2.1 i.2.2.2.2.2 :: .cells b3 0 [.int .i64 7, strV [], .int .i64 0, i.1.v] :: tok i.1 4 :: .cells b2 0 [.int .i64 0, strV [], .int .i64 0, .slice none 0 0] :: L) (fun i => m ≤ i.2.1 ∧ E.Ok i.2.1 ∧ i.2.2.2.1 ≤ E.toks.length ∧ SlRep rTree i.2.1 i.1 i.2.2.1 ∧ Own i.1 ∧ i.2.2.1.length ≤ 20001 ∧ RS E T i.2.2.2.2.1 i.2.2.2.1 i.2.2.2.2.2 h0 (Ps.bind (Ps.resultsP E.N X) fun rs => Ps.ret (Tree.mk 7 [] (i.2.2.1.length : Int) (i.2.2.1 ++ rs)))) ?_ ?_
 ·repeat (first|refine q1 ?_|refine q3 ?_|refine q4 tab rfl rfl ?_)
  refine TO.step rfl (OT.rtake (by decide) hS hE hk rfl rfl rfl rfl rfl rfl (fun hS hk => ?_) (fun hS => ?_))
  ·repeat (first|refine q4 tab rfl rfl ?_|refine q5 ?_|refine q6 ?_|refine q13 ?_|refine q17 rfl ?_)
   exact ⟨(⟨none, 0, 0⟩, m, [], k + 1, false, h), (by repeat (exact trivial)), (by repeat (first|exact trivial|refine And.intro rfl ?_)), rfl, rfl, (by repeat (exact List.Sublist.refl _)), hm, hE, hk, SlRep.nil _ _, Own.nil, by simp, hS⟩
  ·have hS0 : RS E T b k h h0 (Ps.bind (elems E.N (Ps.paramP X) []) fun a => Ps.need [41] (Ps.bind (Ps.resultsP E.N X) fun rs => Ps.ret (Tree.mk 7 [] (a.length : Int) (a ++ rs)))) := by
    refine hS.eq ?_
    unfold elems
    simp only [List.nil_append]
    rw [Ps.bind_ret]
   repeat (first|refine q1 ?_|refine q2 ?_|refine q3 ?_|refine q4 tab rfl rfl ?_|refine q5 ?_|refine q6 ?_|refine q16 rfl ?_)
   refine TC.loopK (ι := Sl × Mem × List Tree × Nat × Nat × Bool × Bool × Bool) [0, 2, 3] rfl (fun x => [(4, .bool x.2.2.2.2.2.2.2)]) (fun x => x.2.1) (fun x => E.J x.2.2.2.1 x.2.2.2.2.2.1 x.2.2.2.2.2.2.1 :: .cells b3 0 [.int .i64 7, strV [], .int .i64 0, x.1.v] :: tok x.1 4 :: .cells b2 0 [.int .i64 0, strV [], .int .i64 0, .slice none 0 0] :: L) (fun x => m ≤ x.2.1 ∧ E.Ok x.2.1 ∧ x.2.2.2.1 ≤ E.toks.length ∧ SlRep rTree x.2.1 x.1 x.2.2.1 ∧ Own x.1 ∧ x.2.2.1.length + x.2.2.2.2.1 = E.N ∧ (x.2.2.2.2.2.2.2 = true → RS E T x.2.2.2.2.2.1 x.2.2.2.1 x.2.2.2.2.2.2.1 h0 (Ps.bind (elems x.2.2.2.2.1 (Ps.paramP X) x.2.2.1) fun a => Ps.need [41] (Ps.bind (Ps.resultsP E.N X) fun rs => Ps.ret (Tree.mk 7 [] (a.length : Int) (a ++ rs)))))
     ∧ (x.2.2.2.2.2.2.2 = false → RS E T x.2.2.2.2.2.1 x.2.2.2.1 x.2.2.2.2.2.2.1 h0 (Ps.need [41] (Ps.bind (Ps.resultsP E.N X) fun rs => Ps.ret (Tree.mk 7 [] (x.2.2.1.length : Int) (x.2.2.1 ++ rs)))))) (fun x => x.2.2.2.2.1) (⟨none, 0, 0⟩, m, [], k, E.N, b, h, true) (by repeat (first|exact trivial|refine And.intro rfl ?_)) rfl (by repeat (exact List.Sublist.refl _)) ⟨hm, hE, hk, SlRep.nil _ _, Own.nil, by simp, fun _ => hS0, fun e => by cases e⟩ ?_
   clear hS hS0 hk hE hm
   rintro ⟨s, m1, acc, k, j, b, h, mo⟩ ⟨hm, hE, hk, hs, ho, hlen, hS1, hS2⟩
   simp only at hm hE hk hs ho hlen hS1 hS2
   show TC _ _ _ ((4, .bool mo) :: _) _ m1 (E.J k b h :: .cells b3 0 [.int .i64 7, strV [], .int .i64 0, s.v] :: tok s 4 :: .cells b2 0 [.int .i64 0, strV [], .int .i64 0, .slice none 0 0] :: L) _
   cases mo with
   | false =>
    have hS := hS2 rfl
    repeat (first|refine q1 ?_|refine q3 ?_|refine q4 tab rfl rfl ?_|refine q5 ?_|refine q6 ?_|refine q10 ?_|refine q11 ?_|refine q14 ?_|refine q17 rfl ?_)
    skip
    refine TO.step rfl (OT.rneed (by decide) hS hE hk rfl rfl rfl rfl rfl rfl (fun _ b k hS hk => ?_))
    repeat (first|refine q5 ?_|refine q6 ?_)
    exact ⟨(s, m1, acc, k, b, h), (by repeat (exact trivial)), (by repeat (first|exact trivial|refine And.intro rfl ?_)), rfl, rfl, (by repeat (exact List.Sublist.refl _)), hm, hE, hk, hs, ho, by simp only; omega, hS⟩
   | true =>
    replace hS1 := hS1 rfl
    repeat (first|refine q1 ?_|refine q3 ?_|refine q4 tab rfl rfl ?_)
    (refine qs rfl (ql tab 0 rfl rfl rfl rfl rfl rfl ?_))
    cases b with
    | true =>
     have hS := hS1.any h (rest' := Ps.need [41] (Ps.bind (Ps.resultsP E.N X) fun rs => Ps.ret (Tree.mk 7 [] (acc.length : Int) (acc ++ rs))))
     repeat (first|refine q3 ?_|refine q4 tab rfl rfl ?_|refine q5 ?_|refine q6 ?_|refine q10 ?_|refine q11 ?_|refine q14 ?_|refine q17 rfl ?_)
     refine TO.step rfl (OT.rneed (by decide) hS hE hk rfl rfl rfl rfl rfl rfl (fun _ b k hS hk => ?_))
     repeat (first|refine q5 ?_|refine q6 ?_)
     exact ⟨(s, m1, acc, k, b, h), (by repeat (exact trivial)), (by repeat (first|exact trivial|refine And.intro rfl ?_)), rfl, rfl, (by repeat (exact List.Sublist.refl _)), hm, hE, hk, hs, ho, by simp only; omega, hS⟩
    | false =>
    cases j with
    | zero => exact absurd (hS1.1 rfl).2 hn
    | succ j =>
     rw [elems_succ] at hS1
     have hS := hS1
     unfold Ps.paramP at hS
     simp only [Ps.tok_bind, Ps.ret_bind, Ps.bind_assoc, Ps.need_bind, Ps.name_bind] at hS
     repeat (first|refine q1 ?_|refine q2 ?_|refine q3 ?_|refine q4 tab rfl rfl ?_|refine q5 ?_|refine q6 ?_|refine q13 ?_|refine q16 rfl ?_)
     refine TO.step rfl (OT.rname hS hE hk rfl rfl rfl rfl rfl rfl (fun t b k hS hk => ?_))
     repeat (first|refine q4 tab rfl rfl ?_|refine q5 ?_|refine q6 ?_)
     refine TC.draw [10] mixed 11 rfl [.cells b3 0 [.int .i64 7, strV [], .int .i64 0, s.v]] (E.J k b h :: tok s 4 :: .cells b2 0 [.int .i64 0, strV [], .int .i64 0, .slice none 0 0] :: L) (List.Perm.swap _ _ _) ?_
     refine DO.pure tab (by repeat (first|exact Calm.ret|refine Calm.then ?_|refine Calm.block ?_)) (by kernel_rfl) [0] (by kernel_rfl) rfl ?_
     (refine DO.loadL tab 1 0 (by repeat (first|exact Calm.ret|refine Calm.then ?_|refine Calm.block ?_)) (by kernel_rfl) (by kernel_rfl) rfl rfl rfl rfl rfl rfl rfl rfl ?_)
     refine DO.pure tab (by repeat (first|exact Calm.ret|refine Calm.then ?_|refine Calm.block ?_)) (by kernel_rfl) [2, 3] (by kernel_rfl) rfl ?_
     refine DO.run 4 rfl rfl (by kernel_rfl) rfl ?_
     refine OT.perm (List.Perm.swap _ _ _) (OT.rcT (hX.up hm) (Mem.le_refl _) hS hn hE hk hm rfl rfl rfl rfl rfl rfl goes39 (fun x m2 a k b h hS hm hE hle hk hr => ?_)); refine ⟨hle, E.J k b h :: tok s 4 :: .cells b2 0 [.int .i64 0, strV [], .int .i64 0, .slice none 0 0] :: L, List.Perm.swap _ _ _, ?_⟩
     refine DO.run 5 rfl rfl (by kernel_rfl) rfl ?_
     refine OT.litR tab rTree (hs := [x]) (l := [a]) ⟨rTree_iff.2 hr, trivial⟩ rfl rfl rfl rfl rfl (by decide) (fun s2 m3 hle2 hs2 ho2 hc2 => ?_); refine ⟨hle2, _, List.Perm.refl _, ?_⟩
     refine DO.run 6 rfl rfl (by kernel_rfl) rfl ?_
     refine OT.node rfl rfl rfl rfl rfl rfl ?_; refine ⟨Mem.le_refl _, _, List.Perm.refl _, ?_⟩
     refine DO.run 7 rfl rfl (by kernel_rfl) rfl ?_
     refine OT.litR tab rTree (hs := [⟨8, t, 0, s2⟩]) (l := [.mk 8 t 0 [a]]) ⟨rTree_iff.2 ⟨rfl, rfl, rfl, hs2⟩, trivial⟩ rfl rfl rfl rfl rfl (by decide) (fun s3 m4 hle3 hs3 ho3 hc3 => ?_); refine ⟨hle3, _, List.Perm.refl _, ?_⟩
     refine DO.run 8 rfl rfl (by kernel_rfl) rfl ?_
     refine OT.append tab rTree 2 (hs.mono (Mem.le_trans hle (Mem.le_trans hle2 hle3))) ho hs3 rfl rfl rfl rfl rfl rfl rfl (by simp only [List.length_append, List.length_cons, List.length_nil, rTree, mkR]; omega) (fun s4 m5 hle4 hs4 ho4 => ?_); refine ⟨hle4, E.J k b h :: tok s4 4 :: .cells b2 0 [.int .i64 0, strV [], .int .i64 0, .slice none 0 0] :: L, List.Perm.refl _, ?_⟩
     refine DO.pure tab (by repeat (first|exact Calm.ret|refine Calm.then ?_|refine Calm.block ?_)) (by kernel_rfl) [9] (by kernel_rfl) rfl ?_
     refine DO.tail ?_
     refine DOt.run 10 rfl rfl (by kernel_rfl) rfl ?_
     refine OT.storeL (k := 3) tab 0 rfl rfl rfl rfl rfl rfl rfl rfl ?_; refine DOt.perm (List.Perm.swap _ _ _) ?_
     refine DOt.nil (by kernel_rfl) ?_
     rotate_left 1
     replace hm := Mem.le_trans hm (Mem.le_trans hle2 (Mem.le_trans hle3 hle4))
     replace hE := hE.mono (Mem.le_trans hle2 (Mem.le_trans hle3 hle4))
     replace hS : RS E T b k h h0 (Ps.tok [44] (Ps.bind (elems j (Ps.paramP X) (acc ++ [Tree.mk 8 t 0 [a]])) fun a => Ps.need [41] (Ps.bind (Ps.resultsP E.N X) fun rs => Ps.ret (Tree.mk 7 [] (a.length : Int) (a ++ rs)))) (Ps.need [41] (Ps.bind (Ps.resultsP E.N X) fun rs => Ps.ret (Tree.mk 7 [] ((acc ++ [Tree.mk 8 t 0 [a]]).length : Int) ((acc ++ [Tree.mk 8 t 0 [a]]) ++ rs))))) := by
      refine hS.eq ?_
      show Ps.bind (Ps.more j (Ps.paramP X) (acc ++ [Tree.mk 8 t 0 [a]])) _ = _
      rw [more_elems, Ps.tok_bind, Ps.ret_bind]
     repeat (first|refine q3 ?_|refine q4 tab rfl rfl ?_|refine q6 ?_|refine q7 ?_)
     refine TO.step rfl (OT.rtake (by decide) hS hE hk rfl rfl rfl rfl rfl rfl (fun hS hk => ?_) (fun hS => ?_))
     ·repeat (first|refine q4 tab rfl rfl ?_|refine q5 ?_|refine q6 ?_)
      exact ⟨(s4, m5, acc ++ [Tree.mk 8 t 0 [a]], k + 1, j, false, h, true), (by repeat (first|exact trivial|refine And.intro rfl ?_)), (by repeat (first|exact trivial|refine And.intro rfl ?_)), rfl, rfl, (by repeat (exact List.Sublist.refl _)), ⟨hm, hE, hk, hs4, ho4, by simp only [List.length_append, List.length_cons, List.length_nil]; omega, fun _ => hS, fun e => by cases e⟩, by simp only; omega⟩
     ·repeat (first|refine q4 tab rfl rfl ?_|refine q5 ?_|refine q6 ?_)
      exact ⟨(s4, m5, acc ++ [Tree.mk 8 t 0 [a]], k, j, b, h, false), (by repeat (first|exact trivial|refine And.intro rfl ?_)), (by repeat (first|exact trivial|refine And.intro rfl ?_)), rfl, rfl, (by repeat (exact List.Sublist.refl _)), ⟨hm, hE, hk, hs4, ho4, by simp only [List.length_append, List.length_cons, List.length_nil]; omega, fun e => (by cases e), fun _ => hS⟩, by simp only; omega⟩
 ·rintro ⟨s, m1, l, k, b, h⟩ ⟨hm, hE, hk, hs, ho, hl, hS⟩
  simp only at hm hE hk hs ho hl hS
  have hsl := hs.len
  repeat (first|refine q1 ?_|refine q3 ?_|refine q4 tab rfl rfl ?_)
  (refine qs rfl (ql tab 1 rfl rfl rfl rfl rfl rfl ?_))
  repeat (refine q4 tab rfl rfl ?_)
  refine TO.step rfl (OT.storeL (k := 2) tab 1 rfl rfl rfl rfl rfl rfl rfl rfl ?_)
  repeat (first|refine q1 ?_|refine q5 ?_|refine q6 ?_)
  refine TC.draw [6] mixed 7 rfl [.cells b3 0 [.int .i64 7, strV [], .int .i64 (s.len : Int), s.v]] (E.J k b h :: tok s 4 :: .cells b2 0 [.int .i64 0, strV [], .int .i64 0, .slice none 0 0] :: L) (List.Perm.swap _ _ _) ?_
  refine DO.pure tab (by repeat (first|exact Calm.ret|refine Calm.then ?_)) (by kernel_rfl) [0] (by kernel_rfl) rfl ?_
  (refine DO.loadL tab 1 0 (by repeat (first|exact Calm.ret|refine Calm.then ?_)) (by kernel_rfl) (by kernel_rfl) rfl rfl rfl rfl rfl rfl rfl rfl ?_)
  refine DO.pure tab (by repeat (first|exact Calm.ret|refine Calm.then ?_)) (by kernel_rfl) [2] (by kernel_rfl) rfl ?_
  refine DO.run 3 rfl rfl (by kernel_rfl) rfl ?_
  refine OT.perm (List.Perm.swap _ _ _) (OT.rcS (rresults_rc hX) hm hS hn hE hk hm rfl rfl rfl rfl rfl rfl goes79 (fun x m2 a k b h hS hm hE hle hk hr hla => ?_)); refine ⟨hle, E.J k b h :: tok s 4 :: .cells b2 0 [.int .i64 0, strV [], .int .i64 0, .slice none 0 0] :: L, List.Perm.swap _ _ _, ?_⟩
  refine DO.run 4 rfl rfl (by kernel_rfl) rfl ?_
  refine OT.append tab rTree 2 (hs.mono hle) ho hr rfl rfl rfl rfl rfl rfl rfl (by simp only [rTree, mkR]; omega) (fun s3 m4 hle4 hs3 ho3 => ?_); refine ⟨hle4, E.J k b h :: tok s3 4 :: .cells b2 0 [.int .i64 0, strV [], .int .i64 0, .slice none 0 0] :: L, List.Perm.refl _, ?_⟩
  refine DO.pure tab (by repeat (first|exact Calm.ret|refine Calm.then ?_)) (by kernel_rfl) [5] (by kernel_rfl) rfl ?_
  refine DO.tail ?_
  refine DOt.run 6 rfl rfl (by kernel_rfl) rfl ?_
  refine OT.storeL (k := 3) tab 0 rfl rfl rfl rfl rfl rfl rfl rfl ?_; refine DOt.perm (List.Perm.swap _ _ _) ?_
  refine DOt.nil (by kernel_rfl) ?_
  rotate_left 1
  repeat (first|refine q1 ?_|refine q3 ?_|refine q6 ?_)
  (refine qs rfl (qz tab 1 rfl rfl rfl rfl rfl rfl ?_))
  skip
  refine TO.step rfl (OT.storeL0 tab 3 rfl rfl rfl rfl rfl rfl rfl rfl ?_)
  repeat (first|refine q5 ?_|refine q6 ?_|refine q15 ?_)
  refine retQ_ret_c1 tab 3 rfl rfl rfl rfl (L' := E.J k b h :: L) (by repeat (first|exact List.Sublist.refl _|refine List.Sublist.cons_cons _ ?_|refine List.Sublist.cons _ ?_)) ⟨.mk 7 [] (l.length : Int) (l ++ a), k, b, h, [], Mem.le_trans hm hle4, hk, ⟨⟨7, [], (s.len : Int), s3⟩, rfl, rfl, ⟨rfl, rfl, by show (s.len : Int) = _; rw [hsl]; rfl, hs3⟩⟩, rfl, hS⟩
end
end Go.Sep


/- PrW5 -/
set_option linter.unusedVariables false
set_option linter.unusedSimpArgs false
namespace Go.Sep
open Go.Proofs
attribute [local irreducible] TC TO OT TCallX TCall DO DOt thenQ blockQ retQ At
section
variable {E : PE} {β : Type} {T : Ps.Res β} {k : Nat} {b h h0 : Bool} {A B : Ps.Pp β}
theorem RS.head {a : β} {X : Ps.Pp β} {b' : Bool} {k' : Nat} {h1 h2 : Bool} (hS0 : RS E T b k h h0 X) (hS : RS E T b' k' h1 h2 (Ps.ret a)) : RS E T b' k' h h0 (Ps.ret a) := by
 refine ⟨fun e => ⟨?_, (hS.1 e).2⟩, hS.2⟩
 cases b with
 | false => exact (hS0.1 rfl).1
 | true =>
  have h3 := hS0.2 rfl
  rw [(hS.1 e).2] at h3
  cases h3
theorem RS.set (hS : RS E T b k h h0 A) (h' : Bool) : RS E T b k h' h' A := ⟨fun e => ⟨rfl, (hS.1 e).2⟩, hS.2⟩
theorem RS.peek_t {q : Ps.F → Nat → Bool} (hS : RS E T b k h h0 (Ps.peek q A B)) (hb : (!b && q E.f k) = true) : RS E T b k h h0 A := hS.to fun e => Ps.peek_t' (by rw [e] at hb; exact hb)
theorem RS.peek_f {q : Ps.F → Nat → Bool} (hS : RS E T b k h h0 (Ps.peek q A B)) (hb : (!b && q E.f k) = false) : RS E T b k h h0 B := hS.to fun e => Ps.peek_f' (by rw [e] at hb; exact hb)
end
section
variable {mb : Mem} {E : PE} {h0 : Bool}
theorem runtil_rc {Y : Ps.Pp Tree} (hY : RC Tryz.prog mb E vTree 127 [E.v] h0 Y) (e : Str) (he : e ≠ []) :
  RC Tryz.prog mb E vSl 150 [E.v, strV e] h0 (Ps.exprsP E.N e Y) := by
 refine RC.enter Tryz.func150 rfl 15 rfl fun m L k b h T hm0 hE hk hS hn => ?_
 replace hY := hY.up hm0
 have hm : m ≤ m := Mem.le_refl _
 unfold Ps.exprsP Ps.inP at hS
 repeat (first|refine q1 ?_|refine q3 ?_|refine q4 tab rfl rfl ?_|refine q5 ?_|refine q6 ?_)
 refine TO.step rfl (OT.rtake he hS hE hk rfl rfl rfl rfl rfl rfl (fun hS hk => ?_) (fun hS => ?_))
 ·repeat (first|refine q1 ?_|refine q3 ?_|refine q4 tab rfl rfl ?_|refine q5 ?_|refine q6 ?_|refine q8 ?_|refine q15 ?_|refine q16 rfl ?_)
  refine retQ_ret rfl (L' := E.J (k + 1) false h :: L) (by repeat (exact List.Sublist.refl _)) ⟨[], k + 1, false, h, [], hm, hk, ⟨⟨none, 0, 0⟩, rfl, rfl, SlRep.nil _ _, by simp⟩, rfl, hS⟩
 ·repeat (first|refine q1 ?_|refine q3 ?_|refine q4 tab rfl rfl ?_|refine q5 ?_|refine q6 ?_|refine q13 ?_|refine q17 rfl ?_)
  refine TO.step rfl (OT.rcL (rexprs_rc hY) hm hS hn hE hk hm rfl rfl rfl rfl rfl rfl goes128 (fun x m2 a k b h hS hm hE hlex hk hrx hox hlx => ?_))
  repeat (first|refine q1 ?_|refine q3 ?_|refine q4 tab rfl rfl ?_|refine q5 ?_|refine q6 ?_)
  refine TO.step rfl (OT.rneed he hS hE hk rfl rfl rfl rfl rfl rfl (fun _ b k hS hk => ?_))
  repeat (first|refine q1 ?_|refine q3 ?_|refine q4 tab rfl rfl ?_|refine q5 ?_|refine q6 ?_|refine q15 ?_)
  refine retQ_ret rfl (L' := E.J k b h :: L) (by repeat (first|exact List.Sublist.refl _|refine List.Sublist.cons_cons _ ?_|refine List.Sublist.cons _ ?_)) ⟨a, k, b, h, [], hm, hk, ⟨x, rfl, rfl, hrx, hlx⟩, rfl, hS⟩
set_option maxHeartbeats 2000000 in
theorem rindex_rc {Y : Ps.Pp Tree} (hY : RC Tryz.prog mb E vTree 127 [E.v] h0 Y) (x : HTree) (n : Tree) (hr : TreeRep mb x n) :
  RC Tryz.prog mb E vTree 149 [E.v, treeV x] h0 (Ps.indexP Y n) := by
 refine RC.enter Tryz.func149 rfl 44 rfl fun m L k b h T hm0 hE hk hS hn => ?_
 replace hY := hY.up hm0
 replace hr := hr.mono hm0
 have hm : m ≤ m := Mem.le_refl _
 unfold Ps.indexP at hS
 repeat (first|refine q1 ?_|refine q3 ?_)
 refine TO.step rfl (OT.box rfl rfl rfl rfl rfl (fun b3 => ?_)); refine TO.perm (List.Perm.swap _ _ _) ?_
 refine TO.step rfl (OT.alloc tab rfl rfl rfl rfl (fun b4 => ?_)); refine TO.perm (List.Perm.swap _ _ _) ?_
 repeat (first|refine q1 ?_|refine q3 ?_|refine q5 ?_|refine q6 ?_)
 (refine qs rfl (qz tab 2 rfl rfl rfl rfl rfl rfl ?_))
 refine TO.step rfl (OT.litR tab rTree (hs := [x]) (l := [n]) ⟨rTree_iff.2 hr, trivial⟩ rfl rfl rfl rfl rfl (by decide) (fun s m1 hle1 hs ho hc => ?_))
 replace hm := hle1
 replace hE := hE.mono hle1
 refine TO.step rfl (OT.node rfl rfl rfl rfl rfl rfl ?_)
 refine TO.tokFo hc ho 4 ?_
 refine TO.perm (List.Perm.swap _ _ _) ?_
 skip
 refine TO.step rfl (OT.alloc tab rfl rfl rfl rfl (fun b5 => ?_)); refine TO.perm (List.Perm.swap _ _ _) ?_
 skip
 (refine TO.step rfl (OT.storeL0 tab 1 rfl rfl rfl rfl rfl rfl rfl rfl ?_))
 refine TO.nil ?_
 refine thenQ_n ?_
 refine TC.cut (ι := Int × Sl × Mem × List Tree × Nat × Bool × Bool) [0, 4, 5] rfl (fun _ => []) (fun i => i.2.2.1) (fun i => E.J i.2.2.2.2.1 i.2.2.2.2.2.1 i.2.2.2.2.2.2 :: .cells b5 0 [.int .i64 50, strV [], .int .i64 i.1, i.2.1.v] :: tok i.2.1 4 :: .cells b4 0 [.int .i64 0, strV [], .int .i64 0, .slice none 0 0] :: L) (fun i => m ≤ i.2.2.1 ∧ E.Ok i.2.2.1 ∧ i.2.2.2.2.1 ≤ E.toks.length ∧ SlRep rTree i.2.2.1 i.2.1 i.2.2.2.1 ∧ Own i.2.1 ∧ i.2.2.2.1.length ≤ 2 ∧ 0 ≤ i.1 ∧ i.1 ≤ 1 ∧ RS E T i.2.2.2.2.2.1 i.2.2.2.2.1 i.2.2.2.2.2.2 h0 (Ps.cutP Y i.1 i.2.2.2.1)) ?_ ?_
 ·repeat (first|refine q1 ?_|refine q3 ?_|refine q4 tab rfl rfl ?_)
  refine TO.step rfl (OT.call rfl rfl rfl rfl rfl rfl goes77 ((now_law hE hk).x ?_));
  rintro _ _ _ ⟨rfl, rfl, rfl⟩
  repeat (first|refine q4 tab rfl rfl ?_|refine q5 ?_|refine q6 ?_)
  rw [nowD_eq (by decide)]
  cases hb : (!b && Ps.isM [58] E.f k) with
  | true =>
   replace hS := hS.peek_t hb
   repeat (first|refine q6 ?_|refine q13 ?_|refine q17 rfl ?_)
   exact ⟨(0, s, m1, [n], k, b, h), (by repeat (exact trivial)), (by repeat (first|exact trivial|refine And.intro rfl ?_)), rfl, rfl, (by repeat (first|exact List.Sublist.refl _|refine List.Sublist.cons_cons _ ?_|refine List.Sublist.cons _ ?_)), hm, hE, hk, hs, ho, by simp, by simp only; omega, by simp only; omega, hS⟩
  | false =>
   replace hS := hS.peek_f hb
   replace hY := hY.up hm
   repeat (first|refine q1 ?_|refine q16 rfl ?_)
   refine TC.draw [7] mixed 8 rfl [.cells b5 0 [.int .i64 50, strV [], .int .i64 0, s.v]] (E.J k b h :: tok s 4 :: .cells b4 0 [.int .i64 0, strV [], .int .i64 0, .slice none 0 0] :: .cells b3 0 (treeC x) :: L) (List.Perm.swap _ _ _) ?_
   refine DO.pure tab (by repeat (first|exact Calm.ret|refine Calm.then ?_)) (by kernel_rfl) [0] (by kernel_rfl) rfl ?_
   (refine DO.loadL tab 1 0 (by repeat (first|exact Calm.ret|refine Calm.then ?_)) (by kernel_rfl) (by kernel_rfl) rfl rfl rfl rfl rfl rfl rfl rfl ?_)
   refine DO.pure tab (by repeat (first|exact Calm.ret|refine Calm.then ?_)) (by kernel_rfl) [2] (by kernel_rfl) rfl ?_
   refine DO.run 3 rfl rfl (by kernel_rfl) rfl ?_
   refine OT.perm (List.Perm.swap _ _ _) (OT.rcT (hY) (Mem.le_refl _) hS hn hE hk hm rfl rfl rfl rfl rfl rfl goes127 (fun x3 mA a3 k b h hS hm hE hleA hk hr3 => ?_)); refine ⟨hleA, E.J k b h :: tok s 4 :: .cells b4 0 [.int .i64 0, strV [], .int .i64 0, .slice none 0 0] :: .cells b3 0 (treeC x) :: L, List.Perm.swap _ _ _, ?_⟩
   refine DO.run 4 rfl rfl (by kernel_rfl) rfl ?_
   refine OT.litR tab rTree (hs := [x3]) (l := [a3]) ⟨rTree_iff.2 hr3, trivial⟩ rfl rfl rfl rfl rfl (by decide) (fun sB mB hleB hsB hoB hcB => ?_); refine ⟨hleB, _, List.Perm.refl _, ?_⟩
   refine DO.run 5 rfl rfl (by kernel_rfl) rfl ?_
   refine OT.append tab rTree 2 (hs.mono (Mem.le_trans hleA hleB)) ho hsB rfl rfl rfl rfl rfl rfl rfl (by simp only [List.length_append, List.length_cons, List.length_nil, rTree, mkR]; omega) (fun s3 mC hleC hs3 ho3 => ?_); refine ⟨hleC, E.J k b h :: tok s3 4 :: .cells b4 0 [.int .i64 0, strV [], .int .i64 0, .slice none 0 0] :: .cells b3 0 (treeC x) :: L, List.Perm.refl _, ?_⟩
   refine DO.pure tab (by repeat (first|exact Calm.ret|refine Calm.then ?_)) (by kernel_rfl) [6] (by kernel_rfl) rfl ?_
   refine DO.tail ?_
   refine DOt.run 7 rfl rfl (by kernel_rfl) rfl ?_
   refine OT.storeL (k := 3) tab 0 rfl rfl rfl rfl rfl rfl rfl rfl ?_; refine DOt.perm (List.Perm.swap _ _ _) ?_
   refine DOt.nil (by kernel_rfl) ?_
   rotate_left 1
   replace hm := Mem.le_trans hm (Mem.le_trans hleB hleC)
   replace hE := hE.mono (Mem.le_trans hleB hleC)
   repeat (first|refine q1 ?_|refine q3 ?_|refine q4 tab rfl rfl ?_|refine q6 ?_)
   refine TO.step rfl (OT.storeL (k := 2) tab 1 rfl rfl rfl rfl rfl rfl rfl rfl ?_)
   repeat (first|refine q1 ?_|refine q3 ?_|refine q4 tab rfl rfl ?_|refine q5 ?_|refine q6 ?_)
   refine TO.step rfl (OT.rtake (by decide) hS hE hk rfl rfl rfl rfl rfl rfl (fun hS hk => ?_) (fun hS => ?_))
   ·repeat (first|refine q1 ?_|refine q3 ?_|refine q4 tab rfl rfl ?_|refine q5 ?_|refine q6 ?_|refine q16 rfl ?_)
    (refine qs rfl (ql tab 1 rfl rfl rfl rfl rfl rfl ?_))
    refine TO.step rfl (OT.node rfl rfl rfl rfl rfl rfl ?_)
    skip
    refine TO.step rfl (OT.storeL0 tab 3 rfl rfl rfl rfl rfl rfl rfl rfl ?_)
    repeat (first|refine q5 ?_|refine q6 ?_|refine q8 ?_|refine q15 ?_)
    refine retQ_ret_c1 tab 3 rfl rfl rfl rfl (L' := E.J (k + 1) false h :: L) (by repeat (first|exact List.Sublist.refl _|refine List.Sublist.cons_cons _ ?_|refine List.Sublist.cons _ ?_)) ⟨.mk 49 [] 0 [n, a3], k + 1, false, h, [], hm, hk, ⟨⟨49, [], 0, s3⟩, rfl, rfl, ⟨rfl, rfl, rfl, hs3⟩⟩, rfl, hS⟩
   ·repeat (first|refine q5 ?_|refine q6 ?_|refine q13 ?_|refine q17 rfl ?_)
    exact ⟨(1, s3, mC, [n] ++ [a3], k, b, h), (by repeat (exact trivial)), (by repeat (first|exact trivial|refine And.intro rfl ?_)), rfl, rfl, (by repeat (first|exact List.Sublist.refl _|refine List.Sublist.cons_cons _ ?_|refine List.Sublist.cons _ ?_)), hm, hE, hk, hs3, ho3, by simp, by simp only; omega, by simp only; omega, hS⟩
 ·rintro ⟨num, s, m1, ks, k, b, h⟩ ⟨hm, hE, hk, hs, ho, hl, hn0, hn1, hS⟩
  simp only at hm hE hk hs ho hl hn0 hn1 hS
  unfold Ps.cutP at hS
  replace hY := hY.up hm
  repeat (first|refine q1 ?_|refine q3 ?_|refine q4 tab rfl rfl ?_)
  refine TO.step rfl (OT.rneed (by decide) hS hE hk rfl rfl rfl rfl rfl rfl (fun _ b k hS hk => ?_))
  repeat (first|refine q1 ?_|refine q3 ?_|refine q4 tab rfl rfl ?_|refine q5 ?_|refine q6 ?_)
  refine TO.step rfl (OT.rtake (by decide) hS hE hk rfl rfl rfl rfl rfl rfl (fun hS hk => ?_) (fun hS => ?_))
  ·repeat (first|refine q1 ?_|refine q3 ?_|refine q5 ?_|refine q6 ?_|refine q16 rfl ?_)
   (refine qs rfl (qz tab 1 rfl rfl rfl rfl rfl rfl ?_))
   skip
   refine TO.step rfl (OT.storeL0 tab 3 rfl rfl rfl rfl rfl rfl rfl rfl ?_)
   repeat (first|refine q5 ?_|refine q6 ?_|refine q8 ?_|refine q15 ?_)
   refine retQ_ret_c1 tab 3 rfl rfl rfl rfl (L' := E.J (k + 1) false h :: L) (by repeat (first|exact List.Sublist.refl _|refine List.Sublist.cons_cons _ ?_|refine List.Sublist.cons _ ?_)) ⟨.mk 50 [] num ks, k + 1, false, h, [], hm, hk, ⟨⟨50, [], num, s⟩, rfl, rfl, ⟨rfl, rfl, rfl, hs⟩⟩, rfl, hS⟩
  ·repeat (first|refine q1 ?_|refine q5 ?_|refine q6 ?_|refine q13 ?_|refine q17 rfl ?_)
   refine TC.draw [7] mixed 8 rfl [.cells b5 0 [.int .i64 50, strV [], .int .i64 num, s.v]] (E.J k b h :: tok s 4 :: .cells b4 0 [.int .i64 0, strV [], .int .i64 0, .slice none 0 0] :: L) (List.Perm.swap _ _ _) ?_
   refine DO.pure tab (by repeat (first|exact Calm.ret|refine Calm.then ?_)) (by kernel_rfl) [0] (by kernel_rfl) rfl ?_
   (refine DO.loadL tab 1 0 (by repeat (first|exact Calm.ret|refine Calm.then ?_)) (by kernel_rfl) (by kernel_rfl) rfl rfl rfl rfl rfl rfl rfl rfl ?_)
   refine DO.pure tab (by repeat (first|exact Calm.ret|refine Calm.then ?_)) (by kernel_rfl) [2] (by kernel_rfl) rfl ?_
   refine DO.run 3 rfl rfl (by kernel_rfl) rfl ?_
   refine OT.perm (List.Perm.swap _ _ _) (OT.rcT (hY) (Mem.le_refl _) hS hn hE hk hm rfl rfl rfl rfl rfl rfl goes127 (fun x3 mA a3 k b h hS hm hE hleA hk hr3 => ?_)); refine ⟨hleA, E.J k b h :: tok s 4 :: .cells b4 0 [.int .i64 0, strV [], .int .i64 0, .slice none 0 0] :: L, List.Perm.swap _ _ _, ?_⟩
   refine DO.run 4 rfl rfl (by kernel_rfl) rfl ?_
   refine OT.litR tab rTree (hs := [x3]) (l := [a3]) ⟨rTree_iff.2 hr3, trivial⟩ rfl rfl rfl rfl rfl (by decide) (fun sB mB hleB hsB hoB hcB => ?_); refine ⟨hleB, _, List.Perm.refl _, ?_⟩
   refine DO.run 5 rfl rfl (by kernel_rfl) rfl ?_
   refine OT.append tab rTree 2 (hs.mono (Mem.le_trans hleA hleB)) ho hsB rfl rfl rfl rfl rfl rfl rfl (by simp only [List.length_append, List.length_cons, List.length_nil, rTree, mkR]; omega) (fun s3 mC hleC hs3 ho3 => ?_); refine ⟨hleC, E.J k b h :: tok s3 4 :: .cells b4 0 [.int .i64 0, strV [], .int .i64 0, .slice none 0 0] :: L, List.Perm.refl _, ?_⟩
   refine DO.pure tab (by repeat (first|exact Calm.ret|refine Calm.then ?_)) (by kernel_rfl) [6] (by kernel_rfl) rfl ?_
   refine DO.tail ?_
   refine DOt.run 7 rfl rfl (by kernel_rfl) rfl ?_
   refine OT.storeL (k := 3) tab 0 rfl rfl rfl rfl rfl rfl rfl rfl ?_; refine DOt.perm (List.Perm.swap _ _ _) ?_
   refine DOt.nil (by kernel_rfl) ?_
   rotate_left 1
   replace hm := Mem.le_trans hm (Mem.le_trans hleB hleC)
   replace hE := hE.mono (Mem.le_trans hleB hleC)
   repeat (first|refine q1 ?_|refine q3 ?_|refine q4 tab rfl rfl ?_|refine q6 ?_)
   (refine qs rfl (ql tab 1 rfl rfl rfl rfl rfl rfl ?_))
   refine TO.step rfl (OT.arith (r' := num + 2) rfl rfl rfl rfl rfl rfl rfl (by omega) ?_)
   repeat (refine q4 tab rfl rfl ?_)
   refine TO.step rfl (OT.storeL (k := 2) tab 1 rfl rfl rfl rfl rfl rfl rfl rfl ?_)
   repeat (first|refine q1 ?_|refine q3 ?_|refine q4 tab rfl rfl ?_|refine q5 ?_|refine q6 ?_)
   refine TO.step rfl (OT.rneed (by decide) hS hE hk rfl rfl rfl rfl rfl rfl (fun _ b k hS hk => ?_))
   repeat (first|refine q1 ?_|refine q3 ?_|refine q5 ?_|refine q6 ?_)
   (refine qs rfl (qz tab 1 rfl rfl rfl rfl rfl rfl ?_))
   skip
   refine TO.step rfl (OT.storeL0 tab 3 rfl rfl rfl rfl rfl rfl rfl rfl ?_)
   repeat (first|refine q5 ?_|refine q6 ?_|refine q15 ?_)
   refine retQ_ret_c1 tab 3 rfl rfl rfl rfl (L' := E.J k b h :: L) (by repeat (first|exact List.Sublist.refl _|refine List.Sublist.cons_cons _ ?_|refine List.Sublist.cons _ ?_)) ⟨.mk 50 [] (num + 2) (ks ++ [a3]), k, b, h, [], hm, hk, ⟨⟨50, [], num + 2, s3⟩, rfl, rfl, ⟨rfl, rfl, rfl, hs3⟩⟩, rfl, hS⟩
theorem rcond_rc {X : Ps.Pp Tree} (hX : RC Tryz.prog mb E vTree 127 [E.v] true X) :
  RC Tryz.prog mb E vTree 107 [E.v] false X := by
 refine RC.enter Tryz.func107 rfl 13 rfl fun m L k b h T hm0 hE hk hS hn => ?_
 replace hX := hX.up hm0
 have hm : m ≤ m := Mem.le_refl _
 rw [← Ps.bind_ret X] at hS
 replace hS := hS.set true
 repeat (first|refine q1 ?_|refine q3 ?_)
 refine TO.step rfl (OT.alloc tab rfl rfl rfl rfl (fun b2 => ?_)); refine TO.perm (List.Perm.swap _ _ _) ?_
 repeat (first|refine q1 ?_|refine q3 ?_|refine q4 tab rfl rfl ?_|refine q5 ?_|refine q6 ?_)
 refine TO.step rfl (OT.storeL (k := 3) tab 0 rfl rfl rfl rfl rfl rfl rfl rfl ?_)
 repeat (first|refine q1 ?_|refine q3 ?_|refine q4 tab rfl rfl ?_|refine q5 ?_|refine q6 ?_)
 refine TO.step rfl (OT.rcT (hX) hm hS hn hE hk hm rfl rfl rfl rfl rfl rfl goes127 (fun x m2 a k b h hS hm hE hlex hk hrx => ?_))
 skip
 refine TO.step rfl (OT.alloc tab rfl rfl rfl rfl (fun b3 => ?_)); refine TO.perm (List.Perm.swap _ _ _) ?_
 skip
 (refine TO.step rfl (OT.storeL0 tab 1 rfl rfl rfl rfl rfl rfl rfl rfl ?_))
 repeat (first|refine q1 ?_|refine q3 ?_|refine q4 tab rfl rfl ?_|refine q5 ?_|refine q6 ?_)
 refine TO.step rfl (OT.storeL (k := 3) tab 0 rfl rfl rfl rfl rfl rfl rfl rfl ?_)
 repeat (first|refine q1 ?_|refine q3 ?_|refine q5 ?_|refine q6 ?_)
 (refine qs rfl (qz tab 1 rfl rfl rfl rfl rfl rfl ?_))
 skip
 refine TO.step rfl (OT.storeL0 tab 2 rfl rfl rfl rfl rfl rfl rfl rfl ?_)
 repeat (first|refine q5 ?_|refine q6 ?_|refine q15 ?_)
 refine retQ_ret_c1 tab 2 rfl rfl rfl rfl (L' := E.J k b false :: L) (by repeat (first|exact List.Sublist.refl _|refine List.Sublist.cons_cons _ ?_|refine List.Sublist.cons _ ?_)) ⟨a, k, b, false, [], hm, hk, ⟨x, rfl, rfl, hrx⟩, rfl, hS.set false⟩
set_option maxHeartbeats 1000000 in
theorem rblock_rc {X : Ps.Pp Tree} (hX : RC Tryz.prog mb E vTree 81 [E.v] false X) :
  RC Tryz.prog mb E vTree 40 [E.v] h0 (Ps.blockP E.N X) := by
 refine RC.enter Tryz.func40 rfl 37 rfl fun m L k b hh T hm0 hE hk hS0 hn => ?_
 replace hX := hX.up hm0
 have hm : m ≤ m := Mem.le_refl _
 have hrows := hE.rows
 have hS := hS0.set false
 unfold Ps.blockP at hS
 rw [Ps.rest_start] at hS
 repeat (first|refine q1 ?_|refine q3 ?_)
 refine TO.step rfl (OT.alloc tab rfl rfl rfl rfl (fun b2 => ?_)); refine TO.perm (List.Perm.swap _ _ _) ?_
 repeat (first|refine q1 ?_|refine q3 ?_|refine q5 ?_|refine q6 ?_)
 refine TO.step rfl (OT.node (sl := ⟨none, 0, 0⟩) rfl rfl rfl rfl rfl rfl ?_)
 refine TO.step rfl (OT.alloc tab rfl rfl rfl rfl (fun b4 => ?_)); refine TO.perm (List.Perm.swap _ _ _) ?_
 skip
 (refine TO.step rfl (OT.storeL0 tab 1 rfl rfl rfl rfl rfl rfl rfl rfl ?_))
 repeat (first|refine q1 ?_|refine q3 ?_|refine q4 tab rfl rfl ?_|refine q5 ?_|refine q6 ?_)
 (refine qs rfl (ql tab 0 rfl rfl rfl rfl rfl rfl ?_))
 repeat (first|refine q1 ?_|refine q3 ?_|refine q4 tab rfl rfl ?_|refine q5 ?_|refine q6 ?_)
 refine TO.step rfl (OT.storeL (k := 3) tab 0 rfl rfl rfl rfl rfl rfl rfl rfl ?_)
 repeat (first|refine q1 ?_|refine q3 ?_|refine q4 tab rfl rfl ?_|refine q5 ?_|refine q6 ?_)
 refine TO.step rfl (OT.rneed (by decide) hS hE hk rfl rfl rfl rfl rfl rfl (fun _ b k hS hk => ?_))
 refine TO.grow0 (size := 4) ?_
 refine TO.perm (L' := E.J k b false :: .cells b4 0 [.int .i64 20, strV [], .int .i64 0, .slice none 0 0] :: tok ⟨none, 0, 0⟩ 4 :: .cells b2 0 [.int .i64 0, strV [], .int .i64 0, .slice none 0 0] :: L) ((List.Perm.trans pfr1 (List.Perm.cons _ pfr1))) ?_
 repeat (first|refine q1 ?_|refine q2 ?_|refine q5 ?_|refine q6 ?_)
 refine TC.loopK (ι := Sl × Mem × List Tree × Nat × Nat × Bool × Bool) [0, 2, 3, 4] rfl (fun x => []) (fun x => x.2.1) (fun x => E.J x.2.2.2.1 x.2.2.2.2.2.1 x.2.2.2.2.2.2 :: .cells b4 0 [.int .i64 20, strV [], .int .i64 0, x.1.v] :: tok x.1 4 :: .cells b2 0 [.int .i64 0, strV [], .int .i64 0, .slice none 0 0] :: L) (fun x => m ≤ x.2.1 ∧ E.Ok x.2.1 ∧ x.2.2.2.1 ≤ E.toks.length ∧ SlRep rTree x.2.1 x.1 x.2.2.1 ∧ Own x.1 ∧ x.2.2.1.length + x.2.2.2.2.1 = E.N ∧ RS E T x.2.2.2.2.2.1 x.2.2.2.1 x.2.2.2.2.2.2 false (Ps.bind (Ps.rest x.2.2.2.2.1 [125] X x.2.2.1) (fun l => Ps.ret (.mk 20 [] 0 l)))) (fun x => x.2.2.2.2.1) (⟨none, 0, 0⟩, m, [], k, E.N, b, false) (by repeat (exact trivial)) rfl (by repeat (exact List.Sublist.refl _)) ⟨hm, hE, hk, SlRep.nil _ _, Own.nil, by simp, hS⟩ ?_
 clear hS hk hE hm
 rintro ⟨s, m1, acc, k, j, b, h⟩ ⟨hm, hE, hk, hs, ho, hlen, hS⟩
 simp only at hm hE hk hs ho hlen hS
 show TC _ _ _ _ _ m1 (E.J k b h :: .cells b4 0 [.int .i64 20, strV [], .int .i64 0, s.v] :: tok s 4 :: .cells b2 0 [.int .i64 0, strV [], .int .i64 0, .slice none 0 0] :: L) _
 repeat (first|refine q1 ?_|refine q3 ?_|refine q4 tab rfl rfl ?_)
 (refine qs rfl (ql tab 0 rfl rfl rfl rfl rfl rfl ?_))
 cases b with
 | true =>
  replace hS := hS.any h (rest' := Ps.ret (Tree.mk 20 [] 0 acc))
  repeat (first|refine q1 ?_|refine q3 ?_|refine q4 tab rfl rfl ?_|refine q5 ?_|refine q6 ?_|refine q10 ?_|refine q11 ?_|refine q14 ?_|refine q17 rfl ?_)
  refine TO.step rfl (OT.storeL (k := 3) tab 0 rfl rfl rfl rfl rfl rfl rfl rfl ?_)
  repeat (first|refine q1 ?_|refine q3 ?_|refine q5 ?_|refine q6 ?_)
  (refine qs rfl (qz tab 1 rfl rfl rfl rfl rfl rfl ?_))
  skip
  refine TO.step rfl (OT.storeL0 tab 3 rfl rfl rfl rfl rfl rfl rfl rfl ?_)
  repeat (first|refine q5 ?_|refine q6 ?_|refine q15 ?_)
  refine retQ_ret_c1 tab 3 rfl rfl rfl rfl (L' := E.J k true hh :: L) (by repeat (first|exact List.Sublist.refl _|refine List.Sublist.cons_cons _ ?_|refine List.Sublist.cons _ ?_)) ⟨.mk 20 [] 0 acc, k, true, hh, [], hm, hk, ⟨⟨20, [], 0, s⟩, rfl, rfl, ⟨rfl, rfl, rfl, hs⟩⟩, rfl, hS0.head hS⟩
 | false =>
 cases j with
 | zero => exact absurd (hS.1 rfl).2 hn
 | succ j =>
  rw [Ps.rest_succ, Ps.tok_bind, Ps.bind_assoc, Ps.ret_bind] at hS
  repeat (refine q4 tab rfl rfl ?_)
  refine TO.step rfl (OT.rtake (by decide) hS hE hk rfl rfl rfl rfl rfl rfl (fun hS hk => ?_) (fun hS => ?_))
  ·skip
   repeat (first|refine q1 ?_|refine q3 ?_|refine q4 tab rfl rfl ?_|refine q5 ?_|refine q6 ?_|refine q10 ?_|refine q11 ?_|refine q14 ?_|refine q17 rfl ?_)
   refine TO.step rfl (OT.storeL (k := 3) tab 0 rfl rfl rfl rfl rfl rfl rfl rfl ?_)
   repeat (first|refine q1 ?_|refine q3 ?_|refine q5 ?_|refine q6 ?_)
   (refine qs rfl (qz tab 1 rfl rfl rfl rfl rfl rfl ?_))
   skip
   refine TO.step rfl (OT.storeL0 tab 3 rfl rfl rfl rfl rfl rfl rfl rfl ?_)
   repeat (first|refine q5 ?_|refine q6 ?_|refine q15 ?_)
   refine retQ_ret_c1 tab 3 rfl rfl rfl rfl (L' := E.J (k+1) false hh :: L) (by repeat (first|exact List.Sublist.refl _|refine List.Sublist.cons_cons _ ?_|refine List.Sublist.cons _ ?_)) ⟨.mk 20 [] 0 acc, (k+1), false, hh, [], hm, hk, ⟨⟨20, [], 0, s⟩, rfl, rfl, ⟨rfl, rfl, rfl, hs⟩⟩, rfl, hS0.head hS⟩
  ·repeat (first|refine q2 ?_|refine q4 tab rfl rfl ?_|refine q5 ?_|refine q6 ?_|refine q13 ?_|refine q16 rfl ?_)
   refine TC.draw [7] mixed 8 rfl [.cells b4 0 [.int .i64 20, strV [], .int .i64 0, s.v]] (E.J k false h :: tok s 4 :: .cells b2 0 [.int .i64 0, strV [], .int .i64 0, .slice none 0 0] :: L) (List.Perm.swap _ _ _) ?_
   refine DO.pure tab (by repeat (first|exact Calm.ret|refine Calm.then ?_|refine Calm.block ?_)) (by kernel_rfl) [0] (by kernel_rfl) rfl ?_
   (refine DO.loadL tab 1 0 (by repeat (first|exact Calm.ret|refine Calm.then ?_|refine Calm.block ?_)) (by kernel_rfl) (by kernel_rfl) rfl rfl rfl rfl rfl rfl rfl rfl ?_)
   refine DO.pure tab (by repeat (first|exact Calm.ret|refine Calm.then ?_|refine Calm.block ?_)) (by kernel_rfl) [2] (by kernel_rfl) rfl ?_
   refine DO.run 3 rfl rfl (by kernel_rfl) rfl ?_
   refine OT.perm (List.Perm.swap _ _ _) (OT.rcT ((hX.up hm)) (Mem.le_refl _) hS hn hE hk hm rfl rfl rfl rfl rfl rfl goes81 (fun x mA a k b h hS hm hE hleA hk hr => ?_)); refine ⟨hleA, E.J k b h :: tok s 4 :: .cells b2 0 [.int .i64 0, strV [], .int .i64 0, .slice none 0 0] :: L, List.Perm.swap _ _ _, ?_⟩
   refine DO.run 4 rfl rfl (by kernel_rfl) rfl ?_
   refine OT.litR tab rTree (hs := [x]) (l := [a]) ⟨rTree_iff.2 hr, trivial⟩ rfl rfl rfl rfl rfl (by decide) (fun sB mB hleB hsB hoB hcB => ?_); refine ⟨hleB, _, List.Perm.refl _, ?_⟩
   refine DO.run 5 rfl rfl (by kernel_rfl) rfl ?_
   refine OT.append tab rTree 2 (hs.mono (Mem.le_trans hleA hleB)) ho hsB rfl rfl rfl rfl rfl rfl rfl (by simp only [List.length_append, List.length_cons, List.length_nil, rTree, mkR]; omega) (fun s3 mC hleC hs3 ho3 => ?_); refine ⟨hleC, E.J k b h :: tok s3 4 :: .cells b2 0 [.int .i64 0, strV [], .int .i64 0, .slice none 0 0] :: L, List.Perm.refl _, ?_⟩
   refine DO.pure tab (by repeat (first|exact Calm.ret|refine Calm.then ?_|refine Calm.block ?_)) (by kernel_rfl) [6] (by kernel_rfl) rfl ?_
   refine DO.tail ?_
   refine DOt.run 7 rfl rfl (by kernel_rfl) rfl ?_
   refine OT.storeL (k := 3) tab 0 rfl rfl rfl rfl rfl rfl rfl rfl ?_; refine DOt.perm (List.Perm.swap _ _ _) ?_
   refine DOt.nil (by kernel_rfl) ?_
   rotate_left 1
   replace hm := Mem.le_trans hm (Mem.le_trans hleB hleC)
   replace hE := hE.mono (Mem.le_trans hleB hleC)
   repeat (first|refine q6 ?_|refine q7 ?_)
   exact ⟨(s3, mC, acc ++ [a], k, j, b, h), (by repeat (exact trivial)), (by repeat (first|exact trivial|refine And.intro rfl ?_)), rfl, rfl, (by repeat (exact List.Sublist.refl _)), ⟨hm, hE, hk, hs3, ho3, by simp only [List.length_append, List.length_cons, List.length_nil]; omega, hS⟩, by simp only; omega⟩
end
end Go.Sep


/- PrW6 -/
set_option linter.unusedVariables false
set_option linter.unusedSimpArgs false
namespace Go.Sep
open Go.Proofs
attribute [local irreducible] TC TO OT TCallX TCall DO DOt thenQ blockQ retQ At
section
variable {mb : Mem} {E : PE} {h0 : Bool}
set_option maxHeartbeats 3000000 in
theorem rdecl_rc {X Y : Ps.Pp Tree} (hX : RC Tryz.prog mb E vTree 39 [E.v] h0 X) (hY : RC Tryz.prog mb E vTree 40 [E.v] h0 Y) :
  RC Tryz.prog mb E vTree 23 [E.v] h0 (Ps.declP E.N X Y) := by
 refine RC.enter Tryz.func23 rfl 94 rfl fun m L k b h T hm0 hE hk hS hn => ?_
 replace hX := hX.up hm0
 replace hY := hY.up hm0
 have hm : m ≤ m := Mem.le_refl _
 have hrows := hE.rows
 unfold Ps.declP at hS
 repeat (first|refine q1 ?_|refine q3 ?_)
 refine TO.step rfl (OT.alloc tab rfl rfl rfl rfl (fun b2 => ?_)); refine TO.perm (List.Perm.swap _ _ _) ?_
 repeat (first|refine q1 ?_|refine q3 ?_|refine q4 tab rfl rfl ?_|refine q5 ?_|refine q6 ?_)
 refine TO.step rfl (OT.rtake (by decide) hS hE hk rfl rfl rfl rfl rfl rfl (fun hS hk => ?_) (fun hS => ?_))
 ·unfold Ps.typeDeclP at hS
  repeat (first|refine q1 ?_|refine q3 ?_|refine q4 tab rfl rfl ?_|refine q5 ?_|refine q6 ?_|refine q16 rfl ?_)
  refine TO.step rfl (OT.rname hS hE hk rfl rfl rfl rfl rfl rfl (fun nm b k hS hk => ?_))
  refine TO.step rfl (OT.node (sl := ⟨none, 0, 0⟩) rfl rfl rfl rfl rfl rfl ?_)
  refine TO.step rfl (OT.alloc tab rfl rfl rfl rfl (fun b3 => ?_)); refine TO.perm (List.Perm.swap _ _ _) ?_
  skip
  (refine TO.step rfl (OT.storeL0 tab 1 rfl rfl rfl rfl rfl rfl rfl rfl ?_))
  refine TO.nil ?_
  refine thenQ_n ?_
  refine TC.cut (ι := Int × FuncId × Ps.Pp Tree × Nat × Bool × Bool) [0, 2, 3] rfl (fun i => []) (fun i => m) (fun i => E.J i.2.2.2.1 i.2.2.2.2.1 i.2.2.2.2.2 :: .cells b3 0 [.int .i64 i.1, strV nm, .int .i64 0, .slice none 0 0] :: .cells b2 0 [.int .i64 0, strV [], .int .i64 0, .slice none 0 0] :: L) (fun i => i.2.2.2.1 ≤ E.toks.length ∧ ((i.1 = 3 ∧ i.2.1 = 38 ∧ i.2.2.1 = Ps.sigP E.N X) ∨ (i.1 = 2 ∧ i.2.1 = 39 ∧ i.2.2.1 = X)) ∧ RS E T i.2.2.2.2.1 i.2.2.2.1 i.2.2.2.2.2 h0 (Ps.bodyP E.N i.1 nm i.2.2.1)) ?_ ?_
  ·repeat (first|refine q1 ?_|refine q3 ?_|refine q4 tab rfl rfl ?_)
   refine TO.step rfl (OT.rtake (by decide) hS hE hk rfl rfl rfl rfl rfl rfl (fun hS hk => ?_) (fun hS => ?_))
   ·repeat (first|refine q3 ?_|refine q4 tab rfl rfl ?_|refine q5 ?_|refine q6 ?_|refine q16 rfl ?_)
    refine TO.step rfl (OT.storeL0 tab 1 rfl rfl rfl rfl rfl rfl rfl rfl ?_)
    repeat (first|refine q5 ?_|refine q6 ?_)
    exact ⟨(3, 38, Ps.sigP E.N X, k + 1, false, h), (by repeat (exact trivial)), (by repeat (first|exact trivial|refine And.intro rfl ?_)), rfl, rfl, (by repeat (exact List.Sublist.refl _)), hk, .inl ⟨rfl, rfl, rfl⟩, hS⟩
   ·repeat (first|refine q3 ?_|refine q4 tab rfl rfl ?_|refine q5 ?_|refine q6 ?_|refine q17 rfl ?_)
    refine TO.step rfl (OT.rneed (by decide) hS hE hk rfl rfl rfl rfl rfl rfl (fun _ b k hS hk => ?_))
    repeat (first|refine q5 ?_|refine q6 ?_)
    exact ⟨(2, 39, X, k, b, h), (by repeat (exact trivial)), (by repeat (first|exact trivial|refine And.intro rfl ?_)), rfl, rfl, (by repeat (exact List.Sublist.refl _)), hk, .inr ⟨rfl, rfl, rfl⟩, hS⟩
  rintro ⟨kd, ff, Z, k, b, h⟩ ⟨hk, hcase, hS⟩
  simp only at hk hcase hS
  unfold Ps.bodyP at hS
  rw [Ps.rest_start] at hS
  repeat (first|refine q1 ?_|refine q3 ?_|refine q4 tab rfl rfl ?_)
  refine TO.step rfl (OT.rneed (by decide) hS hE hk rfl rfl rfl rfl rfl rfl (fun _ b k hS hk => ?_))
  refine TO.grow0 (size := 4) ?_
  refine TO.perm (L' := E.J k b h :: .cells b3 0 [.int .i64 kd, strV nm, .int .i64 0, .slice none 0 0] :: tok ⟨none, 0, 0⟩ 4 :: .cells b2 0 [.int .i64 0, strV [], .int .i64 0, .slice none 0 0] :: L) ((List.Perm.trans pfr1 (List.Perm.cons _ pfr1))) ?_
  repeat (first|refine q1 ?_|refine q2 ?_|refine q5 ?_|refine q6 ?_)
  refine TC.loopK (ι := Sl × Mem × List Tree × Nat × Nat × Bool × Bool) [0, 2, 3] rfl (fun x => []) (fun x => x.2.1) (fun x => E.J x.2.2.2.1 x.2.2.2.2.2.1 x.2.2.2.2.2.2 :: .cells b3 0 [.int .i64 kd, strV nm, .int .i64 0, x.1.v] :: tok x.1 4 :: .cells b2 0 [.int .i64 0, strV [], .int .i64 0, .slice none 0 0] :: L) (fun x => m ≤ x.2.1 ∧ E.Ok x.2.1 ∧ x.2.2.2.1 ≤ E.toks.length ∧ SlRep rTree x.2.1 x.1 x.2.2.1 ∧ Own x.1 ∧ x.2.2.1.length + x.2.2.2.2.1 = E.N ∧ RS E T x.2.2.2.2.2.1 x.2.2.2.1 x.2.2.2.2.2.2 h0 (Ps.bind (Ps.rest x.2.2.2.2.1 [125] (Ps.fieldP Z) x.2.2.1) (fun l => Ps.ret (.mk kd nm 0 l)))) (fun x => x.2.2.2.2.1) (⟨none, 0, 0⟩, m, [], k, E.N, b, h) (by repeat (exact trivial)) rfl (by repeat (exact List.Sublist.refl _)) ⟨hm, hE, hk, SlRep.nil _ _, Own.nil, by simp, hS⟩ ?_
  clear hS hk hE hm
  rintro ⟨s, m1, acc, k, j, b, h⟩ ⟨hm, hE, hk, hs, ho, hlen, hS⟩
  simp only at hm hE hk hs ho hlen hS
  show TC _ _ _ _ _ m1 (E.J k b h :: .cells b3 0 [.int .i64 kd, strV nm, .int .i64 0, s.v] :: tok s 4 :: .cells b2 0 [.int .i64 0, strV [], .int .i64 0, .slice none 0 0] :: L) _
  replace hX := hX.up hm
  repeat (first|refine q1 ?_|refine q3 ?_|refine q4 tab rfl rfl ?_)
  (refine qs rfl (ql tab 0 rfl rfl rfl rfl rfl rfl ?_))
  cases b with
  | true =>
   replace hS := hS.any h (rest' := Ps.ret (Tree.mk kd nm 0 acc))
   repeat (first|refine q1 ?_|refine q3 ?_|refine q4 tab rfl rfl ?_|refine q5 ?_|refine q6 ?_|refine q10 ?_|refine q11 ?_|refine q14 ?_|refine q17 rfl ?_)
   (refine qs rfl (qz tab 1 rfl rfl rfl rfl rfl rfl ?_))
   skip
   refine TO.step rfl (OT.storeL0 tab 3 rfl rfl rfl rfl rfl rfl rfl rfl ?_)
   repeat (first|refine q5 ?_|refine q6 ?_|refine q8 ?_|refine q15 ?_)
   refine retQ_ret_c1 tab 3 rfl rfl rfl rfl (L' := E.J k true h :: L) (by repeat (first|exact List.Sublist.refl _|refine List.Sublist.cons_cons _ ?_|refine List.Sublist.cons _ ?_)) ⟨.mk kd nm 0 acc, k, true, h, [], hm, hk, ⟨⟨kd, nm, 0, s⟩, rfl, rfl, ⟨rfl, rfl, rfl, hs⟩⟩, rfl, hS⟩
  | false =>
  cases j with
  | zero => exact absurd (hS.1 rfl).2 hn
  | succ j =>
   rw [Ps.rest_succ, Ps.tok_bind, Ps.bind_assoc, Ps.ret_bind] at hS
   repeat (refine q4 tab rfl rfl ?_)
   refine TO.step rfl (OT.rtake (by decide) hS hE hk rfl rfl rfl rfl rfl rfl (fun hS hk => ?_) (fun hS => ?_))
   ·skip
    repeat (first|refine q1 ?_|refine q3 ?_|refine q4 tab rfl rfl ?_|refine q5 ?_|refine q6 ?_|refine q10 ?_|refine q11 ?_|refine q14 ?_|refine q17 rfl ?_)
    (refine qs rfl (qz tab 1 rfl rfl rfl rfl rfl rfl ?_))
    skip
    refine TO.step rfl (OT.storeL0 tab 3 rfl rfl rfl rfl rfl rfl rfl rfl ?_)
    repeat (first|refine q5 ?_|refine q6 ?_|refine q8 ?_|refine q15 ?_)
    refine retQ_ret_c1 tab 3 rfl rfl rfl rfl (L' := E.J (k+1) false h :: L) (by repeat (first|exact List.Sublist.refl _|refine List.Sublist.cons_cons _ ?_|refine List.Sublist.cons _ ?_)) ⟨.mk kd nm 0 acc, (k+1), false, h, [], hm, hk, ⟨⟨kd, nm, 0, s⟩, rfl, rfl, ⟨rfl, rfl, rfl, hs⟩⟩, rfl, hS⟩
   ·unfold Ps.fieldP at hS
    simp only [Ps.name_bind, Ps.bind_assoc, Ps.need_bind, Ps.ret_bind] at hS
    repeat (first|refine q1 ?_|refine q2 ?_|refine q3 ?_|refine q4 tab rfl rfl ?_|refine q5 ?_|refine q6 ?_|refine q13 ?_|refine q16 rfl ?_)
    refine TO.step rfl (OT.rname hS hE hk rfl rfl rfl rfl rfl rfl (fun t b k hS hk => ?_))
    refine TO.step rfl (OT.node (sl := ⟨none, 0, 0⟩) rfl rfl rfl rfl rfl rfl ?_)
    refine TO.step rfl (OT.alloc tab rfl rfl rfl rfl (fun b4 => ?_)); refine TO.perm (List.Perm.swap _ _ _) ?_
    skip
    (refine TO.step rfl (OT.storeL0 tab 1 rfl rfl rfl rfl rfl rfl rfl rfl ?_))
    repeat (first|refine q1 ?_|refine q3 ?_|refine q4 tab rfl rfl ?_|refine q5 ?_|refine q6 ?_)
    (refine qs rfl (ql tab 2 rfl rfl rfl rfl rfl rfl ?_))
    have hmm : m1 ≤ m1 := Mem.le_refl _
    rcases hcase with ⟨rfl, rfl, hz⟩ | ⟨rfl, rfl, hz⟩
    ·repeat (first|refine q3 ?_|refine q4 tab rfl rfl ?_|refine q5 ?_|refine q6 ?_|refine q16 rfl ?_)
     refine TO.step rfl (OT.rcT (hz ▸ rsig_rc hX) hmm hS hn hE hk hm rfl rfl rfl rfl rfl rfl goes38 (fun x m2 a k b h hS hm hE hlex hk hrx => ?_))
     refine TO.step rfl (OT.litR tab rTree (hs := [x]) (l := [a]) ⟨rTree_iff.2 hrx, trivial⟩ rfl rfl rfl rfl rfl (by decide) (fun s2 m3 hle3 hs2 ho2 hc2 => ?_))
     replace hm := Mem.le_trans hm hle3
     replace hE := hE.mono hle3
     repeat (refine q4 tab rfl rfl ?_)
     refine TO.step rfl (OT.storeL (k := 3) tab 1 rfl rfl rfl rfl rfl rfl rfl rfl ?_)
     repeat (first|refine q1 ?_|refine q3 ?_|refine q4 tab rfl rfl ?_|refine q5 ?_|refine q6 ?_)
     refine TO.step rfl (OT.rneed (by decide) hS hE hk rfl rfl rfl rfl rfl rfl (fun _ b k hS hk => ?_))
     repeat (first|refine q3 ?_|refine q4 tab rfl rfl ?_|refine q5 ?_|refine q6 ?_)
     (refine qs rfl (ql tab 2 rfl rfl rfl rfl rfl rfl ?_))
     (refine qs rfl (qz tab 1 rfl rfl rfl rfl rfl rfl ?_))
     refine TO.step rfl (OT.litR tab rTree (hs := [⟨6, t, 0, s2⟩]) (l := [.mk 6 t 0 [a]]) ⟨rTree_iff.2 ⟨rfl, rfl, rfl, hs2⟩, trivial⟩ rfl rfl rfl rfl rfl (by decide) (fun s3 m4 hle4 hs3 ho3 hc3 => ?_))
     refine TO.step rfl (OT.append tab rTree 3 (hs.mono (Mem.le_trans hlex (Mem.le_trans hle3 hle4))) ho hs3 rfl rfl rfl rfl rfl rfl rfl (by simp only [List.length_append, List.length_cons, List.length_nil, rTree, mkR]; omega) (fun s4 m5 hle5 hs4 ho4 => ?_))
     replace hm := Mem.le_trans hm (Mem.le_trans hle4 hle5)
     replace hE := hE.mono (Mem.le_trans hle4 hle5)
     repeat (refine q4 tab rfl rfl ?_)
     refine TO.step rfl (OT.storeL (k := 3) tab 2 rfl rfl rfl rfl rfl rfl rfl rfl ?_)
     repeat (first|refine q5 ?_|refine q6 ?_|refine q7 ?_)
     exact ⟨(s4, m5, acc ++ [Tree.mk 6 t 0 [a]], k, j, b, h), (by repeat (exact trivial)), (by repeat (first|exact trivial|refine And.intro rfl ?_)), rfl, rfl, (by repeat (first|exact List.Sublist.refl _|refine List.Sublist.cons_cons _ ?_|refine List.Sublist.cons _ ?_)), ⟨hm, hE, hk, hs4, ho4, by simp only [List.length_append, List.length_cons, List.length_nil]; omega, hS⟩, by simp only; omega⟩
    ·repeat (first|refine q3 ?_|refine q4 tab rfl rfl ?_|refine q5 ?_|refine q6 ?_|refine q17 rfl ?_)
     refine TO.step rfl (OT.rcT (hz ▸ hX) hmm hS hn hE hk hm rfl rfl rfl rfl rfl rfl goes39 (fun x m2 a k b h hS hm hE hlex hk hrx => ?_))
     refine TO.step rfl (OT.litR tab rTree (hs := [x]) (l := [a]) ⟨rTree_iff.2 hrx, trivial⟩ rfl rfl rfl rfl rfl (by decide) (fun s2 m3 hle3 hs2 ho2 hc2 => ?_))
     replace hm := Mem.le_trans hm hle3
     replace hE := hE.mono hle3
     repeat (refine q4 tab rfl rfl ?_)
     refine TO.step rfl (OT.storeL (k := 3) tab 1 rfl rfl rfl rfl rfl rfl rfl rfl ?_)
     repeat (first|refine q1 ?_|refine q3 ?_|refine q4 tab rfl rfl ?_|refine q5 ?_|refine q6 ?_)
     refine TO.step rfl (OT.rneed (by decide) hS hE hk rfl rfl rfl rfl rfl rfl (fun _ b k hS hk => ?_))
     repeat (first|refine q3 ?_|refine q4 tab rfl rfl ?_|refine q5 ?_|refine q6 ?_)
     (refine qs rfl (ql tab 2 rfl rfl rfl rfl rfl rfl ?_))
     (refine qs rfl (qz tab 1 rfl rfl rfl rfl rfl rfl ?_))
     refine TO.step rfl (OT.litR tab rTree (hs := [⟨6, t, 0, s2⟩]) (l := [.mk 6 t 0 [a]]) ⟨rTree_iff.2 ⟨rfl, rfl, rfl, hs2⟩, trivial⟩ rfl rfl rfl rfl rfl (by decide) (fun s3 m4 hle4 hs3 ho3 hc3 => ?_))
     refine TO.step rfl (OT.append tab rTree 3 (hs.mono (Mem.le_trans hlex (Mem.le_trans hle3 hle4))) ho hs3 rfl rfl rfl rfl rfl rfl rfl (by simp only [List.length_append, List.length_cons, List.length_nil, rTree, mkR]; omega) (fun s4 m5 hle5 hs4 ho4 => ?_))
     replace hm := Mem.le_trans hm (Mem.le_trans hle4 hle5)
     replace hE := hE.mono (Mem.le_trans hle4 hle5)
     repeat (refine q4 tab rfl rfl ?_)
     refine TO.step rfl (OT.storeL (k := 3) tab 2 rfl rfl rfl rfl rfl rfl rfl rfl ?_)
     repeat (first|refine q5 ?_|refine q6 ?_|refine q7 ?_)
     exact ⟨(s4, m5, acc ++ [Tree.mk 6 t 0 [a]], k, j, b, h), (by repeat (exact trivial)), (by repeat (first|exact trivial|refine And.intro rfl ?_)), rfl, rfl, (by repeat (first|exact List.Sublist.refl _|refine List.Sublist.cons_cons _ ?_|refine List.Sublist.cons _ ?_)), ⟨hm, hE, hk, hs4, ho4, by simp only [List.length_append, List.length_cons, List.length_nil]; omega, hS⟩, by simp only; omega⟩
 ·repeat (first|refine q1 ?_|refine q3 ?_|refine q4 tab rfl rfl ?_|refine q5 ?_|refine q6 ?_|refine q13 ?_|refine q17 rfl ?_)
  refine TO.step rfl (OT.rneed (by decide) hS hE hk rfl rfl rfl rfl rfl rfl (fun _ b k hS hk => ?_))
  repeat (first|refine q1 ?_|refine q3 ?_|refine q5 ?_|refine q6 ?_)
  refine TO.step rfl (OT.node (sl := ⟨none, 0, 0⟩) rfl rfl rfl rfl rfl rfl ?_)
  refine TO.step rfl (OT.alloc tab rfl rfl rfl rfl (fun b5 => ?_)); refine TO.perm (List.Perm.swap _ _ _) ?_
  skip
  (refine TO.step rfl (OT.storeL0 tab 1 rfl rfl rfl rfl rfl rfl rfl rfl ?_))
  refine TO.nil ?_
  refine thenQ_n ?_
  refine TC.cut (ι := Int × Sl × List Tree × Mem × Nat × Bool × Bool) [0, 2, 5] rfl (fun i => []) (fun i => i.2.2.2.1) (fun i => E.J i.2.2.2.2.1 i.2.2.2.2.2.1 i.2.2.2.2.2.2 :: .cells b5 0 [.int .i64 i.1, strV [], .int .i64 0, i.2.1.v] :: tok i.2.1 4 :: .cells b2 0 [.int .i64 0, strV [], .int .i64 0, .slice none 0 0] :: L) (fun i => m ≤ i.2.2.2.1 ∧ E.Ok i.2.2.2.1 ∧ i.2.2.2.2.1 ≤ E.toks.length ∧ SlRep rTree i.2.2.2.1 i.2.1 i.2.2.1 ∧ Own i.2.1 ∧ i.2.2.1.length ≤ 1 ∧ RS E T i.2.2.2.2.2.1 i.2.2.2.2.1 i.2.2.2.2.2.2 h0 (Ps.name fun nm => Ps.bind (Ps.sigP E.N X) fun s => Ps.bind Y fun b => Ps.ret (.mk i.1 nm 0 (i.2.2.1 ++ [s, b])))) ?_ ?_
  ·repeat (first|refine q1 ?_|refine q3 ?_|refine q4 tab rfl rfl ?_)
   refine TO.step rfl (OT.rtake (by decide) hS hE hk rfl rfl rfl rfl rfl rfl (fun hS hk => ?_) (fun hS => ?_))
   ·repeat (first|refine q1 ?_|refine q3 ?_|refine q4 tab rfl rfl ?_|refine q5 ?_|refine q6 ?_|refine q16 rfl ?_)
    refine TO.step rfl (OT.rname hS hE hk rfl rfl rfl rfl rfl rfl (fun recv b k hS hk => ?_))
    repeat (first|refine q1 ?_|refine q3 ?_|refine q4 tab rfl rfl ?_|refine q5 ?_|refine q6 ?_)
    refine TO.step rfl (OT.rneed (by decide) hS hE hk rfl rfl rfl rfl rfl rfl (fun _ b k hS hk => ?_))
    repeat (first|refine q1 ?_|refine q3 ?_|refine q4 tab rfl rfl ?_|refine q5 ?_|refine q6 ?_)
    refine TO.step rfl (OT.rname hS hE hk rfl rfl rfl rfl rfl rfl (fun of b k hS hk => ?_))
    repeat (first|refine q1 ?_|refine q3 ?_|refine q4 tab rfl rfl ?_|refine q5 ?_|refine q6 ?_)
    refine TO.step rfl (OT.rneed (by decide) hS hE hk rfl rfl rfl rfl rfl rfl (fun _ b k hS hk => ?_))
    repeat (first|refine q1 ?_|refine q3 ?_|refine q4 tab rfl rfl ?_|refine q5 ?_|refine q6 ?_)
    refine TO.step rfl (OT.storeL0 tab 1 rfl rfl rfl rfl rfl rfl rfl rfl ?_)
    repeat (first|refine q3 ?_|refine q4 tab rfl rfl ?_|refine q5 ?_|refine q6 ?_)
    refine TO.step rfl (OT.node (sl := ⟨none, 0, 0⟩) rfl rfl rfl rfl rfl rfl ?_)
    refine TO.step rfl (OT.litR tab rTree (hs := [⟨10, of, 0, ⟨none, 0, 0⟩⟩]) (l := [Ps.leaf 10 of]) ⟨rTree_iff.2 ⟨rfl, rfl, rfl, SlRep.nil _ _⟩, trivial⟩ rfl rfl rfl rfl rfl (by decide) (fun s1 m1 hle1 hs1 ho1 hc1 => ?_))
    refine TO.step rfl (OT.node rfl rfl rfl rfl rfl rfl ?_)
    refine TO.step rfl (OT.litR tab rTree (hs := [⟨11, [], 0, s1⟩]) (l := [.mk 11 [] 0 [Ps.leaf 10 of]]) ⟨rTree_iff.2 ⟨rfl, rfl, rfl, hs1⟩, trivial⟩ rfl rfl rfl rfl rfl (by decide) (fun s2 m2 hle2 hs2 ho2 hc2 => ?_))
    refine TO.step rfl (OT.node rfl rfl rfl rfl rfl rfl ?_)
    refine TO.step rfl (OT.litR tab rTree (hs := [⟨8, recv, 0, s2⟩]) (l := [Ps.recvT recv of]) ⟨rTree_iff.2 ⟨rfl, rfl, rfl, hs2⟩, trivial⟩ rfl rfl rfl rfl rfl (by decide) (fun s3 m3 hle3 hs3 ho3 hc3 => ?_))
    refine TO.tokFo hc3 ho3 4 ?_
    refine TO.perm (L' := E.J k b h :: .cells b5 0 [.int .i64 5, strV [], .int .i64 0, .slice none 0 0] :: tok s3 4 :: .cells b2 0 [.int .i64 0, strV [], .int .i64 0, .slice none 0 0] :: L) ((List.Perm.trans pfr1 (List.Perm.cons _ pfr1))) ?_
    replace hm := Mem.le_trans hle1 (Mem.le_trans hle2 hle3)
    repeat (refine q4 tab rfl rfl ?_)
    refine TO.step rfl (OT.storeL (k := 3) tab 1 rfl rfl rfl rfl rfl rfl rfl rfl ?_)
    repeat (first|refine q5 ?_|refine q6 ?_)
    exact ⟨(5, s3, [Ps.recvT recv of], m3, k, b, h), (by repeat (exact trivial)), (by repeat (first|exact trivial|refine And.intro rfl ?_)), rfl, rfl, (by repeat (exact List.Sublist.refl _)), hm, hE.mono hm, hk, hs3, ho3, by simp, hS⟩
   ·refine TO.grow0 (size := 4) ?_
    refine TO.perm (L' := E.J k b h :: .cells b5 0 [.int .i64 4, strV [], .int .i64 0, .slice none 0 0] :: tok ⟨none, 0, 0⟩ 4 :: .cells b2 0 [.int .i64 0, strV [], .int .i64 0, .slice none 0 0] :: L) ((List.Perm.trans pfr1 (List.Perm.cons _ pfr1))) ?_
    repeat (first|refine q5 ?_|refine q6 ?_|refine q13 ?_|refine q17 rfl ?_)
    exact ⟨(4, ⟨none, 0, 0⟩, [], m, k, b, h), (by repeat (exact trivial)), (by repeat (first|exact trivial|refine And.intro rfl ?_)), rfl, rfl, (by repeat (exact List.Sublist.refl _)), hm, hE, hk, SlRep.nil _ _, Own.nil, by simp, hS⟩
  ·rintro ⟨kd, s, l, m1, k, b, h⟩ ⟨hm, hE, hk, hs, ho, hl, hS⟩
   simp only at hm hE hk hs ho hl hS
   replace hX := hX.up hm
   replace hY := hY.up hm
   show TC _ _ _ _ _ m1 (E.J k b h :: .cells b5 0 [.int .i64 kd, strV [], .int .i64 0, s.v] :: tok s 4 :: .cells b2 0 [.int .i64 0, strV [], .int .i64 0, .slice none 0 0] :: L) _
   repeat (first|refine q1 ?_|refine q3 ?_|refine q4 tab rfl rfl ?_)
   refine TO.step rfl (OT.rname hS hE hk rfl rfl rfl rfl rfl rfl (fun nm b k hS hk => ?_))
   repeat (refine q4 tab rfl rfl ?_)
   refine TO.step rfl (OT.storeL (k := 1) tab 1 rfl rfl rfl rfl rfl rfl rfl rfl ?_)
   repeat (first|refine q1 ?_|refine q5 ?_|refine q6 ?_)
   refine TC.draw [7] mixed 8 rfl [.cells b5 0 [.int .i64 kd, strV nm, .int .i64 0, s.v]] (E.J k b h :: tok s 4 :: .cells b2 0 [.int .i64 0, strV [], .int .i64 0, .slice none 0 0] :: L) (List.Perm.swap _ _ _) ?_
   refine DO.pure tab (by repeat (first|exact Calm.ret|refine Calm.then ?_)) (by kernel_rfl) [0] (by kernel_rfl) rfl ?_
   (refine DO.loadL tab 1 0 (by repeat (first|exact Calm.ret|refine Calm.then ?_)) (by kernel_rfl) (by kernel_rfl) rfl rfl rfl rfl rfl rfl rfl rfl ?_)
   refine DO.pure tab (by repeat (first|exact Calm.ret|refine Calm.then ?_)) (by kernel_rfl) [2] (by kernel_rfl) rfl ?_
   refine DO.run 3 rfl rfl (by kernel_rfl) rfl ?_
   refine OT.perm (List.Perm.swap _ _ _) (OT.rcT ((rsig_rc hX)) (Mem.le_refl _) hS hn hE hk hm rfl rfl rfl rfl rfl rfl goes38 (fun x3 mA a3 k b h hS hm hE hleA hk hr3 => ?_)); refine ⟨hleA, E.J k b h :: tok s 4 :: .cells b2 0 [.int .i64 0, strV [], .int .i64 0, .slice none 0 0] :: L, List.Perm.swap _ _ _, ?_⟩
   refine DO.run 4 rfl rfl (by kernel_rfl) rfl ?_
   refine OT.litR tab rTree (hs := [x3]) (l := [a3]) ⟨rTree_iff.2 hr3, trivial⟩ rfl rfl rfl rfl rfl (by decide) (fun sB mB hleB hsB hoB hcB => ?_); refine ⟨hleB, _, List.Perm.refl _, ?_⟩
   refine DO.run 5 rfl rfl (by kernel_rfl) rfl ?_
   refine OT.append tab rTree 2 (hs.mono (Mem.le_trans hleA hleB)) ho hsB rfl rfl rfl rfl rfl rfl rfl (by simp only [List.length_append, List.length_cons, List.length_nil, rTree, mkR]; omega) (fun s3 mC hleC hs3 ho3 => ?_); refine ⟨hleC, E.J k b h :: tok s3 4 :: .cells b2 0 [.int .i64 0, strV [], .int .i64 0, .slice none 0 0] :: L, List.Perm.refl _, ?_⟩
   refine DO.pure tab (by repeat (first|exact Calm.ret|refine Calm.then ?_)) (by kernel_rfl) [6] (by kernel_rfl) rfl ?_
   refine DO.tail ?_
   refine DOt.run 7 rfl rfl (by kernel_rfl) rfl ?_
   refine OT.storeL (k := 3) tab 0 rfl rfl rfl rfl rfl rfl rfl rfl ?_; refine DOt.perm (List.Perm.swap _ _ _) ?_
   refine DOt.nil (by kernel_rfl) ?_
   rotate_left 1
   replace hm := Mem.le_trans hm (Mem.le_trans hleB hleC)
   replace hE := hE.mono (Mem.le_trans hleB hleC)
   replace hY := hY.up (Mem.le_trans hleA (Mem.le_trans hleB hleC))
   repeat (first|refine q1 ?_|refine q6 ?_)
   refine TC.draw [7] mixed 8 rfl [.cells b5 0 [.int .i64 kd, strV nm, .int .i64 0, s3.v]] (E.J k b h :: tok s3 4 :: .cells b2 0 [.int .i64 0, strV [], .int .i64 0, .slice none 0 0] :: L) (List.Perm.swap _ _ _) ?_
   refine DO.pure tab (by repeat (first|exact Calm.ret|refine Calm.then ?_)) (by kernel_rfl) [0] (by kernel_rfl) rfl ?_
   (refine DO.loadL tab 1 0 (by repeat (first|exact Calm.ret|refine Calm.then ?_)) (by kernel_rfl) (by kernel_rfl) rfl rfl rfl rfl rfl rfl rfl rfl ?_)
   refine DO.pure tab (by repeat (first|exact Calm.ret|refine Calm.then ?_)) (by kernel_rfl) [2] (by kernel_rfl) rfl ?_
   refine DO.run 3 rfl rfl (by kernel_rfl) rfl ?_
   refine OT.perm (List.Perm.swap _ _ _) (OT.rcT (hY) (Mem.le_refl _) hS hn hE hk hm rfl rfl rfl rfl rfl rfl goes40 (fun x4 mA a4 k b h hS hm hE hleA hk hr4 => ?_)); refine ⟨hleA, E.J k b h :: tok s3 4 :: .cells b2 0 [.int .i64 0, strV [], .int .i64 0, .slice none 0 0] :: L, List.Perm.swap _ _ _, ?_⟩
   refine DO.run 4 rfl rfl (by kernel_rfl) rfl ?_
   refine OT.litR tab rTree (hs := [x4]) (l := [a4]) ⟨rTree_iff.2 hr4, trivial⟩ rfl rfl rfl rfl rfl (by decide) (fun sB mB hleB hsB hoB hcB => ?_); refine ⟨hleB, _, List.Perm.refl _, ?_⟩
   refine DO.run 5 rfl rfl (by kernel_rfl) rfl ?_
   refine OT.append tab rTree 2 (hs3.mono (Mem.le_trans hleA hleB)) ho3 hsB rfl rfl rfl rfl rfl rfl rfl (by simp only [List.length_append, List.length_cons, List.length_nil, rTree, mkR]; omega) (fun s4 mC hleC hs4 ho4 => ?_); refine ⟨hleC, E.J k b h :: tok s4 4 :: .cells b2 0 [.int .i64 0, strV [], .int .i64 0, .slice none 0 0] :: L, List.Perm.refl _, ?_⟩
   refine DO.pure tab (by repeat (first|exact Calm.ret|refine Calm.then ?_)) (by kernel_rfl) [6] (by kernel_rfl) rfl ?_
   refine DO.tail ?_
   refine DOt.run 7 rfl rfl (by kernel_rfl) rfl ?_
   refine OT.storeL (k := 3) tab 0 rfl rfl rfl rfl rfl rfl rfl rfl ?_; refine DOt.perm (List.Perm.swap _ _ _) ?_
   refine DOt.nil (by kernel_rfl) ?_
   rotate_left 1
   replace hm := Mem.le_trans hm (Mem.le_trans hleB hleC)
   replace hE := hE.mono (Mem.le_trans hleB hleC)
   repeat (first|refine q1 ?_|refine q3 ?_|refine q6 ?_)
   (refine qs rfl (qz tab 1 rfl rfl rfl rfl rfl rfl ?_))
   skip
   refine TO.step rfl (OT.storeL0 tab 3 rfl rfl rfl rfl rfl rfl rfl rfl ?_)
   repeat (first|refine q5 ?_|refine q6 ?_|refine q15 ?_)
   refine retQ_ret_c1 tab 3 rfl rfl rfl rfl (L' := E.J k b h :: L) (by repeat (first|exact List.Sublist.refl _|refine List.Sublist.cons_cons _ ?_|refine List.Sublist.cons _ ?_)) ⟨.mk kd nm 0 (l ++ [a3, a4]), k, b, h, [], hm, hk, ⟨⟨kd, nm, 0, s4⟩, rfl, rfl, ⟨rfl, rfl, rfl, by show SlRep rTree _ s4 (l ++ [a3, a4]); rw [List.append_assoc] at hs4; exact hs4⟩⟩, rfl, hS⟩
end
end Go.Sep


/- PrW7 -/
set_option linter.unusedVariables false
set_option linter.unusedSimpArgs false
namespace Go.Sep
open Go.Proofs
attribute [local irreducible] TC TO OT TCallX TCall DO DOt thenQ blockQ retQ At
theorem RS.tokIf_t {E : PE} {β : Type} {T : Ps.Res β} {k : Nat} {h h0 c : Bool} {s : Str} {A B : Ps.Pp β} (hS : RS E T false k h h0 (Ps.tokIf c s A B)) (hb : Ps.isM s E.f k = true) (hc : c = true) : RS E T false (k + 1) h h0 A :=
 ⟨fun _ => ⟨(hS.1 rfl).1, (hS.1 rfl).2.trans (by rw [Ps.tokIf_eq, hb, hc]; rfl)⟩, fun e => (by cases e)⟩
theorem RS.tokIf_f {E : PE} {β : Type} {T : Ps.Res β} {k : Nat} {b h h0 c : Bool} {s : Str} {A B : Ps.Pp β} (hS : RS E T b k h h0 (Ps.tokIf c s A B)) (hb : ((!b && Ps.isM s E.f k) && c) = false) : RS E T b k h h0 B :=
 hS.to fun e => by
  rw [e, Bool.not_false, Bool.true_and] at hb
  rw [Ps.tokIf_eq, hb]; rfl
section
variable {mb : Mem} {E : PE}
set_option maxHeartbeats 4000000 in
theorem rline_rc {X Y : Ps.Pp Tree} (hX : RC Tryz.prog mb E vTree 39 [E.v] false X) (hY : RC Tryz.prog mb E vTree 127 [E.v] false Y) :
  RC Tryz.prog mb E vTree 108 [E.v] false (Ps.simpleP E.N X Y) := by
 refine RC.enter Tryz.func108 rfl 172 rfl fun m L k b h T hm0 hE hk hS hn => ?_
 replace hX := hX.up hm0
 replace hY := hY.up hm0
 have hm : m ≤ m := Mem.le_refl _
 have hrows := hE.rows
 have hfew := hE.few
 unfold Ps.simpleP at hS
 repeat (first|refine q1 ?_|refine q3 ?_)
 refine TO.step rfl (OT.alloc tab rfl rfl rfl rfl (fun b2 => ?_)); refine TO.perm (List.Perm.swap _ _ _) ?_
 repeat (first|refine q1 ?_|refine q3 ?_|refine q4 tab rfl rfl ?_|refine q5 ?_|refine q6 ?_)
 refine TO.step rfl (OT.call rfl rfl rfl rfl rfl rfl goes77 ((now_law hE hk).x ?_));
 rintro _ _ _ ⟨rfl, rfl, rfl⟩
 repeat (first|refine q1 ?_|refine q2 ?_|refine q3 ?_|refine q4 tab rfl rfl ?_|refine q5 ?_|refine q6 ?_)
 rw [nowD_eq (by decide)]
 cases hb : (!b && Ps.isM [118, 97, 114] E.f k) with
 | true =>
  repeat (first|refine q1 ?_|refine q3 ?_|refine q4 tab rfl rfl ?_|refine q16 rfl ?_)
  (refine qs rfl (ql tab 0 rfl rfl rfl rfl rfl rfl ?_))
  refine TO.step rfl (OT.arith (r' := ((k + 1 : Nat) : Int)) rfl rfl rfl rfl rfl rfl rfl (by omega) ?_)
  repeat (refine q4 tab rfl rfl ?_)
  refine TO.step rfl (OT.storeL (k := 1) tab 0 rfl rfl rfl rfl rfl rfl rfl rfl ?_)
  obtain ⟨rfl, hb'⟩ := takes_f hb
  replace hk := PE.isM_lt hb'
  replace hS := hS.tok_t hb'
  repeat (first|refine q1 ?_|refine q3 ?_|refine q4 tab rfl rfl ?_|refine q5 ?_|refine q6 ?_)
  refine TO.step rfl (OT.rname hS hE hk rfl rfl rfl rfl rfl rfl (fun nm b k hS hk => ?_))
  repeat (first|refine q1 ?_|refine q3 ?_|refine q4 tab rfl rfl ?_|refine q5 ?_|refine q6 ?_)
  refine TO.step rfl (OT.rcT (hX) hm hS hn hE hk hm rfl rfl rfl rfl rfl rfl goes39 (fun t m2 tt k b h hS hm hE hlet hk hrt => ?_))
  refine TO.step rfl (OT.litR tab rTree (hs := [t]) (l := [tt]) ⟨rTree_iff.2 hrt, trivial⟩ rfl rfl rfl rfl rfl (by decide) (fun s m3 hle3 hs ho hc => ?_))
  replace hm := Mem.le_trans hm hle3
  replace hE := hE.mono hle3
  replace hY := hY.up hm
  refine TO.step rfl (OT.node rfl rfl rfl rfl rfl rfl ?_)
  refine TO.tokFo hc ho 4 ?_
  refine TO.perm (List.Perm.swap _ _ _) ?_
  refine TO.step rfl (OT.alloc tab rfl rfl rfl rfl (fun b4 => ?_)); refine TO.perm (List.Perm.swap _ _ _) ?_
  skip
  (refine TO.step rfl (OT.storeL0 tab 1 rfl rfl rfl rfl rfl rfl rfl rfl ?_))
  repeat (first|refine q1 ?_|refine q3 ?_|refine q4 tab rfl rfl ?_|refine q5 ?_|refine q6 ?_)
  refine TO.step rfl (OT.rtake (by decide) hS hE hk rfl rfl rfl rfl rfl rfl (fun hS hk => ?_) (fun hS => ?_))
  ·repeat (first|refine q5 ?_|refine q6 ?_|refine q16 rfl ?_)
   refine TC.draw [7] mixed 8 rfl [.cells b4 0 [.int .i64 21, strV nm, .int .i64 0, s.v]] (E.J (k+1) false h :: tok s 4 :: .cells b2 0 [.int .i64 0, strV [], .int .i64 0, .slice none 0 0] :: L) (List.Perm.swap _ _ _) ?_
   refine DO.pure tab (by repeat (first|exact Calm.ret|refine Calm.then ?_|refine Calm.block ?_)) (by kernel_rfl) [0] (by kernel_rfl) rfl ?_
   (refine DO.loadL tab 1 0 (by repeat (first|exact Calm.ret|refine Calm.then ?_|refine Calm.block ?_)) (by kernel_rfl) (by kernel_rfl) rfl rfl rfl rfl rfl rfl rfl rfl ?_)
   refine DO.pure tab (by repeat (first|exact Calm.ret|refine Calm.then ?_|refine Calm.block ?_)) (by kernel_rfl) [2] (by kernel_rfl) rfl ?_
   refine DO.run 3 rfl rfl (by kernel_rfl) rfl ?_
   refine OT.perm (List.Perm.swap _ _ _) (OT.rcT (hY) (Mem.le_refl _) hS hn hE hk hm rfl rfl rfl rfl rfl rfl goes127 (fun x4 mA a4 k b h hS hm hE hleA hk hr4 => ?_)); refine ⟨hleA, E.J k b h :: tok s 4 :: .cells b2 0 [.int .i64 0, strV [], .int .i64 0, .slice none 0 0] :: L, List.Perm.swap _ _ _, ?_⟩
   refine DO.run 4 rfl rfl (by kernel_rfl) rfl ?_
   refine OT.litR tab rTree (hs := [x4]) (l := [a4]) ⟨rTree_iff.2 hr4, trivial⟩ rfl rfl rfl rfl rfl (by decide) (fun sB mB hleB hsB hoB hcB => ?_); refine ⟨hleB, _, List.Perm.refl _, ?_⟩
   refine DO.run 5 rfl rfl (by kernel_rfl) rfl ?_
   refine OT.append tab rTree 2 (hs.mono (Mem.le_trans hleA hleB)) ho hsB rfl rfl rfl rfl rfl rfl rfl (by simp only [List.length_append, List.length_cons, List.length_nil, rTree, mkR]; omega) (fun s4 mC hleC hs4 ho4 => ?_); refine ⟨hleC, E.J k b h :: tok s4 4 :: .cells b2 0 [.int .i64 0, strV [], .int .i64 0, .slice none 0 0] :: L, List.Perm.refl _, ?_⟩
   refine DO.pure tab (by repeat (first|exact Calm.ret|refine Calm.then ?_|refine Calm.block ?_)) (by kernel_rfl) [6] (by kernel_rfl) rfl ?_
   refine DO.tail ?_
   refine DOt.run 7 rfl rfl (by kernel_rfl) rfl ?_
   refine OT.storeL (k := 3) tab 0 rfl rfl rfl rfl rfl rfl rfl rfl ?_; refine DOt.perm (List.Perm.swap _ _ _) ?_
   refine DOt.nil (by kernel_rfl) ?_
   rotate_left 1
   replace hm := Mem.le_trans hm (Mem.le_trans hleB hleC)
   replace hE := hE.mono (Mem.le_trans hleB hleC)
   repeat (first|refine q1 ?_|refine q3 ?_|refine q6 ?_)
   (refine qs rfl (qz tab 1 rfl rfl rfl rfl rfl rfl ?_))
   skip
   refine TO.step rfl (OT.storeL0 tab 3 rfl rfl rfl rfl rfl rfl rfl rfl ?_)
   repeat (first|refine q5 ?_|refine q6 ?_|refine q8 ?_|refine q9 ?_|refine q15 ?_)
   refine retQ_ret_c1 tab 3 rfl rfl rfl rfl (L' := E.J k b h :: L) (by repeat (first|exact List.Sublist.refl _|refine List.Sublist.cons_cons _ ?_|refine List.Sublist.cons _ ?_)) ⟨.mk 21 nm 0 [tt, a4], k, b, h, [], hm, hk, ⟨⟨21, nm, 0, s4⟩, rfl, rfl, ⟨rfl, rfl, rfl, hs4⟩⟩, rfl, hS⟩
  ·repeat (first|refine q1 ?_|refine q3 ?_|refine q5 ?_|refine q6 ?_|refine q13 ?_|refine q17 rfl ?_)
   (refine qs rfl (qz tab 1 rfl rfl rfl rfl rfl rfl ?_))
   skip
   refine TO.step rfl (OT.storeL0 tab 3 rfl rfl rfl rfl rfl rfl rfl rfl ?_)
   repeat (first|refine q5 ?_|refine q6 ?_|refine q8 ?_|refine q9 ?_|refine q15 ?_)
   refine retQ_ret_c1 tab 3 rfl rfl rfl rfl (L' := E.J k b h :: L) (by repeat (first|exact List.Sublist.refl _|refine List.Sublist.cons_cons _ ?_|refine List.Sublist.cons _ ?_)) ⟨.mk 21 nm 0 [tt], k, b, h, [], hm, hk, ⟨⟨21, nm, 0, s⟩, rfl, rfl, ⟨rfl, rfl, rfl, hs⟩⟩, rfl, hS⟩
 | false =>
 replace hS := hS.tok_f hb
 repeat (first|refine q1 ?_|refine q3 ?_|refine q4 tab rfl rfl ?_|refine q5 ?_|refine q6 ?_|refine q17 rfl ?_)
 rw [nowD_eq (by decide)]
 clear hb
 cases hb : (!b && Ps.isM [114, 101, 116, 117, 114, 110] E.f k) with
 | true =>
  repeat (first|refine q1 ?_|refine q3 ?_|refine q4 tab rfl rfl ?_|refine q16 rfl ?_)
  (refine qs rfl (ql tab 0 rfl rfl rfl rfl rfl rfl ?_))
  refine TO.step rfl (OT.arith (r' := ((k + 1 : Nat) : Int)) rfl rfl rfl rfl rfl rfl rfl (by omega) ?_)
  repeat (refine q4 tab rfl rfl ?_)
  refine TO.step rfl (OT.storeL (k := 1) tab 0 rfl rfl rfl rfl rfl rfl rfl rfl ?_)
  obtain ⟨rfl, hb'⟩ := takes_f hb
  replace hk := PE.isM_lt hb'
  replace hS := hS.tok_t hb'
  repeat (first|refine q1 ?_|refine q3 ?_|refine q4 tab rfl rfl ?_|refine q5 ?_|refine q6 ?_)
  refine TO.step rfl (OT.call rfl rfl rfl rfl rfl rfl goes77 ((now_law hE hk).x ?_));
  rintro _ _ _ ⟨rfl, rfl, rfl⟩
  repeat (first|refine q4 tab rfl rfl ?_|refine q5 ?_|refine q6 ?_)
  rw [nowD_eq (by decide)]
  clear hb
  cases hb : (!false && Ps.isM [59] E.f (k + 1)) with
  | true =>
   replace hS := hS.peek_t hb
   repeat (first|refine q1 ?_|refine q3 ?_|refine q16 rfl ?_)
   refine TO.step rfl (OT.node (sl := ⟨none, 0, 0⟩) rfl rfl rfl rfl rfl rfl ?_)
   (refine TO.step rfl (OT.storeL0 tab 1 rfl rfl rfl rfl rfl rfl rfl rfl ?_))
   repeat (first|refine q5 ?_|refine q6 ?_|refine q8 ?_|refine q9 ?_|refine q15 ?_)
   refine retQ_ret_c1 tab 1 rfl rfl rfl rfl (L' := E.J (k + 1) false h :: L) (by repeat (first|exact List.Sublist.refl _|refine List.Sublist.cons_cons _ ?_|refine List.Sublist.cons _ ?_)) ⟨Ps.leaf 27 [], k + 1, false, h, [], hm, hk, ⟨⟨27, [], 0, ⟨none, 0, 0⟩⟩, rfl, rfl, ⟨rfl, rfl, rfl, SlRep.nil _ _⟩⟩, rfl, hS⟩
  | false =>
   replace hS := hS.peek_f hb
   repeat (first|refine q1 ?_|refine q3 ?_|refine q4 tab rfl rfl ?_|refine q6 ?_|refine q13 ?_|refine q17 rfl ?_)
   refine TO.step rfl (OT.rcL (rexprs_rc hY) hm hS hn hE hk hm rfl rfl rfl rfl rfl rfl goes128 (fun x m2 l k b h hS hm hE hlex hk hrx hox hlx => ?_))
   refine TO.step rfl (OT.node rfl rfl rfl rfl rfl rfl ?_)
   skip
   refine TO.step rfl (OT.storeL0 tab 2 rfl rfl rfl rfl rfl rfl rfl rfl ?_)
   repeat (first|refine q5 ?_|refine q6 ?_|refine q8 ?_|refine q9 ?_|refine q15 ?_)
   refine retQ_ret_c1 tab 2 rfl rfl rfl rfl (L' := E.J k b h :: L) (by repeat (first|exact List.Sublist.refl _|refine List.Sublist.cons_cons _ ?_|refine List.Sublist.cons _ ?_)) ⟨.mk 27 [] 0 l, k, b, h, [], hm, hk, ⟨⟨27, [], 0, x⟩, rfl, rfl, ⟨rfl, rfl, rfl, hrx⟩⟩, rfl, hS⟩
 | false =>
 replace hS := hS.tok_f hb
 repeat (first|refine q1 ?_|refine q3 ?_|refine q4 tab rfl rfl ?_|refine q5 ?_|refine q6 ?_|refine q17 rfl ?_)
 rw [nowD_eq (by decide)]
 clear hb
 cases hb : (!b && Ps.isM [98, 114, 101, 97, 107] E.f k) with
 | true =>
  repeat (first|refine q1 ?_|refine q3 ?_|refine q4 tab rfl rfl ?_|refine q16 rfl ?_)
  (refine qs rfl (ql tab 0 rfl rfl rfl rfl rfl rfl ?_))
  refine TO.step rfl (OT.arith (r' := ((k + 1 : Nat) : Int)) rfl rfl rfl rfl rfl rfl rfl (by omega) ?_)
  repeat (refine q4 tab rfl rfl ?_)
  refine TO.step rfl (OT.storeL (k := 1) tab 0 rfl rfl rfl rfl rfl rfl rfl rfl ?_)
  obtain ⟨rfl, hb'⟩ := takes_f hb
  replace hk := PE.isM_lt hb'
  replace hS := hS.tok_t hb'
  repeat (first|refine q1 ?_|refine q3 ?_|refine q5 ?_|refine q6 ?_)
  refine TO.step rfl (OT.node (sl := ⟨none, 0, 0⟩) rfl rfl rfl rfl rfl rfl ?_)
  skip
  (refine TO.step rfl (OT.storeL0 tab 1 rfl rfl rfl rfl rfl rfl rfl rfl ?_))
  repeat (first|refine q5 ?_|refine q6 ?_|refine q8 ?_|refine q9 ?_|refine q15 ?_)
  refine retQ_ret_c1 tab 1 rfl rfl rfl rfl (L' := E.J (k + 1) false h :: L) (by repeat (first|exact List.Sublist.refl _|refine List.Sublist.cons_cons _ ?_|refine List.Sublist.cons _ ?_)) ⟨Ps.leaf 28 [], k + 1, false, h, [], hm, hk, ⟨⟨28, [], 0, ⟨none, 0, 0⟩⟩, rfl, rfl, ⟨rfl, rfl, rfl, SlRep.nil _ _⟩⟩, rfl, hS⟩
 | false =>
 replace hS := hS.tok_f hb
 repeat (first|refine q1 ?_|refine q3 ?_|refine q4 tab rfl rfl ?_|refine q5 ?_|refine q6 ?_|refine q17 rfl ?_)
 rw [nowD_eq (by decide)]
 clear hb
 cases hb : (!b && Ps.isM [99, 111, 110, 116, 105, 110, 117, 101] E.f k) with
 | true =>
  repeat (first|refine q1 ?_|refine q3 ?_|refine q4 tab rfl rfl ?_|refine q16 rfl ?_)
  (refine qs rfl (ql tab 0 rfl rfl rfl rfl rfl rfl ?_))
  refine TO.step rfl (OT.arith (r' := ((k + 1 : Nat) : Int)) rfl rfl rfl rfl rfl rfl rfl (by omega) ?_)
  repeat (refine q4 tab rfl rfl ?_)
  refine TO.step rfl (OT.storeL (k := 1) tab 0 rfl rfl rfl rfl rfl rfl rfl rfl ?_)
  obtain ⟨rfl, hb'⟩ := takes_f hb
  replace hk := PE.isM_lt hb'
  replace hS := hS.tok_t hb'
  repeat (first|refine q1 ?_|refine q3 ?_|refine q5 ?_|refine q6 ?_)
  refine TO.step rfl (OT.node (sl := ⟨none, 0, 0⟩) rfl rfl rfl rfl rfl rfl ?_)
  skip
  (refine TO.step rfl (OT.storeL0 tab 1 rfl rfl rfl rfl rfl rfl rfl rfl ?_))
  repeat (first|refine q5 ?_|refine q6 ?_|refine q8 ?_|refine q9 ?_|refine q15 ?_)
  refine retQ_ret_c1 tab 1 rfl rfl rfl rfl (L' := E.J (k + 1) false h :: L) (by repeat (first|exact List.Sublist.refl _|refine List.Sublist.cons_cons _ ?_|refine List.Sublist.cons _ ?_)) ⟨Ps.leaf 29 [], k + 1, false, h, [], hm, hk, ⟨⟨29, [], 0, ⟨none, 0, 0⟩⟩, rfl, rfl, ⟨rfl, rfl, rfl, SlRep.nil _ _⟩⟩, rfl, hS⟩
 | false =>
 replace hS := hS.tok_f hb
 clear hb
 repeat (first|refine q1 ?_|refine q3 ?_|refine q4 tab rfl rfl ?_|refine q6 ?_|refine q7 ?_|refine q13 ?_|refine q17 rfl ?_)
 refine TO.step rfl (OT.rcL (rexprs_rc hY) hm hS hn hE hk hm rfl rfl rfl rfl rfl rfl goes128 (fun s m1 l k b h hS hm hE hles hk hrs hos hls => ?_))
 have hs := hrs
 have ho := hos
 have hl := hls
 have hlen := hs.len
 have hfew := hE.few
 refine TO.perm (L' := E.J k b h :: tok s 4 :: .cells b2 0 [.int .i64 0, strV [], .int .i64 0, .slice none 0 0] :: L) (List.Perm.refl _) ?_
 repeat (refine q4 tab rfl rfl ?_)
 refine q5 ?_
 refine q6 ?_
 refine q1 ?_
 refine q3 ?_
 repeat (refine q4 tab rfl rfl ?_)
 refine q5 ?_
 refine q6 ?_
 refine TC.cut (ι := Unit) [0, 2, 5] rfl (fun _ => [(6, .bool (l.all Ps.isNm)), (7, .bool (l.all Ps.isPl))]) (fun _ => m1) (fun _ => E.J k b h :: tok s 4 :: .cells b2 0 [.int .i64 0, strV [], .int .i64 0, .slice none 0 0] :: L) (fun _ => True) ?_ ?_
 ·repeat (first|refine q1 ?_|refine q2 ?_|refine q3 ?_|refine q4 tab rfl rfl ?_|refine q5 ?_|refine q6 ?_)
  refine TC.loopK (ι := Nat × Bool × Bool) [0, 2, 5] rfl (fun x => [(6, .bool x.2.1), (7, .bool x.2.2), (8, .int .i64 (x.1 : Int))]) (fun _ => m1) (fun _ => E.J k b h :: tok s 4 :: .cells b2 0 [.int .i64 0, strV [], .int .i64 0, .slice none 0 0] :: L) (fun x => x.1 ≤ l.length ∧ x.2.1 = (l.take x.1).all Ps.isNm ∧ x.2.2 = (l.take x.1).all Ps.isPl) (fun x => l.length - x.1) (0, true, true) (by repeat (first|exact trivial|refine And.intro rfl ?_)) rfl (by repeat (exact List.Sublist.refl _)) ⟨Nat.zero_le _, by simp, by simp⟩ ?_
  rintro ⟨i, p1, p2⟩ ⟨hi, hp1, hp2⟩
  simp only at hi hp1 hp2
  show TC _ _ _ ((6, .bool p1) :: (7, .bool p2) :: (8, .int .i64 (i : Int)) :: _) _ m1 _ _
  repeat (first|refine q1 ?_|refine q3 ?_|refine q4 tab rfl rfl ?_|refine q5 ?_|refine q6 ?_)
  refine TC.condP rfl (fun hc => ?_) (fun hc => ?_)
  ·have hlt : i < l.length := by omega
   have hx : l[i]? = some l[i] := List.getElem?_eq_getElem hlt
   have e1 : (l.take (i + 1)).all Ps.isNm = (p1 && decide (l[i].kind = 44)) := by rw [List.take_succ_eq_append_getElem hlt, List.all_append, ← hp1]; simp [Ps.isNm]
   have e2 : (l.take (i + 1)).all Ps.isPl = (p2 && (decide (l[i].kind = 44) || (decide (l[i].kind = 48) || (decide (l[i].kind = 49) || (decide (l[i].kind = 52) && decide (l[i].name = [42])))))) := by rw [List.take_succ_eq_append_getElem hlt, List.all_append, ← hp2]; simp [Ps.isPl]
   repeat (first|refine q1 ?_|refine q2 ?_|refine q3 ?_|refine q4 tab rfl rfl ?_|refine q6 ?_|refine q13 ?_)
   refine TO.step rfl (OT.index tab rTree i hs rfl rfl rfl rfl rfl (by first | rfl | omega | (simp only; omega)) rfl hx ?_)
   rintro bx ix hx' hrx hAx
   obtain ⟨g1, g2, g3, g4⟩ := rTree_iff.1 hrx
   repeat (refine q4 tab rfl rfl ?_)
   (refine TO.step rfl (OT.loadA tab hAx rfl rfl rfl rfl rfl ?_))
   rw [← g1] at e1 e2
   rw [← g2] at e2
   generalize hx'.kind = kd at e1 e2 ⊢
   clear hp1 hp2
   cases p2 with
   | false =>
    cases p1 with
    | false =>
     repeat (first|refine q1 ?_|refine q3 ?_|refine q4 tab rfl rfl ?_|refine q5 ?_|refine q6 ?_|refine q7 ?_)
     refine TO.step rfl (OT.arith (r' := ((i + 1 : Nat) : Int)) rfl rfl rfl rfl rfl rfl rfl (by omega) ?_)
     repeat (first|refine q4 tab rfl rfl ?_|refine q5 ?_|refine q6 ?_)
     exact ⟨(i + 1, false, false), (by repeat (first|exact trivial|refine And.intro rfl ?_)), (by repeat (first|exact trivial|refine And.intro rfl ?_)), rfl, rfl, (by repeat (exact List.Sublist.refl _)), ⟨hlt, e1.symm, by show _ = (l.take (i + 1)).all Ps.isPl; rw [e2]; simp_all⟩, by simp only; omega⟩
    | true =>
     repeat (first|refine q1 ?_|refine q3 ?_|refine q4 tab rfl rfl ?_|refine q5 ?_|refine q6 ?_|refine q7 ?_)
     refine TO.step rfl (OT.arith (r' := ((i + 1 : Nat) : Int)) rfl rfl rfl rfl rfl rfl rfl (by omega) ?_)
     repeat (first|refine q4 tab rfl rfl ?_|refine q5 ?_|refine q6 ?_)
     exact ⟨(i + 1, (decide (kd = 44)), false), (by repeat (first|exact trivial|refine And.intro rfl ?_)), (by repeat (first|exact trivial|refine And.intro rfl ?_)), rfl, rfl, (by repeat (exact List.Sublist.refl _)), ⟨hlt, e1.symm, by show _ = (l.take (i + 1)).all Ps.isPl; rw [e2]; simp_all⟩, by simp only; omega⟩
   | true =>
    cases p1 with
    | false =>
     repeat (first|refine q1 ?_|refine q3 ?_|refine q4 tab rfl rfl ?_|refine q5 ?_|refine q6 ?_)
     (refine TO.splitP rfl rfl (fun q44 => ?_) (fun q44 => ?_))
     ·repeat (first|refine q3 ?_|refine q4 tab rfl rfl ?_|refine q5 ?_|refine q6 ?_|refine q7 ?_)
      refine TO.step rfl (OT.arith (r' := ((i + 1 : Nat) : Int)) rfl rfl rfl rfl rfl rfl rfl (by omega) ?_)
      repeat (first|refine q4 tab rfl rfl ?_|refine q5 ?_|refine q6 ?_)
      exact ⟨(i + 1, false, true), (by repeat (first|exact trivial|refine And.intro rfl ?_)), (by repeat (first|exact trivial|refine And.intro rfl ?_)), rfl, rfl, (by repeat (exact List.Sublist.refl _)), ⟨hlt, e1.symm, by show _ = (l.take (i + 1)).all Ps.isPl; rw [e2]; simp_all⟩, by simp only; omega⟩
     ·repeat (refine q4 tab rfl rfl ?_)
      (refine TO.splitP rfl rfl (fun q48 => ?_) (fun q48 => ?_))
      ·repeat (first|refine q3 ?_|refine q4 tab rfl rfl ?_|refine q5 ?_|refine q6 ?_|refine q7 ?_)
       refine TO.step rfl (OT.arith (r' := ((i + 1 : Nat) : Int)) rfl rfl rfl rfl rfl rfl rfl (by omega) ?_)
       repeat (first|refine q4 tab rfl rfl ?_|refine q5 ?_|refine q6 ?_)
       exact ⟨(i + 1, false, true), (by repeat (first|exact trivial|refine And.intro rfl ?_)), (by repeat (first|exact trivial|refine And.intro rfl ?_)), rfl, rfl, (by repeat (exact List.Sublist.refl _)), ⟨hlt, e1.symm, by show _ = (l.take (i + 1)).all Ps.isPl; rw [e2]; simp_all⟩, by simp only; omega⟩
      ·repeat (refine q4 tab rfl rfl ?_)
       (refine TO.splitP rfl rfl (fun q49 => ?_) (fun q49 => ?_))
       ·repeat (first|refine q3 ?_|refine q4 tab rfl rfl ?_|refine q5 ?_|refine q6 ?_|refine q7 ?_)
        refine TO.step rfl (OT.arith (r' := ((i + 1 : Nat) : Int)) rfl rfl rfl rfl rfl rfl rfl (by omega) ?_)
        repeat (first|refine q4 tab rfl rfl ?_|refine q5 ?_|refine q6 ?_)
        exact ⟨(i + 1, false, true), (by repeat (first|exact trivial|refine And.intro rfl ?_)), (by repeat (first|exact trivial|refine And.intro rfl ?_)), rfl, rfl, (by repeat (exact List.Sublist.refl _)), ⟨hlt, e1.symm, by show _ = (l.take (i + 1)).all Ps.isPl; rw [e2]; simp_all⟩, by simp only; omega⟩
       ·repeat (refine q4 tab rfl rfl ?_)
        (refine TO.splitP rfl rfl (fun q52 => ?_) (fun q52 => ?_))
        ·repeat (refine q4 tab rfl rfl ?_)
         refine TO.step rfl (OT.index tab rTree i hs rfl rfl rfl rfl rfl (by first | rfl | omega | (simp only; omega)) rfl hx ?_)
         rintro by' iy hy' hry hAy
         obtain ⟨k1, k2, k3, k4⟩ := rTree_iff.1 hry
         repeat (refine q4 tab rfl rfl ?_)
         (refine TO.step rfl (OT.loadA tab hAy rfl rfl rfl rfl rfl ?_))
         repeat (first|refine q3 ?_|refine q4 tab rfl rfl ?_|refine q5 ?_|refine q6 ?_|refine q7 ?_)
         rw [show hx'.name = hy'.name from g2.trans k2.symm] at e2
         refine TO.step rfl (OT.arith (r' := ((i + 1 : Nat) : Int)) rfl rfl rfl rfl rfl rfl rfl (by omega) ?_)
         repeat (first|refine q4 tab rfl rfl ?_|refine q5 ?_|refine q6 ?_)
         exact ⟨(i + 1, false, (decide (hy'.name = [42]))), (by repeat (first|exact trivial|refine And.intro rfl ?_)), (by repeat (first|exact trivial|refine And.intro rfl ?_)), rfl, rfl, (by repeat (exact List.Sublist.refl _)), ⟨hlt, e1.symm, by show _ = (l.take (i + 1)).all Ps.isPl; rw [e2]; simp_all⟩, by simp only; omega⟩
        ·repeat (first|refine q3 ?_|refine q4 tab rfl rfl ?_|refine q5 ?_|refine q6 ?_|refine q7 ?_)
         refine TO.step rfl (OT.arith (r' := ((i + 1 : Nat) : Int)) rfl rfl rfl rfl rfl rfl rfl (by omega) ?_)
         repeat (first|refine q4 tab rfl rfl ?_|refine q5 ?_|refine q6 ?_)
         exact ⟨(i + 1, false, false), (by repeat (first|exact trivial|refine And.intro rfl ?_)), (by repeat (first|exact trivial|refine And.intro rfl ?_)), rfl, rfl, (by repeat (exact List.Sublist.refl _)), ⟨hlt, e1.symm, by show _ = (l.take (i + 1)).all Ps.isPl; rw [e2]; simp_all⟩, by simp only; omega⟩
    | true =>
     repeat (first|refine q1 ?_|refine q3 ?_|refine q4 tab rfl rfl ?_|refine q5 ?_|refine q6 ?_)
     (refine TO.splitP rfl rfl (fun q44 => ?_) (fun q44 => ?_))
     ·repeat (first|refine q3 ?_|refine q4 tab rfl rfl ?_|refine q5 ?_|refine q6 ?_|refine q7 ?_)
      refine TO.step rfl (OT.arith (r' := ((i + 1 : Nat) : Int)) rfl rfl rfl rfl rfl rfl rfl (by omega) ?_)
      repeat (first|refine q4 tab rfl rfl ?_|refine q5 ?_|refine q6 ?_)
      exact ⟨(i + 1, (decide (kd = 44)), true), (by repeat (first|exact trivial|refine And.intro rfl ?_)), (by repeat (first|exact trivial|refine And.intro rfl ?_)), rfl, rfl, (by repeat (exact List.Sublist.refl _)), ⟨hlt, e1.symm, by show _ = (l.take (i + 1)).all Ps.isPl; rw [e2]; simp_all⟩, by simp only; omega⟩
     ·repeat (refine q4 tab rfl rfl ?_)
      (refine TO.splitP rfl rfl (fun q48 => ?_) (fun q48 => ?_))
      ·repeat (first|refine q3 ?_|refine q4 tab rfl rfl ?_|refine q5 ?_|refine q6 ?_|refine q7 ?_)
       refine TO.step rfl (OT.arith (r' := ((i + 1 : Nat) : Int)) rfl rfl rfl rfl rfl rfl rfl (by omega) ?_)
       repeat (first|refine q4 tab rfl rfl ?_|refine q5 ?_|refine q6 ?_)
       exact ⟨(i + 1, (decide (kd = 44)), true), (by repeat (first|exact trivial|refine And.intro rfl ?_)), (by repeat (first|exact trivial|refine And.intro rfl ?_)), rfl, rfl, (by repeat (exact List.Sublist.refl _)), ⟨hlt, e1.symm, by show _ = (l.take (i + 1)).all Ps.isPl; rw [e2]; simp_all⟩, by simp only; omega⟩
      ·repeat (refine q4 tab rfl rfl ?_)
       (refine TO.splitP rfl rfl (fun q49 => ?_) (fun q49 => ?_))
       ·repeat (first|refine q3 ?_|refine q4 tab rfl rfl ?_|refine q5 ?_|refine q6 ?_|refine q7 ?_)
        refine TO.step rfl (OT.arith (r' := ((i + 1 : Nat) : Int)) rfl rfl rfl rfl rfl rfl rfl (by omega) ?_)
        repeat (first|refine q4 tab rfl rfl ?_|refine q5 ?_|refine q6 ?_)
        exact ⟨(i + 1, (decide (kd = 44)), true), (by repeat (first|exact trivial|refine And.intro rfl ?_)), (by repeat (first|exact trivial|refine And.intro rfl ?_)), rfl, rfl, (by repeat (exact List.Sublist.refl _)), ⟨hlt, e1.symm, by show _ = (l.take (i + 1)).all Ps.isPl; rw [e2]; simp_all⟩, by simp only; omega⟩
       ·repeat (refine q4 tab rfl rfl ?_)
        (refine TO.splitP rfl rfl (fun q52 => ?_) (fun q52 => ?_))
        ·repeat (refine q4 tab rfl rfl ?_)
         refine TO.step rfl (OT.index tab rTree i hs rfl rfl rfl rfl rfl (by first | rfl | omega | (simp only; omega)) rfl hx ?_)
         rintro by' iy hy' hry hAy
         obtain ⟨k1, k2, k3, k4⟩ := rTree_iff.1 hry
         repeat (refine q4 tab rfl rfl ?_)
         (refine TO.step rfl (OT.loadA tab hAy rfl rfl rfl rfl rfl ?_))
         repeat (first|refine q3 ?_|refine q4 tab rfl rfl ?_|refine q5 ?_|refine q6 ?_|refine q7 ?_)
         rw [show hx'.name = hy'.name from g2.trans k2.symm] at e2
         refine TO.step rfl (OT.arith (r' := ((i + 1 : Nat) : Int)) rfl rfl rfl rfl rfl rfl rfl (by omega) ?_)
         repeat (first|refine q4 tab rfl rfl ?_|refine q5 ?_|refine q6 ?_)
         exact ⟨(i + 1, (decide (kd = 44)), (decide (hy'.name = [42]))), (by repeat (first|exact trivial|refine And.intro rfl ?_)), (by repeat (first|exact trivial|refine And.intro rfl ?_)), rfl, rfl, (by repeat (exact List.Sublist.refl _)), ⟨hlt, e1.symm, by show _ = (l.take (i + 1)).all Ps.isPl; rw [e2]; simp_all⟩, by simp only; omega⟩
        ·repeat (first|refine q3 ?_|refine q4 tab rfl rfl ?_|refine q5 ?_|refine q6 ?_|refine q7 ?_)
         refine TO.step rfl (OT.arith (r' := ((i + 1 : Nat) : Int)) rfl rfl rfl rfl rfl rfl rfl (by omega) ?_)
         repeat (first|refine q4 tab rfl rfl ?_|refine q5 ?_|refine q6 ?_)
         exact ⟨(i + 1, (decide (kd = 44)), false), (by repeat (first|exact trivial|refine And.intro rfl ?_)), (by repeat (first|exact trivial|refine And.intro rfl ?_)), rfl, rfl, (by repeat (exact List.Sublist.refl _)), ⟨hlt, e1.symm, by show _ = (l.take (i + 1)).all Ps.isPl; rw [e2]; simp_all⟩, by simp only; omega⟩
  ·rw [List.take_of_length_le (by omega)] at hp1 hp2
   repeat (first|refine q6 ?_|refine q10 ?_|refine q11 ?_|refine q14 ?_)
   refine ⟨(), ?_, (by repeat (first|exact trivial|refine And.intro rfl ?_)), rfl, rfl, (by repeat (exact List.Sublist.refl _)), trivial⟩
   rw [← hp1, ← hp2]
   exact (by repeat (first|exact trivial|refine And.intro rfl ?_))
 ·rintro - -
  show TC _ _ _ ((6, .bool (l.all Ps.isNm)) :: (7, .bool (l.all Ps.isPl)) :: _) _ m1 (E.J k b h :: tok s 4 :: .cells b2 0 [.int .i64 0, strV [], .int .i64 0, .slice none 0 0] :: L) _
  unfold Ps.assignP at hS
  repeat (first|refine q1 ?_|refine q3 ?_)
  refine TO.step rfl (OT.node (sl := ⟨none, 0, 0⟩) rfl rfl rfl rfl rfl rfl ?_)
  refine TO.step rfl (OT.alloc tab rfl rfl rfl rfl (fun b10 => ?_)); refine TO.perm (List.Perm.swap _ _ _) ?_
  skip
  (refine TO.step rfl (OT.storeL0 tab 1 rfl rfl rfl rfl rfl rfl rfl rfl ?_))
  refine TO.nil ?_
  refine thenQ_n ?_
  refine TC.cut (ι := Int) [0, 2, 5, 10] rfl (fun _ => []) (fun i => m1) (fun i => E.J k b h :: .cells b10 0 [.int .i64 i, strV [], .int .i64 0, .slice none 0 0] :: tok s 4 :: .cells b2 0 [.int .i64 0, strV [], .int .i64 0, .slice none 0 0] :: L) (fun i => b = false ∧ k + 1 ≤ E.toks.length ∧ RS E T false (k + 1) h false (Ps.bind (Ps.commas E.N Y) fun l2 => Ps.ret (Tree.mk i [] (l.length : Int) (l ++ l2)))) ?_ ?_
  ·skip
   repeat (first|refine q1 ?_|refine q2 ?_|refine q3 ?_|refine q4 tab rfl rfl ?_)
   refine TO.step rfl (OT.call rfl rfl rfl rfl rfl rfl goes77 ((now_law hE hk).x ?_));
   rintro _ _ _ ⟨rfl, rfl, rfl⟩
   repeat (refine q4 tab rfl rfl ?_)
   rw [nowD_eq (by decide)]
   cases hb1 : (!b && Ps.isM [58, 61] E.f k) with
   | false =>
    replace hS := hS.tokIf_f (by rw [hb1]; rfl)
    repeat (first|refine q1 ?_|refine q3 ?_|refine q4 tab rfl rfl ?_|refine q5 ?_|refine q6 ?_|refine q17 rfl ?_)
    refine TO.step rfl (OT.call rfl rfl rfl rfl rfl rfl goes77 ((now_law hE hk).x ?_));
    rintro _ _ _ ⟨rfl, rfl, rfl⟩
    repeat (refine q4 tab rfl rfl ?_)
    rw [nowD_eq (by decide)]
    cases hb2 : (!b && Ps.isM [61] E.f k) with
    | false =>
     replace hS := hS.tokIf_f (by rw [hb2]; rfl)
     repeat (first|refine q1 ?_|refine q3 ?_|refine q4 tab rfl rfl ?_|refine q5 ?_|refine q6 ?_|refine q17 rfl ?_)
     refine TO.step rfl (OT.call rfl rfl rfl rfl rfl rfl goes77 ((now_law hE hk).x ?_));
     rintro _ _ _ ⟨rfl, rfl, rfl⟩
     repeat (refine q4 tab rfl rfl ?_)
     rw [nowD_eq (by decide)]
     cases hb3 : (!b && Ps.isM [59] E.f k) with
     | false =>
      have hT : T = .bad k := by
       cases b with
       | true => exact hS.2 rfl
       | false =>
        rw [(hS.1 rfl).2]
        cases Ps.isC1 l
        ·rfl
        ·exact Ps.peek_f' hb3
      repeat (first|refine q1 ?_|refine q3 ?_|refine q4 tab rfl rfl ?_|refine q5 ?_|refine q6 ?_|refine q17 rfl ?_)
      refine TO.step rfl (OT.storeL (k := 2) tab 0 rfl rfl rfl rfl rfl rfl rfl rfl ?_)
      repeat (first|refine q1 ?_|refine q3 ?_|refine q5 ?_|refine q6 ?_)
      (refine qs rfl (qz tab 1 rfl rfl rfl rfl rfl rfl ?_))
      skip
      refine TO.step rfl (OT.storeL0 tab 3 rfl rfl rfl rfl rfl rfl rfl rfl ?_)
      repeat (first|refine q5 ?_|refine q6 ?_|refine q8 ?_|refine q9 ?_|refine q15 ?_)
      refine retQ_ret_c1 tab 3 rfl rfl rfl rfl (L' := E.J k true h :: L) (by repeat (first|exact List.Sublist.refl _|refine List.Sublist.cons_cons _ ?_|refine List.Sublist.cons _ ?_)) ⟨.mk 23 [] 0 [], k, true, h, [], hm, hk, ⟨⟨23, [], 0, ⟨none, 0, 0⟩⟩, rfl, rfl, ⟨rfl, rfl, rfl, SlRep.nil _ _⟩⟩, rfl, RS.bad hT⟩
     | true =>
      obtain ⟨rfl, hb3'⟩ := takes_f hb3
      repeat (refine q4 tab rfl rfl ?_)
      refine TO.split (b := decide (((s.len : Nat) : Int) = 1)) rfl rfl (fun h1 => ?_) (fun h1 => ?_)
      ·have h1' : l.length = 1 := by have := of_decide_eq_true h1; omega
       obtain ⟨t0, rfl⟩ := List.length_eq_one_iff.1 h1'
       repeat (refine q4 tab rfl rfl ?_)
       refine TO.step rfl (OT.index tab rTree 0 hs rfl rfl rfl rfl rfl (by first | rfl | omega | (simp only; omega)) rfl (by rfl) ?_)
       rintro bx ix hx' hrx hAx
       have hrx' := rTree_iff.1 hrx
       repeat (refine q4 tab rfl rfl ?_)
       (refine TO.step rfl (OT.loadA tab hAx rfl rfl rfl rfl rfl ?_))
       repeat (first|refine q4 tab rfl rfl ?_|refine q5 ?_|refine q6 ?_)
       rw [hrx'.kind]
       refine TC.condP rfl (fun h2 => ?_) (fun h2 => ?_)
       ·replace hS := (hS.to (rest' := Ps.peek (Ps.isM [59]) (Ps.ret (.mk 24 [] 0 [t0])) Ps.fail) fun _ => by rw [show Ps.isC1 [t0] = true from decide_eq_true h2]; rfl).peek_t hb3
        repeat (first|refine q1 ?_|refine q3 ?_|refine q4 tab rfl rfl ?_)
        refine TO.step rfl (OT.node rfl rfl rfl rfl rfl rfl ?_)
        skip
        refine TO.step rfl (OT.storeL0 tab 3 rfl rfl rfl rfl rfl rfl rfl rfl ?_)
        repeat (first|refine q5 ?_|refine q6 ?_|refine q8 ?_|refine q9 ?_|refine q15 ?_)
        refine retQ_ret_c1 tab 3 rfl rfl rfl rfl (L' := E.J k false h :: L) (by repeat (first|exact List.Sublist.refl _|refine List.Sublist.cons_cons _ ?_|refine List.Sublist.cons _ ?_)) ⟨.mk 24 [] 0 [t0], k, false, h, [], hm, hk, ⟨⟨24, [], 0, s⟩, rfl, rfl, ⟨rfl, rfl, rfl, hs⟩⟩, rfl, hS⟩
       ·have hT : T = .bad k := by
         rw [(hS.1 rfl).2, show Ps.isC1 [t0] = false from decide_eq_false h2]
         rfl
        repeat (first|refine q1 ?_|refine q3 ?_|refine q4 tab rfl rfl ?_)
        refine TO.step rfl (OT.storeL (k := 2) tab 0 rfl rfl rfl rfl rfl rfl rfl rfl ?_)
        repeat (first|refine q1 ?_|refine q3 ?_|refine q5 ?_|refine q6 ?_)
        (refine qs rfl (qz tab 1 rfl rfl rfl rfl rfl rfl ?_))
        skip
        refine TO.step rfl (OT.storeL0 tab 3 rfl rfl rfl rfl rfl rfl rfl rfl ?_)
        repeat (first|refine q5 ?_|refine q6 ?_|refine q8 ?_|refine q9 ?_|refine q15 ?_)
        refine retQ_ret_c1 tab 3 rfl rfl rfl rfl (L' := E.J k true h :: L) (by repeat (first|exact List.Sublist.refl _|refine List.Sublist.cons_cons _ ?_|refine List.Sublist.cons _ ?_)) ⟨.mk 23 [] 0 [], k, true, h, [], hm, hk, ⟨⟨23, [], 0, ⟨none, 0, 0⟩⟩, rfl, rfl, ⟨rfl, rfl, rfl, SlRep.nil _ _⟩⟩, rfl, RS.bad hT⟩
      ·have hT : T = .bad k := by
        rw [(hS.1 rfl).2]
        have h1' : ¬ l.length = 1 := by have := of_decide_eq_false h1; omega
        have : Ps.isC1 l = false := by
         unfold Ps.isC1
         split
         ·exact absurd rfl h1'
         ·rfl
        rw [this]
        rfl
       repeat (first|refine q1 ?_|refine q3 ?_|refine q4 tab rfl rfl ?_|refine q5 ?_|refine q6 ?_|refine q17 rfl ?_)
       refine TO.step rfl (OT.storeL (k := 2) tab 0 rfl rfl rfl rfl rfl rfl rfl rfl ?_)
       repeat (first|refine q1 ?_|refine q3 ?_|refine q5 ?_|refine q6 ?_)
       (refine qs rfl (qz tab 1 rfl rfl rfl rfl rfl rfl ?_))
       skip
       refine TO.step rfl (OT.storeL0 tab 3 rfl rfl rfl rfl rfl rfl rfl rfl ?_)
       repeat (first|refine q5 ?_|refine q6 ?_|refine q8 ?_|refine q9 ?_|refine q15 ?_)
       refine retQ_ret_c1 tab 3 rfl rfl rfl rfl (L' := E.J k true h :: L) (by repeat (first|exact List.Sublist.refl _|refine List.Sublist.cons_cons _ ?_|refine List.Sublist.cons _ ?_)) ⟨.mk 23 [] 0 [], k, true, h, [], hm, hk, ⟨⟨23, [], 0, ⟨none, 0, 0⟩⟩, rfl, rfl, ⟨rfl, rfl, rfl, SlRep.nil _ _⟩⟩, rfl, RS.bad hT⟩
    | true =>
     cases ha2 : l.all Ps.isPl with
     | true =>
      obtain ⟨rfl, hb2'⟩ := takes_f hb2
      replace hS := hS.tokIf_t hb2' ha2
      repeat (first|refine q4 tab rfl rfl ?_|refine q5 ?_|refine q6 ?_|refine q7 ?_|refine q13 ?_|refine q16 rfl ?_)
      exact ⟨23, (by repeat (exact trivial)), (by repeat (first|exact trivial|refine And.intro rfl ?_)), rfl, rfl, (by repeat (exact List.Sublist.refl _)), rfl, PE.isM_lt hb2', hS⟩
     | false =>
      replace hS := hS.tokIf_f (by rw [ha2]; exact Bool.and_false _)
      repeat (first|refine q1 ?_|refine q3 ?_|refine q4 tab rfl rfl ?_|refine q5 ?_|refine q6 ?_|refine q17 rfl ?_)
      refine TO.step rfl (OT.call rfl rfl rfl rfl rfl rfl goes77 ((now_law hE hk).x ?_));
      rintro _ _ _ ⟨rfl, rfl, rfl⟩
      repeat (refine q4 tab rfl rfl ?_)
      rw [nowD_eq (by decide)]
      cases hb3 : (!b && Ps.isM [59] E.f k) with
      | false =>
       have hT : T = .bad k := by
        cases b with
        | true => exact hS.2 rfl
        | false =>
         rw [(hS.1 rfl).2]
         cases Ps.isC1 l
         ·rfl
         ·exact Ps.peek_f' hb3
       repeat (first|refine q1 ?_|refine q3 ?_|refine q4 tab rfl rfl ?_|refine q5 ?_|refine q6 ?_|refine q17 rfl ?_)
       refine TO.step rfl (OT.storeL (k := 2) tab 0 rfl rfl rfl rfl rfl rfl rfl rfl ?_)
       repeat (first|refine q1 ?_|refine q3 ?_|refine q5 ?_|refine q6 ?_)
       (refine qs rfl (qz tab 1 rfl rfl rfl rfl rfl rfl ?_))
       skip
       refine TO.step rfl (OT.storeL0 tab 3 rfl rfl rfl rfl rfl rfl rfl rfl ?_)
       repeat (first|refine q5 ?_|refine q6 ?_|refine q8 ?_|refine q9 ?_|refine q15 ?_)
       refine retQ_ret_c1 tab 3 rfl rfl rfl rfl (L' := E.J k true h :: L) (by repeat (first|exact List.Sublist.refl _|refine List.Sublist.cons_cons _ ?_|refine List.Sublist.cons _ ?_)) ⟨.mk 23 [] 0 [], k, true, h, [], hm, hk, ⟨⟨23, [], 0, ⟨none, 0, 0⟩⟩, rfl, rfl, ⟨rfl, rfl, rfl, SlRep.nil _ _⟩⟩, rfl, RS.bad hT⟩
      | true =>
       obtain ⟨rfl, hb3'⟩ := takes_f hb3
       repeat (refine q4 tab rfl rfl ?_)
       refine TO.split (b := decide (((s.len : Nat) : Int) = 1)) rfl rfl (fun h1 => ?_) (fun h1 => ?_)
       ·have h1' : l.length = 1 := by have := of_decide_eq_true h1; omega
        obtain ⟨t0, rfl⟩ := List.length_eq_one_iff.1 h1'
        repeat (refine q4 tab rfl rfl ?_)
        refine TO.step rfl (OT.index tab rTree 0 hs rfl rfl rfl rfl rfl (by first | rfl | omega | (simp only; omega)) rfl (by rfl) ?_)
        rintro bx ix hx' hrx hAx
        have hrx' := rTree_iff.1 hrx
        repeat (refine q4 tab rfl rfl ?_)
        (refine TO.step rfl (OT.loadA tab hAx rfl rfl rfl rfl rfl ?_))
        repeat (first|refine q4 tab rfl rfl ?_|refine q5 ?_|refine q6 ?_)
        rw [hrx'.kind]
        refine TC.condP rfl (fun h2 => ?_) (fun h2 => ?_)
        ·replace hS := (hS.to (rest' := Ps.peek (Ps.isM [59]) (Ps.ret (.mk 24 [] 0 [t0])) Ps.fail) fun _ => by rw [show Ps.isC1 [t0] = true from decide_eq_true h2]; rfl).peek_t hb3
         repeat (first|refine q1 ?_|refine q3 ?_|refine q4 tab rfl rfl ?_)
         refine TO.step rfl (OT.node rfl rfl rfl rfl rfl rfl ?_)
         skip
         refine TO.step rfl (OT.storeL0 tab 3 rfl rfl rfl rfl rfl rfl rfl rfl ?_)
         repeat (first|refine q5 ?_|refine q6 ?_|refine q8 ?_|refine q9 ?_|refine q15 ?_)
         refine retQ_ret_c1 tab 3 rfl rfl rfl rfl (L' := E.J k false h :: L) (by repeat (first|exact List.Sublist.refl _|refine List.Sublist.cons_cons _ ?_|refine List.Sublist.cons _ ?_)) ⟨.mk 24 [] 0 [t0], k, false, h, [], hm, hk, ⟨⟨24, [], 0, s⟩, rfl, rfl, ⟨rfl, rfl, rfl, hs⟩⟩, rfl, hS⟩
        ·have hT : T = .bad k := by
          rw [(hS.1 rfl).2, show Ps.isC1 [t0] = false from decide_eq_false h2]
          rfl
         repeat (first|refine q1 ?_|refine q3 ?_|refine q4 tab rfl rfl ?_)
         refine TO.step rfl (OT.storeL (k := 2) tab 0 rfl rfl rfl rfl rfl rfl rfl rfl ?_)
         repeat (first|refine q1 ?_|refine q3 ?_|refine q5 ?_|refine q6 ?_)
         (refine qs rfl (qz tab 1 rfl rfl rfl rfl rfl rfl ?_))
         skip
         refine TO.step rfl (OT.storeL0 tab 3 rfl rfl rfl rfl rfl rfl rfl rfl ?_)
         repeat (first|refine q5 ?_|refine q6 ?_|refine q8 ?_|refine q9 ?_|refine q15 ?_)
         refine retQ_ret_c1 tab 3 rfl rfl rfl rfl (L' := E.J k true h :: L) (by repeat (first|exact List.Sublist.refl _|refine List.Sublist.cons_cons _ ?_|refine List.Sublist.cons _ ?_)) ⟨.mk 23 [] 0 [], k, true, h, [], hm, hk, ⟨⟨23, [], 0, ⟨none, 0, 0⟩⟩, rfl, rfl, ⟨rfl, rfl, rfl, SlRep.nil _ _⟩⟩, rfl, RS.bad hT⟩
       ·have hT : T = .bad k := by
         rw [(hS.1 rfl).2]
         have h1' : ¬ l.length = 1 := by have := of_decide_eq_false h1; omega
         have : Ps.isC1 l = false := by
          unfold Ps.isC1
          split
          ·exact absurd rfl h1'
          ·rfl
         rw [this]
         rfl
        repeat (first|refine q1 ?_|refine q3 ?_|refine q4 tab rfl rfl ?_|refine q5 ?_|refine q6 ?_|refine q17 rfl ?_)
        refine TO.step rfl (OT.storeL (k := 2) tab 0 rfl rfl rfl rfl rfl rfl rfl rfl ?_)
        repeat (first|refine q1 ?_|refine q3 ?_|refine q5 ?_|refine q6 ?_)
        (refine qs rfl (qz tab 1 rfl rfl rfl rfl rfl rfl ?_))
        skip
        refine TO.step rfl (OT.storeL0 tab 3 rfl rfl rfl rfl rfl rfl rfl rfl ?_)
        repeat (first|refine q5 ?_|refine q6 ?_|refine q8 ?_|refine q9 ?_|refine q15 ?_)
        refine retQ_ret_c1 tab 3 rfl rfl rfl rfl (L' := E.J k true h :: L) (by repeat (first|exact List.Sublist.refl _|refine List.Sublist.cons_cons _ ?_|refine List.Sublist.cons _ ?_)) ⟨.mk 23 [] 0 [], k, true, h, [], hm, hk, ⟨⟨23, [], 0, ⟨none, 0, 0⟩⟩, rfl, rfl, ⟨rfl, rfl, rfl, SlRep.nil _ _⟩⟩, rfl, RS.bad hT⟩
   | true =>
    cases ha1 : l.all Ps.isNm with
    | true =>
     obtain ⟨rfl, hb1'⟩ := takes_f hb1
     replace hS := hS.tokIf_t hb1' ha1
     repeat (first|refine q3 ?_|refine q4 tab rfl rfl ?_|refine q5 ?_|refine q6 ?_|refine q16 rfl ?_)
     refine TO.step rfl (OT.storeL0 tab 1 rfl rfl rfl rfl rfl rfl rfl rfl ?_)
     repeat (first|refine q5 ?_|refine q6 ?_|refine q7 ?_)
     exact ⟨22, (by repeat (exact trivial)), (by repeat (first|exact trivial|refine And.intro rfl ?_)), rfl, rfl, (by repeat (exact List.Sublist.refl _)), rfl, PE.isM_lt hb1', hS⟩
    | false =>
     replace hS := hS.tokIf_f (by rw [ha1]; exact Bool.and_false _)
     repeat (first|refine q1 ?_|refine q3 ?_|refine q4 tab rfl rfl ?_|refine q5 ?_|refine q6 ?_|refine q17 rfl ?_)
     refine TO.step rfl (OT.call rfl rfl rfl rfl rfl rfl goes77 ((now_law hE hk).x ?_));
     rintro _ _ _ ⟨rfl, rfl, rfl⟩
     repeat (refine q4 tab rfl rfl ?_)
     rw [nowD_eq (by decide)]
     cases hb2 : (!b && Ps.isM [61] E.f k) with
     | false =>
      replace hS := hS.tokIf_f (by rw [hb2]; rfl)
      repeat (first|refine q1 ?_|refine q3 ?_|refine q4 tab rfl rfl ?_|refine q5 ?_|refine q6 ?_|refine q17 rfl ?_)
      refine TO.step rfl (OT.call rfl rfl rfl rfl rfl rfl goes77 ((now_law hE hk).x ?_));
      rintro _ _ _ ⟨rfl, rfl, rfl⟩
      repeat (refine q4 tab rfl rfl ?_)
      rw [nowD_eq (by decide)]
      cases hb3 : (!b && Ps.isM [59] E.f k) with
      | false =>
       have hT : T = .bad k := by
        cases b with
        | true => exact hS.2 rfl
        | false =>
         rw [(hS.1 rfl).2]
         cases Ps.isC1 l
         ·rfl
         ·exact Ps.peek_f' hb3
       repeat (first|refine q1 ?_|refine q3 ?_|refine q4 tab rfl rfl ?_|refine q5 ?_|refine q6 ?_|refine q17 rfl ?_)
       refine TO.step rfl (OT.storeL (k := 2) tab 0 rfl rfl rfl rfl rfl rfl rfl rfl ?_)
       repeat (first|refine q1 ?_|refine q3 ?_|refine q5 ?_|refine q6 ?_)
       (refine qs rfl (qz tab 1 rfl rfl rfl rfl rfl rfl ?_))
       skip
       refine TO.step rfl (OT.storeL0 tab 3 rfl rfl rfl rfl rfl rfl rfl rfl ?_)
       repeat (first|refine q5 ?_|refine q6 ?_|refine q8 ?_|refine q9 ?_|refine q15 ?_)
       refine retQ_ret_c1 tab 3 rfl rfl rfl rfl (L' := E.J k true h :: L) (by repeat (first|exact List.Sublist.refl _|refine List.Sublist.cons_cons _ ?_|refine List.Sublist.cons _ ?_)) ⟨.mk 23 [] 0 [], k, true, h, [], hm, hk, ⟨⟨23, [], 0, ⟨none, 0, 0⟩⟩, rfl, rfl, ⟨rfl, rfl, rfl, SlRep.nil _ _⟩⟩, rfl, RS.bad hT⟩
      | true =>
       obtain ⟨rfl, hb3'⟩ := takes_f hb3
       repeat (refine q4 tab rfl rfl ?_)
       refine TO.split (b := decide (((s.len : Nat) : Int) = 1)) rfl rfl (fun h1 => ?_) (fun h1 => ?_)
       ·have h1' : l.length = 1 := by have := of_decide_eq_true h1; omega
        obtain ⟨t0, rfl⟩ := List.length_eq_one_iff.1 h1'
        repeat (refine q4 tab rfl rfl ?_)
        refine TO.step rfl (OT.index tab rTree 0 hs rfl rfl rfl rfl rfl (by first | rfl | omega | (simp only; omega)) rfl (by rfl) ?_)
        rintro bx ix hx' hrx hAx
        have hrx' := rTree_iff.1 hrx
        repeat (refine q4 tab rfl rfl ?_)
        (refine TO.step rfl (OT.loadA tab hAx rfl rfl rfl rfl rfl ?_))
        repeat (first|refine q4 tab rfl rfl ?_|refine q5 ?_|refine q6 ?_)
        rw [hrx'.kind]
        refine TC.condP rfl (fun h2 => ?_) (fun h2 => ?_)
        ·replace hS := (hS.to (rest' := Ps.peek (Ps.isM [59]) (Ps.ret (.mk 24 [] 0 [t0])) Ps.fail) fun _ => by rw [show Ps.isC1 [t0] = true from decide_eq_true h2]; rfl).peek_t hb3
         repeat (first|refine q1 ?_|refine q3 ?_|refine q4 tab rfl rfl ?_)
         refine TO.step rfl (OT.node rfl rfl rfl rfl rfl rfl ?_)
         skip
         refine TO.step rfl (OT.storeL0 tab 3 rfl rfl rfl rfl rfl rfl rfl rfl ?_)
         repeat (first|refine q5 ?_|refine q6 ?_|refine q8 ?_|refine q9 ?_|refine q15 ?_)
         refine retQ_ret_c1 tab 3 rfl rfl rfl rfl (L' := E.J k false h :: L) (by repeat (first|exact List.Sublist.refl _|refine List.Sublist.cons_cons _ ?_|refine List.Sublist.cons _ ?_)) ⟨.mk 24 [] 0 [t0], k, false, h, [], hm, hk, ⟨⟨24, [], 0, s⟩, rfl, rfl, ⟨rfl, rfl, rfl, hs⟩⟩, rfl, hS⟩
        ·have hT : T = .bad k := by
          rw [(hS.1 rfl).2, show Ps.isC1 [t0] = false from decide_eq_false h2]
          rfl
         repeat (first|refine q1 ?_|refine q3 ?_|refine q4 tab rfl rfl ?_)
         refine TO.step rfl (OT.storeL (k := 2) tab 0 rfl rfl rfl rfl rfl rfl rfl rfl ?_)
         repeat (first|refine q1 ?_|refine q3 ?_|refine q5 ?_|refine q6 ?_)
         (refine qs rfl (qz tab 1 rfl rfl rfl rfl rfl rfl ?_))
         skip
         refine TO.step rfl (OT.storeL0 tab 3 rfl rfl rfl rfl rfl rfl rfl rfl ?_)
         repeat (first|refine q5 ?_|refine q6 ?_|refine q8 ?_|refine q9 ?_|refine q15 ?_)
         refine retQ_ret_c1 tab 3 rfl rfl rfl rfl (L' := E.J k true h :: L) (by repeat (first|exact List.Sublist.refl _|refine List.Sublist.cons_cons _ ?_|refine List.Sublist.cons _ ?_)) ⟨.mk 23 [] 0 [], k, true, h, [], hm, hk, ⟨⟨23, [], 0, ⟨none, 0, 0⟩⟩, rfl, rfl, ⟨rfl, rfl, rfl, SlRep.nil _ _⟩⟩, rfl, RS.bad hT⟩
       ·have hT : T = .bad k := by
         rw [(hS.1 rfl).2]
         have h1' : ¬ l.length = 1 := by have := of_decide_eq_false h1; omega
         have : Ps.isC1 l = false := by
          unfold Ps.isC1
          split
          ·exact absurd rfl h1'
          ·rfl
         rw [this]
         rfl
        repeat (first|refine q1 ?_|refine q3 ?_|refine q4 tab rfl rfl ?_|refine q5 ?_|refine q6 ?_|refine q17 rfl ?_)
        refine TO.step rfl (OT.storeL (k := 2) tab 0 rfl rfl rfl rfl rfl rfl rfl rfl ?_)
        repeat (first|refine q1 ?_|refine q3 ?_|refine q5 ?_|refine q6 ?_)
        (refine qs rfl (qz tab 1 rfl rfl rfl rfl rfl rfl ?_))
        skip
        refine TO.step rfl (OT.storeL0 tab 3 rfl rfl rfl rfl rfl rfl rfl rfl ?_)
        repeat (first|refine q5 ?_|refine q6 ?_|refine q8 ?_|refine q9 ?_|refine q15 ?_)
        refine retQ_ret_c1 tab 3 rfl rfl rfl rfl (L' := E.J k true h :: L) (by repeat (first|exact List.Sublist.refl _|refine List.Sublist.cons_cons _ ?_|refine List.Sublist.cons _ ?_)) ⟨.mk 23 [] 0 [], k, true, h, [], hm, hk, ⟨⟨23, [], 0, ⟨none, 0, 0⟩⟩, rfl, rfl, ⟨rfl, rfl, rfl, SlRep.nil _ _⟩⟩, rfl, RS.bad hT⟩
     | true =>
      cases ha2 : l.all Ps.isPl with
      | true =>
       obtain ⟨rfl, hb2'⟩ := takes_f hb2
       replace hS := hS.tokIf_t hb2' ha2
       repeat (first|refine q4 tab rfl rfl ?_|refine q5 ?_|refine q6 ?_|refine q7 ?_|refine q13 ?_|refine q16 rfl ?_)
       exact ⟨23, (by repeat (exact trivial)), (by repeat (first|exact trivial|refine And.intro rfl ?_)), rfl, rfl, (by repeat (exact List.Sublist.refl _)), rfl, PE.isM_lt hb2', hS⟩
      | false =>
       replace hS := hS.tokIf_f (by rw [ha2]; exact Bool.and_false _)
       repeat (first|refine q1 ?_|refine q3 ?_|refine q4 tab rfl rfl ?_|refine q5 ?_|refine q6 ?_|refine q17 rfl ?_)
       refine TO.step rfl (OT.call rfl rfl rfl rfl rfl rfl goes77 ((now_law hE hk).x ?_));
       rintro _ _ _ ⟨rfl, rfl, rfl⟩
       repeat (refine q4 tab rfl rfl ?_)
       rw [nowD_eq (by decide)]
       cases hb3 : (!b && Ps.isM [59] E.f k) with
       | false =>
        have hT : T = .bad k := by
         cases b with
         | true => exact hS.2 rfl
         | false =>
          rw [(hS.1 rfl).2]
          cases Ps.isC1 l
          ·rfl
          ·exact Ps.peek_f' hb3
        repeat (first|refine q1 ?_|refine q3 ?_|refine q4 tab rfl rfl ?_|refine q5 ?_|refine q6 ?_|refine q17 rfl ?_)
        refine TO.step rfl (OT.storeL (k := 2) tab 0 rfl rfl rfl rfl rfl rfl rfl rfl ?_)
        repeat (first|refine q1 ?_|refine q3 ?_|refine q5 ?_|refine q6 ?_)
        (refine qs rfl (qz tab 1 rfl rfl rfl rfl rfl rfl ?_))
        skip
        refine TO.step rfl (OT.storeL0 tab 3 rfl rfl rfl rfl rfl rfl rfl rfl ?_)
        repeat (first|refine q5 ?_|refine q6 ?_|refine q8 ?_|refine q9 ?_|refine q15 ?_)
        refine retQ_ret_c1 tab 3 rfl rfl rfl rfl (L' := E.J k true h :: L) (by repeat (first|exact List.Sublist.refl _|refine List.Sublist.cons_cons _ ?_|refine List.Sublist.cons _ ?_)) ⟨.mk 23 [] 0 [], k, true, h, [], hm, hk, ⟨⟨23, [], 0, ⟨none, 0, 0⟩⟩, rfl, rfl, ⟨rfl, rfl, rfl, SlRep.nil _ _⟩⟩, rfl, RS.bad hT⟩
       | true =>
        obtain ⟨rfl, hb3'⟩ := takes_f hb3
        repeat (refine q4 tab rfl rfl ?_)
        refine TO.split (b := decide (((s.len : Nat) : Int) = 1)) rfl rfl (fun h1 => ?_) (fun h1 => ?_)
        ·have h1' : l.length = 1 := by have := of_decide_eq_true h1; omega
         obtain ⟨t0, rfl⟩ := List.length_eq_one_iff.1 h1'
         repeat (refine q4 tab rfl rfl ?_)
         refine TO.step rfl (OT.index tab rTree 0 hs rfl rfl rfl rfl rfl (by first | rfl | omega | (simp only; omega)) rfl (by rfl) ?_)
         rintro bx ix hx' hrx hAx
         have hrx' := rTree_iff.1 hrx
         repeat (refine q4 tab rfl rfl ?_)
         (refine TO.step rfl (OT.loadA tab hAx rfl rfl rfl rfl rfl ?_))
         repeat (first|refine q4 tab rfl rfl ?_|refine q5 ?_|refine q6 ?_)
         rw [hrx'.kind]
         refine TC.condP rfl (fun h2 => ?_) (fun h2 => ?_)
         ·replace hS := (hS.to (rest' := Ps.peek (Ps.isM [59]) (Ps.ret (.mk 24 [] 0 [t0])) Ps.fail) fun _ => by rw [show Ps.isC1 [t0] = true from decide_eq_true h2]; rfl).peek_t hb3
          repeat (first|refine q1 ?_|refine q3 ?_|refine q4 tab rfl rfl ?_)
          refine TO.step rfl (OT.node rfl rfl rfl rfl rfl rfl ?_)
          skip
          refine TO.step rfl (OT.storeL0 tab 3 rfl rfl rfl rfl rfl rfl rfl rfl ?_)
          repeat (first|refine q5 ?_|refine q6 ?_|refine q8 ?_|refine q9 ?_|refine q15 ?_)
          refine retQ_ret_c1 tab 3 rfl rfl rfl rfl (L' := E.J k false h :: L) (by repeat (first|exact List.Sublist.refl _|refine List.Sublist.cons_cons _ ?_|refine List.Sublist.cons _ ?_)) ⟨.mk 24 [] 0 [t0], k, false, h, [], hm, hk, ⟨⟨24, [], 0, s⟩, rfl, rfl, ⟨rfl, rfl, rfl, hs⟩⟩, rfl, hS⟩
         ·have hT : T = .bad k := by
           rw [(hS.1 rfl).2, show Ps.isC1 [t0] = false from decide_eq_false h2]
           rfl
          repeat (first|refine q1 ?_|refine q3 ?_|refine q4 tab rfl rfl ?_)
          refine TO.step rfl (OT.storeL (k := 2) tab 0 rfl rfl rfl rfl rfl rfl rfl rfl ?_)
          repeat (first|refine q1 ?_|refine q3 ?_|refine q5 ?_|refine q6 ?_)
          (refine qs rfl (qz tab 1 rfl rfl rfl rfl rfl rfl ?_))
          skip
          refine TO.step rfl (OT.storeL0 tab 3 rfl rfl rfl rfl rfl rfl rfl rfl ?_)
          repeat (first|refine q5 ?_|refine q6 ?_|refine q8 ?_|refine q9 ?_|refine q15 ?_)
          refine retQ_ret_c1 tab 3 rfl rfl rfl rfl (L' := E.J k true h :: L) (by repeat (first|exact List.Sublist.refl _|refine List.Sublist.cons_cons _ ?_|refine List.Sublist.cons _ ?_)) ⟨.mk 23 [] 0 [], k, true, h, [], hm, hk, ⟨⟨23, [], 0, ⟨none, 0, 0⟩⟩, rfl, rfl, ⟨rfl, rfl, rfl, SlRep.nil _ _⟩⟩, rfl, RS.bad hT⟩
        ·have hT : T = .bad k := by
          rw [(hS.1 rfl).2]
          have h1' : ¬ l.length = 1 := by have := of_decide_eq_false h1; omega
          have : Ps.isC1 l = false := by
           unfold Ps.isC1
           split
           ·exact absurd rfl h1'
           ·rfl
          rw [this]
          rfl
         repeat (first|refine q1 ?_|refine q3 ?_|refine q4 tab rfl rfl ?_|refine q5 ?_|refine q6 ?_|refine q17 rfl ?_)
         refine TO.step rfl (OT.storeL (k := 2) tab 0 rfl rfl rfl rfl rfl rfl rfl rfl ?_)
         repeat (first|refine q1 ?_|refine q3 ?_|refine q5 ?_|refine q6 ?_)
         (refine qs rfl (qz tab 1 rfl rfl rfl rfl rfl rfl ?_))
         skip
         refine TO.step rfl (OT.storeL0 tab 3 rfl rfl rfl rfl rfl rfl rfl rfl ?_)
         repeat (first|refine q5 ?_|refine q6 ?_|refine q8 ?_|refine q9 ?_|refine q15 ?_)
         refine retQ_ret_c1 tab 3 rfl rfl rfl rfl (L' := E.J k true h :: L) (by repeat (first|exact List.Sublist.refl _|refine List.Sublist.cons_cons _ ?_|refine List.Sublist.cons _ ?_)) ⟨.mk 23 [] 0 [], k, true, h, [], hm, hk, ⟨⟨23, [], 0, ⟨none, 0, 0⟩⟩, rfl, rfl, ⟨rfl, rfl, rfl, SlRep.nil _ _⟩⟩, rfl, RS.bad hT⟩
  ·rintro kd ⟨rfl, hk, hS⟩
   replace hY := hY.up hm
   have hmm : m1 ≤ m1 := Mem.le_refl _
   repeat (first|refine q1 ?_|refine q3 ?_|refine q4 tab rfl rfl ?_)
   (refine qs rfl (ql tab 0 rfl rfl rfl rfl rfl rfl ?_))
   refine TO.step rfl (OT.arith (r' := ((k + 1 : Nat) : Int)) rfl rfl rfl rfl rfl rfl rfl (by omega) ?_)
   repeat (refine q4 tab rfl rfl ?_)
   refine TO.step rfl (OT.storeL (k := 1) tab 0 rfl rfl rfl rfl rfl rfl rfl rfl ?_)
   repeat (first|refine q1 ?_|refine q3 ?_|refine q4 tab rfl rfl ?_|refine q5 ?_|refine q6 ?_)
   refine TO.step rfl (OT.storeL (k := 2) tab 1 rfl rfl rfl rfl rfl rfl rfl rfl ?_)
   repeat (first|refine q1 ?_|refine q3 ?_|refine q4 tab rfl rfl ?_|refine q5 ?_|refine q6 ?_)
   refine TO.step rfl (OT.rcL (rexprs_rc hY) hmm hS hn hE hk hm rfl rfl rfl rfl rfl rfl goes128 (fun x m2 l2 k b h hS hm hE hlex hk hrx hox hlx => ?_))
   refine TO.step rfl (OT.append tab rTree 3 (hs.mono hlex) ho hrx rfl rfl rfl rfl rfl rfl rfl (by simp only [rTree, mkR]; omega) (fun s3 m3 hle3 hs3 ho3 => ?_))
   repeat (refine q4 tab rfl rfl ?_)
   refine TO.step rfl (OT.storeL (k := 3) tab 2 rfl rfl rfl rfl rfl rfl rfl rfl ?_)
   repeat (first|refine q1 ?_|refine q3 ?_|refine q5 ?_|refine q6 ?_)
   (refine qs rfl (qz tab 2 rfl rfl rfl rfl rfl rfl ?_))
   skip
   refine TO.step rfl (OT.storeL0 tab 4 rfl rfl rfl rfl rfl rfl rfl rfl ?_)
   repeat (first|refine q5 ?_|refine q6 ?_|refine q15 ?_)
   refine retQ_ret_c1 tab 4 rfl rfl rfl rfl (L' := E.J k b h :: L) (by repeat (first|exact List.Sublist.refl _|refine List.Sublist.cons_cons _ ?_|refine List.Sublist.cons _ ?_)) ⟨.mk kd [] (l.length : Int) (l ++ l2), k, b, h, [], Mem.le_trans hm hle3, hk, ⟨⟨kd, [], (s.len : Int), s3⟩, rfl, rfl, ⟨rfl, rfl, by show (s.len : Int) = _; rw [hlen]; rfl, hs3⟩⟩, rfl, hS⟩
end
end Go.Sep

