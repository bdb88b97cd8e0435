/-
  Names: the walks of the scanner's small functions, the program's and the reference's.
-/
import Derived.Test.YtlpcakplpnpaeaaTyTab
import Derived.Test.YtlpcakplpnpaeaaSepR
import Derived.Test.YtlpcakplpnpaeaaTyTree
set_option linter.unusedVariables false
set_option linter.unusedSimpArgs false
namespace Go.Sep
open Go.Proofs
attribute [local irreducible] TC TO OT TCallX TCall DO DOt thenQ blockQ retQ At

def ltr (b : UInt8) : Bool := decide (97 ≤ b.toNat ∧ b.toNat ≤ 122) || decide (65 ≤ b.toNat ∧ b.toNat ≤ 90) || decide (b.toNat = 95)
def dgt (b : UInt8) : Bool := decide (48 ≤ b.toNat ∧ b.toNat ≤ 57)
def lod (b : UInt8) : Bool := ltr b || dgt b

theorem low_all : ∀ n : Fin 256, (97 ≤ n.val ||| 32 ∧ n.val ||| 32 ≤ 122) ↔ ((97 ≤ n.val ∧ n.val ≤ 122) ∨ (65 ≤ n.val ∧ n.val ≤ 90)) := by decide +kernel
theorem low (b : UInt8) : (97 ≤ b.toNat ||| 32 ∧ b.toNat ||| 32 ≤ 122) ↔ ((97 ≤ b.toNat ∧ b.toNat ≤ 122) ∨ (65 ≤ b.toNat ∧ b.toNat ≤ 90)) := low_all ⟨b.toNat, b.toNat_lt⟩

section
variable (m : Mem) (L : List Item) (b : UInt8)
set_option maxHeartbeats 400000 in
theorem letter_law : TCall Try.prog 82 ⟨[byteV b]⟩ m L (Ret (.bool (ltr b)) m L) := by
  unfold TCall
  refine TCallX.enter Try.func82 rfl 15 rfl ?_
  have hb : b.toNat < 256 := b.toNat_lt
  have hlow := low b
  repeat (first|refine q1 ?_|refine q2 ?_|refine q3 ?_|refine q4 tab rfl rfl ?_|refine q5 ?_|refine q6 ?_|refine q7 ?_|refine q8 ?_|refine q9 ?_|refine q10 ?_|refine q11 ?_|refine q12 rfl ?_|refine q13 ?_|refine q14 ?_|refine q15 ?_|refine q16 rfl ?_|refine q17 rfl ?_)
  refine TO.step rfl (OT.orU8 (b := 32) rfl rfl rfl rfl rfl hb (by decide) ?_)
  repeat (first|refine q1 ?_|refine q2 ?_|refine q3 ?_|refine q4 tab rfl rfl ?_|refine q5 ?_|refine q6 ?_|refine q7 ?_|refine q8 ?_|refine q9 ?_|refine q10 ?_|refine q11 ?_|refine q12 rfl ?_|refine q13 ?_|refine q14 ?_|refine q15 ?_|refine q16 rfl ?_|refine q17 rfl ?_)
  (first | refine TO.splitP rfl rfl (fun h1 => ?_) (fun h1 => ?_) | refine TO.splitN rfl rfl (fun h1 => ?_) (fun h1 => ?_) | refine TO.split rfl rfl (fun h1 => ?_) (fun h1 => ?_))
  · repeat (first|refine q1 ?_|refine q2 ?_|refine q3 ?_|refine q4 tab rfl rfl ?_|refine q5 ?_|refine q6 ?_|refine q7 ?_|refine q8 ?_|refine q9 ?_|refine q10 ?_|refine q11 ?_|refine q12 rfl ?_|refine q13 ?_|refine q14 ?_|refine q15 ?_|refine q16 rfl ?_|refine q17 rfl ?_)
    refine TO.step rfl (OT.orU8 (b := 32) rfl rfl rfl rfl rfl hb (by decide) ?_)
    repeat (first|refine q1 ?_|refine q2 ?_|refine q3 ?_|refine q4 tab rfl rfl ?_|refine q5 ?_|refine q6 ?_|refine q7 ?_|refine q8 ?_|refine q9 ?_|refine q10 ?_|refine q11 ?_|refine q12 rfl ?_|refine q13 ?_|refine q14 ?_|refine q15 ?_|refine q16 rfl ?_|refine q17 rfl ?_)
    (first | refine TO.splitP rfl rfl (fun h2 => ?_) (fun h2 => ?_) | refine TO.splitN rfl rfl (fun h2 => ?_) (fun h2 => ?_) | refine TO.split rfl rfl (fun h2 => ?_) (fun h2 => ?_))
    · repeat (first|refine q1 ?_|refine q2 ?_|refine q3 ?_|refine q4 tab rfl rfl ?_|refine q5 ?_|refine q6 ?_|refine q7 ?_|refine q8 ?_|refine q9 ?_|refine q10 ?_|refine q11 ?_|refine q12 rfl ?_|refine q13 ?_|refine q14 ?_|refine q15 ?_|refine q16 rfl ?_|refine q17 rfl ?_)
      refine retQ_ret rfl (by repeat (first | exact List.Sublist.refl _ | exact List.sublist_append_left _ _ | refine List.Sublist.cons_cons _ ?_ | refine List.Sublist.cons _ ?_)) ⟨rfl, rfl, ?_⟩
      refine congrArg Value.bool ?_
      have : ltr b = true := by
        have := hlow.1 ⟨by omega, by omega⟩
        unfold ltr
        rcases this with h | h <;> simp [h]
      simp [this, h2]
    · repeat (first|refine q1 ?_|refine q2 ?_|refine q3 ?_|refine q4 tab rfl rfl ?_|refine q5 ?_|refine q6 ?_|refine q7 ?_|refine q8 ?_|refine q9 ?_|refine q10 ?_|refine q11 ?_|refine q12 rfl ?_|refine q13 ?_|refine q14 ?_|refine q15 ?_|refine q16 rfl ?_|refine q17 rfl ?_)
      refine retQ_ret rfl (by repeat (first | exact List.Sublist.refl _ | exact List.sublist_append_left _ _ | refine List.Sublist.cons_cons _ ?_ | refine List.Sublist.cons _ ?_)) ⟨rfl, rfl, ?_⟩
      refine congrArg Value.bool ?_
      have h3 : ¬ (97 ≤ b.toNat ∧ b.toNat ≤ 122) := fun h => by have := hlow.2 (.inl h); omega
      have h4 : ¬ (65 ≤ b.toNat ∧ b.toNat ≤ 90) := fun h => by have := hlow.2 (.inr h); omega
      unfold ltr
      rw [decide_eq_false h3, decide_eq_false h4]
      simp only [Bool.false_or]
      congr 1
      apply propext
      omega
  · repeat (first|refine q1 ?_|refine q2 ?_|refine q3 ?_|refine q4 tab rfl rfl ?_|refine q5 ?_|refine q6 ?_|refine q7 ?_|refine q8 ?_|refine q9 ?_|refine q10 ?_|refine q11 ?_|refine q12 rfl ?_|refine q13 ?_|refine q14 ?_|refine q15 ?_|refine q16 rfl ?_|refine q17 rfl ?_)
    refine retQ_ret rfl (by repeat (first | exact List.Sublist.refl _ | exact List.sublist_append_left _ _ | refine List.Sublist.cons_cons _ ?_ | refine List.Sublist.cons _ ?_)) ⟨rfl, rfl, ?_⟩
    refine congrArg Value.bool ?_
    have h3 : ¬ (97 ≤ b.toNat ∧ b.toNat ≤ 122) := fun h => by have := hlow.2 (.inl h); omega
    have h4 : ¬ (65 ≤ b.toNat ∧ b.toNat ≤ 90) := fun h => by have := hlow.2 (.inr h); omega
    unfold ltr
    rw [decide_eq_false h3, decide_eq_false h4]
    simp only [Bool.false_or]
    congr 1
    apply propext
    omega

set_option maxHeartbeats 400000 in
theorem digit_law : TCall Try.prog 85 ⟨[byteV b]⟩ m L (Ret (.bool (dgt b)) m L) := by
  unfold TCall
  refine TCallX.enter Try.func85 rfl 9 rfl ?_
  repeat (first|refine q1 ?_|refine q2 ?_|refine q3 ?_|refine q4 tab rfl rfl ?_|refine q5 ?_|refine q6 ?_|refine q7 ?_|refine q8 ?_|refine q9 ?_|refine q10 ?_|refine q11 ?_|refine q12 rfl ?_|refine q13 ?_|refine q14 ?_|refine q15 ?_|refine q16 rfl ?_|refine q17 rfl ?_)
  (first | refine TO.splitP rfl rfl (fun h1 => ?_) (fun h1 => ?_) | refine TO.splitN rfl rfl (fun h1 => ?_) (fun h1 => ?_) | refine TO.split rfl rfl (fun h1 => ?_) (fun h1 => ?_))
  · repeat (first|refine q1 ?_|refine q2 ?_|refine q3 ?_|refine q4 tab rfl rfl ?_|refine q5 ?_|refine q6 ?_|refine q7 ?_|refine q8 ?_|refine q9 ?_|refine q10 ?_|refine q11 ?_|refine q12 rfl ?_|refine q13 ?_|refine q14 ?_|refine q15 ?_|refine q16 rfl ?_|refine q17 rfl ?_)
    refine retQ_ret rfl (by repeat (first | exact List.Sublist.refl _ | exact List.sublist_append_left _ _ | refine List.Sublist.cons_cons _ ?_ | refine List.Sublist.cons _ ?_)) ⟨rfl, rfl, ?_⟩
    refine congrArg Value.bool ?_
    unfold dgt
    congr 1
    apply propext
    omega
  · repeat (first|refine q1 ?_|refine q2 ?_|refine q3 ?_|refine q4 tab rfl rfl ?_|refine q5 ?_|refine q6 ?_|refine q7 ?_|refine q8 ?_|refine q9 ?_|refine q10 ?_|refine q11 ?_|refine q12 rfl ?_|refine q13 ?_|refine q14 ?_|refine q15 ?_|refine q16 rfl ?_|refine q17 rfl ?_)
    refine retQ_ret rfl (by repeat (first | exact List.Sublist.refl _ | exact List.sublist_append_left _ _ | refine List.Sublist.cons_cons _ ?_ | refine List.Sublist.cons _ ?_)) ⟨rfl, rfl, ?_⟩
    refine congrArg Value.bool ?_
    unfold dgt
    symm
    apply decide_eq_false
    omega

set_option maxHeartbeats 400000 in
theorem digit_ref : TCall Try.prog 89 ⟨[byteV b]⟩ m L (Ret (.bool (dgt b)) m L) := by
  unfold TCall
  refine TCallX.enter Try.func89 rfl 9 rfl ?_
  repeat (first|refine q1 ?_|refine q2 ?_|refine q3 ?_|refine q4 tab rfl rfl ?_|refine q5 ?_|refine q6 ?_|refine q7 ?_|refine q8 ?_|refine q9 ?_|refine q10 ?_|refine q11 ?_|refine q12 rfl ?_|refine q13 ?_|refine q14 ?_|refine q15 ?_|refine q16 rfl ?_|refine q17 rfl ?_)
  (first | refine TO.splitP rfl rfl (fun h1 => ?_) (fun h1 => ?_) | refine TO.splitN rfl rfl (fun h1 => ?_) (fun h1 => ?_) | refine TO.split rfl rfl (fun h1 => ?_) (fun h1 => ?_))
  · repeat (first|refine q1 ?_|refine q2 ?_|refine q3 ?_|refine q4 tab rfl rfl ?_|refine q5 ?_|refine q6 ?_|refine q7 ?_|refine q8 ?_|refine q9 ?_|refine q10 ?_|refine q11 ?_|refine q12 rfl ?_|refine q13 ?_|refine q14 ?_|refine q15 ?_|refine q16 rfl ?_|refine q17 rfl ?_)
    refine retQ_ret rfl (by repeat (first | exact List.Sublist.refl _ | exact List.sublist_append_left _ _ | refine List.Sublist.cons_cons _ ?_ | refine List.Sublist.cons _ ?_)) ⟨rfl, rfl, ?_⟩
    refine congrArg Value.bool ?_
    unfold dgt
    congr 1
    apply propext
    omega
  · repeat (first|refine q1 ?_|refine q2 ?_|refine q3 ?_|refine q4 tab rfl rfl ?_|refine q5 ?_|refine q6 ?_|refine q7 ?_|refine q8 ?_|refine q9 ?_|refine q10 ?_|refine q11 ?_|refine q12 rfl ?_|refine q13 ?_|refine q14 ?_|refine q15 ?_|refine q16 rfl ?_|refine q17 rfl ?_)
    refine retQ_ret rfl (by repeat (first | exact List.Sublist.refl _ | exact List.sublist_append_left _ _ | refine List.Sublist.cons_cons _ ?_ | refine List.Sublist.cons _ ?_)) ⟨rfl, rfl, ?_⟩
    refine congrArg Value.bool ?_
    unfold dgt
    symm
    apply decide_eq_false
    omega

set_option maxHeartbeats 800000 in
theorem letter_ref : TCall Try.prog 91 ⟨[byteV b]⟩ m L (Ret (.bool (ltr b)) m L) := by
  unfold TCall
  refine TCallX.enter Try.func91 rfl 21 rfl ?_
  repeat' (first | (first|refine q1 ?_|refine q2 ?_|refine q3 ?_|refine q4 tab rfl rfl ?_|refine q5 ?_|refine q6 ?_|refine q7 ?_|refine q8 ?_|refine q9 ?_|refine q10 ?_|refine q11 ?_|refine q12 rfl ?_|refine q13 ?_|refine q14 ?_|refine q15 ?_|refine q16 rfl ?_|refine q17 rfl ?_) | (first | refine qs rfl (ql tab 0 rfl rfl rfl rfl rfl rfl ?_) | refine qs rfl (qz tab 0 rfl rfl rfl rfl rfl rfl ?_) | refine qs rfl (ql tab 1 rfl rfl rfl rfl rfl rfl ?_) | refine qs rfl (qz tab 1 rfl rfl rfl rfl rfl rfl ?_) | refine qs rfl (ql tab 2 rfl rfl rfl rfl rfl rfl ?_) | refine qs rfl (qz tab 2 rfl rfl rfl rfl rfl rfl ?_) | refine qs rfl (ql tab 3 rfl rfl rfl rfl rfl rfl ?_) | refine qs rfl (qz tab 3 rfl rfl rfl rfl rfl rfl ?_) | refine qs rfl (ql tab 4 rfl rfl rfl rfl rfl rfl ?_) | refine qs rfl (qz tab 4 rfl rfl rfl rfl rfl rfl ?_) | refine qs rfl (ql tab 5 rfl rfl rfl rfl rfl rfl ?_) | refine qs rfl (qz tab 5 rfl rfl rfl rfl rfl rfl ?_)) | (first | refine TO.splitP rfl rfl (fun hb => ?_) (fun hb => ?_) | refine TO.splitN rfl rfl (fun hb => ?_) (fun hb => ?_)))
  all_goals
    refine retQ_ret rfl (by repeat (first | exact List.Sublist.refl _ | exact List.sublist_append_left _ _ | refine List.Sublist.cons_cons _ ?_ | refine List.Sublist.cons _ ?_)) ⟨rfl, rfl, ?_⟩
    refine congrArg Value.bool ?_
    unfold ltr
    (rw [Bool.eq_iff_iff]; simp only [Bool.or_eq_true, Bool.and_eq_true, decide_eq_true_eq, Bool.not_eq_true', decide_eq_false_iff_not, true_iff, iff_true, Bool.false_eq_true, false_iff, iff_false]; omega)

theorem low_any (a : List Value) : True := trivial
end

/-- a class of bytes -/
def IsClass (m : Mem) (L : List Item) (fn : FuncId) (cap : List Value) (p : UInt8 → Bool) : Prop := Goes Try.prog fn ∧ ∀ b : UInt8, TCall Try.prog fn ⟨byteV b :: cap⟩ m L (Ret (.bool (p b)) m L)

set_option maxHeartbeats 400000 in
theorem either_cl (m : Mem) (L : List Item) (b : UInt8) (b1 b2 : Nat) (h1 : At m b1 0 [.func (.func 82) ⟨[]⟩ ⟨[]⟩]) (h2 : At m b2 0 [.func (.func 85) ⟨[]⟩ ⟨[]⟩]) :
    TCall Try.prog 112 ⟨[byteV b, .pointer (some ⟨b1, 0, none⟩), .pointer (some ⟨b2, 0, none⟩)]⟩ m L (Ret (.bool (lod b)) m L) := by
  unfold TCall
  refine TCallX.enter Try.func112 rfl 13 rfl ?_
  repeat (first|refine q1 ?_|refine q2 ?_|refine q3 ?_|refine q4 tab rfl rfl ?_|refine q5 ?_|refine q6 ?_|refine q7 ?_|refine q8 ?_|refine q9 ?_|refine q10 ?_|refine q11 ?_|refine q12 rfl ?_|refine q13 ?_|refine q14 ?_|refine q15 ?_|refine q16 rfl ?_|refine q17 rfl ?_)
  (first | refine TO.step rfl (OT.loadA tab h1 rfl rfl rfl rfl rfl ?_) | refine TO.step rfl (OT.loadA0 tab h1 rfl rfl rfl rfl rfl ?_))
  repeat (first|refine q1 ?_|refine q2 ?_|refine q3 ?_|refine q4 tab rfl rfl ?_|refine q5 ?_|refine q6 ?_|refine q7 ?_|refine q8 ?_|refine q9 ?_|refine q10 ?_|refine q11 ?_|refine q12 rfl ?_|refine q13 ?_|refine q14 ?_|refine q15 ?_|refine q16 rfl ?_|refine q17 rfl ?_)
  refine TO.step rfl (OT.call rfl rfl rfl rfl rfl rfl goes82 ((letter_law m L b).x ?_));
  rintro _ _ _ ⟨rfl, rfl, rfl⟩
  repeat (first|refine q1 ?_|refine q2 ?_|refine q3 ?_|refine q4 tab rfl rfl ?_|refine q5 ?_|refine q6 ?_|refine q7 ?_|refine q8 ?_|refine q9 ?_|refine q10 ?_|refine q11 ?_|refine q12 rfl ?_|refine q13 ?_|refine q14 ?_|refine q15 ?_|refine q16 rfl ?_|refine q17 rfl ?_)
  (first | refine TO.splitP rfl rfl (fun h3 => ?_) (fun h3 => ?_) | refine TO.splitN rfl rfl (fun h3 => ?_) (fun h3 => ?_) | refine TO.split rfl rfl (fun h3 => ?_) (fun h3 => ?_))
  · repeat (first|refine q1 ?_|refine q2 ?_|refine q3 ?_|refine q4 tab rfl rfl ?_|refine q5 ?_|refine q6 ?_|refine q7 ?_|refine q8 ?_|refine q9 ?_|refine q10 ?_|refine q11 ?_|refine q12 rfl ?_|refine q13 ?_|refine q14 ?_|refine q15 ?_|refine q16 rfl ?_|refine q17 rfl ?_)
    refine retQ_ret rfl (by repeat (first | exact List.Sublist.refl _ | exact List.sublist_append_left _ _ | refine List.Sublist.cons_cons _ ?_ | refine List.Sublist.cons _ ?_)) ⟨rfl, rfl, ?_⟩
    unfold lod
    rw [h3]; rfl
  · repeat (first|refine q1 ?_|refine q2 ?_|refine q3 ?_|refine q4 tab rfl rfl ?_|refine q5 ?_|refine q6 ?_|refine q7 ?_|refine q8 ?_|refine q9 ?_|refine q10 ?_|refine q11 ?_|refine q12 rfl ?_|refine q13 ?_|refine q14 ?_|refine q15 ?_|refine q16 rfl ?_|refine q17 rfl ?_)
    (first | refine TO.step rfl (OT.loadA tab h2 rfl rfl rfl rfl rfl ?_) | refine TO.step rfl (OT.loadA0 tab h2 rfl rfl rfl rfl rfl ?_))
    repeat (first|refine q1 ?_|refine q2 ?_|refine q3 ?_|refine q4 tab rfl rfl ?_|refine q5 ?_|refine q6 ?_|refine q7 ?_|refine q8 ?_|refine q9 ?_|refine q10 ?_|refine q11 ?_|refine q12 rfl ?_|refine q13 ?_|refine q14 ?_|refine q15 ?_|refine q16 rfl ?_|refine q17 rfl ?_)
    refine TO.step rfl (OT.call rfl rfl rfl rfl rfl rfl goes85 ((digit_law m L b).x ?_));
    rintro _ _ _ ⟨rfl, rfl, rfl⟩
    repeat (first|refine q1 ?_|refine q2 ?_|refine q3 ?_|refine q4 tab rfl rfl ?_|refine q5 ?_|refine q6 ?_|refine q7 ?_|refine q8 ?_|refine q9 ?_|refine q10 ?_|refine q11 ?_|refine q12 rfl ?_|refine q13 ?_|refine q14 ?_|refine q15 ?_|refine q16 rfl ?_|refine q17 rfl ?_)
    refine retQ_ret rfl (by repeat (first | exact List.Sublist.refl _ | exact List.sublist_append_left _ _ | refine List.Sublist.cons_cons _ ?_ | refine List.Sublist.cons _ ?_)) ⟨rfl, rfl, ?_⟩
    unfold lod
    rw [h3]; rfl

set_option maxHeartbeats 400000 in
theorem either_law (m : Mem) (L : List Item) : TCall Try.prog 84 ⟨[.func (.func 82) ⟨[]⟩ ⟨[]⟩, .func (.func 85) ⟨[]⟩ ⟨[]⟩]⟩ m L
    (Made m L fun r m' => ∃ b1 b2, r = .func (.func 112) ⟨[]⟩ ⟨[.pointer (some ⟨b1, 0, none⟩), .pointer (some ⟨b2, 0, none⟩)]⟩ ∧ At m' b1 0 [.func (.func 82) ⟨[]⟩ ⟨[]⟩] ∧ At m' b2 0 [.func (.func 85) ⟨[]⟩ ⟨[]⟩]) := by
  unfold TCall
  refine TCallX.enter Try.func84 rfl 6 rfl ?_
  repeat (first|refine q1 ?_|refine q3 ?_|refine q4 tab rfl rfl ?_|refine q5 ?_|refine q6 ?_|refine q7 ?_|refine q8 ?_|refine q9 ?_|refine q10 ?_|refine q11 ?_|refine q12 rfl ?_|refine q13 ?_|refine q14 ?_|refine q15 ?_|refine q16 rfl ?_|refine q17 rfl ?_)
  refine TO.step rfl (OT.box rfl rfl rfl rfl rfl (fun b1 => ?_))
  repeat (first|refine q1 ?_|refine q3 ?_|refine q4 tab rfl rfl ?_|refine q5 ?_|refine q6 ?_|refine q7 ?_|refine q8 ?_|refine q9 ?_|refine q10 ?_|refine q11 ?_|refine q12 rfl ?_|refine q13 ?_|refine q14 ?_|refine q15 ?_|refine q16 rfl ?_|refine q17 rfl ?_)
  refine TO.step rfl (OT.box rfl rfl rfl rfl rfl (fun b2 => ?_))
  refine TO.freeze fun m1 hm1 hA1 => ?_
  refine TO.freeze fun m2 hm2 hA2 => ?_
  repeat (first|refine q1 ?_|refine q2 ?_|refine q3 ?_|refine q4 tab rfl rfl ?_|refine q5 ?_|refine q6 ?_|refine q7 ?_|refine q8 ?_|refine q9 ?_|refine q10 ?_|refine q11 ?_|refine q12 rfl ?_|refine q13 ?_|refine q14 ?_|refine q15 ?_|refine q16 rfl ?_|refine q17 rfl ?_)
  refine retQ_ret rfl (by repeat (first | exact List.Sublist.refl _ | exact List.sublist_append_left _ _ | refine List.Sublist.cons_cons _ ?_ | refine List.Sublist.cons _ ?_)) ⟨Mem.le_trans hm1 hm2, rfl, b1, b2, rfl, hA2, hA1.mono hm2⟩

def spanOf (p : UInt8 → Bool) (s : Str) : Nat := (s.takeWhile p).length

set_option maxHeartbeats 400000 in
theorem span_law (m : Mem) (L : List Item) (s : Str) (hs : s.length ≤ 140737488355328) (p : UInt8 → Bool) (fn : FuncId) (cap : List Value) (hc : IsClass m L fn cap p) :
    TCall Try.prog 83 ⟨[strV s, .func (.func fn) ⟨[]⟩ ⟨cap⟩]⟩ m L (Ret (.int .i64 (spanOf p s)) m L) := by
  unfold TCall
  refine TCallX.enter Try.func83 rfl 20 rfl ?_
  repeat (first|refine q1 ?_|refine q2 ?_|refine q3 ?_|refine q4 tab rfl rfl ?_|refine q5 ?_|refine q6 ?_|refine q7 ?_|refine q8 ?_|refine q9 ?_|refine q10 ?_|refine q11 ?_|refine q12 rfl ?_|refine q13 ?_|refine q14 ?_|refine q15 ?_|refine q16 rfl ?_|refine q17 rfl ?_)
  refine TC.loopK (ι := Nat) [0, 1] rfl (fun k => [(5, .int .i64 (k : Int))]) (fun _ => m) (fun _ => L) (fun k => k ≤ s.length ∧ spanOf p s = k + spanOf p (s.drop k)) (fun k => s.length - k) 0 (by repeat (first | exact trivial | refine And.intro rfl ?_)) rfl (by repeat (first | exact List.Sublist.refl _ | exact List.sublist_append_left _ _ | refine List.Sublist.cons_cons _ ?_ | refine List.Sublist.cons _ ?_)) ⟨Nat.zero_le _, by simp⟩ ?_
  rintro k ⟨hk, hI⟩
  repeat (first|refine q1 ?_|refine q2 ?_|refine q3 ?_|refine q4 tab rfl rfl ?_|refine q5 ?_|refine q6 ?_|refine q7 ?_|refine q8 ?_|refine q9 ?_|refine q10 ?_|refine q11 ?_|refine q12 rfl ?_|refine q13 ?_|refine q14 ?_|refine q15 ?_|refine q16 rfl ?_|refine q17 rfl ?_)
  (first | refine TO.splitP rfl rfl (fun h1 => ?_) (fun h1 => ?_) | refine TO.splitN rfl rfl (fun h1 => ?_) (fun h1 => ?_) | refine TO.split rfl rfl (fun h1 => ?_) (fun h1 => ?_))
  · repeat (first|refine q1 ?_|refine q2 ?_|refine q3 ?_|refine q4 tab rfl rfl ?_|refine q5 ?_|refine q6 ?_|refine q7 ?_|refine q8 ?_|refine q9 ?_|refine q10 ?_|refine q11 ?_|refine q12 rfl ?_|refine q13 ?_|refine q14 ?_|refine q15 ?_|refine q16 rfl ?_|refine q17 rfl ?_)
    have hlt : k < s.length := by omega
    have hx : s[k]? = some s[k] := by simp [hlt]
    refine TO.step rfl (OT.sidx tab k rfl rfl rfl rfl rfl rfl rfl hx ?_)
    repeat (first|refine q1 ?_|refine q2 ?_|refine q3 ?_|refine q4 tab rfl rfl ?_|refine q5 ?_|refine q6 ?_|refine q7 ?_|refine q8 ?_|refine q9 ?_|refine q10 ?_|refine q11 ?_|refine q12 rfl ?_|refine q13 ?_|refine q14 ?_|refine q15 ?_|refine q16 rfl ?_|refine q17 rfl ?_)
    refine TO.step rfl (OT.call (all := byteV s[k] :: cap) rfl rfl rfl rfl rfl (by rw [fl_eq]; rfl) hc.1 ((hc.2 s[k]).x ?_))
    rintro _ _ _ ⟨rfl, rfl, rfl⟩
    repeat (first|refine q1 ?_|refine q2 ?_|refine q3 ?_|refine q4 tab rfl rfl ?_|refine q5 ?_|refine q6 ?_|refine q7 ?_|refine q8 ?_|refine q9 ?_|refine q10 ?_|refine q11 ?_|refine q12 rfl ?_|refine q13 ?_|refine q14 ?_|refine q15 ?_|refine q16 rfl ?_|refine q17 rfl ?_)
    refine TC.cond rfl (fun h2 => ?_) (fun h2 => ?_)
    · repeat (first|refine q1 ?_|refine q2 ?_|refine q3 ?_|refine q4 tab rfl rfl ?_|refine q5 ?_|refine q6 ?_|refine q7 ?_|refine q8 ?_|refine q9 ?_|refine q10 ?_|refine q11 ?_|refine q12 rfl ?_|refine q13 ?_|refine q14 ?_|refine q15 ?_|refine q16 rfl ?_|refine q17 rfl ?_)
      refine TO.step rfl (OT.arith (r' := ((k + 1 : Nat) : Int)) rfl rfl rfl rfl rfl rfl rfl (by omega) ?_)
      repeat (first|refine q1 ?_|refine q2 ?_|refine q3 ?_|refine q4 tab rfl rfl ?_|refine q5 ?_|refine q6 ?_|refine q7 ?_|refine q8 ?_|refine q9 ?_|refine q10 ?_|refine q11 ?_|refine q12 rfl ?_|refine q13 ?_|refine q14 ?_|refine q15 ?_|refine q16 rfl ?_|refine q17 rfl ?_)
      refine ⟨k + 1, (by repeat (first | exact trivial | refine And.intro rfl ?_)), (by repeat (first | exact trivial | refine And.intro rfl ?_)), rfl, rfl, (by repeat (first | exact List.Sublist.refl _ | exact List.sublist_append_left _ _ | refine List.Sublist.cons_cons _ ?_ | refine List.Sublist.cons _ ?_)), ⟨by omega, ?_⟩, by omega⟩
      rw [hI, List.drop_eq_getElem_cons hlt, spanOf, spanOf, List.takeWhile_cons_of_pos h2]
      simp; omega
    · repeat (first|refine q1 ?_|refine q2 ?_|refine q3 ?_|refine q4 tab rfl rfl ?_|refine q5 ?_|refine q6 ?_|refine q7 ?_|refine q8 ?_|refine q9 ?_|refine q10 ?_|refine q11 ?_|refine q12 rfl ?_|refine q13 ?_|refine q14 ?_|refine q15 ?_|refine q16 rfl ?_|refine q17 rfl ?_)
      refine retQ_ret rfl (by repeat (first | exact List.Sublist.refl _ | exact List.sublist_append_left _ _ | refine List.Sublist.cons_cons _ ?_ | refine List.Sublist.cons _ ?_)) ⟨rfl, rfl, ?_⟩
      rw [hI, List.drop_eq_getElem_cons hlt, spanOf, List.takeWhile_cons_of_neg (by simp [h2])]
      simp
  · repeat (first|refine q1 ?_|refine q2 ?_|refine q3 ?_|refine q4 tab rfl rfl ?_|refine q5 ?_|refine q6 ?_|refine q7 ?_|refine q8 ?_|refine q9 ?_|refine q10 ?_|refine q11 ?_|refine q12 rfl ?_|refine q13 ?_|refine q14 ?_|refine q15 ?_|refine q16 rfl ?_|refine q17 rfl ?_)
    refine retQ_ret rfl (by repeat (first | exact List.Sublist.refl _ | exact List.sublist_append_left _ _ | refine List.Sublist.cons_cons _ ?_ | refine List.Sublist.cons _ ?_)) ⟨rfl, rfl, ?_⟩
    rw [hI, List.drop_eq_nil_of_le (by omega)]
    simp [spanOf]
end Go.Sep
