/-
  The law TypesMembers.
-/
import Derived.Test.YtlpcakplpnpaeaaB8
set_option linter.unusedVariables false
set_option linter.unusedSimpArgs false
namespace Go.Sep
open Go.Proofs
attribute [local irreducible] TC TO OT TCallX TCall DO DOt thenQ blockQ retQ At

theorem struct_ofD {l : List Decl} {a : Tree} (hkid : a.kind = 5 → a.kids.length = 1) : isStructD l (ofD l a) = isStructD l (ofK a) ∧ (isStructD l (ofK a) = true → ofD l a = ofK a) := by
  by_cases h5 : a.kind = 5
  · have ht : toStructD l a = isStructD l (kid0 a) := by rw [toStruct_kid (hkid h5), decide_eq_true h5]; rfl
    rw [ofD, ofK, if_pos h5, ht]
    cases hs : isStructD l (kid0 a) with
    | true => rw [if_pos rfl]; exact ⟨hs, fun _ => rfl⟩
    | false =>
      rw [if_neg (by simp)]
      refine ⟨?_, fun h => by cases h⟩
      rw [isStructD, decide_eq_false (by omega)]; rfl
  · have ht : toStructD l a = false := by rw [toStructD, decide_eq_false h5]; rfl
    rw [ofD, ofK, if_neg h5, ht, if_neg (by simp)]
    exact ⟨rfl, fun _ => rfl⟩

set_option maxHeartbeats 1600000 in
theorem fieldsOf_ref (a : Tree) (hkid : a.kind = 5 → a.kids.length = 1) (m : Mem) (L : List Item) (s : Sl) (l : List Decl) (hs : SlRep rDecl m s l) (h : HTree) (hr : TreeRep m h a) : TCall Try.prog 67 ⟨[s.v, treeV h]⟩ m L (MadeF m L (fieldsD l a)) := by
  obtain ⟨h1, h2, h3, h4⟩ := id hr
  obtain ⟨t1, t2⟩ := struct_ofD (l := l) hkid
  unfold TCall
  refine TCallX.enter Try.func67 rfl 25 rfl ?_
  repeat (first|refine q1 ?_|refine q3 ?_)
  refine TO.step rfl (OT.box rfl rfl rfl rfl rfl (fun b => ?_))
  refine TO.pureP tab rfl rfl ?_
  refine TO.nil ?_
  refine thenQ_n ?_
  refine TC.seq ?_
  refine TC.cutT (ι := HTree) [0, 3] rfl (fun _ => []) (fun _ => m) (fun x => .cells b 0 (treeC x) :: L) (fun x => TreeRep m x (ofD l a)) ?_ (fun x hx => ?_)
  · repeat (first|(first|refine q1 ?_|refine q3 ?_|refine q4 tab rfl rfl ?_)|(refine qs rfl (qz tab 0 rfl rfl rfl rfl rfl rfl ?_)))
    refine TO.step rfl (OT.call rfl rfl rfl rfl rfl rfl goes98 ((toStruct_ref a hkid _ _ s l hs h hr).x ?_));
    rintro _ _ _ ⟨rfl, rfl, rfl⟩
    repeat (first|refine q5 ?_|refine q6 ?_)
    refine TC.cond (t := toStructD l a) rfl (fun e1 => ?_) (fun e1 => ?_)
    · have e5 : a.kind = 5 := by
        rw [toStructD, Bool.and_eq_true] at e1
        exact of_decide_eq_true e1.1
      have hx0 : a.kids[0]? = some (kid0 a) := by rw [one_kid (hkid e5)]; rfl
      repeat (first|(first|refine q3 ?_|refine q4 tab rfl rfl ?_)|(refine qs rfl (ql tab 0 rfl rfl rfl rfl rfl rfl ?_)))
      refine TO.step rfl (OT.index tab rTree 0 h4 rfl rfl rfl rfl rfl (by first | rfl | omega) rfl hx0 ?_)
      rintro b' i' h' hrd hA
      (refine TO.step rfl (OT.loadA0 tab hA rfl rfl rfl rfl rfl ?_))
      skip
      (refine TO.step rfl (OT.storeL0 tab 0 rfl rfl rfl rfl rfl rfl rfl rfl ?_))
      repeat (first|refine q5 ?_|refine q6 ?_)
      exact ⟨h', (by repeat (exact trivial)), (by repeat (first|exact trivial|refine And.intro rfl ?_)), rfl, rfl, (by repeat (exact List.Sublist.refl _)), by rw [ofD, if_pos e1]; exact rTree_iff.1 hrd⟩
    · repeat (first|refine q6 ?_|refine q13 ?_)
      exact ⟨h, (by repeat (exact trivial)), (by repeat (first|exact trivial|refine And.intro rfl ?_)), rfl, rfl, (by repeat (exact List.Sublist.refl _)), by rw [ofD, if_neg (by rw [e1]; simp)]; exact hr⟩
  · have x2 := hx.name
    repeat (first|(first|refine q1 ?_|refine q3 ?_|refine q4 tab rfl rfl ?_)|(refine qs rfl (qz tab 0 rfl rfl rfl rfl rfl rfl ?_)))
    refine TO.step rfl (OT.call rfl rfl rfl rfl rfl rfl goes55 ((isStruct_ref (ofD l a) _ _ s l hs x hx).x ?_));
    rintro _ _ _ ⟨rfl, rfl, rfl⟩
    rw [t1]
    repeat (first|refine q4 tab rfl rfl ?_|refine q5 ?_|refine q6 ?_)
    refine TC.cond (t := !isStructD l (ofK a)) rfl (fun e1 => ?_) (fun e1 => ?_)
    · rw [Bool.not_eq_true'] at e1
      repeat (first|refine q1 ?_|refine q3 ?_|refine q4 tab rfl rfl ?_|refine q5 ?_|refine q6 ?_|refine q8 ?_|refine q15 ?_)
      refine retQ_ret rfl (L' := L) (by repeat (first|exact List.Sublist.refl _|refine List.Sublist.cons _ ?_)) ⟨Mem.le_refl _, rfl, ⟨none, 0, 0⟩, by rw [fieldsD, if_neg (by rw [e1]; simp)]; rfl, by rw [fieldsD, if_neg (by rw [e1]; simp)]; exact SlRep.nil _ _⟩
    · rw [Bool.not_eq_false'] at e1
      have hh : hasD l x.name = true := by
        have := e1
        rw [isStructD, Bool.and_eq_true, Bool.and_eq_true, ← t2 e1, ← x2] at this
        exact this.2.1
      obtain ⟨j, w1, w2, w3⟩ := idxD_get hh
      repeat (first|(first|refine q1 ?_|refine q3 ?_|refine q4 tab rfl rfl ?_|refine q6 ?_|refine q13 ?_)|(refine qs rfl (ql tab 0 rfl rfl rfl rfl rfl rfl ?_)))
      refine TO.step rfl (OT.call rfl rfl rfl rfl rfl rfl goes26 ((find_ref _ _ s l x.name hs).x ?_));
      rintro _ _ _ ⟨rfl, rfl, rfl⟩
      skip
      refine TO.step rfl (OT.index tab rDecl j hs rfl rfl rfl rfl rfl (by first | rfl | omega) rfl w2 ?_)
      rintro b' i' hd hrd hA
      repeat (refine q4 tab rfl rfl ?_)
      (refine TO.step rfl (OT.loadA tab hA rfl rfl rfl rfl rfl ?_))
      repeat (first|refine q4 tab rfl rfl ?_|refine q5 ?_|refine q6 ?_|refine q15 ?_)
      refine retQ_ret rfl (L' := L) (by repeat (first|exact List.Sublist.refl _|refine List.Sublist.cons _ ?_)) ⟨Mem.le_refl _, rfl, hd.fields, by rw [fieldsD, if_pos e1]; rfl, by rw [fieldsD, if_pos e1, ← t2 e1, ← x2]; exact hrd.fields⟩

set_option maxHeartbeats 1600000 in
theorem fields_def (a : Tree) (m : Mem) (L : List Item) (s : Sl) (l : List Decl) (hs : SlRep rDecl m s l) (hS : TblS l) (h : HTree) (hr : TreeRep m h a) (hB : a.bulk ≤ 1048576) : TCall Try.prog 31 ⟨[s.v, treeV h]⟩ m L (MadeF m L (fieldsO l a)) := by
  unfold TCall
  refine TCallX.enter Try.func31 rfl 19 rfl ?_
  repeat (first|refine q1 ?_|refine q3 ?_)
  refine TO.step rfl (OT.box rfl rfl rfl rfl rfl (fun b => ?_))
  repeat (first|refine q1 ?_|refine q3 ?_|refine q4 tab rfl rfl ?_|refine q5 ?_|refine q6 ?_)
  refine TO.step rfl (OT.call rfl rfl rfl rfl rfl rfl goes19 ((sound_def m _ s l hs hS).x ?_));
  rintro _ _ _ ⟨rfl, rfl, rfl⟩
  repeat (refine q4 tab rfl rfl ?_)
  (refine TO.splitN rfl rfl (fun e1 => ?_) (fun e1 => ?_))
  · rw [fieldsO, if_neg (by rw [okD_one, decide_eq_false e1]; simp)]
    repeat (first|refine q1 ?_|refine q3 ?_|refine q4 tab rfl rfl ?_|refine q5 ?_|refine q6 ?_|refine q8 ?_|refine q15 ?_|refine q16 rfl ?_)
    refine retQ_ret rfl (L' := L) (by repeat (first|exact List.Sublist.refl _|refine List.Sublist.cons _ ?_)) ⟨Mem.le_refl _, rfl, ⟨none, 0, 0⟩, rfl, SlRep.nil _ _⟩
  · repeat ((refine qs rfl (qz tab 0 rfl rfl rfl rfl rfl rfl ?_)))
    refine TO.step rfl (OT.call rfl rfl rfl rfl rfl rfl goes42 ((isSound_ref a m _ h hr hB).x ?_));
    rintro _ _ _ ⟨rfl, rfl, rfl⟩
    repeat (first|refine q4 tab rfl rfl ?_|refine q5 ?_|refine q6 ?_)
    refine TC.cond (t := !a.sound) rfl (fun e2 => ?_) (fun e2 => ?_)
    · rw [Bool.not_eq_true'] at e2
      rw [fieldsO, if_neg (by rw [okD_one, e2]; simp)]
      repeat (first|refine q1 ?_|refine q3 ?_|refine q4 tab rfl rfl ?_|refine q5 ?_|refine q6 ?_|refine q8 ?_|refine q15 ?_)
      refine retQ_ret rfl (L' := L) (by repeat (first|exact List.Sublist.refl _|refine List.Sublist.cons _ ?_)) ⟨Mem.le_refl _, rfl, ⟨none, 0, 0⟩, rfl, SlRep.nil _ _⟩
    · rw [Bool.not_eq_false'] at e2
      rw [fieldsO, if_pos (by rw [okD_one, e2, decide_eq_true e1]; rfl)]
      repeat (first|(first|refine q1 ?_|refine q3 ?_|refine q4 tab rfl rfl ?_|refine q6 ?_|refine q13 ?_)|(refine qs rfl (qz tab 0 rfl rfl rfl rfl rfl rfl ?_)))
      refine TO.step rfl (OT.call rfl rfl rfl rfl rfl rfl goes67 ((fieldsOf_ref a (sound_kids e2) _ _ s l hs h hr).x ?_));
      rintro _ m2 _ ⟨hm2, rfl, t, rfl, hrt⟩
      repeat (first|refine q4 tab rfl rfl ?_|refine q5 ?_|refine q6 ?_|refine q15 ?_)
      refine retQ_ret rfl (L' := L) (by repeat (first|exact List.Sublist.refl _|refine List.Sublist.cons _ ?_)) ⟨hm2, rfl, t, rfl, hrt⟩

set_option maxHeartbeats 1600000 in
theorem sameFields_ref (m : Mem) (L : List Item) (s t : Sl) (l : List Fld) (hs : SlRep rField m s l) (ht : SlRep rField m t l) : TCall Try.prog 32 ⟨[s.v, t.v]⟩ m L (Ret (.bool true) m L) := by
  have hl := hs.len
  have hl2 := ht.len
  have hsm := hs.small rfl
  unfold TCall
  refine TCallX.enter Try.func32 rfl 42 rfl ?_
  repeat (first|refine q1 ?_|refine q3 ?_|refine q4 tab rfl rfl ?_|refine q5 ?_|refine q6 ?_)
  refine TC.condN rfl (fun e0 => ?_) (fun e0 => ?_)
  · omega
  · repeat (first|refine q1 ?_|refine q2 ?_|refine q3 ?_|refine q4 tab rfl rfl ?_|refine q5 ?_|refine q6 ?_|refine q13 ?_)
    refine TC.loopK (ι := Nat) [0, 1] rfl (fun k => [(5, .int .i64 (k : Int))]) (fun _ => m) (fun _ => L) (fun k => k ≤ l.length) (fun k => l.length - k) 0 (by repeat (first|exact trivial|refine And.intro rfl ?_)) rfl (by repeat (exact List.Sublist.refl _)) (Nat.zero_le _) ?_
    rintro k hk
    repeat (first|refine q1 ?_|refine q3 ?_|refine q4 tab rfl rfl ?_|refine q5 ?_|refine q6 ?_)
    refine TC.condP rfl (fun h => ?_) (fun h => ?_)
    · have hlt : k < l.length := by omega
      have hx : l[k]? = some l[k] := by simp [hlt]
      repeat (first|refine q1 ?_|refine q2 ?_|refine q6 ?_|refine q13 ?_)
      refine TC.draw0 [] mixed 25 rfl ?_
      refine DO.pure tab (by repeat (first|exact Calm.ret|refine Calm.then ?_|refine Calm.block ?_)) (by kernel_rfl) [0, 1] (by kernel_rfl) rfl ?_
      refine DO.index tab rField 2 k hs (by repeat (first|exact Calm.ret|refine Calm.then ?_|refine Calm.block ?_)) (by kernel_rfl) (by kernel_rfl) rfl rfl rfl rfl rfl rfl rfl (by first | rfl | omega) rfl hx ?_
      rintro b1 i1 f1 r1 A1
      refine DO.pure tab (by repeat (first|exact Calm.ret|refine Calm.then ?_|refine Calm.block ?_)) (by kernel_rfl) [3] (by kernel_rfl) rfl ?_
      (refine DO.loadA tab 4 A1 (by repeat (first|exact Calm.ret|refine Calm.then ?_|refine Calm.block ?_)) (by kernel_rfl) (by kernel_rfl) rfl rfl rfl rfl rfl rfl rfl ?_)
      refine DO.pure tab (by repeat (first|exact Calm.ret|refine Calm.then ?_|refine Calm.block ?_)) (by kernel_rfl) [5, 6] (by kernel_rfl) rfl ?_
      refine DO.index tab rField 7 k ht (by repeat (first|exact Calm.ret|refine Calm.then ?_|refine Calm.block ?_)) (by kernel_rfl) (by kernel_rfl) rfl rfl rfl rfl rfl rfl rfl (by first | rfl | omega) rfl hx ?_
      rintro b2 i2 f2 r2 A2
      refine DO.pure tab (by repeat (first|exact Calm.ret|refine Calm.then ?_|refine Calm.block ?_)) (by kernel_rfl) [8] (by kernel_rfl) rfl ?_
      (refine DO.loadA tab 9 A2 (by repeat (first|exact Calm.ret|refine Calm.then ?_|refine Calm.block ?_)) (by kernel_rfl) (by kernel_rfl) rfl rfl rfl rfl rfl rfl rfl ?_)
      refine DO.pure tab (by repeat (first|exact Calm.ret|refine Calm.then ?_|refine Calm.block ?_)) (by kernel_rfl) [10, 11] (by kernel_rfl) rfl ?_
      (refine DO.splitN (d := 28) rfl (fun hg11 => ?_) (fun hg11 => ?_))
      refine DO.pure tab (by repeat (first|exact Calm.ret|refine Calm.then ?_|refine Calm.block ?_)) (by kernel_rfl) [12, 13, 14, 15, 16, 17, 18, 19, 20, 21, 22, 23, 24] (by kernel_rfl) rfl ?_
      (refine DO.nil0 (by kernel_rfl) ?_)
      rotate_left 1
      refine DO.pure tab (by repeat (first|exact Calm.ret|refine Calm.then ?_|refine Calm.block ?_)) (by kernel_rfl) [12, 13] (by kernel_rfl) rfl ?_
      refine DO.index tab rField 14 k hs (by repeat (first|exact Calm.ret|refine Calm.then ?_|refine Calm.block ?_)) (by kernel_rfl) (by kernel_rfl) rfl rfl rfl rfl rfl rfl rfl (by first | rfl | omega) rfl hx ?_
      rintro b3 i3 f3 r3 A3
      refine DO.pure tab (by repeat (first|exact Calm.ret|refine Calm.then ?_|refine Calm.block ?_)) (by kernel_rfl) [15] (by kernel_rfl) rfl ?_
      (refine DO.loadA tab 16 A3 (by repeat (first|exact Calm.ret|refine Calm.then ?_|refine Calm.block ?_)) (by kernel_rfl) (by kernel_rfl) rfl rfl rfl rfl rfl rfl rfl ?_)
      refine DO.pure tab (by repeat (first|exact Calm.ret|refine Calm.then ?_|refine Calm.block ?_)) (by kernel_rfl) [17, 18] (by kernel_rfl) rfl ?_
      refine DO.index tab rField 19 k ht (by repeat (first|exact Calm.ret|refine Calm.then ?_|refine Calm.block ?_)) (by kernel_rfl) (by kernel_rfl) rfl rfl rfl rfl rfl rfl rfl (by first | rfl | omega) rfl hx ?_
      rintro b4 i4 f4 r4 A4
      refine DO.pure tab (by repeat (first|exact Calm.ret|refine Calm.then ?_|refine Calm.block ?_)) (by kernel_rfl) [20] (by kernel_rfl) rfl ?_
      (refine DO.loadA tab 21 A4 (by repeat (first|exact Calm.ret|refine Calm.then ?_|refine Calm.block ?_)) (by kernel_rfl) (by kernel_rfl) rfl rfl rfl rfl rfl rfl rfl ?_)
      refine DO.run 22 rfl rfl (by kernel_rfl) rfl (OT.call rfl rfl rfl rfl rfl rfl goes13 ((equal_ref _ _ _ _ f3.type f4.type r3.type r4.type).x ?_))
      rintro _ _ _ ⟨rfl, rfl, rfl⟩; refine ⟨Mem.le_refl _, _, List.Perm.refl _, ?_⟩
      refine DO.pure tab (by repeat (first|exact Calm.ret|refine Calm.then ?_|refine Calm.block ?_)) (by kernel_rfl) [23, 24] (by kernel_rfl) rfl ?_
      (refine DO.nil0 (by kernel_rfl) ?_)
      rotate_left 1
      · exact absurd (r1.name.trans r2.name.symm) hg11
      · refine thenQ_n ?_
        rw [teq_refl]
        repeat (first|refine q3 ?_|refine q4 tab rfl rfl ?_|refine q6 ?_|refine q7 ?_|refine q13 ?_|refine q17 rfl ?_)
        refine TO.step rfl (OT.arith (r' := ((k + 1 : Nat) : Int)) rfl rfl rfl rfl rfl rfl rfl (by omega) ?_)
        repeat (first|refine q4 tab rfl rfl ?_|refine q5 ?_|refine q6 ?_)
        exact ⟨k + 1, (by repeat (first|exact trivial|refine And.intro rfl ?_)), (by repeat (first|exact trivial|refine And.intro rfl ?_)), rfl, rfl, (by repeat (exact List.Sublist.refl _)), by omega, by omega⟩
    · repeat (first|refine q1 ?_|refine q3 ?_|refine q4 tab rfl rfl ?_|refine q5 ?_|refine q6 ?_|refine q10 ?_|refine q11 ?_|refine q14 ?_|refine q15 ?_)
      refine retQ_ret rfl (by repeat (exact List.Sublist.refl _)) ⟨rfl, rfl, ?_⟩
      rfl

set_option maxHeartbeats 3200000 in
theorem typesMembers_law (a : Tree) (n : Str) (m : Mem) (L : List Item) (s : Sl) (l : List Decl) (hs : SlRep rDecl m s l) (hS : TblS l) (h : HTree) (hr : TreeRep m h a) (hB : a.bulk ≤ 1048576) : TCall Try.prog 9 ⟨[s.v, treeV h, strV n]⟩ m L (Ret (.bool true) m L) := by
  refine TCall.forget ?_
  unfold TCall
  refine TCallX.enter Try.func9 rfl 62 rfl ?_
  repeat (first|refine q1 ?_|refine q3 ?_)
  refine TO.step rfl (OT.box rfl rfl rfl rfl rfl (fun b => ?_))
  repeat (first|(first|refine q1 ?_|refine q3 ?_|refine q4 tab rfl rfl ?_|refine q5 ?_|refine q6 ?_)|(refine qs rfl (qz tab 0 rfl rfl rfl rfl rfl rfl ?_)))
  refine TO.step rfl (OT.call rfl rfl rfl rfl rfl rfl goes28 ((method_law a n m _ s l hs hS h hr hB).x ?_));
  rintro _ m1 _ ⟨hm1, rfl, h1, rfl, r1⟩
  generalize hmt : memT (methodsO l a) n = mt at *
  repeat (refine q4 tab rfl rfl ?_)
  refine TO.step rfl (OT.alloc tab rfl rfl rfl rfl (fun b7 => ?_))
  skip
  (refine TO.step rfl (OT.storeL0 tab 0 rfl rfl rfl rfl rfl rfl rfl rfl ?_))
  repeat (first|(first|refine q1 ?_|refine q3 ?_|refine q4 tab rfl rfl ?_|refine q5 ?_|refine q6 ?_)|(refine qs rfl (qz tab 1 rfl rfl rfl rfl rfl rfl ?_)))
  refine TO.step rfl (OT.call rfl rfl rfl rfl rfl rfl goes29 ((method_def a n m1 _ s l (hs.mono hm1) hS h (hr.mono hm1) hB).x ?_));
  rintro _ m2 _ ⟨hm2, rfl, h2, rfl, r2⟩
  rw [hmt] at r2
  generalize (memF (methodsO l a) n).isSome = mb at *
  repeat (refine q4 tab rfl rfl ?_)
  refine TO.step rfl (OT.alloc tab rfl rfl rfl rfl (fun b9 => ?_))
  skip
  (refine TO.step rfl (OT.storeL0 tab 0 rfl rfl rfl rfl rfl rfl rfl rfl ?_))
  repeat (first|(first|refine q1 ?_|refine q3 ?_|refine q4 tab rfl rfl ?_|refine q5 ?_|refine q6 ?_)|(refine qs rfl (qz tab 2 rfl rfl rfl rfl rfl rfl ?_)))
  refine TO.step rfl (OT.call rfl rfl rfl rfl rfl rfl goes30 ((fields_law a m2 _ s l ((hs.mono hm1).mono hm2) hS h ((hr.mono hm1).mono hm2) hB).x ?_));
  rintro _ m3 _ ⟨hm3, rfl, t1, rfl, r3⟩
  repeat (first|(first|refine q1 ?_|refine q3 ?_|refine q4 tab rfl rfl ?_|refine q5 ?_|refine q6 ?_)|(refine qs rfl (qz tab 2 rfl rfl rfl rfl rfl rfl ?_)))
  refine TO.step rfl (OT.call rfl rfl rfl rfl rfl rfl goes31 ((fields_def a m3 _ s l (((hs.mono hm1).mono hm2).mono hm3) hS h (((hr.mono hm1).mono hm2).mono hm3) hB).x ?_));
  rintro _ m4 _ ⟨hm4, rfl, t2, rfl, r4⟩
  generalize fieldsO l a = fo at *
  repeat (first|refine q1 ?_|refine q3 ?_|refine q4 tab rfl rfl ?_|refine q5 ?_|refine q6 ?_)
  refine TO.step rfl (OT.call rfl rfl rfl rfl rfl rfl goes12 ((awake_law _ _).x ?_));
  rintro _ _ _ ⟨rfl, rfl, rfl⟩
  repeat (refine q4 tab rfl rfl ?_)
  refine TO.step rfl (OT.eqBool tab rfl rfl rfl rfl rfl rfl ?_)
  rw [beq_self_eq_true]
  repeat (first|(refine q4 tab rfl rfl ?_)|(first|refine qs rfl (qz tab 0 rfl rfl rfl rfl rfl rfl ?_)|refine qs rfl (qz tab 1 rfl rfl rfl rfl rfl rfl ?_)))
  refine TO.step rfl (OT.call rfl rfl rfl rfl rfl rfl goes13 ((equal_ref _ _ _ _ h1 h2 (((r1.mono hm2).mono hm3).mono hm4) ((r2.mono hm3).mono hm4)).x ?_));
  rintro _ _ _ ⟨rfl, rfl, rfl⟩
  rw [teq_refl]
  repeat (refine q4 tab rfl rfl ?_)
  refine TO.step rfl (OT.eqBool tab rfl rfl rfl rfl rfl rfl ?_)
  rw [beq_self_eq_true]
  repeat (refine q4 tab rfl rfl ?_)
  refine TO.step rfl (OT.call rfl rfl rfl rfl rfl rfl goes32 ((sameFields_ref _ _ t1 t2 (fo.getD []) (r3.mono hm4) r4).x ?_));
  rintro _ _ _ ⟨rfl, rfl, rfl⟩
  repeat (first|refine q4 tab rfl rfl ?_|refine q5 ?_|refine q6 ?_|refine q15 ?_)
  refine retQ_ret rfl (L' := L) (by repeat (first|exact List.Sublist.refl _|refine List.Sublist.cons _ ?_)) ⟨Mem.le_trans hm1 (Mem.le_trans hm2 (Mem.le_trans hm3 hm4)), rfl, rfl⟩
end Go.Sep
