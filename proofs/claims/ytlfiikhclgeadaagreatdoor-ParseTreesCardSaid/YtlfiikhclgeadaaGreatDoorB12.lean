/- PrW8 -/
import Derived.Test.YtlfiikhclgeadaaGreatDoorB11
set_option linter.unusedVariables false
set_option linter.unusedSimpArgs false
namespace Go.Sep
open Go.Proofs
attribute [local irreducible] TC TO OT TCallX TCall DO DOt thenQ blockQ retQ At
section
variable {mb : Mem} {E : PE}
theorem isM_two {f : Ps.F} {k : Nat} {s t : Str} (h1 : Ps.isM s f k = true) (hne : s ≠ t) : Ps.isM t f k = false := by
 unfold Ps.isM at h1 ⊢
 cases hf : f k with
 | none => rfl
 | some x =>
  rw [hf] at h1
  simp only [Bool.and_eq_true, decide_eq_true_eq] at h1
  simp only [Bool.and_eq_false_iff, decide_eq_false_iff_not]
  exact .inr (by rw [h1.2]; exact hne)
set_option maxHeartbeats 4000000 in
theorem rstmt_rc {Yg Xg Br X' Y' Z' ST S : Ps.Pp Tree} (hYg : RC Tryz.prog mb E vTree 40 [E.v] false Yg) (hXg : RC Tryz.prog mb E vTree 127 [E.v] true Xg)
  (hX' : RC Tryz.prog mb E vTree 127 [E.v] true X') (hY' : RC Tryz.prog mb E vTree 40 [E.v] false Y') (hST : RC Tryz.prog mb E vTree 81 [E.v] false ST)
  (hS0 : RC Tryz.prog mb E vTree 108 [E.v] false S)
  (hBr : Br = Ps.branchP X' Y' Z' ∨ Br = Ps.dry) (hST1 : ∀ k, Ps.isM [123] E.f k = true → ST E.f k = Y' E.f k) (hST2 : ∀ k, Ps.isM [123] E.f k = false → Ps.isM [105, 102] E.f k = true → ST E.f k = Z' E.f k)
  (hYb : ∀ k, Ps.isM [123] E.f k = false → Y' E.f k = .bad k ∨ Y' E.f k = .out) :
  RC Tryz.prog mb E vTree 81 [E.v] false (Ps.peek (Ps.isM [123]) Yg (Ps.peek (Ps.isM [105, 102]) Br (Ps.tok [102, 111, 114] (Ps.forP Xg Yg) (Ps.bind S fun s => Ps.need [59] (Ps.ret s))))) := by
 refine RC.enter Tryz.func81 rfl 79 rfl fun m L k b h T hm0 hE hk hS hn => ?_
 replace hYg := hYg.up hm0
 replace hXg := hXg.up hm0
 replace hX' := hX'.up hm0
 replace hY' := hY'.up hm0
 replace hST := hST.up hm0
 replace hS0 := hS0.up hm0
 have hm : m ≤ m := Mem.le_refl _
 have hfew := hE.few
 repeat (first|refine q1 ?_|refine q3 ?_)
 refine TO.step rfl (OT.alloc tab rfl rfl rfl rfl (fun b2 => ?_)); refine TO.perm (List.Perm.swap _ _ _) ?_
 repeat (first|refine q1 ?_|refine q3 ?_|refine q4 tab rfl rfl ?_|refine q5 ?_|refine q6 ?_)
 refine TO.step rfl (OT.call rfl rfl rfl rfl rfl rfl goes77 ((now_law hE hk).x ?_));
 rintro _ _ _ ⟨rfl, rfl, rfl⟩
 repeat (first|refine q1 ?_|refine q2 ?_|refine q3 ?_|refine q4 tab rfl rfl ?_|refine q5 ?_|refine q6 ?_)
 rw [nowD_eq (by decide)]
 cases hb : (!b && Ps.isM [123] E.f k) with
 | true =>
  replace hS := (hS.peek_t hb).eq (Ps.bind_ret Yg).symm
  repeat (first|refine q1 ?_|refine q3 ?_|refine q4 tab rfl rfl ?_|refine q16 rfl ?_)
  refine TO.step rfl (OT.rcT (hYg) hm hS hn hE hk hm rfl rfl rfl rfl rfl rfl goes40 (fun x m2 a k b h hS hm hE hlex hk hrx => ?_))
  skip
  (refine TO.step rfl (OT.storeL0 tab 1 rfl rfl rfl rfl rfl rfl rfl rfl ?_))
  repeat (first|refine q5 ?_|refine q6 ?_|refine q8 ?_|refine q9 ?_|refine q15 ?_)
  refine retQ_ret_c1 tab 1 rfl rfl rfl rfl (L' := E.J k b h :: L) (by repeat (first|exact List.Sublist.refl _|refine List.Sublist.cons_cons _ ?_|refine List.Sublist.cons _ ?_)) ⟨a, k, b, h, [], hm, hk, ⟨x, rfl, rfl, hrx⟩, rfl, hS⟩
 | false =>
 replace hS := hS.peek_f hb
 repeat (first|refine q1 ?_|refine q3 ?_|refine q4 tab rfl rfl ?_|refine q5 ?_|refine q6 ?_|refine q17 rfl ?_)
 rw [nowD_eq (by decide)]
 clear hb
 cases hb : (!b && Ps.isM [105, 102] E.f k) with
 | true =>
  replace hS := hS.peek_t hb
  obtain ⟨rfl, hb'⟩ := takes_f hb
  rcases hBr with rfl | rfl
  ·unfold Ps.branchP at hS
   replace hS := hS.tok_t hb'
   replace hk := PE.isM_lt hb'
   repeat (first|refine q1 ?_|refine q3 ?_|refine q4 tab rfl rfl ?_|refine q16 rfl ?_)
   (refine qs rfl (ql tab 0 rfl rfl rfl rfl rfl rfl ?_))
   refine TO.step rfl (OT.arith (r' := ((k + 1 : Nat) : Int)) rfl rfl rfl rfl rfl rfl rfl (by omega) ?_)
   repeat (refine q4 tab rfl rfl ?_)
   refine TO.step rfl (OT.storeL (k := 1) tab 0 rfl rfl rfl rfl rfl rfl rfl rfl ?_)
   repeat (first|refine q1 ?_|refine q3 ?_|refine q4 tab rfl rfl ?_|refine q5 ?_|refine q6 ?_)
   refine TO.step rfl (OT.rcT (rcond_rc hX') hm hS hn hE hk hm rfl rfl rfl rfl rfl rfl goes107 (fun c m2 ct k b h hS hm hE hlec hk hrc => ?_))
   skip
   refine TO.step rfl (OT.alloc tab rfl rfl rfl rfl (fun b3 => ?_)); refine TO.perm (List.Perm.swap _ _ _) ?_
   skip
   (refine TO.step rfl (OT.storeL0 tab 1 rfl rfl rfl rfl rfl rfl rfl rfl ?_))
   replace hY' := hY'.up hm
   replace hST := hST.up hm
   have hmm : m2 ≤ m2 := Mem.le_refl _
   refine TO.nil ?_
   refine thenQ_n ?_
   refine TC.cut (ι := Sl × Tree × Mem × Nat × Bool × Bool × Nat) [0, 2] rfl (fun i => [(4, .pointer (some ⟨i.2.2.2.2.2.2, 0, none⟩))]) (fun i => i.2.2.1) (fun i => E.J i.2.2.2.1 i.2.2.2.2.1 i.2.2.2.2.2.1 :: .cells i.2.2.2.2.2.2 0 [.int .i64 25, strV [], .int .i64 0, i.1.v] :: tok i.1 4 :: .cells b2 0 [.int .i64 0, strV [], .int .i64 0, .slice none 0 0] :: L) (fun i => m2 ≤ i.2.2.1 ∧ E.Ok i.2.2.1 ∧ i.2.2.2.1 ≤ E.toks.length ∧ SlRep rTree i.2.2.1 i.1 [ct, i.2.1] ∧ Own i.1 ∧ RS E T i.2.2.2.2.1 i.2.2.2.1 i.2.2.2.2.2.1 false (Ps.tok [101, 108, 115, 101] (Ps.peek (Ps.isM [105, 102]) (Ps.bind Z' fun e => Ps.ret (.mk 25 [] 0 [ct, i.2.1, e])) (Ps.bind Y' fun e => Ps.ret (.mk 25 [] 0 [ct, i.2.1, e]))) (Ps.ret (.mk 25 [] 0 [ct, i.2.1])))) ?_ ?_
   ·skip
    refine TC.draw [6] mixed 7 rfl [.cells b3 0 (treeC c)] (E.J k b h :: .cells b2 0 [.int .i64 0, strV [], .int .i64 0, .slice none 0 0] :: L) (List.Perm.swap _ _ _) ?_
    refine DO.pure tab (by repeat (first|exact Calm.ret|refine Calm.then ?_|refine Calm.block ?_)) (by kernel_rfl) [1] (by kernel_rfl) rfl ?_
    refine DO.loadL (k := 0) tab 0 0 (by repeat (first|exact Calm.ret|refine Calm.then ?_|refine Calm.block ?_)) (by kernel_rfl) (by kernel_rfl) rfl rfl rfl rfl rfl rfl rfl rfl ?_
    refine DO.fork 2 [5] (by kernel_rfl) ⟨⟨_, rfl, rfl, rfl, ?_⟩, ⟨_, rfl, rfl, rfl, ?_⟩, trivial⟩
    ·skip
     refine OT.perm (List.Perm.swap _ _ _) (OT.rcT hY' hmm hS hn hE hk hm rfl rfl rfl rfl rfl rfl goes40 (fun y m3 a k b h hS hm hE hle2 hk hry => ?_))
     refine ⟨hle2, E.J k b h :: .cells b2 0 [.int .i64 0, strV [], .int .i64 0, .slice none 0 0] :: L, List.Perm.swap _ _ _, ?_⟩
     refine DO.fork 3 [5] (by kernel_rfl) ⟨⟨_, rfl, rfl, rfl, ?_⟩, ⟨_, rfl, rfl, rfl, ?_⟩, trivial⟩
     ·skip
      refine OT.litR tab rTree (hs := [c, y]) (l := [ct, a]) ⟨rTree_iff.2 (hrc.mono hle2), rTree_iff.2 hry, trivial⟩ rfl rfl rfl rfl rfl (by decide) (fun s m4 hle4 hs ho hc => ?_)
      refine ⟨hle4, _, List.Perm.refl _, ?_⟩
      refine DO.fork 4 [5] (by kernel_rfl) ⟨⟨_, rfl, rfl, rfl, ?_⟩, ⟨_, rfl, rfl, rfl, ?_⟩, trivial⟩
      ·refine OT.tokFo hc ho 4 (OT.node rfl rfl rfl rfl rfl rfl ?_)
       refine ⟨Mem.le_refl _, tok s 4 :: E.J k b h :: .cells b2 0 [.int .i64 0, strV [], .int .i64 0, .slice none 0 0] :: L, pfr1, ?_⟩
       refine DO.run 5 rfl rfl (by kernel_rfl) rfl ?_
       refine OT.alloc tab rfl rfl rfl rfl (fun b4 => ?_)
       refine ⟨Mem.le_refl _, .cells b4 0 [.int .i64 0, strV [], .int .i64 0, .slice none 0 0] :: (tok s 4 :: E.J k b h :: .cells b2 0 [.int .i64 0, strV [], .int .i64 0, .slice none 0 0] :: L), List.Perm.swap _ _ _, ?_⟩
       refine DO.tail ?_
       refine DOt.run 6 rfl rfl (by kernel_rfl) rfl ?_
       refine OT.storeL0 tab 1 rfl rfl rfl rfl rfl rfl rfl rfl ?_
       refine DOt.perm ((List.Perm.trans pfr3 (List.Perm.cons _ (List.Perm.trans pfr1 (List.Perm.cons _ pfr1))))) ?_
       refine DOt.nil (by kernel_rfl) ?_
       refine thenQ_n ?_
       exact ⟨(s, a, m4, k, b, h, b4), (by repeat (first|exact trivial|refine And.intro rfl ?_)), (by repeat (first|exact trivial|refine And.intro rfl ?_)), rfl, rfl, (by repeat (first|exact List.Sublist.refl _|refine List.Sublist.cons_cons _ ?_|refine List.Sublist.cons _ ?_)), Mem.le_trans hle2 hle4, hE.mono hle4, hk, hs, ho, hS⟩
      ·skip
       refine OT.alloc tab rfl rfl rfl rfl (fun b4 => ?_)
       refine ⟨Mem.le_refl _, .cells b4 0 [.int .i64 0, strV [], .int .i64 0, .slice none 0 0] :: (E.J k b h :: .cells b2 0 [.int .i64 0, strV [], .int .i64 0, .slice none 0 0] :: L), List.Perm.swap _ _ _, ?_⟩
       refine DO.run 4 rfl rfl (by kernel_rfl) rfl ?_
       refine OT.tokFo hc ho 4 (OT.node rfl rfl rfl rfl rfl rfl ?_)
       refine ⟨Mem.le_refl _, .cells b4 0 [.int .i64 0, strV [], .int .i64 0, .slice none 0 0] :: tok s 4 :: E.J k b h :: .cells b2 0 [.int .i64 0, strV [], .int .i64 0, .slice none 0 0] :: L, (List.Perm.trans pfr1 (List.Perm.cons _ pfr1)), ?_⟩
       refine DO.tail ?_
       refine DOt.run 6 rfl rfl (by kernel_rfl) rfl ?_
       refine OT.storeL0 tab 1 rfl rfl rfl rfl rfl rfl rfl rfl ?_
       refine DOt.perm ((List.Perm.trans pfr3 (List.Perm.cons _ (List.Perm.trans pfr1 (List.Perm.cons _ pfr1))))) ?_
       refine DOt.nil (by kernel_rfl) ?_
       refine thenQ_n ?_
       exact ⟨(s, a, m4, k, b, h, b4), (by repeat (first|exact trivial|refine And.intro rfl ?_)), (by repeat (first|exact trivial|refine And.intro rfl ?_)), rfl, rfl, (by repeat (first|exact List.Sublist.refl _|refine List.Sublist.cons_cons _ ?_|refine List.Sublist.cons _ ?_)), Mem.le_trans hle2 hle4, hE.mono hle4, hk, hs, ho, hS⟩
     ·skip
      refine OT.alloc tab rfl rfl rfl rfl (fun b4 => ?_)
      refine ⟨Mem.le_refl _, .cells b4 0 [.int .i64 0, strV [], .int .i64 0, .slice none 0 0] :: (E.J k b h :: .cells b2 0 [.int .i64 0, strV [], .int .i64 0, .slice none 0 0] :: L), List.Perm.swap _ _ _, ?_⟩
      refine DO.run 3 rfl rfl (by kernel_rfl) rfl ?_
      refine OT.litR tab rTree (hs := [c, y]) (l := [ct, a]) ⟨rTree_iff.2 (hrc.mono hle2), rTree_iff.2 hry, trivial⟩ rfl rfl rfl rfl rfl (by decide) (fun s m4 hle4 hs ho hc => ?_)
      refine ⟨hle4, _, List.Perm.refl _, ?_⟩
      refine DO.run 4 rfl rfl (by kernel_rfl) rfl ?_
      refine OT.tokFo hc ho 4 (OT.node rfl rfl rfl rfl rfl rfl ?_)
      refine ⟨Mem.le_refl _, .cells b4 0 [.int .i64 0, strV [], .int .i64 0, .slice none 0 0] :: tok s 4 :: E.J k b h :: .cells b2 0 [.int .i64 0, strV [], .int .i64 0, .slice none 0 0] :: L, (List.Perm.trans pfr1 (List.Perm.cons _ pfr1)), ?_⟩
      refine DO.tail ?_
      refine DOt.run 6 rfl rfl (by kernel_rfl) rfl ?_
      refine OT.storeL0 tab 1 rfl rfl rfl rfl rfl rfl rfl rfl ?_
      refine DOt.perm ((List.Perm.trans pfr3 (List.Perm.cons _ (List.Perm.trans pfr1 (List.Perm.cons _ pfr1))))) ?_
      refine DOt.nil (by kernel_rfl) ?_
      refine thenQ_n ?_
      exact ⟨(s, a, m4, k, b, h, b4), (by repeat (first|exact trivial|refine And.intro rfl ?_)), (by repeat (first|exact trivial|refine And.intro rfl ?_)), rfl, rfl, (by repeat (first|exact List.Sublist.refl _|refine List.Sublist.cons_cons _ ?_|refine List.Sublist.cons _ ?_)), Mem.le_trans hle2 hle4, hE.mono hle4, hk, hs, ho, hS⟩
    ·skip
     refine OT.alloc tab rfl rfl rfl rfl (fun b4 => ?_)
     refine ⟨Mem.le_refl _, .cells b4 0 [.int .i64 0, strV [], .int .i64 0, .slice none 0 0] :: (E.J k b h :: .cells b2 0 [.int .i64 0, strV [], .int .i64 0, .slice none 0 0] :: L), List.Perm.swap _ _ _, ?_⟩
     refine DO.run 2 rfl rfl (by kernel_rfl) rfl ?_
     refine OT.perm (pfr2) (OT.rcT hY' hmm hS hn hE hk hm rfl rfl rfl rfl rfl rfl goes40 (fun y m3 a k b h hS hm hE hle2 hk hry => ?_))
     refine ⟨hle2, .cells b4 0 [.int .i64 0, strV [], .int .i64 0, .slice none 0 0] :: E.J k b h :: .cells b2 0 [.int .i64 0, strV [], .int .i64 0, .slice none 0 0] :: L, (List.Perm.trans pfr1 (List.Perm.cons _ pfr1)), ?_⟩
     refine DO.run 3 rfl rfl (by kernel_rfl) rfl ?_
     refine OT.litR tab rTree (hs := [c, y]) (l := [ct, a]) ⟨rTree_iff.2 (hrc.mono hle2), rTree_iff.2 hry, trivial⟩ rfl rfl rfl rfl rfl (by decide) (fun s m4 hle4 hs ho hc => ?_)
     refine ⟨hle4, _, List.Perm.refl _, ?_⟩
     refine DO.run 4 rfl rfl (by kernel_rfl) rfl ?_
     refine OT.tokFo hc ho 4 (OT.node rfl rfl rfl rfl rfl rfl ?_)
     refine ⟨Mem.le_refl _, .cells b4 0 [.int .i64 0, strV [], .int .i64 0, .slice none 0 0] :: tok s 4 :: E.J k b h :: .cells b2 0 [.int .i64 0, strV [], .int .i64 0, .slice none 0 0] :: L, (List.Perm.trans pfr1 (List.Perm.cons _ pfr1)), ?_⟩
     refine DO.tail ?_
     refine DOt.run 6 rfl rfl (by kernel_rfl) rfl ?_
     refine OT.storeL0 tab 1 rfl rfl rfl rfl rfl rfl rfl rfl ?_
     refine DOt.perm ((List.Perm.trans pfr3 (List.Perm.cons _ (List.Perm.trans pfr1 (List.Perm.cons _ pfr1))))) ?_
     refine DOt.nil (by kernel_rfl) ?_
     refine thenQ_n ?_
     exact ⟨(s, a, m4, k, b, h, b4), (by repeat (first|exact trivial|refine And.intro rfl ?_)), (by repeat (first|exact trivial|refine And.intro rfl ?_)), rfl, rfl, (by repeat (first|exact List.Sublist.refl _|refine List.Sublist.cons_cons _ ?_|refine List.Sublist.cons _ ?_)), Mem.le_trans hle2 hle4, hE.mono hle4, hk, hs, ho, hS⟩
   ·rintro ⟨s, bt, m3, k, b, h, b4⟩ ⟨hm23, hE, hk, hs, ho, hS⟩
    simp only at hm23 hE hk hs ho hS
    replace hm := Mem.le_trans hm hm23
    replace hST := hST.up hm23
    show TC _ _ _ ((4, .pointer (some ⟨b4, 0, none⟩)) :: _) _ m3 (E.J k b h :: .cells b4 0 [.int .i64 25, strV [], .int .i64 0, s.v] :: tok s 4 :: .cells b2 0 [.int .i64 0, strV [], .int .i64 0, .slice none 0 0] :: L) _
    repeat (first|refine q1 ?_|refine q3 ?_|refine q4 tab rfl rfl ?_)
    refine TO.step rfl (OT.rtake (by decide) hS hE hk rfl rfl rfl rfl rfl rfl (fun hS hk => ?_) (fun hS => ?_))
    ·repeat (first|refine q1 ?_|refine q3 ?_|refine q4 tab rfl rfl ?_|refine q5 ?_|refine q6 ?_|refine q16 rfl ?_)
     refine TO.step rfl (OT.call rfl rfl rfl rfl rfl rfl goes77 ((now_law hE hk).x ?_));
     rintro _ _ _ ⟨rfl, rfl, rfl⟩
     repeat (refine q4 tab rfl rfl ?_)
     rw [nowD_eq (by decide)]
     cases hb5 : Ps.isM [105, 102] E.f (k + 1) with
     | true =>
      replace hS := hS.peek_t (by rw [hb5]; rfl)
      replace hS : RS E T false (k + 1) h false (Ps.bind ST fun e => Ps.ret (.mk 25 [] 0 [ct, bt, e])) := hS.to fun _ => by
       unfold Ps.bind
       rw [hST2 _ (isM_two hb5 (by decide)) hb5]
      rw [Bool.not_false, Bool.true_and]
      repeat (first|refine q4 tab rfl rfl ?_|refine q5 ?_|refine q6 ?_|refine q13 ?_|refine q17 rfl ?_)
      refine TC.draw [7] mixed 8 rfl [.cells b4 0 [.int .i64 25, strV [], .int .i64 0, s.v]] (E.J (k+1) false h :: tok s 4 :: .cells b2 0 [.int .i64 0, strV [], .int .i64 0, .slice none 0 0] :: L) (List.Perm.swap _ _ _) ?_
      refine DO.pure tab (by repeat (first|exact Calm.ret|refine Calm.then ?_|refine Calm.block ?_)) (by kernel_rfl) [0] (by kernel_rfl) rfl ?_
      (refine DO.loadL tab 1 0 (by repeat (first|exact Calm.ret|refine Calm.then ?_|refine Calm.block ?_)) (by kernel_rfl) (by kernel_rfl) rfl rfl rfl rfl rfl rfl rfl rfl ?_)
      refine DO.pure tab (by repeat (first|exact Calm.ret|refine Calm.then ?_|refine Calm.block ?_)) (by kernel_rfl) [2] (by kernel_rfl) rfl ?_
      refine DO.run 3 rfl rfl (by kernel_rfl) rfl ?_
      refine OT.perm (List.Perm.swap _ _ _) (OT.rcT (hST) (Mem.le_refl _) hS hn hE hk hm rfl rfl rfl rfl rfl rfl goes81 (fun x4 mA a4 k b h hS hm hE hleA hk hr4 => ?_)); refine ⟨hleA, E.J k b h :: tok s 4 :: .cells b2 0 [.int .i64 0, strV [], .int .i64 0, .slice none 0 0] :: L, List.Perm.swap _ _ _, ?_⟩
      refine DO.run 4 rfl rfl (by kernel_rfl) rfl ?_
      refine OT.litR tab rTree (hs := [x4]) (l := [a4]) ⟨rTree_iff.2 hr4, trivial⟩ rfl rfl rfl rfl rfl (by decide) (fun sB mB hleB hsB hoB hcB => ?_); refine ⟨hleB, _, List.Perm.refl _, ?_⟩
      refine DO.run 5 rfl rfl (by kernel_rfl) rfl ?_
      refine OT.append tab rTree 2 (hs.mono (Mem.le_trans hleA hleB)) ho hsB rfl rfl rfl rfl rfl rfl rfl (by simp only [List.length_append, List.length_cons, List.length_nil, rTree, mkR]; omega) (fun s4 mC hleC hs4 ho4 => ?_); refine ⟨hleC, E.J k b h :: tok s4 4 :: .cells b2 0 [.int .i64 0, strV [], .int .i64 0, .slice none 0 0] :: L, List.Perm.refl _, ?_⟩
      refine DO.pure tab (by repeat (first|exact Calm.ret|refine Calm.then ?_|refine Calm.block ?_)) (by kernel_rfl) [6] (by kernel_rfl) rfl ?_
      refine DO.tail ?_
      refine DOt.run 7 rfl rfl (by kernel_rfl) rfl ?_
      refine OT.storeL (k := 3) tab 0 rfl rfl rfl rfl rfl rfl rfl rfl ?_; refine DOt.perm (List.Perm.swap _ _ _) ?_
      refine DOt.nil (by kernel_rfl) ?_
      rotate_left 1
      replace hm := Mem.le_trans hm (Mem.le_trans hleB hleC)
      replace hE := hE.mono (Mem.le_trans hleB hleC)
      repeat (first|refine q1 ?_|refine q3 ?_|refine q6 ?_)
      (refine qs rfl (qz tab 1 rfl rfl rfl rfl rfl rfl ?_))
      skip
      refine TO.step rfl (OT.storeL0 tab 3 rfl rfl rfl rfl rfl rfl rfl rfl ?_)
      repeat (first|refine q5 ?_|refine q6 ?_|refine q8 ?_|refine q9 ?_|refine q15 ?_)
      refine retQ_ret_c1 tab 3 rfl rfl rfl rfl (L' := E.J k b h :: L) (by repeat (first|exact List.Sublist.refl _|refine List.Sublist.cons_cons _ ?_|refine List.Sublist.cons _ ?_)) ⟨.mk 25 [] 0 [ct, bt, a4], k, b, h, [], hm, hk, ⟨⟨25, [], 0, s4⟩, rfl, rfl, ⟨rfl, rfl, rfl, hs4⟩⟩, rfl, hS⟩
     | false =>
      replace hS := hS.peek_f (by rw [hb5]; rfl)
      rw [Bool.not_false, Bool.true_and]
      repeat (refine q4 tab rfl rfl ?_)
      refine TO.step rfl (OT.call rfl rfl rfl rfl rfl rfl goes77 ((now_law hE hk).x ?_));
      rintro _ _ _ ⟨rfl, rfl, rfl⟩
      repeat (first|refine q4 tab rfl rfl ?_|refine q5 ?_|refine q6 ?_)
      rw [nowD_eq (by decide)]
      cases hb6 : Ps.isM [123] E.f (k + 1) with
      | true =>
       replace hS : RS E T false (k + 1) h false (Ps.bind ST fun e => Ps.ret (.mk 25 [] 0 [ct, bt, e])) := hS.to fun _ => by
        unfold Ps.bind
        rw [hST1 _ hb6]
       rw [Bool.not_false, Bool.true_and]
       repeat (first|refine q6 ?_|refine q13 ?_|refine q17 rfl ?_)
       refine TC.draw [7] mixed 8 rfl [.cells b4 0 [.int .i64 25, strV [], .int .i64 0, s.v]] (E.J (k+1) false h :: tok s 4 :: .cells b2 0 [.int .i64 0, strV [], .int .i64 0, .slice none 0 0] :: L) (List.Perm.swap _ _ _) ?_
       refine DO.pure tab (by repeat (first|exact Calm.ret|refine Calm.then ?_|refine Calm.block ?_)) (by kernel_rfl) [0] (by kernel_rfl) rfl ?_
       (refine DO.loadL tab 1 0 (by repeat (first|exact Calm.ret|refine Calm.then ?_|refine Calm.block ?_)) (by kernel_rfl) (by kernel_rfl) rfl rfl rfl rfl rfl rfl rfl rfl ?_)
       refine DO.pure tab (by repeat (first|exact Calm.ret|refine Calm.then ?_|refine Calm.block ?_)) (by kernel_rfl) [2] (by kernel_rfl) rfl ?_
       refine DO.run 3 rfl rfl (by kernel_rfl) rfl ?_
       refine OT.perm (List.Perm.swap _ _ _) (OT.rcT (hST) (Mem.le_refl _) hS hn hE hk hm rfl rfl rfl rfl rfl rfl goes81 (fun x4 mA a4 k b h hS hm hE hleA hk hr4 => ?_)); refine ⟨hleA, E.J k b h :: tok s 4 :: .cells b2 0 [.int .i64 0, strV [], .int .i64 0, .slice none 0 0] :: L, List.Perm.swap _ _ _, ?_⟩
       refine DO.run 4 rfl rfl (by kernel_rfl) rfl ?_
       refine OT.litR tab rTree (hs := [x4]) (l := [a4]) ⟨rTree_iff.2 hr4, trivial⟩ rfl rfl rfl rfl rfl (by decide) (fun sB mB hleB hsB hoB hcB => ?_); refine ⟨hleB, _, List.Perm.refl _, ?_⟩
       refine DO.run 5 rfl rfl (by kernel_rfl) rfl ?_
       refine OT.append tab rTree 2 (hs.mono (Mem.le_trans hleA hleB)) ho hsB rfl rfl rfl rfl rfl rfl rfl (by simp only [List.length_append, List.length_cons, List.length_nil, rTree, mkR]; omega) (fun s4 mC hleC hs4 ho4 => ?_); refine ⟨hleC, E.J k b h :: tok s4 4 :: .cells b2 0 [.int .i64 0, strV [], .int .i64 0, .slice none 0 0] :: L, List.Perm.refl _, ?_⟩
       refine DO.pure tab (by repeat (first|exact Calm.ret|refine Calm.then ?_|refine Calm.block ?_)) (by kernel_rfl) [6] (by kernel_rfl) rfl ?_
       refine DO.tail ?_
       refine DOt.run 7 rfl rfl (by kernel_rfl) rfl ?_
       refine OT.storeL (k := 3) tab 0 rfl rfl rfl rfl rfl rfl rfl rfl ?_; refine DOt.perm (List.Perm.swap _ _ _) ?_
       refine DOt.nil (by kernel_rfl) ?_
       rotate_left 1
       replace hm := Mem.le_trans hm (Mem.le_trans hleB hleC)
       replace hE := hE.mono (Mem.le_trans hleB hleC)
       repeat (first|refine q1 ?_|refine q3 ?_|refine q6 ?_)
       (refine qs rfl (qz tab 1 rfl rfl rfl rfl rfl rfl ?_))
       skip
       refine TO.step rfl (OT.storeL0 tab 3 rfl rfl rfl rfl rfl rfl rfl rfl ?_)
       repeat (first|refine q5 ?_|refine q6 ?_|refine q8 ?_|refine q9 ?_|refine q15 ?_)
       refine retQ_ret_c1 tab 3 rfl rfl rfl rfl (L' := E.J k b h :: L) (by repeat (first|exact List.Sublist.refl _|refine List.Sublist.cons_cons _ ?_|refine List.Sublist.cons _ ?_)) ⟨.mk 25 [] 0 [ct, bt, a4], k, b, h, [], hm, hk, ⟨⟨25, [], 0, s4⟩, rfl, rfl, ⟨rfl, rfl, rfl, hs4⟩⟩, rfl, hS⟩
      | false =>
       have hT : T = .bad (k + 1) := by
        have h1 := (hS.1 rfl).2
        unfold Ps.bind at h1
        rcases hYb _ hb6 with h2 | h2
        ·rw [h2] at h1; exact h1
        ·rw [h2] at h1; exact absurd h1 hn
       rw [Bool.not_false, Bool.true_and]
       repeat (first|refine q1 ?_|refine q3 ?_|refine q4 tab rfl rfl ?_|refine q16 rfl ?_)
       refine TO.step rfl (OT.storeL (k := 2) tab 0 rfl rfl rfl rfl rfl rfl rfl rfl ?_)
       repeat (first|refine q1 ?_|refine q3 ?_|refine q5 ?_|refine q6 ?_)
       (refine qs rfl (qz tab 1 rfl rfl rfl rfl rfl rfl ?_))
       skip
       refine TO.step rfl (OT.storeL0 tab 3 rfl rfl rfl rfl rfl rfl rfl rfl ?_)
       repeat (first|refine q5 ?_|refine q6 ?_|refine q8 ?_|refine q9 ?_|refine q15 ?_)
       refine retQ_ret_c1 tab 3 rfl rfl rfl rfl (L' := E.J (k + 1) true h :: L) (by repeat (first|exact List.Sublist.refl _|refine List.Sublist.cons_cons _ ?_|refine List.Sublist.cons _ ?_)) ⟨.mk 25 [] 0 [ct, bt], k + 1, true, h, [], hm, hk, ⟨⟨25, [], 0, s⟩, rfl, rfl, ⟨rfl, rfl, rfl, hs⟩⟩, rfl, RS.bad hT⟩
    ·repeat (first|refine q1 ?_|refine q3 ?_|refine q5 ?_|refine q6 ?_|refine q13 ?_|refine q17 rfl ?_)
     (refine qs rfl (qz tab 1 rfl rfl rfl rfl rfl rfl ?_))
     skip
     refine TO.step rfl (OT.storeL0 tab 3 rfl rfl rfl rfl rfl rfl rfl rfl ?_)
     repeat (first|refine q5 ?_|refine q6 ?_|refine q8 ?_|refine q9 ?_|refine q15 ?_)
     refine retQ_ret_c1 tab 3 rfl rfl rfl rfl (L' := E.J k b h :: L) (by repeat (first|exact List.Sublist.refl _|refine List.Sublist.cons_cons _ ?_|refine List.Sublist.cons _ ?_)) ⟨.mk 25 [] 0 [ct, bt], k, b, h, [], hm, hk, ⟨⟨25, [], 0, s⟩, rfl, rfl, ⟨rfl, rfl, rfl, hs⟩⟩, rfl, hS⟩
  ·exact (hS.dry hn).elim
 | false =>
 replace hS := hS.peek_f hb
 repeat (first|refine q1 ?_|refine q3 ?_|refine q4 tab rfl rfl ?_|refine q5 ?_|refine q6 ?_|refine q17 rfl ?_)
 rw [nowD_eq (by decide)]
 clear hb
 cases hb : (!b && Ps.isM [102, 111, 114] E.f k) with
 | true =>
  obtain ⟨rfl, hb'⟩ := takes_f hb
  replace hS := hS.tok_t hb'
  replace hk := PE.isM_lt hb'
  unfold Ps.forP at hS
  repeat (first|refine q1 ?_|refine q3 ?_|refine q4 tab rfl rfl ?_|refine q16 rfl ?_)
  (refine qs rfl (ql tab 0 rfl rfl rfl rfl rfl rfl ?_))
  refine TO.step rfl (OT.arith (r' := ((k + 1 : Nat) : Int)) rfl rfl rfl rfl rfl rfl rfl (by omega) ?_)
  repeat (refine q4 tab rfl rfl ?_)
  refine TO.step rfl (OT.storeL (k := 1) tab 0 rfl rfl rfl rfl rfl rfl rfl rfl ?_)
  repeat (first|refine q1 ?_|refine q3 ?_|refine q4 tab rfl rfl ?_|refine q5 ?_|refine q6 ?_)
  refine TO.step rfl (OT.call rfl rfl rfl rfl rfl rfl goes77 ((now_law hE hk).x ?_));
  rintro _ _ _ ⟨rfl, rfl, rfl⟩
  repeat (first|refine q4 tab rfl rfl ?_|refine q5 ?_|refine q6 ?_)
  rw [nowD_eq (by decide)]
  clear hb
  cases hb : (!false && Ps.isM [123] E.f (k + 1)) with
  | true =>
   replace hS := hS.peek_t hb
   repeat (first|refine q1 ?_|refine q3 ?_|refine q4 tab rfl rfl ?_|refine q16 rfl ?_)
   refine TO.step rfl (OT.rcT (hYg) hm hS hn hE hk hm rfl rfl rfl rfl rfl rfl goes40 (fun x m2 a k b h hS hm hE hlex hk hrx => ?_))
   refine TO.step rfl (OT.litR tab rTree (hs := [x]) (l := [a]) ⟨rTree_iff.2 hrx, trivial⟩ rfl rfl rfl rfl rfl (by decide) (fun s m3 hle3 hs ho hc => ?_))
   refine TO.step rfl (OT.node rfl rfl rfl rfl rfl rfl ?_)
   skip
   (refine TO.step rfl (OT.storeL0 tab 1 rfl rfl rfl rfl rfl rfl rfl rfl ?_))
   repeat (first|refine q5 ?_|refine q6 ?_|refine q8 ?_|refine q9 ?_|refine q15 ?_)
   refine retQ_ret_c1 tab 1 rfl rfl rfl rfl (L' := E.J k b h :: L) (by repeat (first|exact List.Sublist.refl _|refine List.Sublist.cons_cons _ ?_|refine List.Sublist.cons _ ?_)) ⟨.mk 26 [] 0 [a], k, b, h, [], Mem.le_trans hm hle3, hk, ⟨⟨26, [], 0, s⟩, rfl, rfl, ⟨rfl, rfl, rfl, hs⟩⟩, rfl, hS⟩
  | false =>
   replace hS := hS.peek_f hb
   repeat (first|refine q1 ?_|refine q3 ?_|refine q4 tab rfl rfl ?_|refine q6 ?_|refine q13 ?_|refine q17 rfl ?_)
   refine TO.step rfl (OT.rcT (rcond_rc hXg) hm hS hn hE hk hm rfl rfl rfl rfl rfl rfl goes107 (fun c m2 ct k b h hS hm hE hlec hk hrc => ?_))
   skip
   refine TO.step rfl (OT.alloc tab rfl rfl rfl rfl (fun b5 => ?_)); refine TO.perm (List.Perm.swap _ _ _) ?_
   skip
   (refine TO.step rfl (OT.storeL0 tab 1 rfl rfl rfl rfl rfl rfl rfl rfl ?_))
   replace hYg := hYg.up hm
   repeat (first|refine q1 ?_|refine q5 ?_|refine q6 ?_)
   refine TC.draw [5] mixed 6 rfl [.cells b5 0 (treeC c), .cells b2 0 [.int .i64 0, strV [], .int .i64 0, .slice none 0 0]] (E.J k b h :: L) ((List.Perm.trans pfr1 (List.Perm.cons _ pfr1))) ?_
   (refine DO.loadL (k := 0) tab 0 0 (by repeat (first|exact Calm.ret|refine Calm.then ?_|refine Calm.block ?_)) (by kernel_rfl) (by kernel_rfl) rfl rfl rfl rfl rfl rfl rfl rfl ?_)
   refine DO.pure tab (by repeat (first|exact Calm.ret|refine Calm.then ?_|refine Calm.block ?_)) (by kernel_rfl) [1] (by kernel_rfl) rfl ?_
   refine DO.run 2 rfl rfl (by kernel_rfl) rfl ?_
   refine OT.perm (pfr2) (OT.rcT hYg (Mem.le_refl _) hS hn hE hk hm rfl rfl rfl rfl rfl rfl goes40 (fun y m3 a k b h hS hm hE hle2 hk hry => ?_)); refine ⟨hle2, E.J k b h :: L, (List.Perm.trans pfr1 (List.Perm.cons _ pfr1)), ?_⟩
   refine DO.run 3 rfl rfl (by kernel_rfl) rfl ?_
   refine OT.litR tab rTree (hs := [c, y]) (l := [ct, a]) ⟨rTree_iff.2 (hrc.mono hle2), rTree_iff.2 hry, trivial⟩ rfl rfl rfl rfl rfl (by decide) (fun s m4 hle4 hs ho hc => ?_); refine ⟨hle4, _, List.Perm.refl _, ?_⟩
   refine DO.run 4 rfl rfl (by kernel_rfl) rfl ?_
   refine OT.node rfl rfl rfl rfl rfl rfl ?_; refine ⟨Mem.le_refl _, _, List.Perm.refl _, ?_⟩
   refine DO.tail ?_
   refine DOt.run 5 rfl rfl (by kernel_rfl) rfl ?_
   refine OT.storeL0 tab 1 rfl rfl rfl rfl rfl rfl rfl rfl ?_; refine DOt.perm ((List.Perm.trans pfr2 (List.Perm.cons _ pfr1))) ?_
   refine DOt.nil (by kernel_rfl) ?_
   rotate_left 1
   repeat (first|refine q6 ?_|refine q8 ?_|refine q9 ?_|refine q15 ?_)
   refine retQ_ret_c1 tab 1 rfl rfl rfl rfl (L' := E.J k b h :: L) (by repeat (first|exact List.Sublist.refl _|refine List.Sublist.cons_cons _ ?_|refine List.Sublist.cons _ ?_)) ⟨.mk 26 [] 0 [ct, a], k, b, h, [], Mem.le_trans hm hle4, hk, ⟨⟨26, [], 0, s⟩, rfl, rfl, ⟨rfl, rfl, rfl, hs⟩⟩, rfl, hS⟩
 | false =>
 replace hS := hS.tok_f hb
 repeat (first|refine q1 ?_|refine q3 ?_|refine q4 tab rfl rfl ?_|refine q6 ?_|refine q7 ?_|refine q13 ?_|refine q17 rfl ?_)
 refine TO.step rfl (OT.rcT (hS0) hm hS hn hE hk hm rfl rfl rfl rfl rfl rfl goes108 (fun x m2 a k b h hS hm hE hlex hk hrx => ?_))
 skip
 refine TO.step rfl (OT.alloc tab rfl rfl rfl rfl (fun b6 => ?_)); refine TO.perm (List.Perm.swap _ _ _) ?_
 skip
 (refine TO.step rfl (OT.storeL0 tab 1 rfl rfl rfl rfl rfl rfl rfl rfl ?_))
 repeat (first|refine q1 ?_|refine q3 ?_|refine q4 tab rfl rfl ?_|refine q5 ?_|refine q6 ?_)
 refine TO.step rfl (OT.rneed (by decide) hS hE hk rfl rfl rfl rfl rfl rfl (fun _ b k hS hk => ?_))
 repeat (first|refine q1 ?_|refine q3 ?_|refine q5 ?_|refine q6 ?_)
 (refine qs rfl (qz tab 1 rfl rfl rfl rfl rfl rfl ?_))
 skip
 refine TO.step rfl (OT.storeL0 tab 2 rfl rfl rfl rfl rfl rfl rfl rfl ?_)
 repeat (first|refine q5 ?_|refine q6 ?_|refine q15 ?_)
 refine retQ_ret_c1 tab 2 rfl rfl rfl rfl (L' := E.J k b h :: L) (by repeat (first|exact List.Sublist.refl _|refine List.Sublist.cons_cons _ ?_|refine List.Sublist.cons _ ?_)) ⟨a, k, b, h, [], hm, hk, ⟨x, rfl, rfl, hrx⟩, rfl, hS⟩
end
end Go.Sep


/- PrClimb -/
set_option linter.unusedVariables false
set_option linter.unusedSimpArgs false
namespace Go.Ps
open Go.Sep (Tree Str)
variable {β : Type}
def opsAt (l : Nat) : List Str := (levels[l]?).getD []
theorem levels_drop {l : Nat} (h : l < 5) : levels.drop l = opsAt l :: levels.drop (l + 1) := by
 have hl : l < levels.length := h
 rw [List.drop_eq_getElem_cons hl]
 unfold opsAt
 rw [List.getElem?_eq_getElem hl]; rfl
def BL (N : Nat) (U : Pp Tree) (j : Nat) : Pp Tree := binL N U (levels.drop j)
theorem BL_five (N : Nat) (U : Pp Tree) : BL N U 5 = U := rfl
theorem BL_step (N : Nat) (U : Pp Tree) {j : Nat} (h : j < 5) : BL N U j = bind (BL N U (j + 1)) (loopB N (opsAt j) (BL N U (j + 1))) := by
 unfold BL; rw [levels_drop h]; rfl
def pend (N : Nat) (U : Pp Tree) (j : Nat) (g : Tree → Pp β) : Nat → Nat → Tree → Pp β
 | 0, _ => g
 | d + 1, M => fun n => bind (loopB M (opsAt (j + d)) (BL N U (j + d + 1)) n) (pend N U j g d N)
theorem pend_shift (N : Nat) (U : Pp Tree) (j : Nat) (g : Tree → Pp β) : ∀ d, pend N U (j + 1) (pend N U j g 1 N) d N = pend N U j g (d + 1) N
 | 0 => rfl
 | d + 1 => by
  have h := pend_shift N U j g d
  funext n
  show bind (loopB N (opsAt (j + 1 + d)) (BL N U (j + 1 + d + 1)) n) (pend N U (j + 1) (pend N U j g 1 N) d N) = bind (loopB N (opsAt (j + (d + 1))) (BL N U (j + (d + 1) + 1)) n) (pend N U j g (d + 1) N)
  rw [h, show j + 1 + d = j + (d + 1) by omega]
theorem BL_pend (N : Nat) (U : Pp Tree) : ∀ (d j : Nat) (g : Tree → Pp β), j + d = 5 → bind (BL N U j) g = bind U (pend N U j g d N)
 | 0, j, g, h => by
  obtain rfl : j = 5 := by omega
  rw [BL_five]; rfl
 | d + 1, j, g, h => by
  rw [BL_step N U (by omega), bind_assoc]
  have := BL_pend N U d (j + 1) (pend N U j g 1 N) (by omega)
  rw [pend_shift] at this
  exact this
def NoOp (f : F) (k l : Nat) : Prop := ∀ l', l ≤ l' → l' < 5 → (opsAt l').find? (fun s => isM s f k) = none
theorem pend_step {N : Nat} {U : Pp Tree} {j : Nat} {g : Tree → Pp β} {f : F} {k : Nat} {T : Res β} (hn : T ≠ .out) : ∀ (d M : Nat) (n : Tree), j + d ≤ 5 → M ≤ N → NoOp f k (j + d) → T = pend N U j g d M n f k →
  (NoOp f k j ∧ T = g n f k) ∨ ∃ l w M', j ≤ l ∧ l < j + d ∧ (opsAt l).find? (fun s => isM s f k) = some w ∧ M' ≤ N ∧ T = bind (BL N U (l + 1)) (fun m => pend N U j g (l - j + 1) M' (binT w n m)) f (k + 1) ∧ (l - j + 1 < d ∨ (l - j + 1 = d ∧ M' < M))
 | 0, M, n, hd, hM, hno, hT => .inl ⟨hno, hT⟩
 | d + 1, M, n, hd, hM, hno, hT => by
  cases M with
  | zero => exact absurd hT hn
  | succ M =>
   have hT' : T = bind (oneOf (opsAt (j + d)) (fun op => bind (BL N U (j + d + 1)) fun m => loopB M (opsAt (j + d)) (BL N U (j + d + 1)) (binT op n m)) (ret n)) (pend N U j g d N) f k := hT
   unfold oneOf at hT'
   cases hf : (opsAt (j + d)).find? (fun s => isM s f k) with
   | none =>
    unfold bind at hT'
    simp only [hf] at hT'
    have hno' : NoOp f k (j + d) := fun l' h1 h2 => by
     rcases Nat.lt_or_eq_of_le h1 with h3 | h3
     ·exact hno l' (by omega) h2
     ·rw [← h3]; exact hf
    rcases pend_step hn d N n (by omega) (Nat.le_refl _) hno' hT' with h | ⟨l, w, M', h1, h2, h3, h4, h5, h6⟩
    ·exact .inl h
    ·exact .inr ⟨l, w, M', h1, by omega, h3, h4, h5, .inl (by omega)⟩
   | some w =>
    refine .inr ⟨j + d, w, M, by omega, by omega, hf, by omega, ?_, .inr ⟨by omega, by omega⟩⟩
    rw [show j + d - j + 1 = d + 1 by omega]
    show T = bind (BL N U (j + d + 1)) (fun m => bind (loopB M (opsAt (j + d)) (BL N U (j + d + 1)) (binT w n m)) (pend N U j g d N)) f (k + 1)
    rw [← bind_assoc]
    unfold bind at hT' ⊢
    simp only [hf] at hT'
    exact hT'
theorem loop_ends {f : F} {ops : List Str} {X : Pp Tree} {H : Nat → Prop} (hX : ∀ k a k', X f k = .ok a k' → H k') : ∀ (M : Nat) (n : Tree) (k : Nat) (a : Tree) (k' : Nat), H k → loopB M ops X n f k = .ok a k' → ops.find? (fun s => isM s f k') = none ∧ H k'
 | 0, n, k, a, k', _, h => by cases h
 | M + 1, n, k, a, k', hk, h => by
  have h' : oneOf ops (fun op => bind X fun m => loopB M ops X (binT op n m)) (ret n) f k = .ok a k' := h
  unfold oneOf at h'
  cases hf : ops.find? (fun s => isM s f k) with
  | none =>
   simp only [hf] at h'
   injection h' with _ h'
   subst h'
   exact ⟨hf, hk⟩
  | some w =>
   simp only [hf] at h'
   unfold bind at h'
   cases hx : X f (k + 1) with
   | ok m k1 =>
    simp only [hx] at h'
    exact loop_ends hX M _ k1 a k' (hX _ _ _ hx) h'
   | bad k1 => simp only [hx] at h'; cases h'
   | out => simp only [hx] at h'; cases h'
theorem BL_ends {N : Nat} {U : Pp Tree} {f : F} : ∀ (d j : Nat), j + d = 5 → ∀ k a k', BL N U j f k = .ok a k' → NoOp f k' j
 | 0, j, h, k, a, k', hk => fun l h1 h2 => by omega
 | d + 1, j, h, k, a, k', hk => by
  rw [BL_step N U (by omega)] at hk
  have ih := BL_ends (N := N) (U := U) (f := f) d (j + 1) (by omega)
  unfold bind at hk
  cases hx : BL N U (j + 1) f k with
  | ok m k1 =>
   simp only [hx] at hk
   obtain ⟨h1, h2⟩ := loop_ends (H := fun k => NoOp f k (j + 1)) ih N m k1 a k' (ih _ _ _ hx) hk
   intro l h3 h4
   rcases Nat.lt_or_eq_of_le h3 with h5 | h5
   ·exact h2 l h5 h4
   ·rw [← h5]; exact h1
  | bad k1 => simp only [hx] at hk; cases hk
  | out => simp only [hx] at hk; cases hk
end Go.Ps


/- PrW9 -/
set_option linter.unusedVariables false
set_option linter.unusedSimpArgs false
namespace Go.Sep
open Go.Proofs
attribute [local irreducible] TC TO OT TCallX TCall DO DOt thenQ blockQ retQ At
def levelD (s : Str) : Nat :=
 if s = [124, 124] then 1 else if s = [38, 38] then 2
 else if s = [61, 61] ∨ s = [33, 61] ∨ s = [60] ∨ s = [60, 61] ∨ s = [62] ∨ s = [62, 61] then 3
 else if s = [43] ∨ s = [45] then 4
 else if s = [42] ∨ s = [47] ∨ s = [37] then 5 else 0
theorem levelD_mem {l : Nat} (hl : l < 5) {s : Str} (hs : s ∈ Ps.opsAt l) : levelD s = l + 1 := by
 have : ∀ l : Fin 5, ∀ s ∈ Ps.opsAt l.val, levelD s = l.val + 1 := by decide
 exact this ⟨l, hl⟩ s hs
theorem levelD_pos {s : Str} (h : levelD s ≠ 0) : ∃ l, l < 5 ∧ levelD s = l + 1 ∧ s ∈ Ps.opsAt l := by
 unfold levelD at h ⊢
 by_cases h1 : s = [124, 124]
 ·exact ⟨0, by decide, by rw [if_pos h1], by rw [h1]; decide⟩
 rw [if_neg h1] at h ⊢
 by_cases h2 : s = [38, 38]
 ·exact ⟨1, by decide, by rw [if_pos h2], by rw [h2]; decide⟩
 rw [if_neg h2] at h ⊢
 by_cases h3 : s = [61, 61] ∨ s = [33, 61] ∨ s = [60] ∨ s = [60, 61] ∨ s = [62] ∨ s = [62, 61]
 ·refine ⟨2, by decide, by rw [if_pos h3], ?_⟩
  rcases h3 with h | h | h | h | h | h <;> (rw [h]; decide)
 rw [if_neg h3] at h ⊢
 by_cases h4 : s = [43] ∨ s = [45]
 ·refine ⟨3, by decide, by rw [if_pos h4], ?_⟩
  rcases h4 with h | h <;> (rw [h]; decide)
 rw [if_neg h4] at h ⊢
 by_cases h5 : s = [42] ∨ s = [47] ∨ s = [37]
 ·refine ⟨4, by decide, by rw [if_pos h5], ?_⟩
  rcases h5 with h | h | h <;> (rw [h]; decide)
 ·rw [if_neg h5] at h; exact absurd rfl h
theorem opsAt_ne {l : Nat} (hl : l < 5) {s : Str} (hs : s ∈ Ps.opsAt l) : s ≠ [] := by
 have : ∀ l : Fin 5, ∀ s ∈ Ps.opsAt l.val, s ≠ [] := by decide
 exact this ⟨l, hl⟩ s hs
theorem level_find {E : PE} {k l : Nat} {w : Str} (hl : l < 5) (h : (Ps.opsAt l).find? (fun s => Ps.isM s E.f k) = some w) : nowD E false k = w ∧ levelD (nowD E false k) = l + 1 := by
 have h1 := List.find?_some h
 have h2 := List.mem_of_find?_eq_some h
 have h3 := nowD_eq (E := E) (b := false) (k := k) (opsAt_ne hl h2)
 rw [Bool.not_false, Bool.true_and, h1] at h3
 have h4 : nowD E false k = w := of_decide_eq_true h3
 exact ⟨h4, by rw [h4]; exact levelD_mem hl h2⟩
theorem level_none {E : PE} {k j : Nat} (h : Ps.NoOp E.f k j) : levelD (nowD E false k) < j + 1 := by
 rcases Nat.lt_or_ge (levelD (nowD E false k)) (j + 1) with h1 | h1
 ·exact h1
 ·exfalso
  obtain ⟨l, h2, h3, h4⟩ := levelD_pos (s := nowD E false k) (by omega)
  have h5 := h l (by omega) h2
  rw [List.find?_eq_none] at h5
  have h6 := nowD_eq (E := E) (b := false) (k := k) (opsAt_ne h2 h4)
  rw [decide_eq_true rfl, Bool.not_false, Bool.true_and] at h6
  exact h5 _ h4 h6.symm
set_option maxHeartbeats 1000000 in
theorem level_law (m : Mem) (L : List Item) (s : Str) : TCall Tryz.prog 16 ⟨[strV s]⟩ m L (Ret (.int .i64 (levelD s : Int)) m L) := by
 unfold TCall levelD
 refine TCallX.enter Tryz.func16 rfl 22 rfl ?_
 repeat (first|refine q1 ?_|refine q2 ?_|refine q3 ?_|refine q4 tab rfl rfl ?_|refine q5 ?_|refine q6 ?_)
 refine TC.condP rfl (fun a1 => ?_) (fun a1 => ?_)
 ·skip
  subst a1
  repeat (first|refine q1 ?_|refine q3 ?_|refine q4 tab rfl rfl ?_|refine q5 ?_|refine q6 ?_|refine q8 ?_|refine q9 ?_|refine q15 ?_)
  refine retQ_ret rfl (by repeat (exact List.Sublist.refl _)) ⟨rfl, rfl, ?_⟩
  rfl
 repeat (first|refine q1 ?_|refine q3 ?_|refine q4 tab rfl rfl ?_|refine q5 ?_|refine q6 ?_)
 refine TC.condP rfl (fun a2 => ?_) (fun a2 => ?_)
 ·skip
  subst a2
  repeat (first|refine q1 ?_|refine q3 ?_|refine q4 tab rfl rfl ?_|refine q5 ?_|refine q6 ?_|refine q8 ?_|refine q9 ?_|refine q15 ?_)
  refine retQ_ret rfl (by repeat (exact List.Sublist.refl _)) ⟨rfl, rfl, ?_⟩
  rfl
 repeat (first|refine q1 ?_|refine q3 ?_|refine q4 tab rfl rfl ?_|refine q5 ?_|refine q6 ?_)
 refine TC.condP rfl (fun a3 => ?_) (fun a3 => ?_)
 ·skip
  subst a3
  repeat (first|refine q1 ?_|refine q3 ?_|refine q4 tab rfl rfl ?_|refine q5 ?_|refine q6 ?_|refine q8 ?_|refine q9 ?_|refine q13 ?_|refine q15 ?_|refine q16 rfl ?_)
  refine retQ_ret rfl (by repeat (exact List.Sublist.refl _)) ⟨rfl, rfl, ?_⟩
  rfl
 repeat (first|refine q1 ?_|refine q3 ?_|refine q4 tab rfl rfl ?_|refine q5 ?_|refine q6 ?_)
 refine TC.condP rfl (fun a4 => ?_) (fun a4 => ?_)
 ·skip
  subst a4
  repeat (first|refine q1 ?_|refine q3 ?_|refine q4 tab rfl rfl ?_|refine q5 ?_|refine q6 ?_|refine q8 ?_|refine q9 ?_|refine q13 ?_|refine q15 ?_|refine q16 rfl ?_)
  refine retQ_ret rfl (by repeat (exact List.Sublist.refl _)) ⟨rfl, rfl, ?_⟩
  rfl
 repeat (first|refine q1 ?_|refine q3 ?_|refine q4 tab rfl rfl ?_|refine q5 ?_|refine q6 ?_)
 refine TC.condP rfl (fun a5 => ?_) (fun a5 => ?_)
 ·skip
  subst a5
  repeat (first|refine q1 ?_|refine q3 ?_|refine q4 tab rfl rfl ?_|refine q5 ?_|refine q6 ?_|refine q8 ?_|refine q9 ?_|refine q13 ?_|refine q15 ?_|refine q16 rfl ?_)
  refine retQ_ret rfl (by repeat (exact List.Sublist.refl _)) ⟨rfl, rfl, ?_⟩
  rfl
 repeat (first|refine q1 ?_|refine q3 ?_|refine q4 tab rfl rfl ?_|refine q5 ?_|refine q6 ?_)
 refine TC.condP rfl (fun a6 => ?_) (fun a6 => ?_)
 ·skip
  subst a6
  repeat (first|refine q1 ?_|refine q3 ?_|refine q4 tab rfl rfl ?_|refine q5 ?_|refine q6 ?_|refine q8 ?_|refine q9 ?_|refine q13 ?_|refine q15 ?_|refine q16 rfl ?_)
  refine retQ_ret rfl (by repeat (exact List.Sublist.refl _)) ⟨rfl, rfl, ?_⟩
  rfl
 repeat (first|refine q1 ?_|refine q3 ?_|refine q4 tab rfl rfl ?_|refine q5 ?_|refine q6 ?_)
 refine TC.condP rfl (fun a7 => ?_) (fun a7 => ?_)
 ·skip
  subst a7
  repeat (first|refine q1 ?_|refine q3 ?_|refine q4 tab rfl rfl ?_|refine q5 ?_|refine q6 ?_|refine q8 ?_|refine q9 ?_|refine q13 ?_|refine q15 ?_|refine q16 rfl ?_)
  refine retQ_ret rfl (by repeat (exact List.Sublist.refl _)) ⟨rfl, rfl, ?_⟩
  rfl
 repeat (first|refine q3 ?_|refine q4 tab rfl rfl ?_|refine q5 ?_|refine q6 ?_)
 refine TC.condP rfl (fun a8 => ?_) (fun a8 => ?_)
 ·skip
  subst a8
  repeat (first|refine q1 ?_|refine q3 ?_|refine q4 tab rfl rfl ?_|refine q5 ?_|refine q6 ?_|refine q8 ?_|refine q9 ?_|refine q15 ?_)
  refine retQ_ret rfl (by repeat (exact List.Sublist.refl _)) ⟨rfl, rfl, ?_⟩
  rfl
 repeat (first|refine q1 ?_|refine q3 ?_|refine q4 tab rfl rfl ?_|refine q5 ?_|refine q6 ?_)
 refine TC.condP rfl (fun a9 => ?_) (fun a9 => ?_)
 ·skip
  subst a9
  repeat (first|refine q1 ?_|refine q3 ?_|refine q4 tab rfl rfl ?_|refine q5 ?_|refine q6 ?_|refine q8 ?_|refine q9 ?_|refine q13 ?_|refine q15 ?_|refine q16 rfl ?_)
  refine retQ_ret rfl (by repeat (exact List.Sublist.refl _)) ⟨rfl, rfl, ?_⟩
  rfl
 repeat (first|refine q3 ?_|refine q4 tab rfl rfl ?_|refine q5 ?_|refine q6 ?_)
 refine TC.condP rfl (fun a10 => ?_) (fun a10 => ?_)
 ·skip
  subst a10
  repeat (first|refine q1 ?_|refine q3 ?_|refine q4 tab rfl rfl ?_|refine q5 ?_|refine q6 ?_|refine q8 ?_|refine q9 ?_|refine q15 ?_)
  refine retQ_ret rfl (by repeat (exact List.Sublist.refl _)) ⟨rfl, rfl, ?_⟩
  rfl
 repeat (first|refine q1 ?_|refine q3 ?_|refine q4 tab rfl rfl ?_|refine q5 ?_|refine q6 ?_)
 refine TC.condP rfl (fun a11 => ?_) (fun a11 => ?_)
 ·skip
  subst a11
  repeat (first|refine q1 ?_|refine q3 ?_|refine q4 tab rfl rfl ?_|refine q5 ?_|refine q6 ?_|refine q8 ?_|refine q9 ?_|refine q13 ?_|refine q15 ?_|refine q16 rfl ?_)
  refine retQ_ret rfl (by repeat (exact List.Sublist.refl _)) ⟨rfl, rfl, ?_⟩
  rfl
 repeat (first|refine q1 ?_|refine q3 ?_|refine q4 tab rfl rfl ?_|refine q5 ?_|refine q6 ?_)
 refine TC.condP rfl (fun a12 => ?_) (fun a12 => ?_)
 ·skip
  subst a12
  repeat (first|refine q1 ?_|refine q3 ?_|refine q4 tab rfl rfl ?_|refine q5 ?_|refine q6 ?_|refine q8 ?_|refine q9 ?_|refine q13 ?_|refine q15 ?_|refine q16 rfl ?_)
  refine retQ_ret rfl (by repeat (exact List.Sublist.refl _)) ⟨rfl, rfl, ?_⟩
  rfl
 repeat (first|refine q3 ?_|refine q4 tab rfl rfl ?_|refine q5 ?_|refine q6 ?_)
 refine TC.condP rfl (fun a13 => ?_) (fun a13 => ?_)
 ·skip
  subst a13
  repeat (first|refine q1 ?_|refine q3 ?_|refine q4 tab rfl rfl ?_|refine q5 ?_|refine q6 ?_|refine q8 ?_|refine q9 ?_|refine q15 ?_)
  refine retQ_ret rfl (by repeat (exact List.Sublist.refl _)) ⟨rfl, rfl, ?_⟩
  rfl
 repeat (first|refine q1 ?_|refine q3 ?_|refine q4 tab rfl rfl ?_|refine q5 ?_|refine q6 ?_|refine q7 ?_|refine q13 ?_|refine q15 ?_)
 refine retQ_ret rfl (by repeat (exact List.Sublist.refl _)) ⟨rfl, rfl, ?_⟩
 simp [a1, a2, a3, a4, a5, a6, a7, a8, a9, a10, a11, a12, a13]
section
variable {mb : Mem} {E : PE} {h0 : Bool}
set_option maxHeartbeats 2000000 in
theorem rclimb_rc {U : Ps.Pp Tree} (hU : RC Tryz.prog mb E vTree 145 [E.v] h0 U) :
  ∀ d j : Nat, j + d = 5 → RC Tryz.prog mb E vTree 141 [E.v, .int .i64 ((j + 1 : Nat) : Int)] h0 (Ps.BL E.N U j) := by
 intro dd
 induction dd using Nat.strongRecOn with
 | _ dd ih =>
 intro j hj
 refine RC.enter Tryz.func141 rfl 40 rfl fun m L k b h T hm0 hE hk hS hn => ?_
 have ihj : ∀ l, j ≤ l → l < 5 → RC Tryz.prog m E vTree 141 [E.v, .int .i64 ((l + 1 + 1 : Nat) : Int)] h0 (Ps.BL E.N U (l + 1)) := fun l h1 h2 => (ih (5 - (l + 1)) (by omega) (l + 1) (by omega)).up hm0
 replace hU := hU.up hm0
 have hm : m ≤ m := Mem.le_refl _
 have hfew := hE.few
 replace hS : RS E T b k h h0 (Ps.bind U (Ps.pend E.N U j Ps.ret dd E.N)) := hS.eq (by rw [← Ps.BL_pend E.N U dd j Ps.ret hj, Ps.bind_ret])
 repeat (first|refine q1 ?_|refine q3 ?_)
 refine TO.step rfl (OT.alloc tab rfl rfl rfl rfl (fun b4 => ?_)); refine TO.perm (List.Perm.swap _ _ _) ?_
 repeat (first|refine q1 ?_|refine q3 ?_|refine q4 tab rfl rfl ?_|refine q5 ?_|refine q6 ?_)
 refine TO.step rfl (OT.rcT (hU) hm hS hn hE hk hm rfl rfl rfl rfl rfl rfl goes145 (fun x m1 a k b h hS hm hE hlex hk hrx => ?_))
 skip
 refine TO.step rfl (OT.alloc tab rfl rfl rfl rfl (fun b5 => ?_)); refine TO.perm (List.Perm.swap _ _ _) ?_
 skip
 (refine TO.step rfl (OT.storeL0 tab 1 rfl rfl rfl rfl rfl rfl rfl rfl ?_))
 repeat (first|refine q1 ?_|refine q2 ?_|refine q5 ?_|refine q6 ?_)
 refine TC.loopK (ι := HTree × Mem × Tree × Nat × Bool × Bool × Nat × Nat) [0, 1, 4, 5] rfl (fun _ => []) (fun x => x.2.1) (fun x => E.J x.2.2.2.1 x.2.2.2.2.1 x.2.2.2.2.2.1 :: .cells b5 0 (treeC x.1) :: .cells b4 0 [.int .i64 0, strV [], .int .i64 0, .slice none 0 0] :: L) (fun x => m ≤ x.2.1 ∧ E.Ok x.2.1 ∧ x.2.2.2.1 ≤ E.toks.length ∧ TreeRep x.2.1 x.1 x.2.2.1 ∧ j + x.2.2.2.2.2.2.1 ≤ 5 ∧ x.2.2.2.2.2.2.2 ≤ E.N ∧ RS E T x.2.2.2.2.1 x.2.2.2.1 x.2.2.2.2.2.1 h0 (Ps.pend E.N U j Ps.ret x.2.2.2.2.2.2.1 x.2.2.2.2.2.2.2 x.2.2.1) ∧ (x.2.2.2.2.1 = false → Ps.NoOp E.f x.2.2.2.1 (j + x.2.2.2.2.2.2.1))) (fun x => x.2.2.2.2.2.2.1 * (E.N + 1) + x.2.2.2.2.2.2.2) (x, m1, a, k, b, h, dd, E.N) (by repeat (exact trivial)) rfl (by repeat (exact List.Sublist.refl _)) ⟨hm, hE, hk, hrx, by simp only; omega, Nat.le_refl _, hS, fun _ l h1 h2 => by simp only at h1; omega⟩ ?_
 clear hS hk hE hm hrx
 rintro ⟨x, m2, a, k, b, h, d, M⟩ ⟨hm, hE, hk, hrx, hd, hM, hS, hno⟩
 simp only at hm hE hk hrx hd hM hS hno
 show TC _ _ _ _ _ m2 (E.J k b h :: .cells b5 0 (treeC x) :: .cells b4 0 [.int .i64 0, strV [], .int .i64 0, .slice none 0 0] :: L) _
 repeat (first|refine q1 ?_|refine q3 ?_|refine q4 tab rfl rfl ?_)
 (refine qs rfl (ql tab 0 rfl rfl rfl rfl rfl rfl ?_))
 cases b with
 | true =>
  replace hS := hS.any h (rest' := Ps.ret a)
  repeat (first|refine q1 ?_|refine q3 ?_|refine q4 tab rfl rfl ?_|refine q5 ?_|refine q6 ?_|refine q10 ?_|refine q11 ?_|refine q14 ?_|refine q17 rfl ?_)
  (refine qs rfl (qz tab 1 rfl rfl rfl rfl rfl rfl ?_))
  skip
  refine TO.step rfl (OT.storeL0 tab 2 rfl rfl rfl rfl rfl rfl rfl rfl ?_)
  repeat (first|refine q5 ?_|refine q6 ?_|refine q15 ?_)
  refine retQ_ret_c1 tab 2 rfl rfl rfl rfl (L' := E.J k true h :: L) (by repeat (first|exact List.Sublist.refl _|refine List.Sublist.cons_cons _ ?_|refine List.Sublist.cons _ ?_)) ⟨a, k, true, h, [], hm, hk, ⟨x, rfl, rfl, hrx⟩, rfl, hS⟩
 | false =>
 obtain ⟨rfl, hT⟩ := hS.1 rfl
 repeat (refine q4 tab rfl rfl ?_)
 refine TO.step rfl (OT.call rfl rfl rfl rfl rfl rfl goes77 ((now_law hE hk).x ?_));
 rintro _ _ _ ⟨rfl, rfl, rfl⟩
 skip
 refine TO.step rfl (OT.call rfl rfl rfl rfl rfl rfl goes16 ((level_law _ _ _).x ?_));
 rintro _ _ _ ⟨rfl, rfl, rfl⟩
 rcases Ps.pend_step hn d M a hd hM (hno rfl) hT with ⟨h1, h2⟩ | ⟨l, w, M', h1, h2, h3, h4, h5, h6⟩
 ·have h7 := level_none h1
  replace hS : RS E T false k h h (Ps.ret a) := RS.good h2
  repeat (first|refine q4 tab rfl rfl ?_|refine q5 ?_|refine q6 ?_)
  refine TC.condP rfl (fun hc => ?_) (fun hc => ?_)
  ·omega
  ·skip
   repeat (first|refine q1 ?_|refine q3 ?_|refine q6 ?_|refine q10 ?_|refine q11 ?_|refine q14 ?_)
   (refine qs rfl (qz tab 1 rfl rfl rfl rfl rfl rfl ?_))
   skip
   refine TO.step rfl (OT.storeL0 tab 2 rfl rfl rfl rfl rfl rfl rfl rfl ?_)
   repeat (first|refine q5 ?_|refine q6 ?_|refine q15 ?_)
   refine retQ_ret_c1 tab 2 rfl rfl rfl rfl (L' := E.J k false h :: L) (by repeat (first|exact List.Sublist.refl _|refine List.Sublist.cons_cons _ ?_|refine List.Sublist.cons _ ?_)) ⟨a, k, false, h, [], hm, hk, ⟨x, rfl, rfl, hrx⟩, rfl, hS⟩
 ·have hl : l < 5 := by omega
  obtain ⟨h7, h8⟩ := level_find hl h3
  have hk1 : k + 1 ≤ E.toks.length := PE.isM_lt (s := w) (by have h9 := List.find?_some h3; exact h9)
  have hX := (ihj l h1 hl).up hm
  have hno' := bind_out' h5 hn
  repeat (first|refine q4 tab rfl rfl ?_|refine q5 ?_|refine q6 ?_)
  refine TC.condP rfl (fun hc => ?_) (fun hc => ?_)
  ·repeat (first|refine q1 ?_|refine q2 ?_|refine q3 ?_|refine q4 tab rfl rfl ?_|refine q6 ?_|refine q13 ?_)
   refine TO.step rfl (OT.call rfl rfl rfl rfl rfl rfl goes77 ((now_law hE hk).x ?_));
   rintro _ _ _ ⟨rfl, rfl, rfl⟩
   repeat (first|refine q1 ?_|refine q3 ?_|refine q4 tab rfl rfl ?_|refine q5 ?_|refine q6 ?_)
   (refine qs rfl (ql tab 0 rfl rfl rfl rfl rfl rfl ?_))
   refine TO.step rfl (OT.arith (r' := ((k + 1 : Nat) : Int)) rfl rfl rfl rfl rfl rfl rfl (by omega) ?_)
   repeat (refine q4 tab rfl rfl ?_)
   refine TO.step rfl (OT.storeL (k := 1) tab 0 rfl rfl rfl rfl rfl rfl rfl rfl ?_)
   have hS' : RS E (Ps.BL E.N U (l + 1) E.f (k + 1)) false (k + 1) h h (Ps.bind (Ps.BL E.N U (l + 1)) Ps.ret) := RS.good (by rw [Ps.bind_ret])
   rw [h7] at h8 ⊢
   repeat (first|refine q5 ?_|refine q6 ?_)
   refine TC.draw [9] mixed 10 rfl [.cells b5 0 (treeC x)] (E.J (k + 1) false h :: .cells b4 0 [.int .i64 0, strV [], .int .i64 0, .slice none 0 0] :: L) (List.Perm.swap _ _ _) ?_
   refine DO.pure tab (by repeat (first|exact Calm.ret|refine Calm.then ?_|refine Calm.block ?_)) (by kernel_rfl) [0] (by kernel_rfl) rfl ?_
   (refine DO.loadL (k := 0) tab 1 0 (by repeat (first|exact Calm.ret|refine Calm.then ?_|refine Calm.block ?_)) (by kernel_rfl) (by kernel_rfl) rfl rfl rfl rfl rfl rfl rfl rfl ?_)
   refine DO.pure tab (by repeat (first|exact Calm.ret|refine Calm.then ?_|refine Calm.block ?_)) (by kernel_rfl) [2, 3] (by kernel_rfl) rfl ?_
   refine DO.run 4 rfl rfl (by kernel_rfl) rfl ?_
   refine OT.call rfl rfl rfl rfl rfl rfl goes16 ((level_law _ _ _).x ?_); rintro _ _ _ ⟨rfl, rfl, rfl⟩; refine ⟨Mem.le_refl _, _, List.Perm.refl _, ?_⟩; rw [h8]
   refine DO.arith 5 (r' := ((l + 1 + 1 : Nat) : Int)) (by repeat (first|exact Calm.ret|refine Calm.then ?_|refine Calm.block ?_)) (by kernel_rfl) (by kernel_rfl) rfl rfl rfl rfl rfl rfl rfl rfl (by first | rfl | omega | (simp only; omega)) (by omega) ?_
   refine DO.run 6 rfl rfl (by kernel_rfl) rfl ?_
   refine OT.perm (List.Perm.swap _ _ _) (OT.rcT hX (Mem.le_refl _) hS' hno' hE hk1 hm rfl rfl rfl rfl rfl rfl goes141 (fun y m3 e k3 b3 h3' hS3 hm hE hle3 hk3 hry => ?_)); refine ⟨hle3, E.J k3 b3 h3' :: .cells b4 0 [.int .i64 0, strV [], .int .i64 0, .slice none 0 0] :: L, List.Perm.swap _ _ _, ?_⟩
   refine DO.run 7 rfl rfl (by kernel_rfl) rfl ?_
   refine OT.litR tab rTree (hs := [x, y]) (l := [a, e]) ⟨rTree_iff.2 (hrx.mono hle3), rTree_iff.2 hry, trivial⟩ rfl rfl rfl rfl rfl (by decide) (fun s m4 hle4 hs ho hc => ?_); refine ⟨hle4, _, List.Perm.refl _, ?_⟩
   refine DO.run 8 rfl rfl (by kernel_rfl) rfl ?_
   refine OT.node rfl rfl rfl rfl rfl rfl ?_; refine ⟨Mem.le_refl _, _, List.Perm.refl _, ?_⟩
   refine DO.tail ?_
   refine DOt.run 9 rfl rfl (by kernel_rfl) rfl ?_
   refine OT.storeL0 tab 0 rfl rfl rfl rfl rfl rfl rfl rfl ?_; refine DOt.perm (List.Perm.swap _ _ _) ?_
   refine DOt.nil (by kernel_rfl) ?_
   rotate_left 1
   repeat (first|refine q6 ?_|refine q7 ?_)
   have hS4 : RS E T b3 k3 h3' h (Ps.pend E.N U j Ps.ret (l - j + 1) M' (Ps.binT w a e)) := by
    refine ⟨fun e3 => ⟨(hS3.1 e3).1, ?_⟩, fun e3 => ?_⟩
    ·rw [h5]; unfold Ps.bind; rw [(hS3.1 e3).2]; rfl
    ·rw [h5]; unfold Ps.bind; rw [hS3.2 e3]
   have hno4 : b3 = false → Ps.NoOp E.f k3 (j + (l - j + 1)) := fun e3 => by
    rw [show j + (l - j + 1) = l + 1 by omega]
    exact Ps.BL_ends (5 - (l + 1)) (l + 1) (by omega) (k + 1) e k3 (hS3.1 e3).2
   have hmu : (l - j + 1) * (E.N + 1) + M' < d * (E.N + 1) + M := by
    rcases h6 with h6 | ⟨h6, h9⟩
    ·have : (l - j + 1 + 1) * (E.N + 1) ≤ d * (E.N + 1) := Nat.mul_le_mul_right _ (by omega)
     rw [Nat.add_mul] at this
     omega
    ·rw [h6]; omega
   exact ⟨(⟨53, w, 0, s⟩, m4, Ps.binT w a e, k3, b3, h3', l - j + 1, M'), (by repeat (exact trivial)), (by repeat (first|exact trivial|refine And.intro rfl ?_)), rfl, rfl, (by repeat (exact List.Sublist.refl _)), ⟨Mem.le_trans hm hle4, hE.mono hle4, hk3, ⟨rfl, rfl, rfl, hs⟩, by simp only; omega, h4, hS4, hno4⟩, hmu⟩
  ·omega
theorem rexpr_rc {U : Ps.Pp Tree} (hU : RC Tryz.prog mb E vTree 145 [E.v] h0 U) :
  RC Tryz.prog mb E vTree 127 [E.v] h0 (Ps.binL E.N U Ps.levels) := by
 refine RC.enter Tryz.func127 rfl 5 rfl fun m L k b h T hm0 hE hk hS hn => ?_
 have hB := (rclimb_rc hU 5 0 rfl).up hm0
 have hm : m ≤ m := Mem.le_refl _
 replace hS : RS E T b k h h0 (Ps.bind (Ps.BL E.N U 0) Ps.ret) := hS.eq (by rw [Ps.bind_ret]; rfl)
 repeat (first|refine q1 ?_|refine q3 ?_)
 refine TO.step rfl (OT.alloc tab rfl rfl rfl rfl (fun b2 => ?_)); refine TO.perm (List.Perm.swap _ _ _) ?_
 repeat (first|refine q1 ?_|refine q3 ?_|refine q4 tab rfl rfl ?_|refine q5 ?_|refine q6 ?_)
 refine TO.step rfl (OT.rcT (hB) hm hS hn hE hk hm rfl rfl rfl rfl rfl rfl goes141 (fun x m2 a k b h hS hm hE hlex hk hrx => ?_))
 skip
 (refine TO.step rfl (OT.storeL0 tab 1 rfl rfl rfl rfl rfl rfl rfl rfl ?_))
 repeat (first|refine q5 ?_|refine q6 ?_|refine q15 ?_)
 refine retQ_ret_c1 tab 1 rfl rfl rfl rfl (L' := E.J k b h :: L) (by repeat (first|exact List.Sublist.refl _|refine List.Sublist.cons_cons _ ?_|refine List.Sublist.cons _ ?_)) ⟨a, k, b, h, [], hm, hk, ⟨x, rfl, rfl, hrx⟩, rfl, hS⟩
end
end Go.Sep


/- PrW10 -/
set_option linter.unusedVariables false
set_option linter.unusedSimpArgs false
namespace Go.Sep
open Go.Proofs
attribute [local irreducible] TC TO OT TCallX TCall DO DOt thenQ blockQ retQ At
section
variable {mb : Mem} {E : PE} {h0 : Bool}
theorem RS.tkn_t {β : Type} {T : Ps.Res β} {k : Nat} {h h0 : Bool} {c : Int} {A : Ps.Tk → Ps.Pp β} {B : Ps.Pp β} (hS : RS E T false k h h0 (Ps.tkn c A B)) (hlt : k < E.toks.length) (hb : Ps.isK c E.f k = true) : RS E T false (k + 1) h h0 (A ⟨(E.toks[k]).kind, (E.toks[k]).text, (E.toks[k]).num⟩) :=
 ⟨fun _ => ⟨(hS.1 rfl).1, (hS.1 rfl).2.trans (Ps.tkn_t (PE.f_some hlt) hb)⟩, fun e => (by cases e)⟩
theorem RS.tkn_f {β : Type} {T : Ps.Res β} {k : Nat} {b h h0 : Bool} {c : Int} {A : Ps.Tk → Ps.Pp β} {B : Ps.Pp β} (hS : RS E T b k h h0 (Ps.tkn c A B)) (hb : (!b && Ps.isK c E.f k) = false) : RS E T b k h h0 B := hS.to fun e => Ps.tkn_f (by rw [e] at hb; exact hb)
theorem takesK {b : Bool} {k : Nat} {c : Int} (hb : (!b && Ps.isK c E.f k) = true) : b = false ∧ Ps.isK c E.f k = true := by cases b <;> simp_all
theorem now_is {b : Bool} {k : Nat} {s : Str} (hs : s ≠ []) (hw : nowD E b k = s) : b = false ∧ Ps.isM s E.f k = true := by
 have := nowD_eq (E := E) (b := b) (k := k) hs
 rw [decide_eq_true hw] at this
 exact takes_f this.symm
theorem now_not {b : Bool} {k : Nat} {s : Str} (hs : s ≠ []) (hw : ¬ nowD E b k = s) : (!b && Ps.isM s E.f k) = false := by
 have := nowD_eq (E := E) (b := b) (k := k) hs
 rw [decide_eq_false hw] at this
 exact this.symm
set_option maxHeartbeats 4000000 in
theorem rprimary_rc {X Y Z : Ps.Pp Tree} (hX : RC Tryz.prog mb E vTree 39 [E.v] h0 X) (hY : RC Tryz.prog mb E vTree 127 [E.v] false Y) (hZ : RC Tryz.prog mb E vTree 40 [E.v] h0 Z) :
  RC Tryz.prog mb E vTree 148 [E.v] h0 (Ps.primP E.N X Z Y h0) := by
 refine RC.enter Tryz.func148 rfl 156 rfl fun m L k b h T hm0 hE hk hS hn => ?_
 replace hX := hX.up hm0
 replace hY := hY.up hm0
 replace hZ := hZ.up hm0
 have hm : m ≤ m := Mem.le_refl _
 have hlen := hE.rep.len
 have hrows := hE.rows
 have hfew := hE.few
 unfold Ps.primP at hS
 repeat (first|refine q1 ?_|refine q3 ?_)
 refine TO.step rfl (OT.alloc tab rfl rfl rfl rfl (fun b2 => ?_)); refine TO.perm (List.Perm.swap _ _ _) ?_
 repeat (first|refine q1 ?_|refine q3 ?_|refine q4 tab rfl rfl ?_|refine q5 ?_|refine q6 ?_)
 (refine qs rfl (ql tab 0 rfl rfl rfl rfl rfl rfl ?_))
 repeat (first|refine q1 ?_|refine q3 ?_|refine q4 tab rfl rfl ?_|refine q5 ?_|refine q6 ?_)
 refine TO.step rfl (OT.call rfl rfl rfl rfl rfl rfl goes78 ((kind_law hE hk).x ?_));
 rintro _ _ _ ⟨rfl, rfl, rfl⟩
 repeat (first|refine q1 ?_|refine q2 ?_|refine q3 ?_|refine q4 tab rfl rfl ?_|refine q5 ?_|refine q6 ?_)
 rw [kindD_eq (by decide)]
 cases hb : (!b && Ps.isK 2 E.f k) with
 | true =>
  obtain ⟨rfl, hb'⟩ := takesK hb
  have hlt := PE.isK_lt hb'
  have hx : E.toks[k]? = some E.toks[k] := List.getElem?_eq_getElem hlt
  replace hS := hS.tkn_t hlt hb'
  repeat (first|refine q1 ?_|refine q3 ?_|refine q4 tab rfl rfl ?_|refine q16 rfl ?_)
  (refine qs rfl (ql tab 0 rfl rfl rfl rfl rfl rfl ?_))
  refine TO.step rfl (OT.arith (r' := ((k + 1 : Nat) : Int)) rfl rfl rfl rfl rfl rfl rfl (by omega) ?_)
  repeat (refine q4 tab rfl rfl ?_)
  refine TO.step rfl (OT.storeL (k := 1) tab 0 rfl rfl rfl rfl rfl rfl rfl rfl ?_)
  repeat (first|refine q1 ?_|refine q5 ?_|refine q6 ?_)
  refine TC.draw [13] mixed 14 rfl [E.J (k + 1) false h, .cells b2 0 [.int .i64 0, strV [], .int .i64 0, .slice none 0 0]] L (by first | exact List.Perm.refl _ | (rw [List.append_nil]; exact List.Perm.refl _)) ?_
  refine DO.pure tab (by repeat (first|exact Calm.ret|refine Calm.then ?_|refine Calm.block ?_)) (by kernel_rfl) [0, 1, 2] (by kernel_rfl) rfl ?_
  (refine DO.loadL tab 3 0 (by repeat (first|exact Calm.ret|refine Calm.then ?_|refine Calm.block ?_)) (by kernel_rfl) (by kernel_rfl) rfl rfl rfl rfl rfl rfl rfl rfl ?_)
  refine DO.pure tab (by repeat (first|exact Calm.ret|refine Calm.then ?_|refine Calm.block ?_)) (by kernel_rfl) [4, 5, 6] (by kernel_rfl) rfl ?_
  (refine DO.loadL tab 7 0 (by repeat (first|exact Calm.ret|refine Calm.then ?_|refine Calm.block ?_)) (by kernel_rfl) (by kernel_rfl) rfl rfl rfl rfl rfl rfl rfl rfl ?_)
  refine DO.arith 8 (r' := ((k : Nat) : Int)) (by repeat (first|exact Calm.ret|refine Calm.then ?_|refine Calm.block ?_)) (by kernel_rfl) (by kernel_rfl) rfl rfl rfl rfl rfl rfl rfl rfl (by first | rfl | omega | (simp only; omega)) (by omega) ?_
  refine DO.index tab rTok 9 k hE.rep (by repeat (first|exact Calm.ret|refine Calm.then ?_|refine Calm.block ?_)) (by kernel_rfl) (by kernel_rfl) rfl rfl rfl rfl rfl rfl rfl (by first | rfl | omega) rfl hx ?_
  rintro b' i' hd' hr' hA2; obtain rfl := (show hd' = E.toks[k] from hr')
  refine DO.pure tab (by repeat (first|exact Calm.ret|refine Calm.then ?_|refine Calm.block ?_)) (by kernel_rfl) [10] (by kernel_rfl) rfl ?_
  (refine DO.loadA tab 11 hA2 (by repeat (first|exact Calm.ret|refine Calm.then ?_|refine Calm.block ?_)) (by kernel_rfl) (by kernel_rfl) rfl rfl rfl rfl rfl rfl rfl ?_)
  refine DO.pure tab (by repeat (first|exact Calm.ret|refine Calm.then ?_|refine Calm.block ?_)) (by kernel_rfl) [12] (by kernel_rfl) rfl ?_
  refine DO.tail ?_
  refine DOt.run 13 rfl rfl (by kernel_rfl) rfl ?_
  refine OT.storeL0 tab 1 rfl rfl rfl rfl rfl rfl rfl rfl ?_
  refine DOt.nil (by kernel_rfl) ?_
  rotate_left 1
  repeat (first|refine q6 ?_|refine q8 ?_|refine q9 ?_|refine q15 ?_)
  refine retQ_ret_c1 tab 1 rfl rfl rfl rfl (L' := E.J (k + 1) false h :: L) (by repeat (first|exact List.Sublist.refl _|refine List.Sublist.cons_cons _ ?_|refine List.Sublist.cons _ ?_)) ⟨.mk 40 [] (E.toks[k]).num [], k + 1, false, h, [], hm, hlt, ⟨⟨40, [], (E.toks[k]).num, ⟨none, 0, 0⟩⟩, rfl, rfl, ⟨rfl, rfl, rfl, SlRep.nil _ _⟩⟩, rfl, hS⟩
 | false =>
 replace hS := hS.tkn_f hb
 clear hb
 repeat (first|refine q1 ?_|refine q3 ?_|refine q4 tab rfl rfl ?_|refine q5 ?_|refine q6 ?_|refine q17 rfl ?_)
 rw [kindD_eq (by decide)]
 cases hb : (!b && Ps.isK 3 E.f k) with
 | true =>
  obtain ⟨rfl, hb'⟩ := takesK hb
  have hlt := PE.isK_lt hb'
  have hx : E.toks[k]? = some E.toks[k] := List.getElem?_eq_getElem hlt
  replace hS := hS.tkn_t hlt hb'
  repeat (first|refine q1 ?_|refine q3 ?_|refine q4 tab rfl rfl ?_|refine q16 rfl ?_)
  (refine qs rfl (ql tab 0 rfl rfl rfl rfl rfl rfl ?_))
  refine TO.step rfl (OT.arith (r' := ((k + 1 : Nat) : Int)) rfl rfl rfl rfl rfl rfl rfl (by omega) ?_)
  repeat (refine q4 tab rfl rfl ?_)
  refine TO.step rfl (OT.storeL (k := 1) tab 0 rfl rfl rfl rfl rfl rfl rfl rfl ?_)
  repeat (first|refine q1 ?_|refine q5 ?_|refine q6 ?_)
  refine TC.draw [13] mixed 14 rfl [E.J (k + 1) false h, .cells b2 0 [.int .i64 0, strV [], .int .i64 0, .slice none 0 0]] L (by first | exact List.Perm.refl _ | (rw [List.append_nil]; exact List.Perm.refl _)) ?_
  refine DO.pure tab (by repeat (first|exact Calm.ret|refine Calm.then ?_|refine Calm.block ?_)) (by kernel_rfl) [0, 1, 2] (by kernel_rfl) rfl ?_
  (refine DO.loadL tab 3 0 (by repeat (first|exact Calm.ret|refine Calm.then ?_|refine Calm.block ?_)) (by kernel_rfl) (by kernel_rfl) rfl rfl rfl rfl rfl rfl rfl rfl ?_)
  refine DO.pure tab (by repeat (first|exact Calm.ret|refine Calm.then ?_|refine Calm.block ?_)) (by kernel_rfl) [4, 5, 6] (by kernel_rfl) rfl ?_
  (refine DO.loadL tab 7 0 (by repeat (first|exact Calm.ret|refine Calm.then ?_|refine Calm.block ?_)) (by kernel_rfl) (by kernel_rfl) rfl rfl rfl rfl rfl rfl rfl rfl ?_)
  refine DO.arith 8 (r' := ((k : Nat) : Int)) (by repeat (first|exact Calm.ret|refine Calm.then ?_|refine Calm.block ?_)) (by kernel_rfl) (by kernel_rfl) rfl rfl rfl rfl rfl rfl rfl rfl (by first | rfl | omega | (simp only; omega)) (by omega) ?_
  refine DO.index tab rTok 9 k hE.rep (by repeat (first|exact Calm.ret|refine Calm.then ?_|refine Calm.block ?_)) (by kernel_rfl) (by kernel_rfl) rfl rfl rfl rfl rfl rfl rfl (by first | rfl | omega) rfl hx ?_
  rintro b' i' hd' hr' hA2; obtain rfl := (show hd' = E.toks[k] from hr')
  refine DO.pure tab (by repeat (first|exact Calm.ret|refine Calm.then ?_|refine Calm.block ?_)) (by kernel_rfl) [10] (by kernel_rfl) rfl ?_
  (refine DO.loadA tab 11 hA2 (by repeat (first|exact Calm.ret|refine Calm.then ?_|refine Calm.block ?_)) (by kernel_rfl) (by kernel_rfl) rfl rfl rfl rfl rfl rfl rfl ?_)
  refine DO.run 12 rfl rfl (by kernel_rfl) rfl ?_
  refine OT.node (sl := ⟨none, 0, 0⟩) rfl rfl rfl rfl rfl rfl ?_; refine ⟨Mem.le_refl _, _, List.Perm.refl _, ?_⟩
  refine DO.tail ?_
  refine DOt.run 13 rfl rfl (by kernel_rfl) rfl ?_
  refine OT.storeL0 tab 1 rfl rfl rfl rfl rfl rfl rfl rfl ?_
  refine DOt.nil (by kernel_rfl) ?_
  rotate_left 1
  repeat (first|refine q6 ?_|refine q8 ?_|refine q9 ?_|refine q15 ?_)
  refine retQ_ret_c1 tab 1 rfl rfl rfl rfl (L' := E.J (k + 1) false h :: L) (by repeat (first|exact List.Sublist.refl _|refine List.Sublist.cons_cons _ ?_|refine List.Sublist.cons _ ?_)) ⟨Ps.leaf 41 (E.toks[k]).text, k + 1, false, h, [], hm, hlt, ⟨⟨41, (E.toks[k]).text, 0, ⟨none, 0, 0⟩⟩, rfl, rfl, ⟨rfl, rfl, rfl, SlRep.nil _ _⟩⟩, rfl, hS⟩
 | false =>
 replace hS := hS.tkn_f hb
 clear hb
 repeat (first|refine q1 ?_|refine q3 ?_|refine q4 tab rfl rfl ?_|refine q5 ?_|refine q6 ?_|refine q17 rfl ?_)
 rw [kindD_eq (by decide)]
 cases hb : (!b && Ps.isK 1 E.f k) with
 | true =>
  obtain ⟨rfl, hb'⟩ := takesK hb
  have hnm : ∀ s, Ps.isM s E.f k = false := fun s => by
   have hlt := PE.isK_lt hb'
   rw [PE.isK hlt] at hb'
   rw [PE.isM hlt, of_decide_eq_true hb']
   rfl
  replace hS := ((((((hS.tok_f (by rw [hnm]; rfl)).tok_f (by rw [hnm]; rfl)).tok_f (by rw [hnm]; rfl)).tok_f (by rw [hnm]; rfl)).tok_f (by rw [hnm]; rfl)).tok_f (by rw [hnm]; rfl))
  obtain ⟨hh, -⟩ := hS.1 rfl
  subst hh
  repeat (first|refine q1 ?_|refine q3 ?_|refine q4 tab rfl rfl ?_|refine q16 rfl ?_)
  refine TO.step rfl (OT.rname hS hE hk rfl rfl rfl rfl rfl rfl (fun t b k hS hk => ?_))
  cases h with
  | true =>
   replace hS : RS E T b k true true (Ps.ret (Ps.leaf 44 t)) := hS
   repeat (first|refine q1 ?_|refine q3 ?_|refine q4 tab rfl rfl ?_|refine q5 ?_|refine q6 ?_|refine q13 ?_|refine q17 rfl ?_)
   refine TO.step rfl (OT.node (sl := ⟨none, 0, 0⟩) rfl rfl rfl rfl rfl rfl ?_)
   skip
   (refine TO.step rfl (OT.storeL0 tab 1 rfl rfl rfl rfl rfl rfl rfl rfl ?_))
   repeat (first|refine q5 ?_|refine q6 ?_|refine q8 ?_|refine q9 ?_|refine q15 ?_)
   refine retQ_ret_c1 tab 1 rfl rfl rfl rfl (L' := E.J k b true :: L) (by repeat (first|exact List.Sublist.refl _|refine List.Sublist.cons_cons _ ?_|refine List.Sublist.cons _ ?_)) ⟨Ps.leaf 44 t, k, b, true, [], hm, hk, ⟨⟨44, t, 0, ⟨none, 0, 0⟩⟩, rfl, rfl, ⟨rfl, rfl, rfl, SlRep.nil _ _⟩⟩, rfl, hS⟩
  | false =>
   replace hS : RS E T b k false false (Ps.tok [123] (Ps.bind (Ps.exprsP E.N [125] Y) fun l => Ps.ret (.mk 45 t 0 l)) (Ps.ret (Ps.leaf 44 t))) := hS
   repeat (first|refine q1 ?_|refine q3 ?_|refine q4 tab rfl rfl ?_|refine q5 ?_|refine q6 ?_)
   refine TO.step rfl (OT.rtake (by decide) hS hE hk rfl rfl rfl rfl rfl rfl (fun hS hk => ?_) (fun hS => ?_))
   ·repeat (first|refine q1 ?_|refine q3 ?_|refine q4 tab rfl rfl ?_|refine q5 ?_|refine q6 ?_|refine q16 rfl ?_)
    refine TO.step rfl (OT.rcS (runtil_rc hY [125] (by decide)) hm hS hn hE hk hm rfl rfl rfl rfl rfl rfl goes150 (fun x m2 l k b h hS hm hE hlex hk hrx hlx => ?_))
    refine TO.step rfl (OT.node rfl rfl rfl rfl rfl rfl ?_)
    skip
    (refine TO.step rfl (OT.storeL0 tab 1 rfl rfl rfl rfl rfl rfl rfl rfl ?_))
    repeat (first|refine q5 ?_|refine q6 ?_|refine q8 ?_|refine q9 ?_|refine q15 ?_)
    refine retQ_ret_c1 tab 1 rfl rfl rfl rfl (L' := E.J k b h :: L) (by repeat (first|exact List.Sublist.refl _|refine List.Sublist.cons_cons _ ?_|refine List.Sublist.cons _ ?_)) ⟨.mk 45 t 0 l, k, b, h, [], hm, hk, ⟨⟨45, t, 0, x⟩, rfl, rfl, ⟨rfl, rfl, rfl, hrx⟩⟩, rfl, hS⟩
   ·repeat (first|refine q1 ?_|refine q3 ?_|refine q4 tab rfl rfl ?_|refine q5 ?_|refine q6 ?_|refine q13 ?_|refine q17 rfl ?_)
    refine TO.step rfl (OT.node (sl := ⟨none, 0, 0⟩) rfl rfl rfl rfl rfl rfl ?_)
    skip
    (refine TO.step rfl (OT.storeL0 tab 1 rfl rfl rfl rfl rfl rfl rfl rfl ?_))
    repeat (first|refine q5 ?_|refine q6 ?_|refine q8 ?_|refine q9 ?_|refine q15 ?_)
    refine retQ_ret_c1 tab 1 rfl rfl rfl rfl (L' := E.J k b false :: L) (by repeat (first|exact List.Sublist.refl _|refine List.Sublist.cons_cons _ ?_|refine List.Sublist.cons _ ?_)) ⟨Ps.leaf 44 t, k, b, false, [], hm, hk, ⟨⟨44, t, 0, ⟨none, 0, 0⟩⟩, rfl, rfl, ⟨rfl, rfl, rfl, SlRep.nil _ _⟩⟩, rfl, hS⟩
 | false =>
 repeat (first|refine q1 ?_|refine q3 ?_|refine q4 tab rfl rfl ?_|refine q6 ?_|refine q7 ?_|refine q13 ?_|refine q17 rfl ?_)
 refine TO.step rfl (OT.call rfl rfl rfl rfl rfl rfl goes77 ((now_law hE hk).x ?_));
 rintro _ _ _ ⟨rfl, rfl, rfl⟩
 by_cases w1 : nowD E b k = [116, 114, 117, 101]
 ·rw [w1]
  obtain ⟨rfl, hb'⟩ := now_is (by decide) w1
  replace hS := hS.tok_t hb'
  replace hk := PE.isM_lt hb'
  repeat (first|refine q1 ?_|refine q3 ?_|refine q4 tab rfl rfl ?_|refine q5 ?_|refine q6 ?_|refine q16 rfl ?_)
  (refine qs rfl (ql tab 0 rfl rfl rfl rfl rfl rfl ?_))
  refine TO.step rfl (OT.arith (r' := ((k + 1 : Nat) : Int)) rfl rfl rfl rfl rfl rfl rfl (by omega) ?_)
  repeat (refine q4 tab rfl rfl ?_)
  refine TO.step rfl (OT.storeL (k := 1) tab 0 rfl rfl rfl rfl rfl rfl rfl rfl ?_)
  repeat (first|refine q1 ?_|refine q2 ?_|refine q3 ?_|refine q4 tab rfl rfl ?_|refine q5 ?_|refine q6 ?_|refine q16 rfl ?_)
  (refine TO.step rfl (OT.storeL0 tab 1 rfl rfl rfl rfl rfl rfl rfl rfl ?_))
  repeat (first|refine q5 ?_|refine q6 ?_|refine q8 ?_|refine q9 ?_|refine q15 ?_)
  refine retQ_ret_c1 tab 1 rfl rfl rfl rfl (L' := E.J (k + 1) false h :: L) (by repeat (first|exact List.Sublist.refl _|refine List.Sublist.cons_cons _ ?_|refine List.Sublist.cons _ ?_)) ⟨.mk 42 [] 1 [], k + 1, false, h, [], hm, hk, ⟨⟨42, [], 1, ⟨none, 0, 0⟩⟩, rfl, rfl, ⟨rfl, rfl, rfl, SlRep.nil _ _⟩⟩, rfl, hS⟩
 replace hS := hS.tok_f (now_not (by decide) w1)
 by_cases w2 : nowD E b k = [102, 97, 108, 115, 101]
 ·rw [w2]
  obtain ⟨rfl, hb'⟩ := now_is (by decide) w2
  replace hS := hS.tok_t hb'
  replace hk := PE.isM_lt hb'
  repeat (first|refine q1 ?_|refine q3 ?_|refine q4 tab rfl rfl ?_|refine q5 ?_|refine q6 ?_|refine q16 rfl ?_)
  (refine qs rfl (ql tab 0 rfl rfl rfl rfl rfl rfl ?_))
  refine TO.step rfl (OT.arith (r' := ((k + 1 : Nat) : Int)) rfl rfl rfl rfl rfl rfl rfl (by omega) ?_)
  repeat (refine q4 tab rfl rfl ?_)
  refine TO.step rfl (OT.storeL (k := 1) tab 0 rfl rfl rfl rfl rfl rfl rfl rfl ?_)
  repeat (first|refine q1 ?_|refine q2 ?_|refine q3 ?_|refine q4 tab rfl rfl ?_|refine q5 ?_|refine q6 ?_|refine q16 rfl ?_|refine q17 rfl ?_)
  refine TO.step rfl (OT.node (sl := ⟨none, 0, 0⟩) rfl rfl rfl rfl rfl rfl ?_)
  (refine TO.step rfl (OT.storeL0 tab 1 rfl rfl rfl rfl rfl rfl rfl rfl ?_))
  repeat (first|refine q5 ?_|refine q6 ?_|refine q8 ?_|refine q9 ?_|refine q15 ?_)
  refine retQ_ret_c1 tab 1 rfl rfl rfl rfl (L' := E.J (k + 1) false h :: L) (by repeat (first|exact List.Sublist.refl _|refine List.Sublist.cons_cons _ ?_|refine List.Sublist.cons _ ?_)) ⟨Ps.leaf 42 [], k + 1, false, h, [], hm, hk, ⟨⟨42, [], 0, ⟨none, 0, 0⟩⟩, rfl, rfl, ⟨rfl, rfl, rfl, SlRep.nil _ _⟩⟩, rfl, hS⟩
 replace hS := hS.tok_f (now_not (by decide) w2)
 by_cases w3 : nowD E b k = [110, 105, 108]
 ·rw [w3]
  obtain ⟨rfl, hb'⟩ := now_is (by decide) w3
  replace hS := hS.tok_t hb'
  replace hk := PE.isM_lt hb'
  repeat (first|refine q1 ?_|refine q3 ?_|refine q4 tab rfl rfl ?_|refine q5 ?_|refine q6 ?_|refine q16 rfl ?_)
  (refine qs rfl (ql tab 0 rfl rfl rfl rfl rfl rfl ?_))
  refine TO.step rfl (OT.arith (r' := ((k + 1 : Nat) : Int)) rfl rfl rfl rfl rfl rfl rfl (by omega) ?_)
  repeat (refine q4 tab rfl rfl ?_)
  refine TO.step rfl (OT.storeL (k := 1) tab 0 rfl rfl rfl rfl rfl rfl rfl rfl ?_)
  repeat (first|refine q1 ?_|refine q2 ?_|refine q3 ?_|refine q4 tab rfl rfl ?_|refine q5 ?_|refine q6 ?_|refine q16 rfl ?_|refine q17 rfl ?_)
  refine TO.step rfl (OT.node (sl := ⟨none, 0, 0⟩) rfl rfl rfl rfl rfl rfl ?_)
  (refine TO.step rfl (OT.storeL0 tab 1 rfl rfl rfl rfl rfl rfl rfl rfl ?_))
  repeat (first|refine q5 ?_|refine q6 ?_|refine q8 ?_|refine q9 ?_|refine q15 ?_)
  refine retQ_ret_c1 tab 1 rfl rfl rfl rfl (L' := E.J (k + 1) false h :: L) (by repeat (first|exact List.Sublist.refl _|refine List.Sublist.cons_cons _ ?_|refine List.Sublist.cons _ ?_)) ⟨Ps.leaf 43 [], k + 1, false, h, [], hm, hk, ⟨⟨43, [], 0, ⟨none, 0, 0⟩⟩, rfl, rfl, ⟨rfl, rfl, rfl, SlRep.nil _ _⟩⟩, rfl, hS⟩
 replace hS := hS.tok_f (now_not (by decide) w3)
 by_cases w4 : nowD E b k = [40]
 ·rw [w4]
  obtain ⟨rfl, hb'⟩ := now_is (by decide) w4
  replace hS := hS.tok_t hb'
  obtain ⟨hh, -⟩ := hS.1 rfl
  subst hh
  replace hk := PE.isM_lt hb'
  replace hS := hS.set false
  repeat (first|refine q1 ?_|refine q3 ?_|refine q4 tab rfl rfl ?_|refine q5 ?_|refine q6 ?_|refine q16 rfl ?_)
  (refine qs rfl (ql tab 0 rfl rfl rfl rfl rfl rfl ?_))
  refine TO.step rfl (OT.arith (r' := ((k + 1 : Nat) : Int)) rfl rfl rfl rfl rfl rfl rfl (by omega) ?_)
  repeat (refine q4 tab rfl rfl ?_)
  refine TO.step rfl (OT.storeL (k := 1) tab 0 rfl rfl rfl rfl rfl rfl rfl rfl ?_)
  repeat (first|refine q1 ?_|refine q2 ?_|refine q3 ?_|refine q4 tab rfl rfl ?_|refine q5 ?_|refine q6 ?_|refine q16 rfl ?_|refine q17 rfl ?_)
  refine TO.step rfl (OT.storeL (k := 3) tab 0 rfl rfl rfl rfl rfl rfl rfl rfl ?_)
  repeat (first|refine q1 ?_|refine q3 ?_|refine q4 tab rfl rfl ?_|refine q5 ?_|refine q6 ?_)
  refine TO.step rfl (OT.rcT hY hm hS hn hE hk hm rfl rfl rfl rfl rfl rfl goes127 (fun x m2 a k b h' hS hm hE hlex hk hrx => ?_))
  replace hS := hS.set h
  skip
  refine TO.step rfl (OT.alloc tab rfl rfl rfl rfl (fun b6 => ?_)); refine TO.perm (List.Perm.swap _ _ _) ?_
  skip
  (refine TO.step rfl (OT.storeL0 tab 1 rfl rfl rfl rfl rfl rfl rfl rfl ?_))
  repeat (first|refine q1 ?_|refine q3 ?_|refine q4 tab rfl rfl ?_|refine q5 ?_|refine q6 ?_)
  refine TO.step rfl (OT.storeL (k := 3) tab 0 rfl rfl rfl rfl rfl rfl rfl rfl ?_)
  repeat (first|refine q1 ?_|refine q3 ?_|refine q4 tab rfl rfl ?_|refine q5 ?_|refine q6 ?_)
  refine TO.step rfl (OT.rneed (by decide) hS hE hk rfl rfl rfl rfl rfl rfl (fun _ b k hS hk => ?_))
  repeat (first|refine q1 ?_|refine q3 ?_|refine q5 ?_|refine q6 ?_)
  (refine qs rfl (qz tab 1 rfl rfl rfl rfl rfl rfl ?_))
  skip
  refine TO.step rfl (OT.storeL0 tab 2 rfl rfl rfl rfl rfl rfl rfl rfl ?_)
  repeat (first|refine q5 ?_|refine q6 ?_|refine q8 ?_|refine q9 ?_|refine q15 ?_)
  refine retQ_ret_c1 tab 2 rfl rfl rfl rfl (L' := E.J k b h :: L) (by repeat (first|exact List.Sublist.refl _|refine List.Sublist.cons_cons _ ?_|refine List.Sublist.cons _ ?_)) ⟨a, k, b, h, [], hm, hk, ⟨x, rfl, rfl, hrx⟩, rfl, hS⟩
 replace hS := hS.tok_f (now_not (by decide) w4)
 by_cases w5 : nowD E b k = [91]
 ·rw [w5]
  obtain ⟨rfl, hb'⟩ := now_is (by decide) w5
  replace hS := hS.tok_t hb'
  obtain ⟨hh, -⟩ := hS.1 rfl
  subst hh
  replace hk := PE.isM_lt hb'
  repeat (first|refine q1 ?_|refine q3 ?_|refine q4 tab rfl rfl ?_|refine q5 ?_|refine q6 ?_|refine q16 rfl ?_)
  (refine qs rfl (ql tab 0 rfl rfl rfl rfl rfl rfl ?_))
  refine TO.step rfl (OT.arith (r' := ((k + 1 : Nat) : Int)) rfl rfl rfl rfl rfl rfl rfl (by omega) ?_)
  repeat (refine q4 tab rfl rfl ?_)
  refine TO.step rfl (OT.storeL (k := 1) tab 0 rfl rfl rfl rfl rfl rfl rfl rfl ?_)
  repeat (first|refine q1 ?_|refine q2 ?_|refine q3 ?_|refine q4 tab rfl rfl ?_|refine q5 ?_|refine q6 ?_|refine q16 rfl ?_|refine q17 rfl ?_)
  refine TO.step rfl (OT.rneed (by decide) hS hE hk rfl rfl rfl rfl rfl rfl (fun _ b k hS hk => ?_))
  repeat (first|refine q1 ?_|refine q3 ?_|refine q4 tab rfl rfl ?_|refine q5 ?_|refine q6 ?_)
  refine TO.step rfl (OT.rcT hX hm hS hn hE hk hm rfl rfl rfl rfl rfl rfl goes39 (fun x m2 a k b h' hS hm hE hlex hk hrx => ?_))
  refine TO.step rfl (OT.litR tab rTree (hs := [x]) (l := [a]) ⟨rTree_iff.2 hrx, trivial⟩ rfl rfl rfl rfl rfl (by decide) (fun s m3 hle3 hs ho hc => ?_))
  replace hm := Mem.le_trans hm hle3
  replace hE := hE.mono hle3
  replace hY := hY.up hm
  refine TO.step rfl (OT.node rfl rfl rfl rfl rfl rfl ?_)
  refine TO.tokFo hc ho 4 ?_
  refine TO.perm (List.Perm.swap _ _ _) ?_
  refine TO.step rfl (OT.alloc tab rfl rfl rfl rfl (fun b7 => ?_)); refine TO.perm (List.Perm.swap _ _ _) ?_
  skip
  (refine TO.step rfl (OT.storeL0 tab 1 rfl rfl rfl rfl rfl rfl rfl rfl ?_))
  repeat (first|refine q1 ?_|refine q3 ?_|refine q4 tab rfl rfl ?_|refine q5 ?_|refine q6 ?_)
  refine TO.step rfl (OT.rneed (by decide) hS hE hk rfl rfl rfl rfl rfl rfl (fun _ b k hS hk => ?_))
  replace hS := hS.set false
  repeat (first|refine q1 ?_|refine q3 ?_|refine q4 tab rfl rfl ?_|refine q5 ?_|refine q6 ?_)
  refine TO.step rfl (OT.storeL (k := 3) tab 0 rfl rfl rfl rfl rfl rfl rfl rfl ?_)
  repeat (first|refine q1 ?_|refine q5 ?_|refine q6 ?_)
  refine TC.draw [6] mixed 7 rfl [.cells b7 0 [.int .i64 46, strV [], .int .i64 0, s.v]] (E.J k b false :: tok s 4 :: .cells b2 0 [.int .i64 0, strV [], .int .i64 0, .slice none 0 0] :: L) (List.Perm.swap _ _ _) ?_
  refine DO.pure tab (by repeat (first|exact Calm.ret|refine Calm.then ?_|refine Calm.block ?_)) (by kernel_rfl) [0] (by kernel_rfl) rfl ?_
  (refine DO.loadL tab 1 0 (by repeat (first|exact Calm.ret|refine Calm.then ?_|refine Calm.block ?_)) (by kernel_rfl) (by kernel_rfl) rfl rfl rfl rfl rfl rfl rfl rfl ?_)
  refine DO.pure tab (by repeat (first|exact Calm.ret|refine Calm.then ?_|refine Calm.block ?_)) (by kernel_rfl) [2] (by kernel_rfl) rfl ?_
  refine DO.run 3 rfl rfl (by kernel_rfl) rfl ?_
  refine OT.perm (List.Perm.swap _ _ _) (OT.rcS (runtil_rc hY [125] (by decide)) (Mem.le_refl _) hS hn hE hk hm rfl rfl rfl rfl rfl rfl goes150 (fun y mA l k b h' hS hm hE hleA hk hry hly => ?_)); refine ⟨hleA, E.J k b h' :: tok s 4 :: .cells b2 0 [.int .i64 0, strV [], .int .i64 0, .slice none 0 0] :: L, List.Perm.swap _ _ _, ?_⟩
  refine DO.run 4 rfl rfl (by kernel_rfl) rfl ?_
  refine OT.append tab rTree 2 (hs.mono hleA) ho hry rfl rfl rfl rfl rfl rfl rfl (by simp only [List.length_cons, List.length_nil, rTree, mkR]; omega) (fun s3 mC hleC hs3 ho3 => ?_); refine ⟨hleC, E.J k b h' :: tok s3 4 :: .cells b2 0 [.int .i64 0, strV [], .int .i64 0, .slice none 0 0] :: L, List.Perm.refl _, ?_⟩
  refine DO.pure tab (by repeat (first|exact Calm.ret|refine Calm.then ?_|refine Calm.block ?_)) (by kernel_rfl) [5] (by kernel_rfl) rfl ?_
  refine DO.tail ?_
  refine DOt.run 6 rfl rfl (by kernel_rfl) rfl ?_
  refine OT.storeL (k := 3) tab 0 rfl rfl rfl rfl rfl rfl rfl rfl ?_; refine DOt.perm (List.Perm.swap _ _ _) ?_
  refine DOt.nil (by kernel_rfl) ?_
  rotate_left 1
  replace hS := hS.set h
  repeat (first|refine q1 ?_|refine q3 ?_|refine q4 tab rfl rfl ?_|refine q6 ?_)
  refine TO.step rfl (OT.storeL (k := 3) tab 0 rfl rfl rfl rfl rfl rfl rfl rfl ?_)
  repeat (first|refine q1 ?_|refine q3 ?_|refine q5 ?_|refine q6 ?_)
  (refine qs rfl (qz tab 1 rfl rfl rfl rfl rfl rfl ?_))
  skip
  refine TO.step rfl (OT.storeL0 tab 3 rfl rfl rfl rfl rfl rfl rfl rfl ?_)
  repeat (first|refine q5 ?_|refine q6 ?_|refine q8 ?_|refine q9 ?_|refine q15 ?_)
  refine retQ_ret_c1 tab 3 rfl rfl rfl rfl (L' := E.J k b h :: L) (by repeat (first|exact List.Sublist.refl _|refine List.Sublist.cons_cons _ ?_|refine List.Sublist.cons _ ?_)) ⟨.mk 46 [] 0 (a :: l), k, b, h, [], Mem.le_trans hm hleC, hk, ⟨⟨46, [], 0, s3⟩, rfl, rfl, ⟨rfl, rfl, rfl, hs3⟩⟩, rfl, hS⟩
 replace hS := hS.tok_f (now_not (by decide) w5)
 by_cases w6 : nowD E b k = [102, 117, 110, 99]
 ·rw [w6]
  obtain ⟨rfl, hb'⟩ := now_is (by decide) w6
  replace hS := hS.tok_t hb'
  replace hk := PE.isM_lt hb'
  repeat (first|refine q1 ?_|refine q3 ?_|refine q4 tab rfl rfl ?_|refine q5 ?_|refine q6 ?_|refine q16 rfl ?_)
  (refine qs rfl (ql tab 0 rfl rfl rfl rfl rfl rfl ?_))
  refine TO.step rfl (OT.arith (r' := ((k + 1 : Nat) : Int)) rfl rfl rfl rfl rfl rfl rfl (by omega) ?_)
  repeat (refine q4 tab rfl rfl ?_)
  refine TO.step rfl (OT.storeL (k := 1) tab 0 rfl rfl rfl rfl rfl rfl rfl rfl ?_)
  repeat (first|refine q1 ?_|refine q2 ?_|refine q3 ?_|refine q4 tab rfl rfl ?_|refine q5 ?_|refine q6 ?_|refine q16 rfl ?_|refine q17 rfl ?_)
  refine TO.step rfl (OT.rcT (rsig_rc hX) hm hS hn hE hk hm rfl rfl rfl rfl rfl rfl goes38 (fun x m2 a k b h hS hm hE hlex hk hrx => ?_))
  refine TO.step rfl (OT.alloc tab rfl rfl rfl rfl (fun b8 => ?_)); refine TO.perm (List.Perm.swap _ _ _) ?_
  skip
  (refine TO.step rfl (OT.storeL0 tab 1 rfl rfl rfl rfl rfl rfl rfl rfl ?_))
  replace hZ := hZ.up hm
  repeat (first|refine q1 ?_|refine q5 ?_|refine q6 ?_)
  refine TC.draw [5] mixed 6 rfl [.cells b8 0 (treeC x), .cells b2 0 [.int .i64 0, strV [], .int .i64 0, .slice none 0 0]] (E.J k b h :: L) ((List.Perm.trans pfr1 (List.Perm.cons _ pfr1))) ?_
  (refine DO.loadL (k := 0) tab 0 0 (by repeat (first|exact Calm.ret|refine Calm.then ?_|refine Calm.block ?_)) (by kernel_rfl) (by kernel_rfl) rfl rfl rfl rfl rfl rfl rfl rfl ?_)
  refine DO.pure tab (by repeat (first|exact Calm.ret|refine Calm.then ?_|refine Calm.block ?_)) (by kernel_rfl) [1] (by kernel_rfl) rfl ?_
  refine DO.run 2 rfl rfl (by kernel_rfl) rfl ?_
  refine OT.perm (pfr2) (OT.rcT hZ (Mem.le_refl _) hS hn hE hk hm rfl rfl rfl rfl rfl rfl goes40 (fun y m3 e k b h hS hm hE hle2 hk hry => ?_)); refine ⟨hle2, E.J k b h :: L, (List.Perm.trans pfr1 (List.Perm.cons _ pfr1)), ?_⟩
  refine DO.run 3 rfl rfl (by kernel_rfl) rfl ?_
  refine OT.litR tab rTree (hs := [x, y]) (l := [a, e]) ⟨rTree_iff.2 (hrx.mono hle2), rTree_iff.2 hry, trivial⟩ rfl rfl rfl rfl rfl (by decide) (fun s m4 hle4 hs ho hc => ?_); refine ⟨hle4, _, List.Perm.refl _, ?_⟩
  refine DO.run 4 rfl rfl (by kernel_rfl) rfl ?_
  refine OT.node rfl rfl rfl rfl rfl rfl ?_; refine ⟨Mem.le_refl _, _, List.Perm.refl _, ?_⟩
  refine DO.tail ?_
  refine DOt.run 5 rfl rfl (by kernel_rfl) rfl ?_
  refine OT.storeL0 tab 1 rfl rfl rfl rfl rfl rfl rfl rfl ?_; refine DOt.perm ((List.Perm.trans pfr2 (List.Perm.cons _ pfr1))) ?_
  refine DOt.nil (by kernel_rfl) ?_
  rotate_left 1
  repeat (first|refine q6 ?_|refine q8 ?_|refine q9 ?_|refine q15 ?_)
  refine retQ_ret_c1 tab 1 rfl rfl rfl rfl (L' := E.J k b h :: L) (by repeat (first|exact List.Sublist.refl _|refine List.Sublist.cons_cons _ ?_|refine List.Sublist.cons _ ?_)) ⟨.mk 47 [] 0 [a, e], k, b, h, [], Mem.le_trans hm hle4, hk, ⟨⟨47, [], 0, s⟩, rfl, rfl, ⟨rfl, rfl, rfl, hs⟩⟩, rfl, hS⟩
 replace hS := hS.tok_f (now_not (by decide) w6)
 have hT : T = .bad k := by
  cases b with
  | true => exact hS.2 rfl
  | false => exact (hS.1 rfl).2.trans (Ps.name_f hb)
 by_cases w7 : nowD E b k = []
 ·rw [w7]
  repeat (first|refine q1 ?_|refine q2 ?_|refine q3 ?_|refine q4 tab rfl rfl ?_|refine q5 ?_|refine q6 ?_|refine q7 ?_|refine q13 ?_|refine q17 rfl ?_)
  refine TO.step rfl (OT.storeL (k := 2) tab 0 rfl rfl rfl rfl rfl rfl rfl rfl ?_)
  repeat (first|refine q1 ?_|refine q3 ?_|refine q4 tab rfl rfl ?_|refine q5 ?_|refine q6 ?_)
  refine TO.step rfl (OT.storeL0 tab 1 rfl rfl rfl rfl rfl rfl rfl rfl ?_)
  repeat (first|refine q5 ?_|refine q6 ?_|refine q15 ?_)
  refine retQ_ret_c1 tab 1 rfl rfl rfl rfl (L' := E.J k true h :: L) (by repeat (first|exact List.Sublist.refl _|refine List.Sublist.cons_cons _ ?_|refine List.Sublist.cons _ ?_)) ⟨.mk 0 [] 0 [], k, true, h, [], hm, hk, ⟨⟨0, [], 0, ⟨none, 0, 0⟩⟩, rfl, rfl, ⟨rfl, rfl, rfl, SlRep.nil _ _⟩⟩, rfl, RS.bad hT⟩
 ·generalize nowD E b k = w at w1 w2 w3 w4 w5 w6 w7 ⊢
  repeat (first|refine q1 ?_|refine q3 ?_|refine q4 tab rfl rfl ?_|refine q5 ?_|refine q6 ?_)
  refine TC.condN rfl (fun w7' => ?_) (fun w7' => ?_)
  ·skip
   repeat (first|refine q3 ?_|refine q4 tab rfl rfl ?_)
   (refine qs rfl (ql tab 0 rfl rfl rfl rfl rfl rfl ?_))
   refine TO.step rfl (OT.arith (r' := ((k + 1 : Nat) : Int)) rfl rfl rfl rfl rfl rfl rfl (by omega) ?_)
   repeat (refine q4 tab rfl rfl ?_)
   refine TO.step rfl (OT.storeL (k := 1) tab 0 rfl rfl rfl rfl rfl rfl rfl rfl ?_)
   repeat (first|refine q1 ?_|refine q2 ?_|refine q3 ?_|refine q4 tab rfl rfl ?_|refine q5 ?_|refine q6 ?_)
   refine TC.condP rfl (fun v1 => ?_) (fun v1 => ?_)
   ·exact absurd v1 w1
   repeat (first|refine q1 ?_|refine q3 ?_|refine q4 tab rfl rfl ?_|refine q5 ?_|refine q6 ?_)
   refine TC.condP rfl (fun v2 => ?_) (fun v2 => ?_)
   ·exact absurd v2 w2
   repeat (first|refine q1 ?_|refine q3 ?_|refine q4 tab rfl rfl ?_|refine q5 ?_|refine q6 ?_)
   refine TC.condP rfl (fun v3 => ?_) (fun v3 => ?_)
   ·exact absurd v3 w3
   repeat (first|refine q1 ?_|refine q3 ?_|refine q4 tab rfl rfl ?_|refine q5 ?_|refine q6 ?_)
   refine TC.condP rfl (fun v4 => ?_) (fun v4 => ?_)
   ·exact absurd v4 w4
   repeat (first|refine q1 ?_|refine q3 ?_|refine q4 tab rfl rfl ?_|refine q5 ?_|refine q6 ?_)
   refine TC.condP rfl (fun v5 => ?_) (fun v5 => ?_)
   ·exact absurd v5 w5
   repeat (first|refine q1 ?_|refine q3 ?_|refine q4 tab rfl rfl ?_|refine q5 ?_|refine q6 ?_)
   refine TC.condP rfl (fun v6 => ?_) (fun v6 => ?_)
   ·exact absurd v6 w6
   repeat (first|refine q1 ?_|refine q3 ?_|refine q4 tab rfl rfl ?_|refine q5 ?_|refine q6 ?_|refine q7 ?_|refine q13 ?_)
   refine TC.condN rfl (fun v7 => ?_) (fun v7 => ?_)
   ·repeat (first|refine q3 ?_|refine q4 tab rfl rfl ?_)
    (refine qs rfl (ql tab 0 rfl rfl rfl rfl rfl rfl ?_))
    refine TO.step rfl (OT.arith (r' := (k : Int)) rfl rfl rfl rfl rfl rfl (by omega) (by omega) ?_)
    repeat (refine q4 tab rfl rfl ?_)
    refine TO.step rfl (OT.storeL (k := 1) tab 0 rfl rfl rfl rfl rfl rfl rfl rfl ?_)
    repeat (first|refine q1 ?_|refine q3 ?_|refine q4 tab rfl rfl ?_|refine q5 ?_|refine q6 ?_)
    refine TO.step rfl (OT.storeL (k := 2) tab 0 rfl rfl rfl rfl rfl rfl rfl rfl ?_)
    repeat (first|refine q1 ?_|refine q3 ?_|refine q4 tab rfl rfl ?_|refine q5 ?_|refine q6 ?_)
    refine TO.step rfl (OT.storeL0 tab 1 rfl rfl rfl rfl rfl rfl rfl rfl ?_)
    repeat (first|refine q5 ?_|refine q6 ?_|refine q15 ?_)
    refine retQ_ret_c1 tab 1 rfl rfl rfl rfl (L' := E.J k true h :: L) (by repeat (first|exact List.Sublist.refl _|refine List.Sublist.cons_cons _ ?_|refine List.Sublist.cons _ ?_)) ⟨.mk 0 [] 0 [], k, true, h, [], hm, hk, ⟨⟨0, [], 0, ⟨none, 0, 0⟩⟩, rfl, rfl, ⟨rfl, rfl, rfl, SlRep.nil _ _⟩⟩, rfl, RS.bad hT⟩
   ·exact absurd v7 w7
  ·exact absurd w7' w7
end
end Go.Sep


/- PrW11 -/
set_option linter.unusedVariables false
set_option linter.unusedSimpArgs false
namespace Go.Sep
open Go.Proofs
attribute [local irreducible] TC TO OT TCallX TCall DO DOt thenQ blockQ retQ At
section
variable {mb : Mem} {E : PE} {h0 : Bool}
set_option maxHeartbeats 4000000 in
theorem runary_rc {X PR Y : Ps.Pp Tree} (hX : RC Tryz.prog mb E vTree 145 [E.v] h0 X) (hP : RC Tryz.prog mb E vTree 148 [E.v] h0 PR) (hY : RC Tryz.prog mb E vTree 127 [E.v] false Y) :
  RC Tryz.prog mb E vTree 145 [E.v] h0 (Ps.oneOf [[45], [33], [38], [42]] (fun op => Ps.bind X fun t => Ps.ret (.mk 52 op 0 [t])) (Ps.bind PR (Ps.postP E.N Y E.N))) := by
 refine RC.enter Tryz.func145 rfl 83 rfl fun m L k b h T hm0 hE hk hS hn => ?_
 replace hX := hX.up hm0
 replace hP := hP.up hm0
 replace hY := hY.up hm0
 have hm : m ≤ m := Mem.le_refl _
 have hrows := hE.rows
 have hfew := hE.few
 repeat (first|refine q1 ?_|refine q3 ?_)
 refine TO.step rfl (OT.alloc tab rfl rfl rfl rfl (fun b2 => ?_)); refine TO.perm (List.Perm.swap _ _ _) ?_
 repeat (first|refine q1 ?_|refine q3 ?_|refine q4 tab rfl rfl ?_|refine q5 ?_|refine q6 ?_)
 refine TO.step rfl (OT.call rfl rfl rfl rfl rfl rfl goes77 ((now_law hE hk).x ?_));
 rintro _ _ _ ⟨rfl, rfl, rfl⟩
 repeat (first|refine q1 ?_|refine q3 ?_|refine q4 tab rfl rfl ?_|refine q5 ?_|refine q6 ?_)
 (refine TO.splitP rfl rfl (fun w1 => ?_) (fun w1 => ?_))
 ·skip
  obtain ⟨rfl, hb'⟩ := now_is (by decide) w1
  rw [w1]
  replace hS : RS E T false (k + 1) h h0 (Ps.bind X fun t => Ps.ret (.mk 52 [45] 0 [t])) := ⟨fun _ => ⟨(hS.1 rfl).1, (hS.1 rfl).2.trans (Ps.oneOf_some (by simp only [List.find?, List.find?, hb']))⟩, fun e => (by cases e)⟩
  replace hk := PE.isM_lt hb'
  repeat (first|refine q1 ?_|refine q3 ?_|refine q4 tab rfl rfl ?_|refine q5 ?_|refine q6 ?_|refine q16 rfl ?_)
  (refine qs rfl (ql tab 0 rfl rfl rfl rfl rfl rfl ?_))
  refine TO.step rfl (OT.arith (r' := ((k + 1 : Nat) : Int)) rfl rfl rfl rfl rfl rfl rfl (by omega) ?_)
  repeat (refine q4 tab rfl rfl ?_)
  refine TO.step rfl (OT.storeL (k := 1) tab 0 rfl rfl rfl rfl rfl rfl rfl rfl ?_)
  repeat (first|refine q1 ?_|refine q3 ?_|refine q4 tab rfl rfl ?_|refine q5 ?_|refine q6 ?_)
  refine TO.step rfl (OT.rcT (hX) hm hS hn hE hk hm rfl rfl rfl rfl rfl rfl goes145 (fun x m2 a k b h hS hm hE hlex hk hrx => ?_))
  skip
  refine TO.step rfl (OT.litR tab rTree (hs := [x]) (l := [a]) ⟨rTree_iff.2 hrx, trivial⟩ rfl rfl rfl rfl rfl (by decide) (fun s m3 hle3 hs ho hc => ?_))
  refine TO.step rfl (OT.node rfl rfl rfl rfl rfl rfl ?_)
  skip
  (refine TO.step rfl (OT.storeL0 tab 1 rfl rfl rfl rfl rfl rfl rfl rfl ?_))
  repeat (first|refine q5 ?_|refine q6 ?_|refine q8 ?_|refine q15 ?_)
  refine retQ_ret_c1 tab 1 rfl rfl rfl rfl (L' := E.J k b h :: L) (by repeat (first|exact List.Sublist.refl _|refine List.Sublist.cons_cons _ ?_|refine List.Sublist.cons _ ?_)) ⟨.mk 52 [45] 0 [a], k, b, h, [], Mem.le_trans hm hle3, hk, ⟨⟨52, [45], 0, s⟩, rfl, rfl, ⟨rfl, rfl, rfl, hs⟩⟩, rfl, hS⟩
 have g1 := now_not (by decide) w1
 repeat (refine q4 tab rfl rfl ?_)
 (refine TO.splitP rfl rfl (fun w2 => ?_) (fun w2 => ?_))
 ·have hb0 := (now_is (by decide) w2).1
  rw [hb0] at g1
  replace g1 : Ps.isM [45] E.f k = false := g1
  obtain ⟨rfl, hb'⟩ := now_is (by decide) w2
  rw [w2]
  replace hS : RS E T false (k + 1) h h0 (Ps.bind X fun t => Ps.ret (.mk 52 [33] 0 [t])) := ⟨fun _ => ⟨(hS.1 rfl).1, (hS.1 rfl).2.trans (Ps.oneOf_some (by simp only [List.find?, g1, hb']))⟩, fun e => (by cases e)⟩
  replace hk := PE.isM_lt hb'
  repeat (first|refine q1 ?_|refine q3 ?_|refine q4 tab rfl rfl ?_|refine q5 ?_|refine q6 ?_|refine q16 rfl ?_)
  (refine qs rfl (ql tab 0 rfl rfl rfl rfl rfl rfl ?_))
  refine TO.step rfl (OT.arith (r' := ((k + 1 : Nat) : Int)) rfl rfl rfl rfl rfl rfl rfl (by omega) ?_)
  repeat (refine q4 tab rfl rfl ?_)
  refine TO.step rfl (OT.storeL (k := 1) tab 0 rfl rfl rfl rfl rfl rfl rfl rfl ?_)
  repeat (first|refine q1 ?_|refine q3 ?_|refine q4 tab rfl rfl ?_|refine q5 ?_|refine q6 ?_)
  refine TO.step rfl (OT.rcT (hX) hm hS hn hE hk hm rfl rfl rfl rfl rfl rfl goes145 (fun x m2 a k b h hS hm hE hlex hk hrx => ?_))
  skip
  refine TO.step rfl (OT.litR tab rTree (hs := [x]) (l := [a]) ⟨rTree_iff.2 hrx, trivial⟩ rfl rfl rfl rfl rfl (by decide) (fun s m3 hle3 hs ho hc => ?_))
  refine TO.step rfl (OT.node rfl rfl rfl rfl rfl rfl ?_)
  skip
  (refine TO.step rfl (OT.storeL0 tab 1 rfl rfl rfl rfl rfl rfl rfl rfl ?_))
  repeat (first|refine q5 ?_|refine q6 ?_|refine q8 ?_|refine q15 ?_)
  refine retQ_ret_c1 tab 1 rfl rfl rfl rfl (L' := E.J k b h :: L) (by repeat (first|exact List.Sublist.refl _|refine List.Sublist.cons_cons _ ?_|refine List.Sublist.cons _ ?_)) ⟨.mk 52 [33] 0 [a], k, b, h, [], Mem.le_trans hm hle3, hk, ⟨⟨52, [33], 0, s⟩, rfl, rfl, ⟨rfl, rfl, rfl, hs⟩⟩, rfl, hS⟩
 have g2 := now_not (by decide) w2
 repeat (refine q4 tab rfl rfl ?_)
 (refine TO.splitP rfl rfl (fun w3 => ?_) (fun w3 => ?_))
 ·have hb0 := (now_is (by decide) w3).1
  rw [hb0] at g1 g2
  replace g1 : Ps.isM [45] E.f k = false := g1
  replace g2 : Ps.isM [33] E.f k = false := g2
  obtain ⟨rfl, hb'⟩ := now_is (by decide) w3
  rw [w3]
  replace hS : RS E T false (k + 1) h h0 (Ps.bind X fun t => Ps.ret (.mk 52 [38] 0 [t])) := ⟨fun _ => ⟨(hS.1 rfl).1, (hS.1 rfl).2.trans (Ps.oneOf_some (by simp only [List.find?, g1, g2, hb']))⟩, fun e => (by cases e)⟩
  replace hk := PE.isM_lt hb'
  repeat (first|refine q1 ?_|refine q3 ?_|refine q4 tab rfl rfl ?_|refine q5 ?_|refine q6 ?_|refine q16 rfl ?_)
  (refine qs rfl (ql tab 0 rfl rfl rfl rfl rfl rfl ?_))
  refine TO.step rfl (OT.arith (r' := ((k + 1 : Nat) : Int)) rfl rfl rfl rfl rfl rfl rfl (by omega) ?_)
  repeat (refine q4 tab rfl rfl ?_)
  refine TO.step rfl (OT.storeL (k := 1) tab 0 rfl rfl rfl rfl rfl rfl rfl rfl ?_)
  repeat (first|refine q1 ?_|refine q3 ?_|refine q4 tab rfl rfl ?_|refine q5 ?_|refine q6 ?_)
  refine TO.step rfl (OT.rcT (hX) hm hS hn hE hk hm rfl rfl rfl rfl rfl rfl goes145 (fun x m2 a k b h hS hm hE hlex hk hrx => ?_))
  skip
  refine TO.step rfl (OT.litR tab rTree (hs := [x]) (l := [a]) ⟨rTree_iff.2 hrx, trivial⟩ rfl rfl rfl rfl rfl (by decide) (fun s m3 hle3 hs ho hc => ?_))
  refine TO.step rfl (OT.node rfl rfl rfl rfl rfl rfl ?_)
  skip
  (refine TO.step rfl (OT.storeL0 tab 1 rfl rfl rfl rfl rfl rfl rfl rfl ?_))
  repeat (first|refine q5 ?_|refine q6 ?_|refine q8 ?_|refine q15 ?_)
  refine retQ_ret_c1 tab 1 rfl rfl rfl rfl (L' := E.J k b h :: L) (by repeat (first|exact List.Sublist.refl _|refine List.Sublist.cons_cons _ ?_|refine List.Sublist.cons _ ?_)) ⟨.mk 52 [38] 0 [a], k, b, h, [], Mem.le_trans hm hle3, hk, ⟨⟨52, [38], 0, s⟩, rfl, rfl, ⟨rfl, rfl, rfl, hs⟩⟩, rfl, hS⟩
 have g3 := now_not (by decide) w3
 repeat (first|refine q4 tab rfl rfl ?_|refine q5 ?_|refine q6 ?_)
 refine TC.condP rfl (fun w4 => ?_) (fun w4 => ?_)
 ·have hb0 := (now_is (by decide) w4).1
  rw [hb0] at g1 g2 g3
  replace g1 : Ps.isM [45] E.f k = false := g1
  replace g2 : Ps.isM [33] E.f k = false := g2
  replace g3 : Ps.isM [38] E.f k = false := g3
  obtain ⟨rfl, hb'⟩ := now_is (by decide) w4
  rw [w4]
  replace hS : RS E T false (k + 1) h h0 (Ps.bind X fun t => Ps.ret (.mk 52 [42] 0 [t])) := ⟨fun _ => ⟨(hS.1 rfl).1, (hS.1 rfl).2.trans (Ps.oneOf_some (by simp only [List.find?, g1, g2, g3, hb']))⟩, fun e => (by cases e)⟩
  replace hk := PE.isM_lt hb'
  repeat (first|refine q1 ?_|refine q3 ?_|refine q4 tab rfl rfl ?_)
  (refine qs rfl (ql tab 0 rfl rfl rfl rfl rfl rfl ?_))
  refine TO.step rfl (OT.arith (r' := ((k + 1 : Nat) : Int)) rfl rfl rfl rfl rfl rfl rfl (by omega) ?_)
  repeat (refine q4 tab rfl rfl ?_)
  refine TO.step rfl (OT.storeL (k := 1) tab 0 rfl rfl rfl rfl rfl rfl rfl rfl ?_)
  repeat (first|refine q1 ?_|refine q3 ?_|refine q4 tab rfl rfl ?_|refine q5 ?_|refine q6 ?_)
  refine TO.step rfl (OT.rcT (hX) hm hS hn hE hk hm rfl rfl rfl rfl rfl rfl goes145 (fun x m2 a k b h hS hm hE hlex hk hrx => ?_))
  skip
  refine TO.step rfl (OT.litR tab rTree (hs := [x]) (l := [a]) ⟨rTree_iff.2 hrx, trivial⟩ rfl rfl rfl rfl rfl (by decide) (fun s m3 hle3 hs ho hc => ?_))
  refine TO.step rfl (OT.node rfl rfl rfl rfl rfl rfl ?_)
  skip
  (refine TO.step rfl (OT.storeL0 tab 1 rfl rfl rfl rfl rfl rfl rfl rfl ?_))
  repeat (first|refine q5 ?_|refine q6 ?_|refine q8 ?_|refine q15 ?_)
  refine retQ_ret_c1 tab 1 rfl rfl rfl rfl (L' := E.J k b h :: L) (by repeat (first|exact List.Sublist.refl _|refine List.Sublist.cons_cons _ ?_|refine List.Sublist.cons _ ?_)) ⟨.mk 52 [42] 0 [a], k, b, h, [], Mem.le_trans hm hle3, hk, ⟨⟨52, [42], 0, s⟩, rfl, rfl, ⟨rfl, rfl, rfl, hs⟩⟩, rfl, hS⟩
 have g4 := now_not (by decide) w4
 replace hS : RS E T b k h h0 (Ps.bind PR (Ps.postP E.N Y E.N)) := hS.to fun e => Ps.oneOf_none (by
  rw [e] at g1 g2 g3 g4
  simp only [Bool.not_false, Bool.true_and] at g1 g2 g3 g4
  simp only [List.find?, g1, g2, g3, g4])
 clear g1 g2 g3 g4
 repeat (first|refine q1 ?_|refine q3 ?_|refine q4 tab rfl rfl ?_|refine q6 ?_|refine q13 ?_)
 refine TO.step rfl (OT.rcT (hP) hm hS hn hE hk hm rfl rfl rfl rfl rfl rfl goes148 (fun x m1 a k b h hS hm hE hlex hk hrx => ?_))
 replace hY := hY.up hm
 skip
 refine TO.step rfl (OT.alloc tab rfl rfl rfl rfl (fun b4 => ?_)); refine TO.perm (List.Perm.swap _ _ _) ?_
 skip
 (refine TO.step rfl (OT.storeL0 tab 1 rfl rfl rfl rfl rfl rfl rfl rfl ?_))
 repeat (first|refine q1 ?_|refine q2 ?_|refine q5 ?_|refine q6 ?_)
 refine TC.loopK (ι := HTree × Mem × Tree × Nat × Bool × Bool × Nat) [0, 2, 4] rfl (fun _ => []) (fun x => x.2.1) (fun x => E.J x.2.2.2.1 x.2.2.2.2.1 x.2.2.2.2.2.1 :: .cells b4 0 (treeC x.1) :: .cells b2 0 [.int .i64 0, strV [], .int .i64 0, .slice none 0 0] :: L) (fun x => m1 ≤ x.2.1 ∧ m ≤ x.2.1 ∧ E.Ok x.2.1 ∧ x.2.2.2.1 ≤ E.toks.length ∧ TreeRep x.2.1 x.1 x.2.2.1 ∧ RS E T x.2.2.2.2.1 x.2.2.2.1 x.2.2.2.2.2.1 h0 (Ps.postP E.N Y x.2.2.2.2.2.2 x.2.2.1)) (fun x => x.2.2.2.2.2.2) (x, m1, a, k, b, h, E.N) (by repeat (exact trivial)) rfl (by repeat (exact List.Sublist.refl _)) ⟨Mem.le_refl _, hm, hE, hk, hrx, hS⟩ ?_
 clear hS hk hE hm hrx w1 w2 w3 w4
 rintro ⟨x, m2, n, k, b, h, N⟩ ⟨hm12, hm, hE, hk, hrx, hS⟩
 simp only at hm12 hm hE hk hrx hS
 show TC _ _ _ _ _ m2 (E.J k b h :: .cells b4 0 (treeC x) :: .cells b2 0 [.int .i64 0, strV [], .int .i64 0, .slice none 0 0] :: L) _
 replace hY := hY.up hm12
 have hmm : m2 ≤ m2 := Mem.le_refl _
 repeat (first|refine q1 ?_|refine q3 ?_|refine q4 tab rfl rfl ?_)
 (refine qs rfl (ql tab 0 rfl rfl rfl rfl rfl rfl ?_))
 cases b with
 | true =>
  replace hS := hS.any h (rest' := Ps.ret n)
  repeat (first|refine q1 ?_|refine q3 ?_|refine q4 tab rfl rfl ?_|refine q5 ?_|refine q6 ?_|refine q10 ?_|refine q11 ?_|refine q14 ?_|refine q17 rfl ?_)
  (refine qs rfl (qz tab 1 rfl rfl rfl rfl rfl rfl ?_))
  skip
  refine TO.step rfl (OT.storeL0 tab 2 rfl rfl rfl rfl rfl rfl rfl rfl ?_)
  repeat (first|refine q5 ?_|refine q6 ?_|refine q15 ?_)
  refine retQ_ret_c1 tab 2 rfl rfl rfl rfl (L' := E.J k true h :: L) (by repeat (first|exact List.Sublist.refl _|refine List.Sublist.cons_cons _ ?_|refine List.Sublist.cons _ ?_)) ⟨n, k, true, h, [], hm, hk, ⟨x, rfl, rfl, hrx⟩, rfl, hS⟩
 | false =>
 obtain ⟨hh, -⟩ := hS.1 rfl
 subst hh
 cases N with
 | zero => exact absurd (hS.1 rfl).2 hn
 | succ N =>
 replace hS : RS E T false k h h (Ps.tok [46] (Ps.name fun s => Ps.postP E.N Y N (.mk 48 s 0 [n])) (Ps.tok [91] (Ps.bind (Ps.indexP Y n) fun t => Ps.postP E.N Y N t) (Ps.tok [40] (Ps.bind (Ps.exprsP E.N [41] Y) fun l => Ps.postP E.N Y N (.mk 51 [] 0 (n :: l))) (Ps.ret n)))) := hS
 repeat (first|refine q1 ?_|refine q2 ?_|refine q3 ?_|refine q4 tab rfl rfl ?_|refine q5 ?_|refine q6 ?_|refine q13 ?_|refine q16 rfl ?_)
 (refine qs rfl (ql tab 0 rfl rfl rfl rfl rfl rfl ?_))
 repeat (first|refine q1 ?_|refine q2 ?_|refine q3 ?_|refine q4 tab rfl rfl ?_|refine q5 ?_|refine q6 ?_)
 refine TO.step rfl (OT.rtake (by decide) hS hE hk rfl rfl rfl rfl rfl rfl (fun hS hk => ?_) (fun hS => ?_))
 ·repeat (first|refine q4 tab rfl rfl ?_|refine q5 ?_|refine q6 ?_|refine q16 rfl ?_)
  refine TC.draw [5] mixed 6 rfl [.cells b4 0 (treeC x)] (E.J (k + 1) false h :: .cells b2 0 [.int .i64 0, strV [], .int .i64 0, .slice none 0 0] :: L) (List.Perm.swap _ _ _) ?_
  refine DO.pure tab (by repeat (first|exact Calm.ret|refine Calm.then ?_|refine Calm.block ?_)) (by kernel_rfl) [0] (by kernel_rfl) rfl ?_
  refine DO.loadL (k := 0) tab 2 0 (by repeat (first|exact Calm.ret|refine Calm.then ?_|refine Calm.block ?_)) (by kernel_rfl) (by kernel_rfl) rfl rfl rfl rfl rfl rfl rfl rfl ?_
  refine DO.fork 1 [3] (by kernel_rfl) ⟨⟨_, rfl, rfl, rfl, ?_⟩, ⟨_, rfl, rfl, rfl, ?_⟩, trivial⟩
  ·refine OT.perm (List.Perm.swap _ _ _) (OT.rname hS hE hk rfl rfl rfl rfl rfl rfl (fun t b' k' hS hk' => ?_))
   refine ⟨Mem.le_refl _, E.J k' b' h :: .cells b2 0 [.int .i64 0, strV [], .int .i64 0, .slice none 0 0] :: L, List.Perm.swap _ _ _, ?_⟩
   refine DO.run 3 rfl rfl (by kernel_rfl) rfl ?_
   refine OT.litR tab rTree (hs := [x]) (l := [n]) ⟨rTree_iff.2 hrx, trivial⟩ rfl rfl rfl rfl rfl (by decide) (fun s mB hleB hs ho hc => ?_)
   refine ⟨hleB, _, List.Perm.refl _, ?_⟩
   refine DO.run 4 rfl rfl (by kernel_rfl) rfl ?_
   refine OT.node rfl rfl rfl rfl rfl rfl ?_
   refine ⟨Mem.le_refl _, _, List.Perm.refl _, ?_⟩
   refine DO.tail ?_
   refine DOt.run 5 rfl rfl (by kernel_rfl) rfl ?_
   refine OT.storeL0 tab 0 rfl rfl rfl rfl rfl rfl rfl rfl ?_
   refine DOt.perm (List.Perm.swap _ _ _) ?_
   refine DOt.nil (by kernel_rfl) ?_
   replace hS := hS.set h
   repeat (first|refine q3 ?_|refine q4 tab rfl rfl ?_|refine q6 ?_|refine q7 ?_)
   refine TO.step rfl (OT.storeL (k := 3) tab 0 rfl rfl rfl rfl rfl rfl rfl rfl ?_)
   repeat (first|refine q5 ?_|refine q6 ?_|refine q7 ?_)
   exact ⟨(⟨48, t, 0, s⟩, mB, Tree.mk 48 t 0 [n], k', b', h, N), (by repeat (exact trivial)), (by repeat (first|exact trivial|refine And.intro rfl ?_)), rfl, rfl, (by repeat (exact List.Sublist.refl _)), ⟨Mem.le_trans hm12 hleB, Mem.le_trans hm hleB, hE.mono hleB, hk', ⟨rfl, rfl, rfl, hs⟩, hS⟩, by simp only; omega⟩
  ·skip
   refine OT.litR tab rTree (hs := [x]) (l := [n]) ⟨rTree_iff.2 hrx, trivial⟩ rfl rfl rfl rfl rfl (by decide) (fun s mB hleB hs ho hc => ?_)
   refine ⟨hleB, _, List.Perm.refl _, ?_⟩
   refine DO.run 1 rfl rfl (by kernel_rfl) rfl ?_
   refine OT.perm (List.Perm.swap _ _ _) (OT.rname hS (hE.mono hleB) hk rfl rfl rfl rfl rfl rfl (fun t b' k' hS hk' => ?_))
   refine ⟨Mem.le_refl _, E.J k' b' h :: .cells b2 0 [.int .i64 0, strV [], .int .i64 0, .slice none 0 0] :: L, List.Perm.swap _ _ _, ?_⟩
   refine DO.run 4 rfl rfl (by kernel_rfl) rfl ?_
   refine OT.node rfl rfl rfl rfl rfl rfl ?_
   refine ⟨Mem.le_refl _, _, List.Perm.refl _, ?_⟩
   refine DO.tail ?_
   refine DOt.run 5 rfl rfl (by kernel_rfl) rfl ?_
   refine OT.storeL0 tab 0 rfl rfl rfl rfl rfl rfl rfl rfl ?_
   refine DOt.perm (List.Perm.swap _ _ _) ?_
   refine DOt.nil (by kernel_rfl) ?_
   replace hS := hS.set h
   repeat (first|refine q3 ?_|refine q4 tab rfl rfl ?_|refine q6 ?_|refine q7 ?_)
   refine TO.step rfl (OT.storeL (k := 3) tab 0 rfl rfl rfl rfl rfl rfl rfl rfl ?_)
   repeat (first|refine q5 ?_|refine q6 ?_|refine q7 ?_)
   exact ⟨(⟨48, t, 0, s⟩, mB, Tree.mk 48 t 0 [n], k', b', h, N), (by repeat (exact trivial)), (by repeat (first|exact trivial|refine And.intro rfl ?_)), rfl, rfl, (by repeat (exact List.Sublist.refl _)), ⟨Mem.le_trans hm12 hleB, Mem.le_trans hm hleB, hE.mono hleB, hk', ⟨rfl, rfl, rfl, hs⟩, hS⟩, by simp only; omega⟩
 repeat (first|refine q1 ?_|refine q3 ?_|refine q4 tab rfl rfl ?_|refine q5 ?_|refine q6 ?_|refine q17 rfl ?_)
 refine TO.step rfl (OT.rtake (by decide) hS hE hk rfl rfl rfl rfl rfl rfl (fun hS hk => ?_) (fun hS => ?_))
 ·replace hS := hS.set false
  repeat (first|refine q1 ?_|refine q3 ?_|refine q4 tab rfl rfl ?_|refine q5 ?_|refine q6 ?_|refine q16 rfl ?_)
  refine TO.step rfl (OT.storeL (k := 3) tab 0 rfl rfl rfl rfl rfl rfl rfl rfl ?_)
  repeat (first|refine q3 ?_|refine q4 tab rfl rfl ?_|refine q5 ?_|refine q6 ?_)
  (refine qs rfl (qz tab 1 rfl rfl rfl rfl rfl rfl ?_))
  refine TO.step rfl (OT.rcT (rindex_rc hY x n hrx) hmm hS hn hE hk hm rfl rfl rfl rfl rfl rfl goes149 (fun y mB e k' b' h' hS hm hE hleB hk hry => ?_))
  replace hS := hS.set h
  skip
  refine TO.step rfl (OT.storeL0 tab 1 rfl rfl rfl rfl rfl rfl rfl rfl ?_)
  repeat (first|refine q3 ?_|refine q4 tab rfl rfl ?_|refine q5 ?_|refine q6 ?_|refine q7 ?_)
  refine TO.step rfl (OT.storeL (k := 3) tab 0 rfl rfl rfl rfl rfl rfl rfl rfl ?_)
  repeat (first|refine q5 ?_|refine q6 ?_|refine q7 ?_)
  exact ⟨(y, mB, e, k', b', h, N), (by repeat (exact trivial)), (by repeat (first|exact trivial|refine And.intro rfl ?_)), rfl, rfl, (by repeat (exact List.Sublist.refl _)), ⟨Mem.le_trans hm12 hleB, hm, hE, hk, hry, hS⟩, by simp only; omega⟩
 repeat (first|refine q1 ?_|refine q3 ?_|refine q4 tab rfl rfl ?_|refine q5 ?_|refine q6 ?_|refine q17 rfl ?_)
 refine TO.step rfl (OT.rtake (by decide) hS hE hk rfl rfl rfl rfl rfl rfl (fun hS hk => ?_) (fun hS => ?_))
 ·replace hS := hS.set false
  repeat (first|refine q1 ?_|refine q3 ?_|refine q4 tab rfl rfl ?_|refine q5 ?_|refine q6 ?_|refine q16 rfl ?_)
  refine TO.step rfl (OT.storeL (k := 3) tab 0 rfl rfl rfl rfl rfl rfl rfl rfl ?_)
  repeat (first|refine q1 ?_|refine q3 ?_|refine q5 ?_|refine q6 ?_)
  (refine qs rfl (qz tab 1 rfl rfl rfl rfl rfl rfl ?_))
  refine TO.step rfl (OT.litR tab rTree (hs := [x]) (l := [n]) ⟨rTree_iff.2 hrx, trivial⟩ rfl rfl rfl rfl rfl (by decide) (fun s mB hleB hs ho hc => ?_))
  replace hm := Mem.le_trans hm hleB
  replace hE := hE.mono hleB
  replace hY := hY.up hleB
  refine TO.step rfl (OT.node rfl rfl rfl rfl rfl rfl ?_)
  refine TO.tokFo hc ho 4 ?_
  refine TO.perm (L' := E.J (k + 1) false false :: .cells b4 0 (treeC x) :: tok s 4 :: .cells b2 0 [.int .i64 0, strV [], .int .i64 0, .slice none 0 0] :: L) ((List.Perm.trans pfr1 (List.Perm.cons _ pfr1))) ?_
  skip
  refine TO.step rfl (OT.storeL0 tab 1 rfl rfl rfl rfl rfl rfl rfl rfl ?_)
  repeat (first|refine q5 ?_|refine q6 ?_)
  refine TC.draw [6] mixed 7 rfl [.cells b4 0 [.int .i64 51, strV [], .int .i64 0, s.v]] (E.J (k + 1) false false :: tok s 4 :: .cells b2 0 [.int .i64 0, strV [], .int .i64 0, .slice none 0 0] :: L) (List.Perm.swap _ _ _) ?_
  refine DO.pure tab (by repeat (first|exact Calm.ret|refine Calm.then ?_|refine Calm.block ?_)) (by kernel_rfl) [0] (by kernel_rfl) rfl ?_
  (refine DO.loadL tab 1 0 (by repeat (first|exact Calm.ret|refine Calm.then ?_|refine Calm.block ?_)) (by kernel_rfl) (by kernel_rfl) rfl rfl rfl rfl rfl rfl rfl rfl ?_)
  refine DO.pure tab (by repeat (first|exact Calm.ret|refine Calm.then ?_|refine Calm.block ?_)) (by kernel_rfl) [2] (by kernel_rfl) rfl ?_
  refine DO.run 3 rfl rfl (by kernel_rfl) rfl ?_
  refine OT.perm (List.Perm.swap _ _ _) (OT.rcS (runtil_rc hY [41] (by decide)) (Mem.le_refl _) hS hn hE hk hm rfl rfl rfl rfl rfl rfl goes150 (fun y mA l k' b' h' hS hm hE hleA hk hry hly => ?_)); refine ⟨hleA, E.J k' b' h' :: tok s 4 :: .cells b2 0 [.int .i64 0, strV [], .int .i64 0, .slice none 0 0] :: L, List.Perm.swap _ _ _, ?_⟩
  refine DO.run 4 rfl rfl (by kernel_rfl) rfl ?_
  refine OT.append tab rTree 2 (hs.mono hleA) ho hry rfl rfl rfl rfl rfl rfl rfl (by simp only [List.length_cons, List.length_nil, rTree, mkR]; omega) (fun s3 mC hleC hs3 ho3 => ?_); refine ⟨hleC, E.J k' b' h' :: tok s3 4 :: .cells b2 0 [.int .i64 0, strV [], .int .i64 0, .slice none 0 0] :: L, List.Perm.refl _, ?_⟩
  refine DO.pure tab (by repeat (first|exact Calm.ret|refine Calm.then ?_|refine Calm.block ?_)) (by kernel_rfl) [5] (by kernel_rfl) rfl ?_
  refine DO.tail ?_
  refine DOt.run 6 rfl rfl (by kernel_rfl) rfl ?_
  refine OT.storeL (k := 3) tab 0 rfl rfl rfl rfl rfl rfl rfl rfl ?_; refine DOt.perm (List.Perm.swap _ _ _) ?_
  refine DOt.nil (by kernel_rfl) ?_
  rotate_left 1
  replace hS := hS.set h
  repeat (first|refine q3 ?_|refine q4 tab rfl rfl ?_|refine q6 ?_|refine q7 ?_)
  refine TO.step rfl (OT.storeL (k := 3) tab 0 rfl rfl rfl rfl rfl rfl rfl rfl ?_)
  repeat (first|refine q5 ?_|refine q6 ?_|refine q7 ?_)
  exact ⟨(⟨51, [], 0, s3⟩, mC, Tree.mk 51 [] 0 (n :: l), k', b', h, N), (by repeat (exact trivial)), (by repeat (first|exact trivial|refine And.intro rfl ?_)), rfl, rfl, (by repeat (first|exact List.Sublist.refl _|refine List.Sublist.cons_cons _ ?_|refine List.Sublist.cons _ ?_)), ⟨Mem.le_trans hm12 (Mem.le_trans hleB (Mem.le_trans hleA hleC)), Mem.le_trans hm hleC, hE.mono hleC, hk, ⟨rfl, rfl, rfl, hs3⟩, hS⟩, by simp only; omega⟩
 ·skip
  repeat (first|refine q1 ?_|refine q3 ?_|refine q4 tab rfl rfl ?_|refine q5 ?_|refine q6 ?_|refine q17 rfl ?_)
  (refine qs rfl (qz tab 1 rfl rfl rfl rfl rfl rfl ?_))
  skip
  refine TO.step rfl (OT.storeL0 tab 2 rfl rfl rfl rfl rfl rfl rfl rfl ?_)
  repeat (first|refine q5 ?_|refine q6 ?_|refine q8 ?_|refine q9 ?_|refine q15 ?_)
  refine retQ_ret_c1 tab 2 rfl rfl rfl rfl (L' := E.J k false h :: L) (by repeat (first|exact List.Sublist.refl _|refine List.Sublist.cons_cons _ ?_|refine List.Sublist.cons _ ?_)) ⟨n, k, false, h, [], hm, hk, ⟨x, rfl, rfl, hrx⟩, rfl, hS⟩
structure GR (mb : Mem) (E : PE) (g : Ps.Gr) : Prop where
 typ : ∀ h, RC Tryz.prog mb E vTree 39 [E.v] h g.typ
 block : ∀ h, RC Tryz.prog mb E vTree 40 [E.v] h g.block
 stmt : RC Tryz.prog mb E vTree 81 [E.v] false g.stmt
 expr : ∀ b, RC Tryz.prog mb E vTree 127 [E.v] b (g.expr b)
 unary : ∀ b, RC Tryz.prog mb E vTree 145 [E.v] b (g.unary b)
end
end Go.Sep


/- PrW12 -/
set_option linter.unusedVariables false
set_option linter.unusedSimpArgs false
namespace Go.Sep
open Go.Proofs
attribute [local irreducible] TC TO OT TCallX TCall DO DOt thenQ blockQ retQ At
section
variable {mb : Mem} {E : PE} {h0 : Bool}
theorem RC.toDry {f : FuncId} {args : List Value} {V : RV Tree} {X : Ps.Pp Tree} (hX : RC Tryz.prog mb E V f args h0 X) : RC Tryz.prog mb E V f args h0 Ps.dry := by
 intro m L k b h h1 h2 h3 h4
 cases b with
 | false => exact absurd rfl (h4 rfl).2
 | true =>
  refine TCall.mono (hX m L k true h h1 h2 h3 (fun e => by cases e)) ?_
  rintro v m' L' ⟨a, k', b', h', xs, q1, q2, q3, q4, q5⟩
  refine ⟨a, k', b', h', xs, q1, q2, q3, q4, ?_⟩
  rcases q5 with q5 | ⟨q5, _⟩ | ⟨q5, _⟩
  ·exact .inl q5
  ·cases q5
  ·cases q5
theorem RS.dryT {T : Ps.Res Tree} {b : Bool} {k : Nat} {h : Bool} (hS : RS E T b k h h0 Ps.dry) (hn : T ≠ .out) : b = true ∧ T = .bad k := by
 cases b with
 | false => exact (hS.dry hn).elim
 | true => exact ⟨rfl, hS.2 rfl⟩
theorem typ_dry : RC Tryz.prog mb E vTree 39 [E.v] h0 Ps.dry := by
 refine RC.enter Tryz.func39 rfl 73 rfl fun m L k b h T hm0 hE hk hS hn => ?_
 obtain ⟨rfl, hT⟩ := hS.dryT hn
 repeat (first|refine q1 ?_|refine q3 ?_)
 refine TO.step rfl (OT.alloc tab rfl rfl rfl rfl (fun b2 => ?_)); refine TO.perm (List.Perm.swap _ _ _) ?_
 repeat (first|refine q1 ?_|refine q3 ?_|refine q4 tab rfl rfl ?_|refine q5 ?_|refine q6 ?_)
 (refine qs rfl (ql tab 0 rfl rfl rfl rfl rfl rfl ?_))
 repeat (first|refine q1 ?_|refine q3 ?_|refine q4 tab rfl rfl ?_|refine q5 ?_|refine q6 ?_|refine q16 rfl ?_)
 (refine TO.step rfl (OT.storeL0 tab 1 rfl rfl rfl rfl rfl rfl rfl rfl ?_))
 repeat (first|refine q5 ?_|refine q6 ?_|refine q8 ?_|refine q15 ?_)
 refine retQ_ret_c1 tab 1 rfl rfl rfl rfl (L' := E.J k true h :: L) (by repeat (first|exact List.Sublist.refl _|refine List.Sublist.cons_cons _ ?_|refine List.Sublist.cons _ ?_)) ⟨.mk 0 [] 0 [], k, true, h, [], Mem.le_refl _, hk, ⟨⟨0, [], 0, ⟨none, 0, 0⟩⟩, rfl, rfl, ⟨rfl, rfl, rfl, SlRep.nil _ _⟩⟩, rfl, RS.bad hT⟩
set_option maxHeartbeats 1000000 in
theorem primary_dry : RC Tryz.prog mb E vTree 148 [E.v] h0 Ps.dry := by
 refine RC.enter Tryz.func148 rfl 156 rfl fun m L k b h T hm0 hE hk hS hn => ?_
 obtain ⟨rfl, hT⟩ := hS.dryT hn
 repeat (first|refine q1 ?_|refine q3 ?_)
 refine TO.step rfl (OT.alloc tab rfl rfl rfl rfl (fun b2 => ?_)); refine TO.perm (List.Perm.swap _ _ _) ?_
 repeat (first|refine q1 ?_|refine q3 ?_|refine q4 tab rfl rfl ?_|refine q5 ?_|refine q6 ?_)
 (refine qs rfl (ql tab 0 rfl rfl rfl rfl rfl rfl ?_))
 repeat (first|refine q1 ?_|refine q3 ?_|refine q4 tab rfl rfl ?_|refine q5 ?_|refine q6 ?_)
 refine TO.step rfl (OT.call rfl rfl rfl rfl rfl rfl goes78 ((kind_law hE hk).x ?_));
 rintro _ _ _ ⟨rfl, rfl, rfl⟩
 rw [show kindD E true k = 0 from rfl]
 repeat (first|refine q1 ?_|refine q2 ?_|refine q3 ?_|refine q4 tab rfl rfl ?_|refine q5 ?_|refine q6 ?_|refine q7 ?_|refine q13 ?_|refine q17 rfl ?_)
 refine TO.step rfl (OT.call rfl rfl rfl rfl rfl rfl goes77 ((now_law hE hk).x ?_));
 rintro _ _ _ ⟨rfl, rfl, rfl⟩
 rw [show nowD E true k = [] from rfl]
 repeat (first|refine q1 ?_|refine q2 ?_|refine q3 ?_|refine q4 tab rfl rfl ?_|refine q5 ?_|refine q6 ?_|refine q7 ?_|refine q13 ?_|refine q17 rfl ?_)
 refine TO.step rfl (OT.storeL (k := 2) tab 0 rfl rfl rfl rfl rfl rfl rfl rfl ?_)
 repeat (first|refine q1 ?_|refine q3 ?_|refine q4 tab rfl rfl ?_|refine q5 ?_|refine q6 ?_)
 refine TO.step rfl (OT.storeL0 tab 1 rfl rfl rfl rfl rfl rfl rfl rfl ?_)
 repeat (first|refine q5 ?_|refine q6 ?_|refine q15 ?_)
 refine retQ_ret_c1 tab 1 rfl rfl rfl rfl (L' := E.J k true h :: L) (by repeat (first|exact List.Sublist.refl _|refine List.Sublist.cons_cons _ ?_|refine List.Sublist.cons _ ?_)) ⟨.mk 0 [] 0 [], k, true, h, [], Mem.le_refl _, hk, ⟨⟨0, [], 0, ⟨none, 0, 0⟩⟩, rfl, rfl, ⟨rfl, rfl, rfl, SlRep.nil _ _⟩⟩, rfl, RS.bad hT⟩
set_option maxHeartbeats 1000000 in
theorem unary_dry : RC Tryz.prog mb E vTree 145 [E.v] h0 Ps.dry := by
 refine RC.enter Tryz.func145 rfl 83 rfl fun m L k b h T hm0 hE hk hS hn => ?_
 have hP := (primary_dry (mb := mb) (E := E) (h0 := h0)).up hm0
 have hm : m ≤ m := Mem.le_refl _
 replace hS := hS.eq (Ps.bind_ret Ps.dry).symm
 have hbT := hS.dryT hn
 obtain ⟨hb, hT⟩ := hbT
 subst hb
 repeat (first|refine q1 ?_|refine q3 ?_)
 refine TO.step rfl (OT.alloc tab rfl rfl rfl rfl (fun b2 => ?_)); refine TO.perm (List.Perm.swap _ _ _) ?_
 repeat (first|refine q1 ?_|refine q3 ?_|refine q4 tab rfl rfl ?_|refine q5 ?_|refine q6 ?_)
 refine TO.step rfl (OT.call rfl rfl rfl rfl rfl rfl goes77 ((now_law hE hk).x ?_));
 rintro _ _ _ ⟨rfl, rfl, rfl⟩
 rw [show nowD E true k = [] from rfl]
 repeat (first|refine q1 ?_|refine q3 ?_|refine q4 tab rfl rfl ?_|refine q5 ?_|refine q6 ?_|refine q13 ?_|refine q17 rfl ?_)
 refine TO.step rfl (OT.rcT (hP) hm hS hn hE hk hm rfl rfl rfl rfl rfl rfl goes148 (fun x m1 a k b h hS hm hE hlex hk hrx => ?_))
 have hb : b = true := by
  cases b with
  | true => rfl
  | false => have := (hS.1 rfl).2; rw [hT] at this; cases this
 subst hb
 skip
 refine TO.step rfl (OT.alloc tab rfl rfl rfl rfl (fun b4 => ?_)); refine TO.perm (List.Perm.swap _ _ _) ?_
 skip
 (refine TO.step rfl (OT.storeL0 tab 1 rfl rfl rfl rfl rfl rfl rfl rfl ?_))
 repeat (first|refine q1 ?_|refine q2 ?_|refine q5 ?_|refine q6 ?_)
 refine TC.loopK (ι := Unit) [0, 2, 4] rfl (fun _ => []) (fun x => m1) (fun _ => E.J k true h :: .cells b4 0 (treeC x) :: .cells b2 0 [.int .i64 0, strV [], .int .i64 0, .slice none 0 0] :: L) (fun x => True) (fun x => 0) () (by repeat (exact trivial)) rfl (by repeat (exact List.Sublist.refl _)) trivial ?_
 rintro - -
 show TC _ _ _ _ _ m1 (E.J k true h :: .cells b4 0 (treeC x) :: .cells b2 0 [.int .i64 0, strV [], .int .i64 0, .slice none 0 0] :: L) _
 repeat (first|refine q1 ?_|refine q3 ?_|refine q4 tab rfl rfl ?_)
 (refine qs rfl (ql tab 0 rfl rfl rfl rfl rfl rfl ?_))
 repeat (first|refine q1 ?_|refine q3 ?_|refine q4 tab rfl rfl ?_|refine q5 ?_|refine q6 ?_|refine q10 ?_|refine q11 ?_|refine q14 ?_|refine q17 rfl ?_)
 (refine qs rfl (qz tab 1 rfl rfl rfl rfl rfl rfl ?_))
 skip
 refine TO.step rfl (OT.storeL0 tab 2 rfl rfl rfl rfl rfl rfl rfl rfl ?_)
 repeat (first|refine q5 ?_|refine q6 ?_|refine q15 ?_)
 refine retQ_ret_c1 tab 2 rfl rfl rfl rfl (L' := E.J k true h :: L) (by repeat (first|exact List.Sublist.refl _|refine List.Sublist.cons_cons _ ?_|refine List.Sublist.cons _ ?_)) ⟨a, k, true, h, [], hm, hk, ⟨x, rfl, rfl, hrx⟩, rfl, hS⟩
theorem expr_dry : RC Tryz.prog mb E vTree 127 [E.v] h0 Ps.dry := (rexpr_rc unary_dry).toDry
set_option maxHeartbeats 1000000 in
theorem stmt_dry : RC Tryz.prog mb E vTree 81 [E.v] false Ps.dry := by
 refine RC.enter Tryz.func81 rfl 79 rfl fun m L k b h T hm0 hE hk hS hn => ?_
 have hP := ((rline_rc (mb := mb) (E := E) typ_dry expr_dry).toDry).up hm0
 have hm : m ≤ m := Mem.le_refl _
 replace hS : RS E T b k h false (Ps.bind Ps.dry fun s => Ps.need [59] (Ps.ret s)) := hS.eq rfl
 obtain ⟨hb, hT⟩ := (hS.eq (rest' := Ps.dry) rfl).dryT hn
 subst hb
 repeat (first|refine q1 ?_|refine q3 ?_)
 refine TO.step rfl (OT.alloc tab rfl rfl rfl rfl (fun b2 => ?_)); refine TO.perm (List.Perm.swap _ _ _) ?_
 repeat (first|refine q1 ?_|refine q3 ?_|refine q4 tab rfl rfl ?_|refine q5 ?_|refine q6 ?_)
 refine TO.step rfl (OT.call rfl rfl rfl rfl rfl rfl goes77 ((now_law hE hk).x ?_));
 rintro _ _ _ ⟨rfl, rfl, rfl⟩
 rw [show nowD E true k = [] from rfl]
 repeat (first|refine q1 ?_|refine q2 ?_|refine q3 ?_|refine q4 tab rfl rfl ?_|refine q5 ?_|refine q6 ?_|refine q7 ?_|refine q13 ?_|refine q17 rfl ?_)
 refine TO.step rfl (OT.rcT (hP) hm hS hn hE hk hm rfl rfl rfl rfl rfl rfl goes108 (fun x m1 a k b h hS hm hE hlex hk hrx => ?_))
 skip
 refine TO.step rfl (OT.alloc tab rfl rfl rfl rfl (fun b6 => ?_)); refine TO.perm (List.Perm.swap _ _ _) ?_
 skip
 (refine TO.step rfl (OT.storeL0 tab 1 rfl rfl rfl rfl rfl rfl rfl rfl ?_))
 repeat (first|refine q1 ?_|refine q3 ?_|refine q4 tab rfl rfl ?_|refine q5 ?_|refine q6 ?_)
 refine TO.step rfl (OT.rneed (by decide) hS hE hk rfl rfl rfl rfl rfl rfl (fun _ b k hS hk => ?_))
 repeat (first|refine q1 ?_|refine q3 ?_|refine q5 ?_|refine q6 ?_)
 (refine qs rfl (qz tab 1 rfl rfl rfl rfl rfl rfl ?_))
 skip
 refine TO.step rfl (OT.storeL0 tab 2 rfl rfl rfl rfl rfl rfl rfl rfl ?_)
 repeat (first|refine q5 ?_|refine q6 ?_|refine q15 ?_)
 refine retQ_ret_c1 tab 2 rfl rfl rfl rfl (L' := E.J k b h :: L) (by repeat (first|exact List.Sublist.refl _|refine List.Sublist.cons_cons _ ?_|refine List.Sublist.cons _ ?_)) ⟨a, k, b, h, [], hm, hk, ⟨x, rfl, rfl, hrx⟩, rfl, hS⟩
theorem block_dry : RC Tryz.prog mb E vTree 40 [E.v] h0 Ps.dry := (rblock_rc stmt_dry).toDry
theorem block_bad (n : Nat) (k : Nat) (h : Ps.isM [123] E.f k = false) : (Ps.gr E.N n).block E.f k = .bad k ∨ (Ps.gr E.N n).block E.f k = .out := by
 cases n with
 | zero => exact .inr rfl
 | succ n => exact .inl (Ps.tok_f h)
theorem grR : ∀ n, GR mb E (Ps.gr E.N n) := by
 intro n
 induction n using Nat.strongRecOn with
 | _ n ih =>
 cases n with
 | zero => exact ⟨fun _ => typ_dry, fun _ => block_dry, stmt_dry, fun _ => expr_dry, fun _ => unary_dry⟩
 | succ n =>
  have g := ih n (by omega)
  refine ⟨fun h => rtyp_rc (g.typ h), fun h => rblock_rc g.stmt, ?_, fun b => rexpr_rc (g.unary b), fun b => runary_rc (g.unary b) (rprimary_rc (g.typ b) (g.expr false) (g.block b)) (g.expr false)⟩
  cases n with
  | zero => exact rstmt_rc (Br := Ps.dry) (X' := Ps.dry) (Y' := Ps.dry) (Z' := Ps.dry) (ST := Ps.dry) (g.block false) (g.expr true) expr_dry block_dry stmt_dry (rline_rc (g.typ false) (g.expr false)) (.inr rfl) (fun _ _ => rfl) (fun _ _ _ => rfl) (fun _ _ => .inr rfl)
  | succ n =>
   have g' := ih n (by omega)
   exact rstmt_rc (X' := (Ps.gr E.N n).expr true) (Y' := (Ps.gr E.N n).block) (Z' := (Ps.gr E.N n).branch) (ST := (Ps.gr E.N (n + 1)).stmt) (g.block false) (g.expr true) (g'.expr true) (g'.block false) g.stmt (rline_rc (g.typ false) (g.expr false)) (.inl rfl) (fun k hk => Ps.peek_t' hk) (fun k hk hk2 => (Ps.peek_f' hk).trans (Ps.peek_t' hk2)) (block_bad n)
end
end Go.Sep


/- PrSize -/
set_option linter.unusedVariables false
set_option linter.unusedSimpArgs false
namespace Go.Sep
open Go.Proofs
attribute [local irreducible] TC TO OT TCallX TCall DO DOt thenQ blockQ retQ At
theorem sizeL_mem : ∀ {l : List Tree} {t : Tree}, t ∈ l → t.size ≤ sizeL l
 | x :: xs, t, h => by
  rcases List.mem_cons.1 h with rfl | h
  ·simp only [sizeL]; omega
  ·have := sizeL_mem h; simp only [sizeL]; omega
theorem size_kid {a t : Tree} (h : t ∈ a.kids) : t.size ≤ a.size := by
 obtain ⟨k, n, u, ks⟩ := a
 have := sizeL_mem h
 simp only [Tree.kids, Tree.size] at *
 omega
set_option maxHeartbeats 800000 in
theorem size_ref (a : Tree) : ∀ (m : Mem) (L : List Item) (h : HTree) (hr : TreeRep m h a) (hB : a.size ≤ 1048576), TCall Tryz.prog 24 ⟨[treeV h]⟩ m L (Ret (.tuple ⟨[.int .i64 (a.size : Int), .int .i64 (a.deep : Int)]⟩) m L) := by
 induction a using Tree.ind with
 | h a ih =>
 intro m L h hr hB
 obtain ⟨h1, h2, h3, h4⟩ := hr
 have hl := h4.len
 have hsm := h4.small rfl
 have hbl := len_sizeL a.kids
 have hbk := size_kids a
 unfold TCall
 refine TCallX.enter Tryz.func24 rfl 35 rfl ?_
 repeat (first|refine q1 ?_|refine q3 ?_)
 refine TO.step rfl (OT.box rfl rfl rfl rfl rfl (fun b => ?_))
 repeat (first|refine q1 ?_|refine q2 ?_|refine q3 ?_|refine q4 tab rfl rfl ?_|refine q5 ?_|refine q6 ?_)
 refine TC.loopK (ι := Nat) [1] rfl (fun k => [(6, .int .i64 (k : Int)), (4, .int .i64 ((1 + sizeL (a.kids.take k) : Nat) : Int)), (5, .int .i64 ((deepL (a.kids.take k) : Nat) : Int))]) (fun _ => m) (fun _ => .cells b 0 (treeC h) :: L) (fun k => k ≤ a.kids.length) (fun k => a.kids.length - k) 0 (by repeat (first|exact trivial|refine And.intro rfl ?_)) rfl (by repeat (exact List.Sublist.refl _)) (Nat.zero_le _) ?_
 rintro k hk
 repeat (first|(first|refine q1 ?_|refine q3 ?_|refine q4 tab rfl rfl ?_|refine q5 ?_|refine q6 ?_)|(refine qs rfl (ql tab 0 rfl rfl rfl rfl rfl rfl ?_)))
 refine TC.condP rfl (fun h => ?_) (fun h => ?_)
 ·have hlt : k < a.kids.length := by omega
  have hx : a.kids[k]? = some a.kids[k] := by simp [hlt]
  have hmem := List.getElem_mem hlt
  repeat (first|(first|refine q1 ?_|refine q2 ?_|refine q3 ?_|refine q4 tab rfl rfl ?_|refine q6 ?_|refine q13 ?_)|(refine qs rfl (ql tab 0 rfl rfl rfl rfl rfl rfl ?_)))
  refine TO.step rfl (OT.index tab rTree k h4 rfl rfl rfl rfl rfl (by first | rfl | omega | (simp only; omega)) rfl hx ?_)
  rintro b' i hd hrd hA
  (refine TO.step rfl (OT.loadA0 tab hA rfl rfl rfl rfl rfl ?_))
  skip
  refine TO.step rfl (OT.call rfl rfl rfl rfl rfl rfl goes24 ((ih _ hmem _ _ hd (rTree_iff.1 hrd) (Nat.le_trans (size_kid hmem) hB)).x ?_));
  rintro _ _ _ ⟨rfl, rfl, rfl⟩
  have e1 := sizeL_next a.kids k hlt
  have e2 := deepL_next a.kids k hlt
  have e3 : sizeL (a.kids.take (k + 1)) ≤ 1048576 := by
   have := size_kids a
   have := sizeL_take a.kids (k + 1)
   omega
  repeat (first|refine q1 ?_|refine q3 ?_|refine q4 tab rfl rfl ?_|refine q5 ?_|refine q6 ?_)
  refine TO.step rfl (OT.arith (r' := ((1 + sizeL (a.kids.take (k + 1)) : Nat) : Int)) rfl rfl rfl rfl rfl rfl (by rw [e1]; omega) (by omega) ?_)
  repeat (first|refine q1 ?_|refine q3 ?_|refine q4 tab rfl rfl ?_|refine q5 ?_|refine q6 ?_)
  refine TC.condP rfl (fun h6 => ?_) (fun h6 => ?_)
  ·repeat (first|refine q3 ?_|refine q4 tab rfl rfl ?_|refine q5 ?_|refine q6 ?_|refine q7 ?_)
   refine TO.step rfl (OT.arith (r' := ((k + 1 : Nat) : Int)) rfl rfl rfl rfl rfl rfl rfl (by omega) ?_)
   repeat (first|refine q4 tab rfl rfl ?_|refine q5 ?_|refine q6 ?_)
   have e4 : deepL (a.kids.take (k + 1)) = a.kids[k].deep := by omega
   exact ⟨k + 1, by simp only [e4]; exact (by repeat (first|exact trivial|refine And.intro rfl ?_)), (by repeat (first|exact trivial|refine And.intro rfl ?_)), rfl, rfl, (by repeat (exact List.Sublist.refl _)), by omega, by omega⟩
  ·repeat (first|refine q3 ?_|refine q4 tab rfl rfl ?_|refine q6 ?_|refine q7 ?_|refine q13 ?_)
   refine TO.step rfl (OT.arith (r' := ((k + 1 : Nat) : Int)) rfl rfl rfl rfl rfl rfl rfl (by omega) ?_)
   repeat (first|refine q4 tab rfl rfl ?_|refine q5 ?_|refine q6 ?_)
   have e4 : deepL (a.kids.take (k + 1)) = deepL (a.kids.take k) := by omega
   exact ⟨k + 1, by simp only [e4]; exact (by repeat (first|exact trivial|refine And.intro rfl ?_)), (by repeat (first|exact trivial|refine And.intro rfl ?_)), rfl, rfl, (by repeat (exact List.Sublist.refl _)), by omega, by omega⟩
 ·have hd : deepL a.kids ≤ 1048576 := by
   have := deep_size a
   obtain ⟨_, _, _, ks⟩ := a
   simp only [Tree.deep, Tree.kids] at *
   omega
  repeat (first|refine q1 ?_|refine q3 ?_|refine q4 tab rfl rfl ?_|refine q6 ?_|refine q10 ?_|refine q11 ?_|refine q14 ?_)
  rw [List.take_of_length_le (by omega)]
  refine TO.step rfl (OT.arith (r' := ((deepL a.kids + 1 : Nat) : Int)) rfl rfl rfl rfl rfl rfl (by omega) (by omega) ?_)
  repeat (first|refine q4 tab rfl rfl ?_|refine q5 ?_|refine q6 ?_|refine q15 ?_)
  refine retQ_ret rfl (by repeat (first|exact List.Sublist.refl _|refine List.Sublist.cons _ ?_)) ⟨rfl, rfl, ?_⟩
  obtain ⟨_, _, _, ks⟩ := a
  rfl
end Go.Sep


/- ScRef1 -/
set_option linter.unusedVariables false
set_option linter.unusedSimpArgs false
namespace Go.Sep
open Go.Proofs
attribute [local irreducible] TC TO OT TCallX TCall DO DOt thenQ blockQ retQ At
theorem isSp_iff (c : UInt8) : isSp c = true ↔ (c.toNat = 9 ∨ c.toNat = 10 ∨ c.toNat = 13 ∨ c.toNat = 32) := by
 unfold isSp
 simp only [Bool.or_eq_true, decide_eq_true_eq]
theorem blk_sp {c : UInt8} {r : Str} (h : isSp c = true) : blk false (c :: r) = 1 + blk false r := by rw [blk, if_pos h]
def remB (s : Str) : Bool := prefixB [47, 47] s
theorem blk_no {c : UInt8} {r : Str} (h : isSp c = false) (h2 : remB (c :: r) = false) : blk false (c :: r) = 0 := by
 rw [blk, if_neg (by rw [h]; decide), if_neg]
 rintro ⟨h3, h4⟩
 refine Bool.eq_false_iff.1 h2 ((prefix_2 _).2 ?_)
 have h5 : c = 47 := UInt8.toNat_inj.1 h3
 cases r with
 | nil => cases h4
 | cons x r => exact ⟨r, by rw [h5]; simp at h4; rw [h4]⟩
theorem blk_re {s : Str} (h : remB s = true) : blk false s = blk true s := by
 obtain ⟨r, rfl⟩ := (prefix_2 _).1 h
 exact blk_rem rfl rfl
theorem remB_at {s : Str} {i : Nat} (h : i < s.length) : remB (s.drop i) = true ↔ (i + 1 < s.length ∧ s[i].toNat = 47 ∧ ∀ h2 : i + 1 < s.length, s[i + 1].toNat = 47) := by
 unfold remB
 rw [prefix_2]
 constructor
 ·rintro ⟨r, hr⟩
  have h1 : i + 1 < s.length := by
   have := congrArg List.length hr
   simp at this; omega
  rw [List.drop_eq_getElem_cons h, List.drop_eq_getElem_cons h1] at hr
  simp only [List.cons.injEq] at hr
  exact ⟨h1, by rw [hr.1]; rfl, fun _ => by rw [hr.2.1]; rfl⟩
 ·rintro ⟨h1, h2, h3⟩
  refine ⟨s.drop (i + 1 + 1), ?_⟩
  rw [List.drop_eq_getElem_cons h, List.drop_eq_getElem_cons h1]
  have e1 : s[i] = 47 := UInt8.toNat_inj.1 h2
  have e2 : s[i + 1] = 47 := UInt8.toNat_inj.1 (h3 h1)
  rw [e1, e2]
theorem blk_end {s : Str} (h : s = [] ∨ s.head? = some 10) : blk true s = blk false s := by
 cases s with
 | nil => rfl
 | cons c r =>
  rcases h with h | h
  ·cases h
  ·have hc : c = 10 := by simpa using h
   subst hc
   rw [blk, blk, if_pos (by decide), if_pos (by decide)]
theorem blk_in {c : UInt8} {r : Str} (h : c.toNat ≠ 10) : blk true (c :: r) = 1 + blk true r := by rw [blk, if_neg h]
set_option maxHeartbeats 2000000 in
theorem blanks_ref (m : Mem) (L : List Item) (s : Str) (a : Nat) (ha : a ≤ s.length) (hl : s.length ≤ 70000) : TCall Tryz.prog 33 ⟨[strV s, .int .i64 (a : Int)]⟩ m L (Ret (.int .i64 ((a + blk false (s.drop a) : Nat) : Int)) m L) := by
 unfold TCall
 refine TCallX.enter Tryz.func33 rfl 67 rfl ?_
 repeat (first|refine q1 ?_|refine q2 ?_|refine q3 ?_|refine q4 tab rfl rfl ?_|refine q5 ?_|refine q6 ?_)
 refine TC.loopK (ι := Nat) [0] rfl (fun i => [(1, .int .i64 (i : Int))]) (fun _ => m) (fun _ => L) (fun i => i ≤ s.length ∧ a + blk false (s.drop a) = i + blk false (s.drop i)) (fun i => s.length - i) a (by repeat (first|exact trivial|refine And.intro rfl ?_)) rfl (by repeat (exact List.Sublist.refl _)) ⟨ha, rfl⟩ ?_
 rintro i ⟨hi, hI⟩
 repeat (first|refine q1 ?_|refine q3 ?_|refine q4 tab rfl rfl ?_|refine q5 ?_|refine q6 ?_)
 refine TC.condP rfl (fun g1 => ?_) (fun g1 => ?_)
 ·have hlt : i < s.length := by omega
  have hx : s[i]? = some s[i] := by simp [hlt]
  have hd := List.drop_eq_getElem_cons hlt
  repeat (first|refine q1 ?_|refine q2 ?_|refine q6 ?_|refine q13 ?_)
  refine TC.cutT (ι := Bool) [0, 1] rfl (fun v => [(10, .bool v)]) (fun _ => m) (fun _ => L) (fun v => v = isSp s[i]) ?_ (fun v hv => ?_)
  ·repeat (first|refine q3 ?_|refine q4 tab rfl rfl ?_)
   refine TO.step rfl (OT.sidx tab i rfl rfl rfl rfl rfl rfl rfl hx ?_)
   repeat (refine q4 tab rfl rfl ?_)
   (refine TO.splitP rfl rfl (fun c1 => ?_) (fun c1 => ?_))
   ·repeat (first|refine q4 tab rfl rfl ?_|refine q5 ?_|refine q6 ?_)
    exact ⟨true, (by repeat (first|exact trivial|refine And.intro rfl ?_)), (by repeat (first|exact trivial|refine And.intro rfl ?_)), rfl, rfl, (by repeat (exact List.Sublist.refl _)), ((isSp_iff _).2 (by omega)).symm⟩
   repeat (refine q4 tab rfl rfl ?_)
   refine TO.step rfl (OT.sidx tab i rfl rfl rfl rfl rfl rfl rfl hx ?_)
   repeat (refine q4 tab rfl rfl ?_)
   (refine TO.splitP rfl rfl (fun c2 => ?_) (fun c2 => ?_))
   ·repeat (first|refine q4 tab rfl rfl ?_|refine q5 ?_|refine q6 ?_)
    exact ⟨true, (by repeat (first|exact trivial|refine And.intro rfl ?_)), (by repeat (first|exact trivial|refine And.intro rfl ?_)), rfl, rfl, (by repeat (exact List.Sublist.refl _)), ((isSp_iff _).2 (by omega)).symm⟩
   repeat (refine q4 tab rfl rfl ?_)
   refine TO.step rfl (OT.sidx tab i rfl rfl rfl rfl rfl rfl rfl hx ?_)
   repeat (refine q4 tab rfl rfl ?_)
   (refine TO.splitP rfl rfl (fun c3 => ?_) (fun c3 => ?_))
   ·repeat (first|refine q4 tab rfl rfl ?_|refine q5 ?_|refine q6 ?_)
    exact ⟨true, (by repeat (first|exact trivial|refine And.intro rfl ?_)), (by repeat (first|exact trivial|refine And.intro rfl ?_)), rfl, rfl, (by repeat (exact List.Sublist.refl _)), ((isSp_iff _).2 (by omega)).symm⟩
   repeat (refine q4 tab rfl rfl ?_)
   refine TO.step rfl (OT.sidx tab i rfl rfl rfl rfl rfl rfl rfl hx ?_)
   repeat (first|refine q4 tab rfl rfl ?_|refine q5 ?_|refine q6 ?_)
   refine ⟨_, (by repeat (first|exact trivial|refine And.intro rfl ?_)), (by repeat (first|exact trivial|refine And.intro rfl ?_)), rfl, rfl, (by repeat (exact List.Sublist.refl _)), ?_⟩
   rw [Bool.eq_iff_iff, isSp_iff, decide_eq_true_iff]
   omega
  subst hv
  skip
  refine TC.cond rfl (fun g2 => ?_) (fun g2 => ?_)
  ·repeat (first|refine q3 ?_|refine q4 tab rfl rfl ?_)
   refine TO.step rfl (OT.arith (r' := ((i + 1 : Nat) : Int)) rfl rfl rfl rfl rfl rfl rfl (by omega) ?_)
   repeat (first|refine q4 tab rfl rfl ?_|refine q5 ?_|refine q6 ?_|refine q7 ?_)
   exact ⟨i + 1, (by repeat (first|exact trivial|refine And.intro rfl ?_)), (by repeat (first|exact trivial|refine And.intro rfl ?_)), rfl, rfl, (by repeat (exact List.Sublist.refl _)), ⟨by omega, by rw [hI, hd, blk_sp g2]; omega⟩, by omega⟩
  repeat (refine q1 ?_)
  refine TC.cutT (ι := Bool) [0, 1] rfl (fun v => [(35, .bool v)]) (fun _ => m) (fun _ => L) (fun v => v = remB (s.drop i)) ?_ (fun v hv => ?_)
  ·repeat (first|refine q3 ?_|refine q4 tab rfl rfl ?_)
   refine TO.step rfl (OT.arith (r' := ((i + 1 : Nat) : Int)) rfl rfl rfl rfl rfl rfl rfl (by omega) ?_)
   repeat (refine q4 tab rfl rfl ?_)
   (refine TO.splitP rfl rfl (fun c1 => ?_) (fun c1 => ?_))
   ·have hlt1 : i + 1 < s.length := by omega
    have hx1 : s[i + 1]? = some s[i + 1] := by simp [hlt1]
    repeat (refine q4 tab rfl rfl ?_)
    refine TO.step rfl (OT.sidx tab i rfl rfl rfl rfl rfl rfl rfl hx ?_)
    repeat (refine q4 tab rfl rfl ?_)
    (refine TO.splitP rfl rfl (fun c2 => ?_) (fun c2 => ?_))
    ·repeat (refine q4 tab rfl rfl ?_)
     refine TO.step rfl (OT.arith (r' := ((i + 1 : Nat) : Int)) rfl rfl rfl rfl rfl rfl rfl (by omega) ?_)
     refine TO.step rfl (OT.sidx tab (i + 1) rfl rfl rfl rfl rfl rfl rfl hx1 ?_)
     repeat (first|refine q4 tab rfl rfl ?_|refine q5 ?_|refine q6 ?_)
     refine ⟨_, (by repeat (first|exact trivial|refine And.intro rfl ?_)), (by repeat (first|exact trivial|refine And.intro rfl ?_)), rfl, rfl, (by repeat (exact List.Sublist.refl _)), ?_⟩
     rw [Bool.eq_iff_iff, remB_at hlt, decide_eq_true_iff]
     constructor
     ·intro h; exact ⟨hlt1, by omega, fun _ => by omega⟩
     ·rintro ⟨_, _, h⟩; have := h hlt1; omega
    ·repeat (first|refine q4 tab rfl rfl ?_|refine q5 ?_|refine q6 ?_)
     refine ⟨false, (by repeat (first|exact trivial|refine And.intro rfl ?_)), (by repeat (first|exact trivial|refine And.intro rfl ?_)), rfl, rfl, (by repeat (exact List.Sublist.refl _)), ?_⟩
     symm
     rw [Bool.eq_false_iff]
     intro h
     have := (remB_at hlt).1 h
     omega
   ·repeat (first|refine q4 tab rfl rfl ?_|refine q5 ?_|refine q6 ?_)
    refine ⟨false, (by repeat (first|exact trivial|refine And.intro rfl ?_)), (by repeat (first|exact trivial|refine And.intro rfl ?_)), rfl, rfl, (by repeat (exact List.Sublist.refl _)), ?_⟩
    symm
    rw [Bool.eq_false_iff]
    intro h
    have := (remB_at hlt).1 h
    omega
  subst hv
  skip
  refine TC.cond rfl (fun g3 => ?_) (fun g3 => ?_)
  ·repeat (refine q2 ?_)
   have hrem := (remB_at hlt).1 g3
   have hb := blk_re g3
   refine TC.loopK (ι := Nat) [0] rfl (fun j => [(1, .int .i64 (j : Int))]) (fun _ => m) (fun _ => L) (fun j => i ≤ j ∧ j ≤ s.length ∧ blk true (s.drop i) = (j - i) + blk true (s.drop j)) (fun j => s.length - j) i (by repeat (first|exact trivial|refine And.intro rfl ?_)) rfl (by repeat (exact List.Sublist.refl _)) ⟨Nat.le_refl _, hi, by omega⟩ ?_
   rintro j ⟨hij, hj, hJ⟩
   repeat (first|refine q1 ?_|refine q3 ?_|refine q4 tab rfl rfl ?_)
   (refine TO.splitP rfl rfl (fun d1 => ?_) (fun d1 => ?_))
   ·have hlj : j < s.length := by omega
    have hxj : s[j]? = some s[j] := by simp [hlj]
    have hdj := List.drop_eq_getElem_cons hlj
    repeat (refine q4 tab rfl rfl ?_)
    refine TO.step rfl (OT.sidx tab j rfl rfl rfl rfl rfl rfl rfl hxj ?_)
    repeat (first|refine q4 tab rfl rfl ?_|refine q5 ?_|refine q6 ?_)
    refine TC.condN rfl (fun d2 => ?_) (fun d2 => ?_)
    ·repeat (first|refine q2 ?_|refine q3 ?_|refine q4 tab rfl rfl ?_|refine q6 ?_|refine q13 ?_)
     refine TO.step rfl (OT.arith (r' := ((j + 1 : Nat) : Int)) rfl rfl rfl rfl rfl rfl rfl (by omega) ?_)
     repeat (first|refine q4 tab rfl rfl ?_|refine q5 ?_|refine q6 ?_|refine q7 ?_)
     exact ⟨j + 1, (by repeat (first|exact trivial|refine And.intro rfl ?_)), (by repeat (first|exact trivial|refine And.intro rfl ?_)), rfl, rfl, (by repeat (exact List.Sublist.refl _)), ⟨by omega, by omega, by rw [hJ, hdj, blk_in (by omega)]; omega⟩, by omega⟩
    ·have hh : s[j] = 10 := UInt8.toNat_inj.1 (by have h10 : (10 : UInt8).toNat = 10 := rfl; omega)
     have hne : j ≠ i := fun e => by subst e; omega
     repeat (first|refine q6 ?_|refine q7 ?_|refine q10 ?_|refine q11 ?_|refine q14 ?_)
     exact ⟨j, (by repeat (first|exact trivial|refine And.intro rfl ?_)), (by repeat (first|exact trivial|refine And.intro rfl ?_)), rfl, rfl, (by repeat (exact List.Sublist.refl _)), ⟨by omega, by rw [hI, hb, hJ, blk_end (.inr (by rw [hdj, hh]; rfl))]; omega⟩, by omega⟩
   ·repeat (first|refine q4 tab rfl rfl ?_|refine q5 ?_|refine q6 ?_|refine q7 ?_|refine q10 ?_|refine q11 ?_|refine q14 ?_|refine q17 rfl ?_)
    exact ⟨j, (by repeat (first|exact trivial|refine And.intro rfl ?_)), (by repeat (first|exact trivial|refine And.intro rfl ?_)), rfl, rfl, (by repeat (exact List.Sublist.refl _)), ⟨by omega, by rw [hI, hb, hJ, blk_end (.inl (List.drop_eq_nil_of_le (by omega)))]; omega⟩, by omega⟩
  ·repeat (first|refine q1 ?_|refine q3 ?_|refine q4 tab rfl rfl ?_|refine q5 ?_|refine q6 ?_|refine q8 ?_|refine q9 ?_|refine q15 ?_)
   refine retQ_ret rfl (by repeat (exact List.Sublist.refl _)) ⟨rfl, rfl, ?_⟩
   rw [hI, hd, blk_no g2 (by rw [← hd]; exact g3)]; rfl
 ·repeat (first|refine q1 ?_|refine q3 ?_|refine q4 tab rfl rfl ?_|refine q5 ?_|refine q6 ?_|refine q10 ?_|refine q11 ?_|refine q14 ?_|refine q15 ?_)
  refine retQ_ret rfl (by repeat (exact List.Sublist.refl _)) ⟨rfl, rfl, ?_⟩
  rw [hI, List.drop_eq_nil_of_le (by omega), blk]; rfl
end Go.Sep


/- ScPlain3 -/
set_option linter.unusedVariables false
set_option linter.unusedSimpArgs false
namespace Go.Sep
def valN : Str → Nat → Nat
 | [], a => a
 | c :: r, a => valN r (a * 10 + (c.toNat - 48))
theorem valN_ge : ∀ (s : Str) (a : Nat), a ≤ valN s a
 | [], a => Nat.le_refl _
 | c :: r, a => by
  have := valN_ge r (a * 10 + (c.toNat - 48))
  rw [valN]; omega
theorem dgt_le {c : UInt8} (h : dgt c = true) : 48 ≤ c.toNat ∧ c.toNat ≤ 57 := of_decide_eq_true h
theorem dv_dgt {c : UInt8} (h : dgt c = true) : dv c = some (c.toNat - 48) := dv_dig (dgt_le h).1 (dgt_le h).2
theorem pU_val : ∀ (s : Str) (a : Nat), s.all dgt = true → valN s a ≤ 18446744073709551615 → pU 10 18446744073709551615 s a = some (valN s a)
 | [], a, _, _ => rfl
 | c :: r, a, h, hv => by
  rw [List.all_cons, Bool.and_eq_true] at h
  have hc := dgt_le h.1
  rw [valN] at hv
  have := valN_ge r (a * 10 + (c.toNat - 48))
  rw [pU, dv_dgt h.1]
  simp only
  rw [if_pos ⟨by omega, by omega⟩, pU_val r _ h.2 hv, valN]
theorem numOf_val {s : Str} (h : s.all dgt = true) (hv : valN s 0 < 9223372036854775808) : numOf s = some (valN s 0) := by
 rw [numOf, pU_val s 0 h (by omega)]
 simp only
 rw [if_pos hv]
theorem dgt_lod {c : UInt8} (h : dgt c = true) : lod c = true := by unfold lod; rw [h]; simp
theorem dgt_nltr {c : UInt8} (h : dgt c = true) : ¬ ltr c = true := by rw [dgt_ltr, h]; simp
theorem all_dgt_lod {s : Str} (h : s.all dgt = true) : s.all lod = true := List.all_eq_true.2 fun x hx => dgt_lod (List.all_eq_true.1 h x hx)
theorem takeWhile_app {p : UInt8 → Bool} : ∀ (s r : Str), s.all p = true → (s ++ r).takeWhile p = s ++ r.takeWhile p
 | [], r, _ => rfl
 | c :: s, r, h => by
  rw [List.all_cons, Bool.and_eq_true] at h
  rw [List.cons_append, List.takeWhile_cons, if_pos h.1, takeWhile_app s r h.2]; rfl
theorem span_app {p : UInt8 → Bool} {s r : Str} (h : s.all p = true) : spanOf p (s ++ r) = s.length + spanOf p r := by
 unfold spanOf
 rw [takeWhile_app s r h, List.length_append]
theorem span_stop {p : UInt8 → Bool} {c : UInt8} {r : Str} (h : p c = false) : spanOf p (c :: r) = 0 := by
 unfold spanOf
 rw [List.takeWhile_cons, if_neg (by rw [h]; decide)]; rfl
structure Dec (s : Str) (n : Nat) : Prop where
 pos : s ≠ []
 dig : s.all dgt = true
 val : valN s 0 = n
 lead : s.head? ≠ some 48 ∨ s.length = 1
structure DecAt (s : Str) (k n : Nat) : Prop where
 dig : s.all dgt = true
 val : k * 10 ^ s.length + valN s 0 = n
 lead : k = 0 → s ≠ [] → s.head? ≠ some 48 ∨ s.length = 1
theorem valN_app : ∀ (s : Str) (a : Nat), valN s a = a * 10 ^ s.length + valN s 0
 | [], a => by simp [valN]
 | c :: r, a => by
  rw [valN, valN, valN_app r (a * 10 + (c.toNat - 48)), valN_app r (0 * 10 + (c.toNat - 48)), List.length_cons, Nat.pow_succ]
  rw [Nat.zero_mul, Nat.zero_add, Nat.add_mul]
  have : a * 10 * 10 ^ r.length = a * (10 ^ r.length * 10) := by rw [Nat.mul_assoc, Nat.mul_comm 10]
  omega
theorem DecAt.start (n : Nat) : DecAt [] n n := ⟨rfl, by simp [valN], fun _ h => absurd rfl h⟩
theorem dig_lt (k : Nat) : (UInt8.ofNat (48 + k % 10)).toNat = 48 + k % 10 := by
 rw [UInt8.toNat_ofNat', Nat.mod_eq_of_lt (by omega)]
theorem DecAt.step {s : Str} {k n : Nat} (h : DecAt s k n) (hk : 0 < k ∨ s = []) : DecAt (UInt8.ofNat (48 + k % 10) :: s) (k / 10) n := by
 have hd := dig_lt k
 refine ⟨?_, ?_, ?_⟩
 ·rw [List.all_cons, h.dig, Bool.and_true]
  unfold dgt
  rw [hd]
  exact decide_eq_true (by omega)
 ·rw [valN, valN_app, hd, List.length_cons, Nat.pow_succ, ← h.val, Nat.zero_mul, Nat.zero_add]
  have h1 : 48 + k % 10 - 48 = k % 10 := by omega
  have h2 : k = k / 10 * 10 + k % 10 := by omega
  rw [h1]
  have h3 : k * 10 ^ s.length = k / 10 * (10 ^ s.length * 10) + k % 10 * 10 ^ s.length := by
   conv => lhs; rw [h2, Nat.add_mul]
   rw [Nat.mul_assoc, Nat.mul_comm 10]
  omega
 ·intro h0 _
  rcases hk with hk | rfl
  ·refine .inl fun e => ?_
   rw [List.head?_cons] at e
   have := congrArg UInt8.toNat (Option.some.inj e)
   rw [hd] at this
   have h48 : (48 : UInt8).toNat = 48 := rfl
   omega
  ·exact .inr rfl
theorem DecAt.done {s : Str} {n : Nat} (h : DecAt s 0 n) (hs : s ≠ []) : Dec s n := ⟨hs, h.dig, by have := h.val; omega, h.lead rfl hs⟩
end Go.Sep


/- ScRef2 -/
set_option linter.unusedVariables false
set_option linter.unusedSimpArgs false
namespace Go.Sep
open Go.Proofs
attribute [local irreducible] TC TO OT TCallX TCall DO DOt thenQ blockQ retQ At
def numT (s : Str) : Option (Nat × Nat) := match numOf (s.take (spanOf lod s)) with
 | none => none
 | some v => if (s.head? = some 48 ∧ 1 < spanOf lod s) ∨ spanOf dgt s ≠ spanOf lod s then none else some (v, spanOf lod s)
theorem tokD_num {c : UInt8} {r : Str} (h : dgt c = true) : tokD (c :: r) = (numT (c :: r)).map fun p => (⟨2, [], p.1, 0⟩, p.2) := by
 rw [tokD, if_neg (dgt_nltr h), if_pos h, numT]
 cases numOf ((c :: r).take (spanOf lod (c :: r))) with
 | none => rfl
 | some v =>
  simp only [List.head?_cons, Option.some.injEq]
  have : (c.toNat = 48 ∧ 1 < spanOf lod (c :: r)) ↔ (c = 48 ∧ 1 < spanOf lod (c :: r)) :=
   ⟨fun h => ⟨UInt8.toNat_inj.1 h.1, h.2⟩, fun h => ⟨by rw [h.1]; rfl, h.2⟩⟩
  by_cases hc : (c = 48 ∧ 1 < spanOf lod (c :: r)) ∨ spanOf dgt (c :: r) ≠ spanOf lod (c :: r)
  ·rw [if_pos hc, if_pos (by rcases hc with hc | hc; exact .inl (this.2 hc); exact .inr hc)]; rfl
  ·rw [if_neg hc, if_neg (by intro h; exact hc (by rcases h with h | h; exact .inl (this.1 h); exact .inr h))]; rfl
theorem pU_some : ∀ (s : Str) (a v : Nat), s.all dgt = true → pU 10 18446744073709551615 s a = some v → v = valN s a
 | [], a, v, _, h => by cases h; rfl
 | c :: r, a, v, h, hv => by
  rw [List.all_cons, Bool.and_eq_true] at h
  rw [pU, dv_dgt h.1] at hv
  simp only at hv
  split at hv
  ·exact pU_some r _ v h.2 hv
  ·cases hv
theorem numOf_big {s : Str} (h : s.all dgt = true) (hv : 9223372036854775808 ≤ valN s 0) : numOf s = none := by
 rw [numOf]
 cases hp : pU 10 18446744073709551615 s 0 with
 | none => rfl
 | some v =>
  have := pU_some s 0 v h hp
  simp only
  rw [if_neg (by omega)]
theorem valN_lo {c : UInt8} {r : Str} (h : 49 ≤ c.toNat) : 10 ^ r.length ≤ valN (c :: r) 0 := by
 rw [valN, valN_app]
 have : 1 * 10 ^ r.length ≤ (0 * 10 + (c.toNat - 48)) * 10 ^ r.length := Nat.mul_le_mul_right _ (by omega)
 omega
theorem valN_snoc (s : Str) (c : UInt8) : valN (s ++ [c]) 0 = valN s 0 * 10 + (c.toNat - 48) := by
 have : ∀ (s : Str) (a : Nat), valN (s ++ [c]) a = valN s a * 10 + (c.toNat - 48) := by
  intro s
  induction s with
  | nil => intro a; rfl
  | cons x s ih => intro a; rw [List.cons_append, valN, valN, ih]
 exact this s 0
theorem span_le_of {p : UInt8 → Bool} {s : Str} {k : Nat} (h : (s.take k).all p = true) (hk : k ≤ s.length) : k ≤ spanOf p s := by
 have := span_app (p := p) (s := s.take k) (r := s.drop k) h
 rw [List.take_append_drop, List.length_take] at this
 omega
theorem span_eq_of {p : UInt8 → Bool} {s : Str} {k : Nat} (h : (s.take k).all p = true) (hk : k ≤ s.length) (h2 : ∀ x, s[k]? = some x → p x = false) : spanOf p s = k := by
 have h3 := span_app (p := p) (s := s.take k) (r := s.drop k) h
 rw [List.take_append_drop, List.length_take] at h3
 have h4 : spanOf p (s.drop k) = 0 := by
  by_cases hk2 : k < s.length
  ·rw [List.drop_eq_getElem_cons hk2]
   exact span_stop (h2 _ (by simp [hk2]))
  ·rw [List.drop_eq_nil_of_le (by omega)]; rfl
 omega
theorem take_tw (p : UInt8 → Bool) : ∀ s : Str, s.take (s.takeWhile p).length = s.takeWhile p
 | [] => by simp
 | c :: r => by
  rw [List.takeWhile_cons]
  split
  ·rw [List.length_cons, List.take_succ_cons, take_tw p r]
  ·rfl
theorem numT_many {s : Str} (h : (s.take 20).all dgt = true) (hl : 20 ≤ s.length) : numT s = none := by
 have h20 : 20 ≤ spanOf dgt s := span_le_of h hl
 rw [numT]
 by_cases heq : spanOf dgt s = spanOf lod s
 ·have hall : (s.take (spanOf lod s)).all dgt = true := by
   rw [← heq]
   unfold spanOf
   rw [take_tw]
   exact List.all_eq_true.2 fun x hx => by
    have : ∀ (l : Str), x ∈ l.takeWhile dgt → dgt x = true := by
     intro l
     induction l with
     | nil => intro h; cases h
     | cons y l ih =>
      intro h
      rw [List.takeWhile_cons] at h
      split at h
      ·rename_i hy
       rcases List.mem_cons.1 h with rfl | h
       ·exact hy
       ·exact ih h
      ·cases h
    exact this s hx
  cases s with
  | nil => simp at hl
  | cons c r =>
   by_cases hc : c = 48
   ·split
    ·rfl
    ·rw [if_pos (.inl ⟨by rw [hc]; rfl, by omega⟩)]
   ·have htk : (c :: r).take (spanOf lod (c :: r)) = c :: r.take (spanOf lod (c :: r) - 1) := by
     obtain ⟨k, hk⟩ : ∃ k, spanOf lod (c :: r) = k + 1 := ⟨spanOf lod (c :: r) - 1, by omega⟩
     rw [hk]; rfl
    have hdc : dgt c = true := by
     rw [htk, List.all_cons, Bool.and_eq_true] at hall
     exact hall.1
    have hc48 : 49 ≤ c.toNat := by
     have h1 := dgt_le hdc
     have h2 : c.toNat ≠ 48 := fun e => hc (UInt8.toNat_inj.1 e)
     omega
    have hsl := span_le lod (c :: r)
    have hlo := valN_lo (c := c) (r := r.take (spanOf lod (c :: r) - 1)) hc48
    rw [List.length_take, Nat.min_eq_left (by simp only [List.length_cons] at hsl; omega)] at hlo
    have hp : 10 ^ 19 ≤ 10 ^ (spanOf lod (c :: r) - 1) := Nat.pow_le_pow_right (by decide) (by omega)
    have : numOf ((c :: r).take (spanOf lod (c :: r))) = none := by
     refine numOf_big hall ?_
     rw [htk]
     have e19 : (10 : Nat) ^ 19 = 10000000000000000000 := by decide
     omega
    rw [this]
 ·split
  ·rfl
  ·rw [if_pos (.inr heq)]
structure NumI where
 k : Nat
 n : Nat
def numR (a : Nat) (o : Option (Nat × Nat)) : Value := match o with
 | some (v, n) => .tuple ⟨[.int .i64 (v : Int), .int .i64 ((a + n : Nat) : Int)]⟩
 | none => .tuple ⟨[.int .i64 0, .int .i64 (-1)]⟩
set_option maxHeartbeats 2000000 in
theorem number_ref (m : Mem) (L : List Item) (s : Str) (a : Nat) (ha : a < s.length) (hc : dgt s[a] = true) (hl : s.length ≤ 70000) : TCall Tryz.prog 74 ⟨[strV s, .int .i64 (a : Int)]⟩ m L (Ret (numR a (numT (s.drop a))) m L) := by
 unfold TCall
 refine TCallX.enter Tryz.func74 rfl 62 rfl ?_
 repeat (first|refine q1 ?_|refine q2 ?_|refine q3 ?_|refine q4 tab rfl rfl ?_|refine q5 ?_|refine q6 ?_)
 refine TC.loopK (ι := NumI) [0, 1] rfl (fun x => [(6, .int .i64 ((a + x.k : Nat) : Int)), (7, .int .u64 (x.n : Int))]) (fun _ => m) (fun _ => L) (fun x => a + x.k ≤ s.length ∧ x.k ≤ 19 ∧ ((s.drop a).take x.k).all dgt = true ∧ x.n = valN ((s.drop a).take x.k) 0 ∧ x.n < 10 ^ x.k) (fun x => s.length - (a + x.k)) ⟨0, 0⟩ (by repeat (first|exact trivial|refine And.intro rfl ?_)) rfl (by repeat (exact List.Sublist.refl _)) ⟨by show a + 0 ≤ _; omega, by decide, by simp, by simp [valN], by show (0 : Nat) < 10 ^ 0; decide⟩ ?_
 rintro ⟨k, n⟩ ⟨hk, hk19, hall, hn, hnk⟩
 replace hk : a + k ≤ s.length := hk
 replace hk19 : k ≤ 19 := hk19
 replace hall : ((s.drop a).take k).all dgt = true := hall
 replace hn : n = valN ((s.drop a).take k) 0 := hn
 replace hnk : n < 10 ^ k := hnk
 have hp19 : 10 ^ k ≤ 10 ^ 19 := Nat.pow_le_pow_right (by decide) hk19
 have e19 : (10 : Nat) ^ 19 = 10000000000000000000 := by decide
 show TC _ _ _ ((6, .int .i64 ((a + k : Nat) : Int)) :: (7, .int .u64 (n : Int)) :: _) _ m L _
 repeat (refine q1 ?_)
 refine TC.cutT (ι := Bool) [0, 1, 6, 7] rfl (fun v => [(18, .bool v)]) (fun _ => m) (fun _ => L) (fun v => (v = true → ∃ h : a + k < s.length, dgt s[a + k] = true) ∧ (v = false → ∀ x, (s.drop a)[k]? = some x → dgt x = false)) ?_ (fun v hv => ?_)
 ·repeat (first|refine q3 ?_|refine q4 tab rfl rfl ?_)
  (refine TO.splitP rfl rfl (fun g1 => ?_) (fun g1 => ?_))
  ·have hlt : a + k < s.length := by omega
   have hx : s[a + k]? = some s[a + k] := by simp [hlt]
   repeat (refine q4 tab rfl rfl ?_)
   refine TO.step rfl (OT.sidx tab (a + k) rfl rfl rfl rfl rfl rfl rfl hx ?_)
   skip
   refine TO.step rfl (OT.call rfl rfl rfl rfl rfl rfl goes72 ((digit_ref _ _ s[a + k]).x ?_));
   rintro _ _ _ ⟨rfl, rfl, rfl⟩
   repeat (first|refine q4 tab rfl rfl ?_|refine q5 ?_|refine q6 ?_)
   refine ⟨_, (by repeat (first|exact trivial|refine And.intro rfl ?_)), (by repeat (first|exact trivial|refine And.intro rfl ?_)), rfl, rfl, (by repeat (exact List.Sublist.refl _)), fun h => ⟨hlt, h⟩, fun h x hx2 => ?_⟩
   rw [List.getElem?_drop, hx] at hx2
   cases hx2
   exact h
  ·repeat (first|refine q4 tab rfl rfl ?_|refine q5 ?_|refine q6 ?_)
   refine ⟨false, (by repeat (first|exact trivial|refine And.intro rfl ?_)), (by repeat (first|exact trivial|refine And.intro rfl ?_)), rfl, rfl, (by repeat (exact List.Sublist.refl _)), fun h => (by cases h), fun _ x hx2 => ?_⟩
   rw [List.getElem?_drop, List.getElem?_eq_none (by omega)] at hx2
   cases hx2
 skip
 refine TC.cond rfl (fun g1 => ?_) (fun g1 => ?_)
 ·subst g1
  obtain ⟨hlt, hd⟩ := hv.1 rfl
  have hx : s[a + k]? = some s[a + k] := by simp [hlt]
  have hdl := dgt_le hd
  have hlt' : k < (s.drop a).length := by rw [List.length_drop]; omega
  have hget : (s.drop a)[k] = s[a + k] := by simp
  have hall' : ((s.drop a).take (k + 1)).all dgt = true := by
   rw [List.take_succ_eq_append_getElem hlt', List.all_append, hall, hget, List.all_cons, hd]; rfl
  repeat (first|refine q1 ?_|refine q2 ?_|refine q3 ?_|refine q4 tab rfl rfl ?_|refine q6 ?_|refine q13 ?_)
  refine TO.step rfl (OT.arith (r' := ((k : Nat) : Int)) rfl rfl rfl rfl rfl rfl (by omega) (by omega) ?_)
  repeat (first|refine q4 tab rfl rfl ?_|refine q5 ?_|refine q6 ?_)
  refine TC.condP rfl (fun g2 => ?_) (fun g2 => ?_)
  ·have h19 : k = 19 := by omega
   subst h19
   repeat (first|refine q1 ?_|refine q3 ?_|refine q4 tab rfl rfl ?_|refine q5 ?_|refine q6 ?_|refine q8 ?_|refine q9 ?_|refine q15 ?_)
   refine retQ_ret rfl (by repeat (exact List.Sublist.refl _)) ⟨rfl, rfl, ?_⟩
   rw [numT_many hall' (by rw [List.length_drop]; omega)]
   rfl
  ·have hp18 : 10 ^ k ≤ 10 ^ 18 := Nat.pow_le_pow_right (by decide) (by omega)
   have e18 : (10 : Nat) ^ 18 = 1000000000000000000 := by decide
   repeat (first|refine q1 ?_|refine q3 ?_|refine q4 tab rfl rfl ?_|refine q6 ?_|refine q13 ?_)
   refine TO.step rfl (OT.arithK rfl rfl rfl rfl rfl rfl (r' := ((n * 10 : Nat) : Int)) (by rw [u64_in (by omega) (by omega)]; omega) ?_)
   repeat (refine q4 tab rfl rfl ?_)
   refine TO.step rfl (OT.sidx tab (a + k) rfl rfl rfl rfl rfl rfl rfl hx ?_)
   refine TO.step rfl (OT.arithK rfl rfl rfl rfl rfl rfl (r' := ((s[a + k].toNat - 48 : Nat) : Int)) (by rw [u8_in (by omega) (by omega)]; omega) ?_)
   refine TO.step rfl (OT.conv tab rfl rfl rfl rfl rfl rfl (r := ((s[a + k].toNat - 48 : Nat) : Int)) (u64_in (by omega) (by omega)) ?_)
   refine TO.step rfl (OT.arithK rfl rfl rfl rfl rfl rfl (r' := ((n * 10 + (s[a + k].toNat - 48) : Nat) : Int)) (by rw [u64_in (by omega) (by omega)]; omega) ?_)
   repeat (first|refine q3 ?_|refine q4 tab rfl rfl ?_|refine q5 ?_|refine q6 ?_)
   refine TO.step rfl (OT.arith (r' := ((a + (k + 1) : Nat) : Int)) rfl rfl rfl rfl rfl rfl rfl (by omega) ?_)
   repeat (first|refine q4 tab rfl rfl ?_|refine q5 ?_|refine q6 ?_|refine q7 ?_)
   exact ⟨⟨k + 1, n * 10 + (s[a + k].toNat - 48)⟩, (by repeat (first|exact trivial|refine And.intro rfl ?_)), (by repeat (first|exact trivial|refine And.intro rfl ?_)), rfl, rfl, (by repeat (exact List.Sublist.refl _)), ⟨by show a + (k + 1) ≤ _; omega, by show k + 1 ≤ 19; omega, hall', by show n * 10 + _ = valN ((s.drop a).take (k + 1)) 0; rw [List.take_succ_eq_append_getElem hlt', valN_snoc, hget, ← hn], by show n * 10 + _ < 10 ^ (k + 1); rw [Nat.pow_succ]; omega⟩, by show s.length - (a + (k + 1)) < s.length - (a + k); omega⟩
 ·subst g1
  have hstop := hv.2 rfl
  have hsd0 : spanOf dgt (s.drop a) = k := span_eq_of hall (by rw [List.length_drop]; omega) hstop
  have hk0 : k ≠ 0 := fun e => by
   subst e
   have := hstop s[a] (by rw [List.getElem?_drop]; simp [ha])
   rw [hc] at this; cases this
  have hx0 : s[a]? = some s[a] := by simp [ha]
  have hhead : (s.drop a).head? = some s[a] := by rw [List.head?_drop]; exact hx0
  repeat (first|refine q1 ?_|refine q3 ?_|refine q4 tab rfl rfl ?_|refine q6 ?_|refine q10 ?_|refine q11 ?_|refine q14 ?_)
  (refine TO.splitP rfl rfl (fun e1 => ?_) (fun e1 => ?_))
  ·repeat (first|refine q1 ?_|refine q3 ?_|refine q4 tab rfl rfl ?_|refine q5 ?_|refine q6 ?_|refine q8 ?_|refine q15 ?_|refine q16 rfl ?_)
   refine retQ_ret rfl (by repeat (exact List.Sublist.refl _)) ⟨rfl, rfl, ?_⟩
   rw [numT]
   by_cases hsl : spanOf lod (s.drop a) = k
   ·rw [hsl, numOf_big hall (by omega)]; rfl
   ·cases numOf ((s.drop a).take (spanOf lod (s.drop a))) with
    | none => rfl
    | some v => simp only; rw [if_pos (.inr (by omega))]; rfl
  ·have hnum : numOf ((s.drop a).take k) = some n := by rw [numOf_val hall (by omega), ← hn]
   have hsd : ¬ spanOf dgt (s.drop a) ≠ k := by omega
   repeat (refine q4 tab rfl rfl ?_)
   refine TO.step rfl (OT.sidx tab a rfl rfl rfl rfl rfl rfl rfl hx0 ?_)
   repeat (refine q4 tab rfl rfl ?_)
   (refine TO.splitP rfl rfl (fun e2 => ?_) (fun e2 => ?_))
   ·have h48 : s[a] = 48 := UInt8.toNat_inj.1 (by have h48 : (48 : UInt8).toNat = 48 := rfl; omega)
    repeat (refine q4 tab rfl rfl ?_)
    refine TO.step rfl (OT.arith (r' := ((a + 1 : Nat) : Int)) rfl rfl rfl rfl rfl rfl rfl (by omega) ?_)
    repeat (refine q4 tab rfl rfl ?_)
    (refine TO.splitP rfl rfl (fun e5 => ?_) (fun e5 => ?_))
    ·repeat (first|refine q1 ?_|refine q3 ?_|refine q4 tab rfl rfl ?_|refine q5 ?_|refine q6 ?_|refine q8 ?_|refine q15 ?_|refine q16 rfl ?_)
     refine retQ_ret rfl (by repeat (exact List.Sublist.refl _)) ⟨rfl, rfl, ?_⟩
     have hkl : k ≤ spanOf lod (s.drop a) := span_le_of (all_dgt_lod hall) (by rw [List.length_drop]; omega)
     rw [numT]
     cases numOf ((s.drop a).take (spanOf lod (s.drop a))) with
     | none => rfl
     | some v => simp only; rw [if_pos (.inl ⟨by rw [hhead, h48], by omega⟩)]; rfl
    ·have hno : (s.drop a).head? = some 48 → 1 < k → False := fun _ _ => by omega
     repeat (refine q4 tab rfl rfl ?_)
     (refine TO.splitP rfl rfl (fun e3 => ?_) (fun e3 => ?_))
     ·have hlt2 : a + k < s.length := by omega
      have hx2 : s[a + k]? = some s[a + k] := by simp [hlt2]
      repeat (refine q4 tab rfl rfl ?_)
      refine TO.step rfl (OT.sidx tab (a + k) rfl rfl rfl rfl rfl rfl rfl hx2 ?_)
      skip
      refine TO.step rfl (OT.call rfl rfl rfl rfl rfl rfl goes71 ((letter_ref _ _ s[a + k]).x ?_));
      rintro _ _ _ ⟨rfl, rfl, rfl⟩
      repeat (first|refine q4 tab rfl rfl ?_|refine q5 ?_|refine q6 ?_)
      refine TC.cond rfl (fun e4 => ?_) (fun e4 => ?_)
      ·have hsl : spanOf dgt (s.drop a) ≠ spanOf lod (s.drop a) := by
        have h1 : spanOf lod (s.drop a) = k + spanOf lod ((s.drop a).drop k) := by
         have := span_app (p := lod) (s := (s.drop a).take k) (r := (s.drop a).drop k) (all_dgt_lod hall)
         rw [List.take_append_drop, List.length_take] at this
         rw [List.length_drop] at this
         omega
        have h2 : 0 < spanOf lod ((s.drop a).drop k) := by
         rw [List.drop_drop, List.drop_eq_getElem_cons hlt2]
         exact span_pos (by unfold lod; rw [e4]; rfl)
        omega
       repeat (first|refine q1 ?_|refine q3 ?_|refine q4 tab rfl rfl ?_|refine q5 ?_|refine q6 ?_|refine q8 ?_|refine q15 ?_)
       refine retQ_ret rfl (by repeat (exact List.Sublist.refl _)) ⟨rfl, rfl, ?_⟩
       rw [numT]
       cases numOf ((s.drop a).take (spanOf lod (s.drop a))) with
       | none => rfl
       | some v => simp only; rw [if_pos (.inr hsl)]; rfl
      ·have hsl : spanOf lod (s.drop a) = k := by
        refine span_eq_of (all_dgt_lod hall) (by rw [List.length_drop]; omega) fun x hx => ?_
        have hnd := hstop x hx
        rw [List.getElem?_drop, hx2] at hx
        cases hx
        unfold lod
        rw [e4, hnd]; rfl
       repeat (first|refine q1 ?_|refine q3 ?_|refine q4 tab rfl rfl ?_|refine q6 ?_|refine q13 ?_)
       refine TO.step rfl (OT.conv tab rfl rfl rfl rfl rfl rfl (r := (n : Int)) (wrap64_in (by omega) (by omega)) ?_)
       repeat (first|refine q4 tab rfl rfl ?_|refine q5 ?_|refine q6 ?_|refine q15 ?_)
       refine retQ_ret rfl (by repeat (exact List.Sublist.refl _)) ⟨rfl, rfl, ?_⟩
       rw [numT, hsl, hnum]
       simp only
       rw [if_neg (by rintro (⟨h1, h2⟩ | h1); exact hno h1 h2; exact hsd h1)]
       rfl
     ·have hsl : spanOf lod (s.drop a) = k := by
       refine span_eq_of (all_dgt_lod hall) (by rw [List.length_drop]; omega) fun x hx => ?_
       rw [List.getElem?_drop, List.getElem?_eq_none (by omega)] at hx
       cases hx
      repeat (first|refine q1 ?_|refine q3 ?_|refine q4 tab rfl rfl ?_|refine q5 ?_|refine q6 ?_|refine q13 ?_|refine q17 rfl ?_)
      refine TO.step rfl (OT.conv tab rfl rfl rfl rfl rfl rfl (r := (n : Int)) (wrap64_in (by omega) (by omega)) ?_)
      repeat (first|refine q4 tab rfl rfl ?_|refine q5 ?_|refine q6 ?_|refine q15 ?_)
      refine retQ_ret rfl (by repeat (exact List.Sublist.refl _)) ⟨rfl, rfl, ?_⟩
      rw [numT, hsl, hnum]
      simp only
      rw [if_neg (by rintro (⟨h1, h2⟩ | h1); exact hno h1 h2; exact hsd h1)]
      rfl
   ·have hno : (s.drop a).head? = some 48 → 1 < k → False := fun h _ => e2 (by rw [hhead] at h; rw [Option.some.inj h]; rfl)
    repeat (refine q4 tab rfl rfl ?_)
    (refine TO.splitP rfl rfl (fun e3 => ?_) (fun e3 => ?_))
    ·have hlt2 : a + k < s.length := by omega
     have hx2 : s[a + k]? = some s[a + k] := by simp [hlt2]
     repeat (refine q4 tab rfl rfl ?_)
     refine TO.step rfl (OT.sidx tab (a + k) rfl rfl rfl rfl rfl rfl rfl hx2 ?_)
     skip
     refine TO.step rfl (OT.call rfl rfl rfl rfl rfl rfl goes71 ((letter_ref _ _ s[a + k]).x ?_));
     rintro _ _ _ ⟨rfl, rfl, rfl⟩
     repeat (first|refine q4 tab rfl rfl ?_|refine q5 ?_|refine q6 ?_)
     refine TC.cond rfl (fun e4 => ?_) (fun e4 => ?_)
     ·have hsl : spanOf dgt (s.drop a) ≠ spanOf lod (s.drop a) := by
       have h1 : spanOf lod (s.drop a) = k + spanOf lod ((s.drop a).drop k) := by
        have := span_app (p := lod) (s := (s.drop a).take k) (r := (s.drop a).drop k) (all_dgt_lod hall)
        rw [List.take_append_drop, List.length_take] at this
        rw [List.length_drop] at this
        omega
       have h2 : 0 < spanOf lod ((s.drop a).drop k) := by
        rw [List.drop_drop, List.drop_eq_getElem_cons hlt2]
        exact span_pos (by unfold lod; rw [e4]; rfl)
       omega
      repeat (first|refine q1 ?_|refine q3 ?_|refine q4 tab rfl rfl ?_|refine q5 ?_|refine q6 ?_|refine q8 ?_|refine q15 ?_)
      refine retQ_ret rfl (by repeat (exact List.Sublist.refl _)) ⟨rfl, rfl, ?_⟩
      rw [numT]
      cases numOf ((s.drop a).take (spanOf lod (s.drop a))) with
      | none => rfl
      | some v => simp only; rw [if_pos (.inr hsl)]; rfl
     ·have hsl : spanOf lod (s.drop a) = k := by
       refine span_eq_of (all_dgt_lod hall) (by rw [List.length_drop]; omega) fun x hx => ?_
       have hnd := hstop x hx
       rw [List.getElem?_drop, hx2] at hx
       cases hx
       unfold lod
       rw [e4, hnd]; rfl
      repeat (first|refine q1 ?_|refine q3 ?_|refine q4 tab rfl rfl ?_|refine q6 ?_|refine q13 ?_)
      refine TO.step rfl (OT.conv tab rfl rfl rfl rfl rfl rfl (r := (n : Int)) (wrap64_in (by omega) (by omega)) ?_)
      repeat (first|refine q4 tab rfl rfl ?_|refine q5 ?_|refine q6 ?_|refine q15 ?_)
      refine retQ_ret rfl (by repeat (exact List.Sublist.refl _)) ⟨rfl, rfl, ?_⟩
      rw [numT, hsl, hnum]
      simp only
      rw [if_neg (by rintro (⟨h1, h2⟩ | h1); exact hno h1 h2; exact hsd h1)]
      rfl
    ·have hsl : spanOf lod (s.drop a) = k := by
      refine span_eq_of (all_dgt_lod hall) (by rw [List.length_drop]; omega) fun x hx => ?_
      rw [List.getElem?_drop, List.getElem?_eq_none (by omega)] at hx
      cases hx
     repeat (first|refine q1 ?_|refine q3 ?_|refine q4 tab rfl rfl ?_|refine q5 ?_|refine q6 ?_|refine q13 ?_|refine q17 rfl ?_)
     refine TO.step rfl (OT.conv tab rfl rfl rfl rfl rfl rfl (r := (n : Int)) (wrap64_in (by omega) (by omega)) ?_)
     repeat (first|refine q4 tab rfl rfl ?_|refine q5 ?_|refine q6 ?_|refine q15 ?_)
     refine retQ_ret rfl (by repeat (exact List.Sublist.refl _)) ⟨rfl, rfl, ?_⟩
     rw [numT, hsl, hnum]
     simp only
     rw [if_neg (by rintro (⟨h1, h2⟩ | h1); exact hno h1 h2; exact hsd h1)]
     rfl
end Go.Sep


/- ScRef3 -/
set_option linter.unusedVariables false
set_option linter.unusedSimpArgs false
namespace Go.Sep
open Go.Proofs
attribute [local irreducible] TC TO OT TCallX TCall DO DOt thenQ blockQ retQ At
def hexV (c : UInt8) : Int :=
 if 48 ≤ c.toNat ∧ c.toNat ≤ 57 then ((c.toNat - 48 : Nat) : Int)
 else if 97 ≤ c.toNat ∧ c.toNat ≤ 102 then ((c.toNat - 97 + 10 : Nat) : Int)
 else if 65 ≤ c.toNat ∧ c.toNat ≤ 70 then ((c.toNat - 65 + 10 : Nat) : Int) else -1
theorem hexV_all : ∀ n : Fin 256, (match dv (UInt8.ofNat n.val) with
  | none => decide (hexV (UInt8.ofNat n.val) = -1)
  | some d => if d < 16 then decide (hexV (UInt8.ofNat n.val) = (d : Int)) else decide (hexV (UInt8.ofNat n.val) = -1)) = true := by decide +kernel
theorem hexV_dv (c : UInt8) : (∃ d, d < 16 ∧ dv c = some d ∧ hexV c = (d : Int)) ∨ (hexV c = -1 ∧ (dv c = none ∨ ∃ d, 16 ≤ d ∧ dv c = some d)) := by
 have h := hexV_all ⟨c.toNat, c.toNat_lt⟩
 simp only [UInt8.ofNat_toNat] at h
 cases hd : dv c with
 | none => rw [hd] at h; exact .inr ⟨of_decide_eq_true h, .inl rfl⟩
 | some d =>
  rw [hd] at h
  simp only at h
  split at h
  ·exact .inl ⟨d, by assumption, rfl, of_decide_eq_true h⟩
  ·exact .inr ⟨of_decide_eq_true h, .inr ⟨d, by omega, rfl⟩⟩
theorem pU_bad {c : UInt8} {r : Str} {n : Nat} (h : hexV c = -1) : pU 16 255 (c :: r) n = none := by
 rcases hexV_dv c with ⟨d, _, _, h2⟩ | ⟨_, h2 | ⟨d, h2, h3⟩⟩
 ·omega
 ·rw [pU, h2]
 ·rw [pU, h3]
  simp only
  rw [if_neg (by omega)]
theorem hexB_none1 {a b : UInt8} (h : hexV a < 0) : hexB a b = none := by
 rw [hexB, pU_bad (by rcases hexV_dv a with ⟨d, _, _, h2⟩ | ⟨h2, _⟩ <;> omega)]; rfl
theorem hexB_none2 {a b : UInt8} (h : ¬ hexV a < 0) (h2 : hexV b < 0) : hexB a b = none := by
 rcases hexV_dv a with ⟨d, h3, h4, h5⟩ | ⟨h3, _⟩
 ·rw [hexB, pU, h4]
  simp only
  rw [if_pos ⟨h3, by omega⟩, pU_bad (by rcases hexV_dv b with ⟨d, _, _, h2⟩ | ⟨h2, _⟩ <;> omega)]; rfl
 ·omega
theorem hexB_some {a b : UInt8} (h : ¬ hexV a < 0) (h2 : ¬ hexV b < 0) : ∃ x : UInt8, hexB a b = some x ∧ (x.toNat : Int) = hexV a * 16 + hexV b := by
 rcases hexV_dv a with ⟨d, h3, h4, h5⟩ | ⟨h3, _⟩
 ·rcases hexV_dv b with ⟨e, g3, g4, g5⟩ | ⟨g3, _⟩
  ·refine ⟨UInt8.ofNat (d * 16 + e), ?_, ?_⟩
   ·rw [hexB, pU, h4]
    simp only
    rw [if_pos ⟨h3, by omega⟩, pU, g4]
    simp only
    rw [if_pos ⟨g3, by omega⟩, Nat.zero_mul, Nat.zero_add]; rfl
   ·rw [UInt8.toNat_ofNat', Nat.mod_eq_of_lt (by omega), h5, g5]; omega
  ·omega
 ·omega
set_option maxHeartbeats 1000000 in
theorem hexValue_ref (m : Mem) (L : List Item) (c : UInt8) : TCall Tryz.prog 106 ⟨[byteV c]⟩ m L (Ret (.int .i64 (hexV c)) m L) := by
 have hc : c.toNat < 256 := c.toNat_lt
 unfold TCall
 refine TCallX.enter Tryz.func106 rfl 31 rfl ?_
 repeat (first|refine q1 ?_|refine q2 ?_|refine q3 ?_|refine q4 tab rfl rfl ?_|refine q5 ?_|refine q6 ?_)
 refine TO.step rfl (OT.call rfl rfl rfl rfl rfl rfl goes72 ((digit_ref _ _ c).x ?_));
 rintro _ _ _ ⟨rfl, rfl, rfl⟩
 repeat (first|refine q4 tab rfl rfl ?_|refine q5 ?_|refine q6 ?_)
 refine TC.cond rfl (fun c1 => ?_) (fun c1 => ?_)
 ·have h1 := dgt_le c1
  repeat (first|refine q1 ?_|refine q3 ?_|refine q4 tab rfl rfl ?_)
  refine TO.step rfl (OT.arithK rfl rfl rfl rfl rfl rfl (r' := ((c.toNat - 48 : Nat) : Int)) (by rw [u8_in (by omega) (by omega)]; omega) ?_)
  refine TO.step rfl (OT.conv tab rfl rfl rfl rfl rfl rfl (r := ((c.toNat - 48 : Nat) : Int)) (wrap64_in (by omega) (by omega)) ?_)
  repeat (first|refine q4 tab rfl rfl ?_|refine q5 ?_|refine q6 ?_|refine q8 ?_|refine q9 ?_|refine q15 ?_)
  refine retQ_ret rfl (by repeat (exact List.Sublist.refl _)) ⟨rfl, rfl, ?_⟩
  rw [hexV, if_pos h1]
 have h1 : ¬ (48 ≤ c.toNat ∧ c.toNat ≤ 57) := fun h => by
  have : dgt c = true := decide_eq_true h
  rw [this] at c1; cases c1
 repeat (refine q1 ?_)
 refine TC.cutT (ι := Bool) [0] rfl (fun v => [(9, .bool v)]) (fun _ => m) (fun _ => L) (fun v => v = decide (97 ≤ c.toNat ∧ c.toNat ≤ 102)) ?_ (fun v hv => ?_)
 ·repeat (first|refine q3 ?_|refine q4 tab rfl rfl ?_)
  (refine TO.splitP rfl rfl (fun c2 => ?_) (fun c2 => ?_))
  ·repeat (first|refine q4 tab rfl rfl ?_|refine q5 ?_|refine q6 ?_)
   refine ⟨_, (by repeat (first|exact trivial|refine And.intro rfl ?_)), (by repeat (first|exact trivial|refine And.intro rfl ?_)), rfl, rfl, (by repeat (exact List.Sublist.refl _)), ?_⟩
   rw [Bool.eq_iff_iff, decide_eq_true_iff, decide_eq_true_iff]; omega
  ·repeat (first|refine q4 tab rfl rfl ?_|refine q5 ?_|refine q6 ?_)
   refine ⟨false, (by repeat (first|exact trivial|refine And.intro rfl ?_)), (by repeat (first|exact trivial|refine And.intro rfl ?_)), rfl, rfl, (by repeat (exact List.Sublist.refl _)), ?_⟩
   symm; exact decide_eq_false (by omega)
 subst hv
 skip
 refine TC.condP rfl (fun c2 => ?_) (fun c2 => ?_)
 ·repeat (first|refine q1 ?_|refine q3 ?_|refine q4 tab rfl rfl ?_)
  refine TO.step rfl (OT.arithK rfl rfl rfl rfl rfl rfl (r' := ((c.toNat - 97 : Nat) : Int)) (by rw [u8_in (by omega) (by omega)]; omega) ?_)
  refine TO.step rfl (OT.conv tab rfl rfl rfl rfl rfl rfl (r := ((c.toNat - 97 : Nat) : Int)) (wrap64_in (by omega) (by omega)) ?_)
  refine TO.step rfl (OT.arith (r' := ((c.toNat - 97 + 10 : Nat) : Int)) rfl rfl rfl rfl rfl rfl rfl (by omega) ?_)
  repeat (first|refine q4 tab rfl rfl ?_|refine q5 ?_|refine q6 ?_|refine q8 ?_|refine q9 ?_|refine q15 ?_)
  refine retQ_ret rfl (by repeat (exact List.Sublist.refl _)) ⟨rfl, rfl, ?_⟩
  rw [hexV, if_neg h1, if_pos c2]
 repeat (refine q1 ?_)
 refine TC.cutT (ι := Bool) [0] rfl (fun v => [(20, .bool v)]) (fun _ => m) (fun _ => L) (fun v => v = decide (65 ≤ c.toNat ∧ c.toNat ≤ 70)) ?_ (fun v hv => ?_)
 ·repeat (first|refine q3 ?_|refine q4 tab rfl rfl ?_)
  (refine TO.splitP rfl rfl (fun c3 => ?_) (fun c3 => ?_))
  ·repeat (first|refine q4 tab rfl rfl ?_|refine q5 ?_|refine q6 ?_)
   refine ⟨_, (by repeat (first|exact trivial|refine And.intro rfl ?_)), (by repeat (first|exact trivial|refine And.intro rfl ?_)), rfl, rfl, (by repeat (exact List.Sublist.refl _)), ?_⟩
   rw [Bool.eq_iff_iff, decide_eq_true_iff, decide_eq_true_iff]; omega
  ·repeat (first|refine q4 tab rfl rfl ?_|refine q5 ?_|refine q6 ?_)
   refine ⟨false, (by repeat (first|exact trivial|refine And.intro rfl ?_)), (by repeat (first|exact trivial|refine And.intro rfl ?_)), rfl, rfl, (by repeat (exact List.Sublist.refl _)), ?_⟩
   symm; exact decide_eq_false (by omega)
 subst hv
 skip
 refine TC.condP rfl (fun c3 => ?_) (fun c3 => ?_)
 ·repeat (first|refine q1 ?_|refine q3 ?_|refine q4 tab rfl rfl ?_)
  refine TO.step rfl (OT.arithK rfl rfl rfl rfl rfl rfl (r' := ((c.toNat - 65 : Nat) : Int)) (by rw [u8_in (by omega) (by omega)]; omega) ?_)
  refine TO.step rfl (OT.conv tab rfl rfl rfl rfl rfl rfl (r := ((c.toNat - 65 : Nat) : Int)) (wrap64_in (by omega) (by omega)) ?_)
  refine TO.step rfl (OT.arith (r' := ((c.toNat - 65 + 10 : Nat) : Int)) rfl rfl rfl rfl rfl rfl rfl (by omega) ?_)
  repeat (first|refine q4 tab rfl rfl ?_|refine q5 ?_|refine q6 ?_|refine q8 ?_|refine q9 ?_|refine q15 ?_)
  refine retQ_ret rfl (by repeat (exact List.Sublist.refl _)) ⟨rfl, rfl, ?_⟩
  rw [hexV, if_neg h1, if_neg c2, if_pos c3]
 ·repeat (first|refine q1 ?_|refine q3 ?_|refine q4 tab rfl rfl ?_|refine q5 ?_|refine q6 ?_|refine q7 ?_|refine q13 ?_|refine q15 ?_)
  refine retQ_ret rfl (by repeat (exact List.Sublist.refl _)) ⟨rfl, rfl, ?_⟩
  rw [hexV, if_neg h1, if_neg c2, if_neg c3]
end Go.Sep


/- ScRef4 -/
set_option linter.unusedVariables false
set_option linter.unusedSimpArgs false
namespace Go.Sep
open Go.Proofs
attribute [local irreducible] TC TO OT TCallX TCall DO DOt thenQ blockQ retQ At
structure StrS where
 m : Mem
 sl : Sl
 i : Nat
 acc : Str
def strR (a : Nat) (o : Option (Str × Nat)) : Value := match o with
 | some (t, n) => if 1024 < t.length then .tuple ⟨[strV [], .int .i64 (-1)]⟩ else .tuple ⟨[strV t, .int .i64 ((a + 1 + n : Nat) : Int)]⟩
 | none => .tuple ⟨[strV [], .int .i64 (-1)]⟩
set_option maxHeartbeats 2000000 in
theorem str_ref (m : Mem) (L : List Item) (s : Str) (a : Nat) (ha : a < s.length) (hl : s.length ≤ 70000) : TCall Tryz.prog 75 ⟨[strV s, .int .i64 (a : Int)]⟩ m L (Made m L fun r _ => r = strR a (lit (s.drop (a + 1)))) := by
 unfold TCall
 refine TCallX.enter Tryz.func75 rfl 107 rfl ?_
 repeat (first|refine q1 ?_|refine q3 ?_|refine q4 tab rfl rfl ?_|refine q5 ?_|refine q6 ?_)
 refine TO.step rfl (OT.lit tab rfl rfl rfl rfl (fun b0 => ?_))
 refine TO.drop (List.sublist_cons_self _ _) ?_
 repeat (first|refine q1 ?_|refine q3 ?_|refine q4 tab rfl rfl ?_|refine q5 ?_|refine q6 ?_)
 refine TO.step rfl (OT.arith (r' := ((a + 1 : Nat) : Int)) rfl rfl rfl rfl rfl rfl rfl (by omega) ?_)
 repeat (first|refine q2 ?_|refine q4 tab rfl rfl ?_|refine q5 ?_|refine q6 ?_)
 refine TC.growL b0 1 ?_
 refine TC.loopK (ι := StrS) [0] rfl (fun x => [(7, .int .i64 (x.i : Int)), (6, x.sl.v)]) (fun x => x.m) (fun x => tok x.sl 1 :: L) (fun x => m ≤ x.m ∧ a + 1 ≤ x.i ∧ x.i ≤ s.length ∧ SlRep rByte x.m x.sl x.acc ∧ Own x.sl ∧ x.acc.length ≤ x.i ∧ LitAt s (a + 1) x.i x.acc (lit (s.drop (a + 1)))) (fun x => s.length - x.i) ⟨m, ⟨some ⟨b0, 0, none⟩, 0, 0⟩, a + 1, []⟩ (by repeat (first|exact trivial|refine And.intro rfl ?_)) rfl (by repeat (exact List.Sublist.refl _)) ⟨Mem.le_refl _, Nat.le_refl _, by show a + 1 ≤ _; omega, SlRep.lit0 _ _ _, Own.lit _ _ _, Nat.zero_le _, LitAt.start s (a + 1)⟩ ?_
 rintro ⟨m1, sl, i, acc⟩ ⟨hm, hi1, hi, hsl, hown, hacc, hI⟩
 replace hm : m ≤ m1 := hm
 replace hi1 : a + 1 ≤ i := hi1
 replace hi : i ≤ s.length := hi
 replace hsl : SlRep rByte m1 sl acc := hsl
 replace hown : Own sl := hown
 replace hacc : acc.length ≤ i := hacc
 replace hI : LitAt s (a + 1) i acc (lit (s.drop (a + 1))) := hI
 have hsn : sl.len = acc.length := hsl.len
 show TC _ _ _ ((7, .int .i64 (i : Int)) :: (6, sl.v) :: _) _ m1 (tok sl 1 :: L) _
 repeat (first|refine q1 ?_|refine q3 ?_|refine q4 tab rfl rfl ?_|refine q5 ?_|refine q6 ?_)
 refine TC.condP rfl (fun g1 => ?_) (fun g1 => ?_)
 ·have hlt : i < s.length := by omega
  have hx : s[i]? = some s[i] := by simp [hlt]
  repeat (first|refine q1 ?_|refine q2 ?_|refine q3 ?_|refine q4 tab rfl rfl ?_|refine q6 ?_|refine q13 ?_)
  refine TO.step rfl (OT.sidx tab i rfl rfl rfl rfl rfl rfl rfl hx ?_)
  repeat (first|refine q1 ?_|refine q3 ?_|refine q4 tab rfl rfl ?_|refine q5 ?_|refine q6 ?_)
  refine TC.condP rfl (fun c1 => ?_) (fun c1 => ?_)
  ·repeat (first|refine q1 ?_|refine q3 ?_|refine q4 tab rfl rfl ?_|refine q5 ?_|refine q6 ?_)
   refine TC.condP rfl (fun c0 => ?_) (fun c0 => ?_)
   ·repeat (first|refine q1 ?_|refine q3 ?_|refine q4 tab rfl rfl ?_|refine q5 ?_|refine q6 ?_|refine q8 ?_|refine q9 ?_|refine q15 ?_)
    refine retQ_ret rfl (by repeat (first|exact List.Sublist.refl _|refine List.Sublist.cons _ ?_)) ⟨hm, rfl, ?_⟩
    rw [hI.quote hlt (by omega), strR]
    simp only
    rw [if_pos (by omega)]
   ·repeat (first|refine q1 ?_|refine q3 ?_|refine q4 tab rfl rfl ?_|refine q6 ?_|refine q13 ?_)
    refine TO.step rfl (OT.bytesStrA tab rfl rfl rfl rfl rfl rfl rfl hsl ?_)
    repeat (refine q4 tab rfl rfl ?_)
    refine TO.step rfl (OT.arith (r' := ((i + 1 : Nat) : Int)) rfl rfl rfl rfl rfl rfl rfl (by omega) ?_)
    repeat (first|refine q4 tab rfl rfl ?_|refine q5 ?_|refine q6 ?_|refine q8 ?_|refine q9 ?_|refine q15 ?_)
    refine retQ_ret rfl (by repeat (first|exact List.Sublist.refl _|refine List.Sublist.cons _ ?_)) ⟨hm, rfl, ?_⟩
    rw [hI.quote hlt (by omega), strR]
    simp only
    rw [if_neg (by omega), show a + 1 + (i - (a + 1) + 1) = i + 1 by omega]
  repeat (first|refine q1 ?_|refine q3 ?_|refine q4 tab rfl rfl ?_|refine q5 ?_|refine q6 ?_|refine q13 ?_)
  refine TC.condP rfl (fun c2 => ?_) (fun c2 => ?_)
  ·skip
   repeat (first|refine q1 ?_|refine q3 ?_|refine q4 tab rfl rfl ?_|refine q5 ?_|refine q6 ?_|refine q8 ?_|refine q9 ?_|refine q15 ?_)
   refine retQ_ret rfl (by repeat (first|exact List.Sublist.refl _|refine List.Sublist.cons _ ?_)) ⟨hm, rfl, ?_⟩
   rw [hI.nl hlt (by omega)]; rfl
  repeat (first|refine q1 ?_|refine q3 ?_|refine q4 tab rfl rfl ?_|refine q5 ?_|refine q6 ?_|refine q13 ?_)
  refine TC.condN rfl (fun c3 => ?_) (fun c3 => ?_)
  ·repeat (first|refine q1 ?_|refine q3 ?_|refine q4 tab rfl rfl ?_)
   refine TO.step rfl (OT.lit tab rfl rfl rfl rfl (fun b => ?_))
   refine TO.step rfl (OT.append1 tab rByte 0 (hd' := s[i]) (a := s[i]) hsl hown rfl rfl rfl rfl rfl rfl rfl rfl (by show (acc.length + 1) * 1 ≤ _; omega) (fun s' m3 hm3 hs3 ho3 => ?_))
   repeat (first|refine q3 ?_|refine q4 tab rfl rfl ?_|refine q5 ?_|refine q6 ?_|refine q10 ?_|refine q11 ?_|refine q14 ?_)
   refine TO.step rfl (OT.arith (r' := ((i + 1 : Nat) : Int)) rfl rfl rfl rfl rfl rfl rfl (by omega) ?_)
   repeat (first|refine q4 tab rfl rfl ?_|refine q5 ?_|refine q6 ?_)
   exact ⟨⟨m3, s', i + 1, acc ++ [s[i]]⟩, (by repeat (first|exact trivial|refine And.intro rfl ?_)), (by repeat (first|exact trivial|refine And.intro rfl ?_)), rfl, rfl, (by repeat (exact List.Sublist.refl _)), ⟨Mem.le_trans hm hm3, by show _ ≤ i + 1; omega, by show i + 1 ≤ _; omega, hs3, ho3, by show (acc ++ [_]).length ≤ i + 1; rw [List.length_append]; simp only [List.length_cons, List.length_nil]; omega, (hI.one hi1 hlt (by omega) (by omega) (by omega))⟩, by show s.length - (i + 1) < s.length - i; omega⟩
  ·repeat (first|refine q1 ?_|refine q3 ?_|refine q4 tab rfl rfl ?_|refine q6 ?_|refine q13 ?_)
   refine TO.step rfl (OT.arith (r' := ((i + 1 : Nat) : Int)) rfl rfl rfl rfl rfl rfl rfl (by omega) ?_)
   repeat (first|refine q1 ?_|refine q3 ?_|refine q4 tab rfl rfl ?_|refine q5 ?_|refine q6 ?_)
   refine TC.condP rfl (fun c4 => ?_) (fun c4 => ?_)
   ·skip
    repeat (first|refine q1 ?_|refine q3 ?_|refine q4 tab rfl rfl ?_|refine q5 ?_|refine q6 ?_|refine q8 ?_|refine q9 ?_|refine q15 ?_)
    refine retQ_ret rfl (by repeat (first|exact List.Sublist.refl _|refine List.Sublist.cons _ ?_)) ⟨hm, rfl, ?_⟩
    rw [hI.bad hlt (by omega) (by rw [List.drop_eq_nil_of_le (by omega)]; rfl)]; rfl
   have hlt2 : i + 1 < s.length := by omega
   have hx2 : s[i + 1]? = some s[i + 1] := by simp [hlt2]
   have hd2 := List.drop_eq_getElem_cons hlt2
   repeat (first|refine q1 ?_|refine q3 ?_|refine q4 tab rfl rfl ?_|refine q6 ?_|refine q13 ?_)
   refine TO.step rfl (OT.sidx tab (i + 1) rfl rfl rfl rfl rfl rfl rfl hx2 ?_)
   repeat (first|refine q1 ?_|refine q2 ?_|refine q3 ?_|refine q4 tab rfl rfl ?_|refine q5 ?_|refine q6 ?_)
   refine TC.condP rfl (fun d1 => ?_) (fun d1 => ?_)
   ·have he : escB (s.drop (i + 1)) = some (10, 1) := by rw [hd2]; exact esc_n (by omega)
    repeat (first|refine q3 ?_|refine q4 tab rfl rfl ?_)
    refine TO.step rfl (OT.lit tab rfl rfl rfl rfl (fun b => ?_))
    refine TO.step rfl (OT.append1 tab rByte 0 (hd' := 10) (a := 10) hsl hown rfl rfl rfl rfl rfl rfl rfl rfl (by show (acc.length + 1) * 1 ≤ _; omega) (fun s' m3 hm3 hs3 ho3 => ?_))
    repeat (first|refine q3 ?_|refine q4 tab rfl rfl ?_|refine q5 ?_|refine q6 ?_|refine q7 ?_)
    refine TO.step rfl (OT.arith (r' := (((i + 1) + 1 : Nat) : Int)) rfl rfl rfl rfl rfl rfl rfl (by omega) ?_)
    repeat (first|refine q4 tab rfl rfl ?_|refine q5 ?_|refine q6 ?_)
    exact ⟨⟨m3, s', (i + 1) + 1, acc ++ [10]⟩, (by repeat (first|exact trivial|refine And.intro rfl ?_)), (by repeat (first|exact trivial|refine And.intro rfl ?_)), rfl, rfl, (by repeat (exact List.Sublist.refl _)), ⟨Mem.le_trans hm hm3, by show _ ≤ (i + 1) + 1; omega, by show (i + 1) + 1 ≤ _; omega, hs3, ho3, by show (acc ++ [_]).length ≤ (i + 1) + 1; rw [List.length_append]; simp only [List.length_cons, List.length_nil]; omega, (hI.esc hi1 hlt (by omega) he)⟩, by show s.length - ((i + 1) + 1) < s.length - i; omega⟩
   repeat (first|refine q1 ?_|refine q3 ?_|refine q4 tab rfl rfl ?_|refine q5 ?_|refine q6 ?_)
   refine TC.condP rfl (fun d2 => ?_) (fun d2 => ?_)
   ·have he : escB (s.drop (i + 1)) = some (9, 1) := by rw [hd2]; exact esc_t (by omega)
    repeat (first|refine q3 ?_|refine q4 tab rfl rfl ?_)
    refine TO.step rfl (OT.lit tab rfl rfl rfl rfl (fun b => ?_))
    refine TO.step rfl (OT.append1 tab rByte 0 (hd' := 9) (a := 9) hsl hown rfl rfl rfl rfl rfl rfl rfl rfl (by show (acc.length + 1) * 1 ≤ _; omega) (fun s' m3 hm3 hs3 ho3 => ?_))
    repeat (first|refine q3 ?_|refine q4 tab rfl rfl ?_|refine q5 ?_|refine q6 ?_|refine q7 ?_)
    refine TO.step rfl (OT.arith (r' := (((i + 1) + 1 : Nat) : Int)) rfl rfl rfl rfl rfl rfl rfl (by omega) ?_)
    repeat (first|refine q4 tab rfl rfl ?_|refine q5 ?_|refine q6 ?_)
    exact ⟨⟨m3, s', (i + 1) + 1, acc ++ [9]⟩, (by repeat (first|exact trivial|refine And.intro rfl ?_)), (by repeat (first|exact trivial|refine And.intro rfl ?_)), rfl, rfl, (by repeat (exact List.Sublist.refl _)), ⟨Mem.le_trans hm hm3, by show _ ≤ (i + 1) + 1; omega, by show (i + 1) + 1 ≤ _; omega, hs3, ho3, by show (acc ++ [_]).length ≤ (i + 1) + 1; rw [List.length_append]; simp only [List.length_cons, List.length_nil]; omega, (hI.esc hi1 hlt (by omega) he)⟩, by show s.length - ((i + 1) + 1) < s.length - i; omega⟩
   repeat (first|refine q1 ?_|refine q3 ?_|refine q4 tab rfl rfl ?_|refine q5 ?_|refine q6 ?_)
   refine TC.condP rfl (fun d3 => ?_) (fun d3 => ?_)
   ·have he : escB (s.drop (i + 1)) = some (s[i + 1], 1) := by rw [hd2]; exact esc_self (by omega)
    repeat (first|refine q6 ?_|refine q13 ?_)
    refine TC.condP rfl (fun _ => ?_) (fun h => absurd d3 h)
    repeat (first|refine q3 ?_|refine q4 tab rfl rfl ?_)
    refine TO.step rfl (OT.sidx tab (i + 1) rfl rfl rfl rfl rfl rfl rfl hx2 ?_)
    skip
    refine TO.step rfl (OT.lit tab rfl rfl rfl rfl (fun b => ?_))
    refine TO.step rfl (OT.append1 tab rByte 0 (hd' := s[i + 1]) (a := s[i + 1]) hsl hown rfl rfl rfl rfl rfl rfl rfl rfl (by show (acc.length + 1) * 1 ≤ _; omega) (fun s' m3 hm3 hs3 ho3 => ?_))
    repeat (first|refine q3 ?_|refine q4 tab rfl rfl ?_|refine q5 ?_|refine q6 ?_|refine q7 ?_)
    refine TO.step rfl (OT.arith (r' := (((i + 1) + 1 : Nat) : Int)) rfl rfl rfl rfl rfl rfl rfl (by omega) ?_)
    repeat (first|refine q4 tab rfl rfl ?_|refine q5 ?_|refine q6 ?_)
    exact ⟨⟨m3, s', (i + 1) + 1, acc ++ [s[i + 1]]⟩, (by repeat (first|exact trivial|refine And.intro rfl ?_)), (by repeat (first|exact trivial|refine And.intro rfl ?_)), rfl, rfl, (by repeat (exact List.Sublist.refl _)), ⟨Mem.le_trans hm hm3, by show _ ≤ (i + 1) + 1; omega, by show (i + 1) + 1 ≤ _; omega, hs3, ho3, by show (acc ++ [_]).length ≤ (i + 1) + 1; rw [List.length_append]; simp only [List.length_cons, List.length_nil]; omega, (hI.esc hi1 hlt (by omega) he)⟩, by show s.length - ((i + 1) + 1) < s.length - i; omega⟩
   repeat (first|refine q3 ?_|refine q4 tab rfl rfl ?_|refine q5 ?_|refine q6 ?_)
   refine TC.condP rfl (fun d4 => ?_) (fun d4 => ?_)
   ·have he : escB (s.drop (i + 1)) = some (s[i + 1], 1) := by rw [hd2]; exact esc_self (by omega)
    repeat (first|refine q3 ?_|refine q4 tab rfl rfl ?_)
    refine TO.step rfl (OT.sidx tab (i + 1) rfl rfl rfl rfl rfl rfl rfl hx2 ?_)
    skip
    refine TO.step rfl (OT.lit tab rfl rfl rfl rfl (fun b => ?_))
    refine TO.step rfl (OT.append1 tab rByte 0 (hd' := s[i + 1]) (a := s[i + 1]) hsl hown rfl rfl rfl rfl rfl rfl rfl rfl (by show (acc.length + 1) * 1 ≤ _; omega) (fun s' m3 hm3 hs3 ho3 => ?_))
    repeat (first|refine q3 ?_|refine q4 tab rfl rfl ?_|refine q5 ?_|refine q6 ?_|refine q7 ?_)
    refine TO.step rfl (OT.arith (r' := (((i + 1) + 1 : Nat) : Int)) rfl rfl rfl rfl rfl rfl rfl (by omega) ?_)
    repeat (first|refine q4 tab rfl rfl ?_|refine q5 ?_|refine q6 ?_)
    exact ⟨⟨m3, s', (i + 1) + 1, acc ++ [s[i + 1]]⟩, (by repeat (first|exact trivial|refine And.intro rfl ?_)), (by repeat (first|exact trivial|refine And.intro rfl ?_)), rfl, rfl, (by repeat (exact List.Sublist.refl _)), ⟨Mem.le_trans hm hm3, by show _ ≤ (i + 1) + 1; omega, by show (i + 1) + 1 ≤ _; omega, hs3, ho3, by show (acc ++ [_]).length ≤ (i + 1) + 1; rw [List.length_append]; simp only [List.length_cons, List.length_nil]; omega, (hI.esc hi1 hlt (by omega) he)⟩, by show s.length - ((i + 1) + 1) < s.length - i; omega⟩
   repeat (first|refine q1 ?_|refine q3 ?_|refine q4 tab rfl rfl ?_|refine q5 ?_|refine q6 ?_)
   refine TC.condP rfl (fun d5 => ?_) (fun d5 => ?_)
   ·repeat (first|refine q1 ?_|refine q3 ?_|refine q4 tab rfl rfl ?_)
    refine TO.step rfl (OT.arith (r' := ((i + 3 : Nat) : Int)) rfl rfl rfl rfl rfl rfl rfl (by omega) ?_)
    repeat (refine q4 tab rfl rfl ?_)
    (refine TO.splitP rfl rfl (fun d6 => ?_) (fun d6 => ?_))
    ·skip
     repeat (first|refine q1 ?_|refine q3 ?_|refine q4 tab rfl rfl ?_|refine q5 ?_|refine q6 ?_|refine q8 ?_|refine q9 ?_|refine q15 ?_|refine q16 rfl ?_)
     refine retQ_ret rfl (by repeat (first|exact List.Sublist.refl _|refine List.Sublist.cons _ ?_)) ⟨hm, rfl, ?_⟩
     rw [hI.bad hlt (by omega) (by rw [hd2]; exact esc_xs (by omega) (by rw [List.length_drop]; omega))]; rfl
    have hl3 : i + 2 < s.length := by omega
    have hl4 : i + 3 < s.length := by omega
    have hx3 : s[i + 2]? = some s[i + 2] := by simp [hl3]
    have hx4 : s[i + 3]? = some s[i + 3] := by simp [hl4]
    have hd3 : s.drop (i + 1) = s[i + 1] :: s[i + 2] :: s[i + 3] :: s.drop (i + 4) := by
     rw [hd2, List.drop_eq_getElem_cons hl3, List.drop_eq_getElem_cons hl4]
    repeat (refine q4 tab rfl rfl ?_)
    refine TO.step rfl (OT.arith (r' := ((i + 2 : Nat) : Int)) rfl rfl rfl rfl rfl rfl rfl (by omega) ?_)
    refine TO.step rfl (OT.sidx tab (i + 2) rfl rfl rfl rfl rfl rfl rfl hx3 ?_)
    refine TO.step rfl (OT.call rfl rfl rfl rfl rfl rfl goes106 ((hexValue_ref _ _ s[i + 2]).x ?_));
    rintro _ _ _ ⟨rfl, rfl, rfl⟩
    repeat (refine q4 tab rfl rfl ?_)
    (refine TO.splitP rfl rfl (fun d7 => ?_) (fun d7 => ?_))
    ·skip
     repeat (first|refine q1 ?_|refine q3 ?_|refine q4 tab rfl rfl ?_|refine q5 ?_|refine q6 ?_|refine q8 ?_|refine q9 ?_|refine q15 ?_|refine q16 rfl ?_)
     refine retQ_ret rfl (by repeat (first|exact List.Sublist.refl _|refine List.Sublist.cons _ ?_)) ⟨hm, rfl, ?_⟩
     rw [hI.bad hlt (by omega) (by rw [hd3, esc_x (by omega), hexB_none1 d7]; rfl)]; rfl
    repeat (refine q4 tab rfl rfl ?_)
    refine TO.step rfl (OT.arith (r' := ((i + 3 : Nat) : Int)) rfl rfl rfl rfl rfl rfl rfl (by omega) ?_)
    refine TO.step rfl (OT.sidx tab (i + 3) rfl rfl rfl rfl rfl rfl rfl hx4 ?_)
    refine TO.step rfl (OT.call rfl rfl rfl rfl rfl rfl goes106 ((hexValue_ref _ _ s[i + 3]).x ?_));
    rintro _ _ _ ⟨rfl, rfl, rfl⟩
    repeat (first|refine q4 tab rfl rfl ?_|refine q5 ?_|refine q6 ?_)
    refine TC.condP rfl (fun d8 => ?_) (fun d8 => ?_)
    ·skip
     repeat (first|refine q1 ?_|refine q3 ?_|refine q4 tab rfl rfl ?_|refine q5 ?_|refine q6 ?_|refine q8 ?_|refine q9 ?_|refine q15 ?_)
     refine retQ_ret rfl (by repeat (first|exact List.Sublist.refl _|refine List.Sublist.cons _ ?_)) ⟨hm, rfl, ?_⟩
     rw [hI.bad hlt (by omega) (by rw [hd3, esc_x (by omega), hexB_none2 d7 d8]; rfl)]; rfl
    obtain ⟨x, hxb, hxv⟩ := hexB_some d7 d8
    have hx256 : x.toNat < 256 := x.toNat_lt
    have he : escB (s.drop (i + 1)) = some (x, 3) := by rw [hd3, esc_x (by omega), hxb]; rfl
    have hv1 : 0 ≤ hexV s[i + 2] ∧ hexV s[i + 2] < 16 := by rcases hexV_dv s[i + 2] with ⟨d, _, _, h2⟩ | ⟨h2, _⟩ <;> omega
    repeat (first|refine q1 ?_|refine q6 ?_|refine q13 ?_)
    refine TC.draw [] mixed 17 rfl [] (tok sl 1 :: L) (by first | exact List.Perm.refl _ | (rw [List.append_nil]; exact List.Perm.refl _)) ?_
    refine DO.pure tab (by repeat (first|exact Calm.ret|refine Calm.then ?_|refine Calm.block ?_)) (by kernel_rfl) [0, 1, 2] (by kernel_rfl) rfl ?_
    refine DO.arith 3 (r' := ((i + 2 : Nat) : Int)) (by repeat (first|exact Calm.ret|refine Calm.then ?_|refine Calm.block ?_)) (by kernel_rfl) (by kernel_rfl) rfl rfl rfl rfl rfl rfl rfl rfl (by first | rfl | omega | (simp only; omega)) (by omega) ?_
    refine DO.sidx tab 4 (i + 2) (by repeat (first|exact Calm.ret|refine Calm.then ?_|refine Calm.block ?_)) (by kernel_rfl) (by kernel_rfl) rfl rfl rfl rfl rfl rfl rfl rfl rfl hx3 ?_
    refine DO.pure tab (by repeat (first|exact Calm.ret|refine Calm.then ?_|refine Calm.block ?_)) (by kernel_rfl) [7, 8] (by kernel_rfl) rfl ?_
    refine DO.arith 9 (r' := ((i + 3 : Nat) : Int)) (by repeat (first|exact Calm.ret|refine Calm.then ?_|refine Calm.block ?_)) (by kernel_rfl) (by kernel_rfl) rfl rfl rfl rfl rfl rfl rfl rfl (by first | rfl | omega | (simp only; omega)) (by omega) ?_
    refine DO.sidx tab 10 (i + 3) (by repeat (first|exact Calm.ret|refine Calm.then ?_|refine Calm.block ?_)) (by kernel_rfl) (by kernel_rfl) rfl rfl rfl rfl rfl rfl rfl rfl rfl hx4 ?_
    refine DO.run 5 rfl rfl (by kernel_rfl) rfl (OT.call rfl rfl rfl rfl rfl rfl goes106 ((hexValue_ref _ _ s[i + 2]).x ?_))
    rintro _ _ _ ⟨rfl, rfl, rfl⟩; refine ⟨Mem.le_refl _, _, List.Perm.refl _, ?_⟩
    refine DO.arith 6 (r' := (hexV s[i + 2] * 16)) (by repeat (first|exact Calm.ret|refine Calm.then ?_|refine Calm.block ?_)) (by kernel_rfl) (by kernel_rfl) rfl rfl rfl rfl rfl rfl rfl rfl (by first | rfl | omega | (simp only; omega)) (by omega) ?_
    refine DO.run 11 rfl rfl (by kernel_rfl) rfl (OT.call rfl rfl rfl rfl rfl rfl goes106 ((hexValue_ref _ _ s[i + 3]).x ?_))
    rintro _ _ _ ⟨rfl, rfl, rfl⟩; refine ⟨Mem.le_refl _, _, List.Perm.refl _, ?_⟩
    refine DO.arith 12 (r' := (x.toNat : Int)) (by repeat (first|exact Calm.ret|refine Calm.then ?_|refine Calm.block ?_)) (by kernel_rfl) (by kernel_rfl) rfl rfl rfl rfl rfl rfl rfl rfl (by first | rfl | omega | (simp only; omega)) (by omega) ?_
    refine DO.conv tab 13 (r := (x.toNat : Int)) (by repeat (first|exact Calm.ret|refine Calm.then ?_|refine Calm.block ?_)) (by kernel_rfl) (by kernel_rfl) rfl rfl rfl rfl rfl rfl rfl rfl (u8_in (by omega) (by omega)) ?_
    refine DO.run 14 rfl rfl (by kernel_rfl) rfl ?_
    refine OT.lit tab rfl rfl rfl rfl (fun b => ?_); refine ⟨Mem.le_refl _, _, List.Perm.refl _, ?_⟩
    refine DO.run 15 rfl rfl (by kernel_rfl) rfl ?_
    refine OT.append1 tab rByte 0 (hd' := x) (a := x) hsl hown rfl rfl rfl rfl rfl rfl rfl rfl (by show (acc.length + 1) * 1 ≤ _; omega) (fun s' m3 hm3 hs3 ho3 => ?_); refine ⟨hm3, _, List.Perm.refl _, ?_⟩
    refine DO.pure tab (by repeat (first|exact Calm.ret|refine Calm.then ?_|refine Calm.block ?_)) (by kernel_rfl) [16] (by kernel_rfl) rfl ?_
    (refine DO.nil (by kernel_rfl) ?_)
    rotate_left 1
    repeat (first|refine q3 ?_|refine q4 tab rfl rfl ?_|refine q6 ?_)
    refine TO.step rfl (OT.arith (r' := ((i + 3 : Nat) : Int)) rfl rfl rfl rfl rfl rfl rfl (by omega) ?_)
    repeat (first|refine q3 ?_|refine q4 tab rfl rfl ?_|refine q5 ?_|refine q6 ?_|refine q7 ?_)
    refine TO.step rfl (OT.arith (r' := (((i + 3) + 1 : Nat) : Int)) rfl rfl rfl rfl rfl rfl rfl (by omega) ?_)
    repeat (first|refine q4 tab rfl rfl ?_|refine q5 ?_|refine q6 ?_)
    exact ⟨⟨m3, s', (i + 3) + 1, acc ++ [x]⟩, (by repeat (first|exact trivial|refine And.intro rfl ?_)), (by repeat (first|exact trivial|refine And.intro rfl ?_)), rfl, rfl, (by repeat (exact List.Sublist.refl _)), ⟨Mem.le_trans hm hm3, by show _ ≤ (i + 3) + 1; omega, by show (i + 3) + 1 ≤ _; omega, hs3, ho3, by show (acc ++ [_]).length ≤ (i + 3) + 1; rw [List.length_append]; simp only [List.length_cons, List.length_nil]; omega, (hI.esc hi1 hlt (by omega) he)⟩, by show s.length - ((i + 3) + 1) < s.length - i; omega⟩
   ·skip
    repeat (first|refine q1 ?_|refine q3 ?_|refine q4 tab rfl rfl ?_|refine q5 ?_|refine q6 ?_|refine q8 ?_|refine q9 ?_|refine q15 ?_)
    refine retQ_ret rfl (by repeat (first|exact List.Sublist.refl _|refine List.Sublist.cons _ ?_)) ⟨hm, rfl, ?_⟩
    rw [hI.bad hlt (by omega) (by rw [hd2]; exact esc_no (by omega) (by omega) (by omega) (by omega) (by omega))]; rfl
 ·skip
  repeat (first|refine q1 ?_|refine q3 ?_|refine q4 tab rfl rfl ?_|refine q5 ?_|refine q6 ?_|refine q10 ?_|refine q11 ?_|refine q14 ?_|refine q15 ?_)
  refine retQ_ret rfl (by repeat (first|exact List.Sublist.refl _|refine List.Sublist.cons _ ?_)) ⟨hm, rfl, ?_⟩
  rw [hI.end_ (by omega)]; rfl
end Go.Sep

