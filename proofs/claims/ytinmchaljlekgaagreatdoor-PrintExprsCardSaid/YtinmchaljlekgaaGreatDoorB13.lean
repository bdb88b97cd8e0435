/- PtExprs -/
import Derived.Test.YtinmchaljlekgaaGreatDoorB12
set_option linter.unusedVariables false
set_option linter.unusedSimpArgs false
namespace Go.Sep
open Go.Proofs
attribute [local irreducible] TC TO OT TCallX TCall DO DOt thenQ blockQ retQ At
theorem exprD_cases (a : Tree) : exprD a=([],2) ∨ exprD a=([],4) ∨ ∃ s,exprD a=(s,0):=by
 unfold exprD outD
 split
 ·split
  ·exact .inr (.inl rfl)
  ·exact .inr (.inr ⟨_,rfl⟩)
 ·exact .inl rfl
attribute [local irreducible] parseD scanD exprD soundB
set_option maxHeartbeats 3000000 in
theorem printExprs_walk (m : Mem) (L : List Item) (a : Tree) (h : HTree) (hE : Errs m) (hT : Tb m) (hr : TreeRep m h a) (hR : a.inR=true) : TCall Tryz.prog 8 ⟨[treeV h]⟩ m L (Made m L fun r _=>r = .bool true):=by
 have hnum:=inR_num2 a hR
 unfold TCall
 refine TCallX.enter Tryz.func8 rfl 67 rfl ?_
 repeat (first|refine q1 ?_|refine q3 ?_)
 refine TO.step rfl (OT.box rfl rfl rfl rfl rfl (fun b => ?_))
 repeat (first|(first|refine q1 ?_|refine q3 ?_|refine q4 tab rfl rfl ?_|refine q5 ?_|refine q6 ?_)|(refine qs rfl (qz tab 0 rfl rfl rfl rfl rfl rfl ?_)))
 refine TO.step rfl (OT.call rfl rfl rfl rfl rfl rfl goes20 ((Expr_law _ _ a h hT hr (inR_wide a hR) hnum).x ?_));
 rintro _ m1 _ ⟨hm1,rfl,rfl⟩
 rcases exprD_cases a with he | he | ⟨s,he⟩
 ·rw [he]
  repeat (first|refine q1 ?_|refine q3 ?_|refine q4 tab rfl rfl ?_|refine q5 ?_|refine q6 ?_)
  refine TO.step rfl (OT.call rfl rfl rfl rfl rfl rfl goes17 ((awake3_law _ _ (hE.mono hm1) (tbOk.mono hT hm1)).x ?_));
  rintro _ m2 _ ⟨hm2,rfl,rfl⟩
  have hm12:=Mem.le_trans hm1 hm2
  repeat (first|refine q1 ?_|refine q3 ?_|refine q4 tab rfl rfl ?_|refine q5 ?_|refine q6 ?_|refine q16 rfl ?_)
  refine TO.step rfl (OT.call rfl rfl rfl rfl rfl rfl goes17 ((awake3_law _ _ (hE.mono hm12) (tbOk.mono hT hm12)).x ?_));
  rintro _ m3 _ ⟨hm3,rfl,rfl⟩
  repeat (first|refine q4 tab rfl rfl ?_|refine q5 ?_|refine q6 ?_|refine q8 ?_|refine q15 ?_)
  exact retQ_ret rfl (by repeat (first|exact List.Sublist.refl _|refine List.Sublist.cons _ ?_)) ⟨Mem.le_trans hm12 hm3,rfl,rfl⟩
 ·rw [he]
  repeat (first|refine q1 ?_|refine q3 ?_|refine q4 tab rfl rfl ?_|refine q5 ?_|refine q6 ?_)
  refine TO.step rfl (OT.call rfl rfl rfl rfl rfl rfl goes17 ((awake3_law _ _ (hE.mono hm1) (tbOk.mono hT hm1)).x ?_));
  rintro _ m2 _ ⟨hm2,rfl,rfl⟩
  have hm12:=Mem.le_trans hm1 hm2
  repeat (first|refine q1 ?_|refine q3 ?_|refine q4 tab rfl rfl ?_|refine q5 ?_|refine q6 ?_|refine q16 rfl ?_)
  refine TO.step rfl (OT.call rfl rfl rfl rfl rfl rfl goes17 ((awake3_law _ _ (hE.mono hm12) (tbOk.mono hT hm12)).x ?_));
  rintro _ m3 _ ⟨hm3,rfl,rfl⟩
  repeat (first|refine q4 tab rfl rfl ?_|refine q5 ?_|refine q6 ?_|refine q8 ?_|refine q15 ?_)
  exact retQ_ret rfl (by repeat (first|exact List.Sublist.refl _|refine List.Sublist.cons _ ?_)) ⟨Mem.le_trans hm12 hm3,rfl,rfl⟩
 ·rw [he]
  repeat (first|refine q1 ?_|refine q3 ?_|refine q4 tab rfl rfl ?_|refine q5 ?_|refine q6 ?_)
  refine TO.step rfl (OT.call rfl rfl rfl rfl rfl rfl goes17 ((awake3_law _ _ (hE.mono hm1) (tbOk.mono hT hm1)).x ?_));
  rintro _ m2 _ ⟨hm2,rfl,rfl⟩
  have hm12:=Mem.le_trans hm1 hm2
  repeat (first|refine q4 tab rfl rfl ?_|refine q5 ?_|refine q6 ?_)
  refine TC.condP rfl (fun c1 => ?_) (fun c1 => ?_)
  ·skip
   repeat (first|refine q1 ?_|refine q3 ?_)
   refine TO.step rfl (OT.call rfl rfl rfl rfl rfl rfl goes17 ((awake3_law _ _ (hE.mono hm12) (tbOk.mono hT hm12)).x ?_));
   rintro _ m3 _ ⟨hm3,rfl,rfl⟩
   repeat (first|refine q4 tab rfl rfl ?_|refine q5 ?_|refine q6 ?_|refine q8 ?_|refine q15 ?_)
   exact retQ_ret rfl (by repeat (first|exact List.Sublist.refl _|refine List.Sublist.cons _ ?_)) ⟨Mem.le_trans hm12 hm3,rfl,rfl⟩
  have hls : s.length ≤ 20000:=by simp only at c1;omega
  obtain ⟨hp1,hp2⟩:=expr_back hnum he hls
  have n1 : ([102,117,110,99,32,102,40,41,32,123,32,114,101,116,117,114,110,32] : Str).length=18:=rfl
  have n2 : ([102,117,110,99,32,102,40,41,32,123,32,114,101,116,117,114,110,32,40,40] : Str).length=20:=rfl
  repeat (first|refine q1 ?_|refine q3 ?_|refine q4 tab rfl rfl ?_|refine q6 ?_|refine q13 ?_)
  refine TO.step rfl (OT.concat (s:=[102,117,110,99,32,102,40,41,32,123,32,114,101,116,117,114,110,32]) (u:=s) rfl rfl rfl rfl rfl (by omega) ?_)
  refine TO.step rfl (OT.concat (s:=[102,117,110,99,32,102,40,41,32,123,32,114,101,116,117,114,110,32]++s) (u:=[59,32,125]) rfl rfl rfl rfl rfl (by rw [List.length_append];simp only [List.length_cons,List.length_nil];omega) ?_)
  skip
  refine TO.step rfl (OT.call rfl rfl rfl rfl rfl rfl goes11 ((parse_law program_ne _ _ ([102,117,110,99,32,102,40,41,32,123,32,114,101,116,117,114,110,32]++s++[59,32,125]) (hE.mono hm12)).x ?_));
  rintro _ m3 _ ⟨hm3,rfl,x,rfl,hx⟩
  have hm13:=Mem.le_trans hm12 hm3
  repeat (refine q4 tab rfl rfl ?_)
  refine TO.step rfl (OT.alloc tab rfl rfl rfl rfl (fun b2 => ?_))
  skip
  (refine TO.step rfl (OT.storeL0 tab 0 rfl rfl rfl rfl rfl rfl rfl rfl ?_))
  repeat (first|refine q1 ?_|refine q3 ?_|refine q4 tab rfl rfl ?_|refine q5 ?_|refine q6 ?_)
  refine TO.step rfl (OT.concat (s:=[102,117,110,99,32,102,40,41,32,123,32,114,101,116,117,114,110,32,40,40]) (u:=s) rfl rfl rfl rfl rfl (by omega) ?_)
  refine TO.step rfl (OT.concat (s:=[102,117,110,99,32,102,40,41,32,123,32,114,101,116,117,114,110,32,40,40]++s) (u:=[41,41,59,32,125]) rfl rfl rfl rfl rfl (by rw [List.length_append];simp only [List.length_cons,List.length_nil];omega) ?_)
  skip
  refine TO.step rfl (OT.call rfl rfl rfl rfl rfl rfl goes11 ((parse_law program_ne _ _ ([102,117,110,99,32,102,40,41,32,123,32,114,101,116,117,114,110,32,40,40]++s++[41,41,59,32,125]) (hE.mono hm13)).x ?_));
  rintro _ m4 _ ⟨hm4,rfl,y,rfl,hy⟩
  have hm14:=Mem.le_trans hm13 hm4
  repeat (refine q4 tab rfl rfl ?_)
  refine TO.step rfl (OT.alloc tab rfl rfl rfl rfl (fun b3 => ?_))
  skip
  (refine TO.step rfl (OT.storeL0 tab 0 rfl rfl rfl rfl rfl rfl rfl rfl ?_))
  rcases hp1 with hp1 | ⟨k1,hk1,hp1⟩
  ·rcases hp2 with hp2 | ⟨k2,hk2,hp2⟩
   ·rw [hp1] at hx ⊢
    rw [hp2] at hy ⊢
    have hx4:=hx.mono hm4
    repeat (first|(first|refine q1 ?_|refine q3 ?_|refine q4 tab rfl rfl ?_|refine q5 ?_|refine q6 ?_|refine q13 ?_|refine q17 rfl ?_)|(first|refine qs rfl (qz tab 0 rfl rfl rfl rfl rfl rfl ?_)|refine qs rfl (qz tab 1 rfl rfl rfl rfl rfl rfl ?_)))
    refine TO.step rfl (OT.call rfl rfl rfl rfl rfl rfl goes15 ((same_ref (withinT a) (withinT a) _ _ x y hx4 hy).x ?_));
    rw [teq_refl]
    rintro _ _ _ ⟨rfl,rfl,rfl⟩
    repeat (first|refine q1 ?_|refine q4 tab rfl rfl ?_|refine q5 ?_|refine q6 ?_|refine q13 ?_|refine q17 rfl ?_)
    refine TC.draw0 [] mixed 6 rfl ?_
    (refine DO.loadL (k:=0) tab 0 1 (by repeat (first|exact Calm.ret|refine Calm.then ?_)) (by kernel_rfl) (by kernel_rfl) rfl rfl rfl rfl rfl rfl rfl rfl ?_)
    (refine DO.loadL (k:=0) tab 3 2 (by repeat (first|exact Calm.ret|refine Calm.then ?_)) (by kernel_rfl) (by kernel_rfl) rfl rfl rfl rfl rfl rfl rfl rfl ?_)
    refine DO.run 1 rfl rfl (by kernel_rfl) rfl ?_
    refine OT.litR tab rInt (hs:=[0,1,0,0]) (l:=[0,1,0,0]) ⟨rfl,rfl,rfl,rfl,trivial⟩ rfl rfl rfl rfl rfl (by decide) (fun s5 m5 hm5 hs5 _ _ => ?_);refine ⟨hm5,[],List.Perm.refl _, ?_⟩
    refine DO.run 2 rfl rfl (by kernel_rfl) rfl (OT.call rfl rfl rfl rfl rfl rfl goes22 ((at_law _ _ (withinT a) x (hx4.mono hm5) s5 [0,1,0,0] hs5 (by decide)).x ?_))
    rintro _ m6 _ ⟨hm6,rfl,z,rfl,hz⟩;refine ⟨hm6,[],List.Perm.refl _, ?_⟩
    refine DO.run 4 rfl rfl (by kernel_rfl) rfl (OT.call rfl rfl rfl rfl rfl rfl goes15 ((same_ref (atT (withinT a) [0,1,0,0]) a _ _ z h hz (hr.mono (Mem.le_trans hm14 (Mem.le_trans hm5 hm6)))).x ?_))
    rintro _ _ _ ⟨rfl,rfl,rfl⟩;refine ⟨Mem.le_refl _,[],List.Perm.refl _, ?_⟩
    refine DO.pure tab (by repeat (first|exact Calm.ret|refine Calm.then ?_)) (by kernel_rfl) [5] (by kernel_rfl) rfl ?_
    (refine DO.nil0 (by kernel_rfl) ?_)
    rotate_left 1
    repeat (first|refine q6 ?_|refine q15 ?_)
    refine retQ_ret rfl (by repeat (first|exact List.Sublist.refl _|refine List.Sublist.cons _ ?_)) ⟨Mem.le_trans hm14 (Mem.le_trans hm5 hm6),rfl, ?_⟩
    have e : atT (withinT a) [0,1,0,0]=a:=rfl
    rw [e,teq_refl]
   ·rw [hp1] at hx ⊢
    rw [hp2] at hy ⊢
    repeat (first|refine q1 ?_|refine q3 ?_|refine q4 tab rfl rfl ?_|refine q5 ?_|refine q6 ?_|refine q8 ?_|refine q15 ?_|refine q16 rfl ?_)
    exact retQ_ret rfl (by repeat (first|exact List.Sublist.refl _|refine List.Sublist.cons _ ?_)) ⟨hm14,rfl,rfl⟩
  ·rw [hp1] at hx ⊢
   rcases hp2 with hp2 | ⟨k2,hk2,hp2⟩
   ·rw [hp2] at hy ⊢
    repeat (first|refine q1 ?_|refine q3 ?_|refine q4 tab rfl rfl ?_|refine q5 ?_|refine q6 ?_|refine q8 ?_|refine q15 ?_|refine q16 rfl ?_)
    exact retQ_ret rfl (by repeat (first|exact List.Sublist.refl _|refine List.Sublist.cons _ ?_)) ⟨hm14,rfl,rfl⟩
   ·rw [hp2] at hy ⊢
    repeat (first|refine q1 ?_|refine q3 ?_|refine q4 tab rfl rfl ?_|refine q5 ?_|refine q6 ?_|refine q8 ?_|refine q15 ?_|refine q16 rfl ?_)
    exact retQ_ret rfl (by repeat (first|exact List.Sublist.refl _|refine List.Sublist.cons _ ?_)) ⟨hm14,rfl,rfl⟩
end Go.Sep

