/-
  Part 7 of the proof: library, walks and plain laws.
-/
import Derived.Test.YtiknfjdjbhbjhaaGreatDoorB6
set_option linter.unusedVariables false
set_option linter.unusedSimpArgs false
namespace Go.Sep
open Go.Proofs
attribute [local irreducible] TC TO OT TCallX TCall DO DOt thenQ blockQ retQ At
set_option maxHeartbeats 4000000 in
theorem partition_ch (m : Mem) (L : List Item) (bd c a b p : Nat) (xs : List Ch) (hD0 : DomC xs) (hab : a + 1 < b) (hp : a ≤ p∧p < b) (hl : b ≤ xs.length) (hlim : xs.length ≤ 1000000) :
  TCall Tryz.prog 142 ⟨[.slice (some ⟨bd,0,none⟩) xs.length c, .int .i64 (a : Int), .int .i64 (b : Int), .int .i64 (p : Int),chF]⟩ m (chR bd xs :: L) (fun r m' L'=>m=m' ∧ ∃ ys mid bv,r = .tuple ⟨[.int .i64 ((mid : Nat) : Int), .bool bv]⟩ ∧ Parted ltC a b mid xs ys∧chR bd ys :: L=L'):=by
 unfold TCall
 refine TCallX.enter Tryz.func142 rfl 178 rfl ?_
 refine uA ?_
 refine TC.draw [13,14,15] mixed 16 rfl [chR bd xs] L uP ?_
 refine DO.pure tab uC (by kernel_rfl) [0,1,2,3,4,5] (by kernel_rfl) rfl ?_
 refine DO.indexP (sz:=2) tab 6 p uC (by kernel_rfl) (by kernel_rfl) rfl rfl rfl rfl rfl rfl rfl rfl rfl (by omega) ?_
 refine DO.loadE (jj:=0) tab 7 0 rCh (gk_get (xs:=xs) (k:=p) (by omega)) (by simp only [rCh];omega) (fun _=>rfl) uC (by kernel_rfl) (by kernel_rfl) rfl rfl rfl rfl rfl rfl rfl ?_
 refine DO.pure tab uC (by kernel_rfl) [8,9] (by kernel_rfl) rfl ?_
 refine DO.indexP (sz:=2) tab 10 a uC (by kernel_rfl) (by kernel_rfl) rfl rfl rfl rfl rfl rfl rfl rfl rfl (by omega) ?_
 refine DO.loadE (jj:=0) tab 11 0 rCh (gk_get (xs:=xs) (k:=a) (by omega)) (by simp only [rCh];omega) (fun _=>rfl) uC (by kernel_rfl) (by kernel_rfl) rfl rfl rfl rfl rfl rfl rfl ?_
 refine DO.indexP (sz:=2) tab 12 a uC (by kernel_rfl) (by kernel_rfl) rfl rfl rfl rfl rfl rfl rfl rfl rfl (by omega) ?_
 refine DO.tail ?_
 refine DOt.run 13 rfl rfl (by kernel_rfl) rfl ?_
 refine OT.storeE (h2:=gk xs p) tab 0 rCh (gk_get (xs:=xs) (k:=a) (by omega)) (j:=0) (by simp only [rCh];omega) (fun _=>rfl) (Nat.le_refl _) rfl rfl rfl rfl rfl rfl rfl ?_
 refine DOt.run 14 rfl rfl (by kernel_rfl) rfl ?_
 refine OT.indexP (sz:=2) tab p rfl rfl rfl rfl rfl rfl rfl (by omega) ?_
 refine DOt.run 15 rfl rfl (by kernel_rfl) rfl ?_
 refine OT.storeE (h2:=gk xs a) (h:=gk (List.set xs a (gk xs p)) p) tab 0 rCh (k:=p) (gk_get (by simp;omega)) (j:=0) (by simp only [rCh];omega) (fun _=>rfl) (Nat.le_refl _) rfl rfl rfl rfl rfl rfl rfl ?_
 refine DOt.nil (by kernel_rfl) ?_
 rotate_left 1
 have hS0 : Sg a b xs (sw xs a p):=Sg.sw (by omega) hp hl
 have hDs:=hD0.perm hS0.perm
 have hsl:=hS0.len
 refine uA ?_
 refine TO.step rfl (OT.arith (r':=((a + 1 : Nat) : Int)) rfl rfl rfl rfl rfl rfl rfl (by omega) ?_)
 refine uA ?_
 refine TO.step rfl (OT.arith (r':=((b - 1 : Nat) : Int)) rfl rfl rfl rfl rfl rfl (by omega) (by omega) ?_)
 refine uA ?_
 have hP : PaI ltC (sw xs a p) a b (a + 1) (b - 1) (sw xs a p):=PaI.start (a:=a) (b:=b) (by omega) hab
 obtain ⟨zs,hzs⟩ : ∃ zs,zs=sw xs a p:=⟨_,rfl⟩
 obtain ⟨i,hi⟩ : ∃ i,i=a + 1:=⟨_,rfl⟩
 obtain ⟨j,hj⟩ : ∃ j,j=b - 1:=⟨_,rfl⟩
 have hP : PaI ltC (sw xs a p) a b i j zs:=by rw [hi,hj,hzs];exact hP
 have hzl : zs.length=xs.length:=by rw [hzs];exact hsl
 have hD : DomC zs:=by rw [hzs];exact hDs
 refine TC.drop (L':=chR bd (sw xs a p) :: L) uS ?_
 rw [← hzs,← hi,← hj]
 refine uA ?_
 refine TC.loopK (ι:=Nat) [0,1,4,13] rfl (fun i=>[(12, .int .i64 (i : Int))]) (fun _=>m) (fun _=>chR bd zs :: L) (fun i=>PaI ltC (sw xs a p) a b i j zs) (fun i=>b + 1 - i) i uH rfl uS hP ?_
 clear hP
 rintro i hP
 have hr:=hP.rng
 refine uA ?_
 refine TC.draw [] mixed 16 rfl [chR bd zs] L uP ?_
 refine DO.pure tab uC (by kernel_rfl) [0,1,2,3] (by kernel_rfl) rfl ?_
 (refine DO.splitP (d:=35) rfl (fun hg3 => ?_) (fun hg3 => ?_))
 refine DO.pure tab uC (by kernel_rfl) [4,5,6] (by kernel_rfl) rfl ?_
 refine DO.indexP (sz:=2) tab 7 i uC (by kernel_rfl) (by kernel_rfl) rfl rfl rfl rfl rfl rfl rfl rfl rfl (by omega) ?_
 refine DO.loadE (jj:=0) tab 8 0 rCh (gk_get (xs:=zs) (k:=i) (by omega)) (by simp only [rCh];omega) (fun _=>rfl) uC (by kernel_rfl) (by kernel_rfl) rfl rfl rfl rfl rfl rfl rfl ?_
 refine DO.pure tab uC (by kernel_rfl) [9,10] (by kernel_rfl) rfl ?_
 refine DO.indexP (sz:=2) tab 11 a uC (by kernel_rfl) (by kernel_rfl) rfl rfl rfl rfl rfl rfl rfl rfl rfl (by omega) ?_
 refine DO.loadE (jj:=0) tab 12 0 rCh (gk_get (xs:=zs) (k:=a) (by omega)) (by simp only [rCh];omega) (fun _=>rfl) uC (by kernel_rfl) (by kernel_rfl) rfl rfl rfl rfl rfl rfl rfl ?_
 refine DO.run 13 rfl rfl (by kernel_rfl) rfl (OT.call rfl rfl rfl rfl rfl rfl goes43 ((chcmp_law m _ (gk zs i) (gk zs a) (hD.gk (by omega)) (hD.gk (by omega))).x ?_))
 rintro _ _ _ ⟨rfl,rfl,rfl⟩;refine ⟨Mem.le_refl _,_,List.Perm.refl _, ?_⟩
 refine DO.pure tab uC (by kernel_rfl) [14,15] (by kernel_rfl) rfl ?_
 (refine DO.nil (by kernel_rfl) ?_)
 rotate_left 1
 refine DO.pure tab uC (by kernel_rfl) [4,5,6,7,8,9,10,11,12,13,14,15] (by kernel_rfl) rfl ?_
 (refine DO.nil (by kernel_rfl) ?_)
 rotate_left 1
 ·refine uA ?_
  simp only [ch_dec]
  cases hc1 : ltC (gk zs i) (gk zs a) with
  | true =>
   refine uA ?_
   refine TO.step rfl (OT.arith (r':=((i + 1 : Nat) : Int)) rfl rfl rfl rfl rfl rfl rfl (by omega) ?_)
   refine uA ?_
   exact ⟨i + 1,uH,uH,rfl,rfl,uS,hP.left (by omega) hc1,by omega⟩
  | false =>
   refine uA ?_
   refine TC.loopK (ι:=Nat) [0,1,4,12] rfl (fun j=>[(13, .int .i64 (j : Int))]) (fun _=>m) (fun _=>chR bd zs :: L) (fun j2=>j2 ≤ j∧PaI ltC (sw xs a p) a b i j2 zs) (fun j=>j) j uH rfl uS ⟨Nat.le_refl _,hP⟩ ?_
   rintro j2 ⟨hj2,hP2⟩
   have hr2:=hP2.rng
   refine uA ?_
   refine TC.draw [] mixed 17 rfl [chR bd zs] L uP ?_
   refine DO.pure tab uC (by kernel_rfl) [0,1,2,3] (by kernel_rfl) rfl ?_
   (refine DO.splitP (d:=53) rfl (fun hg3 => ?_) (fun hg3 => ?_))
   refine DO.pure tab uC (by kernel_rfl) [4,5,6] (by kernel_rfl) rfl ?_
   refine DO.indexP (sz:=2) tab 7 j2 uC (by kernel_rfl) (by kernel_rfl) rfl rfl rfl rfl rfl rfl rfl rfl rfl (by omega) ?_
   refine DO.loadE (jj:=0) tab 8 0 rCh (gk_get (xs:=zs) (k:=j2) (by omega)) (by simp only [rCh];omega) (fun _=>rfl) uC (by kernel_rfl) (by kernel_rfl) rfl rfl rfl rfl rfl rfl rfl ?_
   refine DO.pure tab uC (by kernel_rfl) [9,10] (by kernel_rfl) rfl ?_
   refine DO.indexP (sz:=2) tab 11 a uC (by kernel_rfl) (by kernel_rfl) rfl rfl rfl rfl rfl rfl rfl rfl rfl (by omega) ?_
   refine DO.loadE (jj:=0) tab 12 0 rCh (gk_get (xs:=zs) (k:=a) (by omega)) (by simp only [rCh];omega) (fun _=>rfl) uC (by kernel_rfl) (by kernel_rfl) rfl rfl rfl rfl rfl rfl rfl ?_
   refine DO.run 13 rfl rfl (by kernel_rfl) rfl (OT.call rfl rfl rfl rfl rfl rfl goes43 ((chcmp_law m _ (gk zs j2) (gk zs a) (hD.gk (by omega)) (hD.gk (by omega))).x ?_))
   rintro _ _ _ ⟨rfl,rfl,rfl⟩;refine ⟨Mem.le_refl _,_,List.Perm.refl _, ?_⟩
   refine DO.pure tab uC (by kernel_rfl) [14,15,16] (by kernel_rfl) rfl ?_
   (refine DO.nil (by kernel_rfl) ?_)
   rotate_left 1
   refine DO.pure tab uC (by kernel_rfl) [4,5,6,7,8,9,10,11,12,13,14,15,16] (by kernel_rfl) rfl ?_
   (refine DO.nil (by kernel_rfl) ?_)
   rotate_left 1
   ·refine uA ?_
    simp only [ch_dec]
    cases hc2 : ltC (gk zs j2) (gk zs a) with
    | false =>
     refine uA ?_
     refine TO.step rfl (OT.arith (r':=((j2 - 1 : Nat) : Int)) rfl rfl rfl rfl rfl rfl (by omega) (by omega) ?_)
     refine uA ?_
     exact ⟨j2 - 1,uH,uH,rfl,rfl,uS,⟨by omega,hP2.right (by omega) hc2⟩,by omega⟩
    | true =>
     refine uA ?_
     refine TC.condP rfl (fun hgt => ?_) (fun hgt => ?_)
     ·have hN:=hP2.done (by omega) (by omega)
      refine uA ?_
      refine TC.draw [13,14,15] mixed 16 rfl [chR bd zs] L uP ?_
      refine DO.pure tab uC (by kernel_rfl) [0,1,2,3,4,5] (by kernel_rfl) rfl ?_
      refine DO.indexP (sz:=2) tab 6 a uC (by kernel_rfl) (by kernel_rfl) rfl rfl rfl rfl rfl rfl rfl rfl rfl (by omega) ?_
      refine DO.loadE (jj:=0) tab 7 0 rCh (gk_get (xs:=zs) (k:=a) (by omega)) (by simp only [rCh];omega) (fun _=>rfl) uC (by kernel_rfl) (by kernel_rfl) rfl rfl rfl rfl rfl rfl rfl ?_
      refine DO.pure tab uC (by kernel_rfl) [8,9] (by kernel_rfl) rfl ?_
      refine DO.indexP (sz:=2) tab 10 j2 uC (by kernel_rfl) (by kernel_rfl) rfl rfl rfl rfl rfl rfl rfl rfl rfl (by omega) ?_
      refine DO.loadE (jj:=0) tab 11 0 rCh (gk_get (xs:=zs) (k:=j2) (by omega)) (by simp only [rCh];omega) (fun _=>rfl) uC (by kernel_rfl) (by kernel_rfl) rfl rfl rfl rfl rfl rfl rfl ?_
      refine DO.indexP (sz:=2) tab 12 j2 uC (by kernel_rfl) (by kernel_rfl) rfl rfl rfl rfl rfl rfl rfl rfl rfl (by omega) ?_
      refine DO.tail ?_
      refine DOt.run 13 rfl rfl (by kernel_rfl) rfl ?_
      refine OT.storeE (h2:=gk zs a) tab 0 rCh (gk_get (xs:=zs) (k:=j2) (by omega)) (j:=0) (by simp only [rCh];omega) (fun _=>rfl) (Nat.le_refl _) rfl rfl rfl rfl rfl rfl rfl ?_
      refine DOt.run 14 rfl rfl (by kernel_rfl) rfl ?_
      refine OT.indexP (sz:=2) tab a rfl rfl rfl rfl rfl rfl rfl (by omega) ?_
      refine DOt.run 15 rfl rfl (by kernel_rfl) rfl ?_
      refine OT.storeE (h2:=gk zs j2) (h:=gk (List.set zs j2 (gk zs a)) a) tab 0 rCh (k:=a) (gk_get (by simp;omega)) (j:=0) (by simp only [rCh];omega) (fun _=>rfl) (Nat.le_refl _) rfl rfl rfl rfl rfl rfl rfl ?_
      refine DOt.nil (by kernel_rfl) ?_
      rotate_left 1
      refine uA ?_
      refine retQ_ret rfl (L':=chR bd (sw zs j2 a) :: L) uS ⟨rfl,sw zs j2 a,j2,_,rfl,hN.base hS0,rfl⟩
     ·have hpair : ltC (gk zs i) (gk zs a)=false∧ltC (gk zs j2) (gk zs a)=true:=by
       constructor
       ·first | exact hc1 | (exfalso;omega)
       ·first | exact hc2 | (exfalso;omega)
      obtain ⟨hN,hlt⟩:=hP2.swap (by omega) (by omega) hpair.1 hpair.2
      refine uA ?_
      refine TC.draw [13,14,15] mixed 16 rfl [chR bd zs] L uP ?_
      refine DO.pure tab uC (by kernel_rfl) [0,1,2,3,4,5] (by kernel_rfl) rfl ?_
      refine DO.indexP (sz:=2) tab 6 j2 uC (by kernel_rfl) (by kernel_rfl) rfl rfl rfl rfl rfl rfl rfl rfl rfl (by omega) ?_
      refine DO.loadE (jj:=0) tab 7 0 rCh (gk_get (xs:=zs) (k:=j2) (by omega)) (by simp only [rCh];omega) (fun _=>rfl) uC (by kernel_rfl) (by kernel_rfl) rfl rfl rfl rfl rfl rfl rfl ?_
      refine DO.pure tab uC (by kernel_rfl) [8,9] (by kernel_rfl) rfl ?_
      refine DO.indexP (sz:=2) tab 10 i uC (by kernel_rfl) (by kernel_rfl) rfl rfl rfl rfl rfl rfl rfl rfl rfl (by omega) ?_
      refine DO.loadE (jj:=0) tab 11 0 rCh (gk_get (xs:=zs) (k:=i) (by omega)) (by simp only [rCh];omega) (fun _=>rfl) uC (by kernel_rfl) (by kernel_rfl) rfl rfl rfl rfl rfl rfl rfl ?_
      refine DO.indexP (sz:=2) tab 12 i uC (by kernel_rfl) (by kernel_rfl) rfl rfl rfl rfl rfl rfl rfl rfl rfl (by omega) ?_
      refine DO.tail ?_
      refine DOt.run 13 rfl rfl (by kernel_rfl) rfl ?_
      refine OT.storeE (h2:=gk zs j2) tab 0 rCh (gk_get (xs:=zs) (k:=i) (by omega)) (j:=0) (by simp only [rCh];omega) (fun _=>rfl) (Nat.le_refl _) rfl rfl rfl rfl rfl rfl rfl ?_
      refine DOt.run 14 rfl rfl (by kernel_rfl) rfl ?_
      refine OT.indexP (sz:=2) tab j2 rfl rfl rfl rfl rfl rfl rfl (by omega) ?_
      refine DOt.run 15 rfl rfl (by kernel_rfl) rfl ?_
      refine OT.storeE (h2:=gk zs i) (h:=gk (List.set zs i (gk zs j2)) j2) tab 0 rCh (k:=j2) (gk_get (by simp;omega)) (j:=0) (by simp only [rCh];omega) (fun _=>rfl) (Nat.le_refl _) rfl rfl rfl rfl rfl rfl rfl ?_
      refine DOt.nil (by kernel_rfl) ?_
      rotate_left 1
      refine uA ?_
      refine TO.step rfl (OT.arith (r':=((i + 1 : Nat) : Int)) rfl rfl rfl rfl rfl rfl rfl (by omega) ?_)
      refine uA ?_
      refine TO.step rfl (OT.arith (r':=((j2 - 1 : Nat) : Int)) rfl rfl rfl rfl rfl rfl (by omega) (by omega) ?_)
      refine uA ?_
      refine TC.loopK (ι:=Nat × Nat × List Ch) [0,1,4] rfl (fun x=>[(12, .int .i64 (x.1 : Int)),(13, .int .i64 (x.2.1 : Int))]) (fun _=>m) (fun x=>chR bd x.2.2 :: L) (fun x=>PaI ltC (sw xs a p) a b x.1 x.2.1 x.2.2) (fun x=>b + 1 + x.2.1 - x.1) (i + 1,j2 - 1,sw zs i j2) uH rfl uS hN ?_
      clear hN hpair hP hP2 hc1 hc2
      rintro ⟨i,j,ws⟩ hP
      simp only at hP ⊢
      have hwl:=hP.seg.len
      have hD : DomC ws:=hDs.perm hP.seg.perm
      refine uA ?_
      refine TC.loopK (ι:=Nat) [0,1,4,13] rfl (fun i=>[(12, .int .i64 (i : Int))]) (fun _=>m) (fun _=>chR bd ws :: L) (fun k=>i ≤ k∧PaI ltC (sw xs a p) a b k j ws) (fun k=>b + 1 - k) i uH rfl uS ⟨Nat.le_refl _,hP⟩ ?_
      clear hP
      obtain ⟨i0,hi0⟩ : ∃ i0,i0=i:=⟨_,rfl⟩
      rw [← hi0]
      clear hi0
      rintro i ⟨hi0,hP⟩
      have hr:=hP.rng
      refine uA ?_
      refine TC.draw [] mixed 16 rfl [chR bd ws] L uP ?_
      refine DO.pure tab uC (by kernel_rfl) [0,1,2,3] (by kernel_rfl) rfl ?_
      (refine DO.splitP (d:=108) rfl (fun hg3 => ?_) (fun hg3 => ?_))
      refine DO.pure tab uC (by kernel_rfl) [4,5,6] (by kernel_rfl) rfl ?_
      refine DO.indexP (sz:=2) tab 7 i uC (by kernel_rfl) (by kernel_rfl) rfl rfl rfl rfl rfl rfl rfl rfl rfl (by omega) ?_
      refine DO.loadE (jj:=0) tab 8 0 rCh (gk_get (xs:=ws) (k:=i) (by omega)) (by simp only [rCh];omega) (fun _=>rfl) uC (by kernel_rfl) (by kernel_rfl) rfl rfl rfl rfl rfl rfl rfl ?_
      refine DO.pure tab uC (by kernel_rfl) [9,10] (by kernel_rfl) rfl ?_
      refine DO.indexP (sz:=2) tab 11 a uC (by kernel_rfl) (by kernel_rfl) rfl rfl rfl rfl rfl rfl rfl rfl rfl (by omega) ?_
      refine DO.loadE (jj:=0) tab 12 0 rCh (gk_get (xs:=ws) (k:=a) (by omega)) (by simp only [rCh];omega) (fun _=>rfl) uC (by kernel_rfl) (by kernel_rfl) rfl rfl rfl rfl rfl rfl rfl ?_
      refine DO.run 13 rfl rfl (by kernel_rfl) rfl (OT.call rfl rfl rfl rfl rfl rfl goes43 ((chcmp_law m _ (gk ws i) (gk ws a) (hD.gk (by omega)) (hD.gk (by omega))).x ?_))
      rintro _ _ _ ⟨rfl,rfl,rfl⟩;refine ⟨Mem.le_refl _,_,List.Perm.refl _, ?_⟩
      refine DO.pure tab uC (by kernel_rfl) [14,15] (by kernel_rfl) rfl ?_
      (refine DO.nil (by kernel_rfl) ?_)
      rotate_left 1
      refine DO.pure tab uC (by kernel_rfl) [4,5,6,7,8,9,10,11,12,13,14,15] (by kernel_rfl) rfl ?_
      (refine DO.nil (by kernel_rfl) ?_)
      rotate_left 1
      ·refine uA ?_
       simp only [ch_dec]
       cases hc1 : ltC (gk ws i) (gk ws a) with
       | true =>
        refine uA ?_
        refine TO.step rfl (OT.arith (r':=((i + 1 : Nat) : Int)) rfl rfl rfl rfl rfl rfl rfl (by omega) ?_)
        refine uA ?_
        exact ⟨i + 1,uH,uH,rfl,rfl,uS,⟨by omega,hP.left (by omega) hc1⟩,by omega⟩
       | false =>
        refine uA ?_
        refine TC.loopK (ι:=Nat) [0,1,4,12] rfl (fun j=>[(13, .int .i64 (j : Int))]) (fun _=>m) (fun _=>chR bd ws :: L) (fun j2=>j2 ≤ j∧PaI ltC (sw xs a p) a b i j2 ws) (fun j=>j) j uH rfl uS ⟨Nat.le_refl _,hP⟩ ?_
        rintro j2 ⟨hj2,hP2⟩
        have hr2:=hP2.rng
        refine uA ?_
        refine TC.draw [] mixed 17 rfl [chR bd ws] L uP ?_
        refine DO.pure tab uC (by kernel_rfl) [0,1,2,3] (by kernel_rfl) rfl ?_
        (refine DO.splitP (d:=126) rfl (fun hg3 => ?_) (fun hg3 => ?_))
        refine DO.pure tab uC (by kernel_rfl) [4,5,6] (by kernel_rfl) rfl ?_
        refine DO.indexP (sz:=2) tab 7 j2 uC (by kernel_rfl) (by kernel_rfl) rfl rfl rfl rfl rfl rfl rfl rfl rfl (by omega) ?_
        refine DO.loadE (jj:=0) tab 8 0 rCh (gk_get (xs:=ws) (k:=j2) (by omega)) (by simp only [rCh];omega) (fun _=>rfl) uC (by kernel_rfl) (by kernel_rfl) rfl rfl rfl rfl rfl rfl rfl ?_
        refine DO.pure tab uC (by kernel_rfl) [9,10] (by kernel_rfl) rfl ?_
        refine DO.indexP (sz:=2) tab 11 a uC (by kernel_rfl) (by kernel_rfl) rfl rfl rfl rfl rfl rfl rfl rfl rfl (by omega) ?_
        refine DO.loadE (jj:=0) tab 12 0 rCh (gk_get (xs:=ws) (k:=a) (by omega)) (by simp only [rCh];omega) (fun _=>rfl) uC (by kernel_rfl) (by kernel_rfl) rfl rfl rfl rfl rfl rfl rfl ?_
        refine DO.run 13 rfl rfl (by kernel_rfl) rfl (OT.call rfl rfl rfl rfl rfl rfl goes43 ((chcmp_law m _ (gk ws j2) (gk ws a) (hD.gk (by omega)) (hD.gk (by omega))).x ?_))
        rintro _ _ _ ⟨rfl,rfl,rfl⟩;refine ⟨Mem.le_refl _,_,List.Perm.refl _, ?_⟩
        refine DO.pure tab uC (by kernel_rfl) [14,15,16] (by kernel_rfl) rfl ?_
        (refine DO.nil (by kernel_rfl) ?_)
        rotate_left 1
        refine DO.pure tab uC (by kernel_rfl) [4,5,6,7,8,9,10,11,12,13,14,15,16] (by kernel_rfl) rfl ?_
        (refine DO.nil (by kernel_rfl) ?_)
        rotate_left 1
        ·refine uA ?_
         simp only [ch_dec]
         cases hc2 : ltC (gk ws j2) (gk ws a) with
         | false =>
          refine uA ?_
          refine TO.step rfl (OT.arith (r':=((j2 - 1 : Nat) : Int)) rfl rfl rfl rfl rfl rfl (by omega) (by omega) ?_)
          refine uA ?_
          exact ⟨j2 - 1,uH,uH,rfl,rfl,uS,⟨by omega,hP2.right (by omega) hc2⟩,by omega⟩
         | true =>
          refine uA ?_
          refine TC.condP rfl (fun hgt => ?_) (fun hgt => ?_)
          ·have hN:=hP2.done (by omega) (by omega)
           refine uA ?_
           refine TC.draw [13,14,15] mixed 16 rfl [chR bd ws] L uP ?_
           refine DO.pure tab uC (by kernel_rfl) [0,1,2,3,4,5] (by kernel_rfl) rfl ?_
           refine DO.indexP (sz:=2) tab 6 a uC (by kernel_rfl) (by kernel_rfl) rfl rfl rfl rfl rfl rfl rfl rfl rfl (by omega) ?_
           refine DO.loadE (jj:=0) tab 7 0 rCh (gk_get (xs:=ws) (k:=a) (by omega)) (by simp only [rCh];omega) (fun _=>rfl) uC (by kernel_rfl) (by kernel_rfl) rfl rfl rfl rfl rfl rfl rfl ?_
           refine DO.pure tab uC (by kernel_rfl) [8,9] (by kernel_rfl) rfl ?_
           refine DO.indexP (sz:=2) tab 10 j2 uC (by kernel_rfl) (by kernel_rfl) rfl rfl rfl rfl rfl rfl rfl rfl rfl (by omega) ?_
           refine DO.loadE (jj:=0) tab 11 0 rCh (gk_get (xs:=ws) (k:=j2) (by omega)) (by simp only [rCh];omega) (fun _=>rfl) uC (by kernel_rfl) (by kernel_rfl) rfl rfl rfl rfl rfl rfl rfl ?_
           refine DO.indexP (sz:=2) tab 12 j2 uC (by kernel_rfl) (by kernel_rfl) rfl rfl rfl rfl rfl rfl rfl rfl rfl (by omega) ?_
           refine DO.tail ?_
           refine DOt.run 13 rfl rfl (by kernel_rfl) rfl ?_
           refine OT.storeE (h2:=gk ws a) tab 0 rCh (gk_get (xs:=ws) (k:=j2) (by omega)) (j:=0) (by simp only [rCh];omega) (fun _=>rfl) (Nat.le_refl _) rfl rfl rfl rfl rfl rfl rfl ?_
           refine DOt.run 14 rfl rfl (by kernel_rfl) rfl ?_
           refine OT.indexP (sz:=2) tab a rfl rfl rfl rfl rfl rfl rfl (by omega) ?_
           refine DOt.run 15 rfl rfl (by kernel_rfl) rfl ?_
           refine OT.storeE (h2:=gk ws j2) (h:=gk (List.set ws j2 (gk ws a)) a) tab 0 rCh (k:=a) (gk_get (by simp;omega)) (j:=0) (by simp only [rCh];omega) (fun _=>rfl) (Nat.le_refl _) rfl rfl rfl rfl rfl rfl rfl ?_
           refine DOt.nil (by kernel_rfl) ?_
           rotate_left 1
           refine uA ?_
           refine retQ_ret rfl (L':=chR bd (sw ws j2 a) :: L) uS ⟨rfl,sw ws j2 a,j2,_,rfl,hN.base hS0,rfl⟩
          ·have hpair : ltC (gk ws i) (gk ws a)=false∧ltC (gk ws j2) (gk ws a)=true:=by
            constructor
            ·first | exact hc1 | (exfalso;omega)
            ·first | exact hc2 | (exfalso;omega)
           obtain ⟨hN,hlt⟩:=hP2.swap (by omega) (by omega) hpair.1 hpair.2
           refine uA ?_
           refine TC.draw [13,14,15] mixed 16 rfl [chR bd ws] L uP ?_
           refine DO.pure tab uC (by kernel_rfl) [0,1,2,3,4,5] (by kernel_rfl) rfl ?_
           refine DO.indexP (sz:=2) tab 6 j2 uC (by kernel_rfl) (by kernel_rfl) rfl rfl rfl rfl rfl rfl rfl rfl rfl (by omega) ?_
           refine DO.loadE (jj:=0) tab 7 0 rCh (gk_get (xs:=ws) (k:=j2) (by omega)) (by simp only [rCh];omega) (fun _=>rfl) uC (by kernel_rfl) (by kernel_rfl) rfl rfl rfl rfl rfl rfl rfl ?_
           refine DO.pure tab uC (by kernel_rfl) [8,9] (by kernel_rfl) rfl ?_
           refine DO.indexP (sz:=2) tab 10 i uC (by kernel_rfl) (by kernel_rfl) rfl rfl rfl rfl rfl rfl rfl rfl rfl (by omega) ?_
           refine DO.loadE (jj:=0) tab 11 0 rCh (gk_get (xs:=ws) (k:=i) (by omega)) (by simp only [rCh];omega) (fun _=>rfl) uC (by kernel_rfl) (by kernel_rfl) rfl rfl rfl rfl rfl rfl rfl ?_
           refine DO.indexP (sz:=2) tab 12 i uC (by kernel_rfl) (by kernel_rfl) rfl rfl rfl rfl rfl rfl rfl rfl rfl (by omega) ?_
           refine DO.tail ?_
           refine DOt.run 13 rfl rfl (by kernel_rfl) rfl ?_
           refine OT.storeE (h2:=gk ws j2) tab 0 rCh (gk_get (xs:=ws) (k:=i) (by omega)) (j:=0) (by simp only [rCh];omega) (fun _=>rfl) (Nat.le_refl _) rfl rfl rfl rfl rfl rfl rfl ?_
           refine DOt.run 14 rfl rfl (by kernel_rfl) rfl ?_
           refine OT.indexP (sz:=2) tab j2 rfl rfl rfl rfl rfl rfl rfl (by omega) ?_
           refine DOt.run 15 rfl rfl (by kernel_rfl) rfl ?_
           refine OT.storeE (h2:=gk ws i) (h:=gk (List.set ws i (gk ws j2)) j2) tab 0 rCh (k:=j2) (gk_get (by simp;omega)) (j:=0) (by simp only [rCh];omega) (fun _=>rfl) (Nat.le_refl _) rfl rfl rfl rfl rfl rfl rfl ?_
           refine DOt.nil (by kernel_rfl) ?_
           rotate_left 1
           refine uA ?_
           refine TO.step rfl (OT.arith (r':=((i + 1 : Nat) : Int)) rfl rfl rfl rfl rfl rfl rfl (by omega) ?_)
           refine uA ?_
           refine TO.step rfl (OT.arith (r':=((j2 - 1 : Nat) : Int)) rfl rfl rfl rfl rfl rfl (by omega) (by omega) ?_)
           refine uA ?_
           exact ⟨(i + 1,j2 - 1,sw ws i j2),uH,uH,rfl,rfl,uS,hN,by simp only;omega⟩
        ·have hc2 : j2 < i:=by omega
         refine uA ?_
         refine TC.condP rfl (fun hgt => ?_) (fun hgt => ?_)
         ·have hN:=hP2.done (by omega) (by omega)
          refine uA ?_
          refine TC.draw [13,14,15] mixed 16 rfl [chR bd ws] L uP ?_
          refine DO.pure tab uC (by kernel_rfl) [0,1,2,3,4,5] (by kernel_rfl) rfl ?_
          refine DO.indexP (sz:=2) tab 6 a uC (by kernel_rfl) (by kernel_rfl) rfl rfl rfl rfl rfl rfl rfl rfl rfl (by omega) ?_
          refine DO.loadE (jj:=0) tab 7 0 rCh (gk_get (xs:=ws) (k:=a) (by omega)) (by simp only [rCh];omega) (fun _=>rfl) uC (by kernel_rfl) (by kernel_rfl) rfl rfl rfl rfl rfl rfl rfl ?_
          refine DO.pure tab uC (by kernel_rfl) [8,9] (by kernel_rfl) rfl ?_
          refine DO.indexP (sz:=2) tab 10 j2 uC (by kernel_rfl) (by kernel_rfl) rfl rfl rfl rfl rfl rfl rfl rfl rfl (by omega) ?_
          refine DO.loadE (jj:=0) tab 11 0 rCh (gk_get (xs:=ws) (k:=j2) (by omega)) (by simp only [rCh];omega) (fun _=>rfl) uC (by kernel_rfl) (by kernel_rfl) rfl rfl rfl rfl rfl rfl rfl ?_
          refine DO.indexP (sz:=2) tab 12 j2 uC (by kernel_rfl) (by kernel_rfl) rfl rfl rfl rfl rfl rfl rfl rfl rfl (by omega) ?_
          refine DO.tail ?_
          refine DOt.run 13 rfl rfl (by kernel_rfl) rfl ?_
          refine OT.storeE (h2:=gk ws a) tab 0 rCh (gk_get (xs:=ws) (k:=j2) (by omega)) (j:=0) (by simp only [rCh];omega) (fun _=>rfl) (Nat.le_refl _) rfl rfl rfl rfl rfl rfl rfl ?_
          refine DOt.run 14 rfl rfl (by kernel_rfl) rfl ?_
          refine OT.indexP (sz:=2) tab a rfl rfl rfl rfl rfl rfl rfl (by omega) ?_
          refine DOt.run 15 rfl rfl (by kernel_rfl) rfl ?_
          refine OT.storeE (h2:=gk ws j2) (h:=gk (List.set ws j2 (gk ws a)) a) tab 0 rCh (k:=a) (gk_get (by simp;omega)) (j:=0) (by simp only [rCh];omega) (fun _=>rfl) (Nat.le_refl _) rfl rfl rfl rfl rfl rfl rfl ?_
          refine DOt.nil (by kernel_rfl) ?_
          rotate_left 1
          refine uA ?_
          refine retQ_ret rfl (L':=chR bd (sw ws j2 a) :: L) uS ⟨rfl,sw ws j2 a,j2,_,rfl,hN.base hS0,rfl⟩
         ·have hpair : ltC (gk ws i) (gk ws a)=false∧ltC (gk ws j2) (gk ws a)=true:=by
           constructor
           ·first | exact hc1 | (exfalso;omega)
           ·first | exact hc2 | (exfalso;omega)
          obtain ⟨hN,hlt⟩:=hP2.swap (by omega) (by omega) hpair.1 hpair.2
          refine uA ?_
          refine TC.draw [13,14,15] mixed 16 rfl [chR bd ws] L uP ?_
          refine DO.pure tab uC (by kernel_rfl) [0,1,2,3,4,5] (by kernel_rfl) rfl ?_
          refine DO.indexP (sz:=2) tab 6 j2 uC (by kernel_rfl) (by kernel_rfl) rfl rfl rfl rfl rfl rfl rfl rfl rfl (by omega) ?_
          refine DO.loadE (jj:=0) tab 7 0 rCh (gk_get (xs:=ws) (k:=j2) (by omega)) (by simp only [rCh];omega) (fun _=>rfl) uC (by kernel_rfl) (by kernel_rfl) rfl rfl rfl rfl rfl rfl rfl ?_
          refine DO.pure tab uC (by kernel_rfl) [8,9] (by kernel_rfl) rfl ?_
          refine DO.indexP (sz:=2) tab 10 i uC (by kernel_rfl) (by kernel_rfl) rfl rfl rfl rfl rfl rfl rfl rfl rfl (by omega) ?_
          refine DO.loadE (jj:=0) tab 11 0 rCh (gk_get (xs:=ws) (k:=i) (by omega)) (by simp only [rCh];omega) (fun _=>rfl) uC (by kernel_rfl) (by kernel_rfl) rfl rfl rfl rfl rfl rfl rfl ?_
          refine DO.indexP (sz:=2) tab 12 i uC (by kernel_rfl) (by kernel_rfl) rfl rfl rfl rfl rfl rfl rfl rfl rfl (by omega) ?_
          refine DO.tail ?_
          refine DOt.run 13 rfl rfl (by kernel_rfl) rfl ?_
          refine OT.storeE (h2:=gk ws j2) tab 0 rCh (gk_get (xs:=ws) (k:=i) (by omega)) (j:=0) (by simp only [rCh];omega) (fun _=>rfl) (Nat.le_refl _) rfl rfl rfl rfl rfl rfl rfl ?_
          refine DOt.run 14 rfl rfl (by kernel_rfl) rfl ?_
          refine OT.indexP (sz:=2) tab j2 rfl rfl rfl rfl rfl rfl rfl (by omega) ?_
          refine DOt.run 15 rfl rfl (by kernel_rfl) rfl ?_
          refine OT.storeE (h2:=gk ws i) (h:=gk (List.set ws i (gk ws j2)) j2) tab 0 rCh (k:=j2) (gk_get (by simp;omega)) (j:=0) (by simp only [rCh];omega) (fun _=>rfl) (Nat.le_refl _) rfl rfl rfl rfl rfl rfl rfl ?_
          refine DOt.nil (by kernel_rfl) ?_
          rotate_left 1
          refine uA ?_
          refine TO.step rfl (OT.arith (r':=((i + 1 : Nat) : Int)) rfl rfl rfl rfl rfl rfl rfl (by omega) ?_)
          refine uA ?_
          refine TO.step rfl (OT.arith (r':=((j2 - 1 : Nat) : Int)) rfl rfl rfl rfl rfl rfl (by omega) (by omega) ?_)
          refine uA ?_
          exact ⟨(i + 1,j2 - 1,sw ws i j2),uH,uH,rfl,rfl,uS,hN,by simp only;omega⟩
      ·have hc1 : j < i:=by omega
       refine uA ?_
       refine TC.loopK (ι:=Nat) [0,1,4,12] rfl (fun j=>[(13, .int .i64 (j : Int))]) (fun _=>m) (fun _=>chR bd ws :: L) (fun j2=>j2 ≤ j∧PaI ltC (sw xs a p) a b i j2 ws) (fun j=>j) j uH rfl uS ⟨Nat.le_refl _,hP⟩ ?_
       rintro j2 ⟨hj2,hP2⟩
       have hr2:=hP2.rng
       refine uA ?_
       refine TC.draw [] mixed 17 rfl [chR bd ws] L uP ?_
       refine DO.pure tab uC (by kernel_rfl) [0,1,2,3] (by kernel_rfl) rfl ?_
       (refine DO.splitP (d:=126) rfl (fun hg3 => ?_) (fun hg3 => ?_))
       refine DO.pure tab uC (by kernel_rfl) [4,5,6] (by kernel_rfl) rfl ?_
       refine DO.indexP (sz:=2) tab 7 j2 uC (by kernel_rfl) (by kernel_rfl) rfl rfl rfl rfl rfl rfl rfl rfl rfl (by omega) ?_
       refine DO.loadE (jj:=0) tab 8 0 rCh (gk_get (xs:=ws) (k:=j2) (by omega)) (by simp only [rCh];omega) (fun _=>rfl) uC (by kernel_rfl) (by kernel_rfl) rfl rfl rfl rfl rfl rfl rfl ?_
       refine DO.pure tab uC (by kernel_rfl) [9,10] (by kernel_rfl) rfl ?_
       refine DO.indexP (sz:=2) tab 11 a uC (by kernel_rfl) (by kernel_rfl) rfl rfl rfl rfl rfl rfl rfl rfl rfl (by omega) ?_
       refine DO.loadE (jj:=0) tab 12 0 rCh (gk_get (xs:=ws) (k:=a) (by omega)) (by simp only [rCh];omega) (fun _=>rfl) uC (by kernel_rfl) (by kernel_rfl) rfl rfl rfl rfl rfl rfl rfl ?_
       refine DO.run 13 rfl rfl (by kernel_rfl) rfl (OT.call rfl rfl rfl rfl rfl rfl goes43 ((chcmp_law m _ (gk ws j2) (gk ws a) (hD.gk (by omega)) (hD.gk (by omega))).x ?_))
       rintro _ _ _ ⟨rfl,rfl,rfl⟩;refine ⟨Mem.le_refl _,_,List.Perm.refl _, ?_⟩
       refine DO.pure tab uC (by kernel_rfl) [14,15,16] (by kernel_rfl) rfl ?_
       (refine DO.nil (by kernel_rfl) ?_)
       rotate_left 1
       refine DO.pure tab uC (by kernel_rfl) [4,5,6,7,8,9,10,11,12,13,14,15,16] (by kernel_rfl) rfl ?_
       (refine DO.nil (by kernel_rfl) ?_)
       rotate_left 1
       ·refine uA ?_
        simp only [ch_dec]
        cases hc2 : ltC (gk ws j2) (gk ws a) with
        | false =>
         refine uA ?_
         refine TO.step rfl (OT.arith (r':=((j2 - 1 : Nat) : Int)) rfl rfl rfl rfl rfl rfl (by omega) (by omega) ?_)
         refine uA ?_
         exact ⟨j2 - 1,uH,uH,rfl,rfl,uS,⟨by omega,hP2.right (by omega) hc2⟩,by omega⟩
        | true =>
         refine uA ?_
         refine TC.condP rfl (fun hgt => ?_) (fun hgt => ?_)
         ·have hN:=hP2.done (by omega) (by omega)
          refine uA ?_
          refine TC.draw [13,14,15] mixed 16 rfl [chR bd ws] L uP ?_
          refine DO.pure tab uC (by kernel_rfl) [0,1,2,3,4,5] (by kernel_rfl) rfl ?_
          refine DO.indexP (sz:=2) tab 6 a uC (by kernel_rfl) (by kernel_rfl) rfl rfl rfl rfl rfl rfl rfl rfl rfl (by omega) ?_
          refine DO.loadE (jj:=0) tab 7 0 rCh (gk_get (xs:=ws) (k:=a) (by omega)) (by simp only [rCh];omega) (fun _=>rfl) uC (by kernel_rfl) (by kernel_rfl) rfl rfl rfl rfl rfl rfl rfl ?_
          refine DO.pure tab uC (by kernel_rfl) [8,9] (by kernel_rfl) rfl ?_
          refine DO.indexP (sz:=2) tab 10 j2 uC (by kernel_rfl) (by kernel_rfl) rfl rfl rfl rfl rfl rfl rfl rfl rfl (by omega) ?_
          refine DO.loadE (jj:=0) tab 11 0 rCh (gk_get (xs:=ws) (k:=j2) (by omega)) (by simp only [rCh];omega) (fun _=>rfl) uC (by kernel_rfl) (by kernel_rfl) rfl rfl rfl rfl rfl rfl rfl ?_
          refine DO.indexP (sz:=2) tab 12 j2 uC (by kernel_rfl) (by kernel_rfl) rfl rfl rfl rfl rfl rfl rfl rfl rfl (by omega) ?_
          refine DO.tail ?_
          refine DOt.run 13 rfl rfl (by kernel_rfl) rfl ?_
          refine OT.storeE (h2:=gk ws a) tab 0 rCh (gk_get (xs:=ws) (k:=j2) (by omega)) (j:=0) (by simp only [rCh];omega) (fun _=>rfl) (Nat.le_refl _) rfl rfl rfl rfl rfl rfl rfl ?_
          refine DOt.run 14 rfl rfl (by kernel_rfl) rfl ?_
          refine OT.indexP (sz:=2) tab a rfl rfl rfl rfl rfl rfl rfl (by omega) ?_
          refine DOt.run 15 rfl rfl (by kernel_rfl) rfl ?_
          refine OT.storeE (h2:=gk ws j2) (h:=gk (List.set ws j2 (gk ws a)) a) tab 0 rCh (k:=a) (gk_get (by simp;omega)) (j:=0) (by simp only [rCh];omega) (fun _=>rfl) (Nat.le_refl _) rfl rfl rfl rfl rfl rfl rfl ?_
          refine DOt.nil (by kernel_rfl) ?_
          rotate_left 1
          refine uA ?_
          refine retQ_ret rfl (L':=chR bd (sw ws j2 a) :: L) uS ⟨rfl,sw ws j2 a,j2,_,rfl,hN.base hS0,rfl⟩
         ·have hpair : ltC (gk ws i) (gk ws a)=false∧ltC (gk ws j2) (gk ws a)=true:=by
           constructor
           ·first | exact hc1 | (exfalso;omega)
           ·first | exact hc2 | (exfalso;omega)
          obtain ⟨hN,hlt⟩:=hP2.swap (by omega) (by omega) hpair.1 hpair.2
          refine uA ?_
          refine TC.draw [13,14,15] mixed 16 rfl [chR bd ws] L uP ?_
          refine DO.pure tab uC (by kernel_rfl) [0,1,2,3,4,5] (by kernel_rfl) rfl ?_
          refine DO.indexP (sz:=2) tab 6 j2 uC (by kernel_rfl) (by kernel_rfl) rfl rfl rfl rfl rfl rfl rfl rfl rfl (by omega) ?_
          refine DO.loadE (jj:=0) tab 7 0 rCh (gk_get (xs:=ws) (k:=j2) (by omega)) (by simp only [rCh];omega) (fun _=>rfl) uC (by kernel_rfl) (by kernel_rfl) rfl rfl rfl rfl rfl rfl rfl ?_
          refine DO.pure tab uC (by kernel_rfl) [8,9] (by kernel_rfl) rfl ?_
          refine DO.indexP (sz:=2) tab 10 i uC (by kernel_rfl) (by kernel_rfl) rfl rfl rfl rfl rfl rfl rfl rfl rfl (by omega) ?_
          refine DO.loadE (jj:=0) tab 11 0 rCh (gk_get (xs:=ws) (k:=i) (by omega)) (by simp only [rCh];omega) (fun _=>rfl) uC (by kernel_rfl) (by kernel_rfl) rfl rfl rfl rfl rfl rfl rfl ?_
          refine DO.indexP (sz:=2) tab 12 i uC (by kernel_rfl) (by kernel_rfl) rfl rfl rfl rfl rfl rfl rfl rfl rfl (by omega) ?_
          refine DO.tail ?_
          refine DOt.run 13 rfl rfl (by kernel_rfl) rfl ?_
          refine OT.storeE (h2:=gk ws j2) tab 0 rCh (gk_get (xs:=ws) (k:=i) (by omega)) (j:=0) (by simp only [rCh];omega) (fun _=>rfl) (Nat.le_refl _) rfl rfl rfl rfl rfl rfl rfl ?_
          refine DOt.run 14 rfl rfl (by kernel_rfl) rfl ?_
          refine OT.indexP (sz:=2) tab j2 rfl rfl rfl rfl rfl rfl rfl (by omega) ?_
          refine DOt.run 15 rfl rfl (by kernel_rfl) rfl ?_
          refine OT.storeE (h2:=gk ws i) (h:=gk (List.set ws i (gk ws j2)) j2) tab 0 rCh (k:=j2) (gk_get (by simp;omega)) (j:=0) (by simp only [rCh];omega) (fun _=>rfl) (Nat.le_refl _) rfl rfl rfl rfl rfl rfl rfl ?_
          refine DOt.nil (by kernel_rfl) ?_
          rotate_left 1
          refine uA ?_
          refine TO.step rfl (OT.arith (r':=((i + 1 : Nat) : Int)) rfl rfl rfl rfl rfl rfl rfl (by omega) ?_)
          refine uA ?_
          refine TO.step rfl (OT.arith (r':=((j2 - 1 : Nat) : Int)) rfl rfl rfl rfl rfl rfl (by omega) (by omega) ?_)
          refine uA ?_
          exact ⟨(i + 1,j2 - 1,sw ws i j2),uH,uH,rfl,rfl,uS,hN,by simp only;omega⟩
       ·have hc2 : j2 < i:=by omega
        refine uA ?_
        refine TC.condP rfl (fun hgt => ?_) (fun hgt => ?_)
        ·have hN:=hP2.done (by omega) (by omega)
         refine uA ?_
         refine TC.draw [13,14,15] mixed 16 rfl [chR bd ws] L uP ?_
         refine DO.pure tab uC (by kernel_rfl) [0,1,2,3,4,5] (by kernel_rfl) rfl ?_
         refine DO.indexP (sz:=2) tab 6 a uC (by kernel_rfl) (by kernel_rfl) rfl rfl rfl rfl rfl rfl rfl rfl rfl (by omega) ?_
         refine DO.loadE (jj:=0) tab 7 0 rCh (gk_get (xs:=ws) (k:=a) (by omega)) (by simp only [rCh];omega) (fun _=>rfl) uC (by kernel_rfl) (by kernel_rfl) rfl rfl rfl rfl rfl rfl rfl ?_
         refine DO.pure tab uC (by kernel_rfl) [8,9] (by kernel_rfl) rfl ?_
         refine DO.indexP (sz:=2) tab 10 j2 uC (by kernel_rfl) (by kernel_rfl) rfl rfl rfl rfl rfl rfl rfl rfl rfl (by omega) ?_
         refine DO.loadE (jj:=0) tab 11 0 rCh (gk_get (xs:=ws) (k:=j2) (by omega)) (by simp only [rCh];omega) (fun _=>rfl) uC (by kernel_rfl) (by kernel_rfl) rfl rfl rfl rfl rfl rfl rfl ?_
         refine DO.indexP (sz:=2) tab 12 j2 uC (by kernel_rfl) (by kernel_rfl) rfl rfl rfl rfl rfl rfl rfl rfl rfl (by omega) ?_
         refine DO.tail ?_
         refine DOt.run 13 rfl rfl (by kernel_rfl) rfl ?_
         refine OT.storeE (h2:=gk ws a) tab 0 rCh (gk_get (xs:=ws) (k:=j2) (by omega)) (j:=0) (by simp only [rCh];omega) (fun _=>rfl) (Nat.le_refl _) rfl rfl rfl rfl rfl rfl rfl ?_
         refine DOt.run 14 rfl rfl (by kernel_rfl) rfl ?_
         refine OT.indexP (sz:=2) tab a rfl rfl rfl rfl rfl rfl rfl (by omega) ?_
         refine DOt.run 15 rfl rfl (by kernel_rfl) rfl ?_
         refine OT.storeE (h2:=gk ws j2) (h:=gk (List.set ws j2 (gk ws a)) a) tab 0 rCh (k:=a) (gk_get (by simp;omega)) (j:=0) (by simp only [rCh];omega) (fun _=>rfl) (Nat.le_refl _) rfl rfl rfl rfl rfl rfl rfl ?_
         refine DOt.nil (by kernel_rfl) ?_
         rotate_left 1
         refine uA ?_
         refine retQ_ret rfl (L':=chR bd (sw ws j2 a) :: L) uS ⟨rfl,sw ws j2 a,j2,_,rfl,hN.base hS0,rfl⟩
        ·have hpair : ltC (gk ws i) (gk ws a)=false∧ltC (gk ws j2) (gk ws a)=true:=by
          constructor
          ·first | exact hc1 | (exfalso;omega)
          ·first | exact hc2 | (exfalso;omega)
         obtain ⟨hN,hlt⟩:=hP2.swap (by omega) (by omega) hpair.1 hpair.2
         refine uA ?_
         refine TC.draw [13,14,15] mixed 16 rfl [chR bd ws] L uP ?_
         refine DO.pure tab uC (by kernel_rfl) [0,1,2,3,4,5] (by kernel_rfl) rfl ?_
         refine DO.indexP (sz:=2) tab 6 j2 uC (by kernel_rfl) (by kernel_rfl) rfl rfl rfl rfl rfl rfl rfl rfl rfl (by omega) ?_
         refine DO.loadE (jj:=0) tab 7 0 rCh (gk_get (xs:=ws) (k:=j2) (by omega)) (by simp only [rCh];omega) (fun _=>rfl) uC (by kernel_rfl) (by kernel_rfl) rfl rfl rfl rfl rfl rfl rfl ?_
         refine DO.pure tab uC (by kernel_rfl) [8,9] (by kernel_rfl) rfl ?_
         refine DO.indexP (sz:=2) tab 10 i uC (by kernel_rfl) (by kernel_rfl) rfl rfl rfl rfl rfl rfl rfl rfl rfl (by omega) ?_
         refine DO.loadE (jj:=0) tab 11 0 rCh (gk_get (xs:=ws) (k:=i) (by omega)) (by simp only [rCh];omega) (fun _=>rfl) uC (by kernel_rfl) (by kernel_rfl) rfl rfl rfl rfl rfl rfl rfl ?_
         refine DO.indexP (sz:=2) tab 12 i uC (by kernel_rfl) (by kernel_rfl) rfl rfl rfl rfl rfl rfl rfl rfl rfl (by omega) ?_
         refine DO.tail ?_
         refine DOt.run 13 rfl rfl (by kernel_rfl) rfl ?_
         refine OT.storeE (h2:=gk ws j2) tab 0 rCh (gk_get (xs:=ws) (k:=i) (by omega)) (j:=0) (by simp only [rCh];omega) (fun _=>rfl) (Nat.le_refl _) rfl rfl rfl rfl rfl rfl rfl ?_
         refine DOt.run 14 rfl rfl (by kernel_rfl) rfl ?_
         refine OT.indexP (sz:=2) tab j2 rfl rfl rfl rfl rfl rfl rfl (by omega) ?_
         refine DOt.run 15 rfl rfl (by kernel_rfl) rfl ?_
         refine OT.storeE (h2:=gk ws i) (h:=gk (List.set ws i (gk ws j2)) j2) tab 0 rCh (k:=j2) (gk_get (by simp;omega)) (j:=0) (by simp only [rCh];omega) (fun _=>rfl) (Nat.le_refl _) rfl rfl rfl rfl rfl rfl rfl ?_
         refine DOt.nil (by kernel_rfl) ?_
         rotate_left 1
         refine uA ?_
         refine TO.step rfl (OT.arith (r':=((i + 1 : Nat) : Int)) rfl rfl rfl rfl rfl rfl rfl (by omega) ?_)
         refine uA ?_
         refine TO.step rfl (OT.arith (r':=((j2 - 1 : Nat) : Int)) rfl rfl rfl rfl rfl rfl (by omega) (by omega) ?_)
         refine uA ?_
         exact ⟨(i + 1,j2 - 1,sw ws i j2),uH,uH,rfl,rfl,uS,hN,by simp only;omega⟩
   ·have hc2 : j2 < i:=by omega
    refine uA ?_
    refine TC.condP rfl (fun hgt => ?_) (fun hgt => ?_)
    ·have hN:=hP2.done (by omega) (by omega)
     refine uA ?_
     refine TC.draw [13,14,15] mixed 16 rfl [chR bd zs] L uP ?_
     refine DO.pure tab uC (by kernel_rfl) [0,1,2,3,4,5] (by kernel_rfl) rfl ?_
     refine DO.indexP (sz:=2) tab 6 a uC (by kernel_rfl) (by kernel_rfl) rfl rfl rfl rfl rfl rfl rfl rfl rfl (by omega) ?_
     refine DO.loadE (jj:=0) tab 7 0 rCh (gk_get (xs:=zs) (k:=a) (by omega)) (by simp only [rCh];omega) (fun _=>rfl) uC (by kernel_rfl) (by kernel_rfl) rfl rfl rfl rfl rfl rfl rfl ?_
     refine DO.pure tab uC (by kernel_rfl) [8,9] (by kernel_rfl) rfl ?_
     refine DO.indexP (sz:=2) tab 10 j2 uC (by kernel_rfl) (by kernel_rfl) rfl rfl rfl rfl rfl rfl rfl rfl rfl (by omega) ?_
     refine DO.loadE (jj:=0) tab 11 0 rCh (gk_get (xs:=zs) (k:=j2) (by omega)) (by simp only [rCh];omega) (fun _=>rfl) uC (by kernel_rfl) (by kernel_rfl) rfl rfl rfl rfl rfl rfl rfl ?_
     refine DO.indexP (sz:=2) tab 12 j2 uC (by kernel_rfl) (by kernel_rfl) rfl rfl rfl rfl rfl rfl rfl rfl rfl (by omega) ?_
     refine DO.tail ?_
     refine DOt.run 13 rfl rfl (by kernel_rfl) rfl ?_
     refine OT.storeE (h2:=gk zs a) tab 0 rCh (gk_get (xs:=zs) (k:=j2) (by omega)) (j:=0) (by simp only [rCh];omega) (fun _=>rfl) (Nat.le_refl _) rfl rfl rfl rfl rfl rfl rfl ?_
     refine DOt.run 14 rfl rfl (by kernel_rfl) rfl ?_
     refine OT.indexP (sz:=2) tab a rfl rfl rfl rfl rfl rfl rfl (by omega) ?_
     refine DOt.run 15 rfl rfl (by kernel_rfl) rfl ?_
     refine OT.storeE (h2:=gk zs j2) (h:=gk (List.set zs j2 (gk zs a)) a) tab 0 rCh (k:=a) (gk_get (by simp;omega)) (j:=0) (by simp only [rCh];omega) (fun _=>rfl) (Nat.le_refl _) rfl rfl rfl rfl rfl rfl rfl ?_
     refine DOt.nil (by kernel_rfl) ?_
     rotate_left 1
     refine uA ?_
     refine retQ_ret rfl (L':=chR bd (sw zs j2 a) :: L) uS ⟨rfl,sw zs j2 a,j2,_,rfl,hN.base hS0,rfl⟩
    ·have hpair : ltC (gk zs i) (gk zs a)=false∧ltC (gk zs j2) (gk zs a)=true:=by
      constructor
      ·first | exact hc1 | (exfalso;omega)
      ·first | exact hc2 | (exfalso;omega)
     obtain ⟨hN,hlt⟩:=hP2.swap (by omega) (by omega) hpair.1 hpair.2
     refine uA ?_
     refine TC.draw [13,14,15] mixed 16 rfl [chR bd zs] L uP ?_
     refine DO.pure tab uC (by kernel_rfl) [0,1,2,3,4,5] (by kernel_rfl) rfl ?_
     refine DO.indexP (sz:=2) tab 6 j2 uC (by kernel_rfl) (by kernel_rfl) rfl rfl rfl rfl rfl rfl rfl rfl rfl (by omega) ?_
     refine DO.loadE (jj:=0) tab 7 0 rCh (gk_get (xs:=zs) (k:=j2) (by omega)) (by simp only [rCh];omega) (fun _=>rfl) uC (by kernel_rfl) (by kernel_rfl) rfl rfl rfl rfl rfl rfl rfl ?_
     refine DO.pure tab uC (by kernel_rfl) [8,9] (by kernel_rfl) rfl ?_
     refine DO.indexP (sz:=2) tab 10 i uC (by kernel_rfl) (by kernel_rfl) rfl rfl rfl rfl rfl rfl rfl rfl rfl (by omega) ?_
     refine DO.loadE (jj:=0) tab 11 0 rCh (gk_get (xs:=zs) (k:=i) (by omega)) (by simp only [rCh];omega) (fun _=>rfl) uC (by kernel_rfl) (by kernel_rfl) rfl rfl rfl rfl rfl rfl rfl ?_
     refine DO.indexP (sz:=2) tab 12 i uC (by kernel_rfl) (by kernel_rfl) rfl rfl rfl rfl rfl rfl rfl rfl rfl (by omega) ?_
     refine DO.tail ?_
     refine DOt.run 13 rfl rfl (by kernel_rfl) rfl ?_
     refine OT.storeE (h2:=gk zs j2) tab 0 rCh (gk_get (xs:=zs) (k:=i) (by omega)) (j:=0) (by simp only [rCh];omega) (fun _=>rfl) (Nat.le_refl _) rfl rfl rfl rfl rfl rfl rfl ?_
     refine DOt.run 14 rfl rfl (by kernel_rfl) rfl ?_
     refine OT.indexP (sz:=2) tab j2 rfl rfl rfl rfl rfl rfl rfl (by omega) ?_
     refine DOt.run 15 rfl rfl (by kernel_rfl) rfl ?_
     refine OT.storeE (h2:=gk zs i) (h:=gk (List.set zs i (gk zs j2)) j2) tab 0 rCh (k:=j2) (gk_get (by simp;omega)) (j:=0) (by simp only [rCh];omega) (fun _=>rfl) (Nat.le_refl _) rfl rfl rfl rfl rfl rfl rfl ?_
     refine DOt.nil (by kernel_rfl) ?_
     rotate_left 1
     refine uA ?_
     refine TO.step rfl (OT.arith (r':=((i + 1 : Nat) : Int)) rfl rfl rfl rfl rfl rfl rfl (by omega) ?_)
     refine uA ?_
     refine TO.step rfl (OT.arith (r':=((j2 - 1 : Nat) : Int)) rfl rfl rfl rfl rfl rfl (by omega) (by omega) ?_)
     refine uA ?_
     refine TC.loopK (ι:=Nat × Nat × List Ch) [0,1,4] rfl (fun x=>[(12, .int .i64 (x.1 : Int)),(13, .int .i64 (x.2.1 : Int))]) (fun _=>m) (fun x=>chR bd x.2.2 :: L) (fun x=>PaI ltC (sw xs a p) a b x.1 x.2.1 x.2.2) (fun x=>b + 1 + x.2.1 - x.1) (i + 1,j2 - 1,sw zs i j2) uH rfl uS hN ?_
     clear hN hpair hP hP2 hc1 hc2
     rintro ⟨i,j,ws⟩ hP
     simp only at hP ⊢
     have hwl:=hP.seg.len
     have hD : DomC ws:=hDs.perm hP.seg.perm
     refine uA ?_
     refine TC.loopK (ι:=Nat) [0,1,4,13] rfl (fun i=>[(12, .int .i64 (i : Int))]) (fun _=>m) (fun _=>chR bd ws :: L) (fun k=>i ≤ k∧PaI ltC (sw xs a p) a b k j ws) (fun k=>b + 1 - k) i uH rfl uS ⟨Nat.le_refl _,hP⟩ ?_
     clear hP
     obtain ⟨i0,hi0⟩ : ∃ i0,i0=i:=⟨_,rfl⟩
     rw [← hi0]
     clear hi0
     rintro i ⟨hi0,hP⟩
     have hr:=hP.rng
     refine uA ?_
     refine TC.draw [] mixed 16 rfl [chR bd ws] L uP ?_
     refine DO.pure tab uC (by kernel_rfl) [0,1,2,3] (by kernel_rfl) rfl ?_
     (refine DO.splitP (d:=108) rfl (fun hg3 => ?_) (fun hg3 => ?_))
     refine DO.pure tab uC (by kernel_rfl) [4,5,6] (by kernel_rfl) rfl ?_
     refine DO.indexP (sz:=2) tab 7 i uC (by kernel_rfl) (by kernel_rfl) rfl rfl rfl rfl rfl rfl rfl rfl rfl (by omega) ?_
     refine DO.loadE (jj:=0) tab 8 0 rCh (gk_get (xs:=ws) (k:=i) (by omega)) (by simp only [rCh];omega) (fun _=>rfl) uC (by kernel_rfl) (by kernel_rfl) rfl rfl rfl rfl rfl rfl rfl ?_
     refine DO.pure tab uC (by kernel_rfl) [9,10] (by kernel_rfl) rfl ?_
     refine DO.indexP (sz:=2) tab 11 a uC (by kernel_rfl) (by kernel_rfl) rfl rfl rfl rfl rfl rfl rfl rfl rfl (by omega) ?_
     refine DO.loadE (jj:=0) tab 12 0 rCh (gk_get (xs:=ws) (k:=a) (by omega)) (by simp only [rCh];omega) (fun _=>rfl) uC (by kernel_rfl) (by kernel_rfl) rfl rfl rfl rfl rfl rfl rfl ?_
     refine DO.run 13 rfl rfl (by kernel_rfl) rfl (OT.call rfl rfl rfl rfl rfl rfl goes43 ((chcmp_law m _ (gk ws i) (gk ws a) (hD.gk (by omega)) (hD.gk (by omega))).x ?_))
     rintro _ _ _ ⟨rfl,rfl,rfl⟩;refine ⟨Mem.le_refl _,_,List.Perm.refl _, ?_⟩
     refine DO.pure tab uC (by kernel_rfl) [14,15] (by kernel_rfl) rfl ?_
     (refine DO.nil (by kernel_rfl) ?_)
     rotate_left 1
     refine DO.pure tab uC (by kernel_rfl) [4,5,6,7,8,9,10,11,12,13,14,15] (by kernel_rfl) rfl ?_
     (refine DO.nil (by kernel_rfl) ?_)
     rotate_left 1
     ·refine uA ?_
      simp only [ch_dec]
      cases hc1 : ltC (gk ws i) (gk ws a) with
      | true =>
       refine uA ?_
       refine TO.step rfl (OT.arith (r':=((i + 1 : Nat) : Int)) rfl rfl rfl rfl rfl rfl rfl (by omega) ?_)
       refine uA ?_
       exact ⟨i + 1,uH,uH,rfl,rfl,uS,⟨by omega,hP.left (by omega) hc1⟩,by omega⟩
      | false =>
       refine uA ?_
       refine TC.loopK (ι:=Nat) [0,1,4,12] rfl (fun j=>[(13, .int .i64 (j : Int))]) (fun _=>m) (fun _=>chR bd ws :: L) (fun j2=>j2 ≤ j∧PaI ltC (sw xs a p) a b i j2 ws) (fun j=>j) j uH rfl uS ⟨Nat.le_refl _,hP⟩ ?_
       rintro j2 ⟨hj2,hP2⟩
       have hr2:=hP2.rng
       refine uA ?_
       refine TC.draw [] mixed 17 rfl [chR bd ws] L uP ?_
       refine DO.pure tab uC (by kernel_rfl) [0,1,2,3] (by kernel_rfl) rfl ?_
       (refine DO.splitP (d:=126) rfl (fun hg3 => ?_) (fun hg3 => ?_))
       refine DO.pure tab uC (by kernel_rfl) [4,5,6] (by kernel_rfl) rfl ?_
       refine DO.indexP (sz:=2) tab 7 j2 uC (by kernel_rfl) (by kernel_rfl) rfl rfl rfl rfl rfl rfl rfl rfl rfl (by omega) ?_
       refine DO.loadE (jj:=0) tab 8 0 rCh (gk_get (xs:=ws) (k:=j2) (by omega)) (by simp only [rCh];omega) (fun _=>rfl) uC (by kernel_rfl) (by kernel_rfl) rfl rfl rfl rfl rfl rfl rfl ?_
       refine DO.pure tab uC (by kernel_rfl) [9,10] (by kernel_rfl) rfl ?_
       refine DO.indexP (sz:=2) tab 11 a uC (by kernel_rfl) (by kernel_rfl) rfl rfl rfl rfl rfl rfl rfl rfl rfl (by omega) ?_
       refine DO.loadE (jj:=0) tab 12 0 rCh (gk_get (xs:=ws) (k:=a) (by omega)) (by simp only [rCh];omega) (fun _=>rfl) uC (by kernel_rfl) (by kernel_rfl) rfl rfl rfl rfl rfl rfl rfl ?_
       refine DO.run 13 rfl rfl (by kernel_rfl) rfl (OT.call rfl rfl rfl rfl rfl rfl goes43 ((chcmp_law m _ (gk ws j2) (gk ws a) (hD.gk (by omega)) (hD.gk (by omega))).x ?_))
       rintro _ _ _ ⟨rfl,rfl,rfl⟩;refine ⟨Mem.le_refl _,_,List.Perm.refl _, ?_⟩
       refine DO.pure tab uC (by kernel_rfl) [14,15,16] (by kernel_rfl) rfl ?_
       (refine DO.nil (by kernel_rfl) ?_)
       rotate_left 1
       refine DO.pure tab uC (by kernel_rfl) [4,5,6,7,8,9,10,11,12,13,14,15,16] (by kernel_rfl) rfl ?_
       (refine DO.nil (by kernel_rfl) ?_)
       rotate_left 1
       ·refine uA ?_
        simp only [ch_dec]
        cases hc2 : ltC (gk ws j2) (gk ws a) with
        | false =>
         refine uA ?_
         refine TO.step rfl (OT.arith (r':=((j2 - 1 : Nat) : Int)) rfl rfl rfl rfl rfl rfl (by omega) (by omega) ?_)
         refine uA ?_
         exact ⟨j2 - 1,uH,uH,rfl,rfl,uS,⟨by omega,hP2.right (by omega) hc2⟩,by omega⟩
        | true =>
         refine uA ?_
         refine TC.condP rfl (fun hgt => ?_) (fun hgt => ?_)
         ·have hN:=hP2.done (by omega) (by omega)
          refine uA ?_
          refine TC.draw [13,14,15] mixed 16 rfl [chR bd ws] L uP ?_
          refine DO.pure tab uC (by kernel_rfl) [0,1,2,3,4,5] (by kernel_rfl) rfl ?_
          refine DO.indexP (sz:=2) tab 6 a uC (by kernel_rfl) (by kernel_rfl) rfl rfl rfl rfl rfl rfl rfl rfl rfl (by omega) ?_
          refine DO.loadE (jj:=0) tab 7 0 rCh (gk_get (xs:=ws) (k:=a) (by omega)) (by simp only [rCh];omega) (fun _=>rfl) uC (by kernel_rfl) (by kernel_rfl) rfl rfl rfl rfl rfl rfl rfl ?_
          refine DO.pure tab uC (by kernel_rfl) [8,9] (by kernel_rfl) rfl ?_
          refine DO.indexP (sz:=2) tab 10 j2 uC (by kernel_rfl) (by kernel_rfl) rfl rfl rfl rfl rfl rfl rfl rfl rfl (by omega) ?_
          refine DO.loadE (jj:=0) tab 11 0 rCh (gk_get (xs:=ws) (k:=j2) (by omega)) (by simp only [rCh];omega) (fun _=>rfl) uC (by kernel_rfl) (by kernel_rfl) rfl rfl rfl rfl rfl rfl rfl ?_
          refine DO.indexP (sz:=2) tab 12 j2 uC (by kernel_rfl) (by kernel_rfl) rfl rfl rfl rfl rfl rfl rfl rfl rfl (by omega) ?_
          refine DO.tail ?_
          refine DOt.run 13 rfl rfl (by kernel_rfl) rfl ?_
          refine OT.storeE (h2:=gk ws a) tab 0 rCh (gk_get (xs:=ws) (k:=j2) (by omega)) (j:=0) (by simp only [rCh];omega) (fun _=>rfl) (Nat.le_refl _) rfl rfl rfl rfl rfl rfl rfl ?_
          refine DOt.run 14 rfl rfl (by kernel_rfl) rfl ?_
          refine OT.indexP (sz:=2) tab a rfl rfl rfl rfl rfl rfl rfl (by omega) ?_
          refine DOt.run 15 rfl rfl (by kernel_rfl) rfl ?_
          refine OT.storeE (h2:=gk ws j2) (h:=gk (List.set ws j2 (gk ws a)) a) tab 0 rCh (k:=a) (gk_get (by simp;omega)) (j:=0) (by simp only [rCh];omega) (fun _=>rfl) (Nat.le_refl _) rfl rfl rfl rfl rfl rfl rfl ?_
          refine DOt.nil (by kernel_rfl) ?_
          rotate_left 1
          refine uA ?_
          refine retQ_ret rfl (L':=chR bd (sw ws j2 a) :: L) uS ⟨rfl,sw ws j2 a,j2,_,rfl,hN.base hS0,rfl⟩
         ·have hpair : ltC (gk ws i) (gk ws a)=false∧ltC (gk ws j2) (gk ws a)=true:=by
           constructor
           ·first | exact hc1 | (exfalso;omega)
           ·first | exact hc2 | (exfalso;omega)
          obtain ⟨hN,hlt⟩:=hP2.swap (by omega) (by omega) hpair.1 hpair.2
          refine uA ?_
          refine TC.draw [13,14,15] mixed 16 rfl [chR bd ws] L uP ?_
          refine DO.pure tab uC (by kernel_rfl) [0,1,2,3,4,5] (by kernel_rfl) rfl ?_
          refine DO.indexP (sz:=2) tab 6 j2 uC (by kernel_rfl) (by kernel_rfl) rfl rfl rfl rfl rfl rfl rfl rfl rfl (by omega) ?_
          refine DO.loadE (jj:=0) tab 7 0 rCh (gk_get (xs:=ws) (k:=j2) (by omega)) (by simp only [rCh];omega) (fun _=>rfl) uC (by kernel_rfl) (by kernel_rfl) rfl rfl rfl rfl rfl rfl rfl ?_
          refine DO.pure tab uC (by kernel_rfl) [8,9] (by kernel_rfl) rfl ?_
          refine DO.indexP (sz:=2) tab 10 i uC (by kernel_rfl) (by kernel_rfl) rfl rfl rfl rfl rfl rfl rfl rfl rfl (by omega) ?_
          refine DO.loadE (jj:=0) tab 11 0 rCh (gk_get (xs:=ws) (k:=i) (by omega)) (by simp only [rCh];omega) (fun _=>rfl) uC (by kernel_rfl) (by kernel_rfl) rfl rfl rfl rfl rfl rfl rfl ?_
          refine DO.indexP (sz:=2) tab 12 i uC (by kernel_rfl) (by kernel_rfl) rfl rfl rfl rfl rfl rfl rfl rfl rfl (by omega) ?_
          refine DO.tail ?_
          refine DOt.run 13 rfl rfl (by kernel_rfl) rfl ?_
          refine OT.storeE (h2:=gk ws j2) tab 0 rCh (gk_get (xs:=ws) (k:=i) (by omega)) (j:=0) (by simp only [rCh];omega) (fun _=>rfl) (Nat.le_refl _) rfl rfl rfl rfl rfl rfl rfl ?_
          refine DOt.run 14 rfl rfl (by kernel_rfl) rfl ?_
          refine OT.indexP (sz:=2) tab j2 rfl rfl rfl rfl rfl rfl rfl (by omega) ?_
          refine DOt.run 15 rfl rfl (by kernel_rfl) rfl ?_
          refine OT.storeE (h2:=gk ws i) (h:=gk (List.set ws i (gk ws j2)) j2) tab 0 rCh (k:=j2) (gk_get (by simp;omega)) (j:=0) (by simp only [rCh];omega) (fun _=>rfl) (Nat.le_refl _) rfl rfl rfl rfl rfl rfl rfl ?_
          refine DOt.nil (by kernel_rfl) ?_
          rotate_left 1
          refine uA ?_
          refine TO.step rfl (OT.arith (r':=((i + 1 : Nat) : Int)) rfl rfl rfl rfl rfl rfl rfl (by omega) ?_)
          refine uA ?_
          refine TO.step rfl (OT.arith (r':=((j2 - 1 : Nat) : Int)) rfl rfl rfl rfl rfl rfl (by omega) (by omega) ?_)
          refine uA ?_
          exact ⟨(i + 1,j2 - 1,sw ws i j2),uH,uH,rfl,rfl,uS,hN,by simp only;omega⟩
       ·have hc2 : j2 < i:=by omega
        refine uA ?_
        refine TC.condP rfl (fun hgt => ?_) (fun hgt => ?_)
        ·have hN:=hP2.done (by omega) (by omega)
         refine uA ?_
         refine TC.draw [13,14,15] mixed 16 rfl [chR bd ws] L uP ?_
         refine DO.pure tab uC (by kernel_rfl) [0,1,2,3,4,5] (by kernel_rfl) rfl ?_
         refine DO.indexP (sz:=2) tab 6 a uC (by kernel_rfl) (by kernel_rfl) rfl rfl rfl rfl rfl rfl rfl rfl rfl (by omega) ?_
         refine DO.loadE (jj:=0) tab 7 0 rCh (gk_get (xs:=ws) (k:=a) (by omega)) (by simp only [rCh];omega) (fun _=>rfl) uC (by kernel_rfl) (by kernel_rfl) rfl rfl rfl rfl rfl rfl rfl ?_
         refine DO.pure tab uC (by kernel_rfl) [8,9] (by kernel_rfl) rfl ?_
         refine DO.indexP (sz:=2) tab 10 j2 uC (by kernel_rfl) (by kernel_rfl) rfl rfl rfl rfl rfl rfl rfl rfl rfl (by omega) ?_
         refine DO.loadE (jj:=0) tab 11 0 rCh (gk_get (xs:=ws) (k:=j2) (by omega)) (by simp only [rCh];omega) (fun _=>rfl) uC (by kernel_rfl) (by kernel_rfl) rfl rfl rfl rfl rfl rfl rfl ?_
         refine DO.indexP (sz:=2) tab 12 j2 uC (by kernel_rfl) (by kernel_rfl) rfl rfl rfl rfl rfl rfl rfl rfl rfl (by omega) ?_
         refine DO.tail ?_
         refine DOt.run 13 rfl rfl (by kernel_rfl) rfl ?_
         refine OT.storeE (h2:=gk ws a) tab 0 rCh (gk_get (xs:=ws) (k:=j2) (by omega)) (j:=0) (by simp only [rCh];omega) (fun _=>rfl) (Nat.le_refl _) rfl rfl rfl rfl rfl rfl rfl ?_
         refine DOt.run 14 rfl rfl (by kernel_rfl) rfl ?_
         refine OT.indexP (sz:=2) tab a rfl rfl rfl rfl rfl rfl rfl (by omega) ?_
         refine DOt.run 15 rfl rfl (by kernel_rfl) rfl ?_
         refine OT.storeE (h2:=gk ws j2) (h:=gk (List.set ws j2 (gk ws a)) a) tab 0 rCh (k:=a) (gk_get (by simp;omega)) (j:=0) (by simp only [rCh];omega) (fun _=>rfl) (Nat.le_refl _) rfl rfl rfl rfl rfl rfl rfl ?_
         refine DOt.nil (by kernel_rfl) ?_
         rotate_left 1
         refine uA ?_
         refine retQ_ret rfl (L':=chR bd (sw ws j2 a) :: L) uS ⟨rfl,sw ws j2 a,j2,_,rfl,hN.base hS0,rfl⟩
        ·have hpair : ltC (gk ws i) (gk ws a)=false∧ltC (gk ws j2) (gk ws a)=true:=by
          constructor
          ·first | exact hc1 | (exfalso;omega)
          ·first | exact hc2 | (exfalso;omega)
         obtain ⟨hN,hlt⟩:=hP2.swap (by omega) (by omega) hpair.1 hpair.2
         refine uA ?_
         refine TC.draw [13,14,15] mixed 16 rfl [chR bd ws] L uP ?_
         refine DO.pure tab uC (by kernel_rfl) [0,1,2,3,4,5] (by kernel_rfl) rfl ?_
         refine DO.indexP (sz:=2) tab 6 j2 uC (by kernel_rfl) (by kernel_rfl) rfl rfl rfl rfl rfl rfl rfl rfl rfl (by omega) ?_
         refine DO.loadE (jj:=0) tab 7 0 rCh (gk_get (xs:=ws) (k:=j2) (by omega)) (by simp only [rCh];omega) (fun _=>rfl) uC (by kernel_rfl) (by kernel_rfl) rfl rfl rfl rfl rfl rfl rfl ?_
         refine DO.pure tab uC (by kernel_rfl) [8,9] (by kernel_rfl) rfl ?_
         refine DO.indexP (sz:=2) tab 10 i uC (by kernel_rfl) (by kernel_rfl) rfl rfl rfl rfl rfl rfl rfl rfl rfl (by omega) ?_
         refine DO.loadE (jj:=0) tab 11 0 rCh (gk_get (xs:=ws) (k:=i) (by omega)) (by simp only [rCh];omega) (fun _=>rfl) uC (by kernel_rfl) (by kernel_rfl) rfl rfl rfl rfl rfl rfl rfl ?_
         refine DO.indexP (sz:=2) tab 12 i uC (by kernel_rfl) (by kernel_rfl) rfl rfl rfl rfl rfl rfl rfl rfl rfl (by omega) ?_
         refine DO.tail ?_
         refine DOt.run 13 rfl rfl (by kernel_rfl) rfl ?_
         refine OT.storeE (h2:=gk ws j2) tab 0 rCh (gk_get (xs:=ws) (k:=i) (by omega)) (j:=0) (by simp only [rCh];omega) (fun _=>rfl) (Nat.le_refl _) rfl rfl rfl rfl rfl rfl rfl ?_
         refine DOt.run 14 rfl rfl (by kernel_rfl) rfl ?_
         refine OT.indexP (sz:=2) tab j2 rfl rfl rfl rfl rfl rfl rfl (by omega) ?_
         refine DOt.run 15 rfl rfl (by kernel_rfl) rfl ?_
         refine OT.storeE (h2:=gk ws i) (h:=gk (List.set ws i (gk ws j2)) j2) tab 0 rCh (k:=j2) (gk_get (by simp;omega)) (j:=0) (by simp only [rCh];omega) (fun _=>rfl) (Nat.le_refl _) rfl rfl rfl rfl rfl rfl rfl ?_
         refine DOt.nil (by kernel_rfl) ?_
         rotate_left 1
         refine uA ?_
         refine TO.step rfl (OT.arith (r':=((i + 1 : Nat) : Int)) rfl rfl rfl rfl rfl rfl rfl (by omega) ?_)
         refine uA ?_
         refine TO.step rfl (OT.arith (r':=((j2 - 1 : Nat) : Int)) rfl rfl rfl rfl rfl rfl (by omega) (by omega) ?_)
         refine uA ?_
         exact ⟨(i + 1,j2 - 1,sw ws i j2),uH,uH,rfl,rfl,uS,hN,by simp only;omega⟩
     ·have hc1 : j < i:=by omega
      refine uA ?_
      refine TC.loopK (ι:=Nat) [0,1,4,12] rfl (fun j=>[(13, .int .i64 (j : Int))]) (fun _=>m) (fun _=>chR bd ws :: L) (fun j2=>j2 ≤ j∧PaI ltC (sw xs a p) a b i j2 ws) (fun j=>j) j uH rfl uS ⟨Nat.le_refl _,hP⟩ ?_
      rintro j2 ⟨hj2,hP2⟩
      have hr2:=hP2.rng
      refine uA ?_
      refine TC.draw [] mixed 17 rfl [chR bd ws] L uP ?_
      refine DO.pure tab uC (by kernel_rfl) [0,1,2,3] (by kernel_rfl) rfl ?_
      (refine DO.splitP (d:=126) rfl (fun hg3 => ?_) (fun hg3 => ?_))
      refine DO.pure tab uC (by kernel_rfl) [4,5,6] (by kernel_rfl) rfl ?_
      refine DO.indexP (sz:=2) tab 7 j2 uC (by kernel_rfl) (by kernel_rfl) rfl rfl rfl rfl rfl rfl rfl rfl rfl (by omega) ?_
      refine DO.loadE (jj:=0) tab 8 0 rCh (gk_get (xs:=ws) (k:=j2) (by omega)) (by simp only [rCh];omega) (fun _=>rfl) uC (by kernel_rfl) (by kernel_rfl) rfl rfl rfl rfl rfl rfl rfl ?_
      refine DO.pure tab uC (by kernel_rfl) [9,10] (by kernel_rfl) rfl ?_
      refine DO.indexP (sz:=2) tab 11 a uC (by kernel_rfl) (by kernel_rfl) rfl rfl rfl rfl rfl rfl rfl rfl rfl (by omega) ?_
      refine DO.loadE (jj:=0) tab 12 0 rCh (gk_get (xs:=ws) (k:=a) (by omega)) (by simp only [rCh];omega) (fun _=>rfl) uC (by kernel_rfl) (by kernel_rfl) rfl rfl rfl rfl rfl rfl rfl ?_
      refine DO.run 13 rfl rfl (by kernel_rfl) rfl (OT.call rfl rfl rfl rfl rfl rfl goes43 ((chcmp_law m _ (gk ws j2) (gk ws a) (hD.gk (by omega)) (hD.gk (by omega))).x ?_))
      rintro _ _ _ ⟨rfl,rfl,rfl⟩;refine ⟨Mem.le_refl _,_,List.Perm.refl _, ?_⟩
      refine DO.pure tab uC (by kernel_rfl) [14,15,16] (by kernel_rfl) rfl ?_
      (refine DO.nil (by kernel_rfl) ?_)
      rotate_left 1
      refine DO.pure tab uC (by kernel_rfl) [4,5,6,7,8,9,10,11,12,13,14,15,16] (by kernel_rfl) rfl ?_
      (refine DO.nil (by kernel_rfl) ?_)
      rotate_left 1
      ·refine uA ?_
       simp only [ch_dec]
       cases hc2 : ltC (gk ws j2) (gk ws a) with
       | false =>
        refine uA ?_
        refine TO.step rfl (OT.arith (r':=((j2 - 1 : Nat) : Int)) rfl rfl rfl rfl rfl rfl (by omega) (by omega) ?_)
        refine uA ?_
        exact ⟨j2 - 1,uH,uH,rfl,rfl,uS,⟨by omega,hP2.right (by omega) hc2⟩,by omega⟩
       | true =>
        refine uA ?_
        refine TC.condP rfl (fun hgt => ?_) (fun hgt => ?_)
        ·have hN:=hP2.done (by omega) (by omega)
         refine uA ?_
         refine TC.draw [13,14,15] mixed 16 rfl [chR bd ws] L uP ?_
         refine DO.pure tab uC (by kernel_rfl) [0,1,2,3,4,5] (by kernel_rfl) rfl ?_
         refine DO.indexP (sz:=2) tab 6 a uC (by kernel_rfl) (by kernel_rfl) rfl rfl rfl rfl rfl rfl rfl rfl rfl (by omega) ?_
         refine DO.loadE (jj:=0) tab 7 0 rCh (gk_get (xs:=ws) (k:=a) (by omega)) (by simp only [rCh];omega) (fun _=>rfl) uC (by kernel_rfl) (by kernel_rfl) rfl rfl rfl rfl rfl rfl rfl ?_
         refine DO.pure tab uC (by kernel_rfl) [8,9] (by kernel_rfl) rfl ?_
         refine DO.indexP (sz:=2) tab 10 j2 uC (by kernel_rfl) (by kernel_rfl) rfl rfl rfl rfl rfl rfl rfl rfl rfl (by omega) ?_
         refine DO.loadE (jj:=0) tab 11 0 rCh (gk_get (xs:=ws) (k:=j2) (by omega)) (by simp only [rCh];omega) (fun _=>rfl) uC (by kernel_rfl) (by kernel_rfl) rfl rfl rfl rfl rfl rfl rfl ?_
         refine DO.indexP (sz:=2) tab 12 j2 uC (by kernel_rfl) (by kernel_rfl) rfl rfl rfl rfl rfl rfl rfl rfl rfl (by omega) ?_
         refine DO.tail ?_
         refine DOt.run 13 rfl rfl (by kernel_rfl) rfl ?_
         refine OT.storeE (h2:=gk ws a) tab 0 rCh (gk_get (xs:=ws) (k:=j2) (by omega)) (j:=0) (by simp only [rCh];omega) (fun _=>rfl) (Nat.le_refl _) rfl rfl rfl rfl rfl rfl rfl ?_
         refine DOt.run 14 rfl rfl (by kernel_rfl) rfl ?_
         refine OT.indexP (sz:=2) tab a rfl rfl rfl rfl rfl rfl rfl (by omega) ?_
         refine DOt.run 15 rfl rfl (by kernel_rfl) rfl ?_
         refine OT.storeE (h2:=gk ws j2) (h:=gk (List.set ws j2 (gk ws a)) a) tab 0 rCh (k:=a) (gk_get (by simp;omega)) (j:=0) (by simp only [rCh];omega) (fun _=>rfl) (Nat.le_refl _) rfl rfl rfl rfl rfl rfl rfl ?_
         refine DOt.nil (by kernel_rfl) ?_
         rotate_left 1
         refine uA ?_
         refine retQ_ret rfl (L':=chR bd (sw ws j2 a) :: L) uS ⟨rfl,sw ws j2 a,j2,_,rfl,hN.base hS0,rfl⟩
        ·have hpair : ltC (gk ws i) (gk ws a)=false∧ltC (gk ws j2) (gk ws a)=true:=by
          constructor
          ·first | exact hc1 | (exfalso;omega)
          ·first | exact hc2 | (exfalso;omega)
         obtain ⟨hN,hlt⟩:=hP2.swap (by omega) (by omega) hpair.1 hpair.2
         refine uA ?_
         refine TC.draw [13,14,15] mixed 16 rfl [chR bd ws] L uP ?_
         refine DO.pure tab uC (by kernel_rfl) [0,1,2,3,4,5] (by kernel_rfl) rfl ?_
         refine DO.indexP (sz:=2) tab 6 j2 uC (by kernel_rfl) (by kernel_rfl) rfl rfl rfl rfl rfl rfl rfl rfl rfl (by omega) ?_
         refine DO.loadE (jj:=0) tab 7 0 rCh (gk_get (xs:=ws) (k:=j2) (by omega)) (by simp only [rCh];omega) (fun _=>rfl) uC (by kernel_rfl) (by kernel_rfl) rfl rfl rfl rfl rfl rfl rfl ?_
         refine DO.pure tab uC (by kernel_rfl) [8,9] (by kernel_rfl) rfl ?_
         refine DO.indexP (sz:=2) tab 10 i uC (by kernel_rfl) (by kernel_rfl) rfl rfl rfl rfl rfl rfl rfl rfl rfl (by omega) ?_
         refine DO.loadE (jj:=0) tab 11 0 rCh (gk_get (xs:=ws) (k:=i) (by omega)) (by simp only [rCh];omega) (fun _=>rfl) uC (by kernel_rfl) (by kernel_rfl) rfl rfl rfl rfl rfl rfl rfl ?_
         refine DO.indexP (sz:=2) tab 12 i uC (by kernel_rfl) (by kernel_rfl) rfl rfl rfl rfl rfl rfl rfl rfl rfl (by omega) ?_
         refine DO.tail ?_
         refine DOt.run 13 rfl rfl (by kernel_rfl) rfl ?_
         refine OT.storeE (h2:=gk ws j2) tab 0 rCh (gk_get (xs:=ws) (k:=i) (by omega)) (j:=0) (by simp only [rCh];omega) (fun _=>rfl) (Nat.le_refl _) rfl rfl rfl rfl rfl rfl rfl ?_
         refine DOt.run 14 rfl rfl (by kernel_rfl) rfl ?_
         refine OT.indexP (sz:=2) tab j2 rfl rfl rfl rfl rfl rfl rfl (by omega) ?_
         refine DOt.run 15 rfl rfl (by kernel_rfl) rfl ?_
         refine OT.storeE (h2:=gk ws i) (h:=gk (List.set ws i (gk ws j2)) j2) tab 0 rCh (k:=j2) (gk_get (by simp;omega)) (j:=0) (by simp only [rCh];omega) (fun _=>rfl) (Nat.le_refl _) rfl rfl rfl rfl rfl rfl rfl ?_
         refine DOt.nil (by kernel_rfl) ?_
         rotate_left 1
         refine uA ?_
         refine TO.step rfl (OT.arith (r':=((i + 1 : Nat) : Int)) rfl rfl rfl rfl rfl rfl rfl (by omega) ?_)
         refine uA ?_
         refine TO.step rfl (OT.arith (r':=((j2 - 1 : Nat) : Int)) rfl rfl rfl rfl rfl rfl (by omega) (by omega) ?_)
         refine uA ?_
         exact ⟨(i + 1,j2 - 1,sw ws i j2),uH,uH,rfl,rfl,uS,hN,by simp only;omega⟩
      ·have hc2 : j2 < i:=by omega
       refine uA ?_
       refine TC.condP rfl (fun hgt => ?_) (fun hgt => ?_)
       ·have hN:=hP2.done (by omega) (by omega)
        refine uA ?_
        refine TC.draw [13,14,15] mixed 16 rfl [chR bd ws] L uP ?_
        refine DO.pure tab uC (by kernel_rfl) [0,1,2,3,4,5] (by kernel_rfl) rfl ?_
        refine DO.indexP (sz:=2) tab 6 a uC (by kernel_rfl) (by kernel_rfl) rfl rfl rfl rfl rfl rfl rfl rfl rfl (by omega) ?_
        refine DO.loadE (jj:=0) tab 7 0 rCh (gk_get (xs:=ws) (k:=a) (by omega)) (by simp only [rCh];omega) (fun _=>rfl) uC (by kernel_rfl) (by kernel_rfl) rfl rfl rfl rfl rfl rfl rfl ?_
        refine DO.pure tab uC (by kernel_rfl) [8,9] (by kernel_rfl) rfl ?_
        refine DO.indexP (sz:=2) tab 10 j2 uC (by kernel_rfl) (by kernel_rfl) rfl rfl rfl rfl rfl rfl rfl rfl rfl (by omega) ?_
        refine DO.loadE (jj:=0) tab 11 0 rCh (gk_get (xs:=ws) (k:=j2) (by omega)) (by simp only [rCh];omega) (fun _=>rfl) uC (by kernel_rfl) (by kernel_rfl) rfl rfl rfl rfl rfl rfl rfl ?_
        refine DO.indexP (sz:=2) tab 12 j2 uC (by kernel_rfl) (by kernel_rfl) rfl rfl rfl rfl rfl rfl rfl rfl rfl (by omega) ?_
        refine DO.tail ?_
        refine DOt.run 13 rfl rfl (by kernel_rfl) rfl ?_
        refine OT.storeE (h2:=gk ws a) tab 0 rCh (gk_get (xs:=ws) (k:=j2) (by omega)) (j:=0) (by simp only [rCh];omega) (fun _=>rfl) (Nat.le_refl _) rfl rfl rfl rfl rfl rfl rfl ?_
        refine DOt.run 14 rfl rfl (by kernel_rfl) rfl ?_
        refine OT.indexP (sz:=2) tab a rfl rfl rfl rfl rfl rfl rfl (by omega) ?_
        refine DOt.run 15 rfl rfl (by kernel_rfl) rfl ?_
        refine OT.storeE (h2:=gk ws j2) (h:=gk (List.set ws j2 (gk ws a)) a) tab 0 rCh (k:=a) (gk_get (by simp;omega)) (j:=0) (by simp only [rCh];omega) (fun _=>rfl) (Nat.le_refl _) rfl rfl rfl rfl rfl rfl rfl ?_
        refine DOt.nil (by kernel_rfl) ?_
        rotate_left 1
        refine uA ?_
        refine retQ_ret rfl (L':=chR bd (sw ws j2 a) :: L) uS ⟨rfl,sw ws j2 a,j2,_,rfl,hN.base hS0,rfl⟩
       ·have hpair : ltC (gk ws i) (gk ws a)=false∧ltC (gk ws j2) (gk ws a)=true:=by
         constructor
         ·first | exact hc1 | (exfalso;omega)
         ·first | exact hc2 | (exfalso;omega)
        obtain ⟨hN,hlt⟩:=hP2.swap (by omega) (by omega) hpair.1 hpair.2
        refine uA ?_
        refine TC.draw [13,14,15] mixed 16 rfl [chR bd ws] L uP ?_
        refine DO.pure tab uC (by kernel_rfl) [0,1,2,3,4,5] (by kernel_rfl) rfl ?_
        refine DO.indexP (sz:=2) tab 6 j2 uC (by kernel_rfl) (by kernel_rfl) rfl rfl rfl rfl rfl rfl rfl rfl rfl (by omega) ?_
        refine DO.loadE (jj:=0) tab 7 0 rCh (gk_get (xs:=ws) (k:=j2) (by omega)) (by simp only [rCh];omega) (fun _=>rfl) uC (by kernel_rfl) (by kernel_rfl) rfl rfl rfl rfl rfl rfl rfl ?_
        refine DO.pure tab uC (by kernel_rfl) [8,9] (by kernel_rfl) rfl ?_
        refine DO.indexP (sz:=2) tab 10 i uC (by kernel_rfl) (by kernel_rfl) rfl rfl rfl rfl rfl rfl rfl rfl rfl (by omega) ?_
        refine DO.loadE (jj:=0) tab 11 0 rCh (gk_get (xs:=ws) (k:=i) (by omega)) (by simp only [rCh];omega) (fun _=>rfl) uC (by kernel_rfl) (by kernel_rfl) rfl rfl rfl rfl rfl rfl rfl ?_
        refine DO.indexP (sz:=2) tab 12 i uC (by kernel_rfl) (by kernel_rfl) rfl rfl rfl rfl rfl rfl rfl rfl rfl (by omega) ?_
        refine DO.tail ?_
        refine DOt.run 13 rfl rfl (by kernel_rfl) rfl ?_
        refine OT.storeE (h2:=gk ws j2) tab 0 rCh (gk_get (xs:=ws) (k:=i) (by omega)) (j:=0) (by simp only [rCh];omega) (fun _=>rfl) (Nat.le_refl _) rfl rfl rfl rfl rfl rfl rfl ?_
        refine DOt.run 14 rfl rfl (by kernel_rfl) rfl ?_
        refine OT.indexP (sz:=2) tab j2 rfl rfl rfl rfl rfl rfl rfl (by omega) ?_
        refine DOt.run 15 rfl rfl (by kernel_rfl) rfl ?_
        refine OT.storeE (h2:=gk ws i) (h:=gk (List.set ws i (gk ws j2)) j2) tab 0 rCh (k:=j2) (gk_get (by simp;omega)) (j:=0) (by simp only [rCh];omega) (fun _=>rfl) (Nat.le_refl _) rfl rfl rfl rfl rfl rfl rfl ?_
        refine DOt.nil (by kernel_rfl) ?_
        rotate_left 1
        refine uA ?_
        refine TO.step rfl (OT.arith (r':=((i + 1 : Nat) : Int)) rfl rfl rfl rfl rfl rfl rfl (by omega) ?_)
        refine uA ?_
        refine TO.step rfl (OT.arith (r':=((j2 - 1 : Nat) : Int)) rfl rfl rfl rfl rfl rfl (by omega) (by omega) ?_)
        refine uA ?_
        exact ⟨(i + 1,j2 - 1,sw ws i j2),uH,uH,rfl,rfl,uS,hN,by simp only;omega⟩
 ·have hc1 : j < i:=by omega
  refine uA ?_
  refine TC.loopK (ι:=Nat) [0,1,4,12] rfl (fun j=>[(13, .int .i64 (j : Int))]) (fun _=>m) (fun _=>chR bd zs :: L) (fun j2=>j2 ≤ j∧PaI ltC (sw xs a p) a b i j2 zs) (fun j=>j) j uH rfl uS ⟨Nat.le_refl _,hP⟩ ?_
  rintro j2 ⟨hj2,hP2⟩
  have hr2:=hP2.rng
  refine uA ?_
  refine TC.draw [] mixed 17 rfl [chR bd zs] L uP ?_
  refine DO.pure tab uC (by kernel_rfl) [0,1,2,3] (by kernel_rfl) rfl ?_
  (refine DO.splitP (d:=53) rfl (fun hg3 => ?_) (fun hg3 => ?_))
  refine DO.pure tab uC (by kernel_rfl) [4,5,6] (by kernel_rfl) rfl ?_
  refine DO.indexP (sz:=2) tab 7 j2 uC (by kernel_rfl) (by kernel_rfl) rfl rfl rfl rfl rfl rfl rfl rfl rfl (by omega) ?_
  refine DO.loadE (jj:=0) tab 8 0 rCh (gk_get (xs:=zs) (k:=j2) (by omega)) (by simp only [rCh];omega) (fun _=>rfl) uC (by kernel_rfl) (by kernel_rfl) rfl rfl rfl rfl rfl rfl rfl ?_
  refine DO.pure tab uC (by kernel_rfl) [9,10] (by kernel_rfl) rfl ?_
  refine DO.indexP (sz:=2) tab 11 a uC (by kernel_rfl) (by kernel_rfl) rfl rfl rfl rfl rfl rfl rfl rfl rfl (by omega) ?_
  refine DO.loadE (jj:=0) tab 12 0 rCh (gk_get (xs:=zs) (k:=a) (by omega)) (by simp only [rCh];omega) (fun _=>rfl) uC (by kernel_rfl) (by kernel_rfl) rfl rfl rfl rfl rfl rfl rfl ?_
  refine DO.run 13 rfl rfl (by kernel_rfl) rfl (OT.call rfl rfl rfl rfl rfl rfl goes43 ((chcmp_law m _ (gk zs j2) (gk zs a) (hD.gk (by omega)) (hD.gk (by omega))).x ?_))
  rintro _ _ _ ⟨rfl,rfl,rfl⟩;refine ⟨Mem.le_refl _,_,List.Perm.refl _, ?_⟩
  refine DO.pure tab uC (by kernel_rfl) [14,15,16] (by kernel_rfl) rfl ?_
  (refine DO.nil (by kernel_rfl) ?_)
  rotate_left 1
  refine DO.pure tab uC (by kernel_rfl) [4,5,6,7,8,9,10,11,12,13,14,15,16] (by kernel_rfl) rfl ?_
  (refine DO.nil (by kernel_rfl) ?_)
  rotate_left 1
  ·refine uA ?_
   simp only [ch_dec]
   cases hc2 : ltC (gk zs j2) (gk zs a) with
   | false =>
    refine uA ?_
    refine TO.step rfl (OT.arith (r':=((j2 - 1 : Nat) : Int)) rfl rfl rfl rfl rfl rfl (by omega) (by omega) ?_)
    refine uA ?_
    exact ⟨j2 - 1,uH,uH,rfl,rfl,uS,⟨by omega,hP2.right (by omega) hc2⟩,by omega⟩
   | true =>
    refine uA ?_
    refine TC.condP rfl (fun hgt => ?_) (fun hgt => ?_)
    ·have hN:=hP2.done (by omega) (by omega)
     refine uA ?_
     refine TC.draw [13,14,15] mixed 16 rfl [chR bd zs] L uP ?_
     refine DO.pure tab uC (by kernel_rfl) [0,1,2,3,4,5] (by kernel_rfl) rfl ?_
     refine DO.indexP (sz:=2) tab 6 a uC (by kernel_rfl) (by kernel_rfl) rfl rfl rfl rfl rfl rfl rfl rfl rfl (by omega) ?_
     refine DO.loadE (jj:=0) tab 7 0 rCh (gk_get (xs:=zs) (k:=a) (by omega)) (by simp only [rCh];omega) (fun _=>rfl) uC (by kernel_rfl) (by kernel_rfl) rfl rfl rfl rfl rfl rfl rfl ?_
     refine DO.pure tab uC (by kernel_rfl) [8,9] (by kernel_rfl) rfl ?_
     refine DO.indexP (sz:=2) tab 10 j2 uC (by kernel_rfl) (by kernel_rfl) rfl rfl rfl rfl rfl rfl rfl rfl rfl (by omega) ?_
     refine DO.loadE (jj:=0) tab 11 0 rCh (gk_get (xs:=zs) (k:=j2) (by omega)) (by simp only [rCh];omega) (fun _=>rfl) uC (by kernel_rfl) (by kernel_rfl) rfl rfl rfl rfl rfl rfl rfl ?_
     refine DO.indexP (sz:=2) tab 12 j2 uC (by kernel_rfl) (by kernel_rfl) rfl rfl rfl rfl rfl rfl rfl rfl rfl (by omega) ?_
     refine DO.tail ?_
     refine DOt.run 13 rfl rfl (by kernel_rfl) rfl ?_
     refine OT.storeE (h2:=gk zs a) tab 0 rCh (gk_get (xs:=zs) (k:=j2) (by omega)) (j:=0) (by simp only [rCh];omega) (fun _=>rfl) (Nat.le_refl _) rfl rfl rfl rfl rfl rfl rfl ?_
     refine DOt.run 14 rfl rfl (by kernel_rfl) rfl ?_
     refine OT.indexP (sz:=2) tab a rfl rfl rfl rfl rfl rfl rfl (by omega) ?_
     refine DOt.run 15 rfl rfl (by kernel_rfl) rfl ?_
     refine OT.storeE (h2:=gk zs j2) (h:=gk (List.set zs j2 (gk zs a)) a) tab 0 rCh (k:=a) (gk_get (by simp;omega)) (j:=0) (by simp only [rCh];omega) (fun _=>rfl) (Nat.le_refl _) rfl rfl rfl rfl rfl rfl rfl ?_
     refine DOt.nil (by kernel_rfl) ?_
     rotate_left 1
     refine uA ?_
     refine retQ_ret rfl (L':=chR bd (sw zs j2 a) :: L) uS ⟨rfl,sw zs j2 a,j2,_,rfl,hN.base hS0,rfl⟩
    ·have hpair : ltC (gk zs i) (gk zs a)=false∧ltC (gk zs j2) (gk zs a)=true:=by
      constructor
      ·first | exact hc1 | (exfalso;omega)
      ·first | exact hc2 | (exfalso;omega)
     obtain ⟨hN,hlt⟩:=hP2.swap (by omega) (by omega) hpair.1 hpair.2
     refine uA ?_
     refine TC.draw [13,14,15] mixed 16 rfl [chR bd zs] L uP ?_
     refine DO.pure tab uC (by kernel_rfl) [0,1,2,3,4,5] (by kernel_rfl) rfl ?_
     refine DO.indexP (sz:=2) tab 6 j2 uC (by kernel_rfl) (by kernel_rfl) rfl rfl rfl rfl rfl rfl rfl rfl rfl (by omega) ?_
     refine DO.loadE (jj:=0) tab 7 0 rCh (gk_get (xs:=zs) (k:=j2) (by omega)) (by simp only [rCh];omega) (fun _=>rfl) uC (by kernel_rfl) (by kernel_rfl) rfl rfl rfl rfl rfl rfl rfl ?_
     refine DO.pure tab uC (by kernel_rfl) [8,9] (by kernel_rfl) rfl ?_
     refine DO.indexP (sz:=2) tab 10 i uC (by kernel_rfl) (by kernel_rfl) rfl rfl rfl rfl rfl rfl rfl rfl rfl (by omega) ?_
     refine DO.loadE (jj:=0) tab 11 0 rCh (gk_get (xs:=zs) (k:=i) (by omega)) (by simp only [rCh];omega) (fun _=>rfl) uC (by kernel_rfl) (by kernel_rfl) rfl rfl rfl rfl rfl rfl rfl ?_
     refine DO.indexP (sz:=2) tab 12 i uC (by kernel_rfl) (by kernel_rfl) rfl rfl rfl rfl rfl rfl rfl rfl rfl (by omega) ?_
     refine DO.tail ?_
     refine DOt.run 13 rfl rfl (by kernel_rfl) rfl ?_
     refine OT.storeE (h2:=gk zs j2) tab 0 rCh (gk_get (xs:=zs) (k:=i) (by omega)) (j:=0) (by simp only [rCh];omega) (fun _=>rfl) (Nat.le_refl _) rfl rfl rfl rfl rfl rfl rfl ?_
     refine DOt.run 14 rfl rfl (by kernel_rfl) rfl ?_
     refine OT.indexP (sz:=2) tab j2 rfl rfl rfl rfl rfl rfl rfl (by omega) ?_
     refine DOt.run 15 rfl rfl (by kernel_rfl) rfl ?_
     refine OT.storeE (h2:=gk zs i) (h:=gk (List.set zs i (gk zs j2)) j2) tab 0 rCh (k:=j2) (gk_get (by simp;omega)) (j:=0) (by simp only [rCh];omega) (fun _=>rfl) (Nat.le_refl _) rfl rfl rfl rfl rfl rfl rfl ?_
     refine DOt.nil (by kernel_rfl) ?_
     rotate_left 1
     refine uA ?_
     refine TO.step rfl (OT.arith (r':=((i + 1 : Nat) : Int)) rfl rfl rfl rfl rfl rfl rfl (by omega) ?_)
     refine uA ?_
     refine TO.step rfl (OT.arith (r':=((j2 - 1 : Nat) : Int)) rfl rfl rfl rfl rfl rfl (by omega) (by omega) ?_)
     refine uA ?_
     refine TC.loopK (ι:=Nat × Nat × List Ch) [0,1,4] rfl (fun x=>[(12, .int .i64 (x.1 : Int)),(13, .int .i64 (x.2.1 : Int))]) (fun _=>m) (fun x=>chR bd x.2.2 :: L) (fun x=>PaI ltC (sw xs a p) a b x.1 x.2.1 x.2.2) (fun x=>b + 1 + x.2.1 - x.1) (i + 1,j2 - 1,sw zs i j2) uH rfl uS hN ?_
     clear hN hpair hP hP2 hc1 hc2
     rintro ⟨i,j,ws⟩ hP
     simp only at hP ⊢
     have hwl:=hP.seg.len
     have hD : DomC ws:=hDs.perm hP.seg.perm
     refine uA ?_
     refine TC.loopK (ι:=Nat) [0,1,4,13] rfl (fun i=>[(12, .int .i64 (i : Int))]) (fun _=>m) (fun _=>chR bd ws :: L) (fun k=>i ≤ k∧PaI ltC (sw xs a p) a b k j ws) (fun k=>b + 1 - k) i uH rfl uS ⟨Nat.le_refl _,hP⟩ ?_
     clear hP
     obtain ⟨i0,hi0⟩ : ∃ i0,i0=i:=⟨_,rfl⟩
     rw [← hi0]
     clear hi0
     rintro i ⟨hi0,hP⟩
     have hr:=hP.rng
     refine uA ?_
     refine TC.draw [] mixed 16 rfl [chR bd ws] L uP ?_
     refine DO.pure tab uC (by kernel_rfl) [0,1,2,3] (by kernel_rfl) rfl ?_
     (refine DO.splitP (d:=108) rfl (fun hg3 => ?_) (fun hg3 => ?_))
     refine DO.pure tab uC (by kernel_rfl) [4,5,6] (by kernel_rfl) rfl ?_
     refine DO.indexP (sz:=2) tab 7 i uC (by kernel_rfl) (by kernel_rfl) rfl rfl rfl rfl rfl rfl rfl rfl rfl (by omega) ?_
     refine DO.loadE (jj:=0) tab 8 0 rCh (gk_get (xs:=ws) (k:=i) (by omega)) (by simp only [rCh];omega) (fun _=>rfl) uC (by kernel_rfl) (by kernel_rfl) rfl rfl rfl rfl rfl rfl rfl ?_
     refine DO.pure tab uC (by kernel_rfl) [9,10] (by kernel_rfl) rfl ?_
     refine DO.indexP (sz:=2) tab 11 a uC (by kernel_rfl) (by kernel_rfl) rfl rfl rfl rfl rfl rfl rfl rfl rfl (by omega) ?_
     refine DO.loadE (jj:=0) tab 12 0 rCh (gk_get (xs:=ws) (k:=a) (by omega)) (by simp only [rCh];omega) (fun _=>rfl) uC (by kernel_rfl) (by kernel_rfl) rfl rfl rfl rfl rfl rfl rfl ?_
     refine DO.run 13 rfl rfl (by kernel_rfl) rfl (OT.call rfl rfl rfl rfl rfl rfl goes43 ((chcmp_law m _ (gk ws i) (gk ws a) (hD.gk (by omega)) (hD.gk (by omega))).x ?_))
     rintro _ _ _ ⟨rfl,rfl,rfl⟩;refine ⟨Mem.le_refl _,_,List.Perm.refl _, ?_⟩
     refine DO.pure tab uC (by kernel_rfl) [14,15] (by kernel_rfl) rfl ?_
     (refine DO.nil (by kernel_rfl) ?_)
     rotate_left 1
     refine DO.pure tab uC (by kernel_rfl) [4,5,6,7,8,9,10,11,12,13,14,15] (by kernel_rfl) rfl ?_
     (refine DO.nil (by kernel_rfl) ?_)
     rotate_left 1
     ·refine uA ?_
      simp only [ch_dec]
      cases hc1 : ltC (gk ws i) (gk ws a) with
      | true =>
       refine uA ?_
       refine TO.step rfl (OT.arith (r':=((i + 1 : Nat) : Int)) rfl rfl rfl rfl rfl rfl rfl (by omega) ?_)
       refine uA ?_
       exact ⟨i + 1,uH,uH,rfl,rfl,uS,⟨by omega,hP.left (by omega) hc1⟩,by omega⟩
      | false =>
       refine uA ?_
       refine TC.loopK (ι:=Nat) [0,1,4,12] rfl (fun j=>[(13, .int .i64 (j : Int))]) (fun _=>m) (fun _=>chR bd ws :: L) (fun j2=>j2 ≤ j∧PaI ltC (sw xs a p) a b i j2 ws) (fun j=>j) j uH rfl uS ⟨Nat.le_refl _,hP⟩ ?_
       rintro j2 ⟨hj2,hP2⟩
       have hr2:=hP2.rng
       refine uA ?_
       refine TC.draw [] mixed 17 rfl [chR bd ws] L uP ?_
       refine DO.pure tab uC (by kernel_rfl) [0,1,2,3] (by kernel_rfl) rfl ?_
       (refine DO.splitP (d:=126) rfl (fun hg3 => ?_) (fun hg3 => ?_))
       refine DO.pure tab uC (by kernel_rfl) [4,5,6] (by kernel_rfl) rfl ?_
       refine DO.indexP (sz:=2) tab 7 j2 uC (by kernel_rfl) (by kernel_rfl) rfl rfl rfl rfl rfl rfl rfl rfl rfl (by omega) ?_
       refine DO.loadE (jj:=0) tab 8 0 rCh (gk_get (xs:=ws) (k:=j2) (by omega)) (by simp only [rCh];omega) (fun _=>rfl) uC (by kernel_rfl) (by kernel_rfl) rfl rfl rfl rfl rfl rfl rfl ?_
       refine DO.pure tab uC (by kernel_rfl) [9,10] (by kernel_rfl) rfl ?_
       refine DO.indexP (sz:=2) tab 11 a uC (by kernel_rfl) (by kernel_rfl) rfl rfl rfl rfl rfl rfl rfl rfl rfl (by omega) ?_
       refine DO.loadE (jj:=0) tab 12 0 rCh (gk_get (xs:=ws) (k:=a) (by omega)) (by simp only [rCh];omega) (fun _=>rfl) uC (by kernel_rfl) (by kernel_rfl) rfl rfl rfl rfl rfl rfl rfl ?_
       refine DO.run 13 rfl rfl (by kernel_rfl) rfl (OT.call rfl rfl rfl rfl rfl rfl goes43 ((chcmp_law m _ (gk ws j2) (gk ws a) (hD.gk (by omega)) (hD.gk (by omega))).x ?_))
       rintro _ _ _ ⟨rfl,rfl,rfl⟩;refine ⟨Mem.le_refl _,_,List.Perm.refl _, ?_⟩
       refine DO.pure tab uC (by kernel_rfl) [14,15,16] (by kernel_rfl) rfl ?_
       (refine DO.nil (by kernel_rfl) ?_)
       rotate_left 1
       refine DO.pure tab uC (by kernel_rfl) [4,5,6,7,8,9,10,11,12,13,14,15,16] (by kernel_rfl) rfl ?_
       (refine DO.nil (by kernel_rfl) ?_)
       rotate_left 1
       ·refine uA ?_
        simp only [ch_dec]
        cases hc2 : ltC (gk ws j2) (gk ws a) with
        | false =>
         refine uA ?_
         refine TO.step rfl (OT.arith (r':=((j2 - 1 : Nat) : Int)) rfl rfl rfl rfl rfl rfl (by omega) (by omega) ?_)
         refine uA ?_
         exact ⟨j2 - 1,uH,uH,rfl,rfl,uS,⟨by omega,hP2.right (by omega) hc2⟩,by omega⟩
        | true =>
         refine uA ?_
         refine TC.condP rfl (fun hgt => ?_) (fun hgt => ?_)
         ·have hN:=hP2.done (by omega) (by omega)
          refine uA ?_
          refine TC.draw [13,14,15] mixed 16 rfl [chR bd ws] L uP ?_
          refine DO.pure tab uC (by kernel_rfl) [0,1,2,3,4,5] (by kernel_rfl) rfl ?_
          refine DO.indexP (sz:=2) tab 6 a uC (by kernel_rfl) (by kernel_rfl) rfl rfl rfl rfl rfl rfl rfl rfl rfl (by omega) ?_
          refine DO.loadE (jj:=0) tab 7 0 rCh (gk_get (xs:=ws) (k:=a) (by omega)) (by simp only [rCh];omega) (fun _=>rfl) uC (by kernel_rfl) (by kernel_rfl) rfl rfl rfl rfl rfl rfl rfl ?_
          refine DO.pure tab uC (by kernel_rfl) [8,9] (by kernel_rfl) rfl ?_
          refine DO.indexP (sz:=2) tab 10 j2 uC (by kernel_rfl) (by kernel_rfl) rfl rfl rfl rfl rfl rfl rfl rfl rfl (by omega) ?_
          refine DO.loadE (jj:=0) tab 11 0 rCh (gk_get (xs:=ws) (k:=j2) (by omega)) (by simp only [rCh];omega) (fun _=>rfl) uC (by kernel_rfl) (by kernel_rfl) rfl rfl rfl rfl rfl rfl rfl ?_
          refine DO.indexP (sz:=2) tab 12 j2 uC (by kernel_rfl) (by kernel_rfl) rfl rfl rfl rfl rfl rfl rfl rfl rfl (by omega) ?_
          refine DO.tail ?_
          refine DOt.run 13 rfl rfl (by kernel_rfl) rfl ?_
          refine OT.storeE (h2:=gk ws a) tab 0 rCh (gk_get (xs:=ws) (k:=j2) (by omega)) (j:=0) (by simp only [rCh];omega) (fun _=>rfl) (Nat.le_refl _) rfl rfl rfl rfl rfl rfl rfl ?_
          refine DOt.run 14 rfl rfl (by kernel_rfl) rfl ?_
          refine OT.indexP (sz:=2) tab a rfl rfl rfl rfl rfl rfl rfl (by omega) ?_
          refine DOt.run 15 rfl rfl (by kernel_rfl) rfl ?_
          refine OT.storeE (h2:=gk ws j2) (h:=gk (List.set ws j2 (gk ws a)) a) tab 0 rCh (k:=a) (gk_get (by simp;omega)) (j:=0) (by simp only [rCh];omega) (fun _=>rfl) (Nat.le_refl _) rfl rfl rfl rfl rfl rfl rfl ?_
          refine DOt.nil (by kernel_rfl) ?_
          rotate_left 1
          refine uA ?_
          refine retQ_ret rfl (L':=chR bd (sw ws j2 a) :: L) uS ⟨rfl,sw ws j2 a,j2,_,rfl,hN.base hS0,rfl⟩
         ·have hpair : ltC (gk ws i) (gk ws a)=false∧ltC (gk ws j2) (gk ws a)=true:=by
           constructor
           ·first | exact hc1 | (exfalso;omega)
           ·first | exact hc2 | (exfalso;omega)
          obtain ⟨hN,hlt⟩:=hP2.swap (by omega) (by omega) hpair.1 hpair.2
          refine uA ?_
          refine TC.draw [13,14,15] mixed 16 rfl [chR bd ws] L uP ?_
          refine DO.pure tab uC (by kernel_rfl) [0,1,2,3,4,5] (by kernel_rfl) rfl ?_
          refine DO.indexP (sz:=2) tab 6 j2 uC (by kernel_rfl) (by kernel_rfl) rfl rfl rfl rfl rfl rfl rfl rfl rfl (by omega) ?_
          refine DO.loadE (jj:=0) tab 7 0 rCh (gk_get (xs:=ws) (k:=j2) (by omega)) (by simp only [rCh];omega) (fun _=>rfl) uC (by kernel_rfl) (by kernel_rfl) rfl rfl rfl rfl rfl rfl rfl ?_
          refine DO.pure tab uC (by kernel_rfl) [8,9] (by kernel_rfl) rfl ?_
          refine DO.indexP (sz:=2) tab 10 i uC (by kernel_rfl) (by kernel_rfl) rfl rfl rfl rfl rfl rfl rfl rfl rfl (by omega) ?_
          refine DO.loadE (jj:=0) tab 11 0 rCh (gk_get (xs:=ws) (k:=i) (by omega)) (by simp only [rCh];omega) (fun _=>rfl) uC (by kernel_rfl) (by kernel_rfl) rfl rfl rfl rfl rfl rfl rfl ?_
          refine DO.indexP (sz:=2) tab 12 i uC (by kernel_rfl) (by kernel_rfl) rfl rfl rfl rfl rfl rfl rfl rfl rfl (by omega) ?_
          refine DO.tail ?_
          refine DOt.run 13 rfl rfl (by kernel_rfl) rfl ?_
          refine OT.storeE (h2:=gk ws j2) tab 0 rCh (gk_get (xs:=ws) (k:=i) (by omega)) (j:=0) (by simp only [rCh];omega) (fun _=>rfl) (Nat.le_refl _) rfl rfl rfl rfl rfl rfl rfl ?_
          refine DOt.run 14 rfl rfl (by kernel_rfl) rfl ?_
          refine OT.indexP (sz:=2) tab j2 rfl rfl rfl rfl rfl rfl rfl (by omega) ?_
          refine DOt.run 15 rfl rfl (by kernel_rfl) rfl ?_
          refine OT.storeE (h2:=gk ws i) (h:=gk (List.set ws i (gk ws j2)) j2) tab 0 rCh (k:=j2) (gk_get (by simp;omega)) (j:=0) (by simp only [rCh];omega) (fun _=>rfl) (Nat.le_refl _) rfl rfl rfl rfl rfl rfl rfl ?_
          refine DOt.nil (by kernel_rfl) ?_
          rotate_left 1
          refine uA ?_
          refine TO.step rfl (OT.arith (r':=((i + 1 : Nat) : Int)) rfl rfl rfl rfl rfl rfl rfl (by omega) ?_)
          refine uA ?_
          refine TO.step rfl (OT.arith (r':=((j2 - 1 : Nat) : Int)) rfl rfl rfl rfl rfl rfl (by omega) (by omega) ?_)
          refine uA ?_
          exact ⟨(i + 1,j2 - 1,sw ws i j2),uH,uH,rfl,rfl,uS,hN,by simp only;omega⟩
       ·have hc2 : j2 < i:=by omega
        refine uA ?_
        refine TC.condP rfl (fun hgt => ?_) (fun hgt => ?_)
        ·have hN:=hP2.done (by omega) (by omega)
         refine uA ?_
         refine TC.draw [13,14,15] mixed 16 rfl [chR bd ws] L uP ?_
         refine DO.pure tab uC (by kernel_rfl) [0,1,2,3,4,5] (by kernel_rfl) rfl ?_
         refine DO.indexP (sz:=2) tab 6 a uC (by kernel_rfl) (by kernel_rfl) rfl rfl rfl rfl rfl rfl rfl rfl rfl (by omega) ?_
         refine DO.loadE (jj:=0) tab 7 0 rCh (gk_get (xs:=ws) (k:=a) (by omega)) (by simp only [rCh];omega) (fun _=>rfl) uC (by kernel_rfl) (by kernel_rfl) rfl rfl rfl rfl rfl rfl rfl ?_
         refine DO.pure tab uC (by kernel_rfl) [8,9] (by kernel_rfl) rfl ?_
         refine DO.indexP (sz:=2) tab 10 j2 uC (by kernel_rfl) (by kernel_rfl) rfl rfl rfl rfl rfl rfl rfl rfl rfl (by omega) ?_
         refine DO.loadE (jj:=0) tab 11 0 rCh (gk_get (xs:=ws) (k:=j2) (by omega)) (by simp only [rCh];omega) (fun _=>rfl) uC (by kernel_rfl) (by kernel_rfl) rfl rfl rfl rfl rfl rfl rfl ?_
         refine DO.indexP (sz:=2) tab 12 j2 uC (by kernel_rfl) (by kernel_rfl) rfl rfl rfl rfl rfl rfl rfl rfl rfl (by omega) ?_
         refine DO.tail ?_
         refine DOt.run 13 rfl rfl (by kernel_rfl) rfl ?_
         refine OT.storeE (h2:=gk ws a) tab 0 rCh (gk_get (xs:=ws) (k:=j2) (by omega)) (j:=0) (by simp only [rCh];omega) (fun _=>rfl) (Nat.le_refl _) rfl rfl rfl rfl rfl rfl rfl ?_
         refine DOt.run 14 rfl rfl (by kernel_rfl) rfl ?_
         refine OT.indexP (sz:=2) tab a rfl rfl rfl rfl rfl rfl rfl (by omega) ?_
         refine DOt.run 15 rfl rfl (by kernel_rfl) rfl ?_
         refine OT.storeE (h2:=gk ws j2) (h:=gk (List.set ws j2 (gk ws a)) a) tab 0 rCh (k:=a) (gk_get (by simp;omega)) (j:=0) (by simp only [rCh];omega) (fun _=>rfl) (Nat.le_refl _) rfl rfl rfl rfl rfl rfl rfl ?_
         refine DOt.nil (by kernel_rfl) ?_
         rotate_left 1
         refine uA ?_
         refine retQ_ret rfl (L':=chR bd (sw ws j2 a) :: L) uS ⟨rfl,sw ws j2 a,j2,_,rfl,hN.base hS0,rfl⟩
        ·have hpair : ltC (gk ws i) (gk ws a)=false∧ltC (gk ws j2) (gk ws a)=true:=by
          constructor
          ·first | exact hc1 | (exfalso;omega)
          ·first | exact hc2 | (exfalso;omega)
         obtain ⟨hN,hlt⟩:=hP2.swap (by omega) (by omega) hpair.1 hpair.2
         refine uA ?_
         refine TC.draw [13,14,15] mixed 16 rfl [chR bd ws] L uP ?_
         refine DO.pure tab uC (by kernel_rfl) [0,1,2,3,4,5] (by kernel_rfl) rfl ?_
         refine DO.indexP (sz:=2) tab 6 j2 uC (by kernel_rfl) (by kernel_rfl) rfl rfl rfl rfl rfl rfl rfl rfl rfl (by omega) ?_
         refine DO.loadE (jj:=0) tab 7 0 rCh (gk_get (xs:=ws) (k:=j2) (by omega)) (by simp only [rCh];omega) (fun _=>rfl) uC (by kernel_rfl) (by kernel_rfl) rfl rfl rfl rfl rfl rfl rfl ?_
         refine DO.pure tab uC (by kernel_rfl) [8,9] (by kernel_rfl) rfl ?_
         refine DO.indexP (sz:=2) tab 10 i uC (by kernel_rfl) (by kernel_rfl) rfl rfl rfl rfl rfl rfl rfl rfl rfl (by omega) ?_
         refine DO.loadE (jj:=0) tab 11 0 rCh (gk_get (xs:=ws) (k:=i) (by omega)) (by simp only [rCh];omega) (fun _=>rfl) uC (by kernel_rfl) (by kernel_rfl) rfl rfl rfl rfl rfl rfl rfl ?_
         refine DO.indexP (sz:=2) tab 12 i uC (by kernel_rfl) (by kernel_rfl) rfl rfl rfl rfl rfl rfl rfl rfl rfl (by omega) ?_
         refine DO.tail ?_
         refine DOt.run 13 rfl rfl (by kernel_rfl) rfl ?_
         refine OT.storeE (h2:=gk ws j2) tab 0 rCh (gk_get (xs:=ws) (k:=i) (by omega)) (j:=0) (by simp only [rCh];omega) (fun _=>rfl) (Nat.le_refl _) rfl rfl rfl rfl rfl rfl rfl ?_
         refine DOt.run 14 rfl rfl (by kernel_rfl) rfl ?_
         refine OT.indexP (sz:=2) tab j2 rfl rfl rfl rfl rfl rfl rfl (by omega) ?_
         refine DOt.run 15 rfl rfl (by kernel_rfl) rfl ?_
         refine OT.storeE (h2:=gk ws i) (h:=gk (List.set ws i (gk ws j2)) j2) tab 0 rCh (k:=j2) (gk_get (by simp;omega)) (j:=0) (by simp only [rCh];omega) (fun _=>rfl) (Nat.le_refl _) rfl rfl rfl rfl rfl rfl rfl ?_
         refine DOt.nil (by kernel_rfl) ?_
         rotate_left 1
         refine uA ?_
         refine TO.step rfl (OT.arith (r':=((i + 1 : Nat) : Int)) rfl rfl rfl rfl rfl rfl rfl (by omega) ?_)
         refine uA ?_
         refine TO.step rfl (OT.arith (r':=((j2 - 1 : Nat) : Int)) rfl rfl rfl rfl rfl rfl (by omega) (by omega) ?_)
         refine uA ?_
         exact ⟨(i + 1,j2 - 1,sw ws i j2),uH,uH,rfl,rfl,uS,hN,by simp only;omega⟩
     ·have hc1 : j < i:=by omega
      refine uA ?_
      refine TC.loopK (ι:=Nat) [0,1,4,12] rfl (fun j=>[(13, .int .i64 (j : Int))]) (fun _=>m) (fun _=>chR bd ws :: L) (fun j2=>j2 ≤ j∧PaI ltC (sw xs a p) a b i j2 ws) (fun j=>j) j uH rfl uS ⟨Nat.le_refl _,hP⟩ ?_
      rintro j2 ⟨hj2,hP2⟩
      have hr2:=hP2.rng
      refine uA ?_
      refine TC.draw [] mixed 17 rfl [chR bd ws] L uP ?_
      refine DO.pure tab uC (by kernel_rfl) [0,1,2,3] (by kernel_rfl) rfl ?_
      (refine DO.splitP (d:=126) rfl (fun hg3 => ?_) (fun hg3 => ?_))
      refine DO.pure tab uC (by kernel_rfl) [4,5,6] (by kernel_rfl) rfl ?_
      refine DO.indexP (sz:=2) tab 7 j2 uC (by kernel_rfl) (by kernel_rfl) rfl rfl rfl rfl rfl rfl rfl rfl rfl (by omega) ?_
      refine DO.loadE (jj:=0) tab 8 0 rCh (gk_get (xs:=ws) (k:=j2) (by omega)) (by simp only [rCh];omega) (fun _=>rfl) uC (by kernel_rfl) (by kernel_rfl) rfl rfl rfl rfl rfl rfl rfl ?_
      refine DO.pure tab uC (by kernel_rfl) [9,10] (by kernel_rfl) rfl ?_
      refine DO.indexP (sz:=2) tab 11 a uC (by kernel_rfl) (by kernel_rfl) rfl rfl rfl rfl rfl rfl rfl rfl rfl (by omega) ?_
      refine DO.loadE (jj:=0) tab 12 0 rCh (gk_get (xs:=ws) (k:=a) (by omega)) (by simp only [rCh];omega) (fun _=>rfl) uC (by kernel_rfl) (by kernel_rfl) rfl rfl rfl rfl rfl rfl rfl ?_
      refine DO.run 13 rfl rfl (by kernel_rfl) rfl (OT.call rfl rfl rfl rfl rfl rfl goes43 ((chcmp_law m _ (gk ws j2) (gk ws a) (hD.gk (by omega)) (hD.gk (by omega))).x ?_))
      rintro _ _ _ ⟨rfl,rfl,rfl⟩;refine ⟨Mem.le_refl _,_,List.Perm.refl _, ?_⟩
      refine DO.pure tab uC (by kernel_rfl) [14,15,16] (by kernel_rfl) rfl ?_
      (refine DO.nil (by kernel_rfl) ?_)
      rotate_left 1
      refine DO.pure tab uC (by kernel_rfl) [4,5,6,7,8,9,10,11,12,13,14,15,16] (by kernel_rfl) rfl ?_
      (refine DO.nil (by kernel_rfl) ?_)
      rotate_left 1
      ·refine uA ?_
       simp only [ch_dec]
       cases hc2 : ltC (gk ws j2) (gk ws a) with
       | false =>
        refine uA ?_
        refine TO.step rfl (OT.arith (r':=((j2 - 1 : Nat) : Int)) rfl rfl rfl rfl rfl rfl (by omega) (by omega) ?_)
        refine uA ?_
        exact ⟨j2 - 1,uH,uH,rfl,rfl,uS,⟨by omega,hP2.right (by omega) hc2⟩,by omega⟩
       | true =>
        refine uA ?_
        refine TC.condP rfl (fun hgt => ?_) (fun hgt => ?_)
        ·have hN:=hP2.done (by omega) (by omega)
         refine uA ?_
         refine TC.draw [13,14,15] mixed 16 rfl [chR bd ws] L uP ?_
         refine DO.pure tab uC (by kernel_rfl) [0,1,2,3,4,5] (by kernel_rfl) rfl ?_
         refine DO.indexP (sz:=2) tab 6 a uC (by kernel_rfl) (by kernel_rfl) rfl rfl rfl rfl rfl rfl rfl rfl rfl (by omega) ?_
         refine DO.loadE (jj:=0) tab 7 0 rCh (gk_get (xs:=ws) (k:=a) (by omega)) (by simp only [rCh];omega) (fun _=>rfl) uC (by kernel_rfl) (by kernel_rfl) rfl rfl rfl rfl rfl rfl rfl ?_
         refine DO.pure tab uC (by kernel_rfl) [8,9] (by kernel_rfl) rfl ?_
         refine DO.indexP (sz:=2) tab 10 j2 uC (by kernel_rfl) (by kernel_rfl) rfl rfl rfl rfl rfl rfl rfl rfl rfl (by omega) ?_
         refine DO.loadE (jj:=0) tab 11 0 rCh (gk_get (xs:=ws) (k:=j2) (by omega)) (by simp only [rCh];omega) (fun _=>rfl) uC (by kernel_rfl) (by kernel_rfl) rfl rfl rfl rfl rfl rfl rfl ?_
         refine DO.indexP (sz:=2) tab 12 j2 uC (by kernel_rfl) (by kernel_rfl) rfl rfl rfl rfl rfl rfl rfl rfl rfl (by omega) ?_
         refine DO.tail ?_
         refine DOt.run 13 rfl rfl (by kernel_rfl) rfl ?_
         refine OT.storeE (h2:=gk ws a) tab 0 rCh (gk_get (xs:=ws) (k:=j2) (by omega)) (j:=0) (by simp only [rCh];omega) (fun _=>rfl) (Nat.le_refl _) rfl rfl rfl rfl rfl rfl rfl ?_
         refine DOt.run 14 rfl rfl (by kernel_rfl) rfl ?_
         refine OT.indexP (sz:=2) tab a rfl rfl rfl rfl rfl rfl rfl (by omega) ?_
         refine DOt.run 15 rfl rfl (by kernel_rfl) rfl ?_
         refine OT.storeE (h2:=gk ws j2) (h:=gk (List.set ws j2 (gk ws a)) a) tab 0 rCh (k:=a) (gk_get (by simp;omega)) (j:=0) (by simp only [rCh];omega) (fun _=>rfl) (Nat.le_refl _) rfl rfl rfl rfl rfl rfl rfl ?_
         refine DOt.nil (by kernel_rfl) ?_
         rotate_left 1
         refine uA ?_
         refine retQ_ret rfl (L':=chR bd (sw ws j2 a) :: L) uS ⟨rfl,sw ws j2 a,j2,_,rfl,hN.base hS0,rfl⟩
        ·have hpair : ltC (gk ws i) (gk ws a)=false∧ltC (gk ws j2) (gk ws a)=true:=by
          constructor
          ·first | exact hc1 | (exfalso;omega)
          ·first | exact hc2 | (exfalso;omega)
         obtain ⟨hN,hlt⟩:=hP2.swap (by omega) (by omega) hpair.1 hpair.2
         refine uA ?_
         refine TC.draw [13,14,15] mixed 16 rfl [chR bd ws] L uP ?_
         refine DO.pure tab uC (by kernel_rfl) [0,1,2,3,4,5] (by kernel_rfl) rfl ?_
         refine DO.indexP (sz:=2) tab 6 j2 uC (by kernel_rfl) (by kernel_rfl) rfl rfl rfl rfl rfl rfl rfl rfl rfl (by omega) ?_
         refine DO.loadE (jj:=0) tab 7 0 rCh (gk_get (xs:=ws) (k:=j2) (by omega)) (by simp only [rCh];omega) (fun _=>rfl) uC (by kernel_rfl) (by kernel_rfl) rfl rfl rfl rfl rfl rfl rfl ?_
         refine DO.pure tab uC (by kernel_rfl) [8,9] (by kernel_rfl) rfl ?_
         refine DO.indexP (sz:=2) tab 10 i uC (by kernel_rfl) (by kernel_rfl) rfl rfl rfl rfl rfl rfl rfl rfl rfl (by omega) ?_
         refine DO.loadE (jj:=0) tab 11 0 rCh (gk_get (xs:=ws) (k:=i) (by omega)) (by simp only [rCh];omega) (fun _=>rfl) uC (by kernel_rfl) (by kernel_rfl) rfl rfl rfl rfl rfl rfl rfl ?_
         refine DO.indexP (sz:=2) tab 12 i uC (by kernel_rfl) (by kernel_rfl) rfl rfl rfl rfl rfl rfl rfl rfl rfl (by omega) ?_
         refine DO.tail ?_
         refine DOt.run 13 rfl rfl (by kernel_rfl) rfl ?_
         refine OT.storeE (h2:=gk ws j2) tab 0 rCh (gk_get (xs:=ws) (k:=i) (by omega)) (j:=0) (by simp only [rCh];omega) (fun _=>rfl) (Nat.le_refl _) rfl rfl rfl rfl rfl rfl rfl ?_
         refine DOt.run 14 rfl rfl (by kernel_rfl) rfl ?_
         refine OT.indexP (sz:=2) tab j2 rfl rfl rfl rfl rfl rfl rfl (by omega) ?_
         refine DOt.run 15 rfl rfl (by kernel_rfl) rfl ?_
         refine OT.storeE (h2:=gk ws i) (h:=gk (List.set ws i (gk ws j2)) j2) tab 0 rCh (k:=j2) (gk_get (by simp;omega)) (j:=0) (by simp only [rCh];omega) (fun _=>rfl) (Nat.le_refl _) rfl rfl rfl rfl rfl rfl rfl ?_
         refine DOt.nil (by kernel_rfl) ?_
         rotate_left 1
         refine uA ?_
         refine TO.step rfl (OT.arith (r':=((i + 1 : Nat) : Int)) rfl rfl rfl rfl rfl rfl rfl (by omega) ?_)
         refine uA ?_
         refine TO.step rfl (OT.arith (r':=((j2 - 1 : Nat) : Int)) rfl rfl rfl rfl rfl rfl (by omega) (by omega) ?_)
         refine uA ?_
         exact ⟨(i + 1,j2 - 1,sw ws i j2),uH,uH,rfl,rfl,uS,hN,by simp only;omega⟩
      ·have hc2 : j2 < i:=by omega
       refine uA ?_
       refine TC.condP rfl (fun hgt => ?_) (fun hgt => ?_)
       ·have hN:=hP2.done (by omega) (by omega)
        refine uA ?_
        refine TC.draw [13,14,15] mixed 16 rfl [chR bd ws] L uP ?_
        refine DO.pure tab uC (by kernel_rfl) [0,1,2,3,4,5] (by kernel_rfl) rfl ?_
        refine DO.indexP (sz:=2) tab 6 a uC (by kernel_rfl) (by kernel_rfl) rfl rfl rfl rfl rfl rfl rfl rfl rfl (by omega) ?_
        refine DO.loadE (jj:=0) tab 7 0 rCh (gk_get (xs:=ws) (k:=a) (by omega)) (by simp only [rCh];omega) (fun _=>rfl) uC (by kernel_rfl) (by kernel_rfl) rfl rfl rfl rfl rfl rfl rfl ?_
        refine DO.pure tab uC (by kernel_rfl) [8,9] (by kernel_rfl) rfl ?_
        refine DO.indexP (sz:=2) tab 10 j2 uC (by kernel_rfl) (by kernel_rfl) rfl rfl rfl rfl rfl rfl rfl rfl rfl (by omega) ?_
        refine DO.loadE (jj:=0) tab 11 0 rCh (gk_get (xs:=ws) (k:=j2) (by omega)) (by simp only [rCh];omega) (fun _=>rfl) uC (by kernel_rfl) (by kernel_rfl) rfl rfl rfl rfl rfl rfl rfl ?_
        refine DO.indexP (sz:=2) tab 12 j2 uC (by kernel_rfl) (by kernel_rfl) rfl rfl rfl rfl rfl rfl rfl rfl rfl (by omega) ?_
        refine DO.tail ?_
        refine DOt.run 13 rfl rfl (by kernel_rfl) rfl ?_
        refine OT.storeE (h2:=gk ws a) tab 0 rCh (gk_get (xs:=ws) (k:=j2) (by omega)) (j:=0) (by simp only [rCh];omega) (fun _=>rfl) (Nat.le_refl _) rfl rfl rfl rfl rfl rfl rfl ?_
        refine DOt.run 14 rfl rfl (by kernel_rfl) rfl ?_
        refine OT.indexP (sz:=2) tab a rfl rfl rfl rfl rfl rfl rfl (by omega) ?_
        refine DOt.run 15 rfl rfl (by kernel_rfl) rfl ?_
        refine OT.storeE (h2:=gk ws j2) (h:=gk (List.set ws j2 (gk ws a)) a) tab 0 rCh (k:=a) (gk_get (by simp;omega)) (j:=0) (by simp only [rCh];omega) (fun _=>rfl) (Nat.le_refl _) rfl rfl rfl rfl rfl rfl rfl ?_
        refine DOt.nil (by kernel_rfl) ?_
        rotate_left 1
        refine uA ?_
        refine retQ_ret rfl (L':=chR bd (sw ws j2 a) :: L) uS ⟨rfl,sw ws j2 a,j2,_,rfl,hN.base hS0,rfl⟩
       ·have hpair : ltC (gk ws i) (gk ws a)=false∧ltC (gk ws j2) (gk ws a)=true:=by
         constructor
         ·first | exact hc1 | (exfalso;omega)
         ·first | exact hc2 | (exfalso;omega)
        obtain ⟨hN,hlt⟩:=hP2.swap (by omega) (by omega) hpair.1 hpair.2
        refine uA ?_
        refine TC.draw [13,14,15] mixed 16 rfl [chR bd ws] L uP ?_
        refine DO.pure tab uC (by kernel_rfl) [0,1,2,3,4,5] (by kernel_rfl) rfl ?_
        refine DO.indexP (sz:=2) tab 6 j2 uC (by kernel_rfl) (by kernel_rfl) rfl rfl rfl rfl rfl rfl rfl rfl rfl (by omega) ?_
        refine DO.loadE (jj:=0) tab 7 0 rCh (gk_get (xs:=ws) (k:=j2) (by omega)) (by simp only [rCh];omega) (fun _=>rfl) uC (by kernel_rfl) (by kernel_rfl) rfl rfl rfl rfl rfl rfl rfl ?_
        refine DO.pure tab uC (by kernel_rfl) [8,9] (by kernel_rfl) rfl ?_
        refine DO.indexP (sz:=2) tab 10 i uC (by kernel_rfl) (by kernel_rfl) rfl rfl rfl rfl rfl rfl rfl rfl rfl (by omega) ?_
        refine DO.loadE (jj:=0) tab 11 0 rCh (gk_get (xs:=ws) (k:=i) (by omega)) (by simp only [rCh];omega) (fun _=>rfl) uC (by kernel_rfl) (by kernel_rfl) rfl rfl rfl rfl rfl rfl rfl ?_
        refine DO.indexP (sz:=2) tab 12 i uC (by kernel_rfl) (by kernel_rfl) rfl rfl rfl rfl rfl rfl rfl rfl rfl (by omega) ?_
        refine DO.tail ?_
        refine DOt.run 13 rfl rfl (by kernel_rfl) rfl ?_
        refine OT.storeE (h2:=gk ws j2) tab 0 rCh (gk_get (xs:=ws) (k:=i) (by omega)) (j:=0) (by simp only [rCh];omega) (fun _=>rfl) (Nat.le_refl _) rfl rfl rfl rfl rfl rfl rfl ?_
        refine DOt.run 14 rfl rfl (by kernel_rfl) rfl ?_
        refine OT.indexP (sz:=2) tab j2 rfl rfl rfl rfl rfl rfl rfl (by omega) ?_
        refine DOt.run 15 rfl rfl (by kernel_rfl) rfl ?_
        refine OT.storeE (h2:=gk ws i) (h:=gk (List.set ws i (gk ws j2)) j2) tab 0 rCh (k:=j2) (gk_get (by simp;omega)) (j:=0) (by simp only [rCh];omega) (fun _=>rfl) (Nat.le_refl _) rfl rfl rfl rfl rfl rfl rfl ?_
        refine DOt.nil (by kernel_rfl) ?_
        rotate_left 1
        refine uA ?_
        refine TO.step rfl (OT.arith (r':=((i + 1 : Nat) : Int)) rfl rfl rfl rfl rfl rfl rfl (by omega) ?_)
        refine uA ?_
        refine TO.step rfl (OT.arith (r':=((j2 - 1 : Nat) : Int)) rfl rfl rfl rfl rfl rfl (by omega) (by omega) ?_)
        refine uA ?_
        exact ⟨(i + 1,j2 - 1,sw ws i j2),uH,uH,rfl,rfl,uS,hN,by simp only;omega⟩
  ·have hc2 : j2 < i:=by omega
   refine uA ?_
   refine TC.condP rfl (fun hgt => ?_) (fun hgt => ?_)
   ·have hN:=hP2.done (by omega) (by omega)
    refine uA ?_
    refine TC.draw [13,14,15] mixed 16 rfl [chR bd zs] L uP ?_
    refine DO.pure tab uC (by kernel_rfl) [0,1,2,3,4,5] (by kernel_rfl) rfl ?_
    refine DO.indexP (sz:=2) tab 6 a uC (by kernel_rfl) (by kernel_rfl) rfl rfl rfl rfl rfl rfl rfl rfl rfl (by omega) ?_
    refine DO.loadE (jj:=0) tab 7 0 rCh (gk_get (xs:=zs) (k:=a) (by omega)) (by simp only [rCh];omega) (fun _=>rfl) uC (by kernel_rfl) (by kernel_rfl) rfl rfl rfl rfl rfl rfl rfl ?_
    refine DO.pure tab uC (by kernel_rfl) [8,9] (by kernel_rfl) rfl ?_
    refine DO.indexP (sz:=2) tab 10 j2 uC (by kernel_rfl) (by kernel_rfl) rfl rfl rfl rfl rfl rfl rfl rfl rfl (by omega) ?_
    refine DO.loadE (jj:=0) tab 11 0 rCh (gk_get (xs:=zs) (k:=j2) (by omega)) (by simp only [rCh];omega) (fun _=>rfl) uC (by kernel_rfl) (by kernel_rfl) rfl rfl rfl rfl rfl rfl rfl ?_
    refine DO.indexP (sz:=2) tab 12 j2 uC (by kernel_rfl) (by kernel_rfl) rfl rfl rfl rfl rfl rfl rfl rfl rfl (by omega) ?_
    refine DO.tail ?_
    refine DOt.run 13 rfl rfl (by kernel_rfl) rfl ?_
    refine OT.storeE (h2:=gk zs a) tab 0 rCh (gk_get (xs:=zs) (k:=j2) (by omega)) (j:=0) (by simp only [rCh];omega) (fun _=>rfl) (Nat.le_refl _) rfl rfl rfl rfl rfl rfl rfl ?_
    refine DOt.run 14 rfl rfl (by kernel_rfl) rfl ?_
    refine OT.indexP (sz:=2) tab a rfl rfl rfl rfl rfl rfl rfl (by omega) ?_
    refine DOt.run 15 rfl rfl (by kernel_rfl) rfl ?_
    refine OT.storeE (h2:=gk zs j2) (h:=gk (List.set zs j2 (gk zs a)) a) tab 0 rCh (k:=a) (gk_get (by simp;omega)) (j:=0) (by simp only [rCh];omega) (fun _=>rfl) (Nat.le_refl _) rfl rfl rfl rfl rfl rfl rfl ?_
    refine DOt.nil (by kernel_rfl) ?_
    rotate_left 1
    refine uA ?_
    refine retQ_ret rfl (L':=chR bd (sw zs j2 a) :: L) uS ⟨rfl,sw zs j2 a,j2,_,rfl,hN.base hS0,rfl⟩
   ·have hpair : ltC (gk zs i) (gk zs a)=false∧ltC (gk zs j2) (gk zs a)=true:=by
     constructor
     ·first | exact hc1 | (exfalso;omega)
     ·first | exact hc2 | (exfalso;omega)
    obtain ⟨hN,hlt⟩:=hP2.swap (by omega) (by omega) hpair.1 hpair.2
    refine uA ?_
    refine TC.draw [13,14,15] mixed 16 rfl [chR bd zs] L uP ?_
    refine DO.pure tab uC (by kernel_rfl) [0,1,2,3,4,5] (by kernel_rfl) rfl ?_
    refine DO.indexP (sz:=2) tab 6 j2 uC (by kernel_rfl) (by kernel_rfl) rfl rfl rfl rfl rfl rfl rfl rfl rfl (by omega) ?_
    refine DO.loadE (jj:=0) tab 7 0 rCh (gk_get (xs:=zs) (k:=j2) (by omega)) (by simp only [rCh];omega) (fun _=>rfl) uC (by kernel_rfl) (by kernel_rfl) rfl rfl rfl rfl rfl rfl rfl ?_
    refine DO.pure tab uC (by kernel_rfl) [8,9] (by kernel_rfl) rfl ?_
    refine DO.indexP (sz:=2) tab 10 i uC (by kernel_rfl) (by kernel_rfl) rfl rfl rfl rfl rfl rfl rfl rfl rfl (by omega) ?_
    refine DO.loadE (jj:=0) tab 11 0 rCh (gk_get (xs:=zs) (k:=i) (by omega)) (by simp only [rCh];omega) (fun _=>rfl) uC (by kernel_rfl) (by kernel_rfl) rfl rfl rfl rfl rfl rfl rfl ?_
    refine DO.indexP (sz:=2) tab 12 i uC (by kernel_rfl) (by kernel_rfl) rfl rfl rfl rfl rfl rfl rfl rfl rfl (by omega) ?_
    refine DO.tail ?_
    refine DOt.run 13 rfl rfl (by kernel_rfl) rfl ?_
    refine OT.storeE (h2:=gk zs j2) tab 0 rCh (gk_get (xs:=zs) (k:=i) (by omega)) (j:=0) (by simp only [rCh];omega) (fun _=>rfl) (Nat.le_refl _) rfl rfl rfl rfl rfl rfl rfl ?_
    refine DOt.run 14 rfl rfl (by kernel_rfl) rfl ?_
    refine OT.indexP (sz:=2) tab j2 rfl rfl rfl rfl rfl rfl rfl (by omega) ?_
    refine DOt.run 15 rfl rfl (by kernel_rfl) rfl ?_
    refine OT.storeE (h2:=gk zs i) (h:=gk (List.set zs i (gk zs j2)) j2) tab 0 rCh (k:=j2) (gk_get (by simp;omega)) (j:=0) (by simp only [rCh];omega) (fun _=>rfl) (Nat.le_refl _) rfl rfl rfl rfl rfl rfl rfl ?_
    refine DOt.nil (by kernel_rfl) ?_
    rotate_left 1
    refine uA ?_
    refine TO.step rfl (OT.arith (r':=((i + 1 : Nat) : Int)) rfl rfl rfl rfl rfl rfl rfl (by omega) ?_)
    refine uA ?_
    refine TO.step rfl (OT.arith (r':=((j2 - 1 : Nat) : Int)) rfl rfl rfl rfl rfl rfl (by omega) (by omega) ?_)
    refine uA ?_
    refine TC.loopK (ι:=Nat × Nat × List Ch) [0,1,4] rfl (fun x=>[(12, .int .i64 (x.1 : Int)),(13, .int .i64 (x.2.1 : Int))]) (fun _=>m) (fun x=>chR bd x.2.2 :: L) (fun x=>PaI ltC (sw xs a p) a b x.1 x.2.1 x.2.2) (fun x=>b + 1 + x.2.1 - x.1) (i + 1,j2 - 1,sw zs i j2) uH rfl uS hN ?_
    clear hN hpair hP hP2 hc1 hc2
    rintro ⟨i,j,ws⟩ hP
    simp only at hP ⊢
    have hwl:=hP.seg.len
    have hD : DomC ws:=hDs.perm hP.seg.perm
    refine uA ?_
    refine TC.loopK (ι:=Nat) [0,1,4,13] rfl (fun i=>[(12, .int .i64 (i : Int))]) (fun _=>m) (fun _=>chR bd ws :: L) (fun k=>i ≤ k∧PaI ltC (sw xs a p) a b k j ws) (fun k=>b + 1 - k) i uH rfl uS ⟨Nat.le_refl _,hP⟩ ?_
    clear hP
    obtain ⟨i0,hi0⟩ : ∃ i0,i0=i:=⟨_,rfl⟩
    rw [← hi0]
    clear hi0
    rintro i ⟨hi0,hP⟩
    have hr:=hP.rng
    refine uA ?_
    refine TC.draw [] mixed 16 rfl [chR bd ws] L uP ?_
    refine DO.pure tab uC (by kernel_rfl) [0,1,2,3] (by kernel_rfl) rfl ?_
    (refine DO.splitP (d:=108) rfl (fun hg3 => ?_) (fun hg3 => ?_))
    refine DO.pure tab uC (by kernel_rfl) [4,5,6] (by kernel_rfl) rfl ?_
    refine DO.indexP (sz:=2) tab 7 i uC (by kernel_rfl) (by kernel_rfl) rfl rfl rfl rfl rfl rfl rfl rfl rfl (by omega) ?_
    refine DO.loadE (jj:=0) tab 8 0 rCh (gk_get (xs:=ws) (k:=i) (by omega)) (by simp only [rCh];omega) (fun _=>rfl) uC (by kernel_rfl) (by kernel_rfl) rfl rfl rfl rfl rfl rfl rfl ?_
    refine DO.pure tab uC (by kernel_rfl) [9,10] (by kernel_rfl) rfl ?_
    refine DO.indexP (sz:=2) tab 11 a uC (by kernel_rfl) (by kernel_rfl) rfl rfl rfl rfl rfl rfl rfl rfl rfl (by omega) ?_
    refine DO.loadE (jj:=0) tab 12 0 rCh (gk_get (xs:=ws) (k:=a) (by omega)) (by simp only [rCh];omega) (fun _=>rfl) uC (by kernel_rfl) (by kernel_rfl) rfl rfl rfl rfl rfl rfl rfl ?_
    refine DO.run 13 rfl rfl (by kernel_rfl) rfl (OT.call rfl rfl rfl rfl rfl rfl goes43 ((chcmp_law m _ (gk ws i) (gk ws a) (hD.gk (by omega)) (hD.gk (by omega))).x ?_))
    rintro _ _ _ ⟨rfl,rfl,rfl⟩;refine ⟨Mem.le_refl _,_,List.Perm.refl _, ?_⟩
    refine DO.pure tab uC (by kernel_rfl) [14,15] (by kernel_rfl) rfl ?_
    (refine DO.nil (by kernel_rfl) ?_)
    rotate_left 1
    refine DO.pure tab uC (by kernel_rfl) [4,5,6,7,8,9,10,11,12,13,14,15] (by kernel_rfl) rfl ?_
    (refine DO.nil (by kernel_rfl) ?_)
    rotate_left 1
    ·refine uA ?_
     simp only [ch_dec]
     cases hc1 : ltC (gk ws i) (gk ws a) with
     | true =>
      refine uA ?_
      refine TO.step rfl (OT.arith (r':=((i + 1 : Nat) : Int)) rfl rfl rfl rfl rfl rfl rfl (by omega) ?_)
      refine uA ?_
      exact ⟨i + 1,uH,uH,rfl,rfl,uS,⟨by omega,hP.left (by omega) hc1⟩,by omega⟩
     | false =>
      refine uA ?_
      refine TC.loopK (ι:=Nat) [0,1,4,12] rfl (fun j=>[(13, .int .i64 (j : Int))]) (fun _=>m) (fun _=>chR bd ws :: L) (fun j2=>j2 ≤ j∧PaI ltC (sw xs a p) a b i j2 ws) (fun j=>j) j uH rfl uS ⟨Nat.le_refl _,hP⟩ ?_
      rintro j2 ⟨hj2,hP2⟩
      have hr2:=hP2.rng
      refine uA ?_
      refine TC.draw [] mixed 17 rfl [chR bd ws] L uP ?_
      refine DO.pure tab uC (by kernel_rfl) [0,1,2,3] (by kernel_rfl) rfl ?_
      (refine DO.splitP (d:=126) rfl (fun hg3 => ?_) (fun hg3 => ?_))
      refine DO.pure tab uC (by kernel_rfl) [4,5,6] (by kernel_rfl) rfl ?_
      refine DO.indexP (sz:=2) tab 7 j2 uC (by kernel_rfl) (by kernel_rfl) rfl rfl rfl rfl rfl rfl rfl rfl rfl (by omega) ?_
      refine DO.loadE (jj:=0) tab 8 0 rCh (gk_get (xs:=ws) (k:=j2) (by omega)) (by simp only [rCh];omega) (fun _=>rfl) uC (by kernel_rfl) (by kernel_rfl) rfl rfl rfl rfl rfl rfl rfl ?_
      refine DO.pure tab uC (by kernel_rfl) [9,10] (by kernel_rfl) rfl ?_
      refine DO.indexP (sz:=2) tab 11 a uC (by kernel_rfl) (by kernel_rfl) rfl rfl rfl rfl rfl rfl rfl rfl rfl (by omega) ?_
      refine DO.loadE (jj:=0) tab 12 0 rCh (gk_get (xs:=ws) (k:=a) (by omega)) (by simp only [rCh];omega) (fun _=>rfl) uC (by kernel_rfl) (by kernel_rfl) rfl rfl rfl rfl rfl rfl rfl ?_
      refine DO.run 13 rfl rfl (by kernel_rfl) rfl (OT.call rfl rfl rfl rfl rfl rfl goes43 ((chcmp_law m _ (gk ws j2) (gk ws a) (hD.gk (by omega)) (hD.gk (by omega))).x ?_))
      rintro _ _ _ ⟨rfl,rfl,rfl⟩;refine ⟨Mem.le_refl _,_,List.Perm.refl _, ?_⟩
      refine DO.pure tab uC (by kernel_rfl) [14,15,16] (by kernel_rfl) rfl ?_
      (refine DO.nil (by kernel_rfl) ?_)
      rotate_left 1
      refine DO.pure tab uC (by kernel_rfl) [4,5,6,7,8,9,10,11,12,13,14,15,16] (by kernel_rfl) rfl ?_
      (refine DO.nil (by kernel_rfl) ?_)
      rotate_left 1
      ·refine uA ?_
       simp only [ch_dec]
       cases hc2 : ltC (gk ws j2) (gk ws a) with
       | false =>
        refine uA ?_
        refine TO.step rfl (OT.arith (r':=((j2 - 1 : Nat) : Int)) rfl rfl rfl rfl rfl rfl (by omega) (by omega) ?_)
        refine uA ?_
        exact ⟨j2 - 1,uH,uH,rfl,rfl,uS,⟨by omega,hP2.right (by omega) hc2⟩,by omega⟩
       | true =>
        refine uA ?_
        refine TC.condP rfl (fun hgt => ?_) (fun hgt => ?_)
        ·have hN:=hP2.done (by omega) (by omega)
         refine uA ?_
         refine TC.draw [13,14,15] mixed 16 rfl [chR bd ws] L uP ?_
         refine DO.pure tab uC (by kernel_rfl) [0,1,2,3,4,5] (by kernel_rfl) rfl ?_
         refine DO.indexP (sz:=2) tab 6 a uC (by kernel_rfl) (by kernel_rfl) rfl rfl rfl rfl rfl rfl rfl rfl rfl (by omega) ?_
         refine DO.loadE (jj:=0) tab 7 0 rCh (gk_get (xs:=ws) (k:=a) (by omega)) (by simp only [rCh];omega) (fun _=>rfl) uC (by kernel_rfl) (by kernel_rfl) rfl rfl rfl rfl rfl rfl rfl ?_
         refine DO.pure tab uC (by kernel_rfl) [8,9] (by kernel_rfl) rfl ?_
         refine DO.indexP (sz:=2) tab 10 j2 uC (by kernel_rfl) (by kernel_rfl) rfl rfl rfl rfl rfl rfl rfl rfl rfl (by omega) ?_
         refine DO.loadE (jj:=0) tab 11 0 rCh (gk_get (xs:=ws) (k:=j2) (by omega)) (by simp only [rCh];omega) (fun _=>rfl) uC (by kernel_rfl) (by kernel_rfl) rfl rfl rfl rfl rfl rfl rfl ?_
         refine DO.indexP (sz:=2) tab 12 j2 uC (by kernel_rfl) (by kernel_rfl) rfl rfl rfl rfl rfl rfl rfl rfl rfl (by omega) ?_
         refine DO.tail ?_
         refine DOt.run 13 rfl rfl (by kernel_rfl) rfl ?_
         refine OT.storeE (h2:=gk ws a) tab 0 rCh (gk_get (xs:=ws) (k:=j2) (by omega)) (j:=0) (by simp only [rCh];omega) (fun _=>rfl) (Nat.le_refl _) rfl rfl rfl rfl rfl rfl rfl ?_
         refine DOt.run 14 rfl rfl (by kernel_rfl) rfl ?_
         refine OT.indexP (sz:=2) tab a rfl rfl rfl rfl rfl rfl rfl (by omega) ?_
         refine DOt.run 15 rfl rfl (by kernel_rfl) rfl ?_
         refine OT.storeE (h2:=gk ws j2) (h:=gk (List.set ws j2 (gk ws a)) a) tab 0 rCh (k:=a) (gk_get (by simp;omega)) (j:=0) (by simp only [rCh];omega) (fun _=>rfl) (Nat.le_refl _) rfl rfl rfl rfl rfl rfl rfl ?_
         refine DOt.nil (by kernel_rfl) ?_
         rotate_left 1
         refine uA ?_
         refine retQ_ret rfl (L':=chR bd (sw ws j2 a) :: L) uS ⟨rfl,sw ws j2 a,j2,_,rfl,hN.base hS0,rfl⟩
        ·have hpair : ltC (gk ws i) (gk ws a)=false∧ltC (gk ws j2) (gk ws a)=true:=by
          constructor
          ·first | exact hc1 | (exfalso;omega)
          ·first | exact hc2 | (exfalso;omega)
         obtain ⟨hN,hlt⟩:=hP2.swap (by omega) (by omega) hpair.1 hpair.2
         refine uA ?_
         refine TC.draw [13,14,15] mixed 16 rfl [chR bd ws] L uP ?_
         refine DO.pure tab uC (by kernel_rfl) [0,1,2,3,4,5] (by kernel_rfl) rfl ?_
         refine DO.indexP (sz:=2) tab 6 j2 uC (by kernel_rfl) (by kernel_rfl) rfl rfl rfl rfl rfl rfl rfl rfl rfl (by omega) ?_
         refine DO.loadE (jj:=0) tab 7 0 rCh (gk_get (xs:=ws) (k:=j2) (by omega)) (by simp only [rCh];omega) (fun _=>rfl) uC (by kernel_rfl) (by kernel_rfl) rfl rfl rfl rfl rfl rfl rfl ?_
         refine DO.pure tab uC (by kernel_rfl) [8,9] (by kernel_rfl) rfl ?_
         refine DO.indexP (sz:=2) tab 10 i uC (by kernel_rfl) (by kernel_rfl) rfl rfl rfl rfl rfl rfl rfl rfl rfl (by omega) ?_
         refine DO.loadE (jj:=0) tab 11 0 rCh (gk_get (xs:=ws) (k:=i) (by omega)) (by simp only [rCh];omega) (fun _=>rfl) uC (by kernel_rfl) (by kernel_rfl) rfl rfl rfl rfl rfl rfl rfl ?_
         refine DO.indexP (sz:=2) tab 12 i uC (by kernel_rfl) (by kernel_rfl) rfl rfl rfl rfl rfl rfl rfl rfl rfl (by omega) ?_
         refine DO.tail ?_
         refine DOt.run 13 rfl rfl (by kernel_rfl) rfl ?_
         refine OT.storeE (h2:=gk ws j2) tab 0 rCh (gk_get (xs:=ws) (k:=i) (by omega)) (j:=0) (by simp only [rCh];omega) (fun _=>rfl) (Nat.le_refl _) rfl rfl rfl rfl rfl rfl rfl ?_
         refine DOt.run 14 rfl rfl (by kernel_rfl) rfl ?_
         refine OT.indexP (sz:=2) tab j2 rfl rfl rfl rfl rfl rfl rfl (by omega) ?_
         refine DOt.run 15 rfl rfl (by kernel_rfl) rfl ?_
         refine OT.storeE (h2:=gk ws i) (h:=gk (List.set ws i (gk ws j2)) j2) tab 0 rCh (k:=j2) (gk_get (by simp;omega)) (j:=0) (by simp only [rCh];omega) (fun _=>rfl) (Nat.le_refl _) rfl rfl rfl rfl rfl rfl rfl ?_
         refine DOt.nil (by kernel_rfl) ?_
         rotate_left 1
         refine uA ?_
         refine TO.step rfl (OT.arith (r':=((i + 1 : Nat) : Int)) rfl rfl rfl rfl rfl rfl rfl (by omega) ?_)
         refine uA ?_
         refine TO.step rfl (OT.arith (r':=((j2 - 1 : Nat) : Int)) rfl rfl rfl rfl rfl rfl (by omega) (by omega) ?_)
         refine uA ?_
         exact ⟨(i + 1,j2 - 1,sw ws i j2),uH,uH,rfl,rfl,uS,hN,by simp only;omega⟩
      ·have hc2 : j2 < i:=by omega
       refine uA ?_
       refine TC.condP rfl (fun hgt => ?_) (fun hgt => ?_)
       ·have hN:=hP2.done (by omega) (by omega)
        refine uA ?_
        refine TC.draw [13,14,15] mixed 16 rfl [chR bd ws] L uP ?_
        refine DO.pure tab uC (by kernel_rfl) [0,1,2,3,4,5] (by kernel_rfl) rfl ?_
        refine DO.indexP (sz:=2) tab 6 a uC (by kernel_rfl) (by kernel_rfl) rfl rfl rfl rfl rfl rfl rfl rfl rfl (by omega) ?_
        refine DO.loadE (jj:=0) tab 7 0 rCh (gk_get (xs:=ws) (k:=a) (by omega)) (by simp only [rCh];omega) (fun _=>rfl) uC (by kernel_rfl) (by kernel_rfl) rfl rfl rfl rfl rfl rfl rfl ?_
        refine DO.pure tab uC (by kernel_rfl) [8,9] (by kernel_rfl) rfl ?_
        refine DO.indexP (sz:=2) tab 10 j2 uC (by kernel_rfl) (by kernel_rfl) rfl rfl rfl rfl rfl rfl rfl rfl rfl (by omega) ?_
        refine DO.loadE (jj:=0) tab 11 0 rCh (gk_get (xs:=ws) (k:=j2) (by omega)) (by simp only [rCh];omega) (fun _=>rfl) uC (by kernel_rfl) (by kernel_rfl) rfl rfl rfl rfl rfl rfl rfl ?_
        refine DO.indexP (sz:=2) tab 12 j2 uC (by kernel_rfl) (by kernel_rfl) rfl rfl rfl rfl rfl rfl rfl rfl rfl (by omega) ?_
        refine DO.tail ?_
        refine DOt.run 13 rfl rfl (by kernel_rfl) rfl ?_
        refine OT.storeE (h2:=gk ws a) tab 0 rCh (gk_get (xs:=ws) (k:=j2) (by omega)) (j:=0) (by simp only [rCh];omega) (fun _=>rfl) (Nat.le_refl _) rfl rfl rfl rfl rfl rfl rfl ?_
        refine DOt.run 14 rfl rfl (by kernel_rfl) rfl ?_
        refine OT.indexP (sz:=2) tab a rfl rfl rfl rfl rfl rfl rfl (by omega) ?_
        refine DOt.run 15 rfl rfl (by kernel_rfl) rfl ?_
        refine OT.storeE (h2:=gk ws j2) (h:=gk (List.set ws j2 (gk ws a)) a) tab 0 rCh (k:=a) (gk_get (by simp;omega)) (j:=0) (by simp only [rCh];omega) (fun _=>rfl) (Nat.le_refl _) rfl rfl rfl rfl rfl rfl rfl ?_
        refine DOt.nil (by kernel_rfl) ?_
        rotate_left 1
        refine uA ?_
        refine retQ_ret rfl (L':=chR bd (sw ws j2 a) :: L) uS ⟨rfl,sw ws j2 a,j2,_,rfl,hN.base hS0,rfl⟩
       ·have hpair : ltC (gk ws i) (gk ws a)=false∧ltC (gk ws j2) (gk ws a)=true:=by
         constructor
         ·first | exact hc1 | (exfalso;omega)
         ·first | exact hc2 | (exfalso;omega)
        obtain ⟨hN,hlt⟩:=hP2.swap (by omega) (by omega) hpair.1 hpair.2
        refine uA ?_
        refine TC.draw [13,14,15] mixed 16 rfl [chR bd ws] L uP ?_
        refine DO.pure tab uC (by kernel_rfl) [0,1,2,3,4,5] (by kernel_rfl) rfl ?_
        refine DO.indexP (sz:=2) tab 6 j2 uC (by kernel_rfl) (by kernel_rfl) rfl rfl rfl rfl rfl rfl rfl rfl rfl (by omega) ?_
        refine DO.loadE (jj:=0) tab 7 0 rCh (gk_get (xs:=ws) (k:=j2) (by omega)) (by simp only [rCh];omega) (fun _=>rfl) uC (by kernel_rfl) (by kernel_rfl) rfl rfl rfl rfl rfl rfl rfl ?_
        refine DO.pure tab uC (by kernel_rfl) [8,9] (by kernel_rfl) rfl ?_
        refine DO.indexP (sz:=2) tab 10 i uC (by kernel_rfl) (by kernel_rfl) rfl rfl rfl rfl rfl rfl rfl rfl rfl (by omega) ?_
        refine DO.loadE (jj:=0) tab 11 0 rCh (gk_get (xs:=ws) (k:=i) (by omega)) (by simp only [rCh];omega) (fun _=>rfl) uC (by kernel_rfl) (by kernel_rfl) rfl rfl rfl rfl rfl rfl rfl ?_
        refine DO.indexP (sz:=2) tab 12 i uC (by kernel_rfl) (by kernel_rfl) rfl rfl rfl rfl rfl rfl rfl rfl rfl (by omega) ?_
        refine DO.tail ?_
        refine DOt.run 13 rfl rfl (by kernel_rfl) rfl ?_
        refine OT.storeE (h2:=gk ws j2) tab 0 rCh (gk_get (xs:=ws) (k:=i) (by omega)) (j:=0) (by simp only [rCh];omega) (fun _=>rfl) (Nat.le_refl _) rfl rfl rfl rfl rfl rfl rfl ?_
        refine DOt.run 14 rfl rfl (by kernel_rfl) rfl ?_
        refine OT.indexP (sz:=2) tab j2 rfl rfl rfl rfl rfl rfl rfl (by omega) ?_
        refine DOt.run 15 rfl rfl (by kernel_rfl) rfl ?_
        refine OT.storeE (h2:=gk ws i) (h:=gk (List.set ws i (gk ws j2)) j2) tab 0 rCh (k:=j2) (gk_get (by simp;omega)) (j:=0) (by simp only [rCh];omega) (fun _=>rfl) (Nat.le_refl _) rfl rfl rfl rfl rfl rfl rfl ?_
        refine DOt.nil (by kernel_rfl) ?_
        rotate_left 1
        refine uA ?_
        refine TO.step rfl (OT.arith (r':=((i + 1 : Nat) : Int)) rfl rfl rfl rfl rfl rfl rfl (by omega) ?_)
        refine uA ?_
        refine TO.step rfl (OT.arith (r':=((j2 - 1 : Nat) : Int)) rfl rfl rfl rfl rfl rfl (by omega) (by omega) ?_)
        refine uA ?_
        exact ⟨(i + 1,j2 - 1,sw ws i j2),uH,uH,rfl,rfl,uS,hN,by simp only;omega⟩
    ·have hc1 : j < i:=by omega
     refine uA ?_
     refine TC.loopK (ι:=Nat) [0,1,4,12] rfl (fun j=>[(13, .int .i64 (j : Int))]) (fun _=>m) (fun _=>chR bd ws :: L) (fun j2=>j2 ≤ j∧PaI ltC (sw xs a p) a b i j2 ws) (fun j=>j) j uH rfl uS ⟨Nat.le_refl _,hP⟩ ?_
     rintro j2 ⟨hj2,hP2⟩
     have hr2:=hP2.rng
     refine uA ?_
     refine TC.draw [] mixed 17 rfl [chR bd ws] L uP ?_
     refine DO.pure tab uC (by kernel_rfl) [0,1,2,3] (by kernel_rfl) rfl ?_
     (refine DO.splitP (d:=126) rfl (fun hg3 => ?_) (fun hg3 => ?_))
     refine DO.pure tab uC (by kernel_rfl) [4,5,6] (by kernel_rfl) rfl ?_
     refine DO.indexP (sz:=2) tab 7 j2 uC (by kernel_rfl) (by kernel_rfl) rfl rfl rfl rfl rfl rfl rfl rfl rfl (by omega) ?_
     refine DO.loadE (jj:=0) tab 8 0 rCh (gk_get (xs:=ws) (k:=j2) (by omega)) (by simp only [rCh];omega) (fun _=>rfl) uC (by kernel_rfl) (by kernel_rfl) rfl rfl rfl rfl rfl rfl rfl ?_
     refine DO.pure tab uC (by kernel_rfl) [9,10] (by kernel_rfl) rfl ?_
     refine DO.indexP (sz:=2) tab 11 a uC (by kernel_rfl) (by kernel_rfl) rfl rfl rfl rfl rfl rfl rfl rfl rfl (by omega) ?_
     refine DO.loadE (jj:=0) tab 12 0 rCh (gk_get (xs:=ws) (k:=a) (by omega)) (by simp only [rCh];omega) (fun _=>rfl) uC (by kernel_rfl) (by kernel_rfl) rfl rfl rfl rfl rfl rfl rfl ?_
     refine DO.run 13 rfl rfl (by kernel_rfl) rfl (OT.call rfl rfl rfl rfl rfl rfl goes43 ((chcmp_law m _ (gk ws j2) (gk ws a) (hD.gk (by omega)) (hD.gk (by omega))).x ?_))
     rintro _ _ _ ⟨rfl,rfl,rfl⟩;refine ⟨Mem.le_refl _,_,List.Perm.refl _, ?_⟩
     refine DO.pure tab uC (by kernel_rfl) [14,15,16] (by kernel_rfl) rfl ?_
     (refine DO.nil (by kernel_rfl) ?_)
     rotate_left 1
     refine DO.pure tab uC (by kernel_rfl) [4,5,6,7,8,9,10,11,12,13,14,15,16] (by kernel_rfl) rfl ?_
     (refine DO.nil (by kernel_rfl) ?_)
     rotate_left 1
     ·refine uA ?_
      simp only [ch_dec]
      cases hc2 : ltC (gk ws j2) (gk ws a) with
      | false =>
       refine uA ?_
       refine TO.step rfl (OT.arith (r':=((j2 - 1 : Nat) : Int)) rfl rfl rfl rfl rfl rfl (by omega) (by omega) ?_)
       refine uA ?_
       exact ⟨j2 - 1,uH,uH,rfl,rfl,uS,⟨by omega,hP2.right (by omega) hc2⟩,by omega⟩
      | true =>
       refine uA ?_
       refine TC.condP rfl (fun hgt => ?_) (fun hgt => ?_)
       ·have hN:=hP2.done (by omega) (by omega)
        refine uA ?_
        refine TC.draw [13,14,15] mixed 16 rfl [chR bd ws] L uP ?_
        refine DO.pure tab uC (by kernel_rfl) [0,1,2,3,4,5] (by kernel_rfl) rfl ?_
        refine DO.indexP (sz:=2) tab 6 a uC (by kernel_rfl) (by kernel_rfl) rfl rfl rfl rfl rfl rfl rfl rfl rfl (by omega) ?_
        refine DO.loadE (jj:=0) tab 7 0 rCh (gk_get (xs:=ws) (k:=a) (by omega)) (by simp only [rCh];omega) (fun _=>rfl) uC (by kernel_rfl) (by kernel_rfl) rfl rfl rfl rfl rfl rfl rfl ?_
        refine DO.pure tab uC (by kernel_rfl) [8,9] (by kernel_rfl) rfl ?_
        refine DO.indexP (sz:=2) tab 10 j2 uC (by kernel_rfl) (by kernel_rfl) rfl rfl rfl rfl rfl rfl rfl rfl rfl (by omega) ?_
        refine DO.loadE (jj:=0) tab 11 0 rCh (gk_get (xs:=ws) (k:=j2) (by omega)) (by simp only [rCh];omega) (fun _=>rfl) uC (by kernel_rfl) (by kernel_rfl) rfl rfl rfl rfl rfl rfl rfl ?_
        refine DO.indexP (sz:=2) tab 12 j2 uC (by kernel_rfl) (by kernel_rfl) rfl rfl rfl rfl rfl rfl rfl rfl rfl (by omega) ?_
        refine DO.tail ?_
        refine DOt.run 13 rfl rfl (by kernel_rfl) rfl ?_
        refine OT.storeE (h2:=gk ws a) tab 0 rCh (gk_get (xs:=ws) (k:=j2) (by omega)) (j:=0) (by simp only [rCh];omega) (fun _=>rfl) (Nat.le_refl _) rfl rfl rfl rfl rfl rfl rfl ?_
        refine DOt.run 14 rfl rfl (by kernel_rfl) rfl ?_
        refine OT.indexP (sz:=2) tab a rfl rfl rfl rfl rfl rfl rfl (by omega) ?_
        refine DOt.run 15 rfl rfl (by kernel_rfl) rfl ?_
        refine OT.storeE (h2:=gk ws j2) (h:=gk (List.set ws j2 (gk ws a)) a) tab 0 rCh (k:=a) (gk_get (by simp;omega)) (j:=0) (by simp only [rCh];omega) (fun _=>rfl) (Nat.le_refl _) rfl rfl rfl rfl rfl rfl rfl ?_
        refine DOt.nil (by kernel_rfl) ?_
        rotate_left 1
        refine uA ?_
        refine retQ_ret rfl (L':=chR bd (sw ws j2 a) :: L) uS ⟨rfl,sw ws j2 a,j2,_,rfl,hN.base hS0,rfl⟩
       ·have hpair : ltC (gk ws i) (gk ws a)=false∧ltC (gk ws j2) (gk ws a)=true:=by
         constructor
         ·first | exact hc1 | (exfalso;omega)
         ·first | exact hc2 | (exfalso;omega)
        obtain ⟨hN,hlt⟩:=hP2.swap (by omega) (by omega) hpair.1 hpair.2
        refine uA ?_
        refine TC.draw [13,14,15] mixed 16 rfl [chR bd ws] L uP ?_
        refine DO.pure tab uC (by kernel_rfl) [0,1,2,3,4,5] (by kernel_rfl) rfl ?_
        refine DO.indexP (sz:=2) tab 6 j2 uC (by kernel_rfl) (by kernel_rfl) rfl rfl rfl rfl rfl rfl rfl rfl rfl (by omega) ?_
        refine DO.loadE (jj:=0) tab 7 0 rCh (gk_get (xs:=ws) (k:=j2) (by omega)) (by simp only [rCh];omega) (fun _=>rfl) uC (by kernel_rfl) (by kernel_rfl) rfl rfl rfl rfl rfl rfl rfl ?_
        refine DO.pure tab uC (by kernel_rfl) [8,9] (by kernel_rfl) rfl ?_
        refine DO.indexP (sz:=2) tab 10 i uC (by kernel_rfl) (by kernel_rfl) rfl rfl rfl rfl rfl rfl rfl rfl rfl (by omega) ?_
        refine DO.loadE (jj:=0) tab 11 0 rCh (gk_get (xs:=ws) (k:=i) (by omega)) (by simp only [rCh];omega) (fun _=>rfl) uC (by kernel_rfl) (by kernel_rfl) rfl rfl rfl rfl rfl rfl rfl ?_
        refine DO.indexP (sz:=2) tab 12 i uC (by kernel_rfl) (by kernel_rfl) rfl rfl rfl rfl rfl rfl rfl rfl rfl (by omega) ?_
        refine DO.tail ?_
        refine DOt.run 13 rfl rfl (by kernel_rfl) rfl ?_
        refine OT.storeE (h2:=gk ws j2) tab 0 rCh (gk_get (xs:=ws) (k:=i) (by omega)) (j:=0) (by simp only [rCh];omega) (fun _=>rfl) (Nat.le_refl _) rfl rfl rfl rfl rfl rfl rfl ?_
        refine DOt.run 14 rfl rfl (by kernel_rfl) rfl ?_
        refine OT.indexP (sz:=2) tab j2 rfl rfl rfl rfl rfl rfl rfl (by omega) ?_
        refine DOt.run 15 rfl rfl (by kernel_rfl) rfl ?_
        refine OT.storeE (h2:=gk ws i) (h:=gk (List.set ws i (gk ws j2)) j2) tab 0 rCh (k:=j2) (gk_get (by simp;omega)) (j:=0) (by simp only [rCh];omega) (fun _=>rfl) (Nat.le_refl _) rfl rfl rfl rfl rfl rfl rfl ?_
        refine DOt.nil (by kernel_rfl) ?_
        rotate_left 1
        refine uA ?_
        refine TO.step rfl (OT.arith (r':=((i + 1 : Nat) : Int)) rfl rfl rfl rfl rfl rfl rfl (by omega) ?_)
        refine uA ?_
        refine TO.step rfl (OT.arith (r':=((j2 - 1 : Nat) : Int)) rfl rfl rfl rfl rfl rfl (by omega) (by omega) ?_)
        refine uA ?_
        exact ⟨(i + 1,j2 - 1,sw ws i j2),uH,uH,rfl,rfl,uS,hN,by simp only;omega⟩
     ·have hc2 : j2 < i:=by omega
      refine uA ?_
      refine TC.condP rfl (fun hgt => ?_) (fun hgt => ?_)
      ·have hN:=hP2.done (by omega) (by omega)
       refine uA ?_
       refine TC.draw [13,14,15] mixed 16 rfl [chR bd ws] L uP ?_
       refine DO.pure tab uC (by kernel_rfl) [0,1,2,3,4,5] (by kernel_rfl) rfl ?_
       refine DO.indexP (sz:=2) tab 6 a uC (by kernel_rfl) (by kernel_rfl) rfl rfl rfl rfl rfl rfl rfl rfl rfl (by omega) ?_
       refine DO.loadE (jj:=0) tab 7 0 rCh (gk_get (xs:=ws) (k:=a) (by omega)) (by simp only [rCh];omega) (fun _=>rfl) uC (by kernel_rfl) (by kernel_rfl) rfl rfl rfl rfl rfl rfl rfl ?_
       refine DO.pure tab uC (by kernel_rfl) [8,9] (by kernel_rfl) rfl ?_
       refine DO.indexP (sz:=2) tab 10 j2 uC (by kernel_rfl) (by kernel_rfl) rfl rfl rfl rfl rfl rfl rfl rfl rfl (by omega) ?_
       refine DO.loadE (jj:=0) tab 11 0 rCh (gk_get (xs:=ws) (k:=j2) (by omega)) (by simp only [rCh];omega) (fun _=>rfl) uC (by kernel_rfl) (by kernel_rfl) rfl rfl rfl rfl rfl rfl rfl ?_
       refine DO.indexP (sz:=2) tab 12 j2 uC (by kernel_rfl) (by kernel_rfl) rfl rfl rfl rfl rfl rfl rfl rfl rfl (by omega) ?_
       refine DO.tail ?_
       refine DOt.run 13 rfl rfl (by kernel_rfl) rfl ?_
       refine OT.storeE (h2:=gk ws a) tab 0 rCh (gk_get (xs:=ws) (k:=j2) (by omega)) (j:=0) (by simp only [rCh];omega) (fun _=>rfl) (Nat.le_refl _) rfl rfl rfl rfl rfl rfl rfl ?_
       refine DOt.run 14 rfl rfl (by kernel_rfl) rfl ?_
       refine OT.indexP (sz:=2) tab a rfl rfl rfl rfl rfl rfl rfl (by omega) ?_
       refine DOt.run 15 rfl rfl (by kernel_rfl) rfl ?_
       refine OT.storeE (h2:=gk ws j2) (h:=gk (List.set ws j2 (gk ws a)) a) tab 0 rCh (k:=a) (gk_get (by simp;omega)) (j:=0) (by simp only [rCh];omega) (fun _=>rfl) (Nat.le_refl _) rfl rfl rfl rfl rfl rfl rfl ?_
       refine DOt.nil (by kernel_rfl) ?_
       rotate_left 1
       refine uA ?_
       refine retQ_ret rfl (L':=chR bd (sw ws j2 a) :: L) uS ⟨rfl,sw ws j2 a,j2,_,rfl,hN.base hS0,rfl⟩
      ·have hpair : ltC (gk ws i) (gk ws a)=false∧ltC (gk ws j2) (gk ws a)=true:=by
        constructor
        ·first | exact hc1 | (exfalso;omega)
        ·first | exact hc2 | (exfalso;omega)
       obtain ⟨hN,hlt⟩:=hP2.swap (by omega) (by omega) hpair.1 hpair.2
       refine uA ?_
       refine TC.draw [13,14,15] mixed 16 rfl [chR bd ws] L uP ?_
       refine DO.pure tab uC (by kernel_rfl) [0,1,2,3,4,5] (by kernel_rfl) rfl ?_
       refine DO.indexP (sz:=2) tab 6 j2 uC (by kernel_rfl) (by kernel_rfl) rfl rfl rfl rfl rfl rfl rfl rfl rfl (by omega) ?_
       refine DO.loadE (jj:=0) tab 7 0 rCh (gk_get (xs:=ws) (k:=j2) (by omega)) (by simp only [rCh];omega) (fun _=>rfl) uC (by kernel_rfl) (by kernel_rfl) rfl rfl rfl rfl rfl rfl rfl ?_
       refine DO.pure tab uC (by kernel_rfl) [8,9] (by kernel_rfl) rfl ?_
       refine DO.indexP (sz:=2) tab 10 i uC (by kernel_rfl) (by kernel_rfl) rfl rfl rfl rfl rfl rfl rfl rfl rfl (by omega) ?_
       refine DO.loadE (jj:=0) tab 11 0 rCh (gk_get (xs:=ws) (k:=i) (by omega)) (by simp only [rCh];omega) (fun _=>rfl) uC (by kernel_rfl) (by kernel_rfl) rfl rfl rfl rfl rfl rfl rfl ?_
       refine DO.indexP (sz:=2) tab 12 i uC (by kernel_rfl) (by kernel_rfl) rfl rfl rfl rfl rfl rfl rfl rfl rfl (by omega) ?_
       refine DO.tail ?_
       refine DOt.run 13 rfl rfl (by kernel_rfl) rfl ?_
       refine OT.storeE (h2:=gk ws j2) tab 0 rCh (gk_get (xs:=ws) (k:=i) (by omega)) (j:=0) (by simp only [rCh];omega) (fun _=>rfl) (Nat.le_refl _) rfl rfl rfl rfl rfl rfl rfl ?_
       refine DOt.run 14 rfl rfl (by kernel_rfl) rfl ?_
       refine OT.indexP (sz:=2) tab j2 rfl rfl rfl rfl rfl rfl rfl (by omega) ?_
       refine DOt.run 15 rfl rfl (by kernel_rfl) rfl ?_
       refine OT.storeE (h2:=gk ws i) (h:=gk (List.set ws i (gk ws j2)) j2) tab 0 rCh (k:=j2) (gk_get (by simp;omega)) (j:=0) (by simp only [rCh];omega) (fun _=>rfl) (Nat.le_refl _) rfl rfl rfl rfl rfl rfl rfl ?_
       refine DOt.nil (by kernel_rfl) ?_
       rotate_left 1
       refine uA ?_
       refine TO.step rfl (OT.arith (r':=((i + 1 : Nat) : Int)) rfl rfl rfl rfl rfl rfl rfl (by omega) ?_)
       refine uA ?_
       refine TO.step rfl (OT.arith (r':=((j2 - 1 : Nat) : Int)) rfl rfl rfl rfl rfl rfl (by omega) (by omega) ?_)
       refine uA ?_
       exact ⟨(i + 1,j2 - 1,sw ws i j2),uH,uH,rfl,rfl,uS,hN,by simp only;omega⟩
end Go.Sep
set_option linter.unusedVariables false
set_option linter.unusedSimpArgs false
namespace Go.Sep
open Go.Proofs
attribute [local irreducible] TC TO OT TCallX TCall DO DOt thenQ blockQ retQ At
set_option maxHeartbeats 4000000 in
theorem partitionEqual_ch (m : Mem) (L : List Item) (bd c a b p : Nat) (xs : List Ch) (hD0 : DomC xs) (hab : a + 1 < b) (hp : a ≤ p∧p < b) (hl : b ≤ xs.length) (hlim : xs.length ≤ 1000000) :
  TCall Tryz.prog 141 ⟨[.slice (some ⟨bd,0,none⟩) xs.length c, .int .i64 (a : Int), .int .i64 (b : Int), .int .i64 (p : Int),chF]⟩ m (chR bd xs :: L) (fun r m' L'=>m=m' ∧ ∃ ys i j,r = .int .i64 ((i : Nat) : Int)∧PeI ltC (sw xs a p) a b i j ys∧j < i∧chR bd ys :: L=L'):=by
 unfold TCall
 refine TCallX.enter Tryz.func141 rfl 90 rfl ?_
 refine uA ?_
 refine TC.draw [13,14,15] mixed 16 rfl [chR bd xs] L uP ?_
 refine DO.pure tab uC (by kernel_rfl) [0,1,2,3,4,5] (by kernel_rfl) rfl ?_
 refine DO.indexP (sz:=2) tab 6 p uC (by kernel_rfl) (by kernel_rfl) rfl rfl rfl rfl rfl rfl rfl rfl rfl (by omega) ?_
 refine DO.loadE (jj:=0) tab 7 0 rCh (gk_get (xs:=xs) (k:=p) (by omega)) (by simp only [rCh];omega) (fun _=>rfl) uC (by kernel_rfl) (by kernel_rfl) rfl rfl rfl rfl rfl rfl rfl ?_
 refine DO.pure tab uC (by kernel_rfl) [8,9] (by kernel_rfl) rfl ?_
 refine DO.indexP (sz:=2) tab 10 a uC (by kernel_rfl) (by kernel_rfl) rfl rfl rfl rfl rfl rfl rfl rfl rfl (by omega) ?_
 refine DO.loadE (jj:=0) tab 11 0 rCh (gk_get (xs:=xs) (k:=a) (by omega)) (by simp only [rCh];omega) (fun _=>rfl) uC (by kernel_rfl) (by kernel_rfl) rfl rfl rfl rfl rfl rfl rfl ?_
 refine DO.indexP (sz:=2) tab 12 a uC (by kernel_rfl) (by kernel_rfl) rfl rfl rfl rfl rfl rfl rfl rfl rfl (by omega) ?_
 refine DO.tail ?_
 refine DOt.run 13 rfl rfl (by kernel_rfl) rfl ?_
 refine OT.storeE (h2:=gk xs p) tab 0 rCh (gk_get (xs:=xs) (k:=a) (by omega)) (j:=0) (by simp only [rCh];omega) (fun _=>rfl) (Nat.le_refl _) rfl rfl rfl rfl rfl rfl rfl ?_
 refine DOt.run 14 rfl rfl (by kernel_rfl) rfl ?_
 refine OT.indexP (sz:=2) tab p rfl rfl rfl rfl rfl rfl rfl (by omega) ?_
 refine DOt.run 15 rfl rfl (by kernel_rfl) rfl ?_
 refine OT.storeE (h2:=gk xs a) (h:=gk (List.set xs a (gk xs p)) p) tab 0 rCh (k:=p) (gk_get (by simp;omega)) (j:=0) (by simp only [rCh];omega) (fun _=>rfl) (Nat.le_refl _) rfl rfl rfl rfl rfl rfl rfl ?_
 refine DOt.nil (by kernel_rfl) ?_
 rotate_left 1
 have hS0 : Sg a b xs (sw xs a p):=Sg.sw (by omega) hp hl
 have hDs:=hD0.perm hS0.perm
 have hsl:=hS0.len
 refine uA ?_
 refine TO.step rfl (OT.arith (r':=((a + 1 : Nat) : Int)) rfl rfl rfl rfl rfl rfl rfl (by omega) ?_)
 refine uA ?_
 refine TO.step rfl (OT.arith (r':=((b - 1 : Nat) : Int)) rfl rfl rfl rfl rfl rfl (by omega) (by omega) ?_)
 refine uA ?_
 have hP : PeI ltC (sw xs a p) a b (a + 1) (b - 1) (sw xs a p):=PeI.start (a:=a) (b:=b) hab
 refine TC.loopK (ι:=Nat × Nat × List Ch) [0,1,4] rfl (fun x=>[(11, .int .i64 (x.1 : Int)),(12, .int .i64 (x.2.1 : Int))]) (fun _=>m) (fun x=>chR bd x.2.2 :: L) (fun x=>PeI ltC (sw xs a p) a b x.1 x.2.1 x.2.2) (fun x=>b + 1 + x.2.1 - x.1) (a + 1,b - 1,sw xs a p) uH rfl uS hP ?_
 clear hP
 rintro ⟨i,j,ws⟩ hP
 simp only at hP ⊢
 have hwl:=hP.seg.len
 have hD : DomC ws:=hDs.perm hP.seg.perm
 have hr0:=hP.rng
 refine uA ?_
 refine TC.loopK (ι:=Nat) [0,1,4,12] rfl (fun i=>[(11, .int .i64 (i : Int))]) (fun _=>m) (fun _=>chR bd ws :: L) (fun k=>i ≤ k∧PeI ltC (sw xs a p) a b k j ws) (fun k=>b + 1 - k) i uH rfl uS ⟨Nat.le_refl _,hP⟩ ?_
 clear hP
 obtain ⟨i0,hi0⟩ : ∃ i0,i0=i:=⟨_,rfl⟩
 rw [← hi0] at hr0 ⊢
 clear hi0
 rintro i ⟨hi0,hP⟩
 have hr:=hP.rng
 refine uA ?_
 refine TC.draw [] mixed 17 rfl [chR bd ws] L uP ?_
 refine DO.pure tab uC (by kernel_rfl) [0,1,2,3] (by kernel_rfl) rfl ?_
 (refine DO.splitP (d:=34) rfl (fun hg3 => ?_) (fun hg3 => ?_))
 refine DO.pure tab uC (by kernel_rfl) [4,5,6] (by kernel_rfl) rfl ?_
 refine DO.indexP (sz:=2) tab 7 a uC (by kernel_rfl) (by kernel_rfl) rfl rfl rfl rfl rfl rfl rfl rfl rfl (by omega) ?_
 refine DO.loadE (jj:=0) tab 8 0 rCh (gk_get (xs:=ws) (k:=a) (by omega)) (by simp only [rCh];omega) (fun _=>rfl) uC (by kernel_rfl) (by kernel_rfl) rfl rfl rfl rfl rfl rfl rfl ?_
 refine DO.pure tab uC (by kernel_rfl) [9,10] (by kernel_rfl) rfl ?_
 refine DO.indexP (sz:=2) tab 11 i uC (by kernel_rfl) (by kernel_rfl) rfl rfl rfl rfl rfl rfl rfl rfl rfl (by omega) ?_
 refine DO.loadE (jj:=0) tab 12 0 rCh (gk_get (xs:=ws) (k:=i) (by omega)) (by simp only [rCh];omega) (fun _=>rfl) uC (by kernel_rfl) (by kernel_rfl) rfl rfl rfl rfl rfl rfl rfl ?_
 refine DO.run 13 rfl rfl (by kernel_rfl) rfl (OT.call rfl rfl rfl rfl rfl rfl goes43 ((chcmp_law m _ (gk ws a) (gk ws i) (hD.gk (by omega)) (hD.gk (by omega))).x ?_))
 rintro _ _ _ ⟨rfl,rfl,rfl⟩;refine ⟨Mem.le_refl _,_,List.Perm.refl _, ?_⟩
 refine DO.pure tab uC (by kernel_rfl) [14,15,16] (by kernel_rfl) rfl ?_
 (refine DO.nil (by kernel_rfl) ?_)
 rotate_left 1
 refine DO.pure tab uC (by kernel_rfl) [4,5,6,7,8,9,10,11,12,13,14,15,16] (by kernel_rfl) rfl ?_
 (refine DO.nil (by kernel_rfl) ?_)
 rotate_left 1
 ·refine uA ?_
  simp only [ch_dec]
  cases hc1 : ltC (gk ws a) (gk ws i) with
  | false =>
   refine uA ?_
   refine TO.step rfl (OT.arith (r':=((i + 1 : Nat) : Int)) rfl rfl rfl rfl rfl rfl rfl (by omega) ?_)
   refine uA ?_
   exact ⟨i + 1,uH,uH,rfl,rfl,uS,⟨by omega,hP.left (by omega) hc1⟩,by omega⟩
  | true =>
   refine uA ?_
   refine TC.loopK (ι:=Nat) [0,1,4,11] rfl (fun j=>[(12, .int .i64 (j : Int))]) (fun _=>m) (fun _=>chR bd ws :: L) (fun j2=>j2 ≤ j∧PeI ltC (sw xs a p) a b i j2 ws) (fun j=>j) j uH rfl uS ⟨Nat.le_refl _,hP⟩ ?_
   rintro j2 ⟨hj2,hP2⟩
   have hr2:=hP2.rng
   refine uA ?_
   refine TC.draw [] mixed 16 rfl [chR bd ws] L uP ?_
   refine DO.pure tab uC (by kernel_rfl) [0,1,2,3] (by kernel_rfl) rfl ?_
   (refine DO.splitP (d:=53) rfl (fun hg3 => ?_) (fun hg3 => ?_))
   refine DO.pure tab uC (by kernel_rfl) [4,5,6] (by kernel_rfl) rfl ?_
   refine DO.indexP (sz:=2) tab 7 a uC (by kernel_rfl) (by kernel_rfl) rfl rfl rfl rfl rfl rfl rfl rfl rfl (by omega) ?_
   refine DO.loadE (jj:=0) tab 8 0 rCh (gk_get (xs:=ws) (k:=a) (by omega)) (by simp only [rCh];omega) (fun _=>rfl) uC (by kernel_rfl) (by kernel_rfl) rfl rfl rfl rfl rfl rfl rfl ?_
   refine DO.pure tab uC (by kernel_rfl) [9,10] (by kernel_rfl) rfl ?_
   refine DO.indexP (sz:=2) tab 11 j2 uC (by kernel_rfl) (by kernel_rfl) rfl rfl rfl rfl rfl rfl rfl rfl rfl (by omega) ?_
   refine DO.loadE (jj:=0) tab 12 0 rCh (gk_get (xs:=ws) (k:=j2) (by omega)) (by simp only [rCh];omega) (fun _=>rfl) uC (by kernel_rfl) (by kernel_rfl) rfl rfl rfl rfl rfl rfl rfl ?_
   refine DO.run 13 rfl rfl (by kernel_rfl) rfl (OT.call rfl rfl rfl rfl rfl rfl goes43 ((chcmp_law m _ (gk ws a) (gk ws j2) (hD.gk (by omega)) (hD.gk (by omega))).x ?_))
   rintro _ _ _ ⟨rfl,rfl,rfl⟩;refine ⟨Mem.le_refl _,_,List.Perm.refl _, ?_⟩
   refine DO.pure tab uC (by kernel_rfl) [14,15] (by kernel_rfl) rfl ?_
   (refine DO.nil (by kernel_rfl) ?_)
   rotate_left 1
   refine DO.pure tab uC (by kernel_rfl) [4,5,6,7,8,9,10,11,12,13,14,15] (by kernel_rfl) rfl ?_
   (refine DO.nil (by kernel_rfl) ?_)
   rotate_left 1
   ·refine uA ?_
    simp only [ch_dec]
    cases hc2 : ltC (gk ws a) (gk ws j2) with
    | true =>
     refine uA ?_
     refine TO.step rfl (OT.arith (r':=((j2 - 1 : Nat) : Int)) rfl rfl rfl rfl rfl rfl (by omega) (by omega) ?_)
     refine uA ?_
     exact ⟨j2 - 1,uH,uH,rfl,rfl,uS,⟨by omega,hP2.right (by omega) hc2⟩,by omega⟩
    | false =>
     refine uA ?_
     refine TC.condP rfl (fun hgt => ?_) (fun hgt => ?_)
     ·refine uA ?_
      refine retQ_ret rfl (L':=chR bd ws :: L) uS ⟨rfl,ws,i,j2,rfl,hP2,by omega,rfl⟩
     ·have hpair : ltC (gk ws a) (gk ws i)=true∧ltC (gk ws a) (gk ws j2)=false:=by
       constructor
       ·first | exact hc1 | (exfalso;omega)
       ·first | exact hc2 | (exfalso;omega)
      obtain ⟨hN,hlt⟩:=hP2.swap (by omega) (by omega) hpair.1 hpair.2
      refine uA ?_
      refine TC.draw [13,14,15] mixed 16 rfl [chR bd ws] L uP ?_
      refine DO.pure tab uC (by kernel_rfl) [0,1,2,3,4,5] (by kernel_rfl) rfl ?_
      refine DO.indexP (sz:=2) tab 6 j2 uC (by kernel_rfl) (by kernel_rfl) rfl rfl rfl rfl rfl rfl rfl rfl rfl (by omega) ?_
      refine DO.loadE (jj:=0) tab 7 0 rCh (gk_get (xs:=ws) (k:=j2) (by omega)) (by simp only [rCh];omega) (fun _=>rfl) uC (by kernel_rfl) (by kernel_rfl) rfl rfl rfl rfl rfl rfl rfl ?_
      refine DO.pure tab uC (by kernel_rfl) [8,9] (by kernel_rfl) rfl ?_
      refine DO.indexP (sz:=2) tab 10 i uC (by kernel_rfl) (by kernel_rfl) rfl rfl rfl rfl rfl rfl rfl rfl rfl (by omega) ?_
      refine DO.loadE (jj:=0) tab 11 0 rCh (gk_get (xs:=ws) (k:=i) (by omega)) (by simp only [rCh];omega) (fun _=>rfl) uC (by kernel_rfl) (by kernel_rfl) rfl rfl rfl rfl rfl rfl rfl ?_
      refine DO.indexP (sz:=2) tab 12 i uC (by kernel_rfl) (by kernel_rfl) rfl rfl rfl rfl rfl rfl rfl rfl rfl (by omega) ?_
      refine DO.tail ?_
      refine DOt.run 13 rfl rfl (by kernel_rfl) rfl ?_
      refine OT.storeE (h2:=gk ws j2) tab 0 rCh (gk_get (xs:=ws) (k:=i) (by omega)) (j:=0) (by simp only [rCh];omega) (fun _=>rfl) (Nat.le_refl _) rfl rfl rfl rfl rfl rfl rfl ?_
      refine DOt.run 14 rfl rfl (by kernel_rfl) rfl ?_
      refine OT.indexP (sz:=2) tab j2 rfl rfl rfl rfl rfl rfl rfl (by omega) ?_
      refine DOt.run 15 rfl rfl (by kernel_rfl) rfl ?_
      refine OT.storeE (h2:=gk ws i) (h:=gk (List.set ws i (gk ws j2)) j2) tab 0 rCh (k:=j2) (gk_get (by simp;omega)) (j:=0) (by simp only [rCh];omega) (fun _=>rfl) (Nat.le_refl _) rfl rfl rfl rfl rfl rfl rfl ?_
      refine DOt.nil (by kernel_rfl) ?_
      rotate_left 1
      refine uA ?_
      refine TO.step rfl (OT.arith (r':=((i + 1 : Nat) : Int)) rfl rfl rfl rfl rfl rfl rfl (by omega) ?_)
      refine uA ?_
      refine TO.step rfl (OT.arith (r':=((j2 - 1 : Nat) : Int)) rfl rfl rfl rfl rfl rfl (by omega) (by omega) ?_)
      refine uA ?_
      exact ⟨(i + 1,j2 - 1,sw ws i j2),uH,uH,rfl,rfl,uS,hN,by simp only;omega⟩
   ·have hc2 : j2 < i:=by omega
    refine uA ?_
    refine TC.condP rfl (fun hgt => ?_) (fun hgt => ?_)
    ·refine uA ?_
     refine retQ_ret rfl (L':=chR bd ws :: L) uS ⟨rfl,ws,i,j2,rfl,hP2,by omega,rfl⟩
    ·have hpair : ltC (gk ws a) (gk ws i)=true∧ltC (gk ws a) (gk ws j2)=false:=by
      constructor
      ·first | exact hc1 | (exfalso;omega)
      ·first | exact hc2 | (exfalso;omega)
     obtain ⟨hN,hlt⟩:=hP2.swap (by omega) (by omega) hpair.1 hpair.2
     refine uA ?_
     refine TC.draw [13,14,15] mixed 16 rfl [chR bd ws] L uP ?_
     refine DO.pure tab uC (by kernel_rfl) [0,1,2,3,4,5] (by kernel_rfl) rfl ?_
     refine DO.indexP (sz:=2) tab 6 j2 uC (by kernel_rfl) (by kernel_rfl) rfl rfl rfl rfl rfl rfl rfl rfl rfl (by omega) ?_
     refine DO.loadE (jj:=0) tab 7 0 rCh (gk_get (xs:=ws) (k:=j2) (by omega)) (by simp only [rCh];omega) (fun _=>rfl) uC (by kernel_rfl) (by kernel_rfl) rfl rfl rfl rfl rfl rfl rfl ?_
     refine DO.pure tab uC (by kernel_rfl) [8,9] (by kernel_rfl) rfl ?_
     refine DO.indexP (sz:=2) tab 10 i uC (by kernel_rfl) (by kernel_rfl) rfl rfl rfl rfl rfl rfl rfl rfl rfl (by omega) ?_
     refine DO.loadE (jj:=0) tab 11 0 rCh (gk_get (xs:=ws) (k:=i) (by omega)) (by simp only [rCh];omega) (fun _=>rfl) uC (by kernel_rfl) (by kernel_rfl) rfl rfl rfl rfl rfl rfl rfl ?_
     refine DO.indexP (sz:=2) tab 12 i uC (by kernel_rfl) (by kernel_rfl) rfl rfl rfl rfl rfl rfl rfl rfl rfl (by omega) ?_
     refine DO.tail ?_
     refine DOt.run 13 rfl rfl (by kernel_rfl) rfl ?_
     refine OT.storeE (h2:=gk ws j2) tab 0 rCh (gk_get (xs:=ws) (k:=i) (by omega)) (j:=0) (by simp only [rCh];omega) (fun _=>rfl) (Nat.le_refl _) rfl rfl rfl rfl rfl rfl rfl ?_
     refine DOt.run 14 rfl rfl (by kernel_rfl) rfl ?_
     refine OT.indexP (sz:=2) tab j2 rfl rfl rfl rfl rfl rfl rfl (by omega) ?_
     refine DOt.run 15 rfl rfl (by kernel_rfl) rfl ?_
     refine OT.storeE (h2:=gk ws i) (h:=gk (List.set ws i (gk ws j2)) j2) tab 0 rCh (k:=j2) (gk_get (by simp;omega)) (j:=0) (by simp only [rCh];omega) (fun _=>rfl) (Nat.le_refl _) rfl rfl rfl rfl rfl rfl rfl ?_
     refine DOt.nil (by kernel_rfl) ?_
     rotate_left 1
     refine uA ?_
     refine TO.step rfl (OT.arith (r':=((i + 1 : Nat) : Int)) rfl rfl rfl rfl rfl rfl rfl (by omega) ?_)
     refine uA ?_
     refine TO.step rfl (OT.arith (r':=((j2 - 1 : Nat) : Int)) rfl rfl rfl rfl rfl rfl (by omega) (by omega) ?_)
     refine uA ?_
     exact ⟨(i + 1,j2 - 1,sw ws i j2),uH,uH,rfl,rfl,uS,hN,by simp only;omega⟩
 ·have hc1 : j < i:=by omega
  refine uA ?_
  refine TC.loopK (ι:=Nat) [0,1,4,11] rfl (fun j=>[(12, .int .i64 (j : Int))]) (fun _=>m) (fun _=>chR bd ws :: L) (fun j2=>j2 ≤ j∧PeI ltC (sw xs a p) a b i j2 ws) (fun j=>j) j uH rfl uS ⟨Nat.le_refl _,hP⟩ ?_
  rintro j2 ⟨hj2,hP2⟩
  have hr2:=hP2.rng
  refine uA ?_
  refine TC.draw [] mixed 16 rfl [chR bd ws] L uP ?_
  refine DO.pure tab uC (by kernel_rfl) [0,1,2,3] (by kernel_rfl) rfl ?_
  (refine DO.splitP (d:=53) rfl (fun hg3 => ?_) (fun hg3 => ?_))
  refine DO.pure tab uC (by kernel_rfl) [4,5,6] (by kernel_rfl) rfl ?_
  refine DO.indexP (sz:=2) tab 7 a uC (by kernel_rfl) (by kernel_rfl) rfl rfl rfl rfl rfl rfl rfl rfl rfl (by omega) ?_
  refine DO.loadE (jj:=0) tab 8 0 rCh (gk_get (xs:=ws) (k:=a) (by omega)) (by simp only [rCh];omega) (fun _=>rfl) uC (by kernel_rfl) (by kernel_rfl) rfl rfl rfl rfl rfl rfl rfl ?_
  refine DO.pure tab uC (by kernel_rfl) [9,10] (by kernel_rfl) rfl ?_
  refine DO.indexP (sz:=2) tab 11 j2 uC (by kernel_rfl) (by kernel_rfl) rfl rfl rfl rfl rfl rfl rfl rfl rfl (by omega) ?_
  refine DO.loadE (jj:=0) tab 12 0 rCh (gk_get (xs:=ws) (k:=j2) (by omega)) (by simp only [rCh];omega) (fun _=>rfl) uC (by kernel_rfl) (by kernel_rfl) rfl rfl rfl rfl rfl rfl rfl ?_
  refine DO.run 13 rfl rfl (by kernel_rfl) rfl (OT.call rfl rfl rfl rfl rfl rfl goes43 ((chcmp_law m _ (gk ws a) (gk ws j2) (hD.gk (by omega)) (hD.gk (by omega))).x ?_))
  rintro _ _ _ ⟨rfl,rfl,rfl⟩;refine ⟨Mem.le_refl _,_,List.Perm.refl _, ?_⟩
  refine DO.pure tab uC (by kernel_rfl) [14,15] (by kernel_rfl) rfl ?_
  (refine DO.nil (by kernel_rfl) ?_)
  rotate_left 1
  refine DO.pure tab uC (by kernel_rfl) [4,5,6,7,8,9,10,11,12,13,14,15] (by kernel_rfl) rfl ?_
  (refine DO.nil (by kernel_rfl) ?_)
  rotate_left 1
  ·refine uA ?_
   simp only [ch_dec]
   cases hc2 : ltC (gk ws a) (gk ws j2) with
   | true =>
    refine uA ?_
    refine TO.step rfl (OT.arith (r':=((j2 - 1 : Nat) : Int)) rfl rfl rfl rfl rfl rfl (by omega) (by omega) ?_)
    refine uA ?_
    exact ⟨j2 - 1,uH,uH,rfl,rfl,uS,⟨by omega,hP2.right (by omega) hc2⟩,by omega⟩
   | false =>
    refine uA ?_
    refine TC.condP rfl (fun hgt => ?_) (fun hgt => ?_)
    ·refine uA ?_
     refine retQ_ret rfl (L':=chR bd ws :: L) uS ⟨rfl,ws,i,j2,rfl,hP2,by omega,rfl⟩
    ·have hpair : ltC (gk ws a) (gk ws i)=true∧ltC (gk ws a) (gk ws j2)=false:=by
      constructor
      ·first | exact hc1 | (exfalso;omega)
      ·first | exact hc2 | (exfalso;omega)
     obtain ⟨hN,hlt⟩:=hP2.swap (by omega) (by omega) hpair.1 hpair.2
     refine uA ?_
     refine TC.draw [13,14,15] mixed 16 rfl [chR bd ws] L uP ?_
     refine DO.pure tab uC (by kernel_rfl) [0,1,2,3,4,5] (by kernel_rfl) rfl ?_
     refine DO.indexP (sz:=2) tab 6 j2 uC (by kernel_rfl) (by kernel_rfl) rfl rfl rfl rfl rfl rfl rfl rfl rfl (by omega) ?_
     refine DO.loadE (jj:=0) tab 7 0 rCh (gk_get (xs:=ws) (k:=j2) (by omega)) (by simp only [rCh];omega) (fun _=>rfl) uC (by kernel_rfl) (by kernel_rfl) rfl rfl rfl rfl rfl rfl rfl ?_
     refine DO.pure tab uC (by kernel_rfl) [8,9] (by kernel_rfl) rfl ?_
     refine DO.indexP (sz:=2) tab 10 i uC (by kernel_rfl) (by kernel_rfl) rfl rfl rfl rfl rfl rfl rfl rfl rfl (by omega) ?_
     refine DO.loadE (jj:=0) tab 11 0 rCh (gk_get (xs:=ws) (k:=i) (by omega)) (by simp only [rCh];omega) (fun _=>rfl) uC (by kernel_rfl) (by kernel_rfl) rfl rfl rfl rfl rfl rfl rfl ?_
     refine DO.indexP (sz:=2) tab 12 i uC (by kernel_rfl) (by kernel_rfl) rfl rfl rfl rfl rfl rfl rfl rfl rfl (by omega) ?_
     refine DO.tail ?_
     refine DOt.run 13 rfl rfl (by kernel_rfl) rfl ?_
     refine OT.storeE (h2:=gk ws j2) tab 0 rCh (gk_get (xs:=ws) (k:=i) (by omega)) (j:=0) (by simp only [rCh];omega) (fun _=>rfl) (Nat.le_refl _) rfl rfl rfl rfl rfl rfl rfl ?_
     refine DOt.run 14 rfl rfl (by kernel_rfl) rfl ?_
     refine OT.indexP (sz:=2) tab j2 rfl rfl rfl rfl rfl rfl rfl (by omega) ?_
     refine DOt.run 15 rfl rfl (by kernel_rfl) rfl ?_
     refine OT.storeE (h2:=gk ws i) (h:=gk (List.set ws i (gk ws j2)) j2) tab 0 rCh (k:=j2) (gk_get (by simp;omega)) (j:=0) (by simp only [rCh];omega) (fun _=>rfl) (Nat.le_refl _) rfl rfl rfl rfl rfl rfl rfl ?_
     refine DOt.nil (by kernel_rfl) ?_
     rotate_left 1
     refine uA ?_
     refine TO.step rfl (OT.arith (r':=((i + 1 : Nat) : Int)) rfl rfl rfl rfl rfl rfl rfl (by omega) ?_)
     refine uA ?_
     refine TO.step rfl (OT.arith (r':=((j2 - 1 : Nat) : Int)) rfl rfl rfl rfl rfl rfl (by omega) (by omega) ?_)
     refine uA ?_
     exact ⟨(i + 1,j2 - 1,sw ws i j2),uH,uH,rfl,rfl,uS,hN,by simp only;omega⟩
  ·have hc2 : j2 < i:=by omega
   refine uA ?_
   refine TC.condP rfl (fun hgt => ?_) (fun hgt => ?_)
   ·refine uA ?_
    refine retQ_ret rfl (L':=chR bd ws :: L) uS ⟨rfl,ws,i,j2,rfl,hP2,by omega,rfl⟩
   ·have hpair : ltC (gk ws a) (gk ws i)=true∧ltC (gk ws a) (gk ws j2)=false:=by
     constructor
     ·first | exact hc1 | (exfalso;omega)
     ·first | exact hc2 | (exfalso;omega)
    obtain ⟨hN,hlt⟩:=hP2.swap (by omega) (by omega) hpair.1 hpair.2
    refine uA ?_
    refine TC.draw [13,14,15] mixed 16 rfl [chR bd ws] L uP ?_
    refine DO.pure tab uC (by kernel_rfl) [0,1,2,3,4,5] (by kernel_rfl) rfl ?_
    refine DO.indexP (sz:=2) tab 6 j2 uC (by kernel_rfl) (by kernel_rfl) rfl rfl rfl rfl rfl rfl rfl rfl rfl (by omega) ?_
    refine DO.loadE (jj:=0) tab 7 0 rCh (gk_get (xs:=ws) (k:=j2) (by omega)) (by simp only [rCh];omega) (fun _=>rfl) uC (by kernel_rfl) (by kernel_rfl) rfl rfl rfl rfl rfl rfl rfl ?_
    refine DO.pure tab uC (by kernel_rfl) [8,9] (by kernel_rfl) rfl ?_
    refine DO.indexP (sz:=2) tab 10 i uC (by kernel_rfl) (by kernel_rfl) rfl rfl rfl rfl rfl rfl rfl rfl rfl (by omega) ?_
    refine DO.loadE (jj:=0) tab 11 0 rCh (gk_get (xs:=ws) (k:=i) (by omega)) (by simp only [rCh];omega) (fun _=>rfl) uC (by kernel_rfl) (by kernel_rfl) rfl rfl rfl rfl rfl rfl rfl ?_
    refine DO.indexP (sz:=2) tab 12 i uC (by kernel_rfl) (by kernel_rfl) rfl rfl rfl rfl rfl rfl rfl rfl rfl (by omega) ?_
    refine DO.tail ?_
    refine DOt.run 13 rfl rfl (by kernel_rfl) rfl ?_
    refine OT.storeE (h2:=gk ws j2) tab 0 rCh (gk_get (xs:=ws) (k:=i) (by omega)) (j:=0) (by simp only [rCh];omega) (fun _=>rfl) (Nat.le_refl _) rfl rfl rfl rfl rfl rfl rfl ?_
    refine DOt.run 14 rfl rfl (by kernel_rfl) rfl ?_
    refine OT.indexP (sz:=2) tab j2 rfl rfl rfl rfl rfl rfl rfl (by omega) ?_
    refine DOt.run 15 rfl rfl (by kernel_rfl) rfl ?_
    refine OT.storeE (h2:=gk ws i) (h:=gk (List.set ws i (gk ws j2)) j2) tab 0 rCh (k:=j2) (gk_get (by simp;omega)) (j:=0) (by simp only [rCh];omega) (fun _=>rfl) (Nat.le_refl _) rfl rfl rfl rfl rfl rfl rfl ?_
    refine DOt.nil (by kernel_rfl) ?_
    rotate_left 1
    refine uA ?_
    refine TO.step rfl (OT.arith (r':=((i + 1 : Nat) : Int)) rfl rfl rfl rfl rfl rfl rfl (by omega) ?_)
    refine uA ?_
    refine TO.step rfl (OT.arith (r':=((j2 - 1 : Nat) : Int)) rfl rfl rfl rfl rfl rfl (by omega) (by omega) ?_)
    refine uA ?_
    exact ⟨(i + 1,j2 - 1,sw ws i j2),uH,uH,rfl,rfl,uS,hN,by simp only;omega⟩
end Go.Sep
set_option linter.unusedVariables false
set_option linter.unusedSimpArgs false
namespace Go.Sep
open Go.Proofs
attribute [local irreducible] TC TO OT TCallX TCall DO DOt thenQ blockQ retQ At
set_option maxHeartbeats 4000000 in
theorem partial_ch (m : Mem) (L : List Item) (bd c a b : Nat) (xs : List Ch) (hD0 : DomC xs) (hab : a < b) (hl : b ≤ xs.length) (hlim : xs.length ≤ 1000000) (hL : Low ltC xs a b) :
  TCall Tryz.prog 140 ⟨[.slice (some ⟨bd,0,none⟩) xs.length c, .int .i64 (a : Int), .int .i64 (b : Int),chF]⟩ m (chR bd xs :: L) (fun r m' L'=>m=m' ∧ ∃ ys bv,r = .bool bv∧Sg a b xs ys∧(bv=true→Sn ltC ys a b)∧chR bd ys :: L=L'):=by
 unfold TCall
 refine TCallX.enter Tryz.func140 rfl 141 rfl ?_
 refine uA ?_
 refine TO.step rfl (OT.arith (r':=((a + 1 : Nat) : Int)) rfl rfl rfl rfl rfl rfl rfl (by omega) ?_)
 refine uA ?_
 refine TC.loopK (ι:=Nat × Nat × List Ch) [0,1,2,3] rfl (fun x=>[(10, .int .i64 (x.1 : Int)),(9, .int .i64 (x.2.1 : Int))]) (fun _=>m) (fun x=>chR bd x.2.2 :: L) (fun x=>x.1 ≤ 5∧a + 1 ≤ x.2.1∧x.2.1 ≤ b∧Sg a b xs x.2.2∧Sn ltC x.2.2 a x.2.1) (fun x=>5 - x.1) (0,a + 1,xs) uH rfl uS ⟨by simp only;omega,Nat.le_refl _,by simp only;omega,Sg.refl _ _ _,fun i j h1 h2 h3=>by simp only at h3;omega⟩ ?_
 rintro ⟨q,i,ys⟩ ⟨hq,hi0,hi1,hS,hO⟩
 simp only at hq hi0 hi1 hS hO ⊢
 have hyl:=hS.len
 refine uA ?_
 refine TC.condP rfl (fun hq5 => ?_) (fun hq5 => ?_)
 ·have hD : DomC ys:=hD0.perm hS.perm
  refine uB ?_
  refine TC.block ?_
  refine uB ?_
  refine TC.cutT (ι:=Nat) [0,1,2,3,10] rfl (fun k=>[(9, .int .i64 (k : Int))]) (fun _=>m) (fun _=>chR bd ys :: L) (fun k=>a + 1 ≤ k∧k ≤ b∧Sn ltC ys a k∧(k < b→ltC (gk ys k) (gk ys (k - 1))=true)) ?_ (fun k hk => ?_)
  ·refine uA ?_
   refine TC.loopK (ι:=Nat) [0,1,2,3,10] rfl (fun k=>[(9, .int .i64 (k : Int))]) (fun _=>m) (fun _=>chR bd ys :: L) (fun k=>a + 1 ≤ k∧k ≤ b∧Sn ltC ys a k) (fun k=>b - k) i uH rfl uS ⟨hi0,hi1,hO⟩ ?_
   clear hi0 hi1 hO
   rintro i ⟨hi0,hi1,hO⟩
   refine uA ?_
   refine TC.draw [] mixed 18 rfl [chR bd ys] L uP ?_
   refine DO.pure tab uC (by kernel_rfl) [0,1,2,3] (by kernel_rfl) rfl ?_
   (refine DO.splitP (d:=22) rfl (fun hg3 => ?_) (fun hg3 => ?_))
   refine DO.pure tab uC (by kernel_rfl) [4,5,6] (by kernel_rfl) rfl ?_
   refine DO.indexP (sz:=2) tab 7 i uC (by kernel_rfl) (by kernel_rfl) rfl rfl rfl rfl rfl rfl rfl rfl rfl (by omega) ?_
   refine DO.loadE (jj:=0) tab 8 0 rCh (gk_get (xs:=ys) (k:=i) (by omega)) (by simp only [rCh];omega) (fun _=>rfl) uC (by kernel_rfl) (by kernel_rfl) rfl rfl rfl rfl rfl rfl rfl ?_
   refine DO.pure tab uC (by kernel_rfl) [9,10] (by kernel_rfl) rfl ?_
   refine DO.arith 11 (r':=(((i - 1) : Nat) : Int)) uC (by kernel_rfl) (by kernel_rfl) rfl rfl rfl rfl rfl rfl rfl rfl (by first | rfl | omega | (simp only;omega)) (by omega) ?_
   refine DO.indexP (sz:=2) tab 12 (i - 1) uC (by kernel_rfl) (by kernel_rfl) rfl rfl rfl rfl rfl rfl rfl rfl rfl (by omega) ?_
   refine DO.loadE (jj:=0) tab 13 0 rCh (gk_get (xs:=ys) (k:=(i - 1)) (by omega)) (by simp only [rCh];omega) (fun _=>rfl) uC (by kernel_rfl) (by kernel_rfl) rfl rfl rfl rfl rfl rfl rfl ?_
   refine DO.run 14 rfl rfl (by kernel_rfl) rfl (OT.call rfl rfl rfl rfl rfl rfl goes43 ((chcmp_law m _ (gk ys i) (gk ys (i - 1)) (hD.gk (by omega)) (hD.gk (by omega))).x ?_))
   rintro _ _ _ ⟨rfl,rfl,rfl⟩;refine ⟨Mem.le_refl _,_,List.Perm.refl _, ?_⟩
   refine DO.pure tab uC (by kernel_rfl) [15,16,17] (by kernel_rfl) rfl ?_
   (refine DO.nil (by kernel_rfl) ?_)
   rotate_left 1
   refine DO.pure tab uC (by kernel_rfl) [4,5,6,7,8,9,10,11,12,13,14,15,16,17] (by kernel_rfl) rfl ?_
   (refine DO.nil (by kernel_rfl) ?_)
   rotate_left 1
   ·refine uA ?_
    simp only [ch_dec]
    cases hc : ltC (gk ys i) (gk ys (i - 1)) with
    | false =>
     refine uA ?_
     refine TO.step rfl (OT.arith (r':=((i + 1 : Nat) : Int)) rfl rfl rfl rfl rfl rfl rfl (by omega) ?_)
     refine uA ?_
     refine ⟨i + 1,uH,uH,rfl,rfl,uS,⟨by omega,by omega,fun s t h1 h2 h3 => ?_⟩,by omega⟩
     by_cases e : t=i
     ·by_cases e2 : s=i - 1
      ·rw [e,e2];exact hc
      ·rw [e];exact ltC_ord.trans _ _ _ (hO s (i - 1) h1 (by omega) (by omega)) hc
     ·exact hO s t h1 h2 (by omega)
    | true =>
     refine uA ?_
     exact ⟨i,uH,uH,rfl,rfl,uS,hi0,hi1,hO,fun _=>hc⟩
   ·refine uA ?_
    exact ⟨i,uH,uH,rfl,rfl,uS,hi0,hi1,hO,fun h=>by omega⟩
  ·clear hi0 hi1 hO
   obtain ⟨i,hki⟩ : ∃ i,i=k:=⟨_,rfl⟩
   rw [← hki] at hk ⊢
   clear hki
   obtain ⟨hi0,hi1,hO,hlt⟩:=hk
   refine uA ?_
   refine TC.condP rfl (fun heq => ?_) (fun heq => ?_)
   ·refine uA ?_
    refine retQ_ret rfl (L':=chR bd ys :: L) uS ⟨rfl,ys,true,rfl,hS,fun _ => ?_,rfl⟩
    have : i=b:=by omega
    rw [this] at hO;exact hO
   ·refine uA ?_
    refine TO.step rfl (OT.arith (r':=((b - a : Nat) : Int)) rfl rfl rfl rfl rfl rfl (by omega) (by omega) ?_)
    refine uN ?_
    refine TC.condP rfl (fun hsh => ?_) (fun hsh => ?_)
    ·refine uA ?_
     refine retQ_ret rfl (L':=chR bd ys :: L) uS ⟨rfl,ys,false,rfl,hS,(fun h=>by cases h),rfl⟩
    ·refine uA ?_
     refine TC.draw [15,16,17] mixed 18 rfl [chR bd ys] L uP ?_
     refine DO.pure tab uC (by kernel_rfl) [0,1,2,3] (by kernel_rfl) rfl ?_
     refine DO.arith 4 (r':=(((i - 1) : Nat) : Int)) uC (by kernel_rfl) (by kernel_rfl) rfl rfl rfl rfl rfl rfl rfl rfl (by first | rfl | omega | (simp only;omega)) (by omega) ?_
     refine DO.pure tab uC (by kernel_rfl) [5,6] (by kernel_rfl) rfl ?_
     refine DO.arith 7 (r':=(((i - 1) : Nat) : Int)) uC (by kernel_rfl) (by kernel_rfl) rfl rfl rfl rfl rfl rfl rfl rfl (by first | rfl | omega | (simp only;omega)) (by omega) ?_
     refine DO.indexP (sz:=2) tab 8 (i - 1) uC (by kernel_rfl) (by kernel_rfl) rfl rfl rfl rfl rfl rfl rfl rfl rfl (by omega) ?_
     refine DO.loadE (jj:=0) tab 9 0 rCh (gk_get (xs:=ys) (k:=(i - 1)) (by omega)) (by simp only [rCh];omega) (fun _=>rfl) uC (by kernel_rfl) (by kernel_rfl) rfl rfl rfl rfl rfl rfl rfl ?_
     refine DO.pure tab uC (by kernel_rfl) [10,11] (by kernel_rfl) rfl ?_
     refine DO.indexP (sz:=2) tab 12 i uC (by kernel_rfl) (by kernel_rfl) rfl rfl rfl rfl rfl rfl rfl rfl rfl (by omega) ?_
     refine DO.loadE (jj:=0) tab 13 0 rCh (gk_get (xs:=ys) (k:=i) (by omega)) (by simp only [rCh];omega) (fun _=>rfl) uC (by kernel_rfl) (by kernel_rfl) rfl rfl rfl rfl rfl rfl rfl ?_
     refine DO.indexP (sz:=2) tab 14 i uC (by kernel_rfl) (by kernel_rfl) rfl rfl rfl rfl rfl rfl rfl rfl rfl (by omega) ?_
     refine DO.tail ?_
     refine DOt.run 15 rfl rfl (by kernel_rfl) rfl ?_
     refine OT.storeE (h2:=gk ys (i - 1)) tab 0 rCh (gk_get (xs:=ys) (k:=i) (by omega)) (j:=0) (by simp only [rCh];omega) (fun _=>rfl) (Nat.le_refl _) rfl rfl rfl rfl rfl rfl rfl ?_
     refine DOt.run 16 rfl rfl (by kernel_rfl) rfl ?_
     refine OT.indexP (sz:=2) tab (i - 1) rfl rfl rfl rfl rfl rfl rfl (by omega) ?_
     refine DOt.run 17 rfl rfl (by kernel_rfl) rfl ?_
     refine OT.storeE (h2:=gk ys i) (h:=gk (List.set ys i (gk ys (i - 1))) (i - 1)) tab 0 rCh (k:=(i - 1)) (gk_get (by simp;omega)) (j:=0) (by simp only [rCh];omega) (fun _=>rfl) (Nat.le_refl _) rfl rfl rfl rfl rfl rfl rfl ?_
     refine DOt.nil (by kernel_rfl) ?_
     rotate_left 1
     have hlt:=hlt (by omega)
     obtain ⟨zs,hzs⟩ : ∃ zs,zs=sw ys i (i - 1):=⟨_,rfl⟩
     have hSz0 : Sg a b ys zs:=by rw [hzs];exact Sg.sw (by omega) (by omega) (by omega)
     have hSz : Sg a b xs zs:=hS.trans hSz0
     have hOz : Sn ltC zs a (i - 1):=by
      refine Sn.of (fun s t h1 h2 h3=>hO s t h1 h2 (by omega)) fun t h1 h2 => ?_
      rw [hzs,gk_sw (by omega) (by omega),if_neg (by omega),if_neg (by omega)]
     have hzl:=hSz.len
     have hDz : DomC zs:=hD0.perm hSz.perm
     have hLz : Low ltC zs a b:=hL.seg hSz
     refine thenQ_n ?_
     refine TC.drop (L':=chR bd (sw ys i (i - 1)) :: L) uS ?_
     rw [← hzs]
     refine uA ?_
     refine TO.step rfl (OT.arith (r':=((i - a : Nat) : Int)) rfl rfl rfl rfl rfl rfl (by omega) (by omega) ?_)
     refine uN ?_
     refine TC.cutT (ι:=List Ch) [0,1,2,3,9,10] rfl (fun us=>[]) (fun _=>m) (fun us=>chR bd us :: L) (fun ws=>Sg a b xs ws∧Sn ltC ws a i) ?_ (fun ws hws => ?_)
     ·refine TC.condP rfl (fun hge => ?_) (fun hge => ?_)
      ·refine uA ?_
       refine TO.step rfl (OT.arith (r':=((i - 1 : Nat) : Int)) rfl rfl rfl rfl rfl rfl (by omega) (by omega) ?_)
       refine uA ?_
       refine TC.loopK (ι:=Nat × List Ch) [0,1,2,3,9,10] rfl (fun x=>[(11, .int .i64 (x.1 : Int))]) (fun _=>m) (fun x=>chR bd x.2 :: L) (fun x=>CaI ltC zs a (i - 1) x.1 x.2) (fun x=>x.1) (i - 1,zs) uH rfl uS (CaI.start (by omega)) ?_
       rintro ⟨j,ws⟩ hJ
       simp only at hJ ⊢
       have hwl:=hJ.seg.len
       have hjl:=hJ.le
       have hD : DomC ws:=hDz.perm hJ.seg.perm
       have hLw : Low ltC ws a b:=hLz.seg (hJ.seg.mono (Nat.le_refl _) (by omega))
       refine uA ?_
       refine TC.condP rfl (fun hj1 => ?_) (fun hj1 => ?_)
       ·refine uA ?_
        refine TC.draw [] mixed 13 rfl [chR bd ws] L uP ?_
        refine DO.pure tab uC (by kernel_rfl) [0,1,2] (by kernel_rfl) rfl ?_
        refine DO.indexP (sz:=2) tab 3 j uC (by kernel_rfl) (by kernel_rfl) rfl rfl rfl rfl rfl rfl rfl rfl rfl (by omega) ?_
        refine DO.loadE (jj:=0) tab 4 0 rCh (gk_get (xs:=ws) (k:=j) (by omega)) (by simp only [rCh];omega) (fun _=>rfl) uC (by kernel_rfl) (by kernel_rfl) rfl rfl rfl rfl rfl rfl rfl ?_
        refine DO.pure tab uC (by kernel_rfl) [5,6] (by kernel_rfl) rfl ?_
        refine DO.arith 7 (r':=(((j - 1) : Nat) : Int)) uC (by kernel_rfl) (by kernel_rfl) rfl rfl rfl rfl rfl rfl rfl rfl (by first | rfl | omega | (simp only;omega)) (by omega) ?_
        refine DO.indexP (sz:=2) tab 8 (j - 1) uC (by kernel_rfl) (by kernel_rfl) rfl rfl rfl rfl rfl rfl rfl rfl rfl (by omega) ?_
        refine DO.loadE (jj:=0) tab 9 0 rCh (gk_get (xs:=ws) (k:=(j - 1)) (by omega)) (by simp only [rCh];omega) (fun _=>rfl) uC (by kernel_rfl) (by kernel_rfl) rfl rfl rfl rfl rfl rfl rfl ?_
        refine DO.run 10 rfl rfl (by kernel_rfl) rfl (OT.call rfl rfl rfl rfl rfl rfl goes43 ((chcmp_law m _ (gk ws j) (gk ws (j - 1)) (hD.gk (by omega)) (hD.gk (by omega))).x ?_))
        rintro _ _ _ ⟨rfl,rfl,rfl⟩;refine ⟨Mem.le_refl _,_,List.Perm.refl _, ?_⟩
        refine DO.pure tab uC (by kernel_rfl) [11,12] (by kernel_rfl) rfl ?_
        (refine DO.nil (by kernel_rfl) ?_)
        rotate_left 1
        refine uA ?_
        simp only [ch_dec]
        cases hc : ltC (gk ws j) (gk ws (j - 1)) with
        | true =>
         have hja : a < j:=by
          rcases Nat.lt_or_ge a j with h | h
          ·exact h
          ·have e : j=a:=by omega
           have:=hLw (by omega) j (by omega) (by omega)
           rw [← e,hc] at this;cases this
         refine uA ?_
         refine TC.draw [15,16,17] mixed 18 rfl [chR bd ws] L uP ?_
         refine DO.pure tab uC (by kernel_rfl) [0,1,2,3] (by kernel_rfl) rfl ?_
         refine DO.arith 4 (r':=(((j - 1) : Nat) : Int)) uC (by kernel_rfl) (by kernel_rfl) rfl rfl rfl rfl rfl rfl rfl rfl (by first | rfl | omega | (simp only;omega)) (by omega) ?_
         refine DO.pure tab uC (by kernel_rfl) [5,6] (by kernel_rfl) rfl ?_
         refine DO.arith 7 (r':=(((j - 1) : Nat) : Int)) uC (by kernel_rfl) (by kernel_rfl) rfl rfl rfl rfl rfl rfl rfl rfl (by first | rfl | omega | (simp only;omega)) (by omega) ?_
         refine DO.indexP (sz:=2) tab 8 (j - 1) uC (by kernel_rfl) (by kernel_rfl) rfl rfl rfl rfl rfl rfl rfl rfl rfl (by omega) ?_
         refine DO.loadE (jj:=0) tab 9 0 rCh (gk_get (xs:=ws) (k:=(j - 1)) (by omega)) (by simp only [rCh];omega) (fun _=>rfl) uC (by kernel_rfl) (by kernel_rfl) rfl rfl rfl rfl rfl rfl rfl ?_
         refine DO.pure tab uC (by kernel_rfl) [10,11] (by kernel_rfl) rfl ?_
         refine DO.indexP (sz:=2) tab 12 j uC (by kernel_rfl) (by kernel_rfl) rfl rfl rfl rfl rfl rfl rfl rfl rfl (by omega) ?_
         refine DO.loadE (jj:=0) tab 13 0 rCh (gk_get (xs:=ws) (k:=j) (by omega)) (by simp only [rCh];omega) (fun _=>rfl) uC (by kernel_rfl) (by kernel_rfl) rfl rfl rfl rfl rfl rfl rfl ?_
         refine DO.indexP (sz:=2) tab 14 j uC (by kernel_rfl) (by kernel_rfl) rfl rfl rfl rfl rfl rfl rfl rfl rfl (by omega) ?_
         refine DO.tail ?_
         refine DOt.run 15 rfl rfl (by kernel_rfl) rfl ?_
         refine OT.storeE (h2:=gk ws (j - 1)) tab 0 rCh (gk_get (xs:=ws) (k:=j) (by omega)) (j:=0) (by simp only [rCh];omega) (fun _=>rfl) (Nat.le_refl _) rfl rfl rfl rfl rfl rfl rfl ?_
         refine DOt.run 16 rfl rfl (by kernel_rfl) rfl ?_
         refine OT.indexP (sz:=2) tab (j - 1) rfl rfl rfl rfl rfl rfl rfl (by omega) ?_
         refine DOt.run 17 rfl rfl (by kernel_rfl) rfl ?_
         refine OT.storeE (h2:=gk ws j) (h:=gk (List.set ws j (gk ws (j - 1))) (j - 1)) tab 0 rCh (k:=(j - 1)) (gk_get (by simp;omega)) (j:=0) (by simp only [rCh];omega) (fun _=>rfl) (Nat.le_refl _) rfl rfl rfl rfl rfl rfl rfl ?_
         refine DOt.nil (by kernel_rfl) ?_
         rotate_left 1
         refine uA ?_
         refine TO.step rfl (OT.arith (r':=((j - 1 : Nat) : Int)) rfl rfl rfl rfl rfl rfl (by omega) (by omega) ?_)
         refine uA ?_
         exact ⟨(j - 1,sw ws j (j - 1)),uH,uH,rfl,rfl,uS,hJ.step hja (by omega) hc,by simp only;omega⟩
        | false =>
         have hN:=hJ.done ltC_ord hOz (.inr hc)
         rw [Nat.sub_add_cancel (by omega)] at hN
         refine uA ?_
         exact ⟨ws,uH,uH,rfl,rfl,uS,hSz.trans (hJ.seg.mono (Nat.le_refl _) (by omega)),hN⟩
       ·have hN:=hJ.done ltC_ord hOz (.inl (by omega))
        rw [Nat.sub_add_cancel (by omega)] at hN
        refine uA ?_
        exact ⟨ws,uH,uH,rfl,rfl,uS,hSz.trans (hJ.seg.mono (Nat.le_refl _) (by omega)),hN⟩
      ·refine uA ?_
       exact ⟨zs,uH,uH,rfl,rfl,uS,hSz,fun s t h1 h2 h3=>by omega⟩
     ·obtain ⟨hSw,hOw⟩:=hws
      have hwl:=hSw.len
      have hDw : DomC ws:=hD0.perm hSw.perm
      refine uA ?_
      refine TO.step rfl (OT.arith (r':=((b - i : Nat) : Int)) rfl rfl rfl rfl rfl rfl (by omega) (by omega) ?_)
      refine uN ?_
      refine TC.condP rfl (fun hge => ?_) (fun hge => ?_)
      ·refine uA ?_
       refine TO.step rfl (OT.arith (r':=((i + 1 : Nat) : Int)) rfl rfl rfl rfl rfl rfl rfl (by omega) ?_)
       refine uA ?_
       refine TC.loopK (ι:=Nat × List Ch) [0,1,2,3,9,10] rfl (fun x=>[(12, .int .i64 (x.1 : Int))]) (fun _=>m) (fun x=>chR bd x.2 :: L) (fun x=>i + 1 ≤ x.1∧x.1 ≤ b∧Sg i b ws x.2) (fun x=>b - x.1) (i + 1,ws) uH rfl uS ⟨Nat.le_refl _,by simp only;omega,Sg.refl _ _ _⟩ ?_
       rintro ⟨k,us⟩ ⟨hk1,hk2,hSu⟩
       simp only at hk1 hk2 hSu ⊢
       have hul:=hSu.len
       have hD : DomC us:=hDw.perm hSu.perm
       refine uA ?_
       refine TC.condP rfl (fun hkb => ?_) (fun hkb => ?_)
       ·refine uA ?_
        refine TC.draw [] mixed 13 rfl [chR bd us] L uP ?_
        refine DO.pure tab uC (by kernel_rfl) [0,1,2] (by kernel_rfl) rfl ?_
        refine DO.indexP (sz:=2) tab 3 k uC (by kernel_rfl) (by kernel_rfl) rfl rfl rfl rfl rfl rfl rfl rfl rfl (by omega) ?_
        refine DO.loadE (jj:=0) tab 4 0 rCh (gk_get (xs:=us) (k:=k) (by omega)) (by simp only [rCh];omega) (fun _=>rfl) uC (by kernel_rfl) (by kernel_rfl) rfl rfl rfl rfl rfl rfl rfl ?_
        refine DO.pure tab uC (by kernel_rfl) [5,6] (by kernel_rfl) rfl ?_
        refine DO.arith 7 (r':=(((k - 1) : Nat) : Int)) uC (by kernel_rfl) (by kernel_rfl) rfl rfl rfl rfl rfl rfl rfl rfl (by first | rfl | omega | (simp only;omega)) (by omega) ?_
        refine DO.indexP (sz:=2) tab 8 (k - 1) uC (by kernel_rfl) (by kernel_rfl) rfl rfl rfl rfl rfl rfl rfl rfl rfl (by omega) ?_
        refine DO.loadE (jj:=0) tab 9 0 rCh (gk_get (xs:=us) (k:=(k - 1)) (by omega)) (by simp only [rCh];omega) (fun _=>rfl) uC (by kernel_rfl) (by kernel_rfl) rfl rfl rfl rfl rfl rfl rfl ?_
        refine DO.run 10 rfl rfl (by kernel_rfl) rfl (OT.call rfl rfl rfl rfl rfl rfl goes43 ((chcmp_law m _ (gk us k) (gk us (k - 1)) (hD.gk (by omega)) (hD.gk (by omega))).x ?_))
        rintro _ _ _ ⟨rfl,rfl,rfl⟩;refine ⟨Mem.le_refl _,_,List.Perm.refl _, ?_⟩
        refine DO.pure tab uC (by kernel_rfl) [11,12] (by kernel_rfl) rfl ?_
        (refine DO.nil (by kernel_rfl) ?_)
        rotate_left 1
        refine uA ?_
        simp only [ch_dec]
        cases hc : ltC (gk us k) (gk us (k - 1)) with
        | true =>
         refine uA ?_
         refine TC.draw [15,16,17] mixed 18 rfl [chR bd us] L uP ?_
         refine DO.pure tab uC (by kernel_rfl) [0,1,2,3] (by kernel_rfl) rfl ?_
         refine DO.arith 4 (r':=(((k - 1) : Nat) : Int)) uC (by kernel_rfl) (by kernel_rfl) rfl rfl rfl rfl rfl rfl rfl rfl (by first | rfl | omega | (simp only;omega)) (by omega) ?_
         refine DO.pure tab uC (by kernel_rfl) [5,6] (by kernel_rfl) rfl ?_
         refine DO.arith 7 (r':=(((k - 1) : Nat) : Int)) uC (by kernel_rfl) (by kernel_rfl) rfl rfl rfl rfl rfl rfl rfl rfl (by first | rfl | omega | (simp only;omega)) (by omega) ?_
         refine DO.indexP (sz:=2) tab 8 (k - 1) uC (by kernel_rfl) (by kernel_rfl) rfl rfl rfl rfl rfl rfl rfl rfl rfl (by omega) ?_
         refine DO.loadE (jj:=0) tab 9 0 rCh (gk_get (xs:=us) (k:=(k - 1)) (by omega)) (by simp only [rCh];omega) (fun _=>rfl) uC (by kernel_rfl) (by kernel_rfl) rfl rfl rfl rfl rfl rfl rfl ?_
         refine DO.pure tab uC (by kernel_rfl) [10,11] (by kernel_rfl) rfl ?_
         refine DO.indexP (sz:=2) tab 12 k uC (by kernel_rfl) (by kernel_rfl) rfl rfl rfl rfl rfl rfl rfl rfl rfl (by omega) ?_
         refine DO.loadE (jj:=0) tab 13 0 rCh (gk_get (xs:=us) (k:=k) (by omega)) (by simp only [rCh];omega) (fun _=>rfl) uC (by kernel_rfl) (by kernel_rfl) rfl rfl rfl rfl rfl rfl rfl ?_
         refine DO.indexP (sz:=2) tab 14 k uC (by kernel_rfl) (by kernel_rfl) rfl rfl rfl rfl rfl rfl rfl rfl rfl (by omega) ?_
         refine DO.tail ?_
         refine DOt.run 15 rfl rfl (by kernel_rfl) rfl ?_
         refine OT.storeE (h2:=gk us (k - 1)) tab 0 rCh (gk_get (xs:=us) (k:=k) (by omega)) (j:=0) (by simp only [rCh];omega) (fun _=>rfl) (Nat.le_refl _) rfl rfl rfl rfl rfl rfl rfl ?_
         refine DOt.run 16 rfl rfl (by kernel_rfl) rfl ?_
         refine OT.indexP (sz:=2) tab (k - 1) rfl rfl rfl rfl rfl rfl rfl (by omega) ?_
         refine DOt.run 17 rfl rfl (by kernel_rfl) rfl ?_
         refine OT.storeE (h2:=gk us k) (h:=gk (List.set us k (gk us (k - 1))) (k - 1)) tab 0 rCh (k:=(k - 1)) (gk_get (by simp;omega)) (j:=0) (by simp only [rCh];omega) (fun _=>rfl) (Nat.le_refl _) rfl rfl rfl rfl rfl rfl rfl ?_
         refine DOt.nil (by kernel_rfl) ?_
         rotate_left 1
         refine uA ?_
         refine TO.step rfl (OT.arith (r':=((k + 1 : Nat) : Int)) rfl rfl rfl rfl rfl rfl rfl (by omega) ?_)
         refine uA ?_
         exact ⟨(k + 1,sw us k (k - 1)),uH,uH,rfl,rfl,uS,⟨by simp only;omega,by simp only;omega,hSu.trans (Sg.sw (by omega) (by omega) (by omega))⟩,by simp only;omega⟩
        | false =>
         have hOu : Sn ltC us a i:=hOw.of fun t h1 h2=>hSu.out t (by omega)
         have hSu : Sg a b xs us:=hSw.trans (hSu.mono (by omega) (Nat.le_refl _))
         refine uA ?_
         refine TO.step rfl (OT.arith (r':=((q + 1 : Nat) : Int)) rfl rfl rfl rfl rfl rfl (by omega) (by omega) ?_)
         refine uA ?_
         exact ⟨(q + 1,i,us),uH,uH,rfl,rfl,uS,⟨by simp only;omega,hi0,hi1,hSu,hOu⟩,by simp only;omega⟩
       ·skip
        have hOu : Sn ltC us a i:=hOw.of fun t h1 h2=>hSu.out t (by omega)
        have hSu : Sg a b xs us:=hSw.trans (hSu.mono (by omega) (Nat.le_refl _))
        refine uA ?_
        refine TO.step rfl (OT.arith (r':=((q + 1 : Nat) : Int)) rfl rfl rfl rfl rfl rfl (by omega) (by omega) ?_)
        refine uA ?_
        exact ⟨(q + 1,i,us),uH,uH,rfl,rfl,uS,⟨by simp only;omega,hi0,hi1,hSu,hOu⟩,by simp only;omega⟩
      ·have hSu:=hSw
       have hOu:=hOw
       have hul:=hwl
       obtain ⟨us,hus⟩ : ∃ us,us=ws:=⟨_,rfl⟩
       rw [← hus] at hSu hOu hul ⊢
       refine uA ?_
       refine TO.step rfl (OT.arith (r':=((q + 1 : Nat) : Int)) rfl rfl rfl rfl rfl rfl (by omega) (by omega) ?_)
       refine uA ?_
       exact ⟨(q + 1,i,us),uH,uH,rfl,rfl,uS,⟨by simp only;omega,hi0,hi1,hSu,hOu⟩,by simp only;omega⟩
 ·refine uA ?_
  refine retQ_ret rfl (L':=chR bd ys :: L) uS ⟨rfl,ys,false,rfl,hS,(fun h=>by cases h),rfl⟩
end Go.Sep
set_option linter.unusedVariables false
set_option linter.unusedSimpArgs false
namespace Go.Sep
open Go.Proofs
attribute [local irreducible] TC TO OT TCallX TCall DO DOt thenQ blockQ retQ At
@[reducible] def nqI (bq n : Nat) : Item := .cells bq 0 [.int .i64 (n : Int)]
@[reducible] def pqV (bq : Nat) : Value := .pointer (some ⟨bq,0,none⟩)
set_option maxHeartbeats 1000000 in
theorem order2_ch (m : Mem) (L0 : List Item) (bd bq c a b n : Nat) (xs : List Ch) (hD : DomC xs) (ha : a < xs.length) (hb : b < xs.length) (hn : n ≤ 1000) (hlim : xs.length ≤ 1000000) :
  TCall Tryz.prog 290 ⟨[.slice (some ⟨bd,0,none⟩) xs.length c, .int .i64 (a : Int), .int .i64 (b : Int),pqV bq,chF]⟩ m (chR bd xs :: nqI bq n :: L0) (fun r m' L'=>m=m' ∧ ∃ n' x y : Nat,n' ≤ n + 1∧((x=a∧y=b) ∨ (x=b∧y=a))∧r = .tuple ⟨[.int .i64 (x : Int), .int .i64 (y : Int)]⟩ ∧ chR bd xs :: nqI bq n' :: L0=L'):=by
 unfold TCall
 obtain ⟨L,hLq⟩ : ∃ L,L=nqI bq n :: L0:=⟨_,rfl⟩
 rw [← hLq]
 refine TCallX.enter Tryz.func290 rfl 32 rfl ?_
 refine uA ?_
 refine TC.draw [] mixed 11 rfl [chR bd xs] L uP ?_
 refine DO.pure tab uC (by kernel_rfl) [0,1,2] (by kernel_rfl) rfl ?_
 refine DO.indexP (sz:=2) tab 3 b uC (by kernel_rfl) (by kernel_rfl) rfl rfl rfl rfl rfl rfl rfl rfl rfl (by omega) ?_
 refine DO.loadE (jj:=0) tab 4 0 rCh (gk_get (xs:=xs) (k:=b) (by omega)) (by simp only [rCh];omega) (fun _=>rfl) uC (by kernel_rfl) (by kernel_rfl) rfl rfl rfl rfl rfl rfl rfl ?_
 refine DO.pure tab uC (by kernel_rfl) [5,6] (by kernel_rfl) rfl ?_
 refine DO.indexP (sz:=2) tab 7 a uC (by kernel_rfl) (by kernel_rfl) rfl rfl rfl rfl rfl rfl rfl rfl rfl (by omega) ?_
 refine DO.loadE (jj:=0) tab 8 0 rCh (gk_get (xs:=xs) (k:=a) (by omega)) (by simp only [rCh];omega) (fun _=>rfl) uC (by kernel_rfl) (by kernel_rfl) rfl rfl rfl rfl rfl rfl rfl ?_
 refine DO.run 9 rfl rfl (by kernel_rfl) rfl (OT.call rfl rfl rfl rfl rfl rfl goes43 ((chcmp_law m _ (gk xs b) (gk xs a) (hD.gk (by omega)) (hD.gk (by omega))).x ?_))
 rintro _ _ _ ⟨rfl,rfl,rfl⟩;refine ⟨Mem.le_refl _,_,List.Perm.refl _, ?_⟩
 refine DO.pure tab uC (by kernel_rfl) [10] (by kernel_rfl) rfl ?_
 (refine DO.nil (by kernel_rfl) ?_)
 rotate_left 1
 refine uA ?_
 simp only [ch_dec]
 cases hc : ltC (gk xs b) (gk xs a) with
 | true =>
  refine TC.drop (L':=chR bd xs :: nqI bq n :: L0) (by rw [hLq];exact List.Sublist.refl _) ?_
  refine uA ?_
  refine uM ?_
  refine TO.step rfl (OT.arith (r':=((n + 1 : Nat) : Int)) rfl rfl rfl rfl rfl rfl rfl (by omega) ?_)
  refine uA ?_
  refine uT ?_
  refine uA ?_
  refine retQ_ret rfl (L':=chR bd xs :: nqI bq (n + 1) :: L0) uS ⟨rfl,n + 1,b,a,by omega, .inr ⟨rfl,rfl⟩,rfl,rfl⟩
 | false =>
  refine uA ?_
  refine retQ_ret rfl (L':=chR bd xs :: nqI bq n :: L0) (by rw [hLq];exact List.Sublist.refl _) ⟨rfl,n,a,b,by omega, .inl ⟨rfl,rfl⟩,rfl,rfl⟩
set_option maxHeartbeats 1000000 in
theorem median_ch (m : Mem) (L0 : List Item) (bd bq c a b e n : Nat) (xs : List Ch) (hD : DomC xs) (ha : a < xs.length) (hb : b < xs.length) (he : e < xs.length) (hn : n ≤ 100) (hlim : xs.length ≤ 1000000) :
  TCall Tryz.prog 212 ⟨[.slice (some ⟨bd,0,none⟩) xs.length c, .int .i64 (a : Int), .int .i64 (b : Int), .int .i64 (e : Int),pqV bq,chF]⟩ m (chR bd xs :: nqI bq n :: L0) (fun r m' L'=>m=m' ∧ ∃ n' x : Nat,n' ≤ n + 3∧(x=a ∨ x=b ∨ x=e)∧r = .int .i64 (x : Int)∧chR bd xs :: nqI bq n' :: L0=L'):=by
 unfold TCall
 refine TCallX.enter Tryz.func212 rfl 41 rfl ?_
 refine uA ?_
 refine TO.step rfl (OT.call rfl rfl rfl rfl rfl rfl goes290 ((order2_ch m L0 bd bq c a b n xs hD ha hb (by omega) hlim).x ?_));
 rintro r1 m1 L1 ⟨rfl,n1,x1,y1,hn1,hxy1,rfl,rfl⟩
 refine uA ?_
 refine TO.step rfl (OT.call rfl rfl rfl rfl rfl rfl goes290 ((order2_ch m L0 bd bq c y1 e n1 xs hD (by omega) he (by omega) hlim).x ?_));
 rintro r1 m1 L1 ⟨rfl,n2,x2,y2,hn2,hxy2,rfl,rfl⟩
 refine uA ?_
 refine TO.step rfl (OT.call rfl rfl rfl rfl rfl rfl goes290 ((order2_ch m L0 bd bq c x1 x2 n2 xs hD (by omega) (by omega) (by omega) hlim).x ?_));
 rintro r1 m1 L1 ⟨rfl,n3,x3,y3,hn3,hxy3,rfl,rfl⟩
 refine uA ?_
 refine retQ_ret rfl (L':=chR bd xs :: nqI bq n3 :: L0) uS ⟨rfl,n3,y3,by omega,by omega,rfl,rfl⟩
set_option maxHeartbeats 1000000 in
theorem medianAdj_ch (m : Mem) (L0 : List Item) (bd bq c a n : Nat) (xs : List Ch) (hD : DomC xs) (h0 : 0 < a) (ha : a + 1 < xs.length) (hn : n ≤ 100) (hlim : xs.length ≤ 1000000) :
  TCall Tryz.prog 211 ⟨[.slice (some ⟨bd,0,none⟩) xs.length c, .int .i64 (a : Int),pqV bq,chF]⟩ m (chR bd xs :: nqI bq n :: L0) (fun r m' L'=>m=m' ∧ ∃ n' x : Nat,n' ≤ n + 3∧(a - 1 ≤ x∧x ≤ a + 1)∧r = .int .i64 (x : Int)∧chR bd xs :: nqI bq n' :: L0=L'):=by
 unfold TCall
 refine TCallX.enter Tryz.func211 rfl 18 rfl ?_
 refine uA ?_
 refine TO.step rfl (OT.arith (r':=((a - 1 : Nat) : Int)) rfl rfl rfl rfl rfl rfl (by omega) (by omega) ?_)
 refine uA ?_
 refine TO.step rfl (OT.arith (r':=((a + 1 : Nat) : Int)) rfl rfl rfl rfl rfl rfl rfl (by omega) ?_)
 refine uA ?_
 refine TO.step rfl (OT.call rfl rfl rfl rfl rfl rfl goes212 ((median_ch m L0 bd bq c (a - 1) a (a + 1) n xs hD (by omega) (by omega) (by omega) hn hlim).x ?_));
 rintro r1 m1 L1 ⟨rfl,n1,x1,hn1,hx1,rfl,rfl⟩
 refine uA ?_
 refine retQ_ret rfl (L':=chR bd xs :: nqI bq n1 :: L0) uS ⟨rfl,n1,x1,hn1,by omega,rfl,rfl⟩
theorem quo4 (n : Nat) (h : n ≤ 1000000) : IntKind.i64.wrap (Int.tdiv (n : Int) 4)=((n / 4 : Nat) : Int):=by
 rw [show Int.tdiv (n : Int) 4=((n / 4 : Nat) : Int) from (Int.ofNat_tdiv n 4).symm]
 exact wrap64_in (by omega) (by omega)
set_option maxHeartbeats 2000000 in
theorem choose_ch (m : Mem) (L : List Item) (bd c a b : Nat) (xs : List Ch) (hD : DomC xs) (hab : a < b) (hl : b ≤ xs.length) (hlim : xs.length ≤ 1000000) :
  TCall Tryz.prog 138 ⟨[.slice (some ⟨bd,0,none⟩) xs.length c, .int .i64 (a : Int), .int .i64 (b : Int),chF]⟩ m (chR bd xs :: L) (fun r m' L'=>m=m' ∧ ∃ (p : Nat) (hint : Int),r = .tuple ⟨[.int .i64 (p : Int), .int .i64 hint]⟩ ∧ (a ≤ p∧p < b)∧chR bd xs :: L=L'):=by
 unfold TCall
 refine TCallX.enter Tryz.func138 rfl 63 rfl ?_
 refine uA ?_
 refine TO.step rfl (OT.arith (r':=((b - a : Nat) : Int)) rfl rfl rfl rfl rfl rfl (by omega) (by omega) ?_)
 refine uA ?_
 refine TO.step rfl (OT.alloc tab rfl rfl rfl rfl (fun bq => ?_))
 refine uA ?_
 refine TO.step rfl (OT.quoK rfl rfl rfl rfl rfl (by decide) (quo4 (b - a) (by omega)) ?_)
 refine uA ?_
 refine TO.step rfl (OT.arith (r':=(((b - a) / 4 : Nat) : Int)) rfl rfl rfl rfl rfl rfl (by omega) (by omega) ?_)
 refine uA ?_
 refine TO.step rfl (OT.arith (r':=((a + (b - a) / 4 : Nat) : Int)) rfl rfl rfl rfl rfl rfl (by omega) (by omega) ?_)
 refine uA ?_
 refine TO.step rfl (OT.quoK rfl rfl rfl rfl rfl (by decide) (quo4 (b - a) (by omega)) ?_)
 refine uA ?_
 refine TO.step rfl (OT.arith (r':=(((b - a) / 4 * 2 : Nat) : Int)) rfl rfl rfl rfl rfl rfl (by omega) (by omega) ?_)
 refine uA ?_
 refine TO.step rfl (OT.arith (r':=((a + (b - a) / 4 * 2 : Nat) : Int)) rfl rfl rfl rfl rfl rfl (by omega) (by omega) ?_)
 refine uA ?_
 refine TO.step rfl (OT.quoK rfl rfl rfl rfl rfl (by decide) (quo4 (b - a) (by omega)) ?_)
 refine uA ?_
 refine TO.step rfl (OT.arith (r':=(((b - a) / 4 * 3 : Nat) : Int)) rfl rfl rfl rfl rfl rfl (by omega) (by omega) ?_)
 refine uA ?_
 refine TO.step rfl (OT.arith (r':=((a + (b - a) / 4 * 3 : Nat) : Int)) rfl rfl rfl rfl rfl rfl (by omega) (by omega) ?_)
 refine TO.perm (List.Perm.swap _ _ _) ?_
 obtain ⟨q,hq⟩ : ∃ q,q=(b - a) / 4:=⟨_,rfl⟩
 rw [← hq]
 refine uN ?_
 refine TC.cutT (ι:=Nat × Nat) [0,1,2,3,11] rfl (fun x=>[(13, .int .i64 (x.1 : Int))]) (fun _=>m) (fun x=>chR bd xs :: nqI bq x.2 :: L) (fun x=>a ≤ x.1∧x.1 < b) ?_ (fun x hx => ?_)
 ·refine TC.condP rfl (fun h8 => ?_) (fun h8 => ?_)
  ·refine uN ?_
   refine TC.cutT (ι:=Nat × Nat × Nat × Nat) [0,1,2,3,11] rfl (fun x=>[(12, .int .i64 (x.1 : Int)),(13, .int .i64 (x.2.1 : Int)),(14, .int .i64 (x.2.2.1 : Int))]) (fun _=>m) (fun x=>chR bd xs :: nqI bq x.2.2.2 :: L) (fun x=>(a ≤ x.1∧x.1 < b)∧(a ≤ x.2.1∧x.2.1 < b)∧(a ≤ x.2.2.1∧x.2.2.1 < b)∧x.2.2.2 ≤ 9) ?_ (fun x hx => ?_)
   ·refine TC.condP rfl (fun h50 => ?_) (fun h50 => ?_)
    ·refine uA ?_
     refine TO.step rfl (OT.call rfl rfl rfl rfl rfl rfl goes211 ((medianAdj_ch m L bd bq c (a + q) 0 xs hD (by omega) (by omega) (by omega) hlim).x ?_));
     rintro r1 m1 L1 ⟨rfl,n1,x1,hn1,hx1,rfl,rfl⟩
     refine uA ?_
     refine TO.step rfl (OT.call rfl rfl rfl rfl rfl rfl goes211 ((medianAdj_ch m L bd bq c (a + q * 2) n1 xs hD (by omega) (by omega) (by omega) hlim).x ?_));
     rintro r1 m1 L1 ⟨rfl,n2,x2,hn2,hx2,rfl,rfl⟩
     refine uA ?_
     refine TO.step rfl (OT.call rfl rfl rfl rfl rfl rfl goes211 ((medianAdj_ch m L bd bq c (a + q * 3) n2 xs hD (by omega) (by omega) (by omega) hlim).x ?_));
     rintro r1 m1 L1 ⟨rfl,n3,x3,hn3,hx3,rfl,rfl⟩
     refine uA ?_
     exact ⟨(x1,x2,x3,n3),uH,uH,rfl,rfl,uS,by simp only;omega⟩
    ·refine uA ?_
     exact ⟨(a + q,a + q * 2,a + q * 3,0),uH,uH,rfl,rfl,uS,by simp only;omega⟩
   ·obtain ⟨i,j,k,nn⟩:=x
    simp only at hx ⊢
    refine uA ?_
    refine TO.step rfl (OT.call rfl rfl rfl rfl rfl rfl goes212 ((median_ch m L bd bq c i j k nn xs hD (by omega) (by omega) (by omega) (by omega) hlim).x ?_));
    rintro r1 m1 L1 ⟨rfl,n1,x1,hn1,hx1,rfl,rfl⟩
    refine uA ?_
    exact ⟨(x1,n1),uH,uH,rfl,rfl,uS,by simp only;omega⟩
  ·refine uA ?_
   exact ⟨(a + q * 2,0),uH,uH,rfl,rfl,uS,by simp only;omega⟩
 ·obtain ⟨p,nf⟩:=x
  simp only at hx ⊢
  refine uA ?_
  refine uM ?_
  refine uA ?_
  refine TC.condP rfl (fun hz => ?_) (fun hz => ?_)
  ·refine uA ?_
   refine retQ_ret rfl (L':=chR bd xs :: L) uS ⟨rfl,p,_,rfl,hx,rfl⟩
  ·refine uA ?_
   refine TC.condP rfl (fun hz2 => ?_) (fun hz2 => ?_)
   ·refine uA ?_
    refine retQ_ret rfl (L':=chR bd xs :: L) uS ⟨rfl,p,_,rfl,hx,rfl⟩
   ·refine uA ?_
    refine retQ_ret rfl (L':=chR bd xs :: L) uS ⟨rfl,p,_,rfl,hx,rfl⟩
end Go.Sep
set_option linter.unusedVariables false
set_option linter.unusedSimpArgs false
namespace Go.Sep
section
variable {P : Program} {N : Nat} {ρ : Env} {D : List Deferred} {m : Mem} {L : List Item} {Q : EPost} {full : List Oper} {o : Oper} {K : Env→Mem→List Item→Prop}
def Tab.first {P : Program} (T : Tab P) (S : TypeId) : Option TypeId :=
 match T.get S with
 | some ⟨.struct ⟨fd :: _⟩,_,_,_⟩=>if Nat.beq fd.offset 0 then (match T.get fd.type with
  | some ⟨.slice _,sz,_,_⟩=>if Nat.beq sz 1 then some fd.type else none
  | _=>none) else none
 | _=>none
end
section
variable {P : Program} {N : Nat} {ρ : Env} {D : List Deferred} {m : Mem} {Ls Lp : List Item} {Q : EPost} {ops : List Oper} {ts : List Nat} {fuel : Nat} {listed : List Bool}
theorem DO.arithK (i : Nat) {op : BinOp} {t t' : TypeId} {x y : Operand} {o : Oper} {k : IntKind} {d : Nat} {a b r r' : Int} (hc : Calm Q) (hns : Region.noSelect ⟨ops⟩ = true) (hok : orderOkP ops ts [i] listed=true)
  (hi : ops[i]? = some o) (hg : gv ops ρ o=some true) (ho : o.op = .binOp op t x y t') (hd : o.dst=some d) (hN : Nat.blt d N=true)
  (hx : ev ρ x=some (.int k a)) (hy : ev ρ y=some (.int k b)) (hr : Sep.arith op a b=some r) (he : k.wrap r=r')
  (h : DO P N ops ts fuel (listed.set i true) ((d, .int k r') :: ρ) D m Ls Lp Q) : DO P N ops ts (fuel + 1) listed ρ D m Ls Lp Q:=by
 simp only [orderOkP,Bool.and_eq_true] at hok
 obtain ⟨o1,o2,o3,_⟩:=hok
 subst he
 refine DO.takeP i hc hi hd hN hg hns o1 o2 (by simpa using o3) (fun ac w hA => ?_) h
 cases op <;> simp only [Sep.arith,Option.some.injEq] at hr <;> first | (cases hr;done) | (subst hr;simp [execOp,ho,hA.eval hx,hA.eval hy,eqGuard,binOp,Op.intArith])
end
end Go.Sep
set_option linter.unusedVariables false
set_option linter.unusedSimpArgs false
namespace Go.Sep
section
variable {P : Program} {N : Nat} {D : List Deferred} {m : Mem} {L : List Item} {Q : EPost} {K : Env→Mem→List Item→Prop} {ρ : Env} {ops listed : List _} {ts : List Nat} {fuel : Nat} {Ls Lp : List Item}
theorem DO.shK {ops : List Oper} {listed : List Bool} (i : Nat) {op : BinOp} {t t' : TypeId} {x y : Operand} {o : Oper} {k ky : IntKind} {d : Nat} {a b r : Int} (hop : op = .shl ∨ op = .shr) (hb : 0 ≤ b) (hc : Calm Q) (hns : Region.noSelect ⟨ops⟩ = true) (hok : orderOkP ops ts [i] listed=true)
  (hi : ops[i]? = some o) (hg : gv ops ρ o=some true) (ho : o.op = .binOp op t x y t') (hd : o.dst=some d) (hN : Nat.blt d N=true)
  (hx : ev ρ x=some (.int k a)) (hy : ev ρ y=some (.int ky b)) (he : (if op = .shl then k.wrap (a * 2 ^ (min b.toNat k.bits)) else a.fdiv (2 ^ (min b.toNat k.bits)))=r)
  (h : DO P N ops ts fuel (listed.set i true) ((d, .int k r) :: ρ) D m Ls Lp Q) : DO P N ops ts (fuel + 1) listed ρ D m Ls Lp Q:=by
 simp only [orderOkP,Bool.and_eq_true] at hok
 obtain ⟨o1,o2,o3,_⟩:=hok
 subst he
 have hb' : ¬ b < 0:=by omega
 refine DO.takeP i hc hi hd hN hg hns o1 o2 (by simpa using o3) (fun ac w hA => ?_) h
 rcases hop with rfl | rfl <;> simp [execOp,ho,hA.eval hx,hA.eval hy,eqGuard,binOp,Op.shift,hb']
theorem DO.xorK {ops : List Oper} {listed : List Bool} (i : Nat) {t t' : TypeId} {x y : Operand} {o : Oper} {k : IntKind} {d : Nat} {a b r : Int} (hc : Calm Q) (hns : Region.noSelect ⟨ops⟩ = true) (hok : orderOkP ops ts [i] listed=true)
  (hi : ops[i]? = some o) (hg : gv ops ρ o=some true) (ho : o.op = .binOp .xor t x y t') (hd : o.dst=some d) (hN : Nat.blt d N=true)
  (hx : ev ρ x=some (.int k a)) (hy : ev ρ y=some (.int k b)) (he : k.wrap ((BitVec.ofInt k.bits a ^^^ BitVec.ofInt k.bits b).toNat : Int)=r)
  (h : DO P N ops ts fuel (listed.set i true) ((d, .int k r) :: ρ) D m Ls Lp Q) : DO P N ops ts (fuel + 1) listed ρ D m Ls Lp Q:=by
 simp only [orderOkP,Bool.and_eq_true] at hok
 obtain ⟨o1,o2,o3,_⟩:=hok
 subst he
 refine DO.takeP i hc hi hd hN hg hns o1 o2 (by simpa using o3) (fun ac w hA => ?_) h
 simp [execOp,ho,hA.eval hx,hA.eval hy,eqGuard,binOp,Op.intBits]
theorem u64_in' {n : Int} (h1 : 0 ≤ n) (h2 : n < 18446744073709551616) : IntKind.u64.wrap n=n:=by
 simp only [IntKind.wrap,IntKind.bits,IntKind.signed]
 simp
 omega
theorem mask_u64 {P : Program} (a : Int) (M : Nat) (hM : 0 < M) (hM2 : M ≤ 1099511627776) : ∃ z : Nat,z < M ∧ ∀ w,(Op.intBits .and .u64 a ((M - 1 : Nat) : Int)).run P w = .ok (.int .u64 (z : Int)) w:=by
 have hb : (BitVec.ofInt 64 ((M - 1 : Nat) : Int)).toNat=M - 1:=by
  rw [BitVec.toNat_ofInt]
  omega
 have hle : (BitVec.ofInt 64 a &&& BitVec.ofInt 64 ((M - 1 : Nat) : Int)).toNat ≤ M - 1:=by
  rw [BitVec.toNat_and,hb]
  exact Nat.and_le_right
 refine ⟨(BitVec.ofInt 64 a &&& BitVec.ofInt 64 ((M - 1 : Nat) : Int)).toNat,by omega,fun w => ?_⟩
 generalize hz : (BitVec.ofInt 64 a &&& BitVec.ofInt 64 ((M - 1 : Nat) : Int)).toNat=z at hle
 have hw : IntKind.u64.wrap (z : Int)=(z : Int):=u64_in' (by omega) (by omega)
 show (Pure.pure (Value.int .u64 (IntKind.u64.wrap _)) : Sem Value).run P w=_
 rw [Sem.run_pure]
 exact congrArg (fun q=>Result.ok (Value.int .u64 q) w) ((congrArg (fun q : Nat=>IntKind.u64.wrap (q : Int)) hz).trans hw)
end
end Go.Sep
