/- PsW5 -/
import Derived.Test.YtinmchaljlekgaaGreatDoorB8
set_option linter.unusedVariables false
set_option linter.unusedSimpArgs false
namespace Go.Sep
open Go.Proofs
attribute [local irreducible] TC TO OT TCallX TCall DO DOt thenQ blockQ retQ At
section
variable {mb : Mem} {E : PE} {h : Int}
theorem param_par {X : Ps.Pp Tree} (hX : Par Tryz.prog mb E vTree 143 [E.v] h X) (b1 : Nat) (hA : At mb b1 0 [E.v]) :
  Par Tryz.prog mb E vTree 147 [.pointer (some ⟨b1,0,none⟩)] h (Ps.paramP X):=by
 refine Par.enter Tryz.func147 rfl 10 rfl fun m L k T hm0 hE hk hT hn => ?_
 replace hX:=hX.up hm0
 replace hA:=hA.mono hm0
 have hm : m ≤ m:=Mem.le_refl _
 unfold Ps.paramP at hT
 refine uA ?_
 refine TO.step rfl (OT.alloc tab rfl rfl rfl rfl (fun b2 => ?_));refine TO.perm (List.Perm.swap _ _ _) ?_
 refine uA ?_
 (refine TO.step rfl (OT.loadA0 tab hA rfl rfl rfl rfl rfl ?_))
 refine uA ?_
 refine TO.step rfl (OT.nameP (L0:=L) hT hE hk (by repeat (first|exact Bad.ret|refine Bad.then ?_)) hm uS rfl rfl rfl rfl rfl rfl (fun t hT hk => ?_))
 refine uA ?_
 (refine TO.step rfl (OT.loadA0 tab hA rfl rfl rfl rfl rfl ?_))
 refine uA ?_
 refine TO.step rfl (OT.parT (L0:=L) (hX) hm hT hn hE hk (by repeat (first|exact Bad.ret|refine Bad.then ?_)) hm uS rfl rfl rfl rfl rfl rfl goes143 (fun x m2 a k2 hT hm hE hlex hk hrx => ?_))
 refine uA ?_
 refine TO.step rfl (OT.litR tab rTree (hs:=[x]) (l:=[a]) ⟨rTree_iff.2 hrx,trivial⟩ rfl rfl rfl rfl rfl (by decide) (fun s m3 hle3 hs ho hc => ?_))
 refine uA ?_
 refine uT ?_
 refine uA ?_
 refine retQ_ret_c1 tab 1 rfl rfl rfl rfl (L':=E.I k2 h :: L) uS ⟨_,k2,[],hT,Mem.le_trans hm hle3,hk,⟨⟨8,t,0,s⟩,rfl,rfl,⟨rfl,rfl,rfl,hs⟩⟩,rfl⟩
set_option maxHeartbeats 1000000 in
theorem psig_par {X : Ps.Pp Tree} (hX : Par Tryz.prog mb E vTree 143 [E.v] h X) :
  Par Tryz.prog mb E vTree 114 [E.v] h (Ps.sigP E.N X):=by
 refine Par.enter Tryz.func114 rfl 27 rfl fun m L k T hm0 hE hk hT hn => ?_
 have hm : m ≤ m:=Mem.le_refl _
 have hrows:=hE.rows
 unfold Ps.sigP Ps.sigLike at hT
 refine uA ?_
 refine TO.step rfl (OT.box rfl rfl rfl rfl rfl (fun b1 => ?_))
 refine TO.freeze fun m1 hle1 hA => ?_
 replace hm : m ≤ m1:=hle1
 replace hE:=hE.mono hle1
 replace hX:=hX.up (Mem.le_trans hm0 hle1)
 refine uA ?_
 refine TO.step rfl (OT.alloc tab rfl rfl rfl rfl (fun b2 => ?_));refine TO.perm (List.Perm.swap _ _ _) ?_
 refine uA ?_
 refine TO.step rfl (OT.alloc tab rfl rfl rfl rfl (fun b3 => ?_));refine TO.perm (List.Perm.swap _ _ _) ?_
 refine uA ?_
 refine uT ?_
 refine uA ?_
 (refine TO.step rfl (OT.loadA0 tab hA rfl rfl rfl rfl rfl ?_))
 refine uA ?_
 refine TO.step rfl (OT.needP (L0:=L) hT hE hk (by repeat (first|exact Bad.ret|refine Bad.then ?_)) hm uS rfl rfl rfl rfl rfl rfl (fun hT hk => ?_))
 unfold Ps.inP at hT
 simp only [Ps.tok_bind,Ps.ret_bind,Ps.bind_assoc,Ps.need_bind] at hT
 refine TO.nil ?_
 refine thenQ_n ?_
 refine TC.cut (ι:=Sl × Mem × List Tree × Nat) [1,2,3] rfl (fun _=>[]) (fun i=>i.2.1) (fun i=>E.I i.2.2.2 h :: .cells b3 0 [.int .i64 7,strV [], .int .i64 0,i.1.v] :: tok i.1 4 :: .cells b2 0 [.int .i64 0,strV [], .int .i64 0, .slice none 0 0] :: L) (fun i=>m1 ≤ i.2.1∧E.Ok i.2.1∧i.2.2.2 ≤ E.toks.length∧SlRep rTree i.2.1 i.1 i.2.2.1∧Own i.1∧i.2.2.1.length ≤ 20001∧T=(Ps.bind (Ps.resultsP E.N X) fun rs=>Ps.ret (Tree.mk 7 [] (i.2.2.1.length : Int) (i.2.2.1++rs))) E.f i.2.2.2) ?_ ?_
 ·refine uA ?_
  (refine TO.step rfl (OT.loadA0 tab hA rfl rfl rfl rfl rfl ?_))
  refine uA ?_
  refine TO.step rfl (OT.takeP hT hE hk rfl rfl rfl rfl rfl rfl (fun hT hk => ?_) (fun hT => ?_))
  ·refine TO.grow0 (size:=4) ?_
   refine TO.perm (L':=E.I (k + 1 + 1) h :: .cells b3 0 [.int .i64 7,strV [], .int .i64 0, .slice none 0 0] :: tok ⟨none,0,0⟩ 4 :: .cells b2 0 [.int .i64 0,strV [], .int .i64 0, .slice none 0 0] :: L) (List.Perm.trans (List.Perm.swap _ _ _) (List.Perm.cons _ (List.Perm.swap _ _ _))) ?_
   refine uA ?_
   exact ⟨(⟨none,0,0⟩,m1,[],k + 1 + 1),uH,uH,rfl,rfl,uS,Mem.le_refl _,hE,hk,SlRep.nil _ _,Own.nil,by simp,hT⟩
  ·refine uA ?_
   (refine TO.step rfl (OT.loadA0 tab hA rfl rfl rfl rfl rfl ?_))
   refine uA ?_
   refine TO.step rfl (OT.parL (L0:=L) (list1_par (first:=[]) (cap:=[.pointer (some ⟨b1,0,none⟩)]) rfl goes147 (param_par hX b1 hA)) (Mem.le_refl _) hT hn hE hk (by repeat (first|exact Bad.ret|refine Bad.then ?_)) hm uS rfl rfl rfl rfl rfl rfl goes146 (fun x m2 a k2 hT hm hE hle2 hk hrx hox hlx => ?_))
   refine TO.perm (L':=E.I k2 h :: .cells b3 0 [.int .i64 7,strV [], .int .i64 0, .slice none 0 0] :: tok x 4 :: .cells b2 0 [.int .i64 0,strV [], .int .i64 0, .slice none 0 0] :: L) (List.Perm.cons _ (List.Perm.swap _ _ _)) ?_
   refine uA ?_
   refine TO.step rfl (OT.storeL (k:=3) tab 1 rfl rfl rfl rfl rfl rfl rfl rfl ?_)
   refine uA ?_
   have hA2:=hA.mono hle2
   (refine TO.step rfl (OT.loadA0 tab hA2 rfl rfl rfl rfl rfl ?_))
   refine uA ?_
   refine TO.step rfl (OT.needP (L0:=L) hT hE hk (by repeat (first|exact Bad.ret|refine Bad.then ?_)) hm uS rfl rfl rfl rfl rfl rfl (fun hT hk => ?_))
   refine uA ?_
   exact ⟨(x,m2,a,k2 + 1),uH,uH,rfl,rfl,uS,hle2,hE,hk,hrx,hox,hlx,hT⟩
 ·rintro ⟨s,m2,l,k1⟩ ⟨hm12,hE,hk,hs,ho,hl,hT⟩
  simp only at hm12 hE hk hs ho hl hT
  have hsl:=hs.len
  replace hA:=hA.mono hm12
  replace hX:=hX.up hm12
  replace hm : m ≤ m2:=Mem.le_trans hm hm12
  refine uA ?_
  refine uM ?_
  refine uA ?_
  refine TO.step rfl (OT.storeL (k:=2) tab 1 rfl rfl rfl rfl rfl rfl rfl rfl ?_)
  refine uA ?_
  refine TC.draw [6] mixed 7 rfl [.cells b3 0 [.int .i64 7,strV [], .int .i64 (s.len : Int),s.v]] (E.I k1 h :: tok s 4 :: .cells b2 0 [.int .i64 0,strV [], .int .i64 0, .slice none 0 0] :: L) (List.Perm.swap _ _ _) ?_
  refine DO.pure tab uC (by kernel_rfl) [0] (by kernel_rfl) rfl ?_
  (refine DO.loadL tab 1 0 uC (by kernel_rfl) (by kernel_rfl) rfl rfl rfl rfl rfl rfl rfl rfl ?_)
  (refine DO.loadA (k:=0) tab 2 hA uC (by kernel_rfl) (by kernel_rfl) rfl rfl rfl rfl rfl rfl rfl ?_)
  refine DO.run 3 rfl rfl (by kernel_rfl) rfl ?_
  refine OT.perm (List.Perm.swap _ _ _) (OT.parS (L0:=L) (results_par hX) (Mem.le_refl _) hT hn hE hk (by repeat (first|exact Bad.ret|refine Bad.then ?_)) hm uS rfl rfl rfl rfl rfl rfl goes148 (fun x m3 a k2 hT hm hE hle hk hr hla => ?_));refine ⟨hle,E.I k2 h :: tok s 4 :: .cells b2 0 [.int .i64 0,strV [], .int .i64 0, .slice none 0 0] :: L,List.Perm.swap _ _ _, ?_⟩
  refine DO.run 4 rfl rfl (by kernel_rfl) rfl ?_
  refine OT.append tab rTree 2 (hs.mono hle) ho hr rfl rfl rfl rfl rfl rfl rfl (by simp only [rTree,mkR];omega) (fun s3 m4 hle4 hs3 ho3 => ?_);refine ⟨hle4,E.I k2 h :: tok s3 4 :: .cells b2 0 [.int .i64 0,strV [], .int .i64 0, .slice none 0 0] :: L,List.Perm.refl _, ?_⟩
  refine DO.pure tab uC (by kernel_rfl) [5] (by kernel_rfl) rfl ?_
  refine DO.tail ?_
  refine DOt.run 6 rfl rfl (by kernel_rfl) rfl ?_
  refine OT.storeL (k:=3) tab 0 rfl rfl rfl rfl rfl rfl rfl rfl ?_
  refine DOt.nil (by kernel_rfl) ?_
  rotate_left 1
  refine uA ?_
  refine uM ?_
  refine uA ?_
  refine TO.step rfl (OT.storeL0 tab 3 rfl rfl rfl rfl rfl rfl rfl rfl ?_)
  refine uA ?_
  refine retQ_ret_c1 tab 3 rfl rfl rfl rfl (L':=E.I k2 h :: L) uS ⟨_,k2,[],hT,Mem.le_trans hm hle4,hk,⟨⟨7,[],(s.len : Int),s3⟩,rfl,rfl,⟨rfl,rfl,by show (s.len : Int)=_;rw [hsl];rfl,hs3⟩⟩,rfl⟩
end
end Go.Sep


/- PsW6 -/
set_option linter.unusedVariables false
set_option linter.unusedSimpArgs false
namespace Go.Sep
open Go.Proofs
attribute [local irreducible] TC TO OT TCallX TCall DO DOt thenQ blockQ retQ At
section
variable {mb : Mem} {E : PE} {h : Int}
set_option maxHeartbeats 1000000 in
theorem block_par {X : Ps.Pp Tree} (hX : Par Tryz.prog mb E vTree 149 [E.v] 0 X) :
  Par Tryz.prog mb E vTree 115 [E.v] h (Ps.blockP E.N X):=by
 refine Par.enter Tryz.func115 rfl 30 rfl fun m L k T hm0 hE hk hT hn => ?_
 replace hX:=hX.up hm0
 have hm : m ≤ m:=Mem.le_refl _
 have hrows:=hE.rows
 unfold Ps.blockP at hT
 rw [Ps.rest_start] at hT
 refine uA ?_
 refine TO.step rfl (OT.alloc tab rfl rfl rfl rfl (fun b2 => ?_));refine TO.perm (List.Perm.swap _ _ _) ?_
 refine uA ?_
 refine uM ?_
 refine uA ?_
 refine TO.step rfl (OT.storeL (k:=3) tab 0 rfl rfl rfl rfl rfl rfl rfl rfl ?_)
 refine uA ?_
 refine TO.step rfl (OT.needP (L0:=L) hT hE hk (by repeat (first | exact Bad.ret | refine Bad.then ?_ | refine Bad.block ?_)) hm uS rfl rfl rfl rfl rfl rfl (fun hT hk => ?_))
 refine uA ?_
 refine TO.step rfl (OT.alloc tab rfl rfl rfl rfl (fun b4 => ?_));refine TO.perm (List.Perm.swap _ _ _) ?_
 refine uA ?_
 refine uT ?_
 refine TO.grow0 (size:=4) ?_
 refine TO.perm (L':=E.I (k + 1) 0 :: .cells b4 0 [.int .i64 20,strV [], .int .i64 0, .slice none 0 0] :: tok ⟨none,0,0⟩ 4 :: .cells b2 0 [.int .i64 0,strV [], .int .i64 0, .slice none 0 0] :: L) (List.Perm.trans (List.Perm.swap _ _ _) (List.Perm.cons _ (List.Perm.swap _ _ _))) ?_
 refine uA ?_
 refine TC.loopK (ι:=Sl × Mem × List Tree × Nat × Nat) [0,2,3,4] rfl (fun x=>[]) (fun x=>x.2.1) (fun x=>E.I x.2.2.2.1 0 :: .cells b4 0 [.int .i64 20,strV [], .int .i64 0,x.1.v] :: tok x.1 4 :: .cells b2 0 [.int .i64 0,strV [], .int .i64 0, .slice none 0 0] :: L) (fun x=>m ≤ x.2.1∧E.Ok x.2.1∧x.2.2.2.1 ≤ E.toks.length∧SlRep rTree x.2.1 x.1 x.2.2.1∧Own x.1∧x.2.2.1.length + x.2.2.2.2=E.N∧T=Ps.bind (Ps.rest x.2.2.2.2 [125] X x.2.2.1) (fun l=>Ps.ret (.mk 20 [] 0 l)) E.f x.2.2.2.1) (fun x=>x.2.2.2.2) (⟨none,0,0⟩,m,[],k + 1,E.N) uH rfl uS ⟨hm,hE,hk,SlRep.nil _ _,Own.nil,by simp,hT⟩ ?_
 rintro ⟨s,m1,acc,k,j⟩ ⟨hm,hE,hk,hs,ho,hlen,hT⟩
 simp only at hm hE hk hs ho hlen hT
 cases j with
 | zero=>rw [Ps.rest_zero,Ps.dry_bind] at hT;exact absurd hT hn
 | succ j =>
  rw [Ps.rest_succ,Ps.tok_bind,Ps.bind_assoc,Ps.ret_bind] at hT
  refine uA ?_
  refine TO.step rfl (OT.takeP hT hE hk rfl rfl rfl rfl rfl rfl (fun hT hk => ?_) (fun hT => ?_))
  ·refine uA ?_
   refine TO.step rfl (OT.storeL (k:=3) tab 0 rfl rfl rfl rfl rfl rfl rfl rfl ?_)
   refine uA ?_
   refine uM ?_
   refine uA ?_
   refine TO.step rfl (OT.storeL0 tab 3 rfl rfl rfl rfl rfl rfl rfl rfl ?_)
   refine uA ?_
   refine retQ_ret_c1 tab 3 rfl rfl rfl rfl (L':=E.I (k + 1) h :: L) uS ⟨_,k + 1,[],hT,hm,hk,⟨⟨20,[],0,s⟩,rfl,rfl,⟨rfl,rfl,rfl,hs⟩⟩,rfl⟩
  ·refine uA ?_
   refine TC.draw [7] mixed 8 rfl [.cells b4 0 [.int .i64 20,strV [], .int .i64 0,s.v]] (E.I k 0 :: tok s 4 :: .cells b2 0 [.int .i64 0,strV [], .int .i64 0, .slice none 0 0] :: L) (List.Perm.swap _ _ _) ?_
   refine DO.pure tab uC (by kernel_rfl) [0] (by kernel_rfl) rfl ?_
   (first | refine DO.loadL tab 1 0 uC (by kernel_rfl) (by kernel_rfl) rfl rfl rfl rfl rfl rfl rfl rfl ?_ | refine DO.loadL tab 1 1 uC (by kernel_rfl) (by kernel_rfl) rfl rfl rfl rfl rfl rfl rfl rfl ?_ | refine DO.loadL tab 1 2 uC (by kernel_rfl) (by kernel_rfl) rfl rfl rfl rfl rfl rfl rfl rfl ?_ | refine DO.loadL tab 1 3 uC (by kernel_rfl) (by kernel_rfl) rfl rfl rfl rfl rfl rfl rfl rfl ?_ | refine DO.loadL tab 1 4 uC (by kernel_rfl) (by kernel_rfl) rfl rfl rfl rfl rfl rfl rfl rfl ?_ | refine DO.loadL tab 1 5 uC (by kernel_rfl) (by kernel_rfl) rfl rfl rfl rfl rfl rfl rfl rfl ?_ | refine DO.loadL (k:=0) tab 1 0 uC (by kernel_rfl) (by kernel_rfl) rfl rfl rfl rfl rfl rfl rfl rfl ?_ | refine DO.loadL (k:=0) tab 1 1 uC (by kernel_rfl) (by kernel_rfl) rfl rfl rfl rfl rfl rfl rfl rfl ?_ | refine DO.loadL (k:=0) tab 1 2 uC (by kernel_rfl) (by kernel_rfl) rfl rfl rfl rfl rfl rfl rfl rfl ?_ | refine DO.loadL (k:=0) tab 1 3 uC (by kernel_rfl) (by kernel_rfl) rfl rfl rfl rfl rfl rfl rfl rfl ?_ | refine DO.loadL (k:=0) tab 1 4 uC (by kernel_rfl) (by kernel_rfl) rfl rfl rfl rfl rfl rfl rfl rfl ?_ | refine DO.loadL (k:=0) tab 1 5 uC (by kernel_rfl) (by kernel_rfl) rfl rfl rfl rfl rfl rfl rfl rfl ?_)
   refine DO.pure tab uC (by kernel_rfl) [2] (by kernel_rfl) rfl ?_
   refine DO.run 3 rfl rfl (by kernel_rfl) rfl ?_
   refine OT.perm (List.Perm.swap _ _ _) (OT.parT (L0:=L) (hX) hm hT hn hE hk (by repeat (first | exact Bad.ret | refine Bad.then ?_ | refine Bad.block ?_)) hm uS rfl rfl rfl rfl rfl rfl goes149 (fun x mA a k2 hT hm hE hleA hk hr => ?_));refine ⟨hleA,E.I k2 0 :: tok s 4 :: .cells b2 0 [.int .i64 0,strV [], .int .i64 0, .slice none 0 0] :: L,List.Perm.swap _ _ _, ?_⟩
   refine DO.run 4 rfl rfl (by kernel_rfl) rfl ?_
   refine OT.litR tab rTree (hs:=[x]) (l:=[a]) ⟨rTree_iff.2 hr,trivial⟩ rfl rfl rfl rfl rfl (by decide) (fun sB mB hleB hsB hoB hcB => ?_);refine ⟨hleB,_,List.Perm.refl _, ?_⟩
   refine DO.run 5 rfl rfl (by kernel_rfl) rfl ?_
   refine OT.append tab rTree 2 (hs.mono (Mem.le_trans hleA hleB)) ho hsB rfl rfl rfl rfl rfl rfl rfl (by simp only [List.length_append,List.length_cons,List.length_nil,rTree,mkR];omega) (fun s3 mC hleC hs3 ho3 => ?_);refine ⟨hleC,E.I k2 0 :: tok s3 4 :: .cells b2 0 [.int .i64 0,strV [], .int .i64 0, .slice none 0 0] :: L,List.Perm.refl _, ?_⟩
   refine DO.pure tab uC (by kernel_rfl) [6] (by kernel_rfl) rfl ?_
   refine DO.tail ?_
   refine DOt.run 7 rfl rfl (by kernel_rfl) rfl ?_
   refine OT.storeL (k:=3) tab 0 rfl rfl rfl rfl rfl rfl rfl rfl ?_;refine DOt.perm (List.Perm.swap _ _ _) ?_
   refine DOt.nil (by kernel_rfl) ?_
   rotate_left 1
   replace hm:=Mem.le_trans hm (Mem.le_trans hleB hleC)
   replace hE:=hE.mono (Mem.le_trans hleB hleC)
   refine uA ?_
   exact ⟨(s3,mC,acc++[a],k2,j),uH,uH,rfl,rfl,uS,⟨hm,hE,hk,hs3,ho3,by simp only [List.length_append,List.length_cons,List.length_nil];omega,hT⟩,by simp only;omega⟩
end
end Go.Sep


/- PsW7 -/
set_option linter.unusedVariables false
set_option linter.unusedSimpArgs false
namespace Go.Sep
open Go.Proofs
attribute [local irreducible] TC TO OT TCallX TCall DO DOt thenQ blockQ retQ At
section
variable {mb : Mem} {E : PE} {h : Int}
set_option maxHeartbeats 1600000 in
theorem typeDecl_par {X : Ps.Pp Tree} (hX : Par Tryz.prog mb E vTree 143 [E.v] h X) :
  Par Tryz.prog mb E vTree 111 [E.v] h (Ps.typeDeclP E.N X):=by
 refine Par.enter Tryz.func111 rfl 38 rfl fun m L k T hm0 hE hk hT hn => ?_
 replace hX:=hX.up hm0
 have hm : m ≤ m:=Mem.le_refl _
 have hrows:=hE.rows
 unfold Ps.typeDeclP at hT
 refine uA ?_
 refine TO.step rfl (OT.alloc tab rfl rfl rfl rfl (fun b2 => ?_));refine TO.perm (List.Perm.swap _ _ _) ?_
 refine uA ?_
 refine TO.step rfl (OT.nameP (L0:=L) hT hE hk (by repeat (first|exact Bad.ret|refine Bad.then ?_)) hm uS rfl rfl rfl rfl rfl rfl (fun nm hT hk => ?_))
 refine uA ?_
 refine TO.step rfl (OT.alloc tab rfl rfl rfl rfl (fun b3 => ?_));refine TO.perm (List.Perm.swap _ _ _) ?_
 refine uA ?_
 refine uT ?_
 refine TO.nil ?_
 refine thenQ_n ?_
 refine TC.seq ?_
 refine TC.region ?_
 repeat (refine TO.pureP tab rfl rfl ?_)
 refine TO.nil ?_
 refine thenQ_n ?_
 refine TC.cut (ι:=Int × FuncId × Ps.Pp Tree × Nat) [0,2,3] rfl (fun i=>[(4, .func (.func i.2.1) ⟨[E.v]⟩ ⟨[]⟩)]) (fun i=>m) (fun i=>E.I i.2.2.2 h :: .cells b3 0 [.int .i64 i.1,strV nm, .int .i64 0, .slice none 0 0] :: .cells b2 0 [.int .i64 0,strV [], .int .i64 0, .slice none 0 0] :: L) (fun i=>i.2.2.2 ≤ E.toks.length∧Goes Tryz.prog i.2.1∧Par Tryz.prog m E vTree i.2.1 [E.v] h i.2.2.1∧T=Ps.bodyP E.N i.1 nm i.2.2.1 E.f i.2.2.2) ?_ ?_
 ·refine uA ?_
  refine TO.step rfl (OT.takeP hT hE hk rfl rfl rfl rfl rfl rfl (fun hT hk => ?_) (fun hT => ?_))
  ·refine uA ?_
   refine TO.step rfl (OT.storeL0 tab 1 rfl rfl rfl rfl rfl rfl rfl rfl ?_)
   refine uA ?_
   exact ⟨(3,114,Ps.sigP E.N X,k + 1 + 1),uH,uH,rfl,rfl,uS,hk,goes114,psig_par hX,hT⟩
  ·refine uA ?_
   refine TO.step rfl (OT.needP (L0:=L) hT hE hk (by repeat (first|exact Bad.ret|refine Bad.then ?_)) hm uS rfl rfl rfl rfl rfl rfl (fun hT hk => ?_))
   refine uA ?_
   exact ⟨(2,143,X,k + 1 + 1),uH,uH,rfl,rfl,uS,hk,goes143,hX,hT⟩
 rintro ⟨kd,ff,Y,k⟩ ⟨hk,hgo,hY,hT⟩
 simp only at hk hgo hY hT
 unfold Ps.bodyP at hT
 rw [Ps.rest_start] at hT
 refine uA ?_
 refine TO.step rfl (OT.needP (L0:=L) hT hE hk (by repeat (first|exact Bad.ret|refine Bad.then ?_)) hm uS rfl rfl rfl rfl rfl rfl (fun hT hk => ?_))
 refine TO.grow0 (size:=4) ?_
 refine TO.perm (L':=E.I (k + 1) h :: .cells b3 0 [.int .i64 kd,strV nm, .int .i64 0, .slice none 0 0] :: tok ⟨none,0,0⟩ 4 :: .cells b2 0 [.int .i64 0,strV [], .int .i64 0, .slice none 0 0] :: L) (List.Perm.trans (List.Perm.swap _ _ _) (List.Perm.cons _ (List.Perm.swap _ _ _))) ?_
 refine uA ?_
 refine TC.loopK (ι:=Sl × Mem × List Tree × Nat × Nat) [0,2,3,4] rfl (fun x=>[]) (fun x=>x.2.1) (fun x=>E.I x.2.2.2.1 h :: .cells b3 0 [.int .i64 kd,strV nm, .int .i64 0,x.1.v] :: tok x.1 4 :: .cells b2 0 [.int .i64 0,strV [], .int .i64 0, .slice none 0 0] :: L) (fun x=>m ≤ x.2.1∧E.Ok x.2.1∧x.2.2.2.1 ≤ E.toks.length∧SlRep rTree x.2.1 x.1 x.2.2.1∧Own x.1∧x.2.2.1.length + x.2.2.2.2=E.N∧T=Ps.bind (Ps.rest x.2.2.2.2 [125] (Ps.fieldP Y) x.2.2.1) (fun l=>Ps.ret (.mk kd nm 0 l)) E.f x.2.2.2.1) (fun x=>x.2.2.2.2) (⟨none,0,0⟩,m,[],k + 1,E.N) uH rfl uS ⟨hm,hE,hk,SlRep.nil _ _,Own.nil,by simp,hT⟩ ?_
 rintro ⟨s,m1,acc,k,j⟩ ⟨hm,hE,hk,hs,ho,hlen,hT⟩
 simp only at hm hE hk hs ho hlen hT
 cases j with
 | zero=>rw [Ps.rest_zero,Ps.dry_bind] at hT;exact absurd hT hn
 | succ j =>
  rw [Ps.rest_succ,Ps.tok_bind,Ps.bind_assoc,Ps.ret_bind] at hT
  refine uA ?_
  refine TO.step rfl (OT.takeP hT hE hk rfl rfl rfl rfl rfl rfl (fun hT hk => ?_) (fun hT => ?_))
  ·refine uA ?_
   refine uM ?_
   refine uA ?_
   refine TO.step rfl (OT.storeL0 tab 3 rfl rfl rfl rfl rfl rfl rfl rfl ?_)
   refine uA ?_
   refine retQ_ret_c1 tab 3 rfl rfl rfl rfl (L':=E.I (k + 1) h :: L) uS ⟨_,k + 1,[],hT,hm,hk,⟨⟨kd,nm,0,s⟩,rfl,rfl,⟨rfl,rfl,rfl,hs⟩⟩,rfl⟩
  ·unfold Ps.fieldP at hT
   simp only [Ps.name_bind,Ps.bind_assoc,Ps.need_bind,Ps.ret_bind] at hT
   refine uA ?_
   refine TO.step rfl (OT.nameP (L0:=L) hT hE hk (by repeat (first|exact Bad.ret|refine Bad.then ?_|refine Bad.block ?_)) hm uS rfl rfl rfl rfl rfl rfl (fun t hT hk => ?_))
   refine uA ?_
   refine TC.draw [10] mixed 11 rfl [.cells b3 0 [.int .i64 kd,strV nm, .int .i64 0,s.v]] (E.I (k + 1) h :: tok s 4 :: .cells b2 0 [.int .i64 0,strV [], .int .i64 0, .slice none 0 0] :: L) (List.Perm.swap _ _ _) ?_
   refine DO.pure tab uC (by kernel_rfl) [0] (by kernel_rfl) rfl ?_
   (refine DO.loadL tab 1 0 uC (by kernel_rfl) (by kernel_rfl) rfl rfl rfl rfl rfl rfl rfl rfl ?_)
   refine DO.pure tab uC (by kernel_rfl) [2,3] (by kernel_rfl) rfl ?_
   refine DO.run 4 rfl rfl (by kernel_rfl) rfl ?_
   refine OT.perm (List.Perm.swap _ _ _) (OT.parT (L0:=L) hY hm hT hn hE hk (by repeat (first|exact Bad.ret|refine Bad.then ?_|refine Bad.block ?_)) hm uS rfl rfl rfl rfl rfl rfl hgo (fun x m3 a k2 hT hm hE hle hk hr => ?_));refine ⟨hle,E.I k2 h :: tok s 4 :: .cells b2 0 [.int .i64 0,strV [], .int .i64 0, .slice none 0 0] :: L,List.Perm.swap _ _ _, ?_⟩
   refine DO.run 5 rfl rfl (by kernel_rfl) rfl ?_
   refine OT.litR tab rTree (hs:=[x]) (l:=[a]) ⟨rTree_iff.2 hr,trivial⟩ rfl rfl rfl rfl rfl (by decide) (fun s2 m4 hle2 hs2 ho2 hc2 => ?_);refine ⟨hle2,_,List.Perm.refl _, ?_⟩
   refine DO.pure tab uC (by kernel_rfl) [6] (by kernel_rfl) rfl ?_
   refine DO.run 7 rfl rfl (by kernel_rfl) rfl ?_
   refine OT.litR tab rTree (hs:=[⟨6,t,0,s2⟩]) (l:=[.mk 6 t 0 [a]]) ⟨rTree_iff.2 ⟨rfl,rfl,rfl,hs2⟩,trivial⟩ rfl rfl rfl rfl rfl (by decide) (fun s3 m5 hle3 hs3 ho3 hc3 => ?_);refine ⟨hle3,_,List.Perm.refl _, ?_⟩
   refine DO.run 8 rfl rfl (by kernel_rfl) rfl ?_
   refine OT.append tab rTree 2 (hs.mono (Mem.le_trans hle (Mem.le_trans hle2 hle3))) ho hs3 rfl rfl rfl rfl rfl rfl rfl (by simp only [List.length_append,List.length_cons,List.length_nil,rTree,mkR];omega) (fun s4 m6 hle6 hs4 ho4 => ?_);refine ⟨hle6,E.I k2 h :: tok s4 4 :: .cells b2 0 [.int .i64 0,strV [], .int .i64 0, .slice none 0 0] :: L,List.Perm.refl _, ?_⟩
   refine DO.pure tab uC (by kernel_rfl) [9] (by kernel_rfl) rfl ?_
   refine DO.tail ?_
   refine DOt.run 10 rfl rfl (by kernel_rfl) rfl ?_
   refine OT.storeL (k:=3) tab 0 rfl rfl rfl rfl rfl rfl rfl rfl ?_;refine DOt.perm (List.Perm.swap _ _ _) ?_
   refine DOt.nil (by kernel_rfl) ?_
   rotate_left 1
   replace hm:=Mem.le_trans hm (Mem.le_trans hle2 (Mem.le_trans hle3 hle6))
   replace hE:=hE.mono (Mem.le_trans hle2 (Mem.le_trans hle3 hle6))
   refine uA ?_
   refine TO.step rfl (OT.needP (L0:=L) hT hE hk (by repeat (first|exact Bad.ret|refine Bad.then ?_|refine Bad.block ?_)) hm uS rfl rfl rfl rfl rfl rfl (fun hT hk => ?_))
   refine uA ?_
   exact ⟨(s4,m6,acc++[Tree.mk 6 t 0 [a]],k2 + 1,j),uH,uH,rfl,rfl,uS,⟨hm,hE,hk,hs4,ho4,by simp only [List.length_append,List.length_cons,List.length_nil];omega,hT⟩,by simp only;omega⟩
set_option maxHeartbeats 1600000 in
theorem decl_par {X Y : Ps.Pp Tree} (hX : Par Tryz.prog mb E vTree 143 [E.v] h X) (hY : Par Tryz.prog mb E vTree 115 [E.v] h Y) :
  Par Tryz.prog mb E vTree 61 [E.v] h (Ps.declP E.N X Y):=by
 refine Par.enter Tryz.func61 rfl 49 rfl fun m L k T hm0 hE hk hT hn => ?_
 replace hX:=hX.up hm0
 replace hY:=hY.up hm0
 have hm : m ≤ m:=Mem.le_refl _
 unfold Ps.declP at hT
 refine uA ?_
 refine TO.step rfl (OT.alloc tab rfl rfl rfl rfl (fun b2 => ?_));refine TO.perm (List.Perm.swap _ _ _) ?_
 refine uA ?_
 refine TO.step rfl (OT.takeP hT hE hk rfl rfl rfl rfl rfl rfl (fun hT hk => ?_) (fun hT => ?_))
 ·refine uA ?_
  rw [← Ps.bind_ret (Ps.typeDeclP E.N X)] at hT
  refine TO.step rfl (OT.parT (L0:=L) (typeDecl_par hX) hm hT hn hE hk (by repeat (first|exact Bad.ret|refine Bad.then ?_)) hm uS rfl rfl rfl rfl rfl rfl goes111 (fun x m2 a k2 hT hm hE hlex hk hrx => ?_))
  refine uA ?_
  refine uT ?_
  refine uA ?_
  refine retQ_ret_c1 tab 1 rfl rfl rfl rfl (L':=E.I k2 h :: L) uS ⟨_,k2,[],hT,hm,hk,⟨x,rfl,rfl,hrx⟩,rfl⟩
 refine uA ?_
 refine TO.step rfl (OT.needP (L0:=L) hT hE hk (by repeat (first|exact Bad.ret|refine Bad.then ?_)) hm uS rfl rfl rfl rfl rfl rfl (fun hT hk => ?_))
 refine uA ?_
 refine TO.step rfl (OT.takeP hT hE hk rfl rfl rfl rfl rfl rfl (fun hT hk => ?_) (fun hT => ?_))
 ·refine uA ?_
  refine TO.step rfl (OT.nameP (L0:=L) hT hE hk (by repeat (first|exact Bad.ret|refine Bad.then ?_)) hm uS rfl rfl rfl rfl rfl rfl (fun recv hT hk => ?_))
  refine uA ?_
  refine TO.step rfl (OT.needP (L0:=L) hT hE hk (by repeat (first|exact Bad.ret|refine Bad.then ?_)) hm uS rfl rfl rfl rfl rfl rfl (fun hT hk => ?_))
  refine uA ?_
  refine TO.step rfl (OT.nameP (L0:=L) hT hE hk (by repeat (first|exact Bad.ret|refine Bad.then ?_)) hm uS rfl rfl rfl rfl rfl rfl (fun of hT hk => ?_))
  refine uA ?_
  refine TO.step rfl (OT.litR tab rTree (hs:=[⟨10,of,0,⟨none,0,0⟩⟩]) (l:=[Ps.leaf 10 of]) ⟨rTree_iff.2 ⟨rfl,rfl,rfl,SlRep.nil _ _⟩,trivial⟩ rfl rfl rfl rfl rfl (by decide) (fun s m2 hle hs ho hc => ?_))
  replace hm:=hle
  replace hE:=hE.mono hle
  refine uA ?_
  refine TO.step rfl (OT.alloc tab rfl rfl rfl rfl (fun b5 => ?_));refine TO.perm (List.Perm.swap _ _ _) ?_
  refine uA ?_
  refine uT ?_
  refine uA ?_
  refine TO.step rfl (OT.needP (L0:=L) hT hE hk (by repeat (first|exact Bad.ret|refine Bad.then ?_)) hm uS rfl rfl rfl rfl rfl rfl (fun hT hk => ?_))
  refine uA ?_
  refine TO.step rfl (OT.nameP (L0:=L) hT hE hk (by repeat (first|exact Bad.ret|refine Bad.then ?_)) hm uS rfl rfl rfl rfl rfl rfl (fun nm hT hk => ?_))
  refine uA ?_
  have hs0:=hs
  refine TC.draw [11] mixed 12 rfl [.cells b5 0 [.int .i64 11,strV [], .int .i64 0,s.v], .cells b2 0 [.int .i64 0,strV [], .int .i64 0, .slice none 0 0]] (E.I (k + 1 + 1 + 1 + 1 + 1 + 1 + 1) h :: L) (List.Perm.trans (List.Perm.swap _ _ _) (List.Perm.cons _ (List.Perm.swap _ _ _))) ?_
  refine DO.pure tab uC (by kernel_rfl) [0,1,5,7] (by kernel_rfl) rfl ?_
  refine DO.loadL (k:=0) tab 2 0 uC (by kernel_rfl) (by kernel_rfl) rfl rfl rfl rfl rfl rfl rfl rfl ?_
  refine DO.fork 3 [6] (by kernel_rfl) ⟨⟨_,rfl,rfl,rfl, ?_⟩,⟨_,rfl,rfl,rfl, ?_⟩,trivial⟩
  ·skip
   refine OT.litR tab rTree (hs:=[⟨11,[],0,s⟩]) (l:=[.mk 11 [] 0 [Ps.leaf 10 of]]) ⟨rTree_iff.2 ⟨rfl,rfl,rfl,hs⟩,trivial⟩ rfl rfl rfl rfl rfl (by decide) (fun s1 m1 hle1 hs1 ho1 hc1 => ?_)
   replace hm:=Mem.le_trans hm hle1
   replace hE:=hE.mono hle1
   refine ⟨hle1,_,List.Perm.refl _, ?_⟩
   refine DO.pure tab uC (by kernel_rfl) [4] (by kernel_rfl) rfl ?_
   refine DO.run 6 rfl rfl (by kernel_rfl) rfl ?_
   refine OT.perm List.perm_middle (OT.parT (L0:=L) (psig_par hX) hm hT hn hE hk (by repeat (first|exact Bad.ret|refine Bad.then ?_)) hm uS rfl rfl rfl rfl rfl rfl goes114 (fun x m3 a k2 hT hm hE hle2 hk hrx => ?_))
   refine ⟨hle2,E.I k2 h :: L,perm_mid (l:=[_,_]), ?_⟩
   refine DO.run 8 rfl rfl (by kernel_rfl) rfl ?_
   refine OT.perm List.perm_middle (OT.parT (L0:=L) hY hm hT hn hE hk (by repeat (first|exact Bad.ret|refine Bad.then ?_)) hm uS rfl rfl rfl rfl rfl rfl goes115 (fun y m4 b k3 hT hm hE hle3 hk hry => ?_))
   refine ⟨hle3,E.I k3 h :: L,perm_mid (l:=[_,_]), ?_⟩
   have hz1:=hrx.mono hle3
   have hz2:=hry
   have hz3:=hs1.mono (Mem.le_trans hle2 hle3)
   refine DO.run 9 rfl rfl (by kernel_rfl) rfl ?_
   refine OT.litR tab rTree (hs:=[⟨8,recv,0,s1⟩,x,y]) (l:=[.mk 8 recv 0 [.mk 11 [] 0 [Ps.leaf 10 of]],a,b]) ⟨rTree_iff.2 ⟨rfl,rfl,rfl,hz3⟩,rTree_iff.2 hz1,rTree_iff.2 hz2,trivial⟩ rfl rfl rfl rfl rfl (by decide) (fun s9 m9 hle9 hs9 ho9 hc9 => ?_)
   refine ⟨hle9,_,List.Perm.refl _, ?_⟩
   refine DO.pure tab uC (by kernel_rfl) [10] (by kernel_rfl) rfl ?_
   refine DO.tail ?_
   refine DOt.run 11 rfl rfl (by kernel_rfl) rfl ?_
   refine OT.storeL0 tab 1 rfl rfl rfl rfl rfl rfl rfl rfl ?_
   refine DOt.nil (by kernel_rfl) ?_
   refine uA ?_
   refine retQ_ret_c1 tab 1 rfl rfl rfl rfl (L':=E.I k3 h :: L) uS ⟨_,k3,[],hT,Mem.le_trans hm hle9,hk,⟨⟨5,nm,0,s9⟩,rfl,rfl,⟨rfl,rfl,rfl,hs9⟩⟩,rfl⟩
  ·skip
   refine OT.perm List.perm_middle (OT.parT (L0:=L) (psig_par hX) hm hT hn hE hk (by repeat (first|exact Bad.ret|refine Bad.then ?_)) hm uS rfl rfl rfl rfl rfl rfl goes114 (fun x m3 a k2 hT hm hE hle2 hk hrx => ?_))
   refine ⟨hle2,E.I k2 h :: L,perm_mid (l:=[_,_]), ?_⟩
   refine DO.fork 3 [8] (by kernel_rfl) ⟨⟨_,rfl,rfl,rfl, ?_⟩,⟨_,rfl,rfl,rfl, ?_⟩,trivial⟩
   ·skip
    refine OT.litR tab rTree (hs:=[⟨11,[],0,s⟩]) (l:=[.mk 11 [] 0 [Ps.leaf 10 of]]) ⟨rTree_iff.2 ⟨rfl,rfl,rfl,(hs.mono hle2)⟩,trivial⟩ rfl rfl rfl rfl rfl (by decide) (fun s1 m1 hle1 hs1 ho1 hc1 => ?_)
    replace hm:=Mem.le_trans hm hle1
    replace hE:=hE.mono hle1
    refine ⟨hle1,_,List.Perm.refl _, ?_⟩
    refine DO.pure tab uC (by kernel_rfl) [4] (by kernel_rfl) rfl ?_
    refine DO.run 8 rfl rfl (by kernel_rfl) rfl ?_
    refine OT.perm List.perm_middle (OT.parT (L0:=L) hY hm hT hn hE hk (by repeat (first|exact Bad.ret|refine Bad.then ?_)) hm uS rfl rfl rfl rfl rfl rfl goes115 (fun y m4 b k3 hT hm hE hle3 hk hry => ?_))
    refine ⟨hle3,E.I k3 h :: L,perm_mid (l:=[_,_]), ?_⟩
    have hz1:=hrx.mono (Mem.le_trans hle1 hle3)
    have hz2:=hry
    have hz3:=hs1.mono hle3
    refine DO.run 9 rfl rfl (by kernel_rfl) rfl ?_
    refine OT.litR tab rTree (hs:=[⟨8,recv,0,s1⟩,x,y]) (l:=[.mk 8 recv 0 [.mk 11 [] 0 [Ps.leaf 10 of]],a,b]) ⟨rTree_iff.2 ⟨rfl,rfl,rfl,hz3⟩,rTree_iff.2 hz1,rTree_iff.2 hz2,trivial⟩ rfl rfl rfl rfl rfl (by decide) (fun s9 m9 hle9 hs9 ho9 hc9 => ?_)
    refine ⟨hle9,_,List.Perm.refl _, ?_⟩
    refine DO.pure tab uC (by kernel_rfl) [10] (by kernel_rfl) rfl ?_
    refine DO.tail ?_
    refine DOt.run 11 rfl rfl (by kernel_rfl) rfl ?_
    refine OT.storeL0 tab 1 rfl rfl rfl rfl rfl rfl rfl rfl ?_
    refine DOt.nil (by kernel_rfl) ?_
    refine uA ?_
    refine retQ_ret_c1 tab 1 rfl rfl rfl rfl (L':=E.I k3 h :: L) uS ⟨_,k3,[],hT,Mem.le_trans hm hle9,hk,⟨⟨5,nm,0,s9⟩,rfl,rfl,⟨rfl,rfl,rfl,hs9⟩⟩,rfl⟩
   ·skip
    refine OT.perm List.perm_middle (OT.parT (L0:=L) hY hm hT hn hE hk (by repeat (first|exact Bad.ret|refine Bad.then ?_)) hm uS rfl rfl rfl rfl rfl rfl goes115 (fun y m4 b k3 hT hm hE hle3 hk hry => ?_))
    refine ⟨hle3,E.I k3 h :: L,perm_mid (l:=[_,_]), ?_⟩
    refine DO.run 3 rfl rfl (by kernel_rfl) rfl ?_
    refine OT.litR tab rTree (hs:=[⟨11,[],0,s⟩]) (l:=[.mk 11 [] 0 [Ps.leaf 10 of]]) ⟨rTree_iff.2 ⟨rfl,rfl,rfl,(hs.mono (Mem.le_trans hle2 hle3))⟩,trivial⟩ rfl rfl rfl rfl rfl (by decide) (fun s1 m1 hle1 hs1 ho1 hc1 => ?_)
    replace hm:=Mem.le_trans hm hle1
    replace hE:=hE.mono hle1
    refine ⟨hle1,_,List.Perm.refl _, ?_⟩
    refine DO.pure tab uC (by kernel_rfl) [4] (by kernel_rfl) rfl ?_
    have hz1:=hrx.mono (Mem.le_trans hle3 hle1)
    have hz2:=hry.mono hle1
    have hz3:=hs1
    refine DO.run 9 rfl rfl (by kernel_rfl) rfl ?_
    refine OT.litR tab rTree (hs:=[⟨8,recv,0,s1⟩,x,y]) (l:=[.mk 8 recv 0 [.mk 11 [] 0 [Ps.leaf 10 of]],a,b]) ⟨rTree_iff.2 ⟨rfl,rfl,rfl,hz3⟩,rTree_iff.2 hz1,rTree_iff.2 hz2,trivial⟩ rfl rfl rfl rfl rfl (by decide) (fun s9 m9 hle9 hs9 ho9 hc9 => ?_)
    refine ⟨hle9,_,List.Perm.refl _, ?_⟩
    refine DO.pure tab uC (by kernel_rfl) [10] (by kernel_rfl) rfl ?_
    refine DO.tail ?_
    refine DOt.run 11 rfl rfl (by kernel_rfl) rfl ?_
    refine OT.storeL0 tab 1 rfl rfl rfl rfl rfl rfl rfl rfl ?_
    refine DOt.nil (by kernel_rfl) ?_
    refine uA ?_
    refine retQ_ret_c1 tab 1 rfl rfl rfl rfl (L':=E.I k3 h :: L) uS ⟨_,k3,[],hT,Mem.le_trans hm hle9,hk,⟨⟨5,nm,0,s9⟩,rfl,rfl,⟨rfl,rfl,rfl,hs9⟩⟩,rfl⟩
 ·refine uA ?_
  refine TO.step rfl (OT.nameP (L0:=L) hT hE hk (by repeat (first|exact Bad.ret|refine Bad.then ?_)) hm uS rfl rfl rfl rfl rfl rfl (fun nm hT hk => ?_))
  refine uA ?_
  refine TO.step rfl (OT.parT (L0:=L) (psig_par hX) hm hT hn hE hk (by repeat (first|exact Bad.ret|refine Bad.then ?_)) hm uS rfl rfl rfl rfl rfl rfl goes114 (fun x m2 a k2 hT hm hE hlex hk hrx => ?_))
  refine uA ?_
  refine TO.step rfl (OT.parT (L0:=L) (hY) hm hT hn hE hk (by repeat (first|exact Bad.ret|refine Bad.then ?_)) hm uS rfl rfl rfl rfl rfl rfl goes115 (fun y m3 b k3 hT hm hE hley hk hry => ?_))
  refine uA ?_
  refine TO.step rfl (OT.litR tab rTree (hs:=[x,y]) (l:=[a,b]) ⟨rTree_iff.2 (hrx.mono hley),rTree_iff.2 hry,trivial⟩ rfl rfl rfl rfl rfl (by decide) (fun s m4 hle hs ho hc => ?_))
  refine uA ?_
  refine uT ?_
  refine uA ?_
  refine retQ_ret_c1 tab 1 rfl rfl rfl rfl (L':=E.I k3 h :: L) uS ⟨_,k3,[],hT,Mem.le_trans hm hle,hk,⟨⟨4,nm,0,s⟩,rfl,rfl,⟨rfl,rfl,rfl,hs⟩⟩,rfl⟩
end
end Go.Sep


/- PsW8 -/
set_option linter.unusedVariables false
set_option linter.unusedSimpArgs false
namespace Go.Sep
open Go.Proofs
attribute [local irreducible] TC TO OT TCallX TCall DO DOt thenQ blockQ retQ At
section
variable {mb : Mem} {E : PE}
theorem cond_par {X : Ps.Pp Tree} (hX : Par Tryz.prog mb E vTree 191 [E.v] 1 X) :
  Par Tryz.prog mb E vTree 177 [E.v] 0 X:=by
 refine Par.enter Tryz.func177 rfl 13 rfl fun m L k T hm0 hE hk hT hn => ?_
 replace hX:=hX.up hm0
 have hm : m ≤ m:=Mem.le_refl _
 rw [← Ps.bind_ret X] at hT
 refine uA ?_
 refine TO.step rfl (OT.alloc tab rfl rfl rfl rfl (fun b2 => ?_));refine TO.perm (List.Perm.swap _ _ _) ?_
 refine uA ?_
 refine TO.step rfl (OT.storeL (k:=3) tab 0 rfl rfl rfl rfl rfl rfl rfl rfl ?_)
 refine uA ?_
 refine TO.step rfl (OT.parT (L0:=L) (hX) hm hT hn hE hk (by repeat (first|exact Bad.ret|refine Bad.then ?_)) hm uS rfl rfl rfl rfl rfl rfl goes191 (fun x m2 a k2 hT hm hE hlex hk hrx => ?_))
 refine uA ?_
 refine TO.step rfl (OT.alloc tab rfl rfl rfl rfl (fun b3 => ?_));refine TO.perm (List.Perm.swap _ _ _) ?_
 refine uA ?_
 refine uT ?_
 refine uA ?_
 refine TO.step rfl (OT.storeL (k:=3) tab 0 rfl rfl rfl rfl rfl rfl rfl rfl ?_)
 refine uA ?_
 refine uM ?_
 refine uA ?_
 refine TO.step rfl (OT.storeL0 tab 2 rfl rfl rfl rfl rfl rfl rfl rfl ?_)
 refine uA ?_
 refine retQ_ret_c1 tab 2 rfl rfl rfl rfl (L':=E.I k2 0 :: L) uS ⟨_,k2,[],hT,hm,hk,⟨x,rfl,rfl,hrx⟩,rfl⟩
set_option maxHeartbeats 1600000 in
theorem branch_par {X Y Z : Ps.Pp Tree} (hX : Par Tryz.prog mb E vTree 191 [E.v] 1 X) (hY : Par Tryz.prog mb E vTree 115 [E.v] 0 Y) (hZ : Par Tryz.prog mb E vTree 176 [E.v] 0 Z) :
  Par Tryz.prog mb E vTree 176 [E.v] 0 (Ps.branchP X Y Z):=by
 refine Par.enter Tryz.func176 rfl 36 rfl fun m L k T hm0 hE hk hT hn => ?_
 replace hX:=hX.up hm0
 replace hY:=hY.up hm0
 replace hZ:=hZ.up hm0
 have hm : m ≤ m:=Mem.le_refl _
 unfold Ps.branchP at hT
 refine uA ?_
 refine TO.step rfl (OT.alloc tab rfl rfl rfl rfl (fun b2 => ?_));refine TO.perm (List.Perm.swap _ _ _) ?_
 refine uA ?_
 refine TO.step rfl (OT.needP (L0:=L) hT hE hk (by repeat (first|exact Bad.ret|refine Bad.then ?_)) hm uS rfl rfl rfl rfl rfl rfl (fun hT hk => ?_))
 refine uA ?_
 refine TO.step rfl (OT.parT (L0:=L) (cond_par hX) hm hT hn hE hk (by repeat (first|exact Bad.ret|refine Bad.then ?_)) hm uS rfl rfl rfl rfl rfl rfl goes177 (fun x m2 c k2 hT hm hE hlex hk hrx => ?_))
 refine uA ?_
 refine TO.step rfl (OT.litR tab rTree (hs:=[x]) (l:=[c]) ⟨rTree_iff.2 hrx,trivial⟩ rfl rfl rfl rfl rfl (by decide) (fun s m3 hle3 hs ho hc => ?_))
 replace hm:=Mem.le_trans hm hle3
 replace hE:=hE.mono hle3
 refine TO.tokFo hc ho 4 ?_
 refine TO.perm (List.Perm.swap _ _ _) ?_
 refine uA ?_
 refine TO.step rfl (OT.alloc tab rfl rfl rfl rfl (fun b3 => ?_));refine TO.perm (List.Perm.swap _ _ _) ?_
 refine uA ?_
 refine uT ?_
 refine uA ?_
 refine TC.draw [7] mixed 8 rfl [.cells b3 0 [.int .i64 25,strV [], .int .i64 0,s.v]] (E.I k2 0 :: tok s 4 :: .cells b2 0 [.int .i64 0,strV [], .int .i64 0, .slice none 0 0] :: L) (List.Perm.swap _ _ _) ?_
 refine DO.pure tab uC (by kernel_rfl) [0] (by kernel_rfl) rfl ?_
 (refine DO.loadL tab 1 0 uC (by kernel_rfl) (by kernel_rfl) rfl rfl rfl rfl rfl rfl rfl rfl ?_)
 refine DO.pure tab uC (by kernel_rfl) [2] (by kernel_rfl) rfl ?_
 refine DO.run 3 rfl rfl (by kernel_rfl) rfl ?_
 refine OT.perm (List.Perm.swap _ _ _) (OT.parT (L0:=L) (hY) hm hT hn hE hk (by repeat (first|exact Bad.ret|refine Bad.then ?_)) hm uS rfl rfl rfl rfl rfl rfl goes115 (fun x3 mA a3 k3 hT hm hE hleA hk hr3 => ?_));refine ⟨hleA,E.I k3 0 :: tok s 4 :: .cells b2 0 [.int .i64 0,strV [], .int .i64 0, .slice none 0 0] :: L,List.Perm.swap _ _ _, ?_⟩
 refine DO.run 4 rfl rfl (by kernel_rfl) rfl ?_
 refine OT.litR tab rTree (hs:=[x3]) (l:=[a3]) ⟨rTree_iff.2 hr3,trivial⟩ rfl rfl rfl rfl rfl (by decide) (fun sB mB hleB hsB hoB hcB => ?_);refine ⟨hleB,_,List.Perm.refl _, ?_⟩
 refine DO.run 5 rfl rfl (by kernel_rfl) rfl ?_
 refine OT.append tab rTree 2 (hs.mono (Mem.le_trans hleA hleB)) ho hsB rfl rfl rfl rfl rfl rfl rfl (by simp only [List.length_append,List.length_cons,List.length_nil,rTree,mkR];omega) (fun s3 mC hleC hs3 ho3 => ?_);refine ⟨hleC,E.I k3 0 :: tok s3 4 :: .cells b2 0 [.int .i64 0,strV [], .int .i64 0, .slice none 0 0] :: L,List.Perm.refl _, ?_⟩
 refine DO.pure tab uC (by kernel_rfl) [6] (by kernel_rfl) rfl ?_
 refine DO.tail ?_
 refine DOt.run 7 rfl rfl (by kernel_rfl) rfl ?_
 refine OT.storeL (k:=3) tab 0 rfl rfl rfl rfl rfl rfl rfl rfl ?_;refine DOt.perm (List.Perm.swap _ _ _) ?_
 refine DOt.nil (by kernel_rfl) ?_
 rotate_left 1
 replace hm:=Mem.le_trans hm (Mem.le_trans hleB hleC)
 replace hE:=hE.mono (Mem.le_trans hleB hleC)
 refine uA ?_
 refine TO.step rfl (OT.takeP hT hE hk rfl rfl rfl rfl rfl rfl (fun hT hk => ?_) (fun hT => ?_))
 ·refine uA ?_
  refine TO.step rfl (OT.peekP hT hE hk rfl rfl rfl rfl rfl rfl (fun hT => ?_) (fun hT => ?_))
  ·refine uA ?_
   refine TC.draw [7] mixed 8 rfl [.cells b3 0 [.int .i64 25,strV [], .int .i64 0,s3.v]] (E.I (k3+1) 0 :: tok s3 4 :: .cells b2 0 [.int .i64 0,strV [], .int .i64 0, .slice none 0 0] :: L) (List.Perm.swap _ _ _) ?_
   refine DO.pure tab uC (by kernel_rfl) [0] (by kernel_rfl) rfl ?_
   (refine DO.loadL tab 1 0 uC (by kernel_rfl) (by kernel_rfl) rfl rfl rfl rfl rfl rfl rfl rfl ?_)
   refine DO.pure tab uC (by kernel_rfl) [2] (by kernel_rfl) rfl ?_
   refine DO.run 3 rfl rfl (by kernel_rfl) rfl ?_
   refine OT.perm (List.Perm.swap _ _ _) (OT.parT (L0:=L) (hZ) hm hT hn hE hk (by repeat (first|exact Bad.ret|refine Bad.then ?_)) hm uS rfl rfl rfl rfl rfl rfl goes176 (fun x4 mA a4 k4 hT hm hE hleA hk hr4 => ?_));refine ⟨hleA,E.I k4 0 :: tok s3 4 :: .cells b2 0 [.int .i64 0,strV [], .int .i64 0, .slice none 0 0] :: L,List.Perm.swap _ _ _, ?_⟩
   refine DO.run 4 rfl rfl (by kernel_rfl) rfl ?_
   refine OT.litR tab rTree (hs:=[x4]) (l:=[a4]) ⟨rTree_iff.2 hr4,trivial⟩ rfl rfl rfl rfl rfl (by decide) (fun sB mB hleB hsB hoB hcB => ?_);refine ⟨hleB,_,List.Perm.refl _, ?_⟩
   refine DO.run 5 rfl rfl (by kernel_rfl) rfl ?_
   refine OT.append tab rTree 2 (hs3.mono (Mem.le_trans hleA hleB)) ho3 hsB rfl rfl rfl rfl rfl rfl rfl (by simp only [List.length_append,List.length_cons,List.length_nil,rTree,mkR];omega) (fun s4 mC hleC hs4 ho4 => ?_);refine ⟨hleC,E.I k4 0 :: tok s4 4 :: .cells b2 0 [.int .i64 0,strV [], .int .i64 0, .slice none 0 0] :: L,List.Perm.refl _, ?_⟩
   refine DO.pure tab uC (by kernel_rfl) [6] (by kernel_rfl) rfl ?_
   refine DO.tail ?_
   refine DOt.run 7 rfl rfl (by kernel_rfl) rfl ?_
   refine OT.storeL (k:=3) tab 0 rfl rfl rfl rfl rfl rfl rfl rfl ?_;refine DOt.perm (List.Perm.swap _ _ _) ?_
   refine DOt.nil (by kernel_rfl) ?_
   rotate_left 1
   replace hm:=Mem.le_trans hm (Mem.le_trans hleB hleC)
   replace hE:=hE.mono (Mem.le_trans hleB hleC)
   refine uA ?_
   refine uM ?_
   refine uA ?_
   refine TO.step rfl (OT.storeL0 tab 3 rfl rfl rfl rfl rfl rfl rfl rfl ?_)
   refine uA ?_
   refine retQ_ret_c1 tab 3 rfl rfl rfl rfl (L':=E.I k4 0 :: L) uS ⟨_,k4,[],hT,hm,hk,⟨⟨25,[],0,s4⟩,rfl,rfl,⟨rfl,rfl,rfl,hs4⟩⟩,rfl⟩
  ·refine uA ?_
   refine TC.draw [7] mixed 8 rfl [.cells b3 0 [.int .i64 25,strV [], .int .i64 0,s3.v]] (E.I (k3+1) 0 :: tok s3 4 :: .cells b2 0 [.int .i64 0,strV [], .int .i64 0, .slice none 0 0] :: L) (List.Perm.swap _ _ _) ?_
   refine DO.pure tab uC (by kernel_rfl) [0] (by kernel_rfl) rfl ?_
   (refine DO.loadL tab 1 0 uC (by kernel_rfl) (by kernel_rfl) rfl rfl rfl rfl rfl rfl rfl rfl ?_)
   refine DO.pure tab uC (by kernel_rfl) [2] (by kernel_rfl) rfl ?_
   refine DO.run 3 rfl rfl (by kernel_rfl) rfl ?_
   refine OT.perm (List.Perm.swap _ _ _) (OT.parT (L0:=L) (hY) hm hT hn hE hk (by repeat (first|exact Bad.ret|refine Bad.then ?_)) hm uS rfl rfl rfl rfl rfl rfl goes115 (fun x4 mA a4 k4 hT hm hE hleA hk hr4 => ?_));refine ⟨hleA,E.I k4 0 :: tok s3 4 :: .cells b2 0 [.int .i64 0,strV [], .int .i64 0, .slice none 0 0] :: L,List.Perm.swap _ _ _, ?_⟩
   refine DO.run 4 rfl rfl (by kernel_rfl) rfl ?_
   refine OT.litR tab rTree (hs:=[x4]) (l:=[a4]) ⟨rTree_iff.2 hr4,trivial⟩ rfl rfl rfl rfl rfl (by decide) (fun sB mB hleB hsB hoB hcB => ?_);refine ⟨hleB,_,List.Perm.refl _, ?_⟩
   refine DO.run 5 rfl rfl (by kernel_rfl) rfl ?_
   refine OT.append tab rTree 2 (hs3.mono (Mem.le_trans hleA hleB)) ho3 hsB rfl rfl rfl rfl rfl rfl rfl (by simp only [List.length_append,List.length_cons,List.length_nil,rTree,mkR];omega) (fun s4 mC hleC hs4 ho4 => ?_);refine ⟨hleC,E.I k4 0 :: tok s4 4 :: .cells b2 0 [.int .i64 0,strV [], .int .i64 0, .slice none 0 0] :: L,List.Perm.refl _, ?_⟩
   refine DO.pure tab uC (by kernel_rfl) [6] (by kernel_rfl) rfl ?_
   refine DO.tail ?_
   refine DOt.run 7 rfl rfl (by kernel_rfl) rfl ?_
   refine OT.storeL (k:=3) tab 0 rfl rfl rfl rfl rfl rfl rfl rfl ?_;refine DOt.perm (List.Perm.swap _ _ _) ?_
   refine DOt.nil (by kernel_rfl) ?_
   rotate_left 1
   replace hm:=Mem.le_trans hm (Mem.le_trans hleB hleC)
   replace hE:=hE.mono (Mem.le_trans hleB hleC)
   refine uA ?_
   refine uM ?_
   refine uA ?_
   refine TO.step rfl (OT.storeL0 tab 3 rfl rfl rfl rfl rfl rfl rfl rfl ?_)
   refine uA ?_
   refine retQ_ret_c1 tab 3 rfl rfl rfl rfl (L':=E.I k4 0 :: L) uS ⟨_,k4,[],hT,hm,hk,⟨⟨25,[],0,s4⟩,rfl,rfl,⟨rfl,rfl,rfl,hs4⟩⟩,rfl⟩
 ·refine uA ?_
  refine uM ?_
  refine uA ?_
  refine TO.step rfl (OT.storeL0 tab 3 rfl rfl rfl rfl rfl rfl rfl rfl ?_)
  refine uA ?_
  refine retQ_ret_c1 tab 3 rfl rfl rfl rfl (L':=E.I k3 0 :: L) uS ⟨_,k3,[],hT,hm,hk,⟨⟨25,[],0,s3⟩,rfl,rfl,⟨rfl,rfl,rfl,hs3⟩⟩,rfl⟩
set_option maxHeartbeats 1600000 in
theorem stmt_par {X Y Z S : Ps.Pp Tree} (hX : Par Tryz.prog mb E vTree 191 [E.v] 1 X) (hY : Par Tryz.prog mb E vTree 115 [E.v] 0 Y) (hZ : Par Tryz.prog mb E vTree 176 [E.v] 0 Z)
  (hS : Par Tryz.prog mb E vTree 178 [E.v] 0 S) :
  Par Tryz.prog mb E vTree 149 [E.v] 0 (Ps.peek (Ps.isM [123]) Y (Ps.peek (Ps.isM [105,102]) Z (Ps.tok [102,111,114] (Ps.forP X Y) (Ps.bind S fun s=>Ps.need [59] (Ps.ret s))))):=by
 refine Par.enter Tryz.func149 rfl 42 rfl fun m L k T hm0 hE hk hT hn => ?_
 replace hX:=hX.up hm0
 replace hY:=hY.up hm0
 replace hZ:=hZ.up hm0
 replace hS:=hS.up hm0
 have hm : m ≤ m:=Mem.le_refl _
 refine uA ?_
 refine TO.step rfl (OT.alloc tab rfl rfl rfl rfl (fun b2 => ?_));refine TO.perm (List.Perm.swap _ _ _) ?_
 refine uA ?_
 refine TO.step rfl (OT.peekP hT hE hk rfl rfl rfl rfl rfl rfl (fun hT => ?_) (fun hT => ?_))
 ·rw [← Ps.bind_ret Y] at hT
  refine uA ?_
  refine TO.step rfl (OT.parT (L0:=L) (hY) hm hT hn hE hk (by repeat (first|exact Bad.ret|refine Bad.then ?_|refine Bad.block ?_)) hm uS rfl rfl rfl rfl rfl rfl goes115 (fun x m2 a k2 hT hm hE hlex hk hrx => ?_))
  refine uA ?_
  refine uT ?_
  refine uA ?_
  refine retQ_ret_c1 tab 1 rfl rfl rfl rfl (L':=E.I k2 0 :: L) uS ⟨_,k2,[],hT,hm,hk,⟨x,rfl,rfl,hrx⟩,rfl⟩
 refine uA ?_
 refine TO.step rfl (OT.peekP hT hE hk rfl rfl rfl rfl rfl rfl (fun hT => ?_) (fun hT => ?_))
 ·rw [← Ps.bind_ret Z] at hT
  refine uA ?_
  refine TO.step rfl (OT.parT (L0:=L) (hZ) hm hT hn hE hk (by repeat (first|exact Bad.ret|refine Bad.then ?_|refine Bad.block ?_)) hm uS rfl rfl rfl rfl rfl rfl goes176 (fun x m2 a k2 hT hm hE hlex hk hrx => ?_))
  refine uA ?_
  refine uT ?_
  refine uA ?_
  refine retQ_ret_c1 tab 1 rfl rfl rfl rfl (L':=E.I k2 0 :: L) uS ⟨_,k2,[],hT,hm,hk,⟨x,rfl,rfl,hrx⟩,rfl⟩
 refine uA ?_
 refine TO.step rfl (OT.takeP hT hE hk rfl rfl rfl rfl rfl rfl (fun hT hk => ?_) (fun hT => ?_))
 ·unfold Ps.forP at hT
  refine uA ?_
  refine TO.step rfl (OT.alloc tab rfl rfl rfl rfl (fun b3 => ?_));refine TO.perm (List.Perm.swap _ _ _) ?_
  refine uA ?_
  refine uT ?_
  refine TO.grow0 (size:=4) ?_
  refine TO.perm (L':=E.I (k + 1) 0 :: .cells b3 0 [.int .i64 26,strV [], .int .i64 0, .slice none 0 0] :: tok ⟨none,0,0⟩ 4 :: .cells b2 0 [.int .i64 0,strV [], .int .i64 0, .slice none 0 0] :: L) (List.Perm.trans (List.Perm.swap _ _ _) (List.Perm.cons _ (List.Perm.swap _ _ _))) ?_
  obtain ⟨s,hse⟩ : ∃ s : Sl,s = ⟨none,0,0⟩:=⟨_,rfl⟩
  have hs : SlRep rTree m s []:=by rw [hse];exact SlRep.nil _ _
  have ho : Own s:=by rw [hse];exact Own.nil
  rw [show Value.slice none 0 0=(⟨none,0,0⟩ : Sl).v from rfl,← hse]
  refine uA ?_
  refine TO.step rfl (OT.peekP hT hE hk rfl rfl rfl rfl rfl rfl (fun hT => ?_) (fun hT => ?_))
  ·refine uA ?_
   refine TC.draw [7] mixed 8 rfl [.cells b3 0 [.int .i64 26,strV [], .int .i64 0,s.v]] (E.I (k+1) 0 :: tok s 4 :: .cells b2 0 [.int .i64 0,strV [], .int .i64 0,s.v] :: L) (List.Perm.swap _ _ _) ?_
   refine DO.pure tab uC (by kernel_rfl) [0] (by kernel_rfl) rfl ?_
   (refine DO.loadL tab 1 0 uC (by kernel_rfl) (by kernel_rfl) rfl rfl rfl rfl rfl rfl rfl rfl ?_)
   refine DO.pure tab uC (by kernel_rfl) [2] (by kernel_rfl) rfl ?_
   refine DO.run 3 rfl rfl (by kernel_rfl) rfl ?_
   refine OT.perm (List.Perm.swap _ _ _) (OT.parT (L0:=L) (hY) hm hT hn hE hk (by repeat (first|exact Bad.ret|refine Bad.then ?_|refine Bad.block ?_)) hm uS rfl rfl rfl rfl rfl rfl goes115 (fun x4 mA a4 k4 hT hm hE hleA hk hr4 => ?_));refine ⟨hleA,E.I k4 0 :: tok s 4 :: .cells b2 0 [.int .i64 0,strV [], .int .i64 0,s.v] :: L,List.Perm.swap _ _ _, ?_⟩
   refine DO.run 4 rfl rfl (by kernel_rfl) rfl ?_
   refine OT.litR tab rTree (hs:=[x4]) (l:=[a4]) ⟨rTree_iff.2 hr4,trivial⟩ rfl rfl rfl rfl rfl (by decide) (fun sB mB hleB hsB hoB hcB => ?_);refine ⟨hleB,_,List.Perm.refl _, ?_⟩
   refine DO.run 5 rfl rfl (by kernel_rfl) rfl ?_
   refine OT.append tab rTree 2 (hs.mono (Mem.le_trans hleA hleB)) ho hsB rfl rfl rfl rfl rfl rfl rfl (by simp only [List.length_append,List.length_cons,List.length_nil,rTree,mkR];omega) (fun s4 mC hleC hs4 ho4 => ?_);refine ⟨hleC,E.I k4 0 :: tok s4 4 :: .cells b2 0 [.int .i64 0,strV [], .int .i64 0,s.v] :: L,List.Perm.refl _, ?_⟩
   refine DO.pure tab uC (by kernel_rfl) [6] (by kernel_rfl) rfl ?_
   refine DO.tail ?_
   refine DOt.run 7 rfl rfl (by kernel_rfl) rfl ?_
   refine OT.storeL (k:=3) tab 0 rfl rfl rfl rfl rfl rfl rfl rfl ?_;refine DOt.perm (List.Perm.swap _ _ _) ?_
   refine DOt.nil (by kernel_rfl) ?_
   rotate_left 1
   replace hm:=Mem.le_trans hm (Mem.le_trans hleB hleC)
   replace hE:=hE.mono (Mem.le_trans hleB hleC)
   refine uA ?_
   refine uM ?_
   refine uA ?_
   refine TO.step rfl (OT.storeL0 tab 3 rfl rfl rfl rfl rfl rfl rfl rfl ?_)
   refine uA ?_
   refine retQ_ret_c1 tab 3 rfl rfl rfl rfl (L':=E.I k4 0 :: L) uS ⟨_,k4,[],hT,hm,hk,⟨⟨26,[],0,s4⟩,rfl,rfl,⟨rfl,rfl,rfl,hs4⟩⟩,rfl⟩
  ·refine uA ?_
   refine TC.draw [7] mixed 8 rfl [.cells b3 0 [.int .i64 26,strV [], .int .i64 0,s.v]] (E.I (k+1) 0 :: tok s 4 :: .cells b2 0 [.int .i64 0,strV [], .int .i64 0,s.v] :: L) (List.Perm.swap _ _ _) ?_
   refine DO.pure tab uC (by kernel_rfl) [0] (by kernel_rfl) rfl ?_
   (refine DO.loadL tab 1 0 uC (by kernel_rfl) (by kernel_rfl) rfl rfl rfl rfl rfl rfl rfl rfl ?_)
   refine DO.pure tab uC (by kernel_rfl) [2] (by kernel_rfl) rfl ?_
   refine DO.run 3 rfl rfl (by kernel_rfl) rfl ?_
   refine OT.perm (List.Perm.swap _ _ _) (OT.parT (L0:=L) (cond_par hX) hm hT hn hE hk (by repeat (first|exact Bad.ret|refine Bad.then ?_|refine Bad.block ?_)) hm uS rfl rfl rfl rfl rfl rfl goes177 (fun x3 mA a3 k3 hT hm hE hleA hk hr3 => ?_));refine ⟨hleA,E.I k3 0 :: tok s 4 :: .cells b2 0 [.int .i64 0,strV [], .int .i64 0,s.v] :: L,List.Perm.swap _ _ _, ?_⟩
   refine DO.run 4 rfl rfl (by kernel_rfl) rfl ?_
   refine OT.litR tab rTree (hs:=[x3]) (l:=[a3]) ⟨rTree_iff.2 hr3,trivial⟩ rfl rfl rfl rfl rfl (by decide) (fun sB mB hleB hsB hoB hcB => ?_);refine ⟨hleB,_,List.Perm.refl _, ?_⟩
   refine DO.run 5 rfl rfl (by kernel_rfl) rfl ?_
   refine OT.append tab rTree 2 (hs.mono (Mem.le_trans hleA hleB)) ho hsB rfl rfl rfl rfl rfl rfl rfl (by simp only [List.length_append,List.length_cons,List.length_nil,rTree,mkR];omega) (fun s3 mC hleC hs3 ho3 => ?_);refine ⟨hleC,E.I k3 0 :: tok s3 4 :: .cells b2 0 [.int .i64 0,strV [], .int .i64 0,s.v] :: L,List.Perm.refl _, ?_⟩
   refine DO.pure tab uC (by kernel_rfl) [6] (by kernel_rfl) rfl ?_
   refine DO.tail ?_
   refine DOt.run 7 rfl rfl (by kernel_rfl) rfl ?_
   refine OT.storeL (k:=3) tab 0 rfl rfl rfl rfl rfl rfl rfl rfl ?_;refine DOt.perm (List.Perm.swap _ _ _) ?_
   refine DOt.nil (by kernel_rfl) ?_
   rotate_left 1
   replace hm:=Mem.le_trans hm (Mem.le_trans hleB hleC)
   replace hE:=hE.mono (Mem.le_trans hleB hleC)
   refine uA ?_
   refine TC.draw [7] mixed 8 rfl [.cells b3 0 [.int .i64 26,strV [], .int .i64 0,s3.v]] (E.I k3 0 :: tok s3 4 :: .cells b2 0 [.int .i64 0,strV [], .int .i64 0,s.v] :: L) (List.Perm.swap _ _ _) ?_
   refine DO.pure tab uC (by kernel_rfl) [0] (by kernel_rfl) rfl ?_
   (refine DO.loadL tab 1 0 uC (by kernel_rfl) (by kernel_rfl) rfl rfl rfl rfl rfl rfl rfl rfl ?_)
   refine DO.pure tab uC (by kernel_rfl) [2] (by kernel_rfl) rfl ?_
   refine DO.run 3 rfl rfl (by kernel_rfl) rfl ?_
   refine OT.perm (List.Perm.swap _ _ _) (OT.parT (L0:=L) (hY) hm hT hn hE hk (by repeat (first|exact Bad.ret|refine Bad.then ?_|refine Bad.block ?_)) hm uS rfl rfl rfl rfl rfl rfl goes115 (fun x4 mA a4 k4 hT hm hE hleA hk hr4 => ?_));refine ⟨hleA,E.I k4 0 :: tok s3 4 :: .cells b2 0 [.int .i64 0,strV [], .int .i64 0,s.v] :: L,List.Perm.swap _ _ _, ?_⟩
   refine DO.run 4 rfl rfl (by kernel_rfl) rfl ?_
   refine OT.litR tab rTree (hs:=[x4]) (l:=[a4]) ⟨rTree_iff.2 hr4,trivial⟩ rfl rfl rfl rfl rfl (by decide) (fun sB mB hleB hsB hoB hcB => ?_);refine ⟨hleB,_,List.Perm.refl _, ?_⟩
   refine DO.run 5 rfl rfl (by kernel_rfl) rfl ?_
   refine OT.append tab rTree 2 (hs3.mono (Mem.le_trans hleA hleB)) ho3 hsB rfl rfl rfl rfl rfl rfl rfl (by simp only [List.length_append,List.length_cons,List.length_nil,rTree,mkR];omega) (fun s4 mC hleC hs4 ho4 => ?_);refine ⟨hleC,E.I k4 0 :: tok s4 4 :: .cells b2 0 [.int .i64 0,strV [], .int .i64 0,s.v] :: L,List.Perm.refl _, ?_⟩
   refine DO.pure tab uC (by kernel_rfl) [6] (by kernel_rfl) rfl ?_
   refine DO.tail ?_
   refine DOt.run 7 rfl rfl (by kernel_rfl) rfl ?_
   refine OT.storeL (k:=3) tab 0 rfl rfl rfl rfl rfl rfl rfl rfl ?_;refine DOt.perm (List.Perm.swap _ _ _) ?_
   refine DOt.nil (by kernel_rfl) ?_
   rotate_left 1
   replace hm:=Mem.le_trans hm (Mem.le_trans hleB hleC)
   replace hE:=hE.mono (Mem.le_trans hleB hleC)
   refine uA ?_
   refine uM ?_
   refine uA ?_
   refine TO.step rfl (OT.storeL0 tab 3 rfl rfl rfl rfl rfl rfl rfl rfl ?_)
   refine uA ?_
   refine retQ_ret_c1 tab 3 rfl rfl rfl rfl (L':=E.I k4 0 :: L) uS ⟨_,k4,[],hT,hm,hk,⟨⟨26,[],0,s4⟩,rfl,rfl,⟨rfl,rfl,rfl,hs4⟩⟩,rfl⟩
 refine uA ?_
 refine TO.step rfl (OT.parT (L0:=L) (hS) hm hT hn hE hk (by repeat (first|exact Bad.ret|refine Bad.then ?_)) hm uS rfl rfl rfl rfl rfl rfl goes178 (fun x m2 a k2 hT hm hE hlex hk hrx => ?_))
 refine uA ?_
 refine TO.step rfl (OT.alloc tab rfl rfl rfl rfl (fun b4 => ?_));refine TO.perm (List.Perm.swap _ _ _) ?_
 refine uA ?_
 refine uT ?_
 refine uA ?_
 refine TO.step rfl (OT.needP (L0:=L) hT hE hk (by repeat (first|exact Bad.ret|refine Bad.then ?_)) hm uS rfl rfl rfl rfl rfl rfl (fun hT hk => ?_))
 refine uA ?_
 refine uM ?_
 refine uA ?_
 refine TO.step rfl (OT.storeL0 tab 2 rfl rfl rfl rfl rfl rfl rfl rfl ?_)
 refine uA ?_
 refine retQ_ret_c1 tab 2 rfl rfl rfl rfl (L':=E.I (k2 + 1) 0 :: L) uS ⟨_,k2 + 1,[],hT,hm,hk,⟨x,rfl,rfl,hrx⟩,rfl⟩
end
end Go.Sep


/- PsW9 -/
set_option linter.unusedVariables false
set_option linter.unusedSimpArgs false
namespace Go.Ps
theorem tokIf_eq {α : Type} (c : Bool) (s : Sep.Str) (A B : Pp α) (f : F) (k : Nat) : tokIf c s A B f k=bif (isM s f k && c) then A f (k + 1) else B f k:=by
 unfold tokIf tok
 cases c <;> cases h : isM s f k <;> simp [h]
end Go.Ps
namespace Go.Sep
open Go.Proofs
attribute [local irreducible] TC TO OT TCallX TCall DO DOt thenQ blockQ retQ At
section
variable {mb : Mem} {E : PE}
theorem perm_simple {α : Type} {e t n s b : α} {l : List α} : (e :: t :: n :: s :: b :: l).Perm ([n]++(e :: s :: b :: t :: l)):=by
 refine List.Perm.trans (List.Perm.cons _ (List.Perm.swap _ _ _)) (List.Perm.trans (List.Perm.swap _ _ _) (List.Perm.cons _ (List.Perm.cons _ ?_)))
 exact List.Perm.trans (List.Perm.swap _ _ _) (List.Perm.cons _ (List.Perm.swap _ _ _))
def Tells (fn : FuncId) (p : Tree→Bool) : Prop:=Goes Tryz.prog fn ∧ ∀ (m : Mem) (L : List Item) (h : HTree) (a : Tree),TreeRep m h a→TCall Tryz.prog fn ⟨[treeV h]⟩ m L (Ret (.bool (p a)) m L)
theorem isNm_tells : Tells 193 Ps.isNm:=by
 refine ⟨goes193,fun m L h a hr => ?_⟩
 obtain ⟨h1,h2,h3,h4⟩:=hr
 unfold TCall
 refine TCallX.enter Tryz.func193 rfl 6 rfl ?_
 refine uA ?_
 refine TO.step rfl (OT.box rfl rfl rfl rfl rfl (fun b => ?_))
 refine uL ?_
 refine retQ_ret rfl uS ⟨rfl,rfl, ?_⟩
 unfold Ps.isNm
 rw [h1]
set_option maxHeartbeats 800000 in
theorem isPl_tells : Tells 181 Ps.isPl:=by
 refine ⟨goes181,fun m L h a hr => ?_⟩
 obtain ⟨h1,h2,h3,h4⟩:=hr
 unfold TCall
 refine TCallX.enter Tryz.func181 rfl 26 rfl ?_
 refine uA ?_
 refine TO.step rfl (OT.box rfl rfl rfl rfl rfl (fun b => ?_))
 repeat' (first|(first|refine q1 ?_|refine q3 ?_|refine q4 tab rfl rfl ?_|refine q5 ?_|refine q6 ?_|refine q15 ?_)|(refine qs rfl (ql tab 0 rfl rfl rfl rfl rfl rfl ?_))|(refine TO.splitP rfl rfl (fun hb => ?_) (fun hb => ?_)))
 all_goals
  refine retQ_ret rfl uS ⟨rfl,rfl, ?_⟩
  refine congrArg Value.bool ?_
  unfold Ps.isPl
  rw [← h1,← h2]
  simp_all
theorem all_law (m : Mem) (L : List Item) (s : Sl) (l : List Tree) (hs : SlRep rTree m s l) (b5 : Nat) (hA : At m b5 0 [s.v]) (fn : FuncId) (p : Tree→Bool) (hp : Tells fn p) :
  TCall Tryz.prog 192 ⟨[.func (.func fn) ⟨[]⟩ ⟨[]⟩, .pointer (some ⟨b5,0,none⟩)]⟩ m L (Ret (.bool (l.all p)) m L):=by
 have hlen:=hs.len
 have hsm:=hs.small rfl
 unfold TCall
 refine TCallX.enter Tryz.func192 rfl 17 rfl ?_
 refine uA ?_
 (refine TO.step rfl (OT.loadA0 tab hA rfl rfl rfl rfl rfl ?_))
 refine uA ?_
 refine TC.loopK (ι:=Nat) [0,1,6,7] rfl (fun k=>[(8, .int .i64 (k : Int))]) (fun _=>m) (fun _=>L) (fun k=>k ≤ l.length∧(l.take k).all p=true) (fun k=>l.length - k) 0 uH rfl uS ⟨Nat.zero_le _,by simp⟩ ?_
 rintro k ⟨hk,hI⟩
 refine uA ?_
 refine TC.condP rfl (fun hc => ?_) (fun hc => ?_)
 ·have hlt : k < l.length:=by omega
  have hx : l[k]? = some l[k]:=List.getElem?_eq_getElem hlt
  refine uA ?_
  refine TO.step rfl (OT.index tab rTree k hs rfl rfl rfl rfl rfl (by first | rfl | omega | (simp only;omega)) rfl hx ?_)
  rintro bx ix hx' hrx hAx
  refine uA ?_
  (refine TO.step rfl (OT.loadA0 tab hAx rfl rfl rfl rfl rfl ?_))
  refine uA ?_
  refine TO.step rfl (OT.alloc tab rfl rfl rfl rfl (fun b9 => ?_))
  refine uA ?_
  refine uT ?_
  refine uA ?_
  refine uM ?_
  refine TO.step rfl (OT.call (all:=[treeV hx']) rfl rfl rfl rfl rfl (by rw [fl_eq];rfl) hp.1 ((hp.2 _ _ hx' l[k] (rTree_iff.1 hrx)).x ?_))
  rintro _ _ _ ⟨rfl,rfl,rfl⟩
  refine uA ?_
  cases hb : p l[k] with
  | true =>
   refine uA ?_
   refine TO.step rfl (OT.arith (r':=((k + 1 : Nat) : Int)) rfl rfl rfl rfl rfl rfl rfl (by omega) ?_)
   refine uA ?_
   exact ⟨k + 1,uH,uH,rfl,rfl,uS,⟨hlt,by rw [List.take_succ_eq_append_getElem hlt,List.all_append,hI];simp [hb]⟩,by omega⟩
  | false =>
   refine uA ?_
   refine retQ_ret rfl uS ⟨rfl,rfl, ?_⟩
   refine congrArg Value.bool ?_
   symm
   rw [List.all_eq_false]
   exact ⟨l[k],List.getElem_mem hlt,by simp [hb]⟩
 ·refine uA ?_
  refine retQ_ret rfl uS ⟨rfl,rfl, ?_⟩
  rw [List.take_of_length_le (by omega)] at hI
  rw [hI]
set_option maxHeartbeats 2000000 in
theorem simple_par {X Y : Ps.Pp Tree} (hX : Par Tryz.prog mb E vTree 143 [E.v] 0 X) (hY : Par Tryz.prog mb E vTree 191 [E.v] 0 Y) :
  Par Tryz.prog mb E vTree 178 [E.v] 0 (Ps.simpleP E.N X Y):=by
 refine Par.enter Tryz.func178 rfl 109 rfl fun m L k T hm0 hE hk hT hn => ?_
 replace hX:=hX.up hm0
 replace hY:=hY.up hm0
 have hm : m ≤ m:=Mem.le_refl _
 have hrows:=hE.rows
 unfold Ps.simpleP at hT
 refine uA ?_
 refine TO.step rfl (OT.alloc tab rfl rfl rfl rfl (fun b2 => ?_));refine TO.perm (List.Perm.swap _ _ _) ?_
 refine uA ?_
 refine TO.step rfl (OT.takeP hT hE hk rfl rfl rfl rfl rfl rfl (fun hT hk => ?_) (fun hT => ?_))
 ·refine uA ?_
  refine TO.step rfl (OT.nameP (L0:=L) hT hE hk (by repeat (first|exact Bad.ret|refine Bad.then ?_|refine Bad.block ?_)) hm uS rfl rfl rfl rfl rfl rfl (fun nm hT hk => ?_))
  refine uA ?_
  refine TO.step rfl (OT.alloc tab rfl rfl rfl rfl (fun b3 => ?_));refine TO.perm (List.Perm.swap _ _ _) ?_
  refine uA ?_
  refine uT ?_
  refine uA ?_
  refine TO.step rfl (OT.parT (L0:=L) (hX) hm hT hn hE hk (by repeat (first|exact Bad.ret|refine Bad.then ?_|refine Bad.block ?_)) hm uS rfl rfl rfl rfl rfl rfl goes143 (fun t m2 tt k2 hT hm hE hlet hk hrt => ?_))
  refine uA ?_
  refine TO.step rfl (OT.litR tab rTree (hs:=[t]) (l:=[tt]) ⟨rTree_iff.2 hrt,trivial⟩ rfl rfl rfl rfl rfl (by decide) (fun s m3 hle3 hs ho hc => ?_))
  replace hm:=Mem.le_trans hm hle3
  replace hE:=hE.mono hle3
  refine TO.tokFo hc ho 4 ?_
  refine TO.perm (List.Perm.trans (List.Perm.swap _ _ _) (List.Perm.cons _ (List.Perm.swap _ _ _))) ?_
  refine uA ?_
  refine TO.step rfl (OT.storeL (k:=3) tab 1 rfl rfl rfl rfl rfl rfl rfl rfl ?_)
  refine uA ?_
  refine TO.step rfl (OT.takeP hT hE hk rfl rfl rfl rfl rfl rfl (fun hT hk => ?_) (fun hT => ?_))
  ·refine uA ?_
   refine TC.draw [7] mixed 8 rfl [.cells b3 0 [.int .i64 21,strV nm, .int .i64 0,s.v]] (E.I (k2+1) 0 :: tok s 4 :: .cells b2 0 [.int .i64 0,strV [], .int .i64 0, .slice none 0 0] :: L) (List.Perm.swap _ _ _) ?_
   refine DO.pure tab uC (by kernel_rfl) [0] (by kernel_rfl) rfl ?_
   (refine DO.loadL tab 1 0 uC (by kernel_rfl) (by kernel_rfl) rfl rfl rfl rfl rfl rfl rfl rfl ?_)
   refine DO.pure tab uC (by kernel_rfl) [2] (by kernel_rfl) rfl ?_
   refine DO.run 3 rfl rfl (by kernel_rfl) rfl ?_
   refine OT.perm (List.Perm.swap _ _ _) (OT.parT (L0:=L) (hY) hm hT hn hE hk (by repeat (first|exact Bad.ret|refine Bad.then ?_|refine Bad.block ?_)) hm uS rfl rfl rfl rfl rfl rfl goes191 (fun x4 mA a4 k4 hT hm hE hleA hk hr4 => ?_));refine ⟨hleA,E.I k4 0 :: tok s 4 :: .cells b2 0 [.int .i64 0,strV [], .int .i64 0, .slice none 0 0] :: L,List.Perm.swap _ _ _, ?_⟩
   refine DO.run 4 rfl rfl (by kernel_rfl) rfl ?_
   refine OT.litR tab rTree (hs:=[x4]) (l:=[a4]) ⟨rTree_iff.2 hr4,trivial⟩ rfl rfl rfl rfl rfl (by decide) (fun sB mB hleB hsB hoB hcB => ?_);refine ⟨hleB,_,List.Perm.refl _, ?_⟩
   refine DO.run 5 rfl rfl (by kernel_rfl) rfl ?_
   refine OT.append tab rTree 2 (hs.mono (Mem.le_trans hleA hleB)) ho hsB rfl rfl rfl rfl rfl rfl rfl (by simp only [List.length_append,List.length_cons,List.length_nil,rTree,mkR];omega) (fun s4 mC hleC hs4 ho4 => ?_);refine ⟨hleC,E.I k4 0 :: tok s4 4 :: .cells b2 0 [.int .i64 0,strV [], .int .i64 0, .slice none 0 0] :: L,List.Perm.refl _, ?_⟩
   refine DO.pure tab uC (by kernel_rfl) [6] (by kernel_rfl) rfl ?_
   refine DO.tail ?_
   refine DOt.run 7 rfl rfl (by kernel_rfl) rfl ?_
   refine OT.storeL (k:=3) tab 0 rfl rfl rfl rfl rfl rfl rfl rfl ?_;refine DOt.perm (List.Perm.swap _ _ _) ?_
   refine DOt.nil (by kernel_rfl) ?_
   rotate_left 1
   replace hm:=Mem.le_trans hm (Mem.le_trans hleB hleC)
   replace hE:=hE.mono (Mem.le_trans hleB hleC)
   refine uA ?_
   refine uM ?_
   refine uA ?_
   refine TO.step rfl (OT.storeL0 tab 3 rfl rfl rfl rfl rfl rfl rfl rfl ?_)
   refine uA ?_
   refine retQ_ret_c1 tab 3 rfl rfl rfl rfl (L':=E.I k4 0 :: L) uS ⟨_,k4,[],hT,hm,hk,⟨⟨21,nm,0,s4⟩,rfl,rfl,⟨rfl,rfl,rfl,hs4⟩⟩,rfl⟩
  ·refine uA ?_
   refine uM ?_
   refine uA ?_
   refine TO.step rfl (OT.storeL0 tab 3 rfl rfl rfl rfl rfl rfl rfl rfl ?_)
   refine uA ?_
   refine retQ_ret_c1 tab 3 rfl rfl rfl rfl (L':=E.I k2 0 :: L) uS ⟨_,k2,[],hT,hm,hk,⟨⟨21,nm,0,s⟩,rfl,rfl,⟨rfl,rfl,rfl,hs⟩⟩,rfl⟩
 refine uA ?_
 refine TO.step rfl (OT.takeP hT hE hk rfl rfl rfl rfl rfl rfl (fun hT hk => ?_) (fun hT => ?_))
 ·refine uA ?_
  refine TO.step rfl (OT.alloc tab rfl rfl rfl rfl (fun b4 => ?_));refine TO.perm (List.Perm.swap _ _ _) ?_
  refine uA ?_
  refine uT ?_
  refine uA ?_
  refine TO.step rfl (OT.peekP hT hE hk rfl rfl rfl rfl rfl rfl (fun hT => ?_) (fun hT => ?_))
  ·refine uA ?_
   refine uM ?_
   refine uA ?_
   refine TO.step rfl (OT.storeL0 tab 2 rfl rfl rfl rfl rfl rfl rfl rfl ?_)
   refine uA ?_
   refine retQ_ret_c1 tab 2 rfl rfl rfl rfl (L':=E.I (k + 1) 0 :: L) uS ⟨_,k + 1,[],hT,hm,hk,⟨⟨27,[],0,⟨none,0,0⟩⟩,rfl,rfl,⟨rfl,rfl,rfl,SlRep.nil _ _⟩⟩,rfl⟩
  ·refine uA ?_
   refine TO.step rfl (OT.parL (L0:=L) (list1_par (first:=[E.v]) (cap:=[]) rfl goes191 hY) hm hT hn hE hk (by repeat (first|exact Bad.ret|refine Bad.then ?_|refine Bad.block ?_)) hm uS rfl rfl rfl rfl rfl rfl goes146 (fun x m2 l k2 hT hm hE hlex hk hrx hox hlx => ?_))
   refine TO.perm (L':=E.I k2 0 :: .cells b4 0 [.int .i64 27,strV [], .int .i64 0, .slice none 0 0] :: tok x 4 :: .cells b2 0 [.int .i64 0,strV [], .int .i64 0, .slice none 0 0] :: L) (List.Perm.cons _ (List.Perm.swap _ _ _)) ?_
   refine uA ?_
   refine TO.step rfl (OT.storeL (k:=3) tab 1 rfl rfl rfl rfl rfl rfl rfl rfl ?_)
   refine uA ?_
   refine uM ?_
   refine uA ?_
   refine TO.step rfl (OT.storeL0 tab 3 rfl rfl rfl rfl rfl rfl rfl rfl ?_)
   refine uA ?_
   refine retQ_ret_c1 tab 3 rfl rfl rfl rfl (L':=E.I k2 0 :: L) uS ⟨_,k2,[],hT,hm,hk,⟨⟨27,[],0,x⟩,rfl,rfl,⟨rfl,rfl,rfl,hrx⟩⟩,rfl⟩
 refine uA ?_
 refine TO.step rfl (OT.takeP hT hE hk rfl rfl rfl rfl rfl rfl (fun hT hk => ?_) (fun hT => ?_))
 ·refine uA ?_
  refine uT ?_
  refine uA ?_
  refine retQ_ret_c1 tab 1 rfl rfl rfl rfl (L':=E.I (k + 1) 0 :: L) uS ⟨_,k + 1,[],hT,hm,hk,⟨⟨28,[],0,⟨none,0,0⟩⟩,rfl,rfl,⟨rfl,rfl,rfl,SlRep.nil _ _⟩⟩,rfl⟩
 refine uA ?_
 refine TO.step rfl (OT.takeP hT hE hk rfl rfl rfl rfl rfl rfl (fun hT hk => ?_) (fun hT => ?_))
 ·refine uA ?_
  refine uT ?_
  refine uA ?_
  refine retQ_ret_c1 tab 1 rfl rfl rfl rfl (L':=E.I (k + 1) 0 :: L) uS ⟨_,k + 1,[],hT,hm,hk,⟨⟨29,[],0,⟨none,0,0⟩⟩,rfl,rfl,⟨rfl,rfl,rfl,SlRep.nil _ _⟩⟩,rfl⟩
 refine uA ?_
 refine TO.step rfl (OT.parL (L0:=L) (list1_par (first:=[E.v]) (cap:=[]) rfl goes191 hY) hm hT hn hE hk (by repeat (first|exact Bad.ret|refine Bad.then ?_)) hm uS rfl rfl rfl rfl rfl rfl goes146 (fun s m2 l k1 hT hm hE hles hk hrs hos hls => ?_))
 have hs:=hrs
 have ho:=hos
 have hl:=hls
 have hlen:=hs.len
 refine uA ?_
 refine TO.step rfl (OT.alloc tab rfl rfl rfl rfl (fun b5 => ?_))
 refine uA ?_
 refine uT ?_
 refine TO.freeze fun m3 hle3 hA => ?_
 replace hm:=Mem.le_trans hm hle3
 replace hE:=hE.mono hle3
 replace hs:=hs.mono hle3
 refine uA ?_
 refine TO.perm (L':=E.I k1 0 :: tok s 4 :: .cells b2 0 [.int .i64 0,strV [], .int .i64 0, .slice none 0 0] :: L) (List.Perm.refl _) ?_
 refine TO.step rfl (OT.alloc tab rfl rfl rfl rfl (fun b7 => ?_));refine TO.perm (List.Perm.swap _ _ _) ?_
 refine uA ?_
 refine uT ?_
 unfold Ps.assignP at hT
 simp only [Ps.tokIf_eq] at hT
 refine TO.nil ?_
 refine thenQ_n ?_
 refine TC.cut (ι:=Int) [0,2,5,7] rfl (fun _=>[]) (fun i=>m3) (fun i=>E.I k1 0 :: .cells b7 0 [.int .i64 i,strV [], .int .i64 0, .slice none 0 0] :: tok s 4 :: .cells b2 0 [.int .i64 0,strV [], .int .i64 0, .slice none 0 0] :: L) (fun i=>k1 + 1 ≤ E.toks.length∧T=(Ps.bind (Ps.commas E.N Y) fun l2=>Ps.ret (Tree.mk i [] (l.length : Int) (l++l2))) E.f (k1 + 1)) ?_ ?_
 ·skip
  refine uA ?_
  refine TO.step rfl (OT.call rfl rfl rfl rfl rfl rfl goes142 ((peek_law [58,61] hE hk).x ?_));
  rintro _ _ _ ⟨rfl,rfl,rfl⟩
  refine uA ?_
  cases hb1 : Ps.isM [58,61] E.f k1 with
  | false =>
   rw [hb1,Bool.false_and] at hT
   simp only [cond_false] at hT
   refine uA ?_
   refine TO.step rfl (OT.call rfl rfl rfl rfl rfl rfl goes142 ((peek_law [61] hE hk).x ?_));
   rintro _ _ _ ⟨rfl,rfl,rfl⟩
   refine uA ?_
   cases hb2 : Ps.isM [61] E.f k1 with
   | false =>
    rw [hb2,Bool.false_and] at hT
    simp only [cond_false] at hT
    refine uA ?_
    refine TO.step rfl (OT.call rfl rfl rfl rfl rfl rfl goes142 ((peek_law [59] hE hk).x ?_));
    rintro _ _ _ ⟨rfl,rfl,rfl⟩
    refine uA ?_
    cases hb3 : Ps.isM [59] E.f k1 with
    | false =>
     refine uA ?_
     have hT : T = .bad k1:=by
      rw [hT]
      cases Ps.isC1 l
      ·rfl
      ·exact Ps.peek_f' hb3
     refine TO.step rfl (OT.stopP (L0:=L) hT hE hk (by repeat (first|exact Bad.ret|refine Bad.then ?_|refine Bad.block ?_)) hm uS rfl rfl rfl rfl rfl rfl)
    | true =>
     refine uA ?_
     (refine TO.step rfl (OT.loadA0 tab hA rfl rfl rfl rfl rfl ?_))
     refine uA ?_
     refine TO.split (b:=decide (((s.len : Nat) : Int)=1)) rfl rfl (fun h1 => ?_) (fun h1 => ?_)
     ·have h1' : l.length=1:=by have:=of_decide_eq_true h1;omega
      obtain ⟨t0,rfl⟩:=List.length_eq_one_iff.1 h1'
      refine uA ?_
      (refine TO.step rfl (OT.loadA0 tab hA rfl rfl rfl rfl rfl ?_))
      refine uA ?_
      refine TO.step rfl (OT.index tab rTree 0 hs rfl rfl rfl rfl rfl (by first | rfl | omega | (simp only;omega)) rfl (by rfl) ?_)
      rintro bx ix hx' hrx hAx
      have hrx':=rTree_iff.1 hrx
      refine uA ?_
      (refine TO.step rfl (OT.loadA tab hAx rfl rfl rfl rfl rfl ?_))
      refine uA ?_
      rw [hrx'.kind]
      refine TC.condP rfl (fun h2 => ?_) (fun h2 => ?_)
      ·have hT : T = .ok (Tree.mk 24 [] 0 [t0]) k1:=by
        rw [hT,show Ps.isC1 [t0]=true from decide_eq_true h2]
        exact Ps.peek_t' hb3
       refine uA ?_
       (refine TO.step rfl (OT.loadA0 tab hA rfl rfl rfl rfl rfl ?_))
       refine uA ?_
       refine TO.step rfl (OT.storeL (k:=3) tab 1 rfl rfl rfl rfl rfl rfl rfl rfl ?_)
       refine uA ?_
       refine uM ?_
       refine uA ?_
       refine TO.step rfl (OT.storeL0 tab 3 rfl rfl rfl rfl rfl rfl rfl rfl ?_)
       refine uA ?_
       refine retQ_ret_c1 tab 3 rfl rfl rfl rfl (L':=E.I k1 0 :: L) uS ⟨_,k1,[],hT,hm,hk,⟨⟨24,[],0,s⟩,rfl,rfl,⟨rfl,rfl,rfl,hs⟩⟩,rfl⟩
      ·have hT : T = .bad k1:=by
        rw [hT,show Ps.isC1 [t0]=false from decide_eq_false h2]
        rfl
       refine uA ?_
       refine TO.step rfl (OT.stopP (L0:=L) hT hE hk (by repeat (first|exact Bad.ret|refine Bad.then ?_|refine Bad.block ?_)) hm uS rfl rfl rfl rfl rfl rfl)
     ·have hT : T = .bad k1:=by
       rw [hT]
       have h1' : ¬ l.length=1:=by have:=of_decide_eq_false h1;omega
       have : Ps.isC1 l=false:=by
        unfold Ps.isC1
        split
        ·exact absurd rfl h1'
        ·rfl
       rw [this]
       rfl
      refine uA ?_
      refine TO.step rfl (OT.stopP (L0:=L) hT hE hk (by repeat (first|exact Bad.ret|refine Bad.then ?_|refine Bad.block ?_)) hm uS rfl rfl rfl rfl rfl rfl)
   | true =>
    refine uA ?_
    refine TO.step rfl (OT.call rfl rfl rfl rfl rfl rfl goes192 ((all_law m3 _ s l hs b5 hA _ Ps.isPl isPl_tells).x ?_))
    rintro _ _ _ ⟨rfl,rfl,rfl⟩
    cases ha2 : l.all Ps.isPl with
    | true =>
     rw [hb2,ha2] at hT
     simp only [Bool.and_true,cond_true] at hT
     refine uA ?_
     refine TO.step rfl (OT.storeL0 tab 1 rfl rfl rfl rfl rfl rfl rfl rfl ?_)
     refine uA ?_
     exact ⟨23,uH,uH,rfl,rfl,uS,PE.isM_lt hb2,hT⟩
    | false =>
     rw [ha2,Bool.and_false] at hT
     simp only [cond_false] at hT
     refine uA ?_
     refine TO.step rfl (OT.call rfl rfl rfl rfl rfl rfl goes142 ((peek_law [59] hE hk).x ?_));
     rintro _ _ _ ⟨rfl,rfl,rfl⟩
     refine uA ?_
     cases hb3 : Ps.isM [59] E.f k1 with
     | false =>
      refine uA ?_
      have hT : T = .bad k1:=by
       rw [hT]
       cases Ps.isC1 l
       ·rfl
       ·exact Ps.peek_f' hb3
      refine TO.step rfl (OT.stopP (L0:=L) hT hE hk (by repeat (first|exact Bad.ret|refine Bad.then ?_|refine Bad.block ?_)) hm uS rfl rfl rfl rfl rfl rfl)
     | true =>
      refine uA ?_
      (refine TO.step rfl (OT.loadA0 tab hA rfl rfl rfl rfl rfl ?_))
      refine uA ?_
      refine TO.split (b:=decide (((s.len : Nat) : Int)=1)) rfl rfl (fun h1 => ?_) (fun h1 => ?_)
      ·have h1' : l.length=1:=by have:=of_decide_eq_true h1;omega
       obtain ⟨t0,rfl⟩:=List.length_eq_one_iff.1 h1'
       refine uA ?_
       (refine TO.step rfl (OT.loadA0 tab hA rfl rfl rfl rfl rfl ?_))
       refine uA ?_
       refine TO.step rfl (OT.index tab rTree 0 hs rfl rfl rfl rfl rfl (by first | rfl | omega | (simp only;omega)) rfl (by rfl) ?_)
       rintro bx ix hx' hrx hAx
       have hrx':=rTree_iff.1 hrx
       refine uA ?_
       (refine TO.step rfl (OT.loadA tab hAx rfl rfl rfl rfl rfl ?_))
       refine uA ?_
       rw [hrx'.kind]
       refine TC.condP rfl (fun h2 => ?_) (fun h2 => ?_)
       ·have hT : T = .ok (Tree.mk 24 [] 0 [t0]) k1:=by
         rw [hT,show Ps.isC1 [t0]=true from decide_eq_true h2]
         exact Ps.peek_t' hb3
        refine uA ?_
        (refine TO.step rfl (OT.loadA0 tab hA rfl rfl rfl rfl rfl ?_))
        refine uA ?_
        refine TO.step rfl (OT.storeL (k:=3) tab 1 rfl rfl rfl rfl rfl rfl rfl rfl ?_)
        refine uA ?_
        refine uM ?_
        refine uA ?_
        refine TO.step rfl (OT.storeL0 tab 3 rfl rfl rfl rfl rfl rfl rfl rfl ?_)
        refine uA ?_
        refine retQ_ret_c1 tab 3 rfl rfl rfl rfl (L':=E.I k1 0 :: L) uS ⟨_,k1,[],hT,hm,hk,⟨⟨24,[],0,s⟩,rfl,rfl,⟨rfl,rfl,rfl,hs⟩⟩,rfl⟩
       ·have hT : T = .bad k1:=by
         rw [hT,show Ps.isC1 [t0]=false from decide_eq_false h2]
         rfl
        refine uA ?_
        refine TO.step rfl (OT.stopP (L0:=L) hT hE hk (by repeat (first|exact Bad.ret|refine Bad.then ?_|refine Bad.block ?_)) hm uS rfl rfl rfl rfl rfl rfl)
      ·have hT : T = .bad k1:=by
        rw [hT]
        have h1' : ¬ l.length=1:=by have:=of_decide_eq_false h1;omega
        have : Ps.isC1 l=false:=by
         unfold Ps.isC1
         split
         ·exact absurd rfl h1'
         ·rfl
        rw [this]
        rfl
       refine uA ?_
       refine TO.step rfl (OT.stopP (L0:=L) hT hE hk (by repeat (first|exact Bad.ret|refine Bad.then ?_|refine Bad.block ?_)) hm uS rfl rfl rfl rfl rfl rfl)
  | true =>
   refine uA ?_
   refine TO.step rfl (OT.call rfl rfl rfl rfl rfl rfl goes192 ((all_law m3 _ s l hs b5 hA _ Ps.isNm isNm_tells).x ?_))
   rintro _ _ _ ⟨rfl,rfl,rfl⟩
   cases ha1 : l.all Ps.isNm with
   | true =>
    rw [hb1,ha1] at hT
    simp only [Bool.and_true,cond_true] at hT
    refine uA ?_
    refine TO.step rfl (OT.storeL0 tab 1 rfl rfl rfl rfl rfl rfl rfl rfl ?_)
    refine uA ?_
    exact ⟨22,uH,uH,rfl,rfl,uS,PE.isM_lt hb1,hT⟩
   | false =>
    rw [ha1,Bool.and_false] at hT
    simp only [cond_false] at hT
    refine uA ?_
    refine TO.step rfl (OT.call rfl rfl rfl rfl rfl rfl goes142 ((peek_law [61] hE hk).x ?_));
    rintro _ _ _ ⟨rfl,rfl,rfl⟩
    refine uA ?_
    cases hb2 : Ps.isM [61] E.f k1 with
    | false =>
     rw [hb2,Bool.false_and] at hT
     simp only [cond_false] at hT
     refine uA ?_
     refine TO.step rfl (OT.call rfl rfl rfl rfl rfl rfl goes142 ((peek_law [59] hE hk).x ?_));
     rintro _ _ _ ⟨rfl,rfl,rfl⟩
     refine uA ?_
     cases hb3 : Ps.isM [59] E.f k1 with
     | false =>
      refine uA ?_
      have hT : T = .bad k1:=by
       rw [hT]
       cases Ps.isC1 l
       ·rfl
       ·exact Ps.peek_f' hb3
      refine TO.step rfl (OT.stopP (L0:=L) hT hE hk (by repeat (first|exact Bad.ret|refine Bad.then ?_|refine Bad.block ?_)) hm uS rfl rfl rfl rfl rfl rfl)
     | true =>
      refine uA ?_
      (refine TO.step rfl (OT.loadA0 tab hA rfl rfl rfl rfl rfl ?_))
      refine uA ?_
      refine TO.split (b:=decide (((s.len : Nat) : Int)=1)) rfl rfl (fun h1 => ?_) (fun h1 => ?_)
      ·have h1' : l.length=1:=by have:=of_decide_eq_true h1;omega
       obtain ⟨t0,rfl⟩:=List.length_eq_one_iff.1 h1'
       refine uA ?_
       (refine TO.step rfl (OT.loadA0 tab hA rfl rfl rfl rfl rfl ?_))
       refine uA ?_
       refine TO.step rfl (OT.index tab rTree 0 hs rfl rfl rfl rfl rfl (by first | rfl | omega | (simp only;omega)) rfl (by rfl) ?_)
       rintro bx ix hx' hrx hAx
       have hrx':=rTree_iff.1 hrx
       refine uA ?_
       (refine TO.step rfl (OT.loadA tab hAx rfl rfl rfl rfl rfl ?_))
       refine uA ?_
       rw [hrx'.kind]
       refine TC.condP rfl (fun h2 => ?_) (fun h2 => ?_)
       ·have hT : T = .ok (Tree.mk 24 [] 0 [t0]) k1:=by
         rw [hT,show Ps.isC1 [t0]=true from decide_eq_true h2]
         exact Ps.peek_t' hb3
        refine uA ?_
        (refine TO.step rfl (OT.loadA0 tab hA rfl rfl rfl rfl rfl ?_))
        refine uA ?_
        refine TO.step rfl (OT.storeL (k:=3) tab 1 rfl rfl rfl rfl rfl rfl rfl rfl ?_)
        refine uA ?_
        refine uM ?_
        refine uA ?_
        refine TO.step rfl (OT.storeL0 tab 3 rfl rfl rfl rfl rfl rfl rfl rfl ?_)
        refine uA ?_
        refine retQ_ret_c1 tab 3 rfl rfl rfl rfl (L':=E.I k1 0 :: L) uS ⟨_,k1,[],hT,hm,hk,⟨⟨24,[],0,s⟩,rfl,rfl,⟨rfl,rfl,rfl,hs⟩⟩,rfl⟩
       ·have hT : T = .bad k1:=by
         rw [hT,show Ps.isC1 [t0]=false from decide_eq_false h2]
         rfl
        refine uA ?_
        refine TO.step rfl (OT.stopP (L0:=L) hT hE hk (by repeat (first|exact Bad.ret|refine Bad.then ?_|refine Bad.block ?_)) hm uS rfl rfl rfl rfl rfl rfl)
      ·have hT : T = .bad k1:=by
        rw [hT]
        have h1' : ¬ l.length=1:=by have:=of_decide_eq_false h1;omega
        have : Ps.isC1 l=false:=by
         unfold Ps.isC1
         split
         ·exact absurd rfl h1'
         ·rfl
        rw [this]
        rfl
       refine uA ?_
       refine TO.step rfl (OT.stopP (L0:=L) hT hE hk (by repeat (first|exact Bad.ret|refine Bad.then ?_|refine Bad.block ?_)) hm uS rfl rfl rfl rfl rfl rfl)
    | true =>
     refine uA ?_
     refine TO.step rfl (OT.call rfl rfl rfl rfl rfl rfl goes192 ((all_law m3 _ s l hs b5 hA _ Ps.isPl isPl_tells).x ?_))
     rintro _ _ _ ⟨rfl,rfl,rfl⟩
     cases ha2 : l.all Ps.isPl with
     | true =>
      rw [hb2,ha2] at hT
      simp only [Bool.and_true,cond_true] at hT
      refine uA ?_
      refine TO.step rfl (OT.storeL0 tab 1 rfl rfl rfl rfl rfl rfl rfl rfl ?_)
      refine uA ?_
      exact ⟨23,uH,uH,rfl,rfl,uS,PE.isM_lt hb2,hT⟩
     | false =>
      rw [ha2,Bool.and_false] at hT
      simp only [cond_false] at hT
      refine uA ?_
      refine TO.step rfl (OT.call rfl rfl rfl rfl rfl rfl goes142 ((peek_law [59] hE hk).x ?_));
      rintro _ _ _ ⟨rfl,rfl,rfl⟩
      refine uA ?_
      cases hb3 : Ps.isM [59] E.f k1 with
      | false =>
       refine uA ?_
       have hT : T = .bad k1:=by
        rw [hT]
        cases Ps.isC1 l
        ·rfl
        ·exact Ps.peek_f' hb3
       refine TO.step rfl (OT.stopP (L0:=L) hT hE hk (by repeat (first|exact Bad.ret|refine Bad.then ?_|refine Bad.block ?_)) hm uS rfl rfl rfl rfl rfl rfl)
      | true =>
       refine uA ?_
       (refine TO.step rfl (OT.loadA0 tab hA rfl rfl rfl rfl rfl ?_))
       refine uA ?_
       refine TO.split (b:=decide (((s.len : Nat) : Int)=1)) rfl rfl (fun h1 => ?_) (fun h1 => ?_)
       ·have h1' : l.length=1:=by have:=of_decide_eq_true h1;omega
        obtain ⟨t0,rfl⟩:=List.length_eq_one_iff.1 h1'
        refine uA ?_
        (refine TO.step rfl (OT.loadA0 tab hA rfl rfl rfl rfl rfl ?_))
        refine uA ?_
        refine TO.step rfl (OT.index tab rTree 0 hs rfl rfl rfl rfl rfl (by first | rfl | omega | (simp only;omega)) rfl (by rfl) ?_)
        rintro bx ix hx' hrx hAx
        have hrx':=rTree_iff.1 hrx
        refine uA ?_
        (refine TO.step rfl (OT.loadA tab hAx rfl rfl rfl rfl rfl ?_))
        refine uA ?_
        rw [hrx'.kind]
        refine TC.condP rfl (fun h2 => ?_) (fun h2 => ?_)
        ·have hT : T = .ok (Tree.mk 24 [] 0 [t0]) k1:=by
          rw [hT,show Ps.isC1 [t0]=true from decide_eq_true h2]
          exact Ps.peek_t' hb3
         refine uA ?_
         (refine TO.step rfl (OT.loadA0 tab hA rfl rfl rfl rfl rfl ?_))
         refine uA ?_
         refine TO.step rfl (OT.storeL (k:=3) tab 1 rfl rfl rfl rfl rfl rfl rfl rfl ?_)
         refine uA ?_
         refine uM ?_
         refine uA ?_
         refine TO.step rfl (OT.storeL0 tab 3 rfl rfl rfl rfl rfl rfl rfl rfl ?_)
         refine uA ?_
         refine retQ_ret_c1 tab 3 rfl rfl rfl rfl (L':=E.I k1 0 :: L) uS ⟨_,k1,[],hT,hm,hk,⟨⟨24,[],0,s⟩,rfl,rfl,⟨rfl,rfl,rfl,hs⟩⟩,rfl⟩
        ·have hT : T = .bad k1:=by
          rw [hT,show Ps.isC1 [t0]=false from decide_eq_false h2]
          rfl
         refine uA ?_
         refine TO.step rfl (OT.stopP (L0:=L) hT hE hk (by repeat (first|exact Bad.ret|refine Bad.then ?_|refine Bad.block ?_)) hm uS rfl rfl rfl rfl rfl rfl)
       ·have hT : T = .bad k1:=by
         rw [hT]
         have h1' : ¬ l.length=1:=by have:=of_decide_eq_false h1;omega
         have : Ps.isC1 l=false:=by
          unfold Ps.isC1
          split
          ·exact absurd rfl h1'
          ·rfl
         rw [this]
         rfl
        refine uA ?_
        refine TO.step rfl (OT.stopP (L0:=L) hT hE hk (by repeat (first|exact Bad.ret|refine Bad.then ?_|refine Bad.block ?_)) hm uS rfl rfl rfl rfl rfl rfl)
 ·rintro kd ⟨hk,hT⟩
  have hfew:=hE.few
  refine uA ?_
  refine uM ?_
  refine TO.step rfl (OT.arith (r':=((k1 + 1 : Nat) : Int)) rfl rfl rfl rfl rfl rfl rfl (by omega) ?_)
  refine uA ?_
  refine TO.step rfl (OT.storeL (k:=2) tab 0 rfl rfl rfl rfl rfl rfl rfl rfl ?_)
  refine uA ?_
  (refine TO.step rfl (OT.loadA0 tab hA rfl rfl rfl rfl rfl ?_))
  refine uA ?_
  refine TO.step rfl (OT.storeL (k:=2) tab 1 rfl rfl rfl rfl rfl rfl rfl rfl ?_)
  refine uA ?_
  refine TC.draw [7] mixed 8 rfl [.cells b7 0 [.int .i64 kd,strV [], .int .i64 (s.len : Int), .slice none 0 0]] (E.I (k1 + 1) 0 :: tok s 4 :: .cells b2 0 [.int .i64 0,strV [], .int .i64 0, .slice none 0 0] :: L) (List.Perm.swap _ _ _) ?_
  (refine DO.loadA (k:=0) tab 0 hA uC (by kernel_rfl) (by kernel_rfl) rfl rfl rfl rfl rfl rfl rfl ?_)
  refine DO.pure tab uC (by kernel_rfl) [1,2,3] (by kernel_rfl) rfl ?_
  refine DO.run 4 rfl rfl (by kernel_rfl) rfl ?_
  refine OT.perm (List.Perm.swap _ _ _) (OT.parL (L0:=L) (list1_par (first:=[E.v]) (cap:=[]) rfl goes191 hY) hm hT hn hE hk (by repeat (first|exact Bad.ret|refine Bad.then ?_)) hm uS rfl rfl rfl rfl rfl rfl goes146 (fun x mA l2 k2 hT hm hE hleA hk hrx hox hlx => ?_));refine ⟨hleA,E.I k2 0 :: tok s 4 :: .cells b2 0 [.int .i64 0,strV [], .int .i64 0, .slice none 0 0] :: tok x 4 :: L,perm_simple, ?_⟩
  refine DO.run 5 rfl rfl (by kernel_rfl) rfl ?_
  refine OT.append tab rTree 2 (hs.mono hleA) ho hrx rfl rfl rfl rfl rfl rfl rfl (by simp only [rTree,mkR];omega) (fun s3 mC hleC hs3 ho3 => ?_);refine ⟨hleC,E.I k2 0 :: tok s3 4 :: .cells b2 0 [.int .i64 0,strV [], .int .i64 0, .slice none 0 0] :: tok x 4 :: L,List.Perm.refl _, ?_⟩
  refine DO.pure tab uC (by kernel_rfl) [6] (by kernel_rfl) rfl ?_
  refine DO.tail ?_
  refine DOt.run 7 rfl rfl (by kernel_rfl) rfl ?_
  refine OT.storeL (k:=3) tab 0 rfl rfl rfl rfl rfl rfl rfl rfl ?_;refine DOt.perm (List.Perm.swap _ _ _) ?_
  refine DOt.nil (by kernel_rfl) ?_
  rotate_left 1
  refine uA ?_
  refine uM ?_
  refine uA ?_
  refine TO.step rfl (OT.storeL0 tab 3 rfl rfl rfl rfl rfl rfl rfl rfl ?_)
  refine uA ?_
  refine retQ_ret_c1 tab 3 rfl rfl rfl rfl (L':=E.I k2 0 :: L) uS ⟨_,k2,[],hT,Mem.le_trans hm hleC,hk,⟨⟨kd,[],(s.len : Int),s3⟩,rfl,rfl,⟨rfl,rfl,by show (s.len : Int)=_;rw [hlen];rfl,hs3⟩⟩,rfl⟩
end
end Go.Sep


/- PsW10 -/
set_option linter.unusedVariables false
set_option linter.unusedSimpArgs false
namespace Go.Ps
theorem oneOf_some {α : Type} {ops : List Sep.Str} {A : Sep.Str→Pp α} {B : Pp α} {f : F} {k : Nat} {s : Sep.Str} (h : ops.find? (fun s=>isM s f k)=some s) : oneOf ops A B f k=A s f (k + 1):=by unfold oneOf;rw [h]
theorem oneOf_none {α : Type} {ops : List Sep.Str} {A : Sep.Str→Pp α} {B : Pp α} {f : F} {k : Nat} (h : ops.find? (fun s=>isM s f k)=none) : oneOf ops A B f k=B f k:=by unfold oneOf;rw [h]
theorem find_at {p : Sep.Str→Bool} {l : List Sep.Str} {i : Nat} (hi : i < l.length) (h1 : (l.take i).all (fun s => !p s)=true) (h2 : p l[i]=true) : l.find? p=some l[i]:=by
 have e : l=l.take i++l[i] :: l.drop (i + 1):=by rw [List.getElem_cons_drop,List.take_append_drop]
 rw [List.find?_eq_some_iff_append]
 exact ⟨h2,l.take i,l.drop (i + 1),e,fun a ha=>by simpa using List.all_eq_true.1 h1 a ha⟩
theorem find_no {p : Sep.Str→Bool} {l : List Sep.Str} (h1 : l.all (fun s => !p s)=true) : l.find? p=none:=by
 rw [List.find?_eq_none]
 intro a ha
 simpa using List.all_eq_true.1 h1 a ha
end Go.Ps
namespace Go.Sep
open Go.Proofs
attribute [local irreducible] TC TO OT TCallX TCall DO DOt thenQ blockQ retQ At
section
variable {mb : Mem} {E : PE} {h : Int}
set_option maxHeartbeats 1000000 in
theorem levels_law (m : Mem) (L : List Item) : TCall Tryz.prog 180 ⟨[]⟩ m L (Made m L fun r m' => ∃ s : Sl,r=s.v∧SlRep (rSl rStr) m' s Ps.levels):=by
 unfold TCall
 refine TCallX.enter Tryz.func180 rfl 7 rfl ?_
 refine uA ?_
 refine TO.step rfl (OT.litR tab rStr (hs:=[[124,124]]) (l:=[[124,124]]) ⟨rfl,trivial⟩ rfl rfl rfl rfl rfl (by decide) (fun s1 m1 h1 hs1 _ _ => ?_))
 refine TO.step rfl (OT.litR tab rStr (hs:=[[38,38]]) (l:=[[38,38]]) ⟨rfl,trivial⟩ rfl rfl rfl rfl rfl (by decide) (fun s2 m2 h2 hs2 _ _ => ?_))
 refine TO.step rfl (OT.litR tab rStr (hs:=[[61,61],[33,61],[60],[60,61],[62],[62,61]]) (l:=[[61,61],[33,61],[60],[60,61],[62],[62,61]]) ⟨rfl,rfl,rfl,rfl,rfl,rfl,trivial⟩ rfl rfl rfl rfl rfl (by decide) (fun s3 m3 h3 hs3 _ _ => ?_))
 refine TO.step rfl (OT.litR tab rStr (hs:=[[43],[45]]) (l:=[[43],[45]]) ⟨rfl,rfl,trivial⟩ rfl rfl rfl rfl rfl (by decide) (fun s4 m4 h4 hs4 _ _ => ?_))
 refine TO.step rfl (OT.litR tab rStr (hs:=[[42],[47],[37]]) (l:=[[42],[47],[37]]) ⟨rfl,rfl,rfl,trivial⟩ rfl rfl rfl rfl rfl (by decide) (fun s5 m5 h5 hs5 _ _ => ?_))
 have k45:=h5
 have k35:=Mem.le_trans h4 k45
 have k25:=Mem.le_trans h3 k35
 have k15:=Mem.le_trans h2 k25
 refine TO.step rfl (OT.litR tab (rSl rStr) (hs:=[s1,s2,s3,s4,s5]) (l:=Ps.levels) ⟨hs1.mono k15,hs2.mono k25,hs3.mono k35,hs4.mono k45,hs5,trivial⟩ rfl rfl rfl rfl rfl (by decide) (fun s m6 h6 hs _ _ => ?_))
 refine uA ?_
 refine retQ_ret rfl uS ⟨Mem.le_trans h1 (Mem.le_trans k15 h6),rfl,s,rfl,hs⟩
theorem levels_ne {ops : List Str} (ho : ops ∈ Ps.levels) {s : Str} (hs : s ∈ ops) : s ≠ []:=by
 have : ∀ ops ∈ Ps.levels, ∀ s ∈ ops,s ≠ []:=by decide
 exact this ops ho s hs
set_option maxHeartbeats 2000000 in
theorem binary_par {U : Ps.Pp Tree} (hU : Par Tryz.prog mb E vTree 203 [E.v] h U) :
  ∀ d j : Nat,j + d=5→Par Tryz.prog mb E vTree 200 [E.v, .int .i64 (j : Int)] h (Ps.binL E.N U (Ps.levels.drop j)):=by
 intro d
 induction d with
 | zero =>
  intro j hj
  refine Par.enter Tryz.func200 rfl 46 rfl fun m L k T hm0 hE hk hT hn => ?_
  replace hU:=hU.up hm0
  obtain rfl : j=5:=by omega
  have hm : m ≤ m:=Mem.le_refl _
  replace hT : T=Ps.bind U Ps.ret E.f k:=by rw [Ps.bind_ret];exact hT
  refine uA ?_
  refine TO.step rfl (OT.alloc tab rfl rfl rfl rfl (fun b4 => ?_));refine TO.perm (List.Perm.swap _ _ _) ?_
  refine uA ?_
  refine TO.step rfl (OT.call rfl rfl rfl rfl rfl rfl goes180 ((levels_law _ _).x ?_));
  rintro _ m1 _ ⟨hm1,rfl,s,rfl,hs⟩
  have hlen:=hs.len
  replace hm:=hm1
  replace hE:=hE.mono hm1
  refine uA ?_
  refine TC.condP rfl (fun hc => ?_) (fun hc => ?_)
  ·refine uA ?_
   refine TO.step rfl (OT.parT (L0:=L) (hU) hm hT hn hE hk (by repeat (first|exact Bad.ret|refine Bad.then ?_)) hm uS rfl rfl rfl rfl rfl rfl goes203 (fun x m2 a k2 hT hm hE hlex hk hrx => ?_))
   refine uA ?_
   refine uT ?_
   refine uA ?_
   refine retQ_ret_c1 tab 1 rfl rfl rfl rfl (L':=E.I k2 h :: L) uS ⟨_,k2,[],hT,hm,hk,⟨x,rfl,rfl,hrx⟩,rfl⟩
  ·exact absurd (by rw [hlen];rfl) hc
 | succ d ih =>
  intro j hj
  have ihj:=ih (j + 1) (by omega)
  have hjl : j < Ps.levels.length:=by show j < 5;omega
  have hops : Ps.levels.drop j=Ps.levels[j] :: Ps.levels.drop (j + 1):=List.drop_eq_getElem_cons hjl
  have hne : ∀ s ∈ Ps.levels[j],s ≠ []:=fun s hs=>levels_ne (List.getElem_mem hjl) hs
  have hget : Ps.levels[j]? = some Ps.levels[j]:=List.getElem?_eq_getElem hjl
  generalize Ps.levels[j]=ops at hops hne hget
  generalize hXe : Ps.binL E.N U (Ps.levels.drop (j + 1))=X at ihj
  have hspec : Ps.binL E.N U (Ps.levels.drop j)=Ps.bind X (Ps.loopB E.N ops X):=by rw [hops,← hXe];rfl
  rw [hspec]
  clear hspec hXe hops
  refine Par.enter Tryz.func200 rfl 46 rfl fun m L k T hm0 hE hk hT hn => ?_
  replace ihj:=ihj.up hm0
  have hm : m ≤ m:=Mem.le_refl _
  refine uA ?_
  refine TO.step rfl (OT.alloc tab rfl rfl rfl rfl (fun b4 => ?_));refine TO.perm (List.Perm.swap _ _ _) ?_
  refine uA ?_
  refine TO.step rfl (OT.call rfl rfl rfl rfl rfl rfl goes180 ((levels_law _ _).x ?_));
  rintro _ m1 _ ⟨hm1,rfl,s,rfl,hs⟩
  have hlen:=hs.len
  replace hm:=hm1
  replace hE:=hE.mono hm1
  refine uA ?_
  refine TC.condP rfl (fun hc => ?_) (fun hc => ?_)
  ·have : s.len=5:=by rw [hlen];rfl
   omega
  refine uA ?_
  refine TO.step rfl (OT.arith (r':=((j + 1 : Nat) : Int)) rfl rfl rfl rfl rfl rfl rfl (by omega) ?_)
  refine TO.step rfl (OT.parT (L0:=L) (ihj) hm hT hn hE hk (by repeat (first|exact Bad.ret|refine Bad.then ?_)) hm uS rfl rfl rfl rfl rfl rfl goes200 (fun x m2 a k2 hT hm hE hlex hk hrx => ?_))
  replace hs:=hs.mono hlex
  have hlex' : m ≤ m2:=hm
  refine uA ?_
  refine TO.step rfl (OT.alloc tab rfl rfl rfl rfl (fun b6 => ?_));refine TO.perm (List.Perm.swap _ _ _) ?_
  refine uA ?_
  refine uT ?_
  refine uA ?_
  refine TC.loopK (ι:=HTree × Mem × Tree × Nat × Nat) [0,1,4,5,6] rfl (fun _=>[]) (fun x=>x.2.1) (fun x=>E.I x.2.2.2.1 h :: .cells b6 0 (treeC x.1) :: .cells b4 0 [.int .i64 0,strV [], .int .i64 0, .slice none 0 0] :: L) (fun x=>m2 ≤ x.2.1∧x.2.2.2.1 ≤ E.toks.length∧TreeRep x.2.1 x.1 x.2.2.1∧T=Ps.loopB x.2.2.2.2 ops X x.2.2.1 E.f x.2.2.2.1) (fun x=>x.2.2.2.2) (x,m2,a,k2,E.N) uH rfl uS ⟨Mem.le_refl _,hk,hrx,hT⟩ ?_
  rintro ⟨x,m3,a,k3,N⟩ ⟨hm3,hk,hrx,hT⟩
  simp only at hm3 hk hrx hT
  replace hm:=Mem.le_trans hm hm3
  replace hE:=hE.mono hm3
  replace hs:=hs.mono hm3
  cases N with
  | zero=>exact absurd hT hn
  | succ N =>
   replace hT : T=Ps.oneOf ops (fun op=>Ps.bind X fun m=>Ps.loopB N ops X (Ps.binT op a m)) (Ps.ret a) E.f k3:=hT
   refine q2 ?_
   refine q1 ?_
   refine q3 ?_
   refine q4 tab rfl rfl ?_
   refine q5 ?_
   refine q6 ?_
   refine TC.cut (ι:=Str × Nat) [0,1,4,5,6] rfl (fun i=>[(7,strV i.1)]) (fun _=>m3) (fun i=>E.I i.2 h :: .cells b6 0 (treeC x) :: .cells b4 0 [.int .i64 0,strV [], .int .i64 0, .slice none 0 0] :: L) (fun i=>(i.1=[]∧i.2=k3∧ops.find? (fun s=>Ps.isM s E.f k3)=none) ∨ (i.1 ≠ []∧i.2=k3 + 1∧k3 + 1 ≤ E.toks.length∧ops.find? (fun s=>Ps.isM s E.f k3)=some i.1)) ?_ ?_
   ·refine uA ?_
    refine TO.step rfl (OT.index tab (rSl rStr) j hs rfl rfl rfl rfl rfl rfl rfl hget ?_)
    intro bi ii row hrow hAr
    have hrow' : SlRep rStr m3 row ops:=hrow
    have hlr:=hrow'.len
    have hsm:=hrow'.small rfl
    refine uA ?_
    (refine TO.step rfl (OT.loadA0 tab hAr rfl rfl rfl rfl rfl ?_))
    refine uA ?_
    refine TC.loopK (ι:=Nat) [0,1,4,5,6,7,24,25] rfl (fun i=>[(26, .int .i64 (i : Int))]) (fun _=>m3) (fun i=>E.I k3 h :: .cells b6 0 (treeC x) :: .cells b4 0 [.int .i64 0,strV [], .int .i64 0, .slice none 0 0] :: L) (fun i=>i ≤ ops.length∧(ops.take i).all (fun s => !Ps.isM s E.f k3)=true) (fun i=>ops.length - i) 0 uH rfl uS ⟨Nat.zero_le _,by simp⟩ ?_
    rintro i ⟨hi,hI⟩
    refine uA ?_
    refine TC.condP rfl (fun hc2 => ?_) (fun hc2 => ?_)
    ·have hlt : i < ops.length:=by omega
     have hx : ops[i]? = some ops[i]:=List.getElem?_eq_getElem hlt
     refine uA ?_
     refine TO.step rfl (OT.index tab rStr i hrow' rfl rfl rfl rfl rfl (by first | rfl | omega | (simp only;omega)) rfl hx ?_)
     rintro bs is' sv hsv hAs
     obtain rfl:=(show sv=ops[i] from hsv)
     refine uA ?_
     (refine TO.step rfl (OT.loadA0 tab hAs rfl rfl rfl rfl rfl ?_))
     refine uA ?_
     refine TO.step rfl (OT.call rfl rfl rfl rfl rfl rfl goes110 ((take_law ops[i] hE hk).x ?_));
     rintro _ _ _ ⟨rfl,rfl,rfl⟩
     unfold PE.step
     cases hb : Ps.isM ops[i] E.f k3 with
     | true =>
      refine uA ?_
      exact ⟨(ops[i],k3 + 1),uH,uH,rfl,rfl,uS, .inr ⟨hne _ (List.getElem_mem hlt),rfl,PE.isM_lt hb,Ps.find_at hlt hI hb⟩⟩
     | false =>
      refine uA ?_
      refine TO.step rfl (OT.arith (r':=((i + 1 : Nat) : Int)) rfl rfl rfl rfl rfl rfl rfl (by omega) ?_)
      refine uA ?_
      exact ⟨i + 1,uH,uH,rfl,rfl,uS,⟨hlt,by rw [List.take_succ_eq_append_getElem hlt,List.all_append,hI];simp [hb]⟩,by omega⟩
    ·rw [List.take_of_length_le (by omega)] at hI
     refine uA ?_
     exact ⟨([],k3),uH,uH,rfl,rfl,uS, .inl ⟨rfl,rfl,Ps.find_no hI⟩⟩
   ·rintro ⟨found,k4⟩ hI
    simp only at hI
    refine uA ?_
    refine TC.condP rfl (fun hf => ?_) (fun hf => ?_)
    ·rcases hI with ⟨rfl,rfl,hI⟩ | ⟨h1,_⟩
     ·rw [Ps.oneOf_none hI] at hT
      refine uA ?_
      refine uM ?_
      refine uA ?_
      refine TO.step rfl (OT.storeL0 tab 2 rfl rfl rfl rfl rfl rfl rfl rfl ?_)
      refine uA ?_
      refine retQ_ret_c1 tab 2 rfl rfl rfl rfl (L':=E.I k4 h :: L) uS ⟨_,k4,[],hT,hm,hk,⟨x,rfl,rfl,hrx⟩,rfl⟩
     ·exact absurd hf h1
    ·rcases hI with ⟨h1,_⟩ | ⟨_,rfl,hk,hI⟩
     ·exact absurd h1 hf
     rw [Ps.oneOf_some hI] at hT
     refine uA ?_
     refine TC.draw [8] mixed 9 rfl [.cells b6 0 (treeC x)] (E.I (k3 + 1) h :: .cells b4 0 [.int .i64 0,strV [], .int .i64 0, .slice none 0 0] :: L) (List.Perm.swap _ _ _) ?_
     refine DO.pure tab uC (by kernel_rfl) [0] (by kernel_rfl) rfl ?_
     (refine DO.loadL (k:=0) tab 1 0 uC (by kernel_rfl) (by kernel_rfl) rfl rfl rfl rfl rfl rfl rfl rfl ?_)
     refine DO.pure tab uC (by kernel_rfl) [2,3] (by kernel_rfl) rfl ?_
     refine DO.arith 4 (r':=((j + 1 : Nat) : Int)) uC (by kernel_rfl) (by kernel_rfl) rfl rfl rfl rfl rfl rfl rfl rfl (by first | rfl | omega | (simp only;omega)) (by omega) ?_
     refine DO.run 5 rfl rfl (by kernel_rfl) rfl ?_
     refine OT.perm (List.Perm.swap _ _ _) (OT.parT (L0:=L) ihj (Mem.le_trans hlex' hm3) hT hn hE hk (by repeat (first|exact Bad.ret|refine Bad.then ?_|refine Bad.block ?_)) hm uS rfl rfl rfl rfl rfl rfl goes200 (fun y m5 b k5 hT hm hE hle5 hk hry => ?_));refine ⟨hle5,E.I k5 h :: .cells b4 0 [.int .i64 0,strV [], .int .i64 0, .slice none 0 0] :: L,List.Perm.swap _ _ _, ?_⟩
     refine DO.run 6 rfl rfl (by kernel_rfl) rfl ?_
     refine OT.litR tab rTree (hs:=[x,y]) (l:=[a,b]) ⟨rTree_iff.2 (hrx.mono hle5),rTree_iff.2 hry,trivial⟩ rfl rfl rfl rfl rfl (by decide) (fun s9 m6 hle6 hs9 ho9 hc9 => ?_);refine ⟨hle6,_,List.Perm.refl _, ?_⟩
     refine DO.pure tab uC (by kernel_rfl) [7] (by kernel_rfl) rfl ?_
     refine DO.tail ?_
     refine DOt.run 8 rfl rfl (by kernel_rfl) rfl ?_
     refine OT.storeL0 tab 0 rfl rfl rfl rfl rfl rfl rfl rfl ?_;refine DOt.perm (List.Perm.swap _ _ _) ?_
     refine DOt.nil (by kernel_rfl) ?_
     rotate_left 1
     refine uA ?_
     exact ⟨(⟨53,found,0,s9⟩,m6,Ps.binT found a b,k5,N),uH,uH,rfl,rfl,uS,⟨Mem.le_trans hm3 (Mem.le_trans hle5 hle6),hk,⟨rfl,rfl,rfl,hs9⟩,hT⟩,by simp only;omega⟩
theorem expr_par {U : Ps.Pp Tree} (hU : Par Tryz.prog mb E vTree 203 [E.v] h U) :
  Par Tryz.prog mb E vTree 191 [E.v] h (Ps.binL E.N U Ps.levels):=by
 refine Par.enter Tryz.func191 rfl 5 rfl fun m L k T hm0 hE hk hT hn => ?_
 have hB:=(binary_par hU 5 0 rfl).up hm0
 have hm : m ≤ m:=Mem.le_refl _
 replace hT : T=Ps.bind (Ps.binL E.N U Ps.levels) Ps.ret E.f k:=by rw [Ps.bind_ret];exact hT
 refine uA ?_
 refine TO.step rfl (OT.alloc tab rfl rfl rfl rfl (fun b2 => ?_));refine TO.perm (List.Perm.swap _ _ _) ?_
 refine uA ?_
 refine TO.step rfl (OT.parT (L0:=L) (hB) hm hT hn hE hk (by repeat (first|exact Bad.ret|refine Bad.then ?_)) hm uS rfl rfl rfl rfl rfl rfl goes200 (fun x m2 a k2 hT hm hE hlex hk hrx => ?_))
 refine uA ?_
 refine uT ?_
 refine uA ?_
 refine retQ_ret_c1 tab 1 rfl rfl rfl rfl (L':=E.I k2 h :: L) uS ⟨_,k2,[],hT,hm,hk,⟨x,rfl,rfl,hrx⟩,rfl⟩
set_option maxHeartbeats 1000000 in
theorem unary_par {X Y : Ps.Pp Tree} (hX : Par Tryz.prog mb E vTree 203 [E.v] h X) (hY : Par Tryz.prog mb E vTree 204 [E.v] h Y) :
  Par Tryz.prog mb E vTree 203 [E.v] h (Ps.oneOf [[45],[33],[38],[42]] (fun op=>Ps.bind X fun t=>Ps.ret (.mk 52 op 0 [t])) Y):=by
 refine Par.enter Tryz.func203 rfl 22 rfl fun m L k T hm0 hE hk hT hn => ?_
 replace hX:=hX.up hm0
 replace hY:=hY.up hm0
 have hm : m ≤ m:=Mem.le_refl _
 generalize hops : ([[45],[33],[38],[42]] : List Str)=ops at hT
 refine uA ?_
 refine TO.step rfl (OT.alloc tab rfl rfl rfl rfl (fun b2 => ?_));refine TO.perm (List.Perm.swap _ _ _) ?_
 refine uA ?_
 refine TO.step rfl (OT.litR tab rStr (hs:=[[45],[33],[38],[42]]) (l:=ops) (by rw [← hops];exact ⟨rfl,rfl,rfl,rfl,trivial⟩) rfl rfl rfl rfl (by rw [← hops];rfl) (by decide) (fun s m1 hm1 hs _ _ => ?_))
 have hlen:=hs.len
 have hsm:=hs.small rfl
 replace hm:=hm1
 replace hE:=hE.mono hm1
 refine uA ?_
 refine TC.loopK (ι:=Nat) [0,2,5,6] rfl (fun i=>[(7, .int .i64 (i : Int))]) (fun _=>m1) (fun i=>E.I k h :: .cells b2 0 [.int .i64 0,strV [], .int .i64 0, .slice none 0 0] :: L) (fun i=>i ≤ ops.length∧(ops.take i).all (fun s => !Ps.isM s E.f k)=true) (fun i=>ops.length - i) 0 uH rfl uS ⟨Nat.zero_le _,by simp⟩ ?_
 rintro i ⟨hi,hI⟩
 refine uA ?_
 refine TC.condP rfl (fun hc2 => ?_) (fun hc2 => ?_)
 ·have hlt : i < ops.length:=by omega
  have hx : ops[i]? = some ops[i]:=List.getElem?_eq_getElem hlt
  refine uA ?_
  refine TO.step rfl (OT.index tab rStr i hs rfl rfl rfl rfl rfl (by first | rfl | omega | (simp only;omega)) rfl hx ?_)
  rintro bs is' sv hsv hAs
  obtain rfl:=(show sv=ops[i] from hsv)
  refine uA ?_
  (refine TO.step rfl (OT.loadA0 tab hAs rfl rfl rfl rfl rfl ?_))
  refine uA ?_
  refine TO.step rfl (OT.call rfl rfl rfl rfl rfl rfl goes110 ((take_law ops[i] hE hk).x ?_));
  rintro _ _ _ ⟨rfl,rfl,rfl⟩
  unfold PE.step
  cases hb : Ps.isM ops[i] E.f k with
  | true =>
   replace hk:=PE.isM_lt hb
   rw [Ps.oneOf_some (Ps.find_at hlt hI hb)] at hT
   refine uA ?_
   refine TO.step rfl (OT.parT (L0:=L) (hX) hm hT hn hE hk (by repeat (first|exact Bad.ret|refine Bad.then ?_|refine Bad.block ?_)) hm uS rfl rfl rfl rfl rfl rfl goes203 (fun x m2 a k2 hT hm hE hlex hk hrx => ?_))
   refine uA ?_
   refine TO.step rfl (OT.litR tab rTree (hs:=[x]) (l:=[a]) ⟨rTree_iff.2 hrx,trivial⟩ rfl rfl rfl rfl rfl (by decide) (fun s m3 hle3 hs ho hc => ?_))
   refine uA ?_
   refine uT ?_
   refine uA ?_
   refine retQ_ret_c1 tab 1 rfl rfl rfl rfl (L':=E.I k2 h :: L) uS ⟨_,k2,[],hT,Mem.le_trans hm hle3,hk,⟨⟨52,ops[i],0,s⟩,rfl,rfl,⟨rfl,rfl,rfl,hs⟩⟩,rfl⟩
  | false =>
   refine uA ?_
   refine TO.step rfl (OT.arith (r':=((i + 1 : Nat) : Int)) rfl rfl rfl rfl rfl rfl rfl (by omega) ?_)
   refine uA ?_
   exact ⟨i + 1,uH,uH,rfl,rfl,uS,⟨hlt,by rw [List.take_succ_eq_append_getElem hlt,List.all_append,hI];simp [hb]⟩,by omega⟩
 ·rw [List.take_of_length_le (by omega)] at hI
  rw [Ps.oneOf_none (Ps.find_no hI),← Ps.bind_ret Y] at hT
  refine uA ?_
  refine TO.step rfl (OT.parT (L0:=L) (hY) hm hT hn hE hk (by repeat (first|exact Bad.ret|refine Bad.then ?_)) hm uS rfl rfl rfl rfl rfl rfl goes204 (fun x m2 a k2 hT hm hE hlex hk hrx => ?_))
  refine uA ?_
  refine uT ?_
  refine uA ?_
  refine retQ_ret_c1 tab 1 rfl rfl rfl rfl (L':=E.I k2 h :: L) uS ⟨_,k2,[],hT,hm,hk,⟨x,rfl,rfl,hrx⟩,rfl⟩
end
end Go.Sep


/- PsSnd2 -/
set_option linter.unusedVariables false
set_option linter.unusedSimpArgs false
namespace Go.Sep
open Go.Proofs
attribute [local irreducible] TC TO OT TCallX TCall DO DOt thenQ blockQ retQ At
end Go.Sep


/- PsSnd3 -/
set_option linter.unusedVariables false
set_option linter.unusedSimpArgs false
namespace Go.Sep
open Go.Proofs
attribute [local irreducible] TC TO OT TCallX TCall DO DOt thenQ blockQ retQ At
end Go.Sep


/- PsW11 -/
set_option linter.unusedVariables false
set_option linter.unusedSimpArgs false
namespace Go.Sep
open Go.Proofs
attribute [local irreducible] TC TO OT TCallX TCall DO DOt thenQ blockQ retQ At
def ParAt {α : Type} (P : Program) (E : PE) (V : RV α) (f : FuncId) (args : List Value) (h : Int) (X : Ps.Pp α) (m : Mem) (L : List Item) (k : Nat) : Prop :=
 X E.f k ≠ .out→TCallX P f ⟨args⟩ m (E.I k h :: L) (pR E V (X E.f k) m L h) (pX E (X E.f k) m L)
theorem ParAt.enter {α : Type} {P : Program} {E : PE} {V : RV α} {f : FuncId} {args : List Value} {h : Int} {X : Ps.Pp α} {m : Mem} {L : List Item} {k : Nat} {fn : Func} {c : Code} (hf : P.funcs[f]? = some fn) (hb : fn.body=some c) (N : Nat) (hN : Nat.ble N fn.ntmps=true)
  (hK : ∀ (T : Ps.Res α),T=X E.f k→T ≠ .out→TC P N c (argEnv args 0) [] m (E.I k h :: L) (retQ P fn (pR E V T m L h) (pX E T m L))) : ParAt P E V f args h X m L k :=
 fun h3=>TCallX.enter hf hb N hN (hK _ rfl h3)
theorem Par.at {α : Type} {P : Program} {mb : Mem} {E : PE} {V : RV α} {f : FuncId} {args : List Value} {h : Int} {X : Ps.Pp α} (hp : Par P mb E V f args h X) {m : Mem} (L : List Item) {k : Nat} (hm : mb ≤ m) (hE : E.Ok m) (hk : k ≤ E.toks.length) : ParAt P E V f args h X m L k:=hp m L k hm hE hk
section
variable {P : Program} {N : Nat} {ρ : Env} {m : Mem} {L : List Item} {Q : EPost} {o : Oper} {K : Env→Mem→List Item→Prop} {E : PE} {α β : Type}
theorem OT.parGA {V : RV α} {FF : Operand} {args : List Operand} {ats : Array TypeId} {f : FuncId} {first cap vs all : List Value} {d : Nat} {h : Int} {p : Ps.Pp α} {g : α → Ps.Pp β} {T : Ps.Res β} {k : Nat} {m0 : Mem} {L0 : List Item}
  (ho : o.op = .call ⟨.value FF,⟨args⟩,ats⟩) (hd : o.dst=some d) (hN : Nat.blt d N=true)
  (hF : ev ρ FF=some (.func (.func f) ⟨first⟩ ⟨cap⟩)) (ha : evs ρ args=some vs) (hall : fl (first++(vs++cap))=some all) (hg : Goes P f)
  (hp : ParAt P E V f all h p m L k) (hT : T=Ps.bind p g E.f k) (hn : T ≠ .out) (hb : Bad Q E T m0 L0) (hm : m0 ≤ m) (hL : L0.Sublist L)
  (hK : ∀ v m' a k' xs,T=g a E.f k' → m ≤ m' → k' ≤ E.toks.length→V m' v xs a→K ((d,v) :: ρ) m' (E.I k' h :: (xs++L))) : OT P N o ρ [] m (E.I k h :: L) Q K:=by
 refine OT.call ho hd hN hF ha hall hg (TCallX.mono (hp (bind_out' hT hn)) ?_ ?_)
 ·rintro v m' L' ⟨a,k',xs,h1,h2,h3,h4,rfl⟩
  exact hK v m' a k' xs (by rw [hT];unfold Ps.bind;rw [h1]) h2 h3 h4
 ·rintro ch m' L' ⟨k',h',h1,h2,h3,rfl,rfl⟩
  exact hb _ _ _ _ _ (Mem.le_trans hm h2) h3 (by rw [hT];unfold Ps.bind;rw [h1]) hL
variable {FF : Operand} {args : List Operand} {ats : Array TypeId} {f : FuncId} {first cap vs all : List Value} {d : Nat} {h : Int} {T : Ps.Res β} {k : Nat} {m0 : Mem} {L0 : List Item}
theorem OT.parTA {p : Ps.Pp Tree} {g : Tree→Ps.Pp β} (hp : ParAt P E vTree f all h p m L k) (hT : T=Ps.bind p g E.f k) (hn : T ≠ .out) (hE : E.Ok m) (hb : Bad Q E T m0 L0) (hm : m0 ≤ m) (hL : L0.Sublist L)
  (ho : o.op = .call ⟨.value FF,⟨args⟩,ats⟩) (hd : o.dst=some d) (hN : Nat.blt d N=true)
  (hF : ev ρ FF=some (.func (.func f) ⟨first⟩ ⟨cap⟩)) (ha : evs ρ args=some vs) (hall : fl (first++(vs++cap))=some all) (hg : Goes P f)
  (hK : ∀ x m' a k',T=g a E.f k' → m0 ≤ m' → E.Ok m' → m ≤ m' → k' ≤ E.toks.length→TreeRep m' x a→K ((d,treeV x) :: ρ) m' (E.I k' h :: L)) : OT P N o ρ [] m (E.I k h :: L) Q K :=
 OT.parGA ho hd hN hF ha hall hg hp hT hn hb hm hL fun v m' a k' xs h1 h2 h3 h4=>by
  obtain ⟨x,rfl,rfl,h5⟩:=h4
  exact hK x m' a k' h1 (Mem.le_trans hm h2) (hE.mono h2) h2 h3 h5
theorem OT.parSA {p : Ps.Pp (List Tree)} {g : List Tree→Ps.Pp β} (hp : ParAt P E vSl f all h p m L k) (hT : T=Ps.bind p g E.f k) (hn : T ≠ .out) (hE : E.Ok m) (hb : Bad Q E T m0 L0) (hm : m0 ≤ m) (hL : L0.Sublist L)
  (ho : o.op = .call ⟨.value FF,⟨args⟩,ats⟩) (hd : o.dst=some d) (hN : Nat.blt d N=true)
  (hF : ev ρ FF=some (.func (.func f) ⟨first⟩ ⟨cap⟩)) (ha : evs ρ args=some vs) (hall : fl (first++(vs++cap))=some all) (hg : Goes P f)
  (hK : ∀ (x : Sl) m' a k',T=g a E.f k' → m0 ≤ m' → E.Ok m' → m ≤ m' → k' ≤ E.toks.length→SlRep rTree m' x a→a.length ≤ 20001→K ((d,x.v) :: ρ) m' (E.I k' h :: L)) : OT P N o ρ [] m (E.I k h :: L) Q K :=
 OT.parGA ho hd hN hF ha hall hg hp hT hn hb hm hL fun v m' a k' xs h1 h2 h3 h4=>by
  obtain ⟨x,rfl,rfl,h5,h6⟩:=h4
  exact hK x m' a k' h1 (Mem.le_trans hm h2) (hE.mono h2) h2 h3 h5 h6
end
section
variable {mb : Mem} {E : PE} {h : Int}
theorem inside_at {f : FuncId} {first cap all : List Value} {X : Ps.Pp Tree} {m : Mem} {L : List Item} {k : Nat} (hall : fl (first++([]++cap))=some all) (hg : Goes Tryz.prog f) (hE : E.Ok m)
  (hX : ∀ b,ParAt Tryz.prog E vTree f all 0 X m (.cells b 0 [.int .i64 0,strV [], .int .i64 0, .slice none 0 0] :: L) k) :
  ParAt Tryz.prog E vTree 206 [E.v, .func (.func f) ⟨first⟩ ⟨cap⟩] h X m L k:=by
 refine ParAt.enter Tryz.func206 rfl 21 rfl fun T hT hn => ?_
 have hm : m ≤ m:=Mem.le_refl _
 rw [← Ps.bind_ret X] at hT
 refine uA ?_
 refine TO.step rfl (OT.alloc tab rfl rfl rfl rfl (fun b4 => ?_));refine TO.perm (List.Perm.swap _ _ _) ?_
 refine uA ?_
 refine uM ?_
 refine uA ?_
 refine TO.step rfl (OT.storeL (k:=3) tab 0 rfl rfl rfl rfl rfl rfl rfl rfl ?_)
 refine uA ?_
 refine TO.step rfl (OT.parTA (L0:=L) (hX b4) hT hn hE (by repeat (first|exact Bad.ret|refine Bad.then ?_)) hm uS rfl rfl rfl rfl rfl hall hg (fun x m2 a k2 hT hm hE hle hk hrx => ?_))
 refine uA ?_
 refine TO.step rfl (OT.alloc tab rfl rfl rfl rfl (fun b6 => ?_));refine TO.perm (List.Perm.swap _ _ _) ?_
 refine uA ?_
 refine uT ?_
 refine uA ?_
 refine TO.step rfl (OT.storeL (k:=3) tab 0 rfl rfl rfl rfl rfl rfl rfl rfl ?_)
 refine uA ?_
 refine uM ?_
 refine uA ?_
 refine TO.step rfl (OT.storeL0 tab 2 rfl rfl rfl rfl rfl rfl rfl rfl ?_)
 refine uA ?_
 refine retQ_ret_c1 tab 2 rfl rfl rfl rfl (L':=E.I k2 h :: L) uS ⟨_,k2,[],hT,hm,hk,⟨x,rfl,rfl,hrx⟩,rfl⟩
theorem insideS_at {f : FuncId} {first cap all : List Value} {X : Ps.Pp (List Tree)} {m : Mem} {L : List Item} {k : Nat} (hall : fl (first++([]++cap))=some all) (hg : Goes Tryz.prog f) (hE : E.Ok m)
  (hX : ParAt Tryz.prog E vSl f all 0 X m L k) :
  ParAt Tryz.prog E vSl 211 [E.v, .func (.func f) ⟨first⟩ ⟨cap⟩] h X m L k:=by
 refine ParAt.enter Tryz.func211 rfl 21 rfl fun T hT hn => ?_
 have hm : m ≤ m:=Mem.le_refl _
 rw [← Ps.bind_ret X] at hT
 refine uA ?_
 refine uM ?_
 refine uA ?_
 refine TO.step rfl (OT.storeL (k:=3) tab 0 rfl rfl rfl rfl rfl rfl rfl rfl ?_)
 refine uA ?_
 refine TO.step rfl (OT.parSA (L0:=L) hX hT hn hE (by repeat (first|exact Bad.ret|refine Bad.then ?_)) hm uS rfl rfl rfl rfl rfl hall hg (fun x m2 a k2 hT hm hE hle hk hrx hlx => ?_))
 refine uA ?_
 refine TO.step rfl (OT.storeL (k:=3) tab 0 rfl rfl rfl rfl rfl rfl rfl rfl ?_)
 refine uA ?_
 refine retQ_ret rfl (L':=E.I k2 h :: L) uS ⟨_,k2,[],hT,hm,hk,⟨x,rfl,rfl,hrx,hlx⟩,rfl⟩
theorem exprs_par {Y : Ps.Pp Tree} (hY : Par Tryz.prog mb E vTree 191 [E.v] h Y) (e : Str) :
  Par Tryz.prog mb E vSl 210 [E.v,strV e] h (Ps.exprsP E.N e Y):=by
 refine Par.enter Tryz.func210 rfl 17 rfl fun m L k T hm0 hE hk hT hn => ?_
 replace hY:=hY.up hm0
 have hm : m ≤ m:=Mem.le_refl _
 unfold Ps.exprsP Ps.inP at hT
 refine uA ?_
 refine TO.step rfl (OT.takeP hT hE hk rfl rfl rfl rfl rfl rfl (fun hT hk => ?_) (fun hT => ?_))
 ·refine uA ?_
  refine retQ_ret rfl (L':=E.I (k + 1) h :: L) uS ⟨[],k + 1,[],hT,hm,hk,⟨⟨none,0,0⟩,rfl,rfl,SlRep.nil _ _,by simp⟩,rfl⟩
 ·refine uA ?_
  refine TO.step rfl (OT.parL (L0:=L) (list1_par (first:=[E.v]) (cap:=[]) rfl goes191 hY) hm hT hn hE hk (by repeat (first|exact Bad.ret|refine Bad.then ?_)) hm uS rfl rfl rfl rfl rfl rfl goes146 (fun x m2 a k2 hT hm hE hlex hk hrx hox hlx => ?_))
  refine uA ?_
  refine TO.step rfl (OT.needP (L0:=L) hT hE hk (by repeat (first|exact Bad.ret|refine Bad.then ?_)) hm uS rfl rfl rfl rfl rfl rfl (fun hT hk => ?_))
  refine uA ?_
  refine retQ_ret rfl (L':=E.I (k2 + 1) h :: L) uS ⟨a,k2 + 1,[],hT,hm,hk,⟨x,rfl,rfl,hrx,hlx⟩,rfl⟩
set_option maxHeartbeats 1000000 in
theorem index_par {Y : Ps.Pp Tree} (hY : Par Tryz.prog mb E vTree 191 [E.v] 0 Y) (x : HTree) (n : Tree) (hr : TreeRep mb x n) :
  Par Tryz.prog mb E vTree 208 [E.v,treeV x] 0 (Ps.indexP Y n):=by
 refine Par.enter Tryz.func208 rfl 42 rfl fun m L k T hm0 hE hk hT hn => ?_
 replace hY:=hY.up hm0
 replace hr:=hr.mono hm0
 have hm : m ≤ m:=Mem.le_refl _
 unfold Ps.indexP at hT
 refine uA ?_
 refine TO.step rfl (OT.box rfl rfl rfl rfl rfl (fun b3 => ?_));refine TO.perm (List.Perm.swap _ _ _) ?_
 refine TO.step rfl (OT.alloc tab rfl rfl rfl rfl (fun b4 => ?_));refine TO.perm (List.Perm.swap _ _ _) ?_
 refine uA ?_
 refine uM ?_
 refine TO.step rfl (OT.litR tab rTree (hs:=[x]) (l:=[n]) ⟨rTree_iff.2 hr,trivial⟩ rfl rfl rfl rfl rfl (by decide) (fun s m1 hle1 hs ho hc => ?_))
 replace hm:=hle1
 replace hE:=hE.mono hle1
 refine TO.tokFo hc ho 4 ?_
 refine TO.perm (List.Perm.swap _ _ _) ?_
 refine uA ?_
 refine TO.step rfl (OT.alloc tab rfl rfl rfl rfl (fun b6 => ?_));refine TO.perm (List.Perm.swap _ _ _) ?_
 refine uA ?_
 refine uT ?_
 refine TO.nil ?_
 refine thenQ_n ?_
 refine TC.cut (ι:=Int × Sl × Mem × List Tree × Nat) [0,4,6] rfl (fun i=>[(5,i.2.1.v)]) (fun i=>i.2.2.1) (fun i=>E.I i.2.2.2.2 0 :: .cells b6 0 [.int .i64 50,strV [], .int .i64 i.1, .slice none 0 0] :: tok i.2.1 4 :: .cells b4 0 [.int .i64 0,strV [], .int .i64 0, .slice none 0 0] :: L) (fun i=>m ≤ i.2.2.1∧E.Ok i.2.2.1∧i.2.2.2.2 ≤ E.toks.length∧SlRep rTree i.2.2.1 i.2.1 i.2.2.2.1∧Own i.2.1∧i.2.2.2.1.length ≤ 2∧0 ≤ i.1∧i.1 ≤ 1∧T=Ps.cutP Y i.1 i.2.2.2.1 E.f i.2.2.2.2) ?_ ?_
 ·refine uA ?_
  refine TO.step rfl (OT.peekP hT hE hk rfl rfl rfl rfl rfl rfl (fun hT => ?_) (fun hT => ?_))
  ·refine uA ?_
   exact ⟨(0,s,m1,[n],k),uH,uH,rfl,rfl,uS,hm,hE,hk,hs,ho,by simp,by simp only;omega,by simp only;omega,hT⟩
  ·refine uA ?_
   refine TO.step rfl (OT.parT (L0:=L) (hY) hm hT hn hE hk (by repeat (first|exact Bad.ret|refine Bad.then ?_)) hm uS rfl rfl rfl rfl rfl rfl goes191 (fun y m2 e k2 hT hm hE hley hk hry => ?_))
   refine TO.step rfl (OT.litR tab rTree (hs:=[y]) (l:=[e]) ⟨rTree_iff.2 hry,trivial⟩ rfl rfl rfl rfl rfl (by decide) (fun s2 m3 hle3 hs2 ho2 hc2 => ?_))
   refine TO.step rfl (OT.append tab rTree 2 (hs.mono (Mem.le_trans hley hle3)) ho hs2 rfl rfl rfl rfl rfl rfl rfl (by simp only [List.length_cons,List.length_nil,rTree,mkR];omega) (fun s3 m4 hle4 hs3 ho3 => ?_))
   replace hm:=Mem.le_trans hm (Mem.le_trans hle3 hle4)
   replace hE:=hE.mono (Mem.le_trans hle3 hle4)
   refine uA ?_
   refine TO.step rfl (OT.takeP hT hE hk rfl rfl rfl rfl rfl rfl (fun hT hk => ?_) (fun hT => ?_))
   ·refine uA ?_
    refine TO.step rfl (OT.storeL0 tab 3 rfl rfl rfl rfl rfl rfl rfl rfl ?_)
    refine uA ?_
    refine retQ_ret_c1 tab 3 rfl rfl rfl rfl (L':=E.I (k2 + 1) 0 :: L) uS ⟨_,k2 + 1,[],hT,hm,hk,⟨⟨49,[],0,s3⟩,rfl,rfl,⟨rfl,rfl,rfl,hs3⟩⟩,rfl⟩
   ·refine uA ?_
    refine TO.step rfl (OT.storeL (k:=2) tab 1 rfl rfl rfl rfl rfl rfl rfl rfl ?_)
    refine uA ?_
    exact ⟨(1,s3,m4,[n]++[e],k2),uH,uH,rfl,rfl,uS,hm,hE,hk,hs3,ho3,by simp,by simp only;omega,by simp only;omega,hT⟩
 ·rintro ⟨num,s,m1,ks,k⟩ ⟨hm,hE,hk,hs,ho,hl,hn0,hn1,hT⟩
  simp only at hm hE hk hs ho hl hn0 hn1 hT
  unfold Ps.cutP at hT
  refine uA ?_
  refine TO.step rfl (OT.needP (L0:=L) hT hE hk (by repeat (first|exact Bad.ret|refine Bad.then ?_)) hm uS rfl rfl rfl rfl rfl rfl (fun hT hk => ?_))
  refine uA ?_
  refine TO.step rfl (OT.takeP hT hE hk rfl rfl rfl rfl rfl rfl (fun hT hk => ?_) (fun hT => ?_))
  ·refine uA ?_
   refine TO.step rfl (OT.storeL (k:=3) tab 1 rfl rfl rfl rfl rfl rfl rfl rfl ?_)
   refine uA ?_
   refine uM ?_
   refine uA ?_
   refine TO.step rfl (OT.storeL0 tab 3 rfl rfl rfl rfl rfl rfl rfl rfl ?_)
   refine uA ?_
   refine retQ_ret_c1 tab 3 rfl rfl rfl rfl (L':=E.I (k + 1 + 1) 0 :: L) uS ⟨_,k + 1 + 1,[],hT,hm,hk,⟨⟨50,[],num,s⟩,rfl,rfl,⟨rfl,rfl,rfl,hs⟩⟩,rfl⟩
  ·refine uA ?_
   refine TO.step rfl (OT.parT (L0:=L) (hY) hm hT hn hE hk (by repeat (first|exact Bad.ret|refine Bad.then ?_)) hm uS rfl rfl rfl rfl rfl rfl goes191 (fun y m2 e k2 hT hm hE hley hk hry => ?_))
   refine TO.step rfl (OT.litR tab rTree (hs:=[y]) (l:=[e]) ⟨rTree_iff.2 hry,trivial⟩ rfl rfl rfl rfl rfl (by decide) (fun s2 m3 hle3 hs2 ho2 hc2 => ?_))
   refine TO.step rfl (OT.append tab rTree 2 (hs.mono (Mem.le_trans hley hle3)) ho hs2 rfl rfl rfl rfl rfl rfl rfl (by simp only [List.length_cons,List.length_nil,rTree,mkR];omega) (fun s3 m4 hle4 hs3 ho3 => ?_))
   replace hm:=Mem.le_trans hm (Mem.le_trans hle3 hle4)
   replace hE:=hE.mono (Mem.le_trans hle3 hle4)
   refine uA ?_
   refine uM ?_
   refine TO.step rfl (OT.arith (r':=num + 2) rfl rfl rfl rfl rfl rfl rfl (by omega) ?_)
   refine uA ?_
   refine TO.step rfl (OT.storeL (k:=2) tab 1 rfl rfl rfl rfl rfl rfl rfl rfl ?_)
   refine uA ?_
   refine TO.step rfl (OT.needP (L0:=L) hT hE hk (by repeat (first|exact Bad.ret|refine Bad.then ?_)) hm uS rfl rfl rfl rfl rfl rfl (fun hT hk => ?_))
   refine uA ?_
   refine TO.step rfl (OT.storeL (k:=3) tab 1 rfl rfl rfl rfl rfl rfl rfl rfl ?_)
   refine uA ?_
   refine uM ?_
   refine uA ?_
   refine TO.step rfl (OT.storeL0 tab 3 rfl rfl rfl rfl rfl rfl rfl rfl ?_)
   refine uA ?_
   refine retQ_ret_c1 tab 3 rfl rfl rfl rfl (L':=E.I (k2 + 1) 0 :: L) uS ⟨_,k2 + 1,[],hT,hm,hk,⟨⟨50,[],num + 2,s3⟩,rfl,rfl,⟨rfl,rfl,rfl,hs3⟩⟩,rfl⟩
end
end Go.Sep


/- PsW12 -/
set_option linter.unusedVariables false
set_option linter.unusedSimpArgs false
namespace Go.Sep
open Go.Proofs
attribute [local irreducible] TC TO OT TCallX TCall DO DOt thenQ blockQ retQ At
section
variable {mb : Mem} {E : PE} {h : Int}
theorem post1_at {Y : Ps.Pp Tree} (hY : Par Tryz.prog mb E vTree 191 [E.v] 0 Y) {m : Mem} {L : List Item} {k : Nat} {it : Item} {b1 b3 : Nat} {x : HTree} {n : Tree} (hm0 : mb ≤ m) (hE : E.Ok m) (hk : k ≤ E.toks.length) (hA : At m b1 0 [E.v]) (hr : TreeRep m x n) :
  ParAt Tryz.prog E vTree 207 [.pointer (some ⟨b1,0,none⟩), .pointer (some ⟨b3,0,none⟩)] 0 (Ps.indexP Y n) m (it :: .cells b3 0 (treeC x) :: L) k:=by
 refine ParAt.enter Tryz.func207 rfl 6 rfl fun T hT hn => ?_
 have hm : m ≤ m:=Mem.le_refl _
 rw [← Ps.bind_ret (Ps.indexP Y n)] at hT
 refine uA ?_
 refine TO.step rfl (OT.alloc tab rfl rfl rfl rfl (fun b2 => ?_));refine TO.perm (List.Perm.swap _ _ _) ?_
 refine uA ?_
 (refine TO.step rfl (OT.loadA0 tab hA rfl rfl rfl rfl rfl ?_))
 refine uM ?_
 refine TO.step rfl (OT.parT (L0:=it :: .cells b3 0 (treeC x) :: L) (index_par (hY.up hm0) x n hr) hm hT hn hE hk (by repeat (first|exact Bad.ret|refine Bad.then ?_)) hm uS rfl rfl rfl rfl rfl rfl goes208 (fun x m2 a k2 hT hm hE hle hk hrx => ?_))
 refine uA ?_
 refine uT ?_
 refine uA ?_
 refine retQ_ret_c1 tab 1 rfl rfl rfl rfl (L':=E.I k2 0 :: it :: .cells b3 0 _ :: L) uS ⟨_,k2,[],hT,hm,hk,⟨x,rfl,rfl,hrx⟩,rfl⟩
set_option maxHeartbeats 1000000 in
theorem post2_at {Y : Ps.Pp Tree} (hY : Par Tryz.prog mb E vTree 191 [E.v] 0 Y) {m : Mem} {L : List Item} {k : Nat} {it : Item} {b1 b3 : Nat} {x : HTree} {n : Tree} (hm0 : mb ≤ m) (hE : E.Ok m) (hk : k ≤ E.toks.length) (hA : At m b1 0 [E.v]) (hr : TreeRep m x n) :
  ParAt Tryz.prog E vTree 209 [.pointer (some ⟨b3,0,none⟩), .pointer (some ⟨b1,0,none⟩)] 0 (Ps.bind (Ps.exprsP E.N [41] Y) fun l=>Ps.ret (.mk 51 [] 0 (n :: l))) m (it :: .cells b3 0 (treeC x) :: L) k:=by
 refine ParAt.enter Tryz.func209 rfl 9 rfl fun T hT hn => ?_
 have hm : m ≤ m:=Mem.le_refl _
 replace hY:=hY.up hm0
 refine uA ?_
 refine TO.step rfl (OT.alloc tab rfl rfl rfl rfl (fun b2 => ?_));refine TO.perm (List.Perm.swap _ _ _) ?_
 refine uA ?_
 refine TC.draw [6] mixed 7 rfl [.cells b3 0 (treeC x), .cells b2 0 [.int .i64 0,strV [], .int .i64 0, .slice none 0 0]] (E.I k 0 :: it :: L) ((List.Perm.trans pfr3 (List.Perm.cons _ pfr1))) ?_
 refine DO.loadL (k:=0) tab 0 0 uC (by kernel_rfl) (by kernel_rfl) rfl rfl rfl rfl rfl rfl rfl rfl ?_
 refine DO.loadA (k:=0) tab 2 hA uC (by kernel_rfl) (by kernel_rfl) rfl rfl rfl rfl rfl rfl rfl ?_
 refine DO.fork 1 [3] (by kernel_rfl) ⟨⟨_,rfl,rfl,rfl, ?_⟩,⟨_,rfl,rfl,rfl, ?_⟩,trivial⟩
 ·skip
  refine OT.litR tab rTree (hs:=[x]) (l:=[n]) ⟨rTree_iff.2 hr,trivial⟩ rfl rfl rfl rfl rfl (by decide) (fun s mB hleB hs ho hc => ?_)
  replace hm:=Mem.le_trans hm hleB
  replace hE:=hE.mono hleB
  refine ⟨hleB,_,List.Perm.refl _, ?_⟩
  refine DO.run 3 rfl rfl (by kernel_rfl) rfl ?_
  refine OT.perm (L':=E.I k 0 :: .cells b2 0 [.int .i64 0,strV [], .int .i64 0, .slice none 0 0] :: it :: .cells b3 0 (treeC x) :: L) ((List.Perm.trans pfr2 (List.Perm.cons _ (List.Perm.trans pfr1 (List.Perm.cons _ pfr1))))) (OT.parS (L0:=it :: .cells b3 0 (treeC x) :: L) (exprs_par hY [41]) hm hT hn hE hk (by repeat (first|exact Bad.ret|refine Bad.then ?_)) hm uS rfl rfl rfl rfl rfl rfl goes210 (fun y mA l k2 hT hm hE hleA hk hry hly => ?_))
  refine ⟨hleA,E.I k2 0 :: it :: L,((List.Perm.trans pfr3 (List.Perm.cons _ pfr1))), ?_⟩
  have hsB:=hs.mono hleA
  have hrB:=hry
  refine DO.run 4 rfl rfl (by kernel_rfl) rfl ?_
  refine OT.tokFo hc ho 4 (OT.append tab rTree 0 hsB ho hrB rfl rfl rfl rfl rfl rfl rfl (by simp only [List.length_cons,List.length_nil,rTree,mkR];omega) (fun s3 mC hleC hs3 ho3 => ?_))
  refine ⟨hleC,tok s3 4 :: E.I k2 0 :: it :: L,perm_mid (l:=[_,_]), ?_⟩
  refine DO.pure tab uC (by kernel_rfl) [5] (by kernel_rfl) rfl ?_
  refine DO.tail ?_
  refine DOt.run 6 rfl rfl (by kernel_rfl) rfl ?_
  refine OT.storeL0 tab 1 rfl rfl rfl rfl rfl rfl rfl rfl ?_
  refine DOt.perm (L':=E.I k2 0 :: .cells b2 0 [.int .i64 51,strV [], .int .i64 0,s3.v] :: tok s3 4 :: it :: .cells b3 0 (treeC x) :: L) ((List.Perm.trans pfr3 (List.Perm.cons _ (List.Perm.trans pfr1 (List.Perm.cons _ (List.Perm.trans pfr1 (List.Perm.cons _ pfr1))))))) ?_
  refine DOt.nil (by kernel_rfl) ?_
  refine uA ?_
  refine retQ_ret_c1 tab 1 rfl rfl rfl rfl (L':=E.I k2 0 :: it :: .cells b3 0 (treeC x) :: L) uS ⟨_,k2,[],hT,Mem.le_trans hm hleC,hk,⟨⟨51,[],0,s3⟩,rfl,rfl,⟨rfl,rfl,rfl,hs3⟩⟩,rfl⟩
 ·skip
  refine OT.perm (L':=E.I k 0 :: .cells b2 0 [.int .i64 0,strV [], .int .i64 0, .slice none 0 0] :: it :: .cells b3 0 (treeC x) :: L) ((List.Perm.trans pfr2 (List.Perm.cons _ (List.Perm.trans pfr1 (List.Perm.cons _ pfr1))))) (OT.parS (L0:=it :: .cells b3 0 (treeC x) :: L) (exprs_par hY [41]) hm hT hn hE hk (by repeat (first|exact Bad.ret|refine Bad.then ?_)) hm uS rfl rfl rfl rfl rfl rfl goes210 (fun y mA l k2 hT hm hE hleA hk hry hly => ?_))
  refine ⟨hleA,E.I k2 0 :: it :: L,((List.Perm.trans pfr3 (List.Perm.cons _ pfr1))), ?_⟩
  refine DO.run 1 rfl rfl (by kernel_rfl) rfl ?_
  refine OT.litR tab rTree (hs:=[x]) (l:=[n]) ⟨rTree_iff.2 (hr.mono hleA),trivial⟩ rfl rfl rfl rfl rfl (by decide) (fun s mB hleB hs ho hc => ?_)
  replace hm:=Mem.le_trans hm hleB
  replace hE:=hE.mono hleB
  refine ⟨hleB,_,List.Perm.refl _, ?_⟩
  have hsB:=hs
  have hrB:=hry.mono hleB
  refine DO.run 4 rfl rfl (by kernel_rfl) rfl ?_
  refine OT.tokFo hc ho 4 (OT.append tab rTree 0 hsB ho hrB rfl rfl rfl rfl rfl rfl rfl (by simp only [List.length_cons,List.length_nil,rTree,mkR];omega) (fun s3 mC hleC hs3 ho3 => ?_))
  refine ⟨hleC,tok s3 4 :: E.I k2 0 :: it :: L,perm_mid (l:=[_,_]), ?_⟩
  refine DO.pure tab uC (by kernel_rfl) [5] (by kernel_rfl) rfl ?_
  refine DO.tail ?_
  refine DOt.run 6 rfl rfl (by kernel_rfl) rfl ?_
  refine OT.storeL0 tab 1 rfl rfl rfl rfl rfl rfl rfl rfl ?_
  refine DOt.perm (L':=E.I k2 0 :: .cells b2 0 [.int .i64 51,strV [], .int .i64 0,s3.v] :: tok s3 4 :: it :: .cells b3 0 (treeC x) :: L) ((List.Perm.trans pfr3 (List.Perm.cons _ (List.Perm.trans pfr1 (List.Perm.cons _ (List.Perm.trans pfr1 (List.Perm.cons _ pfr1))))))) ?_
  refine DOt.nil (by kernel_rfl) ?_
  refine uA ?_
  refine retQ_ret_c1 tab 1 rfl rfl rfl rfl (L':=E.I k2 0 :: it :: .cells b3 0 (treeC x) :: L) uS ⟨_,k2,[],hT,Mem.le_trans hm hleC,hk,⟨⟨51,[],0,s3⟩,rfl,rfl,⟨rfl,rfl,rfl,hs3⟩⟩,rfl⟩
end
end Go.Sep


/- PsW13 -/
set_option linter.unusedVariables false
set_option linter.unusedSimpArgs false
namespace Go.Ps
theorem tkn_t {α : Type} {c : Int} {A : Tk→Pp α} {B : Pp α} {f : F} {k : Nat} {t : Tk} (h : f k=some t) (hk : isK c f k=true) : tkn c A B f k=A t f (k + 1):=by
 unfold isK at hk
 rw [h] at hk
 simp only at hk
 unfold tkn;rw [h];simp only [hk,cond_true]
theorem tkn_f {α : Type} {c : Int} {A : Tk→Pp α} {B : Pp α} {f : F} {k : Nat} (hk : isK c f k=false) : tkn c A B f k=B f k:=by
 unfold isK at hk
 unfold tkn
 cases h : f k with
 | none=>rfl
 | some t=>rw [h] at hk;simp only at hk;simp only [hk,cond_false]
end Go.Ps
namespace Go.Sep
open Go.Proofs
attribute [local irreducible] TC TO OT TCallX TCall DO DOt thenQ blockQ retQ At
section
variable {mb : Mem} {E : PE} {h : Int}
theorem primary1_par {Y : Ps.Pp Tree} (hY : Par Tryz.prog mb E vTree 191 [E.v] h Y) (b1 : Nat) (hA : At mb b1 0 [E.v]) :
  Par Tryz.prog mb E vSl 212 [.pointer (some ⟨b1,0,none⟩)] h (Ps.exprsP E.N [125] Y):=by
 refine Par.enter Tryz.func212 rfl 4 rfl fun m L k T hm0 hE hk hT hn => ?_
 replace hY:=hY.up hm0
 replace hA:=hA.mono hm0
 have hm : m ≤ m:=Mem.le_refl _
 rw [← Ps.bind_ret (Ps.exprsP E.N [125] Y)] at hT
 refine uA ?_
 (refine TO.step rfl (OT.loadA0 tab hA rfl rfl rfl rfl rfl ?_))
 refine uA ?_
 refine TO.step rfl (OT.parS (L0:=L) (exprs_par hY [125]) hm hT hn hE hk (by repeat (first|exact Bad.ret|refine Bad.then ?_)) hm uS rfl rfl rfl rfl rfl rfl goes210 (fun x m2 a k2 hT hm hE hlex hk hrx hlx => ?_))
 refine uA ?_
 refine retQ_ret rfl (L':=E.I k2 h :: L) uS ⟨a,k2,[],hT,hm,hk,⟨x,rfl,rfl,hrx,hlx⟩,rfl⟩
set_option maxHeartbeats 2000000 in
theorem primary_par {X Y Z : Ps.Pp Tree} (hd : Bool) (hX : Par Tryz.prog mb E vTree 143 [E.v] (bif hd then 1 else 0) X) (hY : Par Tryz.prog mb E vTree 191 [E.v] 0 Y) (hZ : Par Tryz.prog mb E vTree 115 [E.v] (bif hd then 1 else 0) Z) :
  Par Tryz.prog mb E vTree 205 [E.v] (bif hd then 1 else 0) (Ps.primP E.N X Z Y hd):=by
 refine Par.enter Tryz.func205 rfl 119 rfl fun m L k T hm0 hE hk hT hn => ?_
 have hm : m ≤ m:=Mem.le_refl _
 have hrows:=hE.rows
 unfold Ps.primP at hT
 generalize hh : (bif hd then (1 : Int) else 0)=h at hX hZ ⊢
 refine uA ?_
 refine TO.step rfl (OT.box rfl rfl rfl rfl rfl (fun b1 => ?_))
 refine TO.freeze fun m1 hle1 hA => ?_
 replace hm : m ≤ m1:=hle1
 replace hE:=hE.mono hle1
 replace hX:=hX.up (Mem.le_trans hm0 hle1)
 replace hY:=hY.up (Mem.le_trans hm0 hle1)
 replace hZ:=hZ.up (Mem.le_trans hm0 hle1)
 have hmm : m1 ≤ m1:=Mem.le_refl _
 have hlen:=hE.rep.len
 have hfew:=hE.few
 refine uA ?_
 refine TO.step rfl (OT.alloc tab rfl rfl rfl rfl (fun b2 => ?_));refine TO.perm (List.Perm.swap _ _ _) ?_
 refine uA ?_
 (refine TO.step rfl (OT.loadA0 tab hA rfl rfl rfl rfl rfl ?_))
 refine uA ?_
 refine TO.step rfl (OT.call rfl rfl rfl rfl rfl rfl goes145 ((is_law 2 hE hk).x ?_));
 rintro _ _ _ ⟨rfl,rfl,rfl⟩
 refine uA ?_
 cases hb : Ps.isK 2 E.f k with
 | true =>
  have hlt:=PE.isK_lt hb
  have hx : E.toks[k]? = some E.toks[k]:=List.getElem?_eq_getElem hlt
  rw [Ps.tkn_t (PE.f_some hlt) hb] at hT
  refine uA ?_
  (refine TO.step rfl (OT.loadA0 tab hA rfl rfl rfl rfl rfl ?_))
  refine uA ?_
  refine uM ?_
  refine TO.step rfl (OT.arith (r':=((k + 1 : Nat) : Int)) rfl rfl rfl rfl rfl rfl rfl (by omega) ?_)
  refine uA ?_
  refine TO.step rfl (OT.storeL (k:=2) tab 0 rfl rfl rfl rfl rfl rfl rfl rfl ?_)
  refine uA ?_
  refine TC.draw [13] mixed 14 rfl [E.I (k + 1) h, .cells b2 0 [.int .i64 0,strV [], .int .i64 0, .slice none 0 0]] L uP ?_
  (refine DO.loadA (k:=0) tab 0 hA uC (by kernel_rfl) (by kernel_rfl) rfl rfl rfl rfl rfl rfl rfl ?_)
  refine DO.pure tab uC (by kernel_rfl) [1,2] (by kernel_rfl) rfl ?_
  (refine DO.loadL tab 3 0 uC (by kernel_rfl) (by kernel_rfl) rfl rfl rfl rfl rfl rfl rfl rfl ?_)
  (refine DO.loadA (k:=0) tab 4 hA uC (by kernel_rfl) (by kernel_rfl) rfl rfl rfl rfl rfl rfl rfl ?_)
  refine DO.pure tab uC (by kernel_rfl) [5,6] (by kernel_rfl) rfl ?_
  (refine DO.loadL tab 7 0 uC (by kernel_rfl) (by kernel_rfl) rfl rfl rfl rfl rfl rfl rfl rfl ?_)
  refine DO.arith 8 (r':=((k : Nat) : Int)) uC (by kernel_rfl) (by kernel_rfl) rfl rfl rfl rfl rfl rfl rfl rfl (by first | rfl | omega | (simp only;omega)) (by omega) ?_
  refine DO.index tab rTok 9 k hE.rep uC (by kernel_rfl) (by kernel_rfl) rfl rfl rfl rfl rfl rfl rfl (by first | rfl | omega) rfl hx ?_
  rintro b i hd hr hA2;obtain rfl:=(show hd=E.toks[k] from hr)
  refine DO.pure tab uC (by kernel_rfl) [10] (by kernel_rfl) rfl ?_
  (refine DO.loadA tab 11 hA2 uC (by kernel_rfl) (by kernel_rfl) rfl rfl rfl rfl rfl rfl rfl ?_)
  refine DO.pure tab uC (by kernel_rfl) [12] (by kernel_rfl) rfl ?_
  refine DO.tail ?_
  refine DOt.run 13 rfl rfl (by kernel_rfl) rfl ?_
  refine OT.storeL0 tab 1 rfl rfl rfl rfl rfl rfl rfl rfl ?_
  refine DOt.nil (by kernel_rfl) ?_
  rotate_left 1
  refine uA ?_
  refine retQ_ret_c1 tab 1 rfl rfl rfl rfl (L':=E.I (k + 1) h :: L) uS ⟨_,k + 1,[],hT,hm,hlt,⟨⟨40,[],(E.toks[k]).num,⟨none,0,0⟩⟩,rfl,rfl,⟨rfl,rfl,rfl,SlRep.nil _ _⟩⟩,rfl⟩
 | false =>
 rw [Ps.tkn_f hb] at hT
 refine uA ?_
 (refine TO.step rfl (OT.loadA0 tab hA rfl rfl rfl rfl rfl ?_))
 refine uA ?_
 refine TO.step rfl (OT.call rfl rfl rfl rfl rfl rfl goes145 ((is_law 3 hE hk).x ?_));
 rintro _ _ _ ⟨rfl,rfl,rfl⟩
 refine uA ?_
 cases hb : Ps.isK 3 E.f k with
 | true =>
  have hlt:=PE.isK_lt hb
  have hx : E.toks[k]? = some E.toks[k]:=List.getElem?_eq_getElem hlt
  rw [Ps.tkn_t (PE.f_some hlt) hb] at hT
  refine uA ?_
  (refine TO.step rfl (OT.loadA0 tab hA rfl rfl rfl rfl rfl ?_))
  refine uA ?_
  refine uM ?_
  refine TO.step rfl (OT.arith (r':=((k + 1 : Nat) : Int)) rfl rfl rfl rfl rfl rfl rfl (by omega) ?_)
  refine uA ?_
  refine TO.step rfl (OT.storeL (k:=2) tab 0 rfl rfl rfl rfl rfl rfl rfl rfl ?_)
  refine uA ?_
  refine TC.draw [13] mixed 14 rfl [E.I (k + 1) h, .cells b2 0 [.int .i64 0,strV [], .int .i64 0, .slice none 0 0]] L uP ?_
  (refine DO.loadA (k:=0) tab 0 hA uC (by kernel_rfl) (by kernel_rfl) rfl rfl rfl rfl rfl rfl rfl ?_)
  refine DO.pure tab uC (by kernel_rfl) [1,2] (by kernel_rfl) rfl ?_
  (refine DO.loadL tab 3 0 uC (by kernel_rfl) (by kernel_rfl) rfl rfl rfl rfl rfl rfl rfl rfl ?_)
  (refine DO.loadA (k:=0) tab 4 hA uC (by kernel_rfl) (by kernel_rfl) rfl rfl rfl rfl rfl rfl rfl ?_)
  refine DO.pure tab uC (by kernel_rfl) [5,6] (by kernel_rfl) rfl ?_
  (refine DO.loadL tab 7 0 uC (by kernel_rfl) (by kernel_rfl) rfl rfl rfl rfl rfl rfl rfl rfl ?_)
  refine DO.arith 8 (r':=((k : Nat) : Int)) uC (by kernel_rfl) (by kernel_rfl) rfl rfl rfl rfl rfl rfl rfl rfl (by first | rfl | omega | (simp only;omega)) (by omega) ?_
  refine DO.index tab rTok 9 k hE.rep uC (by kernel_rfl) (by kernel_rfl) rfl rfl rfl rfl rfl rfl rfl (by first | rfl | omega) rfl hx ?_
  rintro b i hd hr hA2;obtain rfl:=(show hd=E.toks[k] from hr)
  refine DO.pure tab uC (by kernel_rfl) [10] (by kernel_rfl) rfl ?_
  (refine DO.loadA tab 11 hA2 uC (by kernel_rfl) (by kernel_rfl) rfl rfl rfl rfl rfl rfl rfl ?_)
  refine DO.pure tab uC (by kernel_rfl) [12] (by kernel_rfl) rfl ?_
  refine DO.tail ?_
  refine DOt.run 13 rfl rfl (by kernel_rfl) rfl ?_
  refine OT.storeL0 tab 1 rfl rfl rfl rfl rfl rfl rfl rfl ?_
  refine DOt.nil (by kernel_rfl) ?_
  rotate_left 1
  refine uA ?_
  refine retQ_ret_c1 tab 1 rfl rfl rfl rfl (L':=E.I (k + 1) h :: L) uS ⟨_,k + 1,[],hT,hm,hlt,⟨⟨41,(E.toks[k]).text,0,⟨none,0,0⟩⟩,rfl,rfl,⟨rfl,rfl,rfl,SlRep.nil _ _⟩⟩,rfl⟩
 | false =>
 rw [Ps.tkn_f hb] at hT
 refine uA ?_
 (refine TO.step rfl (OT.loadA0 tab hA rfl rfl rfl rfl rfl ?_))
 refine uA ?_
 refine TO.step rfl (OT.takeP hT hE hk rfl rfl rfl rfl rfl rfl (fun hT hk => ?_) (fun hT => ?_))
 ·refine uA ?_
  refine uT ?_
  refine uA ?_
  refine retQ_ret_c1 tab 1 rfl rfl rfl rfl (L':=E.I (k + 1) h :: L) uS ⟨_,k + 1,[],hT,hm,hk,⟨⟨42,[],1,⟨none,0,0⟩⟩,rfl,rfl,⟨rfl,rfl,rfl,SlRep.nil _ _⟩⟩,rfl⟩
 refine uA ?_
 (refine TO.step rfl (OT.loadA0 tab hA rfl rfl rfl rfl rfl ?_))
 refine uA ?_
 refine TO.step rfl (OT.takeP hT hE hk rfl rfl rfl rfl rfl rfl (fun hT hk => ?_) (fun hT => ?_))
 ·refine uA ?_
  refine uT ?_
  refine uA ?_
  refine retQ_ret_c1 tab 1 rfl rfl rfl rfl (L':=E.I (k + 1) h :: L) uS ⟨_,k + 1,[],hT,hm,hk,⟨⟨42,[],0,⟨none,0,0⟩⟩,rfl,rfl,⟨rfl,rfl,rfl,SlRep.nil _ _⟩⟩,rfl⟩
 refine uA ?_
 (refine TO.step rfl (OT.loadA0 tab hA rfl rfl rfl rfl rfl ?_))
 refine uA ?_
 refine TO.step rfl (OT.takeP hT hE hk rfl rfl rfl rfl rfl rfl (fun hT hk => ?_) (fun hT => ?_))
 ·refine uA ?_
  refine uT ?_
  refine uA ?_
  refine retQ_ret_c1 tab 1 rfl rfl rfl rfl (L':=E.I (k + 1) h :: L) uS ⟨_,k + 1,[],hT,hm,hk,⟨⟨43,[],0,⟨none,0,0⟩⟩,rfl,rfl,⟨rfl,rfl,rfl,SlRep.nil _ _⟩⟩,rfl⟩
 refine uA ?_
 (refine TO.step rfl (OT.loadA0 tab hA rfl rfl rfl rfl rfl ?_))
 refine uA ?_
 refine TO.step rfl (OT.takeP hT hE hk rfl rfl rfl rfl rfl rfl (fun hT hk => ?_) (fun hT => ?_))
 ·refine uA ?_
  (refine TO.step rfl (OT.loadA0 tab hA rfl rfl rfl rfl rfl ?_))
  (refine TO.step rfl (OT.loadA0 tab hA rfl rfl rfl rfl rfl ?_))
  refine uA ?_
  refine TO.step rfl (OT.parTA (L0:=L) (inside_at (first:=[E.v]) (cap:=[]) rfl goes191 hE (fun b=>hY.at _ hmm hE hk)) hT hn hE (by repeat (first|exact Bad.ret|refine Bad.then ?_|refine Bad.block ?_)) hm uS rfl rfl rfl rfl rfl rfl goes206 (fun x m2 a k2 hT hm hE hle hk hrx => ?_))
  replace hA:=hA.mono hle
  refine uA ?_
  refine TO.step rfl (OT.alloc tab rfl rfl rfl rfl (fun b3 => ?_));refine TO.perm (List.Perm.swap _ _ _) ?_
  refine uA ?_
  refine uT ?_
  refine uA ?_
  (refine TO.step rfl (OT.loadA0 tab hA rfl rfl rfl rfl rfl ?_))
  refine uA ?_
  refine TO.step rfl (OT.needP (L0:=L) hT hE hk (by repeat (first|exact Bad.ret|refine Bad.then ?_|refine Bad.block ?_)) hm uS rfl rfl rfl rfl rfl rfl (fun hT hk => ?_))
  refine uA ?_
  refine uM ?_
  refine uA ?_
  refine TO.step rfl (OT.storeL0 tab 2 rfl rfl rfl rfl rfl rfl rfl rfl ?_)
  refine uA ?_
  refine retQ_ret_c1 tab 2 rfl rfl rfl rfl (L':=E.I (k2 + 1) h :: L) uS ⟨_,k2 + 1,[],hT,hm,hk,⟨x,rfl,rfl,hrx⟩,rfl⟩
 refine uA ?_
 (refine TO.step rfl (OT.loadA0 tab hA rfl rfl rfl rfl rfl ?_))
 refine uA ?_
 refine TO.step rfl (OT.takeP hT hE hk rfl rfl rfl rfl rfl rfl (fun hT hk => ?_) (fun hT => ?_))
 ·refine uA ?_
  (refine TO.step rfl (OT.loadA0 tab hA rfl rfl rfl rfl rfl ?_))
  refine uA ?_
  refine TO.step rfl (OT.needP (L0:=L) hT hE hk (by repeat (first|exact Bad.ret|refine Bad.then ?_|refine Bad.block ?_)) hm uS rfl rfl rfl rfl rfl rfl (fun hT hk => ?_))
  refine uA ?_
  (refine TO.step rfl (OT.loadA0 tab hA rfl rfl rfl rfl rfl ?_))
  refine uA ?_
  refine TO.step rfl (OT.parT (L0:=L) hX hmm hT hn hE hk (by repeat (first|exact Bad.ret|refine Bad.then ?_|refine Bad.block ?_)) hm uS rfl rfl rfl rfl rfl rfl goes143 (fun x m2 a k2 hT hm hE hle hk hrx => ?_))
  refine TO.step rfl (OT.litR tab rTree (hs:=[x]) (l:=[a]) ⟨rTree_iff.2 hrx,trivial⟩ rfl rfl rfl rfl rfl (by decide) (fun s m3 hle3 hs ho hc => ?_))
  replace hA:=hA.mono (Mem.le_trans hle hle3)
  replace hm:=Mem.le_trans hm hle3
  replace hE:=hE.mono hle3
  replace hY:=hY.up (Mem.le_trans hle hle3)
  refine TO.tokFo hc ho 4 ?_
  refine TO.perm (List.Perm.swap _ _ _) ?_
  refine uA ?_
  refine TO.step rfl (OT.alloc tab rfl rfl rfl rfl (fun b4 => ?_));refine TO.perm (List.Perm.swap _ _ _) ?_
  refine uA ?_
  refine uT ?_
  refine uA ?_
  (refine TO.step rfl (OT.loadA0 tab hA rfl rfl rfl rfl rfl ?_))
  refine uA ?_
  refine TO.step rfl (OT.needP (L0:=L) hT hE hk (by repeat (first|exact Bad.ret|refine Bad.then ?_|refine Bad.block ?_)) hm uS rfl rfl rfl rfl rfl rfl (fun hT hk => ?_))
  refine uA ?_
  refine TC.draw [7] mixed 8 rfl [.cells b4 0 [.int .i64 46,strV [], .int .i64 0,s.v]] (E.I (k2 + 1) h :: tok s 4 :: .cells b2 0 [.int .i64 0,strV [], .int .i64 0, .slice none 0 0] :: L) (List.Perm.swap _ _ _) ?_
  refine DO.pure tab uC (by kernel_rfl) [0] (by kernel_rfl) rfl ?_
  (refine DO.loadL tab 1 0 uC (by kernel_rfl) (by kernel_rfl) rfl rfl rfl rfl rfl rfl rfl rfl ?_)
  (refine DO.loadA (k:=0) tab 2 hA uC (by kernel_rfl) (by kernel_rfl) rfl rfl rfl rfl rfl rfl rfl ?_)
  refine DO.pure tab uC (by kernel_rfl) [3] (by kernel_rfl) rfl ?_
  refine DO.run 4 rfl rfl (by kernel_rfl) rfl ?_
  refine OT.perm (List.Perm.swap _ _ _) (OT.parSA (L0:=L) (insideS_at (first:=[]) (cap:=[.pointer (some ⟨b1,0,none⟩)]) rfl goes212 hE ((primary1_par hY b1 hA).at _ (Mem.le_refl _) hE hk)) hT hn hE (by repeat (first|exact Bad.ret|refine Bad.then ?_|refine Bad.block ?_)) hm uS rfl rfl rfl rfl rfl rfl goes211 (fun y mA l k3 hT hm hE hleA hk hry hly => ?_));refine ⟨hleA,E.I k3 h :: tok s 4 :: .cells b2 0 [.int .i64 0,strV [], .int .i64 0, .slice none 0 0] :: L,List.Perm.swap _ _ _, ?_⟩
  refine DO.run 5 rfl rfl (by kernel_rfl) rfl ?_
  refine OT.append tab rTree 2 (hs.mono hleA) ho hry rfl rfl rfl rfl rfl rfl rfl (by simp only [List.length_cons,List.length_nil,rTree,mkR];omega) (fun s3 mC hleC hs3 ho3 => ?_);refine ⟨hleC,E.I k3 h :: tok s3 4 :: .cells b2 0 [.int .i64 0,strV [], .int .i64 0, .slice none 0 0] :: L,List.Perm.refl _, ?_⟩
  refine DO.pure tab uC (by kernel_rfl) [6] (by kernel_rfl) rfl ?_
  refine DO.tail ?_
  refine DOt.run 7 rfl rfl (by kernel_rfl) rfl ?_
  refine OT.storeL (k:=3) tab 0 rfl rfl rfl rfl rfl rfl rfl rfl ?_;refine DOt.perm (List.Perm.swap _ _ _) ?_
  refine DOt.nil (by kernel_rfl) ?_
  rotate_left 1
  refine uA ?_
  refine uM ?_
  refine uA ?_
  refine TO.step rfl (OT.storeL0 tab 3 rfl rfl rfl rfl rfl rfl rfl rfl ?_)
  refine uA ?_
  refine retQ_ret_c1 tab 3 rfl rfl rfl rfl (L':=E.I k3 h :: L) uS ⟨_,k3,[],hT,Mem.le_trans hm hleC,hk,⟨⟨46,[],0,s3⟩,rfl,rfl,⟨rfl,rfl,rfl,hs3⟩⟩,rfl⟩
 refine uA ?_
 (refine TO.step rfl (OT.loadA0 tab hA rfl rfl rfl rfl rfl ?_))
 refine uA ?_
 refine TO.step rfl (OT.takeP hT hE hk rfl rfl rfl rfl rfl rfl (fun hT hk => ?_) (fun hT => ?_))
 ·refine uA ?_
  refine TC.draw [6] mixed 7 rfl [.cells b2 0 [.int .i64 0,strV [], .int .i64 0, .slice none 0 0]] (E.I (k + 1) h :: L) (List.Perm.swap _ _ _) ?_
  (refine DO.loadA (k:=0) tab 0 hA uC (by kernel_rfl) (by kernel_rfl) rfl rfl rfl rfl rfl rfl rfl ?_)
  (refine DO.loadA (k:=0) tab 2 hA uC (by kernel_rfl) (by kernel_rfl) rfl rfl rfl rfl rfl rfl rfl ?_)
  refine DO.run 1 rfl rfl (by kernel_rfl) rfl ?_
  refine OT.perm (List.Perm.swap _ _ _) (OT.parT (L0:=L) (psig_par hX) hmm hT hn hE hk (by repeat (first|exact Bad.ret|refine Bad.then ?_|refine Bad.block ?_)) hm uS rfl rfl rfl rfl rfl rfl goes114 (fun x mA a k2 hT hm hE hleA hk hrx => ?_));refine ⟨hleA,E.I k2 h :: L,List.Perm.swap _ _ _, ?_⟩
  refine DO.run 3 rfl rfl (by kernel_rfl) rfl ?_
  refine OT.perm (List.Perm.swap _ _ _) (OT.parT (L0:=L) hZ hleA hT hn hE hk (by repeat (first|exact Bad.ret|refine Bad.then ?_|refine Bad.block ?_)) hm uS rfl rfl rfl rfl rfl rfl goes115 (fun y mB b k3 hT hm hE hleB hk hry => ?_));refine ⟨hleB,E.I k3 h :: L,List.Perm.swap _ _ _, ?_⟩
  refine DO.run 4 rfl rfl (by kernel_rfl) rfl ?_
  refine OT.litR tab rTree (hs:=[x,y]) (l:=[a,b]) ⟨rTree_iff.2 (hrx.mono hleB),rTree_iff.2 hry,trivial⟩ rfl rfl rfl rfl rfl (by decide) (fun s mC hleC hs ho hc => ?_);refine ⟨hleC,_,List.Perm.refl _, ?_⟩
  refine DO.pure tab uC (by kernel_rfl) [5] (by kernel_rfl) rfl ?_
  refine DO.tail ?_
  refine DOt.run 6 rfl rfl (by kernel_rfl) rfl ?_
  refine OT.storeL0 tab 0 rfl rfl rfl rfl rfl rfl rfl rfl ?_;refine DOt.perm (List.Perm.swap _ _ _) ?_
  refine DOt.nil (by kernel_rfl) ?_
  rotate_left 1
  refine uA ?_
  refine retQ_ret_c1 tab 1 rfl rfl rfl rfl (L':=E.I k3 h :: L) uS ⟨_,k3,[],hT,Mem.le_trans hm hleC,hk,⟨⟨47,[],0,s⟩,rfl,rfl,⟨rfl,rfl,rfl,hs⟩⟩,rfl⟩
 refine uA ?_
 (refine TO.step rfl (OT.loadA0 tab hA rfl rfl rfl rfl rfl ?_))
 refine uA ?_
 refine TO.step rfl (OT.nameP (L0:=L) hT hE hk (by repeat (first|exact Bad.ret|refine Bad.then ?_)) hm uS rfl rfl rfl rfl rfl rfl (fun nm hT hk => ?_))
 refine uA ?_
 (refine TO.step rfl (OT.loadA0 tab hA rfl rfl rfl rfl rfl ?_))
 refine uA ?_
 refine uM ?_
 cases hd with
 | true =>
  obtain rfl:=(show (1 : Int)=h from hh)
  refine uA ?_
  refine uT ?_
  refine uA ?_
  refine retQ_ret_c1 tab 1 rfl rfl rfl rfl (L':=E.I (k + 1) 1 :: L) uS ⟨_,k + 1,[],hT,hm,hk,⟨⟨44,nm,0,⟨none,0,0⟩⟩,rfl,rfl,⟨rfl,rfl,rfl,SlRep.nil _ _⟩⟩,rfl⟩
 | false =>
  obtain rfl:=(show (0 : Int)=h from hh)
  replace hT : T=Ps.tok [123] (Ps.bind (Ps.exprsP E.N [125] Y) fun l=>Ps.ret (.mk 45 nm 0 l)) (Ps.ret (Ps.leaf 44 nm)) E.f (k + 1):=hT
  refine uA ?_
  (refine TO.step rfl (OT.loadA0 tab hA rfl rfl rfl rfl rfl ?_))
  refine uA ?_
  refine TO.step rfl (OT.takeP hT hE hk rfl rfl rfl rfl rfl rfl (fun hT hk => ?_) (fun hT => ?_))
  ·refine uA ?_
   (refine TO.step rfl (OT.loadA0 tab hA rfl rfl rfl rfl rfl ?_))
   refine uA ?_
   refine TO.step rfl (OT.parS (L0:=L) (exprs_par hY [125]) hmm hT hn hE hk (by repeat (first|exact Bad.ret|refine Bad.then ?_)) hm uS rfl rfl rfl rfl rfl rfl goes210 (fun y mA l k3 hT hm hE hleA hk hry hly => ?_))
   refine uA ?_
   refine uT ?_
   refine uA ?_
   refine retQ_ret_c1 tab 1 rfl rfl rfl rfl (L':=E.I k3 0 :: L) uS ⟨_,k3,[],hT,hm,hk,⟨⟨45,nm,0,y⟩,rfl,rfl,⟨rfl,rfl,rfl,hry⟩⟩,rfl⟩
  ·refine uA ?_
   refine uT ?_
   refine uA ?_
   refine retQ_ret_c1 tab 1 rfl rfl rfl rfl (L':=E.I (k + 1) 0 :: L) uS ⟨_,k + 1,[],hT,hm,hk,⟨⟨44,nm,0,⟨none,0,0⟩⟩,rfl,rfl,⟨rfl,rfl,rfl,SlRep.nil _ _⟩⟩,rfl⟩
end
end Go.Sep


/- PsW14 -/
set_option linter.unusedVariables false
set_option linter.unusedSimpArgs false
namespace Go.Sep
open Go.Proofs
attribute [local irreducible] TC TO OT TCallX TCall DO DOt thenQ blockQ retQ At
section
variable {mb : Mem} {E : PE} {h : Int}
set_option maxHeartbeats 2000000 in
theorem post_par {X Y : Ps.Pp Tree} (hX : Par Tryz.prog mb E vTree 205 [E.v] h X) (hY : Par Tryz.prog mb E vTree 191 [E.v] 0 Y) :
  Par Tryz.prog mb E vTree 204 [E.v] h (Ps.bind X (Ps.postP E.N Y E.N)):=by
 refine Par.enter Tryz.func204 rfl 27 rfl fun m L k T hm0 hE hk hT hn => ?_
 have hm : m ≤ m:=Mem.le_refl _
 have hrows:=hE.rows
 refine uA ?_
 refine TO.step rfl (OT.box rfl rfl rfl rfl rfl (fun b1 => ?_))
 refine TO.freeze fun m1 hle1 hA => ?_
 replace hm : m ≤ m1:=hle1
 replace hE:=hE.mono hle1
 replace hX:=hX.up (Mem.le_trans hm0 hle1)
 replace hY:=hY.up (Mem.le_trans hm0 hle1)
 refine uA ?_
 refine TO.step rfl (OT.alloc tab rfl rfl rfl rfl (fun b2 => ?_));refine TO.perm (List.Perm.swap _ _ _) ?_
 refine uA ?_
 (refine TO.step rfl (OT.loadA0 tab hA rfl rfl rfl rfl rfl ?_))
 refine uA ?_
 refine TO.step rfl (OT.parT (L0:=L) hX (Mem.le_refl _) hT hn hE hk (by repeat (first|exact Bad.ret|refine Bad.then ?_)) hm uS rfl rfl rfl rfl rfl rfl goes205 (fun x m2 a k2 hT hm hE hle2 hk hrx => ?_))
 refine uA ?_
 refine TO.step rfl (OT.alloc tab rfl rfl rfl rfl (fun b3 => ?_));refine TO.perm (List.Perm.swap _ _ _) ?_
 refine uA ?_
 refine uT ?_
 refine uA ?_
 refine TC.loopK (ι:=HTree × Mem × Tree × Nat × Nat) [0,1,2,3] rfl (fun _=>[]) (fun x=>x.2.1) (fun x=>E.I x.2.2.2.1 h :: .cells b3 0 (treeC x.1) :: .cells b2 0 [.int .i64 0,strV [], .int .i64 0, .slice none 0 0] :: L) (fun x=>m2 ≤ x.2.1∧x.2.2.2.1 ≤ E.toks.length∧TreeRep x.2.1 x.1 x.2.2.1∧T=Ps.postP E.N Y x.2.2.2.2 x.2.2.1 E.f x.2.2.2.1) (fun x=>x.2.2.2.2) (x,m2,a,k2,E.N) uH rfl uS ⟨Mem.le_refl _,hk,hrx,hT⟩ ?_
 rintro ⟨x,m3,n,k,N⟩ ⟨hm3,hk,hrx,hT⟩
 simp only at hm3 hk hrx hT
 show TC _ _ _ _ _ m3 (E.I k h :: .cells b3 0 (treeC x) :: .cells b2 0 [.int .i64 0,strV [], .int .i64 0, .slice none 0 0] :: L) _
 replace hm:=Mem.le_trans hm hm3
 replace hE:=hE.mono hm3
 replace hA:=hA.mono (Mem.le_trans hle2 hm3)
 replace hY:=hY.up (Mem.le_trans hle2 hm3)
 have hmm : m3 ≤ m3:=Mem.le_refl _
 cases N with
 | zero=>exact absurd hT hn
 | succ N =>
  replace hT : T=Ps.tok [46] (Ps.name fun s=>Ps.postP E.N Y N (.mk 48 s 0 [n])) (Ps.tok [91] (Ps.bind (Ps.indexP Y n) fun t=>Ps.postP E.N Y N t) (Ps.tok [40] (Ps.bind (Ps.exprsP E.N [41] Y) fun l=>Ps.postP E.N Y N (.mk 51 [] 0 (n :: l))) (Ps.ret n))) E.f k:=hT
  refine uA ?_
  (refine TO.step rfl (OT.loadA0 tab hA rfl rfl rfl rfl rfl ?_))
  refine uA ?_
  refine TO.step rfl (OT.takeP hT hE hk rfl rfl rfl rfl rfl rfl (fun hT hk => ?_) (fun hT => ?_))
  ·refine uA ?_
   refine TC.draw [5] mixed 6 rfl [.cells b3 0 (treeC x)] (E.I (k + 1) h :: .cells b2 0 [.int .i64 0,strV [], .int .i64 0, .slice none 0 0] :: L) (List.Perm.swap _ _ _) ?_
   refine DO.loadA (k:=0) tab 0 hA uC (by kernel_rfl) (by kernel_rfl) rfl rfl rfl rfl rfl rfl rfl ?_
   refine DO.loadL (k:=0) tab 2 0 uC (by kernel_rfl) (by kernel_rfl) rfl rfl rfl rfl rfl rfl rfl rfl ?_
   refine DO.fork 1 [3] (by kernel_rfl) ⟨⟨_,rfl,rfl,rfl, ?_⟩,⟨_,rfl,rfl,rfl, ?_⟩,trivial⟩
   ·skip
    refine OT.perm (List.Perm.swap _ _ _) (OT.nameP (L0:=L) hT hE hk (by repeat (first|exact Bad.ret|refine Bad.then ?_|refine Bad.block ?_)) hm uS rfl rfl rfl rfl rfl rfl (fun t hT hk => ?_))
    refine ⟨Mem.le_refl _,E.I (k + 1 + 1) h :: .cells b2 0 [.int .i64 0,strV [], .int .i64 0, .slice none 0 0] :: L,List.Perm.swap _ _ _, ?_⟩
    refine DO.run 3 rfl rfl (by kernel_rfl) rfl ?_
    refine OT.litR tab rTree (hs:=[x]) (l:=[n]) ⟨rTree_iff.2 hrx,trivial⟩ rfl rfl rfl rfl rfl (by decide) (fun s mB hleB hs ho hc => ?_)
    replace hm:=Mem.le_trans hm hleB
    replace hE:=hE.mono hleB
    refine ⟨hleB,_,List.Perm.refl _, ?_⟩
    refine DO.pure tab uC (by kernel_rfl) [4] (by kernel_rfl) rfl ?_
    refine DO.tail ?_
    refine DOt.run 5 rfl rfl (by kernel_rfl) rfl ?_
    refine OT.storeL0 tab 0 rfl rfl rfl rfl rfl rfl rfl rfl ?_
    refine DOt.perm (List.Perm.swap _ _ _) ?_
    refine DOt.nil (by kernel_rfl) ?_
    refine uA ?_
    exact ⟨(⟨48,t,0,s⟩,mB, .mk 48 t 0 [n],k + 1 + 1,N),uH,uH,rfl,rfl,uS,⟨Mem.le_trans hm3 hleB,hk,⟨rfl,rfl,rfl,hs⟩,hT⟩,by simp only;omega⟩
   ·skip
    refine OT.litR tab rTree (hs:=[x]) (l:=[n]) ⟨rTree_iff.2 hrx,trivial⟩ rfl rfl rfl rfl rfl (by decide) (fun s mB hleB hs ho hc => ?_)
    replace hm:=Mem.le_trans hm hleB
    replace hE:=hE.mono hleB
    refine ⟨hleB,_,List.Perm.refl _, ?_⟩
    refine DO.run 1 rfl rfl (by kernel_rfl) rfl ?_
    refine OT.perm (List.Perm.swap _ _ _) (OT.nameP (L0:=L) hT hE hk (by repeat (first|exact Bad.ret|refine Bad.then ?_|refine Bad.block ?_)) hm uS rfl rfl rfl rfl rfl rfl (fun t hT hk => ?_))
    refine ⟨Mem.le_refl _,E.I (k + 1 + 1) h :: .cells b2 0 [.int .i64 0,strV [], .int .i64 0, .slice none 0 0] :: L,List.Perm.swap _ _ _, ?_⟩
    refine DO.pure tab uC (by kernel_rfl) [4] (by kernel_rfl) rfl ?_
    refine DO.tail ?_
    refine DOt.run 5 rfl rfl (by kernel_rfl) rfl ?_
    refine OT.storeL0 tab 0 rfl rfl rfl rfl rfl rfl rfl rfl ?_
    refine DOt.perm (List.Perm.swap _ _ _) ?_
    refine DOt.nil (by kernel_rfl) ?_
    refine uA ?_
    exact ⟨(⟨48,t,0,s⟩,mB, .mk 48 t 0 [n],k + 1 + 1,N),uH,uH,rfl,rfl,uS,⟨Mem.le_trans hm3 hleB,hk,⟨rfl,rfl,rfl,hs⟩,hT⟩,by simp only;omega⟩
  refine uA ?_
  (refine TO.step rfl (OT.loadA0 tab hA rfl rfl rfl rfl rfl ?_))
  refine uA ?_
  refine TO.step rfl (OT.takeP hT hE hk rfl rfl rfl rfl rfl rfl (fun hT hk => ?_) (fun hT => ?_))
  ·refine uA ?_
   (refine TO.step rfl (OT.loadA0 tab hA rfl rfl rfl rfl rfl ?_))
   refine uA ?_
   refine TO.step rfl (OT.parTA (L0:=L) (inside_at (first:=[]) (cap:=[.pointer (some ⟨b1,0,none⟩), .pointer (some ⟨b3,0,none⟩)]) rfl goes207 hE (fun b=>post1_at hY hmm hE hk hA hrx)) hT hn hE (by repeat (first|exact Bad.ret|refine Bad.then ?_|refine Bad.block ?_)) hm uS rfl rfl rfl rfl rfl rfl goes206 (fun y mB e k3 hT hm hE hleB hk hry => ?_))
   refine uA ?_
   refine TO.step rfl (OT.storeL0 tab 1 rfl rfl rfl rfl rfl rfl rfl rfl ?_)
   refine uA ?_
   exact ⟨(y,mB,e,k3,N),uH,uH,rfl,rfl,uS,⟨Mem.le_trans hm3 hleB,hk,hry,hT⟩,by simp only;omega⟩
  refine uA ?_
  (refine TO.step rfl (OT.loadA0 tab hA rfl rfl rfl rfl rfl ?_))
  refine uA ?_
  refine TO.step rfl (OT.takeP hT hE hk rfl rfl rfl rfl rfl rfl (fun hT hk => ?_) (fun hT => ?_))
  ·replace hT : T=Ps.bind (Ps.bind (Ps.exprsP E.N [41] Y) fun l=>Ps.ret (.mk 51 [] 0 (n :: l))) (Ps.postP E.N Y N) E.f (k + 1):=by rw [Ps.bind_assoc];exact hT
   refine uA ?_
   (refine TO.step rfl (OT.loadA0 tab hA rfl rfl rfl rfl rfl ?_))
   refine uA ?_
   refine TO.step rfl (OT.parTA (L0:=L) (inside_at (first:=[]) (cap:=[.pointer (some ⟨b3,0,none⟩), .pointer (some ⟨b1,0,none⟩)]) rfl goes209 hE (fun b=>post2_at hY hmm hE hk hA hrx)) hT hn hE (by repeat (first|exact Bad.ret|refine Bad.then ?_|refine Bad.block ?_)) hm uS rfl rfl rfl rfl rfl rfl goes206 (fun y mB e k3 hT hm hE hleB hk hry => ?_))
   refine uA ?_
   refine TO.step rfl (OT.storeL0 tab 1 rfl rfl rfl rfl rfl rfl rfl rfl ?_)
   refine uA ?_
   exact ⟨(y,mB,e,k3,N),uH,uH,rfl,rfl,uS,⟨Mem.le_trans hm3 hleB,hk,hry,hT⟩,by simp only;omega⟩
  ·refine uA ?_
   refine uM ?_
   refine uA ?_
   refine TO.step rfl (OT.storeL0 tab 2 rfl rfl rfl rfl rfl rfl rfl rfl ?_)
   refine uA ?_
   refine retQ_ret_c1 tab 2 rfl rfl rfl rfl (L':=E.I k h :: L) uS ⟨_,k,[],hT,hm,hk,⟨x,rfl,rfl,hrx⟩,rfl⟩
structure GW (mb : Mem) (E : PE) (g : Ps.Gr) : Prop where
 typ : ∀ h,Par Tryz.prog mb E vTree 143 [E.v] h g.typ
 block : ∀ h,Par Tryz.prog mb E vTree 115 [E.v] h g.block
 stmt : Par Tryz.prog mb E vTree 149 [E.v] 0 g.stmt
 branch : Par Tryz.prog mb E vTree 176 [E.v] 0 g.branch
 expr : ∀ b,Par Tryz.prog mb E vTree 191 [E.v] (bif b then 1 else 0) (g.expr b)
 unary : ∀ b,Par Tryz.prog mb E vTree 203 [E.v] (bif b then 1 else 0) (g.unary b)
theorem Par.dry {f : FuncId} {args : List Value} {V : RV Tree} : Par Tryz.prog mb E V f args h Ps.dry:=fun _ _ _ _ _ _ hn=>absurd rfl hn
theorem gw : ∀ n,GW mb E (Ps.gr E.N n)
 | 0=>⟨fun _=>Par.dry,fun _=>Par.dry,Par.dry,Par.dry,fun _=>Par.dry,fun _=>Par.dry⟩
 | n + 1=>by
  have g:=gw n
  refine ⟨fun h=>typ_par (g.typ h),fun h=>block_par g.stmt,stmt_par (g.expr true) (g.block 0) g.branch (simple_par (g.typ 0) (g.expr false)),branch_par (g.expr true) (g.block 0) g.branch,fun b=>expr_par (g.unary b),fun b => ?_⟩
  exact unary_par (g.unary b) (post_par (primary_par b (g.typ _) (g.expr false) (g.block _)) (g.expr false))
end
end Go.Sep


/- PsW15 -/
set_option linter.unusedVariables false
set_option linter.unusedSimpArgs false
namespace Go.Sep
open Go.Proofs
attribute [local irreducible] TC TO OT TCallX TCall DO DOt thenQ blockQ retQ At
section
variable {mb : Mem} {E : PE}
set_option maxHeartbeats 1000000 in
theorem program_par {X : Ps.Pp Tree} (hX : Par Tryz.prog mb E vTree 61 [E.v] 0 X) :
  Par Tryz.prog mb E vTree 31 [E.v] 0 (Ps.bind (Ps.progL X E.N) fun l=>Ps.ret (.mk 1 [] 0 l)):=by
 refine Par.enter Tryz.func31 rfl 23 rfl fun m L k T hm0 hE hk hT hn => ?_
 replace hX:=hX.up hm0
 have hm : m ≤ m:=Mem.le_refl _
 have hrows:=hE.rows
 rw [Ps.decls_start] at hT
 refine uA ?_
 refine TO.step rfl (OT.alloc tab rfl rfl rfl rfl (fun b2 => ?_));refine TO.perm (List.Perm.swap _ _ _) ?_
 refine uA ?_
 refine TO.step rfl (OT.alloc tab rfl rfl rfl rfl (fun b3 => ?_));refine TO.perm (List.Perm.swap _ _ _) ?_
 refine uA ?_
 refine uT ?_
 refine TO.grow0 (size:=4) ?_
 refine TO.perm (L':=E.I k 0 :: .cells b3 0 [.int .i64 1,strV [], .int .i64 0, .slice none 0 0] :: tok ⟨none,0,0⟩ 4 :: .cells b2 0 [.int .i64 0,strV [], .int .i64 0, .slice none 0 0] :: L) (List.Perm.trans (List.Perm.swap _ _ _) (List.Perm.cons _ (List.Perm.swap _ _ _))) ?_
 refine uA ?_
 refine TC.loopK (ι:=Sl × Mem × List Tree × Nat × Nat) [0,2,3] rfl (fun x=>[]) (fun x=>x.2.1) (fun x=>E.I x.2.2.2.1 0 :: .cells b3 0 [.int .i64 1,strV [], .int .i64 0,x.1.v] :: tok x.1 4 :: .cells b2 0 [.int .i64 0,strV [], .int .i64 0, .slice none 0 0] :: L) (fun x=>m ≤ x.2.1∧E.Ok x.2.1∧x.2.2.2.1 ≤ E.toks.length∧SlRep rTree x.2.1 x.1 x.2.2.1∧Own x.1∧x.2.2.1.length + x.2.2.2.2=E.N∧T=Ps.bind (Ps.decls X x.2.2.2.2 x.2.2.1) (fun l=>Ps.ret (.mk 1 [] 0 l)) E.f x.2.2.2.1) (fun x=>x.2.2.2.2) (⟨none,0,0⟩,m,[],k,E.N) uH rfl uS ⟨hm,hE,hk,SlRep.nil _ _,Own.nil,by simp,hT⟩ ?_
 rintro ⟨s,m1,acc,k,j⟩ ⟨hm,hE,hk,hs,ho,hlen,hT⟩
 simp only at hm hE hk hs ho hlen hT
 show TC _ _ _ _ _ m1 (E.I k 0 :: .cells b3 0 [.int .i64 1,strV [], .int .i64 0,s.v] :: tok s 4 :: .cells b2 0 [.int .i64 0,strV [], .int .i64 0, .slice none 0 0] :: L) _
 have hll:=hE.rep.len
 have hfew:=hE.few
 cases j with
 | zero=>exact absurd hT hn
 | succ j =>
  refine uA ?_
  refine TC.draw0 [] mixed 10 rfl ?_
  refine DO.pure tab uC (by kernel_rfl) [0,1,2] (by kernel_rfl) rfl ?_
  (refine DO.loadL tab 3 0 uC (by kernel_rfl) (by kernel_rfl) rfl rfl rfl rfl rfl rfl rfl rfl ?_)
  refine DO.pure tab uC (by kernel_rfl) [4,5,6] (by kernel_rfl) rfl ?_
  (refine DO.loadL tab 7 0 uC (by kernel_rfl) (by kernel_rfl) rfl rfl rfl rfl rfl rfl rfl rfl ?_)
  refine DO.pure tab uC (by kernel_rfl) [8,9] (by kernel_rfl) rfl ?_
  (refine DO.nil0 (by kernel_rfl) ?_)
  rotate_left 1
  refine uA ?_
  refine TC.condP rfl (fun hc => ?_) (fun hc => ?_)
  ·have hlt : k < E.toks.length:=by omega
   have hT : T=Ps.bind X (fun a=>Ps.bind (Ps.decls X j (acc++[a])) fun l=>Ps.ret (.mk 1 [] 0 l)) E.f k:=by
    rw [← Ps.bind_assoc,hT]
    show Ps.bind _ _ E.f k=Ps.bind _ _ E.f k
    unfold Ps.bind
    rw [Ps.decls_some (by rw [PE.f_some hlt];exact fun h=>by cases h)]
    rfl
   refine uA ?_
   refine TC.draw [7] mixed 8 rfl [.cells b3 0 [.int .i64 1,strV [], .int .i64 0,s.v]] (E.I k 0 :: tok s 4 :: .cells b2 0 [.int .i64 0,strV [], .int .i64 0, .slice none 0 0] :: L) (List.Perm.swap _ _ _) ?_
   refine DO.pure tab uC (by kernel_rfl) [0] (by kernel_rfl) rfl ?_
   (refine DO.loadL tab 1 0 uC (by kernel_rfl) (by kernel_rfl) rfl rfl rfl rfl rfl rfl rfl rfl ?_)
   refine DO.pure tab uC (by kernel_rfl) [2] (by kernel_rfl) rfl ?_
   refine DO.run 3 rfl rfl (by kernel_rfl) rfl ?_
   refine OT.perm (List.Perm.swap _ _ _) (OT.parT (L0:=L) (hX) hm hT hn hE hk (by repeat (first|exact Bad.ret|refine Bad.then ?_|refine Bad.block ?_)) hm uS rfl rfl rfl rfl rfl rfl goes61 (fun x mA a k2 hT hm hE hleA hk hr => ?_));refine ⟨hleA,E.I k2 0 :: tok s 4 :: .cells b2 0 [.int .i64 0,strV [], .int .i64 0, .slice none 0 0] :: L,List.Perm.swap _ _ _, ?_⟩
   refine DO.run 4 rfl rfl (by kernel_rfl) rfl ?_
   refine OT.litR tab rTree (hs:=[x]) (l:=[a]) ⟨rTree_iff.2 hr,trivial⟩ rfl rfl rfl rfl rfl (by decide) (fun sB mB hleB hsB hoB hcB => ?_);refine ⟨hleB,_,List.Perm.refl _, ?_⟩
   refine DO.run 5 rfl rfl (by kernel_rfl) rfl ?_
   refine OT.append tab rTree 2 (hs.mono (Mem.le_trans hleA hleB)) ho hsB rfl rfl rfl rfl rfl rfl rfl (by simp only [List.length_append,List.length_cons,List.length_nil,rTree,mkR];omega) (fun s3 mC hleC hs3 ho3 => ?_);refine ⟨hleC,E.I k2 0 :: tok s3 4 :: .cells b2 0 [.int .i64 0,strV [], .int .i64 0, .slice none 0 0] :: L,List.Perm.refl _, ?_⟩
   refine DO.pure tab uC (by kernel_rfl) [6] (by kernel_rfl) rfl ?_
   refine DO.tail ?_
   refine DOt.run 7 rfl rfl (by kernel_rfl) rfl ?_
   refine OT.storeL (k:=3) tab 0 rfl rfl rfl rfl rfl rfl rfl rfl ?_;refine DOt.perm (List.Perm.swap _ _ _) ?_
   refine DOt.nil (by kernel_rfl) ?_
   rotate_left 1
   replace hm:=Mem.le_trans hm (Mem.le_trans hleB hleC)
   replace hE:=hE.mono (Mem.le_trans hleB hleC)
   refine uA ?_
   exact ⟨(s3,mC,acc++[a],k2,j),uH,uH,rfl,rfl,uS,⟨hm,hE,hk,hs3,ho3,by simp only [List.length_append,List.length_cons,List.length_nil];omega,hT⟩,by simp only;omega⟩
  ·have hT : T = .ok (.mk 1 [] 0 acc) k:=by
    rw [hT]
    unfold Ps.bind
    rw [Ps.decls_none (PE.f_none (by omega))]
    rfl
   refine uA ?_
   refine uM ?_
   refine uA ?_
   refine TO.step rfl (OT.storeL0 tab 3 rfl rfl rfl rfl rfl rfl rfl rfl ?_)
   refine uA ?_
   refine retQ_ret_c1 tab 3 rfl rfl rfl rfl (L':=E.I k 0 :: L) uS ⟨_,k,[],hT,hm,hk,⟨⟨1,[],0,s⟩,rfl,rfl,⟨rfl,rfl,rfl,hs⟩⟩,rfl⟩
end
def FitR (bl : Nat) (L : List Item) (m : Mem) (a : Tree) (d left : Int) : Value→Mem→List Item→Prop :=
 fun r m' L'=>m' = m∧((r = .bool true∧(a.size : Int) ≤ left∧d + (a.deep : Int) ≤ 101∧L' = .cells bl 0 [.int .i64 (left - a.size)] :: L) ∨ (r = .bool false ∧ ¬ ((a.size : Int) ≤ left∧d + (a.deep : Int) ≤ 101) ∧ ∃ n,L' = .cells bl 0 [.int .i64 n] :: L))
set_option maxHeartbeats 1000000 in
theorem fits_law (a : Tree) : ∀ (m : Mem) (L : List Item) (h : HTree) (bl : Nat) (d left : Int),TreeRep m h a→0 ≤ left→left ≤ 20000→0 ≤ d→d ≤ 101 →
  TCall Tryz.prog 32 ⟨[treeV h, .int .i64 d, .pointer (some ⟨bl,0,none⟩)]⟩ m (.cells bl 0 [.int .i64 left] :: L) (FitR bl L m a d left):=by
 induction a using Tree.ind with
 | h a ih =>
 intro m L h bl d left hr hl0 hl1 hd0 hd1
 have hr':=hr
 obtain ⟨h1,h2,h3,h4⟩:=hr
 have hlen:=h4.len
 have hsm:=h4.small rfl
 have hsz:=size_kids a
 have hdp:=deep_kids a
 unfold TCall
 refine TCallX.enter Tryz.func32 rfl 36 rfl ?_
 refine uA ?_
 refine TO.step rfl (OT.box rfl rfl rfl rfl rfl (fun b3 => ?_))
 refine uA ?_
 refine uM ?_
 refine TO.step rfl (OT.arith (r':=left - 1) rfl rfl rfl rfl rfl rfl rfl (by omega) ?_)
 refine uA ?_
 refine TO.step rfl (OT.storeL0 tab 1 rfl rfl rfl rfl rfl rfl rfl rfl ?_)
 refine uA ?_
 refine uM ?_
 refine uA ?_
 (refine TO.splitP rfl rfl (fun hneg => ?_) (fun hneg => ?_))
 ·refine uA ?_
  refine retQ_ret rfl (L' := .cells bl 0 [.int .i64 (left - 1)] :: L) uS ⟨rfl, .inr ⟨rfl,by omega,_,rfl⟩⟩
 refine uA ?_
 refine TC.condP rfl (fun hdd => ?_) (fun hdd => ?_)
 ·refine uA ?_
  refine retQ_ret rfl (L' := .cells bl 0 [.int .i64 (left - 1)] :: L) uS ⟨rfl, .inr ⟨rfl,by omega,_,rfl⟩⟩
 refine uA ?_
 refine uM ?_
 refine uA ?_
 refine TC.loopK (ι:=Nat) [0,1,2,23,24] rfl (fun i=>[(25, .int .i64 (i : Int))]) (fun _=>m) (fun i => .cells bl 0 [.int .i64 (left - 1 - (sizeL (a.kids.take i) : Int))] :: L) (fun i=>i ≤ a.kids.length∧(sizeL (a.kids.take i) : Int) ≤ left - 1∧d + (deepL (a.kids.take i) : Int) ≤ 100) (fun i=>a.kids.length - i) 0 uH rfl (by rw [show left - 1 - (sizeL (a.kids.take 0) : Int)=left - 1 by simp [sizeL]];exact List.Sublist.cons _ (List.Sublist.refl _)) ⟨Nat.zero_le _,by simp [sizeL];omega,by simp [deepL];omega⟩ ?_
 rintro i ⟨hi,hI1,hI2⟩
 refine uA ?_
 refine TC.condP rfl (fun hc => ?_) (fun hc => ?_)
 ·have hlt : i < a.kids.length:=by omega
  have hx : a.kids[i]? = some a.kids[i]:=List.getElem?_eq_getElem hlt
  have e1:=sizeL_next a.kids i hlt
  have e2:=deepL_next a.kids i hlt
  have e3:=sizeL_take a.kids (i + 1)
  have e4:=deepL_take a.kids (i + 1)
  refine uA ?_
  refine TO.step rfl (OT.index tab rTree i h4 rfl rfl rfl rfl rfl (by first | rfl | omega | (simp only;omega)) rfl hx ?_)
  rintro bx ix hx' hrx hAx
  refine uA ?_
  (refine TO.step rfl (OT.loadA0 tab hAx rfl rfl rfl rfl rfl ?_))
  refine uA ?_
  refine TO.step rfl (OT.alloc tab rfl rfl rfl rfl (fun b8 => ?_))
  refine uA ?_
  refine uT ?_
  refine uA ?_
  refine uM ?_
  refine uA ?_
  refine TO.step rfl (OT.arith (r':=d + 1) rfl rfl rfl rfl rfl rfl rfl (by omega) ?_)
  refine uA ?_
  refine TO.perm (List.Perm.swap _ _ _) ?_
  refine TO.step rfl (OT.call rfl rfl rfl rfl rfl rfl goes32 ((ih a.kids[i] (List.getElem_mem hlt) _ _ hx' bl (d + 1) (left - 1 - (sizeL (a.kids.take i) : Int)) (rTree_iff.1 hrx) (by omega) (by omega) (by omega) (by omega)).x ?_));
  rintro _ _ _ ⟨rfl,⟨rfl,k1,k2,rfl⟩ | ⟨rfl,k1,n,rfl⟩⟩
  ·refine uA ?_
   refine TO.step rfl (OT.arith (r':=((i + 1 : Nat) : Int)) rfl rfl rfl rfl rfl rfl rfl (by omega) ?_)
   refine uA ?_
   refine ⟨i + 1,uH,uH,rfl,rfl, ?_,⟨hlt,by omega,by omega⟩,by omega⟩
   rw [show left - 1 - (sizeL (a.kids.take (i + 1)) : Int)=left - 1 - (sizeL (a.kids.take i) : Int) - (a.kids[i].size : Int) by omega]
   exact uS
  ·refine uA ?_
   refine retQ_ret rfl (L' := .cells bl 0 [.int .i64 n] :: L) uS ⟨rfl, .inr ⟨rfl,by omega,_,rfl⟩⟩
 ·rw [List.take_of_length_le (by omega)] at hI1 hI2
  rw [List.take_of_length_le (show a.kids.length ≤ i by omega)]
  refine uA ?_
  refine retQ_ret rfl (L' := .cells bl 0 [.int .i64 (left - a.size)] :: L) ?_ ⟨rfl, .inl ⟨rfl,by omega,by omega,rfl⟩⟩
  rw [show left - (a.size : Int)=left - 1 - (sizeL a.kids : Int) by omega]
  exact uS
end Go.Sep


/- PsSnd4 -/
set_option linter.unusedVariables false
set_option linter.unusedSimpArgs false
namespace Go.Sep
open Go.Proofs
attribute [local irreducible] TC TO OT TCallX TCall DO DOt thenQ blockQ retQ At
structure SgT (n : Nat) (a : Tree) (m : Mem) (L : List Item) (h : HTree) : Prop where
 expr : TCall Tryz.prog 152 ⟨[treeV h]⟩ m L (Ret (.bool ((sg n).expr a)) m L)
 stmt : TCall Tryz.prog 123 ⟨[treeV h]⟩ m L (Ret (.bool ((sg n).stmt a)) m L)
 block : TCall Tryz.prog 75 ⟨[treeV h]⟩ m L (Ret (.bool ((sg n).block a)) m L)
end Go.Sep


/- PtDeW -/
set_option linter.unusedVariables false
set_option linter.unusedSimpArgs false
namespace Go.Sep
open Go.Proofs
attribute [local irreducible] TC TO OT TCallX TCall DO DOt thenQ blockQ retQ At
section
variable {Tb : Mem→Prop}
end
end Go.Sep


/- PtItoaW -/
set_option linter.unusedVariables false
set_option linter.unusedSimpArgs false
namespace Go.Sep
open Go.Proofs Go.RowKit
attribute [local irreducible] TC TO OT TCallX TCall DO DOt thenQ blockQ retQ At
def Tb (m : Mem) : Prop:=Lib.TabIs Tryz.prog m.pin "internal/strconv.uint64pow10" .u64 Lib.pow10Tab∧3 < m.pin.heap.size
end Go.Sep


/- TyEqP -/
set_option linter.unusedVariables false
set_option linter.unusedSimpArgs false
namespace Go.Sep
mutual
def teq : Tree→Tree→Bool
 | .mk k n u ks, .mk k' n' u' ks'=>decide (k=k') && (decide (n=n') && (decide (u=u') && teqL ks ks'))
def teqL : List Tree→List Tree→Bool
 | [],[]=>true
 | t :: ts,s :: ss=>teq t s && teqL ts ss
 | [],_ :: _=>false
 | _ :: _,[]=>false
end
mutual
theorem teq_iff : ∀ a b : Tree,teq a b=true ↔ a=b
 | .mk k n u ks, .mk k' n' u' ks'=>by
  have:=teqL_iff ks ks'
  simp only [teq,Bool.and_eq_true,decide_eq_true_eq,this,Tree.mk.injEq]
theorem teqL_iff : ∀ l r : List Tree,teqL l r=true ↔ l=r
 | [],[]=>by simp [teqL]
 | t :: ts,s :: ss=>by
  have h1:=teq_iff t s
  have h2:=teqL_iff ts ss
  simp only [teqL,Bool.and_eq_true,h1,h2,List.cons.injEq]
 | [],_ :: _=>by simp [teqL]
 | _ :: _,[]=>by simp [teqL]
end
theorem teq_refl (a : Tree) : teq a a=true:=(teq_iff a a).2 rfl
theorem teq_eq (a b : Tree) : teq a b=(decide (a.kind=b.kind) && (decide (a.name=b.name) && (decide (a.num=b.num) && teqL a.kids b.kids))):=by
 obtain ⟨_,_,_,_⟩:=a
 obtain ⟨_,_,_,_⟩:=b
 rfl
theorem teqL_len {l r : List Tree} (h : l.length ≠ r.length) : teqL l r=false:=by
 cases hc : teqL l r with
 | false=>rfl
 | true=>exact absurd (congrArg List.length ((teqL_iff l r).1 hc)) h
theorem teqL_step (l r : List Tree) (k : Nat) (h1 : k < l.length) (h2 : k < r.length) : teqL (l.drop k) (r.drop k)=(teq l[k] r[k] && teqL (l.drop (k + 1)) (r.drop (k + 1))):=by
 rw [List.drop_eq_getElem_cons h1,List.drop_eq_getElem_cons h2,teqL]
end Go.Sep

