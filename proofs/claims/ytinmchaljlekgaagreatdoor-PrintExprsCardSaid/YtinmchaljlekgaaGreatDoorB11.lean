/- PsW8 -/
import Derived.Test.YtinmchaljlekgaaGreatDoorB10
set_option linter.unusedVariables false
set_option linter.unusedSimpArgs false
namespace Go.Sep
open Go.Proofs
attribute [local irreducible] TC TO OT TCallX TCall DO DOt thenQ blockQ retQ At
section
variable {mb : Mem} {E : PE}
theorem cond_par {X : Ps.Pp Tree} (hX : Par Tryz.prog mb E vTree 191 [E.v] 1 X) :
  Par Tryz.prog mb E vTree 177 [E.v] 0 X:=by
 refine Par.enter Tryz.func177 rfl 13 rfl fun m L k T hm0 hE hk hT hn => ?_
 replace hX:=hX.up hm0
 have hm : m ≤ m:=Mem.le_refl _
 rw [← Ps.bind_ret X] at hT
 repeat (first|refine q1 ?_|refine q3 ?_)
 refine TO.step rfl (OT.alloc tab rfl rfl rfl rfl (fun b2 => ?_));refine TO.perm (List.Perm.swap _ _ _) ?_
 repeat (first|refine q1 ?_|refine q3 ?_|refine q4 tab rfl rfl ?_|refine q5 ?_|refine q6 ?_)
 refine TO.step rfl (OT.storeL (k:=3) tab 0 rfl rfl rfl rfl rfl rfl rfl rfl ?_)
 repeat (first|refine q1 ?_|refine q3 ?_|refine q4 tab rfl rfl ?_|refine q5 ?_|refine q6 ?_)
 refine TO.step rfl (OT.parT (L0:=L) (hX) hm hT hn hE hk (by repeat (first|exact Bad.ret|refine Bad.then ?_)) hm (by repeat (first|exact List.Sublist.refl _|refine List.Sublist.cons _ ?_)) rfl rfl rfl rfl rfl rfl goes191 (fun x m2 a k2 hT hm hE hlex hk hrx => ?_))
 skip
 refine TO.step rfl (OT.alloc tab rfl rfl rfl rfl (fun b3 => ?_));refine TO.perm (List.Perm.swap _ _ _) ?_
 skip
 (refine TO.step rfl (OT.storeL0 tab 1 rfl rfl rfl rfl rfl rfl rfl rfl ?_))
 repeat (first|refine q1 ?_|refine q3 ?_|refine q4 tab rfl rfl ?_|refine q5 ?_|refine q6 ?_)
 refine TO.step rfl (OT.storeL (k:=3) tab 0 rfl rfl rfl rfl rfl rfl rfl rfl ?_)
 repeat (first|refine q1 ?_|refine q3 ?_|refine q5 ?_|refine q6 ?_)
 (refine qs rfl (qz tab 1 rfl rfl rfl rfl rfl rfl ?_))
 skip
 refine TO.step rfl (OT.storeL0 tab 2 rfl rfl rfl rfl rfl rfl rfl rfl ?_)
 repeat (first|refine q5 ?_|refine q6 ?_|refine q15 ?_)
 refine retQ_ret_c1 tab 2 rfl rfl rfl rfl (L':=E.I k2 0 :: L) (by repeat (first|exact List.Sublist.refl _|refine List.Sublist.cons_cons _ ?_|refine List.Sublist.cons _ ?_)) ⟨_,k2,[],hT,hm,hk,⟨x,rfl,rfl,hrx⟩,rfl⟩
set_option maxHeartbeats 1600000 in
theorem branch_par {X Y Z : Ps.Pp Tree} (hX : Par Tryz.prog mb E vTree 191 [E.v] 1 X) (hY : Par Tryz.prog mb E vTree 115 [E.v] 0 Y) (hZ : Par Tryz.prog mb E vTree 176 [E.v] 0 Z) :
  Par Tryz.prog mb E vTree 176 [E.v] 0 (Ps.branchP X Y Z):=by
 refine Par.enter Tryz.func176 rfl 36 rfl fun m L k T hm0 hE hk hT hn => ?_
 replace hX:=hX.up hm0
 replace hY:=hY.up hm0
 replace hZ:=hZ.up hm0
 have hm : m ≤ m:=Mem.le_refl _
 unfold Ps.branchP at hT
 repeat (first|refine q1 ?_|refine q3 ?_)
 refine TO.step rfl (OT.alloc tab rfl rfl rfl rfl (fun b2 => ?_));refine TO.perm (List.Perm.swap _ _ _) ?_
 repeat (first|refine q1 ?_|refine q3 ?_|refine q4 tab rfl rfl ?_|refine q5 ?_|refine q6 ?_)
 refine TO.step rfl (OT.needP (L0:=L) hT hE hk (by repeat (first|exact Bad.ret|refine Bad.then ?_)) hm (by repeat (first|exact List.Sublist.refl _|refine List.Sublist.cons _ ?_)) rfl rfl rfl rfl rfl rfl (fun hT hk => ?_))
 repeat (first|refine q1 ?_|refine q3 ?_|refine q4 tab rfl rfl ?_|refine q5 ?_|refine q6 ?_)
 refine TO.step rfl (OT.parT (L0:=L) (cond_par hX) hm hT hn hE hk (by repeat (first|exact Bad.ret|refine Bad.then ?_)) hm (by repeat (first|exact List.Sublist.refl _|refine List.Sublist.cons _ ?_)) rfl rfl rfl rfl rfl rfl goes177 (fun x m2 c k2 hT hm hE hlex hk hrx => ?_))
 skip
 refine TO.step rfl (OT.litR tab rTree (hs:=[x]) (l:=[c]) ⟨rTree_iff.2 hrx,trivial⟩ rfl rfl rfl rfl rfl (by decide) (fun s m3 hle3 hs ho hc => ?_))
 replace hm:=Mem.le_trans hm hle3
 replace hE:=hE.mono hle3
 refine TO.tokFo hc ho 4 ?_
 refine TO.perm (List.Perm.swap _ _ _) ?_
 repeat (refine q4 tab rfl rfl ?_)
 refine TO.step rfl (OT.alloc tab rfl rfl rfl rfl (fun b3 => ?_));refine TO.perm (List.Perm.swap _ _ _) ?_
 skip
 (refine TO.step rfl (OT.storeL0 tab 1 rfl rfl rfl rfl rfl rfl rfl rfl ?_))
 repeat (first|refine q1 ?_|refine q5 ?_|refine q6 ?_)
 refine TC.draw [7] mixed 8 rfl [.cells b3 0 [.int .i64 25,strV [], .int .i64 0,s.v]] (E.I k2 0 :: tok s 4 :: .cells b2 0 [.int .i64 0,strV [], .int .i64 0, .slice none 0 0] :: L) (List.Perm.swap _ _ _) ?_
 refine DO.pure tab (by repeat (first|exact Calm.ret|refine Calm.then ?_)) (by kernel_rfl) [0] (by kernel_rfl) rfl ?_
 (refine DO.loadL tab 1 0 (by repeat (first|exact Calm.ret|refine Calm.then ?_)) (by kernel_rfl) (by kernel_rfl) rfl rfl rfl rfl rfl rfl rfl rfl ?_)
 refine DO.pure tab (by repeat (first|exact Calm.ret|refine Calm.then ?_)) (by kernel_rfl) [2] (by kernel_rfl) rfl ?_
 refine DO.run 3 rfl rfl (by kernel_rfl) rfl ?_
 refine OT.perm (List.Perm.swap _ _ _) (OT.parT (L0:=L) (hY) hm hT hn hE hk (by repeat (first|exact Bad.ret|refine Bad.then ?_)) hm (by repeat (first|exact List.Sublist.refl _|refine List.Sublist.cons _ ?_)) rfl rfl rfl rfl rfl rfl goes115 (fun x3 mA a3 k3 hT hm hE hleA hk hr3 => ?_));refine ⟨hleA,E.I k3 0 :: tok s 4 :: .cells b2 0 [.int .i64 0,strV [], .int .i64 0, .slice none 0 0] :: L,List.Perm.swap _ _ _, ?_⟩
 refine DO.run 4 rfl rfl (by kernel_rfl) rfl ?_
 refine OT.litR tab rTree (hs:=[x3]) (l:=[a3]) ⟨rTree_iff.2 hr3,trivial⟩ rfl rfl rfl rfl rfl (by decide) (fun sB mB hleB hsB hoB hcB => ?_);refine ⟨hleB,_,List.Perm.refl _, ?_⟩
 refine DO.run 5 rfl rfl (by kernel_rfl) rfl ?_
 refine OT.append tab rTree 2 (hs.mono (Mem.le_trans hleA hleB)) ho hsB rfl rfl rfl rfl rfl rfl rfl (by simp only [List.length_append,List.length_cons,List.length_nil,rTree,mkR];omega) (fun s3 mC hleC hs3 ho3 => ?_);refine ⟨hleC,E.I k3 0 :: tok s3 4 :: .cells b2 0 [.int .i64 0,strV [], .int .i64 0, .slice none 0 0] :: L,List.Perm.refl _, ?_⟩
 refine DO.pure tab (by repeat (first|exact Calm.ret|refine Calm.then ?_)) (by kernel_rfl) [6] (by kernel_rfl) rfl ?_
 refine DO.tail ?_
 refine DOt.run 7 rfl rfl (by kernel_rfl) rfl ?_
 refine OT.storeL (k:=3) tab 0 rfl rfl rfl rfl rfl rfl rfl rfl ?_;refine DOt.perm (List.Perm.swap _ _ _) ?_
 refine DOt.nil (by kernel_rfl) ?_
 rotate_left 1
 replace hm:=Mem.le_trans hm (Mem.le_trans hleB hleC)
 replace hE:=hE.mono (Mem.le_trans hleB hleC)
 repeat (first|refine q1 ?_|refine q3 ?_|refine q4 tab rfl rfl ?_|refine q6 ?_)
 refine TO.step rfl (OT.takeP hT hE hk rfl rfl rfl rfl rfl rfl (fun hT hk => ?_) (fun hT => ?_))
 ·repeat (first|refine q1 ?_|refine q3 ?_|refine q4 tab rfl rfl ?_|refine q5 ?_|refine q6 ?_|refine q16 rfl ?_)
  refine TO.step rfl (OT.peekP hT hE hk rfl rfl rfl rfl rfl rfl (fun hT => ?_) (fun hT => ?_))
  ·repeat (first|refine q5 ?_|refine q6 ?_|refine q16 rfl ?_)
   refine TC.draw [7] mixed 8 rfl [.cells b3 0 [.int .i64 25,strV [], .int .i64 0,s3.v]] (E.I (k3+1) 0 :: tok s3 4 :: .cells b2 0 [.int .i64 0,strV [], .int .i64 0, .slice none 0 0] :: L) (List.Perm.swap _ _ _) ?_
   refine DO.pure tab (by repeat (first|exact Calm.ret|refine Calm.then ?_)) (by kernel_rfl) [0] (by kernel_rfl) rfl ?_
   (refine DO.loadL tab 1 0 (by repeat (first|exact Calm.ret|refine Calm.then ?_)) (by kernel_rfl) (by kernel_rfl) rfl rfl rfl rfl rfl rfl rfl rfl ?_)
   refine DO.pure tab (by repeat (first|exact Calm.ret|refine Calm.then ?_)) (by kernel_rfl) [2] (by kernel_rfl) rfl ?_
   refine DO.run 3 rfl rfl (by kernel_rfl) rfl ?_
   refine OT.perm (List.Perm.swap _ _ _) (OT.parT (L0:=L) (hZ) hm hT hn hE hk (by repeat (first|exact Bad.ret|refine Bad.then ?_)) hm (by repeat (first|exact List.Sublist.refl _|refine List.Sublist.cons _ ?_)) rfl rfl rfl rfl rfl rfl goes176 (fun x4 mA a4 k4 hT hm hE hleA hk hr4 => ?_));refine ⟨hleA,E.I k4 0 :: tok s3 4 :: .cells b2 0 [.int .i64 0,strV [], .int .i64 0, .slice none 0 0] :: L,List.Perm.swap _ _ _, ?_⟩
   refine DO.run 4 rfl rfl (by kernel_rfl) rfl ?_
   refine OT.litR tab rTree (hs:=[x4]) (l:=[a4]) ⟨rTree_iff.2 hr4,trivial⟩ rfl rfl rfl rfl rfl (by decide) (fun sB mB hleB hsB hoB hcB => ?_);refine ⟨hleB,_,List.Perm.refl _, ?_⟩
   refine DO.run 5 rfl rfl (by kernel_rfl) rfl ?_
   refine OT.append tab rTree 2 (hs3.mono (Mem.le_trans hleA hleB)) ho3 hsB rfl rfl rfl rfl rfl rfl rfl (by simp only [List.length_append,List.length_cons,List.length_nil,rTree,mkR];omega) (fun s4 mC hleC hs4 ho4 => ?_);refine ⟨hleC,E.I k4 0 :: tok s4 4 :: .cells b2 0 [.int .i64 0,strV [], .int .i64 0, .slice none 0 0] :: L,List.Perm.refl _, ?_⟩
   refine DO.pure tab (by repeat (first|exact Calm.ret|refine Calm.then ?_)) (by kernel_rfl) [6] (by kernel_rfl) rfl ?_
   refine DO.tail ?_
   refine DOt.run 7 rfl rfl (by kernel_rfl) rfl ?_
   refine OT.storeL (k:=3) tab 0 rfl rfl rfl rfl rfl rfl rfl rfl ?_;refine DOt.perm (List.Perm.swap _ _ _) ?_
   refine DOt.nil (by kernel_rfl) ?_
   rotate_left 1
   replace hm:=Mem.le_trans hm (Mem.le_trans hleB hleC)
   replace hE:=hE.mono (Mem.le_trans hleB hleC)
   repeat (first|refine q1 ?_|refine q3 ?_|refine q6 ?_)
   (refine qs rfl (qz tab 1 rfl rfl rfl rfl rfl rfl ?_))
   skip
   refine TO.step rfl (OT.storeL0 tab 3 rfl rfl rfl rfl rfl rfl rfl rfl ?_)
   repeat (first|refine q5 ?_|refine q6 ?_|refine q15 ?_)
   refine retQ_ret_c1 tab 3 rfl rfl rfl rfl (L':=E.I k4 0 :: L) (by repeat (first|exact List.Sublist.refl _|refine List.Sublist.cons_cons _ ?_|refine List.Sublist.cons _ ?_)) ⟨_,k4,[],hT,hm,hk,⟨⟨25,[],0,s4⟩,rfl,rfl,⟨rfl,rfl,rfl,hs4⟩⟩,rfl⟩
  ·repeat (first|refine q5 ?_|refine q6 ?_|refine q17 rfl ?_)
   refine TC.draw [7] mixed 8 rfl [.cells b3 0 [.int .i64 25,strV [], .int .i64 0,s3.v]] (E.I (k3+1) 0 :: tok s3 4 :: .cells b2 0 [.int .i64 0,strV [], .int .i64 0, .slice none 0 0] :: L) (List.Perm.swap _ _ _) ?_
   refine DO.pure tab (by repeat (first|exact Calm.ret|refine Calm.then ?_)) (by kernel_rfl) [0] (by kernel_rfl) rfl ?_
   (refine DO.loadL tab 1 0 (by repeat (first|exact Calm.ret|refine Calm.then ?_)) (by kernel_rfl) (by kernel_rfl) rfl rfl rfl rfl rfl rfl rfl rfl ?_)
   refine DO.pure tab (by repeat (first|exact Calm.ret|refine Calm.then ?_)) (by kernel_rfl) [2] (by kernel_rfl) rfl ?_
   refine DO.run 3 rfl rfl (by kernel_rfl) rfl ?_
   refine OT.perm (List.Perm.swap _ _ _) (OT.parT (L0:=L) (hY) hm hT hn hE hk (by repeat (first|exact Bad.ret|refine Bad.then ?_)) hm (by repeat (first|exact List.Sublist.refl _|refine List.Sublist.cons _ ?_)) rfl rfl rfl rfl rfl rfl goes115 (fun x4 mA a4 k4 hT hm hE hleA hk hr4 => ?_));refine ⟨hleA,E.I k4 0 :: tok s3 4 :: .cells b2 0 [.int .i64 0,strV [], .int .i64 0, .slice none 0 0] :: L,List.Perm.swap _ _ _, ?_⟩
   refine DO.run 4 rfl rfl (by kernel_rfl) rfl ?_
   refine OT.litR tab rTree (hs:=[x4]) (l:=[a4]) ⟨rTree_iff.2 hr4,trivial⟩ rfl rfl rfl rfl rfl (by decide) (fun sB mB hleB hsB hoB hcB => ?_);refine ⟨hleB,_,List.Perm.refl _, ?_⟩
   refine DO.run 5 rfl rfl (by kernel_rfl) rfl ?_
   refine OT.append tab rTree 2 (hs3.mono (Mem.le_trans hleA hleB)) ho3 hsB rfl rfl rfl rfl rfl rfl rfl (by simp only [List.length_append,List.length_cons,List.length_nil,rTree,mkR];omega) (fun s4 mC hleC hs4 ho4 => ?_);refine ⟨hleC,E.I k4 0 :: tok s4 4 :: .cells b2 0 [.int .i64 0,strV [], .int .i64 0, .slice none 0 0] :: L,List.Perm.refl _, ?_⟩
   refine DO.pure tab (by repeat (first|exact Calm.ret|refine Calm.then ?_)) (by kernel_rfl) [6] (by kernel_rfl) rfl ?_
   refine DO.tail ?_
   refine DOt.run 7 rfl rfl (by kernel_rfl) rfl ?_
   refine OT.storeL (k:=3) tab 0 rfl rfl rfl rfl rfl rfl rfl rfl ?_;refine DOt.perm (List.Perm.swap _ _ _) ?_
   refine DOt.nil (by kernel_rfl) ?_
   rotate_left 1
   replace hm:=Mem.le_trans hm (Mem.le_trans hleB hleC)
   replace hE:=hE.mono (Mem.le_trans hleB hleC)
   repeat (first|refine q1 ?_|refine q3 ?_|refine q6 ?_)
   (refine qs rfl (qz tab 1 rfl rfl rfl rfl rfl rfl ?_))
   skip
   refine TO.step rfl (OT.storeL0 tab 3 rfl rfl rfl rfl rfl rfl rfl rfl ?_)
   repeat (first|refine q5 ?_|refine q6 ?_|refine q15 ?_)
   refine retQ_ret_c1 tab 3 rfl rfl rfl rfl (L':=E.I k4 0 :: L) (by repeat (first|exact List.Sublist.refl _|refine List.Sublist.cons_cons _ ?_|refine List.Sublist.cons _ ?_)) ⟨_,k4,[],hT,hm,hk,⟨⟨25,[],0,s4⟩,rfl,rfl,⟨rfl,rfl,rfl,hs4⟩⟩,rfl⟩
 ·repeat (first|refine q1 ?_|refine q3 ?_|refine q5 ?_|refine q6 ?_|refine q13 ?_|refine q17 rfl ?_)
  (refine qs rfl (qz tab 1 rfl rfl rfl rfl rfl rfl ?_))
  skip
  refine TO.step rfl (OT.storeL0 tab 3 rfl rfl rfl rfl rfl rfl rfl rfl ?_)
  repeat (first|refine q5 ?_|refine q6 ?_|refine q15 ?_)
  refine retQ_ret_c1 tab 3 rfl rfl rfl rfl (L':=E.I k3 0 :: L) (by repeat (first|exact List.Sublist.refl _|refine List.Sublist.cons_cons _ ?_|refine List.Sublist.cons _ ?_)) ⟨_,k3,[],hT,hm,hk,⟨⟨25,[],0,s3⟩,rfl,rfl,⟨rfl,rfl,rfl,hs3⟩⟩,rfl⟩
set_option maxHeartbeats 1600000 in
theorem stmt_par {X Y Z S : Ps.Pp Tree} (hX : Par Tryz.prog mb E vTree 191 [E.v] 1 X) (hY : Par Tryz.prog mb E vTree 115 [E.v] 0 Y) (hZ : Par Tryz.prog mb E vTree 176 [E.v] 0 Z)
  (hS : Par Tryz.prog mb E vTree 178 [E.v] 0 S) :
  Par Tryz.prog mb E vTree 149 [E.v] 0 (Ps.peek (Ps.isM [123]) Y (Ps.peek (Ps.isM [105,102]) Z (Ps.tok [102,111,114] (Ps.forP X Y) (Ps.bind S fun s=>Ps.need [59] (Ps.ret s))))):=by
 refine Par.enter Tryz.func149 rfl 42 rfl fun m L k T hm0 hE hk hT hn => ?_
 replace hX:=hX.up hm0
 replace hY:=hY.up hm0
 replace hZ:=hZ.up hm0
 replace hS:=hS.up hm0
 have hm : m ≤ m:=Mem.le_refl _
 repeat (first|refine q1 ?_|refine q3 ?_)
 refine TO.step rfl (OT.alloc tab rfl rfl rfl rfl (fun b2 => ?_));refine TO.perm (List.Perm.swap _ _ _) ?_
 repeat (first|refine q1 ?_|refine q2 ?_|refine q3 ?_|refine q4 tab rfl rfl ?_|refine q5 ?_|refine q6 ?_)
 refine TO.step rfl (OT.peekP hT hE hk rfl rfl rfl rfl rfl rfl (fun hT => ?_) (fun hT => ?_))
 ·rw [← Ps.bind_ret Y] at hT
  repeat (first|refine q1 ?_|refine q3 ?_|refine q4 tab rfl rfl ?_|refine q5 ?_|refine q6 ?_|refine q16 rfl ?_)
  refine TO.step rfl (OT.parT (L0:=L) (hY) hm hT hn hE hk (by repeat (first|exact Bad.ret|refine Bad.then ?_|refine Bad.block ?_)) hm (by repeat (first|exact List.Sublist.refl _|refine List.Sublist.cons _ ?_)) rfl rfl rfl rfl rfl rfl goes115 (fun x m2 a k2 hT hm hE hlex hk hrx => ?_))
  skip
  (refine TO.step rfl (OT.storeL0 tab 1 rfl rfl rfl rfl rfl rfl rfl rfl ?_))
  repeat (first|refine q5 ?_|refine q6 ?_|refine q8 ?_|refine q9 ?_|refine q15 ?_)
  refine retQ_ret_c1 tab 1 rfl rfl rfl rfl (L':=E.I k2 0 :: L) (by repeat (first|exact List.Sublist.refl _|refine List.Sublist.cons_cons _ ?_|refine List.Sublist.cons _ ?_)) ⟨_,k2,[],hT,hm,hk,⟨x,rfl,rfl,hrx⟩,rfl⟩
 repeat (first|refine q1 ?_|refine q3 ?_|refine q4 tab rfl rfl ?_|refine q5 ?_|refine q6 ?_|refine q17 rfl ?_)
 refine TO.step rfl (OT.peekP hT hE hk rfl rfl rfl rfl rfl rfl (fun hT => ?_) (fun hT => ?_))
 ·rw [← Ps.bind_ret Z] at hT
  repeat (first|refine q1 ?_|refine q3 ?_|refine q4 tab rfl rfl ?_|refine q5 ?_|refine q6 ?_|refine q16 rfl ?_)
  refine TO.step rfl (OT.parT (L0:=L) (hZ) hm hT hn hE hk (by repeat (first|exact Bad.ret|refine Bad.then ?_|refine Bad.block ?_)) hm (by repeat (first|exact List.Sublist.refl _|refine List.Sublist.cons _ ?_)) rfl rfl rfl rfl rfl rfl goes176 (fun x m2 a k2 hT hm hE hlex hk hrx => ?_))
  skip
  (refine TO.step rfl (OT.storeL0 tab 1 rfl rfl rfl rfl rfl rfl rfl rfl ?_))
  repeat (first|refine q5 ?_|refine q6 ?_|refine q8 ?_|refine q9 ?_|refine q15 ?_)
  refine retQ_ret_c1 tab 1 rfl rfl rfl rfl (L':=E.I k2 0 :: L) (by repeat (first|exact List.Sublist.refl _|refine List.Sublist.cons_cons _ ?_|refine List.Sublist.cons _ ?_)) ⟨_,k2,[],hT,hm,hk,⟨x,rfl,rfl,hrx⟩,rfl⟩
 repeat (first|refine q1 ?_|refine q3 ?_|refine q4 tab rfl rfl ?_|refine q5 ?_|refine q6 ?_|refine q17 rfl ?_)
 refine TO.step rfl (OT.takeP hT hE hk rfl rfl rfl rfl rfl rfl (fun hT hk => ?_) (fun hT => ?_))
 ·unfold Ps.forP at hT
  repeat (first|refine q1 ?_|refine q3 ?_|refine q4 tab rfl rfl ?_|refine q5 ?_|refine q6 ?_|refine q16 rfl ?_)
  refine TO.step rfl (OT.alloc tab rfl rfl rfl rfl (fun b3 => ?_));refine TO.perm (List.Perm.swap _ _ _) ?_
  skip
  (refine TO.step rfl (OT.storeL0 tab 1 rfl rfl rfl rfl rfl rfl rfl rfl ?_))
  refine TO.grow0 (size:=4) ?_
  refine TO.perm (L':=E.I (k + 1) 0 :: .cells b3 0 [.int .i64 26,strV [], .int .i64 0, .slice none 0 0] :: tok ⟨none,0,0⟩ 4 :: .cells b2 0 [.int .i64 0,strV [], .int .i64 0, .slice none 0 0] :: L) (List.Perm.trans (List.Perm.swap _ _ _) (List.Perm.cons _ (List.Perm.swap _ _ _))) ?_
  obtain ⟨s,hse⟩ : ∃ s : Sl,s = ⟨none,0,0⟩:=⟨_,rfl⟩
  have hs : SlRep rTree m s []:=by rw [hse];exact SlRep.nil _ _
  have ho : Own s:=by rw [hse];exact Own.nil
  rw [show Value.slice none 0 0=(⟨none,0,0⟩ : Sl).v from rfl,← hse]
  repeat (first|refine q1 ?_|refine q3 ?_|refine q4 tab rfl rfl ?_|refine q5 ?_|refine q6 ?_)
  refine TO.step rfl (OT.peekP hT hE hk rfl rfl rfl rfl rfl rfl (fun hT => ?_) (fun hT => ?_))
  ·repeat (first|refine q1 ?_|refine q4 tab rfl rfl ?_|refine q5 ?_|refine q6 ?_|refine q13 ?_|refine q17 rfl ?_)
   refine TC.draw [7] mixed 8 rfl [.cells b3 0 [.int .i64 26,strV [], .int .i64 0,s.v]] (E.I (k+1) 0 :: tok s 4 :: .cells b2 0 [.int .i64 0,strV [], .int .i64 0,s.v] :: L) (List.Perm.swap _ _ _) ?_
   refine DO.pure tab (by repeat (first|exact Calm.ret|refine Calm.then ?_|refine Calm.block ?_)) (by kernel_rfl) [0] (by kernel_rfl) rfl ?_
   (refine DO.loadL tab 1 0 (by repeat (first|exact Calm.ret|refine Calm.then ?_|refine Calm.block ?_)) (by kernel_rfl) (by kernel_rfl) rfl rfl rfl rfl rfl rfl rfl rfl ?_)
   refine DO.pure tab (by repeat (first|exact Calm.ret|refine Calm.then ?_|refine Calm.block ?_)) (by kernel_rfl) [2] (by kernel_rfl) rfl ?_
   refine DO.run 3 rfl rfl (by kernel_rfl) rfl ?_
   refine OT.perm (List.Perm.swap _ _ _) (OT.parT (L0:=L) (hY) hm hT hn hE hk (by repeat (first|exact Bad.ret|refine Bad.then ?_|refine Bad.block ?_)) hm (by repeat (first|exact List.Sublist.refl _|refine List.Sublist.cons _ ?_)) rfl rfl rfl rfl rfl rfl goes115 (fun x4 mA a4 k4 hT hm hE hleA hk hr4 => ?_));refine ⟨hleA,E.I k4 0 :: tok s 4 :: .cells b2 0 [.int .i64 0,strV [], .int .i64 0,s.v] :: L,List.Perm.swap _ _ _, ?_⟩
   refine DO.run 4 rfl rfl (by kernel_rfl) rfl ?_
   refine OT.litR tab rTree (hs:=[x4]) (l:=[a4]) ⟨rTree_iff.2 hr4,trivial⟩ rfl rfl rfl rfl rfl (by decide) (fun sB mB hleB hsB hoB hcB => ?_);refine ⟨hleB,_,List.Perm.refl _, ?_⟩
   refine DO.run 5 rfl rfl (by kernel_rfl) rfl ?_
   refine OT.append tab rTree 2 (hs.mono (Mem.le_trans hleA hleB)) ho hsB rfl rfl rfl rfl rfl rfl rfl (by simp only [List.length_append,List.length_cons,List.length_nil,rTree,mkR];omega) (fun s4 mC hleC hs4 ho4 => ?_);refine ⟨hleC,E.I k4 0 :: tok s4 4 :: .cells b2 0 [.int .i64 0,strV [], .int .i64 0,s.v] :: L,List.Perm.refl _, ?_⟩
   refine DO.pure tab (by repeat (first|exact Calm.ret|refine Calm.then ?_|refine Calm.block ?_)) (by kernel_rfl) [6] (by kernel_rfl) rfl ?_
   refine DO.tail ?_
   refine DOt.run 7 rfl rfl (by kernel_rfl) rfl ?_
   refine OT.storeL (k:=3) tab 0 rfl rfl rfl rfl rfl rfl rfl rfl ?_;refine DOt.perm (List.Perm.swap _ _ _) ?_
   refine DOt.nil (by kernel_rfl) ?_
   rotate_left 1
   replace hm:=Mem.le_trans hm (Mem.le_trans hleB hleC)
   replace hE:=hE.mono (Mem.le_trans hleB hleC)
   repeat (first|refine q1 ?_|refine q3 ?_|refine q6 ?_)
   (refine qs rfl (qz tab 1 rfl rfl rfl rfl rfl rfl ?_))
   skip
   refine TO.step rfl (OT.storeL0 tab 3 rfl rfl rfl rfl rfl rfl rfl rfl ?_)
   repeat (first|refine q5 ?_|refine q6 ?_|refine q8 ?_|refine q9 ?_|refine q15 ?_)
   refine retQ_ret_c1 tab 3 rfl rfl rfl rfl (L':=E.I k4 0 :: L) (by repeat (first|exact List.Sublist.refl _|refine List.Sublist.cons_cons _ ?_|refine List.Sublist.cons _ ?_)) ⟨_,k4,[],hT,hm,hk,⟨⟨26,[],0,s4⟩,rfl,rfl,⟨rfl,rfl,rfl,hs4⟩⟩,rfl⟩
  ·repeat (first|refine q4 tab rfl rfl ?_|refine q5 ?_|refine q6 ?_|refine q16 rfl ?_)
   refine TC.draw [7] mixed 8 rfl [.cells b3 0 [.int .i64 26,strV [], .int .i64 0,s.v]] (E.I (k+1) 0 :: tok s 4 :: .cells b2 0 [.int .i64 0,strV [], .int .i64 0,s.v] :: L) (List.Perm.swap _ _ _) ?_
   refine DO.pure tab (by repeat (first|exact Calm.ret|refine Calm.then ?_|refine Calm.block ?_)) (by kernel_rfl) [0] (by kernel_rfl) rfl ?_
   (refine DO.loadL tab 1 0 (by repeat (first|exact Calm.ret|refine Calm.then ?_|refine Calm.block ?_)) (by kernel_rfl) (by kernel_rfl) rfl rfl rfl rfl rfl rfl rfl rfl ?_)
   refine DO.pure tab (by repeat (first|exact Calm.ret|refine Calm.then ?_|refine Calm.block ?_)) (by kernel_rfl) [2] (by kernel_rfl) rfl ?_
   refine DO.run 3 rfl rfl (by kernel_rfl) rfl ?_
   refine OT.perm (List.Perm.swap _ _ _) (OT.parT (L0:=L) (cond_par hX) hm hT hn hE hk (by repeat (first|exact Bad.ret|refine Bad.then ?_|refine Bad.block ?_)) hm (by repeat (first|exact List.Sublist.refl _|refine List.Sublist.cons _ ?_)) rfl rfl rfl rfl rfl rfl goes177 (fun x3 mA a3 k3 hT hm hE hleA hk hr3 => ?_));refine ⟨hleA,E.I k3 0 :: tok s 4 :: .cells b2 0 [.int .i64 0,strV [], .int .i64 0,s.v] :: L,List.Perm.swap _ _ _, ?_⟩
   refine DO.run 4 rfl rfl (by kernel_rfl) rfl ?_
   refine OT.litR tab rTree (hs:=[x3]) (l:=[a3]) ⟨rTree_iff.2 hr3,trivial⟩ rfl rfl rfl rfl rfl (by decide) (fun sB mB hleB hsB hoB hcB => ?_);refine ⟨hleB,_,List.Perm.refl _, ?_⟩
   refine DO.run 5 rfl rfl (by kernel_rfl) rfl ?_
   refine OT.append tab rTree 2 (hs.mono (Mem.le_trans hleA hleB)) ho hsB rfl rfl rfl rfl rfl rfl rfl (by simp only [List.length_append,List.length_cons,List.length_nil,rTree,mkR];omega) (fun s3 mC hleC hs3 ho3 => ?_);refine ⟨hleC,E.I k3 0 :: tok s3 4 :: .cells b2 0 [.int .i64 0,strV [], .int .i64 0,s.v] :: L,List.Perm.refl _, ?_⟩
   refine DO.pure tab (by repeat (first|exact Calm.ret|refine Calm.then ?_|refine Calm.block ?_)) (by kernel_rfl) [6] (by kernel_rfl) rfl ?_
   refine DO.tail ?_
   refine DOt.run 7 rfl rfl (by kernel_rfl) rfl ?_
   refine OT.storeL (k:=3) tab 0 rfl rfl rfl rfl rfl rfl rfl rfl ?_;refine DOt.perm (List.Perm.swap _ _ _) ?_
   refine DOt.nil (by kernel_rfl) ?_
   rotate_left 1
   replace hm:=Mem.le_trans hm (Mem.le_trans hleB hleC)
   replace hE:=hE.mono (Mem.le_trans hleB hleC)
   repeat (first|refine q1 ?_|refine q6 ?_)
   refine TC.draw [7] mixed 8 rfl [.cells b3 0 [.int .i64 26,strV [], .int .i64 0,s3.v]] (E.I k3 0 :: tok s3 4 :: .cells b2 0 [.int .i64 0,strV [], .int .i64 0,s.v] :: L) (List.Perm.swap _ _ _) ?_
   refine DO.pure tab (by repeat (first|exact Calm.ret|refine Calm.then ?_|refine Calm.block ?_)) (by kernel_rfl) [0] (by kernel_rfl) rfl ?_
   (refine DO.loadL tab 1 0 (by repeat (first|exact Calm.ret|refine Calm.then ?_|refine Calm.block ?_)) (by kernel_rfl) (by kernel_rfl) rfl rfl rfl rfl rfl rfl rfl rfl ?_)
   refine DO.pure tab (by repeat (first|exact Calm.ret|refine Calm.then ?_|refine Calm.block ?_)) (by kernel_rfl) [2] (by kernel_rfl) rfl ?_
   refine DO.run 3 rfl rfl (by kernel_rfl) rfl ?_
   refine OT.perm (List.Perm.swap _ _ _) (OT.parT (L0:=L) (hY) hm hT hn hE hk (by repeat (first|exact Bad.ret|refine Bad.then ?_|refine Bad.block ?_)) hm (by repeat (first|exact List.Sublist.refl _|refine List.Sublist.cons _ ?_)) rfl rfl rfl rfl rfl rfl goes115 (fun x4 mA a4 k4 hT hm hE hleA hk hr4 => ?_));refine ⟨hleA,E.I k4 0 :: tok s3 4 :: .cells b2 0 [.int .i64 0,strV [], .int .i64 0,s.v] :: L,List.Perm.swap _ _ _, ?_⟩
   refine DO.run 4 rfl rfl (by kernel_rfl) rfl ?_
   refine OT.litR tab rTree (hs:=[x4]) (l:=[a4]) ⟨rTree_iff.2 hr4,trivial⟩ rfl rfl rfl rfl rfl (by decide) (fun sB mB hleB hsB hoB hcB => ?_);refine ⟨hleB,_,List.Perm.refl _, ?_⟩
   refine DO.run 5 rfl rfl (by kernel_rfl) rfl ?_
   refine OT.append tab rTree 2 (hs3.mono (Mem.le_trans hleA hleB)) ho3 hsB rfl rfl rfl rfl rfl rfl rfl (by simp only [List.length_append,List.length_cons,List.length_nil,rTree,mkR];omega) (fun s4 mC hleC hs4 ho4 => ?_);refine ⟨hleC,E.I k4 0 :: tok s4 4 :: .cells b2 0 [.int .i64 0,strV [], .int .i64 0,s.v] :: L,List.Perm.refl _, ?_⟩
   refine DO.pure tab (by repeat (first|exact Calm.ret|refine Calm.then ?_|refine Calm.block ?_)) (by kernel_rfl) [6] (by kernel_rfl) rfl ?_
   refine DO.tail ?_
   refine DOt.run 7 rfl rfl (by kernel_rfl) rfl ?_
   refine OT.storeL (k:=3) tab 0 rfl rfl rfl rfl rfl rfl rfl rfl ?_;refine DOt.perm (List.Perm.swap _ _ _) ?_
   refine DOt.nil (by kernel_rfl) ?_
   rotate_left 1
   replace hm:=Mem.le_trans hm (Mem.le_trans hleB hleC)
   replace hE:=hE.mono (Mem.le_trans hleB hleC)
   repeat (first|refine q1 ?_|refine q3 ?_|refine q6 ?_)
   (refine qs rfl (qz tab 1 rfl rfl rfl rfl rfl rfl ?_))
   skip
   refine TO.step rfl (OT.storeL0 tab 3 rfl rfl rfl rfl rfl rfl rfl rfl ?_)
   repeat (first|refine q5 ?_|refine q6 ?_|refine q8 ?_|refine q9 ?_|refine q15 ?_)
   refine retQ_ret_c1 tab 3 rfl rfl rfl rfl (L':=E.I k4 0 :: L) (by repeat (first|exact List.Sublist.refl _|refine List.Sublist.cons_cons _ ?_|refine List.Sublist.cons _ ?_)) ⟨_,k4,[],hT,hm,hk,⟨⟨26,[],0,s4⟩,rfl,rfl,⟨rfl,rfl,rfl,hs4⟩⟩,rfl⟩
 repeat (first|refine q1 ?_|refine q3 ?_|refine q4 tab rfl rfl ?_|refine q5 ?_|refine q6 ?_|refine q7 ?_|refine q13 ?_|refine q17 rfl ?_)
 refine TO.step rfl (OT.parT (L0:=L) (hS) hm hT hn hE hk (by repeat (first|exact Bad.ret|refine Bad.then ?_)) hm (by repeat (first|exact List.Sublist.refl _|refine List.Sublist.cons _ ?_)) rfl rfl rfl rfl rfl rfl goes178 (fun x m2 a k2 hT hm hE hlex hk hrx => ?_))
 skip
 refine TO.step rfl (OT.alloc tab rfl rfl rfl rfl (fun b4 => ?_));refine TO.perm (List.Perm.swap _ _ _) ?_
 skip
 (refine TO.step rfl (OT.storeL0 tab 1 rfl rfl rfl rfl rfl rfl rfl rfl ?_))
 repeat (first|refine q1 ?_|refine q3 ?_|refine q4 tab rfl rfl ?_|refine q5 ?_|refine q6 ?_)
 refine TO.step rfl (OT.needP (L0:=L) hT hE hk (by repeat (first|exact Bad.ret|refine Bad.then ?_)) hm (by repeat (first|exact List.Sublist.refl _|refine List.Sublist.cons _ ?_)) rfl rfl rfl rfl rfl rfl (fun hT hk => ?_))
 repeat (first|refine q1 ?_|refine q3 ?_|refine q5 ?_|refine q6 ?_)
 (refine qs rfl (qz tab 1 rfl rfl rfl rfl rfl rfl ?_))
 skip
 refine TO.step rfl (OT.storeL0 tab 2 rfl rfl rfl rfl rfl rfl rfl rfl ?_)
 repeat (first|refine q5 ?_|refine q6 ?_|refine q15 ?_)
 refine retQ_ret_c1 tab 2 rfl rfl rfl rfl (L':=E.I (k2 + 1) 0 :: L) (by repeat (first|exact List.Sublist.refl _|refine List.Sublist.cons_cons _ ?_|refine List.Sublist.cons _ ?_)) ⟨_,k2 + 1,[],hT,hm,hk,⟨x,rfl,rfl,hrx⟩,rfl⟩
end
end Go.Sep


/- PsW9 -/
set_option linter.unusedVariables false
set_option linter.unusedSimpArgs false
namespace Go.Ps
theorem tokIf_eq {α : Type} (c : Bool) (s : Sep.Str) (A B : Pp α) (f : F) (k : Nat) : tokIf c s A B f k=bif (isM s f k && c) then A f (k + 1) else B f k:=by
 unfold tokIf tok
 cases c <;> cases h : isM s f k <;> simp [h]
end Go.Ps
namespace Go.Sep
open Go.Proofs
attribute [local irreducible] TC TO OT TCallX TCall DO DOt thenQ blockQ retQ At
section
variable {mb : Mem} {E : PE}
theorem perm_simple {α : Type} {e t n s b : α} {l : List α} : (e :: t :: n :: s :: b :: l).Perm ([n]++(e :: s :: b :: t :: l)):=by
 refine List.Perm.trans (List.Perm.cons _ (List.Perm.swap _ _ _)) (List.Perm.trans (List.Perm.swap _ _ _) (List.Perm.cons _ (List.Perm.cons _ ?_)))
 exact List.Perm.trans (List.Perm.swap _ _ _) (List.Perm.cons _ (List.Perm.swap _ _ _))
def Tells (fn : FuncId) (p : Tree→Bool) : Prop:=Goes Tryz.prog fn ∧ ∀ (m : Mem) (L : List Item) (h : HTree) (a : Tree),TreeRep m h a→TCall Tryz.prog fn ⟨[treeV h]⟩ m L (Ret (.bool (p a)) m L)
theorem isNm_tells : Tells 193 Ps.isNm:=by
 refine ⟨goes193,fun m L h a hr => ?_⟩
 obtain ⟨h1,h2,h3,h4⟩:=hr
 unfold TCall
 refine TCallX.enter Tryz.func193 rfl 6 rfl ?_
 repeat (first|refine q1 ?_|refine q3 ?_)
 refine TO.step rfl (OT.box rfl rfl rfl rfl rfl (fun b => ?_))
 repeat (first|(first|refine q1 ?_|refine q3 ?_|refine q4 tab rfl rfl ?_|refine q5 ?_|refine q6 ?_|refine q15 ?_)|(refine qs rfl (ql tab 0 rfl rfl rfl rfl rfl rfl ?_)))
 refine retQ_ret rfl (by repeat (first|exact List.Sublist.refl _|refine List.Sublist.cons _ ?_)) ⟨rfl,rfl, ?_⟩
 unfold Ps.isNm
 rw [h1]
set_option maxHeartbeats 800000 in
theorem isPl_tells : Tells 181 Ps.isPl:=by
 refine ⟨goes181,fun m L h a hr => ?_⟩
 obtain ⟨h1,h2,h3,h4⟩:=hr
 unfold TCall
 refine TCallX.enter Tryz.func181 rfl 26 rfl ?_
 repeat (first|refine q1 ?_|refine q3 ?_)
 refine TO.step rfl (OT.box rfl rfl rfl rfl rfl (fun b => ?_))
 repeat' (first|(first|refine q1 ?_|refine q3 ?_|refine q4 tab rfl rfl ?_|refine q5 ?_|refine q6 ?_|refine q15 ?_)|(refine qs rfl (ql tab 0 rfl rfl rfl rfl rfl rfl ?_))|(refine TO.splitP rfl rfl (fun hb => ?_) (fun hb => ?_)))
 all_goals
  refine retQ_ret rfl (by repeat (first|exact List.Sublist.refl _|refine List.Sublist.cons _ ?_)) ⟨rfl,rfl, ?_⟩
  refine congrArg Value.bool ?_
  unfold Ps.isPl
  rw [← h1,← h2]
  simp_all
theorem all_law (m : Mem) (L : List Item) (s : Sl) (l : List Tree) (hs : SlRep rTree m s l) (b5 : Nat) (hA : At m b5 0 [s.v]) (fn : FuncId) (p : Tree→Bool) (hp : Tells fn p) :
  TCall Tryz.prog 192 ⟨[.func (.func fn) ⟨[]⟩ ⟨[]⟩, .pointer (some ⟨b5,0,none⟩)]⟩ m L (Ret (.bool (l.all p)) m L):=by
 have hlen:=hs.len
 have hsm:=hs.small rfl
 unfold TCall
 refine TCallX.enter Tryz.func192 rfl 17 rfl ?_
 repeat (first|refine q1 ?_|refine q3 ?_|refine q4 tab rfl rfl ?_|refine q5 ?_|refine q6 ?_)
 (refine TO.step rfl (OT.loadA0 tab hA rfl rfl rfl rfl rfl ?_))
 repeat (first|refine q2 ?_|refine q4 tab rfl rfl ?_|refine q5 ?_|refine q6 ?_)
 refine TC.loopK (ι:=Nat) [0,1,6,7] rfl (fun k=>[(8, .int .i64 (k : Int))]) (fun _=>m) (fun _=>L) (fun k=>k ≤ l.length∧(l.take k).all p=true) (fun k=>l.length - k) 0 (by repeat (first|exact trivial|refine And.intro rfl ?_)) rfl (by repeat (exact List.Sublist.refl _)) ⟨Nat.zero_le _,by simp⟩ ?_
 rintro k ⟨hk,hI⟩
 repeat (first|refine q1 ?_|refine q3 ?_|refine q4 tab rfl rfl ?_|refine q5 ?_|refine q6 ?_)
 refine TC.condP rfl (fun hc => ?_) (fun hc => ?_)
 ·have hlt : k < l.length:=by omega
  have hx : l[k]? = some l[k]:=List.getElem?_eq_getElem hlt
  repeat (first|refine q1 ?_|refine q2 ?_|refine q3 ?_|refine q6 ?_|refine q13 ?_)
  refine TO.step rfl (OT.index tab rTree k hs rfl rfl rfl rfl rfl (by first | rfl | omega | (simp only;omega)) rfl hx ?_)
  rintro bx ix hx' hrx hAx
  skip
  (refine TO.step rfl (OT.loadA0 tab hAx rfl rfl rfl rfl rfl ?_))
  skip
  refine TO.step rfl (OT.alloc tab rfl rfl rfl rfl (fun b9 => ?_))
  skip
  (refine TO.step rfl (OT.storeL0 tab 0 rfl rfl rfl rfl rfl rfl rfl rfl ?_))
  repeat (first|refine q1 ?_|refine q3 ?_|refine q4 tab rfl rfl ?_|refine q5 ?_|refine q6 ?_)
  (refine qs rfl (qz tab 0 rfl rfl rfl rfl rfl rfl ?_))
  refine TO.step rfl (OT.call (all:=[treeV hx']) rfl rfl rfl rfl rfl (by rw [fl_eq];rfl) hp.1 ((hp.2 _ _ hx' l[k] (rTree_iff.1 hrx)).x ?_))
  rintro _ _ _ ⟨rfl,rfl,rfl⟩
  repeat (first|refine q4 tab rfl rfl ?_|refine q5 ?_|refine q6 ?_)
  cases hb : p l[k] with
  | true =>
   repeat (first|refine q3 ?_|refine q6 ?_|refine q7 ?_|refine q13 ?_|refine q17 rfl ?_)
   refine TO.step rfl (OT.arith (r':=((k + 1 : Nat) : Int)) rfl rfl rfl rfl rfl rfl rfl (by omega) ?_)
   repeat (first|refine q4 tab rfl rfl ?_|refine q5 ?_|refine q6 ?_)
   exact ⟨k + 1,(by repeat (first|exact trivial|refine And.intro rfl ?_)),(by repeat (first|exact trivial|refine And.intro rfl ?_)),rfl,rfl,(by repeat (first|exact List.Sublist.refl _|refine List.Sublist.cons _ ?_)),⟨hlt,by rw [List.take_succ_eq_append_getElem hlt,List.all_append,hI];simp [hb]⟩,by omega⟩
  | false =>
   repeat (first|refine q1 ?_|refine q3 ?_|refine q4 tab rfl rfl ?_|refine q5 ?_|refine q6 ?_|refine q8 ?_|refine q9 ?_|refine q15 ?_|refine q16 rfl ?_)
   refine retQ_ret rfl (by repeat (first|exact List.Sublist.refl _|refine List.Sublist.cons _ ?_)) ⟨rfl,rfl, ?_⟩
   refine congrArg Value.bool ?_
   symm
   rw [List.all_eq_false]
   exact ⟨l[k],List.getElem_mem hlt,by simp [hb]⟩
 ·repeat (first|refine q1 ?_|refine q3 ?_|refine q4 tab rfl rfl ?_|refine q5 ?_|refine q6 ?_|refine q10 ?_|refine q11 ?_|refine q14 ?_|refine q15 ?_)
  refine retQ_ret rfl (by repeat (exact List.Sublist.refl _)) ⟨rfl,rfl, ?_⟩
  rw [List.take_of_length_le (by omega)] at hI
  rw [hI]
set_option maxHeartbeats 2000000 in
theorem simple_par {X Y : Ps.Pp Tree} (hX : Par Tryz.prog mb E vTree 143 [E.v] 0 X) (hY : Par Tryz.prog mb E vTree 191 [E.v] 0 Y) :
  Par Tryz.prog mb E vTree 178 [E.v] 0 (Ps.simpleP E.N X Y):=by
 refine Par.enter Tryz.func178 rfl 109 rfl fun m L k T hm0 hE hk hT hn => ?_
 replace hX:=hX.up hm0
 replace hY:=hY.up hm0
 have hm : m ≤ m:=Mem.le_refl _
 have hrows:=hE.rows
 unfold Ps.simpleP at hT
 repeat (first|refine q1 ?_|refine q3 ?_)
 refine TO.step rfl (OT.alloc tab rfl rfl rfl rfl (fun b2 => ?_));refine TO.perm (List.Perm.swap _ _ _) ?_
 repeat (first|refine q1 ?_|refine q2 ?_|refine q3 ?_|refine q4 tab rfl rfl ?_|refine q5 ?_|refine q6 ?_)
 refine TO.step rfl (OT.takeP hT hE hk rfl rfl rfl rfl rfl rfl (fun hT hk => ?_) (fun hT => ?_))
 ·repeat (first|refine q1 ?_|refine q3 ?_|refine q4 tab rfl rfl ?_|refine q5 ?_|refine q6 ?_|refine q16 rfl ?_)
  refine TO.step rfl (OT.nameP (L0:=L) hT hE hk (by repeat (first|exact Bad.ret|refine Bad.then ?_|refine Bad.block ?_)) hm (by repeat (first|exact List.Sublist.refl _|refine List.Sublist.cons _ ?_)) rfl rfl rfl rfl rfl rfl (fun nm hT hk => ?_))
  repeat (refine q4 tab rfl rfl ?_)
  refine TO.step rfl (OT.alloc tab rfl rfl rfl rfl (fun b3 => ?_));refine TO.perm (List.Perm.swap _ _ _) ?_
  skip
  (refine TO.step rfl (OT.storeL0 tab 1 rfl rfl rfl rfl rfl rfl rfl rfl ?_))
  repeat (first|refine q1 ?_|refine q3 ?_|refine q4 tab rfl rfl ?_|refine q5 ?_|refine q6 ?_)
  refine TO.step rfl (OT.parT (L0:=L) (hX) hm hT hn hE hk (by repeat (first|exact Bad.ret|refine Bad.then ?_|refine Bad.block ?_)) hm (by repeat (first|exact List.Sublist.refl _|refine List.Sublist.cons _ ?_)) rfl rfl rfl rfl rfl rfl goes143 (fun t m2 tt k2 hT hm hE hlet hk hrt => ?_))
  skip
  refine TO.step rfl (OT.litR tab rTree (hs:=[t]) (l:=[tt]) ⟨rTree_iff.2 hrt,trivial⟩ rfl rfl rfl rfl rfl (by decide) (fun s m3 hle3 hs ho hc => ?_))
  replace hm:=Mem.le_trans hm hle3
  replace hE:=hE.mono hle3
  refine TO.tokFo hc ho 4 ?_
  refine TO.perm (List.Perm.trans (List.Perm.swap _ _ _) (List.Perm.cons _ (List.Perm.swap _ _ _))) ?_
  repeat (refine q4 tab rfl rfl ?_)
  refine TO.step rfl (OT.storeL (k:=3) tab 1 rfl rfl rfl rfl rfl rfl rfl rfl ?_)
  repeat (first|refine q1 ?_|refine q3 ?_|refine q4 tab rfl rfl ?_|refine q5 ?_|refine q6 ?_)
  refine TO.step rfl (OT.takeP hT hE hk rfl rfl rfl rfl rfl rfl (fun hT hk => ?_) (fun hT => ?_))
  ·repeat (first|refine q5 ?_|refine q6 ?_|refine q16 rfl ?_)
   refine TC.draw [7] mixed 8 rfl [.cells b3 0 [.int .i64 21,strV nm, .int .i64 0,s.v]] (E.I (k2+1) 0 :: tok s 4 :: .cells b2 0 [.int .i64 0,strV [], .int .i64 0, .slice none 0 0] :: L) (List.Perm.swap _ _ _) ?_
   refine DO.pure tab (by repeat (first|exact Calm.ret|refine Calm.then ?_|refine Calm.block ?_)) (by kernel_rfl) [0] (by kernel_rfl) rfl ?_
   (refine DO.loadL tab 1 0 (by repeat (first|exact Calm.ret|refine Calm.then ?_|refine Calm.block ?_)) (by kernel_rfl) (by kernel_rfl) rfl rfl rfl rfl rfl rfl rfl rfl ?_)
   refine DO.pure tab (by repeat (first|exact Calm.ret|refine Calm.then ?_|refine Calm.block ?_)) (by kernel_rfl) [2] (by kernel_rfl) rfl ?_
   refine DO.run 3 rfl rfl (by kernel_rfl) rfl ?_
   refine OT.perm (List.Perm.swap _ _ _) (OT.parT (L0:=L) (hY) hm hT hn hE hk (by repeat (first|exact Bad.ret|refine Bad.then ?_|refine Bad.block ?_)) hm (by repeat (first|exact List.Sublist.refl _|refine List.Sublist.cons _ ?_)) rfl rfl rfl rfl rfl rfl goes191 (fun x4 mA a4 k4 hT hm hE hleA hk hr4 => ?_));refine ⟨hleA,E.I k4 0 :: tok s 4 :: .cells b2 0 [.int .i64 0,strV [], .int .i64 0, .slice none 0 0] :: L,List.Perm.swap _ _ _, ?_⟩
   refine DO.run 4 rfl rfl (by kernel_rfl) rfl ?_
   refine OT.litR tab rTree (hs:=[x4]) (l:=[a4]) ⟨rTree_iff.2 hr4,trivial⟩ rfl rfl rfl rfl rfl (by decide) (fun sB mB hleB hsB hoB hcB => ?_);refine ⟨hleB,_,List.Perm.refl _, ?_⟩
   refine DO.run 5 rfl rfl (by kernel_rfl) rfl ?_
   refine OT.append tab rTree 2 (hs.mono (Mem.le_trans hleA hleB)) ho hsB rfl rfl rfl rfl rfl rfl rfl (by simp only [List.length_append,List.length_cons,List.length_nil,rTree,mkR];omega) (fun s4 mC hleC hs4 ho4 => ?_);refine ⟨hleC,E.I k4 0 :: tok s4 4 :: .cells b2 0 [.int .i64 0,strV [], .int .i64 0, .slice none 0 0] :: L,List.Perm.refl _, ?_⟩
   refine DO.pure tab (by repeat (first|exact Calm.ret|refine Calm.then ?_|refine Calm.block ?_)) (by kernel_rfl) [6] (by kernel_rfl) rfl ?_
   refine DO.tail ?_
   refine DOt.run 7 rfl rfl (by kernel_rfl) rfl ?_
   refine OT.storeL (k:=3) tab 0 rfl rfl rfl rfl rfl rfl rfl rfl ?_;refine DOt.perm (List.Perm.swap _ _ _) ?_
   refine DOt.nil (by kernel_rfl) ?_
   rotate_left 1
   replace hm:=Mem.le_trans hm (Mem.le_trans hleB hleC)
   replace hE:=hE.mono (Mem.le_trans hleB hleC)
   repeat (first|refine q1 ?_|refine q3 ?_|refine q6 ?_)
   (refine qs rfl (qz tab 1 rfl rfl rfl rfl rfl rfl ?_))
   skip
   refine TO.step rfl (OT.storeL0 tab 3 rfl rfl rfl rfl rfl rfl rfl rfl ?_)
   repeat (first|refine q5 ?_|refine q6 ?_|refine q8 ?_|refine q9 ?_|refine q15 ?_)
   refine retQ_ret_c1 tab 3 rfl rfl rfl rfl (L':=E.I k4 0 :: L) (by repeat (first|exact List.Sublist.refl _|refine List.Sublist.cons_cons _ ?_|refine List.Sublist.cons _ ?_)) ⟨_,k4,[],hT,hm,hk,⟨⟨21,nm,0,s4⟩,rfl,rfl,⟨rfl,rfl,rfl,hs4⟩⟩,rfl⟩
  ·repeat (first|refine q1 ?_|refine q3 ?_|refine q5 ?_|refine q6 ?_|refine q13 ?_|refine q17 rfl ?_)
   (refine qs rfl (qz tab 1 rfl rfl rfl rfl rfl rfl ?_))
   skip
   refine TO.step rfl (OT.storeL0 tab 3 rfl rfl rfl rfl rfl rfl rfl rfl ?_)
   repeat (first|refine q5 ?_|refine q6 ?_|refine q8 ?_|refine q9 ?_|refine q15 ?_)
   refine retQ_ret_c1 tab 3 rfl rfl rfl rfl (L':=E.I k2 0 :: L) (by repeat (first|exact List.Sublist.refl _|refine List.Sublist.cons_cons _ ?_|refine List.Sublist.cons _ ?_)) ⟨_,k2,[],hT,hm,hk,⟨⟨21,nm,0,s⟩,rfl,rfl,⟨rfl,rfl,rfl,hs⟩⟩,rfl⟩
 repeat (first|refine q1 ?_|refine q3 ?_|refine q4 tab rfl rfl ?_|refine q5 ?_|refine q6 ?_|refine q17 rfl ?_)
 refine TO.step rfl (OT.takeP hT hE hk rfl rfl rfl rfl rfl rfl (fun hT hk => ?_) (fun hT => ?_))
 ·repeat (first|refine q1 ?_|refine q3 ?_|refine q4 tab rfl rfl ?_|refine q5 ?_|refine q6 ?_|refine q16 rfl ?_)
  refine TO.step rfl (OT.alloc tab rfl rfl rfl rfl (fun b4 => ?_));refine TO.perm (List.Perm.swap _ _ _) ?_
  skip
  (refine TO.step rfl (OT.storeL0 tab 1 rfl rfl rfl rfl rfl rfl rfl rfl ?_))
  repeat (first|refine q1 ?_|refine q3 ?_|refine q4 tab rfl rfl ?_|refine q5 ?_|refine q6 ?_)
  refine TO.step rfl (OT.peekP hT hE hk rfl rfl rfl rfl rfl rfl (fun hT => ?_) (fun hT => ?_))
  ·repeat (first|refine q1 ?_|refine q3 ?_|refine q4 tab rfl rfl ?_|refine q5 ?_|refine q6 ?_|refine q13 ?_|refine q17 rfl ?_)
   (refine qs rfl (qz tab 1 rfl rfl rfl rfl rfl rfl ?_))
   skip
   refine TO.step rfl (OT.storeL0 tab 2 rfl rfl rfl rfl rfl rfl rfl rfl ?_)
   repeat (first|refine q5 ?_|refine q6 ?_|refine q8 ?_|refine q9 ?_|refine q15 ?_)
   refine retQ_ret_c1 tab 2 rfl rfl rfl rfl (L':=E.I (k + 1) 0 :: L) (by repeat (first|exact List.Sublist.refl _|refine List.Sublist.cons_cons _ ?_|refine List.Sublist.cons _ ?_)) ⟨_,k + 1,[],hT,hm,hk,⟨⟨27,[],0,⟨none,0,0⟩⟩,rfl,rfl,⟨rfl,rfl,rfl,SlRep.nil _ _⟩⟩,rfl⟩
  ·repeat (first|refine q3 ?_|refine q4 tab rfl rfl ?_|refine q5 ?_|refine q6 ?_|refine q16 rfl ?_)
   refine TO.step rfl (OT.parL (L0:=L) (list1_par (first:=[E.v]) (cap:=[]) rfl goes191 hY) hm hT hn hE hk (by repeat (first|exact Bad.ret|refine Bad.then ?_|refine Bad.block ?_)) hm (by repeat (first|exact List.Sublist.refl _|refine List.Sublist.cons _ ?_)) rfl rfl rfl rfl rfl rfl goes146 (fun x m2 l k2 hT hm hE hlex hk hrx hox hlx => ?_))
   refine TO.perm (L':=E.I k2 0 :: .cells b4 0 [.int .i64 27,strV [], .int .i64 0, .slice none 0 0] :: tok x 4 :: .cells b2 0 [.int .i64 0,strV [], .int .i64 0, .slice none 0 0] :: L) (List.Perm.cons _ (List.Perm.swap _ _ _)) ?_
   repeat (refine q4 tab rfl rfl ?_)
   refine TO.step rfl (OT.storeL (k:=3) tab 1 rfl rfl rfl rfl rfl rfl rfl rfl ?_)
   repeat (first|refine q1 ?_|refine q3 ?_|refine q5 ?_|refine q6 ?_)
   (refine qs rfl (qz tab 1 rfl rfl rfl rfl rfl rfl ?_))
   skip
   refine TO.step rfl (OT.storeL0 tab 3 rfl rfl rfl rfl rfl rfl rfl rfl ?_)
   repeat (first|refine q5 ?_|refine q6 ?_|refine q8 ?_|refine q9 ?_|refine q15 ?_)
   refine retQ_ret_c1 tab 3 rfl rfl rfl rfl (L':=E.I k2 0 :: L) (by repeat (first|exact List.Sublist.refl _|refine List.Sublist.cons_cons _ ?_|refine List.Sublist.cons _ ?_)) ⟨_,k2,[],hT,hm,hk,⟨⟨27,[],0,x⟩,rfl,rfl,⟨rfl,rfl,rfl,hrx⟩⟩,rfl⟩
 repeat (first|refine q1 ?_|refine q3 ?_|refine q4 tab rfl rfl ?_|refine q5 ?_|refine q6 ?_|refine q17 rfl ?_)
 refine TO.step rfl (OT.takeP hT hE hk rfl rfl rfl rfl rfl rfl (fun hT hk => ?_) (fun hT => ?_))
 ·repeat (first|refine q1 ?_|refine q3 ?_|refine q4 tab rfl rfl ?_|refine q5 ?_|refine q6 ?_|refine q16 rfl ?_)
  (refine TO.step rfl (OT.storeL0 tab 1 rfl rfl rfl rfl rfl rfl rfl rfl ?_))
  repeat (first|refine q5 ?_|refine q6 ?_|refine q8 ?_|refine q9 ?_|refine q15 ?_)
  refine retQ_ret_c1 tab 1 rfl rfl rfl rfl (L':=E.I (k + 1) 0 :: L) (by repeat (first|exact List.Sublist.refl _|refine List.Sublist.cons_cons _ ?_|refine List.Sublist.cons _ ?_)) ⟨_,k + 1,[],hT,hm,hk,⟨⟨28,[],0,⟨none,0,0⟩⟩,rfl,rfl,⟨rfl,rfl,rfl,SlRep.nil _ _⟩⟩,rfl⟩
 repeat (first|refine q1 ?_|refine q3 ?_|refine q4 tab rfl rfl ?_|refine q5 ?_|refine q6 ?_|refine q17 rfl ?_)
 refine TO.step rfl (OT.takeP hT hE hk rfl rfl rfl rfl rfl rfl (fun hT hk => ?_) (fun hT => ?_))
 ·repeat (first|refine q1 ?_|refine q3 ?_|refine q4 tab rfl rfl ?_|refine q5 ?_|refine q6 ?_|refine q16 rfl ?_)
  (refine TO.step rfl (OT.storeL0 tab 1 rfl rfl rfl rfl rfl rfl rfl rfl ?_))
  repeat (first|refine q5 ?_|refine q6 ?_|refine q8 ?_|refine q9 ?_|refine q15 ?_)
  refine retQ_ret_c1 tab 1 rfl rfl rfl rfl (L':=E.I (k + 1) 0 :: L) (by repeat (first|exact List.Sublist.refl _|refine List.Sublist.cons_cons _ ?_|refine List.Sublist.cons _ ?_)) ⟨_,k + 1,[],hT,hm,hk,⟨⟨29,[],0,⟨none,0,0⟩⟩,rfl,rfl,⟨rfl,rfl,rfl,SlRep.nil _ _⟩⟩,rfl⟩
 repeat (first|refine q1 ?_|refine q3 ?_|refine q4 tab rfl rfl ?_|refine q5 ?_|refine q6 ?_|refine q7 ?_|refine q13 ?_|refine q17 rfl ?_)
 refine TO.step rfl (OT.parL (L0:=L) (list1_par (first:=[E.v]) (cap:=[]) rfl goes191 hY) hm hT hn hE hk (by repeat (first|exact Bad.ret|refine Bad.then ?_)) hm (by repeat (first|exact List.Sublist.refl _|refine List.Sublist.cons _ ?_)) rfl rfl rfl rfl rfl rfl goes146 (fun s m2 l k1 hT hm hE hles hk hrs hos hls => ?_))
 have hs:=hrs
 have ho:=hos
 have hl:=hls
 have hlen:=hs.len
 skip
 refine TO.step rfl (OT.alloc tab rfl rfl rfl rfl (fun b5 => ?_))
 skip
 (refine TO.step rfl (OT.storeL0 tab 0 rfl rfl rfl rfl rfl rfl rfl rfl ?_))
 refine TO.freeze fun m3 hle3 hA => ?_
 replace hm:=Mem.le_trans hm hle3
 replace hE:=hE.mono hle3
 replace hs:=hs.mono hle3
 repeat (first|refine q1 ?_|refine q3 ?_|refine q4 tab rfl rfl ?_|refine q5 ?_|refine q6 ?_)
 refine TO.perm (L':=E.I k1 0 :: tok s 4 :: .cells b2 0 [.int .i64 0,strV [], .int .i64 0, .slice none 0 0] :: L) (List.Perm.refl _) ?_
 refine TO.step rfl (OT.alloc tab rfl rfl rfl rfl (fun b7 => ?_));refine TO.perm (List.Perm.swap _ _ _) ?_
 skip
 (refine TO.step rfl (OT.storeL0 tab 1 rfl rfl rfl rfl rfl rfl rfl rfl ?_))
 unfold Ps.assignP at hT
 simp only [Ps.tokIf_eq] at hT
 refine TO.nil ?_
 refine thenQ_n ?_
 refine TC.cut (ι:=Int) [0,2,5,7] rfl (fun _=>[]) (fun i=>m3) (fun i=>E.I k1 0 :: .cells b7 0 [.int .i64 i,strV [], .int .i64 0, .slice none 0 0] :: tok s 4 :: .cells b2 0 [.int .i64 0,strV [], .int .i64 0, .slice none 0 0] :: L) (fun i=>k1 + 1 ≤ E.toks.length∧T=(Ps.bind (Ps.commas E.N Y) fun l2=>Ps.ret (Tree.mk i [] (l.length : Int) (l++l2))) E.f (k1 + 1)) ?_ ?_
 ·skip
  repeat (first|refine q1 ?_|refine q2 ?_|refine q3 ?_|refine q4 tab rfl rfl ?_)
  refine TO.step rfl (OT.call rfl rfl rfl rfl rfl rfl goes142 ((peek_law [58,61] hE hk).x ?_));
  rintro _ _ _ ⟨rfl,rfl,rfl⟩
  repeat (refine q4 tab rfl rfl ?_)
  cases hb1 : Ps.isM [58,61] E.f k1 with
  | false =>
   rw [hb1,Bool.false_and] at hT
   simp only [cond_false] at hT
   repeat (first|refine q1 ?_|refine q3 ?_|refine q4 tab rfl rfl ?_|refine q5 ?_|refine q6 ?_|refine q17 rfl ?_)
   refine TO.step rfl (OT.call rfl rfl rfl rfl rfl rfl goes142 ((peek_law [61] hE hk).x ?_));
   rintro _ _ _ ⟨rfl,rfl,rfl⟩
   repeat (refine q4 tab rfl rfl ?_)
   cases hb2 : Ps.isM [61] E.f k1 with
   | false =>
    rw [hb2,Bool.false_and] at hT
    simp only [cond_false] at hT
    repeat (first|refine q1 ?_|refine q3 ?_|refine q4 tab rfl rfl ?_|refine q5 ?_|refine q6 ?_|refine q17 rfl ?_)
    refine TO.step rfl (OT.call rfl rfl rfl rfl rfl rfl goes142 ((peek_law [59] hE hk).x ?_));
    rintro _ _ _ ⟨rfl,rfl,rfl⟩
    repeat (refine q4 tab rfl rfl ?_)
    cases hb3 : Ps.isM [59] E.f k1 with
    | false =>
     repeat (first|refine q3 ?_|refine q4 tab rfl rfl ?_|refine q5 ?_|refine q6 ?_|refine q17 rfl ?_)
     have hT : T = .bad k1:=by
      rw [hT]
      cases Ps.isC1 l
      ·rfl
      ·exact Ps.peek_f' hb3
     refine TO.step rfl (OT.stopP (L0:=L) hT hE hk (by repeat (first|exact Bad.ret|refine Bad.then ?_|refine Bad.block ?_)) hm (by repeat (first|exact List.Sublist.refl _|refine List.Sublist.cons _ ?_)) rfl rfl rfl rfl rfl rfl)
    | true =>
     skip
     (refine TO.step rfl (OT.loadA0 tab hA rfl rfl rfl rfl rfl ?_))
     repeat (refine q4 tab rfl rfl ?_)
     refine TO.split (b:=decide (((s.len : Nat) : Int)=1)) rfl rfl (fun h1 => ?_) (fun h1 => ?_)
     ·have h1' : l.length=1:=by have:=of_decide_eq_true h1;omega
      obtain ⟨t0,rfl⟩:=List.length_eq_one_iff.1 h1'
      skip
      (refine TO.step rfl (OT.loadA0 tab hA rfl rfl rfl rfl rfl ?_))
      skip
      refine TO.step rfl (OT.index tab rTree 0 hs rfl rfl rfl rfl rfl (by first | rfl | omega | (simp only;omega)) rfl (by rfl) ?_)
      rintro bx ix hx' hrx hAx
      have hrx':=rTree_iff.1 hrx
      repeat (refine q4 tab rfl rfl ?_)
      (refine TO.step rfl (OT.loadA tab hAx rfl rfl rfl rfl rfl ?_))
      repeat (first|refine q4 tab rfl rfl ?_|refine q5 ?_|refine q6 ?_)
      rw [hrx'.kind]
      refine TC.condP rfl (fun h2 => ?_) (fun h2 => ?_)
      ·have hT : T = .ok (Tree.mk 24 [] 0 [t0]) k1:=by
        rw [hT,show Ps.isC1 [t0]=true from decide_eq_true h2]
        exact Ps.peek_t' hb3
       repeat (first|refine q1 ?_|refine q3 ?_)
       (refine TO.step rfl (OT.loadA0 tab hA rfl rfl rfl rfl rfl ?_))
       repeat (refine q4 tab rfl rfl ?_)
       refine TO.step rfl (OT.storeL (k:=3) tab 1 rfl rfl rfl rfl rfl rfl rfl rfl ?_)
       repeat (first|refine q1 ?_|refine q3 ?_|refine q5 ?_|refine q6 ?_)
       (refine qs rfl (qz tab 1 rfl rfl rfl rfl rfl rfl ?_))
       skip
       refine TO.step rfl (OT.storeL0 tab 3 rfl rfl rfl rfl rfl rfl rfl rfl ?_)
       repeat (first|refine q5 ?_|refine q6 ?_|refine q8 ?_|refine q9 ?_|refine q15 ?_)
       refine retQ_ret_c1 tab 3 rfl rfl rfl rfl (L':=E.I k1 0 :: L) (by repeat (first|exact List.Sublist.refl _|refine List.Sublist.cons_cons _ ?_|refine List.Sublist.cons _ ?_)) ⟨_,k1,[],hT,hm,hk,⟨⟨24,[],0,s⟩,rfl,rfl,⟨rfl,rfl,rfl,hs⟩⟩,rfl⟩
      ·have hT : T = .bad k1:=by
        rw [hT,show Ps.isC1 [t0]=false from decide_eq_false h2]
        rfl
       repeat (first|refine q3 ?_|refine q4 tab rfl rfl ?_)
       refine TO.step rfl (OT.stopP (L0:=L) hT hE hk (by repeat (first|exact Bad.ret|refine Bad.then ?_|refine Bad.block ?_)) hm (by repeat (first|exact List.Sublist.refl _|refine List.Sublist.cons _ ?_)) rfl rfl rfl rfl rfl rfl)
     ·have hT : T = .bad k1:=by
       rw [hT]
       have h1' : ¬ l.length=1:=by have:=of_decide_eq_false h1;omega
       have : Ps.isC1 l=false:=by
        unfold Ps.isC1
        split
        ·exact absurd rfl h1'
        ·rfl
       rw [this]
       rfl
      repeat (first|refine q3 ?_|refine q4 tab rfl rfl ?_|refine q5 ?_|refine q6 ?_|refine q17 rfl ?_)
      refine TO.step rfl (OT.stopP (L0:=L) hT hE hk (by repeat (first|exact Bad.ret|refine Bad.then ?_|refine Bad.block ?_)) hm (by repeat (first|exact List.Sublist.refl _|refine List.Sublist.cons _ ?_)) rfl rfl rfl rfl rfl rfl)
   | true =>
    repeat (refine q4 tab rfl rfl ?_)
    refine TO.step rfl (OT.call rfl rfl rfl rfl rfl rfl goes192 ((all_law m3 _ s l hs b5 hA _ Ps.isPl isPl_tells).x ?_))
    rintro _ _ _ ⟨rfl,rfl,rfl⟩
    cases ha2 : l.all Ps.isPl with
    | true =>
     rw [hb2,ha2] at hT
     simp only [Bool.and_true,cond_true] at hT
     repeat (first|refine q3 ?_|refine q4 tab rfl rfl ?_|refine q5 ?_|refine q6 ?_|refine q16 rfl ?_)
     refine TO.step rfl (OT.storeL0 tab 1 rfl rfl rfl rfl rfl rfl rfl rfl ?_)
     repeat (first|refine q5 ?_|refine q6 ?_|refine q7 ?_)
     exact ⟨23,(by repeat (exact trivial)),(by repeat (first|exact trivial|refine And.intro rfl ?_)),rfl,rfl,(by repeat (exact List.Sublist.refl _)),PE.isM_lt hb2,hT⟩
    | false =>
     rw [ha2,Bool.and_false] at hT
     simp only [cond_false] at hT
     repeat (first|refine q1 ?_|refine q3 ?_|refine q4 tab rfl rfl ?_|refine q5 ?_|refine q6 ?_|refine q17 rfl ?_)
     refine TO.step rfl (OT.call rfl rfl rfl rfl rfl rfl goes142 ((peek_law [59] hE hk).x ?_));
     rintro _ _ _ ⟨rfl,rfl,rfl⟩
     repeat (refine q4 tab rfl rfl ?_)
     cases hb3 : Ps.isM [59] E.f k1 with
     | false =>
      repeat (first|refine q3 ?_|refine q4 tab rfl rfl ?_|refine q5 ?_|refine q6 ?_|refine q17 rfl ?_)
      have hT : T = .bad k1:=by
       rw [hT]
       cases Ps.isC1 l
       ·rfl
       ·exact Ps.peek_f' hb3
      refine TO.step rfl (OT.stopP (L0:=L) hT hE hk (by repeat (first|exact Bad.ret|refine Bad.then ?_|refine Bad.block ?_)) hm (by repeat (first|exact List.Sublist.refl _|refine List.Sublist.cons _ ?_)) rfl rfl rfl rfl rfl rfl)
     | true =>
      skip
      (refine TO.step rfl (OT.loadA0 tab hA rfl rfl rfl rfl rfl ?_))
      repeat (refine q4 tab rfl rfl ?_)
      refine TO.split (b:=decide (((s.len : Nat) : Int)=1)) rfl rfl (fun h1 => ?_) (fun h1 => ?_)
      ·have h1' : l.length=1:=by have:=of_decide_eq_true h1;omega
       obtain ⟨t0,rfl⟩:=List.length_eq_one_iff.1 h1'
       skip
       (refine TO.step rfl (OT.loadA0 tab hA rfl rfl rfl rfl rfl ?_))
       skip
       refine TO.step rfl (OT.index tab rTree 0 hs rfl rfl rfl rfl rfl (by first | rfl | omega | (simp only;omega)) rfl (by rfl) ?_)
       rintro bx ix hx' hrx hAx
       have hrx':=rTree_iff.1 hrx
       repeat (refine q4 tab rfl rfl ?_)
       (refine TO.step rfl (OT.loadA tab hAx rfl rfl rfl rfl rfl ?_))
       repeat (first|refine q4 tab rfl rfl ?_|refine q5 ?_|refine q6 ?_)
       rw [hrx'.kind]
       refine TC.condP rfl (fun h2 => ?_) (fun h2 => ?_)
       ·have hT : T = .ok (Tree.mk 24 [] 0 [t0]) k1:=by
         rw [hT,show Ps.isC1 [t0]=true from decide_eq_true h2]
         exact Ps.peek_t' hb3
        repeat (first|refine q1 ?_|refine q3 ?_)
        (refine TO.step rfl (OT.loadA0 tab hA rfl rfl rfl rfl rfl ?_))
        repeat (refine q4 tab rfl rfl ?_)
        refine TO.step rfl (OT.storeL (k:=3) tab 1 rfl rfl rfl rfl rfl rfl rfl rfl ?_)
        repeat (first|refine q1 ?_|refine q3 ?_|refine q5 ?_|refine q6 ?_)
        (refine qs rfl (qz tab 1 rfl rfl rfl rfl rfl rfl ?_))
        skip
        refine TO.step rfl (OT.storeL0 tab 3 rfl rfl rfl rfl rfl rfl rfl rfl ?_)
        repeat (first|refine q5 ?_|refine q6 ?_|refine q8 ?_|refine q9 ?_|refine q15 ?_)
        refine retQ_ret_c1 tab 3 rfl rfl rfl rfl (L':=E.I k1 0 :: L) (by repeat (first|exact List.Sublist.refl _|refine List.Sublist.cons_cons _ ?_|refine List.Sublist.cons _ ?_)) ⟨_,k1,[],hT,hm,hk,⟨⟨24,[],0,s⟩,rfl,rfl,⟨rfl,rfl,rfl,hs⟩⟩,rfl⟩
       ·have hT : T = .bad k1:=by
         rw [hT,show Ps.isC1 [t0]=false from decide_eq_false h2]
         rfl
        repeat (first|refine q3 ?_|refine q4 tab rfl rfl ?_)
        refine TO.step rfl (OT.stopP (L0:=L) hT hE hk (by repeat (first|exact Bad.ret|refine Bad.then ?_|refine Bad.block ?_)) hm (by repeat (first|exact List.Sublist.refl _|refine List.Sublist.cons _ ?_)) rfl rfl rfl rfl rfl rfl)
      ·have hT : T = .bad k1:=by
        rw [hT]
        have h1' : ¬ l.length=1:=by have:=of_decide_eq_false h1;omega
        have : Ps.isC1 l=false:=by
         unfold Ps.isC1
         split
         ·exact absurd rfl h1'
         ·rfl
        rw [this]
        rfl
       repeat (first|refine q3 ?_|refine q4 tab rfl rfl ?_|refine q5 ?_|refine q6 ?_|refine q17 rfl ?_)
       refine TO.step rfl (OT.stopP (L0:=L) hT hE hk (by repeat (first|exact Bad.ret|refine Bad.then ?_|refine Bad.block ?_)) hm (by repeat (first|exact List.Sublist.refl _|refine List.Sublist.cons _ ?_)) rfl rfl rfl rfl rfl rfl)
  | true =>
   repeat (refine q4 tab rfl rfl ?_)
   refine TO.step rfl (OT.call rfl rfl rfl rfl rfl rfl goes192 ((all_law m3 _ s l hs b5 hA _ Ps.isNm isNm_tells).x ?_))
   rintro _ _ _ ⟨rfl,rfl,rfl⟩
   cases ha1 : l.all Ps.isNm with
   | true =>
    rw [hb1,ha1] at hT
    simp only [Bool.and_true,cond_true] at hT
    repeat (first|refine q3 ?_|refine q4 tab rfl rfl ?_|refine q5 ?_|refine q6 ?_|refine q16 rfl ?_)
    refine TO.step rfl (OT.storeL0 tab 1 rfl rfl rfl rfl rfl rfl rfl rfl ?_)
    repeat (first|refine q5 ?_|refine q6 ?_|refine q7 ?_)
    exact ⟨22,(by repeat (exact trivial)),(by repeat (first|exact trivial|refine And.intro rfl ?_)),rfl,rfl,(by repeat (exact List.Sublist.refl _)),PE.isM_lt hb1,hT⟩
   | false =>
    rw [ha1,Bool.and_false] at hT
    simp only [cond_false] at hT
    repeat (first|refine q1 ?_|refine q3 ?_|refine q4 tab rfl rfl ?_|refine q5 ?_|refine q6 ?_|refine q17 rfl ?_)
    refine TO.step rfl (OT.call rfl rfl rfl rfl rfl rfl goes142 ((peek_law [61] hE hk).x ?_));
    rintro _ _ _ ⟨rfl,rfl,rfl⟩
    repeat (refine q4 tab rfl rfl ?_)
    cases hb2 : Ps.isM [61] E.f k1 with
    | false =>
     rw [hb2,Bool.false_and] at hT
     simp only [cond_false] at hT
     repeat (first|refine q1 ?_|refine q3 ?_|refine q4 tab rfl rfl ?_|refine q5 ?_|refine q6 ?_|refine q17 rfl ?_)
     refine TO.step rfl (OT.call rfl rfl rfl rfl rfl rfl goes142 ((peek_law [59] hE hk).x ?_));
     rintro _ _ _ ⟨rfl,rfl,rfl⟩
     repeat (refine q4 tab rfl rfl ?_)
     cases hb3 : Ps.isM [59] E.f k1 with
     | false =>
      repeat (first|refine q3 ?_|refine q4 tab rfl rfl ?_|refine q5 ?_|refine q6 ?_|refine q17 rfl ?_)
      have hT : T = .bad k1:=by
       rw [hT]
       cases Ps.isC1 l
       ·rfl
       ·exact Ps.peek_f' hb3
      refine TO.step rfl (OT.stopP (L0:=L) hT hE hk (by repeat (first|exact Bad.ret|refine Bad.then ?_|refine Bad.block ?_)) hm (by repeat (first|exact List.Sublist.refl _|refine List.Sublist.cons _ ?_)) rfl rfl rfl rfl rfl rfl)
     | true =>
      skip
      (refine TO.step rfl (OT.loadA0 tab hA rfl rfl rfl rfl rfl ?_))
      repeat (refine q4 tab rfl rfl ?_)
      refine TO.split (b:=decide (((s.len : Nat) : Int)=1)) rfl rfl (fun h1 => ?_) (fun h1 => ?_)
      ·have h1' : l.length=1:=by have:=of_decide_eq_true h1;omega
       obtain ⟨t0,rfl⟩:=List.length_eq_one_iff.1 h1'
       skip
       (refine TO.step rfl (OT.loadA0 tab hA rfl rfl rfl rfl rfl ?_))
       skip
       refine TO.step rfl (OT.index tab rTree 0 hs rfl rfl rfl rfl rfl (by first | rfl | omega | (simp only;omega)) rfl (by rfl) ?_)
       rintro bx ix hx' hrx hAx
       have hrx':=rTree_iff.1 hrx
       repeat (refine q4 tab rfl rfl ?_)
       (refine TO.step rfl (OT.loadA tab hAx rfl rfl rfl rfl rfl ?_))
       repeat (first|refine q4 tab rfl rfl ?_|refine q5 ?_|refine q6 ?_)
       rw [hrx'.kind]
       refine TC.condP rfl (fun h2 => ?_) (fun h2 => ?_)
       ·have hT : T = .ok (Tree.mk 24 [] 0 [t0]) k1:=by
         rw [hT,show Ps.isC1 [t0]=true from decide_eq_true h2]
         exact Ps.peek_t' hb3
        repeat (first|refine q1 ?_|refine q3 ?_)
        (refine TO.step rfl (OT.loadA0 tab hA rfl rfl rfl rfl rfl ?_))
        repeat (refine q4 tab rfl rfl ?_)
        refine TO.step rfl (OT.storeL (k:=3) tab 1 rfl rfl rfl rfl rfl rfl rfl rfl ?_)
        repeat (first|refine q1 ?_|refine q3 ?_|refine q5 ?_|refine q6 ?_)
        (refine qs rfl (qz tab 1 rfl rfl rfl rfl rfl rfl ?_))
        skip
        refine TO.step rfl (OT.storeL0 tab 3 rfl rfl rfl rfl rfl rfl rfl rfl ?_)
        repeat (first|refine q5 ?_|refine q6 ?_|refine q8 ?_|refine q9 ?_|refine q15 ?_)
        refine retQ_ret_c1 tab 3 rfl rfl rfl rfl (L':=E.I k1 0 :: L) (by repeat (first|exact List.Sublist.refl _|refine List.Sublist.cons_cons _ ?_|refine List.Sublist.cons _ ?_)) ⟨_,k1,[],hT,hm,hk,⟨⟨24,[],0,s⟩,rfl,rfl,⟨rfl,rfl,rfl,hs⟩⟩,rfl⟩
       ·have hT : T = .bad k1:=by
         rw [hT,show Ps.isC1 [t0]=false from decide_eq_false h2]
         rfl
        repeat (first|refine q3 ?_|refine q4 tab rfl rfl ?_)
        refine TO.step rfl (OT.stopP (L0:=L) hT hE hk (by repeat (first|exact Bad.ret|refine Bad.then ?_|refine Bad.block ?_)) hm (by repeat (first|exact List.Sublist.refl _|refine List.Sublist.cons _ ?_)) rfl rfl rfl rfl rfl rfl)
      ·have hT : T = .bad k1:=by
        rw [hT]
        have h1' : ¬ l.length=1:=by have:=of_decide_eq_false h1;omega
        have : Ps.isC1 l=false:=by
         unfold Ps.isC1
         split
         ·exact absurd rfl h1'
         ·rfl
        rw [this]
        rfl
       repeat (first|refine q3 ?_|refine q4 tab rfl rfl ?_|refine q5 ?_|refine q6 ?_|refine q17 rfl ?_)
       refine TO.step rfl (OT.stopP (L0:=L) hT hE hk (by repeat (first|exact Bad.ret|refine Bad.then ?_|refine Bad.block ?_)) hm (by repeat (first|exact List.Sublist.refl _|refine List.Sublist.cons _ ?_)) rfl rfl rfl rfl rfl rfl)
    | true =>
     repeat (refine q4 tab rfl rfl ?_)
     refine TO.step rfl (OT.call rfl rfl rfl rfl rfl rfl goes192 ((all_law m3 _ s l hs b5 hA _ Ps.isPl isPl_tells).x ?_))
     rintro _ _ _ ⟨rfl,rfl,rfl⟩
     cases ha2 : l.all Ps.isPl with
     | true =>
      rw [hb2,ha2] at hT
      simp only [Bool.and_true,cond_true] at hT
      repeat (first|refine q3 ?_|refine q4 tab rfl rfl ?_|refine q5 ?_|refine q6 ?_|refine q16 rfl ?_)
      refine TO.step rfl (OT.storeL0 tab 1 rfl rfl rfl rfl rfl rfl rfl rfl ?_)
      repeat (first|refine q5 ?_|refine q6 ?_|refine q7 ?_)
      exact ⟨23,(by repeat (exact trivial)),(by repeat (first|exact trivial|refine And.intro rfl ?_)),rfl,rfl,(by repeat (exact List.Sublist.refl _)),PE.isM_lt hb2,hT⟩
     | false =>
      rw [ha2,Bool.and_false] at hT
      simp only [cond_false] at hT
      repeat (first|refine q1 ?_|refine q3 ?_|refine q4 tab rfl rfl ?_|refine q5 ?_|refine q6 ?_|refine q17 rfl ?_)
      refine TO.step rfl (OT.call rfl rfl rfl rfl rfl rfl goes142 ((peek_law [59] hE hk).x ?_));
      rintro _ _ _ ⟨rfl,rfl,rfl⟩
      repeat (refine q4 tab rfl rfl ?_)
      cases hb3 : Ps.isM [59] E.f k1 with
      | false =>
       repeat (first|refine q3 ?_|refine q4 tab rfl rfl ?_|refine q5 ?_|refine q6 ?_|refine q17 rfl ?_)
       have hT : T = .bad k1:=by
        rw [hT]
        cases Ps.isC1 l
        ·rfl
        ·exact Ps.peek_f' hb3
       refine TO.step rfl (OT.stopP (L0:=L) hT hE hk (by repeat (first|exact Bad.ret|refine Bad.then ?_|refine Bad.block ?_)) hm (by repeat (first|exact List.Sublist.refl _|refine List.Sublist.cons _ ?_)) rfl rfl rfl rfl rfl rfl)
      | true =>
       skip
       (refine TO.step rfl (OT.loadA0 tab hA rfl rfl rfl rfl rfl ?_))
       repeat (refine q4 tab rfl rfl ?_)
       refine TO.split (b:=decide (((s.len : Nat) : Int)=1)) rfl rfl (fun h1 => ?_) (fun h1 => ?_)
       ·have h1' : l.length=1:=by have:=of_decide_eq_true h1;omega
        obtain ⟨t0,rfl⟩:=List.length_eq_one_iff.1 h1'
        skip
        (refine TO.step rfl (OT.loadA0 tab hA rfl rfl rfl rfl rfl ?_))
        skip
        refine TO.step rfl (OT.index tab rTree 0 hs rfl rfl rfl rfl rfl (by first | rfl | omega | (simp only;omega)) rfl (by rfl) ?_)
        rintro bx ix hx' hrx hAx
        have hrx':=rTree_iff.1 hrx
        repeat (refine q4 tab rfl rfl ?_)
        (refine TO.step rfl (OT.loadA tab hAx rfl rfl rfl rfl rfl ?_))
        repeat (first|refine q4 tab rfl rfl ?_|refine q5 ?_|refine q6 ?_)
        rw [hrx'.kind]
        refine TC.condP rfl (fun h2 => ?_) (fun h2 => ?_)
        ·have hT : T = .ok (Tree.mk 24 [] 0 [t0]) k1:=by
          rw [hT,show Ps.isC1 [t0]=true from decide_eq_true h2]
          exact Ps.peek_t' hb3
         repeat (first|refine q1 ?_|refine q3 ?_)
         (refine TO.step rfl (OT.loadA0 tab hA rfl rfl rfl rfl rfl ?_))
         repeat (refine q4 tab rfl rfl ?_)
         refine TO.step rfl (OT.storeL (k:=3) tab 1 rfl rfl rfl rfl rfl rfl rfl rfl ?_)
         repeat (first|refine q1 ?_|refine q3 ?_|refine q5 ?_|refine q6 ?_)
         (refine qs rfl (qz tab 1 rfl rfl rfl rfl rfl rfl ?_))
         skip
         refine TO.step rfl (OT.storeL0 tab 3 rfl rfl rfl rfl rfl rfl rfl rfl ?_)
         repeat (first|refine q5 ?_|refine q6 ?_|refine q8 ?_|refine q9 ?_|refine q15 ?_)
         refine retQ_ret_c1 tab 3 rfl rfl rfl rfl (L':=E.I k1 0 :: L) (by repeat (first|exact List.Sublist.refl _|refine List.Sublist.cons_cons _ ?_|refine List.Sublist.cons _ ?_)) ⟨_,k1,[],hT,hm,hk,⟨⟨24,[],0,s⟩,rfl,rfl,⟨rfl,rfl,rfl,hs⟩⟩,rfl⟩
        ·have hT : T = .bad k1:=by
          rw [hT,show Ps.isC1 [t0]=false from decide_eq_false h2]
          rfl
         repeat (first|refine q3 ?_|refine q4 tab rfl rfl ?_)
         refine TO.step rfl (OT.stopP (L0:=L) hT hE hk (by repeat (first|exact Bad.ret|refine Bad.then ?_|refine Bad.block ?_)) hm (by repeat (first|exact List.Sublist.refl _|refine List.Sublist.cons _ ?_)) rfl rfl rfl rfl rfl rfl)
       ·have hT : T = .bad k1:=by
         rw [hT]
         have h1' : ¬ l.length=1:=by have:=of_decide_eq_false h1;omega
         have : Ps.isC1 l=false:=by
          unfold Ps.isC1
          split
          ·exact absurd rfl h1'
          ·rfl
         rw [this]
         rfl
        repeat (first|refine q3 ?_|refine q4 tab rfl rfl ?_|refine q5 ?_|refine q6 ?_|refine q17 rfl ?_)
        refine TO.step rfl (OT.stopP (L0:=L) hT hE hk (by repeat (first|exact Bad.ret|refine Bad.then ?_|refine Bad.block ?_)) hm (by repeat (first|exact List.Sublist.refl _|refine List.Sublist.cons _ ?_)) rfl rfl rfl rfl rfl rfl)
 ·rintro kd ⟨hk,hT⟩
  have hfew:=hE.few
  repeat (first|refine q1 ?_|refine q3 ?_|refine q4 tab rfl rfl ?_)
  (refine qs rfl (ql tab 0 rfl rfl rfl rfl rfl rfl ?_))
  refine TO.step rfl (OT.arith (r':=((k1 + 1 : Nat) : Int)) rfl rfl rfl rfl rfl rfl rfl (by omega) ?_)
  repeat (refine q4 tab rfl rfl ?_)
  refine TO.step rfl (OT.storeL (k:=2) tab 0 rfl rfl rfl rfl rfl rfl rfl rfl ?_)
  repeat (first|refine q1 ?_|refine q3 ?_|refine q5 ?_|refine q6 ?_)
  (refine TO.step rfl (OT.loadA0 tab hA rfl rfl rfl rfl rfl ?_))
  repeat (refine q4 tab rfl rfl ?_)
  refine TO.step rfl (OT.storeL (k:=2) tab 1 rfl rfl rfl rfl rfl rfl rfl rfl ?_)
  repeat (first|refine q1 ?_|refine q5 ?_|refine q6 ?_)
  refine TC.draw [7] mixed 8 rfl [.cells b7 0 [.int .i64 kd,strV [], .int .i64 (s.len : Int), .slice none 0 0]] (E.I (k1 + 1) 0 :: tok s 4 :: .cells b2 0 [.int .i64 0,strV [], .int .i64 0, .slice none 0 0] :: L) (List.Perm.swap _ _ _) ?_
  (refine DO.loadA (k:=0) tab 0 hA (by repeat (first|exact Calm.ret|refine Calm.then ?_)) (by kernel_rfl) (by kernel_rfl) rfl rfl rfl rfl rfl rfl rfl ?_)
  refine DO.pure tab (by repeat (first|exact Calm.ret|refine Calm.then ?_)) (by kernel_rfl) [1,2,3] (by kernel_rfl) rfl ?_
  refine DO.run 4 rfl rfl (by kernel_rfl) rfl ?_
  refine OT.perm (List.Perm.swap _ _ _) (OT.parL (L0:=L) (list1_par (first:=[E.v]) (cap:=[]) rfl goes191 hY) hm hT hn hE hk (by repeat (first|exact Bad.ret|refine Bad.then ?_)) hm (by repeat (first|exact List.Sublist.refl _|refine List.Sublist.cons _ ?_)) rfl rfl rfl rfl rfl rfl goes146 (fun x mA l2 k2 hT hm hE hleA hk hrx hox hlx => ?_));refine ⟨hleA,E.I k2 0 :: tok s 4 :: .cells b2 0 [.int .i64 0,strV [], .int .i64 0, .slice none 0 0] :: tok x 4 :: L,perm_simple, ?_⟩
  refine DO.run 5 rfl rfl (by kernel_rfl) rfl ?_
  refine OT.append tab rTree 2 (hs.mono hleA) ho hrx rfl rfl rfl rfl rfl rfl rfl (by simp only [rTree,mkR];omega) (fun s3 mC hleC hs3 ho3 => ?_);refine ⟨hleC,E.I k2 0 :: tok s3 4 :: .cells b2 0 [.int .i64 0,strV [], .int .i64 0, .slice none 0 0] :: tok x 4 :: L,List.Perm.refl _, ?_⟩
  refine DO.pure tab (by repeat (first|exact Calm.ret|refine Calm.then ?_)) (by kernel_rfl) [6] (by kernel_rfl) rfl ?_
  refine DO.tail ?_
  refine DOt.run 7 rfl rfl (by kernel_rfl) rfl ?_
  refine OT.storeL (k:=3) tab 0 rfl rfl rfl rfl rfl rfl rfl rfl ?_;refine DOt.perm (List.Perm.swap _ _ _) ?_
  refine DOt.nil (by kernel_rfl) ?_
  rotate_left 1
  repeat (first|refine q1 ?_|refine q3 ?_|refine q6 ?_)
  (refine qs rfl (qz tab 1 rfl rfl rfl rfl rfl rfl ?_))
  skip
  refine TO.step rfl (OT.storeL0 tab 3 rfl rfl rfl rfl rfl rfl rfl rfl ?_)
  repeat (first|refine q5 ?_|refine q6 ?_|refine q15 ?_)
  refine retQ_ret_c1 tab 3 rfl rfl rfl rfl (L':=E.I k2 0 :: L) (by repeat (first|exact List.Sublist.refl _|refine List.Sublist.cons_cons _ ?_|refine List.Sublist.cons _ ?_)) ⟨_,k2,[],hT,Mem.le_trans hm hleC,hk,⟨⟨kd,[],(s.len : Int),s3⟩,rfl,rfl,⟨rfl,rfl,by show (s.len : Int)=_;rw [hlen];rfl,hs3⟩⟩,rfl⟩
end
end Go.Sep


/- PsW10 -/
set_option linter.unusedVariables false
set_option linter.unusedSimpArgs false
namespace Go.Ps
theorem oneOf_some {α : Type} {ops : List Sep.Str} {A : Sep.Str→Pp α} {B : Pp α} {f : F} {k : Nat} {s : Sep.Str} (h : ops.find? (fun s=>isM s f k)=some s) : oneOf ops A B f k=A s f (k + 1):=by unfold oneOf;rw [h]
theorem oneOf_none {α : Type} {ops : List Sep.Str} {A : Sep.Str→Pp α} {B : Pp α} {f : F} {k : Nat} (h : ops.find? (fun s=>isM s f k)=none) : oneOf ops A B f k=B f k:=by unfold oneOf;rw [h]
theorem find_at {p : Sep.Str→Bool} {l : List Sep.Str} {i : Nat} (hi : i < l.length) (h1 : (l.take i).all (fun s => !p s)=true) (h2 : p l[i]=true) : l.find? p=some l[i]:=by
 have e : l=l.take i++l[i] :: l.drop (i + 1):=by rw [List.getElem_cons_drop,List.take_append_drop]
 rw [List.find?_eq_some_iff_append]
 exact ⟨h2,l.take i,l.drop (i + 1),e,fun a ha=>by simpa using List.all_eq_true.1 h1 a ha⟩
theorem find_no {p : Sep.Str→Bool} {l : List Sep.Str} (h1 : l.all (fun s => !p s)=true) : l.find? p=none:=by
 rw [List.find?_eq_none]
 intro a ha
 simpa using List.all_eq_true.1 h1 a ha
end Go.Ps
namespace Go.Sep
open Go.Proofs
attribute [local irreducible] TC TO OT TCallX TCall DO DOt thenQ blockQ retQ At
section
variable {mb : Mem} {E : PE} {h : Int}
set_option maxHeartbeats 1000000 in
theorem levels_law (m : Mem) (L : List Item) : TCall Tryz.prog 180 ⟨[]⟩ m L (Made m L fun r m' => ∃ s : Sl,r=s.v∧SlRep (rSl rStr) m' s Ps.levels):=by
 unfold TCall
 refine TCallX.enter Tryz.func180 rfl 7 rfl ?_
 repeat (first|refine q1 ?_|refine q3 ?_|refine q4 tab rfl rfl ?_|refine q5 ?_|refine q6 ?_)
 refine TO.step rfl (OT.litR tab rStr (hs:=[[124,124]]) (l:=[[124,124]]) ⟨rfl,trivial⟩ rfl rfl rfl rfl rfl (by decide) (fun s1 m1 h1 hs1 _ _ => ?_))
 refine TO.step rfl (OT.litR tab rStr (hs:=[[38,38]]) (l:=[[38,38]]) ⟨rfl,trivial⟩ rfl rfl rfl rfl rfl (by decide) (fun s2 m2 h2 hs2 _ _ => ?_))
 refine TO.step rfl (OT.litR tab rStr (hs:=[[61,61],[33,61],[60],[60,61],[62],[62,61]]) (l:=[[61,61],[33,61],[60],[60,61],[62],[62,61]]) ⟨rfl,rfl,rfl,rfl,rfl,rfl,trivial⟩ rfl rfl rfl rfl rfl (by decide) (fun s3 m3 h3 hs3 _ _ => ?_))
 refine TO.step rfl (OT.litR tab rStr (hs:=[[43],[45]]) (l:=[[43],[45]]) ⟨rfl,rfl,trivial⟩ rfl rfl rfl rfl rfl (by decide) (fun s4 m4 h4 hs4 _ _ => ?_))
 refine TO.step rfl (OT.litR tab rStr (hs:=[[42],[47],[37]]) (l:=[[42],[47],[37]]) ⟨rfl,rfl,rfl,trivial⟩ rfl rfl rfl rfl rfl (by decide) (fun s5 m5 h5 hs5 _ _ => ?_))
 have k45:=h5
 have k35:=Mem.le_trans h4 k45
 have k25:=Mem.le_trans h3 k35
 have k15:=Mem.le_trans h2 k25
 refine TO.step rfl (OT.litR tab (rSl rStr) (hs:=[s1,s2,s3,s4,s5]) (l:=Ps.levels) ⟨hs1.mono k15,hs2.mono k25,hs3.mono k35,hs4.mono k45,hs5,trivial⟩ rfl rfl rfl rfl rfl (by decide) (fun s m6 h6 hs _ _ => ?_))
 repeat (first|refine q4 tab rfl rfl ?_|refine q5 ?_|refine q6 ?_|refine q15 ?_)
 refine retQ_ret rfl (by repeat (exact List.Sublist.refl _)) ⟨Mem.le_trans h1 (Mem.le_trans k15 h6),rfl,s,rfl,hs⟩
theorem levels_ne {ops : List Str} (ho : ops ∈ Ps.levels) {s : Str} (hs : s ∈ ops) : s ≠ []:=by
 have : ∀ ops ∈ Ps.levels, ∀ s ∈ ops,s ≠ []:=by decide
 exact this ops ho s hs
set_option maxHeartbeats 2000000 in
theorem binary_par {U : Ps.Pp Tree} (hU : Par Tryz.prog mb E vTree 203 [E.v] h U) :
  ∀ d j : Nat,j + d=5→Par Tryz.prog mb E vTree 200 [E.v, .int .i64 (j : Int)] h (Ps.binL E.N U (Ps.levels.drop j)):=by
 intro d
 induction d with
 | zero =>
  intro j hj
  refine Par.enter Tryz.func200 rfl 46 rfl fun m L k T hm0 hE hk hT hn => ?_
  replace hU:=hU.up hm0
  obtain rfl : j=5:=by omega
  have hm : m ≤ m:=Mem.le_refl _
  replace hT : T=Ps.bind U Ps.ret E.f k:=by rw [Ps.bind_ret];exact hT
  repeat (first|refine q1 ?_|refine q3 ?_)
  refine TO.step rfl (OT.alloc tab rfl rfl rfl rfl (fun b4 => ?_));refine TO.perm (List.Perm.swap _ _ _) ?_
  repeat (first|refine q1 ?_|refine q3 ?_|refine q5 ?_|refine q6 ?_)
  refine TO.step rfl (OT.call rfl rfl rfl rfl rfl rfl goes180 ((levels_law _ _).x ?_));
  rintro _ m1 _ ⟨hm1,rfl,s,rfl,hs⟩
  have hlen:=hs.len
  replace hm:=hm1
  replace hE:=hE.mono hm1
  repeat (first|refine q1 ?_|refine q3 ?_|refine q4 tab rfl rfl ?_|refine q5 ?_|refine q6 ?_)
  refine TC.condP rfl (fun hc => ?_) (fun hc => ?_)
  ·repeat (first|refine q1 ?_|refine q3 ?_|refine q4 tab rfl rfl ?_)
   refine TO.step rfl (OT.parT (L0:=L) (hU) hm hT hn hE hk (by repeat (first|exact Bad.ret|refine Bad.then ?_)) hm (by repeat (first|exact List.Sublist.refl _|refine List.Sublist.cons _ ?_)) rfl rfl rfl rfl rfl rfl goes203 (fun x m2 a k2 hT hm hE hlex hk hrx => ?_))
   skip
   (refine TO.step rfl (OT.storeL0 tab 1 rfl rfl rfl rfl rfl rfl rfl rfl ?_))
   repeat (first|refine q5 ?_|refine q6 ?_|refine q8 ?_|refine q15 ?_)
   refine retQ_ret_c1 tab 1 rfl rfl rfl rfl (L':=E.I k2 h :: L) (by repeat (first|exact List.Sublist.refl _|refine List.Sublist.cons_cons _ ?_|refine List.Sublist.cons _ ?_)) ⟨_,k2,[],hT,hm,hk,⟨x,rfl,rfl,hrx⟩,rfl⟩
  ·exact absurd (by rw [hlen];rfl) hc
 | succ d ih =>
  intro j hj
  have ihj:=ih (j + 1) (by omega)
  have hjl : j < Ps.levels.length:=by show j < 5;omega
  have hops : Ps.levels.drop j=Ps.levels[j] :: Ps.levels.drop (j + 1):=List.drop_eq_getElem_cons hjl
  have hne : ∀ s ∈ Ps.levels[j],s ≠ []:=fun s hs=>levels_ne (List.getElem_mem hjl) hs
  have hget : Ps.levels[j]? = some Ps.levels[j]:=List.getElem?_eq_getElem hjl
  generalize Ps.levels[j]=ops at hops hne hget
  generalize hXe : Ps.binL E.N U (Ps.levels.drop (j + 1))=X at ihj
  have hspec : Ps.binL E.N U (Ps.levels.drop j)=Ps.bind X (Ps.loopB E.N ops X):=by rw [hops,← hXe];rfl
  rw [hspec]
  clear hspec hXe hops
  refine Par.enter Tryz.func200 rfl 46 rfl fun m L k T hm0 hE hk hT hn => ?_
  replace ihj:=ihj.up hm0
  have hm : m ≤ m:=Mem.le_refl _
  repeat (first|refine q1 ?_|refine q3 ?_)
  refine TO.step rfl (OT.alloc tab rfl rfl rfl rfl (fun b4 => ?_));refine TO.perm (List.Perm.swap _ _ _) ?_
  repeat (first|refine q1 ?_|refine q3 ?_|refine q5 ?_|refine q6 ?_)
  refine TO.step rfl (OT.call rfl rfl rfl rfl rfl rfl goes180 ((levels_law _ _).x ?_));
  rintro _ m1 _ ⟨hm1,rfl,s,rfl,hs⟩
  have hlen:=hs.len
  replace hm:=hm1
  replace hE:=hE.mono hm1
  repeat (first|refine q1 ?_|refine q3 ?_|refine q4 tab rfl rfl ?_|refine q5 ?_|refine q6 ?_)
  refine TC.condP rfl (fun hc => ?_) (fun hc => ?_)
  ·have : s.len=5:=by rw [hlen];rfl
   omega
  repeat (first|refine q1 ?_|refine q3 ?_|refine q4 tab rfl rfl ?_|refine q6 ?_|refine q13 ?_)
  refine TO.step rfl (OT.arith (r':=((j + 1 : Nat) : Int)) rfl rfl rfl rfl rfl rfl rfl (by omega) ?_)
  refine TO.step rfl (OT.parT (L0:=L) (ihj) hm hT hn hE hk (by repeat (first|exact Bad.ret|refine Bad.then ?_)) hm (by repeat (first|exact List.Sublist.refl _|refine List.Sublist.cons _ ?_)) rfl rfl rfl rfl rfl rfl goes200 (fun x m2 a k2 hT hm hE hlex hk hrx => ?_))
  replace hs:=hs.mono hlex
  have hlex' : m ≤ m2:=hm
  skip
  refine TO.step rfl (OT.alloc tab rfl rfl rfl rfl (fun b6 => ?_));refine TO.perm (List.Perm.swap _ _ _) ?_
  skip
  (refine TO.step rfl (OT.storeL0 tab 1 rfl rfl rfl rfl rfl rfl rfl rfl ?_))
  repeat (first|refine q2 ?_|refine q5 ?_|refine q6 ?_)
  refine TC.loopK (ι:=HTree × Mem × Tree × Nat × Nat) [0,1,4,5,6] rfl (fun _=>[]) (fun x=>x.2.1) (fun x=>E.I x.2.2.2.1 h :: .cells b6 0 (treeC x.1) :: .cells b4 0 [.int .i64 0,strV [], .int .i64 0, .slice none 0 0] :: L) (fun x=>m2 ≤ x.2.1∧x.2.2.2.1 ≤ E.toks.length∧TreeRep x.2.1 x.1 x.2.2.1∧T=Ps.loopB x.2.2.2.2 ops X x.2.2.1 E.f x.2.2.2.1) (fun x=>x.2.2.2.2) (x,m2,a,k2,E.N) (by repeat (exact trivial)) rfl (by repeat (exact List.Sublist.refl _)) ⟨Mem.le_refl _,hk,hrx,hT⟩ ?_
  rintro ⟨x,m3,a,k3,N⟩ ⟨hm3,hk,hrx,hT⟩
  simp only at hm3 hk hrx hT
  replace hm:=Mem.le_trans hm hm3
  replace hE:=hE.mono hm3
  replace hs:=hs.mono hm3
  cases N with
  | zero=>exact absurd hT hn
  | succ N =>
   replace hT : T=Ps.oneOf ops (fun op=>Ps.bind X fun m=>Ps.loopB N ops X (Ps.binT op a m)) (Ps.ret a) E.f k3:=hT
   refine q2 ?_
   refine q1 ?_
   refine q3 ?_
   refine q4 tab rfl rfl ?_
   refine q5 ?_
   refine q6 ?_
   refine TC.cut (ι:=Str × Nat) [0,1,4,5,6] rfl (fun i=>[(7,strV i.1)]) (fun _=>m3) (fun i=>E.I i.2 h :: .cells b6 0 (treeC x) :: .cells b4 0 [.int .i64 0,strV [], .int .i64 0, .slice none 0 0] :: L) (fun i=>(i.1=[]∧i.2=k3∧ops.find? (fun s=>Ps.isM s E.f k3)=none) ∨ (i.1 ≠ []∧i.2=k3 + 1∧k3 + 1 ≤ E.toks.length∧ops.find? (fun s=>Ps.isM s E.f k3)=some i.1)) ?_ ?_
   ·repeat (first|refine q1 ?_|refine q3 ?_|refine q4 tab rfl rfl ?_)
    refine TO.step rfl (OT.index tab (rSl rStr) j hs rfl rfl rfl rfl rfl rfl rfl hget ?_)
    intro bi ii row hrow hAr
    have hrow' : SlRep rStr m3 row ops:=hrow
    have hlr:=hrow'.len
    have hsm:=hrow'.small rfl
    skip
    (refine TO.step rfl (OT.loadA0 tab hAr rfl rfl rfl rfl rfl ?_))
    repeat (first|refine q2 ?_|refine q4 tab rfl rfl ?_|refine q5 ?_|refine q6 ?_)
    refine TC.loopK (ι:=Nat) [0,1,4,5,6,7,24,25] rfl (fun i=>[(26, .int .i64 (i : Int))]) (fun _=>m3) (fun i=>E.I k3 h :: .cells b6 0 (treeC x) :: .cells b4 0 [.int .i64 0,strV [], .int .i64 0, .slice none 0 0] :: L) (fun i=>i ≤ ops.length∧(ops.take i).all (fun s => !Ps.isM s E.f k3)=true) (fun i=>ops.length - i) 0 (by repeat (first|exact trivial|refine And.intro rfl ?_)) rfl (by repeat (exact List.Sublist.refl _)) ⟨Nat.zero_le _,by simp⟩ ?_
    rintro i ⟨hi,hI⟩
    repeat (first|refine q1 ?_|refine q3 ?_|refine q4 tab rfl rfl ?_|refine q5 ?_|refine q6 ?_)
    refine TC.condP rfl (fun hc2 => ?_) (fun hc2 => ?_)
    ·have hlt : i < ops.length:=by omega
     have hx : ops[i]? = some ops[i]:=List.getElem?_eq_getElem hlt
     repeat (first|refine q1 ?_|refine q2 ?_|refine q3 ?_|refine q6 ?_|refine q13 ?_)
     refine TO.step rfl (OT.index tab rStr i hrow' rfl rfl rfl rfl rfl (by first | rfl | omega | (simp only;omega)) rfl hx ?_)
     rintro bs is' sv hsv hAs
     obtain rfl:=(show sv=ops[i] from hsv)
     skip
     (refine TO.step rfl (OT.loadA0 tab hAs rfl rfl rfl rfl rfl ?_))
     repeat (first|refine q1 ?_|refine q3 ?_|refine q4 tab rfl rfl ?_|refine q5 ?_|refine q6 ?_)
     refine TO.step rfl (OT.call rfl rfl rfl rfl rfl rfl goes110 ((take_law ops[i] hE hk).x ?_));
     rintro _ _ _ ⟨rfl,rfl,rfl⟩
     unfold PE.step
     cases hb : Ps.isM ops[i] E.f k3 with
     | true =>
      repeat (first|refine q1 ?_|refine q3 ?_|refine q4 tab rfl rfl ?_|refine q5 ?_|refine q6 ?_|refine q10 ?_|refine q11 ?_|refine q12 rfl ?_|refine q14 ?_|refine q16 rfl ?_)
      exact ⟨(ops[i],k3 + 1),(by repeat (first|exact trivial|refine And.intro rfl ?_)),(by repeat (first|exact trivial|refine And.intro rfl ?_)),rfl,rfl,(by repeat (exact List.Sublist.refl _)), .inr ⟨hne _ (List.getElem_mem hlt),rfl,PE.isM_lt hb,Ps.find_at hlt hI hb⟩⟩
     | false =>
      repeat (first|refine q3 ?_|refine q5 ?_|refine q6 ?_|refine q7 ?_|refine q13 ?_|refine q17 rfl ?_)
      refine TO.step rfl (OT.arith (r':=((i + 1 : Nat) : Int)) rfl rfl rfl rfl rfl rfl rfl (by omega) ?_)
      repeat (first|refine q4 tab rfl rfl ?_|refine q5 ?_|refine q6 ?_)
      exact ⟨i + 1,(by repeat (first|exact trivial|refine And.intro rfl ?_)),(by repeat (first|exact trivial|refine And.intro rfl ?_)),rfl,rfl,(by repeat (exact List.Sublist.refl _)),⟨hlt,by rw [List.take_succ_eq_append_getElem hlt,List.all_append,hI];simp [hb]⟩,by omega⟩
    ·rw [List.take_of_length_le (by omega)] at hI
     repeat (first|refine q6 ?_|refine q10 ?_|refine q11 ?_|refine q14 ?_)
     exact ⟨([],k3),(by repeat (first|exact trivial|refine And.intro rfl ?_)),(by repeat (first|exact trivial|refine And.intro rfl ?_)),rfl,rfl,(by repeat (exact List.Sublist.refl _)), .inl ⟨rfl,rfl,Ps.find_no hI⟩⟩
   ·rintro ⟨found,k4⟩ hI
    simp only at hI
    repeat (first|refine q1 ?_|refine q3 ?_|refine q4 tab rfl rfl ?_|refine q5 ?_|refine q6 ?_)
    refine TC.condP rfl (fun hf => ?_) (fun hf => ?_)
    ·rcases hI with ⟨rfl,rfl,hI⟩ | ⟨h1,_⟩
     ·rw [Ps.oneOf_none hI] at hT
      repeat (first|refine q1 ?_|refine q3 ?_)
      (refine qs rfl (qz tab 1 rfl rfl rfl rfl rfl rfl ?_))
      skip
      refine TO.step rfl (OT.storeL0 tab 2 rfl rfl rfl rfl rfl rfl rfl rfl ?_)
      repeat (first|refine q5 ?_|refine q6 ?_|refine q8 ?_|refine q9 ?_|refine q15 ?_)
      refine retQ_ret_c1 tab 2 rfl rfl rfl rfl (L':=E.I k4 h :: L) (by repeat (first|exact List.Sublist.refl _|refine List.Sublist.cons_cons _ ?_|refine List.Sublist.cons _ ?_)) ⟨_,k4,[],hT,hm,hk,⟨x,rfl,rfl,hrx⟩,rfl⟩
     ·exact absurd hf h1
    ·rcases hI with ⟨h1,_⟩ | ⟨_,rfl,hk,hI⟩
     ·exact absurd h1 hf
     rw [Ps.oneOf_some hI] at hT
     repeat (first|refine q6 ?_|refine q13 ?_)
     refine TC.draw [8] mixed 9 rfl [.cells b6 0 (treeC x)] (E.I (k3 + 1) h :: .cells b4 0 [.int .i64 0,strV [], .int .i64 0, .slice none 0 0] :: L) (List.Perm.swap _ _ _) ?_
     refine DO.pure tab (by repeat (first|exact Calm.ret|refine Calm.then ?_|refine Calm.block ?_)) (by kernel_rfl) [0] (by kernel_rfl) rfl ?_
     (refine DO.loadL (k:=0) tab 1 0 (by repeat (first|exact Calm.ret|refine Calm.then ?_|refine Calm.block ?_)) (by kernel_rfl) (by kernel_rfl) rfl rfl rfl rfl rfl rfl rfl rfl ?_)
     refine DO.pure tab (by repeat (first|exact Calm.ret|refine Calm.then ?_|refine Calm.block ?_)) (by kernel_rfl) [2,3] (by kernel_rfl) rfl ?_
     refine DO.arith 4 (r':=((j + 1 : Nat) : Int)) (by repeat (first|exact Calm.ret|refine Calm.then ?_|refine Calm.block ?_)) (by kernel_rfl) (by kernel_rfl) rfl rfl rfl rfl rfl rfl rfl rfl (by first | rfl | omega | (simp only;omega)) (by omega) ?_
     refine DO.run 5 rfl rfl (by kernel_rfl) rfl ?_
     refine OT.perm (List.Perm.swap _ _ _) (OT.parT (L0:=L) ihj (Mem.le_trans hlex' hm3) hT hn hE hk (by repeat (first|exact Bad.ret|refine Bad.then ?_|refine Bad.block ?_)) hm (by repeat (first|exact List.Sublist.refl _|refine List.Sublist.cons _ ?_)) rfl rfl rfl rfl rfl rfl goes200 (fun y m5 b k5 hT hm hE hle5 hk hry => ?_));refine ⟨hle5,E.I k5 h :: .cells b4 0 [.int .i64 0,strV [], .int .i64 0, .slice none 0 0] :: L,List.Perm.swap _ _ _, ?_⟩
     refine DO.run 6 rfl rfl (by kernel_rfl) rfl ?_
     refine OT.litR tab rTree (hs:=[x,y]) (l:=[a,b]) ⟨rTree_iff.2 (hrx.mono hle5),rTree_iff.2 hry,trivial⟩ rfl rfl rfl rfl rfl (by decide) (fun s9 m6 hle6 hs9 ho9 hc9 => ?_);refine ⟨hle6,_,List.Perm.refl _, ?_⟩
     refine DO.pure tab (by repeat (first|exact Calm.ret|refine Calm.then ?_|refine Calm.block ?_)) (by kernel_rfl) [7] (by kernel_rfl) rfl ?_
     refine DO.tail ?_
     refine DOt.run 8 rfl rfl (by kernel_rfl) rfl ?_
     refine OT.storeL0 tab 0 rfl rfl rfl rfl rfl rfl rfl rfl ?_;refine DOt.perm (List.Perm.swap _ _ _) ?_
     refine DOt.nil (by kernel_rfl) ?_
     rotate_left 1
     repeat (first|refine q6 ?_|refine q7 ?_)
     exact ⟨(⟨53,found,0,s9⟩,m6,Ps.binT found a b,k5,N),(by repeat (exact trivial)),(by repeat (first|exact trivial|refine And.intro rfl ?_)),rfl,rfl,(by repeat (exact List.Sublist.refl _)),⟨Mem.le_trans hm3 (Mem.le_trans hle5 hle6),hk,⟨rfl,rfl,rfl,hs9⟩,hT⟩,by simp only;omega⟩
theorem expr_par {U : Ps.Pp Tree} (hU : Par Tryz.prog mb E vTree 203 [E.v] h U) :
  Par Tryz.prog mb E vTree 191 [E.v] h (Ps.binL E.N U Ps.levels):=by
 refine Par.enter Tryz.func191 rfl 5 rfl fun m L k T hm0 hE hk hT hn => ?_
 have hB:=(binary_par hU 5 0 rfl).up hm0
 have hm : m ≤ m:=Mem.le_refl _
 replace hT : T=Ps.bind (Ps.binL E.N U Ps.levels) Ps.ret E.f k:=by rw [Ps.bind_ret];exact hT
 repeat (first|refine q1 ?_|refine q3 ?_)
 refine TO.step rfl (OT.alloc tab rfl rfl rfl rfl (fun b2 => ?_));refine TO.perm (List.Perm.swap _ _ _) ?_
 repeat (first|refine q1 ?_|refine q3 ?_|refine q4 tab rfl rfl ?_|refine q5 ?_|refine q6 ?_)
 refine TO.step rfl (OT.parT (L0:=L) (hB) hm hT hn hE hk (by repeat (first|exact Bad.ret|refine Bad.then ?_)) hm (by repeat (first|exact List.Sublist.refl _|refine List.Sublist.cons _ ?_)) rfl rfl rfl rfl rfl rfl goes200 (fun x m2 a k2 hT hm hE hlex hk hrx => ?_))
 skip
 (refine TO.step rfl (OT.storeL0 tab 1 rfl rfl rfl rfl rfl rfl rfl rfl ?_))
 repeat (first|refine q5 ?_|refine q6 ?_|refine q15 ?_)
 refine retQ_ret_c1 tab 1 rfl rfl rfl rfl (L':=E.I k2 h :: L) (by repeat (first|exact List.Sublist.refl _|refine List.Sublist.cons_cons _ ?_|refine List.Sublist.cons _ ?_)) ⟨_,k2,[],hT,hm,hk,⟨x,rfl,rfl,hrx⟩,rfl⟩
set_option maxHeartbeats 1000000 in
theorem unary_par {X Y : Ps.Pp Tree} (hX : Par Tryz.prog mb E vTree 203 [E.v] h X) (hY : Par Tryz.prog mb E vTree 204 [E.v] h Y) :
  Par Tryz.prog mb E vTree 203 [E.v] h (Ps.oneOf [[45],[33],[38],[42]] (fun op=>Ps.bind X fun t=>Ps.ret (.mk 52 op 0 [t])) Y):=by
 refine Par.enter Tryz.func203 rfl 22 rfl fun m L k T hm0 hE hk hT hn => ?_
 replace hX:=hX.up hm0
 replace hY:=hY.up hm0
 have hm : m ≤ m:=Mem.le_refl _
 generalize hops : ([[45],[33],[38],[42]] : List Str)=ops at hT
 repeat (first|refine q1 ?_|refine q3 ?_)
 refine TO.step rfl (OT.alloc tab rfl rfl rfl rfl (fun b2 => ?_));refine TO.perm (List.Perm.swap _ _ _) ?_
 repeat (first|refine q1 ?_|refine q3 ?_|refine q5 ?_|refine q6 ?_)
 refine TO.step rfl (OT.litR tab rStr (hs:=[[45],[33],[38],[42]]) (l:=ops) (by rw [← hops];exact ⟨rfl,rfl,rfl,rfl,trivial⟩) rfl rfl rfl rfl (by rw [← hops];rfl) (by decide) (fun s m1 hm1 hs _ _ => ?_))
 have hlen:=hs.len
 have hsm:=hs.small rfl
 replace hm:=hm1
 replace hE:=hE.mono hm1
 repeat (first|refine q2 ?_|refine q4 tab rfl rfl ?_|refine q5 ?_|refine q6 ?_)
 refine TC.loopK (ι:=Nat) [0,2,5,6] rfl (fun i=>[(7, .int .i64 (i : Int))]) (fun _=>m1) (fun i=>E.I k h :: .cells b2 0 [.int .i64 0,strV [], .int .i64 0, .slice none 0 0] :: L) (fun i=>i ≤ ops.length∧(ops.take i).all (fun s => !Ps.isM s E.f k)=true) (fun i=>ops.length - i) 0 (by repeat (first|exact trivial|refine And.intro rfl ?_)) rfl (by repeat (exact List.Sublist.refl _)) ⟨Nat.zero_le _,by simp⟩ ?_
 rintro i ⟨hi,hI⟩
 repeat (first|refine q1 ?_|refine q3 ?_|refine q4 tab rfl rfl ?_|refine q5 ?_|refine q6 ?_)
 refine TC.condP rfl (fun hc2 => ?_) (fun hc2 => ?_)
 ·have hlt : i < ops.length:=by omega
  have hx : ops[i]? = some ops[i]:=List.getElem?_eq_getElem hlt
  repeat (first|refine q1 ?_|refine q2 ?_|refine q3 ?_|refine q6 ?_|refine q13 ?_)
  refine TO.step rfl (OT.index tab rStr i hs rfl rfl rfl rfl rfl (by first | rfl | omega | (simp only;omega)) rfl hx ?_)
  rintro bs is' sv hsv hAs
  obtain rfl:=(show sv=ops[i] from hsv)
  skip
  (refine TO.step rfl (OT.loadA0 tab hAs rfl rfl rfl rfl rfl ?_))
  repeat (first|refine q1 ?_|refine q3 ?_|refine q4 tab rfl rfl ?_|refine q5 ?_|refine q6 ?_)
  refine TO.step rfl (OT.call rfl rfl rfl rfl rfl rfl goes110 ((take_law ops[i] hE hk).x ?_));
  rintro _ _ _ ⟨rfl,rfl,rfl⟩
  unfold PE.step
  cases hb : Ps.isM ops[i] E.f k with
  | true =>
   replace hk:=PE.isM_lt hb
   rw [Ps.oneOf_some (Ps.find_at hlt hI hb)] at hT
   repeat (first|refine q1 ?_|refine q3 ?_|refine q4 tab rfl rfl ?_|refine q5 ?_|refine q6 ?_|refine q16 rfl ?_)
   refine TO.step rfl (OT.parT (L0:=L) (hX) hm hT hn hE hk (by repeat (first|exact Bad.ret|refine Bad.then ?_|refine Bad.block ?_)) hm (by repeat (first|exact List.Sublist.refl _|refine List.Sublist.cons _ ?_)) rfl rfl rfl rfl rfl rfl goes203 (fun x m2 a k2 hT hm hE hlex hk hrx => ?_))
   skip
   refine TO.step rfl (OT.litR tab rTree (hs:=[x]) (l:=[a]) ⟨rTree_iff.2 hrx,trivial⟩ rfl rfl rfl rfl rfl (by decide) (fun s m3 hle3 hs ho hc => ?_))
   repeat (refine q4 tab rfl rfl ?_)
   (refine TO.step rfl (OT.storeL0 tab 1 rfl rfl rfl rfl rfl rfl rfl rfl ?_))
   repeat (first|refine q5 ?_|refine q6 ?_|refine q8 ?_|refine q9 ?_|refine q15 ?_)
   refine retQ_ret_c1 tab 1 rfl rfl rfl rfl (L':=E.I k2 h :: L) (by repeat (first|exact List.Sublist.refl _|refine List.Sublist.cons_cons _ ?_|refine List.Sublist.cons _ ?_)) ⟨_,k2,[],hT,Mem.le_trans hm hle3,hk,⟨⟨52,ops[i],0,s⟩,rfl,rfl,⟨rfl,rfl,rfl,hs⟩⟩,rfl⟩
  | false =>
   repeat (first|refine q3 ?_|refine q5 ?_|refine q6 ?_|refine q7 ?_|refine q13 ?_|refine q17 rfl ?_)
   refine TO.step rfl (OT.arith (r':=((i + 1 : Nat) : Int)) rfl rfl rfl rfl rfl rfl rfl (by omega) ?_)
   repeat (first|refine q4 tab rfl rfl ?_|refine q5 ?_|refine q6 ?_)
   exact ⟨i + 1,(by repeat (first|exact trivial|refine And.intro rfl ?_)),(by repeat (first|exact trivial|refine And.intro rfl ?_)),rfl,rfl,(by repeat (exact List.Sublist.refl _)),⟨hlt,by rw [List.take_succ_eq_append_getElem hlt,List.all_append,hI];simp [hb]⟩,by omega⟩
 ·rw [List.take_of_length_le (by omega)] at hI
  rw [Ps.oneOf_none (Ps.find_no hI),← Ps.bind_ret Y] at hT
  repeat (first|refine q1 ?_|refine q3 ?_|refine q4 tab rfl rfl ?_|refine q6 ?_|refine q10 ?_|refine q11 ?_|refine q14 ?_)
  refine TO.step rfl (OT.parT (L0:=L) (hY) hm hT hn hE hk (by repeat (first|exact Bad.ret|refine Bad.then ?_)) hm (by repeat (first|exact List.Sublist.refl _|refine List.Sublist.cons _ ?_)) rfl rfl rfl rfl rfl rfl goes204 (fun x m2 a k2 hT hm hE hlex hk hrx => ?_))
  skip
  (refine TO.step rfl (OT.storeL0 tab 1 rfl rfl rfl rfl rfl rfl rfl rfl ?_))
  repeat (first|refine q5 ?_|refine q6 ?_|refine q15 ?_)
  refine retQ_ret_c1 tab 1 rfl rfl rfl rfl (L':=E.I k2 h :: L) (by repeat (first|exact List.Sublist.refl _|refine List.Sublist.cons_cons _ ?_|refine List.Sublist.cons _ ?_)) ⟨_,k2,[],hT,hm,hk,⟨x,rfl,rfl,hrx⟩,rfl⟩
end
end Go.Sep


/- PsSnd2 -/
set_option linter.unusedVariables false
set_option linter.unusedSimpArgs false
namespace Go.Sep
open Go.Proofs
attribute [local irreducible] TC TO OT TCallX TCall DO DOt thenQ blockQ retQ At
theorem kidPred {fn : FuncId} {p : Tree→Bool} {a : Tree} (hg : Goes Tryz.prog fn) (hB : a.wide ≤ 140737488355328) (h : ∀ (b : Tree) (m : Mem) (L : List Item) (h : HTree),TreeRep m h b→b.wide ≤ 140737488355328→TCall Tryz.prog fn ⟨[treeV h]⟩ m L (Ret (.bool (p b)) m L)) : IsPred fn p a.kids :=
 ⟨hg,fun m L x k hk hr=>h k m L x hr (Nat.le_trans ((wide_kid hk)) hB)⟩
theorem pr0 {l : List Tree} : ∀ q ∈ ([] : List (FuncId × (Tree→Bool))),IsPred q.1 q.2 l:=fun _ h=>by cases h
theorem pr1 {l : List Tree} {f : FuncId} {p : Tree→Bool} (h : IsPred f p l) : ∀ q ∈ [(f,p)],IsPred q.1 q.2 l:=fun q hq=>by
 rw [List.mem_singleton.1 hq];exact h
theorem pr2 {l : List Tree} {f f2 : FuncId} {p p2 : Tree→Bool} (h : IsPred f p l) (h2 : IsPred f2 p2 l) : ∀ q ∈ [(f,p),(f2,p2)],IsPred q.1 q.2 l:=fun q hq=>by
 rcases List.mem_cons.1 hq with e | hq
 ·rw [e];exact h
 ·exact pr1 h2 q hq
theorem pr3 {l : List Tree} {f f2 f3 : FuncId} {p p2 p3 : Tree→Bool} (h : IsPred f p l) (h2 : IsPred f2 p2 l) (h3 : IsPred f3 p3 l) : ∀ q ∈ [(f,p),(f2,p2),(f3,p3)],IsPred q.1 q.2 l:=fun q hq=>by
 rcases List.mem_cons.1 hq with e | hq
 ·rw [e];exact h
 ·exact pr2 h2 h3 q hq
theorem po0 {l : List Tree} : ∀ q : FuncId × (Tree→Bool),none=some q→IsPred q.1 q.2 l:=fun _ h=>by cases h
theorem po1 {l : List Tree} {f : FuncId} {p : Tree→Bool} (h : IsPred f p l) : ∀ q : FuncId × (Tree→Bool),some (f,p)=some q→IsPred q.1 q.2 l:=fun q e=>by
 cases e;exact h
set_option maxHeartbeats 4000000 in
theorem expr_teller (g : Sg) (a : Tree) (m : Mem) (L : List Item) (h : HTree) (hr : TreeRep m h a) (hB : a.wide ≤ 140737488355328) (hE : IsPred 152 g.expr a.kids) (hK : IsPred 75 g.block a.kids) :
  TCall Tryz.prog 152 ⟨[treeV h]⟩ m L (Ret (.bool (exprS g a)) m L):=by
 have hT : IsPred 34 Tree.isType a.kids:=kidPred goes34 hB fun b m L h hr hB=>type_law b m L h hr hB
 have hSg : IsPred 35 Tree.isSig a.kids:=kidPred goes35 hB fun b m L h hr hB=>sig_law b m L h hr hB
 have hr':=hr
 obtain ⟨h1,h2,h3,h4⟩:=hr
 have hl:=h4.len
 have hsm:=h4.small rfl
 refine TCall.forget ?_
 unfold exprS TCall
 refine TCallX.enter Tryz.func152 rfl 170 rfl ?_
 by_cases hk40 : a.kind=40
 ·rw [if_pos hk40]
  obtain ⟨k,n,u,s⟩:=h
  obtain rfl : k=40:=h1.trans hk40
  simp only at h2 h3 h4 hl
  subst h2
  subst h3
  repeat (first|refine q1 ?_|refine q3 ?_)
  refine TO.step rfl (OT.box rfl rfl rfl rfl rfl (fun b => ?_))
  repeat (first|(first|refine q1 ?_|refine q2 ?_|refine q3 ?_|refine q4 tab rfl rfl ?_|refine q5 ?_|refine q6 ?_|refine q16 rfl ?_)|(first|refine qs rfl (ql tab 0 rfl rfl rfl rfl rfl rfl ?_)|refine qs rfl (qz tab 0 rfl rfl rfl rfl rfl rfl ?_)))
  refine TO.step rfl (OT.call rfl rfl rfl rfl rfl rfl goes39 ((bare_law _ _ ⟨40,a.name,a.num,s⟩ a hr' (decide (0 ≤ a.num)) false true).x ?_));
  rintro _ _ _ ⟨rfl,rfl,rfl⟩
  repeat (refine q4 tab rfl rfl ?_)
  refine TO.split rfl rfl (fun h7 => ?_) (fun h7 => ?_)
  ·repeat ((refine qs rfl (qz tab 0 rfl rfl rfl rfl rfl rfl ?_)))
   have hm1:=Mem.le_refl m
   refine TO.step rfl (OT.call rfl rfl rfl rfl rfl rfl goes63 ((kids_law m _ ⟨40,a.name,a.num,s⟩ a hr' ⟨none,0,0⟩ [] none (SlRep.nil _ _) pr0 po0).x ?_));
   rintro _ _ _ ⟨rfl,rfl,rfl⟩
   repeat (first|refine q4 tab rfl rfl ?_|refine q5 ?_|refine q6 ?_|refine q8 ?_|refine q9 ?_|refine q15 ?_)
   refine retQ_ret rfl (by repeat (first|exact List.Sublist.refl _|refine List.Sublist.cons _ ?_)) ⟨hm1,rfl, ?_⟩
   rw [h7];rfl
  ·repeat (first|refine q4 tab rfl rfl ?_|refine q5 ?_|refine q6 ?_|refine q8 ?_|refine q9 ?_|refine q15 ?_)
   refine retQ_ret rfl (by repeat (first|exact List.Sublist.refl _|refine List.Sublist.cons _ ?_)) ⟨Mem.le_refl _,rfl, ?_⟩
   rw [h7];rfl
 rw [if_neg hk40]
 by_cases hk41 : a.kind=41
 ·rw [if_pos hk41]
  obtain ⟨k,n,u,s⟩:=h
  obtain rfl : k=41:=h1.trans hk41
  simp only at h2 h3 h4 hl
  subst h2
  subst h3
  repeat (first|refine q1 ?_|refine q3 ?_)
  refine TO.step rfl (OT.box rfl rfl rfl rfl rfl (fun b => ?_))
  repeat (first|(first|refine q1 ?_|refine q2 ?_|refine q3 ?_|refine q4 tab rfl rfl ?_|refine q5 ?_|refine q6 ?_|refine q16 rfl ?_|refine q17 rfl ?_)|(first|refine qs rfl (ql tab 0 rfl rfl rfl rfl rfl rfl ?_)|refine qs rfl (qz tab 0 rfl rfl rfl rfl rfl rfl ?_)))
  refine TO.step rfl (OT.call rfl rfl rfl rfl rfl rfl goes39 ((bare_law _ _ ⟨41,a.name,a.num,s⟩ a hr' (decide ((a.name.length : Int) ≤ 1024)) true false).x ?_));
  rintro _ _ _ ⟨rfl,rfl,rfl⟩
  repeat (refine q4 tab rfl rfl ?_)
  refine TO.split rfl rfl (fun h7 => ?_) (fun h7 => ?_)
  ·repeat ((refine qs rfl (qz tab 0 rfl rfl rfl rfl rfl rfl ?_)))
   have hm1:=Mem.le_refl m
   refine TO.step rfl (OT.call rfl rfl rfl rfl rfl rfl goes63 ((kids_law m _ ⟨41,a.name,a.num,s⟩ a hr' ⟨none,0,0⟩ [] none (SlRep.nil _ _) pr0 po0).x ?_));
   rintro _ _ _ ⟨rfl,rfl,rfl⟩
   repeat (first|refine q4 tab rfl rfl ?_|refine q5 ?_|refine q6 ?_|refine q8 ?_|refine q9 ?_|refine q15 ?_)
   refine retQ_ret rfl (by repeat (first|exact List.Sublist.refl _|refine List.Sublist.cons _ ?_)) ⟨hm1,rfl, ?_⟩
   rw [h7];rfl
  ·repeat (first|refine q4 tab rfl rfl ?_|refine q5 ?_|refine q6 ?_|refine q8 ?_|refine q9 ?_|refine q15 ?_)
   refine retQ_ret rfl (by repeat (first|exact List.Sublist.refl _|refine List.Sublist.cons _ ?_)) ⟨Mem.le_refl _,rfl, ?_⟩
   rw [h7];rfl
 rw [if_neg hk41]
 by_cases hk42 : a.kind=42
 ·rw [if_pos hk42]
  obtain ⟨k,n,u,s⟩:=h
  obtain rfl : k=42:=h1.trans hk42
  simp only at h2 h3 h4 hl
  subst h2
  subst h3
  repeat (first|refine q1 ?_|refine q3 ?_)
  refine TO.step rfl (OT.box rfl rfl rfl rfl rfl (fun b => ?_))
  repeat (first|(first|refine q1 ?_|refine q2 ?_|refine q3 ?_|refine q4 tab rfl rfl ?_|refine q5 ?_|refine q6 ?_|refine q16 rfl ?_|refine q17 rfl ?_)|(first|refine qs rfl (ql tab 0 rfl rfl rfl rfl rfl rfl ?_)|refine qs rfl (qz tab 0 rfl rfl rfl rfl rfl rfl ?_)))
  refine TO.step rfl (OT.half (r:=a.num / 2) rfl rfl rfl rfl rfl (by decide) (Int.fdiv_eq_ediv_of_nonneg _ (by decide)) ?_)
  repeat (refine q4 tab rfl rfl ?_)
  refine TO.step rfl (OT.call rfl rfl rfl rfl rfl rfl goes39 ((bare_law _ _ ⟨42,a.name,a.num,s⟩ a hr' (decide (a.num / 2=0)) false true).x ?_));
  rintro _ _ _ ⟨rfl,rfl,rfl⟩
  repeat (refine q4 tab rfl rfl ?_)
  refine TO.split rfl rfl (fun h7 => ?_) (fun h7 => ?_)
  ·repeat ((refine qs rfl (qz tab 0 rfl rfl rfl rfl rfl rfl ?_)))
   have hm1:=Mem.le_refl m
   refine TO.step rfl (OT.call rfl rfl rfl rfl rfl rfl goes63 ((kids_law m _ ⟨42,a.name,a.num,s⟩ a hr' ⟨none,0,0⟩ [] none (SlRep.nil _ _) pr0 po0).x ?_));
   rintro _ _ _ ⟨rfl,rfl,rfl⟩
   repeat (first|refine q4 tab rfl rfl ?_|refine q5 ?_|refine q6 ?_|refine q8 ?_|refine q9 ?_|refine q15 ?_)
   refine retQ_ret rfl (by repeat (first|exact List.Sublist.refl _|refine List.Sublist.cons _ ?_)) ⟨hm1,rfl, ?_⟩
   rw [h7];rfl
  ·repeat (first|refine q4 tab rfl rfl ?_|refine q5 ?_|refine q6 ?_|refine q8 ?_|refine q9 ?_|refine q15 ?_)
   refine retQ_ret rfl (by repeat (first|exact List.Sublist.refl _|refine List.Sublist.cons _ ?_)) ⟨Mem.le_refl _,rfl, ?_⟩
   rw [h7];rfl
 rw [if_neg hk42]
 by_cases hk43 : a.kind=43
 ·rw [if_pos hk43]
  obtain ⟨k,n,u,s⟩:=h
  obtain rfl : k=43:=h1.trans hk43
  simp only at h2 h3 h4 hl
  subst h2
  subst h3
  repeat (first|refine q1 ?_|refine q3 ?_)
  refine TO.step rfl (OT.box rfl rfl rfl rfl rfl (fun b => ?_))
  repeat (first|(first|refine q1 ?_|refine q2 ?_|refine q3 ?_|refine q4 tab rfl rfl ?_|refine q5 ?_|refine q6 ?_|refine q16 rfl ?_|refine q17 rfl ?_)|(first|refine qs rfl (ql tab 0 rfl rfl rfl rfl rfl rfl ?_)|refine qs rfl (qz tab 0 rfl rfl rfl rfl rfl rfl ?_)))
  refine TO.step rfl (OT.call rfl rfl rfl rfl rfl rfl goes39 ((bare_law _ _ ⟨43,a.name,a.num,s⟩ a hr' true false false).x ?_));
  rintro _ _ _ ⟨rfl,rfl,rfl⟩
  repeat (refine q4 tab rfl rfl ?_)
  refine TO.split rfl rfl (fun h7 => ?_) (fun h7 => ?_)
  ·repeat ((refine qs rfl (qz tab 0 rfl rfl rfl rfl rfl rfl ?_)))
   have hm1:=Mem.le_refl m
   refine TO.step rfl (OT.call rfl rfl rfl rfl rfl rfl goes63 ((kids_law m _ ⟨43,a.name,a.num,s⟩ a hr' ⟨none,0,0⟩ [] none (SlRep.nil _ _) pr0 po0).x ?_));
   rintro _ _ _ ⟨rfl,rfl,rfl⟩
   repeat (first|refine q4 tab rfl rfl ?_|refine q5 ?_|refine q6 ?_|refine q8 ?_|refine q9 ?_|refine q15 ?_)
   refine retQ_ret rfl (by repeat (first|exact List.Sublist.refl _|refine List.Sublist.cons _ ?_)) ⟨hm1,rfl, ?_⟩
   rw [h7];rfl
  ·repeat (first|refine q4 tab rfl rfl ?_|refine q5 ?_|refine q6 ?_|refine q8 ?_|refine q9 ?_|refine q15 ?_)
   refine retQ_ret rfl (by repeat (first|exact List.Sublist.refl _|refine List.Sublist.cons _ ?_)) ⟨Mem.le_refl _,rfl, ?_⟩
   rw [h7];rfl
 rw [if_neg hk43]
 by_cases hk44 : a.kind=44
 ·rw [if_pos hk44]
  obtain ⟨k,n,u,s⟩:=h
  obtain rfl : k=44:=h1.trans hk44
  simp only at h2 h3 h4 hl
  subst h2
  subst h3
  repeat (first|refine q1 ?_|refine q3 ?_)
  refine TO.step rfl (OT.box rfl rfl rfl rfl rfl (fun b => ?_))
  repeat (first|(first|refine q1 ?_|refine q2 ?_|refine q3 ?_|refine q4 tab rfl rfl ?_|refine q5 ?_|refine q6 ?_|refine q16 rfl ?_|refine q17 rfl ?_)|(first|refine qs rfl (ql tab 0 rfl rfl rfl rfl rfl rfl ?_)|refine qs rfl (qz tab 0 rfl rfl rfl rfl rfl rfl ?_)))
  refine TO.step rfl (OT.call rfl rfl rfl rfl rfl rfl goes62 ((of_law _ _ ⟨44,a.name,a.num,s⟩ a hr' hB 44).x ?_));
  rintro _ _ _ ⟨rfl,rfl,rfl⟩
  repeat (refine q4 tab rfl rfl ?_)
  refine TO.split rfl rfl (fun h7 => ?_) (fun h7 => ?_)
  ·repeat ((refine qs rfl (qz tab 0 rfl rfl rfl rfl rfl rfl ?_)))
   have hm1:=Mem.le_refl m
   refine TO.step rfl (OT.call rfl rfl rfl rfl rfl rfl goes63 ((kids_law m _ ⟨44,a.name,a.num,s⟩ a hr' ⟨none,0,0⟩ [] none (SlRep.nil _ _) pr0 po0).x ?_));
   rintro _ _ _ ⟨rfl,rfl,rfl⟩
   repeat (first|refine q4 tab rfl rfl ?_|refine q5 ?_|refine q6 ?_|refine q8 ?_|refine q9 ?_|refine q15 ?_)
   refine retQ_ret rfl (by repeat (first|exact List.Sublist.refl _|refine List.Sublist.cons _ ?_)) ⟨hm1,rfl, ?_⟩
   rw [h7];rfl
  ·repeat (first|refine q4 tab rfl rfl ?_|refine q5 ?_|refine q6 ?_|refine q8 ?_|refine q9 ?_|refine q15 ?_)
   refine retQ_ret rfl (by repeat (first|exact List.Sublist.refl _|refine List.Sublist.cons _ ?_)) ⟨Mem.le_refl _,rfl, ?_⟩
   rw [h7];rfl
 rw [if_neg hk44]
 by_cases hk45 : a.kind=45
 ·rw [if_pos hk45]
  obtain ⟨k,n,u,s⟩:=h
  obtain rfl : k=45:=h1.trans hk45
  simp only at h2 h3 h4 hl
  subst h2
  subst h3
  repeat (first|refine q1 ?_|refine q3 ?_)
  refine TO.step rfl (OT.box rfl rfl rfl rfl rfl (fun b => ?_))
  repeat (first|(first|refine q1 ?_|refine q2 ?_|refine q3 ?_|refine q4 tab rfl rfl ?_|refine q5 ?_|refine q6 ?_|refine q16 rfl ?_|refine q17 rfl ?_)|(first|refine qs rfl (ql tab 0 rfl rfl rfl rfl rfl rfl ?_)|refine qs rfl (qz tab 0 rfl rfl rfl rfl rfl rfl ?_)))
  refine TO.step rfl (OT.call rfl rfl rfl rfl rfl rfl goes62 ((of_law _ _ ⟨45,a.name,a.num,s⟩ a hr' hB 45).x ?_));
  rintro _ _ _ ⟨rfl,rfl,rfl⟩
  repeat (refine q4 tab rfl rfl ?_)
  refine TO.split rfl rfl (fun h7 => ?_) (fun h7 => ?_)
  ·repeat (first|(refine q4 tab rfl rfl ?_)|(refine qs rfl (ql tab 0 rfl rfl rfl rfl rfl rfl ?_)))
   have hm1:=Mem.le_refl m
   refine TO.step rfl (OT.call rfl rfl rfl rfl rfl rfl goes40 ((pall_law _ _ s a.kids h4 152 g.expr hE).x ?_));
   rintro _ _ _ ⟨rfl,rfl,rfl⟩
   repeat (first|refine q4 tab rfl rfl ?_|refine q5 ?_|refine q6 ?_|refine q8 ?_|refine q9 ?_|refine q15 ?_)
   refine retQ_ret rfl (by repeat (first|exact List.Sublist.refl _|refine List.Sublist.cons _ ?_)) ⟨hm1,rfl, ?_⟩
   rw [h7];rfl
  ·repeat (first|refine q4 tab rfl rfl ?_|refine q5 ?_|refine q6 ?_|refine q8 ?_|refine q9 ?_|refine q15 ?_)
   refine retQ_ret rfl (by repeat (first|exact List.Sublist.refl _|refine List.Sublist.cons _ ?_)) ⟨Mem.le_refl _,rfl, ?_⟩
   rw [h7];rfl
 rw [if_neg hk45]
 by_cases hk46 : a.kind=46
 ·rw [if_pos hk46]
  obtain ⟨k,n,u,s⟩:=h
  obtain rfl : k=46:=h1.trans hk46
  simp only at h2 h3 h4 hl
  subst h2
  subst h3
  repeat (first|refine q1 ?_|refine q3 ?_)
  refine TO.step rfl (OT.box rfl rfl rfl rfl rfl (fun b => ?_))
  repeat (first|(first|refine q1 ?_|refine q2 ?_|refine q3 ?_|refine q4 tab rfl rfl ?_|refine q5 ?_|refine q6 ?_|refine q16 rfl ?_|refine q17 rfl ?_)|(first|refine qs rfl (ql tab 0 rfl rfl rfl rfl rfl rfl ?_)|refine qs rfl (qz tab 0 rfl rfl rfl rfl rfl rfl ?_)))
  refine TO.step rfl (OT.call rfl rfl rfl rfl rfl rfl goes39 ((bare_law _ _ ⟨46,a.name,a.num,s⟩ a hr' true false false).x ?_));
  rintro _ _ _ ⟨rfl,rfl,rfl⟩
  repeat (refine q4 tab rfl rfl ?_)
  refine TO.split rfl rfl (fun h7 => ?_) (fun h7 => ?_)
  ·repeat ((refine qs rfl (qz tab 0 rfl rfl rfl rfl rfl rfl ?_)))
   refine TO.step rfl (OT.litR tab rFn (hs:=[34]) (l:=[34]) ⟨rfl,trivial⟩ rfl rfl rfl rfl rfl (by decide) (fun s1 m1 hm1 hs1 _ _ => ?_))
   skip
   refine TO.step rfl (OT.call rfl rfl rfl rfl rfl rfl goes63 ((kids_law m1 _ ⟨46,a.name,a.num,s⟩ a (hr'.mono hm1) s1 [(34,Tree.isType)] (some (152,g.expr)) hs1 (pr1 hT) (po1 hE)).x ?_));
   rintro _ _ _ ⟨rfl,rfl,rfl⟩
   repeat (first|refine q4 tab rfl rfl ?_|refine q5 ?_|refine q6 ?_|refine q8 ?_|refine q9 ?_|refine q15 ?_)
   refine retQ_ret rfl (by repeat (first|exact List.Sublist.refl _|refine List.Sublist.cons _ ?_)) ⟨hm1,rfl, ?_⟩
   rw [h7];rfl
  ·repeat (first|refine q4 tab rfl rfl ?_|refine q5 ?_|refine q6 ?_|refine q8 ?_|refine q9 ?_|refine q15 ?_)
   refine retQ_ret rfl (by repeat (first|exact List.Sublist.refl _|refine List.Sublist.cons _ ?_)) ⟨Mem.le_refl _,rfl, ?_⟩
   rw [h7];rfl
 rw [if_neg hk46]
 by_cases hk47 : a.kind=47
 ·rw [if_pos hk47]
  obtain ⟨k,n,u,s⟩:=h
  obtain rfl : k=47:=h1.trans hk47
  simp only at h2 h3 h4 hl
  subst h2
  subst h3
  repeat (first|refine q1 ?_|refine q3 ?_)
  refine TO.step rfl (OT.box rfl rfl rfl rfl rfl (fun b => ?_))
  repeat (first|(first|refine q1 ?_|refine q2 ?_|refine q3 ?_|refine q4 tab rfl rfl ?_|refine q5 ?_|refine q6 ?_|refine q16 rfl ?_|refine q17 rfl ?_)|(first|refine qs rfl (ql tab 0 rfl rfl rfl rfl rfl rfl ?_)|refine qs rfl (qz tab 0 rfl rfl rfl rfl rfl rfl ?_)))
  refine TO.step rfl (OT.call rfl rfl rfl rfl rfl rfl goes39 ((bare_law _ _ ⟨47,a.name,a.num,s⟩ a hr' true false false).x ?_));
  rintro _ _ _ ⟨rfl,rfl,rfl⟩
  repeat (refine q4 tab rfl rfl ?_)
  refine TO.split rfl rfl (fun h7 => ?_) (fun h7 => ?_)
  ·repeat ((refine qs rfl (qz tab 0 rfl rfl rfl rfl rfl rfl ?_)))
   refine TO.step rfl (OT.litR tab rFn (hs:=[35,75]) (l:=[35,75]) ⟨rfl,rfl,trivial⟩ rfl rfl rfl rfl rfl (by decide) (fun s1 m1 hm1 hs1 _ _ => ?_))
   skip
   refine TO.step rfl (OT.call rfl rfl rfl rfl rfl rfl goes63 ((kids_law m1 _ ⟨47,a.name,a.num,s⟩ a (hr'.mono hm1) s1 [(35,Tree.isSig),(75,g.block)] none hs1 (pr2 hSg hK) po0).x ?_));
   rintro _ _ _ ⟨rfl,rfl,rfl⟩
   repeat (first|refine q4 tab rfl rfl ?_|refine q5 ?_|refine q6 ?_|refine q8 ?_|refine q9 ?_|refine q15 ?_)
   refine retQ_ret rfl (by repeat (first|exact List.Sublist.refl _|refine List.Sublist.cons _ ?_)) ⟨hm1,rfl, ?_⟩
   rw [h7];rfl
  ·repeat (first|refine q4 tab rfl rfl ?_|refine q5 ?_|refine q6 ?_|refine q8 ?_|refine q9 ?_|refine q15 ?_)
   refine retQ_ret rfl (by repeat (first|exact List.Sublist.refl _|refine List.Sublist.cons _ ?_)) ⟨Mem.le_refl _,rfl, ?_⟩
   rw [h7];rfl
 rw [if_neg hk47]
 by_cases hk48 : a.kind=48
 ·rw [if_pos hk48]
  obtain ⟨k,n,u,s⟩:=h
  obtain rfl : k=48:=h1.trans hk48
  simp only at h2 h3 h4 hl
  subst h2
  subst h3
  repeat (first|refine q1 ?_|refine q3 ?_)
  refine TO.step rfl (OT.box rfl rfl rfl rfl rfl (fun b => ?_))
  repeat (first|(first|refine q1 ?_|refine q2 ?_|refine q3 ?_|refine q4 tab rfl rfl ?_|refine q5 ?_|refine q6 ?_|refine q16 rfl ?_|refine q17 rfl ?_)|(first|refine qs rfl (ql tab 0 rfl rfl rfl rfl rfl rfl ?_)|refine qs rfl (qz tab 0 rfl rfl rfl rfl rfl rfl ?_)))
  refine TO.step rfl (OT.call rfl rfl rfl rfl rfl rfl goes62 ((of_law _ _ ⟨48,a.name,a.num,s⟩ a hr' hB 48).x ?_));
  rintro _ _ _ ⟨rfl,rfl,rfl⟩
  repeat (refine q4 tab rfl rfl ?_)
  refine TO.split rfl rfl (fun h7 => ?_) (fun h7 => ?_)
  ·repeat ((refine qs rfl (qz tab 0 rfl rfl rfl rfl rfl rfl ?_)))
   refine TO.step rfl (OT.litR tab rFn (hs:=[152]) (l:=[152]) ⟨rfl,trivial⟩ rfl rfl rfl rfl rfl (by decide) (fun s1 m1 hm1 hs1 _ _ => ?_))
   skip
   refine TO.step rfl (OT.call rfl rfl rfl rfl rfl rfl goes63 ((kids_law m1 _ ⟨48,a.name,a.num,s⟩ a (hr'.mono hm1) s1 [(152,g.expr)] none hs1 (pr1 hE) po0).x ?_));
   rintro _ _ _ ⟨rfl,rfl,rfl⟩
   repeat (first|refine q4 tab rfl rfl ?_|refine q5 ?_|refine q6 ?_|refine q8 ?_|refine q9 ?_|refine q15 ?_)
   refine retQ_ret rfl (by repeat (first|exact List.Sublist.refl _|refine List.Sublist.cons _ ?_)) ⟨hm1,rfl, ?_⟩
   rw [h7];rfl
  ·repeat (first|refine q4 tab rfl rfl ?_|refine q5 ?_|refine q6 ?_|refine q8 ?_|refine q9 ?_|refine q15 ?_)
   refine retQ_ret rfl (by repeat (first|exact List.Sublist.refl _|refine List.Sublist.cons _ ?_)) ⟨Mem.le_refl _,rfl, ?_⟩
   rw [h7];rfl
 rw [if_neg hk48]
 by_cases hk49 : a.kind=49
 ·rw [if_pos hk49]
  obtain ⟨k,n,u,s⟩:=h
  obtain rfl : k=49:=h1.trans hk49
  simp only at h2 h3 h4 hl
  subst h2
  subst h3
  repeat (first|refine q1 ?_|refine q3 ?_)
  refine TO.step rfl (OT.box rfl rfl rfl rfl rfl (fun b => ?_))
  repeat (first|(first|refine q1 ?_|refine q2 ?_|refine q3 ?_|refine q4 tab rfl rfl ?_|refine q5 ?_|refine q6 ?_|refine q16 rfl ?_|refine q17 rfl ?_)|(first|refine qs rfl (ql tab 0 rfl rfl rfl rfl rfl rfl ?_)|refine qs rfl (qz tab 0 rfl rfl rfl rfl rfl rfl ?_)))
  refine TO.step rfl (OT.call rfl rfl rfl rfl rfl rfl goes39 ((bare_law _ _ ⟨49,a.name,a.num,s⟩ a hr' true false false).x ?_));
  rintro _ _ _ ⟨rfl,rfl,rfl⟩
  repeat (refine q4 tab rfl rfl ?_)
  refine TO.split rfl rfl (fun h7 => ?_) (fun h7 => ?_)
  ·repeat ((refine qs rfl (qz tab 0 rfl rfl rfl rfl rfl rfl ?_)))
   refine TO.step rfl (OT.litR tab rFn (hs:=[152,152]) (l:=[152,152]) ⟨rfl,rfl,trivial⟩ rfl rfl rfl rfl rfl (by decide) (fun s1 m1 hm1 hs1 _ _ => ?_))
   skip
   refine TO.step rfl (OT.call rfl rfl rfl rfl rfl rfl goes63 ((kids_law m1 _ ⟨49,a.name,a.num,s⟩ a (hr'.mono hm1) s1 [(152,g.expr),(152,g.expr)] none hs1 (pr2 hE hE) po0).x ?_));
   rintro _ _ _ ⟨rfl,rfl,rfl⟩
   repeat (first|refine q4 tab rfl rfl ?_|refine q5 ?_|refine q6 ?_|refine q8 ?_|refine q9 ?_|refine q15 ?_)
   refine retQ_ret rfl (by repeat (first|exact List.Sublist.refl _|refine List.Sublist.cons _ ?_)) ⟨hm1,rfl, ?_⟩
   rw [h7];rfl
  ·repeat (first|refine q4 tab rfl rfl ?_|refine q5 ?_|refine q6 ?_|refine q8 ?_|refine q9 ?_|refine q15 ?_)
   refine retQ_ret rfl (by repeat (first|exact List.Sublist.refl _|refine List.Sublist.cons _ ?_)) ⟨Mem.le_refl _,rfl, ?_⟩
   rw [h7];rfl
 rw [if_neg hk49]
 by_cases hk50 : a.kind=50
 ·rw [if_pos hk50]
  obtain ⟨k,n,u,s⟩:=h
  obtain rfl : k=50:=h1.trans hk50
  simp only at h2 h3 h4 hl
  subst h2
  subst h3
  repeat (first|refine q1 ?_|refine q3 ?_)
  refine TO.step rfl (OT.box rfl rfl rfl rfl rfl (fun b => ?_))
  repeat (first|(first|refine q1 ?_|refine q2 ?_|refine q3 ?_|refine q4 tab rfl rfl ?_|refine q5 ?_|refine q6 ?_|refine q16 rfl ?_|refine q17 rfl ?_)|(first|refine qs rfl (ql tab 0 rfl rfl rfl rfl rfl rfl ?_)|refine qs rfl (qz tab 0 rfl rfl rfl rfl rfl rfl ?_)))
  refine TO.step rfl (OT.shK (r:=a.num / 4) rfl (.inr rfl) rfl rfl rfl rfl (by decide) (by show Int.fdiv a.num 4=a.num / 4;exact Int.fdiv_eq_ediv_of_nonneg _ (by decide)) ?_)
  repeat (refine q4 tab rfl rfl ?_)
  (refine TO.splitP rfl rfl (fun e4 => ?_) (fun e4 => ?_))
  ·have hlv : a.num=0 ∨ a.num=1 ∨ a.num=2 ∨ a.num=3:=by omega
   have hand : ∀ w,(Op.intBits .and .i64 a.num 1).run Tryz.prog w = .ok (.int .i64 (a.num % 2)) w:=by
    rcases hlv with e | e | e | e <;> (intro w;rw [e];rfl)
   have hlv2 : lvl a=decide ((s.len : Int)=1 + a.num % 2 + a.num / 2):=by
    unfold lvl
    rw [decide_eq_true (show 0 ≤ a.num by omega),decide_eq_true (show a.num ≤ 3 by omega),hl];rfl
   rw [hlv2]
   repeat (first|(refine q4 tab rfl rfl ?_)|(refine qs rfl (ql tab 0 rfl rfl rfl rfl rfl rfl ?_)))
   refine TO.step rfl (OT.andK (r:=a.num % 2) rfl rfl rfl rfl rfl hand ?_)
   refine TO.step rfl (OT.arith (r':=1 + a.num % 2) rfl rfl rfl rfl rfl rfl (by omega) (by omega) ?_)
   repeat (first|(refine q4 tab rfl rfl ?_)|(refine qs rfl (ql tab 0 rfl rfl rfl rfl rfl rfl ?_)))
   refine TO.step rfl (OT.half (r:=a.num / 2) rfl rfl rfl rfl rfl (by decide) (Int.fdiv_eq_ediv_of_nonneg _ (by decide)) ?_)
   refine TO.step rfl (OT.arith (r':=1 + a.num % 2 + a.num / 2) rfl rfl rfl rfl rfl rfl (by omega) (by omega) ?_)
   repeat (refine q4 tab rfl rfl ?_)
   refine TO.step rfl (OT.call rfl rfl rfl rfl rfl rfl goes39 ((bare_law _ _ ⟨50,a.name,a.num,s⟩ a hr' (decide ((s.len : Int)=1 + a.num % 2 + a.num / 2)) false true).x ?_));
   rintro _ _ _ ⟨rfl,rfl,rfl⟩
   repeat (refine q4 tab rfl rfl ?_)
   refine TO.split rfl rfl (fun h7 => ?_) (fun h7 => ?_)
   ·repeat (first|(refine q4 tab rfl rfl ?_)|(refine qs rfl (ql tab 0 rfl rfl rfl rfl rfl rfl ?_)))
    refine TO.step rfl (OT.call rfl rfl rfl rfl rfl rfl goes40 ((pall_law _ _ s a.kids h4 152 g.expr hE).x ?_));
    rintro _ _ _ ⟨rfl,rfl,rfl⟩
    repeat (first|refine q4 tab rfl rfl ?_|refine q5 ?_|refine q6 ?_|refine q8 ?_|refine q9 ?_|refine q15 ?_)
    refine retQ_ret rfl (by repeat (first|exact List.Sublist.refl _|refine List.Sublist.cons _ ?_)) ⟨Mem.le_refl _,rfl, ?_⟩
    rw [h7];rfl
   ·repeat (first|refine q4 tab rfl rfl ?_|refine q5 ?_|refine q6 ?_|refine q8 ?_|refine q9 ?_|refine q15 ?_)
    refine retQ_ret rfl (by repeat (first|exact List.Sublist.refl _|refine List.Sublist.cons _ ?_)) ⟨Mem.le_refl _,rfl, ?_⟩
    rw [h7];rfl
  ·have hlv2 : lvl a=false:=by
    unfold lvl
    by_cases h5 : 0 ≤ a.num
    ·rw [decide_eq_false (show ¬ a.num ≤ 3 by omega),Bool.false_and,Bool.and_false]
    ·rw [decide_eq_false h5];rfl
   rw [hlv2]
   repeat ((refine q4 tab rfl rfl ?_))
   refine TO.step rfl (OT.call rfl rfl rfl rfl rfl rfl goes39 ((bare_law _ _ ⟨50,a.name,a.num,s⟩ a hr' false false true).x ?_));
   rintro _ _ _ ⟨rfl,rfl,rfl⟩
   repeat (first|refine q4 tab rfl rfl ?_|refine q5 ?_|refine q6 ?_|refine q8 ?_|refine q9 ?_|refine q15 ?_)
   exact retQ_ret rfl (by repeat (first|exact List.Sublist.refl _|refine List.Sublist.cons _ ?_)) ⟨Mem.le_refl _,rfl,rfl⟩
 rw [if_neg hk50]
 by_cases hk51 : a.kind=51
 ·rw [if_pos hk51]
  obtain ⟨k,n,u,s⟩:=h
  obtain rfl : k=51:=h1.trans hk51
  simp only at h2 h3 h4 hl
  subst h2
  subst h3
  repeat (first|refine q1 ?_|refine q3 ?_)
  refine TO.step rfl (OT.box rfl rfl rfl rfl rfl (fun b => ?_))
  repeat (first|(first|refine q1 ?_|refine q2 ?_|refine q3 ?_|refine q4 tab rfl rfl ?_|refine q5 ?_|refine q6 ?_|refine q16 rfl ?_|refine q17 rfl ?_)|(first|refine qs rfl (ql tab 0 rfl rfl rfl rfl rfl rfl ?_)|refine qs rfl (qz tab 0 rfl rfl rfl rfl rfl rfl ?_)))
  refine TO.step rfl (OT.call rfl rfl rfl rfl rfl rfl goes39 ((bare_law _ _ ⟨51,a.name,a.num,s⟩ a hr' true false false).x ?_));
  rintro _ _ _ ⟨rfl,rfl,rfl⟩
  repeat (refine q4 tab rfl rfl ?_)
  refine TO.split rfl rfl (fun h7 => ?_) (fun h7 => ?_)
  ·repeat ((refine qs rfl (qz tab 0 rfl rfl rfl rfl rfl rfl ?_)))
   refine TO.step rfl (OT.litR tab rFn (hs:=[152]) (l:=[152]) ⟨rfl,trivial⟩ rfl rfl rfl rfl rfl (by decide) (fun s1 m1 hm1 hs1 _ _ => ?_))
   skip
   refine TO.step rfl (OT.call rfl rfl rfl rfl rfl rfl goes63 ((kids_law m1 _ ⟨51,a.name,a.num,s⟩ a (hr'.mono hm1) s1 [(152,g.expr)] (some (152,g.expr)) hs1 (pr1 hE) (po1 hE)).x ?_));
   rintro _ _ _ ⟨rfl,rfl,rfl⟩
   repeat (first|refine q4 tab rfl rfl ?_|refine q5 ?_|refine q6 ?_|refine q8 ?_|refine q9 ?_|refine q15 ?_)
   refine retQ_ret rfl (by repeat (first|exact List.Sublist.refl _|refine List.Sublist.cons _ ?_)) ⟨hm1,rfl, ?_⟩
   rw [h7];rfl
  ·repeat (first|refine q4 tab rfl rfl ?_|refine q5 ?_|refine q6 ?_|refine q8 ?_|refine q9 ?_|refine q15 ?_)
   refine retQ_ret rfl (by repeat (first|exact List.Sublist.refl _|refine List.Sublist.cons _ ?_)) ⟨Mem.le_refl _,rfl, ?_⟩
   rw [h7];rfl
 rw [if_neg hk51]
 by_cases hk52 : a.kind=52
 ·rw [if_pos hk52]
  obtain ⟨k,n,u,s⟩:=h
  obtain rfl : k=52:=h1.trans hk52
  simp only at h2 h3 h4 hl
  subst h2
  subst h3
  repeat (first|refine q1 ?_|refine q3 ?_)
  refine TO.step rfl (OT.box rfl rfl rfl rfl rfl (fun b => ?_))
  repeat (first|(first|refine q1 ?_|refine q2 ?_|refine q3 ?_|refine q4 tab rfl rfl ?_|refine q5 ?_|refine q6 ?_|refine q16 rfl ?_|refine q17 rfl ?_)|(refine qs rfl (ql tab 0 rfl rfl rfl rfl rfl rfl ?_)))
  refine TC.draw [] mixed 12 rfl [.cells b 0 [.int .i64 52,strV a.name, .int .i64 a.num,s.v]] L (by first | exact List.Perm.refl _ | (rw [List.append_nil];exact List.Perm.refl _)) ?_
  (refine DO.loadL (k:=0) tab 0 0 (by repeat (first|exact Calm.ret|refine Calm.then ?_|refine Calm.block ?_)) (by kernel_rfl) (by kernel_rfl) rfl rfl rfl rfl rfl rfl rfl rfl ?_)
  refine DO.pure tab (by repeat (first|exact Calm.ret|refine Calm.then ?_|refine Calm.block ?_)) (by kernel_rfl) [2] (by kernel_rfl) rfl ?_
  (refine DO.loadL tab 3 0 (by repeat (first|exact Calm.ret|refine Calm.then ?_|refine Calm.block ?_)) (by kernel_rfl) (by kernel_rfl) rfl rfl rfl rfl rfl rfl rfl rfl ?_)
  refine DO.run 1 rfl rfl (by kernel_rfl) rfl ?_
  refine OT.litR tab rStr (hs:=[[45],[33],[38],[42]]) (l:=[[45],[33],[38],[42]]) ⟨rfl,rfl,rfl,rfl,trivial⟩ rfl rfl rfl rfl rfl (by decide) (fun s1 m1 hm1 hs1 _ _ => ?_);refine ⟨hm1,_,List.Perm.refl _, ?_⟩
  refine DO.run 4 rfl rfl (by kernel_rfl) rfl (OT.call rfl rfl rfl rfl rfl rfl goes99 ((contains_str _ _ s1 ops4 a.name hs1).x ?_))
  rintro _ _ _ ⟨rfl,rfl,rfl⟩;refine ⟨Mem.le_refl _,_,List.Perm.refl _, ?_⟩
  refine DO.run 5 rfl rfl (by kernel_rfl) rfl (OT.call rfl rfl rfl rfl rfl rfl goes39 ((bare_law _ _ ⟨52,a.name,a.num,s⟩ a (hr'.mono hm1) (decide (a.name ∈ ops4)) true false).x ?_))
  rintro _ _ _ ⟨rfl,rfl,rfl⟩;refine ⟨Mem.le_refl _,_,List.Perm.refl _, ?_⟩
  refine DO.pure tab (by repeat (first|exact Calm.ret|refine Calm.then ?_|refine Calm.block ?_)) (by kernel_rfl) [6] (by kernel_rfl) rfl ?_
  (refine DO.split (d:=151) rfl (fun h7 => ?_) (fun h7 => ?_))
  (refine DO.loadL (k:=0) tab 7 0 (by repeat (first|exact Calm.ret|refine Calm.then ?_|refine Calm.block ?_)) (by kernel_rfl) (by kernel_rfl) rfl rfl rfl rfl rfl rfl rfl rfl ?_)
  refine DO.run 8 rfl rfl (by kernel_rfl) rfl ?_
  refine OT.litR tab rFn (hs:=[152]) (l:=[152]) ⟨rfl,trivial⟩ rfl rfl rfl rfl rfl (by decide) (fun s2 m2 hm2 hs2 _ _ => ?_);refine ⟨hm2,_,List.Perm.refl _, ?_⟩
  refine DO.run 9 rfl rfl (by kernel_rfl) rfl (OT.call rfl rfl rfl rfl rfl rfl goes63 ((kids_law m2 _ ⟨52,a.name,a.num,s⟩ a (hr'.mono (Mem.le_trans hm1 hm2)) s2 [(152,g.expr)] none hs2 (pr1 hE) po0).x ?_))
  rintro _ _ _ ⟨rfl,rfl,rfl⟩;refine ⟨Mem.le_refl _,_,List.Perm.refl _, ?_⟩
  refine DO.pure tab (by repeat (first|exact Calm.ret|refine Calm.then ?_|refine Calm.block ?_)) (by kernel_rfl) [10,11] (by kernel_rfl) rfl ?_
  (refine DO.nil (by kernel_rfl) ?_)
  rotate_left 1
  refine DO.pure tab (by repeat (first|exact Calm.ret|refine Calm.then ?_|refine Calm.block ?_)) (by kernel_rfl) [7,8,9,10,11] (by kernel_rfl) rfl ?_
  (refine DO.nil (by kernel_rfl) ?_)
  rotate_left 1
  ·repeat (first|refine q6 ?_|refine q8 ?_|refine q9 ?_|refine q15 ?_)
   refine retQ_ret rfl (by repeat (first|exact List.Sublist.refl _|refine List.Sublist.cons _ ?_)) ⟨Mem.le_trans hm1 hm2,rfl, ?_⟩
   rw [h7];rfl
  ·repeat (first|refine q6 ?_|refine q8 ?_|refine q9 ?_|refine q15 ?_)
   refine retQ_ret rfl (by repeat (first|exact List.Sublist.refl _|refine List.Sublist.cons _ ?_)) ⟨hm1,rfl, ?_⟩
   rw [h7];rfl
 rw [if_neg hk52]
 by_cases hk53 : a.kind=53
 ·rw [if_pos hk53]
  obtain ⟨k,n,u,s⟩:=h
  obtain rfl : k=53:=h1.trans hk53
  simp only at h2 h3 h4 hl
  subst h2
  subst h3
  repeat (first|refine q1 ?_|refine q3 ?_)
  refine TO.step rfl (OT.box rfl rfl rfl rfl rfl (fun b => ?_))
  repeat (first|(first|refine q1 ?_|refine q2 ?_|refine q3 ?_|refine q4 tab rfl rfl ?_|refine q5 ?_|refine q6 ?_|refine q16 rfl ?_|refine q17 rfl ?_)|(refine qs rfl (ql tab 0 rfl rfl rfl rfl rfl rfl ?_)))
  refine TC.draw [] mixed 13 rfl [.cells b 0 [.int .i64 53,strV a.name, .int .i64 a.num,s.v]] L (by first | exact List.Perm.refl _ | (rw [List.append_nil];exact List.Perm.refl _)) ?_
  (refine DO.loadL (k:=0) tab 0 0 (by repeat (first|exact Calm.ret|refine Calm.then ?_|refine Calm.block ?_)) (by kernel_rfl) (by kernel_rfl) rfl rfl rfl rfl rfl rfl rfl rfl ?_)
  refine DO.pure tab (by repeat (first|exact Calm.ret|refine Calm.then ?_|refine Calm.block ?_)) (by kernel_rfl) [3] (by kernel_rfl) rfl ?_
  (refine DO.loadL tab 4 0 (by repeat (first|exact Calm.ret|refine Calm.then ?_|refine Calm.block ?_)) (by kernel_rfl) (by kernel_rfl) rfl rfl rfl rfl rfl rfl rfl rfl ?_)
  refine DO.run 1 rfl rfl (by kernel_rfl) rfl (OT.call rfl rfl rfl rfl rfl rfl goes180 ((levels_law _ _).x ?_))
  rintro _ m0 _ ⟨hm0,rfl,s0,rfl,hs0⟩;refine ⟨hm0,_,List.Perm.refl _, ?_⟩
  refine DO.run 2 rfl rfl (by kernel_rfl) rfl (OT.call rfl rfl rfl rfl rfl rfl goes179 ((concatS_law m0 _ s0 Ps.levels hs0 (by decide)).x ?_))
  rintro _ m1 _ ⟨hm1,rfl,s1,rfl,hs1⟩;refine ⟨hm1,_,List.Perm.refl _, ?_⟩
  refine DO.run 5 rfl rfl (by kernel_rfl) rfl (OT.call rfl rfl rfl rfl rfl rfl goes99 ((contains_str _ _ s1 Ps.levels.flatten a.name hs1).x ?_))
  rintro _ _ _ ⟨rfl,rfl,rfl⟩;refine ⟨Mem.le_refl _,_,List.Perm.refl _, ?_⟩
  refine DO.run 6 rfl rfl (by kernel_rfl) rfl (OT.call rfl rfl rfl rfl rfl rfl goes39 ((bare_law _ _ ⟨53,a.name,a.num,s⟩ a (hr'.mono (Mem.le_trans hm0 hm1)) (decide (a.name ∈ Ps.levels.flatten)) true false).x ?_))
  rintro _ _ _ ⟨rfl,rfl,rfl⟩;refine ⟨Mem.le_refl _,_,List.Perm.refl _, ?_⟩
  refine DO.pure tab (by repeat (first|exact Calm.ret|refine Calm.then ?_|refine Calm.block ?_)) (by kernel_rfl) [7] (by kernel_rfl) rfl ?_
  (refine DO.split (d:=165) rfl (fun h7 => ?_) (fun h7 => ?_))
  (refine DO.loadL (k:=0) tab 8 0 (by repeat (first|exact Calm.ret|refine Calm.then ?_|refine Calm.block ?_)) (by kernel_rfl) (by kernel_rfl) rfl rfl rfl rfl rfl rfl rfl rfl ?_)
  refine DO.run 9 rfl rfl (by kernel_rfl) rfl ?_
  refine OT.litR tab rFn (hs:=[152,152]) (l:=[152,152]) ⟨rfl,rfl,trivial⟩ rfl rfl rfl rfl rfl (by decide) (fun s2 m2 hm2 hs2 _ _ => ?_);refine ⟨hm2,_,List.Perm.refl _, ?_⟩
  refine DO.run 10 rfl rfl (by kernel_rfl) rfl (OT.call rfl rfl rfl rfl rfl rfl goes63 ((kids_law m2 _ ⟨53,a.name,a.num,s⟩ a (hr'.mono (Mem.le_trans (Mem.le_trans hm0 hm1) hm2)) s2 [(152,g.expr),(152,g.expr)] none hs2 (pr2 hE hE) po0).x ?_))
  rintro _ _ _ ⟨rfl,rfl,rfl⟩;refine ⟨Mem.le_refl _,_,List.Perm.refl _, ?_⟩
  refine DO.pure tab (by repeat (first|exact Calm.ret|refine Calm.then ?_|refine Calm.block ?_)) (by kernel_rfl) [11,12] (by kernel_rfl) rfl ?_
  (refine DO.nil (by kernel_rfl) ?_)
  rotate_left 1
  refine DO.pure tab (by repeat (first|exact Calm.ret|refine Calm.then ?_|refine Calm.block ?_)) (by kernel_rfl) [8,9,10,11,12] (by kernel_rfl) rfl ?_
  (refine DO.nil (by kernel_rfl) ?_)
  rotate_left 1
  ·repeat (first|refine q6 ?_|refine q8 ?_|refine q9 ?_|refine q15 ?_)
   refine retQ_ret rfl (by repeat (first|exact List.Sublist.refl _|refine List.Sublist.cons _ ?_)) ⟨Mem.le_trans (Mem.le_trans hm0 hm1) hm2,rfl, ?_⟩
   rw [h7];rfl
  ·repeat (first|refine q6 ?_|refine q8 ?_|refine q9 ?_|refine q15 ?_)
   refine retQ_ret rfl (by repeat (first|exact List.Sublist.refl _|refine List.Sublist.cons _ ?_)) ⟨Mem.le_trans hm0 hm1,rfl, ?_⟩
   rw [h7];rfl
 rw [if_neg hk53]
 repeat (first|refine q1 ?_|refine q3 ?_)
 refine TO.step rfl (OT.box rfl rfl rfl rfl rfl (fun b => ?_))
 repeat (first|(first|refine q1 ?_|refine q2 ?_|refine q3 ?_|refine q4 tab rfl rfl ?_|refine q5 ?_|refine q6 ?_)|(refine qs rfl (ql tab 0 rfl rfl rfl rfl rfl rfl ?_)))
 refine TC.condP rfl (fun h5 => ?_) (fun h5 => ?_)
 ·omega
 repeat (first|refine q1 ?_|refine q3 ?_|refine q4 tab rfl rfl ?_|refine q5 ?_|refine q6 ?_)
 refine TC.condP rfl (fun h5 => ?_) (fun h5 => ?_)
 ·omega
 repeat (first|refine q1 ?_|refine q3 ?_|refine q4 tab rfl rfl ?_|refine q5 ?_|refine q6 ?_)
 refine TC.condP rfl (fun h5 => ?_) (fun h5 => ?_)
 ·omega
 repeat (first|refine q1 ?_|refine q3 ?_|refine q4 tab rfl rfl ?_|refine q5 ?_|refine q6 ?_)
 refine TC.condP rfl (fun h5 => ?_) (fun h5 => ?_)
 ·omega
 repeat (first|refine q1 ?_|refine q3 ?_|refine q4 tab rfl rfl ?_|refine q5 ?_|refine q6 ?_)
 refine TC.condP rfl (fun h5 => ?_) (fun h5 => ?_)
 ·omega
 repeat (first|refine q1 ?_|refine q3 ?_|refine q4 tab rfl rfl ?_|refine q5 ?_|refine q6 ?_)
 refine TC.condP rfl (fun h5 => ?_) (fun h5 => ?_)
 ·omega
 repeat (first|refine q1 ?_|refine q3 ?_|refine q4 tab rfl rfl ?_|refine q5 ?_|refine q6 ?_)
 refine TC.condP rfl (fun h5 => ?_) (fun h5 => ?_)
 ·omega
 repeat (first|refine q1 ?_|refine q3 ?_|refine q4 tab rfl rfl ?_|refine q5 ?_|refine q6 ?_)
 refine TC.condP rfl (fun h5 => ?_) (fun h5 => ?_)
 ·omega
 repeat (first|refine q1 ?_|refine q3 ?_|refine q4 tab rfl rfl ?_|refine q5 ?_|refine q6 ?_)
 refine TC.condP rfl (fun h5 => ?_) (fun h5 => ?_)
 ·omega
 repeat (first|refine q1 ?_|refine q3 ?_|refine q4 tab rfl rfl ?_|refine q5 ?_|refine q6 ?_)
 refine TC.condP rfl (fun h5 => ?_) (fun h5 => ?_)
 ·omega
 repeat (first|refine q1 ?_|refine q3 ?_|refine q4 tab rfl rfl ?_|refine q5 ?_|refine q6 ?_)
 refine TC.condP rfl (fun h5 => ?_) (fun h5 => ?_)
 ·omega
 repeat (first|refine q1 ?_|refine q3 ?_|refine q4 tab rfl rfl ?_|refine q5 ?_|refine q6 ?_)
 refine TC.condP rfl (fun h5 => ?_) (fun h5 => ?_)
 ·omega
 repeat (first|refine q1 ?_|refine q3 ?_|refine q4 tab rfl rfl ?_|refine q5 ?_|refine q6 ?_)
 refine TC.condP rfl (fun h5 => ?_) (fun h5 => ?_)
 ·omega
 repeat (first|refine q1 ?_|refine q3 ?_|refine q4 tab rfl rfl ?_|refine q5 ?_|refine q6 ?_)
 refine TC.condP rfl (fun h5 => ?_) (fun h5 => ?_)
 ·omega
 repeat (first|refine q1 ?_|refine q3 ?_|refine q4 tab rfl rfl ?_|refine q5 ?_|refine q6 ?_|refine q7 ?_|refine q13 ?_|refine q15 ?_)
 exact retQ_ret rfl (by repeat (first|exact List.Sublist.refl _|refine List.Sublist.cons _ ?_)) ⟨Mem.le_refl _,rfl,rfl⟩
end Go.Sep


/- PsSnd3 -/
set_option linter.unusedVariables false
set_option linter.unusedSimpArgs false
namespace Go.Sep
open Go.Proofs
attribute [local irreducible] TC TO OT TCallX TCall DO DOt thenQ blockQ retQ At
set_option maxHeartbeats 800000 in
theorem block_teller (g : Sg) (a : Tree) (m : Mem) (L : List Item) (h : HTree) (hr : TreeRep m h a) (hS : IsPred 123 g.stmt a.kids) :
  TCall Tryz.prog 75 ⟨[treeV h]⟩ m L (Ret (.bool (blockS g a)) m L):=by
 have hr':=hr
 obtain ⟨h1,h2,h3,h4⟩:=hr
 unfold TCall
 refine TCallX.enter Tryz.func75 rfl 13 rfl ?_
 repeat (first|refine q1 ?_|refine q3 ?_)
 refine TO.step rfl (OT.box rfl rfl rfl rfl rfl (fun b => ?_))
 repeat (first|(first|refine q1 ?_|refine q3 ?_|refine q4 tab rfl rfl ?_|refine q5 ?_|refine q6 ?_)|(first|refine qs rfl (ql tab 0 rfl rfl rfl rfl rfl rfl ?_)|refine qs rfl (qz tab 0 rfl rfl rfl rfl rfl rfl ?_)))
 refine TO.step rfl (OT.call rfl rfl rfl rfl rfl rfl goes39 ((bare_law _ _ h a hr' (decide (h.kind=20)) false false).x ?_));
 rintro _ _ _ ⟨rfl,rfl,rfl⟩
 unfold blockS
 rw [← h1]
 repeat (refine q4 tab rfl rfl ?_)
 refine TO.split rfl rfl (fun h7 => ?_) (fun h7 => ?_)
 ·repeat (first|(refine q4 tab rfl rfl ?_)|(refine qs rfl (ql tab 0 rfl rfl rfl rfl rfl rfl ?_)))
  refine TO.step rfl (OT.call rfl rfl rfl rfl rfl rfl goes40 ((pall_law _ _ h.kids a.kids h4 123 g.stmt hS).x ?_));
  rintro _ _ _ ⟨rfl,rfl,rfl⟩
  repeat (first|refine q4 tab rfl rfl ?_|refine q5 ?_|refine q6 ?_|refine q15 ?_)
  refine retQ_ret rfl (by repeat (first|exact List.Sublist.refl _|refine List.Sublist.cons _ ?_)) ⟨rfl,rfl, ?_⟩
  rw [h7];rfl
 ·repeat (first|refine q4 tab rfl rfl ?_|refine q5 ?_|refine q6 ?_|refine q15 ?_)
  refine retQ_ret rfl (by repeat (first|exact List.Sublist.refl _|refine List.Sublist.cons _ ?_)) ⟨rfl,rfl, ?_⟩
  rw [h7];rfl
set_option maxHeartbeats 800000 in
theorem nm_pred {g : Sg} {l : List Tree} (hE : IsPred 152 g.expr l) : IsPred 154 (nmS g) l:=by
 refine ⟨goes154,fun m L h a ha hr => ?_⟩
 have hr':=hr
 obtain ⟨h1,h2,h3,h4⟩:=hr
 unfold TCall
 refine TCallX.enter Tryz.func154 rfl 10 rfl ?_
 repeat (first|refine q1 ?_|refine q3 ?_)
 refine TO.step rfl (OT.box rfl rfl rfl rfl rfl (fun b => ?_))
 repeat (first|(first|refine q1 ?_|refine q3 ?_|refine q4 tab rfl rfl ?_|refine q5 ?_|refine q6 ?_)|(refine qs rfl (ql tab 0 rfl rfl rfl rfl rfl rfl ?_)))
 unfold nmS
 rw [← h1]
 (refine TO.splitP rfl rfl (fun e1 => ?_) (fun e1 => ?_))
 ·repeat ((refine qs rfl (qz tab 0 rfl rfl rfl rfl rfl rfl ?_)))
  refine TO.step rfl (OT.call rfl rfl rfl rfl rfl rfl hE.1 ((hE.2 _ _ h a ha hr').x ?_));
  rintro _ _ _ ⟨rfl,rfl,rfl⟩
  repeat (first|refine q4 tab rfl rfl ?_|refine q5 ?_|refine q6 ?_|refine q15 ?_)
  refine retQ_ret rfl (by repeat (first|exact List.Sublist.refl _|refine List.Sublist.cons _ ?_)) ⟨rfl,rfl, ?_⟩
  rw [decide_eq_true e1];rfl
 ·repeat (first|refine q4 tab rfl rfl ?_|refine q5 ?_|refine q6 ?_|refine q15 ?_)
  refine retQ_ret rfl (by repeat (first|exact List.Sublist.refl _|refine List.Sublist.cons _ ?_)) ⟨rfl,rfl, ?_⟩
  rw [decide_eq_false e1];rfl
set_option maxHeartbeats 800000 in
theorem call_pred {g : Sg} {l : List Tree} (hE : IsPred 152 g.expr l) : IsPred 155 (callS g) l:=by
 refine ⟨goes155,fun m L h a ha hr => ?_⟩
 have hr':=hr
 obtain ⟨h1,h2,h3,h4⟩:=hr
 unfold TCall
 refine TCallX.enter Tryz.func155 rfl 10 rfl ?_
 repeat (first|refine q1 ?_|refine q3 ?_)
 refine TO.step rfl (OT.box rfl rfl rfl rfl rfl (fun b => ?_))
 repeat (first|(first|refine q1 ?_|refine q3 ?_|refine q4 tab rfl rfl ?_|refine q5 ?_|refine q6 ?_)|(refine qs rfl (ql tab 0 rfl rfl rfl rfl rfl rfl ?_)))
 unfold callS
 rw [← h1]
 (refine TO.splitP rfl rfl (fun e1 => ?_) (fun e1 => ?_))
 ·repeat ((refine qs rfl (qz tab 0 rfl rfl rfl rfl rfl rfl ?_)))
  refine TO.step rfl (OT.call rfl rfl rfl rfl rfl rfl hE.1 ((hE.2 _ _ h a ha hr').x ?_));
  rintro _ _ _ ⟨rfl,rfl,rfl⟩
  repeat (first|refine q4 tab rfl rfl ?_|refine q5 ?_|refine q6 ?_|refine q15 ?_)
  refine retQ_ret rfl (by repeat (first|exact List.Sublist.refl _|refine List.Sublist.cons _ ?_)) ⟨rfl,rfl, ?_⟩
  rw [decide_eq_true e1];rfl
 ·repeat (first|refine q4 tab rfl rfl ?_|refine q5 ?_|refine q6 ?_|refine q15 ?_)
  refine retQ_ret rfl (by repeat (first|exact List.Sublist.refl _|refine List.Sublist.cons _ ?_)) ⟨rfl,rfl, ?_⟩
  rw [decide_eq_false e1];rfl
set_option maxHeartbeats 800000 in
theorem pl_pred {g : Sg} {l : List Tree} (hE : IsPred 152 g.expr l) : IsPred 153 (plS g) l:=by
 refine ⟨goes153,fun m L h a ha hr => ?_⟩
 have hr':=hr
 obtain ⟨h1,h2,h3,h4⟩:=hr
 unfold TCall
 refine TCallX.enter Tryz.func153 rfl 9 rfl ?_
 repeat (first|refine q1 ?_|refine q3 ?_)
 refine TO.step rfl (OT.box rfl rfl rfl rfl rfl (fun b => ?_))
 repeat (first|(first|refine q1 ?_|refine q3 ?_|refine q4 tab rfl rfl ?_|refine q5 ?_|refine q6 ?_)|(refine qs rfl (qz tab 0 rfl rfl rfl rfl rfl rfl ?_)))
 refine TO.step rfl (OT.call rfl rfl rfl rfl rfl rfl isPl_tells.1 ((isPl_tells.2 _ _ h a hr').x ?_));
 rintro _ _ _ ⟨rfl,rfl,rfl⟩
 unfold plS
 repeat (refine q4 tab rfl rfl ?_)
 refine TO.split rfl rfl (fun h7 => ?_) (fun h7 => ?_)
 ·repeat ((refine qs rfl (qz tab 0 rfl rfl rfl rfl rfl rfl ?_)))
  refine TO.step rfl (OT.call rfl rfl rfl rfl rfl rfl hE.1 ((hE.2 _ _ h a ha hr').x ?_));
  rintro _ _ _ ⟨rfl,rfl,rfl⟩
  repeat (first|refine q4 tab rfl rfl ?_|refine q5 ?_|refine q6 ?_|refine q15 ?_)
  refine retQ_ret rfl (by repeat (first|exact List.Sublist.refl _|refine List.Sublist.cons _ ?_)) ⟨rfl,rfl, ?_⟩
  rw [h7];rfl
 ·repeat (first|refine q4 tab rfl rfl ?_|refine q5 ?_|refine q6 ?_|refine q15 ?_)
  refine retQ_ret rfl (by repeat (first|exact List.Sublist.refl _|refine List.Sublist.cons _ ?_)) ⟨rfl,rfl, ?_⟩
  rw [h7];rfl
set_option maxHeartbeats 800000 in
theorem other_pred {g : Sg} {l : List Tree} (hK : IsPred 75 g.block l) (hS : IsPred 123 g.stmt l) : IsPred 156 (otherS g) l:=by
 refine ⟨goes156,fun m L h a ha hr => ?_⟩
 have hr':=hr
 obtain ⟨h1,h2,h3,h4⟩:=hr
 unfold TCall
 refine TCallX.enter Tryz.func156 rfl 14 rfl ?_
 repeat (first|refine q1 ?_|refine q3 ?_)
 refine TO.step rfl (OT.box rfl rfl rfl rfl rfl (fun b => ?_))
 repeat (first|(first|refine q1 ?_|refine q3 ?_|refine q4 tab rfl rfl ?_|refine q5 ?_|refine q6 ?_)|(refine qs rfl (qz tab 0 rfl rfl rfl rfl rfl rfl ?_)))
 refine TO.step rfl (OT.call rfl rfl rfl rfl rfl rfl hK.1 ((hK.2 _ _ h a ha hr').x ?_));
 rintro _ _ _ ⟨rfl,rfl,rfl⟩
 unfold otherS
 rw [← h1]
 repeat (refine q4 tab rfl rfl ?_)
 refine TO.split rfl rfl (fun h7 => ?_) (fun h7 => ?_)
 ·repeat (first|refine q4 tab rfl rfl ?_|refine q5 ?_|refine q6 ?_|refine q15 ?_)
  refine retQ_ret rfl (by repeat (first|exact List.Sublist.refl _|refine List.Sublist.cons _ ?_)) ⟨rfl,rfl, ?_⟩
  rw [h7];rfl
 ·repeat (first|(refine q4 tab rfl rfl ?_)|(refine qs rfl (ql tab 0 rfl rfl rfl rfl rfl rfl ?_)))
  (refine TO.splitP rfl rfl (fun e1 => ?_) (fun e1 => ?_))
  ·repeat ((refine qs rfl (qz tab 0 rfl rfl rfl rfl rfl rfl ?_)))
   refine TO.step rfl (OT.call rfl rfl rfl rfl rfl rfl hS.1 ((hS.2 _ _ h a ha hr').x ?_));
   rintro _ _ _ ⟨rfl,rfl,rfl⟩
   repeat (first|refine q4 tab rfl rfl ?_|refine q5 ?_|refine q6 ?_|refine q15 ?_)
   refine retQ_ret rfl (by repeat (first|exact List.Sublist.refl _|refine List.Sublist.cons _ ?_)) ⟨rfl,rfl, ?_⟩
   rw [h7,decide_eq_true e1];rfl
  ·repeat (first|refine q4 tab rfl rfl ?_|refine q5 ?_|refine q6 ?_|refine q15 ?_)
   refine retQ_ret rfl (by repeat (first|exact List.Sublist.refl _|refine List.Sublist.cons _ ?_)) ⟨rfl,rfl, ?_⟩
   rw [h7,decide_eq_false e1];rfl
theorem stmtS_no {g : Sg} {a : Tree} (h : headS a=false) : stmtS g a=false:=by unfold stmtS;rw [if_pos h]
set_option maxHeartbeats 4000000 in
theorem stmt_teller (g : Sg) (a : Tree) (m : Mem) (L : List Item) (h : HTree) (hr : TreeRep m h a) (hB : a.wide ≤ 140737488355328) (hE : IsPred 152 g.expr a.kids) (hK : IsPred 75 g.block a.kids) (hS : IsPred 123 g.stmt a.kids) :
  TCall Tryz.prog 123 ⟨[treeV h]⟩ m L (Ret (.bool (stmtS g a)) m L):=by
 have hT : IsPred 34 Tree.isType a.kids:=kidPred goes34 hB fun b m L h hr hB=>type_law b m L h hr hB
 have hC:=call_pred hE
 have hO:=other_pred hK hS
 have hr':=hr
 obtain ⟨h1,h2,h3,h4⟩:=hr
 have hl:=h4.len
 have hsm:=h4.small rfl
 refine TCall.forget ?_
 unfold TCall
 refine TCallX.enter Tryz.func123 rfl 121 rfl ?_
 by_cases hk20 : a.kind=20
 ·obtain ⟨k,n,u,s⟩:=h
  obtain rfl : k=20:=h1.trans hk20
  simp only at h2 h3 h4 hl
  subst h2
  subst h3
  repeat (first|refine q1 ?_|refine q3 ?_)
  refine TO.step rfl (OT.box rfl rfl rfl rfl rfl (fun b => ?_))
  repeat (first|(first|refine q1 ?_|refine q3 ?_|refine q4 tab rfl rfl ?_|refine q5 ?_|refine q6 ?_)|(refine qs rfl (ql tab 0 rfl rfl rfl rfl rfl rfl ?_)))
  (refine TO.splitN rfl rfl (fun e1 => ?_) (fun e1 => ?_))
  ·repeat (first|refine q1 ?_|refine q3 ?_|refine q4 tab rfl rfl ?_|refine q5 ?_|refine q6 ?_|refine q8 ?_|refine q15 ?_|refine q16 rfl ?_)
   refine retQ_ret rfl (by repeat (first|exact List.Sublist.refl _|refine List.Sublist.cons _ ?_)) ⟨Mem.le_refl _,rfl, ?_⟩
   rw [stmtS_no (show headS a=false by unfold headS;rw [hk20,decide_eq_false e1];rfl)]
  repeat (first|(first|refine q4 tab rfl rfl ?_|refine q5 ?_|refine q6 ?_)|(refine qs rfl (ql tab 0 rfl rfl rfl rfl rfl rfl ?_)))
  refine TC.condN rfl (fun e2 => ?_) (fun e2 => ?_)
  ·simp only at e2
   repeat (first|refine q1 ?_|refine q3 ?_|refine q4 tab rfl rfl ?_|refine q5 ?_|refine q6 ?_|refine q8 ?_|refine q15 ?_)
   refine retQ_ret rfl (by repeat (first|exact List.Sublist.refl _|refine List.Sublist.cons _ ?_)) ⟨Mem.le_refl _,rfl, ?_⟩
   rw [stmtS_no (show headS a=false by unfold headS;rw [hk20,decide_eq_false e2];simp)]
  simp only at e2
  repeat (first|(first|refine q1 ?_|refine q2 ?_|refine q3 ?_|refine q4 tab rfl rfl ?_|refine q5 ?_|refine q6 ?_|refine q13 ?_|refine q16 rfl ?_)|(first|refine qs rfl (ql tab 0 rfl rfl rfl rfl rfl rfl ?_)|refine qs rfl (qz tab 0 rfl rfl rfl rfl rfl rfl ?_)))
  have hh : headS a=true:=by unfold headS;rw [hk20,decide_eq_true e1,decide_eq_true e2];simp
  have hspec : stmtS g a=blockS g a:=by unfold stmtS;rw [if_neg (by rw [hh];decide)];simp [hk20]
  rw [hspec]
  skip
  refine TO.step rfl (OT.call rfl rfl rfl rfl rfl rfl goes75 ((block_teller g a _ _ ⟨20,a.name,a.num,s⟩ hr' hS).x ?_));
  rintro _ _ _ ⟨rfl,rfl,rfl⟩
  repeat (first|refine q4 tab rfl rfl ?_|refine q5 ?_|refine q6 ?_|refine q8 ?_|refine q9 ?_|refine q15 ?_)
  refine retQ_ret rfl (by repeat (first|exact List.Sublist.refl _|refine List.Sublist.cons _ ?_)) ⟨Mem.le_refl _,rfl, ?_⟩
  rfl
 by_cases hk21 : a.kind=21
 ·obtain ⟨k,n,u,s⟩:=h
  obtain rfl : k=21:=h1.trans hk21
  simp only at h2 h3 h4 hl
  subst h2
  subst h3
  repeat (first|refine q1 ?_|refine q3 ?_)
  refine TO.step rfl (OT.box rfl rfl rfl rfl rfl (fun b => ?_))
  repeat (first|(first|refine q1 ?_|refine q3 ?_|refine q4 tab rfl rfl ?_|refine q5 ?_|refine q6 ?_)|(refine qs rfl (ql tab 0 rfl rfl rfl rfl rfl rfl ?_)))
  refine TC.condN rfl (fun e2 => ?_) (fun e2 => ?_)
  ·simp only at e2
   repeat (first|refine q1 ?_|refine q3 ?_|refine q4 tab rfl rfl ?_|refine q5 ?_|refine q6 ?_|refine q8 ?_|refine q15 ?_)
   refine retQ_ret rfl (by repeat (first|exact List.Sublist.refl _|refine List.Sublist.cons _ ?_)) ⟨Mem.le_refl _,rfl, ?_⟩
   rw [stmtS_no (show headS a=false by unfold headS;rw [hk21,decide_eq_false e2];simp)]
  simp only at e2
  repeat (first|(first|refine q1 ?_|refine q2 ?_|refine q3 ?_|refine q4 tab rfl rfl ?_|refine q5 ?_|refine q6 ?_|refine q13 ?_|refine q16 rfl ?_|refine q17 rfl ?_)|(first|refine qs rfl (ql tab 0 rfl rfl rfl rfl rfl rfl ?_)|refine qs rfl (qz tab 0 rfl rfl rfl rfl rfl rfl ?_)))
  have hh : headS a=true:=by unfold headS;rw [hk21,decide_eq_true e2];simp
  have hspec : stmtS g a=(isName a.name && (kidsR [Tree.isType] none a.kids || kidsR [Tree.isType,g.expr] none a.kids)):=by unfold stmtS;rw [if_neg (by rw [hh];decide)];simp [hk21]
  rw [hspec]
  skip
  refine TO.step rfl (OT.call rfl rfl rfl rfl rfl rfl goes116 ((named_law _ _ ⟨21,a.name,a.num,s⟩ a hr' hB).x ?_));
  rintro _ _ _ ⟨rfl,rfl,rfl⟩
  repeat (refine q4 tab rfl rfl ?_)
  refine TO.split rfl rfl (fun h7 => ?_) (fun h7 => ?_)
  ·repeat ((refine qs rfl (qz tab 0 rfl rfl rfl rfl rfl rfl ?_)))
   refine TO.step rfl (OT.litR tab rFn (hs:=[34]) (l:=[34]) ⟨rfl,trivial⟩ rfl rfl rfl rfl rfl (by decide) (fun s1 m1 hm1 hs1 _ _ => ?_))
   skip
   refine TO.step rfl (OT.call rfl rfl rfl rfl rfl rfl goes63 ((kids_law m1 _ ⟨21,a.name,a.num,s⟩ a (hr'.mono hm1) s1 [(34,Tree.isType)] none hs1 (pr1 hT) po0).x ?_));
   rintro _ _ _ ⟨rfl,rfl,rfl⟩
   repeat (refine q4 tab rfl rfl ?_)
   refine TO.split rfl rfl (fun h8 => ?_) (fun h8 => ?_)
   ·skip
    repeat (first|refine q4 tab rfl rfl ?_|refine q5 ?_|refine q6 ?_|refine q8 ?_|refine q9 ?_|refine q15 ?_)
    refine retQ_ret rfl (by repeat (first|exact List.Sublist.refl _|refine List.Sublist.cons _ ?_)) ⟨hm1,rfl, ?_⟩
    rw [h7,show kidsR [Tree.isType] none a.kids=true from h8];rfl
   ·repeat ((refine qs rfl (qz tab 0 rfl rfl rfl rfl rfl rfl ?_)))
    refine TO.step rfl (OT.litR tab rFn (hs:=[34,152]) (l:=[34,152]) ⟨rfl,rfl,trivial⟩ rfl rfl rfl rfl rfl (by decide) (fun s2 m2 hm2 hs2 _ _ => ?_))
    skip
    refine TO.step rfl (OT.call rfl rfl rfl rfl rfl rfl goes63 ((kids_law m2 _ ⟨21,a.name,a.num,s⟩ a (hr'.mono (Mem.le_trans hm1 hm2)) s2 [(34,Tree.isType),(152,g.expr)] none hs2 (pr2 hT hE) po0).x ?_));
    rintro _ _ _ ⟨rfl,rfl,rfl⟩
    repeat (first|refine q4 tab rfl rfl ?_|refine q5 ?_|refine q6 ?_|refine q8 ?_|refine q9 ?_|refine q15 ?_)
    refine retQ_ret rfl (by repeat (first|exact List.Sublist.refl _|refine List.Sublist.cons _ ?_)) ⟨(Mem.le_trans hm1 hm2),rfl, ?_⟩
    rw [h7,show kidsR [Tree.isType] none a.kids=false from h8];rfl
  ·skip
   repeat (first|refine q4 tab rfl rfl ?_|refine q5 ?_|refine q6 ?_|refine q8 ?_|refine q9 ?_|refine q15 ?_)
   refine retQ_ret rfl (by repeat (first|exact List.Sublist.refl _|refine List.Sublist.cons _ ?_)) ⟨Mem.le_refl _,rfl, ?_⟩
   rw [h7];rfl
 by_cases hk22 : a.kind=22
 ·obtain ⟨k,n,u,s⟩:=h
  obtain rfl : k=22:=h1.trans hk22
  simp only at h2 h3 h4 hl
  subst h2
  subst h3
  repeat (first|refine q1 ?_|refine q3 ?_)
  refine TO.step rfl (OT.box rfl rfl rfl rfl rfl (fun b => ?_))
  repeat (first|(first|refine q1 ?_|refine q3 ?_|refine q4 tab rfl rfl ?_|refine q5 ?_|refine q6 ?_)|(refine qs rfl (ql tab 0 rfl rfl rfl rfl rfl rfl ?_)))
  (refine TO.splitN rfl rfl (fun e1 => ?_) (fun e1 => ?_))
  ·repeat (first|refine q1 ?_|refine q3 ?_|refine q4 tab rfl rfl ?_|refine q5 ?_|refine q6 ?_|refine q8 ?_|refine q15 ?_|refine q16 rfl ?_)
   refine retQ_ret rfl (by repeat (first|exact List.Sublist.refl _|refine List.Sublist.cons _ ?_)) ⟨Mem.le_refl _,rfl, ?_⟩
   rw [stmtS_no (show headS a=false by unfold headS;rw [hk22,decide_eq_false e1];rfl)]
  repeat (first|(first|refine q1 ?_|refine q2 ?_|refine q3 ?_|refine q4 tab rfl rfl ?_|refine q5 ?_|refine q6 ?_|refine q13 ?_|refine q16 rfl ?_|refine q17 rfl ?_)|(refine qs rfl (ql tab 0 rfl rfl rfl rfl rfl rfl ?_)))
  have hh : headS a=true:=by unfold headS;rw [hk22,decide_eq_true e1];simp
  have hspec : stmtS g a=asgS g (nmS g) a:=by unfold stmtS;rw [if_neg (by rw [hh];decide)];simp [hk22]
  rw [hspec]
  unfold asgS
  have hp1 : IsPred 152 g.expr (a.kids.drop a.num.toNat):=⟨hE.1,fun m L x b hb=>hE.2 m L x b (List.mem_of_mem_drop hb)⟩
  have hp2':=nm_pred hE
  have hp2 : IsPred 154 (nmS g) (a.kids.take a.num.toNat):=⟨hp2'.1,fun m L x b hb=>hp2'.2 m L x b (List.mem_of_mem_take hb)⟩
  skip
  (refine TO.splitP rfl rfl (fun e3 => ?_) (fun e3 => ?_))
  ·simp only at e3
   repeat (first|(refine q4 tab rfl rfl ?_)|(refine qs rfl (ql tab 0 rfl rfl rfl rfl rfl rfl ?_)))
   (refine TO.splitP rfl rfl (fun e4 => ?_) (fun e4 => ?_))
   ·simp only at e4
    have hnum : a.num=((a.num.toNat : Nat) : Int):=by omega
    rw [decide_eq_true e3,decide_eq_true (show a.num < (a.kids.length : Int) by omega),Bool.true_and,Bool.true_and]
    repeat (first|(refine q4 tab rfl rfl ?_)|(refine qs rfl (ql tab 0 rfl rfl rfl rfl rfl rfl ?_)))
    refine TO.step rfl (OT.cut tab rTree 0 a.num.toNat h4 rfl rfl rfl rfl rfl rfl rfl (.inl ⟨rfl,rfl⟩) (.inr (by rw [← hnum])) (Nat.zero_le _) (by omega) (fun s1 hs1 => ?_))
    rw [List.drop_zero] at hs1
    repeat (refine q4 tab rfl rfl ?_)
    refine TO.step rfl (OT.call rfl rfl rfl rfl rfl rfl goes40 ((pall_law _ _ s1 _ hs1 154 (nmS g) hp2).x ?_));
    rintro _ _ _ ⟨rfl,rfl,rfl⟩
    repeat (refine q4 tab rfl rfl ?_)
    refine TO.split rfl rfl (fun h10 => ?_) (fun h10 => ?_)
    ·repeat (first|(refine q4 tab rfl rfl ?_)|(refine qs rfl (ql tab 0 rfl rfl rfl rfl rfl rfl ?_)))
     refine TO.step rfl (OT.cut tab rTree a.num.toNat s.len h4 rfl rfl rfl rfl rfl rfl rfl (.inr (by rw [← hnum])) (.inl ⟨rfl,rfl⟩) (by omega) (by omega) (fun s2 hs2 => ?_))
     rw [List.take_of_length_le (by omega)] at hs2
     skip
     refine TO.step rfl (OT.call rfl rfl rfl rfl rfl rfl goes40 ((pall_law _ _ s2 _ hs2 152 g.expr hp1).x ?_));
     rintro _ _ _ ⟨rfl,rfl,rfl⟩
     repeat (first|refine q4 tab rfl rfl ?_|refine q5 ?_|refine q6 ?_|refine q8 ?_|refine q9 ?_|refine q15 ?_)
     refine retQ_ret rfl (by repeat (first|exact List.Sublist.refl _|refine List.Sublist.cons _ ?_)) ⟨Mem.le_refl _,rfl, ?_⟩
     rw [h10];rfl
    ·skip
     repeat (first|refine q4 tab rfl rfl ?_|refine q5 ?_|refine q6 ?_|refine q8 ?_|refine q9 ?_|refine q15 ?_)
     refine retQ_ret rfl (by repeat (first|exact List.Sublist.refl _|refine List.Sublist.cons _ ?_)) ⟨Mem.le_refl _,rfl, ?_⟩
     rw [h10];rfl
   ·simp only at e4
    repeat (first|refine q4 tab rfl rfl ?_|refine q5 ?_|refine q6 ?_|refine q8 ?_|refine q9 ?_|refine q15 ?_)
    refine retQ_ret rfl (by repeat (first|exact List.Sublist.refl _|refine List.Sublist.cons _ ?_)) ⟨Mem.le_refl _,rfl, ?_⟩
    rw [decide_eq_false (show ¬ a.num < (a.kids.length : Int) by omega),Bool.false_and,Bool.and_false]
  ·simp only at e3
   repeat (first|refine q4 tab rfl rfl ?_|refine q5 ?_|refine q6 ?_|refine q8 ?_|refine q9 ?_|refine q15 ?_)
   refine retQ_ret rfl (by repeat (first|exact List.Sublist.refl _|refine List.Sublist.cons _ ?_)) ⟨Mem.le_refl _,rfl, ?_⟩
   rw [decide_eq_false e3];rfl
 by_cases hk23 : a.kind=23
 ·obtain ⟨k,n,u,s⟩:=h
  obtain rfl : k=23:=h1.trans hk23
  simp only at h2 h3 h4 hl
  subst h2
  subst h3
  repeat (first|refine q1 ?_|refine q3 ?_)
  refine TO.step rfl (OT.box rfl rfl rfl rfl rfl (fun b => ?_))
  repeat (first|(first|refine q1 ?_|refine q3 ?_|refine q4 tab rfl rfl ?_|refine q5 ?_|refine q6 ?_)|(refine qs rfl (ql tab 0 rfl rfl rfl rfl rfl rfl ?_)))
  (refine TO.splitN rfl rfl (fun e1 => ?_) (fun e1 => ?_))
  ·repeat (first|refine q1 ?_|refine q3 ?_|refine q4 tab rfl rfl ?_|refine q5 ?_|refine q6 ?_|refine q8 ?_|refine q15 ?_|refine q16 rfl ?_)
   refine retQ_ret rfl (by repeat (first|exact List.Sublist.refl _|refine List.Sublist.cons _ ?_)) ⟨Mem.le_refl _,rfl, ?_⟩
   rw [stmtS_no (show headS a=false by unfold headS;rw [hk23,decide_eq_false e1];rfl)]
  repeat (first|(first|refine q1 ?_|refine q2 ?_|refine q3 ?_|refine q4 tab rfl rfl ?_|refine q5 ?_|refine q6 ?_|refine q13 ?_|refine q16 rfl ?_|refine q17 rfl ?_)|(refine qs rfl (ql tab 0 rfl rfl rfl rfl rfl rfl ?_)))
  have hh : headS a=true:=by unfold headS;rw [hk23,decide_eq_true e1];simp
  have hspec : stmtS g a=asgS g (plS g) a:=by unfold stmtS;rw [if_neg (by rw [hh];decide)];simp [hk23]
  rw [hspec]
  unfold asgS
  have hp1 : IsPred 152 g.expr (a.kids.drop a.num.toNat):=⟨hE.1,fun m L x b hb=>hE.2 m L x b (List.mem_of_mem_drop hb)⟩
  have hp2':=pl_pred hE
  have hp2 : IsPred 153 (plS g) (a.kids.take a.num.toNat):=⟨hp2'.1,fun m L x b hb=>hp2'.2 m L x b (List.mem_of_mem_take hb)⟩
  skip
  (refine TO.splitP rfl rfl (fun e3 => ?_) (fun e3 => ?_))
  ·simp only at e3
   repeat (first|(refine q4 tab rfl rfl ?_)|(refine qs rfl (ql tab 0 rfl rfl rfl rfl rfl rfl ?_)))
   (refine TO.splitP rfl rfl (fun e4 => ?_) (fun e4 => ?_))
   ·simp only at e4
    have hnum : a.num=((a.num.toNat : Nat) : Int):=by omega
    rw [decide_eq_true e3,decide_eq_true (show a.num < (a.kids.length : Int) by omega),Bool.true_and,Bool.true_and]
    repeat (first|(refine q4 tab rfl rfl ?_)|(refine qs rfl (ql tab 0 rfl rfl rfl rfl rfl rfl ?_)))
    refine TO.step rfl (OT.cut tab rTree 0 a.num.toNat h4 rfl rfl rfl rfl rfl rfl rfl (.inl ⟨rfl,rfl⟩) (.inr (by rw [← hnum])) (Nat.zero_le _) (by omega) (fun s1 hs1 => ?_))
    rw [List.drop_zero] at hs1
    repeat (refine q4 tab rfl rfl ?_)
    refine TO.step rfl (OT.call rfl rfl rfl rfl rfl rfl goes40 ((pall_law _ _ s1 _ hs1 153 (plS g) hp2).x ?_));
    rintro _ _ _ ⟨rfl,rfl,rfl⟩
    repeat (refine q4 tab rfl rfl ?_)
    refine TO.split rfl rfl (fun h10 => ?_) (fun h10 => ?_)
    ·repeat (first|(refine q4 tab rfl rfl ?_)|(refine qs rfl (ql tab 0 rfl rfl rfl rfl rfl rfl ?_)))
     refine TO.step rfl (OT.cut tab rTree a.num.toNat s.len h4 rfl rfl rfl rfl rfl rfl rfl (.inr (by rw [← hnum])) (.inl ⟨rfl,rfl⟩) (by omega) (by omega) (fun s2 hs2 => ?_))
     rw [List.take_of_length_le (by omega)] at hs2
     skip
     refine TO.step rfl (OT.call rfl rfl rfl rfl rfl rfl goes40 ((pall_law _ _ s2 _ hs2 152 g.expr hp1).x ?_));
     rintro _ _ _ ⟨rfl,rfl,rfl⟩
     repeat (first|refine q4 tab rfl rfl ?_|refine q5 ?_|refine q6 ?_|refine q8 ?_|refine q9 ?_|refine q15 ?_)
     refine retQ_ret rfl (by repeat (first|exact List.Sublist.refl _|refine List.Sublist.cons _ ?_)) ⟨Mem.le_refl _,rfl, ?_⟩
     rw [h10];rfl
    ·skip
     repeat (first|refine q4 tab rfl rfl ?_|refine q5 ?_|refine q6 ?_|refine q8 ?_|refine q9 ?_|refine q15 ?_)
     refine retQ_ret rfl (by repeat (first|exact List.Sublist.refl _|refine List.Sublist.cons _ ?_)) ⟨Mem.le_refl _,rfl, ?_⟩
     rw [h10];rfl
   ·simp only at e4
    repeat (first|refine q4 tab rfl rfl ?_|refine q5 ?_|refine q6 ?_|refine q8 ?_|refine q9 ?_|refine q15 ?_)
    refine retQ_ret rfl (by repeat (first|exact List.Sublist.refl _|refine List.Sublist.cons _ ?_)) ⟨Mem.le_refl _,rfl, ?_⟩
    rw [decide_eq_false (show ¬ a.num < (a.kids.length : Int) by omega),Bool.false_and,Bool.and_false]
  ·simp only at e3
   repeat (first|refine q4 tab rfl rfl ?_|refine q5 ?_|refine q6 ?_|refine q8 ?_|refine q9 ?_|refine q15 ?_)
   refine retQ_ret rfl (by repeat (first|exact List.Sublist.refl _|refine List.Sublist.cons _ ?_)) ⟨Mem.le_refl _,rfl, ?_⟩
   rw [decide_eq_false e3];rfl
 by_cases hk24 : a.kind=24
 ·obtain ⟨k,n,u,s⟩:=h
  obtain rfl : k=24:=h1.trans hk24
  simp only at h2 h3 h4 hl
  subst h2
  subst h3
  repeat (first|refine q1 ?_|refine q3 ?_)
  refine TO.step rfl (OT.box rfl rfl rfl rfl rfl (fun b => ?_))
  repeat (first|(first|refine q1 ?_|refine q3 ?_|refine q4 tab rfl rfl ?_|refine q5 ?_|refine q6 ?_)|(refine qs rfl (ql tab 0 rfl rfl rfl rfl rfl rfl ?_)))
  (refine TO.splitN rfl rfl (fun e1 => ?_) (fun e1 => ?_))
  ·repeat (first|refine q1 ?_|refine q3 ?_|refine q4 tab rfl rfl ?_|refine q5 ?_|refine q6 ?_|refine q8 ?_|refine q15 ?_|refine q16 rfl ?_)
   refine retQ_ret rfl (by repeat (first|exact List.Sublist.refl _|refine List.Sublist.cons _ ?_)) ⟨Mem.le_refl _,rfl, ?_⟩
   rw [stmtS_no (show headS a=false by unfold headS;rw [hk24,decide_eq_false e1];rfl)]
  repeat (first|(first|refine q4 tab rfl rfl ?_|refine q5 ?_|refine q6 ?_)|(refine qs rfl (ql tab 0 rfl rfl rfl rfl rfl rfl ?_)))
  refine TC.condN rfl (fun e2 => ?_) (fun e2 => ?_)
  ·simp only at e2
   repeat (first|refine q1 ?_|refine q3 ?_|refine q4 tab rfl rfl ?_|refine q5 ?_|refine q6 ?_|refine q8 ?_|refine q15 ?_)
   refine retQ_ret rfl (by repeat (first|exact List.Sublist.refl _|refine List.Sublist.cons _ ?_)) ⟨Mem.le_refl _,rfl, ?_⟩
   rw [stmtS_no (show headS a=false by unfold headS;rw [hk24,decide_eq_false e2];simp)]
  simp only at e2
  repeat (first|(first|refine q1 ?_|refine q2 ?_|refine q3 ?_|refine q4 tab rfl rfl ?_|refine q5 ?_|refine q6 ?_|refine q13 ?_|refine q16 rfl ?_|refine q17 rfl ?_)|(first|refine qs rfl (ql tab 0 rfl rfl rfl rfl rfl rfl ?_)|refine qs rfl (qz tab 0 rfl rfl rfl rfl rfl rfl ?_)))
  have hh : headS a=true:=by unfold headS;rw [hk24,decide_eq_true e1,decide_eq_true e2];simp
  have hspec : stmtS g a=kidsR [callS g] none a.kids:=by unfold stmtS;rw [if_neg (by rw [hh];decide)];simp [hk24]
  rw [hspec]
  skip
  refine TO.step rfl (OT.litR tab rFn (hs:=[155]) (l:=[155]) ⟨rfl,trivial⟩ rfl rfl rfl rfl rfl (by decide) (fun s1 m1 hm1 hs1 _ _ => ?_))
  skip
  refine TO.step rfl (OT.call rfl rfl rfl rfl rfl rfl goes63 ((kids_law m1 _ ⟨24,a.name,a.num,s⟩ a (hr'.mono hm1) s1 [(155,callS g)] none hs1 (pr1 hC) po0).x ?_));
  rintro _ _ _ ⟨rfl,rfl,rfl⟩
  repeat (first|refine q4 tab rfl rfl ?_|refine q5 ?_|refine q6 ?_|refine q8 ?_|refine q9 ?_|refine q15 ?_)
  refine retQ_ret rfl (by repeat (first|exact List.Sublist.refl _|refine List.Sublist.cons _ ?_)) ⟨hm1,rfl, ?_⟩
  rfl
 by_cases hk25 : a.kind=25
 ·obtain ⟨k,n,u,s⟩:=h
  obtain rfl : k=25:=h1.trans hk25
  simp only at h2 h3 h4 hl
  subst h2
  subst h3
  repeat (first|refine q1 ?_|refine q3 ?_)
  refine TO.step rfl (OT.box rfl rfl rfl rfl rfl (fun b => ?_))
  repeat (first|(first|refine q1 ?_|refine q3 ?_|refine q4 tab rfl rfl ?_|refine q5 ?_|refine q6 ?_)|(refine qs rfl (ql tab 0 rfl rfl rfl rfl rfl rfl ?_)))
  (refine TO.splitN rfl rfl (fun e1 => ?_) (fun e1 => ?_))
  ·repeat (first|refine q1 ?_|refine q3 ?_|refine q4 tab rfl rfl ?_|refine q5 ?_|refine q6 ?_|refine q8 ?_|refine q15 ?_|refine q16 rfl ?_)
   refine retQ_ret rfl (by repeat (first|exact List.Sublist.refl _|refine List.Sublist.cons _ ?_)) ⟨Mem.le_refl _,rfl, ?_⟩
   rw [stmtS_no (show headS a=false by unfold headS;rw [hk25,decide_eq_false e1];rfl)]
  repeat (first|(first|refine q4 tab rfl rfl ?_|refine q5 ?_|refine q6 ?_)|(refine qs rfl (ql tab 0 rfl rfl rfl rfl rfl rfl ?_)))
  refine TC.condN rfl (fun e2 => ?_) (fun e2 => ?_)
  ·simp only at e2
   repeat (first|refine q1 ?_|refine q3 ?_|refine q4 tab rfl rfl ?_|refine q5 ?_|refine q6 ?_|refine q8 ?_|refine q15 ?_)
   refine retQ_ret rfl (by repeat (first|exact List.Sublist.refl _|refine List.Sublist.cons _ ?_)) ⟨Mem.le_refl _,rfl, ?_⟩
   rw [stmtS_no (show headS a=false by unfold headS;rw [hk25,decide_eq_false e2];simp)]
  simp only at e2
  repeat (first|(first|refine q1 ?_|refine q2 ?_|refine q3 ?_|refine q4 tab rfl rfl ?_|refine q5 ?_|refine q6 ?_|refine q13 ?_|refine q16 rfl ?_|refine q17 rfl ?_)|(first|refine qs rfl (ql tab 0 rfl rfl rfl rfl rfl rfl ?_)|refine qs rfl (qz tab 0 rfl rfl rfl rfl rfl rfl ?_)))
  have hh : headS a=true:=by unfold headS;rw [hk25,decide_eq_true e1,decide_eq_true e2];simp
  have hspec : stmtS g a=(kidsR [g.expr,g.block] none a.kids || kidsR [g.expr,g.block,otherS g] none a.kids):=by unfold stmtS;rw [if_neg (by rw [hh];decide)];simp [hk25]
  rw [hspec]
  skip
  refine TO.step rfl (OT.litR tab rFn (hs:=[152,75]) (l:=[152,75]) ⟨rfl,rfl,trivial⟩ rfl rfl rfl rfl rfl (by decide) (fun s1 m1 hm1 hs1 _ _ => ?_))
  skip
  refine TO.step rfl (OT.call rfl rfl rfl rfl rfl rfl goes63 ((kids_law m1 _ ⟨25,a.name,a.num,s⟩ a (hr'.mono hm1) s1 [(152,g.expr),(75,g.block)] none hs1 (pr2 hE hK) po0).x ?_));
  rintro _ _ _ ⟨rfl,rfl,rfl⟩
  repeat (refine q4 tab rfl rfl ?_)
  refine TO.split rfl rfl (fun h8 => ?_) (fun h8 => ?_)
  ·skip
   repeat (first|refine q4 tab rfl rfl ?_|refine q5 ?_|refine q6 ?_|refine q8 ?_|refine q9 ?_|refine q15 ?_)
   refine retQ_ret rfl (by repeat (first|exact List.Sublist.refl _|refine List.Sublist.cons _ ?_)) ⟨hm1,rfl, ?_⟩
   rw [show kidsR [g.expr,g.block] none a.kids=true from h8];rfl
  ·repeat (first|(refine q4 tab rfl rfl ?_)|(refine qs rfl (qz tab 0 rfl rfl rfl rfl rfl rfl ?_)))
   refine TO.step rfl (OT.litR tab rFn (hs:=[152,75,156]) (l:=[152,75,156]) ⟨rfl,rfl,rfl,trivial⟩ rfl rfl rfl rfl rfl (by decide) (fun s2 m2 hm2 hs2 _ _ => ?_))
   skip
   refine TO.step rfl (OT.call rfl rfl rfl rfl rfl rfl goes63 ((kids_law m2 _ ⟨25,a.name,a.num,s⟩ a (hr'.mono (Mem.le_trans hm1 hm2)) s2 [(152,g.expr),(75,g.block),(156,otherS g)] none hs2 (pr3 hE hK hO) po0).x ?_));
   rintro _ _ _ ⟨rfl,rfl,rfl⟩
   repeat (first|refine q4 tab rfl rfl ?_|refine q5 ?_|refine q6 ?_|refine q8 ?_|refine q9 ?_|refine q15 ?_)
   refine retQ_ret rfl (by repeat (first|exact List.Sublist.refl _|refine List.Sublist.cons _ ?_)) ⟨(Mem.le_trans hm1 hm2),rfl, ?_⟩
   rw [show kidsR [g.expr,g.block] none a.kids=false from h8];rfl
 by_cases hk26 : a.kind=26
 ·obtain ⟨k,n,u,s⟩:=h
  obtain rfl : k=26:=h1.trans hk26
  simp only at h2 h3 h4 hl
  subst h2
  subst h3
  repeat (first|refine q1 ?_|refine q3 ?_)
  refine TO.step rfl (OT.box rfl rfl rfl rfl rfl (fun b => ?_))
  repeat (first|(first|refine q1 ?_|refine q3 ?_|refine q4 tab rfl rfl ?_|refine q5 ?_|refine q6 ?_)|(refine qs rfl (ql tab 0 rfl rfl rfl rfl rfl rfl ?_)))
  (refine TO.splitN rfl rfl (fun e1 => ?_) (fun e1 => ?_))
  ·repeat (first|refine q1 ?_|refine q3 ?_|refine q4 tab rfl rfl ?_|refine q5 ?_|refine q6 ?_|refine q8 ?_|refine q15 ?_|refine q16 rfl ?_)
   refine retQ_ret rfl (by repeat (first|exact List.Sublist.refl _|refine List.Sublist.cons _ ?_)) ⟨Mem.le_refl _,rfl, ?_⟩
   rw [stmtS_no (show headS a=false by unfold headS;rw [hk26,decide_eq_false e1];rfl)]
  repeat (first|(first|refine q4 tab rfl rfl ?_|refine q5 ?_|refine q6 ?_)|(refine qs rfl (ql tab 0 rfl rfl rfl rfl rfl rfl ?_)))
  refine TC.condN rfl (fun e2 => ?_) (fun e2 => ?_)
  ·simp only at e2
   repeat (first|refine q1 ?_|refine q3 ?_|refine q4 tab rfl rfl ?_|refine q5 ?_|refine q6 ?_|refine q8 ?_|refine q15 ?_)
   refine retQ_ret rfl (by repeat (first|exact List.Sublist.refl _|refine List.Sublist.cons _ ?_)) ⟨Mem.le_refl _,rfl, ?_⟩
   rw [stmtS_no (show headS a=false by unfold headS;rw [hk26,decide_eq_false e2];simp)]
  simp only at e2
  repeat (first|(first|refine q1 ?_|refine q2 ?_|refine q3 ?_|refine q4 tab rfl rfl ?_|refine q5 ?_|refine q6 ?_|refine q13 ?_|refine q16 rfl ?_|refine q17 rfl ?_)|(first|refine qs rfl (ql tab 0 rfl rfl rfl rfl rfl rfl ?_)|refine qs rfl (qz tab 0 rfl rfl rfl rfl rfl rfl ?_)))
  have hh : headS a=true:=by unfold headS;rw [hk26,decide_eq_true e1,decide_eq_true e2];simp
  have hspec : stmtS g a=(kidsR [g.block] none a.kids || kidsR [g.expr,g.block] none a.kids):=by unfold stmtS;rw [if_neg (by rw [hh];decide)];simp [hk26]
  rw [hspec]
  skip
  refine TO.step rfl (OT.litR tab rFn (hs:=[75]) (l:=[75]) ⟨rfl,trivial⟩ rfl rfl rfl rfl rfl (by decide) (fun s1 m1 hm1 hs1 _ _ => ?_))
  skip
  refine TO.step rfl (OT.call rfl rfl rfl rfl rfl rfl goes63 ((kids_law m1 _ ⟨26,a.name,a.num,s⟩ a (hr'.mono hm1) s1 [(75,g.block)] none hs1 (pr1 hK) po0).x ?_));
  rintro _ _ _ ⟨rfl,rfl,rfl⟩
  repeat (refine q4 tab rfl rfl ?_)
  refine TO.split rfl rfl (fun h8 => ?_) (fun h8 => ?_)
  ·skip
   repeat (first|refine q4 tab rfl rfl ?_|refine q5 ?_|refine q6 ?_|refine q8 ?_|refine q9 ?_|refine q15 ?_)
   refine retQ_ret rfl (by repeat (first|exact List.Sublist.refl _|refine List.Sublist.cons _ ?_)) ⟨hm1,rfl, ?_⟩
   rw [show kidsR [g.block] none a.kids=true from h8];rfl
  ·repeat ((refine qs rfl (qz tab 0 rfl rfl rfl rfl rfl rfl ?_)))
   refine TO.step rfl (OT.litR tab rFn (hs:=[152,75]) (l:=[152,75]) ⟨rfl,rfl,trivial⟩ rfl rfl rfl rfl rfl (by decide) (fun s2 m2 hm2 hs2 _ _ => ?_))
   skip
   refine TO.step rfl (OT.call rfl rfl rfl rfl rfl rfl goes63 ((kids_law m2 _ ⟨26,a.name,a.num,s⟩ a (hr'.mono (Mem.le_trans hm1 hm2)) s2 [(152,g.expr),(75,g.block)] none hs2 (pr2 hE hK) po0).x ?_));
   rintro _ _ _ ⟨rfl,rfl,rfl⟩
   repeat (first|refine q4 tab rfl rfl ?_|refine q5 ?_|refine q6 ?_|refine q8 ?_|refine q9 ?_|refine q15 ?_)
   refine retQ_ret rfl (by repeat (first|exact List.Sublist.refl _|refine List.Sublist.cons _ ?_)) ⟨(Mem.le_trans hm1 hm2),rfl, ?_⟩
   rw [show kidsR [g.block] none a.kids=false from h8];rfl
 by_cases hk27 : a.kind=27
 ·obtain ⟨k,n,u,s⟩:=h
  obtain rfl : k=27:=h1.trans hk27
  simp only at h2 h3 h4 hl
  subst h2
  subst h3
  repeat (first|refine q1 ?_|refine q3 ?_)
  refine TO.step rfl (OT.box rfl rfl rfl rfl rfl (fun b => ?_))
  repeat (first|(first|refine q1 ?_|refine q3 ?_|refine q4 tab rfl rfl ?_|refine q5 ?_|refine q6 ?_)|(refine qs rfl (ql tab 0 rfl rfl rfl rfl rfl rfl ?_)))
  (refine TO.splitN rfl rfl (fun e1 => ?_) (fun e1 => ?_))
  ·repeat (first|refine q1 ?_|refine q3 ?_|refine q4 tab rfl rfl ?_|refine q5 ?_|refine q6 ?_|refine q8 ?_|refine q15 ?_|refine q16 rfl ?_)
   refine retQ_ret rfl (by repeat (first|exact List.Sublist.refl _|refine List.Sublist.cons _ ?_)) ⟨Mem.le_refl _,rfl, ?_⟩
   rw [stmtS_no (show headS a=false by unfold headS;rw [hk27,decide_eq_false e1];rfl)]
  repeat (first|(first|refine q4 tab rfl rfl ?_|refine q5 ?_|refine q6 ?_)|(refine qs rfl (ql tab 0 rfl rfl rfl rfl rfl rfl ?_)))
  refine TC.condN rfl (fun e2 => ?_) (fun e2 => ?_)
  ·simp only at e2
   repeat (first|refine q1 ?_|refine q3 ?_|refine q4 tab rfl rfl ?_|refine q5 ?_|refine q6 ?_|refine q8 ?_|refine q15 ?_)
   refine retQ_ret rfl (by repeat (first|exact List.Sublist.refl _|refine List.Sublist.cons _ ?_)) ⟨Mem.le_refl _,rfl, ?_⟩
   rw [stmtS_no (show headS a=false by unfold headS;rw [hk27,decide_eq_false e2];simp)]
  simp only at e2
  repeat (first|(first|refine q1 ?_|refine q2 ?_|refine q3 ?_|refine q4 tab rfl rfl ?_|refine q5 ?_|refine q6 ?_|refine q13 ?_|refine q16 rfl ?_|refine q17 rfl ?_)|(refine qs rfl (ql tab 0 rfl rfl rfl rfl rfl rfl ?_)))
  have hh : headS a=true:=by unfold headS;rw [hk27,decide_eq_true e1,decide_eq_true e2];simp
  have hspec : stmtS g a=a.kids.all g.expr:=by unfold stmtS;rw [if_neg (by rw [hh];decide)];simp [hk27]
  rw [hspec]
  skip
  refine TO.step rfl (OT.call rfl rfl rfl rfl rfl rfl goes40 ((pall_law _ _ s a.kids h4 152 g.expr hE).x ?_));
  rintro _ _ _ ⟨rfl,rfl,rfl⟩
  repeat (first|refine q4 tab rfl rfl ?_|refine q5 ?_|refine q6 ?_|refine q8 ?_|refine q9 ?_|refine q15 ?_)
  refine retQ_ret rfl (by repeat (first|exact List.Sublist.refl _|refine List.Sublist.cons _ ?_)) ⟨Mem.le_refl _,rfl, ?_⟩
  rfl
 by_cases hk28 : a.kind=28
 ·obtain ⟨k,n,u,s⟩:=h
  obtain rfl : k=28:=h1.trans hk28
  simp only at h2 h3 h4 hl
  subst h2
  subst h3
  repeat (first|refine q1 ?_|refine q3 ?_)
  refine TO.step rfl (OT.box rfl rfl rfl rfl rfl (fun b => ?_))
  repeat (first|(first|refine q1 ?_|refine q3 ?_|refine q4 tab rfl rfl ?_|refine q5 ?_|refine q6 ?_)|(refine qs rfl (ql tab 0 rfl rfl rfl rfl rfl rfl ?_)))
  (refine TO.splitN rfl rfl (fun e1 => ?_) (fun e1 => ?_))
  ·repeat (first|refine q1 ?_|refine q3 ?_|refine q4 tab rfl rfl ?_|refine q5 ?_|refine q6 ?_|refine q8 ?_|refine q15 ?_|refine q16 rfl ?_)
   refine retQ_ret rfl (by repeat (first|exact List.Sublist.refl _|refine List.Sublist.cons _ ?_)) ⟨Mem.le_refl _,rfl, ?_⟩
   rw [stmtS_no (show headS a=false by unfold headS;rw [hk28,decide_eq_false e1];rfl)]
  repeat (first|(first|refine q4 tab rfl rfl ?_|refine q5 ?_|refine q6 ?_)|(refine qs rfl (ql tab 0 rfl rfl rfl rfl rfl rfl ?_)))
  refine TC.condN rfl (fun e2 => ?_) (fun e2 => ?_)
  ·simp only at e2
   repeat (first|refine q1 ?_|refine q3 ?_|refine q4 tab rfl rfl ?_|refine q5 ?_|refine q6 ?_|refine q8 ?_|refine q15 ?_)
   refine retQ_ret rfl (by repeat (first|exact List.Sublist.refl _|refine List.Sublist.cons _ ?_)) ⟨Mem.le_refl _,rfl, ?_⟩
   rw [stmtS_no (show headS a=false by unfold headS;rw [hk28,decide_eq_false e2];simp)]
  simp only at e2
  repeat (first|(first|refine q1 ?_|refine q2 ?_|refine q3 ?_|refine q4 tab rfl rfl ?_|refine q5 ?_|refine q6 ?_|refine q13 ?_|refine q16 rfl ?_|refine q17 rfl ?_)|(first|refine qs rfl (ql tab 0 rfl rfl rfl rfl rfl rfl ?_)|refine qs rfl (qz tab 0 rfl rfl rfl rfl rfl rfl ?_)))
  have hh : headS a=true:=by unfold headS;rw [hk28,decide_eq_true e1,decide_eq_true e2];simp
  have hspec : stmtS g a=kidsR [] none a.kids:=by unfold stmtS;rw [if_neg (by rw [hh];decide)];simp [hk28]
  rw [hspec]
  skip
  refine TO.step rfl (OT.call rfl rfl rfl rfl rfl rfl goes63 ((kids_law m _ ⟨28,a.name,a.num,s⟩ a hr' ⟨none,0,0⟩ [] none (SlRep.nil _ _) pr0 po0).x ?_));
  rintro _ _ _ ⟨rfl,rfl,rfl⟩
  repeat (first|refine q4 tab rfl rfl ?_|refine q5 ?_|refine q6 ?_|refine q8 ?_|refine q9 ?_|refine q15 ?_)
  refine retQ_ret rfl (by repeat (first|exact List.Sublist.refl _|refine List.Sublist.cons _ ?_)) ⟨(Mem.le_refl _),rfl, ?_⟩
  rfl
 by_cases hk29 : a.kind=29
 ·obtain ⟨k,n,u,s⟩:=h
  obtain rfl : k=29:=h1.trans hk29
  simp only at h2 h3 h4 hl
  subst h2
  subst h3
  repeat (first|refine q1 ?_|refine q3 ?_)
  refine TO.step rfl (OT.box rfl rfl rfl rfl rfl (fun b => ?_))
  repeat (first|(first|refine q1 ?_|refine q3 ?_|refine q4 tab rfl rfl ?_|refine q5 ?_|refine q6 ?_)|(refine qs rfl (ql tab 0 rfl rfl rfl rfl rfl rfl ?_)))
  (refine TO.splitN rfl rfl (fun e1 => ?_) (fun e1 => ?_))
  ·repeat (first|refine q1 ?_|refine q3 ?_|refine q4 tab rfl rfl ?_|refine q5 ?_|refine q6 ?_|refine q8 ?_|refine q15 ?_|refine q16 rfl ?_)
   refine retQ_ret rfl (by repeat (first|exact List.Sublist.refl _|refine List.Sublist.cons _ ?_)) ⟨Mem.le_refl _,rfl, ?_⟩
   rw [stmtS_no (show headS a=false by unfold headS;rw [hk29,decide_eq_false e1];rfl)]
  repeat (first|(first|refine q4 tab rfl rfl ?_|refine q5 ?_|refine q6 ?_)|(refine qs rfl (ql tab 0 rfl rfl rfl rfl rfl rfl ?_)))
  refine TC.condN rfl (fun e2 => ?_) (fun e2 => ?_)
  ·simp only at e2
   repeat (first|refine q1 ?_|refine q3 ?_|refine q4 tab rfl rfl ?_|refine q5 ?_|refine q6 ?_|refine q8 ?_|refine q15 ?_)
   refine retQ_ret rfl (by repeat (first|exact List.Sublist.refl _|refine List.Sublist.cons _ ?_)) ⟨Mem.le_refl _,rfl, ?_⟩
   rw [stmtS_no (show headS a=false by unfold headS;rw [hk29,decide_eq_false e2];simp)]
  simp only at e2
  repeat (first|(first|refine q1 ?_|refine q2 ?_|refine q3 ?_|refine q4 tab rfl rfl ?_|refine q5 ?_|refine q6 ?_|refine q13 ?_|refine q16 rfl ?_|refine q17 rfl ?_)|(first|refine qs rfl (ql tab 0 rfl rfl rfl rfl rfl rfl ?_)|refine qs rfl (qz tab 0 rfl rfl rfl rfl rfl rfl ?_)))
  have hh : headS a=true:=by unfold headS;rw [hk29,decide_eq_true e1,decide_eq_true e2];simp
  have hspec : stmtS g a=kidsR [] none a.kids:=by unfold stmtS;rw [if_neg (by rw [hh];decide)];simp [hk29]
  rw [hspec]
  skip
  refine TO.step rfl (OT.call rfl rfl rfl rfl rfl rfl goes63 ((kids_law m _ ⟨29,a.name,a.num,s⟩ a hr' ⟨none,0,0⟩ [] none (SlRep.nil _ _) pr0 po0).x ?_));
  rintro _ _ _ ⟨rfl,rfl,rfl⟩
  repeat (first|refine q4 tab rfl rfl ?_|refine q5 ?_|refine q6 ?_|refine q8 ?_|refine q9 ?_|refine q15 ?_)
  refine retQ_ret rfl (by repeat (first|exact List.Sublist.refl _|refine List.Sublist.cons _ ?_)) ⟨(Mem.le_refl _),rfl, ?_⟩
  rfl
 have hspec : stmtS g a=false:=by
  unfold stmtS
  split
  ·rfl
  ·simp [hk20,hk21,hk22,hk23,hk24,hk25,hk26,hk27,hk28,hk29]
 rw [hspec]
 repeat (first|refine q1 ?_|refine q3 ?_)
 refine TO.step rfl (OT.box rfl rfl rfl rfl rfl (fun b => ?_))
 repeat' (first|(first|refine q1 ?_|refine q2 ?_|refine q3 ?_|refine q4 tab rfl rfl ?_|refine q5 ?_|refine q6 ?_|refine q8 ?_|refine q13 ?_|refine q15 ?_|refine q16 rfl ?_|refine q17 rfl ?_)|(refine qs rfl (ql tab 0 rfl rfl rfl rfl rfl rfl ?_))|(first|refine TO.splitP rfl rfl (fun hb => ?_) (fun hb => ?_)|refine TO.splitN rfl rfl (fun hb => ?_) (fun hb => ?_)))
 all_goals try omega
 all_goals first | exact retQ_ret rfl (by repeat (first|exact List.Sublist.refl _|refine List.Sublist.cons _ ?_)) ⟨Mem.le_refl _,rfl,rfl⟩ | skip
 all_goals
  repeat' (first|(first|refine q1 ?_|refine q2 ?_|refine q3 ?_|refine q4 tab rfl rfl ?_|refine q5 ?_|refine q6 ?_|refine q7 ?_|refine q8 ?_|refine q13 ?_|refine q15 ?_)|(refine qs rfl (ql tab 0 rfl rfl rfl rfl rfl rfl ?_))|(refine TC.condP rfl (fun h5=>(by omega)) (fun h5 => ?_))|(refine TC.condN rfl (fun h5 => ?_) (fun h5 => ?_)))
 all_goals first | exact retQ_ret rfl (by repeat (first|exact List.Sublist.refl _|refine List.Sublist.cons _ ?_)) ⟨Mem.le_refl _,rfl,rfl⟩ | omega
end Go.Sep


/- PsW11 -/
set_option linter.unusedVariables false
set_option linter.unusedSimpArgs false
namespace Go.Sep
open Go.Proofs
attribute [local irreducible] TC TO OT TCallX TCall DO DOt thenQ blockQ retQ At
def ParAt {α : Type} (P : Program) (E : PE) (V : RV α) (f : FuncId) (args : List Value) (h : Int) (X : Ps.Pp α) (m : Mem) (L : List Item) (k : Nat) : Prop :=
 X E.f k ≠ .out→TCallX P f ⟨args⟩ m (E.I k h :: L) (pR E V (X E.f k) m L h) (pX E (X E.f k) m L)
theorem ParAt.enter {α : Type} {P : Program} {E : PE} {V : RV α} {f : FuncId} {args : List Value} {h : Int} {X : Ps.Pp α} {m : Mem} {L : List Item} {k : Nat} {fn : Func} {c : Code} (hf : P.funcs[f]? = some fn) (hb : fn.body=some c) (N : Nat) (hN : Nat.ble N fn.ntmps=true)
  (hK : ∀ (T : Ps.Res α),T=X E.f k→T ≠ .out→TC P N c (argEnv args 0) [] m (E.I k h :: L) (retQ P fn (pR E V T m L h) (pX E T m L))) : ParAt P E V f args h X m L k :=
 fun h3=>TCallX.enter hf hb N hN (hK _ rfl h3)
theorem Par.at {α : Type} {P : Program} {mb : Mem} {E : PE} {V : RV α} {f : FuncId} {args : List Value} {h : Int} {X : Ps.Pp α} (hp : Par P mb E V f args h X) {m : Mem} (L : List Item) {k : Nat} (hm : mb ≤ m) (hE : E.Ok m) (hk : k ≤ E.toks.length) : ParAt P E V f args h X m L k:=hp m L k hm hE hk
section
variable {P : Program} {N : Nat} {ρ : Env} {m : Mem} {L : List Item} {Q : EPost} {o : Oper} {K : Env→Mem→List Item→Prop} {E : PE} {α β : Type}
theorem OT.parGA {V : RV α} {FF : Operand} {args : List Operand} {ats : Array TypeId} {f : FuncId} {first cap vs all : List Value} {d : Nat} {h : Int} {p : Ps.Pp α} {g : α → Ps.Pp β} {T : Ps.Res β} {k : Nat} {m0 : Mem} {L0 : List Item}
  (ho : o.op = .call ⟨.value FF,⟨args⟩,ats⟩) (hd : o.dst=some d) (hN : Nat.blt d N=true)
  (hF : ev ρ FF=some (.func (.func f) ⟨first⟩ ⟨cap⟩)) (ha : evs ρ args=some vs) (hall : fl (first++(vs++cap))=some all) (hg : Goes P f)
  (hp : ParAt P E V f all h p m L k) (hT : T=Ps.bind p g E.f k) (hn : T ≠ .out) (hb : Bad Q E T m0 L0) (hm : m0 ≤ m) (hL : L0.Sublist L)
  (hK : ∀ v m' a k' xs,T=g a E.f k' → m ≤ m' → k' ≤ E.toks.length→V m' v xs a→K ((d,v) :: ρ) m' (E.I k' h :: (xs++L))) : OT P N o ρ [] m (E.I k h :: L) Q K:=by
 refine OT.call ho hd hN hF ha hall hg (TCallX.mono (hp (bind_out' hT hn)) ?_ ?_)
 ·rintro v m' L' ⟨a,k',xs,h1,h2,h3,h4,rfl⟩
  exact hK v m' a k' xs (by rw [hT];unfold Ps.bind;rw [h1]) h2 h3 h4
 ·rintro ch m' L' ⟨k',h',h1,h2,h3,rfl,rfl⟩
  exact hb _ _ _ _ _ (Mem.le_trans hm h2) h3 (by rw [hT];unfold Ps.bind;rw [h1]) hL
variable {FF : Operand} {args : List Operand} {ats : Array TypeId} {f : FuncId} {first cap vs all : List Value} {d : Nat} {h : Int} {T : Ps.Res β} {k : Nat} {m0 : Mem} {L0 : List Item}
theorem OT.parTA {p : Ps.Pp Tree} {g : Tree→Ps.Pp β} (hp : ParAt P E vTree f all h p m L k) (hT : T=Ps.bind p g E.f k) (hn : T ≠ .out) (hE : E.Ok m) (hb : Bad Q E T m0 L0) (hm : m0 ≤ m) (hL : L0.Sublist L)
  (ho : o.op = .call ⟨.value FF,⟨args⟩,ats⟩) (hd : o.dst=some d) (hN : Nat.blt d N=true)
  (hF : ev ρ FF=some (.func (.func f) ⟨first⟩ ⟨cap⟩)) (ha : evs ρ args=some vs) (hall : fl (first++(vs++cap))=some all) (hg : Goes P f)
  (hK : ∀ x m' a k',T=g a E.f k' → m0 ≤ m' → E.Ok m' → m ≤ m' → k' ≤ E.toks.length→TreeRep m' x a→K ((d,treeV x) :: ρ) m' (E.I k' h :: L)) : OT P N o ρ [] m (E.I k h :: L) Q K :=
 OT.parGA ho hd hN hF ha hall hg hp hT hn hb hm hL fun v m' a k' xs h1 h2 h3 h4=>by
  obtain ⟨x,rfl,rfl,h5⟩:=h4
  exact hK x m' a k' h1 (Mem.le_trans hm h2) (hE.mono h2) h2 h3 h5
theorem OT.parSA {p : Ps.Pp (List Tree)} {g : List Tree→Ps.Pp β} (hp : ParAt P E vSl f all h p m L k) (hT : T=Ps.bind p g E.f k) (hn : T ≠ .out) (hE : E.Ok m) (hb : Bad Q E T m0 L0) (hm : m0 ≤ m) (hL : L0.Sublist L)
  (ho : o.op = .call ⟨.value FF,⟨args⟩,ats⟩) (hd : o.dst=some d) (hN : Nat.blt d N=true)
  (hF : ev ρ FF=some (.func (.func f) ⟨first⟩ ⟨cap⟩)) (ha : evs ρ args=some vs) (hall : fl (first++(vs++cap))=some all) (hg : Goes P f)
  (hK : ∀ (x : Sl) m' a k',T=g a E.f k' → m0 ≤ m' → E.Ok m' → m ≤ m' → k' ≤ E.toks.length→SlRep rTree m' x a→a.length ≤ 20001→K ((d,x.v) :: ρ) m' (E.I k' h :: L)) : OT P N o ρ [] m (E.I k h :: L) Q K :=
 OT.parGA ho hd hN hF ha hall hg hp hT hn hb hm hL fun v m' a k' xs h1 h2 h3 h4=>by
  obtain ⟨x,rfl,rfl,h5,h6⟩:=h4
  exact hK x m' a k' h1 (Mem.le_trans hm h2) (hE.mono h2) h2 h3 h5 h6
end
section
variable {mb : Mem} {E : PE} {h : Int}
theorem inside_at {f : FuncId} {first cap all : List Value} {X : Ps.Pp Tree} {m : Mem} {L : List Item} {k : Nat} (hall : fl (first++([]++cap))=some all) (hg : Goes Tryz.prog f) (hE : E.Ok m)
  (hX : ∀ b,ParAt Tryz.prog E vTree f all 0 X m (.cells b 0 [.int .i64 0,strV [], .int .i64 0, .slice none 0 0] :: L) k) :
  ParAt Tryz.prog E vTree 206 [E.v, .func (.func f) ⟨first⟩ ⟨cap⟩] h X m L k:=by
 refine ParAt.enter Tryz.func206 rfl 21 rfl fun T hT hn => ?_
 have hm : m ≤ m:=Mem.le_refl _
 rw [← Ps.bind_ret X] at hT
 repeat (first|refine q1 ?_|refine q3 ?_)
 refine TO.step rfl (OT.alloc tab rfl rfl rfl rfl (fun b4 => ?_));refine TO.perm (List.Perm.swap _ _ _) ?_
 repeat (first|refine q1 ?_|refine q3 ?_|refine q4 tab rfl rfl ?_|refine q5 ?_|refine q6 ?_)
 (refine qs rfl (ql tab 0 rfl rfl rfl rfl rfl rfl ?_))
 repeat (first|refine q1 ?_|refine q3 ?_|refine q4 tab rfl rfl ?_|refine q5 ?_|refine q6 ?_)
 refine TO.step rfl (OT.storeL (k:=3) tab 0 rfl rfl rfl rfl rfl rfl rfl rfl ?_)
 repeat (first|refine q1 ?_|refine q3 ?_|refine q4 tab rfl rfl ?_|refine q5 ?_|refine q6 ?_)
 refine TO.step rfl (OT.parTA (L0:=L) (hX b4) hT hn hE (by repeat (first|exact Bad.ret|refine Bad.then ?_)) hm (by repeat (first|exact List.Sublist.refl _|refine List.Sublist.cons _ ?_)) rfl rfl rfl rfl rfl hall hg (fun x m2 a k2 hT hm hE hle hk hrx => ?_))
 skip
 refine TO.step rfl (OT.alloc tab rfl rfl rfl rfl (fun b6 => ?_));refine TO.perm (List.Perm.swap _ _ _) ?_
 skip
 (refine TO.step rfl (OT.storeL0 tab 1 rfl rfl rfl rfl rfl rfl rfl rfl ?_))
 repeat (first|refine q1 ?_|refine q3 ?_|refine q4 tab rfl rfl ?_|refine q5 ?_|refine q6 ?_)
 refine TO.step rfl (OT.storeL (k:=3) tab 0 rfl rfl rfl rfl rfl rfl rfl rfl ?_)
 repeat (first|refine q1 ?_|refine q3 ?_|refine q5 ?_|refine q6 ?_)
 (refine qs rfl (qz tab 1 rfl rfl rfl rfl rfl rfl ?_))
 skip
 refine TO.step rfl (OT.storeL0 tab 2 rfl rfl rfl rfl rfl rfl rfl rfl ?_)
 repeat (first|refine q5 ?_|refine q6 ?_|refine q15 ?_)
 refine retQ_ret_c1 tab 2 rfl rfl rfl rfl (L':=E.I k2 h :: L) (by repeat (first|exact List.Sublist.refl _|refine List.Sublist.cons_cons _ ?_|refine List.Sublist.cons _ ?_)) ⟨_,k2,[],hT,hm,hk,⟨x,rfl,rfl,hrx⟩,rfl⟩
theorem insideS_at {f : FuncId} {first cap all : List Value} {X : Ps.Pp (List Tree)} {m : Mem} {L : List Item} {k : Nat} (hall : fl (first++([]++cap))=some all) (hg : Goes Tryz.prog f) (hE : E.Ok m)
  (hX : ParAt Tryz.prog E vSl f all 0 X m L k) :
  ParAt Tryz.prog E vSl 211 [E.v, .func (.func f) ⟨first⟩ ⟨cap⟩] h X m L k:=by
 refine ParAt.enter Tryz.func211 rfl 21 rfl fun T hT hn => ?_
 have hm : m ≤ m:=Mem.le_refl _
 rw [← Ps.bind_ret X] at hT
 repeat (first|refine q1 ?_|refine q3 ?_|refine q4 tab rfl rfl ?_|refine q5 ?_|refine q6 ?_)
 (refine qs rfl (ql tab 0 rfl rfl rfl rfl rfl rfl ?_))
 repeat (first|refine q1 ?_|refine q3 ?_|refine q4 tab rfl rfl ?_|refine q5 ?_|refine q6 ?_)
 refine TO.step rfl (OT.storeL (k:=3) tab 0 rfl rfl rfl rfl rfl rfl rfl rfl ?_)
 repeat (first|refine q1 ?_|refine q3 ?_|refine q4 tab rfl rfl ?_|refine q5 ?_|refine q6 ?_)
 refine TO.step rfl (OT.parSA (L0:=L) hX hT hn hE (by repeat (first|exact Bad.ret|refine Bad.then ?_)) hm (by repeat (exact List.Sublist.refl _)) rfl rfl rfl rfl rfl hall hg (fun x m2 a k2 hT hm hE hle hk hrx hlx => ?_))
 repeat (first|refine q1 ?_|refine q3 ?_|refine q4 tab rfl rfl ?_|refine q5 ?_|refine q6 ?_)
 refine TO.step rfl (OT.storeL (k:=3) tab 0 rfl rfl rfl rfl rfl rfl rfl rfl ?_)
 repeat (first|refine q1 ?_|refine q3 ?_|refine q4 tab rfl rfl ?_|refine q5 ?_|refine q6 ?_|refine q15 ?_)
 refine retQ_ret rfl (L':=E.I k2 h :: L) (by repeat (exact List.Sublist.refl _)) ⟨_,k2,[],hT,hm,hk,⟨x,rfl,rfl,hrx,hlx⟩,rfl⟩
theorem exprs_par {Y : Ps.Pp Tree} (hY : Par Tryz.prog mb E vTree 191 [E.v] h Y) (e : Str) :
  Par Tryz.prog mb E vSl 210 [E.v,strV e] h (Ps.exprsP E.N e Y):=by
 refine Par.enter Tryz.func210 rfl 17 rfl fun m L k T hm0 hE hk hT hn => ?_
 replace hY:=hY.up hm0
 have hm : m ≤ m:=Mem.le_refl _
 unfold Ps.exprsP Ps.inP at hT
 repeat (first|refine q1 ?_|refine q3 ?_|refine q4 tab rfl rfl ?_|refine q5 ?_|refine q6 ?_)
 refine TO.step rfl (OT.takeP hT hE hk rfl rfl rfl rfl rfl rfl (fun hT hk => ?_) (fun hT => ?_))
 ·repeat (first|refine q1 ?_|refine q3 ?_|refine q4 tab rfl rfl ?_|refine q5 ?_|refine q6 ?_|refine q8 ?_|refine q15 ?_|refine q16 rfl ?_)
  refine retQ_ret rfl (L':=E.I (k + 1) h :: L) (by repeat (exact List.Sublist.refl _)) ⟨[],k + 1,[],hT,hm,hk,⟨⟨none,0,0⟩,rfl,rfl,SlRep.nil _ _,by simp⟩,rfl⟩
 ·repeat (first|refine q1 ?_|refine q3 ?_|refine q4 tab rfl rfl ?_|refine q5 ?_|refine q6 ?_|refine q13 ?_|refine q17 rfl ?_)
  refine TO.step rfl (OT.parL (L0:=L) (list1_par (first:=[E.v]) (cap:=[]) rfl goes191 hY) hm hT hn hE hk (by repeat (first|exact Bad.ret|refine Bad.then ?_)) hm (by repeat (exact List.Sublist.refl _)) rfl rfl rfl rfl rfl rfl goes146 (fun x m2 a k2 hT hm hE hlex hk hrx hox hlx => ?_))
  repeat (first|refine q1 ?_|refine q3 ?_|refine q4 tab rfl rfl ?_|refine q5 ?_|refine q6 ?_)
  refine TO.step rfl (OT.needP (L0:=L) hT hE hk (by repeat (first|exact Bad.ret|refine Bad.then ?_)) hm (by repeat (first|exact List.Sublist.refl _|refine List.Sublist.cons _ ?_)) rfl rfl rfl rfl rfl rfl (fun hT hk => ?_))
  repeat (first|refine q1 ?_|refine q3 ?_|refine q4 tab rfl rfl ?_|refine q5 ?_|refine q6 ?_|refine q15 ?_)
  refine retQ_ret rfl (L':=E.I (k2 + 1) h :: L) (by repeat (first|exact List.Sublist.refl _|refine List.Sublist.cons_cons _ ?_|refine List.Sublist.cons _ ?_)) ⟨a,k2 + 1,[],hT,hm,hk,⟨x,rfl,rfl,hrx,hlx⟩,rfl⟩
set_option maxHeartbeats 1000000 in
theorem index_par {Y : Ps.Pp Tree} (hY : Par Tryz.prog mb E vTree 191 [E.v] 0 Y) (x : HTree) (n : Tree) (hr : TreeRep mb x n) :
  Par Tryz.prog mb E vTree 208 [E.v,treeV x] 0 (Ps.indexP Y n):=by
 refine Par.enter Tryz.func208 rfl 42 rfl fun m L k T hm0 hE hk hT hn => ?_
 replace hY:=hY.up hm0
 replace hr:=hr.mono hm0
 have hm : m ≤ m:=Mem.le_refl _
 unfold Ps.indexP at hT
 repeat (first|refine q1 ?_|refine q3 ?_)
 refine TO.step rfl (OT.box rfl rfl rfl rfl rfl (fun b3 => ?_));refine TO.perm (List.Perm.swap _ _ _) ?_
 refine TO.step rfl (OT.alloc tab rfl rfl rfl rfl (fun b4 => ?_));refine TO.perm (List.Perm.swap _ _ _) ?_
 repeat (first|refine q1 ?_|refine q3 ?_|refine q5 ?_|refine q6 ?_)
 (refine qs rfl (qz tab 2 rfl rfl rfl rfl rfl rfl ?_))
 refine TO.step rfl (OT.litR tab rTree (hs:=[x]) (l:=[n]) ⟨rTree_iff.2 hr,trivial⟩ rfl rfl rfl rfl rfl (by decide) (fun s m1 hle1 hs ho hc => ?_))
 replace hm:=hle1
 replace hE:=hE.mono hle1
 refine TO.tokFo hc ho 4 ?_
 refine TO.perm (List.Perm.swap _ _ _) ?_
 repeat (first|refine q1 ?_|refine q3 ?_|refine q4 tab rfl rfl ?_|refine q5 ?_|refine q6 ?_)
 refine TO.step rfl (OT.alloc tab rfl rfl rfl rfl (fun b6 => ?_));refine TO.perm (List.Perm.swap _ _ _) ?_
 skip
 (refine TO.step rfl (OT.storeL0 tab 1 rfl rfl rfl rfl rfl rfl rfl rfl ?_))
 refine TO.nil ?_
 refine thenQ_n ?_
 refine TC.cut (ι:=Int × Sl × Mem × List Tree × Nat) [0,4,6] rfl (fun i=>[(5,i.2.1.v)]) (fun i=>i.2.2.1) (fun i=>E.I i.2.2.2.2 0 :: .cells b6 0 [.int .i64 50,strV [], .int .i64 i.1, .slice none 0 0] :: tok i.2.1 4 :: .cells b4 0 [.int .i64 0,strV [], .int .i64 0, .slice none 0 0] :: L) (fun i=>m ≤ i.2.2.1∧E.Ok i.2.2.1∧i.2.2.2.2 ≤ E.toks.length∧SlRep rTree i.2.2.1 i.2.1 i.2.2.2.1∧Own i.2.1∧i.2.2.2.1.length ≤ 2∧0 ≤ i.1∧i.1 ≤ 1∧T=Ps.cutP Y i.1 i.2.2.2.1 E.f i.2.2.2.2) ?_ ?_
 ·repeat (first|refine q1 ?_|refine q3 ?_|refine q4 tab rfl rfl ?_)
  refine TO.step rfl (OT.peekP hT hE hk rfl rfl rfl rfl rfl rfl (fun hT => ?_) (fun hT => ?_))
  ·repeat (first|refine q4 tab rfl rfl ?_|refine q5 ?_|refine q6 ?_|refine q13 ?_|refine q17 rfl ?_)
   exact ⟨(0,s,m1,[n],k),(by repeat (first|exact trivial|refine And.intro rfl ?_)),(by repeat (first|exact trivial|refine And.intro rfl ?_)),rfl,rfl,(by repeat (first|exact List.Sublist.refl _|refine List.Sublist.cons_cons _ ?_|refine List.Sublist.cons _ ?_)),hm,hE,hk,hs,ho,by simp,by simp only;omega,by simp only;omega,hT⟩
  ·repeat (first|refine q1 ?_|refine q3 ?_|refine q4 tab rfl rfl ?_|refine q5 ?_|refine q6 ?_|refine q16 rfl ?_)
   refine TO.step rfl (OT.parT (L0:=L) (hY) hm hT hn hE hk (by repeat (first|exact Bad.ret|refine Bad.then ?_)) hm (by repeat (first|exact List.Sublist.refl _|refine List.Sublist.cons _ ?_)) rfl rfl rfl rfl rfl rfl goes191 (fun y m2 e k2 hT hm hE hley hk hry => ?_))
   refine TO.step rfl (OT.litR tab rTree (hs:=[y]) (l:=[e]) ⟨rTree_iff.2 hry,trivial⟩ rfl rfl rfl rfl rfl (by decide) (fun s2 m3 hle3 hs2 ho2 hc2 => ?_))
   refine TO.step rfl (OT.append tab rTree 2 (hs.mono (Mem.le_trans hley hle3)) ho hs2 rfl rfl rfl rfl rfl rfl rfl (by simp only [List.length_cons,List.length_nil,rTree,mkR];omega) (fun s3 m4 hle4 hs3 ho3 => ?_))
   replace hm:=Mem.le_trans hm (Mem.le_trans hle3 hle4)
   replace hE:=hE.mono (Mem.le_trans hle3 hle4)
   repeat (first|refine q1 ?_|refine q3 ?_|refine q4 tab rfl rfl ?_|refine q5 ?_|refine q6 ?_)
   refine TO.step rfl (OT.takeP hT hE hk rfl rfl rfl rfl rfl rfl (fun hT hk => ?_) (fun hT => ?_))
   ·repeat (first|refine q1 ?_|refine q3 ?_|refine q4 tab rfl rfl ?_|refine q5 ?_|refine q6 ?_|refine q16 rfl ?_)
    refine TO.step rfl (OT.storeL0 tab 3 rfl rfl rfl rfl rfl rfl rfl rfl ?_)
    repeat (first|refine q5 ?_|refine q6 ?_|refine q8 ?_|refine q15 ?_)
    refine retQ_ret_c1 tab 3 rfl rfl rfl rfl (L':=E.I (k2 + 1) 0 :: L) (by repeat (first|exact List.Sublist.refl _|refine List.Sublist.cons_cons _ ?_|refine List.Sublist.cons _ ?_)) ⟨_,k2 + 1,[],hT,hm,hk,⟨⟨49,[],0,s3⟩,rfl,rfl,⟨rfl,rfl,rfl,hs3⟩⟩,rfl⟩
   ·repeat (first|refine q3 ?_|refine q4 tab rfl rfl ?_|refine q5 ?_|refine q6 ?_|refine q13 ?_|refine q17 rfl ?_)
    refine TO.step rfl (OT.storeL (k:=2) tab 1 rfl rfl rfl rfl rfl rfl rfl rfl ?_)
    repeat (first|refine q5 ?_|refine q6 ?_)
    exact ⟨(1,s3,m4,[n]++[e],k2),(by repeat (first|exact trivial|refine And.intro rfl ?_)),(by repeat (first|exact trivial|refine And.intro rfl ?_)),rfl,rfl,(by repeat (first|exact List.Sublist.refl _|refine List.Sublist.cons_cons _ ?_|refine List.Sublist.cons _ ?_)),hm,hE,hk,hs3,ho3,by simp,by simp only;omega,by simp only;omega,hT⟩
 ·rintro ⟨num,s,m1,ks,k⟩ ⟨hm,hE,hk,hs,ho,hl,hn0,hn1,hT⟩
  simp only at hm hE hk hs ho hl hn0 hn1 hT
  unfold Ps.cutP at hT
  repeat (first|refine q1 ?_|refine q3 ?_|refine q4 tab rfl rfl ?_)
  refine TO.step rfl (OT.needP (L0:=L) hT hE hk (by repeat (first|exact Bad.ret|refine Bad.then ?_)) hm (by repeat (first|exact List.Sublist.refl _|refine List.Sublist.cons _ ?_)) rfl rfl rfl rfl rfl rfl (fun hT hk => ?_))
  repeat (first|refine q1 ?_|refine q3 ?_|refine q4 tab rfl rfl ?_|refine q5 ?_|refine q6 ?_)
  refine TO.step rfl (OT.takeP hT hE hk rfl rfl rfl rfl rfl rfl (fun hT hk => ?_) (fun hT => ?_))
  ·repeat (first|refine q1 ?_|refine q3 ?_|refine q4 tab rfl rfl ?_|refine q5 ?_|refine q6 ?_|refine q13 ?_|refine q17 rfl ?_)
   refine TO.step rfl (OT.storeL (k:=3) tab 1 rfl rfl rfl rfl rfl rfl rfl rfl ?_)
   repeat (first|refine q1 ?_|refine q3 ?_|refine q5 ?_|refine q6 ?_)
   (refine qs rfl (qz tab 1 rfl rfl rfl rfl rfl rfl ?_))
   skip
   refine TO.step rfl (OT.storeL0 tab 3 rfl rfl rfl rfl rfl rfl rfl rfl ?_)
   repeat (first|refine q5 ?_|refine q6 ?_|refine q15 ?_)
   refine retQ_ret_c1 tab 3 rfl rfl rfl rfl (L':=E.I (k + 1 + 1) 0 :: L) (by repeat (first|exact List.Sublist.refl _|refine List.Sublist.cons_cons _ ?_|refine List.Sublist.cons _ ?_)) ⟨_,k + 1 + 1,[],hT,hm,hk,⟨⟨50,[],num,s⟩,rfl,rfl,⟨rfl,rfl,rfl,hs⟩⟩,rfl⟩
  ·repeat (first|refine q1 ?_|refine q3 ?_|refine q4 tab rfl rfl ?_|refine q5 ?_|refine q6 ?_|refine q16 rfl ?_)
   refine TO.step rfl (OT.parT (L0:=L) (hY) hm hT hn hE hk (by repeat (first|exact Bad.ret|refine Bad.then ?_)) hm (by repeat (first|exact List.Sublist.refl _|refine List.Sublist.cons _ ?_)) rfl rfl rfl rfl rfl rfl goes191 (fun y m2 e k2 hT hm hE hley hk hry => ?_))
   refine TO.step rfl (OT.litR tab rTree (hs:=[y]) (l:=[e]) ⟨rTree_iff.2 hry,trivial⟩ rfl rfl rfl rfl rfl (by decide) (fun s2 m3 hle3 hs2 ho2 hc2 => ?_))
   refine TO.step rfl (OT.append tab rTree 2 (hs.mono (Mem.le_trans hley hle3)) ho hs2 rfl rfl rfl rfl rfl rfl rfl (by simp only [List.length_cons,List.length_nil,rTree,mkR];omega) (fun s3 m4 hle4 hs3 ho3 => ?_))
   replace hm:=Mem.le_trans hm (Mem.le_trans hle3 hle4)
   replace hE:=hE.mono (Mem.le_trans hle3 hle4)
   repeat (first|refine q1 ?_|refine q3 ?_|refine q4 tab rfl rfl ?_|refine q5 ?_|refine q6 ?_)
   (refine qs rfl (ql tab 1 rfl rfl rfl rfl rfl rfl ?_))
   refine TO.step rfl (OT.arith (r':=num + 2) rfl rfl rfl rfl rfl rfl rfl (by omega) ?_)
   repeat (refine q4 tab rfl rfl ?_)
   refine TO.step rfl (OT.storeL (k:=2) tab 1 rfl rfl rfl rfl rfl rfl rfl rfl ?_)
   repeat (first|refine q3 ?_|refine q4 tab rfl rfl ?_|refine q5 ?_|refine q6 ?_)
   refine TO.step rfl (OT.needP (L0:=L) hT hE hk (by repeat (first|exact Bad.ret|refine Bad.then ?_)) hm (by repeat (first|exact List.Sublist.refl _|refine List.Sublist.cons _ ?_)) rfl rfl rfl rfl rfl rfl (fun hT hk => ?_))
   repeat (first|refine q1 ?_|refine q3 ?_|refine q4 tab rfl rfl ?_|refine q5 ?_|refine q6 ?_)
   refine TO.step rfl (OT.storeL (k:=3) tab 1 rfl rfl rfl rfl rfl rfl rfl rfl ?_)
   repeat (first|refine q1 ?_|refine q3 ?_|refine q5 ?_|refine q6 ?_)
   (refine qs rfl (qz tab 1 rfl rfl rfl rfl rfl rfl ?_))
   skip
   refine TO.step rfl (OT.storeL0 tab 3 rfl rfl rfl rfl rfl rfl rfl rfl ?_)
   repeat (first|refine q5 ?_|refine q6 ?_|refine q15 ?_)
   refine retQ_ret_c1 tab 3 rfl rfl rfl rfl (L':=E.I (k2 + 1) 0 :: L) (by repeat (first|exact List.Sublist.refl _|refine List.Sublist.cons_cons _ ?_|refine List.Sublist.cons _ ?_)) ⟨_,k2 + 1,[],hT,hm,hk,⟨⟨50,[],num + 2,s3⟩,rfl,rfl,⟨rfl,rfl,rfl,hs3⟩⟩,rfl⟩
end
end Go.Sep


/- PsW12 -/
set_option linter.unusedVariables false
set_option linter.unusedSimpArgs false
namespace Go.Sep
open Go.Proofs
attribute [local irreducible] TC TO OT TCallX TCall DO DOt thenQ blockQ retQ At
section
variable {mb : Mem} {E : PE} {h : Int}
theorem post1_at {Y : Ps.Pp Tree} (hY : Par Tryz.prog mb E vTree 191 [E.v] 0 Y) {m : Mem} {L : List Item} {k : Nat} {it : Item} {b1 b3 : Nat} {x : HTree} {n : Tree} (hm0 : mb ≤ m) (hE : E.Ok m) (hk : k ≤ E.toks.length) (hA : At m b1 0 [E.v]) (hr : TreeRep m x n) :
  ParAt Tryz.prog E vTree 207 [.pointer (some ⟨b1,0,none⟩), .pointer (some ⟨b3,0,none⟩)] 0 (Ps.indexP Y n) m (it :: .cells b3 0 (treeC x) :: L) k:=by
 refine ParAt.enter Tryz.func207 rfl 6 rfl fun T hT hn => ?_
 have hm : m ≤ m:=Mem.le_refl _
 rw [← Ps.bind_ret (Ps.indexP Y n)] at hT
 repeat (first|refine q1 ?_|refine q3 ?_)
 refine TO.step rfl (OT.alloc tab rfl rfl rfl rfl (fun b2 => ?_));refine TO.perm (List.Perm.swap _ _ _) ?_
 repeat (first|refine q1 ?_|refine q3 ?_|refine q5 ?_|refine q6 ?_)
 (refine TO.step rfl (OT.loadA0 tab hA rfl rfl rfl rfl rfl ?_))
 (refine qs rfl (qz tab 3 rfl rfl rfl rfl rfl rfl ?_))
 refine TO.step rfl (OT.parT (L0:=it :: .cells b3 0 (treeC x) :: L) (index_par (hY.up hm0) x n hr) hm hT hn hE hk (by repeat (first|exact Bad.ret|refine Bad.then ?_)) hm (by repeat (first|exact List.Sublist.refl _|refine List.Sublist.cons _ ?_)) rfl rfl rfl rfl rfl rfl goes208 (fun x m2 a k2 hT hm hE hle hk hrx => ?_))
 skip
 (refine TO.step rfl (OT.storeL0 tab 1 rfl rfl rfl rfl rfl rfl rfl rfl ?_))
 repeat (first|refine q5 ?_|refine q6 ?_|refine q15 ?_)
 refine retQ_ret_c1 tab 1 rfl rfl rfl rfl (L':=E.I k2 0 :: it :: .cells b3 0 _ :: L) (by repeat (first|exact List.Sublist.refl _|refine List.Sublist.cons_cons _ ?_|refine List.Sublist.cons _ ?_)) ⟨_,k2,[],hT,hm,hk,⟨x,rfl,rfl,hrx⟩,rfl⟩
set_option maxHeartbeats 1000000 in
theorem post2_at {Y : Ps.Pp Tree} (hY : Par Tryz.prog mb E vTree 191 [E.v] 0 Y) {m : Mem} {L : List Item} {k : Nat} {it : Item} {b1 b3 : Nat} {x : HTree} {n : Tree} (hm0 : mb ≤ m) (hE : E.Ok m) (hk : k ≤ E.toks.length) (hA : At m b1 0 [E.v]) (hr : TreeRep m x n) :
  ParAt Tryz.prog E vTree 209 [.pointer (some ⟨b3,0,none⟩), .pointer (some ⟨b1,0,none⟩)] 0 (Ps.bind (Ps.exprsP E.N [41] Y) fun l=>Ps.ret (.mk 51 [] 0 (n :: l))) m (it :: .cells b3 0 (treeC x) :: L) k:=by
 refine ParAt.enter Tryz.func209 rfl 9 rfl fun T hT hn => ?_
 have hm : m ≤ m:=Mem.le_refl _
 replace hY:=hY.up hm0
 repeat (first|refine q1 ?_|refine q3 ?_)
 refine TO.step rfl (OT.alloc tab rfl rfl rfl rfl (fun b2 => ?_));refine TO.perm (List.Perm.swap _ _ _) ?_
 repeat (first|refine q1 ?_|refine q5 ?_|refine q6 ?_)
 refine TC.draw [6] mixed 7 rfl [.cells b3 0 (treeC x), .cells b2 0 [.int .i64 0,strV [], .int .i64 0, .slice none 0 0]] (E.I k 0 :: it :: L) ((List.Perm.trans pfr3 (List.Perm.cons _ pfr1))) ?_
 refine DO.loadL (k:=0) tab 0 0 (by repeat (first|exact Calm.ret|refine Calm.then ?_)) (by kernel_rfl) (by kernel_rfl) rfl rfl rfl rfl rfl rfl rfl rfl ?_
 refine DO.loadA (k:=0) tab 2 hA (by repeat (first|exact Calm.ret|refine Calm.then ?_)) (by kernel_rfl) (by kernel_rfl) rfl rfl rfl rfl rfl rfl rfl ?_
 refine DO.fork 1 [3] (by kernel_rfl) ⟨⟨_,rfl,rfl,rfl, ?_⟩,⟨_,rfl,rfl,rfl, ?_⟩,trivial⟩
 ·skip
  refine OT.litR tab rTree (hs:=[x]) (l:=[n]) ⟨rTree_iff.2 hr,trivial⟩ rfl rfl rfl rfl rfl (by decide) (fun s mB hleB hs ho hc => ?_)
  replace hm:=Mem.le_trans hm hleB
  replace hE:=hE.mono hleB
  refine ⟨hleB,_,List.Perm.refl _, ?_⟩
  refine DO.run 3 rfl rfl (by kernel_rfl) rfl ?_
  refine OT.perm (L':=E.I k 0 :: .cells b2 0 [.int .i64 0,strV [], .int .i64 0, .slice none 0 0] :: it :: .cells b3 0 (treeC x) :: L) ((List.Perm.trans pfr2 (List.Perm.cons _ (List.Perm.trans pfr1 (List.Perm.cons _ pfr1))))) (OT.parS (L0:=it :: .cells b3 0 (treeC x) :: L) (exprs_par hY [41]) hm hT hn hE hk (by repeat (first|exact Bad.ret|refine Bad.then ?_)) hm (by repeat (first|exact List.Sublist.refl _|refine List.Sublist.cons _ ?_)) rfl rfl rfl rfl rfl rfl goes210 (fun y mA l k2 hT hm hE hleA hk hry hly => ?_))
  refine ⟨hleA,E.I k2 0 :: it :: L,((List.Perm.trans pfr3 (List.Perm.cons _ pfr1))), ?_⟩
  have hsB:=hs.mono hleA
  have hrB:=hry
  refine DO.run 4 rfl rfl (by kernel_rfl) rfl ?_
  refine OT.tokFo hc ho 4 (OT.append tab rTree 0 hsB ho hrB rfl rfl rfl rfl rfl rfl rfl (by simp only [List.length_cons,List.length_nil,rTree,mkR];omega) (fun s3 mC hleC hs3 ho3 => ?_))
  refine ⟨hleC,tok s3 4 :: E.I k2 0 :: it :: L,perm_mid (l:=[_,_]), ?_⟩
  refine DO.pure tab (by repeat (first|exact Calm.ret|refine Calm.then ?_)) (by kernel_rfl) [5] (by kernel_rfl) rfl ?_
  refine DO.tail ?_
  refine DOt.run 6 rfl rfl (by kernel_rfl) rfl ?_
  refine OT.storeL0 tab 1 rfl rfl rfl rfl rfl rfl rfl rfl ?_
  refine DOt.perm (L':=E.I k2 0 :: .cells b2 0 [.int .i64 51,strV [], .int .i64 0,s3.v] :: tok s3 4 :: it :: .cells b3 0 (treeC x) :: L) ((List.Perm.trans pfr3 (List.Perm.cons _ (List.Perm.trans pfr1 (List.Perm.cons _ (List.Perm.trans pfr1 (List.Perm.cons _ pfr1))))))) ?_
  refine DOt.nil (by kernel_rfl) ?_
  repeat (first|refine q6 ?_|refine q15 ?_)
  refine retQ_ret_c1 tab 1 rfl rfl rfl rfl (L':=E.I k2 0 :: it :: .cells b3 0 (treeC x) :: L) (by repeat (first|exact List.Sublist.refl _|refine List.Sublist.cons_cons _ ?_|refine List.Sublist.cons _ ?_)) ⟨_,k2,[],hT,Mem.le_trans hm hleC,hk,⟨⟨51,[],0,s3⟩,rfl,rfl,⟨rfl,rfl,rfl,hs3⟩⟩,rfl⟩
 ·skip
  refine OT.perm (L':=E.I k 0 :: .cells b2 0 [.int .i64 0,strV [], .int .i64 0, .slice none 0 0] :: it :: .cells b3 0 (treeC x) :: L) ((List.Perm.trans pfr2 (List.Perm.cons _ (List.Perm.trans pfr1 (List.Perm.cons _ pfr1))))) (OT.parS (L0:=it :: .cells b3 0 (treeC x) :: L) (exprs_par hY [41]) hm hT hn hE hk (by repeat (first|exact Bad.ret|refine Bad.then ?_)) hm (by repeat (first|exact List.Sublist.refl _|refine List.Sublist.cons _ ?_)) rfl rfl rfl rfl rfl rfl goes210 (fun y mA l k2 hT hm hE hleA hk hry hly => ?_))
  refine ⟨hleA,E.I k2 0 :: it :: L,((List.Perm.trans pfr3 (List.Perm.cons _ pfr1))), ?_⟩
  refine DO.run 1 rfl rfl (by kernel_rfl) rfl ?_
  refine OT.litR tab rTree (hs:=[x]) (l:=[n]) ⟨rTree_iff.2 (hr.mono hleA),trivial⟩ rfl rfl rfl rfl rfl (by decide) (fun s mB hleB hs ho hc => ?_)
  replace hm:=Mem.le_trans hm hleB
  replace hE:=hE.mono hleB
  refine ⟨hleB,_,List.Perm.refl _, ?_⟩
  have hsB:=hs
  have hrB:=hry.mono hleB
  refine DO.run 4 rfl rfl (by kernel_rfl) rfl ?_
  refine OT.tokFo hc ho 4 (OT.append tab rTree 0 hsB ho hrB rfl rfl rfl rfl rfl rfl rfl (by simp only [List.length_cons,List.length_nil,rTree,mkR];omega) (fun s3 mC hleC hs3 ho3 => ?_))
  refine ⟨hleC,tok s3 4 :: E.I k2 0 :: it :: L,perm_mid (l:=[_,_]), ?_⟩
  refine DO.pure tab (by repeat (first|exact Calm.ret|refine Calm.then ?_)) (by kernel_rfl) [5] (by kernel_rfl) rfl ?_
  refine DO.tail ?_
  refine DOt.run 6 rfl rfl (by kernel_rfl) rfl ?_
  refine OT.storeL0 tab 1 rfl rfl rfl rfl rfl rfl rfl rfl ?_
  refine DOt.perm (L':=E.I k2 0 :: .cells b2 0 [.int .i64 51,strV [], .int .i64 0,s3.v] :: tok s3 4 :: it :: .cells b3 0 (treeC x) :: L) ((List.Perm.trans pfr3 (List.Perm.cons _ (List.Perm.trans pfr1 (List.Perm.cons _ (List.Perm.trans pfr1 (List.Perm.cons _ pfr1))))))) ?_
  refine DOt.nil (by kernel_rfl) ?_
  repeat (first|refine q6 ?_|refine q15 ?_)
  refine retQ_ret_c1 tab 1 rfl rfl rfl rfl (L':=E.I k2 0 :: it :: .cells b3 0 (treeC x) :: L) (by repeat (first|exact List.Sublist.refl _|refine List.Sublist.cons_cons _ ?_|refine List.Sublist.cons _ ?_)) ⟨_,k2,[],hT,Mem.le_trans hm hleC,hk,⟨⟨51,[],0,s3⟩,rfl,rfl,⟨rfl,rfl,rfl,hs3⟩⟩,rfl⟩
end
end Go.Sep

