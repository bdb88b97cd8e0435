/- PsW13 -/
import Derived.Test.YtinmchaljlekgaaGreatDoorB11
set_option linter.unusedVariables false
set_option linter.unusedSimpArgs false
namespace Go.Ps
theorem tkn_t {α : Type} {c : Int} {A : Tk→Pp α} {B : Pp α} {f : F} {k : Nat} {t : Tk} (h : f k=some t) (hk : isK c f k=true) : tkn c A B f k=A t f (k + 1):=by
 unfold isK at hk
 rw [h] at hk
 simp only at hk
 unfold tkn;rw [h];simp only [hk,cond_true]
theorem tkn_f {α : Type} {c : Int} {A : Tk→Pp α} {B : Pp α} {f : F} {k : Nat} (hk : isK c f k=false) : tkn c A B f k=B f k:=by
 unfold isK at hk
 unfold tkn
 cases h : f k with
 | none=>rfl
 | some t=>rw [h] at hk;simp only at hk;simp only [hk,cond_false]
end Go.Ps
namespace Go.Sep
open Go.Proofs
attribute [local irreducible] TC TO OT TCallX TCall DO DOt thenQ blockQ retQ At
section
variable {mb : Mem} {E : PE} {h : Int}
theorem primary1_par {Y : Ps.Pp Tree} (hY : Par Tryz.prog mb E vTree 191 [E.v] h Y) (b1 : Nat) (hA : At mb b1 0 [E.v]) :
  Par Tryz.prog mb E vSl 212 [.pointer (some ⟨b1,0,none⟩)] h (Ps.exprsP E.N [125] Y):=by
 refine Par.enter Tryz.func212 rfl 4 rfl fun m L k T hm0 hE hk hT hn => ?_
 replace hY:=hY.up hm0
 replace hA:=hA.mono hm0
 have hm : m ≤ m:=Mem.le_refl _
 rw [← Ps.bind_ret (Ps.exprsP E.N [125] Y)] at hT
 repeat (first|refine q1 ?_|refine q3 ?_|refine q4 tab rfl rfl ?_|refine q5 ?_|refine q6 ?_)
 (refine TO.step rfl (OT.loadA0 tab hA rfl rfl rfl rfl rfl ?_))
 skip
 refine TO.step rfl (OT.parS (L0:=L) (exprs_par hY [125]) hm hT hn hE hk (by repeat (first|exact Bad.ret|refine Bad.then ?_)) hm (by repeat (exact List.Sublist.refl _)) rfl rfl rfl rfl rfl rfl goes210 (fun x m2 a k2 hT hm hE hlex hk hrx hlx => ?_))
 repeat (first|refine q4 tab rfl rfl ?_|refine q5 ?_|refine q6 ?_|refine q15 ?_)
 refine retQ_ret rfl (L':=E.I k2 h :: L) (by repeat (exact List.Sublist.refl _)) ⟨a,k2,[],hT,hm,hk,⟨x,rfl,rfl,hrx,hlx⟩,rfl⟩
set_option maxHeartbeats 2000000 in
theorem primary_par {X Y Z : Ps.Pp Tree} (hd : Bool) (hX : Par Tryz.prog mb E vTree 143 [E.v] (bif hd then 1 else 0) X) (hY : Par Tryz.prog mb E vTree 191 [E.v] 0 Y) (hZ : Par Tryz.prog mb E vTree 115 [E.v] (bif hd then 1 else 0) Z) :
  Par Tryz.prog mb E vTree 205 [E.v] (bif hd then 1 else 0) (Ps.primP E.N X Z Y hd):=by
 refine Par.enter Tryz.func205 rfl 119 rfl fun m L k T hm0 hE hk hT hn => ?_
 have hm : m ≤ m:=Mem.le_refl _
 have hrows:=hE.rows
 unfold Ps.primP at hT
 generalize hh : (bif hd then (1 : Int) else 0)=h at hX hZ ⊢
 repeat (first|refine q1 ?_|refine q3 ?_)
 refine TO.step rfl (OT.box rfl rfl rfl rfl rfl (fun b1 => ?_))
 refine TO.freeze fun m1 hle1 hA => ?_
 replace hm : m ≤ m1:=hle1
 replace hE:=hE.mono hle1
 replace hX:=hX.up (Mem.le_trans hm0 hle1)
 replace hY:=hY.up (Mem.le_trans hm0 hle1)
 replace hZ:=hZ.up (Mem.le_trans hm0 hle1)
 have hmm : m1 ≤ m1:=Mem.le_refl _
 have hlen:=hE.rep.len
 have hfew:=hE.few
 skip
 refine TO.step rfl (OT.alloc tab rfl rfl rfl rfl (fun b2 => ?_));refine TO.perm (List.Perm.swap _ _ _) ?_
 repeat (first|refine q1 ?_|refine q2 ?_|refine q3 ?_|refine q5 ?_|refine q6 ?_)
 (refine TO.step rfl (OT.loadA0 tab hA rfl rfl rfl rfl rfl ?_))
 skip
 refine TO.step rfl (OT.call rfl rfl rfl rfl rfl rfl goes145 ((is_law 2 hE hk).x ?_));
 rintro _ _ _ ⟨rfl,rfl,rfl⟩
 repeat (first|refine q4 tab rfl rfl ?_|refine q5 ?_|refine q6 ?_)
 cases hb : Ps.isK 2 E.f k with
 | true =>
  have hlt:=PE.isK_lt hb
  have hx : E.toks[k]? = some E.toks[k]:=List.getElem?_eq_getElem hlt
  rw [Ps.tkn_t (PE.f_some hlt) hb] at hT
  repeat (first|refine q1 ?_|refine q3 ?_|refine q16 rfl ?_)
  (refine TO.step rfl (OT.loadA0 tab hA rfl rfl rfl rfl rfl ?_))
  repeat (refine q4 tab rfl rfl ?_)
  (refine qs rfl (ql tab 0 rfl rfl rfl rfl rfl rfl ?_))
  refine TO.step rfl (OT.arith (r':=((k + 1 : Nat) : Int)) rfl rfl rfl rfl rfl rfl rfl (by omega) ?_)
  repeat (refine q4 tab rfl rfl ?_)
  refine TO.step rfl (OT.storeL (k:=2) tab 0 rfl rfl rfl rfl rfl rfl rfl rfl ?_)
  repeat (first|refine q1 ?_|refine q5 ?_|refine q6 ?_)
  refine TC.draw [13] mixed 14 rfl [E.I (k + 1) h, .cells b2 0 [.int .i64 0,strV [], .int .i64 0, .slice none 0 0]] L (by first | exact List.Perm.refl _ | (rw [List.append_nil];exact List.Perm.refl _)) ?_
  (refine DO.loadA (k:=0) tab 0 hA (by repeat (first|exact Calm.ret|refine Calm.then ?_|refine Calm.block ?_)) (by kernel_rfl) (by kernel_rfl) rfl rfl rfl rfl rfl rfl rfl ?_)
  refine DO.pure tab (by repeat (first|exact Calm.ret|refine Calm.then ?_|refine Calm.block ?_)) (by kernel_rfl) [1,2] (by kernel_rfl) rfl ?_
  (refine DO.loadL tab 3 0 (by repeat (first|exact Calm.ret|refine Calm.then ?_|refine Calm.block ?_)) (by kernel_rfl) (by kernel_rfl) rfl rfl rfl rfl rfl rfl rfl rfl ?_)
  (refine DO.loadA (k:=0) tab 4 hA (by repeat (first|exact Calm.ret|refine Calm.then ?_|refine Calm.block ?_)) (by kernel_rfl) (by kernel_rfl) rfl rfl rfl rfl rfl rfl rfl ?_)
  refine DO.pure tab (by repeat (first|exact Calm.ret|refine Calm.then ?_|refine Calm.block ?_)) (by kernel_rfl) [5,6] (by kernel_rfl) rfl ?_
  (refine DO.loadL tab 7 0 (by repeat (first|exact Calm.ret|refine Calm.then ?_|refine Calm.block ?_)) (by kernel_rfl) (by kernel_rfl) rfl rfl rfl rfl rfl rfl rfl rfl ?_)
  refine DO.arith 8 (r':=((k : Nat) : Int)) (by repeat (first|exact Calm.ret|refine Calm.then ?_|refine Calm.block ?_)) (by kernel_rfl) (by kernel_rfl) rfl rfl rfl rfl rfl rfl rfl rfl (by first | rfl | omega | (simp only;omega)) (by omega) ?_
  refine DO.index tab rTok 9 k hE.rep (by repeat (first|exact Calm.ret|refine Calm.then ?_|refine Calm.block ?_)) (by kernel_rfl) (by kernel_rfl) rfl rfl rfl rfl rfl rfl rfl (by first | rfl | omega) rfl hx ?_
  rintro b i hd hr hA2;obtain rfl:=(show hd=E.toks[k] from hr)
  refine DO.pure tab (by repeat (first|exact Calm.ret|refine Calm.then ?_|refine Calm.block ?_)) (by kernel_rfl) [10] (by kernel_rfl) rfl ?_
  (refine DO.loadA tab 11 hA2 (by repeat (first|exact Calm.ret|refine Calm.then ?_|refine Calm.block ?_)) (by kernel_rfl) (by kernel_rfl) rfl rfl rfl rfl rfl rfl rfl ?_)
  refine DO.pure tab (by repeat (first|exact Calm.ret|refine Calm.then ?_|refine Calm.block ?_)) (by kernel_rfl) [12] (by kernel_rfl) rfl ?_
  refine DO.tail ?_
  refine DOt.run 13 rfl rfl (by kernel_rfl) rfl ?_
  refine OT.storeL0 tab 1 rfl rfl rfl rfl rfl rfl rfl rfl ?_
  refine DOt.nil (by kernel_rfl) ?_
  rotate_left 1
  repeat (first|refine q6 ?_|refine q8 ?_|refine q9 ?_|refine q15 ?_)
  refine retQ_ret_c1 tab 1 rfl rfl rfl rfl (L':=E.I (k + 1) h :: L) (by repeat (first|exact List.Sublist.refl _|refine List.Sublist.cons_cons _ ?_|refine List.Sublist.cons _ ?_)) ⟨_,k + 1,[],hT,hm,hlt,⟨⟨40,[],(E.toks[k]).num,⟨none,0,0⟩⟩,rfl,rfl,⟨rfl,rfl,rfl,SlRep.nil _ _⟩⟩,rfl⟩
 | false =>
 rw [Ps.tkn_f hb] at hT
 repeat (first|refine q1 ?_|refine q3 ?_|refine q17 rfl ?_)
 (refine TO.step rfl (OT.loadA0 tab hA rfl rfl rfl rfl rfl ?_))
 skip
 refine TO.step rfl (OT.call rfl rfl rfl rfl rfl rfl goes145 ((is_law 3 hE hk).x ?_));
 rintro _ _ _ ⟨rfl,rfl,rfl⟩
 repeat (first|refine q4 tab rfl rfl ?_|refine q5 ?_|refine q6 ?_)
 cases hb : Ps.isK 3 E.f k with
 | true =>
  have hlt:=PE.isK_lt hb
  have hx : E.toks[k]? = some E.toks[k]:=List.getElem?_eq_getElem hlt
  rw [Ps.tkn_t (PE.f_some hlt) hb] at hT
  repeat (first|refine q1 ?_|refine q3 ?_|refine q16 rfl ?_)
  (refine TO.step rfl (OT.loadA0 tab hA rfl rfl rfl rfl rfl ?_))
  repeat (refine q4 tab rfl rfl ?_)
  (refine qs rfl (ql tab 0 rfl rfl rfl rfl rfl rfl ?_))
  refine TO.step rfl (OT.arith (r':=((k + 1 : Nat) : Int)) rfl rfl rfl rfl rfl rfl rfl (by omega) ?_)
  repeat (refine q4 tab rfl rfl ?_)
  refine TO.step rfl (OT.storeL (k:=2) tab 0 rfl rfl rfl rfl rfl rfl rfl rfl ?_)
  repeat (first|refine q1 ?_|refine q5 ?_|refine q6 ?_)
  refine TC.draw [13] mixed 14 rfl [E.I (k + 1) h, .cells b2 0 [.int .i64 0,strV [], .int .i64 0, .slice none 0 0]] L (by first | exact List.Perm.refl _ | (rw [List.append_nil];exact List.Perm.refl _)) ?_
  (refine DO.loadA (k:=0) tab 0 hA (by repeat (first|exact Calm.ret|refine Calm.then ?_|refine Calm.block ?_)) (by kernel_rfl) (by kernel_rfl) rfl rfl rfl rfl rfl rfl rfl ?_)
  refine DO.pure tab (by repeat (first|exact Calm.ret|refine Calm.then ?_|refine Calm.block ?_)) (by kernel_rfl) [1,2] (by kernel_rfl) rfl ?_
  (refine DO.loadL tab 3 0 (by repeat (first|exact Calm.ret|refine Calm.then ?_|refine Calm.block ?_)) (by kernel_rfl) (by kernel_rfl) rfl rfl rfl rfl rfl rfl rfl rfl ?_)
  (refine DO.loadA (k:=0) tab 4 hA (by repeat (first|exact Calm.ret|refine Calm.then ?_|refine Calm.block ?_)) (by kernel_rfl) (by kernel_rfl) rfl rfl rfl rfl rfl rfl rfl ?_)
  refine DO.pure tab (by repeat (first|exact Calm.ret|refine Calm.then ?_|refine Calm.block ?_)) (by kernel_rfl) [5,6] (by kernel_rfl) rfl ?_
  (refine DO.loadL tab 7 0 (by repeat (first|exact Calm.ret|refine Calm.then ?_|refine Calm.block ?_)) (by kernel_rfl) (by kernel_rfl) rfl rfl rfl rfl rfl rfl rfl rfl ?_)
  refine DO.arith 8 (r':=((k : Nat) : Int)) (by repeat (first|exact Calm.ret|refine Calm.then ?_|refine Calm.block ?_)) (by kernel_rfl) (by kernel_rfl) rfl rfl rfl rfl rfl rfl rfl rfl (by first | rfl | omega | (simp only;omega)) (by omega) ?_
  refine DO.index tab rTok 9 k hE.rep (by repeat (first|exact Calm.ret|refine Calm.then ?_|refine Calm.block ?_)) (by kernel_rfl) (by kernel_rfl) rfl rfl rfl rfl rfl rfl rfl (by first | rfl | omega) rfl hx ?_
  rintro b i hd hr hA2;obtain rfl:=(show hd=E.toks[k] from hr)
  refine DO.pure tab (by repeat (first|exact Calm.ret|refine Calm.then ?_|refine Calm.block ?_)) (by kernel_rfl) [10] (by kernel_rfl) rfl ?_
  (refine DO.loadA tab 11 hA2 (by repeat (first|exact Calm.ret|refine Calm.then ?_|refine Calm.block ?_)) (by kernel_rfl) (by kernel_rfl) rfl rfl rfl rfl rfl rfl rfl ?_)
  refine DO.pure tab (by repeat (first|exact Calm.ret|refine Calm.then ?_|refine Calm.block ?_)) (by kernel_rfl) [12] (by kernel_rfl) rfl ?_
  refine DO.tail ?_
  refine DOt.run 13 rfl rfl (by kernel_rfl) rfl ?_
  refine OT.storeL0 tab 1 rfl rfl rfl rfl rfl rfl rfl rfl ?_
  refine DOt.nil (by kernel_rfl) ?_
  rotate_left 1
  repeat (first|refine q6 ?_|refine q8 ?_|refine q9 ?_|refine q15 ?_)
  refine retQ_ret_c1 tab 1 rfl rfl rfl rfl (L':=E.I (k + 1) h :: L) (by repeat (first|exact List.Sublist.refl _|refine List.Sublist.cons_cons _ ?_|refine List.Sublist.cons _ ?_)) ⟨_,k + 1,[],hT,hm,hlt,⟨⟨41,(E.toks[k]).text,0,⟨none,0,0⟩⟩,rfl,rfl,⟨rfl,rfl,rfl,SlRep.nil _ _⟩⟩,rfl⟩
 | false =>
 rw [Ps.tkn_f hb] at hT
 repeat (first|refine q1 ?_|refine q3 ?_|refine q17 rfl ?_)
 (refine TO.step rfl (OT.loadA0 tab hA rfl rfl rfl rfl rfl ?_))
 skip
 refine TO.step rfl (OT.takeP hT hE hk rfl rfl rfl rfl rfl rfl (fun hT hk => ?_) (fun hT => ?_))
 ·repeat (first|refine q1 ?_|refine q3 ?_|refine q4 tab rfl rfl ?_|refine q5 ?_|refine q6 ?_|refine q16 rfl ?_)
  (refine TO.step rfl (OT.storeL0 tab 1 rfl rfl rfl rfl rfl rfl rfl rfl ?_))
  repeat (first|refine q5 ?_|refine q6 ?_|refine q8 ?_|refine q9 ?_|refine q15 ?_)
  refine retQ_ret_c1 tab 1 rfl rfl rfl rfl (L':=E.I (k + 1) h :: L) (by repeat (first|exact List.Sublist.refl _|refine List.Sublist.cons_cons _ ?_|refine List.Sublist.cons _ ?_)) ⟨_,k + 1,[],hT,hm,hk,⟨⟨42,[],1,⟨none,0,0⟩⟩,rfl,rfl,⟨rfl,rfl,rfl,SlRep.nil _ _⟩⟩,rfl⟩
 repeat (first|refine q1 ?_|refine q3 ?_|refine q4 tab rfl rfl ?_|refine q5 ?_|refine q6 ?_|refine q17 rfl ?_)
 (refine TO.step rfl (OT.loadA0 tab hA rfl rfl rfl rfl rfl ?_))
 skip
 refine TO.step rfl (OT.takeP hT hE hk rfl rfl rfl rfl rfl rfl (fun hT hk => ?_) (fun hT => ?_))
 ·repeat (first|refine q1 ?_|refine q3 ?_|refine q4 tab rfl rfl ?_|refine q5 ?_|refine q6 ?_|refine q16 rfl ?_)
  (refine TO.step rfl (OT.storeL0 tab 1 rfl rfl rfl rfl rfl rfl rfl rfl ?_))
  repeat (first|refine q5 ?_|refine q6 ?_|refine q8 ?_|refine q9 ?_|refine q15 ?_)
  refine retQ_ret_c1 tab 1 rfl rfl rfl rfl (L':=E.I (k + 1) h :: L) (by repeat (first|exact List.Sublist.refl _|refine List.Sublist.cons_cons _ ?_|refine List.Sublist.cons _ ?_)) ⟨_,k + 1,[],hT,hm,hk,⟨⟨42,[],0,⟨none,0,0⟩⟩,rfl,rfl,⟨rfl,rfl,rfl,SlRep.nil _ _⟩⟩,rfl⟩
 repeat (first|refine q1 ?_|refine q3 ?_|refine q4 tab rfl rfl ?_|refine q5 ?_|refine q6 ?_|refine q17 rfl ?_)
 (refine TO.step rfl (OT.loadA0 tab hA rfl rfl rfl rfl rfl ?_))
 skip
 refine TO.step rfl (OT.takeP hT hE hk rfl rfl rfl rfl rfl rfl (fun hT hk => ?_) (fun hT => ?_))
 ·repeat (first|refine q1 ?_|refine q3 ?_|refine q4 tab rfl rfl ?_|refine q5 ?_|refine q6 ?_|refine q16 rfl ?_)
  (refine TO.step rfl (OT.storeL0 tab 1 rfl rfl rfl rfl rfl rfl rfl rfl ?_))
  repeat (first|refine q5 ?_|refine q6 ?_|refine q8 ?_|refine q9 ?_|refine q15 ?_)
  refine retQ_ret_c1 tab 1 rfl rfl rfl rfl (L':=E.I (k + 1) h :: L) (by repeat (first|exact List.Sublist.refl _|refine List.Sublist.cons_cons _ ?_|refine List.Sublist.cons _ ?_)) ⟨_,k + 1,[],hT,hm,hk,⟨⟨43,[],0,⟨none,0,0⟩⟩,rfl,rfl,⟨rfl,rfl,rfl,SlRep.nil _ _⟩⟩,rfl⟩
 repeat (first|refine q1 ?_|refine q3 ?_|refine q4 tab rfl rfl ?_|refine q5 ?_|refine q6 ?_|refine q17 rfl ?_)
 (refine TO.step rfl (OT.loadA0 tab hA rfl rfl rfl rfl rfl ?_))
 skip
 refine TO.step rfl (OT.takeP hT hE hk rfl rfl rfl rfl rfl rfl (fun hT hk => ?_) (fun hT => ?_))
 ·repeat (first|refine q1 ?_|refine q3 ?_|refine q4 tab rfl rfl ?_|refine q5 ?_|refine q6 ?_|refine q16 rfl ?_)
  (refine TO.step rfl (OT.loadA0 tab hA rfl rfl rfl rfl rfl ?_))
  (refine TO.step rfl (OT.loadA0 tab hA rfl rfl rfl rfl rfl ?_))
  repeat (refine q4 tab rfl rfl ?_)
  refine TO.step rfl (OT.parTA (L0:=L) (inside_at (first:=[E.v]) (cap:=[]) rfl goes191 hE (fun b=>hY.at _ hmm hE hk)) hT hn hE (by repeat (first|exact Bad.ret|refine Bad.then ?_|refine Bad.block ?_)) hm (by repeat (first|exact List.Sublist.refl _|refine List.Sublist.cons _ ?_)) rfl rfl rfl rfl rfl rfl goes206 (fun x m2 a k2 hT hm hE hle hk hrx => ?_))
  replace hA:=hA.mono hle
  skip
  refine TO.step rfl (OT.alloc tab rfl rfl rfl rfl (fun b3 => ?_));refine TO.perm (List.Perm.swap _ _ _) ?_
  skip
  (refine TO.step rfl (OT.storeL0 tab 1 rfl rfl rfl rfl rfl rfl rfl rfl ?_))
  repeat (first|refine q1 ?_|refine q3 ?_|refine q5 ?_|refine q6 ?_)
  (refine TO.step rfl (OT.loadA0 tab hA rfl rfl rfl rfl rfl ?_))
  skip
  refine TO.step rfl (OT.needP (L0:=L) hT hE hk (by repeat (first|exact Bad.ret|refine Bad.then ?_|refine Bad.block ?_)) hm (by repeat (first|exact List.Sublist.refl _|refine List.Sublist.cons _ ?_)) rfl rfl rfl rfl rfl rfl (fun hT hk => ?_))
  repeat (first|refine q1 ?_|refine q3 ?_|refine q5 ?_|refine q6 ?_)
  (refine qs rfl (qz tab 1 rfl rfl rfl rfl rfl rfl ?_))
  skip
  refine TO.step rfl (OT.storeL0 tab 2 rfl rfl rfl rfl rfl rfl rfl rfl ?_)
  repeat (first|refine q5 ?_|refine q6 ?_|refine q8 ?_|refine q9 ?_|refine q15 ?_)
  refine retQ_ret_c1 tab 2 rfl rfl rfl rfl (L':=E.I (k2 + 1) h :: L) (by repeat (first|exact List.Sublist.refl _|refine List.Sublist.cons_cons _ ?_|refine List.Sublist.cons _ ?_)) ⟨_,k2 + 1,[],hT,hm,hk,⟨x,rfl,rfl,hrx⟩,rfl⟩
 repeat (first|refine q1 ?_|refine q3 ?_|refine q4 tab rfl rfl ?_|refine q5 ?_|refine q6 ?_|refine q17 rfl ?_)
 (refine TO.step rfl (OT.loadA0 tab hA rfl rfl rfl rfl rfl ?_))
 skip
 refine TO.step rfl (OT.takeP hT hE hk rfl rfl rfl rfl rfl rfl (fun hT hk => ?_) (fun hT => ?_))
 ·repeat (first|refine q1 ?_|refine q3 ?_|refine q4 tab rfl rfl ?_|refine q5 ?_|refine q6 ?_|refine q16 rfl ?_)
  (refine TO.step rfl (OT.loadA0 tab hA rfl rfl rfl rfl rfl ?_))
  skip
  refine TO.step rfl (OT.needP (L0:=L) hT hE hk (by repeat (first|exact Bad.ret|refine Bad.then ?_|refine Bad.block ?_)) hm (by repeat (first|exact List.Sublist.refl _|refine List.Sublist.cons _ ?_)) rfl rfl rfl rfl rfl rfl (fun hT hk => ?_))
  repeat (first|refine q1 ?_|refine q3 ?_|refine q5 ?_|refine q6 ?_)
  (refine TO.step rfl (OT.loadA0 tab hA rfl rfl rfl rfl rfl ?_))
  skip
  refine TO.step rfl (OT.parT (L0:=L) hX hmm hT hn hE hk (by repeat (first|exact Bad.ret|refine Bad.then ?_|refine Bad.block ?_)) hm (by repeat (first|exact List.Sublist.refl _|refine List.Sublist.cons _ ?_)) rfl rfl rfl rfl rfl rfl goes143 (fun x m2 a k2 hT hm hE hle hk hrx => ?_))
  refine TO.step rfl (OT.litR tab rTree (hs:=[x]) (l:=[a]) ⟨rTree_iff.2 hrx,trivial⟩ rfl rfl rfl rfl rfl (by decide) (fun s m3 hle3 hs ho hc => ?_))
  replace hA:=hA.mono (Mem.le_trans hle hle3)
  replace hm:=Mem.le_trans hm hle3
  replace hE:=hE.mono hle3
  replace hY:=hY.up (Mem.le_trans hle hle3)
  refine TO.tokFo hc ho 4 ?_
  refine TO.perm (List.Perm.swap _ _ _) ?_
  repeat (refine q4 tab rfl rfl ?_)
  refine TO.step rfl (OT.alloc tab rfl rfl rfl rfl (fun b4 => ?_));refine TO.perm (List.Perm.swap _ _ _) ?_
  skip
  (refine TO.step rfl (OT.storeL0 tab 1 rfl rfl rfl rfl rfl rfl rfl rfl ?_))
  repeat (first|refine q1 ?_|refine q3 ?_|refine q5 ?_|refine q6 ?_)
  (refine TO.step rfl (OT.loadA0 tab hA rfl rfl rfl rfl rfl ?_))
  skip
  refine TO.step rfl (OT.needP (L0:=L) hT hE hk (by repeat (first|exact Bad.ret|refine Bad.then ?_|refine Bad.block ?_)) hm (by repeat (first|exact List.Sublist.refl _|refine List.Sublist.cons _ ?_)) rfl rfl rfl rfl rfl rfl (fun hT hk => ?_))
  repeat (first|refine q1 ?_|refine q5 ?_|refine q6 ?_)
  refine TC.draw [7] mixed 8 rfl [.cells b4 0 [.int .i64 46,strV [], .int .i64 0,s.v]] (E.I (k2 + 1) h :: tok s 4 :: .cells b2 0 [.int .i64 0,strV [], .int .i64 0, .slice none 0 0] :: L) (List.Perm.swap _ _ _) ?_
  refine DO.pure tab (by repeat (first|exact Calm.ret|refine Calm.then ?_|refine Calm.block ?_)) (by kernel_rfl) [0] (by kernel_rfl) rfl ?_
  (refine DO.loadL tab 1 0 (by repeat (first|exact Calm.ret|refine Calm.then ?_|refine Calm.block ?_)) (by kernel_rfl) (by kernel_rfl) rfl rfl rfl rfl rfl rfl rfl rfl ?_)
  (refine DO.loadA (k:=0) tab 2 hA (by repeat (first|exact Calm.ret|refine Calm.then ?_|refine Calm.block ?_)) (by kernel_rfl) (by kernel_rfl) rfl rfl rfl rfl rfl rfl rfl ?_)
  refine DO.pure tab (by repeat (first|exact Calm.ret|refine Calm.then ?_|refine Calm.block ?_)) (by kernel_rfl) [3] (by kernel_rfl) rfl ?_
  refine DO.run 4 rfl rfl (by kernel_rfl) rfl ?_
  refine OT.perm (List.Perm.swap _ _ _) (OT.parSA (L0:=L) (insideS_at (first:=[]) (cap:=[.pointer (some ⟨b1,0,none⟩)]) rfl goes212 hE ((primary1_par hY b1 hA).at _ (Mem.le_refl _) hE hk)) hT hn hE (by repeat (first|exact Bad.ret|refine Bad.then ?_|refine Bad.block ?_)) hm (by repeat (first|exact List.Sublist.refl _|refine List.Sublist.cons _ ?_)) rfl rfl rfl rfl rfl rfl goes211 (fun y mA l k3 hT hm hE hleA hk hry hly => ?_));refine ⟨hleA,E.I k3 h :: tok s 4 :: .cells b2 0 [.int .i64 0,strV [], .int .i64 0, .slice none 0 0] :: L,List.Perm.swap _ _ _, ?_⟩
  refine DO.run 5 rfl rfl (by kernel_rfl) rfl ?_
  refine OT.append tab rTree 2 (hs.mono hleA) ho hry rfl rfl rfl rfl rfl rfl rfl (by simp only [List.length_cons,List.length_nil,rTree,mkR];omega) (fun s3 mC hleC hs3 ho3 => ?_);refine ⟨hleC,E.I k3 h :: tok s3 4 :: .cells b2 0 [.int .i64 0,strV [], .int .i64 0, .slice none 0 0] :: L,List.Perm.refl _, ?_⟩
  refine DO.pure tab (by repeat (first|exact Calm.ret|refine Calm.then ?_|refine Calm.block ?_)) (by kernel_rfl) [6] (by kernel_rfl) rfl ?_
  refine DO.tail ?_
  refine DOt.run 7 rfl rfl (by kernel_rfl) rfl ?_
  refine OT.storeL (k:=3) tab 0 rfl rfl rfl rfl rfl rfl rfl rfl ?_;refine DOt.perm (List.Perm.swap _ _ _) ?_
  refine DOt.nil (by kernel_rfl) ?_
  rotate_left 1
  repeat (first|refine q1 ?_|refine q3 ?_|refine q6 ?_)
  (refine qs rfl (qz tab 1 rfl rfl rfl rfl rfl rfl ?_))
  skip
  refine TO.step rfl (OT.storeL0 tab 3 rfl rfl rfl rfl rfl rfl rfl rfl ?_)
  repeat (first|refine q5 ?_|refine q6 ?_|refine q8 ?_|refine q9 ?_|refine q15 ?_)
  refine retQ_ret_c1 tab 3 rfl rfl rfl rfl (L':=E.I k3 h :: L) (by repeat (first|exact List.Sublist.refl _|refine List.Sublist.cons_cons _ ?_|refine List.Sublist.cons _ ?_)) ⟨_,k3,[],hT,Mem.le_trans hm hleC,hk,⟨⟨46,[],0,s3⟩,rfl,rfl,⟨rfl,rfl,rfl,hs3⟩⟩,rfl⟩
 repeat (first|refine q1 ?_|refine q3 ?_|refine q4 tab rfl rfl ?_|refine q5 ?_|refine q6 ?_|refine q17 rfl ?_)
 (refine TO.step rfl (OT.loadA0 tab hA rfl rfl rfl rfl rfl ?_))
 skip
 refine TO.step rfl (OT.takeP hT hE hk rfl rfl rfl rfl rfl rfl (fun hT hk => ?_) (fun hT => ?_))
 ·repeat (first|refine q1 ?_|refine q4 tab rfl rfl ?_|refine q5 ?_|refine q6 ?_|refine q16 rfl ?_)
  refine TC.draw [6] mixed 7 rfl [.cells b2 0 [.int .i64 0,strV [], .int .i64 0, .slice none 0 0]] (E.I (k + 1) h :: L) (List.Perm.swap _ _ _) ?_
  (refine DO.loadA (k:=0) tab 0 hA (by repeat (first|exact Calm.ret|refine Calm.then ?_|refine Calm.block ?_)) (by kernel_rfl) (by kernel_rfl) rfl rfl rfl rfl rfl rfl rfl ?_)
  (refine DO.loadA (k:=0) tab 2 hA (by repeat (first|exact Calm.ret|refine Calm.then ?_|refine Calm.block ?_)) (by kernel_rfl) (by kernel_rfl) rfl rfl rfl rfl rfl rfl rfl ?_)
  refine DO.run 1 rfl rfl (by kernel_rfl) rfl ?_
  refine OT.perm (List.Perm.swap _ _ _) (OT.parT (L0:=L) (psig_par hX) hmm hT hn hE hk (by repeat (first|exact Bad.ret|refine Bad.then ?_|refine Bad.block ?_)) hm (by repeat (first|exact List.Sublist.refl _|refine List.Sublist.cons _ ?_)) rfl rfl rfl rfl rfl rfl goes114 (fun x mA a k2 hT hm hE hleA hk hrx => ?_));refine ⟨hleA,E.I k2 h :: L,List.Perm.swap _ _ _, ?_⟩
  refine DO.run 3 rfl rfl (by kernel_rfl) rfl ?_
  refine OT.perm (List.Perm.swap _ _ _) (OT.parT (L0:=L) hZ hleA hT hn hE hk (by repeat (first|exact Bad.ret|refine Bad.then ?_|refine Bad.block ?_)) hm (by repeat (first|exact List.Sublist.refl _|refine List.Sublist.cons _ ?_)) rfl rfl rfl rfl rfl rfl goes115 (fun y mB b k3 hT hm hE hleB hk hry => ?_));refine ⟨hleB,E.I k3 h :: L,List.Perm.swap _ _ _, ?_⟩
  refine DO.run 4 rfl rfl (by kernel_rfl) rfl ?_
  refine OT.litR tab rTree (hs:=[x,y]) (l:=[a,b]) ⟨rTree_iff.2 (hrx.mono hleB),rTree_iff.2 hry,trivial⟩ rfl rfl rfl rfl rfl (by decide) (fun s mC hleC hs ho hc => ?_);refine ⟨hleC,_,List.Perm.refl _, ?_⟩
  refine DO.pure tab (by repeat (first|exact Calm.ret|refine Calm.then ?_|refine Calm.block ?_)) (by kernel_rfl) [5] (by kernel_rfl) rfl ?_
  refine DO.tail ?_
  refine DOt.run 6 rfl rfl (by kernel_rfl) rfl ?_
  refine OT.storeL0 tab 0 rfl rfl rfl rfl rfl rfl rfl rfl ?_;refine DOt.perm (List.Perm.swap _ _ _) ?_
  refine DOt.nil (by kernel_rfl) ?_
  rotate_left 1
  repeat (first|refine q6 ?_|refine q8 ?_|refine q9 ?_|refine q15 ?_)
  refine retQ_ret_c1 tab 1 rfl rfl rfl rfl (L':=E.I k3 h :: L) (by repeat (first|exact List.Sublist.refl _|refine List.Sublist.cons_cons _ ?_|refine List.Sublist.cons _ ?_)) ⟨_,k3,[],hT,Mem.le_trans hm hleC,hk,⟨⟨47,[],0,s⟩,rfl,rfl,⟨rfl,rfl,rfl,hs⟩⟩,rfl⟩
 repeat (first|refine q1 ?_|refine q3 ?_|refine q4 tab rfl rfl ?_|refine q5 ?_|refine q6 ?_|refine q7 ?_|refine q13 ?_|refine q17 rfl ?_)
 (refine TO.step rfl (OT.loadA0 tab hA rfl rfl rfl rfl rfl ?_))
 skip
 refine TO.step rfl (OT.nameP (L0:=L) hT hE hk (by repeat (first|exact Bad.ret|refine Bad.then ?_)) hm (by repeat (first|exact List.Sublist.refl _|refine List.Sublist.cons _ ?_)) rfl rfl rfl rfl rfl rfl (fun nm hT hk => ?_))
 repeat (first|refine q1 ?_|refine q3 ?_|refine q4 tab rfl rfl ?_|refine q5 ?_|refine q6 ?_)
 (refine TO.step rfl (OT.loadA0 tab hA rfl rfl rfl rfl rfl ?_))
 repeat (refine q4 tab rfl rfl ?_)
 (refine qs rfl (ql tab 0 rfl rfl rfl rfl rfl rfl ?_))
 cases hd with
 | true =>
  obtain rfl:=(show (1 : Int)=h from hh)
  repeat (first|refine q1 ?_|refine q3 ?_|refine q4 tab rfl rfl ?_|refine q5 ?_|refine q6 ?_|refine q13 ?_|refine q17 rfl ?_)
  (refine TO.step rfl (OT.storeL0 tab 1 rfl rfl rfl rfl rfl rfl rfl rfl ?_))
  repeat (first|refine q5 ?_|refine q6 ?_|refine q15 ?_)
  refine retQ_ret_c1 tab 1 rfl rfl rfl rfl (L':=E.I (k + 1) 1 :: L) (by repeat (first|exact List.Sublist.refl _|refine List.Sublist.cons_cons _ ?_|refine List.Sublist.cons _ ?_)) ⟨_,k + 1,[],hT,hm,hk,⟨⟨44,nm,0,⟨none,0,0⟩⟩,rfl,rfl,⟨rfl,rfl,rfl,SlRep.nil _ _⟩⟩,rfl⟩
 | false =>
  obtain rfl:=(show (0 : Int)=h from hh)
  replace hT : T=Ps.tok [123] (Ps.bind (Ps.exprsP E.N [125] Y) fun l=>Ps.ret (.mk 45 nm 0 l)) (Ps.ret (Ps.leaf 44 nm)) E.f (k + 1):=hT
  repeat (refine q4 tab rfl rfl ?_)
  (refine TO.step rfl (OT.loadA0 tab hA rfl rfl rfl rfl rfl ?_))
  skip
  refine TO.step rfl (OT.takeP hT hE hk rfl rfl rfl rfl rfl rfl (fun hT hk => ?_) (fun hT => ?_))
  ·repeat (first|refine q1 ?_|refine q3 ?_|refine q4 tab rfl rfl ?_|refine q5 ?_|refine q6 ?_|refine q16 rfl ?_)
   (refine TO.step rfl (OT.loadA0 tab hA rfl rfl rfl rfl rfl ?_))
   skip
   refine TO.step rfl (OT.parS (L0:=L) (exprs_par hY [125]) hmm hT hn hE hk (by repeat (first|exact Bad.ret|refine Bad.then ?_)) hm (by repeat (first|exact List.Sublist.refl _|refine List.Sublist.cons _ ?_)) rfl rfl rfl rfl rfl rfl goes210 (fun y mA l k3 hT hm hE hleA hk hry hly => ?_))
   repeat (refine q4 tab rfl rfl ?_)
   (refine TO.step rfl (OT.storeL0 tab 1 rfl rfl rfl rfl rfl rfl rfl rfl ?_))
   repeat (first|refine q5 ?_|refine q6 ?_|refine q8 ?_|refine q15 ?_)
   refine retQ_ret_c1 tab 1 rfl rfl rfl rfl (L':=E.I k3 0 :: L) (by repeat (first|exact List.Sublist.refl _|refine List.Sublist.cons_cons _ ?_|refine List.Sublist.cons _ ?_)) ⟨_,k3,[],hT,hm,hk,⟨⟨45,nm,0,y⟩,rfl,rfl,⟨rfl,rfl,rfl,hry⟩⟩,rfl⟩
  ·repeat (first|refine q1 ?_|refine q3 ?_|refine q4 tab rfl rfl ?_|refine q5 ?_|refine q6 ?_|refine q13 ?_|refine q17 rfl ?_)
   (refine TO.step rfl (OT.storeL0 tab 1 rfl rfl rfl rfl rfl rfl rfl rfl ?_))
   repeat (first|refine q5 ?_|refine q6 ?_|refine q15 ?_)
   refine retQ_ret_c1 tab 1 rfl rfl rfl rfl (L':=E.I (k + 1) 0 :: L) (by repeat (first|exact List.Sublist.refl _|refine List.Sublist.cons_cons _ ?_|refine List.Sublist.cons _ ?_)) ⟨_,k + 1,[],hT,hm,hk,⟨⟨44,nm,0,⟨none,0,0⟩⟩,rfl,rfl,⟨rfl,rfl,rfl,SlRep.nil _ _⟩⟩,rfl⟩
end
end Go.Sep


/- PsW14 -/
set_option linter.unusedVariables false
set_option linter.unusedSimpArgs false
namespace Go.Sep
open Go.Proofs
attribute [local irreducible] TC TO OT TCallX TCall DO DOt thenQ blockQ retQ At
section
variable {mb : Mem} {E : PE} {h : Int}
set_option maxHeartbeats 2000000 in
theorem post_par {X Y : Ps.Pp Tree} (hX : Par Tryz.prog mb E vTree 205 [E.v] h X) (hY : Par Tryz.prog mb E vTree 191 [E.v] 0 Y) :
  Par Tryz.prog mb E vTree 204 [E.v] h (Ps.bind X (Ps.postP E.N Y E.N)):=by
 refine Par.enter Tryz.func204 rfl 27 rfl fun m L k T hm0 hE hk hT hn => ?_
 have hm : m ≤ m:=Mem.le_refl _
 have hrows:=hE.rows
 repeat (first|refine q1 ?_|refine q3 ?_)
 refine TO.step rfl (OT.box rfl rfl rfl rfl rfl (fun b1 => ?_))
 refine TO.freeze fun m1 hle1 hA => ?_
 replace hm : m ≤ m1:=hle1
 replace hE:=hE.mono hle1
 replace hX:=hX.up (Mem.le_trans hm0 hle1)
 replace hY:=hY.up (Mem.le_trans hm0 hle1)
 skip
 refine TO.step rfl (OT.alloc tab rfl rfl rfl rfl (fun b2 => ?_));refine TO.perm (List.Perm.swap _ _ _) ?_
 repeat (first|refine q1 ?_|refine q3 ?_|refine q5 ?_|refine q6 ?_)
 (refine TO.step rfl (OT.loadA0 tab hA rfl rfl rfl rfl rfl ?_))
 skip
 refine TO.step rfl (OT.parT (L0:=L) hX (Mem.le_refl _) hT hn hE hk (by repeat (first|exact Bad.ret|refine Bad.then ?_)) hm (by repeat (first|exact List.Sublist.refl _|refine List.Sublist.cons _ ?_)) rfl rfl rfl rfl rfl rfl goes205 (fun x m2 a k2 hT hm hE hle2 hk hrx => ?_))
 skip
 refine TO.step rfl (OT.alloc tab rfl rfl rfl rfl (fun b3 => ?_));refine TO.perm (List.Perm.swap _ _ _) ?_
 skip
 (refine TO.step rfl (OT.storeL0 tab 1 rfl rfl rfl rfl rfl rfl rfl rfl ?_))
 repeat (first|refine q2 ?_|refine q5 ?_|refine q6 ?_)
 refine TC.loopK (ι:=HTree × Mem × Tree × Nat × Nat) [0,1,2,3] rfl (fun _=>[]) (fun x=>x.2.1) (fun x=>E.I x.2.2.2.1 h :: .cells b3 0 (treeC x.1) :: .cells b2 0 [.int .i64 0,strV [], .int .i64 0, .slice none 0 0] :: L) (fun x=>m2 ≤ x.2.1∧x.2.2.2.1 ≤ E.toks.length∧TreeRep x.2.1 x.1 x.2.2.1∧T=Ps.postP E.N Y x.2.2.2.2 x.2.2.1 E.f x.2.2.2.1) (fun x=>x.2.2.2.2) (x,m2,a,k2,E.N) (by repeat (exact trivial)) rfl (by repeat (exact List.Sublist.refl _)) ⟨Mem.le_refl _,hk,hrx,hT⟩ ?_
 rintro ⟨x,m3,n,k,N⟩ ⟨hm3,hk,hrx,hT⟩
 simp only at hm3 hk hrx hT
 show TC _ _ _ _ _ m3 (E.I k h :: .cells b3 0 (treeC x) :: .cells b2 0 [.int .i64 0,strV [], .int .i64 0, .slice none 0 0] :: L) _
 replace hm:=Mem.le_trans hm hm3
 replace hE:=hE.mono hm3
 replace hA:=hA.mono (Mem.le_trans hle2 hm3)
 replace hY:=hY.up (Mem.le_trans hle2 hm3)
 have hmm : m3 ≤ m3:=Mem.le_refl _
 cases N with
 | zero=>exact absurd hT hn
 | succ N =>
  replace hT : T=Ps.tok [46] (Ps.name fun s=>Ps.postP E.N Y N (.mk 48 s 0 [n])) (Ps.tok [91] (Ps.bind (Ps.indexP Y n) fun t=>Ps.postP E.N Y N t) (Ps.tok [40] (Ps.bind (Ps.exprsP E.N [41] Y) fun l=>Ps.postP E.N Y N (.mk 51 [] 0 (n :: l))) (Ps.ret n))) E.f k:=hT
  repeat (first|refine q1 ?_|refine q2 ?_|refine q3 ?_)
  (refine TO.step rfl (OT.loadA0 tab hA rfl rfl rfl rfl rfl ?_))
  skip
  refine TO.step rfl (OT.takeP hT hE hk rfl rfl rfl rfl rfl rfl (fun hT hk => ?_) (fun hT => ?_))
  ·repeat (first|refine q4 tab rfl rfl ?_|refine q5 ?_|refine q6 ?_|refine q16 rfl ?_)
   refine TC.draw [5] mixed 6 rfl [.cells b3 0 (treeC x)] (E.I (k + 1) h :: .cells b2 0 [.int .i64 0,strV [], .int .i64 0, .slice none 0 0] :: L) (List.Perm.swap _ _ _) ?_
   refine DO.loadA (k:=0) tab 0 hA (by repeat (first|exact Calm.ret|refine Calm.then ?_|refine Calm.block ?_)) (by kernel_rfl) (by kernel_rfl) rfl rfl rfl rfl rfl rfl rfl ?_
   refine DO.loadL (k:=0) tab 2 0 (by repeat (first|exact Calm.ret|refine Calm.then ?_|refine Calm.block ?_)) (by kernel_rfl) (by kernel_rfl) rfl rfl rfl rfl rfl rfl rfl rfl ?_
   refine DO.fork 1 [3] (by kernel_rfl) ⟨⟨_,rfl,rfl,rfl, ?_⟩,⟨_,rfl,rfl,rfl, ?_⟩,trivial⟩
   ·skip
    refine OT.perm (List.Perm.swap _ _ _) (OT.nameP (L0:=L) hT hE hk (by repeat (first|exact Bad.ret|refine Bad.then ?_|refine Bad.block ?_)) hm (by repeat (first|exact List.Sublist.refl _|refine List.Sublist.cons _ ?_)) rfl rfl rfl rfl rfl rfl (fun t hT hk => ?_))
    refine ⟨Mem.le_refl _,E.I (k + 1 + 1) h :: .cells b2 0 [.int .i64 0,strV [], .int .i64 0, .slice none 0 0] :: L,List.Perm.swap _ _ _, ?_⟩
    refine DO.run 3 rfl rfl (by kernel_rfl) rfl ?_
    refine OT.litR tab rTree (hs:=[x]) (l:=[n]) ⟨rTree_iff.2 hrx,trivial⟩ rfl rfl rfl rfl rfl (by decide) (fun s mB hleB hs ho hc => ?_)
    replace hm:=Mem.le_trans hm hleB
    replace hE:=hE.mono hleB
    refine ⟨hleB,_,List.Perm.refl _, ?_⟩
    refine DO.pure tab (by repeat (first|exact Calm.ret|refine Calm.then ?_|refine Calm.block ?_)) (by kernel_rfl) [4] (by kernel_rfl) rfl ?_
    refine DO.tail ?_
    refine DOt.run 5 rfl rfl (by kernel_rfl) rfl ?_
    refine OT.storeL0 tab 0 rfl rfl rfl rfl rfl rfl rfl rfl ?_
    refine DOt.perm (List.Perm.swap _ _ _) ?_
    refine DOt.nil (by kernel_rfl) ?_
    repeat (first|refine q6 ?_|refine q7 ?_)
    exact ⟨(⟨48,t,0,s⟩,mB, .mk 48 t 0 [n],k + 1 + 1,N),(by repeat (exact trivial)),(by repeat (first|exact trivial|refine And.intro rfl ?_)),rfl,rfl,(by repeat (exact List.Sublist.refl _)),⟨Mem.le_trans hm3 hleB,hk,⟨rfl,rfl,rfl,hs⟩,hT⟩,by simp only;omega⟩
   ·skip
    refine OT.litR tab rTree (hs:=[x]) (l:=[n]) ⟨rTree_iff.2 hrx,trivial⟩ rfl rfl rfl rfl rfl (by decide) (fun s mB hleB hs ho hc => ?_)
    replace hm:=Mem.le_trans hm hleB
    replace hE:=hE.mono hleB
    refine ⟨hleB,_,List.Perm.refl _, ?_⟩
    refine DO.run 1 rfl rfl (by kernel_rfl) rfl ?_
    refine OT.perm (List.Perm.swap _ _ _) (OT.nameP (L0:=L) hT hE hk (by repeat (first|exact Bad.ret|refine Bad.then ?_|refine Bad.block ?_)) hm (by repeat (first|exact List.Sublist.refl _|refine List.Sublist.cons _ ?_)) rfl rfl rfl rfl rfl rfl (fun t hT hk => ?_))
    refine ⟨Mem.le_refl _,E.I (k + 1 + 1) h :: .cells b2 0 [.int .i64 0,strV [], .int .i64 0, .slice none 0 0] :: L,List.Perm.swap _ _ _, ?_⟩
    refine DO.pure tab (by repeat (first|exact Calm.ret|refine Calm.then ?_|refine Calm.block ?_)) (by kernel_rfl) [4] (by kernel_rfl) rfl ?_
    refine DO.tail ?_
    refine DOt.run 5 rfl rfl (by kernel_rfl) rfl ?_
    refine OT.storeL0 tab 0 rfl rfl rfl rfl rfl rfl rfl rfl ?_
    refine DOt.perm (List.Perm.swap _ _ _) ?_
    refine DOt.nil (by kernel_rfl) ?_
    repeat (first|refine q6 ?_|refine q7 ?_)
    exact ⟨(⟨48,t,0,s⟩,mB, .mk 48 t 0 [n],k + 1 + 1,N),(by repeat (exact trivial)),(by repeat (first|exact trivial|refine And.intro rfl ?_)),rfl,rfl,(by repeat (exact List.Sublist.refl _)),⟨Mem.le_trans hm3 hleB,hk,⟨rfl,rfl,rfl,hs⟩,hT⟩,by simp only;omega⟩
  repeat (first|refine q1 ?_|refine q3 ?_|refine q4 tab rfl rfl ?_|refine q5 ?_|refine q6 ?_|refine q17 rfl ?_)
  (refine TO.step rfl (OT.loadA0 tab hA rfl rfl rfl rfl rfl ?_))
  skip
  refine TO.step rfl (OT.takeP hT hE hk rfl rfl rfl rfl rfl rfl (fun hT hk => ?_) (fun hT => ?_))
  ·repeat (first|refine q3 ?_|refine q4 tab rfl rfl ?_|refine q5 ?_|refine q6 ?_|refine q16 rfl ?_)
   (refine TO.step rfl (OT.loadA0 tab hA rfl rfl rfl rfl rfl ?_))
   repeat (refine q4 tab rfl rfl ?_)
   refine TO.step rfl (OT.parTA (L0:=L) (inside_at (first:=[]) (cap:=[.pointer (some ⟨b1,0,none⟩), .pointer (some ⟨b3,0,none⟩)]) rfl goes207 hE (fun b=>post1_at hY hmm hE hk hA hrx)) hT hn hE (by repeat (first|exact Bad.ret|refine Bad.then ?_|refine Bad.block ?_)) hm (by repeat (first|exact List.Sublist.refl _|refine List.Sublist.cons _ ?_)) rfl rfl rfl rfl rfl rfl goes206 (fun y mB e k3 hT hm hE hleB hk hry => ?_))
   skip
   refine TO.step rfl (OT.storeL0 tab 1 rfl rfl rfl rfl rfl rfl rfl rfl ?_)
   repeat (first|refine q5 ?_|refine q6 ?_|refine q7 ?_)
   exact ⟨(y,mB,e,k3,N),(by repeat (exact trivial)),(by repeat (first|exact trivial|refine And.intro rfl ?_)),rfl,rfl,(by repeat (exact List.Sublist.refl _)),⟨Mem.le_trans hm3 hleB,hk,hry,hT⟩,by simp only;omega⟩
  repeat (first|refine q1 ?_|refine q3 ?_|refine q4 tab rfl rfl ?_|refine q5 ?_|refine q6 ?_|refine q17 rfl ?_)
  (refine TO.step rfl (OT.loadA0 tab hA rfl rfl rfl rfl rfl ?_))
  skip
  refine TO.step rfl (OT.takeP hT hE hk rfl rfl rfl rfl rfl rfl (fun hT hk => ?_) (fun hT => ?_))
  ·replace hT : T=Ps.bind (Ps.bind (Ps.exprsP E.N [41] Y) fun l=>Ps.ret (.mk 51 [] 0 (n :: l))) (Ps.postP E.N Y N) E.f (k + 1):=by rw [Ps.bind_assoc];exact hT
   repeat (first|refine q3 ?_|refine q4 tab rfl rfl ?_|refine q5 ?_|refine q6 ?_|refine q16 rfl ?_)
   (refine TO.step rfl (OT.loadA0 tab hA rfl rfl rfl rfl rfl ?_))
   repeat (refine q4 tab rfl rfl ?_)
   refine TO.step rfl (OT.parTA (L0:=L) (inside_at (first:=[]) (cap:=[.pointer (some ⟨b3,0,none⟩), .pointer (some ⟨b1,0,none⟩)]) rfl goes209 hE (fun b=>post2_at hY hmm hE hk hA hrx)) hT hn hE (by repeat (first|exact Bad.ret|refine Bad.then ?_|refine Bad.block ?_)) hm (by repeat (first|exact List.Sublist.refl _|refine List.Sublist.cons _ ?_)) rfl rfl rfl rfl rfl rfl goes206 (fun y mB e k3 hT hm hE hleB hk hry => ?_))
   skip
   refine TO.step rfl (OT.storeL0 tab 1 rfl rfl rfl rfl rfl rfl rfl rfl ?_)
   repeat (first|refine q5 ?_|refine q6 ?_|refine q7 ?_)
   exact ⟨(y,mB,e,k3,N),(by repeat (exact trivial)),(by repeat (first|exact trivial|refine And.intro rfl ?_)),rfl,rfl,(by repeat (exact List.Sublist.refl _)),⟨Mem.le_trans hm3 hleB,hk,hry,hT⟩,by simp only;omega⟩
  ·repeat (first|refine q1 ?_|refine q3 ?_|refine q4 tab rfl rfl ?_|refine q5 ?_|refine q6 ?_|refine q17 rfl ?_)
   (refine qs rfl (qz tab 1 rfl rfl rfl rfl rfl rfl ?_))
   skip
   refine TO.step rfl (OT.storeL0 tab 2 rfl rfl rfl rfl rfl rfl rfl rfl ?_)
   repeat (first|refine q5 ?_|refine q6 ?_|refine q8 ?_|refine q9 ?_|refine q15 ?_)
   refine retQ_ret_c1 tab 2 rfl rfl rfl rfl (L':=E.I k h :: L) (by repeat (first|exact List.Sublist.refl _|refine List.Sublist.cons_cons _ ?_|refine List.Sublist.cons _ ?_)) ⟨_,k,[],hT,hm,hk,⟨x,rfl,rfl,hrx⟩,rfl⟩
structure GW (mb : Mem) (E : PE) (g : Ps.Gr) : Prop where
 typ : ∀ h,Par Tryz.prog mb E vTree 143 [E.v] h g.typ
 block : ∀ h,Par Tryz.prog mb E vTree 115 [E.v] h g.block
 stmt : Par Tryz.prog mb E vTree 149 [E.v] 0 g.stmt
 branch : Par Tryz.prog mb E vTree 176 [E.v] 0 g.branch
 expr : ∀ b,Par Tryz.prog mb E vTree 191 [E.v] (bif b then 1 else 0) (g.expr b)
 unary : ∀ b,Par Tryz.prog mb E vTree 203 [E.v] (bif b then 1 else 0) (g.unary b)
theorem Par.dry {f : FuncId} {args : List Value} {V : RV Tree} : Par Tryz.prog mb E V f args h Ps.dry:=fun _ _ _ _ _ _ hn=>absurd rfl hn
theorem gw : ∀ n,GW mb E (Ps.gr E.N n)
 | 0=>⟨fun _=>Par.dry,fun _=>Par.dry,Par.dry,Par.dry,fun _=>Par.dry,fun _=>Par.dry⟩
 | n + 1=>by
  have g:=gw n
  refine ⟨fun h=>typ_par (g.typ h),fun h=>block_par g.stmt,stmt_par (g.expr true) (g.block 0) g.branch (simple_par (g.typ 0) (g.expr false)),branch_par (g.expr true) (g.block 0) g.branch,fun b=>expr_par (g.unary b),fun b => ?_⟩
  exact unary_par (g.unary b) (post_par (primary_par b (g.typ _) (g.expr false) (g.block _)) (g.expr false))
end
end Go.Sep


/- PsW15 -/
set_option linter.unusedVariables false
set_option linter.unusedSimpArgs false
namespace Go.Sep
open Go.Proofs
attribute [local irreducible] TC TO OT TCallX TCall DO DOt thenQ blockQ retQ At
section
variable {mb : Mem} {E : PE}
set_option maxHeartbeats 1000000 in
theorem program_par {X : Ps.Pp Tree} (hX : Par Tryz.prog mb E vTree 61 [E.v] 0 X) :
  Par Tryz.prog mb E vTree 31 [E.v] 0 (Ps.bind (Ps.progL X E.N) fun l=>Ps.ret (.mk 1 [] 0 l)):=by
 refine Par.enter Tryz.func31 rfl 23 rfl fun m L k T hm0 hE hk hT hn => ?_
 replace hX:=hX.up hm0
 have hm : m ≤ m:=Mem.le_refl _
 have hrows:=hE.rows
 rw [Ps.decls_start] at hT
 repeat (first|refine q1 ?_|refine q3 ?_)
 refine TO.step rfl (OT.alloc tab rfl rfl rfl rfl (fun b2 => ?_));refine TO.perm (List.Perm.swap _ _ _) ?_
 repeat (first|refine q1 ?_|refine q3 ?_|refine q4 tab rfl rfl ?_|refine q5 ?_|refine q6 ?_)
 refine TO.step rfl (OT.alloc tab rfl rfl rfl rfl (fun b3 => ?_));refine TO.perm (List.Perm.swap _ _ _) ?_
 skip
 (refine TO.step rfl (OT.storeL0 tab 1 rfl rfl rfl rfl rfl rfl rfl rfl ?_))
 refine TO.grow0 (size:=4) ?_
 refine TO.perm (L':=E.I k 0 :: .cells b3 0 [.int .i64 1,strV [], .int .i64 0, .slice none 0 0] :: tok ⟨none,0,0⟩ 4 :: .cells b2 0 [.int .i64 0,strV [], .int .i64 0, .slice none 0 0] :: L) (List.Perm.trans (List.Perm.swap _ _ _) (List.Perm.cons _ (List.Perm.swap _ _ _))) ?_
 repeat (first|refine q1 ?_|refine q2 ?_|refine q5 ?_|refine q6 ?_)
 refine TC.loopK (ι:=Sl × Mem × List Tree × Nat × Nat) [0,2,3] rfl (fun x=>[]) (fun x=>x.2.1) (fun x=>E.I x.2.2.2.1 0 :: .cells b3 0 [.int .i64 1,strV [], .int .i64 0,x.1.v] :: tok x.1 4 :: .cells b2 0 [.int .i64 0,strV [], .int .i64 0, .slice none 0 0] :: L) (fun x=>m ≤ x.2.1∧E.Ok x.2.1∧x.2.2.2.1 ≤ E.toks.length∧SlRep rTree x.2.1 x.1 x.2.2.1∧Own x.1∧x.2.2.1.length + x.2.2.2.2=E.N∧T=Ps.bind (Ps.decls X x.2.2.2.2 x.2.2.1) (fun l=>Ps.ret (.mk 1 [] 0 l)) E.f x.2.2.2.1) (fun x=>x.2.2.2.2) (⟨none,0,0⟩,m,[],k,E.N) (by repeat (exact trivial)) rfl (by repeat (exact List.Sublist.refl _)) ⟨hm,hE,hk,SlRep.nil _ _,Own.nil,by simp,hT⟩ ?_
 rintro ⟨s,m1,acc,k,j⟩ ⟨hm,hE,hk,hs,ho,hlen,hT⟩
 simp only at hm hE hk hs ho hlen hT
 show TC _ _ _ _ _ m1 (E.I k 0 :: .cells b3 0 [.int .i64 1,strV [], .int .i64 0,s.v] :: tok s 4 :: .cells b2 0 [.int .i64 0,strV [], .int .i64 0, .slice none 0 0] :: L) _
 have hll:=hE.rep.len
 have hfew:=hE.few
 cases j with
 | zero=>exact absurd hT hn
 | succ j =>
  repeat (refine q1 ?_)
  refine TC.draw0 [] mixed 10 rfl ?_
  refine DO.pure tab (by repeat (first|exact Calm.ret|refine Calm.then ?_|refine Calm.block ?_)) (by kernel_rfl) [0,1,2] (by kernel_rfl) rfl ?_
  (refine DO.loadL tab 3 0 (by repeat (first|exact Calm.ret|refine Calm.then ?_|refine Calm.block ?_)) (by kernel_rfl) (by kernel_rfl) rfl rfl rfl rfl rfl rfl rfl rfl ?_)
  refine DO.pure tab (by repeat (first|exact Calm.ret|refine Calm.then ?_|refine Calm.block ?_)) (by kernel_rfl) [4,5,6] (by kernel_rfl) rfl ?_
  (refine DO.loadL tab 7 0 (by repeat (first|exact Calm.ret|refine Calm.then ?_|refine Calm.block ?_)) (by kernel_rfl) (by kernel_rfl) rfl rfl rfl rfl rfl rfl rfl rfl ?_)
  refine DO.pure tab (by repeat (first|exact Calm.ret|refine Calm.then ?_|refine Calm.block ?_)) (by kernel_rfl) [8,9] (by kernel_rfl) rfl ?_
  (refine DO.nil0 (by kernel_rfl) ?_)
  rotate_left 1
  repeat (refine q6 ?_)
  refine TC.condP rfl (fun hc => ?_) (fun hc => ?_)
  ·have hlt : k < E.toks.length:=by omega
   have hT : T=Ps.bind X (fun a=>Ps.bind (Ps.decls X j (acc++[a])) fun l=>Ps.ret (.mk 1 [] 0 l)) E.f k:=by
    rw [← Ps.bind_assoc,hT]
    show Ps.bind _ _ E.f k=Ps.bind _ _ E.f k
    unfold Ps.bind
    rw [Ps.decls_some (by rw [PE.f_some hlt];exact fun h=>by cases h)]
    rfl
   repeat (first|refine q2 ?_|refine q6 ?_|refine q13 ?_)
   refine TC.draw [7] mixed 8 rfl [.cells b3 0 [.int .i64 1,strV [], .int .i64 0,s.v]] (E.I k 0 :: tok s 4 :: .cells b2 0 [.int .i64 0,strV [], .int .i64 0, .slice none 0 0] :: L) (List.Perm.swap _ _ _) ?_
   refine DO.pure tab (by repeat (first|exact Calm.ret|refine Calm.then ?_|refine Calm.block ?_)) (by kernel_rfl) [0] (by kernel_rfl) rfl ?_
   (refine DO.loadL tab 1 0 (by repeat (first|exact Calm.ret|refine Calm.then ?_|refine Calm.block ?_)) (by kernel_rfl) (by kernel_rfl) rfl rfl rfl rfl rfl rfl rfl rfl ?_)
   refine DO.pure tab (by repeat (first|exact Calm.ret|refine Calm.then ?_|refine Calm.block ?_)) (by kernel_rfl) [2] (by kernel_rfl) rfl ?_
   refine DO.run 3 rfl rfl (by kernel_rfl) rfl ?_
   refine OT.perm (List.Perm.swap _ _ _) (OT.parT (L0:=L) (hX) hm hT hn hE hk (by repeat (first|exact Bad.ret|refine Bad.then ?_|refine Bad.block ?_)) hm (by repeat (first|exact List.Sublist.refl _|refine List.Sublist.cons _ ?_)) rfl rfl rfl rfl rfl rfl goes61 (fun x mA a k2 hT hm hE hleA hk hr => ?_));refine ⟨hleA,E.I k2 0 :: tok s 4 :: .cells b2 0 [.int .i64 0,strV [], .int .i64 0, .slice none 0 0] :: L,List.Perm.swap _ _ _, ?_⟩
   refine DO.run 4 rfl rfl (by kernel_rfl) rfl ?_
   refine OT.litR tab rTree (hs:=[x]) (l:=[a]) ⟨rTree_iff.2 hr,trivial⟩ rfl rfl rfl rfl rfl (by decide) (fun sB mB hleB hsB hoB hcB => ?_);refine ⟨hleB,_,List.Perm.refl _, ?_⟩
   refine DO.run 5 rfl rfl (by kernel_rfl) rfl ?_
   refine OT.append tab rTree 2 (hs.mono (Mem.le_trans hleA hleB)) ho hsB rfl rfl rfl rfl rfl rfl rfl (by simp only [List.length_append,List.length_cons,List.length_nil,rTree,mkR];omega) (fun s3 mC hleC hs3 ho3 => ?_);refine ⟨hleC,E.I k2 0 :: tok s3 4 :: .cells b2 0 [.int .i64 0,strV [], .int .i64 0, .slice none 0 0] :: L,List.Perm.refl _, ?_⟩
   refine DO.pure tab (by repeat (first|exact Calm.ret|refine Calm.then ?_|refine Calm.block ?_)) (by kernel_rfl) [6] (by kernel_rfl) rfl ?_
   refine DO.tail ?_
   refine DOt.run 7 rfl rfl (by kernel_rfl) rfl ?_
   refine OT.storeL (k:=3) tab 0 rfl rfl rfl rfl rfl rfl rfl rfl ?_;refine DOt.perm (List.Perm.swap _ _ _) ?_
   refine DOt.nil (by kernel_rfl) ?_
   rotate_left 1
   replace hm:=Mem.le_trans hm (Mem.le_trans hleB hleC)
   replace hE:=hE.mono (Mem.le_trans hleB hleC)
   repeat (first|refine q6 ?_|refine q7 ?_)
   exact ⟨(s3,mC,acc++[a],k2,j),(by repeat (exact trivial)),(by repeat (first|exact trivial|refine And.intro rfl ?_)),rfl,rfl,(by repeat (exact List.Sublist.refl _)),⟨hm,hE,hk,hs3,ho3,by simp only [List.length_append,List.length_cons,List.length_nil];omega,hT⟩,by simp only;omega⟩
  ·have hT : T = .ok (.mk 1 [] 0 acc) k:=by
    rw [hT]
    unfold Ps.bind
    rw [Ps.decls_none (PE.f_none (by omega))]
    rfl
   repeat (first|refine q1 ?_|refine q3 ?_|refine q6 ?_|refine q10 ?_|refine q11 ?_|refine q14 ?_)
   (refine qs rfl (qz tab 1 rfl rfl rfl rfl rfl rfl ?_))
   skip
   refine TO.step rfl (OT.storeL0 tab 3 rfl rfl rfl rfl rfl rfl rfl rfl ?_)
   repeat (first|refine q5 ?_|refine q6 ?_|refine q15 ?_)
   refine retQ_ret_c1 tab 3 rfl rfl rfl rfl (L':=E.I k 0 :: L) (by repeat (first|exact List.Sublist.refl _|refine List.Sublist.cons_cons _ ?_|refine List.Sublist.cons _ ?_)) ⟨_,k,[],hT,hm,hk,⟨⟨1,[],0,s⟩,rfl,rfl,⟨rfl,rfl,rfl,hs⟩⟩,rfl⟩
end
def FitR (bl : Nat) (L : List Item) (m : Mem) (a : Tree) (d left : Int) : Value→Mem→List Item→Prop :=
 fun r m' L'=>m' = m∧((r = .bool true∧(a.size : Int) ≤ left∧d + (a.deep : Int) ≤ 101∧L' = .cells bl 0 [.int .i64 (left - a.size)] :: L) ∨ (r = .bool false ∧ ¬ ((a.size : Int) ≤ left∧d + (a.deep : Int) ≤ 101) ∧ ∃ n,L' = .cells bl 0 [.int .i64 n] :: L))
set_option maxHeartbeats 1000000 in
theorem fits_law (a : Tree) : ∀ (m : Mem) (L : List Item) (h : HTree) (bl : Nat) (d left : Int),TreeRep m h a→0 ≤ left→left ≤ 20000→0 ≤ d→d ≤ 101 →
  TCall Tryz.prog 32 ⟨[treeV h, .int .i64 d, .pointer (some ⟨bl,0,none⟩)]⟩ m (.cells bl 0 [.int .i64 left] :: L) (FitR bl L m a d left):=by
 induction a using Tree.ind with
 | h a ih =>
 intro m L h bl d left hr hl0 hl1 hd0 hd1
 have hr':=hr
 obtain ⟨h1,h2,h3,h4⟩:=hr
 have hlen:=h4.len
 have hsm:=h4.small rfl
 have hsz:=size_kids a
 have hdp:=deep_kids a
 unfold TCall
 refine TCallX.enter Tryz.func32 rfl 36 rfl ?_
 repeat (first|refine q1 ?_|refine q3 ?_)
 refine TO.step rfl (OT.box rfl rfl rfl rfl rfl (fun b3 => ?_))
 repeat (first|refine q1 ?_|refine q3 ?_|refine q4 tab rfl rfl ?_|refine q5 ?_|refine q6 ?_)
 (refine qs rfl (qz tab 1 rfl rfl rfl rfl rfl rfl ?_))
 refine TO.step rfl (OT.arith (r':=left - 1) rfl rfl rfl rfl rfl rfl rfl (by omega) ?_)
 repeat (refine q4 tab rfl rfl ?_)
 refine TO.step rfl (OT.storeL0 tab 1 rfl rfl rfl rfl rfl rfl rfl rfl ?_)
 repeat (first|refine q1 ?_|refine q3 ?_|refine q4 tab rfl rfl ?_|refine q5 ?_|refine q6 ?_)
 (refine qs rfl (qz tab 1 rfl rfl rfl rfl rfl rfl ?_))
 repeat (refine q4 tab rfl rfl ?_)
 (refine TO.splitP rfl rfl (fun hneg => ?_) (fun hneg => ?_))
 ·repeat (first|refine q1 ?_|refine q3 ?_|refine q4 tab rfl rfl ?_|refine q5 ?_|refine q6 ?_|refine q8 ?_|refine q15 ?_|refine q16 rfl ?_)
  refine retQ_ret rfl (L' := .cells bl 0 [.int .i64 (left - 1)] :: L) (by repeat (first|exact List.Sublist.refl _|refine List.Sublist.cons _ ?_)) ⟨rfl, .inr ⟨rfl,by omega,_,rfl⟩⟩
 repeat (first|refine q4 tab rfl rfl ?_|refine q5 ?_|refine q6 ?_)
 refine TC.condP rfl (fun hdd => ?_) (fun hdd => ?_)
 ·repeat (first|refine q1 ?_|refine q3 ?_|refine q4 tab rfl rfl ?_|refine q5 ?_|refine q6 ?_|refine q8 ?_|refine q15 ?_)
  refine retQ_ret rfl (L' := .cells bl 0 [.int .i64 (left - 1)] :: L) (by repeat (first|exact List.Sublist.refl _|refine List.Sublist.cons _ ?_)) ⟨rfl, .inr ⟨rfl,by omega,_,rfl⟩⟩
 repeat (first|refine q1 ?_|refine q3 ?_|refine q4 tab rfl rfl ?_|refine q6 ?_|refine q13 ?_)
 (refine qs rfl (ql tab 0 rfl rfl rfl rfl rfl rfl ?_))
 repeat (first|refine q2 ?_|refine q4 tab rfl rfl ?_|refine q5 ?_|refine q6 ?_)
 refine TC.loopK (ι:=Nat) [0,1,2,23,24] rfl (fun i=>[(25, .int .i64 (i : Int))]) (fun _=>m) (fun i => .cells bl 0 [.int .i64 (left - 1 - (sizeL (a.kids.take i) : Int))] :: L) (fun i=>i ≤ a.kids.length∧(sizeL (a.kids.take i) : Int) ≤ left - 1∧d + (deepL (a.kids.take i) : Int) ≤ 100) (fun i=>a.kids.length - i) 0 (by repeat (first|exact trivial|refine And.intro rfl ?_)) rfl (by rw [show left - 1 - (sizeL (a.kids.take 0) : Int)=left - 1 by simp [sizeL]];exact List.Sublist.cons _ (List.Sublist.refl _)) ⟨Nat.zero_le _,by simp [sizeL];omega,by simp [deepL];omega⟩ ?_
 rintro i ⟨hi,hI1,hI2⟩
 repeat (first|refine q1 ?_|refine q3 ?_|refine q4 tab rfl rfl ?_|refine q5 ?_|refine q6 ?_)
 refine TC.condP rfl (fun hc => ?_) (fun hc => ?_)
 ·have hlt : i < a.kids.length:=by omega
  have hx : a.kids[i]? = some a.kids[i]:=List.getElem?_eq_getElem hlt
  have e1:=sizeL_next a.kids i hlt
  have e2:=deepL_next a.kids i hlt
  have e3:=sizeL_take a.kids (i + 1)
  have e4:=deepL_take a.kids (i + 1)
  repeat (first|refine q1 ?_|refine q2 ?_|refine q3 ?_|refine q6 ?_|refine q13 ?_)
  refine TO.step rfl (OT.index tab rTree i h4 rfl rfl rfl rfl rfl (by first | rfl | omega | (simp only;omega)) rfl hx ?_)
  rintro bx ix hx' hrx hAx
  skip
  (refine TO.step rfl (OT.loadA0 tab hAx rfl rfl rfl rfl rfl ?_))
  skip
  refine TO.step rfl (OT.alloc tab rfl rfl rfl rfl (fun b8 => ?_))
  skip
  (refine TO.step rfl (OT.storeL0 tab 0 rfl rfl rfl rfl rfl rfl rfl rfl ?_))
  repeat (first|refine q1 ?_|refine q3 ?_|refine q5 ?_|refine q6 ?_)
  (refine qs rfl (qz tab 0 rfl rfl rfl rfl rfl rfl ?_))
  repeat (refine q4 tab rfl rfl ?_)
  refine TO.step rfl (OT.arith (r':=d + 1) rfl rfl rfl rfl rfl rfl rfl (by omega) ?_)
  repeat (refine q4 tab rfl rfl ?_)
  refine TO.perm (List.Perm.swap _ _ _) ?_
  refine TO.step rfl (OT.call rfl rfl rfl rfl rfl rfl goes32 ((ih a.kids[i] (List.getElem_mem hlt) _ _ hx' bl (d + 1) (left - 1 - (sizeL (a.kids.take i) : Int)) (rTree_iff.1 hrx) (by omega) (by omega) (by omega) (by omega)).x ?_));
  rintro _ _ _ ⟨rfl,⟨rfl,k1,k2,rfl⟩ | ⟨rfl,k1,n,rfl⟩⟩
  ·repeat (first|refine q3 ?_|refine q4 tab rfl rfl ?_|refine q5 ?_|refine q6 ?_|refine q7 ?_|refine q13 ?_|refine q17 rfl ?_)
   refine TO.step rfl (OT.arith (r':=((i + 1 : Nat) : Int)) rfl rfl rfl rfl rfl rfl rfl (by omega) ?_)
   repeat (first|refine q4 tab rfl rfl ?_|refine q5 ?_|refine q6 ?_)
   refine ⟨i + 1,(by repeat (first|exact trivial|refine And.intro rfl ?_)),(by repeat (first|exact trivial|refine And.intro rfl ?_)),rfl,rfl, ?_,⟨hlt,by omega,by omega⟩,by omega⟩
   rw [show left - 1 - (sizeL (a.kids.take (i + 1)) : Int)=left - 1 - (sizeL (a.kids.take i) : Int) - (a.kids[i].size : Int) by omega]
   exact (by repeat (first|exact List.Sublist.refl _|refine List.Sublist.cons_cons _ ?_|refine List.Sublist.cons _ ?_))
  ·repeat (first|refine q1 ?_|refine q3 ?_|refine q4 tab rfl rfl ?_|refine q5 ?_|refine q6 ?_|refine q8 ?_|refine q9 ?_|refine q15 ?_|refine q16 rfl ?_)
   refine retQ_ret rfl (L' := .cells bl 0 [.int .i64 n] :: L) (by repeat (first|exact List.Sublist.refl _|refine List.Sublist.cons_cons _ ?_|refine List.Sublist.cons _ ?_)) ⟨rfl, .inr ⟨rfl,by omega,_,rfl⟩⟩
 ·rw [List.take_of_length_le (by omega)] at hI1 hI2
  rw [List.take_of_length_le (show a.kids.length ≤ i by omega)]
  repeat (first|refine q1 ?_|refine q3 ?_|refine q4 tab rfl rfl ?_|refine q5 ?_|refine q6 ?_|refine q10 ?_|refine q11 ?_|refine q14 ?_|refine q15 ?_)
  refine retQ_ret rfl (L' := .cells bl 0 [.int .i64 (left - a.size)] :: L) ?_ ⟨rfl, .inl ⟨rfl,by omega,by omega,rfl⟩⟩
  rw [show left - (a.size : Int)=left - 1 - (sizeL a.kids : Int) by omega]
  exact (by repeat (exact List.Sublist.refl _))
end Go.Sep


/- PsSnd4 -/
set_option linter.unusedVariables false
set_option linter.unusedSimpArgs false
namespace Go.Sep
open Go.Proofs
attribute [local irreducible] TC TO OT TCallX TCall DO DOt thenQ blockQ retQ At
theorem deepL_mem : ∀ {l : List Tree} {t : Tree},t ∈ l→t.deep ≤ deepL l
 | x :: xs,t,h=>by
  rcases List.mem_cons.1 h with rfl | h
  ·simp only [deepL];omega
  ·have:=deepL_mem h;simp only [deepL];omega
theorem deep_kid {a t : Tree} (h : t ∈ a.kids) : t.deep < a.deep:=by
 obtain ⟨k,n,u,ks⟩:=a
 have:=deepL_mem h
 simp only [Tree.kids,Tree.deep] at *
 omega
structure SgT (n : Nat) (a : Tree) (m : Mem) (L : List Item) (h : HTree) : Prop where
 expr : TCall Tryz.prog 152 ⟨[treeV h]⟩ m L (Ret (.bool ((sg n).expr a)) m L)
 stmt : TCall Tryz.prog 123 ⟨[treeV h]⟩ m L (Ret (.bool ((sg n).stmt a)) m L)
 block : TCall Tryz.prog 75 ⟨[treeV h]⟩ m L (Ret (.bool ((sg n).block a)) m L)
theorem sg_tellers : ∀ (n : Nat) (a : Tree),a.deep ≤ n→a.wide ≤ 140737488355328 → ∀ (m : Mem) (L : List Item) (h : HTree),TreeRep m h a→SgT n a m L h
 | 0,a,hd,hB,m,L,h,hr=>by
  obtain ⟨k,nm,u,ks⟩:=a
  simp only [Tree.deep] at hd
  omega
 | n + 1,a,hd,hB,m,L,h,hr=>by
  have ih : ∀ b ∈ a.kids, ∀ (m : Mem) (L : List Item) (h : HTree),TreeRep m h b→SgT n b m L h:=fun b hb m L h hr =>
   sg_tellers n b (by have:=deep_kid hb;omega) (Nat.le_trans ((wide_kid hb)) hB) m L h hr
  have hE : IsPred 152 (sg n).expr a.kids:=⟨goes152,fun m L h b hb hr=>(ih b hb m L h hr).expr⟩
  have hS : IsPred 123 (sg n).stmt a.kids:=⟨goes123,fun m L h b hb hr=>(ih b hb m L h hr).stmt⟩
  have hK : IsPred 75 (sg n).block a.kids:=⟨goes75,fun m L h b hb hr=>(ih b hb m L h hr).block⟩
  exact ⟨expr_teller _ a m L h hr hB hE hK,stmt_teller _ a m L h hr hB hE hK hS,block_teller _ a m L h hr hS⟩
set_option maxHeartbeats 800000 in
theorem fieldT_teller (a : Tree) (m : Mem) (L : List Item) (h : HTree) (hr : TreeRep m h a) (hB : a.wide ≤ 140737488355328) :
  TCall Tryz.prog 73 ⟨[treeV h]⟩ m L (Ret (.bool (fieldS Tree.isType a)) m L):=by
 have hT : IsPred 34 Tree.isType a.kids:=kidPred goes34 hB fun b m L h hr hB=>type_law b m L h hr hB
 refine TCall.forget ?_
 unfold TCall fieldS
 refine TCallX.enter Tryz.func73 rfl 10 rfl ?_
 repeat (first|refine q1 ?_|refine q3 ?_)
 refine TO.step rfl (OT.box rfl rfl rfl rfl rfl (fun b => ?_))
 repeat (first|(first|refine q1 ?_|refine q3 ?_|refine q4 tab rfl rfl ?_|refine q5 ?_|refine q6 ?_)|(refine qs rfl (qz tab 0 rfl rfl rfl rfl rfl rfl ?_)))
 refine TO.step rfl (OT.call rfl rfl rfl rfl rfl rfl goes62 ((of_law _ _ h a hr hB 6).x ?_));
 rintro _ _ _ ⟨rfl,rfl,rfl⟩
 repeat (refine q4 tab rfl rfl ?_)
 refine TO.split rfl rfl (fun h7 => ?_) (fun h7 => ?_)
 ·repeat ((refine qs rfl (qz tab 0 rfl rfl rfl rfl rfl rfl ?_)))
  refine TO.step rfl (OT.litR tab rFn (hs:=[34]) (l:=[34]) ⟨rfl,trivial⟩ rfl rfl rfl rfl rfl (by decide) (fun s1 m1 hm1 hs1 _ _ => ?_))
  skip
  refine TO.step rfl (OT.call rfl rfl rfl rfl rfl rfl goes63 ((kids_law m1 _ h a (hr.mono hm1) s1 [(34,Tree.isType)] none hs1 (pr1 hT) po0).x ?_));
  rintro _ _ _ ⟨rfl,rfl,rfl⟩
  repeat (first|refine q4 tab rfl rfl ?_|refine q5 ?_|refine q6 ?_|refine q15 ?_)
  refine retQ_ret rfl (by repeat (first|exact List.Sublist.refl _|refine List.Sublist.cons _ ?_)) ⟨hm1,rfl, ?_⟩
  rw [h7];rfl
 ·repeat (first|refine q4 tab rfl rfl ?_|refine q5 ?_|refine q6 ?_|refine q15 ?_)
  refine retQ_ret rfl (by repeat (first|exact List.Sublist.refl _|refine List.Sublist.cons _ ?_)) ⟨Mem.le_refl _,rfl, ?_⟩
  rw [h7];rfl
set_option maxHeartbeats 800000 in
theorem fieldG_teller (a : Tree) (m : Mem) (L : List Item) (h : HTree) (hr : TreeRep m h a) (hB : a.wide ≤ 140737488355328) :
  TCall Tryz.prog 74 ⟨[treeV h]⟩ m L (Ret (.bool (fieldS Tree.isSig a)) m L):=by
 have hT : IsPred 35 Tree.isSig a.kids:=kidPred goes35 hB fun b m L h hr hB=>sig_law b m L h hr hB
 refine TCall.forget ?_
 unfold TCall fieldS
 refine TCallX.enter Tryz.func74 rfl 10 rfl ?_
 repeat (first|refine q1 ?_|refine q3 ?_)
 refine TO.step rfl (OT.box rfl rfl rfl rfl rfl (fun b => ?_))
 repeat (first|(first|refine q1 ?_|refine q3 ?_|refine q4 tab rfl rfl ?_|refine q5 ?_|refine q6 ?_)|(refine qs rfl (qz tab 0 rfl rfl rfl rfl rfl rfl ?_)))
 refine TO.step rfl (OT.call rfl rfl rfl rfl rfl rfl goes62 ((of_law _ _ h a hr hB 6).x ?_));
 rintro _ _ _ ⟨rfl,rfl,rfl⟩
 repeat (refine q4 tab rfl rfl ?_)
 refine TO.split rfl rfl (fun h7 => ?_) (fun h7 => ?_)
 ·repeat ((refine qs rfl (qz tab 0 rfl rfl rfl rfl rfl rfl ?_)))
  refine TO.step rfl (OT.litR tab rFn (hs:=[35]) (l:=[35]) ⟨rfl,trivial⟩ rfl rfl rfl rfl rfl (by decide) (fun s1 m1 hm1 hs1 _ _ => ?_))
  skip
  refine TO.step rfl (OT.call rfl rfl rfl rfl rfl rfl goes63 ((kids_law m1 _ h a (hr.mono hm1) s1 [(35,Tree.isSig)] none hs1 (pr1 hT) po0).x ?_));
  rintro _ _ _ ⟨rfl,rfl,rfl⟩
  repeat (first|refine q4 tab rfl rfl ?_|refine q5 ?_|refine q6 ?_|refine q15 ?_)
  refine retQ_ret rfl (by repeat (first|exact List.Sublist.refl _|refine List.Sublist.cons _ ?_)) ⟨hm1,rfl, ?_⟩
  rw [h7];rfl
 ·repeat (first|refine q4 tab rfl rfl ?_|refine q5 ?_|refine q6 ?_|refine q15 ?_)
  refine retQ_ret rfl (by repeat (first|exact List.Sublist.refl _|refine List.Sublist.cons _ ?_)) ⟨Mem.le_refl _,rfl, ?_⟩
  rw [h7];rfl
theorem isParam_kid {a : Tree} (h : a.isParam=true) : ∃ k,a.kids=[k]∧k.isType=true:=by
 unfold Tree.isParam at h
 simp only [Bool.and_eq_true,decide_eq_true_eq,List.all_eq_true] at h
 obtain ⟨h1,_,_,h2,h3⟩:=h
 match hk : a.kids with
 | []=>rw [hk] at h2;cases h2
 | [k]=>exact ⟨k,rfl,h3 k (by rw [hk];simp)⟩
 | _ :: _ :: _=>rw [hk] at h2;simp at h2
theorem isType_kid {a : Tree} (h : a.isType=true) (h11 : a.kind=11) : ∃ k,a.kids=[k]:=by
 rw [isType_eq,if_neg (by omega),if_pos (.inl h11)] at h
 simp only [Bool.and_eq_true,decide_eq_true_eq] at h
 match hk : a.kids with
 | []=>rw [hk] at h;simp at h
 | [k]=>exact ⟨k,rfl⟩
 | _ :: _ :: _=>rw [hk] at h;simp at h
set_option maxHeartbeats 1600000 in
theorem recv_teller (a : Tree) (m : Mem) (L : List Item) (h : HTree) (hr : TreeRep m h a) (hB : a.wide ≤ 140737488355328) :
  TCall Tryz.prog 76 ⟨[treeV h]⟩ m L (Ret (.bool (recvS a)) m L):=by
 have hr':=hr
 obtain ⟨h1,h2,h3,h4⟩:=hr
 have hl:=h4.len
 unfold TCall recvS
 refine TCallX.enter Tryz.func76 rfl 24 rfl ?_
 repeat (first|refine q1 ?_|refine q3 ?_)
 refine TO.step rfl (OT.box rfl rfl rfl rfl rfl (fun b => ?_))
 repeat (first|(first|refine q1 ?_|refine q3 ?_|refine q4 tab rfl rfl ?_|refine q5 ?_|refine q6 ?_)|(refine qs rfl (qz tab 0 rfl rfl rfl rfl rfl rfl ?_)))
 refine TO.step rfl (OT.call rfl rfl rfl rfl rfl rfl goes64 ((param_law a _ _ h hr' hB).x ?_));
 rintro _ _ _ ⟨rfl,rfl,rfl⟩
 repeat (refine q4 tab rfl rfl ?_)
 refine TO.split rfl rfl (fun h7 => ?_) (fun h7 => ?_)
 ·obtain ⟨k0,hk0,ht0⟩:=isParam_kid h7
  have e0 : kid0 a=k0:=by unfold kid0;rw [hk0];rfl
  have hx : a.kids[0]? = some k0:=by rw [hk0];rfl
  rw [h7,e0]
  repeat (first|(refine q4 tab rfl rfl ?_)|(refine qs rfl (ql tab 0 rfl rfl rfl rfl rfl rfl ?_)))
  refine TO.step rfl (OT.index tab rTree 0 h4 rfl rfl rfl rfl rfl (by first | rfl | omega | (simp only;omega)) rfl hx ?_)
  rintro b' i hd hrd hA
  obtain ⟨g1,g2,g3,g4⟩:=rTree_iff.1 hrd
  repeat ((refine q4 tab rfl rfl ?_))
  (refine TO.step rfl (OT.loadA tab hA rfl rfl rfl rfl rfl ?_))
  repeat (refine q4 tab rfl rfl ?_)
  (refine TO.splitP rfl rfl (fun e1 => ?_) (fun e1 => ?_))
  ·obtain ⟨k1,hk1⟩:=isType_kid ht0 (g1.symm.trans e1)
   have e2 : kid0 k0=k1:=by unfold kid0;rw [hk1];rfl
   have hx1 : k0.kids[0]? = some k1:=by rw [hk1];rfl
   rw [e2,decide_eq_true (g1.symm.trans e1)]
   repeat (first|(refine q4 tab rfl rfl ?_)|(refine qs rfl (ql tab 0 rfl rfl rfl rfl rfl rfl ?_)))
   refine TO.step rfl (OT.index tab rTree 0 h4 rfl rfl rfl rfl rfl (by first | rfl | omega | (simp only;omega)) rfl hx ?_)
   rintro b2 i2 hd2 hrd2 hA2
   obtain ⟨f1,f2,f3,f4⟩:=rTree_iff.1 hrd2
   repeat ((refine q4 tab rfl rfl ?_))
   (refine TO.step rfl (OT.loadA tab hA2 rfl rfl rfl rfl rfl ?_))
   skip
   refine TO.step rfl (OT.index tab rTree 0 f4 rfl rfl rfl rfl rfl (by first | rfl | omega | (simp only;omega)) rfl hx1 ?_)
   rintro b3 i3 hd3 hrd3 hA3
   obtain ⟨d1,d2,d3,d4⟩:=rTree_iff.1 hrd3
   repeat ((refine q4 tab rfl rfl ?_))
   (refine TO.step rfl (OT.loadA tab hA3 rfl rfl rfl rfl rfl ?_))
   repeat (first|refine q4 tab rfl rfl ?_|refine q5 ?_|refine q6 ?_|refine q15 ?_)
   refine retQ_ret rfl (by repeat (first|exact List.Sublist.refl _|refine List.Sublist.cons _ ?_)) ⟨rfl,rfl, ?_⟩
   rw [d1];rfl
  ·repeat (first|refine q4 tab rfl rfl ?_|refine q5 ?_|refine q6 ?_|refine q15 ?_)
   refine retQ_ret rfl (by repeat (first|exact List.Sublist.refl _|refine List.Sublist.cons _ ?_)) ⟨rfl,rfl, ?_⟩
   rw [decide_eq_false (fun e=>e1 (g1.trans e))];rfl
 ·repeat (first|refine q4 tab rfl rfl ?_|refine q5 ?_|refine q6 ?_|refine q15 ?_)
  refine retQ_ret rfl (by repeat (first|exact List.Sublist.refl _|refine List.Sublist.cons _ ?_)) ⟨rfl,rfl, ?_⟩
  rw [h7];rfl
set_option maxHeartbeats 3000000 in
theorem decl_teller (g : Sg) (a : Tree) (m : Mem) (L : List Item) (h : HTree) (hr : TreeRep m h a) (hB : a.wide ≤ 140737488355328) (hK : IsPred 75 g.block a.kids) :
  TCall Tryz.prog 41 ⟨[treeV h]⟩ m L (Ret (.bool (declS g a)) m L):=by
 have hSg : IsPred 35 Tree.isSig a.kids:=kidPred goes35 hB fun b m L h hr hB=>sig_law b m L h hr hB
 have hF1 : IsPred 73 (fieldS Tree.isType) a.kids:=kidPred goes73 hB fun b m L h hr hB=>fieldT_teller b m L h hr hB
 have hF2 : IsPred 74 (fieldS Tree.isSig) a.kids:=kidPred goes74 hB fun b m L h hr hB=>fieldG_teller b m L h hr hB
 have hR : IsPred 76 recvS a.kids:=kidPred goes76 hB fun b m L h hr hB=>recv_teller b m L h hr hB
 have hr':=hr
 obtain ⟨h1,h2,h3,h4⟩:=hr
 have hl:=h4.len
 refine TCall.forget ?_
 unfold declS TCall
 refine TCallX.enter Tryz.func41 rfl 49 rfl ?_
 by_cases hk : a.kind=2
 ·skip
  rw [if_pos hk]
  obtain ⟨k,n,u,s⟩:=h
  obtain rfl : k=2:=h1.trans hk
  simp only at h2 h3 h4 hl
  subst h2
  subst h3
  repeat (first|refine q1 ?_|refine q3 ?_)
  refine TO.step rfl (OT.box rfl rfl rfl rfl rfl (fun b => ?_))
  repeat (first|(first|refine q1 ?_|refine q2 ?_|refine q3 ?_|refine q4 tab rfl rfl ?_|refine q5 ?_|refine q6 ?_|refine q16 rfl ?_)|(first|refine qs rfl (ql tab 0 rfl rfl rfl rfl rfl rfl ?_)|refine qs rfl (qz tab 0 rfl rfl rfl rfl rfl rfl ?_)))
  refine TO.step rfl (OT.call rfl rfl rfl rfl rfl rfl goes62 ((of_law _ _ ⟨2,a.name,a.num,s⟩ a hr' hB 2).x ?_));
  rintro _ _ _ ⟨rfl,rfl,rfl⟩
  repeat (refine q4 tab rfl rfl ?_)
  refine TO.split rfl rfl (fun h7 => ?_) (fun h7 => ?_)
  ·repeat (first|(refine q4 tab rfl rfl ?_)|(refine qs rfl (ql tab 0 rfl rfl rfl rfl rfl rfl ?_)))
   refine TO.step rfl (OT.call rfl rfl rfl rfl rfl rfl goes40 ((pall_law _ _ s a.kids h4 73 (fieldS Tree.isType) hF1).x ?_));
   rintro _ _ _ ⟨rfl,rfl,rfl⟩
   repeat (first|refine q4 tab rfl rfl ?_|refine q5 ?_|refine q6 ?_|refine q8 ?_|refine q9 ?_|refine q15 ?_)
   refine retQ_ret rfl (by repeat (first|exact List.Sublist.refl _|refine List.Sublist.cons _ ?_)) ⟨Mem.le_refl _,rfl, ?_⟩
   rw [h7];rfl
  ·skip
   repeat (first|refine q4 tab rfl rfl ?_|refine q5 ?_|refine q6 ?_|refine q8 ?_|refine q9 ?_|refine q15 ?_)
   refine retQ_ret rfl (by repeat (first|exact List.Sublist.refl _|refine List.Sublist.cons _ ?_)) ⟨Mem.le_refl _,rfl, ?_⟩
   rw [h7];rfl
 rw [if_neg hk]
 have hk2:=hk
 clear hk
 by_cases hk : a.kind=3
 ·skip
  rw [if_pos hk]
  obtain ⟨k,n,u,s⟩:=h
  obtain rfl : k=3:=h1.trans hk
  simp only at h2 h3 h4 hl
  subst h2
  subst h3
  repeat (first|refine q1 ?_|refine q3 ?_)
  refine TO.step rfl (OT.box rfl rfl rfl rfl rfl (fun b => ?_))
  repeat (first|(first|refine q1 ?_|refine q2 ?_|refine q3 ?_|refine q4 tab rfl rfl ?_|refine q5 ?_|refine q6 ?_|refine q16 rfl ?_|refine q17 rfl ?_)|(first|refine qs rfl (ql tab 0 rfl rfl rfl rfl rfl rfl ?_)|refine qs rfl (qz tab 0 rfl rfl rfl rfl rfl rfl ?_)))
  refine TO.step rfl (OT.call rfl rfl rfl rfl rfl rfl goes62 ((of_law _ _ ⟨3,a.name,a.num,s⟩ a hr' hB 3).x ?_));
  rintro _ _ _ ⟨rfl,rfl,rfl⟩
  repeat (refine q4 tab rfl rfl ?_)
  refine TO.split rfl rfl (fun h7 => ?_) (fun h7 => ?_)
  ·repeat (first|(refine q4 tab rfl rfl ?_)|(refine qs rfl (ql tab 0 rfl rfl rfl rfl rfl rfl ?_)))
   refine TO.step rfl (OT.call rfl rfl rfl rfl rfl rfl goes40 ((pall_law _ _ s a.kids h4 74 (fieldS Tree.isSig) hF2).x ?_));
   rintro _ _ _ ⟨rfl,rfl,rfl⟩
   repeat (first|refine q4 tab rfl rfl ?_|refine q5 ?_|refine q6 ?_|refine q8 ?_|refine q9 ?_|refine q15 ?_)
   refine retQ_ret rfl (by repeat (first|exact List.Sublist.refl _|refine List.Sublist.cons _ ?_)) ⟨Mem.le_refl _,rfl, ?_⟩
   rw [h7];rfl
  ·skip
   repeat (first|refine q4 tab rfl rfl ?_|refine q5 ?_|refine q6 ?_|refine q8 ?_|refine q9 ?_|refine q15 ?_)
   refine retQ_ret rfl (by repeat (first|exact List.Sublist.refl _|refine List.Sublist.cons _ ?_)) ⟨Mem.le_refl _,rfl, ?_⟩
   rw [h7];rfl
 rw [if_neg hk]
 have hk3:=hk
 clear hk
 by_cases hk : a.kind=4
 ·skip
  rw [if_pos hk]
  obtain ⟨k,n,u,s⟩:=h
  obtain rfl : k=4:=h1.trans hk
  simp only at h2 h3 h4 hl
  subst h2
  subst h3
  repeat (first|refine q1 ?_|refine q3 ?_)
  refine TO.step rfl (OT.box rfl rfl rfl rfl rfl (fun b => ?_))
  repeat (first|(first|refine q1 ?_|refine q2 ?_|refine q3 ?_|refine q4 tab rfl rfl ?_|refine q5 ?_|refine q6 ?_|refine q16 rfl ?_|refine q17 rfl ?_)|(first|refine qs rfl (ql tab 0 rfl rfl rfl rfl rfl rfl ?_)|refine qs rfl (qz tab 0 rfl rfl rfl rfl rfl rfl ?_)))
  refine TO.step rfl (OT.call rfl rfl rfl rfl rfl rfl goes62 ((of_law _ _ ⟨4,a.name,a.num,s⟩ a hr' hB 4).x ?_));
  rintro _ _ _ ⟨rfl,rfl,rfl⟩
  repeat (refine q4 tab rfl rfl ?_)
  refine TO.split rfl rfl (fun h7 => ?_) (fun h7 => ?_)
  ·repeat ((refine qs rfl (qz tab 0 rfl rfl rfl rfl rfl rfl ?_)))
   refine TO.step rfl (OT.litR tab rFn (hs:=[35,75]) (l:=[35,75]) ⟨rfl,rfl,trivial⟩ rfl rfl rfl rfl rfl (by decide) (fun s1 m1 hm1 hs1 _ _ => ?_))
   skip
   refine TO.step rfl (OT.call rfl rfl rfl rfl rfl rfl goes63 ((kids_law m1 _ ⟨4,a.name,a.num,s⟩ a (hr'.mono hm1) s1 [(35,Tree.isSig),(75,g.block)] none hs1 (pr2 hSg hK) po0).x ?_));
   rintro _ _ _ ⟨rfl,rfl,rfl⟩
   repeat (first|refine q4 tab rfl rfl ?_|refine q5 ?_|refine q6 ?_|refine q8 ?_|refine q9 ?_|refine q15 ?_)
   refine retQ_ret rfl (by repeat (first|exact List.Sublist.refl _|refine List.Sublist.cons _ ?_)) ⟨hm1,rfl, ?_⟩
   rw [h7];rfl
  ·skip
   repeat (first|refine q4 tab rfl rfl ?_|refine q5 ?_|refine q6 ?_|refine q8 ?_|refine q9 ?_|refine q15 ?_)
   refine retQ_ret rfl (by repeat (first|exact List.Sublist.refl _|refine List.Sublist.cons _ ?_)) ⟨Mem.le_refl _,rfl, ?_⟩
   rw [h7];rfl
 rw [if_neg hk]
 have hk4:=hk
 clear hk
 by_cases hk : a.kind=5
 ·skip
  rw [if_pos hk]
  obtain ⟨k,n,u,s⟩:=h
  obtain rfl : k=5:=h1.trans hk
  simp only at h2 h3 h4 hl
  subst h2
  subst h3
  repeat (first|refine q1 ?_|refine q3 ?_)
  refine TO.step rfl (OT.box rfl rfl rfl rfl rfl (fun b => ?_))
  repeat (first|(first|refine q1 ?_|refine q2 ?_|refine q3 ?_|refine q4 tab rfl rfl ?_|refine q5 ?_|refine q6 ?_|refine q16 rfl ?_|refine q17 rfl ?_)|(first|refine qs rfl (ql tab 0 rfl rfl rfl rfl rfl rfl ?_)|refine qs rfl (qz tab 0 rfl rfl rfl rfl rfl rfl ?_)))
  refine TO.step rfl (OT.call rfl rfl rfl rfl rfl rfl goes62 ((of_law _ _ ⟨5,a.name,a.num,s⟩ a hr' hB 5).x ?_));
  rintro _ _ _ ⟨rfl,rfl,rfl⟩
  repeat (refine q4 tab rfl rfl ?_)
  refine TO.split rfl rfl (fun h7 => ?_) (fun h7 => ?_)
  ·repeat ((refine qs rfl (qz tab 0 rfl rfl rfl rfl rfl rfl ?_)))
   refine TO.step rfl (OT.litR tab rFn (hs:=[76,35,75]) (l:=[76,35,75]) ⟨rfl,rfl,rfl,trivial⟩ rfl rfl rfl rfl rfl (by decide) (fun s1 m1 hm1 hs1 _ _ => ?_))
   skip
   refine TO.step rfl (OT.call rfl rfl rfl rfl rfl rfl goes63 ((kids_law m1 _ ⟨5,a.name,a.num,s⟩ a (hr'.mono hm1) s1 [(76,recvS),(35,Tree.isSig),(75,g.block)] none hs1 (pr3 hR hSg hK) po0).x ?_));
   rintro _ _ _ ⟨rfl,rfl,rfl⟩
   repeat (first|refine q4 tab rfl rfl ?_|refine q5 ?_|refine q6 ?_|refine q8 ?_|refine q9 ?_|refine q15 ?_)
   refine retQ_ret rfl (by repeat (first|exact List.Sublist.refl _|refine List.Sublist.cons _ ?_)) ⟨hm1,rfl, ?_⟩
   rw [h7];rfl
  ·skip
   repeat (first|refine q4 tab rfl rfl ?_|refine q5 ?_|refine q6 ?_|refine q8 ?_|refine q9 ?_|refine q15 ?_)
   refine retQ_ret rfl (by repeat (first|exact List.Sublist.refl _|refine List.Sublist.cons _ ?_)) ⟨Mem.le_refl _,rfl, ?_⟩
   rw [h7];rfl
 rw [if_neg hk]
 repeat (first|refine q1 ?_|refine q3 ?_)
 refine TO.step rfl (OT.box rfl rfl rfl rfl rfl (fun b => ?_))
 repeat (first|(first|refine q1 ?_|refine q2 ?_|refine q3 ?_|refine q4 tab rfl rfl ?_|refine q5 ?_|refine q6 ?_)|(refine qs rfl (ql tab 0 rfl rfl rfl rfl rfl rfl ?_)))
 refine TC.condP rfl (fun h5 => ?_) (fun h5 => ?_)
 ·omega
 repeat (first|refine q1 ?_|refine q3 ?_|refine q4 tab rfl rfl ?_|refine q5 ?_|refine q6 ?_)
 refine TC.condP rfl (fun h5 => ?_) (fun h5 => ?_)
 ·omega
 repeat (first|refine q1 ?_|refine q3 ?_|refine q4 tab rfl rfl ?_|refine q5 ?_|refine q6 ?_)
 refine TC.condP rfl (fun h5 => ?_) (fun h5 => ?_)
 ·omega
 repeat (first|refine q1 ?_|refine q3 ?_|refine q4 tab rfl rfl ?_|refine q5 ?_|refine q6 ?_)
 refine TC.condP rfl (fun h5 => ?_) (fun h5 => ?_)
 ·omega
 repeat (first|refine q1 ?_|refine q3 ?_|refine q4 tab rfl rfl ?_|refine q5 ?_|refine q6 ?_|refine q7 ?_|refine q13 ?_|refine q15 ?_)
 exact retQ_ret rfl (by repeat (first|exact List.Sublist.refl _|refine List.Sublist.cons _ ?_)) ⟨Mem.le_refl _,rfl,rfl⟩
set_option maxHeartbeats 1600000 in
theorem sound_law (a : Tree) (m : Mem) (L : List Item) (h : HTree) (hr : TreeRep m h a) (hB : a.wide ≤ 140737488355328) :
  TCall Tryz.prog 18 ⟨[treeV h]⟩ m L (Ret (.bool (soundB a)) m L):=by
 have hr':=hr
 obtain ⟨h1,h2,h3,h4⟩:=hr
 unfold TCall
 refine TCallX.enter Tryz.func18 rfl 18 rfl ?_
 repeat (first|refine q1 ?_|refine q3 ?_)
 refine TO.step rfl (OT.box rfl rfl rfl rfl rfl (fun b => ?_))
 repeat (first|refine q1 ?_|refine q3 ?_|refine q4 tab rfl rfl ?_|refine q5 ?_|refine q6 ?_)
 refine TO.step rfl (OT.alloc tab rfl rfl rfl rfl (fun b3 => ?_))
 skip
 (refine TO.step rfl (OT.storeL0 tab 0 rfl rfl rfl rfl rfl rfl rfl rfl ?_))
 repeat (first|refine q1 ?_|refine q3 ?_|refine q5 ?_|refine q6 ?_)
 refine TO.step rfl (OT.loadL0 tab 1 rfl rfl rfl rfl rfl rfl ?_)
 skip
 refine TO.step rfl (OT.call rfl rfl rfl rfl rfl rfl goes32 ((fits_law a m _ h b3 1 20000 hr' (by decide) (by decide) (by decide) (by decide)).x ?_));
 rintro _ _ _ ⟨rfl,⟨rfl,k1,k2,rfl⟩ | ⟨rfl,k1,n,rfl⟩⟩
 ·have e1 : (decide (a.size ≤ 20000) && decide (a.deep ≤ 100))=true:=by rw [decide_eq_true (by omega),decide_eq_true (by omega)];rfl
  unfold soundB
  rw [e1,Bool.true_and,← h1]
  have hD : IsPred 41 (declS (sg 100)) a.kids:=by
   refine ⟨goes41,fun m L x c hc hrc => ?_⟩
   have hBc:=Nat.le_trans ((wide_kid hc)) hB
   refine decl_teller _ c m L x hrc hBc ⟨goes75,fun m L y d hd hrd => ?_⟩
   exact (sg_tellers 100 d (by have:=deep_kid hc;have:=deep_kid hd;omega) (Nat.le_trans ((wide_kid hd)) hBc) m L y hrd).block
  repeat (refine q4 tab rfl rfl ?_)
  refine TO.step rfl (OT.loadL0 tab 1 rfl rfl rfl rfl rfl rfl ?_)
  repeat (first|(refine q4 tab rfl rfl ?_)|(refine qs rfl (ql tab 1 rfl rfl rfl rfl rfl rfl ?_)))
  refine TO.step rfl (OT.call rfl rfl rfl rfl rfl rfl goes39 ((bare_law _ _ h a hr' (decide (h.kind=1)) false false).x ?_));
  rintro _ _ _ ⟨rfl,rfl,rfl⟩
  repeat (refine q4 tab rfl rfl ?_)
  refine TO.split rfl rfl (fun h7 => ?_) (fun h7 => ?_)
  ·repeat (first|(refine q4 tab rfl rfl ?_)|(refine qs rfl (ql tab 1 rfl rfl rfl rfl rfl rfl ?_)))
   refine TO.step rfl (OT.call rfl rfl rfl rfl rfl rfl goes40 ((pall_law _ _ h.kids a.kids h4 41 (declS (sg 100)) hD).x ?_));
   rintro _ _ _ ⟨rfl,rfl,rfl⟩
   repeat (first|refine q4 tab rfl rfl ?_|refine q5 ?_|refine q6 ?_|refine q15 ?_)
   refine retQ_ret rfl (by repeat (first|exact List.Sublist.refl _|refine List.Sublist.cons _ ?_)) ⟨rfl,rfl, ?_⟩
   rw [h7];rfl
  ·repeat (first|refine q4 tab rfl rfl ?_|refine q5 ?_|refine q6 ?_|refine q15 ?_)
   refine retQ_ret rfl (by repeat (first|exact List.Sublist.refl _|refine List.Sublist.cons _ ?_)) ⟨rfl,rfl, ?_⟩
   rw [h7];rfl
 ·have e1 : (decide (a.size ≤ 20000) && decide (a.deep ≤ 100))=false:=by
   rw [← Bool.decide_and,decide_eq_false (fun hh=>k1 ⟨by omega,by omega⟩)]
  unfold soundB
  rw [e1]
  repeat (first|refine q4 tab rfl rfl ?_|refine q5 ?_|refine q6 ?_|refine q15 ?_)
  refine retQ_ret rfl (by repeat (first|exact List.Sublist.refl _|refine List.Sublist.cons _ ?_)) ⟨rfl,rfl, ?_⟩
  rfl
end Go.Sep


/- PtDeW -/
set_option linter.unusedVariables false
set_option linter.unusedSimpArgs false
namespace Go.Sep
open Go.Proofs
attribute [local irreducible] TC TO OT TCallX TCall DO DOt thenQ blockQ retQ At
theorem semis_cut (ks : List Tree) (i : Nat) (h : i < ks.length) : Pt.semis (ks.map Pt.toks)=Pt.semis ((ks.take i).map Pt.toks)++(Pt.toks ks[i]++([Pt.mk [59]]++Pt.semis ((ks.drop (i + 1)).map Pt.toks))):=by
 have e : ks=ks.take i++(ks[i] :: ks.drop (i + 1)):=by rw [← List.drop_eq_getElem_cons h,List.take_append_drop]
 conv=>lhs;rw [e]
 unfold Pt.semis
 rw [List.map_append,List.map_append,List.flatten_append,List.map_cons,List.map_cons,List.flatten_cons,List.append_assoc]
theorem semis_next (ks : List Tree) (i : Nat) (h : i < ks.length) : Pt.semis ((ks.take (i + 1)).map Pt.toks)=Pt.semis ((ks.take i).map Pt.toks)++(Pt.toks ks[i]++[Pt.mk [59]]):=by
 unfold Pt.semis
 rw [List.take_succ_eq_append_getElem h,List.map_append,List.map_append,List.flatten_append];simp
section
variable {Tb : Mem→Prop}
set_option maxHeartbeats 6400000 in
theorem decl_w (hTb : TbOk Tb) (hI : ∀ (m : Mem) (L : List Item) (n : Int),Tb m→0 ≤ n→n < 9223372036854775808→TCall Tryz.prog 86 ⟨[.int .i64 n]⟩ m L (Made m L fun r _=>r=strV (Pt.digN n.toNat))) (a : Tree) (hnum : Pt.numB2 a=true) (hd0 : declS lim a=true) : Pw Tb 37 a:=by
 have ih : ∀ k ∈ a.kids,PT Tb k:=fun k _=>pt_all hTb hI k
 intro m L bd q s x0 h hT0 hB hr hl
 obtain ⟨h1,h2,h3,h4⟩:=hr
 have hlen:=h4.len
 have hsm:=h4.small rfl
 have hm:=Mem.le_refl m
 have hT : TbM Tb m:=⟨fun h=>hTb.mono hT0 h⟩
 obtain ⟨k,n0,u0,ks⟩:=a
 obtain ⟨hk,hn,hu,hks⟩:=h
 simp only [Tree.kind,Tree.name,Tree.num,Tree.kids] at h1 h2 h3 h4 hlen hsm ih
 subst h1 h2 h3
 by_cases e : hk=2
 ·subst e
  have hf : (ofB (.mk 2 hn hu ks) 2 && ks.all (fieldS Tree.isType))=true:=hd0
  rw [Bool.and_eq_true] at hf
  have et : Pt.toks (.mk 2 hn hu ks)=[Pt.wd [116,121,112,101],Pt.nm hn,Pt.wd [115,116,114,117,99,116],Pt.mk [123]]++(Pt.semis (ks.map Pt.toks)++[Pt.mk [125]]):=by rw [Pt.toks_eq];rfl
  rw [et] at hl
  try simp only [putT_app,List.length_append] at hl
  unfold TCall
  refine TCallX.enter Tryz.func37 rfl 104 rfl ?_
  repeat (first|refine q1 ?_|refine q3 ?_)
  refine TO.step rfl (OT.box rfl rfl rfl rfl rfl (fun b => ?_))
  refine TO.perm pq3 ?_
  repeat (first|(first|refine q1 ?_|refine q2 ?_|refine q3 ?_|refine q4 tab rfl rfl ?_|refine q5 ?_|refine q6 ?_|refine q13 ?_|refine q16 rfl ?_|refine q17 rfl ?_)|(refine qs rfl (ql tab 2 rfl rfl rfl rfl rfl rfl ?_)))
  refine TO.step rfl (OT.litR tab rStr (hs:=[[116,121,112,101],hn,[115,116,114,117,99,116],[123]]) (l:=[[116,121,112,101],hn,[115,116,114,117,99,116],[123]]) ⟨rfl,rfl,rfl,rfl,trivial⟩ rfl rfl rfl rfl rfl (by decide) (fun sl ma hma hsl _ _ => ?_))
  replace hm:=Mem.le_trans hm hma
  replace hB:=hB.mono hma
  skip
  refine TO.step rfl (OT.call rfl rfl rfl rfl rfl rfl goes67 ((put_law _ _ bd q s _ hB sl [Pt.wd [116,121,112,101],Pt.nm hn,Pt.wd [115,116,114,117,99,116],Pt.mk [123]] hsl (by first | omega | (simp only [List.length_append];omega))).x ?_));
  rintro _ m1 _ ⟨hm1,s,q,rfl,hB⟩
  replace hm:=Mem.le_trans hm hm1
  clear hm1 hma hsl
  repeat (first|(first|refine q1 ?_|refine q2 ?_|refine q3 ?_|refine q4 tab rfl rfl ?_|refine q5 ?_|refine q6 ?_)|(refine qs rfl (ql tab 2 rfl rfl rfl rfl rfl rfl ?_)))
  refine TC.loopK (ι:=PS) [0,3,5,61,62] rfl (fun g=>[(63, .int .i64 (g.i : Int))]) (fun g=>g.m) (fun g=>bdL bd g.q g.s (.cells b 0 (treeC ⟨2,hn,hu,hks⟩) :: L)) (fun g=>m ≤ g.m∧g.i ≤ ks.length∧BOk g.m bd g.q g.s (x0++putT [Pt.wd [116,121,112,101],Pt.nm hn,Pt.wd [115,116,114,117,99,116],Pt.mk [123]]++putT (Pt.semis ((ks.take g.i).map Pt.toks)))) (fun g=>ks.length - g.i) ⟨m1,q,s,0⟩ (by repeat (first|exact trivial|refine And.intro rfl ?_)) rfl (by repeat (exact List.Sublist.refl _)) ⟨hm,Nat.zero_le _,hB.cast (by simp [Pt.semis,putT_nil])⟩ ?_
  rintro ⟨m1,q,s,i⟩ ⟨hm,hi,hB⟩
  simp only at hm hi hB
  repeat (first|refine q1 ?_|refine q3 ?_|refine q4 tab rfl rfl ?_|refine q5 ?_|refine q6 ?_)
  refine TC.condP rfl (fun h1 => ?_) (fun h1 => ?_)
  ·simp only at h1
   have hlt : i < ks.length:=by omega
   have hxi : ks[i]? = some ks[i]:=List.getElem?_eq_getElem hlt
   have hc:=congrArg (fun l=>(putT l).length) (semis_cut ks i hlt)
   obtain ⟨fs,ft,hfe,hft⟩:=Pt.field_f (List.all_eq_true.1 hf.2 ks[i] (List.getElem_mem hlt))
   have hnx:=semis_next ks i hlt
   generalize ks[i]=fld at *
   subst hfe
   have etf : Pt.toks (.mk 6 fs 0 [ft])=[Pt.nm fs]++Pt.toks ft:=by rw [Pt.toks_eq];rfl
   rw [etf] at hc hnx
   simp only [putT_app,List.length_append] at hc
   have px:=typ_w hTb ft hft
   have h4c:=h4.mono hm
   repeat (first|refine q1 ?_|refine q2 ?_|refine q3 ?_|refine q6 ?_|refine q13 ?_)
   refine TO.step rfl (OT.index tab rTree i h4c rfl rfl rfl rfl rfl (by first | rfl | omega | (simp only;omega)) rfl hxi ?_)
   rintro b8 i8 h8 hr8 hA8
   (refine TO.step rfl (OT.loadA0 tab hA8 rfl rfl rfl rfl rfl ?_))
   refine TO.step rfl (OT.alloc tab rfl rfl rfl rfl (fun b5 => ?_))
   skip
   (refine TO.step rfl (OT.storeL0 tab 0 rfl rfl rfl rfl rfl rfl rfl rfl ?_))
   refine TO.perm pq3 ?_
   obtain ⟨e1,e2,e3,e4⟩:=rTree_iff.1 hr8
   have e2' : h8.name=fs:=e2
   have e4' : SlRep rTree m1 h8.kids [ft]:=e4
   have hfi : [ft][0]? = some ft:=rfl
   repeat (first|(first|refine q1 ?_|refine q3 ?_|refine q4 tab rfl rfl ?_|refine q5 ?_|refine q6 ?_)|(refine qs rfl (ql tab 2 rfl rfl rfl rfl rfl rfl ?_)))
   rw [e2']
   refine TO.step rfl (OT.litR tab rStr (hs:=[fs]) (l:=[fs]) ⟨rfl,trivial⟩ rfl rfl rfl rfl rfl (by decide) (fun sl ma hma hsl _ _ => ?_))
   replace hm:=Mem.le_trans hm hma
   replace hB:=hB.mono hma
   replace e4':=e4'.mono hma
   skip
   refine TO.step rfl (OT.call rfl rfl rfl rfl rfl rfl goes67 ((put_law _ _ bd q s _ hB sl [Pt.nm fs] hsl (by first | omega | (simp only [List.length_append];omega))).x ?_));
   rintro _ m1 _ ⟨hm1,s,q,rfl,hB⟩
   replace hm:=Mem.le_trans hm hm1
   replace e4':=e4'.mono hm1
   clear hm1 hma hsl
   repeat (first|(first|refine q1 ?_|refine q3 ?_|refine q4 tab rfl rfl ?_|refine q5 ?_|refine q6 ?_)|(refine qs rfl (ql tab 2 rfl rfl rfl rfl rfl rfl ?_)))
   refine TO.step rfl (OT.index tab rTree 0 e4' rfl rfl rfl rfl rfl (by first | rfl | omega | (simp only;omega)) rfl hfi ?_)
   rintro b7 i7 h7 hr7 hA7
   (refine TO.step rfl (OT.loadA0 tab hA7 rfl rfl rfl rfl rfl ?_))
   skip
   refine TO.step rfl (OT.call rfl rfl rfl rfl rfl rfl goes65 ((px _ _ bd q s _ h7 (hT.mono hm) hB (rTree_iff.1 hr7) (by first | omega | (simp only [List.length_append];omega))).x ?_));
   rintro _ m1 _ ⟨hm1,s,q,rfl,hB⟩
   replace hm:=Mem.le_trans hm hm1
   repeat (first|refine q3 ?_|refine q4 tab rfl rfl ?_|refine q5 ?_|refine q6 ?_)
   refine TO.step rfl (OT.litR tab rStr (hs:=[[59]]) (l:=[[59]]) ⟨rfl,trivial⟩ rfl rfl rfl rfl rfl (by decide) (fun sl ma hma hsl _ _ => ?_))
   replace hm:=Mem.le_trans hm hma
   replace hB:=hB.mono hma
   skip
   refine TO.step rfl (OT.call rfl rfl rfl rfl rfl rfl goes67 ((put_law _ _ bd q s _ hB sl [Pt.mk [59]] hsl (by first | omega | (simp only [List.length_append];omega))).x ?_));
   rintro _ m1 _ ⟨hm1,s,q,rfl,hB⟩
   replace hm:=Mem.le_trans hm hm1
   clear hm1 hma hsl
   repeat (first|refine q3 ?_|refine q5 ?_|refine q6 ?_|refine q7 ?_)
   refine TO.step rfl (OT.arith (r':=((i + 1 : Nat) : Int)) rfl rfl rfl rfl rfl rfl rfl (by omega) ?_)
   repeat (first|refine q4 tab rfl rfl ?_|refine q5 ?_|refine q6 ?_)
   refine ⟨⟨m1,q,s,i + 1⟩,(by repeat (first|exact trivial|refine And.intro rfl ?_)),(by repeat (first|exact trivial|refine And.intro rfl ?_)),rfl,rfl,(by repeat (first|exact List.Sublist.refl _|refine List.Sublist.cons_cons _ ?_|refine List.Sublist.cons _ ?_)),⟨hm,by simp only;omega,hB.cast ?_⟩,by simp only;omega⟩
   rw [hnx];simp only [putT_app,List.append_assoc]
  ·simp only at h1
   rw [List.take_of_length_le (by omega)] at hB
   repeat (first|refine q3 ?_|refine q4 tab rfl rfl ?_|refine q6 ?_|refine q10 ?_|refine q11 ?_|refine q14 ?_)
   refine TO.step rfl (OT.litR tab rStr (hs:=[[125]]) (l:=[[125]]) ⟨rfl,trivial⟩ rfl rfl rfl rfl rfl (by decide) (fun sl ma hma hsl _ _ => ?_))
   replace hm:=Mem.le_trans hm hma
   replace hB:=hB.mono hma
   skip
   refine TO.step rfl (OT.call rfl rfl rfl rfl rfl rfl goes67 ((put_law _ _ bd q s _ hB sl [Pt.mk [125]] hsl (by first | omega | (simp only [List.length_append];omega))).x ?_));
   rintro _ m1 _ ⟨hm1,s,q,rfl,hB⟩
   replace hm:=Mem.le_trans hm hm1
   clear hm1 hma hsl
   repeat (first|refine q5 ?_|refine q7 ?_)
   refine retQ_n rfl (by repeat (first|exact List.Sublist.refl _|refine List.Sublist.cons_cons _ ?_|refine List.Sublist.cons _ ?_)) ⟨hm,s,q,rfl,hB.cast ?_⟩
   rw [et];try simp only [putT_app,List.append_assoc]
 by_cases e : hk=3
 ·subst e
  have hf : (ofB (.mk 3 hn hu ks) 3 && ks.all (fieldS Tree.isSig))=true:=hd0
  rw [Bool.and_eq_true] at hf
  have et : Pt.toks (.mk 3 hn hu ks)=[Pt.wd [116,121,112,101],Pt.nm hn,Pt.wd [105,110,116,101,114,102,97,99,101],Pt.mk [123]]++(Pt.semis (ks.map Pt.toks)++[Pt.mk [125]]):=by rw [Pt.toks_eq];rfl
  rw [et] at hl
  try simp only [putT_app,List.length_append] at hl
  unfold TCall
  refine TCallX.enter Tryz.func37 rfl 104 rfl ?_
  repeat (first|refine q1 ?_|refine q3 ?_)
  refine TO.step rfl (OT.box rfl rfl rfl rfl rfl (fun b => ?_))
  refine TO.perm pq3 ?_
  repeat (first|(first|refine q1 ?_|refine q2 ?_|refine q3 ?_|refine q4 tab rfl rfl ?_|refine q5 ?_|refine q6 ?_|refine q16 rfl ?_|refine q17 rfl ?_)|(refine qs rfl (ql tab 2 rfl rfl rfl rfl rfl rfl ?_)))
  refine TO.step rfl (OT.litR tab rStr (hs:=[[116,121,112,101],hn,[105,110,116,101,114,102,97,99,101],[123]]) (l:=[[116,121,112,101],hn,[105,110,116,101,114,102,97,99,101],[123]]) ⟨rfl,rfl,rfl,rfl,trivial⟩ rfl rfl rfl rfl rfl (by decide) (fun sl ma hma hsl _ _ => ?_))
  replace hm:=Mem.le_trans hm hma
  replace hB:=hB.mono hma
  skip
  refine TO.step rfl (OT.call rfl rfl rfl rfl rfl rfl goes67 ((put_law _ _ bd q s _ hB sl [Pt.wd [116,121,112,101],Pt.nm hn,Pt.wd [105,110,116,101,114,102,97,99,101],Pt.mk [123]] hsl (by first | omega | (simp only [List.length_append];omega))).x ?_));
  rintro _ m1 _ ⟨hm1,s,q,rfl,hB⟩
  replace hm:=Mem.le_trans hm hm1
  clear hm1 hma hsl
  repeat (first|(first|refine q1 ?_|refine q2 ?_|refine q3 ?_|refine q4 tab rfl rfl ?_|refine q5 ?_|refine q6 ?_)|(refine qs rfl (ql tab 2 rfl rfl rfl rfl rfl rfl ?_)))
  refine TC.loopK (ι:=PS) [0,3,5,61,62] rfl (fun g=>[(63, .int .i64 (g.i : Int))]) (fun g=>g.m) (fun g=>bdL bd g.q g.s (.cells b 0 (treeC ⟨3,hn,hu,hks⟩) :: L)) (fun g=>m ≤ g.m∧g.i ≤ ks.length∧BOk g.m bd g.q g.s (x0++putT [Pt.wd [116,121,112,101],Pt.nm hn,Pt.wd [105,110,116,101,114,102,97,99,101],Pt.mk [123]]++putT (Pt.semis ((ks.take g.i).map Pt.toks)))) (fun g=>ks.length - g.i) ⟨m1,q,s,0⟩ (by repeat (first|exact trivial|refine And.intro rfl ?_)) rfl (by repeat (exact List.Sublist.refl _)) ⟨hm,Nat.zero_le _,hB.cast (by simp [Pt.semis,putT_nil])⟩ ?_
  rintro ⟨m1,q,s,i⟩ ⟨hm,hi,hB⟩
  simp only at hm hi hB
  repeat (first|refine q1 ?_|refine q3 ?_|refine q4 tab rfl rfl ?_|refine q5 ?_|refine q6 ?_)
  refine TC.condP rfl (fun h1 => ?_) (fun h1 => ?_)
  ·simp only at h1
   have hlt : i < ks.length:=by omega
   have hxi : ks[i]? = some ks[i]:=List.getElem?_eq_getElem hlt
   have hc:=congrArg (fun l=>(putT l).length) (semis_cut ks i hlt)
   obtain ⟨fs,ft,hfe,hft⟩:=Pt.field_f (List.all_eq_true.1 hf.2 ks[i] (List.getElem_mem hlt))
   have hnx:=semis_next ks i hlt
   generalize ks[i]=fld at *
   subst hfe
   have etf : Pt.toks (.mk 6 fs 0 [ft])=[Pt.nm fs]++Pt.toks ft:=by rw [Pt.toks_eq];rfl
   rw [etf] at hc hnx
   simp only [putT_app,List.length_append] at hc
   have px:=sig_w hTb ft hft
   have h4c:=h4.mono hm
   repeat (first|refine q1 ?_|refine q2 ?_|refine q3 ?_|refine q6 ?_|refine q13 ?_)
   refine TO.step rfl (OT.index tab rTree i h4c rfl rfl rfl rfl rfl (by first | rfl | omega | (simp only;omega)) rfl hxi ?_)
   rintro b8 i8 h8 hr8 hA8
   (refine TO.step rfl (OT.loadA0 tab hA8 rfl rfl rfl rfl rfl ?_))
   refine TO.step rfl (OT.alloc tab rfl rfl rfl rfl (fun b5 => ?_))
   skip
   (refine TO.step rfl (OT.storeL0 tab 0 rfl rfl rfl rfl rfl rfl rfl rfl ?_))
   refine TO.perm pq3 ?_
   obtain ⟨e1,e2,e3,e4⟩:=rTree_iff.1 hr8
   have e2' : h8.name=fs:=e2
   have e4' : SlRep rTree m1 h8.kids [ft]:=e4
   have hfi : [ft][0]? = some ft:=rfl
   repeat (first|(first|refine q1 ?_|refine q3 ?_|refine q4 tab rfl rfl ?_|refine q5 ?_|refine q6 ?_)|(refine qs rfl (ql tab 2 rfl rfl rfl rfl rfl rfl ?_)))
   rw [e2']
   refine TO.step rfl (OT.litR tab rStr (hs:=[fs]) (l:=[fs]) ⟨rfl,trivial⟩ rfl rfl rfl rfl rfl (by decide) (fun sl ma hma hsl _ _ => ?_))
   replace hm:=Mem.le_trans hm hma
   replace hB:=hB.mono hma
   replace e4':=e4'.mono hma
   skip
   refine TO.step rfl (OT.call rfl rfl rfl rfl rfl rfl goes67 ((put_law _ _ bd q s _ hB sl [Pt.nm fs] hsl (by first | omega | (simp only [List.length_append];omega))).x ?_));
   rintro _ m1 _ ⟨hm1,s,q,rfl,hB⟩
   replace hm:=Mem.le_trans hm hm1
   replace e4':=e4'.mono hm1
   clear hm1 hma hsl
   repeat (first|(first|refine q1 ?_|refine q3 ?_|refine q4 tab rfl rfl ?_|refine q5 ?_|refine q6 ?_)|(refine qs rfl (ql tab 2 rfl rfl rfl rfl rfl rfl ?_)))
   refine TO.step rfl (OT.index tab rTree 0 e4' rfl rfl rfl rfl rfl (by first | rfl | omega | (simp only;omega)) rfl hfi ?_)
   rintro b7 i7 h7 hr7 hA7
   (refine TO.step rfl (OT.loadA0 tab hA7 rfl rfl rfl rfl rfl ?_))
   skip
   refine TO.step rfl (OT.call rfl rfl rfl rfl rfl rfl goes66 ((px _ _ bd q s _ h7 (hT.mono hm) hB (rTree_iff.1 hr7) (by first | omega | (simp only [List.length_append];omega))).x ?_));
   rintro _ m1 _ ⟨hm1,s,q,rfl,hB⟩
   replace hm:=Mem.le_trans hm hm1
   repeat (first|refine q3 ?_|refine q4 tab rfl rfl ?_|refine q5 ?_|refine q6 ?_)
   refine TO.step rfl (OT.litR tab rStr (hs:=[[59]]) (l:=[[59]]) ⟨rfl,trivial⟩ rfl rfl rfl rfl rfl (by decide) (fun sl ma hma hsl _ _ => ?_))
   replace hm:=Mem.le_trans hm hma
   replace hB:=hB.mono hma
   skip
   refine TO.step rfl (OT.call rfl rfl rfl rfl rfl rfl goes67 ((put_law _ _ bd q s _ hB sl [Pt.mk [59]] hsl (by first | omega | (simp only [List.length_append];omega))).x ?_));
   rintro _ m1 _ ⟨hm1,s,q,rfl,hB⟩
   replace hm:=Mem.le_trans hm hm1
   clear hm1 hma hsl
   repeat (first|refine q3 ?_|refine q5 ?_|refine q6 ?_|refine q7 ?_)
   refine TO.step rfl (OT.arith (r':=((i + 1 : Nat) : Int)) rfl rfl rfl rfl rfl rfl rfl (by omega) ?_)
   repeat (first|refine q4 tab rfl rfl ?_|refine q5 ?_|refine q6 ?_)
   refine ⟨⟨m1,q,s,i + 1⟩,(by repeat (first|exact trivial|refine And.intro rfl ?_)),(by repeat (first|exact trivial|refine And.intro rfl ?_)),rfl,rfl,(by repeat (first|exact List.Sublist.refl _|refine List.Sublist.cons_cons _ ?_|refine List.Sublist.cons _ ?_)),⟨hm,by simp only;omega,hB.cast ?_⟩,by simp only;omega⟩
   rw [hnx];simp only [putT_app,List.append_assoc]
  ·simp only at h1
   rw [List.take_of_length_le (by omega)] at hB
   repeat (first|refine q3 ?_|refine q4 tab rfl rfl ?_|refine q6 ?_|refine q10 ?_|refine q11 ?_|refine q14 ?_)
   refine TO.step rfl (OT.litR tab rStr (hs:=[[125]]) (l:=[[125]]) ⟨rfl,trivial⟩ rfl rfl rfl rfl rfl (by decide) (fun sl ma hma hsl _ _ => ?_))
   replace hm:=Mem.le_trans hm hma
   replace hB:=hB.mono hma
   skip
   refine TO.step rfl (OT.call rfl rfl rfl rfl rfl rfl goes67 ((put_law _ _ bd q s _ hB sl [Pt.mk [125]] hsl (by first | omega | (simp only [List.length_append];omega))).x ?_));
   rintro _ m1 _ ⟨hm1,s,q,rfl,hB⟩
   replace hm:=Mem.le_trans hm hm1
   clear hm1 hma hsl
   repeat (first|refine q5 ?_|refine q7 ?_)
   refine retQ_n rfl (by repeat (first|exact List.Sublist.refl _|refine List.Sublist.cons_cons _ ?_|refine List.Sublist.cons _ ?_)) ⟨hm,s,q,rfl,hB.cast ?_⟩
   rw [et];try simp only [putT_app,List.append_assoc]
 by_cases e : hk=4
 ·subst e
  have hf : (ofB (.mk 4 hn hu ks) 4 && kidsR [Tree.isSig,lim.block] none ks)=true:=hd0
  rw [Bool.and_eq_true] at hf
  obtain ⟨x,y,rfl,hx,hy⟩:=Pt.kids2 hf.2
  have px:=sig_w hTb x hx
  have py:=(ih y (by simp)).block (Pt.num_kid hnum (by simp [Tree.kids])) hy
  have hxi : [x,y][0]? = some x:=rfl
  have hyi : [x,y][1]? = some y:=rfl
  have et : Pt.toks (.mk 4 hn hu [x,y])=[Pt.wd [102,117,110,99],Pt.nm hn]++(Pt.toks x++Pt.toks y):=by rw [Pt.toks_eq];rfl
  rw [et] at hl
  try simp only [putT_app,List.length_append] at hl
  unfold TCall
  refine TCallX.enter Tryz.func37 rfl 104 rfl ?_
  repeat (first|refine q1 ?_|refine q3 ?_)
  refine TO.step rfl (OT.box rfl rfl rfl rfl rfl (fun b => ?_))
  refine TO.perm pq3 ?_
  repeat (first|(first|refine q1 ?_|refine q2 ?_|refine q3 ?_|refine q4 tab rfl rfl ?_|refine q5 ?_|refine q6 ?_|refine q16 rfl ?_|refine q17 rfl ?_)|(refine qs rfl (ql tab 2 rfl rfl rfl rfl rfl rfl ?_)))
  refine TO.step rfl (OT.litR tab rStr (hs:=[[102,117,110,99],hn]) (l:=[[102,117,110,99],hn]) ⟨rfl,rfl,trivial⟩ rfl rfl rfl rfl rfl (by decide) (fun sl ma hma hsl _ _ => ?_))
  replace hm:=Mem.le_trans hm hma
  replace hB:=hB.mono hma
  skip
  refine TO.step rfl (OT.call rfl rfl rfl rfl rfl rfl goes67 ((put_law _ _ bd q s _ hB sl [Pt.wd [102,117,110,99],Pt.nm hn] hsl (by first | omega | (simp only [List.length_append];omega))).x ?_));
  rintro _ m1 _ ⟨hm1,s,q,rfl,hB⟩
  replace hm:=Mem.le_trans hm hm1
  clear hm1 hma hsl
  repeat (first|(first|refine q1 ?_|refine q3 ?_|refine q4 tab rfl rfl ?_|refine q5 ?_|refine q6 ?_)|(refine qs rfl (ql tab 2 rfl rfl rfl rfl rfl rfl ?_)))
  have h4c:=h4.mono hm
  refine TO.step rfl (OT.index tab rTree 0 h4c rfl rfl rfl rfl rfl (by first | rfl | omega | (simp only;omega)) rfl hxi ?_)
  rintro b7 i7 h7 hr7 hA7
  (refine TO.step rfl (OT.loadA0 tab hA7 rfl rfl rfl rfl rfl ?_))
  skip
  refine TO.step rfl (OT.call rfl rfl rfl rfl rfl rfl goes66 ((px _ _ bd q s _ h7 (hT.mono hm) hB (rTree_iff.1 hr7) (by first | omega | (simp only [List.length_append];omega))).x ?_));
  rintro _ m1 _ ⟨hm1,s,q,rfl,hB⟩
  replace hm:=Mem.le_trans hm hm1
  clear hm1 h4c hr7 hA7
  repeat (first|(first|refine q3 ?_|refine q4 tab rfl rfl ?_|refine q5 ?_|refine q6 ?_)|(refine qs rfl (ql tab 2 rfl rfl rfl rfl rfl rfl ?_)))
  have h4c:=h4.mono hm
  refine TO.step rfl (OT.index tab rTree 1 h4c rfl rfl rfl rfl rfl (by first | rfl | omega | (simp only;omega)) rfl hyi ?_)
  rintro b7 i7 h7 hr7 hA7
  (refine TO.step rfl (OT.loadA0 tab hA7 rfl rfl rfl rfl rfl ?_))
  skip
  refine TO.step rfl (OT.call rfl rfl rfl rfl rfl rfl goes68 ((py _ _ bd q s _ h7 (hT.mono hm) hB (rTree_iff.1 hr7) (by first | omega | (simp only [List.length_append];omega))).x ?_));
  rintro _ m1 _ ⟨hm1,s,q,rfl,hB⟩
  replace hm:=Mem.le_trans hm hm1
  clear hm1 h4c hr7 hA7
  repeat (first|refine q5 ?_|refine q7 ?_)
  refine retQ_n rfl (by repeat (first|exact List.Sublist.refl _|refine List.Sublist.cons_cons _ ?_|refine List.Sublist.cons _ ?_)) ⟨hm,s,q,rfl,hB.cast ?_⟩
  rw [et];try simp only [putT_app,List.append_assoc]
 by_cases e : hk=5
 ·subst e
  have hf : (ofB (.mk 5 hn hu ks) 5 && kidsR [recvS,Tree.isSig,lim.block] none ks)=true:=hd0
  rw [Bool.and_eq_true] at hf
  obtain ⟨r,x,y,rfl,hr0,hx,hy⟩:=Pt.kids3 hf.2
  have hrp : ∃ rn ty,r = .mk 8 rn 0 [ty]∧ty.isType=true:=by
   unfold recvS at hr0
   rw [Bool.and_eq_true] at hr0
   have hp:=hr0.1
   unfold Tree.isParam at hp
   simp only [Bool.and_eq_true,decide_eq_true_eq] at hp
   obtain ⟨p1,p2,p3,p4,p5⟩:=hp
   obtain ⟨rk,rn,ru,rks⟩:=r
   obtain rfl : rk=8:=p1
   obtain rfl : ru=0:=p2
   obtain ⟨ty,rfl⟩:=List.length_eq_one_iff.1 p4
   exact ⟨rn,ty,rfl,List.all_eq_true.1 p5 ty (by simp [Tree.kids])⟩
  obtain ⟨rn,ty,rfl,hty⟩:=hrp
  have pt:=typ_w hTb ty hty
  have px:=sig_w hTb x hx
  have py:=(ih y (by simp)).block (Pt.num_kid hnum (by simp [Tree.kids])) hy
  have hri : [Tree.mk 8 rn 0 [ty],x,y][0]? = some (.mk 8 rn 0 [ty]):=rfl
  have hxi : [Tree.mk 8 rn 0 [ty],x,y][1]? = some x:=rfl
  have hyi : [Tree.mk 8 rn 0 [ty],x,y][2]? = some y:=rfl
  have hti : [ty][0]? = some ty:=rfl
  have et : Pt.toks (.mk 5 hn hu [.mk 8 rn 0 [ty],x,y])=[Pt.wd [102,117,110,99],Pt.mk [40],Pt.nm rn]++(Pt.toks ty++([Pt.mk [41],Pt.nm hn]++(Pt.toks x++Pt.toks y))):=by rw [Pt.toks_eq];rfl
  rw [et] at hl
  try simp only [putT_app,List.length_append] at hl
  unfold TCall
  refine TCallX.enter Tryz.func37 rfl 104 rfl ?_
  repeat (first|refine q1 ?_|refine q3 ?_)
  refine TO.step rfl (OT.box rfl rfl rfl rfl rfl (fun b => ?_))
  refine TO.perm pq3 ?_
  repeat (first|(first|refine q1 ?_|refine q2 ?_|refine q3 ?_|refine q4 tab rfl rfl ?_|refine q5 ?_|refine q6 ?_|refine q17 rfl ?_)|(refine qs rfl (ql tab 2 rfl rfl rfl rfl rfl rfl ?_)))
  have h4c:=h4.mono hm
  refine TO.step rfl (OT.index tab rTree 0 h4c rfl rfl rfl rfl rfl (by first | rfl | omega | (simp only;omega)) rfl hri ?_)
  rintro b8 i8 h8 hr8 hA8
  obtain ⟨e1,e2,e3,e4⟩:=rTree_iff.1 hr8
  have e2' : h8.name=rn:=e2
  repeat (refine q4 tab rfl rfl ?_)
  (refine TO.step rfl (OT.loadA tab hA8 rfl rfl rfl rfl rfl ?_))
  rw [e2']
  refine TO.step rfl (OT.litR tab rStr (hs:=[[102,117,110,99],[40],rn]) (l:=[[102,117,110,99],[40],rn]) ⟨rfl,rfl,rfl,trivial⟩ rfl rfl rfl rfl rfl (by decide) (fun sl ma hma hsl _ _ => ?_))
  replace hm:=Mem.le_trans hm hma
  replace hB:=hB.mono hma
  skip
  refine TO.step rfl (OT.call rfl rfl rfl rfl rfl rfl goes67 ((put_law _ _ bd q s _ hB sl [Pt.wd [102,117,110,99],Pt.mk [40],Pt.nm rn] hsl (by first | omega | (simp only [List.length_append];omega))).x ?_));
  rintro _ m1 _ ⟨hm1,s,q,rfl,hB⟩
  replace hm:=Mem.le_trans hm hm1
  clear hm1 hma hsl
  repeat (first|(first|refine q1 ?_|refine q3 ?_|refine q4 tab rfl rfl ?_|refine q5 ?_|refine q6 ?_)|(refine qs rfl (ql tab 2 rfl rfl rfl rfl rfl rfl ?_)))
  have h4c:=h4.mono hm
  refine TO.step rfl (OT.index tab rTree 0 h4c rfl rfl rfl rfl rfl (by first | rfl | omega | (simp only;omega)) rfl hri ?_)
  rintro b8 i8 h8 hr8 hA8
  obtain ⟨e1,e2,e3,e4⟩:=rTree_iff.1 hr8
  have e4' : SlRep rTree _ h8.kids [ty]:=e4
  repeat (refine q4 tab rfl rfl ?_)
  (refine TO.step rfl (OT.loadA tab hA8 rfl rfl rfl rfl rfl ?_))
  skip
  refine TO.step rfl (OT.index tab rTree 0 e4' rfl rfl rfl rfl rfl (by first | rfl | omega | (simp only;omega)) rfl hti ?_)
  rintro b7 i7 h7 hr7 hA7
  (refine TO.step rfl (OT.loadA0 tab hA7 rfl rfl rfl rfl rfl ?_))
  skip
  refine TO.step rfl (OT.call rfl rfl rfl rfl rfl rfl goes65 ((pt _ _ bd q s _ h7 (hT.mono hm) hB (rTree_iff.1 hr7) (by first | omega | (simp only [List.length_append];omega))).x ?_));
  rintro _ m1 _ ⟨hm1,s,q,rfl,hB⟩
  replace hm:=Mem.le_trans hm hm1
  repeat (first|(first|refine q1 ?_|refine q3 ?_|refine q4 tab rfl rfl ?_|refine q5 ?_|refine q6 ?_)|(refine qs rfl (ql tab 2 rfl rfl rfl rfl rfl rfl ?_)))
  refine TO.step rfl (OT.litR tab rStr (hs:=[[41],hn]) (l:=[[41],hn]) ⟨rfl,rfl,trivial⟩ rfl rfl rfl rfl rfl (by decide) (fun sl ma hma hsl _ _ => ?_))
  replace hm:=Mem.le_trans hm hma
  replace hB:=hB.mono hma
  skip
  refine TO.step rfl (OT.call rfl rfl rfl rfl rfl rfl goes67 ((put_law _ _ bd q s _ hB sl [Pt.mk [41],Pt.nm hn] hsl (by first | omega | (simp only [List.length_append];omega))).x ?_));
  rintro _ m1 _ ⟨hm1,s,q,rfl,hB⟩
  replace hm:=Mem.le_trans hm hm1
  clear hm1 hma hsl
  repeat (first|(first|refine q1 ?_|refine q3 ?_|refine q4 tab rfl rfl ?_|refine q5 ?_|refine q6 ?_)|(refine qs rfl (ql tab 2 rfl rfl rfl rfl rfl rfl ?_)))
  have h4c:=h4.mono hm
  refine TO.step rfl (OT.index tab rTree 1 h4c rfl rfl rfl rfl rfl (by first | rfl | omega | (simp only;omega)) rfl hxi ?_)
  rintro b7 i7 h7 hr7 hA7
  (refine TO.step rfl (OT.loadA0 tab hA7 rfl rfl rfl rfl rfl ?_))
  skip
  refine TO.step rfl (OT.call rfl rfl rfl rfl rfl rfl goes66 ((px _ _ bd q s _ h7 (hT.mono hm) hB (rTree_iff.1 hr7) (by first | omega | (simp only [List.length_append];omega))).x ?_));
  rintro _ m1 _ ⟨hm1,s,q,rfl,hB⟩
  replace hm:=Mem.le_trans hm hm1
  clear hm1 h4c hr7 hA7
  repeat (first|(first|refine q3 ?_|refine q4 tab rfl rfl ?_|refine q5 ?_|refine q6 ?_)|(refine qs rfl (ql tab 2 rfl rfl rfl rfl rfl rfl ?_)))
  have h4c:=h4.mono hm
  refine TO.step rfl (OT.index tab rTree 2 h4c rfl rfl rfl rfl rfl (by first | rfl | omega | (simp only;omega)) rfl hyi ?_)
  rintro b7 i7 h7 hr7 hA7
  (refine TO.step rfl (OT.loadA0 tab hA7 rfl rfl rfl rfl rfl ?_))
  skip
  refine TO.step rfl (OT.call rfl rfl rfl rfl rfl rfl goes68 ((py _ _ bd q s _ h7 (hT.mono hm) hB (rTree_iff.1 hr7) (by first | omega | (simp only [List.length_append];omega))).x ?_));
  rintro _ m1 _ ⟨hm1,s,q,rfl,hB⟩
  replace hm:=Mem.le_trans hm hm1
  clear hm1 h4c hr7 hA7
  repeat (first|refine q5 ?_|refine q7 ?_)
  refine retQ_n rfl (by repeat (first|exact List.Sublist.refl _|refine List.Sublist.cons_cons _ ?_|refine List.Sublist.cons _ ?_)) ⟨hm,s,q,rfl,hB.cast ?_⟩
  rw [et];try simp only [putT_app,List.append_assoc]
 exfalso
 unfold declS at hd0
 simp only [Tree.kind] at hd0
 simp [*] at hd0
end
end Go.Sep


/- PtItoaW -/
set_option linter.unusedVariables false
set_option linter.unusedSimpArgs false
namespace Go.Sep
open Go.Proofs Go.RowKit
attribute [local irreducible] TC TO OT TCallX TCall DO DOt thenQ blockQ retQ At
theorem St.below {m : Mem} {w w' : World} {L : List Item} (h : St m w L) (hb : Below w.heap.size w w') : St m w' L:=by
 have hc : ∀ (b i : Nat) (v : Value),w.cell? ⟨b,i,none⟩ = some v→w'.cell? ⟨b,i,none⟩ = some v∧w'.frozen? ⟨b,i,none⟩ = w.frozen? ⟨b,i,none⟩:=fun b i v hv=>by
  have hlt:=World.block_lt_of_cell? _ _ hv
  have e:=hb.block b hlt
  exact ⟨by rw [World.cell?_of_block e];exact hv,World.frozen?_of_block e⟩
 refine ⟨hb.os.trans h.os,hb.tape.trans h.tape,hb.output.trans h.output,Nat.le_trans h.size hb.size,fun b hlt=>(hb.block b (Nat.lt_of_lt_of_le hlt h.size)).trans (h.pin b hlt),fun b i v hv=>(hc b i v (h.c b i v hv)).1,fun b x hx => ?_,fun b x hx => ?_,fun x hx => ?_,h.free,h.disj⟩
 ·obtain ⟨h1,h2⟩:=h.o b x hx
  have hlt : b < w.heap.size:=(Array.getElem?_eq_some_iff.1 h1).1
  exact ⟨(hb.block b hlt).trans h1,h2⟩
 ·obtain ⟨arr,fr,h1,h2⟩:=h.t b x hx
  have hlt : b < w.heap.size:=(Array.getElem?_eq_some_iff.1 h1).1
  exact ⟨arr,fr,(hb.block b hlt).trans h1,h2⟩
 ·have hi:=h.items x hx
  have hc2 : ∀ (b i : Nat) (v : Value),w.cell? ⟨b,i,none⟩ = some v→w'.cell? ⟨b,i,none⟩ = some v ∧ ∀ j,w'.frozen? ⟨b,j,none⟩ = w.frozen? ⟨b,j,none⟩:=fun b i v hv=>by
   have e:=hb.block b (World.block_lt_of_cell? _ _ hv)
   exact ⟨by rw [World.cell?_of_block e];exact hv,fun j=>World.frozen?_of_block e⟩
  cases x with
  | cells b off vs =>
   intro j v hj
   obtain ⟨h1,h2⟩:=hi j v hj
   obtain ⟨h3,h4⟩:=hc2 _ _ _ h1
   exact ⟨h3,fun i=>(h4 i).trans (h2 i)⟩
  | room b off n =>
   intro j hj
   obtain ⟨v,h1,h2⟩:=hi j hj
   obtain ⟨h3,h4⟩:=hc2 _ _ _ h1
   exact ⟨v,h3,fun i=>(h4 i).trans (h2 i)⟩
  | obj b o =>
   obtain ⟨h1,h2⟩:=hi
   have hlt : b < w.heap.size:=(Array.getElem?_eq_some_iff.1 h1).1
   exact ⟨(hb.block b hlt).trans h1,h2⟩
def Tb (m : Mem) : Prop:=Lib.TabIs Tryz.prog m.pin "internal/strconv.uint64pow10" .u64 Lib.pow10Tab∧3 < m.pin.heap.size
theorem tbOk : TbOk Tb:=⟨fun h hm=>by unfold Tb;rw [hm.pin];exact h⟩
theorem dec_dig : ∀ (f n : Nat),1 ≤ f→n < 10 ^ f→Lib.decDigits n=Pt.digF f n
 | 0,n,h,_=>by omega
 | f + 1,n,_,hn=>by
  rw [Lib.decDigits,Pt.digF]
  by_cases h : n < 10
  ·rw [if_pos h,dif_pos h]
  ·rw [if_neg h,dif_neg h]
   have hf : 1 ≤ f:=by
    rcases Nat.eq_zero_or_pos f with rfl | h1
    ·simp at hn;omega
    ·exact h1
   rw [dec_dig f (n / 10) hf (by rw [Nat.pow_succ] at hn;omega)]
theorem itoa_law (m : Mem) (L : List Item) (n : Int) (hT : Tb m) (h0 : 0 ≤ n) (h1 : n < 9223372036854775808) : TCall Tryz.prog 86 ⟨[.int .i64 n]⟩ m L (Made m L fun r _=>r=strV (Pt.digN n.toNat)):=by
 unfold TCall TCallX
 intro w hw
 have hg : Tryz.prog.globalNamed "internal/strconv.uint64pow10" = some 3:=by kernel_rfl
 have htab : Lib.TabIs Tryz.prog w "internal/strconv.uint64pow10" .u64 Lib.pow10Tab:=by
  have h2:=hT.1
  unfold Lib.TabIs World.var? at h2 ⊢
  rw [hg] at h2 ⊢
  simp only [Option.bind_some] at h2 ⊢
  rw [hw.pin 3 hT.2]
  exact h2
 refine (Tryz.strconv_Itoa n (by omega) (by omega) w htab).mono fun e w' ⟨he,k,os,hww⟩ => ?_
 subst he
 have hst : St m w' L:=hw.below (by
  subst hww
  exact ⟨rfl,rfl,rfl,by simp [Go.Sort.grow,World.drewN],fun b hb=>by simp only [Go.Sort.grow];rw [Array.getElem?_append_left (by simpa [World.drewN] using hb)];rfl⟩)
 refine ⟨m,L,hst,Mem.le_refl _,rfl, ?_⟩
 have hd : Lib.itoa n=Pt.digN n.toNat:=by
  unfold Lib.itoa Pt.digN
  rw [if_neg (by omega),dec_dig 20 n.toNat (by decide) (by omega)]
 rw [hd]
end Go.Sep


/- PtNum -/
set_option linter.unusedVariables false
set_option linter.unusedSimpArgs false
namespace Go.Pt
open Go.Sep Go.Ps
variable {α β : Type}
def FN (f : F) : Prop := ∀ i t,f i=some t→t.kind=2→t.num < 9223372036854775808
def Sn (w : α → Prop) (p : Pp α) : Prop := ∀ f,FN f → ∀ k a k',p f k = .ok a k' → w a
theorem Sn.ret {w : α → Prop} {a : α} (h : w a) : Sn w (ret a):=fun f _ k b k' e=>by injection e with e1 e2;subst e1;exact h
theorem Sn.fail {w : α → Prop} : Sn w (fail : Pp α):=fun f _ k a k' e=>by cases e
theorem Sn.dry {w : α → Prop} : Sn w (dry : Pp α):=fun f _ k a k' e=>by cases e
theorem Sn.mono {w w' : α → Prop} {p : Pp α} (h : Sn w p) (hw : ∀ a,w a→w' a) : Sn w' p:=fun f hf k a k' e=>hw a (h f hf k a k' e)
theorem Sn.bind {w1 : α → Prop} {w : β → Prop} {p : Pp α} {g : α → Pp β} (hp : Sn w1 p) (hg : ∀ a,w1 a→Sn w (g a)) : Sn w (Ps.bind p g):=fun f hf k b k' e=>by
 unfold Ps.bind at e
 cases hx : p f k with
 | ok a k1=>simp only [hx] at e;exact hg a (hp f hf k a k1 hx) f hf k1 b k' e
 | bad k1=>simp only [hx] at e;cases e
 | out=>simp only [hx] at e;cases e
theorem Sn.tok {w : α → Prop} {s : Str} {A B : Pp α} (hA : Sn w A) (hB : Sn w B) : Sn w (Ps.tok s A B):=fun f hf k a k' e=>by
 unfold Ps.tok at e
 cases hb : isM s f k with
 | true=>simp only [hb,cond_true] at e;exact hA f hf _ a k' e
 | false=>simp only [hb,cond_false] at e;exact hB f hf k a k' e
theorem Sn.need {w : α → Prop} {s : Str} {A : Pp α} (hA : Sn w A) : Sn w (need s A):=Sn.tok hA Sn.fail
theorem Sn.tkn {w : α → Prop} {n : Int} {A : Tk→Pp α} {B : Pp α} (hA : ∀ t : Tk,(t.kind=2→t.num < 9223372036854775808)→t.kind=n→Sn w (A t)) (hB : Sn w B) : Sn w (tkn n A B):=fun f hf k a k' e=>by
 unfold Ps.tkn at e
 cases hx : f k with
 | none=>simp only [hx] at e;exact hB f hf k a k' e
 | some t =>
  cases hb : decide (t.kind=n) with
  | true=>simp only [hx,hb,cond_true] at e;exact hA t (hf k t hx) (of_decide_eq_true hb) f hf _ a k' e
  | false=>simp only [hx,hb,cond_false] at e;exact hB f hf k a k' e
theorem Sn.name {w : α → Prop} {A : Str→Pp α} (hA : ∀ t,Sn w (A t)) : Sn w (name A):=Sn.tkn (fun t ht hk=>hA t.text) Sn.fail
theorem Sn.oneOf {w : α → Prop} {ops : List Str} {A : Str→Pp α} {B : Pp α} (hA : ∀ t,Sn w (A t)) (hB : Sn w B) : Sn w (oneOf ops A B):=fun f hf k a k' e=>by
 unfold Ps.oneOf at e
 cases hx : ops.find? (fun s=>isM s f k) with
 | none=>simp only [hx] at e;exact hB f hf k a k' e
 | some t=>simp only [hx] at e;exact hA t f hf _ a k' e
theorem Sn.peek {w : α → Prop} {q : F→Nat→Bool} {A B : Pp α} (hA : Sn w A) (hB : Sn w B) : Sn w (peek q A B):=fun f hf k a k' e=>by
 unfold Ps.peek at e
 cases hb : q f k with
 | true=>simp only [hb,cond_true] at e;exact hA f hf k a k' e
 | false=>simp only [hb,cond_false] at e;exact hB f hf k a k' e
theorem Sn.tokIf {w : α → Prop} {x : Bool} {s : Str} {A B : Pp α} (hA : Sn w A) (hB : Sn w B) : Sn w (tokIf x s A B):=by
 cases x with
 | true=>exact Sn.tok hA hB
 | false=>exact hB
@[reducible] def Nu (a : Tree) : Prop:=numB2 a=true
def Nl (l : List Tree) : Prop := ∀ a ∈ l,Nu a
theorem Nl.nil : Nl []:=fun _ h=>by cases h
theorem Nl.cons {a : Tree} {l : List Tree} (h : Nu a) (hl : Nl l) : Nl (a :: l):=fun b hb=>by
 rcases List.mem_cons.1 hb with rfl | hb
 ·exact h
 ·exact hl b hb
theorem Nl.app {l r : List Tree} (hl : Nl l) (hr : Nl r) : Nl (l++r):=fun b hb=>by
 rcases List.mem_append.1 hb with hb | hb
 ·exact hl b hb
 ·exact hr b hb
theorem nl_of : ∀ {l : List Tree},Nl l→numL l=true
 | [],_=>rfl
 | a :: l,h=>by rw [numL,show numB2 a=true from h a (by simp),nl_of fun x hx=>h x (by simp [hx])];rfl
theorem nu {k : Int} {n : Str} {u : Int} {ks : List Tree} (h : k ≠ 40 ∨ u < 9223372036854775808) (hk : Nl ks) : Nu (.mk k n u ks):=by
 show numB2 _=true
 rw [numB2,nl_of hk,Bool.and_true]
 rcases h with h | h
 ·rw [decide_eq_false h];rfl
 ·rw [decide_eq_true h,Bool.or_true]
section
variable {N : Nat}
theorem one {k : Int} {n : Str} {u : Int} {t : Tree} (h : k ≠ 40) (ht : Nu t) : Nu (.mk k n u [t]):=nu (.inl h) (Nl.nil.cons ht)
structure GN (g : Gr) : Prop where
 typ : Sn Nu g.typ
 block : Sn Nu g.block
 stmt : Sn Nu g.stmt
 branch : Sn Nu g.branch
 expr : ∀ b,Sn Nu (g.expr b)
 unary : ∀ b,Sn Nu (g.unary b)
end
end Go.Pt


/- PtTextW -/
set_option linter.unusedVariables false
set_option linter.unusedSimpArgs false
namespace Go.Sep
open Go.Proofs
attribute [local irreducible] TC TO OT TCallX TCall DO DOt thenQ blockQ retQ At
def outD (x : Str) : Str × Int:=if 65536 < (trimD x [32]).length then ([],4) else (trimD x [32],0)
set_option maxHeartbeats 800000 in
theorem text_w (m : Mem) (L : List Item) (bd : Nat) (q : Option Addr) (s : Sl) (x : Str) (hB : BOk m bd q s x) (hl : x.length ≤ 140737488355328) :
  TCall Tryz.prog 38 ⟨[bdV bd]⟩ m (bdL bd q s L) (Ret (.tuple ⟨[strV (outD x).1, .int .i64 (outD x).2]⟩) m L):=by
 unfold TCall
 refine TCallX.enter Tryz.func38 rfl 14 rfl ?_
 repeat (first|refine q1 ?_|refine q3 ?_|refine q4 tab rfl rfl ?_|refine q5 ?_|refine q6 ?_)
 refine TO.step rfl (OT.call rfl rfl rfl rfl rfl rfl goes70 ((string_law _ _ bd q s x hB).x ?_));
 rintro _ _ _ ⟨rfl,rfl,rfl⟩
 skip
 refine TO.step rfl (OT.call rfl rfl rfl rfl rfl rfl goes69 ((trim_law _ _ x [32] hl).x ?_));
 rintro _ _ _ ⟨rfl,rfl,rfl⟩
 repeat (first|refine q1 ?_|refine q3 ?_|refine q4 tab rfl rfl ?_|refine q5 ?_|refine q6 ?_)
 refine TC.condP rfl (fun h1 => ?_) (fun h1 => ?_)
 ·repeat (first|refine q1 ?_|refine q3 ?_|refine q4 tab rfl rfl ?_|refine q5 ?_|refine q6 ?_|refine q8 ?_|refine q15 ?_)
  refine retQ_ret rfl (by repeat (exact List.Sublist.refl _)) ⟨rfl,rfl, ?_⟩
  unfold outD
  rw [if_pos (by omega)]
 ·repeat (first|refine q1 ?_|refine q3 ?_|refine q4 tab rfl rfl ?_|refine q5 ?_|refine q6 ?_|refine q13 ?_|refine q15 ?_)
  refine retQ_ret rfl (by repeat (exact List.Sublist.refl _)) ⟨rfl,rfl, ?_⟩
  unfold outD
  rw [if_neg (by omega)]
def textD (a : Tree) : Str × Int:=if soundB a=true then outD (putT (Pt.toks a)) else ([],2)
theorem putT_len {n : Nat} {l : List Ps.Tk} (h : Pt.AllV n l) : (putT l).length ≤ 4200 * n:=by
 have h1 : ∀ t,Pt.TkV t→(putS (Pt.txt t)).length ≤ 4200:=fun t ht=>by
  have h2 : (Pt.txt t).length ≤ 4100:=by
   rcases ht with ⟨a,b,_⟩ | ⟨a,b,c,d⟩ | ⟨a,b,_⟩ | ⟨a,b,_⟩ | ⟨a,b,_⟩
   ·obtain ⟨_,_,_,_,_,h64,_⟩:=Pt.name_head b
    unfold Pt.txt;rw [if_neg (by omega),if_neg (by omega)];omega
   ·unfold Pt.txt;rw [if_pos a]
    have : ∀ (f n : Nat),(Pt.digF f n).length ≤ f:=by
     intro f
     induction f with
     | zero=>intro n;simp [Pt.digF]
     | succ f ih =>
      intro n
      unfold Pt.digF
      split
      ·simp
      ·have:=ih (n / 10)
       simp
       omega
    have:=this 20 t.num.toNat
    unfold Pt.digN;omega
   ·unfold Pt.txt;rw [if_neg (by omega),if_pos a,quoteD_len]
    have:=quoteB_len t.text
    omega
   ·have : ∀ m ∈ markL,m.length ≤ 2:=by decide
    have:=this _ b
    unfold Pt.txt;rw [if_neg (by omega),if_neg (by omega)];omega
   ·have : ∀ m ∈ wordL,m.length ≤ 20:=by decide
    have:=this _ b
    unfold Pt.txt;rw [if_neg (by omega),if_neg (by omega)];omega
  unfold putS;simp;omega
 have h3 : ∀ l : List Ps.Tk,(∀ t ∈ l,Pt.TkV t)→(putT l).length ≤ 4200 * l.length:=by
  intro l
  induction l with
  | nil=>intro _;simp [putT_nil]
  | cons t l ih =>
   intro hl
   rw [putT_cons,List.length_append]
   have:=ih fun x hx=>hl x (by simp [hx])
   have:=h1 t (hl t (by simp))
   simp only [List.length_cons];omega
 have:=h3 l h.v
 have:=h.len
 omega
theorem flat_le (ks : List Tree) (i : Nat) : (putT ((ks.take i).map Pt.toks).flatten).length ≤ (putT (ks.map Pt.toks).flatten).length:=by
 conv=>rhs;rw [← List.take_append_drop i ks]
 rw [List.map_append,List.flatten_append,putT_app,List.length_append];omega
set_option maxHeartbeats 1600000 in
theorem Text_law (m : Mem) (L : List Item) (a : Tree) (h : HTree) (hT : Tb m) (hr : TreeRep m h a) (hB0 : a.wide ≤ 140737488355328) (hnum : Pt.numB2 a=true) :
  TCall Tryz.prog 16 ⟨[treeV h]⟩ m L (Made m L fun r _=>r = .tuple ⟨[strV (textD a).1, .int .i64 (textD a).2]⟩):=by
 have hr':=hr
 unfold TCall
 refine TCallX.enter Tryz.func16 rfl 27 rfl ?_
 repeat (first|refine q1 ?_|refine q3 ?_)
 refine TO.step rfl (OT.box rfl rfl rfl rfl rfl (fun b => ?_))
 repeat (first|(first|refine q1 ?_|refine q3 ?_|refine q4 tab rfl rfl ?_|refine q5 ?_|refine q6 ?_)|(refine qs rfl (qz tab 0 rfl rfl rfl rfl rfl rfl ?_)))
 refine TO.step rfl (OT.call rfl rfl rfl rfl rfl rfl goes18 ((sound_law a _ _ h hr' hB0).x ?_));
 rintro _ _ _ ⟨rfl,rfl,rfl⟩
 repeat (first|refine q4 tab rfl rfl ?_|refine q5 ?_|refine q6 ?_)
 refine TC.cond (t := !soundB a) rfl (fun hs => ?_) (fun hs => ?_)
 ·repeat (first|refine q1 ?_|refine q3 ?_|refine q4 tab rfl rfl ?_|refine q5 ?_|refine q6 ?_|refine q8 ?_|refine q15 ?_)
  refine retQ_ret rfl (by repeat (first|exact List.Sublist.refl _|refine List.Sublist.cons _ ?_)) ⟨Mem.le_refl _,rfl, ?_⟩
  rw [textD,if_neg (by simpa using hs)]
 ·have hs' : soundB a=true:=by simpa using hs
  obtain ⟨ds,rfl,g1,g2,g3⟩:=Pt.soundB_f hs'
  have hv:=Pt.v_prog hnum hs'
  have hlen0 : (putT (ds.map Pt.toks).flatten).length ≤ 140737488355328:=by
   have:=putT_len hv
   have:=size_kids (.mk 1 [] 0 ds)
   simp only [Tree.kids] at this
   omega
  have et : Pt.toks (.mk 1 [] 0 ds)=(ds.map Pt.toks).flatten:=by rw [Pt.toks_eq];rfl
  obtain ⟨h1,h2,h3,h4⟩:=hr
  have hlen:=h4.len
  have hsm:=h4.small rfl
  have hm:=Mem.le_refl m
  have hTm : TbM Tb m:=⟨fun h=>tbOk.mono hT h⟩
  repeat (first|refine q1 ?_|refine q3 ?_|refine q4 tab rfl rfl ?_|refine q6 ?_|refine q13 ?_)
  refine TO.step rfl (OT.boxT rfl rfl rfl rfl rfl (fun bd ma hma hty => ?_))
  refine TO.grow0 (size:=1) ?_
  refine TO.perm (List.Perm.swap _ _ _) ?_
  have hB : BOk ma bd none ⟨none,0,0⟩ []:=⟨⟨_,hty,by kernel_rfl⟩, .inl rfl,SlRep.nil _ _,Own.nil,fun b o e=>(by cases e),fun _=>rfl⟩
  replace hm:=Mem.le_trans hm hma
  repeat (first|refine q1 ?_|refine q3 ?_|refine q4 tab rfl rfl ?_|refine q5 ?_|refine q6 ?_)
  refine TO.step rfl (OT.loadL tab 2 rfl rfl rfl rfl rfl rfl ?_)
  repeat (first|refine q2 ?_|refine q4 tab rfl rfl ?_|refine q5 ?_|refine q6 ?_)
  refine TC.loopK (ι:=PS) [1,4,13,14] rfl (fun g=>[(15, .int .i64 (g.i : Int))]) (fun g=>g.m) (fun g=>bdL bd g.q g.s (.cells b 0 (treeC h) :: L)) (fun g=>m ≤ g.m∧g.i ≤ ds.length∧BOk g.m bd g.q g.s (putT ((ds.take g.i).map Pt.toks).flatten)) (fun g=>ds.length - g.i) ⟨ma,none,⟨none,0,0⟩,0⟩ (by repeat (first|exact trivial|refine And.intro rfl ?_)) rfl (by repeat (exact List.Sublist.refl _)) ⟨hm,Nat.zero_le _,hB.cast (by simp [putT_nil])⟩ ?_
  rintro ⟨m1,q,s,i⟩ ⟨hm,hi,hB⟩
  simp only at hm hi hB
  simp only [Tree.kids] at hlen hsm
  repeat (first|refine q1 ?_|refine q3 ?_|refine q4 tab rfl rfl ?_|refine q5 ?_|refine q6 ?_)
  refine TC.condP rfl (fun h5 => ?_) (fun h5 => ?_)
  ·simp only at h5
   have hlt : i < ds.length:=by omega
   have hxi : ds[i]? = some ds[i]:=List.getElem?_eq_getElem hlt
   have hc:=flat_next ds i hlt
   have hle:=flat_le ds (i + 1)
   rw [hc,putT_app,List.length_append] at hle
   have h4c:=h4.mono hm
   repeat (first|refine q1 ?_|refine q2 ?_|refine q3 ?_|refine q6 ?_|refine q13 ?_)
   refine TO.step rfl (OT.index tab rTree i h4c rfl rfl rfl rfl rfl (by first | rfl | omega | (simp only;omega)) rfl hxi ?_)
   rintro b7 i7 h7 hr7 hA7
   (refine TO.step rfl (OT.loadA0 tab hA7 rfl rfl rfl rfl rfl ?_))
   refine TO.step rfl (OT.alloc tab rfl rfl rfl rfl (fun b5 => ?_))
   skip
   (refine TO.step rfl (OT.storeL0 tab 0 rfl rfl rfl rfl rfl rfl rfl rfl ?_))
   refine TO.perm pq3 ?_
   repeat (first|refine q3 ?_|refine q4 tab rfl rfl ?_|refine q5 ?_|refine q6 ?_)
   (refine qs rfl (qz tab 2 rfl rfl rfl rfl rfl rfl ?_))
   skip
   refine TO.step rfl (OT.call rfl rfl rfl rfl rfl rfl goes37 ((decl_w tbOk itoa_law ds[i] (Pt.num_kid hnum (List.getElem_mem hlt)) (g3 _ (List.getElem_mem hlt)) _ _ bd q s _ h7 (hTm.mono hm) hB (rTree_iff.1 hr7) (by omega)).x ?_));
   rintro _ m2 _ ⟨hm2,s,q,rfl,hB⟩
   repeat (first|refine q3 ?_|refine q5 ?_|refine q6 ?_|refine q7 ?_)
   refine TO.step rfl (OT.arith (r':=((i + 1 : Nat) : Int)) rfl rfl rfl rfl rfl rfl rfl (by omega) ?_)
   repeat (first|refine q4 tab rfl rfl ?_|refine q5 ?_|refine q6 ?_)
   refine ⟨⟨m2,q,s,i + 1⟩,(by repeat (first|exact trivial|refine And.intro rfl ?_)),(by repeat (first|exact trivial|refine And.intro rfl ?_)),rfl,rfl,(by repeat (first|exact List.Sublist.refl _|refine List.Sublist.cons_cons _ ?_|refine List.Sublist.cons _ ?_)),⟨Mem.le_trans hm hm2,by simp only;omega,hB.cast ?_⟩,by simp only;omega⟩
   rw [hc,putT_app]
  ·simp only at h5
   rw [List.take_of_length_le (by omega)] at hB
   repeat (first|refine q1 ?_|refine q3 ?_|refine q4 tab rfl rfl ?_|refine q6 ?_|refine q10 ?_|refine q11 ?_|refine q14 ?_)
   refine TO.step rfl (OT.call rfl rfl rfl rfl rfl rfl goes38 ((text_w _ _ bd q s _ hB hlen0).x ?_));
   rintro _ _ _ ⟨rfl,rfl,rfl⟩
   repeat (first|refine q4 tab rfl rfl ?_|refine q5 ?_|refine q6 ?_|refine q15 ?_)
   refine retQ_ret rfl (by repeat (first|exact List.Sublist.refl _|refine List.Sublist.cons _ ?_)) ⟨hm,rfl, ?_⟩
   rw [textD,if_pos hs',et]
end Go.Sep


/- PsRec -/
set_option linter.unusedVariables false
set_option linter.unusedSimpArgs false
namespace Go.Sep
open Go.Proofs
attribute [local irreducible] TC TO OT TCallX TCall DO DOt thenQ blockQ retQ At
theorem start_ok {P : Program} {vs : List Value} {m : Mem} {L : List Item} {w : World} {n N : Nat} (hN : N ≤ n) (hs : St m w L) : Ok N (argEnv vs 0) [] m L { tmps:=⟨vs⟩ ++ Array.replicate (n - (⟨vs⟩ : Array Value).size) undef,defers:=[] } w:=by
 refine ⟨?_, ?_,rfl,hs⟩
 ·simp
  omega
 ·intro i v hv
  have:=(look_argEnv vs 0 i v hv).2
  have hi : i < vs.length:=by have:=(List.getElem?_eq_some_iff.1 this).1;simpa using this
  have h2 : vs[i]? = some v:=by simpa using this
  rw [Array.getElem?_append_left (by simpa using hi)]
  simpa using h2
theorem rec_idle (a b c : Nat) (m : Mem) (L : List Item) (w : World) (hs : St m w L) :
  CallsD Tryz.prog 30 ⟨[.pointer (some ⟨a,0,none⟩), .pointer (some ⟨b,0,none⟩), .pointer (some ⟨c,0,none⟩)]⟩ .returning w fun e u' w' => ∃ v,e = .returned v∧u' = .returning∧St m w' L:=by
 refine callsD_of_wpS Tryz.func30 rfl fun c₀ cs hu => ?_
 have h0:=start_ok (P:=Tryz.prog) (vs:=[.pointer (some ⟨a,0,none⟩), .pointer (some ⟨b,0,none⟩), .pointer (some ⟨c,0,none⟩)]) (n:=20) (N:=20) (Nat.le_refl _) hs
 have hrp : recPair (c₀ :: cs)=(.nilIface,c₀ :: cs):=by simp [recPair,recoverD,hu]
 have hc : ({ c₀ with mode := .returning } : Frame)=c₀:=by rw [← hu]
 apply wpS_seq
 refine wpS_rec (d0:=6) (d1:=3) rfl rfl rfl rfl rfl rfl (Nat.lt_of_lt_of_le (by decide : 6 < 20) h0.size) ?_
 rw [hrp]
 show Code.wpS _ _ _ _ _ _
 rw [← hc]
 refine wpS_TC (R:=Ret (.tuple ⟨[]⟩) m L) ?_ ((h0.put (d:=6) rfl .nilIface).put (d:=3) rfl .nilIface) ?_
 ·repeat (first|refine q1 ?_|refine q3 ?_|refine q4 tab rfl rfl ?_)
  refine TO.step rfl (OT.errNe tab rfl rfl rfl rfl (.inl rfl) rfl rfl ?_)
  repeat (first|refine q5 ?_|refine q6 ?_|refine q13 ?_|refine q17 rfl ?_)
  refine retQ_n rfl (by repeat (exact List.Sublist.refl _)) ⟨rfl,rfl,rfl⟩
 ·rintro v m' L' w' ⟨rfl,rfl,rfl⟩ hst
  exact ⟨_,rfl,rfl,hst⟩
theorem rec_fault (a b c : Nat) (m : Mem) (L : List Item) (w : World) (x : Int) (va vb vc : List Value) (ha : va.length=4) (hb : vb.length=1) (hcl : vc.length=1) (hs : St m w (.cells a 0 va :: .cells b 0 vb :: .cells c 0 vc :: L)) :
  CallsD Tryz.prog 30 ⟨[.pointer (some ⟨a,0,none⟩), .pointer (some ⟨b,0,none⟩), .pointer (some ⟨c,0,none⟩)]⟩ (.panicking [{ v := .iface 53 (.agg ⟨[.int .i64 x]⟩),recovered:=false }]) w fun e u' w' =>
   ∃ v,e = .returned v∧u' = .panicking [{ v := .iface 53 (.agg ⟨[.int .i64 x]⟩),recovered:=true }]∧St m w' (.cells a 0 [.int .i64 0,strV [], .int .i64 0, .slice none 0 0] :: .cells b 0 [.int .i64 x] :: .cells c 0 [.int .i64 3] :: L):=by
 refine callsD_of_wpS Tryz.func30 rfl fun c₀ cs hu => ?_
 have h0:=start_ok (P:=Tryz.prog) (vs:=[.pointer (some ⟨a,0,none⟩), .pointer (some ⟨b,0,none⟩), .pointer (some ⟨c,0,none⟩)]) (n:=20) (N:=20) (Nat.le_refl _) hs
 have hrp : recPair (c₀ :: cs)=(.iface 53 (.agg ⟨[.int .i64 x]⟩),{ c₀ with mode := .panicking [{ v := .iface 53 (.agg ⟨[.int .i64 x]⟩),recovered:=true }] } :: cs):=by simp [recPair,recoverD,hu]
 apply wpS_seq
 refine wpS_rec (d0:=6) (d1:=3) rfl rfl rfl rfl rfl rfl (Nat.lt_of_lt_of_le (by decide : 6 < 20) h0.size) ?_
 rw [hrp]
 show Code.wpS _ _ _ _ _ _
 obtain ⟨v0,v1,v2,v3,rfl⟩ : ∃ v0 v1 v2 v3,va=[v0,v1,v2,v3]:=by
  match va,ha with
  | [v0,v1,v2,v3],_=>exact ⟨_,_,_,_,rfl⟩
 obtain ⟨vb,rfl⟩:=List.length_eq_one_iff.1 hb
 obtain ⟨vc,rfl⟩:=List.length_eq_one_iff.1 hcl
 refine wpS_TC (R:=fun r m' L'=>r = .tuple ⟨[]⟩ ∧ m' = m∧L' = .cells a 0 [.int .i64 0,strV [], .int .i64 0, .slice none 0 0] :: .cells b 0 [.int .i64 x] :: .cells c 0 [.int .i64 3] :: L) ?_ ((h0.put (d:=6) rfl _).put (d:=3) rfl _) ?_
 ·repeat (first|refine q1 ?_|refine q3 ?_|refine q4 tab rfl rfl ?_)
  refine TO.step rfl (OT.errNe tab rfl rfl rfl rfl (.inr ⟨_,_,rfl⟩) rfl rfl ?_)
  repeat (first|refine q1 ?_|refine q3 ?_|refine q4 tab rfl rfl ?_|refine q5 ?_|refine q6 ?_|refine q16 rfl ?_)
  refine TO.step rfl (OT.assertOk tab rfl rfl rfl rfl rfl ?_)
  repeat (refine q4 tab rfl rfl ?_)
  refine TO.step rfl (OT.alloc tab rfl rfl rfl rfl (fun b4 => ?_))
  skip
  (refine TO.step rfl (OT.storeL0 tab 0 rfl rfl rfl rfl rfl rfl rfl rfl ?_))
  repeat (first|refine q1 ?_|refine q3 ?_|refine q4 tab rfl rfl ?_|refine q5 ?_|refine q6 ?_|refine q13 ?_|refine q17 rfl ?_)
  refine TC.draw [] mixed 6 rfl [] (.cells b4 0 [.int .i64 x] :: .cells a 0 [v0,v1,v2,v3] :: .cells b 0 [vb] :: .cells c 0 [vc] :: L) (List.Perm.refl _) ?_
  refine DO.pure tab (by repeat (exact Calm.ret)) (by kernel_rfl) [0,1] (by kernel_rfl) rfl ?_
  refine DO.fork 2 [3] (by kernel_rfl) ⟨⟨_,rfl,rfl,rfl, ?_⟩,⟨_,rfl,rfl,rfl, ?_⟩,trivial⟩
  ·refine OT.loadL0 tab 0 rfl rfl rfl rfl rfl rfl ?_
   refine ⟨Mem.le_refl _,_,List.Perm.refl _, ?_⟩
   refine DO.run 3 rfl rfl (by kernel_rfl) rfl ?_
   refine OT.storeL0 tab 1 rfl rfl rfl rfl rfl rfl rfl rfl ?_
   refine ⟨Mem.le_refl _,_,List.Perm.refl _, ?_⟩
   refine DO.run 4 rfl rfl (by kernel_rfl) rfl ?_
   refine OT.storeL0 tab 2 rfl rfl rfl rfl rfl rfl rfl rfl ?_
   refine ⟨Mem.le_refl _,_,List.Perm.refl _, ?_⟩
   refine DO.run 5 rfl rfl (by kernel_rfl) rfl ?_
   refine OT.storeL0 tab 3 rfl rfl rfl rfl rfl rfl rfl rfl ?_
   refine ⟨Mem.le_refl _,_,List.Perm.refl _, ?_⟩
   refine DO.nil (by kernel_rfl) ?_
   refine retQ_n rfl (L' := .cells a 0 [.int .i64 0,strV [], .int .i64 0, .slice none 0 0] :: .cells b 0 [.int .i64 x] :: .cells c 0 [.int .i64 3] :: L) (by repeat (first|exact List.Sublist.refl _|refine List.Sublist.cons _ ?_)) ⟨rfl,rfl,rfl⟩
  ·refine OT.storeL0 tab 1 rfl rfl rfl rfl rfl rfl rfl rfl ?_
   refine ⟨Mem.le_refl _,_,List.Perm.refl _, ?_⟩
   refine DO.run 2 rfl rfl (by kernel_rfl) rfl ?_
   refine OT.loadL0 tab 0 rfl rfl rfl rfl rfl rfl ?_
   refine ⟨Mem.le_refl _,_,List.Perm.refl _, ?_⟩
   refine DO.run 4 rfl rfl (by kernel_rfl) rfl ?_
   refine OT.storeL0 tab 2 rfl rfl rfl rfl rfl rfl rfl rfl ?_
   refine ⟨Mem.le_refl _,_,List.Perm.refl _, ?_⟩
   refine DO.run 5 rfl rfl (by kernel_rfl) rfl ?_
   refine OT.storeL0 tab 3 rfl rfl rfl rfl rfl rfl rfl rfl ?_
   refine ⟨Mem.le_refl _,_,List.Perm.refl _, ?_⟩
   refine DO.nil (by kernel_rfl) ?_
   refine retQ_n rfl (L' := .cells a 0 [.int .i64 0,strV [], .int .i64 0, .slice none 0 0] :: .cells b 0 [.int .i64 x] :: .cells c 0 [.int .i64 3] :: L) (by repeat (first|exact List.Sublist.refl _|refine List.Sublist.cons _ ?_)) ⟨rfl,rfl,rfl⟩
 ·rintro v m' L' w' ⟨rfl,rfl,rfl⟩ hst
  exact ⟨_,rfl,rfl,hst⟩
end Go.Sep


/- PsParse -/
set_option linter.unusedVariables false
set_option linter.unusedSimpArgs false
namespace Go.Sep
open Go.Proofs
attribute [local irreducible] TC TO OT TCallX TCall DO DOt thenQ blockQ retQ At
def ParseE (a : PA) (m : Mem) (L : List Item) : Ending→World→Prop
 | .returned v,w' => ∃ m' L',St m' w' L' ∧ Made m L (ParseR a) v m' L'
 | .panicked _,_=>False
 | .outgrown,_=>False
theorem parseE_end {P : Program} {fn : Func} {a : PA} {m m' : Mem} {L : List Item} {ρ : Env} {tmps : Array Value} {w : World} {b2 b3 b4 : Nat} {x : HTree} {L' : List Item} (T : Tab P) {t2 t3 t4 : TypeId}
  (hres : fn.results = ⟨[.cell 2 t2, .cell 3 t3, .cell 4 t4]⟩) (hA : ∀ i v,look ρ i=some v→tmps[i]? = some v) (h2 : look ρ 2=some (.pointer (some ⟨b2,0,none⟩))) (h3 : look ρ 3=some (.pointer (some ⟨b3,0,none⟩))) (h4 : look ρ 4=some (.pointer (some ⟨b4,0,none⟩)))
  (l2 : T.load t2 (treeC x) 0=some (treeV x)) (l3 : T.load t3 [.int .i64 a.at_] 0=some (.int .i64 a.at_)) (l4 : T.load t4 [.int .i64 a.e] 0=some (.int .i64 a.e))
  (hst : St m' w (.cells b2 0 (treeC x) :: .cells b3 0 [.int .i64 a.at_] :: .cells b4 0 [.int .i64 a.e] :: L')) (hsub : L.Sublist L') (hm : m ≤ m') (hr : TreeRep m' x a.tree) : Leaves P fn tmps (ParseE a m L) [] .returning w:=by
 refine ⟨.tuple ⟨[treeV x, .int .i64 a.at_, .int .i64 a.e]⟩, ?_,m',L,hst.sub ?_,hm,rfl,x,rfl,hr⟩
 ·have g2:=run_loadVar (P:=P) T (k:=0) (hst.cells (i:=0) rfl) l2
  have g3:=run_loadVar (P:=P) T (k:=0) (hst.cells (i:=1) rfl) l3
  have g4:=run_loadVar (P:=P) T (k:=0) (hst.cells (i:=2) rfl) l4
  have e2:=hA 2 _ h2
  have e3:=hA 3 _ h3
  have e4:=hA 4 _ h4
  unfold results
  rw [hres,Array.mapM_eq_mapM_toList]
  simp [Sem.run_bind,Sem.run_map,e2,e3,e4,asAddr,g2,g3,g4]
 ·exact List.Sublist.cons _ (List.Sublist.cons _ (List.Sublist.cons _ hsub))
set_option maxHeartbeats 2000000 in
theorem parse_law (hout : ∀ l : List Tok,Ps.program l.length (tkF l) 0 ≠ .out) (m : Mem) (L : List Item) (s : Str) (hE : Errs m) : TCall Tryz.prog 11 ⟨[strV s]⟩ m L (Made m L (ParseR (parseD s))):=by
 have key : ∀ w,St m w L→Calls Tryz.prog 11 ⟨[strV s]⟩ w (ParseE (parseD s) m L):=by
  intro w hst
  have hll:=scanD_len s
  refine calls_enterD Tryz.func11 rfl 31 rfl hst ?_
  repeat (first|refine q1 ?_|refine q3 ?_)
  refine TO.step rfl (OT.alloc tab rfl rfl rfl rfl (fun b2 => ?_))
  refine TO.step rfl (OT.alloc tab rfl rfl rfl rfl (fun b3 => ?_))
  refine TO.step rfl (OT.alloc tab rfl rfl rfl rfl (fun b4 => ?_))
  repeat (first|refine q1 ?_|refine q3 ?_|refine q4 tab rfl rfl ?_|refine q5 ?_|refine q6 ?_)
  refine TO.step rfl (OT.call rfl rfl rfl rfl rfl rfl goes29 ((scan_law _ _ s hE).x ?_));
  rintro _ m1 _ ⟨hm1,rfl,sl,rfl,hsl⟩
  repeat (refine q4 tab rfl rfl ?_)
  refine TO.step rfl (OT.storeL0 tab 1 rfl rfl rfl rfl rfl rfl rfl rfl ?_)
  skip
  refine TO.step rfl (OT.storeL0 tab 0 rfl rfl rfl rfl rfl rfl rfl rfl ?_)
  repeat (first|refine q1 ?_|refine q3 ?_|refine q5 ?_|refine q6 ?_)
  (refine qs rfl (qz tab 0 rfl rfl rfl rfl rfl rfl ?_))
  repeat (first|refine q4 tab rfl rfl ?_|refine q5 ?_|refine q6 ?_)
  refine TC.condN rfl (fun he => ?_) (fun he => ?_)
  ·have hD : parseD s = ⟨emptyT,((scanD s).at_ : Int),(scanD s).e⟩:=by rw [parseD,if_neg he]
   refine TC.quiet ?_
   refine TC.draw [5] mixed 6 rfl [.cells b4 0 [.int .i64 (scanD s).e]] (.cells b3 0 [.int .i64 ((scanD s).at_ : Int)] :: .cells b2 0 [.int .i64 0,strV [], .int .i64 0, .slice none 0 0] :: L) (List.Perm.refl _) ?_
   refine DO.pure tab (by repeat (exact Calm.quiet)) (by kernel_rfl) [0] (by kernel_rfl) rfl ?_
   refine DO.loadL (k:=0) tab 2 0 (by repeat (exact Calm.quiet)) (by kernel_rfl) (by kernel_rfl) rfl rfl rfl rfl rfl rfl rfl rfl ?_
   refine DO.fork 1 [3] (by kernel_rfl) ⟨⟨_,rfl,rfl,rfl, ?_⟩,⟨_,rfl,rfl,rfl, ?_⟩,trivial⟩
   ·refine OT.loadL0 tab 1 rfl rfl rfl rfl rfl rfl ?_
    refine ⟨Mem.le_refl _,_,List.Perm.refl _, ?_⟩
    refine DO.run 3 rfl rfl (by kernel_rfl) rfl ?_
    refine OT.storeL0 tab 2 rfl rfl rfl rfl rfl rfl rfl rfl ?_
    refine ⟨Mem.le_refl _,_,List.Perm.refl _, ?_⟩
    refine DO.run 4 rfl rfl (by kernel_rfl) rfl ?_
    refine OT.storeL0 tab 1 rfl rfl rfl rfl rfl rfl rfl rfl ?_
    refine ⟨Mem.le_refl _,_,List.Perm.refl _, ?_⟩
    refine DO.tail ?_
    refine DOt.run 5 rfl rfl (by kernel_rfl) rfl ?_
    refine OT.storeL0 tab 0 rfl rfl rfl rfl rfl rfl rfl rfl ?_
    refine DOt.nil (by kernel_rfl) ?_
    refine TC.ret ?_
    refine thenQ_r ?_
    intro tmps w' hA hst'
    rw [hD]
    exact parseE_end (x:=⟨0,[],0,⟨none,0,0⟩⟩) (L':=L) tab rfl hA rfl rfl rfl rfl rfl rfl (hst'.perm (List.Perm.trans pfr2 (List.Perm.cons _ pfr1))) (List.Sublist.refl _) hm1 (emptyT_rep _)
   ·refine OT.storeL0 tab 2 rfl rfl rfl rfl rfl rfl rfl rfl ?_
    refine ⟨Mem.le_refl _,_,List.Perm.refl _, ?_⟩
    refine DO.run 1 rfl rfl (by kernel_rfl) rfl ?_
    refine OT.loadL0 tab 1 rfl rfl rfl rfl rfl rfl ?_
    refine ⟨Mem.le_refl _,_,List.Perm.refl _, ?_⟩
    refine DO.run 4 rfl rfl (by kernel_rfl) rfl ?_
    refine OT.storeL0 tab 1 rfl rfl rfl rfl rfl rfl rfl rfl ?_
    refine ⟨Mem.le_refl _,_,List.Perm.refl _, ?_⟩
    refine DO.tail ?_
    refine DOt.run 5 rfl rfl (by kernel_rfl) rfl ?_
    refine OT.storeL0 tab 0 rfl rfl rfl rfl rfl rfl rfl rfl ?_
    refine DOt.nil (by kernel_rfl) ?_
    refine TC.ret ?_
    refine thenQ_r ?_
    intro tmps w' hA hst'
    rw [hD]
    exact parseE_end (x:=⟨0,[],0,⟨none,0,0⟩⟩) (L':=L) tab rfl hA rfl rfl rfl rfl rfl rfl (hst'.perm (List.Perm.trans pfr2 (List.Perm.cons _ pfr1))) (List.Sublist.refl _) hm1 (emptyT_rep _)
  ·have hD : parseD s=parseL s (scanD s).list:=by rw [parseD,if_pos he]
   rw [hD]
   generalize (scanD s).list=l at hsl hll
   repeat (first|refine q1 ?_|refine q3 ?_|refine q4 tab rfl rfl ?_|refine q6 ?_|refine q13 ?_)
   refine TO.step rfl (OT.box rfl rfl rfl rfl rfl (fun bp => ?_))
   repeat (first|refine q1 ?_|refine q3 ?_|refine q4 tab rfl rfl ?_|refine q5 ?_|refine q6 ?_)
   refine TO.defer rfl rfl rfl rfl rfl ?_
   repeat (first|refine q1 ?_|refine q3 ?_|refine q4 tab rfl rfl ?_|refine q5 ?_|refine q6 ?_)
   have hEk : (⟨s,sl,l,bp,l.length + 1⟩ : PE).Ok m1:=⟨hsl,hll,by show l.length + 1 ≤ _;omega,by show 1 ≤ l.length + 1;omega⟩
   have hG:=gw (mb:=m1) (E:=⟨s,sl,l,bp,l.length + 1⟩) (3 * l.length + 4)
   have hP:=program_par (decl_par (hG.typ 0) (hG.block 0)) m1 (.cells b4 0 [.int .i64 (scanD s).e] :: .cells b3 0 [.int .i64 ((scanD s).at_ : Int)] :: .cells b2 0 [.int .i64 0,strV [], .int .i64 0, .slice none 0 0] :: L) 0 (Mem.le_refl _) hEk (Nat.zero_le _)
   have hpe : Ps.program l.length (tkF l) 0=Ps.progL (Ps.declP (l.length + 1) (Ps.gr (l.length + 1) (3 * l.length + 4)).typ (Ps.gr (l.length + 1) (3 * l.length + 4)).block) (l.length + 1) (PE.f ⟨s,sl,l,bp,l.length + 1⟩) 0:=rfl
   have hn:=hout l
   rw [hpe] at hn
   refine TO.step rfl (OT.call rfl rfl rfl rfl rfl rfl goes31 (TCallX.mono (hP ?_) ?_ ?_))
   ·intro hb
    unfold Ps.bind at hb
    split at hb
    ·cases hb
    ·cases hb
    ·rename_i he'
     exact hn he'
   ·rintro v m2 L2 ⟨a,k',xs,h1,hm2,hk',⟨x,rfl,rfl,hrx⟩,rfl⟩
    obtain ⟨ds,hds,rfl⟩ : ∃ ds,Ps.program l.length (tkF l) 0 = .ok ds k' ∧ a = .mk 1 [] 0 ds:=by
     rw [hpe]
     unfold Ps.bind at h1
     split at h1
     ·rename_i ds k'' he'
      injection h1 with h1 h2
      subst h2
      exact ⟨ds,he',h1.symm⟩
     ·cases h1
     ·cases h1
    replace hm1:=Mem.le_trans hm1 hm2
    skip
    refine TO.step rfl (OT.storeL0 tab 3 rfl rfl rfl rfl rfl rfl rfl rfl ?_)
    repeat (first|refine q1 ?_|refine q3 ?_|refine q5 ?_|refine q6 ?_)
    refine TO.step rfl (OT.alloc tab rfl rfl rfl rfl (fun bl => ?_))
    skip
    (refine TO.step rfl (OT.storeL0 tab 0 rfl rfl rfl rfl rfl rfl rfl rfl ?_))
    repeat (first|refine q1 ?_|refine q3 ?_|refine q5 ?_|refine q6 ?_)
    refine TO.step rfl (OT.loadL0 tab 4 rfl rfl rfl rfl rfl rfl ?_)
    skip
    refine TO.step rfl (OT.call rfl rfl rfl rfl rfl rfl goes32 ((fits_law (.mk 1 [] 0 ds) m2 _ x bl 1 20000 hrx (by decide) (by decide) (by decide) (by decide)).x ?_));
    rintro _ _ _ ⟨rfl,⟨rfl,k1,k2,rfl⟩ | ⟨rfl,k1,n,rfl⟩⟩
    ·have hA2 : parseL s l = ⟨.mk 1 [] 0 ds,0,0⟩:=by
      rw [parseL,hds]
      exact if_pos ⟨by omega,by omega⟩
     repeat (first|refine q1 ?_|refine q3 ?_|refine q4 tab rfl rfl ?_|refine q5 ?_|refine q6 ?_|refine q13 ?_|refine q17 rfl ?_)
     refine TO.step rfl (OT.loadL0 tab 4 rfl rfl rfl rfl rfl rfl ?_)
     skip
     refine TO.step rfl (OT.storeL0 tab 4 rfl rfl rfl rfl rfl rfl rfl rfl ?_)
     refine TO.step rfl (OT.storeL0 tab 3 rfl rfl rfl rfl rfl rfl rfl rfl ?_)
     refine TO.step rfl (OT.storeL0 tab 2 rfl rfl rfl rfl rfl rfl rfl rfl ?_)
     refine TO.nil ?_
     refine thenQ_n ?_
     refine TC.ret ?_
     intro tmps w' hA hst'
     rw [hA2]
     refine leaves_cons (by simp) (invoke_goes goes30) ?_
     refine (rec_idle b2 b3 b4 _ _ w' hst').mono ?_
     rintro e u' w2 ⟨v,rfl,rfl,hst2⟩
     exact parseE_end (x:=x) tab rfl hA rfl rfl rfl rfl rfl rfl (hst2.perm (List.Perm.trans pfr4 (List.Perm.cons _ (List.Perm.trans pfr3 (List.Perm.cons _ pfr2))))) (List.Sublist.cons _ (List.Sublist.cons _ (List.Sublist.refl _))) hm1 hrx
    ·have hA2 : parseL s l = ⟨emptyT,0,4⟩:=by
      rw [parseL,hds]
      exact if_neg fun h=>k1 ⟨by omega,by omega⟩
     repeat (first|refine q1 ?_|refine q3 ?_|refine q4 tab rfl rfl ?_|refine q5 ?_|refine q6 ?_|refine q16 rfl ?_)
     refine TO.step rfl (OT.storeL0 tab 4 rfl rfl rfl rfl rfl rfl rfl rfl ?_)
     refine TO.step rfl (OT.storeL0 tab 3 rfl rfl rfl rfl rfl rfl rfl rfl ?_)
     refine TO.step rfl (OT.storeL0 tab 2 rfl rfl rfl rfl rfl rfl rfl rfl ?_)
     refine TO.nil ?_
     refine thenQ_n ?_
     refine TC.ret ?_
     refine thenQ_r ?_
     intro tmps w' hA hst'
     rw [hA2]
     refine leaves_cons (by simp) (invoke_goes goes30) ?_
     refine (rec_idle b2 b3 b4 _ _ w' hst').mono ?_
     rintro e u' w2 ⟨v,rfl,rfl,hst2⟩
     exact parseE_end (x:=⟨0,[],0,⟨none,0,0⟩⟩) tab rfl hA rfl rfl rfl rfl rfl rfl (hst2.perm (List.Perm.trans pfr4 (List.Perm.cons _ (List.Perm.trans pfr3 (List.Perm.cons _ pfr2))))) (List.Sublist.cons _ (List.Sublist.cons _ (List.Sublist.refl _))) hm1 (emptyT_rep _)
   ·rintro ch m2 L2 ⟨k',h',h1,hm2,hk',rfl,rfl⟩
    have hA2 : parseL s l = ⟨emptyT,placeD s l k',3⟩:=by
     have : Ps.program l.length (tkF l) 0 = .bad k':=by
      rw [hpe]
      unfold Ps.bind at h1
      split at h1
      ·cases h1
      ·rename_i he'
       injection h1 with h1
       rw [← h1];exact he'
      ·cases h1
     rw [parseL,this]
    replace hm1:=Mem.le_trans hm1 hm2
    repeat (refine thenQ_p ?_)
    intro tmps w' hA hst'
    rw [hA2]
    refine leaves_cons (by simp) (invoke_goes goes30) ?_
    refine (rec_fault b2 b3 b4 m2 _ w' (placeD s l k') _ _ _ rfl rfl rfl (hst'.perm (List.Perm.trans pfr3 (List.Perm.cons _ (List.Perm.trans pfr2 (List.Perm.cons _ pfr1)))))).mono ?_
    rintro e u' w2 ⟨v,rfl,rfl,hst2⟩
    exact parseE_end (x:=⟨0,[],0,⟨none,0,0⟩⟩) tab rfl hA rfl rfl rfl rfl rfl rfl hst2 (List.Sublist.cons _ (List.Sublist.refl _)) hm1 (emptyT_rep _)
 unfold TCall TCallX
 intro w hst
 refine (key w hst).mono fun e w' he => ?_
 cases e with
 | returned v=>exact he
 | panicked ch=>exact he.elim
 | outgrown=>exact he
end Go.Sep


/- PsGood2 -/
set_option linter.unusedVariables false
set_option linter.unusedSimpArgs false
namespace Go.Ps
open Go.Sep (Tree Str)
variable {α β : Type}
theorem Good.bret {p : Pp α} {g : α → β} (hp : Good p) : Good (Ps.bind p fun a=>Ps.ret (g a)):=hp.bind fun _=>Good.ret _
theorem Takes.bind {q : F→Nat→Bool} {p : Pp α} {g : α → Pp β} (hp : Takes q p) (hg : ∀ a,Good (g a)) : Takes q (Ps.bind p g):=fun f k hk=>by
 refine ⟨fun b k' h => ?_,fun k' h => ?_⟩
 ·obtain ⟨a,k1,h1,h2⟩:=bind_ok_iff h
  have:=(hp f k hk).1 a k1 h1
  have:=(hg a).le h2
  omega
 ·rcases bind_bad_iff h with h | ⟨a,k1,h1,h2⟩
  ·exact (hp f k hk).2 k' h
  ·have:=(hp f k hk).1 a k1 h1
   have:=(hg a).leb h2
   omega
section
variable {N : Nat}
theorem Good.results {typ : Pp Tree} (h : Good typ) (ht : Takes begins typ) : Good (resultsP N typ) :=
 Good.tok ((Good.commas h N).bind fun l=>Good.need (Good.ret _)) (Good.peek Loc.begins (Good.bret h) (Good.ret _) (.inr (ht.bind fun _=>Good.ret _)))
theorem Good.param {typ : Pp Tree} (h : Good typ) : Good (paramP typ):=Good.name fun s=>Good.bret h
theorem Good.sigLike {kind : Int} {X typ : Pp Tree} (hX : Good X) (h : Good typ) (ht : Takes begins typ) : Good (sigLike N kind X typ):=Good.need ((Good.inP hX).bind fun ps=>Good.bret (Good.results h ht))
theorem Good.sig {typ : Pp Tree} (h : Good typ) (ht : Takes begins typ) : Good (sigP N typ):=Good.sigLike (Good.param h) h ht
theorem Good.typP {typ : Pp Tree} (h : Good typ) (ht : Takes begins typ) : Good (typP N typ) :=
 Good.tok (Good.bret h) (Good.tok (Good.need (Good.bret h)) (Good.tok (Good.sigLike h h ht) (Good.name fun s=>Good.ret _)))
theorem Takes.typP {typ : Pp Tree} (h : Good typ) (ht : Takes begins typ) : Takes begins (typP N typ):=fun f k hk=>by
 unfold Ps.typP
 cases h1 : isM [42] f k with
 | true=>exact Takes.tok (Good.bret h) f k h1
 | false =>
  rw [show Ps.tok [42] (Ps.bind typ fun t=>Ps.ret (.mk 11 [] 0 [t])) (Ps.tok [91] (Ps.need [93] (Ps.bind typ fun t=>Ps.ret (.mk 12 [] 0 [t]))) (Ps.tok [102,117,110,99] (Ps.sigLike N 13 typ typ) (Ps.name fun s=>Ps.ret (leaf 10 s)))) f k=Ps.tok [91] (Ps.need [93] (Ps.bind typ fun t=>Ps.ret (.mk 12 [] 0 [t]))) (Ps.tok [102,117,110,99] (Ps.sigLike N 13 typ typ) (Ps.name fun s=>Ps.ret (leaf 10 s))) f k by unfold Ps.tok;rw [h1];rfl]
  cases h2 : isM [91] f k with
  | true=>exact Takes.tok (Good.need (Good.bret h)) f k h2
  | false =>
   rw [show Ps.tok [91] (Ps.need [93] (Ps.bind typ fun t=>Ps.ret (.mk 12 [] 0 [t]))) (Ps.tok [102,117,110,99] (Ps.sigLike N 13 typ typ) (Ps.name fun s=>Ps.ret (leaf 10 s))) f k=Ps.tok [102,117,110,99] (Ps.sigLike N 13 typ typ) (Ps.name fun s=>Ps.ret (leaf 10 s)) f k by unfold Ps.tok;rw [h2];rfl]
   cases h3 : isM [102,117,110,99] f k with
   | true=>exact Takes.tok (Good.sigLike h h ht) f k h3
   | false =>
    rw [show Ps.tok [102,117,110,99] (Ps.sigLike N 13 typ typ) (Ps.name fun s=>Ps.ret (leaf 10 s)) f k=Ps.name (fun s=>Ps.ret (leaf 10 s)) f k by unfold Ps.tok;rw [h3];rfl]
    have h4 : isK 1 f k=true:=by
     unfold Ps.begins at hk
     rw [h1,h2,h3,Bool.or_false,Bool.or_false,Bool.or_false] at hk
     exact hk
    unfold isK at h4
    unfold Ps.name Ps.tkn
    cases hx : f k with
    | none=>rw [hx] at h4;cases h4
    | some t =>
     rw [hx] at h4
     simp only at h4
     simp only [h4,cond_true]
     exact ⟨fun a k' e=>by injection e with _ e;omega,fun k' e=>by cases e⟩
theorem Good.field {mb : Pp Tree} (h : Good mb) : Good (fieldP mb):=Good.name fun s=>h.bind fun t=>Good.need (Good.ret _)
theorem Good.body {kind : Int} {nm : Str} {mb : Pp Tree} (h : Good mb) : Good (bodyP N kind nm mb):=Good.need (Good.bret (Good.upto (Good.field h) N))
theorem Good.typeDecl {typ : Pp Tree} (h : Good typ) (ht : Takes begins typ) : Good (typeDeclP N typ):=Good.name fun nm=>Good.tok (Good.body (Good.sig h ht)) (Good.need (Good.body h))
theorem Good.declP {typ block : Pp Tree} (h : Good typ) (ht : Takes begins typ) (hb : Good block) : Good (declP N typ block) :=
 Good.tok (Good.typeDecl h ht) (Good.need (Good.tok
  (Good.name fun recv=>Good.need (Good.name fun of=>Good.need (Good.name fun nm=>(Good.sig h ht).bind fun s=>Good.bret hb)))
  (Good.name fun nm=>(Good.sig h ht).bind fun s=>Good.bret hb)))
theorem Good.blockP {stmt : Pp Tree} (h : Good stmt) : Good (blockP N stmt):=Good.need (Good.bret (Good.upto h N))
theorem Good.branchP {expr block branch : Pp Tree} (he : Good expr) (hb : Good block) (hr : Good branch) (sb : Stops block) : Good (branchP expr block branch) :=
 Good.need (he.bind fun c=>hb.bind fun b=>Good.tok (Good.peek (Loc.isM _) (Good.bret hr) (Good.bret hb) (.inl (Stops.bind sb))) (Good.ret _))
theorem Good.forP {expr block : Pp Tree} (he : Good expr) (hb : Good block) (se : Stops expr) : Good (forP expr block) :=
 Good.peek (Loc.isM _) (Good.bret hb) (he.bind fun c=>Good.bret hb) (.inl (Stops.bind se))
theorem Good.assignP {expr : Pp Tree} {left : List Tree} (he : Good expr) : Good (assignP N expr left):=by
 refine Good.tokIf (Good.bret (Good.commas he N)) (Good.tokIf (Good.bret (Good.commas he N)) ?_)
 cases isC1 left with
 | true=>exact Good.peek (Loc.isM _) (Good.ret _) Good.fail (.inl Stops.fail)
 | false=>exact Good.fail
theorem Good.simpleP {typ expr : Pp Tree} (h : Good typ) (he : Good expr) (se : Stops expr) : Good (simpleP N typ expr) :=
 Good.tok (Good.name fun s=>h.bind fun t=>Good.tok (Good.bret he) (Good.ret _)) (Good.tok (Good.peek (Loc.isM _) (Good.ret _) (Good.bret (Good.commas he N)) (.inl (Stops.bind (Stops.commas se N))))
  (Good.tok (Good.ret _) (Good.tok (Good.ret _) ((Good.commas he N).bind fun l=>Good.assignP he))))
theorem Stops.simpleP {typ expr : Pp Tree} (se : Stops expr) : Stops (simpleP N typ expr):=Stops.tok (Stops.tok (Stops.tok (Stops.tok (Stops.bind (Stops.commas se N)))))
theorem Good.exprsP {s : Str} {expr : Pp Tree} (he : Good expr) : Good (exprsP N s expr):=Good.inP he
theorem Good.cutP {expr : Pp Tree} {num : Int} {ks : List Tree} (he : Good expr) : Good (cutP expr num ks):=Good.need (Good.tok (Good.ret _) (he.bind fun e=>Good.need (Good.ret _)))
theorem Good.indexP {expr : Pp Tree} {n : Tree} (he : Good expr) (se : Stops expr) : Good (indexP expr n) :=
 Good.peek (Loc.isM _) (Good.cutP he) (he.bind fun e=>Good.tok (Good.ret _) (Good.cutP he)) (.inl (Stops.bind se))
theorem Good.postP {expr : Pp Tree} (he : Good expr) (se : Stops expr) : ∀ (j : Nat) (n : Tree),Good (postP N expr j n)
 | 0,_=>Good.dry
 | j + 1,n=>Good.tok (Good.name fun s=>Good.postP he se j _) (Good.tok ((Good.indexP he se).bind fun t=>Good.postP he se j _) (Good.tok ((Good.exprsP he).bind fun l=>Good.postP he se j _) (Good.ret _)))
theorem Good.primP {typ block expr : Pp Tree} {h : Bool} (gt : Good typ) (ht : Takes begins typ) (hb : Good block) (he : Good expr) : Good (primP N typ block expr h):=by
 refine Good.tkn (fun t=>Good.ret _) (Good.tkn (fun t=>Good.ret _) (Good.tok (Good.ret _) (Good.tok (Good.ret _) (Good.tok (Good.ret _) ?_))))
 refine Good.tok (he.bind fun t=>Good.need (Good.ret _)) (Good.tok (Good.need (gt.bind fun t=>Good.need (Good.bret (Good.exprsP he)))) (Good.tok ((Good.sig gt ht).bind fun s=>Good.bret hb) (Good.name fun s => ?_)))
 cases h with
 | true=>exact Good.ret _
 | false=>exact Good.tok (Good.bret (Good.exprsP he)) (Good.ret _)
theorem Stops.primP {typ block expr : Pp Tree} {h : Bool} : Stops (primP N typ block expr h):=Stops.tkn (Stops.tkn (Stops.tok (Stops.tok (Stops.tok (Stops.tok (Stops.tok (Stops.tok Stops.name)))))))
theorem Good.loopB {X : Pp Tree} {ops : List Str} (h : Good X) : ∀ (j : Nat) (n : Tree),Good (loopB j ops X n)
 | 0,_=>Good.dry
 | j + 1,n=>Good.oneOf (fun op=>h.bind fun m=>Good.loopB h j _) (Good.ret _)
theorem Good.binL {U : Pp Tree} (hU : Good U) : ∀ l,Good (binL N U l)
 | []=>hU
 | ops :: rest=>(Good.binL hU rest).bind fun n=>Good.loopB (Good.binL hU rest) N n
end
structure GGood (g : Gr) : Prop where
 typ : Good g.typ
 typ2 : Takes begins g.typ
 block : Good g.block
 block2 : Stops g.block
 stmt : Good g.stmt
 branch : Good g.branch
 expr : ∀ b,Good (g.expr b)
 expr2 : ∀ b,Stops (g.expr b)
 unary : ∀ b,Good (g.unary b)
 unary2 : ∀ b,Stops (g.unary b)
theorem ggood (N : Nat) : ∀ n,GGood (gr N n)
 | 0=>⟨Good.dry,fun f k h=>⟨fun a k' e=>(by cases e),fun k' e=>(by cases e)⟩,Good.dry,Stops.dry,Good.dry,Good.dry,fun _=>Good.dry,fun _=>Stops.dry,fun _=>Good.dry,fun _=>Stops.dry⟩
 | n + 1=>by
  have IH:=ggood N n
  have hu : ∀ b,Good (unaryP N (gr N n) b):=fun b=>Good.oneOf (fun op=>Good.bret (IH.unary b)) ((Good.primP IH.typ IH.typ2 IH.block (IH.expr _)).bind fun t=>Good.postP (IH.expr _) (IH.expr2 _) N t)
  have su : ∀ b,Stops (unaryP N (gr N n) b):=fun b=>Stops.oneOf (Stops.bind Stops.primP)
  refine ⟨Good.typP IH.typ IH.typ2,Takes.typP IH.typ IH.typ2,Good.blockP IH.stmt,Stops.need, ?_,Good.branchP (IH.expr _) IH.block IH.branch IH.block2,fun b=>Good.binL (IH.unary b) _,fun b=>Stops.binL (IH.unary2 b) _,hu,su⟩
  have hs : Good (Ps.tok [102,111,114] (forP ((gr N n).expr true) (gr N n).block) (Ps.bind (Ps.simpleP N (gr N n).typ ((gr N n).expr false)) fun s=>Ps.need [59] (Ps.ret s))) :=
   Good.tok (Good.forP (IH.expr _) IH.block (IH.expr2 _)) ((Good.simpleP IH.typ (IH.expr _) (IH.expr2 _)).bind fun s=>Good.need (Good.ret _))
  have ss : Stops (Ps.tok [102,111,114] (forP ((gr N n).expr true) (gr N n).block) (Ps.bind (Ps.simpleP N (gr N n).typ ((gr N n).expr false)) fun s=>Ps.need [59] (Ps.ret s))):=Stops.tok (Stops.bind (Stops.simpleP (IH.expr2 _)))
  exact Good.peek (Loc.isM _) IH.block (Good.peek (Loc.isM _) IH.branch hs (.inl ss)) (.inl (Stops.peek (Loc.isM _) ss))
theorem Good.declG (N n : Nat) : Good (declG N n):=Good.declP (ggood N n).typ (ggood N n).typ2 (ggood N n).block
end Go.Ps


/- PsPlcP -/
set_option linter.unusedVariables false
set_option linter.unusedSimpArgs false
namespace Go.Sep
end Go.Sep


/- PtOnce -/
set_option linter.unusedVariables false
set_option linter.unusedSimpArgs false
namespace Go.Sep
open Go.Proofs
attribute [local irreducible] TC TO OT TCallX TCall DO DOt thenQ blockQ retQ At
theorem last_two (t : Str) : lastB t=10 ∨ lastB t=32:=by unfold lastB;split;exact .inl rfl;exact .inr rfl
def awakeS : Str:=[102,117,110,99,32,109,97,105,110,40,41,123,112,114,105,110,116,40,49,41,59,125]
def awakeT : Tree := .mk 1 [] 0 [.mk 4 [109,97,105,110] 0 [.mk 7 [] 0 [], .mk 20 [] 0 [.mk 24 [] 0 [.mk 51 [] 0 [.mk 44 [112,114,105,110,116] 0 [], .mk 40 [] 1 []]]]]]
theorem parse_a : parseD awakeS = ⟨awakeT,0,0⟩:=by kernel_rfl
theorem text_a : textD awakeT=([102,117,110,99,32,109,97,105,110,32,40,32,41,32,123,10,112,114,105,110,116,32,40,32,49,32,41,32,59,10,125,10],0):=by kernel_rfl
set_option maxHeartbeats 1000000 in
theorem awake3_law (m : Mem) (L : List Item) (hE : Errs m) (hT : Tb m) : TCall Tryz.prog 17 ⟨[]⟩ m L (Made m L fun r _=>r = .bool true):=by
 unfold TCall
 refine TCallX.enter Tryz.func17 rfl 26 rfl ?_
 repeat (first|refine q1 ?_|refine q3 ?_|refine q4 tab rfl rfl ?_|refine q5 ?_|refine q6 ?_)
 refine TO.step rfl (OT.call rfl rfl rfl rfl rfl rfl goes11 ((parse_law program_ne _ _ awakeS hE).x ?_));
 rw [parse_a]
 rintro _ m1 _ ⟨hm1,rfl,x,rfl,hx⟩
 repeat (refine q4 tab rfl rfl ?_)
 refine TO.step rfl (OT.alloc tab rfl rfl rfl rfl (fun b => ?_))
 skip
 (refine TO.step rfl (OT.storeL0 tab 0 rfl rfl rfl rfl rfl rfl rfl rfl ?_))
 repeat (first|refine q1 ?_|refine q3 ?_|refine q4 tab rfl rfl ?_|refine q5 ?_|refine q6 ?_)
 (refine qs rfl (qz tab 0 rfl rfl rfl rfl rfl rfl ?_))
 skip
 refine TO.step rfl (OT.call rfl rfl rfl rfl rfl rfl goes16 ((Text_law _ _ awakeT x (tbOk.mono hT hm1) hx (by decide) rfl).x ?_));
 rw [text_a]
 rintro _ m2 _ ⟨hm2,rfl,rfl⟩
 repeat (first|refine q1 ?_|refine q3 ?_|refine q4 tab rfl rfl ?_|refine q5 ?_|refine q6 ?_|refine q15 ?_)
 exact retQ_ret rfl (by repeat (first|exact List.Sublist.refl _|refine List.Sublist.cons _ ?_)) ⟨Mem.le_trans hm1 hm2,rfl,rfl⟩
attribute [local irreducible] parseD scanD textD
end Go.Sep


/- PtExprP -/
set_option linter.unusedVariables false
set_option linter.unusedSimpArgs false
namespace Go.Sep
open Go.Proofs
def withinT (a : Tree) : Tree := .mk 1 [] 0 [.mk 4 [102] 0 [.mk 7 [] 0 [], .mk 20 [] 0 [.mk 27 [] 0 [a]]]]
def exprD (a : Tree) : Str × Int:=if soundB (withinT a)=true then outD (putT (Pt.toks a)) else ([],2)
theorem within_size (a : Tree) : (withinT a).size=a.size + 5:=by
 simp only [withinT,Tree.size,sizeL];omega
theorem within_deep (a : Tree) : (withinT a).deep=a.deep + 4:=by
 have:=deep_pos a
 simp only [withinT,Tree.deep,deepL];omega
theorem within_sound (a : Tree) : soundB (withinT a)=(decide (a.size + 5 ≤ 20000) && (decide (a.deep + 4 ≤ 100) && lim.expr a)):=by
 rw [Bool.eq_iff_iff]
 simp only [Bool.and_eq_true,decide_eq_true_eq]
 constructor
 ·intro h
  obtain ⟨ds,e,h1,h2,h3⟩:=Pt.soundB_f h
  rw [within_size] at h1
  rw [within_deep] at h2
  injection e with _ _ _ e
  subst e
  have hf : (ofB (.mk 4 [102] 0 [.mk 7 [] 0 [], .mk 20 [] 0 [.mk 27 [] 0 [a]]]) 4 && kidsR [Tree.isSig,lim.block] none [.mk 7 [] 0 [], .mk 20 [] 0 [.mk 27 [] 0 [a]]])=true:=h3 _ (List.mem_cons_self ..)
  rw [Bool.and_eq_true] at hf
  obtain ⟨s,b,e,_,hb⟩:=Pt.kids2 hf.2
  injection e with e1 e2
  injection e2 with e2 _
  subst e2
  have h4:=(Pt.block_f hb).2.2.2
  have h5 : lim.stmt (.mk 27 [] 0 [a])=true:=List.all_eq_true.1 h4 _ (List.mem_cons_self ..)
  have h6 : stmtS lim (.mk 27 [] 0 [a])=true:=(lim_fix _).2.1.symm.trans h5
  rw [Pt.stmtS_head] at h6
  have h7 : ((decide (([] : Str)=[]) && decide ((0 : Int)=0)) && [a].all lim.expr)=true:=by
   have:=h6
   rw [Pt.headS_n (k:=27) rfl (by decide)] at this
   exact this
  simp only [List.all_cons,List.all_nil,Bool.and_true,Bool.and_eq_true] at h7
  exact ⟨h1,h2,h7.2⟩
 ·rintro ⟨h1,h2,h3⟩
  have hst : lim.stmt (.mk 27 [] 0 [a])=true:=by
   rw [(lim_fix _).2.1,Pt.stmtS_head,Pt.headS_n (k:=27) rfl (by decide)]
   show ((decide (([] : Str)=[]) && decide ((0 : Int)=0)) && [a].all lim.expr)=true
   simp [h3]
  have hbl : lim.block (.mk 20 [] 0 [.mk 27 [] 0 [a]])=true:=by
   rw [(lim_fix _).2.2]
   unfold blockS
   rw [Bool.and_eq_true]
   exact ⟨rfl,by simp [Tree.kids,hst]⟩
  have hd : declS lim (.mk 4 [102] 0 [.mk 7 [] 0 [], .mk 20 [] 0 [.mk 27 [] 0 [a]]])=true:=by
   show (ofB (.mk 4 [102] 0 [.mk 7 [] 0 [], .mk 20 [] 0 [.mk 27 [] 0 [a]]]) 4 && kidsR [Tree.isSig,lim.block] none [.mk 7 [] 0 [], .mk 20 [] 0 [.mk 27 [] 0 [a]]])=true
   rw [Bool.and_eq_true]
   refine ⟨rfl, ?_⟩
   show (Tree.isSig _ && (lim.block _ && true))=true
   rw [hbl];rfl
  unfold soundB
  rw [within_size,within_deep]
  simp only [Bool.and_eq_true,decide_eq_true_eq]
  refine ⟨⟨h1,h2⟩,rfl, ?_⟩
  show [_].all (declS (sg 100))=true
  simp only [List.all_cons,List.all_nil,Bool.and_true]
  have:=within_deep a
  rw [declS_lim (by simp only [withinT,Tree.deep,deepL] at this ⊢;omega)]
  exact hd
theorem trim_app (p q : Str) (hq : q ≠ []) : trimD (p++q) [32]=p++trimD q [32]:=by
 have hl : 1 ≤ q.length:=List.length_pos_iff.2 hq
 have e : suffixB [32] (p++q)=suffixB [32] q:=by
  unfold suffixB
  rw [List.length_append,show p.length + q.length - ([32] : Str).length=p.length + (q.length - 1) by simp;omega,List.drop_append]
  have : p.drop (p.length + (q.length - 1))=[]:=List.drop_eq_nil_of_le (by omega)
  rw [this,List.nil_append,show p.length + (q.length - 1) - p.length=q.length - ([32] : Str).length by simp]
  congr 1
  exact decide_eq_decide.2 (by simp;omega)
 unfold trimD
 rw [e]
 split
 ·rw [List.length_append,show p.length + q.length - ([32] : Str).length=p.length + (q.length - 1) by simp;omega,List.take_append,List.take_of_length_le (by omega),show p.length + (q.length - 1) - p.length=q.length - ([32] : Str).length by simp]
 ·rfl
theorem trim_one (t : Str) : trimD (putS t) [32]=t++(if lastB t=32 then [] else [10]):=by
 unfold putS
 have h1 : trimD (t++[lastB t]) [32]=t++trimD [lastB t] [32]:=trim_app _ _ (by simp)
 rw [h1]
 congr 1
 rcases last_two t with e | e <;> (rw [e];rfl)
def pcsE : List Ps.Tk→List (Ps.Tk × Str)
 | []=>[]
 | [t]=>[(t,if lastB (Pt.txt t)=32 then [] else [10])]
 | t :: u :: l=>(t,[lastB (Pt.txt t)]) :: pcsE (u :: l)
theorem pcsE_fst : ∀ l : List Ps.Tk,(pcsE l).map Prod.fst=l
 | []=>rfl
 | [t]=>rfl
 | t :: u :: l=>by rw [pcsE,List.map_cons,pcsE_fst (u :: l)]
theorem putT_ne {t : Ps.Tk} {l : List Ps.Tk} : putT (t :: l) ≠ []:=by
 rw [putT_cons,putS];simp
theorem pcsE_lay : ∀ l : List Ps.Tk,Pt.lay (pcsE l)=trimD (putT l) [32]
 | []=>rfl
 | [t]=>by
  show Pt.txt t++(_++[])=_
  rw [List.append_nil,putT_cons,putT_nil,List.append_nil,trim_one]
 | t :: u :: l=>by
  show Pt.txt t++([lastB (Pt.txt t)]++Pt.lay (pcsE (u :: l)))=_
  have e:=putT_cons t (u :: l)
  rw [pcsE_lay (u :: l),e,trim_app _ _ putT_ne,putS,List.append_assoc]
theorem lay_app : ∀ ps qs : List (Ps.Tk × Str),Pt.lay (ps++qs)=Pt.lay ps++Pt.lay qs
 | [],qs=>rfl
 | (t,g) :: ps,qs=>by
  show Pt.txt t++(g++Pt.lay (ps++qs))=(Pt.txt t++(g++Pt.lay ps))++_
  rw [lay_app ps qs];simp only [List.append_assoc]
def Stops (s : Str) : Prop := ∃ c r,s=c :: r∧Pt.stopB c=true
theorem ok_one {t : Ps.Tk} {g : Str} {ps : List (Ps.Tk × Str)} (ht : Pt.TkV t) (hs : Stops (g++Pt.lay ps)) (hg : g.all isSp=true) (h : Pt.OkL ps) : Pt.OkL ((t,g) :: ps):=by
 obtain ⟨c,r,e,hc⟩:=hs
 exact ⟨by rw [e];exact Pt.Nx.of ht hc r,hg,h⟩
theorem pcsE_ok : ∀ {l : List Ps.Tk} {B : List (Ps.Tk × Str)},(∀ t ∈ l,Pt.TkV t)→Stops (Pt.lay B)→Pt.OkL B→Pt.OkL (pcsE l++B)
 | [],_,_,_,hB=>hB
 | [t],B,h,hs,hB=>by
  refine ok_one (h t (by simp)) ?_ ?_ hB
  ·split
   ·exact hs
   ·exact ⟨10,_,rfl,by decide⟩
  ·split <;> decide
 | t :: u :: l,B,h,hs,hB=>by
  refine ok_one (h t (by simp)) ⟨lastB (Pt.txt t),_,rfl, ?_⟩ ?_ (pcsE_ok (l:=u :: l) (fun x hx=>h x (by simp at hx ⊢;exact .inr hx)) hs hB)
  ·rcases last_two (Pt.txt t) with e | e <;> (rw [e];decide)
  ·rcases last_two (Pt.txt t) with e | e <;> (rw [e];decide)
theorem nx_paren (R : Str) : Pt.Nx (Pt.mk [40]) R:=by
 have h : markL.find? (fun p=>prefixB p (40 :: R))=some [40]:=by
  simp [markL,prefixB,List.find?]
 refine ⟨?_,rfl,by decide⟩
 show tokD (40 :: R)=some (⟨4,[40],0,0⟩,1)
 rw [tokD,if_neg (by decide),if_neg (by decide),if_neg (by decide),h]
 rfl
theorem ok_paren {ps : List (Ps.Tk × Str)} (h : Pt.OkL ps) : Pt.OkL ((Pt.mk [40],[]) :: ps):=⟨nx_paren _,rfl,h⟩
def preA : List (Ps.Tk × Str):=[(Pt.wd [102,117,110,99],[32]),(Pt.nm [102],[]),(Pt.mk [40],[]),(Pt.mk [41],[32]),(Pt.mk [123],[32]),(Pt.wd [114,101,116,117,114,110],[32])]
def endA : List (Ps.Tk × Str):=[(Pt.mk [59],[32]),(Pt.mk [125],[])]
theorem endA_ok : Pt.OkL endA:=by
 refine ok_one (Pt.v_mk (by decide)) ⟨32,_,rfl,by decide⟩ (by decide) ⟨⟨rfl,rfl,by decide⟩,rfl,trivial⟩
theorem preA_ok {ps : List (Ps.Tk × Str)} (h : Pt.OkL ps) : Pt.OkL (preA++ps):=by
 refine ok_one (Pt.v_wd (by decide)) ⟨32,_,rfl,by decide⟩ (by decide) ?_
 refine ok_one (Pt.v_nm (by decide)) ⟨40,_,rfl,by decide⟩ (by decide) ?_
 refine ok_paren ?_
 refine ok_one (Pt.v_mk (by decide)) ⟨32,_,rfl,by decide⟩ (by decide) ?_
 refine ok_one (Pt.v_mk (by decide)) ⟨32,_,rfl,by decide⟩ (by decide) ?_
 exact ok_one (Pt.v_wd (by decide)) ⟨32,_,rfl,by decide⟩ (by decide) h
def preB : List (Ps.Tk × Str):=[(Pt.mk [40],[]),(Pt.mk [40],[])]
def endB : List (Ps.Tk × Str):=[(Pt.mk [41],[]),(Pt.mk [41],[])]
def ps1 (l : List Ps.Tk) : List (Ps.Tk × Str):=preA++(pcsE l++endA)
def ps2 (l : List Ps.Tk) : List (Ps.Tk × Str):=preA++(preB++(pcsE l++(endB++endA)))
theorem ps1_ok {l : List Ps.Tk} (h : ∀ t ∈ l,Pt.TkV t) : Pt.OkL (ps1 l):=preA_ok (pcsE_ok h ⟨59,_,rfl,by decide⟩ endA_ok)
theorem endB_ok : Pt.OkL (endB++endA):=ok_one (Pt.v_mk (by decide)) ⟨41,_,rfl,by decide⟩ (by decide) (ok_one (Pt.v_mk (by decide)) ⟨59,_,rfl,by decide⟩ (by decide) endA_ok)
theorem ps2_ok {l : List Ps.Tk} (h : ∀ t ∈ l,Pt.TkV t) : Pt.OkL (ps2 l):=preA_ok (ok_paren (ok_paren (pcsE_ok h ⟨41,_,rfl,by decide⟩ endB_ok)))
theorem ps1_lay (l : List Ps.Tk) : Pt.lay (ps1 l)=[102,117,110,99,32,102,40,41,32,123,32,114,101,116,117,114,110,32]++trimD (putT l) [32]++[59,32,125]:=by
 rw [ps1,lay_app,lay_app,pcsE_lay,List.append_assoc];rfl
theorem ps2_lay (l : List Ps.Tk) : Pt.lay (ps2 l)=[102,117,110,99,32,102,40,41,32,123,32,114,101,116,117,114,110,32,40,40]++trimD (putT l) [32]++[41,41,59,32,125]:=by
 rw [ps2,lay_app,lay_app,lay_app,pcsE_lay,List.append_assoc];rfl
theorem parse_lay2 {ps : List (Ps.Tk × Str)} {ds : List Tree} {k : Nat} (hs : soundB (.mk 1 [] 0 ds)=true) (hp : Ps.program (ps.map Prod.fst).length (fun i=>(ps.map Prod.fst)[i]?) 0 = .ok ds k) (h : Pt.OkL ps) (hl : (Pt.lay ps).length ≤ 65536) :
  parseD (Pt.lay ps) = ⟨.mk 1 [] 0 ds,0,0⟩ ∨ ∃ a : Nat,0 < a∧parseD (Pt.lay ps) = ⟨emptyT,a,4⟩:=by
 have hsc:=Pt.scan_lay h hl
 rcases Nat.lt_or_ge 20000 ps.length with h1 | h1
 ·obtain ⟨a,h2,h3⟩:=hsc.2 h1
  refine .inr ⟨a,h3, ?_⟩
  unfold parseD
  rw [h2];rfl
 ·obtain ⟨l,h2,h3⟩:=hsc.1 h1
  refine .inl ?_
  unfold parseD
  rw [h2,if_pos rfl]
  show parseL (Pt.lay ps) l=_
  have hlen : l.length=(ps.map Prod.fst).length:=by rw [← h3,List.length_map]
  unfold parseL
  rw [Pt.tkF_bare,h3,hlen,hp]
  obtain ⟨ds',e,q1,q2,q3⟩:=Pt.soundB_f hs
  simp only
  rw [if_pos ⟨q1,q2⟩]
theorem program_one {l : List Ps.Tk} {d : Tree} (hne : l ≠ []) (hd : ∀ N n,20000 ≤ N→1000 ≤ n→Pt.Rd (Ps.declG N n) l d Pt.yes) : Ps.program l.length (fun i=>l[i]?) 0 = .ok [d] l.length:=by
 have q : Ps.progL (Ps.declG (max l.length 20000 + 1) (3 * max l.length 20000 + 4)) (max l.length 20000 + 1) (fun i=>l[i]?) 0 = .ok [d] l.length:=by
  have h1:=hd (max l.length 20000 + 1) (3 * max l.length 20000 + 4) (by omega) (by omega) (fun i=>l[i]?) 0 (Pt.seg_get l) rfl
  rw [Nat.zero_add] at h1
  obtain ⟨t,l',rfl⟩ : ∃ t l',l=t :: l':=by
   cases l with
   | nil=>exact absurd rfl hne
   | cons t l'=>exact ⟨t,l',rfl⟩
  obtain ⟨j,hj⟩ : ∃ j,max (t :: l').length 20000=j + 1:=⟨max (t :: l').length 20000 - 1,by omega⟩
  rw [Ps.progL]
  simp only [List.getElem?_cons_zero,Option.isNone_some,cond_false]
  rw [Ps.bind_ok h1,hj]
  have h2 : (fun i=>(t :: l')[i]?) (t :: l').length=none:=by simp
  rw [Ps.bind_ok (show Ps.progL _ (j + 1) (fun i=>(t :: l')[i]?) (t :: l').length = .ok [] (t :: l').length by
   rw [Ps.progL]
   simp only [h2,Option.isNone_none,cond_true])]
  rfl
 have q' : Ps.program (max l.length 20000) (fun i=>l[i]?) 0 = .ok [d] l.length:=q
 have hr : Ps.Run l.length (fun i=>l[i]?) false 0 (Ps.program l.length):=Ps.Run.program (fun i hi=>by simp [hi])
 rw [← Ps.Le.program (Nat.le_max_left l.length 20000) (fun i=>l[i]?) 0 (hr.out 0 (Nat.le_refl _) (Nat.zero_le _))]
 exact q'
theorem brackets_rd {a : Tree} (ha : lim.expr a=true) (h1 : a.size + 5 ≤ 20000) (h2 : a.deep + 4 ≤ 100) {N n : Nat} (hN : 20000 ≤ N) (hn : 1000 ≤ n) :
  Pt.Rd (Ps.declG N n) ((ps2 (Pt.toks a)).map Prod.fst) (.mk 4 [102] 0 [.mk 7 [] 0 [], .mk 20 [] 0 [.mk 27 [] 0 [a]]]) Pt.yes:=by
 obtain ⟨n,rfl⟩ : ∃ m,n=m + 6:=⟨n - 6,by omega⟩
 have hr:=Pt.rt_all (N:=N) a (by omega)
 have hp1 : Pt.Rd (Ps.primP N (Ps.gr N n).typ (Ps.gr N n).block ((Ps.gr N n).expr false) false) (Pt.mk [40] :: (Pt.toks a++[Pt.mk [41]])) a (Pt.fP false) :=
  Pt.paren_rd ((hr.expr ha (by omega) (h:=false) (n:=n) (by omega)).mono fun o ho=>Pt.close_E ho)
 have he1 : Pt.Rd ((Ps.gr N (n + 2)).expr false) (Pt.mk [40] :: (Pt.toks a++[Pt.mk [41]])) a (Pt.fE false):=Pt.expr_of (Pt.prim_un hp1 (fun o=>rfl) (by omega)) (by omega)
 generalize hl1 : Pt.mk [40] :: (Pt.toks a++[Pt.mk [41]])=l1 at he1
 have hp2 : Pt.Rd (Ps.primP N (Ps.gr N (n + 2)).typ (Ps.gr N (n + 2)).block ((Ps.gr N (n + 2)).expr false) false) (Pt.mk [40] :: (l1++[Pt.mk [41]])) a (Pt.fP false) :=
  Pt.paren_rd (he1.mono fun o ho=>Pt.close_E ho)
 have he2 : Pt.Rd ((Ps.gr N (n + 4)).expr false) (Pt.mk [40] :: (l1++[Pt.mk [41]])) a (Pt.fE false):=Pt.expr_of (Pt.prim_un hp2 (fun o=>rfl) (by omega)) (by omega)
 have hrow : Pt.Rd (Ps.commas N ((Ps.gr N (n + 4)).expr false)) (Pt.mk [40] :: (l1++[Pt.mk [41]])) [a] (Ps.dM [59]) :=
  (Pt.Rd.commas (tk:=fun _=>Pt.mk [40] :: (l1++[Pt.mk [41]])) (S:=fun o => !Ps.dM [44] o && Pt.fE false o) (S':=Pt.fE false) (fun o h=>by simp only [Bool.and_eq_true,Bool.not_eq_true'] at h;exact h.1) (fun o h=>by simp only [Bool.and_eq_true] at h;exact h.2) (by decide) N [a] (by simp) (by simp;omega) fun x hx=>by
   rw [List.mem_singleton] at hx;subst hx;exact he2).mono fun o ho=>by
    rw [Pt.only_no ho (by decide),Pt.only_E ho (by decide)];rfl
 have hst : Pt.Rd (Ps.stmtP N (Ps.gr N (n + 4))) ((Pt.wd [114,101,116,117,114,110] :: Pt.mk [40] :: (l1++[Pt.mk [41]]))++[Pt.mk [59]]) (.mk 27 [] 0 [a]) Pt.fS:=by
  refine Pt.semi_rd (Pt.Rd.tokF (fun o _=>rfl) (Pt.Rd.tokT rfl ?_)) (fun o=>rfl) (fun o=>rfl) (fun o=>rfl)
  exact Pt.Rd.peekMF (fun o _=>rfl) (Pt.Rd.bret (g:=fun l=>Tree.mk 27 [] 0 l) hrow)
 generalize hl2 : (Pt.wd [114,101,116,117,114,110] :: Pt.mk [40] :: (l1++[Pt.mk [41]]))++[Pt.mk [59]]=l2 at hst
 have hbl : Pt.Rd (Ps.gr N (n + 6)).block (Pt.mk [123] :: (([Tree.mk 27 [] 0 [a]].map fun _=>l2).flatten++[Pt.mk [125]])) (.mk 20 [] 0 [.mk 27 [] 0 [a]]) Pt.yes :=
  Pt.Rd.need rfl (Pt.Rd.bret (g:=fun l=>Tree.mk 20 [] 0 l) (Pt.Rd.upto (S':=Pt.fS) rfl N [Tree.mk 27 [] 0 [a]] (by simp;omega) fun x hx=>by
   rw [List.mem_singleton] at hx;subst hx
   exact ⟨hst,fun o=>by subst hl2;exact ⟨rfl,rfl⟩⟩))
 have hd : Pt.Rd (Ps.declG N (n + 6)) (Pt.wd [102,117,110,99] :: Pt.nm [102] :: (Pt.toks (.mk 7 [] 0 [])++(Pt.mk [123] :: (([Tree.mk 27 [] 0 [a]].map fun _=>l2).flatten++[Pt.mk [125]])))) (.mk 4 [102] 0 [.mk 7 [] 0 [], .mk 20 [] 0 [.mk 27 [] 0 [a]]]) Pt.yes:=by
  unfold Ps.declG Ps.declP
  exact Pt.Rd.tokF (fun o _=>rfl) (Pt.Rd.need rfl (Pt.Rd.tokF (fun o _=>rfl) (Pt.Rd.name (Pt.Rd.bind (Pt.sig_rd (a := .mk 7 [] 0 []) rfl (by simp [Tree.size,sizeL];omega) (by simp [Tree.deep,deepL])) (Pt.Rd.bret (g:=fun b=>Tree.mk 4 [102] 0 [.mk 7 [] 0 [],b]) hbl) fun o _=>rfl))))
 refine hd.cast ?_
 subst hl2 hl1
 have et : Pt.toks (.mk 7 [] 0 [])=[Pt.mk [40],Pt.mk [41]]:=by rw [Pt.toks_eq];rfl
 rw [et]
 unfold ps2 preA preB endB endA
 rw [List.map_append,List.map_append,List.map_append,List.map_append,pcsE_fst]
 simp
theorem expr_back {a : Tree} (hnum : Pt.numB2 a=true) {s : Str} (h : exprD a=(s,0)) (hl : s.length ≤ 20000) :
  (parseD ([102,117,110,99,32,102,40,41,32,123,32,114,101,116,117,114,110,32]++s++[59,32,125]) = ⟨withinT a,0,0⟩ ∨ ∃ k : Nat,0 < k∧parseD ([102,117,110,99,32,102,40,41,32,123,32,114,101,116,117,114,110,32]++s++[59,32,125]) = ⟨emptyT,k,4⟩) ∧
  (parseD ([102,117,110,99,32,102,40,41,32,123,32,114,101,116,117,114,110,32,40,40]++s++[41,41,59,32,125]) = ⟨withinT a,0,0⟩ ∨ ∃ k : Nat,0 < k∧parseD ([102,117,110,99,32,102,40,41,32,123,32,114,101,116,117,114,110,32,40,40]++s++[41,41,59,32,125]) = ⟨emptyT,k,4⟩):=by
 unfold exprD at h
 by_cases hs : soundB (withinT a)=true
 ·rw [if_pos hs] at h
  have hws:=within_sound a
  rw [hs] at hws
  have hw:=hws.symm
  simp only [Bool.and_eq_true,decide_eq_true_eq] at hw
  obtain ⟨h1,h2,h3⟩:=hw
  have hv : ∀ t ∈ Pt.toks a,Pt.TkV t:=((Pt.v_all a hnum).expr h3).v
  have hst : s=trimD (putT (Pt.toks a)) [32]:=by
   unfold outD at h
   split at h
   ·cases h
   ·exact (Prod.mk.inj h).1.symm
  have hdp : soundB (.mk 1 [] 0 [.mk 4 [102] 0 [.mk 7 [] 0 [], .mk 20 [] 0 [.mk 27 [] 0 [a]]]])=true:=hs
  have hp2:=program_one (l:=(ps2 (Pt.toks a)).map Prod.fst) (by unfold ps2 preA;simp) (fun N n hN hn=>brackets_rd h3 h1 h2 hN hn)
  have hp1:=Pt.program_toks hdp
  have e1 : ([Tree.mk 4 [102] 0 [.mk 7 [] 0 [], .mk 20 [] 0 [.mk 27 [] 0 [a]]]].map Pt.toks).flatten=(ps1 (Pt.toks a)).map Prod.fst:=by
   have et : Pt.toks (.mk 7 [] 0 [])=[Pt.mk [40],Pt.mk [41]]:=by rw [Pt.toks_eq];rfl
   have et2 : Pt.toks (.mk 27 [] 0 [a])=(Pt.wd [114,101,116,117,114,110] :: Pt.toks a)++[Pt.mk [59]]:=by rw [Pt.toks_eq];rfl
   have et3 : Pt.toks (.mk 20 [] 0 [.mk 27 [] 0 [a]])=Pt.mk [123] :: ((Pt.toks (.mk 27 [] 0 [a])++[])++[Pt.mk [125]]):=by rw [Pt.toks_eq];rfl
   have et4 : Pt.toks (.mk 4 [102] 0 [.mk 7 [] 0 [], .mk 20 [] 0 [.mk 27 [] 0 [a]]])=Pt.wd [102,117,110,99] :: Pt.nm [102] :: (Pt.toks (.mk 7 [] 0 [])++Pt.toks (.mk 20 [] 0 [.mk 27 [] 0 [a]])):=by rw [Pt.toks_eq];rfl
   rw [List.map_cons,List.map_nil,List.flatten_cons,List.flatten_nil,List.append_nil,et4,et3,et2,et]
   unfold ps1 preA endA
   rw [List.map_append,List.map_append,pcsE_fst]
   simp
  rw [e1] at hp1
  have l1:=ps1_lay (Pt.toks a)
  have l2:=ps2_lay (Pt.toks a)
  rw [← hst] at l1 l2
  have n1 : ([102,117,110,99,32,102,40,41,32,123,32,114,101,116,117,114,110,32] : Str).length=18:=rfl
  have n2 : ([102,117,110,99,32,102,40,41,32,123,32,114,101,116,117,114,110,32,40,40] : Str).length=20:=rfl
  have n3 : ([59,32,125] : Str).length=3:=rfl
  have n4 : ([41,41,59,32,125] : Str).length=5:=rfl
  have q1:=parse_lay2 hdp hp1 (ps1_ok hv) (by rw [l1,List.length_append,List.length_append];omega)
  have q2:=parse_lay2 hdp hp2 (ps2_ok hv) (by rw [l2,List.length_append,List.length_append];omega)
  rw [l1] at q1
  rw [l2] at q2
  exact ⟨q1,q2⟩
 ·rw [if_neg hs] at h
  cases h
end Go.Sep


/- TyEqP -/
set_option linter.unusedVariables false
set_option linter.unusedSimpArgs false
namespace Go.Sep
mutual
def teq : Tree→Tree→Bool
 | .mk k n u ks, .mk k' n' u' ks'=>decide (k=k') && (decide (n=n') && (decide (u=u') && teqL ks ks'))
def teqL : List Tree→List Tree→Bool
 | [],[]=>true
 | t :: ts,s :: ss=>teq t s && teqL ts ss
 | [],_ :: _=>false
 | _ :: _,[]=>false
end
mutual
theorem teq_iff : ∀ a b : Tree,teq a b=true ↔ a=b
 | .mk k n u ks, .mk k' n' u' ks'=>by
  have:=teqL_iff ks ks'
  simp only [teq,Bool.and_eq_true,decide_eq_true_eq,this,Tree.mk.injEq]
theorem teqL_iff : ∀ l r : List Tree,teqL l r=true ↔ l=r
 | [],[]=>by simp [teqL]
 | t :: ts,s :: ss=>by
  have h1:=teq_iff t s
  have h2:=teqL_iff ts ss
  simp only [teqL,Bool.and_eq_true,h1,h2,List.cons.injEq]
 | [],_ :: _=>by simp [teqL]
 | _ :: _,[]=>by simp [teqL]
end
theorem teq_refl (a : Tree) : teq a a=true:=(teq_iff a a).2 rfl
theorem teq_eq (a b : Tree) : teq a b=(decide (a.kind=b.kind) && (decide (a.name=b.name) && (decide (a.num=b.num) && teqL a.kids b.kids))):=by
 obtain ⟨_,_,_,_⟩:=a
 obtain ⟨_,_,_,_⟩:=b
 rfl
theorem teqL_len {l r : List Tree} (h : l.length ≠ r.length) : teqL l r=false:=by
 cases hc : teqL l r with
 | false=>rfl
 | true=>exact absurd (congrArg List.length ((teqL_iff l r).1 hc)) h
theorem teqL_step (l r : List Tree) (k : Nat) (h1 : k < l.length) (h2 : k < r.length) : teqL (l.drop k) (r.drop k)=(teq l[k] r[k] && teqL (l.drop (k + 1)) (r.drop (k + 1))):=by
 rw [List.drop_eq_getElem_cons h1,List.drop_eq_getElem_cons h2,teqL]
end Go.Sep


/- PrSame -/
set_option linter.unusedVariables false
set_option linter.unusedSimpArgs false
namespace Go.Sep
open Go.Proofs
attribute [local irreducible] TC TO OT TCallX TCall DO DOt thenQ blockQ retQ At
set_option maxHeartbeats 1600000 in
theorem same_ref (a : Tree) : ∀ (c : Tree) (m : Mem) (L : List Item) (h g : HTree) (hr : TreeRep m h a) (gr : TreeRep m g c),TCall Tryz.prog 15 ⟨[treeV h,treeV g]⟩ m L (Ret (.bool (teq a c)) m L):=by
 induction a using Tree.ind with
 | h a ih =>
 intro c m L h g hr gr
 obtain ⟨h1,h2,h3,h4⟩:=hr
 obtain ⟨g1,g2,g3,g4⟩:=gr
 have hl:=h4.len
 have gl:=g4.len
 have hsm:=h4.small rfl
 have gsm:=g4.small rfl
 rw [teq_eq,← h1,← g1,← h2,← g2,← h3,← g3]
 unfold TCall
 refine TCallX.enter Tryz.func15 rfl 53 rfl ?_
 repeat (first|refine q1 ?_|refine q3 ?_)
 refine TO.step rfl (OT.box rfl rfl rfl rfl rfl (fun b => ?_))
 skip
 refine TO.step rfl (OT.box rfl rfl rfl rfl rfl (fun b2 => ?_))
 repeat (first|(first|refine q1 ?_|refine q3 ?_|refine q4 tab rfl rfl ?_|refine q5 ?_|refine q6 ?_)|(first|refine qs rfl (ql tab 0 rfl rfl rfl rfl rfl rfl ?_)|refine qs rfl (ql tab 1 rfl rfl rfl rfl rfl rfl ?_)))
 (refine TO.splitN rfl rfl (fun e1 => ?_) (fun e1 => ?_))
 ·repeat (first|refine q1 ?_|refine q3 ?_|refine q4 tab rfl rfl ?_|refine q5 ?_|refine q6 ?_|refine q8 ?_|refine q15 ?_|refine q16 rfl ?_)
  refine retQ_ret rfl (by repeat (first|exact List.Sublist.refl _|refine List.Sublist.cons _ ?_)) ⟨rfl,rfl, ?_⟩
  rw [decide_eq_false e1];rfl
 repeat (first|(refine q4 tab rfl rfl ?_)|(first|refine qs rfl (ql tab 0 rfl rfl rfl rfl rfl rfl ?_)|refine qs rfl (ql tab 1 rfl rfl rfl rfl rfl rfl ?_)))
 (refine TO.splitN rfl rfl (fun e2 => ?_) (fun e2 => ?_))
 ·repeat (first|refine q1 ?_|refine q3 ?_|refine q4 tab rfl rfl ?_|refine q5 ?_|refine q6 ?_|refine q8 ?_|refine q15 ?_|refine q16 rfl ?_)
  refine retQ_ret rfl (by repeat (first|exact List.Sublist.refl _|refine List.Sublist.cons _ ?_)) ⟨rfl,rfl, ?_⟩
  rw [decide_eq_true e1,decide_eq_false e2];rfl
 repeat (first|(refine q4 tab rfl rfl ?_)|(first|refine qs rfl (ql tab 0 rfl rfl rfl rfl rfl rfl ?_)|refine qs rfl (ql tab 1 rfl rfl rfl rfl rfl rfl ?_)))
 (refine TO.splitN rfl rfl (fun e3 => ?_) (fun e3 => ?_))
 ·repeat (first|refine q1 ?_|refine q3 ?_|refine q4 tab rfl rfl ?_|refine q5 ?_|refine q6 ?_|refine q8 ?_|refine q15 ?_|refine q16 rfl ?_)
  refine retQ_ret rfl (by repeat (first|exact List.Sublist.refl _|refine List.Sublist.cons _ ?_)) ⟨rfl,rfl, ?_⟩
  rw [decide_eq_true e1,decide_eq_true e2,decide_eq_false e3];rfl
 repeat (first|(first|refine q4 tab rfl rfl ?_|refine q5 ?_|refine q6 ?_)|(first|refine qs rfl (ql tab 0 rfl rfl rfl rfl rfl rfl ?_)|refine qs rfl (ql tab 1 rfl rfl rfl rfl rfl rfl ?_)))
 refine TC.condN rfl (fun e4 => ?_) (fun e4 => ?_)
 ·repeat (first|refine q1 ?_|refine q3 ?_|refine q4 tab rfl rfl ?_|refine q5 ?_|refine q6 ?_|refine q8 ?_|refine q15 ?_)
  refine retQ_ret rfl (by repeat (first|exact List.Sublist.refl _|refine List.Sublist.cons _ ?_)) ⟨rfl,rfl, ?_⟩
  rw [teqL_len (by omega)];simp
 rw [decide_eq_true e1,decide_eq_true e2,decide_eq_true e3,Bool.true_and,Bool.true_and,Bool.true_and]
 have hlen : a.kids.length=c.kids.length:=by omega
 repeat (first|refine q1 ?_|refine q2 ?_|refine q3 ?_|refine q4 tab rfl rfl ?_|refine q5 ?_|refine q6 ?_|refine q13 ?_)
 refine TC.loopK (ι:=Nat) [2,3] rfl (fun k=>[(5, .int .i64 (k : Int))]) (fun _=>m) (fun _ => .cells b2 0 (treeC g) :: .cells b 0 (treeC h) :: L) (fun k=>k ≤ a.kids.length∧teqL a.kids c.kids=teqL (a.kids.drop k) (c.kids.drop k)) (fun k=>a.kids.length - k) 0 (by repeat (first|exact trivial|refine And.intro rfl ?_)) rfl (by repeat (exact List.Sublist.refl _)) ⟨Nat.zero_le _,rfl⟩ ?_
 rintro k ⟨hk,hI⟩
 repeat (first|(first|refine q1 ?_|refine q3 ?_|refine q4 tab rfl rfl ?_|refine q5 ?_|refine q6 ?_)|(refine qs rfl (ql tab 1 rfl rfl rfl rfl rfl rfl ?_)))
 refine TC.condP rfl (fun hlt' => ?_) (fun hlt' => ?_)
 ·have hlt : k < a.kids.length:=by omega
  have hlt2 : k < c.kids.length:=by omega
  have hx : a.kids[k]? = some a.kids[k]:=by simp [hlt]
  have hx2 : c.kids[k]? = some c.kids[k]:=by simp [hlt2]
  rw [teqL_step _ _ k hlt hlt2] at hI
  repeat (first|refine q1 ?_|refine q2 ?_|refine q6 ?_|refine q13 ?_)
  refine TC.draw0 [] mixed 12 rfl ?_
  refine DO.pure tab (by repeat (first|exact Calm.ret|refine Calm.then ?_|refine Calm.block ?_)) (by kernel_rfl) [0] (by kernel_rfl) rfl ?_
  (refine DO.loadL tab 1 1 (by repeat (first|exact Calm.ret|refine Calm.then ?_|refine Calm.block ?_)) (by kernel_rfl) (by kernel_rfl) rfl rfl rfl rfl rfl rfl rfl rfl ?_)
  refine DO.pure tab (by repeat (first|exact Calm.ret|refine Calm.then ?_|refine Calm.block ?_)) (by kernel_rfl) [2] (by kernel_rfl) rfl ?_
  refine DO.index tab rTree 3 k h4 (by repeat (first|exact Calm.ret|refine Calm.then ?_|refine Calm.block ?_)) (by kernel_rfl) (by kernel_rfl) rfl rfl rfl rfl rfl rfl rfl (by first | rfl | omega) rfl hx ?_
  rintro b' i' h' hrd hA
  (refine DO.loadA (k:=0) tab 4 hA (by repeat (first|exact Calm.ret|refine Calm.then ?_|refine Calm.block ?_)) (by kernel_rfl) (by kernel_rfl) rfl rfl rfl rfl rfl rfl rfl ?_)
  refine DO.pure tab (by repeat (first|exact Calm.ret|refine Calm.then ?_|refine Calm.block ?_)) (by kernel_rfl) [5] (by kernel_rfl) rfl ?_
  (refine DO.loadL tab 6 0 (by repeat (first|exact Calm.ret|refine Calm.then ?_|refine Calm.block ?_)) (by kernel_rfl) (by kernel_rfl) rfl rfl rfl rfl rfl rfl rfl rfl ?_)
  refine DO.pure tab (by repeat (first|exact Calm.ret|refine Calm.then ?_|refine Calm.block ?_)) (by kernel_rfl) [7] (by kernel_rfl) rfl ?_
  refine DO.index tab rTree 8 k g4 (by repeat (first|exact Calm.ret|refine Calm.then ?_|refine Calm.block ?_)) (by kernel_rfl) (by kernel_rfl) rfl rfl rfl rfl rfl rfl rfl (by first | rfl | omega) rfl hx2 ?_
  rintro b'' i'' g' grd gA
  (refine DO.loadA (k:=0) tab 9 gA (by repeat (first|exact Calm.ret|refine Calm.then ?_|refine Calm.block ?_)) (by kernel_rfl) (by kernel_rfl) rfl rfl rfl rfl rfl rfl rfl ?_)
  refine DO.run 10 rfl rfl (by kernel_rfl) rfl (OT.call rfl rfl rfl rfl rfl rfl goes15 ((ih _ (List.getElem_mem hlt) c.kids[k] _ _ h' g' (rTree_iff.1 hrd) (rTree_iff.1 grd)).x ?_))
  rintro _ _ _ ⟨rfl,rfl,rfl⟩;refine ⟨Mem.le_refl _,_,List.Perm.refl _, ?_⟩
  refine DO.pure tab (by repeat (first|exact Calm.ret|refine Calm.then ?_|refine Calm.block ?_)) (by kernel_rfl) [11] (by kernel_rfl) rfl ?_
  (refine DO.nil0 (by kernel_rfl) ?_)
  rotate_left 1
  refine thenQ_n ?_
  skip
  refine TC.cond (t := !teq a.kids[k] c.kids[k]) rfl (fun e5 => ?_) (fun e5 => ?_)
  ·rw [Bool.not_eq_true'] at e5
   repeat (first|refine q1 ?_|refine q3 ?_|refine q4 tab rfl rfl ?_|refine q5 ?_|refine q6 ?_|refine q8 ?_|refine q9 ?_|refine q15 ?_)
   refine retQ_ret rfl (by repeat (first|exact List.Sublist.refl _|refine List.Sublist.cons _ ?_)) ⟨rfl,rfl, ?_⟩
   rw [hI,e5];rfl
  ·rw [Bool.not_eq_false'] at e5
   repeat (first|refine q3 ?_|refine q4 tab rfl rfl ?_|refine q6 ?_|refine q7 ?_|refine q13 ?_)
   refine TO.step rfl (OT.arith (r':=((k + 1 : Nat) : Int)) rfl rfl rfl rfl rfl rfl rfl (by omega) ?_)
   repeat (first|refine q4 tab rfl rfl ?_|refine q5 ?_|refine q6 ?_)
   exact ⟨k + 1,(by repeat (first|exact trivial|refine And.intro rfl ?_)),(by repeat (first|exact trivial|refine And.intro rfl ?_)),rfl,rfl,(by repeat (exact List.Sublist.refl _)),⟨by omega,by rw [hI,e5];rfl⟩,by omega⟩
 ·repeat (first|refine q1 ?_|refine q3 ?_|refine q4 tab rfl rfl ?_|refine q5 ?_|refine q6 ?_|refine q10 ?_|refine q11 ?_|refine q14 ?_|refine q15 ?_)
  refine retQ_ret rfl (by repeat (first|exact List.Sublist.refl _|refine List.Sublist.cons _ ?_)) ⟨rfl,rfl, ?_⟩
  rw [hI,List.drop_eq_nil_of_le (by omega),List.drop_eq_nil_of_le (by omega)];rfl
end Go.Sep


/- PtBack -/
set_option linter.unusedVariables false
set_option linter.unusedSimpArgs false
namespace Go.Sep
open Go.Proofs
attribute [local irreducible] TC TO OT TCallX TCall DO DOt thenQ blockQ retQ At
mutual
theorem inR_num2 : ∀ a : Tree,a.inR=true→Pt.numB2 a=true
 | .mk k n u ks,h=>by
  rw [Tree.inR,Bool.and_eq_true,Bool.and_eq_true] at h
  have h2:=of_decide_eq_true h.2.1
  rw [Pt.numB2,inRL_num2 ks h.2.2,Bool.and_true,decide_eq_true (show u < 9223372036854775808 by omega),Bool.or_true]
theorem inRL_num2 : ∀ l : List Tree,inRL l=true→Pt.numL l=true
 | [],_=>rfl
 | t :: ts,h=>by
  rw [inRL,Bool.and_eq_true] at h
  rw [Pt.numL,inR_num2 t h.1,inRL_num2 ts h.2];rfl
end
attribute [local irreducible] parseD scanD textD soundB
end Go.Sep


/- PtExprW -/
set_option linter.unusedVariables false
set_option linter.unusedSimpArgs false
namespace Go.Sep
open Go.Proofs
attribute [local irreducible] TC TO OT TCallX TCall DO DOt thenQ blockQ retQ At
set_option maxHeartbeats 1000000 in
theorem within_law (m : Mem) (L : List Item) (a : Tree) (h : HTree) (hr : TreeRep m h a) : TCall Tryz.prog 45 ⟨[treeV h]⟩ m L (Made m L fun r m' => ∃ y,r=treeV y∧TreeRep m' y (withinT a)):=by
 unfold TCall
 refine TCallX.enter Tryz.func45 rfl 17 rfl ?_
 repeat (first|refine q1 ?_|refine q3 ?_)
 refine TO.step rfl (OT.box rfl rfl rfl rfl rfl (fun b => ?_))
 skip
 refine TO.step rfl (OT.alloc tab rfl rfl rfl rfl (fun b2 => ?_))
 repeat (first|(first|refine q1 ?_|refine q3 ?_|refine q5 ?_|refine q6 ?_)|(refine qs rfl (qz tab 1 rfl rfl rfl rfl rfl rfl ?_)))
 refine TO.step rfl (OT.litR tab rTree (hs:=[h]) (l:=[a]) ⟨rTree_iff.2 hr,trivial⟩ rfl rfl rfl rfl rfl (by decide) (fun s1 m1 hm1 hs1 _ _ => ?_))
 have r1 : TreeRep m1 ⟨27,[],0,s1⟩ (.mk 27 [] 0 [a]):=⟨rfl,rfl,rfl,hs1⟩
 repeat (refine q4 tab rfl rfl ?_)
 refine TO.step rfl (OT.alloc tab rfl rfl rfl rfl (fun b3 => ?_))
 skip
 (refine TO.step rfl (OT.storeL0 tab 0 rfl rfl rfl rfl rfl rfl rfl rfl ?_))
 repeat (first|(first|refine q1 ?_|refine q3 ?_|refine q4 tab rfl rfl ?_|refine q5 ?_|refine q6 ?_)|(refine qs rfl (qz tab 0 rfl rfl rfl rfl rfl rfl ?_)))
 refine TO.step rfl (OT.litR tab rTree (hs:=[⟨27,[],0,s1⟩]) (l:=[.mk 27 [] 0 [a]]) ⟨rTree_iff.2 r1,trivial⟩ rfl rfl rfl rfl rfl (by decide) (fun s2 m2 hm2 hs2 _ _ => ?_))
 have r2 : TreeRep m2 ⟨20,[],0,s2⟩ (.mk 20 [] 0 [.mk 27 [] 0 [a]]):=⟨rfl,rfl,rfl,hs2⟩
 have r7 : TreeRep m2 ⟨7,[],0,⟨none,0,0⟩⟩ (.mk 7 [] 0 []):=⟨rfl,rfl,rfl,SlRep.nil _ _⟩
 repeat (refine q4 tab rfl rfl ?_)
 refine TO.step rfl (OT.litR tab rTree (hs:=[⟨7,[],0,⟨none,0,0⟩⟩,⟨20,[],0,s2⟩]) (l:=[.mk 7 [] 0 [], .mk 20 [] 0 [.mk 27 [] 0 [a]]]) ⟨rTree_iff.2 r7,rTree_iff.2 r2,trivial⟩ rfl rfl rfl rfl rfl (by decide) (fun s3 m3 hm3 hs3 _ _ => ?_))
 have r3 : TreeRep m3 ⟨4,[102],0,s3⟩ (.mk 4 [102] 0 [.mk 7 [] 0 [], .mk 20 [] 0 [.mk 27 [] 0 [a]]]):=⟨rfl,rfl,rfl,hs3⟩
 repeat (refine q4 tab rfl rfl ?_)
 refine TO.step rfl (OT.alloc tab rfl rfl rfl rfl (fun b4 => ?_))
 skip
 (refine TO.step rfl (OT.storeL0 tab 0 rfl rfl rfl rfl rfl rfl rfl rfl ?_))
 repeat (first|(first|refine q1 ?_|refine q3 ?_|refine q5 ?_|refine q6 ?_)|(refine qs rfl (qz tab 0 rfl rfl rfl rfl rfl rfl ?_)))
 refine TO.step rfl (OT.litR tab rTree (hs:=[⟨4,[102],0,s3⟩]) (l:=[.mk 4 [102] 0 [.mk 7 [] 0 [], .mk 20 [] 0 [.mk 27 [] 0 [a]]]]) ⟨rTree_iff.2 r3,trivial⟩ rfl rfl rfl rfl rfl (by decide) (fun s4 m4 hm4 hs4 _ _ => ?_))
 have hm:=Mem.le_trans hm1 (Mem.le_trans hm2 (Mem.le_trans hm3 hm4))
 repeat (refine q4 tab rfl rfl ?_)
 (refine TO.step rfl (OT.storeL0 tab 2 rfl rfl rfl rfl rfl rfl rfl rfl ?_))
 repeat (first|refine q5 ?_|refine q6 ?_|refine q15 ?_)
 refine retQ_ret_c1 tab 2 rfl rfl rfl rfl (L':=L) (by repeat (first|exact List.Sublist.refl _|refine List.Sublist.cons _ ?_)) ⟨hm,rfl,⟨1,[],0,s4⟩,rfl,⟨rfl,rfl,rfl,hs4⟩⟩
theorem within_wide {a : Tree} {n : Nat} (h : a.wide ≤ n) (hn : 1 ≤ n) : (withinT a).wide ≤ n:=by
 simp only [withinT,Tree.wide,wideL]
 have : ([102] : Str).length=1:=rfl
 simp only [List.length_nil]
 omega
set_option maxHeartbeats 1600000 in
theorem Expr_law (m : Mem) (L : List Item) (a : Tree) (h : HTree) (hT : Tb m) (hr : TreeRep m h a) (hB0 : a.wide ≤ 140737488355328) (hnum : Pt.numB2 a=true) :
  TCall Tryz.prog 20 ⟨[treeV h]⟩ m L (Made m L fun r _=>r = .tuple ⟨[strV (exprD a).1, .int .i64 (exprD a).2]⟩):=by
 unfold TCall
 refine TCallX.enter Tryz.func20 rfl 18 rfl ?_
 repeat (first|refine q1 ?_|refine q3 ?_)
 refine TO.step rfl (OT.box rfl rfl rfl rfl rfl (fun b => ?_))
 repeat (first|(first|refine q1 ?_|refine q3 ?_|refine q4 tab rfl rfl ?_|refine q5 ?_|refine q6 ?_)|(refine qs rfl (qz tab 0 rfl rfl rfl rfl rfl rfl ?_)))
 refine TO.step rfl (OT.call rfl rfl rfl rfl rfl rfl goes45 ((within_law _ _ a h hr).x ?_));
 rintro _ m1 _ ⟨hm,rfl,y,rfl,hy⟩
 skip
 refine TO.step rfl (OT.call rfl rfl rfl rfl rfl rfl goes18 ((sound_law (withinT a) _ _ y hy (within_wide hB0 (by decide))).x ?_));
 rintro _ _ _ ⟨rfl,rfl,rfl⟩
 repeat (first|refine q4 tab rfl rfl ?_|refine q5 ?_|refine q6 ?_)
 refine TC.cond (t := !soundB (withinT a)) rfl (fun hs => ?_) (fun hs => ?_)
 ·repeat (first|refine q1 ?_|refine q3 ?_|refine q4 tab rfl rfl ?_|refine q5 ?_|refine q6 ?_|refine q8 ?_|refine q15 ?_)
  refine retQ_ret rfl (by repeat (first|exact List.Sublist.refl _|refine List.Sublist.cons _ ?_)) ⟨hm,rfl, ?_⟩
  rw [exprD,if_neg (by simpa using hs)]
 ·have hs' : soundB (withinT a)=true:=by simpa using hs
  have hw:=(within_sound a).symm
  rw [hs'] at hw
  simp only [Bool.and_eq_true,decide_eq_true_eq] at hw
  have hv:=(Pt.v_all a hnum).expr hw.2.2
  have hlen0 : (putT (Pt.toks a)).length ≤ 140737488355328:=by
   have:=putT_len hv
   omega
  have hTm : Tb m1:=tbOk.mono hT hm
  have hr1:=hr.mono hm
  repeat (first|refine q1 ?_|refine q3 ?_|refine q4 tab rfl rfl ?_|refine q6 ?_|refine q13 ?_)
  refine TO.step rfl (OT.boxT rfl rfl rfl rfl rfl (fun bd ma hma hty => ?_))
  refine TO.grow0 (size:=1) ?_
  refine TO.perm (List.Perm.swap _ _ _) ?_
  have hB : BOk ma bd none ⟨none,0,0⟩ []:=⟨⟨_,hty,by kernel_rfl⟩, .inl rfl,SlRep.nil _ _,Own.nil,fun b o e=>(by cases e),fun _=>rfl⟩
  repeat (first|refine q1 ?_|refine q3 ?_|refine q4 tab rfl rfl ?_|refine q5 ?_|refine q6 ?_)
  (refine qs rfl (qz tab 2 rfl rfl rfl rfl rfl rfl ?_))
  skip
  refine TO.step rfl (OT.call rfl rfl rfl rfl rfl rfl goes46 (((pt_all tbOk itoa_law a).expr hnum hw.2.2 _ _ bd _ _ _ h (tbOk.mono hTm hma) hB (hr1.mono hma) (by simp;omega)).x ?_));
  rintro _ m2 _ ⟨hm2,s,q,rfl,hB⟩
  repeat (first|refine q1 ?_|refine q3 ?_|refine q4 tab rfl rfl ?_|refine q5 ?_|refine q6 ?_)
  refine TO.step rfl (OT.call rfl rfl rfl rfl rfl rfl goes38 ((text_w _ _ bd q s _ hB (by simpa using hlen0)).x ?_));
  rintro _ _ _ ⟨rfl,rfl,rfl⟩
  repeat (first|refine q4 tab rfl rfl ?_|refine q5 ?_|refine q6 ?_|refine q15 ?_)
  refine retQ_ret rfl (by repeat (first|exact List.Sublist.refl _|refine List.Sublist.cons _ ?_)) ⟨Mem.le_trans hm (Mem.le_trans hma hm2),rfl, ?_⟩
  rw [exprD,if_pos hs',List.nil_append]
def atT : Tree→List Int→Tree
 | a,[]=>a
 | a,w :: ws=>match a.kids[w.toNat]? with
  | some k=>atT k ws
  | none=>emptyT
theorem atT_step (a : Tree) (l : List Int) (i : Nat) (c : Tree) (h : i < l.length) (hc : atT a l=atT c (l.drop i)) : atT a l=match c.kids[l[i].toNat]? with | some k=>atT k (l.drop (i + 1)) | none=>emptyT:=by
 rw [hc,List.drop_eq_getElem_cons h,atT]
structure AtS where
 i : Nat
 c : Tree
 y : HTree
set_option maxHeartbeats 1600000 in
theorem at_law (m : Mem) (L : List Item) (a : Tree) (h : HTree) (hr : TreeRep m h a) (s : Sl) (l : List Int) (hs : SlRep rInt m s l) (hl : ∀ x ∈ l,0 ≤ x) :
  TCall Tryz.prog 22 ⟨[treeV h,s.v]⟩ m L (Made m L fun r m' => ∃ y,r=treeV y∧TreeRep m' y (atT a l)):=by
 have hlen:=hs.len
 have hsm:=hs.small rfl
 unfold TCall
 refine TCallX.enter Tryz.func22 rfl 30 rfl ?_
 repeat (first|refine q1 ?_|refine q3 ?_)
 refine TO.step rfl (OT.box rfl rfl rfl rfl rfl (fun b => ?_))
 skip
 refine TO.step rfl (OT.alloc tab rfl rfl rfl rfl (fun b2 => ?_))
 repeat (first|refine q1 ?_|refine q2 ?_|refine q3 ?_|refine q4 tab rfl rfl ?_|refine q5 ?_|refine q6 ?_)
 refine TC.loopK (ι:=AtS) [1,2,4] rfl (fun g=>[(5, .int .i64 (g.i : Int))]) (fun _=>m) (fun g => .cells b2 0 (treeC ⟨0,[],0,⟨none,0,0⟩⟩) :: .cells b 0 (treeC g.y) :: L) (fun g=>g.i ≤ l.length∧TreeRep m g.y g.c∧atT a l=atT g.c (l.drop g.i)) (fun g=>l.length - g.i) ⟨0,a,h⟩ (by repeat (first|exact trivial|refine And.intro rfl ?_)) rfl (by repeat (exact List.Sublist.refl _)) ⟨Nat.zero_le _,hr,rfl⟩ ?_
 rintro ⟨i,c,y⟩ ⟨hi,hrc,hI⟩
 simp only at hi hrc hI
 have hrc':=hrc
 obtain ⟨g1,g2,g3,g4⟩:=hrc
 have hkl:=g4.len
 have hks:=g4.small rfl
 repeat (first|refine q1 ?_|refine q3 ?_|refine q4 tab rfl rfl ?_|refine q5 ?_|refine q6 ?_)
 refine TC.condP rfl (fun h1 => ?_) (fun h1 => ?_)
 ·simp only at h1
  have hlt : i < l.length:=by omega
  have hxi : l[i]? = some l[i]:=List.getElem?_eq_getElem hlt
  have hx0:=hl l[i] (List.getElem_mem hlt)
  have hst:=atT_step a l i c hlt hI
  repeat (first|refine q1 ?_|refine q2 ?_|refine q6 ?_|refine q13 ?_)
  refine TC.draw [] mixed 8 rfl [.cells b2 0 (treeC ⟨0,[],0,⟨none,0,0⟩⟩), .cells b 0 (treeC y)] L (by first | exact List.Perm.refl _ | (rw [List.append_nil];exact List.Perm.refl _)) ?_
  refine DO.pure tab (by repeat (first|exact Calm.ret|refine Calm.then ?_|refine Calm.block ?_)) (by kernel_rfl) [0,1] (by kernel_rfl) rfl ?_
  refine DO.index tab rInt 2 i hs (by repeat (first|exact Calm.ret|refine Calm.then ?_|refine Calm.block ?_)) (by kernel_rfl) (by kernel_rfl) rfl rfl rfl rfl rfl rfl rfl (by first | rfl | omega) rfl hxi ?_
  rintro b3 i3 w3 hw3 hA3
  (refine DO.loadA (k:=0) tab 3 hA3 (by repeat (first|exact Calm.ret|refine Calm.then ?_|refine Calm.block ?_)) (by kernel_rfl) (by kernel_rfl) rfl rfl rfl rfl rfl rfl rfl ?_)
  refine DO.pure tab (by repeat (first|exact Calm.ret|refine Calm.then ?_|refine Calm.block ?_)) (by kernel_rfl) [4] (by kernel_rfl) rfl ?_
  (refine DO.loadL tab 5 1 (by repeat (first|exact Calm.ret|refine Calm.then ?_|refine Calm.block ?_)) (by kernel_rfl) (by kernel_rfl) rfl rfl rfl rfl rfl rfl rfl rfl ?_)
  refine DO.pure tab (by repeat (first|exact Calm.ret|refine Calm.then ?_|refine Calm.block ?_)) (by kernel_rfl) [6,7] (by kernel_rfl) rfl ?_
  (refine DO.nil (by kernel_rfl) ?_)
  rotate_left 1
  obtain rfl : w3=l[i]:=hw3
  repeat (refine q6 ?_)
  refine TC.condP rfl (fun h4 => ?_) (fun h4 => ?_)
  ·repeat (first|refine q1 ?_|refine q3 ?_|refine q4 tab rfl rfl ?_)
   (refine TO.step rfl (OT.storeL0 tab 0 rfl rfl rfl rfl rfl rfl rfl rfl ?_))
   repeat (first|refine q5 ?_|refine q6 ?_|refine q8 ?_|refine q9 ?_|refine q15 ?_)
   have hnone : c.kids[l[i].toNat]? = none:=List.getElem?_eq_none (by omega)
   rw [hnone] at hst
   refine retQ_ret_c1 tab 0 rfl rfl rfl rfl (L':=L) (by repeat (first|exact List.Sublist.refl _|refine List.Sublist.cons _ ?_)) ⟨Mem.le_refl _,rfl,⟨0,[],0,⟨none,0,0⟩⟩,rfl, ?_⟩
   rw [hst]
   exact ⟨rfl,rfl,rfl,SlRep.nil _ _⟩
  ·have hlt2 : l[i].toNat < c.kids.length:=by omega
   have hxk : c.kids[l[i].toNat]? = some c.kids[l[i].toNat]:=List.getElem?_eq_getElem hlt2
   repeat (first|refine q6 ?_|refine q13 ?_)
   refine TC.draw [8] mixed 9 rfl [.cells b2 0 (treeC ⟨0,[],0,⟨none,0,0⟩⟩), .cells b 0 (treeC y)] L (by first | exact List.Perm.refl _ | (rw [List.append_nil];exact List.Perm.refl _)) ?_
   refine DO.pure tab (by repeat (first|exact Calm.ret|refine Calm.then ?_|refine Calm.block ?_)) (by kernel_rfl) [0] (by kernel_rfl) rfl ?_
   (refine DO.loadL tab 1 1 (by repeat (first|exact Calm.ret|refine Calm.then ?_|refine Calm.block ?_)) (by kernel_rfl) (by kernel_rfl) rfl rfl rfl rfl rfl rfl rfl rfl ?_)
   refine DO.pure tab (by repeat (first|exact Calm.ret|refine Calm.then ?_|refine Calm.block ?_)) (by kernel_rfl) [2,3] (by kernel_rfl) rfl ?_
   refine DO.index tab rInt 4 i hs (by repeat (first|exact Calm.ret|refine Calm.then ?_|refine Calm.block ?_)) (by kernel_rfl) (by kernel_rfl) rfl rfl rfl rfl rfl rfl rfl (by first | rfl | omega) rfl hxi ?_
   rintro b3 i3 w3 hw3 hA3;obtain rfl : w3=l[i]:=hw3
   (refine DO.loadA (k:=0) tab 5 hA3 (by repeat (first|exact Calm.ret|refine Calm.then ?_|refine Calm.block ?_)) (by kernel_rfl) (by kernel_rfl) rfl rfl rfl rfl rfl rfl rfl ?_)
   refine DO.index tab rTree 6 (l[i].toNat) g4 (by repeat (first|exact Calm.ret|refine Calm.then ?_|refine Calm.block ?_)) (by kernel_rfl) (by kernel_rfl) rfl rfl rfl rfl rfl rfl rfl (by first | rfl | omega) rfl hxk ?_
   rintro b5 i5 y5 hy5 hA5
   (refine DO.loadA (k:=0) tab 7 hA5 (by repeat (first|exact Calm.ret|refine Calm.then ?_|refine Calm.block ?_)) (by kernel_rfl) (by kernel_rfl) rfl rfl rfl rfl rfl rfl rfl ?_)
   refine DO.tail ?_
   refine DOt.run 8 rfl rfl (by kernel_rfl) rfl ?_
   (refine OT.storeL0 tab 1 rfl rfl rfl rfl rfl rfl rfl rfl ?_)
   refine DOt.nil (by kernel_rfl) ?_
   rotate_left 1
   rw [hxk] at hst
   repeat (first|refine q3 ?_|refine q4 tab rfl rfl ?_|refine q6 ?_|refine q7 ?_)
   refine TO.step rfl (OT.arith (r':=((i + 1 : Nat) : Int)) rfl rfl rfl rfl rfl rfl rfl (by omega) ?_)
   repeat (first|refine q4 tab rfl rfl ?_|refine q5 ?_|refine q6 ?_)
   exact ⟨⟨i + 1,c.kids[l[i].toNat],y5⟩,(by repeat (first|exact trivial|refine And.intro rfl ?_)),(by repeat (first|exact trivial|refine And.intro rfl ?_)),rfl,rfl,(by repeat (exact List.Sublist.refl _)),⟨by simp only;omega,rTree_iff.1 hy5,hst⟩,by simp only;omega⟩
 ·simp only at h1
  rw [List.drop_eq_nil_of_le (by omega)] at hI
  repeat (first|(first|refine q1 ?_|refine q3 ?_|refine q6 ?_|refine q10 ?_|refine q11 ?_|refine q14 ?_)|(refine qs rfl (qz tab 1 rfl rfl rfl rfl rfl rfl ?_)))
  (refine TO.step rfl (OT.storeL0 tab 0 rfl rfl rfl rfl rfl rfl rfl rfl ?_))
  repeat (first|refine q5 ?_|refine q6 ?_|refine q15 ?_)
  refine retQ_ret_c1 tab 0 rfl rfl rfl rfl (L':=L) (by repeat (first|exact List.Sublist.refl _|refine List.Sublist.cons _ ?_)) ⟨Mem.le_refl _,rfl,y,rfl, ?_⟩
  rw [hI]
  exact hrc'
end Go.Sep

