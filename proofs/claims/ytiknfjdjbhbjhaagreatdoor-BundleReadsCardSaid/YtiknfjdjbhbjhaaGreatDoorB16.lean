/-
  Part 16 of the proof: library, walks and plain laws.
-/
import Derived.Laws.StructEq
import Derived.Test.YtiknfjdjbhbjhaaGreatDoorB15
set_option linter.unusedVariables false
set_option linter.unusedSimpArgs false
namespace Go.Sep
def scEq : TypeDesc→Value→Value→Option Bool
 | .int _, .int k x, .int k' y=>bif sameKind k k' then some (decide (x=y)) else none
 | .string, .string ⟨⟨x⟩⟩, .string ⟨⟨y⟩⟩=>some (decide (x=y))
 | .bool, .bool x, .bool y=>some (x == y)
 | _,_,_=>none
def stEq {P : Program} (T : Tab P) (xs ys : List Value) : List Field→Option Bool
 | []=>some true
 | f :: fs=>match f.name == "_",T.get f.type,T.part f.type xs f.offset,T.part f.type ys f.offset with
  | false,some i,some a,some b=>match scEq i.u a b,stEq T xs ys fs with
   | some p,some q=>some (p && q)
   | _,_=>none
  | _,_,_,_=>none
section
variable {P : Program} {N : Nat} {ρ : Env} {D : List Deferred} {m : Mem} {L : List Item} {Q : EPost} {o : Oper} {K : Env→Mem→List Item→Prop}
theorem run_sc (T : Tab P) {t : TypeId} {i : TI} {a b : Value} {r : Bool} (w : World) (d : Nat) (h : T.get t=some i) (e : scEq i.u a b=some r) : (Op.equalIn (d + 1) t a b).run P w = .ok r w:=by
 have hu:=T.run_underlying w h
 unfold scEq at e
 split at e
 ·rename_i u k x k' y hiu
  rw [hiu] at hu
  cases hk : sameKind k k' with
  | false=>rw [hk] at e;cases e
  | true =>
   rw [hk] at e
   obtain rfl:=sameKind_eq hk
   simp only [cond_true,Option.some.injEq] at e
   subst e
   simp only [Op.equalIn,Sem.run_bind,hu,Result.andThen_ok,if_true,Sem.run_pure,beq_dec]
 ·rename_i u x y hiu
  rw [hiu] at hu
  simp only [Option.some.injEq] at e
  subst e
  obtain ⟨info,h1,hu2,_⟩:=T.ok t _ h
  rw [hiu] at hu2
  rw [run_equalIn_string w d t ⟨⟨x⟩⟩ ⟨⟨y⟩⟩ hu2]
  simp only [toList_mk,beq_dec]
 ·rename_i u x y hiu
  rw [hiu] at hu
  simp only [Option.some.injEq] at e
  subst e
  simp only [Op.equalIn,Sem.run_bind,hu,Result.andThen_ok,Sem.run_pure]
 ·cases e
theorem run_fields (T : Tab P) {xs ys : List Value} (w : World) (d : Nat) : ∀ (fs : List Field) (r : Bool),stEq T xs ys fs=some r→(Op.eqFields (d + 1) ⟨xs⟩ ⟨ys⟩ fs).run P w = .ok r w
 | [],r,h=>by
  simp only [stEq,Option.some.injEq] at h
  subst h
  simp [Op.eqFields]
 | f :: fs,r,h=>by
  unfold stEq at h
  split at h
  ·rename_i i a b hn hi ha hb
   split at h
   ·rename_i p q hp hq
    simp only [Option.some.injEq] at h
    have hne : f.name ≠ "_":=by
     intro e;rw [e] at hn;cases hn
    have h1:=run_sc T w d hi hp
    have h2:=run_fields T w d fs q hq
    have h3:=T.run_part w ha
    have h4:=T.run_part w hb
    simp only [Op.eqFields,hne,ne_eq,not_false_eq_true,if_true,Sem.run_bind,h3,h4,h1,Result.andThen_ok]
    subst h
    cases p
    ·simp
    ·simpa using h2
   ·cases h
  ·cases h
def Tab.fieldsS {P : Program} (T : Tab P) (t : TypeId) : Option (List Field) :=
 match T.get t with
 | some ⟨.struct fs,_,_,_⟩=>some fs.toList
 | _=>none
theorem run_eqS (T : Tab P) {t : TypeId} {xs ys : List Value} {fs : List Field} {r : Bool} (w : World) (hf : T.fieldsS t=some fs) (hs : P.stoodInHeld t=false) (h : stEq T xs ys fs=some r) : (Op.equal t (.agg ⟨xs⟩) (.agg ⟨ys⟩)).run P w = .ok r w:=by
 unfold Tab.fieldsS at hf
 split at hf
 ·rename_i g _ _ _ hi
  simp only [Option.some.injEq] at hf
  obtain ⟨info,h1,hu,_⟩:=T.ok t _ hi
  have hfs : P.fieldsOf t=g:=by simp [Program.fieldsOf,hu]
  show (Op.equalIn (9998 + 1 + 1) t _ _).run P w=_
  rw [run_equalIn_struct (P:=P) w (9998 + 1) t ⟨xs⟩ ⟨ys⟩ (by rw [hfs];exact hu) hs,hfs,hf]
  exact run_fields T w 9998 fs r h
 ·cases hf
theorem OT.eqS (T : Tab P) {t t' : TypeId} {x y : Operand} {xs ys : List Value} {fs : List Field} {r : Bool} {d : Nat} (ho : o.op = .binOp .eql t x y t') (hd : o.dst=some d) (hN : Nat.blt d N=true) (hx : ev ρ x=some (.agg ⟨xs⟩)) (hy : ev ρ y=some (.agg ⟨ys⟩))
  (hf : T.fieldsS t=some fs) (hs : P.stoodInHeld t=false) (hg : P.eqGuardType P.depth t=false) (h : stEq T xs ys fs=some r) (hK : K ((d, .bool r) :: ρ) m L) : OT P N o ρ D m L Q K:=by
 refine OT.run hd hN (fun ac w ha=>⟨w, ?_,ha.st⟩) hK
 have hr:=run_eqS T w hf hs h
 simp only [execOp,ho,ha.env.eval hx,ha.env.eval hy,eqGuard,binOp,Sem.run_bind,Sem.run_pure,Result.andThen_ok,hr,run_program,hg]
 simp [hr,hg]
theorem OT.neS (T : Tab P) {t t' : TypeId} {x y : Operand} {xs ys : List Value} {fs : List Field} {r : Bool} {d : Nat} (ho : o.op = .binOp .neq t x y t') (hd : o.dst=some d) (hN : Nat.blt d N=true) (hx : ev ρ x=some (.agg ⟨xs⟩)) (hy : ev ρ y=some (.agg ⟨ys⟩))
  (hf : T.fieldsS t=some fs) (hs : P.stoodInHeld t=false) (hg : P.eqGuardType P.depth t=false) (h : stEq T xs ys fs=some r) (hK : K ((d, .bool (!r)) :: ρ) m L) : OT P N o ρ D m L Q K:=by
 refine OT.run hd hN (fun ac w ha=>⟨w, ?_,ha.st⟩) hK
 have hr:=run_eqS T w hf hs h
 simp only [execOp,ho,ha.env.eval hx,ha.env.eval hy,eqGuard,binOp,Sem.run_bind,Sem.run_pure,Result.andThen_ok,hr,run_program,hg]
 simp [hr,hg]
end
end Go.Sep
set_option linter.unusedVariables false
set_option linter.unusedSimpArgs false
namespace Go.Sep
open Go.Proofs
attribute [local irreducible] TC TO OT TCallX TCall DO DOt thenQ blockQ retQ At
def awF : List Ch:=[⟨[98],[120]⟩,⟨[97],[112,10,113]⟩]
def awM : List Ch:=[⟨[109],[102,117,110,99,32,109,97,105,110,40,41,32,123,32,112,114,105,110,116,40,49,41,59,32,125]⟩]
theorem awF0 : errD awF=0:=by decide +kernel
theorem awFo : ordF awF=[⟨[97],[112,10,113]⟩,⟨[98],[120]⟩]:=by decide +kernel
theorem awM0 : errD awM=0:=by decide +kernel
theorem awMj : joinD (ordF awM)=[102,117,110,99,32,109,97,105,110,40,41,32,123,32,112,114,105,110,116,40,49,41,59,32,125,10]:=by decide +kernel
theorem awW : Wide awF:=by
 intro x hx
 simp only [awF,List.mem_cons,List.not_mem_nil,or_false] at hx
 rcases hx with rfl | rfl <;> simp
theorem awMW : Wide awM:=by
 intro x hx
 simp only [awM,List.mem_cons,List.not_mem_nil,or_false] at hx
 subst hx
 simp
theorem awJ : joinX awF=[112,10,113,10,120,10]:=by
 rw [joinX,if_pos awF0,awFo];rfl
set_option maxHeartbeats 1000000 in
theorem awake_law (m : Mem) (L : List Item) : TCall Tryz.prog 12 ⟨[]⟩ m L (Made m L fun r _=>r = .bool true):=by
 unfold TCall
 refine TCallX.enter Tryz.func12 rfl 53 rfl ?_
 refine uA ?_
 refine TO.step rfl (OT.litR tab rCh (hs:=awF) (l:=awF) (all2_refl _) rfl rfl rfl rfl rfl (by decide) (fun sA m1 hm1 hsA hoA hcA => ?_))
 refine uA ?_
 refine TO.step rfl (OT.call rfl rfl rfl rfl rfl rfl goes10 ((join_law sA awF m1 L hsA awW).x ?_));
 rintro _ m2 _ ⟨hm2,rfl,rfl⟩
 rw [awJ,awF0]
 refine uA ?_
 refine TO.step rfl (OT.call rfl rfl rfl rfl rfl rfl goes15 ((where_law sA awF 2 m2 _ (hsA.mono hm2) awW).x ?_));
 rintro _ m3 _ ⟨hm3,rfl,hR⟩
 rcases hR with ⟨h0, -⟩ | ⟨-,h1, -⟩ | ⟨-,k,f,hk,hks,hF,rfl⟩
 ·exact absurd awF0 h0
 ·exfalso
  have : sumD awF=6:=by decide +kernel
  omega
 ·obtain rfl : k=2:=by omega
  rw [awFo] at hF ⊢
  have hf : f=0:=by
   have h1:=hF.lt
   have h2:=hF.lo
   match f,h1,h2 with
   | 0,_,_=>rfl
   | 1,_,h2=>simp [sumD] at h2
   | n + 2,h1,_=>simp at h1;omega
  subst hf
  rw [show spotV 0 (((joinD [⟨[97],[112,10,113]⟩,⟨[98],[120]⟩]).take 2).drop (sumD (([⟨[97],[112,10,113]⟩,⟨[98],[120]⟩] : List Ch).take 0))) = .agg ⟨[.int .i64 1, .int .i64 2, .int .i64 1]⟩ by rfl]
  refine uA ?_
  refine TO.step rfl (OT.alloc tab rfl rfl rfl rfl (fun b4 => ?_))
  refine uA ?_
  refine uT ?_
  refine uA ?_
  refine TO.step rfl (OT.litR tab rCh (hs:=awM) (l:=awM) (all2_refl _) rfl rfl rfl rfl rfl (by decide) (fun sB m4 hm4 hsB hoB hcB => ?_))
  refine uA ?_
  refine TO.step rfl (OT.call rfl rfl rfl rfl rfl rfl goes26 ((runB_law sB awM m4 _ hsB awMW awM0 awMj).x ?_));
  rintro _ m5 _ ⟨hm5,rfl,k0,k1,k2,k4,k5,x0,x1,x2,x4,x5,bo,oo,co,rfl,hO,hc2⟩
  refine uA ?_
  refine TO.step rfl (OT.alloc tab rfl rfl rfl rfl (fun b6 => ?_))
  refine uA ?_
  refine uT ?_
  refine uA ?_
  refine uM ?_
  refine uA ?_
  refine TO.step rfl (OT.eqS tab rfl rfl rfl rfl rfl rfl (by kernel_rfl) (by kernel_rfl) rfl ?_)
  refine uA ?_
  refine uM ?_
  have hsO : SlRep rByte m5 ⟨some ⟨bo,oo,none⟩,2,co⟩ [49,10]:=⟨rfl,hc2,(by show 2 * 1 ≤ 140737488355328;decide),[49,10],⟨rfl,rfl,trivial⟩, .inr ⟨bo,oo,rfl,hO⟩⟩
  refine TO.step rfl (OT.bytesStr tab (s:=⟨some ⟨bo,oo,none⟩,2,co⟩) rfl rfl rfl rfl rfl rfl rfl hsO (by decide) ?_)
  refine uA ?_
  refine retQ_ret rfl (L':=L) uS ⟨Mem.le_trans hm1 (Mem.le_trans hm2 (Mem.le_trans hm3 (Mem.le_trans hm4 hm5))),rfl,rfl⟩
end Go.Sep
set_option linter.unusedVariables false
set_option linter.unusedSimpArgs false
namespace Go.Sep
open Go.Proofs
attribute [local irreducible] TC TO OT TCallX TCall DO DOt thenQ blockQ retQ At
def Dif (l : List Ch) (i : Nat) : Prop := ∀ a b,a < b→b < i→(gk l a).nm ≠ (gk l b).nm
def SumOk (l : List Ch) (acc : Int) (k : Nat) : Prop:=(acc ≤ 65536∧acc=(sumD (l.take k) : Int)) ∨ (65536 < acc∧acc ≤ 140000∧65536 < sumD (l.take k))
theorem Dif.nam {l : List Ch} (h : Dif l l.length) : Nam l:=by
 unfold Nam
 refine List.pairwise_map.2 (List.pairwise_iff_getElem.2 fun i j hi hj hij => ?_)
 have e : ∀ k (hk : k < l.length),gk l k=l[k]:=fun k hk=>Option.some.inj ((gk_get hk).symm.trans (by simp [hk]))
 have:=h i j hij hj
 rw [e i hi,e j hj] at this
 exact this
theorem not_nam' {l : List Ch} {a b : Nat} (h : a < b) (hb : b < l.length) (e : (gk l b).nm=(gk l a).nm) : ¬ Nam l:=fun hn=>by
 have h2:=List.pairwise_iff_getElem.1 hn a b (by simp;omega) (by simp;omega) h
 have e' : ∀ k (hk : k < l.length),gk l k=l[k]:=fun k hk=>Option.some.inj ((gk_get hk).symm.trans (by simp [hk]))
 rw [e' a (by omega),e' b hb] at e
 exact h2 (by simp [e])
theorem all_names {l : List Ch} (h : ∀ i,i < l.length→isName (gk l i).nm=true) : l.any (fun x => !isName x.nm)=false:=by
 rw [List.any_eq_false]
 intro x hx
 obtain ⟨i,hi,rfl⟩:=List.getElem_of_mem hx
 have e : gk l i=l[i]:=Option.some.inj ((gk_get hi).symm.trans (by simp [hi]))
 have:=h i hi
 rw [e] at this
 simp [this]
theorem bad_name {l : List Ch} {i : Nat} (hi : i < l.length) (h : isName (gk l i).nm=false) : l.any (fun x => !isName x.nm)=true:=by
 rw [List.any_eq_true]
 have e : gk l i=l[i]:=Option.some.inj ((gk_get hi).symm.trans (by simp [hi]))
 exact ⟨l[i],List.getElem_mem hi,by rw [← e,h];rfl⟩
set_option maxHeartbeats 2000000 in
theorem check_ref (s : Sl) (l : List Ch) (m : Mem) (L : List Item) (hs : SlRep rCh m s l) (hw : Wide l) : TCall Tryz.prog 11 ⟨[s.v]⟩ m L (Ret (.int .i64 (errD l)) m L):=by
 have hl:=hs.len
 have hsm:=hs.small rfl
 have hwk : ∀ i,i < l.length→(gk l i).nm.length ≤ 140737488355328∧(gk l i).tx.length ≤ 140737488355328:=fun i hi=>hw _ (List.mem_of_getElem? (gk_get hi))
 unfold TCall
 refine TCallX.enter Tryz.func11 rfl 65 rfl ?_
 refine uA ?_
 refine TC.condP rfl (fun h64 => ?_) (fun h64 => ?_)
 ·refine uA ?_
  refine retQ_ret rfl uS ⟨rfl,rfl, ?_⟩
  rw [errD,if_pos (by omega)]
 ·have e64 : ¬ 64 < l.length:=by omega
  refine uA ?_
  refine TC.loopK (ι:=Nat) [0] rfl (fun k=>[(3, .int .i64 (k : Int))]) (fun _=>m) (fun _=>L) (fun k=>k ≤ l.length ∧ ∀ i,i < k→isName (gk l i).nm=true) (fun k=>l.length - k) 0 uH rfl uS ⟨Nat.zero_le _,fun i h=>by omega⟩ ?_
  rintro k ⟨hk,hI⟩
  refine uA ?_
  refine TC.condP rfl (fun h5 => ?_) (fun h5 => ?_)
  ·have hlt : k < l.length:=by omega
   have hx : l[k]? = some (gk l k):=gk_get hlt
   refine uA ?_
   refine TO.step rfl (OT.index tab rCh k hs rfl rfl rfl rfl rfl (by first | rfl | omega | (simp only;omega)) rfl hx ?_)
   rintro b1 i1 f1 hr1 hA1
   obtain rfl : f1=gk l k:=hr1
   refine uA ?_
   (refine TO.step rfl (OT.loadA tab hA1 rfl rfl rfl rfl rfl ?_))
   refine uA ?_
   refine TO.step rfl (OT.call rfl rfl rfl rfl rfl rfl goes25 ((name_ref m L (gk l k).nm (hwk k hlt).1).x ?_));
   rintro _ _ _ ⟨rfl,rfl,rfl⟩
   refine uA ?_
   cases hn : isName (gk l k).nm with
   | false =>
    refine uA ?_
    refine retQ_ret rfl uS ⟨rfl,rfl, ?_⟩
    rw [errD,if_neg e64,if_pos (bad_name hlt hn)]
   | true =>
    refine uA ?_
    refine TO.step rfl (OT.arith (r':=((k + 1 : Nat) : Int)) rfl rfl rfl rfl rfl rfl rfl (by omega) ?_)
    refine uA ?_
    exact ⟨k + 1,uH,uH,rfl,rfl,uS,⟨hlt,fun i hi=>by
     by_cases e : i=k
     ·subst e;exact hn
     ·exact hI i (by omega)⟩,by omega⟩
  ·obtain rfl : k=l.length:=by omega
   have hany:=all_names hI
   refine uA ?_
   refine TC.loopK (ι:=Nat × Int) [0] rfl (fun x=>[(5, .int .i64 (x.1 : Int)),(4, .int .i64 x.2)]) (fun _=>m) (fun _=>L) (fun x=>x.1 ≤ l.length∧Dif l x.1∧SumOk l x.2 x.1) (fun x=>l.length - x.1) (0,0) uH rfl uS ⟨Nat.zero_le _,fun a b _ h=>by simp only at h;omega, .inl ⟨(by decide),rfl⟩⟩ ?_
   rintro ⟨i,acc⟩ ⟨hi,hD,hS⟩
   simp only at hi hD hS ⊢
   refine uA ?_
   refine TC.condP rfl (fun h6 => ?_) (fun h6 => ?_)
   ·have hlt : i < l.length:=by omega
    have hx : l[i]? = some (gk l i):=gk_get hlt
    have hnx:=sumD_next hlt
    have hwi:=(hwk i hlt).2
    refine uA ?_
    refine TC.loopK (ι:=Nat) [0,4,5] rfl (fun k=>[(6, .int .i64 (k : Int))]) (fun _=>m) (fun _=>L) (fun k=>k ≤ i ∧ ∀ a,a < k→(gk l a).nm ≠ (gk l i).nm) (fun k=>i - k) 0 uH rfl uS ⟨Nat.zero_le _,fun a h=>by omega⟩ ?_
    rintro k ⟨hk,hJ⟩
    refine uA ?_
    refine TC.condP rfl (fun h7 => ?_) (fun h7 => ?_)
    ·have hki : k < i:=by omega
     have hxk : l[k]? = some (gk l k):=gk_get (by omega)
     refine uA ?_
     refine TC.draw0 [] mixed 11 rfl ?_
     refine DO.pure tab uC (by kernel_rfl) [0,1] (by kernel_rfl) rfl ?_
     refine DO.index tab rCh 2 i hs uC (by kernel_rfl) (by kernel_rfl) rfl rfl rfl rfl rfl rfl rfl (by first | rfl | omega) rfl hx ?_
     rintro b1 i1 f1 hr1 hA1;obtain rfl : f1=gk l i:=hr1
     refine DO.pure tab uC (by kernel_rfl) [3] (by kernel_rfl) rfl ?_
     (refine DO.loadA tab 4 hA1 uC (by kernel_rfl) (by kernel_rfl) rfl rfl rfl rfl rfl rfl rfl ?_)
     refine DO.pure tab uC (by kernel_rfl) [5,6] (by kernel_rfl) rfl ?_
     refine DO.index tab rCh 7 k hs uC (by kernel_rfl) (by kernel_rfl) rfl rfl rfl rfl rfl rfl rfl (by first | rfl | omega) rfl hxk ?_
     rintro b2 i2 f2 hr2 hA2;obtain rfl : f2=gk l k:=hr2
     refine DO.pure tab uC (by kernel_rfl) [8] (by kernel_rfl) rfl ?_
     (refine DO.loadA tab 9 hA2 uC (by kernel_rfl) (by kernel_rfl) rfl rfl rfl rfl rfl rfl rfl ?_)
     refine DO.pure tab uC (by kernel_rfl) [10] (by kernel_rfl) rfl ?_
     (refine DO.nil0 (by kernel_rfl) ?_)
     rotate_left 1
     refine uA ?_
     refine TC.condP rfl (fun hq => ?_) (fun hq => ?_)
     ·refine uA ?_
      refine retQ_ret rfl uS ⟨rfl,rfl, ?_⟩
      rw [errD,if_neg e64,if_neg (by simpa using hany),if_pos (not_nam' hki hlt hq)]
     ·refine uA ?_
      refine TO.step rfl (OT.arith (r':=((k + 1 : Nat) : Int)) rfl rfl rfl rfl rfl rfl rfl (by omega) ?_)
      refine uA ?_
      exact ⟨k + 1,uH,uH,rfl,rfl,uS,⟨by omega,fun a ha=>by
       by_cases e : a=k
       ·subst e;exact fun h=>hq h.symm
       ·exact hJ a (by omega)⟩,by omega⟩
    ·obtain rfl : k=i:=by omega
     have hD2 : Dif l (k + 1):=fun a b h1 h2=>by
      by_cases e : b=k
      ·subst e;exact hJ a h1
      ·exact hD a b h1 (by omega)
     refine uA ?_
     refine TO.step rfl (OT.index tab rCh k hs rfl rfl rfl rfl rfl (by first | rfl | omega | (simp only;omega)) rfl hx ?_)
     rintro b1 i1 f1 hr1 hA1
     obtain rfl : f1=gk l k:=hr1
     refine uA ?_
     (refine TO.step rfl (OT.loadA tab hA1 rfl rfl rfl rfl rfl ?_))
     refine uA ?_
     refine TC.condP rfl (fun h8 => ?_) (fun h8 => ?_)
     ·refine uA ?_
      refine TO.step rfl (OT.arith (r':=((k + 1 : Nat) : Int)) rfl rfl rfl rfl rfl rfl rfl (by omega) ?_)
      refine uA ?_
      exact ⟨(k + 1,70000),uH,uH,rfl,rfl,uS,⟨hlt,hD2, .inr ⟨by simp only;omega,by simp only;omega,by simp only;omega⟩⟩,by simp only;omega⟩
     ·refine uA ?_
      refine TC.condP rfl (fun h9 => ?_) (fun h9 => ?_)
      ·refine uA ?_
       refine TO.step rfl (OT.index tab rCh k hs rfl rfl rfl rfl rfl (by first | rfl | omega | (simp only;omega)) rfl hx ?_)
       rintro b2 i2 f2 hr2 hA2
       obtain rfl : f2=gk l k:=hr2
       refine uA ?_
       (refine TO.step rfl (OT.loadA tab hA2 rfl rfl rfl rfl rfl ?_))
       refine uA ?_
       refine TO.step rfl (OT.arith (r':=(((gk l k).tx.length + 1 : Nat) : Int)) rfl rfl rfl rfl rfl rfl rfl (by omega) ?_)
       refine uA ?_
       refine TO.step rfl (OT.arith (r':=acc + (((gk l k).tx.length + 1 : Nat) : Int)) rfl rfl rfl rfl rfl rfl (by unfold SumOk at hS;omega) (by unfold SumOk at hS;omega) ?_)
       refine uA ?_
       refine TO.step rfl (OT.arith (r':=((k + 1 : Nat) : Int)) rfl rfl rfl rfl rfl rfl rfl (by omega) ?_)
       refine uA ?_
       exact ⟨(k + 1,acc + (((gk l k).tx.length + 1 : Nat) : Int)),uH,uH,rfl,rfl,uS,⟨hlt,hD2,by
        simp only
        unfold SumOk at hS ⊢
        omega⟩,by simp only;omega⟩
      ·refine uA ?_
       refine TO.step rfl (OT.arith (r':=((k + 1 : Nat) : Int)) rfl rfl rfl rfl rfl rfl rfl (by omega) ?_)
       refine uA ?_
       exact ⟨(k + 1,acc),uH,uH,rfl,rfl,uS,⟨hlt,hD2,by
        simp only
        unfold SumOk at hS ⊢
        omega⟩,by simp only;omega⟩
   ·obtain rfl : i=l.length:=by omega
    rw [SumOk,List.take_length] at hS
    have hnam:=hD.nam
    refine uA ?_
    refine TC.condP rfl (fun h8 => ?_) (fun h8 => ?_)
    ·refine uA ?_
     refine retQ_ret rfl uS ⟨rfl,rfl, ?_⟩
     rw [errD,if_neg e64,if_neg (by simpa using hany),if_neg (by simpa using hnam),if_pos (by omega)]
    ·refine uA ?_
     refine retQ_ret rfl uS ⟨rfl,rfl, ?_⟩
     rw [errD,if_neg e64,if_neg (by simpa using hany),if_neg (by simpa using hnam),if_neg (by omega)]
end Go.Sep
set_option linter.unusedVariables false
set_option linter.unusedSimpArgs false
namespace Go.Sep
open Go.Proofs
attribute [local irreducible] TC TO OT TCallX TCall DO DOt thenQ blockQ retQ At
theorem sorted_nam {ys l : List Ch} (hp : ys.Perm l) (hn : Nam l) (hs : Sn ltC ys 0 ys.length) : ys=ordF l:=by
 have hny:=(Nam.perm hp).2 hn
 refine sorted_ord hp (sorted_of hs fun i h0 hi e => ?_)
 have h2:=List.pairwise_iff_getElem.1 hny (i - 1) i (by simp;omega) (by simp;omega) (by omega)
 have e' : ∀ k (hk : k < ys.length),gk ys k=ys[k]:=fun k hk=>Option.some.inj ((gk_get hk).symm.trans (by simp [hk]))
 rw [e' i hi,e' (i - 1) (by omega)] at e
 exact h2 (by simp [e])
def SortR (l : List Ch) (r : Value) (m : Mem) : Prop := ∃ s : Sl,r=s.v ∧ ∃ ys,SlRep rCh m s ys∧ys.Perm l∧Sn ltC ys 0 ys.length
set_option maxHeartbeats 2000000 in
theorem sorted_ref (s : Sl) (l : List Ch) (m : Mem) (L : List Item) (hs : SlRep rCh m s l) (hb : l.length ≤ 64) : TCall Tryz.prog 27 ⟨[s.v]⟩ m L (Made m L fun r m'=>SortR l r m'):=by
 have hl:=hs.len
 have hf:=hs.fit
 unfold TCall
 refine TCallX.enter Tryz.func27 rfl 51 rfl ?_
 refine uA ?_
 refine TO.step rfl (OT.lit tab rfl rfl rfl rfl (fun b => ?_))
 refine TO.growL b rCh.size ?_
 refine TO.perm (List.Perm.swap _ _ _) ?_
 refine uA ?_
 refine TO.step rfl (OT.appendB (s:=⟨some ⟨b,0,none⟩,0,0⟩) (hs:=[]) tab rCh (.inr ⟨b,rfl⟩) rfl (Nat.le_refl _) hs rfl rfl rfl rfl rfl rfl (by rw [← hl];simpa using hf) (fun s1 hs2 hr hlen hcap hown => ?_))
 obtain rfl : hs2=l:=all2_same hr
 have hlen' : s1.len=hs2.length:=hlen.symm
 clear hr hlen
 rw [show encs rCh ([]++hs2)=encs rCh hs2 from rfl]
 rcases hown with h0 | ⟨bd,hbd⟩
 ·have hz : hs2=[]:=List.eq_nil_of_length_eq_zero (by rw [← hlen',h0])
  subst hz
  subst h0
  refine uA ?_
  refine TC.loopK (ι:=Unit) [3] rfl (fun x=>[(4, .int .i64 0)]) (fun _=>m) (fun x=>L) (fun x=>True) (fun x=>0) () uH rfl uS trivial ?_
  rintro _ _
  refine uA ?_
  refine retQ_ret rfl (L':=L) uS ⟨Mem.le_refl _,rfl,⟨none,0,0⟩,rfl,[],SlRep.nil _ _, .refl _,fun i j _ _ h=>by simp at h⟩
 ·obtain ⟨a1,n1,c1⟩:=s1
  simp only at hbd hlen' hcap
  subst hbd
  subst hlen'
  have e0 : bufI ⟨some ⟨bd,0,none⟩,hs2.length,c1⟩ (encs rCh hs2)=chR bd hs2:=rfl
  rw [e0]
  refine uA ?_
  refine TC.loopK (ι:=Nat × List Ch) [3] rfl (fun x=>[(4, .int .i64 (x.1 : Int))]) (fun _=>m) (fun x=>chR bd x.2 :: L) (fun x=>x.1 ≤ hs2.length∧Sg 0 hs2.length hs2 x.2∧Sn ltC x.2 0 x.1) (fun x=>hs2.length - x.1) (0,hs2) uH rfl uS ⟨Nat.zero_le _,Sg.refl _ _ _,fun i j _ h h3=>by simp only at h3;omega⟩ ?_
  rintro ⟨i,ys⟩ ⟨hi,hS,hO⟩
  simp only at hi hS hO ⊢
  have hyl:=hS.len
  refine uA ?_
  refine TC.condP rfl (fun h5 => ?_) (fun h5 => ?_)
  ·have hlt : i < hs2.length:=by omega
   refine uA ?_
   refine TC.loopK (ι:=Nat × List Ch) [3,4] rfl (fun x=>[(5, .int .i64 (x.1 : Int))]) (fun _=>m) (fun x=>chR bd x.2 :: L) (fun x=>CaI ltC ys 0 i x.1 x.2) (fun x=>x.1) (i,ys) uH rfl uS (CaI.start (by omega)) ?_
   rintro ⟨j,zs⟩ hJ
   simp only at hJ ⊢
   have hzl:=hJ.seg.len
   have hjl:=hJ.le
   have hn1 : hs2.length=zs.length:=by omega
   refine uA ?_
   refine TC.draw [] mixed 16 rfl [chR bd zs] L uP ?_
   refine DO.pure tab uC (by kernel_rfl) [0,1,2] (by kernel_rfl) rfl ?_
   (refine DO.splitP (d:=18) rfl (fun hg2 => ?_) (fun hg2 => ?_))
   refine DO.pure tab uC (by kernel_rfl) [3,4] (by kernel_rfl) rfl ?_
   refine DO.indexP (sz:=2) tab 5 j uC (by kernel_rfl) (by kernel_rfl) rfl rfl rfl rfl rfl rfl rfl rfl rfl (by omega) ?_
   refine DO.pure tab uC (by kernel_rfl) [6] (by kernel_rfl) rfl ?_
   refine DO.loadE (jj:=0) tab 7 0 rCh (gk_get (xs:=zs) (k:=j) (by omega)) (by simp only [rCh];omega) (fun _=>rfl) uC (by kernel_rfl) (by kernel_rfl) rfl rfl rfl rfl rfl rfl rfl ?_
   refine DO.pure tab uC (by kernel_rfl) [8,9] (by kernel_rfl) rfl ?_
   refine DO.arith 10 (r':=(((j - 1) : Nat) : Int)) uC (by kernel_rfl) (by kernel_rfl) rfl rfl rfl rfl rfl rfl rfl rfl (by first | rfl | omega | (simp only;omega)) (by omega) ?_
   refine DO.indexP (sz:=2) tab 11 (j - 1) uC (by kernel_rfl) (by kernel_rfl) rfl rfl rfl rfl rfl rfl rfl rfl rfl (by omega) ?_
   refine DO.pure tab uC (by kernel_rfl) [12] (by kernel_rfl) rfl ?_
   refine DO.loadE (jj:=0) tab 13 0 rCh (gk_get (xs:=zs) (k:=(j - 1)) (by omega)) (by simp only [rCh];omega) (fun _=>rfl) uC (by kernel_rfl) (by kernel_rfl) rfl rfl rfl rfl rfl rfl rfl ?_
   refine DO.pure tab uC (by kernel_rfl) [14,15] (by kernel_rfl) rfl ?_
   (refine DO.nil (by kernel_rfl) ?_)
   rotate_left 1
   refine DO.pure tab uC (by kernel_rfl) [3,4,5,6,7,8,9,10,11,12,13,14,15] (by kernel_rfl) rfl ?_
   (refine DO.nil (by kernel_rfl) ?_)
   rotate_left 1
   ·cases hc : ltC (gk zs j) (gk zs (j - 1)) with
    | true =>
     have hc' : Op.bytesLess (gk zs j).nm (gk zs (j - 1)).nm=true:=hc
     rw [hc']
     refine uA ?_
     refine TC.draw [15,16,17] mixed 18 rfl [chR bd zs] L uP ?_
     refine DO.pure tab uC (by kernel_rfl) [0,1,2,3] (by kernel_rfl) rfl ?_
     refine DO.arith 4 (r':=(((j - 1) : Nat) : Int)) uC (by kernel_rfl) (by kernel_rfl) rfl rfl rfl rfl rfl rfl rfl rfl (by first | rfl | omega | (simp only;omega)) (by omega) ?_
     refine DO.pure tab uC (by kernel_rfl) [5,6] (by kernel_rfl) rfl ?_
     refine DO.arith 7 (r':=(((j - 1) : Nat) : Int)) uC (by kernel_rfl) (by kernel_rfl) rfl rfl rfl rfl rfl rfl rfl rfl (by first | rfl | omega | (simp only;omega)) (by omega) ?_
     refine DO.indexP (sz:=2) tab 8 (j - 1) uC (by kernel_rfl) (by kernel_rfl) rfl rfl rfl rfl rfl rfl rfl rfl rfl (by omega) ?_
     refine DO.loadE (jj:=0) tab 9 0 rCh (gk_get (xs:=zs) (k:=(j - 1)) (by omega)) (by simp only [rCh];omega) (fun _=>rfl) uC (by kernel_rfl) (by kernel_rfl) rfl rfl rfl rfl rfl rfl rfl ?_
     refine DO.pure tab uC (by kernel_rfl) [10,11] (by kernel_rfl) rfl ?_
     refine DO.indexP (sz:=2) tab 12 j uC (by kernel_rfl) (by kernel_rfl) rfl rfl rfl rfl rfl rfl rfl rfl rfl (by omega) ?_
     refine DO.loadE (jj:=0) tab 13 0 rCh (gk_get (xs:=zs) (k:=j) (by omega)) (by simp only [rCh];omega) (fun _=>rfl) uC (by kernel_rfl) (by kernel_rfl) rfl rfl rfl rfl rfl rfl rfl ?_
     refine DO.indexP (sz:=2) tab 14 j uC (by kernel_rfl) (by kernel_rfl) rfl rfl rfl rfl rfl rfl rfl rfl rfl (by omega) ?_
     refine DO.tail ?_
     refine DOt.run 15 rfl rfl (by kernel_rfl) rfl ?_
     refine OT.storeE (h2:=gk zs (j - 1)) tab 0 rCh (gk_get (xs:=zs) (k:=j) (by omega)) (j:=0) (by simp only [rCh];omega) (fun _=>rfl) (Nat.le_refl _) rfl rfl rfl rfl rfl rfl rfl ?_
     refine DOt.run 16 rfl rfl (by kernel_rfl) rfl ?_
     refine OT.indexP (sz:=2) tab (j - 1) rfl rfl rfl rfl rfl rfl rfl (by omega) ?_
     refine DOt.run 17 rfl rfl (by kernel_rfl) rfl ?_
     refine OT.storeE (h2:=gk zs j) (h:=gk (List.set zs j (gk zs (j - 1))) (j - 1)) tab 0 rCh (k:=(j - 1)) (gk_get (by simp;omega)) (j:=0) (by simp only [rCh];omega) (fun _=>rfl) (Nat.le_refl _) rfl rfl rfl rfl rfl rfl rfl ?_
     refine DOt.nil (by kernel_rfl) ?_
     rotate_left 1
     refine uA ?_
     refine TO.step rfl (OT.arith (r':=((j - 1 : Nat) : Int)) rfl rfl rfl rfl rfl rfl (by omega) (by omega) ?_)
     refine uA ?_
     exact ⟨(j - 1,sw zs j (j - 1)),uH,uH,rfl,rfl,uS,hJ.step (by omega) (by omega) hc,by simp only;omega⟩
    | false =>
     have hc' : Op.bytesLess (gk zs j).nm (gk zs (j - 1)).nm=false:=hc
     have hN:=hJ.done ltC_ord hO (.inr hc)
     rw [hc']
     refine uA ?_
     refine TO.step rfl (OT.arith (r':=((i + 1 : Nat) : Int)) rfl rfl rfl rfl rfl rfl rfl (by omega) ?_)
     refine uA ?_
     exact ⟨(i + 1,zs),uH,uH,rfl,rfl,uS,⟨by simp only;omega,hS.trans (hJ.seg.mono (Nat.le_refl _) (by omega)),hN⟩,by simp only;omega⟩
   ·have hN:=hJ.done ltC_ord hO (.inl (by omega))
    refine uA ?_
    refine TO.step rfl (OT.arith (r':=((i + 1 : Nat) : Int)) rfl rfl rfl rfl rfl rfl rfl (by omega) ?_)
    refine uA ?_
    exact ⟨(i + 1,zs),uH,uH,rfl,rfl,uS,⟨by simp only;omega,hS.trans (hJ.seg.mono (Nat.le_refl _) (by omega)),hN⟩,by simp only;omega⟩
  ·obtain rfl : i=hs2.length:=by omega
   refine TC.freeze (fun m2 hm2 hA2 => ?_)
   refine uA ?_
   refine retQ_ret rfl (L':=L) uS ⟨hm2,rfl,⟨some ⟨bd,0,none⟩,hs2.length,c1⟩,rfl,ys,⟨hyl.symm,hcap,(by show hs2.length * 32 ≤ _;omega),ys,all2_refl ys, .inr ⟨bd,0,rfl,hA2⟩⟩,hS.perm,by rw [hyl];exact hO⟩
end Go.Sep
set_option linter.unusedVariables false
set_option linter.unusedSimpArgs false
namespace Go.Sep
open Go.Proofs
attribute [local irreducible] TC TO OT TCallX TCall DO DOt thenQ blockQ retQ At
set_option maxHeartbeats 1000000 in
theorem join_ref (s : Sl) (l : List Ch) (m : Mem) (L : List Item) (hs : SlRep rCh m s l) (h0 : errD l=0) : TCall Tryz.prog 14 ⟨[s.v]⟩ m L (Made m L fun r _=>r=strV (joinD (ordF l))):=by
 obtain ⟨hl64,hnam,hsum⟩:=openOk h0
 unfold TCall
 refine TCallX.enter Tryz.func14 rfl 23 rfl ?_
 refine uA ?_
 refine TO.step rfl (OT.call rfl rfl rfl rfl rfl rfl goes27 ((sorted_ref s l m L hs hl64).x ?_));
 rintro _ m1 _ ⟨hm1,rfl,t,rfl,ys,ht,hp,hsn⟩
 obtain rfl:=sorted_nam hp hnam hsn
 have hsu:=sumD_perm hp
 have hlen:=ht.len
 obtain ⟨ys,hys⟩ : ∃ ys,ys=ordF l:=⟨_,rfl⟩
 rw [← hys] at ht hsu hlen ⊢
 have hyl : ys.length ≤ 64:=by rw [hys,hp.length_eq];exact hl64
 refine uA ?_
 refine TC.loopK (ι:=Nat) [4] rfl (fun k=>[(5, .int .i64 (k : Int)),(3,strV (joinD (ys.take k)))]) (fun _=>m1) (fun _=>L) (fun k=>k ≤ ys.length) (fun k=>ys.length - k) 0 uH rfl uS (Nat.zero_le _) ?_
 rintro k hk
 refine uA ?_
 refine TC.condP rfl (fun h5 => ?_) (fun h5 => ?_)
 ·have hlt : k < ys.length:=by omega
  have hx : ys[k]? = some (gk ys k):=gk_get hlt
  have hj:=joinD_next hlt
  have hjl:=joinD_len (ys.take (k + 1))
  have hle:=sumD_le ys (k + 1)
  rw [hj,List.length_append,List.length_append] at hjl
  simp only [List.length_cons,List.length_nil] at hjl
  refine uA ?_
  refine TO.step rfl (OT.index tab rCh k ht rfl rfl rfl rfl rfl (by first | rfl | omega | (simp only;omega)) rfl hx ?_)
  rintro b1 i1 f1 hr1 hA1
  obtain rfl : f1=gk ys k:=hr1
  refine uA ?_
  (refine TO.step rfl (OT.loadA tab hA1 rfl rfl rfl rfl rfl ?_))
  refine uA ?_
  refine TO.step rfl (OT.concat rfl rfl rfl rfl rfl (by simp only [List.length_cons,List.length_nil];omega) ?_)
  refine uA ?_
  refine TO.step rfl (OT.concat rfl rfl rfl rfl rfl (by simp only [List.length_append,List.length_cons,List.length_nil];omega) ?_)
  rw [← hj]
  refine uA ?_
  refine TO.step rfl (OT.arith (r':=((k + 1 : Nat) : Int)) rfl rfl rfl rfl rfl rfl rfl (by omega) ?_)
  refine uA ?_
  exact ⟨k + 1,uH,uH,rfl,rfl,uS,hlt,by omega⟩
 ·have hke : k=ys.length:=by omega
  subst hke
  refine uA ?_
  refine retQ_ret rfl (L':=L) uS ⟨hm1,rfl,by rw [List.take_length]⟩
end Go.Sep
set_option linter.unusedVariables false
set_option linter.unusedSimpArgs false
namespace Go.Sep
open Go.Proofs
attribute [local irreducible] TC TO OT TCallX TCall DO DOt thenQ blockQ retQ At
theorem DO.concat {P : Program} {N : Nat} {ops : List Oper} {ts : List Nat} {fuel : Nat} {listed : List Bool} {ρ : Env} {D : List Deferred} {m : Mem} {Ls Lp : List Item} {Q : EPost} (i : Nat) {s u : Str} {t t' : TypeId} {x y : Operand} {o : Oper} {d : Nat} (hc : Calm Q) (hns : Region.noSelect ⟨ops⟩ = true) (hok : orderOkP ops ts [i] listed=true)
  (hi : ops[i]? = some o) (hg : gv ops ρ o=some true) (ho : o.op = .binOp .add t x y t') (hd : o.dst=some d) (hN : Nat.blt d N=true)
  (hx : ev ρ x=some (strV s)) (hy : ev ρ y=some (strV u)) (hl : s.length + u.length ≤ 9223372036854775807)
  (h : DO P N ops ts fuel (listed.set i true) ((d,strV (s++u)) :: ρ) D m Ls Lp Q) : DO P N ops ts (fuel + 1) listed ρ D m Ls Lp Q:=by
 simp only [orderOkP,Bool.and_eq_true] at hok
 obtain ⟨o1,o2,o3,_⟩:=hok
 refine DO.takeP i hc hi hd hN hg hns o1 o2 (by simpa using o3) (fun ac w hA => ?_) h
 have h1 : ¬ (((⟨⟨s⟩⟩ : ByteArray).size + (⟨⟨u⟩⟩ : ByteArray).size : Nat) : Int) > IntKind.i64.max:=by
  show ¬ ((s.length + u.length : Nat) : Int) > IntKind.i64.max
  have : IntKind.i64.max=9223372036854775807:=by decide
  rw [this];omega
 have h2 : (⟨⟨s⟩⟩ : ByteArray)++(⟨⟨u⟩⟩ : ByteArray) = ⟨⟨s++u⟩⟩:=by
  apply ByteArray.ext
  simp
 simp only [execOp,ho,hA.eval hx,hA.eval hy,Sem.run_bind,eqGuard,binOp,Op.stringOp]
 rw [if_neg h1,h2]
 simp
def packF (x : Ch) : Str:=x.nm++[32]++Pt.digN x.tx.length++[10]++x.tx
def packD (l : List Ch) : Str:=(l.map packF).flatten
theorem packD_next {l : List Ch} {k : Nat} (h : k < l.length) : packD (l.take (k + 1))=packD (l.take k)++packF (gk l k):=by
 rw [take_next h];simp [packD]
theorem digF_len' : ∀ (f n : Nat),(Pt.digF f n).length ≤ f
 | 0,n=>by simp [Pt.digF]
 | f + 1,n=>by
  have:=digF_len' f (n / 10)
  unfold Pt.digF
  split
  ·simp
  ·rw [List.length_append,List.length_singleton];omega
theorem digN_len (n : Nat) : (Pt.digN n).length ≤ 20:=digF_len' 20 n
theorem packF_len (x : Ch) : (packF x).length ≤ x.nm.length + x.tx.length + 22:=by
 have:=digN_len x.tx.length
 simp [packF];omega
structure PkS where
 m : Mem
 s : Sl
 k : Nat
def PackR (l : List Ch) (r : Value) (m : Mem) : Prop :=
 (errD l ≠ 0∧r = .tuple ⟨[.slice none 0 0, .int .i64 (errD l)]⟩) ∨ (errD l=0 ∧ ∃ t : Sl,r = .tuple ⟨[t.v, .int .i64 0]⟩ ∧ SlRep rByte m t (packD (ordF l)))
theorem name_len {x : Ch} (h : isName x.nm=true) : x.nm.length ≤ 64:=by
 unfold isName at h
 simp only [Bool.and_eq_true,decide_eq_true_eq] at h
 exact h.2.1
theorem tbm {m m' : Mem} (h : Tb m) (hm : m ≤ m') : Tb m':=by unfold Tb;rw [hm.pin];exact h
theorem ok_names {l : List Ch} (h : errD l=0) : ∀ x ∈ l,x.nm.length ≤ 64:=by
 unfold errD at h
 split at h
 ·cases h
 ·split at h
  ·cases h
  ·rename_i h2
   intro x hx
   refine name_len ?_
   cases hn : isName x.nm with
   | true=>rfl
   | false=>exact absurd (List.any_eq_true.2 ⟨x,hx,by rw [hn];rfl⟩) h2
set_option maxHeartbeats 2000000 in
theorem pack_law (s : Sl) (l : List Ch) (m : Mem) (L : List Item) (hs : SlRep rCh m s l) (hw : Wide l) (hT : Tb m) : TCall Tryz.prog 9 ⟨[s.v]⟩ m L (Made m L fun r m'=>PackR l r m'):=by
 unfold TCall
 refine TCallX.enter Tryz.func9 rfl 42 rfl ?_
 refine uA ?_
 refine TO.step rfl (OT.call rfl rfl rfl rfl rfl rfl goes23 ((open_law s l m L hs hw).x ?_));
 rintro r1 m1 _ ⟨hm1,rfl,hR⟩
 rcases hR with ⟨h0,rfl⟩ | ⟨h0,b,sf,sb,rfl,hA,hf,hb⟩
 ·refine uA ?_
  refine TC.condN rfl (fun h1 => ?_) (fun h1 => ?_)
  ·refine uA ?_
   refine retQ_ret rfl (L':=L) uS ⟨hm1,rfl, .inl ⟨h0,rfl⟩⟩
  ·exact absurd h1 h0
 ·have hns:=ok_names h0
  obtain ⟨ys,hys⟩ : ∃ ys,ys=ordF l:=⟨_,rfl⟩
  have hp : ys.Perm l:=by rw [hys];exact ordF_perm l
  have hsumy:=sumD_perm hp
  obtain ⟨hl64, -,hsum⟩:=openOk h0
  have hy64 : ys.length ≤ 64:=by rw [hp.length_eq];exact hl64
  have hbk : ∀ k,k < ys.length→(gk ys k).nm.length ≤ 64∧(gk ys k).tx.length ≤ 65536:=fun k hk=>by
   refine ⟨hns _ (hp.mem_iff.1 (List.mem_of_getElem? (gk_get hk))), ?_⟩
   have h1:=sumD_next hk
   have h2:=sumD_le ys (k + 1)
   omega
  have hpl : ∀ k,k ≤ ys.length→(packD (ys.take k)).length ≤ k * 65700:=by
   intro k
   induction k with
   | zero=>intro _;simp [packD]
   | succ k ih =>
    intro hk
    have h1:=ih (by omega)
    have h2:=packF_len (gk ys k)
    have h3:=hbk k (by omega)
    rw [packD_next (by omega),List.length_append]
    omega
  rw [← hys] at hA hf hb
  have hlen:=hf.len
  refine uA ?_
  (refine TO.step rfl (OT.loadA tab hA rfl rfl rfl rfl rfl ?_))
  refine uA ?_
  refine TC.grow0 (size:=1) ?_
  refine TC.loopK (ι:=PkS) [20,21] rfl (fun x=>[(22, .int .i64 (x.k : Int)),(6,x.s.v)]) (fun x=>x.m) (fun x=>tok x.s 1 :: L) (fun x=>m1 ≤ x.m∧x.k ≤ ys.length∧SlRep rByte x.m x.s (packD (ys.take x.k))∧Own x.s) (fun x=>ys.length - x.k) ⟨m1,⟨none,0,0⟩,0⟩ uH rfl uS ⟨Mem.le_refl _,Nat.zero_le _,SlRep.nil _ _,Own.nil⟩ ?_
  rintro ⟨m2,t,k⟩ ⟨hm2,hk,ht,hto⟩
  simp only at hm2 hk ht hto
  show TC _ _ _ ((22, .int .i64 (k : Int)) :: (6,t.v) :: _) _ m2 (tok t 1 :: L) _
  have hf2:=hf.mono hm2
  refine uA ?_
  refine TC.condP rfl (fun h5 => ?_) (fun h5 => ?_)
  ·have hlt : k < ys.length:=by omega
   have hx : ys[k]? = some (gk ys k):=gk_get hlt
   have hnx:=packD_next hlt
   have hpk:=hpl (k + 1) (by omega)
   rw [hnx,List.length_append] at hpk
   have hb1:=hbk k hlt
   have hfl:=packF_len (gk ys k)
   have hdl:=digN_len (gk ys k).tx.length
   refine uA ?_
   refine TO.step rfl (OT.index tab rCh k hf2 rfl rfl rfl rfl rfl (by first | rfl | omega | (simp only;omega)) rfl hx ?_)
   rintro b1 i1 f1 hr1 hA1
   obtain rfl : f1=gk ys k:=hr1
   (refine TO.step rfl (OT.loadA0 tab hA1 rfl rfl rfl rfl rfl ?_))
   refine uA ?_
   refine TO.step rfl (OT.alloc tab rfl rfl rfl rfl (fun b8 => ?_))
   refine uA ?_
   refine uT ?_
   refine uA ?_
   refine TC.draw [] mixed 15 rfl [.cells b8 0 [strV (gk ys k).nm,strV (gk ys k).tx]] (tok t 1 :: L) uP ?_
   refine DO.pure tab uC (by kernel_rfl) [0,1] (by kernel_rfl) rfl ?_
   (refine DO.loadL tab 2 0 uC (by kernel_rfl) (by kernel_rfl) rfl rfl rfl rfl rfl rfl rfl rfl ?_)
   refine DO.concat 3 uC (by kernel_rfl) (by kernel_rfl) rfl rfl rfl rfl rfl rfl rfl (by simp only [List.length_cons,List.length_nil];omega) ?_
   refine DO.pure tab uC (by kernel_rfl) [4] (by kernel_rfl) rfl ?_
   (refine DO.loadL tab 5 0 uC (by kernel_rfl) (by kernel_rfl) rfl rfl rfl rfl rfl rfl rfl rfl ?_)
   refine DO.pure tab uC (by kernel_rfl) [6,10] (by kernel_rfl) rfl ?_
   (refine DO.loadL tab 11 0 uC (by kernel_rfl) (by kernel_rfl) rfl rfl rfl rfl rfl rfl rfl rfl ?_)
   refine DO.run 7 rfl rfl (by kernel_rfl) rfl (OT.call rfl rfl rfl rfl rfl rfl goes24 ((itoa_law m2 _ ((gk ys k).tx.length : Int) (tbm hT (Mem.le_trans hm1 hm2)) (by omega) (by omega)).x ?_))
   rintro _ m3 _ ⟨hm3,rfl,rfl⟩;rw [Int.toNat_natCast];refine ⟨hm3,_,List.Perm.refl _, ?_⟩
   refine DO.concat 8 uC (by kernel_rfl) (by kernel_rfl) rfl rfl rfl rfl rfl rfl rfl (by simp only [List.length_append,List.length_cons,List.length_nil];omega) ?_
   refine DO.concat 9 uC (by kernel_rfl) (by kernel_rfl) rfl rfl rfl rfl rfl rfl rfl (by simp only [List.length_append,List.length_cons,List.length_nil];omega) ?_
   refine DO.concat 12 uC (by kernel_rfl) (by kernel_rfl) rfl rfl rfl rfl rfl rfl rfl (by simp only [List.length_append,List.length_cons,List.length_nil];omega) ?_
   refine DO.run 13 rfl rfl (by kernel_rfl) rfl ?_
   refine OT.appendS tab 1 (ht.mono hm3) hto rfl rfl rfl rfl rfl rfl rfl rfl rfl rfl rfl (by show _ + (packF (gk ys k)).length ≤ _;omega) (fun t2 m4 hm4 ht2 ho2 => ?_);refine ⟨hm4,_,List.Perm.refl _, ?_⟩
   refine DO.pure tab uC (by kernel_rfl) [14] (by kernel_rfl) rfl ?_
   (refine DO.nil (by kernel_rfl) ?_)
   rotate_left 1
   refine uA ?_
   refine TO.step rfl (OT.arith (r':=((k + 1 : Nat) : Int)) rfl rfl rfl rfl rfl rfl rfl (by omega) ?_)
   refine uA ?_
   exact ⟨⟨m4,t2,k + 1⟩,uH,uH,rfl,rfl,uS,⟨Mem.le_trans hm2 (Mem.le_trans hm3 hm4),by show k + 1 ≤ _;omega,by show SlRep rByte m4 t2 (packD (ys.take (k + 1)));rw [hnx];exact ht2,ho2⟩,by show ys.length - (k + 1) < ys.length - k;omega⟩
  ·have hke : k=ys.length:=by omega
   subst hke
   rw [List.take_length] at ht
   refine uA ?_
   refine retQ_ret rfl (L':=L) uS ⟨Mem.le_trans hm1 hm2,rfl, .inr ⟨h0,t,rfl,by rw [← hys];exact ht⟩⟩
end Go.Sep
set_option linter.unusedVariables false
set_option linter.unusedSimpArgs false
namespace Go.Sep
def hexB (a b : UInt8) : Option UInt8:=(pU 16 255 [a,b] 0).map UInt8.ofNat
def escX : Str→Option (UInt8 × Nat)
 | a :: b :: _=>(hexB a b).map fun x=>(x,3)
 | _=>none
def escB : Str→Option (UInt8 × Nat)
 | []=>none
 | c :: r=>if c.toNat=110 then some (10,1) else if c.toNat=116 then some (9,1) else if c.toNat=34 ∨ c.toNat=92 then some (c,1) else if c.toNat=120 then escX r else none
def litF : Nat→Str→Option (Str × Nat)
 | 0,_=>none
 | _ + 1,[]=>none
 | f + 1,c :: r=>if c.toNat=34 then some ([],1) else if c.toNat=10 then none else if c.toNat=92 then (match escB r with
  | none=>none
  | some (b,n)=>(litF f (r.drop n)).map fun p=>(b :: p.1,p.2 + 1 + n)) else (litF f r).map fun p=>(c :: p.1,p.2 + 1)
def lit (r : Str) : Option (Str × Nat):=litF (r.length + 1) r
theorem escX_pos {r : Str} {b : UInt8} {n : Nat} (h : escX r=some (b,n)) : 1 ≤ n∧n ≤ r.length + 1:=by
 match r,h with
 | a :: b' :: r',h =>
  replace h : (hexB a b').map (fun x=>(x,3))=some (b,n):=h
  cases hx : hexB a b' with
  | none=>rw [hx] at h;cases h
  | some x=>rw [hx] at h;cases h;simp
theorem escB_pos {r : Str} {b : UInt8} {n : Nat} (h : escB r=some (b,n)) : 1 ≤ n∧n ≤ r.length:=by
 cases r with
 | nil=>cases h
 | cons c r =>
  rw [escB] at h
  by_cases h1 : c.toNat=110
  ·rw [if_pos h1] at h;cases h;simp
  ·rw [if_neg h1] at h
   by_cases h2 : c.toNat=116
   ·rw [if_pos h2] at h;cases h;simp
   ·rw [if_neg h2] at h
    by_cases h3 : c.toNat=34 ∨ c.toNat=92
    ·rw [if_pos h3] at h;cases h;simp
    ·rw [if_neg h3] at h
     by_cases h4 : c.toNat=120
     ·rw [if_pos h4] at h;exact escX_pos h
     ·rw [if_neg h4] at h;cases h
theorem litF_fuel : ∀ (f g : Nat) (r : Str),r.length < f→r.length < g→litF f r=litF g r
 | 0,_,_,h,_=>by omega
 | _,0,_,_,h=>by omega
 | f + 1,g + 1,[],_,_=>rfl
 | f + 1,g + 1,c :: r,h1,h2=>by
  simp only [List.length_cons] at h1 h2
  rw [litF,litF]
  split
  ·rfl
  ·split
   ·rfl
   ·split
    ·cases he : escB r with
     | none=>rfl
     | some p =>
      obtain ⟨b,n⟩:=p
      have hl : (r.drop n).length ≤ r.length:=by simp
      simp only
      rw [litF_fuel f g (r.drop n) (by omega) (by omega)]
    ·rw [litF_fuel f g r (by omega) (by omega)]
theorem litF_lit {f : Nat} {r : Str} (h : r.length < f) : litF f r=lit r:=litF_fuel _ _ _ h (by omega)
theorem lit_esc {c : UInt8} {r : Str} (h : c.toNat=92) : lit (c :: r)=match escB r with
  | none=>none
  | some (b,n)=>(lit (r.drop n)).map fun p=>(b :: p.1,p.2 + 1 + n):=by
 rw [lit,litF,if_neg (by omega),if_neg (by omega),if_pos h]
 cases he : escB r with
 | none=>rfl
 | some p =>
  obtain ⟨b,n⟩:=p
  simp only
  rw [litF_lit (by simp;omega)]
theorem lit_esc_none {c : UInt8} {r : Str} (h : c.toNat=92) (h2 : escB r=none) : lit (c :: r)=none:=by
 rw [lit_esc h,h2]
theorem lit_one {c : UInt8} {r : Str} (h1 : c.toNat ≠ 34) (h2 : c.toNat ≠ 10) (h3 : c.toNat ≠ 92) : lit (c :: r)=(lit r).map fun p=>(c :: p.1,p.2 + 1):=by
 rw [lit,litF,if_neg h1,if_neg h2,if_neg h3,litF_lit (by simp)]
def LitAt (s : Str) (j i : Nat) (acc : Str) (res : Option (Str × Nat)) : Prop:=res=(lit (s.drop i)).map fun p=>(acc++p.1,i - j + p.2)
theorem LitAt.start (s : Str) (i : Nat) : LitAt s i i [] (lit (s.drop i)):=by
 unfold LitAt
 cases lit (s.drop i) <;> simp
theorem LitAt.bad {s : Str} {j i : Nat} {acc : Str} {res : Option (Str × Nat)} (h : LitAt s j i acc res) (hi : i < s.length) (hc : s[i].toNat=92) (he : escB (s.drop (i + 1))=none) : res=none:=by
 rw [h,List.drop_eq_getElem_cons hi,lit_esc_none hc he];rfl
theorem LitAt.one {s : Str} {j i : Nat} {acc : Str} {res : Option (Str × Nat)} (h : LitAt s j i acc res) (hj : j ≤ i) (hi : i < s.length) (h1 : s[i].toNat ≠ 34) (h2 : s[i].toNat ≠ 10) (h3 : s[i].toNat ≠ 92) : LitAt s j (i + 1) (acc++[s[i]]) res:=by
 unfold LitAt at h ⊢
 rw [h,List.drop_eq_getElem_cons hi,lit_one h1 h2 h3,Option.map_map]
 congr 1
 funext p
 simp only [Function.comp,List.append_assoc,List.singleton_append,Prod.mk.injEq,true_and]
 omega
end Go.Sep
set_option linter.unusedVariables false
set_option linter.unusedSimpArgs false
namespace Go.Sep
open Go.Proofs
attribute [local irreducible] TC TO OT TCallX TCall DO DOt thenQ blockQ retQ At
structure LitS where
 m : Mem
 q : Option Addr
 sl : Sl
 i : Nat
 acc : Str
def litR (o : Option (Str × Nat)) : Value:=match o with
 | some (t,n) => .tuple ⟨[strV t, .int .i64 ((n + 1 : Nat) : Int)]⟩
 | none => .tuple ⟨[strV [], .int .i64 0]⟩
end Go.Sep
set_option linter.unusedVariables false
set_option linter.unusedSimpArgs false
namespace Go.Sep
def isSp (c : UInt8) : Bool:=decide (c.toNat=9) || (decide (c.toNat=10) || (decide (c.toNat=13) || decide (c.toNat=32)))
def blk : Bool→Str→Nat
 | _,[]=>0
 | true,c :: r=>if c.toNat=10 then 1 + blk false r else 1 + blk true r
 | false,c :: r=>if isSp c=true then 1 + blk false r else if c.toNat=47∧r.head? = some 47 then 1 + blk true r else 0
structure Tok where
 kind : Int
 text : Str
 num : Int
 at_ : Int
 deriving DecidableEq
def markL : List Str:=[[58,61],[61,61],[33,61],[60,61],[62,61],[38,38],[124,124],[40],[41],[123],[125],[91],[93],[44],[59],[46],[58],[61],[60],[62],[43],[45],[42],[47],[37],[38],[33]]
def tokD : Str→Option (Tok × Nat)
 | []=>none
 | c :: r =>
  if ltr c=true then (if 64 < spanOf lod (c :: r) then none else some (⟨if (c :: r).take (spanOf lod (c :: r)) ∈ wordL then 5 else 1,(c :: r).take (spanOf lod (c :: r)),0,0⟩,spanOf lod (c :: r)))
  else if dgt c=true then (match numOf ((c :: r).take (spanOf lod (c :: r))) with
   | none=>none
   | some v=>if (c.toNat=48∧1 < spanOf lod (c :: r)) ∨ spanOf dgt (c :: r) ≠ spanOf lod (c :: r) then none else some (⟨2,[],v,0⟩,spanOf lod (c :: r)))
  else if c.toNat=34 then (match lit r with
   | none=>none
   | some (t,n)=>if 1024 < t.length then none else some (⟨3,t,0,0⟩,n + 1))
  else match markL.find? (fun p=>prefixB p (c :: r)) with
   | none=>none
   | some p=>some (⟨4,p,0,0⟩,p.length)
theorem span_pos {p : UInt8→Bool} {c : UInt8} {r : Str} (h : p c=true) : 0 < spanOf p (c :: r):=by
 rw [spanOf,List.takeWhile_cons_of_pos h];simp
theorem span_le (p : UInt8→Bool) (s : Str) : spanOf p s ≤ s.length:=by
 unfold spanOf
 induction s with
 | nil=>simp
 | cons x xs ih =>
  rw [List.takeWhile_cons]
  split <;> simp
  exact ih
theorem litF_le : ∀ (f : Nat) (r t : Str) (n : Nat),litF f r=some (t,n)→1 ≤ n∧n ≤ r.length
 | 0,_,_,_,h=>by cases h
 | f + 1,[],_,_,h=>by cases h
 | f + 1,c :: r,t,n,h=>by
  rw [litF] at h
  split at h
  ·cases h;simp
  ·split at h
   ·cases h
   ·split at h
    ·cases he : escB r with
     | none=>rw [he] at h;cases h
     | some p =>
      obtain ⟨b,k⟩:=p
      rw [he] at h
      simp only at h
      cases hl : litF f (r.drop k) with
      | none=>rw [hl] at h;cases h
      | some q =>
       obtain ⟨t',n'⟩:=q
       rw [hl] at h
       simp only [Option.map_some,Option.some.injEq,Prod.mk.injEq] at h
       have h1:=litF_le f _ _ _ hl
       have h2:=escB_pos he
       have h3 : (r.drop k).length=r.length - k:=by simp
       simp only [List.length_cons]
       omega
    ·cases hl : litF f r with
     | none=>rw [hl] at h;cases h
     | some q =>
      obtain ⟨t',n'⟩:=q
      rw [hl] at h
      simp only [Option.map_some,Option.some.injEq,Prod.mk.injEq] at h
      have h1:=litF_le f _ _ _ hl
      simp only [List.length_cons]
      omega
theorem lit_le {r t : Str} {n : Nat} (h : lit r=some (t,n)) : 1 ≤ n∧n ≤ r.length:=litF_le _ _ _ _ h
theorem prefixB_len {p s : Str} (h : prefixB p s=true) : p.length ≤ s.length∧s.take p.length=p:=by
 unfold prefixB at h
 rw [Bool.and_eq_true] at h
 exact ⟨of_decide_eq_true h.1,of_decide_eq_true h.2⟩
theorem markL_len : ∀ p ∈ markL,1 ≤ p.length:=by decide
theorem tokD_le {s : Str} {t : Tok} {n : Nat} (h : tokD s=some (t,n)) : 1 ≤ n∧n ≤ s.length:=by
 cases s with
 | nil=>cases h
 | cons c r =>
  have hs:=span_le lod (c :: r)
  rw [tokD] at h
  by_cases h1 : ltr c=true
  ·rw [if_pos h1] at h
   have : lod c=true:=by unfold lod;rw [h1];rfl
   have:=span_pos (r:=r) this
   split at h
   ·cases h
   ·cases h;omega
  ·rw [if_neg h1] at h
   by_cases h2 : dgt c=true
   ·rw [if_pos h2] at h
    have : lod c=true:=by unfold lod;rw [h2];simp
    have:=span_pos (r:=r) this
    split at h
    ·cases h
    ·split at h
     ·cases h
     ·cases h;omega
   ·rw [if_neg h2] at h
    by_cases h3 : c.toNat=34
    ·rw [if_pos h3] at h
     cases hl : lit r with
     | none=>rw [hl] at h;cases h
     | some p =>
      obtain ⟨t',n'⟩:=p
      rw [hl] at h
      simp only at h
      have:=lit_le hl
      split at h
      ·cases h
      ·cases h;simp;omega
    ·rw [if_neg h3] at h
     cases hf : markL.find? (fun p=>prefixB p (c :: r)) with
     | none=>rw [hf] at h;cases h
     | some p =>
      rw [hf] at h
      cases h
      have:=prefixB_len (p:=p) (s:=c :: r) (List.find?_some (p:=fun p=>prefixB p (c :: r)) hf)
      exact ⟨markL_len p (List.mem_of_find?_eq_some hf),this.1⟩
def cutF : Nat→Str→Nat→Nat→Except (Nat × Int) (List Tok)
 | 0,_,_,_ => .error (0,0)
 | f + 1,r,at_,k=>if r.drop (blk false r)=[] then .ok [] else if k=20000 then .error (at_ + blk false r,4) else match tokD (r.drop (blk false r)) with
  | none => .error (at_ + blk false r,3)
  | some (t,n)=>match cutF f ((r.drop (blk false r)).drop n) (at_ + blk false r + n) (k + 1) with
   | .error e => .error e
   | .ok l => .ok (⟨t.kind,t.text,t.num,((at_ + blk false r : Nat) : Int)⟩ :: l)
structure Cut where
 list : List Tok
 at_ : Nat
 e : Int
 deriving DecidableEq
def Cut.of : Except (Nat × Int) (List Tok)→Cut
 | .ok l=>⟨l,0,0⟩
 | .error (a,e)=>⟨[],a,e⟩
end Go.Sep
set_option linter.unusedVariables false
set_option linter.unusedSimpArgs false
namespace Go.Sep
open Go.Proofs
attribute [local irreducible] TC TO OT TCallX TCall DO DOt thenQ blockQ retQ At
end Go.Sep
set_option linter.unusedVariables false
set_option linter.unusedSimpArgs false
namespace Go.Sep
open Go.Proofs
attribute [local irreducible] TC TO OT TCallX TCall DO DOt thenQ blockQ retQ At
def tokC (t : Tok) : List Value:=[.int .i64 t.kind,strV t.text, .int .i64 t.num, .int .i64 t.at_]
@[reducible] def tokV (t : Tok) : Value := .agg ⟨tokC t⟩
def NextR (o : Option (Tok × Nat)) (r : Value) : Prop := ∃ t n,r = .tuple ⟨[tokV t, .int .i64 ((n : Nat) : Int)]⟩ ∧ (o=some (t,n) ∨ (o=none∧n=0))
end Go.Sep
set_option linter.unusedVariables false
set_option linter.unusedSimpArgs false
namespace Go.Sep
open Go.Proofs
attribute [local irreducible] TC TO OT TCallX TCall DO DOt thenQ blockQ retQ At
def joinE (l : List Tok) : Except (Nat × Int) (List Tok)→Except (Nat × Int) (List Tok)
 | .error e => .error e
 | .ok l' => .ok (l++l')
def CutAt (s : Str) (at_ : Nat) (l : List Tok) (res : Except (Nat × Int) (List Tok)) : Prop := ∃ f,s.length < at_ + f∧res=joinE l (cutF f (s.drop at_) at_ l.length)
theorem CutAt.start (s : Str) : CutAt s 0 [] (cutF (s.length + 1) s 0 0):=by
 refine ⟨s.length + 1,by omega, ?_⟩
 rw [List.drop_zero]
 show _=joinE [] (cutF (s.length + 1) s 0 0)
 cases cutF (s.length + 1) s 0 0 <;> rfl
section
variable {s : Str} {a : Nat} {l : List Tok} {res : Except (Nat × Int) (List Tok)}
theorem CutAt.pos (h : CutAt s a l res) (ha : a ≤ s.length) : ∃ f,s.length < a + (f + 1)∧res=joinE l (cutF (f + 1) (s.drop a) a l.length):=by
 obtain ⟨f,h1,h2⟩:=h
 cases f with
 | zero=>omega
 | succ f=>exact ⟨f,h1,h2⟩
theorem drop_ne {s : Str} {k : Nat} (h : k < s.length) : s.drop k ≠ []:=fun e=>by
 have:=congrArg List.length e
 simp at this
 omega
theorem CutAt.text (h : CutAt s a l res) (ha : a ≤ s.length) (hb : a + blk false (s.drop a) < s.length) (hl : l.length ≠ 20000) (ht : tokD (s.drop (a + blk false (s.drop a)))=none) : res = .error (a + blk false (s.drop a),3):=by
 obtain ⟨f,h1,h2⟩:=h.pos ha
 rw [h2,cutF,List.drop_drop,if_neg (drop_ne hb),if_neg hl,ht];rfl
theorem CutAt.go (h : CutAt s a l res) (ha : a ≤ s.length) (hb : a + blk false (s.drop a) < s.length) (hl : l.length ≠ 20000) {t : Tok} {n : Nat} (ht : tokD (s.drop (a + blk false (s.drop a)))=some (t,n)) :
  CutAt s (a + blk false (s.drop a) + n) (l++[⟨t.kind,t.text,t.num,((a + blk false (s.drop a) : Nat) : Int)⟩]) res:=by
 obtain ⟨f,h1,h2⟩:=h.pos ha
 have hn:=(tokD_le ht).1
 refine ⟨f,by omega, ?_⟩
 rw [h2,cutF,List.drop_drop,if_neg (drop_ne hb),if_neg hl,ht]
 simp only [List.drop_drop,List.length_append,List.length_cons,List.length_nil]
 cases cutF f (s.drop (a + blk false (s.drop a) + n)) (a + blk false (s.drop a) + n) (l.length + 1) with
 | error e=>rfl
 | ok l'=>simp [joinE]
end
structure ScanS where
 m : Mem
 sl : Sl
 l : List Tok
 a : Nat
end Go.Sep
set_option linter.unusedVariables false
set_option linter.unusedSimpArgs false
namespace Go.Sep
end Go.Sep
set_option linter.unusedVariables false
set_option linter.unusedSimpArgs false
namespace Go.Sep
end Go.Sep
set_option linter.unusedVariables false
set_option linter.unusedSimpArgs false
namespace Go.Sep
def valN : Str→Nat→Nat
 | [],a=>a
 | c :: r,a=>valN r (a * 10 + (c.toNat - 48))
structure Dec (s : Str) (n : Nat) : Prop where
 pos : s ≠ []
 dig : s.all dgt=true
 val : valN s 0=n
 lead : s.head? ≠ some 48 ∨ s.length=1
structure DecAt (s : Str) (k n : Nat) : Prop where
 dig : s.all dgt=true
 val : k * 10 ^ s.length + valN s 0=n
 lead : k=0→s ≠ []→s.head? ≠ some 48 ∨ s.length=1
theorem valN_app : ∀ (s : Str) (a : Nat),valN s a=a * 10 ^ s.length + valN s 0
 | [],a=>by simp [valN]
 | c :: r,a=>by
  rw [valN,valN,valN_app r (a * 10 + (c.toNat - 48)),valN_app r (0 * 10 + (c.toNat - 48)),List.length_cons,Nat.pow_succ]
  rw [Nat.zero_mul,Nat.zero_add,Nat.add_mul]
  have : a * 10 * 10 ^ r.length=a * (10 ^ r.length * 10):=by rw [Nat.mul_assoc,Nat.mul_comm 10]
  omega
theorem DecAt.start (n : Nat) : DecAt [] n n:=⟨rfl,by simp [valN],fun _ h=>absurd rfl h⟩
theorem dig_lt (k : Nat) : (UInt8.ofNat (48 + k % 10)).toNat=48 + k % 10:=by
 rw [UInt8.toNat_ofNat',Nat.mod_eq_of_lt (by omega)]
theorem DecAt.step {s : Str} {k n : Nat} (h : DecAt s k n) (hk : 0 < k ∨ s=[]) : DecAt (UInt8.ofNat (48 + k % 10) :: s) (k / 10) n:=by
 have hd:=dig_lt k
 refine ⟨?_, ?_, ?_⟩
 ·rw [List.all_cons,h.dig,Bool.and_true]
  unfold dgt
  rw [hd]
  exact decide_eq_true (by omega)
 ·rw [valN,valN_app,hd,List.length_cons,Nat.pow_succ,← h.val,Nat.zero_mul,Nat.zero_add]
  have h1 : 48 + k % 10 - 48=k % 10:=by omega
  have h2 : k=k / 10 * 10 + k % 10:=by omega
  rw [h1]
  have h3 : k * 10 ^ s.length=k / 10 * (10 ^ s.length * 10) + k % 10 * 10 ^ s.length:=by
   conv=>lhs;rw [h2,Nat.add_mul]
   rw [Nat.mul_assoc,Nat.mul_comm 10]
  omega
 ·intro h0 _
  rcases hk with hk | rfl
  ·refine .inl fun e => ?_
   rw [List.head?_cons] at e
   have:=congrArg UInt8.toNat (Option.some.inj e)
   rw [hd] at this
   have h48 : (48 : UInt8).toNat=48:=rfl
   omega
  ·exact .inr rfl
theorem DecAt.done {s : Str} {n : Nat} (h : DecAt s 0 n) (hs : s ≠ []) : Dec s n:=⟨hs,h.dig,by have:=h.val;omega,h.lead rfl hs⟩
end Go.Sep
set_option linter.unusedVariables false
set_option linter.unusedSimpArgs false
namespace Go.Sep
open Go.Proofs Go.Pt
attribute [local irreducible] TC TO OT TCallX TCall DO DOt thenQ blockQ retQ At
theorem digF_fuel : ∀ (f g n : Nat),n < 10 ^ f→n < 10 ^ g→1 ≤ f→1 ≤ g→digF f n=digF g n
 | 0,_,_,_,_,h,_=>by omega
 | _ + 1,0,_,_,_,_,h=>by omega
 | f + 1,g + 1,n,h1,h2,_,_=>by
  unfold digF
  by_cases h : n < 10
  ·rw [if_pos h,if_pos h]
  ·rw [if_neg h,if_neg h]
   rw [Nat.pow_succ] at h1 h2
   have hf : 1 ≤ f:=by
    rcases Nat.eq_zero_or_pos f with rfl | h3
    ·simp at h1;omega
    ·exact h3
   have hg : 1 ≤ g:=by
    rcases Nat.eq_zero_or_pos g with rfl | h3
    ·simp at h2;omega
    ·exact h3
   rw [digF_fuel f g (n / 10) (by omega) (by omega) hf hg]
theorem digN_step {n : Nat} (h : n < 18446744073709551616) : digN n=(if n < 10 then [] else digN (n / 10))++[UInt8.ofNat (48 + n % 10)]:=by
 unfold digN
 conv=>lhs;unfold digF
 by_cases h1 : n < 10
 ·rw [if_pos h1,if_pos h1,List.nil_append,show n % 10=n by omega]
 ·rw [if_neg h1,if_neg h1,digF_fuel 19 20 (n / 10) (by omega) (by omega) (by decide) (by decide)]
structure DcS where
 m : Mem
 s : Str
 k : Nat
 f : Bool
theorem dc_wrap {k : Nat} (h : k < 18446744073709551616) : IntKind.u64.wrap (k : Int)=(k : Int):=u64_in (by omega) (by omega)
theorem digF_len : ∀ (f n : Nat),(digF f n).length ≤ f
 | 0,n=>by simp [digF]
 | f + 1,n=>by
  have:=digF_len f (n / 10)
  unfold digF
  split
  ·simp
  ·rw [List.length_append,List.length_singleton];omega
set_option maxHeartbeats 1600000 in
theorem decimal_law (m : Mem) (L : List Item) (u : Int) (h0 : 0 ≤ u) (h1 : u < 9223372036854775808) : TCall Tryz.prog 28 ⟨[.int .i64 u]⟩ m L (Ret (strV (digN u.toNat)) m L):=by
 refine TCall.forget ?_
 obtain ⟨n,rfl⟩ : ∃ n : Nat,u=(n : Int):=⟨u.toNat,by omega⟩
 rw [Int.toNat_natCast]
 unfold TCall
 refine TCallX.enter Tryz.func28 rfl 32 rfl ?_
 refine uA ?_
 refine TO.step rfl (OT.conv tab rfl rfl rfl rfl rfl rfl (r:=(n : Int)) (dc_wrap (by omega)) ?_)
 refine uA ?_
 refine TC.loopK (ι:=DcS) [0] rfl (fun x=>[(3, .int .u64 (x.k : Int)),(4,strV x.s),(5, .bool x.f)]) (fun x=>x.m) (fun _=>L) (fun x=>m ≤ x.m∧x.k ≤ n∧digN n=(if x.f=true ∨ 0 < x.k then digN x.k else [])++x.s) (fun x=>x.k + if x.f=true then 1 else 0) ⟨m,[],n,true⟩ uH rfl uS ⟨Mem.le_refl _,Nat.le_refl _,by simp⟩ ?_
 rintro ⟨m1,s,k,f⟩ ⟨hm,hk,hI⟩
 simp only at hm hk hI
 have hsl : s.length ≤ 20:=by
  have h2:=congrArg List.length hI
  have h3:=digF_len 20 n
  rw [List.length_append] at h2
  unfold digN at h2
  omega
 cases f with
 | true =>
  refine uA ?_
  refine TO.step rfl (OT.remK rfl rfl rfl rfl rfl (by decide) (r:=((k % 10 : Nat) : Int)) rfl ?_)
  refine TO.step rfl (OT.arithK (r':=((48 + k % 10 : Nat) : Int)) rfl rfl rfl rfl rfl rfl (dc_wrap (k:=48 + k % 10) (by omega)) ?_)
  refine TO.step rfl (OT.conv tab rfl rfl rfl rfl rfl rfl (r:=((UInt8.ofNat (48 + k % 10)).toNat : Int)) (by rw [dig_lt,u8_in (by omega) (by omega)]) ?_)
  refine TO.step rfl (OT.lit tab rfl rfl rfl rfl (fun b => ?_))
  refine TO.freeze fun m2 hm2 hA => ?_
  refine TO.step rfl (OT.bytesStr tab (s:=⟨some ⟨b,0,none⟩,1,1⟩) (bs:=[UInt8.ofNat (48 + k % 10)]) rfl rfl rfl rfl rfl rfl rfl (SlRep.bytes (bs:=[UInt8.ofNat (48 + k % 10)]) hA rfl (by decide)) (by simp) ?_)
  refine uA ?_
  refine TO.step rfl (OT.concat (s:=[UInt8.ofNat (48 + k % 10)]) (u:=s) rfl rfl rfl rfl rfl (by simp only [List.length_cons,List.length_nil];omega) ?_)
  refine uA ?_
  refine TO.step rfl (OT.quoK rfl rfl rfl rfl rfl (by decide) (r:=((k / 10 : Nat) : Int)) (dc_wrap (k:=k / 10) (by omega)) ?_)
  refine uA ?_
  refine ⟨⟨m2,UInt8.ofNat (48 + k % 10) :: s,k / 10,false⟩,uH,uH,rfl,rfl,uS,⟨Mem.le_trans hm hm2,by show k / 10 ≤ n;omega, ?_⟩, ?_⟩
  ·show digN n=(if false=true ∨ 0 < k / 10 then digN (k / 10) else [])++(UInt8.ofNat (48 + k % 10) :: s)
   rw [hI,if_pos (.inl rfl),digN_step (by omega),List.append_assoc]
   congr 1
   by_cases h10 : k < 10
   ·rw [if_pos h10,if_neg (by simp;omega)]
   ·rw [if_neg h10,if_pos (.inr (by omega))]
  ·show k / 10 + (if false=true then 1 else 0) < k + (if true=true then 1 else 0)
   (rw [if_neg (by decide),if_pos rfl];omega)
 | false =>
  refine uA ?_
  refine TC.condP rfl (fun c1 => ?_) (fun c1 => ?_)
  ·simp only at c1
   refine uA ?_
   refine TO.step rfl (OT.remK rfl rfl rfl rfl rfl (by decide) (r:=((k % 10 : Nat) : Int)) rfl ?_)
   refine TO.step rfl (OT.arithK (r':=((48 + k % 10 : Nat) : Int)) rfl rfl rfl rfl rfl rfl (dc_wrap (k:=48 + k % 10) (by omega)) ?_)
   refine TO.step rfl (OT.conv tab rfl rfl rfl rfl rfl rfl (r:=((UInt8.ofNat (48 + k % 10)).toNat : Int)) (by rw [dig_lt,u8_in (by omega) (by omega)]) ?_)
   refine TO.step rfl (OT.lit tab rfl rfl rfl rfl (fun b => ?_))
   refine TO.freeze fun m2 hm2 hA => ?_
   refine TO.step rfl (OT.bytesStr tab (s:=⟨some ⟨b,0,none⟩,1,1⟩) (bs:=[UInt8.ofNat (48 + k % 10)]) rfl rfl rfl rfl rfl rfl rfl (SlRep.bytes (bs:=[UInt8.ofNat (48 + k % 10)]) hA rfl (by decide)) (by simp) ?_)
   refine uA ?_
   refine TO.step rfl (OT.concat (s:=[UInt8.ofNat (48 + k % 10)]) (u:=s) rfl rfl rfl rfl rfl (by simp only [List.length_cons,List.length_nil];omega) ?_)
   refine uA ?_
   refine TO.step rfl (OT.quoK rfl rfl rfl rfl rfl (by decide) (r:=((k / 10 : Nat) : Int)) (dc_wrap (k:=k / 10) (by omega)) ?_)
   refine uA ?_
   refine ⟨⟨m2,UInt8.ofNat (48 + k % 10) :: s,k / 10,false⟩,uH,uH,rfl,rfl,uS,⟨Mem.le_trans hm hm2,by show k / 10 ≤ n;omega, ?_⟩, ?_⟩
   ·show digN n=(if false=true ∨ 0 < k / 10 then digN (k / 10) else [])++(UInt8.ofNat (48 + k % 10) :: s)
    rw [hI,if_pos (.inr (by omega)),digN_step (by omega),List.append_assoc]
    congr 1
    by_cases h10 : k < 10
    ·rw [if_pos h10,if_neg (by simp;omega)]
    ·rw [if_neg h10,if_pos (.inr (by omega))]
   ·show k / 10 + (if false=true then 1 else 0) < k + (if false=true then 1 else 0)
    (rw [if_neg (by decide)];omega)
  ·simp only at c1
   have hk0 : k=0:=by omega
   rw [if_neg (by simp;omega),List.nil_append] at hI
   refine uA ?_
   refine retQ_ret rfl uS ⟨hm,rfl, ?_⟩
   rw [hI]
end Go.Sep
set_option linter.unusedVariables false
set_option linter.unusedSimpArgs false
namespace Go.Sep
open Go.Proofs
attribute [local irreducible] TC TO OT TCallX TCall DO DOt thenQ blockQ retQ At
set_option maxHeartbeats 2000000 in
theorem pack_ref (s : Sl) (l : List Ch) (m : Mem) (L : List Item) (hs : SlRep rCh m s l) (h0 : errD l=0) : TCall Tryz.prog 13 ⟨[s.v]⟩ m L (Made m L fun r m' => ∃ t : Sl,r=t.v∧SlRep rByte m' t (packD (ordF l))):=by
 obtain ⟨hl64,hnam,hsum⟩:=openOk h0
 have hns:=ok_names h0
 unfold TCall
 refine TCallX.enter Tryz.func13 rfl 45 rfl ?_
 refine uA ?_
 refine TO.step rfl (OT.litR tab rByte (hs:=[]) (l:=[]) trivial rfl rfl rfl rfl rfl (by decide) (fun sA ma hma hsA hoA hcA => ?_))
 refine TO.tokFo hcA hoA 1 ?_
 refine uA ?_
 refine TO.step rfl (OT.call rfl rfl rfl rfl rfl rfl goes27 ((sorted_ref s l ma _ (hs.mono hma) hl64).x ?_));
 rintro _ m1 _ ⟨hm1,rfl,t0,rfl,ys,hf,hp,hsn⟩
 obtain rfl:=sorted_nam hp hnam hsn
 have hsu:=sumD_perm hp
 obtain ⟨ys,hys⟩ : ∃ ys,ys=ordF l:=⟨_,rfl⟩
 rw [← hys] at hf hsu hp ⊢
 have hlen:=hf.len
 have hyl : ys.length ≤ 64:=by rw [hp.length_eq];exact hl64
 have hbk : ∀ k,k < ys.length→(gk ys k).nm.length ≤ 64∧(gk ys k).tx.length ≤ 65536:=fun k hk=>by
  refine ⟨hns _ (hp.mem_iff.1 (List.mem_of_getElem? (gk_get hk))), ?_⟩
  have h1:=sumD_next hk
  have h2:=sumD_le ys (k + 1)
  omega
 have hpl : ∀ k,k ≤ ys.length→(packD (ys.take k)).length ≤ k * 65700:=by
  intro k
  induction k with
  | zero=>intro _;simp [packD]
  | succ k ih =>
   intro hk
   have h1:=ih (by omega)
   have h2:=packF_len (gk ys k)
   have h3:=hbk k (by omega)
   rw [packD_next (by omega),List.length_append]
   omega
 refine uA ?_
 refine TC.loopK (ι:=PkS) [4] rfl (fun x=>[(5, .int .i64 (x.k : Int)),(3,x.s.v)]) (fun x=>x.m) (fun x=>tok x.s 1 :: L) (fun x=>m1 ≤ x.m∧x.k ≤ ys.length∧SlRep rByte x.m x.s (packD (ys.take x.k))∧Own x.s) (fun x=>ys.length - x.k) ⟨m1,sA,0⟩ uH rfl uS ⟨Mem.le_refl _,Nat.zero_le _,hsA.mono hm1,hoA⟩ ?_
 rintro ⟨m2,t,k⟩ ⟨hm2,hk,ht,hto⟩
 simp only at hm2 hk ht hto
 show TC _ _ _ ((5, .int .i64 (k : Int)) :: (3,t.v) :: _) _ m2 (tok t 1 :: L) _
 have hf2:=hf.mono hm2
 refine uA ?_
 refine TC.condP rfl (fun h5 => ?_) (fun h5 => ?_)
 ·have hlt : k < ys.length:=by omega
  have hx : ys[k]? = some (gk ys k):=gk_get hlt
  have hnx:=packD_next hlt
  have hpk:=hpl (k + 1) (by omega)
  rw [hnx,List.length_append] at hpk
  have hb1:=hbk k hlt
  have hpe : packF (gk ys k)=(gk ys k).nm++[32]++Pt.digN (gk ys k).tx.length++[10]++(gk ys k).tx:=rfl
  have hpn : (packF (gk ys k)).length=(gk ys k).nm.length + 1 + (Pt.digN (gk ys k).tx.length).length + 1 + (gk ys k).tx.length:=by rw [hpe];simp;omega
  refine uA ?_
  refine TO.step rfl (OT.index tab rCh k hf2 rfl rfl rfl rfl rfl (by first | rfl | omega | (simp only;omega)) rfl hx ?_)
  rintro b1 i1 f1 hr1 hA1
  obtain rfl : f1=gk ys k:=hr1
  refine uA ?_
  (refine TO.step rfl (OT.loadA tab hA1 rfl rfl rfl rfl rfl ?_))
  refine TO.step rfl (OT.appendS tab 0 ht hto rfl rfl rfl rfl rfl rfl rfl rfl rfl rfl rfl (by omega) (fun t3 m3 hm3 ht3 ho3 => ?_))
  refine uA ?_
  refine TO.step rfl (OT.litR tab rByte (hs:=[32]) (l:=[32]) ⟨rfl,trivial⟩ rfl rfl rfl rfl rfl (by decide) (fun sB mB hmB hsB hoB hcB => ?_))
  refine TO.step rfl (OT.append tab rByte 0 (ht3.mono hmB) ho3 hsB rfl rfl rfl rfl rfl rfl rfl (by simp only [List.length_append,List.length_cons,List.length_nil];show _ * 1 ≤ _;omega) (fun t4 m4 hm4 ht4 ho4 => ?_))
  have hf4:=hf2.mono (Mem.le_trans hm3 (Mem.le_trans hmB hm4))
  refine uA ?_
  refine TO.step rfl (OT.index tab rCh k hf4 rfl rfl rfl rfl rfl (by first | rfl | omega | (simp only;omega)) rfl hx ?_)
  rintro b2 i2 f2 hr2 hA2
  obtain rfl : f2=gk ys k:=hr2
  refine uA ?_
  (refine TO.step rfl (OT.loadA tab hA2 rfl rfl rfl rfl rfl ?_))
  refine uA ?_
  refine TO.step rfl (OT.call rfl rfl rfl rfl rfl rfl goes28 ((decimal_law m4 _ ((gk ys k).tx.length : Int) (by omega) (by omega)).x ?_));
  rintro _ _ _ ⟨rfl,rfl,rfl⟩
  rw [Int.toNat_natCast]
  refine TO.step rfl (OT.appendS tab 0 ht4 ho4 rfl rfl rfl rfl rfl rfl rfl rfl rfl rfl rfl (by simp only [List.length_append,List.length_cons,List.length_nil];omega) (fun t5 m5 hm5 ht5 ho5 => ?_))
  refine uA ?_
  refine TO.step rfl (OT.litR tab rByte (hs:=[10]) (l:=[10]) ⟨rfl,trivial⟩ rfl rfl rfl rfl rfl (by decide) (fun sC mC hmC hsC hoC hcC => ?_))
  refine TO.step rfl (OT.append tab rByte 0 (ht5.mono hmC) ho5 hsC rfl rfl rfl rfl rfl rfl rfl (by simp only [List.length_append,List.length_cons,List.length_nil];show _ * 1 ≤ _;omega) (fun t6 m6 hm6 ht6 ho6 => ?_))
  have hf6:=hf4.mono (Mem.le_trans hm5 (Mem.le_trans hmC hm6))
  refine uA ?_
  refine TO.step rfl (OT.index tab rCh k hf6 rfl rfl rfl rfl rfl (by first | rfl | omega | (simp only;omega)) rfl hx ?_)
  rintro b3 i3 f3 hr3 hA3
  obtain rfl : f3=gk ys k:=hr3
  refine uA ?_
  (refine TO.step rfl (OT.loadA tab hA3 rfl rfl rfl rfl rfl ?_))
  refine TO.step rfl (OT.appendS tab 0 ht6 ho6 rfl rfl rfl rfl rfl rfl rfl rfl rfl rfl rfl (by simp only [List.length_append,List.length_cons,List.length_nil];omega) (fun t7 m7 hm7 ht7 ho7 => ?_))
  refine uA ?_
  refine TO.step rfl (OT.arith (r':=((k + 1 : Nat) : Int)) rfl rfl rfl rfl rfl rfl rfl (by omega) ?_)
  refine uA ?_
  exact ⟨⟨m7,t7,k + 1⟩,uH,uH,rfl,rfl,uS,⟨Mem.le_trans hm2 (Mem.le_trans hm3 (Mem.le_trans hmB (Mem.le_trans hm4 (Mem.le_trans hm5 (Mem.le_trans hmC (Mem.le_trans hm6 hm7)))))),by show k + 1 ≤ _;omega,by
   show SlRep rByte m7 t7 (packD (ys.take (k + 1)))
   rw [hnx,hpe]
   simpa only [List.append_assoc] using ht7,ho7⟩,by show ys.length - (k + 1) < ys.length - k;omega⟩
 ·have hke : k=ys.length:=by omega
  subst hke
  rw [List.take_length] at ht
  refine uA ?_
  refine retQ_ret rfl (L':=L) uS ⟨Mem.le_trans hma (Mem.le_trans hm1 hm2),rfl,t,rfl,ht⟩
end Go.Sep
set_option linter.unusedVariables false
set_option linter.unusedSimpArgs false
namespace Go.Sep
open Go.Proofs
attribute [local irreducible] TC TO OT TCallX TCall DO DOt thenQ blockQ retQ At
set_option maxHeartbeats 2000000 in
theorem bundlePacks_walk (s : Sl) (l : List Ch) (m : Mem) (L : List Item) (hs : SlRep rCh m s l) (hw : Wide l) (hT : Tb m) : TCall Tryz.prog 3 ⟨[s.v]⟩ m L (Made m L fun r _=>r = .bool true):=by
 unfold TCall
 refine TCallX.enter Tryz.func3 rfl 53 rfl ?_
 refine uA ?_
 refine TO.step rfl (OT.call rfl rfl rfl rfl rfl rfl goes9 ((pack_law s l m L hs hw hT).x ?_));
 rintro r1 m1 _ ⟨hm1,rfl,hR⟩
 by_cases h0 : errD l=0
 ·rcases hR with ⟨h, -⟩ | ⟨-,t,rfl,ht⟩
  ·exact absurd h0 h
  refine uA ?_
  refine TO.step rfl (OT.call rfl rfl rfl rfl rfl rfl goes10 ((join_law s l m1 _ (hs.mono hm1) hw).x ?_));
  rintro _ m2 _ ⟨hm2,rfl,rfl⟩
  rw [show joinX l=joinD (ordF l) from if_pos h0,h0]
  refine uA ?_
  refine TO.step rfl (OT.call rfl rfl rfl rfl rfl rfl goes11 ((check_ref s l m2 _ (hs.mono (Mem.le_trans hm1 hm2)) hw).x ?_));
  rintro _ _ _ ⟨rfl,rfl,rfl⟩
  rw [h0]
  refine uA ?_
  refine TO.step rfl (OT.call rfl rfl rfl rfl rfl rfl goes12 ((awake_law m2 _).x ?_));
  rintro _ m3 _ ⟨hm3,rfl,rfl⟩
  have h03:=Mem.le_trans hm1 (Mem.le_trans hm2 hm3)
  have ht3:=ht.mono (Mem.le_trans hm2 hm3)
  refine uA ?_
  refine TC.draw0 [] mixed 13 rfl ?_
  refine DO.pure tab uC (by kernel_rfl) [0,2] (by kernel_rfl) rfl ?_
  refine DO.fork 1 [3] (by kernel_rfl) ⟨⟨_,rfl,rfl,rfl, ?_⟩,⟨_,rfl,rfl,rfl, ?_⟩,trivial⟩
  ·refine OT.bytesStrA tab (s:=t) rfl rfl rfl rfl rfl rfl rfl ht3 ?_
   refine ⟨Mem.le_refl _,_,List.Perm.refl _, ?_⟩
   refine DO.run 3 rfl rfl (by kernel_rfl) rfl ?_
   refine OT.call rfl rfl rfl rfl rfl rfl goes13 ((pack_ref s l _ _ (hs.mono h03) h0).x ?_)
   rintro _ m4 _ ⟨hm4,rfl,t4,rfl,ht4⟩
   refine ⟨hm4,_,List.Perm.refl _, ?_⟩
   refine DO.run 4 rfl rfl (by kernel_rfl) rfl ?_
   refine OT.bytesStrA tab (s:=t4) rfl rfl rfl rfl rfl rfl rfl ht4 ?_
   refine ⟨Mem.le_refl _,_,List.Perm.refl _, ?_⟩
   have h04:=Mem.le_trans h03 hm4
   have hc : decide (packD (ordF l)=packD (ordF l))=true:=decide_eq_true rfl
   have hd : decide (joinD (ordF l)=joinD (ordF l))=true:=decide_eq_true rfl
   refine DO.pure tab (by repeat (first|exact Calm.ret|refine Calm.then ?_)) (by kernel_rfl) [5,6] (by kernel_rfl) rfl ?_
   rw [hc]
   refine DO.pure tab (by repeat (first|exact Calm.ret|refine Calm.then ?_)) (by kernel_rfl) [7,8] (by kernel_rfl) rfl ?_
   refine DO.run 9 rfl rfl (by kernel_rfl) rfl ?_
   refine OT.call rfl rfl rfl rfl rfl rfl goes14 ((join_ref s l _ _ (hs.mono h04) h0).x ?_)
   rintro _ m9 _ ⟨hm9,rfl,rfl⟩
   refine ⟨hm9,_,List.Perm.refl _, ?_⟩
   refine DO.pure tab (by repeat (first|exact Calm.ret|refine Calm.then ?_)) (by kernel_rfl) [10,11,12] (by kernel_rfl) rfl ?_
   rw [hd]
   refine DO.nil (by kernel_rfl) ?_
   refine uA ?_
   refine retQ_ret rfl (L':=L) uS ⟨Mem.le_trans h04 hm9,rfl,rfl⟩
  ·refine OT.call rfl rfl rfl rfl rfl rfl goes13 ((pack_ref s l _ _ (hs.mono h03) h0).x ?_)
   rintro _ m4 _ ⟨hm4,rfl,t4,rfl,ht4⟩
   refine ⟨hm4,_,List.Perm.refl _, ?_⟩
   have h04:=Mem.le_trans h03 hm4
   have ht34:=ht3.mono hm4
   refine DO.fork 1 [4] (by kernel_rfl) ⟨⟨_,rfl,rfl,rfl, ?_⟩,⟨_,rfl,rfl,rfl, ?_⟩,trivial⟩
   ·refine OT.bytesStrA tab (s:=t) rfl rfl rfl rfl rfl rfl rfl ht34 ?_
    refine ⟨Mem.le_refl _,_,List.Perm.refl _, ?_⟩
    refine DO.run 4 rfl rfl (by kernel_rfl) rfl ?_
    refine OT.bytesStrA tab (s:=t4) rfl rfl rfl rfl rfl rfl rfl ht4 ?_
    refine ⟨Mem.le_refl _,_,List.Perm.refl _, ?_⟩
    have hc : decide (packD (ordF l)=packD (ordF l))=true:=decide_eq_true rfl
    have hd : decide (joinD (ordF l)=joinD (ordF l))=true:=decide_eq_true rfl
    refine DO.pure tab (by repeat (first|exact Calm.ret|refine Calm.then ?_)) (by kernel_rfl) [5,6] (by kernel_rfl) rfl ?_
    rw [hc]
    refine DO.pure tab (by repeat (first|exact Calm.ret|refine Calm.then ?_)) (by kernel_rfl) [7,8] (by kernel_rfl) rfl ?_
    refine DO.run 9 rfl rfl (by kernel_rfl) rfl ?_
    refine OT.call rfl rfl rfl rfl rfl rfl goes14 ((join_ref s l _ _ (hs.mono h04) h0).x ?_)
    rintro _ m9 _ ⟨hm9,rfl,rfl⟩
    refine ⟨hm9,_,List.Perm.refl _, ?_⟩
    refine DO.pure tab (by repeat (first|exact Calm.ret|refine Calm.then ?_)) (by kernel_rfl) [10,11,12] (by kernel_rfl) rfl ?_
    rw [hd]
    refine DO.nil (by kernel_rfl) ?_
    refine uA ?_
    refine retQ_ret rfl (L':=L) uS ⟨Mem.le_trans h04 hm9,rfl,rfl⟩
   ·refine OT.bytesStrA tab (s:=t4) rfl rfl rfl rfl rfl rfl rfl ht4 ?_
    refine ⟨Mem.le_refl _,_,List.Perm.refl _, ?_⟩
    refine DO.run 1 rfl rfl (by kernel_rfl) rfl ?_
    refine OT.bytesStrA tab (s:=t) rfl rfl rfl rfl rfl rfl rfl ht34 ?_
    refine ⟨Mem.le_refl _,_,List.Perm.refl _, ?_⟩
    have hc : decide (packD (ordF l)=packD (ordF l))=true:=decide_eq_true rfl
    have hd : decide (joinD (ordF l)=joinD (ordF l))=true:=decide_eq_true rfl
    refine DO.pure tab (by repeat (first|exact Calm.ret|refine Calm.then ?_)) (by kernel_rfl) [5,6] (by kernel_rfl) rfl ?_
    rw [hc]
    refine DO.pure tab (by repeat (first|exact Calm.ret|refine Calm.then ?_)) (by kernel_rfl) [7,8] (by kernel_rfl) rfl ?_
    refine DO.run 9 rfl rfl (by kernel_rfl) rfl ?_
    refine OT.call rfl rfl rfl rfl rfl rfl goes14 ((join_ref s l _ _ (hs.mono h04) h0).x ?_)
    rintro _ m9 _ ⟨hm9,rfl,rfl⟩
    refine ⟨hm9,_,List.Perm.refl _, ?_⟩
    refine DO.pure tab (by repeat (first|exact Calm.ret|refine Calm.then ?_)) (by kernel_rfl) [10,11,12] (by kernel_rfl) rfl ?_
    rw [hd]
    refine DO.nil (by kernel_rfl) ?_
    refine uA ?_
    refine retQ_ret rfl (L':=L) uS ⟨Mem.le_trans h04 hm9,rfl,rfl⟩
 ·rcases hR with ⟨-,rfl⟩ | ⟨h, -⟩
  ·refine uA ?_
   refine TO.step rfl (OT.call rfl rfl rfl rfl rfl rfl goes10 ((join_law s l m1 _ (hs.mono hm1) hw).x ?_));
   rintro _ m2 _ ⟨hm2,rfl,rfl⟩
   rw [show joinX l=[] from if_neg h0]
   refine uA ?_
   refine TO.step rfl (OT.call rfl rfl rfl rfl rfl rfl goes11 ((check_ref s l m2 _ (hs.mono (Mem.le_trans hm1 hm2)) hw).x ?_));
   rintro _ _ _ ⟨rfl,rfl,rfl⟩
   refine uA ?_
   refine TO.step rfl (OT.call rfl rfl rfl rfl rfl rfl goes12 ((awake_law m2 _).x ?_));
   rintro _ m3 _ ⟨hm3,rfl,rfl⟩
   have h03:=Mem.le_trans hm1 (Mem.le_trans hm2 hm3)
   obtain ⟨E,hE⟩ : ∃ E,E=errD l:=⟨_,rfl⟩
   rw [← hE] at h0 ⊢
   have hEE : (!decide (E=E))=false:=by simp
   refine uA ?_
   rw [hEE]
   refine uA ?_
   rw [hEE]
   refine uA ?_
   refine TC.condN rfl (fun h7 => ?_) (fun h7 => ?_)
   ·refine uA ?_
    refine retQ_ret rfl (L':=L) uS ⟨h03,rfl, ?_⟩
    simp
   ·exact absurd h7 h0
  ·exact absurd h h0
end Go.Sep
set_option linter.unusedVariables false
set_option linter.unusedSimpArgs false
namespace Go.Sep
open Go.Proofs
structure Spt where
 f : Int
 l : Int
 b : Int
instance : Inhabited Spt:=⟨⟨0,0,0⟩⟩
instance : DecidableEq Spt:=fun x y=>match x,y with
 | ⟨a,b,c⟩,⟨a',b',c'⟩=>decidable_of_iff (a=a' ∧ b=b' ∧ c=c') (by simp)
@[reducible] def spV (x : Spt) : Value := .agg ⟨[.int .i64 x.f, .int .i64 x.l, .int .i64 x.b]⟩
def rSpt : R Spt Spt:=⟨3,24,fun x=>[.int .i64 x.f, .int .i64 x.l, .int .i64 x.b],fun _ h a=>h=a,fun _=>rfl,fun _=>rfl,fun _ h=>h⟩
def spAt (f : Nat) (a : Str) : Spt:=⟨((f + 1 : Nat) : Int),((1 + a.count 10 : Nat) : Int),byteOf a⟩
def spF (f : Nat) (t : Str) (n : Nat) : List Spt:=(List.range n).map fun k=>spAt f (t.take k)
theorem spF_succ (f : Nat) (t : Str) (n : Nat) : spF f t (n + 1)=spF f t n++[spAt f (t.take n)]:=by
 simp [spF,List.range_succ]
theorem spF_len (f : Nat) (t : Str) (n : Nat) : (spF f t n).length=n:=by simp [spF]
def txt (x : Ch) : Str:=x.tx++[10]
def spD (l : List Ch) : Nat→List Spt
 | 0=>[]
 | k + 1=>spD l k++spF k (txt (gk l k)) (txt (gk l k)).length
theorem spD_len (l : List Ch) : ∀ k,k ≤ l.length→(spD l k).length=sumD (l.take k)
 | 0,_=>rfl
 | k + 1,h=>by
  rw [spD,List.length_append,spD_len l k (by omega),spF_len,sumD_next (by omega),txt,List.length_append]
  rfl
theorem lastB_take (s : Str) (c : UInt8) (r : Str) : ∀ k,k ≤ s.length→lastB (s++r) c k=lastB s c k
 | 0,_=>rfl
 | k + 1,h=>by
  unfold lastB
  rw [List.getElem?_append_left (by omega),lastB_take s c r k (by omega)]
theorem byteOf_snoc (a : Str) (c : UInt8) : byteOf (a++[c])=if c=10 then 1 else byteOf a + 1:=by
 unfold byteOf
 rw [List.length_append,List.length_singleton]
 conv=>lhs;unfold lastB
 simp only [List.getElem?_append_right (Nat.le_refl _),Nat.sub_self,List.getElem?_cons_zero,Option.some.injEq]
 split
 ·omega
 ·rw [lastB_take a 10 [c] _ (Nat.le_refl _)];omega
theorem count_snoc (a : Str) (c : UInt8) : (a++[c]).count 10=a.count 10 + if c=10 then 1 else 0:=by
 rw [List.count_append,List.count_singleton]
 by_cases h : c=10
 ·simp [h]
 ·simp [h]
theorem spAt_snoc (f : Nat) (a : Str) (c : UInt8) : spAt f (a++[c])=if c=10 then ⟨(spAt f a).f,(spAt f a).l + 1,1⟩ else ⟨(spAt f a).f,(spAt f a).l,(spAt f a).b + 1⟩:=by
 unfold spAt
 rw [byteOf_snoc,count_snoc]
 split <;> simp <;> omega
theorem mid_take (a b c : Str) {n t : Nat} (hn : n=a.length) (h : n ≤ t) (h2 : t ≤ n + b.length) : ((a++(b++c)).take t).drop n=b.take (t - n):=by
 subst hn
 rw [List.take_append,List.take_of_length_le h,List.drop_left,List.take_append_of_le_length (by omega)]
theorem joinD_at (ys : List Ch) {f t : Nat} (hF : InF ys t f) : ((joinD ys).take t).drop (sumD (ys.take f))=(txt (gk ys f)).take (t - sumD (ys.take f)):=by
 have h1 : joinD ys=joinD (ys.take f)++(txt (gk ys f)++joinD (ys.drop (f + 1))):=by
  have e : ys=ys.take f++(gk ys f :: ys.drop (f + 1)):=by
   have h2 : ys.drop f=gk ys f :: ys.drop (f + 1):=by
    rw [List.drop_eq_getElem_cons hF.lt]
    congr 1
    exact Option.some.inj ((List.getElem?_eq_getElem hF.lt).symm.trans (gk_get hF.lt))
   rw [← h2,List.take_append_drop]
  conv=>lhs;rw [e]
  rw [joinD_app]
  congr 1
 have hl:=joinD_len (ys.take f)
 have hlo:=hF.lo
 have hhi:=hF.hi
 rw [sumD_next hF.lt] at hhi
 have h2 : (txt (gk ys f)).length=(gk ys f).tx.length + 1:=by simp [txt]
 rw [h1]
 exact mid_take _ _ _ hl.symm (by omega) (by omega)
theorem spD_at (l : List Ch) : ∀ k,k ≤ l.length → ∀ t f,f < k→sumD (l.take f) ≤ t→t < sumD (l.take (f + 1))→(spD l k)[t]? = some (spAt f ((txt (gk l f)).take (t - sumD (l.take f))))
 | 0,_,_,_,h,_,_=>by omega
 | k + 1,hk,t,f,hf,hlo,hhi=>by
  have hl:=spD_len l k (by omega)
  rcases Nat.lt_or_ge f k with h | h
  ·have h3 : sumD (l.take (f + 1)) ≤ sumD (l.take k):=by
    rcases Nat.lt_or_ge (f + 1) k with h4 | h4
    ·exact Nat.le_of_lt (sumD_lt l h4 (by omega))
    ·rw [show k=f + 1 by omega];exact Nat.le_refl _
   rw [spD,List.getElem?_append_left (by omega)]
   exact spD_at l k (by omega) t f h hlo hhi
  ·obtain rfl : f=k:=by omega
   rw [sumD_next (by omega)] at hhi
   rw [spD,List.getElem?_append_right (by omega),hl]
   have h2 : (txt (gk l f)).length=(gk l f).tx.length + 1:=by simp [txt]
   simp only [spF,List.getElem?_map]
   rw [List.getElem?_range (by omega)]
   rfl
theorem inF_ex (ys : List Ch) : ∀ k t,k ≤ ys.length→t < sumD (ys.take k) → ∃ f,f < k∧InF ys t f
 | 0,t,_,h=>by simp [sumD] at h
 | k + 1,t,hk,h=>by
  rcases Nat.lt_or_ge t (sumD (ys.take k)) with h1 | h1
  ·obtain ⟨f,h2,h3⟩:=inF_ex ys k t (by omega) h1
   exact ⟨f,by omega,h3⟩
  ·exact ⟨k,by omega,⟨by omega,h1,h⟩⟩
def linS (cur : Str) : Str→List Str
 | []=>[cur]
 | c :: t=>if c=10 then (cur++[c]) :: linS [] t else linS (cur++[c]) t
def linesD (t : Str) : List Str:=linS [] t
theorem linS_flat : ∀ (t cur : Str),(linS cur t).flatten=cur++t
 | [],cur=>by simp [linS]
 | c :: t,cur=>by
  unfold linS
  split
  ·rw [List.flatten_cons,linS_flat t []];simp
  ·rw [linS_flat t _];simp
def sumL (l : List Str) : Nat:=(l.map List.length).sum
theorem sumL_flat (l : List Str) : l.flatten.length=sumL l:=by simp [sumL,List.length_flatten]
theorem sumL_next {l : List Str} {i : Nat} (h : i < l.length) : sumL (l.take (i + 1))=sumL (l.take i) + l[i].length:=by
 rw [List.take_succ_eq_append_getElem h];simp only [sumL,List.map_append,List.sum_append,List.map_cons,List.map_nil,List.sum_cons,List.sum_nil];omega
theorem sumL_le (l : List Str) (i : Nat) : sumL (l.take i) ≤ sumL l:=by
 have : sumL (l.take i++l.drop i)=sumL (l.take i) + sumL (l.drop i):=by simp only [sumL,List.map_append,List.sum_append]
 rw [List.take_append_drop] at this
 omega
def Line1 (x : Str) : Prop := ∃ b : Str,x=b++[10]∧(10 : UInt8) ∉ b
theorem linS_ok : ∀ (t cur : Str),(10 : UInt8) ∉ cur → ∃ l r,linS cur t=l++[r]∧(∀ x ∈ l,Line1 x)∧(10 : UInt8) ∉ r
 | [],cur,h=>⟨[],cur,rfl,(fun _ h=>by cases h),h⟩
 | c :: t,cur,h=>by
  by_cases e : c=10
  ·obtain ⟨l,r,h1,h2,h3⟩:=linS_ok t [] (by simp)
   refine ⟨(cur++[c]) :: l,r,by rw [linS,if_pos e,h1];rfl,fun x hx => ?_,h3⟩
   rcases List.mem_cons.1 hx with rfl | hx
   ·exact ⟨cur,by rw [e],h⟩
   ·exact h2 x hx
  ·obtain ⟨l,r,h1,h2,h3⟩:=linS_ok t (cur++[c]) (by simp [h,Ne.symm e])
   exact ⟨l,r,by rw [linS,if_neg e,h1],h2,h3⟩
theorem byteOf_free : ∀ (r a : Str),(10 : UInt8) ∉ r→byteOf (a++r)=byteOf a + r.length
 | [],a,_=>by simp
 | c :: r,a,h=>by
  simp only [List.mem_cons,not_or] at h
  rw [show a++c :: r=(a++[c])++r by simp,byteOf_free r _ h.2,byteOf_snoc,if_neg (Ne.symm h.1),List.length_cons]
  omega
theorem lines_count : ∀ l : List Str,(∀ x ∈ l,Line1 x)→l.flatten.count 10=l.length
 | [],_=>rfl
 | x :: l,h=>by
  obtain ⟨b,rfl,hb⟩:=h x List.mem_cons_self
  rw [List.flatten_cons,List.count_append,lines_count l (fun y hy=>h y (List.mem_cons_of_mem _ hy)),count_snoc,List.count_eq_zero.2 hb]
  simp;omega
theorem lines_byte (l : List Str) (h : ∀ x ∈ l,Line1 x) : byteOf l.flatten=1:=by
 rcases List.eq_nil_or_concat l with rfl | ⟨l',x,rfl⟩
 ·rfl
 ·obtain ⟨b,rfl,hb⟩:=h x (by simp)
  rw [List.concat_eq_append,List.flatten_append,List.flatten_singleton,← List.append_assoc,byteOf_snoc,if_pos rfl]
theorem spAt_line (f : Nat) (l : List Str) (r : Str) (h : ∀ x ∈ l,Line1 x) (hr : (10 : UInt8) ∉ r) : spAt f (l.flatten++r) = ⟨((f + 1 : Nat) : Int),((l.length + 1 : Nat) : Int),((r.length + 1 : Nat) : Int)⟩:=by
 unfold spAt
 rw [byteOf_free r _ hr,lines_byte l h,List.count_append,lines_count l h,List.count_eq_zero.2 hr]
 simp;omega
theorem flat_take : ∀ (l : List Str) (i r : Nat) (h : i < l.length),r ≤ l[i].length→l.flatten.take (sumL (l.take i) + r)=(l.take i).flatten++l[i].take r
 | [],i,_,h,_=>by simp at h
 | x :: l,0,r,_,hr=>by
  simp only [List.getElem_cons_zero] at hr
  simp [sumL,List.take_append,Nat.sub_eq_zero_of_le hr]
 | x :: l,i + 1,r,h,hr=>by
  simp only [List.getElem_cons_succ] at hr
  have ih:=flat_take l i r (by simpa using h) hr
  have e : sumL ((x :: l).take (i + 1)) + r=x.length + (sumL (l.take i) + r):=by simp [sumL];omega
  rw [e,List.flatten_cons,List.take_length_add_append,ih]
  simp
theorem flat_pos : ∀ (l : List Str) (k : Nat),k < sumL l → ∃ (i r : Nat) (h : i < l.length),r < l[i].length∧k=sumL (l.take i) + r
 | [],k,h=>by simp [sumL] at h
 | x :: l,k,h=>by
  rcases Nat.lt_or_ge k x.length with h1 | h1
  ·exact ⟨0,k,by simp,h1,by simp [sumL]⟩
  ·have h2 : sumL (x :: l)=x.length + sumL l:=by simp [sumL]
   obtain ⟨i,r,hi,hr,e⟩:=flat_pos l (k - x.length) (by omega)
   refine ⟨i + 1,r,by simpa using hi,by simpa using hr, ?_⟩
   have h3 : sumL ((x :: l).take (i + 1))=x.length + sumL (l.take i):=by simp [sumL]
   omega
theorem lines_free (t : Str) {i r : Nat} (h : i < (linesD t).length) (hr : r < (linesD t)[i].length) : (∀ x ∈ (linesD t).take i,Line1 x)∧(10 : UInt8) ∉ (linesD t)[i].take r:=by
 obtain ⟨l,z,h1,h2,h3⟩:=linS_ok t [] (by simp)
 have e : linesD t=l++[z]:=h1
 have hi : i ≤ l.length:=by rw [e] at h;simp at h;omega
 constructor
 ·intro x hx
  rw [e,List.take_append,Nat.sub_eq_zero_of_le hi,List.take_zero,List.append_nil] at hx
  exact h2 x (List.mem_of_mem_take hx)
 ·rcases Nat.lt_or_ge i l.length with h4 | h4
  ·have h5 : (linesD t)[i]=l[i]:=by simp only [e];rw [List.getElem_append_left h4]
   obtain ⟨b,hb,hn⟩:=h2 _ (List.getElem_mem h4)
   rw [h5,hb] at hr ⊢
   rw [List.length_append,List.length_singleton] at hr
   rw [List.take_append,Nat.sub_eq_zero_of_le (by omega),List.take_zero,List.append_nil]
   exact fun hm=>hn (List.mem_of_mem_take hm)
  ·have h5 : (linesD t)[i]=z:=by
    obtain rfl : i=l.length:=by omega
    simp only [e];rw [List.getElem_append_right (Nat.le_refl _)];simp
   rw [h5]
   exact fun hm=>h3 (List.mem_of_mem_take hm)
theorem linesD_flat (t : Str) : (linesD t).flatten=t:=by rw [linesD,linS_flat];rfl
theorem linesD_sum (t : Str) : sumL (linesD t)=t.length:=by rw [← sumL_flat,linesD_flat]
def Pos (ys : List Ch) (s : Spt) (n : Nat) : Prop := ∃ (f i r : Nat) (h : i < (linesD (txt (gk ys f))).length),f < ys.length∧r < (linesD (txt (gk ys f)))[i].length∧s = ⟨((f + 1 : Nat) : Int),((i + 1 : Nat) : Int),((r + 1 : Nat) : Int)⟩ ∧ n=sumD (ys.take f) + (sumL ((linesD (txt (gk ys f))).take i) + r)
theorem Pos.uniq {ys : List Ch} {s : Spt} {n n' : Nat} (h : Pos ys s n) (h' : Pos ys s n') : n=n':=by
 obtain ⟨f,i,r,_,_,_,rfl,rfl⟩:=h
 obtain ⟨f',i',r',_,_,_,e,rfl⟩:=h'
 simp only [Spt.mk.injEq,Int.natCast_inj,Nat.add_right_cancel_iff] at e
 obtain ⟨rfl,rfl,rfl⟩:=e
 rfl
theorem txt_len (x : Ch) : (txt x).length=x.tx.length + 1:=by simp [txt]
theorem Pos.at {ys : List Ch} {s : Spt} {n : Nat} (h : Pos ys s n) : (spD ys ys.length)[n]? = some s:=by
 obtain ⟨f,i,r,hi,hf,hr,rfl,rfl⟩:=h
 have h1:=sumL_next hi
 have h2:=sumL_le (linesD (txt (gk ys f))) (i + 1)
 rw [linesD_sum,txt_len] at h2
 rw [spD_at ys _ (Nat.le_refl _) _ f hf (by omega) (by rw [sumD_next hf];omega)]
 obtain ⟨h3,h4⟩:=lines_free (txt (gk ys f)) hi hr
 have h5:=flat_take _ i r hi (by omega)
 rw [linesD_flat] at h5
 rw [Nat.add_sub_cancel_left,h5,spAt_line f _ _ h3 h4]
 simp only [List.length_take]
 congr 2
 ·congr 2;omega
 ·congr 2;omega
theorem pos_at {ys : List Ch} {s : Spt} {n : Nat} (h : (spD ys ys.length)[n]? = some s) : Pos ys s n:=by
 have hn : n < sumD ys:=by
  have:=(List.getElem?_eq_some_iff.1 h).1
  rw [spD_len ys _ (Nat.le_refl _),List.take_length] at this
  exact this
 obtain ⟨f,_,hF⟩:=inF_ex ys ys.length n (Nat.le_refl _) (by rw [List.take_length];exact hn)
 have hlo:=hF.lo
 have hhi:=hF.hi
 rw [sumD_next hF.lt] at hhi
 obtain ⟨i,r,hi,hr,e⟩:=flat_pos (linesD (txt (gk ys f))) (n - sumD (ys.take f)) (by rw [linesD_sum,txt_len];omega)
 have hp : Pos ys ⟨((f + 1 : Nat) : Int),((i + 1 : Nat) : Int),((r + 1 : Nat) : Int)⟩ n:=⟨f,i,r,hi,hF.lt,hr,rfl,by omega⟩
 have:=hp.at
 rw [h] at this
 rw [Option.some.inj this]
 exact hp
end Go.Sep
set_option linter.unusedVariables false
set_option linter.unusedSimpArgs false
namespace Go.Sep
open Go.Proofs
attribute [local irreducible] TC TO OT TCallX TCall DO DOt thenQ blockQ retQ At
structure SqS where
 m : Mem
 s : Sl
 k : Nat
structure SpS where
 m : Mem
 s : Sl
 k : Nat
 p : Spt
theorem spF_nil (f : Nat) (t : Str) : spF f t 0=[]:=rfl
theorem byteOf_rng (a : Str) : 0 < byteOf a∧byteOf a ≤ a.length + 1:=by
 have:=lastB_rng a 10 a.length
 unfold byteOf
 omega
set_option maxHeartbeats 2000000 in
theorem spots_ref (s : Sl) (l : List Ch) (m : Mem) (L : List Item) (hs : SlRep rCh m s l) (h0 : errD l=0) : TCall Tryz.prog 17 ⟨[s.v]⟩ m L (Made m L fun r m' => ∃ t : Sl,r=t.v∧SlRep rSpt m' t (spD (ordF l) (ordF l).length)):=by
 obtain ⟨hl64,hnam,hsum⟩:=openOk h0
 unfold TCall
 refine TCallX.enter Tryz.func17 rfl 51 rfl ?_
 refine uA ?_
 refine TO.step rfl (OT.litR tab rSpt (hs:=[]) (l:=[]) trivial rfl rfl rfl rfl rfl (by decide) (fun sA ma hma hsA hoA hcA => ?_))
 refine TO.tokFo hcA hoA 3 ?_
 refine uA ?_
 refine TO.step rfl (OT.call rfl rfl rfl rfl rfl rfl goes27 ((sorted_ref s l ma _ (hs.mono hma) hl64).x ?_));
 rintro _ m1 _ ⟨hm1,rfl,t0,rfl,ys,hf,hp,hsn⟩
 obtain rfl:=sorted_nam hp hnam hsn
 have hsu:=sumD_perm hp
 obtain ⟨ys,hys⟩ : ∃ ys,ys=ordF l:=⟨_,rfl⟩
 rw [← hys] at hf hsu hp ⊢
 have hlen:=hf.len
 have hyl : ys.length ≤ 64:=by rw [hp.length_eq];exact hl64
 refine uA ?_
 refine TC.loopK (ι:=SqS) [4] rfl (fun x=>[(5, .int .i64 (x.k : Int)),(3,x.s.v)]) (fun x=>x.m) (fun x=>tok x.s 3 :: L) (fun x=>m1 ≤ x.m∧x.k ≤ ys.length∧SlRep rSpt x.m x.s (spD ys x.k)∧Own x.s) (fun x=>ys.length - x.k) ⟨m1,sA,0⟩ uH rfl uS ⟨Mem.le_refl _,Nat.zero_le _,hsA.mono hm1,hoA⟩ ?_
 rintro ⟨m2,t,f⟩ ⟨hm2,hk,ht,hto⟩
 simp only at hm2 hk ht hto
 show TC _ _ _ ((5, .int .i64 (f : Int)) :: (3,t.v) :: _) _ m2 (tok t 3 :: L) _
 have hf2:=hf.mono hm2
 refine uA ?_
 refine TC.condP rfl (fun h5 => ?_) (fun h5 => ?_)
 ·have hlt : f < ys.length:=by omega
  have hx : ys[f]? = some (gk ys f):=gk_get hlt
  have hnx:=sumD_next hlt
  have hsl:=sumD_le ys (f + 1)
  have hdl:=spD_len ys f (by omega)
  obtain ⟨T,hTe⟩ : ∃ T,T=txt (gk ys f):=⟨_,rfl⟩
  have hTl : T.length=(gk ys f).tx.length + 1:=by rw [hTe,txt_len]
  refine uA ?_
  refine TO.step rfl (OT.arith (r':=((f + 1 : Nat) : Int)) rfl rfl rfl rfl rfl rfl (by omega) (by omega) ?_)
  refine uA ?_
  refine TO.step rfl (OT.alloc tab rfl rfl rfl rfl (fun b6 => ?_))
  refine uA ?_
  refine uT ?_
  refine uA ?_
  refine TO.step rfl (OT.index tab rCh f hf2 rfl rfl rfl rfl rfl (by first | rfl | omega | (simp only;omega)) rfl hx ?_)
  rintro b1 i1 f1 hr1 hA1
  obtain rfl : f1=gk ys f:=hr1
  refine uA ?_
  (refine TO.step rfl (OT.loadA tab hA1 rfl rfl rfl rfl rfl ?_))
  refine TO.step rfl (OT.concat rfl rfl rfl rfl rfl (by simp only [List.length_cons,List.length_nil];omega) ?_)
  rw [show (gk ys f).tx++[10]=T from hTe.symm]
  refine uA ?_
  refine TC.loopK (ι:=SpS) [4,5,6,7] rfl (fun x=>[(8, .int .i64 (x.k : Int)),(3,x.s.v)]) (fun x=>x.m) (fun x => .cells b6 0 [.int .i64 x.p.f, .int .i64 x.p.l, .int .i64 x.p.b] :: tok x.s 3 :: L) (fun x=>m2 ≤ x.m∧x.k ≤ T.length∧SlRep rSpt x.m x.s (spD ys f++spF f T x.k)∧Own x.s∧x.p=spAt f (T.take x.k)) (fun x=>T.length - x.k) ⟨m2,t,0,⟨((f + 1 : Nat) : Int),1,1⟩⟩ uH rfl uS ⟨Mem.le_refl _,Nat.zero_le _,by rw [spF_nil,List.append_nil];exact ht,hto,rfl⟩ ?_
  rintro ⟨m3,u,k,pf,pl,pb⟩ ⟨hm3,hk3,hu,huo,hpe⟩
  simp only at hm3 hk3 hu huo hpe
  show TC _ _ _ ((8, .int .i64 (k : Int)) :: (3,u.v) :: _) _ m3 (.cells b6 0 [.int .i64 pf, .int .i64 pl, .int .i64 pb] :: tok u 3 :: L) _
  refine uA ?_
  refine TC.condP rfl (fun h6 => ?_) (fun h6 => ?_)
  ·have hk4 : k < T.length:=by omega
   obtain ⟨c,hc⟩ : ∃ c,T[k]? = some c:=⟨T[k],by simp [hk4]⟩
   have htk : T.take (k + 1)=T.take k++[c]:=by rw [List.take_add_one,hc];rfl
   have hsn:=spAt_snoc f (T.take k) c
   rw [← htk,← hpe] at hsn
   have hpl : pl=((1 + (T.take k).count 10 : Nat) : Int):=congrArg Spt.l hpe
   have hpb : pb=byteOf (T.take k):=congrArg Spt.b hpe
   have hbr:=byteOf_rng (T.take k)
   have hcl : (T.take k).count 10 ≤ (T.take k).length:=List.count_le_length
   rw [List.length_take,Nat.min_eq_left (by omega)] at hbr hcl
   refine uA ?_
   refine uM ?_
   refine TO.step rfl (OT.litR tab rSpt (hs:=[⟨pf,pl,pb⟩]) (l:=[⟨pf,pl,pb⟩]) ⟨rfl,trivial⟩ rfl rfl rfl rfl rfl (by decide) (fun sB mB hmB hsB hoB hcB => ?_))
   refine TO.step rfl (OT.append tab rSpt 1 (hu.mono hmB) huo hsB rfl rfl rfl rfl rfl rfl rfl (by simp only [List.length_append,List.length_cons,List.length_nil,hdl,spF_len];show _ * 24 ≤ _;omega) (fun u4 m4 hm4 hu4 ho4 => ?_))
   have hu5 : SlRep rSpt m4 u4 (spD ys f++spF f T (k + 1)):=by
    rw [spF_succ,← hpe,← List.append_assoc];exact hu4
   refine uA ?_
   refine uM ?_
   refine TO.step rfl (OT.arith (r':=pb + 1) rfl rfl rfl rfl rfl rfl (by omega) (by omega) ?_)
   refine uA ?_
   refine uT ?_
   refine uA ?_
   refine TO.step rfl (OT.sidx tab k rfl rfl rfl rfl rfl rfl (by omega) hc ?_)
   refine uA ?_
   refine TC.condP rfl (fun h7 => ?_) (fun h7 => ?_)
   ·have e : c=10:=UInt8.toNat_inj.1 (by show c.toNat=10;omega)
    rw [if_pos e] at hsn
    refine uA ?_
    refine uM ?_
    refine TO.step rfl (OT.arith (r':=pl + 1) rfl rfl rfl rfl rfl rfl (by omega) (by omega) ?_)
    refine uA ?_
    refine uT ?_
    refine uA ?_
    refine uT ?_
    refine uA ?_
    refine TO.step rfl (OT.arith (r':=((k + 1 : Nat) : Int)) rfl rfl rfl rfl rfl rfl rfl (by omega) ?_)
    refine uA ?_
    exact ⟨⟨m4,u4,k + 1,pf,pl + 1,1⟩,uH,uH,rfl,rfl,uS,⟨Mem.le_trans hm3 (Mem.le_trans hmB hm4),hk4,hu5,ho4,hsn.symm⟩,by show T.length - (k + 1) < T.length - k;omega⟩
   ·have e : ¬ c=10:=fun e=>h7 (by rw [e];rfl)
    rw [if_neg e] at hsn
    refine uA ?_
    refine TO.step rfl (OT.arith (r':=((k + 1 : Nat) : Int)) rfl rfl rfl rfl rfl rfl rfl (by omega) ?_)
    refine uA ?_
    exact ⟨⟨m4,u4,k + 1,pf,pl,pb + 1⟩,uH,uH,rfl,rfl,uS,⟨Mem.le_trans hm3 (Mem.le_trans hmB hm4),hk4,hu5,ho4,hsn.symm⟩,by show T.length - (k + 1) < T.length - k;omega⟩
  ·have hke : k=T.length:=by omega
   subst hke
   refine uA ?_
   refine TO.step rfl (OT.arith (r':=((f + 1 : Nat) : Int)) rfl rfl rfl rfl rfl rfl rfl (by omega) ?_)
   refine uA ?_
   exact ⟨⟨m3,u,f + 1⟩,uH,uH,rfl,rfl,uS,⟨Mem.le_trans hm2 hm3,by show f + 1 ≤ _;omega,by
    show SlRep rSpt m3 u (spD ys (f + 1))
    rw [spD,← hTe]
    exact hu,huo⟩,by show ys.length - (f + 1) < ys.length - f;omega⟩
 ·have hke : f=ys.length:=by omega
  subst hke
  refine uA ?_
  refine retQ_ret rfl (L':=L) uS ⟨Mem.le_trans hma (Mem.le_trans hm1 hm2),rfl,t,rfl,ht⟩
end Go.Sep
set_option linter.unusedVariables false
set_option linter.unusedSimpArgs false
namespace Go.Sep
open Go.Proofs
attribute [local irreducible] TC TO OT TCallX TCall DO DOt thenQ blockQ retQ At
theorem lin_cut : ∀ (z cur : Str),0 < z.count 10 → ∃ k,k < z.length∧Lib.indexByte z 10=(k : Int)∧linS cur z=(cur++z.take (k + 1)) :: linS [] (z.drop (k + 1))∧z.count 10=(z.drop (k + 1)).count 10 + 1
 | [],_,h=>by simp at h
 | c :: z,cur,h=>by
  by_cases e : c=10
  ·subst e
   refine ⟨0,by simp,by simp [Lib.indexByte],by simp [linS],by simp⟩
  ·have hb : (c == (10 : UInt8))=false:=by simpa using e
   have h2 : (c :: z).count 10=z.count 10:=List.count_cons_of_ne e
   rw [h2] at h
   obtain ⟨k,h3,h4,h5,h6⟩:=lin_cut z (cur++[c]) h
   refine ⟨k + 1,by simpa using h3, ?_, ?_,by rw [h2,h6];rfl⟩
   ·simp only [Lib.indexByte,hb,h4]
    rw [if_neg (by simp),if_neg (by simp <;> omega)]
    omega
   ·rw [linS,if_neg e,h5]
    simp
theorem lin_none (z cur : Str) (h : z.count 10=0) : linS cur z=[cur++z]:=by
 induction z generalizing cur with
 | nil=>simp [linS]
 | cons c z ih =>
  have e : ¬ c=10:=fun e=>by subst e;simp at h
  rw [List.count_cons_of_ne e] at h
  rw [linS,if_neg e,ih _ h]
  simp
theorem linesD_len : ∀ (z cur : Str),(linS cur z).length=z.count 10 + 1
 | [],_=>rfl
 | c :: z,cur=>by
  by_cases e : c=10
  ·subst e
   rw [linS,if_pos rfl,List.length_cons,linesD_len z,List.count_cons_self]
  ·rw [linS,if_neg e,linesD_len z,List.count_cons_of_ne e]
theorem sindex_lite (m : Mem) (L : List Item) (s : Str) (c : UInt8) : TCall Tryz.prog 163 ⟨[strV s,strV [c]]⟩ m L (Ret (.int .i64 (Lib.indexByte s c)) m L):=by
 unfold TCall
 refine TCallX.enter Tryz.func163 rfl 143 rfl ?_
 refine uA ?_
 by_cases e : [c]=s
 ·rw [show decide ([c]=s)=true from decide_eq_true e]
  refine uA ?_
  refine retQ_ret rfl uS ⟨rfl,rfl, ?_⟩
  rw [← e]
  simp [Lib.indexByte]
 ·rw [show decide ([c]=s)=false from decide_eq_false e]
  refine uA ?_
  refine TO.step rfl (OT.sidxK tab (s:=[c]) (b:=c) 0 rfl rfl rfl rfl rfl rfl rfl rfl ?_)
  refine uA ?_
  refine TO.step rfl (OT.call rfl rfl rfl rfl rfl rfl goes261 ((indexByte_lite _ _ s c).x ?_));
  rintro _ _ _ ⟨rfl,rfl,rfl⟩
  refine uA ?_
  refine retQ_ret rfl uS ⟨rfl,rfl, ?_⟩
  rfl
theorem sindex_law (m : Mem) (L : List Item) (s : Str) (c : UInt8) : TCall Tryz.prog 93 ⟨[strV s,strV [c]]⟩ m L (Ret (.int .i64 (Lib.indexByte s c)) m L):=by
 unfold TCall
 refine TCallX.enter Tryz.func93 rfl 8 rfl ?_
 refine uA ?_
 refine TO.step rfl (OT.call rfl rfl rfl rfl rfl rfl goes163 ((sindex_lite _ _ s c).x ?_));
 rintro _ _ _ ⟨rfl,rfl,rfl⟩
 refine uA ?_
 refine retQ_ret rfl uS ⟨rfl,rfl, ?_⟩
 rfl
structure GsS where
 z : Str
 i : Nat
 xs : List Str
theorem rStr_all {m : Mem} : ∀ l : List Str,All2 (rStr.rep m) l l
 | []=>trivial
 | x :: l=>⟨rfl,rStr_all l⟩
theorem encs_rStr : ∀ l : List Str,encs rStr l=l.map strV
 | []=>rfl
 | x :: l=>by rw [List.map_cons,← encs_rStr l];rfl
set_option maxHeartbeats 2000000 in
theorem gensplit_law (m : Mem) (L : List Item) (s : Str) (hs : s.length ≤ 100000) : TCall Tryz.prog 56 ⟨[strV s,strV [10], .int .i64 1, .int .i64 (-1)]⟩ m L (Made m L fun r m' => ∃ t : Sl,r=t.v∧SlRep rStr m' t (linesD s)):=by
 have hcl : s.count 10 ≤ s.length:=List.count_le_length
 unfold TCall
 refine TCallX.enter Tryz.func56 rfl 66 rfl ?_
 refine uA ?_
 refine TO.step rfl (OT.call rfl rfl rfl rfl rfl rfl goes54 ((count_law m L s 10).x ?_));
 rintro _ _ _ ⟨rfl,rfl,rfl⟩
 obtain ⟨n,hn⟩ : ∃ n,n=s.count 10:=⟨_,rfl⟩
 rw [← hn] at hcl ⊢
 refine uA ?_
 refine TO.step rfl (OT.arith (r':=((n + 1 : Nat) : Int)) rfl rfl rfl rfl rfl rfl (by omega) (by omega) ?_)
 refine uA ?_
 refine TO.step rfl (OT.arith (r':=((s.length + 1 : Nat) : Int)) rfl rfl rfl rfl rfl rfl (by omega) (by omega) ?_)
 refine uA ?_
 rw [if_neg (show ¬ ((s.length + 1 : Nat) : Int) < ((n + 1 : Nat) : Int) by omega)]
 refine uA ?_
 refine TO.step rfl (OT.makeM tab strV [] (n + 1) rfl rfl rfl rfl rfl rfl rfl rfl rfl (show (n + 1) * 16 ≤ 281474976710656 by omega) rfl (fun b => ?_))
 refine uA ?_
 refine TO.step rfl (OT.arith (r':=(n : Int)) rfl rfl rfl rfl rfl rfl (by omega) (by omega) ?_)
 refine uA ?_
 refine TC.loopK (ι:=GsS) [1,2,3,9] rfl (fun x=>[(0,strV x.z),(10, .int .i64 (x.i : Int))]) (fun _=>m) (fun x => .cells b 0 (x.xs.map strV) :: L) (fun x=>x.xs.length=n + 1∧x.i ≤ n∧x.z.length ≤ s.length∧x.z.count 10 + x.i=n∧linesD s=x.xs.take x.i++linesD x.z) (fun x=>n - x.i) ⟨s,0,List.replicate (n + 1) []⟩ uH rfl uS ⟨by simp,Nat.zero_le _,Nat.le_refl _,hn.symm,rfl⟩ ?_
 rintro ⟨z,i,xs⟩ ⟨h1,h2,h3,h4,h5⟩
 simp only at h1 h2 h3 h4 h5
 show TC _ _ _ ((0,strV z) :: (10, .int .i64 (i : Int)) :: _) _ m (.cells b 0 (xs.map strV) :: L) _
 refine uA ?_
 refine TC.condP rfl (fun h6 => ?_) (fun h6 => ?_)
 ·obtain ⟨k,hk,hx,hc,hd⟩:=lin_cut z [] (by omega)
  refine uA ?_
  refine TO.step rfl (OT.call rfl rfl rfl rfl rfl rfl goes93 ((sindex_law _ _ z 10).x ?_));
  rintro _ _ _ ⟨rfl,rfl,rfl⟩
  rw [hx]
  have hnb : decide (((k : Nat) : Int) < 0)=false:=decide_eq_false (by omega)
  refine uA ?_
  rw [hnb]
  refine uA ?_
  refine TO.step rfl (OT.arith (r':=((k + 1 : Nat) : Int)) rfl rfl rfl rfl rfl rfl (by omega) (by omega) ?_)
  refine TO.step rfl (OT.sub tab 0 (k + 1) rfl rfl rfl rfl rfl rfl rfl (.inl ⟨rfl,rfl⟩) (.inr rfl) (Nat.zero_le _) (by omega) ?_)
  refine TO.step rfl (OT.indexP (sz:=1) (n:=n + 1) tab i rfl rfl rfl rfl rfl rfl rfl (by omega) ?_)
  refine TO.step rfl (OT.storeM (k:=i) tab 0 strV (z.take (k + 1)) rfl rfl rfl rfl rfl rfl rfl (by omega) ?_)
  refine uA ?_
  refine TO.step rfl (OT.arith (r':=((k + 1 : Nat) : Int)) rfl rfl rfl rfl rfl rfl (by simp only [List.length_cons,List.length_nil];omega) (by omega) ?_)
  refine TO.step rfl (OT.sub tab (k + 1) z.length rfl rfl rfl rfl rfl rfl rfl (.inr rfl) (.inl ⟨rfl,rfl⟩) (by omega) (Nat.le_refl _) ?_)
  refine uA ?_
  refine TO.step rfl (OT.arith (r':=((i + 1 : Nat) : Int)) rfl rfl rfl rfl rfl rfl rfl (by omega) ?_)
  refine uA ?_
  refine ⟨⟨z.drop (k + 1),i + 1,xs.set i (z.take (k + 1))⟩, ?_,uH,rfl,rfl,uS,⟨by simpa using h1,by show i + 1 ≤ n;omega,by simp only [List.length_drop];omega,by show (z.drop (k + 1)).count 10 + (i + 1)=n;omega, ?_⟩,by show n - (i + 1) < n - i;omega⟩
  ·simp only [List.take_length]
   exact uH
  ·show linesD s=(xs.set i (z.take (k + 1))).take (i + 1)++linesD (z.drop (k + 1))
   rw [h5,linesD,hc,List.take_succ_eq_append_getElem (show i < (xs.set i (z.take (k + 1))).length by rw [List.length_set];omega),List.getElem_set_self,List.take_set_of_le (Nat.le_refl _)]
   simp [linesD]
 ·have hi : i=n:=by omega
  subst hi
  refine uA ?_
  refine TO.step rfl (OT.indexP (sz:=1) (n:=i + 1) tab i rfl rfl rfl rfl rfl rfl rfl (by omega) ?_)
  refine TO.step rfl (OT.storeM (k:=i) tab 0 strV z rfl rfl rfl rfl rfl rfl rfl (by omega) ?_)
  refine TO.freezeAt 0 rfl (fun m1 hm1 hA => ?_)
  have hl : xs.set i z=linesD s:=by
   rw [h5,linesD,lin_none z [] (by omega)]
   refine List.ext_getElem? fun j => ?_
   rcases Nat.lt_trichotomy j i with h | h | h
   ·rw [List.getElem?_set_ne (by omega),List.getElem?_append_left (by simp;omega),List.getElem?_take_of_lt h]
   ·subst h
    rw [List.getElem?_set_self (by omega),List.getElem?_append_right (by rw [List.length_take];omega),List.length_take,Nat.min_eq_left (by omega),Nat.sub_self]
    rfl
   ·rw [List.getElem?_eq_none (by simp;omega),List.getElem?_eq_none (by simp;omega)]
  rw [hl,← encs_rStr] at hA
  have hll : (linesD s).length=i + 1:=by rw [← hl];simpa using h1
  have ht : SlRep rStr m1 ⟨some ⟨b,0,none⟩,i + 1,i + 1⟩ (linesD s):=⟨hll.symm,Nat.le_refl _,by show (i + 1) * 16 ≤ _;omega,linesD s,rStr_all _, .inr ⟨b,0,rfl,hA⟩⟩
  refine uA ?_
  refine TO.step rfl (OT.arith (r':=((i + 1 : Nat) : Int)) rfl rfl rfl rfl rfl rfl (by omega) (by omega) ?_)
  refine TO.step rfl (OT.cut tab rStr 0 (i + 1) ht rfl rfl rfl rfl rfl rfl rfl (.inl ⟨rfl,rfl⟩) (.inr rfl) (Nat.zero_le _) (by omega) (fun s' hs' => ?_))
  rw [List.drop_zero,List.take_of_length_le (by omega)] at hs'
  refine uA ?_
  refine retQ_ret rfl (L':=L) uS ⟨hm1,rfl,s',rfl,hs'⟩
theorem splitAfter_law (m : Mem) (L : List Item) (s : Str) (hs : s.length ≤ 100000) : TCall Tryz.prog 30 ⟨[strV s,strV [10]]⟩ m L (Made m L fun r m' => ∃ t : Sl,r=t.v∧SlRep rStr m' t (linesD s)):=by
 unfold TCall
 refine TCallX.enter Tryz.func30 rfl 10 rfl ?_
 refine uA ?_
 refine TO.step rfl (OT.call rfl rfl rfl rfl rfl rfl goes56 ((gensplit_law m L s hs).x ?_));
 rintro _ m1 _ ⟨hm1,rfl,t,rfl,ht⟩
 refine uA ?_
 refine retQ_ret rfl (L':=L) uS ⟨hm1,rfl,t,rfl,ht⟩
end Go.Sep
set_option linter.unusedVariables false
set_option linter.unusedSimpArgs false
namespace Go.Sep
open Go.Proofs
attribute [local irreducible] TC TO OT TCallX TCall DO DOt thenQ blockQ retQ At
def AtR (l : List Ch) (p : Spt) (r : Value) : Prop :=
 (errD l ≠ 0∧r = .tuple ⟨[.int .i64 0, .int .i64 (errD l)]⟩) ∨
 (errD l=0 ∧ ∃ n : Nat,Pos (ordF l) p n∧r = .tuple ⟨[.int .i64 (n : Int), .int .i64 0]⟩) ∨
 (errD l=0∧(∀ n, ¬ Pos (ordF l) p n)∧r = .tuple ⟨[.int .i64 0, .int .i64 6]⟩)
set_option maxHeartbeats 2000000 in
theorem at_law (s : Sl) (l : List Ch) (pf pl pb : Int) (m : Mem) (L : List Item) (hs : SlRep rCh m s l) (hw : Wide l) (hpr : pl ≤ 9223372036854775807) : TCall Tryz.prog 16 ⟨[s.v, .agg ⟨[.int .i64 pf, .int .i64 pl, .int .i64 pb]⟩]⟩ m L (Made m L fun r _=>AtR l ⟨pf,pl,pb⟩ r):=by
 unfold TCall
 refine TCallX.enter Tryz.func16 rfl 91 rfl ?_
 refine uA ?_
 refine TO.step rfl (OT.box rfl rfl rfl rfl rfl (fun b3 => ?_))
 refine TO.freezeAt 0 rfl (fun m0 hm0 hA3 => ?_)
 refine uA ?_
 refine TO.step rfl (OT.call rfl rfl rfl rfl rfl rfl goes23 ((open_law s l m0 L (hs.mono hm0) hw).x ?_));
 rintro r1 m1 _ ⟨hm1,rfl,hR⟩
 have h01:=Mem.le_trans hm0 hm1
 rcases hR with ⟨h0,rfl⟩ | ⟨h0,b,sf,sb,rfl,hA,hf,hb⟩
 ·refine uA ?_
  refine TC.condN rfl (fun h1 => ?_) (fun h1 => ?_)
  ·refine uA ?_
   refine retQ_ret rfl (L':=L) uS ⟨h01,rfl, .inl ⟨h0,rfl⟩⟩
  ·exact absurd h1 h0
 ·obtain ⟨hl64,hnam,hsum⟩:=openOk h0
  have hpe:=ordF_perm l
  have hsu:=sumD_perm hpe
  obtain ⟨ys,hys⟩ : ∃ ys,ys=ordF l:=⟨_,rfl⟩
  have hfl:=hf.len
  rw [← hys] at hA hf hb hpe hsu hfl
  have hyl : ys.length ≤ 64:=by rw [hpe.length_eq];exact hl64
  have hA31:=hA3.mono hm1
  refine uA ?_
  refine TC.draw0 [] mixed 23 rfl ?_
  refine DO.pure tab uC (by kernel_rfl) [0] (by kernel_rfl) rfl ?_
  (refine DO.loadA tab 1 hA31 uC (by kernel_rfl) (by kernel_rfl) rfl rfl rfl rfl rfl rfl rfl ?_)
  refine DO.pure tab uC (by kernel_rfl) [2,3] (by kernel_rfl) rfl ?_
  (refine DO.splitP (d:=22) rfl (fun hg3 => ?_) (fun hg3 => ?_))
  refine DO.pure tab uC (by kernel_rfl) [4,5,6,7,8,9,10,11,12,13,14,15,16,17,18,19,20,21,22] (by kernel_rfl) rfl ?_
  (refine DO.nil0 (by kernel_rfl) ?_)
  rotate_left 1
  refine DO.pure tab uC (by kernel_rfl) [4] (by kernel_rfl) rfl ?_
  (refine DO.loadA tab 5 hA31 uC (by kernel_rfl) (by kernel_rfl) rfl rfl rfl rfl rfl rfl rfl ?_)
  refine DO.pure tab uC (by kernel_rfl) [6,7,8] (by kernel_rfl) rfl ?_
  (refine DO.loadA tab 9 hA uC (by kernel_rfl) (by kernel_rfl) rfl rfl rfl rfl rfl rfl rfl ?_)
  refine DO.pure tab uC (by kernel_rfl) [10,11,12,13] (by kernel_rfl) rfl ?_
  (refine DO.splitP (d:=32) rfl (fun hg13 => ?_) (fun hg13 => ?_))
  refine DO.pure tab uC (by kernel_rfl) [14,15,16,17,18,19,20,21,22] (by kernel_rfl) rfl ?_
  (refine DO.nil0 (by kernel_rfl) ?_)
  rotate_left 1
  refine DO.pure tab uC (by kernel_rfl) [14] (by kernel_rfl) rfl ?_
  (refine DO.loadA tab 15 hA31 uC (by kernel_rfl) (by kernel_rfl) rfl rfl rfl rfl rfl rfl rfl ?_)
  refine DO.pure tab uC (by kernel_rfl) [16,17,18] (by kernel_rfl) rfl ?_
  (refine DO.splitP (d:=37) rfl (fun hg18 => ?_) (fun hg18 => ?_))
  refine DO.pure tab uC (by kernel_rfl) [19,20,21,22] (by kernel_rfl) rfl ?_
  (refine DO.nil0 (by kernel_rfl) ?_)
  rotate_left 1
  refine DO.pure tab uC (by kernel_rfl) [19] (by kernel_rfl) rfl ?_
  (refine DO.loadA tab 20 hA31 uC (by kernel_rfl) (by kernel_rfl) rfl rfl rfl rfl rfl rfl rfl ?_)
  refine DO.pure tab uC (by kernel_rfl) [21,22] (by kernel_rfl) rfl ?_
  (refine DO.nil0 (by kernel_rfl) ?_)
  rotate_left 1
  ·skip
   refine uA ?_
   refine retQ_ret rfl (L':=L) uS ⟨h01,rfl, .inr (.inr ⟨h0,fun n hn => ?_,rfl⟩)⟩
   rw [← hys] at hn
   obtain ⟨f,i,r,hi,hfl,hr,e, -⟩:=hn
   simp only [Spt.mk.injEq] at e
   omega
  ·skip
   refine uA ?_
   refine retQ_ret rfl (L':=L) uS ⟨h01,rfl, .inr (.inr ⟨h0,fun n hn => ?_,rfl⟩)⟩
   rw [← hys] at hn
   obtain ⟨f,i,r,hi,hfl,hr,e, -⟩:=hn
   simp only [Spt.mk.injEq] at e
   omega
  ·skip
   refine uA ?_
   refine retQ_ret rfl (L':=L) uS ⟨h01,rfl, .inr (.inr ⟨h0,fun n hn => ?_,rfl⟩)⟩
   rw [← hys] at hn
   obtain ⟨f,i,r,hi,hfl,hr,e, -⟩:=hn
   simp only [Spt.mk.injEq] at e
   omega
  ·refine uA ?_
   refine TC.condP rfl (fun hg20 => ?_) (fun hg20 => ?_)
   ·skip
    refine uA ?_
    refine retQ_ret rfl (L':=L) uS ⟨h01,rfl, .inr (.inr ⟨h0,fun n hn => ?_,rfl⟩)⟩
    rw [← hys] at hn
    obtain ⟨f,i,r,hi,hfl,hr,e, -⟩:=hn
    simp only [Spt.mk.injEq] at e
    omega
   ·obtain ⟨f,rfl⟩ : ∃ f : Nat,pf=((f + 1 : Nat) : Int):=⟨pf.toNat - 1,by omega⟩
    have hlt : f < ys.length:=by omega
    have hx : ys[f]? = some (gk ys f):=gk_get hlt
    have hy : (begD ys)[f]? = some ((sumD (ys.take f) : Nat) : Int):=begD_get ys hlt
    have hnx:=sumD_next hlt
    have hsl:=sumD_le ys (f + 1)
    obtain ⟨T,hTe⟩ : ∃ T,T=txt (gk ys f):=⟨_,rfl⟩
    have hTl : T.length=(gk ys f).tx.length + 1:=by rw [hTe,txt_len]
    refine uA ?_
    refine TC.draw0 [] mixed 10 rfl ?_
    refine DO.pure tab uC (by kernel_rfl) [0,1,2] (by kernel_rfl) rfl ?_
    (refine DO.loadA tab 3 hA uC (by kernel_rfl) (by kernel_rfl) rfl rfl rfl rfl rfl rfl rfl ?_)
    refine DO.pure tab uC (by kernel_rfl) [4] (by kernel_rfl) rfl ?_
    (refine DO.loadA tab 5 hA31 uC (by kernel_rfl) (by kernel_rfl) rfl rfl rfl rfl rfl rfl rfl ?_)
    refine DO.arith 6 (r':=(f : Int)) uC (by kernel_rfl) (by kernel_rfl) rfl rfl rfl rfl rfl rfl rfl rfl (by first | rfl | omega | (simp only;omega)) (by omega) ?_
    refine DO.index tab rInt 7 f hb uC (by kernel_rfl) (by kernel_rfl) rfl rfl rfl rfl rfl rfl rfl (by first | rfl | omega) rfl hy ?_
    rintro b1 i1 f1 hr1 hA1;obtain rfl : f1=((sumD (ys.take f) : Nat) : Int):=hr1
    (refine DO.loadA (k:=0) tab 8 hA1 uC (by kernel_rfl) (by kernel_rfl) rfl rfl rfl rfl rfl rfl rfl ?_)
    refine DO.pure tab uC (by kernel_rfl) [9] (by kernel_rfl) rfl ?_
    (refine DO.nil0 (by kernel_rfl) ?_)
    rotate_left 1
    refine uA ?_
    refine TC.draw0 [] mixed 14 rfl ?_
    refine DO.pure tab uC (by kernel_rfl) [13,0,1,2] (by kernel_rfl) rfl ?_
    (refine DO.loadA tab 3 hA uC (by kernel_rfl) (by kernel_rfl) rfl rfl rfl rfl rfl rfl rfl ?_)
    refine DO.pure tab uC (by kernel_rfl) [4] (by kernel_rfl) rfl ?_
    (refine DO.loadA tab 5 hA31 uC (by kernel_rfl) (by kernel_rfl) rfl rfl rfl rfl rfl rfl rfl ?_)
    refine DO.arith 6 (r':=(f : Int)) uC (by kernel_rfl) (by kernel_rfl) rfl rfl rfl rfl rfl rfl rfl rfl (by first | rfl | omega | (simp only;omega)) (by omega) ?_
    refine DO.index tab rCh 7 f hf uC (by kernel_rfl) (by kernel_rfl) rfl rfl rfl rfl rfl rfl rfl (by first | rfl | omega) rfl hx ?_
    rintro b1 i1 f1 hr1 hA1;obtain rfl : f1=gk ys f:=hr1
    refine DO.pure tab uC (by kernel_rfl) [8] (by kernel_rfl) rfl ?_
    (refine DO.loadA tab 9 hA1 uC (by kernel_rfl) (by kernel_rfl) rfl rfl rfl rfl rfl rfl rfl ?_)
    refine DO.concat 10 uC (by kernel_rfl) (by kernel_rfl) rfl rfl rfl rfl rfl rfl rfl (by simp only [List.length_cons,List.length_nil];omega) ?_;rw [show (gk ys f).tx++[10]=T from hTe.symm]
    refine DO.run 11 rfl rfl (by kernel_rfl) rfl (OT.call rfl rfl rfl rfl rfl rfl goes30 ((splitAfter_law _ _ T (by omega)).x ?_))
    rintro _ m2 _ ⟨hm2,rfl,t,rfl,ht⟩;refine ⟨hm2,_,List.Perm.refl _, ?_⟩
    refine DO.pure tab uC (by kernel_rfl) [12] (by kernel_rfl) rfl ?_
    (refine DO.nil0 (by kernel_rfl) ?_)
    rotate_left 1
    refine uA ?_
    have h02:=Mem.le_trans h01 hm2
    have hA32:=hA31.mono hm2
    have htl:=ht.len
    have hts:=linesD_sum T
    have hlc : (linesD T).length=T.count 10 + 1:=linesD_len T []
    have hlc2 : T.count 10 ≤ T.length:=List.count_le_length
    refine TC.loopK (ι:=Nat) [3,62,63] rfl (fun k=>[(64, .int .i64 (k : Int)),(8, .int .i64 ((sumD (ys.take f) + sumL ((linesD T).take k) : Nat) : Int))]) (fun _=>m2) (fun _=>L) (fun k=>k ≤ (linesD T).length ∧ ∀ i,i < k→(h : i < (linesD T).length)→(i : Int)=pl - 1→((linesD T)[i].length : Int) < pb) (fun k=>(linesD T).length - k) 0 uH rfl uS ⟨Nat.zero_le _,fun i h=>by omega⟩ ?_
    rintro k ⟨hk,hI⟩
    refine uA ?_
    refine TC.condP rfl (fun h8 => ?_) (fun h8 => ?_)
    ·have hkl : k < (linesD T).length:=by omega
     have hxl : (linesD T)[k]? = some (linesD T)[k]:=List.getElem?_eq_getElem hkl
     have hsn:=sumL_next hkl
     have hsk:=sumL_le (linesD T) (k + 1)
     refine uA ?_
     refine TO.step rfl (OT.index tab rStr k ht rfl rfl rfl rfl rfl (by first | rfl | omega | (simp only;omega)) rfl hxl ?_)
     rintro b2 i2 f2 hr2 hA2
     obtain rfl : f2=(linesD T)[k]:=hr2
     refine uA ?_
     (refine TO.step rfl (OT.loadA0 tab hA2 rfl rfl rfl rfl rfl ?_))
     refine uA ?_
     (refine TO.step rfl (OT.loadA tab hA32 rfl rfl rfl rfl rfl ?_))
     refine TO.step rfl (OT.arith (r':=pl - 1) rfl rfl rfl rfl rfl rfl (by omega) (by omega) ?_)
     refine uA ?_
     by_cases e : (k : Int)=pl - 1
     ·rw [show decide ((k : Int)=pl - 1)=true from decide_eq_true e]
      refine uA ?_
      (refine TO.step rfl (OT.loadA tab hA32 rfl rfl rfl rfl rfl ?_))
      refine uA ?_
      refine TC.condP rfl (fun h9 => ?_) (fun h9 => ?_)
      ·refine uA ?_
       (refine TO.step rfl (OT.loadA tab hA32 rfl rfl rfl rfl rfl ?_))
       refine TO.step rfl (OT.arith (r':=((sumD (ys.take f) + sumL ((linesD T).take k) : Nat) : Int) + pb) rfl rfl rfl rfl rfl rfl (by omega) (by omega) ?_)
       refine TO.step rfl (OT.arith (r':=((sumD (ys.take f) + (sumL ((linesD T).take k) + (pb.toNat - 1)) : Nat) : Int)) rfl rfl rfl rfl rfl rfl (by omega) (by omega) ?_)
       refine uA ?_
       refine retQ_ret rfl (L':=L) uS ⟨h02,rfl, .inr (.inl ⟨h0,_, ?_,rfl⟩)⟩
       rw [← hys]
       subst hTe
       have e1 : pl=((k + 1 : Nat) : Int):=by omega
       have e2 : pb=((pb.toNat - 1 + 1 : Nat) : Int):=by omega
       refine ⟨f,k,pb.toNat - 1,hkl,hlt,by omega, ?_,rfl⟩
       simp only [Spt.mk.injEq]
       exact ⟨trivial,e1,e2⟩
      ·have hh9 : ((linesD T)[k].length : Int) < pb:=by omega
       refine uA ?_
       refine TO.step rfl (OT.arith (r':=((sumD (ys.take f) + sumL ((linesD T).take (k + 1)) : Nat) : Int)) rfl rfl rfl rfl rfl rfl (by omega) (by omega) ?_)
       refine uA ?_
       refine TO.step rfl (OT.arith (r':=((k + 1 : Nat) : Int)) rfl rfl rfl rfl rfl rfl rfl (by omega) ?_)
       refine uA ?_
       exact ⟨k + 1,uH,uH,rfl,rfl,uS,⟨hkl,fun i hi h e2=>by
        by_cases e3 : i=k
        ·subst e3;have:=hh9;omega
        ·exact hI i (by omega) h e2⟩,by omega⟩
     ·rw [show decide ((k : Int)=pl - 1)=false from decide_eq_false e]
      have hh9 : (k : Int) ≠ pl - 1:=e
      refine uA ?_
      refine TO.step rfl (OT.arith (r':=((sumD (ys.take f) + sumL ((linesD T).take (k + 1)) : Nat) : Int)) rfl rfl rfl rfl rfl rfl (by omega) (by omega) ?_)
      refine uA ?_
      refine TO.step rfl (OT.arith (r':=((k + 1 : Nat) : Int)) rfl rfl rfl rfl rfl rfl rfl (by omega) ?_)
      refine uA ?_
      exact ⟨k + 1,uH,uH,rfl,rfl,uS,⟨hkl,fun i hi h e2=>by
       by_cases e3 : i=k
       ·subst e3;have:=hh9;omega
       ·exact hI i (by omega) h e2⟩,by omega⟩
    ·have hke : k=(linesD T).length:=by omega
     refine uA ?_
     refine retQ_ret rfl (L':=L) uS ⟨h02,rfl, .inr (.inr ⟨h0,fun n hn => ?_,rfl⟩)⟩
     rw [← hys] at hn
     obtain ⟨f',i',r',hi',hfl',hr',e', -⟩:=hn
     simp only [Spt.mk.injEq] at e'
     obtain ⟨e1,e2,e3⟩:=e'
     obtain rfl : f' = f:=by omega
     rw [← hTe] at hi'
     subst hTe
     have:=hI i' (by omega) hi' (by omega)
     omega
end Go.Sep
set_option linter.unusedVariables false
set_option linter.unusedSimpArgs false
namespace Go.Sep
open Go.Proofs
attribute [local irreducible] TC TO OT TCallX TCall DO DOt thenQ blockQ retQ At
theorem where_form {l : List Ch} {t : Int} {r : Value} (h : WhereR l t r) : ∃ xf xl xb e : Int,r = .tuple ⟨[.agg ⟨[.int .i64 xf, .int .i64 xl, .int .i64 xb]⟩, .int .i64 e]⟩ ∧
  ((errD l ≠ 0∧e=errD l∧xf=0∧xl=0∧xb=0) ∨ (errD l=0∧e=11∧(t < 0 ∨ (sumD l : Int) ≤ t)∧xf=0∧xl=0∧xb=0) ∨
   (errD l=0∧e=0 ∧ ∃ k : Nat,t=(k : Int)∧k < sumD l∧(spD (ordF l) (ordF l).length)[k]? = some ⟨xf,xl,xb⟩)):=by
 rcases h with ⟨h0,rfl⟩ | ⟨h0,h1,rfl⟩ | ⟨h0,k,f,h1,h2,hF,rfl⟩
 ·exact ⟨0,0,0,_,rfl, .inl ⟨h0,rfl,rfl,rfl,rfl⟩⟩
 ·exact ⟨0,0,0,_,rfl, .inr (.inl ⟨h0,rfl,h1,rfl,rfl,rfl⟩)⟩
 ·refine ⟨_,_,_,_,rfl, .inr (.inr ⟨h0,rfl,k,h1,h2, ?_⟩)⟩
  rw [joinD_at _ hF]
  exact spD_at _ _ (Nat.le_refl _) k f hF.lt hF.lo hF.hi
theorem at_form {l : List Ch} {p : Spt} {r : Value} (h : AtR l p r) : ∃ n e : Int,r = .tuple ⟨[.int .i64 n, .int .i64 e]⟩ ∧
  ((errD l ≠ 0∧e=errD l∧n=0) ∨ (errD l=0∧((e=0 ∧ ∃ k : Nat,n=(k : Int)∧Pos (ordF l) p k) ∨ (e=6∧n=0 ∧ ∀ k, ¬ Pos (ordF l) p k)))):=by
 rcases h with ⟨h0,rfl⟩ | ⟨h0,k,h1,rfl⟩ | ⟨h0,h1,rfl⟩
 ·exact ⟨_,_,rfl, .inl ⟨h0,rfl,rfl⟩⟩
 ·exact ⟨_,_,rfl, .inr ⟨h0, .inl ⟨rfl,k,rfl,h1⟩⟩⟩
 ·exact ⟨_,_,rfl, .inr ⟨h0, .inr ⟨rfl,rfl,h1⟩⟩⟩
set_option maxHeartbeats 4000000 in
theorem bundleSpots_walk (s : Sl) (l : List Ch) (t pf pl pb : Int) (m : Mem) (L : List Item) (hs : SlRep rCh m s l) (hw : Wide l) (hpr : pl ≤ 9223372036854775807) : TCall Tryz.prog 4 ⟨[s.v, .int .i64 t, .agg ⟨[.int .i64 pf, .int .i64 pl, .int .i64 pb]⟩]⟩ m L (Made m L fun r _=>r = .bool true):=by
 unfold TCall
 refine TCallX.enter Tryz.func4 rfl 101 rfl ?_
 refine uA ?_
 refine TO.step rfl (OT.box rfl rfl rfl rfl rfl (fun b5 => ?_))
 refine TO.freezeAt 0 rfl (fun m0 hm0 hA5 => ?_)
 refine uA ?_
 refine TO.step rfl (OT.call rfl rfl rfl rfl rfl rfl goes15 ((where_law s l t m0 L (hs.mono hm0) hw).x ?_));
 rintro _ m1 _ ⟨hm1,rfl,hW⟩
 obtain ⟨xf,xl,xb,e1,rfl,hWf⟩:=where_form hW
 refine uA ?_
 refine TO.step rfl (OT.alloc tab rfl rfl rfl rfl (fun b7 => ?_))
 refine uA ?_
 refine uT ?_
 refine TO.freezeAt 0 rfl (fun m2 hm2 hA7 => ?_)
 have h02:=Mem.le_trans hm0 (Mem.le_trans hm1 hm2)
 refine uA ?_
 have hA52:=hA5.mono (Mem.le_trans hm1 hm2)
 (refine TO.step rfl (OT.loadA0 tab hA52 rfl rfl rfl rfl rfl ?_))
 refine uA ?_
 refine TO.step rfl (OT.call rfl rfl rfl rfl rfl rfl goes16 ((at_law s l pf pl pb m2 L (hs.mono h02) hw hpr).x ?_));
 rintro _ m3 _ ⟨hm3,rfl,hA⟩
 obtain ⟨n2,e2,rfl,hAf⟩:=at_form hA
 refine uA ?_
 refine TO.step rfl (OT.call rfl rfl rfl rfl rfl rfl goes11 ((check_ref s l m3 L (hs.mono (Mem.le_trans h02 hm3)) hw).x ?_));
 rintro _ _ _ ⟨rfl,rfl,rfl⟩
 refine uA ?_
 refine TO.step rfl (OT.call rfl rfl rfl rfl rfl rfl goes12 ((awake_law m3 _).x ?_));
 rintro _ m4 _ ⟨hm4,rfl,rfl⟩
 have h04:=Mem.le_trans h02 (Mem.le_trans hm3 hm4)
 have hA74:=hA7.mono (Mem.le_trans hm3 hm4)
 have hA54:=hA5.mono (Mem.le_trans hm1 (Mem.le_trans hm2 (Mem.le_trans hm3 hm4)))
 refine uA ?_
 by_cases h0 : errD l=0
 ·rcases hAf with ⟨h, -⟩ | ⟨-,hAf⟩
  ·exact absurd h0 h
  rw [h0]
  refine uA ?_
  refine TO.step rfl (OT.call rfl rfl rfl rfl rfl rfl goes17 ((spots_ref s l m4 L (hs.mono h04) h0).x ?_));
  rintro _ m5 _ ⟨hm5,rfl,z,rfl,hz⟩
  have h05:=Mem.le_trans h04 hm5
  have hA75:=hA74.mono hm5
  have hA55:=hA54.mono hm5
  have hzl:=hz.len
  have hZl:=spD_len (ordF l) (ordF l).length (Nat.le_refl _)
  rw [List.take_length,sumD_perm (ordF_perm l)] at hZl
  obtain ⟨hl64,hnam,hsum⟩:=openOk h0
  obtain ⟨Z,hZ⟩ : ∃ Z,Z=spD (ordF l) (ordF l).length:=⟨_,rfl⟩
  rw [← hZ] at hz hzl hZl hWf
  refine uA ?_
  rcases hWf with ⟨h, -⟩ | ⟨-,rfl,ht,rfl,rfl,rfl⟩ | ⟨-,rfl,k,rfl,hk,hx⟩
  ·exact absurd h0 h
  ·by_cases h9 : t < 0
   ·rw [show decide (t < 0)=true from decide_eq_true h9]
    refine uA ?_
    (refine TO.step rfl (OT.loadA0 tab hA75 rfl rfl rfl rfl rfl ?_))
    refine uA ?_
    refine TO.step rfl (OT.neS tab rfl rfl rfl rfl rfl rfl (by kernel_rfl) (by kernel_rfl) rfl ?_)
    refine uA ?_
    refine TC.loopK (ι:=Nat) [5,9,10,12] rfl (fun k=>[(13, .int .i64 (k : Int))]) (fun _=>m5) (fun _=>L) (fun k=>k ≤ Z.length ∧ ∀ i,i < k→Z[i]? ≠ some ⟨pf,pl,pb⟩) (fun k=>Z.length - k) 0 uH rfl uS ⟨Nat.zero_le _,fun i h=>by omega⟩ ?_
    rintro k ⟨hk,hI⟩
    refine uA ?_
    refine TC.condP rfl (fun h8 => ?_) (fun h8 => ?_)
    ·have hkl : k < Z.length:=by omega
     have hxl : Z[k]? = some Z[k]:=List.getElem?_eq_getElem hkl
     refine uA ?_
     refine TC.draw0 [] mixed 6 rfl ?_
     refine DO.pure tab uC (by kernel_rfl) [0,1] (by kernel_rfl) rfl ?_
     refine DO.index tab rSpt 2 k hz uC (by kernel_rfl) (by kernel_rfl) rfl rfl rfl rfl rfl rfl rfl (by first | rfl | omega) rfl hxl ?_
     rintro b1 i1 f1 hr1 hA1;obtain rfl : f1=Z[k]:=hr1
     (refine DO.loadA (k:=0) tab 3 hA1 uC (by kernel_rfl) (by kernel_rfl) rfl rfl rfl rfl rfl rfl rfl ?_)
     (refine DO.loadA (k:=0) tab 4 hA55 uC (by kernel_rfl) (by kernel_rfl) rfl rfl rfl rfl rfl rfl rfl ?_)
     refine DO.run 5 rfl rfl (by kernel_rfl) rfl ?_;refine OT.eqS tab rfl rfl rfl rfl rfl rfl (by kernel_rfl) (by kernel_rfl) rfl ?_;refine ⟨Mem.le_refl _,_,List.Perm.refl _, ?_⟩
     (refine DO.nil0 (by kernel_rfl) ?_)
     rotate_left 1
     refine uA ?_
     refine TC.cond rfl (fun hq => ?_) (fun hq => ?_)
     ·have hp : Z[k] = ⟨pf,pl,pb⟩:=by
       cases ha : Z[k]
       rw [ha] at hq
       simpa using hq
      have hps : Pos (ordF l) ⟨pf,pl,pb⟩ k:=pos_at (by rw [← hZ,hxl,hp])
      rcases hAf with ⟨rfl,j,rfl,hj⟩ | ⟨rfl,rfl,hj⟩
      ·obtain rfl:=hj.uniq hps
       refine uA ?_
       refine retQ_ret rfl (L':=L) uS ⟨h05,rfl, ?_⟩
       simp
      ·exact absurd hps (hj k)
     ·have hp : Z[k] ≠ ⟨pf,pl,pb⟩:=fun hp=>by
       rw [hp] at hq
       simp at hq
      refine uA ?_
      refine TO.step rfl (OT.arith (r':=((k + 1 : Nat) : Int)) rfl rfl rfl rfl rfl rfl rfl (by omega) ?_)
      refine uA ?_
      exact ⟨k + 1,uH,uH,rfl,rfl,uS,⟨hkl,fun i hi=>by
       by_cases e3 : i=k
       ·subst e3;rw [hxl];exact fun e=>hp (Option.some.inj e)
       ·exact hI i (by omega)⟩,by omega⟩
    ·have hke : k=Z.length:=by omega
     rcases hAf with ⟨rfl,j,rfl,hj⟩ | ⟨rfl,rfl,hj⟩
     ·exfalso
      have h1:=hj.at
      rw [← hZ] at h1
      have h2:=(List.getElem?_eq_some_iff.1 h1).1
      exact hI j (by omega) h1
     ·refine uA ?_
      refine retQ_ret rfl (L':=L) uS ⟨h05,rfl, ?_⟩
      simp
   ·rw [show decide (t < 0)=false from decide_eq_false h9]
    refine uA ?_
    refine TC.condP rfl (fun h10 => ?_) (fun h10 => ?_)
    ·refine uA ?_
     (refine TO.step rfl (OT.loadA0 tab hA75 rfl rfl rfl rfl rfl ?_))
     refine uA ?_
     refine TO.step rfl (OT.neS tab rfl rfl rfl rfl rfl rfl (by kernel_rfl) (by kernel_rfl) rfl ?_)
     refine uA ?_
     refine TC.loopK (ι:=Nat) [5,9,10,12] rfl (fun k=>[(13, .int .i64 (k : Int))]) (fun _=>m5) (fun _=>L) (fun k=>k ≤ Z.length ∧ ∀ i,i < k→Z[i]? ≠ some ⟨pf,pl,pb⟩) (fun k=>Z.length - k) 0 uH rfl uS ⟨Nat.zero_le _,fun i h=>by omega⟩ ?_
     rintro k ⟨hk,hI⟩
     refine uA ?_
     refine TC.condP rfl (fun h8 => ?_) (fun h8 => ?_)
     ·have hkl : k < Z.length:=by omega
      have hxl : Z[k]? = some Z[k]:=List.getElem?_eq_getElem hkl
      refine uA ?_
      refine TC.draw0 [] mixed 6 rfl ?_
      refine DO.pure tab uC (by kernel_rfl) [0,1] (by kernel_rfl) rfl ?_
      refine DO.index tab rSpt 2 k hz uC (by kernel_rfl) (by kernel_rfl) rfl rfl rfl rfl rfl rfl rfl (by first | rfl | omega) rfl hxl ?_
      rintro b1 i1 f1 hr1 hA1;obtain rfl : f1=Z[k]:=hr1
      (refine DO.loadA (k:=0) tab 3 hA1 uC (by kernel_rfl) (by kernel_rfl) rfl rfl rfl rfl rfl rfl rfl ?_)
      (refine DO.loadA (k:=0) tab 4 hA55 uC (by kernel_rfl) (by kernel_rfl) rfl rfl rfl rfl rfl rfl rfl ?_)
      refine DO.run 5 rfl rfl (by kernel_rfl) rfl ?_;refine OT.eqS tab rfl rfl rfl rfl rfl rfl (by kernel_rfl) (by kernel_rfl) rfl ?_;refine ⟨Mem.le_refl _,_,List.Perm.refl _, ?_⟩
      (refine DO.nil0 (by kernel_rfl) ?_)
      rotate_left 1
      refine uA ?_
      refine TC.cond rfl (fun hq => ?_) (fun hq => ?_)
      ·have hp : Z[k] = ⟨pf,pl,pb⟩:=by
        cases ha : Z[k]
        rw [ha] at hq
        simpa using hq
       have hps : Pos (ordF l) ⟨pf,pl,pb⟩ k:=pos_at (by rw [← hZ,hxl,hp])
       rcases hAf with ⟨rfl,j,rfl,hj⟩ | ⟨rfl,rfl,hj⟩
       ·obtain rfl:=hj.uniq hps
        refine uA ?_
        refine retQ_ret rfl (L':=L) uS ⟨h05,rfl, ?_⟩
        simp
       ·exact absurd hps (hj k)
      ·have hp : Z[k] ≠ ⟨pf,pl,pb⟩:=fun hp=>by
        rw [hp] at hq
        simp at hq
       refine uA ?_
       refine TO.step rfl (OT.arith (r':=((k + 1 : Nat) : Int)) rfl rfl rfl rfl rfl rfl rfl (by omega) ?_)
       refine uA ?_
       exact ⟨k + 1,uH,uH,rfl,rfl,uS,⟨hkl,fun i hi=>by
        by_cases e3 : i=k
        ·subst e3;rw [hxl];exact fun e=>hp (Option.some.inj e)
        ·exact hI i (by omega)⟩,by omega⟩
     ·have hke : k=Z.length:=by omega
      rcases hAf with ⟨rfl,j,rfl,hj⟩ | ⟨rfl,rfl,hj⟩
      ·exfalso
       have h1:=hj.at
       rw [← hZ] at h1
       have h2:=(List.getElem?_eq_some_iff.1 h1).1
       exact hI j (by omega) h1
      ·refine uA ?_
       refine retQ_ret rfl (L':=L) uS ⟨h05,rfl, ?_⟩
       simp
    ·omega
  ·rw [show decide ((k : Int) < 0)=false from decide_eq_false (by omega)]
   refine uA ?_
   refine TC.condP rfl (fun h10 => ?_) (fun h10 => ?_)
   ·omega
   ·refine uA ?_
    refine TC.draw0 [] mixed 10 rfl ?_
    refine DO.pure tab uC (by kernel_rfl) [0,1,2] (by kernel_rfl) rfl ?_
    (refine DO.loadA (k:=0) tab 3 hA75 uC (by kernel_rfl) (by kernel_rfl) rfl rfl rfl rfl rfl rfl rfl ?_)
    refine DO.pure tab uC (by kernel_rfl) [4,5] (by kernel_rfl) rfl ?_
    refine DO.index tab rSpt 6 k hz uC (by kernel_rfl) (by kernel_rfl) rfl rfl rfl rfl rfl rfl rfl (by first | rfl | omega) rfl hx ?_
    rintro b1 i1 f1 hr1 hA1;obtain rfl : f1 = ⟨xf,xl,xb⟩:=hr1
    (refine DO.loadA (k:=0) tab 7 hA1 uC (by kernel_rfl) (by kernel_rfl) rfl rfl rfl rfl rfl rfl rfl ?_)
    refine DO.run 8 rfl rfl (by kernel_rfl) rfl ?_;refine OT.neS tab rfl rfl rfl rfl rfl rfl (by kernel_rfl) (by kernel_rfl) rfl ?_;refine ⟨Mem.le_refl _,_,List.Perm.refl _, ?_⟩
    refine DO.pure tab uC (by kernel_rfl) [9] (by kernel_rfl) rfl ?_
    (refine DO.nil0 (by kernel_rfl) ?_)
    rotate_left 1
    refine uA ?_
    refine TC.cond rfl (fun hq => ?_) (fun hq => ?_)
    ·exfalso
     simp at hq
    ·refine uA ?_
     refine TC.loopK (ι:=Nat) [5,9,10,12] rfl (fun k=>[(13, .int .i64 (k : Int))]) (fun _=>m5) (fun _=>L) (fun k=>k ≤ Z.length ∧ ∀ i,i < k→Z[i]? ≠ some ⟨pf,pl,pb⟩) (fun k=>Z.length - k) 0 uH rfl uS ⟨Nat.zero_le _,fun i h=>by omega⟩ ?_
     rintro k ⟨hk,hI⟩
     refine uA ?_
     refine TC.condP rfl (fun h8 => ?_) (fun h8 => ?_)
     ·have hkl : k < Z.length:=by omega
      have hxl : Z[k]? = some Z[k]:=List.getElem?_eq_getElem hkl
      refine uA ?_
      refine TC.draw0 [] mixed 6 rfl ?_
      refine DO.pure tab uC (by kernel_rfl) [0,1] (by kernel_rfl) rfl ?_
      refine DO.index tab rSpt 2 k hz uC (by kernel_rfl) (by kernel_rfl) rfl rfl rfl rfl rfl rfl rfl (by first | rfl | omega) rfl hxl ?_
      rintro b1 i1 f1 hr1 hA1;obtain rfl : f1=Z[k]:=hr1
      (refine DO.loadA (k:=0) tab 3 hA1 uC (by kernel_rfl) (by kernel_rfl) rfl rfl rfl rfl rfl rfl rfl ?_)
      (refine DO.loadA (k:=0) tab 4 hA55 uC (by kernel_rfl) (by kernel_rfl) rfl rfl rfl rfl rfl rfl rfl ?_)
      refine DO.run 5 rfl rfl (by kernel_rfl) rfl ?_;refine OT.eqS tab rfl rfl rfl rfl rfl rfl (by kernel_rfl) (by kernel_rfl) rfl ?_;refine ⟨Mem.le_refl _,_,List.Perm.refl _, ?_⟩
      (refine DO.nil0 (by kernel_rfl) ?_)
      rotate_left 1
      refine uA ?_
      refine TC.cond rfl (fun hq => ?_) (fun hq => ?_)
      ·have hp : Z[k] = ⟨pf,pl,pb⟩:=by
        cases ha : Z[k]
        rw [ha] at hq
        simpa using hq
       have hps : Pos (ordF l) ⟨pf,pl,pb⟩ k:=pos_at (by rw [← hZ,hxl,hp])
       rcases hAf with ⟨rfl,j,rfl,hj⟩ | ⟨rfl,rfl,hj⟩
       ·obtain rfl:=hj.uniq hps
        refine uA ?_
        refine retQ_ret rfl (L':=L) uS ⟨h05,rfl, ?_⟩
        simp
       ·exact absurd hps (hj k)
      ·have hp : Z[k] ≠ ⟨pf,pl,pb⟩:=fun hp=>by
        rw [hp] at hq
        simp at hq
       refine uA ?_
       refine TO.step rfl (OT.arith (r':=((k + 1 : Nat) : Int)) rfl rfl rfl rfl rfl rfl rfl (by omega) ?_)
       refine uA ?_
       exact ⟨k + 1,uH,uH,rfl,rfl,uS,⟨hkl,fun i hi=>by
        by_cases e3 : i=k
        ·subst e3;rw [hxl];exact fun e=>hp (Option.some.inj e)
        ·exact hI i (by omega)⟩,by omega⟩
     ·have hke : k=Z.length:=by omega
      rcases hAf with ⟨rfl,j,rfl,hj⟩ | ⟨rfl,rfl,hj⟩
      ·exfalso
       have h1:=hj.at
       rw [← hZ] at h1
       have h2:=(List.getElem?_eq_some_iff.1 h1).1
       exact hI j (by omega) h1
      ·refine uA ?_
       refine retQ_ret rfl (L':=L) uS ⟨h05,rfl, ?_⟩
       simp
 ·rcases hAf with ⟨-,rfl,rfl⟩ | ⟨h, -⟩
  ·rcases hWf with ⟨-,rfl,rfl,rfl,rfl⟩ | ⟨h, -⟩ | ⟨h, -⟩
   ·obtain ⟨E,hE⟩ : ∃ E,E=errD l:=⟨_,rfl⟩
    rw [← hE] at h0 ⊢
    have hEE : decide (E=E)=true:=decide_eq_true rfl
    refine TC.condN rfl (fun h7 => ?_) (fun h7 => ?_)
    ·refine uA ?_
     rw [hEE]
     refine uA ?_
     rw [hEE]
     refine uA ?_
     (refine TO.step rfl (OT.loadA0 tab hA74 rfl rfl rfl rfl rfl ?_))
     refine uA ?_
     refine TO.step rfl (OT.eqS tab rfl rfl rfl rfl rfl rfl (by kernel_rfl) (by kernel_rfl) rfl ?_)
     refine uA ?_
     refine retQ_ret rfl (L':=L) uS ⟨h04,rfl,rfl⟩
    ·exact absurd h7 h0
   ·exact absurd h h0
   ·exact absurd h h0
  ·exact absurd h h0
end Go.Sep
set_option linter.unusedVariables false
set_option linter.unusedSimpArgs false
namespace Go.Sep
open Go.Proofs
theorem joinD_get (ys : List Ch) {f t : Nat} (hF : InF ys t f) : (joinD ys)[t]? = (txt (gk ys f))[t - sumD (ys.take f)]?:=by
 have h1 : joinD ys=joinD (ys.take f)++(txt (gk ys f)++joinD (ys.drop (f + 1))):=by
  have e : ys=ys.take f++(gk ys f :: ys.drop (f + 1)):=by
   have h2 : ys.drop f=gk ys f :: ys.drop (f + 1):=by
    rw [List.drop_eq_getElem_cons hF.lt]
    congr 1
    exact Option.some.inj ((List.getElem?_eq_getElem hF.lt).symm.trans (gk_get hF.lt))
   rw [← h2,List.take_append_drop]
  conv=>lhs;rw [e]
  rw [joinD_app]
  congr 1
 have hl:=joinD_len (ys.take f)
 have hlo:=hF.lo
 have hhi:=hF.hi
 rw [sumD_next hF.lt] at hhi
 have h2:=txt_len (gk ys f)
 rw [h1,List.getElem?_append_right (by omega),hl,List.getElem?_append_left (by omega)]
theorem next_spot (ys : List Ch) {k : Nat} {x : Spt} {c : UInt8} (hx : (spD ys ys.length)[k]? = some x) (hc : (joinD ys)[k]? = some c) :
  (0 ≤ x.f∧x.f ≤ ys.length∧0 ≤ x.l∧x.l ≤ sumD ys + 2∧0 ≤ x.b∧x.b ≤ sumD ys + 2)∧(k + 1=sumD ys→c=10∧x.f=ys.length) ∧
  (∀ y,(spD ys ys.length)[k + 1]? = some y→(c ≠ 10∧y = ⟨x.f,x.l,x.b + 1⟩) ∨ (c=10∧y = ⟨x.f,x.l + 1,1⟩) ∨ (c=10∧y = ⟨x.f + 1,1,1⟩)):=by
 have hZl:=spD_len ys ys.length (Nat.le_refl _)
 rw [List.take_length] at hZl
 have hk : k < sumD ys:=by
  have:=(List.getElem?_eq_some_iff.1 hx).1
  omega
 obtain ⟨f,_,hF⟩:=inF_ex ys ys.length k (Nat.le_refl _) (by rw [List.take_length];exact hk)
 have hlo:=hF.lo
 have hhi:=hF.hi
 have hnx:=sumD_next hF.lt
 have hsl:=sumD_le ys (f + 1)
 have h2:=txt_len (gk ys f)
 rw [spD_at ys _ (Nat.le_refl _) k f hF.lt hlo hhi] at hx
 rw [joinD_get ys hF] at hc
 obtain ⟨T,hT⟩ : ∃ T,T=txt (gk ys f):=⟨_,rfl⟩
 obtain ⟨r,hr⟩ : ∃ r,r=k - sumD (ys.take f):=⟨_,rfl⟩
 rw [← hT] at h2
 rw [← hT,← hr] at hx hc
 have hxe:=Option.some.inj hx
 have hrl : r < T.length:=by omega
 have hbr:=byteOf_rng (T.take r)
 have hcl : (T.take r).count 10 ≤ (T.take r).length:=List.count_le_length
 rw [List.length_take,Nat.min_eq_left (by omega)] at hbr hcl
 have hlt:=hF.lt
 refine ⟨?_,fun hke => ?_,fun y hy => ?_⟩
 ·rw [← hxe]
  simp only [spAt]
  omega
 ·have hfe : f + 1=ys.length:=by
   rcases Nat.lt_or_ge (f + 1) ys.length with h | h
   ·have:=sumD_lt ys h (Nat.le_refl _)
    rw [List.take_length] at this
    omega
   ·omega
  have hre : r=(gk ys f).tx.length:=by
   have : sumD (ys.take (f + 1))=sumD ys:=by rw [hfe,List.take_length]
   omega
  constructor
  ·rw [hT,txt,hre,List.getElem?_append_right (Nat.le_refl _),Nat.sub_self] at hc
   exact (Option.some.inj hc).symm
  ·rw [← hxe]
   simp only [spAt]
   omega
 ·have hk1 : k + 1 < sumD ys:=by
   have:=(List.getElem?_eq_some_iff.1 hy).1
   omega
  rcases Nat.lt_or_ge (k + 1) (sumD (ys.take (f + 1))) with h | h
  ·rw [spD_at ys _ (Nat.le_refl _) (k + 1) f hlt (by omega) h,← hT,show k + 1 - sumD (ys.take f)=r + 1 by omega] at hy
   have htk : T.take (r + 1)=T.take r++[c]:=by rw [List.take_add_one,hc];rfl
   rw [htk,spAt_snoc,hxe] at hy
   have hye:=Option.some.inj hy
   by_cases e : c=10
   ·rw [if_pos e] at hye
    exact .inr (.inl ⟨e,hye.symm⟩)
   ·rw [if_neg e] at hye
    exact .inl ⟨e,hye.symm⟩
  ·have hre : r=(gk ys f).tx.length:=by omega
   have hf1 : f + 1 < ys.length:=by
    rcases Nat.lt_or_ge (f + 1) ys.length with h | h
    ·exact h
    ·have : sumD (ys.take (f + 1))=sumD ys:=by rw [List.take_of_length_le h]
     omega
   have hn1:=sumD_next hf1
   rw [spD_at ys _ (Nat.le_refl _) (k + 1) (f + 1) hf1 (by omega) (by omega),show k + 1 - sumD (ys.take (f + 1))=0 by omega,List.take_zero] at hy
   have hye:=Option.some.inj hy
   refine .inr (.inr ⟨?_, ?_⟩)
   ·rw [hT,txt,hre,List.getElem?_append_right (Nat.le_refl _),Nat.sub_self] at hc
    exact (Option.some.inj hc).symm
   ·rw [← hye,← hxe]
    rfl
end Go.Sep
set_option linter.unusedVariables false
set_option linter.unusedSimpArgs false
namespace Go.Sep
open Go.Proofs
attribute [local irreducible] TC TO OT TCallX TCall DO DOt thenQ blockQ retQ At
theorem tmod_len {a n k : Nat} (h : k=n) : ((a : Int)).tmod ((k : Nat) : Int)=((a % n : Nat) : Int):=by
 subst h
 rw [Int.tmod_eq_emod_of_nonneg (by omega)];omega
set_option maxHeartbeats 4000000 in
theorem bundleThere_walk (s : Sl) (l : List Ch) (z : Nat) (m : Mem) (L : List Item) (hs : SlRep rCh m s l) (hw : Wide l) (hz : z < 65536) : TCall Tryz.prog 5 ⟨[s.v, .int .u16 (z : Int)]⟩ m L (Made m L fun r _=>r = .bool true):=by
 have hsl:=hs.len
 unfold TCall
 refine TCallX.enter Tryz.func5 rfl 159 rfl ?_
 refine uA ?_
 refine TO.step rfl (OT.call rfl rfl rfl rfl rfl rfl goes10 ((join_law s l m L hs hw).x ?_));
 rintro _ m1 _ ⟨hm1,rfl,rfl⟩
 refine uA ?_
 refine TO.step rfl (OT.call rfl rfl rfl rfl rfl rfl goes12 ((awake_law m1 _).x ?_));
 rintro _ m2 _ ⟨hm2,rfl,rfl⟩
 refine uA ?_
 by_cases h0 : errD l=0
 ·rw [show joinX l=joinD (ordF l) from if_pos h0,h0]
  have hjl:=joinD_len (ordF l)
  have hpe:=ordF_perm l
  have hsu:=sumD_perm hpe
  have hpl:=hpe.length_eq
  obtain ⟨hl64,hnam,hsum⟩:=openOk h0
  obtain ⟨ys,hys⟩ : ∃ ys,ys=ordF l:=⟨_,rfl⟩
  obtain ⟨J,hJ⟩ : ∃ J,J=joinD (ordF l):=⟨_,rfl⟩
  rw [← hJ] at hjl ⊢
  rw [← hys] at hJ hjl hsu hpl
  refine uA ?_
  by_cases hj0 : (J.length : Int)=0
  ·rw [show decide ((J.length : Int)=0)=true from decide_eq_true hj0]
   refine uA ?_
   refine TO.step rfl (OT.call rfl rfl rfl rfl rfl rfl goes12 ((awake_law m2 _).x ?_));
   rintro _ m3 _ ⟨hm3,rfl,rfl⟩
   refine uA ?_
   refine retQ_ret rfl (L':=L) uS ⟨Mem.le_trans hm1 (Mem.le_trans hm2 hm3),rfl,rfl⟩
  ·rw [show decide ((J.length : Int)=0)=false from decide_eq_false hj0]
   refine uA ?_
   refine TO.step rfl (OT.conv tab (r:=(z : Int)) rfl rfl rfl rfl rfl rfl (wrap64_in (by omega) (by omega)) ?_)
   refine uA ?_
   refine TO.step rfl (OT.remK (r:=((z % J.length : Nat) : Int)) rfl rfl rfl rfl rfl hj0 (tmod_len rfl) ?_)
   obtain ⟨k,hk⟩ : ∃ k,k=z % J.length:=⟨_,rfl⟩
   rw [← hk]
   have hkl : k < J.length:=by rw [hk];exact Nat.mod_lt _ (by omega)
   obtain ⟨c,hc⟩ : ∃ c,J[k]? = some c:=⟨J[k],by simp [hkl]⟩
   have h02:=Mem.le_trans hm1 hm2
   refine uA ?_
   refine TO.step rfl (OT.call rfl rfl rfl rfl rfl rfl goes15 ((where_law s l (k : Int) m2 L (hs.mono h02) hw).x ?_));
   rintro _ m3 _ ⟨hm3,rfl,hW⟩
   obtain ⟨xf,xl,xb,e1,rfl,hWf⟩:=where_form hW
   rcases hWf with ⟨h, -⟩ | ⟨-, -,h, -⟩ | ⟨-,rfl,k',hkk,hk',hx⟩
   ·exact absurd h0 h
   ·omega
   obtain rfl : k' = k:=by omega
   refine uA ?_
   refine TO.step rfl (OT.alloc tab rfl rfl rfl rfl (fun b8 => ?_))
   refine uA ?_
   refine uT ?_
   refine TO.freezeAt 0 rfl (fun m4 hm4 hA8 => ?_)
   have h04:=Mem.le_trans h02 (Mem.le_trans hm3 hm4)
   rw [← hys] at hx
   rw [hJ] at hc
   obtain ⟨hbd,hend,hnext⟩:=next_spot ys hx hc
   rw [← hJ] at hc
   simp only at hbd hend hnext
   refine uA ?_
   (refine TO.step rfl (OT.loadA0 tab hA8 rfl rfl rfl rfl rfl ?_))
   refine uA ?_
   refine TO.step rfl (OT.call rfl rfl rfl rfl rfl rfl goes16 ((at_law s l xf xl xb m4 L (hs.mono h04) hw (by omega)).x ?_));
   rintro _ m5 _ ⟨hm5,rfl,hA⟩
   obtain ⟨n2,e2,rfl,hAf⟩:=at_form hA
   have hpk : Pos (ordF l) ⟨xf,xl,xb⟩ k':=pos_at (by rw [← hys];exact hx)
   rcases hAf with ⟨h, -⟩ | ⟨-,⟨rfl,j,rfl,hj⟩ | ⟨rfl,rfl,hj⟩⟩
   ·exact absurd h0 h
   rotate_left
   ·exact absurd hpk (hj _)
   obtain rfl:=hj.uniq hpk
   have hkk2 : (!decide ((j : Int)=(j : Int)))=false:=by simp
   refine uA ?_
   rw [hkk2]
   refine uA ?_
   refine TO.step rfl (OT.arith (r':=((j + 1 : Nat) : Int)) rfl rfl rfl rfl rfl rfl (by omega) (by omega) ?_)
   refine uA ?_
   have h05:=Mem.le_trans h04 hm5
   refine TO.step rfl (OT.call rfl rfl rfl rfl rfl rfl goes15 ((where_law s l ((j + 1 : Nat) : Int) m5 L (hs.mono h05) hw).x ?_));
   rintro _ m6 _ ⟨hm6,rfl,hW2⟩
   obtain ⟨yf,yl,yb,e3,rfl,hWf2⟩:=where_form hW2
   refine uA ?_
   refine TO.step rfl (OT.alloc tab rfl rfl rfl rfl (fun b12 => ?_))
   refine uA ?_
   refine uT ?_
   refine TO.freezeAt 0 rfl (fun m7 hm7 hA12 => ?_)
   have hA87:=hA8.mono (Mem.le_trans hm5 (Mem.le_trans hm6 hm7))
   have h07:=Mem.le_trans h05 (Mem.le_trans hm6 hm7)
   refine uA ?_
   refine TO.step rfl (OT.arith (r':=((j + 1 : Nat) : Int)) rfl rfl rfl rfl rfl rfl (by omega) (by omega) ?_)
   refine uA ?_
   refine TC.condP rfl (fun h10 => ?_) (fun h10 => ?_)
   ·rcases hWf2 with ⟨h, -⟩ | ⟨-,rfl, -⟩ | ⟨-,rfl,k',hkk',hk'', -⟩
    ·exact absurd h0 h
    ·obtain ⟨rfl,hxf⟩:=hend (by omega)
     refine uA ?_
     refine TO.step rfl (OT.sidx tab j rfl rfl rfl rfl rfl rfl (by omega) hc ?_)
     refine uA ?_
     (refine TO.step rfl (OT.loadA tab hA87 rfl rfl rfl rfl rfl ?_))
     refine uA ?_
     refine retQ_ret rfl (L':=L) uS ⟨h07,rfl, ?_⟩
     rw [decide_eq_true (by omega)]
    ·omega
   ·rcases hWf2 with ⟨h, -⟩ | ⟨-, -,h, -⟩ | ⟨-,rfl,k',hkk',hk'',hy⟩
    ·exact absurd h0 h
    ·omega
    obtain rfl : k' = j + 1:=by omega
    rw [← hys] at hy
    refine uA ?_
    (refine TO.step rfl (OT.loadA tab hA12 rfl rfl rfl rfl rfl ?_))
    refine uA ?_
    (refine TO.step rfl (OT.loadA tab hA87 rfl rfl rfl rfl rfl ?_))
    refine uA ?_
    rcases hnext _ hy with ⟨hc10,e⟩ | ⟨rfl,e⟩ | ⟨rfl,e⟩
    ·simp only [Spt.mk.injEq] at e
     obtain ⟨rfl,rfl,rfl⟩:=e
     have hcn : (c.toNat : Int) ≠ 10:=fun e=>hc10 (UInt8.toNat_inj.1 (by show c.toNat=10;omega))
     rw [show decide (yf=yf)=true from decide_eq_true rfl]
     refine uA ?_
     (refine TO.step rfl (OT.loadA tab hA12 rfl rfl rfl rfl rfl ?_))
     refine uA ?_
     (refine TO.step rfl (OT.loadA tab hA87 rfl rfl rfl rfl rfl ?_))
     refine uA ?_
     rw [show decide (yl=yl)=true from decide_eq_true rfl]
     refine uA ?_
     (refine TO.step rfl (OT.loadA tab hA12 rfl rfl rfl rfl rfl ?_))
     refine uA ?_
     (refine TO.step rfl (OT.loadA tab hA87 rfl rfl rfl rfl rfl ?_))
     refine uA ?_
     refine TO.step rfl (OT.arith (r':=xb + 1) rfl rfl rfl rfl rfl rfl (by omega) (by omega) ?_)
     refine uA ?_
     rw [show decide (xb + 1=xb + 1)=true from decide_eq_true rfl]
     refine uA ?_
     refine TO.step rfl (OT.sidx tab j rfl rfl rfl rfl rfl rfl (by omega) hc ?_)
     refine uA ?_
     refine retQ_ret rfl (L':=L) uS ⟨h07,rfl, ?_⟩
     rw [decide_eq_false hcn]
     rfl
    ·simp only [Spt.mk.injEq] at e
     obtain ⟨rfl,rfl,rfl⟩:=e
     rw [show decide (yf=yf)=true from decide_eq_true rfl]
     refine uA ?_
     (refine TO.step rfl (OT.loadA tab hA12 rfl rfl rfl rfl rfl ?_))
     refine uA ?_
     (refine TO.step rfl (OT.loadA tab hA87 rfl rfl rfl rfl rfl ?_))
     refine uA ?_
     rw [show decide (xl + 1=xl)=false from decide_eq_false (by omega)]
     refine uA ?_
     (refine TO.step rfl (OT.loadA tab hA12 rfl rfl rfl rfl rfl ?_))
     refine uA ?_
     (refine TO.step rfl (OT.loadA tab hA87 rfl rfl rfl rfl rfl ?_))
     refine uA ?_
     rw [show decide (yf=yf)=true from decide_eq_true rfl]
     refine uA ?_
     (refine TO.step rfl (OT.loadA tab hA12 rfl rfl rfl rfl rfl ?_))
     refine uA ?_
     (refine TO.step rfl (OT.loadA tab hA87 rfl rfl rfl rfl rfl ?_))
     refine uA ?_
     refine TO.step rfl (OT.arith (r':=xl + 1) rfl rfl rfl rfl rfl rfl (by omega) (by omega) ?_)
     refine uA ?_
     rw [show decide (xl + 1=xl + 1)=true from decide_eq_true rfl]
     refine uA ?_
     (refine TO.step rfl (OT.loadA tab hA12 rfl rfl rfl rfl rfl ?_))
     refine uA ?_
     refine TO.step rfl (OT.sidx tab j rfl rfl rfl rfl rfl rfl (by omega) hc ?_)
     refine uA ?_
     refine retQ_ret rfl (L':=L) uS ⟨h07,rfl, ?_⟩
     rfl
    ·simp only [Spt.mk.injEq] at e
     obtain ⟨rfl,rfl,rfl⟩:=e
     rw [show decide (xf + 1=xf)=false from decide_eq_false (by omega)]
     refine uA ?_
     (refine TO.step rfl (OT.loadA tab hA12 rfl rfl rfl rfl rfl ?_))
     refine uA ?_
     (refine TO.step rfl (OT.loadA tab hA87 rfl rfl rfl rfl rfl ?_))
     refine uA ?_
     rw [show decide (xf + 1=xf)=false from decide_eq_false (by omega)]
     refine uA ?_
     (refine TO.step rfl (OT.loadA tab hA12 rfl rfl rfl rfl rfl ?_))
     refine uA ?_
     (refine TO.step rfl (OT.loadA tab hA87 rfl rfl rfl rfl rfl ?_))
     refine uA ?_
     refine TO.step rfl (OT.arith (r':=xf + 1) rfl rfl rfl rfl rfl rfl (by omega) (by omega) ?_)
     refine uA ?_
     rw [show decide (xf + 1=xf + 1)=true from decide_eq_true rfl]
     refine uA ?_
     (refine TO.step rfl (OT.loadA tab hA12 rfl rfl rfl rfl rfl ?_))
     refine uA ?_
     (refine TO.step rfl (OT.loadA tab hA12 rfl rfl rfl rfl rfl ?_))
     refine uA ?_
     refine TO.step rfl (OT.sidx tab j rfl rfl rfl rfl rfl rfl (by omega) hc ?_)
     refine uA ?_
     refine retQ_ret rfl (L':=L) uS ⟨h07,rfl, ?_⟩
     rfl
 ·have hE : (!decide (errD l=0))=true:=by simp [h0]
  rw [hE]
  refine uA ?_
  refine TO.step rfl (OT.call rfl rfl rfl rfl rfl rfl goes12 ((awake_law m2 _).x ?_));
  rintro _ m3 _ ⟨hm3,rfl,rfl⟩
  refine uA ?_
  refine retQ_ret rfl (L':=L) uS ⟨Mem.le_trans hm1 (Mem.le_trans hm2 hm3),rfl,rfl⟩
end Go.Sep
set_option linter.unusedVariables false
set_option linter.unusedSimpArgs false
namespace Go.Sep
section
variable {P : Program} {N : Nat} {D : List Deferred} {m : Mem} {Q : EPost} {ρ : Env} {ops : List Oper} {listed : List Bool} {ts : List Nat} {fuel : Nat} {Ls Lp : List Item}
theorem DO.cutS {H α : Type} (T : Tab P) (r : R H α) (i : Nat) {s : Sl} {l : List α} (lo hi : Nat) {x : Operand} {lx hx : Option Operand} {lov hiv : Option Value} {t : TypeId} {o : Oper} {d : Nat} (hs : SlRep r m s l) (hc : Calm Q) (hns : Region.noSelect ⟨ops⟩ = true) (hok : orderOkP ops ts [i] listed=true)
  (hi' : ops[i]? = some o) (hg : gv ops ρ o=some true) (ho : o.op = .slice t x lx hx none) (hd : o.dst=some d) (hN : Nat.blt d N=true) (he : ev ρ x=some s.v) (h1 : evO ρ lx=some lov) (h2 : evO ρ hx=some hiv) (hsz : T.esize t=some r.size)
  (g1 : (lov=none∧lo=0) ∨ lov=some (.int .i64 (lo : Int))) (g2 : (hiv=none∧hi=s.len) ∨ hiv=some (.int .i64 (hi : Int))) (hle : lo ≤ hi) (hhi : hi ≤ l.length)
  (h : ∀ s' : Sl,SlRep r m s' ((l.take hi).drop lo)→DO P N ops ts fuel (listed.set i true) ((d,s'.v) :: ρ) D m Ls Lp Q) : DO P N ops ts (fuel + 1) listed ρ D m Ls Lp Q:=by
 simp only [orderOkP,Bool.and_eq_true] at hok
 obtain ⟨o1,o2,o3,_⟩:=hok
 refine DO.takeP i hc hi' hd hN hg hns o1 o2 (by simpa using o3) (fun ac w hA => ?_) (h _ (hs.cut hle hhi))
 have hcap:=hs.cap
 have hlen:=hs.len
 have hr:=run_sliceAt (P:=P) T (w:=w) hsz g1 g2 hle (by omega)
 have e1 : Option.map ac.eval lx=lov:=hA.evalO h1
 have e2 : Option.map ac.eval hx=hiv:=hA.evalO h2
 simp only [execOp,ho,hA.eval he,e1,e2,Option.map_none,Sem.run_bind,hr,Result.andThen_ok,Sem.run_pure]
end
end Go.Sep
