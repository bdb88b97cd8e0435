/-
  Part 9 of the proof: library, walks and plain laws.
-/
import Derived.Lib.Bytealg
import Derived.Test.YtiknfjdjbhbjhaaGreatDoorB8
set_option linter.unusedVariables false
set_option linter.unusedSimpArgs false
namespace Go.Sep
open Go.Proofs
attribute [local irreducible] TC TO OT TCallX TCall DO DOt thenQ blockQ retQ At
theorem indexByte_lite (m : Mem) (L : List Item) (s : Str) (c : UInt8) : TCall Tryz.prog 261 ⟨[strV s,byteV c]⟩ m L (Ret (.int .i64 (Lib.indexByte s c)) m L):=by
 unfold TCall
 refine TCallX.enter Tryz.func261 rfl 8 rfl ?_
 refine uA ?_
 refine TO.step rfl (OT.callX (E:=Extern.BytealgIndexByte.indexByte) (vs:=[strV s,byteV c]) (v := .int .i64 (Lib.indexByte s c)) rfl rfl rfl rfl rfl Tryz.func329 (by kernel_rfl) (by kernel_rfl) (by kernel_rfl) (by kernel_rfl) (fun w _ => ?_) ?_)
 ·have:=Lib.run_indexByteString (P:=Tryz.prog) ⟨⟨s⟩⟩ (c.toNat : Int) w
  simpa using this
 ·refine uA ?_
  refine retQ_ret rfl uS ⟨rfl,rfl, ?_⟩
  rfl
def prefixB (p s : Str) : Bool:=decide (p.length ≤ s.length) && decide (s.take p.length=p)
def lowerN (c : UInt8) : Nat:=c.toNat ||| 32
end Go.Sep
set_option linter.unusedVariables false
set_option linter.unusedSimpArgs false
namespace Go.Sep
open Go.Proofs
attribute [local irreducible] TC TO OT TCallX TCall DO DOt thenQ blockQ retQ At
structure Errs (m : Mem) : Prop where
 syn : ∃ u v,At m 1 0 [.iface u v]
 rng : ∃ u v,At m 2 0 [.iface u v]
theorem Errs.mono {m m' : Mem} (h : Errs m) (hm : m ≤ m') : Errs m':=by
 obtain ⟨⟨u,v,h1⟩,⟨u',v',h2⟩⟩:=h
 exact ⟨⟨u,v,h1.mono hm⟩,⟨u',v',h2.mono hm⟩⟩
set_option maxHeartbeats 800000 in
theorem clone_str (m : Mem) (L : List Item) (s : Str) (hs : s.length ≤ 140737488355328) : TCall Tryz.prog 168 ⟨[strV s]⟩ m L (Ret (strV s) m L):=by
 refine TCall.forget ?_
 unfold TCall
 refine TCallX.enter Tryz.func168 rfl 18 rfl ?_
 refine uA ?_
 refine TC.condP rfl (fun e1 => ?_) (fun e1 => ?_)
 ·have h0 : s=[]:=List.eq_nil_of_length_eq_zero (by omega)
  refine uA ?_
  refine retQ_ret rfl uS ⟨Mem.le_refl _,rfl,by rw [h0]⟩
 ·refine uA ?_
  refine TO.step rfl (OT.makeT tab (n:=s.length) (z := .int .u8 0) rfl rfl rfl rfl rfl rfl rfl rfl (by show s.length * 1 ≤ _;omega) rfl (fun b m1 hm1 ht hp => ?_))
  refine uA ?_
  refine TO.step rfl (OT.copyS tab 0 (off:=0) (k:=0) rfl rfl rfl rfl rfl (Nat.le_refl _) rfl rfl rfl (by simp) ?_)
  rw [putAt_all (by simp)]
  refine TO.freeze fun m2 hm2 hA => ?_
  refine uA ?_
  refine TO.step rfl (OT.indexP (sz:=1) tab 0 rfl rfl rfl rfl rfl rfl rfl (by omega) ?_)
  refine uA ?_
  refine TO.tokFull b s.length ?_
  refine TO.step rfl (OT.unsafeStr tab (e:=5) rfl rfl rfl rfl rfl rfl (by kernel_rfl) hA rfl (by omega) (Nat.le_refl _) (by omega) (hm2.t _ _ ht) (by rw [hm2.pin];exact hp) ?_)
  refine uA ?_
  refine retQ_ret rfl uS ⟨Mem.le_trans hm1 hm2,rfl,rfl⟩
@[reducible] def MadeE (m : Mem) (L : List Item) : Value→Mem→List Item→Prop:=Made m L fun r _ => ∃ b,r = .pointer (some ⟨b,0,none⟩)
theorem syntaxError_law (m : Mem) (L : List Item) (f s : Str) (hs : s.length ≤ 140737488355328) (hE : Errs m) : TCall Tryz.prog 101 ⟨[strV f,strV s]⟩ m L (MadeE m L):=by
 obtain ⟨u,v,hA⟩:=hE.syn
 unfold TCall
 refine TCallX.enter Tryz.func101 rfl 11 rfl ?_
 refine uA ?_
 refine TC.draw0 [] mixed 7 rfl ?_
 refine DO.pure tab uC (by kernel_rfl) [0,1] (by kernel_rfl) rfl ?_
 (refine DO.loadA (k:=0) tab 3 hA uC (by kernel_rfl) (by kernel_rfl) rfl rfl rfl rfl rfl rfl rfl ?_)
 refine DO.run 2 rfl rfl (by kernel_rfl) rfl (OT.call rfl rfl rfl rfl rfl rfl goes168 ((clone_str _ _ s hs).x ?_))
 rintro _ _ _ ⟨rfl,rfl,rfl⟩;refine ⟨Mem.le_refl _,_,List.Perm.refl _, ?_⟩
 refine DO.pure tab uC (by kernel_rfl) [4] (by kernel_rfl) rfl ?_
 refine DO.run 5 rfl rfl (by kernel_rfl) rfl ?_
 refine OT.box rfl rfl rfl rfl rfl (fun b => ?_);refine ⟨Mem.le_refl _,[_],perm_mid, ?_⟩
 refine DO.pure tab uC (by kernel_rfl) [6] (by kernel_rfl) rfl ?_
 (refine DO.nil (by kernel_rfl) ?_)
 rotate_left 1
 refine thenQ_n ?_
 refine uA ?_
 refine retQ_ret rfl (L':=L) uS ⟨Mem.le_refl _,rfl,b,rfl⟩
@[reducible] def MadeI (m : Mem) (L : List Item) : Value→Mem→List Item→Prop:=Made m L fun r _ => ∃ u v,r = .iface u v
theorem toError_syn (m : Mem) (L : List Item) (f s : Str) (b z : Int) (hs : s.length ≤ 140737488355328) (hE : Errs m) : TCall Tryz.prog 59 ⟨[strV f,strV s, .int .i64 b, .int .i64 z, .iface 159 (.int .i64 2)]⟩ m L (MadeI m L):=by
 unfold TCall
 refine TCallX.enter Tryz.func59 rfl 43 rfl ?_
 refine uA ?_
 refine TO.step rfl (OT.mkIface tab rfl rfl rfl rfl rfl ?_)
 refine TO.step rfl (OT.errEq tab (info:=Tryz.t159) (.inl rfl) rfl rfl rfl rfl rfl rfl (by kernel_rfl) rfl rfl ?_)
 refine uA ?_
 refine TO.step rfl (OT.call rfl rfl rfl rfl rfl rfl goes101 ((syntaxError_law _ _ f s hs hE).x ?_));
 rintro _ m1 _ ⟨hm1,rfl,b,rfl⟩
 refine uA ?_
 refine TO.step rfl (OT.mkIface tab rfl rfl rfl rfl rfl ?_)
 refine uA ?_
 refine retQ_ret rfl uS ⟨hm1,rfl,_,_,rfl⟩
end Go.Sep
set_option linter.unusedVariables false
set_option linter.unusedSimpArgs false
namespace Go.Sep
open Go.Proofs
attribute [local irreducible] TC TO OT TCallX TCall DO DOt thenQ blockQ retQ At
theorem u64_in {n : Int} (h1 : 0 ≤ n) (h2 : n < 18446744073709551616) : IntKind.u64.wrap n=n:=by
 simp only [IntKind.wrap,IntKind.signed,IntKind.bits,Bool.false_and,Bool.false_eq_true,if_false]
 omega
theorem u8_in {n : Int} (h1 : 0 ≤ n) (h2 : n < 256) : IntKind.u8.wrap n=n:=by
 simp only [IntKind.wrap,IntKind.signed,IntKind.bits,Bool.false_and,Bool.false_eq_true,if_false]
 omega
def dv (c : UInt8) : Option Nat :=
 if 48 ≤ c.toNat∧c.toNat ≤ 57 then some (c.toNat - 48)
 else if 97 ≤ lowerN c∧lowerN c ≤ 122 then some (lowerN c - 97 + 10) else none
def pU (base maxV : Nat) : Str→Nat→Option Nat
 | [],n=>some n
 | c :: cs,n=>match dv c with
  | none=>none
  | some d=>if d < base∧n * base + d ≤ maxV then pU base maxV cs (n * base + d) else none
end Go.Sep
set_option linter.unusedVariables false
set_option linter.unusedSimpArgs false
namespace Go.Sep
open Go.Proofs
attribute [local irreducible] TC TO OT TCallX TCall DO DOt thenQ blockQ retQ At
def numOf (s : Str) : Option Nat:=match pU 10 18446744073709551615 s 0 with
 | some v=>if v < 9223372036854775808 then some v else none
 | none=>none
end Go.Sep
set_option linter.unusedVariables false
set_option linter.unusedSimpArgs false
namespace Go.Sep
section
variable {P : Program} {N : Nat} {ρ : Env} {D : List Deferred} {m : Mem} {L : List Item} {Q : EPost} {o : Oper} {full : List Oper} {K : Env→Mem→List Item→Prop}
theorem OT.toUnsafeE (T : Tab P) {t u e e' : TypeId} {x : Operand} {b n : Nat} {d : Nat} (ho : o.op = .convert t u x) (hd : o.dst=some d) (hN : Nat.blt d N=true) (hx : ev ρ x=some (.pointer (some ⟨b,0,none⟩)))
  (ht : T.isPtr t e=true) (hu : T.isUnsafe u=true) (he : T.size1 e=true) (hb : m.t b=some (e',n)) (hn : 0 < n) (hK : K ((d, .pointer (some ⟨b,0,none⟩)) :: ρ) m L) : OT P N o ρ D m L Q K:=by
 obtain ⟨ti,t1,t2⟩:=isPtr_get ht
 obtain ⟨ui,u1,u2⟩:=isUnsafe_get hu
 obtain ⟨ei,e1,e2⟩:=size1_get he
 refine OT.run hd hN (fun a w ha=>⟨w, ?_,ha.st⟩) hK
 have hut:=T.run_underlying w t1
 rw [t2] at hut
 have huu:=T.run_underlying w u1
 rw [u2] at huu
 have hse:=T.run_sizeOf w e1
 have hsh:=ha.st.shape hb
 have hn' : ¬ (0 ≥ n):=by omega
 have hv : (viewAt b).run P w = .ok none w:=by simp [viewAt,hsh]
 have hc : (cellsIn b).run P w = .ok (some n) w:=by simp [cellsIn,hsh]
 simp only [execOp,ho,ha.env.eval hx,Go.convert,Sem.run_bind,hut,huu,Result.andThen_ok,Conv.unsafePointer,Conv.seenAt,hv,hc,hse,Sem.run_pure]
 simp [hn',hn,e2,hse]
theorem OT.fromUnsafeE (T : Tab P) {t u e e' : TypeId} {x : Operand} {b n : Nat} {d : Nat} (ho : o.op = .convert u t x) (hd : o.dst=some d) (hN : Nat.blt d N=true) (hx : ev ρ x=some (.pointer (some ⟨b,0,none⟩)))
  (ht : T.isPtr t e=true) (hu : T.isUnsafe u=true) (hb : m.t b=some (e',n)) (hlies : liesAt P P.depth e' (n / P.cellsOf e') 0 e 1=true) (he : T.size1 e=true) (hK : K ((d, .pointer (some ⟨b,0,none⟩)) :: ρ) m L) : OT P N o ρ D m L Q K:=by
 obtain ⟨ti,t1,t2⟩:=isPtr_get ht
 obtain ⟨ui,u1,u2⟩:=isUnsafe_get hu
 obtain ⟨ei,e1,e2⟩:=size1_get he
 refine OT.run hd hN (fun a w ha=>⟨w, ?_,ha.st⟩) hK
 have hut:=T.run_underlying w t1
 rw [t2] at hut
 have huu:=T.run_underlying w u1
 rw [u2] at huu
 have hse:=T.run_sizeOf w e1
 have hsh:=ha.st.shape hb
 have hv : (viewAt b).run P w = .ok none w:=by simp [viewAt,hsh]
 have hva : (variablesAt ⟨b,0,none⟩ e 1).run P w = .ok true w:=by simp [variablesAt,hsh,hlies]
 simp only [execOp,ho,ha.env.eval hx,Go.convert,Sem.run_bind,hut,huu,Result.andThen_ok,Conv.unsafePointer,Conv.seenAt,hv,hse,Sem.run_pure]
 simp [e2,hva,hse]
theorem run_appendST (T : Tab P) {t t2 e ty : TypeId} {ei : TI} {w : World} {s : Sl} {bs : List UInt8} {xs : List Value} {i : Nat} (he : T.elem t=some (e,ei)) (he2 : T.isStr t2=true)
  (hw : St m w L) (hi : L[i]? = some (tok s ei.size)) (ho : Own s) (hx : Src w s ei.size xs) (hsz1 : ei.size=1) (hzs : ei.zero.cells.size=ei.size) (hcap : s.len ≤ s.cap)
  (hb : 0 < ei.bytes) (hfit : (s.len + bs.length) * ei.bytes ≤ 140737488355328) (hAt : ∀ b o,s.a=some ⟨b,o,none⟩ → At m b o xs)
  (hTy : ∀ b o,s.a=some ⟨b,o,none⟩ → o=0∧m.t b=some (e,s.cap * ei.size)∧m.pin.heap.size ≤ b) :
  ∃ s' m' w',(Builtin.append_ #[t,t2] ty #[s.v,strV bs]).run P w = .ok s'.v w' ∧ m ≤ m' ∧ St m' w' (L.set i (tok s' ei.size))∧Own s' ∧ s'.len=s.len + bs.length∧s'.len ≤ s'.cap ∧
   ((s'.a=none∧xs++bs.map byteV=[]∧s'.cap=0) ∨ ∃ b o,s'.a=some ⟨b,o,none⟩ ∧ At m' b o (xs++bs.map byteV))∧(∀ b o,s'.a=some ⟨b,o,none⟩ → o=0∧m'.t b=some (e,s'.cap * ei.size)∧m'.pin.heap.size ≤ b)∧(bs=[]→s' = s):=by
 obtain ⟨ti,h4,h5,h6⟩:=elem_get he
 obtain ⟨ti2,k4,k5⟩:=isStr_get he2
 obtain ⟨_,_,hu,_⟩:=T.ok t ti h4
 rw [h5] at hu
 obtain ⟨_,_,hu2,_⟩:=T.ok t2 ti2 k4
 rw [k5] at hu2
 obtain ⟨info,q1,q2,q3,q4,q5⟩:=T.ok e ei h6
 have hnewA : ∀ w : World,(Builtin.firstCells ei.size bs.length (strV bs)).run P w = .ok (⟨bs.map byteV⟩ : Array Value) w:=fun w=>by
  have hx : (⟨⟨bs⟩⟩ : ByteArray).extract 0 bs.length = ⟨⟨bs⟩⟩:=by
   apply ByteArray.ext
   apply Array.ext'
   simp
  simp only [Builtin.firstCells,Sem.run_pure]
  rw [hx]
  congr 1
  apply Array.ext'
  simp
 have hnew:=hnewA w
 have hsize : (⟨⟨bs⟩⟩ : ByteArray).size=bs.length:=rfl
 have hylen : (bs.map byteV).length=bs.length * ei.size:=by rw [hsz1];simp
 have h1 : allOne (bs.map byteV)=true:=by
  induction bs with
  | nil=>rfl
  | cons x xs ih=>exact allOne_bytes (x :: xs)
 have hbound : s.len + bs.length ≤ 140737488355328:=Nat.le_trans (Nat.le_mul_of_pos_right _ hb) hfit
 by_cases hroom : s.len + bs.length ≤ s.cap
 ·
  rcases ho with hnil | ⟨b,o,ha⟩
  ·subst hnil
   simp only at hroom
   have hz : bs.length=0:=by omega
   have hxs : xs=[]:=List.eq_nil_of_length_eq_zero (by have:=hx.1;simpa using this)
   have hns : bs=[]:=List.eq_nil_of_length_eq_zero hz
   subst hxs;subst hns
   refine ⟨⟨none,0,0⟩,m,w, ?_,m.le_refl,by rw [set_same hi];exact hw, .inl rfl,by simp [hz],by simp, .inl ⟨rfl,rfl,rfl⟩,fun b o q=>(by cases q),fun _=>rfl⟩
   have hnew':=hnew
   simp only [List.length_nil,List.map_nil] at hnew'
   simp [Builtin.append_,run_underlying hu,run_underlying hu2,sizeOf,typeInfo,q1,q3,Builtin.lenOf,hsize,hz,hnew']
  ·obtain ⟨a,n,c⟩:=s
   simp only at ha hroom hcap hbound hfit hx hAt
   subst ha
   have hst:=(hw.at_ hi)
   simp only [tok] at hst
   obtain ⟨vs,hvl,hst⟩:=hst.ofRoom
   have hnl : (bs.map byteV).length ≤ vs.length:=by
    rw [hvl,hylen];exact Nat.mul_le_mul_right _ (by omega)
   obtain ⟨w',hr,hst'⟩:=run_storeCells (P:=P) (bs.map byteV) vs 0 0 w hst h1 (by omega)
   rw [putAt_zero hnl] at hst'
   have hst2:=hst'.split
   obtain ⟨g1,g2,g3⟩:=hst2.freeze
   have g4:=g3.toRoom
   refine ⟨⟨some ⟨b,o,none⟩,n + bs.length,c⟩,m.addCells b (o + n * ei.size) (bs.map byteV),w', ?_,g1, ?_, .inr ⟨b,o,rfl⟩,rfl,hroom, .inr ⟨b,o,rfl, ?_⟩,fun b' o' q=>(by cases q;exact hTy b o rfl),fun e0=>by rw [e0];rfl⟩
   ·have hr' : (storeCells ((⟨b,o,none⟩ : Addr).add (n * ei.size)) (bs.map byteV)).run P w = .ok () w':=by rw [addr_add];exact hr
    simp [Builtin.append_,run_underlying hu,run_underlying hu2,sizeOf,typeInfo,q1,q3,Builtin.lenOf,hsize,hroom,hnew,hr']
   ·have e1 : Item.room b (o + n * ei.size + (bs.map byteV).length) (List.drop (bs.map byteV).length vs).length=tok ⟨some ⟨b,o,none⟩,n + bs.length,c⟩ ei.size:=by
     simp only [tok,List.length_drop,hvl,hylen]
     congr 1
     ·rw [Nat.add_mul];omega
     ·rw [← Nat.sub_mul];congr 1;omega
    rw [← e1]
    exact St.back hi g4
   ·refine ((hAt b o rfl).mono g1).append ?_
    rw [hx.1]
    exact g2
 ·
  have hlt : s.cap < s.len + bs.length:=by omega
  have h48 : ¬ (Builtin.nextslicecap (s.len + bs.length) s.cap * ei.bytes > 281474976710656):=by
   have:=growslice_fits hlt hfit
   omega
  have hold:=run_first (P:=P) (hx.drew)
  have hnew':=hnewA w.drew
  obtain ⟨nc,hnc,hge⟩ : ∃ nc,nc=(Question.appendCap (s.len + bs.length) s.cap e).cut (w.tape w.drawn (.appendCap (s.len + bs.length) s.cap e))∧s.len + bs.length ≤ nc:=⟨_,rfl,by simp [Question.cut]⟩
  have hst:=hw.drew.allocCells ((⟨xs⟩ : Array Value)++(⟨bs.map byteV⟩ : Array Value)++Builtin.zeroCells ei.zero.cells (nc - (s.len + bs.length))) e
  have hl1 : ((⟨xs⟩ : Array Value)++(⟨bs.map byteV⟩ : Array Value)++Builtin.zeroCells ei.zero.cells (nc - (s.len + bs.length))).toList=(xs++bs.map byteV)++(Builtin.zeroCells ei.zero.cells (nc - (s.len + bs.length))).toList:=by simp
  rw [hl1] at hst
  obtain ⟨g1,g2,g3⟩:=hst.split.freeze
  have hheap : (w.drew.alloc (.cells ((⟨xs⟩ : Array Value)++(⟨bs.map byteV⟩ : Array Value)++Builtin.zeroCells ei.zero.cells (nc - (s.len + bs.length))) e)).heap[w.drew.heap.size]? = some (.cells ((⟨xs⟩ : Array Value)++(⟨bs.map byteV⟩ : Array Value)++Builtin.zeroCells ei.zero.cells (nc - (s.len + bs.length))) e (0,0)):=heap_alloc_at _ _
  obtain ⟨f1,f2,f3⟩:=g3.typed hheap
  have g2:=g2.mono f1
  have g1:=Mem.le_trans g1 f1
  have g4:=f3.toRoom
  have hxl : (xs++bs.map byteV).length=(s.len + bs.length) * ei.size:=by rw [List.length_append,hx.1,hylen,Nat.add_mul]
  refine ⟨⟨some ⟨w.heap.size,0,none⟩,s.len + bs.length,nc⟩,_,w.drew.alloc (.cells ((⟨xs⟩ : Array Value)++(⟨bs.map byteV⟩ : Array Value)++Builtin.zeroCells ei.zero.cells (nc - (s.len + bs.length))) e), ?_,g1, ?_, .inr ⟨_,_,rfl⟩,rfl,hge, .inr ⟨_,_,rfl,g2⟩,fun b' o' q => ?_,fun e0=>absurd (show s.len + bs.length ≤ s.cap by rw [e0];simpa using hcap) hroom⟩
  ·simp only [Sl.v] at hold
   have hb0 : ei.bytes ≠ 0:=by omega
   have hmax : ¬ (9223372036854775807 < (s.len : Int) + (bs.length : Int)):=by omega
   simp [Builtin.append_,run_underlying hu,run_underlying hu2,sizeOf,typeInfo,zeroValue,q1,q3,q4,q5,Builtin.lenOf,hsize,hroom,hold,hnew',h48,hmax,Question.forced,newRow,← hnc,IntKind.max,IntKind.signed,IntKind.bits,hb0]
   congr 2
   apply Array.ext'
   simp
  ·have e1 : Item.room w.heap.size (0 + (xs++bs.map byteV).length) (Builtin.zeroCells ei.zero.cells (nc - (s.len + bs.length))).toList.length=tok ⟨some ⟨w.heap.size,0,none⟩,s.len + bs.length,nc⟩ ei.size:=by
    simp only [tok,hxl,Array.length_toList,size_zeroCells,hzs]
   rw [← e1]
   have hsub : (Item.room w.heap.size (0 + (xs++bs.map byteV).length) (Builtin.zeroCells ei.zero.cells (nc - (s.len + bs.length))).toList.length :: L.eraseIdx i).Sublist (Item.room w.heap.size (0 + (xs++bs.map byteV).length) (Builtin.zeroCells ei.zero.cells (nc - (s.len + bs.length))).toList.length :: L) :=
    List.Sublist.cons_cons _ (List.eraseIdx_sublist L i)
   exact St.back hi (g4.sub hsub)
  ·simp only [Option.some.injEq,Addr.mk.injEq,and_true] at q
   obtain ⟨rfl,rfl⟩:=q
   refine ⟨rfl,f2.trans ?_,by rw [g1.pin];exact hw.size⟩
   congr 2
   rw [Array.size_append,Array.size_append,size_zeroCells,hzs]
   have h1 : (⟨xs⟩ : Array Value).size=xs.length:=rfl
   have h2 : (⟨bs.map byteV⟩ : Array Value).size=(bs.map byteV).length:=rfl
   rw [h1,h2,hx.1,hylen,← Nat.add_mul,← Nat.add_mul]
   congr 1
   show s.len + bs.length + (nc - (s.len + bs.length))=nc
   omega
theorem OT.appendST (T : Tab P) (i : Nat) {s : Sl} {l bs : List UInt8} {x y : Operand} {t t2 e : TypeId} {ei : TI} {d : Nat} (hs : SlRep rByte m s l) (hown : Own s)
  (ho : o.op = .call ⟨.builtin .append,⟨[x,y]⟩,⟨[t,t2]⟩⟩) (hd : o.dst=some d) (hN : Nat.blt d N=true) (hx : ev ρ x=some s.v) (hy : ev ρ y=some (strV bs)) (he : T.elem t=some (e,ei)) (h1 : Nat.beq ei.size 1=true) (hb : Nat.beq ei.bytes 1=true) (hz : (cellsF ei.zero).map List.length=some 1) (ht2 : T.isStr t2=true)
  (hi : L[i]? = some (tok s 1)) (hfit : l.length + bs.length ≤ 140737488355328) (hTy : ∀ b o,s.a=some ⟨b,o,none⟩ → o=0∧m.t b=some (e,s.cap)∧m.pin.heap.size ≤ b)
  (hK : ∀ s' m',m ≤ m' → SlRep rByte m' s' (l++bs)→Own s' → (∀ b o,s'.a=some ⟨b,o,none⟩ → o=0∧m'.t b=some (e,s'.cap)∧m'.pin.heap.size ≤ b)→(bs=[]→s' = s)→K ((d,s'.v) :: ρ) m' (L.set i (tok s' 1))) : OT P N o ρ D m L Q K:=by
 have e1 : ei.size=1:=Nat.eq_of_beq_eq_true h1
 have e2 : ei.bytes=1:=Nat.eq_of_beq_eq_true hb
 have e3 : ei.zero.cells.size=ei.size:=by
  cases hc : cellsF ei.zero with
  | none=>rw [hc] at hz;cases hz
  | some l=>rw [hc] at hz;rw [cellsF_eq hc,e1];simpa using hz
 intro a w ha
 obtain ⟨hl,g1,g2,g3,g4⟩:=hs.src ha.st
 have hh:=byte_all2 g1
 subst hh
 rw [encs_byte] at g2 g4
 obtain ⟨s',m',w',hr,k1,k2,k3,k4,k5,k6,k7,k8⟩:=run_appendST (P:=P) (ty:=o.type) (bs:=bs) T he ht2 ha.st (by rw [e1];exact hi) hown (by rw [e1];exact g2) e1 e3 hs.cap (by omega) (by rw [e2,hs.len];omega) g4 (by rw [e1];simpa using hTy)
 have hex : (execOp a.eval o).run P w = .ok (.value s'.v) w':=by
  simp only [execOp,ho,resolve,invoke,builtin,Sem.run_bind,Sem.run_pure,Result.andThen_ok,List.map_toArray,List.map_cons,List.map_nil,ha.env.eval hx,ha.env.eval hy]
  simp only [List.map_toArray,List.map_cons,List.map_nil,ha.env.eval hx,ha.env.eval hy,hr,Result.andThen_ok]
 have hrep : SlRep rByte m' s' (hl++bs):=by
  refine ⟨by rw [k4,hs.len];simp,k5,by show s'.len * 1 ≤ _;rw [k4,hs.len];omega,hl++bs,byte_refl _, ?_⟩
  rcases k6 with ⟨f1,f2,f3⟩ | ⟨b,off,f1,f2⟩
  ·left
   have f2 : hl++bs=[]:=by
    have:=congrArg List.length f2
    exact List.eq_nil_of_length_eq_zero (by simpa using this)
   exact ⟨f2,fun _=>f3⟩
  ·right
   exact ⟨b,off,f1,by rw [encs_byte,List.map_append];exact f2⟩
 simp only [Oper.wp,hex,Oper.upon,hd]
 have hp:=ha.put hN s'.v
 rw [e1] at k2
 exact ⟨_,_,_,⟨hp.size,hp.env,hp.defers,k2⟩,hK s' m' k1 hrep k3 (by rw [e1] at k7;simpa using k7) k8⟩
end
end Go.Sep
set_option linter.unusedVariables false
set_option linter.unusedSimpArgs false
namespace Go.Sep
open Go.Proofs
attribute [local irreducible] TC TO OT TCallX TCall DO DOt thenQ blockQ retQ At
def TyB (m : Mem) (bd : Nat) : Prop := ∃ T,m.t bd=some (T,2)∧liesAt Tryz.prog Tryz.prog.depth T (2 / Tryz.prog.cellsOf T) 0 92 1=true
theorem TyB.mono {m m' : Mem} {bd : Nat} (h : TyB m bd) (hm : m ≤ m') : TyB m' bd:=by
 obtain ⟨T,h1,h2⟩:=h
 exact ⟨T,hm.t _ _ h1,h2⟩
structure BOk (m : Mem) (bd : Nat) (q : Option Addr) (s : Sl) (l : Str) : Prop where
 ty : TyB m bd
 q : q=none ∨ q=some ⟨bd,0,none⟩
 sl : SlRep rByte m s l
 own : Own s
 row : ∀ b o,s.a=some ⟨b,o,none⟩ → o=0∧m.t b=some (5,s.cap)∧m.pin.heap.size ≤ b
 none : l=[]→s = ⟨none,0,0⟩
theorem BOk.mono {m m' : Mem} {bd : Nat} {q : Option Addr} {s : Sl} {l : Str} (h : BOk m bd q s l) (hm : m ≤ m') : BOk m' bd q s l :=
 ⟨h.ty.mono hm,h.q,h.sl.mono hm,h.own,fun b o e=>by obtain ⟨h1,h2,h3⟩:=h.row b o e;exact ⟨h1,hm.t _ _ h2,by rw [hm.pin];exact h3⟩,h.none⟩
set_option maxHeartbeats 800000 in
theorem copyCheck_law (m : Mem) (L : List Item) (bd : Nat) (q : Option Addr) (v : Value) (hv : ∃ a n c,v = .slice a n c) (ht : TyB m bd) (hq : q=none ∨ q=some ⟨bd,0,none⟩) :
  TCall Tryz.prog 84 ⟨[.pointer (some ⟨bd,0,none⟩)]⟩ m (.cells bd 0 [.pointer q,v] :: L) (fun _ m' L'=>m' = m∧L' = .cells bd 0 [.pointer (some ⟨bd,0,none⟩),v] :: L):=by
 obtain ⟨a,n,c,rfl⟩:=hv
 obtain ⟨T,ht,hlies⟩:=ht
 unfold TCall
 refine TCallX.enter Tryz.func84 rfl 20 rfl ?_
 refine uA ?_
 refine uM ?_
 refine TO.step rfl (OT.ptrNil tab rfl rfl rfl rfl rfl (e:=92) rfl ?_)
 rcases hq with rfl | rfl
 ·refine uA ?_
  refine TO.step rfl (OT.toUnsafeE tab (e:=92) rfl rfl rfl rfl rfl rfl rfl ht (by decide) ?_)
  refine uA ?_
  refine TO.step rfl (OT.callX (E:=Extern.AbiNoEscape.same) (vs:=[.pointer (some ⟨bd,0,none⟩)]) (v := .pointer (some ⟨bd,0,none⟩)) rfl rfl rfl rfl rfl Tryz.func145 (by kernel_rfl) (by kernel_rfl) (by kernel_rfl) (by kernel_rfl) (fun w _=>rfl) ?_)
  refine uA ?_
  refine TO.step rfl (OT.fromUnsafeE tab (e:=92) rfl rfl rfl rfl rfl rfl ht hlies rfl ?_)
  refine uA ?_
  refine uT ?_
  refine uA ?_
  refine retQ_n rfl (List.Sublist.refl _) ⟨rfl,rfl⟩
 ·refine uA ?_
  refine uM ?_
  refine uA ?_
  refine TO.step rfl (OT.ptrSame tab (e:=92) rfl rfl rfl rfl rfl rfl rfl ?_)
  refine uA ?_
  refine retQ_n rfl (List.Sublist.refl _) ⟨rfl,rfl⟩
set_option maxHeartbeats 800000 in
theorem string_law (m : Mem) (L : List Item) (bd : Nat) (q : Option Addr) (s : Sl) (l : Str) (hB : BOk m bd q s l) :
  TCall Tryz.prog 47 ⟨[.pointer (some ⟨bd,0,none⟩)]⟩ m (.cells bd 0 [.pointer q,s.v] :: tok s 1 :: L) (Ret (strV l) m L):=by
 have hlen:=hB.sl.len
 have hcap:=hB.sl.cap
 have hfit : s.len * 1 ≤ 140737488355328:=hB.sl.fit
 unfold TCall
 refine TCallX.enter Tryz.func47 rfl 14 rfl ?_
 refine uA ?_
 by_cases hl : l=[]
 ·have h0:=hB.none hl
  subst h0
  refine TC.draw0 [] mixed 12 rfl ?_
  refine DO.pure tab uC (by kernel_rfl) [0,1,2] (by kernel_rfl) rfl ?_
  (refine DO.loadL tab 3 0 uC (by kernel_rfl) (by kernel_rfl) rfl rfl rfl rfl rfl rfl rfl rfl ?_)
  refine DO.pure tab uC (by kernel_rfl) [5,6,7] (by kernel_rfl) rfl ?_
  (refine DO.loadL tab 8 0 uC (by kernel_rfl) (by kernel_rfl) rfl rfl rfl rfl rfl rfl rfl rfl ?_)
  refine DO.pure tab uC (by kernel_rfl) [9] (by kernel_rfl) rfl ?_
  refine DO.run 4 rfl rfl (by kernel_rfl) rfl ?_
  refine OT.sliceData rfl rfl rfl rfl (.inl rfl) ?_;refine ⟨Mem.le_refl _,_,List.Perm.refl _, ?_⟩
  refine DO.run 10 rfl rfl (by kernel_rfl) rfl ?_
  refine OT.unsafeStr0 rfl rfl rfl rfl rfl ?_;refine ⟨Mem.le_refl _,_,List.Perm.refl _, ?_⟩
  refine DO.pure tab uC (by kernel_rfl) [11] (by kernel_rfl) rfl ?_
  (refine DO.nil0 (by kernel_rfl) ?_)
  rotate_left 1
  refine uA ?_
  refine retQ_ret rfl uS ⟨rfl,rfl, ?_⟩
  rw [hl]
 ·obtain ⟨hs,k1,k2⟩:=hB.sl.cells
  have hpos : 0 < l.length:=List.length_pos_iff.2 hl
  rcases k2 with ⟨k2,_⟩ | ⟨b,o,k2,k3⟩
  ·exact absurd k2 hl
  obtain ⟨g1,g2,g3⟩:=hB.row b o k2
  subst g1
  have he:=byte_all2 k1
  subst he
  rw [encs_byte] at k3
  obtain ⟨sa,sn,sc⟩:=s
  simp only at k2 hlen hcap hfit g2
  subst k2
  refine TC.draw [] mixed 12 rfl [_] (tok ⟨some ⟨b,0,none⟩,sn,sc⟩ 1 :: L) uP ?_
  refine DO.pure tab uC (by kernel_rfl) [0,1,2] (by kernel_rfl) rfl ?_
  (refine DO.loadL tab 3 0 uC (by kernel_rfl) (by kernel_rfl) rfl rfl rfl rfl rfl rfl rfl rfl ?_)
  refine DO.pure tab uC (by kernel_rfl) [5,6,7] (by kernel_rfl) rfl ?_
  (refine DO.loadL tab 8 0 uC (by kernel_rfl) (by kernel_rfl) rfl rfl rfl rfl rfl rfl rfl rfl ?_)
  refine DO.pure tab uC (by kernel_rfl) [9] (by kernel_rfl) rfl ?_
  refine DO.run 4 rfl rfl (by kernel_rfl) rfl ?_
  refine OT.sliceData rfl rfl rfl rfl (.inr (show sc ≠ 0 by omega)) ?_;refine ⟨Mem.le_refl _,_,List.Perm.refl _, ?_⟩
  refine DO.run 10 rfl rfl (by kernel_rfl) rfl ?_
  refine OT.perm pf1 (OT.unsafeStr tab (e:=5) (g:=b) (n:=sn) (c:=sc) rfl rfl rfl rfl rfl rfl (by kernel_rfl) k3 hlen.symm (by omega) hcap (by omega) g2 g3 ?_);refine ⟨Mem.le_refl _,L,List.Perm.refl _, ?_⟩
  refine DO.pure tab uC (by kernel_rfl) [11] (by kernel_rfl) rfl ?_
  (refine DO.nil (by kernel_rfl) ?_)
  rotate_left 1
  refine uA ?_
  refine retQ_ret rfl uS ⟨rfl,rfl, ?_⟩
  rfl
end Go.Sep
set_option linter.unusedVariables false
set_option linter.unusedSimpArgs false
namespace Go.Sep
open Go.Proofs
attribute [local irreducible] TC TO OT TCallX TCall DO DOt thenQ blockQ retQ At
@[reducible] def bdL (bd : Nat) (q : Option Addr) (s : Sl) (L : List Item) : List Item := .cells bd 0 [.pointer q,s.v] :: tok s 1 :: L
@[reducible] def bdV (bd : Nat) : Value := .pointer (some ⟨bd,0,none⟩)
def Wr (bd : Nat) (m : Mem) (L : List Item) (y : Str) : Value→Mem→List Item→Prop:=fun _ m' L'=>m ≤ m' ∧ ∃ s' q',L' = bdL bd q' s' L∧BOk m' bd q' s' y
set_option maxHeartbeats 800000 in
theorem writeString_law (m : Mem) (L : List Item) (bd : Nat) (q : Option Addr) (s : Sl) (l bs : Str) (hB : BOk m bd q s l) (hl : l.length + bs.length ≤ 140737488355328) :
  TCall Tryz.prog 46 ⟨[bdV bd,strV bs]⟩ m (bdL bd q s L) (Wr bd m L (l++bs)):=by
 unfold TCall
 refine TCallX.enter Tryz.func46 rfl 19 rfl ?_
 refine uA ?_
 refine TO.step rfl (OT.call rfl rfl rfl rfl rfl rfl goes84 ((copyCheck_law _ _ bd q s.v ⟨_,_,_,rfl⟩ hB.ty hB.q).x ?_));
 rintro _ _ _ ⟨rfl,rfl⟩
 refine uA ?_
 refine uM ?_
 refine uA ?_
 refine TO.step rfl (OT.appendST tab 1 hB.sl hB.own rfl rfl rfl rfl rfl rfl rfl rfl rfl rfl rfl (by omega) hB.row (fun s' m2 hm2 hs2 ho2 hr2 he2 => ?_))
 refine uA ?_
 refine uT ?_
 refine uA ?_
 refine retQ_ret rfl (List.Sublist.refl _) ⟨hm2,s',_,rfl,hB.ty.mono hm2, .inr rfl,hs2,ho2,hr2,fun e => ?_⟩
 obtain ⟨e1,e2⟩:=List.append_eq_nil_iff.1 e
 rw [he2 e2,hB.none e1]
end Go.Sep
set_option linter.unusedVariables false
set_option linter.unusedSimpArgs false
namespace Go.Sep
open Go.Proofs
attribute [local irreducible] TC TO OT TCallX TCall DO DOt thenQ blockQ retQ At
def Wide (l : List Ch) : Prop := ∀ x ∈ l,x.nm.length ≤ 140737488355328∧x.tx.length ≤ 140737488355328
theorem all2_refl {m : Mem} : ∀ l : List Ch,All2 (rCh.rep m) l l
 | []=>trivial
 | x :: l=>⟨rfl,all2_refl l⟩
theorem sort_law (m : Mem) (L : List Item) (s : Sl) (l : List Ch) (ho : Own0 s) (hlen : s.len=l.length) (hb : l.length ≤ 64) :
  TCall Tryz.prog 42 ⟨[s.v,chF]⟩ m (bufI s (encs rCh l) :: L) (fun r m' L'=>m=m' ∧ ∃ ys,ys.Perm l∧Sn ltC ys 0 ys.length∧bufI s (encs rCh ys) :: L=L'):=by
 by_cases h0 : l=[]
 ·subst h0
  obtain ⟨a,n,c⟩:=s
  simp only [List.length_nil] at hlen
  subst hlen
  exact (sort0_law m _ a c).mono (fun r m' L' h=>⟨h.1,[], .refl _,fun i j _ _ h=>by simp at h,h.2⟩)
 ·have hpos : 0 < l.length:=List.length_pos_iff.2 h0
  obtain ⟨a,n,c⟩:=s
  simp only at hlen
  subst hlen
  rcases ho with h | ⟨b,h⟩
  ·simp only [Sl.mk.injEq] at h;omega
  ·simp only at h
   subst h
   exact sortfunc_ch m L b c l (DomC.all l) (by omega) hpos
theorem lenB_law (m : Mem) (L : List Item) (i bd : Nat) (q : Option Addr) (s : Sl) (hi : L[i]? = some (.cells bd 0 [.pointer q,s.v])) : TCall Tryz.prog 45 ⟨[bdV bd]⟩ m L (Ret (.int .i64 (s.len : Int)) m L):=by
 unfold TCall
 refine TCallX.enter Tryz.func45 rfl 8 rfl ?_
 refine uA ?_
 refine TO.step rfl (OT.loadL (k:=1) tab i rfl rfl rfl rfl hi rfl ?_)
 refine uA ?_
 refine retQ_ret rfl uS ⟨rfl,rfl, ?_⟩
 rfl
theorem pb1 {α : Type} {a c d : α} {l : List α} : (a :: a :: c :: d :: l).Perm (c :: a :: d :: a :: l):=by classical exact List.perm_iff_count.2 (fun x=>by simp only [List.count_cons];omega)
theorem pb3 {α : Type} {a b c d e : α} {l : List α} : (a :: b :: c :: d :: e :: l).Perm (c :: d :: b :: a :: e :: l):=by classical exact List.perm_iff_count.2 (fun x=>by simp only [List.count_cons];omega)
structure OpS where
 m : Mem
 q : Option Addr
 sl : Sl
 sb : Sl
 k : Nat
def OpenR (l : List Ch) (r : Value) (m : Mem) : Prop :=
 (errD l ≠ 0∧r = .tuple ⟨[.pointer none, .int .i64 (errD l)]⟩) ∨
 (errD l=0 ∧ ∃ (b : Nat) (sf sb : Sl),r = .tuple ⟨[.pointer (some ⟨b,0,none⟩), .int .i64 0]⟩ ∧ At m b 0 [sf.v,sb.v,strV (joinD (ordF l))]∧SlRep rCh m sf (ordF l)∧SlRep rInt m sb (begD (ordF l)))
theorem OpenR.err {l : List Ch} {m : Mem} {r : Value} {e : Int} (h : errD l=e) (h0 : e ≠ 0) (hr : r = .tuple ⟨[.pointer none, .int .i64 e]⟩) : OpenR l r m := .inl ⟨by rw [h];exact h0,by rw [h];exact hr⟩
theorem BOk.cast' {m : Mem} {bd : Nat} {q : Option Addr} {s : Sl} {x y : Str} (h : BOk m bd q s x) (e : x=y) : BOk m bd q s y:=e ▸ h
set_option maxHeartbeats 4000000 in
theorem open_law (s : Sl) (l : List Ch) (m : Mem) (L : List Item) (hs : SlRep rCh m s l) (hw : Wide l) : TCall Tryz.prog 23 ⟨[s.v]⟩ m L (Made m L fun r m'=>OpenR l r m'):=by
 have hl:=hs.len
 have hsm:=hs.small rfl
 unfold TCall
 refine TCallX.enter Tryz.func23 rfl 89 rfl ?_
 refine uA ?_
 refine TC.condP rfl (fun h64 => ?_) (fun h64 => ?_)
 ·refine uA ?_
  refine retQ_ret rfl (L':=L) uS ⟨Mem.le_refl _,rfl,OpenR.err (e:=4) (by rw [errD,if_pos (by omega)]) (by decide) rfl⟩
 ·have e64 : ¬ 64 < l.length:=by omega
  refine uA ?_
  refine TO.step rfl (OT.call rfl rfl rfl rfl rfl rfl goes38 ((containsFunc_file m L s l (fun x => !isName x.nm) 39 goes39 hs (fun a ha=>badName_law m L a (hw a ha).1)).x ?_));
  rintro _ _ _ ⟨rfl,rfl,rfl⟩
  refine uA ?_
  refine TC.cond rfl (fun hb => ?_) (fun hb => ?_)
  ·refine uA ?_
   refine retQ_ret rfl (L':=L) uS ⟨Mem.le_refl _,rfl,OpenR.err (e:=1) (by rw [errD,if_neg e64,if_pos hb]) (by decide) rfl⟩
  ·refine uA ?_
   refine TO.step rfl (OT.call rfl rfl rfl rfl rfl rfl goes41 ((cloneC_law s l m L hs).x ?_));
   rintro _ m1 _ ⟨hm1,s1,rfl,ho1,hl1,hc1,rfl⟩
   refine uA ?_
   refine TO.step rfl (OT.box rfl rfl rfl rfl rfl (fun bb => ?_))
   refine uA ?_
   refine uM ?_
   refine uA ?_
   refine TO.perm pf1 ?_
   refine TO.step rfl (OT.call rfl rfl rfl rfl rfl rfl goes42 ((sort_law m1 _ s1 l ho1 hl1 (by omega)).x ?_));
   rintro _ _ _ ⟨rfl,ys,hp,hsn,rfl⟩
   have hyl : ys.length=l.length:=hp.length_eq
   refine TO.freezeB rCh ho1 (by omega) hc1 (all2_refl ys) (by show _ * 32 ≤ _;omega) (fun m2 hm2 hs2 => ?_)
   refine uA ?_
   refine TO.step rfl (OT.allocT tab rfl rfl rfl rfl (fun bt m4 hm4 ht4 => ?_))
   refine uA ?_
   have hs4:=hs2.mono hm4
   have hB0 : BOk m4 bt none ⟨none,0,0⟩ []:=⟨⟨_,ht4,by kernel_rfl⟩, .inl rfl,SlRep.nil _ _,Own.nil,fun b o e=>(by cases e),fun _=>rfl⟩
   have hm04 : m ≤ m4:=Mem.le_trans hm1 (Mem.le_trans hm2 hm4)
   refine uM ?_
   refine uA ?_
   refine TC.loopK (ι:=Nat) [4,5,6,28,29] rfl (fun k=>[(30, .int .i64 (k : Int))]) (fun _=>m4) (fun _ => .cells bt 0 [.pointer none, .slice none 0 0] :: .cells bb 0 [s1.v, .slice none 0 0,strV []] :: L) (fun k=>k ≤ ys.length ∧ ∀ i,0 < i→i < k→(gk ys i).nm ≠ (gk ys (i - 1)).nm) (fun k=>ys.length - k) 0 uH rfl uS ⟨Nat.zero_le _,fun i _ h=>by omega⟩ ?_
   rintro k ⟨hk,hI⟩
   refine uA ?_
   refine TC.condP rfl (fun h5 => ?_) (fun h5 => ?_)
   ·have hlt : k < ys.length:=by omega
    have hx : ys[k]? = some (gk ys k):=gk_get hlt
    have hx1 : ys[k - 1]? = some (gk ys (k - 1)):=gk_get (by omega)
    refine uA ?_
    refine TO.step rfl (OT.index tab rCh k hs4 rfl rfl rfl rfl rfl (by first | rfl | omega | (simp only;omega)) rfl hx ?_)
    rintro b i hd hr hA
    obtain rfl : hd=gk ys k:=hr
    (refine TO.step rfl (OT.loadA0 tab hA rfl rfl rfl rfl rfl ?_))
    refine uA ?_
    refine TO.step rfl (OT.alloc tab rfl rfl rfl rfl (fun bf => ?_))
    refine uA ?_
    refine uT ?_
    refine uA ?_
    refine TC.draw [] mixed 16 rfl [.cells bf 0 [strV (gk ys k).nm,strV (gk ys k).tx], .cells bt 0 [.pointer none, .slice none 0 0], .cells bb 0 [s1.v, .slice none 0 0,strV []]] L uP ?_
    refine DO.pure tab uC (by kernel_rfl) [0,1,2] (by kernel_rfl) rfl ?_
    (refine DO.splitP (d:=37) rfl (fun hg2 => ?_) (fun hg2 => ?_))
    refine DO.pure tab uC (by kernel_rfl) [3] (by kernel_rfl) rfl ?_
    (refine DO.loadL tab 4 0 uC (by kernel_rfl) (by kernel_rfl) rfl rfl rfl rfl rfl rfl rfl rfl ?_)
    refine DO.pure tab uC (by kernel_rfl) [5,6,7] (by kernel_rfl) rfl ?_
    (refine DO.loadL tab 8 2 uC (by kernel_rfl) (by kernel_rfl) rfl rfl rfl rfl rfl rfl rfl rfl ?_)
    refine DO.pure tab uC (by kernel_rfl) [9] (by kernel_rfl) rfl ?_
    refine DO.arith 10 (r':=((k - 1 : Nat) : Int)) uC (by kernel_rfl) (by kernel_rfl) rfl rfl rfl rfl rfl rfl rfl rfl (by first | rfl | omega | (simp only;omega)) (by omega) ?_
    refine DO.index tab rCh 11 (k-1) hs4 uC (by kernel_rfl) (by kernel_rfl) rfl rfl rfl rfl rfl rfl rfl (by first | rfl | omega) rfl hx1 ?_
    rintro b1 i1 f1 r1 hA1;obtain rfl : f1=gk ys (k - 1):=r1
    refine DO.pure tab uC (by kernel_rfl) [12] (by kernel_rfl) rfl ?_
    (refine DO.loadA tab 13 hA1 uC (by kernel_rfl) (by kernel_rfl) rfl rfl rfl rfl rfl rfl rfl ?_)
    refine DO.pure tab uC (by kernel_rfl) [14,15] (by kernel_rfl) rfl ?_
    (refine DO.nil (by kernel_rfl) ?_)
    rotate_left 1
    refine DO.pure tab uC (by kernel_rfl) [3,4,5,6,7,8,9,10,11,12,13,14,15] (by kernel_rfl) rfl ?_
    (refine DO.nil (by kernel_rfl) ?_)
    rotate_left 1
    ·refine uA ?_
     refine TC.condP rfl (fun hq => ?_) (fun hq => ?_)
     ·refine uA ?_
      refine retQ_ret rfl (L':=L) uS ⟨hm04,rfl,OpenR.err (e:=5) (by rw [errD,if_neg e64,if_neg (by simpa using hb),if_pos (not_nam hp (by omega) hlt hq)]) (by decide) rfl⟩
     ·refine uA ?_
      refine TO.step rfl (OT.arith (r':=((k + 1 : Nat) : Int)) rfl rfl rfl rfl rfl rfl rfl (by omega) ?_)
      refine uA ?_
      exact ⟨k + 1,uH,uH,rfl,rfl,uS,⟨hlt,fun i h0 hi=>by
       by_cases e : i=k
       ·subst e;exact hq
       ·exact hI i h0 (by omega)⟩,by omega⟩
    ·refine uA ?_
     refine TO.step rfl (OT.arith (r':=((k + 1 : Nat) : Int)) rfl rfl rfl rfl rfl rfl rfl (by omega) ?_)
     refine uA ?_
     exact ⟨k + 1,uH,uH,rfl,rfl,uS,⟨hlt,fun i h0 hi=>hI i h0 (by omega)⟩,by omega⟩
   ·have hke : k=ys.length:=by omega
    subst hke
    have hso:=sorted_of hsn hI
    have hnam : Nam l:=(Nam.perm hp).1 hso.nam
    have hord:=sorted_ord hp hso
    have hsum:=sumD_perm hp
    have hwy : ∀ i,i < ys.length→(gk ys i).tx.length ≤ 140737488355328:=fun i hi=>(hw _ (hp.mem_iff.1 (List.mem_of_getElem? (gk_get hi)))).2
    refine uA ?_
    refine uM ?_
    refine uA ?_
    refine TC.grow0 (size:=1) ?_
    refine TC.grow0 (size:=1) ?_
    refine TC.perm pb1 ?_
    refine TC.loopK (ι:=OpS) [4,6,55,56] rfl (fun x=>[(57, .int .i64 (x.k : Int)),(5, .int .i64 (65536 - (sumD (ys.take x.k) : Int)))]) (fun x=>x.m) (fun x=>bdL bt x.q x.sl (.cells bb 0 [s1.v,x.sb.v,strV []] :: tok x.sb 1 :: L)) (fun x=>m4 ≤ x.m∧x.k ≤ ys.length∧BOk x.m bt x.q x.sl (joinD (ys.take x.k))∧SlRep rInt x.m x.sb (begT ys x.k)∧Own x.sb∧sumD (ys.take x.k) ≤ 65536) (fun x=>ys.length - x.k) ⟨m4,none,⟨none,0,0⟩,⟨none,0,0⟩,0⟩ uH rfl uS ⟨Mem.le_refl _,Nat.zero_le _,hB0,SlRep.nil _ _,Own.nil,Nat.zero_le _⟩ ?_
    rintro ⟨m5,q,sl,sb,k⟩ ⟨hm5,hk,hB,hsb,hob,hsu⟩
    simp only at hm5 hk hB hsb hob hsu
    show TC _ _ _ ((57, .int .i64 (k : Int)) :: (5, .int .i64 (65536 - (sumD (ys.take k) : Int))) :: _) _ m5 (bdL bt q sl (.cells bb 0 [s1.v,sb.v,strV []] :: tok sb 1 :: L)) _
    have hs5:=hs4.mono hm5
    have hsu2:=sumD_le ys k
    refine uA ?_
    refine TC.condP rfl (fun h6 => ?_) (fun h6 => ?_)
    ·have hlt : k < ys.length:=by omega
     have hx : ys[k]? = some (gk ys k):=gk_get hlt
     have hnx:=sumD_next hlt
     have hjx:=joinD_next hlt
     have hwk:=hwy k hlt
     refine uA ?_
     refine TO.step rfl (OT.index tab rCh k hs5 rfl rfl rfl rfl rfl (by first | rfl | omega | (simp only;omega)) rfl hx ?_)
     rintro b i hd hr hA
     obtain rfl : hd=gk ys k:=hr
     (refine TO.step rfl (OT.loadA0 tab hA rfl rfl rfl rfl rfl ?_))
     refine uA ?_
     refine TO.step rfl (OT.alloc tab rfl rfl rfl rfl (fun bf => ?_))
     refine uA ?_
     refine uT ?_
     refine uA ?_
     refine uM ?_
     refine uA ?_
     refine TO.step rfl (OT.arith (r':=(((gk ys k).tx.length + 1 : Nat) : Int)) rfl rfl rfl rfl rfl rfl rfl (by omega) ?_)
     refine uA ?_
     refine TO.step rfl (OT.arith (r':=65536 - (sumD (ys.take (k + 1)) : Int)) rfl rfl rfl rfl rfl rfl (by rw [hnx];omega) (by omega) ?_)
     refine uA ?_
     refine TC.condP rfl (fun h7 => ?_) (fun h7 => ?_)
     ·have hbig : 65536 < sumD l:=by have:=sumD_le ys (k + 1);omega
      refine uA ?_
      refine retQ_ret rfl (L':=L) uS ⟨Mem.le_trans hm04 hm5,rfl,OpenR.err (e:=13) (by rw [errD,if_neg e64,if_neg (by simpa using hb),if_neg (by simpa using hnam),if_pos hbig]) (by decide) rfl⟩
     ·refine uA ?_
      have hlenB : ((sl.len : Nat) : Int)=((sumD (ys.take k) : Nat) : Int):=by rw [hB.sl.len,joinD_len]
      refine TC.draw [10] mixed 11 rfl [.cells bb 0 [s1.v,sb.v,strV []]] (.cells bf 0 [strV (gk ys k).nm,strV (gk ys k).tx] :: .cells bt 0 [.pointer q,sl.v] :: tok sl 1 :: tok sb 1 :: L) pf3 ?_
      refine DO.pure tab uC (by kernel_rfl) [0,1,2,3] (by kernel_rfl) rfl ?_
      (refine DO.loadL tab 4 0 uC (by kernel_rfl) (by kernel_rfl) rfl rfl rfl rfl rfl rfl rfl rfl ?_)
      refine DO.run 5 rfl rfl (by kernel_rfl) rfl (OT.call rfl rfl rfl rfl rfl rfl goes45 ((lenB_law _ _ 2 bt q sl rfl).x ?_))
      rintro _ _ _ ⟨rfl,rfl,rfl⟩;refine ⟨Mem.le_refl _,_,List.Perm.refl _, ?_⟩
      refine DO.run 6 rfl rfl (by kernel_rfl) rfl ?_
      refine OT.litR tab rInt (hs:=[((sl.len : Nat) : Int)]) (l:=[((sumD (ys.take k) : Nat) : Int)]) ⟨hlenB,trivial⟩ rfl rfl rfl rfl rfl (by decide) (fun sB mB hleB hsB hoB hcB => ?_);refine ⟨hleB,_,List.Perm.refl _, ?_⟩
      refine DO.run 7 rfl rfl (by kernel_rfl) rfl ?_
      refine OT.append tab rInt 4 (hsb.mono hleB) hob hsB rfl rfl rfl rfl rfl rfl rfl (by simp only [begT,List.length_map,List.length_range,List.length_cons,List.length_nil];show _ * 8 ≤ _;omega) (fun s3 mC hleC hs3 ho3 => ?_);refine ⟨hleC,_,List.Perm.refl _, ?_⟩
      refine DO.pure tab uC (by kernel_rfl) [8,9] (by kernel_rfl) rfl ?_
      refine DO.tail ?_
      refine DOt.run 10 rfl rfl (by kernel_rfl) rfl ?_
      refine OT.storeL (k:=1) tab 0 rfl rfl rfl rfl rfl rfl rfl rfl ?_
      refine DOt.nil (by kernel_rfl) ?_
      rotate_left 1
      refine thenQ_n ?_
      refine TC.perm (L := .cells bb 0 [s1.v,s3.v,strV []] :: .cells bf 0 [strV (gk ys k).nm,strV (gk ys k).tx] :: .cells bt 0 [.pointer q,sl.v] :: tok sl 1 :: tok s3 1 :: L) pb3 ?_
      have hmC:=Mem.le_trans hleB hleC
      have hjl : (joinD (ys.take k)).length=sumD (ys.take k):=joinD_len _
      refine uA ?_
      refine uM ?_
      refine uA ?_
      refine TO.step rfl (OT.concat rfl rfl rfl rfl rfl (by simp only [List.length_cons,List.length_nil];omega) ?_)
      refine uA ?_
      refine TO.step rfl (OT.call rfl rfl rfl rfl rfl rfl goes46 ((writeString_law mC _ bt q sl _ ((gk ys k).tx++[10]) (hB.mono hmC) (by simp only [List.length_append,List.length_cons,List.length_nil];omega)).x ?_));
      rintro _ m6 _ ⟨hm6,sl2,q2,rfl,hB2⟩
      refine uA ?_
      refine TO.step rfl (OT.arith (r':=((k + 1 : Nat) : Int)) rfl rfl rfl rfl rfl rfl rfl (by omega) ?_)
      refine uA ?_
      exact ⟨⟨m6,q2,sl2,s3,k + 1⟩,uH,uH,rfl,rfl,uS,⟨Mem.le_trans hm5 (Mem.le_trans hmC hm6),by show k + 1 ≤ _;omega,hB2.cast' hjx.symm,by show SlRep rInt m6 s3 (begT ys (k + 1));rw [begT_succ];exact hs3.mono hm6,ho3,by show sumD (ys.take (k + 1)) ≤ _;omega⟩,by show ys.length - (k + 1) < ys.length - k;omega⟩
    ·have hke : k=ys.length:=by omega
     subst hke
     rw [List.take_length] at hB hsu
     refine uA ?_
     refine TO.step rfl (OT.call rfl rfl rfl rfl rfl rfl goes47 ((string_law m5 _ bt q sl _ hB).x ?_));
     rintro _ _ _ ⟨rfl,rfl,rfl⟩
     refine uA ?_
     refine uT ?_
     refine TO.freezeAt 0 rfl (fun m7 hm7 hA7 => ?_)
     refine uA ?_
     refine retQ_ret rfl (L':=L) uS ⟨Mem.le_trans hm04 (Mem.le_trans hm5 hm7),rfl, .inr ⟨by rw [errD,if_neg e64,if_neg (by simpa using hb),if_neg (by simpa using hnam),if_neg (by omega)],bb,s1,sb,rfl, ?_, ?_, ?_⟩⟩
     ·rw [← hord];exact hA7
     ·rw [← hord];exact hs5.mono hm7
     ·rw [← hord];exact hsb.mono hm7
end Go.Sep
