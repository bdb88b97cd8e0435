/-
  Part 4 of the proof: library, walks and plain laws.
-/
import Derived.Recover
import Derived.Test.YthemafgjfddgbaaGreatDoorB3
set_option linter.unusedVariables false
set_option linter.unusedSimpArgs false
set_option maxHeartbeats 6400000
namespace Go.Sep
section
variable {P:Program} {N:Nat} {ρ:Env} {D:List Deferred} {m:Mem} {L:List Item} {Q:EPost} {full:List Oper} {o:Oper} {K:Env→Mem→List Item→Prop}
theorem OT.panic {x:Operand} {t:TypeId} {v:Value} (ho:o.op = .panic x) (hx:ev ρ x=some (.iface t v)) (hQ:Q (.panic [{ v:=.iface t v,recovered:=false }]) ρ D m L):OT P N o ρ D m L Q K:=by
 intro a w ha;have hr:(execOp a.eval o).run P w = .halt (.panic (.iface t v)) w:=by
  simp only[execOp,ho,ha.env.eval hx,Instr.panic,goPanic];rfl
 simp only[Oper.wp,hr,Oper.upon];exact⟨ρ,D,m,L,ha,hQ⟩
theorem TO.defer {l:List Oper} {F:Operand} {args:List Operand} {ats:Array TypeId} {fn:Fn} {cap:List Value} {vs:List Value}
  (hg:gv full ρ o=some true) (ho:o.op = .defer ⟨.value F,⟨args⟩,ats⟩) (hd:o.dst=none) (hF:ev ρ F=some (.func fn ⟨[]⟩ ⟨cap⟩)) (ha:evs ρ args=some vs)
  (hK:TO P N ⟨full⟩ l ρ ({ target:=.fn fn ⟨cap⟩,args:=⟨vs⟩ }::D) m L Q):TO P N ⟨full⟩ (o::l) ρ D m L Q:=by
 intro a w hok;have he:(execOp a.eval o).run P w = .ok (.defer { target:=.fn fn ⟨cap⟩,args:=⟨vs⟩ }) w:=by
  have e1:=hok.env.evals ha;simp only[execOp,ho,resolve,hok.env.eval hF,Deferred.ofValue,Sem.run_bind,Sem.run_pure,Result.andThen_ok]
  congr 2
  simp[e1]
 refine wpList_yes (gv_wanted hg hok.env) ?_;simp only[Oper.wp,he,Oper.upon,hd];exact hK { a with defers:={ target:=.fn fn ⟨cap⟩,args:=⟨vs⟩ }::a.defers } w ⟨hok.size,hok.env,by rw[hok.defers],hok.st⟩
def retD (P:Program) (fn:Func) (R:Ending→World→Prop):EPost
 | .normal,ρ,D,m,L | .ret,ρ,D,m,L=>∀ tmps w,(∀ i v,look ρ i=some v→tmps[i]? = some v)→St m w L→Leaves P fn tmps R D .returning w
 | .panic ch,ρ,D,m,L=>∀ tmps w,(∀ i v,look ρ i=some v→tmps[i]? = some v)→St m w L→Leaves P fn tmps R D (.panicking ch) w
 | _,_,_,_,_=>False
theorem calls_enterD {f:FuncId} {fn:Func} {c:Code} {vs:List Value} {w:World} {R:Ending→World→Prop}
  (hf:P.funcs[f]? = some fn) (hb:fn.body=some c) (N:Nat) (hN:Nat.ble N fn.ntmps=true) (hs:St m w L) (h:TC P N c (argEnv vs 0) [] m L (retD P fn R)):Calls P f ⟨vs⟩ w R:=by
 refine calls_of_wp_defers hf hb (wp_mono (h { tmps:=⟨vs⟩++Array.replicate (fn.ntmps-(⟨vs⟩:Array Value).size) undef,defers:=[] } w ⟨?_,?_,rfl,hs⟩) fun e a' w' hl=>?_)
 ·have:=Nat.le_of_ble_eq_true hN;simp;omega
 ·intro i v hv;have:=(look_argEnv vs 0 i v hv).2;simp only[Nat.sub_zero]at this;have hi:i<vs.length:=(List.getElem?_eq_some_iff.1 this).1;simp[Array.getElem?_append,hi];have h2:=(List.getElem?_eq_some_iff.1 this).2;exact h2
 ·obtain⟨ρ',D',m',L',h1,h2⟩:=hl;obtain⟨k1,k2,k3,k4⟩:=h1;cases e with
  | normal=>subst k3;exact h2 _ _ k2 k4
  | ret=>subst k3;exact h2 _ _ k2 k4
  | panic ch=>subst k3;exact h2 _ _ k2 k4
  | exit i=>exact h2.elim
  | goto l=>exact h2.elim
  | outgrown=>exact h2.elim
def recPair (cs:List Frame):Value×List Frame :=
 match recoverD cs with
 | some x=>x
 | none=>(.nilIface,cs)
theorem wpS_rec {o0 o1:Oper} {d0 d1 id:Nat} {QS:Exit→Act→List Frame→World→Prop} {a:Act} {cs:List Frame} {w:World} (h0:o0.op = .call ⟨.builtin .recover,⟨[]⟩,⟨[]⟩⟩) (hd0:o0.dst=some d0) (g0:o0.guard=none) (h1:o1.op = .assign (.tmp d0)) (hd1:o1.dst=some d1) (g1:o1.guard=none)
  (hsz:d0<a.tmps.size) (hQ:QS .normal ((a.put (some d0) (recPair cs).1).put (some d1) (recPair cs).1) (recPair cs).2 w):(Code.region id ⟨[o0,o1]⟩ false).wpS P QS a cs w:=by
 apply wpS_region;have hr:(execOp a.eval o0).run P w = .ok .recover w:=by
  simp[execOp,h0,resolve,invoke,go_sem]
 have e:List.range (⟨[o0,o1]⟩:Array Oper).size=[0,1]:=rfl;have w0:∀ y,Region.wanted o0 y=true:=fun y=>by simp[Region.wanted,g0]
 have w1:∀ y,Region.wanted o1 y=true:=fun y=>by simp[Region.wanted,g1]
 rw[e];have i0:(⟨[o0,o1]⟩:Array Oper)[0]? = some o0:=rfl;have i1:(⟨[o0,o1]⟩:Array Oper)[1]? = some o1:=rfl;have step1:∀(v:Value) (cs':List Frame),QS .normal ((a.put (some d0) v).put (some d1) v) cs' w→wpOpsS P ⟨[o0,o1]⟩ QS [1] (a.put (some d0) v) cs' w:=by
  intro v cs' hq;have hv:(a.put (some d0) v).eval (.tmp d0)=v:=by simp[Act.put,Act.eval,hsz]
  have hr1:(execOp (a.put (some d0) v).eval o1).run P w = .ok (.value v) w:=by simp[execOp,h1,hv]
  simp only[wpOpsS,i1,w1,if_true,hr1,Oper.upon,hd1];exact hq
 unfold recPair at hQ;unfold wpOpsS;simp only[i0,w0,if_true,hr,hd0];cases hc:recoverD cs with
 | none=>rw[hc]at hQ;exact step1 _ _ hQ
 | some x=>obtain⟨v,cs'⟩:=x;rw[hc]at hQ;exact step1 _ _ hQ
theorem wpS_TC {c:Code} {fn:Func} {R:Value→Mem→List Item→Prop} {a:Act} {w:World} {c₀:Frame} {cs:List Frame} {u:FrameMode} {RR:Ending→FrameMode→World→Prop} (h:TC P N c ρ [] m L (retQ P fn R fun _ _ _=>False)) (ha:Ok N ρ [] m L a w)
  (hR:∀ v m' L' w',R v m' L'→St m' w' L'→RR (.returned v) u w'):c.wpS P (bodyPostS P fn c₀ cs RR) a ({ c₀ with mode:=u }::cs) w:=by
 refine wpS_of_wp (wp_mono (h a w ha) fun e a' w' hl=>?_);obtain⟨ρ',D',m',L',h1,h2⟩:=hl;cases e with
 | normal =>
  exact gy
 | ret =>
  exact gy
 | panic ch=>obtain⟨_,_,_,hf⟩:=h2;exact hf.elim
 | exit i=>exact h2.elim
 | goto i=>exact h2.elim
 | outgrown=>exact h2.elim
end
def quietQ (K:Env→List Deferred→Mem→List Item→Prop):EPost
 | .normal,ρ,D,m,L=>K ρ D m L
 | _,_,_,_,_=>False
theorem Calm.quiet {K:Env→List Deferred→Mem→List Item→Prop}:Calm (quietQ K):=fun _ _ _ _ _ h=>h
theorem TC.quiet {P:Program} {N:Nat} {x y:Code} {ρ:Env} {D:List Deferred} {m:Mem} {L:List Item} {Q:EPost} (h:TC P N x ρ D m L (quietQ fun ρ D m L=>TC P N y ρ D m L Q)):TC P N (.seq x y) ρ D m L Q :=
 TC.seq (h.mono fun e ρ D m L hq=>by
  cases e with
  | normal=>exact cF hq
  | _=>exact hq.elim)
theorem invoke_goes {P:Program} {f:FuncId} {cap args:List Value} {w:World} (hg:Goes P f):(invoke (.fn (.func f) ⟨cap⟩) ⟨args⟩).run P w = .ok (.enter f ⟨args++cap⟩) w:=by
 simp only[invoke];rw[hg _ w]
 congr 2
 simp
end Go.Sep
namespace Go.Sep
variable {κ:Type} [DecidableEq κ]
section
variable {P:Program} {N:Nat} {ρ:Env} {D:List Deferred} {m:Mem} {L:List Item} {Q:EPost} {o:Oper} {full:List Oper} {K:Env→Mem→List Item→Prop}
theorem TC.freezeO {c:Code} {b:Nat} {x:Obj} (h:∀ m',m≤m'→m'.o b=some x→TC P N c ρ D m' L Q):TC P N c ρ D m (.obj b x::L) Q:=by
 intro a w ha;obtain⟨h1,h2,h3⟩:=ha.st.freezeObj;exact h _ h1 h2 a w ⟨ha.size,ha.env,ha.defers,h3⟩
theorem OT.lookupOkP (T:Tab P) (k:KeyK κ) {t kt vt:TypeId} {mp ky:Operand} {b c d:Nat} {es:Ents κ} (x:κ) {zi:TI} (ho:o.op = .lookup t mp ky true) (hd:o.dst=some d) (hN:Nat.blt d N=true)
  (hm:ev ρ mp=some (.map (some b))) (hk:ev ρ ky=some (k.v x)) (ht:T.mapT k t=some (kt,vt)) (hz:T.get vt=some zi) (hi:m.o b=some (mapO k es c))
  (hK:K ((d,.tuple ⟨[(mget es x).getD zi.zero,.bool (mhas es x)]⟩)::ρ) m L):OT P N o ρ D m L Q K:=by
 refine cN hd hN (fun a w ha=>⟨w,?_,ha.st⟩) hK;obtain⟨ti,ki,h1,h2,h3,h4⟩:=mapT_get ht;have hu:=T.run_underlying w h1;rw[h2]at hu;have huk:=T.run_underlying w h3;have hobj:w.heap[b]? = some (mapO k es c):=(ha.st.o _ _ hi).1;exact dO
theorem OT.lookupP (T:Tab P) (k:KeyK κ) {t kt vt:TypeId} {mp ky:Operand} {b c d:Nat} {es:Ents κ} (x:κ) {zi:TI} (ho:o.op = .lookup t mp ky false) (hd:o.dst=some d) (hN:Nat.blt d N=true)
  (hm:ev ρ mp=some (.map (some b))) (hk:ev ρ ky=some (k.v x)) (ht:T.mapT k t=some (kt,vt)) (hz:T.get vt=some zi) (hi:m.o b=some (mapO k es c))
  (hK:K ((d,(mget es x).getD zi.zero)::ρ) m L):OT P N o ρ D m L Q K:=by
 refine cN hd hN (fun a w ha=>⟨w,?_,ha.st⟩) hK;obtain⟨ti,ki,h1,h2,h3,h4⟩:=mapT_get ht;have hu:=T.run_underlying w h1;rw[h2]at hu;have huk:=T.run_underlying w h3;have hobj:w.heap[b]? = some (mapO k es c):=(ha.st.o _ _ hi).1;exact dO
theorem OT.mapLenP (T:Tab P) (k:KeyK κ) {t kt vt:TypeId} {mp:Operand} {b c d:Nat} {es:Ents κ} (ho:o.op = .call ⟨.builtin .len,⟨[mp]⟩,⟨[t]⟩⟩) (hd:o.dst=some d) (hN:Nat.blt d N=true)
  (hm:ev ρ mp=some (.map (some b))) (ht:T.mapT k t=some (kt,vt)) (hi:m.o b=some (mapO k es c))
  (hK:K ((d,.int .i64 (es.length:Int))::ρ) m L):OT P N o ρ D m L Q K:=by
 refine cN hd hN (fun a w ha=>⟨w,?_,ha.st⟩) hK;obtain⟨ti,ki,h1,h2,h3,h4⟩:=mapT_get ht;have hu:=T.run_underlying w h1;rw[h2]at hu;have hobj:w.heap[b]? = some (mapO k es c):=(ha.st.o _ _ hi).1;simp only[execOp,ho,resolve,Sem.run_bind,Sem.run_pure,Result.andThen_ok,invoke,builtin,List.map_toArray,bH,bI,ha.env.eval hm,Builtin.len_];simp[hu,run_getObj hobj rfl,mapO,goInt]
end
end Go.Sep
namespace Go.Sep
section
variable {P:Program} {N:Nat} {ρ:Env} {D:List Deferred} {m:Mem} {L:List Item} {Q:EPost} {o:Oper} {full:List Oper} {K:Env→Mem→List Item→Prop}
end
end Go.Sep
namespace Go.Sep
section
variable {P:Program} {N:Nat} {ρ:Env} {D:List Deferred} {m:Mem} {L:List Item} {Q:EPost} {full:List Oper} {o:Oper} {K:Env→Mem→List Item→Prop}
theorem OT.growNil (T:Tab P) {x y:Operand} {t t2 e:TypeId} {ei:TI} {kz:IntKind} {z:Nat} {iv:Int} {d:Nat} (hz0:0<z) (hiv:iv=(z:Int))
  (ho:o.op = .call ⟨.builtin .append,⟨[x,y]⟩,⟨[t,t2]⟩⟩) (hd:o.dst=some d) (hN:Nat.blt d N=true) (hx:ev ρ x=some (.slice none 0 0)) (hy:ev ρ y=some (.int .i64 iv)) (he:T.elem t=some (e,ei)) (ht2:T.intK t2=some kz)
  (hb:Nat.blt 0 ei.bytes=true) {sz:Nat} (hzs:(cellsF ei.zero).map List.length=some sz) (hsz:Nat.beq ei.size sz=true) (hfit:z*ei.bytes≤140737488355328)
  (hK:∀ b c,z≤c→K ((d,.slice (some ⟨b,0,none⟩) z c)::ρ) m (.room b 0 (c*sz)::L)):OT P N o ρ D m L Q K:=by
 obtain⟨ti,h4,h5,h6⟩:=elem_get he;obtain⟨si,s1,s2⟩:=intK_get ht2;obtain⟨_,_,hu,_⟩:=T.ok t ti h4;rw[h5]at hu;obtain⟨_,_,hu2,_⟩:=T.ok t2 si s1;rw[s2]at hu2;obtain⟨info,q1,q2,q3,q4,q5⟩:=T.ok e ei h6;have hbp:0<ei.bytes:=nX;have hs1:ei.size=sz:=Nat.eq_of_beq_eq_true hsz;subst hs1;have hbound:z≤140737488355328:=bG (Nat.le_mul_of_pos_right _ hbp) hfit;have hzc:ei.zero.cells.size=ei.size:=by
  cases hc:cellsF ei.zero with
  | none=>rw[hc]at hzs;cases hzs
  | some l=>rw[hc]at hzs;rw[cellsF_eq hc];simpa using hzs
 intro ac w ha;have h48:¬(Builtin.nextslicecap z 0*ei.bytes>281474976710656):=by
  have:=growslice_fits (need:=z) (old:=0) (bytes:=ei.bytes) mv hfit;omega
 obtain⟨nc,hnc,hge⟩:∃ nc,nc=(Question.appendCap z 0 e).cut (w.tape w.drawn (.appendCap z 0 e))∧z≤nc:=⟨_,rfl,by simp[Question.cut]⟩
 have hw:iv=((z:Nat):Int):=hiv;have hzb:¬((z:Int)*(ei.bytes:Int)>281474976710656):=by
  have h2:((z:Int)*(ei.bytes:Int))=((z*ei.bytes:Nat):Int):=mx;rw[h2];omega
 have hwrap:IntKind.i64.wrap (z:Int)=(z:Int):=wrap64_in mv mv;have hb0:ei.bytes≠0:=mv;have hmax:¬(9223372036854775807<(z:Int)):=mv;have hneg:¬((z:Int)<0):=mv;have hzn:¬(z=0):=mv;have hst:=ha.st.drew.allocCells (Builtin.zeroCells ei.zero.cells z++Builtin.zeroCells ei.zero.cells (nc-z)) e;have hr:(Builtin.append_ #[t,t2] o.type #[.slice none 0 0,.int .i64 iv]).run P w = .ok (.slice (some ⟨w.heap.size,0,none⟩) z nc) (w.drew.alloc (.cells (Builtin.zeroCells ei.zero.cells z++Builtin.zeroCells ei.zero.cells (nc-z)) e)):=by
  subst hw;simp[Builtin.append_,run_underlying hu,run_underlying hu2,sizeOf,typeInfo,zeroValue,q1,q3,q4,q5,asInt,asIntOf,hwrap,hneg,hzb,h48,hmax,hzn,Question.forced,newRow,←hnc,IntKind.max,IntKind.signed,IntKind.bits,hb0,Builtin.firstCells,Builtin.lenOf];intro h0;have:Builtin.zeroCells ei.zero.cells z = #[]:=Array.eq_empty_of_size_eq_zero (by rw[size_zeroCells,hzc];exact h0);rw[this,Array.empty_append]
 have he':(execOp ac.eval o).run P w = .ok (.value (.slice (some ⟨w.heap.size,0,none⟩) z nc)) (w.drew.alloc (.cells (Builtin.zeroCells ei.zero.cells z++Builtin.zeroCells ei.zero.cells (nc-z)) e)):=by
  simp only[execOp,ho,resolve,invoke,builtin,Sem.run_bind,Sem.run_pure,Result.andThen_ok,List.map_toArray,bH,bI,ha.env.eval hx,ha.env.eval hy,hr]
 simp only[Oper.wp,he',Oper.upon,hd];have hp:=ha.put hN (.slice (some ⟨w.heap.size,0,none⟩) z nc);have hk:=hK w.heap.size nc hge;have hlen:(Builtin.zeroCells ei.zero.cells z++Builtin.zeroCells ei.zero.cells (nc-z)).toList.length=nc*ei.size:=by
  rw[Array.length_toList,Array.size_append,size_zeroCells,size_zeroCells,hzc,←Nat.add_mul]
  congr 1;omega
 have hst':=hst.toRoom;rw[hlen]at hst';exact⟨_,_,_,⟨hp.size,hp.env,hp.defers,hst'⟩,hk⟩
theorem OT.pureC (T:Tab P) {d:Nat} {v v':Value} (hd:o.dst=some d) (hN:Nat.blt d N=true) (he:evalOp T ρ o.op=some v) (hv:v=v') (hK:K ((d,v')::ρ) m L):OT P N o ρ D m L Q K:=by
 subst hv;exact cN hd hN (fun a w ha=>⟨w,evalOp_run T ha.env he w,ha.st⟩) hK
end
section
variable {κ:Type} [DecidableEq κ]
theorem any_find {α:Type} (l:List α) (p:α→Bool):l.any p=(l.find? p).isSome:=by
 rw[Bool.eq_iff_iff,List.any_eq_true,List.find?_isSome]
theorem mset_hit {es:Ents κ} {x:κ} (h:mhas es x=true) (v:Value) (c:Nat):mset es x v c=es.modify (es.findIdx fun e=>decide (e.1=x)) (fun e=>(e.1,v,e.2.2)):=by
 simp[mset,h]
theorem mset_miss {es:Ents κ} {x:κ} (h:mhas es x=false) (v:Value) (c:Nat):mset es x v c=es++[(x,v,c)]:=by
 simp[mset,h]
theorem find_modify (y:κ) (v:Value) (x:κ):∀(es:Ents κ),mhas es x=true→mget (es.modify (es.findIdx fun e=>decide (e.1=x)) (fun e=>(e.1,v,e.2.2))) y=if x=y then some v else mget es y
 | [],h=>by simp[mhas]at h
 | e::r,h=>by
  by_cases he:e.1=x
  ·have h0:((e::r).findIdx fun e=>decide (e.1=x))=0:=by simp[List.findIdx_cons,he]
   rw[h0];by_cases hy:x=y
   ·subst hy;simp[mget,he]
   ·have hy':¬e.1=y:=fun q=>hy (he.symm.trans q);simp[mget,hy,hy']
  ·have h0:((e::r).findIdx fun e=>decide (e.1=x))=(r.findIdx fun e=>decide (e.1=x))+1:=by simp[List.findIdx_cons,he]
   have hr:mhas r x=true:=by simpa[mhas,he]using h
   have ih:=find_modify y v x r hr;rw[h0];by_cases hy:e.1=y
   ·have hy':¬x=y:=fun q=>he (hy.trans q.symm);simp[mget,hy,hy']
   ·have e1:mget (e::r) y=mget r y:=by simp[mget,hy]
    have e2:∀ r':Ents κ,mget (e::r') y=mget r' y:=fun r'=>by simp[mget,hy]
    rw[List.modify_succ_cons,e2,e1,ih]
theorem mget_mset {es:Ents κ} (x:κ) (v:Value) (c:Nat) (y:κ):mget (mset es x v c) y=if x=y then some v else mget es y:=by
 by_cases h:mhas es x=true
 ·rw[mset_hit h];exact find_modify y v x es h
 ·have hf:mhas es x=false:=mP;rw[mset_miss hf];by_cases hy:x=y
  ·subst hy;have:es.find? (fun e=>decide (e.1=x))=none:=List.find?_eq_none.2 fun e he hx=>by
    rw[mhas,List.any_eq_false]at hf;exact hf e he hx
   simp[mget,List.find?_append,this]
  ·simp[mget,List.find?_append,hy]
theorem mhas_mget {es:Ents κ} (x:κ):mhas es x=(mget es x).isSome:=by
 rw[mget,Option.isSome_map,mhas,any_find]
theorem mset_len {es:Ents κ} (x:κ) (v:Value) (c:Nat):(mset es x v c).length=if mhas es x then es.length else es.length+1:=by
 by_cases h:mhas es x=true
 ·rw[mset_hit h,if_pos h];simp
 ·have hf:mhas es x=false:=mP;rw[mset_miss hf,if_neg h];simp
end
end Go.Sep
namespace Go.Sep
theorem encs_cons {H α:Type} (r:R H α) (x:H) (xs:List H):encs r (x::xs)=r.enc x++encs r xs:=by simp[encs]
theorem encs_split {H α:Type} (r:R H α) {hs:List H} {k:Nat} {h:H} (hk:hs[k]? = some h):encs r hs=encs r (hs.take k)++(r.enc h++encs r (hs.drop (k+1))):=by
 obtain⟨hlt,rfl⟩:=List.getElem?_eq_some_iff.1 hk;rw[←encs_cons,←encs_append,←bU hlt,co]
theorem encs_take_len {H α:Type} (r:R H α) {hs:List H} {k:Nat} {h:H} (hk:hs[k]? = some h):(encs r (hs.take k)).length=k*r.size:=by
 obtain⟨hlt,_⟩:=List.getElem?_eq_some_iff.1 hk;rw[encs_len,bV,Nat.min_eq_left mv]
theorem encs_drop {H α:Type} (r:R H α) {hs:List H} {k:Nat} {h:H} (hk:hs[k]? = some h) (j:Nat):(encs r hs).drop (k*r.size+j)=(r.enc h++encs r (hs.drop (k+1))).drop j:=by
 rw[encs_split r hk,←encs_take_len r hk,List.drop_append,List.drop_of_length_le mv,bK]
 congr 1;omega
theorem encs_set {H α:Type} (r:R H α) {hs:List H} {k:Nat} {h:H} (hk:hs[k]? = some h) (h2:H):encs r (hs.set k h2)=encs r (hs.take k)++(r.enc h2++encs r (hs.drop (k+1))):=by
 obtain⟨hlt,_⟩:=List.getElem?_eq_some_iff.1 hk;have hk2:(hs.set k h2)[k]? = some h2:=mG;rw[encs_split r hk2,List.take_set,List.drop_set_of_lt mv]
 congr 2
 exact List.set_eq_of_length_le mK
theorem load_drop {P:Program} (T:Tab P) {t:TypeId} {cs cs2:List Value} {k j:Nat} (h:cs.drop k=cs2.drop j):T.load t cs k=T.load t cs2 j:=by
 have hg:cs[k]? = cs2[j]?:=by
  have:=congrArg List.head? h;simpa using this
 unfold Tab.load;rw[h,hg]
theorem load_encs {P:Program} (T:Tab P) {H α:Type} (r:R H α) {t:TypeId} {hs:List H} {k j:Nat} {h:H} {v:Value} (hk:hs[k]? = some h) (hv:∀ rest,T.load t (r.enc h++rest) j=some v):T.load t (encs r hs) (k*r.size+j)=some v:=by
 rw[load_drop T (encs_drop r hk j)];exact hv _
theorem putAt_right : ∀(cs a b:List Value) (j:Nat),putAt (a++b) (a.length+j) cs=a++putAt b j cs
 | [],a,b,j=>rfl
 | c::cs,a,b,j=>by
  rw[putAt,putAt,List.set_append_right _ _ mv,Nat.add_sub_cancel_left,cA];exact putAt_right cs a (b.set j c) (j+1)
theorem putAt_encs {H α:Type} (r:R H α) {hs:List H} {k j:Nat} {h h2:H} {cs:List Value} (hk:hs[k]? = some h) (hp:∀ rest,putAt (r.enc h++rest) j cs=r.enc h2++rest):putAt (encs r hs) (k*r.size+j) cs=encs r (hs.set k h2):=by
 rw[encs_split r hk,encs_set r hk,←encs_take_len r hk,putAt_right,hp]
section
variable {P:Program} {N:Nat} {ρ:Env} {D:List Deferred} {m:Mem} {L:List Item} {Q:EPost} {full:List Oper} {o:Oper} {K:Env→Mem→List Item→Prop}
theorem OT.loadE {H α:Type} (T:Tab P) (i:Nat) (r:R H α) {hs:List H} {k j q:Nat} {h:H} {v:Value} {x:Operand} {t:TypeId} {b d:Nat} (hk:hs[k]? = some h) (hq:q=k*r.size+j) (hv:∀ rest,T.load t (r.enc h++rest) j=some v) (ho:o.op = .load t x) (hd:o.dst=some d) (hN:Nat.blt d N=true)
  (hx:ev ρ x=some (.pointer (some ⟨b,q,none⟩))) (hi:L[i]? = some (.cells b 0 (encs r hs))) (hK:K ((d,v)::ρ) m L):OT P N o ρ D m L Q K:=by
 subst hq;exact OT.loadL (off:=0) (k:=k*r.size+j) T i ho hd hN oa hi (load_encs T r hk hv) hK
theorem OT.storeE {H α:Type} (T:Tab P) (i:Nat) (r:R H α) {hs:List H} {k j q:Nat} {h h2:H} {v:Value} {cs:List Value} {x y:Operand} {t:TypeId} {b:Nat} (hk:hs[k]? = some h) (hq:q=k*r.size+j) (hp:∀ rest,putAt (r.enc h++rest) j cs=r.enc h2++rest) (hj:j+cs.length≤r.size) (ho:o.op = .store t x y) (hd:o.dst=none)
  (hx:ev ρ x=some (.pointer (some ⟨b,q,none⟩))) (hy:ev ρ y=some v) (hv:cellsF v=some cs) (hs':T.sizeOk t cs=true) (hi:L[i]? = some (.cells b 0 (encs r hs))) (hK:K ρ m (L.set i (.cells b 0 (encs r (hs.set k h2))))):OT P N o ρ D m L Q K:=by
 subst hq;have hl:=(List.getElem?_eq_some_iff.1 hk).1;have hkl:(k+1)*r.size≤hs.length*r.size:=Nat.mul_le_mul_right _ hl;refine OT.storeG (off:=0) (k:=k*r.size+j) T i ho hd oa hy hv hs' hi (by rw[encs_len];rw[Nat.add_mul]at hkl;omega) ?_;rw[putAt_encs r hk hp];exact hK
end
end Go.Sep
