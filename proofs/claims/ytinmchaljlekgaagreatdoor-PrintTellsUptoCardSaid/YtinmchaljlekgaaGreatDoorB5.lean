/- SepPn -/
import Derived.Recover
import Derived.Test.YtinmchaljlekgaaGreatDoorB4
set_option linter.unusedVariables false
set_option linter.unusedSimpArgs false
set_option maxHeartbeats 6400000
namespace Go.Sep
section
variable {P : Program} {N : Nat} {ρ : Env} {D : List Deferred} {m : Mem} {L : List Item} {Q : EPost} {full : List Oper} {o : Oper} {K : Env→Mem→List Item→Prop}
theorem OT.panic {x : Operand} {t : TypeId} {v : Value} (ho : o.op = .panic x) (hx : ev ρ x=some (.iface t v)) (hQ : Q (.panic [{ v := .iface t v,recovered:=false }]) ρ D m L) : OT P N o ρ D m L Q K:=by
 intro a w ha
 have hr : (execOp a.eval o).run P w = .halt (.panic (.iface t v)) w:=by
  simp only [execOp,ho,ha.env.eval hx,Instr.panic,goPanic]
  rfl
 simp only [Oper.wp,hr,Oper.upon]
 exact ⟨ρ,D,m,L,ha,hQ⟩
theorem TO.defer {l : List Oper} {F : Operand} {args : List Operand} {ats : Array TypeId} {fn : Fn} {cap : List Value} {vs : List Value}
  (hg : gv full ρ o=some true) (ho : o.op = .defer ⟨.value F,⟨args⟩,ats⟩) (hd : o.dst=none) (hF : ev ρ F=some (.func fn ⟨[]⟩ ⟨cap⟩)) (ha : evs ρ args=some vs)
  (hK : TO P N ⟨full⟩ l ρ ({ target := .fn fn ⟨cap⟩,args:=⟨vs⟩ } :: D) m L Q) : TO P N ⟨full⟩ (o :: l) ρ D m L Q:=by
 intro a w hok
 have he : (execOp a.eval o).run P w = .ok (.defer { target := .fn fn ⟨cap⟩,args:=⟨vs⟩ }) w:=by
  have e1:=hok.env.evals ha
  simp only [execOp,ho,resolve,hok.env.eval hF,Deferred.ofValue,Sem.run_bind,Sem.run_pure,Result.andThen_ok]
  congr 2
  simp [e1]
 refine wpList_yes (gv_wanted hg hok.env) ?_
 simp only [Oper.wp,he,Oper.upon,hd]
 exact hK { a with defers:={ target := .fn fn ⟨cap⟩,args:=⟨vs⟩ } :: a.defers } w ⟨hok.size,hok.env,by rw [hok.defers],hok.st⟩
def retD (P : Program) (fn : Func) (R : Ending→World→Prop) : EPost
 | .normal, ρ,D,m,L | .ret, ρ,D,m,L => ∀ tmps w,(∀ i v,look ρ i=some v→tmps[i]? = some v)→St m w L→Leaves P fn tmps R D .returning w
 | .panic ch, ρ,D,m,L => ∀ tmps w,(∀ i v,look ρ i=some v→tmps[i]? = some v)→St m w L→Leaves P fn tmps R D (.panicking ch) w
 | _,_,_,_,_=>False
theorem calls_enterD {f : FuncId} {fn : Func} {c : Code} {vs : List Value} {w : World} {R : Ending→World→Prop}
  (hf : P.funcs[f]? = some fn) (hb : fn.body=some c) (N : Nat) (hN : Nat.ble N fn.ntmps=true) (hs : St m w L) (h : TC P N c (argEnv vs 0) [] m L (retD P fn R)) : Calls P f ⟨vs⟩ w R:=by
 refine calls_of_wp_defers hf hb (wp_mono (h { tmps:=⟨vs⟩ ++ Array.replicate (fn.ntmps - (⟨vs⟩ : Array Value).size) undef,defers:=[] } w ⟨?_, ?_,rfl,hs⟩) fun e a' w' hl => ?_)
 ·have:=Nat.le_of_ble_eq_true hN
  simp
  omega
 ·intro i v hv
  have:=(look_argEnv vs 0 i v hv).2
  simp only [Nat.sub_zero] at this
  have hi : i < vs.length:=(List.getElem?_eq_some_iff.1 this).1
  simp [Array.getElem?_append,hi,this]
  have h2:=(List.getElem?_eq_some_iff.1 this).2
  exact h2
 ·obtain ⟨ρ',D',m',L',h1,h2⟩:=hl
  obtain ⟨k1,k2,k3,k4⟩:=h1
  cases e with
  | normal=>subst k3;exact h2 _ _ k2 k4
  | ret=>subst k3;exact h2 _ _ k2 k4
  | panic ch=>subst k3;exact h2 _ _ k2 k4
  | exit i=>exact h2.elim
  | goto l=>exact h2.elim
  | outgrown=>exact h2.elim
def recPair (cs : List Frame) : Value × List Frame :=
 match recoverD cs with
 | some x=>x
 | none=>(.nilIface,cs)
theorem wpS_rec {o0 o1 : Oper} {d0 d1 id : Nat} {QS : Exit→Act→List Frame→World→Prop} {a : Act} {cs : List Frame} {w : World} (h0 : o0.op = .call ⟨.builtin .recover,⟨[]⟩,⟨[]⟩⟩) (hd0 : o0.dst=some d0) (g0 : o0.guard=none) (h1 : o1.op = .assign (.tmp d0)) (hd1 : o1.dst=some d1) (g1 : o1.guard=none)
  (hsz : d0 < a.tmps.size) (hQ : QS .normal ((a.put (some d0) (recPair cs).1).put (some d1) (recPair cs).1) (recPair cs).2 w) : (Code.region id ⟨[o0,o1]⟩ false).wpS P QS a cs w:=by
 apply wpS_region
 have hr : (execOp a.eval o0).run P w = .ok .recover w:=by
  simp [execOp,h0,resolve,invoke,go_sem]
 have e : List.range (⟨[o0,o1]⟩ : Array Oper).size=[0,1]:=rfl
 have w0 : ∀ y,Region.wanted o0 y=true:=fun y=>by simp [Region.wanted,g0]
 have w1 : ∀ y,Region.wanted o1 y=true:=fun y=>by simp [Region.wanted,g1]
 rw [e]
 have i0 : (⟨[o0,o1]⟩ : Array Oper)[0]? = some o0:=rfl
 have i1 : (⟨[o0,o1]⟩ : Array Oper)[1]? = some o1:=rfl
 have step1 : ∀ (v : Value) (cs' : List Frame),QS .normal ((a.put (some d0) v).put (some d1) v) cs' w→wpOpsS P ⟨[o0,o1]⟩ QS [1] (a.put (some d0) v) cs' w:=by
  intro v cs' hq
  have hv : (a.put (some d0) v).eval (.tmp d0)=v:=by simp [Act.put,Act.eval,hsz]
  have hr1 : (execOp (a.put (some d0) v).eval o1).run P w = .ok (.value v) w:=by simp [execOp,h1,hv]
  simp only [wpOpsS,i1,w1,if_true,hr1,Oper.upon,hd1]
  exact hq
 unfold recPair at hQ
 unfold wpOpsS
 simp only [i0,w0,if_true,hr,hd0]
 cases hc : recoverD cs with
 | none=>rw [hc] at hQ;exact step1 _ _ hQ
 | some x=>obtain ⟨v,cs'⟩:=x;rw [hc] at hQ;exact step1 _ _ hQ
theorem wpS_TC {c : Code} {fn : Func} {R : Value→Mem→List Item→Prop} {a : Act} {w : World} {c₀ : Frame} {cs : List Frame} {u : FrameMode} {RR : Ending→FrameMode→World→Prop} (h : TC P N c ρ [] m L (retQ P fn R fun _ _ _=>False)) (ha : Ok N ρ [] m L a w)
  (hR : ∀ v m' L' w',R v m' L' → St m' w' L' → RR (.returned v) u w') : c.wpS P (bodyPostS P fn c₀ cs RR) a ({ c₀ with mode:=u } :: cs) w:=by
 refine wpS_of_wp (wp_mono (h a w ha) fun e a' w' hl => ?_)
 obtain ⟨ρ',D',m',L',h1,h2⟩:=hl
 cases e with
 | normal =>
  obtain ⟨hD,v,L2,hv,hs2,hr⟩:=h2
  exact ⟨h1.defers.trans hD,u,rfl,v,hv _ _ h1.env h1.st,hR _ _ _ _ hr (h1.st.sub hs2)⟩
 | ret =>
  obtain ⟨hD,v,L2,hv,hs2,hr⟩:=h2
  exact ⟨h1.defers.trans hD,u,rfl,v,hv _ _ h1.env h1.st,hR _ _ _ _ hr (h1.st.sub hs2)⟩
 | panic ch=>obtain ⟨_,_,_,hf⟩:=h2;exact hf.elim
 | exit i=>exact h2.elim
 | goto i=>exact h2.elim
 | outgrown=>exact h2.elim
end
def quietQ (K : Env→List Deferred→Mem→List Item→Prop) : EPost
 | .normal, ρ,D,m,L=>K ρ D m L
 | _,_,_,_,_=>False
theorem Calm.quiet {K : Env→List Deferred→Mem→List Item→Prop} : Calm (quietQ K):=fun _ _ _ _ _ h=>h
theorem TC.quiet {P : Program} {N : Nat} {x y : Code} {ρ : Env} {D : List Deferred} {m : Mem} {L : List Item} {Q : EPost} (h : TC P N x ρ D m L (quietQ fun ρ D m L=>TC P N y ρ D m L Q)) : TC P N (.seq x y) ρ D m L Q :=
 TC.seq (h.mono fun e ρ D m L hq=>by
  cases e with
  | normal=>exact thenQ_n hq
  | _=>exact hq.elim)
theorem invoke_goes {P : Program} {f : FuncId} {cap args : List Value} {w : World} (hg : Goes P f) : (invoke (.fn (.func f) ⟨cap⟩) ⟨args⟩).run P w = .ok (.enter f ⟨args++cap⟩) w:=by
 simp only [invoke]
 rw [hg _ w]
 congr 2
 simp
end Go.Sep


/- SepS -/
namespace Go.Sep
variable {κ : Type} [DecidableEq κ]
section
variable {P : Program} {N : Nat} {ρ : Env} {D : List Deferred} {m : Mem} {L : List Item} {Q : EPost} {o : Oper} {full : List Oper} {K : Env→Mem→List Item→Prop}
end
end Go.Sep


/- SepT -/
namespace Go.Sep
section
variable {P : Program} {N : Nat} {ρ : Env} {D : List Deferred} {m : Mem} {L : List Item} {Q : EPost} {o : Oper} {full : List Oper} {K : Env→Mem→List Item→Prop}
end
end Go.Sep


/- SepU -/
namespace Go.Sep
section
variable {P : Program} {N : Nat} {ρ : Env} {D : List Deferred} {m : Mem} {L : List Item} {Q : EPost} {full : List Oper} {o : Oper} {K : Env→Mem→List Item→Prop}
theorem OT.growNil (T : Tab P) {x y : Operand} {t t2 e : TypeId} {ei : TI} {kz : IntKind} {z : Nat} {iv : Int} {d : Nat} (hz0 : 0 < z) (hiv : iv=(z : Int))
  (ho : o.op = .call ⟨.builtin .append,⟨[x,y]⟩,⟨[t,t2]⟩⟩) (hd : o.dst=some d) (hN : Nat.blt d N=true) (hx : ev ρ x=some (.slice none 0 0)) (hy : ev ρ y=some (.int .i64 iv)) (he : T.elem t=some (e,ei)) (ht2 : T.intK t2=some kz)
  (hb : Nat.blt 0 ei.bytes=true) {sz : Nat} (hzs : (cellsF ei.zero).map List.length=some sz) (hsz : Nat.beq ei.size sz=true) (hfit : z * ei.bytes ≤ 140737488355328)
  (hK : ∀ b c,z ≤ c→K ((d, .slice (some ⟨b,0,none⟩) z c) :: ρ) m (.room b 0 (c * sz) :: L)) : OT P N o ρ D m L Q K:=by
 obtain ⟨ti,h4,h5,h6⟩:=elem_get he
 obtain ⟨si,s1,s2⟩:=intK_get ht2
 obtain ⟨_,_,hu,_⟩:=T.ok t ti h4
 rw [h5] at hu
 obtain ⟨_,_,hu2,_⟩:=T.ok t2 si s1
 rw [s2] at hu2
 obtain ⟨info,q1,q2,q3,q4,q5⟩:=T.ok e ei h6
 have hbp : 0 < ei.bytes:=by simpa [Nat.blt_eq] using hb
 have hs1 : ei.size=sz:=Nat.eq_of_beq_eq_true hsz
 subst hs1
 have hbound : z ≤ 140737488355328:=aw (Nat.le_mul_of_pos_right _ hbp) hfit
 have hzc : ei.zero.cells.size=ei.size:=by
  cases hc : cellsF ei.zero with
  | none=>rw [hc] at hzs;cases hzs
  | some l=>rw [hc] at hzs;rw [cellsF_eq hc];simpa using hzs
 intro ac w ha
 have h48 : ¬ (Builtin.nextslicecap z 0 * ei.bytes > 281474976710656):=by
  have:=growslice_fits (need:=z) (old:=0) (bytes:=ei.bytes) (by omega) hfit
  omega
 obtain ⟨nc,hnc,hge⟩ : ∃ nc,nc=(Question.appendCap z 0 e).cut (w.tape w.drawn (.appendCap z 0 e))∧z ≤ nc:=⟨_,rfl,by simp [Question.cut]⟩
 have hw : iv=((z : Nat) : Int):=hiv
 have hzb : ¬ ((z : Int) * (ei.bytes : Int) > 281474976710656):=by
  have h2 : ((z : Int) * (ei.bytes : Int))=((z * ei.bytes : Nat) : Int):=by simp
  rw [h2];omega
 have hwrap : IntKind.i64.wrap (z : Int)=(z : Int):=wrap64_in (by omega) (by omega)
 have hb0 : ei.bytes ≠ 0:=by omega
 have hmax : ¬ (9223372036854775807 < (z : Int)):=by omega
 have hneg : ¬ ((z : Int) < 0):=by omega
 have hzn : ¬ (z=0):=by omega
 have hst:=ha.st.drew.allocCells (Builtin.zeroCells ei.zero.cells z++Builtin.zeroCells ei.zero.cells (nc - z)) e
 have hr : (Builtin.append_ #[t,t2] o.type #[.slice none 0 0, .int .i64 iv]).run P w = .ok (.slice (some ⟨w.heap.size,0,none⟩) z nc) (w.drew.alloc (.cells (Builtin.zeroCells ei.zero.cells z++Builtin.zeroCells ei.zero.cells (nc - z)) e)):=by
  subst hw
  simp [Builtin.append_,run_underlying hu,run_underlying hu2,sizeOf,typeInfo,zeroValue,q1,q3,q4,q5,asInt,asIntOf,hwrap,hneg,hzb,h48,hmax,hzn,Question.forced,newRow,← hnc,IntKind.max,IntKind.signed,IntKind.bits,hb0,Builtin.firstCells,Builtin.lenOf]
  intro h0
  have : Builtin.zeroCells ei.zero.cells z = #[]:=Array.eq_empty_of_size_eq_zero (by rw [size_zeroCells,hzc];exact h0)
  rw [this,Array.empty_append]
 have he' : (execOp ac.eval o).run P w = .ok (.value (.slice (some ⟨w.heap.size,0,none⟩) z nc)) (w.drew.alloc (.cells (Builtin.zeroCells ei.zero.cells z++Builtin.zeroCells ei.zero.cells (nc - z)) e)):=by
  simp only [execOp,ho,resolve,invoke,builtin,Sem.run_bind,Sem.run_pure,Result.andThen_ok,List.map_toArray,ax,ay,ha.env.eval hx,ha.env.eval hy,hr]
 simp only [Oper.wp,he',Oper.upon,hd]
 have hp:=ha.put hN (.slice (some ⟨w.heap.size,0,none⟩) z nc)
 have hk:=hK w.heap.size nc hge
 have hlen : (Builtin.zeroCells ei.zero.cells z++Builtin.zeroCells ei.zero.cells (nc - z)).toList.length=nc * ei.size:=by
  rw [Array.length_toList,Array.size_append,size_zeroCells,size_zeroCells,hzc,← Nat.add_mul]
  congr 1;omega
 have hst':=hst.toRoom
 rw [hlen] at hst'
 exact ⟨_,_,_,⟨hp.size,hp.env,hp.defers,hst'⟩,hk⟩
end
section
variable {κ : Type} [DecidableEq κ]
end
end Go.Sep


/- SepV -/
namespace Go.Sep
theorem encs_cons {H α : Type} (r : R H α) (x : H) (xs : List H) : encs r (x :: xs)=r.enc x++encs r xs:=by simp [encs]
section
variable {P : Program} {N : Nat} {ρ : Env} {D : List Deferred} {m : Mem} {L : List Item} {Q : EPost} {full : List Oper} {o : Oper} {K : Env→Mem→List Item→Prop}
end
end Go.Sep

