/- SepPn -/
import Derived.Recover
import Derived.Test.YtinmchaljlekgaaGreatDoorB3
set_option linter.unusedVariables false
set_option linter.unusedSimpArgs false
namespace Go.Sep
section
variable {P : Program} {N : Nat} {ρ : Env} {D : List Deferred} {m : Mem} {L : List Item} {Q : EPost} {full : List Oper} {o : Oper} {K : Env→Mem→List Item→Prop}
theorem OT.panic {x : Operand} {t : TypeId} {v : Value} (ho : o.op = .panic x) (hx : ev ρ x=some (.iface t v)) (hQ : Q (.panic [{ v := .iface t v,recovered:=false }]) ρ D m L) : OT P N o ρ D m L Q K:=by
 intro a w ha
 have hr : (execOp a.eval o).run P w = .halt (.panic (.iface t v)) w:=by
  simp only [execOp,ho,ha.env.eval hx,Instr.panic,goPanic]
  rfl
 simp only [Oper.wp,hr,Oper.upon]
 exact ⟨ρ,D,m,L,ha,hQ⟩
theorem TO.defer {l : List Oper} {F : Operand} {args : List Operand} {ats : Array TypeId} {fn : Fn} {cap : List Value} {vs : List Value}
  (hg : gv full ρ o=some true) (ho : o.op = .defer ⟨.value F,⟨args⟩,ats⟩) (hd : o.dst=none) (hF : ev ρ F=some (.func fn ⟨[]⟩ ⟨cap⟩)) (ha : evs ρ args=some vs)
  (hK : TO P N ⟨full⟩ l ρ ({ target := .fn fn ⟨cap⟩,args:=⟨vs⟩ } :: D) m L Q) : TO P N ⟨full⟩ (o :: l) ρ D m L Q:=by
 intro a w hok
 have he : (execOp a.eval o).run P w = .ok (.defer { target := .fn fn ⟨cap⟩,args:=⟨vs⟩ }) w:=by
  have e1:=hok.env.evals ha
  simp only [execOp,ho,resolve,hok.env.eval hF,Deferred.ofValue,Sem.run_bind,Sem.run_pure,Result.andThen_ok]
  congr 2
  simp [e1]
 refine wpList_yes (gv_wanted hg hok.env) ?_
 simp only [Oper.wp,he,Oper.upon,hd]
 exact hK { a with defers:={ target := .fn fn ⟨cap⟩,args:=⟨vs⟩ } :: a.defers } w ⟨hok.size,hok.env,by rw [hok.defers],hok.st⟩
def retD (P : Program) (fn : Func) (R : Ending→World→Prop) : EPost
 | .normal, ρ,D,m,L | .ret, ρ,D,m,L => ∀ tmps w,(∀ i v,look ρ i=some v→tmps[i]? = some v)→St m w L→Leaves P fn tmps R D .returning w
 | .panic ch, ρ,D,m,L => ∀ tmps w,(∀ i v,look ρ i=some v→tmps[i]? = some v)→St m w L→Leaves P fn tmps R D (.panicking ch) w
 | _,_,_,_,_=>False
theorem calls_enterD {f : FuncId} {fn : Func} {c : Code} {vs : List Value} {w : World} {R : Ending→World→Prop}
  (hf : P.funcs[f]? = some fn) (hb : fn.body=some c) (N : Nat) (hN : Nat.ble N fn.ntmps=true) (hs : St m w L) (h : TC P N c (argEnv vs 0) [] m L (retD P fn R)) : Calls P f ⟨vs⟩ w R:=by
 refine calls_of_wp_defers hf hb (wp_mono (h { tmps:=⟨vs⟩ ++ Array.replicate (fn.ntmps - (⟨vs⟩ : Array Value).size) undef,defers:=[] } w ⟨?_, ?_,rfl,hs⟩) fun e a' w' hl => ?_)
 ·have:=Nat.le_of_ble_eq_true hN
  simp
  omega
 ·intro i v hv
  have:=(look_argEnv vs 0 i v hv).2
  simp only [Nat.sub_zero] at this
  have hi : i < vs.length:=(List.getElem?_eq_some_iff.1 this).1
  simp [Array.getElem?_append,hi,this]
  have h2:=(List.getElem?_eq_some_iff.1 this).2
  exact h2
 ·obtain ⟨ρ',D',m',L',h1,h2⟩:=hl
  obtain ⟨k1,k2,k3,k4⟩:=h1
  cases e with
  | normal=>subst k3;exact h2 _ _ k2 k4
  | ret=>subst k3;exact h2 _ _ k2 k4
  | panic ch=>subst k3;exact h2 _ _ k2 k4
  | exit i=>exact h2.elim
  | goto l=>exact h2.elim
  | outgrown=>exact h2.elim
def recPair (cs : List Frame) : Value × List Frame :=
 match recoverD cs with
 | some x=>x
 | none=>(.nilIface,cs)
theorem wpS_rec {o0 o1 : Oper} {d0 d1 id : Nat} {QS : Exit→Act→List Frame→World→Prop} {a : Act} {cs : List Frame} {w : World} (h0 : o0.op = .call ⟨.builtin .recover,⟨[]⟩,⟨[]⟩⟩) (hd0 : o0.dst=some d0) (g0 : o0.guard=none) (h1 : o1.op = .assign (.tmp d0)) (hd1 : o1.dst=some d1) (g1 : o1.guard=none)
  (hsz : d0 < a.tmps.size) (hQ : QS .normal ((a.put (some d0) (recPair cs).1).put (some d1) (recPair cs).1) (recPair cs).2 w) : (Code.region id ⟨[o0,o1]⟩ false).wpS P QS a cs w:=by
 apply wpS_region
 have hr : (execOp a.eval o0).run P w = .ok .recover w:=by
  simp [execOp,h0,resolve,invoke,go_sem]
 have e : List.range (⟨[o0,o1]⟩ : Array Oper).size=[0,1]:=rfl
 have w0 : ∀ y,Region.wanted o0 y=true:=fun y=>by simp [Region.wanted,g0]
 have w1 : ∀ y,Region.wanted o1 y=true:=fun y=>by simp [Region.wanted,g1]
 rw [e]
 have i0 : (⟨[o0,o1]⟩ : Array Oper)[0]? = some o0:=rfl
 have i1 : (⟨[o0,o1]⟩ : Array Oper)[1]? = some o1:=rfl
 have step1 : ∀ (v : Value) (cs' : List Frame),QS .normal ((a.put (some d0) v).put (some d1) v) cs' w→wpOpsS P ⟨[o0,o1]⟩ QS [1] (a.put (some d0) v) cs' w:=by
  intro v cs' hq
  have hv : (a.put (some d0) v).eval (.tmp d0)=v:=by simp [Act.put,Act.eval,hsz]
  have hr1 : (execOp (a.put (some d0) v).eval o1).run P w = .ok (.value v) w:=by simp [execOp,h1,hv]
  simp only [wpOpsS,i1,w1,if_true,hr1,Oper.upon,hd1]
  exact hq
 unfold recPair at hQ
 unfold wpOpsS
 simp only [i0,w0,if_true,hr,hd0]
 cases hc : recoverD cs with
 | none=>rw [hc] at hQ;exact step1 _ _ hQ
 | some x=>obtain ⟨v,cs'⟩:=x;rw [hc] at hQ;exact step1 _ _ hQ
theorem wpS_TC {c : Code} {fn : Func} {R : Value→Mem→List Item→Prop} {a : Act} {w : World} {c₀ : Frame} {cs : List Frame} {u : FrameMode} {RR : Ending→FrameMode→World→Prop} (h : TC P N c ρ [] m L (retQ P fn R fun _ _ _=>False)) (ha : Ok N ρ [] m L a w)
  (hR : ∀ v m' L' w',R v m' L' → St m' w' L' → RR (.returned v) u w') : c.wpS P (bodyPostS P fn c₀ cs RR) a ({ c₀ with mode:=u } :: cs) w:=by
 refine wpS_of_wp (wp_mono (h a w ha) fun e a' w' hl => ?_)
 obtain ⟨ρ',D',m',L',h1,h2⟩:=hl
 cases e with
 | normal =>
  obtain ⟨hD,v,L2,hv,hs2,hr⟩:=h2
  exact ⟨h1.defers.trans hD,u,rfl,v,hv _ _ h1.env h1.st,hR _ _ _ _ hr (h1.st.sub hs2)⟩
 | ret =>
  obtain ⟨hD,v,L2,hv,hs2,hr⟩:=h2
  exact ⟨h1.defers.trans hD,u,rfl,v,hv _ _ h1.env h1.st,hR _ _ _ _ hr (h1.st.sub hs2)⟩
 | panic ch=>obtain ⟨_,_,_,hf⟩:=h2;exact hf.elim
 | exit i=>exact h2.elim
 | goto i=>exact h2.elim
 | outgrown=>exact h2.elim
end
def quietQ (K : Env→List Deferred→Mem→List Item→Prop) : EPost
 | .normal, ρ,D,m,L=>K ρ D m L
 | _,_,_,_,_=>False
theorem Calm.quiet {K : Env→List Deferred→Mem→List Item→Prop} : Calm (quietQ K):=fun _ _ _ _ _ h=>h
theorem TC.quiet {P : Program} {N : Nat} {x y : Code} {ρ : Env} {D : List Deferred} {m : Mem} {L : List Item} {Q : EPost} (h : TC P N x ρ D m L (quietQ fun ρ D m L=>TC P N y ρ D m L Q)) : TC P N (.seq x y) ρ D m L Q :=
 TC.seq (h.mono fun e ρ D m L hq=>by
  cases e with
  | normal=>exact thenQ_n hq
  | _=>exact hq.elim)
theorem invoke_goes {P : Program} {f : FuncId} {cap args : List Value} {w : World} (hg : Goes P f) : (invoke (.fn (.func f) ⟨cap⟩) ⟨args⟩).run P w = .ok (.enter f ⟨args++cap⟩) w:=by
 simp only [invoke]
 rw [hg _ w]
 congr 2
 simp
end Go.Sep


/- SepS -/
set_option linter.unusedVariables false
set_option linter.unusedSimpArgs false
namespace Go.Sep
variable {κ : Type} [DecidableEq κ]
section
variable {P : Program} {N : Nat} {ρ : Env} {D : List Deferred} {m : Mem} {L : List Item} {Q : EPost} {o : Oper} {full : List Oper} {K : Env→Mem→List Item→Prop}
theorem TO.freezeO {l : List Oper} {b : Nat} {x : Obj} (h : ∀ m',m ≤ m' → m'.o b=some x→TO P N ⟨full⟩ l ρ D m' L Q) : TO P N ⟨full⟩ l ρ D m (.obj b x :: L) Q:=by
 intro a w ha
 obtain ⟨h1,h2,h3⟩:=ha.st.freezeObj
 exact h _ h1 h2 a w ⟨ha.size,ha.env,ha.defers,h3⟩
theorem TC.freezeO {c : Code} {b : Nat} {x : Obj} (h : ∀ m',m ≤ m' → m'.o b=some x→TC P N c ρ D m' L Q) : TC P N c ρ D m (.obj b x :: L) Q:=by
 intro a w ha
 obtain ⟨h1,h2,h3⟩:=ha.st.freezeObj
 exact h _ h1 h2 a w ⟨ha.size,ha.env,ha.defers,h3⟩
theorem OT.lookupOkP (T : Tab P) (k : KeyK κ) {t kt vt : TypeId} {mp ky : Operand} {b c d : Nat} {es : Ents κ} (x : κ) {zi : TI} (ho : o.op = .lookup t mp ky true) (hd : o.dst=some d) (hN : Nat.blt d N=true)
  (hm : ev ρ mp=some (.map (some b))) (hk : ev ρ ky=some (k.v x)) (ht : T.mapT k t=some (kt,vt)) (hz : T.get vt=some zi) (hi : m.o b=some (mapO k es c))
  (hK : K ((d, .tuple ⟨[(mget es x).getD zi.zero, .bool (mhas es x)]⟩) :: ρ) m L) : OT P N o ρ D m L Q K:=by
 refine OT.run hd hN (fun a w ha=>⟨w, ?_,ha.st⟩) hK
 obtain ⟨ti,ki,h1,h2,h3,h4⟩:=mapT_get ht
 have hu:=T.run_underlying w h1
 rw [h2] at hu
 have huk:=T.run_underlying w h3
 have hobj : w.heap[b]? = some (mapO k es c):=(ha.st.o _ _ hi).1
 have hck:=fun e=>k.check P w e kt ki.u x h4 huk
 have hfk:=run_findKey (P:=P) k h4 huk x es
 have hzv:=T.run_zero w hz
 simp only [execOp,ho,ha.env.eval hm,ha.env.eval hk,Sem.run_bind,Instr.lookup,hu,Result.andThen_ok,run_getObj hobj rfl,mapO,Sem.run_pure,hck,hfk]
 by_cases hh : mhas es x=true
 ·have hg : ∃ v,mget es x=some v:=by
   have hx : ∃ e ∈ es,decide (e.1=x)=true:=by simpa [mhas,List.any_eq_true] using hh
   obtain ⟨e,he,hx⟩:=hx
   cases hf : es.find? (fun e=>decide (e.1=x)) with
   | none=>exact absurd hx (by simpa using List.find?_eq_none.1 hf e he)
   | some u=>exact ⟨u.2.1,by simp [mget,hf]⟩
  obtain ⟨v,hv⟩:=hg
  simp [hh,hv]
 ·have hf : mhas es x=false:=by simpa using hh
  have hv : mget es x=none:=by
   have : es.find? (fun e=>decide (e.1=x))=none:=List.find?_eq_none.2 fun e he hx=>by
    rw [mhas,List.any_eq_false] at hf
    exact hf e he hx
   simp [mget,this]
  simp [hf,hv,hzv]
theorem OT.mapLenP (T : Tab P) (k : KeyK κ) {t kt vt : TypeId} {mp : Operand} {b c d : Nat} {es : Ents κ} (ho : o.op = .call ⟨.builtin .len,⟨[mp]⟩,⟨[t]⟩⟩) (hd : o.dst=some d) (hN : Nat.blt d N=true)
  (hm : ev ρ mp=some (.map (some b))) (ht : T.mapT k t=some (kt,vt)) (hi : m.o b=some (mapO k es c))
  (hK : K ((d, .int .i64 (es.length : Int)) :: ρ) m L) : OT P N o ρ D m L Q K:=by
 refine OT.run hd hN (fun a w ha=>⟨w, ?_,ha.st⟩) hK
 obtain ⟨ti,ki,h1,h2,h3,h4⟩:=mapT_get ht
 have hu:=T.run_underlying w h1
 rw [h2] at hu
 have hobj : w.heap[b]? = some (mapO k es c):=(ha.st.o _ _ hi).1
 simp only [execOp,ho,resolve,Sem.run_bind,Sem.run_pure,Result.andThen_ok,invoke,builtin,List.map_toArray,List.map_cons,List.map_nil,ha.env.eval hm,Builtin.len_]
 simp [hu,run_getObj hobj rfl,mapO,ha.env.eval hm,goInt]
theorem equalIn_mapSome {t a b : TypeId} {w : World} (dd r : Nat) (hu : (underlying t).run P w = .ok (.map a b) w) :
  (Op.equalIn (dd + 1) t (.map (some r)) (.map none)).run P w = .ok false w:=by
 simp only [Op.equalIn,Sem.run_bind,hu,Result.andThen_ok,Sem.run_pure]
theorem equalIn_mapNone {t a b : TypeId} {w : World} (dd : Nat) (hu : (underlying t).run P w = .ok (.map a b) w) :
  (Op.equalIn (dd + 1) t (.map none) (.map none)).run P w = .ok true w:=by
 simp only [Op.equalIn,Sem.run_bind,hu,Result.andThen_ok,Sem.run_pure]
 rfl
theorem OT.mapNe (T : Tab P) (k : KeyK κ) {t t' kt vt : TypeId} {x y : Operand} {r : Option Nat} {d : Nat} (ho : o.op = .binOp .neq t x y t') (hd : o.dst=some d) (hN : Nat.blt d N=true)
  (hx : ev ρ x=some (.map r)) (hy : ev ρ y=some (.map none)) (ht : T.mapT k t=some (kt,vt)) (hK : K ((d, .bool r.isSome) :: ρ) m L) : OT P N o ρ D m L Q K:=by
 obtain ⟨ti,ki,h1,h2,h3,h4⟩:=mapT_get ht
 refine OT.run hd hN (fun ac w ha=>⟨w, ?_,ha.st⟩) hK
 have hu:=T.run_underlying w h1
 rw [h2] at hu
 have e1 : ∀ z,binOp .neq t (.map z) (.map none)=(do pure (.bool (!(← Op.equalIn (9999 + 1) t (.map z) (.map none)))) : Sem Value):=fun _=>rfl
 have e2 : (eqGuard .neq t x y (.map r) (.map none)).run P w = .ok () w:=by simp [eqGuard]
 cases r with
 | none =>
  have h:=equalIn_mapNone (P:=P) 9999 hu
  simp only [execOp,ho,ha.env.eval hx,ha.env.eval hy,Sem.run_bind,e2,Result.andThen_ok,e1,h,Sem.run_pure];rfl
 | some r =>
  have h:=equalIn_mapSome (P:=P) 9999 r hu
  simp only [execOp,ho,ha.env.eval hx,ha.env.eval hy,Sem.run_bind,e2,Result.andThen_ok,e1,h,Sem.run_pure];rfl
end
end Go.Sep


/- SepT -/
set_option linter.unusedVariables false
set_option linter.unusedSimpArgs false
namespace Go.Sep
section
variable {P : Program} {N : Nat} {ρ : Env} {D : List Deferred} {m : Mem} {L : List Item} {Q : EPost} {o : Oper} {full : List Oper} {K : Env→Mem→List Item→Prop}
end
end Go.Sep


/- SepU -/
set_option linter.unusedVariables false
set_option linter.unusedSimpArgs false
namespace Go.Sep
section
variable {P : Program} {N : Nat} {ρ : Env} {D : List Deferred} {m : Mem} {L : List Item} {Q : EPost} {full : List Oper} {o : Oper} {K : Env→Mem→List Item→Prop}
end
section
variable {κ : Type} [DecidableEq κ]
end
end Go.Sep


/- SepV -/
set_option linter.unusedVariables false
set_option linter.unusedSimpArgs false
namespace Go.Sep
theorem encs_cons {H α : Type} (r : R H α) (x : H) (xs : List H) : encs r (x :: xs)=r.enc x++encs r xs:=by simp [encs]
section
variable {P : Program} {N : Nat} {ρ : Env} {D : List Deferred} {m : Mem} {L : List Item} {Q : EPost} {full : List Oper} {o : Oper} {K : Env→Mem→List Item→Prop}
end
end Go.Sep

