/- SepO -/
import Derived.Laws.Externs
import Derived.Test.YtinmchaljlekgaaGreatDoorB2
set_option linter.unusedVariables false
set_option linter.unusedSimpArgs false
namespace Go.Sep
section
variable {P : Program} {N : Nat} {ρ : Env} {D : List Deferred} {m : Mem} {L : List Item} {Q : EPost} {full : List Oper} {o : Oper} {K : Env→Mem→List Item→Prop}
def Tab.intK {P : Program} (T : Tab P) (t : TypeId) : Option IntKind :=
 match T.get t with
 | some ⟨.int k,_,_,_⟩=>some k
 | _=>none
theorem intK_get {T : Tab P} {t : TypeId} {k : IntKind} (h : T.intK t=some k) : ∃ i,T.get t=some i∧i.u = .int k:=by
 unfold Tab.intK at h
 split at h
 ·rename_i k' _ _ _ hg
  simp only [Option.some.injEq] at h
  subst h
  exact ⟨_,hg,rfl⟩
 ·cases h
theorem OT.conv (T : Tab P) {s t : TypeId} {x : Operand} {k ks kt : IntKind} {d : Nat} {a r : Int} (ho : o.op = .convert s t x) (hd : o.dst=some d) (hN : Nat.blt d N=true)
  (hs : T.intK s=some ks) (ht : T.intK t=some kt) (hx : ev ρ x=some (.int k a)) (hr : kt.wrap a=r) (hK : K ((d, .int kt r) :: ρ) m L) : OT P N o ρ D m L Q K:=by
 obtain ⟨si,s1,s2⟩:=intK_get hs
 obtain ⟨ti,t1,t2⟩:=intK_get ht
 refine OT.run hd hN (fun ac w ha=>⟨w, ?_,ha.st⟩) hK
 have hus:=T.run_underlying w s1
 have hut:=T.run_underlying w t1
 rw [s2] at hus
 rw [t2] at hut
 simp only [execOp,ho,ha.env.eval hx,Go.convert,Sem.run_bind,hus,hut,Result.andThen_ok,Conv.intToInt,Sem.run_pure,hr]
theorem OT.half {t t' : TypeId} {x y : Operand} {k ky : IntKind} {d : Nat} {a r : Int} (ho : o.op = .binOp .shr t x y t') (hd : o.dst=some d) (hN : Nat.blt d N=true)
  (hx : ev ρ x=some (.int k a)) (hy : ev ρ y=some (.int ky 1)) (hb : 1 ≤ k.bits) (hr : a.fdiv 2=r) (hK : K ((d, .int k r) :: ρ) m L) : OT P N o ρ D m L Q K:=by
 refine OT.run hd hN (fun ac w ha=>⟨w, ?_,ha.st⟩) hK
 have hmin : min 1 k.bits=1:=by omega
 simp only [execOp,ho,ha.env.eval hx,ha.env.eval hy,Sem.run_bind,eqGuard,binOp,Op.shift]
 simp [hmin,hr]
theorem OT.cap (T : Tab P) {x : Operand} {t e : TypeId} {ei : TI} {s : Sl} {d : Nat} (ho : o.op = .call ⟨.builtin .cap,⟨[x]⟩,⟨[t]⟩⟩) (hd : o.dst=some d) (hN : Nat.blt d N=true)
  (hx : ev ρ x=some s.v) (he : T.elem t=some (e,ei)) (hK : K ((d, .int .i64 (s.cap : Int)) :: ρ) m L) : OT P N o ρ D m L Q K:=by
 obtain ⟨ti,h4,h5,h6⟩:=elem_get he
 refine OT.run hd hN (fun ac w ha=>⟨w, ?_,ha.st⟩) hK
 have hu:=T.run_underlying w h4
 rw [h5] at hu
 simp only [execOp,ho,resolve,invoke,builtin,Sem.run_bind,Sem.run_pure,Result.andThen_ok,List.map_toArray,List.map_cons,List.map_nil,ha.env.eval hx,Builtin.cap_,hu]
 simp [Builtin.cap_,hu,goInt]
theorem OT.cutS (T : Tab P) (lo hi : Nat) {s : Sl} {x : Operand} {lx hx : Option Operand} {lov hiv : Option Value} {t : TypeId} {d sz : Nat}
  (ho : o.op = .slice t x lx hx none) (hd : o.dst=some d) (hN : Nat.blt d N=true) (he : ev ρ x=some s.v) (h1 : evO ρ lx=some lov) (h2 : evO ρ hx=some hiv) (hsz : T.esize t=some sz)
  (g1 : (lov=none∧lo=0) ∨ lov=some (.int .i64 (lo : Int))) (g2 : (hiv=none∧hi=s.len) ∨ hiv=some (.int .i64 (hi : Int))) (hle : lo ≤ hi) (hhi : hi ≤ s.cap)
  (hK : K ((d, .slice (if s.cap=lo then s.a else s.a.map (·.add (lo * sz))) (hi - lo) (s.cap - lo)) :: ρ) m L) : OT P N o ρ D m L Q K:=by
 refine OT.run hd hN (fun ac w ha=>⟨w, ?_,ha.st⟩) hK
 have hr:=run_sliceAt (P:=P) (w:=w) T hsz g1 g2 hle hhi
 simp only [execOp,ho,ha.env.eval he,ha.env.evalO h1,ha.env.evalO h2,Option.map_none,Sem.run_bind,hr,Result.andThen_ok,Sem.run_pure]
theorem OT.copy (T : Tab P) (i : Nat) {x y : Operand} {t t2 e : TypeId} {ei : TI} {b off k n c : Nat} {s2 : Sl} {vs news : List Value} {d : Nat} (ho : o.op = .call ⟨.builtin .copy,⟨[x,y]⟩,⟨[t,t2]⟩⟩) (hd : o.dst=some d) (hN : Nat.blt d N=true)
  (hx : ev ρ x=some (.slice (some ⟨b,off + k,none⟩) n c)) (hy : ev ρ y=some s2.v) (he : T.elem t=some (e,ei)) (hsz : Nat.beq ei.size 1=true)
  (hsrc : ∀ w,St m w L→Src w ⟨s2.a,min s2.len n,s2.cap⟩ 1 news) (h1 : allOne news=true) (hi : L[i]? = some (.cells b off vs)) (hk : k + news.length ≤ vs.length)
  (hK : K ((d, .int .i64 ((min s2.len n : Nat) : Int)) :: ρ) m (L.set i (.cells b off (putAt vs k news)))) : OT P N o ρ D m L Q K:=by
 obtain ⟨ti,h4,h5,h6⟩:=elem_get he
 have hs1:=Nat.eq_of_beq_eq_true hsz
 intro ac w ha
 have hu:=T.run_underlying w h4
 rw [h5] at hu
 have hes:=T.run_sizeOf w h6
 rw [hs1] at hes
 have hst:=ha.st.at_ hi
 obtain ⟨w',hr,hst'⟩:=run_storeCells (P:=P) news vs k 0 w hst h1 (by omega)
 have hfirst:=run_first (P:=P) (hsrc w ha.st)
 have hfirst' : (Builtin.firstCells 1 (min s2.len n) s2.v).run P w = .ok ⟨news⟩ w:=by
  obtain ⟨a2,n2,c2⟩:=s2
  cases a2 <;> exact hfirst
 have he' : (execOp ac.eval o).run P w = .ok (.value (.int .i64 ((min s2.len n : Nat) : Int))) w':=by
  simp only [execOp,ho,resolve,invoke,builtin,Sem.run_bind,Sem.run_pure,Result.andThen_ok,List.map_toArray,List.map_cons,List.map_nil,ha.env.eval hx,ha.env.eval hy]
  have hlen : (Builtin.lenOf s2.v).run P w = .ok s2.len w:=rfl
  have hmin : Nat.min s2.len n=min s2.len n:=rfl
  simp [Builtin.copy_,hu,hes,hlen,hfirst',hr,goInt,hmin]
 simp only [Oper.wp,he',Oper.upon,hd]
 have hp:=ha.put hN (.int .i64 ((min s2.len n : Nat) : Int))
 exact ⟨_,_,_,⟨hp.size,hp.env,hp.defers,hst'.back hi⟩,hK⟩
section
variable {ops : List Oper} {ts : List Nat} {fuel : Nat} {listed : List Bool} {Ls Lp : List Item}
theorem DO.cutP (T : Tab P) (i : Nat) (lo hi : Nat) {x : Operand} {lx hx : Option Operand} {lov hiv : Option Value} {t : TypeId} {o : Oper} {d b off n c : Nat} (hc : Calm Q) (hns : Region.noSelect ⟨ops⟩ = true) (hok : orderOkP ops ts [i] listed=true)
  (hi' : ops[i]? = some o) (hg : gv ops ρ o=some true) (ho : o.op = .slice t x lx hx none) (hd : o.dst=some d) (hN : Nat.blt d N=true)
  (he : ev ρ x=some (.slice (some ⟨b,off,none⟩) n c)) (h1 : evO ρ lx=some lov) (h2 : evO ρ hx=some hiv) (hsz : T.esize t=some 1)
  (g1 : (lov=none∧lo=0) ∨ lov=some (.int .i64 (lo : Int))) (g2 : (hiv=none∧hi=n) ∨ hiv=some (.int .i64 (hi : Int))) (hle : lo ≤ hi) (hhi : hi ≤ c) (hlc : lo < c)
  (h : DO P N ops ts fuel (listed.set i true) ((d, .slice (some ⟨b,off + lo,none⟩) (hi - lo) (c - lo)) :: ρ) D m Ls Lp Q) : DO P N ops ts (fuel + 1) listed ρ D m Ls Lp Q:=by
 simp only [orderOkP,Bool.and_eq_true] at hok
 obtain ⟨o1,o2,o3,_⟩:=hok
 refine DO.takeP i hc hi' hd hN hg hns o1 o2 (by simpa using o3) (fun ac w hA => ?_) h
 have hr:=run_sliceAt (P:=P) (w:=w) T (s:=⟨some ⟨b,off,none⟩,n,c⟩) hsz g1 g2 hle hhi
 simp only [Sl.v] at hr
 simp only [execOp,ho,hA.eval he,hA.evalO h1,hA.evalO h2,Option.map_none,Sem.run_bind,hr,Result.andThen_ok,Sem.run_pure]
 rw [if_neg (by omega)]
 simp [addr_add]
end
theorem OT.callX {F : Operand} {args : List Operand} {ats : Array TypeId} {f : FuncId} {fn : Func} {E : Array Value→Sem Value} {vs : List Value} {v : Value} {d : Nat} (ho : o.op = .call ⟨.value F,⟨args⟩,ats⟩) (hd : o.dst=some d) (hN : Nat.blt d N=true)
  (hF : ev ρ F=some (.func (.func f) ⟨[]⟩ ⟨[]⟩)) (ha : evs ρ args=some vs) (hf : P.funcs[f]? = some fn) (hname : (fn.name == "runtime.NumGoroutine")=false) (hb : fn.body.isNone=true) (hn : Extern.findNext fn=none) (hE : Extern.find fn=some E)
  (hr : ∀ w,St m w L→(E ⟨vs⟩).run P w = .ok v w) (hK : K ((d,v) :: ρ) m L) : OT P N o ρ D m L Q K:=by
 refine OT.run hd hN (fun ac w hac=>⟨w, ?_,hac.st⟩) hK
 have hargs:=hac.env.evals ha
 have hcall:=run_callFunc_extern hf hname hb hn hE ⟨vs⟩ w
 rw [hr w hac.st] at hcall
 simp only [execOp,ho,resolve,hac.env.eval hF,Deferred.ofValue,Sem.run_bind,Sem.run_pure,Result.andThen_ok,invoke]
 rw [show (#[]++Array.map ac.eval ⟨args⟩ ++ #[] : Array Value) = ⟨vs⟩ by simp [hargs]]
 exact hcall
end
end Go.Sep


/- SepP -/
set_option linter.unusedVariables false
set_option linter.unusedSimpArgs false
namespace Go.Sep
section
variable {P : Program} {N : Nat} {ρ : Env} {D : List Deferred} {m : Mem} {L : List Item} {Q : EPost} {full : List Oper} {o : Oper} {K : Env→Mem→List Item→Prop}
end
end Go.Sep


/- SepR -/
set_option linter.unusedVariables false
set_option linter.unusedSimpArgs false
namespace Go.Sep
theorem Item.Free.weaken {m m' : Mem} (h : m ≤ m') {x : Item} (hf : x.Free m') : x.Free m where
 pin:=by rw [← h.pin];exact hf.pin
 c:=fun j hj=>by
  have h1:=hf.c j hj
  cases hc : m.c x.blk (x.off + j) with
  | none=>rfl
  | some v=>rw [h.c _ _ _ hc] at h1;cases h1
 o:=fun b o hx=>by
  have h1:=hf.o b o hx
  cases hc : m.o b with
  | none=>rfl
  | some v=>rw [h.o _ _ hc] at h1;cases h1
theorem St.weaken {m m' : Mem} {w : World} {L : List Item} (h : St m' w L) (hm : m ≤ m') : St m w L where
 os:=by rw [h.os,hm.pin]
 tape:=by rw [h.tape,hm.pin]
 output:=by rw [h.output,hm.pin]
 size:=by rw [← hm.pin];exact h.size
 pin:=by rw [← hm.pin];exact h.pin
 c:=fun b i v hv=>h.c b i v (hm.c b i v hv)
 o:=fun b x hx=>h.o b x (hm.o b x hx)
 t:=fun b x hx=>h.t b x (hm.t b x hx)
 items:=h.items
 free:=fun x hx=>(h.free x hx).weaken hm
 disj:=h.disj
theorem TCall.forget {P : Program} {f : FuncId} {args : Array Value} {m : Mem} {L : List Item} {v : Value} (h : TCall P f args m L (Made m L fun r _=>r=v)) : TCall P f args m L (Ret v m L) :=
 fun w hs=>(h w hs).mono fun e w' he=>by
  cases e with
  | returned v=>obtain ⟨m',L',h1,h2,rfl,rfl⟩:=he;exact ⟨m,L,h1.weaken h2,rfl,rfl,rfl⟩
  | panicked ch=>obtain ⟨_,_,_,hf⟩:=he;exact hf.elim
  | outgrown=>exact he
section
variable {P : Program} {N : Nat} {ρ : Env} {D : List Deferred} {m : Mem} {L : List Item} {Q : EPost} {o : Oper} {K : Env→Mem→List Item→Prop}
@[reducible] def byteV (b : UInt8) : Value := .int .u8 (b.toNat : Int)
def Tab.isStr {P : Program} (T : Tab P) (t : TypeId) : Bool :=
 match T.get t with
 | some ⟨.string,_,_,_⟩=>true
 | _=>false
theorem isStr_get {T : Tab P} {t : TypeId} (h : T.isStr t=true) : ∃ i,T.get t=some i∧i.u = .string:=by
 unfold Tab.isStr at h
 split at h
 ·exact ⟨_,by assumption,rfl⟩
 ·cases h
theorem getElem_data (s : Str) (k : Nat) {b : UInt8} (h : s[k]? = some b) : (⟨⟨s⟩⟩ : ByteArray)[k]? = some b:=by
 obtain ⟨hk,he⟩:=List.getElem?_eq_some_iff.1 h
 have hs : k < (⟨⟨s⟩⟩ : ByteArray).size:=hk
 rw [getElem?_pos _ k hs]
 exact congrArg some he
theorem OT.sidx (T : Tab P) {t : TypeId} {x y : Operand} {s : Str} {i : Int} {b : UInt8} {d : Nat} (k : Nat) (ho : o.op = .index t x y) (hd : o.dst=some d) (hN : Nat.blt d N=true)
  (ht : T.isStr t=true) (hx : ev ρ x=some (strV s)) (hy : ev ρ y=some (.int .i64 i)) (hi : i=(k : Int)) (hb : s[k]? = some b) (hK : K ((d,byteV b) :: ρ) m L) : OT P N o ρ D m L Q K:=by
 obtain ⟨ti,h1,h2⟩:=isStr_get ht
 subst hi
 refine OT.run hd hN (fun a w ha=>⟨w, ?_,ha.st⟩) hK
 have hu:=T.run_underlying w h1
 rw [h2] at hu
 have hg:=getElem_data s k hb
 simp only [execOp,ho,ha.env.eval hx,ha.env.eval hy,Instr.index,asIntOf,Sem.run_bind,Sem.run_pure,Result.andThen_ok,hu,Int.toNat_natCast,Int.natCast_nonneg,if_true,hg]
theorem u8_or (a b : Nat) (ha : a < 256) (hb : b < 256) : IntKind.wrap .u8 (((BitVec.ofInt 8 (a : Int)) ||| (BitVec.ofInt 8 (b : Int))).toNat : Int)=((a ||| b : Nat) : Int):=by
 have h1 : ((BitVec.ofInt 8 (a : Int)) ||| (BitVec.ofInt 8 (b : Int))).toNat=a ||| b:=by
  rw [BitVec.toNat_or]
  simp only [BitVec.ofInt_natCast,BitVec.toNat_ofNat]
  rw [Nat.mod_eq_of_lt (by omega),Nat.mod_eq_of_lt (by omega)]
 rw [h1]
 have h2 : a ||| b < 256:=Nat.or_lt_two_pow (n:=8) ha hb
 simp [IntKind.wrap,IntKind.signed,IntKind.bits]
 omega
theorem OT.orU8 {t t' : TypeId} {x y : Operand} {a b : Nat} {d : Nat} (ho : o.op = .binOp .or t x y t') (hd : o.dst=some d) (hN : Nat.blt d N=true)
  (hx : ev ρ x=some (.int .u8 (a : Int))) (hy : ev ρ y=some (.int .u8 (b : Int))) (ha' : a < 256) (hb' : b < 256) (hK : K ((d, .int .u8 ((a ||| b : Nat) : Int)) :: ρ) m L) : OT P N o ρ D m L Q K:=by
 refine OT.run hd hN (fun ac w ha=>⟨w, ?_,ha.st⟩) hK
 have hr:=u8_or a b ha' hb'
 simp only [execOp,ho,ha.env.eval hx,ha.env.eval hy,Sem.run_bind,eqGuard,binOp,Op.intBits]
 simp [IntKind.bits] at hr ⊢
 exact hr
theorem OT.concat {t t' : TypeId} {x y : Operand} {s u : Str} {d : Nat} (ho : o.op = .binOp .add t x y t') (hd : o.dst=some d) (hN : Nat.blt d N=true)
  (hx : ev ρ x=some (strV s)) (hy : ev ρ y=some (strV u)) (hl : s.length + u.length ≤ 9223372036854775807) (hK : K ((d,strV (s++u)) :: ρ) m L) : OT P N o ρ D m L Q K:=by
 refine OT.run hd hN (fun ac w ha=>⟨w, ?_,ha.st⟩) hK
 have h1 : ¬ (((⟨⟨s⟩⟩ : ByteArray).size + (⟨⟨u⟩⟩ : ByteArray).size : Nat) : Int) > IntKind.i64.max:=by
  show ¬ ((s.length + u.length : Nat) : Int) > IntKind.i64.max
  have : IntKind.i64.max=9223372036854775807:=by decide
  rw [this];omega
 have h2 : (⟨⟨s⟩⟩ : ByteArray)++(⟨⟨u⟩⟩ : ByteArray) = ⟨⟨s++u⟩⟩:=by
  apply ByteArray.ext
  simp
 simp only [execOp,ho,ha.env.eval hx,ha.env.eval hy,Sem.run_bind,eqGuard,binOp,Op.stringOp]
 rw [if_neg h1,h2]
 simp
def Tab.isFunc {P : Program} (T : Tab P) (t : TypeId) : Bool :=
 match T.get t with
 | some ⟨.func _ _ _,_,_,_⟩=>true
 | _=>false
theorem isFunc_get {T : Tab P} {t : TypeId} (h : T.isFunc t=true) : ∃ i a b c,T.get t=some i∧i.u = .func a b c:=by
 unfold Tab.isFunc at h
 split at h
 ·exact ⟨_,_,_,_,by assumption,rfl⟩
 ·cases h
theorem equalIn_nilFn {t : TypeId} {w : World} {a b c} (dd : Nat) (hu : (underlying t).run P w = .ok (.func a b c) w) :
  (Op.equalIn (dd + 1) t .nilFunc .nilFunc).run P w = .ok true w:=by
 simp only [Op.equalIn,Sem.run_bind,hu,Result.andThen_ok,Sem.run_pure]
theorem OT.nilFn (T : Tab P) {t t' : TypeId} {x y : Operand} {d : Nat} (ho : o.op = .binOp .eql t x y t') (hd : o.dst=some d) (hN : Nat.blt d N=true)
  (hx : ev ρ x=some .nilFunc) (hy : ev ρ y=some .nilFunc) (ht : T.isFunc t=true) (hK : K ((d, .bool true) :: ρ) m L) : OT P N o ρ D m L Q K:=by
 obtain ⟨ti,a,b,c,h1,h2⟩:=isFunc_get ht
 refine OT.run hd hN (fun ac w ha=>⟨w, ?_,ha.st⟩) hK
 have hu:=T.run_underlying w h1
 rw [h2] at hu
 have e1 : binOp .eql t .nilFunc .nilFunc=(do pure (.bool (← Op.equalIn (9999 + 1) t .nilFunc .nilFunc)) : Sem Value):=rfl
 have e2 : (eqGuard .eql t x y .nilFunc .nilFunc).run P w = .ok () w:=by simp [eqGuard]
 have h:=equalIn_nilFn (P:=P) 9999 hu
 simp only [execOp,ho,ha.env.eval hx,ha.env.eval hy,Sem.run_bind,e2,Result.andThen_ok,e1,h,Sem.run_pure]
theorem retQ_ret_c1 (T : Tab P) (i : Nat) {fn : Func} {R : Value→Mem→List Item→Prop} {X : List PanicEntry→Mem→List Item→Prop} {t : Nat} {ty : TypeId} {b : Nat} {cs : List Value} {v : Value} {L' : List Item}
  (hres : fn.results = ⟨[.cell t ty]⟩) (ht : look ρ t=some (.pointer (some ⟨b,0,none⟩))) (hi : L[i]? = some (.cells b 0 cs)) (hv : T.load ty cs 0=some v) (hs : L'.Sublist L)
  (h : R v m L') : retQ P fn R X .ret ρ [] m L:=by
 refine ⟨rfl,_,L',fun a w hA hst => ?_,hs,h⟩
 have h1:=run_loadVar (P:=P) T (k:=0) (hst.cells hi) hv
 have h2:=hA t _ ht
 unfold results
 rw [hres,Array.mapM_eq_mapM_toList]
 simp [Sem.run_bind,Sem.run_map,h2,asAddr,h1]
end
abbrev q1 := @TC.seq
abbrev q2 := @TC.block
abbrev q3 := @TC.region
abbrev q4 := @TO.pureP
abbrev q5 := @TO.nil
abbrev q6 := @thenQ_n
abbrev q7 := @blockQ_n
abbrev q8 := @thenQ_r
abbrev q9 := @blockQ_r
abbrev q10 := @thenQ_x
abbrev q11 := @blockQ_hit
abbrev q12 := @blockQ_miss
abbrev q13 := @TC.skip
abbrev q14 := @TC.exit
abbrev q15 := @TC.ret
abbrev q16 := @TC.cond_t
abbrev q17 := @TC.cond_f
abbrev qs := @TO.step
abbrev ql := @OT.loadL
abbrev qz := @OT.loadL0
end Go.Sep


/- ScScan -/
set_option linter.unusedVariables false
set_option linter.unusedSimpArgs false
namespace Go.Sep
open Go.Proofs
attribute [local irreducible] TC TO OT TCallX TCall DO DOt thenQ blockQ retQ At
def ltr (b : UInt8) : Bool:=decide (97 ≤ b.toNat∧b.toNat ≤ 122) || decide (65 ≤ b.toNat∧b.toNat ≤ 90) || decide (b.toNat=95)
def dgt (b : UInt8) : Bool:=decide (48 ≤ b.toNat∧b.toNat ≤ 57)
def lod (b : UInt8) : Bool:=ltr b || dgt b
theorem low_all : ∀ n : Fin 256,(97 ≤ n.val ||| 32∧n.val ||| 32 ≤ 122) ↔ ((97 ≤ n.val∧n.val ≤ 122) ∨ (65 ≤ n.val∧n.val ≤ 90)):=by decide +kernel
theorem low (b : UInt8) : (97 ≤ b.toNat ||| 32∧b.toNat ||| 32 ≤ 122) ↔ ((97 ≤ b.toNat∧b.toNat ≤ 122) ∨ (65 ≤ b.toNat∧b.toNat ≤ 90)):=low_all ⟨b.toNat,b.toNat_lt⟩
section
variable (m : Mem) (L : List Item) (b : UInt8)
set_option maxHeartbeats 400000 in
theorem letter_law : TCall Tryz.prog 95 ⟨[byteV b]⟩ m L (Ret (.bool (ltr b)) m L):=by
 unfold TCall
 refine TCallX.enter Tryz.func95 rfl 15 rfl ?_
 have hb : b.toNat < 256:=b.toNat_lt
 have hlow:=low b
 repeat (first|refine q1 ?_|refine q3 ?_|refine q4 tab rfl rfl ?_|refine q5 ?_|refine q6 ?_)
 refine TO.step rfl (OT.orU8 (b:=32) rfl rfl rfl rfl rfl hb (by decide) ?_)
 repeat (refine q4 tab rfl rfl ?_)
 (refine TO.splitP rfl rfl (fun h1 => ?_) (fun h1 => ?_))
 ·repeat (refine q4 tab rfl rfl ?_)
  refine TO.step rfl (OT.orU8 (b:=32) rfl rfl rfl rfl rfl hb (by decide) ?_)
  repeat (refine q4 tab rfl rfl ?_)
  (refine TO.splitP rfl rfl (fun h2 => ?_) (fun h2 => ?_))
  ·repeat (first|refine q4 tab rfl rfl ?_|refine q5 ?_|refine q6 ?_|refine q15 ?_)
   refine retQ_ret rfl (by repeat (exact List.Sublist.refl _)) ⟨rfl,rfl, ?_⟩
   refine congrArg Value.bool ?_
   have : ltr b=true:=by
    have:=hlow.1 ⟨by omega,by omega⟩
    unfold ltr
    rcases this with h | h <;> simp [h]
   simp [this,h2]
  ·repeat (first|refine q4 tab rfl rfl ?_|refine q5 ?_|refine q6 ?_|refine q15 ?_)
   refine retQ_ret rfl (by repeat (exact List.Sublist.refl _)) ⟨rfl,rfl, ?_⟩
   refine congrArg Value.bool ?_
   have h3 : ¬ (97 ≤ b.toNat∧b.toNat ≤ 122):=fun h=>by have:=hlow.2 (.inl h);omega
   have h4 : ¬ (65 ≤ b.toNat∧b.toNat ≤ 90):=fun h=>by have:=hlow.2 (.inr h);omega
   unfold ltr
   rw [decide_eq_false h3,decide_eq_false h4]
   simp only [Bool.false_or]
   congr 1
   apply propext
   omega
 ·repeat (first|refine q4 tab rfl rfl ?_|refine q5 ?_|refine q6 ?_|refine q15 ?_)
  refine retQ_ret rfl (by repeat (exact List.Sublist.refl _)) ⟨rfl,rfl, ?_⟩
  refine congrArg Value.bool ?_
  have h3 : ¬ (97 ≤ b.toNat∧b.toNat ≤ 122):=fun h=>by have:=hlow.2 (.inl h);omega
  have h4 : ¬ (65 ≤ b.toNat∧b.toNat ≤ 90):=fun h=>by have:=hlow.2 (.inr h);omega
  unfold ltr
  rw [decide_eq_false h3,decide_eq_false h4]
  simp only [Bool.false_or]
  congr 1
  apply propext
  omega
set_option maxHeartbeats 400000 in
theorem digit_law : TCall Tryz.prog 98 ⟨[byteV b]⟩ m L (Ret (.bool (dgt b)) m L):=by
 unfold TCall
 refine TCallX.enter Tryz.func98 rfl 9 rfl ?_
 repeat (first|refine q1 ?_|refine q3 ?_|refine q4 tab rfl rfl ?_|refine q5 ?_|refine q6 ?_)
 (refine TO.splitP rfl rfl (fun h1 => ?_) (fun h1 => ?_))
 ·repeat (first|refine q4 tab rfl rfl ?_|refine q5 ?_|refine q6 ?_|refine q15 ?_)
  refine retQ_ret rfl (by repeat (exact List.Sublist.refl _)) ⟨rfl,rfl, ?_⟩
  refine congrArg Value.bool ?_
  unfold dgt
  congr 1
  apply propext
  omega
 ·repeat (first|refine q4 tab rfl rfl ?_|refine q5 ?_|refine q6 ?_|refine q15 ?_)
  refine retQ_ret rfl (by repeat (exact List.Sublist.refl _)) ⟨rfl,rfl, ?_⟩
  refine congrArg Value.bool ?_
  unfold dgt
  symm
  apply decide_eq_false
  omega
end
def IsClass (m : Mem) (L : List Item) (fn : FuncId) (cap : List Value) (p : UInt8→Bool) : Prop:=Goes Tryz.prog fn ∧ ∀ b : UInt8,TCall Tryz.prog fn ⟨byteV b :: cap⟩ m L (Ret (.bool (p b)) m L)
set_option maxHeartbeats 400000 in
theorem either_cl (m : Mem) (L : List Item) (b : UInt8) (b1 b2 : Nat) (h1 : At m b1 0 [.func (.func 95) ⟨[]⟩ ⟨[]⟩]) (h2 : At m b2 0 [.func (.func 98) ⟨[]⟩ ⟨[]⟩]) :
  TCall Tryz.prog 134 ⟨[byteV b, .pointer (some ⟨b1,0,none⟩), .pointer (some ⟨b2,0,none⟩)]⟩ m L (Ret (.bool (lod b)) m L):=by
 unfold TCall
 refine TCallX.enter Tryz.func134 rfl 13 rfl ?_
 repeat (first|refine q1 ?_|refine q3 ?_|refine q4 tab rfl rfl ?_|refine q5 ?_|refine q6 ?_)
 (refine TO.step rfl (OT.loadA0 tab h1 rfl rfl rfl rfl rfl ?_))
 repeat (refine q4 tab rfl rfl ?_)
 refine TO.step rfl (OT.call rfl rfl rfl rfl rfl rfl goes95 ((letter_law m L b).x ?_));
 rintro _ _ _ ⟨rfl,rfl,rfl⟩
 repeat (refine q4 tab rfl rfl ?_)
 (refine TO.split rfl rfl (fun h3 => ?_) (fun h3 => ?_))
 ·repeat (first|refine q4 tab rfl rfl ?_|refine q5 ?_|refine q6 ?_|refine q15 ?_)
  refine retQ_ret rfl (by repeat (exact List.Sublist.refl _)) ⟨rfl,rfl, ?_⟩
  unfold lod
  rw [h3];rfl
 ·skip
  (refine TO.step rfl (OT.loadA0 tab h2 rfl rfl rfl rfl rfl ?_))
  repeat (refine q4 tab rfl rfl ?_)
  refine TO.step rfl (OT.call rfl rfl rfl rfl rfl rfl goes98 ((digit_law m L b).x ?_));
  rintro _ _ _ ⟨rfl,rfl,rfl⟩
  repeat (first|refine q4 tab rfl rfl ?_|refine q5 ?_|refine q6 ?_|refine q15 ?_)
  refine retQ_ret rfl (by repeat (exact List.Sublist.refl _)) ⟨rfl,rfl, ?_⟩
  unfold lod
  rw [h3];rfl
set_option maxHeartbeats 400000 in
theorem either_law (m : Mem) (L : List Item) : TCall Tryz.prog 97 ⟨[.func (.func 95) ⟨[]⟩ ⟨[]⟩, .func (.func 98) ⟨[]⟩ ⟨[]⟩]⟩ m L
  (Made m L fun r m' => ∃ b1 b2,r = .func (.func 134) ⟨[]⟩ ⟨[.pointer (some ⟨b1,0,none⟩), .pointer (some ⟨b2,0,none⟩)]⟩ ∧ At m' b1 0 [.func (.func 95) ⟨[]⟩ ⟨[]⟩]∧At m' b2 0 [.func (.func 98) ⟨[]⟩ ⟨[]⟩]):=by
 unfold TCall
 refine TCallX.enter Tryz.func97 rfl 6 rfl ?_
 repeat (first|refine q1 ?_|refine q3 ?_)
 refine TO.step rfl (OT.box rfl rfl rfl rfl rfl (fun b1 => ?_))
 skip
 refine TO.step rfl (OT.box rfl rfl rfl rfl rfl (fun b2 => ?_))
 refine TO.freeze fun m1 hm1 hA1 => ?_
 refine TO.freeze fun m2 hm2 hA2 => ?_
 repeat (first|refine q1 ?_|refine q3 ?_|refine q4 tab rfl rfl ?_|refine q5 ?_|refine q6 ?_|refine q15 ?_)
 refine retQ_ret rfl (by repeat (exact List.Sublist.refl _)) ⟨Mem.le_trans hm1 hm2,rfl,b1,b2,rfl,hA2,hA1.mono hm2⟩
def spanOf (p : UInt8→Bool) (s : Str) : Nat:=(s.takeWhile p).length
set_option maxHeartbeats 400000 in
theorem span_law (m : Mem) (L : List Item) (s : Str) (hs : s.length ≤ 140737488355328) (p : UInt8→Bool) (fn : FuncId) (cap : List Value) (hc : IsClass m L fn cap p) :
  TCall Tryz.prog 96 ⟨[strV s, .func (.func fn) ⟨[]⟩ ⟨cap⟩]⟩ m L (Ret (.int .i64 (spanOf p s)) m L):=by
 unfold TCall
 refine TCallX.enter Tryz.func96 rfl 20 rfl ?_
 repeat (first|refine q1 ?_|refine q2 ?_|refine q3 ?_|refine q4 tab rfl rfl ?_|refine q5 ?_|refine q6 ?_)
 refine TC.loopK (ι:=Nat) [0,1] rfl (fun k=>[(5, .int .i64 (k : Int))]) (fun _=>m) (fun _=>L) (fun k=>k ≤ s.length∧spanOf p s=k + spanOf p (s.drop k)) (fun k=>s.length - k) 0 (by repeat (first|exact trivial|refine And.intro rfl ?_)) rfl (by repeat (exact List.Sublist.refl _)) ⟨Nat.zero_le _,by simp⟩ ?_
 rintro k ⟨hk,hI⟩
 repeat (first|refine q1 ?_|refine q3 ?_|refine q4 tab rfl rfl ?_)
 (refine TO.splitP rfl rfl (fun h1 => ?_) (fun h1 => ?_))
 ·repeat (refine q4 tab rfl rfl ?_)
  have hlt : k < s.length:=by omega
  have hx : s[k]? = some s[k]:=by simp [hlt]
  refine TO.step rfl (OT.sidx tab k rfl rfl rfl rfl rfl rfl rfl hx ?_)
  skip
  refine TO.step rfl (OT.call (all:=byteV s[k] :: cap) rfl rfl rfl rfl rfl (by rw [fl_eq];rfl) hc.1 ((hc.2 s[k]).x ?_))
  rintro _ _ _ ⟨rfl,rfl,rfl⟩
  repeat (first|refine q4 tab rfl rfl ?_|refine q5 ?_|refine q6 ?_)
  refine TC.cond rfl (fun h2 => ?_) (fun h2 => ?_)
  ·repeat (first|refine q2 ?_|refine q3 ?_|refine q4 tab rfl rfl ?_|refine q6 ?_|refine q13 ?_)
   refine TO.step rfl (OT.arith (r':=((k + 1 : Nat) : Int)) rfl rfl rfl rfl rfl rfl rfl (by omega) ?_)
   repeat (first|refine q4 tab rfl rfl ?_|refine q5 ?_|refine q6 ?_|refine q7 ?_)
   refine ⟨k + 1,(by repeat (first|exact trivial|refine And.intro rfl ?_)),(by repeat (first|exact trivial|refine And.intro rfl ?_)),rfl,rfl,(by repeat (exact List.Sublist.refl _)),⟨by omega, ?_⟩,by omega⟩
   rw [hI,List.drop_eq_getElem_cons hlt,spanOf,spanOf,List.takeWhile_cons_of_pos h2]
   simp;omega
  ·repeat (first|refine q1 ?_|refine q3 ?_|refine q4 tab rfl rfl ?_|refine q5 ?_|refine q6 ?_|refine q10 ?_|refine q11 ?_|refine q14 ?_|refine q15 ?_)
   refine retQ_ret rfl (by repeat (exact List.Sublist.refl _)) ⟨rfl,rfl, ?_⟩
   rw [hI,List.drop_eq_getElem_cons hlt,spanOf,List.takeWhile_cons_of_neg (by simp [h2])]
   simp
 ·repeat (first|refine q1 ?_|refine q3 ?_|refine q4 tab rfl rfl ?_|refine q5 ?_|refine q6 ?_|refine q10 ?_|refine q11 ?_|refine q14 ?_|refine q15 ?_|refine q17 rfl ?_)
  refine retQ_ret rfl (by repeat (exact List.Sublist.refl _)) ⟨rfl,rfl, ?_⟩
  rw [hI,List.drop_eq_nil_of_le (by omega)]
  simp [spanOf]
end Go.Sep


/- ScSlices -/
set_option linter.unusedVariables false
set_option linter.unusedSimpArgs false
namespace Go.Sep
open Go.Proofs
attribute [local irreducible] TC TO OT TCallX TCall DO DOt thenQ blockQ retQ At
def idx {α : Type} [DecidableEq α] : List α → α → Nat→Int
 | [],_,_ => -1
 | x :: xs,v,k=>if v=x then (k : Int) else idx xs v (k + 1)
theorem idx_not {α : Type} [DecidableEq α] : ∀ (l : List α) (v : α) (k : Nat),v ∉ l→idx l v k = -1
 | [],_,_,_=>rfl
 | x :: xs,v,k,h=>by
  rw [idx,if_neg (fun e=>h (by simp [e])),idx_not xs v (k + 1) (fun e=>h (by simp [e]))]
theorem idx_mem {α : Type} [DecidableEq α] : ∀ (l : List α) (v : α) (k : Nat),v ∈ l → ∃ j,l[j]? = some v∧idx l v k=((k + j : Nat) : Int)
 | [],_,_,h=>by cases h
 | x :: xs,v,k,h=>by
  by_cases e : v=x
  ·exact ⟨0,by simp [e],by rw [idx,if_pos e];rfl⟩
  ·have h' : v ∈ xs:=by
    rcases List.mem_cons.1 h with h | h
    ·exact absurd h e
    ·exact h
   obtain ⟨j,h1,h2⟩:=idx_mem xs v (k + 1) h'
   exact ⟨j + 1,by simpa using h1,by rw [idx,if_neg e,h2];congr 1;omega⟩
theorem idx_ge {α : Type} [DecidableEq α] (l : List α) (v : α) : decide (0 ≤ idx l v 0)=decide (v ∈ l):=by
 by_cases h : v ∈ l
 ·obtain ⟨j,_,h2⟩:=idx_mem l v 0 h
  simp [h,h2]
 ·simp [h,idx_not l v 0 h]
def idxP {α : Type} : List α → (α → Bool)→Nat→Int
 | [],_,_ => -1
 | x :: xs,p,k=>if p x=true then (k : Int) else idxP xs p (k + 1)
theorem idxP_ge0 {α : Type} : ∀ (l : List α) (p : α → Bool) (k : Nat),decide (0 ≤ idxP l p k)=l.any p
 | [],p,k=>by simp [idxP]
 | x :: xs,p,k=>by
  simp only [idxP,List.any_cons]
  split
  ·rename_i h;simp [h]
  ·rename_i h;rw [idxP_ge0 xs p (k + 1)];simp [h]
theorem idxP_ge {α : Type} (l : List α) (p : α → Bool) : decide (0 ≤ idxP l p 0)=l.any p:=idxP_ge0 l p 0
set_option maxHeartbeats 400000 in
theorem index_str (m : Mem) (L : List Item) (s : Sl) (l : List Str) (v : Str) (hs : SlRep rStr m s l) :
  TCall Tryz.prog 135 ⟨[s.v,strV v]⟩ m L (Ret (.int .i64 (idx l v 0)) m L):=by
 unfold TCall
 refine TCallX.enter Tryz.func135 rfl 19 rfl ?_
 repeat (first|refine q1 ?_|refine q2 ?_|refine q3 ?_|refine q4 tab rfl rfl ?_|refine q5 ?_|refine q6 ?_)
 refine TC.loopK (ι:=Nat) [0,1,7] rfl (fun k=>[(8, .int .i64 (k : Int))]) (fun _=>m) (fun _=>L) (fun k=>k ≤ l.length∧idx l v 0=idx (l.drop k) v k) (fun k=>l.length - k) 0 (by repeat (first|exact trivial|refine And.intro rfl ?_)) rfl (by repeat (exact List.Sublist.refl _)) ⟨Nat.zero_le _,rfl⟩ ?_
 rintro k ⟨hk,hI⟩
 have hl:=hs.len
 have hsm:=hs.small rfl
 repeat (first|refine q1 ?_|refine q3 ?_|refine q4 tab rfl rfl ?_|refine q5 ?_|refine q6 ?_)
 refine TC.condP rfl (fun h => ?_) (fun h => ?_)
 ·have hlt : k < l.length:=by omega
  have hx : l[k]? = some l[k]:=by simp [hlt]
  repeat (first|refine q1 ?_|refine q2 ?_|refine q3 ?_|refine q4 tab rfl rfl ?_|refine q5 ?_|refine q6 ?_|refine q13 ?_)
  refine TO.step rfl (OT.index tab rStr k hs rfl rfl rfl rfl rfl (by first | rfl | omega | (simp only;omega)) rfl hx ?_)
  rintro b i hd rfl hA
  (refine TO.step rfl (OT.loadA0 tab hA rfl rfl rfl rfl rfl ?_))
  repeat (first|refine q4 tab rfl rfl ?_|refine q5 ?_|refine q6 ?_)
  refine TC.condP rfl (fun h => ?_) (fun h => ?_)
  ·repeat (first|refine q1 ?_|refine q3 ?_|refine q4 tab rfl rfl ?_|refine q5 ?_|refine q6 ?_|refine q8 ?_|refine q9 ?_|refine q15 ?_)
   refine retQ_ret rfl (by repeat (exact List.Sublist.refl _)) ⟨rfl,rfl, ?_⟩
   rw [hI,List.drop_eq_getElem_cons hlt,idx,if_pos h]
  ·repeat (first|refine q3 ?_|refine q6 ?_|refine q7 ?_|refine q13 ?_)
   refine TO.step rfl (OT.arith (r':=((k + 1 : Nat) : Int)) rfl rfl rfl rfl rfl rfl rfl (by omega) ?_)
   repeat (first|refine q4 tab rfl rfl ?_|refine q5 ?_|refine q6 ?_)
   exact ⟨k + 1,(by repeat (first|exact trivial|refine And.intro rfl ?_)),(by repeat (first|exact trivial|refine And.intro rfl ?_)),rfl,rfl,(by repeat (exact List.Sublist.refl _)),⟨by omega,by rw [hI,List.drop_eq_getElem_cons hlt,idx,if_neg h]⟩,by omega⟩
 ·repeat (first|refine q1 ?_|refine q3 ?_|refine q4 tab rfl rfl ?_|refine q5 ?_|refine q6 ?_|refine q10 ?_|refine q11 ?_|refine q14 ?_|refine q15 ?_)
  refine retQ_ret rfl (by repeat (exact List.Sublist.refl _)) ⟨rfl,rfl, ?_⟩
  rw [hI,List.drop_eq_nil_of_le (by omega)]
  rfl
set_option maxHeartbeats 400000 in
theorem contains_str (m : Mem) (L : List Item) (s : Sl) (l : List Str) (v : Str) (hs : SlRep rStr m s l) :
  TCall Tryz.prog 99 ⟨[s.v,strV v]⟩ m L (Ret (.bool (decide (v ∈ l))) m L):=by
 unfold TCall
 refine TCallX.enter Tryz.func99 rfl 9 rfl ?_
 repeat (first|refine q1 ?_|refine q3 ?_|refine q4 tab rfl rfl ?_|refine q5 ?_|refine q6 ?_)
 refine TO.step rfl (OT.call rfl rfl rfl rfl rfl rfl goes135 ((index_str m L s l v hs).x ?_));
 rintro _ _ _ ⟨rfl,rfl,rfl⟩
 repeat (first|refine q4 tab rfl rfl ?_|refine q5 ?_|refine q6 ?_|refine q15 ?_)
 refine retQ_ret rfl (by repeat (exact List.Sublist.refl _)) ⟨rfl,rfl, ?_⟩
 exact congrArg Value.bool (by rw [idx_ge];try congr)
end Go.Sep


/- ScName -/
set_option linter.unusedVariables false
set_option linter.unusedSimpArgs false
namespace Go.Sep
open Go.Proofs
attribute [local irreducible] TC TO OT TCallX TCall DO DOt thenQ blockQ retQ At
def wordL : List Str:=[[116,121,112,101],[115,116,114,117,99,116],[105,110,116,101,114,102,97,99,101],[102,117,110,99],[118,97,114],[105,102],[101,108,115,101],[102,111,114],[114,101,116,117,114,110],[98,114,101,97,107],[99,111,110,116,105,110,117,101],[116,114,117,101],[102,97,108,115,101],[110,105,108]]
def isName (s : Str) : Bool:=decide (0 < s.length) && (decide (s.length ≤ 64) && (!(s.head?.any dgt) && (s.all lod && !decide (s ∈ wordL))))
theorem all_refl2 {m : Mem} : ∀ l : List Str,All2 (rStr.rep m) l l
 | []=>trivial
 | _ :: l=>⟨rfl,all_refl2 l⟩
theorem words_rep {m : Mem} {b : Nat} (h : At m b 0 (encs rStr wordL)) : SlRep rStr m ⟨some ⟨b,0,none⟩,14,14⟩ wordL :=
 ⟨rfl,Nat.le_refl _,(by show 14 * 16 ≤ _;decide),wordL,all_refl2 wordL, .inr ⟨b,0,rfl,h⟩⟩
set_option maxHeartbeats 400000 in
theorem words_law (m : Mem) (L : List Item) : TCall Tryz.prog 100 ⟨[]⟩ m L (Made m L fun r m' => ∃ s : Sl,r=s.v∧SlRep rStr m' s wordL):=by
 unfold TCall
 refine TCallX.enter Tryz.func100 rfl 2 rfl ?_
 repeat (first|refine q1 ?_|refine q3 ?_|refine q4 tab rfl rfl ?_|refine q5 ?_|refine q6 ?_)
 refine TO.step rfl (OT.lit tab rfl rfl rfl rfl (fun b => ?_))
 refine TO.freeze fun m1 hm1 hA1 => ?_
 repeat (first|refine q4 tab rfl rfl ?_|refine q5 ?_|refine q6 ?_|refine q15 ?_)
 exact retQ_ret rfl (by repeat (exact List.Sublist.refl _)) ⟨hm1,rfl,_,rfl,words_rep hA1⟩
theorem span_full (p : UInt8→Bool) (s : Str) : spanOf p s=s.length ↔ s.all p=true:=by
 unfold spanOf
 induction s with
 | nil=>simp
 | cons x xs ih =>
  by_cases h : p x=true
  ·rw [List.takeWhile_cons_of_pos h];simp [h,ih]
  ·rw [List.takeWhile_cons_of_neg h];simp [h]
theorem dgt_ltr (b : UInt8) : ltr b=(lod b && !dgt b):=by
 have hb : b.toNat < 256:=b.toNat_lt
 unfold lod ltr dgt
 rw [Bool.eq_iff_iff]
 simp only [Bool.or_eq_true,Bool.and_eq_true,decide_eq_true_eq,Bool.not_eq_true',decide_eq_false_iff_not]
 omega
theorem isName_eq {s : Str} (h : 0 < s.length) : isName s=(decide (s.length ≤ 64) && (ltr s[0] && (s.all lod && !decide (s ∈ wordL)))):=by
 cases s with
 | nil=>cases h
 | cons x xs =>
  unfold isName
  rw [decide_eq_true h,Bool.true_and]
  congr 1
  simp only [List.head?_cons,Option.any_some,List.getElem_cons_zero,dgt_ltr,List.all_cons]
  cases dgt x <;> cases lod x <;> simp
set_option maxHeartbeats 400000 in
theorem name_law (m : Mem) (L : List Item) (s : Str) (hs : s.length ≤ 140737488355328) : TCall Tryz.prog 53 ⟨[strV s]⟩ m L (Ret (.bool (isName s)) m L):=by
 refine TCall.forget ?_
 unfold TCall
 refine TCallX.enter Tryz.func53 rfl 29 rfl ?_
 repeat (first|refine q1 ?_|refine q3 ?_|refine q4 tab rfl rfl ?_|refine q5 ?_|refine q6 ?_)
 (refine TO.splitN rfl rfl (fun h1 => ?_) (fun h1 => ?_))
 ·repeat (refine q4 tab rfl rfl ?_)
  (refine TO.splitP rfl rfl (fun h2 => ?_) (fun h2 => ?_))
  ·repeat (refine q4 tab rfl rfl ?_)
   have hlt : 0 < s.length:=List.length_pos_iff.2 h1
   have hx : s[0]? = some s[0]:=by simp [hlt]
   refine TO.step rfl (OT.sidx tab 0 rfl rfl rfl rfl rfl rfl rfl hx ?_)
   skip
   refine TO.step rfl (OT.call rfl rfl rfl rfl rfl rfl goes95 ((letter_law m L s[0]).x ?_));
   rintro _ _ _ ⟨rfl,rfl,rfl⟩
   repeat (refine q4 tab rfl rfl ?_)
   (refine TO.split rfl rfl (fun h3 => ?_) (fun h3 => ?_))
   ·repeat (refine q4 tab rfl rfl ?_)
    refine TO.step rfl (OT.call rfl rfl rfl rfl rfl rfl goes97 ((either_law m L).x ?_));
    rintro _ m1 _ ⟨hm1,rfl,b1,b2,rfl,hA1,hA2⟩
    skip
    refine TO.step rfl (OT.call rfl rfl rfl rfl rfl rfl goes96 ((span_law m1 L s hs lod 134 _ ⟨goes134,fun b=>either_cl m1 L b b1 b2 hA1 hA2⟩).x ?_));
    rintro _ _ _ ⟨rfl,rfl,rfl⟩
    repeat (refine q4 tab rfl rfl ?_)
    (refine TO.splitP rfl rfl (fun h4 => ?_) (fun h4 => ?_))
    ·skip
     refine TO.step rfl (OT.call rfl rfl rfl rfl rfl rfl goes100 ((words_law m1 L).x ?_));
     rintro _ m2 _ ⟨hm2,rfl,w,rfl,hw⟩
     repeat (refine q4 tab rfl rfl ?_)
     refine TO.step rfl (OT.call rfl rfl rfl rfl rfl rfl goes99 ((contains_str m2 L w wordL s hw).x ?_));
     rintro _ _ _ ⟨rfl,rfl,rfl⟩
     repeat (first|refine q4 tab rfl rfl ?_|refine q5 ?_|refine q6 ?_|refine q15 ?_)
     refine retQ_ret rfl (by repeat (exact List.Sublist.refl _)) ⟨Mem.le_trans hm1 hm2,rfl, ?_⟩
     rw [isName_eq hlt,decide_eq_true (by omega),h3,(span_full lod s).1 (by omega)];rfl
    ·repeat (first|refine q4 tab rfl rfl ?_|refine q5 ?_|refine q6 ?_|refine q15 ?_)
     refine retQ_ret rfl (by repeat (exact List.Sublist.refl _)) ⟨hm1,rfl, ?_⟩
     have h5 : s.all lod=false:=Bool.eq_false_iff.2 (fun h=>h4 (by have:=(span_full lod s).2 h;omega))
     rw [isName_eq hlt,decide_eq_true (by omega),h3,h5];rfl
   ·repeat (first|refine q4 tab rfl rfl ?_|refine q5 ?_|refine q6 ?_|refine q15 ?_)
    refine retQ_ret rfl (by repeat (exact List.Sublist.refl _)) ⟨Mem.le_refl _,rfl, ?_⟩
    rw [isName_eq hlt,decide_eq_true (by omega),h3];rfl
  ·repeat (first|refine q4 tab rfl rfl ?_|refine q5 ?_|refine q6 ?_|refine q15 ?_)
   refine retQ_ret rfl (by repeat (exact List.Sublist.refl _)) ⟨Mem.le_refl _,rfl, ?_⟩
   have hlt : 0 < s.length:=List.length_pos_iff.2 h1
   rw [isName_eq hlt,decide_eq_false (by omega)];rfl
 ·repeat (first|refine q4 tab rfl rfl ?_|refine q5 ?_|refine q6 ?_|refine q15 ?_)
  refine retQ_ret rfl (by repeat (exact List.Sublist.refl _)) ⟨Mem.le_refl _,rfl, ?_⟩
  rw [h1];rfl
end Go.Sep


/- SepS -/
set_option linter.unusedVariables false
set_option linter.unusedSimpArgs false
namespace Go.Sep
variable {κ : Type} [DecidableEq κ]
section
variable {P : Program} {N : Nat} {ρ : Env} {D : List Deferred} {m : Mem} {L : List Item} {Q : EPost} {o : Oper} {full : List Oper} {K : Env→Mem→List Item→Prop}
end
end Go.Sep


/- SepT -/
set_option linter.unusedVariables false
set_option linter.unusedSimpArgs false
namespace Go.Sep
section
variable {P : Program} {N : Nat} {ρ : Env} {D : List Deferred} {m : Mem} {L : List Item} {Q : EPost} {o : Oper} {full : List Oper} {K : Env→Mem→List Item→Prop}
end
end Go.Sep


/- SepU -/
set_option linter.unusedVariables false
set_option linter.unusedSimpArgs false
namespace Go.Sep
section
variable {P : Program} {N : Nat} {ρ : Env} {D : List Deferred} {m : Mem} {L : List Item} {Q : EPost} {full : List Oper} {o : Oper} {K : Env→Mem→List Item→Prop}
theorem OT.growNil (T : Tab P) {x y : Operand} {t t2 e : TypeId} {ei : TI} {kz : IntKind} {z : Nat} {iv : Int} {d : Nat} (hz0 : 0 < z) (hiv : iv=(z : Int))
  (ho : o.op = .call ⟨.builtin .append,⟨[x,y]⟩,⟨[t,t2]⟩⟩) (hd : o.dst=some d) (hN : Nat.blt d N=true) (hx : ev ρ x=some (.slice none 0 0)) (hy : ev ρ y=some (.int .i64 iv)) (he : T.elem t=some (e,ei)) (ht2 : T.intK t2=some kz)
  (hb : Nat.blt 0 ei.bytes=true) {sz : Nat} (hzs : (cellsF ei.zero).map List.length=some sz) (hsz : Nat.beq ei.size sz=true) (hfit : z * ei.bytes ≤ 140737488355328)
  (hK : ∀ b c,z ≤ c→K ((d, .slice (some ⟨b,0,none⟩) z c) :: ρ) m (.room b 0 (c * sz) :: L)) : OT P N o ρ D m L Q K:=by
 obtain ⟨ti,h4,h5,h6⟩:=elem_get he
 obtain ⟨si,s1,s2⟩:=intK_get ht2
 obtain ⟨_,_,hu,_⟩:=T.ok t ti h4
 rw [h5] at hu
 obtain ⟨_,_,hu2,_⟩:=T.ok t2 si s1
 rw [s2] at hu2
 obtain ⟨info,q1,q2,q3,q4,q5⟩:=T.ok e ei h6
 have hbp : 0 < ei.bytes:=by simpa [Nat.blt_eq] using hb
 have hs1 : ei.size=sz:=Nat.eq_of_beq_eq_true hsz
 subst hs1
 have hbound : z ≤ 140737488355328:=Nat.le_trans (Nat.le_mul_of_pos_right _ hbp) hfit
 have hzc : ei.zero.cells.size=ei.size:=by
  cases hc : cellsF ei.zero with
  | none=>rw [hc] at hzs;cases hzs
  | some l=>rw [hc] at hzs;rw [cellsF_eq hc];simpa using hzs
 intro ac w ha
 have h48 : ¬ (Builtin.nextslicecap z 0 * ei.bytes > 281474976710656):=by
  have:=growslice_fits (need:=z) (old:=0) (bytes:=ei.bytes) (by omega) hfit
  omega
 obtain ⟨nc,hnc,hge⟩ : ∃ nc,nc=(Question.appendCap z 0 e).cut (w.tape w.drawn (.appendCap z 0 e))∧z ≤ nc:=⟨_,rfl,by simp [Question.cut]⟩
 have hw : iv=((z : Nat) : Int):=hiv
 have hzb : ¬ ((z : Int) * (ei.bytes : Int) > 281474976710656):=by
  have h2 : ((z : Int) * (ei.bytes : Int))=((z * ei.bytes : Nat) : Int):=by simp
  rw [h2];omega
 have hwrap : IntKind.i64.wrap (z : Int)=(z : Int):=wrap64_in (by omega) (by omega)
 have hb0 : ei.bytes ≠ 0:=by omega
 have hmax : ¬ (9223372036854775807 < (z : Int)):=by omega
 have hneg : ¬ ((z : Int) < 0):=by omega
 have hzn : ¬ (z=0):=by omega
 have hst:=ha.st.drew.allocCells (Builtin.zeroCells ei.zero.cells z++Builtin.zeroCells ei.zero.cells (nc - z)) e
 have hr : (Builtin.append_ #[t,t2] o.type #[.slice none 0 0, .int .i64 iv]).run P w = .ok (.slice (some ⟨w.heap.size,0,none⟩) z nc) (w.drew.alloc (.cells (Builtin.zeroCells ei.zero.cells z++Builtin.zeroCells ei.zero.cells (nc - z)) e)):=by
  subst hw
  simp [Builtin.append_,run_underlying hu,run_underlying hu2,sizeOf,typeInfo,zeroValue,q1,q3,q4,q5,asInt,asIntOf,hwrap,hneg,hzb,h48,hmax,hzn,Question.forced,newRow,← hnc,IntKind.max,IntKind.signed,IntKind.bits,hb0,Builtin.firstCells,Builtin.lenOf]
  intro h0
  have : Builtin.zeroCells ei.zero.cells z = #[]:=Array.eq_empty_of_size_eq_zero (by rw [size_zeroCells,hzc];exact h0)
  rw [this,Array.empty_append]
 have he' : (execOp ac.eval o).run P w = .ok (.value (.slice (some ⟨w.heap.size,0,none⟩) z nc)) (w.drew.alloc (.cells (Builtin.zeroCells ei.zero.cells z++Builtin.zeroCells ei.zero.cells (nc - z)) e)):=by
  simp only [execOp,ho,resolve,invoke,builtin,Sem.run_bind,Sem.run_pure,Result.andThen_ok,List.map_toArray,List.map_cons,List.map_nil,ha.env.eval hx,ha.env.eval hy,hr]
 simp only [Oper.wp,he',Oper.upon,hd]
 have hp:=ha.put hN (.slice (some ⟨w.heap.size,0,none⟩) z nc)
 have hk:=hK w.heap.size nc hge
 have hlen : (Builtin.zeroCells ei.zero.cells z++Builtin.zeroCells ei.zero.cells (nc - z)).toList.length=nc * ei.size:=by
  rw [Array.length_toList,Array.size_append,size_zeroCells,size_zeroCells,hzc,← Nat.add_mul]
  congr 1;omega
 have hst':=hst.toRoom
 rw [hlen] at hst'
 exact ⟨_,_,_,⟨hp.size,hp.env,hp.defers,hst'⟩,hk⟩
end
section
variable {κ : Type} [DecidableEq κ]
end
end Go.Sep


/- SepV -/
set_option linter.unusedVariables false
set_option linter.unusedSimpArgs false
namespace Go.Sep
theorem encs_cons {H α : Type} (r : R H α) (x : H) (xs : List H) : encs r (x :: xs)=r.enc x++encs r xs:=by simp [encs]
section
variable {P : Program} {N : Nat} {ρ : Env} {D : List Deferred} {m : Mem} {L : List Item} {Q : EPost} {full : List Oper} {o : Oper} {K : Env→Mem→List Item→Prop}
end
end Go.Sep

