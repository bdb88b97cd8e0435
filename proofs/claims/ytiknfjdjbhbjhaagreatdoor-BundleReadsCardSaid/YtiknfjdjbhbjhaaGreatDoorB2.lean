/-
  Part 2 of the proof: library, walks and plain laws.
-/
import Derived.Laws.Externs
import Derived.Test.YtiknfjdjbhbjhaaGreatDoorB1
set_option linter.unusedVariables false
set_option linter.unusedSimpArgs false
namespace Go.Sep
section
variable {P : Program} {N : Nat} {ρ : Env} {D : List Deferred} {m : Mem} {L : List Item} {Q : EPost} {full : List Oper} {o : Oper} {K : Env→Mem→List Item→Prop}
def Tab.intK {P : Program} (T : Tab P) (t : TypeId) : Option IntKind :=
 match T.get t with
 | some ⟨.int k,_,_,_⟩=>some k
 | _=>none
theorem intK_get {T : Tab P} {t : TypeId} {k : IntKind} (h : T.intK t=some k) : ∃ i,T.get t=some i∧i.u = .int k:=by
 unfold Tab.intK at h
 split at h
 ·rename_i k' _ _ _ hg
  simp only [Option.some.injEq] at h
  subst h
  exact ⟨_,hg,rfl⟩
 ·cases h
theorem OT.conv (T : Tab P) {s t : TypeId} {x : Operand} {k ks kt : IntKind} {d : Nat} {a r : Int} (ho : o.op = .convert s t x) (hd : o.dst=some d) (hN : Nat.blt d N=true)
  (hs : T.intK s=some ks) (ht : T.intK t=some kt) (hx : ev ρ x=some (.int k a)) (hr : kt.wrap a=r) (hK : K ((d, .int kt r) :: ρ) m L) : OT P N o ρ D m L Q K:=by
 obtain ⟨si,s1,s2⟩:=intK_get hs
 obtain ⟨ti,t1,t2⟩:=intK_get ht
 refine OT.run hd hN (fun ac w ha=>⟨w, ?_,ha.st⟩) hK
 have hus:=T.run_underlying w s1
 have hut:=T.run_underlying w t1
 rw [s2] at hus
 rw [t2] at hut
 simp only [execOp,ho,ha.env.eval hx,Go.convert,Sem.run_bind,hus,hut,Result.andThen_ok,Conv.intToInt,Sem.run_pure,hr]
theorem OT.cap (T : Tab P) {x : Operand} {t e : TypeId} {ei : TI} {s : Sl} {d : Nat} (ho : o.op = .call ⟨.builtin .cap,⟨[x]⟩,⟨[t]⟩⟩) (hd : o.dst=some d) (hN : Nat.blt d N=true)
  (hx : ev ρ x=some s.v) (he : T.elem t=some (e,ei)) (hK : K ((d, .int .i64 (s.cap : Int)) :: ρ) m L) : OT P N o ρ D m L Q K:=by
 obtain ⟨ti,h4,h5,h6⟩:=elem_get he
 refine OT.run hd hN (fun ac w ha=>⟨w, ?_,ha.st⟩) hK
 have hu:=T.run_underlying w h4
 rw [h5] at hu
 simp only [execOp,ho,resolve,invoke,builtin,Sem.run_bind,Sem.run_pure,Result.andThen_ok,List.map_toArray,List.map_cons,List.map_nil,ha.env.eval hx,Builtin.cap_,hu]
 simp [Builtin.cap_,hu,goInt]
theorem OT.cutS (T : Tab P) (lo hi : Nat) {s : Sl} {x : Operand} {lx hx : Option Operand} {lov hiv : Option Value} {t : TypeId} {d sz : Nat}
  (ho : o.op = .slice t x lx hx none) (hd : o.dst=some d) (hN : Nat.blt d N=true) (he : ev ρ x=some s.v) (h1 : evO ρ lx=some lov) (h2 : evO ρ hx=some hiv) (hsz : T.esize t=some sz)
  (g1 : (lov=none∧lo=0) ∨ lov=some (.int .i64 (lo : Int))) (g2 : (hiv=none∧hi=s.len) ∨ hiv=some (.int .i64 (hi : Int))) (hle : lo ≤ hi) (hhi : hi ≤ s.cap)
  (hK : K ((d, .slice (if s.cap=lo then s.a else s.a.map (·.add (lo * sz))) (hi - lo) (s.cap - lo)) :: ρ) m L) : OT P N o ρ D m L Q K:=by
 refine OT.run hd hN (fun ac w ha=>⟨w, ?_,ha.st⟩) hK
 have hr:=run_sliceAt (P:=P) (w:=w) T hsz g1 g2 hle hhi
 simp only [execOp,ho,ha.env.eval he,ha.env.evalO h1,ha.env.evalO h2,Option.map_none,Sem.run_bind,hr,Result.andThen_ok,Sem.run_pure]
theorem OT.copy (T : Tab P) (i : Nat) {x y : Operand} {t t2 e : TypeId} {ei : TI} {b off k n c : Nat} {s2 : Sl} {vs news : List Value} {d : Nat} (ho : o.op = .call ⟨.builtin .copy,⟨[x,y]⟩,⟨[t,t2]⟩⟩) (hd : o.dst=some d) (hN : Nat.blt d N=true)
  (hx : ev ρ x=some (.slice (some ⟨b,off + k,none⟩) n c)) (hy : ev ρ y=some s2.v) (he : T.elem t=some (e,ei)) (hsz : Nat.beq ei.size 1=true)
  (hsrc : ∀ w,St m w L→Src w ⟨s2.a,min s2.len n,s2.cap⟩ 1 news) (h1 : allOne news=true) (hi : L[i]? = some (.cells b off vs)) (hk : k + news.length ≤ vs.length)
  (hK : K ((d, .int .i64 ((min s2.len n : Nat) : Int)) :: ρ) m (L.set i (.cells b off (putAt vs k news)))) : OT P N o ρ D m L Q K:=by
 obtain ⟨ti,h4,h5,h6⟩:=elem_get he
 have hs1:=Nat.eq_of_beq_eq_true hsz
 intro ac w ha
 have hu:=T.run_underlying w h4
 rw [h5] at hu
 have hes:=T.run_sizeOf w h6
 rw [hs1] at hes
 have hst:=ha.st.at_ hi
 obtain ⟨w',hr,hst'⟩:=run_storeCells (P:=P) news vs k 0 w hst h1 (by omega)
 have hfirst:=run_first (P:=P) (hsrc w ha.st)
 have hfirst' : (Builtin.firstCells 1 (min s2.len n) s2.v).run P w = .ok ⟨news⟩ w:=by
  obtain ⟨a2,n2,c2⟩:=s2
  cases a2 <;> exact hfirst
 have he' : (execOp ac.eval o).run P w = .ok (.value (.int .i64 ((min s2.len n : Nat) : Int))) w':=by
  simp only [execOp,ho,resolve,invoke,builtin,Sem.run_bind,Sem.run_pure,Result.andThen_ok,List.map_toArray,List.map_cons,List.map_nil,ha.env.eval hx,ha.env.eval hy]
  have hlen : (Builtin.lenOf s2.v).run P w = .ok s2.len w:=rfl
  have hmin : Nat.min s2.len n=min s2.len n:=rfl
  simp [Builtin.copy_,hu,hes,hlen,hfirst',hr,goInt,hmin]
 simp only [Oper.wp,he',Oper.upon,hd]
 have hp:=ha.put hN (.int .i64 ((min s2.len n : Nat) : Int))
 exact ⟨_,_,_,⟨hp.size,hp.env,hp.defers,hst'.back hi⟩,hK⟩
section
variable {ops : List Oper} {ts : List Nat} {fuel : Nat} {listed : List Bool} {Ls Lp : List Item}
theorem DO.cutP (T : Tab P) (i : Nat) (lo hi : Nat) {x : Operand} {lx hx : Option Operand} {lov hiv : Option Value} {t : TypeId} {o : Oper} {d b off n c : Nat} (hc : Calm Q) (hns : Region.noSelect ⟨ops⟩ = true) (hok : orderOkP ops ts [i] listed=true)
  (hi' : ops[i]? = some o) (hg : gv ops ρ o=some true) (ho : o.op = .slice t x lx hx none) (hd : o.dst=some d) (hN : Nat.blt d N=true)
  (he : ev ρ x=some (.slice (some ⟨b,off,none⟩) n c)) (h1 : evO ρ lx=some lov) (h2 : evO ρ hx=some hiv) (hsz : T.esize t=some 1)
  (g1 : (lov=none∧lo=0) ∨ lov=some (.int .i64 (lo : Int))) (g2 : (hiv=none∧hi=n) ∨ hiv=some (.int .i64 (hi : Int))) (hle : lo ≤ hi) (hhi : hi ≤ c) (hlc : lo < c)
  (h : DO P N ops ts fuel (listed.set i true) ((d, .slice (some ⟨b,off + lo,none⟩) (hi - lo) (c - lo)) :: ρ) D m Ls Lp Q) : DO P N ops ts (fuel + 1) listed ρ D m Ls Lp Q:=by
 simp only [orderOkP,Bool.and_eq_true] at hok
 obtain ⟨o1,o2,o3,_⟩:=hok
 refine DO.takeP i hc hi' hd hN hg hns o1 o2 (by simpa using o3) (fun ac w hA => ?_) h
 have hr:=run_sliceAt (P:=P) (w:=w) T (s:=⟨some ⟨b,off,none⟩,n,c⟩) hsz g1 g2 hle hhi
 simp only [Sl.v] at hr
 simp only [execOp,ho,hA.eval he,hA.evalO h1,hA.evalO h2,Option.map_none,Sem.run_bind,hr,Result.andThen_ok,Sem.run_pure]
 rw [if_neg (by omega)]
 simp [addr_add]
end
theorem OT.callX {F : Operand} {args : List Operand} {ats : Array TypeId} {f : FuncId} {fn : Func} {E : Array Value→Sem Value} {vs : List Value} {v : Value} {d : Nat} (ho : o.op = .call ⟨.value F,⟨args⟩,ats⟩) (hd : o.dst=some d) (hN : Nat.blt d N=true)
  (hF : ev ρ F=some (.func (.func f) ⟨[]⟩ ⟨[]⟩)) (ha : evs ρ args=some vs) (hf : P.funcs[f]? = some fn) (hname : (fn.name == "runtime.NumGoroutine")=false) (hb : fn.body.isNone=true) (hn : Extern.findNext fn=none) (hE : Extern.find fn=some E)
  (hr : ∀ w,St m w L→(E ⟨vs⟩).run P w = .ok v w) (hK : K ((d,v) :: ρ) m L) : OT P N o ρ D m L Q K:=by
 refine OT.run hd hN (fun ac w hac=>⟨w, ?_,hac.st⟩) hK
 have hargs:=hac.env.evals ha
 have hcall:=run_callFunc_extern hf hname hb hn hE ⟨vs⟩ w
 rw [hr w hac.st] at hcall
 simp only [execOp,ho,resolve,hac.env.eval hF,Deferred.ofValue,Sem.run_bind,Sem.run_pure,Result.andThen_ok,invoke]
 rw [show (#[]++Array.map ac.eval ⟨args⟩ ++ #[] : Array Value) = ⟨vs⟩ by simp [hargs]]
 exact hcall
end
end Go.Sep
set_option linter.unusedVariables false
set_option linter.unusedSimpArgs false
namespace Go.Sep
section
variable {P : Program} {N : Nat} {ρ : Env} {D : List Deferred} {m : Mem} {L : List Item} {Q : EPost} {full : List Oper} {o : Oper} {K : Env→Mem→List Item→Prop}
end
end Go.Sep
set_option linter.unusedVariables false
set_option linter.unusedSimpArgs false
namespace Go.Sep
theorem Item.Free.weaken {m m' : Mem} (h : m ≤ m') {x : Item} (hf : x.Free m') : x.Free m where
 pin:=by rw [← h.pin];exact hf.pin
 c:=fun j hj=>by
  have h1:=hf.c j hj
  cases hc : m.c x.blk (x.off + j) with
  | none=>rfl
  | some v=>rw [h.c _ _ _ hc] at h1;cases h1
 o:=fun b o hx=>by
  have h1:=hf.o b o hx
  cases hc : m.o b with
  | none=>rfl
  | some v=>rw [h.o _ _ hc] at h1;cases h1
theorem St.weaken {m m' : Mem} {w : World} {L : List Item} (h : St m' w L) (hm : m ≤ m') : St m w L where
 os:=by rw [h.os,hm.pin]
 tape:=by rw [h.tape,hm.pin]
 output:=by rw [h.output,hm.pin]
 size:=by rw [← hm.pin];exact h.size
 pin:=by rw [← hm.pin];exact h.pin
 c:=fun b i v hv=>h.c b i v (hm.c b i v hv)
 o:=fun b x hx=>h.o b x (hm.o b x hx)
 t:=fun b x hx=>h.t b x (hm.t b x hx)
 items:=h.items
 free:=fun x hx=>(h.free x hx).weaken hm
 disj:=h.disj
theorem TCall.forget {P : Program} {f : FuncId} {args : Array Value} {m : Mem} {L : List Item} {v : Value} (h : TCall P f args m L (Made m L fun r _=>r=v)) : TCall P f args m L (Ret v m L) :=
 fun w hs=>(h w hs).mono fun e w' he=>by
  cases e with
  | returned v=>obtain ⟨m',L',h1,h2,rfl,rfl⟩:=he;exact ⟨m,L,h1.weaken h2,rfl,rfl,rfl⟩
  | panicked ch=>obtain ⟨_,_,_,hf⟩:=he;exact hf.elim
  | outgrown=>exact he
section
variable {P : Program} {N : Nat} {ρ : Env} {D : List Deferred} {m : Mem} {L : List Item} {Q : EPost} {o : Oper} {K : Env→Mem→List Item→Prop}
@[reducible] def byteV (b : UInt8) : Value := .int .u8 (b.toNat : Int)
def Tab.isStr {P : Program} (T : Tab P) (t : TypeId) : Bool :=
 match T.get t with
 | some ⟨.string,_,_,_⟩=>true
 | _=>false
theorem isStr_get {T : Tab P} {t : TypeId} (h : T.isStr t=true) : ∃ i,T.get t=some i∧i.u = .string:=by
 unfold Tab.isStr at h
 split at h
 ·exact ⟨_,by assumption,rfl⟩
 ·cases h
theorem getElem_data (s : Str) (k : Nat) {b : UInt8} (h : s[k]? = some b) : (⟨⟨s⟩⟩ : ByteArray)[k]? = some b:=by
 obtain ⟨hk,he⟩:=List.getElem?_eq_some_iff.1 h
 have hs : k < (⟨⟨s⟩⟩ : ByteArray).size:=hk
 rw [getElem?_pos _ k hs]
 exact congrArg some he
theorem OT.sidx (T : Tab P) {t : TypeId} {x y : Operand} {s : Str} {i : Int} {b : UInt8} {d : Nat} (k : Nat) (ho : o.op = .index t x y) (hd : o.dst=some d) (hN : Nat.blt d N=true)
  (ht : T.isStr t=true) (hx : ev ρ x=some (strV s)) (hy : ev ρ y=some (.int .i64 i)) (hi : i=(k : Int)) (hb : s[k]? = some b) (hK : K ((d,byteV b) :: ρ) m L) : OT P N o ρ D m L Q K:=by
 obtain ⟨ti,h1,h2⟩:=isStr_get ht
 subst hi
 refine OT.run hd hN (fun a w ha=>⟨w, ?_,ha.st⟩) hK
 have hu:=T.run_underlying w h1
 rw [h2] at hu
 have hg:=getElem_data s k hb
 simp only [execOp,ho,ha.env.eval hx,ha.env.eval hy,Instr.index,asIntOf,Sem.run_bind,Sem.run_pure,Result.andThen_ok,hu,Int.toNat_natCast,Int.natCast_nonneg,if_true,hg]
theorem u8_or (a b : Nat) (ha : a < 256) (hb : b < 256) : IntKind.wrap .u8 (((BitVec.ofInt 8 (a : Int)) ||| (BitVec.ofInt 8 (b : Int))).toNat : Int)=((a ||| b : Nat) : Int):=by
 have h1 : ((BitVec.ofInt 8 (a : Int)) ||| (BitVec.ofInt 8 (b : Int))).toNat=a ||| b:=by
  rw [BitVec.toNat_or]
  simp only [BitVec.ofInt_natCast,BitVec.toNat_ofNat]
  rw [Nat.mod_eq_of_lt (by omega),Nat.mod_eq_of_lt (by omega)]
 rw [h1]
 have h2 : a ||| b < 256:=Nat.or_lt_two_pow (n:=8) ha hb
 simp [IntKind.wrap,IntKind.signed,IntKind.bits]
 omega
theorem OT.orU8 {t t' : TypeId} {x y : Operand} {a b : Nat} {d : Nat} (ho : o.op = .binOp .or t x y t') (hd : o.dst=some d) (hN : Nat.blt d N=true)
  (hx : ev ρ x=some (.int .u8 (a : Int))) (hy : ev ρ y=some (.int .u8 (b : Int))) (ha' : a < 256) (hb' : b < 256) (hK : K ((d, .int .u8 ((a ||| b : Nat) : Int)) :: ρ) m L) : OT P N o ρ D m L Q K:=by
 refine OT.run hd hN (fun ac w ha=>⟨w, ?_,ha.st⟩) hK
 have hr:=u8_or a b ha' hb'
 simp only [execOp,ho,ha.env.eval hx,ha.env.eval hy,Sem.run_bind,eqGuard,binOp,Op.intBits]
 simp [IntKind.bits] at hr ⊢
 exact hr
theorem OT.concat {t t' : TypeId} {x y : Operand} {s u : Str} {d : Nat} (ho : o.op = .binOp .add t x y t') (hd : o.dst=some d) (hN : Nat.blt d N=true)
  (hx : ev ρ x=some (strV s)) (hy : ev ρ y=some (strV u)) (hl : s.length + u.length ≤ 9223372036854775807) (hK : K ((d,strV (s++u)) :: ρ) m L) : OT P N o ρ D m L Q K:=by
 refine OT.run hd hN (fun ac w ha=>⟨w, ?_,ha.st⟩) hK
 have h1 : ¬ (((⟨⟨s⟩⟩ : ByteArray).size + (⟨⟨u⟩⟩ : ByteArray).size : Nat) : Int) > IntKind.i64.max:=by
  show ¬ ((s.length + u.length : Nat) : Int) > IntKind.i64.max
  have : IntKind.i64.max=9223372036854775807:=by decide
  rw [this];omega
 have h2 : (⟨⟨s⟩⟩ : ByteArray)++(⟨⟨u⟩⟩ : ByteArray) = ⟨⟨s++u⟩⟩:=by
  apply ByteArray.ext
  simp
 simp only [execOp,ho,ha.env.eval hx,ha.env.eval hy,Sem.run_bind,eqGuard,binOp,Op.stringOp]
 rw [if_neg h1,h2]
 simp
theorem retQ_ret_c1 (T : Tab P) (i : Nat) {fn : Func} {R : Value→Mem→List Item→Prop} {X : List PanicEntry→Mem→List Item→Prop} {t : Nat} {ty : TypeId} {b : Nat} {cs : List Value} {v : Value} {L' : List Item}
  (hres : fn.results = ⟨[.cell t ty]⟩) (ht : look ρ t=some (.pointer (some ⟨b,0,none⟩))) (hi : L[i]? = some (.cells b 0 cs)) (hv : T.load ty cs 0=some v) (hs : L'.Sublist L)
  (h : R v m L') : retQ P fn R X .ret ρ [] m L:=by
 refine ⟨rfl,_,L',fun a w hA hst => ?_,hs,h⟩
 have h1:=run_loadVar (P:=P) T (k:=0) (hst.cells hi) hv
 have h2:=hA t _ ht
 unfold results
 rw [hres,Array.mapM_eq_mapM_toList]
 simp [Sem.run_bind,Sem.run_map,h2,asAddr,h1]
end
abbrev q1 := @TC.seq
abbrev q2 := @TC.block
abbrev q3 := @TC.region
abbrev q4 := @TO.pureP
abbrev q5 := @TO.nil
abbrev q6 := @thenQ_n
abbrev q7 := @blockQ_n
abbrev q8 := @thenQ_r
abbrev q9 := @blockQ_r
abbrev q10 := @thenQ_x
abbrev q11 := @blockQ_hit
abbrev q12 := @blockQ_miss
abbrev q13 := @TC.skip
abbrev q14 := @TC.exit
abbrev q15 := @TC.ret
abbrev q16 := @TC.cond_t
abbrev q17 := @TC.cond_f
abbrev qs := @TO.step
abbrev ql := @OT.loadL
abbrev qz := @OT.loadL0
end Go.Sep
