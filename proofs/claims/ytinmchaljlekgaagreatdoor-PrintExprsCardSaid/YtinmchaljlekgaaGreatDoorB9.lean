/- SepPn -/
import Derived.Recover
import Derived.Test.YtinmchaljlekgaaGreatDoorB8
set_option linter.unusedVariables false
set_option linter.unusedSimpArgs false
namespace Go.Sep
section
variable {P : Program} {N : Nat} {ρ : Env} {D : List Deferred} {m : Mem} {L : List Item} {Q : EPost} {full : List Oper} {o : Oper} {K : Env→Mem→List Item→Prop}
theorem OT.panic {x : Operand} {t : TypeId} {v : Value} (ho : o.op = .panic x) (hx : ev ρ x=some (.iface t v)) (hQ : Q (.panic [{ v := .iface t v,recovered:=false }]) ρ D m L) : OT P N o ρ D m L Q K:=by
 intro a w ha
 have hr : (execOp a.eval o).run P w = .halt (.panic (.iface t v)) w:=by
  simp only [execOp,ho,ha.env.eval hx,Instr.panic,goPanic]
  rfl
 simp only [Oper.wp,hr,Oper.upon]
 exact ⟨ρ,D,m,L,ha,hQ⟩
theorem TO.defer {l : List Oper} {F : Operand} {args : List Operand} {ats : Array TypeId} {fn : Fn} {cap : List Value} {vs : List Value}
  (hg : gv full ρ o=some true) (ho : o.op = .defer ⟨.value F,⟨args⟩,ats⟩) (hd : o.dst=none) (hF : ev ρ F=some (.func fn ⟨[]⟩ ⟨cap⟩)) (ha : evs ρ args=some vs)
  (hK : TO P N ⟨full⟩ l ρ ({ target := .fn fn ⟨cap⟩,args:=⟨vs⟩ } :: D) m L Q) : TO P N ⟨full⟩ (o :: l) ρ D m L Q:=by
 intro a w hok
 have he : (execOp a.eval o).run P w = .ok (.defer { target := .fn fn ⟨cap⟩,args:=⟨vs⟩ }) w:=by
  have e1:=hok.env.evals ha
  simp only [execOp,ho,resolve,hok.env.eval hF,Deferred.ofValue,Sem.run_bind,Sem.run_pure,Result.andThen_ok]
  congr 2
  simp [e1]
 refine wpList_yes (gv_wanted hg hok.env) ?_
 simp only [Oper.wp,he,Oper.upon,hd]
 exact hK { a with defers:={ target := .fn fn ⟨cap⟩,args:=⟨vs⟩ } :: a.defers } w ⟨hok.size,hok.env,by rw [hok.defers],hok.st⟩
def retD (P : Program) (fn : Func) (R : Ending→World→Prop) : EPost
 | .normal, ρ,D,m,L | .ret, ρ,D,m,L => ∀ tmps w,(∀ i v,look ρ i=some v→tmps[i]? = some v)→St m w L→Leaves P fn tmps R D .returning w
 | .panic ch, ρ,D,m,L => ∀ tmps w,(∀ i v,look ρ i=some v→tmps[i]? = some v)→St m w L→Leaves P fn tmps R D (.panicking ch) w
 | _,_,_,_,_=>False
theorem calls_enterD {f : FuncId} {fn : Func} {c : Code} {vs : List Value} {w : World} {R : Ending→World→Prop}
  (hf : P.funcs[f]? = some fn) (hb : fn.body=some c) (N : Nat) (hN : Nat.ble N fn.ntmps=true) (hs : St m w L) (h : TC P N c (argEnv vs 0) [] m L (retD P fn R)) : Calls P f ⟨vs⟩ w R:=by
 refine calls_of_wp_defers hf hb (wp_mono (h { tmps:=⟨vs⟩ ++ Array.replicate (fn.ntmps - (⟨vs⟩ : Array Value).size) undef,defers:=[] } w ⟨?_, ?_,rfl,hs⟩) fun e a' w' hl => ?_)
 ·have:=Nat.le_of_ble_eq_true hN
  simp
  omega
 ·intro i v hv
  have:=(look_argEnv vs 0 i v hv).2
  simp only [Nat.sub_zero] at this
  have hi : i < vs.length:=(List.getElem?_eq_some_iff.1 this).1
  simp [Array.getElem?_append,hi,this]
  have h2:=(List.getElem?_eq_some_iff.1 this).2
  exact h2
 ·obtain ⟨ρ',D',m',L',h1,h2⟩:=hl
  obtain ⟨k1,k2,k3,k4⟩:=h1
  cases e with
  | normal=>subst k3;exact h2 _ _ k2 k4
  | ret=>subst k3;exact h2 _ _ k2 k4
  | panic ch=>subst k3;exact h2 _ _ k2 k4
  | exit i=>exact h2.elim
  | goto l=>exact h2.elim
  | outgrown=>exact h2.elim
def recPair (cs : List Frame) : Value × List Frame :=
 match recoverD cs with
 | some x=>x
 | none=>(.nilIface,cs)
theorem wpS_rec {o0 o1 : Oper} {d0 d1 id : Nat} {QS : Exit→Act→List Frame→World→Prop} {a : Act} {cs : List Frame} {w : World} (h0 : o0.op = .call ⟨.builtin .recover,⟨[]⟩,⟨[]⟩⟩) (hd0 : o0.dst=some d0) (g0 : o0.guard=none) (h1 : o1.op = .assign (.tmp d0)) (hd1 : o1.dst=some d1) (g1 : o1.guard=none)
  (hsz : d0 < a.tmps.size) (hQ : QS .normal ((a.put (some d0) (recPair cs).1).put (some d1) (recPair cs).1) (recPair cs).2 w) : (Code.region id ⟨[o0,o1]⟩ false).wpS P QS a cs w:=by
 apply wpS_region
 have hr : (execOp a.eval o0).run P w = .ok .recover w:=by
  simp [execOp,h0,resolve,invoke,go_sem]
 have e : List.range (⟨[o0,o1]⟩ : Array Oper).size=[0,1]:=rfl
 have w0 : ∀ y,Region.wanted o0 y=true:=fun y=>by simp [Region.wanted,g0]
 have w1 : ∀ y,Region.wanted o1 y=true:=fun y=>by simp [Region.wanted,g1]
 rw [e]
 have i0 : (⟨[o0,o1]⟩ : Array Oper)[0]? = some o0:=rfl
 have i1 : (⟨[o0,o1]⟩ : Array Oper)[1]? = some o1:=rfl
 have step1 : ∀ (v : Value) (cs' : List Frame),QS .normal ((a.put (some d0) v).put (some d1) v) cs' w→wpOpsS P ⟨[o0,o1]⟩ QS [1] (a.put (some d0) v) cs' w:=by
  intro v cs' hq
  have hv : (a.put (some d0) v).eval (.tmp d0)=v:=by simp [Act.put,Act.eval,hsz]
  have hr1 : (execOp (a.put (some d0) v).eval o1).run P w = .ok (.value v) w:=by simp [execOp,h1,hv]
  simp only [wpOpsS,i1,w1,if_true,hr1,Oper.upon,hd1]
  exact hq
 unfold recPair at hQ
 unfold wpOpsS
 simp only [i0,w0,if_true,hr,hd0]
 cases hc : recoverD cs with
 | none=>rw [hc] at hQ;exact step1 _ _ hQ
 | some x=>obtain ⟨v,cs'⟩:=x;rw [hc] at hQ;exact step1 _ _ hQ
theorem wpS_TC {c : Code} {fn : Func} {R : Value→Mem→List Item→Prop} {a : Act} {w : World} {c₀ : Frame} {cs : List Frame} {u : FrameMode} {RR : Ending→FrameMode→World→Prop} (h : TC P N c ρ [] m L (retQ P fn R fun _ _ _=>False)) (ha : Ok N ρ [] m L a w)
  (hR : ∀ v m' L' w',R v m' L' → St m' w' L' → RR (.returned v) u w') : c.wpS P (bodyPostS P fn c₀ cs RR) a ({ c₀ with mode:=u } :: cs) w:=by
 refine wpS_of_wp (wp_mono (h a w ha) fun e a' w' hl => ?_)
 obtain ⟨ρ',D',m',L',h1,h2⟩:=hl
 cases e with
 | normal =>
  obtain ⟨hD,v,L2,hv,hs2,hr⟩:=h2
  exact ⟨h1.defers.trans hD,u,rfl,v,hv _ _ h1.env h1.st,hR _ _ _ _ hr (h1.st.sub hs2)⟩
 | ret =>
  obtain ⟨hD,v,L2,hv,hs2,hr⟩:=h2
  exact ⟨h1.defers.trans hD,u,rfl,v,hv _ _ h1.env h1.st,hR _ _ _ _ hr (h1.st.sub hs2)⟩
 | panic ch=>obtain ⟨_,_,_,hf⟩:=h2;exact hf.elim
 | exit i=>exact h2.elim
 | goto i=>exact h2.elim
 | outgrown=>exact h2.elim
end
def quietQ (K : Env→List Deferred→Mem→List Item→Prop) : EPost
 | .normal, ρ,D,m,L=>K ρ D m L
 | _,_,_,_,_=>False
theorem Calm.quiet {K : Env→List Deferred→Mem→List Item→Prop} : Calm (quietQ K):=fun _ _ _ _ _ h=>h
theorem TC.quiet {P : Program} {N : Nat} {x y : Code} {ρ : Env} {D : List Deferred} {m : Mem} {L : List Item} {Q : EPost} (h : TC P N x ρ D m L (quietQ fun ρ D m L=>TC P N y ρ D m L Q)) : TC P N (.seq x y) ρ D m L Q :=
 TC.seq (h.mono fun e ρ D m L hq=>by
  cases e with
  | normal=>exact thenQ_n hq
  | _=>exact hq.elim)
theorem invoke_goes {P : Program} {f : FuncId} {cap args : List Value} {w : World} (hg : Goes P f) : (invoke (.fn (.func f) ⟨cap⟩) ⟨args⟩).run P w = .ok (.enter f ⟨args++cap⟩) w:=by
 simp only [invoke]
 rw [hg _ w]
 congr 2
 simp
end Go.Sep


/- SepZc -/
set_option linter.unusedVariables false
set_option linter.unusedSimpArgs false
namespace Go.Sep
section
variable {P : Program} {N : Nat} {ρ : Env} {D : List Deferred} {m : Mem} {L Ls Lp : List Item} {Q : EPost} {ops : List Oper} {ts : List Nat} {fuel : Nat} {listed : List Bool}
theorem DO.sidx (T : Tab P) (i : Nat) {t : TypeId} {x y : Operand} {o : Oper} {s : Str} {iv : Int} {kd : IntKind} {b : UInt8} {d : Nat} (k : Nat) (hc : Calm Q) (hns : Region.noSelect ⟨ops⟩ = true) (hok : orderOkP ops ts [i] listed=true)
  (hi : ops[i]? = some o) (hg : gv ops ρ o=some true) (ho : o.op = .index t x y) (hd : o.dst=some d) (hN : Nat.blt d N=true)
  (ht : T.isStr t=true) (hx : ev ρ x=some (strV s)) (hy : ev ρ y=some (.int kd iv)) (hik : iv=(k : Int)) (hb : s[k]? = some b)
  (h : DO P N ops ts fuel (listed.set i true) ((d,byteV b) :: ρ) D m Ls Lp Q) : DO P N ops ts (fuel + 1) listed ρ D m Ls Lp Q:=by
 simp only [orderOkP,Bool.and_eq_true] at hok
 obtain ⟨o1,o2,o3,_⟩:=hok
 obtain ⟨ti,h1,h2⟩:=isStr_get ht
 subst hik
 refine DO.takeP i hc hi hd hN hg hns o1 o2 (by simpa using o3) (fun ac w hA => ?_) h
 have hu:=T.run_underlying w h1
 rw [h2] at hu
 have hg:=getElem_data s k hb
 simp only [execOp,ho,hA.eval hx,hA.eval hy,Instr.index,asIntOf,Sem.run_bind,Sem.run_pure,Result.andThen_ok,hu,Int.toNat_natCast,Int.natCast_nonneg,if_true,hg]
theorem DO.conv (T : Tab P) (i : Nat) {s t : TypeId} {x : Operand} {o : Oper} {k ks kt : IntKind} {d : Nat} {a r : Int} (hc : Calm Q) (hns : Region.noSelect ⟨ops⟩ = true) (hok : orderOkP ops ts [i] listed=true)
  (hi : ops[i]? = some o) (hg : gv ops ρ o=some true) (ho : o.op = .convert s t x) (hd : o.dst=some d) (hN : Nat.blt d N=true)
  (hs : T.intK s=some ks) (ht : T.intK t=some kt) (hx : ev ρ x=some (.int k a)) (hr : kt.wrap a=r)
  (h : DO P N ops ts fuel (listed.set i true) ((d, .int kt r) :: ρ) D m Ls Lp Q) : DO P N ops ts (fuel + 1) listed ρ D m Ls Lp Q:=by
 simp only [orderOkP,Bool.and_eq_true] at hok
 obtain ⟨o1,o2,o3,_⟩:=hok
 obtain ⟨si,s1,s2⟩:=intK_get hs
 obtain ⟨ti,t1,t2⟩:=intK_get ht
 refine DO.takeP i hc hi hd hN hg hns o1 o2 (by simpa using o3) (fun ac w hA => ?_) h
 have hus:=T.run_underlying w s1
 have hut:=T.run_underlying w t1
 rw [s2] at hus
 rw [t2] at hut
 simp only [execOp,ho,hA.eval hx,Go.convert,Sem.run_bind,hus,hut,Result.andThen_ok,Conv.intToInt,Sem.run_pure,hr]
end
section
variable {P : Program} {N : Nat} {ρ : Env} {D : List Deferred} {m : Mem} {L : List Item} {Q : EPost} {o : Oper} {K : Env→Mem→List Item→Prop}
end
end Go.Sep


/- SepZd -/
set_option linter.unusedVariables false
set_option linter.unusedSimpArgs false
namespace Go.Sep
structure ORow {H : Type} (s : Sl) (hs : List H) : Prop where
 len : s.len ≤ s.cap
 all : hs.length=s.cap
 adr : (s = ⟨none,0,0⟩) ∨ ∃ b,s.a=some ⟨b,0,none⟩
theorem ORow.nil {H : Type} : ORow (H:=H) ⟨none,0,0⟩ []:=⟨Nat.le_refl _,rfl, .inl rfl⟩
theorem ORow.pos {H : Type} {s : Sl} {hs : List H} (h : ORow s hs) (hp : 0 < s.len) : ∃ b,s = ⟨some ⟨b,0,none⟩,s.len,s.cap⟩:=by
 rcases h.adr with e | ⟨b,e⟩
 ·rw [e] at hp;simp at hp
 ·refine ⟨b, ?_⟩
  obtain ⟨a,n,c⟩:=s
  simp only at e
  rw [e]
section
variable {P : Program} {N : Nat} {ρ : Env} {D : List Deferred} {m : Mem} {L : List Item} {Q : EPost} {full : List Oper} {o : Oper} {K : Env→Mem→List Item→Prop}
end
end Go.Sep


/- SepHp -/
set_option linter.unusedVariables false
set_option linter.unusedSimpArgs false
set_option linter.unusedSectionVars false
namespace Go.Sep
section
variable {α : Type} [Inhabited α]
def gk (xs : List α) (k : Nat) : α:=xs[k]?.getD default
def sw (xs : List α) (i j : Nat) : List α:=(xs.set i (gk xs j)).set j (gk xs i)
theorem sw_length (xs : List α) (i j : Nat) : (sw xs i j).length=xs.length:=by simp [sw]
theorem gk_get {xs : List α} {k : Nat} (h : k < xs.length) : xs[k]? = some (gk xs k):=by
 unfold gk
 rw [List.getElem?_eq_getElem h]
 rfl
theorem gk_set {xs : List α} {i k : Nat} {x : α} (h : i < xs.length) : gk (xs.set i x) k=if i=k then x else gk xs k:=by
 unfold gk
 rw [List.getElem?_set]
 split
 ·simp [h]
 ·rfl
theorem gk_sw {xs : List α} {i j k : Nat} (hi : i < xs.length) (hj : j < xs.length) : gk (sw xs i j) k=if k=j then gk xs i else if k=i then gk xs j else gk xs k:=by
 unfold sw
 rw [gk_set (by simpa using hj),gk_set hi]
 by_cases h1 : j=k
 ·simp [h1]
 ·by_cases h2 : i=k
  ·simp [h1,h2,Ne.symm h1]
  ·simp [h1,h2,Ne.symm h1,Ne.symm h2]
theorem gk_take {xs : List α} {n k : Nat} (h : k < n) : gk (xs.take n) k=gk xs k:=by
 unfold gk
 rw [List.getElem?_take,if_pos h]
theorem set_perm {xs : List α} {i : Nat} (hi : i < xs.length) (x : α) : (gk xs i :: xs.set i x).Perm (x :: xs):=by
 induction xs generalizing i with
 | nil=>simp at hi
 | cons y ys ih =>
  cases i with
  | zero=>simp only [gk,List.getElem?_cons_zero,Option.getD_some,List.set_cons_zero];exact List.Perm.swap _ _ _
  | succ i =>
   simp only [List.set_cons_succ]
   have:=ih (i:=i) (by simpa using hi)
   have e : gk (y :: ys) (i + 1)=gk ys i:=by simp [gk]
   rw [e]
   exact (List.Perm.swap _ _ _).trans ((this.cons y).trans (List.Perm.swap _ _ _))
theorem sw_perm {xs : List α} {i j : Nat} (hi : i < xs.length) (hj : j < xs.length) : (sw xs i j).Perm xs:=by
 by_cases e : i=j
 ·subst e
  unfold sw
  rw [List.set_set]
  have : xs.set i (gk xs i)=xs:=by
   apply List.ext_getElem?
   intro k
   rw [List.getElem?_set]
   split
   ·rename_i h;subst h;exact (gk_get hi).symm
   ·rfl
  rw [this]
 ·have h1:=set_perm hi (gk xs j)
  have hj2 : j < (xs.set i (gk xs j)).length:=by simpa using hj
  have h2:=set_perm hj2 (gk xs i)
  have e2 : gk (xs.set i (gk xs j)) j=gk xs j:=by rw [gk_set hi];simp [e]
  rw [e2] at h2
  have h3 : (gk xs j :: sw xs i j).Perm (gk xs j :: xs):=h2.trans h1
  exact (List.perm_cons _).1 h3
theorem sw_take {xs : List α} {i j n : Nat} (hi : i < n) (hj : j < n) : (sw xs i j).take n=sw (xs.take n) i j:=by
 unfold sw
 rw [List.take_set,List.take_set,gk_take hi,gk_take hj]
theorem sw_drop {xs : List α} {i j n : Nat} (hi : i < n) (hj : j < n) : (sw xs i j).drop n=xs.drop n:=by
 unfold sw
 rw [List.drop_set_of_lt hj,List.drop_set_of_lt hi]
structure Mix (n : Nat) (xs ys : List α) : Prop where
 len : ys.length=xs.length
 perm : (ys.take n).Perm (xs.take n)
 rest : ys.drop n=xs.drop n
theorem Mix.refl (n : Nat) (xs : List α) : Mix n xs xs:=⟨rfl, .refl _,rfl⟩
theorem Mix.trans {n : Nat} {xs ys zs : List α} (h : Mix n xs ys) (k : Mix n ys zs) : Mix n xs zs:=⟨k.len.trans h.len,k.perm.trans h.perm,k.rest.trans h.rest⟩
theorem Mix.sw {n i j : Nat} {xs : List α} (hi : i < n) (hj : j < n) (hn : n ≤ xs.length) : Mix n xs (sw xs i j):=by
 refine ⟨sw_length _ _ _, ?_,sw_drop hi hj⟩
 rw [sw_take hi hj]
 exact sw_perm (by simp;omega) (by simp;omega)
structure OrdK (lt : α → α → Bool) : Prop where
 asym : ∀ a b,lt a b=true→lt b a=false
 trans : ∀ a b c,lt b a=false→lt c b=false→lt c a=false
def par (k : Nat) : Nat:=(k - 1) / 2
variable {lt : α → α → Bool}
def HF (lt : α → α → Bool) (xs : List α) (n lo : Nat) : Prop := ∀ k,0 < k→k < n→lo ≤ par k→lt (gk xs k) (gk xs (par k))=false
structure DI (lt : α → α → Bool) (xs : List α) (n lo i : Nat) : Prop where
 a : ∀ k,0 < k→k < n→lo ≤ par k→par k ≠ i→lt (gk xs k) (gk xs (par k))=false
 b : ∀ k,0 < k→k < n→par k=i→0 < i→lo ≤ par i→lt (gk xs k) (gk xs (par i))=false
theorem HF.half {xs : List α} {n : Nat} : HF lt xs n (n / 2):=fun k h1 h2 h3=>by
 unfold par at h3
 omega
theorem DI.start {xs : List α} {n lo : Nat} (h : HF lt xs n (lo + 1)) : DI lt xs n lo lo :=
 ⟨fun k h1 h2 h3 h4=>h k h1 h2 (by omega),fun k h1 h2 h3 h4 h5=>by unfold par at h5;omega⟩
theorem DI.done {xs : List α} {n lo i j : Nat} (O : OrdK lt) (h : DI lt xs n lo i) (hj : ∀ k,0 < k→k < n→par k=i→lt (gk xs k) (gk xs j)=false) (hl : lt (gk xs j) (gk xs i)=false) : HF lt xs n lo:=fun k h1 h2 h3=>by
 by_cases e : par k=i
 ·rw [e]
  exact O.trans _ _ _ hl (hj k h1 h2 e)
 ·exact h.a k h1 h2 h3 e
theorem DI.step {xs : List α} {n lo i j : Nat} (O : OrdK lt) (h : DI lt xs n lo i) (hn : n ≤ xs.length) (hlo : lo ≤ i) (hjn : j < n) (hj0 : 0 < j) (hji : par j=i) (hj : ∀ k,0 < k→k < n→par k=i→lt (gk xs k) (gk xs j)=false) (hl : lt (gk xs j) (gk xs i)=true) : DI lt (sw xs i j) n lo j:=by
 have hij : i < j:=by unfold par at hji;omega
 have hi' : i < xs.length:=by omega
 have hj' : j < xs.length:=by omega
 refine ⟨fun k h1 h2 h3 h4 => ?_,fun k h1 h2 h3 h4 h5 => ?_⟩
 ·rw [gk_sw hi' hj',gk_sw hi' hj']
  rw [if_neg h4]
  by_cases e1 : k=j
  ·rw [if_pos e1,e1,hji,if_pos rfl]
   exact O.asym _ _ hl
  ·rw [if_neg e1]
   by_cases e2 : k=i
   ·rw [if_pos e2]
    have e3 : par k ≠ i:=by unfold par;omega
    rw [if_neg e3,e2]
    have:=h.b j hj0 hjn hji (by omega) (by rw [← e2];exact h3)
    exact this
   ·rw [if_neg e2]
    by_cases e3 : par k=i
    ·rw [if_pos e3]
     exact hj k h1 h2 e3
    ·rw [if_neg e3]
     exact h.a k h1 h2 h3 e3
 ·rw [hji,gk_sw hi' hj',gk_sw hi' hj',if_neg (show i ≠ j by omega),if_pos rfl]
  have e1 : k ≠ j:=by unfold par at h3;omega
  have e2 : k ≠ i:=by unfold par at h3;omega
  rw [if_neg e1,if_neg e2,← h3]
  exact h.a k h1 h2 (by rw [h3];omega) (by rw [h3];omega)
theorem HF.min {xs : List α} {n : Nat} (O : OrdK lt) (h : HF lt xs n 0) (hirr : ∀ a,lt a a=false) : ∀ k,k < n→lt (gk xs k) (gk xs 0)=false:=by
 intro k
 induction k using Nat.strongRecOn with
 | ind k ih =>
  intro hk
  by_cases e : k=0
  ·rw [e];exact hirr _
  ·have h1 : par k < k:=by unfold par;omega
   exact O.trans _ _ _ (ih (par k) h1 (by omega)) (h k (by omega) hk (Nat.zero_le _))
structure UI (lt : α → α → Bool) (xs : List α) (n j : Nat) : Prop where
 a : ∀ k,0 < k→k < n→k ≠ j→lt (gk xs k) (gk xs (par k))=false
 b : ∀ k,0 < k→k < n→par k=j→0 < j→lt (gk xs k) (gk xs (par j))=false
theorem UI.start {xs : List α} {n : Nat} (h : HF lt xs n 0) : UI lt xs (n + 1) n :=
 ⟨fun k h1 h2 h3=>h k h1 (by omega) (Nat.zero_le _),fun k h1 h2 h3=>by unfold par at h3;omega⟩
theorem UI.done {xs : List α} {n j : Nat} (h : UI lt xs n j) (hj : j=0 ∨ lt (gk xs j) (gk xs (par j))=false) : HF lt xs n 0:=fun k h1 h2 h3=>by
 by_cases e : k=j
 ·subst e
  rcases hj with e | e
  ·omega
  ·exact e
 ·exact h.a k h1 h2 e
theorem UI.step {xs : List α} {n j : Nat} (O : OrdK lt) (h : UI lt xs n j) (hn : n ≤ xs.length) (hjn : j < n) (h0 : 0 < j) (hl : lt (gk xs j) (gk xs (par j))=true) : UI lt (sw xs (par j) j) n (par j):=by
 have hp : par j < j:=by unfold par;omega
 refine ⟨fun k h1 h2 h3 => ?_,fun k h1 h2 h3 h4 => ?_⟩
 ·rw [gk_sw (by omega) (by omega),gk_sw (by omega) (by omega),if_neg h3]
  by_cases e1 : k=j
  ·subst e1
   rw [if_pos rfl,if_neg (by omega),if_pos rfl]
   exact O.asym _ _ hl
  ·rw [if_neg e1]
   by_cases e2 : par k=j
   ·rw [if_pos e2]
    exact h.b k h1 h2 e2 h0
   ·rw [if_neg e2]
    by_cases e3 : par k=par j
    ·rw [if_pos e3]
     have:=h.a k h1 h2 e1
     rw [e3] at this
     exact O.trans _ _ _ (O.asym _ _ hl) this
    ·rw [if_neg e3]
     exact h.a k h1 h2 e1
 ·have hpp : par (par j) < par j:=by unfold par at h4 ⊢;omega
  rw [gk_sw (by omega) (by omega),gk_sw (by omega) (by omega),if_neg (show par (par j) ≠ j by omega),if_neg (show par (par j) ≠ par j by omega)]
  have hup:=h.a (par j) h4 (by omega) (by omega)
  by_cases e1 : k=j
  ·rw [if_pos e1];exact hup
  ·have hk : k ≠ par j:=by
    intro e;rw [e] at h3;omega
   rw [if_neg e1,if_neg hk]
   have:=h.a k h1 h2 e1
   rw [h3] at this
   exact O.trans _ _ _ hup this
end
end Go.Sep


/- SepZe -/
set_option linter.unusedVariables false
set_option linter.unusedSimpArgs false
namespace Go.Sep
section
variable {P : Program} {N : Nat} {ρ : Env} {D : List Deferred} {m : Mem} {L : List Item} {Q : EPost} {full : List Oper} {o : Oper} {K : Env→Mem→List Item→Prop}
end
section
variable {P : Program} {N : Nat} {ρ : Env} {D : List Deferred} {m : Mem} {Q : EPost} {ops : List Oper} {ts : List Nat} {fuel : Nat} {listed : List Bool} {Ls Lp : List Item}
end
theorem encs_int (l : List Int) : encs rInt l=l.map (Value.int .i64):=by
 induction l with
 | nil=>rfl
 | cons x xs ih=>simpa [encs,rInt] using ih
structure IRow (s : Sl) (b : Nat) (n : Nat) : Prop where
 len : s.len=n
 cap : s.len ≤ s.cap
 pos : 0 < n → ∃ c,s = ⟨some ⟨b,0,none⟩,n,c⟩
 nil : n=0→s.a=none→s.cap=0
theorem IRow.rep {m : Mem} {s : Sl} {b : Nat} {l : List Int} (h : IRow s b l.length) (hA : At m b 0 (l.map (Value.int .i64))) (hn : l.length ≤ 1000000) : SlRep rInt m s l:=by
 refine ⟨h.len,h.cap,by rw [h.len];simp only [rInt];omega,l, ?_, ?_⟩
 ·clear h hA hn
  induction l with
  | nil=>trivial
  | cons x xs ih=>exact ⟨rfl,ih⟩
 ·by_cases e : l=[]
  ·exact .inl ⟨e,h.nil (by rw [e];rfl)⟩
  ·obtain ⟨c,hc⟩:=h.pos (List.length_pos_iff.2 e)
   exact .inr ⟨b,0,by rw [hc],by rw [encs_int];exact hA⟩
section
variable {P : Program} {N : Nat} {ρ : Env} {D : List Deferred} {m : Mem} {L : List Item} {Q : EPost} {full : List Oper} {o : Oper} {K : Env→Mem→List Item→Prop}
end
section
variable {P : Program} {N : Nat} {ρ : Env} {D : List Deferred} {m : Mem} {L : List Item} {Q : EPost} {full : List Oper}
end
end Go.Sep


/- SepPo -/
set_option linter.unusedVariables false
set_option linter.unusedSimpArgs false
namespace Go.Sep
section
variable {P : Program} {N : Nat} {ρ : Env} {D : List Deferred} {m : Mem} {L : List Item} {Q : EPost} {full : List Oper} {o : Oper} {K : Env→Mem→List Item→Prop}
theorem OT.litR {H α : Type} (T : Tab P) (r : R H α) {hs : List H} {l : List α} {t : TypeId} {n d : Nat} {ps : List (Nat × Operand)} (h2 : All2 (r.rep m) hs l) (ho : o.op = .buildSlice t n ⟨ps⟩) (hd : o.dst=some d) (hN : Nat.blt d N=true)
  (hv : T.lit ρ t n ps=some (encs r hs)) (hn : l.length=n) (hfit : n * r.bytes ≤ 140737488355328)
  (hK : ∀ s m',m ≤ m' → SlRep r m' s l→Own s→s.cap=s.len→K ((d,s.v) :: ρ) m' L) : OT P N o ρ D m L Q K:=by
 intro a w ha
 refine Oper.wp_mono (fun a' w' hl => ?_) (OT.lit (K:=fun ρ' m' L' => ∃ b, ρ' = (d, .slice (some ⟨b,0,none⟩) n n) :: ρ ∧ m' = m∧L' = .cells b 0 (encs r hs) :: L) T ho hd hN hv (fun b=>⟨b,rfl,rfl,rfl⟩) a w ha)
 obtain ⟨ρ',m',L',h1,b,rfl,rfl,rfl⟩:=hl
 obtain ⟨g1,g2,g3⟩:=h1.st.freeze
 exact ⟨_,_,_,⟨h1.size,h1.env,h1.defers,g3⟩,hK ⟨some ⟨b,0,none⟩,n,n⟩ _ g1 ⟨hn.symm,Nat.le_refl _,hfit,hs,h2.mono fun _ _=>r.mono g1, .inr ⟨b,0,rfl,g2⟩⟩ (.inr ⟨b,0,rfl⟩) rfl⟩
theorem tok_fullO {s : Sl} (h : s.cap=s.len) (ho : Own s) (size : Nat) : ∃ b off,tok s size = .room b off 0:=by
 rcases ho with rfl | ⟨b,o,ha⟩
 ·exact ⟨0,0,rfl⟩
 ·exact ⟨b,o + s.len * size,by unfold tok;rw [ha,h];simp⟩
theorem TO.tokFo {l : List Oper} {s : Sl} (h : s.cap=s.len) (ho : Own s) (size : Nat) (hK : TO P N ⟨full⟩ l ρ D m (tok s size :: L) Q) : TO P N ⟨full⟩ l ρ D m L Q:=by
 obtain ⟨b,off,hb⟩:=tok_fullO h ho size
 rw [hb] at hK
 exact TO.room0 b off hK
theorem OT.tokFo {s : Sl} (h : s.cap=s.len) (ho : Own s) (size : Nat) (hK : OT P N o ρ D m (tok s size :: L) Q K) : OT P N o ρ D m L Q K:=by
 obtain ⟨b,off,hb⟩:=tok_fullO h ho size
 rw [hb] at hK
 exact fun a w ha=>hK a w ⟨ha.size,ha.env,ha.defers,ha.st.room0 b off⟩
theorem OT.assertOk (T : Tab P) {x : Operand} {xt t : TypeId} {v : Value} {d : Nat} (ho : o.op = .typeAssert x xt t true) (hd : o.dst=some d) (hN : Nat.blt d N=true) (hx : ev ρ x=some (.iface t v)) (ht : T.notIface t=true)
  (hK : K ((d, .tuple ⟨[v, .bool true]⟩) :: ρ) m L) : OT P N o ρ D m L Q K:=by
 refine OT.run hd hN (fun ac w ha=>⟨w, ?_,ha.st⟩) hK
 unfold Tab.notIface at ht
 split at ht
 ·cases ht
 ·rename_i i hne hg
  have hu:=T.run_underlying w hg
  simp only [execOp,ho,ha.env.eval hx,Instr.typeAssert,Sem.run_bind,hu,Result.andThen_ok]
  cases hi : i.u with
  | interface ms =>
   obtain ⟨u,a,b,c⟩:=i
   simp only at hi
   subst hi
   exact absurd rfl (hne ms a b c)
  | _=>simp
 ·cases ht
end
end Go.Sep


/- PtBuild -/
set_option linter.unusedVariables false
set_option linter.unusedSimpArgs false
namespace Go.Sep
open Go.Proofs
attribute [local irreducible] TC TO OT TCallX TCall DO DOt thenQ blockQ retQ At
@[reducible] def bdL (bd : Nat) (q : Option Addr) (s : Sl) (L : List Item) : List Item := .cells bd 0 [.pointer q,s.v] :: tok s 1 :: L
@[reducible] def bdV (bd : Nat) : Value := .pointer (some ⟨bd,0,none⟩)
def Wr (bd : Nat) (m : Mem) (L : List Item) (y : Str) : Value→Mem→List Item→Prop:=fun _ m' L'=>m ≤ m' ∧ ∃ s' q',L' = bdL bd q' s' L∧BOk m' bd q' s' y
set_option maxHeartbeats 800000 in
theorem writeString_law (m : Mem) (L : List Item) (bd : Nat) (q : Option Addr) (s : Sl) (l bs : Str) (hB : BOk m bd q s l) (hl : l.length + bs.length ≤ 140737488355328) :
  TCall Tryz.prog 91 ⟨[bdV bd,strV bs]⟩ m (bdL bd q s L) (Wr bd m L (l++bs)):=by
 unfold TCall
 refine TCallX.enter Tryz.func91 rfl 19 rfl ?_
 repeat (first|refine q1 ?_|refine q3 ?_|refine q4 tab rfl rfl ?_|refine q5 ?_|refine q6 ?_)
 refine TO.step rfl (OT.call rfl rfl rfl rfl rfl rfl goes131 ((copyCheck_law _ _ bd q s.v ⟨_,_,_,rfl⟩ hB.ty hB.q).x ?_));
 rintro _ _ _ ⟨rfl,rfl⟩
 repeat (first|refine q1 ?_|refine q3 ?_|refine q4 tab rfl rfl ?_|refine q5 ?_|refine q6 ?_)
 (refine qs rfl (ql tab 0 rfl rfl rfl rfl rfl rfl ?_))
 repeat (refine q4 tab rfl rfl ?_)
 refine TO.step rfl (OT.appendST tab 1 hB.sl hB.own rfl rfl rfl rfl rfl rfl rfl rfl rfl rfl rfl (by omega) hB.row (fun s' m2 hm2 hs2 ho2 hr2 he2 => ?_))
 repeat (refine q4 tab rfl rfl ?_)
 (refine TO.step rfl (OT.storeL tab 0 rfl rfl rfl rfl rfl rfl rfl rfl ?_))
 repeat (first|refine q1 ?_|refine q3 ?_|refine q4 tab rfl rfl ?_|refine q5 ?_|refine q6 ?_|refine q15 ?_)
 refine retQ_ret rfl (List.Sublist.refl _) ⟨hm2,s',_,rfl,hB.ty.mono hm2, .inr rfl,hs2,ho2,hr2,fun e => ?_⟩
 obtain ⟨e1,e2⟩:=List.append_eq_nil_iff.1 e
 rw [he2 e2,hB.none e1]
def suffixB (p s : Str) : Bool:=decide (p.length ≤ s.length) && decide (s.drop (s.length - p.length)=p)
def trimD (s p : Str) : Str:=if suffixB p s=true then s.take (s.length - p.length) else s
theorem suffix_lite (m : Mem) (L : List Item) (s p : Str) (hs : s.length ≤ 140737488355328) : TCall Tryz.prog 151 ⟨[strV s,strV p]⟩ m L (Ret (.bool (suffixB p s)) m L):=by
 unfold TCall
 refine TCallX.enter Tryz.func151 rfl 21 rfl ?_
 repeat (first|refine q1 ?_|refine q3 ?_|refine q4 tab rfl rfl ?_|refine q5 ?_|refine q6 ?_)
 (refine TO.splitP rfl rfl (fun e1 => ?_) (fun e1 => ?_))
 ·repeat (refine q4 tab rfl rfl ?_)
  refine TO.step rfl (OT.arith (r':=(s.length : Int) - (p.length : Int)) rfl rfl rfl rfl rfl rfl rfl (by omega) ?_)
  skip
  refine TO.step rfl (OT.sub tab (s.length - p.length) s.length rfl rfl rfl rfl rfl rfl rfl (.inr (by rw [show (s.length : Int) - (p.length : Int)=((s.length - p.length : Nat) : Int) by omega])) (.inl ⟨rfl,rfl⟩) (by omega) (Nat.le_refl _) ?_)
  repeat (first|refine q4 tab rfl rfl ?_|refine q5 ?_|refine q6 ?_|refine q15 ?_)
  refine retQ_ret rfl (by repeat (exact List.Sublist.refl _)) ⟨rfl,rfl, ?_⟩
  rw [suffixB,decide_eq_true (show p.length ≤ s.length by omega),List.take_length];rfl
 ·repeat (first|refine q4 tab rfl rfl ?_|refine q5 ?_|refine q6 ?_|refine q15 ?_)
  refine retQ_ret rfl (by repeat (exact List.Sublist.refl _)) ⟨rfl,rfl, ?_⟩
  rw [suffixB,decide_eq_false (show ¬ p.length ≤ s.length by omega)];rfl
theorem trim_lite (m : Mem) (L : List Item) (s p : Str) (hs : s.length ≤ 140737488355328) : TCall Tryz.prog 121 ⟨[strV s,strV p]⟩ m L (Ret (strV (trimD s p)) m L):=by
 unfold TCall
 refine TCallX.enter Tryz.func121 rfl 16 rfl ?_
 repeat (first|refine q1 ?_|refine q3 ?_|refine q4 tab rfl rfl ?_|refine q5 ?_|refine q6 ?_)
 refine TO.step rfl (OT.call rfl rfl rfl rfl rfl rfl goes151 ((suffix_lite _ _ s p hs).x ?_));
 rintro _ _ _ ⟨rfl,rfl,rfl⟩
 repeat (first|refine q5 ?_|refine q6 ?_)
 refine TC.cond (t:=suffixB p s) rfl (fun h => ?_) (fun h => ?_)
 ·have hp : p.length ≤ s.length:=by
   unfold suffixB at h
   simp only [Bool.and_eq_true,decide_eq_true_eq] at h
   exact h.1
  repeat (first|refine q1 ?_|refine q3 ?_|refine q4 tab rfl rfl ?_)
  refine TO.step rfl (OT.arith (r':=(s.length : Int) - (p.length : Int)) rfl rfl rfl rfl rfl rfl rfl (by omega) ?_)
  skip
  refine TO.step rfl (OT.sub tab 0 (s.length - p.length) rfl rfl rfl rfl rfl rfl rfl (.inl ⟨rfl,rfl⟩) (.inr (by rw [show (s.length : Int) - (p.length : Int)=((s.length - p.length : Nat) : Int) by omega])) (Nat.zero_le _) (by omega) ?_)
  repeat (first|refine q4 tab rfl rfl ?_|refine q5 ?_|refine q6 ?_|refine q8 ?_|refine q15 ?_)
  refine retQ_ret rfl (by repeat (exact List.Sublist.refl _)) ⟨rfl,rfl, ?_⟩
  rw [trimD,if_pos h];rfl
 ·repeat (first|refine q1 ?_|refine q3 ?_|refine q4 tab rfl rfl ?_|refine q5 ?_|refine q6 ?_|refine q13 ?_|refine q15 ?_)
  refine retQ_ret rfl (by repeat (exact List.Sublist.refl _)) ⟨rfl,rfl, ?_⟩
  rw [trimD,if_neg (by rw [h];decide)]
theorem trim_law (m : Mem) (L : List Item) (s p : Str) (hs : s.length ≤ 140737488355328) : TCall Tryz.prog 69 ⟨[strV s,strV p]⟩ m L (Ret (strV (trimD s p)) m L):=by
 unfold TCall
 refine TCallX.enter Tryz.func69 rfl 8 rfl ?_
 repeat (first|refine q1 ?_|refine q3 ?_|refine q4 tab rfl rfl ?_|refine q5 ?_|refine q6 ?_)
 refine TO.step rfl (OT.call rfl rfl rfl rfl rfl rfl goes121 ((trim_lite _ _ s p hs).x ?_));
 rintro _ _ _ ⟨rfl,rfl,rfl⟩
 repeat (first|refine q4 tab rfl rfl ?_|refine q5 ?_|refine q6 ?_|refine q15 ?_)
 refine retQ_ret rfl (by repeat (exact List.Sublist.refl _)) ⟨rfl,rfl, ?_⟩
 rfl
def lastB (t : Str) : UInt8:=if t=[123] ∨ t=[125] ∨ t=[59] then 10 else 32
def putS (t : Str) : Str:=t++[lastB t]
def putL (l : List Str) : Str:=(l.map putS).flatten
theorem putL_app (l r : List Str) : putL (l++r)=putL l++putL r:=by unfold putL;rw [List.map_append,List.flatten_append]
theorem putL_one (t : Str) : putL [t]=putS t:=by simp [putL]
def putT (l : List Ps.Tk) : Str:=putL (l.map Pt.txt)
theorem putT_app (l r : List Ps.Tk) : putT (l++r)=putT l++putT r:=by unfold putT;rw [List.map_append,putL_app]
theorem putT_nil : putT []=[]:=rfl
structure PS where
 m : Mem
 q : Option Addr
 s : Sl
 i : Nat
theorem BOk.cast {m : Mem} {bd : Nat} {q : Option Addr} {s : Sl} {x y : Str} (h : BOk m bd q s x) (e : x=y) : BOk m bd q s y:=e ▸ h
set_option maxHeartbeats 1600000 in
theorem put_law (m : Mem) (L : List Item) (bd : Nat) (q : Option Addr) (s : Sl) (x : Str) (hB : BOk m bd q s x) (sl : Sl) (l : List Ps.Tk) (hs : SlRep rStr m sl (l.map Pt.txt)) (hl : x.length + (putT l).length ≤ 140737488355328) :
  TCall Tryz.prog 67 ⟨[bdV bd,sl.v]⟩ m (bdL bd q s L) (Wr bd m L (x++putT l)):=by
 have hlen:=hs.len
 have hsm:=hs.small rfl
 unfold TCall
 refine TCallX.enter Tryz.func67 rfl 36 rfl ?_
 repeat (first|refine q1 ?_|refine q2 ?_|refine q3 ?_|refine q4 tab rfl rfl ?_|refine q5 ?_|refine q6 ?_)
 refine TC.loopK (ι:=PS) [0,6,7] rfl (fun g=>[(8, .int .i64 (g.i : Int))]) (fun g=>g.m) (fun g=>bdL bd g.q g.s L) (fun g=>m ≤ g.m∧g.i ≤ l.length∧BOk g.m bd g.q g.s (x++putT (l.take g.i))) (fun g=>l.length - g.i) ⟨m,q,s,0⟩ (by repeat (first|exact trivial|refine And.intro rfl ?_)) rfl (by repeat (exact List.Sublist.refl _)) ⟨Mem.le_refl _,Nat.zero_le _,hB.cast (by simp [putT,putL])⟩ ?_
 rintro ⟨m1,p1,s1,i⟩ ⟨hm1,hi,hB1⟩
 simp only at hm1 hi hB1
 repeat (first|refine q1 ?_|refine q3 ?_|refine q4 tab rfl rfl ?_|refine q5 ?_|refine q6 ?_)
 refine TC.condP rfl (fun h1 => ?_) (fun h1 => ?_)
 ·simp only at h1
  have hlt : i < l.length:=by rw [List.length_map] at hlen;omega
  have hxi : (l.map Pt.txt)[i]? = some (Pt.txt l[i]):=by rw [List.getElem?_map,List.getElem?_eq_getElem hlt];rfl
  have hcut : putT l=putT (l.take i)++(putS (Pt.txt l[i])++putT (l.drop (i + 1))):=by
   have e : l=l.take i++([l[i]]++l.drop (i + 1)):=by rw [List.singleton_append,← List.drop_eq_getElem_cons hlt,List.take_append_drop]
   conv=>lhs;rw [e]
   rw [putT_app,putT_app];unfold putT;rw [List.map_cons,List.map_nil,putL_one]
  have htk : putT (l.take (i + 1))=putT (l.take i)++putS (Pt.txt l[i]):=by
   rw [List.take_succ_eq_append_getElem hlt,putT_app]
   show _++putL [Pt.txt l[i]]=_
   rw [putL_one]
  have hlc:=congrArg List.length hcut
  rw [List.length_append,List.length_append] at hlc
  generalize ht : Pt.txt l[i]=t at *
  have hpl : (putS t).length=t.length + 1:=by simp [putS]
  have hs1:=hs.mono hm1
  repeat (first|refine q1 ?_|refine q2 ?_|refine q3 ?_|refine q6 ?_|refine q13 ?_)
  refine TO.step rfl (OT.index tab rStr i hs1 rfl rfl rfl rfl rfl (by first | rfl | omega | (simp only;omega)) rfl hxi ?_)
  rintro b4 i4 v4 hv4 hA4
  obtain rfl : v4=t:=hv4
  (refine TO.step rfl (OT.loadA0 tab hA4 rfl rfl rfl rfl rfl ?_))
  repeat (first|refine q1 ?_|refine q3 ?_|refine q4 tab rfl rfl ?_|refine q5 ?_|refine q6 ?_)
  refine TO.step rfl (OT.call rfl rfl rfl rfl rfl rfl goes91 ((writeString_law _ _ bd p1 s1 _ v4 hB1 (by rw [List.length_append];omega)).x ?_));
  rintro _ m2 _ ⟨hm2,s2,p2,rfl,hB2⟩
  repeat (first|refine q1 ?_|refine q3 ?_|refine q4 tab rfl rfl ?_|refine q5 ?_|refine q6 ?_)
  (refine TO.splitP rfl rfl (fun c1 => ?_) (fun c1 => ?_))
  ·subst c1
   repeat (first|refine q3 ?_|refine q4 tab rfl rfl ?_|refine q5 ?_|refine q6 ?_|refine q16 rfl ?_)
   refine TO.step rfl (OT.call rfl rfl rfl rfl rfl rfl goes119 ((writeByte_law _ _ bd p2 s2 _ 10 hB2 (by rw [List.length_append,List.length_append];omega)).x ?_));
   rintro _ m3 _ ⟨hm3,s3,p3,rfl,hB3⟩
   repeat (first|refine q3 ?_|refine q5 ?_|refine q6 ?_|refine q7 ?_)
   refine TO.step rfl (OT.arith (r':=((i + 1 : Nat) : Int)) rfl rfl rfl rfl rfl rfl rfl (by omega) ?_)
   repeat (first|refine q4 tab rfl rfl ?_|refine q5 ?_|refine q6 ?_)
   refine ⟨⟨m3,p3,s3,i + 1⟩,(by repeat (first|exact trivial|refine And.intro rfl ?_)),(by repeat (first|exact trivial|refine And.intro rfl ?_)),rfl,rfl,(by repeat (exact List.Sublist.refl _)),⟨Mem.le_trans hm1 (Mem.le_trans hm2 hm3),by simp only;omega,hB3.cast ?_⟩,by simp only;omega⟩
   rw [htk,putS]
   simp only [List.append_assoc]
   rw [show lastB [123]=10 by decide]
  repeat (refine q4 tab rfl rfl ?_)
  (refine TO.splitP rfl rfl (fun c2 => ?_) (fun c2 => ?_))
  ·subst c2
   repeat (first|refine q3 ?_|refine q4 tab rfl rfl ?_|refine q5 ?_|refine q6 ?_|refine q16 rfl ?_)
   refine TO.step rfl (OT.call rfl rfl rfl rfl rfl rfl goes119 ((writeByte_law _ _ bd p2 s2 _ 10 hB2 (by rw [List.length_append,List.length_append];omega)).x ?_));
   rintro _ m3 _ ⟨hm3,s3,p3,rfl,hB3⟩
   repeat (first|refine q3 ?_|refine q5 ?_|refine q6 ?_|refine q7 ?_)
   refine TO.step rfl (OT.arith (r':=((i + 1 : Nat) : Int)) rfl rfl rfl rfl rfl rfl rfl (by omega) ?_)
   repeat (first|refine q4 tab rfl rfl ?_|refine q5 ?_|refine q6 ?_)
   refine ⟨⟨m3,p3,s3,i + 1⟩,(by repeat (first|exact trivial|refine And.intro rfl ?_)),(by repeat (first|exact trivial|refine And.intro rfl ?_)),rfl,rfl,(by repeat (exact List.Sublist.refl _)),⟨Mem.le_trans hm1 (Mem.le_trans hm2 hm3),by simp only;omega,hB3.cast ?_⟩,by simp only;omega⟩
   rw [htk,putS]
   simp only [List.append_assoc]
   rw [show lastB [125]=10 by decide]
  repeat (first|refine q4 tab rfl rfl ?_|refine q5 ?_|refine q6 ?_)
  refine TC.cond (t:=decide (v4=[59])) rfl (fun c3 => ?_) (fun c3 => ?_)
  ·have c3':=of_decide_eq_true c3
   subst c3'
   repeat (first|refine q3 ?_|refine q4 tab rfl rfl ?_)
   refine TO.step rfl (OT.call rfl rfl rfl rfl rfl rfl goes119 ((writeByte_law _ _ bd p2 s2 _ 10 hB2 (by rw [List.length_append,List.length_append];omega)).x ?_));
   rintro _ m3 _ ⟨hm3,s3,p3,rfl,hB3⟩
   repeat (first|refine q3 ?_|refine q5 ?_|refine q6 ?_|refine q7 ?_)
   refine TO.step rfl (OT.arith (r':=((i + 1 : Nat) : Int)) rfl rfl rfl rfl rfl rfl rfl (by omega) ?_)
   repeat (first|refine q4 tab rfl rfl ?_|refine q5 ?_|refine q6 ?_)
   refine ⟨⟨m3,p3,s3,i + 1⟩,(by repeat (first|exact trivial|refine And.intro rfl ?_)),(by repeat (first|exact trivial|refine And.intro rfl ?_)),rfl,rfl,(by repeat (exact List.Sublist.refl _)),⟨Mem.le_trans hm1 (Mem.le_trans hm2 hm3),by simp only;omega,hB3.cast ?_⟩,by simp only;omega⟩
   rw [htk,putS]
   simp only [List.append_assoc]
   rw [show lastB [59]=10 by decide]
  ·have c3':=of_decide_eq_false c3
   repeat (first|refine q3 ?_|refine q4 tab rfl rfl ?_)
   refine TO.step rfl (OT.call rfl rfl rfl rfl rfl rfl goes119 ((writeByte_law _ _ bd p2 s2 _ 32 hB2 (by rw [List.length_append,List.length_append];omega)).x ?_));
   rintro _ m3 _ ⟨hm3,s3,p3,rfl,hB3⟩
   repeat (first|refine q3 ?_|refine q5 ?_|refine q6 ?_|refine q7 ?_)
   refine TO.step rfl (OT.arith (r':=((i + 1 : Nat) : Int)) rfl rfl rfl rfl rfl rfl rfl (by omega) ?_)
   repeat (first|refine q4 tab rfl rfl ?_|refine q5 ?_|refine q6 ?_)
   refine ⟨⟨m3,p3,s3,i + 1⟩,(by repeat (first|exact trivial|refine And.intro rfl ?_)),(by repeat (first|exact trivial|refine And.intro rfl ?_)),rfl,rfl,(by repeat (exact List.Sublist.refl _)),⟨Mem.le_trans hm1 (Mem.le_trans hm2 hm3),by simp only;omega,hB3.cast ?_⟩,by simp only;omega⟩
   rw [htk,putS]
   simp only [List.append_assoc]
   rw [show lastB v4=32 by (unfold lastB;simp [c1,c2,c3'])]
 ·simp only at h1
  repeat (first|refine q10 ?_|refine q11 ?_|refine q14 ?_)
  refine retQ_n rfl (by repeat (exact List.Sublist.refl _)) ⟨hm1,s1,p1,rfl,hB1.cast ?_⟩
  rw [List.take_of_length_le (by rw [List.length_map] at hlen;omega)]
end Go.Sep


/- PtVal -/
set_option linter.unusedVariables false
set_option linter.unusedSimpArgs false
namespace Go.Pt
open Go.Sep Go.Ps
mutual
def numB2 : Tree→Bool
 | .mk k n u ks=>(!decide (k=40) || decide (u < 9223372036854775808)) && numL ks
def numL : List Tree→Bool
 | []=>true
 | t :: ts=>numB2 t && numL ts
end
theorem numL_mem : ∀ {l : List Tree} {t : Tree},numL l=true→t ∈ l→numB2 t=true
 | x :: xs,t,h,hm=>by
  rw [numL,Bool.and_eq_true] at h
  rcases List.mem_cons.1 hm with rfl | hm
  ·exact h.1
  ·exact numL_mem h.2 hm
theorem num_kid {a t : Tree} (h : numB2 a=true) (hm : t ∈ a.kids) : numB2 t=true:=by
 obtain ⟨k,n,u,ks⟩:=a
 rw [numB2,Bool.and_eq_true] at h
 exact numL_mem h.2 hm
theorem num_int {n : Str} {u : Int} {ks : List Tree} (h : numB2 (.mk 40 n u ks)=true) : u < 9223372036854775808:=by
 rw [numB2,Bool.and_eq_true] at h
 simpa using h.1
structure AllV (n : Nat) (l : List Tk) : Prop where
 v : ∀ t ∈ l,TkV t
 len : l.length ≤ n
theorem AllV.le {n m : Nat} {l : List Tk} (h : AllV n l) (hn : n ≤ m) : AllV m l:=⟨h.v,Nat.le_trans h.len hn⟩
theorem AllV.nil : AllV 0 []:=⟨fun t h=>(by cases h),Nat.le_refl _⟩
theorem AllV.cons {n : Nat} {t : Tk} {l : List Tk} (h : TkV t) (hl : AllV n l) : AllV (n + 1) (t :: l):=⟨fun x hx=>by
 rcases List.mem_cons.1 hx with rfl | hx
 ·exact h
 ·exact hl.v x hx,Nat.succ_le_succ hl.len⟩
theorem AllV.app {n m : Nat} {l r : List Tk} (hl : AllV n l) (hr : AllV m r) : AllV (n + m) (l++r):=⟨fun x hx=>by
 rcases List.mem_append.1 hx with hx | hx
 ·exact hl.v x hx
 ·exact hr.v x hx,by have:=hl.len;have:=hr.len;rw [List.length_append];omega⟩
theorem v_mk {s : Str} (h : s ∈ markL) : TkV (mk s) := .inr (.inr (.inr (.inl ⟨rfl,h,rfl⟩)))
theorem v_wd {s : Str} (h : s ∈ wordL) : TkV (wd s) := .inr (.inr (.inr (.inr ⟨rfl,h,rfl⟩)))
theorem v_nm {s : Str} (h : isName s=true) : TkV (nm s) := .inl ⟨rfl,h,rfl⟩
theorem AllV.m {n : Nat} {s : Str} {l : List Tk} (h : s ∈ markL) (hl : AllV n l) : AllV (n + 1) (Pt.mk s :: l):=AllV.cons (v_mk h) hl
theorem AllV.w {n : Nat} {s : Str} {l : List Tk} (h : s ∈ wordL) (hl : AllV n l) : AllV (n + 1) (wd s :: l):=AllV.cons (v_wd h) hl
theorem AllV.n {n : Nat} {s : Str} {l : List Tk} (h : isName s=true) (hl : AllV n l) : AllV (n + 1) (nm s :: l):=AllV.cons (v_nm h) hl
def Kv (k : Tree) : Prop:=AllV (8 * k.size - 1) (toks k)
theorem v_flat : ∀ {ks : List Tree},(∀ k ∈ ks,Kv k)→AllV (8 * sizeL ks) (ks.map toks).flatten
 | [],_=>AllV.nil.le (Nat.zero_le _)
 | k :: ks,h=>((h k (by simp)).app (v_flat fun x hx=>h x (by simp [hx]))).le (by have:=size_pos k;simp only [sizeL];omega)
theorem v_comma : ∀ {ks : List Tree},(∀ k ∈ ks,Kv k)→AllV (8 * sizeL ks) (commaJ (ks.map toks))
 | [],_=>AllV.nil.le (Nat.zero_le _)
 | [k],h=>(h k (by simp)).le (by simp only [sizeL];omega)
 | k :: u :: ts,h=>((h k (by simp)).app (AllV.m (s:=[44]) (by decide) (v_comma (ks:=u :: ts) fun x hx=>h x (by simp at hx ⊢;exact .inr hx)))).le (by have:=size_pos k;simp only [sizeL];omega)
theorem v_res {ks : List Tree} (h : ∀ k ∈ ks,Kv k) : AllV (8 * sizeL ks + 2) (resJ (ks.map toks)):=by
 unfold resJ
 split
 ·exact (v_comma h).le (by omega)
 ·exact (AllV.m (by decide) ((v_comma h).app (AllV.m (by decide) AllV.nil))).le (by omega)
theorem v_semis : ∀ {ks : List Tree},(∀ k ∈ ks,Kv k)→AllV (8 * sizeL ks) (semis (ks.map toks))
 | [],_=>AllV.nil.le (Nat.zero_le _)
 | k :: ks,h=>(((h k (by simp)).app (AllV.m (s:=[59]) (by decide) AllV.nil)).app (v_semis fun x hx=>h x (by simp [hx]))).le (by have:=size_pos k;simp only [sizeL];omega)
theorem v_sig {u : Int} {ks : List Tree} (h : ∀ k ∈ ks,Kv k) : AllV (8 * sizeL ks + 4) (sigJ u (ks.map toks)):=by
 unfold sigJ
 rw [← List.map_take,← List.map_drop]
 exact (AllV.m (by decide) ((v_comma fun t ht=>h t (List.mem_of_mem_take ht)).app (AllV.m (by decide) (v_res fun t ht=>h t (List.mem_of_mem_drop ht))))).le (by have:=sizeL_drop ks u.toNat;omega)
theorem sz (k : Int) (n : Str) (u : Int) (ks : List Tree) : (Tree.mk k n u ks).size=1 + sizeL ks:=rfl
theorem fin {n : Nat} {a : Tree} (h : AllV n (toks a)) (hn : n ≤ 8 * a.size - 1) : Kv a:=h.le hn
theorem fin2 {n : Nat} {a : Tree} {l : List Tk} (e : toks a=l) (h : AllV n l) (hn : n ≤ 8 * a.size - 1) : Kv a:=(show AllV n (toks a) from e ▸ h).le hn
theorem v_typ (a : Tree) : a.isType=true→Kv a:=by
 induction a using Tree.ind with
 | h a ih =>
 intro ht
 rw [isType_eq] at ht
 by_cases h : a.kind=10
 ·rw [if_pos h] at ht
  simp only [Bool.and_eq_true,decide_eq_true_eq] at ht
  obtain ⟨k,n,u,ks⟩:=a
  obtain rfl : k=10:=h
  exact fin (AllV.n ht.2.1 AllV.nil) (by simp only [sz,sizeL,Tree.kids];omega)
 rw [if_neg h] at ht
 by_cases h2 : a.kind=11 ∨ a.kind=12
 ·rw [if_pos h2] at ht
  simp only [Bool.and_eq_true,decide_eq_true_eq] at ht
  obtain ⟨k,n,u,ks⟩:=a
  obtain ⟨x,rfl⟩:=List.length_eq_one_iff.1 ht.2.2.1
  have hx:=ih x (by simp [Tree.kids]) (List.all_eq_true.1 ht.2.2.2 x (by simp [Tree.kids]))
  rcases h2 with h2 | h2
  ·obtain rfl : k=11:=h2
   exact fin (AllV.m (by decide) hx) (by simp only [sz,sizeL,Tree.kids];omega)
  ·obtain rfl : k=12:=h2
   exact fin (AllV.m (by decide) (AllV.m (by decide) hx)) (by simp only [sz,sizeL,Tree.kids];omega)
 rw [if_neg h2] at ht
 by_cases h3 : a.kind=13
 ·rw [if_pos h3] at ht
  simp only [Bool.and_eq_true,decide_eq_true_eq] at ht
  obtain ⟨k,n,u,ks⟩:=a
  obtain rfl : k=13:=h3
  exact fin2 (toks_eq _) (AllV.w (by decide) (v_sig (fun k hk=>ih k hk (List.all_eq_true.1 ht.2.2.2 k hk)))) (by simp only [sz,sizeL,Tree.kids];omega)
 rw [if_neg h3] at ht
 cases ht
theorem v_param {a : Tree} (ht : a.isParam=true) : Kv a:=by
 unfold Tree.isParam at ht
 simp only [Bool.and_eq_true,decide_eq_true_eq] at ht
 obtain ⟨k,n,u,ks⟩:=a
 obtain rfl : k=8:=ht.1
 obtain ⟨x,rfl⟩:=List.length_eq_one_iff.1 ht.2.2.2.1
 exact fin (AllV.n ht.2.2.1 (v_typ x (List.all_eq_true.1 ht.2.2.2.2 x (by simp [Tree.kids])))) (by simp only [sz,sizeL,Tree.kids];omega)
theorem v_sigT {a : Tree} (ht : a.isSig=true) : Kv a:=by
 unfold Tree.isSig at ht
 simp only [Bool.and_eq_true,decide_eq_true_eq] at ht
 obtain ⟨k,n,u,ks⟩:=a
 obtain rfl : k=7:=ht.1
 refine fin2 (toks_eq _) (v_sig (u:=u) (ks:=ks) fun k hk => ?_) (by simp only [sz,Tree.kids];omega)
 have hk2 : k ∈ ks.take u.toNat++ks.drop u.toNat:=by rw [List.take_append_drop];exact hk
 rcases List.mem_append.1 hk2 with h | h
 ·exact v_param (List.all_eq_true.1 ht.2.2.2.2.1 k h)
 ·exact v_typ k (List.all_eq_true.1 ht.2.2.2.2.2 k h)
theorem lev_mark : ∀ s ∈ levels.flatten,s ∈ markL:=by decide
theorem ops_mark : ∀ s ∈ ops4,s ∈ markL:=by decide
structure VT (a : Tree) : Prop where
 expr : lim.expr a=true→Kv a
 stmt : lim.stmt a=true→Kv a
 block : lim.block a=true→Kv a
theorem v_expr {a : Tree} (ih : ∀ k ∈ a.kids,VT k) (hn : numB2 a=true) (h : lim.expr a=true) : Kv a:=by
 have he : exprS lim a=true:=(lim_fix a).1.symm.trans h
 obtain ⟨k,n0,u0,ks⟩:=a
 by_cases e : k=40
 ·subst e
  have hf : (bareB (.mk 40 n0 u0 ks) (decide (0 ≤ u0)) false true && kidsR [] none ks)=true:=he
  rw [Bool.and_eq_true] at hf
  exact fin (AllV.cons (.inr (.inl ⟨rfl,rfl,of_decide_eq_true (bare_f hf.1).1,num_int hn⟩)) AllV.nil) (by simp only [sz,sizeL,Tree.kids];omega)
 by_cases e : k=41
 ·subst e
  have hf : (bareB (.mk 41 n0 u0 ks) (decide ((n0.length : Int) ≤ 1024)) true false && kidsR [] none ks)=true:=he
  rw [Bool.and_eq_true] at hf
  exact fin (AllV.cons (.inr (.inr (.inl ⟨rfl,by have:=of_decide_eq_true (bare_f hf.1).1;show n0.length ≤ 1024;omega,rfl⟩))) AllV.nil) (by simp only [sz,sizeL,Tree.kids];omega)
 by_cases e : k=42
 ·subst e
  have et : toks (.mk 42 n0 u0 ks)=if u0=1 then [wd [116,114,117,101]] else [wd [102,97,108,115,101]]:=by rw [toks_eq];rfl
  by_cases hu : u0=1
  ·exact fin2 (l:=[wd [116,114,117,101]]) (by rw [et,if_pos hu]) (AllV.w (by decide) AllV.nil) (by simp only [sz,Tree.kids];omega)
  ·exact fin2 (l:=[wd [102,97,108,115,101]]) (by rw [et,if_neg hu]) (AllV.w (by decide) AllV.nil) (by simp only [sz,Tree.kids];omega)
 by_cases e : k=43
 ·subst e
  exact fin (AllV.w (by decide) AllV.nil) (by simp only [sz,sizeL,Tree.kids];omega)
 by_cases e : k=44
 ·subst e
  have hf : (ofB (.mk 44 n0 u0 ks) 44 && kidsR [] none ks)=true:=he
  rw [Bool.and_eq_true] at hf
  exact fin (AllV.n (of_f hf.1).2.2 AllV.nil) (by simp only [sz,sizeL,Tree.kids];omega)
 by_cases e : k=45
 ·subst e
  have hf : (ofB (.mk 45 n0 u0 ks) 45 && ks.all lim.expr)=true:=he
  rw [Bool.and_eq_true] at hf
  exact fin2 (toks_eq _) (AllV.m (by decide) (AllV.n (of_f hf.1).2.2 (AllV.m (by decide) ((v_comma (fun k hk=>(ih k hk).expr (List.all_eq_true.1 hf.2 k hk))).app (AllV.m (by decide) (AllV.m (by decide) AllV.nil)))))) (by simp only [sz,sizeL,Tree.kids];omega)
 by_cases e : k=46
 ·subst e
  have hf : (bareB (.mk 46 n0 u0 ks) true false false && kidsR [Tree.isType] (some lim.expr) ks)=true:=he
  rw [Bool.and_eq_true] at hf
  obtain ⟨x,r,rfl,hx,hr⟩:=kidsS hf.2
  have et : toks (.mk 46 n0 u0 (x :: r))=mk [91] :: mk [93] :: (toks x++mk [123] :: (commaJ (r.map toks)++[mk [125]])):=by rw [toks_eq];rfl
  exact fin2 et (AllV.m (by decide) (AllV.m (by decide) ((v_typ x hx).app (AllV.m (by decide) ((v_comma (fun k hk=>(ih k (by simp [Tree.kids,hk])).expr (hr k hk))).app (AllV.m (by decide) AllV.nil)))))) (by simp only [sz,sizeL,Tree.kids];omega)
 by_cases e : k=47
 ·subst e
  have hf : (bareB (.mk 47 n0 u0 ks) true false false && kidsR [Tree.isSig,lim.block] none ks)=true:=he
  rw [Bool.and_eq_true] at hf
  obtain ⟨x,y,rfl,hx,hy⟩:=kids2 hf.2
  exact fin (AllV.w (by decide) ((v_sigT hx).app ((ih y (by simp [Tree.kids])).block hy))) (by simp only [sz,sizeL,Tree.kids];omega)
 by_cases e : k=48
 ·subst e
  have hf : (ofB (.mk 48 n0 u0 ks) 48 && kidsR [lim.expr] none ks)=true:=he
  rw [Bool.and_eq_true] at hf
  obtain ⟨x,rfl,hx⟩:=kids1 hf.2
  exact fin (((ih x (by simp [Tree.kids])).expr hx).app (AllV.m (by decide) (AllV.n (of_f hf.1).2.2 AllV.nil))) (by simp only [sz,sizeL,Tree.kids];omega)
 by_cases e : k=49
 ·subst e
  have hf : (bareB (.mk 49 n0 u0 ks) true false false && kidsR [lim.expr,lim.expr] none ks)=true:=he
  rw [Bool.and_eq_true] at hf
  obtain ⟨x,y,rfl,hx,hy⟩:=kids2 hf.2
  exact fin (((ih x (by simp [Tree.kids])).expr hx).app (AllV.m (by decide) (((ih y (by simp [Tree.kids])).expr hy).app (AllV.m (by decide) AllV.nil)))) (by simp only [sz,sizeL,Tree.kids];omega)
 by_cases e : k=50
 ·subst e
  have hf : (bareB (.mk 50 n0 u0 ks) (lvl (.mk 50 n0 u0 ks)) false true && ks.all lim.expr)=true:=he
  rw [Bool.and_eq_true] at hf
  have hk : ∀ k ∈ ks,Kv k:=fun k hk=>(ih k hk).expr (List.all_eq_true.1 hf.2 k hk)
  have hl : (decide (0 ≤ u0) && (decide (u0 ≤ 3) && decide ((ks.length : Int)=1 + u0 % 2 + u0 / 2)))=true:=(bare_f hf.1).1
  simp only [Bool.and_eq_true,decide_eq_true_eq] at hl
  have hu : u0=0 ∨ u0=1 ∨ u0=2 ∨ u0=3:=by omega
  rcases hu with rfl | rfl | rfl | rfl
  ·obtain ⟨x,rfl⟩:=List.length_eq_one_iff.1 (show ks.length=1 by omega)
   exact fin (n:=8 * x.size - 1 + 3) (((hk x (by simp)).app (AllV.m (s:=[91]) (by decide) (AllV.m (s:=[58]) (by decide) (AllV.m (s:=[93]) (by decide) AllV.nil))))) (by simp only [sz,sizeL,Tree.kids];omega)
  ·obtain ⟨x,y,rfl⟩:=len2 (show ks.length=2 by omega)
   exact fin (((hk x (by simp)).app (AllV.m (s:=[91]) (by decide) ((hk y (by simp)).app (AllV.m (s:=[58]) (by decide) (AllV.m (s:=[93]) (by decide) AllV.nil)))))) (by simp only [sz,sizeL,Tree.kids];omega)
  ·obtain ⟨x,y,rfl⟩:=len2 (show ks.length=2 by omega)
   exact fin (((hk x (by simp)).app (AllV.m (s:=[91]) (by decide) (AllV.m (s:=[58]) (by decide) ((hk y (by simp)).app (AllV.m (s:=[93]) (by decide) AllV.nil)))))) (by simp only [sz,sizeL,Tree.kids];omega)
  ·obtain ⟨x,y,z,rfl⟩:=len3 (show ks.length=3 by omega)
   exact fin (((hk x (by simp)).app (AllV.m (s:=[91]) (by decide) ((hk y (by simp)).app (AllV.m (s:=[58]) (by decide) ((hk z (by simp)).app (AllV.m (s:=[93]) (by decide) AllV.nil))))))) (by simp only [sz,sizeL,Tree.kids];omega)
 by_cases e : k=51
 ·subst e
  have hf : (bareB (.mk 51 n0 u0 ks) true false false && kidsR [lim.expr] (some lim.expr) ks)=true:=he
  rw [Bool.and_eq_true] at hf
  obtain ⟨x,r,rfl,hx,hr⟩:=kidsS hf.2
  have et : toks (.mk 51 n0 u0 (x :: r))=toks x++mk [40] :: (commaJ (r.map toks)++[mk [41]]):=by rw [toks_eq];rfl
  exact fin2 et (((ih x (by simp [Tree.kids])).expr hx).app (AllV.m (by decide) ((v_comma (fun k hk=>(ih k (by simp [Tree.kids,hk])).expr (hr k hk))).app (AllV.m (by decide) AllV.nil)))) (by simp only [sz,sizeL,Tree.kids];omega)
 by_cases e : k=52
 ·subst e
  have hf : (bareB (.mk 52 n0 u0 ks) (decide (n0 ∈ ops4)) true false && kidsR [lim.expr] none ks)=true:=he
  rw [Bool.and_eq_true] at hf
  obtain ⟨x,rfl,hx⟩:=kids1 hf.2
  exact fin (AllV.m (by decide) (AllV.m (ops_mark _ (of_decide_eq_true (bare_f hf.1).1)) (((ih x (by simp [Tree.kids])).expr hx).app (AllV.m (by decide) AllV.nil)))) (by simp only [sz,sizeL,Tree.kids];omega)
 by_cases e : k=53
 ·subst e
  have hf : (bareB (.mk 53 n0 u0 ks) (decide (n0 ∈ Ps.levels.flatten)) true false && kidsR [lim.expr,lim.expr] none ks)=true:=he
  rw [Bool.and_eq_true] at hf
  obtain ⟨x,y,rfl,hx,hy⟩:=kids2 hf.2
  exact fin (AllV.m (by decide) (((ih x (by simp [Tree.kids])).expr hx).app (AllV.m (lev_mark _ (of_decide_eq_true (bare_f hf.1).1)) (((ih y (by simp [Tree.kids])).expr hy).app (AllV.m (by decide) AllV.nil))))) (by simp only [sz,sizeL,Tree.kids];omega)
 exfalso
 unfold exprS at he
 simp only [Tree.kind] at he
 simp [*] at he
theorem v_stmt {a : Tree} (ih : ∀ k ∈ a.kids,VT k) (hn : numB2 a=true) (h : lim.stmt a=true) : Kv a:=by
 have h1 : stmtS lim a=true:=(lim_fix _).2.1.symm.trans h
 rw [stmtS_head] at h1
 obtain ⟨k,n0,u0,ks⟩:=a
 rw [Bool.and_eq_true] at h1
 obtain ⟨-,h1⟩:=h1
 by_cases e : k=20
 ·subst e
  have h2 : blockS lim (.mk 20 n0 u0 ks)=true:=h1
  unfold blockS at h2
  rw [Bool.and_eq_true] at h2
  exact fin2 (toks_eq _) (AllV.m (by decide) ((v_flat (fun k hk=>(ih k hk).stmt (List.all_eq_true.1 h2.2 k hk))).app (AllV.m (by decide) AllV.nil))) (by simp only [sz,sizeL,Tree.kids];omega)
 by_cases e : k=21
 ·subst e
  have h2 : (isName n0 && (kidsR [Tree.isType] none ks || kidsR [Tree.isType,lim.expr] none ks))=true:=h1
  simp only [Bool.and_eq_true,Bool.or_eq_true] at h2
  obtain ⟨hn0,h3⟩:=h2
  rcases h3 with h3 | h3
  ·obtain ⟨t,rfl,ht⟩:=kids1 h3
   exact fin (AllV.w (by decide) (AllV.n hn0 ((v_typ t ht).app (AllV.app AllV.nil (AllV.m (by decide) AllV.nil))))) (by simp only [sz,sizeL,Tree.kids];omega)
  ·obtain ⟨t,x,rfl,ht,hx⟩:=kids2 h3
   exact fin (AllV.w (by decide) (AllV.n hn0 ((v_typ t ht).app (AllV.app (AllV.m (by decide) ((ih x (by simp [Tree.kids])).expr hx)) (AllV.m (by decide) AllV.nil))))) (by simp only [sz,sizeL,Tree.kids];omega)
 by_cases e : k=22 ∨ k=23
 ·have h3 : ∀ k ∈ ks,Kv k:=by
   intro x hx
   have hx2 : x ∈ ks.take u0.toNat++ks.drop u0.toNat:=by rw [List.take_append_drop];exact hx
   rcases e with rfl | rfl
   ·have h2 : asgS lim (nmS lim) (.mk 22 n0 u0 ks)=true:=h1
    unfold asgS at h2
    simp only [Bool.and_eq_true] at h2
    rcases List.mem_append.1 hx2 with hq | hq
    ·have:=List.all_eq_true.1 h2.2.2.1 x hq
     unfold nmS at this
     rw [Bool.and_eq_true] at this
     exact (ih x hx).expr this.2
    ·exact (ih x hx).expr (List.all_eq_true.1 h2.2.2.2 x hq)
   ·have h2 : asgS lim (plS lim) (.mk 23 n0 u0 ks)=true:=h1
    unfold asgS at h2
    simp only [Bool.and_eq_true] at h2
    rcases List.mem_append.1 hx2 with hq | hq
    ·have:=List.all_eq_true.1 h2.2.2.1 x hq
     unfold plS at this
     rw [Bool.and_eq_true] at this
     exact (ih x hx).expr this.2
    ·exact (ih x hx).expr (List.all_eq_true.1 h2.2.2.2 x hq)
  have hs:=sizeL_drop ks u0.toNat
  have q1:=v_comma (ks:=ks.take u0.toNat) fun x hx=>h3 x (List.mem_of_mem_take hx)
  have q2:=v_comma (ks:=ks.drop u0.toNat) fun x hx=>h3 x (List.mem_of_mem_drop hx)
  rw [List.map_take] at q1
  rw [List.map_drop] at q2
  rcases e with rfl | rfl
  ·refine fin (n:=8 * sizeL (ks.take u0.toNat) + (8 * sizeL (ks.drop u0.toNat) + (0 + 1) + 1)) ?_ (by simp only [sz,Tree.kids];omega)
   rw [toks_eq]
   exact q1.app (AllV.m (s:=[58,61]) (by decide) (q2.app (AllV.m (s:=[59]) (by decide) AllV.nil)))
  ·refine fin (n:=8 * sizeL (ks.take u0.toNat) + (8 * sizeL (ks.drop u0.toNat) + (0 + 1) + 1)) ?_ (by simp only [sz,Tree.kids];omega)
   rw [toks_eq]
   exact q1.app (AllV.m (s:=[61]) (by decide) (q2.app (AllV.m (s:=[59]) (by decide) AllV.nil)))
 have e22 : ¬ k=22:=fun h=>e (.inl h)
 have e23 : ¬ k=23:=fun h=>e (.inr h)
 by_cases e : k=24
 ·subst e
  have h2 : kidsR [callS lim] none ks=true:=h1
  obtain ⟨x,rfl,hx⟩:=kids1 h2
  unfold callS at hx
  rw [Bool.and_eq_true] at hx
  exact fin (((ih x (by simp [Tree.kids])).expr hx.2).app (AllV.m (by decide) AllV.nil)) (by simp only [sz,sizeL,Tree.kids];omega)
 by_cases e : k=25
 ·subst e
  have h2 : (kidsR [lim.expr,lim.block] none ks || kidsR [lim.expr,lim.block,otherS lim] none ks)=true:=h1
  rw [Bool.or_eq_true] at h2
  rcases h2 with h3 | h3
  ·obtain ⟨c,b,rfl,hc,hb⟩:=kids2 h3
   exact fin (AllV.w (by decide) (((ih c (by simp [Tree.kids])).expr hc).app (((ih b (by simp [Tree.kids])).block hb).app AllV.nil))) (by simp only [sz,sizeL,Tree.kids];omega)
  ·obtain ⟨c,b,e,rfl,hc,hb,he⟩:=kids3 h3
   have he2 : Kv e:=by
    unfold otherS at he
    rw [Bool.or_eq_true,Bool.and_eq_true] at he
    rcases he with he | he
    ·exact (ih e (by simp [Tree.kids])).block he
    ·exact (ih e (by simp [Tree.kids])).stmt he.2
   exact fin (AllV.w (by decide) (((ih c (by simp [Tree.kids])).expr hc).app (((ih b (by simp [Tree.kids])).block hb).app (AllV.w (by decide) he2)))) (by simp only [sz,sizeL,Tree.kids];omega)
 by_cases e : k=26
 ·subst e
  have h2 : (kidsR [lim.block] none ks || kidsR [lim.expr,lim.block] none ks)=true:=h1
  rw [Bool.or_eq_true] at h2
  rcases h2 with h3 | h3
  ·obtain ⟨b,rfl,hb⟩:=kids1 h3
   exact fin (AllV.w (by decide) (AllV.app AllV.nil ((ih b (by simp [Tree.kids])).block hb))) (by simp only [sz,sizeL,Tree.kids];omega)
  ·obtain ⟨c,b,rfl,hc,hb⟩:=kids2 h3
   exact fin (AllV.w (by decide) (((ih c (by simp [Tree.kids])).expr hc).app ((ih b (by simp [Tree.kids])).block hb))) (by simp only [sz,sizeL,Tree.kids];omega)
 by_cases e : k=27
 ·subst e
  have h2 : ks.all lim.expr=true:=h1
  exact fin2 (toks_eq _) (AllV.w (by decide) ((v_comma (fun k hk=>(ih k hk).expr (List.all_eq_true.1 h2 k hk))).app (AllV.m (by decide) AllV.nil))) (by simp only [sz,sizeL,Tree.kids];omega)
 by_cases e28 : k=28
 ·subst e28
  exact fin (AllV.w (by decide) (AllV.m (by decide) AllV.nil)) (by simp only [sz,sizeL,Tree.kids];omega)
 by_cases e29 : k=29
 ·subst e29
  exact fin (AllV.w (by decide) (AllV.m (by decide) AllV.nil)) (by simp only [sz,sizeL,Tree.kids];omega)
 exfalso
 simp only [Tree.kind] at h1
 simp [*] at h1
theorem v_all (a : Tree) : numB2 a=true→VT a:=by
 induction a using Tree.ind with
 | h a ih =>
 intro hn
 have ih' : ∀ k ∈ a.kids,VT k:=fun k hk=>ih k hk (num_kid hn hk)
 refine ⟨v_expr ih' hn,v_stmt ih' hn,fun h => ?_⟩
 obtain ⟨h1,h2,h3,h4⟩:=block_f h
 obtain ⟨k,n,u,ks⟩:=a
 obtain rfl : k=20:=h1
 exact fin2 (toks_eq _) (AllV.m (by decide) ((v_flat (fun k hk=>(ih' k hk).stmt (List.all_eq_true.1 h4 k hk))).app (AllV.m (by decide) AllV.nil))) (by simp only [sz,sizeL,Tree.kids];omega)
theorem v_decl {a : Tree} (hn : numB2 a=true) (h : declS lim a=true) : Kv a:=by
 have ih : ∀ k ∈ a.kids,VT k:=fun k hk=>v_all k (num_kid hn hk)
 obtain ⟨k,n0,u0,ks⟩:=a
 by_cases e : k=2
 ·subst e
  have hf : (ofB (.mk 2 n0 u0 ks) 2 && ks.all (fieldS Tree.isType))=true:=h
  rw [Bool.and_eq_true] at hf
  refine fin2 (toks_eq _) (AllV.w (by decide) (AllV.n (of_f hf.1).2.2 (AllV.w (by decide) (AllV.m (by decide) ((v_semis (fun x hx => ?_)).app (AllV.m (by decide) AllV.nil)))))) (by simp only [sz,Tree.kids];omega)
  have hx':=List.all_eq_true.1 hf.2 x hx
  obtain ⟨s,t,rfl,ht⟩:=field_f hx'
  unfold fieldS at hx'
  rw [Bool.and_eq_true] at hx'
  exact fin (AllV.n (of_f hx'.1).2.2 (v_typ t ht)) (by simp only [sz,sizeL,Tree.kids];omega)
 by_cases e : k=3
 ·subst e
  have hf : (ofB (.mk 3 n0 u0 ks) 3 && ks.all (fieldS Tree.isSig))=true:=h
  rw [Bool.and_eq_true] at hf
  refine fin2 (toks_eq _) (AllV.w (by decide) (AllV.n (of_f hf.1).2.2 (AllV.w (by decide) (AllV.m (by decide) ((v_semis (fun x hx => ?_)).app (AllV.m (by decide) AllV.nil)))))) (by simp only [sz,Tree.kids];omega)
  have hx':=List.all_eq_true.1 hf.2 x hx
  obtain ⟨s,t,rfl,ht⟩:=field_f hx'
  unfold fieldS at hx'
  rw [Bool.and_eq_true] at hx'
  exact fin (AllV.n (of_f hx'.1).2.2 (v_sigT ht)) (by simp only [sz,sizeL,Tree.kids];omega)
 by_cases e : k=4
 ·subst e
  have hf : (ofB (.mk 4 n0 u0 ks) 4 && kidsR [Tree.isSig,lim.block] none ks)=true:=h
  rw [Bool.and_eq_true] at hf
  obtain ⟨s,b,rfl,hs,hb⟩:=kids2 hf.2
  exact fin (AllV.w (by decide) (AllV.n (of_f hf.1).2.2 ((v_sigT hs).app ((ih b (by simp [Tree.kids])).block hb)))) (by simp only [sz,sizeL,Tree.kids];omega)
 by_cases e : k=5
 ·subst e
  have hf : (ofB (.mk 5 n0 u0 ks) 5 && kidsR [recvS,Tree.isSig,lim.block] none ks)=true:=h
  rw [Bool.and_eq_true] at hf
  obtain ⟨r,s,b,rfl,hr,hs,hb⟩:=kids3 hf.2
  have hp : r.isParam=true:=by
   unfold recvS at hr
   rw [Bool.and_eq_true] at hr
   exact hr.1
  exact fin (AllV.w (by decide) (AllV.m (by decide) ((v_param hp).app (AllV.m (by decide) (AllV.n (of_f hf.1).2.2 ((v_sigT hs).app ((ih b (by simp [Tree.kids])).block hb))))))) (by simp only [sz,sizeL,Tree.kids];omega)
 exfalso
 unfold declS at h
 simp only [Tree.kind] at h
 simp [*] at h
theorem v_prog {ds : List Tree} (hn : numB2 (.mk 1 [] 0 ds)=true) (h : soundB (.mk 1 [] 0 ds)=true) : AllV (8 * sizeL ds) (ds.map toks).flatten:=by
 obtain ⟨ds',e,q1,q2,q3⟩:=soundB_f h
 injection e with _ _ _ e
 subst e
 exact v_flat fun d hd=>v_decl (num_kid hn hd) (q3 d hd)
end Go.Pt


/- PtEach -/
set_option linter.unusedVariables false
set_option linter.unusedSimpArgs false
namespace Go.Sep
open Go.Proofs Go.Pt
attribute [local irreducible] TC TO OT TCallX TCall DO DOt thenQ blockQ retQ At
theorem pq3 {α : Type} {a0 a1 a2 : α} {l : List α} : (a0 :: a1 :: a2 :: l).Perm (a1 :: a2 :: a0 :: l):=List.Perm.trans (List.Perm.swap _ _ _) (List.Perm.cons _ (List.Perm.swap _ _ _))
theorem comma_snoc : ∀ (l : List (List Ps.Tk)) (t : List Ps.Tk),l ≠ []→commaJ (l++[t])=commaJ l++Pt.mk [44] :: t
 | [a],t,_=>rfl
 | a :: b :: l,t,_=>by
  have ih:=comma_snoc (b :: l) t (by simp)
  show a++Pt.mk _ :: commaJ ((b :: l)++[t])=(a++Pt.mk _ :: commaJ (b :: l))++_
  rw [ih,List.append_assoc];rfl
theorem comma_app : ∀ (l r : List (List Ps.Tk)),l ≠ []→r ≠ []→commaJ (l++r)=commaJ l++Pt.mk [44] :: commaJ r
 | [a],b :: r,_,_=>rfl
 | a :: b :: l,r,_,hr=>by
  have ih:=comma_app (b :: l) r (by simp) hr
  show a++Pt.mk _ :: commaJ ((b :: l)++r)=(a++Pt.mk _ :: commaJ (b :: l))++_
  rw [ih,List.append_assoc];rfl
structure Cbk (mb : Mem) (bd : Nat) (fn : FuncId) (first cap : List Value) (ks : List Tree) : Prop where
 goes : Goes Tryz.prog fn
 run : ∀ k ∈ ks, ∀ (m : Mem) (L : List Item) (q : Option Addr) (s : Sl) (x : Str) (h : HTree),mb ≤ m→BOk m bd q s x→TreeRep m h k→x.length + (putT (Pt.toks k)).length ≤ 140737488355328 →
  TCall Tryz.prog fn ⟨first++treeV h :: cap⟩ m (bdL bd q s L) (Wr bd m L (x++putT (Pt.toks k)))
theorem putT_cons (t : Ps.Tk) (l : List Ps.Tk) : putT (t :: l)=putS (Pt.txt t)++putT l:=rfl
theorem part_le (l : List Ps.Tk) (r : List Ps.Tk) (t : List Ps.Tk) (h : l++r=t) : (putT l).length ≤ (putT t).length:=by rw [← h,putT_app,List.length_append];omega
set_option maxHeartbeats 1600000 in
theorem each_law {mb : Mem} {bd : Nat} {fn : FuncId} {first cap : List Value} {ks : List Tree} (hC : Cbk mb bd fn first cap ks) (m : Mem) (L : List Item) (hmb : mb ≤ m) (q : Option Addr) (s : Sl) (x : Str) (hB : BOk m bd q s x) (sl : Sl) (hs : SlRep rTree m sl ks)
  (hl : x.length + (putT (commaJ (ks.map Pt.toks))).length ≤ 140737488355328) :
  TCall Tryz.prog 88 ⟨[bdV bd,sl.v, .func (.func fn) ⟨first⟩ ⟨cap⟩]⟩ m (bdL bd q s L) (Wr bd m L (x++putT (commaJ (ks.map Pt.toks)))):=by
 have hlen:=hs.len
 have hsm:=hs.small rfl
 unfold TCall
 refine TCallX.enter Tryz.func88 rfl 24 rfl ?_
 repeat (first|refine q1 ?_|refine q2 ?_|refine q3 ?_|refine q4 tab rfl rfl ?_|refine q5 ?_|refine q6 ?_)
 refine TC.loopK (ι:=PS) [0,2,8,9] rfl (fun g=>[(10, .int .i64 (g.i : Int))]) (fun g=>g.m) (fun g=>bdL bd g.q g.s L) (fun g=>m ≤ g.m∧g.i ≤ ks.length∧BOk g.m bd g.q g.s (x++putT (commaJ ((ks.take g.i).map Pt.toks)))) (fun g=>ks.length - g.i) ⟨m,q,s,0⟩ (by repeat (first|exact trivial|refine And.intro rfl ?_)) rfl (by repeat (exact List.Sublist.refl _)) ⟨Mem.le_refl _,Nat.zero_le _,hB.cast (by simp [putT,putL,commaJ])⟩ ?_
 rintro ⟨m1,p1,s1,i⟩ ⟨hm1,hi,hB1⟩
 simp only at hm1 hi hB1
 repeat (first|refine q1 ?_|refine q3 ?_|refine q4 tab rfl rfl ?_|refine q5 ?_|refine q6 ?_)
 refine TC.condP rfl (fun h1 => ?_) (fun h1 => ?_)
 ·simp only at h1
  have hlt : i < ks.length:=by omega
  have hxi : ks[i]? = some ks[i]:=List.getElem?_eq_getElem hlt
  have hs1:=hs.mono hm1
  repeat (first|refine q1 ?_|refine q2 ?_|refine q3 ?_|refine q4 tab rfl rfl ?_|refine q6 ?_|refine q13 ?_)
  refine TO.step rfl (OT.index tab rTree i hs1 rfl rfl rfl rfl rfl (by first | rfl | omega | (simp only;omega)) rfl hxi ?_)
  rintro b4 i4 h4 hr4 hA4
  (refine TO.step rfl (OT.loadA0 tab hA4 rfl rfl rfl rfl rfl ?_))
  skip
  refine TO.step rfl (OT.alloc tab rfl rfl rfl rfl (fun b5 => ?_))
  repeat (refine q4 tab rfl rfl ?_)
  (refine TO.step rfl (OT.storeL0 tab 0 rfl rfl rfl rfl rfl rfl rfl rfl ?_))
  refine TO.perm pq3 ?_
  have hr5:=rTree_iff.1 hr4
  have hpart : i + 1 < ks.length→commaJ ((ks.take (i + 1)).map Pt.toks)++Pt.mk [44] :: commaJ ((ks.drop (i + 1)).map Pt.toks)=commaJ (ks.map Pt.toks):=fun h=>by
   rw [← comma_app _ _ (by simp;exact List.ne_nil_of_length_pos (by omega)) (by simp;omega),← List.map_append,List.take_append_drop]
  have hbnd : x.length + (putT (commaJ ((ks.take (i + 1)).map Pt.toks))).length ≤ 140737488355328:=by
   by_cases h : i + 1 < ks.length
   ·have:=part_le _ _ _ (hpart h);omega
   ·rw [List.take_of_length_le (by omega)];exact hl
  repeat (first|refine q1 ?_|refine q3 ?_|refine q4 tab rfl rfl ?_|refine q5 ?_|refine q6 ?_)
  refine TC.condP rfl (fun h2 => ?_) (fun h2 => ?_)
  ·simp only at h2
   have htk : commaJ ((ks.take (i + 1)).map Pt.toks)=commaJ ((ks.take i).map Pt.toks)++([Pt.mk [44]]++Pt.toks ks[i]):=by
    rw [List.take_succ_eq_append_getElem hlt,List.map_append]
    exact comma_snoc _ _ (by simp;exact ⟨by omega,fun e=>by rw [e] at hlt;simp at hlt⟩)
   rw [htk,putT_app,putT_app,List.length_append,List.length_append] at hbnd
   repeat (first|refine q3 ?_|refine q4 tab rfl rfl ?_)
   refine TO.step rfl (OT.litR tab rStr (hs:=[[44]]) (l:=[[44]]) ⟨rfl,trivial⟩ rfl rfl rfl rfl rfl (by decide) (fun sl2 ma hma hsl2 _ _ => ?_))
   have hB2:=hB1.mono hma
   skip
   refine TO.step rfl (OT.call rfl rfl rfl rfl rfl rfl goes67 ((put_law _ _ bd p1 s1 _ hB2 sl2 [Pt.mk [44]] hsl2 (by rw [List.length_append];omega)).x ?_));
   rintro _ m2 _ ⟨hm2,s2,p2,rfl,hB3⟩
   have hm3 : m1 ≤ m2:=Mem.le_trans hma hm2
   repeat (first|refine q3 ?_|refine q4 tab rfl rfl ?_|refine q5 ?_|refine q6 ?_)
   (refine qs rfl (qz tab 2 rfl rfl rfl rfl rfl rfl ?_))
   skip
   refine TO.step rfl (OT.call (all:=first++treeV h4 :: cap) rfl rfl rfl rfl rfl (by rw [fl_eq];rfl) hC.goes ((hC.run ks[i] (List.getElem_mem hlt) _ _ p2 s2 _ h4 (Mem.le_trans hmb (Mem.le_trans hm1 hm3)) hB3 (hr5.mono hm3) (by rw [List.length_append,List.length_append];omega)).x ?_))
   rintro _ m4 _ ⟨hm4,s4,p4,rfl,hB4⟩
   repeat (first|refine q3 ?_|refine q5 ?_|refine q6 ?_|refine q7 ?_)
   refine TO.step rfl (OT.arith (r':=((i + 1 : Nat) : Int)) rfl rfl rfl rfl rfl rfl rfl (by omega) ?_)
   repeat (first|refine q4 tab rfl rfl ?_|refine q5 ?_|refine q6 ?_)
   refine ⟨⟨m4,p4,s4,i + 1⟩,(by repeat (first|exact trivial|refine And.intro rfl ?_)),(by repeat (first|exact trivial|refine And.intro rfl ?_)),rfl,rfl,(by repeat (first|exact List.Sublist.refl _|refine List.Sublist.cons_cons _ ?_|refine List.Sublist.cons _ ?_)),⟨Mem.le_trans hm1 (Mem.le_trans hm3 hm4),by simp only;omega,hB4.cast ?_⟩,by simp only;omega⟩
   rw [htk,putT_app,putT_app]
   simp only [List.append_assoc]
  ·simp only at h2
   have hi0 : i=0:=by omega
   subst hi0
   have htk : commaJ ((ks.take (0 + 1)).map Pt.toks)=Pt.toks ks[0]:=by
    rw [List.take_succ_eq_append_getElem hlt];rfl
   rw [htk] at hbnd
   repeat (first|refine q3 ?_|refine q4 tab rfl rfl ?_|refine q6 ?_|refine q13 ?_)
   (refine qs rfl (qz tab 2 rfl rfl rfl rfl rfl rfl ?_))
   skip
   refine TO.step rfl (OT.call (all:=first++treeV h4 :: cap) rfl rfl rfl rfl rfl (by rw [fl_eq];rfl) hC.goes ((hC.run ks[0] (List.getElem_mem hlt) _ _ p1 s1 _ h4 (Mem.le_trans hmb hm1) hB1 hr5 (by simp [commaJ,putT_nil];omega)).x ?_))
   rintro _ m4 _ ⟨hm4,s4,p4,rfl,hB4⟩
   repeat (first|refine q3 ?_|refine q5 ?_|refine q6 ?_|refine q7 ?_)
   refine TO.step rfl (OT.arith (r':=((0 + 1 : Nat) : Int)) rfl rfl rfl rfl rfl rfl rfl (by omega) ?_)
   repeat (first|refine q4 tab rfl rfl ?_|refine q5 ?_|refine q6 ?_)
   refine ⟨⟨m4,p4,s4,0 + 1⟩,(by repeat (first|exact trivial|refine And.intro rfl ?_)),(by repeat (first|exact trivial|refine And.intro rfl ?_)),rfl,rfl,(by repeat (first|exact List.Sublist.refl _|refine List.Sublist.cons_cons _ ?_|refine List.Sublist.cons _ ?_)),⟨Mem.le_trans hm1 hm4,by simp only;omega,hB4.cast ?_⟩,by simp only;omega⟩
   rw [htk]
   simp [commaJ,putT_nil]
 ·simp only at h1
  repeat (first|refine q10 ?_|refine q11 ?_|refine q14 ?_)
  refine retQ_n rfl (by repeat (exact List.Sublist.refl _)) ⟨hm1,s1,p1,rfl,hB1.cast ?_⟩
  rw [List.take_of_length_le (by omega)]
end Go.Sep


/- PtTypW -/
set_option linter.unusedVariables false
set_option linter.unusedSimpArgs false
namespace Go.Sep
open Go.Proofs
attribute [local irreducible] TC TO OT TCallX TCall DO DOt thenQ blockQ retQ At
structure TbOk (Tb : Mem→Prop) : Prop where
 mono : ∀ {m m' : Mem},Tb m→m ≤ m' → Tb m'
section
variable {Tb : Mem→Prop}
def Pw (Tb : Mem→Prop) (fn : FuncId) (a : Tree) : Prop := ∀ (m : Mem) (L : List Item) (bd : Nat) (q : Option Addr) (s : Sl) (x0 : Str) (h : HTree),Tb m→BOk m bd q s x0→TreeRep m h a→x0.length + (putT (Pt.toks a)).length ≤ 140737488355328 →
 TCall Tryz.prog fn ⟨[bdV bd,treeV h]⟩ m (bdL bd q s L) (Wr bd m L (x0++putT (Pt.toks a)))
theorem Cbk.of (hTb : TbOk Tb) {mb : Mem} {bd : Nat} {fn : FuncId} {ks : List Tree} (h : ∀ k ∈ ks,Pw Tb fn k) (hg : Goes Tryz.prog fn) (hT : Tb mb) : Cbk mb bd fn [bdV bd] [] ks:=⟨hg,fun k hk m L q s x h' hmb hB hr hl=>h k hk m L bd q s x h' (hTb.mono hT hmb) hB hr hl⟩
structure TbM (Tb : Mem→Prop) (m : Mem) : Prop where
 mono : ∀ {m' : Mem},m ≤ m' → Tb m'
set_option maxHeartbeats 1600000 in
theorem results_w (hTb : TbOk Tb) (m : Mem) (L : List Item) (bd : Nat) (q : Option Addr) (s : Sl) (x0 : Str) (rs : List Tree) (sl0 : Sl) (hT : Tb m) (hB : BOk m bd q s x0) (h4 : SlRep rTree m sl0 rs) (hp : ∀ r ∈ rs,Pw Tb 65 r)
  (hl : x0.length + (putT (Pt.resJ (rs.map Pt.toks))).length ≤ 140737488355328) :
  TCall Tryz.prog 117 ⟨[bdV bd,sl0.v]⟩ m (bdL bd q s L) (Wr bd m L (x0++putT (Pt.resJ (rs.map Pt.toks)))):=by
 have hlen:=h4.len
 have hsm:=h4.small rfl
 have hm:=Mem.le_refl m
 have hT : ∀ {m' : Mem},m ≤ m' → Tb m':=fun h=>hTb.mono hT h
 unfold TCall
 refine TCallX.enter Tryz.func117 rfl 26 rfl ?_
 match rs,hp,hl,h4,hlen,hsm with
 | [],_,hl,h4,hlen,_ =>
  obtain ⟨sa,sn,sc⟩:=sl0
  obtain rfl : sn=0:=hlen
  repeat (first|refine q1 ?_|refine q3 ?_|refine q4 tab rfl rfl ?_|refine q5 ?_|refine q6 ?_|refine q13 ?_|refine q17 rfl ?_)
  exact retQ_n rfl (by repeat (exact List.Sublist.refl _)) ⟨hm,s,q,rfl,hB.cast (by simp [Pt.resJ,Pt.commaJ,putT,putL])⟩
 | [r],hp,hl,h4,hlen,_ =>
  obtain ⟨sa,sn,sc⟩:=sl0
  obtain rfl : sn=1:=hlen
  repeat (first|refine q1 ?_|refine q3 ?_|refine q4 tab rfl rfl ?_|refine q5 ?_|refine q6 ?_|refine q16 rfl ?_)
  have h4c:=h4.mono hm
  have hx0 : [r][0]? = some r:=rfl
  refine TO.step rfl (OT.index tab rTree 0 h4c rfl rfl rfl rfl rfl (by first | rfl | omega | (simp only;omega)) rfl hx0 ?_)
  rintro b7 i7 h7 hr7 hA7
  (refine TO.step rfl (OT.loadA0 tab hA7 rfl rfl rfl rfl rfl ?_))
  skip
  refine TO.step rfl (OT.call rfl rfl rfl rfl rfl rfl goes65 ((hp r (by simp) _ _ bd q s _ h7 (hT hm) hB (rTree_iff.1 hr7) hl).x ?_));
  rintro _ m1 _ ⟨hm1,s,q,rfl,hB⟩
  repeat (first|refine q1 ?_|refine q3 ?_|refine q4 tab rfl rfl ?_|refine q5 ?_|refine q6 ?_|refine q13 ?_|refine q17 rfl ?_)
  exact retQ_n rfl (by repeat (exact List.Sublist.refl _)) ⟨Mem.le_trans hm hm1,s,q,rfl,hB⟩
 | r :: r2 :: rs,hp,hl,h4,hlen,hsm =>
  have et : Pt.resJ ((r :: r2 :: rs).map Pt.toks)=[Pt.mk [40]]++(Pt.commaJ ((r :: r2 :: rs).map Pt.toks)++[Pt.mk [41]]):=by
   show (if _ then _ else _)=_
   rw [if_neg (by simp)];rfl
  rw [et] at hl
  simp only [putT_app,List.length_append] at hl
  repeat (first|refine q1 ?_|refine q3 ?_|refine q4 tab rfl rfl ?_|refine q5 ?_|refine q6 ?_)
  refine TC.condP rfl (fun h1 => ?_) (fun h1 => ?_)
  ·simp only [List.length_cons] at h1 hlen;omega
  repeat (first|refine q1 ?_|refine q3 ?_|refine q4 tab rfl rfl ?_|refine q5 ?_|refine q6 ?_|refine q13 ?_)
  refine TC.condP rfl (fun h2 => ?_) (fun h2 => ?_)
  ·repeat (first|refine q1 ?_|refine q3 ?_|refine q4 tab rfl rfl ?_)
   refine TO.step rfl (OT.litR tab rStr (hs:=[[40]]) (l:=[[40]]) ⟨rfl,trivial⟩ rfl rfl rfl rfl rfl (by decide) (fun sl ma hma hsl _ _ => ?_))
   replace hm:=Mem.le_trans hm hma
   replace hB:=hB.mono hma
   skip
   refine TO.step rfl (OT.call rfl rfl rfl rfl rfl rfl goes67 ((put_law _ _ bd q s _ hB sl [Pt.mk [40]] hsl (by first | omega | (simp only [List.length_append];omega))).x ?_));
   rintro _ m1 _ ⟨hm1,s,q,rfl,hB⟩
   replace hm:=Mem.le_trans hm hm1
   clear hm1 hma hsl
   repeat (first|refine q1 ?_|refine q3 ?_|refine q4 tab rfl rfl ?_|refine q5 ?_|refine q6 ?_)
   have h4c:=h4.mono hm
   refine TO.step rfl (OT.call rfl rfl rfl rfl rfl rfl goes88 ((each_law (Cbk.of hTb hp goes65 (hT hm)) _ _ (Mem.le_refl _) q s _ hB sl0 h4c (by first | omega | (simp only [List.length_append];omega))).x ?_));
   rintro _ m1 _ ⟨hm1,s,q,rfl,hB⟩
   replace hm:=Mem.le_trans hm hm1
   repeat (first|refine q3 ?_|refine q4 tab rfl rfl ?_|refine q5 ?_|refine q6 ?_)
   refine TO.step rfl (OT.litR tab rStr (hs:=[[41]]) (l:=[[41]]) ⟨rfl,trivial⟩ rfl rfl rfl rfl rfl (by decide) (fun sl ma hma hsl _ _ => ?_))
   replace hm:=Mem.le_trans hm hma
   replace hB:=hB.mono hma
   skip
   refine TO.step rfl (OT.call rfl rfl rfl rfl rfl rfl goes67 ((put_law _ _ bd q s _ hB sl [Pt.mk [41]] hsl (by first | omega | (simp only [List.length_append];omega))).x ?_));
   rintro _ m1 _ ⟨hm1,s,q,rfl,hB⟩
   replace hm:=Mem.le_trans hm hm1
   clear hm1 hma hsl
   repeat (refine q5 ?_)
   refine retQ_n rfl (by repeat (exact List.Sublist.refl _)) ⟨hm,s,q,rfl,hB.cast ?_⟩
   rw [et];try simp only [putT_app,List.append_assoc]
  ·simp only [List.length_cons] at h2 hlen;omega
set_option maxHeartbeats 3200000 in
theorem typ_w (hTb : TbOk Tb) (a : Tree) : a.isType=true→Pw Tb 65 a:=by
 induction a using Tree.ind with
 | h a ih =>
 intro ht m L bd q s x0 h hT hB hr hl
 have hT0:=hT
 rw [isType_eq] at ht
 obtain ⟨h1,h2,h3,h4⟩:=hr
 have hlen:=h4.len
 have hsm:=h4.small rfl
 have hm:=Mem.le_refl m
 obtain ⟨k,n0,u0,ks⟩:=a
 obtain ⟨hk,hn,hu,hks⟩:=h
 simp only [Tree.kind,Tree.name,Tree.num,Tree.kids] at h1 h2 h3 h4 hlen hsm ih
 subst h1 h2 h3
 have hT : TbM Tb m:=⟨fun h=>hTb.mono hT0 h⟩
 by_cases e : hk=10
 ·subst e
  have et : Pt.toks (.mk 10 hn hu ks)=[Pt.nm hn]:=by rw [Pt.toks_eq];rfl
  rw [et] at hl
  try simp only [putT_app,List.length_append] at hl
  unfold TCall
  refine TCallX.enter Tryz.func65 rfl 57 rfl ?_
  repeat (first|refine q1 ?_|refine q3 ?_)
  refine TO.step rfl (OT.box rfl rfl rfl rfl rfl (fun b => ?_))
  refine TO.perm pq3 ?_
  repeat (first|(first|refine q1 ?_|refine q2 ?_|refine q3 ?_|refine q4 tab rfl rfl ?_|refine q5 ?_|refine q6 ?_|refine q16 rfl ?_)|(refine qs rfl (ql tab 2 rfl rfl rfl rfl rfl rfl ?_)))
  refine TO.step rfl (OT.litR tab rStr (hs:=[hn]) (l:=[hn]) ⟨rfl,trivial⟩ rfl rfl rfl rfl rfl (by decide) (fun sl ma hma hsl _ _ => ?_))
  replace hm:=Mem.le_trans hm hma
  replace hB:=hB.mono hma
  skip
  refine TO.step rfl (OT.call rfl rfl rfl rfl rfl rfl goes67 ((put_law _ _ bd q s _ hB sl [Pt.nm hn] hsl (by first | omega | (simp only [List.length_append];omega))).x ?_));
  rintro _ m1 _ ⟨hm1,s,q,rfl,hB⟩
  replace hm:=Mem.le_trans hm hm1
  clear hm1 hma hsl
  repeat (first|refine q5 ?_|refine q7 ?_)
  refine retQ_n rfl (by repeat (first|exact List.Sublist.refl _|refine List.Sublist.cons_cons _ ?_|refine List.Sublist.cons _ ?_)) ⟨hm,s,q,rfl,hB.cast ?_⟩
  rw [et];try simp only [putT_app,List.append_assoc]
 rw [if_neg (show ¬ (Tree.mk hk hn hu ks).kind=10 from e)] at ht
 by_cases e2 : hk=11 ∨ hk=12
 ·rw [if_pos (show (Tree.mk hk hn hu ks).kind=11 ∨ (Tree.mk hk hn hu ks).kind=12 from e2)] at ht
  simp only [Bool.and_eq_true,decide_eq_true_eq] at ht
  obtain ⟨x,rfl⟩:=List.length_eq_one_iff.1 ht.2.2.1
  have hx:=ih x (by simp) (List.all_eq_true.1 ht.2.2.2 x (by simp [Tree.kids]))
  have hxi : [x][0]? = some x:=rfl
  rcases e2 with rfl | rfl
  ·skip
   have et : Pt.toks (.mk 11 hn hu [x])=[Pt.mk [42]]++Pt.toks x:=by rw [Pt.toks_eq];rfl
   rw [et] at hl
   try simp only [putT_app,List.length_append] at hl
   unfold TCall
   refine TCallX.enter Tryz.func65 rfl 57 rfl ?_
   repeat (first|refine q1 ?_|refine q3 ?_)
   refine TO.step rfl (OT.box rfl rfl rfl rfl rfl (fun b => ?_))
   refine TO.perm pq3 ?_
   repeat (first|(first|refine q1 ?_|refine q2 ?_|refine q3 ?_|refine q4 tab rfl rfl ?_|refine q5 ?_|refine q6 ?_|refine q16 rfl ?_|refine q17 rfl ?_)|(refine qs rfl (ql tab 2 rfl rfl rfl rfl rfl rfl ?_)))
   refine TO.step rfl (OT.litR tab rStr (hs:=[[42]]) (l:=[[42]]) ⟨rfl,trivial⟩ rfl rfl rfl rfl rfl (by decide) (fun sl ma hma hsl _ _ => ?_))
   replace hm:=Mem.le_trans hm hma
   replace hB:=hB.mono hma
   skip
   refine TO.step rfl (OT.call rfl rfl rfl rfl rfl rfl goes67 ((put_law _ _ bd q s _ hB sl [Pt.mk [42]] hsl (by first | omega | (simp only [List.length_append];omega))).x ?_));
   rintro _ m1 _ ⟨hm1,s,q,rfl,hB⟩
   replace hm:=Mem.le_trans hm hm1
   clear hm1 hma hsl
   repeat (first|(first|refine q3 ?_|refine q4 tab rfl rfl ?_|refine q5 ?_|refine q6 ?_)|(refine qs rfl (ql tab 2 rfl rfl rfl rfl rfl rfl ?_)))
   have h4c:=h4.mono hm
   refine TO.step rfl (OT.index tab rTree 0 h4c rfl rfl rfl rfl rfl (by first | rfl | omega | (simp only;omega)) rfl hxi ?_)
   rintro b7 i7 h7 hr7 hA7
   (refine TO.step rfl (OT.loadA0 tab hA7 rfl rfl rfl rfl rfl ?_))
   skip
   refine TO.step rfl (OT.call rfl rfl rfl rfl rfl rfl goes65 ((hx _ _ bd q s _ h7 (hT.mono hm) hB (rTree_iff.1 hr7) (by first | omega | (simp only [List.length_append];omega))).x ?_));
   rintro _ m1 _ ⟨hm1,s,q,rfl,hB⟩
   replace hm:=Mem.le_trans hm hm1
   clear hm1 h4c hr7 hA7
   repeat (first|refine q5 ?_|refine q7 ?_)
   refine retQ_n rfl (by repeat (first|exact List.Sublist.refl _|refine List.Sublist.cons_cons _ ?_|refine List.Sublist.cons _ ?_)) ⟨hm,s,q,rfl,hB.cast ?_⟩
   rw [et];try simp only [putT_app,List.append_assoc]
  ·skip
   have et : Pt.toks (.mk 12 hn hu [x])=[Pt.mk [91],Pt.mk [93]]++Pt.toks x:=by rw [Pt.toks_eq];rfl
   rw [et] at hl
   try simp only [putT_app,List.length_append] at hl
   unfold TCall
   refine TCallX.enter Tryz.func65 rfl 57 rfl ?_
   repeat (first|refine q1 ?_|refine q3 ?_)
   refine TO.step rfl (OT.box rfl rfl rfl rfl rfl (fun b => ?_))
   refine TO.perm pq3 ?_
   repeat (first|(first|refine q1 ?_|refine q2 ?_|refine q3 ?_|refine q4 tab rfl rfl ?_|refine q5 ?_|refine q6 ?_|refine q16 rfl ?_|refine q17 rfl ?_)|(refine qs rfl (ql tab 2 rfl rfl rfl rfl rfl rfl ?_)))
   refine TO.step rfl (OT.litR tab rStr (hs:=[[91],[93]]) (l:=[[91],[93]]) ⟨rfl,rfl,trivial⟩ rfl rfl rfl rfl rfl (by decide) (fun sl ma hma hsl _ _ => ?_))
   replace hm:=Mem.le_trans hm hma
   replace hB:=hB.mono hma
   skip
   refine TO.step rfl (OT.call rfl rfl rfl rfl rfl rfl goes67 ((put_law _ _ bd q s _ hB sl [Pt.mk [91],Pt.mk [93]] hsl (by first | omega | (simp only [List.length_append];omega))).x ?_));
   rintro _ m1 _ ⟨hm1,s,q,rfl,hB⟩
   replace hm:=Mem.le_trans hm hm1
   clear hm1 hma hsl
   repeat (first|(first|refine q3 ?_|refine q4 tab rfl rfl ?_|refine q5 ?_|refine q6 ?_)|(refine qs rfl (ql tab 2 rfl rfl rfl rfl rfl rfl ?_)))
   have h4c:=h4.mono hm
   refine TO.step rfl (OT.index tab rTree 0 h4c rfl rfl rfl rfl rfl (by first | rfl | omega | (simp only;omega)) rfl hxi ?_)
   rintro b7 i7 h7 hr7 hA7
   (refine TO.step rfl (OT.loadA0 tab hA7 rfl rfl rfl rfl rfl ?_))
   skip
   refine TO.step rfl (OT.call rfl rfl rfl rfl rfl rfl goes65 ((hx _ _ bd q s _ h7 (hT.mono hm) hB (rTree_iff.1 hr7) (by first | omega | (simp only [List.length_append];omega))).x ?_));
   rintro _ m1 _ ⟨hm1,s,q,rfl,hB⟩
   replace hm:=Mem.le_trans hm hm1
   clear hm1 h4c hr7 hA7
   repeat (first|refine q5 ?_|refine q7 ?_)
   refine retQ_n rfl (by repeat (first|exact List.Sublist.refl _|refine List.Sublist.cons_cons _ ?_|refine List.Sublist.cons _ ?_)) ⟨hm,s,q,rfl,hB.cast ?_⟩
   rw [et];try simp only [putT_app,List.append_assoc]
 rw [if_neg (show ¬ ((Tree.mk hk hn hu ks).kind=11 ∨ (Tree.mk hk hn hu ks).kind=12) from e2)] at ht
 by_cases e3 : hk=13
 ·rw [if_pos (show (Tree.mk hk hn hu ks).kind=13 from e3)] at ht
  simp only [Bool.and_eq_true,decide_eq_true_eq] at ht
  have hu0 : 0 ≤ hu:=ht.2.1
  have hu1 : hu ≤ (ks.length : Int):=ht.2.2.1
  subst e3
  have hp : ∀ r ∈ ks,Pw Tb 65 r:=fun r hr=>ih r hr (List.all_eq_true.1 ht.2.2.2 r hr)
  have et : Pt.toks (.mk 13 hn hu ks)=[Pt.wd [102,117,110,99],Pt.mk [40]]++(Pt.commaJ ((ks.take hu.toNat).map Pt.toks)++([Pt.mk [41]]++Pt.resJ ((ks.drop hu.toNat).map Pt.toks))):=by rw [Pt.toks_eq,List.map_take,List.map_drop];rfl
  rw [et] at hl
  try simp only [putT_app,List.length_append] at hl
  unfold TCall
  refine TCallX.enter Tryz.func65 rfl 57 rfl ?_
  repeat (first|refine q1 ?_|refine q3 ?_)
  refine TO.step rfl (OT.box rfl rfl rfl rfl rfl (fun b => ?_))
  refine TO.perm pq3 ?_
  repeat (first|(first|refine q1 ?_|refine q2 ?_|refine q3 ?_|refine q4 tab rfl rfl ?_|refine q5 ?_|refine q6 ?_|refine q17 rfl ?_)|(refine qs rfl (ql tab 2 rfl rfl rfl rfl rfl rfl ?_)))
  refine TO.step rfl (OT.litR tab rStr (hs:=[[102,117,110,99],[40]]) (l:=[[102,117,110,99],[40]]) ⟨rfl,rfl,trivial⟩ rfl rfl rfl rfl rfl (by decide) (fun sl ma hma hsl _ _ => ?_))
  replace hm:=Mem.le_trans hm hma
  replace hB:=hB.mono hma
  skip
  refine TO.step rfl (OT.call rfl rfl rfl rfl rfl rfl goes67 ((put_law _ _ bd q s _ hB sl [Pt.wd [102,117,110,99],Pt.mk [40]] hsl (by first | omega | (simp only [List.length_append];omega))).x ?_));
  rintro _ m1 _ ⟨hm1,s,q,rfl,hB⟩
  replace hm:=Mem.le_trans hm hm1
  clear hm1 hma hsl
  repeat (first|(first|refine q1 ?_|refine q3 ?_|refine q4 tab rfl rfl ?_|refine q5 ?_|refine q6 ?_)|(refine qs rfl (ql tab 2 rfl rfl rfl rfl rfl rfl ?_)))
  have h4c:=h4.mono hm
  refine TO.step rfl (OT.cut tab rTree 0 hu.toNat h4c rfl rfl rfl rfl rfl rfl rfl (.inl ⟨rfl,rfl⟩) (.inr (by rw [show ((hu.toNat : Nat) : Int)=hu by omega])) (Nat.zero_le _) (by omega) (fun slp hslp => ?_))
  rw [List.drop_zero] at hslp
  repeat (refine q4 tab rfl rfl ?_)
  refine TO.step rfl (OT.call rfl rfl rfl rfl rfl rfl goes88 ((each_law (Cbk.of hTb (fun r hr=>hp r (List.mem_of_mem_take hr)) goes65 (hT.mono hm)) _ _ (Mem.le_refl _) q s _ hB slp hslp (by first | omega | (simp only [List.length_append];omega))).x ?_));
  rintro _ m1 _ ⟨hm1,s,q,rfl,hB⟩
  replace hm:=Mem.le_trans hm hm1
  repeat (first|refine q1 ?_|refine q3 ?_|refine q4 tab rfl rfl ?_|refine q5 ?_|refine q6 ?_)
  refine TO.step rfl (OT.litR tab rStr (hs:=[[41]]) (l:=[[41]]) ⟨rfl,trivial⟩ rfl rfl rfl rfl rfl (by decide) (fun sl ma hma hsl _ _ => ?_))
  replace hm:=Mem.le_trans hm hma
  replace hB:=hB.mono hma
  skip
  refine TO.step rfl (OT.call rfl rfl rfl rfl rfl rfl goes67 ((put_law _ _ bd q s _ hB sl [Pt.mk [41]] hsl (by first | omega | (simp only [List.length_append];omega))).x ?_));
  rintro _ m1 _ ⟨hm1,s,q,rfl,hB⟩
  replace hm:=Mem.le_trans hm hm1
  clear hm1 hma hsl
  repeat (first|(first|refine q3 ?_|refine q4 tab rfl rfl ?_|refine q5 ?_|refine q6 ?_)|(refine qs rfl (ql tab 2 rfl rfl rfl rfl rfl rfl ?_)))
  have h4d:=h4.mono hm
  refine TO.step rfl (OT.cut tab rTree hu.toNat hks.len h4d rfl rfl rfl rfl rfl rfl rfl (.inr (by rw [show ((hu.toNat : Nat) : Int)=hu by omega])) (.inl ⟨rfl,rfl⟩) (by omega) (by omega) (fun slr hslr => ?_))
  rw [List.take_of_length_le (by omega)] at hslr
  skip
  refine TO.step rfl (OT.call rfl rfl rfl rfl rfl rfl goes117 ((results_w hTb _ _ bd q s _ _ slr (hT.mono hm) hB hslr (fun r hr=>hp r (List.mem_of_mem_drop hr)) (by first | omega | (simp only [List.length_append];omega))).x ?_));
  rintro _ m1 _ ⟨hm1,s,q,rfl,hB⟩
  replace hm:=Mem.le_trans hm hm1
  repeat (first|refine q5 ?_|refine q7 ?_)
  refine retQ_n rfl (by repeat (first|exact List.Sublist.refl _|refine List.Sublist.cons_cons _ ?_|refine List.Sublist.cons _ ?_)) ⟨hm,s,q,rfl,hB.cast ?_⟩
  rw [et];try simp only [putT_app,List.append_assoc]
 rw [if_neg (show ¬ (Tree.mk hk hn hu ks).kind=13 from e3)] at ht
 cases ht
set_option maxHeartbeats 1600000 in
theorem param_w (hTb : TbOk Tb) (a : Tree) (ht : a.isParam=true) (m : Mem) (L : List Item) (bd bp : Nat) (q : Option Addr) (s : Sl) (x0 : Str) (h : HTree) (hA : At m bp 0 [bdV bd]) (hT0 : Tb m) (hB : BOk m bd q s x0) (hr : TreeRep m h a) (hl : x0.length + (putT (Pt.toks a)).length ≤ 140737488355328) :
  TCall Tryz.prog 118 ⟨[treeV h, .pointer (some ⟨bp,0,none⟩)]⟩ m (bdL bd q s L) (Wr bd m L (x0++putT (Pt.toks a))):=by
 unfold Tree.isParam at ht
 simp only [Bool.and_eq_true,decide_eq_true_eq] at ht
 obtain ⟨h1,h2,h3,h4⟩:=hr
 have hlen:=h4.len
 have hsm:=h4.small rfl
 have hm:=Mem.le_refl m
 obtain ⟨k,n0,u0,ks⟩:=a
 obtain ⟨hk,hn,hu,hks⟩:=h
 simp only [Tree.kind,Tree.name,Tree.num,Tree.kids] at h1 h2 h3 h4 ht hlen hsm
 subst h1 h2 h3
 have hT : TbM Tb m:=⟨fun h=>hTb.mono hT0 h⟩
 obtain ⟨rfl, -, -,hone,hall⟩:=ht
 obtain ⟨x,rfl⟩:=List.length_eq_one_iff.1 hone
 have hx:=typ_w hTb x (List.all_eq_true.1 hall x (by simp))
 have hxi : [x][0]? = some x:=rfl
 have et : Pt.toks (.mk 8 hn hu [x])=[Pt.nm hn]++Pt.toks x:=by rw [Pt.toks_eq];rfl
 rw [et] at hl
 simp only [putT_app,List.length_append] at hl
 unfold TCall
 refine TCallX.enter Tryz.func118 rfl 14 rfl ?_
 repeat (first|refine q1 ?_|refine q3 ?_)
 refine TO.step rfl (OT.box rfl rfl rfl rfl rfl (fun b => ?_))
 refine TO.perm pq3 ?_
 repeat (first|refine q1 ?_|refine q3 ?_|refine q5 ?_|refine q6 ?_)
 (refine TO.step rfl (OT.loadA0 tab hA rfl rfl rfl rfl rfl ?_))
 repeat (first|(refine q4 tab rfl rfl ?_)|(refine qs rfl (ql tab 2 rfl rfl rfl rfl rfl rfl ?_)))
 refine TO.step rfl (OT.litR tab rStr (hs:=[hn]) (l:=[hn]) ⟨rfl,trivial⟩ rfl rfl rfl rfl rfl (by decide) (fun sl ma hma hsl _ _ => ?_))
 replace hm:=Mem.le_trans hm hma
 replace hB:=hB.mono hma
 skip
 refine TO.step rfl (OT.call rfl rfl rfl rfl rfl rfl goes67 ((put_law _ _ bd q s _ hB sl [Pt.nm hn] hsl (by first | omega | (simp only [List.length_append];omega))).x ?_));
 rintro _ m1 _ ⟨hm1,s,q,rfl,hB⟩
 replace hm:=Mem.le_trans hm hm1
 clear hm1 hma hsl
 repeat (first|refine q5 ?_|refine q6 ?_)
 have hA2:=hA.mono hm
 have h4c:=h4.mono hm
 refine TC.draw [] mixed 6 rfl [.cells b 0 (treeC ⟨8,hn,hu,hks⟩)] (bdL bd q s L) (List.Perm.symm pq3) ?_
 (refine DO.loadA (k:=0) tab 0 hA2 (by repeat (exact Calm.ret)) (by kernel_rfl) (by kernel_rfl) rfl rfl rfl rfl rfl rfl rfl ?_)
 refine DO.pure tab (by repeat (exact Calm.ret)) (by kernel_rfl) [1] (by kernel_rfl) rfl ?_
 (refine DO.loadL tab 2 0 (by repeat (exact Calm.ret)) (by kernel_rfl) (by kernel_rfl) rfl rfl rfl rfl rfl rfl rfl rfl ?_)
 refine DO.index tab rTree 3 0 h4c (by repeat (exact Calm.ret)) (by kernel_rfl) (by kernel_rfl) rfl rfl rfl rfl rfl rfl rfl (by first | rfl | omega) rfl hxi ?_
 rintro b7 i7 h7 hr7 hA7
 (refine DO.loadA (k:=0) tab 4 hA7 (by repeat (exact Calm.ret)) (by kernel_rfl) (by kernel_rfl) rfl rfl rfl rfl rfl rfl rfl ?_)
 refine DO.run 5 rfl rfl (by kernel_rfl) rfl ?_
 refine OT.perm pq3 (OT.call rfl rfl rfl rfl rfl rfl goes65 ((hx _ _ bd q s _ h7 (hT.mono hm) hB (rTree_iff.1 hr7) (by first | omega | (simp only [List.length_append];omega))).x ?_));rintro _ m1 _ ⟨hm1,s,q,rfl,hB⟩;refine ⟨hm1,bdL bd q s L,List.Perm.symm pq3, ?_⟩
 (refine DO.nil (by kernel_rfl) ?_)
 rotate_left 1
 skip
 refine retQ_n rfl (by repeat (first|exact List.Sublist.refl _|refine List.Sublist.cons _ ?_)) ⟨Mem.le_trans hm hm1,s,q,rfl,hB.cast ?_⟩
 rw [et];simp only [putT_app,List.append_assoc]
set_option maxHeartbeats 3200000 in
theorem sig_w (hTb : TbOk Tb) (a : Tree) (ht : a.isSig=true) : Pw Tb 66 a:=by
 intro m L bd q s x0 h hT0 hB hr hl
 unfold Tree.isSig at ht
 simp only [Bool.and_eq_true,decide_eq_true_eq] at ht
 obtain ⟨h1,h2,h3,h4⟩:=hr
 have hlen:=h4.len
 have hsm:=h4.small rfl
 have hm:=Mem.le_refl m
 obtain ⟨k,n0,u0,ks⟩:=a
 obtain ⟨hk,hn,hu,hks⟩:=h
 simp only [Tree.kind,Tree.name,Tree.num,Tree.kids] at h1 h2 h3 h4 ht hlen hsm
 subst h1 h2 h3
 have hT : TbM Tb m:=⟨fun h=>hTb.mono hT0 h⟩
 obtain ⟨rfl, -,hu0,hu1,hpa,hre⟩:=ht
 have hp : ∀ r ∈ ks.drop hu.toNat,Pw Tb 65 r:=fun r hr=>typ_w hTb r (List.all_eq_true.1 hre r hr)
 have et : Pt.toks (.mk 7 hn hu ks)=[Pt.mk [40]]++(Pt.commaJ ((ks.take hu.toNat).map Pt.toks)++([Pt.mk [41]]++Pt.resJ ((ks.drop hu.toNat).map Pt.toks))):=by rw [Pt.toks_eq,List.map_take,List.map_drop];rfl
 rw [et] at hl
 simp only [putT_app,List.length_append] at hl
 unfold TCall
 refine TCallX.enter Tryz.func66 rfl 25 rfl ?_
 repeat (first|refine q1 ?_|refine q3 ?_)
 refine TO.step rfl (OT.box rfl rfl rfl rfl rfl (fun bp => ?_))
 refine TO.freeze fun ma hma hA => ?_
 replace hm:=Mem.le_trans hm hma
 replace hB:=hB.mono hma
 skip
 refine TO.step rfl (OT.box rfl rfl rfl rfl rfl (fun b => ?_))
 refine TO.perm pq3 ?_
 repeat (first|refine q1 ?_|refine q3 ?_|refine q5 ?_|refine q6 ?_)
 (refine TO.step rfl (OT.loadA0 tab hA rfl rfl rfl rfl rfl ?_))
 skip
 refine TO.step rfl (OT.litR tab rStr (hs:=[[40]]) (l:=[[40]]) ⟨rfl,trivial⟩ rfl rfl rfl rfl rfl (by decide) (fun sl ma hma hsl _ _ => ?_))
 replace hm:=Mem.le_trans hm hma
 replace hB:=hB.mono hma
 replace hA:=hA.mono hma
 skip
 refine TO.step rfl (OT.call rfl rfl rfl rfl rfl rfl goes67 ((put_law _ _ bd q s _ hB sl [Pt.mk [40]] hsl (by first | omega | (simp only [List.length_append];omega))).x ?_));
 rintro _ m1 _ ⟨hm1,s,q,rfl,hB⟩
 replace hm:=Mem.le_trans hm hm1
 replace hA:=hA.mono hm1
 clear hm1 hma hsl
 skip
 repeat (first|refine q1 ?_|refine q5 ?_|refine q6 ?_)
 have h4c:=h4.mono hm
 refine TC.draw [] mixed 8 rfl [.cells b 0 (treeC ⟨7,hn,hu,hks⟩)] (bdL bd q s L) (List.Perm.symm pq3) ?_
 (refine DO.loadA (k:=0) tab 0 hA (by repeat (first|exact Calm.ret|refine Calm.then ?_)) (by kernel_rfl) (by kernel_rfl) rfl rfl rfl rfl rfl rfl rfl ?_)
 refine DO.pure tab (by repeat (first|exact Calm.ret|refine Calm.then ?_)) (by kernel_rfl) [1] (by kernel_rfl) rfl ?_
 (refine DO.loadL tab 2 0 (by repeat (first|exact Calm.ret|refine Calm.then ?_)) (by kernel_rfl) (by kernel_rfl) rfl rfl rfl rfl rfl rfl rfl rfl ?_)
 refine DO.pure tab (by repeat (first|exact Calm.ret|refine Calm.then ?_)) (by kernel_rfl) [3] (by kernel_rfl) rfl ?_
 (refine DO.loadL tab 4 0 (by repeat (first|exact Calm.ret|refine Calm.then ?_)) (by kernel_rfl) (by kernel_rfl) rfl rfl rfl rfl rfl rfl rfl rfl ?_)
 refine DO.pure tab (by repeat (first|exact Calm.ret|refine Calm.then ?_)) (by kernel_rfl) [6] (by kernel_rfl) rfl ?_
 refine DO.run 5 rfl rfl (by kernel_rfl) rfl ?_
 refine OT.cut tab rTree 0 hu.toNat h4c rfl rfl rfl rfl rfl rfl rfl (.inl ⟨rfl,rfl⟩) (.inr (by rw [show ((hu.toNat : Nat) : Int)=hu by omega])) (Nat.zero_le _) (by omega) (fun slp hslp => ?_);rw [List.drop_zero] at hslp;refine ⟨Mem.le_refl _,_,List.Perm.refl _, ?_⟩
 refine DO.run 7 rfl rfl (by kernel_rfl) rfl ?_
 refine OT.perm pq3 (OT.call rfl rfl rfl rfl rfl rfl goes88 ((each_law (fn:=118) (first:=[]) (cap:=[.pointer (some ⟨bp,0,none⟩)]) (ks:=ks.take hu.toNat) ⟨goes118,fun k hk m2 L q s x h2 hmb hB hr hl=>param_w hTb k (List.all_eq_true.1 hpa k hk) m2 L bd bp q s x h2 (hA.mono hmb) (hT.mono (Mem.le_trans hm hmb)) hB hr hl⟩ _ _ (Mem.le_refl _) q s _ hB slp hslp (by first | omega | (simp only [List.length_append];omega))).x ?_));rintro _ m1 _ ⟨hm1,s,q,rfl,hB⟩;refine ⟨hm1,bdL bd q s L,List.Perm.symm pq3, ?_⟩
 (refine DO.nil (by kernel_rfl) ?_)
 rotate_left 1
 replace hm:=Mem.le_trans hm hm1
 replace hA:=hA.mono hm1
 refine thenQ_n (TC.perm pq3 ?_)
 repeat (first|refine q1 ?_|refine q3 ?_)
 (refine TO.step rfl (OT.loadA0 tab hA rfl rfl rfl rfl rfl ?_))
 skip
 refine TO.step rfl (OT.litR tab rStr (hs:=[[41]]) (l:=[[41]]) ⟨rfl,trivial⟩ rfl rfl rfl rfl rfl (by decide) (fun sl ma hma hsl _ _ => ?_))
 replace hm:=Mem.le_trans hm hma
 replace hB:=hB.mono hma
 replace hA:=hA.mono hma
 skip
 refine TO.step rfl (OT.call rfl rfl rfl rfl rfl rfl goes67 ((put_law _ _ bd q s _ hB sl [Pt.mk [41]] hsl (by first | omega | (simp only [List.length_append];omega))).x ?_));
 rintro _ m1 _ ⟨hm1,s,q,rfl,hB⟩
 replace hm:=Mem.le_trans hm hm1
 replace hA:=hA.mono hm1
 clear hm1 hma hsl
 skip
 repeat (first|refine q5 ?_|refine q6 ?_)
 have h4d:=h4.mono hm
 refine TC.draw [] mixed 7 rfl [.cells b 0 (treeC ⟨7,hn,hu,hks⟩)] (bdL bd q s L) (List.Perm.symm pq3) ?_
 (refine DO.loadA (k:=0) tab 0 hA (by repeat (exact Calm.ret)) (by kernel_rfl) (by kernel_rfl) rfl rfl rfl rfl rfl rfl rfl ?_)
 refine DO.pure tab (by repeat (exact Calm.ret)) (by kernel_rfl) [1] (by kernel_rfl) rfl ?_
 (refine DO.loadL tab 2 0 (by repeat (exact Calm.ret)) (by kernel_rfl) (by kernel_rfl) rfl rfl rfl rfl rfl rfl rfl rfl ?_)
 refine DO.pure tab (by repeat (exact Calm.ret)) (by kernel_rfl) [3] (by kernel_rfl) rfl ?_
 (refine DO.loadL tab 4 0 (by repeat (exact Calm.ret)) (by kernel_rfl) (by kernel_rfl) rfl rfl rfl rfl rfl rfl rfl rfl ?_)
 refine DO.run 5 rfl rfl (by kernel_rfl) rfl ?_
 refine OT.cut tab rTree hu.toNat hks.len h4d rfl rfl rfl rfl rfl rfl rfl (.inr (by rw [show ((hu.toNat : Nat) : Int)=hu by omega])) (.inl ⟨rfl,rfl⟩) (by omega) (by omega) (fun slr hslr => ?_);rw [List.take_of_length_le (by omega)] at hslr;refine ⟨Mem.le_refl _,_,List.Perm.refl _, ?_⟩
 refine DO.run 6 rfl rfl (by kernel_rfl) rfl ?_
 refine OT.perm pq3 (OT.call rfl rfl rfl rfl rfl rfl goes117 ((results_w hTb _ _ bd q s _ _ slr (hT.mono hm) hB hslr hp (by first | omega | (simp only [List.length_append];omega))).x ?_));rintro _ m1 _ ⟨hm1,s,q,rfl,hB⟩;refine ⟨hm1,bdL bd q s L,List.Perm.symm pq3, ?_⟩
 (refine DO.nil (by kernel_rfl) ?_)
 rotate_left 1
 skip
 refine retQ_n rfl (by repeat (first|exact List.Sublist.refl _|refine List.Sublist.cons _ ?_)) ⟨Mem.le_trans hm hm1,s,q,rfl,hB.cast ?_⟩
 rw [et];simp only [putT_app,List.append_assoc]
end
end Go.Sep


/- PtMoW -/
set_option linter.unusedVariables false
set_option linter.unusedSimpArgs false
namespace Go.Sep
open Go.Proofs
attribute [local irreducible] TC TO OT TCallX TCall DO DOt thenQ blockQ retQ At
theorem and_0_1 (w : World) : (Op.intBits .and .i64 0 1).run Tryz.prog w = .ok (.int .i64 0) w:=by
 simp only [Op.intBits,Sem.run_pure]
 rfl
theorem and_0_2 (w : World) : (Op.intBits .and .i64 0 2).run Tryz.prog w = .ok (.int .i64 0) w:=by
 simp only [Op.intBits,Sem.run_pure]
 rfl
theorem and_1_1 (w : World) : (Op.intBits .and .i64 1 1).run Tryz.prog w = .ok (.int .i64 1) w:=by
 simp only [Op.intBits,Sem.run_pure]
 rfl
theorem and_1_2 (w : World) : (Op.intBits .and .i64 1 2).run Tryz.prog w = .ok (.int .i64 0) w:=by
 simp only [Op.intBits,Sem.run_pure]
 rfl
theorem and_2_1 (w : World) : (Op.intBits .and .i64 2 1).run Tryz.prog w = .ok (.int .i64 0) w:=by
 simp only [Op.intBits,Sem.run_pure]
 rfl
theorem and_2_2 (w : World) : (Op.intBits .and .i64 2 2).run Tryz.prog w = .ok (.int .i64 2) w:=by
 simp only [Op.intBits,Sem.run_pure]
 rfl
theorem and_3_1 (w : World) : (Op.intBits .and .i64 3 1).run Tryz.prog w = .ok (.int .i64 1) w:=by
 simp only [Op.intBits,Sem.run_pure]
 rfl
theorem and_3_2 (w : World) : (Op.intBits .and .i64 3 2).run Tryz.prog w = .ok (.int .i64 2) w:=by
 simp only [Op.intBits,Sem.run_pure]
 rfl
section
variable {Tb : Mem→Prop}
structure PT (Tb : Mem→Prop) (a : Tree) : Prop where
 expr : Pt.numB2 a=true→lim.expr a=true→Pw Tb 46 a
 stmt : Pt.numB2 a=true→lim.stmt a=true→Pw Tb 120 a
 block : Pt.numB2 a=true→lim.block a=true→Pw Tb 68 a
set_option maxHeartbeats 6400000 in
theorem more_w (hTb : TbOk Tb) (a : Tree) (ih : ∀ k ∈ a.kids,PT Tb k) (hnum : Pt.numB2 a=true) (he : exprS lim a=true) (h48 : 48 ≤ a.kind) : Pw Tb 89 a:=by
 intro m L bd q s x0 h hT0 hB hr hl
 obtain ⟨h1,h2,h3,h4⟩:=hr
 have hlen:=h4.len
 have hsm:=h4.small rfl
 have hm:=Mem.le_refl m
 have hT : TbM Tb m:=⟨fun h=>hTb.mono hT0 h⟩
 obtain ⟨k,n0,u0,ks⟩:=a
 obtain ⟨hk,hn,hu,hks⟩:=h
 simp only [Tree.kind,Tree.name,Tree.num,Tree.kids] at h1 h2 h3 h4 hlen hsm ih
 subst h1 h2 h3
 have hE : ∀ x ∈ ks,lim.expr x=true→Pw Tb 46 x:=fun x hx h=>(ih x hx).expr (Pt.num_kid hnum (by simpa [Tree.kids] using hx)) h
 by_cases e : hk=48
 ·subst e
  have hf : (ofB (.mk 48 hn hu ks) 48 && kidsR [lim.expr] none ks)=true:=he
  rw [Bool.and_eq_true] at hf
  obtain ⟨x,rfl,hx⟩:=Pt.kids1 hf.2
  have px:=hE x (by simp) hx
  have hxi : [x][0]? = some x:=rfl
  have et : Pt.toks (.mk 48 hn hu [x])=Pt.toks x++[Pt.mk [46],Pt.nm hn]:=by rw [Pt.toks_eq];rfl
  rw [et] at hl
  try simp only [putT_app,List.length_append] at hl
  unfold TCall
  refine TCallX.enter Tryz.func89 rfl 140 rfl ?_
  repeat (first|refine q1 ?_|refine q3 ?_)
  refine TO.step rfl (OT.box rfl rfl rfl rfl rfl (fun b => ?_))
  refine TO.perm pq3 ?_
  repeat (first|(first|refine q1 ?_|refine q2 ?_|refine q3 ?_|refine q4 tab rfl rfl ?_|refine q5 ?_|refine q6 ?_|refine q16 rfl ?_)|(refine qs rfl (ql tab 2 rfl rfl rfl rfl rfl rfl ?_)))
  have h4c:=h4.mono hm
  refine TO.step rfl (OT.index tab rTree 0 h4c rfl rfl rfl rfl rfl (by first | rfl | omega | (simp only;omega)) rfl hxi ?_)
  rintro b7 i7 h7 hr7 hA7
  (refine TO.step rfl (OT.loadA0 tab hA7 rfl rfl rfl rfl rfl ?_))
  skip
  refine TO.step rfl (OT.call rfl rfl rfl rfl rfl rfl goes46 ((px _ _ bd q s _ h7 (hT.mono hm) hB (rTree_iff.1 hr7) (by first | omega | (simp only [List.length_append];omega))).x ?_));
  rintro _ m1 _ ⟨hm1,s,q,rfl,hB⟩
  replace hm:=Mem.le_trans hm hm1
  clear hm1 h4c hr7 hA7
  repeat (first|(first|refine q3 ?_|refine q4 tab rfl rfl ?_|refine q5 ?_|refine q6 ?_)|(refine qs rfl (ql tab 2 rfl rfl rfl rfl rfl rfl ?_)))
  refine TO.step rfl (OT.litR tab rStr (hs:=[[46],hn]) (l:=[[46],hn]) ⟨rfl,rfl,trivial⟩ rfl rfl rfl rfl rfl (by decide) (fun sl ma hma hsl _ _ => ?_))
  replace hm:=Mem.le_trans hm hma
  replace hB:=hB.mono hma
  skip
  refine TO.step rfl (OT.call rfl rfl rfl rfl rfl rfl goes67 ((put_law _ _ bd q s _ hB sl [Pt.mk [46],Pt.nm hn] hsl (by first | omega | (simp only [List.length_append];omega))).x ?_));
  rintro _ m1 _ ⟨hm1,s,q,rfl,hB⟩
  replace hm:=Mem.le_trans hm hm1
  clear hm1 hma hsl
  repeat (first|refine q5 ?_|refine q7 ?_)
  refine retQ_n rfl (by repeat (first|exact List.Sublist.refl _|refine List.Sublist.cons_cons _ ?_|refine List.Sublist.cons _ ?_)) ⟨hm,s,q,rfl,hB.cast ?_⟩
  rw [et];try simp only [putT_app,List.append_assoc]
 by_cases e : hk=49
 ·subst e
  have hf : (bareB (.mk 49 hn hu ks) true false false && kidsR [lim.expr,lim.expr] none ks)=true:=he
  rw [Bool.and_eq_true] at hf
  obtain ⟨x,y,rfl,hx,hy⟩:=Pt.kids2 hf.2
  have px:=hE x (by simp) hx
  have py:=hE y (by simp) hy
  have hxi : [x,y][0]? = some x:=rfl
  have hyi : [x,y][1]? = some y:=rfl
  have et : Pt.toks (.mk 49 hn hu [x,y])=Pt.toks x++([Pt.mk [91]]++(Pt.toks y++[Pt.mk [93]])):=by rw [Pt.toks_eq];rfl
  rw [et] at hl
  try simp only [putT_app,List.length_append] at hl
  unfold TCall
  refine TCallX.enter Tryz.func89 rfl 140 rfl ?_
  repeat (first|refine q1 ?_|refine q3 ?_)
  refine TO.step rfl (OT.box rfl rfl rfl rfl rfl (fun b => ?_))
  refine TO.perm pq3 ?_
  repeat (first|(first|refine q1 ?_|refine q2 ?_|refine q3 ?_|refine q4 tab rfl rfl ?_|refine q5 ?_|refine q6 ?_|refine q16 rfl ?_|refine q17 rfl ?_)|(refine qs rfl (ql tab 2 rfl rfl rfl rfl rfl rfl ?_)))
  have h4c:=h4.mono hm
  refine TO.step rfl (OT.index tab rTree 0 h4c rfl rfl rfl rfl rfl (by first | rfl | omega | (simp only;omega)) rfl hxi ?_)
  rintro b7 i7 h7 hr7 hA7
  (refine TO.step rfl (OT.loadA0 tab hA7 rfl rfl rfl rfl rfl ?_))
  skip
  refine TO.step rfl (OT.call rfl rfl rfl rfl rfl rfl goes46 ((px _ _ bd q s _ h7 (hT.mono hm) hB (rTree_iff.1 hr7) (by first | omega | (simp only [List.length_append];omega))).x ?_));
  rintro _ m1 _ ⟨hm1,s,q,rfl,hB⟩
  replace hm:=Mem.le_trans hm hm1
  clear hm1 h4c hr7 hA7
  repeat ((first|refine q1 ?_|refine q3 ?_|refine q4 tab rfl rfl ?_|refine q5 ?_|refine q6 ?_))
  refine TO.step rfl (OT.litR tab rStr (hs:=[[91]]) (l:=[[91]]) ⟨rfl,trivial⟩ rfl rfl rfl rfl rfl (by decide) (fun sl ma hma hsl _ _ => ?_))
  replace hm:=Mem.le_trans hm hma
  replace hB:=hB.mono hma
  skip
  refine TO.step rfl (OT.call rfl rfl rfl rfl rfl rfl goes67 ((put_law _ _ bd q s _ hB sl [Pt.mk [91]] hsl (by first | omega | (simp only [List.length_append];omega))).x ?_));
  rintro _ m1 _ ⟨hm1,s,q,rfl,hB⟩
  replace hm:=Mem.le_trans hm hm1
  clear hm1 hma hsl
  repeat (first|(first|refine q1 ?_|refine q3 ?_|refine q4 tab rfl rfl ?_|refine q5 ?_|refine q6 ?_)|(refine qs rfl (ql tab 2 rfl rfl rfl rfl rfl rfl ?_)))
  have h4c:=h4.mono hm
  refine TO.step rfl (OT.index tab rTree 1 h4c rfl rfl rfl rfl rfl (by first | rfl | omega | (simp only;omega)) rfl hyi ?_)
  rintro b7 i7 h7 hr7 hA7
  (refine TO.step rfl (OT.loadA0 tab hA7 rfl rfl rfl rfl rfl ?_))
  skip
  refine TO.step rfl (OT.call rfl rfl rfl rfl rfl rfl goes46 ((py _ _ bd q s _ h7 (hT.mono hm) hB (rTree_iff.1 hr7) (by first | omega | (simp only [List.length_append];omega))).x ?_));
  rintro _ m1 _ ⟨hm1,s,q,rfl,hB⟩
  replace hm:=Mem.le_trans hm hm1
  clear hm1 h4c hr7 hA7
  repeat ((first|refine q3 ?_|refine q4 tab rfl rfl ?_|refine q5 ?_|refine q6 ?_))
  refine TO.step rfl (OT.litR tab rStr (hs:=[[93]]) (l:=[[93]]) ⟨rfl,trivial⟩ rfl rfl rfl rfl rfl (by decide) (fun sl ma hma hsl _ _ => ?_))
  replace hm:=Mem.le_trans hm hma
  replace hB:=hB.mono hma
  skip
  refine TO.step rfl (OT.call rfl rfl rfl rfl rfl rfl goes67 ((put_law _ _ bd q s _ hB sl [Pt.mk [93]] hsl (by first | omega | (simp only [List.length_append];omega))).x ?_));
  rintro _ m1 _ ⟨hm1,s,q,rfl,hB⟩
  replace hm:=Mem.le_trans hm hm1
  clear hm1 hma hsl
  repeat (first|refine q5 ?_|refine q7 ?_)
  refine retQ_n rfl (by repeat (first|exact List.Sublist.refl _|refine List.Sublist.cons_cons _ ?_|refine List.Sublist.cons _ ?_)) ⟨hm,s,q,rfl,hB.cast ?_⟩
  rw [et];try simp only [putT_app,List.append_assoc]
 by_cases e : hk=50
 ·subst e
  have hf : (bareB (.mk 50 hn hu ks) (lvl (.mk 50 hn hu ks)) false true && ks.all lim.expr)=true:=he
  rw [Bool.and_eq_true] at hf
  have hlv : (decide (0 ≤ hu) && (decide (hu ≤ 3) && decide ((ks.length : Int)=1 + hu % 2 + hu / 2)))=true:=(Pt.bare_f hf.1).1
  simp only [Bool.and_eq_true,decide_eq_true_eq] at hlv
  have hE2 : ∀ x ∈ ks,Pw Tb 46 x:=fun x hx=>hE x hx (List.all_eq_true.1 hf.2 x hx)
  have hu4 : hu=0 ∨ hu=1 ∨ hu=2 ∨ hu=3:=by omega
  rcases hu4 with rfl | rfl | rfl | rfl
  ·skip
   obtain ⟨x,rfl⟩:=List.length_eq_one_iff.1 (show ks.length=1 by omega)
   have px:=hE2 x (by simp)
   have hxi : [x][0]? = some x:=rfl
   have et : Pt.toks (.mk 50 hn 0 [x])=Pt.toks x++([Pt.mk [91]]++([Pt.mk [58]]++[Pt.mk [93]])):=by rw [Pt.toks_eq];rfl
   rw [et] at hl
   try simp only [putT_app,List.length_append] at hl
   unfold TCall
   refine TCallX.enter Tryz.func89 rfl 140 rfl ?_
   repeat (first|refine q1 ?_|refine q3 ?_)
   refine TO.step rfl (OT.box rfl rfl rfl rfl rfl (fun b => ?_))
   refine TO.perm pq3 ?_
   repeat (first|(first|refine q1 ?_|refine q2 ?_|refine q3 ?_|refine q4 tab rfl rfl ?_|refine q5 ?_|refine q6 ?_|refine q16 rfl ?_|refine q17 rfl ?_)|(refine qs rfl (ql tab 2 rfl rfl rfl rfl rfl rfl ?_)))
   have h4c:=h4.mono hm
   refine TO.step rfl (OT.index tab rTree 0 h4c rfl rfl rfl rfl rfl (by first | rfl | omega | (simp only;omega)) rfl hxi ?_)
   rintro b7 i7 h7 hr7 hA7
   (refine TO.step rfl (OT.loadA0 tab hA7 rfl rfl rfl rfl rfl ?_))
   skip
   refine TO.step rfl (OT.call rfl rfl rfl rfl rfl rfl goes46 ((px _ _ bd q s _ h7 (hT.mono hm) hB (rTree_iff.1 hr7) (by first | omega | (simp only [List.length_append];omega))).x ?_));
   rintro _ m1 _ ⟨hm1,s,q,rfl,hB⟩
   replace hm:=Mem.le_trans hm hm1
   clear hm1 h4c hr7 hA7
   repeat ((first|refine q1 ?_|refine q3 ?_|refine q4 tab rfl rfl ?_|refine q5 ?_|refine q6 ?_))
   refine TO.step rfl (OT.litR tab rStr (hs:=[[91]]) (l:=[[91]]) ⟨rfl,trivial⟩ rfl rfl rfl rfl rfl (by decide) (fun sl ma hma hsl _ _ => ?_))
   replace hm:=Mem.le_trans hm hma
   replace hB:=hB.mono hma
   skip
   refine TO.step rfl (OT.call rfl rfl rfl rfl rfl rfl goes67 ((put_law _ _ bd q s _ hB sl [Pt.mk [91]] hsl (by first | omega | (simp only [List.length_append];omega))).x ?_));
   rintro _ m1 _ ⟨hm1,s,q,rfl,hB⟩
   replace hm:=Mem.le_trans hm hm1
   clear hm1 hma hsl
   repeat (first|(first|refine q1 ?_|refine q3 ?_|refine q4 tab rfl rfl ?_|refine q5 ?_|refine q6 ?_)|(refine qs rfl (ql tab 2 rfl rfl rfl rfl rfl rfl ?_)))
   refine TO.step rfl (OT.andK (r:=0) rfl rfl rfl rfl rfl (fun w=>and_0_1 w) ?_)
   repeat ((first|refine q1 ?_|refine q3 ?_|refine q4 tab rfl rfl ?_|refine q5 ?_|refine q6 ?_|refine q13 ?_|refine q17 rfl ?_))
   refine TO.step rfl (OT.litR tab rStr (hs:=[[58]]) (l:=[[58]]) ⟨rfl,trivial⟩ rfl rfl rfl rfl rfl (by decide) (fun sl ma hma hsl _ _ => ?_))
   replace hm:=Mem.le_trans hm hma
   replace hB:=hB.mono hma
   skip
   refine TO.step rfl (OT.call rfl rfl rfl rfl rfl rfl goes67 ((put_law _ _ bd q s _ hB sl [Pt.mk [58]] hsl (by first | omega | (simp only [List.length_append];omega))).x ?_));
   rintro _ m1 _ ⟨hm1,s,q,rfl,hB⟩
   replace hm:=Mem.le_trans hm hm1
   clear hm1 hma hsl
   repeat (first|(first|refine q1 ?_|refine q3 ?_|refine q4 tab rfl rfl ?_|refine q5 ?_|refine q6 ?_)|(refine qs rfl (ql tab 2 rfl rfl rfl rfl rfl rfl ?_)))
   refine TO.step rfl (OT.andK (r:=0) rfl rfl rfl rfl rfl (fun w=>and_0_2 w) ?_)
   repeat ((first|refine q3 ?_|refine q4 tab rfl rfl ?_|refine q5 ?_|refine q6 ?_|refine q13 ?_|refine q17 rfl ?_))
   refine TO.step rfl (OT.litR tab rStr (hs:=[[93]]) (l:=[[93]]) ⟨rfl,trivial⟩ rfl rfl rfl rfl rfl (by decide) (fun sl ma hma hsl _ _ => ?_))
   replace hm:=Mem.le_trans hm hma
   replace hB:=hB.mono hma
   skip
   refine TO.step rfl (OT.call rfl rfl rfl rfl rfl rfl goes67 ((put_law _ _ bd q s _ hB sl [Pt.mk [93]] hsl (by first | omega | (simp only [List.length_append];omega))).x ?_));
   rintro _ m1 _ ⟨hm1,s,q,rfl,hB⟩
   replace hm:=Mem.le_trans hm hm1
   clear hm1 hma hsl
   repeat (first|refine q5 ?_|refine q7 ?_)
   refine retQ_n rfl (by repeat (first|exact List.Sublist.refl _|refine List.Sublist.cons_cons _ ?_|refine List.Sublist.cons _ ?_)) ⟨hm,s,q,rfl,hB.cast ?_⟩
   rw [et];try simp only [putT_app,List.append_assoc]
  ·skip
   obtain ⟨x,y,rfl⟩:=Pt.len2 (show ks.length=2 by omega)
   obtain ⟨sa,sn,sc⟩:=hks
   obtain rfl : sn=2:=hlen
   have px:=hE2 x (by simp)
   have hxi : [x,y][0]? = some x:=rfl
   have py:=hE2 y (by simp)
   have hyi : [x,y][1]? = some y:=rfl
   have et : Pt.toks (.mk 50 hn 1 [x,y])=Pt.toks x++([Pt.mk [91]]++(Pt.toks y++([Pt.mk [58]]++[Pt.mk [93]]))):=by rw [Pt.toks_eq];rfl
   rw [et] at hl
   try simp only [putT_app,List.length_append] at hl
   unfold TCall
   refine TCallX.enter Tryz.func89 rfl 140 rfl ?_
   repeat (first|refine q1 ?_|refine q3 ?_)
   refine TO.step rfl (OT.box rfl rfl rfl rfl rfl (fun b => ?_))
   refine TO.perm pq3 ?_
   repeat (first|(first|refine q1 ?_|refine q2 ?_|refine q3 ?_|refine q4 tab rfl rfl ?_|refine q5 ?_|refine q6 ?_|refine q16 rfl ?_|refine q17 rfl ?_)|(refine qs rfl (ql tab 2 rfl rfl rfl rfl rfl rfl ?_)))
   have h4c:=h4.mono hm
   refine TO.step rfl (OT.index tab rTree 0 h4c rfl rfl rfl rfl rfl (by first | rfl | omega | (simp only;omega)) rfl hxi ?_)
   rintro b7 i7 h7 hr7 hA7
   (refine TO.step rfl (OT.loadA0 tab hA7 rfl rfl rfl rfl rfl ?_))
   skip
   refine TO.step rfl (OT.call rfl rfl rfl rfl rfl rfl goes46 ((px _ _ bd q s _ h7 (hT.mono hm) hB (rTree_iff.1 hr7) (by first | omega | (simp only [List.length_append];omega))).x ?_));
   rintro _ m1 _ ⟨hm1,s,q,rfl,hB⟩
   replace hm:=Mem.le_trans hm hm1
   clear hm1 h4c hr7 hA7
   repeat ((first|refine q1 ?_|refine q3 ?_|refine q4 tab rfl rfl ?_|refine q5 ?_|refine q6 ?_))
   refine TO.step rfl (OT.litR tab rStr (hs:=[[91]]) (l:=[[91]]) ⟨rfl,trivial⟩ rfl rfl rfl rfl rfl (by decide) (fun sl ma hma hsl _ _ => ?_))
   replace hm:=Mem.le_trans hm hma
   replace hB:=hB.mono hma
   skip
   refine TO.step rfl (OT.call rfl rfl rfl rfl rfl rfl goes67 ((put_law _ _ bd q s _ hB sl [Pt.mk [91]] hsl (by first | omega | (simp only [List.length_append];omega))).x ?_));
   rintro _ m1 _ ⟨hm1,s,q,rfl,hB⟩
   replace hm:=Mem.le_trans hm hm1
   clear hm1 hma hsl
   repeat (first|(first|refine q1 ?_|refine q3 ?_|refine q4 tab rfl rfl ?_|refine q5 ?_|refine q6 ?_)|(refine qs rfl (ql tab 2 rfl rfl rfl rfl rfl rfl ?_)))
   refine TO.step rfl (OT.andK (r:=1) rfl rfl rfl rfl rfl (fun w=>and_1_1 w) ?_)
   repeat (first|(first|refine q3 ?_|refine q4 tab rfl rfl ?_|refine q5 ?_|refine q6 ?_|refine q16 rfl ?_)|(refine qs rfl (ql tab 2 rfl rfl rfl rfl rfl rfl ?_)))
   have h4c:=h4.mono hm
   refine TO.step rfl (OT.index tab rTree 1 h4c rfl rfl rfl rfl rfl (by first | rfl | omega | (simp only;omega)) rfl hyi ?_)
   rintro b7 i7 h7 hr7 hA7
   (refine TO.step rfl (OT.loadA0 tab hA7 rfl rfl rfl rfl rfl ?_))
   skip
   refine TO.step rfl (OT.call rfl rfl rfl rfl rfl rfl goes46 ((py _ _ bd q s _ h7 (hT.mono hm) hB (rTree_iff.1 hr7) (by first | omega | (simp only [List.length_append];omega))).x ?_));
   rintro _ m1 _ ⟨hm1,s,q,rfl,hB⟩
   replace hm:=Mem.le_trans hm hm1
   clear hm1 h4c hr7 hA7
   repeat ((first|refine q1 ?_|refine q3 ?_|refine q4 tab rfl rfl ?_|refine q5 ?_|refine q6 ?_))
   refine TO.step rfl (OT.litR tab rStr (hs:=[[58]]) (l:=[[58]]) ⟨rfl,trivial⟩ rfl rfl rfl rfl rfl (by decide) (fun sl ma hma hsl _ _ => ?_))
   replace hm:=Mem.le_trans hm hma
   replace hB:=hB.mono hma
   skip
   refine TO.step rfl (OT.call rfl rfl rfl rfl rfl rfl goes67 ((put_law _ _ bd q s _ hB sl [Pt.mk [58]] hsl (by first | omega | (simp only [List.length_append];omega))).x ?_));
   rintro _ m1 _ ⟨hm1,s,q,rfl,hB⟩
   replace hm:=Mem.le_trans hm hm1
   clear hm1 hma hsl
   repeat (first|(first|refine q1 ?_|refine q3 ?_|refine q4 tab rfl rfl ?_|refine q5 ?_|refine q6 ?_)|(refine qs rfl (ql tab 2 rfl rfl rfl rfl rfl rfl ?_)))
   refine TO.step rfl (OT.andK (r:=0) rfl rfl rfl rfl rfl (fun w=>and_1_2 w) ?_)
   repeat ((first|refine q3 ?_|refine q4 tab rfl rfl ?_|refine q5 ?_|refine q6 ?_|refine q13 ?_|refine q17 rfl ?_))
   refine TO.step rfl (OT.litR tab rStr (hs:=[[93]]) (l:=[[93]]) ⟨rfl,trivial⟩ rfl rfl rfl rfl rfl (by decide) (fun sl ma hma hsl _ _ => ?_))
   replace hm:=Mem.le_trans hm hma
   replace hB:=hB.mono hma
   skip
   refine TO.step rfl (OT.call rfl rfl rfl rfl rfl rfl goes67 ((put_law _ _ bd q s _ hB sl [Pt.mk [93]] hsl (by first | omega | (simp only [List.length_append];omega))).x ?_));
   rintro _ m1 _ ⟨hm1,s,q,rfl,hB⟩
   replace hm:=Mem.le_trans hm hm1
   clear hm1 hma hsl
   repeat (first|refine q5 ?_|refine q7 ?_)
   refine retQ_n rfl (by repeat (first|exact List.Sublist.refl _|refine List.Sublist.cons_cons _ ?_|refine List.Sublist.cons _ ?_)) ⟨hm,s,q,rfl,hB.cast ?_⟩
   rw [et];try simp only [putT_app,List.append_assoc]
  ·skip
   obtain ⟨x,y,rfl⟩:=Pt.len2 (show ks.length=2 by omega)
   obtain ⟨sa,sn,sc⟩:=hks
   obtain rfl : sn=2:=hlen
   have px:=hE2 x (by simp)
   have hxi : [x,y][0]? = some x:=rfl
   have py:=hE2 y (by simp)
   have hyi : [x,y][1]? = some y:=rfl
   have et : Pt.toks (.mk 50 hn 2 [x,y])=Pt.toks x++([Pt.mk [91]]++([Pt.mk [58]]++(Pt.toks y++[Pt.mk [93]]))):=by rw [Pt.toks_eq];rfl
   rw [et] at hl
   try simp only [putT_app,List.length_append] at hl
   unfold TCall
   refine TCallX.enter Tryz.func89 rfl 140 rfl ?_
   repeat (first|refine q1 ?_|refine q3 ?_)
   refine TO.step rfl (OT.box rfl rfl rfl rfl rfl (fun b => ?_))
   refine TO.perm pq3 ?_
   repeat (first|(first|refine q1 ?_|refine q2 ?_|refine q3 ?_|refine q4 tab rfl rfl ?_|refine q5 ?_|refine q6 ?_|refine q16 rfl ?_|refine q17 rfl ?_)|(refine qs rfl (ql tab 2 rfl rfl rfl rfl rfl rfl ?_)))
   have h4c:=h4.mono hm
   refine TO.step rfl (OT.index tab rTree 0 h4c rfl rfl rfl rfl rfl (by first | rfl | omega | (simp only;omega)) rfl hxi ?_)
   rintro b7 i7 h7 hr7 hA7
   (refine TO.step rfl (OT.loadA0 tab hA7 rfl rfl rfl rfl rfl ?_))
   skip
   refine TO.step rfl (OT.call rfl rfl rfl rfl rfl rfl goes46 ((px _ _ bd q s _ h7 (hT.mono hm) hB (rTree_iff.1 hr7) (by first | omega | (simp only [List.length_append];omega))).x ?_));
   rintro _ m1 _ ⟨hm1,s,q,rfl,hB⟩
   replace hm:=Mem.le_trans hm hm1
   clear hm1 h4c hr7 hA7
   repeat ((first|refine q1 ?_|refine q3 ?_|refine q4 tab rfl rfl ?_|refine q5 ?_|refine q6 ?_))
   refine TO.step rfl (OT.litR tab rStr (hs:=[[91]]) (l:=[[91]]) ⟨rfl,trivial⟩ rfl rfl rfl rfl rfl (by decide) (fun sl ma hma hsl _ _ => ?_))
   replace hm:=Mem.le_trans hm hma
   replace hB:=hB.mono hma
   skip
   refine TO.step rfl (OT.call rfl rfl rfl rfl rfl rfl goes67 ((put_law _ _ bd q s _ hB sl [Pt.mk [91]] hsl (by first | omega | (simp only [List.length_append];omega))).x ?_));
   rintro _ m1 _ ⟨hm1,s,q,rfl,hB⟩
   replace hm:=Mem.le_trans hm hm1
   clear hm1 hma hsl
   repeat (first|(first|refine q1 ?_|refine q3 ?_|refine q4 tab rfl rfl ?_|refine q5 ?_|refine q6 ?_)|(refine qs rfl (ql tab 2 rfl rfl rfl rfl rfl rfl ?_)))
   refine TO.step rfl (OT.andK (r:=0) rfl rfl rfl rfl rfl (fun w=>and_2_1 w) ?_)
   repeat ((first|refine q1 ?_|refine q3 ?_|refine q4 tab rfl rfl ?_|refine q5 ?_|refine q6 ?_|refine q13 ?_|refine q17 rfl ?_))
   refine TO.step rfl (OT.litR tab rStr (hs:=[[58]]) (l:=[[58]]) ⟨rfl,trivial⟩ rfl rfl rfl rfl rfl (by decide) (fun sl ma hma hsl _ _ => ?_))
   replace hm:=Mem.le_trans hm hma
   replace hB:=hB.mono hma
   skip
   refine TO.step rfl (OT.call rfl rfl rfl rfl rfl rfl goes67 ((put_law _ _ bd q s _ hB sl [Pt.mk [58]] hsl (by first | omega | (simp only [List.length_append];omega))).x ?_));
   rintro _ m1 _ ⟨hm1,s,q,rfl,hB⟩
   replace hm:=Mem.le_trans hm hm1
   clear hm1 hma hsl
   repeat (first|(first|refine q1 ?_|refine q3 ?_|refine q4 tab rfl rfl ?_|refine q5 ?_|refine q6 ?_)|(refine qs rfl (ql tab 2 rfl rfl rfl rfl rfl rfl ?_)))
   refine TO.step rfl (OT.andK (r:=2) rfl rfl rfl rfl rfl (fun w=>and_2_2 w) ?_)
   repeat (first|(first|refine q3 ?_|refine q4 tab rfl rfl ?_|refine q5 ?_|refine q6 ?_|refine q16 rfl ?_)|(refine qs rfl (ql tab 2 rfl rfl rfl rfl rfl rfl ?_)))
   refine TO.step rfl (OT.arith (r':=1) rfl rfl rfl rfl rfl rfl rfl (by decide) ?_)
   skip
   have h4c:=h4.mono hm
   refine TO.step rfl (OT.index tab rTree 1 h4c rfl rfl rfl rfl rfl (by first | rfl | omega | (simp only;omega)) rfl hyi ?_)
   rintro b7 i7 h7 hr7 hA7
   (refine TO.step rfl (OT.loadA0 tab hA7 rfl rfl rfl rfl rfl ?_))
   skip
   refine TO.step rfl (OT.call rfl rfl rfl rfl rfl rfl goes46 ((py _ _ bd q s _ h7 (hT.mono hm) hB (rTree_iff.1 hr7) (by first | omega | (simp only [List.length_append];omega))).x ?_));
   rintro _ m1 _ ⟨hm1,s,q,rfl,hB⟩
   replace hm:=Mem.le_trans hm hm1
   clear hm1 h4c hr7 hA7
   repeat ((first|refine q3 ?_|refine q4 tab rfl rfl ?_|refine q5 ?_|refine q6 ?_))
   refine TO.step rfl (OT.litR tab rStr (hs:=[[93]]) (l:=[[93]]) ⟨rfl,trivial⟩ rfl rfl rfl rfl rfl (by decide) (fun sl ma hma hsl _ _ => ?_))
   replace hm:=Mem.le_trans hm hma
   replace hB:=hB.mono hma
   skip
   refine TO.step rfl (OT.call rfl rfl rfl rfl rfl rfl goes67 ((put_law _ _ bd q s _ hB sl [Pt.mk [93]] hsl (by first | omega | (simp only [List.length_append];omega))).x ?_));
   rintro _ m1 _ ⟨hm1,s,q,rfl,hB⟩
   replace hm:=Mem.le_trans hm hm1
   clear hm1 hma hsl
   repeat (first|refine q5 ?_|refine q7 ?_)
   refine retQ_n rfl (by repeat (first|exact List.Sublist.refl _|refine List.Sublist.cons_cons _ ?_|refine List.Sublist.cons _ ?_)) ⟨hm,s,q,rfl,hB.cast ?_⟩
   rw [et];try simp only [putT_app,List.append_assoc]
  ·skip
   obtain ⟨x,y,z,rfl⟩:=Pt.len3 (show ks.length=3 by omega)
   obtain ⟨sa,sn,sc⟩:=hks
   obtain rfl : sn=3:=hlen
   have px:=hE2 x (by simp)
   have hxi : [x,y,z][0]? = some x:=rfl
   have py:=hE2 y (by simp)
   have hyi : [x,y,z][1]? = some y:=rfl
   have pz:=hE2 z (by simp)
   have hzi : [x,y,z][2]? = some z:=rfl
   have et : Pt.toks (.mk 50 hn 3 [x,y,z])=Pt.toks x++([Pt.mk [91]]++(Pt.toks y++([Pt.mk [58]]++(Pt.toks z++[Pt.mk [93]])))):=by rw [Pt.toks_eq];rfl
   rw [et] at hl
   try simp only [putT_app,List.length_append] at hl
   unfold TCall
   refine TCallX.enter Tryz.func89 rfl 140 rfl ?_
   repeat (first|refine q1 ?_|refine q3 ?_)
   refine TO.step rfl (OT.box rfl rfl rfl rfl rfl (fun b => ?_))
   refine TO.perm pq3 ?_
   repeat (first|(first|refine q1 ?_|refine q2 ?_|refine q3 ?_|refine q4 tab rfl rfl ?_|refine q5 ?_|refine q6 ?_|refine q16 rfl ?_|refine q17 rfl ?_)|(refine qs rfl (ql tab 2 rfl rfl rfl rfl rfl rfl ?_)))
   have h4c:=h4.mono hm
   refine TO.step rfl (OT.index tab rTree 0 h4c rfl rfl rfl rfl rfl (by first | rfl | omega | (simp only;omega)) rfl hxi ?_)
   rintro b7 i7 h7 hr7 hA7
   (refine TO.step rfl (OT.loadA0 tab hA7 rfl rfl rfl rfl rfl ?_))
   skip
   refine TO.step rfl (OT.call rfl rfl rfl rfl rfl rfl goes46 ((px _ _ bd q s _ h7 (hT.mono hm) hB (rTree_iff.1 hr7) (by first | omega | (simp only [List.length_append];omega))).x ?_));
   rintro _ m1 _ ⟨hm1,s,q,rfl,hB⟩
   replace hm:=Mem.le_trans hm hm1
   clear hm1 h4c hr7 hA7
   repeat ((first|refine q1 ?_|refine q3 ?_|refine q4 tab rfl rfl ?_|refine q5 ?_|refine q6 ?_))
   refine TO.step rfl (OT.litR tab rStr (hs:=[[91]]) (l:=[[91]]) ⟨rfl,trivial⟩ rfl rfl rfl rfl rfl (by decide) (fun sl ma hma hsl _ _ => ?_))
   replace hm:=Mem.le_trans hm hma
   replace hB:=hB.mono hma
   skip
   refine TO.step rfl (OT.call rfl rfl rfl rfl rfl rfl goes67 ((put_law _ _ bd q s _ hB sl [Pt.mk [91]] hsl (by first | omega | (simp only [List.length_append];omega))).x ?_));
   rintro _ m1 _ ⟨hm1,s,q,rfl,hB⟩
   replace hm:=Mem.le_trans hm hm1
   clear hm1 hma hsl
   repeat (first|(first|refine q1 ?_|refine q3 ?_|refine q4 tab rfl rfl ?_|refine q5 ?_|refine q6 ?_)|(refine qs rfl (ql tab 2 rfl rfl rfl rfl rfl rfl ?_)))
   refine TO.step rfl (OT.andK (r:=1) rfl rfl rfl rfl rfl (fun w=>and_3_1 w) ?_)
   repeat (first|(first|refine q3 ?_|refine q4 tab rfl rfl ?_|refine q5 ?_|refine q6 ?_|refine q16 rfl ?_)|(refine qs rfl (ql tab 2 rfl rfl rfl rfl rfl rfl ?_)))
   have h4c:=h4.mono hm
   refine TO.step rfl (OT.index tab rTree 1 h4c rfl rfl rfl rfl rfl (by first | rfl | omega | (simp only;omega)) rfl hyi ?_)
   rintro b7 i7 h7 hr7 hA7
   (refine TO.step rfl (OT.loadA0 tab hA7 rfl rfl rfl rfl rfl ?_))
   skip
   refine TO.step rfl (OT.call rfl rfl rfl rfl rfl rfl goes46 ((py _ _ bd q s _ h7 (hT.mono hm) hB (rTree_iff.1 hr7) (by first | omega | (simp only [List.length_append];omega))).x ?_));
   rintro _ m1 _ ⟨hm1,s,q,rfl,hB⟩
   replace hm:=Mem.le_trans hm hm1
   clear hm1 h4c hr7 hA7
   repeat ((first|refine q1 ?_|refine q3 ?_|refine q4 tab rfl rfl ?_|refine q5 ?_|refine q6 ?_))
   refine TO.step rfl (OT.litR tab rStr (hs:=[[58]]) (l:=[[58]]) ⟨rfl,trivial⟩ rfl rfl rfl rfl rfl (by decide) (fun sl ma hma hsl _ _ => ?_))
   replace hm:=Mem.le_trans hm hma
   replace hB:=hB.mono hma
   skip
   refine TO.step rfl (OT.call rfl rfl rfl rfl rfl rfl goes67 ((put_law _ _ bd q s _ hB sl [Pt.mk [58]] hsl (by first | omega | (simp only [List.length_append];omega))).x ?_));
   rintro _ m1 _ ⟨hm1,s,q,rfl,hB⟩
   replace hm:=Mem.le_trans hm hm1
   clear hm1 hma hsl
   repeat (first|(first|refine q1 ?_|refine q3 ?_|refine q4 tab rfl rfl ?_|refine q5 ?_|refine q6 ?_)|(refine qs rfl (ql tab 2 rfl rfl rfl rfl rfl rfl ?_)))
   refine TO.step rfl (OT.andK (r:=2) rfl rfl rfl rfl rfl (fun w=>and_3_2 w) ?_)
   repeat (first|(first|refine q3 ?_|refine q4 tab rfl rfl ?_|refine q5 ?_|refine q6 ?_|refine q16 rfl ?_)|(refine qs rfl (ql tab 2 rfl rfl rfl rfl rfl rfl ?_)))
   refine TO.step rfl (OT.arith (r':=2) rfl rfl rfl rfl rfl rfl rfl (by decide) ?_)
   skip
   have h4c:=h4.mono hm
   refine TO.step rfl (OT.index tab rTree 2 h4c rfl rfl rfl rfl rfl (by first | rfl | omega | (simp only;omega)) rfl hzi ?_)
   rintro b7 i7 h7 hr7 hA7
   (refine TO.step rfl (OT.loadA0 tab hA7 rfl rfl rfl rfl rfl ?_))
   skip
   refine TO.step rfl (OT.call rfl rfl rfl rfl rfl rfl goes46 ((pz _ _ bd q s _ h7 (hT.mono hm) hB (rTree_iff.1 hr7) (by first | omega | (simp only [List.length_append];omega))).x ?_));
   rintro _ m1 _ ⟨hm1,s,q,rfl,hB⟩
   replace hm:=Mem.le_trans hm hm1
   clear hm1 h4c hr7 hA7
   repeat ((first|refine q3 ?_|refine q4 tab rfl rfl ?_|refine q5 ?_|refine q6 ?_))
   refine TO.step rfl (OT.litR tab rStr (hs:=[[93]]) (l:=[[93]]) ⟨rfl,trivial⟩ rfl rfl rfl rfl rfl (by decide) (fun sl ma hma hsl _ _ => ?_))
   replace hm:=Mem.le_trans hm hma
   replace hB:=hB.mono hma
   skip
   refine TO.step rfl (OT.call rfl rfl rfl rfl rfl rfl goes67 ((put_law _ _ bd q s _ hB sl [Pt.mk [93]] hsl (by first | omega | (simp only [List.length_append];omega))).x ?_));
   rintro _ m1 _ ⟨hm1,s,q,rfl,hB⟩
   replace hm:=Mem.le_trans hm hm1
   clear hm1 hma hsl
   repeat (first|refine q5 ?_|refine q7 ?_)
   refine retQ_n rfl (by repeat (first|exact List.Sublist.refl _|refine List.Sublist.cons_cons _ ?_|refine List.Sublist.cons _ ?_)) ⟨hm,s,q,rfl,hB.cast ?_⟩
   rw [et];try simp only [putT_app,List.append_assoc]
 by_cases e : hk=51
 ·subst e
  have hf : (bareB (.mk 51 hn hu ks) true false false && kidsR [lim.expr] (some lim.expr) ks)=true:=he
  rw [Bool.and_eq_true] at hf
  obtain ⟨x,r,rfl,hx,hr⟩:=Pt.kidsS hf.2
  have px:=hE x (by simp) hx
  have hxi : (x :: r)[0]? = some x:=rfl
  have hpr : ∀ k ∈ r,Pw Tb 46 k:=fun k hk=>hE k (by simp [hk]) (hr k hk)
  have et : Pt.toks (.mk 51 hn hu (x :: r))=Pt.toks x++([Pt.mk [40]]++(Pt.commaJ (r.map Pt.toks)++[Pt.mk [41]])):=by rw [Pt.toks_eq];rfl
  rw [et] at hl
  try simp only [putT_app,List.length_append] at hl
  unfold TCall
  refine TCallX.enter Tryz.func89 rfl 140 rfl ?_
  repeat (first|refine q1 ?_|refine q3 ?_)
  refine TO.step rfl (OT.box rfl rfl rfl rfl rfl (fun b => ?_))
  refine TO.perm pq3 ?_
  repeat (first|(first|refine q1 ?_|refine q2 ?_|refine q3 ?_|refine q4 tab rfl rfl ?_|refine q5 ?_|refine q6 ?_|refine q16 rfl ?_|refine q17 rfl ?_)|(refine qs rfl (ql tab 2 rfl rfl rfl rfl rfl rfl ?_)))
  have h4c:=h4.mono hm
  refine TO.step rfl (OT.index tab rTree 0 h4c rfl rfl rfl rfl rfl (by first | rfl | omega | (simp only;omega)) rfl hxi ?_)
  rintro b7 i7 h7 hr7 hA7
  (refine TO.step rfl (OT.loadA0 tab hA7 rfl rfl rfl rfl rfl ?_))
  skip
  refine TO.step rfl (OT.call rfl rfl rfl rfl rfl rfl goes46 ((px _ _ bd q s _ h7 (hT.mono hm) hB (rTree_iff.1 hr7) (by first | omega | (simp only [List.length_append];omega))).x ?_));
  rintro _ m1 _ ⟨hm1,s,q,rfl,hB⟩
  replace hm:=Mem.le_trans hm hm1
  clear hm1 h4c hr7 hA7
  repeat ((first|refine q1 ?_|refine q3 ?_|refine q4 tab rfl rfl ?_|refine q5 ?_|refine q6 ?_))
  refine TO.step rfl (OT.litR tab rStr (hs:=[[40]]) (l:=[[40]]) ⟨rfl,trivial⟩ rfl rfl rfl rfl rfl (by decide) (fun sl ma hma hsl _ _ => ?_))
  replace hm:=Mem.le_trans hm hma
  replace hB:=hB.mono hma
  skip
  refine TO.step rfl (OT.call rfl rfl rfl rfl rfl rfl goes67 ((put_law _ _ bd q s _ hB sl [Pt.mk [40]] hsl (by first | omega | (simp only [List.length_append];omega))).x ?_));
  rintro _ m1 _ ⟨hm1,s,q,rfl,hB⟩
  replace hm:=Mem.le_trans hm hm1
  clear hm1 hma hsl
  repeat (first|(first|refine q1 ?_|refine q3 ?_|refine q4 tab rfl rfl ?_|refine q5 ?_|refine q6 ?_)|(refine qs rfl (ql tab 2 rfl rfl rfl rfl rfl rfl ?_)))
  have h4d:=h4.mono hm
  refine TO.step rfl (OT.cut tab rTree 1 hks.len h4d rfl rfl rfl rfl rfl rfl rfl (.inr rfl) (.inl ⟨rfl,rfl⟩) (by simp only [List.length_cons] at hlen;omega) (by omega) (fun slr hslr => ?_))
  rw [List.take_of_length_le (by omega),List.drop_succ_cons,List.drop_zero] at hslr
  repeat (refine q4 tab rfl rfl ?_)
  refine TO.step rfl (OT.call rfl rfl rfl rfl rfl rfl goes88 ((each_law (Cbk.of hTb hpr goes46 (hT.mono hm)) _ _ (Mem.le_refl _) q s _ hB slr hslr (by first | omega | (simp only [List.length_append];omega))).x ?_));
  rintro _ m1 _ ⟨hm1,s,q,rfl,hB⟩
  replace hm:=Mem.le_trans hm hm1
  repeat (first|refine q3 ?_|refine q4 tab rfl rfl ?_|refine q5 ?_|refine q6 ?_)
  refine TO.step rfl (OT.litR tab rStr (hs:=[[41]]) (l:=[[41]]) ⟨rfl,trivial⟩ rfl rfl rfl rfl rfl (by decide) (fun sl ma hma hsl _ _ => ?_))
  replace hm:=Mem.le_trans hm hma
  replace hB:=hB.mono hma
  skip
  refine TO.step rfl (OT.call rfl rfl rfl rfl rfl rfl goes67 ((put_law _ _ bd q s _ hB sl [Pt.mk [41]] hsl (by first | omega | (simp only [List.length_append];omega))).x ?_));
  rintro _ m1 _ ⟨hm1,s,q,rfl,hB⟩
  replace hm:=Mem.le_trans hm hm1
  clear hm1 hma hsl
  repeat (first|refine q5 ?_|refine q7 ?_)
  refine retQ_n rfl (by repeat (first|exact List.Sublist.refl _|refine List.Sublist.cons_cons _ ?_|refine List.Sublist.cons _ ?_)) ⟨hm,s,q,rfl,hB.cast ?_⟩
  rw [et];try simp only [putT_app,List.append_assoc]
 by_cases e : hk=52
 ·subst e
  have hf : (bareB (.mk 52 hn hu ks) (decide (hn ∈ ops4)) true false && kidsR [lim.expr] none ks)=true:=he
  rw [Bool.and_eq_true] at hf
  obtain ⟨x,rfl,hx⟩:=Pt.kids1 hf.2
  have px:=hE x (by simp) hx
  have hxi : [x][0]? = some x:=rfl
  have et : Pt.toks (.mk 52 hn hu [x])=[Pt.mk [40],Pt.mk hn]++(Pt.toks x++[Pt.mk [41]]):=by rw [Pt.toks_eq];rfl
  rw [et] at hl
  try simp only [putT_app,List.length_append] at hl
  unfold TCall
  refine TCallX.enter Tryz.func89 rfl 140 rfl ?_
  repeat (first|refine q1 ?_|refine q3 ?_)
  refine TO.step rfl (OT.box rfl rfl rfl rfl rfl (fun b => ?_))
  refine TO.perm pq3 ?_
  repeat (first|(first|refine q1 ?_|refine q2 ?_|refine q3 ?_|refine q4 tab rfl rfl ?_|refine q5 ?_|refine q6 ?_|refine q16 rfl ?_|refine q17 rfl ?_)|(refine qs rfl (ql tab 2 rfl rfl rfl rfl rfl rfl ?_)))
  refine TO.step rfl (OT.litR tab rStr (hs:=[[40],hn]) (l:=[[40],hn]) ⟨rfl,rfl,trivial⟩ rfl rfl rfl rfl rfl (by decide) (fun sl ma hma hsl _ _ => ?_))
  replace hm:=Mem.le_trans hm hma
  replace hB:=hB.mono hma
  skip
  refine TO.step rfl (OT.call rfl rfl rfl rfl rfl rfl goes67 ((put_law _ _ bd q s _ hB sl [Pt.mk [40],Pt.mk hn] hsl (by first | omega | (simp only [List.length_append];omega))).x ?_));
  rintro _ m1 _ ⟨hm1,s,q,rfl,hB⟩
  replace hm:=Mem.le_trans hm hm1
  clear hm1 hma hsl
  repeat (first|(first|refine q1 ?_|refine q3 ?_|refine q4 tab rfl rfl ?_|refine q5 ?_|refine q6 ?_)|(refine qs rfl (ql tab 2 rfl rfl rfl rfl rfl rfl ?_)))
  have h4c:=h4.mono hm
  refine TO.step rfl (OT.index tab rTree 0 h4c rfl rfl rfl rfl rfl (by first | rfl | omega | (simp only;omega)) rfl hxi ?_)
  rintro b7 i7 h7 hr7 hA7
  (refine TO.step rfl (OT.loadA0 tab hA7 rfl rfl rfl rfl rfl ?_))
  skip
  refine TO.step rfl (OT.call rfl rfl rfl rfl rfl rfl goes46 ((px _ _ bd q s _ h7 (hT.mono hm) hB (rTree_iff.1 hr7) (by first | omega | (simp only [List.length_append];omega))).x ?_));
  rintro _ m1 _ ⟨hm1,s,q,rfl,hB⟩
  replace hm:=Mem.le_trans hm hm1
  clear hm1 h4c hr7 hA7
  repeat ((first|refine q3 ?_|refine q4 tab rfl rfl ?_|refine q5 ?_|refine q6 ?_))
  refine TO.step rfl (OT.litR tab rStr (hs:=[[41]]) (l:=[[41]]) ⟨rfl,trivial⟩ rfl rfl rfl rfl rfl (by decide) (fun sl ma hma hsl _ _ => ?_))
  replace hm:=Mem.le_trans hm hma
  replace hB:=hB.mono hma
  skip
  refine TO.step rfl (OT.call rfl rfl rfl rfl rfl rfl goes67 ((put_law _ _ bd q s _ hB sl [Pt.mk [41]] hsl (by first | omega | (simp only [List.length_append];omega))).x ?_));
  rintro _ m1 _ ⟨hm1,s,q,rfl,hB⟩
  replace hm:=Mem.le_trans hm hm1
  clear hm1 hma hsl
  repeat (first|refine q5 ?_|refine q7 ?_)
  refine retQ_n rfl (by repeat (first|exact List.Sublist.refl _|refine List.Sublist.cons_cons _ ?_|refine List.Sublist.cons _ ?_)) ⟨hm,s,q,rfl,hB.cast ?_⟩
  rw [et];try simp only [putT_app,List.append_assoc]
 by_cases e : hk=53
 ·subst e
  have hf : (bareB (.mk 53 hn hu ks) (decide (hn ∈ Ps.levels.flatten)) true false && kidsR [lim.expr,lim.expr] none ks)=true:=he
  rw [Bool.and_eq_true] at hf
  obtain ⟨x,y,rfl,hx,hy⟩:=Pt.kids2 hf.2
  have px:=hE x (by simp) hx
  have py:=hE y (by simp) hy
  have hxi : [x,y][0]? = some x:=rfl
  have hyi : [x,y][1]? = some y:=rfl
  have et : Pt.toks (.mk 53 hn hu [x,y])=[Pt.mk [40]]++(Pt.toks x++([Pt.mk hn]++(Pt.toks y++[Pt.mk [41]]))):=by rw [Pt.toks_eq];rfl
  rw [et] at hl
  try simp only [putT_app,List.length_append] at hl
  unfold TCall
  refine TCallX.enter Tryz.func89 rfl 140 rfl ?_
  repeat (first|refine q1 ?_|refine q3 ?_)
  refine TO.step rfl (OT.box rfl rfl rfl rfl rfl (fun b => ?_))
  refine TO.perm pq3 ?_
  repeat (first|(first|refine q1 ?_|refine q2 ?_|refine q3 ?_|refine q4 tab rfl rfl ?_|refine q5 ?_|refine q6 ?_|refine q17 rfl ?_)|(refine qs rfl (ql tab 2 rfl rfl rfl rfl rfl rfl ?_)))
  refine TO.step rfl (OT.litR tab rStr (hs:=[[40]]) (l:=[[40]]) ⟨rfl,trivial⟩ rfl rfl rfl rfl rfl (by decide) (fun sl ma hma hsl _ _ => ?_))
  replace hm:=Mem.le_trans hm hma
  replace hB:=hB.mono hma
  skip
  refine TO.step rfl (OT.call rfl rfl rfl rfl rfl rfl goes67 ((put_law _ _ bd q s _ hB sl [Pt.mk [40]] hsl (by first | omega | (simp only [List.length_append];omega))).x ?_));
  rintro _ m1 _ ⟨hm1,s,q,rfl,hB⟩
  replace hm:=Mem.le_trans hm hm1
  clear hm1 hma hsl
  repeat (first|(first|refine q1 ?_|refine q3 ?_|refine q4 tab rfl rfl ?_|refine q5 ?_|refine q6 ?_)|(refine qs rfl (ql tab 2 rfl rfl rfl rfl rfl rfl ?_)))
  have h4c:=h4.mono hm
  refine TO.step rfl (OT.index tab rTree 0 h4c rfl rfl rfl rfl rfl (by first | rfl | omega | (simp only;omega)) rfl hxi ?_)
  rintro b7 i7 h7 hr7 hA7
  (refine TO.step rfl (OT.loadA0 tab hA7 rfl rfl rfl rfl rfl ?_))
  skip
  refine TO.step rfl (OT.call rfl rfl rfl rfl rfl rfl goes46 ((px _ _ bd q s _ h7 (hT.mono hm) hB (rTree_iff.1 hr7) (by first | omega | (simp only [List.length_append];omega))).x ?_));
  rintro _ m1 _ ⟨hm1,s,q,rfl,hB⟩
  replace hm:=Mem.le_trans hm hm1
  clear hm1 h4c hr7 hA7
  repeat (first|(first|refine q1 ?_|refine q3 ?_|refine q4 tab rfl rfl ?_|refine q5 ?_|refine q6 ?_)|(refine qs rfl (ql tab 2 rfl rfl rfl rfl rfl rfl ?_)))
  refine TO.step rfl (OT.litR tab rStr (hs:=[hn]) (l:=[hn]) ⟨rfl,trivial⟩ rfl rfl rfl rfl rfl (by decide) (fun sl ma hma hsl _ _ => ?_))
  replace hm:=Mem.le_trans hm hma
  replace hB:=hB.mono hma
  skip
  refine TO.step rfl (OT.call rfl rfl rfl rfl rfl rfl goes67 ((put_law _ _ bd q s _ hB sl [Pt.mk hn] hsl (by first | omega | (simp only [List.length_append];omega))).x ?_));
  rintro _ m1 _ ⟨hm1,s,q,rfl,hB⟩
  replace hm:=Mem.le_trans hm hm1
  clear hm1 hma hsl
  repeat (first|(first|refine q1 ?_|refine q3 ?_|refine q4 tab rfl rfl ?_|refine q5 ?_|refine q6 ?_)|(refine qs rfl (ql tab 2 rfl rfl rfl rfl rfl rfl ?_)))
  have h4c:=h4.mono hm
  refine TO.step rfl (OT.index tab rTree 1 h4c rfl rfl rfl rfl rfl (by first | rfl | omega | (simp only;omega)) rfl hyi ?_)
  rintro b7 i7 h7 hr7 hA7
  (refine TO.step rfl (OT.loadA0 tab hA7 rfl rfl rfl rfl rfl ?_))
  skip
  refine TO.step rfl (OT.call rfl rfl rfl rfl rfl rfl goes46 ((py _ _ bd q s _ h7 (hT.mono hm) hB (rTree_iff.1 hr7) (by first | omega | (simp only [List.length_append];omega))).x ?_));
  rintro _ m1 _ ⟨hm1,s,q,rfl,hB⟩
  replace hm:=Mem.le_trans hm hm1
  clear hm1 h4c hr7 hA7
  repeat ((first|refine q3 ?_|refine q4 tab rfl rfl ?_|refine q5 ?_|refine q6 ?_))
  refine TO.step rfl (OT.litR tab rStr (hs:=[[41]]) (l:=[[41]]) ⟨rfl,trivial⟩ rfl rfl rfl rfl rfl (by decide) (fun sl ma hma hsl _ _ => ?_))
  replace hm:=Mem.le_trans hm hma
  replace hB:=hB.mono hma
  skip
  refine TO.step rfl (OT.call rfl rfl rfl rfl rfl rfl goes67 ((put_law _ _ bd q s _ hB sl [Pt.mk [41]] hsl (by first | omega | (simp only [List.length_append];omega))).x ?_));
  rintro _ m1 _ ⟨hm1,s,q,rfl,hB⟩
  replace hm:=Mem.le_trans hm hm1
  clear hm1 hma hsl
  repeat (first|refine q5 ?_|refine q7 ?_)
  refine retQ_n rfl (by repeat (first|exact List.Sublist.refl _|refine List.Sublist.cons_cons _ ?_|refine List.Sublist.cons _ ?_)) ⟨hm,s,q,rfl,hB.cast ?_⟩
  rw [et];try simp only [putT_app,List.append_assoc]
 exfalso
 have h48' : 48 ≤ hk:=h48
 unfold exprS at he
 simp only [Tree.kind] at he
 have n1 : ¬ hk=40:=by omega
 have n2 : ¬ hk=41:=by omega
 have n3 : ¬ hk=42:=by omega
 have n4 : ¬ hk=43:=by omega
 have n5 : ¬ hk=44:=by omega
 have n6 : ¬ hk=45:=by omega
 have n7 : ¬ hk=46:=by omega
 have n8 : ¬ hk=47:=by omega
 simp [*] at he
end
end Go.Sep


/- PtExW -/
set_option linter.unusedVariables false
set_option linter.unusedSimpArgs false
namespace Go.Sep
open Go.Proofs
attribute [local irreducible] TC TO OT TCallX TCall DO DOt thenQ blockQ retQ At
section
variable {Tb : Mem→Prop}
set_option maxHeartbeats 6400000 in
theorem expr_w (hTb : TbOk Tb) (hI : ∀ (m : Mem) (L : List Item) (n : Int),Tb m→0 ≤ n→n < 9223372036854775808→TCall Tryz.prog 86 ⟨[.int .i64 n]⟩ m L (Made m L fun r _=>r=strV (Pt.digN n.toNat)))
  (a : Tree) (ih : ∀ k ∈ a.kids,PT Tb k) (hnum : Pt.numB2 a=true) (he : exprS lim a=true) : Pw Tb 46 a:=by
 have hmore:=more_w hTb a ih hnum he
 intro m L bd q s x0 h hT0 hB hr hl
 obtain ⟨h1,h2,h3,h4⟩:=hr
 have hlen:=h4.len
 have hsm:=h4.small rfl
 have hm:=Mem.le_refl m
 have hT : TbM Tb m:=⟨fun h=>hTb.mono hT0 h⟩
 obtain ⟨k,n0,u0,ks⟩:=a
 obtain ⟨hk,hn,hu,hks⟩:=h
 simp only [Tree.kind,Tree.name,Tree.num,Tree.kids] at h1 h2 h3 h4 hlen hsm ih
 subst h1 h2 h3
 have hE : ∀ x ∈ ks,lim.expr x=true→Pw Tb 46 x:=fun x hx h=>(ih x hx).expr (Pt.num_kid hnum (by simpa [Tree.kids] using hx)) h
 by_cases e : hk=40
 ·subst e
  have hf : (bareB (.mk 40 hn hu ks) (decide (0 ≤ hu)) false true && kidsR [] none ks)=true:=he
  rw [Bool.and_eq_true] at hf
  have hu0:=of_decide_eq_true (Pt.bare_f hf.1).1
  have hu1:=Pt.num_int hnum
  have et : Pt.toks (.mk 40 hn hu ks)=[⟨2,[],hu⟩]:=by rw [Pt.toks_eq];rfl
  rw [et] at hl
  try simp only [putT_app,List.length_append] at hl
  unfold TCall
  refine TCallX.enter Tryz.func46 rfl 104 rfl ?_
  repeat (first|refine q1 ?_|refine q3 ?_)
  refine TO.step rfl (OT.box rfl rfl rfl rfl rfl (fun b => ?_))
  refine TO.perm pq3 ?_
  repeat (first|(first|refine q1 ?_|refine q2 ?_|refine q3 ?_|refine q4 tab rfl rfl ?_|refine q5 ?_|refine q6 ?_|refine q16 rfl ?_)|(refine qs rfl (ql tab 2 rfl rfl rfl rfl rfl rfl ?_)))
  refine TO.step rfl (OT.call rfl rfl rfl rfl rfl rfl goes86 ((hI _ _ hu (hT.mono hm) hu0 hu1).x ?_));
  rintro _ m1 _ ⟨hm1,rfl,rfl⟩
  replace hm:=Mem.le_trans hm hm1
  replace hB:=hB.mono hm1
  skip
  refine TO.step rfl (OT.litR tab rStr (hs:=[Pt.digN hu.toNat]) (l:=[Pt.digN hu.toNat]) ⟨rfl,trivial⟩ rfl rfl rfl rfl rfl (by decide) (fun sl ma hma hsl _ _ => ?_))
  replace hm:=Mem.le_trans hm hma
  replace hB:=hB.mono hma
  skip
  refine TO.step rfl (OT.call rfl rfl rfl rfl rfl rfl goes67 ((put_law _ _ bd q s _ hB sl [⟨2,[],hu⟩] hsl (by first | omega | (simp only [List.length_append];omega))).x ?_));
  rintro _ m1 _ ⟨hm1,s,q,rfl,hB⟩
  replace hm:=Mem.le_trans hm hm1
  clear hm1 hma hsl
  repeat (first|refine q5 ?_|refine q7 ?_)
  refine retQ_n rfl (by repeat (first|exact List.Sublist.refl _|refine List.Sublist.cons_cons _ ?_|refine List.Sublist.cons _ ?_)) ⟨hm,s,q,rfl,hB.cast ?_⟩
  rw [et];try simp only [putT_app,List.append_assoc]
 by_cases e : hk=41
 ·subst e
  have hf : (bareB (.mk 41 hn hu ks) (decide ((hn.length : Int) ≤ 1024)) true false && kidsR [] none ks)=true:=he
  rw [Bool.and_eq_true] at hf
  have hl1:=of_decide_eq_true (Pt.bare_f hf.1).1
  have et : Pt.toks (.mk 41 hn hu ks)=[⟨3,hn,0⟩]:=by rw [Pt.toks_eq];rfl
  rw [et] at hl
  try simp only [putT_app,List.length_append] at hl
  unfold TCall
  refine TCallX.enter Tryz.func46 rfl 104 rfl ?_
  repeat (first|refine q1 ?_|refine q3 ?_)
  refine TO.step rfl (OT.box rfl rfl rfl rfl rfl (fun b => ?_))
  refine TO.perm pq3 ?_
  repeat (first|(first|refine q1 ?_|refine q2 ?_|refine q3 ?_|refine q4 tab rfl rfl ?_|refine q5 ?_|refine q6 ?_|refine q16 rfl ?_|refine q17 rfl ?_)|(refine qs rfl (ql tab 2 rfl rfl rfl rfl rfl rfl ?_)))
  refine TO.step rfl (OT.call rfl rfl rfl rfl rfl rfl goes87 ((quote_law _ _ hn (by omega)).x ?_));
  rintro _ _ _ ⟨rfl,rfl,rfl⟩
  skip
  refine TO.step rfl (OT.litR tab rStr (hs:=[quoteD hn]) (l:=[quoteD hn]) ⟨rfl,trivial⟩ rfl rfl rfl rfl rfl (by decide) (fun sl ma hma hsl _ _ => ?_))
  replace hm:=Mem.le_trans hm hma
  replace hB:=hB.mono hma
  skip
  refine TO.step rfl (OT.call rfl rfl rfl rfl rfl rfl goes67 ((put_law _ _ bd q s _ hB sl [⟨3,hn,0⟩] hsl (by first | omega | (simp only [List.length_append];omega))).x ?_));
  rintro _ m1 _ ⟨hm1,s,q,rfl,hB⟩
  replace hm:=Mem.le_trans hm hm1
  clear hm1 hma hsl
  repeat (first|refine q5 ?_|refine q7 ?_)
  refine retQ_n rfl (by repeat (first|exact List.Sublist.refl _|refine List.Sublist.cons_cons _ ?_|refine List.Sublist.cons _ ?_)) ⟨hm,s,q,rfl,hB.cast ?_⟩
  rw [et];try simp only [putT_app,List.append_assoc]
 by_cases e : hk=42
 ·subst e
  have hf : (bareB (.mk 42 hn hu ks) (decide (hu / 2=0)) false true && kidsR [] none ks)=true:=he
  rw [Bool.and_eq_true] at hf
  have hu2:=of_decide_eq_true (Pt.bare_f hf.1).1
  have hu3 : hu=0 ∨ hu=1:=by omega
  rcases hu3 with rfl | rfl
  ·skip
   have et : Pt.toks (.mk 42 hn 0 ks)=[Pt.wd [102,97,108,115,101]]:=by rw [Pt.toks_eq];rfl
   rw [et] at hl
   try simp only [putT_app,List.length_append] at hl
   unfold TCall
   refine TCallX.enter Tryz.func46 rfl 104 rfl ?_
   repeat (first|refine q1 ?_|refine q3 ?_)
   refine TO.step rfl (OT.box rfl rfl rfl rfl rfl (fun b => ?_))
   refine TO.perm pq3 ?_
   repeat (first|(first|refine q1 ?_|refine q2 ?_|refine q3 ?_|refine q4 tab rfl rfl ?_|refine q5 ?_|refine q6 ?_|refine q16 rfl ?_|refine q17 rfl ?_)|(refine qs rfl (ql tab 2 rfl rfl rfl rfl rfl rfl ?_)))
   refine TO.step rfl (OT.litR tab rStr (hs:=[[102,97,108,115,101],[116,114,117,101]]) (l:=[[102,97,108,115,101],[116,114,117,101]]) ⟨rfl,rfl,trivial⟩ rfl rfl rfl rfl rfl (by decide) (fun sl0 ma hma hsl0 _ _ => ?_))
   replace hm:=Mem.le_trans hm hma
   replace hB:=hB.mono hma
   repeat (first|(refine q4 tab rfl rfl ?_)|(refine qs rfl (ql tab 2 rfl rfl rfl rfl rfl rfl ?_)))
   have hbi : ([[102,97,108,115,101],[116,114,117,101]] : List Str)[0]? = some [102,97,108,115,101]:=rfl
   refine TO.step rfl (OT.index tab rStr 0 hsl0 rfl rfl rfl rfl rfl (by first | rfl | omega | (simp only;omega)) rfl hbi ?_)
   rintro b7 i7 v7 hv7 hA7
   obtain rfl : v7=[102,97,108,115,101]:=hv7
   (refine TO.step rfl (OT.loadA0 tab hA7 rfl rfl rfl rfl rfl ?_))
   skip
   refine TO.step rfl (OT.litR tab rStr (hs:=[[102,97,108,115,101]]) (l:=[[102,97,108,115,101]]) ⟨rfl,trivial⟩ rfl rfl rfl rfl rfl (by decide) (fun sl ma hma hsl _ _ => ?_))
   replace hm:=Mem.le_trans hm hma
   replace hB:=hB.mono hma
   skip
   refine TO.step rfl (OT.call rfl rfl rfl rfl rfl rfl goes67 ((put_law _ _ bd q s _ hB sl [Pt.wd [102,97,108,115,101]] hsl (by first | omega | (simp only [List.length_append];omega))).x ?_));
   rintro _ m1 _ ⟨hm1,s,q,rfl,hB⟩
   replace hm:=Mem.le_trans hm hm1
   clear hm1 hma hsl
   repeat (first|refine q5 ?_|refine q7 ?_)
   refine retQ_n rfl (by repeat (first|exact List.Sublist.refl _|refine List.Sublist.cons_cons _ ?_|refine List.Sublist.cons _ ?_)) ⟨hm,s,q,rfl,hB.cast ?_⟩
   rw [et];try simp only [putT_app,List.append_assoc]
  ·skip
   have et : Pt.toks (.mk 42 hn 1 ks)=[Pt.wd [116,114,117,101]]:=by rw [Pt.toks_eq];rfl
   rw [et] at hl
   try simp only [putT_app,List.length_append] at hl
   unfold TCall
   refine TCallX.enter Tryz.func46 rfl 104 rfl ?_
   repeat (first|refine q1 ?_|refine q3 ?_)
   refine TO.step rfl (OT.box rfl rfl rfl rfl rfl (fun b => ?_))
   refine TO.perm pq3 ?_
   repeat (first|(first|refine q1 ?_|refine q2 ?_|refine q3 ?_|refine q4 tab rfl rfl ?_|refine q5 ?_|refine q6 ?_|refine q16 rfl ?_|refine q17 rfl ?_)|(refine qs rfl (ql tab 2 rfl rfl rfl rfl rfl rfl ?_)))
   refine TO.step rfl (OT.litR tab rStr (hs:=[[102,97,108,115,101],[116,114,117,101]]) (l:=[[102,97,108,115,101],[116,114,117,101]]) ⟨rfl,rfl,trivial⟩ rfl rfl rfl rfl rfl (by decide) (fun sl0 ma hma hsl0 _ _ => ?_))
   replace hm:=Mem.le_trans hm hma
   replace hB:=hB.mono hma
   repeat (first|(refine q4 tab rfl rfl ?_)|(refine qs rfl (ql tab 2 rfl rfl rfl rfl rfl rfl ?_)))
   have hbi : ([[102,97,108,115,101],[116,114,117,101]] : List Str)[1]? = some [116,114,117,101]:=rfl
   refine TO.step rfl (OT.index tab rStr 1 hsl0 rfl rfl rfl rfl rfl (by first | rfl | omega | (simp only;omega)) rfl hbi ?_)
   rintro b7 i7 v7 hv7 hA7
   obtain rfl : v7=[116,114,117,101]:=hv7
   (refine TO.step rfl (OT.loadA0 tab hA7 rfl rfl rfl rfl rfl ?_))
   skip
   refine TO.step rfl (OT.litR tab rStr (hs:=[[116,114,117,101]]) (l:=[[116,114,117,101]]) ⟨rfl,trivial⟩ rfl rfl rfl rfl rfl (by decide) (fun sl ma hma hsl _ _ => ?_))
   replace hm:=Mem.le_trans hm hma
   replace hB:=hB.mono hma
   skip
   refine TO.step rfl (OT.call rfl rfl rfl rfl rfl rfl goes67 ((put_law _ _ bd q s _ hB sl [Pt.wd [116,114,117,101]] hsl (by first | omega | (simp only [List.length_append];omega))).x ?_));
   rintro _ m1 _ ⟨hm1,s,q,rfl,hB⟩
   replace hm:=Mem.le_trans hm hm1
   clear hm1 hma hsl
   repeat (first|refine q5 ?_|refine q7 ?_)
   refine retQ_n rfl (by repeat (first|exact List.Sublist.refl _|refine List.Sublist.cons_cons _ ?_|refine List.Sublist.cons _ ?_)) ⟨hm,s,q,rfl,hB.cast ?_⟩
   rw [et];try simp only [putT_app,List.append_assoc]
 by_cases e : hk=43
 ·subst e
  have et : Pt.toks (.mk 43 hn hu ks)=[Pt.wd [110,105,108]]:=by rw [Pt.toks_eq];rfl
  rw [et] at hl
  try simp only [putT_app,List.length_append] at hl
  unfold TCall
  refine TCallX.enter Tryz.func46 rfl 104 rfl ?_
  repeat (first|refine q1 ?_|refine q3 ?_)
  refine TO.step rfl (OT.box rfl rfl rfl rfl rfl (fun b => ?_))
  refine TO.perm pq3 ?_
  repeat (first|(first|refine q1 ?_|refine q2 ?_|refine q3 ?_|refine q4 tab rfl rfl ?_|refine q5 ?_|refine q6 ?_|refine q16 rfl ?_|refine q17 rfl ?_)|(refine qs rfl (ql tab 2 rfl rfl rfl rfl rfl rfl ?_)))
  refine TO.step rfl (OT.litR tab rStr (hs:=[[110,105,108]]) (l:=[[110,105,108]]) ⟨rfl,trivial⟩ rfl rfl rfl rfl rfl (by decide) (fun sl ma hma hsl _ _ => ?_))
  replace hm:=Mem.le_trans hm hma
  replace hB:=hB.mono hma
  skip
  refine TO.step rfl (OT.call rfl rfl rfl rfl rfl rfl goes67 ((put_law _ _ bd q s _ hB sl [Pt.wd [110,105,108]] hsl (by first | omega | (simp only [List.length_append];omega))).x ?_));
  rintro _ m1 _ ⟨hm1,s,q,rfl,hB⟩
  replace hm:=Mem.le_trans hm hm1
  clear hm1 hma hsl
  repeat (first|refine q5 ?_|refine q7 ?_)
  refine retQ_n rfl (by repeat (first|exact List.Sublist.refl _|refine List.Sublist.cons_cons _ ?_|refine List.Sublist.cons _ ?_)) ⟨hm,s,q,rfl,hB.cast ?_⟩
  rw [et];try simp only [putT_app,List.append_assoc]
 by_cases e : hk=44
 ·subst e
  have et : Pt.toks (.mk 44 hn hu ks)=[Pt.nm hn]:=by rw [Pt.toks_eq];rfl
  rw [et] at hl
  try simp only [putT_app,List.length_append] at hl
  unfold TCall
  refine TCallX.enter Tryz.func46 rfl 104 rfl ?_
  repeat (first|refine q1 ?_|refine q3 ?_)
  refine TO.step rfl (OT.box rfl rfl rfl rfl rfl (fun b => ?_))
  refine TO.perm pq3 ?_
  repeat (first|(first|refine q1 ?_|refine q2 ?_|refine q3 ?_|refine q4 tab rfl rfl ?_|refine q5 ?_|refine q6 ?_|refine q16 rfl ?_|refine q17 rfl ?_)|(refine qs rfl (ql tab 2 rfl rfl rfl rfl rfl rfl ?_)))
  refine TO.step rfl (OT.litR tab rStr (hs:=[hn]) (l:=[hn]) ⟨rfl,trivial⟩ rfl rfl rfl rfl rfl (by decide) (fun sl ma hma hsl _ _ => ?_))
  replace hm:=Mem.le_trans hm hma
  replace hB:=hB.mono hma
  skip
  refine TO.step rfl (OT.call rfl rfl rfl rfl rfl rfl goes67 ((put_law _ _ bd q s _ hB sl [Pt.nm hn] hsl (by first | omega | (simp only [List.length_append];omega))).x ?_));
  rintro _ m1 _ ⟨hm1,s,q,rfl,hB⟩
  replace hm:=Mem.le_trans hm hm1
  clear hm1 hma hsl
  repeat (first|refine q5 ?_|refine q7 ?_)
  refine retQ_n rfl (by repeat (first|exact List.Sublist.refl _|refine List.Sublist.cons_cons _ ?_|refine List.Sublist.cons _ ?_)) ⟨hm,s,q,rfl,hB.cast ?_⟩
  rw [et];try simp only [putT_app,List.append_assoc]
 by_cases e : hk=45
 ·subst e
  have hf : (ofB (.mk 45 hn hu ks) 45 && ks.all lim.expr)=true:=he
  rw [Bool.and_eq_true] at hf
  have hpr : ∀ k ∈ ks,Pw Tb 46 k:=fun k hk=>hE k hk (List.all_eq_true.1 hf.2 k hk)
  have et : Pt.toks (.mk 45 hn hu ks)=[Pt.mk [40],Pt.nm hn,Pt.mk [123]]++(Pt.commaJ (ks.map Pt.toks)++[Pt.mk [125],Pt.mk [41]]):=by rw [Pt.toks_eq];rfl
  rw [et] at hl
  try simp only [putT_app,List.length_append] at hl
  unfold TCall
  refine TCallX.enter Tryz.func46 rfl 104 rfl ?_
  repeat (first|refine q1 ?_|refine q3 ?_)
  refine TO.step rfl (OT.box rfl rfl rfl rfl rfl (fun b => ?_))
  refine TO.perm pq3 ?_
  repeat (first|(first|refine q1 ?_|refine q2 ?_|refine q3 ?_|refine q4 tab rfl rfl ?_|refine q5 ?_|refine q6 ?_|refine q16 rfl ?_|refine q17 rfl ?_)|(refine qs rfl (ql tab 2 rfl rfl rfl rfl rfl rfl ?_)))
  refine TO.step rfl (OT.litR tab rStr (hs:=[[40],hn,[123]]) (l:=[[40],hn,[123]]) ⟨rfl,rfl,rfl,trivial⟩ rfl rfl rfl rfl rfl (by decide) (fun sl ma hma hsl _ _ => ?_))
  replace hm:=Mem.le_trans hm hma
  replace hB:=hB.mono hma
  skip
  refine TO.step rfl (OT.call rfl rfl rfl rfl rfl rfl goes67 ((put_law _ _ bd q s _ hB sl [Pt.mk [40],Pt.nm hn,Pt.mk [123]] hsl (by first | omega | (simp only [List.length_append];omega))).x ?_));
  rintro _ m1 _ ⟨hm1,s,q,rfl,hB⟩
  replace hm:=Mem.le_trans hm hm1
  clear hm1 hma hsl
  repeat (first|(first|refine q1 ?_|refine q3 ?_|refine q4 tab rfl rfl ?_|refine q5 ?_|refine q6 ?_)|(refine qs rfl (ql tab 2 rfl rfl rfl rfl rfl rfl ?_)))
  have h4d:=h4.mono hm
  refine TO.step rfl (OT.call rfl rfl rfl rfl rfl rfl goes88 ((each_law (Cbk.of hTb hpr goes46 (hT.mono hm)) _ _ (Mem.le_refl _) q s _ hB hks h4d (by first | omega | (simp only [List.length_append];omega))).x ?_));
  rintro _ m1 _ ⟨hm1,s,q,rfl,hB⟩
  replace hm:=Mem.le_trans hm hm1
  repeat (first|refine q3 ?_|refine q4 tab rfl rfl ?_|refine q5 ?_|refine q6 ?_)
  refine TO.step rfl (OT.litR tab rStr (hs:=[[125],[41]]) (l:=[[125],[41]]) ⟨rfl,rfl,trivial⟩ rfl rfl rfl rfl rfl (by decide) (fun sl ma hma hsl _ _ => ?_))
  replace hm:=Mem.le_trans hm hma
  replace hB:=hB.mono hma
  skip
  refine TO.step rfl (OT.call rfl rfl rfl rfl rfl rfl goes67 ((put_law _ _ bd q s _ hB sl [Pt.mk [125],Pt.mk [41]] hsl (by first | omega | (simp only [List.length_append];omega))).x ?_));
  rintro _ m1 _ ⟨hm1,s,q,rfl,hB⟩
  replace hm:=Mem.le_trans hm hm1
  clear hm1 hma hsl
  repeat (first|refine q5 ?_|refine q7 ?_)
  refine retQ_n rfl (by repeat (first|exact List.Sublist.refl _|refine List.Sublist.cons_cons _ ?_|refine List.Sublist.cons _ ?_)) ⟨hm,s,q,rfl,hB.cast ?_⟩
  rw [et];try simp only [putT_app,List.append_assoc]
 by_cases e : hk=46
 ·subst e
  have hf : (bareB (.mk 46 hn hu ks) true false false && kidsR [Tree.isType] (some lim.expr) ks)=true:=he
  rw [Bool.and_eq_true] at hf
  obtain ⟨x,r,rfl,hx,hr⟩:=Pt.kidsS hf.2
  have px:=typ_w hTb x hx
  have hxi : (x :: r)[0]? = some x:=rfl
  have hpr : ∀ k ∈ r,Pw Tb 46 k:=fun k hk=>hE k (by simp [hk]) (hr k hk)
  have et : Pt.toks (.mk 46 hn hu (x :: r))=[Pt.mk [91],Pt.mk [93]]++(Pt.toks x++([Pt.mk [123]]++(Pt.commaJ (r.map Pt.toks)++[Pt.mk [125]]))):=by rw [Pt.toks_eq];rfl
  rw [et] at hl
  try simp only [putT_app,List.length_append] at hl
  unfold TCall
  refine TCallX.enter Tryz.func46 rfl 104 rfl ?_
  repeat (first|refine q1 ?_|refine q3 ?_)
  refine TO.step rfl (OT.box rfl rfl rfl rfl rfl (fun b => ?_))
  refine TO.perm pq3 ?_
  repeat (first|(first|refine q1 ?_|refine q2 ?_|refine q3 ?_|refine q4 tab rfl rfl ?_|refine q5 ?_|refine q6 ?_|refine q16 rfl ?_|refine q17 rfl ?_)|(refine qs rfl (ql tab 2 rfl rfl rfl rfl rfl rfl ?_)))
  refine TO.step rfl (OT.litR tab rStr (hs:=[[91],[93]]) (l:=[[91],[93]]) ⟨rfl,rfl,trivial⟩ rfl rfl rfl rfl rfl (by decide) (fun sl ma hma hsl _ _ => ?_))
  replace hm:=Mem.le_trans hm hma
  replace hB:=hB.mono hma
  skip
  refine TO.step rfl (OT.call rfl rfl rfl rfl rfl rfl goes67 ((put_law _ _ bd q s _ hB sl [Pt.mk [91],Pt.mk [93]] hsl (by first | omega | (simp only [List.length_append];omega))).x ?_));
  rintro _ m1 _ ⟨hm1,s,q,rfl,hB⟩
  replace hm:=Mem.le_trans hm hm1
  clear hm1 hma hsl
  repeat (first|(first|refine q1 ?_|refine q3 ?_|refine q4 tab rfl rfl ?_|refine q5 ?_|refine q6 ?_)|(refine qs rfl (ql tab 2 rfl rfl rfl rfl rfl rfl ?_)))
  have h4c:=h4.mono hm
  refine TO.step rfl (OT.index tab rTree 0 h4c rfl rfl rfl rfl rfl (by first | rfl | omega | (simp only;omega)) rfl hxi ?_)
  rintro b7 i7 h7 hr7 hA7
  (refine TO.step rfl (OT.loadA0 tab hA7 rfl rfl rfl rfl rfl ?_))
  skip
  refine TO.step rfl (OT.call rfl rfl rfl rfl rfl rfl goes65 ((px _ _ bd q s _ h7 (hT.mono hm) hB (rTree_iff.1 hr7) (by first | omega | (simp only [List.length_append];omega))).x ?_));
  rintro _ m1 _ ⟨hm1,s,q,rfl,hB⟩
  replace hm:=Mem.le_trans hm hm1
  clear hm1 h4c hr7 hA7
  repeat ((first|refine q1 ?_|refine q3 ?_|refine q4 tab rfl rfl ?_|refine q5 ?_|refine q6 ?_))
  refine TO.step rfl (OT.litR tab rStr (hs:=[[123]]) (l:=[[123]]) ⟨rfl,trivial⟩ rfl rfl rfl rfl rfl (by decide) (fun sl ma hma hsl _ _ => ?_))
  replace hm:=Mem.le_trans hm hma
  replace hB:=hB.mono hma
  skip
  refine TO.step rfl (OT.call rfl rfl rfl rfl rfl rfl goes67 ((put_law _ _ bd q s _ hB sl [Pt.mk [123]] hsl (by first | omega | (simp only [List.length_append];omega))).x ?_));
  rintro _ m1 _ ⟨hm1,s,q,rfl,hB⟩
  replace hm:=Mem.le_trans hm hm1
  clear hm1 hma hsl
  repeat (first|(first|refine q1 ?_|refine q3 ?_|refine q4 tab rfl rfl ?_|refine q5 ?_|refine q6 ?_)|(refine qs rfl (ql tab 2 rfl rfl rfl rfl rfl rfl ?_)))
  have h4d:=h4.mono hm
  refine TO.step rfl (OT.cut tab rTree 1 hks.len h4d rfl rfl rfl rfl rfl rfl rfl (.inr rfl) (.inl ⟨rfl,rfl⟩) (by simp only [List.length_cons] at hlen;omega) (by omega) (fun slr hslr => ?_))
  rw [List.take_of_length_le (by omega),List.drop_succ_cons,List.drop_zero] at hslr
  repeat (refine q4 tab rfl rfl ?_)
  refine TO.step rfl (OT.call rfl rfl rfl rfl rfl rfl goes88 ((each_law (Cbk.of hTb hpr goes46 (hT.mono hm)) _ _ (Mem.le_refl _) q s _ hB slr hslr (by first | omega | (simp only [List.length_append];omega))).x ?_));
  rintro _ m1 _ ⟨hm1,s,q,rfl,hB⟩
  replace hm:=Mem.le_trans hm hm1
  repeat (first|refine q3 ?_|refine q4 tab rfl rfl ?_|refine q5 ?_|refine q6 ?_)
  refine TO.step rfl (OT.litR tab rStr (hs:=[[125]]) (l:=[[125]]) ⟨rfl,trivial⟩ rfl rfl rfl rfl rfl (by decide) (fun sl ma hma hsl _ _ => ?_))
  replace hm:=Mem.le_trans hm hma
  replace hB:=hB.mono hma
  skip
  refine TO.step rfl (OT.call rfl rfl rfl rfl rfl rfl goes67 ((put_law _ _ bd q s _ hB sl [Pt.mk [125]] hsl (by first | omega | (simp only [List.length_append];omega))).x ?_));
  rintro _ m1 _ ⟨hm1,s,q,rfl,hB⟩
  replace hm:=Mem.le_trans hm hm1
  clear hm1 hma hsl
  repeat (first|refine q5 ?_|refine q7 ?_)
  refine retQ_n rfl (by repeat (first|exact List.Sublist.refl _|refine List.Sublist.cons_cons _ ?_|refine List.Sublist.cons _ ?_)) ⟨hm,s,q,rfl,hB.cast ?_⟩
  rw [et];try simp only [putT_app,List.append_assoc]
 by_cases e : hk=47
 ·subst e
  have hf : (bareB (.mk 47 hn hu ks) true false false && kidsR [Tree.isSig,lim.block] none ks)=true:=he
  rw [Bool.and_eq_true] at hf
  obtain ⟨x,y,rfl,hx,hy⟩:=Pt.kids2 hf.2
  have px:=sig_w hTb x hx
  have py:=(ih y (by simp)).block (Pt.num_kid hnum (by simp [Tree.kids])) hy
  have hxi : [x,y][0]? = some x:=rfl
  have hyi : [x,y][1]? = some y:=rfl
  have et : Pt.toks (.mk 47 hn hu [x,y])=[Pt.wd [102,117,110,99]]++(Pt.toks x++Pt.toks y):=by rw [Pt.toks_eq];rfl
  rw [et] at hl
  try simp only [putT_app,List.length_append] at hl
  unfold TCall
  refine TCallX.enter Tryz.func46 rfl 104 rfl ?_
  repeat (first|refine q1 ?_|refine q3 ?_)
  refine TO.step rfl (OT.box rfl rfl rfl rfl rfl (fun b => ?_))
  refine TO.perm pq3 ?_
  repeat (first|(first|refine q1 ?_|refine q2 ?_|refine q3 ?_|refine q4 tab rfl rfl ?_|refine q5 ?_|refine q6 ?_|refine q16 rfl ?_|refine q17 rfl ?_)|(refine qs rfl (ql tab 2 rfl rfl rfl rfl rfl rfl ?_)))
  refine TO.step rfl (OT.litR tab rStr (hs:=[[102,117,110,99]]) (l:=[[102,117,110,99]]) ⟨rfl,trivial⟩ rfl rfl rfl rfl rfl (by decide) (fun sl ma hma hsl _ _ => ?_))
  replace hm:=Mem.le_trans hm hma
  replace hB:=hB.mono hma
  skip
  refine TO.step rfl (OT.call rfl rfl rfl rfl rfl rfl goes67 ((put_law _ _ bd q s _ hB sl [Pt.wd [102,117,110,99]] hsl (by first | omega | (simp only [List.length_append];omega))).x ?_));
  rintro _ m1 _ ⟨hm1,s,q,rfl,hB⟩
  replace hm:=Mem.le_trans hm hm1
  clear hm1 hma hsl
  repeat (first|(first|refine q1 ?_|refine q3 ?_|refine q4 tab rfl rfl ?_|refine q5 ?_|refine q6 ?_)|(refine qs rfl (ql tab 2 rfl rfl rfl rfl rfl rfl ?_)))
  have h4c:=h4.mono hm
  refine TO.step rfl (OT.index tab rTree 0 h4c rfl rfl rfl rfl rfl (by first | rfl | omega | (simp only;omega)) rfl hxi ?_)
  rintro b7 i7 h7 hr7 hA7
  (refine TO.step rfl (OT.loadA0 tab hA7 rfl rfl rfl rfl rfl ?_))
  skip
  refine TO.step rfl (OT.call rfl rfl rfl rfl rfl rfl goes66 ((px _ _ bd q s _ h7 (hT.mono hm) hB (rTree_iff.1 hr7) (by first | omega | (simp only [List.length_append];omega))).x ?_));
  rintro _ m1 _ ⟨hm1,s,q,rfl,hB⟩
  replace hm:=Mem.le_trans hm hm1
  clear hm1 h4c hr7 hA7
  repeat (first|(first|refine q3 ?_|refine q4 tab rfl rfl ?_|refine q5 ?_|refine q6 ?_)|(refine qs rfl (ql tab 2 rfl rfl rfl rfl rfl rfl ?_)))
  have h4c:=h4.mono hm
  refine TO.step rfl (OT.index tab rTree 1 h4c rfl rfl rfl rfl rfl (by first | rfl | omega | (simp only;omega)) rfl hyi ?_)
  rintro b7 i7 h7 hr7 hA7
  (refine TO.step rfl (OT.loadA0 tab hA7 rfl rfl rfl rfl rfl ?_))
  skip
  refine TO.step rfl (OT.call rfl rfl rfl rfl rfl rfl goes68 ((py _ _ bd q s _ h7 (hT.mono hm) hB (rTree_iff.1 hr7) (by first | omega | (simp only [List.length_append];omega))).x ?_));
  rintro _ m1 _ ⟨hm1,s,q,rfl,hB⟩
  replace hm:=Mem.le_trans hm hm1
  clear hm1 h4c hr7 hA7
  repeat (first|refine q5 ?_|refine q7 ?_)
  refine retQ_n rfl (by repeat (first|exact List.Sublist.refl _|refine List.Sublist.cons_cons _ ?_|refine List.Sublist.cons _ ?_)) ⟨hm,s,q,rfl,hB.cast ?_⟩
  rw [et];try simp only [putT_app,List.append_assoc]
 have hk48 : 48 ≤ hk:=by
  unfold exprS at he
  simp only [Tree.kind] at he
  by_cases h2 : 48 ≤ hk
  ·exact h2
  exfalso
  have n1 : ¬ hk=48:=by omega
  have n2 : ¬ hk=49:=by omega
  have n3 : ¬ hk=50:=by omega
  have n4 : ¬ hk=51:=by omega
  have n5 : ¬ hk=52:=by omega
  have n6 : ¬ hk=53:=by omega
  simp [*] at he
 unfold TCall
 refine TCallX.enter Tryz.func46 rfl 104 rfl ?_
 repeat (first|refine q1 ?_|refine q3 ?_)
 refine TO.step rfl (OT.box rfl rfl rfl rfl rfl (fun b => ?_))
 refine TO.perm pq3 ?_
 repeat (first|(first|refine q1 ?_|refine q2 ?_|refine q3 ?_|refine q4 tab rfl rfl ?_|refine q5 ?_|refine q6 ?_)|(refine qs rfl (ql tab 2 rfl rfl rfl rfl rfl rfl ?_)))
 refine TC.condP rfl (fun c40 => ?_) (fun c40 => ?_)
 ·exact absurd c40 (show ¬ hk=40 by omega)
 repeat ((first|refine q1 ?_|refine q3 ?_|refine q4 tab rfl rfl ?_|refine q5 ?_|refine q6 ?_))
 refine TC.condP rfl (fun c41 => ?_) (fun c41 => ?_)
 ·exact absurd c41 (show ¬ hk=41 by omega)
 repeat ((first|refine q1 ?_|refine q3 ?_|refine q4 tab rfl rfl ?_|refine q5 ?_|refine q6 ?_))
 refine TC.condP rfl (fun c42 => ?_) (fun c42 => ?_)
 ·exact absurd c42 (show ¬ hk=42 by omega)
 repeat ((first|refine q1 ?_|refine q3 ?_|refine q4 tab rfl rfl ?_|refine q5 ?_|refine q6 ?_))
 refine TC.condP rfl (fun c43 => ?_) (fun c43 => ?_)
 ·exact absurd c43 (show ¬ hk=43 by omega)
 repeat ((first|refine q1 ?_|refine q3 ?_|refine q4 tab rfl rfl ?_|refine q5 ?_|refine q6 ?_))
 refine TC.condP rfl (fun c44 => ?_) (fun c44 => ?_)
 ·exact absurd c44 (show ¬ hk=44 by omega)
 repeat ((first|refine q1 ?_|refine q3 ?_|refine q4 tab rfl rfl ?_|refine q5 ?_|refine q6 ?_))
 refine TC.condP rfl (fun c45 => ?_) (fun c45 => ?_)
 ·exact absurd c45 (show ¬ hk=45 by omega)
 repeat ((first|refine q1 ?_|refine q3 ?_|refine q4 tab rfl rfl ?_|refine q5 ?_|refine q6 ?_))
 refine TC.condP rfl (fun c46 => ?_) (fun c46 => ?_)
 ·exact absurd c46 (show ¬ hk=46 by omega)
 repeat ((first|refine q1 ?_|refine q3 ?_|refine q4 tab rfl rfl ?_|refine q5 ?_|refine q6 ?_))
 refine TC.condP rfl (fun c47 => ?_) (fun c47 => ?_)
 ·exact absurd c47 (show ¬ hk=47 by omega)
 repeat (first|(first|refine q3 ?_|refine q4 tab rfl rfl ?_)|(refine qs rfl (qz tab 2 rfl rfl rfl rfl rfl rfl ?_)))
 refine TO.step rfl (OT.call rfl rfl rfl rfl rfl rfl goes89 ((hmore hk48 _ _ bd q s _ ⟨hk,hn,hu,hks⟩ hT0 hB ⟨rfl,rfl,rfl,h4⟩ hl).x ?_));
 rintro _ m1 _ ⟨hm1,s,q,rfl,hB⟩
 repeat (first|refine q5 ?_|refine q7 ?_)
 exact retQ_n rfl (by repeat (first|exact List.Sublist.refl _|refine List.Sublist.cons_cons _ ?_|refine List.Sublist.cons _ ?_)) ⟨hm1,s,q,rfl,hB⟩
end
end Go.Sep


/- PtBlW -/
set_option linter.unusedVariables false
set_option linter.unusedSimpArgs false
namespace Go.Sep
open Go.Proofs
attribute [local irreducible] TC TO OT TCallX TCall DO DOt thenQ blockQ retQ At
theorem flat_cut (ks : List Tree) (i : Nat) (h : i < ks.length) : (ks.map Pt.toks).flatten=((ks.take i).map Pt.toks).flatten++(Pt.toks ks[i]++((ks.drop (i + 1)).map Pt.toks).flatten):=by
 have e : ks=ks.take i++(ks[i] :: ks.drop (i + 1)):=by rw [← List.drop_eq_getElem_cons h,List.take_append_drop]
 conv=>lhs;rw [e]
 rw [List.map_append,List.flatten_append,List.map_cons,List.flatten_cons]
theorem flat_next (ks : List Tree) (i : Nat) (h : i < ks.length) : ((ks.take (i + 1)).map Pt.toks).flatten=((ks.take i).map Pt.toks).flatten++Pt.toks ks[i]:=by
 rw [List.take_succ_eq_append_getElem h,List.map_append,List.flatten_append];simp
section
variable {Tb : Mem→Prop}
def simT (a : Tree) : List Ps.Tk:=(Pt.toks a).dropLast
set_option maxHeartbeats 3200000 in
theorem block_w (hTb : TbOk Tb) (a : Tree) (ih : ∀ k ∈ a.kids,PT Tb k) (hnum : Pt.numB2 a=true) (hbl : lim.block a=true) : Pw Tb 68 a:=by
 obtain ⟨f1,f2,f3,f4⟩:=Pt.block_f hbl
 intro m L bd q s x0 h hT0 hB hr hl
 obtain ⟨h1,h2,h3,h4⟩:=hr
 have hlen:=h4.len
 have hsm:=h4.small rfl
 have hm:=Mem.le_refl m
 have hT : TbM Tb m:=⟨fun h=>hTb.mono hT0 h⟩
 obtain ⟨k,n0,u0,ks⟩:=a
 obtain ⟨hk,hn,hu,hks⟩:=h
 simp only [Tree.kind,Tree.name,Tree.num,Tree.kids] at h1 h2 h3 h4 hlen hsm ih
 subst h1 h2 h3
 obtain rfl : hk=20:=f1
 have hS : ∀ x ∈ ks,Pw Tb 120 x:=fun x hx=>(ih x hx).stmt (Pt.num_kid hnum (by simpa [Tree.kids] using hx)) (List.all_eq_true.1 f4 x hx)
 have et : Pt.toks (.mk 20 hn hu ks)=[Pt.mk [123]]++((ks.map Pt.toks).flatten++[Pt.mk [125]]):=by rw [Pt.toks_eq];rfl
 rw [et] at hl
 try simp only [putT_app,List.length_append] at hl
 unfold TCall
 refine TCallX.enter Tryz.func68 rfl 23 rfl ?_
 repeat (first|refine q1 ?_|refine q3 ?_)
 refine TO.step rfl (OT.box rfl rfl rfl rfl rfl (fun b => ?_))
 refine TO.perm pq3 ?_
 repeat ((first|refine q1 ?_|refine q3 ?_|refine q4 tab rfl rfl ?_|refine q5 ?_|refine q6 ?_))
 refine TO.step rfl (OT.litR tab rStr (hs:=[[123]]) (l:=[[123]]) ⟨rfl,trivial⟩ rfl rfl rfl rfl rfl (by decide) (fun sl ma hma hsl _ _ => ?_))
 replace hm:=Mem.le_trans hm hma
 replace hB:=hB.mono hma
 skip
 refine TO.step rfl (OT.call rfl rfl rfl rfl rfl rfl goes67 ((put_law _ _ bd q s _ hB sl [Pt.mk [123]] hsl (by first | omega | (simp only [List.length_append];omega))).x ?_));
 rintro _ m1 _ ⟨hm1,s,q,rfl,hB⟩
 replace hm:=Mem.le_trans hm hm1
 clear hm1 hma hsl
 repeat (first|(first|refine q1 ?_|refine q2 ?_|refine q3 ?_|refine q4 tab rfl rfl ?_|refine q5 ?_|refine q6 ?_)|(refine qs rfl (ql tab 2 rfl rfl rfl rfl rfl rfl ?_)))
 refine TC.loopK (ι:=PS) [0,3,10,11] rfl (fun g=>[(12, .int .i64 (g.i : Int))]) (fun g=>g.m) (fun g=>bdL bd g.q g.s (.cells b 0 (treeC ⟨20,hn,hu,hks⟩) :: L)) (fun g=>m ≤ g.m∧g.i ≤ ks.length∧BOk g.m bd g.q g.s (x0++putT [Pt.mk [123]]++putT ((ks.take g.i).map Pt.toks).flatten)) (fun g=>ks.length - g.i) ⟨m1,q,s,0⟩ (by repeat (first|exact trivial|refine And.intro rfl ?_)) rfl (by repeat (exact List.Sublist.refl _)) ⟨hm,Nat.zero_le _,hB.cast (by simp [putT_nil])⟩ ?_
 rintro ⟨m1,q,s,i⟩ ⟨hm,hi,hB⟩
 simp only at hm hi hB
 repeat (first|refine q1 ?_|refine q3 ?_|refine q4 tab rfl rfl ?_|refine q5 ?_|refine q6 ?_)
 refine TC.condP rfl (fun h1 => ?_) (fun h1 => ?_)
 ·simp only at h1
  have hlt : i < ks.length:=by omega
  have hxi : ks[i]? = some ks[i]:=List.getElem?_eq_getElem hlt
  have hc:=congrArg (fun l=>(putT l).length) (flat_cut ks i hlt)
  simp only [putT_app,List.length_append] at hc
  have h4c:=h4.mono hm
  repeat (first|refine q1 ?_|refine q2 ?_|refine q3 ?_|refine q6 ?_|refine q13 ?_)
  refine TO.step rfl (OT.index tab rTree i h4c rfl rfl rfl rfl rfl (by first | rfl | omega | (simp only;omega)) rfl hxi ?_)
  rintro b7 i7 h7 hr7 hA7
  (refine TO.step rfl (OT.loadA0 tab hA7 rfl rfl rfl rfl rfl ?_))
  refine TO.step rfl (OT.alloc tab rfl rfl rfl rfl (fun b5 => ?_))
  skip
  (refine TO.step rfl (OT.storeL0 tab 0 rfl rfl rfl rfl rfl rfl rfl rfl ?_))
  refine TO.perm pq3 ?_
  repeat (first|refine q3 ?_|refine q4 tab rfl rfl ?_|refine q5 ?_|refine q6 ?_)
  (refine qs rfl (qz tab 2 rfl rfl rfl rfl rfl rfl ?_))
  skip
  refine TO.step rfl (OT.call rfl rfl rfl rfl rfl rfl goes120 ((hS ks[i] (List.getElem_mem hlt) _ _ bd q s _ h7 (hT.mono hm) hB (rTree_iff.1 hr7) (by simp only [List.length_append];omega)).x ?_));
  rintro _ m2 _ ⟨hm2,s,q,rfl,hB⟩
  repeat (first|refine q3 ?_|refine q5 ?_|refine q6 ?_|refine q7 ?_)
  refine TO.step rfl (OT.arith (r':=((i + 1 : Nat) : Int)) rfl rfl rfl rfl rfl rfl rfl (by omega) ?_)
  repeat (first|refine q4 tab rfl rfl ?_|refine q5 ?_|refine q6 ?_)
  refine ⟨⟨m2,q,s,i + 1⟩,(by repeat (first|exact trivial|refine And.intro rfl ?_)),(by repeat (first|exact trivial|refine And.intro rfl ?_)),rfl,rfl,(by repeat (first|exact List.Sublist.refl _|refine List.Sublist.cons_cons _ ?_|refine List.Sublist.cons _ ?_)),⟨Mem.le_trans hm hm2,by simp only;omega,hB.cast ?_⟩,by simp only;omega⟩
  rw [flat_next ks i hlt,putT_app,List.append_assoc,List.append_assoc]
 ·simp only at h1
  rw [List.take_of_length_le (by omega)] at hB
  repeat (first|refine q3 ?_|refine q4 tab rfl rfl ?_|refine q6 ?_|refine q10 ?_|refine q11 ?_|refine q14 ?_)
  refine TO.step rfl (OT.litR tab rStr (hs:=[[125]]) (l:=[[125]]) ⟨rfl,trivial⟩ rfl rfl rfl rfl rfl (by decide) (fun sl ma hma hsl _ _ => ?_))
  replace hm:=Mem.le_trans hm hma
  replace hB:=hB.mono hma
  skip
  refine TO.step rfl (OT.call rfl rfl rfl rfl rfl rfl goes67 ((put_law _ _ bd q s _ hB sl [Pt.mk [125]] hsl (by first | omega | (simp only [List.length_append];omega))).x ?_));
  rintro _ m1 _ ⟨hm1,s,q,rfl,hB⟩
  replace hm:=Mem.le_trans hm hm1
  clear hm1 hma hsl
  repeat (refine q5 ?_)
  refine retQ_n rfl (by repeat (first|exact List.Sublist.refl _|refine List.Sublist.cons_cons _ ?_|refine List.Sublist.cons _ ?_)) ⟨hm,s,q,rfl,hB.cast ?_⟩
  rw [et];try simp only [putT_app,List.append_assoc]
end
end Go.Sep

