/-
  Part 1 of the proof: library, walks and plain laws.
-/
import Derived.OrdersHeld
import Derived.Test.YtiknfjdjbhbjhaaGreatDoorB0
set_option linter.unusedVariables false
set_option linter.unusedSimpArgs false
namespace Go.Sep
section any
variable {P : Program} {ops : Array Oper} {Q : Exit→Act→World→Prop} {md : Region.Mode} {S : World→Prop} {T : Nat→Bool}
def Untouched (T : Nat→Bool) (listed : Array Bool) : Prop := ∀ t,T t=true→listed.getD t true=false
theorem Untouched.unset {T : Nat→Bool} {listed : Array Bool} {i : Nat} (hi : T i=false) (h : Untouched T (listed.setIfInBounds i true)) : Untouched T listed:=fun t ht=>by
 have hne : i ≠ t:=fun e=>by subst e;rw [hi] at ht;cases ht
 have:=h t ht
 rwa [getD_set_ne true hne] at this
theorem Untouched.set {T : Nat→Bool} {listed : Array Bool} {i : Nat} (hi : T i=false) (h : Untouched T listed) : Untouched T (listed.setIfInBounds i true):=fun t ht=>by
 have hne : i ≠ t:=fun e=>by subst e;rw [hi] at ht;cases ht
 rw [getD_set_ne true hne]
 exact h t ht
def wpAnyT (P : Program) (md : Region.Mode) (ops : Array Oper) (Q : Exit→Act→World→Prop) (T : Nat→Bool) (S : World→Prop) : Nat→Array Bool→Act→World→Prop
 | 0,listed,a,w=>Region.ready md ops listed=[]∧Q .normal a w
 | fuel + 1,listed,a,w =>
  (Region.ready md ops listed=[]→Q .normal a w) ∧
  ∀ i ∈ Region.ready md ops listed,wpOp P ops Q i (fun a' w'=>(Untouched T (listed.setIfInBounds i true)→S w')∧wpAnyT P md ops Q T S fuel (listed.setIfInBounds i true) a' w') a w
theorem wpAny_of_T : ∀ (fuel : Nat) (listed : Array Bool) (a : Act) (w : World),wpAnyT P md ops Q T S fuel listed a w→wpAny P md ops Q fuel listed a w
 | 0,_,_,_,h=>h
 | fuel + 1,_,_,_,h=>⟨h.1,fun i hi=>wpOp_mono (fun a' w' h'=>wpAny_of_T fuel _ a' w' h'.2) (h.2 i hi)⟩
theorem wpAnyT_strong {S' : World→Prop} (hS : ∀ w,S' w→S w) : ∀ (fuel : Nat) (listed : Array Bool) (a : Act) (w : World),wpAnyT P md ops Q T S' fuel listed a w→wpAnyT P md ops Q T S fuel listed a w
 | 0,_,_,_,h=>h
 | fuel + 1,_,_,_,h=>⟨h.1,fun i hi=>wpOp_mono (fun a' w' h'=>⟨fun ht=>hS _ (h'.1 ht),wpAnyT_strong hS fuel _ a' w' h'.2⟩) (h.2 i hi)⟩
theorem wpAnyT_first {i : Nat} {oi : Oper} {v : Value} (hi : ops[i]? = some oi) (hsel : ∀ (j : Nat) (o : Oper) cs b,ops[j]? = some o→o.op ≠ .select cs b)
  (hQ : ∀ c a w,Q (.panic c) (a.put oi.dst v) w→Q (.panic c) a w) (hT : ∀ j oj,ops[j]? = some oj→T j=true → ∃ e ∈ oj.after,Region.binds md e=true∧e.on=i) (hTi : T i=false) :
  ∀ (fuel : Nat) (listed : Array Bool) (a : Act) (w : World),
   (∀ j oj,ops[j]? = some oj→j ≠ i→listed.getD j true=false→(∀ e ∈ oj.after,Region.binds md e=true→e.on ≠ i)→oi.apart ops oj=true) →
   i ∈ Region.ready md ops listed→YieldsIf P ops S oi v a→Untouched T listed→S w →
   wpAnyT P md ops Q T S fuel (listed.setIfInBounds i true) (a.put oi.dst v) w→wpAnyT P md ops Q T S (fuel + 1) listed a w:=by
 intro fuel
 induction fuel with
 | zero =>
  intro listed a w _ hr hy hU hS H
  refine ⟨fun h=>(by rw [h] at hr;cases hr),fun j hj => ?_⟩
  by_cases hji : j=i
  ·subst hji;exact hy.wpOp hi hS ⟨fun _=>hS,H⟩
  ·have:=ready_mono hj hji
   rw [H.1] at this
   cases this
 | succ fuel ih =>
  intro listed a w hfree hr hy hU hS H
  refine ⟨fun h=>(by rw [h] at hr;cases hr),fun j hj => ?_⟩
  by_cases hji : j=i
  ·subst hji;exact hy.wpOp hi hS ⟨fun _=>hS,H⟩
  ·have h1:=H.2 j (ready_mono hj hji)
   obtain ⟨hjun,oj,hoj,hall⟩:=mem_ready.1 hj
   have hnot : ∀ e ∈ oj.after,Region.binds md e=true→e.on ≠ i:=fun e he hb heq=>by
    have h1:=hall e he hb
    have h0:=(mem_ready.1 hr).1
    rw [heq] at h1
    rcases Nat.lt_or_ge i listed.size with h' | h'
    ·simp [h'] at h0 h1;rw [h0] at h1;cases h1
    ·simp [Array.getElem?_eq_none h'] at h1
   have hTj : T j=false:=by
    cases ht : T j with
    | false=>rfl
    | true=>obtain ⟨e,he,hb,hon⟩:=hT j oj hoj ht;exact absurd hon (hnot e he hb)
   have h2:=wpOp_putIf hoj (hfree j oj hoj hji hjun hnot) (fun cs b=>hsel i oi cs b hi) (fun cs b=>hsel j oj cs b hoj) hQ hy h1
   have hfree' : ∀ k ok,ops[k]? = some ok→k ≠ i→(listed.setIfInBounds j true).getD k true=false →
     (∀ e ∈ ok.after,Region.binds md e=true→e.on ≠ i)→oi.apart ops ok=true:=fun k ok hk hki hun hno=>by
    refine hfree k ok hk hki ?_ hno
    by_cases hjk : j=k
    ·subst hjk;exact hjun
    ·rw [getD_set_ne true hjk] at hun;exact hun
   have hU2:=(hU.set hTi).set hTj
   refine wpOp_mono (fun a' w' h3=>⟨fun _=>h3.2.1 hU2,ih (listed.setIfInBounds j true) a' w' hfree' (ready_mono hr (Ne.symm hji)) h3.1 (hU.set hTj) (h3.2.1 hU2) ?_⟩) h2
   rw [Array.setIfInBounds_comm _ _ hji]
   exact h3.2.2
theorem wpAnyT_firstP {i : Nat} {oi : Oper} {v : Value} (hi : ops[i]? = some oi) (hsel : ∀ (j : Nat) (o : Oper) cs b,ops[j]? = some o→o.op ≠ .select cs b)
  (hQ : ∀ c a w,Q (.panic c) (a.put oi.dst v) w→Q (.panic c) a w) (hTi : T i=false) :
  ∀ (fuel : Nat) (listed : Array Bool) (a : Act) (w : World),
   (∀ j oj,ops[j]? = some oj→j ≠ i→listed.getD j true=false→(∀ e ∈ oj.after,Region.binds md e=true→e.on ≠ i)→oi.apart ops oj=true) →
   i ∈ Region.ready md ops listed→YieldsIf P ops (fun _=>True) oi v a→(Untouched T listed→S w) →
   wpAnyT P md ops Q T S fuel (listed.setIfInBounds i true) (a.put oi.dst v) w→wpAnyT P md ops Q T S (fuel + 1) listed a w:=by
 intro fuel
 induction fuel with
 | zero =>
  intro listed a w _ hr hy hS H
  refine ⟨fun h=>(by rw [h] at hr;cases hr),fun j hj => ?_⟩
  by_cases hji : j=i
  ·subst hji;exact hy.wpOp hi trivial ⟨fun hu=>hS (hu.unset hTi),H⟩
  ·have:=ready_mono hj hji
   rw [H.1] at this
   cases this
 | succ fuel ih =>
  intro listed a w hfree hr hy hS H
  refine ⟨fun h=>(by rw [h] at hr;cases hr),fun j hj => ?_⟩
  by_cases hji : j=i
  ·subst hji;exact hy.wpOp hi trivial ⟨fun hu=>hS (hu.unset hTi),H⟩
  ·have h1:=H.2 j (ready_mono hj hji)
   obtain ⟨hjun,oj,hoj,hall⟩:=mem_ready.1 hj
   have hnot : ∀ e ∈ oj.after,Region.binds md e=true→e.on ≠ i:=fun e he hb heq=>by
    have h1:=hall e he hb
    have h0:=(mem_ready.1 hr).1
    rw [heq] at h1
    rcases Nat.lt_or_ge i listed.size with h' | h'
    ·simp [h'] at h0 h1;rw [h0] at h1;cases h1
    ·simp [Array.getElem?_eq_none h'] at h1
   have h2:=wpOp_putIf hoj (hfree j oj hoj hji hjun hnot) (fun cs b=>hsel i oi cs b hi) (fun cs b=>hsel j oj cs b hoj) hQ hy h1
   have hfree' : ∀ k ok,ops[k]? = some ok→k ≠ i→(listed.setIfInBounds j true).getD k true=false →
     (∀ e ∈ ok.after,Region.binds md e=true→e.on ≠ i)→oi.apart ops ok=true:=fun k ok hk hki hun hno=>by
    refine hfree k ok hk hki ?_ hno
    by_cases hjk : j=k
    ·subst hjk;exact hjun
    ·rw [getD_set_ne true hjk] at hun;exact hun
   have hU2 : Untouched T (listed.setIfInBounds j true)→Untouched T ((listed.setIfInBounds i true).setIfInBounds j true):=fun hu=>by
    rw [Array.setIfInBounds_comm _ _ (Ne.symm hji)];exact hu.set hTi
   refine wpOp_mono (fun a' w' h3=>⟨fun hu=>h3.2.1 (hU2 hu),ih (listed.setIfInBounds j true) a' w' hfree' (ready_mono hr (Ne.symm hji)) h3.1 (fun hu=>h3.2.1 (hU2 hu)) ?_⟩) h2
   rw [Array.setIfInBounds_comm _ _ hji]
   exact h3.2.2
def tailB (ops : List Oper) (ts : List Nat) (i : Nat) : Bool :=
 ts.all fun t=>match ops[t]? with
  | some o=>o.after.any fun e=>Region.binds .any e && e.on == i
  | none=>false
def untouchedB (ts : List Nat) (l : List Bool) : Bool:=ts.all fun t => !(l[t]?.getD true)
theorem untouchedB_spec {ts : List Nat} {l : List Bool} (h : untouchedB ts l=true) : Untouched (fun i=>ts.contains i) ⟨l⟩:=fun t ht=>by
 have h1:=List.all_eq_true.1 h t (by simpa using ht)
 simp only [Bool.not_eq_true'] at h1
 simpa using h1
theorem tailB_spec {ops : List Oper} {ts : List Nat} {i : Nat} (h : tailB ops ts i=true) (j : Nat) (oj : Oper) (hj : (⟨ops⟩ : Array Oper)[j]? = some oj) (ht : ts.contains j=true) : ∃ e ∈ oj.after,Region.binds .any e=true∧e.on=i:=by
 have h1:=List.all_eq_true.1 h j (by simpa using ht)
 have hj' : ops[j]? = some oj:=by simpa using hj
 rw [hj'] at h1
 simp only at h1
 obtain ⟨e,he,hb⟩:=Array.any_eq_true'.1 h1
 simp only [Bool.and_eq_true,beq_iff_eq] at hb
 exact ⟨e,he,hb.1,hb.2⟩
end any
def Stays (m : Mem) (Ls : List Item) (w : World) : Prop := ∃ m' L',m ≤ m' ∧ St m' w (Ls++L')
def DO (P : Program) (N : Nat) (ops : List Oper) (ts : List Nat) (fuel : Nat) (listed : List Bool) (ρ : Env) (D : List Deferred) (m : Mem) (Ls Lp : List Item) (Q : EPost) : Prop :=
 ∀ a w,Ok N ρ D m (Ls++Lp) a w→wpAnyT P .any ⟨ops⟩ (Lift N Q) (fun i=>ts.contains i) (Stays m Ls) fuel ⟨listed⟩ a w
section
variable {P : Program} {N : Nat} {ρ : Env} {D : List Deferred} {m : Mem} {L Ls Lp : List Item} {Q : EPost} {ops : List Oper} {ts : List Nat} {fuel : Nat} {listed : List Bool}
theorem TC.draw {id : Nat} (ts : List Nat) (hm : P.follows .mixedOrders=true) (n : Nat) (hn : ops.length=n) (Ls Lp : List Item) (hL : L.Perm (Ls++Lp))
  (h : DO P N ops ts n (List.replicate n false) ρ D m Ls Lp Q) : TC P N (.region id ⟨ops⟩ true) ρ D m L Q:=by
 subst hn
 intro a w ha
 refine wp_region_any hm ?_
 have ha' : Ok N ρ D m (Ls++Lp) a w.drew:=⟨ha.size,ha.env,ha.defers,(ha.st.perm hL).drew⟩
 have:=wpAny_of_T _ _ _ _ (h a _ ha')
 have e : (Array.replicate (⟨ops⟩ : Array Oper).size false) = ⟨List.replicate ops.length false⟩:=by
  apply Array.ext';simp
 rw [e]
 exact this
theorem TC.draw0 {id : Nat} (ts : List Nat) (hm : P.follows .mixedOrders=true) (n : Nat) (hn : ops.length=n)
  (h : DO P N ops ts n (List.replicate n false) ρ D m L [] Q) : TC P N (.region id ⟨ops⟩ true) ρ D m L Q :=
 TC.draw ts hm n hn L [] (by rw [List.append_nil]) h
def Calm (Q : EPost) : Prop := ∀ ch ρ D m L,Q (.panic ch) ρ D m L→Q (.panic ch) [] D m L
theorem Calm.put {Q : EPost} (hc : Calm Q) {N : Nat} {c : List PanicEntry} {a : Act} {w : World} {d : Option Tmp} {v : Value} (h : Lift N Q (.panic c) (a.put d v) w) : Lift N Q (.panic c) a w:=by
 obtain ⟨ρ',D',m',L',h1,h2⟩:=h
 refine ⟨[],D',m',L',⟨by simpa using h1.size,fun i u hu=>(by cases hu),by simpa using h1.defers,h1.st⟩,hc _ _ _ _ _ h2⟩
theorem Calm.then {K : Env→List Deferred→Mem→List Item→Prop} (h : Calm Q) : Calm (thenQ K Q):=h
theorem Calm.block {id : Nat} (h : Calm Q) : Calm (blockQ id Q):=h
theorem Calm.ret {P : Program} {fn : Func} {R : Value→Mem→List Item→Prop} {X : List PanicEntry→Mem→List Item→Prop} : Calm (retQ P fn R X):=fun _ _ _ _ _ h=>h
theorem DO.take {o : Oper} (i : Nat) {d : Nat} {v : Value} (hc : Calm Q) (hi : ops[i]? = some o) (hd : o.dst=some d) (hN : Nat.blt d N=true) (hg : gv ops ρ o=some true)
  (hns : Region.noSelect ⟨ops⟩ = true) (hf : Region.free .any ⟨ops⟩ ⟨listed⟩ i=true) (hr : (Region.ready .any ⟨ops⟩ ⟨listed⟩).contains i=true) (ht : tailB ops ts i=true∧ts.contains i=false∧untouchedB ts listed=true)
  (hrun : ∀ a w,Agree a ρ → Stays m Ls w→(execOp a.eval o).run P w = .ok (.value v) w)
  (h : DO P N ops ts fuel (listed.set i true) ((d,v) :: ρ) D m Ls Lp Q) : DO P N ops ts (fuel + 1) listed ρ D m Ls Lp Q:=by
 intro a w ha
 have hi' : (⟨ops⟩ : Array Oper)[i]? = some o:=by simpa using hi
 refine wpAnyT_first (v:=v) hi' (Region.noSelect_spec hns) ?_ (fun j oj hj htj=>tailB_spec ht.1 j oj hj htj) ht.2.1 fuel ⟨listed⟩ a w (Region.free_spec hi' hf) (by simpa using hr) ?_ (untouchedB_spec ht.2.2) ⟨m,Lp,m.le_refl,ha.st⟩ ?_
 ·exact fun c a' w' h'=>hc.put h'
 ·exact .inl ⟨gv_wanted hg ha.env,fun w' hw'=>hrun a w' ha.env hw'⟩
 ·have e : (⟨listed⟩ : Array Bool).setIfInBounds i true = ⟨listed.set i true⟩:=by
   apply Array.ext';simp
  rw [e,hd]
  exact h _ _ (ha.put hN v)
theorem DO.takeP {o : Oper} (i : Nat) {d : Nat} {v : Value} (hc : Calm Q) (hi : ops[i]? = some o) (hd : o.dst=some d) (hN : Nat.blt d N=true) (hg : gv ops ρ o=some true)
  (hns : Region.noSelect ⟨ops⟩ = true) (hf : Region.free .any ⟨ops⟩ ⟨listed⟩ i=true) (hr : (Region.ready .any ⟨ops⟩ ⟨listed⟩).contains i=true) (ht : ts.contains i=false)
  (hrun : ∀ a w,Agree a ρ → (execOp a.eval o).run P w = .ok (.value v) w)
  (h : DO P N ops ts fuel (listed.set i true) ((d,v) :: ρ) D m Ls Lp Q) : DO P N ops ts (fuel + 1) listed ρ D m Ls Lp Q:=by
 intro a w ha
 have hi' : (⟨ops⟩ : Array Oper)[i]? = some o:=by simpa using hi
 refine wpAnyT_firstP (v:=v) hi' (Region.noSelect_spec hns) ?_ ht fuel ⟨listed⟩ a w (Region.free_spec hi' hf) (by simpa using hr) ?_ (fun _=>⟨m,Lp,m.le_refl,ha.st⟩) ?_
 ·exact fun c a' w' h'=>hc.put h'
 ·exact .inl ⟨gv_wanted hg ha.env,fun w' hw'=>hrun a w' ha.env⟩
 ·have e : (⟨listed⟩ : Array Bool).setIfInBounds i true = ⟨listed.set i true⟩:=by
   apply Array.ext';simp
  rw [e,hd]
  exact h _ _ (ha.put hN v)
theorem DO.skip {o : Oper} (i : Nat) {d : Nat} (hc : Calm Q) (hi : ops[i]? = some o) (hd : o.dst=some d) (hN : Nat.blt d N=true) (hg : gv ops ρ o=some false)
  (hns : Region.noSelect ⟨ops⟩ = true) (hf : Region.free .any ⟨ops⟩ ⟨listed⟩ i=true) (hr : (Region.ready .any ⟨ops⟩ ⟨listed⟩).contains i=true) (ht : ts.contains i=false)
  (h : DO P N ops ts fuel (listed.set i true) ((d,undef) :: ρ) D m Ls Lp Q) : DO P N ops ts (fuel + 1) listed ρ D m Ls Lp Q:=by
 intro a w ha
 have hi' : (⟨ops⟩ : Array Oper)[i]? = some o:=by simpa using hi
 refine wpAnyT_firstP (v:=undef) hi' (Region.noSelect_spec hns) ?_ ht fuel ⟨listed⟩ a w (Region.free_spec hi' hf) (by simpa using hr) ?_ (fun _=>⟨m,Lp,m.le_refl,ha.st⟩) ?_
 ·exact fun c a' w' h'=>hc.put h'
 ·exact .inr ⟨gv_wanted hg ha.env,rfl⟩
 ·have e : (⟨listed⟩ : Array Bool).setIfInBounds i true = ⟨listed.set i true⟩:=by
   apply Array.ext';simp
  rw [e,hd]
  exact h _ _ (ha.put hN undef)
def orderOkP (ops : List Oper) (ts : List Nat) : List Nat→List Bool→Bool
 | [],_=>true
 | i :: is,l=>Region.free .any ⟨ops⟩ ⟨l⟩ i && ((Region.ready .any ⟨ops⟩ ⟨l⟩).contains i && (!ts.contains i && orderOkP ops ts is (l.set i true)))
def orderOk (ops : List Oper) (ts : List Nat) : List Nat→List Bool→Bool
 | [],_=>true
 | i :: is,l=>Region.free .any ⟨ops⟩ ⟨l⟩ i && ((Region.ready .any ⟨ops⟩ ⟨l⟩).contains i && ((tailB ops ts i && (!ts.contains i && untouchedB ts l)) && orderOk ops ts is (l.set i true)))
def listAll : List Nat→List Bool→List Bool
 | [],l=>l
 | i :: is,l=>listAll is (l.set i true)
def evalAll {P : Program} (T : Tab P) (N : Nat) (ops : List Oper) : List Nat→Env→Option Env
 | [], ρ=>some ρ
 | i :: is, ρ=>match ops[i]? with
  | some o=>match gv ops ρ o,o.dst with
   | some true,some d=>match evalOp T ρ o.op with
    | some v=>bif Nat.blt d N then evalAll T N ops is ((d,v) :: ρ) else none
    | none=>none
   | some false,some d=>bif Nat.blt d N then evalAll T N ops is ((d,undef) :: ρ) else none
   | _,_=>none
  | none=>none
theorem DO.pure (T : Tab P) (hc : Calm Q) (hns : Region.noSelect ⟨ops⟩ = true) : ∀ (is : List Nat) {listed : List Bool} {ρ ρ' : Env},orderOkP ops ts is listed=true→evalAll T N ops is ρ = some ρ' →
  DO P N ops ts fuel (listAll is listed) ρ' D m Ls Lp Q→DO P N ops ts (fuel + is.length) listed ρ D m Ls Lp Q
 | [],listed, ρ, ρ',_,he,h=>by
  simp only [evalAll,Option.some.injEq] at he;subst he;exact h
 | i :: is,listed, ρ, ρ',ho,he,h=>by
  simp only [orderOkP,Bool.and_eq_true] at ho
  obtain ⟨o1,o2,o3,o4⟩:=ho
  unfold evalAll at he
  rw [List.length_cons,← Nat.add_assoc]
  split at he
  ·rename_i o hi
   split at he
   ·rename_i d hg hd
    split at he
    ·rename_i v hv
     cases hb : Nat.blt d N with
     | false=>simp [hb] at he
     | true =>
      simp only [hb,cond_true] at he
      exact DO.takeP i hc hi hd hb hg hns o1 o2 (by simpa using o3) (fun a w hA=>evalOp_run T hA hv w) (DO.pure T hc hns is o4 he h)
    ·cases he
   ·rename_i d hg hd
    cases hb : Nat.blt d N with
    | false=>simp [hb] at he
    | true =>
     simp only [hb,cond_true] at he
     exact DO.skip i hc hi hd hb hg hns o1 o2 (by simpa using o3) (DO.pure T hc hns is o4 he h)
   ·cases he
  ·cases he
theorem DO.loadL (T : Tab P) (i : Nat) (j : Nat) {x : Operand} {t : TypeId} {o : Oper} {b off k d : Nat} {cs : List Value} {v : Value} (hc : Calm Q) (hns : Region.noSelect ⟨ops⟩ = true) (hok : orderOk ops ts [i] listed=true)
  (hi : ops[i]? = some o) (hg : gv ops ρ o=some true) (ho : o.op = .load t x) (hd : o.dst=some d) (hN : Nat.blt d N=true)
  (hx : ev ρ x=some (.pointer (some ⟨b,off + k,none⟩))) (hj : Ls[j]? = some (.cells b off cs)) (hv : T.load t cs k=some v)
  (h : DO P N ops ts fuel (listed.set i true) ((d,v) :: ρ) D m Ls Lp Q) : DO P N ops ts (fuel + 1) listed ρ D m Ls Lp Q:=by
 simp only [orderOk,Bool.and_eq_true] at hok
 obtain ⟨o1,o2,o3,_⟩:=hok
 refine DO.take i hc hi hd hN hg hns o1 o2 (by simpa [and_assoc] using o3) (fun a w hA hs => ?_) h
 obtain ⟨m',L',h1,h2⟩:=hs
 have hj' : (Ls++L')[j]? = some (.cells b off cs):=by
  rw [List.getElem?_append_left (List.getElem?_eq_some_iff.1 hj).1];exact hj
 have:=run_loadVar T (h2.cells hj') hv
 simp only [execOp,ho,hA.eval hx,Sem.run_bind,Instr.loadAt,Instr.sureAddr,Sem.run_pure,Result.andThen_ok,this]
theorem DO.loadA (T : Tab P) (i : Nat) {x : Operand} {t : TypeId} {o : Oper} {b off k d : Nat} {cs : List Value} {v : Value} (hA : At m b off cs) (hc : Calm Q) (hns : Region.noSelect ⟨ops⟩ = true) (hok : orderOk ops ts [i] listed=true)
  (hi : ops[i]? = some o) (hg : gv ops ρ o=some true) (ho : o.op = .load t x) (hd : o.dst=some d) (hN : Nat.blt d N=true)
  (hx : ev ρ x=some (.pointer (some ⟨b,off + k,none⟩))) (hv : T.load t cs k=some v)
  (h : DO P N ops ts fuel (listed.set i true) ((d,v) :: ρ) D m Ls Lp Q) : DO P N ops ts (fuel + 1) listed ρ D m Ls Lp Q:=by
 simp only [orderOk,Bool.and_eq_true] at hok
 obtain ⟨o1,o2,o3,_⟩:=hok
 refine DO.take i hc hi hd hN hg hns o1 o2 (by simpa [and_assoc] using o3) (fun a w hAg hs => ?_) h
 obtain ⟨m',L',h1,h2⟩:=hs
 have:=run_loadVar T (h2.at_cells (hA.mono h1)) hv
 simp only [execOp,ho,hAg.eval hx,Sem.run_bind,Instr.loadAt,Instr.sureAddr,Sem.run_pure,Result.andThen_ok,this]
theorem DO.index {H α : Type} (T : Tab P) (r : R H α) (i : Nat) {s : Sl} {l : List α} (k : Nat) {x y : Operand} {t : TypeId} {o : Oper} {d : Nat} {a : α} (hs : SlRep r m s l) (hc : Calm Q) (hns : Region.noSelect ⟨ops⟩ = true) (hok : orderOkP ops ts [i] listed=true)
  (hi : ops[i]? = some o) (hg : gv ops ρ o=some true) (ho : o.op = .indexAddr t x y) (hd : o.dst=some d) (hN : Nat.blt d N=true) (hx : ev ρ x=some s.v) {iv : Int} (hy : ev ρ y=some (.int .i64 iv)) (hik : iv=(k : Int)) (hsz : T.esize t=some r.size) (hk : l[k]? = some a)
  (h : ∀ b j hd',r.rep m hd' a→At m b j (r.enc hd')→DO P N ops ts fuel (listed.set i true) ((d, .pointer (some ⟨b,j,none⟩)) :: ρ) D m Ls Lp Q) : DO P N ops ts (fuel + 1) listed ρ D m Ls Lp Q:=by
 simp only [orderOkP,Bool.and_eq_true] at hok
 obtain ⟨o1,o2,o3,_⟩:=hok
 subst hik
 obtain ⟨b,j,hd',h1,h2,h3⟩:=hs.elem hk
 have hlt : k < s.len:=by rw [hs.len];exact (List.getElem?_eq_some_iff.1 hk).1
 refine DO.takeP i hc hi hd hN hg hns o1 o2 (by simpa using o3) (fun ac w hA => ?_) (h b (j + k * r.size) hd' h2 h3)
 have hx':=hA.eval hx
 simp only [Sl.v,h1] at hx'
 have:=run_indexAddr (P:=P) T (n:=0) (len:=s.len) (cap:=s.cap) (ad:=⟨b,j,none⟩) (k := .i64) (w:=w) hsz (Int.natCast_nonneg k) (by omega : (k : Int) < s.len)
 rw [addr_add,Int.toNat_natCast] at this
 simp only [execOp,ho,hx',hA.eval hy,Sem.run_bind,this,Result.andThen_ok,Sem.run_pure]
theorem DO.indexP (T : Tab P) (i : Nat) (k : Nat) {x y : Operand} {t : TypeId} {o : Oper} {d b j n c sz : Nat} (hc : Calm Q) (hns : Region.noSelect ⟨ops⟩ = true) (hok : orderOkP ops ts [i] listed=true)
  (hi : ops[i]? = some o) (hg : gv ops ρ o=some true) (ho : o.op = .indexAddr t x y) (hd : o.dst=some d) (hN : Nat.blt d N=true) (hx : ev ρ x=some (.slice (some ⟨b,j,none⟩) n c)) {iv : Int} (hy : ev ρ y=some (.int .i64 iv)) (hik : iv=(k : Int)) (hsz : T.esize t=some sz) (hk : k < n)
  (h : DO P N ops ts fuel (listed.set i true) ((d, .pointer (some ⟨b,j + k * sz,none⟩)) :: ρ) D m Ls Lp Q) : DO P N ops ts (fuel + 1) listed ρ D m Ls Lp Q:=by
 simp only [orderOkP,Bool.and_eq_true] at hok
 obtain ⟨o1,o2,o3,_⟩:=hok
 subst hik
 refine DO.takeP i hc hi hd hN hg hns o1 o2 (by simpa using o3) (fun ac w hA => ?_) h
 have:=run_indexAddr (P:=P) T (n:=0) (cap:=c) (ad:=⟨b,j,none⟩) (k := .i64) (w:=w) hsz (Int.natCast_nonneg k) (by omega : (k : Int) < n)
 rw [addr_add,Int.toNat_natCast] at this
 simp only [execOp,ho,hA.eval hx,hA.eval hy,Sem.run_bind,this,Result.andThen_ok,Sem.run_pure]
theorem DO.arith (i : Nat) {op : BinOp} {t t' : TypeId} {x y : Operand} {o : Oper} {d : Nat} {a b r r' : Int} (hc : Calm Q) (hns : Region.noSelect ⟨ops⟩ = true) (hok : orderOkP ops ts [i] listed=true)
  (hi : ops[i]? = some o) (hg : gv ops ρ o=some true) (ho : o.op = .binOp op t x y t') (hd : o.dst=some d) (hN : Nat.blt d N=true)
  (hx : ev ρ x=some (.int .i64 a)) (hy : ev ρ y=some (.int .i64 b)) (hr : Sep.arith op a b=some r) (he : r=r') (h1 : -9223372036854775808 ≤ r' ∧ r' ≤ 9223372036854775807)
  (h : DO P N ops ts fuel (listed.set i true) ((d, .int .i64 r') :: ρ) D m Ls Lp Q) : DO P N ops ts (fuel + 1) listed ρ D m Ls Lp Q:=by
 simp only [orderOkP,Bool.and_eq_true] at hok
 obtain ⟨o1,o2,o3,_⟩:=hok
 subst he
 refine DO.takeP i hc hi hd hN hg hns o1 o2 (by simpa using o3) (fun ac w hA => ?_) h
 have hw:=wrap64_in h1.1 h1.2
 cases op <;> simp only [Sep.arith,Option.some.injEq] at hr <;> first | (cases hr;done) | (subst hr;simp [execOp,ho,hA.eval hx,hA.eval hy,eqGuard,binOp,Op.intArith,hw])
theorem DO.split {d : Nat} {b : Bool} (hl : look ρ d=some (.bool b))
  (h1 : b=true→DO P N ops ts fuel listed ((d, .bool true) :: ρ) D m Ls Lp Q) (h2 : b=false→DO P N ops ts fuel listed ((d, .bool false) :: ρ) D m Ls Lp Q) : DO P N ops ts fuel listed ρ D m Ls Lp Q:=by
 intro a w ha
 cases b with
 | true=>exact h1 rfl a w (ha.setKnown hl)
 | false=>exact h2 rfl a w (ha.setKnown hl)
theorem DO.splitP {d : Nat} {p : Prop} [Decidable p] (hl : look ρ d=some (.bool (decide p)))
  (h1 : p→DO P N ops ts fuel listed ((d, .bool true) :: ρ) D m Ls Lp Q) (h2 : ¬ p→DO P N ops ts fuel listed ((d, .bool false) :: ρ) D m Ls Lp Q) : DO P N ops ts fuel listed ρ D m Ls Lp Q :=
 DO.split hl (fun h=>h1 (of_decide_eq_true h)) (fun h=>h2 (of_decide_eq_false h))
theorem DO.splitN {d : Nat} {p : Prop} [Decidable p] (hl : look ρ d=some (.bool (!decide p)))
  (h1 : ¬ p→DO P N ops ts fuel listed ((d, .bool true) :: ρ) D m Ls Lp Q) (h2 : p→DO P N ops ts fuel listed ((d, .bool false) :: ρ) D m Ls Lp Q) : DO P N ops ts fuel listed ρ D m Ls Lp Q :=
 DO.split hl (fun h=>h1 (by simpa using h)) (fun h=>h2 (by simpa using h))
theorem DO.run {o : Oper} (i : Nat) (hi : ops[i]? = some o) (hg : gv ops ρ o=some true) (hr : Region.ready .any ⟨ops⟩ ⟨listed⟩ = [i]) (ht : ts.contains i=false)
  (h : OT P N o ρ D m (Ls++Lp) Q (fun ρ' m' L'=>m ≤ m' ∧ ∃ Lp',L'.Perm (Ls++Lp')∧DO P N ops ts fuel (listed.set i true) ρ' D m' Ls Lp' Q)) : DO P N ops ts (fuel + 1) listed ρ D m Ls Lp Q:=by
 intro a w ha
 refine ⟨fun h0=>(by rw [hr] at h0;cases h0),fun j hj => ?_⟩
 rw [hr,List.mem_singleton] at hj
 subst hj
 have hi' : (⟨ops⟩ : Array Oper)[j]? = some o:=by simpa using hi
 have e : (⟨listed⟩ : Array Bool).setIfInBounds j true = ⟨listed.set j true⟩:=by
  apply Array.ext';simp
 unfold wpOp
 simp only [hi',gv_wanted hg ha.env,if_true]
 refine .inl (Oper.wp_mono ?_ (h a w ha))
 rintro a' w' ⟨ρ',m',L',h1,h2,Lp',h3,h4⟩
 have h5 : Ok N ρ' D m' (Ls++Lp') a' w':=h1.perm h3
 refine ⟨fun _=>⟨m',Lp',h2,h5.st⟩, ?_⟩
 rw [e]
 refine wpAnyT_strong ?_ _ _ _ _ (h4 a' w' h5)
 rintro w2 ⟨m2,L2,g1,g2⟩
 exact ⟨m2,L2,Mem.le_trans h2 g1,g2⟩
def DOt (P : Program) (N : Nat) (ops : List Oper) (ts : List Nat) (fuel : Nat) (listed : List Bool) (ρ : Env) (D : List Deferred) (m : Mem) (L : List Item) (Q : EPost) : Prop :=
 ∀ a w,Ok N ρ D m L a w→wpAnyT P .any ⟨ops⟩ (Lift N Q) (fun i=>ts.contains i) (fun _=>False) fuel ⟨listed⟩ a w
theorem DOt.run {o : Oper} (i : Nat) (hi : ops[i]? = some o) (hg : gv ops ρ o=some true) (hr : Region.ready .any ⟨ops⟩ ⟨listed⟩ = [i]) (ht : ts.contains i=true)
  (h : OT P N o ρ D m L Q (fun ρ' m' L'=>DOt P N ops ts fuel (listed.set i true) ρ' D m' L' Q)) : DOt P N ops ts (fuel + 1) listed ρ D m L Q:=by
 intro a w ha
 refine ⟨fun h0=>(by rw [hr] at h0;cases h0),fun j hj => ?_⟩
 rw [hr,List.mem_singleton] at hj
 subst hj
 have hi' : (⟨ops⟩ : Array Oper)[j]? = some o:=by simpa using hi
 have e : (⟨listed⟩ : Array Bool).setIfInBounds j true = ⟨listed.set j true⟩:=by
  apply Array.ext';simp
 unfold wpOp
 simp only [hi',gv_wanted hg ha.env,if_true]
 refine .inl (Oper.wp_mono ?_ (h a w ha))
 rintro a' w' ⟨ρ',m',L',h1,h2⟩
 refine ⟨fun hf => ?_,(by rw [e];exact h2 a' w' h1)⟩
 have h3:=hf j ht
 rw [e] at h3
 have hlt : j < (listed.set j true).length ∨ ¬ j < (listed.set j true).length:=Decidable.em _
 rcases hlt with hlt | hlt
 ·have hlt' : j < listed.length:=by simpa using hlt
  simp [hlt'] at h3
 ·have hlt' : ¬ j < listed.length:=by simpa using hlt
  simp [hlt'] at h3
theorem DOt.nil (hr : Region.ready .any ⟨ops⟩ ⟨listed⟩ = []) (h : Q .normal ρ D m L) : DOt P N ops ts fuel listed ρ D m L Q:=by
 intro a w ha
 have hq : Lift N Q .normal a w:=⟨ρ,D,m,L,ha,h⟩
 cases fuel with
 | zero=>exact ⟨hr,hq⟩
 | succ n=>exact ⟨fun _=>hq,by rw [hr];simp⟩
theorem DO.tail (h : DOt P N ops ts fuel listed ρ D m (Ls++Lp) Q) : DO P N ops ts fuel listed ρ D m Ls Lp Q:=fun a w ha =>
 wpAnyT_strong (fun _ hf=>hf.elim) _ _ _ _ (h a w ha)
theorem DO.nil0 (hr : Region.ready .any ⟨ops⟩ ⟨listed⟩ = []) (h : Q .normal ρ D m Ls) : DO P N ops ts fuel listed ρ D m Ls [] Q:=by
 intro a w ha
 rw [List.append_nil] at ha
 have hq : Lift N Q .normal a w:=⟨ρ,D,m,Ls,ha,h⟩
 cases fuel with
 | zero=>exact ⟨hr,hq⟩
 | succ n=>exact ⟨fun _=>hq,by rw [hr];simp⟩
theorem DO.nil (hr : Region.ready .any ⟨ops⟩ ⟨listed⟩ = []) (h : Q .normal ρ D m (Ls++Lp)) : DO P N ops ts fuel listed ρ D m Ls Lp Q:=by
 intro a w ha
 have hq : Lift N Q .normal a w:=⟨ρ,D,m,Ls++Lp,ha,h⟩
 cases fuel with
 | zero=>exact ⟨hr,hq⟩
 | succ n=>exact ⟨fun _=>hq,by rw [hr];simp⟩
end
end Go.Sep
set_option linter.unusedVariables false
set_option linter.unusedSimpArgs false
namespace Go.Sep
section
variable {P : Program} {N : Nat} {ρ : Env} {D : List Deferred} {m : Mem} {L : List Item} {Q : EPost} {full : List Oper} {o : Oper} {K : Env→Mem→List Item→Prop}
theorem TO.freeze {l : List Oper} {b off : Nat} {vs : List Value} (h : ∀ m',m ≤ m' → At m' b off vs→TO P N ⟨full⟩ l ρ D m' L Q) : TO P N ⟨full⟩ l ρ D m (.cells b off vs :: L) Q:=by
 intro a w ha
 obtain ⟨h1,h2,h3⟩:=ha.st.freeze
 exact h _ h1 h2 a w ⟨ha.size,ha.env,ha.defers,h3⟩
theorem TC.freeze {c : Code} {b off : Nat} {vs : List Value} (h : ∀ m',m ≤ m' → At m' b off vs→TC P N c ρ D m' L Q) : TC P N c ρ D m (.cells b off vs :: L) Q:=by
 intro a w ha
 obtain ⟨h1,h2,h3⟩:=ha.st.freeze
 exact h _ h1 h2 a w ⟨ha.size,ha.env,ha.defers,h3⟩
def zeroRow (zs : List Value) (n : Nat) : List Value:=(List.range n).map fun i=>zs[i % zs.length]?.getD undef
def fillS (ρ : Env) (size : Nat) : List Value→List (Nat × Operand)→Option (List Value)
 | cs,[]=>fl cs
 | cs,(i,x) :: r=>match ev ρ x with
  | some v=>match cellsF v with
   | some vs=>bif Nat.beq vs.length size && Nat.ble (i * size + vs.length) cs.length then (match fl (putAt cs (i * size) vs) with
     | some cs'=>fillS ρ size cs' r
     | none=>none) else none
   | none=>none
  | none=>none
def Tab.lit {P : Program} (T : Tab P) (ρ : Env) (t : TypeId) (n : Nat) (ps : List (Nat × Operand)) : Option (List Value) :=
 match T.elem t with
 | some (_,ei)=>match cellsF ei.zero with
  | some zs=>bif Nat.ble (n * ei.size) 16777216 && Nat.beq zs.length ei.size then fillS ρ ei.size (zeroRow zs (n * ei.size)) ps else none
  | none=>none
 | none=>none
theorem run_fillS {a : Act} {ρ : Env} (hA : Agree a ρ) (size : Nat) :
  ∀ (ps : List (Nat × Operand)) (cs l : List Value),fillS ρ size cs ps=some l→Instr.fill (fun i=>some (i * size,size)) ⟨cs⟩ (ps.map fun p=>(p.1,a.eval p.2))=some ⟨l⟩
 | [],cs,l,h=>by
  simp only [fillS,fl_eq,Option.some.injEq] at h;subst h;rfl
 | (i,x) :: r,cs,l,h=>by
  unfold fillS at h
  split at h
  ·rename_i v hv
   split at h
   ·rename_i vs hvs
    cases hb : (Nat.beq vs.length size && Nat.ble (i * size + vs.length) cs.length) with
    | false=>simp [hb] at h
    | true =>
     simp only [hb,cond_true,fl_eq] at h
     simp only [Bool.and_eq_true] at hb
     have h1:=Nat.eq_of_beq_eq_true hb.1
     have h2:=Nat.le_of_ble_eq_true hb.2
     have ih:=run_fillS hA size r _ l h
     have hc:=cellsF_eq hvs
     simp only [List.map_cons,Instr.fill,hA.eval hv,hc]
     have hn : ¬ ((⟨vs⟩ : Array Value).size ≠ size ∨ i * size + (⟨vs⟩ : Array Value).size > (⟨cs⟩ : Array Value).size):=by
      simp;omega
     have e:=foldl_putAt vs cs (i * size) 0
     simp only [Nat.add_zero] at e
     have hz : (⟨vs⟩ : Array Value).zipIdx = ⟨vs.zipIdx⟩:=by apply Array.ext';simp
     have e2 : Array.foldl (fun (a : Array Value) (p : Value × Nat)=>a.setIfInBounds (i * size + p.2) p.1) (⟨cs⟩ : Array Value) (⟨vs⟩ : Array Value).zipIdx = ⟨putAt cs (i * size) vs⟩:=by
      rw [← Array.foldl_toList,hz];exact e
     rw [if_neg (by simpa using hn)]
     exact (congrArg (fun z=>Instr.fill (fun i=>some (i * size,size)) z (r.map fun p=>(p.1,a.eval p.2))) e2).trans ih
   ·cases h
  ·cases h
theorem OT.lit (T : Tab P) {t : TypeId} {n d : Nat} {ps : List (Nat × Operand)} {cs : List Value} (ho : o.op = .buildSlice t n ⟨ps⟩) (hd : o.dst=some d) (hN : Nat.blt d N=true)
  (hv : T.lit ρ t n ps=some cs) (hK : ∀ b,K ((d, .slice (some ⟨b,0,none⟩) n n) :: ρ) m (.cells b 0 cs :: L)) : OT P N o ρ D m L Q K:=by
 intro a w ha
 unfold Tab.lit at hv
 split at hv
 ·rename_i e ei he
  split at hv
  ·rename_i zs hz
   cases hb : (Nat.ble (n * ei.size) 16777216 && Nat.beq zs.length ei.size) with
   | false=>simp [hb] at hv
   | true =>
    simp only [hb,cond_true] at hv
    simp only [Bool.and_eq_true] at hb
    have hle:=Nat.le_of_ble_eq_true hb.1
    have hzl:=Nat.eq_of_beq_eq_true hb.2
    obtain ⟨ti,h4,h5,h6⟩:=elem_get he
    have hu:=T.run_underlying w h4
    rw [h5] at hu
    have hs:=T.run_sizeOf w h6
    have hzr:=T.run_zero w h6
    have hzc:=cellsF_eq hz
    have hfill:=run_fillS ha.env ei.size ps _ _ hv
    have hrow : ((Array.range (n * ei.size)).map fun i=>(if n * ei.size=0 then (#[] : Array Value) else ⟨zs⟩)[i % (if n * ei.size=0 then (#[] : Array Value) else ⟨zs⟩).size]!) = ⟨zeroRow zs (n * ei.size)⟩:=by
     by_cases h0 : n * ei.size=0
     ·rw [h0];apply Array.ext';simp [zeroRow]
     ·apply Array.ext'
      simp only [h0,if_false,Array.toList_map,Array.toList_range,zeroRow]
      apply List.map_congr_left
      intro i hi
      have : 0 < zs.length:=by
       rw [hzl];rcases Nat.eq_zero_or_pos ei.size with h | h
       ·rw [h] at h0;simp at h0
       ·exact h
      have hlt:=Nat.mod_lt i this
      simp [hlt]
    have hr : (execOp a.eval o).run P w = .ok (.value (.slice (some ⟨w.heap.size,0,none⟩) n n)) (w.alloc (.cells ⟨cs⟩ e)):=by
     have e3 : ((⟨ps⟩ : Array (Nat × Operand)).map fun (p : Nat × Operand)=>(p.1,a.eval p.2)).toList=ps.map fun p=>(p.1,a.eval p.2):=by simp
     have hlim : ¬ (n * ei.size > 2 ^ 24):=by omega
     simp only [execOp,ho,Instr.buildSlice,Sem.run_bind,hu,hs,Result.andThen_ok,if_neg hlim]
     by_cases h0 : n * ei.size=0
     ·simp only [h0,if_true,Sem.run_bind,Sem.run_pure,Result.andThen_ok] at hrow hfill ⊢
      rw [hrow,e3,hfill]
      simp only [newRow,Sem.run_bind,run_newObj,Result.andThen_ok,Sem.run_pure,World.alloc_eq]
     ·simp only [h0,if_false,Sem.run_bind,hzr,Result.andThen_ok,Sem.run_pure,hzc] at hrow ⊢
      rw [hrow,e3,hfill]
      simp only [newRow,Sem.run_bind,run_newObj,Result.andThen_ok,Sem.run_pure,World.alloc_eq]
    simp only [Oper.wp,hr,Oper.upon,hd]
    have hp:=ha.put hN (.slice (some ⟨w.heap.size,0,none⟩) n n)
    exact ⟨_,_,_,⟨hp.size,hp.env,hp.defers,ha.st.allocCells ⟨cs⟩ e⟩,hK _⟩
  ·cases hv
 ·cases hv
theorem SlRep.one {H α : Type} {r : R H α} {b : Nat} {h : H} {a : α} (hA : At m b 0 (r.enc h)) (hr : r.rep m h a) (hb : r.bytes ≤ 140737488355328) : SlRep r m ⟨some ⟨b,0,none⟩,1,1⟩ [a] :=
 ⟨rfl,Nat.le_refl _,by simpa using hb,[h],⟨hr,trivial⟩, .inr ⟨b,0,rfl,by simpa [encs] using hA⟩⟩
theorem OT.make (T : Tab P) {t : TypeId} {n d : Nat} {z : Value} {x y : Operand} {e : TypeId} {ei : TI} (ho : o.op = .makeSlice t x y) (hd : o.dst=some d) (hN : Nat.blt d N=true)
  (hx : ev ρ x=some (.int .i64 (n : Int))) (hy : ev ρ y=some (.int .i64 (n : Int))) (he : T.elem t=some (e,ei)) (hs : Nat.beq ei.size 1=true) (hz : cellsF ei.zero=some [z]) (hfit : n * ei.bytes ≤ 281474976710656) (hb : Nat.blt 0 ei.bytes=true)
  (hK : ∀ b,K ((d, .slice (some ⟨b,0,none⟩) n n) :: ρ) m (.cells b 0 (List.replicate n z) :: L)) : OT P N o ρ D m L Q K:=by
 intro a w ha
 obtain ⟨ti,h4,h5,h6⟩:=elem_get he
 have hu:=T.run_underlying w h4
 rw [h5] at hu
 obtain ⟨info,q1,q2,q3,q4,q5⟩:=T.ok e ei h6
 have hs1:=Nat.eq_of_beq_eq_true hs
 have hbp : 0 < ei.bytes:=by simpa [Nat.blt_eq] using hb
 have hn : n ≤ 281474976710656:=Nat.le_trans (Nat.le_mul_of_pos_right _ hbp) hfit
 have hzc:=cellsF_eq hz
 obtain ⟨_,_,hu',_⟩:=T.ok t ti h4
 rw [h5] at hu'
 have hcast : ((info.bytes : Int) * (n : Int))=((n * ei.bytes : Nat) : Int):=by rw [q4,Nat.mul_comm];simp
 have hmk:=run_make (P:=P) w t e info ei.zero hu' q1 q5 .i64 .i64 (n : Int) (n : Int) (by omega) (by omega) (by rw [hcast];omega) (by omega)
 have hrow : madeCells (⟨[z]⟩ : Array Value) (n * 1) = ⟨List.replicate n z⟩:=by
  apply Array.ext'
  simp only [madeCells,Nat.mul_one,Array.toList_map,Array.toList_range]
  apply List.ext_getElem
  ·simp
  ·intro i h1 h2
   simp [Nat.mod_one]
 rw [Int.toNat_natCast,q3,hs1,hzc,hrow] at hmk
 have hr : (execOp a.eval o).run P w = .ok (.value (.slice (some ⟨w.heap.size,0,none⟩) n n)) (w.alloc (.cells ⟨List.replicate n z⟩ e)):=by
  simp only [execOp,ho,ha.env.eval hx,ha.env.eval hy,Sem.run_bind,hmk,Result.andThen_ok,Sem.run_pure]
 simp only [Oper.wp,hr,Oper.upon,hd]
 have hp:=ha.put hN (.slice (some ⟨w.heap.size,0,none⟩) n n)
 exact ⟨_,_,_,⟨hp.size,hp.env,hp.defers,ha.st.allocCells ⟨List.replicate n z⟩ e⟩,hK _⟩
theorem run_sliceAt (T : Tab P) {t : TypeId} {sz : Nat} {s : Sl} {lo hi : Nat} {lov hiv : Option Value} {w : World} (he : T.esize t=some sz)
  (h1 : (lov=none∧lo=0) ∨ lov=some (.int .i64 (lo : Int))) (h2 : (hiv=none∧hi=s.len) ∨ hiv=some (.int .i64 (hi : Int))) (hle : lo ≤ hi) (hcap : hi ≤ s.cap) :
  (Instr.sliceAt t s.v lov hiv none).run P w = .ok (.slice (if s.cap=lo then s.a else s.a.map (·.add (lo * sz))) (hi - lo) (s.cap - lo)) w:=by
 obtain ⟨e,ei,g2,g3⟩:=esize_get he
 obtain ⟨ti,h4,h5,h6⟩:=elem_get g2
 have hu:=T.run_underlying w h4
 rw [h5] at hu
 have hs:=T.run_sizeOf w h6
 rw [g3] at hs
 have hb : (Instr.sliceBounds true s.len s.cap lov hiv none).run P w = .ok (lo,hi,s.cap) w:=by
  have q1 : ∀ y code,lo ≤ y→(Instr.sliceBound (.int .i64 (lo : Int)) y code).run P w = .ok lo w:=fun y code hy=>by
   have : (0 : Int) ≤ (lo : Int)∧(lo : Int) ≤ (y : Int):=⟨by omega,by omega⟩
   simp [Instr.sliceBound,asIntOf,this]
  have q2 : ∀ y code,hi ≤ y→(Instr.sliceBound (.int .i64 (hi : Int)) y code).run P w = .ok hi w:=fun y code hy=>by
   have : (0 : Int) ≤ (hi : Int)∧(hi : Int) ≤ (y : Int):=⟨by omega,by omega⟩
   simp [Instr.sliceBound,asIntOf,this]
  rcases h1 with ⟨rfl,rfl⟩ | rfl <;> rcases h2 with ⟨rfl,rfl⟩ | rfl
  ·simp [Instr.sliceBounds]
  ·simp [Instr.sliceBounds,q2 _ _ hcap]
  ·simp [Instr.sliceBounds,q1 _ _ hle]
  ·simp [Instr.sliceBounds,q2 _ _ hcap,q1 _ _ hle]
 simp only [Instr.sliceAt,Sem.run_bind,hu,Result.andThen_ok,Instr.slice,hb,hs,Sem.run_pure]
def evO (ρ : Env) : Option Operand→Option (Option Value)
 | none=>some none
 | some x=>match fo (ev ρ x) with
  | some v=>some (some v)
  | none=>none
theorem Agree.evalO {a : Act} {ρ : Env} (h : Agree a ρ) {x : Option Operand} {v : Option Value} (hx : evO ρ x=some v) : x.map a.eval=v:=by
 cases x with
 | none=>simp only [evO,Option.some.injEq] at hx;subst hx;rfl
 | some x =>
  simp only [evO,fo_eq] at hx
  split at hx
  ·rename_i u hu
   simp only [Option.some.injEq] at hx;subst hx
   simp [h.eval hu]
  ·cases hx
theorem SlRep.cut {H α : Type} {r : R H α} {s : Sl} {l : List α} (h : SlRep r m s l) {lo hi : Nat} (hle : lo ≤ hi) (hhi : hi ≤ l.length) :
  SlRep r m ⟨if s.cap=lo then s.a else s.a.map (·.add (lo * r.size)),hi - lo,s.cap - lo⟩ ((l.take hi).drop lo):=by
 obtain ⟨hs,h1,h2⟩:=h.cells
 have hlen:=h.len
 have hcap:=h.cap
 have hfit:=h.fit
 refine ⟨by simp;omega,by simp only;omega, ?_,(hs.take hi).drop lo,(h1.take hi).drop lo, ?_⟩
 ·exact Nat.le_trans (Nat.mul_le_mul_right _ (by simp only;omega)) hfit
 ·by_cases hc : s.cap=lo
  ·left
   refine ⟨List.eq_nil_of_length_eq_zero (by simp;omega),fun _=>by simp only;omega⟩
  ·rcases h2 with ⟨h2,h3⟩ | ⟨b,off,h3,h4⟩
   ·left
    subst h2
    simp only [List.length_nil] at hhi
    refine ⟨by simp,fun ha => ?_⟩
    simp only [if_neg hc,Option.map_eq_none_iff] at ha
    have:=h3 ha
    simp only;omega
   ·right
    refine ⟨b,off + lo * r.size,by simp only [if_neg hc,h3,Option.map_some,addr_add],fun j v hv => ?_⟩
    rw [Nat.add_assoc]
    refine h4 _ _ ?_
    have e1 : hs=(hs.take hi).take lo++((hs.take hi).drop lo++hs.drop hi):=by rw [← List.append_assoc,List.take_append_drop,List.take_append_drop]
    rw [e1,encs_append,encs_append]
    have hl1 : (encs r ((hs.take hi).take lo)).length=lo * r.size:=by
     rw [encs_len,List.length_take,List.length_take,h1.length]
     congr 1;omega
    rw [List.getElem?_append_right (by omega),hl1,show lo * r.size + j - lo * r.size=j by omega]
    rw [List.getElem?_append_left (List.getElem?_eq_some_iff.1 hv).1]
    exact hv
theorem OT.cut {H α : Type} (T : Tab P) (r : R H α) {s : Sl} {l : List α} (lo hi : Nat) {x : Operand} {lx hx : Option Operand} {lov hiv : Option Value} {t : TypeId} {d : Nat} (hs : SlRep r m s l)
  (ho : o.op = .slice t x lx hx none) (hd : o.dst=some d) (hN : Nat.blt d N=true) (he : ev ρ x=some s.v) (h1 : evO ρ lx=some lov) (h2 : evO ρ hx=some hiv) (hsz : T.esize t=some r.size)
  (g1 : (lov=none∧lo=0) ∨ lov=some (.int .i64 (lo : Int))) (g2 : (hiv=none∧hi=s.len) ∨ hiv=some (.int .i64 (hi : Int))) (hle : lo ≤ hi) (hhi : hi ≤ l.length)
  (hK : ∀ s' : Sl,SlRep r m s' ((l.take hi).drop lo)→K ((d,s'.v) :: ρ) m L) : OT P N o ρ D m L Q K:=by
 refine OT.run hd hN (fun a w ha=>⟨w, ?_,ha.st⟩) (hK _ (hs.cut hle hhi))
 have hcap:=hs.cap
 have hlen:=hs.len
 have hr:=run_sliceAt (P:=P) T (w:=w) hsz g1 g2 hle (by omega)
 simp only [execOp,ho,ha.env.eval he,ha.env.evalO h1,ha.env.evalO h2,Option.map_none,Sem.run_bind,hr,Result.andThen_ok,Sem.run_pure]
theorem OT.cutP (T : Tab P) (lo hi : Nat) {x : Operand} {lx hx : Option Operand} {lov hiv : Option Value} {t : TypeId} {d b i n c sz : Nat}
  (ho : o.op = .slice t x lx hx none) (hd : o.dst=some d) (hN : Nat.blt d N=true) (he : ev ρ x=some (.slice (some ⟨b,i,none⟩) n c)) (h1 : evO ρ lx=some lov) (h2 : evO ρ hx=some hiv) (hsz : T.esize t=some sz)
  (g1 : (lov=none∧lo=0) ∨ lov=some (.int .i64 (lo : Int))) (g2 : (hiv=none∧hi=n) ∨ hiv=some (.int .i64 (hi : Int))) (hle : lo ≤ hi) (hhi : hi ≤ c)
  (hK : K ((d, .slice (some ⟨b,if c=lo then i else i + lo * sz,none⟩) (hi - lo) (c - lo)) :: ρ) m L) : OT P N o ρ D m L Q K:=by
 refine OT.run hd hN (fun a w ha=>⟨w, ?_,ha.st⟩) hK
 have hr:=run_sliceAt (P:=P) T (s:=⟨some ⟨b,i,none⟩,n,c⟩) (w:=w) hsz g1 g2 hle hhi
 simp only [Sl.v] at hr
 simp only [execOp,ho,ha.env.eval he,ha.env.evalO h1,ha.env.evalO h2,Option.map_none,Sem.run_bind,hr,Result.andThen_ok,Sem.run_pure]
 congr 2
 split <;> simp [addr_add]
end
end Go.Sep
set_option linter.unusedVariables false
set_option linter.unusedSimpArgs false
namespace Go.Sep
structure KeyK (κ : Type) [DecidableEq κ] where
 v : κ → Value
 fits : TypeDesc→Bool
 same : ∀ d a b,fits d=true→Instr.sameNow d (v a) (v b)=some (decide (a=b))
 bits : ∀ a,Instr.sameBits 10000 (v a) (v a)=true
 check : ∀ (P : Program) (w : World) (e : Bool) (t : TypeId) (d : TypeDesc) (a : κ),fits d=true→(underlying t).run P w = .ok d w→(Instr.checkKey e 10000 t (v a)).run P w = .ok () w
section
variable {κ : Type} [DecidableEq κ]
abbrev Ents (κ : Type):=List (κ × Value × Nat)
def entE (k : KeyK κ) (e : κ × Value × Nat) : MapEntry:={ key:=k.v e.1,val:=e.2.1,born:=e.2.2 }
def mapO (k : KeyK κ) (es : Ents κ) (clock : Nat) : Obj := .map ⟨es.map (entE k)⟩ clock
def Tab.mapT {P : Program} (T : Tab P) (k : KeyK κ) (t : TypeId) : Option (TypeId × TypeId) :=
 match T.get t with
 | some ⟨.map a b,_,_,_⟩=>match T.get a with
  | some i=>bif k.fits i.u then some (a,b) else none
  | none=>none
 | _=>none
theorem mapT_get {P : Program} {T : Tab P} {k : KeyK κ} {t a b : TypeId} (h : T.mapT k t=some (a,b)) : ∃ ti i,T.get t=some ti∧ti.u = .map a b∧T.get a=some i∧k.fits i.u=true:=by
 unfold Tab.mapT at h
 split at h
 ·rename_i a' b' x y z hg
  split at h
  ·rename_i i hi
   cases hb : k.fits i.u with
   | false=>simp [hb] at h
   | true =>
    simp only [hb,cond_true,Option.some.injEq,Prod.mk.injEq] at h
    obtain ⟨rfl,rfl⟩:=h
    exact ⟨_,i,hg,rfl,hi,hb⟩
  ·cases h
 ·cases h
variable {P : Program} {N : Nat} {ρ : Env} {D : List Deferred} {m : Mem} {L : List Item} {Q : EPost} {full : List Oper} {o : Oper} {K : Env→Mem→List Item→Prop}
theorem OT.makeMap (k : KeyK κ) {t : TypeId} {d : Nat} (ho : o.op = .makeMap t none) (hd : o.dst=some d) (hN : Nat.blt d N=true)
  (hK : ∀ b,K ((d, .map (some b)) :: ρ) m (.obj b (mapO k [] 0) :: L)) : OT P N o ρ D m L Q K:=by
 intro a w ha
 have hr : (execOp a.eval o).run P w = .ok (.value (.map (some w.heap.size))) (w.alloc (.map #[] 0)):=by
  simp only [execOp,ho,Option.map_none,Instr.makeMap,Sem.run_bind,Sem.run_pure,run_newObj,Result.andThen_ok,World.alloc_eq]
 simp only [Oper.wp,hr,Oper.upon,hd]
 have hp:=ha.put hN (.map (some w.heap.size))
 exact ⟨_,_,_,⟨hp.size,hp.env,hp.defers,ha.st.allocObj (.map #[] 0) rfl⟩,hK _⟩
end
end Go.Sep
set_option linter.unusedVariables false
set_option linter.unusedSimpArgs false
namespace Go.Sep
theorem St.room0 {m : Mem} {w : World} {L : List Item} (h : St m w L) (b off : Nat) : St m w (.room b off 0 :: L):=by
 refine h.ofItems (fun y hy => ?_) (fun y hy => ?_) (List.pairwise_cons.2 ⟨fun y hy => .inl rfl,h.disj⟩)
 ·rcases List.mem_cons.1 hy with rfl | hy
  ·intro j hj;omega
  ·exact h.items y hy
 ·rcases List.mem_cons.1 hy with rfl | hy
  ·exact ⟨fun hl=>by simp [Item.len] at hl,fun j hj=>by simp [Item.len] at hj,fun _ _ e=>by cases e⟩
  ·exact h.free y hy
@[reducible] def Made (m : Mem) (L : List Item) (X : Value→Mem→Prop) : Value→Mem→List Item→Prop:=fun r m' L'=>m ≤ m' ∧ L=L' ∧ X r m'
section
variable {P : Program} {N : Nat} {ρ : Env} {D : List Deferred} {m : Mem} {L : List Item} {Q : EPost} {full : List Oper} {o : Oper} {K : Env→Mem→List Item→Prop}
theorem TC.room0 {c : Code} (b off : Nat) (h : TC P N c ρ D m (.room b off 0 :: L) Q) : TC P N c ρ D m L Q:=fun a w ha=>h a w ⟨ha.size,ha.env,ha.defers,ha.st.room0 b off⟩
theorem TO.room0 {l : List Oper} (b off : Nat) (h : TO P N ⟨full⟩ l ρ D m (.room b off 0 :: L) Q) : TO P N ⟨full⟩ l ρ D m L Q:=fun a w ha=>h a w ⟨ha.size,ha.env,ha.defers,ha.st.room0 b off⟩
theorem TC.grow0 {c : Code} {size : Nat} (h : TC P N c ρ D m (tok ⟨none,0,0⟩ size :: L) Q) : TC P N c ρ D m L Q:=TC.room0 0 0 h
theorem TO.grow0 {l : List Oper} {size : Nat} (h : TO P N ⟨full⟩ l ρ D m (tok ⟨none,0,0⟩ size :: L) Q) : TO P N ⟨full⟩ l ρ D m L Q:=TO.room0 0 0 h
theorem tok_lit (b size : Nat) : tok ⟨some ⟨b,0,none⟩,0,0⟩ size = .room b 0 0:=by simp [tok]
theorem TC.growL {c : Code} (b size : Nat) (h : TC P N c ρ D m (tok ⟨some ⟨b,0,none⟩,0,0⟩ size :: L) Q) : TC P N c ρ D m L Q:=TC.room0 b 0 (by rw [tok_lit] at h;exact h)
theorem TO.growL {l : List Oper} (b size : Nat) (h : TO P N ⟨full⟩ l ρ D m (tok ⟨some ⟨b,0,none⟩,0,0⟩ size :: L) Q) : TO P N ⟨full⟩ l ρ D m L Q:=TO.room0 b 0 (by rw [tok_lit] at h;exact h)
theorem Own.lit (b n c : Nat) : Own ⟨some ⟨b,0,none⟩,n,c⟩ := .inr ⟨b,0,rfl⟩
theorem Own.nil : Own ⟨none,0,0⟩ := .inl rfl
end
theorem OT.perm {P : Program} {N : Nat} {ρ : Env} {D : List Deferred} {m : Mem} {L L' : List Item} {Q : EPost} {o : Oper} {K : Env→Mem→List Item→Prop} (hp : L.Perm L') (h : OT P N o ρ D m L' Q K) : OT P N o ρ D m L Q K :=
 fun a w ha=>h a w ⟨ha.size,ha.env,ha.defers,ha.st.perm hp⟩
theorem perm_mid {α : Type} {x : α} {l l' : List α} : (x :: (l++l')).Perm (l++(x :: l')):=List.perm_middle.symm
structure Grow where
 k : Nat
 s : Sl
 m : Mem
end Go.Sep
set_option linter.unusedVariables false
set_option linter.unusedSimpArgs false
namespace Go.Sep
theorem map_get {α β : Type} (f : α → β) {xs : List α} {k : Nat} {x : α} (h : xs[k]? = some x) : (xs.map f)[k]? = some (f x):=by simp [h]
section
variable {P : Program} {N : Nat} {ρ : Env} {D : List Deferred} {m : Mem} {L : List Item} {Q : EPost} {full : List Oper} {o : Oper} {K : Env→Mem→List Item→Prop}
variable {ops : List Oper} {ts : List Nat} {fuel : Nat} {listed : List Bool} {Ls Lp : List Item}
theorem OT.storeM {α : Type} (T : Tab P) (i : Nat) (f : α → Value) {xs : List α} (x0 : α) {x y : Operand} {t : TypeId} {b off k : Nat} (ho : o.op = .store t x y) (hd : o.dst=none)
  (hx : ev ρ x=some (.pointer (some ⟨b,off + k * 1,none⟩))) (hy : ev ρ y=some (f x0)) (hv : cellsF (f x0)=some [f x0]) (hs : T.sizeOk t [f x0]=true) (hi : L[i]? = some (.cells b off (xs.map f))) (hk : k < xs.length)
  (hK : K ρ m (L.set i (.cells b off ((xs.set k x0).map f)))) : OT P N o ρ D m L Q K :=
 OT.storeG (k:=k * 1) T i ho hd hx hy hv hs hi (by simp;omega) (by
  have e : putAt (xs.map f) (k * 1) [f x0]=(xs.set k x0).map f:=by simp [putAt,List.map_set]
  rw [e];exact hK)
theorem OT.makeM {α : Type} (T : Tab P) (f : α → Value) (x0 : α) (n : Nat) {t : TypeId} {d : Nat} {iv : Int} {x y : Operand} {e : TypeId} {ei : TI} (hiv : iv=(n : Int)) (ho : o.op = .makeSlice t x y) (hd : o.dst=some d) (hN : Nat.blt d N=true)
  (hx : ev ρ x=some (.int .i64 iv)) (hy : ev ρ y=some (.int .i64 iv)) (he : T.elem t=some (e,ei)) (hs : Nat.beq ei.size 1=true) (hz : cellsF ei.zero=some [f x0]) (hfit : n * ei.bytes ≤ 281474976710656) (hb : Nat.blt 0 ei.bytes=true)
  (hK : ∀ b,K ((d, .slice (some ⟨b,0,none⟩) n n) :: ρ) m (.cells b 0 ((List.replicate n x0).map f) :: L)) : OT P N o ρ D m L Q K:=by
 subst hiv
 exact OT.make T ho hd hN hx hy he hs hz hfit hb (fun b=>by have:=hK b;rw [List.map_replicate] at this;exact this)
end
def OwnRows {H α : Type} (r : R H α) (m : Mem) : List Sl→List (List α)→Prop:=All2 fun s l=>Own s∧SlRep r m s l
theorem OwnRows.mono {H α : Type} {r : R H α} {m m' : Mem} {ss : List Sl} {ls : List (List α)} (h : OwnRows r m ss ls) (hm : m ≤ m') : OwnRows r m' ss ls:=All2.mono (fun _ _ h=>⟨h.1,h.2.mono hm⟩) h
theorem All2.set {H α : Type} {r : H → α → Prop} : ∀ {hs : List H} {as1 : List α} (k : Nat) {h : H} {a : α},All2 r hs as1→r h a→All2 r (hs.set k h) (as1.set k a)
 | [],[],k,_,_,h1,_=>trivial
 | x :: xs,y :: ys,0,_,_,h1,h2=>⟨h2,h1.2⟩
 | x :: xs,y :: ys,k + 1,_,_,h1,h2=>⟨h1.1,All2.set k h1.2 h2⟩
theorem OwnRows.rows {H α : Type} {r : R H α} {m : Mem} {ss : List Sl} {ls : List (List α)} (h : OwnRows r m ss ls) : All2 ((rSl r).rep m) ss ls:=All2.mono (fun _ _ h=>h.2) h
theorem OwnRows.empty {H α : Type} (r : R H α) (m : Mem) (n : Nat) : OwnRows r m (List.replicate n ⟨none,0,0⟩) (List.replicate n []):=by
 induction n with
 | zero=>exact trivial
 | succ n ih=>exact ⟨⟨Own.nil,SlRep.nil r m⟩,ih⟩
section
variable {P : Program} {N : Nat} {ρ : Env} {D : List Deferred} {m : Mem} {L : List Item} {Q : EPost} {full : List Oper}
end
theorem OwnRows.whole {H α : Type} {r : R H α} {m : Mem} {ss : List Sl} {ls : List (List α)} {b n : Nat} (h : OwnRows r m ss ls) (hA : At m b 0 (ss.map Sl.v)) (hn : n=ls.length) (hfit : n * 24 ≤ 140737488355328) :
  SlRep (rSl r) m ⟨some ⟨b,0,none⟩,n,n⟩ ls:=by
 refine ⟨hn,Nat.le_refl _,hfit,ss,h.rows, .inr ⟨b,0,rfl, ?_⟩⟩
 have e : encs (rSl r) ss=ss.map Sl.v:=by
  simp only [encs,rSl]
  clear h hA
  induction ss with
  | nil=>rfl
  | cons x xs ih=>simpa using ih
 rw [e];exact hA
end Go.Sep
set_option linter.unusedVariables false
set_option linter.unusedSimpArgs false
namespace Go.Sep
def mcell (s : Sl) (vs : List Value) : Item:=match s.a with
 | none => .cells 0 0 vs
 | some a => .cells a.block a.off vs
structure MS (s : Sl) (vs : List Value) : Prop where
 len : s.len ≤ s.cap
 all : vs.length=s.cap
 adr : (s = ⟨none,0,0⟩) ∨ ∃ b o,s.a=some ⟨b,o,none⟩
theorem MS.nil : MS ⟨none,0,0⟩ []:=⟨Nat.le_refl _,rfl, .inl rfl⟩
theorem MS.at_ (b o n c : Nat) (vs : List Value) (h : n ≤ c) (hv : vs.length=c) : MS ⟨some ⟨b,o,none⟩,n,c⟩ vs:=⟨h,hv, .inr ⟨b,o,rfl⟩⟩
section
variable {P : Program} {N : Nat} {ρ : Env} {D : List Deferred} {m : Mem} {L : List Item} {Q : EPost} {full : List Oper} {o : Oper} {K : Env→Mem→List Item→Prop}
theorem run_push (T : Tab P) {t t2 e e2 ty : TypeId} {ei ei2 : TI} {w : World} {s s2 : Sl} {vs news : List Value} (he : T.elem t=some (e,ei)) (he2 : T.elem t2=some (e2,ei2))
  (hw : St m w (mcell s vs :: L)) (hM : MS s vs) (hsz : ei.size=1) (hy : Src w s2 ei.size news) (hn : 0 < s2.len) (h1 : allOne news=true) (hzs : ei.zero.cells.size=ei.size)
  (hb : 0 < ei.bytes) (hfit : (s.len + s2.len) * ei.bytes ≤ 140737488355328) :
  ∃ s' vs' w',(Builtin.append_ #[t,t2] ty #[s.v,s2.v]).run P w = .ok s'.v w' ∧ St m w' (mcell s' vs' :: L)∧MS s' vs' ∧ s'.len=s.len + s2.len∧vs'.take s'.len=vs.take s.len++news:=by
 obtain ⟨ti,h4,h5,h6⟩:=elem_get he
 obtain ⟨ti2,k4,k5,k6⟩:=elem_get he2
 obtain ⟨_,_,hu,_⟩:=T.ok t ti h4
 rw [h5] at hu
 obtain ⟨_,_,hu2,_⟩:=T.ok t2 ti2 k4
 rw [k5] at hu2
 obtain ⟨info,q1,q2,q3,q4,q5⟩:=T.ok e ei h6
 have hnew:=run_first (P:=P) hy
 have hbound : s.len + s2.len ≤ 140737488355328:=Nat.le_trans (Nat.le_mul_of_pos_right _ hb) hfit
 have hnl : news.length=s2.len:=by rw [hy.1,hsz,Nat.mul_one]
 have hcap:=hM.len
 have hall:=hM.all
 have hsrc : Src w s ei.size (vs.take s.len):=by
  refine ⟨by rw [hsz,List.length_take];omega, ?_⟩
  rcases hM.adr with h | ⟨b,o,h⟩
  ·left;rw [h]
  ·right
   refine ⟨b,o,h,fun j v hv => ?_⟩
   have hc:=hw.cells (i:=0) (b:=b) (off:=o) (vs:=vs) (by simp [mcell,h])
   refine hc j v ?_
   rw [List.getElem?_take] at hv
   split at hv
   ·exact hv
   ·cases hv
 by_cases hroom : s.len + s2.len ≤ s.cap
 ·rcases hM.adr with hnil | ⟨b,o,ha⟩
  ·subst hnil;simp only at hroom;omega
  ·obtain ⟨a,n,c⟩:=s
   simp only at ha hroom hcap hbound hfit hall hsrc
   subst ha
   simp only [mcell] at hw
   obtain ⟨w',hr,hst'⟩:=run_storeCells (P:=P) news vs n 0 w hw h1 (by omega)
   refine ⟨⟨some ⟨b,o,none⟩,n + s2.len,c⟩,putAt vs n news,w', ?_,hst',⟨hroom,by rw [putAt_length];exact hall, .inr ⟨b,o,rfl⟩⟩,rfl, ?_⟩
   ·have hr' : (storeCells ((⟨b,o,none⟩ : Addr).add n) news).run P w = .ok () w':=by rw [addr_add];exact hr
    simp only [Sl.v] at hnew
    simp [Builtin.append_,run_underlying hu,run_underlying hu2,sizeOf,typeInfo,q1,q3,Builtin.lenOf,hroom,hnew,hr',hsz] at hnew ⊢
    simp [hnew,hr']
   ·have e:=putAt_front news (vs.drop n) (by simp;omega) (vs.take n)
    rw [List.take_append_drop,show (vs.take n).length=n by simp;omega] at e
    simp only [e]
    rw [List.take_append_of_le_length (by simp;omega),List.take_of_length_le (by simp;omega)]
 ·have hlt : s.cap < s.len + s2.len:=by omega
  have h48 : ¬ (Builtin.nextslicecap (s.len + s2.len) s.cap * ei.bytes > 281474976710656):=by
   have:=growslice_fits hlt hfit
   omega
  have hold:=run_first (P:=P) (hsrc.drew)
  have hnew':=run_first (P:=P) (hy.drew)
  obtain ⟨nc,hnc,hge⟩ : ∃ nc,nc=(Question.appendCap (s.len + s2.len) s.cap e).cut (w.tape w.drawn (.appendCap (s.len + s2.len) s.cap e))∧s.len + s2.len ≤ nc:=⟨_,rfl,by simp [Question.cut]⟩
  have hst:=(hw.sub (List.sublist_cons_self _ _)).drew.allocCells ((⟨vs.take s.len⟩ : Array Value)++(⟨news⟩ : Array Value)++Builtin.zeroCells ei.zero.cells (nc - (s.len + s2.len))) e
  refine ⟨⟨some ⟨w.heap.size,0,none⟩,s.len + s2.len,nc⟩,_,w.drew.alloc (.cells ((⟨vs.take s.len⟩ : Array Value)++(⟨news⟩ : Array Value)++Builtin.zeroCells ei.zero.cells (nc - (s.len + s2.len))) e), ?_,hst,⟨hge, ?_, .inr ⟨_,_,rfl⟩⟩,rfl, ?_⟩
  ·simp only [Sl.v] at hold hnew'
   have hb0 : ei.bytes ≠ 0:=by omega
   have hmax : ¬ (9223372036854775807 < (s.len : Int) + (s2.len : Int)):=by omega
   simp [Builtin.append_,run_underlying hu,run_underlying hu2,sizeOf,typeInfo,zeroValue,q1,q3,q4,q5,Builtin.lenOf,hroom,hold,hnew',h48,hmax,Question.forced,newRow,← hnc,IntKind.max,IntKind.signed,IntKind.bits,hb0]
   congr 2
   apply Array.ext'
   simp
  ·have:=size_zeroCells ei.zero.cells (nc - (s.len + s2.len))
   rw [hzs,hsz,Nat.mul_one] at this
   simp [this]
   omega
  ·simp only [Array.toList_append]
   rw [List.append_assoc,← List.append_assoc,List.take_append_of_le_length (by simp;omega),List.take_of_length_le (by simp;omega)]
theorem OT.push (T : Tab P) {s : Sl} {vs : List Value} {v : Value} {b : Nat} {x y : Operand} {t t2 : TypeId} {d bytes : Nat} (hM : MS s vs)
  (ho : o.op = .call ⟨.builtin .append,⟨[x,y]⟩,⟨[t,t2]⟩⟩) (hd : o.dst=some d) (hN : Nat.blt d N=true) (hx : ev ρ x=some s.v) (hy : ev ρ y=some (.slice (some ⟨b,0,none⟩) 1 1)) (hT : T.okElem t t2 1 bytes=true) (h1 : allOne [v]=true)
  (hfit : (s.len + 1) * bytes ≤ 140737488355328)
  (hK : ∀ s' vs',MS s' vs' → s'.len=s.len + 1→vs'.take (s.len + 1)=vs.take s.len++[v]→K ((d,s'.v) :: ρ) m (mcell s' vs' :: L)) : OT P N o ρ D m (.cells b 0 [v] :: mcell s vs :: L) Q K:=by
 obtain ⟨e,e2,ei,ei2,q1,q2,q3,q4,q5,q6⟩:=okElem_get hT
 intro ac w ha
 have hb : 0 < ei.bytes:=by omega
 have hcells:=ha.st.cells (i:=0) rfl
 have hsub : St m w (mcell s vs :: L):=ha.st.sub (List.sublist_cons_self _ _)
 have hsrc : Src w ⟨some ⟨b,0,none⟩,1,1⟩ ei.size [v]:=⟨by rw [q3];rfl, .inr ⟨b,0,rfl,hcells⟩⟩
 obtain ⟨s',vs',w',hr,g1,g2,g3,g4⟩:=run_push (P:=P) (ty:=o.type) T q1 q2 hsub hM q3 hsrc (by simp) h1 q6 hb (by rw [q4];exact hfit)
 have he : (execOp ac.eval o).run P w = .ok (.value s'.v) w':=by
  simp only [execOp,ho,resolve,invoke,builtin,Sem.run_bind,Sem.run_pure,Result.andThen_ok,List.map_toArray,List.map_cons,List.map_nil,ha.env.eval hx,ha.env.eval hy]
  simp only [List.map_toArray,List.map_cons,List.map_nil,ha.env.eval hx,ha.env.eval hy,hr,Result.andThen_ok]
 simp only [Oper.wp,he,Oper.upon]
 rw [hd]
 have hp:=ha.put hN s'.v
 refine ⟨_,_,_,⟨hp.size,hp.env,hp.defers,g1⟩,hK s' vs' g2 g3 ?_⟩
 rw [← g4,g3]
end
section
variable {P : Program} {N : Nat} {ρ : Env} {D : List Deferred} {m : Mem} {Q : EPost} {ops : List Oper} {ts : List Nat} {fuel : Nat} {listed : List Bool} {Ls Lp : List Item}
end
structure MQ {α : Type} (f : α → Value) (s : Sl) (vs : List Value) (xs : List α) : Prop where
 ms : MS s vs
 eq : vs.take s.len=xs.map f
theorem MQ.nil {α : Type} (f : α → Value) : MQ f ⟨none,0,0⟩ [] []:=⟨MS.nil,rfl⟩
theorem MQ.len {α : Type} {f : α → Value} {s : Sl} {vs : List Value} {xs : List α} (h : MQ f s vs xs) : s.len=xs.length:=by
 have:=congrArg List.length h.eq
 have h1:=h.ms.len
 have h2:=h.ms.all
 simp at this
 omega
theorem MQ.push {α : Type} {f : α → Value} {s s' : Sl} {vs vs' : List Value} {xs : List α} (h : MQ f s vs xs) (x : α) (hM : MS s' vs') (hl : s'.len=s.len + 1) (ht : vs'.take (s.len + 1)=vs.take s.len++[f x]) : MQ f s' vs' (xs++[x]) :=
 ⟨hM,by rw [hl,ht,h.eq,List.map_append];rfl⟩
theorem MQ.get {α : Type} {f : α → Value} {s : Sl} {vs : List Value} {xs : List α} (h : MQ f s vs xs) {k : Nat} {x : α} (hx : xs[k]? = some x) : vs[k]? = .some (f x):=by
 have h1 : (vs.take s.len)[k]? = some (f x):=by rw [h.eq];exact map_get f hx
 rw [List.getElem?_take] at h1
 split at h1
 ·exact h1
 ·cases h1
theorem MQ.pop {α : Type} {f : α → Value} {b o c : Nat} {vs : List Value} {xs : List α} {n : Nat} (h : MQ f ⟨.some ⟨b,o,Option.none⟩,n,c⟩ vs xs) {k : Nat} (hk : k ≤ n) : MQ f ⟨.some ⟨b,o,Option.none⟩,k,c⟩ vs (xs.take k):=by
 have h1:=h.ms.len
 simp only at h1
 refine ⟨⟨by simp only;omega,h.ms.all, .inr ⟨b,o,rfl⟩⟩, ?_⟩
 have:=h.eq
 simp only at this ⊢
 rw [List.map_take,← this,List.take_take]
 congr 1;omega
end Go.Sep
set_option linter.unusedVariables false
set_option linter.unusedSimpArgs false
namespace Go.Sep
section
variable {P : Program} {N : Nat} {ρ : Env} {D : List Deferred} {m : Mem} {L : List Item} {Q : EPost} {o : Oper} {K : Env→Mem→List Item→Prop}
theorem equalIn_nilSlice {t e : TypeId} {w : World} (dd : Nat) (hu : (underlying t).run P w = .ok (.slice e) w) (s : Sl) :
  (Op.equalIn (dd + 1) t s.v (.slice none 0 0)).run P w = .ok (decide (s.a=none)) w:=by
 obtain ⟨a,n,c⟩:=s
 cases a with
 | none=>simp only [Sl.v,Op.equalIn,Sem.run_bind,hu,Result.andThen_ok,Sem.run_pure];rfl
 | some a=>simp only [Sl.v,Op.equalIn,Sem.run_bind,hu,Result.andThen_ok,Sem.run_pure];rfl
theorem run_nilSlice (T : Tab P) {t e : TypeId} {ei : TI} {s : Sl} {w : World} {X Y : Operand} (he : T.elem t=some (e,ei)) :
  (do eqGuard .eql t X Y s.v (.slice none 0 0);binOp .eql t s.v (.slice none 0 0) : Sem Value).run P w = .ok (.bool (decide (s.a=none))) w:=by
 obtain ⟨ti,h4,h5,h6⟩:=elem_get he
 have hu:=T.run_underlying w h4
 rw [h5] at hu
 have h:=equalIn_nilSlice (P:=P) 9999 hu s
 have e1 : binOp .eql t s.v (.slice none 0 0)=(do pure (.bool (← Op.equalIn (9999 + 1) t s.v (.slice none 0 0))) : Sem Value):=rfl
 have e2 : (eqGuard .eql t X Y s.v (.slice none 0 0)).run P w = .ok () w:=by simp [eqGuard,Sl.v]
 rw [e1]
 simp only [Sem.run_bind,e2,Result.andThen_ok,h,Sem.run_pure]
theorem OT.nilSlice (T : Tab P) {t t' e : TypeId} {ei : TI} {s : Sl} {x y : Operand} {d : Nat} (ho : o.op = .binOp .eql t x y t') (hd : o.dst=some d) (hN : Nat.blt d N=true)
  (hx : ev ρ x=some s.v) (hy : ev ρ y=some (.slice none 0 0)) (he : T.elem t=some (e,ei)) (hK : K ((d, .bool (decide (s.a=none))) :: ρ) m L) : OT P N o ρ D m L Q K:=by
 refine OT.run hd hN (fun a w ha=>⟨w, ?_,ha.st⟩) hK
 have hr:=run_nilSlice (P:=P) T (s:=s) (w:=w) (X:=x) (Y:=y) he
 simp only [Sem.run_bind] at hr
 simp only [execOp,ho,ha.env.eval hx,ha.env.eval hy,Sem.run_bind]
 revert hr
 cases (eqGuard BinOp.eql t x y s.v (Value.slice none 0 0)).run P w with
 | ok u w'=>intro hr;simp only [Result.andThen_ok] at hr ⊢;rw [hr];rfl
 | _=>intro hr;cases hr
theorem retQ_ret_c (T : Tab P) (i : Nat) {fn : Func} {R : Value→Mem→List Item→Prop} {X : List PanicEntry→Mem→List Item→Prop} {t u : Nat} {ty : TypeId} {b : Nat} {cs : List Value} {v v2 : Value} {L' : List Item}
  (hres : fn.results = ⟨[.cell t ty, .tmp u]⟩) (ht : look ρ t=some (.pointer (some ⟨b,0,none⟩))) (hi : L[i]? = some (.cells b 0 cs)) (hv : T.load ty cs 0=some v) (hu : look ρ u=some v2) (hs : L'.Sublist L)
  (h : R (.tuple ⟨[v,v2]⟩) m L') : retQ P fn R X .ret ρ [] m L:=by
 refine ⟨rfl,_,L',fun a w hA hst => ?_,hs,h⟩
 have h1:=run_loadVar (P:=P) T (k:=0) (hst.cells hi) hv
 have h2:=hA t _ ht
 have h3:=hA u _ hu
 unfold results
 rw [hres,Array.mapM_eq_mapM_toList]
 simp [Sem.run_bind,Sem.run_map,h2,h3,asAddr,h1]
end
end Go.Sep
set_option linter.unusedVariables false
set_option linter.unusedSimpArgs false
namespace Go.Sep
def AllL {α : Type} (p : α → Prop) : List α → Prop
 | []=>True
 | x :: xs=>p x∧AllL p xs
theorem AllL.mem {α : Type} {p : α → Prop} : ∀ {l : List α},AllL p l → ∀ x ∈ l,p x
 | [],_,x,h=>by cases h
 | y :: ys,h,x,hx=>by
  rcases List.mem_cons.1 hx with rfl | hx
  ·exact h.1
  ·exact h.2.mem x hx
section
variable {P : Program} {N : Nat} {ρ : Env} {D : List Deferred} {m : Mem} {L Ls Lp : List Item} {Q : EPost} {ops : List Oper} {ts : List Nat} {fuel : Nat} {listed : List Bool}
def Fork (P : Program) (N : Nat) (ops : List Oper) (ts : List Nat) (fuel : Nat) (listed : List Bool) (ρ : Env) (D : List Deferred) (m : Mem) (Ls Lp : List Item) (Q : EPost) (i : Nat) : Prop :=
 ∃ o,ops[i]? = some o∧gv ops ρ o=some true∧ts.contains i=false ∧
  OT P N o ρ D m (Ls++Lp) Q (fun ρ' m' L'=>m ≤ m' ∧ ∃ Lp',L'.Perm (Ls++Lp')∧DO P N ops ts fuel (listed.set i true) ρ' D m' Ls Lp' Q)
theorem DO.fork (i : Nat) (is : List Nat) (hr : Region.ready .any ⟨ops⟩ ⟨listed⟩ = i :: is) (h : AllL (Fork P N ops ts fuel listed ρ D m Ls Lp Q) (i :: is)) : DO P N ops ts (fuel + 1) listed ρ D m Ls Lp Q:=by
 intro a w ha
 refine ⟨fun h0=>(by rw [hr] at h0;cases h0),fun j hj => ?_⟩
 rw [hr] at hj
 obtain ⟨o,hi,hg,ht,h1⟩:=h.mem j hj
 have hi' : (⟨ops⟩ : Array Oper)[j]? = some o:=by simpa using hi
 have e : (⟨listed⟩ : Array Bool).setIfInBounds j true = ⟨listed.set j true⟩:=by
  apply Array.ext';simp
 unfold wpOp
 simp only [hi',gv_wanted hg ha.env,if_true]
 refine .inl (Oper.wp_mono ?_ (h1 a w ha))
 rintro a' w' ⟨ρ',m',L',h1,h2,Lp',h3,h4⟩
 have h5 : Ok N ρ' D m' (Ls++Lp') a' w':=h1.perm h3
 refine ⟨fun _=>⟨m',Lp',h2,h5.st⟩, ?_⟩
 rw [e]
 refine wpAnyT_strong ?_ _ _ _ _ (h4 a' w' h5)
 rintro w2 ⟨m2,L2,g1,g2⟩
 exact ⟨m2,L2,Mem.le_trans h2 g1,g2⟩
theorem TC.cutT {ι : Type} {x y : Code} (ks : List Nat) {ρc : Env} (hk : pickEnv ρ ks=some ρc) (sρ : ι → Env) (sm : ι → Mem) (sL : ι → List Item) (I : ι → Prop)
  (hx : TC P N x ρ D m L (thenQ (fun ρ' D' m' L' => ∃ i,Has ρ' (sρ i)∧Has ρ' ρc∧D' = D∧m' = sm i∧(sL i).Sublist L' ∧ I i) Q))
  (hy : ∀ i,I i→TC P N y (sρ i ++ ρc) D (sm i) (sL i) Q) : TC P N x ρ D m L (thenQ (fun ρ' D' m' L'=>TC P N y ρ' D' m' L' Q) Q) :=
 hx.mono fun e ρ' D' m' L' h=>by
  cases e with
  | normal =>
   obtain ⟨i,h1,h2,h3,h4,h5,h6⟩:=(show ∃ i,Has ρ' (sρ i)∧Has ρ' ρc∧_ from h)
   subst h3;subst h4
   exact (show TC P N y ρ' D' (sm i) L' Q from fun a w ha=>hy i h6 a w ((ha.sub (h1.append h2).sub).sublist h5))
  | _=>exact h
end
theorem pf1 {α : Type} {a b : α} {l : List α} : (a :: b :: l).Perm (b :: a :: l):=List.Perm.swap _ _ _
theorem pf3 {α : Type} {a b c d : α} {l : List α} : (a :: b :: c :: d :: l).Perm (d :: a :: b :: c :: l):=List.perm_middle (l₁:=[a,b,c])
end Go.Sep
