/-
  Part 3 of the proof: library, walks and plain laws.
-/
import Derived.Recover
import Derived.Test.YtiknfjdjbhbjhaaGreatDoorB2
set_option linter.unusedVariables false
set_option linter.unusedSimpArgs false
namespace Go.Sep
section
variable {P : Program} {N : Nat} {ρ : Env} {D : List Deferred} {m : Mem} {L : List Item} {Q : EPost} {full : List Oper} {o : Oper} {K : Env→Mem→List Item→Prop}
theorem OT.panic {x : Operand} {t : TypeId} {v : Value} (ho : o.op = .panic x) (hx : ev ρ x=some (.iface t v)) (hQ : Q (.panic [{ v := .iface t v,recovered:=false }]) ρ D m L) : OT P N o ρ D m L Q K:=by
 intro a w ha
 have hr : (execOp a.eval o).run P w = .halt (.panic (.iface t v)) w:=by
  simp only [execOp,ho,ha.env.eval hx,Instr.panic,goPanic]
  rfl
 simp only [Oper.wp,hr,Oper.upon]
 exact ⟨ρ,D,m,L,ha,hQ⟩
theorem TO.defer {l : List Oper} {F : Operand} {args : List Operand} {ats : Array TypeId} {fn : Fn} {cap : List Value} {vs : List Value}
  (hg : gv full ρ o=some true) (ho : o.op = .defer ⟨.value F,⟨args⟩,ats⟩) (hd : o.dst=none) (hF : ev ρ F=some (.func fn ⟨[]⟩ ⟨cap⟩)) (ha : evs ρ args=some vs)
  (hK : TO P N ⟨full⟩ l ρ ({ target := .fn fn ⟨cap⟩,args:=⟨vs⟩ } :: D) m L Q) : TO P N ⟨full⟩ (o :: l) ρ D m L Q:=by
 intro a w hok
 have he : (execOp a.eval o).run P w = .ok (.defer { target := .fn fn ⟨cap⟩,args:=⟨vs⟩ }) w:=by
  have e1:=hok.env.evals ha
  simp only [execOp,ho,resolve,hok.env.eval hF,Deferred.ofValue,Sem.run_bind,Sem.run_pure,Result.andThen_ok]
  congr 2
  simp [e1]
 refine wpList_yes (gv_wanted hg hok.env) ?_
 simp only [Oper.wp,he,Oper.upon,hd]
 exact hK { a with defers:={ target := .fn fn ⟨cap⟩,args:=⟨vs⟩ } :: a.defers } w ⟨hok.size,hok.env,by rw [hok.defers],hok.st⟩
def recPair (cs : List Frame) : Value × List Frame :=
 match recoverD cs with
 | some x=>x
 | none=>(.nilIface,cs)
theorem wpS_rec {o0 o1 : Oper} {d0 d1 id : Nat} {QS : Exit→Act→List Frame→World→Prop} {a : Act} {cs : List Frame} {w : World} (h0 : o0.op = .call ⟨.builtin .recover,⟨[]⟩,⟨[]⟩⟩) (hd0 : o0.dst=some d0) (g0 : o0.guard=none) (h1 : o1.op = .assign (.tmp d0)) (hd1 : o1.dst=some d1) (g1 : o1.guard=none)
  (hsz : d0 < a.tmps.size) (hQ : QS .normal ((a.put (some d0) (recPair cs).1).put (some d1) (recPair cs).1) (recPair cs).2 w) : (Code.region id ⟨[o0,o1]⟩ false).wpS P QS a cs w:=by
 apply wpS_region
 have hr : (execOp a.eval o0).run P w = .ok .recover w:=by
  simp [execOp,h0,resolve,invoke,go_sem]
 have e : List.range (⟨[o0,o1]⟩ : Array Oper).size=[0,1]:=rfl
 have w0 : ∀ y,Region.wanted o0 y=true:=fun y=>by simp [Region.wanted,g0]
 have w1 : ∀ y,Region.wanted o1 y=true:=fun y=>by simp [Region.wanted,g1]
 rw [e]
 have i0 : (⟨[o0,o1]⟩ : Array Oper)[0]? = some o0:=rfl
 have i1 : (⟨[o0,o1]⟩ : Array Oper)[1]? = some o1:=rfl
 have step1 : ∀ (v : Value) (cs' : List Frame),QS .normal ((a.put (some d0) v).put (some d1) v) cs' w→wpOpsS P ⟨[o0,o1]⟩ QS [1] (a.put (some d0) v) cs' w:=by
  intro v cs' hq
  have hv : (a.put (some d0) v).eval (.tmp d0)=v:=by simp [Act.put,Act.eval,hsz]
  have hr1 : (execOp (a.put (some d0) v).eval o1).run P w = .ok (.value v) w:=by simp [execOp,h1,hv]
  simp only [wpOpsS,i1,w1,if_true,hr1,Oper.upon,hd1]
  exact hq
 unfold recPair at hQ
 unfold wpOpsS
 simp only [i0,w0,if_true,hr,hd0]
 cases hc : recoverD cs with
 | none=>rw [hc] at hQ;exact step1 _ _ hQ
 | some x=>obtain ⟨v,cs'⟩:=x;rw [hc] at hQ;exact step1 _ _ hQ
end
def quietQ (K : Env→List Deferred→Mem→List Item→Prop) : EPost
 | .normal, ρ,D,m,L=>K ρ D m L
 | _,_,_,_,_=>False
theorem Calm.quiet {K : Env→List Deferred→Mem→List Item→Prop} : Calm (quietQ K):=fun _ _ _ _ _ h=>h
theorem TC.quiet {P : Program} {N : Nat} {x y : Code} {ρ : Env} {D : List Deferred} {m : Mem} {L : List Item} {Q : EPost} (h : TC P N x ρ D m L (quietQ fun ρ D m L=>TC P N y ρ D m L Q)) : TC P N (.seq x y) ρ D m L Q :=
 TC.seq (h.mono fun e ρ D m L hq=>by
  cases e with
  | normal=>exact thenQ_n hq
  | _=>exact hq.elim)
theorem invoke_goes {P : Program} {f : FuncId} {cap args : List Value} {w : World} (hg : Goes P f) : (invoke (.fn (.func f) ⟨cap⟩) ⟨args⟩).run P w = .ok (.enter f ⟨args++cap⟩) w:=by
 simp only [invoke]
 rw [hg _ w]
 congr 2
 simp
end Go.Sep
set_option linter.unusedVariables false
set_option linter.unusedSimpArgs false
namespace Go.Sep
variable {κ : Type} [DecidableEq κ]
section
variable {P : Program} {N : Nat} {ρ : Env} {D : List Deferred} {m : Mem} {L : List Item} {Q : EPost} {o : Oper} {full : List Oper} {K : Env→Mem→List Item→Prop}
end
end Go.Sep
set_option linter.unusedVariables false
set_option linter.unusedSimpArgs false
namespace Go.Sep
section
variable {P : Program} {N : Nat} {ρ : Env} {D : List Deferred} {m : Mem} {L : List Item} {Q : EPost} {o : Oper} {full : List Oper} {K : Env→Mem→List Item→Prop}
end
end Go.Sep
set_option linter.unusedVariables false
set_option linter.unusedSimpArgs false
namespace Go.Sep
section
variable {P : Program} {N : Nat} {ρ : Env} {D : List Deferred} {m : Mem} {L : List Item} {Q : EPost} {full : List Oper} {o : Oper} {K : Env→Mem→List Item→Prop}
end
section
variable {κ : Type} [DecidableEq κ]
end
end Go.Sep
set_option linter.unusedVariables false
set_option linter.unusedSimpArgs false
namespace Go.Sep
theorem encs_cons {H α : Type} (r : R H α) (x : H) (xs : List H) : encs r (x :: xs)=r.enc x++encs r xs:=by simp [encs]
theorem encs_split {H α : Type} (r : R H α) {hs : List H} {k : Nat} {h : H} (hk : hs[k]? = some h) : encs r hs=encs r (hs.take k)++(r.enc h++encs r (hs.drop (k + 1))):=by
 obtain ⟨hlt,rfl⟩:=List.getElem?_eq_some_iff.1 hk
 rw [← encs_cons,← encs_append,← List.drop_eq_getElem_cons hlt,List.take_append_drop]
theorem encs_take_len {H α : Type} (r : R H α) {hs : List H} {k : Nat} {h : H} (hk : hs[k]? = some h) : (encs r (hs.take k)).length=k * r.size:=by
 obtain ⟨hlt,_⟩:=List.getElem?_eq_some_iff.1 hk
 rw [encs_len,List.length_take,Nat.min_eq_left (by omega)]
theorem encs_drop {H α : Type} (r : R H α) {hs : List H} {k : Nat} {h : H} (hk : hs[k]? = some h) (j : Nat) : (encs r hs).drop (k * r.size + j)=(r.enc h++encs r (hs.drop (k + 1))).drop j:=by
 rw [encs_split r hk,← encs_take_len r hk,List.drop_append,List.drop_of_length_le (by omega),List.nil_append]
 congr 1;omega
theorem encs_set {H α : Type} (r : R H α) {hs : List H} {k : Nat} {h : H} (hk : hs[k]? = some h) (h2 : H) : encs r (hs.set k h2)=encs r (hs.take k)++(r.enc h2++encs r (hs.drop (k + 1))):=by
 obtain ⟨hlt,_⟩:=List.getElem?_eq_some_iff.1 hk
 have hk2 : (hs.set k h2)[k]? = some h2:=by simp [hlt]
 rw [encs_split r hk2,List.take_set,List.drop_set_of_lt (by omega)]
 congr 2
 exact List.set_eq_of_length_le (by simp;omega)
theorem load_drop {P : Program} (T : Tab P) {t : TypeId} {cs cs2 : List Value} {k j : Nat} (h : cs.drop k=cs2.drop j) : T.load t cs k=T.load t cs2 j:=by
 have hg : cs[k]? = cs2[j]?:=by
  have:=congrArg List.head? h
  simpa using this
 unfold Tab.load
 rw [h,hg]
theorem load_encs {P : Program} (T : Tab P) {H α : Type} (r : R H α) {t : TypeId} {hs : List H} {k j : Nat} {h : H} {v : Value} (hk : hs[k]? = some h) (hv : ∀ rest,T.load t (r.enc h++rest) j=some v) : T.load t (encs r hs) (k * r.size + j)=some v:=by
 rw [load_drop T (encs_drop r hk j)]
 exact hv _
theorem putAt_right : ∀ (cs a b : List Value) (j : Nat),putAt (a++b) (a.length + j) cs=a++putAt b j cs
 | [],a,b,j=>rfl
 | c :: cs,a,b,j=>by
  rw [putAt,putAt,List.set_append_right _ _ (by omega),Nat.add_sub_cancel_left,Nat.add_assoc]
  exact putAt_right cs a (b.set j c) (j + 1)
theorem putAt_encs {H α : Type} (r : R H α) {hs : List H} {k j : Nat} {h h2 : H} {cs : List Value} (hk : hs[k]? = some h) (hp : ∀ rest,putAt (r.enc h++rest) j cs=r.enc h2++rest) : putAt (encs r hs) (k * r.size + j) cs=encs r (hs.set k h2):=by
 rw [encs_split r hk,encs_set r hk,← encs_take_len r hk,putAt_right,hp]
section
variable {P : Program} {N : Nat} {ρ : Env} {D : List Deferred} {m : Mem} {L : List Item} {Q : EPost} {full : List Oper} {o : Oper} {K : Env→Mem→List Item→Prop}
theorem OT.loadE {H α : Type} (T : Tab P) (i : Nat) (r : R H α) {hs : List H} {k j q : Nat} {h : H} {v : Value} {x : Operand} {t : TypeId} {b d : Nat} (hk : hs[k]? = some h) (hq : q=k * r.size + j) (hv : ∀ rest,T.load t (r.enc h++rest) j=some v) (ho : o.op = .load t x) (hd : o.dst=some d) (hN : Nat.blt d N=true)
  (hx : ev ρ x=some (.pointer (some ⟨b,q,none⟩))) (hi : L[i]? = some (.cells b 0 (encs r hs))) (hK : K ((d,v) :: ρ) m L) : OT P N o ρ D m L Q K:=by
 subst hq
 exact OT.loadL (off:=0) (k:=k * r.size + j) T i ho hd hN (by rw [Nat.zero_add];exact hx) hi (load_encs T r hk hv) hK
theorem OT.storeE {H α : Type} (T : Tab P) (i : Nat) (r : R H α) {hs : List H} {k j q : Nat} {h h2 : H} {v : Value} {cs : List Value} {x y : Operand} {t : TypeId} {b : Nat} (hk : hs[k]? = some h) (hq : q=k * r.size + j) (hp : ∀ rest,putAt (r.enc h++rest) j cs=r.enc h2++rest) (hj : j + cs.length ≤ r.size) (ho : o.op = .store t x y) (hd : o.dst=none)
  (hx : ev ρ x=some (.pointer (some ⟨b,q,none⟩))) (hy : ev ρ y=some v) (hv : cellsF v=some cs) (hs' : T.sizeOk t cs=true) (hi : L[i]? = some (.cells b 0 (encs r hs))) (hK : K ρ m (L.set i (.cells b 0 (encs r (hs.set k h2))))) : OT P N o ρ D m L Q K:=by
 subst hq
 have hl:=(List.getElem?_eq_some_iff.1 hk).1
 have hkl : (k + 1) * r.size ≤ hs.length * r.size:=Nat.mul_le_mul_right _ hl
 refine OT.storeG (off:=0) (k:=k * r.size + j) T i ho hd (by rw [Nat.zero_add];exact hx) hy hv hs' hi (by rw [encs_len];rw [Nat.add_mul] at hkl;omega) ?_
 rw [putAt_encs r hk hp]
 exact hK
end
end Go.Sep
