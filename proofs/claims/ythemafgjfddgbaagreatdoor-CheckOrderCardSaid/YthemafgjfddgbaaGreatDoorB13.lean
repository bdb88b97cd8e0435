/-
  Part 13 of the proof: library, walks and plain laws.
-/
import Derived.KernelRfl
import Derived.Test.YthemafgjfddgbaaGreatDoorB12
set_option linter.unusedVariables false
set_option linter.unusedSimpArgs false
set_option maxHeartbeats 6400000
namespace Go.Sep
open Go.Proofs Go.Ck
attribute [local irreducible] TC TO OT TCallX TCall DO DOt thenQ blockQ retQ At
structure GFun where
 gf : GF
 ft : Tree
 vs : List GV
 body : Tree
def GFun.tri (f : GFun) : Tree × Names × Tree:=(f.ft,(f.vs.map GV.pair).reverse,f.body)
structure FunAt (m : Mem) (f : GFun) : Prop where
 a0 : At m f.gf.b 0 [strV f.gf.name,strV f.gf.recv]
 a2 : ∃ ht ps,TreeRep m ht f.ft∧SlRep rGV m ps f.vs∧At m f.gf.b 2 [.int .i64 ht.kind,strV ht.name, .int .i64 ht.num,ht.kids.v,ps.v]
 tg : tg f.ft=true∧f.ft.kind=7
 own : ∀ v ∈ f.vs,v.own=f.gf.b∧Go.Sep.tg v.type=true
 bl : lim.block f.body=true
 fit : FitT f.body
theorem FunAt.mono {m m' : Mem} {f : GFun} (h : FunAt m f) (hm : m ≤ m') : FunAt m' f :=
 ⟨h.a0.mono hm,by obtain ⟨a,b,h1,h2,h3⟩:=h.a2;exact ⟨a,b,h1.mono hm,h2.mono hm,h3.mono hm⟩,h.tg,h.own,h.bl,h.fit⟩
def FunI (f : GFun) : List Item := .cells f.gf.b 7 [.pointer none] :: f.vs.map flagI
def FunsI (fl : List GFun) : List Item:=fl.flatMap FunI
theorem funsI_snoc (fl : List GFun) (f : GFun) (L : List Item) : FunsI (fl++[f])++L=FunsI fl++(.cells f.gf.b 7 [.pointer none] :: (f.vs.map flagI++L)):=by
 simp [FunsI,FunI]
theorem funsI_cons (f : GFun) (fl : List GFun) (L : List Item) : FunsI (f :: fl)++L = .cells f.gf.b 7 [.pointer none] :: (f.vs.map flagI++(FunsI fl++L)):=by
 simp [FunsI,FunI]
def BuildE (c : Int) (m : Mem) (L : List Item) : Ending→World→Prop
 | .returned v,w' => ∃ m' L',St m' w' L' ∧ Made m L (fun r _ => ∃ pv,r = .tuple ⟨[pv, .int .i64 c]⟩) v m' L'
 | .panicked _,_=>False
 | .outgrown,_=>False
theorem buildE_end {P : Program} {fn : Func} {m m' : Mem} {L : List Item} {ρ : Env} {tmps : Array Value} {w : World} {b2 b3 : Nat} {pv : Value} {c : Int} {L' : List Item} (T : Tab P) {t2 t3 : TypeId}
  (hres : fn.results = ⟨[.cell 2 t2, .cell 3 t3]⟩) (hA : ∀ i v,look ρ i=some v→tmps[i]? = some v) (h2 : look ρ 2=some (ptr b2)) (h3 : look ρ 3=some (ptr b3))
  (l2 : T.load t2 [pv] 0=some pv) (l3 : T.load t3 [.int .i64 c] 0=some (.int .i64 c))
  (hst : St m' w (.cells b2 0 [pv] :: .cells b3 0 [.int .i64 c] :: L')) (hsub : Hs L L') (hm : m ≤ m') : Leaves P fn tmps (BuildE c m L) [] .returning w:=by
 obtain ⟨M,hM⟩:=hsub
 refine ⟨.tuple ⟨[pv, .int .i64 c]⟩, ?_,m',L,((hst.sub (bN _ (List.sublist_cons_self _ _))).perm hM).sub (List.sublist_append_right _ _),hm,rfl,pv,rfl⟩
 have g2:=run_loadVar (P:=P) T (k:=0) (hst.cells (i:=0) rfl) l2
 have g3:=run_loadVar (P:=P) T (k:=0) (hst.cells (i:=1) rfl) l3
 have e2:=hA 2 _ h2
 have e3:=hA 3 _ h3
 unfold results
 rw [hres,Array.mapM_eq_mapM_toList]
 simp [Sem.run_bind,Sem.run_map,e2,e3,asAddr,g2,g3]
@[reducible] def recD (b2 b3 : Nat) : Deferred:={ target := .fn (.func 59) ⟨[ptr b2,ptr b3]⟩,args:=⟨[]⟩ }
theorem bbA {α : Type} {a b : α} {M L T : List α} (h : T.Perm (M++(a :: b :: L))) : T.Perm (a :: b :: (M++L)):=lB
theorem build_bad {m m' : Mem} {L T : List Item} {ρ : Env} {b2 b3 : Nat} {v2 v3 : Value} (h2 : look ρ 2=some (ptr b2)) (h3 : look ρ 3=some (ptr b3)) (hm : m ≤ m') (hs : Hs (.cells b2 0 [v2] :: .cells b3 0 [v3] :: L) T) :
  retD Tryz.prog Tryz.f32 (BuildE 5 m L) (.panic brk) ρ [recD b2 b3] m' T:=by
 obtain ⟨M,hM⟩:=hs
 intro tmps w' hA hst'
 refine leaves_cons kU (invoke_goes goes59) ?_
 refine (bRec_fault b2 b3 m' (M++L) w' v2 v3 (hst'.perm (bbA hM))).mono ?_
 rintro e u' w2 ⟨v,rfl,rfl,hst2⟩
 exact buildE_end (pv := .pointer none) tab rfl hA h2 h3 rfl rfl hst2 ⟨M,aW _⟩ hm
theorem cst_le : ∀ (a : Tree),cst a ≤ 2 * a.size:=by
 intro a
 induction a using Tree.ind with
 | h a ih =>
 rw [cst_eq,size_kids]
 have : ∀ l : List Tree,(∀ x ∈ l,cst x ≤ 2 * x.size)→cstL l ≤ 2 * sizeL l:=by
  intro l
  induction l with
  | nil=>intro _;simp [cstL]
  | cons x l ihl =>
   intro h
   have h1:=h x kU
   have h2:=ihl fun y hy=>h y (by simp [hy])
   simp only [cstL,sizeL]
   omega
 have:=this a.kids ih
 omega
theorem cstL_le {k : Nat} : ∀ l : List Tree,(∀ x ∈ l,cst x ≤ k)→cstL l ≤ k * l.length
 | [],_=>by simp [cstL]
 | x :: l,h=>by
  have h1:=h x kU
  have h2:=cstL_le l fun y hy=>h y (by simp [hy])
  simp only [cstL,aU,Nat.mul_succ]
  omega
theorem slGV1 {m : Mem} {s : Sl} {v : GV} (h : SlRep rPtr m s [v.b]) (hv : VarAt m v) : SlRep rGV m s [v]:=by
 obtain ⟨hs,h1,h2⟩:=h.cells
 refine ⟨h.len,h.cap,h.fit,hs, ?_, ?_⟩
 ·match hs,h1 with
  | [x],h1=>exact ⟨⟨h1.1,hv⟩,trivial⟩
 ·rcases h2 with ⟨h2, -⟩ | h2
  ·cases h2
  ·exact .inr h2
theorem Bun.toF {E : CE} {F F' : CF} {sc : List GS} {w q : Nat} {m : Mem} {T L : List Item} (h : Bun E F sc w q m T L) (h1 : F'.c=F.c) (h2 : F'.lits=F.lits) : Bun E F' sc w q m T L:=by
 unfold Bun at h ⊢
 rw [h1,h2]
 exact h
end Go.Sep
namespace Go.Sep
open Go.Proofs Go.Ck
theorem ckPos (a : Tree) : 1 ≤ a.size:=by rw [size_kids];omega
theorem fit_kids {p n t : Tree} (hp : SndP p) (hw : p.wide ≤ 140737488355328) (hn : n ∈ p.kids) (ht : t ∈ n.kids) (h2 : 2 ≤ n.kids.length) : FitT t:=by
 have d1:=cZ hn
 have d2:=cZ ht
 have w1:=cX hn
 have w2:=cX ht
 have s1:=size_kids p
 have s2:=size_kids n
 have s3:=ckSizeL hn
 have s4 : t.size + 1 ≤ sizeL n.kids:=by
  obtain ⟨k,x,u,ks⟩:=n
  simp only [Tree.kids] at ht h2 ⊢
  match ks,ht,h2 with
  | a :: b :: r,ht,_ =>
   have p1:=ckPos a
   have p2:=ckPos b
   simp only [sizeL]
   rcases List.mem_cons.1 ht with rfl | ht
   ·omega
   ·have:=ckSizeL ht
    simp only [sizeL] at this
    omega
 have s5:=hp.size
 have s6:=hp.deep
 exact ⟨by omega,by omega,bo w2 (bo w1 hw)⟩
def GoodM (f : Fld) : Prop:=tg f.type=true∧f.type.kind=7
def GoodD (d : Decl) : Prop:=(∀ f ∈ d.fields,tg f.type=true) ∧ ∀ f ∈ d.methods,GoodM f
theorem addM_good {l l' : List Decl} {x : Str} {f : Fld} (h : addM l x f=some l') (hl : ∀ d ∈ l,GoodD d) (hf : GoodM f) : ∀ d ∈ l',GoodD d:=by
 rcases addM_idx x f l 0 with ⟨-,h2⟩ | ⟨j,d,h1, -,h3⟩
 ·rw [h2] at h;cases h
 ·rw [h3] at h
  injection h with h
  subst h
  intro y hy
  rcases List.mem_or_eq_of_mem_set hy with hy | rfl
  ·exact hl y hy
  ·have hd:=hl d (List.mem_of_getElem? h1)
   refine ⟨hd.1,fun g hg => ?_⟩
   rcases List.mem_append.1 hg with hg | hg
   ·exact hd.2 g hg
   ·rw [List.mem_singleton.1 hg];exact hf
theorem methodsC_good : ∀ (r : List Tree) (l l' : List Decl),methodsC l r=some l' → (∀ d ∈ l,GoodD d)→(∀ n ∈ r,n.kind=5→GoodM ⟨n.name,(ofRes (kid n 1)).1⟩) → ∀ d ∈ l',GoodD d
 | [],l,l',h,hl,_=>by injection h with h;subst h;exact hl
 | n :: r,l,l',h,hl,hr=>by
  rw [methodsC] at h
  by_cases hk : n.kind=5
  ·rw [if_pos hk] at h
   cases h2 : addM l (recvD n) ⟨n.name,(ofRes (kid n 1)).1⟩ with
   | none=>rw [h2] at h;cases h
   | some l2 =>
    rw [h2] at h
    exact methodsC_good r l2 l' h (addM_good h2 hl (hr n kU hk)) fun x hx=>hr x ln
  ·rw [if_neg hk] at h
   exact methodsC_good r l l' h hl fun x hx=>hr x ln
theorem fldOf_tg (f : Tree) : tg (fldOf f).type=true:=by
 rw [fldOf,fld_type]
 exact ofRes_tg _
theorem fldOf_sig {f : Tree} (h : (kid f 0).isSig=true) (h1 : (kid f 0).size + 3 ≤ 20000) (h2 : (kid f 0).deep + 2 ≤ 100) : (fldOf f).type.kind=7:=by
 rw [fldOf,fld_type]
 exact (sig_of h h1 h2).1
theorem goodM_of {n : Str} {t : Tree} (h : tg t=true) (h2 : t.kind=7) : GoodM ⟨n,t⟩:=⟨h,h2⟩
theorem goodM_mk {n : Tree} (h : (kid n 1).isSig=true) (h1 : (kid n 1).size + 3 ≤ 20000) (h2 : (kid n 1).deep + 2 ≤ 100) : GoodM ⟨n.name,(ofRes (kid n 1)).1⟩:=goodM_of (ofRes_tg _) (sig_of h h1 h2).1
theorem declOf_good {p n : Tree} (hp : SndP p) (hn : n ∈ p.kids) (hk : n.kind=2 ∨ n.kind=3) : GoodD (declOf n):=by
 unfold declOf
 split
 ·rename_i h3
  refine ⟨(fun f hf=>by cases hf),fun f hf => ?_⟩
  obtain ⟨x,hx,rfl⟩:=List.mem_map.1 hf
  refine ⟨fldOf_tg x, ?_⟩
  have hd:=hp.kids n hn
  unfold declS at hd
  rw [if_neg kT,if_pos h3,a6] at hd
  have:=List.all_eq_true.1 hd.2 x hx
  unfold fieldS at this
  rw [a6] at this
  obtain ⟨y,hy,hsg⟩:=Pt.kids1 this.2
  have e : kid x 0=y:=lR
  have d1:=cZ hn
  have d2:=cZ hx
  have d3:=cZ (a:=x) (t:=y) (by rw [hy];simp)
  have s1:=size_kids p
  have s2:=size_kids n
  have s3:=size_kids x
  have s4:=ckSizeL hn
  have s5:=ckSizeL hx
  have s6:=ckSizeL (l:=x.kids) (t:=y) (by rw [hy];simp)
  have s7:=hp.size
  have s8:=hp.deep
  exact fldOf_sig (by rw [e];exact hsg) (by rw [e];omega) (by rw [e];omega)
 ·refine ⟨fun f hf => ?_,(fun f hf=>by cases hf)⟩
  obtain ⟨x,hx,rfl⟩:=List.mem_map.1 hf
  exact fldOf_tg x
theorem table_good {p : Tree} (hp : SndP p) (hw : p.wide ≤ 140737488355328) {l : List Decl} (h : tableD p = .ok l) : (∀ d ∈ l,GoodD d)∧soundE l=0:=by
 rw [tableD_tab] at h
 cases hm : methodsC ((p.kids.filter isDf).map declOf) p.kids with
 | none=>rw [hm] at h;cases h
 | some l2 =>
  rw [hm,tabE] at h
  by_cases hs : soundE l2=0
  ·rw [if_pos hs] at h
   injection h with h
   subst h
   refine ⟨methodsC_good _ _ _ hm (fun d hd => ?_) (fun n hn hk => ?_),hs⟩
   ·obtain ⟨n,hn,rfl⟩:=List.mem_map.1 hd
    obtain ⟨hn1,hn2⟩:=List.mem_filter.1 hn
    unfold isDf at hn2
    simp only [bj,ba] at hn2
    exact declOf_good hp hn1 hn2
   ·obtain ⟨-,r,t,b,y,ys,z,zs,hnk, -, -,ht, -⟩:=decl_method (hp.kids n hn) hk
    have e : kid n 1=t:=lD
    have hf:=fit_kids hp hw hn (t:=t) lr lr
    exact goodM_mk (by rw [e];exact ht) (by rw [e];exact hf.size) (by rw [e];exact hf.deep)
  ·rw [if_neg hs] at h;cases h
theorem tabD_err {p : Tree} {c : Int} (h : tabD p = .error c) : c ≠ 0:=by
 unfold tabD at h
 split at h
 ·rw [tableD_tab] at h
  cases hm : methodsC ((p.kids.filter isDf).map declOf) p.kids with
  | none=>rw [hm,tabE] at h;injection h with h;omega
  | some l2 =>
   rw [hm,tabE] at h
   by_cases hs : soundE l2=0
   ·rw [if_pos hs] at h;cases h
   ·rw [if_neg hs] at h
    injection h with h
    rw [← h]
    split <;> omega
 ·injection h with h;omega
theorem theD_good {l : List Decl} (h : ∀ d ∈ l,GoodD d) (n : Str) : GoodD (theD l n):=by
 unfold theD
 cases hf : findD l n with
 | none=>exact ⟨(fun f hf=>by cases hf),(fun f hf=>by cases hf)⟩
 | some d=>exact h d (List.mem_of_find?_eq_some hf)
def chkT (p : Tree) : Int:=if soundB p=true then chkD p else 2
theorem chkT_err {p : Tree} {c : Int} (h : tabD p = .error c) : chkT p=c:=by
 unfold tabD at h
 unfold chkT
 split at h
 ·rename_i hs
  rw [if_pos hs,chk_build,h]
 ·rename_i hs
  rw [if_neg hs];injection h
theorem chkT_ok {p : Tree} {l : List Decl} (h : tabD p = .ok l) : soundB p=true∧tableD p = .ok l∧chkT p=if (buildO l p).isSome then 0 else 5:=by
 unfold tabD at h
 unfold chkT
 split at h
 ·rename_i hs
  exact ⟨hs,h,by rw [if_pos hs,chk_build,h]⟩
 ·cases h
end Go.Sep
namespace Go.Sep
section
variable {P : Program} {ops : Array Oper} {Q Q' : Exit→Act→World→Prop} {Inv : Act→Prop} {md : Region.Mode}
theorem wpOp_keep {i : Nat} {a : Act} {w : World} {K : Act→World→Prop} (hinv : Inv a) (hput : ∀ o,ops[i]? = some o → ∀ a v,Inv a→Inv (a.put o.dst v)) (hdef : ∀ a ds,Inv a→Inv { a with defers:=ds })
  (hQ : ∀ e a w,Inv a→Q e a w→Q' e a w) (hL : LetsOut Q→LetsOut Q') (h : wpOp P ops Q i K a w) : wpOp P ops Q' i (fun a w=>K a w∧Inv a) a w:=by
 unfold wpOp at *
 split
 ·exact ⟨by simpa [*] using h,hinv⟩
 ·rename_i o ho
  simp only [ho] at h
  split
  ·rename_i hw
   simp only [hw,if_true] at h
   refine h.imp (fun hh => ?_) (fun hh=>⟨hh.1,hL hh.2⟩)
   unfold Oper.wp at *
   generalize (execOp a.eval o).run P w=r at *
   cases r with
   | ok n w' =>
    cases n with
    | value v=>exact ⟨hh,hput o ho a v hinv⟩
    | skip=>exact ⟨hh,hput o ho a _ hinv⟩
    | defer d=>exact ⟨hh,hput o ho _ _ (hdef a _ hinv)⟩
    | enter f args =>
     exact Calls.mono hh (fun e w'' he=>by
      cases e with
      | returned v=>exact ⟨he,hput o ho a v hinv⟩
      | panicked c=>exact hQ _ _ _ hinv he
      | outgrown=>exact hL he)
    | row r args=>exact Rows.mono hh (fun v _ he=>⟨he,hput o ho a v hinv⟩)
    | _=>exact hh.elim
   | halt x w'=>cases x <;> simp only [Oper.upon] at hh ⊢ <;> first | exact hh.elim | exact hQ _ _ _ hinv hh
  ·rename_i hw;simp only [hw] at h;exact ⟨h,hput o ho a _ hinv⟩
theorem wpAny_keep (hput : ∀ (i : Nat) (o : Oper),ops[i]? = some o → ∀ a v,Inv a→Inv (a.put o.dst v)) (hdef : ∀ a ds,Inv a→Inv { a with defers:=ds }) (hQ : ∀ e a w,Inv a→Q e a w→Q' e a w) (hL : LetsOut Q→LetsOut Q') :
  ∀ (fuel : Nat) (listed : Array Bool) (a : Act) (w : World),Inv a→wpAny P md ops Q fuel listed a w→wpAny P md ops Q' fuel listed a w
 | 0,_,_,_,hi,h=>⟨h.1,hQ _ _ _ hi h.2⟩
 | fuel + 1,_,_,_,hi,h=>⟨fun h0=>hQ _ _ _ hi (h.1 h0),fun i hr=>wpOp_mono (fun a' w' h'=>wpAny_keep hput hdef hQ hL fuel _ a' w' h'.2 h'.1) (wpOp_keep hi (hput i) hdef hQ hL (h.2 i hr))⟩
end
def forgetQ (ρ0 : Env) (Q : EPost) : EPost
 | .panic c,_,D,m,L=>Q (.panic c) ρ0 D m L
 | e, ρ,D,m,L=>Q e ρ D m L
theorem Calm.forget {ρ0 : Env} {Q : EPost} : Calm (forgetQ ρ0 Q):=fun _ _ _ _ _ h=>h
theorem forgetQ_n {ρ0 ρ : Env} {D : List Deferred} {m : Mem} {L : List Item} {Q : EPost} (h : Q .normal ρ D m L) : forgetQ ρ0 Q .normal ρ D m L:=h
theorem forgetQ_p {ρ0 ρ : Env} {D : List Deferred} {m : Mem} {L : List Item} {Q : EPost} {c : List PanicEntry} (h : Q (.panic c) ρ0 D m L) : forgetQ ρ0 Q (.panic c) ρ D m L:=h
section
variable {P : Program} {N : Nat} {ρ : Env} {D : List Deferred} {m : Mem} {L : List Item} {Q : EPost} {ops : List Oper}
theorem TC.drawK {id : Nat} {d2 d3 : Nat} {v2 v3 : Value} (hm : P.follows .mixedOrders=true) (h2 : look ρ d2=some v2) (h3 : look ρ d3=some v3) (hd : (ops.all fun o => !(o.dst == some d2) && !(o.dst == some d3))=true) (ts : List Nat) (n : Nat) (hn : ops.length=n) (Ls Lp : List Item) (hL : L.Perm (Ls++Lp))
  (h : DO P N ops ts n (List.replicate n false) ρ D m Ls Lp (forgetQ [(d2,v2),(d3,v3)] Q)) : TC P N (.region id ⟨ops⟩ true) ρ D m L Q:=by
 subst hn
 intro a w ha
 refine wp_region_any hm ?_
 have ha' : Ok N ρ D m (Ls++Lp) a w.drew:=⟨ha.size,ha.env,ha.defers,(ha.st.perm hL).drew⟩
 have:=wpAny_of_T _ _ _ _ (h a _ ha')
 have e : (Array.replicate (⟨ops⟩ : Array Oper).size false) = ⟨List.replicate ops.length false⟩:=by
  apply Array.ext';simp
 rw [e]
 refine wpAny_keep (Inv:=fun a=>a.tmps[d2]? = some v2∧a.tmps[d3]? = some v3) (fun i o ho a v hi => ?_) (fun a ds hi=>hi) (fun e a w hi hq => ?_) (fun hq => ?_) _ _ _ _ ⟨ha.env _ _ h2,ha.env _ _ h3⟩ this
 ·have hmem : o ∈ ops:=by
   have : ops[i]? = some o:=by simpa using ho
   exact List.mem_of_getElem? this
  have:=List.all_eq_true.1 hd o hmem
  simp only [a6,Bool.not_eq_true',beq_eq_false_iff_ne,ne_eq] at this
  cases hdst : o.dst with
  | none=>simpa [Act.put] using hi
  | some d =>
   rw [hdst] at this
   have n2 : d ≠ d2:=fun e=>this.1 (by rw [e])
   have n3 : d ≠ d3:=fun e=>this.2 (by rw [e])
   simp only [Act.put]
   refine ⟨?_, ?_⟩
   ·rw [← hi.1];simp [n2]
   ·rw [← hi.2];simp [n3]
 ·obtain ⟨ρ',D',m',L',h1,h4⟩:=hq
  cases e with
  | panic c =>
   refine ⟨[(d2,v2),(d3,v3)],D',m',L',⟨h1.size,fun i u hu => ?_,h1.defers,h1.st⟩,h4⟩
   unfold look at hu
   cases hb : Nat.beq d2 i with
   | true =>
    rw [hb] at hu
    have:=Nat.eq_of_beq_eq_true hb
    subst this
    simp only [cj,a9] at hu
    rw [← hu];exact hi.1
   | false =>
    rw [hb] at hu
    simp only [ci] at hu
    unfold look at hu
    cases hb3 : Nat.beq d3 i with
    | true =>
     rw [hb3] at hu
     have:=Nat.eq_of_beq_eq_true hb3
     subst this
     simp only [cj,a9] at hu
     rw [← hu];exact hi.2
    | false =>
     rw [hb3] at hu
     simp only [ci] at hu
     cases hu
  | _=>exact ⟨ρ',D',m',L',h1,h4⟩
 ·obtain ⟨a,w, ρ',D',m',L',h1,h4⟩:=hq
  exact ⟨a,w, ρ',D',m',L',h1,h4⟩
end
end Go.Sep
namespace Go
abbrev dq := @Sep.Calm.forget
end Go
namespace Go.Sep
open Go.Proofs Go.Ck
attribute [local irreducible] TC TO OT TCallX TCall DO DOt thenQ blockQ retQ At
theorem soundE_nodup {l : List Decl} (h : soundE l=0) : (l.map Decl.name).Nodup:=by
 unfold soundE at h
 split at h
 ·omega
 split at h
 ·omega
 split at h
 ·omega
 ·rename_i h3
  unfold typeB at h3
  simp only [bj,not_or,Bool.not_eq_true,Bool.not_eq_false',ba,Bool.not_eq_eq_eq_not,Bool.not_false,Bool.not_true,decide_eq_false_iff_not,Decidable.not_not] at h3
  exact h3.1
theorem bhA {α : Type} {c o p b3 b2 b1 : α} {L : List α} : (c :: o :: p :: b3 :: b2 :: b1 :: L).Perm (p :: c :: o :: b3 :: b2 :: b1 :: L):=kY
theorem bhB {α : Type} {p2 p3 c o b3 b2 b1 : α} {L : List α} : (p2 :: p3 :: c :: o :: b3 :: b2 :: b1 :: L).Perm (c :: p2 :: p3 :: o :: b3 :: b2 :: b1 :: L):=kY
theorem bhC {α : Type} {p2 p3 c o b3 b2 b1 : α} {L : List α} : (c :: p2 :: p3 :: o :: b3 :: b2 :: b1 :: L).Perm (b1 :: o :: p2 :: b2 :: b3 :: c :: p3 :: L):=kY
@[reducible] def hdR (h : HTree) (b1 b2 b3 bc bp : Nat) (L : List Item) : List Item := .cells b1 0 (treeC h) :: .cells b2 0 [ptr bp] :: .cells b3 0 [.int .i64 0] :: .cells bc 3 [.pointer none, .int .i64 0] :: .cells bp 3 [.pointer none] :: L
theorem bhD {α : Type} {a o p tf tb b1 b2 : α} {F R : List α} : (a :: tb :: tf :: o :: p :: (F++(b1 :: b2 :: R))).Perm ([a,b2,p]++(o :: tf :: tb :: (F++(b1 :: R)))):=kY
theorem bhF {α : Type} {b8 b2 p2 bf o tf tb b1 : α} {F R : List α} : ([b8,b2,p2]++(bf :: o :: tf :: tb :: (F++(b1 :: R)))).Perm (bf :: b8 :: o :: p2 :: tf :: tb :: (F++(b1 :: b2 :: R))):=kY
theorem bhH {α : Type} {b8 o p tf tb b1 b2 : α} {F R : List α} : (b8 :: o :: p :: tf :: tb :: (F++(b1 :: b2 :: R))).Perm ([b8,b2,p]++(o :: tf :: tb :: (F++(b1 :: R)))):=kY
theorem bhI {α : Type} {b10 bf b8 o : α} {X : List α} : (b10 :: bf :: b8 :: o :: X).Perm ([bf]++(o :: b10 :: b8 :: X)):=kY
theorem bhJ {α : Type} {t b2 b7 b9 o b10 b8 : α} {X : List α} : (t :: b2 :: b7 :: b9 :: o :: b10 :: b8 :: X).Perm (b9 :: b2 :: t :: b7 :: o :: b10 :: b8 :: X):=kY
theorem bhK {α : Type} {k o b10 b8 p2 tf tb b1 b2 : α} {T V F R : List α} (h : T.Perm (V++(k :: o :: b10 :: b8 :: p2 :: tf :: tb :: (F++(b1 :: b2 :: R))))) : T.Perm ([b2,p2]++(tf :: o :: tb :: b8 :: b10 :: (F++(k :: (V++(b1 :: R)))))):=lB
theorem bhL {α : Type} {k o b10 b8 p2 tf tb b1 b2 : α} {V F R : List α} : ([b2,p2]++(tf :: o :: tb :: b8 :: b10 :: (F++(k :: (V++(b1 :: R)))))).Perm (b10 :: o :: p2 :: tf :: tb :: b8 :: (F++(k :: (V++(b1 :: b2 :: R))))):=kY
theorem bhM {α : Type} {b1 o p2 b2 b3 c p3 t1 t4 : α} {L : List α} : (t1 :: t4 :: b1 :: o :: p2 :: b2 :: b3 :: c :: p3 :: L).Perm (o :: p2 :: t1 :: t4 :: ([]++(b1 :: b2 :: b3 :: c :: p3 :: L))):=kY
theorem bhN {α : Type} {bf o b10 b8 p2 tf tb b1 b2 b3 c3 p3 : α} {F L : List α} : ([bf]++(o :: b10 :: b8 :: p2 :: tf :: tb :: (F++(b1 :: b2 :: b3 :: c3 :: p3 :: L)))).Perm (([bf,o,b10,b8,p2,tf,tb]++F++[b1,c3,p3])++(b2 :: b3 :: L)):=kY
theorem bhO {α : Type} {bf o b10 b8 p2 tf tb b1 b2 b3 c3 p3 : α} {F L : List α} : (bf :: o :: b10 :: b8 :: p2 :: tf :: tb :: (F++(b1 :: b2 :: b3 :: c3 :: p3 :: L))).Perm (([bf,o,b10,b8,p2,tf,tb]++F++[b1,c3,p3])++(b2 :: b3 :: L)):=kY
theorem bhP {α : Type} {a b c : α} {X : List α} : (a :: b :: c :: X).Perm ([c,b]++(a :: X)):=kY
theorem bhQ {α : Type} {b8 bf bv b10 : α} {X : List α} : ([b8,bf]++(bv :: b10 :: X)).Perm (bv :: bf :: b8 :: b10 :: X):=kY
theorem bhR {α : Type} {b2 b7 b9 rm b8 b10 o : α} {X : List α} : (b2 :: b7 :: b9 :: rm :: b8 :: b10 :: o :: X).Perm (b9 :: b2 :: b7 :: rm :: o :: b10 :: b8 :: X):=kY
theorem bhS {V X : List Item} {rm b7 : Item} : (V++(b7 :: rm :: X)).Perm ((rm :: V)++(b7 :: X)):=kY
theorem bhT {α : Type} {bf rm o b10 b8 p2 tf tb b1 b2 b3 c3 p3 : α} {F L : List α} : (bf :: rm :: o :: b10 :: b8 :: p2 :: tf :: tb :: (F++(b1 :: b2 :: b3 :: c3 :: p3 :: L))).Perm (([bf,rm,o,b10,b8,p2,tf,tb]++F++[b1,c3,p3])++(b2 :: b3 :: L)):=kY
theorem bhU {α : Type} {p2 tf tb b1 b2 b3 c3 p3 : α} {F L : List α} : (p2 :: tf :: tb :: (F++(b1 :: b2 :: b3 :: c3 :: p3 :: L))).Perm (tb :: b1 :: b2 :: p2 :: tf :: c3 :: (F++(b3 :: p3 :: L))):=kY
theorem bhV {α : Type} {p2 tf b2 b3 c3 p3 : α} {F L : List α} : (b2 :: p2 :: tf :: c3 :: (F++(b3 :: p3 :: L))).Perm (c3 :: p2 :: tf :: ([]++([]++(F++(b2 :: b3 :: p3 :: L))))):=kY
theorem bhW {α : Type} {b2 b3 p3 : α} {F L : List α} : (F++(b2 :: b3 :: p3 :: L)).Perm ((F++[p3])++(b2 :: b3 :: L)):=kY
theorem bhX {α : Type} {b2 b3 p3 : α} {T M L : List α} (h : T.Perm (M++(b2 :: b3 :: p3 :: L))) : T.Perm (b2 :: b3 :: p3 :: (M++L)):=lB
theorem bhY {α : Type} {b2 b3 p3 : α} {M L : List α} : (b2 :: b3 :: p3 :: (M++L)).Perm ((p3 :: M)++(b2 :: b3 :: L)):=kY
theorem Build_law (p : Tree) (hw : p.wide ≤ 140737488355328) (m : Mem) (L : List Item) (h : HTree) (hr : TreeRep m h p) :
  TCall Tryz.prog 32 ⟨[treeV h]⟩ m L (Made m L fun r _ => ∃ pv,r = .tuple ⟨[pv, .int .i64 (chkT p)]⟩):=by
 generalize hc : chkT p=c
 have key : ∀ w,St m w L→Calls Tryz.prog 32 ⟨[treeV h]⟩ w (BuildE c m L):=by
  intro w hst
  refine calls_enterD Tryz.func32 rfl 198 rfl hst ?_
  refine uA ?_
  refine oB (fun b1 => ?_)
  refine uA ?_
  refine oA tab (fun b2 => ?_)
  refine oA tab (fun b3 => ?_)
  refine uL ?_
  refine oC goes8 ((Table_law p hw _ _ h hr).x ?_);
  rintro r m1 _ ⟨hm1,rfl,hT⟩
  cases htab : tabD p with
  | error c' =>
   rw [htab] at hT
   obtain rfl : r=_:=hT
   have hcc:=chkT_err htab
   have hc0:=tabD_err htab
   obtain rfl : c=c':=by rw [← hc,hcc]
   refine uA ?_
   refine ag (k:=0) 0 ?_
   refine ai (k:=0) 0 ?_
   refine aQ (fun e1 => ?_) (fun e1 => ?_)
   ·refine uA ?_
    refine TC.drawK (d2:=2) (d3:=3) cV rfl rfl uK [] 3 rfl [] _ (aW _) ?_
    refine DO.fork 0 [1] uK ⟨⟨_,rfl,rfl,rfl, ?_⟩,⟨_,rfl,rfl,rfl, ?_⟩,trivial⟩
    ·refine OT.loadL (k:=0) tab 0 rfl rfl rfl rfl rfl rfl ?_
     refine ir ?_
     refine ae 1 ?_
     refine ak (k:=0) 1 ?_
     exact eJ
    ·refine ak (k:=0) 1 ?_
     refine ir ?_
     refine ae 0 ?_
     refine OT.loadL (k:=0) tab 0 rfl rfl rfl rfl rfl rfl ?_
     exact eJ
   ·exact absurd e1 hc0
  | ok l =>
   rw [htab] at hT
   obtain ⟨s,rfl,hS⟩:=hT
   obtain ⟨hsd,htb,hcZ⟩:=chkT_ok htab
   rw [hc] at hcZ
   have hp:=snd_of hsd
   obtain ⟨hgood,hs0⟩:=table_good hp hw htb
   generalize hZ : buildO l p=Z at hcZ
   replace hZ:=hZ.symm
   refine uA ?_
   refine ag (k:=0) 0 ?_
   refine ai (k:=0) 0 ?_
   refine oC goes58 ((newTable_law _ _ s l hS).x ?_);
   rintro _ m2 _ ⟨hm2,rfl,bt,es0,cc0,rfl,hbt,hTA⟩
   refine uA ?_
   refine oB (fun bp => ?_)
   refine uA ?_
   refine ag (k:=0) 2 ?_
   refine aG (k:=0) 2 ?_
   refine qs rfl (OT.makeMap kStr rfl rfl rfl (fun fm => ?_))
   refine uA ?_
   refine oB (fun bc => ?_)
   refine uA ?_
   refine TO.defer rfl rfl rfl rfl rfl ?_
   refine cA bhA ?_
   refine TO.splitC (b:=bp) (off:=0) [.map (some bt)] [s.v, .slice none 0 0, .pointer none] ?_
   refine cO fun m3 hm3 hAp => ?_
   refine TO.splitC (b:=bp) (off:=1) [s.v] [.slice none 0 0, .pointer none] ?_
   refine TO.drop (List.sublist_cons_self _ _) ?_
   refine TO.splitC (b:=bp) (off:=2) [.slice none 0 0] [.pointer none] ?_
   refine cA bhB ?_
   refine TO.splitC (b:=bc) (off:=0) [ptr bp, .map (some fm)] [.pointer none, .pointer none, .int .i64 0] ?_
   refine cO fun m4 hm4 hAc => ?_
   refine TO.splitC (b:=bc) (off:=2) [.pointer none] [.pointer none, .int .i64 0] ?_
   refine TO.drop (List.sublist_cons_self _ _) ?_
   refine cA bhC ?_
   have hm24:=co hm3 hm4
   have hm04:=co hm1 (co hm2 hm24)
   have hE0 : CE.Tbl ⟨bp,bt,cc0,es0,l,fm,0,[],[]⟩ m4:=⟨hAp.mono hm4,hm24.o _ _ hbt,(hTA.rep (soundE_nodup hs0)).mono hm24,fun n=>⟨(theD_good hgood n).1,fun f hf=>(theD_good hgood n).2 f hf⟩⟩
   refine uA ?_
   refine qs rfl (OT.loadL (k:=3) tab 0 rfl rfl rfl rfl rfl rfl ?_)
   refine iI ?_
   have hr4:=(hr.kids).mono hm04
   have hlen:=hr4.len
   have hpl:=kids_le p
   have hps:=hp.size
   unfold buildO at hZ
   generalize hG : (fun r : Names × List (Tree × Names × Tree)=>(bodiesO ⟨l,r.1⟩ r.2).bind fun _=>Ck.want (mainOk r.1))=G at hZ
   refine cP (size:=4) ?_
   refine cP (size:=1) ?_
   refine TC.perm (L' := .obj fm (mapO kStr [] 0) :: .cells bp 2 [nilS.v] :: tok nilS 1 :: tok nilS 4 :: (FunsI []++hdR h b1 b2 b3 bc bp L)) bhM ?_
   refine cu (ι:=Nat × List GFun × Ents Str × Nat × Names × Sl × Sl × Mem) [2,3,5,32,33] rfl (fun y=>[(34, .int .i64 (y.1 : Int)),(6,y.2.2.2.2.2.2.1.v)]) (fun y=>y.2.2.2.2.2.2.2) (fun y => .obj fm (mapO kStr y.2.2.1 y.2.2.2.1) :: .cells bp 2 [y.2.2.2.2.2.1.v] :: tok y.2.2.2.2.2.1 1 :: tok y.2.2.2.2.2.2.1 4 :: (FunsI y.2.1++hdR h b1 b2 b3 bc bp L)) (fun y=>y.1 ≤ p.kids.length∧m4 ≤ y.2.2.2.2.2.2.2∧(∀ f ∈ y.2.1,FunAt y.2.2.2.2.2.2.2 f)∧SlRep rGF y.2.2.2.2.2.2.2 y.2.2.2.2.2.1 (y.2.1.map GFun.gf)∧Own y.2.2.2.2.2.1∧SlRep rTree y.2.2.2.2.2.2.2 y.2.2.2.2.2.2.1 (y.2.1.map GFun.body)∧Own y.2.2.2.2.2.2.1∧FnsAt y.2.2.2.2.2.2.2 y.2.2.1 y.2.2.2.2.1∧y.2.1.length ≤ y.1∧Z=(headsC l y.2.2.2.2.1 (y.2.1.map GFun.tri) (p.kids.drop y.1)).bind G) (fun y=>p.kids.length - y.1) (0,[],[],0,[],nilS,nilS,m4) uH rfl uS ⟨bU _,cn _,(fun f hf=>by cases hf),cH _ _,cQ,cH _ _,cQ,(fun n=>rfl),bm _,hZ⟩ ?_
   rintro ⟨i,fl,es,ec,fns,fs,sb,m5⟩ ⟨hi,hm45,hfl,hfs,hfo,hsb,hso,hfns,hfll,hZ⟩
   simp only at hi hm45 hfl hfs hfo hsb hso hfns hfll hZ
   have hm05:=co hm04 hm45
   have hcc:=hAc.mono hm45
   have hr5:=hr4.mono hm45
   refine uA ?_
   refine aj (fun hltI => ?_) (fun hltI => ?_)
   ·have hlt0 : (i : Int) < (h.kids.len : Int):=hltI
    have hlt : i < p.kids.length:=kT
    have hx : p.kids[i]? = some p.kids[i]:=lc
    have hmem:=bz hlt
    have hdk:=hp.kids _ hmem
    rw [bJ hlt,headsC] at hZ
    generalize hne : p.kids[i]=n at hx hmem hdk hZ
    have hdn:=cZ hmem
    have hdp:=hp.deep
    have hfll2:=hfs.len
    rw [bE] at hfll2
    have hsll2:=hsb.len
    rw [bE] at hsll2
    refine uA ?_
    refine iy ?_
    rintro b' i' h9 hrd9 hA9
    have hrn:=rTree_iff.1 hrd9
    have hkk:=hrn.kind
    have hn9:=hrn.name
    have hrk:=hrn.kids
    (refine oL tab hA9 ?_)
    refine uA ?_
    refine oA tab (fun b8 => ?_)
    refine ik ?_
    (refine cz rfl rfl (fun e1 => ?_) (fun e1 => ?_))
    ·have e1 : ¬ h9.kind=4:=e1
     rw [if_neg kT] at hZ
     refine uL ?_
     refine aQ (fun e2 => ?_) (fun e2 => ?_)
     ·have e2 : ¬ h9.kind=5:=e2
      rw [if_neg kT] at hZ
      refine jd ?_
      exact ⟨(i + 1,fl,es,ec,fns,fs,sb,m5),uH,uH,rfl,rfl,uS,⟨by omega,hm45,hfl,hfs,hfo,hsb,hso,hfns,by simp only;omega,hZ⟩,by simp only;omega⟩
     ·have e2 : h9.kind=5:=e2
      rw [if_pos kT] at hZ
      obtain ⟨hnm,r,t,bd,y,ys,z,zs,hnk,hrk2,hyk,hsg,hbl, -, -⟩:=decl_method hdk kT
      have ft:=fit_kids hp hw hmem (t:=t) lr lr
      have fb:=fit_kids hp hw hmem (t:=bd) lr lr
      have ek0 : kid n 0=r:=lD
      have ek1 : kid n 1=t:=lD
      have ek2 : kid n 2=bd:=lD
      have ek3 : kid r 0=y:=by unfold kid;rw [hrk2];rfl
      have ek4 : kid y 0=z:=by unfold kid;rw [hyk];rfl
      have hrv : recvD n=z.name:=by unfold recvD;rw [ek0,ek3,ek4]
      rw [ek0,ek1,ek2,hrv] at hZ
      rw [hnk] at hrk
      have hkl : h9.kids.len=3:=hrk.len
      refine iE ?_
      refine OT.box rfl rfl rfl rfl rfl (fun bf => ?_)
      refine jo ?_
      refine aK (r':=((1 : Nat) : Int)) uH lW kT ?_
      refine av tab rTree 1 hrk uH la uH ?_
      rintro b0 i0 h10 hrd10 hA10
      (refine oL tab hA10 ?_)
      refine uA ?_
      refine oA tab (fun b10 => ?_)
      refine ie ?_
      refine ai (k:=0) 2 ?_
      refine aj (fun _ => ?_) (fun e5=>absurd e2 e5)
      refine kg ?_
      refine av tab rTree 0 hrk uH la uH ?_
      rintro bA iA hA' hrdA hAA
      have hr7:=(rTree_iff.1 hrdA).kids
      rw [hrk2] at hr7
      refine uA ?_
      refine aB (k:=3) hAA ?_
      refine av tab rTree 0 hr7 uH la uH ?_
      rintro bB iB hB' hrdB hAB
      have hr8:=(rTree_iff.1 hrdB).kids
      rw [hyk] at hr8
      refine uA ?_
      refine aB (k:=3) hAB ?_
      refine av tab rTree 0 hr8 uH la uH ?_
      rintro bC iC hC hrdC hAC
      have hnC:=(rTree_iff.1 hrdC).name
      refine uA ?_
      refine aB (k:=1) hAC ?_
      refine ag (k:=1) 1 ?_
      refine TC.drawK (d2:=2) (d3:=3) cV rfl rfl uK [18] 19 rfl [.cells b8 0 (treeC h9), .cells bf 0 [strV h9.name,strV hC.name, .int .i64 0,strV [], .int .i64 0, .slice none 0 0, .slice none 0 0, .pointer none, .pointer none, .slice none 0 0, .int .i64 (fs.len : Int)]] _ bhP ?_
      refine cJ tab dq uK [0,1] uK rfl ?_
      refine aP (k:=3) 2 0 dq ?_
      refine DO.index tab rTree 3 0 hrk dq uK uK rfl rfl rfl rfl rfl rfl rfl lq rfl rfl ?_
      rintro b4 i4 h4 hrd4 hA4
      have hn4:=(rTree_iff.1 hrd4).name
      refine cJ tab dq uK [4] uK rfl ?_
      refine cL (k:=1) tab 5 hA4 dq uK uK rfl rfl rfl rfl rfl rfl rfl ?_
      refine cJ tab dq uK [6,7,8] uK rfl ?_
      refine aP (k:=1) 9 1 dq ?_
      refine cJ tab dq uK [10,12] uK rfl ?_
      refine ae 11 ?_
      refine cG rfl rfl rfl rfl rfl rfl goes60 ((pointer_law (.mk 4 hC.name 0 []) _ _ ⟨4,hC.name,0,nilS⟩ (c8 _ _ _ _)).x ?_)
      rintro _ mA _ ⟨hmA,rfl,g,rfl,hg⟩
      refine ⟨hmA,_,aW _, ?_⟩
      refine cJ tab dq uK [13] uK rfl ?_
      refine ae 14 ?_
      refine OT.box rfl rfl rfl rfl rfl (fun bv => ?_)
      refine j3 ?_
      refine ae 15 ?_
      refine aI (hs:=[bv]) (l:=[bv]) tab rPtr ⟨rfl,trivial⟩ uH kV (fun sP mB hmB hsP hoP hcP => ?_)
      refine ⟨hmB,_,aW _, ?_⟩
      refine cJ tab dq uK [16,17] uK rfl ?_
      refine cM ?_
      refine aw 18 ?_
      refine ak (k:=6) 1 ?_
      refine aC ?_
      refine forgetQ_n ?_
      refine cq ?_
      refine TC.perm bhQ ?_
      refine TC.splitC (b:=bv) (off:=0) [strV h4.name, .int .i64 g.kind,strV g.name, .int .i64 g.num,g.kids.v,ptr bf] [.bool false, .bool false] ?_
      refine TC.freeze fun mC hmC hAv => ?_
      refine TC.toRoom ?_
      refine TC.perm (aX _ _ _) ?_
      refine TC.fnBlock _ _ _ _ _ _ _ _ _ _ _ fun m7 hm7 hA0 hA8 => ?_
      have hm57 : m5 ≤ m7:=co hmA (co hmB (co hmC hm7))
      refine TC.perm bhR ?_
      refine TC.drop (List.sublist_cons_self _ _) ?_
      rw [← hn4,← hnC] at hZ
      have hVar : VarAt m7 ⟨bv,h4.name, .mk 5 [] 0 [.mk 4 hC.name 0 []],bf⟩:=⟨g,hg.mono (co hmB (co hmC hm7)),hAv.mono hm7⟩
      have hpsG : SlRep rGV m7 sP [⟨bv,h4.name, .mk 5 [] 0 [.mk 4 hC.name 0 []],bf⟩]:=slGV1 (v:=⟨bv,h4.name, .mk 5 [] 0 [.mk 4 hC.name 0 []],bf⟩) (hsP.mono (co hmC hm7)) hVar
      have htgv : tg (.mk 5 [] 0 [.mk 4 hC.name 0 []])=true:=tg_mk _ _ _ _ (fun _=>rfl) (fun e=>by omega) (fun x hx=>by rw [List.mem_singleton.1 hx];exact tg_leaf _ _ _ kT)
      refine uA ?_
      refine TO.tokFo hcP hoP 1 ?_
      refine cA (aX _ _ _) ?_
      have hm07:=co hm05 hm57
      have hE7:=hE0.mono (co hm45 hm57)
      have hcc7:=hcc.mono hm57
      refine uA ?_
      refine aG (k:=0) 5 ?_
      refine oC goes63 (cp (sig_ck ⟨bp,bt,cc0,es0,l,fm,0,[],[]⟩ bc bf hE7 (hcc7.pre (xs:=[ptr bp])) ((rTree_iff.1 hrd10).mono hm57) hsg ft.size ft.deep ft.wide ([⟨bv,h4.name, .mk 5 [] 0 [.mk 4 hC.name 0 []],bf⟩] : List GV) sP hpsG hoP (bm _) (fun v hv=>by rw [List.mem_singleton.1 hv];exact ⟨rfl,htgv⟩) _) ?_ ?_)
      ·rintro v m8 T8 ⟨tt,vs,ht,ps,hsig,hm8,hA2,hht,htg,ht7,hps,hpo,hT8⟩
       replace hsig : sigC l (([⟨bv,h4.name, .mk 5 [] 0 [.mk 4 hC.name 0 []],bf⟩] : List GV).map GV.pair) t=some (tt,((([⟨bv,h4.name, .mk 5 [] 0 [.mk 4 hC.name 0 []],bf⟩] : List GV)++vs).map GV.pair).reverse):=hsig
       rw [show sigC l [(h4.name, .mk 5 [] 0 [.mk 4 hC.name 0 []])] t=some (tt,((([⟨bv,h4.name, .mk 5 [] 0 [.mk 4 hC.name 0 []],bf⟩] : List GV)++vs).map GV.pair).reverse) from hsig] at hZ
       replace hZ : Z=(headsC l (fns) (fl.map GFun.tri++[(tt,((([⟨bv,h4.name, .mk 5 [] 0 [.mk 4 hC.name 0 []],bf⟩] : List GV)++vs).map GV.pair).reverse,bd)]) (p.kids.drop (i + 1))).bind G:=hZ
       have hm58:=co hm57 hm8
       have hT9 : T8.Perm ((([⟨bv,h4.name, .mk 5 [] 0 [.mk 4 hC.name 0 []],bf⟩] : List GV)++vs).map flagI++(.cells bf 7 [.pointer none] :: .obj fm (mapO kStr (es) (ec)) :: .cells b10 0 (treeC h10) :: .cells b8 0 (treeC h9) :: .cells bp 2 [fs.v] :: tok fs 1 :: tok sb 4 :: (FunsI fl++hdR h b1 b2 b3 bc bp L))):=(hT8.trans bhS)
       refine iU ?_
       refine aI (hs:=[bf]) (l:=[⟨bf,h9.name,hC.name⟩]) tab rGF ⟨⟨rfl,hA0.mono hm8⟩,trivial⟩ uH kV (fun sA m9 hm9 hsA _ _ => ?_)
       refine ⟨hm9,_,aW _, ?_⟩
       refine ae 7 ?_
       refine cI tab rGF 2 ((hfs.mono hm58).mono hm9) hfo hsA rfl rfl rfl rfl rfl rfl rfl (by simp only [aS,aU,aV,bE,rGF];omega) (fun fs' m10 hm10 hfs' hfo' => ?_)
       refine iZ ?_
       have hm510:=co hm58 (co hm9 hm10)
       have hm810:=co hm9 hm10
       have hrkX:=hrk.mono hm510
       refine uA ?_
       refine ai (k:=3) 4 ?_
       refine ai (k:=3) 4 ?_
       refine aK (r':=((2 : Nat) : Int)) uH lW kT ?_
       refine av tab rTree 2 hrkX uH la uH ?_
       rintro bb ib hb9 hrdb hAb
       (refine oL tab hAb ?_)
       refine uA ?_
       refine ap (hs:=[hb9]) (l:=[bd]) tab rTree ⟨hrdb,trivial⟩ uH kV (fun sB m11 hm11 hsB _ _ => ?_)
       refine qs rfl (cI tab rTree 3 ((hsb.mono hm510).mono hm11) hso hsB rfl rfl rfl rfl rfl rfl rfl (by simp only [aS,aU,aV,bE,rTree,mkR];omega) (fun sb' m12 hm12 hsb' hso' => ?_))
       have hm1012:=co hm11 hm12
       have hm512:=co hm510 hm1012
       have hm812:=co hm810 hm1012
       refine jd ?_
       refine ⟨(i + 1,fl++[⟨⟨bf,h9.name,hC.name⟩,tt,([⟨bv,h4.name, .mk 5 [] 0 [.mk 4 hC.name 0 []],bf⟩] : List GV)++vs,bd⟩],es,ec,fns,fs',sb',m12),uH,uH,rfl,rfl, ?_,⟨by omega,co hm45 hm512,fun f hf => ?_,by rw [bZ];exact hfs'.mono hm1012,hfo',by rw [bZ];exact hsb',hso',(hfns.mono hm512),by simp only [aS,aU,aV];omega,by rw [bZ];exact hZ⟩,by simp only;omega⟩
       ·exact fX
       ·exact fu
      ·rintro ch m8 T8 ⟨g1,g2,rfl,g4⟩
       have hZn : Z=none:=by
        rw [hZ]
        rw [show sigC l [(h4.name, .mk 5 [] 0 [.mk 4 hC.name 0 []])] t=none from g1];rfl
       repeat (first|refine thenQ_p ?_|refine blockQ_p ?_)
       obtain rfl : c=5:=lK
       exact build_bad (v2:=ptr bp) (v3 := .int .i64 0) rfl rfl (co hm07 g2) (Hs.trans ⟨_,bhT⟩ g4)
    ·have e1 : h9.kind=4:=e1
     rw [if_pos kT] at hZ
     obtain ⟨hnm,t,bd,hnk,hsg,hbl⟩:=decl_func hdk kT
     have ft:=fit_kids hp hw hmem (t:=t) lr lr
     have fb:=fit_kids hp hw hmem (t:=bd) lr lr
     have ek0 : kid n 0=t:=lD
     have ek1 : kid n 1=bd:=lD
     rw [ek0,ek1] at hZ
     rw [hnk] at hrk
     have hkl : h9.kids.len=2:=hrk.len
     refine iE ?_
     refine OT.box rfl rfl rfl rfl rfl (fun bf => ?_)
     refine jo ?_
     refine aK (r':=((0 : Nat) : Int)) uH lW kT ?_
     refine av tab rTree 0 hrk uH la uH ?_
     rintro b0 i0 h10 hrd10 hA10
     (refine oL tab hA10 ?_)
     refine uA ?_
     refine oA tab (fun b10 => ?_)
     refine ie ?_
     refine ai (k:=0) 2 ?_
     refine aj (fun e5 => ?_) (fun e5 => ?_)
     ·exfalso;have e5 : h9.kind=5:=e5;omega
     refine uA ?_
     refine TC.drawK (d2:=2) (d3:=3) cV rfl rfl uK [] 19 rfl [.cells bf 0 [strV h9.name,strV [], .int .i64 0,strV [], .int .i64 0, .slice none 0 0, .slice none 0 0, .pointer none, .pointer none, .slice none 0 0, .int .i64 (fs.len : Int)]] _ bhI ?_
     refine cJ tab dq uK [0,1,2,4,5,6] uK rfl ?_
     refine cL (k:=1) tab 3 hcc dq uK uK rfl rfl rfl rfl rfl rfl rfl ?_
     refine aP (k:=0) 7 0 dq ?_
     refine ae 8 ?_
     refine OT.lookup0 tab kStr 1 h9.name rfl rfl rfl rfl rfl rfl rfl rfl ?_
     refine ir ?_
     have hfn:=hfns h9.name
     cases hgn : getN fns h9.name with
     | some tt =>
      rw [hgn] at hfn
      obtain ⟨-,bq,hq,hmg, -, -⟩:=hfn
      have hZn : Z=none:=by rw [hZ,if_pos (.inl (by rw [← hn9,hgn];rfl))];rfl
      refine DO.convV (v':=ptr bq) ?_ (by rw [hmg];rfl)
      refine ae 9 ?_
      refine OT.ptrNil (e:=114) tab rfl rfl rfl rfl rfl rfl ?_
      refine ir ?_
      refine cJ tab dq uK [10,11,12,13,14,15,16,17] uK rfl ?_
      refine ae 18 ?_
      refine cG rfl rfl rfl rfl rfl rfl goes61 (cp (want_law false _ _) ?_ ?_)
      ·rintro _ _ _ ⟨e, -⟩
       cases e
      ·rintro _ _ _ ⟨-,rfl,rfl,rfl⟩
       repeat (first|refine forgetQ_p ?_|refine thenQ_p ?_|refine blockQ_p ?_)
       obtain rfl : c=5:=lK
       exact build_bad (v2:=ptr bp) (v3 := .int .i64 0) rfl rfl hm05 ⟨_,bhN⟩
     | none =>
      rw [hgn] at hfn
      have hmg : mget es h9.name=none:=hfn
      refine DO.convV (v' := .pointer none) ?_ (by rw [hmg];rfl)
      refine ae 9 ?_
      refine OT.ptrNil (e:=114) tab rfl rfl rfl rfl rfl rfl ?_
      refine ir ?_
      refine cJ tab dq uK [10,11,12,13] uK rfl ?_
      refine aP (k:=0) 14 0 dq ?_
      refine ae 15 ?_
      refine cG rfl rfl rfl rfl rfl rfl goes62 ((builtin_law h9.name _ _).x ?_)
      rintro _ m6 _ ⟨hm6,rfl,rfl⟩
      refine ⟨hm6,_,aW _, ?_⟩
      refine cJ tab dq uK [16,17] uK rfl ?_
      refine ae 18 ?_
      refine cG rfl rfl rfl rfl rfl rfl goes61 (cp (want_law (decide (builtinD h9.name ≤ 0)) _ _) ?_ ?_)
      ·rintro _ _ _ ⟨e,rfl,rfl,rfl⟩
       replace e:=of_decide_eq_true e
       refine ir ?_
       refine DO.nil uK ?_
       refine forgetQ_n ?_
       refine cq ?_
       have hno : ¬ ((getN fns n.name).isSome=true ∨ 0 < builtinD n.name):=by
        rw [← hn9,hgn]
        rintro (hh | hh)
        ·cases hh
        ·omega
       rw [if_neg hno] at hZ
       have hcc6:=hcc.mono hm6
       refine TC.drawK (d2:=2) (d3:=3) cV rfl rfl uK [9] 10 rfl [.cells bf 0 [strV h9.name,strV [], .int .i64 0,strV [], .int .i64 0, .slice none 0 0, .slice none 0 0, .pointer none, .pointer none, .slice none 0 0, .int .i64 (fs.len : Int)]] _ (aW _) ?_
       refine cJ tab dq uK [0,1,2,4,5,6,8] uK rfl ?_
       refine cL (k:=1) tab 3 hcc6 dq uK uK rfl rfl rfl rfl rfl rfl rfl ?_
       refine aP (k:=0) 7 0 dq ?_
       refine cM ?_
       refine aw 9 ?_
       refine OT.mapSet tab kStr 1 h9.name rfl rfl rfl rfl rfl rfl rfl ?_
       refine aC ?_
       refine forgetQ_n ?_
       refine cq ?_
       refine TC.fnBlock _ _ _ _ _ _ _ _ _ _ _ fun m7 hm7 hA0 hA8 => ?_
       have hm57:=co hm6 hm7
       refine cP (size:=1) ?_
       refine TC.perm bhJ ?_
       refine TC.drop (List.sublist_cons_self _ _) ?_
       have hfa : ∀ (tt : Tree) (m8 : Mem),m7 ≤ m8→tg tt=true→(∃ ht,TreeRep m8 ht tt∧At m8 bf 2 (treeC ht))→FnsAt m8 (mset es h9.name (ptr bf) ec) ((n.name,tt) :: fns):=fun tt m8 hm8 htg hA x=>by
        rw [mget_mset]
        unfold getN
        rw [List.find?_cons]
        by_cases hxn : h9.name=x
        ·rw [if_pos hxn,bH (by rw [← hn9];exact hxn)]
         obtain ⟨ht,h1,h2⟩:=hA
         exact ⟨htg,bf,ht,rfl,h1,h2⟩
        ·rw [if_neg hxn,bI (by rw [← hn9];exact hxn)]
         exact (hfns.mono (co hm57 hm8)) x
       have hm07:=co hm05 hm57
       have hE7:=hE0.mono (co hm45 hm57)
       have hcc7:=hcc.mono hm57
       refine uA ?_
       refine aG (k:=0) 4 ?_
       refine oC goes63 (cp (sig_ck ⟨bp,bt,cc0,es0,l,fm,0,[],[]⟩ bc bf hE7 (hcc7.pre (xs:=[ptr bp])) ((rTree_iff.1 hrd10).mono hm57) hsg ft.size ft.deep ft.wide ([] : List GV) nilS (cH _ _) cQ (bU _) (fun v hv=>by cases hv) _) ?_ ?_)
       ·rintro v m8 T8 ⟨tt,vs,ht,ps,hsig,hm8,hA2,hht,htg,ht7,hps,hpo,hT8⟩
        replace hsig : sigC l (([] : List GV).map GV.pair) t=some (tt,((([] : List GV)++vs).map GV.pair).reverse):=hsig
        rw [show sigC l [] t=some (tt,((([] : List GV)++vs).map GV.pair).reverse) from hsig] at hZ
        replace hZ : Z=(headsC l (((n.name,tt) :: fns)) (fl.map GFun.tri++[(tt,((([] : List GV)++vs).map GV.pair).reverse,bd)]) (p.kids.drop (i + 1))).bind G:=hZ
        have hm58:=co hm57 hm8
        have hT9 : T8.Perm ((([] : List GV)++vs).map flagI++(.cells bf 7 [.pointer none] :: .obj fm (mapO kStr ((mset es h9.name (ptr bf) ec)) ((mclock es h9.name ec))) :: .cells b10 0 (treeC h10) :: .cells b8 0 (treeC h9) :: .cells bp 2 [fs.v] :: tok fs 1 :: tok sb 4 :: (FunsI fl++hdR h b1 b2 b3 bc bp L))):=hT8
        refine iU ?_
        refine aI (hs:=[bf]) (l:=[⟨bf,h9.name,[]⟩]) tab rGF ⟨⟨rfl,hA0.mono hm8⟩,trivial⟩ uH kV (fun sA m9 hm9 hsA _ _ => ?_)
        refine ⟨hm9,_,aW _, ?_⟩
        refine ae 7 ?_
        refine cI tab rGF 2 ((hfs.mono hm58).mono hm9) hfo hsA rfl rfl rfl rfl rfl rfl rfl (by simp only [aS,aU,aV,bE,rGF];omega) (fun fs' m10 hm10 hfs' hfo' => ?_)
        refine iZ ?_
        have hm510:=co hm58 (co hm9 hm10)
        have hm810:=co hm9 hm10
        have hrkX:=hrk.mono hm510
        refine uA ?_
        refine ai (k:=3) 4 ?_
        refine ai (k:=3) 4 ?_
        refine aK (r':=((1 : Nat) : Int)) uH lW kT ?_
        refine av tab rTree 1 hrkX uH la uH ?_
        rintro bb ib hb9 hrdb hAb
        (refine oL tab hAb ?_)
        refine uA ?_
        refine ap (hs:=[hb9]) (l:=[bd]) tab rTree ⟨hrdb,trivial⟩ uH kV (fun sB m11 hm11 hsB _ _ => ?_)
        refine qs rfl (cI tab rTree 3 ((hsb.mono hm510).mono hm11) hso hsB rfl rfl rfl rfl rfl rfl rfl (by simp only [aS,aU,aV,bE,rTree,mkR];omega) (fun sb' m12 hm12 hsb' hso' => ?_))
        have hm1012:=co hm11 hm12
        have hm512:=co hm510 hm1012
        have hm812:=co hm810 hm1012
        refine jd ?_
        refine ⟨(i + 1,fl++[⟨⟨bf,h9.name,[]⟩,tt,([] : List GV)++vs,bd⟩],(mset es h9.name (ptr bf) ec),(mclock es h9.name ec),((n.name,tt) :: fns),fs',sb',m12),uH,uH,rfl,rfl, ?_,⟨by omega,co hm45 hm512,fun f hf => ?_,by rw [bZ];exact hfs'.mono hm1012,hfo',by rw [bZ];exact hsb',hso',(hfa tt m12 (co hm8 hm812) htg ⟨ht,hht.mono hm812,(hA2.mono hm812).pre (xs:=treeC ht) (ys:=[ps.v])⟩),by simp only [aS,aU,aV];omega,by rw [bZ];exact hZ⟩,by simp only;omega⟩
        ·exact fX
        ·exact fu
       ·rintro ch m8 T8 ⟨g1,g2,rfl,g4⟩
        have hZn : Z=none:=by
         rw [hZ]
         rw [show sigC l [] t=none from g1];rfl
        repeat (first|refine thenQ_p ?_|refine blockQ_p ?_)
        obtain rfl : c=5:=lK
        exact build_bad (v2:=ptr bp) (v3 := .int .i64 0) rfl rfl (co hm07 g2) (Hs.trans ⟨_,bhO⟩ g4)
      ·rintro _ _ _ ⟨e,rfl,rfl,rfl⟩
       replace e:=of_decide_eq_false e
       have hZn : Z=none:=by rw [hZ,if_pos (.inr (by rw [← hn9];omega))];rfl
       repeat (first|refine forgetQ_p ?_|refine thenQ_p ?_|refine blockQ_p ?_)
       obtain rfl : c=5:=lK
       exact build_bad (v2:=ptr bp) (v3 := .int .i64 0) rfl rfl (co hm05 hm6) ⟨_,bhN⟩
   ·have hlt0 : ¬ (i : Int) < (h.kids.len : Int):=hltI
    have hie : i=p.kids.length:=kT
    rw [hie,List.drop_length] at hZ
    replace hZ : Z=G (fns,fl.map GFun.tri):=hZ
    subst hG
    replace hZ : Z=(bodiesO ⟨l,fns⟩ (fl.map GFun.tri)).bind fun _=>Ck.want (mainOk fns):=hZ
    refine TC.freezeO fun m6 hm6 hfm => ?_
    refine TC.perm bhU ?_
    refine TC.drop (L' := .cells b2 0 [ptr bp] :: .cells bp 2 [fs.v] :: tok fs 1 :: .cells bc 3 [.pointer none, .int .i64 0] :: (FunsI fl++(.cells b3 0 [.int .i64 0] :: .cells bp 3 [.pointer none] :: L))) ((List.sublist_cons_self _ _).trans (List.sublist_cons_self _ _)) ?_
    refine uA ?_
    refine ai (k:=0) 0 ?_
    refine aG (k:=0) 1 ?_
    refine oC goes64 ((cloneF_law fs (fl.map GFun.gf) _ _ (hfs.mono hm6)).x ?_);
    rintro _ m7 _ ⟨hm7,rfl,scl,rfl,hscl⟩
    have hm57:=co hm6 hm7
    have hm07:=co hm05 hm57
    have hE7:=hE0.mono (co hm45 hm57)
    have hE8 : CE.Tbl ⟨bp,bt,cc0,es0,l,fm,ec,es,fns⟩ m7:=⟨hE7.prog,hE7.tb,hE7.tr,hE7.good⟩
    have hfm7:=hm7.o _ _ hfm
    have hfns7:=hfns.mono hm57
    have hcc7:=hcc.mono hm57
    have hsb7:=hsb.mono hm57
    have hfl7 : ∀ f ∈ fl,FunAt m7 f:=fun f hf=>(hfl f hf).mono hm57
    have hscl2:=hscl.len
    rw [bE] at hscl2
    have hbud : fl.length + cstL (fl.map GFun.body) ≤ lim40:=by
     have:=cstL_le (k:=40000) (fl.map GFun.body) (fun x hx=>by
      obtain ⟨f,hf,rfl⟩:=List.mem_map.1 hx
      have h1:=cst_le f.body
      have h2:=(hfl f hf).fit.size
      omega)
     rw [bE] at this
     unfold lim40
     omega
    have hBun : Bun ⟨bp,bt,cc0,es0,l,fm,ec,es,fns⟩ ⟨bc,[],0,zeroT⟩ [] 0 (cstL (fl.map GFun.body)) m7 (.cells b2 0 [ptr bp] :: .cells bp 2 [fs.v] :: tok fs 1 :: .cells bc 3 [.pointer none, .int .i64 0] :: (FunsI fl++(.cells b3 0 [.int .i64 0] :: .cells bp 3 [.pointer none] :: L))) (FunsI fl++(.cells b2 0 [ptr bp] :: .cells b3 0 [.int .i64 0] :: .cells bp 3 [.pointer none] :: L)) :=
     ⟨fs,fl.map GFun.gf,[],[],hfs.mono hm57,hfo,by rw [bE];exact hbud,rfl,rfl,bhV⟩
    generalize hT0 : (Item.cells b2 0 [ptr bp] :: .cells bp 2 [fs.v] :: tok fs 1 :: .cells bc 3 [.pointer none, .int .i64 0] :: (FunsI fl++(.cells b3 0 [.int .i64 0] :: .cells bp 3 [.pointer none] :: L)))=T0 at hBun
    refine iI ?_
    refine cu (ι:=Nat × Mem × List Item) [2,3,5,6,156,157] rfl (fun y=>[(158, .int .i64 (y.1 : Int))]) (fun y=>y.2.1) (fun y=>y.2.2) (fun y=>y.1 ≤ fl.length∧m7 ≤ y.2.1∧Bun ⟨bp,bt,cc0,es0,l,fm,ec,es,fns⟩ ⟨bc,[],0,zeroT⟩ [] 0 (cstL ((fl.drop y.1).map GFun.body)) y.2.1 y.2.2 (FunsI (fl.drop y.1)++(.cells b2 0 [ptr bp] :: .cells b3 0 [.int .i64 0] :: .cells bp 3 [.pointer none] :: L))∧Z=(bodiesO ⟨l,fns⟩ ((fl.drop y.1).map GFun.tri)).bind fun _=>Ck.want (mainOk fns)) (fun y=>fl.length - y.1) (0,m7,T0) uH rfl (bO _) ⟨bU _,cn _,hBun,hZ⟩ ?_
    clear hZ hBun
    rintro ⟨j,m8,T8⟩ ⟨hj,hm78,hB,hZ⟩
    simp only at hj hm78 hB hZ
    have hm08:=co hm07 hm78
    refine uA ?_
    refine aj (fun hltJ => ?_) (fun hltJ => ?_)
    ·have hlt1 : (j : Int) < (scl.len : Int):=hltJ
     have hlj : j < fl.length:=kT
     have hxj : (fl.map GFun.gf)[j]? = some fl[j].gf:=by simp [hlj]
     have hxb : (fl.map GFun.body)[j]? = some fl[j].body:=by simp [hlj]
     have hfj:=(hfl7 _ (bz hlj)).mono hm78
     rw [bJ hlj,br,bodiesO] at hZ
     rw [bJ hlj,funsI_cons,br,cstL] at hB
     generalize hfe : fl[j]=f at hxj hxb hfj hZ hB
     have hsc8:=hscl.mono hm78
     have hsb8:=hsb7.mono hm78
     obtain ⟨ht,ps,hht,hps,hA2⟩:=hfj.a2
     refine uA ?_
     refine am tab rGF j hsc8 uH la rfl hxj ?_
     rintro b0 i0 h0 ⟨rfl, -⟩ hA0
     (refine oL tab hA0 ?_)
     refine uA ?_
     refine am tab rTree j hsb8 uH la rfl hxb ?_
     rintro b4 i4 h4 hrd4 hA4
     (refine oL tab hA4 ?_)
     refine uA ?_
     refine oC goes65 (cp (body_ck (E:=⟨bp,bt,cc0,es0,l,fm,ec,es,fns⟩) (F:=⟨bc,[],f.gf.b,f.ft⟩) (sc:=[]) (w:=0) (lv:=Ck.lvl ⟨l,fns⟩ 200) (m:=m8) (hE8.mono hm78) (hm78.o _ _ hfm7) (hfns7.mono hm78) (hcc7.mono hm78) ⟨⟨_,hfj.a0.c0⟩,(fun g hg=>by cases hg),trivial⟩ trivial hht hfj.tg.1 hfj.tg.2 hps hfj.own hA2 (rTree_iff.1 hrd4) ((lvl_ok ⟨bp,bt,cc0,es0,l,fm,ec,es,fns⟩ 200).2 f.body (by have:=hfj.fit.deep;omega) hfj.fit (block_stmt hfj.bl)) hfj.bl hfj.fit.size hfj.fit.deep hfj.fit.wide (u := .pointer none) _ (FunsI (fl.drop (j + 1))++(.cells b2 0 [ptr bp] :: .cells b3 0 [.int .i64 0] :: .cells bp 3 [.pointer none] :: L)) (cstL ((fl.drop (j + 1)).map GFun.body)) ((hB.mono (cn _) kT).toF rfl rfl)) ?_ ?_)
     ·rintro v m9 T9 ⟨a,hbody,hm9,hB9⟩
      replace hbody : bodyC (Ck.lvl ⟨l,fns⟩ 200) f.tri.1 f.tri.2.1 [] f.tri.2.2=some a:=hbody
      rw [hbody] at hZ
      refine uA ?_
      refine ja ?_
      exact ⟨(j + 1,m9,T9),uH,uH,rfl,rfl,bO _,⟨by omega,co hm78 hm9,hB9.toF rfl rfl,hZ⟩,by simp only;omega⟩
     ·rintro ch m9 T9 ⟨g1,g2,rfl,g4⟩
      have hZn : Z=none:=by
       rw [hZ,show bodyC (Ck.lvl ⟨l,fns⟩ 200) f.tri.1 f.tri.2.1 [] f.tri.2.2=none from g1];rfl
      repeat (first|refine thenQ_p ?_|refine blockQ_p ?_)
      obtain rfl : c=5:=lK
      exact build_bad (v2:=ptr bp) (v3 := .int .i64 0) rfl rfl (co hm08 g2) (Hs.trans ⟨_,bhW⟩ g4)
    ·have hlt1 : ¬ (j : Int) < (scl.len : Int):=hltJ
     have hje : j=fl.length:=kT
     rw [hje,List.drop_length] at hZ hB
     replace hZ : Z=Ck.want (mainOk fns):=hZ
     obtain ⟨M,hM⟩:=hB.hs
     replace hM : T8.Perm (M++(.cells b2 0 [ptr bp] :: .cells b3 0 [.int .i64 0] :: .cells bp 3 [.pointer none] :: L)):=hM
     have hcc8:=hcc7.mono hm78
     have hfm8:=hm78.o _ _ hfm7
     have hmn:=(hfns7.mono hm78) [109,97,105,110]
     refine aD (bhX hM) ?_
     refine TC.drawK (d2:=2) (d3:=3) cV rfl rfl uK [8] 9 rfl [.cells b2 0 [ptr bp]] (.cells b3 0 [.int .i64 0] :: .cells bp 3 [.pointer none] :: (M++L)) (aW _) ?_
     refine aP (k:=0) 0 0 dq ?_
     refine cJ tab dq uK [1,2,3] uK rfl ?_
     refine cL (k:=1) tab 4 hcc8 dq uK uK rfl rfl rfl rfl rfl rfl rfl ?_
     refine ae 5 ?_
     refine OT.lookupP tab kStr [109,97,105,110] rfl rfl rfl rfl rfl rfl rfl hfm8 ?_
     refine ir ?_
     cases hgn : getN fns [109,97,105,110] with
     | none =>
      rw [hgn] at hmn
      have hmg : mget es [109,97,105,110]=none:=hmn
      have hmo : mainOk fns=false:=by unfold mainOk;rw [hgn]
      rw [hmo] at hZ
      have hZn : Z=none:=hZ
      refine DO.convV (v' := .pointer none) ?_ (by rw [hmg];rfl)
      refine jh ?_
      refine oC goes61 (cp (want_law false _ _) ?_ ?_)
      ·rintro _ _ _ ⟨e, -⟩
       cases e
      ·rintro _ _ _ ⟨-,rfl,rfl,rfl⟩
       exact fO
     | some tt =>
      rw [hgn] at hmn
      obtain ⟨htg,bq,hq,hmg,hrq,hAq⟩:=hmn
      have hkq:=hrq.kids.len
      have hmo : mainOk fns=decide ((hq.kids.len : Int)=0):=by
       unfold mainOk
       rw [hgn]
       show tt.kids.isEmpty=_
       rw [Bool.eq_iff_iff,List.isEmpty_iff_length_eq_zero,ba]
       omega
      rw [hmo] at hZ
      refine DO.convV (v':=ptr bq) ?_ (by rw [hmg];rfl)
      refine jh ?_
      refine ai (k:=0) 0 ?_
      refine ai (k:=0) 2 ?_
      refine aB (k:=3) hAq ?_
      refine oC goes61 (cp (want_law (decide ((hq.kids.len : Int)=0)) _ _) ?_ ?_)
      ·rintro _ _ _ ⟨e,rfl,rfl,rfl⟩
       rw [e] at hZ
       replace hZ : Z=some ():=hZ
       obtain rfl : c=0:=by rw [hcZ,hZ];rfl
       refine uA ?_
       refine ai (k:=0) 0 ?_
       refine ag (k:=0) 0 ?_
       refine ag (k:=0) 1 ?_
       intro tmps w' hA hst'
       refine leaves_cons kU (invoke_goes goes59) ?_
       refine (bRec_idle b2 b3 _ _ w' hst').mono ?_
       rintro e u' w2 ⟨v,rfl,rfl,hst2⟩
       exact buildE_end (pv:=ptr bp) tab rfl hA rfl rfl rfl rfl hst2 ⟨_ :: M,aW _⟩ hm08
      ·rintro _ _ _ ⟨e,rfl,rfl,rfl⟩
       rw [e] at hZ
       have hZn : Z=none:=hZ
       exact fO
 exact fE
end Go.Sep
namespace Go.Sep
open Go.Proofs Go.Ck
attribute [local irreducible] TC TO OT TCallX TCall DO DOt thenQ blockQ retQ At
theorem Check_law (p : Tree) (hw : p.wide ≤ 140737488355328) (m : Mem) (L : List Item) (h : HTree) (hr : TreeRep m h p) :
  TCall Tryz.prog 15 ⟨[treeV h]⟩ m L (Made m L fun r _=>r = .int .i64 (chkT p)):=by
 unfold TCall
 refine ah Tryz.func15 11 ?_
 refine oB (fun b1 => ?_)
 refine uL ?_
 refine oC goes32 ((Build_law p hw _ _ h hr).x ?_);
 rintro _ m1 _ ⟨hm1,rfl,pv,rfl⟩
 generalize chkT p=c
 cases pv with
 | pointer q =>
  exact gx
 | _ =>
  exact gx
end Go.Sep
namespace Go.Sep
theorem blk_take : ∀ (b : Bool) (r : Str) (j : Nat),blk b r ≤ j→blk b (r.take j)=blk b r
 | _,[],j,_=>by simp [blk]
 | true,c :: r,0,h=>by
  rw [blk] at h
  split at h <;> omega
 | true,c :: r,j + 1,h=>by
  rw [List.take_succ_cons,blk,blk]
  rw [blk] at h
  split at h
  ·rename_i hc
   rw [if_pos hc,if_pos hc,blk_take false r j kT]
  ·rename_i hc
   rw [if_neg hc,if_neg hc,blk_take true r j kT]
 | false,c :: r,0,h=>by
  have : blk false (c :: r)=0:=kT
  rw [this];rfl
 | false,c :: r,j + 1,h=>by
  rw [List.take_succ_cons,blk,blk]
  rw [blk] at h
  split at h
  ·rename_i hc
   rw [if_pos hc,if_pos hc,blk_take false r j kT]
  ·rename_i hc
   rw [if_neg hc,if_neg hc]
   split at h
   ·rename_i h2
    have hj : 1 ≤ j:=by
     cases r with
     | nil=>cases h2.2
     | cons x r =>
      have hx : x=47:=by have:=h2.2;simpa using this
      subst hx
      rw [blk,if_neg kV] at h
      omega
    have hh : (r.take j).head? = r.head?:=by
     cases r with
     | nil=>simp
     | cons x r =>
      obtain ⟨i,rfl⟩ : ∃ i,j=i + 1:=⟨j - 1,by omega⟩
      simp
    rw [hh,if_pos h2,if_pos h2,blk_take true r j kT]
   ·rename_i h2
    rw [if_neg h2,if_neg]
    rintro ⟨h3,h4⟩
    refine h2 ⟨h3, ?_⟩
    cases j with
    | zero=>simp at h4
    | succ i =>
     cases r with
     | nil=>simp at h4
     | cons x r=>simpa using h4
theorem takeWhile_take (p : UInt8→Bool) : ∀ (s : Str) (j : Nat),(s.takeWhile p).length ≤ j→((s.take j).takeWhile p).length=(s.takeWhile p).length
 | [],j,_=>by simp
 | c :: r,0,h=>by
  rw [List.takeWhile_cons] at h ⊢
  split at h
  ·simp at h
  ·rename_i hc
   rw [if_neg hc];rfl
 | c :: r,j + 1,h=>by
  rw [List.take_succ_cons,List.takeWhile_cons,List.takeWhile_cons]
  rw [List.takeWhile_cons] at h
  split
  ·rename_i hc
   rw [if_pos hc] at h
   simp only [aU] at h ⊢
   rw [takeWhile_take p r j kT]
  ·rfl
theorem span_take {p : UInt8→Bool} {s : Str} {j : Nat} (h : spanOf p s ≤ j) : spanOf p (s.take j)=spanOf p s:=takeWhile_take p s j h
theorem escX_take {r : Str} {b : UInt8} {n j : Nat} (h : escX r=some (b,n)) (hj : n ≤ j + 1) : escX (r.take j)=some (b,n):=by
 match r,h with
 | x :: y :: r',h =>
  have h' : (hexB x y).map (fun z=>(z,3))=some (b,n):=h
  have hn : n=3:=by
   cases hx : hexB x y with
   | none=>rw [hx] at h';cases h'
   | some z=>rw [hx] at h';cases h';rfl
  obtain ⟨i,rfl⟩ : ∃ i,j=i + 2:=⟨j - 2,by omega⟩
  exact h
theorem escB_take {r : Str} {b : UInt8} {n j : Nat} (h : escB r=some (b,n)) (hj : n ≤ j) : escB (r.take j)=some (b,n):=by
 have hp:=escB_pos h
 cases r with
 | nil=>cases h
 | cons c r =>
  obtain ⟨i,rfl⟩ : ∃ i,j=i + 1:=⟨j - 1,by omega⟩
  rw [List.take_succ_cons]
  rw [escB] at h ⊢
  by_cases h1 : c.toNat=110
  ·rw [if_pos h1] at h ⊢;exact h
  ·rw [if_neg h1] at h ⊢
   by_cases h2 : c.toNat=116
   ·rw [if_pos h2] at h ⊢;exact h
   ·rw [if_neg h2] at h ⊢
    by_cases h3 : c.toNat=34 ∨ c.toNat=92
    ·rw [if_pos h3] at h ⊢;exact h
    ·rw [if_neg h3] at h ⊢
     by_cases h4 : c.toNat=120
     ·rw [if_pos h4] at h ⊢;exact escX_take h hj
     ·rw [if_neg h4] at h;cases h
theorem lit_take : ∀ (N : Nat) (r t : Str) (n j : Nat),r.length < N→lit r=some (t,n)→n ≤ j→lit (r.take j)=some (t,n)
 | 0,_,_,_,_,h,_,_=>by omega
 | N + 1,[],_,_,_,_,h,_=>by cases h
 | N + 1,c :: r,t,n,j,hN,h,hj=>by
  have hp:=lit_le h
  simp only [aU] at hN
  obtain ⟨i,rfl⟩ : ∃ i,j=i + 1:=⟨j - 1,by omega⟩
  rw [List.take_succ_cons]
  by_cases h1 : c.toNat=34
  ·rw [lit_quote h1] at h ⊢;exact h
  by_cases h2 : c.toNat=10
  ·rw [lit_nl h2] at h;cases h
  by_cases h3 : c.toNat=92
  ·cases he : escB r with
   | none=>rw [lit_esc_none h3 he] at h;cases h
   | some p =>
    obtain ⟨b,k⟩:=p
    rw [lit_esc_some h3 he] at h
    cases hl : lit (r.drop k) with
    | none=>rw [hl] at h;cases h
    | some q =>
     obtain ⟨t',n'⟩:=q
     rw [hl] at h
     simp only [cg,a9,Prod.mk.injEq] at h
     have hk:=escB_pos he
     have he':=escB_take (j:=i) he kT
     rw [lit_esc_some h3 he',List.drop_take,lit_take N (r.drop k) t' n' (i - k) lH hl kT]
     simp only [cg,a9,Prod.mk.injEq]
     exact h
  ·cases hl : lit r with
   | none=>rw [lit_one h1 h2 h3,hl] at h;cases h
   | some q =>
    obtain ⟨t',n'⟩:=q
    rw [lit_one h1 h2 h3,hl] at h
    simp only [cg,a9,Prod.mk.injEq] at h
    rw [lit_one h1 h2 h3,lit_take N r t' n' i kT hl kT]
    simp only [cg,a9,Prod.mk.injEq]
    exact h
theorem prefixB_iff {p s : Str} : prefixB p s=true ↔ p.length ≤ s.length∧s.take p.length=p:=by
 unfold prefixB
 rw [a6,decide_eq_true_iff,decide_eq_true_iff]
theorem find_take {s p : Str} {j : Nat} (hj : p.length ≤ j) : ∀ l : List Str,l.find? (fun q=>prefixB q s)=some p→l.find? (fun q=>prefixB q (s.take j))=some p
 | [],h=>by cases h
 | q :: l,h=>by
  by_cases hq : prefixB q s=true
  ·rw [List.find?_cons_of_pos (p:=fun q=>prefixB q s) hq] at h
   cases h
   refine List.find?_cons_of_pos (p:=fun q=>prefixB q (s.take j)) (prefixB_iff.2 ?_)
   obtain ⟨h1,h2⟩:=prefixB_iff.1 hq
   refine ⟨by rw [bK];omega, ?_⟩
   rw [List.take_take,Nat.min_eq_left hj];exact h2
  ·rw [List.find?_cons_of_neg (p:=fun q=>prefixB q s) hq] at h
   rw [List.find?_cons_of_neg (p:=fun q=>prefixB q (s.take j))]
   ·exact find_take hj l h
   ·intro h3
    obtain ⟨h1,h2⟩:=prefixB_iff.1 h3
    rw [bK] at h1
    rw [List.take_take,Nat.min_eq_left kT] at h2
    exact hq (prefixB_iff.2 ⟨by omega,h2⟩)
theorem tokD_take {s : Str} {t : Tok} {n j : Nat} (h : tokD s=some (t,n)) (hj : n ≤ j) : tokD (s.take j)=some (t,n):=by
 have hp:=tokD_le h
 cases s with
 | nil=>cases h
 | cons c r =>
  obtain ⟨i,rfl⟩ : ∃ i,j=i + 1:=⟨j - 1,by omega⟩
  have hts : (c :: r).take (i + 1)=c :: r.take i:=rfl
  by_cases h1 : ltr c=true
  ·have hn : n=spanOf lod (c :: r):=by
    rw [tokD,if_pos h1] at h
    split at h
    ·cases h
    ·cases h;rfl
   have hsp : spanOf lod ((c :: r).take (i + 1))=spanOf lod (c :: r):=span_take kT
   have htt : ((c :: r).take (i + 1)).take (spanOf lod (c :: r))=(c :: r).take (spanOf lod (c :: r)):=by rw [List.take_take,Nat.min_eq_left kT]
   rw [hts] at hsp htt ⊢
   rw [tokD,if_pos h1] at h ⊢
   rw [hsp,htt];exact h
  ·by_cases h2 : dgt c=true
   ·have hn : n=spanOf lod (c :: r)∧spanOf dgt (c :: r)=spanOf lod (c :: r):=by
     rw [tokD,if_neg h1,if_pos h2] at h
     split at h
     ·cases h
     ·split at h
      ·cases h
      ·rename_i h3
       cases h;exact ⟨rfl,by omega⟩
    have hsp : spanOf lod ((c :: r).take (i + 1))=spanOf lod (c :: r):=span_take kT
    have hsd : spanOf dgt ((c :: r).take (i + 1))=spanOf dgt (c :: r):=span_take kT
    have htt : ((c :: r).take (i + 1)).take (spanOf lod (c :: r))=(c :: r).take (spanOf lod (c :: r)):=by rw [List.take_take,Nat.min_eq_left kT]
    rw [hts] at hsp hsd htt ⊢
    rw [tokD,if_neg h1,if_pos h2] at h ⊢
    rw [hsp,hsd,htt];exact h
   ·by_cases h3 : c.toNat=34
    ·rw [hts]
     rw [tokD,if_neg h1,if_neg h2,if_pos h3] at h ⊢
     cases hl : lit r with
     | none=>rw [hl] at h;cases h
     | some q =>
      obtain ⟨t',n'⟩:=q
      rw [hl] at h
      simp only at h
      have hn : n=n' + 1:=by
       split at h
       ·cases h
       ·cases h;rfl
      rw [lit_take (r.length + 1) r t' n' i kT hl kT]
      exact h
    ·rw [tokD,if_neg h1,if_neg h2,if_neg h3] at h
     cases hf : markL.find? (fun p=>prefixB p (c :: r)) with
     | none=>rw [hf] at h;cases h
     | some p =>
      rw [hf] at h
      have hn : n=p.length:=by cases h;rfl
      have:=find_take (s:=c :: r) (p:=p) (j:=i + 1) kT markL hf
      rw [hts] at this ⊢
      rw [tokD,if_neg h1,if_neg h2,if_neg h3,this]
      exact h
theorem cutF_take : ∀ (f : Nat) (r : Str) (at_ k a : Nat),cutF f r at_ k = .error (a,3)→r.length < f→at_ ≤ a∧a - at_ < r.length ∧ ∀ g,a - at_ < g → ∃ l,cutF g (r.take (a - at_)) at_ k = .ok l
 | 0,r,at_,k,a,h,hf=>by omega
 | f + 1,r,at_,k,a,h,hf=>by
  have hb:=blk_le false r
  rw [cutF] at h
  by_cases h1 : r.drop (blk false r)=[]
  ·rw [if_pos h1] at h;cases h
  ·rw [if_neg h1] at h
   have hlt : blk false r < r.length:=by
    refine Nat.lt_of_not_le fun hge=>h1 (bR hge)
   by_cases h2 : k=20000
   ·rw [if_pos h2] at h
    cases h
   ·rw [if_neg h2] at h
    cases ht : tokD (r.drop (blk false r)) with
    | none =>
     rw [ht] at h
     simp only [Except.error.injEq,Prod.mk.injEq,and_true] at h
     subst h
     refine ⟨by omega,by omega,fun g hg => ?_⟩
     rw [show at_ + blk false r - at_=blk false r by omega]
     cases g with
     | zero=>omega
     | succ g =>
      refine ⟨[], ?_⟩
      rw [cutF,blk_take false r _ (bm _),bR lM,if_pos rfl]
    | some p =>
     obtain ⟨t,n⟩:=p
     rw [ht] at h
     simp only at h
     have hn:=tokD_le ht
     rw [bL] at hn
     cases hc : cutF f ((r.drop (blk false r)).drop n) (at_ + blk false r + n) (k + 1) with
     | ok l=>rw [hc] at h;cases h
     | error e =>
      rw [hc] at h
      simp only [Except.error.injEq] at h
      subst h
      obtain ⟨g1,g2,g3⟩:=cutF_take f _ _ _ _ hc (by rw [bL,bL];omega)
      rw [bL,bL] at g2
      refine ⟨by omega,by omega,fun g hg => ?_⟩
      cases g with
      | zero=>omega
      | succ g =>
       have hd : (r.take (a - at_)).drop (blk false r)=(r.drop (blk false r)).take (a - at_ - blk false r):=List.drop_take ..
       obtain ⟨l,hl⟩:=g3 g kT
       have ht':=tokD_take (j:=a - at_ - blk false r) ht kT
       refine ⟨⟨t.kind,t.text,t.num,((at_ + blk false r : Nat) : Int)⟩ :: l, ?_⟩
       rw [cutF,blk_take false r _ kT,hd,if_neg,if_neg h2,ht']
       ·simp only
        rw [List.drop_take,show a - at_ - blk false r - n=a - (at_ + blk false r + n) by omega,hl]
       ·intro e
        rw [e] at ht'
        cases ht'
end Go.Sep
namespace Go.Sep
theorem cutF_ok : ∀ (f : Nat) (r : Str) (at_ k : Nat) (l : List Tok),cutF f r at_ k = .ok l→r.length < f→k ≤ 20000→l.length + k ≤ 20000∧(∀ t ∈ l,(at_ : Int) ≤ t.at_∧t.at_ < at_ + r.length)∧l.Pairwise (fun a b=>a.at_ < b.at_)
 | 0,r,at_,k,l,h,hf,hk=>by omega
 | f + 1,r,at_,k,l,h,hf,hk=>by
  have hb:=blk_le false r
  rw [cutF] at h
  by_cases h1 : r.drop (blk false r)=[]
  ·rw [if_pos h1] at h
   cases h
   exact ⟨by simpa using hk,by simp,List.Pairwise.nil⟩
  ·rw [if_neg h1] at h
   have hlt : blk false r < r.length:=Nat.lt_of_not_le fun hge=>h1 (bR hge)
   by_cases h2 : k=20000
   ·rw [if_pos h2] at h;cases h
   ·rw [if_neg h2] at h
    cases ht : tokD (r.drop (blk false r)) with
    | none=>rw [ht] at h;cases h
    | some p =>
     obtain ⟨t,n⟩:=p
     rw [ht] at h
     simp only at h
     have hn:=tokD_le ht
     rw [bL] at hn
     cases hc : cutF f ((r.drop (blk false r)).drop n) (at_ + blk false r + n) (k + 1) with
     | error e=>rw [hc] at h;cases h
     | ok l' =>
      rw [hc] at h
      cases h
      obtain ⟨g1,g2,g3⟩:=cutF_ok f _ _ _ _ hc (by rw [bL,bL];omega) kT
      have g2' : ∀ t ∈ l',((at_ + blk false r + n : Nat) : Int) ≤ t.at_∧t.at_ < at_ + r.length:=fun t ht=>by
       have:=g2 t ht
       rw [bL,bL] at this
       omega
      refine ⟨by simp only [aU];omega,fun t' ht' => ?_,List.pairwise_cons.2 ⟨fun t' ht' => ?_,g3⟩⟩
      ·rcases List.mem_cons.1 ht' with rfl | ht'
       ·simp only;omega
       ·have:=g2' t' ht';omega
      ·have:=g2' t' ht'
       simp only;omega
theorem cutF_err : ∀ (f : Nat) (r : Str) (at_ k a : Nat) (e : Int),cutF f r at_ k = .error (a,e)→r.length < f→at_ ≤ a∧a < at_ + r.length∧(e=3 ∨ e=4)
 | 0,r,at_,k,a,e,h,hf=>by omega
 | f + 1,r,at_,k,a,e,h,hf=>by
  have hb:=blk_le false r
  rw [cutF] at h
  by_cases h1 : r.drop (blk false r)=[]
  ·rw [if_pos h1] at h;cases h
  ·rw [if_neg h1] at h
   have hlt : blk false r < r.length:=Nat.lt_of_not_le fun hge=>h1 (bR hge)
   by_cases h2 : k=20000
   ·rw [if_pos h2] at h
    simp only [Except.error.injEq,Prod.mk.injEq] at h
    omega
   ·rw [if_neg h2] at h
    cases ht : tokD (r.drop (blk false r)) with
    | none =>
     rw [ht] at h
     simp only [Except.error.injEq,Prod.mk.injEq] at h
     omega
    | some p =>
     obtain ⟨t,n⟩:=p
     rw [ht] at h
     simp only at h
     have hn:=tokD_le ht
     rw [bL] at hn
     cases hc : cutF f ((r.drop (blk false r)).drop n) (at_ + blk false r + n) (k + 1) with
     | ok l=>rw [hc] at h;cases h
     | error e' =>
      rw [hc] at h
      simp only [Except.error.injEq] at h
      subst h
      have:=cutF_err f _ _ _ _ _ hc (by rw [bL,bL];omega)
      rw [bL,bL] at this
      omega
theorem scanD_cases (s : Str) : (65536 < s.length∧scanD s = ⟨[],0,13⟩) ∨
  (s.length ≤ 65536 ∧ ∃ l : List Tok,scanD s = ⟨l,0,0⟩ ∧ cutF (s.length + 1) s 0 0 = .ok l∧l.length ≤ 20000∧(∀ t ∈ l,0 ≤ t.at_∧t.at_ < s.length)∧l.Pairwise (fun a b=>a.at_ < b.at_)) ∨
  (s.length ≤ 65536 ∧ ∃ a e,scanD s = ⟨[],a,e⟩ ∧ a < s.length∧(e=4 ∨ (e=3∧(scanD (s.take a)).e=0))):=by
 by_cases hl : 65536 < s.length
 ·exact .inl ⟨hl,by rw [scanD,if_pos hl]⟩
 ·refine .inr ?_
  have hs : scanD s = .of (cutF (s.length + 1) s 0 0):=by rw [scanD,if_neg hl]
  cases hc : cutF (s.length + 1) s 0 0 with
  | ok l =>
   obtain ⟨h1,h2,h3⟩:=cutF_ok _ _ _ _ _ hc kT kT
   refine .inl ⟨by omega,l,by rw [hs,hc];rfl,rfl,by omega,fun t ht => ?_,h3⟩
   have:=h2 t ht
   omega
  | error x =>
   obtain ⟨a,e⟩:=x
   obtain ⟨h1,h2,h3⟩:=cutF_err _ _ _ _ _ _ hc kT
   refine .inr ⟨by omega,a,e,by rw [hs,hc];rfl,by omega, ?_⟩
   rcases h3 with rfl | rfl
   ·refine .inr ⟨rfl, ?_⟩
    obtain ⟨_,_,h4⟩:=cutF_take _ _ _ _ _ hc kT
    obtain ⟨l,hl2⟩:=h4 (a + 1) kT
    rw [Nat.sub_zero] at hl2
    rw [scanD,if_neg lM,show (s.take a).length=a by rw [bK];omega,hl2]
    rfl
   ·exact .inl rfl
theorem scanD_len (s : Str) : (scanD s).list.length ≤ 20000:=by
 rcases scanD_cases s with ⟨_,h⟩ | ⟨_,l,h,_,h2,_⟩ | ⟨_,a,e,h,_⟩
 ·rw [h];exact bU _
 ·rw [h];exact h2
 ·rw [h];exact bU _
end Go.Sep
namespace Go.Sep
def tkF (l : List Tok) : Ps.F:=fun i=>match l[i]? with
 | some t=>some ⟨t.kind,t.text,t.num⟩
 | none=>none
def placeD (s : Str) (l : List Tok) (k : Nat) : Int:=match l[k]? with
 | some t=>t.at_
 | none=>(s.length : Int)
structure PA where
 tree : Tree
 at_ : Int
 e : Int
def emptyT : Tree := .mk 0 [] 0 []
def parseL (s : Str) (l : List Tok) : PA :=
 match Ps.program l.length (tkF l) 0 with
 | .ok ds _=>if (Tree.mk 1 [] 0 ds).size ≤ 20000∧(Tree.mk 1 [] 0 ds).deep ≤ 100 then ⟨.mk 1 [] 0 ds,0,0⟩ else ⟨emptyT,0,4⟩
 | .bad k=>⟨emptyT,placeD s l k,3⟩
 | .out=>⟨emptyT,0,0⟩
def parseD (s : Str) : PA:=if (scanD s).e=0 then parseL s (scanD s).list else ⟨emptyT,((scanD s).at_ : Int),(scanD s).e⟩
def ParseR (a : PA) (r : Value) (m' : Mem) : Prop := ∃ x,r = .tuple ⟨[treeV x, .int .i64 a.at_, .int .i64 a.e]⟩ ∧ TreeRep m' x a.tree
theorem emptyT_rep (m : Mem) : TreeRep m ⟨0,[],0,⟨none,0,0⟩⟩ emptyT:=⟨rfl,rfl,rfl,cH _ _⟩
end Go.Sep
namespace Go.Ck
open Go.Sep
def sA : Str:=[102,117,110,99,32,109,97,105,110,40,41,123,112,114,105,110,116,40,49,41,59,125]
def sB : Str:=[102,117,110,99,32,109,97,105,110,40,41,123,112,114,105,110,116,40,110,105,108,41,59,125]
end Go.Ck
namespace Go.Sep
open Go.Proofs
attribute [local irreducible] TC TO OT TCallX TCall DO DOt thenQ blockQ retQ At
theorem start_ok {P : Program} {vs : List Value} {m : Mem} {L : List Item} {w : World} {n N : Nat} (hN : N ≤ n) (hs : St m w L) : Ok N (argEnv vs 0) [] m L { tmps:=⟨vs⟩ ++ Array.replicate (n - (⟨vs⟩ : Array Value).size) undef,defers:=[] } w:=by
 refine ⟨?_, ?_,rfl,hs⟩
 ·simp
  omega
 ·exact ey
theorem rec_idle (a b c : Nat) (m : Mem) (L : List Item) (w : World) (hs : St m w L) :
  CallsD Tryz.prog 29 ⟨[.pointer (some ⟨a,0,none⟩), .pointer (some ⟨b,0,none⟩), .pointer (some ⟨c,0,none⟩)]⟩ .returning w fun e u' w' => ∃ v,e = .returned v∧u' = .returning∧St m w' L:=by
 refine callsD_of_wpS Tryz.func29 rfl fun c₀ cs hu => ?_
 have h0:=start_ok (P:=Tryz.prog) (vs:=[.pointer (some ⟨a,0,none⟩), .pointer (some ⟨b,0,none⟩), .pointer (some ⟨c,0,none⟩)]) (n:=20) (N:=20) (bm _) hs
 have hrp : recPair (c₀ :: cs)=(.nilIface,c₀ :: cs):=by simp [recPair,recoverD,hu]
 have hc : ({ c₀ with mode := .returning } : Frame)=c₀:=by rw [← hu]
 apply wpS_seq
 refine kA ?_
 show Code.wpS _ _ _ _ _ _
 rw [← hc]
 refine wpS_TC (R:=Ret (.tuple ⟨[]⟩) m L) ?_ ((h0.put (d:=6) rfl .nilIface).put (d:=3) rfl .nilIface) ?_
 ·exact gX
 ·exact fA
theorem rec_fault (a b c : Nat) (m : Mem) (L : List Item) (w : World) (x : Int) (va vb vc : List Value) (ha : va.length=4) (hb : vb.length=1) (hcl : vc.length=1) (hs : St m w (.cells a 0 va :: .cells b 0 vb :: .cells c 0 vc :: L)) :
  CallsD Tryz.prog 29 ⟨[.pointer (some ⟨a,0,none⟩), .pointer (some ⟨b,0,none⟩), .pointer (some ⟨c,0,none⟩)]⟩ (.panicking [{ v := .iface 60 (.agg ⟨[.int .i64 x]⟩),recovered:=false }]) w fun e u' w' =>
   ∃ v,e = .returned v∧u' = .panicking [{ v := .iface 60 (.agg ⟨[.int .i64 x]⟩),recovered:=true }]∧St m w' (.cells a 0 [.int .i64 0,strV [], .int .i64 0, .slice none 0 0] :: .cells b 0 [.int .i64 x] :: .cells c 0 [.int .i64 3] :: L):=by
 refine callsD_of_wpS Tryz.func29 rfl fun c₀ cs hu => ?_
 have h0:=start_ok (P:=Tryz.prog) (vs:=[.pointer (some ⟨a,0,none⟩), .pointer (some ⟨b,0,none⟩), .pointer (some ⟨c,0,none⟩)]) (n:=20) (N:=20) (bm _) hs
 have hrp : recPair (c₀ :: cs)=(.iface 60 (.agg ⟨[.int .i64 x]⟩),{ c₀ with mode := .panicking [{ v := .iface 60 (.agg ⟨[.int .i64 x]⟩),recovered:=true }] } :: cs):=by simp [recPair,recoverD,hu]
 apply wpS_seq
 refine kA ?_
 show Code.wpS _ _ _ _ _ _
 obtain ⟨v0,v1,v2,v3,rfl⟩ : ∃ v0 v1 v2 v3,va=[v0,v1,v2,v3]:=by
  match va,ha with
  | [v0,v1,v2,v3],_=>exact ⟨_,_,_,_,rfl⟩
 obtain ⟨vb,rfl⟩:=List.length_eq_one_iff.1 hb
 obtain ⟨vc,rfl⟩:=List.length_eq_one_iff.1 hcl
 refine wpS_TC (R:=fun r m' L'=>r = .tuple ⟨[]⟩ ∧ m' = m∧L' = .cells a 0 [.int .i64 0,strV [], .int .i64 0, .slice none 0 0] :: .cells b 0 [.int .i64 x] :: .cells c 0 [.int .i64 3] :: L) ?_ ((h0.put (d:=6) rfl _).put (d:=3) rfl _) ?_
 ·refine uA ?_
  refine jR ?_
  refine qs rfl (OT.assertOk tab rfl rfl rfl rfl rfl ?_)
  refine uA ?_
  refine oA tab (fun b4 => ?_)
  refine ie ?_
  refine aH [] cV 6 [] (.cells b4 0 [.int .i64 x] :: .cells a 0 [v0,v1,v2,v3] :: .cells b 0 [vb] :: .cells c 0 [vc] :: L) (aW _) ?_
  refine cJ tab uC uK [0,1] uK rfl ?_
  refine DO.fork 2 [3] uK ⟨⟨_,rfl,rfl,rfl, ?_⟩,⟨_,rfl,rfl,rfl, ?_⟩,trivial⟩
  ·refine OT.loadL0 tab 0 rfl rfl rfl rfl rfl rfl ?_
   refine ir ?_
   refine ae 3 ?_
   refine ax 1 ?_
   exact eN
  ·refine ax 1 ?_
   refine ir ?_
   refine ae 2 ?_
   refine OT.loadL0 tab 0 rfl rfl rfl rfl rfl rfl ?_
   exact eN
 ·exact fA
end Go.Sep
namespace Go.Sep
open Go.Proofs
attribute [local irreducible] TC TO OT TCallX TCall DO DOt thenQ blockQ retQ At
def ParseE (a : PA) (m : Mem) (L : List Item) : Ending→World→Prop
 | .returned v,w' => ∃ m' L',St m' w' L' ∧ Made m L (ParseR a) v m' L'
 | .panicked _,_=>False
 | .outgrown,_=>False
theorem parseE_end {P : Program} {fn : Func} {a : PA} {m m' : Mem} {L : List Item} {ρ : Env} {tmps : Array Value} {w : World} {b2 b3 b4 : Nat} {x : HTree} {L' : List Item} (T : Tab P) {t2 t3 t4 : TypeId}
  (hres : fn.results = ⟨[.cell 2 t2, .cell 3 t3, .cell 4 t4]⟩) (hA : ∀ i v,look ρ i=some v→tmps[i]? = some v) (h2 : look ρ 2=some (.pointer (some ⟨b2,0,none⟩))) (h3 : look ρ 3=some (.pointer (some ⟨b3,0,none⟩))) (h4 : look ρ 4=some (.pointer (some ⟨b4,0,none⟩)))
  (l2 : T.load t2 (treeC x) 0=some (treeV x)) (l3 : T.load t3 [.int .i64 a.at_] 0=some (.int .i64 a.at_)) (l4 : T.load t4 [.int .i64 a.e] 0=some (.int .i64 a.e))
  (hst : St m' w (.cells b2 0 (treeC x) :: .cells b3 0 [.int .i64 a.at_] :: .cells b4 0 [.int .i64 a.e] :: L')) (hsub : L.Sublist L') (hm : m ≤ m') (hr : TreeRep m' x a.tree) : Leaves P fn tmps (ParseE a m L) [] .returning w:=by
 refine ⟨.tuple ⟨[treeV x, .int .i64 a.at_, .int .i64 a.e]⟩, ?_,m',L,hst.sub ?_,hm,rfl,x,rfl,hr⟩
 ·have g2:=run_loadVar (P:=P) T (k:=0) (hst.cells (i:=0) rfl) l2
  have g3:=run_loadVar (P:=P) T (k:=0) (hst.cells (i:=1) rfl) l3
  have g4:=run_loadVar (P:=P) T (k:=0) (hst.cells (i:=2) rfl) l4
  have e2:=hA 2 _ h2
  have e3:=hA 3 _ h3
  have e4:=hA 4 _ h4
  unfold results
  rw [hres,Array.mapM_eq_mapM_toList]
  simp [Sem.run_bind,Sem.run_map,e2,e3,e4,asAddr,g2,g3,g4]
 ·exact bN _ (bN _ (bN _ hsub))
theorem parse_law (hout : ∀ l : List Tok,Ps.program l.length (tkF l) 0 ≠ .out) (m : Mem) (L : List Item) (s : Str) (hE : Errs m) : TCall Tryz.prog 14 ⟨[strV s]⟩ m L (Made m L (ParseR (parseD s))):=by
 have key : ∀ w,St m w L→Calls Tryz.prog 14 ⟨[strV s]⟩ w (ParseE (parseD s) m L):=by
  intro w hst
  have hll:=scanD_len s
  refine calls_enterD Tryz.func14 rfl 31 rfl hst ?_
  refine uA ?_
  refine oA tab (fun b2 => ?_)
  refine oA tab (fun b3 => ?_)
  refine oA tab (fun b4 => ?_)
  refine uA ?_
  refine oC goes28 ((scan_law _ _ s hE).x ?_);
  rintro _ m1 _ ⟨hm1,rfl,sl,rfl,hsl⟩
  refine uA ?_
  refine an 1 ?_
  refine an 0 ?_
  refine iW ?_
  refine aQ (fun he => ?_) (fun he => ?_)
  ·have hD : parseD s = ⟨emptyT,((scanD s).at_ : Int),(scanD s).e⟩:=by rw [parseD,if_neg he]
   refine TC.quiet ?_
   refine aH [5] cV 6 [.cells b4 0 [.int .i64 (scanD s).e]] (.cells b3 0 [.int .i64 ((scanD s).at_ : Int)] :: .cells b2 0 [.int .i64 0,strV [], .int .i64 0, .slice none 0 0] :: L) (aW _) ?_
   refine iL ?_
   refine au (k:=0) 2 0 ?_
   refine DO.fork 1 [3] uK ⟨⟨_,rfl,rfl,rfl, ?_⟩,⟨_,rfl,rfl,rfl, ?_⟩,trivial⟩
   ·refine OT.loadL0 tab 1 rfl rfl rfl rfl rfl rfl ?_
    refine ir ?_
    refine ae 3 ?_
    refine ax 2 ?_
    exact eI
   ·refine ax 2 ?_
    refine ir ?_
    refine ae 1 ?_
    refine OT.loadL0 tab 1 rfl rfl rfl rfl rfl rfl ?_
    exact eI
  ·have hD : parseD s=parseL s (scanD s).list:=by rw [parseD,if_pos he]
   rw [hD]
   generalize (scanD s).list=l at hsl hll
   refine uA ?_
   refine oB (fun bp => ?_)
   refine uA ?_
   refine TO.defer rfl rfl rfl rfl rfl ?_
   refine uA ?_
   have hEk : (⟨s,sl,l,bp,l.length + 1⟩ : PE).Ok m1:=⟨hsl,hll,by show l.length + 1 ≤ _;omega,by show 1 ≤ l.length + 1;omega⟩
   have hG:=gw (mb:=m1) (E:=⟨s,sl,l,bp,l.length + 1⟩) (3 * l.length + 4)
   have hP:=program_par (decl_par (hG.typ 0) (hG.block 0)) m1 (.cells b4 0 [.int .i64 (scanD s).e] :: .cells b3 0 [.int .i64 ((scanD s).at_ : Int)] :: .cells b2 0 [.int .i64 0,strV [], .int .i64 0, .slice none 0 0] :: L) 0 (cn _) hEk (bU _)
   have hpe : Ps.program l.length (tkF l) 0=Ps.progL (Ps.declP (l.length + 1) (Ps.gr (l.length + 1) (3 * l.length + 4)).typ (Ps.gr (l.length + 1) (3 * l.length + 4)).block) (l.length + 1) (PE.f ⟨s,sl,l,bp,l.length + 1⟩) 0:=rfl
   have hn:=hout l
   rw [hpe] at hn
   refine oC goes30 (cp (hP ?_) ?_ ?_)
   ·intro hb
    unfold Ps.bind at hb
    split at hb
    ·cases hb
    ·cases hb
    ·rename_i he'
     exact hn he'
   ·rintro v m2 L2 ⟨a,k',xs,h1,hm2,hk',⟨x,rfl,rfl,hrx⟩,rfl⟩
    obtain ⟨ds,hds,rfl⟩ : ∃ ds,Ps.program l.length (tkF l) 0 = .ok ds k' ∧ a = .mk 1 [] 0 ds:=by
     rw [hpe]
     unfold Ps.bind at h1
     split at h1
     ·rename_i ds k'' he'
      injection h1 with h1 h2
      subst h2
      exact ⟨ds,he',h1.symm⟩
     ·cases h1
     ·cases h1
    replace hm1:=co hm1 hm2
    refine uA ?_
    refine an 3 ?_
    refine oA tab (fun bl => ?_)
    refine ie ?_
    refine qs rfl (OT.loadL0 tab 4 rfl rfl rfl rfl rfl rfl ?_)
    refine uA ?_
    refine oC goes31 ((fits_law (.mk 1 [] 0 ds) m2 _ x bl 1 20000 hrx kV kV kV kV).x ?_);
    rintro _ _ _ ⟨rfl,⟨rfl,k1,k2,rfl⟩ | ⟨rfl,k1,n,rfl⟩⟩
    ·have hA2 : parseL s l = ⟨.mk 1 [] 0 ds,0,0⟩:=by
      rw [parseL,hds]
      exact if_pos ⟨by omega,by omega⟩
     refine uA ?_
     refine qs rfl (OT.loadL0 tab 4 rfl rfl rfl rfl rfl rfl ?_)
     refine jb ?_
     intro tmps w' hA hst'
     refine j8 ?_
     refine (rec_idle b2 b3 b4 _ _ w' hst').mono ?_
     rintro e u' w2 ⟨v,rfl,rfl,hst2⟩
     exact parseE_end (x:=x) tab rfl hA rfl rfl rfl rfl rfl rfl (hst2.perm (aY pfr4 (aZ _ (aY pfr3 (aZ _ pfr2))))) (bN _ (bN _ (bO _))) hm1 hrx
    ·have hA2 : parseL s l = ⟨emptyT,0,4⟩:=by
      rw [parseL,hds]
      exact if_neg fun h=>k1 ⟨by omega,by omega⟩
     refine jb ?_
     refine thenQ_r ?_
     intro tmps w' hA hst'
     refine j8 ?_
     refine (rec_idle b2 b3 b4 _ _ w' hst').mono ?_
     rintro e u' w2 ⟨v,rfl,rfl,hst2⟩
     exact parseE_end (x:=⟨0,[],0,⟨none,0,0⟩⟩) tab rfl hA rfl rfl rfl rfl rfl rfl (hst2.perm (aY pfr4 (aZ _ (aY pfr3 (aZ _ pfr2))))) (bN _ (bN _ (bO _))) hm1 (emptyT_rep _)
   ·rintro ch m2 L2 ⟨k',h',h1,hm2,hk',rfl,rfl⟩
    have hA2 : parseL s l = ⟨emptyT,placeD s l k',3⟩:=by
     have : Ps.program l.length (tkF l) 0 = .bad k':=by
      rw [hpe]
      unfold Ps.bind at h1
      split at h1
      ·cases h1
      ·rename_i he'
       injection h1 with h1
       rw [← h1];exact he'
      ·cases h1
     rw [parseL,this]
    replace hm1:=co hm1 hm2
    repeat (first | refine thenQ_p ?_ | refine blockQ_p ?_)
    intro tmps w' hA hst'
    refine j8 ?_
    refine (rec_fault b2 b3 b4 m2 _ w' (placeD s l k') _ _ _ rfl rfl rfl (hst'.perm (aY pfr3 (aZ _ (aY pfr2 (aZ _ pfr1)))))).mono ?_
    rintro e u' w2 ⟨v,rfl,rfl,hst2⟩
    exact parseE_end (x:=⟨0,[],0,⟨none,0,0⟩⟩) tab rfl hA rfl rfl rfl rfl rfl rfl hst2 (bN _ (bO _)) hm1 (emptyT_rep _)
 exact fE
end Go.Sep
namespace Go.Ps
open Go.Sep (Tree Str)
variable {α β : Type}
section
variable (M : Nat) (f : F)
structure Run (st : Bool) (k0 : Nat) (p : Pp α) : Prop where
 out : ∀ k,k0 ≤ k→k ≤ M→p f k ≠ .out
 ok : ∀ k,k0 ≤ k→k ≤ M → ∀ a k',p f k = .ok a k' → k ≤ k' ∧ k' ≤ M∧(st=true→k < k')
end
section
variable {M : Nat} {f : F}
theorem Run.vac {st : Bool} {k0 : Nat} {p : Pp α} (h : M < k0) : Run M f st k0 p:=⟨fun k h1 h2=>kT,fun k h1 h2=>kT⟩
theorem Run.up {st : Bool} {k0 k1 : Nat} {p : Pp α} (h : Run M f st k0 p) (hk : k0 ≤ k1) : Run M f st k1 p:=⟨fun k h1 h2=>h.out k kT h2,fun k h1 h2=>h.ok k kT h2⟩
theorem Run.lax {st : Bool} {k0 : Nat} {p : Pp α} (h : Run M f st k0 p) : Run M f false k0 p:=⟨h.out,fun k h1 h2 a k' h3=>⟨(h.ok k h1 h2 a k' h3).1,(h.ok k h1 h2 a k' h3).2.1,fun e=>(by cases e)⟩⟩
theorem Run.ret {k0 : Nat} (a : α) : Run M f false k0 (ret a):=⟨fun k _ _ h=>(by cases h),fun k h1 h2 a k' h=>(by injection h with _ h;subst h;exact ⟨bm _,h2,fun e=>(by cases e)⟩)⟩
theorem Run.fail {st : Bool} {k0 : Nat} : Run M f st k0 (fail : Pp α):=⟨fun k _ _ h=>(by cases h),fun k h1 h2 a k' h=>(by cases h)⟩
theorem Run.bind {s1 s2 : Bool} {k0 : Nat} {p : Pp α} {g : α → Pp β} (hp : Run M f s1 k0 p) (hg : ∀ a,Run M f s2 (bif s1 then k0 + 1 else k0) (g a)) : Run M f (s1 || s2) k0 (bind p g):=by
 have hb : ∀ k,k0 ≤ k→k ≤ M → ∀ a k1,p f k = .ok a k1→(bif s1 then k0 + 1 else k0) ≤ k1:=fun k h1 h2 a k1 hx=>by
  have:=hp.ok k h1 h2 a k1 hx
  cases s1 with
  | true=>have:=this.2.2 rfl;show k0 + 1 ≤ k1;omega
  | false=>show k0 ≤ k1;omega
 refine ⟨fun k h1 h2 h => ?_,fun k h1 h2 b k' h => ?_⟩
 ·unfold Ps.bind at h
  cases hx : p f k with
  | ok a k1 =>
   simp only [hx] at h
   exact (hg a).out k1 (hb k h1 h2 a k1 hx) (hp.ok k h1 h2 a k1 hx).2.1 h
  | bad k1=>simp only [hx] at h;cases h
  | out=>exact hp.out k h1 h2 hx
 ·unfold Ps.bind at h
  cases hx : p f k with
  | ok a k1 =>
   simp only [hx] at h
   have q1:=hp.ok k h1 h2 a k1 hx
   have q2:=(hg a).ok k1 (hb k h1 h2 a k1 hx) q1.2.1 b k' h
   refine ⟨by omega,q2.2.1,fun e => ?_⟩
   cases s1 with
   | true=>have:=q1.2.2 rfl;omega
   | false=>have:=q2.2.2 e;omega
  | bad k1=>simp only [hx] at h;cases h
  | out=>simp only [hx] at h;cases h
theorem Run.step {st : Bool} {k0 : Nat} {A : Pp α} {k : Nat} (h : Run M f st (k0 + 1) A) (h1 : k0 ≤ k) (hlt : k < M) : A f (k + 1) ≠ .out ∧ ∀ a k',A f (k + 1) = .ok a k' → k < k' ∧ k' ≤ M :=
 ⟨h.out _ kT kT,fun a k' hx=>(by have:=h.ok _ kT kT a k' hx;omega)⟩
theorem isM_some {s : Str} {k : Nat} (h : isM s f k=true) : f k ≠ none:=fun e=>by unfold isM at h;rw [e] at h;cases h
variable (hf : ∀ i,M ≤ i→f i=none)
include hf
theorem at_lt {k : Nat} (h : f k ≠ none) : k < M:=by
 rcases Nat.lt_or_ge k M with h1 | h1
 ·exact h1
 ·exact absurd (hf k h1) h
theorem Run.tok {s1 st : Bool} {k0 : Nat} {s : Str} {A B : Pp α} (hA : Run M f s1 (k0 + 1) A) (hB : Run M f st k0 B) : Run M f st k0 (tok s A B):=by
 refine ⟨fun k h1 h2 h => ?_,fun k h1 h2 a k' h => ?_⟩
 ·unfold Ps.tok at h
  cases hb : isM s f k with
  | true=>simp only [hb,cj] at h;exact (hA.step h1 (at_lt hf (isM_some hb))).1 h
  | false=>simp only [hb,ci] at h;exact hB.out k h1 h2 h
 ·unfold Ps.tok at h
  cases hb : isM s f k with
  | true =>
   simp only [hb,cj] at h
   have:=(hA.step h1 (at_lt hf (isM_some hb))).2 a k' h
   exact ⟨by omega,this.2,fun _=>this.1⟩
  | false=>simp only [hb,ci] at h;exact hB.ok k h1 h2 a k' h
theorem Run.need {s1 st : Bool} {k0 : Nat} {s : Str} {A : Pp α} (hA : Run M f s1 (k0 + 1) A) : Run M f st k0 (need s A):=Run.tok hf hA Run.fail
theorem Run.tkn {s1 st : Bool} {k0 : Nat} {c : Int} {A : Tk→Pp α} {B : Pp α} (hA : ∀ t,Run M f s1 (k0 + 1) (A t)) (hB : Run M f st k0 B) : Run M f st k0 (tkn c A B):=by
 refine ⟨fun k h1 h2 h => ?_,fun k h1 h2 a k' h => ?_⟩
 ·unfold Ps.tkn at h
  cases hx : f k with
  | none=>simp only [hx] at h;exact hB.out k h1 h2 h
  | some t =>
   cases hb : decide (t.kind=c) with
   | true=>simp only [hx,hb,cj] at h;exact ((hA t).step h1 (at_lt hf (by rw [hx];exact fun e=>(by cases e)))).1 h
   | false=>simp only [hx,hb,ci] at h;exact hB.out k h1 h2 h
 ·unfold Ps.tkn at h
  cases hx : f k with
  | none=>simp only [hx] at h;exact hB.ok k h1 h2 a k' h
  | some t =>
   cases hb : decide (t.kind=c) with
   | true =>
    simp only [hx,hb,cj] at h
    have:=((hA t).step h1 (at_lt hf (by rw [hx];exact fun e=>(by cases e)))).2 a k' h
    exact ⟨by omega,this.2,fun _=>this.1⟩
   | false=>simp only [hx,hb,ci] at h;exact hB.ok k h1 h2 a k' h
theorem Run.name {s1 st : Bool} {k0 : Nat} {A : Str→Pp α} (hA : ∀ t,Run M f s1 (k0 + 1) (A t)) : Run M f st k0 (name A):=Run.tkn hf (fun t=>hA t.text) Run.fail
theorem Run.oneOf {s1 st : Bool} {k0 : Nat} {ops : List Str} {A : Str→Pp α} {B : Pp α} (hA : ∀ t,Run M f s1 (k0 + 1) (A t)) (hB : Run M f st k0 B) : Run M f st k0 (oneOf ops A B):=by
 refine ⟨fun k h1 h2 h => ?_,fun k h1 h2 a k' h => ?_⟩
 ·unfold Ps.oneOf at h
  cases hx : ops.find? (fun s=>isM s f k) with
  | none=>simp only [hx] at h;exact hB.out k h1 h2 h
  | some t=>simp only [hx] at h;exact ((hA t).step h1 (at_lt hf (isM_some (List.find?_some (p:=fun s=>isM s f k) hx)))).1 h
 ·unfold Ps.oneOf at h
  cases hx : ops.find? (fun s=>isM s f k) with
  | none=>simp only [hx] at h;exact hB.ok k h1 h2 a k' h
  | some t =>
   simp only [hx] at h
   have:=((hA t).step h1 (at_lt hf (isM_some (List.find?_some (p:=fun s=>isM s f k) hx)))).2 a k' h
   exact ⟨by omega,this.2,fun _=>this.1⟩
omit hf
theorem Run.peek {st : Bool} {k0 : Nat} {q : F→Nat→Bool} {A B : Pp α} (hA : Run M f st k0 A) (hB : Run M f st k0 B) : Run M f st k0 (peek q A B):=by
 refine ⟨fun k h1 h2 h => ?_,fun k h1 h2 a k' h => ?_⟩
 ·unfold Ps.peek at h
  cases hb : q f k with
  | true=>simp only [hb,cj] at h;exact hA.out k h1 h2 h
  | false=>simp only [hb,ci] at h;exact hB.out k h1 h2 h
 ·unfold Ps.peek at h
  cases hb : q f k with
  | true=>simp only [hb,cj] at h;exact hA.ok k h1 h2 a k' h
  | false=>simp only [hb,ci] at h;exact hB.ok k h1 h2 a k' h
include hf
theorem Run.commas {X : Pp α} : ∀ (j k0 : Nat),M + 1 ≤ j + k0→Run M f true k0 X→Run M f true k0 (commas j X)
 | 0,k0,h,hX=>Run.vac kT
 | j + 1,k0,h,hX=>by
  refine Run.bind (s2:=false) hX fun a=>Run.tok hf (s1:=true) ?_ (Run.ret _)
  exact Run.bind (s2:=false) (Run.commas j _ (by show M + 1 ≤ j + (k0 + 1 + 1);omega) (hX.up (by show k0 ≤ k0 + 1 + 1;omega))) fun l=>Run.ret _
theorem Run.upto {X : Pp α} {s : Str} : ∀ (j k0 : Nat),M + 1 ≤ j + k0→Run M f true k0 X→Run M f true k0 (upto j s X)
 | 0,k0,h,hX=>Run.vac kT
 | j + 1,k0,h,hX=>by
  refine Run.tok hf (Run.ret _) (Run.bind (s2:=false) hX fun a => ?_)
  exact (Run.bind (s2:=false) (Run.upto j _ (by show M + 1 ≤ j + (k0 + 1);omega) (hX.up (by show k0 ≤ k0 + 1;omega))) fun l=>Run.ret _).lax
theorem Run.loopB {X : Pp Tree} {ops : List Str} : ∀ (j k0 : Nat) (n : Tree),M + 1 ≤ j + k0→Run M f true k0 X→Run M f false k0 (loopB j ops X n)
 | 0,k0,n,h,hX=>Run.vac kT
 | j + 1,k0,n,h,hX=>by
  refine Run.oneOf hf (s1:=true) (fun op => ?_) (Run.ret _)
  exact Run.bind (s2:=false) (hX.up kT) fun m=>Run.loopB j _ _ (by show M + 1 ≤ j + (k0 + 1 + 1);omega) (hX.up (by show k0 ≤ k0 + 1 + 1;omega))
theorem Run.binL {N : Nat} {U : Pp Tree} {k0 : Nat} (hN : M + 1 ≤ N) (hU : Run M f true k0 U) : ∀ l,Run M f true k0 (binL N U l)
 | []=>hU
 | ops :: rest=>Run.bind (s2:=false) (Run.binL hN hU rest) fun n=>Run.loopB hf N _ n (by show M + 1 ≤ N + (k0 + 1);omega) ((Run.binL hN hU rest).up (by show k0 ≤ k0 + 1;omega))
theorem Run.inP {N : Nat} {s : Str} {X : Pp α} {k0 : Nat} (hN : M + 1 ≤ N) (hX : Run M f true k0 X) : Run M f true k0 (inP N s X):=by
 refine Run.tok hf (Run.ret _) (Run.bind (s2:=true) (Run.commas hf N k0 kT hX) fun l=>Run.need hf (Run.ret _))
theorem Run.results {N : Nat} {typ : Pp Tree} {k0 : Nat} (hN : M + 1 ≤ N) (h : Run M f true k0 typ) : Run M f false k0 (resultsP N typ):=by
 refine Run.tok hf (s1:=true) (Run.bind (s2:=true) (Run.commas hf N _ kT (h.up kT)) fun l=>Run.need hf (Run.ret _)) (Run.peek (Run.bind (s2:=false) h fun t=>Run.ret _).lax (Run.ret _))
theorem Run.sigLike {N : Nat} {kind : Int} {X typ : Pp Tree} {k0 : Nat} (hN : M + 1 ≤ N) (hX : Run M f true (k0 + 1) X) (h : Run M f true (k0 + 1) typ) : Run M f true k0 (sigLike N kind X typ) :=
 Run.need hf (s1:=true) (Run.bind (s2:=false) (Run.inP hf hN hX) fun ps=>Run.bind (s2:=false) (Run.results hf hN (h.up (by show k0 + 1 ≤ k0 + 1 + 1;omega))) fun rs=>Run.ret _)
theorem Run.param {typ : Pp Tree} {k0 : Nat} (h : Run M f true (k0 + 1) typ) : Run M f true k0 (paramP typ):=Run.name hf (s1:=true) fun s=>Run.bind (s2:=false) h fun t=>Run.ret _
theorem Run.sig {N : Nat} {typ : Pp Tree} {k0 : Nat} (hN : M + 1 ≤ N) (h : Run M f true (k0 + 1) typ) : Run M f true k0 (sigP N typ):=Run.sigLike hf hN (Run.param hf (h.up kT)) h
structure GRun (g : Gr) (n k0 : Nat) : Prop where
 typ : 3 * M + 1 ≤ n + 3 * k0→Run M f true k0 g.typ
 block : 3 * M + 1 ≤ n + 3 * k0→Run M f true k0 g.block
 branch : 3 * M + 1 ≤ n + 3 * k0→Run M f true k0 g.branch
 unary : ∀ b,3 * M + 1 ≤ n + 3 * k0→Run M f true k0 (g.unary b)
 expr : ∀ b,3 * M + 2 ≤ n + 3 * k0→Run M f true k0 (g.expr b)
 stmt : 3 * M + 3 ≤ n + 3 * k0→Run M f true k0 g.stmt
omit hf
theorem Run.bret {s1 : Bool} {k0 : Nat} {p : Pp α} (g : α → β) (hp : Run M f s1 k0 p) : Run M f s1 k0 (Ps.bind p fun a=>Ps.ret (g a)):=by
 have:=Run.bind (s2:=false) hp fun a=>Run.ret (g a)
 rwa [Bool.or_false] at this
theorem Run.bind1 {k0 : Nat} {p : Pp α} {g : α → Pp β} (hp : Run M f true k0 p) (hg : ∀ a,Run M f false (k0 + 1) (g a)) : Run M f true k0 (Ps.bind p g):=Run.bind hp hg
include hf
theorem Run.tokIf {s1 st c : Bool} {k0 : Nat} {s : Str} {A B : Pp α} (hA : Run M f s1 (k0 + 1) A) (hB : Run M f st k0 B) : Run M f st k0 (tokIf c s A B):=by
 cases c with
 | true=>exact Run.tok hf hA hB
 | false=>exact hB
section
variable {N : Nat} (hN : M + 1 ≤ N)
include hN
theorem Run.typP {typ : Pp Tree} {k0 : Nat} (h : Run M f true (k0 + 1) typ) : Run M f true k0 (typP N typ) :=
 Run.tok hf (Run.bret _ h) (Run.tok hf (s1:=true) (Run.need hf (Run.bret _ (h.up kT))) (Run.tok hf (Run.sigLike hf hN (h.up kT) (h.up kT)) (Run.name hf fun s=>Run.ret _)))
omit hN in
theorem Run.fieldP {mb : Pp Tree} {k0 : Nat} (h : Run M f true (k0 + 1) mb) : Run M f true k0 (fieldP mb) :=
 Run.name hf (s1:=true) fun s=>Run.bind1 h fun t=>Run.need hf (s1:=false) (Run.ret _)
theorem Run.bodyP {kind : Int} {nm : Str} {mb : Pp Tree} {k0 : Nat} (h : Run M f true (k0 + 1) mb) : Run M f true k0 (bodyP N kind nm mb) :=
 Run.need hf (s1:=true) (Run.bret _ (Run.upto hf N _ kT (Run.fieldP hf (h.up kT))))
theorem Run.typeDeclP {typ : Pp Tree} {k0 : Nat} (h : Run M f true (k0 + 1) typ) : Run M f true k0 (typeDeclP N typ) :=
 Run.name hf (s1:=true) fun nm=>Run.tok hf (Run.bodyP hf hN (Run.sig hf hN (h.up kT))) (Run.need hf (Run.bodyP hf hN (h.up kT)))
theorem Run.declP {typ block : Pp Tree} {k0 : Nat} (h : Run M f true (k0 + 1) typ) (hb : Run M f true (k0 + 1) block) : Run M f true k0 (declP N typ block):=by
 refine Run.tok hf (Run.typeDeclP hf hN (h.up kT)) (Run.need hf (s1:=true) (Run.tok hf (s1:=true) ?_ ?_))
 ·refine Run.name hf (s1:=true) fun recv=>Run.need hf (s1:=true) (Run.name hf (s1:=true) fun of=>Run.need hf (s1:=true) (Run.name hf (s1:=true) fun nm => ?_))
  exact gC
 ·refine Run.name hf (s1:=true) fun nm => ?_
  exact gC
theorem Run.blockP {stmt : Pp Tree} {k0 : Nat} (h : Run M f true (k0 + 1) stmt) : Run M f true k0 (blockP N stmt) :=
 Run.need hf (s1:=true) (Run.bret _ (Run.upto hf N _ kT h))
omit hN in
theorem Run.branchP {expr block branch : Pp Tree} {k0 : Nat} (he : Run M f true (k0 + 1) expr) (hb : Run M f true (k0 + 1) block) (hr : Run M f true (k0 + 1) branch) : Run M f true k0 (branchP expr block branch):=by
 refine Run.need hf (s1:=true) (Run.bind1 he fun c=>Run.lax (Run.bind1 (hb.up kT) fun b=>Run.tok hf (s1:=true) (Run.peek ?_ ?_) (Run.ret _)))
 ·exact Run.bret _ (hr.up kT)
 ·exact Run.bret _ (hb.up kT)
omit hf hN in
theorem Run.forP {expr block : Pp Tree} {k0 : Nat} (he : Run M f true k0 expr) (hb : Run M f true k0 block) : Run M f true k0 (forP expr block) :=
 Run.peek (Run.bret _ hb) (Run.bind1 he fun c=>(Run.bret _ (hb.up kT)).lax)
theorem Run.assignP {expr : Pp Tree} {left : List Tree} {k0 : Nat} (he : Run M f true (k0 + 1) expr) : Run M f false k0 (assignP N expr left):=by
 refine Run.tokIf hf (Run.bret _ (Run.commas hf N _ kT he)) (Run.tokIf hf (Run.bret _ (Run.commas hf N _ kT he)) ?_)
 cases isC1 left with
 | true=>exact Run.peek (Run.ret _) Run.fail
 | false=>exact Run.fail
theorem Run.simpleP {typ expr : Pp Tree} {k0 : Nat} (h : Run M f true (k0 + 1) typ) (he : Run M f true k0 expr) : Run M f true k0 (simpleP N typ expr):=by
 refine Run.tok hf (s1:=true) (Run.name hf (s1:=true) fun s=>Run.bind1 (h.up kT) fun t=>Run.tok hf (Run.bret _ (he.up kT)) (Run.ret _)) ?_
 refine Run.tok hf (s1:=false) (Run.peek (Run.ret _) (Run.bret _ (Run.commas hf N _ kT (he.up kT))).lax) ?_
 refine Run.tok hf (Run.ret _) (Run.tok hf (Run.ret _) ?_)
 exact Run.bind1 (Run.commas hf N _ kT he) fun l=>Run.assignP hf hN (he.up kT)
theorem Run.exprsP {s : Str} {expr : Pp Tree} {k0 : Nat} (he : Run M f true k0 expr) : Run M f true k0 (exprsP N s expr):=Run.inP hf hN he
omit hN
theorem Run.cutP {expr : Pp Tree} {num : Int} {ks : List Tree} {k0 : Nat} (he : Run M f true (k0 + 1) expr) : Run M f true k0 (cutP expr num ks) :=
 Run.need hf (s1:=true) (Run.tok hf (Run.ret _) (Run.bind1 he fun e=>Run.need hf (Run.ret _)))
theorem Run.indexP {expr : Pp Tree} {n : Tree} {k0 : Nat} (he : Run M f true k0 expr) : Run M f true k0 (indexP expr n) :=
 Run.peek (Run.cutP hf (he.up kT)) (Run.bind1 he fun e=>Run.tok hf (Run.ret _) (Run.cutP hf (he.up kT)).lax)
include hN
theorem Run.postP {expr : Pp Tree} : ∀ (j k0 : Nat) (n : Tree),M + 1 ≤ j + k0→Run M f true (k0 + 1) expr→Run M f false k0 (postP N expr j n)
 | 0,k0,n,h,he=>Run.vac kT
 | j + 1,k0,n,h,he=>by
  refine Run.tok hf (s1:=true) (Run.name hf fun s=>Run.postP j _ _ kT (he.up kT)) ?_
  refine Run.tok hf (s1:=true) (Run.bind1 (Run.indexP hf he) fun t=>Run.postP j _ _ kT (he.up kT)) ?_
  exact Run.tok hf (s1:=true) (Run.bind1 (Run.exprsP hf hN he) fun l=>Run.postP j _ _ kT (he.up kT)) (Run.ret _)
theorem Run.primP {typ block expr : Pp Tree} {h : Bool} {k0 : Nat} (ht : Run M f true (k0 + 1) typ) (hb : Run M f true (k0 + 1) block) (he : Run M f true (k0 + 1) expr) : Run M f true k0 (primP N typ block expr h):=by
 refine Run.tkn hf (fun t=>Run.ret _) (Run.tkn hf (fun t=>Run.ret _) (Run.tok hf (Run.ret _) (Run.tok hf (Run.ret _) (Run.tok hf (Run.ret _) ?_))))
 refine Run.tok hf (Run.bind1 he fun t=>Run.need hf (Run.ret _)) ?_
 refine Run.tok hf (s1:=true) (Run.need hf (s1:=true) (Run.bind1 (ht.up kT) fun t=>Run.need hf (s1:=true) (Run.bret _ (Run.exprsP hf hN (he.up kT))))) ?_
 refine Run.tok hf (s1:=true) (Run.bind1 (Run.sig hf hN (ht.up kT)) fun s=>(Run.bret _ (hb.up kT)).lax) ?_
 refine Run.name hf (s1:=false) fun s => ?_
 cases h with
 | true=>exact Run.ret _
 | false=>exact Run.tok hf (Run.bret _ (Run.exprsP hf hN (he.up kT))) (Run.ret _)
theorem GRun.all : ∀ (n k0 : Nat),GRun (M:=M) (f:=f) (gr N n) n k0
 | 0,k0=>⟨fun h=>Run.vac kT,fun h=>Run.vac kT,fun h=>Run.vac kT,fun b h=>Run.vac kT,fun b h=>Run.vac kT,fun h=>Run.vac kT⟩
 | n + 1,k0=>by
  have IH:=GRun.all n
  refine ⟨fun h => ?_,fun h => ?_,fun h => ?_,fun b h => ?_,fun b h => ?_,fun h => ?_⟩
  ·exact Run.typP hf hN ((IH (k0 + 1)).typ kT)
  ·exact Run.blockP hf hN ((IH (k0 + 1)).stmt kT)
  ·exact Run.branchP hf ((IH (k0 + 1)).expr _ kT) ((IH (k0 + 1)).block kT) ((IH (k0 + 1)).branch kT)
  ·refine Run.oneOf hf (fun op=>Run.bret _ ((IH (k0 + 1)).unary b kT)) ?_
   exact Run.bind1 (Run.primP hf hN ((IH (k0 + 1)).typ kT) ((IH (k0 + 1)).block kT) ((IH (k0 + 1)).expr _ kT)) fun t=>Run.postP hf hN N _ _ kT ((IH (k0 + 1 + 1)).expr _ kT)
  ·exact Run.binL hf hN ((IH k0).unary b kT) _
  ·refine Run.peek ((IH k0).block kT) (Run.peek ((IH k0).branch kT) (Run.tok hf (Run.forP ((IH (k0 + 1)).expr _ kT) ((IH (k0 + 1)).block kT)) ?_))
   exact Run.bind1 (Run.simpleP hf hN ((IH (k0 + 1)).typ kT) ((IH k0).expr _ kT)) fun s=>Run.need hf (Run.ret _)
theorem Run.declG {n k0 : Nat} (h : 3 * M + 1 ≤ n + 3 * (k0 + 1)) : Run M f true k0 (declG N n) :=
 Run.declP hf hN ((GRun.all hf hN n (k0 + 1)).typ h) ((GRun.all hf hN n (k0 + 1)).block h)
end
omit hf in
theorem Run.progL {decl : Pp Tree} : ∀ (j k0 : Nat),M + 1 ≤ j + k0→Run M f true k0 decl→Run M f false k0 (progL decl j)
 | 0,k0,h,hd=>Run.vac kT
 | j + 1,k0,h,hd=>by
  have hr : Run M f false k0 (Ps.bind decl fun a=>Ps.bind (Ps.progL decl j) fun l=>Ps.ret (a :: l)):=(Run.bind1 hd fun a=>Run.bret _ (Run.progL j (k0 + 1) kT (hd.up kT))).lax
  refine ⟨fun k h1 h2 h => ?_,fun k h1 h2 a k' h => ?_⟩
  ·unfold Ps.progL at h
   cases hb : (f k).isNone with
   | true=>simp only [hb,cj] at h;cases h
   | false=>simp only [hb,ci] at h;exact hr.out k h1 h2 h
  ·unfold Ps.progL at h
   cases hb : (f k).isNone with
   | true=>simp only [hb,cj] at h;injection h with _ h;subst h;exact ⟨bm _,h2,fun e=>(by cases e)⟩
   | false=>simp only [hb,ci] at h;exact hr.ok k h1 h2 a k' h
theorem Run.program : Run M f false 0 (program M):=Run.progL (M + 1) 0 kT (Run.declG hf (bm _) kT)
end
end Go.Ps
namespace Go.Sep
theorem tkF_none (l : List Tok) : ∀ i,l.length ≤ i→tkF l i=none:=fun i h=>by unfold tkF;rw [List.getElem?_eq_none h]
theorem program_ne (l : List Tok) : Ps.program l.length (tkF l) 0 ≠ .out:=(Ps.Run.program (tkF_none l)).out 0 (bm _) (bU _)
end Go.Sep
namespace Go.Sep
open Go.Proofs Go.Ck
attribute [local irreducible] TC TO OT TCallX TCall DO DOt thenQ blockQ retQ At
def awT (x : Tree) : Tree := .mk 1 [] 0 [.mk 4 [109,97,105,110] 0 [.mk 7 [] 0 [], .mk 20 [] 0 [.mk 24 [] 0 [.mk 51 [] 0 [.mk 44 [112,114,105,110,116] 0 [],x]]]]]
def aT : Tree:=awT (.mk 40 [] 1 [])
def bT : Tree:=awT (.mk 43 [] 0 [])
theorem parse_sA : parseD sA = ⟨aT,0,0⟩:=uK
theorem parse_sB : parseD sB = ⟨bT,0,0⟩:=uK
theorem chk_aT : chkT aT=0:=uK
theorem chk_bT : chkT bT=5:=uK
theorem ends_aT : endsO aT=false:=uK
theorem wide_aT : aT.wide ≤ 140737488355328:=by decide
theorem wide_bT : bT.wide ≤ 140737488355328:=by decide
theorem awake5_law (m : Mem) (L : List Item) (hE : Errs m) : TCall Tryz.prog 10 ⟨[]⟩ m L (Made m L fun r _=>r = .bool true):=by
 unfold TCall
 refine ah Tryz.func10 38 ?_
 refine oC goes14 ((parse_law program_ne _ _ sA hE).x ?_);
 rw [parse_sA]
 rintro _ m1 _ ⟨hm1,rfl,x,rfl,hx⟩
 replace hx : TreeRep m1 x aT:=hx
 refine uA ?_
 refine oA tab (fun b1 => ?_)
 refine ie ?_
 refine oC goes14 ((parse_law program_ne _ _ sB (hE.mono hm1)).x ?_);
 rw [parse_sB]
 rintro _ m2 _ ⟨hm2,rfl,y,rfl,hy⟩
 replace hy : TreeRep m2 y bT:=hy
 refine uA ?_
 refine oA tab (fun b4 => ?_)
 refine ik ?_
 refine oC goes15 ((Check_law aT wide_aT _ _ x (hx.mono hm2)).x ?_);
 rw [chk_aT]
 rintro _ m3 _ ⟨hm3,rfl,rfl⟩
 refine uL ?_
 refine oC goes15 ((Check_law bT wide_bT _ _ y (hy.mono hm3)).x ?_);
 rw [chk_bT]
 rintro _ m4 _ ⟨hm4,rfl,rfl⟩
 refine uL ?_
 refine oC goes12 ((Ends_law aT _ _ x ((hx.mono hm2).mono (co hm3 hm4)) wide_aT).x ?_);
 rw [ends_aT]
 rintro _ m5 _ ⟨hm5,rfl,rfl⟩
 refine uA ?_
 refine af (L':=L) ⟨co hm1 (co hm2 (co hm3 (co hm4 hm5))),rfl,rfl⟩
end Go.Sep
namespace Go.Ck
open Go.Sep
theorem exprC_congr {tbl : List Decl} {f g : Names} (h : ∀ x,getN f x=getN g x) (lv : Lv) : exprC ⟨tbl,f⟩ lv=exprC ⟨tbl,g⟩ lv:=by
 funext sc n
 unfold exprC
 simp only [h]
theorem lvl_congr {tbl : List Decl} {f g : Names} (h : ∀ x,getN f x=getN g x) : ∀ n,lvl ⟨tbl,f⟩ n=lvl ⟨tbl,g⟩ n
 | 0=>rfl
 | n + 1=>by
  rw [lvl,lvl,lvl_congr h n,exprC_congr h]
  rfl
def bodyOf (tbl : List Decl) (n : Tree) : Option (Tree × Names × Tree) :=
 if n.kind=4 then (sigC tbl [] (kid n 0)).map fun s=>(s.1,s.2,kid n 1)
 else if n.kind=5 then (sigC tbl [((kid n 0).name, .mk 5 [] 0 [.mk 4 (recvD n) 0 []])] (kid n 1)).map fun s=>(s.1,s.2,kid n 2)
 else none
def isFn (n : Tree) : Bool:=decide (n.kind=4) || decide (n.kind=5)
def nmOf (tbl : List Decl) (n : Tree) : Option (Str × Tree):=if n.kind=4 then (bodyOf tbl n).map fun b=>(n.name,b.1) else none
structure Heads (tbl : List Decl) (fns : Names) (l : List Tree) : Prop where
 ok : ∀ n ∈ l,isFn n=true→(bodyOf tbl n).isSome=true
 blt : ∀ n ∈ l,n.kind=4 → ¬ 0 < builtinD n.name
 nod : ((l.filter fun n=>decide (n.kind=4)).map Tree.name).Nodup
 new : ∀ n ∈ l,n.kind=4→getN fns n.name=none
theorem getN_cons (p : Str × Tree) (l : Names) (x : Str) : getN (p :: l) x=if p.1=x then some p.2 else getN l x:=by
 unfold getN
 rw [List.find?_cons]
 by_cases h : p.1=x
 ·rw [if_pos h,bH h];rfl
 ·rw [if_neg h,bI h]
theorem headsC_iff (tbl : List Decl) : ∀ (l : List Tree) (fns : Names) (bs : List (Tree × Names × Tree)) (r : Names × List (Tree × Names × Tree)),
  headsC tbl fns bs l=some r ↔ Heads tbl fns l∧r=((l.filterMap (nmOf tbl)).reverse++fns,bs++l.filterMap (bodyOf tbl))
 | [],fns,bs,r=>by
  rw [headsC]
  constructor
  ·intro h
   injection h with h
   exact ⟨⟨(fun _ h=>by cases h),(fun _ h=>by cases h),List.nodup_nil,(fun _ h=>by cases h)⟩,by rw [← h];simp⟩
  ·rintro ⟨_,rfl⟩
   simp
 | n :: l,fns,bs,r=>by
  rw [headsC]
  by_cases h4 : n.kind=4
  ·rw [if_pos h4]
   have hb : bodyOf tbl n=(sigC tbl [] (kid n 0)).map fun s=>(s.1,s.2,kid n 1):=by rw [bodyOf,if_pos h4]
   have hn : nmOf tbl n=(bodyOf tbl n).map fun b=>(n.name,b.1):=by rw [nmOf,if_pos h4]
   have hf : isFn n=true:=by unfold isFn;rw [bH h4];rfl
   by_cases hc : (getN fns n.name).isSome=true ∨ 0 < builtinD n.name
   ·rw [if_pos hc]
    constructor
    ·intro h;cases h
    ·rintro ⟨hh,_⟩
     rcases hc with hc | hc
     ·rw [hh.new n kU h4] at hc;cases hc
     ·exact absurd hc (hh.blt n kU h4)
   ·rw [if_neg hc]
    have hg : getN fns n.name=none:=by
     cases hq : getN fns n.name with
     | none=>rfl
     | some v=>exact absurd (.inl (by rw [hq];rfl)) hc
    have hbl : ¬ 0 < builtinD n.name:=fun q=>hc (.inr q)
    cases hs : sigC tbl [] (kid n 0) with
    | none =>
     rw [hs] at hb
     simp only [Option.bind_none]
     constructor
     ·intro h;cases h
     ·rintro ⟨hh,_⟩
      have:=hh.ok n kU hf
      rw [hb] at this;cases this
    | some s =>
     rw [hs] at hb
     refine j0 ?_
     rw [headsC_iff tbl l]
     have e1 : (n :: l).filterMap (nmOf tbl)=(n.name,s.1) :: l.filterMap (nmOf tbl):=by rw [List.filterMap_cons,hn,hb];rfl
     have e2 : (n :: l).filterMap (bodyOf tbl)=(s.1,s.2,kid n 1) :: l.filterMap (bodyOf tbl):=by rw [List.filterMap_cons,hb];rfl
     rw [e1,e2]
     constructor
     ·rintro ⟨hh,rfl⟩
      refine ⟨⟨fun x hx hxf => ?_,fun x hx hx4 => ?_, ?_,fun x hx hx4 => ?_⟩,by simp⟩
      ·rcases List.mem_cons.1 hx with rfl | hx
       ·rw [hb];rfl
       ·exact hh.ok x hx hxf
      ·rcases List.mem_cons.1 hx with rfl | hx
       ·exact hbl
       ·exact hh.blt x hx hx4
      ·rw [List.filter_cons,if_pos (by rw [bH h4]),br,List.nodup_cons]
       refine ⟨fun hm => ?_,hh.nod⟩
       obtain ⟨x,hx,hxn⟩:=List.mem_map.1 hm
       obtain ⟨hx1,hx2⟩:=List.mem_filter.1 hx
       have:=hh.new x hx1 (of_decide_eq_true hx2)
       rw [getN_cons,if_pos hxn.symm] at this
       cases this
      ·rcases List.mem_cons.1 hx with rfl | hx
       ·exact hg
       ·have:=hh.new x hx hx4
        rw [getN_cons] at this
        split at this
        ·cases this
        ·exact this
     ·rintro ⟨hh,rfl⟩
      have hnd:=hh.nod
      rw [List.filter_cons,if_pos (by rw [bH h4]),br,List.nodup_cons] at hnd
      refine ⟨⟨fun x hx=>hh.ok x ln,fun x hx=>hh.blt x ln,hnd.2,fun x hx hx4 => ?_⟩,by simp⟩
      rw [getN_cons,if_neg,hh.new x ln hx4]
      intro e
      exact hnd.1 (List.mem_map.2 ⟨x,List.mem_filter.2 ⟨hx,by rw [bH hx4]⟩,e.symm⟩)
  ·rw [if_neg h4]
   have hn : nmOf tbl n=none:=by rw [nmOf,if_neg h4]
   have e1 : (n :: l).filterMap (nmOf tbl)=l.filterMap (nmOf tbl):=by rw [List.filterMap_cons,hn]
   have hfl : (n :: l).filter (fun n=>decide (n.kind=4))=l.filter (fun n=>decide (n.kind=4)):=by rw [List.filter_cons,if_neg (by simp [h4])]
   have step : ∀ {fns},Heads tbl fns (n :: l) ↔ (isFn n=true→(bodyOf tbl n).isSome=true)∧Heads tbl fns l:=by
    intro fns
    constructor
    ·intro hh
     exact ⟨hh.ok n kU,⟨fun x hx=>hh.ok x ln,fun x hx=>hh.blt x ln,by have:=hh.nod;rwa [hfl] at this,fun x hx=>hh.new x ln⟩⟩
    ·rintro ⟨h0,hh⟩
     refine ⟨fun x hx => ?_,fun x hx hx4 => ?_,by rw [hfl];exact hh.nod,fun x hx hx4 => ?_⟩
     ·rcases List.mem_cons.1 hx with rfl | hx
      ·exact h0
      ·exact hh.ok x hx
     ·rcases List.mem_cons.1 hx with rfl | hx
      ·exact absurd hx4 h4
      ·exact hh.blt x hx hx4
     ·rcases List.mem_cons.1 hx with rfl | hx
      ·exact absurd hx4 h4
      ·exact hh.new x hx hx4
   rw [step,e1]
   by_cases h5 : n.kind=5
   ·rw [if_pos h5]
    have hb : bodyOf tbl n=(sigC tbl [((kid n 0).name, .mk 5 [] 0 [.mk 4 (recvD n) 0 []])] (kid n 1)).map fun s=>(s.1,s.2,kid n 2):=by rw [bodyOf,if_neg h4,if_pos h5]
    have hf : isFn n=true:=by unfold isFn;rw [bH h5,Bool.or_true]
    cases hs : sigC tbl [((kid n 0).name, .mk 5 [] 0 [.mk 4 (recvD n) 0 []])] (kid n 1) with
    | none =>
     rw [hs] at hb
     simp only [Option.bind_none]
     constructor
     ·intro h;cases h
     ·rintro ⟨⟨h0,_⟩,_⟩
      have:=h0 hf
      rw [hb] at this;cases this
    | some s =>
     rw [hs] at hb
     refine j0 ?_
     have e2 : (n :: l).filterMap (bodyOf tbl)=(s.1,s.2,kid n 2) :: l.filterMap (bodyOf tbl):=by rw [List.filterMap_cons,hb];rfl
     rw [headsC_iff tbl l,e2]
     constructor
     ·rintro ⟨hh,rfl⟩
      exact ⟨⟨fun _=>by rw [hb];rfl,hh⟩,by simp⟩
     ·rintro ⟨⟨_,hh⟩,rfl⟩
      exact ⟨hh,by simp⟩
   ·rw [if_neg h5]
    have hb : bodyOf tbl n=none:=by rw [bodyOf,if_neg h4,if_neg h5]
    have hf : isFn n=false:=by unfold isFn;rw [bI h4,bI h5];rfl
    have e2 : (n :: l).filterMap (bodyOf tbl)=l.filterMap (bodyOf tbl):=by rw [List.filterMap_cons,hb]
    rw [headsC_iff tbl l,e2]
    constructor
    ·rintro ⟨hh,rfl⟩
     exact ⟨⟨(fun h=>by rw [hf] at h;cases h),hh⟩,rfl⟩
    ·rintro ⟨⟨_,hh⟩,rfl⟩
     exact ⟨hh,rfl⟩
theorem Heads.perm {tbl : List Decl} {l l' : List Tree} (hp : l.Perm l') (h : Heads tbl [] l) : Heads tbl [] l' :=
 ⟨fun n hn=>h.ok n (hp.mem_iff.2 hn),fun n hn=>h.blt n (hp.mem_iff.2 hn),((hp.filter _).map _).nodup_iff.1 h.nod,fun n hn=>h.new n (hp.mem_iff.2 hn)⟩
theorem getN_mem {l : Names} {x : Str} {t : Tree} (h : getN l x=some t) : (x,t) ∈ l:=by
 unfold getN at h
 cases hf : l.find? (fun p=>decide (p.1=x)) with
 | none=>rw [hf] at h;cases h
 | some p =>
  rw [hf] at h
  obtain rfl : p.2=t:=lk
  have h1:=List.find?_some hf
  have h2:=List.mem_of_find?_eq_some hf
  have h3 : p.1=x:=of_decide_eq_true h1
  rw [← h3];exact h2
theorem getN_of {l : Names} (hn : (l.map Prod.fst).Nodup) {x : Str} {t : Tree} (h : (x,t) ∈ l) : getN l x=some t:=by
 induction l with
 | nil=>cases h
 | cons p l ih =>
  rw [br,List.nodup_cons] at hn
  rw [getN_cons]
  rcases List.mem_cons.1 h with rfl | h
  ·rw [if_pos rfl]
  ·rw [if_neg,ih hn.2 h]
   intro e
   exact hn.1 (List.mem_map.2 ⟨_,h,e.symm⟩)
theorem getN_perm {l l' : Names} (hp : l.Perm l') (hn : (l.map Prod.fst).Nodup) (x : Str) : getN l x=getN l' x:=by
 have hn':=(hp.map Prod.fst).nodup_iff.1 hn
 cases h : getN l x with
 | some t=>rw [getN_of hn' (hp.mem_iff.1 (getN_mem h))]
 | none =>
  cases h' : getN l' x with
  | none=>rfl
  | some t=>rw [getN_of hn (hp.mem_iff.2 (getN_mem h'))] at h;cases h
theorem nm_fst {tbl : List Decl} {l : List Tree} (h : ∀ n ∈ l,isFn n=true→(bodyOf tbl n).isSome=true) : (l.filterMap (nmOf tbl)).map Prod.fst=(l.filter fun n=>decide (n.kind=4)).map Tree.name:=by
 induction l with
 | nil=>rfl
 | cons n l ih =>
  have ih:=ih fun x hx=>h x ln
  rw [List.filterMap_cons,List.filter_cons]
  by_cases h4 : n.kind=4
  ·have h0:=h n kU (by unfold isFn;rw [bH h4];rfl)
   obtain ⟨b,hb⟩:=Option.isSome_iff_exists.1 h0
   rw [nmOf,if_pos h4,hb,if_pos (by rw [bH h4])]
   simp only [cg,br,ih]
  ·rw [nmOf,if_neg h4,if_neg (by simp [h4])]
   exact ih
theorem methodsC_filter : ∀ (l : List Tree) (ds : List Decl),methodsC ds l=methodsC ds (l.filter fun n=>decide (n.kind=5))
 | [],_=>rfl
 | n :: l,ds=>by
  rw [methodsC,List.filter_cons]
  by_cases h5 : n.kind=5
  ·rw [if_pos h5,if_pos (by rw [bH h5]),methodsC,if_pos h5]
   congr 1
   funext l'
   exact methodsC_filter l l'
  ·rw [if_neg h5,if_neg (by simp [h5])]
   exact methodsC_filter l ds
theorem chkD_perm {k k' : Int} {n n' : Str} {u u' : Int} {l l' : List Tree} (hp : l.Perm l') (h1 : (l.filter fun n=>decide (n.kind=2) || decide (n.kind=3))=l'.filter fun n=>decide (n.kind=2) || decide (n.kind=3))
  (h2 : (l.filter fun n=>decide (n.kind=5))=l'.filter fun n=>decide (n.kind=5)) : chkD (.mk k n u l)=chkD (.mk k' n' u' l'):=by
 have ht : tableD (.mk k n u l)=tableD (.mk k' n' u' l'):=by
  unfold tableD
  simp only [Tree.kids]
  rw [h1,methodsC_filter l,methodsC_filter l',h2]
 unfold chkD
 rw [ht]
 cases tableD (.mk k' n' u' l') with
 | error c=>rfl
 | ok tbl =>
  simp only [Tree.kids]
  cases ha : headsC tbl [] [] l with
  | none =>
   cases hb : headsC tbl [] [] l' with
   | none=>rfl
   | some r =>
    have h:=(headsC_iff tbl l' [] [] r).1 hb
    have h':=(headsC_iff tbl l [] [] _).2 ⟨h.1.perm hp.symm,rfl⟩
    rw [ha] at h';cases h'
  | some r =>
   have h:=(headsC_iff tbl l [] [] r).1 ha
   have hb:=(headsC_iff tbl l' [] [] _).2 ⟨h.1.perm hp,rfl⟩
   rw [hb,h.2]
   simp only [bP,List.nil_append]
   have hnd : (((l.filterMap (nmOf tbl)).reverse).map Prod.fst).Nodup:=by
    rw [List.map_reverse]
    refine (List.reverse_perm _).nodup_iff.2 ?_
    rw [nm_fst h.1.ok]
    exact h.1.nod
   have hpn : ((l.filterMap (nmOf tbl)).reverse).Perm ((l'.filterMap (nmOf tbl)).reverse):=(List.reverse_perm _).trans ((hp.filterMap _).trans (List.reverse_perm _).symm)
   have hg:=getN_perm hpn hnd
   rw [lvl_congr hg,hg]
   have hbp : (l.filterMap (bodyOf tbl)).Perm (l'.filterMap (bodyOf tbl)):=hp.filterMap _
   have hall : ∀ p : (Tree × Names × Tree)→Bool,(l.filterMap (bodyOf tbl)).all p=(l'.filterMap (bodyOf tbl)).all p:=fun p=>by
    rw [Bool.eq_iff_iff,bF,bF]
    exact ⟨fun q x hx=>q x (hbp.mem_iff.2 hx),fun q x hx=>q x (hbp.mem_iff.1 hx)⟩
   rw [hall]
end Go.Ck
namespace Go.Ck
open Go.Sep
def isF (n : Tree) : Bool:=decide (n.kind=4)
def rotF (l : List Tree) (k : Nat) : List Tree:=l.drop (k % l.length)++l.take (k % l.length)
theorem rotF_perm (l : List Tree) (k : Nat) : (rotF l k).Perm l:=by
 unfold rotF
 have h:=bV (k % l.length) l
 exact List.perm_append_comm.trans (by rw [h])
theorem rotF_get (l : List Tree) (k i : Nat) (hi : i < l.length) : (rotF l k)[i]? = l[(i + k) % l.length]?:=by
 have h0 : 0 < l.length:=kT
 have hr:=Nat.mod_lt k h0
 unfold rotF
 have e : (i + k) % l.length=(i + k % l.length) % l.length:=by rw [Nat.add_mod_mod]
 rw [e]
 by_cases h : i < l.length - k % l.length
 ·have e1 : (i + k % l.length) % l.length=i + k % l.length:=Nat.mod_eq_of_lt kT
  rw [be lH,List.getElem?_drop,e1]
  congr 1;omega
 ·have e2 : (i + k % l.length) % l.length=i + k % l.length - l.length:=by
   rw [Nat.mod_eq_sub_mod kT,Nat.mod_eq_of_lt kT]
  rw [bg lH,bL,List.getElem?_take_of_lt kT,e2]
  congr 1;omega
def newK (ds : List Tree) (k : Nat) : List Tree:=(ds.filter fun n => !isF n)++rotF (ds.filter isF) k
theorem newK_perm (ds : List Tree) (k : Nat) : ds.Perm (newK ds k):=by
 unfold newK
 have h1 : (ds.filter isF++ds.filter fun n => !isF n).Perm ds:=List.filter_append_perm isF ds
 exact (h1.symm.trans List.perm_append_comm).trans (List.Perm.append_left _ (rotF_perm _ k).symm)
theorem newK_filter (ds : List Tree) (k : Nat) (p : Tree→Bool) (hp : ∀ n,p n=true→isF n=false) : ds.filter p=(newK ds k).filter p:=by
 unfold newK
 have h0 : (rotF (ds.filter isF) k).filter p=[]:=by
  rw [List.filter_eq_nil_iff]
  intro n hn h
  have hm:=(List.mem_filter.1 ((rotF_perm _ k).mem_iff.1 hn)).2
  rw [hp n h] at hm;cases hm
 rw [List.filter_append,h0,bP,List.filter_filter]
 congr 1
 funext n
 cases h : p n with
 | false=>rfl
 | true=>rw [hp n h];rfl
theorem order_chk (k0 k1 : Int) (n0 n1 : Str) (u0 u1 : Int) (ds : List Tree) (k : Nat) : chkD (.mk k0 n0 u0 ds)=chkD (.mk k1 n1 u1 (newK ds k)) :=
 chkD_perm (newK_perm ds k)
  (newK_filter ds k _ fun n h=>by
   unfold isF
   simp only [bj,ba] at h
   rw [bI kT])
  (newK_filter ds k _ fun n h=>by
   unfold isF
   simp only [ba] at h
   rw [bI kT])
theorem sizeL_perm2 {l l' : List Tree} (h : l.Perm l') : sizeL l=sizeL l':=by
 induction h with
 | nil=>rfl
 | cons x _ ih=>rw [sizeL,sizeL,ih]
 | swap x y l=>simp only [sizeL];omega
 | trans _ _ h1 h2=>rw [h1,h2]
theorem deepL_perm2 {l l' : List Tree} (h : l.Perm l') : deepL l=deepL l':=by
 induction h with
 | nil=>rfl
 | cons x _ ih=>rw [deepL,deepL,ih]
 | swap x y l=>simp only [deepL];omega
 | trans _ _ h1 h2=>rw [h1,h2]
theorem order_sound (ds : List Tree) (k : Nat) : soundB (.mk 1 [] 0 ds)=soundB (.mk 1 [] 0 (newK ds k)):=by
 have hp:=newK_perm ds k
 have hall : ds.all (declS (sg 100))=(newK ds k).all (declS (sg 100)):=by
  rw [Bool.eq_iff_iff,bF,bF]
  exact ⟨fun q x hx=>q x (hp.mem_iff.2 hx),fun q x hx=>q x (hp.mem_iff.1 hx)⟩
 unfold soundB
 simp only [Tree.size,Tree.deep,Tree.kids,sizeL_perm2 hp,deepL_perm2 hp,hall]
 rfl
end Go.Ck
namespace Go.Sep
open Go.Proofs Go.Ck
attribute [local irreducible] TC TO OT TCallX TCall DO DOt thenQ blockQ retQ At
theorem filter_take {l : List Tree} {p : Tree→Bool} {i : Nat} (h : i < l.length) : (l.take (i + 1)).filter p=(l.take i).filter p++(if p l[i] then [l[i]] else []):=by
 rw [bX h,List.filter_append]
 congr 1
 cases hp : p l[i] <;> simp [hp]
theorem chkT_newK (ds : List Tree) (k : Nat) : chkT (.mk 1 [] 0 ds)=chkT (.mk 1 [] 0 (newK ds k)):=by
 unfold chkT
 rw [← order_sound ds k,order_chk 1 1 [] [] 0 0 ds k]
theorem newK_wide {ds : List Tree} {k : Nat} {B : Nat} (h : wideL ds ≤ B) : wideL (newK ds k) ≤ B:=by
 have hall : ∀ l : List Tree,(∀ x ∈ l,x.wide ≤ B)→wideL l ≤ B:=by
  intro l
  induction l with
  | nil=>intro _;simp [wideL]
  | cons x l ih =>
   intro hh
   have h1:=hh x kU
   have h2:=ih fun y hy=>hh y (by simp [hy])
   simp only [wideL];omega
 exact hall _ fun x hx=>bo (wideL_mem ((newK_perm ds k).mem_iff.2 hx)) h
theorem tmod_len {a n k : Nat} (h : k=n) : ((a : Int)).tmod ((k : Nat) : Int)=((a % n : Nat) : Int):=by
 subst h
 rw [Int.tmod_eq_emod_of_nonneg kT];omega
theorem checkOrder_walk (m : Mem) (L : List Item) (a : Tree) (h : HTree) (turn : Nat) (ht : turn < 256) (hE : Errs m) (hr : TreeRep m h a) (hw : a.wide ≤ 140737488355328) :
  TCall Tryz.prog 5 ⟨[treeV h, .int .u8 (turn : Int)]⟩ m L (Made m L fun r _=>r = .bool true):=by
 unfold TCall
 refine cx Tryz.func5 rfl 80 rfl ?_
 have hr0:=hr
 obtain ⟨h1,h2,h3,h4⟩:=hr
 have hlen:=h4.len
 refine uA ?_
 refine oB (fun b2 => ?_)
 refine uA ?_
 refine oC goes10 ((awake5_law _ _ hE).x ?_);
 rintro _ m1 _ ⟨hm1,rfl,rfl⟩
 refine uL ?_
 refine oC goes16 ((sound_law a _ _ _ (hr0.mono hm1) hw).x ?_);
 refine ic ?_
 refine ay (b := !soundB a) (fun e1 => ?_) (fun e1 => ?_)
 ·exact fH
 ·have hsd : soundB a=true:=by simpa using e1
  have hp:=snd_of hsd
  have hkl:=kids_le a
  have hps:=hp.size
  refine uL ?_
  refine aj (fun e2 => ?_) (fun e2 => ?_)
  ·exact fH
  ·refine uA ?_
   refine ap (hs:=[]) (l:=[]) tab rTree trivial uH kV (fun s5 m2 hm2 hs5 ho5 hc5 => ?_)
   refine TO.tokFo hc5 ho5 4 ?_
   refine ap (hs:=[]) (l:=[]) tab rTree trivial uH kV (fun s6 m3 hm3 hs6 ho6 hc6 => ?_)
   refine TO.tokFo hc6 ho6 4 ?_
   refine iI ?_
   have hm03:=co hm1 (co hm2 hm3)
   refine cu (ι:=Nat × Sl × Sl × Mem) [1,2] rfl (fun y=>[(7, .int .i64 (y.1 : Int)),(5,y.2.1.v),(6,y.2.2.1.v)]) (fun y=>y.2.2.2) (fun y=>tok y.2.2.1 4 :: tok y.2.1 4 :: .cells b2 0 (treeC h) :: L) (fun y=>y.1 ≤ a.kids.length∧m3 ≤ y.2.2.2∧SlRep rTree y.2.2.2 y.2.1 ((a.kids.take y.1).filter isF)∧Own y.2.1∧SlRep rTree y.2.2.2 y.2.2.1 ((a.kids.take y.1).filter fun n => !isF n)∧Own y.2.2.1) (fun y=>a.kids.length - y.1) (0,s5,s6,m3) uH rfl uS ⟨bU _,cn _,hs5.mono hm3,ho5,hs6,ho6⟩ ?_
   clear hs5 ho5 hc5 hs6 ho6 hc6
   rintro ⟨i,s5,s6,m4⟩ ⟨hi,hm4,hs5,ho5,hs6,ho6⟩
   simp only at hi hm4 hs5 ho5 hs6 ho6
   have hr5:=h4.mono (co hm03 hm4)
   have hl5:=List.length_filter_le isF (a.kids.take i)
   have hl6:=List.length_filter_le (fun n => !isF n) (a.kids.take i)
   rw [bK] at hl5 hl6
   refine kg ?_
   refine aj (fun hlt => ?_) (fun hlt => ?_)
   ·have hlt0 : (i : Int) < (h.kids.len : Int):=hlt
    have hlt' : i < a.kids.length:=kT
    have hx : a.kids[i]? = some a.kids[i]:=lg
    have ff:=filter_take (p:=isF) hlt'
    have fg:=filter_take (p:=fun n => !isF n) hlt'
    generalize hne : a.kids[i]=n at hx ff fg
    refine kg ?_
    refine iy ?_
    rintro b' i' h9 hrd9 hA9
    have hk9:=(rTree_iff.1 hrd9).kind
    refine uA ?_
    refine aB (k:=0) hA9 ?_
    refine aj (fun e3 => ?_) (fun e3 => ?_)
    ·have e3 : h9.kind=4:=e3
     have hf : isF n=true:=by unfold isF;exact bH kT
     rw [hf] at ff fg
     simp only [Bool.not_true,Bool.false_eq_true,if_true,if_false,bP] at ff fg
     refine kg ?_
     refine iy ?_
     rintro b' i' h9 hrd9 hA9
     (first | refine qs rfl (cC tab hA9 rfl rfl rfl rfl rfl ?_) | refine oL tab hA9 ?_)
     refine ap (hs:=[h9]) (l:=[n]) tab rTree ⟨hrd9,trivial⟩ uH kV (fun sA m5 hm5 hsA _ _ => ?_)
     refine qs rfl (cI tab rTree 1 (hs5.mono hm5) ho5 hsA rfl rfl rfl rfl rfl rfl rfl lE (fun s' m6 hm6 hs' ho' => ?_))
     refine jd ?_
     exact ⟨(i + 1,s',s6,m6),uH,uH,rfl,rfl,uS,⟨by omega,co hm4 (co hm5 hm6),by rw [ff];exact hs',ho',by rw [fg];exact (hs6.mono hm5).mono hm6,ho6⟩,by simp only;omega⟩
    ·have e3 : ¬ h9.kind=4:=e3
     have hf : isF n=false:=by unfold isF;exact bI kT
     rw [hf] at ff fg
     simp only [Bool.not_false,Bool.false_eq_true,if_true,if_false,bP] at ff fg
     refine kg ?_
     refine iy ?_
     rintro b' i' h9 hrd9 hA9
     (first | refine qs rfl (cC tab hA9 rfl rfl rfl rfl rfl ?_) | refine oL tab hA9 ?_)
     refine ap (hs:=[h9]) (l:=[n]) tab rTree ⟨hrd9,trivial⟩ uH kV (fun sA m5 hm5 hsA _ _ => ?_)
     refine qs rfl (cI tab rTree 0 (hs6.mono hm5) ho6 hsA rfl rfl rfl rfl rfl rfl rfl lE (fun s' m6 hm6 hs' ho' => ?_))
     refine jd ?_
     exact ⟨(i + 1,s5,s',m6),uH,uH,rfl,rfl,uS,⟨by omega,co hm4 (co hm5 hm6),by rw [ff];exact (hs5.mono hm5).mono hm6,ho5,by rw [fg];exact hs',ho'⟩,by simp only;omega⟩
   ·have hlt0 : ¬ (i : Int) < (h.kids.len : Int):=hlt
    have hie : i=a.kids.length:=kT
    subst hie
    rw [List.take_length] at hs5 hs6
    generalize hF : a.kids.filter isF=F at hs5 hl5
    generalize hG : (a.kids.filter fun n => !isF n)=G at hs6 hl6
    have hFl : F.length ≤ 20000:=by
     have:=List.length_filter_le isF a.kids
     rw [hF] at this;omega
    have hGl : G.length ≤ 20000:=by
     have:=List.length_filter_le (fun n => !isF n) a.kids
     rw [hG] at this;omega
    have hrl : (rotF F turn).length=F.length:=(rotF_perm F turn).length_eq
    have hl5':=hs5.len
    refine iI ?_
    refine cu (ι:=Nat × Sl × Mem) [1,2,5] rfl (fun y=>[(8, .int .i64 (y.1 : Int)),(6,y.2.1.v)]) (fun y=>y.2.2) (fun y=>tok y.2.1 4 :: .cells b2 0 (treeC h) :: L) (fun y=>y.1 ≤ F.length∧m4 ≤ y.2.2∧SlRep rTree y.2.2 y.2.1 (G++(rotF F turn).take y.1)∧Own y.2.1) (fun y=>F.length - y.1) (0,s6,m4) uH rfl uS ⟨bU _,cn _,by rw [List.take_zero,bP];exact hs6,ho6⟩ ?_
    clear hs6 ho6
    rintro ⟨j,s6,m5⟩ ⟨hj,hm5,hs6,ho6⟩
    simp only at hj hm5 hs6 ho6
    refine uA ?_
    refine aj (fun hltJ => ?_) (fun hltJ => ?_)
    ·have hlt1 : (j : Int) < (s5.len : Int):=hltJ
     have hlj : j < F.length:=kT
     have hmod : (j + turn) % F.length < F.length:=Nat.mod_lt _ kT
     have hxj : F[(j + turn) % F.length]? = some F[(j + turn) % F.length]:=by simp [hmod]
     have hrg:=rotF_get F turn j hlj
     have hlr : j < (rotF F turn).length:=kT
     have htk : (rotF F turn).take (j + 1)=(rotF F turn).take j++[F[(j + turn) % F.length]]:=by
      rw [bX hlr]
      congr 2
      rw [a7 hlr,hxj] at hrg
      injection hrg
     have hs55:=hs5.mono hm5
     refine uA ?_
     refine qs rfl (OT.conv (r:=(turn : Int)) tab rfl rfl rfl rfl rfl rfl (wrap64_in kT kT) ?_)
     refine aK (r':=((j + turn : Nat) : Int)) uH kT kT ?_
     refine qs rfl (OT.remK (r:=(((j + turn) % F.length : Nat) : Int)) rfl rfl rfl rfl rfl (show ((s5.len : Nat) : Int) ≠ 0 by omega) (tmod_len hl5') ?_)
     refine uA ?_
     generalize (j + turn) % F.length=jj at hmod hxj htk
     refine am tab rTree jj hs55 uH la rfl hxj ?_
     rintro b' i' h9 hrd9 hA9
     (first | refine qs rfl (cC tab hA9 rfl rfl rfl rfl rfl ?_) | refine oL tab hA9 ?_)
     refine ap (hs:=[h9]) (l:=[F[jj]]) tab rTree ⟨hrd9,trivial⟩ uH kV (fun sA m6 hm6 hsA _ _ => ?_)
     refine qs rfl (cI tab rTree 0 (hs6.mono hm6) ho6 hsA rfl rfl rfl rfl rfl rfl rfl (by simp only [aS,aU,aV,bK,rTree,mkR];omega) (fun s' m7 hm7 hs' ho' => ?_))
     refine uA ?_
     refine ja ?_
     exact ⟨(j + 1,s',m7),uH,uH,rfl,rfl,uS,⟨by omega,co hm5 (co hm6 hm7),by rw [htk,← a8];exact hs',ho'⟩,by simp only;omega⟩
    ·have hlt1 : ¬ (j : Int) < (s5.len : Int):=hltJ
     have hje : j=F.length:=kT
     subst hje
     rw [bS kT] at hs6
     have hnew : G++rotF F turn=newK a.kids turn:=by unfold newK;rw [hF,hG]
     rw [hnew] at hs6
     have ha : a = .mk 1 [] 0 a.kids:=by
      obtain ⟨k,n,u,ks⟩:=a
      obtain ⟨g1,g2,g3⟩:=hp.one
      simp only [Tree.kind,Tree.name,Tree.num] at g1 g2 g3
      subst g1 g2 g3;rfl
     have hwk : (Tree.mk 1 [] 0 (newK a.kids turn)).wide ≤ 140737488355328:=by
      have h5 : wideL a.kids ≤ 140737488355328:=by
       have : a.wide=max a.name.length (wideL a.kids):=by obtain ⟨_,_,_,_⟩:=a;rfl
       omega
      have:=newK_wide (k:=turn) h5
      simp only [Tree.wide,aV]
      omega
     obtain ⟨c,hca,hcb⟩ : ∃ c,chkT a=c∧chkT (.mk 1 [] 0 (newK a.kids turn))=c:=⟨_,rfl,(chkT_newK a.kids turn).symm.trans (congrArg chkT ha.symm)⟩
     have hm05:=co hm03 (co hm4 hm5)
     refine uA ?_
     refine aG (k:=0) 1 ?_
     refine oC goes15 ((Check_law a hw _ _ h (hr0.mono hm05)).x ?_);
     rw [hca]
     rintro _ m6 _ ⟨hm6,rfl,rfl⟩
     refine uA ?_
     refine oC goes15 ((Check_law (.mk 1 [] 0 (newK a.kids turn)) hwk _ _ ⟨1,[],0,s6⟩ ⟨rfl,rfl,rfl,hs6.mono hm6⟩).x ?_);
     rw [hcb]
     rintro _ m7 _ ⟨hm7,rfl,rfl⟩
     refine uA ?_
     refine af (L':=L) ⟨co hm05 (co hm6 hm7),rfl, ?_⟩
     rw [bH rfl]
end Go.Sep
