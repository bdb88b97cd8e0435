/-
  Part 10 of the proof: library, walks and plain laws.
-/
import Derived.LaidEql
import Derived.Test.YthemafgjfddgbaaGreatDoorB9
set_option linter.unusedVariables false
set_option linter.unusedSimpArgs false
set_option maxHeartbeats 6400000
namespace Go.Sep
section
variable {P:Program} {N:Nat} {ρ:Env} {D:List Deferred} {m:Mem} {L:List Item} {Q:EPost} {o:Oper} {K:Env→Mem→List Item→Prop}
theorem OT.ptrNe (T:Tab P) {t t' e:TypeId} {x y:Operand} {q:Option Addr} {d:Nat} (ho:o.op = .binOp .neq t x y t') (hd:o.dst=some d) (hN:Nat.blt d N=true)
  (hx:ev ρ x=some (.pointer q)) (hy:ev ρ y=some (.pointer none)) (ht:T.isPtr t e=true) (hK:K ((d,.bool q.isSome)::ρ) m L):OT P N o ρ D m L Q K:=by
 obtain⟨ti,h1,h2⟩:=isPtr_get ht;refine cN hd hN (fun ac w ha=>⟨w,?_,ha.st⟩) hK;have hu:=T.run_underlying w h1;rw[h2]at hu;have e1:binOp .neq t (.pointer q) (.pointer none)=(do pure (.bool (!(←Op.equalIn (9999+1) t (.pointer q) (.pointer none)))):Sem Value):=rfl;have e2:(eqGuard .neq t x y (.pointer q) (.pointer none)).run P w = .ok () w:=mQ;cases q with
 | none =>
  have h:=equalIn_nilPtr (P:=P) 9999 hu;exact eG
 | some q =>
  have h:=equalIn_ptrNil (P:=P) 9999 q hu;exact eG
theorem aW {rest full:List Oper} {t:TypeId} {t':TypeId} {e:TypeId} {x:Operand} {y:Operand} {q:Option Addr} {d:Nat} {p':Prop} (hK:p') (T:Tab P:=by exact tab) (ho:o.op = .binOp .neq t x y t':=by exact rfl) (hd:o.dst=some d:=by exact rfl) (hN:Nat.blt d N=true:=by exact rfl) (hx:ev ρ x=some (.pointer q):=by exact rfl) (hy:ev ρ y=some (.pointer none):=by exact rfl) (ht:T.isPtr t e=true:=by exact rfl) (h0:gv full ρ o=some true:=by exact rfl) (hz:p'→TO P N ⟨full⟩ rest ((d,.bool q.isSome)::ρ) D m L Q:=by exact vA):TO P N ⟨full⟩ (o::rest) ρ D m L Q:=TO.step h0 (OT.ptrNe T ho hd hN hx hy ht (hz hK))
structure Apart (w:World) (a b:Nat):Prop where
 fr:∀ i,w.frozen? ⟨a,i,none⟩=false
 ca:∃ i v,w.cell? ⟨a,i,none⟩=some v
 cb:∃ i v,w.cell? ⟨b,i,none⟩=some v
theorem cell_shape {w:World} {a i:Nat} {v:Value} (h:w.cell? ⟨a,i,none⟩=some v):∃ arr e fr,w.heap[a]? = some (.cells arr e fr)∧0<arr.size:=by
 unfold World.cell? at h;split at h
 ·rename_i arr e fr he;refine⟨arr,e,fr,he,?_⟩;have:i<arr.size:=by
   have h':arr[i]? = some v:=h;exact(Array.getElem?_eq_some_iff.1 h').1
  omega
 ·cases h
theorem run_sameAddr_apart {w:World} {a b:Nat} (hab:a≠b) (h:Apart w a b):(sameAddr ⟨a,0,none⟩ ⟨b,0,none⟩).run P w = .ok false w:=by
 obtain⟨i,v,h1⟩:=h.ca;obtain⟨j,u,h2⟩:=h.cb;obtain⟨xa,ea,⟨l1,l2⟩,ha,ha0⟩:=cell_shape h1;obtain⟨xb,eb,⟨k1,k2⟩,hb,hb0⟩:=cell_shape h2;have hz:xa.size≠0:=mv;have hz2:xb.size≠0:=mv;have hf:=h.fr;have g1:w.shape? a=some (ea,xa.size):=by simp[World.shape?,ha]
 have g2:w.shape? b=some (eb,xb.size):=by simp[World.shape?,hb]
 simp[sameAddr,hab,hf,noView,viewAt,g1,g2,mayBeOne,stringish,hz,hz2]
theorem run_sameAddr_apart' {w:World} {a b:Nat} (hab:a≠b) (h:Apart w b a):(sameAddr ⟨a,0,none⟩ ⟨b,0,none⟩).run P w = .ok false w:=by
 obtain⟨i,v,h1⟩:=h.ca;obtain⟨j,u,h2⟩:=h.cb;obtain⟨xa,ea,⟨l1,l2⟩,ha,ha0⟩:=cell_shape h1;obtain⟨xb,eb,⟨k1,k2⟩,hb,hb0⟩:=cell_shape h2;have hz:xa.size≠0:=mv;have hz2:xb.size≠0:=mv;have hf:=h.fr;have g1:w.shape? b=some (ea,xa.size):=by simp[World.shape?,ha]
 have g2:w.shape? a=some (eb,xb.size):=by simp[World.shape?,hb]
 cases hfa:w.frozen? ⟨a,0,none⟩<;>simp[sameAddr,hab,hf,hfa,noView,viewAt,g1,g2,mayBeOne,stringish,hz,hz2]
theorem equalIn_apart' {t e:TypeId} {w:World} {ei:TI} (T:Tab P) (dd:Nat) {a b:Nat} (hab:a≠b) (h:Apart w b a) (hu:(underlying t).run P w = .ok (.pointer e) w) (he:T.get e=some ei) (hz:ei.size≠0) :
  (Op.equalIn (dd+1) t (.pointer (some ⟨a,0,none⟩)) (.pointer (some ⟨b,0,none⟩))).run P w = .ok false w:=by
 have hs:=T.run_sizeOf w he;simp only[Op.equalIn,Sem.run_bind,hu,Result.andThen_ok,hs];simp[hz,run_sameAddr_apart' hab h]
theorem equalIn_apart {t e:TypeId} {w:World} {ei:TI} (T:Tab P) (dd:Nat) {a b:Nat} (hab:a≠b) (h:Apart w a b) (hu:(underlying t).run P w = .ok (.pointer e) w) (he:T.get e=some ei) (hz:ei.size≠0) :
  (Op.equalIn (dd+1) t (.pointer (some ⟨a,0,none⟩)) (.pointer (some ⟨b,0,none⟩))).run P w = .ok false w:=by
 have hs:=T.run_sizeOf w he;simp only[Op.equalIn,Sem.run_bind,hu,Result.andThen_ok,hs];simp[hz,run_sameAddr_apart hab h]
def Item.isMem : Item→Bool
 | .obj _ _=>false
 | _=>true
theorem St.apart {w:World} {x:Item} {i b j:Nat} {v:Value} (hs:St m w L) (hi:L[i]? = some x) (hl:0<x.len) (hc:x.isMem=true) (hb:m.c b j=some v):Apart w x.blk b:=by
 have h:=hs.items x (List.mem_of_getElem? hi);have h2:=hs.c _ _ _ hb;cases x with
 | cells k off vs =>
  have h0:0<vs.length:=hl;obtain⟨g1,g2⟩:=h 0 vs[0] mx;exact⟨g2,⟨_,_,g1⟩,⟨_,_,h2⟩⟩
 | room k off n =>
  obtain⟨u,g1,g2⟩:=h 0 hl;exact⟨g2,⟨_,_,g1⟩,⟨_,_,h2⟩⟩
 | obj k o=>cases hc
theorem OT.ptrCmp (T:Tab P) {op:BinOp} {t t' e:TypeId} {x y:Operand} {a b d:Nat} (hop:op = .eql∨op = .neq) (ho:o.op = .binOp op t x y t') (hd:o.dst=some d) (hN:Nat.blt d N=true)
  (hx:ev ρ x=some (.pointer (some ⟨a,0,none⟩))) (hy:ev ρ y=some (.pointer (some ⟨b,0,none⟩))) (ht:T.isPtr t e=true) (he:T.size1 e=true) (hap:a≠b→∀ w,St m w L→Apart w a b∨Apart w b a)
  (hK:K ((d,.bool (if op = .eql then decide (a=b)else !decide (a=b)))::ρ) m L):OT P N o ρ D m L Q K:=by
 obtain⟨ti,h1,h2⟩:=isPtr_get ht;obtain⟨ei,e1,e2⟩:=size1_get he;refine cN hd hN (fun ac w ha=>⟨w,?_,ha.st⟩) hK;have hu:=T.run_underlying w h1;rw[h2]at hu;have h:(Op.equalIn (9999+1) t (.pointer (some ⟨a,0,none⟩)) (.pointer (some ⟨b,0,none⟩))).run P w = .ok (decide (a=b)) w:=by
  by_cases hab:a=b
  ·subst hab;rw[equalIn_ptrSame (P:=P) T 9999 a hu e1 e2,bQ rfl]
  ·rw[bR hab];rcases hap hab w ha.st with hap | hap
   ·exact equalIn_apart T 9999 hab hap hu e1 e2
   ·exact equalIn_apart' T 9999 hab hap hu e1 e2
 rcases hop with rfl | rfl
 ·have g1:binOp .eql t (.pointer (some ⟨a,0,none⟩)) (.pointer (some ⟨b,0,none⟩))=(do pure (.bool (←Op.equalIn (9999+1) t (.pointer (some ⟨a,0,none⟩)) (.pointer (some ⟨b,0,none⟩)))):Sem Value):=rfl;have g2:(eqGuard .eql t x y (.pointer (some ⟨a,0,none⟩)) (.pointer (some ⟨b,0,none⟩))).run P w = .ok () w:=mQ;exact gQ
 ·have g1:binOp .neq t (.pointer (some ⟨a,0,none⟩)) (.pointer (some ⟨b,0,none⟩))=(do pure (.bool (!(←Op.equalIn (9999+1) t (.pointer (some ⟨a,0,none⟩)) (.pointer (some ⟨b,0,none⟩))))):Sem Value):=rfl;have g2:(eqGuard .neq t x y (.pointer (some ⟨a,0,none⟩)) (.pointer (some ⟨b,0,none⟩))).run P w = .ok () w:=mQ;exact gQ
theorem OT.ptrEq2 (T:Tab P) {t t':TypeId} (e:TypeId) {x y:Operand} {a b d:Nat} (ho:o.op = .binOp .eql t x y t') (hd:o.dst=some d) (hN:Nat.blt d N=true)
  (hx:ev ρ x=some (.pointer (some ⟨a,0,none⟩))) (hy:ev ρ y=some (.pointer (some ⟨b,0,none⟩))) (ht:T.isPtr t e=true) (he:T.size1 e=true) (hap:a≠b→∀ w,St m w L→Apart w a b∨Apart w b a)
  (hK:K ((d,.bool (decide (a=b)))::ρ) m L):OT P N o ρ D m L Q K:=OT.ptrCmp T (.inl rfl) ho hd hN hx hy ht he hap hK
theorem OT.ptrNe2 (T:Tab P) {t t':TypeId} (e:TypeId) {x y:Operand} {a b d:Nat} (ho:o.op = .binOp .neq t x y t') (hd:o.dst=some d) (hN:Nat.blt d N=true)
  (hx:ev ρ x=some (.pointer (some ⟨a,0,none⟩))) (hy:ev ρ y=some (.pointer (some ⟨b,0,none⟩))) (ht:T.isPtr t e=true) (he:T.size1 e=true) (hap:a≠b→∀ w,St m w L→Apart w a b∨Apart w b a)
  (hK:K ((d,.bool (!decide (a=b)))::ρ) m L):OT P N o ρ D m L Q K:=OT.ptrCmp T (.inr rfl) ho hd hN hx hy ht he hap hK
theorem St.apart1 {w:World} {x:Item} {L':List Item} {b j:Nat} {v:Value} (hs:St m w L) (hp:L.Perm (x::L')) (hl:0<x.len) (hc:x.isMem=true) (hb:m.c b j=some v):Apart w x.blk b :=
 (hs.perm hp).apart (i:=0) rfl hl hc hb
end
end Go.Sep
namespace Go.Sep
section
variable {P:Program} {N:Nat} {ρ:Env} {D:List Deferred} {m:Mem} {L:List Item} {Q:EPost} {full:List Oper} {o:Oper} {K:Env→Mem→List Item→Prop}
variable {κ:Type} [DecidableEq κ]
theorem OT.lookup0 (T:Tab P) (k:KeyK κ) (i:Nat) {t kt vt:TypeId} {mp ky:Operand} {b c d:Nat} {es:Ents κ} (x:κ) {zi:TI} (ho:o.op = .lookup t mp ky false) (hd:o.dst=some d) (hN:Nat.blt d N=true)
  (hm:ev ρ mp=some (.map (some b))) (hk:ev ρ ky=some (k.v x)) (ht:T.mapT k t=some (kt,vt)) (hz:T.get vt=some zi) (hi:L[i]? = some (.obj b (mapO k es c)))
  (hK:K ((d,(mget es x).getD zi.zero)::ρ) m L):OT P N o ρ D m L Q K:=by
 refine cN hd hN (fun a w ha=>⟨w,?_,ha.st⟩) hK;obtain⟨ti,ki,h1,h2,h3,h4⟩:=mapT_get ht;have hu:=T.run_underlying w h1;rw[h2]at hu;have huk:=T.run_underlying w h3;have hst:=ha.st.at_ hi;have hobj:w.heap[b]? = some (mapO k es c):=(hst.items _ (List.mem_cons_self ..)).1;exact dO
theorem TO.ofRoom {l:List Oper} {b off n:Nat} (h:∀ vs:List Value,vs.length=n→TO P N ⟨full⟩ l ρ D m (.cells b off vs::L) Q):TO P N ⟨full⟩ l ρ D m (.room b off n::L) Q:=by
 intro a w ha;obtain⟨vs,h1,h2⟩:=ha.st.ofRoom;exact h vs h1 a w ⟨ha.size,ha.env,ha.defers,h2⟩
theorem TO.toRoom {l:List Oper} {b off:Nat} {vs:List Value} (h:TO P N ⟨full⟩ l ρ D m (.room b off vs.length::L) Q):TO P N ⟨full⟩ l ρ D m (.cells b off vs::L) Q:=fun a w ha=>h a w ⟨ha.size,ha.env,ha.defers,ha.st.toRoom⟩
theorem TC.toRoom {c:Code} {b off:Nat} {vs:List Value} (h:TC P N c ρ D m (.room b off vs.length::L) Q):TC P N c ρ D m (.cells b off vs::L) Q:=fun a w ha=>h a w ⟨ha.size,ha.env,ha.defers,ha.st.toRoom⟩
theorem TO.splitC {l:List Oper} {b off:Nat} (vs us:List Value) (h:TO P N ⟨full⟩ l ρ D m (.cells b off vs::.cells b (off+vs.length) us::L) Q):TO P N ⟨full⟩ l ρ D m (.cells b off (vs++us)::L) Q:=fun a w ha=>h a w ⟨ha.size,ha.env,ha.defers,ha.st.split⟩
theorem TC.splitC {c:Code} {b off:Nat} (vs us:List Value) (h:TC P N c ρ D m (.cells b off vs::.cells b (off+vs.length) us::L) Q):TC P N c ρ D m (.cells b off (vs++us)::L) Q:=fun a w ha=>h a w ⟨ha.size,ha.env,ha.defers,ha.st.split⟩
theorem TO.toRoomN {l:List Oper} {b off:Nat} {vs:List Value} (n:Nat) (hn:vs.length=n) (h:TO P N ⟨full⟩ l ρ D m (.room b off n::L) Q):TO P N ⟨full⟩ l ρ D m (.cells b off vs::L) Q:=by subst hn;exact TO.toRoom h
end
end Go.Sep
namespace Go.Sep
open Go.Ck
@[reducible] def ptr (b:Nat):Value:=.pointer (some ⟨b,0,none⟩)
@[reducible] def ptrO (q:Option Nat):Value:=.pointer (q.map fun b=>⟨b,0,none⟩)
def rPtr : R Nat Nat where
 size:=1
 bytes:=8
 enc b:=[ptr b]
 rep _ h a:=h=a
 enc_len _:=rfl
 one _:=rfl
 mono _ h:=h
theorem At.c0 {m:Mem} {b:Nat} {v:Value} {vs:List Value} (h:At m b 0 (v::vs)):m.c b 0=some v:=h 0 v rfl
structure GV where
 b:Nat
 name:Str
 type:Tree
 own:Nat
structure GS where
 sb:Nat
 mb:Nat
 vs:List GV
def GV.pair (v:GV):Str×Tree:=(v.name,v.type)
def GS.names (s:GS):Names:=s.vs.map GV.pair
abbrev plain (sc:List GS):Sc:=sc.map GS.names
def getV (l:List GV) (x:Str):Option GV:=l.find? fun v=>decide (v.name=x)
def lookG (sc:List GS) (x:Str):Option GV:=sc.findSome? fun s=>getV s.vs x
theorem getV_names (l:List GV) (x:Str):getN (l.map GV.pair) x=(getV l x).map GV.type:=by
 unfold getN getV
 induction l with
 | nil=>rfl
 | cons v l ih =>
  rw[bH,List.find?_cons,List.find?_cons];by_cases h:v.name=x
  ·rw[show decide ((GV.pair v).1=x)=true from bQ h,bQ h];rfl
  ·rw[show decide ((GV.pair v).1=x)=false from bR h,bR h];exact ih
theorem look_plain : ∀(sc:List GS) (x:Str),lookS (plain sc) x=(lookG sc x).map GV.type
 | [],x=>rfl
 | s::r,x=>by
  have ih:=look_plain r x;unfold lookS lookG plain at ih ⊢;rw[bH,List.findSome?_cons,List.findSome?_cons,GS.names,getV_names];cases getV s.vs x with
  | none=>exact ih
  | some v=>rfl
@[reducible] def scP (sc:List GS):Value:=.pointer (sc.head?.map fun s=>⟨s.sb,0,none⟩)
structure CE where
 p:Nat
 bt:Nat
 cc:Nat
 es:Ents Str
 tbl:List Decl
 fm:Nat
 fcc:Nat
 fes:Ents Str
 fns:Names
structure CF where
 c:Nat
 lits:List Nat
 top:Nat
 ft:Tree
def CF.fn (F:CF):Nat:=F.lits.headD F.top
def CF.chain (F:CF):List Nat:=F.lits++[F.top]
mutual
def tg : Tree→Bool
 | .mk k _ u ks=>((!(decide (k=5)||decide (k=6))||decide (ks.length=1))&&(!decide (k=7)||(decide (0≤u)&&decide (u≤(ks.length:Int)))))&&tgL ks
def tgL : List Tree→Bool
 | []=>true
 | t::ts=>tg t&&tgL ts
end
theorem tgL_all : ∀ l:List Tree,tgL l=l.all tg
 | []=>rfl
 | t::ts=>by rw[tgL,tgL_all ts,cr]
theorem tg_kid {a x:Tree} (h:tg a=true) (hx:x∈a.kids):tg x=true:=by
 obtain⟨k,n,u,ks⟩:=a;rw[tg,bj,tgL_all]at h;exact List.all_eq_true.1 h.2 x hx
theorem tg_one {a:Tree} (h:tg a=true) (hk:a.kind=5∨a.kind=6):a.kids.length=1:=by
 obtain⟨k,n,u,ks⟩:=a;rw[tg]at h;simp only[bj,bE,Bool.not_eq_true',Bool.or_eq_false_iff,decide_eq_false_iff_not,bw,Tree.kind]at h hk;rcases h.1.1 with h1 | h1
 ·omega
 ·exact h1
theorem tg_fn {a:Tree} (h:tg a=true) (hk:a.kind=7):0≤a.num∧a.num≤(a.kids.length:Int):=by
 obtain⟨k,n,u,ks⟩:=a;rw[tg]at h;simp only[bj,bE,Bool.not_eq_true',decide_eq_false_iff_not,bw,Tree.kind,Tree.num,Tree.kids]at h hk ⊢;rcases h.1.2 with h1 | h1
 ·exact absurd hk h1
 ·exact h1
def VarAt (m:Mem) (v:GV):Prop:=∃ h,TreeRep m h v.type∧At m v.b 0 [strV v.name,.int .i64 h.kind,strV h.name,.int .i64 h.num,h.kids.v,ptr v.own]
theorem VarAt.mono {m m':Mem} {v:GV} (h:VarAt m v) (hm:m≤m'):VarAt m' v:=by
 obtain⟨h,h1,h2⟩:=h;exact⟨h,h1.mono hm,h2.mono hm⟩
@[reducible] def flagI (v:GV):Item:=.room v.b 6 2
def MapV (es:Ents Str) (vs:List GV):Prop:=∀ n,mget es n=(getV vs n).map fun v=>ptr v.b
def ScI : List GS→List Item→Prop
 | [],X=>X=[]
 | s::r,X=>∃ es c Y,MapV es s.vs∧ScI r Y∧X = .obj s.mb (mapO kStr es c)::(s.vs.map flagI++Y)
def lim40 : Nat:=1099511627776
def ChI (m:Mem) (q:Nat):List Nat→List Item→Prop
 | [],X=>X=[]
 | f::r,X=>∃(s:Sl) (l:List Nat) (Y:List Item),SlRep rPtr m s l∧Own s∧l.length+q≤lim40∧(∀ x∈l,∃ v,m.c x 0=some v)∧ChI m q r Y∧X = .cells f 9 [s.v]::tok s 1::Y
theorem ChI.mono {m m':Mem} {q q':Nat} (hm:m≤m') (hq:q'≤q):∀ {l:List Nat} {X:List Item},ChI m q l X→ChI m' q' l X
 | [],X,h=>h
 | f::r,X,⟨s,l,Y,h1,h2,h3,h6,h4,h5⟩=>⟨s,l,Y,h1.mono hm,h2,by omega,(fun x hx=>by obtain⟨v,hv⟩:=h6 x hx;exact⟨v,hm.c _ _ _ hv⟩),ChI.mono hm hq h4,h5⟩
structure GF where
 b:Nat
 name:Str
 recv:Str
def rGF : R Nat GF where
 size:=1
 bytes:=8
 enc b:=[ptr b]
 rep m h a:=h=a.b∧At m a.b 0 [strV a.name,strV a.recv]
 enc_len _:=rfl
 one _:=rfl
 mono hm h:=⟨h.1,h.2.mono hm⟩
def Bun (E:CE) (F:CF) (sc:List GS) (w:Nat) (q:Nat) (m:Mem) (T L:List Item):Prop :=
 ∃(fs:Sl) (fl:List GF) (X Y:List Item),SlRep rGF m fs fl∧Own fs∧fl.length+q≤lim40∧ScI sc X∧ChI m q F.lits Y ∧
  T.Perm (.cells F.c 3 [scP sc,.int .i64 (w:Int)]::.cells E.p 2 [fs.v]::tok fs 1::(X++(Y++L)))
theorem Bun.mono {E:CE} {F:CF} {sc:List GS} {w q q':Nat} {m m':Mem} {T L:List Item} (h:Bun E F sc w q m T L) (hm:m≤m') (hq:q'≤q):Bun E F sc w q' m' T L:=by
 obtain⟨fs,fl,X,Y,h1,h2,h3,h4,h5,h6⟩:=h;exact⟨fs,fl,X,Y,h1.mono hm,h2,by omega,h4,h5.mono hm hq,h6⟩
theorem Bun.perm {E:CE} {F:CF} {sc:List GS} {w q:Nat} {m:Mem} {T T' L L':List Item} (h:Bun E F sc w q m T L) (hT:T'.Perm T) (hL:L.Perm L'):Bun E F sc w q m T' L':=by
 obtain⟨fs,fl,X,Y,h1,h2,h3,h4,h5,h6⟩:=h;exact⟨fs,fl,X,Y,h1,h2,h3,h4,h5,(hT.trans h6).trans (((((hL.append_left Y).append_left X).cons _).cons _).cons _)⟩
theorem Bun.more {E:CE} {F:CF} {sc:List GS} {w q:Nat} {m:Mem} {T L:List Item} (h:Bun E F sc w q m T L) (xs:List Item):Bun E F sc w q m (xs++T) (xs++L):=by
 obtain⟨fs,fl,X,Y,h1,h2,h3,h4,h5,h6⟩:=h;refine⟨fs,fl,X,Y,h1,h2,h3,h4,h5,(h6.append_left xs).trans ?_⟩;have e:∀(a b c:Item) (M:List Item),(xs++(a::b::c::M)).Perm (a::b::c::(xs++M)):=fun a b c M =>
  List.perm_middle.trans ((List.perm_middle.trans ((List.perm_middle).cons _)).cons _)
 refine(e _ _ _ _).trans ((bg _ (bg _ (bg _ ?_))));have e2:∀(A B C D:List Item),(A++(B++(C++D))).Perm (B++(C++(A++D))):=fun A B C D=>by
  exact fw
 exact e2 xs X Y L
theorem Bun.less {E:CE} {F:CF} {sc:List GS} {w q:Nat} {m:Mem} {T L:List Item} (xs:List Item) (h:Bun E F sc w q m T (xs++L)):∃ T',Bun E F sc w q m T' L∧T.Perm (xs++T'):=by
 obtain⟨fs,fl,X,Y,h1,h2,h3,h4,h5,h6⟩:=h;refine⟨_,⟨fs,fl,X,Y,h1,h2,h3,h4,h5,a9 _⟩,h6.trans ?_⟩;have e:∀(a b c:Item) (M:List Item),(xs++(a::b::c::M)).Perm (a::b::c::(xs++M)):=fun a b c M =>
  List.perm_middle.trans ((List.perm_middle.trans ((List.perm_middle).cons _)).cons _)
 refine be ?_ (e _ _ _ _).symm;refine(bg _ (bg _ (bg _ ?_)));have e2:∀(A B C D:List Item),(A++(B++(C++D))).Perm (B++(C++(A++D))):=fun A B C D=>by
  exact fw
 exact(e2 xs X Y L).symm
def Hs (L T:List Item):Prop:=∃ M,T.Perm (M++L)
theorem Hs.refl (L:List Item):Hs L L:=⟨[],a9 _⟩
theorem Hs.trans {A B C:List Item} (h:Hs A B) (k:Hs B C):Hs A C:=by
 obtain⟨M,h⟩:=h;obtain⟨M',k⟩:=k;exact⟨M'++M,by rw[bo];exact k.trans (h.append_left _)⟩
theorem Hs.cons {L T:List Item} (x:Item) (h:Hs L T):Hs L (x::T):=by
 obtain⟨M,h⟩:=h;exact⟨x::M,h.cons x⟩
theorem Hs.app {L T:List Item} (xs:List Item) (h:Hs L T):Hs L (xs++T):=by
 obtain⟨M,h⟩:=h;exact⟨xs++M,by rw[bo];exact h.append_left _⟩
theorem Hs.of_app {L T:List Item} (xs:List Item) (h:Hs (xs++L) T):Hs L T:=by
 obtain⟨M,h⟩:=h;exact⟨M++xs,by rw[bo];exact h⟩
theorem Hs.perm {L T T':List Item} (h:Hs L T) (p:T'.Perm T):Hs L T':=by
 obtain⟨M,h⟩:=h;exact⟨M,p.trans h⟩
theorem Hs.nil {L T:List Item} (h:Hs L T):Hs L (T++[]):=by rw[ce];exact h
theorem Hs.of_sub {L T:List Item} (h:L.Sublist T):Hs L T:=by
 induction h with
 | slnil=>exact Hs.refl _
 | cons a _ ih=>exact ih.cons a
 | cons_cons a _ ih =>
  obtain⟨M,h⟩:=ih;exact⟨M,(h.cons a).trans List.perm_middle.symm⟩
theorem Bun.hs {E:CE} {F:CF} {sc:List GS} {w q:Nat} {m:Mem} {T L:List Item} (h:Bun E F sc w q m T L):Hs L T:=by
 obtain⟨fs,fl,X,Y,h1,h2,h3,h4,h5,h6⟩:=h;exact⟨.cells F.c 3 [scP sc,.int .i64 (w:Int)]::.cells E.p 2 [fs.v]::tok fs 1::(X++Y),by simpa using h6⟩
def ChainAt (m:Mem):List Nat→Prop
 | []=>True
 | f::r=>(∃ v,m.c f 0=some v)∧(∀ g,r.head? = some g→At m f 8 [ptr g])∧ChainAt m r
theorem ChainAt.mono {m m':Mem} (hm:m≤m'):∀ {l:List Nat},ChainAt m l→ChainAt m' l
 | [],_=>trivial
 | f::r,h=>⟨by obtain⟨v,hv⟩:=h.1;exact⟨v,hm.c _ _ _ hv⟩,fun g hg=>(h.2.1 g hg).mono hm,ChainAt.mono hm h.2.2⟩
theorem ChainAt.known {m:Mem}:∀ {l:List Nat} {f:Nat},ChainAt m l→f∈l→∃ v,m.c f 0=some v
 | g::r,f,h,hf=>by
  rcases List.mem_cons.1 hf with rfl | hf
  ·exact h.1
  ·exact ChainAt.known h.2.2 hf
theorem ChainAt.drop {m:Mem}:∀ {p l:List Nat},ChainAt m (p++l)→ChainAt m l
 | [],_,h=>h
 | _::p,_,h=>ChainAt.drop (p:=p) h.2.2
def ScAt (m:Mem) (ch:List Nat):List GS→Prop
 | []=>True
 | s::r=>At m s.sb 0 [.map (some s.mb),scP r]∧(∀ v∈s.vs,VarAt m v∧v.own∈ch∧tg v.type=true)∧ScAt m ch r
theorem ScAt.mono {m m':Mem} {ch:List Nat} (hm:m≤m'):∀ {l:List GS},ScAt m ch l→ScAt m' ch l
 | [],_=>trivial
 | _::r,h=>⟨h.1.mono hm,fun v hv=>⟨(h.2.1 v hv).1.mono hm,(h.2.1 v hv).2⟩,ScAt.mono hm h.2.2⟩
structure CE.Tbl (E:CE) (m:Mem):Prop where
 prog:At m E.p 0 [.map (some E.bt)]
 tb:m.o E.bt=some (mapO kStr E.es E.cc)
 tr:TblRep m E.es E.tbl
 good:∀ n,(∀ f∈(theD E.tbl n).fields,tg f.type=true)∧∀ f∈(theD E.tbl n).methods,tg f.type=true∧f.type.kind=7
theorem CE.Tbl.mono {E:CE} {m m':Mem} (h:E.Tbl m) (hm:m≤m'):E.Tbl m':=⟨h.prog.mono hm,hm.o _ _ h.tb,h.tr.mono hm,h.good⟩
def FnsAt (m:Mem) (es:Ents Str) (fns:Names):Prop:=∀ n,match getN fns n with
 | none=>mget es n=none
 | some t=>tg t=true∧∃ b h,mget es n=some (ptr b)∧TreeRep m h t∧At m b 2 (treeC h)
theorem FnsAt.mono {m m':Mem} {es:Ents Str} {fns:Names} (h:FnsAt m es fns) (hm:m≤m'):FnsAt m' es fns:=fun n=>by
 have:=h n;split at this
 ·exact this
 ·obtain⟨h1,b,h',h2,h3,h4⟩:=this;exact⟨h1,b,h',h2,TreeRep.mono h3 hm,At.mono h4 hm⟩
structure CkOk (E:CE) (F:CF) (sc:List GS) (m:Mem):Prop where
 tbl:E.Tbl m
 fm:m.o E.fm=some (mapO kStr E.fes E.fcc)
 fns:FnsAt m E.fes E.fns
 me:At m F.c 0 [ptr E.p,.map (some E.fm),ptr F.fn]
 chain:ChainAt m F.chain
 ft:∃ h,TreeRep m h F.ft∧At m F.fn 2 (treeC h)
 ftg:tg F.ft=true∧F.ft.kind=7
 sc:ScAt m F.chain sc
theorem CkOk.mono {E:CE} {F:CF} {sc:List GS} {m m':Mem} (h:CkOk E F sc m) (hm:m≤m'):CkOk E F sc m' :=
 ⟨h.tbl.mono hm,hm.o _ _ h.fm,h.fns.mono hm,h.me.mono hm,h.chain.mono hm,by obtain⟨x,h1,h2⟩:=h.ft;exact⟨x,h1.mono hm,h2.mono hm⟩,h.ftg,h.sc.mono hm⟩
structure EB (m:Mem) (b:Nat) (x:X) (txt:Str) (kids:Sl) (var fn:Option Nat):Prop where
 at_:∃(h:HTree) (num how:Int),TreeRep m h x.type∧At m b 0 [.int .i64 x.kind,.int .i64 h.kind,strV h.name,.int .i64 h.num,h.kids.v,strV txt,.int .i64 num,kids.v,.int .i64 how,ptrO var,ptrO fn] ∧
  (num = -1↔x.multi=true)∧(how=3↔x.how=3)∧(how=4↔x.how=4)
 good:tg x.type=true
theorem EB.mono {m m':Mem} {b:Nat} {x:X} {txt:Str} {kids:Sl} {var fn:Option Nat} (h:EB m b x txt kids var fn) (hm:m≤m'):EB m' b x txt kids var fn:=by
 obtain⟨⟨h,n,w,h1,h2,h3⟩,h4⟩:=h;exact⟨⟨h,n,w,h1.mono hm,h2.mono hm,h3⟩,h4⟩
inductive ExD (vs:Nat→Prop) (m:Mem):Nat→Nat→X→Prop
 | leaf {d b:Nat} {x:X} {txt:Str} {kids:Sl} {var fn:Option Nat} (h:EB m b x txt kids var fn) (h8:x.kind≠48) (h9:x.kind≠49)
   (h4:x.kind=44→x.place=var.isSome∧∀ v,var=some v→vs v) (h2:x.kind=52→x.place=decide (txt=[42])) (hp:x.kind≠44→x.kind≠52→x.place=false):ExD vs m d b x
 | sel {d b:Nat} {x:X} {txt:Str} {kids:Sl} {var fn:Option Nat} {k:Nat} {l:List Nat} {y:X} (h:EB m b x txt kids var fn) (h8:x.kind=48) (hk:SlRep rPtr m kids (k::l)) (hy:ExD vs m d k y) (hp:x.place=(decide (y.type.kind=5)||y.place)):ExD vs m (d+1) b x
 | idx {d b:Nat} {x:X} {txt:Str} {kids:Sl} {var fn:Option Nat} {k:Nat} {l:List Nat} {y:X} (h:EB m b x txt kids var fn) (h9:x.kind=49) (hk:SlRep rPtr m kids (k::l)) (hy:ExD vs m d k y) (hp:x.place=decide (y.type.kind=6)):ExD vs m (d+1) b x
theorem ExD.mono {vs:Nat→Prop} {m m':Mem} (hm:m≤m') {d b:Nat} {x:X} (h:ExD vs m d b x):ExD vs m' d b x:=by
 induction h with
 | leaf h h8 h9 h4 h2 hp=>exact .leaf (h.mono hm) h8 h9 h4 h2 hp
 | sel h h8 hk _ hp ih=>exact .sel (h.mono hm) h8 (hk.mono hm) ih hp
 | idx h h9 hk _ hp ih=>exact .idx (h.mono hm) h9 (hk.mono hm) ih hp
theorem ExD.eb {vs:Nat→Prop} {m:Mem} {d b:Nat} {x:X} (h:ExD vs m d b x):∃ txt kids var fn,EB m b x txt kids var fn:=by
 cases h with
 | leaf h=>exact⟨_,_,_,_,h⟩
 | sel h=>exact⟨_,_,_,_,h⟩
 | idx h=>exact⟨_,_,_,_,h⟩
def ExAt (vs:Nat→Prop) (m:Mem) (b:Nat) (x:X):Prop:=∃ d,ExD vs m d b x
theorem ExAt.mono {vs:Nat→Prop} {m m':Mem} (hm:m≤m') {b:Nat} {x:X} (h:ExAt vs m b x):ExAt vs m' b x:=by
 obtain⟨d,h⟩:=h;exact⟨d,h.mono hm⟩
theorem ExAt.eb {vs:Nat→Prop} {m:Mem} {b:Nat} {x:X} (h:ExAt vs m b x):∃ txt kids var fn,EB m b x txt kids var fn:=by
 obtain⟨d,h⟩:=h;exact h.eb
def inV (sc:List GS) (b:Nat):Prop:=∃ s∈sc,∃ v∈s.vs,v.b=b
mutual
def cst : Tree→Nat
 | .mk _ _ _ ks=>2+cstL ks
def cstL : List Tree→Nat
 | []=>0
 | t::ts=>cst t+cstL ts
end
theorem cst_eq (a:Tree):cst a=2+cstL a.kids:=by obtain⟨_,_,_,_⟩:=a;rfl
theorem cstL_app : ∀ l l':List Tree,cstL (l++l')=cstL l+cstL l'
 | [],l'=>by simp[cstL]
 | t::l,l'=>by rw[bJ,cstL,cstL,cstL_app l l'];omega
theorem cstL_drop {l:List Tree} {k:Nat} {a:Tree} (h:l[k]? = some a):cstL (l.drop k)=cst a+cstL (l.drop (k+1)):=by
 obtain⟨hk,rfl⟩:=List.getElem?_eq_some_iff.1 h;rw[bU hk,cstL]
theorem cstL_split (l:List Tree) (k:Nat):cstL l=cstL (l.take k)+cstL (l.drop k):=by rw[←cstL_app,co]
theorem ScI.app : ∀ {a b:List GS} {X:List Item},ScI (a++b) X→∃ X1 X2,ScI a X1∧ScI b X2∧X=X1++X2
 | [],b,X,h=>⟨[],X,rfl,h,rfl⟩
 | s::a,b,X,h=>by
  obtain⟨es,c,Y,h1,h2,rfl⟩:=h;obtain⟨X1,X2,h3,h4,rfl⟩:=ScI.app h2;exact⟨_,X2,⟨es,c,X1,h1,h3,rfl⟩,h4,by simp⟩
theorem ChI.join {m:Mem} {q:Nat}:∀ {a b:List Nat} {X1 X2:List Item},ChI m q a X1→ChI m q b X2→ChI m q (a++b) (X1++X2)
 | [],b,X1,X2,h1,h2=>by rw[show X1=[] from h1];exact h2
 | s::a,b,X1,X2,⟨s',l,Y,h1,h2,h3,h4,h5,h6⟩,h=>⟨s',l,Y++X2,h1,h2,h3,h4,ChI.join h5 h,by rw[h6];rfl⟩
theorem ScI.flag {sc:List GS} {X:List Item} {b:Nat} (h:ScI sc X) (hv:inV sc b):∃ X',X.Perm (.room b 6 2::X'):=by
 obtain⟨s,hs,v,hv,rfl⟩:=hv
 induction sc generalizing X with
 | nil=>cases hs
 | cons s0 r ih =>
  obtain⟨es,c,Y,h1,h2,rfl⟩:=h;rcases List.mem_cons.1 hs with rfl | hs
  ·obtain⟨M1,M2,hM⟩:=List.append_of_mem (List.mem_map_of_mem (f:=flagI) hv);refine⟨.obj s.mb (mapO kStr es c)::(M1++M2++Y),?_⟩;rw[hM];have:(M1++flagI v::M2++Y).Perm (flagI v::(M1++M2++Y)):=by simp only[bo,bJ];exact List.perm_middle
   exact(this.cons _).trans (ba _ _ _)
  ·obtain⟨X',hX⟩:=ih h2 hs;refine⟨.obj s0.mb (mapO kStr es c)::(s0.vs.map flagI++X'),?_⟩;have:(s0.vs.map flagI++Y).Perm (.room v.b 6 2::(s0.vs.map flagI++X')):=(hX.append_left _).trans List.perm_middle;exact(this.cons _).trans (ba _ _ _)
theorem Bun.flag {E:CE} {F:CF} {sc:List GS} {w q:Nat} {m:Mem} {T L:List Item} {b:Nat} (h:Bun E F sc w q m T L) (hv:inV sc b):∃ T',T.Perm (.room b 6 2::T'):=by
 obtain⟨fs,fl,X,Y,h1,h2,h3,h4,h5,h6⟩:=h;obtain⟨X',hX⟩:=h4.flag hv;refine⟨.cells F.c 3 [scP sc,.int .i64 (w:Int)]::.cells E.p 2 [fs.v]::tok fs 1::(X'++(Y++L)),h6.trans ?_⟩;refine(((hX.append_right _).cons _).cons _ |>.cons _).trans ?_;exact(List.perm_middle (l₁:=[Item.cells F.c 3 [scP sc,.int .i64 (w:Int)],.cells E.p 2 [fs.v],tok fs 1]))
theorem ScI.map {p r:List GS} {s:GS} {X:List Item} (h:ScI (p++s::r) X):∃ es c X',MapV es s.vs∧X.Perm (.obj s.mb (mapO kStr es c)::X'):=by
 obtain⟨X1,X2,-,⟨es,c,Y,h1,-,rfl⟩,rfl⟩:=h.app;exact⟨es,c,_,h1,List.perm_middle⟩
theorem Bun.map {E:CE} {F:CF} {sc p r:List GS} {s:GS} {w q:Nat} {m:Mem} {T L:List Item} (h:Bun E F sc w q m T L) (hs:sc=p++s::r):∃ es c T',MapV es s.vs∧T.Perm (.obj s.mb (mapO kStr es c)::T'):=by
 subst hs;obtain⟨fs,fl,X,Y,h1,h2,h3,h4,h5,h6⟩:=h;obtain⟨es,c,X',h7,hX⟩:=h4.map;refine⟨es,c,.cells F.c 3 [scP (p++s::r),.int .i64 (w:Int)]::.cells E.p 2 [fs.v]::tok fs 1::(X'++(Y++L)),h7,h6.trans ?_⟩;refine(((hX.append_right _).cons _).cons _ |>.cons _).trans ?_;exact(List.perm_middle (l₁:=[Item.cells F.c 3 [scP (p++s::r),.int .i64 (w:Int)],.cells E.p 2 [fs.v],tok fs 1]))
theorem Bun.head {E:CE} {F:CF} {sc:List GS} {w q:Nat} {m:Mem} {T L:List Item} (h:Bun E F sc w q m T L):∃ T',T.Perm (.cells F.c 3 [scP sc,.int .i64 (w:Int)]::T') ∧
  ∀(w' q':Nat) (m':Mem),m≤m'→q'≤q→Bun E F sc w' q' m' (.cells F.c 3 [scP sc,.int .i64 (w':Int)]::T') L:=by
 obtain⟨fs,fl,X,Y,h1,h2,h3,h4,h5,h6⟩:=h;exact⟨_,h6,fun w' q' m' hm hq=>⟨fs,fl,X,Y,h1.mono hm,h2,by omega,h4,h5.mono hm hq,a9 _⟩⟩
theorem pd1 {α:Type} {h1 h2 h3 o:α} {M X2 Y L:List α}:(h1::h2::h3::((o::(M++X2))++(Y++L))).Perm (h1::o::(h2::h3::((M++X2)++(Y++L)))):=nr
theorem pd2 {α:Type} {h1 h2 h3 o r:α} {M X2 Y L:List α}:(r::h1::o::(h2::h3::((M++X2)++(Y++L)))).Perm (h1::h2::h3::((o::((r::M)++X2))++(Y++L))):=nr
theorem Bun.decl {E:CE} {F:CF} {s:GS} {r:List GS} {w q:Nat} {m:Mem} {T L:List Item} (h:Bun E F (s::r) w q m T L) :
  ∃ es c T',MapV es s.vs∧T.Perm (.cells F.c 3 [ptr s.sb,.int .i64 (w:Int)]::.obj s.mb (mapO kStr es c)::T') ∧
   ∀(v:GV) (es':Ents Str) (c':Nat) (m':Mem),m≤m'→MapV es' (v::s.vs)→Bun E F (⟨s.sb,s.mb,v::s.vs⟩::r) w q m' (.room v.b 6 2::.cells F.c 3 [ptr s.sb,.int .i64 (w:Int)]::.obj s.mb (mapO kStr es' c')::T') L:=by
 obtain⟨fs,fl,X,Y,h1,h2,h3,⟨es,c,X2,h7,h8,rfl⟩,h5,h6⟩:=h;refine⟨es,c,.cells E.p 2 [fs.v]::tok fs 1::((s.vs.map flagI++X2)++(Y++L)),h7,h6.trans pd1,fun v es' c' m' hm hes=>⟨fs,fl,.obj s.mb (mapO kStr es' c')::((v::s.vs).map flagI++X2),Y,h1.mono hm,h2,h3,⟨es',c',X2,hes,h8,rfl⟩,h5.mono hm (bF _),?_⟩⟩;exact pd2
theorem lookG_mem {sc:List GS} {x:Str} {v:GV} (h:lookG sc x=some v):∃ s∈sc,v∈s.vs:=by
 unfold lookG at h;obtain⟨s,hs,h⟩:=List.exists_of_findSome?_eq_some h;exact⟨s,hs,List.mem_of_find?_eq_some h⟩
theorem ScAt.get {m:Mem} {ch:List Nat}:∀ {sc:List GS} {s:GS} {v:GV},ScAt m ch sc→s∈sc→v∈s.vs→VarAt m v∧v.own∈ch∧tg v.type=true
 | s0::r,s,v,h,hs,hv=>by
  rcases List.mem_cons.1 hs with rfl | hs
  ·exact h.2.1 v hv
  ·exact ScAt.get h.2.2 hs hv
theorem ScAt.at_ {m:Mem} {ch:List Nat}:∀ {p r:List GS} {s:GS},ScAt m ch (p++s::r)→At m s.sb 0 [.map (some s.mb),scP r]
 | [],_,_,h=>h.1
 | _::p,_,_,h=>ScAt.at_ (p:=p) h.2.2
theorem Bun.fns {E:CE} {F:CF} {sc:List GS} {w q:Nat} {m:Mem} {T L:List Item} (h:Bun E F sc w q m T L):∃ fs fl T',SlRep rGF m fs fl∧fl.length+q≤lim40∧T.Perm (.cells E.p 2 [fs.v]::T'):=by
 obtain⟨fs,fl,X,Y,h1,h2,h3,h4,h5,h6⟩:=h;exact⟨fs,fl,_,h1,h3,h6.trans (ba _ _ _)⟩
def brk : List PanicEntry:=[{ v:=.iface 109 (.agg ⟨[]⟩),recovered:=false }]
def kX {α:Type} (X:Option α) (m:Mem) (L:List Item):List PanicEntry→Mem→List Item→Prop:=fun ch m' T'=>X=none∧m≤m'∧ch=brk∧Hs L T'
def Bk (Q:EPost) (p:Prop) (m:Mem) (L:List Item):Prop:=∀ ρ m' T,p→m≤m'→Hs L T→Q (.panic brk) ρ [] m' T
theorem Bk.ret {α:Type} {P:Program} {fn:Func} {R:Value→Mem→List Item→Prop} {X:Option α} {m:Mem} {L:List Item}:Bk (retQ P fn R (kX X m L)) (X=none) m L :=
 fun ρ m' T h1 h2 h3=>retQ_p (L':=T) (bZ _) ⟨h1,h2,rfl,h3⟩
theorem Bk.then {Q:EPost} {K:Env→List Deferred→Mem→List Item→Prop} {p:Prop} {m:Mem} {L:List Item} (h:Bk Q p m L):Bk (thenQ K Q) p m L:=fun ρ m' T h1 h2 h3=>thenQ_p (h ρ m' T h1 h2 h3)
theorem Bk.block {Q:EPost} {i:Nat} {p:Prop} {m:Mem} {L:List Item} (h:Bk Q p m L):Bk (blockQ i Q) p m L:=fun ρ m' T h1 h2 h3=>blockQ_p (h ρ m' T h1 h2 h3)
def Kt {α:Type} (P:Program) (f:FuncId) (args:List Value) (m:Mem) (T L:List Item) (X:Option α) (R:α→Mem→Value→List Item→Prop):Prop :=
 TCallX P f ⟨args⟩ m T (fun v m' T'=>∃ a,X=some a∧m≤m'∧R a m' v T') (kX X m L)
def KtE {α:Type} (P:Program) (f:FuncId) (args:List Value) (E:CE) (F:CF) (sc:List GS) (w c:Nat) (m:Mem) (X:Option α) (V:Mem→Value→α→Prop):Prop :=
 ∀ T L q,Bun E F sc w (q+c) m T L→Kt P f args m T L X fun a m' v T'=>V m' v a∧Bun E F sc w q m' T' L
def Kp {α:Type} (P:Program) (f:FuncId) (args:List Value) (m:Mem) (X:Option α) (V:Mem→Value→α→Prop):Prop :=
 ∀ T,TCallX P f ⟨args⟩ m T (fun v m' T'=>∃ a,X=some a∧m≤m'∧V m' v a∧T'=T) (kX X m T)
@[reducible] def GS.set (s:GS) (vs:List GV):GS:=⟨s.sb,s.mb,vs⟩
def KtS (P:Program) (f:FuncId) (args:List Value) (E:CE) (F:CF) (s:GS) (r:List GS) (w c:Nat) (m:Mem) (X:Option Sc) (V:Mem→Value→Prop):Prop :=
 ∀ T L q,Bun E F (s::r) w (q+c) m T L→Kt P f args m T L X fun a m' v T'=>∃ vs',a=plain (s.set vs'::r)∧ScAt m' F.chain (s.set vs'::r)∧V m' v∧Bun E F (s.set vs'::r) w q m' T' L
def vEx (sc:List GS):Mem→Value→X→Prop:=fun m v x=>∃ b,v=ptr b∧ExAt (inV sc) m b x
def vUn : Mem→Value→Unit→Prop:=fun m v x=>v = .tuple ⟨[]⟩
section
variable {P:Program} {N:Nat} {ρ:Env} {m:Mem} {T:List Item} {Q:EPost} {o:Oper} {K:Env→Mem→List Item→Prop} {α β:Type}
theorem OT.ktG {R:α→Mem→Value→List Item→Prop} {R2:α→Mem→Value→List Item→Prop} {FF:Operand} {args:List Operand} {ats:Array TypeId} {f:FuncId} {first cap vs all:List Value} {d:Nat} {L:List Item} {X:Option α} {m0:Mem} {L0:List Item} {Z:Option β} {g:α→Option β}
  (xs:List Item) (hp:Kt P f all m (xs++T) (xs++L) X R) (hR:∀ a m' v T',R a m' v T'→∃ T2,T'.Perm (xs++T2)∧R2 a m' v T2) (hb:Bk Q (Z=none) m0 L0) (hm:m0≤m) (hL:Hs L0 L) (hZ:Z=X.bind g)
  (ho:o.op = .call ⟨.value FF,⟨args⟩,ats⟩) (hd:o.dst=some d) (hN:Nat.blt d N=true)
  (hF:ev ρ FF=some (.func (.func f) ⟨first⟩ ⟨cap⟩)) (ha:evs ρ args=some vs) (hall:fl (first++(vs++cap))=some all) (hg:Goes P f)
  (hK:∀ v m' a T',Z=g a→m≤m'→m0≤m'→R2 a m' v T'→K ((d,v)::ρ) m' (xs++T')):OT P N o ρ [] m (xs++T) Q K:=by
 intro ac w0 hac;refine Oper.wp_mono (fun a' w' hl=>?_) (cR (K:=fun ρ' m' L'=>∃ v a T2,ρ'=(d,v)::ρ∧X=some a∧m≤m'∧R2 a m' v T2∧L'.Perm (xs++T2)) ho hd hN hF ha hall hg (cE hp ?_ ?_) ac w0 hac)
 ·obtain⟨ρ',m',L',h1,v,a,T2,rfl,h2,h3,h4,h6⟩:=hl;exact⟨_,_,_,h1.perm h6,hK v m' a T2 (by rw[hZ,h2];rfl) h3 (cD hm h3) h4⟩
 ·rintro v m' T1 ⟨a,h1,h2,h3⟩;obtain⟨T2,h5,h6⟩:=hR _ _ _ _ h3;exact⟨v,a,T2,rfl,h1,h2,h6,h5⟩
 ·exact gV
theorem OT.kp {V:Mem→Value→α→Prop} {FF:Operand} {args:List Operand} {ats:Array TypeId} {f:FuncId} {first cap vs all:List Value} {d:Nat} {X:Option α} {m0:Mem} {L0:List Item} {Z:Option β} {g:α→Option β}
  (hp:Kp P f all m X V) (hb:Bk Q (Z=none) m0 L0) (hm:m0≤m) (hL:Hs L0 T) (hZ:Z=X.bind g)
  (ho:o.op = .call ⟨.value FF,⟨args⟩,ats⟩) (hd:o.dst=some d) (hN:Nat.blt d N=true)
  (hF:ev ρ FF=some (.func (.func f) ⟨first⟩ ⟨cap⟩)) (ha:evs ρ args=some vs) (hall:fl (first++(vs++cap))=some all) (hg:Goes P f)
  (hK:∀ v m' a,Z=g a→m≤m'→m0≤m'→V m' v a→K ((d,v)::ρ) m' T):OT P N o ρ [] m T Q K:=by
 refine cR ho hd hN hF ha hall hg (cE (hp T) ?_ ?_)
 ·rintro v m' _ ⟨a,e,h1,h2,rfl⟩;exact hK v m' a nK h1 (cD hm h1) h2
 ·rintro _ m' _ ⟨e,h1,rfl,h4⟩;exact hb _ _ _ nK (cD hm h1) (Hs.trans hL h4)
theorem OT.ck {V:Mem→Value→α→Prop} {FF:Operand} {args:List Operand} {ats:Array TypeId} {f:FuncId} {first cap vs all:List Value} {d:Nat} {E:CE} {F:CF} {sc:List GS} {w c q':Nat} {L:List Item} {X:Option α} {m0:Mem} {L0:List Item} {Z:Option β} {g:α→Option β}
  (xs:List Item) (q:Nat) (hp:KtE P f all E F sc w c m X V) (hB:Bun E F sc w q' m T L) (hb:Bk Q (Z=none) m0 L0) (hm:m0≤m) (hL:Hs L0 L) (hZ:Z=X.bind g) (hq:q+c≤q')
  (ho:o.op = .call ⟨.value FF,⟨args⟩,ats⟩) (hd:o.dst=some d) (hN:Nat.blt d N=true)
  (hF:ev ρ FF=some (.func (.func f) ⟨first⟩ ⟨cap⟩)) (ha:evs ρ args=some vs) (hall:fl (first++(vs++cap))=some all) (hg:Goes P f)
  (hK:∀ v m' a T',Z=g a→m≤m'→m0≤m'→V m' v a→Bun E F sc w q m' T' L→K ((d,v)::ρ) m' (xs++T')):OT P N o ρ [] m (xs++T) Q K :=
 OT.ktG (R2:=fun a m' v T'=>V m' v a∧Bun E F sc w q m' T' L) xs (hp _ _ q ((hB.more xs).mono (cC _) hq))
  (fun a m' v T' h=>by
   obtain⟨T2,h5,h6⟩:=h.2.less xs;exact⟨T2,h6,h.1,h5⟩) hb hm hL hZ ho hd hN hF ha hall hg fun v m' a T' h1 h2 h3 h4=>hK v m' a T' h1 h2 h3 h4.1 h4.2
end
section
variable {P:Program} {N:Nat} {ρ:Env} {m:Mem} {T:List Item} {Q:EPost} {o:Oper} {K:Env→Mem→List Item→Prop} {β:Type}
theorem OT.ckS {V:Mem→Value→Prop} {FF:Operand} {args:List Operand} {ats:Array TypeId} {f:FuncId} {first cap vs all:List Value} {d:Nat} {E:CE} {F:CF} {s:GS} {r:List GS} {w c q':Nat} {L:List Item} {X:Option Sc} {m0:Mem} {L0:List Item} {Z:Option β} {g:Sc→Option β}
  (xs:List Item) (q:Nat) (hp:KtS P f all E F s r w c m X V) (hB:Bun E F (s::r) w q' m T L) (hb:Bk Q (Z=none) m0 L0) (hm:m0≤m) (hL:Hs L0 L) (hZ:Z=X.bind g) (hq:q+c≤q')
  (ho:o.op = .call ⟨.value FF,⟨args⟩,ats⟩) (hd:o.dst=some d) (hN:Nat.blt d N=true)
  (hF:ev ρ FF=some (.func (.func f) ⟨first⟩ ⟨cap⟩)) (ha:evs ρ args=some vs) (hall:fl (first++(vs++cap))=some all) (hg:Goes P f)
  (hK:∀ v m' vs' T',Z=g (plain (s.set vs'::r))→m≤m'→m0≤m'→ScAt m' F.chain (s.set vs'::r)→V m' v→Bun E F (s.set vs'::r) w q m' T' L→K ((d,v)::ρ) m' (xs++T')):OT P N o ρ [] m (xs++T) Q K :=
 OT.ktG (R2:=fun a m' v T'=>∃ vs',a=plain (s.set vs'::r)∧ScAt m' F.chain (s.set vs'::r)∧V m' v∧Bun E F (s.set vs'::r) w q m' T' L) xs (hp _ _ q ((hB.more xs).mono (cC _) hq))
  (fun a m' v T' h=>by
   obtain⟨vs',e1,e2,e3,h⟩:=h;obtain⟨T2,h5,h6⟩:=h.less xs;exact⟨T2,h6,vs',e1,e2,e3,h5⟩) hb hm hL hZ ho hd hN hF ha hall hg fun v m' a T' h1 h2 h3 h4=>by
    obtain⟨vs',rfl,e2,e3,h4⟩:=h4;exact hK v m' vs' T' h1 h2 h3 e2 e3 h4
end
theorem KtS.enter {P:Program} {f:FuncId} {args:List Value} {E:CE} {F:CF} {s:GS} {r:List GS} {w c:Nat} {m:Mem} {X:Option Sc} {V:Mem→Value→Prop} {fn:Func} {cd:Code} (hf:P.funcs[f]? = some fn) (hb:fn.body=some cd) (N:Nat) (hN:Nat.ble N fn.ntmps=true)
  (hK:∀(T L:List Item) (q:Nat) (Z:Option Sc),Z=X→Bun E F (s::r) w (q+c) m T L→TC P N cd (argEnv args 0) [] m T (retQ P fn (fun v m' T'=>∃ a,Z=some a∧m≤m'∧∃ vs',a=plain (s.set vs'::r)∧ScAt m' F.chain (s.set vs'::r)∧V m' v∧Bun E F (s.set vs'::r) w q m' T' L) (kX Z m L))):KtS P f args E F s r w c m X V :=
 fun T L q hB=>cK hf hb N hN (hK T L q X rfl hB)
theorem Kp.enter {α:Type} {P:Program} {f:FuncId} {args:List Value} {m:Mem} {X:Option α} {V:Mem→Value→α→Prop} {fn:Func} {cd:Code} (hf:P.funcs[f]? = some fn) (hb:fn.body=some cd) (N:Nat) (hN:Nat.ble N fn.ntmps=true)
  (hK:∀(T:List Item) (Z:Option α),Z=X→TC P N cd (argEnv args 0) [] m T (retQ P fn (fun v m' T'=>∃ a,Z=some a∧m≤m'∧V m' v a∧T'=T) (kX Z m T))):Kp P f args m X V :=
 fun T=>cK hf hb N hN (hK T X rfl)
@[reducible] def exC (k:Int) (h:HTree) (txt:Str) (num:Int) (kids:Sl) (how:Int) (var fn:Option Nat):List Value :=
 [.int .i64 k,.int .i64 h.kind,strV h.name,.int .i64 h.num,h.kids.v,strV txt,.int .i64 num,kids.v,.int .i64 how,ptrO var,ptrO fn]
def ExC (vs:Nat→Prop) (m:Mem) (b:Nat) (cs:List Value) (x:X):Prop:=∀ m',m≤m'→At m' b 0 cs→ExAt vs m' b x
theorem exC_leaf {vs:Nat→Prop} {m:Mem} {b:Nat} {x:X} {h:HTree} {txt:Str} {num how:Int} {kids:Sl} {var fn:Option Nat} (hr:TreeRep m h x.type) (hg:tg x.type=true) (hn:num = -1↔x.multi=true) (h3:how=3↔x.how=3) (h4:how=4↔x.how=4)
  (k8:x.kind≠48) (k9:x.kind≠49) (kv:x.kind=44→x.place=var.isSome∧∀ v,var=some v→vs v) (k2:x.kind=52→x.place=decide (txt=[42])) (hp:x.kind≠44→x.kind≠52→x.place=false):ExC vs m b (exC x.kind h txt num kids how var fn) x :=
 fun m' hm hA=>⟨0,.leaf ⟨⟨h,num,how,hr.mono hm,hA,hn,h3,h4⟩,hg⟩ k8 k9 kv k2 hp⟩
theorem exC_sel {vs:Nat→Prop} {m:Mem} {b:Nat} {x y:X} {h:HTree} {txt:Str} {num how:Int} {kids:Sl} {var fn:Option Nat} {k:Nat} {l:List Nat} (hr:TreeRep m h x.type) (hg:tg x.type=true) (hn:num = -1↔x.multi=true) (h3:how=3↔x.how=3) (h4:how=4↔x.how=4)
  (k8:x.kind=48) (hk:SlRep rPtr m kids (k::l)) (hy:ExAt vs m k y) (hp:x.place=(decide (y.type.kind=5)||y.place)):ExC vs m b (exC x.kind h txt num kids how var fn) x:=by
 obtain⟨d,hy⟩:=hy;exact fun m' hm hA=>⟨d+1,.sel ⟨⟨h,num,how,hr.mono hm,hA,hn,h3,h4⟩,hg⟩ k8 (hk.mono hm) (hy.mono hm) hp⟩
theorem exC_idx {vs:Nat→Prop} {m:Mem} {b:Nat} {x y:X} {h:HTree} {txt:Str} {num how:Int} {kids:Sl} {var fn:Option Nat} {k:Nat} {l:List Nat} (hr:TreeRep m h x.type) (hg:tg x.type=true) (hn:num = -1↔x.multi=true) (h3:how=3↔x.how=3) (h4:how=4↔x.how=4)
  (k9:x.kind=49) (hk:SlRep rPtr m kids (k::l)) (hy:ExAt vs m k y) (hp:x.place=decide (y.type.kind=6)):ExC vs m b (exC x.kind h txt num kids how var fn) x:=by
 obtain⟨d,hy⟩:=hy;exact fun m' hm hA=>⟨d+1,.idx ⟨⟨h,num,how,hr.mono hm,hA,hn,h3,h4⟩,hg⟩ k9 (hk.mono hm) (hy.mono hm) hp⟩
def KtX (P:Program) (f:FuncId) (args:List Value) (E:CE) (F:CF) (sc:List GS) (w c:Nat) (m:Mem) (b:Nat) (cs:List Value) (X:Option Go.Ck.X):Prop :=
 ∀ T L q,Bun E F sc w (q+c) m T L→TCallX P f ⟨args⟩ m (.cells b 0 cs::T) (fun v m' T'=>∃ a cs' T2,X=some a∧m≤m'∧ExC (inV sc) m' b cs' a∧T' = .cells b 0 cs'::T2∧Bun E F sc w q m' T2 L) (kX X m L)
theorem KtX.enter {P:Program} {f:FuncId} {args:List Value} {E:CE} {F:CF} {sc:List GS} {w c:Nat} {m:Mem} {b:Nat} {cs:List Value} {X:Option Go.Ck.X} {fn:Func} {cd:Code} (hf:P.funcs[f]? = some fn) (hb:fn.body=some cd) (N:Nat) (hN:Nat.ble N fn.ntmps=true)
  (hK:∀(T L:List Item) (q:Nat) (Z:Option Go.Ck.X),Z=X→Bun E F sc w (q+c) m T L→TC P N cd (argEnv args 0) [] m (.cells b 0 cs::T) (retQ P fn (fun v m' T'=>∃ a cs' T2,Z=some a∧m≤m'∧ExC (inV sc) m' b cs' a∧T' = .cells b 0 cs'::T2∧Bun E F sc w q m' T2 L) (kX Z m L))):KtX P f args E F sc w c m b cs X :=
 fun T L q hB=>cK hf hb N hN (hK T L q X rfl hB)
section
variable {P:Program} {N:Nat} {ρ:Env} {m:Mem} {T:List Item} {Q:EPost} {o:Oper} {K:Env→Mem→List Item→Prop} {β:Type}
theorem OT.ckX {FF:Operand} {args:List Operand} {ats:Array TypeId} {f:FuncId} {first cap vs all:List Value} {d:Nat} {E:CE} {F:CF} {sc:List GS} {w c q':Nat} {L:List Item} {X:Option Go.Ck.X} {m0:Mem} {L0:List Item} {Z:Option β} {g:Go.Ck.X→Option β} {b:Nat} {cs:List Value}
  (xs:List Item) (q:Nat) (hp:KtX P f all E F sc w c m b cs X) (hB:Bun E F sc w q' m T L) (hb:Bk Q (Z=none) m0 L0) (hm:m0≤m) (hL:Hs L0 L) (hZ:Z=X.bind g) (hq:q+c≤q')
  (ho:o.op = .call ⟨.value FF,⟨args⟩,ats⟩) (hd:o.dst=some d) (hN:Nat.blt d N=true)
  (hF:ev ρ FF=some (.func (.func f) ⟨first⟩ ⟨cap⟩)) (ha:evs ρ args=some vs) (hall:fl (first++(vs++cap))=some all) (hg:Goes P f)
  (hK:∀ v m' a cs' T',Z=g a→m≤m'→m0≤m'→ExC (inV sc) m' b cs' a→Bun E F sc w q m' T' L→K ((d,v)::ρ) m' (.cells b 0 cs'::(xs++T'))):OT P N o ρ [] m (.cells b 0 cs::(xs++T)) Q K:=by
 intro ac w0 hac;refine Oper.wp_mono (fun a' w' hl=>?_) (cR (K:=fun ρ' m' L'=>∃ v a cs' T2,ρ'=(d,v)::ρ∧X=some a∧m≤m'∧ExC (inV sc) m' b cs' a∧Bun E F sc w q m' T2 L∧L'.Perm (.cells b 0 cs'::(xs++T2))) ho hd hN hF ha hall hg (cE (hp _ _ q ((hB.more xs).mono (cC _) hq)) ?_ ?_) ac w0 hac)
 ·obtain⟨ρ',m',L',h1,v,a,cs',T2,rfl,h2,h3,h4,h5,h6⟩:=hl;exact⟨_,_,_,h1.perm h6,hK v m' a cs' T2 (by rw[hZ,h2];rfl) h3 (cD hm h3) h4 h5⟩
 ·rintro v m' T1 ⟨a,cs',T2,h1,h2,h3,rfl,h4⟩;obtain⟨T3,h5,h6⟩:=h4.less xs;exact⟨v,a,cs',T3,rfl,h1,h2,h3,h5,h6.cons _⟩
 ·exact gV
end
theorem KtE.enter {α:Type} {P:Program} {f:FuncId} {args:List Value} {E:CE} {F:CF} {sc:List GS} {w c:Nat} {m:Mem} {X:Option α} {V:Mem→Value→α→Prop} {fn:Func} {cd:Code} (hf:P.funcs[f]? = some fn) (hb:fn.body=some cd) (N:Nat) (hN:Nat.ble N fn.ntmps=true)
  (hK:∀(T L:List Item) (q:Nat) (Z:Option α),Z=X→Bun E F sc w (q+c) m T L→TC P N cd (argEnv args 0) [] m T (retQ P fn (fun v m' T'=>∃ a,Z=some a∧m≤m'∧V m' v a∧Bun E F sc w q m' T' L) (kX Z m L))):KtE P f args E F sc w c m X V :=
 fun T L q hB=>cK hf hb N hN (hK T L q X rfl hB)
end Go.Sep
namespace Go
abbrev dl := @Sep.Hs.refl
abbrev dm := @Sep.Hs.app
abbrev dn := @Sep.Bk.ret
abbrev dp := @Sep.Bk.then
abbrev dq := @Sep.Bk.block
abbrev dr := @Sep.exC_leaf
abbrev dt := @Sep.KtE.enter
end Go
namespace Go.Sep
open Go.Proofs Go.Ck
attribute [local irreducible] TC TO OT TCallX TCall DO DOt thenQ blockQ retQ At
theorem cstop_law (m:Mem) (L:List Item):TCallX Tryz.prog 115 ⟨[]⟩ m L (fun _ _ _=>False) (fun ch m' L'=>ch=brk∧m'=m∧L'=L):=by
 refine ak Tryz.func115 2 ?_;refine ax ?_;refine qs rfl (OT.panic rfl rfl ?_);exact retQ_p (bZ _) ⟨rfl,rfl,rfl⟩
theorem want_law (b:Bool) (m:Mem) (L:List Item):TCallX Tryz.prog 61 ⟨[.bool b]⟩ m L (fun v m' L'=>b=true∧v = .tuple ⟨[]⟩∧m'=m∧L'=L) (fun ch m' L'=>b=false∧ch=brk∧m'=m∧L'=L):=by
 refine ak Tryz.func61 5 ?_;refine aO (t:=!b) (fun e=>?_) (fun e=>?_)
 ·rw[Bool.not_eq_true']at e;refine uA ?_;refine oC goes115 (cE (cstop_law _ _) ?_ ?_)
  ·rintro _ _ _ h;exact h.elim
  ·rintro _ _ _ ⟨rfl,rfl,rfl⟩;exact retQ_p (bZ _) ⟨e,rfl,rfl,rfl⟩
 ·rw[Bool.not_eq_false']at e;refine uA ?_;exact cJ rfl (bZ _) ⟨e,rfl,rfl,rfl⟩
section
variable {N:Nat} {ρ:Env} {m:Mem} {T:List Item} {Q:EPost} {o:Oper} {K:Env→Mem→List Item→Prop} {β:Type}
theorem OT.want {FF:Operand} {args:List Operand} {ats:Array TypeId} {first cap vs:List Value} {d:Nat} {b:Bool} {m0:Mem} {L0:List Item} {Z:Option β} {g:Unit→Option β}
  (hb:Bk Q (Z=none) m0 L0) (hm:m0≤m) (hL:Hs L0 T) (hZ:Z=(Ck.want b).bind g)
  (ho:o.op = .call ⟨.value FF,⟨args⟩,ats⟩) (hd:o.dst=some d) (hN:Nat.blt d N=true)
  (hF:ev ρ FF=some (.func (.func 61) ⟨first⟩ ⟨cap⟩)) (ha:evs ρ args=some vs) (hall:fl (first++(vs++cap))=some [.bool b])
  (hK:b=true→Z=g ()→K ((d,.tuple ⟨[]⟩)::ρ) m T):OT Tryz.prog N o ρ [] m T Q K:=by
 refine cR ho hd hN hF ha hall goes61 (cE (want_law b m T) ?_ ?_)
 ·rintro _ _ _ ⟨e,rfl,rfl,rfl⟩;exact hK e nK
 ·rintro _ _ _ ⟨e,rfl,rfl,rfl⟩;exact hb _ _ _ nK hm hL
end
theorem ckind_law (k:Int) (m:Mem) (L:List Item):TCall Tryz.prog 184 ⟨[.int .i64 k]⟩ m L (Made m L fun r m'=>∃ h,r=treeV h∧TreeRep m' h (tk k)):=by
 unfold TCall;refine ak Tryz.func184 5 ?_;refine aC tab (fun b=>?_);refine jx ?_;refine aw (L':=L) 0 ⟨cC _,rfl,⟨k,[],0,⟨none,0,0⟩⟩,rfl,dk _ _ _ _⟩
theorem pointer_law (a:Tree) (m:Mem) (L:List Item) (h:HTree) (hr:TreeRep m h a):TCall Tryz.prog 60 ⟨[treeV h]⟩ m L (Made m L fun r m'=>∃ g,r=treeV g∧TreeRep m' g (.mk 5 [] 0 [a])):=by
 unfold TCall;refine ak Tryz.func60 6 ?_;refine oB (fun b=>?_);refine oA tab (fun b2=>?_);refine uL ?_;refine av (hs:=[h]) (l:=[a]) tab rTree ⟨rTree_iff.2 hr,trivial⟩ uH mw (fun sl ma hma hsl _ _=>?_);refine jE ?_;refine aw (L':=L) 0 ⟨hma,rfl,⟨5,[],0,sl⟩,rfl,⟨rfl,rfl,rfl,hsl⟩⟩
theorem cresults_law (a:Tree) (h0:0≤a.num) (h1:a.num≤(a.kids.length:Int)) (m:Mem) (L:List Item) (h:HTree) (hr:TreeRep m h a):TCall Tryz.prog 121 ⟨[treeV h]⟩ m L (fun r m' L'=>m'=m∧L'=L∧∃ s:Sl,r=s.v∧SlRep rTree m s (a.kids.drop a.num.toNat)):=by
 obtain⟨-,-,h3,h4⟩:=hr;have hlen:=h4.len;unfold TCall;refine ak Tryz.func121 8 ?_;refine ay (fun b=>?_);refine qs rfl (OT.cut tab rTree a.num.toNat a.kids.length h4 rfl rfl rfl rfl rfl rfl rfl (.inr (by rw[h3,Int.toNat_of_nonneg h0])) (.inl ⟨rfl,hlen.symm⟩) mv (bF _) (fun s hs=>?_));rw[List.take_length]at hs;refine uA ?_;refine ag ⟨rfl,rfl,s,rfl,hs⟩
theorem multi_law (vs:Nat→Prop) (b:Nat) (x:X) (m:Mem) (L:List Item) (hx:ExAt vs m b x):TCall Tryz.prog 183 ⟨[ptr b]⟩ m L (Ret (.bool x.multi) m L):=by
 obtain⟨txt,kids,var,fn,⟨⟨h,num,how,h1,h2,h3,-,-⟩,-⟩⟩:=hx.eb;unfold TCall;refine ak Tryz.func183 8 ?_
 (first | refine qs rfl (OT.loadA tab h2 rfl rfl rfl rfl rfl ?_) | refine oL tab h2 ?_)
 refine jT ?_
 congr 1
 by_cases e:num = -1
 ·rw[bQ e,h3.1 e]
 ·rw[bR e];cases hm:x.multi with
  | false=>rfl
  | true=>exact absurd (h3.2 hm) e
theorem builtin_law (x:Str) (m:Mem) (L:List Item):TCall Tryz.prog 62 ⟨[strV x]⟩ m L (Made m L fun r m'=>r = .int .i64 (builtinD x)):=by
 unfold TCall;refine ak Tryz.func62 6 ?_;refine av (hs:=[[],[112,114,105,110,116],[112,97,110,105,99],[108,101,110],[97,112,112,101,110,100]]) (l:=[[],[112,114,105,110,116],[112,97,110,105,99],[108,101,110],[97,112,112,101,110,100]]) tab rStr ⟨rfl,rfl,rfl,rfl,rfl,trivial⟩ uH mw (fun sl ma hma hsl _ _=>?_);refine uA ?_;refine au goes116 (index_str _ _ sl _ x hsl) ?_;refine ag (L':=L) ⟨hma,rfl,?_⟩
 congr 1
 unfold builtinD;by_cases h1:x=[112,114,105,110,116]
 ·subst h1;rfl
 by_cases h2:x=[112,97,110,105,99]
 ·subst h2;rfl
 by_cases h3:x=[108,101,110]
 ·subst h3;rfl
 by_cases h4:x=[97,112,112,101,110,100]
 ·subst h4;rfl
 by_cases h5:x=[]
 ·subst h5;rfl
 rw[if_neg h1,if_neg h2,if_neg h3,if_neg h4,if_neg h5];exact idx_not _ _ _ (by simp[h1,h2,h3,h4,h5])
end Go.Sep
namespace Go
abbrev du := @Sep.OT.want
end Go
namespace Go.Sep
theorem tg_mk (k:Int) (n:Str) (u:Int) (ks:List Tree) (h5:k=5∨k=6→ks.length=1) (h7:k=7→0≤u∧u≤(ks.length:Int)) (hk:∀ x∈ks,tg x=true):tg (.mk k n u ks)=true:=by
 rw[tg,tgL_all];simp only[bj,bE,Bool.not_eq_true',Bool.or_eq_false_iff,decide_eq_false_iff_not,bw,bO];refine⟨⟨?_,?_⟩,hk⟩
 ·by_cases h:k=5∨k=6
  ·exact .inr (h5 h)
  ·exact .inl ⟨fun e=>h (.inl e),fun e=>h (.inr e)⟩
 ·by_cases h:k=7
  ·exact .inr (h7 h)
  ·exact .inl h
theorem tg_leaf (k:Int) (n:Str) (u:Int) (h:k<5∨7<k):tg (.mk k n u [])=true:=tg_mk k n u [] (fun e=>by omega) (fun e=>by omega) (fun x hx=>by cases hx)
theorem basic_lt (n:Str):0≤basicOf n∧basicOf n≤3:=by
 unfold basicOf
 repeat' split
 all_goals omega
theorem ofT_tg (a:Tree):okNode a=true→tg a.ofT=true:=by
 induction a using Tree.ind with
 | h a ih =>
 intro h;rw[ofT_eq];unfold okNode at h;rw[bE,bE]at h;have hkid:∀ x∈a.kids,okNode x=true→tg x.ofT=true:=ih;rcases h with h | h | h
 ·rcases isType_facts h with ⟨h1,h2,h3⟩ | ⟨h1,h2,h3⟩ | ⟨h1,h3⟩
  ·rw[if_pos h1];have:=basic_lt a.name;split
   ·exact ja
   ·exact ja
  ·have hl:a.kids.length=1:=by
    rw[isType_eq]at h;rw[if_neg mv,if_pos h1]at h;simp only[bj,bw]at h;exact h.2.2.1
   rw[if_neg mv,if_neg mv];refine tg_mk _ _ _ _ (fun _=>by rw[bN];exact hl) (fun e=>?_) (fun x hx=>?_)
   ·rcases h1 with h1 | h1<;>simp[h1]at e
   ·exact iI
  ·have hl:0≤a.num∧a.num≤(a.kids.length:Int):=by
    rw[isType_eq]at h;rw[if_neg mv,if_neg mv,if_pos h1]at h;simp only[bj,bw]at h;exact⟨h.2.1,h.2.2.1⟩
   rw[if_neg mv,if_neg mv];refine tg_mk _ _ _ _ (fun e=>?_) (fun _=>by rw[bN];exact hl) (fun x hx=>?_)
   ·exact jl
   ·exact iI
 ·have h0:=h;unfold Tree.isParam at h;simp only[bj,bw,bO]at h;rw[if_neg mv,if_pos h.1]
  match hk:a.kids,h.2.2.2.1 with
  | [x],_ =>
   exact hkid x nn (isType_node (h.2.2.2.2 x nn))
 ·have h0:=h;unfold Tree.isSig at h;simp only[bj,bw,bO]at h;rw[if_neg mv,if_neg mv];refine tg_mk _ _ _ _ (fun e=>?_) (fun _=>by rw[bN];exact⟨h.2.2.1,h.2.2.2.1⟩) (fun x hx=>?_)
  ·exact jl
  ·obtain⟨y,hy,rfl⟩:=List.mem_map.1 hx;refine hkid y hy ?_;rw[←co a.num.toNat a.kids]at hy;rcases List.mem_append.1 hy with hy | hy
   ·unfold okNode;rw[h.2.2.2.2.1 y hy];simp
   ·exact isType_node (h.2.2.2.2.2 y hy)
theorem ofRes_tg (a:Tree):tg (ofRes a).1=true:=by
 unfold ofRes;split
 ·rename_i h;exact ofT_tg a (okT_node h)
 ·exact ja
theorem sig_of {a:Tree} (h:a.isSig=true) (h1:a.size+3≤20000) (h2:a.deep+2≤100):(ofRes a).1.kind=7∧(ofRes a).1.num=a.num∧(ofRes a).1.kids.length=a.kids.length∧0≤a.num∧a.num≤(a.kids.length:Int):=by
 have hk:okT a=true:=by
  unfold okT okSig withinB;rw[h];simp only[bE,bj,bw];exact .inr ⟨⟨by omega,by omega⟩,trivial⟩
 unfold Tree.isSig at h;simp only[bj,bw,bO]at h;have e:(ofRes a).1 = .mk 7 [] a.num (a.kids.map Tree.ofT):=by
  rw[ofRes,if_pos hk];show a.ofT=_;rw[ofT_eq,if_neg mv,if_neg mv,if_neg mv,if_neg mv]
 rw[e];exact⟨rfl,rfl,by show(a.kids.map Tree.ofT).length=_;rw[bN],h.2.2.1,h.2.2.2.1⟩
end Go.Sep
namespace Go.Sep
open Go.Proofs Go.Ck
attribute [local irreducible] TC TO OT TCallX TCall DO DOt thenQ blockQ retQ At
theorem bindB {β:Type} (b:Bool) (x:β):(if b=true then some x else none)=(Ck.want b).bind fun _=>some x:=by cases b<;>rfl
theorem mapB {α β:Type} (o:Option α) (f:α→β):o.map f=o.bind fun x=>some (f x):=by cases o<;>rfl
def vTy : Mem→Value→Tree→Prop:=fun m v t=>tg t=true∧∃ h,v=treeV h∧TreeRep m h t
theorem typ_law (E:CE) (c:Nat) (a:Tree) (hB:a.wide≤140737488355328) (m:Mem) (h:HTree) (hr:TreeRep m h a) (hE:E.Tbl m) (hc:At m c 0 [ptr E.p]) :
  Kp Tryz.prog 117 [ptr c,treeV h] m (typC E.tbl a) (fun m v t=>t=(ofRes a).1∧vTy m v t):=by
 refine Kp.enter Tryz.func117 rfl 23 rfl fun T Z hZ=>?_;refine uA ?_;refine oB (fun b3=>?_);refine oA tab (fun b4=>?_);refine uL ?_;refine oC goes38 ((of_own a _ _ h hr hB).x ?_);rintro _ m1 _ ⟨hm1,rfl,x,rfl,hx⟩;refine uA ?_;refine aC tab (fun b5=>?_);refine jx ?_;have hEt:=hE.mono hm1;have hc1:=hc.mono hm1;have hpr:=hEt.prog;refine aU [] df 10 ?_;refine kc ?_;refine ai 3 hc1 ?_;refine lW ?_;refine ai 6 hpr ?_;refine ae (k:=0) 7 0 ?_;refine af 8 (cR rfl rfl rfl rfl rfl rfl goes88 ((tknown_law E.bt E.cc E.es hEt.tr.ok _ _ _ x hx hEt.tb).x ?_));rintro _ _ _ ⟨rfl,rfl,rfl⟩;refine⟨cC _,_,a9 _,?_⟩;refine af 9 ?_;refine du (L0:=T) mH hm1 (Hs.of_sub uS) (hZ.trans (by unfold typC;rw[←hEt.tr.hasF];exact bindB _ _)) rfl rfl rfl rfl rfl rfl (fun e hZ=>?_);refine⟨cC _,_,a9 _,?_⟩;refine aN ?_
 rotate_left 1
 refine cF ?_;refine uL ?_;refine jx ?_;refine aw (L':=T) 1 ⟨_,hZ,hm1,⟨rfl,ofRes_tg a,x,rfl,hx⟩,rfl⟩
theorem place_d (vs:Nat→Prop) (c:Nat) (m:Mem) (d b:Nat) (x:X) (hx:ExD vs m d b x):∀ L,TCall Tryz.prog 158 ⟨[ptr c,ptr b]⟩ m L (Ret (.bool x.place) m L):=by
 induction hx with
 | @leaf d b x txt kids var fn h h8 h9 h4 h2 hp =>
  intro L;obtain⟨⟨g,num,how,-,hA,-⟩,-⟩:=h;unfold TCall;refine ak Tryz.func158 59 ?_;refine ah hA ?_;refine am (fun e4=>?_) (fun e4=>?_)
  ·refine uA ?_;refine ah hA ?_;refine aW (e:=118) ?_;refine jy ?_;rw[(h4 e4).1];cases var<;>rfl
  ·refine uA ?_;refine am (fun e2=>?_) (fun e2=>?_)
   ·refine uA ?_;refine ah hA ?_;refine jy ?_;rw[h2 e2]
   ·refine uA ?_;refine am (fun e8=>?_) (fun e8=>?_)
    ·exact absurd e8 h8
    ·refine uA ?_;refine am (fun e9=>?_) (fun e9=>?_)
     ·exact absurd e9 h9
     ·refine uA ?_;refine jy ?_;rw[hp e4 e2]
 | @sel d b x txt kids var fn k l y h h8 hk hy hp ih =>
  intro L;obtain⟨⟨g,num,how,-,hA,-⟩,-⟩:=h;obtain⟨t2,k2,v2,f2,⟨⟨g2,num2,how2,hr2,hA2,-⟩,-⟩⟩:=hy.eb;have hk2:=hr2.kind;unfold TCall;refine ak Tryz.func158 59 ?_;refine ah hA ?_;refine am (fun e4=>?_) (fun e4=>?_)
  ·omega
  ·refine uA ?_;refine am (fun e2=>?_) (fun e2=>?_)
   ·omega
   ·refine uA ?_;refine am (fun e8=>?_) (fun e8=>absurd h8 e8)
    ·refine uA ?_;refine jY ?_;rintro b' i' h' hrd hAk;obtain rfl:h'=k:=hrd;refine ap tab hAk ?_;refine ah hA2 ?_;refine az (fun e5=>?_) (fun e5=>?_)
     ·refine uA ?_;refine jy ?_;rw[hp,bQ mv];rfl
     ·refine uA ?_;refine jY ?_;rintro b3 i3 h3 hrd hAk3;obtain rfl:h3=h':=hrd;refine ap tab hAk3 ?_;refine au goes158 (ih _) ?_;refine jy ?_;rw[hp,bR mv];rfl
 | @idx d b x txt kids var fn k l y h h9 hk hy hp ih =>
  intro L;obtain⟨⟨g,num,how,-,hA,-⟩,-⟩:=h;obtain⟨t2,k2,v2,f2,⟨⟨g2,num2,how2,hr2,hA2,-⟩,-⟩⟩:=hy.eb;have hk2:=hr2.kind;unfold TCall;refine ak Tryz.func158 59 ?_;refine ah hA ?_;refine am (fun e4=>?_) (fun e4=>?_)
  ·omega
  ·refine uA ?_;refine am (fun e2=>?_) (fun e2=>?_)
   ·omega
   ·refine uA ?_;refine am (fun e8=>?_) (fun e8=>?_)
    ·omega
    ·refine uA ?_;refine am (fun e9=>?_) (fun e9=>absurd h9 e9)
     ·refine uA ?_;refine jY ?_;rintro b' i' h' hrd hAk;obtain rfl:h'=k:=hrd;refine ap tab hAk ?_;refine ah hA2 ?_;refine jy ?_;rw[hp,hk2]
theorem cplace_law (vs:Nat→Prop) (c:Nat) (m:Mem) (L:List Item) (b:Nat) (x:X) (hx:ExAt vs m b x):TCall Tryz.prog 158 ⟨[ptr c,ptr b]⟩ m L (Ret (.bool x.place) m L):=by
 obtain⟨d,hx⟩:=hx;exact place_d vs c m d b x hx L
section
variable {E:CE} {F:CF} {sc:List GS} {w:Nat}
theorem value_ck {n:Tree} {m:Mem} {h:HTree} {ex:Sc→Tree→Option X}
  (hx:KtE Tryz.prog 159 [ptr F.c,treeV h] E F sc w (cst n) m (ex (plain sc) n) (vEx sc)) :
  KtE Tryz.prog 157 [ptr F.c,treeV h] E F sc w (cst n) m (valC ex (plain sc) n) (fun m v x=>x.multi=false∧vEx sc m v x):=by
 refine dt Tryz.func157 rfl 14 rfl fun T L q Z hZ hB=>?_;unfold valC at hZ;refine uA ?_;refine ay (fun b3=>?_);refine qs rfl (OT.ck (L0:=L) [_] q hx hB mH (cC _) (dl _) hZ (bF _) rfl rfl rfl rfl rfl rfl goes159 (fun v m1 x T1 hZ hm _ hV hB=>?_));obtain⟨b,rfl,hX⟩:=hV;refine uA ?_;refine au goes183 (multi_law _ b x _ _ hX) ?_;refine qs rfl (du (b:=!x.multi) (L0:=L) (g:=fun _=>some x) mH hm (dm [_] hB.hs) (hZ.trans (by cases x.multi<;>rfl)) rfl rfl rfl rfl rfl rfl (fun e hZ=>?_));rw[Bool.not_eq_true']at e;refine uA ?_;refine ag (L':=T1) ⟨x,hZ,hm,⟨e,b,rfl,hX⟩,hB⟩
theorem typed_ck {n:Tree} {m:Mem} {h:HTree} {ex:Sc→Tree→Option X} (k:Int)
  (hx:KtE Tryz.prog 159 [ptr F.c,treeV h] E F sc w (cst n) m (ex (plain sc) n) (vEx sc)) :
  KtE Tryz.prog 160 [ptr F.c,treeV h,.int .i64 k] E F sc w (cst n) m (ofC ex k (plain sc) n) (fun m v x=>x.type.kind=k∧x.multi=false∧vEx sc m v x):=by
 refine dt Tryz.func160 rfl 20 rfl fun T L q Z hZ hB=>?_;unfold ofC at hZ;refine uA ?_;refine ay (fun b4=>?_);refine qs rfl (OT.ck (L0:=L) [_] q (value_ck hx) hB mH (cC _) (dl _) hZ (bF _) rfl rfl rfl rfl rfl rfl goes157 (fun v m1 x T1 hZ hm _ hV hB=>?_));obtain⟨hmu,b,rfl,hX⟩:=hV;obtain⟨t2,k2,v2,f2,⟨⟨g2,num2,how2,hr2,hA2,-⟩,-⟩⟩:=hX.eb;refine kI ?_;have hk2:=hr2.kind;refine qs rfl (du (b:=decide (g2.kind=k)) (L0:=L) (g:=fun _=>some x) mH hm (dm [_] hB.hs) (hZ.trans (by by_cases e:x.type.kind=k<;>simp[e,hk2,Ck.want])) rfl rfl rfl rfl rfl rfl (fun e hZ=>?_));have e:=of_decide_eq_true e;refine uA ?_;refine cI rfl (L':=T1) uS ⟨x,hZ,hm,⟨by omega,hmu,b,rfl,hX⟩,hB⟩
end
end Go.Sep
namespace Go.Sep
open Go.Proofs Go.Ck
attribute [local irreducible] TC TO OT TCallX TCall DO DOt thenQ blockQ retQ At
section
variable {E:CE} {F:CF} {sc:List GS} {w:Nat}
theorem take_ck {m:Mem} {b:Nat} {x:X} (hx:ExAt (inV sc) m b x) (hp:x.place=true∨x.kind=45) :
  KtE Tryz.prog 218 [ptr b] E F sc w 0 m (some ()) vUn:=by
 refine dt Tryz.func218 rfl 37 rfl fun T L q Z hZ hB=>?_;obtain⟨d,hx⟩:=hx;refine jS ?_;refine cH (ι:=Nat×Nat×X) [] rfl (fun y=>[(0,ptr y.2.1)]) (fun _=>m) (fun _=>T) (fun y=>ExD (inV sc) m y.1 y.2.1 y.2.2∧(y.2.2.place=true∨y.2.2.kind=45)) (fun y=>y.1) (d,b,x) uH rfl uS ⟨hx,hp⟩ ?_;rintro⟨d,b,x⟩ ⟨hx,hp⟩;simp only at hx hp;cases hx with
 | @leaf d b x txt kids var fn h h8 h9 h4 h2 hpl =>
  obtain⟨⟨g,num,how,-,hA,-⟩,-⟩:=h;refine lV ?_;refine az (fun e8=>?_) (fun e8=>?_)
  ·exact absurd e8 h8
  ·refine uA ?_;refine ah hA ?_;refine am (fun e4=>?_) (fun e4=>?_)
   ·obtain⟨h5,h6⟩:=h4 e4;have h7:x.place=true:=hp.resolve_right mv;rw[h7]at h5;cases var with
    | none=>cases h5
    | some v =>
     refine lV ?_;obtain⟨T',hT⟩:=hB.flag (h6 v rfl);refine cM hT ?_;refine TO.ofRoom fun vs hvs=>?_;obtain⟨v0,v1,rfl⟩:∃ v0 v1,vs=[v0,v1]:=by
      match vs,hvs with
      | [a,b],_=>exact⟨a,b,rfl⟩
     refine qs rfl (OT.storeG (k:=0) (cs:=[.bool true]) tab 0 rfl rfl rfl rfl rfl rfl rfl mx ?_);refine TO.toRoomN 2 rfl ?_;refine aJ (L':=T) hT.symm ?_;exact gc
   ·refine uA ?_;exact gc
 | @sel d b x txt kids var fn k l y h h8 hk hy hpl =>
  obtain⟨⟨g,num,how,-,hA,-⟩,-⟩:=h;obtain⟨t2,k2,v2,f2,⟨⟨g2,num2,how2,hr2,hA2,-⟩,-⟩⟩:=hy.eb;have hk2:=hr2.kind;refine lV ?_;refine az (fun e8=>?_) (fun e8=>?_)
  ·refine uA ?_;refine jY ?_;rintro b' i' h' hrd hAk;obtain rfl:h'=k:=hrd;refine ap tab hAk ?_;refine ah hA2 ?_;refine aY (fun e5=>?_) (fun e5=>?_)
   ·refine uA ?_;refine jY ?_;rintro b3 i3 h3 hrd hAk3;obtain rfl:h3=h':=hrd;refine ap tab hAk3 ?_;exact⟨(d,h3,y),uH,uH,rfl,rfl,uS,⟨hy,.inl (by
     have h7:x.place=true:=hp.resolve_right mv;rw[hpl,bR mv]at h7;exact h7)⟩,by simp only;omega⟩
   ·exact f8
  ·exact absurd h8 e8
 | @idx d b x txt kids var fn k l y h h9 hk hy hpl =>
  obtain⟨⟨g,num,how,-,hA,-⟩,-⟩:=h;refine lV ?_;refine az (fun e8=>?_) (fun e8=>?_)
  ·exfalso;omega
  ·exact f8
theorem pc1 {α:Type} {h1 h2 h3 c9 tk r:α} {T X X' Y1 Y3 L:List α} (hT:T.Perm (h1::h2::h3::(X++(Y1++((c9::tk::Y3)++L))))) (hX:X.Perm (r::X')) :
  T.Perm (c9::tk::r::h1::h2::h3::(X'++(Y1++(Y3++L)))):=(by classical exact List.perm_iff_count.2 (fun pa=>by have pz0:=List.Perm.count_eq hT pa;have pz1:=List.Perm.count_eq hX pa;simp only[List.count_append,List.count_cons]at pz0 pz1 ⊢;omega))
theorem pc2 {α:Type} {h1 h2 h3 c9 tk r:α} {X X' Y1 Y3 L:List α} (hX:X.Perm (r::X')) :
  (c9::tk::r::h1::h2::h3::(X'++(Y1++(Y3++L)))).Perm (h1::h2::h3::(X++((Y1++[c9,tk])++(Y3++L)))):=oh
theorem catch_ck {m:Mem} (hC:CkOk E F sc m) {s:GS} (hs:s∈sc) {v:GV} (hv:v∈s.vs) :
  KtE Tryz.prog 206 [ptr F.c,ptr v.b] E F sc w 1 m (some ()) vUn:=by
 refine dt Tryz.func206 rfl 53 rfl fun T L q Z hZ hB=>?_;have hsc:∀ {sc:List GS},ScAt m F.chain sc→s∈sc→VarAt m v∧v.own∈F.chain:=by
  intro sc
  induction sc with
  | nil=>intro _ h;cases h
  | cons s0 r ih =>
   intro h1 h2;rcases List.mem_cons.1 h2 with rfl | h2
   ·exact⟨(h1.2.1 v hv).1,(h1.2.1 v hv).2.1⟩
   ·exact ih h1.2.2 h2
 obtain⟨⟨hg,hvr,hvA⟩,hown⟩:=hsc hC.sc hs;have hin:inV sc v.b:=⟨s,hs,v,hv,rfl⟩
 have hme:=hC.me;refine uA ?_;refine qs rfl (OT.loadA tab hme rfl rfl rfl rfl rfl ?_);refine jS ?_;refine cH (ι:=List Nat×List Nat×Mem×List Item) [0,1] rfl (fun y=>[(4,ptr (y.2.1.headD F.top))]) (fun y=>y.2.2.1) (fun y=>y.2.2.2) (fun y=>F.lits=y.1++y.2.1∧v.own∈y.2.1++[F.top]∧m≤y.2.2.1∧∃ fs fl X Y1 Y2,SlRep rGF y.2.2.1 fs fl∧Own fs∧fl.length+(q+1)≤lim40∧ScI sc X∧ChI y.2.2.1 q y.1 Y1∧ChI y.2.2.1 (q+1) y.2.1 Y2∧y.2.2.2.Perm (.cells F.c 3 [scP sc,.int .i64 (w:Int)]::.cells E.p 2 [fs.v]::tok fs 1::(X++(Y1++(Y2++L))))) (fun y=>y.2.1.length) ([],F.lits,m,T) uH rfl uS ⟨rfl,hown,cC _,(by obtain⟨fs,fl,X,Y,h1,h2,h3,h4,h5,h6⟩:=hB;exact⟨fs,fl,X,[],Y,h1,h2,h3,h4,rfl,h5,h6⟩)⟩ ?_;rintro⟨pre,rest,m1,T1⟩ ⟨hl,hw,hm,fs,fl,X,Y1,Y2,h1,h2,h3,h4,h5,h6,h7⟩;simp only at hl hw hm h1 h2 h3 h4 h5 h6 h7;have hvA1:=hvA.mono hm;cases rest with
 | nil =>
  have e:v.own=F.top:=by simpa using hw
  refine uA ?_;refine qs rfl (OT.loadA tab hvA1 rfl rfl rfl rfl rfl ?_);refine qs rfl (OT.ptrNe2 tab 114 rfl rfl rfl rfl rfl rfl rfl (fun hne=>absurd e.symm hne) ?_);refine uA ?_;refine aY (fun e2=>?_) (fun e2=>?_)
  ·exact absurd e.symm e2
  ·refine uA ?_;refine cJ rfl (L':=T1) (bZ _) ⟨(),hZ,hm,rfl,fs,fl,X,Y1,h1,h2,by omega,h4,?_,?_⟩
   ·rw[hl,ce];exact h5
   ·rw[show Y2=[] from h6]at h7;simpa using h7
 | cons f r =>
  obtain⟨s9,l9,Y3,g1,g2,g3,g4,g5,rfl⟩:=h6;obtain⟨X',hX⟩:=h4.flag hin;have hT:=pc1 h7 hX;have hch:ChainAt m1 (f::r++[F.top]):=by
   have:=hC.chain.mono hm;unfold CF.chain at this;rw[hl,bo]at this;exact this.drop
  obtain⟨vo,hvo⟩:=hch.known hw;refine uA ?_;refine qs rfl (OT.loadA tab hvA1 rfl rfl rfl rfl rfl ?_);refine qs rfl (OT.ptrNe2 tab 114 rfl rfl rfl rfl rfl rfl rfl (fun hne w hst=>.inl (hst.apart1 hT (Nat.zero_lt_succ _) rfl hvo)) ?_);refine uA ?_;refine aY (fun e2=>?_) (fun e2=>?_)
  ·refine aI hT ?_;refine cM (L':=.room v.b 6 2::.cells f 9 [s9.v]::tok s9 1::(.cells F.c 3 [scP sc,.int .i64 (w:Int)]::.cells E.p 2 [fs.v]::tok fs 1::(X'++(Y1++(Y3++L))))) nr ?_;refine TO.ofRoom fun vs hvs=>?_;obtain⟨v0,v1,rfl⟩:∃ v0 v1,vs=[v0,v1]:=by
    match vs,hvs with
    | [a,b],_=>exact⟨a,b,rfl⟩
   refine qs rfl (OT.storeG (k:=1) (cs:=[.bool true]) tab 0 rfl rfl rfl rfl rfl rfl rfl mx ?_);refine TO.toRoomN 2 rfl ?_;generalize hG:(Item.cells F.c 3 [scP sc,.int .i64 (w:Int)]::.cells E.p 2 [fs.v]::tok fs 1::(X'++(Y1++(Y3++L))))=G;refine cM (L':=.cells f 9 [s9.v]::tok s9 1::.room v.b 6 2::G) mJ ?_;refine uA ?_;refine qs rfl (OT.loadL (k:=0) tab 0 rfl rfl rfl rfl rfl rfl ?_);refine jS ?_;refine cH (ι:=Nat×Bool) [0,1,4,28,29] rfl (fun y=>[(30,.int .i64 (y.1:Int)),(5,.bool y.2)]) (fun _=>m1) (fun _=>.cells f 9 [s9.v]::tok s9 1::.room v.b 6 2::G) (fun y=>y.1≤l9.length) (fun y=>l9.length-y.1) (0,false) uH rfl uS (cn _) ?_;rintro⟨k,kn⟩ hk;simp only at hk;have hlen:=g1.len;have hsm:=g1.small rfl;refine uA ?_;refine am (fun hlt=>?_) (fun hlt=>?_)
   ·have hlt':k<l9.length:=mv;have hx:l9[k]? = some l9[k]:=mL;refine uA ?_;refine ar tab rPtr k g1 uH mD rfl hx ?_;rintro b' i' h' hrd hAk;obtain rfl:h'=l9[k]:=hrd;refine ap tab hAk ?_;refine aE (b:=kn) (fun e3=>?_) (fun e3=>?_)
    ·refine uA ?_;refine jA ?_;exact⟨(k+1,true),uH,uH,rfl,rfl,uS,by simp only;omega,by simp only;omega⟩
    ·obtain⟨vw,hvw⟩:=g4 _ (bL hlt');refine uA ?_;refine qs rfl (OT.ptrEq2 tab 118 rfl rfl rfl rfl rfl rfl rfl (fun hne w hst=>.inr (hst.apart1 (x:=.room v.b 6 2) (L':=.cells f 9 [s9.v]::tok s9 1::G) mJ (Nat.zero_lt_succ _) rfl hvw)) ?_);refine lQ ?_;exact⟨(k+1,decide (l9[k]=v.b)),uH,uH,rfl,rfl,uS,by simp only;omega,by simp only;omega⟩
   ·have hout:At m1 f 8 [ptr ((r++[F.top]).headD F.top)]:=hch.2.1 _ (by cases r<;>rfl);have hhd:(r++[F.top]).headD F.top=r.headD F.top:=by cases r<;>rfl
    rw[hhd]at hout;have hvo':v.own∈r++[F.top]:=by
     rcases List.mem_cons.1 hw with h | h
     ·exact absurd h.symm e2
     ·exact h
    refine uA ?_;refine aO (t:=!kn) (fun e3=>?_) (fun e3=>?_)
    ·refine uA ?_;refine al (k:=0) 0 ?_;refine av (hs:=[v.b]) (l:=[v.b]) tab rPtr ⟨rfl,trivial⟩ uH mw (fun sl ma hma hsl _ _=>?_);refine uA ?_;refine qs rfl (cU tab rPtr 1 (g1.mono hma) g2 hsl rfl rfl rfl rfl rfl rfl rfl (by simp only[a7,a8,rPtr,lim40]at g3 ⊢;omega) (fun s' mC hleC hs' ho'=>?_));have hmm:=cD hma hleC;refine uA ?_;refine aj (k:=0) 0 ?_;have hout':=hout.mono hmm;refine ap tab hout' ?_;exact⟨(pre++[f],r,mC,_),uH,uH,rfl,rfl,bZ _,⟨by rw[hl];simp,hvo',cD hm hmm,fs,fl,X,Y1++[.cells f 9 [s'.v],tok s' 1],Y3,h1.mono hmm,h2,h3,h4,
      (h5.mono hmm (bF _)).join ⟨s',_,[],hs',ho',by simp only[a6,a7,a8];omega,(fun x hx=>by
       rcases List.mem_append.1 hx with hx | hx
       ·obtain⟨u,hu⟩:=g4 x hx;exact⟨u,hmm.c _ _ _ hu⟩
       ·rw[List.mem_singleton.1 hx];exact⟨_,hmm.c _ _ _ hvA1.c0⟩),rfl,rfl⟩,g5.mono hmm (bF _),by rw[←hG];exact pc2 hX⟩,by simp only[a7];omega⟩
    ·refine uA ?_;refine ap tab hout ?_;exact⟨(pre++[f],r,m1,_),uH,uH,rfl,rfl,bZ _,⟨by rw[hl];simp,hvo',hm,fs,fl,X,Y1++[.cells f 9 [s9.v],tok s9 1],Y3,h1,h2,h3,h4,
      h5.join ⟨s9,_,[],g1,g2,by omega,g4,rfl,rfl⟩,g5,by rw[←hG];exact pc2 hX⟩,by simp only[a7];omega⟩
  ·have e3:f=v.own:=e2;refine uA ?_;refine cJ rfl (L':=T1) (bZ _) ⟨(),hZ,hm,rfl,fs,fl,X,Y1++(.cells f 9 [s9.v]::tok s9 1::Y3),h1,h2,by omega,h4,?_,?_⟩
   ·rw[hl];exact h5.join ⟨s9,l9,Y3,g1,g2,by omega,g4,g5.mono (cC _) (Nat.le_succ _),rfl⟩
   ·simpa using h7
end
end Go.Sep
namespace Go.Sep
open Go.Proofs Go.Ck
attribute [local irreducible] TC TO OT TCallX TCall DO DOt thenQ blockQ retQ At
section
variable {E:CE} {F:CF} {sc:List GS} {w:Nat}
theorem look_ck {m:Mem} (hC:CkOk E F sc m) (x:Str) :
  KtE Tryz.prog 185 [ptr F.c,strV x] E F sc w 1 m (some (lookG sc x)) (fun m v o=>v=ptrO (o.map GV.b)∧o=lookG sc x):=by
 refine dt Tryz.func185 rfl 29 rfl fun T L q Z hZ hB=>?_;obtain⟨T1,hT1,-⟩:=hB.head;refine uA ?_;refine cM hT1 ?_;refine aP (k:=0) 0 ?_;refine cM (L':=T) hT1.symm ?_;refine jS ?_;refine cH (ι:=List GS×List GS) [0,1] rfl (fun y=>[(5,scP y.2)]) (fun _=>m) (fun _=>T) (fun y=>sc=y.1++y.2∧lookG sc x=lookG y.2 x) (fun y=>y.2.length) ([],sc) uH rfl uS ⟨rfl,rfl⟩ ?_;rintro⟨p,r⟩ ⟨hsc,hlk⟩;simp only at hsc hlk;cases r with
 | nil =>
  refine uA ?_;refine aW (e:=159) ?_;refine cI rfl (L':=T) (bZ _) ⟨_,hZ,cC _,⟨(by rw[hlk];rfl),rfl⟩,hB.mono (cC _) (Nat.le_succ _)⟩
 | cons s r =>
  have hsA:At m s.sb 0 [.map (some s.mb),scP r]:=by
   have:=hC.sc;rw[hsc]at this;exact this.at_
  obtain⟨es,c,T2,hes,hT2⟩:=hB.map hsc;refine uA ?_;refine aW (e:=159) ?_;refine ah hsA ?_;refine cM hT2 ?_;refine qs rfl (OT.lookup0 tab kStr 0 x rfl rfl rfl rfl rfl rfl rfl rfl ?_);refine cM (L':=T) hT2.symm ?_;cases hg:getV s.vs x with
  | none =>
   refine TO.conv (v':=.pointer none) ?_ nL;refine uA ?_;refine aW (e:=118) ?_;refine ah hsA ?_;exact⟨(p++[s],r),uH,uH,rfl,rfl,bZ _,⟨by rw[hsc];simp,by rw[hlk];unfold lookG;rw[List.findSome?_cons,hg]⟩,by simp only[a7];omega⟩
  | some v =>
   have hv:lookG sc x=some v:=by rw[hlk];unfold lookG;rw[List.findSome?_cons,hg]
   have hs:s∈sc:=by rw[hsc];simp
   refine TO.conv (v':=ptr v.b) ?_ nL;refine uA ?_;refine aW (e:=118) ?_;refine qs rfl (OT.ck (L0:=L) [] q (catch_ck hC hs (List.mem_of_find?_eq_some hg)) hB my (cC _) (dl _) (g:=fun _=>Z) rfl (bF _) rfl rfl rfl rfl rfl rfl goes206 (fun vv m1 _ T1 hZ' hm _ hV hB=>?_));refine uA ?_;refine cI rfl (L':=T1) (bZ _) ⟨_,hZ,hm,⟨(by rw[hv];rfl),rfl⟩,hB⟩
theorem declare_ck {m:Mem} {s:GS} {r:List GS} (hC:CkOk E F (s::r) m) (x:Str) {h:HTree} {t:Tree} (hr:TreeRep m h t) (ht:tg t=true) :
  KtS Tryz.prog 155 [ptr F.c,strV x,treeV h] E F s r w 0 m (Ck.declC (plain (s::r)) x t) (fun m v=>∃ b,v=ptr b):=by
 refine KtS.enter Tryz.func155 rfl 42 rfl fun T L q Z hZ hB=>?_;have hk:=hr.kind;have hZ':Z=(Ck.want ((getV s.vs x).isNone&&!decide (t.kind=8))).bind fun _=>some (((x,t)::s.names)::plain r):=by
  rw[hZ];show(if (getN s.names x).isSome||decide (t.kind=8)then none else some (((x,t)::s.names)::plain r))=_;rw[GS.names,getV_names];cases getV s.vs x<;>cases decide (t.kind=8)<;>rfl
 have hme:=hC.me;have hsA:At m s.sb 0 [.map (some s.mb),scP r]:=hC.sc.1;obtain⟨es,c,T1,hes,hT1,hnew⟩:=hB.decl;have hHs:Hs L (.cells F.c 3 [ptr s.sb,.int .i64 (w:Int)]::.obj s.mb (mapO kStr es c)::T1):=hB.hs.perm hT1.symm;refine aI hT1 ?_;refine oB (fun b5=>?_);refine uA ?_;refine al (k:=0) 1 ?_;refine ah hsA ?_;refine qs rfl (OT.lookup0 tab kStr 2 x rfl rfl rfl rfl rfl rfl rfl rfl ?_);cases hg:getV s.vs x with
 | some v =>
  refine TO.conv (v':=ptr v.b) ?_ nL;refine kB ?_;refine uA ?_;refine qs rfl (du (b:=false) (L0:=L) (g:=fun _=>Z) mH (cC _) (hHs.cons _) (by rw[hZ',hg];rfl) rfl rfl rfl rfl rfl rfl (fun e hZ=>by cases e))
 | none =>
  refine TO.conv (v':=.pointer none) ?_ nL;rw[hg]at hZ';refine kB ?_;refine uL ?_;refine qs rfl (du (b:=!decide (h.kind=8)) (L0:=L) mH (cC _) (hHs.cons _) (by rw[hZ',hk];rfl) rfl rfl rfl rfl rfl rfl (fun e hZ=>?_));refine uA ?_;refine aU [] df 9 ?_;refine kM ?_;refine ae (k:=0) 1 0 ?_;refine cV tab uC uK [2,3,4] uK rfl ?_;refine ai 5 hme ?_;refine cV tab uC uK [6] uK rfl ?_;refine af 7 ?_;refine OT.box rfl rfl rfl rfl rfl (fun b=>?_);refine⟨cC _,_,da,?_⟩;refine cV tab uC uK [8] uK rfl ?_;refine aV ?_
  rotate_left 1
  refine cF ?_;refine TC.perm perm_first ?_;refine TC.splitC (b:=b) [strV x,.int .i64 h.kind,strV h.name,.int .i64 h.num,h.kids.v,ptr F.fn] [.bool false,.bool false] ?_;refine TC.freeze fun m2 hm2 hAv=>?_;refine TC.toRoom ?_;have hsA2:=hsA.mono hm2;refine uA ?_;refine al (k:=0) 2 ?_;refine ah hsA2 ?_;refine qs rfl (OT.mapSet tab kStr 3 x rfl rfl rfl rfl rfl rfl rfl ?_);refine uA ?_;have hB2:=hnew ⟨b,x,t,F.fn⟩ _ (mclock es x c) m2 hm2 (show MapV (mset es x (ptr b) c) (⟨b,x,t,F.fn⟩::s.vs) from fun n=>by
   rw[mget_mset];unfold getV;rw[List.find?_cons];by_cases hxn:x=n
   ·rw[if_pos hxn,bQ hxn];rfl
   ·rw[if_neg hxn,bR hxn];exact hes n)
  have hfn:F.fn∈F.chain:=by
   unfold CF.fn CF.chain;cases F.lits<;>simp
  refine ag ⟨_,hZ,hm2,⟨b,x,t,F.fn⟩::s.vs,rfl,?_,⟨b,rfl⟩,hB2⟩;exact⟨hsA2,fun v hv=>by
   rcases List.mem_cons.1 hv with rfl | hv
   ·exact⟨⟨h,hr.mono hm2,hAv⟩,hfn,ht⟩
   ·exact⟨(hC.sc.2.1 v hv).1.mono hm2,(hC.sc.2.1 v hv).2⟩,hC.sc.2.2.mono hm2⟩
end
end Go.Sep
namespace Go.Sep
open Go.Proofs Go.Ck
attribute [local irreducible] TC TO OT TCallX TCall DO DOt thenQ blockQ retQ At
def ExOk (E:CE) (ex:Sc→Tree→Option X) (n:Tree):Prop:=∀(F:CF) (sc:List GS) (w:Nat) (m:Mem) (h:HTree),TreeRep m h n→CkOk E F sc m →
 KtE Tryz.prog 159 [ptr F.c,treeV h] E F sc w (cst n) m (ex (plain sc) n) (vEx sc)
theorem mapM_cons' {α β:Type} (f:α→Option β) (a:α) (l:List α):(a::l).mapM f=(f a).bind fun b=>(l.mapM f).bind fun bs=>some (b::bs):=by
 rw[List.mapM_cons];cases f a with
 | none=>rfl
 | some b=>cases List.mapM f l<;>rfl
def vVals (l:List Tree) (k:Nat):Mem→Value→List Tree→Prop:=fun m v ts=>ts.length=k∧∃(s1 s2:Sl) (xs:List Nat),v = .tuple ⟨[s1.v,s2.v]⟩∧SlRep rPtr m s1 xs∧xs.length≤l.length∧SlRep rTree m s2 ts∧∀ t∈ts,tg t=true
section
variable {E:CE} {F:CF} {sc:List GS} {w:Nat} {ex:Sc→Tree→Option X}
theorem values_ck {m:Mem} (hC:CkOk E F sc m) {sl:Sl} {l:List Tree} (hS:SlRep rTree m sl l) (hex:∀ n∈l,ExOk E ex n) (k:Nat) :
  KtE Tryz.prog 156 [ptr F.c,sl.v,.int .i64 (k:Int)] E F sc w (cstL l) m (valuesC ex (plain sc) l k) (vVals l k):=by
 refine dt Tryz.func156 rfl 89 rfl fun T L q Z hZ hB=>?_;unfold valuesC at hZ;have hlen:=hS.len;have hsm:=hS.small rfl;have hfit:sl.len*56≤140737488355328:=hS.fit;refine uA ?_;refine az (fun e1=>?_) (fun e1=>?_)
 ·have e1:l.length=1:=mv;refine uA ?_;refine am (fun e2=>?_) (fun e2=>?_)
  ·have e2:1<k:=mv;rw[if_pos ⟨e1,e2⟩]at hZ
   match l,e1,hS,hex,hB,hlen,hZ with
   | [n],_,hS,hex,hB,hlen,hZ =>
    refine j0 ?_;rintro b' i' h' hrd hA;refine jV ?_;refine qs rfl (OT.ck (L0:=L) [] q (hex n mx F sc w m h' (rTree_iff.1 hrd) hC) hB mH (cC _) (dl _) hZ nt rfl rfl rfl rfl rfl rfl goes159 (fun v m1 x T1 hZ hm _ hV hB=>?_));obtain⟨b,rfl,hX⟩:=hV;obtain⟨t2,k2,v2,f2,⟨⟨g2,num2,how2,hr2,hA2,-⟩,hg2⟩⟩:=hX.eb;have hk2:=hr2.kind;have hkl:=hr2.kids.len;refine kI ?_;refine az (fun e3=>?_) (fun e3=>?_)
    ·refine uA ?_;refine ah hA2 ?_;refine az (fun e4=>?_) (fun e4=>?_)
     ·refine uA ?_;refine au goes183 (multi_law _ b x _ _ hX) ?_;refine aE (b:=x.multi) (fun e5=>?_) (fun e5=>?_)
      ·refine uA ?_;refine ah (k:=4) hA2 ?_;refine qs rfl (du (b:=decide ((g2.kids.len:Int)=(k:Int))) (L0:=L) (g:=fun _=>some x.type.kids) mH hm hB.hs (hZ.trans ?_) rfl rfl rfl rfl rfl rfl (fun e hZ=>?_))
       ·by_cases e6:x.type.kids.length=k
        ·rw[if_pos ⟨e3,by omega,e5,e6⟩,bQ mv];rfl
        ·rw[if_neg (fun h=>e6 h.2.2.2),bR mv];rfl
       ·have e6:g2.kids.len=k:=mW;refine uA ?_;refine aU [] df 9 ?_;refine cV tab uC uK [0,2,3,4,5] uK rfl ?_;refine ai (k:=4) 6 hA2 ?_;refine af 1 ?_;refine de tab rPtr (hs:=[b]) (l:=[b]) ⟨rfl,trivial⟩ rfl rfl rfl rfl rfl mw (fun sB mB hmB hsB _ _=>?_);refine⟨hmB,_,a9 _,?_⟩;refine cV tab uC uK [7,8] uK rfl ?_;refine aN ?_
        rotate_left 1
        refine aR ?_;refine cI rfl uS ⟨_,hZ,cD hm hmB,⟨by omega,sB,g2.kids,[b],rfl,hsB,by simp,hr2.kids.mono hmB,fun t ht=>tg_kid hg2 ht⟩,hB.mono hmB (bF _)⟩
      ·refine uA ?_;refine qs rfl (du (b:=false) (L0:=L) (g:=fun _=>Z) mH hm hB.hs (hZ.trans (by rw[if_neg (fun h=>by rw[e5]at h;cases h.2.2.1)];rfl)) rfl rfl rfl rfl rfl rfl (fun e hZ=>by cases e))
     ·refine uA ?_;refine qs rfl (du (b:=false) (L0:=L) (g:=fun _=>Z) mH hm hB.hs (hZ.trans (by rw[if_neg (fun h=>e4 mv)];rfl)) rfl rfl rfl rfl rfl rfl (fun e hZ=>by cases e))
    ·refine uA ?_;refine qs rfl (du (b:=false) (L0:=L) (g:=fun _=>Z) mH hm hB.hs (hZ.trans (by rw[if_neg (fun h=>e3 mv)];rfl)) rfl rfl rfl rfl rfl rfl (fun e hZ=>by cases e))
  ·have e2:¬1<k:=mv;rw[if_neg (fun h=>e2 h.2)]at hZ;refine uA ?_;refine qs rfl (du (b:=decide ((sl.len:Int)=(k:Int))) (L0:=L) (g:=fun _=>l.mapM fun n=>(valC ex (plain sc) n).map X.type) mH (cC _) hB.hs (hZ.trans (by
    by_cases e6:l.length=k
    ·rw[if_pos e6,bQ mv];rfl
    ·rw[if_neg e6,bR mv];rfl)) rfl rfl rfl rfl rfl rfl (fun e hZ=>?_))
   have e6:l.length=k:=mW;clear e;refine jB ?_;rintro⟨i,s1,s2,xs,ts,m1,T1⟩ ⟨hi,hm,hs1,ho1,hx1,hs2,ho2,hx2,htg,hB,hZ⟩;simp only at hi hm hs1 ho1 hx1 hs2 ho2 hx2 htg hB hZ;refine uA ?_;refine am (fun hlt=>?_) (fun hlt=>?_)
   ·have hlt':i<l.length:=mv;have hx:l[i]? = some l[i]:=mL;rw[bU hlt',mapM_cons']at hZ;rw[cstL_drop hx]at hB;have hS1:=hS.mono hm;refine l8 ?_;rintro b' i' h' hrd hA;refine jV ?_;refine aC tab (fun b12=>?_);refine jK ?_;refine qs rfl (OT.ck (L0:=L) [_,_,_] (q+cstL (l.drop (i+1))) (value_ck (hex _ (bL hlt') F sc w m1 h' (rTree_iff.1 hrd) (hC.mono hm))) hB my hm (dl _) (g:=fun x=>((l.drop (i+1)).mapM fun n=>(valC ex (plain sc) n).map X.type).bind fun r=>some (ts++[x.type]++r)) (hZ.trans (by
     cases valC ex (plain sc) l[i]with
     | none=>rfl
     | some x =>
      show Option.bind (Option.bind (some x.type) _) _=_;refine lj ?_;cases List.mapM (fun n=>(valC ex (plain sc) n).map X.type) (l.drop (i+1))with
      | none=>rfl
      | some r=>simp)) mv rfl rfl rfl rfl rfl rfl goes157 (fun v m2 x T2 hZ hm2 hm' hV hB=>?_))
    exact dI
   ·exact fD
 ·have e1:¬l.length=1:=mv;rw[if_neg (fun h=>e1 h.1)]at hZ;refine uA ?_;refine qs rfl (du (b:=decide ((sl.len:Int)=(k:Int))) (L0:=L) (g:=fun _=>l.mapM fun n=>(valC ex (plain sc) n).map X.type) mH (cC _) hB.hs (hZ.trans (by
   by_cases e6:l.length=k
   ·rw[if_pos e6,bQ mv];rfl
   ·rw[if_neg e6,bR mv];rfl)) rfl rfl rfl rfl rfl rfl (fun e hZ=>?_))
  have e6:l.length=k:=mW;clear e;refine jB ?_;rintro⟨i,s1,s2,xs,ts,m1,T1⟩ ⟨hi,hm,hs1,ho1,hx1,hs2,ho2,hx2,htg,hB,hZ⟩;simp only at hi hm hs1 ho1 hx1 hs2 ho2 hx2 htg hB hZ;refine uA ?_;refine am (fun hlt=>?_) (fun hlt=>?_)
  ·have hlt':i<l.length:=mv;have hx:l[i]? = some l[i]:=mL;rw[bU hlt',mapM_cons']at hZ;rw[cstL_drop hx]at hB;have hS1:=hS.mono hm;refine l8 ?_;rintro b' i' h' hrd hA;refine jV ?_;refine aC tab (fun b12=>?_);refine jK ?_;refine qs rfl (OT.ck (L0:=L) [_,_,_] (q+cstL (l.drop (i+1))) (value_ck (hex _ (bL hlt') F sc w m1 h' (rTree_iff.1 hrd) (hC.mono hm))) hB my hm (dl _) (g:=fun x=>((l.drop (i+1)).mapM fun n=>(valC ex (plain sc) n).map X.type).bind fun r=>some (ts++[x.type]++r)) (hZ.trans (by
    cases valC ex (plain sc) l[i]with
    | none=>rfl
    | some x =>
     show Option.bind (Option.bind (some x.type) _) _=_;refine lj ?_;cases List.mapM (fun n=>(valC ex (plain sc) n).map X.type) (l.drop (i+1))with
     | none=>rfl
     | some r=>simp)) mv rfl rfl rfl rfl rfl rfl goes157 (fun v m2 x T2 hZ hm2 hm' hV hB=>?_))
   exact dI
  ·exact fD
theorem want_and (a b:Bool):Ck.want (a&&b)=(Ck.want a).bind fun _=>Ck.want b:=by cases a<;>rfl
def vOut (l:List Tree):Mem→Value→Unit→Prop:=fun m v _=>∃(s:Sl) (xs:List Nat),v=s.v∧SlRep rPtr m s xs∧xs.length≤l.length
theorem assign_ck {m:Mem} (hC:CkOk E F sc m) {sl st:Sl} {l to:List Tree} (hS:SlRep rTree m sl l) (hex:∀ n∈l,ExOk E ex n) (hT:SlRep rTree m st to) :
  KtE Tryz.prog 154 [ptr F.c,sl.v,st.v] E F sc w (cstL l) m (assignC E.tbl ex (plain sc) l to) (vOut l):=by
 refine dt Tryz.func154 rfl 42 rfl fun T L q Z hZ hB=>?_;unfold assignC at hZ;have hlen:=hT.len;refine uA ?_;refine qs rfl (OT.ck (L0:=L) [] q ((by rw[hlen];exact values_ck hC hS hex to.length):KtE Tryz.prog 156 [ptr F.c,sl.v,.int .i64 (st.len:Int)] E F sc w (cstL l) m (valuesC ex (plain sc) l to.length) (vVals l to.length)) hB mH (cC _) (dl _) hZ (bF _) rfl rfl rfl rfl rfl rfl goes156 (fun v m1 ts T1 hZ hm _ hV hB=>?_));obtain⟨hts,s1,s2,xs,rfl,hs1,hxs,hs2,htg⟩:=hV;have hlen2:=hs2.len;have hsm2:=hs2.small rfl;refine jS ?_;replace hT:=hT.mono hm;replace hC:=hC.mono hm;have hme:=hC.me;have hpr:=hC.tbl.prog;refine cH (ι:=Nat) [0,2,7,8,19,20] rfl (fun i=>[(21,.int .i64 (i:Int))]) (fun _=>m1) (fun _=>T1) (fun i=>i≤ts.length∧Z=Ck.want (((ts.drop i).zip (to.drop i)).all fun p=>tassignB E.tbl p.1 p.2)) (fun i=>ts.length-i) 0 uH rfl uS ⟨cn _,by rw[cB,cB];exact hZ⟩ ?_;rintro i ⟨hi,hZ⟩;refine uA ?_;refine am (fun hlt=>?_) (fun hlt=>?_)
 ·have hlt':i<ts.length:=mv;have hlt2:i<to.length:=mv;have hx:ts[i]? = some ts[i]:=mL;have hx2:to[i]? = some to[i]:=ni;rw[bU hlt',bU hlt2,List.zip_cons_cons,cr,want_and]at hZ;refine uA ?_;refine ar tab rTree i hs2 uH mD rfl hx ?_;rintro b' i' h' hrd hA;refine jV ?_;refine aC tab (fun b10=>?_);refine jx ?_;refine aU [] df 14 ?_;refine kc ?_;refine ai 3 hme ?_;refine lW ?_;refine ai 6 hpr ?_;refine ae (k:=0) 7 0 ?_;refine jW ?_;refine DO.index tab rTree 10 i hT uC uK uK rfl rfl rfl rfl rfl rfl rfl mR rfl hx2 ?_;rintro b3 i3 h3 hrd3 hA3;refine ai (k:=0) 11 hA3 ?_;refine af 12 (cR rfl rfl rfl rfl rfl rfl goes182 ((tassign_law ts[i] to[i] (fun e=>tg_one (htg _ (bL hlt')) (.inl e)) E.bt E.cc E.es E.tbl _ _ h' h3 (rTree_iff.1 hrd) (rTree_iff.1 hrd3) hC.tbl.tb hC.tbl.tr).x ?_));rintro _ _ _ ⟨rfl,rfl,rfl⟩;refine⟨cC _,_,a9 _,?_⟩;refine af 13 ?_;refine du (L0:=L) my hm (Hs.nil (hB.hs.cons _)) hZ rfl rfl rfl rfl rfl rfl (fun e hZ=>?_);refine⟨cC _,_,a9 _,?_⟩;refine aN ?_
  rotate_left 1
  refine kh ?_;exact⟨i+1,uH,uH,rfl,rfl,uS,⟨by omega,hZ⟩,by omega⟩
 ·have hi':i=ts.length:=mv;subst hi';rw[List.drop_length]at hZ;refine uA ?_;refine ag (L':=T1) ⟨(),hZ,hm,⟨s1,xs,rfl,hs1,hxs⟩,hB⟩
end
end Go.Sep
namespace Go.Sep
open Go.Proofs Go.Ck
attribute [local irreducible] TC TO OT TCallX TCall DO DOt thenQ blockQ retQ At
@[reducible] def zH : HTree:=⟨0,[],0,⟨none,0,0⟩⟩
@[reducible] def nilS : Sl:=⟨none,0,0⟩
section
variable {E:CE} {F:CF} {sc:List GS} {w:Nat} {ex:Sc→Tree→Option X}
theorem unary_ck {m:Mem} (hC:CkOk E F sc m) {n y:Tree} {h:HTree} (hr:TreeRep m h n) (hk:n.kids=[y]) (hy:ExOk E ex y) (hnum:0≤n.num) (b:Nat) :
  KtX Tryz.prog 210 [ptr F.c,ptr b,treeV h] E F sc w (cst y) m b (exC 52 zH n.name n.num nilS 0 none none) (unaryC ex (plain sc) n):=by
 refine KtX.enter Tryz.func210 rfl 85 rfl fun T L q Z hZ hB=>?_;unfold unaryC at hZ;have hkid:kid n 0=y:=na;rw[hkid]at hZ;obtain⟨hr1,hr2,hr3,hr4⟩:=hr;rw[hk]at hr4;refine uA ?_;refine ay (fun b5=>?_);refine jI ?_;rintro b' i' h' hrd hA;refine jV ?_;refine qs rfl (OT.ck (L0:=L) [_,_] q (value_ck (hy F sc w m h' (rTree_iff.1 hrd) hC)) hB mH (cC _) (dl _) hZ (bF _) rfl rfl rfl rfl rfl rfl goes157 (fun v m1 k T1 hZ hm _ hV hB=>?_));obtain⟨-,bk,rfl,hX⟩:=hV;obtain⟨t2,k2,v2,f2,⟨⟨g2,num2,how2,hr5,hA2,-⟩,hg2⟩⟩:=hX.eb;have hk2:=hr5.kind;refine uA ?_;refine av (hs:=[bk]) (l:=[bk]) tab rPtr ⟨rfl,trivial⟩ uH mw (fun sA m2 hm2 hsA _ _=>?_);replace hX:=hX.mono hm2;replace hr5:=hr5.mono hm2;replace hA2:=hA2.mono hm2;replace hB:=hB.mono hm2 (bF _);replace hm:=cD hm hm2;refine kI ?_;refine jx ?_;refine jK ?_;rw[hr2];refine uA ?_;rw[←hk2]at hZ;refine am (fun e1=>?_) (fun e1=>?_)
 ·rw[if_pos e1]at hZ;refine kI ?_;refine qs rfl (du (L0:=L) mN hm (dm [_,_] hB.hs) (hZ.trans (mapB _ _)) rfl rfl rfl rfl rfl rfl (fun e hZ=>?_));refine uA ?_;refine cJ rfl (L':=.cells b 0 (exC 52 g2 n.name n.num sA 0 none none)::T1) uS ⟨_,_,T1,hZ,hm,dr (x:=⟨52,k.type,false,0,false⟩) hr5 hg2 ⟨fun e=>by omega,fun e=>by cases e⟩ mx mx mx mx mx (fun _=>by simp only[e1];rfl) (fun _ _=>rfl),rfl,hB⟩
 ·rw[if_neg e1]at hZ;refine uA ?_;refine am (fun e2=>?_) (fun e2=>?_)
  ·rw[if_pos e2]at hZ;refine kI ?_;refine qs rfl (du (L0:=L) mN hm (dm [_,_] hB.hs) (hZ.trans (mapB _ _)) rfl rfl rfl rfl rfl rfl (fun e hZ=>?_));refine uA ?_;refine cJ rfl (L':=.cells b 0 (exC 52 g2 n.name n.num sA 0 none none)::T1) uS ⟨_,_,T1,hZ,hm,dr (x:=⟨52,k.type,false,0,false⟩) hr5 hg2 ⟨fun e=>by omega,fun e=>by cases e⟩ mx mx mx mx mx (fun _=>by simp only[e2];rfl) (fun _ _=>rfl),rfl,hB⟩
  ·rw[if_neg e2]at hZ;refine uA ?_;refine am (fun e3=>?_) (fun e3=>?_)
   ·rw[if_pos e3]at hZ;refine kI ?_;refine qs rfl (du (L0:=L) my hm (dm [_,_] hB.hs) (hZ.trans (mapB _ _)) rfl rfl rfl rfl rfl rfl (fun e hZ=>?_));have e5:k.type.kind=5:=mW;have h1:=tg_one hg2 (.inl e5);have hx0:k.type.kids[0]? = some (kid0 k.type):=ol;have hr6:=hr5.kids;refine uA ?_;refine ah (k:=4) hA2 ?_;refine kY ?_;rintro b6 i6 h6 hrd6 hA6;refine ap tab hA6 ?_;refine jx ?_;refine cJ rfl (L':=.cells b 0 (exC 52 h6 n.name n.num sA 0 none none)::T1) uS ⟨_,_,T1,hZ,hm,dr (x:=⟨52,kid0 k.type,false,0,true⟩) (rTree_iff.1 hrd6) (tg_kid hg2 (List.mem_of_getElem? hx0)) ⟨fun e=>by omega,fun e=>by cases e⟩ mx mx mx mx mx (fun _=>by simp only[e3];rfl) mx,rfl,hB⟩
   ·rw[if_neg e3]at hZ;have hpl:decide (n.name=[42])=false:=bR e3;refine kI ?_;refine az (fun e4=>?_) (fun e4=>?_)
    ·rw[bQ (show k.kind=45 by omega),Bool.true_or]at hZ;refine uA ?_;refine qs rfl (du (L0:=L) my hm (dm [_,_] hB.hs) (hZ.trans (mapB _ _)) rfl rfl rfl rfl rfl rfl (fun e hZ=>?_));refine uA ?_;refine qs rfl (OT.ck (L0:=L) [_,_] q (take_ck hX (.inr e4)) hB my hm (dl _) (g:=fun _=>Z) rfl (bF _) rfl rfl rfl rfl rfl rfl goes218 (fun v m3 _ T2 _ hm3 hm' hV hB=>?_));exact er
    ·rw[bR (show ¬k.kind=45 by omega),cx]at hZ;refine uA ?_;refine au goes158 (cplace_law _ F.c _ _ bk k hX) ?_;refine qs rfl (du (L0:=L) my hm (dm [_,_] hB.hs) (hZ.trans (mapB _ _)) rfl rfl rfl rfl rfl rfl (fun e hZ=>?_));refine uA ?_;refine qs rfl (OT.ck (L0:=L) [_,_] q (take_ck hX (.inl e)) hB my hm (dl _) (g:=fun _=>Z) rfl (bF _) rfl rfl rfl rfl rfl rfl goes218 (fun v m3 _ T2 _ hm3 hm' hV hB=>?_));exact er
end
end Go.Sep
namespace Go.Sep
open Go.Proofs Go.Ck
attribute [local irreducible] TC TO OT TCallX TCall DO DOt thenQ blockQ retQ At
theorem lastF_snoc (l:List Fld) (f:Fld) (x:Str):lastF (l++[f]) x=if f.name=x then some f.type else lastF l x:=by
 unfold lastF memF;rw[List.reverse_append];show((f::l.reverse).find? _).map _=_;rw[List.find?_cons];by_cases h:f.name=x
 ·rw[if_pos h,bQ h];rfl
 ·rw[if_neg h,bR h]
theorem lastF_mem {l:List Fld} {x:Str} {t:Tree} (h:lastF l x=some t):∃ f∈l,f.type=t:=by
 unfold lastF memF at h;cases hf:l.reverse.find? (fun f=>decide (f.name=x))with
 | none=>rw[hf]at h;cases h
 | some f =>
  rw[hf]at h;injection h with h
  exact⟨f,List.mem_reverse.1 (List.mem_of_find?_eq_some hf),h⟩
theorem fields_tg {E:CE} {m:Mem} (h:E.Tbl m) (a:Tree):∀ f∈(fieldsD E.tbl a).getD [],tg f.type=true:=by
 unfold fieldsD;split
 ·exact(h.good _).1
 ·intro f hf;cases hf
def Found (m:Mem) (l:List Fld) (x:Str) (num:Int) (h:HTree):Prop:=(lastF l x=none∧num = -2∧h=zH)∨∃ t,lastF l x=some t∧0≤num∧num≤140737488355328∧TreeRep m h t
section
variable {E:CE} {F:CF} {sc:List GS} {w:Nat} {ex:Sc→Tree→Option X}
theorem opSel_ck {m:Mem} (hC:CkOk E F sc m) {n y:Tree} {h:HTree} (hr:TreeRep m h n) (hn:n.kind=48) (hk:n.kids=[y]) (hy:ExOk E ex y) (b:Nat) :
  KtX Tryz.prog 187 [ptr F.c,ptr b,treeV h] E F sc w (cst y) m b (exC n.kind zH n.name n.num nilS 0 none none) (operC E.tbl ex (plain sc) n):=by
 rw[hn];refine KtX.enter Tryz.func187 rfl 313 rfl fun T L q Z hZ hB=>?_;unfold operC at hZ;rw[if_pos hn]at hZ;have hkid:kid n 0=y:=na;rw[hkid]at hZ;obtain⟨hr1,hr2,hr3,hr4⟩:=hr;rw[hk]at hr4;refine uA ?_;refine ay (fun b5=>?_);refine am (fun e0=>?_) (fun e0=>?_)
 ·refine uL ?_;refine jI ?_;rintro b' i' h' hrd hA;refine jV ?_;refine qs rfl (OT.ck (L0:=L) [_,_] q (value_ck (hy F sc w m h' (rTree_iff.1 hrd) hC)) hB my (cC _) (dl _) hZ (bF _) rfl rfl rfl rfl rfl rfl goes157 (fun v m1 k T1 hZ hm _ hV hB=>?_));obtain⟨-,bk,rfl,hX⟩:=hV;refine uA ?_;refine av (hs:=[bk]) (l:=[bk]) tab rPtr ⟨rfl,trivial⟩ uH mw (fun sA m2 hm2 hsA _ _=>?_);replace hX:=hX.mono hm2;replace hB:=hB.mono hm2 (bF _);replace hm:=cD hm hm2;replace hC:=hC.mono hm;obtain⟨t2,k2,v2,f2,⟨⟨g2,num2,how2,hr5,hA2,-⟩,hg2⟩⟩:=hX.eb;have hme:=hC.me;have hpr:=hC.tbl.prog;refine jE ?_;refine aU [] df 22 ?_;refine jD ?_;refine ae 10 1 ?_;refine DO.index tab rPtr 11 0 hsA uC uK uK rfl rfl rfl rfl rfl rfl rfl mR rfl rfl ?_;rintro b3 i3 h3 hrd3 hA3;obtain rfl:h3=bk:=hrd3;refine ai (k:=0) 12 hA3 ?_;refine cV tab uC uK [13,14] uK rfl ?_;refine ai 15 hA2 ?_;refine af 16 (cR rfl rfl rfl rfl rfl rfl goes209 ((tfields_law k.type (fun e=>tg_one hg2 (.inl e)) E.bt E.cc E.es E.tbl _ _ g2 hr5 hC.tbl.tb hC.tbl.tr).x ?_));rintro _ m4 _ ⟨hm4,rfl,sf,rfl,hsf⟩;refine⟨hm4,_,a9 _,?_⟩;refine cV tab uC uK [17,18,19,20,21] uK rfl ?_;refine aN ?_
  rotate_left 1
  replace hX:=hX.mono hm4;replace hB:=hB.mono hm4 (bF _);replace hm:=cD hm hm4;replace hC:=hC.mono hm4;replace hsA:=hsA.mono hm4;replace hr5:=hr5.mono hm4;have hlen:=hsf.len;have hsm:=hsf.small rfl;refine kE ?_;refine jS ?_;generalize hfl:(fieldsD E.tbl k.type).getD []=fl at hsf hZ hlen hsm;refine cH (ι:=Nat×Int×HTree) [0,1,5,174,175] rfl (fun y=>[(176,.int .i64 (y.1:Int))]) (fun _=>m4) (fun y=>.cells b5 0 (treeC h)::.cells b 0 (exC 48 y.2.2 n.name y.2.1 sA 0 none none)::T1) (fun y=>y.1≤fl.length∧Found m4 (fl.take y.1) n.name y.2.1 y.2.2) (fun y=>fl.length-y.1) (0,-2,zH) uH rfl uS ⟨cn _,.inl ⟨by rw[List.take_zero];rfl,rfl,rfl⟩⟩ ?_;rintro⟨i,nu,ht⟩ ⟨hi,hF⟩;simp only at hi hF;refine uA ?_;refine am (fun hlt=>?_) (fun hlt=>?_)
  ·have hlt':i<fl.length:=mv;have hx:fl[i]? = some fl[i]:=mL;have htk:fl.take (i+1)=fl.take i++[fl[i]]:=cq hlt';refine l5 ?_;rintro b' i' h9 hrd9 hA9;refine lB ?_;refine aC tab (fun b9=>?_);refine jK ?_;rw[hr2];have hnm:h9.name=fl[i].name:=hrd9.name;refine am (fun e9=>?_) (fun e9=>?_)
   ·have hF2:Found m4 (fl.take (i+1)) n.name (i:Int) h9.type:=by
     rw[htk];unfold Found;rw[lastF_snoc,if_pos nH];exact .inr ⟨_,rfl,by omega,by omega,hrd9.type⟩
    refine mh ?_;refine DO.fork 4 [7] uK ⟨⟨_,rfl,rfl,rfl,?_⟩,⟨_,rfl,rfl,rfl,?_⟩,trivial⟩
    ·refine OT.loadL (k:=1) tab 0 rfl rfl rfl rfl rfl rfl ?_;refine jF ?_;refine af 7 ?_;refine an (k:=6) 2 ?_;refine jF ?_;refine jW ?_;refine af 10 ?_;refine an (k:=1) 2 ?_;exact dZ
    ·refine an (k:=6) 2 ?_;refine mt ?_;refine an (k:=1) 2 ?_;exact dZ
   ·refine uA ?_;refine jz ?_;exact⟨(i+1,nu,ht),uH,uH,rfl,rfl,uS,⟨by omega,by rw[htk];unfold Found;rw[lastF_snoc,if_neg nH];exact hF⟩,by simp only;omega⟩
  ·have hi':i=fl.length:=mv;subst hi';rw[List.take_length]at hF;refine jJ ?_;rcases hF with ⟨f1,f2,f3⟩ | ⟨t,f1,f2,f3,f4⟩
   ·refine qs rfl (du (b:=decide (0≤nu)) (L0:=L) (g:=fun _=>Z) mN hm (dm [_,_] hB.hs) (hZ.trans (by rw[f1,bR (show ¬0≤nu by omega)];rfl)) rfl rfl rfl rfl rfl rfl (fun e hZ=>by have:=of_decide_eq_true e;omega))
   ·rw[f1]at hZ;refine qs rfl (du (b:=decide (0≤nu)) (L0:=L) (g:=fun _=>Z) mN hm (dm [_,_] hB.hs) (by rw[bQ (show 0≤nu by omega)];rfl) rfl rfl rfl rfl rfl rfl (fun e _=>?_));have htg:tg t=true:=by
     obtain⟨f,hf,rfl⟩:=lastF_mem f1;exact fields_tg hC.tbl k.type f (by rw[hfl];exact hf)
    refine uA ?_;refine cJ rfl (L':=.cells b 0 (exC 48 ht n.name nu sA 0 none none)::T1) uS ⟨_,_,T1,hZ,hm,exC_sel (x:=⟨48,t,false,0,decide (k.type.kind=5)||k.place⟩) f4 htg ⟨fun e=>by omega,fun e=>by cases e⟩ mx mx rfl hsA hX rfl,rfl,hB⟩
 ·exact absurd (show h.kind=48 by omega) mv
end
end Go.Sep
namespace Go.Sep
open Go.Proofs Go.Ck
attribute [local irreducible] TC TO OT TCallX TCall DO DOt thenQ blockQ retQ At
section
variable {E:CE} {F:CF} {sc:List GS} {w:Nat} {ex:Sc→Tree→Option X}
theorem opUn_ck {m:Mem} (hC:CkOk E F sc m) {n y:Tree} {h:HTree} (hr:TreeRep m h n) (hn:n.kind=52) (hk:n.kids=[y]) (hy:ExOk E ex y) (hnum:0≤n.num) (b:Nat) :
  KtX Tryz.prog 187 [ptr F.c,ptr b,treeV h] E F sc w (cst y) m b (exC n.kind zH n.name n.num nilS 0 none none) (operC E.tbl ex (plain sc) n):=by
 rw[hn];refine KtX.enter Tryz.func187 rfl 313 rfl fun T L q Z hZ hB=>?_;unfold operC at hZ;rw[if_neg mv,if_neg mv,if_neg mv,if_pos hn]at hZ;have hr1:=hr.kind;refine uA ?_;refine ay (fun b5=>?_);refine am (fun e0=>?_) (fun e0=>?_)
 ·exfalso;omega
 refine uA ?_;refine am (fun e1=>?_) (fun e1=>?_)
 ·exfalso;omega
 refine uA ?_;refine am (fun e2=>?_) (fun e2=>?_)
 ·exfalso;omega
 refine uA ?_;refine am (fun e3=>?_) (fun e3=>?_)
 ·refine uL ?_;refine cM (ba _ _ _) ?_;refine qs rfl (OT.ckX (L0:=L) [_] q (unary_ck hC hr hk hy hnum b) hB mN (cC _) (dl _) (g:=some) (by rw[hZ];cases unaryC ex (plain sc) n<;>rfl) (bF _) rfl rfl rfl rfl rfl rfl goes210 (fun v m1 a cs' T1 hZ hm _ hX hB=>?_));refine uA ?_;refine cJ rfl (L':=.cells b 0 cs'::T1) uS ⟨a,cs',T1,hZ,hm,hX,rfl,hB⟩
 ·exfalso;omega
theorem opIdx_ck {m:Mem} (hC:CkOk E F sc m) {n y z:Tree} {h:HTree} (hr:TreeRep m h n) (hn:n.kind=49) (hk:n.kids=[y,z]) (hy:ExOk E ex y) (hz:ExOk E ex z) (hnum:0≤n.num) (b:Nat) :
  KtX Tryz.prog 187 [ptr F.c,ptr b,treeV h] E F sc w (cst y+cst z) m b (exC n.kind zH n.name n.num nilS 0 none none) (operC E.tbl ex (plain sc) n):=by
 rw[hn];refine KtX.enter Tryz.func187 rfl 313 rfl fun T L q Z hZ hB=>?_;unfold operC at hZ;rw[if_neg mv,if_pos hn]at hZ;have hkid:kid n 0=y:=na;have hkid1:kid n 1=z:=na;rw[hkid,hkid1]at hZ;obtain⟨hr1,hr2,hr3,hr4⟩:=hr;rw[hk]at hr4;refine uA ?_;refine ay (fun b5=>?_);refine am (fun e0=>?_) (fun e0=>?_)
 ·exfalso;omega
 refine uA ?_;refine am (fun e1=>?_) (fun e1=>?_)
 ·refine uA ?_;refine TC.draw [16] df 17 rfl [.cells b5 0 (treeC h),.cells b 0 (exC 49 zH n.name n.num nilS 0 none none)] T uP ?_;refine kc ?_;refine ae 3 0 ?_;refine DO.index tab rTree 4 0 hr4 uC uK uK rfl rfl rfl rfl rfl rfl rfl mR rfl rfl ?_;rintro b3 i3 h3 hrd3 hA3;refine ai (k:=0) 5 hA3 ?_;refine cV tab uC uK [7,8] uK rfl ?_;refine ae 9 0 ?_;refine DO.index tab rTree 10 1 hr4 uC uK uK rfl rfl rfl rfl rfl rfl rfl mR rfl rfl ?_;rintro b4 i4 h4 hrd4 hA4;refine ai (k:=0) 11 hA4 ?_;refine af 6 ?_;refine OT.ck (L0:=L) [_,_] (q+cst z) (value_ck (hy F sc w m h3 (rTree_iff.1 hrd3) hC)) hB my (cC _) (dl _) hZ mv rfl rfl rfl rfl rfl rfl goes157 (fun v m1 k T1 hZ hm _ hV hB=>?_);obtain⟨-,bk,rfl,hX⟩:=hV;refine⟨hm,T1,a9 _,?_⟩;refine af 12 ?_;refine OT.ck (L0:=L) [_,_] q (typed_ck 1 (hz F sc w m1 h4 ((rTree_iff.1 hrd4).mono hm) (hC.mono hm))) hB my hm (dl _) hZ mv rfl rfl rfl rfl rfl rfl goes160 (fun v m2 k2 T2 hZ hm2 hm' hV hB=>?_);obtain⟨-,-,bk2,rfl,hX2⟩:=hV;refine⟨hm2,T2,a9 _,?_⟩;refine af 13 ?_;refine de tab rPtr (hs:=[bk,bk2]) (l:=[bk,bk2]) ⟨rfl,rfl,trivial⟩ rfl rfl rfl rfl rfl mw (fun sA m3 hm3 hsA _ _=>?_);refine⟨hm3,T2,a9 _,?_⟩;refine cV tab uC uK [14,15] uK rfl ?_;refine cW ?_;refine aB 16 ?_;refine an (k:=7) 1 ?_;refine aH ?_
  rotate_left 1
  replace hX:=hX.mono (cD hm2 hm3);replace hB:=hB.mono hm3 (bF _);replace hm:=cD hm' hm3;obtain⟨t2,kk2,v2,f2,⟨⟨g2,num2,how2,hr5,hA2,-⟩,hg2⟩⟩:=hX.eb;have hk2:=hr5.kind;rw[←hk2]at hZ;refine jJ ?_;refine lg ?_;rintro b6 i6 h6 hrd6 hA6;obtain rfl:h6=bk:=hrd6;refine ap tab hA6 ?_;refine ah hA2 ?_;refine aC tab (fun b10=>?_);refine jK ?_;refine am (fun e6=>?_) (fun e6=>?_)
  ·rw[if_pos e6]at hZ;have h1:=tg_one hg2 (.inr (hk2.symm.trans e6));have hx0:k.type.kids[0]? = some (kid0 k.type):=ol;have hr6:=hr5.kids;refine uL ?_;refine kY ?_;rintro b7 i7 h7 hrd7 hA7;refine ap tab hA7 ?_;refine jx ?_;refine cJ rfl (L':=.cells b 0 (exC 49 h7 n.name n.num sA 0 none none)::T2) uS ⟨_,_,T2,hZ,hm,exC_idx (x:=⟨49,kid0 k.type,false,0,true⟩) (rTree_iff.1 hrd7) (tg_kid hg2 (List.mem_of_getElem? hx0)) ⟨fun e=>by omega,fun e=>by cases e⟩ mx mx rfl hsA hX (by rw[bQ (show k.type.kind=6 by omega)]),rfl,hB⟩
  ·rw[if_neg e6]at hZ;refine uA ?_;refine am (fun e7=>?_) (fun e7=>?_)
   ·rw[if_pos e7]at hZ;refine uA ?_;refine oC goes184 ((ckind_law 1 _ _).x ?_);rintro _ m4 _ ⟨hm4,rfl,h7,rfl,hr7⟩;refine jE ?_;refine cJ rfl (L':=.cells b 0 (exC 49 h7 n.name n.num sA 0 none none)::T2) uS ⟨_,_,T2,hZ,cD hm hm4,exC_idx (x:=⟨49,tk 1,false,0,false⟩) hr7 (tg_leaf _ _ _ mv) ⟨fun e=>by omega,fun e=>by cases e⟩ mx mx rfl (hsA.mono hm4) (hX.mono hm4) (by rw[bR (show ¬k.type.kind=6 by omega)]),rfl,hB.mono hm4 (bF _)⟩
   ·rw[if_neg e7]at hZ;refine uA ?_;refine oC goes115 (cE (cstop_law _ _) ?_ ?_)
    ·rintro _ _ _ hf;exact hf.elim
    ·rintro _ _ _ ⟨rfl,rfl,rfl⟩;exact(show Bk _ (Z=none) m L from mN) _ _ _ hZ hm (dm [_,_,_] hB.hs)
 ·exfalso;omega
end
end Go.Sep
namespace Go.Sep
open Go.Proofs Go.Ck
attribute [local irreducible] TC TO OT TCallX TCall DO DOt thenQ blockQ retQ At
section
variable {E:CE} {F:CF} {sc:List GS} {w:Nat} {ex:Sc→Tree→Option X}
theorem opBin_ck {m:Mem} (hC:CkOk E F sc m) {n y z:Tree} {h:HTree} (hr:TreeRep m h n) (hn:n.kind=53) (hk:n.kids=[y,z]) (hy:ExOk E ex y) (hz:ExOk E ex z) (hnum:0≤n.num) (b:Nat) :
  KtX Tryz.prog 187 [ptr F.c,ptr b,treeV h] E F sc w (cst y+cst z) m b (exC n.kind zH n.name n.num nilS 0 none none) (operC E.tbl ex (plain sc) n):=by
 rw[hn];refine KtX.enter Tryz.func187 rfl 313 rfl fun T L q Z hZ hB=>?_;unfold operC at hZ;rw[if_neg mv,if_neg mv,if_neg mv,if_neg mv]at hZ;unfold binaryC at hZ;have hkid:kid n 0=y:=na;have hkid1:kid n 1=z:=na;rw[hkid,hkid1]at hZ;obtain⟨hr1,hr2,hr3,hr4⟩:=hr;rw[hk]at hr4;refine uA ?_;refine ay (fun b5=>?_);refine am (fun e0=>?_) (fun e0=>?_)
 ·exfalso;omega
 refine uA ?_;refine am (fun e1=>?_) (fun e1=>?_)
 ·exfalso;omega
 refine uA ?_;refine am (fun e2=>?_) (fun e2=>?_)
 ·exfalso;omega
 refine uA ?_;refine am (fun e3=>?_) (fun e3=>?_)
 ·exfalso;omega
 refine uA ?_;refine TC.draw [] df 14 rfl [.cells b5 0 (treeC h),.cells b 0 (exC 53 zH n.name n.num nilS 0 none none)] T uP ?_;refine cV tab uC uK [0,1] uK rfl ?_;refine ae 2 0 ?_;refine DO.index tab rTree 3 0 hr4 uC uK uK rfl rfl rfl rfl rfl rfl rfl mR rfl rfl ?_;rintro b3 i3 h3 hrd3 hA3;refine ai (k:=0) 4 hA3 ?_;refine cV tab uC uK [6,7] uK rfl ?_;refine ae 8 0 ?_;refine DO.index tab rTree 9 1 hr4 uC uK uK rfl rfl rfl rfl rfl rfl rfl mR rfl rfl ?_;rintro b4 i4 h4 hrd4 hA4;refine ai (k:=0) 10 hA4 ?_;refine af 5 ?_;refine OT.ck (L0:=L) [_,_] (q+cst z) (value_ck (hy F sc w m h3 (rTree_iff.1 hrd3) hC)) hB my (cC _) (dl _) hZ mv rfl rfl rfl rfl rfl rfl goes157 (fun v m1 k T1 hZ hm _ hV hB=>?_);obtain⟨-,bk,rfl,hX⟩:=hV;refine⟨hm,T1,a9 _,?_⟩;refine af 11 ?_;refine OT.ck (L0:=L) [_,_] q (value_ck (hz F sc w m1 h4 ((rTree_iff.1 hrd4).mono hm) (hC.mono hm))) hB my hm (dl _) hZ mv rfl rfl rfl rfl rfl rfl goes157 (fun v m2 k2 T2 hZ hm2 hm' hV hB=>?_);obtain⟨-,bk2,rfl,hX2⟩:=hV;refine⟨hm2,T2,a9 _,?_⟩;refine cV tab uC uK [12,13] uK rfl ?_;refine aV ?_
 rotate_left 1
 refine uA ?_;refine av (hs:=[bk,bk2]) (l:=[bk,bk2]) tab rPtr ⟨rfl,rfl,trivial⟩ uH mw (fun sA m3 hm3 hsA _ _=>?_);refine jE ?_;refine oC goes184 ((ckind_law 2 _ _).x ?_);rintro _ m4 _ ⟨hm4,rfl,hB2,rfl,hrB⟩;refine jE ?_;replace hX:=hX.mono (cD (cD hm2 hm3) hm4);replace hX2:=hX2.mono (cD hm3 hm4);replace hB:=hB.mono (cD hm3 hm4) (bF _);replace hm:=cD hm' (cD hm3 hm4);replace hC:=hC.mono hm;obtain⟨t5,kk5,v5,f5,⟨⟨g5,num5,how5,hr5,hA5,-⟩,hg5⟩⟩:=hX.eb;obtain⟨t6,kk6,v6,f6,⟨⟨g6,num6,how6,hr6,hA6,-⟩,hg6⟩⟩:=hX2.eb;have hk5:=hr5.kind;have hk6:=hr6.kind;have hme:=hC.me;have hpr:=hC.tbl.prog;refine aU [] df 12 ?_;refine cV tab uC uK [0,1,2,3] uK rfl ?_;refine ai 4 hA5 ?_;refine cV tab uC uK [5,6,7,8] uK rfl ?_;refine ai 9 hA6 ?_;refine ll ?_;refine aN ?_
 rotate_left 1
 refine uL ?_;rw[hr2];replace hZ:Z=(if n.name=[61,61]∨n.name=[33,61]then (Ck.want (tcompB E.tbl k.type k2.type)).map fun _=>⟨53,tk 2,false,0,false⟩
  else if n.name=[38,38]∨n.name=[124,124]then (Ck.want (decide (g5.kind=g6.kind)&&decide (g5.kind=2))).map fun _=>⟨53,tk 2,false,0,false⟩
  else if n.name=[60]∨n.name=[60,61]∨n.name=[62]∨n.name=[62,61]then (Ck.want (decide (g5.kind=g6.kind)&&(decide (g5.kind=1)||decide (g5.kind=3)))).map fun _=>⟨53,tk 2,false,0,false⟩
  else (Ck.want (decide (g5.kind=g6.kind)&&(decide (g5.kind=1)||(decide (n.name=[43])&&decide (g5.kind=3))))).map fun _=>⟨53,k.type,false,0,false⟩):=by rw[hk5,hk6];exact hZ
 refine uA ?_;refine am (fun e4=>?_) (fun e4=>?_)
 ·rw[if_pos (.inl e4)]at hZ;refine uA ?_;refine am (fun _=>?_) (fun h=>absurd e4 h);refine uA ?_;refine aU [] df 17 ?_;refine jD ?_;refine kq ?_;rintro _ _ _ ⟨rfl,rfl,rfl⟩;refine⟨cC _,_,a9 _,?_⟩;refine af 16 ?_;refine du (L0:=L) mN hm (Hs.nil (dm [_,_] hB.hs)) (hZ.trans (mapB _ _)) rfl rfl rfl rfl rfl rfl (fun e hZ=>?_);refine⟨cC _,_,a9 _,?_⟩;refine aN ?_
  rotate_left 1
  exact dL
 refine uA ?_;refine am (fun e5=>?_) (fun e5=>?_)
 ·rw[if_pos (.inr e5)]at hZ;refine uA ?_;refine aU [] df 17 ?_;refine jD ?_;refine kq ?_;rintro _ _ _ ⟨rfl,rfl,rfl⟩;refine⟨cC _,_,a9 _,?_⟩;refine af 16 ?_;refine du (L0:=L) mN hm (Hs.nil (dm [_,_] hB.hs)) (hZ.trans (mapB _ _)) rfl rfl rfl rfl rfl rfl (fun e hZ=>?_);refine⟨cC _,_,a9 _,?_⟩;refine aN ?_
  rotate_left 1
  exact dL
 rw[if_neg (fun h=>h.elim e4 e5)]at hZ;refine uA ?_;refine am (fun e6=>?_) (fun e6=>?_)
 ·rw[if_pos (.inl e6)]at hZ;refine uA ?_;refine am (fun _=>?_) (fun h=>absurd e6 h);refine uA ?_;refine az (fun es=>?_) (fun es=>?_)
  ·rw[bQ es]at hZ;refine ly ?_;refine qs rfl (du (b:=(decide (g5.kind=2))) (L0:=L) mN hm (dm [_,_] hB.hs) (hZ.trans (mapB _ _)) rfl rfl rfl rfl rfl rfl (fun e hZ=>?_));exact dL
  ·exact dV
 refine uA ?_;refine am (fun e7=>?_) (fun e7=>?_)
 ·rw[if_pos (.inr e7)]at hZ;refine uA ?_;refine az (fun es=>?_) (fun es=>?_)
  ·rw[bQ es]at hZ;refine ly ?_;refine qs rfl (du (b:=(decide (g5.kind=2))) (L0:=L) mN hm (dm [_,_] hB.hs) (hZ.trans (mapB _ _)) rfl rfl rfl rfl rfl rfl (fun e hZ=>?_));exact dL
  ·exact dV
 rw[if_neg (fun h=>h.elim e6 e7)]at hZ;refine uA ?_;refine am (fun e8=>?_) (fun e8=>?_)
 ·rw[if_pos (.inl e8)]at hZ;refine uA ?_;refine am (fun _=>?_) (fun h=>absurd e8 h);exact dH
 refine uA ?_;refine am (fun e9=>?_) (fun e9=>?_)
 ·rw[if_pos (.inr (.inl e9))]at hZ;refine uA ?_;refine am (fun _=>?_) (fun h=>absurd e9 h);exact dH
 refine uA ?_;refine am (fun e10=>?_) (fun e10=>?_)
 ·rw[if_pos (.inr (.inr (.inl e10)))]at hZ;refine uA ?_;refine am (fun _=>?_) (fun h=>absurd e10 h);exact dH
 refine uA ?_;refine am (fun e11=>?_) (fun e11=>?_)
 ·rw[if_pos (.inr (.inr (.inr e11)))]at hZ;exact dH
 rw[if_neg (fun h=>h.elim e8 fun h=>h.elim e9 fun h=>h.elim e10 e11)]at hZ;refine uA ?_;refine az (fun es=>?_) (fun es=>?_)
 ·rw[bQ es]at hZ;refine ly ?_;refine az (fun e12=>?_) (fun e12=>?_)
  ·rw[bQ e12]at hZ;refine uA ?_;refine qs rfl (du (b:=true) (L0:=L) my hm (dm [_,_] hB.hs) (hZ.trans (mapB _ _)) rfl rfl rfl rfl rfl rfl (fun e hZ=>?_));exact dX
  ·rw[bR e12]at hZ;refine uL ?_;rw[hr2];refine uA ?_;refine az (fun e13=>?_) (fun e13=>?_)
   ·rw[bQ e13]at hZ;refine ly ?_;refine qs rfl (du (b:=(decide (g5.kind=3))) (L0:=L) my hm (dm [_,_] hB.hs) (hZ.trans (mapB _ _)) rfl rfl rfl rfl rfl rfl (fun e hZ=>?_));exact dX
   ·rw[bR e13]at hZ;refine uA ?_;refine qs rfl (du (b:=false) (L0:=L) my hm (dm [_,_] hB.hs) (hZ.trans (mapB _ _)) rfl rfl rfl rfl rfl rfl (fun e hZ=>?_));exact dX
 ·rw[bR es]at hZ;refine uA ?_;refine qs rfl (du (b:=false) (L0:=L) my hm (dm [_,_] hB.hs) (hZ.trans (mapB _ _)) rfl rfl rfl rfl rfl rfl (fun e hZ=>?_));exact dX
end
end Go.Sep
namespace Go.Sep
open Go.Proofs Go.Ck
attribute [local irreducible] TC TO OT TCallX TCall DO DOt thenQ blockQ retQ At
theorem pfA {α:Type} {a b c:α} {L:List α}:(a::b::c::L).Perm (b::c::a::L):=mJ
theorem seqB {α γ:Type} (o:Option α) (M:Option (List α)) (G:Option γ):((o.bind fun b=>M.bind fun bs=>some (b::bs)).bind fun _=>G)=o.bind fun _=>M.bind fun _=>G:=by
 cases o with
 | none=>rfl
 | some _=>cases M<;>rfl
section
variable {E:CE} {F:CF} {sc:List GS} {w:Nat} {ex:Sc→Tree→Option X}
theorem opCut_ck {m:Mem} (hC:CkOk E F sc m) {n y:Tree} {zs:List Tree} {h:HTree} (hr:TreeRep m h n) (hn:n.kind=50) (hk:n.kids=y::zs) (hy:ExOk E ex y) (hz:∀ z∈zs,ExOk E ex z) (hnum:0≤n.num) (b:Nat) :
  KtX Tryz.prog 187 [ptr F.c,ptr b,treeV h] E F sc w (cst y+cstL zs) m b (exC n.kind zH n.name n.num nilS 0 none none) (operC E.tbl ex (plain sc) n):=by
 rw[hn];refine KtX.enter Tryz.func187 rfl 313 rfl fun T L q Z hZ hB=>?_;unfold operC at hZ;rw[if_neg mv,if_neg mv,if_pos hn]at hZ;have hkid:kid n 0=y:=na;have hdr:n.kids.drop 1=zs:=by rw[hk];rfl
 rw[hkid,hdr]at hZ;obtain⟨hr1,hr2,hr3,hr4⟩:=hr;rw[hk]at hr4;have hlen:=hr4.len;have hfit:h.kids.len*56≤140737488355328:=hr4.fit;simp only[a7]at hlen;refine uA ?_;refine ay (fun b5=>?_);refine am (fun e0=>?_) (fun e0=>?_)
 ·exfalso;omega
 refine uA ?_;refine am (fun e1=>?_) (fun e1=>?_)
 ·exfalso;omega
 refine uA ?_;refine am (fun e2=>?_) (fun e2=>?_)
 ·refine uL ?_;refine jI ?_;rintro b' i' h' hrd hA;refine jV ?_;refine qs rfl (OT.ck (L0:=L) [_,_] (q+cstL zs) (value_ck (hy F sc w m h' (rTree_iff.1 hrd) hC)) hB my (cC _) (dl _) hZ mv rfl rfl rfl rfl rfl rfl goes157 (fun v m1 k T1 hZ hm _ hV hB=>?_));obtain⟨-,bk,rfl,hX⟩:=hV;refine uA ?_;refine av (hs:=[bk]) (l:=[bk]) tab rPtr ⟨rfl,trivial⟩ uH mw (fun sA m2 hm2 hsA hoA hcA=>?_);refine TO.tokFo hcA hoA 1 ?_;refine cM (L':=.cells b5 0 (treeC h)::.cells b 0 (exC 50 zH n.name n.num nilS 0 none none)::tok sA 1::T1) (pfA (a:=tok sA 1)) ?_;replace hX:=hX.mono hm2;replace hB:=hB.mono hm2 (bF _);replace hm:=cD hm hm2;replace hC:=hC.mono hm;replace hr4:=hr4.mono hm;refine uA ?_;refine jK ?_;refine qs rfl (OT.cut tab rTree 1 (1+zs.length) hr4 rfl rfl rfl rfl rfl rfl rfl (.inr rfl) (.inl ⟨rfl,by omega⟩) mv mV (fun sz hsz=>?_));have hsz:SlRep rTree m2 sz zs:=by
   exact fC
  have hzl:=hsz.len;refine jS ?_;generalize hG:(Ck.want (decide (k.type.kind=6)||decide (k.type.kind=3))).map (fun _=>(⟨50,k.type,false,0,false⟩:X))=G at hZ;refine cH (ι:=Nat×Sl×List Nat×Mem×List Item) [0,1,5,261,262] rfl (fun y=>[(263,.int .i64 (y.1:Int))]) (fun y=>y.2.2.2.1) (fun y=>.cells b5 0 (treeC h)::.cells b 0 (exC 50 zH n.name n.num y.2.1 0 none none)::tok y.2.1 1::y.2.2.2.2) (fun y=>y.1≤zs.length∧m2≤y.2.2.2.1∧SlRep rPtr y.2.2.2.1 y.2.1 (bk::y.2.2.1)∧Own y.2.1∧y.2.2.1.length=y.1∧Bun E F sc w (q+cstL (zs.drop y.1)) y.2.2.2.1 y.2.2.2.2 L∧Z=((zs.drop y.1).mapM (ofC ex 1 (plain sc))).bind fun _=>G) (fun y=>zs.length-y.1) (0,sA,[],m2,T1) uH rfl uS ⟨cn _,cC _,hsA,hoA,rfl,hB,hZ⟩ ?_;rintro⟨i,s,l,m3,T1⟩ ⟨hi,hm3,hs,ho,hl,hB,hZ⟩;simp only at hi hm3 hs ho hl hB hZ;refine uA ?_;refine am (fun hlt=>?_) (fun hlt=>?_)
  ·have hlt':i<zs.length:=mv;have hx:zs[i]? = some zs[i]:=mL;rw[bU hlt',mapM_cons']at hZ;rw[cstL_drop hx]at hB;have hsz3:=hsz.mono hm3;refine uA ?_;refine ar tab rTree i hsz3 uH mD rfl hx ?_;rintro b' i' h9 hrd9 hA9;refine lB ?_;refine aC tab (fun b12=>?_);refine jx ?_;refine TC.draw [12] df 13 rfl [.cells b12 0 (treeC h9),.cells b5 0 (treeC h),.cells b 0 (exC 50 zH n.name n.num s 0 none none)] (tok s 1::T1) uP ?_;refine cV tab uC uK [0,1,2,3] uK rfl ?_;refine ae 4 2 ?_;refine cV tab uC uK [5] uK rfl ?_;refine ae (k:=0) 6 0 ?_;refine af 7 ?_;refine OT.ck (L0:=L) [_,_,_,_] (q+cstL (zs.drop (i+1))) (typed_ck 1 (hz _ (bL hlt') F sc w m3 h9 (rTree_iff.1 hrd9) (hC.mono hm3))) hB my (cD hm hm3) (dl _) (g:=fun _=>((zs.drop (i+1)).mapM (ofC ex 1 (plain sc))).bind fun _=>G) (hZ.trans (seqB _ _ _)) mv rfl rfl rfl rfl rfl rfl goes160 (fun v m4 x T2 hZ hm4 hm' hV hB=>?_);obtain⟨-,-,bx,rfl,hX2⟩:=hV;refine⟨hm4,tok s 1::T2,a9 _,?_⟩;refine af 8 ?_;refine de tab rPtr (hs:=[bx]) (l:=[bx]) ⟨rfl,trivial⟩ rfl rfl rfl rfl rfl mw (fun sB m5 hm5 hsB _ _=>?_);refine⟨hm5,tok s 1::T2,a9 _,?_⟩;refine af 9 ?_;refine cU tab rPtr 3 (hs.mono (cD hm4 hm5)) ho hsB rfl rfl rfl rfl rfl rfl rfl mU (fun s' m6 hm6 hs' ho'=>?_);refine⟨hm6,tok s' 1::T2,a9 _,?_⟩;refine ll ?_;refine cW ?_;refine aB 12 ?_;refine an (k:=7) 2 ?_;refine aH ?_
   rotate_left 1
   have hmm:m4≤m6:=cD hm5 hm6;refine kh ?_;exact⟨(i+1,s',l++[bx],m6,T2),uH,uH,rfl,rfl,uS,⟨by omega,cD hm3 (cD hm4 hmm),hs',ho',by simp only[a6,a7,a8];omega,hB.mono hmm (bF _),hZ⟩,by simp only;omega⟩
  ·have hi':i=zs.length:=mv;subst hi';rw[List.drop_length]at hZ;replace hZ:Z=G:=hZ;subst hG;replace hX:=hX.mono hm3;replace hm:=cD hm hm3;obtain⟨t5,kk5,v5,f5,⟨⟨g5,num5,how5,hr5,hA5,-⟩,hg5⟩⟩:=hX.eb;have hk5:=hr5.kind;rw[←hk5]at hZ;refine jJ ?_;refine aA tab rPtr 0 hs uH mD uH ?_;rintro b6 i6 h6 hrd6 hA6;obtain rfl:h6=bk:=hrd6;refine ap tab hA6 ?_;refine ah hA5 ?_;refine jx ?_;refine al (k:=1) 1 ?_;refine az (fun e6=>?_) (fun e6=>?_)
   ·rw[bQ e6]at hZ;refine uA ?_;refine qs rfl (du (b:=true) (L0:=L) mN hm (dm [_,_,_] hB.hs) (hZ.trans (mapB _ _)) rfl rfl rfl rfl rfl rfl (fun e hZ=>?_));exact fe
   ·rw[bR e6]at hZ;refine uA ?_;refine al (k:=1) 1 ?_;refine qs rfl (du (b:=(decide (g5.kind=3))) (L0:=L) mN hm (dm [_,_,_] hB.hs) (hZ.trans (mapB _ _)) rfl rfl rfl rfl rfl rfl (fun e hZ=>?_));exact fe
 ·exfalso;omega
end
end Go.Sep
namespace Go.Sep
section
variable {P:Program} {N:Nat} {D:List Deferred} {m:Mem} {Q:EPost} {ρ:Env} {ops:List Oper} {listed:List Bool} {ts:List Nat} {fuel:Nat} {Ls Lp:List Item}
theorem DO.cutS {H α:Type} (T:Tab P) (r:R H α) (i:Nat) {s:Sl} {l:List α} (lo hi:Nat) {x:Operand} {lx hx:Option Operand} {lov hiv:Option Value} {t:TypeId} {o:Oper} {d:Nat} (hs:SlRep r m s l) (hc:Calm Q) (hns:Region.noSelect ⟨ops⟩=true) (hok:orderOkP ops ts [i] listed=true)
  (hi':ops[i]? = some o) (hg:gv ops ρ o=some true) (ho:o.op = .slice t x lx hx none) (hd:o.dst=some d) (hN:Nat.blt d N=true) (he:ev ρ x=some s.v) (h1:evO ρ lx=some lov) (h2:evO ρ hx=some hiv) (hsz:T.esize t=some r.size)
  (g1:(lov=none∧lo=0)∨lov=some (.int .i64 (lo:Int))) (g2:(hiv=none∧hi=s.len)∨hiv=some (.int .i64 (hi:Int))) (hle:lo≤hi) (hhi:hi≤l.length)
  (h:∀ s':Sl,SlRep r m s' ((l.take hi).drop lo)→DO P N ops ts fuel (listed.set i true) ((d,s'.v)::ρ) D m Ls Lp Q):DO P N ops ts (fuel+1) listed ρ D m Ls Lp Q:=by
 simp only[orderOkP,bj]at hok;obtain⟨o1,o2,o3,_⟩:=hok;refine DO.takeP i hc hi' hd hN hg hns o1 o2 nj (fun ac w hA=>?_) (h _ (hs.cut hle hhi));have hcap:=hs.cap;have hlen:=hs.len;have hr:=run_sliceAt (P:=P) T (w:=w) hsz g1 g2 hle mv;have e1:Option.map ac.eval lx=lov:=hA.evalO h1;have e2:Option.map ac.eval hx=hiv:=hA.evalO h2;simp only[execOp,ho,hA.eval he,e1,e2,Option.map_none,Sem.run_bind,hr,Result.andThen_ok,Sem.run_pure]
theorem DO.convV {d:Nat} {v v':Value} (h:DO P N ops ts fuel listed ((d,v')::ρ) D m Ls Lp Q) (he:v=v'):DO P N ops ts fuel listed ((d,v)::ρ) D m Ls Lp Q:=by subst he;exact h
end
end Go.Sep
namespace Go.Sep
open Go.Proofs Go.Ck
attribute [local irreducible] TC TO OT TCallX TCall DO DOt thenQ blockQ retQ At
theorem pfB {α:Type} {t x:α} {L:List α}:(t::x::L).Perm ([x]++(t::L)):=ba _ _ _
section
variable {E:CE} {F:CF} {sc:List GS} {w:Nat} {ex:Sc→Tree→Option X}
theorem builtin_ck {m:Mem} (hC:CkOk E F sc m) {how:Int} (hh:how=1∨how=2∨how=3∨how=4) {sl:Sl} {l:List Tree} (hS:SlRep rTree m sl l) (hex:∀ n∈l,ExOk E ex n) (b:Nat) (txt:Str) (num:Int) (hnum:0≤num) :
  KtX Tryz.prog 207 [ptr F.c,ptr b,.int .i64 how,sl.v] E F sc w (cstL l) m b (exC 51 zH txt num nilS 0 none none) (builtC E.tbl ex (plain sc) how l):=by
 refine KtX.enter Tryz.func207 rfl 141 rfl fun T L q Z hZ hB=>?_;unfold builtC at hZ;have hlen:=hS.len;refine kE ?_;refine jS ?_;refine uA ?_;refine am (fun e1=>?_) (fun e1=>?_)
 ·rw[if_pos e1]at hZ;refine uA ?_;refine qs rfl (du (b:=decide ((sl.len:Int)=1)) (L0:=L) my (cC _) (hB.hs.cons _) (hZ.trans oo) rfl rfl rfl rfl rfl rfl (fun e hZ=>?_));have e1:l.length=1:=mW;clear e
  match l,e1,hS,hex,hB,hlen,hZ with
  | [a],_,hS,hex,hB,hlen,hZ =>
   refine j0 ?_;rintro b' i' h' hrd hA;refine jV ?_;refine qs rfl (OT.ck (L0:=L) [_] q (value_ck (hex a mx F sc w m h' (rTree_iff.1 hrd) hC)) hB my (cC _) (dl _) hZ nt rfl rfl rfl rfl rfl rfl goes157 (fun v m1 k T1 hZ hm _ hV hB=>?_));obtain⟨-,bk,rfl,hX⟩:=hV;refine uA ?_;refine av (hs:=[bk]) (l:=[bk]) tab rPtr ⟨rfl,trivial⟩ uH mw (fun sA m2 hm2 hsA _ _=>?_);replace hX:=hX.mono hm2;replace hB:=hB.mono hm2 (bF _);replace hm:=cD hm hm2;obtain⟨t5,kk5,v5,f5,⟨⟨g5,num5,how5,hr5,hA5,-⟩,hg5⟩⟩:=hX.eb;have hk5:=hr5.kind;rw[←hk5]at hZ;refine jE ?_;refine j5 ?_;refine lg ?_;rintro b6 i6 h6 hrd6 hA6;obtain rfl:h6=bk:=hrd6;refine ap tab hA6 ?_;refine ah hA5 ?_;refine az (fun e6=>?_) (fun e6=>?_)
   ·rw[bQ e6]at hZ;refine uA ?_;refine qs rfl (du (b:=true) (L0:=L) my hm (dm [_] hB.hs) (hZ.trans (mapB _ _)) rfl rfl rfl rfl rfl rfl (fun e hZ=>?_));exact eh
   ·rw[bR e6]at hZ;refine uA ?_;refine az (fun e7=>?_) (fun e7=>?_)
    ·rw[bQ e7]at hZ;refine uA ?_;refine qs rfl (du (b:=true) (L0:=L) my hm (dm [_] hB.hs) (hZ.trans (mapB _ _)) rfl rfl rfl rfl rfl rfl (fun e hZ=>?_));exact eh
    ·rw[bR e7]at hZ;refine uA ?_;refine qs rfl (du (b:=(decide (g5.kind=3))) (L0:=L) my hm (dm [_] hB.hs) (hZ.trans (mapB _ _)) rfl rfl rfl rfl rfl rfl (fun e hZ=>?_));exact eh
 rw[if_neg e1]at hZ;refine uA ?_;refine am (fun e2=>?_) (fun e2=>?_)
 ·rw[if_pos e2]at hZ;refine uA ?_;refine qs rfl (du (b:=decide ((sl.len:Int)=1)) (L0:=L) my (cC _) (hB.hs.cons _) (hZ.trans oo) rfl rfl rfl rfl rfl rfl (fun e hZ=>?_));have e1:l.length=1:=mW;clear e
  match l,e1,hS,hex,hB,hlen,hZ with
  | [a],_,hS,hex,hB,hlen,hZ =>
   refine j0 ?_;rintro b' i' h' hrd hA;refine jV ?_;refine qs rfl (OT.ck (L0:=L) [_] q (typed_ck 1 (hex a mx F sc w m h' (rTree_iff.1 hrd) hC)) hB my (cC _) (dl _) (hZ.trans (mapB _ _)) nt rfl rfl rfl rfl rfl rfl goes160 (fun v m1 k T1 hZ hm _ hV hB=>?_));obtain⟨-,-,bk,rfl,hX⟩:=hV;refine uA ?_;refine av (hs:=[bk]) (l:=[bk]) tab rPtr ⟨rfl,trivial⟩ uH mw (fun sA m2 hm2 hsA _ _=>?_);replace hB:=hB.mono hm2 (bF _);replace hm:=cD hm hm2;refine jE ?_;refine jx ?_;refine jx ?_;refine cJ rfl (L':=.cells b 0 (exC 51 ⟨7,[],0,nilS⟩ txt (-1) sA how none none)::T1) uS ⟨_,_,T1,hZ,hm,dr (x:=⟨51,tk 7,true,2,false⟩) (dk _ _ _ _) (tg_mk _ _ _ _ (fun e=>by omega) (fun _=>⟨by decide,by decide⟩) (fun x hx=>by cases hx)) mx mK mK mx mx mx mx (fun _ _=>rfl),rfl,hB⟩
 rw[if_neg e2]at hZ;refine uA ?_;refine am (fun e3=>?_) (fun e3=>?_)
 ·rw[if_pos e3]at hZ;refine uA ?_;refine qs rfl (du (b:=decide ((sl.len:Int)=1)) (L0:=L) my (cC _) (hB.hs.cons _) (hZ.trans oo) rfl rfl rfl rfl rfl rfl (fun e hZ=>?_));have e1:l.length=1:=mW;clear e
  match l,e1,hS,hex,hB,hlen,hZ with
  | [a],_,hS,hex,hB,hlen,hZ =>
   refine j0 ?_;rintro b' i' h' hrd hA;refine jV ?_;refine qs rfl (OT.ck (L0:=L) [_] q (value_ck (hex a mx F sc w m h' (rTree_iff.1 hrd) hC)) hB my (cC _) (dl _) hZ nt rfl rfl rfl rfl rfl rfl goes157 (fun v m1 k T1 hZ hm _ hV hB=>?_));obtain⟨-,bk,rfl,hX⟩:=hV;refine uA ?_;refine av (hs:=[bk]) (l:=[bk]) tab rPtr ⟨rfl,trivial⟩ uH mw (fun sA m2 hm2 hsA _ _=>?_);replace hX:=hX.mono hm2;replace hB:=hB.mono hm2 (bF _);replace hm:=cD hm hm2;obtain⟨t5,kk5,v5,f5,⟨⟨g5,num5,how5,hr5,hA5,-⟩,hg5⟩⟩:=hX.eb;have hk5:=hr5.kind;rw[←hk5]at hZ;refine jE ?_;refine j5 ?_;refine lg ?_;rintro b6 i6 h6 hrd6 hA6;obtain rfl:h6=bk:=hrd6;refine ap tab hA6 ?_;refine ah hA5 ?_;refine az (fun e6=>?_) (fun e6=>?_)
   ·rw[bQ e6]at hZ;refine uA ?_;refine qs rfl (du (b:=true) (L0:=L) my hm (dm [_] hB.hs) (hZ.trans (mapB _ _)) rfl rfl rfl rfl rfl rfl (fun e hZ=>?_));exact eP
   ·rw[bR e6]at hZ;refine uA ?_;refine qs rfl (du (b:=(decide (g5.kind=3))) (L0:=L) my hm (dm [_] hB.hs) (hZ.trans (mapB _ _)) rfl rfl rfl rfl rfl rfl (fun e hZ=>?_));exact eP
 rw[if_neg e3]at hZ;have e4:how=4:=mv;refine uA ?_;refine qs rfl (du (b:=decide ((sl.len:Int)=2)) (L0:=L) my (cC _) (hB.hs.cons _) (hZ.trans (by rw[show decide (l.length=2)=decide ((sl.len:Int)=2) from decide_eq_decide.2 mv])) rfl rfl rfl rfl rfl rfl (fun e hZ=>?_));have e1:l.length=2:=mW;clear e
 match l,e1,hS,hex,hB,hlen,hZ with
 | [a,c],_,hS,hex,hB,hlen,hZ =>
  replace hZ:Z=(ofC ex 6 (plain sc) a).bind fun s=>(assignC E.tbl ex (plain sc) [c] s.type.kids).map fun _=>⟨51,s.type,false,4,false⟩:=hZ;refine j0 ?_;rintro b' i' h' hrd hA;refine jV ?_;refine qs rfl (OT.ck (L0:=L) [_] (q+cst c) (typed_ck 6 (hex a mx F sc w m h' (rTree_iff.1 hrd) hC)) hB my (cC _) (dl _) hZ nC rfl rfl rfl rfl rfl rfl goes160 (fun v m1 k T1 hZ hm _ hV hB=>?_));obtain⟨hk6,-,bk,rfl,hX⟩:=hV;obtain⟨t5,kk5,v5,f5,⟨⟨g5,num5,how5,hr5,hA5,-⟩,hg5⟩⟩:=hX.eb;have hS1:=hS.mono hm;refine uA ?_;refine TC.draw [15] df 16 rfl [.cells b 0 (exC 51 zH txt num nilS how none none)] T1 uP ?_;refine cV tab uC uK [0,1,3,4,6,7,8,9] uK rfl ?_;refine ai (k:=4) 10 hA5 ?_;refine DO.cutS tab rTree 5 1 2 hS1 uC uK uK rfl rfl rfl rfl rfl rfl rfl rfl rfl (.inr rfl) (.inl ⟨rfl,by simp only[a7,a8]at hlen;omega⟩) mw mx (fun sc2 hsc2=>?_);replace hsc2:SlRep rTree m1 sc2 [c]:=hsc2;have hasg:∀ m2,m1≤m2→KtE Tryz.prog 154 [ptr F.c,sc2.v,g5.kids.v] E F sc w (cstL [c]) m2 (assignC E.tbl ex (plain sc) [c] k.type.kids) (vOut [c]):=fun m2 h2=>assign_ck ((hC.mono hm).mono h2) (hsc2.mono h2) (fun n hn=>hex n (by simp at hn;simp[hn])) (hr5.kids.mono h2);refine DO.fork 2 [11] uK ⟨⟨_,rfl,rfl,rfl,?_⟩,⟨_,rfl,rfl,rfl,?_⟩,trivial⟩
  ·refine aM (hs:=[bk]) (l:=[bk]) tab rPtr ⟨rfl,trivial⟩ uH mw (fun sA m2 hm2 hsA hoA hcA=>?_);refine⟨hm2,T1,a9 _,?_⟩;refine af 11 ?_;refine OT.ck (L0:=L) [_] q (hasg m2 hm2) (hB.mono hm2 (bF _)) my (cD hm hm2) (dl _) (hZ.trans (mapB _ _)) nt rfl rfl rfl rfl rfl rfl goes154 (fun v m3 u T2 hZ hm3 hm' hV hB=>?_);obtain⟨sB,xs,rfl,hsB,hxs⟩:=hV;refine⟨hm3,T2,a9 _,?_⟩;refine af 12 ?_;refine OT.tokFo hcA hoA 1 ?_;refine cU tab rPtr 0 (hsA.mono hm3) hoA hsB rfl rfl rfl rfl rfl rfl rfl (by simp only[a7,a8,rPtr]at hxs ⊢;omega) (fun s' m4 hm4 hs' ho'=>?_);exact eC
  ·refine OT.ck (L0:=L) [_] q (hasg m1 (cC _)) hB my hm (dl _) (hZ.trans (mapB _ _)) nt rfl rfl rfl rfl rfl rfl goes154 (fun v m2 u T2 hZ hm2 hm' hV hB=>?_);obtain⟨sB,xs,rfl,hsB,hxs⟩:=hV;refine⟨hm2,T2,a9 _,?_⟩;refine af 2 ?_;refine aM (hs:=[bk]) (l:=[bk]) tab rPtr ⟨rfl,trivial⟩ uH mw (fun sA m3 hm3 hsA hoA hcA=>?_);refine⟨hm3,T2,a9 _,?_⟩;replace hsB:=hsB.mono hm3;replace hB:=hB.mono hm3 (bF _);replace hm':=cD hm' hm3;refine af 12 ?_;refine OT.tokFo hcA hoA 1 ?_;refine cU tab rPtr 0 hsA hoA hsB rfl rfl rfl rfl rfl rfl rfl (by simp only[a7,a8,rPtr]at hxs ⊢;omega) (fun s' m4 hm4 hs' ho'=>?_);exact eC
end
end Go.Sep
namespace Go.Sep
open Go.Proofs Go.Ck
section
variable {P:Program} {ρ:Env} {m:Mem} {L:List Item}
theorem cretQ_ret_c3 (T:Tab P) (i:Nat) {fn:Func} {R:Value→Mem→List Item→Prop} {X:List PanicEntry→Mem→List Item→Prop} {t u u2:Nat} {ty:TypeId} {b:Nat} {cs:List Value} {v v2 v3:Value} {L':List Item}
  (hres:fn.results=⟨[.cell t ty,.tmp u,.tmp u2]⟩) (ht:look ρ t=some (.pointer (some ⟨b,0,none⟩))) (hi:L[i]? = some (.cells b 0 cs)) (hv:T.load ty cs 0=some v) (hu:look ρ u=some v2) (hu2:look ρ u2=some v3) (hs:L'.Sublist L)
  (h:R (.tuple ⟨[v,v2,v3]⟩) m L'):retQ P fn R X .ret ρ [] m L:=by
 refine⟨rfl,_,L',fun a w hA hst=>?_,hs,h⟩;have h1:=run_loadVar (P:=P) T (k:=0) (hst.cells hi) hv;have h2:=hA t _ ht;have h3:=hA u _ hu;have h4:=hA u2 _ hu2;unfold results;rw[hres,Array.mapM_eq_mapM_toList];simp[Sem.run_map,h2,h3,h4,asAddr,h1]
end
attribute [local irreducible] TC TO OT TCallX TCall DO DOt thenQ blockQ retQ At
theorem method_no {n:Tree} (hn:n.kind≠48) (c:Nat) (m:Mem) (L:List Item) (h:HTree) (hr:TreeRep m h n) :
  TCall Tryz.prog 208 ⟨[ptr c,treeV h]⟩ m L (Ret (.tuple ⟨[treeV zH,.pointer none,.bool false]⟩) m L):=by
 have hr1:=hr.kind;unfold TCall;refine ak Tryz.func208 115 ?_;refine oB (fun b3=>?_);refine uA ?_;refine oA tab (fun b4=>?_);refine uL ?_;refine aY (fun e=>?_) (fun e=>?_)
 ·refine uA ?_;refine jx ?_;refine cretQ_ret_c3 tab 0 rfl rfl rfl rfl rfl rfl (L':=L) uS ⟨rfl,rfl,rfl⟩
 ·exfalso;omega
def methC (tbl:List Decl) (ex:Sc→Tree→Option X) (sc:Sc) (f:Tree):Option (X×Option Tree) :=
 (valC ex sc (kid f 0)).bind fun r=>match memF (methodsD tbl r.type) f.name with
  | some m=>(Ck.want (!isStructD tbl r.type||r.place)).map fun _=>(r,some m.type)
  | none=>(lastF ((fieldsD tbl r.type).getD []) f.name).map fun t=>(⟨48,t,false,0,decide (r.type.kind=5)||r.place⟩,none)
def vMth (sc:List GS):Mem→Value→X×Option Tree→Prop:=fun m v p=>∃ b ht,ExAt (inV sc) m b p.1∧v = .tuple ⟨[treeV ht,ptr b,.bool p.2.isSome]⟩∧TreeRep m ht (p.2.getD zeroT)∧∀ t,p.2=some t→tg t=true
section
variable {E:CE} {F:CF} {sc:List GS} {w:Nat} {ex:Sc→Tree→Option X}
theorem method_ck {m:Mem} (hC:CkOk E F sc m) {n y:Tree} {h:HTree} (hr:TreeRep m h n) (hn:n.kind=48) (hk:n.kids=[y]) (hy:ExOk E ex y) :
  KtE Tryz.prog 208 [ptr F.c,treeV h] E F sc w (cst y) m (methC E.tbl ex (plain sc) n) (vMth sc):=by
 refine dt Tryz.func208 rfl 115 rfl fun T L q Z hZ hB=>?_;unfold methC at hZ;have hkid:kid n 0=y:=na;rw[hkid]at hZ;obtain⟨hr1,hr2,hr3,hr4⟩:=hr;rw[hk]at hr4;refine uA ?_;refine oB (fun b3=>?_);refine uA ?_;refine oA tab (fun b4=>?_);refine uL ?_;refine aY (fun e=>?_) (fun e=>?_)
 ·exfalso;omega
 refine uL ?_;refine jI ?_;rintro b' i' h' hrd hA;refine jV ?_;refine qs rfl (OT.ck (L0:=L) [_,_] q (value_ck (hy F sc w m h' (rTree_iff.1 hrd) hC)) hB mH (cC _) (dl _) hZ (bF _) rfl rfl rfl rfl rfl rfl goes157 (fun v m1 k T1 hZ hm _ hV hB=>?_));obtain⟨-,bk,rfl,hX⟩:=hV;obtain⟨t2,k2,v2,f2,⟨⟨g2,num2,how2,hr5,hA2,-⟩,hg2⟩⟩:=hX.eb;replace hC:=hC.mono hm;have hk2:=hr5.kind;have hme:=hC.me;have hpr:=hC.tbl.prog;refine uA ?_;have hml:=tmethod_law k.type (fun e=>tg_one hg2 (.inl e)) n.name E.bt E.cc E.es E.tbl m1;refine aL [] df 20 [_,_] T1 (a9 _) ?_;refine cV tab uC uK [0,1,2,7,8,9,11] uK rfl ?_;refine ai (k:=0) 3 hme ?_;refine lW ?_;refine ai (k:=0) 6 hpr ?_;refine ai (k:=1) 10 hA2 ?_;refine ae (k:=1) 12 1 ?_;rw[hr2];refine DO.fork 13 [17] uK ⟨⟨_,rfl,rfl,rfl,?_⟩,⟨_,rfl,rfl,rfl,?_⟩,trivial⟩
 ·refine cR rfl rfl rfl rfl rfl rfl goes217 ((hml _ g2 hr5 hC.tbl.tb hC.tbl.tr).x ?_);rintro _ m2 _ ⟨hm2,rfl,ht,rfl,hht⟩;refine⟨hm2,T1,a9 _,?_⟩;refine cV tab uC uK [14,15,16] uK rfl ?_;refine af 17 ?_;refine OT.alloc tab rfl rfl rfl rfl (fun b8=>?_);refine lC ?_;refine mr ?_;replace hX:=hX.mono hm2;replace hB:=hB.mono hm2 (bF _);replace hm:=cD hm hm2;replace hC:=hC.mono hm2;replace hr5:=hr5.mono hm2;replace hA2:=hA2.mono hm2;have hme:=hC.me;have hpr:=hC.tbl.prog;cases hmf:memF (methodsD E.tbl k.type) n.name with
  | some f =>
   exact dQ
  | none =>
   rw[hmf]at hZ;replace hZ:Z=(lastF ((fieldsD E.tbl k.type).getD []) n.name).map fun t=>(⟨48,t,false,0,decide (k.type.kind=5)||k.place⟩,none):=hZ;refine uL ?_;refine av (hs:=[bk]) (l:=[bk]) tab rPtr ⟨rfl,trivial⟩ uH mw (fun sA m3 hm3 hsA _ _=>?_);replace hX:=hX.mono hm3;replace hB:=hB.mono hm3 (bF _);replace hm:=cD hm hm3;replace hC:=hC.mono hm3;replace hr5:=hr5.mono hm3;replace hA2:=hA2.mono hm3;have hme:=hC.me;have hpr:=hC.tbl.prog;refine uA ?_;refine oB (fun b10=>?_);refine uA ?_;refine aU [] df 17 ?_;refine jD ?_;refine kL ?_;rintro _ m4 _ ⟨hm4,rfl,sf,rfl,hsf⟩;refine⟨hm4,_,a9 _,?_⟩;refine cV tab uC uK [12,13,14,15,16] uK rfl ?_;refine aN ?_
   rotate_left 1
   replace hX:=hX.mono hm4;replace hB:=hB.mono hm4 (bF _);replace hm:=cD hm hm4;replace hC:=hC.mono hm4;replace hsA:=hsA.mono hm4;have hlen:=hsf.len;have hsm:=hsf.small rfl;refine jS ?_;generalize hfl:(fieldsD E.tbl k.type).getD []=fl at hsf hZ hlen hsm;refine jQ ?_;rintro⟨i,nu,hty⟩ ⟨hi,hF⟩;simp only at hi hF;refine uA ?_;refine am (fun hlt=>?_) (fun hlt=>?_)
   ·exact dP
   ·exact dU
 ·refine OT.alloc tab rfl rfl rfl rfl (fun b8=>?_);refine lC ?_;refine af 13 ?_;refine cR rfl rfl rfl rfl rfl rfl goes217 ((hml _ g2 hr5 hC.tbl.tb hC.tbl.tr).x ?_);rintro _ m2 _ ⟨hm2,rfl,ht,rfl,hht⟩;refine⟨hm2,_,a9 _,?_⟩;refine cV tab uC uK [14,15,16] uK rfl ?_;refine mr ?_;replace hX:=hX.mono hm2;replace hB:=hB.mono hm2 (bF _);replace hm:=cD hm hm2;replace hC:=hC.mono hm2;replace hr5:=hr5.mono hm2;replace hA2:=hA2.mono hm2;have hme:=hC.me;have hpr:=hC.tbl.prog;cases hmf:memF (methodsD E.tbl k.type) n.name with
  | some f =>
   exact dQ
  | none =>
   rw[hmf]at hZ;replace hZ:Z=(lastF ((fieldsD E.tbl k.type).getD []) n.name).map fun t=>(⟨48,t,false,0,decide (k.type.kind=5)||k.place⟩,none):=hZ;refine uL ?_;refine av (hs:=[bk]) (l:=[bk]) tab rPtr ⟨rfl,trivial⟩ uH mw (fun sA m3 hm3 hsA _ _=>?_);replace hX:=hX.mono hm3;replace hB:=hB.mono hm3 (bF _);replace hm:=cD hm hm3;replace hC:=hC.mono hm3;replace hr5:=hr5.mono hm3;replace hA2:=hA2.mono hm3;have hme:=hC.me;have hpr:=hC.tbl.prog;refine uA ?_;refine oB (fun b10=>?_);refine uA ?_;refine aU [] df 17 ?_;refine jD ?_;refine kL ?_;rintro _ m4 _ ⟨hm4,rfl,sf,rfl,hsf⟩;refine⟨hm4,_,a9 _,?_⟩;refine cV tab uC uK [12,13,14,15,16] uK rfl ?_;refine aN ?_
   rotate_left 1
   replace hX:=hX.mono hm4;replace hB:=hB.mono hm4 (bF _);replace hm:=cD hm hm4;replace hC:=hC.mono hm4;replace hsA:=hsA.mono hm4;have hlen:=hsf.len;have hsm:=hsf.small rfl;refine jS ?_;generalize hfl:(fieldsD E.tbl k.type).getD []=fl at hsf hZ hlen hsm;refine jQ ?_;rintro⟨i,nu,hty⟩ ⟨hi,hF⟩;simp only at hi hF;refine uA ?_;refine am (fun hlt=>?_) (fun hlt=>?_)
   ·exact dP
   ·exact dU
end
end Go.Sep
namespace Go.Sep
open Go.Proofs Go.Ck
attribute [local irreducible] TC TO OT TCallX TCall DO DOt thenQ blockQ retQ At
def callTail (tbl:List Decl) (ex:Sc→Tree→Option X) (sc:Sc) (args:List Tree) (c:Tree×Int):Option X :=
 (Ck.want (decide (c.1.kind=7)&&decide ((args.length:Int)=c.1.num))).bind fun _=>(eachC tbl ex sc args c.1.kids).map fun _=>match c.1.kids.drop c.1.num.toNat with
  | [t]=>⟨51,t,false,c.2,false⟩
  | ts=>⟨51,.mk 7 [] 0 ts,true,c.2,false⟩
def calleeP (tbl:List Decl) (p:X×Option Tree):Tree×Int:=match p.2 with
 | some t=>(t,if isIfaceD tbl p.1.type then 6 else 5)
 | none=>(p.1.type,0)
theorem callee_meth {tbl:List Decl} {ex:Sc→Tree→Option X} {sc:Sc} {f:Tree} (h:f.kind=48):calleeC tbl ex sc f=(methC tbl ex sc f).map (calleeP tbl):=by
 unfold calleeC methC;rw[if_pos h];cases valC ex sc (kid f 0)with
 | none=>rfl
 | some r =>
  refine lj ?_;cases memF (methodsD tbl r.type) f.name with
  | some m=>cases Ck.want (!isStructD tbl r.type||r.place)<;>rfl
  | none=>cases lastF ((fieldsD tbl r.type).getD []) f.name<;>rfl
theorem builtin_pos {x:Str} (h:0<builtinD x):builtinD x=1∨builtinD x=2∨builtinD x=3∨builtinD x=4:=by
 unfold builtinD at h ⊢
 repeat' split
 all_goals simp_all
theorem pfC {α:Type} {a b c d e:α} {L:List α}:(a::b::c::d::e::L).Perm ([a,c]++(b::d::e::L)):=mF
theorem pfD {α:Type} {t a b:α} {L:List α}:(t::a::b::L).Perm ([a,b]++(t::L)):=mF
theorem pfG {α:Type} {p a b c d:α} {T2 T3:List α} (h:T2.Perm (p::T3)):(a::b::c::d::T2).Perm (p::a::b::c::d::T3):=(by classical exact List.perm_iff_count.2 (fun pa=>by have pz0:=List.Perm.count_eq h pa;simp only[List.count_cons]at pz0 ⊢;omega))
theorem pfH {α:Type} {a b t c:α} {L:List α}:(a::t::b::c::L).Perm ([a,b,c]++(t::L)):=mF
theorem pfI {α:Type} {a b t c:α} {L:List α}:(a::b::c::t::L).Perm (t::b::c::a::L):=mJ
theorem take_drop_one {α:Type} {l:List α} {i:Nat} (h:i<l.length):(l.take (i+1)).drop i=[l[i]]:=by
 rw[cq h,List.drop_append_of_le_length mK,List.drop_of_length_le mK];rfl
theorem pfE {α:Type} {t a:α} {L:List α}:(t::a::L).Perm ([a]++(t::L)):=ba _ _ _
section
variable {E:CE} {F:CF} {sc:List GS} {w:Nat} {ex:Sc→Tree→Option X}
theorem call_ck {m:Mem} (hC:CkOk E F sc m) {n f:Tree} {args:List Tree} {h:HTree} (hr:TreeRep m h n) (hk:n.kids=f::args) (hf:ExOk E ex f) (hargs:∀ a∈args,ExOk E ex a) (hf48:f.kind=48→∃ y,f.kids=[y]∧ExOk E ex y) (hnum:0≤n.num) (b:Nat) :
  KtX Tryz.prog 186 [ptr F.c,ptr b,treeV h] E F sc w (1+cst f+cstL args) m b (exC 51 zH n.name n.num nilS 0 none none) (callC E.tbl ex (plain sc) n):=by
 refine KtX.enter Tryz.func186 rfl 253 rfl fun T L q Z hZ hB=>?_;unfold callC at hZ;have hkid:kid n 0=f:=na;have hdr:n.kids.drop 1=args:=by rw[hk];rfl
 rw[hkid,hdr]at hZ;obtain⟨hr1,hr2,hr3,hr4⟩:=hr;rw[hk]at hr4;have hlen:=hr4.len;have hfit:h.kids.len*56≤140737488355328:=hr4.fit;simp only[a7]at hlen;refine uA ?_;refine oB (fun b5=>?_);refine uA ?_;refine aL [] df 10 [.cells b5 0 (treeC h)] _ (a9 _) ?_;refine cV tab uC uK [0,4] uK rfl ?_;refine ae (k:=3) 1 0 ?_;refine ae (k:=3) 5 0 ?_;refine DO.index tab rTree 2 0 hr4 uC uK uK rfl rfl rfl rfl rfl rfl rfl rfl rfl rfl ?_;intro b' i' fh hrdf hAf;refine ai (k:=0) 3 hAf ?_;refine DO.cutS tab rTree 6 1 (1+args.length) hr4 uC uK uK rfl rfl rfl rfl rfl rfl rfl rfl rfl (.inr rfl) (.inl ⟨rfl,by omega⟩) mv mV (fun sa hsa=>?_);replace hsa:SlRep rTree m sa args:=by
  have e:(List.take (1+args.length) (f::args)).drop 1=args:=oe;rw[e]at hsa;exact hsa
 refine af 7 ?_;refine OT.alloc tab rfl rfl rfl rfl (fun b6=>?_);refine lC ?_;refine af 8 ?_;refine aD 1 ?_;refine jF ?_;refine cV tab uC uK [9] uK rfl ?_;refine aV ?_;have hfr:=rTree_iff.1 hrdf;have hfk:=hfr.kind;have hfn:=hfr.name;refine cF ?_;refine TC.perm (L':=.cells b6 0 (treeC fh)::.cells b5 0 (treeC h)::.cells b 0 (exC 51 zH n.name n.num nilS 0 none none)::T) (ba _ _ _) ?_;refine TC.seq ?_;refine TC.cutT (ι:=Mem×List Item) [0,1,6,7] rfl (fun _=>[]) (fun y=>y.1) (fun y=>.cells b6 0 (treeC fh)::.cells b5 0 (treeC h)::.cells b 0 (exC 51 zH n.name n.num nilS 0 none none)::y.2) (fun y=>m≤y.1∧Bun E F sc w (q+(cst f+cstL args)) y.1 y.2 L∧Z=(calleeC E.tbl ex (plain sc) f).bind (callTail E.tbl ex (plain sc) args)) ?_ ?_
 ·refine uL ?_;have hno:¬(f.kind=44∧0<builtinD f.name∧lookS (plain sc) f.name=none)→Z=(calleeC E.tbl ex (plain sc) f).bind (callTail E.tbl ex (plain sc) args):=fun hn=>by rw[hZ,if_neg hn];rfl
  refine az (fun e1=>?_) (fun e1=>?_)
  ·refine uL ?_;refine oC goes62 ((builtin_law fh.name _ _).x ?_);rintro _ m1 _ ⟨hm1,rfl,rfl⟩;replace hB:=hB.mono hm1 (bF _);refine uA ?_;refine az (fun e2=>?_) (fun e2=>?_)
   ·refine uL ?_;refine qs rfl (OT.ck (L0:=L) [_,_,_] (q+(cst f+cstL args)) (look_ck (hC.mono hm1) fh.name) hB mH hm1 (dl _) (g:=fun o=>match o with | none=>builtC E.tbl ex (plain sc) (builtinD fh.name) args | some _=>(calleeC E.tbl ex (plain sc) f).bind (callTail E.tbl ex (plain sc) args)) (by
     rw[hfn];cases hl:lookG sc f.name with
     | none=>rw[hZ,if_pos ⟨by omega,by rw[←hfn];omega,by rw[look_plain,hl];rfl⟩];rfl
     | some v=>exact hno (fun hn=>by rw[look_plain,hl]at hn;cases hn.2.2)) mv rfl rfl rfl rfl rfl rfl goes185 (fun v m2 o T1 hZ hm2 hm' hV hB=>?_))
    obtain⟨rfl,-⟩:=hV;cases o with
    | none =>
     refine kB ?_;refine uL ?_;refine oC goes62 ((builtin_law fh.name _ _).x ?_);rintro _ m3 _ ⟨hm3,rfl,rfl⟩;replace hB:=hB.mono hm3 (bF _);replace hm':=cD hm' hm3;refine uA ?_;refine cM (L':=.cells b 0 (exC 51 zH n.name n.num nilS 0 none none)::([.cells b6 0 (treeC fh),.cells b5 0 (treeC h)]++T1)) mF ?_;refine qs rfl (OT.ckX (L0:=L) [_,_] q (builtin_ck (hC.mono hm') (builtin_pos mv) (hsa.mono hm') hargs b n.name n.num hnum) hB mH hm' (dl _) (g:=some) (by rw[hZ];show builtC E.tbl ex (plain sc) (builtinD fh.name) args=_;cases builtC E.tbl ex (plain sc) (builtinD fh.name) args<;>rfl) mv rfl rfl rfl rfl rfl rfl goes207 (fun v m4 a cs' T2 hZ hm4 hm5 hX hB=>?_));refine uA ?_;refine ag (L':=.cells b 0 cs'::T2) ⟨a,cs',T2,hZ,hm5,hX,rfl,hB⟩
    | some v =>
     refine kB ?_;refine uA ?_;exact⟨(m2,T1),uH,uH,rfl,rfl,uS,⟨hm',hB,hZ⟩⟩
   ·refine uA ?_;exact⟨(m1,T),uH,uH,rfl,rfl,uS,⟨hm1,hB.mono (cC _) mv,hno fun hn=>by rw[←hfn]at hn;omega⟩⟩
  ·refine uA ?_;exact⟨(m,T),uH,uH,rfl,rfl,uS,⟨cC _,hB.mono (cC _) mv,hno fun hn=>by omega⟩⟩
 ·rintro⟨m1,T1⟩ ⟨hm,hB,hZ⟩;simp only at hm hB hZ;replace hC:=hC.mono hm;replace hfr:=hfr.mono hm;replace hsa:=hsa.mono hm;refine TC.seq ?_;refine TC.region ?_;refine oA tab (fun b8=>?_);refine j6 ?_;refine TC.cutT (ι:=Str×Sl×Int×Option Nat×HTree×(Tree×Int)×Mem×List Item×List Nat) [0,1,7,8] rfl (fun _=>[]) (fun y=>y.2.2.2.2.2.2.1) (fun y=>tok y.2.1 1::.cells b8 0 (treeC y.2.2.2.2.1)::.cells b 0 (exC 51 zH y.1 n.num y.2.1 y.2.2.1 none y.2.2.2.1)::y.2.2.2.2.2.2.2.1) (fun y=>m1≤y.2.2.2.2.2.2.1∧SlRep rPtr y.2.2.2.2.2.2.1 y.2.1 y.2.2.2.2.2.2.2.2∧Own y.2.1∧y.2.2.2.2.2.2.2.2.length≤1∧TreeRep y.2.2.2.2.2.2.1 y.2.2.2.2.1 y.2.2.2.2.2.1.1∧tg y.2.2.2.2.2.1.1=true∧y.2.2.1≠3∧y.2.2.1≠4∧y.2.2.2.2.2.1.2≠3∧y.2.2.2.2.2.1.2≠4∧Bun E F sc w (q+cstL args) y.2.2.2.2.2.2.1 y.2.2.2.2.2.2.2.1 L∧Z=callTail E.tbl ex (plain sc) args y.2.2.2.2.2.1) ?_ ?_
  ·by_cases h48:f.kind=48
   ·obtain⟨y,hky,hoy⟩:=hf48 h48;have hcy:cst y≤cst f:=by rw[cst_eq f,hky];simp only[cstL];omega
    rw[callee_meth h48]at hZ;refine uL ?_;refine qs rfl (OT.ck (L0:=L) [_,_,_,_] (q+cstL args) (method_ck hC hfr h48 hky hoy) hB mH hm (dl _) (g:=fun p=>callTail E.tbl ex (plain sc) args (calleeP E.tbl p)) (hZ.trans (by cases methC E.tbl ex (plain sc) f<;>rfl)) mv rfl rfl rfl rfl rfl rfl goes208 (fun v m2 p T2 hZ hm2 hm' hV hB=>?_));obtain⟨bk,ht9,hX,rfl,hht9,htg9⟩:=hV;obtain⟨xr,om⟩:=p;replace hC:=hC.mono hm2;obtain⟨t2,k2,v2,f2,⟨⟨g2,num2,how2,hr5,hA2,-⟩,hg2⟩⟩:=hX.eb;refine uA ?_;refine aC tab (fun b9=>?_);refine jx ?_;cases om with
    | none =>
     refine lK ?_
     rotate_left 1
     refine uA ?_;refine aW (e:=195) ?_;refine av (hs:=[bk]) (l:=[bk]) tab rPtr ⟨rfl,trivial⟩ uH mw (fun sA m3 hm3 hsA hoA hcA=>?_);refine TO.tokFo hcA hoA 1 ?_;have hA3:=hA2.mono hm3;refine jE ?_;refine ah hA3 ?_;refine jx ?_;exact⟨(n.name,sA,0,none,g2,(xr.type,0),m3,T2,[bk]),uH,uH,rfl,rfl,uS,⟨cD hm2 hm3,hsA,hoA,bF _,hr5.mono hm3,hg2,(show(0:Int)≠3 by decide),(show(0:Int)≠4 by decide),by simp,by simp,hB.mono hm3 (bF _),hZ⟩⟩
    | some t =>
     have hme:=hC.me;have hpr:=hC.tbl.prog;have htg:=htg9 t rfl;replace hht9:TreeRep m2 ht9 t:=hht9;refine aU [] df 16 ?_;refine cV tab uC uK [0,1,2,3,4] uK rfl ?_;refine ai 5 hme ?_;refine cV tab uC uK [6,7] uK rfl ?_;refine ai 8 hpr ?_;refine cV tab uC uK [9,10,11] uK rfl ?_;refine ai 12 hA2 ?_;refine af 13 (cR rfl rfl rfl rfl rfl rfl goes204 ((tiface_law xr.type E.bt E.cc E.es E.tbl _ _ g2 hr5 hC.tbl.tb hC.tbl.tr).x ?_));rintro _ _ _ ⟨rfl,rfl,rfl⟩;refine⟨cC _,_,a9 _,?_⟩;refine cV tab uC uK [14,15] uK rfl ?_;refine aN ?_
     rotate_left 1
     refine uA ?_;refine aO (t:=isIfaceD E.tbl xr.type) (fun e6=>?_) (fun e6=>?_)
     ·replace hZ:Z=callTail E.tbl ex (plain sc) args (t,6):=by rw[hZ];unfold calleeP;simp only[e6,if_true]
      refine uA ?_;refine aL [] df 18 [.cells b9 0 (treeC ht9),.cells b6 0 (treeC fh)] (.cells b8 0 (treeC zH)::.cells b5 0 (treeC h)::.cells b 0 (exC 51 zH n.name n.num nilS 0 none none)::T2) pfC ?_;refine cV tab uC uK [0,1,2,3,5,8,9] uK rfl ?_;refine ae (k:=1) 4 1 ?_;refine ae (k:=0) 7 0 ?_;refine DO.fork 6 [10] uK ⟨⟨_,rfl,rfl,rfl,?_⟩,⟨_,rfl,rfl,rfl,?_⟩,trivial⟩
      ·skip;refine aM (hs:=[bk]) (l:=[bk]) tab rPtr ⟨rfl,trivial⟩ uH mw (fun sA m3 hm3 hsA hoA hcA=>?_);refine⟨hm3,_,a9 _,?_⟩;refine af 10 ?_;refine an (k:=8) 4 ?_;refine jF ?_;refine kT ?_;refine af 13 ?_;refine an (k:=5) 4 ?_;refine jF ?_;exact eg
      ·skip;refine an (k:=8) 4 ?_;refine jF ?_;refine kT ?_;refine DO.fork 6 [13] uK ⟨⟨_,rfl,rfl,rfl,?_⟩,⟨_,rfl,rfl,rfl,?_⟩,trivial⟩
       ·skip;refine aM (hs:=[bk]) (l:=[bk]) tab rPtr ⟨rfl,trivial⟩ uH mw (fun sA m3 hm3 hsA hoA hcA=>?_);refine⟨hm3,_,a9 _,?_⟩;refine af 13 ?_;refine an (k:=5) 4 ?_;refine jF ?_;exact eg
       ·skip;refine an (k:=5) 4 ?_;refine jF ?_;refine af 6 ?_;refine aM (hs:=[bk]) (l:=[bk]) tab rPtr ⟨rfl,trivial⟩ uH mw (fun sA m3 hm3 hsA hoA hcA=>?_);refine⟨hm3,_,a9 _,?_⟩;exact eg
     ·replace hZ:Z=callTail E.tbl ex (plain sc) args (t,5):=by rw[hZ];unfold calleeP;simp only[e6];rfl
      refine uA ?_;refine uG ?_;refine TC.cutT (ι:=Sl×Mem) [0,1,6,7,8,10] rfl (fun _=>[]) (fun y=>y.2) (fun y=>tok y.1 1::.cells b8 0 (treeC ht9)::.cells b6 0 (treeC fh)::.cells b 0 (exC 51 zH n.name n.num y.1 5 none none)::T2) (fun y=>m2≤y.2∧SlRep rPtr y.2 y.1 [bk]∧Own y.1) ?_ ?_
      ·refine aL [] df 12 [.cells b9 0 (treeC ht9)] _ (a9 _) ?_;refine cV tab uC uK [0,1,2,5,6] uK rfl ?_;refine ae (k:=0) 4 0 ?_;refine DO.fork 3 [7] uK ⟨⟨_,rfl,rfl,rfl,?_⟩,⟨_,rfl,rfl,rfl,?_⟩,trivial⟩
       ·skip;refine aM (hs:=[bk]) (l:=[bk]) tab rPtr ⟨rfl,trivial⟩ uH mw (fun sA m3 hm3 hsA hoA hcA=>?_);refine⟨hm3,_,a9 _,?_⟩;refine af 7 ?_;refine an (k:=8) 4 ?_;refine jF ?_;exact fv
       ·skip;refine an (k:=8) 4 ?_;refine jF ?_;refine af 3 ?_;refine aM (hs:=[bk]) (l:=[bk]) tab rPtr ⟨rfl,trivial⟩ uH mw (fun sA m3 hm3 hsA hoA hcA=>?_);refine⟨hm3,_,a9 _,?_⟩;exact fv
      ·rintro⟨sA,m3⟩ ⟨hm3,hsA,hoA⟩;simp only at hm3 hsA hoA;replace hA2:=hA2.mono hm3;replace hr5:=hr5.mono hm3;replace hht9:=hht9.mono hm3;replace hB:=hB.mono hm3 (bF _);have hme:=hme.mono hm3;have hg5:g2.kind=xr.type.kind:=hr5.kind;refine TC.seq ?_;refine TC.region ?_;refine TO.pureP tab rfl rfl ?_;refine qs rfl (OT.loadA (k:=2) tab hA2 rfl rfl rfl rfl rfl ?_);refine TO.pureP tab rfl rfl ?_;refine j6 ?_;refine TC.cutT (ι:=Str) [0,1,6,7,8] rfl (fun y=>[(12,strV y)]) (fun _=>m3) (fun _=>tok sA 1::.cells b8 0 (treeC ht9)::.cells b6 0 (treeC fh)::.cells b 0 (exC 51 zH n.name n.num sA 5 none none)::T2) (fun _=>True) ?_ ?_
       ·refine uA ?_;refine ah hA2 ?_;refine am (fun e5=>?_) (fun e5=>?_)
        ·have h1:=tg_one hg2 (.inl (hg5.symm.trans e5));have hx0:xr.type.kids[0]? = some (kid0 xr.type):=ol;have hr6:=hr5.kids;refine uA ?_;refine ah (k:=4) hA2 ?_;refine kY ?_;rintro b7 i7 h7 hrd7 hA7;refine uA ?_;refine ah (k:=1) hA7 ?_;exact⟨h7.name,uH,uH,rfl,rfl,uS,trivial⟩
        ·refine uA ?_;exact⟨g2.name,uH,uH,rfl,rfl,uS,trivial⟩
       ·rintro nm -
        obtain⟨fs,fl,T3,hfs,hfl,hT3⟩:=hB.fns;have hfle:=hfs.len;have hfls:=hfs.small rfl;refine uA ?_;refine ah hme ?_;refine cM (L':=.cells E.p 2 [fs.v]::tok sA 1::.cells b8 0 (treeC ht9)::.cells b6 0 (treeC fh)::.cells b 0 (exC 51 zH n.name n.num sA 5 none none)::T3) (pfG hT3) ?_;refine aP (k:=0) 0 ?_;refine cM (L':=tok sA 1::.cells b8 0 (treeC ht9)::.cells b6 0 (treeC fh)::.cells b 0 (exC 51 zH n.name n.num sA 5 none none)::T2) (pfG hT3).symm ?_;refine jS ?_;refine cH (ι:=Nat×Option Nat) [0,1,6,7,8,12,156,157] rfl (fun y=>[(158,.int .i64 (y.1:Int))]) (fun _=>m3) (fun y=>tok sA 1::.cells b8 0 (treeC ht9)::.cells b6 0 (treeC fh)::.cells b 0 (exC 51 zH n.name n.num sA 5 none y.2)::T2) (fun y=>y.1≤fl.length) (fun y=>fl.length-y.1) (0,none) uH rfl uS (cn _) ?_;rintro⟨i,fn⟩ hi;simp only at hi;refine uA ?_;refine am (fun hlt=>?_) (fun hlt=>?_)
        ·have hlt':i<fl.length:=mv;have hx:fl[i]? = some fl[i]:=mL;refine uA ?_;refine ar tab rGF i hfs uH mD rfl hx ?_;rintro b' i' g hrd hA;obtain⟨hgb,hgA⟩:=(show g=fl[i].b∧At m3 fl[i].b 0 [strV fl[i].name,strV fl[i].recv] from hrd)
         rw[←hgb]at hgA;refine jV ?_;refine aU [] df 15 ?_;refine kc ?_;refine ai 3 hgA ?_;refine cV tab uC uK [4,5,6] uK rfl ?_;refine DO.splitP (d:=168) rfl (fun hg6=>?_) (fun hg6=>?_);refine cV tab uC uK [7,8,9] uK rfl ?_;refine ai 10 hgA ?_;refine mc ?_;refine ae 12 2 ?_;refine cV tab uC uK [13,14] uK rfl ?_;refine aN ?_
         rotate_left 1
         refine cV tab uC uK [7,8,9,10,11,12,13,14] uK rfl ?_;refine aN ?_
         rotate_left 1
         ·refine uA ?_;refine am (fun e7=>?_) (fun e7=>?_)
          ·refine uA ?_;refine aj (k:=10) 3 ?_;refine jz ?_;exact⟨(i+1,some g),uH,uH,rfl,rfl,uS,(show i+1≤fl.length by omega),by simp only;omega⟩
          ·exact fY
         ·exact fY
        ·refine uA ?_;exact⟨(n.name,sA,5,fn,ht9,(t,5),m3,T2,[bk]),uH,uH,rfl,rfl,uS,⟨cD hm2 hm3,hsA,hoA,bF _,hht9,htg,(show(5:Int)≠3 by decide),(show(5:Int)≠4 by decide),by simp,by simp,hB,hZ⟩⟩
   ·refine uL ?_;refine au goes208 (method_no h48 _ _ _ fh hfr) ?_;refine aC tab (fun b9=>?_);refine jx ?_;refine lK ?_
    rotate_left 1
    refine uA ?_;refine qs rfl (OT.ptrNe (e:=195) tab rfl rfl rfl rfl rfl rfl ?_);have hcn:calleeC E.tbl ex (plain sc) f=(valC ex (plain sc) f).map fun k=>(k.type,0):=by unfold calleeC;rw[if_neg h48]
    rw[hcn]at hZ;refine uL ?_;refine qs rfl (OT.ck (L0:=L) [_,_,_,_,_] (q+cstL args) (value_ck (hf F sc w m1 fh hfr hC)) hB my hm (dl _) (g:=fun k=>callTail E.tbl ex (plain sc) args (k.type,0)) (hZ.trans (by cases valC ex (plain sc) f<;>rfl)) mv rfl rfl rfl rfl rfl rfl goes157 (fun v m2 k T2 hZ hm2 hm' hV hB=>?_));obtain⟨-,bk,rfl,hX⟩:=hV;obtain⟨t2,k2,v2,f2,⟨⟨g2,num2,how2,hr5,hA2,-⟩,hg2⟩⟩:=hX.eb;refine TO.grow0 (size:=1) ?_;refine kI ?_;refine jx ?_;refine qs rfl (OT.loadA tab hA2 rfl rfl rfl rfl rfl ?_);refine aW (e:=114) ?_;cases f2 with
    | none =>
     exact eU
    | some fb =>
     refine kI ?_;refine am (fun e44=>?_) (fun e44=>?_)
     ·refine uA ?_;refine ah hA2 ?_;refine jx ?_;refine jx ?_;exact⟨(n.name,nilS,5,some fb,g2,(k.type,0),m2,T2,[]),uH,uH,rfl,rfl,uS,⟨hm2,cS _ _,cZ,cn _,hr5,hg2,(show(5:Int)≠3 by decide),(show(5:Int)≠4 by decide),by simp,by simp,hB,hZ⟩⟩
     ·exact eU
  ·rintro⟨txt,sk,how,fn,ht,c,m2,T2,xl⟩ ⟨hm2,hsk,hok,hxl,hht,htg,hh3,hh4,hc3,hc4,hB,hZ⟩;simp only at hm2 hsk hok hxl hht htg hh3 hh4 hc3 hc4 hB hZ;replace hm:=cD hm hm2;replace hC:=hC.mono hm2;replace hsa:=hsa.mono hm2;have hgk:=hht.kind;have hgn:=hht.num;have hsal:=hsa.len;have hsaf:sa.len*56≤140737488355328:=hsa.fit;unfold callTail at hZ;rw[←hgk,←hgn]at hZ;refine uL ?_;refine az (fun e1=>?_) (fun e1=>?_)
   ·rw[bQ e1,bP]at hZ;refine uL ?_;refine qs rfl (du (b:=decide ((sa.len:Int)=ht.num)) (L0:=L) mH hm (dm [_,_,_] hB.hs) (hZ.trans (by rw[show decide ((args.length:Int)=ht.num)=decide ((sa.len:Int)=ht.num) from by rw[hsal]])) rfl rfl rfl rfl rfl rfl (fun e hZ=>?_));have e2:(args.length:Int)=ht.num:=mW;clear e;replace e1:ht.kind=7:=e1;obtain⟨htf0,htf1⟩:=tg_fn htg (hgk.symm.trans e1);have hnum2:ht.num.toNat=args.length:=mv;have hkl:args.length≤c.1.kids.length:=mv;rw[hnum2]at hZ;generalize hG:(fun _:Unit=>match c.1.kids.drop args.length with
     | [t]=>(⟨51,t,false,c.2,false⟩:X)
     | ts=>⟨51,.mk 7 [] 0 ts,true,c.2,false⟩)=G at hZ
    refine jS ?_;refine cH (ι:=Nat×Sl×List Nat×Mem×List Item) [0,1,7,8,205,206] rfl (fun y=>[(207,.int .i64 (y.1:Int))]) (fun y=>y.2.2.2.1) (fun y=>tok y.2.1 1::.cells b8 0 (treeC ht)::.cells b 0 (exC 51 zH txt n.num y.2.1 how none fn)::y.2.2.2.2) (fun y=>y.1≤args.length∧m2≤y.2.2.2.1∧SlRep rPtr y.2.2.2.1 y.2.1 y.2.2.1∧Own y.2.1∧y.2.2.1.length≤y.1+1∧Bun E F sc w (q+cstL (args.drop y.1)) y.2.2.2.1 y.2.2.2.2 L∧Z=(eachC E.tbl ex (plain sc) (args.drop y.1) (c.1.kids.drop y.1)).map G) (fun y=>args.length-y.1) (0,sk,xl,m2,T2) uH rfl uS ⟨cn _,cC _,hsk,hok,hxl,hB,hZ⟩ ?_;rintro⟨i,s,l,m3,T3⟩ ⟨hi,hm3,hs,ho,hl,hB,hZ⟩;simp only at hi hm3 hs ho hl hB hZ;refine uA ?_;refine am (fun hlt=>?_) (fun hlt=>?_)
    ·have hlt':i<args.length:=mv;have hlt2:i<c.1.kids.length:=mv;have hx:args[i]? = some args[i]:=mL;rw[bU hlt',bU hlt2,eachC]at hZ;rw[cstL_drop hx]at hB;have hsa3:=hsa.mono hm3;have hkd3:=hht.kids.mono hm3;refine uA ?_;refine ar tab rTree i hsa3 uH mD rfl hx ?_;rintro b' i' h9 hrd9 hA9;refine lB ?_;refine aC tab (fun b17=>?_);refine jx ?_;refine aL [18] df 19 [.cells b17 0 (treeC h9),.cells b8 0 (treeC ht),.cells b 0 (exC 51 zH txt n.num s how none fn)] (tok s 1::T3) pfH ?_;refine cV tab uC uK [0,1,2,3,5,8,10,11] uK rfl ?_;refine ae (k:=7) 4 2 ?_;refine ae (k:=0) 6 0 ?_;refine ae (k:=3) 9 1 ?_;refine DO.arith 12 (r':=((i+1:Nat):Int)) uC uK uK rfl rfl rfl rfl rfl rfl rfl rfl mD mv ?_;refine DO.cutS tab rTree 13 i (i+1) hkd3 uC uK uK rfl rfl rfl rfl rfl rfl rfl rfl rfl (.inr rfl) (.inr rfl) (Nat.le_succ _) hlt2 (fun s1 hs1=>?_);replace hs1:SlRep rTree m3 s1 [c.1.kids[i]]:=by
      rw[take_drop_one hlt2]at hs1;exact hs1
     refine af 7 ?_;refine aM (hs:=[h9]) (l:=[args[i]]) tab rTree ⟨hrd9,trivial⟩ uH mw (fun sA m4 hm4 hsA _ _=>?_);refine⟨hm4,_,a9 _,?_⟩;refine af 14 ?_;refine OT.ck (L0:=L) [_,_,_,_] (q+cstL (args.drop (i+1))) (assign_ck ((hC.mono hm3).mono hm4) hsA (fun x hx=>by rw[List.mem_singleton.1 hx];exact hargs _ (bL hlt')) (hs1.mono hm4)) (hB.mono hm4 (bF _)) my (cD (cD hm hm3) hm4) (dl _) (g:=fun _=>(eachC E.tbl ex (plain sc) (args.drop (i+1)) (c.1.kids.drop (i+1))).map G) (hZ.trans (by cases assignC E.tbl ex (plain sc) [args[i]] [c.1.kids[i]]<;>rfl)) nC rfl rfl rfl rfl rfl rfl goes154 (fun v m5 u T4 hZ hm5 hm' hV hB=>?_);obtain⟨sB,xs,rfl,hsB,hxs⟩:=hV;simp only[a7,a8]at hxs;refine⟨hm5,tok s 1::T4,a9 _,?_⟩;refine af 15 ?_;refine cU tab rPtr 3 ((hs.mono hm4).mono hm5) ho hsB rfl rfl rfl rfl rfl rfl rfl od (fun s' m6 hm6 hs' ho'=>?_);refine⟨hm6,tok s' 1::T4,a9 _,?_⟩;refine cV tab uC uK [16,17] uK rfl ?_;refine cW ?_;refine aB 18 ?_;refine an (k:=7) 2 ?_;refine aH ?_;have hmm:m3≤m6:=cD (cD hm4 hm5) hm6;refine kV ?_;refine aI (L':=tok s' 1::.cells b8 0 (treeC ht)::.cells b 0 (exC 51 zH txt n.num s' how none fn)::.cells b17 0 (treeC h9)::T4) pfI ?_;exact ey
    ·have hi':i=args.length:=mv;subst hi';rw[List.drop_length]at hZ;replace hZ:Z=some (G ()):=hZ;subst hG;have hht3:=hht.mono hm3;have htn:c.1.num.toNat=args.length:=mv;replace hm:=cD hm hm3;refine uA ?_;refine jK ?_;refine oC goes121 ((cresults_law c.1 htf0 htf1 _ _ ht hht3).x ?_);rintro _ _ _ ⟨rfl,rfl,sr,rfl,hsr⟩;rw[htn]at hsr;have hrl:=hsr.len;refine uA ?_;refine am (fun e5=>?_) (fun e5=>?_)
     ·have e6:(c.1.kids.drop args.length).length=1:=mv;obtain⟨t,ht1⟩:=List.length_eq_one_iff.1 e6;rw[ht1]at hsr;simp only[ht1]at hZ;have htt:tg t=true:=tg_kid htg (List.mem_of_mem_drop (i:=args.length) (by rw[ht1];simp));refine uA ?_;refine aA tab rTree 0 hsr uH mD uH ?_;rintro b7 i7 h7 hrd7 hA7;refine ap tab hA7 ?_;refine jx ?_;refine jx ?_;refine cJ rfl (L':=.cells b 0 (exC 51 h7 txt 0 s how none fn)::T3) uS ⟨_,_,T3,hZ,hm,dr (x:=⟨51,t,false,c.2,false⟩) (rTree_iff.1 hrd7) htt ⟨fun e=>by omega,fun e=>by cases e⟩ ⟨fun e=>absurd e hh3,fun e=>absurd e hc3⟩ ⟨fun e=>absurd e hh4,fun e=>absurd e hc4⟩ mx mx mx mx (fun _ _=>rfl),rfl,hB.mono (cC _) (Nat.le_add_right _ _)⟩
     ·have e6:(c.1.kids.drop args.length).length≠1:=mv;have hZ':Z=some ⟨51,.mk 7 [] 0 (c.1.kids.drop args.length),true,c.2,false⟩:=by
       rw[hZ];show some (match c.1.kids.drop args.length with | [t]=>_ | ts=>_)=_;split
       ·rename_i t hq;rw[hq]at e6;exact absurd rfl e6
       ·rfl
      refine jE ?_;refine cJ rfl (L':=.cells b 0 (exC 51 ⟨7,[],0,sr⟩ txt (-1) s how none fn)::T3) uS ⟨_,_,T3,hZ',hm,dr (x:=⟨51,.mk 7 [] 0 (c.1.kids.drop args.length),true,c.2,false⟩) ⟨rfl,rfl,rfl,hsr⟩ (tg_mk _ _ _ _ (fun e=>by omega) (fun _=>⟨Int.le_refl _,Int.natCast_nonneg _⟩) (fun x hx=>tg_kid htg (List.mem_of_mem_drop hx))) mx ⟨fun e=>absurd e hh3,fun e=>absurd e hc3⟩ ⟨fun e=>absurd e hh4,fun e=>absurd e hc4⟩ mx mx mx mx (fun _ _=>rfl),rfl,hB.mono (cC _) (Nat.le_add_right _ _)⟩
   ·rw[bR (show ¬ht.kind=7 from e1),Bool.false_and]at hZ;refine uA ?_;refine qs rfl (du (b:=false) (L0:=L) mH hm (dm [_,_,_] hB.hs) hZ rfl rfl rfl rfl rfl rfl (fun e hZ=>by cases e))
end
end Go.Sep
namespace Go.Sep
open Go.Proofs Go.Ck
section
variable {P:Program} {N:Nat} {ρ:Env} {D:List Deferred} {m:Mem} {L:List Item} {Q:EPost} {o:Oper} {K:Env→Mem→List Item→Prop}
theorem OT.splitC {b off:Nat} (vs us:List Value) (h:OT P N o ρ D m (.cells b off vs::.cells b (off+vs.length) us::L) Q K):OT P N o ρ D m (.cells b off (vs++us)::L) Q K:=fun a w ha=>h a w ⟨ha.size,ha.env,ha.defers,ha.st.split⟩
theorem OT.toRoomN {b off:Nat} {vs:List Value} (n:Nat) (hn:vs.length=n) (h:OT P N o ρ D m (.room b off n::L) Q K):OT P N o ρ D m (.cells b off vs::L) Q K:=by
 subst hn;exact fun a w ha=>h a w ⟨ha.size,ha.env,ha.defers,ha.st.toRoom⟩
end
attribute [local irreducible] TC TO OT TCallX TCall DO DOt thenQ blockQ retQ At
def rGV : R Nat GV where
 size:=1
 bytes:=8
 enc b:=[ptr b]
 rep m h a:=h=a.b∧VarAt m a
 enc_len _:=rfl
 one _:=rfl
 mono hm h:=⟨h.1,h.2.mono hm⟩
theorem indexFunc_var (m:Mem) (L:List Item) (s:Sl) (l:List GV) (p:GV→Bool) (fn:FuncId) (cap:List Value) (hg:Goes Tryz.prog fn) (hs:SlRep rGV m s l)
  (hp:∀ a:GV,a∈l→VarAt m a→TCall Tryz.prog fn ⟨ptr a.b::cap⟩ m L (Ret (.bool (p a)) m L)) :
  TCall Tryz.prog 152 ⟨[s.v,.func (.func fn) ⟨[]⟩ ⟨cap⟩]⟩ m L (Ret (.int .i64 (idxP l p 0)) m L):=by
 unfold TCall;refine ak Tryz.func152 19 ?_;refine jU ?_;rintro k ⟨hk,hI⟩;have hl:=hs.len;have hsm:=hs.small rfl;refine uA ?_;refine am (fun h=>?_) (fun h=>?_)
 ·have hlt:k<l.length:=mv;have hx:l[k]? = some l[k]:=mG;refine uA ?_;refine ar tab rGV k hs uH mD rfl hx ?_;rintro b i hd hr hA;obtain⟨rfl,hr2⟩:=(show hd=l[k].b∧VarAt m l[k] from hr)
  refine jV ?_;refine qs rfl (cR (all:=ptr l[k].b::cap) rfl rfl rfl rfl rfl nh hg ((hp l[k] (bL hlt) hr2).x ?_));refine ka ?_;exact ed
 ·exact fz
theorem containsFunc_var (m:Mem) (L:List Item) (s:Sl) (l:List GV) (p:GV→Bool) (fn:FuncId) (cap:List Value) (hg:Goes Tryz.prog fn) (hs:SlRep rGV m s l)
  (hp:∀ a:GV,a∈l→VarAt m a→TCall Tryz.prog fn ⟨ptr a.b::cap⟩ m L (Ret (.bool (p a)) m L)) :
  TCall Tryz.prog 118 ⟨[s.v,.func (.func fn) ⟨[]⟩ ⟨cap⟩]⟩ m L (Ret (.bool (l.any p)) m L):=by
 unfold TCall;refine ak Tryz.func118 9 ?_;refine au goes152 (indexFunc_var m L s l p fn cap hg hs hp) ?_;refine jy ?_;rw[idxP_ge]
theorem sameName_cl (b9:Nat) (v a:GV) (m:Mem) (L:List Item) (hb:At m b9 0 [ptr v.b]) (hv:VarAt m v) (ha:VarAt m a):TCall Tryz.prog 119 ⟨[ptr a.b,ptr b9]⟩ m L (Ret (.bool (decide (a.name=v.name))) m L):=by
 obtain⟨_,-,hvA⟩:=hv;obtain⟨_,-,haA⟩:=ha;unfold TCall;refine ak Tryz.func119 13 ?_;refine aU [] df 10 ?_;refine kc ?_;refine ai 3 haA ?_;refine ai (k:=0) 4 hb ?_;refine cV tab uC uK [5,6] uK rfl ?_;refine ai 7 hvA ?_;refine jW ?_;refine aN ?_
 rotate_left 1
 refine aR ?_;exact eV
theorem pfJ {α:Type} {a:α} {T V L:List α} (h:T.Perm (V++L)):(a::T).Perm ((V++[a])++L):=nD
theorem pfK {α:Type} {a b c r t:α} {L:List α}:(a::b::c::r::t::L).Perm (a::b::c::t::r::L):=mJ
theorem getN_any (l:Names) (x:Str):(getN l x).isSome=l.any fun p=>decide (p.1=x):=by
 unfold getN
 induction l with
 | nil=>rfl
 | cons p l ih =>
  rw[List.find?_cons,List.any_cons];cases h:decide (p.1=x)with
  | true=>simp
  | false=>simp only[cx];exact ih
theorem params_step (l:List GV) (i:Nat) (hi:i<l.length) {β:Type} (G:Names→β) :
  (paramsC ((l.take i).map GV.pair).reverse ((l.drop i).map GV.pair)).map G=(Ck.want (!(l.take i).any fun a=>decide (a.name=l[i].name))).bind fun _=>(paramsC ((l.take (i+1)).map GV.pair).reverse ((l.drop (i+1)).map GV.pair)).map G:=by
 rw[bU hi,bH,paramsC,getN_any,List.any_reverse,List.any_map];have e:((l.take (i+1)).map GV.pair).reverse=l[i].pair::((l.take i).map GV.pair).reverse:=by
  rw[cq hi,cu,List.reverse_append];rfl
 rw[e];show(if ((l.take i).any fun a=>decide (a.name=l[i].name))=true then none else _).map G=_;cases (l.take i).any fun a=>decide (a.name=l[i].name)<;>rfl
theorem sig_ck (E:CE) (c f:Nat) {m:Mem} (hE:E.Tbl m) (hc:At m c 0 [ptr E.p]) {n:Tree} {h:HTree} (hr:TreeRep m h n) (hsg:n.isSig=true) (hsz:n.size+3≤20000) (hdp:n.deep+2≤100) (hB:n.wide≤140737488355328)
  (recv:List GV) (ps0:Sl) (hp0:SlRep rGV m ps0 recv) (ho0:Own ps0) (hrl:recv.length≤1) (hro:∀ v∈recv,v.own=f∧tg v.type=true) (L:List Item) :
  TCallX Tryz.prog 63 ⟨[ptr c,ptr f,treeV h]⟩ m (.cells f 2 [.int .i64 0,strV [],.int .i64 0,.slice none 0 0,ps0.v]::tok ps0 1::L)
   (fun v m' T'=>∃ t vs ht ps,sigC E.tbl (recv.map GV.pair) n=some (t,((recv++vs).map GV.pair).reverse)∧m≤m'∧At m' f 2 [.int .i64 ht.kind,strV ht.name,.int .i64 ht.num,ht.kids.v,ps.v]∧TreeRep m' ht t∧tg t=true∧t.kind=7∧SlRep rGV m' ps (recv++vs)∧(∀ v∈recv++vs,v.own=f∧tg v.type=true)∧T'.Perm (vs.map flagI++L))
   (kX (sigC E.tbl (recv.map GV.pair) n) m L):=by
 refine cK Tryz.func63 rfl 71 rfl ?_;generalize hZ:sigC E.tbl (recv.map GV.pair) n=Z;unfold sigC at hZ;replace hZ:=hZ.symm;obtain⟨s1,s2,s3,s4,s5⟩:=sig_of hsg hsz hdp;have hr0:=hr;obtain⟨hr1,hr2,hr3,hr4⟩:=hr;have hlen:=hr4.len;have hfit:h.kids.len*56≤140737488355328:=hr4.fit;refine uA ?_;refine ay (fun b5=>?_);refine qs rfl (OT.kp (L0:=L) (typ_law E c n hB m h hr0 hE hc) mH (cC _) (Hs.of_sub uS) hZ rfl rfl rfl rfl rfl rfl goes117 (fun v m1 t hZ hm _ hV=>?_));obtain⟨ht1,hV⟩:=hV;rw[←ht1]at s1 s2 s3;clear ht1;obtain⟨htg,ht,rfl,hht⟩:=hV;replace hp0:=hp0.mono hm;replace hr4:=hr4.mono hm;refine uA ?_;refine qs rfl (cO (k:=0) tab 1 rfl rfl rfl rfl rfl rfl rfl rfl ?_);refine uL ?_;refine qs rfl (OT.cut tab rTree 0 n.num.toNat hr4 rfl rfl rfl rfl rfl rfl rfl (.inl ⟨rfl,rfl⟩) (.inr (by rw[hr3,Int.toNat_of_nonneg s4])) (cn _) mv (fun sk hsk=>?_));rw[cB]at hsk;have hskl:=hsk.len;have htkl:=hht.kids.len;have hkl:(n.kids.take n.num.toNat).length=n.num.toNat:=nv;generalize hK:n.kids.take n.num.toNat=KK at hsk hskl hkl hZ;generalize hpr:(KK.map Tree.name).zip t.kids=pr at hZ;have hprl:pr.length=KK.length:=by rw[←hpr,List.length_zip,bN];omega
 refine jS ?_;refine cH (ι:=Nat×Sl×List GV×Mem×List Item) [0,1,5,20,21] rfl (fun y=>[(22,.int .i64 (y.1:Int))]) (fun y=>y.2.2.2.1) (fun y=>.cells b5 0 (treeC h)::.cells f 2 [.int .i64 ht.kind,strV ht.name,.int .i64 ht.num,ht.kids.v,y.2.1.v]::tok y.2.1 1::y.2.2.2.2) (fun y=>y.1≤KK.length∧m1≤y.2.2.2.1∧SlRep rGV y.2.2.2.1 y.2.1 (recv++y.2.2.1)∧Own y.2.1∧y.2.2.1.length=y.1∧y.2.2.1.map GV.pair=pr.take y.1∧(∀ v∈y.2.2.1,v.own=f∧tg v.type=true)∧y.2.2.2.2.Perm (y.2.2.1.map flagI++L)) (fun y=>KK.length-y.1) (0,ps0,[],m1,L) uH rfl uS ⟨cn _,cC _,by rw[ce];exact hp0,ho0,rfl,rfl,(fun v hv=>by cases hv),a9 _⟩ ?_;rintro⟨i,ps,vs,m2,T2⟩ ⟨hi,hm2,hps,hop,hvl,hvp,hvg,hT2⟩;simp only at hi hm2 hps hop hvl hvp hvg hT2;refine uA ?_;refine am (fun hlt=>?_) (fun hlt=>?_)
 ·have hlt':i<KK.length:=mv;have hlt2:i<t.kids.length:=mv;have hx:KK[i]? = some KK[i]:=mL;have hx2:t.kids[i]? = some t.kids[i]:=ni;have hsk2:=hsk.mono hm2;have hkd2:=hht.kids.mono hm2;refine uA ?_;refine ar tab rTree i hsk2 uH mD rfl hx ?_;rintro b' i' h9 hrd9 hA9;refine lB ?_;refine aC tab (fun b7=>?_);refine jx ?_;refine aL [22] df 23 [.cells b7 0 (treeC h9),.cells b5 0 (treeC h),.cells f 2 [.int .i64 ht.kind,strV ht.name,.int .i64 ht.num,ht.kids.v,ps.v]] (tok ps 1::T2) (a9 _) ?_;refine cV tab uC uK [0,1,2,3,5,7,8,9,10,12,15] uK rfl ?_;refine ae (k:=4) 4 2 ?_;refine ae (k:=1) 6 0 ?_;refine ae (k:=3) 11 2 ?_;refine DO.index tab rTree 13 i hkd2 uC uK uK rfl rfl rfl rfl rfl rfl rfl rfl rfl hx2 ?_;intro b6 i6 h6 hrd6 hA6;refine ai (k:=0) 14 hA6 ?_;refine cV tab uC uK [16] uK rfl ?_;refine af 17 ?_;refine OT.box rfl rfl rfl rfl rfl (fun bv=>?_);refine lC ?_;refine af 18 ?_;refine c8 perm_mid.symm ?_;refine OT.splitC (b:=bv) [strV h9.name,.int .i64 h6.kind,strV h6.name,.int .i64 h6.num,h6.kids.v,ptr f] [.bool false,.bool false] ?_;refine OT.freeze fun m3 hm3 hAv=>?_;refine OT.toRoomN 2 rfl ?_;have hva:VarAt m3 ⟨bv,h9.name,t.kids[i],f⟩:=⟨h6,(rTree_iff.1 hrd6).mono hm3,hAv⟩
  refine aM (hs:=[bv]) (l:=[⟨bv,h9.name,t.kids[i],f⟩]) tab rGV ⟨⟨rfl,hva⟩,trivial⟩ uH mw (fun sA m4 hm4 hsA _ _=>?_);refine⟨cD hm3 hm4,.room bv 6 2::tok ps 1::T2,da (l:=[Item.cells b7 0 (treeC h9),Item.cells b5 0 (treeC h),Item.cells f 2 [.int .i64 ht.kind,strV ht.name,.int .i64 ht.num,ht.kids.v,ps.v]]),?_⟩;refine af 19 ?_;refine cU tab rGV 4 ((hps.mono hm3).mono hm4) hop hsA rfl rfl rfl rfl rfl rfl rfl (by simp only[a6,a7,a8,rGV];omega) (fun s' m5 hm5 hs' ho'=>?_);refine⟨hm5,.room bv 6 2::tok s' 1::T2,a9 _,?_⟩;refine cV tab uC uK [20,21] uK rfl ?_;refine cW ?_;refine aB 22 ?_;refine an (k:=4) 2 ?_;refine aH ?_;have hmm:m2≤m5:=cD (cD hm3 hm4) hm5;refine kV ?_;refine aI (L':=.cells b7 0 (treeC h9)::.cells b5 0 (treeC h)::.cells f 2 [.int .i64 ht.kind,strV ht.name,.int .i64 ht.num,ht.kids.v,s'.v]::tok s' 1::(.room bv 6 2::T2)) pfK ?_;refine jz ?_;exact⟨(i+1,s',vs++[⟨bv,h9.name,t.kids[i],f⟩],m5,.room bv 6 2::T2),uH,uH,rfl,rfl,uS,⟨by omega,cD hm2 hmm,by rw[←bo];exact hs',ho',by simp only[a6,a7,a8];omega,by
   have hpx:pr[i]'mv=(h9.name,t.kids[i]):=by
    simp only[←hpr,List.getElem_zip,List.getElem_map];rw[(rTree_iff.1 hrd9).name]
   rw[cu,hvp,cq mv,hpx];rfl,(fun v hv=>by
    rcases List.mem_append.1 hv with hv | hv
    ·exact hvg v hv
    ·rw[List.mem_singleton.1 hv];exact⟨rfl,tg_kid htg (bL hlt2)⟩),by
   rw[cu];exact pfJ hT2⟩,by simp only;omega⟩
 ·have hi':i=KK.length:=mv;subst hi';rw[←hprl,List.take_length]at hvp;rw[←hvp,←cu]at hZ;generalize hl:recv++vs=l at hps hZ;have hlg:∀ v∈l,v.own=f∧tg v.type=true:=fun v hv=>by
   rw[←hl]at hv;rcases List.mem_append.1 hv with hv | hv
   ·exact hro v hv
   ·exact hvg v hv
  have hpl:=hps.len;have hpsm:=hps.small rfl;replace hm:=cD hm hm2;replace hht:=hht.mono hm2;generalize hG:(fun ps=>(t,ps):Names→Tree×Names)=G at hZ;refine uA ?_;refine qs rfl (OT.loadL (k:=4) tab 1 rfl rfl rfl rfl rfl rfl ?_);refine jS ?_;refine cH (ι:=Nat×Mem) [0,1,53,54] rfl (fun y=>[(55,.int .i64 (y.1:Int))]) (fun y=>y.2) (fun _=>.cells b5 0 (treeC h)::.cells f 2 [.int .i64 ht.kind,strV ht.name,.int .i64 ht.num,ht.kids.v,ps.v]::tok ps 1::T2) (fun y=>y.1≤l.length∧m2≤y.2∧Z=(paramsC ((l.take y.1).map GV.pair).reverse ((l.drop y.1).map GV.pair)).map G) (fun y=>l.length-y.1) (0,m2) uH rfl uS ⟨cn _,cC _,hZ⟩ ?_;rintro⟨i,m3⟩ ⟨hi,hm3,hZ⟩;simp only at hi hm3 hZ;refine uA ?_;refine am (fun hlt3=>?_) (fun hlt3=>?_)
  ·have hlt3':(i:Int)<(ps.len:Int):=hlt3;have hlt':i<l.length:=mv;have hx:l[i]? = some l[i]:=mL;have hps3:=hps.mono hm3;rw[params_step l i hlt']at hZ;refine uA ?_;refine ar tab rGV i hps3 uH mD rfl hx ?_;rintro b' i' hv hrdv hAv;obtain⟨rfl,hrv⟩:=(show hv=l[i].b∧VarAt m3 l[i] from hrdv)
   refine ap tab hAv ?_;refine aC tab (fun b9=>?_);refine uT ?_;refine cX fun m4 hm4 hA9=>?_;have hps4:=hps3.mono hm4;refine uA ?_;refine al (k:=4) 1 ?_;refine qs rfl (OT.cut tab rGV 0 i hps4 rfl rfl rfl rfl rfl rfl rfl (.inl ⟨rfl,rfl⟩) (.inr rfl) (cn _) hi (fun sk2 hsk2=>?_));rw[cB]at hsk2;refine uA ?_;refine au goes118 (containsFunc_var _ _ sk2 (l.take i) (fun a=>decide (a.name=l[i].name)) 119 [ptr b9] goes119 hsk2 (fun a _ ha=>sameName_cl b9 l[i] a _ _ hA9 (hrv.mono hm4) ha)) ?_;refine qs rfl (du (L0:=L) my (cD hm (cD hm3 hm4)) (dm [_,_,_] ⟨_,hT2⟩) hZ rfl rfl rfl rfl rfl rfl (fun e hZ=>?_));refine kh ?_;exact⟨(i+1,m4),uH,uH,rfl,rfl,uS,⟨by omega,cD hm3 hm4,hZ⟩,by simp only;omega⟩
  ·have hlt3':¬(i:Int)<(ps.len:Int):=hlt3;have hi':i=l.length:=mv;subst hi';rw[List.take_length,List.drop_length]at hZ;replace hZ:Z=some (t,(l.map GV.pair).reverse):=by rw[hZ,←hG];rfl
   refine TC.freezeAt 1 rfl fun m4 hm4 hAf=>?_;refine uA ?_;refine cJ rfl (L':=T2) uS ⟨t,vs,ht,ps,by rw[hl];exact hZ,cD hm (cD hm3 hm4),hAf,hht.mono (cD hm3 hm4),htg,s1,by rw[hl];exact hps.mono (cD hm3 hm4),by rw[hl];exact hlg,hT2⟩
end Go.Sep
namespace Go.Sep
open Go.Proofs
attribute [local irreducible] TC TO OT TCallX TCall DO DOt thenQ blockQ retQ At
abbrev rSlS:=rSl rStr
theorem growS_law (m:Mem) (L:List Item) (n:Nat) (hB:n*16≤140737488355328):TCall Tryz.prog 212 ⟨[.slice none 0 0,.int .i64 (n:Int)]⟩ m L (fun r m' L'=>m=m'∧∃ s:Sl,r=s.v∧Own s∧SlRep rStr m s []∧L'=tok s 1::L):=by
 unfold TCall;refine ak Tryz.func212 27 ?_;refine kC ?_;refine am (fun e2=>?_) (fun e2=>?_)
 ·refine uA ?_;refine ko ?_;refine qs rfl (OT.growNil tab (z:=n) mv rfl rfl rfl rfl rfl rfl rfl rfl rfl (sz:=1) rfl rfl hB (fun b c hc=>?_));refine lh ?_;refine cI rfl (L':=.room b 0 (c*1)::L) uS ⟨rfl,⟨some ⟨b,0,none⟩,0,c⟩,?_,.inr ⟨b,0,rfl⟩,⟨rfl,cn _,by simp,[],trivial,.inl ⟨rfl,fun e=>by cases e⟩⟩,by simp[tok]⟩;exact iM
 ·refine cY (size:=1) ?_;refine uA ?_;exact cI rfl (L':=tok ⟨none,0,0⟩ 1::L) uS ⟨rfl,⟨none,0,0⟩,rfl,.inl rfl,cS _ _,rfl⟩
theorem concatS_law (m:Mem) (L:List Item) (s:Sl) (ls:List (List Str)) (hs:SlRep (rSl rStr) m s ls) (hB:(ls.map List.length).sum*16≤140737488355328):TCall Tryz.prog 188 ⟨[s.v]⟩ m L (Made m L fun r m'=>∃ t:Sl,r=t.v∧SlRep rStr m' t ls.flatten):=by
 have hl:=hs.len;have hsm:=hs.small rfl;have hpre:∀ k,((ls.take k).map List.length).sum≤(ls.map List.length).sum:=fun k=>by
  conv=>rhs;rw[←co k ls]
  rw[cu,List.sum_append];omega
 unfold TCall;refine ak Tryz.func188 36 ?_;refine kw ?_;rintro k hk;refine uA ?_;refine am (fun h=>?_) (fun h=>?_)
 ·have hlt:k<ls.length:=mv;have hx:ls[k]? = some ls[k]:=mG;have hp1:=hpre (k+1);have hp0:((ls.take (k+1)).map List.length).sum=((ls.take k).map List.length).sum+ls[k].length:=by
   exact fq
  refine uA ?_;refine ar tab rSlS k hs uH mD rfl hx ?_;rintro b' i' s' hrd hA;have hl':s'.len=ls[k].length:=hrd.len;refine uA ?_
  (first | refine qs rfl (OT.loadA tab hA rfl rfl rfl rfl rfl ?_) | refine oL tab hA ?_)
  refine uA ?_;exact fJ
 ·have hpk:=hpre k;refine uA ?_;refine oC goes212 ((growS_law m _ ((ls.take k).map List.length).sum mv).x ?_);rintro _ _ _ ⟨rfl,t,rfl,ho,hr,rfl⟩;refine uA ?_;refine cH (ι:=Nat×Sl×Mem) [0,25,26] rfl (fun x=>[(27,.int .i64 (x.1:Int)),(6,x.2.1.v)]) (fun x=>x.2.2) (fun x=>tok x.2.1 1::L) (fun x=>x.1≤ls.length∧m≤x.2.2∧Own x.2.1∧SlRep rStr x.2.2 x.2.1 (ls.take x.1).flatten) (fun x=>ls.length-x.1) (0,t,m) uH rfl uS ⟨cn _,cC _,ho,hr⟩ ?_;rintro⟨j,u,m1⟩ ⟨hj,hm1,ho1,hr1⟩;simp only at hj hm1 ho1 hr1 ⊢;have hs1:=hs.mono hm1;refine uA ?_;refine am (fun h2=>?_) (fun h2=>?_)
  ·have hlt:j<ls.length:=mv;have hx:ls[j]? = some ls[j]:=mG;have hp1:=hpre (j+1);have hp0:((ls.take (j+1)).map List.length).sum=((ls.take j).map List.length).sum+ls[j].length:=by
    exact fq
   have hfl:(ls.take j).flatten.length=((ls.take j).map List.length).sum:=List.length_flatten;refine uA ?_;refine ar tab rSlS j hs1 uH mD rfl hx ?_;rintro b' i' s' hrd hA
   (first | refine qs rfl (OT.loadA tab hA rfl rfl rfl rfl rfl ?_) | refine oL tab hA ?_)
   refine uA ?_;refine qs rfl (cU tab rStr 0 hr1 ho1 hrd rfl rfl rfl rfl rfl rfl rfl (by simp only[rStr];omega) (fun s' m' hm' hs' ho'=>?_));exact fG
  ·exact iu
end Go.Sep
namespace Go.Sep
open Go.Proofs
attribute [local irreducible] TC TO OT TCallX TCall DO DOt thenQ blockQ retQ At
theorem u64_in {n:Int} (h1:0≤n) (h2:n<18446744073709551616):IntKind.u64.wrap n=n:=by
 exact g9
theorem u8_in {n:Int} (h1:0≤n) (h2:n<256):IntKind.u8.wrap n=n:=by
 exact g9
def dv (c:UInt8):Option Nat :=
 if 48≤c.toNat∧c.toNat≤57 then some (c.toNat-48)
 else if 97≤lowerN c∧lowerN c≤122 then some (lowerN c-97+10)else none
def pU (base maxV:Nat):Str→Nat→Option Nat
 | [],n=>some n
 | c::cs,n=>match dv c with
  | none=>none
  | some d=>if d<base∧n*base+d≤maxV then pU base maxV cs (n*base+d)else none
def UintR (top:Nat) (o:Option Nat) (r:Value):Prop :=
 (∃ v,v≤top∧o=some v∧r = .tuple ⟨[.int .u64 (v:Int),.nilIface]⟩)∨(o=none∧∃ v k,(k=1∧v=(top:Int)∨k=2)∧r = .tuple ⟨[.int .u64 v,.iface 197 (.int .i64 k)]⟩)
theorem pU_step {base maxV:Nat} {s:Str} {k n:Nat} (h:k<s.length):pU base maxV (s.drop k) n=match dv s[k]with
  | none=>none
  | some d=>if d<base∧n*base+d≤maxV then pU base maxV (s.drop (k+1)) (n*base+d)else none:=by
 rw[bU h,pU]
theorem lowerN_lt (c:UInt8):lowerN c<256:=by
 have:=(by decide +kernel:∀ n:Fin 256,n.val ||| 32<256) ⟨c.toNat,c.toNat_lt⟩
 exact this
theorem dv_lt {c:UInt8} {d:Nat} (h:dv c=some d):d<36:=by
 unfold dv at h;split at h
 ·cases h;omega
 ·split at h
  ·cases h;omega
  ·cases h
theorem dv_dig {c:UInt8} (h1:48≤c.toNat) (h2:c.toNat≤57):dv c=some (c.toNat-48):=by
 rw[dv,if_pos ⟨h1,h2⟩]
theorem dv_low {c:UInt8} (h0:¬(48≤c.toNat∧c.toNat≤57)) (h1:97≤lowerN c) (h2:lowerN c≤122):dv c=some (lowerN c-97+10):=by
 rw[dv,if_neg h0,if_pos ⟨h1,h2⟩]
theorem dv_none {c:UInt8} (h0:¬(48≤c.toNat∧c.toNat≤57)) (h1:¬(97≤lowerN c∧lowerN c≤122)):dv c=none:=by
 rw[dv,if_neg h0,if_neg h1]
theorem pU_none {base maxV:Nat} {s:Str} {k n:Nat} (h:k<s.length) (h2:dv s[k]=none):pU base maxV (s.drop k) n=none:=by
 rw[pU_step h,h2]
theorem pU_big {base maxV:Nat} {s:Str} {k n d:Nat} (h:k<s.length) (h2:dv s[k]=some d) (h3:¬(d<base∧n*base+d≤maxV)):pU base maxV (s.drop k) n=none:=by
 rw[pU_step h,h2];exact if_neg h3
theorem pU_go {base maxV:Nat} {s:Str} {k n d:Nat} (h:k<s.length) (h2:dv s[k]=some d) (h3:d<base∧n*base+d≤maxV):pU base maxV (s.drop k) n=pU base maxV (s.drop (k+1)) (n*base+d):=by
 rw[pU_step h,h2];exact if_pos h3
theorem uint10 (m:Mem) (L:List Item) (s:Str) (hs:s≠[]) (hl:s.length≤140737488355328):TCall Tryz.prog 172 ⟨[strV s,.int .i64 10,.int .i64 64]⟩ m L (Made m L fun r _=>UintR 18446744073709551615 (pU 10 18446744073709551615 s 0) r):=by
 unfold TCall;refine ak Tryz.func172 172 ?_;refine am (fun h=>?_) (fun h=>?_)
 ·exact absurd h hs
 refine uA ?_;refine qs rfl (OT.conv tab rfl rfl rfl rfl rfl rfl (r:=64) rfl ?_);refine qs rfl (OT.shK rfl (.inl rfl) rfl rfl rfl rfl mw (r:=0) (by rfl) ?_);refine aG (r':=18446744073709551615) uH (by rfl) ?_;refine qs rfl (OT.strBytes tab rfl rfl rfl rfl rfl rfl rfl hl (fun sb m1 hm1 hsb hlen=>?_));refine uA ?_;rw[hlen];refine cH (ι:=Nat×Nat) [1,8,9,10,11,12,99,100] rfl (fun x=>[(101,.int .i64 (x.1:Int)),(13,.int .u64 (x.2:Int))]) (fun _=>m1) (fun _=>L) (fun x=>x.1≤s.length∧x.2≤18446744073709551615∧pU 10 18446744073709551615 s 0=pU 10 18446744073709551615 (s.drop x.1) x.2) (fun x=>s.length-x.1) (0,0) uH rfl uS ⟨cn _,cn _,rfl⟩ ?_;rintro⟨k,n⟩ ⟨hk,hn,hI⟩;replace hk:k≤s.length:=hk;replace hn:n≤18446744073709551615:=hn;replace hI:pU 10 18446744073709551615 s 0=pU 10 18446744073709551615 (s.drop k) n:=hI;refine uA ?_;refine am (fun h1=>?_) (fun h1=>?_)
 ·have hlt:k<s.length:=mv;have hx:s[k]? = some s[k]:=mG;have hc:s[k].toNat<256:=s[k].toNat_lt;refine lX ?_;rintro b i hd rfl hA;refine oL tab hA ?_;refine uB ?_;refine TC.cutT (ι:=Nat) [1,8,9,10,11,12,13,99,100,101] rfl (fun d=>[(16,.int .u8 (d:Int))]) (fun _=>m1) (fun _=>L) (fun d=>dv s[k]=some d) ?_ (fun d hd=>?_)
  ·refine uA ?_;refine az (fun h3=>?_) (fun h3=>?_)
   ·exact dE
   ·exact dE
  have hd36:=dv_lt hd;refine uA ?_;refine qs rfl (OT.conv tab rfl rfl rfl rfl rfl rfl (r:=10) rfl ?_);refine uA ?_;refine am (fun h4=>?_) (fun h4=>?_)
  ·exact gx
  refine uA ?_;refine am (fun h5=>?_) (fun h5=>?_)
  ·exact et
  refine uA ?_;refine qs rfl (OT.conv tab rfl rfl rfl rfl rfl rfl (r:=10) rfl ?_);refine aG (r':=((n*10:Nat):Int)) uH (by rw[u64_in mv mv];omega) ?_;refine mf ?_;refine aG (r':=(((n*10+d) % 18446744073709551616:Nat):Int)) uH (by simp only[IntKind.wrap,IntKind.signed,IntKind.bits,Bool.false_and,Bool.false_eq_true,if_false];omega) ?_;refine az (fun h6=>?_) (fun h6=>?_)
  ·exact et
  refine uA ?_;refine am (fun h7=>?_) (fun h7=>?_)
  ·exact et
  have hv:(n*10+d) % 18446744073709551616=n*10+d:=mv;rw[hv];refine lQ ?_;exact⟨(k+1,n*10+d),uH,uH,rfl,rfl,uS,⟨by omega,by omega,hI.trans (pU_go hlt hd mv)⟩,by omega⟩
 ·exact ik
theorem uint16 (m:Mem) (L:List Item) (s:Str) (hs:s≠[]) (hl:s.length≤140737488355328):TCall Tryz.prog 172 ⟨[strV s,.int .i64 16,.int .i64 8]⟩ m L (Made m L fun r _=>UintR 255 (pU 16 255 s 0) r):=by
 unfold TCall;refine ak Tryz.func172 172 ?_;refine am (fun h=>?_) (fun h=>?_)
 ·exact absurd h hs
 refine uA ?_;refine qs rfl (OT.conv tab rfl rfl rfl rfl rfl rfl (r:=8) rfl ?_);refine qs rfl (OT.shK rfl (.inl rfl) rfl rfl rfl rfl mw (r:=256) (by rfl) ?_);refine aG (r':=255) uH (by rfl) ?_;refine qs rfl (OT.strBytes tab rfl rfl rfl rfl rfl rfl rfl hl (fun sb m1 hm1 hsb hlen=>?_));refine uA ?_;rw[hlen];refine cH (ι:=Nat×Nat) [1,8,9,10,11,12,99,100] rfl (fun x=>[(101,.int .i64 (x.1:Int)),(13,.int .u64 (x.2:Int))]) (fun _=>m1) (fun _=>L) (fun x=>x.1≤s.length∧x.2≤255∧pU 16 255 s 0=pU 16 255 (s.drop x.1) x.2) (fun x=>s.length-x.1) (0,0) uH rfl uS ⟨cn _,cn _,rfl⟩ ?_;rintro⟨k,n⟩ ⟨hk,hn,hI⟩;replace hk:k≤s.length:=hk;replace hn:n≤255:=hn;replace hI:pU 16 255 s 0=pU 16 255 (s.drop k) n:=hI;refine uA ?_;refine am (fun h1=>?_) (fun h1=>?_)
 ·have hlt:k<s.length:=mv;have hx:s[k]? = some s[k]:=mG;have hc:s[k].toNat<256:=s[k].toNat_lt;refine lX ?_;rintro b i hd rfl hA;refine oL tab hA ?_;refine uB ?_;refine TC.cutT (ι:=Nat) [1,8,9,10,11,12,13,99,100,101] rfl (fun d=>[(16,.int .u8 (d:Int))]) (fun _=>m1) (fun _=>L) (fun d=>dv s[k]=some d) ?_ (fun d hd=>?_)
  ·refine uA ?_;refine az (fun h3=>?_) (fun h3=>?_)
   ·exact dE
   ·exact dE
  have hd36:=dv_lt hd;refine uA ?_;refine qs rfl (OT.conv tab rfl rfl rfl rfl rfl rfl (r:=16) rfl ?_);refine uA ?_;refine am (fun h4=>?_) (fun h4=>?_)
  ·exact gx
  refine uA ?_;refine am (fun h5=>?_) (fun h5=>?_)
  ·exact et
  refine uA ?_;refine qs rfl (OT.conv tab rfl rfl rfl rfl rfl rfl (r:=16) rfl ?_);refine aG (r':=((n*16:Nat):Int)) uH (by rw[u64_in mv mv];omega) ?_;refine mf ?_;refine aG (r':=(((n*16+d) % 18446744073709551616:Nat):Int)) uH (by simp only[IntKind.wrap,IntKind.signed,IntKind.bits,Bool.false_and,Bool.false_eq_true,if_false];omega) ?_;refine az (fun h6=>?_) (fun h6=>?_)
  ·exact et
  refine uA ?_;refine am (fun h7=>?_) (fun h7=>?_)
  ·exact et
  have hv:(n*16+d) % 18446744073709551616=n*16+d:=mv;rw[hv];refine lQ ?_;exact⟨(k+1,n*16+d),uH,uH,rfl,rfl,uS,⟨by omega,by omega,hI.trans (pU_go hlt hd mv)⟩,by omega⟩
 ·exact ik
end Go.Sep
namespace Go.Sep
open Go.Proofs
attribute [local irreducible] TC TO OT TCallX TCall DO DOt thenQ blockQ retQ At
def numOf (s:Str):Option Nat:=match pU 10 18446744073709551615 s 0 with
 | some v=>if v<9223372036854775808 then some v else none
 | none=>none
def IntR (o:Option Nat) (r:Value):Prop :=
 (∃ v,v<9223372036854775808∧o=some v∧r = .tuple ⟨[.int .i64 (v:Int),.nilIface]⟩)∨(o=none∧∃ v k,(k=1∨k=2)∧r = .tuple ⟨[.int .i64 v,.iface 197 (.int .i64 k)]⟩)
theorem int10 (m:Mem) (L:List Item) (s:Str) (hs:s≠[]) (h0:∀ c,s.head? = some c→dgt c=true) (hl:s.length≤140737488355328):TCall Tryz.prog 141 ⟨[strV s,.int .i64 10,.int .i64 64]⟩ m L (Made m L fun r _=>IntR (numOf s) r):=by
 have hlt:0<s.length:=List.length_pos_iff.2 hs;have hx:s[0]? = some s[0]:=mG;have hn1:48≤s[0].toNat:=by
  have h1:=h0 s[0] (by rw[List.head?_eq_getElem?];exact hx);unfold dgt at h1;have h2:=of_decide_eq_true h1;exact h2.1
 unfold TCall;refine ak Tryz.func141 73 ?_;refine am (fun h=>?_) (fun h=>?_)
 ·exact absurd h hs
 refine uA ?_;refine j8 ?_;refine uA ?_;refine am (fun h=>?_) (fun h=>?_)
 ·omega
 refine uA ?_;refine am (fun h=>?_) (fun h=>?_)
 ·omega
 refine uA ?_;refine oC goes172 ((uint10 _ _ s hs hl).x ?_);rintro _ m1 _ ⟨hm1,rfl,⟨v,hv,e1,rfl⟩ | ⟨e1,v,c,hc,rfl⟩⟩
 ·refine uA ?_;refine aK (.inl rfl) ?_;refine kg ?_;refine am (fun h=>?_) (fun h=>?_)
  ·refine uA ?_;refine kG ?_;refine .inr ⟨?_,_,1,.inl rfl,rfl⟩;rw[numOf,e1];simp only;rw[if_neg mv]
  refine uA ?_;refine qs rfl (OT.conv tab rfl rfl rfl rfl rfl rfl (r:=(v:Int)) (wrap64_in mv mv) ?_);refine lF ?_;refine .inl ⟨v,by omega,?_,rfl⟩;rw[numOf,e1];simp only;rw[if_pos mv]
 ·refine uA ?_;refine lk ?_;refine qs rfl (OT.mkIface tab rfl rfl rfl rfl rfl ?_);refine qs rfl (OT.errEq tab (info:=Tryz.t197) (.inr rfl) rfl rfl rfl rfl rfl rfl uK rfl rfl ?_);rcases hc with ⟨rfl,rfl⟩ | rfl
  ·refine uA ?_;refine kg ?_;refine kG ?_;refine .inr ⟨?_,_,1,.inl rfl,rfl⟩;rw[numOf,e1]
  ·refine uA ?_;refine jZ ?_;refine .inr ⟨?_,_,2,.inr rfl,rfl⟩;rw[numOf,e1]
def NumR (k:IntKind) (o:Option Nat) (r:Value):Prop :=
 (∃ v,o=some v∧r = .tuple ⟨[.int k (v:Int),.nilIface]⟩)∨(o=none∧∃ v a b,r = .tuple ⟨[.int k v,.iface a b]⟩)
theorem parseInt_law (m:Mem) (L:List Item) (s:Str) (hs:s≠[]) (h0:∀ c,s.head? = some c→dgt c=true) (hl:s.length≤140737488355328) (hE:Errs m):TCall Tryz.prog 106 ⟨[strV s,.int .i64 10,.int .i64 64]⟩ m L (Made m L fun r _=>NumR .i64 (numOf s) r):=by
 unfold TCall;refine ak Tryz.func106 25 ?_;refine oC goes141 ((int10 _ _ s hs h0 hl).x ?_);rintro _ m1 _ ⟨hm1,rfl,⟨v,hv,e1,rfl⟩ | ⟨e1,v,c,hc,rfl⟩⟩
 ·exact iw
 ·refine uA ?_;refine lk ?_;rcases hc with rfl | rfl
  ·refine oC goes142 ((toError_rng _ _ _ s 10 64 hl (hE.mono hm1)).x ?_);exact fg
  ·refine oC goes142 ((toError_syn _ _ _ s 10 64 hl (hE.mono hm1)).x ?_);exact fg
theorem parseUint_law (m:Mem) (L:List Item) (s:Str) (hs:s≠[]) (hl:s.length≤140737488355328) (hE:Errs m):TCall Tryz.prog 143 ⟨[strV s,.int .i64 16,.int .i64 8]⟩ m L (Made m L fun r _=>NumR .u64 (pU 16 255 s 0) r):=by
 unfold TCall;refine ak Tryz.func143 26 ?_;refine oC goes172 ((uint16 _ _ s hs hl).x ?_);rintro _ m1 _ ⟨hm1,rfl,⟨v,hv,e1,rfl⟩ | ⟨e1,v,c,hc,rfl⟩⟩
 ·exact iw
 ·refine uA ?_;refine lk ?_;rcases hc with ⟨rfl,_⟩ | rfl
  ·refine oC goes142 ((toError_rng _ _ _ s 16 8 hl (hE.mono hm1)).x ?_);exact fg
  ·refine oC goes142 ((toError_syn _ _ _ s 16 8 hl (hE.mono hm1)).x ?_);exact fg
end Go.Sep
namespace Go.Sep
section
variable {P:Program} {N:Nat} {ρ:Env} {D:List Deferred} {m:Mem} {L:List Item} {Q:EPost} {o:Oper} {full:List Oper} {K:Env→Mem→List Item→Prop}
theorem OT.toUnsafeE (T:Tab P) {t u e e':TypeId} {x:Operand} {b n:Nat} {d:Nat} (ho:o.op = .convert t u x) (hd:o.dst=some d) (hN:Nat.blt d N=true) (hx:ev ρ x=some (.pointer (some ⟨b,0,none⟩)))
  (ht:T.isPtr t e=true) (hu:T.isUnsafe u=true) (he:T.size1 e=true) (hb:m.t b=some (e',n)) (hn:0<n) (hK:K ((d,.pointer (some ⟨b,0,none⟩))::ρ) m L):OT P N o ρ D m L Q K:=by
 obtain⟨ti,t1,t2⟩:=isPtr_get ht;obtain⟨ui,u1,u2⟩:=isUnsafe_get hu;obtain⟨ei,e1,e2⟩:=size1_get he;refine cN hd hN (fun a w ha=>⟨w,?_,ha.st⟩) hK;have hut:=T.run_underlying w t1;rw[t2]at hut;have huu:=T.run_underlying w u1;rw[u2]at huu;have hse:=T.run_sizeOf w e1;have hsh:=ha.st.shape hb;have hn':¬(0≥n):=mv;have hv:(viewAt b).run P w = .ok none w:=by simp[viewAt,hsh]
 have hc:(cellsIn b).run P w = .ok (some n) w:=by simp[cellsIn,hsh]
 simp only[execOp,ho,ha.env.eval hx,Go.convert,Sem.run_bind,hut,huu,Result.andThen_ok,Conv.unsafePointer,Conv.seenAt,hv,hc,hse,Sem.run_pure];simp[hn',e2]
theorem OT.fromUnsafeE (T:Tab P) {t u e e':TypeId} {x:Operand} {b n:Nat} {d:Nat} (ho:o.op = .convert u t x) (hd:o.dst=some d) (hN:Nat.blt d N=true) (hx:ev ρ x=some (.pointer (some ⟨b,0,none⟩)))
  (ht:T.isPtr t e=true) (hu:T.isUnsafe u=true) (hb:m.t b=some (e',n)) (hlies:liesAt P P.depth e' (n / P.cellsOf e') 0 e 1=true) (he:T.size1 e=true) (hK:K ((d,.pointer (some ⟨b,0,none⟩))::ρ) m L):OT P N o ρ D m L Q K:=by
 obtain⟨ti,t1,t2⟩:=isPtr_get ht;obtain⟨ui,u1,u2⟩:=isUnsafe_get hu;obtain⟨ei,e1,e2⟩:=size1_get he;refine cN hd hN (fun a w ha=>⟨w,?_,ha.st⟩) hK;have hut:=T.run_underlying w t1;rw[t2]at hut;have huu:=T.run_underlying w u1;rw[u2]at huu;have hse:=T.run_sizeOf w e1;have hsh:=ha.st.shape hb;have hv:(viewAt b).run P w = .ok none w:=by simp[viewAt,hsh]
 have hva:(variablesAt ⟨b,0,none⟩ e 1).run P w = .ok true w:=by simp[variablesAt,hsh,hlies]
 simp only[execOp,ho,ha.env.eval hx,Go.convert,Sem.run_bind,hut,huu,Result.andThen_ok,Conv.unsafePointer,Conv.seenAt,hv,hse,Sem.run_pure];simp[e2,hva]
end
end Go.Sep
namespace Go.Sep
open Go.Proofs
attribute [local irreducible] TC TO OT TCallX TCall DO DOt thenQ blockQ retQ At
def TyB (m:Mem) (bd:Nat):Prop:=∃ T,m.t bd=some (T,2)∧liesAt Tryz.prog Tryz.prog.depth T (2 / Tryz.prog.cellsOf T) 0 74 1=true
theorem TyB.mono {m m':Mem} {bd:Nat} (h:TyB m bd) (hm:m≤m'):TyB m' bd:=by
 obtain⟨T,h1,h2⟩:=h;exact⟨T,hm.t _ _ h1,h2⟩
structure BOk (m:Mem) (bd:Nat) (q:Option Addr) (s:Sl) (l:Str):Prop where
 ty:TyB m bd
 q:q=none∨q=some ⟨bd,0,none⟩
 sl:SlRep rByte m s l
 own:Own s
 row:∀ b o,s.a=some ⟨b,o,none⟩→o=0∧m.t b=some (5,s.cap)∧m.pin.heap.size≤b
 none:l=[]→s=⟨none,0,0⟩
theorem BOk.mono {m m':Mem} {bd:Nat} {q:Option Addr} {s:Sl} {l:Str} (h:BOk m bd q s l) (hm:m≤m'):BOk m' bd q s l :=
 ⟨h.ty.mono hm,h.q,h.sl.mono hm,h.own,fun b o e=>by obtain⟨h1,h2,h3⟩:=h.row b o e;exact⟨h1,hm.t _ _ h2,by rw[hm.pin];exact h3⟩,h.none⟩
theorem copyCheck_law (m:Mem) (L:List Item) (bd:Nat) (q:Option Addr) (v:Value) (hv:∃ a n c,v = .slice a n c) (ht:TyB m bd) (hq:q=none∨q=some ⟨bd,0,none⟩) :
  TCall Tryz.prog 166 ⟨[.pointer (some ⟨bd,0,none⟩)]⟩ m (.cells bd 0 [.pointer q,v]::L) (fun _ m' L'=>m'=m∧L' = .cells bd 0 [.pointer (some ⟨bd,0,none⟩),v]::L):=by
 obtain⟨a,n,c,rfl⟩:=hv;obtain⟨T,ht,hlies⟩:=ht;unfold TCall;refine ak Tryz.func166 20 ?_;refine uM ?_;refine qs rfl (OT.ptrNil tab rfl rfl rfl rfl rfl (e:=74) rfl ?_);rcases hq with rfl | rfl
 ·refine uA ?_;refine qs rfl (OT.toUnsafeE tab (e:=74) rfl rfl rfl rfl rfl rfl rfl ht mw ?_);refine uA ?_;refine qs rfl (OT.callX (E:=Extern.AbiNoEscape.same) (vs:=[.pointer (some ⟨bd,0,none⟩)]) (v:=.pointer (some ⟨bd,0,none⟩)) rfl rfl rfl rfl rfl Tryz.func191 uK uK uK uK (fun w _=>rfl) ?_);refine uA ?_;refine qs rfl (OT.fromUnsafeE tab (e:=74) rfl rfl rfl rfl rfl rfl ht hlies rfl ?_);refine jE ?_;refine cJ rfl (bZ _) ⟨rfl,rfl⟩
 ·refine uA ?_;refine j5 ?_;refine qs rfl (OT.ptrSame tab (e:=74) rfl rfl rfl rfl rfl rfl rfl ?_);refine uA ?_;refine cJ rfl (bZ _) ⟨rfl,rfl⟩
theorem writeByte_law (m:Mem) (L:List Item) (bd:Nat) (q:Option Addr) (s:Sl) (l:Str) (c:UInt8) (hB:BOk m bd q s l) (hl:l.length+1≤140737488355328) :
  TCall Tryz.prog 130 ⟨[.pointer (some ⟨bd,0,none⟩),byteV c]⟩ m (.cells bd 0 [.pointer q,s.v]::tok s 1::L) (fun _ m' L'=>m≤m'∧∃ s' q',L' = .cells bd 0 [.pointer q',s'.v]::tok s' 1::L∧BOk m' bd q' s' (l++[c])):=by
 unfold TCall;refine ak Tryz.func130 17 ?_;refine oC goes166 ((copyCheck_law _ _ bd q s.v ⟨_,_,_,rfl⟩ hB.ty hB.q).x ?_);rintro _ _ _ ⟨rfl,rfl⟩;refine jJ ?_;refine qs rfl (OT.lit tab rfl rfl rfl rfl (fun b=>?_));refine cX fun m1 hm1 hA1=>?_;have hB1:=hB.mono hm1;refine qs rfl (OT.appendT tab rByte 1 hB1.sl hB1.own (SlRep.one (b:=b) (h:=c) (a:=c) hA1 rfl mw) rfl rfl rfl rfl rfl rfl rfl (by show(l.length+1)*1≤_;omega) rfl (fun b o e=>by obtain⟨h1,h2,h3⟩:=hB1.row b o e;exact⟨h1,by rw[show s.cap*rByte.size=s.cap from Nat.mul_one _];exact h2,h3⟩) (fun s' m2 hm2 hs2 ho2 hr2=>?_));refine jE ?_;refine cI rfl (bZ _) ⟨cD hm1 hm2,s',_,rfl,hB1.ty.mono hm2,.inr rfl,hs2,ho2,fun b o e=>by obtain⟨h1,h2,h3⟩:=hr2 b o e;exact⟨h1,by rw[show s'.cap*rByte.size=s'.cap from Nat.mul_one _]at h2;exact h2,h3⟩,fun e=>by simp at e⟩
theorem string_law (m:Mem) (L:List Item) (bd:Nat) (q:Option Addr) (s:Sl) (l:Str) (hB:BOk m bd q s l) :
  TCall Tryz.prog 81 ⟨[.pointer (some ⟨bd,0,none⟩)]⟩ m (.cells bd 0 [.pointer q,s.v]::tok s 1::L) (Ret (strV l) m L):=by
 have hlen:=hB.sl.len;have hcap:=hB.sl.cap;have hfit:s.len*1≤140737488355328:=hB.sl.fit;unfold TCall;refine ak Tryz.func81 14 ?_;by_cases hl:l=[]
 ·have h0:=hB.none hl;subst h0;refine aU [] df 12 ?_;refine kc ?_;refine ln ?_;refine OT.sliceData rfl rfl rfl rfl (.inl rfl) ?_;refine⟨cC _,_,a9 _,?_⟩;refine af 10 ?_;refine OT.unsafeStr0 rfl rfl rfl rfl rfl ?_;refine⟨cC _,_,a9 _,?_⟩;refine mc ?_;refine aN ?_
  rotate_left 1
  refine jT ?_;rw[hl]
 ·obtain⟨hs,k1,k2⟩:=hB.sl.cells;have hpos:0<l.length:=List.length_pos_iff.2 hl;rcases k2 with ⟨k2,_⟩ | ⟨b,o,k2,k3⟩
  ·exact absurd k2 hl
  obtain⟨g1,g2,g3⟩:=hB.row b o k2;subst g1;have he:=byte_all2 k1;subst he;rw[encs_byte]at k3;obtain⟨sa,sn,sc⟩:=s;simp only at k2 hlen hcap hfit g2;subst k2;refine TC.draw [] df 12 rfl [_] (tok ⟨some ⟨b,0,none⟩,sn,sc⟩ 1::L) uP ?_;refine kc ?_;refine ln ?_;refine OT.sliceData rfl rfl rfl rfl (.inr (show sc≠0 by omega)) ?_;refine⟨cC _,_,a9 _,?_⟩;refine af 10 ?_;refine c8 pf1 (OT.unsafeStr tab (e:=5) (g:=b) (n:=sn) (c:=sc) rfl rfl rfl rfl rfl rfl uK k3 hlen.symm mv hcap mv g2 g3 ?_);refine⟨cC _,L,a9 _,?_⟩;refine mc ?_;refine aV ?_
  rotate_left 1
  exact eS
end Go.Sep
namespace Go.Sep
def hexB (a b:UInt8):Option UInt8:=(pU 16 255 [a,b] 0).map UInt8.ofNat
def escX : Str→Option (UInt8×Nat)
 | a::b::_=>(hexB a b).map fun x=>(x,3)
 | _=>none
def escB : Str→Option (UInt8×Nat)
 | []=>none
 | c::r=>if c.toNat=110 then some (10,1)else if c.toNat=116 then some (9,1)else if c.toNat=34∨c.toNat=92 then some (c,1)else if c.toNat=120 then escX r else none
def litF : Nat→Str→Option (Str×Nat)
 | 0,_=>none
 | _+1,[]=>none
 | f+1,c::r=>if c.toNat=34 then some ([],1)else if c.toNat=10 then none else if c.toNat=92 then (match escB r with
  | none=>none
  | some (b,n)=>(litF f (r.drop n)).map fun p=>(b::p.1,p.2+1+n))else (litF f r).map fun p=>(c::p.1,p.2+1)
def lit (r:Str):Option (Str×Nat):=litF (r.length+1) r
theorem escX_pos {r:Str} {b:UInt8} {n:Nat} (h:escX r=some (b,n)):1≤n∧n≤r.length+1:=by
 match r,h with
 | a::b'::r',h =>
  replace h:(hexB a b').map (fun x=>(x,3))=some (b,n):=h;cases hx:hexB a b' with
  | none=>rw[hx]at h;cases h
  | some x=>rw[hx]at h;cases h;simp
theorem escB_pos {r:Str} {b:UInt8} {n:Nat} (h:escB r=some (b,n)):1≤n∧n≤r.length:=by
 cases r with
 | nil=>cases h
 | cons c r =>
  rw[escB]at h;by_cases h1:c.toNat=110
  ·rw[if_pos h1]at h;cases h;simp
  ·rw[if_neg h1]at h;by_cases h2:c.toNat=116
   ·rw[if_pos h2]at h;cases h;simp
   ·rw[if_neg h2]at h;by_cases h3:c.toNat=34∨c.toNat=92
    ·rw[if_pos h3]at h;cases h;simp
    ·rw[if_neg h3]at h;by_cases h4:c.toNat=120
     ·rw[if_pos h4]at h;exact escX_pos h
     ·exact iy
theorem litF_fuel : ∀(f g:Nat) (r:Str),r.length<f→r.length<g→litF f r=litF g r
 | 0,_,_,h,_=>by omega
 | _,0,_,_,h=>by omega
 | f+1,g+1,[],_,_=>rfl
 | f+1,g+1,c::r,h1,h2=>by
  simp only[a7]at h1 h2;rw[litF,litF];split
  ·rfl
  ·split
   ·rfl
   ·split
    ·cases he:escB r with
     | none=>rfl
     | some p =>
      obtain⟨b,n⟩:=p;have hl:(r.drop n).length≤r.length:=mx;simp only;rw[litF_fuel f g (r.drop n) mv mv]
    ·rw[litF_fuel f g r mv mv]
theorem litF_lit {f:Nat} {r:Str} (h:r.length<f):litF f r=lit r:=litF_fuel _ _ _ h mv
theorem lit_quote {c:UInt8} {r:Str} (h:c.toNat=34):lit (c::r)=some ([],1):=by rw[lit,litF,if_pos h]
theorem lit_nl {c:UInt8} {r:Str} (h:c.toNat=10):lit (c::r)=none:=by rw[lit,litF,if_neg mv,if_pos h]
theorem lit_esc {c:UInt8} {r:Str} (h:c.toNat=92):lit (c::r)=match escB r with
  | none=>none
  | some (b,n)=>(lit (r.drop n)).map fun p=>(b::p.1,p.2+1+n):=by
 rw[lit,litF,if_neg mv,if_neg mv,if_pos h];cases he:escB r with
 | none=>rfl
 | some p =>
  obtain⟨b,n⟩:=p;simp only;rw[litF_lit mK]
theorem lit_esc_none {c:UInt8} {r:Str} (h:c.toNat=92) (h2:escB r=none):lit (c::r)=none:=by
 rw[lit_esc h,h2]
theorem lit_esc_some {c:UInt8} {r:Str} {b:UInt8} {n:Nat} (h:c.toNat=92) (h2:escB r=some (b,n)):lit (c::r)=(lit (r.drop n)).map fun p=>(b::p.1,p.2+1+n):=by
 rw[lit_esc h,h2]
theorem lit_one {c:UInt8} {r:Str} (h1:c.toNat≠34) (h2:c.toNat≠10) (h3:c.toNat≠92):lit (c::r)=(lit r).map fun p=>(c::p.1,p.2+1):=by
 rw[lit,litF,if_neg h1,if_neg h2,if_neg h3,litF_lit mx]
theorem esc_n {c:UInt8} {r:Str} (h:c.toNat=110):escB (c::r)=some (10,1):=by rw[escB,if_pos h]
theorem esc_t {c:UInt8} {r:Str} (h:c.toNat=116):escB (c::r)=some (9,1):=by rw[escB,if_neg mv,if_pos h]
theorem esc_self {c:UInt8} {r:Str} (h:c.toNat=34∨c.toNat=92):escB (c::r)=some (c,1):=by rw[escB,if_neg mv,if_neg mv,if_pos h]
theorem esc_x {c a b:UInt8} {r:Str} (h:c.toNat=120):escB (c::a::b::r)=(hexB a b).map fun x=>(x,3):=by rw[escB,if_neg mv,if_neg mv,if_neg mv,if_pos h,escX]
theorem esc_xs {c:UInt8} {r:Str} (h:c.toNat=120) (h2:r.length<2):escB (c::r)=none:=by
 rw[escB,if_neg mv,if_neg mv,if_neg mv,if_pos h]
 match r,h2 with
 | [],_=>rfl
 | [_],_=>rfl
theorem esc_no {c:UInt8} {r:Str} (h1:c.toNat≠110) (h2:c.toNat≠116) (h3:c.toNat≠34) (h4:c.toNat≠92) (h5:c.toNat≠120):escB (c::r)=none:=by
 rw[escB,if_neg h1,if_neg h2,if_neg mv,if_neg h5]
def LitAt (s:Str) (j i:Nat) (acc:Str) (res:Option (Str×Nat)):Prop:=res=(lit (s.drop i)).map fun p=>(acc++p.1,i-j+p.2)
theorem LitAt.start (s:Str) (i:Nat):LitAt s i i [] (lit (s.drop i)):=by
 unfold LitAt;cases lit (s.drop i)<;>simp
theorem LitAt.end_ {s:Str} {j i:Nat} {acc:Str} {res:Option (Str×Nat)} (h:LitAt s j i acc res) (hi:s.length≤i):res=none:=by
 rw[h,ci hi];rfl
theorem LitAt.quote {s:Str} {j i:Nat} {acc:Str} {res:Option (Str×Nat)} (h:LitAt s j i acc res) (hi:i<s.length) (hc:s[i].toNat=34):res=some (acc,i-j+1):=by
 rw[h,bU hi,lit_quote hc];simp
theorem LitAt.nl {s:Str} {j i:Nat} {acc:Str} {res:Option (Str×Nat)} (h:LitAt s j i acc res) (hi:i<s.length) (hc:s[i].toNat=10):res=none:=by
 rw[h,bU hi,lit_nl hc];rfl
theorem LitAt.bad {s:Str} {j i:Nat} {acc:Str} {res:Option (Str×Nat)} (h:LitAt s j i acc res) (hi:i<s.length) (hc:s[i].toNat=92) (he:escB (s.drop (i+1))=none):res=none:=by
 rw[h,bU hi,lit_esc_none hc he];rfl
theorem LitAt.esc {s:Str} {j i:Nat} {acc:Str} {res:Option (Str×Nat)} {b:UInt8} {n:Nat} (h:LitAt s j i acc res) (hj:j≤i) (hi:i<s.length) (hc:s[i].toNat=92) (he:escB (s.drop (i+1))=some (b,n)):LitAt s j (i+1+n) (acc++[b]) res:=by
 unfold LitAt at h ⊢;rw[h,bU hi,lit_esc_some hc he,List.drop_drop,Option.map_map]
 congr 1
 funext p
 exact iF
theorem LitAt.one {s:Str} {j i:Nat} {acc:Str} {res:Option (Str×Nat)} (h:LitAt s j i acc res) (hj:j≤i) (hi:i<s.length) (h1:s[i].toNat≠34) (h2:s[i].toNat≠10) (h3:s[i].toNat≠92):LitAt s j (i+1) (acc++[s[i]]) res:=by
 unfold LitAt at h ⊢;rw[h,bU hi,lit_one h1 h2 h3,Option.map_map]
 congr 1
 funext p
 exact iF
theorem pU_le {base maxV:Nat}:∀(s:Str) (n v:Nat),n≤maxV→pU base maxV s n=some v→v≤maxV
 | [],n,v,h,e=>by cases e;exact h
 | c::cs,n,v,h,e=>by
  rw[pU]at e;split at e
  ·cases e
  ·split at e
   ·rename_i hc;exact pU_le cs _ v hc.2 e
   ·cases e
end Go.Sep
namespace Go.Sep
open Go.Proofs
attribute [local irreducible] TC TO OT TCallX TCall DO DOt thenQ blockQ retQ At
structure LitS where
 m:Mem
 q:Option Addr
 sl:Sl
 i:Nat
 acc:Str
def litR (o:Option (Str×Nat)):Value:=match o with
 | some (t,n)=>.tuple ⟨[strV t,.int .i64 ((n+1:Nat):Int)]⟩
 | none=>.tuple ⟨[strV [],.int .i64 0]⟩
theorem literal_law (m : Mem) (L : List Item) (s : Str) (h0 : 0 < s.length) (hl : s.length ≤ 70000) (hE : Errs m) : TCall Tryz.prog 107 ⟨[strV s]⟩ m L (Made m L fun r _=>r=litR (lit (s.drop 1))):=by
 unfold TCall
 refine cK Tryz.func107 rfl 76 rfl ?_
 refine uA ?_
 refine qs rfl (OT.allocT tab rfl rfl rfl rfl (fun bd m1 hm1 ht1 => ?_))
 refine uA ?_
 refine cY (size:=1) ?_
 refine TC.perm pf1 ?_
 refine cH (ι:=LitS) [0,4] rfl (fun x=>[(5, .int .i64 (x.i : Int))]) (fun x=>x.m) (fun x => .cells bd 0 [.pointer x.q,x.sl.v] :: tok x.sl 1 :: L) (fun x=>m ≤ x.m∧1 ≤ x.i∧x.i ≤ s.length∧BOk x.m bd x.q x.sl x.acc∧x.acc.length ≤ x.i∧LitAt s 1 x.i x.acc (lit (s.drop 1))) (fun x=>s.length - x.i) ⟨m1,none,⟨none,0,0⟩,1,[]⟩ uH rfl uS ⟨hm1,bF _,h0,⟨⟨_,ht1,by kernel_rfl⟩, .inl rfl,cS _ _,cZ,fun _ _ e=>(by cases e),fun _=>rfl⟩,cn _,LitAt.start s 1⟩ ?_
 rintro ⟨m1,q,sl,i,acc⟩ ⟨hm,hi1,hi,hB,hacc,hI⟩
 replace hm : m ≤ m1:=hm
 replace hi1 : 1 ≤ i:=hi1
 replace hi : i ≤ s.length:=hi
 replace hB : BOk m1 bd q sl acc:=hB
 replace hacc : acc.length ≤ i:=hacc
 replace hI : LitAt s 1 i acc (lit (s.drop 1)):=hI
 show TC _ _ _ ((5, .int .i64 (i : Int)) :: _) _ m1 (.cells bd 0 [.pointer q,sl.v] :: tok sl 1 :: L) _
 refine uA ?_
 refine TC.condP rfl (fun g1 => ?_) (fun g1 => ?_)
 ·have hlt : i < s.length:=by omega
  have hx : s[i]? = some s[i]:=by simp [hlt]
  refine uA ?_
  refine qs rfl (OT.sidx tab i rfl rfl rfl rfl rfl rfl rfl hx ?_)
  refine uA ?_
  refine TC.condP rfl (fun c1 => ?_) (fun c1 => ?_)
  ·refine uA ?_
   refine oC goes81 ((string_law _ _ bd q sl acc hB).x ?_);
   rintro _ _ _ ⟨rfl,rfl,rfl⟩
   refine uA ?_
   refine qs rfl (OT.arith (r':=((i + 1 : Nat) : Int)) rfl rfl rfl rfl rfl rfl rfl (by omega) ?_)
   refine uA ?_
   refine cI rfl uS ⟨hm,rfl, ?_⟩
   rw [hI.quote hlt (by omega)]
   show Value.tuple ⟨[strV acc, .int .i64 ((i + 1 : Nat) : Int)]⟩ = .tuple ⟨[strV acc, .int .i64 ((i - 1 + 1 + 1 : Nat) : Int)]⟩
   rw [show i - 1 + 1 + 1=i + 1 by omega]
  refine uA ?_
  refine TC.condP rfl (fun c2 => ?_) (fun c2 => ?_)
  ·refine uA ?_
   refine cI rfl uS ⟨hm,rfl, ?_⟩
   rw [hI.nl hlt (by omega)];rfl
  refine uA ?_
  refine TC.condP rfl (fun c3 => ?_) (fun c3 => ?_)
  ·refine uA ?_
   refine qs rfl (OT.arith (r':=((i + 1 : Nat) : Int)) rfl rfl rfl rfl rfl rfl rfl (by omega) ?_)
   refine uA ?_
   refine TC.condP rfl (fun c4 => ?_) (fun c4 => ?_)
   ·refine uA ?_
    refine cI rfl uS ⟨hm,rfl, ?_⟩
    rw [hI.bad hlt (by omega) (by rw [ci (by omega)];rfl)];rfl
   have hlt2 : i + 1 < s.length:=by omega
   have hx2 : s[i + 1]? = some s[i + 1]:=by simp [hlt2]
   have hd2:=bU hlt2
   refine uA ?_
   refine qs rfl (OT.sidx tab (i + 1) rfl rfl rfl rfl rfl rfl rfl hx2 ?_)
   refine uA ?_
   refine TC.condP rfl (fun d1 => ?_) (fun d1 => ?_)
   ·have he : escB (s.drop (i + 1))=some (10,1):=by rw [hd2];exact esc_n (by omega)
    refine uA ?_
    refine oC goes130 ((writeByte_law _ _ bd q sl acc 10 hB (by omega)).x ?_);
    rintro _ m2 _ ⟨hm2,sl2,q2,rfl,hB2⟩
    refine uA ?_
    refine qs rfl (OT.arith (r':=(((i + 1) + 1 : Nat) : Int)) rfl rfl rfl rfl rfl rfl rfl (by omega) ?_)
    refine uA ?_
    exact ⟨⟨m2,q2,sl2,(i + 1) + 1,acc++[10]⟩,uH,uH,rfl,rfl,uS,⟨cD hm hm2,by show _ ≤ (i + 1) + 1;omega,by show (i + 1) + 1 ≤ _;omega,hB2,by show (acc++[_]).length ≤ (i + 1) + 1;rw [a6];simp only [a7,a8];omega,(hI.esc hi1 hlt (by omega) he)⟩,by show s.length - ((i + 1) + 1) < s.length - i;omega⟩
   refine uA ?_
   refine TC.condP rfl (fun d2 => ?_) (fun d2 => ?_)
   ·have he : escB (s.drop (i + 1))=some (9,1):=by rw [hd2];exact esc_t (by omega)
    refine uA ?_
    refine oC goes130 ((writeByte_law _ _ bd q sl acc 9 hB (by omega)).x ?_);
    rintro _ m2 _ ⟨hm2,sl2,q2,rfl,hB2⟩
    refine uA ?_
    refine qs rfl (OT.arith (r':=(((i + 1) + 1 : Nat) : Int)) rfl rfl rfl rfl rfl rfl rfl (by omega) ?_)
    refine uA ?_
    exact ⟨⟨m2,q2,sl2,(i + 1) + 1,acc++[9]⟩,uH,uH,rfl,rfl,uS,⟨cD hm hm2,by show _ ≤ (i + 1) + 1;omega,by show (i + 1) + 1 ≤ _;omega,hB2,by show (acc++[_]).length ≤ (i + 1) + 1;rw [a6];simp only [a7,a8];omega,(hI.esc hi1 hlt (by omega) he)⟩,by show s.length - ((i + 1) + 1) < s.length - i;omega⟩
   refine uA ?_
   refine TC.condP rfl (fun d3 => ?_) (fun d3 => ?_)
   ·have he : escB (s.drop (i + 1))=some (s[i + 1],1):=by rw [hd2];exact esc_self (by omega)
    refine uA ?_
    refine TC.condP rfl (fun _ => ?_) (fun h=>absurd d3 h)
    refine uA ?_
    refine qs rfl (OT.sidx tab (i + 1) rfl rfl rfl rfl rfl rfl rfl hx2 ?_)
    refine uA ?_
    refine oC goes130 ((writeByte_law _ _ bd q sl acc s[i + 1] hB (by omega)).x ?_);
    rintro _ m2 _ ⟨hm2,sl2,q2,rfl,hB2⟩
    refine uA ?_
    refine qs rfl (OT.arith (r':=(((i + 1) + 1 : Nat) : Int)) rfl rfl rfl rfl rfl rfl rfl (by omega) ?_)
    refine uA ?_
    exact ⟨⟨m2,q2,sl2,(i + 1) + 1,acc++[s[i + 1]]⟩,uH,uH,rfl,rfl,uS,⟨cD hm hm2,by show _ ≤ (i + 1) + 1;omega,by show (i + 1) + 1 ≤ _;omega,hB2,by show (acc++[_]).length ≤ (i + 1) + 1;rw [a6];simp only [a7,a8];omega,(hI.esc hi1 hlt (by omega) he)⟩,by show s.length - ((i + 1) + 1) < s.length - i;omega⟩
   refine uA ?_
   refine TC.condP rfl (fun d4 => ?_) (fun d4 => ?_)
   ·have he : escB (s.drop (i + 1))=some (s[i + 1],1):=by rw [hd2];exact esc_self (by omega)
    refine uA ?_
    refine qs rfl (OT.sidx tab (i + 1) rfl rfl rfl rfl rfl rfl rfl hx2 ?_)
    refine uA ?_
    refine oC goes130 ((writeByte_law _ _ bd q sl acc s[i + 1] hB (by omega)).x ?_);
    rintro _ m2 _ ⟨hm2,sl2,q2,rfl,hB2⟩
    refine uA ?_
    refine qs rfl (OT.arith (r':=(((i + 1) + 1 : Nat) : Int)) rfl rfl rfl rfl rfl rfl rfl (by omega) ?_)
    refine uA ?_
    exact ⟨⟨m2,q2,sl2,(i + 1) + 1,acc++[s[i + 1]]⟩,uH,uH,rfl,rfl,uS,⟨cD hm hm2,by show _ ≤ (i + 1) + 1;omega,by show (i + 1) + 1 ≤ _;omega,hB2,by show (acc++[_]).length ≤ (i + 1) + 1;rw [a6];simp only [a7,a8];omega,(hI.esc hi1 hlt (by omega) he)⟩,by show s.length - ((i + 1) + 1) < s.length - i;omega⟩
   refine uA ?_
   refine TC.condP rfl (fun d5 => ?_) (fun d5 => ?_)
   ·refine uA ?_
    refine qs rfl (OT.arith (r':=((i + 3 : Nat) : Int)) rfl rfl rfl rfl rfl rfl rfl (by omega) ?_)
    refine uA ?_
    refine TC.condP rfl (fun d6 => ?_) (fun d6 => ?_)
    ·refine uA ?_
     refine cI rfl uS ⟨hm,rfl, ?_⟩
     rw [hI.bad hlt (by omega) (by rw [hd2];exact esc_xs (by omega) (by rw [bW];omega))];rfl
    have hl3 : i + 2 < s.length:=by omega
    have hl4 : i + 3 < s.length:=by omega
    have hcut : (s.take (i + 4)).drop (i + 2)=[s[i + 2],s[i + 3]]:=by
     rw [cq hl4,cq hl3,bo,List.drop_append,ci (by simp;omega)]
     simp [Nat.min_eq_left (show i + 2 ≤ s.length by omega)]
    have hd3 : s.drop (i + 1)=s[i + 1] :: s[i + 2] :: s[i + 3] :: s.drop (i + 4):=by
     rw [hd2,bU hl3,bU hl4]
    refine uA ?_
    refine qs rfl (OT.arith (r':=((i + 2 : Nat) : Int)) rfl rfl rfl rfl rfl rfl rfl (by omega) ?_)
    refine uA ?_
    refine qs rfl (OT.arith (r':=((i + 4 : Nat) : Int)) rfl rfl rfl rfl rfl rfl rfl (by omega) ?_)
    refine qs rfl (OT.sub tab (i + 2) (i + 4) rfl rfl rfl rfl rfl rfl rfl (.inr rfl) (.inr rfl) (by omega) (by omega) ?_)
    rw [hcut]
    refine oC goes143 ((parseUint_law _ _ [s[i + 2],s[i + 3]] (by simp) (by simp) (hE.mono hm)).x ?_);
    rintro _ m3 _ ⟨hm3,rfl,⟨v,e1,rfl⟩ | ⟨e1,v,a,b,rfl⟩⟩
    ·have hv:=pU_le _ _ _ (cn _) e1
     have he : escB (s.drop (i + 1))=some (UInt8.ofNat v,3):=by rw [hd3,esc_x (by omega),hexB,e1];rfl
     refine uA ?_
     refine qs rfl (OT.errNe tab rfl rfl rfl rfl (.inl rfl) rfl rfl ?_)
     refine uA ?_
     refine qs rfl (OT.conv tab rfl rfl rfl rfl rfl rfl (r:=((UInt8.ofNat v).toNat : Int)) (by rw [u8_in (by omega) (by omega),UInt8.toNat_ofNat',Nat.mod_eq_of_lt (by omega)]) ?_)
     replace hB:=hB.mono hm3
     refine oC goes130 ((writeByte_law _ _ bd q sl acc (UInt8.ofNat v) hB (by omega)).x ?_);
     rintro _ m2 _ ⟨hm2,sl2,q2,rfl,hB2⟩
     refine uA ?_
     refine qs rfl (OT.arith (r':=((i + 3 : Nat) : Int)) rfl rfl rfl rfl rfl rfl rfl (by omega) ?_)
     refine uA ?_
     refine qs rfl (OT.arith (r':=(((i + 3) + 1 : Nat) : Int)) rfl rfl rfl rfl rfl rfl rfl (by omega) ?_)
     refine uA ?_
     exact ⟨⟨m2,q2,sl2,(i + 3) + 1,acc++[(UInt8.ofNat v)]⟩,uH,uH,rfl,rfl,uS,⟨cD hm (cD hm3 hm2),by show _ ≤ (i + 3) + 1;omega,by show (i + 3) + 1 ≤ _;omega,hB2,by show (acc++[_]).length ≤ (i + 3) + 1;rw [a6];simp only [a7,a8];omega,(hI.esc hi1 hlt (by omega) he)⟩,by show s.length - ((i + 3) + 1) < s.length - i;omega⟩
    ·refine uA ?_
     refine qs rfl (OT.errNe tab rfl rfl rfl rfl (.inr ⟨_,_,rfl⟩) rfl rfl ?_)
     refine uA ?_
     refine cI rfl uS ⟨cD hm hm3,rfl, ?_⟩
     rw [hI.bad hlt (by omega) (by rw [hd3,esc_x (by omega),hexB,e1];rfl)];rfl
   ·refine uA ?_
    refine cI rfl uS ⟨hm,rfl, ?_⟩
    rw [hI.bad hlt (by omega) (by rw [hd2];exact esc_no (by omega) (by omega) (by omega) (by omega) (by omega))];rfl
  ·refine uA ?_
   refine qs rfl (OT.sidx tab i rfl rfl rfl rfl rfl rfl rfl hx ?_)
   refine oC goes130 ((writeByte_law _ _ bd q sl acc s[i] hB (by omega)).x ?_);
   rintro _ m2 _ ⟨hm2,sl2,q2,rfl,hB2⟩
   refine uA ?_
   refine qs rfl (OT.arith (r':=((i + 1 : Nat) : Int)) rfl rfl rfl rfl rfl rfl rfl (by omega) ?_)
   refine uA ?_
   exact ⟨⟨m2,q2,sl2,i + 1,acc++[s[i]]⟩,uH,uH,rfl,rfl,uS,⟨cD hm hm2,by show _ ≤ i + 1;omega,by show i + 1 ≤ _;omega,hB2,by show (acc++[_]).length ≤ i + 1;rw [a6];simp only [a7,a8];omega,(hI.one hi1 hlt (by omega) (by omega) (by omega))⟩,by show s.length - (i + 1) < s.length - i;omega⟩
 ·refine uA ?_
  refine cI rfl uS ⟨hm,rfl, ?_⟩
  rw [hI.end_ (by omega)];rfl
end Go.Sep
namespace Go.Sep
def isSp (c:UInt8):Bool:=decide (c.toNat=9)||(decide (c.toNat=10)||(decide (c.toNat=13)||decide (c.toNat=32)))
def blk : Bool→Str→Nat
 | _,[]=>0
 | true,c::r=>if c.toNat=10 then 1+blk false r else 1+blk true r
 | false,c::r=>if isSp c=true then 1+blk false r else if c.toNat=47∧r.head? = some 47 then 1+blk true r else 0
theorem blk_le : ∀(b:Bool) (s:Str),blk b s≤s.length
 | _,[]=>by simp[blk]
 | true,c::r=>by
  have h1:=blk_le false r;have h2:=blk_le true r;rw[blk,a7];split<;>omega
 | false,c::r=>by
  have h1:=blk_le false r;have h2:=blk_le true r;rw[blk,a7];split
  ·omega
  ·split<;>omega
theorem isSp_ix_all : ∀ n:Fin 256,decide (0≤Lib.indexByte [9,10,13,32] (UInt8.ofNat n.val))=isSp (UInt8.ofNat n.val):=by decide +kernel
theorem isSp_ix (c:UInt8):decide (0≤Lib.indexByte [9,10,13,32] c)=isSp c:=by
 have:=isSp_ix_all ⟨c.toNat,c.toNat_lt⟩;simpa using this
theorem blk_line : ∀ l:Str,(Lib.indexByte l 10 = -1∧blk true l=l.length)∨∃ k:Nat,k<l.length∧Lib.indexByte l 10=(k:Int)∧blk true l=k+blk false (l.drop k)∧(l.drop k).head? = some 10
 | [] =>.inl ⟨rfl,rfl⟩
 | c::r=>by
  by_cases hc:c=10
  ·subst hc;refine .inr ⟨0,by simp,rfl,?_,rfl⟩;rw[cB,cp,blk,blk,if_pos mw,if_pos mw]
  ·have hn:c.toNat≠10:=fun e=>hc (UInt8.toNat_inj.1 e);have hb:(c==10)=false:=by simpa using hc
   rw[Lib.indexByte,blk,if_neg hn,hb];simp only[Bool.false_eq_true,if_false];rcases blk_line r with ⟨h1,h2⟩ | ⟨k,h1,h2,h3,h4⟩
   ·refine .inl ⟨?_,?_⟩
    ·rw[h1];rfl
    ·rw[h2,a7];omega
   ·refine .inr ⟨k+1,by simpa using h1,?_,?_,by simpa using h4⟩
    ·rw[h2];have:((k:Int) == -1)=false:=by
      simp only[beq_eq_false_iff_ne];omega
     rw[this];simp
    ·rw[h3];simp;omega
theorem blk_rem {c:UInt8} {r:Str} (h1:c.toNat=47) (h2:r.head? = some 47):blk false (c::r)=blk true (c::r):=by
 rw[blk,blk,if_neg (by unfold isSp;simp[h1]),if_pos ⟨h1,h2⟩,if_neg mv]
structure Tok where
 kind:Int
 text:Str
 num:Int
 at_:Int
 deriving DecidableEq
def markL : List Str:=[[58,61],[61,61],[33,61],[60,61],[62,61],[38,38],[124,124],[40],[41],[123],[125],[91],[93],[44],[59],[46],[58],[61],[60],[62],[43],[45],[42],[47],[37],[38],[33]]
def tokD : Str→Option (Tok×Nat)
 | []=>none
 | c::r =>
  if ltr c=true then (if 64<spanOf lod (c::r)then none else some (⟨if (c::r).take (spanOf lod (c::r))∈wordL then 5 else 1,(c::r).take (spanOf lod (c::r)),0,0⟩,spanOf lod (c::r)))
  else if dgt c=true then (match numOf ((c::r).take (spanOf lod (c::r)))with
   | none=>none
   | some v=>if (c.toNat=48∧1<spanOf lod (c::r))∨spanOf dgt (c::r)≠spanOf lod (c::r)then none else some (⟨2,[],v,0⟩,spanOf lod (c::r)))
  else if c.toNat=34 then (match lit r with
   | none=>none
   | some (t,n)=>if 1024<t.length then none else some (⟨3,t,0,0⟩,n+1))
  else match markL.find? (fun p=>prefixB p (c::r))with
   | none=>none
   | some p=>some (⟨4,p,0,0⟩,p.length)
theorem span_pos {p:UInt8→Bool} {c:UInt8} {r:Str} (h:p c=true):0<spanOf p (c::r):=by
 rw[spanOf,List.takeWhile_cons_of_pos h];simp
theorem span_le (p:UInt8→Bool) (s:Str):spanOf p s≤s.length:=by
 unfold spanOf
 induction s with
 | nil=>simp
 | cons x xs ih =>
  rw[List.takeWhile_cons];split<;>simp;exact ih
theorem litF_le : ∀(f:Nat) (r t:Str) (n:Nat),litF f r=some (t,n)→1≤n∧n≤r.length
 | 0,_,_,_,h=>by cases h
 | f+1,[],_,_,h=>by cases h
 | f+1,c::r,t,n,h=>by
  rw[litF]at h;split at h
  ·cases h;simp
  ·split at h
   ·cases h
   ·split at h
    ·cases he:escB r with
     | none=>rw[he]at h;cases h
     | some p =>
      obtain⟨b,k⟩:=p;rw[he]at h;simp only at h;cases hl:litF f (r.drop k)with
      | none=>rw[hl]at h;cases h
      | some q =>
       obtain⟨t',n'⟩:=q;rw[hl]at h;simp only[cw,bu,Prod.mk.injEq]at h;have h1:=litF_le f _ _ _ hl;have h2:=escB_pos he;have h3:(r.drop k).length=r.length-k:=mx;simp only[a7];omega
    ·cases hl:litF f r with
     | none=>rw[hl]at h;cases h
     | some q =>
      obtain⟨t',n'⟩:=q;rw[hl]at h;simp only[cw,bu,Prod.mk.injEq]at h;have h1:=litF_le f _ _ _ hl;simp only[a7];omega
theorem lit_le {r t:Str} {n:Nat} (h:lit r=some (t,n)):1≤n∧n≤r.length:=litF_le _ _ _ _ h
theorem prefixB_len {p s:Str} (h:prefixB p s=true):p.length≤s.length∧s.take p.length=p:=by
 unfold prefixB at h;rw[bj]at h;exact⟨of_decide_eq_true h.1,of_decide_eq_true h.2⟩
theorem markL_len : ∀ p∈markL,1≤p.length:=by decide
theorem tokD_le {s:Str} {t:Tok} {n:Nat} (h:tokD s=some (t,n)):1≤n∧n≤s.length:=by
 cases s with
 | nil=>cases h
 | cons c r =>
  have hs:=span_le lod (c::r);rw[tokD]at h;by_cases h1:ltr c=true
  ·rw[if_pos h1]at h;have:lod c=true:=by unfold lod;rw[h1];rfl
   have:=span_pos (r:=r) this;split at h
   ·cases h
   ·cases h;omega
  ·rw[if_neg h1]at h;by_cases h2:dgt c=true
   ·rw[if_pos h2]at h;have:lod c=true:=by unfold lod;rw[h2];simp
    have:=span_pos (r:=r) this;split at h
    ·cases h
    ·split at h
     ·cases h
     ·cases h;omega
   ·rw[if_neg h2]at h;by_cases h3:c.toNat=34
    ·rw[if_pos h3]at h;cases hl:lit r with
     | none=>rw[hl]at h;cases h
     | some p =>
      obtain⟨t',n'⟩:=p;rw[hl]at h;simp only at h;have:=lit_le hl;split at h
      ·cases h
      ·cases h;simp;omega
    ·rw[if_neg h3]at h;cases hf:markL.find? (fun p=>prefixB p (c::r))with
     | none=>rw[hf]at h;cases h
     | some p =>
      rw[hf]at h;cases h;have:=prefixB_len (p:=p) (s:=c::r) (List.find?_some (p:=fun p=>prefixB p (c::r)) hf);exact⟨markL_len p (List.mem_of_find?_eq_some hf),this.1⟩
def cutF : Nat→Str→Nat→Nat→Except (Nat×Int) (List Tok)
 | 0,_,_,_=>.error (0,0)
 | f+1,r,at_,k=>if r.drop (blk false r)=[]then .ok []else if k=20000 then .error (at_+blk false r,4)else match tokD (r.drop (blk false r))with
  | none=>.error (at_+blk false r,3)
  | some (t,n)=>match cutF f ((r.drop (blk false r)).drop n) (at_+blk false r+n) (k+1)with
   | .error e=>.error e
   | .ok l=>.ok (⟨t.kind,t.text,t.num,((at_+blk false r:Nat):Int)⟩::l)
structure Cut where
 list:List Tok
 at_:Nat
 e:Int
 deriving DecidableEq
def Cut.of : Except (Nat×Int) (List Tok)→Cut
 | .ok l=>⟨l,0,0⟩
 | .error (a,e)=>⟨[],a,e⟩
def scanD (s:Str):Cut:=if 65536<s.length then ⟨[],0,13⟩else .of (cutF (s.length+1) s 0 0)
end Go.Sep
