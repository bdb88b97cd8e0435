/-
  Part 6 of the proof: library, walks and plain laws.
-/
import Derived.Lib.UnsafeStr
import Derived.Test.YthemafgjfddgbaaGreatDoorB5
set_option linter.unusedVariables false
set_option linter.unusedSimpArgs false
set_option maxHeartbeats 6400000
namespace Go.Sep
section
variable {P:Program} {N:Nat} {ρ:Env} {D:List Deferred} {m:Mem} {L:List Item} {Q:EPost} {full:List Oper} {o:Oper} {K:Env→Mem→List Item→Prop}
theorem run_appendT (T : Tab P) {t t2 e e2 ty : TypeId} {ei ei2 : TI} {w : World} {s s2 : Sl} {xs news : List Value} {i : Nat} (he : T.elem t=some (e,ei)) (he2 : T.elem t2=some (e2,ei2))
  (hw : St m w L) (hi : L[i]? = some (tok s ei.size)) (ho : Own s) (hx : Src w s ei.size xs) (hy : Src w s2 ei.size news) (hn : s2.a=none→s2.len=0) (h1 : allOne news=true) (hzs : ei.zero.cells.size=ei.size) (hcap : s.len ≤ s.cap)
  (hb : 0 < ei.bytes) (hfit : (s.len + s2.len) * ei.bytes ≤ 140737488355328) (hAt : ∀ b o,s.a=some ⟨b,o,none⟩ → At m b o xs) (hTy : ∀ b o,s.a=some ⟨b,o,none⟩ → o=0∧m.t b=some (e,s.cap * ei.size)∧m.pin.heap.size ≤ b) :
  ∃ s' m' w',(Builtin.append_ #[t,t2] ty #[s.v,s2.v]).run P w = .ok s'.v w' ∧ m ≤ m' ∧ St m' w' (L.set i (tok s' ei.size))∧Own s' ∧ s'.len=s.len + s2.len∧s'.len ≤ s'.cap ∧
   ((s'.a=none∧xs++news=[]∧s'.cap=0) ∨ ∃ b o,s'.a=some ⟨b,o,none⟩ ∧ At m' b o (xs++news))∧(∀ b o,s'.a=some ⟨b,o,none⟩ → o=0∧m'.t b=some (e,s'.cap * ei.size)∧m'.pin.heap.size ≤ b):=by
 obtain ⟨ti,h4,h5,h6⟩:=elem_get he
 obtain ⟨ti2,k4,k5,k6⟩:=elem_get he2
 obtain ⟨_,_,hu,_⟩:=T.ok t ti h4
 rw [h5] at hu
 obtain ⟨_,_,hu2,_⟩:=T.ok t2 ti2 k4
 rw [k5] at hu2
 obtain ⟨info,q1,q2,q3,q4,q5⟩:=T.ok e ei h6
 have hnew:=run_first (P:=P) hy
 have hbound : s.len + s2.len ≤ 140737488355328:=bG (Nat.le_mul_of_pos_right _ hb) hfit
 by_cases hroom : s.len + s2.len ≤ s.cap
 ·
  rcases ho with hnil | ⟨b,o,ha⟩
  ·subst hnil
   simp only at hroom
   have hz : s2.len=0:=by omega
   have hxs : xs=[]:=List.eq_nil_of_length_eq_zero (by have:=hx.1;simpa using this)
   have hns : news=[]:=List.eq_nil_of_length_eq_zero (by have:=hy.1;rw [hz] at this;simpa using this)
   subst hxs;subst hns
   refine ⟨⟨none,0,0⟩,m,w, ?_,m.le_refl,by rw [set_same hi];exact hw, .inl rfl,by simp [hz],by simp, .inl ⟨rfl,rfl,rfl⟩,fun b o q=>by cases q⟩
   have hnew' : (Builtin.firstCells ei.size 0 s2.v).run P w = .ok (⟨[]⟩ : Array Value) w:=by rw [← hz];exact hnew
   simp only [Sl.v] at hnew'
   simp [Builtin.append_,run_underlying hu,run_underlying hu2,sizeOf,typeInfo,q1,q3,Builtin.lenOf,hz,hnew']
  ·obtain ⟨a,n,c⟩:=s
   simp only at ha hroom hcap hbound hfit hx hAt
   subst ha
   have hst:=(hw.at_ hi)
   simp only [tok] at hst
   obtain ⟨vs,hvl,hst⟩:=hst.ofRoom
   have hnl : news.length ≤ vs.length:=by
    rw [hvl,hy.1];exact Nat.mul_le_mul_right _ (by omega)
   obtain ⟨w',hr,hst'⟩:=run_storeCells (P:=P) news vs 0 0 w hst h1 (by omega)
   rw [putAt_zero hnl] at hst'
   have hst2:=hst'.split
   obtain ⟨g1,g2,g3⟩:=hst2.freeze
   have g4:=g3.toRoom
   refine ⟨⟨some ⟨b,o,none⟩,n + s2.len,c⟩,m.addCells b (o + n * ei.size) news,w', ?_,g1, ?_, .inr ⟨b,o,rfl⟩,rfl,hroom, .inr ⟨b,o,rfl, ?_⟩,fun b' o' q=>by cases q;exact hTy b o rfl⟩
   ·have hr' : (storeCells ((⟨b,o,none⟩ : Addr).add (n * ei.size)) news).run P w = .ok () w':=by rw [addr_add];exact hr
    simp only [Sl.v] at hnew
    simp [Builtin.append_,run_underlying hu,run_underlying hu2,sizeOf,typeInfo,q1,q3,Builtin.lenOf,hroom,hnew,hr']
   ·have e1 : Item.room b (o + n * ei.size + news.length) (List.drop news.length vs).length=tok ⟨some ⟨b,o,none⟩,n + s2.len,c⟩ ei.size:=by
     simp only [tok,bW,hvl,hy.1]
     congr 1
     ·rw [Nat.add_mul];omega
     ·rw [← Nat.sub_mul];congr 1;omega
    rw [← e1]
    exact St.back hi g4
   ·refine ((hAt b o rfl).mono g1).append ?_
    rw [hx.1]
    exact g2
 ·
  have hlt : s.cap < s.len + s2.len:=by omega
  have h48 : ¬ (Builtin.nextslicecap (s.len + s2.len) s.cap * ei.bytes > 281474976710656):=by
   have:=growslice_fits hlt hfit
   omega
  have hold:=run_first (P:=P) (hx.drew)
  have hnew':=run_first (P:=P) (hy.drew)
  obtain ⟨nc,hnc,hge⟩ : ∃ nc,nc=(Question.appendCap (s.len + s2.len) s.cap e).cut (w.tape w.drawn (.appendCap (s.len + s2.len) s.cap e))∧s.len + s2.len ≤ nc:=⟨_,rfl,by simp [Question.cut]⟩
  have hst:=hw.drew.allocCells ((⟨xs⟩ : Array Value)++(⟨news⟩ : Array Value)++Builtin.zeroCells ei.zero.cells (nc - (s.len + s2.len))) e
  have hl1 : ((⟨xs⟩ : Array Value)++(⟨news⟩ : Array Value)++Builtin.zeroCells ei.zero.cells (nc - (s.len + s2.len))).toList=(xs++news)++(Builtin.zeroCells ei.zero.cells (nc - (s.len + s2.len))).toList:=by simp
  rw [hl1] at hst
  obtain ⟨g1,g2,g3⟩:=hst.split.freeze
  have hheap : (w.drew.alloc (.cells ((⟨xs⟩ : Array Value)++(⟨news⟩ : Array Value)++Builtin.zeroCells ei.zero.cells (nc - (s.len + s2.len))) e)).heap[w.drew.heap.size]? = some (.cells ((⟨xs⟩ : Array Value)++(⟨news⟩ : Array Value)++Builtin.zeroCells ei.zero.cells (nc - (s.len + s2.len))) e (0,0)):=heap_alloc_at _ _
  obtain ⟨f1,f2,f3⟩:=g3.typed hheap
  have g2:=g2.mono f1
  have g1:=cD g1 f1
  have g4:=f3.toRoom
  have hxl : (xs++news).length=(s.len + s2.len) * ei.size:=by rw [a6,hx.1,hy.1,Nat.add_mul]
  refine ⟨⟨some ⟨w.heap.size,0,none⟩,s.len + s2.len,nc⟩,_,w.drew.alloc (.cells ((⟨xs⟩ : Array Value)++(⟨news⟩ : Array Value)++Builtin.zeroCells ei.zero.cells (nc - (s.len + s2.len))) e), ?_,g1, ?_, .inr ⟨_,_,rfl⟩,rfl,hge, .inr ⟨_,_,rfl,g2⟩,fun b' o' q => ?_⟩
  ·simp only [Sl.v] at hold hnew'
   have hb0 : ei.bytes ≠ 0:=by omega
   have hmax : ¬ (9223372036854775807 < (s.len : Int) + (s2.len : Int)):=by omega
   simp [Builtin.append_,run_underlying hu,run_underlying hu2,sizeOf,typeInfo,zeroValue,q1,q3,q4,q5,Builtin.lenOf,hroom,hold,hnew',h48,hmax,Question.forced,newRow,← hnc,IntKind.max,IntKind.signed,IntKind.bits,hb0]
   congr 2
   apply Array.ext'
   simp
  ·have e1 : Item.room w.heap.size (0 + (xs++news).length) (Builtin.zeroCells ei.zero.cells (nc - (s.len + s2.len))).toList.length=tok ⟨some ⟨w.heap.size,0,none⟩,s.len + s2.len,nc⟩ ei.size:=by
    simp only [tok,hxl,Array.length_toList,size_zeroCells,hzs]
   rw [← e1]
   have hsub : (Item.room w.heap.size (0 + (xs++news).length) (Builtin.zeroCells ei.zero.cells (nc - (s.len + s2.len))).toList.length :: L.eraseIdx i).Sublist (Item.room w.heap.size (0 + (xs++news).length) (Builtin.zeroCells ei.zero.cells (nc - (s.len + s2.len))).toList.length :: L) :=
    bX _ (List.eraseIdx_sublist L i)
   exact St.back hi (g4.sub hsub)
  ·simp only [bu,Addr.mk.injEq,and_true] at q
   obtain ⟨rfl,rfl⟩:=q
   refine ⟨rfl,f2.trans ?_,by rw [g1.pin];exact hw.size⟩
   congr 2
   rw [Array.size_append,Array.size_append,size_zeroCells,hzs]
   have h1 : (⟨xs⟩ : Array Value).size=xs.length:=rfl
   have h2 : (⟨news⟩ : Array Value).size=news.length:=rfl
   rw [h1,h2,hx.1,hy.1,← Nat.add_mul,← Nat.add_mul]
   congr 1
   show s.len + s2.len + (nc - (s.len + s2.len))=nc
   omega
theorem OT.appendT {H α:Type} (T:Tab P) (r:R H α) (i:Nat) {s s2:Sl} {l l2:List α} {x y:Operand} {t t2:TypeId} {d:Nat} (hs:SlRep r m s l) (hown:Own s) (hs2:SlRep r m s2 l2)
  (ho:o.op = .call ⟨.builtin .append,⟨[x,y]⟩,⟨[t,t2]⟩⟩) (hd:o.dst=some d) (hN:Nat.blt d N=true) (hx:ev ρ x=some s.v) (hy:ev ρ y=some s2.v) (hT:T.okElem t t2 r.size r.bytes=true)
  (hi:L[i]? = some (tok s r.size)) (hfit:(l.length+l2.length)*r.bytes≤140737488355328) {e0:TypeId} (he0:(T.elem t).map Prod.fst=some e0) (hTy:∀ b o,s.a=some ⟨b,o,none⟩→o=0∧m.t b=some (e0,s.cap*r.size)∧m.pin.heap.size≤b)
  (hK:∀ s' m',m≤m'→SlRep r m' s' (l++l2)→Own s'→(∀ b o,s'.a=some ⟨b,o,none⟩→o=0∧m'.t b=some (e0,s'.cap*r.size)∧m'.pin.heap.size≤b)→K ((d,s'.v)::ρ) m' (L.set i (tok s' r.size))):OT P N o ρ D m L Q K:=by
 obtain⟨e,e2,ei,ei2,q1,q2,q3,q4,q5,q6⟩:=okElem_get hT;intro a w ha;obtain⟨hl,h1,h2,h3,h4⟩:=hs.src ha.st;obtain⟨hl2,k1,k2,k3,k4⟩:=hs2.src ha.st;have hb:0<ei.bytes:=mv;have hee:e0=e:=by rw[q1]at he0;simpa using he0.symm
 subst hee;obtain⟨s',m',w',hr,g1,g2,g3,g4,g5,g6,g7⟩:=run_appendT (P:=P) (ty:=o.type) T q1 q2 ha.st n5 hown n6 n8 (fun hz=>(k3 hz).1) (encs_one r hl2) q6 hs.cap hb
  (by rw[hs.len,hs2.len,q4];exact hfit) h4 (by rw[q3];exact hTy)
 have he:(execOp a.eval o).run P w = .ok (.value s'.v) w':=by
  exact eI
 have hrep:SlRep r m' s' (l++l2):=by
  exact eN
 simp only[Oper.wp,he,Oper.upon];rw[hd];have hp:=ha.put hN s'.v;rw[q3]at g2;exact⟨_,_,_,⟨hp.size,hp.env,hp.defers,g2⟩,hK s' m' g1 hrep g3 (by rw[q3]at g7;exact g7)⟩
theorem OT.allocT (T:Tab P) {t:TypeId} {d:Nat} {cs:List Value} (ho:o.op = .alloc t) (hd:o.dst=some d) (hN:Nat.blt d N=true)
  (hv:T.zeroCells t=some cs) (hK:∀ b m',m≤m'→m'.t b=some (t,cs.length)→K ((d,.pointer (some ⟨b,0,none⟩))::ρ) m' (.cells b 0 cs::L)):OT P N o ρ D m L Q K:=by
 intro a w ha;unfold Tab.zeroCells at hv;split at hv
 ·rename_i i hi;have hr:(execOp a.eval o).run P w = .ok (.value (.pointer (some ⟨w.heap.size,0,none⟩))) (w.alloc (.cells ⟨cs⟩ t)):=by
   exact ga
  simp only[Oper.wp,hr,Oper.upon,hd];have hp:=ha.put hN (.pointer (some ⟨w.heap.size,0,none⟩));have hst:=ha.st.allocCells ⟨cs⟩ t;obtain⟨f1,f2,f3⟩:=hst.typed (heap_alloc_at w (.cells ⟨cs⟩ t));exact⟨_,_,_,⟨hp.size,hp.env,hp.defers,f3⟩,hK _ _ f1 f2⟩
 ·cases hv
theorem St.shape {w:World} {b:Nat} {x:TypeId×Nat} (h:St m w L) (hb:m.t b=some x):w.shape? b=some x:=by
 obtain⟨arr,fr,h1,h2⟩:=h.t b x hb;simp only[World.shape?,h1];rw[h2]
def Tab.isPtr {P:Program} (T:Tab P) (t e:TypeId):Bool :=
 match T.get t with
 | some ⟨.pointer u,_,_,_⟩=>Nat.beq u e
 | _=>false
theorem isPtr_get {T:Tab P} {t e:TypeId} (h:T.isPtr t e=true):∃ i,T.get t=some i∧i.u = .pointer e:=by
 unfold Tab.isPtr at h;split at h
 ·have:=Nat.eq_of_beq_eq_true h;subst this;exact jh
 ·cases h
def Tab.isUnsafe {P:Program} (T:Tab P) (t:TypeId):Bool :=
 match T.get t with
 | some ⟨.unsafePointer,_,_,_⟩=>true
 | _=>false
theorem isUnsafe_get {T:Tab P} {t:TypeId} (h:T.isUnsafe t=true):∃ i,T.get t=some i∧i.u = .unsafePointer:=by
 unfold Tab.isUnsafe at h;split at h
 ·exact jh
 ·cases h
def Tab.size1 {P:Program} (T:Tab P) (t:TypeId):Bool :=
 match T.get t with
 | some ⟨_,n+1,_,_⟩=>true
 | _=>false
theorem size1_get {T:Tab P} {t:TypeId} (h:T.size1 t=true):∃ i,T.get t=some i∧i.size≠0:=by
 unfold Tab.size1 at h;split at h
 ·exact⟨_,by assumption,by simp⟩
 ·cases h
theorem equalIn_ptrNil {t e:TypeId} {w:World} (dd:Nat) (a:Addr) (hu:(underlying t).run P w = .ok (.pointer e) w) :
  (Op.equalIn (dd+1) t (.pointer (some a)) (.pointer none)).run P w = .ok false w:=by
 exact fj
theorem equalIn_nilPtr {t e:TypeId} {w:World} (dd:Nat) (hu:(underlying t).run P w = .ok (.pointer e) w) :
  (Op.equalIn (dd+1) t (.pointer none) (.pointer none)).run P w = .ok true w:=by
 simp only[Op.equalIn,Sem.run_bind,hu,Result.andThen_ok,Sem.run_pure];rfl
theorem OT.ptrNil (T:Tab P) {t t' e:TypeId} {x y:Operand} {q:Option Addr} {d:Nat} (ho:o.op = .binOp .eql t x y t') (hd:o.dst=some d) (hN:Nat.blt d N=true)
  (hx:ev ρ x=some (.pointer q)) (hy:ev ρ y=some (.pointer none)) (ht:T.isPtr t e=true) (hK:K ((d,.bool q.isNone)::ρ) m L):OT P N o ρ D m L Q K:=by
 obtain⟨ti,h1,h2⟩:=isPtr_get ht;refine cN hd hN (fun ac w ha=>⟨w,?_,ha.st⟩) hK;have hu:=T.run_underlying w h1;rw[h2]at hu;have e1:binOp .eql t (.pointer q) (.pointer none)=(do pure (.bool (←Op.equalIn (9999+1) t (.pointer q) (.pointer none))):Sem Value):=rfl;have e2:(eqGuard .eql t x y (.pointer q) (.pointer none)).run P w = .ok () w:=mQ;cases q with
 | none =>
  have h:=equalIn_nilPtr (P:=P) 9999 hu;exact eG
 | some q =>
  have h:=equalIn_ptrNil (P:=P) 9999 q hu;exact eG
end
end Go.Sep
namespace Go.Sep
theorem freeze_cell (w:World) (a:Addr) (n:Nat) (x:Addr):(w.freeze a n).cell? x=w.cell? x:=by
 unfold World.freeze;split
 ·rfl
 ·simp only[World.cell?,Array.getElem?_modify];by_cases e:a.block=x.block
  ·rw[if_pos e];cases h:w.heap[x.block]? with
   | none=>rfl
   | some ob=>cases ob<;>rfl
  ·rw[if_neg e]
theorem freeze_heap (w:World) (a:Addr) (n:Nat) {b:Nat} (h:a.block≠b):(w.freeze a n).heap[b]? = w.heap[b]?:=by
 unfold World.freeze;split
 ·rfl
 ·simp only[Array.getElem?_modify];rw[if_neg h]
theorem St.frz {m:Mem} {w:World} {L:List Item} (h:St m w L) (g n:Nat) (hp:m.pin.heap.size≤g) (hL:∀ x∈L,0<x.len→x.blk≠g):St m (w.freeze ⟨g,0,none⟩ n) L:=by
 have hsz:(w.freeze ⟨g,0,none⟩ n).heap.size=w.heap.size:=by
  unfold World.freeze;split
  ·rfl
  ·simp
 have hos:(w.freeze ⟨g,0,none⟩ n).os=w.os∧(w.freeze ⟨g,0,none⟩ n).tape=w.tape∧(w.freeze ⟨g,0,none⟩ n).output=w.output:=by
  unfold World.freeze;split<;>exact⟨rfl,rfl,rfl⟩
 have hfz:∀ a:Addr,a.block≠g→(w.freeze ⟨g,0,none⟩ n).frozen? a=w.frozen? a:=fun a ha=>World.frozen?_of_block (freeze_heap w _ n (fun e=>ha e.symm));refine { os:=hos.1.trans h.os,tape:=hos.2.1.trans h.tape,output:=hos.2.2.trans h.output,size:=by rw[hsz];exact h.size,pin:=fun b hb=>(freeze_heap w _ n (show g≠b by omega)).trans (h.pin b hb),c:=fun b i v hv=>(freeze_cell ..).trans (h.c b i v hv),o:=fun b x hx=>?_,t:=fun b x hx=>?_,items:=fun x hx=>?_,free:=h.free,disj:=h.disj }
 ·have h1:=h.o b x hx;by_cases e:g=b
  ·subst e;unfold World.freeze;split
   ·exact h1
   ·refine⟨?_,h1.2⟩;simp only[Array.getElem?_modify,if_true,h1.1,cw];cases x<;>simp_all [isCells]
  ·exact⟨(freeze_heap w _ n e).trans h1.1,h1.2⟩
 ·obtain⟨arr,fr,g1,g2⟩:=h.t b x hx;by_cases e:g=b
  ·subst e;unfold World.freeze;split
   ·exact⟨arr,fr,g1,g2⟩
   ·simp only[Array.getElem?_modify,if_true,g1,cw];exact⟨arr,_,rfl,g2⟩
  ·exact⟨arr,fr,(freeze_heap w _ n e).trans g1,g2⟩
 ·have hi:=h.items x hx;have hl:=hL x hx;cases x with
  | cells b off vs =>
   intro j v hv;obtain⟨g1,g2⟩:=hi j v hv;have hj:=(List.getElem?_eq_some_iff.1 hv).1;have hne:b≠g:=hl nz;exact⟨(freeze_cell ..).trans g1,fun i=>(hfz ⟨b,i,none⟩ hne).trans (g2 i)⟩
  | room b off k =>
   intro j hj;obtain⟨v,g1,g2⟩:=hi j hj;have hne:b≠g:=hl nz;exact⟨v,(freeze_cell ..).trans g1,fun i=>(hfz ⟨b,i,none⟩ hne).trans (g2 i)⟩
  | obj b ob =>
   have hne:b≠g:=hl (by simp[Item.len]);exact⟨(freeze_heap w _ n (fun e=>hne e.symm)).trans hi.1,hi.2⟩
theorem cell_arr {w:World} {g i:Nat} {arr:Array Value} {e:TypeId} {fr:Nat×Nat} {v:Value} (hg:w.heap[g]? = some (.cells arr e fr)) (h:w.cell? ⟨g,i,none⟩=some v):i<arr.size:=by
 simp only[World.cell?,hg]at h;exact(Array.getElem?_eq_some_iff.1 mP).1
def isObj : Item→Bool
 | .obj ..=>true
 | _=>false
theorem St.alone {m:Mem} {w:World} {L:List Item} {g n c:Nat} {e:TypeId} {vs:List Value} (h:St m w (tok ⟨some ⟨g,0,none⟩,n,c⟩ 1::L)) (hn:n≤c) (hA:At m g 0 vs) (hv:vs.length=n) (ht:m.t g=some (e,c)):∀ x∈L,0<x.len→x.blk≠g:=by
 intro x hx hl hb;obtain⟨arr,fr,g1,g2⟩:=h.t g _ ht;have hd:=(List.pairwise_cons.1 h.disj).1 x hx;have hf:=h.free x (List.mem_cons_of_mem _ hx);have hi:=h.items x (List.mem_cons_of_mem _ hx);have hoff:x.off<c∨isObj x=true:=by
  cases x with
  | cells b off us =>
   left;simp only[Item.blk]at hb;subst hb;obtain⟨q1,_⟩:=hi 0 us[0] (by simp only[Item.len]at hl;simp[hl]);exact iX
  | room b off k =>
   left;simp only[Item.blk]at hb;subst hb;obtain⟨v,q1,_⟩:=hi 0 hl;exact iX
  | obj b ob=>right;rfl
 rcases hoff with hoff | hoff
 ·by_cases hlt:x.off<n
  ·have h1:=hf.c 0 hl;rw[hb,Nat.add_zero]at h1;have h2:=hA x.off vs[x.off] (by simp[hv,hlt]);rw[cp,h1]at h2;cases h2
  ·simp only[tok,Item.Disj,Item.len,Item.blk,Item.off,Nat.mul_one,cp]at hd;rcases hd with q | q | q | q | q
   ·omega
   ·simp only[Item.len]at hl;cases x<;>simp_all []<;>omega
   ·exact q hb.symm
   ·cases x<;>simp_all [Item.off]<;>omega
   ·cases x<;>simp_all [Item.off,Item.len]<;>omega
 ·cases x with
  | obj b ob =>
   simp only[Item.blk]at hb;subst hb;have h1:=hi.1;have h2:=hi.2;exact js
  | cells=>cases hoff
  | room=>cases hoff
section
variable {P:Program} {N:Nat} {ρ:Env} {D:List Deferred} {m:Mem} {L:List Item} {Q:EPost} {full:List Oper} {o:Oper} {K:Env→Mem→List Item→Prop}
theorem At.bytes {m:Mem} {b:Nat} {bs:List UInt8} (h:At m b 0 (bs.map byteV)) {w:World} (hst:St m w L):∀ j x,bs[j]? = some x→w.cell? ((⟨b,0,none⟩:Addr).add j)=some (.int .u8 x.toNat):=fun j x hx=>by
 rw[addr_add];have:=hst.c _ _ _ (h j (byteV x) (by simp[hx]));simpa using this
theorem OT.sliceData {ts:Array TypeId} {x:Operand} {a:Option Addr} {n c d:Nat} (ho:o.op = .call ⟨.builtin .unsafeSliceData,⟨[x]⟩,ts⟩) (hd:o.dst=some d) (hN:Nat.blt d N=true) (hx:ev ρ x=some (.slice a n c)) (hc:a=none∨c≠0) (hK:K ((d,.pointer a)::ρ) m L):OT P N o ρ D m L Q K:=by
 refine cN hd hN (fun ac w ha=>⟨w,?_,ha.st⟩) hK;have hr:(Builtin.unsafeSliceData_ ts o.type #[.slice a n c]).run P w = .ok (.pointer a) w:=by
  cases a with
  | none=>exact Lib.run_unsafeSliceData_nil w ts o.type n c
  | some a =>
   rcases hc with h | h
   ·cases h
   ·exact Lib.run_unsafeSliceData_row w ts o.type a n c h
 simp only[execOp,ho,resolve,invoke,builtin,Sem.run_bind,Sem.run_pure,Result.andThen_ok,List.map_toArray,bH,bI,ha.env.eval hx,hr]
theorem OT.unsafeStr0 {pt it:TypeId} {x y:Operand} {p:Option Addr} {d:Nat} (ho:o.op = .call ⟨.builtin .unsafeString,⟨[x,y]⟩,⟨[pt,it]⟩⟩) (hd:o.dst=some d) (hN:Nat.blt d N=true) (hx:ev ρ x=some (.pointer p)) (hy:ev ρ y=some (.int .i64 0))
  (hK:K ((d,strV [])::ρ) m L):OT P N o ρ D m L Q K:=by
 refine cN hd hN (fun ac w ha=>⟨w,?_,ha.st⟩) hK;have hr:=Lib.run_unsafeString_none (P:=P) w pt it o.type p;simp only[execOp,ho,resolve,invoke,builtin,Sem.run_bind,Sem.run_pure,Result.andThen_ok,List.map_toArray,bH,bI,ha.env.eval hx,ha.env.eval hy];simp only[hr,Result.andThen_ok];rfl
theorem OT.unsafeStr (T:Tab P) {pt it e:TypeId} {x y:Operand} {g n c:Nat} {bs:List UInt8} {d:Nat} (ho:o.op = .call ⟨.builtin .unsafeString,⟨[x,y]⟩,⟨[pt,it]⟩⟩) (hd:o.dst=some d) (hN:Nat.blt d N=true) (hx:ev ρ x=some (.pointer (some ⟨g,0,none⟩))) (hy:ev ρ y=some (.int .i64 (n:Int)))
  (hpt:T.isPtr pt e=true) (hce:P.cellsOf e=1) (hA:At m g 0 (bs.map byteV)) (hbs:bs.length=n) (hpos:0<n) (hc:n≤c) (hmax:n≤9223372036854775807) (ht:m.t g=some (e,c)) (hp:m.pin.heap.size≤g)
  (hK:K ((d,strV bs)::ρ) m L):OT P N o ρ D m (tok ⟨some ⟨g,0,none⟩,n,c⟩ 1::L) Q K:=by
 obtain⟨pi,p1,p2⟩:=isPtr_get hpt;obtain⟨_,_,hup,_⟩:=T.ok pt pi p1;rw[p2]at hup;refine cN hd hN (fun ac w ha=>?_) hK;have hst:=ha.st;have halone:=hst.alone hc hA (by rw[bN];exact hbs) ht;have hcell:=At.bytes hA hst;have hne:bs≠[]:=fun e=>by subst e;simp at hbs;omega
 have hr:=Lib.run_unsafeString_row (P:=P) w pt it o.type e hup hce g c (hst.shape ht) bs hne mv mv hcell;refine⟨_,?_,(hst.sub (List.sublist_cons_self _ _)).frz g bs.length hp halone⟩;subst hbs;exact eI
theorem OT.strBytes (T:Tab P) {t u:TypeId} {x:Operand} {bs:List UInt8} {d:Nat} {e:TypeId} {ei:TI} (ho:o.op = .convert t u x) (hd:o.dst=some d) (hN:Nat.blt d N=true) (hx:ev ρ x=some (strV bs)) (he:T.elem u=some (e,ei)) (hb:ei.u = .int .u8) (ht:T.isStr t=true) (hfit:bs.length≤140737488355328)
  (hK:∀ s m',m≤m'→SlRep rByte m' s bs→s.len=bs.length→K ((d,s.v)::ρ) m' L):OT P N o ρ D m L Q K:=by
 obtain⟨ui,h4,h5,h6⟩:=elem_get he;obtain⟨ti,t1,t2⟩:=isStr_get ht;obtain⟨_,_,huu,_⟩:=T.ok u ui h4;rw[h5]at huu;obtain⟨_,_,hut,_⟩:=T.ok t ti t1;rw[t2]at hut;obtain⟨_,_,hue,_⟩:=T.ok e ei h6;rw[hb]at hue;intro a w ha;have hr:=Lib.run_convert_string_bytes (P:=P) w t u e ⟨⟨bs⟩⟩ hut huu hue;have hgrow:=ha.st.grow (w':=Lib.bytesWorld w e ⟨⟨bs⟩⟩) oc oc oc (by rw[Lib.bytesWorld_size];omega) (fun b hb=>Lib.bytesWorld_at_old w e _ b hb);obtain⟨g1,g2,g3⟩:=hgrow.learn (b:=w.heap.size) (vs:=bs.map byteV) (fun j v hv=>by
  have hj:j<bs.length:=by have:=(List.getElem?_eq_some_iff.1 hv).1;simpa using this
  have:=Lib.bytesWorld_cell w e ⟨⟨bs⟩⟩ j hj;rw[this];simp[hj]at hv;subst hv;simp[List.getD,hj]) (fun j=>ha.st.new_c j) ha.st.new_L
 have hge:bs.length≤grownCap w (⟨⟨bs⟩⟩:ByteArray).size 0 e:=by
  show bs.length≤(Question.appendCap _ 0 e).cut _;have:(⟨⟨bs⟩⟩:ByteArray).size=bs.length:=rfl;simp[Question.cut];omega
 have he':(execOp a.eval o).run P w = .ok (.value (.slice (some ⟨w.heap.size,0,none⟩) bs.length (grownCap w (⟨⟨bs⟩⟩:ByteArray).size 0 e))) (Lib.bytesWorld w e ⟨⟨bs⟩⟩):=by
  simp only[execOp,ho,ha.env.eval hx,Sem.run_bind,hr,Result.andThen_ok,Sem.run_pure];rfl
 simp only[Oper.wp,he',Oper.upon,hd];have hp:=ha.put hN (.slice (some ⟨w.heap.size,0,none⟩) bs.length (grownCap w (⟨⟨bs⟩⟩:ByteArray).size 0 e));exact⟨_,_,_,⟨hp.size,hp.env,hp.defers,g3⟩,hK ⟨some ⟨w.heap.size,0,none⟩,bs.length,_⟩ _ g1 ⟨rfl,hge,by show bs.length*1≤_;omega,bs,byte_refl bs,.inr ⟨w.heap.size,0,rfl,by rw[encs_byte];exact g2⟩⟩ rfl⟩
end
end Go.Sep
namespace Go.Sep
theorem allOne_bytes : ∀ bs:List UInt8,allOne (bs.map byteV)=true
 | []=>rfl
 | x::xs=>by
  have:=allOne_bytes xs;have h1:(byteV x).oneCell'=true:=rfl;simpa[allOne,h1]using this
section
variable {P:Program} {N:Nat} {ρ:Env} {D:List Deferred} {m:Mem} {L:List Item} {Q:EPost} {full:List Oper} {o:Oper} {K:Env→Mem→List Item→Prop}
theorem equalIn_ifNil {t:TypeId} {ms:Array (String×TypeId)} {w:World} (dd:Nat) (u:TypeId) (v:Value) (hu:(underlying t).run P w = .ok (.interface ms) w) :
  (Op.equalIn (dd+1) t (.iface u v) .nilIface).run P w = .ok false w:=by
 exact fj
theorem equalIn_nilNil {t:TypeId} {ms:Array (String×TypeId)} {w:World} (dd:Nat) (hu:(underlying t).run P w = .ok (.interface ms) w) :
  (Op.equalIn (dd+1) t .nilIface .nilIface).run P w = .ok true w:=by
 exact fj
def isErr : Value→Bool
 | .iface _ _=>true
 | _=>false
theorem OT.errNe (T:Tab P) {t t':TypeId} {x y:Operand} {v:Value} {d:Nat} (ho:o.op = .binOp .neq t x y t') (hd:o.dst=some d) (hN:Nat.blt d N=true)
  (hx:ev ρ x=some v) (hv:v = .nilIface∨∃ u a,v = .iface u a) (hy:y = .const .nilIface) (ht:T.isIface t=true) (hK:K ((d,.bool (isErr v))::ρ) m L):OT P N o ρ D m L Q K:=by
 obtain⟨ti,ms,h1,h2⟩:=isIface_get ht;subst hy;have hy:ev ρ (.const .nilIface)=some .nilIface:=rfl;refine cN hd hN (fun ac w ha=>⟨w,?_,ha.st⟩) hK;have hu:=T.run_underlying w h1;rw[h2]at hu;have e1:binOp .neq t v .nilIface=(do pure (.bool (!(←Op.equalIn (9999+1) t v .nilIface))):Sem Value):=by
  rcases hv with rfl | ⟨u,a,rfl⟩<;>rfl
 rcases hv with rfl | ⟨u,a,rfl⟩
 ·have h:=equalIn_nilNil (P:=P) 9999 hu;have e2:(eqGuard .neq t x (.const .nilIface) .nilIface .nilIface).run P w = .ok () w:=mQ;exact eG
 ·have h:=equalIn_ifNil (P:=P) 9999 u a hu;have e2:(eqGuard .neq t x (.const .nilIface) (.iface u a) .nilIface).run P w = .ok () w:=mQ;exact eG
theorem aK {rest full:List Oper} {t:TypeId} {t':TypeId} {x:Operand} {y:Operand} {v:Value} {d:Nat} (hv:v = .nilIface∨∃ u a,v = .iface u a) {p':Prop} (hK:p') (T:Tab P:=by exact tab) (ho:o.op = .binOp .neq t x y t':=by exact rfl) (hd:o.dst=some d:=by exact rfl) (hN:Nat.blt d N=true:=by exact rfl) (hx:ev ρ x=some v:=by exact rfl) (hy:y = .const .nilIface:=by exact rfl) (ht:T.isIface t=true:=by exact rfl) (h0:gv full ρ o=some true:=by exact rfl) (hz:p'→TO P N ⟨full⟩ rest ((d,.bool (isErr v))::ρ) D m L Q:=by exact vA):TO P N ⟨full⟩ (o::rest) ρ D m L Q:=TO.step h0 (OT.errNe T ho hd hN hx hv hy ht (hz hK))
theorem equalIn_ints {t u:TypeId} {k:IntKind} {info:TypeInfo} {ms:Array (String×TypeId)} {w:World} (dd:Nat) (a b:Int) (hu:(underlying t).run P w = .ok (.interface ms) w) (hi:P.info? u=some info) (hc:info.comparable=true) (hk:(underlying u).run P w = .ok (.int k) w) :
  (Op.equalIn (dd+1+1) t (.iface u (.int k a)) (.iface u (.int k b))).run P w = .ok (a==b) w:=by
 rw[Op.equalIn];simp only[Sem.run_bind,hu,Result.andThen_ok];simp[typeInfo,hi,hc,Op.equalIn,hk]
theorem OT.errEq (T:Tab P) {op:BinOp} {t t' u:TypeId} {k:IntKind} {info:TypeInfo} {x y:Operand} {a b:Int} {d:Nat} (hop:op = .eql∨op = .neq) (ho:o.op = .binOp op t x y t') (hd:o.dst=some d) (hN:Nat.blt d N=true)
  (hx:ev ρ x=some (.iface u (.int k a))) (hy:ev ρ y=some (.iface u (.int k b))) (ht:T.isIface t=true) (hi:P.info? u=some info) (hc:info.comparable=true) (hk:T.intK u=some k) (hK:K ((d,.bool (if op = .eql then decide (a=b)else !decide (a=b)))::ρ) m L):OT P N o ρ D m L Q K:=by
 obtain⟨ti,ms,h1,h2⟩:=isIface_get ht;obtain⟨ui,u1,u2⟩:=intK_get hk;refine cN hd hN (fun ac w ha=>⟨w,?_,ha.st⟩) hK;have hu:=T.run_underlying w h1;rw[h2]at hu;have hku:=T.run_underlying w u1;rw[u2]at hku;have h:=equalIn_ints (P:=P) (k:=k) 9998 a b hu hi hc hku;rcases hop with rfl | rfl
 ·have e1:binOp .eql t (.iface u (.int k a)) (.iface u (.int k b))=(do pure (.bool (←Op.equalIn (9998+1+1) t (.iface u (.int k a)) (.iface u (.int k b)))):Sem Value):=rfl;have e2:(eqGuard .eql t x y (.iface u (.int k a)) (.iface u (.int k b))).run P w = .ok () w:=mQ;simp only[execOp,ho,ha.env.eval hx,ha.env.eval hy,Sem.run_bind,e2,Result.andThen_ok,e1,h,Sem.run_pure,if_true,beq_dec]
 ·have e1:binOp .neq t (.iface u (.int k a)) (.iface u (.int k b))=(do pure (.bool (!(←Op.equalIn (9998+1+1) t (.iface u (.int k a)) (.iface u (.int k b))))):Sem Value):=rfl;have e2:(eqGuard .neq t x y (.iface u (.int k a)) (.iface u (.int k b))).run P w = .ok () w:=mQ;simp only[execOp,ho,ha.env.eval hx,ha.env.eval hy,Sem.run_bind,e2,Result.andThen_ok,e1,h,Sem.run_pure,beq_dec];simp
theorem equalIn_ptrSame {t e:TypeId} {w:World} {ei:TI} (T:Tab P) (dd:Nat) (b:Nat) (hu:(underlying t).run P w = .ok (.pointer e) w) (he:T.get e=some ei) (hz:ei.size≠0) :
  (Op.equalIn (dd+1) t (.pointer (some ⟨b,0,none⟩)) (.pointer (some ⟨b,0,none⟩))).run P w = .ok true w:=by
 have hs:=T.run_sizeOf w he;simp only[Op.equalIn,Sem.run_bind,hu,Result.andThen_ok,hs];simp[hz,sameAddr]
theorem OT.ptrSame (T:Tab P) {t t' e:TypeId} {x y:Operand} {b d:Nat} (ho:o.op = .binOp .neq t x y t') (hd:o.dst=some d) (hN:Nat.blt d N=true)
  (hx:ev ρ x=some (.pointer (some ⟨b,0,none⟩))) (hy:ev ρ y=some (.pointer (some ⟨b,0,none⟩))) (ht:T.isPtr t e=true) (he:T.size1 e=true) (hK:K ((d,.bool false)::ρ) m L):OT P N o ρ D m L Q K:=by
 obtain⟨ti,h1,h2⟩:=isPtr_get ht;obtain⟨ei,e1,e2⟩:=size1_get he;refine cN hd hN (fun ac w ha=>⟨w,?_,ha.st⟩) hK;have hu:=T.run_underlying w h1;rw[h2]at hu;have g1:binOp .neq t (.pointer (some ⟨b,0,none⟩)) (.pointer (some ⟨b,0,none⟩))=(do pure (.bool (!(←Op.equalIn (9999+1) t (.pointer (some ⟨b,0,none⟩)) (.pointer (some ⟨b,0,none⟩))))):Sem Value):=rfl;have g2:(eqGuard .neq t x y (.pointer (some ⟨b,0,none⟩)) (.pointer (some ⟨b,0,none⟩))).run P w = .ok () w:=mQ;have h:=equalIn_ptrSame (P:=P) T 9999 b hu e1 e2;simp only[execOp,ho,ha.env.eval hx,ha.env.eval hy,Sem.run_bind,g2,Result.andThen_ok,g1,h,Sem.run_pure];rfl
end
end Go.Sep
namespace Go.Sep
section
variable {P:Program} {N:Nat} {ρ:Env} {D:List Deferred} {m:Mem} {L:List Item} {Q:EPost} {full:List Oper} {o:Oper} {K:Env→Mem→List Item→Prop}
theorem OT.makeT (T:Tab P) {t:TypeId} {n d:Nat} {z:Value} {x y:Operand} {e:TypeId} {ei:TI} (ho:o.op = .makeSlice t x y) (hd:o.dst=some d) (hN:Nat.blt d N=true)
  (hx:ev ρ x=some (.int .i64 (n:Int))) (hy:ev ρ y=some (.int .i64 (n:Int))) (he:T.elem t=some (e,ei)) (hs:Nat.beq ei.size 1=true) (hz:cellsF ei.zero=some [z]) (hfit:n*ei.bytes≤281474976710656) (hb:Nat.blt 0 ei.bytes=true)
  (hK:∀ b m',m≤m'→m'.t b=some (e,n)→m'.pin.heap.size≤b→K ((d,.slice (some ⟨b,0,none⟩) n n)::ρ) m' (.cells b 0 (List.replicate n z)::L)):OT P N o ρ D m L Q K:=by
 intro a w ha;obtain⟨ti,h4,h5,h6⟩:=elem_get he;have hu:=T.run_underlying w h4;rw[h5]at hu;obtain⟨info,q1,q2,q3,q4,q5⟩:=T.ok e ei h6;have hs1:=Nat.eq_of_beq_eq_true hs;have hbp:0<ei.bytes:=nX;have hn:n≤281474976710656:=bG (Nat.le_mul_of_pos_right _ hbp) hfit;have hzc:=cellsF_eq hz;obtain⟨_,_,hu',_⟩:=T.ok t ti h4;rw[h5]at hu';have hcast:((info.bytes:Int)*(n:Int))=((n*ei.bytes:Nat):Int):=by rw[q4,Nat.mul_comm];simp
 have hmk:=run_make (P:=P) w t e info ei.zero hu' q1 q5 .i64 .i64 (n:Int) (n:Int) mv mv (by rw[hcast];omega) mv;have hrow:madeCells (⟨[z]⟩:Array Value) (n*1)=⟨List.replicate n z⟩:=by
  apply Array.ext';simp only[madeCells,Nat.mul_one,Array.toList_map,Array.toList_range];apply List.ext_getElem
  ·simp
  ·intro i h1 h2;simp[Nat.mod_one]
 rw[bM,q3,hs1,hzc,hrow]at hmk;have hr:(execOp a.eval o).run P w = .ok (.value (.slice (some ⟨w.heap.size,0,none⟩) n n)) (w.alloc (.cells ⟨List.replicate n z⟩ e)):=by
  simp only[execOp,ho,ha.env.eval hx,ha.env.eval hy,Sem.run_bind,hmk,Result.andThen_ok,Sem.run_pure]
 simp only[Oper.wp,hr,Oper.upon,hd];have hp:=ha.put hN (.slice (some ⟨w.heap.size,0,none⟩) n n);have hst:=ha.st.allocCells ⟨List.replicate n z⟩ e;obtain⟨f1,f2,f3⟩:=hst.typed (heap_alloc_at w (.cells ⟨List.replicate n z⟩ e));exact⟨_,_,_,⟨hp.size,hp.env,hp.defers,f3⟩,hK _ _ f1 (by simpa using f2) (by rw[f1.pin];exact ha.st.size)⟩
theorem OT.copyS (T:Tab P) (i:Nat) {x y:Operand} {t t2 e:TypeId} {ei:TI} {b off k n c:Nat} {bs:List UInt8} {vs:List Value} {d:Nat} (ho:o.op = .call ⟨.builtin .copy,⟨[x,y]⟩,⟨[t,t2]⟩⟩) (hd:o.dst=some d) (hN:Nat.blt d N=true)
  (hx:ev ρ x=some (.slice (some ⟨b,off+k,none⟩) n c)) (hy:ev ρ y=some (strV bs)) (hle:bs.length≤n) (he:T.elem t=some (e,ei)) (hsz:Nat.beq ei.size 1=true)
  (hi:L[i]? = some (.cells b off vs)) (hk:k+bs.length≤vs.length)
  (hK:K ((d,.int .i64 (bs.length:Int))::ρ) m (L.set i (.cells b off (putAt vs k (bs.map byteV))))):OT P N o ρ D m L Q K:=by
 obtain⟨ti,h4,h5,h6⟩:=elem_get he;have hs1:=Nat.eq_of_beq_eq_true hsz;intro ac w ha;have hu:=T.run_underlying w h4;rw[h5]at hu;have hes:=T.run_sizeOf w h6;rw[hs1]at hes;have hst:=ha.st.at_ hi;obtain⟨w',hr,hst'⟩:=run_storeCells (P:=P) (bs.map byteV) vs k 0 w hst (allOne_bytes bs) nB;have hx2:(⟨⟨bs⟩⟩:ByteArray).extract 0 bs.length=⟨⟨bs⟩⟩:=by
  apply ByteArray.ext;apply Array.ext';simp
 have hfirst':(Builtin.firstCells 1 bs.length (strV bs)).run P w = .ok (⟨bs.map byteV⟩:Array Value) w:=by
  simp only[Builtin.firstCells,Sem.run_pure];rw[hx2]
  congr 1
  apply Array.ext';simp
 have he':(execOp ac.eval o).run P w = .ok (.value (.int .i64 (bs.length:Int))) w':=by
  simp only[execOp,ho,resolve,invoke,builtin,Sem.run_bind,Sem.run_pure,Result.andThen_ok,List.map_toArray,bH,bI,ha.env.eval hx,ha.env.eval hy];have hlen:(Builtin.lenOf (strV bs)).run P w = .ok bs.length w:=rfl;have hmin:Nat.min bs.length n=bs.length:=Nat.min_eq_left hle;simp[Builtin.copy_,hu,hes,hlen,hfirst',hr,goInt,hmin]
 simp only[Oper.wp,he',Oper.upon,hd];have hp:=ha.put hN (.int .i64 (bs.length:Int));exact⟨_,_,_,⟨hp.size,hp.env,hp.defers,hst'.back hi⟩,hK⟩
theorem tok_full (b n:Nat):tok ⟨some ⟨b,0,none⟩,n,n⟩ 1 = .room b n 0:=by simp[tok]
theorem TO.tokFull {l:List Oper} (b n:Nat) (h:TO P N ⟨full⟩ l ρ D m (tok ⟨some ⟨b,0,none⟩,n,n⟩ 1::L) Q):TO P N ⟨full⟩ l ρ D m L Q:=by
 rw[tok_full]at h;exact TO.room0 b n h
theorem putAt_all {vs cs:List Value} (h:vs.length=cs.length):putAt vs 0 cs=cs:=by
 rw[putAt_zero mv,List.drop_of_length_le mv,ce]
end
end Go.Sep
namespace Go.Sep
section
variable {P:Program} {N:Nat} {ρ:Env} {D:List Deferred} {m:Mem} {L:List Item} {Q:EPost} {full:List Oper} {o:Oper} {K:Env→Mem→List Item→Prop}
theorem OT.freeze {b off:Nat} {vs:List Value} (h:∀ m',m≤m'→At m' b off vs→OT P N o ρ D m' L Q K):OT P N o ρ D m (.cells b off vs::L) Q K:=by
 exact fM
end
end Go.Sep
namespace Go.Sep
section
variable {P:Program} {N:Nat} {ρ:Env} {D:List Deferred} {m:Mem} {L Ls Lp:List Item} {Q:EPost} {ops:List Oper} {ts:List Nat} {fuel:Nat} {listed:List Bool}
end
section
variable {P:Program} {N:Nat} {ρ:Env} {D:List Deferred} {m:Mem} {L:List Item} {Q:EPost} {o:Oper} {K:Env→Mem→List Item→Prop}
end
end Go.Sep
namespace Go.Sep
structure ORow {H:Type} (s:Sl) (hs:List H):Prop where
 len:s.len≤s.cap
 all:hs.length=s.cap
 adr:(s=⟨none,0,0⟩)∨∃ b,s.a=some ⟨b,0,none⟩
theorem ORow.nil {H:Type}:ORow (H:=H) ⟨none,0,0⟩ []:=⟨bF _,rfl,.inl rfl⟩
section
variable {P:Program} {N:Nat} {ρ:Env} {D:List Deferred} {m:Mem} {L:List Item} {Q:EPost} {full:List Oper} {o:Oper} {K:Env→Mem→List Item→Prop}
end
end Go.Sep
set_option linter.unusedSectionVars false
namespace Go.Sep
section
variable {α:Type} [Inhabited α]
def gk (xs:List α) (k:Nat):α:=xs[k]?.getD default
structure Mix (n:Nat) (xs ys:List α):Prop where
 len:ys.length=xs.length
 perm:(ys.take n).Perm (xs.take n)
 rest:ys.drop n=xs.drop n
structure OrdK (lt:α→α→Bool):Prop where
 asym:∀ a b,lt a b=true→lt b a=false
 trans:∀ a b c,lt b a=false→lt c b=false→lt c a=false
def par (k:Nat):Nat:=(k-1) / 2
variable {lt:α→α→Bool}
structure DI (lt:α→α→Bool) (xs:List α) (n lo i:Nat):Prop where
 a:∀ k,0<k→k<n→lo≤par k→par k≠i→lt (gk xs k) (gk xs (par k))=false
 b:∀ k,0<k→k<n→par k=i→0<i→lo≤par i→lt (gk xs k) (gk xs (par i))=false
structure UI (lt:α→α→Bool) (xs:List α) (n j:Nat):Prop where
 a:∀ k,0<k→k<n→k≠j→lt (gk xs k) (gk xs (par k))=false
 b:∀ k,0<k→k<n→par k=j→0<j→lt (gk xs k) (gk xs (par j))=false
end
end Go.Sep
namespace Go.Sep
section
variable {P:Program} {N:Nat} {ρ:Env} {D:List Deferred} {m:Mem} {L:List Item} {Q:EPost} {full:List Oper} {o:Oper} {K:Env→Mem→List Item→Prop}
end
section
variable {P:Program} {N:Nat} {ρ:Env} {D:List Deferred} {m:Mem} {Q:EPost} {ops:List Oper} {ts:List Nat} {fuel:Nat} {listed:List Bool} {Ls Lp:List Item}
theorem DO.loadE {H α:Type} (T:Tab P) (i:Nat) (j:Nat) (r:R H α) {hs:List H} {k jj q:Nat} {h0:H} {v:Value} {x:Operand} {t:TypeId} {o:Oper} {b d:Nat} (hk:hs[k]? = some h0) (hq:q=k*r.size+jj) (hv:∀ rest,T.load t (r.enc h0++rest) jj=some v) (hc:Calm Q) (hns:Region.noSelect ⟨ops⟩=true) (hok:orderOk ops ts [i] listed=true)
  (hi:ops[i]? = some o) (hg:gv ops ρ o=some true) (ho:o.op = .load t x) (hd:o.dst=some d) (hN:Nat.blt d N=true)
  (hx:ev ρ x=some (.pointer (some ⟨b,q,none⟩))) (hj:Ls[j]? = some (.cells b 0 (encs r hs)))
  (h:DO P N ops ts fuel (listed.set i true) ((d,v)::ρ) D m Ls Lp Q):DO P N ops ts (fuel+1) listed ρ D m Ls Lp Q:=by
 subst hq;exact DO.loadL (off:=0) (k:=k*r.size+jj) T i j hc hns hok hi hg ho hd hN oa hj (load_encs T r hk hv) h
end
structure IRow (s:Sl) (b:Nat) (n:Nat):Prop where
 len:s.len=n
 cap:s.len≤s.cap
 pos:0<n→∃ c,s=⟨some ⟨b,0,none⟩,n,c⟩
 nil:n=0→s.a=none→s.cap=0
section
variable {P:Program} {N:Nat} {ρ:Env} {D:List Deferred} {m:Mem} {L:List Item} {Q:EPost} {full:List Oper} {o:Oper} {K:Env→Mem→List Item→Prop}
end
section
variable {P:Program} {N:Nat} {ρ:Env} {D:List Deferred} {m:Mem} {L:List Item} {Q:EPost} {full:List Oper}
theorem TC.freezeAt {c:Code} (i:Nat) {b off:Nat} {vs:List Value} (hi:L[i]? = some (.cells b off vs)) (h:∀ m',m≤m'→At m' b off vs→TC P N c ρ D m' (L.eraseIdx i) Q):TC P N c ρ D m L Q :=
 TC.perm (perm_at hi) (TC.freeze h)
theorem TO.freezeAt {l:List Oper} (i:Nat) {b off:Nat} {vs:List Value} (hi:L[i]? = some (.cells b off vs)) (h:∀ m',m≤m'→At m' b off vs→TO P N ⟨full⟩ l ρ D m' (L.eraseIdx i) Q):TO P N ⟨full⟩ l ρ D m L Q:=by
 exact cM (perm_at hi) (cX h)
end
end Go.Sep
namespace Go
abbrev db := @Sep.TO.freezeAt
end Go
namespace Go.Sep
section
variable {P:Program} {N:Nat} {ρ:Env} {D:List Deferred} {m:Mem} {L:List Item} {Q:EPost} {full:List Oper} {o:Oper} {K:Env→Mem→List Item→Prop}
theorem OT.litR {H α:Type} (T:Tab P) (r:R H α) {hs:List H} {l:List α} {t:TypeId} {n d:Nat} {ps:List (Nat×Operand)} (h2:All2 (r.rep m) hs l) (ho:o.op = .buildSlice t n ⟨ps⟩) (hd:o.dst=some d) (hN:Nat.blt d N=true)
  (hv:T.lit ρ t n ps=some (encs r hs)) (hn:l.length=n) (hfit:n*r.bytes≤140737488355328)
  (hK:∀ s m',m≤m'→SlRep r m' s l→Own s→s.cap=s.len→K ((d,s.v)::ρ) m' L):OT P N o ρ D m L Q K:=by
 intro a w ha;refine Oper.wp_mono (fun a' w' hl=>?_) (OT.lit (K:=fun ρ' m' L'=>∃ b,ρ'=(d,.slice (some ⟨b,0,none⟩) n n)::ρ∧m'=m∧L' = .cells b 0 (encs r hs)::L) T ho hd hN hv (fun b=>⟨b,rfl,rfl,rfl⟩) a w ha);obtain⟨ρ',m',L',h1,b,rfl,rfl,rfl⟩:=hl;obtain⟨g1,g2,g3⟩:=h1.st.freeze;exact⟨_,_,_,⟨h1.size,h1.env,h1.defers,g3⟩,hK ⟨some ⟨b,0,none⟩,n,n⟩ _ g1 ⟨hn.symm,bF _,hfit,hs,h2.mono fun _ _=>r.mono g1,.inr ⟨b,0,rfl,g2⟩⟩ (.inr ⟨b,0,rfl⟩) rfl⟩
theorem aM {H:Type} {α:Type} (T:Tab P) (r:R H α) {hs:List H} {l:List α} {t:TypeId} {n:Nat} {d:Nat} {ps:List (Nat×Operand)} (h2:All2 (r.rep m) hs l) (e3:(o.op = .buildSlice t n ⟨ps⟩)∧(o.dst=some d)∧(Nat.blt d N=true)∧(T.lit ρ t n ps=some (encs r hs))∧(l.length=n)∧True) (hfit:n*r.bytes≤140737488355328) (hK:∀ s m',m≤m'→SlRep r m' s l→Own s→s.cap=s.len→K ((d,s.v)::ρ) m' L):OT P N o ρ D m L Q K:=OT.litR T r h2 e3.1 e3.2.1 e3.2.2.1 e3.2.2.2.1 e3.2.2.2.2.1 hfit hK
theorem av {rest full:List Oper} {H:Type} {α:Type} (T:Tab P) (r:R H α) {hs:List H} {l:List α} {t:TypeId} {n:Nat} {d:Nat} {ps:List (Nat×Operand)} (h2:All2 (r.rep m) hs l) (e3:(o.op = .buildSlice t n ⟨ps⟩)∧(o.dst=some d)∧(Nat.blt d N=true)∧(T.lit ρ t n ps=some (encs r hs))∧(l.length=n)∧True) (hfit:n*r.bytes≤140737488355328) (hK:∀ s m',m≤m'→SlRep r m' s l→Own s→s.cap=s.len→TO P N ⟨full⟩ rest ((d,s.v)::ρ) D m' L Q) (h0:gv full ρ o=some true:=by exact rfl):TO P N ⟨full⟩ (o::rest) ρ D m L Q:=TO.step h0 (OT.litR T r h2 e3.1 e3.2.1 e3.2.2.1 e3.2.2.2.1 e3.2.2.2.2.1 hfit hK)
theorem tok_fullO {s:Sl} (h:s.cap=s.len) (ho:Own s) (size:Nat):∃ b off,tok s size = .room b off 0:=by
 rcases ho with rfl | ⟨b,o,ha⟩
 ·exact⟨0,0,rfl⟩
 ·exact⟨b,o+s.len*size,by unfold tok;rw[ha,h];simp⟩
theorem TO.tokFo {l:List Oper} {s:Sl} (h:s.cap=s.len) (ho:Own s) (size:Nat) (hK:TO P N ⟨full⟩ l ρ D m (tok s size::L) Q):TO P N ⟨full⟩ l ρ D m L Q:=by
 obtain⟨b,off,hb⟩:=tok_fullO h ho size;rw[hb]at hK;exact TO.room0 b off hK
theorem OT.tokFo {s:Sl} (h:s.cap=s.len) (ho:Own s) (size:Nat) (hK:OT P N o ρ D m (tok s size::L) Q K):OT P N o ρ D m L Q K:=by
 obtain⟨b,off,hb⟩:=tok_fullO h ho size;rw[hb]at hK;exact fun a w ha=>hK a w ⟨ha.size,ha.env,ha.defers,ha.st.room0 b off⟩
theorem OT.assertOk (T:Tab P) {x:Operand} {xt t:TypeId} {v:Value} {d:Nat} (ho:o.op = .typeAssert x xt t true) (hd:o.dst=some d) (hN:Nat.blt d N=true) (hx:ev ρ x=some (.iface t v)) (ht:T.notIface t=true)
  (hK:K ((d,.tuple ⟨[v,.bool true]⟩)::ρ) m L):OT P N o ρ D m L Q K:=by
 refine cN hd hN (fun ac w ha=>⟨w,?_,ha.st⟩) hK;unfold Tab.notIface at ht;split at ht
 ·cases ht
 ·rename_i i hne hg;have hu:=T.run_underlying w hg;simp only[execOp,ho,ha.env.eval hx,Instr.typeAssert,Sem.run_bind,hu,Result.andThen_ok];cases hi:i.u with
  | interface ms =>
   obtain⟨u,a,b,c⟩:=i;simp only at hi;subst hi;exact absurd rfl (hne ms a b c)
  | _=>simp
 ·cases ht
end
end Go.Sep
namespace Go
abbrev de := @Sep.OT.litR
end Go
namespace Go.Sep
theorem uA {p p':Prop} (hp:p') (h:p'→p:=by(intro h;(repeat (first|refine q1 ?_|refine q2 ?_|refine q3 ?_|refine q4 tab rfl rfl ?_|refine q5 ?_|refine q6 ?_|refine q7 ?_|refine q8 ?_|refine q9 ?_|refine q10 ?_|refine q11 ?_|refine q12 rfl ?_|refine q13 ?_|refine q14 ?_|refine q15 ?_|refine q16 rfl ?_|refine q17 rfl ?_));exact h)):p:=h hp
theorem uN {p p':Prop} (hp:p') (h:p'→p:=by(intro h;(repeat (first|refine q1 ?_|refine q2 ?_|refine q3 ?_|refine q4 tab rfl rfl ?_|refine q5 ?_|refine q6 ?_|refine q7 ?_|refine q8 ?_|refine q9 ?_|refine q10 ?_|refine q11 ?_|refine q12 rfl ?_|refine q13 ?_|refine q14 ?_|refine q15 ?_));exact h)):p:=h hp
theorem uB {p p':Prop} (hp:p') (h:p'→p:=by(intro h;(repeat (first|refine q1 ?_|refine q3 ?_|refine q4 tab rfl rfl ?_|refine q5 ?_|refine q6 ?_|refine q7 ?_|refine q8 ?_|refine q9 ?_|refine q10 ?_|refine q11 ?_|refine q12 rfl ?_|refine q13 ?_|refine q14 ?_|refine q15 ?_|refine q16 rfl ?_|refine q17 rfl ?_));exact h)):p:=h hp
theorem uG {p p':Prop} (hp:p') (h:p'→p:=by(intro h;(repeat (first|refine q1 ?_|refine q2 ?_|refine q4 tab rfl rfl ?_|refine q5 ?_|refine q6 ?_|refine q7 ?_|refine q8 ?_|refine q9 ?_|refine q10 ?_|refine q11 ?_|refine q12 rfl ?_|refine q13 ?_|refine q14 ?_|refine q15 ?_|refine q16 rfl ?_|refine q17 rfl ?_));exact h)):p:=h hp
theorem uL {p p':Prop} (hp:p') (h:p'→p:=by(intro h;(repeat (first|refine q1 ?_|refine q2 ?_|refine q3 ?_|refine q4 tab rfl rfl ?_|refine q5 ?_|refine q6 ?_|refine q7 ?_|refine q8 ?_|refine q9 ?_|refine q10 ?_|refine q11 ?_|refine q12 rfl ?_|refine q13 ?_|refine q14 ?_|refine q15 ?_|refine q16 rfl ?_|refine q17 rfl ?_|refine qs rfl (ql tab 0 rfl rfl rfl rfl rfl rfl ?_)|refine qs rfl (qz tab 0 rfl rfl rfl rfl rfl rfl ?_)|refine qs rfl (ql tab 1 rfl rfl rfl rfl rfl rfl ?_)|refine qs rfl (qz tab 1 rfl rfl rfl rfl rfl rfl ?_)|refine qs rfl (ql tab 2 rfl rfl rfl rfl rfl rfl ?_)|refine qs rfl (qz tab 2 rfl rfl rfl rfl rfl rfl ?_)|refine qs rfl (ql tab 3 rfl rfl rfl rfl rfl rfl ?_)|refine qs rfl (qz tab 3 rfl rfl rfl rfl rfl rfl ?_)|refine qs rfl (ql tab 4 rfl rfl rfl rfl rfl rfl ?_)|refine qs rfl (qz tab 4 rfl rfl rfl rfl rfl rfl ?_)|refine qs rfl (ql tab 5 rfl rfl rfl rfl rfl rfl ?_)|refine qs rfl (qz tab 5 rfl rfl rfl rfl rfl rfl ?_)));exact h)):p:=h hp
theorem uM {p p':Prop} (hp:p') (h:p'→p:=by(intro h;(first|refine qs rfl (ql tab 0 rfl rfl rfl rfl rfl rfl ?_)|refine qs rfl (qz tab 0 rfl rfl rfl rfl rfl rfl ?_)|refine qs rfl (ql tab 1 rfl rfl rfl rfl rfl rfl ?_)|refine qs rfl (qz tab 1 rfl rfl rfl rfl rfl rfl ?_)|refine qs rfl (ql tab 2 rfl rfl rfl rfl rfl rfl ?_)|refine qs rfl (qz tab 2 rfl rfl rfl rfl rfl rfl ?_)|refine qs rfl (ql tab 3 rfl rfl rfl rfl rfl rfl ?_)|refine qs rfl (qz tab 3 rfl rfl rfl rfl rfl rfl ?_)|refine qs rfl (ql tab 4 rfl rfl rfl rfl rfl rfl ?_)|refine qs rfl (qz tab 4 rfl rfl rfl rfl rfl rfl ?_)|refine qs rfl (ql tab 5 rfl rfl rfl rfl rfl rfl ?_)|refine qs rfl (qz tab 5 rfl rfl rfl rfl rfl rfl ?_));exact h)):p:=h hp
theorem uT {p p':Prop} (hp:p') (h:p'→p:=by(intro h;(first|refine qs rfl (cO tab 0 rfl rfl rfl rfl rfl rfl rfl rfl ?_)|refine qs rfl (cP tab 0 rfl rfl rfl rfl rfl rfl rfl rfl ?_)|refine qs rfl (cO tab 1 rfl rfl rfl rfl rfl rfl rfl rfl ?_)|refine qs rfl (cP tab 1 rfl rfl rfl rfl rfl rfl rfl rfl ?_)|refine qs rfl (cO tab 2 rfl rfl rfl rfl rfl rfl rfl rfl ?_)|refine qs rfl (cP tab 2 rfl rfl rfl rfl rfl rfl rfl rfl ?_)|refine qs rfl (cO tab 3 rfl rfl rfl rfl rfl rfl rfl rfl ?_)|refine qs rfl (cP tab 3 rfl rfl rfl rfl rfl rfl rfl rfl ?_)|refine qs rfl (cO tab 4 rfl rfl rfl rfl rfl rfl rfl rfl ?_)|refine qs rfl (cP tab 4 rfl rfl rfl rfl rfl rfl rfl rfl ?_)|refine qs rfl (cO tab 5 rfl rfl rfl rfl rfl rfl rfl rfl ?_)|refine qs rfl (cP tab 5 rfl rfl rfl rfl rfl rfl rfl rfl ?_));exact h)):p:=h hp
theorem uS {α:Type} {l l':List α} (h:l'.Sublist l:=by(repeat (first | exact bZ _ | exact List.sublist_append_left _ _ | refine bX _ ?_ | refine bY _ ?_))):l'.Sublist l:=h
theorem uH {p:Prop} (h:p:=by(repeat (first | exact trivial | refine And.intro rfl ?_))):p:=h
theorem uC {Q:EPost} (h:Calm Q:=by(repeat (first | exact Calm.ret | exact Calm.quiet | refine Calm.then ?_ | refine Calm.block ?_ | assumption))):Calm Q:=h
theorem uP {α:Type} {l l':List α} (h:l.Perm l':=by(first | exact a9 _ | (rw[ce];exact a9 _))):l.Perm l':=h
theorem vA {p p':Prop} (h:p'→p:=by(intro h;(repeat (first|refine q1 ?_|refine q2 ?_|refine q3 ?_|refine q4 tab rfl rfl ?_|refine q5 ?_|refine q6 ?_|refine q7 ?_|refine q8 ?_|refine q9 ?_|refine q10 ?_|refine q11 ?_|refine q12 rfl ?_|refine q13 ?_|refine q14 ?_|refine q15 ?_|refine q16 rfl ?_|refine q17 rfl ?_));exact h)):p'→p:=h
theorem vN {p p':Prop} (h:p'→p:=by(intro h;(repeat (first|refine q1 ?_|refine q2 ?_|refine q3 ?_|refine q4 tab rfl rfl ?_|refine q5 ?_|refine q6 ?_|refine q7 ?_|refine q8 ?_|refine q9 ?_|refine q10 ?_|refine q11 ?_|refine q12 rfl ?_|refine q13 ?_|refine q14 ?_|refine q15 ?_));exact h)):p'→p:=h
theorem vB {p p':Prop} (h:p'→p:=by(intro h;(repeat (first|refine q1 ?_|refine q3 ?_|refine q4 tab rfl rfl ?_|refine q5 ?_|refine q6 ?_|refine q7 ?_|refine q8 ?_|refine q9 ?_|refine q10 ?_|refine q11 ?_|refine q12 rfl ?_|refine q13 ?_|refine q14 ?_|refine q15 ?_|refine q16 rfl ?_|refine q17 rfl ?_));exact h)):p'→p:=h
theorem vG {p p':Prop} (h:p'→p:=by(intro h;(repeat (first|refine q1 ?_|refine q2 ?_|refine q4 tab rfl rfl ?_|refine q5 ?_|refine q6 ?_|refine q7 ?_|refine q8 ?_|refine q9 ?_|refine q10 ?_|refine q11 ?_|refine q12 rfl ?_|refine q13 ?_|refine q14 ?_|refine q15 ?_|refine q16 rfl ?_|refine q17 rfl ?_));exact h)):p'→p:=h
theorem vL {p p':Prop} (h:p'→p:=by(intro h;(repeat (first|refine q1 ?_|refine q2 ?_|refine q3 ?_|refine q4 tab rfl rfl ?_|refine q5 ?_|refine q6 ?_|refine q7 ?_|refine q8 ?_|refine q9 ?_|refine q10 ?_|refine q11 ?_|refine q12 rfl ?_|refine q13 ?_|refine q14 ?_|refine q15 ?_|refine q16 rfl ?_|refine q17 rfl ?_|refine qs rfl (ql tab 0 rfl rfl rfl rfl rfl rfl ?_)|refine qs rfl (qz tab 0 rfl rfl rfl rfl rfl rfl ?_)|refine qs rfl (ql tab 1 rfl rfl rfl rfl rfl rfl ?_)|refine qs rfl (qz tab 1 rfl rfl rfl rfl rfl rfl ?_)|refine qs rfl (ql tab 2 rfl rfl rfl rfl rfl rfl ?_)|refine qs rfl (qz tab 2 rfl rfl rfl rfl rfl rfl ?_)|refine qs rfl (ql tab 3 rfl rfl rfl rfl rfl rfl ?_)|refine qs rfl (qz tab 3 rfl rfl rfl rfl rfl rfl ?_)|refine qs rfl (ql tab 4 rfl rfl rfl rfl rfl rfl ?_)|refine qs rfl (qz tab 4 rfl rfl rfl rfl rfl rfl ?_)|refine qs rfl (ql tab 5 rfl rfl rfl rfl rfl rfl ?_)|refine qs rfl (qz tab 5 rfl rfl rfl rfl rfl rfl ?_)));exact h)):p'→p:=h
section
variable {P:Program} {N:Nat} {ρ:Env} {D:List Deferred} {m:Mem} {L:List Item} {Q:EPost} {full:List Oper} {o:Oper} {rest:List Oper}
theorem oC {F:Operand} {args:List Operand} {ats:Array TypeId} {f:FuncId} {first cap vs all:List Value} {d:Nat} (hg:Goes P f)
 (h:TCallX P f ⟨all⟩ m L (fun v m' L'=>TO P N ⟨full⟩ rest ((d,v)::ρ) D m' L' Q) (fun ch m' L'=>Q (.panic ch) ρ D m' L'))
 (h0:gv full ρ o=some true:=by exact rfl) (ho:o.op=.call ⟨.value F,⟨args⟩,ats⟩:=by exact rfl) (hd:o.dst=some d:=by exact rfl) (hN:Nat.blt d N=true:=by exact rfl)
 (hF:ev ρ F=some (.func (.func f) ⟨first⟩ ⟨cap⟩):=by exact rfl) (ha:evs ρ args=some vs:=by exact rfl) (hall:fl (first++(vs++cap))=some all:=by exact rfl):TO P N ⟨full⟩ (o::rest) ρ D m L Q :=
 TO.step h0 (cR ho hd hN hF ha hall hg h)
theorem oB {x:Operand} {t:TypeId} {d:Nat} {v:Value} {cs:List Value} (hK:∀ b,TO P N ⟨full⟩ rest ((d,.pointer (some ⟨b,0,none⟩))::ρ) D m (.cells b 0 cs::L) Q)
 (h0:gv full ρ o=some true:=by exact rfl) (ho:o.op=.box t x:=by exact rfl) (hd:o.dst=some d:=by exact rfl) (hN:Nat.blt d N=true:=by exact rfl) (hx:ev ρ x=some v:=by exact rfl) (hv:cellsF v=some cs:=by exact rfl):TO P N ⟨full⟩ (o::rest) ρ D m L Q :=
 TO.step h0 (OT.box ho hd hN hx hv hK)
theorem ay {x:Operand} {t:TypeId} {d:Nat} {v:Value} {cs:List Value} {p':_→Prop} (hK:∀ b,p' b) (h0:gv full ρ o=some true:=by exact rfl) (ho:o.op=.box t x:=by exact rfl) (hd:o.dst=some d:=by exact rfl) (hN:Nat.blt d N=true:=by exact rfl) (hx:ev ρ x=some v:=by exact rfl) (hv:cellsF v=some cs:=by exact rfl) (hz:∀ b,p' b→TO P N ⟨full⟩ rest ((d,.pointer (some ⟨b,0,none⟩))::ρ) D m (.cells b 0 cs::L) Q:=by intro b;exact vL):TO P N ⟨full⟩ (o::rest) ρ D m L Q:=oB (h0:=h0) (ho:=ho) (hd:=hd) (hN:=hN) (hx:=hx) (hv:=hv) (fun b0=>hz b0 (hK b0))
theorem oA (T:Tab P) {t:TypeId} {d:Nat} {cs:List Value} (hK:∀ b,TO P N ⟨full⟩ rest ((d,.pointer (some ⟨b,0,none⟩))::ρ) D m (.cells b 0 cs::L) Q)
 (h0:gv full ρ o=some true:=by exact rfl) (ho:o.op=.alloc t:=by exact rfl) (hd:o.dst=some d:=by exact rfl) (hN:Nat.blt d N=true:=by exact rfl) (hv:T.zeroCells t=some cs:=by exact rfl):TO P N ⟨full⟩ (o::rest) ρ D m L Q :=
 TO.step h0 (OT.alloc T ho hd hN hv hK)
theorem aC (T:Tab P) {t:TypeId} {d:Nat} {cs:List Value} {p':_→Prop} (hK:∀ b,p' b) (h0:gv full ρ o=some true:=by exact rfl) (ho:o.op=.alloc t:=by exact rfl) (hd:o.dst=some d:=by exact rfl) (hN:Nat.blt d N=true:=by exact rfl) (hv:T.zeroCells t=some cs:=by exact rfl) (hz:∀ b,p' b→TO P N ⟨full⟩ rest ((d,.pointer (some ⟨b,0,none⟩))::ρ) D m (.cells b 0 cs::L) Q:=by intro b;exact vA):TO P N ⟨full⟩ (o::rest) ρ D m L Q:=oA (h0:=h0) (ho:=ho) (hd:=hd) (hN:=hN) (hv:=hv) T (fun b0=>hz b0 (hK b0))
theorem oL (T:Tab P) {x:Operand} {t:TypeId} {b off d:Nat} {cs:List Value} {v:Value} (hi:At m b off cs) (hK:TO P N ⟨full⟩ rest ((d,v)::ρ) D m L Q)
 (h0:gv full ρ o=some true:=by exact rfl) (ho:o.op=.load t x:=by exact rfl) (hd:o.dst=some d:=by exact rfl) (hN:Nat.blt d N=true:=by exact rfl)
 (hx:ev ρ x=some (.pointer (some ⟨b,off,none⟩)):=by exact rfl) (hv:T.load t cs 0=some v:=by exact rfl):TO P N ⟨full⟩ (o::rest) ρ D m L Q :=
 TO.step h0 (OT.loadA0 T hi ho hd hN hx hv hK)
theorem ap (T:Tab P) {x:Operand} {t:TypeId} {b:Nat} {off:Nat} {d:Nat} {cs:List Value} {v:Value} (hi:At m b off cs) {p':Prop} (hK:p') (h0:gv full ρ o=some true:=by exact rfl) (ho:o.op=.load t x:=by exact rfl) (hd:o.dst=some d:=by exact rfl) (hN:Nat.blt d N=true:=by exact rfl) (hx:ev ρ x=some (.pointer (some ⟨b,off,none⟩)):=by exact rfl) (hv:T.load t cs 0=some v:=by exact rfl) (hz:p'→TO P N ⟨full⟩ rest ((d,v)::ρ) D m L Q:=by exact vA):TO P N ⟨full⟩ (o::rest) ρ D m L Q:=oL (h0:=h0) (ho:=ho) (hd:=hd) (hN:=hN) (hx:=hx) (hv:=hv) T hi (hz hK)
end
section
variable {P:Program} {N:Nat} {ρ:Env} {D:List Deferred} {m:Mem} {L:List Item} {Q:EPost} {full:List Oper} {o:Oper} {rest:List Oper}
theorem oR {F:Operand} {args:List Operand} {ats:Array TypeId} {f:FuncId} {first cap vs all:List Value} {d:Nat} {r:Value} {m1:Mem} {L1:List Item} (hg:Goes P f) (h:TCall P f ⟨all⟩ m L (Ret r m1 L1)) (hK:TO P N ⟨full⟩ rest ((d,r)::ρ) D m1 L1 Q)
 (h0:gv full ρ o=some true:=by exact rfl) (ho:o.op=.call ⟨.value F,⟨args⟩,ats⟩:=by exact rfl) (hd:o.dst=some d:=by exact rfl) (hN:Nat.blt d N=true:=by exact rfl)
 (hF:ev ρ F=some (.func (.func f) ⟨first⟩ ⟨cap⟩):=by exact rfl) (ha:evs ρ args=some vs:=by exact rfl) (hall:fl (first++(vs++cap))=some all:=by exact rfl):TO P N ⟨full⟩ (o::rest) ρ D m L Q :=
 oC hg (h.x (by rintro _ _ _ ⟨rfl,rfl,rfl⟩;exact hK)) h0 ho hd hN hF ha hall
theorem au {F:Operand} {args:List Operand} {ats:Array TypeId} {f:FuncId} {first:List Value} {cap:List Value} {vs:List Value} {all:List Value} {d:Nat} {r:Value} {m1:Mem} {L1:List Item} (hg:Goes P f) (h:TCall P f ⟨all⟩ m L (Ret r m1 L1)) {p':Prop} (hK:p') (h0:gv full ρ o=some true:=by exact rfl) (ho:o.op=.call ⟨.value F,⟨args⟩,ats⟩:=by exact rfl) (hd:o.dst=some d:=by exact rfl) (hN:Nat.blt d N=true:=by exact rfl) (hF:ev ρ F=some (.func (.func f) ⟨first⟩ ⟨cap⟩):=by exact rfl) (ha:evs ρ args=some vs:=by exact rfl) (hall:fl (first++(vs++cap))=some all:=by exact rfl) (hz:p'→TO P N ⟨full⟩ rest ((d,r)::ρ) D m1 L1 Q:=by exact vA):TO P N ⟨full⟩ (o::rest) ρ D m L Q:=oR (h0:=h0) (ho:=ho) (hd:=hd) (hN:=hN) (hF:=hF) (ha:=ha) (hall:=hall) hg h (hz hK)
end
end Go.Sep
