/-
  Part 7 of the proof: library, walks and plain laws.
-/
import Derived.Lib.UnsafeStr
import Derived.Test.YthemafgjfddgbaaGreatDoorProg
import Derived.KernelRfl
import Derived.Test.YthemafgjfddgbaaGreatDoorB6
set_option linter.unusedVariables false
set_option linter.unusedSimpArgs false
set_option maxHeartbeats 6400000
namespace Go.Sep
section
variable {P:Program} {N:Nat} {ρ:Env} {D:List Deferred} {m:Mem} {L:List Item} {Q:EPost} {full:List Oper} {o:Oper} {K:Env→Mem→List Item→Prop}
theorem run_appendT (T : Tab P) {t t2 e e2 ty : TypeId} {ei ei2 : TI} {w : World} {s s2 : Sl} {xs news : List Value} {i : Nat} (he : T.elem t=some (e,ei)) (he2 : T.elem t2=some (e2,ei2))
  (hw : St m w L) (hi : L[i]? = some (tok s ei.size)) (ho : Own s) (hx : Src w s ei.size xs) (hy : Src w s2 ei.size news) (hn : s2.a=none→s2.len=0) (h1 : allOne news=true) (hzs : ei.zero.cells.size=ei.size) (hcap : s.len ≤ s.cap)
  (hb : 0 < ei.bytes) (hfit : (s.len + s2.len) * ei.bytes ≤ 140737488355328) (hAt : ∀ b o,s.a=some ⟨b,o,none⟩ → At m b o xs) (hTy : ∀ b o,s.a=some ⟨b,o,none⟩ → o=0∧m.t b=some (e,s.cap * ei.size)∧m.pin.heap.size ≤ b) :
  ∃ s' m' w',(Builtin.append_ #[t,t2] ty #[s.v,s2.v]).run P w = .ok s'.v w' ∧ m ≤ m' ∧ St m' w' (L.set i (tok s' ei.size))∧Own s' ∧ s'.len=s.len + s2.len∧s'.len ≤ s'.cap ∧
   ((s'.a=none∧xs++news=[]∧s'.cap=0) ∨ ∃ b o,s'.a=some ⟨b,o,none⟩ ∧ At m' b o (xs++news))∧(∀ b o,s'.a=some ⟨b,o,none⟩ → o=0∧m'.t b=some (e,s'.cap * ei.size)∧m'.pin.heap.size ≤ b):=by
 obtain ⟨ti,h4,h5,h6⟩:=elem_get he
 obtain ⟨ti2,k4,k5,k6⟩:=elem_get he2
 obtain ⟨_,_,hu,_⟩:=T.ok t ti h4
 rw [h5] at hu
 obtain ⟨_,_,hu2,_⟩:=T.ok t2 ti2 k4
 rw [k5] at hu2
 obtain ⟨info,q1,q2,q3,q4,q5⟩:=T.ok e ei h6
 have hnew:=run_first (P:=P) hy
 have hbound : s.len + s2.len ≤ 140737488355328:=bJ (Nat.le_mul_of_pos_right _ hb) hfit
 by_cases hroom : s.len + s2.len ≤ s.cap
 ·
  rcases ho with hnil | ⟨b,o,ha⟩
  ·subst hnil
   simp only at hroom
   have hz : s2.len=0:=by omega
   have hxs : xs=[]:=List.eq_nil_of_length_eq_zero (by have:=hx.1;simpa using this)
   have hns : news=[]:=List.eq_nil_of_length_eq_zero (by have:=hy.1;rw [hz] at this;simpa using this)
   subst hxs;subst hns
   refine ⟨⟨none,0,0⟩,m,w, ?_,m.le_refl,by rw [set_same hi];exact hw, .inl rfl,by simp [hz],by simp, .inl ⟨rfl,rfl,rfl⟩,fun b o q=>by cases q⟩
   have hnew' : (Builtin.firstCells ei.size 0 s2.v).run P w = .ok (⟨[]⟩ : Array Value) w:=by rw [← hz];exact hnew
   simp only [Sl.v] at hnew'
   simp [Builtin.append_,run_underlying hu,run_underlying hu2,sizeOf,typeInfo,q1,q3,Builtin.lenOf,hz,hnew']
  ·obtain ⟨a,n,c⟩:=s
   simp only at ha hroom hcap hbound hfit hx hAt
   subst ha
   have hst:=(hw.at_ hi)
   simp only [tok] at hst
   obtain ⟨vs,hvl,hst⟩:=hst.ofRoom
   have hnl : news.length ≤ vs.length:=by
    rw [hvl,hy.1];exact Nat.mul_le_mul_right _ (by omega)
   obtain ⟨w',hr,hst'⟩:=run_storeCells (P:=P) news vs 0 0 w hst h1 (by omega)
   rw [putAt_zero hnl] at hst'
   have hst2:=hst'.split
   obtain ⟨g1,g2,g3⟩:=hst2.freeze
   have g4:=g3.toRoom
   refine ⟨⟨some ⟨b,o,none⟩,n + s2.len,c⟩,m.addCells b (o + n * ei.size) news,w', ?_,g1, ?_, .inr ⟨b,o,rfl⟩,rfl,hroom, .inr ⟨b,o,rfl, ?_⟩,fun b' o' q=>by cases q;exact hTy b o rfl⟩
   ·have hr' : (storeCells ((⟨b,o,none⟩ : Addr).add (n * ei.size)) news).run P w = .ok () w':=by rw [addr_add];exact hr
    simp only [Sl.v] at hnew
    simp [Builtin.append_,run_underlying hu,run_underlying hu2,sizeOf,typeInfo,q1,q3,Builtin.lenOf,hroom,hnew,hr']
   ·have e1 : Item.room b (o + n * ei.size + news.length) (List.drop news.length vs).length=tok ⟨some ⟨b,o,none⟩,n + s2.len,c⟩ ei.size:=by
     simp only [tok,bX,hvl,hy.1]
     congr 1
     ·rw [Nat.add_mul];omega
     ·rw [← Nat.sub_mul];congr 1;omega
    rw [← e1]
    exact St.back hi g4
   ·refine ((hAt b o rfl).mono g1).append ?_
    rw [hx.1]
    exact g2
 ·
  have hlt : s.cap < s.len + s2.len:=by omega
  have h48 : ¬ (Builtin.nextslicecap (s.len + s2.len) s.cap * ei.bytes > 281474976710656):=by
   have:=growslice_fits hlt hfit
   omega
  have hold:=run_first (P:=P) (hx.drew)
  have hnew':=run_first (P:=P) (hy.drew)
  obtain ⟨nc,hnc,hge⟩ : ∃ nc,nc=(Question.appendCap (s.len + s2.len) s.cap e).cut (w.tape w.drawn (.appendCap (s.len + s2.len) s.cap e))∧s.len + s2.len ≤ nc:=⟨_,rfl,by simp [Question.cut]⟩
  have hst:=hw.drew.allocCells ((⟨xs⟩ : Array Value)++(⟨news⟩ : Array Value)++Builtin.zeroCells ei.zero.cells (nc - (s.len + s2.len))) e
  have hl1 : ((⟨xs⟩ : Array Value)++(⟨news⟩ : Array Value)++Builtin.zeroCells ei.zero.cells (nc - (s.len + s2.len))).toList=(xs++news)++(Builtin.zeroCells ei.zero.cells (nc - (s.len + s2.len))).toList:=by simp
  rw [hl1] at hst
  obtain ⟨g1,g2,g3⟩:=hst.split.freeze
  have hheap : (w.drew.alloc (.cells ((⟨xs⟩ : Array Value)++(⟨news⟩ : Array Value)++Builtin.zeroCells ei.zero.cells (nc - (s.len + s2.len))) e)).heap[w.drew.heap.size]? = some (.cells ((⟨xs⟩ : Array Value)++(⟨news⟩ : Array Value)++Builtin.zeroCells ei.zero.cells (nc - (s.len + s2.len))) e (0,0)):=heap_alloc_at _ _
  obtain ⟨f1,f2,f3⟩:=g3.typed hheap
  have g2:=g2.mono f1
  have g1:=cC g1 f1
  have g4:=f3.toRoom
  have hxl : (xs++news).length=(s.len + s2.len) * ei.size:=by rw [ba,hx.1,hy.1,Nat.add_mul]
  refine ⟨⟨some ⟨w.heap.size,0,none⟩,s.len + s2.len,nc⟩,_,w.drew.alloc (.cells ((⟨xs⟩ : Array Value)++(⟨news⟩ : Array Value)++Builtin.zeroCells ei.zero.cells (nc - (s.len + s2.len))) e), ?_,g1, ?_, .inr ⟨_,_,rfl⟩,rfl,hge, .inr ⟨_,_,rfl,g2⟩,fun b' o' q => ?_⟩
  ·simp only [Sl.v] at hold hnew'
   have hb0 : ei.bytes ≠ 0:=by omega
   have hmax : ¬ (9223372036854775807 < (s.len : Int) + (s2.len : Int)):=by omega
   simp [Builtin.append_,run_underlying hu,run_underlying hu2,sizeOf,typeInfo,zeroValue,q1,q3,q4,q5,Builtin.lenOf,hroom,hold,hnew',h48,hmax,Question.forced,newRow,← hnc,IntKind.max,IntKind.signed,IntKind.bits,hb0]
   congr 2
   apply Array.ext'
   simp
  ·have e1 : Item.room w.heap.size (0 + (xs++news).length) (Builtin.zeroCells ei.zero.cells (nc - (s.len + s2.len))).toList.length=tok ⟨some ⟨w.heap.size,0,none⟩,s.len + s2.len,nc⟩ ei.size:=by
    simp only [tok,hxl,Array.length_toList,size_zeroCells,hzs]
   rw [← e1]
   have hsub : (Item.room w.heap.size (0 + (xs++news).length) (Builtin.zeroCells ei.zero.cells (nc - (s.len + s2.len))).toList.length :: L.eraseIdx i).Sublist (Item.room w.heap.size (0 + (xs++news).length) (Builtin.zeroCells ei.zero.cells (nc - (s.len + s2.len))).toList.length :: L) :=
    bY _ (List.eraseIdx_sublist L i)
   exact St.back hi (g4.sub hsub)
  ·simp only [bD,Addr.mk.injEq,and_true] at q
   obtain ⟨rfl,rfl⟩:=q
   refine ⟨rfl,f2.trans ?_,by rw [g1.pin];exact hw.size⟩
   congr 2
   rw [Array.size_append,Array.size_append,size_zeroCells,hzs]
   have h1 : (⟨xs⟩ : Array Value).size=xs.length:=rfl
   have h2 : (⟨news⟩ : Array Value).size=news.length:=rfl
   rw [h1,h2,hx.1,hy.1,← Nat.add_mul,← Nat.add_mul]
   congr 1
   show s.len + s2.len + (nc - (s.len + s2.len))=nc
   omega
theorem OT.appendT {H α:Type} (T:Tab P) (r:R H α) (i:Nat) {s s2:Sl} {l l2:List α} {x y:Operand} {t t2:TypeId} {d:Nat} (hs:SlRep r m s l) (hown:Own s) (hs2:SlRep r m s2 l2)
  (ho:o.op = .call ⟨.builtin .append,⟨[x,y]⟩,⟨[t,t2]⟩⟩) (hd:o.dst=some d) (hN:Nat.blt d N=true) (hx:ev ρ x=some s.v) (hy:ev ρ y=some s2.v) (hT:T.okElem t t2 r.size r.bytes=true)
  (hi:L[i]? = some (tok s r.size)) (hfit:(l.length+l2.length)*r.bytes≤140737488355328) {e0:TypeId} (he0:(T.elem t).map Prod.fst=some e0) (hTy:∀ b o,s.a=some ⟨b,o,none⟩→o=0∧m.t b=some (e0,s.cap*r.size)∧m.pin.heap.size≤b)
  (hK:∀ s' m',m≤m'→SlRep r m' s' (l++l2)→Own s'→(∀ b o,s'.a=some ⟨b,o,none⟩→o=0∧m'.t b=some (e0,s'.cap*r.size)∧m'.pin.heap.size≤b)→K ((d,s'.v)::ρ) m' (L.set i (tok s' r.size))):OT P N o ρ D m L Q K:=by
 obtain⟨e,e2,ei,ei2,q1,q2,q3,q4,q5,q6⟩:=okElem_get hT;intro a w ha;obtain⟨hl,h1,h2,h3,h4⟩:=hs.src ha.st;obtain⟨hl2,k1,k2,k3,k4⟩:=hs2.src ha.st;have hb:0<ei.bytes:=ou;have hee:e0=e:=by rw[q1]at he0;simpa using he0.symm
 subst hee;obtain⟨s',m',w',hr,g1,g2,g3,g4,g5,g6,g7⟩:=run_appendT (P:=P) (ty:=o.type) T q1 q2 ha.st qc hown qd qe (fun hz=>(k3 hz).1) (encs_one r hl2) q6 hs.cap hb
  (by rw[hs.len,hs2.len,q4];exact hfit) h4 (by rw[q3];exact hTy)
 have he:(execOp a.eval o).run P w = .ok (.value s'.v) w':=by
  exact ef
 have hrep:SlRep r m' s' (l++l2):=by
  exact eW
 simp only[Oper.wp,he,Oper.upon];rw[hd];have hp:=ha.put hN s'.v;rw[q3]at g2;exact⟨_,_,_,⟨hp.size,hp.env,hp.defers,g2⟩,hK s' m' g1 hrep g3 (by rw[q3]at g7;exact g7)⟩
theorem OT.allocT (T:Tab P) {t:TypeId} {d:Nat} {cs:List Value} (ho:o.op = .alloc t) (hd:o.dst=some d) (hN:Nat.blt d N=true)
  (hv:T.zeroCells t=some cs) (hK:∀ b m',m≤m'→m'.t b=some (t,cs.length)→K ((d,.pointer (some ⟨b,0,none⟩))::ρ) m' (.cells b 0 cs::L)):OT P N o ρ D m L Q K:=by
 intro a w ha;unfold Tab.zeroCells at hv;split at hv
 ·rename_i i hi;have hr:(execOp a.eval o).run P w = .ok (.value (.pointer (some ⟨w.heap.size,0,none⟩))) (w.alloc (.cells ⟨cs⟩ t)):=by
   exact gK
  exact fR
 ·cases hv
theorem St.shape {w:World} {b:Nat} {x:TypeId×Nat} (h:St m w L) (hb:m.t b=some x):w.shape? b=some x:=by
 obtain⟨arr,fr,h1,h2⟩:=h.t b x hb;simp only[World.shape?,h1];rw[h2]
def Tab.isPtr {P:Program} (T:Tab P) (t e:TypeId):Bool :=
 match T.get t with
 | some ⟨.pointer u,_,_,_⟩=>Nat.beq u e
 | _=>false
theorem isPtr_get {T:Tab P} {t e:TypeId} (h:T.isPtr t e=true):∃ i,T.get t=some i∧i.u = .pointer e:=by
 unfold Tab.isPtr at h;split at h
 ·have:=Nat.eq_of_beq_eq_true h;subst this;exact jT
 ·cases h
def Tab.isUnsafe {P:Program} (T:Tab P) (t:TypeId):Bool :=
 match T.get t with
 | some ⟨.unsafePointer,_,_,_⟩=>true
 | _=>false
theorem isUnsafe_get {T:Tab P} {t:TypeId} (h:T.isUnsafe t=true):∃ i,T.get t=some i∧i.u = .unsafePointer:=by
 unfold Tab.isUnsafe at h;split at h
 ·exact jT
 ·cases h
def Tab.size1 {P:Program} (T:Tab P) (t:TypeId):Bool :=
 match T.get t with
 | some ⟨_,n+1,_,_⟩=>true
 | _=>false
theorem size1_get {T:Tab P} {t:TypeId} (h:T.size1 t=true):∃ i,T.get t=some i∧i.size≠0:=by
 unfold Tab.size1 at h;split at h
 ·exact⟨_,by assumption,by simp⟩
 ·cases h
theorem equalIn_ptrNil {t e:TypeId} {w:World} (dd:Nat) (a:Addr) (hu:(underlying t).run P w = .ok (.pointer e) w) :
  (Op.equalIn (dd+1) t (.pointer (some a)) (.pointer none)).run P w = .ok false w:=by
 exact fD
theorem equalIn_nilPtr {t e:TypeId} {w:World} (dd:Nat) (hu:(underlying t).run P w = .ok (.pointer e) w) :
  (Op.equalIn (dd+1) t (.pointer none) (.pointer none)).run P w = .ok true w:=by
 simp only[Op.equalIn,Sem.run_bind,hu,Result.andThen_ok,Sem.run_pure];rfl
theorem OT.ptrNil (T:Tab P) {t t' e:TypeId} {x y:Operand} {q:Option Addr} {d:Nat} (ho:o.op = .binOp .eql t x y t') (hd:o.dst=some d) (hN:Nat.blt d N=true)
  (hx:ev ρ x=some (.pointer q)) (hy:ev ρ y=some (.pointer none)) (ht:T.isPtr t e=true) (hK:K ((d,.bool q.isNone)::ρ) m L):OT P N o ρ D m L Q K:=by
 obtain⟨ti,h1,h2⟩:=isPtr_get ht;refine cM hd hN (fun ac w ha=>⟨w,?_,ha.st⟩) hK;have hu:=T.run_underlying w h1;rw[h2]at hu;have e1:binOp .eql t (.pointer q) (.pointer none)=(do pure (.bool (←Op.equalIn (9999+1) t (.pointer q) (.pointer none))):Sem Value):=rfl;have e2:(eqGuard .eql t x y (.pointer q) (.pointer none)).run P w = .ok () w:=oX;cases q with
 | none =>
  have h:=equalIn_nilPtr (P:=P) 9999 hu;exact eQ
 | some q =>
  have h:=equalIn_ptrNil (P:=P) 9999 q hu;exact eQ
end
end Go.Sep
namespace Go.Sep
theorem freeze_cell (w:World) (a:Addr) (n:Nat) (x:Addr):(w.freeze a n).cell? x=w.cell? x:=by
 unfold World.freeze;split
 ·rfl
 ·simp only[World.cell?,Array.getElem?_modify];by_cases e:a.block=x.block
  ·rw[if_pos e];cases h:w.heap[x.block]? with
   | none=>rfl
   | some ob=>cases ob<;>rfl
  ·rw[if_neg e]
theorem freeze_heap (w:World) (a:Addr) (n:Nat) {b:Nat} (h:a.block≠b):(w.freeze a n).heap[b]? = w.heap[b]?:=by
 unfold World.freeze;split
 ·rfl
 ·simp only[Array.getElem?_modify];rw[if_neg h]
theorem St.frz {m:Mem} {w:World} {L:List Item} (h:St m w L) (g n:Nat) (hp:m.pin.heap.size≤g) (hL:∀ x∈L,0<x.len→x.blk≠g):St m (w.freeze ⟨g,0,none⟩ n) L:=by
 have hsz:(w.freeze ⟨g,0,none⟩ n).heap.size=w.heap.size:=by
  unfold World.freeze;split
  ·rfl
  ·simp
 have hos:(w.freeze ⟨g,0,none⟩ n).os=w.os∧(w.freeze ⟨g,0,none⟩ n).tape=w.tape∧(w.freeze ⟨g,0,none⟩ n).output=w.output:=by
  unfold World.freeze;split<;>exact⟨rfl,rfl,rfl⟩
 have hfz:∀ a:Addr,a.block≠g→(w.freeze ⟨g,0,none⟩ n).frozen? a=w.frozen? a:=fun a ha=>World.frozen?_of_block (freeze_heap w _ n (fun e=>ha e.symm));refine { os:=hos.1.trans h.os,tape:=hos.2.1.trans h.tape,output:=hos.2.2.trans h.output,size:=by rw[hsz];exact h.size,pin:=fun b hb=>(freeze_heap w _ n (show g≠b by omega)).trans (h.pin b hb),c:=fun b i v hv=>(freeze_cell ..).trans (h.c b i v hv),o:=fun b x hx=>?_,t:=fun b x hx=>?_,items:=fun x hx=>?_,free:=h.free,disj:=h.disj }
 ·have h1:=h.o b x hx;by_cases e:g=b
  ·subst e;unfold World.freeze;split
   ·exact h1
   ·refine⟨?_,h1.2⟩;simp only[Array.getElem?_modify,if_true,h1.1,cv];cases x<;>simp_all [isCells]
  ·exact⟨(freeze_heap w _ n e).trans h1.1,h1.2⟩
 ·obtain⟨arr,fr,g1,g2⟩:=h.t b x hx;by_cases e:g=b
  ·subst e;unfold World.freeze;split
   ·exact⟨arr,fr,g1,g2⟩
   ·simp only[Array.getElem?_modify,if_true,g1,cv];exact⟨arr,_,rfl,g2⟩
  ·exact⟨arr,fr,(freeze_heap w _ n e).trans g1,g2⟩
 ·have hi:=h.items x hx;have hl:=hL x hx;cases x with
  | cells b off vs =>
   intro j v hv;obtain⟨g1,g2⟩:=hi j v hv;have hj:=(List.getElem?_eq_some_iff.1 hv).1;have hne:b≠g:=hl pE;exact⟨(freeze_cell ..).trans g1,fun i=>(hfz ⟨b,i,none⟩ hne).trans (g2 i)⟩
  | room b off k =>
   intro j hj;obtain⟨v,g1,g2⟩:=hi j hj;have hne:b≠g:=hl pE;exact⟨v,(freeze_cell ..).trans g1,fun i=>(hfz ⟨b,i,none⟩ hne).trans (g2 i)⟩
  | obj b ob =>
   have hne:b≠g:=hl (by simp[Item.len]);exact⟨(freeze_heap w _ n (fun e=>hne e.symm)).trans hi.1,hi.2⟩
theorem cell_arr {w:World} {g i:Nat} {arr:Array Value} {e:TypeId} {fr:Nat×Nat} {v:Value} (hg:w.heap[g]? = some (.cells arr e fr)) (h:w.cell? ⟨g,i,none⟩=some v):i<arr.size:=by
 simp only[World.cell?,hg]at h;exact(Array.getElem?_eq_some_iff.1 oW).1
def isObj : Item→Bool
 | .obj ..=>true
 | _=>false
theorem St.alone {m:Mem} {w:World} {L:List Item} {g n c:Nat} {e:TypeId} {vs:List Value} (h:St m w (tok ⟨some ⟨g,0,none⟩,n,c⟩ 1::L)) (hn:n≤c) (hA:At m g 0 vs) (hv:vs.length=n) (ht:m.t g=some (e,c)):∀ x∈L,0<x.len→x.blk≠g:=by
 intro x hx hl hb;obtain⟨arr,fr,g1,g2⟩:=h.t g _ ht;have hd:=(List.pairwise_cons.1 h.disj).1 x hx;have hf:=h.free x (List.mem_cons_of_mem _ hx);have hi:=h.items x (List.mem_cons_of_mem _ hx);have hoff:x.off<c∨isObj x=true:=by
  cases x with
  | cells b off us =>
   left;simp only[Item.blk]at hb;subst hb;obtain⟨q1,_⟩:=hi 0 us[0] (by simp only[Item.len]at hl;simp[hl]);exact jF
  | room b off k =>
   left;simp only[Item.blk]at hb;subst hb;obtain⟨v,q1,_⟩:=hi 0 hl;exact jF
  | obj b ob=>right;rfl
 rcases hoff with hoff | hoff
 ·by_cases hlt:x.off<n
  ·have h1:=hf.c 0 hl;rw[hb,Nat.add_zero]at h1;have h2:=hA x.off vs[x.off] (by simp[hv,hlt]);rw[co,h1]at h2;cases h2
  ·simp only[tok,Item.Disj,Item.len,Item.blk,Item.off,Nat.mul_one,co]at hd;rcases hd with q | q | q | q | q
   ·omega
   ·simp only[Item.len]at hl;cases x<;>simp_all []<;>omega
   ·exact q hb.symm
   ·cases x<;>simp_all [Item.off]<;>omega
   ·cases x<;>simp_all [Item.off,Item.len]<;>omega
 ·cases x with
  | obj b ob =>
   simp only[Item.blk]at hb;subst hb;have h1:=hi.1;have h2:=hi.2;exact j6
  | cells=>cases hoff
  | room=>cases hoff
section
variable {P:Program} {N:Nat} {ρ:Env} {D:List Deferred} {m:Mem} {L:List Item} {Q:EPost} {full:List Oper} {o:Oper} {K:Env→Mem→List Item→Prop}
theorem At.bytes {m:Mem} {b:Nat} {bs:List UInt8} (h:At m b 0 (bs.map byteV)) {w:World} (hst:St m w L):∀ j x,bs[j]? = some x→w.cell? ((⟨b,0,none⟩:Addr).add j)=some (.int .u8 x.toNat):=fun j x hx=>by
 rw[addr_add];have:=hst.c _ _ _ (h j (byteV x) pb);simpa using this
theorem OT.sliceData {ts:Array TypeId} {x:Operand} {a:Option Addr} {n c d:Nat} (ho:o.op = .call ⟨.builtin .unsafeSliceData,⟨[x]⟩,ts⟩) (hd:o.dst=some d) (hN:Nat.blt d N=true) (hx:ev ρ x=some (.slice a n c)) (hc:a=none∨c≠0) (hK:K ((d,.pointer a)::ρ) m L):OT P N o ρ D m L Q K:=by
 refine cM hd hN (fun ac w ha=>⟨w,?_,ha.st⟩) hK;have hr:(Builtin.unsafeSliceData_ ts o.type #[.slice a n c]).run P w = .ok (.pointer a) w:=by
  cases a with
  | none=>exact Lib.run_unsafeSliceData_nil w ts o.type n c
  | some a =>
   rcases hc with h | h
   ·cases h
   ·exact Lib.run_unsafeSliceData_row w ts o.type a n c h
 simp only[execOp,ho,resolve,invoke,builtin,Sem.run_bind,Sem.run_pure,Result.andThen_ok,List.map_toArray,bK,bL,ha.env.eval hx,hr]
theorem OT.unsafeStr0 {pt it:TypeId} {x y:Operand} {p:Option Addr} {d:Nat} (ho:o.op = .call ⟨.builtin .unsafeString,⟨[x,y]⟩,⟨[pt,it]⟩⟩) (hd:o.dst=some d) (hN:Nat.blt d N=true) (hx:ev ρ x=some (.pointer p)) (hy:ev ρ y=some (.int .i64 0))
  (hK:K ((d,strV [])::ρ) m L):OT P N o ρ D m L Q K:=by
 refine cM hd hN (fun ac w ha=>⟨w,?_,ha.st⟩) hK;have hr:=Lib.run_unsafeString_none (P:=P) w pt it o.type p;simp only[execOp,ho,resolve,invoke,builtin,Sem.run_bind,Sem.run_pure,Result.andThen_ok,List.map_toArray,bK,bL,ha.env.eval hx,ha.env.eval hy];simp only[hr,Result.andThen_ok];rfl
theorem OT.unsafeStr (T:Tab P) {pt it e:TypeId} {x y:Operand} {g n c:Nat} {bs:List UInt8} {d:Nat} (ho:o.op = .call ⟨.builtin .unsafeString,⟨[x,y]⟩,⟨[pt,it]⟩⟩) (hd:o.dst=some d) (hN:Nat.blt d N=true) (hx:ev ρ x=some (.pointer (some ⟨g,0,none⟩))) (hy:ev ρ y=some (.int .i64 (n:Int)))
  (hpt:T.isPtr pt e=true) (hce:P.cellsOf e=1) (hA:At m g 0 (bs.map byteV)) (hbs:bs.length=n) (hpos:0<n) (hc:n≤c) (hmax:n≤9223372036854775807) (ht:m.t g=some (e,c)) (hp:m.pin.heap.size≤g)
  (hK:K ((d,strV bs)::ρ) m L):OT P N o ρ D m (tok ⟨some ⟨g,0,none⟩,n,c⟩ 1::L) Q K:=by
 obtain⟨pi,p1,p2⟩:=isPtr_get hpt;obtain⟨_,_,hup,_⟩:=T.ok pt pi p1;rw[p2]at hup;refine cM hd hN (fun ac w ha=>?_) hK;have hst:=ha.st;have halone:=hst.alone hc hA (by rw[bP];exact hbs) ht;have hcell:=At.bytes hA hst;have hne:bs≠[]:=fun e=>by subst e;simp at hbs;omega
 have hr:=Lib.run_unsafeString_row (P:=P) w pt it o.type e hup hce g c (hst.shape ht) bs hne ou ou hcell;refine⟨_,?_,(hst.sub (List.sublist_cons_self _ _)).frz g bs.length hp halone⟩;subst hbs;exact ef
theorem OT.bytesStr (T:Tab P) {t u:TypeId} {x:Operand} {s:Sl} {bs:List UInt8} {d:Nat} {e:TypeId} {ei:TI} (ho:o.op = .convert t u x) (hd:o.dst=some d) (hN:Nat.blt d N=true) (hx:ev ρ x=some s.v) (he:T.elem t=some (e,ei)) (hb:ei.u = .int .u8) (hu:T.isStr u=true) (hs:SlRep rByte m s bs) (hpos:0<bs.length)
  (hK:K ((d,strV bs)::ρ) m L):OT P N o ρ D m L Q K:=by
 obtain⟨ti,h4,h5,h6⟩:=elem_get he;obtain⟨ui,u1,u2⟩:=isStr_get hu;obtain⟨_,_,hut,_⟩:=T.ok t ti h4;rw[h5]at hut;obtain⟨_,_,huu,_⟩:=T.ok u ui u1;rw[u2]at huu;obtain⟨_,_,hue,_⟩:=T.ok e ei h6;rw[hb]at hue;refine cM hd hN (fun ac w ha=>⟨w,?_,ha.st⟩) hK;obtain⟨hs',k1,k2⟩:=hs.cells;have hh:=byte_all2 k1;subst hh;rcases k2 with ⟨k2,_⟩ | ⟨b,off,k3,k4⟩
 ·subst k2;simp at hpos
 ·obtain⟨a,n,c⟩:=s;simp only at k3;subst k3;have hlen:n=hs'.length:=hs.len;subst hlen;have hr:=run_convert_bytes_back (P:=P) w t u e ⟨b,off,none⟩ c hs' hut hue huu (fun j hj=>by
   rw[addr_add];rw[encs_byte]at k4;exact ha.st.c _ _ _ (k4 j (byteV hs'[j]) (by simp[hj])))
  simp only[execOp,ho,ha.env.eval hx,Sl.v,Sem.run_bind,hr,Result.andThen_ok,Sem.run_pure]
theorem OT.strBytes (T:Tab P) {t u:TypeId} {x:Operand} {bs:List UInt8} {d:Nat} {e:TypeId} {ei:TI} (ho:o.op = .convert t u x) (hd:o.dst=some d) (hN:Nat.blt d N=true) (hx:ev ρ x=some (strV bs)) (he:T.elem u=some (e,ei)) (hb:ei.u = .int .u8) (ht:T.isStr t=true) (hfit:bs.length≤140737488355328)
  (hK:∀ s m',m≤m'→SlRep rByte m' s bs→s.len=bs.length→K ((d,s.v)::ρ) m' L):OT P N o ρ D m L Q K:=by
 obtain⟨ui,h4,h5,h6⟩:=elem_get he;obtain⟨ti,t1,t2⟩:=isStr_get ht;obtain⟨_,_,huu,_⟩:=T.ok u ui h4;rw[h5]at huu;obtain⟨_,_,hut,_⟩:=T.ok t ti t1;rw[t2]at hut;obtain⟨_,_,hue,_⟩:=T.ok e ei h6;rw[hb]at hue;intro a w ha;have hr:=Lib.run_convert_string_bytes (P:=P) w t u e ⟨⟨bs⟩⟩ hut huu hue;have hgrow:=ha.st.grow (w':=Lib.bytesWorld w e ⟨⟨bs⟩⟩) qh qh qh (by rw[Lib.bytesWorld_size];omega) (fun b hb=>Lib.bytesWorld_at_old w e _ b hb);obtain⟨g1,g2,g3⟩:=hgrow.learn (b:=w.heap.size) (vs:=bs.map byteV) (fun j v hv=>by
  have hj:j<bs.length:=by have:=(List.getElem?_eq_some_iff.1 hv).1;simpa using this
  have:=Lib.bytesWorld_cell w e ⟨⟨bs⟩⟩ j hj;rw[this];simp[hj]at hv;subst hv;simp[List.getD,hj]) (fun j=>ha.st.new_c j) ha.st.new_L
 have hge:bs.length≤grownCap w (⟨⟨bs⟩⟩:ByteArray).size 0 e:=by
  show bs.length≤(Question.appendCap _ 0 e).cut _;have:(⟨⟨bs⟩⟩:ByteArray).size=bs.length:=rfl;simp[Question.cut];omega
 have he':(execOp a.eval o).run P w = .ok (.value (.slice (some ⟨w.heap.size,0,none⟩) bs.length (grownCap w (⟨⟨bs⟩⟩:ByteArray).size 0 e))) (Lib.bytesWorld w e ⟨⟨bs⟩⟩):=by
  simp only[execOp,ho,ha.env.eval hx,Sem.run_bind,hr,Result.andThen_ok,Sem.run_pure];rfl
 simp only[Oper.wp,he',Oper.upon,hd];have hp:=ha.put hN (.slice (some ⟨w.heap.size,0,none⟩) bs.length (grownCap w (⟨⟨bs⟩⟩:ByteArray).size 0 e));exact⟨_,_,_,⟨hp.size,hp.env,hp.defers,g3⟩,hK ⟨some ⟨w.heap.size,0,none⟩,bs.length,_⟩ _ g1 ⟨rfl,hge,by show bs.length*1≤_;omega,bs,byte_refl bs,.inr ⟨w.heap.size,0,rfl,by rw[encs_byte];exact g2⟩⟩ rfl⟩
end
end Go.Sep
namespace Go.Sep
theorem allOne_bytes : ∀ bs:List UInt8,allOne (bs.map byteV)=true
 | []=>rfl
 | x::xs=>by
  have:=allOne_bytes xs;have h1:(byteV x).oneCell'=true:=rfl;simpa[allOne,h1]using this
section
variable {P:Program} {N:Nat} {ρ:Env} {D:List Deferred} {m:Mem} {L:List Item} {Q:EPost} {full:List Oper} {o:Oper} {K:Env→Mem→List Item→Prop}
theorem run_appendS (T : Tab P) {t t2 e ty : TypeId} {ei : TI} {w : World} {s : Sl} {bs : List UInt8} {xs : List Value} {i : Nat} (he : T.elem t=some (e,ei)) (he2 : T.isStr t2=true)
  (hw : St m w L) (hi : L[i]? = some (tok s ei.size)) (ho : Own s) (hx : Src w s ei.size xs) (hsz1 : ei.size=1) (hzs : ei.zero.cells.size=ei.size) (hcap : s.len ≤ s.cap)
  (hb : 0 < ei.bytes) (hfit : (s.len + bs.length) * ei.bytes ≤ 140737488355328) (hAt : ∀ b o,s.a=some ⟨b,o,none⟩ → At m b o xs) :
  ∃ s' m' w',(Builtin.append_ #[t,t2] ty #[s.v,strV bs]).run P w = .ok s'.v w' ∧ m ≤ m' ∧ St m' w' (L.set i (tok s' ei.size))∧Own s' ∧ s'.len=s.len + bs.length∧s'.len ≤ s'.cap ∧
   ((s'.a=none∧xs++bs.map byteV=[]∧s'.cap=0) ∨ ∃ b o,s'.a=some ⟨b,o,none⟩ ∧ At m' b o (xs++bs.map byteV)):=by
 obtain ⟨ti,h4,h5,h6⟩:=elem_get he
 obtain ⟨ti2,k4,k5⟩:=isStr_get he2
 obtain ⟨_,_,hu,_⟩:=T.ok t ti h4
 rw [h5] at hu
 obtain ⟨_,_,hu2,_⟩:=T.ok t2 ti2 k4
 rw [k5] at hu2
 obtain ⟨info,q1,q2,q3,q4,q5⟩:=T.ok e ei h6
 have hnewA : ∀ w : World,(Builtin.firstCells ei.size bs.length (strV bs)).run P w = .ok (⟨bs.map byteV⟩ : Array Value) w:=fun w=>by
  have hx : (⟨⟨bs⟩⟩ : ByteArray).extract 0 bs.length = ⟨⟨bs⟩⟩:=by
   apply ByteArray.ext
   apply Array.ext'
   simp
  simp only [Builtin.firstCells,Sem.run_pure]
  rw [hx]
  congr 1
  apply Array.ext'
  simp
 have hnew:=hnewA w
 have hsize : (⟨⟨bs⟩⟩ : ByteArray).size=bs.length:=rfl
 have hylen : (bs.map byteV).length=bs.length * ei.size:=by rw [hsz1];simp
 have h1 : allOne (bs.map byteV)=true:=by
  induction bs with
  | nil=>rfl
  | cons x xs ih=>exact allOne_bytes (x :: xs)
 have hbound : s.len + bs.length ≤ 140737488355328:=bJ (Nat.le_mul_of_pos_right _ hb) hfit
 by_cases hroom : s.len + bs.length ≤ s.cap
 ·
  rcases ho with hnil | ⟨b,o,ha⟩
  ·subst hnil
   simp only at hroom
   have hz : bs.length=0:=by omega
   have hxs : xs=[]:=List.eq_nil_of_length_eq_zero (by have:=hx.1;simpa using this)
   have hns : bs=[]:=List.eq_nil_of_length_eq_zero hz
   subst hxs;subst hns
   refine ⟨⟨none,0,0⟩,m,w, ?_,m.le_refl,by rw [set_same hi];exact hw, .inl rfl,by simp [hz],by simp, .inl ⟨rfl,rfl,rfl⟩⟩
   have hnew':=hnew
   simp only [bg,bL] at hnew'
   simp [Builtin.append_,run_underlying hu,run_underlying hu2,sizeOf,typeInfo,q1,q3,Builtin.lenOf,hsize,hz,hnew']
  ·obtain ⟨a,n,c⟩:=s
   simp only at ha hroom hcap hbound hfit hx hAt
   subst ha
   have hst:=(hw.at_ hi)
   simp only [tok] at hst
   obtain ⟨vs,hvl,hst⟩:=hst.ofRoom
   have hnl : (bs.map byteV).length ≤ vs.length:=by
    rw [hvl,hylen];exact Nat.mul_le_mul_right _ (by omega)
   obtain ⟨w',hr,hst'⟩:=run_storeCells (P:=P) (bs.map byteV) vs 0 0 w hst h1 (by omega)
   rw [putAt_zero hnl] at hst'
   have hst2:=hst'.split
   obtain ⟨g1,g2,g3⟩:=hst2.freeze
   have g4:=g3.toRoom
   refine ⟨⟨some ⟨b,o,none⟩,n + bs.length,c⟩,m.addCells b (o + n * ei.size) (bs.map byteV),w', ?_,g1, ?_, .inr ⟨b,o,rfl⟩,rfl,hroom, .inr ⟨b,o,rfl, ?_⟩⟩
   ·have hr' : (storeCells ((⟨b,o,none⟩ : Addr).add (n * ei.size)) (bs.map byteV)).run P w = .ok () w':=by rw [addr_add];exact hr
    simp [Builtin.append_,run_underlying hu,run_underlying hu2,sizeOf,typeInfo,q1,q3,Builtin.lenOf,hsize,hroom,hnew,hr']
   ·have e1 : Item.room b (o + n * ei.size + (bs.map byteV).length) (List.drop (bs.map byteV).length vs).length=tok ⟨some ⟨b,o,none⟩,n + bs.length,c⟩ ei.size:=by
     simp only [tok,bX,hvl,hylen]
     congr 1
     ·rw [Nat.add_mul];omega
     ·rw [← Nat.sub_mul];congr 1;omega
    rw [← e1]
    exact St.back hi g4
   ·refine ((hAt b o rfl).mono g1).append ?_
    rw [hx.1]
    exact g2
 ·
  have hlt : s.cap < s.len + bs.length:=by omega
  have h48 : ¬ (Builtin.nextslicecap (s.len + bs.length) s.cap * ei.bytes > 281474976710656):=by
   have:=growslice_fits hlt hfit
   omega
  have hold:=run_first (P:=P) (hx.drew)
  have hnew':=hnewA w.drew
  obtain ⟨nc,hnc,hge⟩ : ∃ nc,nc=(Question.appendCap (s.len + bs.length) s.cap e).cut (w.tape w.drawn (.appendCap (s.len + bs.length) s.cap e))∧s.len + bs.length ≤ nc:=⟨_,rfl,by simp [Question.cut]⟩
  have hst:=hw.drew.allocCells ((⟨xs⟩ : Array Value)++(⟨bs.map byteV⟩ : Array Value)++Builtin.zeroCells ei.zero.cells (nc - (s.len + bs.length))) e
  have hl1 : ((⟨xs⟩ : Array Value)++(⟨bs.map byteV⟩ : Array Value)++Builtin.zeroCells ei.zero.cells (nc - (s.len + bs.length))).toList=(xs++bs.map byteV)++(Builtin.zeroCells ei.zero.cells (nc - (s.len + bs.length))).toList:=by simp
  rw [hl1] at hst
  obtain ⟨g1,g2,g3⟩:=hst.split.freeze
  have g4:=g3.toRoom
  have hxl : (xs++bs.map byteV).length=(s.len + bs.length) * ei.size:=by rw [ba,hx.1,hylen,Nat.add_mul]
  refine ⟨⟨some ⟨w.heap.size,0,none⟩,s.len + bs.length,nc⟩,_,w.drew.alloc (.cells ((⟨xs⟩ : Array Value)++(⟨bs.map byteV⟩ : Array Value)++Builtin.zeroCells ei.zero.cells (nc - (s.len + bs.length))) e), ?_,g1, ?_, .inr ⟨_,_,rfl⟩,rfl,hge, .inr ⟨_,_,rfl,g2⟩⟩
  ·simp only [Sl.v] at hold
   have hb0 : ei.bytes ≠ 0:=by omega
   have hmax : ¬ (9223372036854775807 < (s.len : Int) + (bs.length : Int)):=by omega
   simp [Builtin.append_,run_underlying hu,run_underlying hu2,sizeOf,typeInfo,zeroValue,q1,q3,q4,q5,Builtin.lenOf,hsize,hroom,hold,hnew',h48,hmax,Question.forced,newRow,← hnc,IntKind.max,IntKind.signed,IntKind.bits,hb0]
   congr 2
   apply Array.ext'
   simp
  ·have e1 : Item.room w.heap.size (0 + (xs++bs.map byteV).length) (Builtin.zeroCells ei.zero.cells (nc - (s.len + bs.length))).toList.length=tok ⟨some ⟨w.heap.size,0,none⟩,s.len + bs.length,nc⟩ ei.size:=by
    simp only [tok,hxl,Array.length_toList,size_zeroCells,hzs]
   rw [← e1]
   have hsub : (Item.room w.heap.size (0 + (xs++bs.map byteV).length) (Builtin.zeroCells ei.zero.cells (nc - (s.len + bs.length))).toList.length :: L.eraseIdx i).Sublist (Item.room w.heap.size (0 + (xs++bs.map byteV).length) (Builtin.zeroCells ei.zero.cells (nc - (s.len + bs.length))).toList.length :: L) :=
    bY _ (List.eraseIdx_sublist L i)
   exact St.back hi (g4.sub hsub)
theorem OT.appendS (T:Tab P) (i:Nat) {s:Sl} {l bs:List UInt8} {x y:Operand} {t t2 e:TypeId} {ei:TI} {d:Nat} (hs:SlRep rByte m s l) (hown:Own s)
  (ho:o.op = .call ⟨.builtin .append,⟨[x,y]⟩,⟨[t,t2]⟩⟩) (hd:o.dst=some d) (hN:Nat.blt d N=true) (hx:ev ρ x=some s.v) (hy:ev ρ y=some (strV bs)) (he:T.elem t=some (e,ei)) (h1:Nat.beq ei.size 1=true) (hb:Nat.beq ei.bytes 1=true) (hz:(cellsF ei.zero).map List.length=some 1) (ht2:T.isStr t2=true)
  (hi:L[i]? = some (tok s 1)) (hfit:l.length+bs.length≤140737488355328)
  (hK:∀ s' m',m≤m'→SlRep rByte m' s' (l++bs)→Own s'→K ((d,s'.v)::ρ) m' (L.set i (tok s' 1))):OT P N o ρ D m L Q K:=by
 have e1:ei.size=1:=Nat.eq_of_beq_eq_true h1;have e2:ei.bytes=1:=Nat.eq_of_beq_eq_true hb;have e3:ei.zero.cells.size=ei.size:=by
  exact g8
 intro a w ha;obtain⟨hl,g1,g2,g3,g4⟩:=hs.src ha.st;have hh:=byte_all2 g1;subst hh;rw[encs_byte]at g2 g4;obtain⟨s',m',w',hr,k1,k2,k3,k4,k5,k6⟩:=run_appendS (P:=P) (ty:=o.type) (bs:=bs) T he ht2 ha.st (by rw[e1];exact hi) hown (by rw[e1];exact g2) e1 e3 hs.cap ou (by rw[e2,hs.len];omega) g4;have hex:(execOp a.eval o).run P w = .ok (.value s'.v) w':=by
  exact ef
 have hrep:SlRep rByte m' s' (hl++bs):=by
  exact fp
 simp only[Oper.wp,hex,Oper.upon,hd];have hp:=ha.put hN s'.v;rw[e1]at k2;exact⟨_,_,_,⟨hp.size,hp.env,hp.defers,k2⟩,hK s' m' k1 hrep k3⟩
theorem equalIn_ifNil {t:TypeId} {ms:Array (String×TypeId)} {w:World} (dd:Nat) (u:TypeId) (v:Value) (hu:(underlying t).run P w = .ok (.interface ms) w) :
  (Op.equalIn (dd+1) t (.iface u v) .nilIface).run P w = .ok false w:=by
 exact fD
theorem equalIn_nilNil {t:TypeId} {ms:Array (String×TypeId)} {w:World} (dd:Nat) (hu:(underlying t).run P w = .ok (.interface ms) w) :
  (Op.equalIn (dd+1) t .nilIface .nilIface).run P w = .ok true w:=by
 exact fD
def isErr : Value→Bool
 | .iface _ _=>true
 | _=>false
theorem OT.errNe (T:Tab P) {t t':TypeId} {x y:Operand} {v:Value} {d:Nat} (ho:o.op = .binOp .neq t x y t') (hd:o.dst=some d) (hN:Nat.blt d N=true)
  (hx:ev ρ x=some v) (hv:v = .nilIface∨∃ u a,v = .iface u a) (hy:y = .const .nilIface) (ht:T.isIface t=true) (hK:K ((d,.bool (isErr v))::ρ) m L):OT P N o ρ D m L Q K:=by
 obtain⟨ti,ms,h1,h2⟩:=isIface_get ht;subst hy;have hy:ev ρ (.const .nilIface)=some .nilIface:=rfl;refine cM hd hN (fun ac w ha=>⟨w,?_,ha.st⟩) hK;have hu:=T.run_underlying w h1;rw[h2]at hu;have e1:binOp .neq t v .nilIface=(do pure (.bool (!(←Op.equalIn (9999+1) t v .nilIface))):Sem Value):=by
  rcases hv with rfl | ⟨u,a,rfl⟩<;>rfl
 rcases hv with rfl | ⟨u,a,rfl⟩
 ·have h:=equalIn_nilNil (P:=P) 9999 hu;have e2:(eqGuard .neq t x (.const .nilIface) .nilIface .nilIface).run P w = .ok () w:=oX;exact eQ
 ·have h:=equalIn_ifNil (P:=P) 9999 u a hu;have e2:(eqGuard .neq t x (.const .nilIface) (.iface u a) .nilIface).run P w = .ok () w:=oX;exact eQ
theorem aP {rest full:List Oper} {t:TypeId} {t':TypeId} {x:Operand} {y:Operand} {v:Value} {d:Nat} (hv:v = .nilIface∨∃ u a,v = .iface u a) {p':Prop} (hK:p') (T:Tab P:=by exact tab) (ho:o.op = .binOp .neq t x y t':=by exact rfl) (hd:o.dst=some d:=by exact rfl) (hN:Nat.blt d N=true:=by exact rfl) (hx:ev ρ x=some v:=by exact rfl) (hy:y = .const .nilIface:=by exact rfl) (ht:T.isIface t=true:=by exact rfl) (h0:gv full ρ o=some true:=by exact rfl) (hz:p'→TO P N ⟨full⟩ rest ((d,.bool (isErr v))::ρ) D m L Q:=by exact vA):TO P N ⟨full⟩ (o::rest) ρ D m L Q:=TO.step h0 (OT.errNe T ho hd hN hx hv hy ht (hz hK))
theorem equalIn_ints {t u:TypeId} {k:IntKind} {info:TypeInfo} {ms:Array (String×TypeId)} {w:World} (dd:Nat) (a b:Int) (hu:(underlying t).run P w = .ok (.interface ms) w) (hi:P.info? u=some info) (hc:info.comparable=true) (hk:(underlying u).run P w = .ok (.int k) w) :
  (Op.equalIn (dd+1+1) t (.iface u (.int k a)) (.iface u (.int k b))).run P w = .ok (a==b) w:=by
 rw[Op.equalIn];simp only[Sem.run_bind,hu,Result.andThen_ok];simp[typeInfo,hi,hc,Op.equalIn,hk]
theorem OT.errEq (T:Tab P) {op:BinOp} {t t' u:TypeId} {k:IntKind} {info:TypeInfo} {x y:Operand} {a b:Int} {d:Nat} (hop:op = .eql∨op = .neq) (ho:o.op = .binOp op t x y t') (hd:o.dst=some d) (hN:Nat.blt d N=true)
  (hx:ev ρ x=some (.iface u (.int k a))) (hy:ev ρ y=some (.iface u (.int k b))) (ht:T.isIface t=true) (hi:P.info? u=some info) (hc:info.comparable=true) (hk:T.intK u=some k) (hK:K ((d,.bool (if op = .eql then decide (a=b)else !decide (a=b)))::ρ) m L):OT P N o ρ D m L Q K:=by
 obtain⟨ti,ms,h1,h2⟩:=isIface_get ht;obtain⟨ui,u1,u2⟩:=intK_get hk;refine cM hd hN (fun ac w ha=>⟨w,?_,ha.st⟩) hK;have hu:=T.run_underlying w h1;rw[h2]at hu;have hku:=T.run_underlying w u1;rw[u2]at hku;have h:=equalIn_ints (P:=P) (k:=k) 9998 a b hu hi hc hku;rcases hop with rfl | rfl
 ·have e1:binOp .eql t (.iface u (.int k a)) (.iface u (.int k b))=(do pure (.bool (←Op.equalIn (9998+1+1) t (.iface u (.int k a)) (.iface u (.int k b)))):Sem Value):=rfl;have e2:(eqGuard .eql t x y (.iface u (.int k a)) (.iface u (.int k b))).run P w = .ok () w:=oX;simp only[execOp,ho,ha.env.eval hx,ha.env.eval hy,Sem.run_bind,e2,Result.andThen_ok,e1,h,Sem.run_pure,if_true,beq_dec]
 ·have e1:binOp .neq t (.iface u (.int k a)) (.iface u (.int k b))=(do pure (.bool (!(←Op.equalIn (9998+1+1) t (.iface u (.int k a)) (.iface u (.int k b))))):Sem Value):=rfl;have e2:(eqGuard .neq t x y (.iface u (.int k a)) (.iface u (.int k b))).run P w = .ok () w:=oX;simp only[execOp,ho,ha.env.eval hx,ha.env.eval hy,Sem.run_bind,e2,Result.andThen_ok,e1,h,Sem.run_pure,beq_dec];simp
theorem equalIn_ptrSame {t e:TypeId} {w:World} {ei:TI} (T:Tab P) (dd:Nat) (b:Nat) (hu:(underlying t).run P w = .ok (.pointer e) w) (he:T.get e=some ei) (hz:ei.size≠0) :
  (Op.equalIn (dd+1) t (.pointer (some ⟨b,0,none⟩)) (.pointer (some ⟨b,0,none⟩))).run P w = .ok true w:=by
 have hs:=T.run_sizeOf w he;simp only[Op.equalIn,Sem.run_bind,hu,Result.andThen_ok,hs];simp[hz,sameAddr]
theorem OT.ptrSame (T:Tab P) {t t' e:TypeId} {x y:Operand} {b d:Nat} (ho:o.op = .binOp .neq t x y t') (hd:o.dst=some d) (hN:Nat.blt d N=true)
  (hx:ev ρ x=some (.pointer (some ⟨b,0,none⟩))) (hy:ev ρ y=some (.pointer (some ⟨b,0,none⟩))) (ht:T.isPtr t e=true) (he:T.size1 e=true) (hK:K ((d,.bool false)::ρ) m L):OT P N o ρ D m L Q K:=by
 obtain⟨ti,h1,h2⟩:=isPtr_get ht;obtain⟨ei,e1,e2⟩:=size1_get he;refine cM hd hN (fun ac w ha=>⟨w,?_,ha.st⟩) hK;have hu:=T.run_underlying w h1;rw[h2]at hu;have g1:binOp .neq t (.pointer (some ⟨b,0,none⟩)) (.pointer (some ⟨b,0,none⟩))=(do pure (.bool (!(←Op.equalIn (9999+1) t (.pointer (some ⟨b,0,none⟩)) (.pointer (some ⟨b,0,none⟩))))):Sem Value):=rfl;have g2:(eqGuard .neq t x y (.pointer (some ⟨b,0,none⟩)) (.pointer (some ⟨b,0,none⟩))).run P w = .ok () w:=oX;have h:=equalIn_ptrSame (P:=P) T 9999 b hu e1 e2;simp only[execOp,ho,ha.env.eval hx,ha.env.eval hy,Sem.run_bind,g2,Result.andThen_ok,g1,h,Sem.run_pure];rfl
end
end Go.Sep
namespace Go.Sep
section
variable {P:Program} {N:Nat} {ρ:Env} {D:List Deferred} {m:Mem} {L:List Item} {Q:EPost} {full:List Oper} {o:Oper} {K:Env→Mem→List Item→Prop}
theorem OT.makeT (T:Tab P) {t:TypeId} {n d:Nat} {z:Value} {x y:Operand} {e:TypeId} {ei:TI} (ho:o.op = .makeSlice t x y) (hd:o.dst=some d) (hN:Nat.blt d N=true)
  (hx:ev ρ x=some (.int .i64 (n:Int))) (hy:ev ρ y=some (.int .i64 (n:Int))) (he:T.elem t=some (e,ei)) (hs:Nat.beq ei.size 1=true) (hz:cellsF ei.zero=some [z]) (hfit:n*ei.bytes≤281474976710656) (hb:Nat.blt 0 ei.bytes=true)
  (hK:∀ b m',m≤m'→m'.t b=some (e,n)→m'.pin.heap.size≤b→K ((d,.slice (some ⟨b,0,none⟩) n n)::ρ) m' (.cells b 0 (List.replicate n z)::L)):OT P N o ρ D m L Q K:=by
 intro a w ha;obtain⟨ti,h4,h5,h6⟩:=elem_get he;have hu:=T.run_underlying w h4;rw[h5]at hu;obtain⟨info,q1,q2,q3,q4,q5⟩:=T.ok e ei h6;have hs1:=Nat.eq_of_beq_eq_true hs;have hbp:0<ei.bytes:=qa;have hn:n≤281474976710656:=bJ (Nat.le_mul_of_pos_right _ hbp) hfit;have hzc:=cellsF_eq hz;obtain⟨_,_,hu',_⟩:=T.ok t ti h4;rw[h5]at hu';have hcast:((info.bytes:Int)*(n:Int))=((n*ei.bytes:Nat):Int):=by rw[q4,Nat.mul_comm];simp
 have hmk:=run_make (P:=P) w t e info ei.zero hu' q1 q5 .i64 .i64 (n:Int) (n:Int) ou ou (by rw[hcast];omega) ou;have hrow:madeCells (⟨[z]⟩:Array Value) (n*1)=⟨List.replicate n z⟩:=by
  apply Array.ext';simp only[madeCells,Nat.mul_one,Array.toList_map,Array.toList_range];apply List.ext_getElem
  ·simp
  ·intro i h1 h2;simp[Nat.mod_one]
 rw[bO,q3,hs1,hzc,hrow]at hmk;have hr:(execOp a.eval o).run P w = .ok (.value (.slice (some ⟨w.heap.size,0,none⟩) n n)) (w.alloc (.cells ⟨List.replicate n z⟩ e)):=by
  simp only[execOp,ho,ha.env.eval hx,ha.env.eval hy,Sem.run_bind,hmk,Result.andThen_ok,Sem.run_pure]
 simp only[Oper.wp,hr,Oper.upon,hd];have hp:=ha.put hN (.slice (some ⟨w.heap.size,0,none⟩) n n);have hst:=ha.st.allocCells ⟨List.replicate n z⟩ e;obtain⟨f1,f2,f3⟩:=hst.typed (heap_alloc_at w (.cells ⟨List.replicate n z⟩ e));exact⟨_,_,_,⟨hp.size,hp.env,hp.defers,f3⟩,hK _ _ f1 (by simpa using f2) (by rw[f1.pin];exact ha.st.size)⟩
theorem OT.copyS (T:Tab P) (i:Nat) {x y:Operand} {t t2 e:TypeId} {ei:TI} {b off k n c:Nat} {bs:List UInt8} {vs:List Value} {d:Nat} (ho:o.op = .call ⟨.builtin .copy,⟨[x,y]⟩,⟨[t,t2]⟩⟩) (hd:o.dst=some d) (hN:Nat.blt d N=true)
  (hx:ev ρ x=some (.slice (some ⟨b,off+k,none⟩) n c)) (hy:ev ρ y=some (strV bs)) (hle:bs.length≤n) (he:T.elem t=some (e,ei)) (hsz:Nat.beq ei.size 1=true)
  (hi:L[i]? = some (.cells b off vs)) (hk:k+bs.length≤vs.length)
  (hK:K ((d,.int .i64 (bs.length:Int))::ρ) m (L.set i (.cells b off (putAt vs k (bs.map byteV))))):OT P N o ρ D m L Q K:=by
 obtain⟨ti,h4,h5,h6⟩:=elem_get he;have hs1:=Nat.eq_of_beq_eq_true hsz;intro ac w ha;have hu:=T.run_underlying w h4;rw[h5]at hu;have hes:=T.run_sizeOf w h6;rw[hs1]at hes;have hst:=ha.st.at_ hi;obtain⟨w',hr,hst'⟩:=run_storeCells (P:=P) (bs.map byteV) vs k 0 w hst (allOne_bytes bs) pG;have hx2:(⟨⟨bs⟩⟩:ByteArray).extract 0 bs.length=⟨⟨bs⟩⟩:=by
  apply ByteArray.ext;apply Array.ext';simp
 have hfirst':(Builtin.firstCells 1 bs.length (strV bs)).run P w = .ok (⟨bs.map byteV⟩:Array Value) w:=by
  simp only[Builtin.firstCells,Sem.run_pure];rw[hx2]
  congr 1
  apply Array.ext';simp
 have he':(execOp ac.eval o).run P w = .ok (.value (.int .i64 (bs.length:Int))) w':=by
  simp only[execOp,ho,resolve,invoke,builtin,Sem.run_bind,Sem.run_pure,Result.andThen_ok,List.map_toArray,bK,bL,ha.env.eval hx,ha.env.eval hy];have hlen:(Builtin.lenOf (strV bs)).run P w = .ok bs.length w:=rfl;have hmin:Nat.min bs.length n=bs.length:=Nat.min_eq_left hle;simp[Builtin.copy_,hu,hes,hlen,hfirst',hr,goInt,hmin]
 simp only[Oper.wp,he',Oper.upon,hd];have hp:=ha.put hN (.int .i64 (bs.length:Int));exact⟨_,_,_,⟨hp.size,hp.env,hp.defers,hst'.back hi⟩,hK⟩
theorem tok_full (b n:Nat):tok ⟨some ⟨b,0,none⟩,n,n⟩ 1 = .room b n 0:=by simp[tok]
theorem TO.tokFull {l:List Oper} (b n:Nat) (h:TO P N ⟨full⟩ l ρ D m (tok ⟨some ⟨b,0,none⟩,n,n⟩ 1::L) Q):TO P N ⟨full⟩ l ρ D m L Q:=by
 rw[tok_full]at h;exact TO.room0 b n h
theorem putAt_all {vs cs:List Value} (h:vs.length=cs.length):putAt vs 0 cs=cs:=by
 rw[putAt_zero ou,List.drop_of_length_le ou,cg]
end
end Go.Sep
namespace Go.Sep
section
variable {P:Program} {N:Nat} {ρ:Env} {D:List Deferred} {m:Mem} {L:List Item} {Q:EPost} {full:List Oper} {o:Oper} {K:Env→Mem→List Item→Prop}
theorem OT.freeze {b off:Nat} {vs:List Value} (h:∀ m',m≤m'→At m' b off vs→OT P N o ρ D m' L Q K):OT P N o ρ D m (.cells b off vs::L) Q K:=by
 exact gm
theorem u8_and15 (a:Nat) (ha:a<256):IntKind.wrap .u8 (((BitVec.ofInt 8 (a:Int)) &&&(BitVec.ofInt 8 15)).toNat:Int)=((a % 16:Nat):Int):=by
 have:=(by decide +kernel:∀ n:Fin 256,IntKind.wrap .u8 (((BitVec.ofInt 8 (n.val:Int)) &&&(BitVec.ofInt 8 15)).toNat:Int)=((n.val % 16:Nat):Int)) ⟨a,ha⟩
 exact this
theorem OT.and15 {t t':TypeId} {x y:Operand} {a:Nat} {d:Nat} (ho:o.op = .binOp .and t x y t') (hd:o.dst=some d) (hN:Nat.blt d N=true)
  (hx:ev ρ x=some (.int .u8 (a:Int))) (hy:ev ρ y=some (.int .u8 15)) (ha':a<256) (hK:K ((d,.int .u8 ((a % 16:Nat):Int))::ρ) m L):OT P N o ρ D m L Q K:=by
 refine cM hd hN (fun ac w ha=>⟨w,?_,ha.st⟩) hK;have hr:=u8_and15 a ha';exact gY
theorem OT.sidxK (T:Tab P) {t:TypeId} {x y:Operand} {s:Str} {i:Int} {kd:IntKind} {b:UInt8} {d:Nat} (k:Nat) (ho:o.op = .index t x y) (hd:o.dst=some d) (hN:Nat.blt d N=true)
  (ht:T.isStr t=true) (hx:ev ρ x=some (strV s)) (hy:ev ρ y=some (.int kd i)) (hi:i=(k:Int)) (hb:s[k]? = some b) (hK:K ((d,byteV b)::ρ) m L):OT P N o ρ D m L Q K:=by
 exact fv
theorem aK (T:Tab P) {t:TypeId} {x:Operand} {y:Operand} {s:Str} {i:Int} {kd:IntKind} {b:UInt8} {d:Nat} (k:Nat) (e2:(o.op = .index t x y)∧(o.dst=some d)∧(Nat.blt d N=true)∧(T.isStr t=true)∧(ev ρ x=some (strV s))∧(ev ρ y=some (.int kd i))∧(i=(k:Int))∧True) (hb:s[k]? = some b) (hK:K ((d,byteV b)::ρ) m L):OT P N o ρ D m L Q K:=OT.sidxK T k e2.1 e2.2.1 e2.2.2.1 e2.2.2.2.1 e2.2.2.2.2.1 e2.2.2.2.2.2.1 e2.2.2.2.2.2.2.1 hb hK
theorem SlRep.bytes {b:Nat} {bs:List UInt8} {n:Nat} (hA:At m b 0 (bs.map byteV)) (hn:bs.length=n) (hfit:n≤140737488355328):SlRep rByte m ⟨some ⟨b,0,none⟩,n,n⟩ bs:=by
 subst hn;exact⟨rfl,bI _,by show bs.length*1≤_;omega,bs,byte_refl bs,.inr ⟨b,0,rfl,by rw[encs_byte];exact hA⟩⟩
end
end Go.Sep
namespace Go
abbrev c8 := @Sep.SlRep.bytes
end Go
namespace Go.Sep
section
variable {P:Program} {N:Nat} {ρ:Env} {D:List Deferred} {m:Mem} {L Ls Lp:List Item} {Q:EPost} {ops:List Oper} {ts:List Nat} {fuel:Nat} {listed:List Bool}
end
section
variable {P:Program} {N:Nat} {ρ:Env} {D:List Deferred} {m:Mem} {L:List Item} {Q:EPost} {o:Oper} {K:Env→Mem→List Item→Prop}
end
end Go.Sep
namespace Go.Sep
structure ORow {H:Type} (s:Sl) (hs:List H):Prop where
 len:s.len≤s.cap
 all:hs.length=s.cap
 adr:(s=⟨none,0,0⟩)∨∃ b,s.a=some ⟨b,0,none⟩
section
variable {P:Program} {N:Nat} {ρ:Env} {D:List Deferred} {m:Mem} {L:List Item} {Q:EPost} {full:List Oper} {o:Oper} {K:Env→Mem→List Item→Prop}
end
end Go.Sep
set_option linter.unusedSectionVars false
namespace Go.Sep
section
variable {α:Type} [Inhabited α]
def gk (xs:List α) (k:Nat):α:=xs[k]?.getD default
structure Mix (n:Nat) (xs ys:List α):Prop where
 len:ys.length=xs.length
 perm:(ys.take n).Perm (xs.take n)
 rest:ys.drop n=xs.drop n
structure OrdK (lt:α→α→Bool):Prop where
 asym:∀ a b,lt a b=true→lt b a=false
 trans:∀ a b c,lt b a=false→lt c b=false→lt c a=false
def par (k:Nat):Nat:=(k-1) / 2
variable {lt:α→α→Bool}
structure DI (lt:α→α→Bool) (xs:List α) (n lo i:Nat):Prop where
 a:∀ k,0<k→k<n→lo≤par k→par k≠i→lt (gk xs k) (gk xs (par k))=false
 b:∀ k,0<k→k<n→par k=i→0<i→lo≤par i→lt (gk xs k) (gk xs (par i))=false
structure UI (lt:α→α→Bool) (xs:List α) (n j:Nat):Prop where
 a:∀ k,0<k→k<n→k≠j→lt (gk xs k) (gk xs (par k))=false
 b:∀ k,0<k→k<n→par k=j→0<j→lt (gk xs k) (gk xs (par j))=false
end
end Go.Sep
namespace Go.Sep
section
variable {P:Program} {N:Nat} {ρ:Env} {D:List Deferred} {m:Mem} {L:List Item} {Q:EPost} {full:List Oper} {o:Oper} {K:Env→Mem→List Item→Prop}
end
section
variable {P:Program} {N:Nat} {ρ:Env} {D:List Deferred} {m:Mem} {Q:EPost} {ops:List Oper} {ts:List Nat} {fuel:Nat} {listed:List Bool} {Ls Lp:List Item}
theorem DO.loadE {H α:Type} (T:Tab P) (i:Nat) (j:Nat) (r:R H α) {hs:List H} {k jj q:Nat} {h0:H} {v:Value} {x:Operand} {t:TypeId} {o:Oper} {b d:Nat} (hk:hs[k]? = some h0) (hq:q=k*r.size+jj) (hv:∀ rest,T.load t (r.enc h0++rest) jj=some v) (hc:Calm Q) (hns:Region.noSelect ⟨ops⟩=true) (hok:orderOk ops ts [i] listed=true)
  (hi:ops[i]? = some o) (hg:gv ops ρ o=some true) (ho:o.op = .load t x) (hd:o.dst=some d) (hN:Nat.blt d N=true)
  (hx:ev ρ x=some (.pointer (some ⟨b,q,none⟩))) (hj:Ls[j]? = some (.cells b 0 (encs r hs)))
  (h:DO P N ops ts fuel (listed.set i true) ((d,v)::ρ) D m Ls Lp Q):DO P N ops ts (fuel+1) listed ρ D m Ls Lp Q:=by
 subst hq;exact DO.loadL (off:=0) (k:=k*r.size+jj) T i j hc hns hok hi hg ho hd hN qg hj (load_encs T r hk hv) h
end
structure IRow (s:Sl) (b:Nat) (n:Nat):Prop where
 len:s.len=n
 cap:s.len≤s.cap
 pos:0<n→∃ c,s=⟨some ⟨b,0,none⟩,n,c⟩
 nil:n=0→s.a=none→s.cap=0
section
variable {P:Program} {N:Nat} {ρ:Env} {D:List Deferred} {m:Mem} {L:List Item} {Q:EPost} {full:List Oper} {o:Oper} {K:Env→Mem→List Item→Prop}
end
section
variable {P:Program} {N:Nat} {ρ:Env} {D:List Deferred} {m:Mem} {L:List Item} {Q:EPost} {full:List Oper}
theorem TC.freezeAt {c:Code} (i:Nat) {b off:Nat} {vs:List Value} (hi:L[i]? = some (.cells b off vs)) (h:∀ m',m≤m'→At m' b off vs→TC P N c ρ D m' (L.eraseIdx i) Q):TC P N c ρ D m L Q :=
 TC.perm (perm_at hi) (TC.freeze h)
theorem TO.freezeAt {l:List Oper} (i:Nat) {b off:Nat} {vs:List Value} (hi:L[i]? = some (.cells b off vs)) (h:∀ m',m≤m'→At m' b off vs→TO P N ⟨full⟩ l ρ D m' (L.eraseIdx i) Q):TO P N ⟨full⟩ l ρ D m L Q:=by
 exact cL (perm_at hi) (cV h)
end
end Go.Sep
namespace Go
abbrev da := @Sep.TO.freezeAt
end Go
namespace Go.Sep
section
variable {P:Program} {N:Nat} {ρ:Env} {D:List Deferred} {m:Mem} {L:List Item} {Q:EPost} {full:List Oper} {o:Oper} {K:Env→Mem→List Item→Prop}
theorem OT.litR {H α:Type} (T:Tab P) (r:R H α) {hs:List H} {l:List α} {t:TypeId} {n d:Nat} {ps:List (Nat×Operand)} (h2:All2 (r.rep m) hs l) (ho:o.op = .buildSlice t n ⟨ps⟩) (hd:o.dst=some d) (hN:Nat.blt d N=true)
  (hv:T.lit ρ t n ps=some (encs r hs)) (hn:l.length=n) (hfit:n*r.bytes≤140737488355328)
  (hK:∀ s m',m≤m'→SlRep r m' s l→Own s→s.cap=s.len→K ((d,s.v)::ρ) m' L):OT P N o ρ D m L Q K:=by
 intro a w ha;refine Oper.wp_mono (fun a' w' hl=>?_) (OT.lit (K:=fun ρ' m' L'=>∃ b,ρ'=(d,.slice (some ⟨b,0,none⟩) n n)::ρ∧m'=m∧L' = .cells b 0 (encs r hs)::L) T ho hd hN hv (fun b=>⟨b,rfl,rfl,rfl⟩) a w ha);obtain⟨ρ',m',L',h1,b,rfl,rfl,rfl⟩:=hl;obtain⟨g1,g2,g3⟩:=h1.st.freeze;exact⟨_,_,_,⟨h1.size,h1.env,h1.defers,g3⟩,hK ⟨some ⟨b,0,none⟩,n,n⟩ _ g1 ⟨hn.symm,bI _,hfit,hs,h2.mono fun _ _=>r.mono g1,.inr ⟨b,0,rfl,g2⟩⟩ (.inr ⟨b,0,rfl⟩) rfl⟩
theorem aR {H:Type} {α:Type} (T:Tab P) (r:R H α) {hs:List H} {l:List α} {t:TypeId} {n:Nat} {d:Nat} {ps:List (Nat×Operand)} (h2:All2 (r.rep m) hs l) (e3:(o.op = .buildSlice t n ⟨ps⟩)∧(o.dst=some d)∧(Nat.blt d N=true)∧(T.lit ρ t n ps=some (encs r hs))∧(l.length=n)∧True) (hfit:n*r.bytes≤140737488355328) (hK:∀ s m',m≤m'→SlRep r m' s l→Own s→s.cap=s.len→K ((d,s.v)::ρ) m' L):OT P N o ρ D m L Q K:=OT.litR T r h2 e3.1 e3.2.1 e3.2.2.1 e3.2.2.2.1 e3.2.2.2.2.1 hfit hK
theorem aj {rest full:List Oper} {H:Type} {α:Type} (T:Tab P) (r:R H α) {hs:List H} {l:List α} {t:TypeId} {n:Nat} {d:Nat} {ps:List (Nat×Operand)} (h2:All2 (r.rep m) hs l) (e3:(o.op = .buildSlice t n ⟨ps⟩)∧(o.dst=some d)∧(Nat.blt d N=true)∧(T.lit ρ t n ps=some (encs r hs))∧(l.length=n)∧True) (hfit:n*r.bytes≤140737488355328) (hK:∀ s m',m≤m'→SlRep r m' s l→Own s→s.cap=s.len→TO P N ⟨full⟩ rest ((d,s.v)::ρ) D m' L Q) (h0:gv full ρ o=some true:=by exact rfl):TO P N ⟨full⟩ (o::rest) ρ D m L Q:=TO.step h0 (OT.litR T r h2 e3.1 e3.2.1 e3.2.2.1 e3.2.2.2.1 e3.2.2.2.2.1 hfit hK)
theorem tok_fullO {s:Sl} (h:s.cap=s.len) (ho:Own s) (size:Nat):∃ b off,tok s size = .room b off 0:=by
 rcases ho with rfl | ⟨b,o,ha⟩
 ·exact⟨0,0,rfl⟩
 ·exact⟨b,o+s.len*size,by unfold tok;rw[ha,h];simp⟩
theorem TO.tokFo {l:List Oper} {s:Sl} (h:s.cap=s.len) (ho:Own s) (size:Nat) (hK:TO P N ⟨full⟩ l ρ D m (tok s size::L) Q):TO P N ⟨full⟩ l ρ D m L Q:=by
 obtain⟨b,off,hb⟩:=tok_fullO h ho size;rw[hb]at hK;exact TO.room0 b off hK
theorem OT.tokFo {s:Sl} (h:s.cap=s.len) (ho:Own s) (size:Nat) (hK:OT P N o ρ D m (tok s size::L) Q K):OT P N o ρ D m L Q K:=by
 obtain⟨b,off,hb⟩:=tok_fullO h ho size;rw[hb]at hK;exact fun a w ha=>hK a w ⟨ha.size,ha.env,ha.defers,ha.st.room0 b off⟩
theorem OT.assertOk (T:Tab P) {x:Operand} {xt t:TypeId} {v:Value} {d:Nat} (ho:o.op = .typeAssert x xt t true) (hd:o.dst=some d) (hN:Nat.blt d N=true) (hx:ev ρ x=some (.iface t v)) (ht:T.notIface t=true)
  (hK:K ((d,.tuple ⟨[v,.bool true]⟩)::ρ) m L):OT P N o ρ D m L Q K:=by
 refine cM hd hN (fun ac w ha=>⟨w,?_,ha.st⟩) hK;unfold Tab.notIface at ht;split at ht
 ·cases ht
 ·rename_i i hne hg;have hu:=T.run_underlying w hg;simp only[execOp,ho,ha.env.eval hx,Instr.typeAssert,Sem.run_bind,hu,Result.andThen_ok];cases hi:i.u with
  | interface ms =>
   obtain⟨u,a,b,c⟩:=i;simp only at hi;subst hi;exact absurd rfl (hne ms a b c)
  | _=>simp
 ·cases ht
end
end Go.Sep
namespace Go
abbrev db := @Sep.OT.litR
end Go
namespace Go.Sep
theorem uA {p p':Prop} (hp:p') (h:p'→p:=by(intro h;(repeat (first|refine q1 ?_|refine q2 ?_|refine q3 ?_|refine q4 tab rfl rfl ?_|refine q5 ?_|refine q6 ?_|refine q7 ?_|refine q8 ?_|refine q9 ?_|refine q10 ?_|refine q11 ?_|refine q12 rfl ?_|refine q13 ?_|refine q14 ?_|refine q15 ?_|refine q16 rfl ?_|refine q17 rfl ?_));exact h)):p:=h hp
theorem uN {p p':Prop} (hp:p') (h:p'→p:=by(intro h;(repeat (first|refine q1 ?_|refine q2 ?_|refine q3 ?_|refine q4 tab rfl rfl ?_|refine q5 ?_|refine q6 ?_|refine q7 ?_|refine q8 ?_|refine q9 ?_|refine q10 ?_|refine q11 ?_|refine q12 rfl ?_|refine q13 ?_|refine q14 ?_|refine q15 ?_));exact h)):p:=h hp
theorem uB {p p':Prop} (hp:p') (h:p'→p:=by(intro h;(repeat (first|refine q1 ?_|refine q3 ?_|refine q4 tab rfl rfl ?_|refine q5 ?_|refine q6 ?_|refine q7 ?_|refine q8 ?_|refine q9 ?_|refine q10 ?_|refine q11 ?_|refine q12 rfl ?_|refine q13 ?_|refine q14 ?_|refine q15 ?_|refine q16 rfl ?_|refine q17 rfl ?_));exact h)):p:=h hp
theorem uG {p p':Prop} (hp:p') (h:p'→p:=by(intro h;(repeat (first|refine q1 ?_|refine q2 ?_|refine q4 tab rfl rfl ?_|refine q5 ?_|refine q6 ?_|refine q7 ?_|refine q8 ?_|refine q9 ?_|refine q10 ?_|refine q11 ?_|refine q12 rfl ?_|refine q13 ?_|refine q14 ?_|refine q15 ?_|refine q16 rfl ?_|refine q17 rfl ?_));exact h)):p:=h hp
theorem uL {p p':Prop} (hp:p') (h:p'→p:=by(intro h;(repeat (first|refine q1 ?_|refine q2 ?_|refine q3 ?_|refine q4 tab rfl rfl ?_|refine q5 ?_|refine q6 ?_|refine q7 ?_|refine q8 ?_|refine q9 ?_|refine q10 ?_|refine q11 ?_|refine q12 rfl ?_|refine q13 ?_|refine q14 ?_|refine q15 ?_|refine q16 rfl ?_|refine q17 rfl ?_|refine qs rfl (ql tab 0 rfl rfl rfl rfl rfl rfl ?_)|refine qs rfl (qz tab 0 rfl rfl rfl rfl rfl rfl ?_)|refine qs rfl (ql tab 1 rfl rfl rfl rfl rfl rfl ?_)|refine qs rfl (qz tab 1 rfl rfl rfl rfl rfl rfl ?_)|refine qs rfl (ql tab 2 rfl rfl rfl rfl rfl rfl ?_)|refine qs rfl (qz tab 2 rfl rfl rfl rfl rfl rfl ?_)|refine qs rfl (ql tab 3 rfl rfl rfl rfl rfl rfl ?_)|refine qs rfl (qz tab 3 rfl rfl rfl rfl rfl rfl ?_)|refine qs rfl (ql tab 4 rfl rfl rfl rfl rfl rfl ?_)|refine qs rfl (qz tab 4 rfl rfl rfl rfl rfl rfl ?_)|refine qs rfl (ql tab 5 rfl rfl rfl rfl rfl rfl ?_)|refine qs rfl (qz tab 5 rfl rfl rfl rfl rfl rfl ?_)));exact h)):p:=h hp
theorem uM {p p':Prop} (hp:p') (h:p'→p:=by(intro h;(first|refine qs rfl (ql tab 0 rfl rfl rfl rfl rfl rfl ?_)|refine qs rfl (qz tab 0 rfl rfl rfl rfl rfl rfl ?_)|refine qs rfl (ql tab 1 rfl rfl rfl rfl rfl rfl ?_)|refine qs rfl (qz tab 1 rfl rfl rfl rfl rfl rfl ?_)|refine qs rfl (ql tab 2 rfl rfl rfl rfl rfl rfl ?_)|refine qs rfl (qz tab 2 rfl rfl rfl rfl rfl rfl ?_)|refine qs rfl (ql tab 3 rfl rfl rfl rfl rfl rfl ?_)|refine qs rfl (qz tab 3 rfl rfl rfl rfl rfl rfl ?_)|refine qs rfl (ql tab 4 rfl rfl rfl rfl rfl rfl ?_)|refine qs rfl (qz tab 4 rfl rfl rfl rfl rfl rfl ?_)|refine qs rfl (ql tab 5 rfl rfl rfl rfl rfl rfl ?_)|refine qs rfl (qz tab 5 rfl rfl rfl rfl rfl rfl ?_));exact h)):p:=h hp
theorem uT {p p':Prop} (hp:p') (h:p'→p:=by(intro h;(first|refine qs rfl (cN tab 0 rfl rfl rfl rfl rfl rfl rfl rfl ?_)|refine qs rfl (cO tab 0 rfl rfl rfl rfl rfl rfl rfl rfl ?_)|refine qs rfl (cN tab 1 rfl rfl rfl rfl rfl rfl rfl rfl ?_)|refine qs rfl (cO tab 1 rfl rfl rfl rfl rfl rfl rfl rfl ?_)|refine qs rfl (cN tab 2 rfl rfl rfl rfl rfl rfl rfl rfl ?_)|refine qs rfl (cO tab 2 rfl rfl rfl rfl rfl rfl rfl rfl ?_)|refine qs rfl (cN tab 3 rfl rfl rfl rfl rfl rfl rfl rfl ?_)|refine qs rfl (cO tab 3 rfl rfl rfl rfl rfl rfl rfl rfl ?_)|refine qs rfl (cN tab 4 rfl rfl rfl rfl rfl rfl rfl rfl ?_)|refine qs rfl (cO tab 4 rfl rfl rfl rfl rfl rfl rfl rfl ?_)|refine qs rfl (cN tab 5 rfl rfl rfl rfl rfl rfl rfl rfl ?_)|refine qs rfl (cO tab 5 rfl rfl rfl rfl rfl rfl rfl rfl ?_));exact h)):p:=h hp
theorem uS {α:Type} {l l':List α} (h:l'.Sublist l:=by(repeat (first | exact ce _ | exact List.sublist_append_left _ _ | refine bY _ ?_ | refine bZ _ ?_))):l'.Sublist l:=h
theorem uH {p:Prop} (h:p:=by(repeat (first | exact trivial | refine And.intro rfl ?_))):p:=h
theorem uC {Q:EPost} (h:Calm Q:=by(repeat (first | exact Calm.ret | exact Calm.quiet | refine Calm.then ?_ | refine Calm.block ?_ | assumption))):Calm Q:=h
theorem uP {α:Type} {l l':List α} (h:l.Perm l':=by(first | exact bj _ | (rw[cg];exact bj _))):l.Perm l':=h
theorem vA {p p':Prop} (h:p'→p:=by(intro h;(repeat (first|refine q1 ?_|refine q2 ?_|refine q3 ?_|refine q4 tab rfl rfl ?_|refine q5 ?_|refine q6 ?_|refine q7 ?_|refine q8 ?_|refine q9 ?_|refine q10 ?_|refine q11 ?_|refine q12 rfl ?_|refine q13 ?_|refine q14 ?_|refine q15 ?_|refine q16 rfl ?_|refine q17 rfl ?_));exact h)):p'→p:=h
theorem vN {p p':Prop} (h:p'→p:=by(intro h;(repeat (first|refine q1 ?_|refine q2 ?_|refine q3 ?_|refine q4 tab rfl rfl ?_|refine q5 ?_|refine q6 ?_|refine q7 ?_|refine q8 ?_|refine q9 ?_|refine q10 ?_|refine q11 ?_|refine q12 rfl ?_|refine q13 ?_|refine q14 ?_|refine q15 ?_));exact h)):p'→p:=h
theorem vB {p p':Prop} (h:p'→p:=by(intro h;(repeat (first|refine q1 ?_|refine q3 ?_|refine q4 tab rfl rfl ?_|refine q5 ?_|refine q6 ?_|refine q7 ?_|refine q8 ?_|refine q9 ?_|refine q10 ?_|refine q11 ?_|refine q12 rfl ?_|refine q13 ?_|refine q14 ?_|refine q15 ?_|refine q16 rfl ?_|refine q17 rfl ?_));exact h)):p'→p:=h
theorem vG {p p':Prop} (h:p'→p:=by(intro h;(repeat (first|refine q1 ?_|refine q2 ?_|refine q4 tab rfl rfl ?_|refine q5 ?_|refine q6 ?_|refine q7 ?_|refine q8 ?_|refine q9 ?_|refine q10 ?_|refine q11 ?_|refine q12 rfl ?_|refine q13 ?_|refine q14 ?_|refine q15 ?_|refine q16 rfl ?_|refine q17 rfl ?_));exact h)):p'→p:=h
theorem vL {p p':Prop} (h:p'→p:=by(intro h;(repeat (first|refine q1 ?_|refine q2 ?_|refine q3 ?_|refine q4 tab rfl rfl ?_|refine q5 ?_|refine q6 ?_|refine q7 ?_|refine q8 ?_|refine q9 ?_|refine q10 ?_|refine q11 ?_|refine q12 rfl ?_|refine q13 ?_|refine q14 ?_|refine q15 ?_|refine q16 rfl ?_|refine q17 rfl ?_|refine qs rfl (ql tab 0 rfl rfl rfl rfl rfl rfl ?_)|refine qs rfl (qz tab 0 rfl rfl rfl rfl rfl rfl ?_)|refine qs rfl (ql tab 1 rfl rfl rfl rfl rfl rfl ?_)|refine qs rfl (qz tab 1 rfl rfl rfl rfl rfl rfl ?_)|refine qs rfl (ql tab 2 rfl rfl rfl rfl rfl rfl ?_)|refine qs rfl (qz tab 2 rfl rfl rfl rfl rfl rfl ?_)|refine qs rfl (ql tab 3 rfl rfl rfl rfl rfl rfl ?_)|refine qs rfl (qz tab 3 rfl rfl rfl rfl rfl rfl ?_)|refine qs rfl (ql tab 4 rfl rfl rfl rfl rfl rfl ?_)|refine qs rfl (qz tab 4 rfl rfl rfl rfl rfl rfl ?_)|refine qs rfl (ql tab 5 rfl rfl rfl rfl rfl rfl ?_)|refine qs rfl (qz tab 5 rfl rfl rfl rfl rfl rfl ?_)));exact h)):p'→p:=h
section
variable {P:Program} {N:Nat} {ρ:Env} {D:List Deferred} {m:Mem} {L:List Item} {Q:EPost} {full:List Oper} {o:Oper} {rest:List Oper}
theorem oC {F:Operand} {args:List Operand} {ats:Array TypeId} {f:FuncId} {first cap vs all:List Value} {d:Nat} (hg:Goes P f)
 (h:TCallX P f ⟨all⟩ m L (fun v m' L'=>TO P N ⟨full⟩ rest ((d,v)::ρ) D m' L' Q) (fun ch m' L'=>Q (.panic ch) ρ D m' L'))
 (h0:gv full ρ o=some true:=by exact rfl) (ho:o.op=.call ⟨.value F,⟨args⟩,ats⟩:=by exact rfl) (hd:o.dst=some d:=by exact rfl) (hN:Nat.blt d N=true:=by exact rfl)
 (hF:ev ρ F=some (.func (.func f) ⟨first⟩ ⟨cap⟩):=by exact rfl) (ha:evs ρ args=some vs:=by exact rfl) (hall:fl (first++(vs++cap))=some all:=by exact rfl):TO P N ⟨full⟩ (o::rest) ρ D m L Q :=
 TO.step h0 (cQ ho hd hN hF ha hall hg h)
theorem oB {x:Operand} {t:TypeId} {d:Nat} {v:Value} {cs:List Value} (hK:∀ b,TO P N ⟨full⟩ rest ((d,.pointer (some ⟨b,0,none⟩))::ρ) D m (.cells b 0 cs::L) Q)
 (h0:gv full ρ o=some true:=by exact rfl) (ho:o.op=.box t x:=by exact rfl) (hd:o.dst=some d:=by exact rfl) (hN:Nat.blt d N=true:=by exact rfl) (hx:ev ρ x=some v:=by exact rfl) (hv:cellsF v=some cs:=by exact rfl):TO P N ⟨full⟩ (o::rest) ρ D m L Q :=
 TO.step h0 (OT.box ho hd hN hx hv hK)
theorem ay {x:Operand} {t:TypeId} {d:Nat} {v:Value} {cs:List Value} {p':_→Prop} (hK:∀ b,p' b) (h0:gv full ρ o=some true:=by exact rfl) (ho:o.op=.box t x:=by exact rfl) (hd:o.dst=some d:=by exact rfl) (hN:Nat.blt d N=true:=by exact rfl) (hx:ev ρ x=some v:=by exact rfl) (hv:cellsF v=some cs:=by exact rfl) (hz:∀ b,p' b→TO P N ⟨full⟩ rest ((d,.pointer (some ⟨b,0,none⟩))::ρ) D m (.cells b 0 cs::L) Q:=by intro b;exact vL):TO P N ⟨full⟩ (o::rest) ρ D m L Q:=oB (h0:=h0) (ho:=ho) (hd:=hd) (hN:=hN) (hx:=hx) (hv:=hv) (fun b0=>hz b0 (hK b0))
theorem oA (T:Tab P) {t:TypeId} {d:Nat} {cs:List Value} (hK:∀ b,TO P N ⟨full⟩ rest ((d,.pointer (some ⟨b,0,none⟩))::ρ) D m (.cells b 0 cs::L) Q)
 (h0:gv full ρ o=some true:=by exact rfl) (ho:o.op=.alloc t:=by exact rfl) (hd:o.dst=some d:=by exact rfl) (hN:Nat.blt d N=true:=by exact rfl) (hv:T.zeroCells t=some cs:=by exact rfl):TO P N ⟨full⟩ (o::rest) ρ D m L Q :=
 TO.step h0 (OT.alloc T ho hd hN hv hK)
theorem aB (T:Tab P) {t:TypeId} {d:Nat} {cs:List Value} {p':_→Prop} (hK:∀ b,p' b) (h0:gv full ρ o=some true:=by exact rfl) (ho:o.op=.alloc t:=by exact rfl) (hd:o.dst=some d:=by exact rfl) (hN:Nat.blt d N=true:=by exact rfl) (hv:T.zeroCells t=some cs:=by exact rfl) (hz:∀ b,p' b→TO P N ⟨full⟩ rest ((d,.pointer (some ⟨b,0,none⟩))::ρ) D m (.cells b 0 cs::L) Q:=by intro b;exact vA):TO P N ⟨full⟩ (o::rest) ρ D m L Q:=oA (h0:=h0) (ho:=ho) (hd:=hd) (hN:=hN) (hv:=hv) T (fun b0=>hz b0 (hK b0))
theorem oL (T:Tab P) {x:Operand} {t:TypeId} {b off d:Nat} {cs:List Value} {v:Value} (hi:At m b off cs) (hK:TO P N ⟨full⟩ rest ((d,v)::ρ) D m L Q)
 (h0:gv full ρ o=some true:=by exact rfl) (ho:o.op=.load t x:=by exact rfl) (hd:o.dst=some d:=by exact rfl) (hN:Nat.blt d N=true:=by exact rfl)
 (hx:ev ρ x=some (.pointer (some ⟨b,off,none⟩)):=by exact rfl) (hv:T.load t cs 0=some v:=by exact rfl):TO P N ⟨full⟩ (o::rest) ρ D m L Q :=
 TO.step h0 (OT.loadA0 T hi ho hd hN hx hv hK)
theorem an (T:Tab P) {x:Operand} {t:TypeId} {b:Nat} {off:Nat} {d:Nat} {cs:List Value} {v:Value} (hi:At m b off cs) {p':Prop} (hK:p') (h0:gv full ρ o=some true:=by exact rfl) (ho:o.op=.load t x:=by exact rfl) (hd:o.dst=some d:=by exact rfl) (hN:Nat.blt d N=true:=by exact rfl) (hx:ev ρ x=some (.pointer (some ⟨b,off,none⟩)):=by exact rfl) (hv:T.load t cs 0=some v:=by exact rfl) (hz:p'→TO P N ⟨full⟩ rest ((d,v)::ρ) D m L Q:=by exact vA):TO P N ⟨full⟩ (o::rest) ρ D m L Q:=oL (h0:=h0) (ho:=ho) (hd:=hd) (hN:=hN) (hx:=hx) (hv:=hv) T hi (hz hK)
end
section
variable {P:Program} {N:Nat} {ρ:Env} {D:List Deferred} {m:Mem} {L:List Item} {Q:EPost} {full:List Oper} {o:Oper} {rest:List Oper}
theorem oR {F:Operand} {args:List Operand} {ats:Array TypeId} {f:FuncId} {first cap vs all:List Value} {d:Nat} {r:Value} {m1:Mem} {L1:List Item} (hg:Goes P f) (h:TCall P f ⟨all⟩ m L (Ret r m1 L1)) (hK:TO P N ⟨full⟩ rest ((d,r)::ρ) D m1 L1 Q)
 (h0:gv full ρ o=some true:=by exact rfl) (ho:o.op=.call ⟨.value F,⟨args⟩,ats⟩:=by exact rfl) (hd:o.dst=some d:=by exact rfl) (hN:Nat.blt d N=true:=by exact rfl)
 (hF:ev ρ F=some (.func (.func f) ⟨first⟩ ⟨cap⟩):=by exact rfl) (ha:evs ρ args=some vs:=by exact rfl) (hall:fl (first++(vs++cap))=some all:=by exact rfl):TO P N ⟨full⟩ (o::rest) ρ D m L Q :=
 oC hg (h.x (by rintro _ _ _ ⟨rfl,rfl,rfl⟩;exact hK)) h0 ho hd hN hF ha hall
theorem au {F:Operand} {args:List Operand} {ats:Array TypeId} {f:FuncId} {first:List Value} {cap:List Value} {vs:List Value} {all:List Value} {d:Nat} {r:Value} {m1:Mem} {L1:List Item} (hg:Goes P f) (h:TCall P f ⟨all⟩ m L (Ret r m1 L1)) {p':Prop} (hK:p') (h0:gv full ρ o=some true:=by exact rfl) (ho:o.op=.call ⟨.value F,⟨args⟩,ats⟩:=by exact rfl) (hd:o.dst=some d:=by exact rfl) (hN:Nat.blt d N=true:=by exact rfl) (hF:ev ρ F=some (.func (.func f) ⟨first⟩ ⟨cap⟩):=by exact rfl) (ha:evs ρ args=some vs:=by exact rfl) (hall:fl (first++(vs++cap))=some all:=by exact rfl) (hz:p'→TO P N ⟨full⟩ rest ((d,r)::ρ) D m1 L1 Q:=by exact vA):TO P N ⟨full⟩ (o::rest) ρ D m L Q:=oR (h0:=h0) (ho:=ho) (hd:=hd) (hN:=hN) (hF:=hF) (ha:=ha) (hall:=hall) hg h (hz hK)
end
end Go.Sep
namespace Go.Sep
open Go.Proofs
noncomputable def tiOf (i d:TypeInfo):TI:=⟨d.desc,i.size,i.bytes,match i.zero with | some z=>z | none=>undef⟩
def GoodTI (P:Program) (t:TypeId) (i:TI):Prop:=∃ info,P.info? t=some info∧P.underlying t=some i.u∧info.size=i.size∧info.bytes=i.bytes∧info.zero=some i.zero
theorem goodTI {P:Program} {t:TypeId} {i d:TypeInfo} (h1:P.info? t=some i) (h2:P.underlying t=some d.desc) (h3:i.zero.isSome=true):GoodTI P t (tiOf i d):=by
 refine⟨i,h1,h2,rfl,rfl,?_⟩;cases hz:i.zero with
 | none=>rw[hz]at h3;cases h3
 | some z=>simp[tiOf,hz]
inductive TT where
 | nil
 | node (l:TT) (k:Nat) (i:TI) (r:TT)
def getT : TT→Nat→Option TI
 | .nil,_=>none
 | .node l k i r,t=>bif Nat.beq t k then some i else bif Nat.blt t k then getT l t else getT r t
def AllT (P:Program):TT→Prop
 | .nil=>True
 | .node l k i r=>AllT P l∧GoodTI P k i∧AllT P r
theorem getT_ok {P:Program}:∀ {l:TT},AllT P l→∀ t i,getT l t=some i→GoodTI P t i
 | .nil,_,t,i,h=>by cases h
 | .node l k x r,hl,t,i,h=>by
  simp only[getT]at h;cases hb:Nat.beq t k with
  | true =>
   have:t=k:=Nat.eq_of_beq_eq_true hb;subst this;simp only[hb,cy,bD]at h;subst h;exact hl.2.1
  | false =>
   simp only[hb,cx]at h;cases hc:Nat.blt t k with
   | true=>simp only[hc,cy]at h;exact getT_ok hl.1 t i h
   | false=>simp only[hc,cx]at h;exact getT_ok hl.2.2 t i h
noncomputable abbrev nl0 (a:TypeInfo) (k:Nat):TT:=.node .nil k (tiOf a a) .nil
noncomputable abbrev nn0 (l:TT) (a:TypeInfo) (k:Nat) (r:TT):TT:=.node l k (tiOf a a) r
noncomputable abbrev nd0 (l:TT) (a b:TypeInfo) (k:Nat) (r:TT):TT:=.node l k (tiOf a b) r
theorem gq0 {P:Program} {t:TypeId} {i d:TypeInfo} (h1:P.info? t=some i:=by kernel_rfl) (h2:P.underlying t=some d.desc:=by kernel_rfl) (h3:i.zero.isSome=true:=by kernel_rfl):GoodTI P t (tiOf i d):=goodTI h1 h2 h3
theorem gl0 {P:Program} {t:TypeId} {i:TypeInfo} (h:GoodTI P t (tiOf i i):=by exact gq0):AllT P (nl0 i t):=⟨trivial,h,trivial⟩
section
open Tryz
noncomputable def tbl : TT:=(nn0 (nn0 (nn0 (nn0 (nn0 (nn0 (nn0 (nl0 t1 1) t2 2 (nl0 t3 3)) t4 4 (nn0 (nl0 t5 5) t7 7 (nl0 t9 9))) t12 12 (nn0 (nn0 (nl0 t13 13) t15 15 (nl0 t16 16)) t17 17 (nn0 (nl0 t18 18) t20 20 (nl0 t21 21)))) t22 22 (nn0 (nd0 (nd0 (nl0 t23 23) t24 t23 24 (nl0 t25 25)) t26 t3 26 (nn0 (nl0 t27 27) t28 28 (nl0 t29 29))) t30 30 (nn0 (nn0 (nl0 t31 31) t32 32 (nl0 t33 33)) t34 34 (nn0 (nl0 t35 35) t36 36 (nl0 t37 37))))) t38 38 (nn0 (nn0 (nn0 (nn0 (nl0 t39 39) t40 40 (nl0 t41 41)) t42 42 (nd0 (nl0 t43 43) t44 t43 44 (nl0 t45 45))) t46 46 (nd0 (nn0 (nd0 TT.nil t47 t46 47 TT.nil) t48 48 (nl0 t49 49)) t50 t49 50 (nn0 (nl0 t51 51) t52 52 (nl0 t53 53)))) t54 54 (nn0 (nd0 (nn0 (nl0 t55 55) t56 56 (nl0 t57 57)) t58 t57 58 (nd0 (nl0 t59 59) t60 t59 60 (nl0 t61 61))) t62 62 (nn0 (nn0 (nl0 t63 63) t64 64 (nl0 t65 65)) t66 66 (nn0 (nl0 t67 67) t68 68 (nl0 t69 69)))))) t70 70 (nd0 (nn0 (nn0 (nd0 (nn0 (nl0 t71 71) t72 72 (nl0 t73 73)) t74 t73 74 (nd0 (nl0 t75 75) t76 t75 76 (nl0 t77 77))) t78 78 (nn0 (nn0 (nl0 t79 79) t80 80 (nl0 t81 81)) t82 82 (nn0 (nl0 t83 83) t84 84 (nl0 t85 85)))) t86 86 (nn0 (nn0 (nn0 (nl0 t87 87) t88 88 (nl0 t89 89)) t90 90 (nn0 (nl0 t91 91) t92 92 (nd0 TT.nil t93 t92 93 TT.nil))) t94 94 (nn0 (nn0 (nl0 t95 95) t96 96 (nd0 TT.nil t97 t96 97 TT.nil)) t98 98 (nn0 (nl0 t99 99) t100 100 (nl0 t101 101))))) t102 t101 102 (nd0 (nn0 (nn0 (nn0 (nl0 t103 103) t104 104 (nl0 t105 105)) t106 106 (nn0 (nd0 TT.nil t107 t106 107 TT.nil) t108 108 (nd0 TT.nil t109 t108 109 TT.nil))) t110 110 (nd0 (nn0 (nl0 t111 111) t112 112 (nl0 t113 113)) t114 t113 114 (nn0 (nl0 t115 115) t116 116 (nl0 t117 117)))) t118 t117 118 (nn0 (nd0 (nn0 (nl0 t119 119) t120 120 (nl0 t121 121)) t122 t31 122 (nn0 (nl0 t123 123) t124 124 (nl0 t125 125))) t126 126 (nn0 (nn0 (nl0 t127 127) t128 128 (nl0 t129 129)) t130 130 (nn0 (nl0 t131 131) t132 132 (nl0 t133 133))))))) t134 134 (nn0 (nn0 (nn0 (nd0 (nn0 (nn0 (nl0 t135 135) t136 136 (nl0 t137 137)) t138 138 (nn0 (nl0 t139 139) t140 140 (nl0 t141 141))) t142 t137 142 (nn0 (nn0 (nl0 t143 143) t144 144 (nl0 t145 145)) t146 146 (nd0 (nl0 t147 147) t148 t147 148 (nl0 t149 149)))) t150 150 (nn0 (nn0 (nn0 (nl0 t151 151) t152 152 (nl0 t153 153)) t154 154 (nn0 (nl0 t155 155) t156 156 (nl0 t157 157))) t158 158 (nn0 (nn0 (nd0 TT.nil t159 t158 159 TT.nil) t160 160 (nl0 t161 161)) t162 162 (nn0 (nl0 t163 163) t164 164 (nl0 t165 165))))) t166 166 (nn0 (nn0 (nn0 (nn0 (nl0 t167 167) t168 168 (nl0 t169 169)) t170 170 (nn0 (nl0 t171 171) t172 172 (nl0 t173 173))) t174 174 (nn0 (nn0 (nl0 t175 175) t176 176 (nl0 t177 177)) t178 178 (nn0 (nl0 t179 179) t180 180 (nl0 t181 181)))) t182 182 (nn0 (nd0 (nn0 (nl0 t183 183) t184 184 (nl0 t185 185)) t186 t185 186 (nn0 (nl0 t187 187) t188 188 (nl0 t189 189))) t190 190 (nn0 (nn0 (nl0 t191 191) t192 192 (nl0 t193 193)) t194 194 (nn0 (nd0 TT.nil t195 t194 195 TT.nil) t196 196 (nd0 TT.nil t197 t3 197 TT.nil)))))) t198 198 (nn0 (nn0 (nn0 (nn0 (nn0 (nl0 t199 199) t200 200 (nl0 t201 201)) t202 202 (nn0 (nl0 t203 203) t204 204 (nl0 t205 205))) t206 206 (nn0 (nn0 (nl0 t207 207) t208 208 (nl0 t209 209)) t210 210 (nn0 (nl0 t211 211) t212 212 (nl0 t213 213)))) t214 214 (nn0 (nn0 (nn0 (nd0 TT.nil t215 t214 215 TT.nil) t216 216 (nl0 t217 217)) t218 218 (nn0 (nl0 t219 219) t220 220 (nl0 t221 221))) t222 222 (nn0 (nn0 (nl0 t223 223) t224 224 (nl0 t225 225)) t226 226 (nn0 (nd0 TT.nil t227 t226 227 TT.nil) t228 228 (nl0 t229 229))))) t230 230 (nn0 (nn0 (nn0 (nn0 (nl0 t231 231) t232 232 (nl0 t233 233)) t234 234 (nn0 (nl0 t235 235) t236 236 (nl0 t237 237))) t238 238 (nn0 (nn0 (nl0 t239 239) t240 240 (nl0 t241 241)) t242 242 (nn0 (nl0 t243 243) t244 244 (nl0 t245 245)))) t246 246 (nn0 (nn0 (nn0 (nl0 t247 247) t248 248 (nl0 t249 249)) t250 250 (nn0 (nl0 t251 251) t252 252 (nl0 t253 253))) t254 254 (nn0 (nn0 (nl0 t255 255) t257 257 (nl0 t258 258)) t262 262 (nn0 (nl0 t265 265) t267 267 TT.nil)))))))
end
theorem tbl_ok : AllT Tryz.prog tbl:=⟨⟨⟨⟨⟨⟨⟨gl0,gq0,gl0⟩,gq0,⟨gl0,gq0,gl0⟩⟩,gq0,⟨⟨gl0,gq0,gl0⟩,gq0,⟨gl0,gq0,gl0⟩⟩⟩,gq0,⟨⟨⟨gl0,gq0,gl0⟩,gq0,⟨gl0,gq0,gl0⟩⟩,gq0,⟨⟨gl0,gq0,gl0⟩,gq0,⟨gl0,gq0,gl0⟩⟩⟩⟩,gq0,⟨⟨⟨⟨gl0,gq0,gl0⟩,gq0,⟨gl0,gq0,gl0⟩⟩,gq0,⟨⟨⟨trivial,gq0,trivial⟩,gq0,gl0⟩,gq0,⟨gl0,gq0,gl0⟩⟩⟩,gq0,⟨⟨⟨gl0,gq0,gl0⟩,gq0,⟨gl0,gq0,gl0⟩⟩,gq0,⟨⟨gl0,gq0,gl0⟩,gq0,⟨gl0,gq0,gl0⟩⟩⟩⟩⟩,gq0,⟨⟨⟨⟨⟨gl0,gq0,gl0⟩,gq0,⟨gl0,gq0,gl0⟩⟩,gq0,⟨⟨gl0,gq0,gl0⟩,gq0,⟨gl0,gq0,gl0⟩⟩⟩,gq0,⟨⟨⟨gl0,gq0,gl0⟩,gq0,⟨gl0,gq0,⟨trivial,gq0,trivial⟩⟩⟩,gq0,⟨⟨gl0,gq0,⟨trivial,gq0,trivial⟩⟩,gq0,⟨gl0,gq0,gl0⟩⟩⟩⟩,gq0,⟨⟨⟨⟨gl0,gq0,gl0⟩,gq0,⟨⟨trivial,gq0,trivial⟩,gq0,⟨trivial,gq0,trivial⟩⟩⟩,gq0,⟨⟨gl0,gq0,gl0⟩,gq0,⟨gl0,gq0,gl0⟩⟩⟩,gq0,⟨⟨⟨gl0,gq0,gl0⟩,gq0,⟨gl0,gq0,gl0⟩⟩,gq0,⟨⟨gl0,gq0,gl0⟩,gq0,⟨gl0,gq0,gl0⟩⟩⟩⟩⟩⟩,gq0,⟨⟨⟨⟨⟨⟨gl0,gq0,gl0⟩,gq0,⟨gl0,gq0,gl0⟩⟩,gq0,⟨⟨gl0,gq0,gl0⟩,gq0,⟨gl0,gq0,gl0⟩⟩⟩,gq0,⟨⟨⟨gl0,gq0,gl0⟩,gq0,⟨gl0,gq0,gl0⟩⟩,gq0,⟨⟨⟨trivial,gq0,trivial⟩,gq0,gl0⟩,gq0,⟨gl0,gq0,gl0⟩⟩⟩⟩,gq0,⟨⟨⟨⟨gl0,gq0,gl0⟩,gq0,⟨gl0,gq0,gl0⟩⟩,gq0,⟨⟨gl0,gq0,gl0⟩,gq0,⟨gl0,gq0,gl0⟩⟩⟩,gq0,⟨⟨⟨gl0,gq0,gl0⟩,gq0,⟨gl0,gq0,gl0⟩⟩,gq0,⟨⟨gl0,gq0,gl0⟩,gq0,⟨⟨trivial,gq0,trivial⟩,gq0,⟨trivial,gq0,trivial⟩⟩⟩⟩⟩⟩,gq0,⟨⟨⟨⟨⟨gl0,gq0,gl0⟩,gq0,⟨gl0,gq0,gl0⟩⟩,gq0,⟨⟨gl0,gq0,gl0⟩,gq0,⟨gl0,gq0,gl0⟩⟩⟩,gq0,⟨⟨⟨⟨trivial,gq0,trivial⟩,gq0,gl0⟩,gq0,⟨gl0,gq0,gl0⟩⟩,gq0,⟨⟨gl0,gq0,gl0⟩,gq0,⟨⟨trivial,gq0,trivial⟩,gq0,gl0⟩⟩⟩⟩,gq0,⟨⟨⟨⟨gl0,gq0,gl0⟩,gq0,⟨gl0,gq0,gl0⟩⟩,gq0,⟨⟨gl0,gq0,gl0⟩,gq0,⟨gl0,gq0,gl0⟩⟩⟩,gq0,⟨⟨⟨gl0,gq0,gl0⟩,gq0,⟨gl0,gq0,gl0⟩⟩,gq0,⟨⟨gl0,gq0,gl0⟩,gq0,⟨gl0,gq0,trivial⟩⟩⟩⟩⟩⟩⟩
def fieldsIn (P:Program) (d:TypeDesc):Bool:=match d with | .struct fs=>fs.toList.all fun f=>(P.info? f.type).isSome | _=>true
def AllF (P:Program):TT→Bool
 | .nil=>true
 | .node l _ i r=>AllF P l&&(fieldsIn P i.u&&AllF P r)
theorem getT_mem : ∀ {l:TT} {P:Program},AllF P l=true→∀ t i,getT l t=some i→fieldsIn P i.u=true
 | .nil,_,_,t,i,h=>by cases h
 | .node l k x r,P,hl,t,i,h=>by
  simp only[AllF,bu]at hl;simp only[getT]at h;cases hb:Nat.beq t k with
  | true=>simp only[hb,cy,bD]at h;subst h;exact hl.2.1
  | false =>
   simp only[hb,cx]at h;cases hc:Nat.blt t k with
   | true=>simp only[hc,cy]at h;exact getT_mem hl.1 t i h
   | false=>simp only[hc,cx]at h;exact getT_mem hl.2.2 t i h
theorem fields_ok {P:Program} {d:TypeDesc} (h:fieldsIn P d=true):∀ fs,d = .struct fs→∀ f∈fs.toList,∃ j,P.info? f.type=some j:=by
 intro fs hd f hf;subst hd;have:=List.all_eq_true.1 h f hf;exact Option.isSome_iff_exists.1 this
noncomputable def tab : Tab Tryz.prog:=⟨getT tbl,getT_ok tbl_ok,fun t i h=>fields_ok (getT_mem uK t i h)⟩
theorem mixed : Tryz.prog.follows .mixedOrders=true:=uK
theorem goes8 : Goes Tryz.prog 8:=cP Tryz.func8 uK uK
theorem goes10 : Goes Tryz.prog 10:=cP Tryz.func10 uK uK
theorem goes12 : Goes Tryz.prog 12:=cP Tryz.func12 uK uK
theorem goes14 : Goes Tryz.prog 14:=cP Tryz.func14 uK uK
theorem goes15 : Goes Tryz.prog 15:=cP Tryz.func15 uK uK
theorem goes16 : Goes Tryz.prog 16:=cP Tryz.func16 uK uK
theorem goes18 : Goes Tryz.prog 18:=cP Tryz.func18 uK uK
theorem goes19 : Goes Tryz.prog 19:=cP Tryz.func19 uK uK
theorem goes20 : Goes Tryz.prog 20:=cP Tryz.func20 uK uK
theorem goes25 : Goes Tryz.prog 25:=cP Tryz.func25 uK uK
theorem goes28 : Goes Tryz.prog 28:=cP Tryz.func28 uK uK
theorem goes29 : Goes Tryz.prog 29:=cP Tryz.func29 uK uK
theorem goes30 : Goes Tryz.prog 30:=cP Tryz.func30 uK uK
theorem goes31 : Goes Tryz.prog 31:=cP Tryz.func31 uK uK
theorem goes32 : Goes Tryz.prog 32:=cP Tryz.func32 uK uK
theorem goes33 : Goes Tryz.prog 33:=cP Tryz.func33 uK uK
theorem goes34 : Goes Tryz.prog 34:=cP Tryz.func34 uK uK
theorem goes35 : Goes Tryz.prog 35:=cP Tryz.func35 uK uK
theorem goes36 : Goes Tryz.prog 36:=cP Tryz.func36 uK uK
theorem goes37 : Goes Tryz.prog 37:=cP Tryz.func37 uK uK
theorem goes38 : Goes Tryz.prog 38:=cP Tryz.func38 uK uK
theorem goes39 : Goes Tryz.prog 39:=cP Tryz.func39 uK uK
theorem goes40 : Goes Tryz.prog 40:=cP Tryz.func40 uK uK
theorem goes41 : Goes Tryz.prog 41:=cP Tryz.func41 uK uK
theorem goes53 : Goes Tryz.prog 53:=cP Tryz.func53 uK uK
theorem goes55 : Goes Tryz.prog 55:=cP Tryz.func55 uK uK
theorem goes56 : Goes Tryz.prog 56:=cP Tryz.func56 uK uK
theorem goes57 : Goes Tryz.prog 57:=cP Tryz.func57 uK uK
theorem goes58 : Goes Tryz.prog 58:=cP Tryz.func58 uK uK
theorem goes59 : Goes Tryz.prog 59:=cP Tryz.func59 uK uK
theorem goes60 : Goes Tryz.prog 60:=cP Tryz.func60 uK uK
theorem goes61 : Goes Tryz.prog 61:=cP Tryz.func61 uK uK
theorem goes62 : Goes Tryz.prog 62:=cP Tryz.func62 uK uK
theorem goes63 : Goes Tryz.prog 63:=cP Tryz.func63 uK uK
theorem goes64 : Goes Tryz.prog 64:=cP Tryz.func64 uK uK
theorem goes65 : Goes Tryz.prog 65:=cP Tryz.func65 uK uK
theorem goes66 : Goes Tryz.prog 66:=cP Tryz.func66 uK uK
theorem goes67 : Goes Tryz.prog 67:=cP Tryz.func67 uK uK
theorem goes68 : Goes Tryz.prog 68:=cP Tryz.func68 uK uK
theorem goes69 : Goes Tryz.prog 69:=cP Tryz.func69 uK uK
theorem goes70 : Goes Tryz.prog 70:=cP Tryz.func70 uK uK
theorem goes71 : Goes Tryz.prog 71:=cP Tryz.func71 uK uK
theorem goes72 : Goes Tryz.prog 72:=cP Tryz.func72 uK uK
theorem goes73 : Goes Tryz.prog 73:=cP Tryz.func73 uK uK
theorem goes74 : Goes Tryz.prog 74:=cP Tryz.func74 uK uK
theorem goes75 : Goes Tryz.prog 75:=cP Tryz.func75 uK uK
theorem goes76 : Goes Tryz.prog 76:=cP Tryz.func76 uK uK
theorem goes77 : Goes Tryz.prog 77:=cP Tryz.func77 uK uK
theorem goes78 : Goes Tryz.prog 78:=cP Tryz.func78 uK uK
theorem goes79 : Goes Tryz.prog 79:=cP Tryz.func79 uK uK
theorem goes80 : Goes Tryz.prog 80:=cP Tryz.func80 uK uK
theorem goes81 : Goes Tryz.prog 81:=cP Tryz.func81 uK uK
theorem goes82 : Goes Tryz.prog 82:=cP Tryz.func82 uK uK
theorem goes83 : Goes Tryz.prog 83:=cP Tryz.func83 uK uK
theorem goes84 : Goes Tryz.prog 84:=cP Tryz.func84 uK uK
theorem goes85 : Goes Tryz.prog 85:=cP Tryz.func85 uK uK
theorem goes86 : Goes Tryz.prog 86:=cP Tryz.func86 uK uK
theorem goes87 : Goes Tryz.prog 87:=cP Tryz.func87 uK uK
theorem goes88 : Goes Tryz.prog 88:=cP Tryz.func88 uK uK
theorem goes89 : Goes Tryz.prog 89:=cP Tryz.func89 uK uK
theorem goes98 : Goes Tryz.prog 98:=cP Tryz.func98 uK uK
theorem goes99 : Goes Tryz.prog 99:=cP Tryz.func99 uK uK
theorem goes100 : Goes Tryz.prog 100:=cP Tryz.func100 uK uK
theorem goes101 : Goes Tryz.prog 101:=cP Tryz.func101 uK uK
theorem goes102 : Goes Tryz.prog 102:=cP Tryz.func102 uK uK
theorem goes103 : Goes Tryz.prog 103:=cP Tryz.func103 uK uK
theorem goes104 : Goes Tryz.prog 104:=cP Tryz.func104 uK uK
theorem goes105 : Goes Tryz.prog 105:=cP Tryz.func105 uK uK
theorem goes106 : Goes Tryz.prog 106:=cP Tryz.func106 uK uK
theorem goes107 : Goes Tryz.prog 107:=cP Tryz.func107 uK uK
theorem goes108 : Goes Tryz.prog 108:=cP Tryz.func108 uK uK
theorem goes109 : Goes Tryz.prog 109:=cP Tryz.func109 uK uK
theorem goes110 : Goes Tryz.prog 110:=cP Tryz.func110 uK uK
theorem goes111 : Goes Tryz.prog 111:=cP Tryz.func111 uK uK
theorem goes112 : Goes Tryz.prog 112:=cP Tryz.func112 uK uK
theorem goes113 : Goes Tryz.prog 113:=cP Tryz.func113 uK uK
theorem goes114 : Goes Tryz.prog 114:=cP Tryz.func114 uK uK
theorem goes115 : Goes Tryz.prog 115:=cP Tryz.func115 uK uK
theorem goes116 : Goes Tryz.prog 116:=cP Tryz.func116 uK uK
theorem goes117 : Goes Tryz.prog 117:=cP Tryz.func117 uK uK
theorem goes118 : Goes Tryz.prog 118:=cP Tryz.func118 uK uK
theorem goes119 : Goes Tryz.prog 119:=cP Tryz.func119 uK uK
theorem goes120 : Goes Tryz.prog 120:=cP Tryz.func120 uK uK
theorem goes121 : Goes Tryz.prog 121:=cP Tryz.func121 uK uK
theorem goes122 : Goes Tryz.prog 122:=cP Tryz.func122 uK uK
theorem goes123 : Goes Tryz.prog 123:=cP Tryz.func123 uK uK
theorem goes124 : Goes Tryz.prog 124:=cP Tryz.func124 uK uK
theorem goes125 : Goes Tryz.prog 125:=cP Tryz.func125 uK uK
theorem goes126 : Goes Tryz.prog 126:=cP Tryz.func126 uK uK
theorem goes127 : Goes Tryz.prog 127:=cP Tryz.func127 uK uK
theorem goes128 : Goes Tryz.prog 128:=cP Tryz.func128 uK uK
theorem goes129 : Goes Tryz.prog 129:=cP Tryz.func129 uK uK
theorem goes130 : Goes Tryz.prog 130:=cP Tryz.func130 uK uK
theorem goes131 : Goes Tryz.prog 131:=cP Tryz.func131 uK uK
theorem goes132 : Goes Tryz.prog 132:=cP Tryz.func132 uK uK
theorem goes133 : Goes Tryz.prog 133:=cP Tryz.func133 uK uK
theorem goes134 : Goes Tryz.prog 134:=cP Tryz.func134 uK uK
theorem goes138 : Goes Tryz.prog 138:=cP Tryz.func138 uK uK
theorem goes139 : Goes Tryz.prog 139:=cP Tryz.func139 uK uK
theorem goes140 : Goes Tryz.prog 140:=cP Tryz.func140 uK uK
theorem goes141 : Goes Tryz.prog 141:=cP Tryz.func141 uK uK
theorem goes142 : Goes Tryz.prog 142:=cP Tryz.func142 uK uK
theorem goes143 : Goes Tryz.prog 143:=cP Tryz.func143 uK uK
theorem goes144 : Goes Tryz.prog 144:=cP Tryz.func144 uK uK
theorem goes145 : Goes Tryz.prog 145:=cP Tryz.func145 uK uK
theorem goes146 : Goes Tryz.prog 146:=cP Tryz.func146 uK uK
theorem goes147 : Goes Tryz.prog 147:=cP Tryz.func147 uK uK
theorem goes148 : Goes Tryz.prog 148:=cP Tryz.func148 uK uK
theorem goes149 : Goes Tryz.prog 149:=cP Tryz.func149 uK uK
theorem goes150 : Goes Tryz.prog 150:=cP Tryz.func150 uK uK
theorem goes151 : Goes Tryz.prog 151:=cP Tryz.func151 uK uK
theorem goes152 : Goes Tryz.prog 152:=cP Tryz.func152 uK uK
theorem goes153 : Goes Tryz.prog 153:=cP Tryz.func153 uK uK
theorem goes154 : Goes Tryz.prog 154:=cP Tryz.func154 uK uK
theorem goes155 : Goes Tryz.prog 155:=cP Tryz.func155 uK uK
theorem goes156 : Goes Tryz.prog 156:=cP Tryz.func156 uK uK
theorem goes157 : Goes Tryz.prog 157:=cP Tryz.func157 uK uK
theorem goes158 : Goes Tryz.prog 158:=cP Tryz.func158 uK uK
theorem goes159 : Goes Tryz.prog 159:=cP Tryz.func159 uK uK
theorem goes160 : Goes Tryz.prog 160:=cP Tryz.func160 uK uK
theorem goes161 : Goes Tryz.prog 161:=cP Tryz.func161 uK uK
theorem goes162 : Goes Tryz.prog 162:=cP Tryz.func162 uK uK
theorem goes163 : Goes Tryz.prog 163:=cP Tryz.func163 uK uK
theorem goes164 : Goes Tryz.prog 164:=cP Tryz.func164 uK uK
theorem goes165 : Goes Tryz.prog 165:=cP Tryz.func165 uK uK
theorem goes166 : Goes Tryz.prog 166:=cP Tryz.func166 uK uK
theorem goes167 : Goes Tryz.prog 167:=cP Tryz.func167 uK uK
theorem goes168 : Goes Tryz.prog 168:=cP Tryz.func168 uK uK
theorem goes169 : Goes Tryz.prog 169:=cP Tryz.func169 uK uK
theorem goes172 : Goes Tryz.prog 172:=cP Tryz.func172 uK uK
theorem goes173 : Goes Tryz.prog 173:=cP Tryz.func173 uK uK
theorem goes174 : Goes Tryz.prog 174:=cP Tryz.func174 uK uK
theorem goes177 : Goes Tryz.prog 177:=cP Tryz.func177 uK uK
theorem goes178 : Goes Tryz.prog 178:=cP Tryz.func178 uK uK
theorem goes179 : Goes Tryz.prog 179:=cP Tryz.func179 uK uK
theorem goes180 : Goes Tryz.prog 180:=cP Tryz.func180 uK uK
theorem goes181 : Goes Tryz.prog 181:=cP Tryz.func181 uK uK
theorem goes182 : Goes Tryz.prog 182:=cP Tryz.func182 uK uK
theorem goes183 : Goes Tryz.prog 183:=cP Tryz.func183 uK uK
theorem goes184 : Goes Tryz.prog 184:=cP Tryz.func184 uK uK
theorem goes185 : Goes Tryz.prog 185:=cP Tryz.func185 uK uK
theorem goes186 : Goes Tryz.prog 186:=cP Tryz.func186 uK uK
theorem goes187 : Goes Tryz.prog 187:=cP Tryz.func187 uK uK
theorem goes188 : Goes Tryz.prog 188:=cP Tryz.func188 uK uK
theorem goes189 : Goes Tryz.prog 189:=cP Tryz.func189 uK uK
theorem goes190 : Goes Tryz.prog 190:=cP Tryz.func190 uK uK
theorem goes192 : Goes Tryz.prog 192:=cP Tryz.func192 uK uK
theorem goes193 : Goes Tryz.prog 193:=cP Tryz.func193 uK uK
theorem goes194 : Goes Tryz.prog 194:=cP Tryz.func194 uK uK
theorem goes195 : Goes Tryz.prog 195:=cP Tryz.func195 uK uK
theorem goes197 : Goes Tryz.prog 197:=cP Tryz.func197 uK uK
theorem goes199 : Goes Tryz.prog 199:=cP Tryz.func199 uK uK
theorem goes200 : Goes Tryz.prog 200:=cP Tryz.func200 uK uK
theorem goes201 : Goes Tryz.prog 201:=cP Tryz.func201 uK uK
theorem goes202 : Goes Tryz.prog 202:=cP Tryz.func202 uK uK
theorem goes203 : Goes Tryz.prog 203:=cP Tryz.func203 uK uK
theorem goes204 : Goes Tryz.prog 204:=cP Tryz.func204 uK uK
theorem goes205 : Goes Tryz.prog 205:=cP Tryz.func205 uK uK
theorem goes206 : Goes Tryz.prog 206:=cP Tryz.func206 uK uK
theorem goes207 : Goes Tryz.prog 207:=cP Tryz.func207 uK uK
theorem goes208 : Goes Tryz.prog 208:=cP Tryz.func208 uK uK
theorem goes209 : Goes Tryz.prog 209:=cP Tryz.func209 uK uK
theorem goes210 : Goes Tryz.prog 210:=cP Tryz.func210 uK uK
theorem goes211 : Goes Tryz.prog 211:=cP Tryz.func211 uK uK
theorem goes212 : Goes Tryz.prog 212:=cP Tryz.func212 uK uK
theorem goes214 : Goes Tryz.prog 214:=cP Tryz.func214 uK uK
theorem goes215 : Goes Tryz.prog 215:=cP Tryz.func215 uK uK
theorem goes216 : Goes Tryz.prog 216:=cP Tryz.func216 uK uK
theorem goes217 : Goes Tryz.prog 217:=cP Tryz.func217 uK uK
theorem goes218 : Goes Tryz.prog 218:=cP Tryz.func218 uK uK
theorem goes220 : Goes Tryz.prog 220:=cP Tryz.func220 uK uK
theorem goes221 : Goes Tryz.prog 221:=cP Tryz.func221 uK uK
theorem goes222 : Goes Tryz.prog 222:=cP Tryz.func222 uK uK
theorem goes227 : Goes Tryz.prog 227:=cP Tryz.func227 uK uK
theorem goes233 : Goes Tryz.prog 233:=cP Tryz.func233 uK uK
theorem goes234 : Goes Tryz.prog 234:=cP Tryz.func234 uK uK
theorem goes235 : Goes Tryz.prog 235:=cP Tryz.func235 uK uK
theorem goes236 : Goes Tryz.prog 236:=cP Tryz.func236 uK uK
theorem goes237 : Goes Tryz.prog 237:=cP Tryz.func237 uK uK
theorem goes238 : Goes Tryz.prog 238:=cP Tryz.func238 uK uK
theorem goes241 : Goes Tryz.prog 241:=cP Tryz.func241 uK uK
theorem goes242 : Goes Tryz.prog 242:=cP Tryz.func242 uK uK
end Go.Sep
namespace Go
abbrev dc := @Sep.mixed
abbrev de := @Sep.goes78
end Go
namespace Go.Sep
open Go.Proofs
attribute [local irreducible] TC TO OT TCallX TCall DO DOt thenQ blockQ retQ At
def ltr (b:UInt8):Bool:=decide (97≤b.toNat∧b.toNat≤122)||decide (65≤b.toNat∧b.toNat≤90)||decide (b.toNat=95)
def dgt (b:UInt8):Bool:=decide (48≤b.toNat∧b.toNat≤57)
def lod (b:UInt8):Bool:=ltr b||dgt b
theorem low_all : ∀ n:Fin 256,(97≤n.val ||| 32∧n.val ||| 32≤122)↔((97≤n.val∧n.val≤122)∨(65≤n.val∧n.val≤90)):=by decide +kernel
theorem low (b:UInt8):(97≤b.toNat ||| 32∧b.toNat ||| 32≤122)↔((97≤b.toNat∧b.toNat≤122)∨(65≤b.toNat∧b.toNat≤90)):=low_all ⟨b.toNat,b.toNat_lt⟩
section
variable (m:Mem) (L:List Item) (b:UInt8)
theorem letter_law : TCall Tryz.prog 100 ⟨[byteV b]⟩ m L (Ret (.bool (ltr b)) m L):=by
 unfold TCall;refine cJ Tryz.func100 rfl 15 rfl ?_;have hb:b.toNat<256:=b.toNat_lt;have hlow:=low b;refine uA ?_;refine qs rfl (OT.orU8 (b:=32) rfl rfl rfl rfl rfl hb ov ?_);refine uA ?_;refine az (fun h1=>?_) (fun h1=>?_)
 ·refine uA ?_;refine qs rfl (OT.orU8 (b:=32) rfl rfl rfl rfl rfl hb ov ?_);refine uA ?_;refine az (fun h2=>?_) (fun h2=>?_)
  ·refine uA ?_;refine kh ?_;refine mT ?_;have:ltr b=true:=by
    have:=hlow.1 ⟨by omega,by omega⟩;unfold ltr;rcases this with h | h<;>simp[h]
   simp[this]
  ·exact fA
 ·exact fA
theorem digit_law : TCall Tryz.prog 103 ⟨[byteV b]⟩ m L (Ret (.bool (dgt b)) m L):=by
 unfold TCall;refine ag Tryz.func103 9 ?_;refine az (fun h1=>?_) (fun h1=>?_)
 ·refine uA ?_;refine kh ?_;refine mT ?_;unfold dgt
  congr 1
  apply propext;omega
 ·refine uA ?_;refine kh ?_;refine mT ?_;unfold dgt
  symm
  apply bU;omega
end
def IsClass (m:Mem) (L:List Item) (fn:FuncId) (cap:List Value) (p:UInt8→Bool):Prop:=Goes Tryz.prog fn∧∀ b:UInt8,TCall Tryz.prog fn ⟨byteV b::cap⟩ m L (Ret (.bool (p b)) m L)
theorem either_cl (m:Mem) (L:List Item) (b:UInt8) (b1 b2:Nat) (h1:At m b1 0 [.func (.func 100) ⟨[]⟩ ⟨[]⟩]) (h2:At m b2 0 [.func (.func 103) ⟨[]⟩ ⟨[]⟩]) :
  TCall Tryz.prog 140 ⟨[byteV b,.pointer (some ⟨b1,0,none⟩),.pointer (some ⟨b2,0,none⟩)]⟩ m L (Ret (.bool (lod b)) m L):=by
 unfold TCall;refine ag Tryz.func140 13 ?_;refine an tab h1 ?_;refine au goes100 (letter_law m L b) ?_;refine aF (fun h3=>?_) (fun h3=>?_)
 ·refine uA ?_;exact j5
 ·refine uA ?_;refine an tab h2 ?_;refine au goes103 (digit_law m L b) ?_;exact j5
theorem either_law (m:Mem) (L:List Item):TCall Tryz.prog 102 ⟨[.func (.func 100) ⟨[]⟩ ⟨[]⟩,.func (.func 103) ⟨[]⟩ ⟨[]⟩]⟩ m L
  (Made m L fun r m'=>∃ b1 b2,r = .func (.func 140) ⟨[]⟩ ⟨[.pointer (some ⟨b1,0,none⟩),.pointer (some ⟨b2,0,none⟩)]⟩∧At m' b1 0 [.func (.func 100) ⟨[]⟩ ⟨[]⟩]∧At m' b2 0 [.func (.func 103) ⟨[]⟩ ⟨[]⟩]):=by
 unfold TCall;refine cJ Tryz.func102 rfl 6 rfl ?_;refine uB ?_;refine oB (fun b1=>?_);refine uB ?_;refine oB (fun b2=>?_);refine cV fun m1 hm1 hA1=>?_;refine cV fun m2 hm2 hA2=>?_;refine uA ?_;refine ah ⟨cC hm1 hm2,rfl,b1,b2,rfl,hA2,hA1.mono hm2⟩
def spanOf (p:UInt8→Bool) (s:Str):Nat:=(s.takeWhile p).length
theorem span_law (m:Mem) (L:List Item) (s:Str) (hs:s.length≤140737488355328) (p:UInt8→Bool) (fn:FuncId) (cap:List Value) (hc:IsClass m L fn cap p) :
  TCall Tryz.prog 101 ⟨[strV s,.func (.func fn) ⟨[]⟩ ⟨cap⟩]⟩ m L (Ret (.int .i64 (spanOf p s)) m L):=by
 unfold TCall;refine ag Tryz.func101 20 ?_;refine cG (ι:=Nat) [0,1] rfl (fun k=>[(5,.int .i64 (k:Int))]) (fun _=>m) (fun _=>L) (fun k=>k≤s.length∧spanOf p s=k+spanOf p (s.drop k)) (fun k=>s.length-k) 0 uH rfl uS ⟨cm _,by simp⟩ ?_;rintro k ⟨hk,hI⟩;refine uA ?_;refine az (fun h1=>?_) (fun h1=>?_)
 ·refine uA ?_;have hlt:k<s.length:=ou;have hx:s[k]? = some s[k]:=oG;refine qs rfl (OT.sidx tab k rfl rfl rfl rfl rfl rfl rfl hx ?_);refine uA ?_;refine qs rfl (cQ (all:=byteV s[k]::cap) rfl rfl rfl rfl rfl pc hc.1 ((hc.2 s[k]).x ?_));refine lz ?_;refine uA ?_;refine aQ (fun h2=>?_) (fun h2=>?_)
  ·refine uA ?_;refine kq ?_;refine⟨k+1,uH,uH,rfl,rfl,uS,⟨by omega,?_⟩,by omega⟩;rw[hI,bV hlt,spanOf,spanOf,List.takeWhile_cons_of_pos h2];simp;omega
  ·refine uA ?_;refine kh ?_;rw[hI,bV hlt,spanOf,List.takeWhile_cons_of_neg (by simp[h2])];simp
 ·refine uA ?_;refine kh ?_;rw[hI,cj ou];simp[spanOf]
end Go.Sep
namespace Go.Sep
open Go.Proofs
attribute [local irreducible] TC TO OT TCallX TCall DO DOt thenQ blockQ retQ At
def idx {α:Type} [DecidableEq α]:List α→α→Nat→Int
 | [],_,_=>-1
 | x::xs,v,k=>if v=x then (k:Int)else idx xs v (k+1)
theorem idx_not {α:Type} [DecidableEq α]:∀(l:List α) (v:α) (k:Nat),v∉l→idx l v k = -1
 | [],_,_,_=>rfl
 | x::xs,v,k,h=>by
  rw[idx,if_neg (fun e=>h (by simp[e])),idx_not xs v (k+1) (fun e=>h (by simp[e]))]
theorem idx_mem {α:Type} [DecidableEq α]:∀(l:List α) (v:α) (k:Nat),v∈l→∃ j,l[j]? = some v∧idx l v k=((k+j:Nat):Int)
 | [],_,_,h=>by cases h
 | x::xs,v,k,h=>by
  by_cases e:v=x
  ·exact⟨0,by simp[e],by rw[idx,if_pos e];rfl⟩
  ·have h':v∈xs:=by
    rcases List.mem_cons.1 h with h | h
    ·exact absurd h e
    ·exact h
   obtain⟨j,h1,h2⟩:=idx_mem xs v (k+1) h';exact⟨j+1,by simpa using h1,by rw[idx,if_neg e,h2];congr 1;omega⟩
theorem idx_ge {α:Type} [DecidableEq α] (l:List α) (v:α):decide (0≤idx l v 0)=decide (v∈l):=by
 by_cases h:v∈l
 ·obtain⟨j,_,h2⟩:=idx_mem l v 0 h;simp[h,h2]
 ·simp[h,idx_not l v 0 h]
def idxP {α:Type}:List α→(α→Bool)→Nat→Int
 | [],_,_=>-1
 | x::xs,p,k=>if p x=true then (k:Int)else idxP xs p (k+1)
theorem idxP_ge0 {α:Type}:∀(l:List α) (p:α→Bool) (k:Nat),decide (0≤idxP l p k)=l.any p
 | [],p,k=>by simp[idxP]
 | x::xs,p,k=>by
  simp only[idxP,List.any_cons];split
  ·rename_i h;simp[h]
  ·rename_i h;rw[idxP_ge0 xs p (k+1)];simp[h]
theorem idxP_ge {α:Type} (l:List α) (p:α→Bool):decide (0≤idxP l p 0)=l.any p:=idxP_ge0 l p 0
theorem index_str (m:Mem) (L:List Item) (s:Sl) (l:List Str) (v:Str) (hs:SlRep rStr m s l) :
  TCall Tryz.prog 116 ⟨[s.v,strV v]⟩ m L (Ret (.int .i64 (idx l v 0)) m L):=by
 unfold TCall;refine ag Tryz.func116 19 ?_;refine cG (ι:=Nat) [0,1,7] rfl (fun k=>[(8,.int .i64 (k:Int))]) (fun _=>m) (fun _=>L) (fun k=>k≤l.length∧idx l v 0=idx (l.drop k) v k) (fun k=>l.length-k) 0 uH rfl uS ⟨cm _,rfl⟩ ?_;rintro k ⟨hk,hI⟩;have hl:=hs.len;have hsm:=hs.small rfl;refine uA ?_;refine ap (fun h=>?_) (fun h=>?_)
 ·have hlt:k<l.length:=ou;have hx:l[k]? = some l[k]:=oG;refine uA ?_;refine al tab rStr k hs uH oy rfl hx ?_;rintro b i hd rfl hA
  (first | refine qs rfl (OT.loadA tab hA rfl rfl rfl rfl rfl ?_) | refine oL tab hA ?_)
  refine uA ?_;refine ap (fun h=>?_) (fun h=>?_)
  ·refine uA ?_;refine kh ?_;rw[hI,bV hlt,idx,if_pos h]
  ·refine uA ?_;refine kq ?_;exact⟨k+1,uH,uH,rfl,rfl,uS,⟨by omega,by rw[hI,bV hlt,idx,if_neg h]⟩,by omega⟩
 ·exact fO
theorem contains_str (m:Mem) (L:List Item) (s:Sl) (l:List Str) (v:Str) (hs:SlRep rStr m s l) :
  TCall Tryz.prog 104 ⟨[s.v,strV v]⟩ m L (Ret (.bool (decide (v∈l))) m L):=by
 unfold TCall;refine ag Tryz.func104 9 ?_;refine au goes116 (index_str m L s l v hs) ?_;refine kh ?_;exact congrArg Value.bool (by rw[idx_ge];try congr)
end Go.Sep
namespace Go.Sep
open Go.Proofs
attribute [local irreducible] TC TO OT TCallX TCall DO DOt thenQ blockQ retQ At
def wordL : List Str:=[[116,121,112,101],[115,116,114,117,99,116],[105,110,116,101,114,102,97,99,101],[102,117,110,99],[118,97,114],[105,102],[101,108,115,101],[102,111,114],[114,101,116,117,114,110],[98,114,101,97,107],[99,111,110,116,105,110,117,101],[116,114,117,101],[102,97,108,115,101],[110,105,108]]
def isName (s:Str):Bool:=decide (0<s.length)&&(decide (s.length≤64)&&(!(s.head?.any dgt)&&(s.all lod&&!decide (s∈wordL))))
theorem all_refl2 {m:Mem}:∀ l:List Str,All2 (rStr.rep m) l l
 | []=>trivial
 | _::l=>⟨rfl,all_refl2 l⟩
theorem words_rep {m:Mem} {b:Nat} (h:At m b 0 (encs rStr wordL)):SlRep rStr m ⟨some ⟨b,0,none⟩,14,14⟩ wordL :=
 ⟨rfl,bI _,(by show 14*16≤_;decide),wordL,all_refl2 wordL,.inr ⟨b,0,rfl,h⟩⟩
theorem words_law (m:Mem) (L:List Item):TCall Tryz.prog 105 ⟨[]⟩ m L (Made m L fun r m'=>∃ s:Sl,r=s.v∧SlRep rStr m' s wordL):=by
 unfold TCall;refine cJ Tryz.func105 rfl 2 rfl ?_;refine uB ?_;refine qs rfl (OT.lit tab rfl rfl rfl rfl (fun b=>?_));refine cV fun m1 hm1 hA1=>?_;refine uA ?_;exact cH rfl uS ⟨hm1,rfl,_,rfl,words_rep hA1⟩
theorem span_full (p:UInt8→Bool) (s:Str):spanOf p s=s.length↔s.all p=true:=by
 unfold spanOf
 induction s with
 | nil=>simp
 | cons x xs ih =>
  by_cases h:p x=true
  ·rw[List.takeWhile_cons_of_pos h];simp[h,ih]
  ·rw[List.takeWhile_cons_of_neg h];simp[h]
theorem dgt_ltr (b:UInt8):ltr b=(lod b&&!dgt b):=by
 have hb:b.toNat<256:=b.toNat_lt;unfold lod ltr dgt;rw[Bool.eq_iff_iff];simp only[bH,bu,bE,Bool.not_eq_true',decide_eq_false_iff_not];omega
theorem isName_eq {s:Str} (h:0<s.length):isName s=(decide (s.length≤64)&&(ltr s[0]&&(s.all lod&&!decide (s∈wordL)))):=by
 cases s with
 | nil=>cases h
 | cons x xs =>
  unfold isName;rw[bS h,bR]
  congr 1
  simp only[List.head?_cons,Option.any_some,List.getElem_cons_zero,dgt_ltr,cq];cases dgt x<;>cases lod x<;>simp
theorem name_law (m:Mem) (L:List Item) (s:Str) (hs:s.length≤140737488355328):TCall Tryz.prog 84 ⟨[strV s]⟩ m L (Ret (.bool (isName s)) m L):=by
 refine mR ?_;unfold TCall;refine ag Tryz.func84 29 ?_;refine cK rfl rfl (fun h1=>?_) (fun h1=>?_)
 ·refine uA ?_;refine az (fun h2=>?_) (fun h2=>?_)
  ·refine uA ?_;have hlt:0<s.length:=List.length_pos_iff.2 h1;have hx:s[0]? = some s[0]:=oG;refine lD ?_;refine uA ?_;refine au goes100 (letter_law m L s[0]) ?_;refine aF (fun h3=>?_) (fun h3=>?_)
   ·refine uA ?_;refine oC goes102 ((either_law m L).x ?_);rintro _ m1 _ ⟨hm1,rfl,b1,b2,rfl,hA1,hA2⟩;refine uA ?_;refine au goes101 (span_law m1 L s hs lod 140 _ ⟨goes140,fun b=>either_cl m1 L b b1 b2 hA1 hA2⟩) ?_;refine az (fun h4=>?_) (fun h4=>?_)
    ·refine uA ?_;refine oC goes105 ((words_law m1 L).x ?_);rintro _ m2 _ ⟨hm2,rfl,w,rfl,hw⟩;refine uA ?_;refine au goes104 (contains_str m2 L w wordL s hw) ?_;refine ah ⟨cC hm1 hm2,rfl,?_⟩;rw[isName_eq hlt,bS ou,h3,(span_full lod s).1 ou];rfl
    ·refine uA ?_;refine lk ?_;have h5:s.all lod=false:=Bool.eq_false_iff.2 (fun h=>h4 (by have:=(span_full lod s).2 h;omega));rw[isName_eq hlt,bS ou,h3,h5];rfl
   ·refine uA ?_;refine kI ?_;rw[isName_eq hlt,bS ou,h3];rfl
  ·refine uA ?_;refine kI ?_;have hlt:0<s.length:=List.length_pos_iff.2 h1;rw[isName_eq hlt,bU ou];rfl
 ·refine uA ?_;refine kI ?_;rw[h1];rfl
end Go.Sep
