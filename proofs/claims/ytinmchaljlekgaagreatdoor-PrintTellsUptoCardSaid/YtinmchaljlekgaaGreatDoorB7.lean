/- SepX -/
import Derived.Lib.UnsafeStr
import Derived.Test.YtinmchaljlekgaaGreatDoorProg
import Derived.KernelRfl
import Derived.Test.YtinmchaljlekgaaGreatDoorB6
set_option linter.unusedVariables false
set_option linter.unusedSimpArgs false
set_option maxHeartbeats 6400000
namespace Go.Sep
section
variable {P : Program} {N : Nat} {ρ : Env} {D : List Deferred} {m : Mem} {L : List Item} {Q : EPost} {full : List Oper} {o : Oper} {K : Env→Mem→List Item→Prop}
theorem run_appendT (T : Tab P) {t t2 e e2 ty : TypeId} {ei ei2 : TI} {w : World} {s s2 : Sl} {xs news : List Value} {i : Nat} (he : T.elem t=some (e,ei)) (he2 : T.elem t2=some (e2,ei2))
  (hw : St m w L) (hi : L[i]? = some (tok s ei.size)) (ho : Own s) (hx : Src w s ei.size xs) (hy : Src w s2 ei.size news) (hn : s2.a=none→s2.len=0) (h1 : allOne news=true) (hzs : ei.zero.cells.size=ei.size) (hcap : s.len ≤ s.cap)
  (hb : 0 < ei.bytes) (hfit : (s.len + s2.len) * ei.bytes ≤ 140737488355328) (hAt : ∀ b o,s.a=some ⟨b,o,none⟩ → At m b o xs) (hTy : ∀ b o,s.a=some ⟨b,o,none⟩ → o=0∧m.t b=some (e,s.cap * ei.size)∧m.pin.heap.size ≤ b) :
  ∃ s' m' w',(Builtin.append_ #[t,t2] ty #[s.v,s2.v]).run P w = .ok s'.v w' ∧ m ≤ m' ∧ St m' w' (L.set i (tok s' ei.size))∧Own s' ∧ s'.len=s.len + s2.len∧s'.len ≤ s'.cap ∧
   ((s'.a=none∧xs++news=[]∧s'.cap=0) ∨ ∃ b o,s'.a=some ⟨b,o,none⟩ ∧ At m' b o (xs++news))∧(∀ b o,s'.a=some ⟨b,o,none⟩ → o=0∧m'.t b=some (e,s'.cap * ei.size)∧m'.pin.heap.size ≤ b):=by
 obtain ⟨ti,h4,h5,h6⟩:=elem_get he
 obtain ⟨ti2,k4,k5,k6⟩:=elem_get he2
 obtain ⟨_,_,hu,_⟩:=T.ok t ti h4
 rw [h5] at hu
 obtain ⟨_,_,hu2,_⟩:=T.ok t2 ti2 k4
 rw [k5] at hu2
 obtain ⟨info,q1,q2,q3,q4,q5⟩:=T.ok e ei h6
 have hnew:=run_first (P:=P) hy
 have hbound : s.len + s2.len ≤ 140737488355328:=aw (Nat.le_mul_of_pos_right _ hb) hfit
 by_cases hroom : s.len + s2.len ≤ s.cap
 ·
  rcases ho with hnil | ⟨b,o,ha⟩
  ·subst hnil
   simp only at hroom
   have hz : s2.len=0:=by omega
   have hxs : xs=[]:=List.eq_nil_of_length_eq_zero (by have:=hx.1;simpa using this)
   have hns : news=[]:=List.eq_nil_of_length_eq_zero (by have:=hy.1;rw [hz] at this;simpa using this)
   subst hxs;subst hns
   refine ⟨⟨none,0,0⟩,m,w, ?_,m.le_refl,by rw [set_same hi];exact hw, .inl rfl,by simp [hz],by simp, .inl ⟨rfl,rfl,rfl⟩,fun b o q=>by cases q⟩
   have hnew' : (Builtin.firstCells ei.size 0 s2.v).run P w = .ok (⟨[]⟩ : Array Value) w:=by rw [← hz];exact hnew
   simp only [Sl.v] at hnew'
   simp [Builtin.append_,run_underlying hu,run_underlying hu2,sizeOf,typeInfo,q1,q3,Builtin.lenOf,hz,hnew']
  ·obtain ⟨a,n,c⟩:=s
   simp only at ha hroom hcap hbound hfit hx hAt
   subst ha
   have hst:=(hw.at_ hi)
   simp only [tok] at hst
   obtain ⟨vs,hvl,hst⟩:=hst.ofRoom
   have hnl : news.length ≤ vs.length:=by
    rw [hvl,hy.1];exact Nat.mul_le_mul_right _ (by omega)
   obtain ⟨w',hr,hst'⟩:=run_storeCells (P:=P) news vs 0 0 w hst h1 (by omega)
   rw [putAt_zero hnl] at hst'
   have hst2:=hst'.split
   obtain ⟨g1,g2,g3⟩:=hst2.freeze
   have g4:=g3.toRoom
   refine ⟨⟨some ⟨b,o,none⟩,n + s2.len,c⟩,m.addCells b (o + n * ei.size) news,w', ?_,g1, ?_, .inr ⟨b,o,rfl⟩,rfl,hroom, .inr ⟨b,o,rfl, ?_⟩,fun b' o' q=>by cases q;exact hTy b o rfl⟩
   ·have hr' : (storeCells ((⟨b,o,none⟩ : Addr).add (n * ei.size)) news).run P w = .ok () w':=by rw [addr_add];exact hr
    simp only [Sl.v] at hnew
    simp [Builtin.append_,run_underlying hu,run_underlying hu2,sizeOf,typeInfo,q1,q3,Builtin.lenOf,hroom,hnew,hr']
   ·have e1 : Item.room b (o + n * ei.size + news.length) (List.drop news.length vs).length=tok ⟨some ⟨b,o,none⟩,n + s2.len,c⟩ ei.size:=by
     simp only [tok,aM,hvl,hy.1]
     congr 1
     ·rw [Nat.add_mul];omega
     ·rw [← Nat.sub_mul];congr 1;omega
    rw [← e1]
    exact St.back hi g4
   ·refine ((hAt b o rfl).mono g1).append ?_
    rw [hx.1]
    exact g2
 ·
  have hlt : s.cap < s.len + s2.len:=by omega
  have h48 : ¬ (Builtin.nextslicecap (s.len + s2.len) s.cap * ei.bytes > 281474976710656):=by
   have:=growslice_fits hlt hfit
   omega
  have hold:=run_first (P:=P) (hx.drew)
  have hnew':=run_first (P:=P) (hy.drew)
  obtain ⟨nc,hnc,hge⟩ : ∃ nc,nc=(Question.appendCap (s.len + s2.len) s.cap e).cut (w.tape w.drawn (.appendCap (s.len + s2.len) s.cap e))∧s.len + s2.len ≤ nc:=⟨_,rfl,by simp [Question.cut]⟩
  have hst:=hw.drew.allocCells ((⟨xs⟩ : Array Value)++(⟨news⟩ : Array Value)++Builtin.zeroCells ei.zero.cells (nc - (s.len + s2.len))) e
  have hl1 : ((⟨xs⟩ : Array Value)++(⟨news⟩ : Array Value)++Builtin.zeroCells ei.zero.cells (nc - (s.len + s2.len))).toList=(xs++news)++(Builtin.zeroCells ei.zero.cells (nc - (s.len + s2.len))).toList:=by simp
  rw [hl1] at hst
  obtain ⟨g1,g2,g3⟩:=hst.split.freeze
  have hheap : (w.drew.alloc (.cells ((⟨xs⟩ : Array Value)++(⟨news⟩ : Array Value)++Builtin.zeroCells ei.zero.cells (nc - (s.len + s2.len))) e)).heap[w.drew.heap.size]? = some (.cells ((⟨xs⟩ : Array Value)++(⟨news⟩ : Array Value)++Builtin.zeroCells ei.zero.cells (nc - (s.len + s2.len))) e (0,0)):=heap_alloc_at _ _
  obtain ⟨f1,f2,f3⟩:=g3.typed hheap
  have g2:=g2.mono f1
  have g1:=bn g1 f1
  have g4:=f3.toRoom
  have hxl : (xs++news).length=(s.len + s2.len) * ei.size:=by rw [aa,hx.1,hy.1,Nat.add_mul]
  refine ⟨⟨some ⟨w.heap.size,0,none⟩,s.len + s2.len,nc⟩,_,w.drew.alloc (.cells ((⟨xs⟩ : Array Value)++(⟨news⟩ : Array Value)++Builtin.zeroCells ei.zero.cells (nc - (s.len + s2.len))) e), ?_,g1, ?_, .inr ⟨_,_,rfl⟩,rfl,hge, .inr ⟨_,_,rfl,g2⟩,fun b' o' q => ?_⟩
  ·simp only [Sl.v] at hold hnew'
   have hb0 : ei.bytes ≠ 0:=by omega
   have hmax : ¬ (9223372036854775807 < (s.len : Int) + (s2.len : Int)):=by omega
   simp [Builtin.append_,run_underlying hu,run_underlying hu2,sizeOf,typeInfo,zeroValue,q1,q3,q4,q5,Builtin.lenOf,hroom,hold,hnew',h48,hmax,Question.forced,newRow,← hnc,IntKind.max,IntKind.signed,IntKind.bits,hb0]
   congr 2
   apply Array.ext'
   simp
  ·have e1 : Item.room w.heap.size (0 + (xs++news).length) (Builtin.zeroCells ei.zero.cells (nc - (s.len + s2.len))).toList.length=tok ⟨some ⟨w.heap.size,0,none⟩,s.len + s2.len,nc⟩ ei.size:=by
    simp only [tok,hxl,Array.length_toList,size_zeroCells,hzs]
   rw [← e1]
   have hsub : (Item.room w.heap.size (0 + (xs++news).length) (Builtin.zeroCells ei.zero.cells (nc - (s.len + s2.len))).toList.length :: L.eraseIdx i).Sublist (Item.room w.heap.size (0 + (xs++news).length) (Builtin.zeroCells ei.zero.cells (nc - (s.len + s2.len))).toList.length :: L) :=
    aN _ (List.eraseIdx_sublist L i)
   exact St.back hi (g4.sub hsub)
  ·simp only [an,Addr.mk.injEq,and_true] at q
   obtain ⟨rfl,rfl⟩:=q
   refine ⟨rfl,f2.trans ?_,by rw [g1.pin];exact hw.size⟩
   congr 2
   rw [Array.size_append,Array.size_append,size_zeroCells,hzs]
   have h1 : (⟨xs⟩ : Array Value).size=xs.length:=rfl
   have h2 : (⟨news⟩ : Array Value).size=news.length:=rfl
   rw [h1,h2,hx.1,hy.1,← Nat.add_mul,← Nat.add_mul]
   congr 1
   show s.len + s2.len + (nc - (s.len + s2.len))=nc
   omega
theorem OT.appendT {H α : Type} (T : Tab P) (r : R H α) (i : Nat) {s s2 : Sl} {l l2 : List α} {x y : Operand} {t t2 : TypeId} {d : Nat} (hs : SlRep r m s l) (hown : Own s) (hs2 : SlRep r m s2 l2)
  (ho : o.op = .call ⟨.builtin .append,⟨[x,y]⟩,⟨[t,t2]⟩⟩) (hd : o.dst=some d) (hN : Nat.blt d N=true) (hx : ev ρ x=some s.v) (hy : ev ρ y=some s2.v) (hT : T.okElem t t2 r.size r.bytes=true)
  (hi : L[i]? = some (tok s r.size)) (hfit : (l.length + l2.length) * r.bytes ≤ 140737488355328) {e0 : TypeId} (he0 : (T.elem t).map Prod.fst=some e0) (hTy : ∀ b o,s.a=some ⟨b,o,none⟩ → o=0∧m.t b=some (e0,s.cap * r.size)∧m.pin.heap.size ≤ b)
  (hK : ∀ s' m',m ≤ m' → SlRep r m' s' (l++l2)→Own s' → (∀ b o,s'.a=some ⟨b,o,none⟩ → o=0∧m'.t b=some (e0,s'.cap * r.size)∧m'.pin.heap.size ≤ b)→K ((d,s'.v) :: ρ) m' (L.set i (tok s' r.size))) : OT P N o ρ D m L Q K:=by
 obtain ⟨e,e2,ei,ei2,q1,q2,q3,q4,q5,q6⟩:=okElem_get hT
 intro a w ha
 obtain ⟨hl,h1,h2,h3,h4⟩:=hs.src ha.st
 obtain ⟨hl2,k1,k2,k3,k4⟩:=hs2.src ha.st
 have hb : 0 < ei.bytes:=by omega
 have hee : e0=e:=by rw [q1] at he0;simpa using he0.symm
 subst hee
 obtain ⟨s',m',w',hr,g1,g2,g3,g4,g5,g6,g7⟩:=run_appendT (P:=P) (ty:=o.type) T q1 q2 ha.st (by rw [q3];exact hi) hown (by rw [q3];exact h2) (by rw [q3];exact k2) (fun hz=>(k3 hz).1) (encs_one r hl2) q6 hs.cap hb
  (by rw [hs.len,hs2.len,q4];exact hfit) h4 (by rw [q3];exact hTy)
 have he : (execOp a.eval o).run P w = .ok (.value s'.v) w':=by
  simp only [execOp,ho,resolve,invoke,builtin,Sem.run_bind,Sem.run_pure,Result.andThen_ok,List.map_toArray,ax,ay,ha.env.eval hx,ha.env.eval hy]
  simp only [List.map_toArray,ax,ay,ha.env.eval hx,ha.env.eval hy,hr,Result.andThen_ok]
 have hrep : SlRep r m' s' (l++l2):=by
  refine ⟨by rw [g4,hs.len,hs2.len];simp,g5,by rw [g4,hs.len,hs2.len];exact hfit,hl++hl2,(h1.mono fun _ _=>r.mono g1).append (k1.mono fun _ _=>r.mono g1), ?_⟩
  rcases g6 with ⟨e1,e2,e3⟩ | ⟨b,off,e1,e2⟩
  ·left
   have hz : s'.len=0:=by
    rcases g3 with e | ⟨b,off,e⟩
    ·rw [e]
    ·rw [e1] at e;cases e
   refine ⟨List.eq_nil_of_length_eq_zero ?_,fun _=>e3⟩
   have j1:=hs.len
   have j2:=hs2.len
   rw [aa];omega
  ·right
   exact ⟨b,off,e1,by rw [encs_append];exact e2⟩
 simp only [Oper.wp,he,Oper.upon]
 rw [hd]
 have hp:=ha.put hN s'.v
 rw [q3] at g2
 exact ⟨_,_,_,⟨hp.size,hp.env,hp.defers,g2⟩,hK s' m' g1 hrep g3 (by rw [q3] at g7;exact g7)⟩
theorem OT.allocT (T : Tab P) {t : TypeId} {d : Nat} {cs : List Value} (ho : o.op = .alloc t) (hd : o.dst=some d) (hN : Nat.blt d N=true)
  (hv : T.zeroCells t=some cs) (hK : ∀ b m',m ≤ m' → m'.t b=some (t,cs.length)→K ((d, .pointer (some ⟨b,0,none⟩)) :: ρ) m' (.cells b 0 cs :: L)) : OT P N o ρ D m L Q K:=by
 intro a w ha
 unfold Tab.zeroCells at hv
 split at hv
 ·rename_i i hi
  have hr : (execOp a.eval o).run P w = .ok (.value (.pointer (some ⟨w.heap.size,0,none⟩))) (w.alloc (.cells ⟨cs⟩ t)):=by
   simp only [execOp,ho,Instr.alloc,newVar,newRow,cellsF_eq hv,Sem.run_bind,Sem.run_pure,run_newObj,Result.andThen_ok,World.alloc_eq,T.run_zero w hi]
  simp only [Oper.wp,hr,Oper.upon,hd]
  have hp:=ha.put hN (.pointer (some ⟨w.heap.size,0,none⟩))
  have hst:=ha.st.allocCells ⟨cs⟩ t
  obtain ⟨f1,f2,f3⟩:=hst.typed (heap_alloc_at w (.cells ⟨cs⟩ t))
  exact ⟨_,_,_,⟨hp.size,hp.env,hp.defers,f3⟩,hK _ _ f1 f2⟩
 ·cases hv
theorem St.shape {w : World} {b : Nat} {x : TypeId × Nat} (h : St m w L) (hb : m.t b=some x) : w.shape? b=some x:=by
 obtain ⟨arr,fr,h1,h2⟩:=h.t b x hb
 simp only [World.shape?,h1]
 rw [h2]
def Tab.isPtr {P : Program} (T : Tab P) (t e : TypeId) : Bool :=
 match T.get t with
 | some ⟨.pointer u,_,_,_⟩=>Nat.beq u e
 | _=>false
theorem isPtr_get {T : Tab P} {t e : TypeId} (h : T.isPtr t e=true) : ∃ i,T.get t=some i∧i.u = .pointer e:=by
 unfold Tab.isPtr at h
 split at h
 ·have:=Nat.eq_of_beq_eq_true h
  subst this
  exact ⟨_,by assumption,rfl⟩
 ·cases h
def Tab.isUnsafe {P : Program} (T : Tab P) (t : TypeId) : Bool :=
 match T.get t with
 | some ⟨.unsafePointer,_,_,_⟩=>true
 | _=>false
theorem isUnsafe_get {T : Tab P} {t : TypeId} (h : T.isUnsafe t=true) : ∃ i,T.get t=some i∧i.u = .unsafePointer:=by
 unfold Tab.isUnsafe at h
 split at h
 ·exact ⟨_,by assumption,rfl⟩
 ·cases h
def Tab.size1 {P : Program} (T : Tab P) (t : TypeId) : Bool :=
 match T.get t with
 | some ⟨_,n + 1,_,_⟩=>true
 | _=>false
theorem size1_get {T : Tab P} {t : TypeId} (h : T.size1 t=true) : ∃ i,T.get t=some i∧i.size ≠ 0:=by
 unfold Tab.size1 at h
 split at h
 ·exact ⟨_,by assumption,by simp⟩
 ·cases h
theorem equalIn_ptrNil {t e : TypeId} {w : World} (dd : Nat) (a : Addr) (hu : (underlying t).run P w = .ok (.pointer e) w) :
  (Op.equalIn (dd + 1) t (.pointer (some a)) (.pointer none)).run P w = .ok false w:=by
 simp only [Op.equalIn,Sem.run_bind,hu,Result.andThen_ok,Sem.run_pure]
theorem equalIn_nilPtr {t e : TypeId} {w : World} (dd : Nat) (hu : (underlying t).run P w = .ok (.pointer e) w) :
  (Op.equalIn (dd + 1) t (.pointer none) (.pointer none)).run P w = .ok true w:=by
 simp only [Op.equalIn,Sem.run_bind,hu,Result.andThen_ok,Sem.run_pure]
 rfl
theorem OT.ptrNil (T : Tab P) {t t' e : TypeId} {x y : Operand} {q : Option Addr} {d : Nat} (ho : o.op = .binOp .eql t x y t') (hd : o.dst=some d) (hN : Nat.blt d N=true)
  (hx : ev ρ x=some (.pointer q)) (hy : ev ρ y=some (.pointer none)) (ht : T.isPtr t e=true) (hK : K ((d, .bool q.isNone) :: ρ) m L) : OT P N o ρ D m L Q K:=by
 obtain ⟨ti,h1,h2⟩:=isPtr_get ht
 refine bE hd hN (fun ac w ha=>⟨w, ?_,ha.st⟩) hK
 have hu:=T.run_underlying w h1
 rw [h2] at hu
 have e1 : binOp .eql t (.pointer q) (.pointer none)=(do pure (.bool (← Op.equalIn (9999 + 1) t (.pointer q) (.pointer none))) : Sem Value):=rfl
 have e2 : (eqGuard .eql t x y (.pointer q) (.pointer none)).run P w = .ok () w:=by simp [eqGuard]
 cases q with
 | none =>
  have h:=equalIn_nilPtr (P:=P) 9999 hu
  simp only [execOp,ho,ha.env.eval hx,ha.env.eval hy,Sem.run_bind,e2,Result.andThen_ok,e1,h,Sem.run_pure];rfl
 | some q =>
  have h:=equalIn_ptrNil (P:=P) 9999 q hu
  simp only [execOp,ho,ha.env.eval hx,ha.env.eval hy,Sem.run_bind,e2,Result.andThen_ok,e1,h,Sem.run_pure];rfl
end
end Go.Sep


/- SepY -/
namespace Go.Sep
theorem freeze_cell (w : World) (a : Addr) (n : Nat) (x : Addr) : (w.freeze a n).cell? x=w.cell? x:=by
 unfold World.freeze
 split
 ·rfl
 ·simp only [World.cell?,Array.getElem?_modify]
  by_cases e : a.block=x.block
  ·rw [if_pos e]
   cases h : w.heap[x.block]? with
   | none=>rfl
   | some ob=>cases ob <;> rfl
  ·rw [if_neg e]
theorem freeze_heap (w : World) (a : Addr) (n : Nat) {b : Nat} (h : a.block ≠ b) : (w.freeze a n).heap[b]? = w.heap[b]?:=by
 unfold World.freeze
 split
 ·rfl
 ·simp only [Array.getElem?_modify]
  rw [if_neg h]
theorem St.frz {m : Mem} {w : World} {L : List Item} (h : St m w L) (g n : Nat) (hp : m.pin.heap.size ≤ g) (hL : ∀ x ∈ L,0 < x.len→x.blk ≠ g) : St m (w.freeze ⟨g,0,none⟩ n) L:=by
 have hsz : (w.freeze ⟨g,0,none⟩ n).heap.size=w.heap.size:=by
  unfold World.freeze
  split
  ·rfl
  ·simp
 have hos : (w.freeze ⟨g,0,none⟩ n).os=w.os∧(w.freeze ⟨g,0,none⟩ n).tape=w.tape∧(w.freeze ⟨g,0,none⟩ n).output=w.output:=by
  unfold World.freeze
  split <;> exact ⟨rfl,rfl,rfl⟩
 have hfz : ∀ a : Addr,a.block ≠ g→(w.freeze ⟨g,0,none⟩ n).frozen? a=w.frozen? a:=fun a ha=>World.frozen?_of_block (freeze_heap w _ n (fun e=>ha e.symm))
 refine { os:=hos.1.trans h.os,tape:=hos.2.1.trans h.tape,output:=hos.2.2.trans h.output,size:=by rw [hsz];exact h.size,pin:=fun b hb=>(freeze_heap w _ n (show g ≠ b by omega)).trans (h.pin b hb),c:=fun b i v hv=>(freeze_cell ..).trans (h.c b i v hv),o:=fun b x hx => ?_,t:=fun b x hx => ?_,items:=fun x hx => ?_,free:=h.free,disj:=h.disj }
 ·have h1:=h.o b x hx
  by_cases e : g=b
  ·subst e
   unfold World.freeze
   split
   ·exact h1
   ·refine ⟨?_,h1.2⟩
    simp only [Array.getElem?_modify,if_true,h1.1,bb]
    cases x <;> simp_all [isCells]
  ·exact ⟨(freeze_heap w _ n e).trans h1.1,h1.2⟩
 ·obtain ⟨arr,fr,g1,g2⟩:=h.t b x hx
  by_cases e : g=b
  ·subst e
   unfold World.freeze
   split
   ·exact ⟨arr,fr,g1,g2⟩
   ·simp only [Array.getElem?_modify,if_true,g1,bb]
    exact ⟨arr,_,rfl,g2⟩
  ·exact ⟨arr,fr,(freeze_heap w _ n e).trans g1,g2⟩
 ·have hi:=h.items x hx
  have hl:=hL x hx
  cases x with
  | cells b off vs =>
   intro j v hv
   obtain ⟨g1,g2⟩:=hi j v hv
   have hj:=(List.getElem?_eq_some_iff.1 hv).1
   have hne : b ≠ g:=hl (by simp only [Item.len];omega)
   exact ⟨(freeze_cell ..).trans g1,fun i=>(hfz ⟨b,i,none⟩ hne).trans (g2 i)⟩
  | room b off k =>
   intro j hj
   obtain ⟨v,g1,g2⟩:=hi j hj
   have hne : b ≠ g:=hl (by simp only [Item.len];omega)
   exact ⟨v,(freeze_cell ..).trans g1,fun i=>(hfz ⟨b,i,none⟩ hne).trans (g2 i)⟩
  | obj b ob =>
   have hne : b ≠ g:=hl (by simp [Item.len])
   exact ⟨(freeze_heap w _ n (fun e=>hne e.symm)).trans hi.1,hi.2⟩
theorem cell_arr {w : World} {g i : Nat} {arr : Array Value} {e : TypeId} {fr : Nat × Nat} {v : Value} (hg : w.heap[g]? = some (.cells arr e fr)) (h : w.cell? ⟨g,i,none⟩ = some v) : i < arr.size:=by
 simp only [World.cell?,hg] at h
 exact (Array.getElem?_eq_some_iff.1 (by simpa using h)).1
def isObj : Item→Bool
 | .obj ..=>true
 | _=>false
theorem St.alone {m : Mem} {w : World} {L : List Item} {g n c : Nat} {e : TypeId} {vs : List Value} (h : St m w (tok ⟨some ⟨g,0,none⟩,n,c⟩ 1 :: L)) (hn : n ≤ c) (hA : At m g 0 vs) (hv : vs.length=n) (ht : m.t g=some (e,c)) : ∀ x ∈ L,0 < x.len→x.blk ≠ g:=by
 intro x hx hl hb
 obtain ⟨arr,fr,g1,g2⟩:=h.t g _ ht
 have hd:=(List.pairwise_cons.1 h.disj).1 x hx
 have hf:=h.free x (List.mem_cons_of_mem _ hx)
 have hi:=h.items x (List.mem_cons_of_mem _ hx)
 have hoff : x.off < c ∨ isObj x=true:=by
  cases x with
  | cells b off us =>
   left
   simp only [Item.blk] at hb
   subst hb
   obtain ⟨q1,_⟩:=hi 0 us[0] (by simp only [Item.len] at hl;simp [hl])
   have:=cell_arr g1 q1
   rw [g2] at this
   simpa [Item.off] using this
  | room b off k =>
   left
   simp only [Item.blk] at hb
   subst hb
   obtain ⟨v,q1,_⟩:=hi 0 hl
   have:=cell_arr g1 q1
   rw [g2] at this
   simpa [Item.off] using this
  | obj b ob=>right;rfl
 rcases hoff with hoff | hoff
 ·by_cases hlt : x.off < n
  ·have h1:=hf.c 0 hl
   rw [hb,Nat.add_zero] at h1
   have h2:=hA x.off vs[x.off] (by simp [hv,hlt])
   rw [aW,h1] at h2
   cases h2
  ·simp only [tok,Item.Disj,Item.len,Item.blk,Item.off,Nat.mul_one,aW] at hd
   rcases hd with q | q | q | q | q
   ·omega
   ·simp only [Item.len] at hl;cases x <;> simp_all [Item.len] <;> omega
   ·exact q hb.symm
   ·cases x <;> simp_all [Item.off] <;> omega
   ·cases x <;> simp_all [Item.off,Item.len] <;> omega
 ·cases x with
  | obj b ob =>
   simp only [Item.blk] at hb
   subst hb
   have h1:=hi.1
   have h2:=hi.2
   rw [g1] at h1
   cases h1
   simp [isCells] at h2
  | cells=>cases hoff
  | room=>cases hoff
section
variable {P : Program} {N : Nat} {ρ : Env} {D : List Deferred} {m : Mem} {L : List Item} {Q : EPost} {full : List Oper} {o : Oper} {K : Env→Mem→List Item→Prop}
theorem At.bytes {m : Mem} {b : Nat} {bs : List UInt8} (h : At m b 0 (bs.map byteV)) {w : World} (hst : St m w L) : ∀ j x,bs[j]? = some x→w.cell? ((⟨b,0,none⟩ : Addr).add j)=some (.int .u8 x.toNat):=fun j x hx=>by
 rw [addr_add]
 have:=hst.c _ _ _ (h j (byteV x) (by simp [hx]))
 simpa using this
theorem OT.sliceData {ts : Array TypeId} {x : Operand} {a : Option Addr} {n c d : Nat} (ho : o.op = .call ⟨.builtin .unsafeSliceData,⟨[x]⟩,ts⟩) (hd : o.dst=some d) (hN : Nat.blt d N=true) (hx : ev ρ x=some (.slice a n c)) (hc : a=none ∨ c ≠ 0) (hK : K ((d, .pointer a) :: ρ) m L) : OT P N o ρ D m L Q K:=by
 refine bE hd hN (fun ac w ha=>⟨w, ?_,ha.st⟩) hK
 have hr : (Builtin.unsafeSliceData_ ts o.type #[.slice a n c]).run P w = .ok (.pointer a) w:=by
  cases a with
  | none=>exact Lib.run_unsafeSliceData_nil w ts o.type n c
  | some a =>
   rcases hc with h | h
   ·cases h
   ·exact Lib.run_unsafeSliceData_row w ts o.type a n c h
 simp only [execOp,ho,resolve,invoke,builtin,Sem.run_bind,Sem.run_pure,Result.andThen_ok,List.map_toArray,ax,ay,ha.env.eval hx,hr]
theorem OT.unsafeStr0 {pt it : TypeId} {x y : Operand} {p : Option Addr} {d : Nat} (ho : o.op = .call ⟨.builtin .unsafeString,⟨[x,y]⟩,⟨[pt,it]⟩⟩) (hd : o.dst=some d) (hN : Nat.blt d N=true) (hx : ev ρ x=some (.pointer p)) (hy : ev ρ y=some (.int .i64 0))
  (hK : K ((d,strV []) :: ρ) m L) : OT P N o ρ D m L Q K:=by
 refine bE hd hN (fun ac w ha=>⟨w, ?_,ha.st⟩) hK
 have hr:=Lib.run_unsafeString_none (P:=P) w pt it o.type p
 simp only [execOp,ho,resolve,invoke,builtin,Sem.run_bind,Sem.run_pure,Result.andThen_ok,List.map_toArray,ax,ay,ha.env.eval hx,ha.env.eval hy]
 simp only [List.map_toArray,ax,ay,ha.env.eval hx,ha.env.eval hy,hr,Result.andThen_ok]
 rfl
theorem OT.unsafeStr (T : Tab P) {pt it e : TypeId} {x y : Operand} {g n c : Nat} {bs : List UInt8} {d : Nat} (ho : o.op = .call ⟨.builtin .unsafeString,⟨[x,y]⟩,⟨[pt,it]⟩⟩) (hd : o.dst=some d) (hN : Nat.blt d N=true) (hx : ev ρ x=some (.pointer (some ⟨g,0,none⟩))) (hy : ev ρ y=some (.int .i64 (n : Int)))
  (hpt : T.isPtr pt e=true) (hce : P.cellsOf e=1) (hA : At m g 0 (bs.map byteV)) (hbs : bs.length=n) (hpos : 0 < n) (hc : n ≤ c) (hmax : n ≤ 9223372036854775807) (ht : m.t g=some (e,c)) (hp : m.pin.heap.size ≤ g)
  (hK : K ((d,strV bs) :: ρ) m L) : OT P N o ρ D m (tok ⟨some ⟨g,0,none⟩,n,c⟩ 1 :: L) Q K:=by
 obtain ⟨pi,p1,p2⟩:=isPtr_get hpt
 obtain ⟨_,_,hup,_⟩:=T.ok pt pi p1
 rw [p2] at hup
 refine bE hd hN (fun ac w ha => ?_) hK
 have hst:=ha.st
 have halone:=hst.alone hc hA (by rw [aD];exact hbs) ht
 have hcell:=At.bytes hA hst
 have hne : bs ≠ []:=fun e=>by subst e;simp at hbs;omega
 have hr:=Lib.run_unsafeString_row (P:=P) w pt it o.type e hup hce g c (hst.shape ht) bs hne (by omega) (by omega) hcell
 refine ⟨_, ?_,(hst.sub (List.sublist_cons_self _ _)).frz g bs.length hp halone⟩
 subst hbs
 simp only [execOp,ho,resolve,invoke,builtin,Sem.run_bind,Sem.run_pure,Result.andThen_ok,List.map_toArray,ax,ay,ha.env.eval hx,ha.env.eval hy]
 simp only [List.map_toArray,ax,ay,ha.env.eval hx,ha.env.eval hy,hr,Result.andThen_ok]
theorem OT.bytesStr (T : Tab P) {t u : TypeId} {x : Operand} {s : Sl} {bs : List UInt8} {d : Nat} {e : TypeId} {ei : TI} (ho : o.op = .convert t u x) (hd : o.dst=some d) (hN : Nat.blt d N=true) (hx : ev ρ x=some s.v) (he : T.elem t=some (e,ei)) (hb : ei.u = .int .u8) (hu : T.isStr u=true) (hs : SlRep rByte m s bs) (hpos : 0 < bs.length)
  (hK : K ((d,strV bs) :: ρ) m L) : OT P N o ρ D m L Q K:=by
 obtain ⟨ti,h4,h5,h6⟩:=elem_get he
 obtain ⟨ui,u1,u2⟩:=isStr_get hu
 obtain ⟨_,_,hut,_⟩:=T.ok t ti h4
 rw [h5] at hut
 obtain ⟨_,_,huu,_⟩:=T.ok u ui u1
 rw [u2] at huu
 obtain ⟨_,_,hue,_⟩:=T.ok e ei h6
 rw [hb] at hue
 refine bE hd hN (fun ac w ha=>⟨w, ?_,ha.st⟩) hK
 obtain ⟨hs',k1,k2⟩:=hs.cells
 have hh:=byte_all2 k1
 subst hh
 rcases k2 with ⟨k2,_⟩ | ⟨b,off,k3,k4⟩
 ·subst k2;simp at hpos
 ·obtain ⟨a,n,c⟩:=s
  simp only at k3
  subst k3
  have hlen : n=hs'.length:=hs.len
  subst hlen
  have hr:=run_convert_bytes_back (P:=P) w t u e ⟨b,off,none⟩ c hs' hut hue huu (fun j hj=>by
   rw [addr_add]
   rw [encs_byte] at k4
   exact ha.st.c _ _ _ (k4 j (byteV hs'[j]) (by simp [hj])))
  simp only [execOp,ho,ha.env.eval hx,Sl.v,Sem.run_bind,hr,Result.andThen_ok,Sem.run_pure]
theorem OT.strBytes (T : Tab P) {t u : TypeId} {x : Operand} {bs : List UInt8} {d : Nat} {e : TypeId} {ei : TI} (ho : o.op = .convert t u x) (hd : o.dst=some d) (hN : Nat.blt d N=true) (hx : ev ρ x=some (strV bs)) (he : T.elem u=some (e,ei)) (hb : ei.u = .int .u8) (ht : T.isStr t=true) (hfit : bs.length ≤ 140737488355328)
  (hK : ∀ s m',m ≤ m' → SlRep rByte m' s bs→s.len=bs.length→K ((d,s.v) :: ρ) m' L) : OT P N o ρ D m L Q K:=by
 obtain ⟨ui,h4,h5,h6⟩:=elem_get he
 obtain ⟨ti,t1,t2⟩:=isStr_get ht
 obtain ⟨_,_,huu,_⟩:=T.ok u ui h4
 rw [h5] at huu
 obtain ⟨_,_,hut,_⟩:=T.ok t ti t1
 rw [t2] at hut
 obtain ⟨_,_,hue,_⟩:=T.ok e ei h6
 rw [hb] at hue
 intro a w ha
 have hr:=Lib.run_convert_string_bytes (P:=P) w t u e ⟨⟨bs⟩⟩ hut huu hue
 have hgrow:=ha.st.grow (w':=Lib.bytesWorld w e ⟨⟨bs⟩⟩) (by unfold Lib.bytesWorld World.freeze;split <;> rfl) (by unfold Lib.bytesWorld World.freeze;split <;> rfl) (by unfold Lib.bytesWorld World.freeze;split <;> rfl) (by rw [Lib.bytesWorld_size];omega) (fun b hb=>Lib.bytesWorld_at_old w e _ b hb)
 obtain ⟨g1,g2,g3⟩:=hgrow.learn (b:=w.heap.size) (vs:=bs.map byteV) (fun j v hv=>by
  have hj : j < bs.length:=by have:=(List.getElem?_eq_some_iff.1 hv).1;simpa using this
  have:=Lib.bytesWorld_cell w e ⟨⟨bs⟩⟩ j hj
  rw [this]
  simp [hj] at hv
  subst hv
  simp [List.getD,hj]) (fun j=>ha.st.new_c j) ha.st.new_L
 have hge : bs.length ≤ grownCap w (⟨⟨bs⟩⟩ : ByteArray).size 0 e:=by
  show bs.length ≤ (Question.appendCap _ 0 e).cut _
  have : (⟨⟨bs⟩⟩ : ByteArray).size=bs.length:=rfl
  simp [Question.cut]
  omega
 have he' : (execOp a.eval o).run P w = .ok (.value (.slice (some ⟨w.heap.size,0,none⟩) bs.length (grownCap w (⟨⟨bs⟩⟩ : ByteArray).size 0 e))) (Lib.bytesWorld w e ⟨⟨bs⟩⟩):=by
  simp only [execOp,ho,ha.env.eval hx,Sem.run_bind,hr,Result.andThen_ok,Sem.run_pure]
  rfl
 simp only [Oper.wp,he',Oper.upon,hd]
 have hp:=ha.put hN (.slice (some ⟨w.heap.size,0,none⟩) bs.length (grownCap w (⟨⟨bs⟩⟩ : ByteArray).size 0 e))
 exact ⟨_,_,_,⟨hp.size,hp.env,hp.defers,g3⟩,hK ⟨some ⟨w.heap.size,0,none⟩,bs.length,_⟩ _ g1 ⟨rfl,hge,by show bs.length * 1 ≤ _;omega,bs,byte_refl bs, .inr ⟨w.heap.size,0,rfl,by rw [encs_byte];exact g2⟩⟩ rfl⟩
end
end Go.Sep


/- SepZ -/
namespace Go.Sep
theorem allOne_bytes : ∀ bs : List UInt8,allOne (bs.map byteV)=true
 | []=>rfl
 | x :: xs=>by
  have:=allOne_bytes xs
  have h1 : (byteV x).oneCell' = true:=rfl
  simpa [allOne,h1] using this
section
variable {P : Program} {N : Nat} {ρ : Env} {D : List Deferred} {m : Mem} {L : List Item} {Q : EPost} {full : List Oper} {o : Oper} {K : Env→Mem→List Item→Prop}
theorem run_appendS (T : Tab P) {t t2 e ty : TypeId} {ei : TI} {w : World} {s : Sl} {bs : List UInt8} {xs : List Value} {i : Nat} (he : T.elem t=some (e,ei)) (he2 : T.isStr t2=true)
  (hw : St m w L) (hi : L[i]? = some (tok s ei.size)) (ho : Own s) (hx : Src w s ei.size xs) (hsz1 : ei.size=1) (hzs : ei.zero.cells.size=ei.size) (hcap : s.len ≤ s.cap)
  (hb : 0 < ei.bytes) (hfit : (s.len + bs.length) * ei.bytes ≤ 140737488355328) (hAt : ∀ b o,s.a=some ⟨b,o,none⟩ → At m b o xs) :
  ∃ s' m' w',(Builtin.append_ #[t,t2] ty #[s.v,strV bs]).run P w = .ok s'.v w' ∧ m ≤ m' ∧ St m' w' (L.set i (tok s' ei.size))∧Own s' ∧ s'.len=s.len + bs.length∧s'.len ≤ s'.cap ∧
   ((s'.a=none∧xs++bs.map byteV=[]∧s'.cap=0) ∨ ∃ b o,s'.a=some ⟨b,o,none⟩ ∧ At m' b o (xs++bs.map byteV)):=by
 obtain ⟨ti,h4,h5,h6⟩:=elem_get he
 obtain ⟨ti2,k4,k5⟩:=isStr_get he2
 obtain ⟨_,_,hu,_⟩:=T.ok t ti h4
 rw [h5] at hu
 obtain ⟨_,_,hu2,_⟩:=T.ok t2 ti2 k4
 rw [k5] at hu2
 obtain ⟨info,q1,q2,q3,q4,q5⟩:=T.ok e ei h6
 have hnewA : ∀ w : World,(Builtin.firstCells ei.size bs.length (strV bs)).run P w = .ok (⟨bs.map byteV⟩ : Array Value) w:=fun w=>by
  have hx : (⟨⟨bs⟩⟩ : ByteArray).extract 0 bs.length = ⟨⟨bs⟩⟩:=by
   apply ByteArray.ext
   apply Array.ext'
   simp
  simp only [Builtin.firstCells,Sem.run_pure]
  rw [hx]
  congr 1
  apply Array.ext'
  simp
 have hnew:=hnewA w
 have hsize : (⟨⟨bs⟩⟩ : ByteArray).size=bs.length:=rfl
 have hylen : (bs.map byteV).length=bs.length * ei.size:=by rw [hsz1];simp
 have h1 : allOne (bs.map byteV)=true:=by
  induction bs with
  | nil=>rfl
  | cons x xs ih=>exact allOne_bytes (x :: xs)
 have hbound : s.len + bs.length ≤ 140737488355328:=aw (Nat.le_mul_of_pos_right _ hb) hfit
 by_cases hroom : s.len + bs.length ≤ s.cap
 ·
  rcases ho with hnil | ⟨b,o,ha⟩
  ·subst hnil
   simp only at hroom
   have hz : bs.length=0:=by omega
   have hxs : xs=[]:=List.eq_nil_of_length_eq_zero (by have:=hx.1;simpa using this)
   have hns : bs=[]:=List.eq_nil_of_length_eq_zero hz
   subst hxs;subst hns
   refine ⟨⟨none,0,0⟩,m,w, ?_,m.le_refl,by rw [set_same hi];exact hw, .inl rfl,by simp [hz],by simp, .inl ⟨rfl,rfl,rfl⟩⟩
   have hnew':=hnew
   simp only [ae,ay] at hnew'
   simp [Builtin.append_,run_underlying hu,run_underlying hu2,sizeOf,typeInfo,q1,q3,Builtin.lenOf,hsize,hz,hnew']
  ·obtain ⟨a,n,c⟩:=s
   simp only at ha hroom hcap hbound hfit hx hAt
   subst ha
   have hst:=(hw.at_ hi)
   simp only [tok] at hst
   obtain ⟨vs,hvl,hst⟩:=hst.ofRoom
   have hnl : (bs.map byteV).length ≤ vs.length:=by
    rw [hvl,hylen];exact Nat.mul_le_mul_right _ (by omega)
   obtain ⟨w',hr,hst'⟩:=run_storeCells (P:=P) (bs.map byteV) vs 0 0 w hst h1 (by omega)
   rw [putAt_zero hnl] at hst'
   have hst2:=hst'.split
   obtain ⟨g1,g2,g3⟩:=hst2.freeze
   have g4:=g3.toRoom
   refine ⟨⟨some ⟨b,o,none⟩,n + bs.length,c⟩,m.addCells b (o + n * ei.size) (bs.map byteV),w', ?_,g1, ?_, .inr ⟨b,o,rfl⟩,rfl,hroom, .inr ⟨b,o,rfl, ?_⟩⟩
   ·have hr' : (storeCells ((⟨b,o,none⟩ : Addr).add (n * ei.size)) (bs.map byteV)).run P w = .ok () w':=by rw [addr_add];exact hr
    simp [Builtin.append_,run_underlying hu,run_underlying hu2,sizeOf,typeInfo,q1,q3,Builtin.lenOf,hsize,hroom,hnew,hr']
   ·have e1 : Item.room b (o + n * ei.size + (bs.map byteV).length) (List.drop (bs.map byteV).length vs).length=tok ⟨some ⟨b,o,none⟩,n + bs.length,c⟩ ei.size:=by
     simp only [tok,aM,hvl,hylen]
     congr 1
     ·rw [Nat.add_mul];omega
     ·rw [← Nat.sub_mul];congr 1;omega
    rw [← e1]
    exact St.back hi g4
   ·refine ((hAt b o rfl).mono g1).append ?_
    rw [hx.1]
    exact g2
 ·
  have hlt : s.cap < s.len + bs.length:=by omega
  have h48 : ¬ (Builtin.nextslicecap (s.len + bs.length) s.cap * ei.bytes > 281474976710656):=by
   have:=growslice_fits hlt hfit
   omega
  have hold:=run_first (P:=P) (hx.drew)
  have hnew':=hnewA w.drew
  obtain ⟨nc,hnc,hge⟩ : ∃ nc,nc=(Question.appendCap (s.len + bs.length) s.cap e).cut (w.tape w.drawn (.appendCap (s.len + bs.length) s.cap e))∧s.len + bs.length ≤ nc:=⟨_,rfl,by simp [Question.cut]⟩
  have hst:=hw.drew.allocCells ((⟨xs⟩ : Array Value)++(⟨bs.map byteV⟩ : Array Value)++Builtin.zeroCells ei.zero.cells (nc - (s.len + bs.length))) e
  have hl1 : ((⟨xs⟩ : Array Value)++(⟨bs.map byteV⟩ : Array Value)++Builtin.zeroCells ei.zero.cells (nc - (s.len + bs.length))).toList=(xs++bs.map byteV)++(Builtin.zeroCells ei.zero.cells (nc - (s.len + bs.length))).toList:=by simp
  rw [hl1] at hst
  obtain ⟨g1,g2,g3⟩:=hst.split.freeze
  have g4:=g3.toRoom
  have hxl : (xs++bs.map byteV).length=(s.len + bs.length) * ei.size:=by rw [aa,hx.1,hylen,Nat.add_mul]
  refine ⟨⟨some ⟨w.heap.size,0,none⟩,s.len + bs.length,nc⟩,_,w.drew.alloc (.cells ((⟨xs⟩ : Array Value)++(⟨bs.map byteV⟩ : Array Value)++Builtin.zeroCells ei.zero.cells (nc - (s.len + bs.length))) e), ?_,g1, ?_, .inr ⟨_,_,rfl⟩,rfl,hge, .inr ⟨_,_,rfl,g2⟩⟩
  ·simp only [Sl.v] at hold
   have hb0 : ei.bytes ≠ 0:=by omega
   have hmax : ¬ (9223372036854775807 < (s.len : Int) + (bs.length : Int)):=by omega
   simp [Builtin.append_,run_underlying hu,run_underlying hu2,sizeOf,typeInfo,zeroValue,q1,q3,q4,q5,Builtin.lenOf,hsize,hroom,hold,hnew',h48,hmax,Question.forced,newRow,← hnc,IntKind.max,IntKind.signed,IntKind.bits,hb0]
   congr 2
   apply Array.ext'
   simp
  ·have e1 : Item.room w.heap.size (0 + (xs++bs.map byteV).length) (Builtin.zeroCells ei.zero.cells (nc - (s.len + bs.length))).toList.length=tok ⟨some ⟨w.heap.size,0,none⟩,s.len + bs.length,nc⟩ ei.size:=by
    simp only [tok,hxl,Array.length_toList,size_zeroCells,hzs]
   rw [← e1]
   have hsub : (Item.room w.heap.size (0 + (xs++bs.map byteV).length) (Builtin.zeroCells ei.zero.cells (nc - (s.len + bs.length))).toList.length :: L.eraseIdx i).Sublist (Item.room w.heap.size (0 + (xs++bs.map byteV).length) (Builtin.zeroCells ei.zero.cells (nc - (s.len + bs.length))).toList.length :: L) :=
    aN _ (List.eraseIdx_sublist L i)
   exact St.back hi (g4.sub hsub)
theorem OT.appendS (T : Tab P) (i : Nat) {s : Sl} {l bs : List UInt8} {x y : Operand} {t t2 e : TypeId} {ei : TI} {d : Nat} (hs : SlRep rByte m s l) (hown : Own s)
  (ho : o.op = .call ⟨.builtin .append,⟨[x,y]⟩,⟨[t,t2]⟩⟩) (hd : o.dst=some d) (hN : Nat.blt d N=true) (hx : ev ρ x=some s.v) (hy : ev ρ y=some (strV bs)) (he : T.elem t=some (e,ei)) (h1 : Nat.beq ei.size 1=true) (hb : Nat.beq ei.bytes 1=true) (hz : (cellsF ei.zero).map List.length=some 1) (ht2 : T.isStr t2=true)
  (hi : L[i]? = some (tok s 1)) (hfit : l.length + bs.length ≤ 140737488355328)
  (hK : ∀ s' m',m ≤ m' → SlRep rByte m' s' (l++bs)→Own s' → K ((d,s'.v) :: ρ) m' (L.set i (tok s' 1))) : OT P N o ρ D m L Q K:=by
 have e1 : ei.size=1:=Nat.eq_of_beq_eq_true h1
 have e2 : ei.bytes=1:=Nat.eq_of_beq_eq_true hb
 have e3 : ei.zero.cells.size=ei.size:=by
  cases hc : cellsF ei.zero with
  | none=>rw [hc] at hz;cases hz
  | some l=>rw [hc] at hz;rw [cellsF_eq hc,e1];simpa using hz
 intro a w ha
 obtain ⟨hl,g1,g2,g3,g4⟩:=hs.src ha.st
 have hh:=byte_all2 g1
 subst hh
 rw [encs_byte] at g2 g4
 obtain ⟨s',m',w',hr,k1,k2,k3,k4,k5,k6⟩:=run_appendS (P:=P) (ty:=o.type) (bs:=bs) T he ht2 ha.st (by rw [e1];exact hi) hown (by rw [e1];exact g2) e1 e3 hs.cap (by omega) (by rw [e2,hs.len];omega) g4
 have hex : (execOp a.eval o).run P w = .ok (.value s'.v) w':=by
  simp only [execOp,ho,resolve,invoke,builtin,Sem.run_bind,Sem.run_pure,Result.andThen_ok,List.map_toArray,ax,ay,ha.env.eval hx,ha.env.eval hy]
  simp only [List.map_toArray,ax,ay,ha.env.eval hx,ha.env.eval hy,hr,Result.andThen_ok]
 have hrep : SlRep rByte m' s' (hl++bs):=by
  refine ⟨by rw [k4,hs.len];simp,k5,by show s'.len * 1 ≤ _;rw [k4,hs.len];omega,hl++bs,byte_refl _, ?_⟩
  rcases k6 with ⟨f1,f2,f3⟩ | ⟨b,off,f1,f2⟩
  ·left
   have f2 : hl++bs=[]:=by
    have:=congrArg List.length f2
    exact List.eq_nil_of_length_eq_zero (by simpa using this)
   exact ⟨f2,fun _=>f3⟩
  ·right
   exact ⟨b,off,f1,by rw [encs_byte,aZ];exact f2⟩
 simp only [Oper.wp,hex,Oper.upon,hd]
 have hp:=ha.put hN s'.v
 rw [e1] at k2
 exact ⟨_,_,_,⟨hp.size,hp.env,hp.defers,k2⟩,hK s' m' k1 hrep k3⟩
theorem equalIn_ifNil {t : TypeId} {ms : Array (String × TypeId)} {w : World} (dd : Nat) (u : TypeId) (v : Value) (hu : (underlying t).run P w = .ok (.interface ms) w) :
  (Op.equalIn (dd + 1) t (.iface u v) .nilIface).run P w = .ok false w:=by
 simp only [Op.equalIn,Sem.run_bind,hu,Result.andThen_ok,Sem.run_pure]
theorem equalIn_nilNil {t : TypeId} {ms : Array (String × TypeId)} {w : World} (dd : Nat) (hu : (underlying t).run P w = .ok (.interface ms) w) :
  (Op.equalIn (dd + 1) t .nilIface .nilIface).run P w = .ok true w:=by
 simp only [Op.equalIn,Sem.run_bind,hu,Result.andThen_ok,Sem.run_pure]
def isErr : Value→Bool
 | .iface _ _=>true
 | _=>false
theorem OT.errNe (T : Tab P) {t t' : TypeId} {x y : Operand} {v : Value} {d : Nat} (ho : o.op = .binOp .neq t x y t') (hd : o.dst=some d) (hN : Nat.blt d N=true)
  (hx : ev ρ x=some v) (hv : v = .nilIface ∨ ∃ u a,v = .iface u a) (hy : y = .const .nilIface) (ht : T.isIface t=true) (hK : K ((d, .bool (isErr v)) :: ρ) m L) : OT P N o ρ D m L Q K:=by
 obtain ⟨ti,ms,h1,h2⟩:=isIface_get ht
 subst hy
 have hy : ev ρ (.const .nilIface)=some .nilIface:=rfl
 refine bE hd hN (fun ac w ha=>⟨w, ?_,ha.st⟩) hK
 have hu:=T.run_underlying w h1
 rw [h2] at hu
 have e1 : binOp .neq t v .nilIface=(do pure (.bool (!(← Op.equalIn (9999 + 1) t v .nilIface))) : Sem Value):=by
  rcases hv with rfl | ⟨u,a,rfl⟩ <;> rfl
 rcases hv with rfl | ⟨u,a,rfl⟩
 ·have h:=equalIn_nilNil (P:=P) 9999 hu
  have e2 : (eqGuard .neq t x (.const .nilIface) .nilIface .nilIface).run P w = .ok () w:=by simp [eqGuard]
  simp only [execOp,ho,ha.env.eval hx,ha.env.eval hy,Sem.run_bind,e2,Result.andThen_ok,e1,h,Sem.run_pure];rfl
 ·have h:=equalIn_ifNil (P:=P) 9999 u a hu
  have e2 : (eqGuard .neq t x (.const .nilIface) (.iface u a) .nilIface).run P w = .ok () w:=by simp [eqGuard]
  simp only [execOp,ho,ha.env.eval hx,ha.env.eval hy,Sem.run_bind,e2,Result.andThen_ok,e1,h,Sem.run_pure];rfl
theorem equalIn_ints {t u : TypeId} {k : IntKind} {info : TypeInfo} {ms : Array (String × TypeId)} {w : World} (dd : Nat) (a b : Int) (hu : (underlying t).run P w = .ok (.interface ms) w) (hi : P.info? u=some info) (hc : info.comparable=true) (hk : (underlying u).run P w = .ok (.int k) w) :
  (Op.equalIn (dd + 1 + 1) t (.iface u (.int k a)) (.iface u (.int k b))).run P w = .ok (a == b) w:=by
 rw [Op.equalIn]
 simp only [Sem.run_bind,hu,Result.andThen_ok]
 simp [typeInfo,hi,hc,Op.equalIn,hk]
theorem OT.errEq (T : Tab P) {op : BinOp} {t t' u : TypeId} {k : IntKind} {info : TypeInfo} {x y : Operand} {a b : Int} {d : Nat} (hop : op = .eql ∨ op = .neq) (ho : o.op = .binOp op t x y t') (hd : o.dst=some d) (hN : Nat.blt d N=true)
  (hx : ev ρ x=some (.iface u (.int k a))) (hy : ev ρ y=some (.iface u (.int k b))) (ht : T.isIface t=true) (hi : P.info? u=some info) (hc : info.comparable=true) (hk : T.intK u=some k) (hK : K ((d, .bool (if op = .eql then decide (a=b) else !decide (a=b))) :: ρ) m L) : OT P N o ρ D m L Q K:=by
 obtain ⟨ti,ms,h1,h2⟩:=isIface_get ht
 obtain ⟨ui,u1,u2⟩:=intK_get hk
 refine bE hd hN (fun ac w ha=>⟨w, ?_,ha.st⟩) hK
 have hu:=T.run_underlying w h1
 rw [h2] at hu
 have hku:=T.run_underlying w u1
 rw [u2] at hku
 have h:=equalIn_ints (P:=P) (k:=k) 9998 a b hu hi hc hku
 rcases hop with rfl | rfl
 ·have e1 : binOp .eql t (.iface u (.int k a)) (.iface u (.int k b))=(do pure (.bool (← Op.equalIn (9998 + 1 + 1) t (.iface u (.int k a)) (.iface u (.int k b)))) : Sem Value):=rfl
  have e2 : (eqGuard .eql t x y (.iface u (.int k a)) (.iface u (.int k b))).run P w = .ok () w:=by simp [eqGuard]
  simp only [execOp,ho,ha.env.eval hx,ha.env.eval hy,Sem.run_bind,e2,Result.andThen_ok,e1,h,Sem.run_pure,if_true,beq_dec]
 ·have e1 : binOp .neq t (.iface u (.int k a)) (.iface u (.int k b))=(do pure (.bool (!(← Op.equalIn (9998 + 1 + 1) t (.iface u (.int k a)) (.iface u (.int k b))))) : Sem Value):=rfl
  have e2 : (eqGuard .neq t x y (.iface u (.int k a)) (.iface u (.int k b))).run P w = .ok () w:=by simp [eqGuard]
  simp only [execOp,ho,ha.env.eval hx,ha.env.eval hy,Sem.run_bind,e2,Result.andThen_ok,e1,h,Sem.run_pure,beq_dec]
  simp
theorem equalIn_ptrSame {t e : TypeId} {w : World} {ei : TI} (T : Tab P) (dd : Nat) (b : Nat) (hu : (underlying t).run P w = .ok (.pointer e) w) (he : T.get e=some ei) (hz : ei.size ≠ 0) :
  (Op.equalIn (dd + 1) t (.pointer (some ⟨b,0,none⟩)) (.pointer (some ⟨b,0,none⟩))).run P w = .ok true w:=by
 have hs:=T.run_sizeOf w he
 simp only [Op.equalIn,Sem.run_bind,hu,Result.andThen_ok,hs]
 simp [hz,sameAddr]
theorem OT.ptrSame (T : Tab P) {t t' e : TypeId} {x y : Operand} {b d : Nat} (ho : o.op = .binOp .neq t x y t') (hd : o.dst=some d) (hN : Nat.blt d N=true)
  (hx : ev ρ x=some (.pointer (some ⟨b,0,none⟩))) (hy : ev ρ y=some (.pointer (some ⟨b,0,none⟩))) (ht : T.isPtr t e=true) (he : T.size1 e=true) (hK : K ((d, .bool false) :: ρ) m L) : OT P N o ρ D m L Q K:=by
 obtain ⟨ti,h1,h2⟩:=isPtr_get ht
 obtain ⟨ei,e1,e2⟩:=size1_get he
 refine bE hd hN (fun ac w ha=>⟨w, ?_,ha.st⟩) hK
 have hu:=T.run_underlying w h1
 rw [h2] at hu
 have g1 : binOp .neq t (.pointer (some ⟨b,0,none⟩)) (.pointer (some ⟨b,0,none⟩))=(do pure (.bool (!(← Op.equalIn (9999 + 1) t (.pointer (some ⟨b,0,none⟩)) (.pointer (some ⟨b,0,none⟩))))) : Sem Value):=rfl
 have g2 : (eqGuard .neq t x y (.pointer (some ⟨b,0,none⟩)) (.pointer (some ⟨b,0,none⟩))).run P w = .ok () w:=by simp [eqGuard]
 have h:=equalIn_ptrSame (P:=P) T 9999 b hu e1 e2
 simp only [execOp,ho,ha.env.eval hx,ha.env.eval hy,Sem.run_bind,g2,Result.andThen_ok,g1,h,Sem.run_pure];rfl
end
end Go.Sep


/- SepZa -/
namespace Go.Sep
section
variable {P : Program} {N : Nat} {ρ : Env} {D : List Deferred} {m : Mem} {L : List Item} {Q : EPost} {full : List Oper} {o : Oper} {K : Env→Mem→List Item→Prop}
theorem OT.makeT (T : Tab P) {t : TypeId} {n d : Nat} {z : Value} {x y : Operand} {e : TypeId} {ei : TI} (ho : o.op = .makeSlice t x y) (hd : o.dst=some d) (hN : Nat.blt d N=true)
  (hx : ev ρ x=some (.int .i64 (n : Int))) (hy : ev ρ y=some (.int .i64 (n : Int))) (he : T.elem t=some (e,ei)) (hs : Nat.beq ei.size 1=true) (hz : cellsF ei.zero=some [z]) (hfit : n * ei.bytes ≤ 281474976710656) (hb : Nat.blt 0 ei.bytes=true)
  (hK : ∀ b m',m ≤ m' → m'.t b=some (e,n)→m'.pin.heap.size ≤ b→K ((d, .slice (some ⟨b,0,none⟩) n n) :: ρ) m' (.cells b 0 (List.replicate n z) :: L)) : OT P N o ρ D m L Q K:=by
 intro a w ha
 obtain ⟨ti,h4,h5,h6⟩:=elem_get he
 have hu:=T.run_underlying w h4
 rw [h5] at hu
 obtain ⟨info,q1,q2,q3,q4,q5⟩:=T.ok e ei h6
 have hs1:=Nat.eq_of_beq_eq_true hs
 have hbp : 0 < ei.bytes:=by simpa [Nat.blt_eq] using hb
 have hn : n ≤ 281474976710656:=aw (Nat.le_mul_of_pos_right _ hbp) hfit
 have hzc:=cellsF_eq hz
 obtain ⟨_,_,hu',_⟩:=T.ok t ti h4
 rw [h5] at hu'
 have hcast : ((info.bytes : Int) * (n : Int))=((n * ei.bytes : Nat) : Int):=by rw [q4,Nat.mul_comm];simp
 have hmk:=run_make (P:=P) w t e info ei.zero hu' q1 q5 .i64 .i64 (n : Int) (n : Int) (by omega) (by omega) (by rw [hcast];omega) (by omega)
 have hrow : madeCells (⟨[z]⟩ : Array Value) (n * 1) = ⟨List.replicate n z⟩:=by
  apply Array.ext'
  simp only [madeCells,Nat.mul_one,Array.toList_map,Array.toList_range]
  apply List.ext_getElem
  ·simp
  ·intro i h1 h2
   simp [Nat.mod_one]
 rw [aC,q3,hs1,hzc,hrow] at hmk
 have hr : (execOp a.eval o).run P w = .ok (.value (.slice (some ⟨w.heap.size,0,none⟩) n n)) (w.alloc (.cells ⟨List.replicate n z⟩ e)):=by
  simp only [execOp,ho,ha.env.eval hx,ha.env.eval hy,Sem.run_bind,hmk,Result.andThen_ok,Sem.run_pure]
 simp only [Oper.wp,hr,Oper.upon,hd]
 have hp:=ha.put hN (.slice (some ⟨w.heap.size,0,none⟩) n n)
 have hst:=ha.st.allocCells ⟨List.replicate n z⟩ e
 obtain ⟨f1,f2,f3⟩:=hst.typed (heap_alloc_at w (.cells ⟨List.replicate n z⟩ e))
 exact ⟨_,_,_,⟨hp.size,hp.env,hp.defers,f3⟩,hK _ _ f1 (by simpa using f2) (by rw [f1.pin];exact ha.st.size)⟩
theorem OT.copyS (T : Tab P) (i : Nat) {x y : Operand} {t t2 e : TypeId} {ei : TI} {b off k n c : Nat} {bs : List UInt8} {vs : List Value} {d : Nat} (ho : o.op = .call ⟨.builtin .copy,⟨[x,y]⟩,⟨[t,t2]⟩⟩) (hd : o.dst=some d) (hN : Nat.blt d N=true)
  (hx : ev ρ x=some (.slice (some ⟨b,off + k,none⟩) n c)) (hy : ev ρ y=some (strV bs)) (hle : bs.length ≤ n) (he : T.elem t=some (e,ei)) (hsz : Nat.beq ei.size 1=true)
  (hi : L[i]? = some (.cells b off vs)) (hk : k + bs.length ≤ vs.length)
  (hK : K ((d, .int .i64 (bs.length : Int)) :: ρ) m (L.set i (.cells b off (putAt vs k (bs.map byteV))))) : OT P N o ρ D m L Q K:=by
 obtain ⟨ti,h4,h5,h6⟩:=elem_get he
 have hs1:=Nat.eq_of_beq_eq_true hsz
 intro ac w ha
 have hu:=T.run_underlying w h4
 rw [h5] at hu
 have hes:=T.run_sizeOf w h6
 rw [hs1] at hes
 have hst:=ha.st.at_ hi
 obtain ⟨w',hr,hst'⟩:=run_storeCells (P:=P) (bs.map byteV) vs k 0 w hst (allOne_bytes bs) (by rw [aD];omega)
 have hx2 : (⟨⟨bs⟩⟩ : ByteArray).extract 0 bs.length = ⟨⟨bs⟩⟩:=by
  apply ByteArray.ext
  apply Array.ext'
  simp
 have hfirst' : (Builtin.firstCells 1 bs.length (strV bs)).run P w = .ok (⟨bs.map byteV⟩ : Array Value) w:=by
  simp only [Builtin.firstCells,Sem.run_pure]
  rw [hx2]
  congr 1
  apply Array.ext'
  simp
 have he' : (execOp ac.eval o).run P w = .ok (.value (.int .i64 (bs.length : Int))) w':=by
  simp only [execOp,ho,resolve,invoke,builtin,Sem.run_bind,Sem.run_pure,Result.andThen_ok,List.map_toArray,ax,ay,ha.env.eval hx,ha.env.eval hy]
  have hlen : (Builtin.lenOf (strV bs)).run P w = .ok bs.length w:=rfl
  have hmin : Nat.min bs.length n=bs.length:=Nat.min_eq_left hle
  simp [Builtin.copy_,hu,hes,hlen,hfirst',hr,goInt,hmin]
 simp only [Oper.wp,he',Oper.upon,hd]
 have hp:=ha.put hN (.int .i64 (bs.length : Int))
 exact ⟨_,_,_,⟨hp.size,hp.env,hp.defers,hst'.back hi⟩,hK⟩
theorem tok_full (b n : Nat) : tok ⟨some ⟨b,0,none⟩,n,n⟩ 1 = .room b n 0:=by simp [tok]
theorem TO.tokFull {l : List Oper} (b n : Nat) (h : TO P N ⟨full⟩ l ρ D m (tok ⟨some ⟨b,0,none⟩,n,n⟩ 1 :: L) Q) : TO P N ⟨full⟩ l ρ D m L Q:=by
 rw [tok_full] at h
 exact TO.room0 b n h
theorem putAt_all {vs cs : List Value} (h : vs.length=cs.length) : putAt vs 0 cs=cs:=by
 rw [putAt_zero (by omega),List.drop_of_length_le (by omega),aQ]
end
end Go.Sep


/- SepZb -/
namespace Go.Sep
section
variable {P : Program} {N : Nat} {ρ : Env} {D : List Deferred} {m : Mem} {L : List Item} {Q : EPost} {full : List Oper} {o : Oper} {K : Env→Mem→List Item→Prop}
theorem OT.freeze {b off : Nat} {vs : List Value} (h : ∀ m',m ≤ m' → At m' b off vs→OT P N o ρ D m' L Q K) : OT P N o ρ D m (.cells b off vs :: L) Q K:=by
 intro a w ha
 obtain ⟨h1,h2,h3⟩:=ha.st.freeze
 exact h _ h1 h2 a w ⟨ha.size,ha.env,ha.defers,h3⟩
theorem u8_and15 (a : Nat) (ha : a < 256) : IntKind.wrap .u8 (((BitVec.ofInt 8 (a : Int)) &&& (BitVec.ofInt 8 15)).toNat : Int)=((a % 16 : Nat) : Int):=by
 have:=(by decide +kernel : ∀ n : Fin 256,IntKind.wrap .u8 (((BitVec.ofInt 8 (n.val : Int)) &&& (BitVec.ofInt 8 15)).toNat : Int)=((n.val % 16 : Nat) : Int)) ⟨a,ha⟩
 exact this
theorem OT.and15 {t t' : TypeId} {x y : Operand} {a : Nat} {d : Nat} (ho : o.op = .binOp .and t x y t') (hd : o.dst=some d) (hN : Nat.blt d N=true)
  (hx : ev ρ x=some (.int .u8 (a : Int))) (hy : ev ρ y=some (.int .u8 15)) (ha' : a < 256) (hK : K ((d, .int .u8 ((a % 16 : Nat) : Int)) :: ρ) m L) : OT P N o ρ D m L Q K:=by
 refine bE hd hN (fun ac w ha=>⟨w, ?_,ha.st⟩) hK
 have hr:=u8_and15 a ha'
 simp only [execOp,ho,ha.env.eval hx,ha.env.eval hy,Sem.run_bind,eqGuard,binOp,Op.intBits]
 simp [IntKind.bits] at hr ⊢
 exact hr
theorem OT.sidxK (T : Tab P) {t : TypeId} {x y : Operand} {s : Str} {i : Int} {kd : IntKind} {b : UInt8} {d : Nat} (k : Nat) (ho : o.op = .index t x y) (hd : o.dst=some d) (hN : Nat.blt d N=true)
  (ht : T.isStr t=true) (hx : ev ρ x=some (strV s)) (hy : ev ρ y=some (.int kd i)) (hi : i=(k : Int)) (hb : s[k]? = some b) (hK : K ((d,byteV b) :: ρ) m L) : OT P N o ρ D m L Q K:=by
 obtain ⟨ti,h1,h2⟩:=isStr_get ht
 subst hi
 refine bE hd hN (fun a w ha=>⟨w, ?_,ha.st⟩) hK
 have hu:=T.run_underlying w h1
 rw [h2] at hu
 have hg:=getElem_data s k hb
 simp only [execOp,ho,ha.env.eval hx,ha.env.eval hy,Instr.index,asIntOf,Sem.run_bind,Sem.run_pure,Result.andThen_ok,hu,aC,Int.natCast_nonneg,if_true,hg]
theorem SlRep.bytes {b : Nat} {bs : List UInt8} {n : Nat} (hA : At m b 0 (bs.map byteV)) (hn : bs.length=n) (hfit : n ≤ 140737488355328) : SlRep rByte m ⟨some ⟨b,0,none⟩,n,n⟩ bs:=by
 subst hn
 exact ⟨rfl,av _,by show bs.length * 1 ≤ _;omega,bs,byte_refl bs, .inr ⟨b,0,rfl,by rw [encs_byte];exact hA⟩⟩
theorem run_bytes_zero {P : Program} (w : World) (src e dst : TypeId) (hs : P.underlying src=some (.slice e)) (he : P.underlying e=some (.int .u8)) (p : Option Addr) (c : Nat) (hd : P.underlying dst=some .string) :
  (convert src dst (.slice p 0 c)).run P w = .ok (.string ByteArray.empty) w:=by
 rw [run_convert_bytes_string w src dst e _ 0 c hs he hd]
 cases p <;> simp [Conv.bytesToString,loadCells]
 all_goals rfl
theorem OT.bytesStrA (T : Tab P) {t u : TypeId} {x : Operand} {s : Sl} {bs : List UInt8} {d : Nat} {e : TypeId} {ei : TI} (ho : o.op = .convert t u x) (hd : o.dst=some d) (hN : Nat.blt d N=true) (hx : ev ρ x=some s.v) (he : T.elem t=some (e,ei)) (hb : ei.u = .int .u8) (hu : T.isStr u=true) (hs : SlRep rByte m s bs)
  (hK : K ((d,strV bs) :: ρ) m L) : OT P N o ρ D m L Q K:=by
 by_cases hpos : 0 < bs.length
 ·exact OT.bytesStr T ho hd hN hx he hb hu hs hpos hK
 ·have h0 : bs=[]:=List.eq_nil_of_length_eq_zero (by omega)
  subst h0
  obtain ⟨ti,h4,h5,h6⟩:=elem_get he
  obtain ⟨ui,u1,u2⟩:=isStr_get hu
  obtain ⟨_,_,hut,_⟩:=T.ok t ti h4
  rw [h5] at hut
  obtain ⟨_,_,huu,_⟩:=T.ok u ui u1
  rw [u2] at huu
  obtain ⟨_,_,hue,_⟩:=T.ok e ei h6
  rw [hb] at hue
  refine bE hd hN (fun ac w ha=>⟨w, ?_,ha.st⟩) hK
  obtain ⟨a,n,c⟩:=s
  have hlen : n=0:=hs.len
  subst hlen
  have hr:=run_bytes_zero (P:=P) w t e u hut hue a c huu
  simp only [execOp,ho,ha.env.eval hx,Sl.v,Sem.run_bind,hr,Result.andThen_ok,Sem.run_pure]
  rfl
theorem TC.tokFull {c : Code} (b n : Nat) (h : TC P N c ρ D m (tok ⟨some ⟨b,0,none⟩,n,n⟩ 1 :: L) Q) : TC P N c ρ D m L Q:=by
 rw [tok_full] at h
 exact TC.room0 b n h
end
end Go.Sep
namespace Go
abbrev cn := @Sep.OT.freeze
abbrev co := @Sep.OT.sidxK
abbrev cp := @Sep.SlRep.bytes
end Go

/- SepZc -/
namespace Go.Sep
section
variable {P : Program} {N : Nat} {ρ : Env} {D : List Deferred} {m : Mem} {L Ls Lp : List Item} {Q : EPost} {ops : List Oper} {ts : List Nat} {fuel : Nat} {listed : List Bool}
theorem DO.sidx (T : Tab P) (i : Nat) {t : TypeId} {x y : Operand} {o : Oper} {s : Str} {iv : Int} {kd : IntKind} {b : UInt8} {d : Nat} (k : Nat) (hc : Calm Q) (hns : Region.noSelect ⟨ops⟩ = true) (hok : orderOkP ops ts [i] listed=true)
  (hi : ops[i]? = some o) (hg : gv ops ρ o=some true) (ho : o.op = .index t x y) (hd : o.dst=some d) (hN : Nat.blt d N=true)
  (ht : T.isStr t=true) (hx : ev ρ x=some (strV s)) (hy : ev ρ y=some (.int kd iv)) (hik : iv=(k : Int)) (hb : s[k]? = some b)
  (h : DO P N ops ts fuel (listed.set i true) ((d,byteV b) :: ρ) D m Ls Lp Q) : DO P N ops ts (fuel + 1) listed ρ D m Ls Lp Q:=by
 simp only [orderOkP,aj] at hok
 obtain ⟨o1,o2,o3,_⟩:=hok
 obtain ⟨ti,h1,h2⟩:=isStr_get ht
 subst hik
 refine DO.takeP i hc hi hd hN hg hns o1 o2 (by simpa using o3) (fun ac w hA => ?_) h
 have hu:=T.run_underlying w h1
 rw [h2] at hu
 have hg:=getElem_data s k hb
 simp only [execOp,ho,hA.eval hx,hA.eval hy,Instr.index,asIntOf,Sem.run_bind,Sem.run_pure,Result.andThen_ok,hu,aC,Int.natCast_nonneg,if_true,hg]
theorem DO.conv (T : Tab P) (i : Nat) {s t : TypeId} {x : Operand} {o : Oper} {k ks kt : IntKind} {d : Nat} {a r : Int} (hc : Calm Q) (hns : Region.noSelect ⟨ops⟩ = true) (hok : orderOkP ops ts [i] listed=true)
  (hi : ops[i]? = some o) (hg : gv ops ρ o=some true) (ho : o.op = .convert s t x) (hd : o.dst=some d) (hN : Nat.blt d N=true)
  (hs : T.intK s=some ks) (ht : T.intK t=some kt) (hx : ev ρ x=some (.int k a)) (hr : kt.wrap a=r)
  (h : DO P N ops ts fuel (listed.set i true) ((d, .int kt r) :: ρ) D m Ls Lp Q) : DO P N ops ts (fuel + 1) listed ρ D m Ls Lp Q:=by
 simp only [orderOkP,aj] at hok
 obtain ⟨o1,o2,o3,_⟩:=hok
 obtain ⟨si,s1,s2⟩:=intK_get hs
 obtain ⟨ti,t1,t2⟩:=intK_get ht
 refine DO.takeP i hc hi hd hN hg hns o1 o2 (by simpa using o3) (fun ac w hA => ?_) h
 have hus:=T.run_underlying w s1
 have hut:=T.run_underlying w t1
 rw [s2] at hus
 rw [t2] at hut
 simp only [execOp,ho,hA.eval hx,Go.convert,Sem.run_bind,hus,hut,Result.andThen_ok,Conv.intToInt,Sem.run_pure,hr]
end
section
variable {P : Program} {N : Nat} {ρ : Env} {D : List Deferred} {m : Mem} {L : List Item} {Q : EPost} {o : Oper} {K : Env→Mem→List Item→Prop}
end
end Go.Sep


/- SepZd -/
namespace Go.Sep
structure ORow {H : Type} (s : Sl) (hs : List H) : Prop where
 len : s.len ≤ s.cap
 all : hs.length=s.cap
 adr : (s = ⟨none,0,0⟩) ∨ ∃ b,s.a=some ⟨b,0,none⟩
theorem ORow.nil {H : Type} : ORow (H:=H) ⟨none,0,0⟩ []:=⟨av _,rfl, .inl rfl⟩
theorem ORow.pos {H : Type} {s : Sl} {hs : List H} (h : ORow s hs) (hp : 0 < s.len) : ∃ b,s = ⟨some ⟨b,0,none⟩,s.len,s.cap⟩:=by
 rcases h.adr with e | ⟨b,e⟩
 ·rw [e] at hp;simp at hp
 ·refine ⟨b, ?_⟩
  obtain ⟨a,n,c⟩:=s
  simp only at e
  rw [e]
section
variable {P : Program} {N : Nat} {ρ : Env} {D : List Deferred} {m : Mem} {L : List Item} {Q : EPost} {full : List Oper} {o : Oper} {K : Env→Mem→List Item→Prop}
end
end Go.Sep


/- SepHp -/
set_option linter.unusedSectionVars false
namespace Go.Sep
section
variable {α : Type} [Inhabited α]
def gk (xs : List α) (k : Nat) : α:=xs[k]?.getD default
def sw (xs : List α) (i j : Nat) : List α:=(xs.set i (gk xs j)).set j (gk xs i)
theorem sw_length (xs : List α) (i j : Nat) : (sw xs i j).length=xs.length:=by simp [sw]
theorem gk_get {xs : List α} {k : Nat} (h : k < xs.length) : xs[k]? = some (gk xs k):=by
 unfold gk
 rw [ak h]
 rfl
theorem gk_set {xs : List α} {i k : Nat} {x : α} (h : i < xs.length) : gk (xs.set i x) k=if i=k then x else gk xs k:=by
 unfold gk
 rw [List.getElem?_set]
 split
 ·simp [h]
 ·rfl
theorem gk_sw {xs : List α} {i j k : Nat} (hi : i < xs.length) (hj : j < xs.length) : gk (sw xs i j) k=if k=j then gk xs i else if k=i then gk xs j else gk xs k:=by
 unfold sw
 rw [gk_set (by simpa using hj),gk_set hi]
 by_cases h1 : j=k
 ·simp [h1]
 ·by_cases h2 : i=k
  ·simp [h1,h2,Ne.symm h1]
  ·simp [h1,h2,Ne.symm h1,Ne.symm h2]
theorem gk_take {xs : List α} {n k : Nat} (h : k < n) : gk (xs.take n) k=gk xs k:=by
 unfold gk
 rw [List.getElem?_take,if_pos h]
theorem set_perm {xs : List α} {i : Nat} (hi : i < xs.length) (x : α) : (gk xs i :: xs.set i x).Perm (x :: xs):=by
 induction xs generalizing i with
 | nil=>simp at hi
 | cons y ys ih =>
  cases i with
  | zero=>simp only [gk,List.getElem?_cons_zero,Option.getD_some,List.set_cons_zero];exact ag _ _ _
  | succ i =>
   simp only [List.set_cons_succ]
   have:=ih (i:=i) (by simpa using hi)
   have e : gk (y :: ys) (i + 1)=gk ys i:=by simp [gk]
   rw [e]
   exact (ag _ _ _).trans ((this.cons y).trans (ag _ _ _))
theorem sw_perm {xs : List α} {i j : Nat} (hi : i < xs.length) (hj : j < xs.length) : (sw xs i j).Perm xs:=by
 by_cases e : i=j
 ·subst e
  unfold sw
  rw [List.set_set]
  have : xs.set i (gk xs i)=xs:=by
   apply List.ext_getElem?
   intro k
   rw [List.getElem?_set]
   split
   ·rename_i h;subst h;exact (gk_get hi).symm
   ·rfl
  rw [this]
 ·have h1:=set_perm hi (gk xs j)
  have hj2 : j < (xs.set i (gk xs j)).length:=by simpa using hj
  have h2:=set_perm hj2 (gk xs i)
  have e2 : gk (xs.set i (gk xs j)) j=gk xs j:=by rw [gk_set hi];simp [e]
  rw [e2] at h2
  have h3 : (gk xs j :: sw xs i j).Perm (gk xs j :: xs):=h2.trans h1
  exact (List.perm_cons _).1 h3
theorem sw_take {xs : List α} {i j n : Nat} (hi : i < n) (hj : j < n) : (sw xs i j).take n=sw (xs.take n) i j:=by
 unfold sw
 rw [List.take_set,List.take_set,gk_take hi,gk_take hj]
theorem sw_drop {xs : List α} {i j n : Nat} (hi : i < n) (hj : j < n) : (sw xs i j).drop n=xs.drop n:=by
 unfold sw
 rw [List.drop_set_of_lt hj,List.drop_set_of_lt hi]
structure Mix (n : Nat) (xs ys : List α) : Prop where
 len : ys.length=xs.length
 perm : (ys.take n).Perm (xs.take n)
 rest : ys.drop n=xs.drop n
theorem Mix.refl (n : Nat) (xs : List α) : Mix n xs xs:=⟨rfl, .refl _,rfl⟩
theorem Mix.trans {n : Nat} {xs ys zs : List α} (h : Mix n xs ys) (k : Mix n ys zs) : Mix n xs zs:=⟨k.len.trans h.len,k.perm.trans h.perm,k.rest.trans h.rest⟩
theorem Mix.sw {n i j : Nat} {xs : List α} (hi : i < n) (hj : j < n) (hn : n ≤ xs.length) : Mix n xs (sw xs i j):=by
 refine ⟨sw_length _ _ _, ?_,sw_drop hi hj⟩
 rw [sw_take hi hj]
 exact sw_perm (by simp;omega) (by simp;omega)
structure OrdK (lt : α → α → Bool) : Prop where
 asym : ∀ a b,lt a b=true→lt b a=false
 trans : ∀ a b c,lt b a=false→lt c b=false→lt c a=false
def par (k : Nat) : Nat:=(k - 1) / 2
variable {lt : α → α → Bool}
def HF (lt : α → α → Bool) (xs : List α) (n lo : Nat) : Prop := ∀ k,0 < k→k < n→lo ≤ par k→lt (gk xs k) (gk xs (par k))=false
structure DI (lt : α → α → Bool) (xs : List α) (n lo i : Nat) : Prop where
 a : ∀ k,0 < k→k < n→lo ≤ par k→par k ≠ i→lt (gk xs k) (gk xs (par k))=false
 b : ∀ k,0 < k→k < n→par k=i→0 < i→lo ≤ par i→lt (gk xs k) (gk xs (par i))=false
theorem HF.half {xs : List α} {n : Nat} : HF lt xs n (n / 2):=fun k h1 h2 h3=>by
 unfold par at h3
 omega
theorem DI.start {xs : List α} {n lo : Nat} (h : HF lt xs n (lo + 1)) : DI lt xs n lo lo :=
 ⟨fun k h1 h2 h3 h4=>h k h1 h2 (by omega),fun k h1 h2 h3 h4 h5=>by unfold par at h5;omega⟩
theorem DI.done {xs : List α} {n lo i j : Nat} (O : OrdK lt) (h : DI lt xs n lo i) (hj : ∀ k,0 < k→k < n→par k=i→lt (gk xs k) (gk xs j)=false) (hl : lt (gk xs j) (gk xs i)=false) : HF lt xs n lo:=fun k h1 h2 h3=>by
 by_cases e : par k=i
 ·rw [e]
  exact O.trans _ _ _ hl (hj k h1 h2 e)
 ·exact h.a k h1 h2 h3 e
theorem DI.step {xs : List α} {n lo i j : Nat} (O : OrdK lt) (h : DI lt xs n lo i) (hn : n ≤ xs.length) (hlo : lo ≤ i) (hjn : j < n) (hj0 : 0 < j) (hji : par j=i) (hj : ∀ k,0 < k→k < n→par k=i→lt (gk xs k) (gk xs j)=false) (hl : lt (gk xs j) (gk xs i)=true) : DI lt (sw xs i j) n lo j:=by
 have hij : i < j:=by unfold par at hji;omega
 have hi' : i < xs.length:=by omega
 have hj' : j < xs.length:=by omega
 refine ⟨fun k h1 h2 h3 h4 => ?_,fun k h1 h2 h3 h4 h5 => ?_⟩
 ·rw [gk_sw hi' hj',gk_sw hi' hj']
  rw [if_neg h4]
  by_cases e1 : k=j
  ·rw [if_pos e1,e1,hji,if_pos rfl]
   exact O.asym _ _ hl
  ·rw [if_neg e1]
   by_cases e2 : k=i
   ·rw [if_pos e2]
    have e3 : par k ≠ i:=by unfold par;omega
    rw [if_neg e3,e2]
    have:=h.b j hj0 hjn hji (by omega) (by rw [← e2];exact h3)
    exact this
   ·rw [if_neg e2]
    by_cases e3 : par k=i
    ·rw [if_pos e3]
     exact hj k h1 h2 e3
    ·rw [if_neg e3]
     exact h.a k h1 h2 h3 e3
 ·rw [hji,gk_sw hi' hj',gk_sw hi' hj',if_neg (show i ≠ j by omega),if_pos rfl]
  have e1 : k ≠ j:=by unfold par at h3;omega
  have e2 : k ≠ i:=by unfold par at h3;omega
  rw [if_neg e1,if_neg e2,← h3]
  exact h.a k h1 h2 (by rw [h3];omega) (by rw [h3];omega)
theorem HF.min {xs : List α} {n : Nat} (O : OrdK lt) (h : HF lt xs n 0) (hirr : ∀ a,lt a a=false) : ∀ k,k < n→lt (gk xs k) (gk xs 0)=false:=by
 intro k
 induction k using Nat.strongRecOn with
 | ind k ih =>
  intro hk
  by_cases e : k=0
  ·rw [e];exact hirr _
  ·have h1 : par k < k:=by unfold par;omega
   exact O.trans _ _ _ (ih (par k) h1 (by omega)) (h k (by omega) hk (aU _))
structure UI (lt : α → α → Bool) (xs : List α) (n j : Nat) : Prop where
 a : ∀ k,0 < k→k < n→k ≠ j→lt (gk xs k) (gk xs (par k))=false
 b : ∀ k,0 < k→k < n→par k=j→0 < j→lt (gk xs k) (gk xs (par j))=false
theorem UI.start {xs : List α} {n : Nat} (h : HF lt xs n 0) : UI lt xs (n + 1) n :=
 ⟨fun k h1 h2 h3=>h k h1 (by omega) (aU _),fun k h1 h2 h3=>by unfold par at h3;omega⟩
theorem UI.done {xs : List α} {n j : Nat} (h : UI lt xs n j) (hj : j=0 ∨ lt (gk xs j) (gk xs (par j))=false) : HF lt xs n 0:=fun k h1 h2 h3=>by
 by_cases e : k=j
 ·subst e
  rcases hj with e | e
  ·omega
  ·exact e
 ·exact h.a k h1 h2 e
theorem UI.step {xs : List α} {n j : Nat} (O : OrdK lt) (h : UI lt xs n j) (hn : n ≤ xs.length) (hjn : j < n) (h0 : 0 < j) (hl : lt (gk xs j) (gk xs (par j))=true) : UI lt (sw xs (par j) j) n (par j):=by
 have hp : par j < j:=by unfold par;omega
 refine ⟨fun k h1 h2 h3 => ?_,fun k h1 h2 h3 h4 => ?_⟩
 ·rw [gk_sw (by omega) (by omega),gk_sw (by omega) (by omega),if_neg h3]
  by_cases e1 : k=j
  ·subst e1
   rw [if_pos rfl,if_neg (by omega),if_pos rfl]
   exact O.asym _ _ hl
  ·rw [if_neg e1]
   by_cases e2 : par k=j
   ·rw [if_pos e2]
    exact h.b k h1 h2 e2 h0
   ·rw [if_neg e2]
    by_cases e3 : par k=par j
    ·rw [if_pos e3]
     have:=h.a k h1 h2 e1
     rw [e3] at this
     exact O.trans _ _ _ (O.asym _ _ hl) this
    ·rw [if_neg e3]
     exact h.a k h1 h2 e1
 ·have hpp : par (par j) < par j:=by unfold par at h4 ⊢;omega
  rw [gk_sw (by omega) (by omega),gk_sw (by omega) (by omega),if_neg (show par (par j) ≠ j by omega),if_neg (show par (par j) ≠ par j by omega)]
  have hup:=h.a (par j) h4 (by omega) (by omega)
  by_cases e1 : k=j
  ·rw [if_pos e1];exact hup
  ·have hk : k ≠ par j:=by
    intro e;rw [e] at h3;omega
   rw [if_neg e1,if_neg hk]
   have:=h.a k h1 h2 e1
   rw [h3] at this
   exact O.trans _ _ _ hup this
end
end Go.Sep


/- SepZe -/
namespace Go.Sep
section
variable {P : Program} {N : Nat} {ρ : Env} {D : List Deferred} {m : Mem} {L : List Item} {Q : EPost} {full : List Oper} {o : Oper} {K : Env→Mem→List Item→Prop}
end
section
variable {P : Program} {N : Nat} {ρ : Env} {D : List Deferred} {m : Mem} {Q : EPost} {ops : List Oper} {ts : List Nat} {fuel : Nat} {listed : List Bool} {Ls Lp : List Item}
end
theorem encs_int (l : List Int) : encs rInt l=l.map (Value.int .i64):=by
 induction l with
 | nil=>rfl
 | cons x xs ih=>simpa [encs,rInt] using ih
structure IRow (s : Sl) (b : Nat) (n : Nat) : Prop where
 len : s.len=n
 cap : s.len ≤ s.cap
 pos : 0 < n → ∃ c,s = ⟨some ⟨b,0,none⟩,n,c⟩
 nil : n=0→s.a=none→s.cap=0
theorem IRow.rep {m : Mem} {s : Sl} {b : Nat} {l : List Int} (h : IRow s b l.length) (hA : At m b 0 (l.map (Value.int .i64))) (hn : l.length ≤ 1000000) : SlRep rInt m s l:=by
 refine ⟨h.len,h.cap,by rw [h.len];simp only [rInt];omega,l, ?_, ?_⟩
 ·clear h hA hn
  induction l with
  | nil=>trivial
  | cons x xs ih=>exact ⟨rfl,ih⟩
 ·by_cases e : l=[]
  ·exact .inl ⟨e,h.nil (by rw [e];rfl)⟩
  ·obtain ⟨c,hc⟩:=h.pos (List.length_pos_iff.2 e)
   exact .inr ⟨b,0,by rw [hc],by rw [encs_int];exact hA⟩
section
variable {P : Program} {N : Nat} {ρ : Env} {D : List Deferred} {m : Mem} {L : List Item} {Q : EPost} {full : List Oper} {o : Oper} {K : Env→Mem→List Item→Prop}
end
section
variable {P : Program} {N : Nat} {ρ : Env} {D : List Deferred} {m : Mem} {L : List Item} {Q : EPost} {full : List Oper}
end
end Go.Sep


/- SepPo -/
namespace Go.Sep
section
variable {P : Program} {N : Nat} {ρ : Env} {D : List Deferred} {m : Mem} {L : List Item} {Q : EPost} {full : List Oper} {o : Oper} {K : Env→Mem→List Item→Prop}
theorem OT.litR {H α : Type} (T : Tab P) (r : R H α) {hs : List H} {l : List α} {t : TypeId} {n d : Nat} {ps : List (Nat × Operand)} (h2 : All2 (r.rep m) hs l) (ho : o.op = .buildSlice t n ⟨ps⟩) (hd : o.dst=some d) (hN : Nat.blt d N=true)
  (hv : T.lit ρ t n ps=some (encs r hs)) (hn : l.length=n) (hfit : n * r.bytes ≤ 140737488355328)
  (hK : ∀ s m',m ≤ m' → SlRep r m' s l→Own s→s.cap=s.len→K ((d,s.v) :: ρ) m' L) : OT P N o ρ D m L Q K:=by
 intro a w ha
 refine Oper.wp_mono (fun a' w' hl => ?_) (cd (K:=fun ρ' m' L' => ∃ b, ρ' = (d, .slice (some ⟨b,0,none⟩) n n) :: ρ ∧ m' = m∧L' = .cells b 0 (encs r hs) :: L) T ho hd hN hv (fun b=>⟨b,rfl,rfl,rfl⟩) a w ha)
 obtain ⟨ρ',m',L',h1,b,rfl,rfl,rfl⟩:=hl
 obtain ⟨g1,g2,g3⟩:=h1.st.freeze
 exact ⟨_,_,_,⟨h1.size,h1.env,h1.defers,g3⟩,hK ⟨some ⟨b,0,none⟩,n,n⟩ _ g1 ⟨hn.symm,av _,hfit,hs,h2.mono fun _ _=>r.mono g1, .inr ⟨b,0,rfl,g2⟩⟩ (.inr ⟨b,0,rfl⟩) rfl⟩
theorem tok_fullO {s : Sl} (h : s.cap=s.len) (ho : Own s) (size : Nat) : ∃ b off,tok s size = .room b off 0:=by
 rcases ho with rfl | ⟨b,o,ha⟩
 ·exact ⟨0,0,rfl⟩
 ·exact ⟨b,o + s.len * size,by unfold tok;rw [ha,h];simp⟩
theorem TO.tokFo {l : List Oper} {s : Sl} (h : s.cap=s.len) (ho : Own s) (size : Nat) (hK : TO P N ⟨full⟩ l ρ D m (tok s size :: L) Q) : TO P N ⟨full⟩ l ρ D m L Q:=by
 obtain ⟨b,off,hb⟩:=tok_fullO h ho size
 rw [hb] at hK
 exact TO.room0 b off hK
theorem OT.tokFo {s : Sl} (h : s.cap=s.len) (ho : Own s) (size : Nat) (hK : OT P N o ρ D m (tok s size :: L) Q K) : OT P N o ρ D m L Q K:=by
 obtain ⟨b,off,hb⟩:=tok_fullO h ho size
 rw [hb] at hK
 exact fun a w ha=>hK a w ⟨ha.size,ha.env,ha.defers,ha.st.room0 b off⟩
theorem OT.assertOk (T : Tab P) {x : Operand} {xt t : TypeId} {v : Value} {d : Nat} (ho : o.op = .typeAssert x xt t true) (hd : o.dst=some d) (hN : Nat.blt d N=true) (hx : ev ρ x=some (.iface t v)) (ht : T.notIface t=true)
  (hK : K ((d, .tuple ⟨[v, .bool true]⟩) :: ρ) m L) : OT P N o ρ D m L Q K:=by
 refine bE hd hN (fun ac w ha=>⟨w, ?_,ha.st⟩) hK
 unfold Tab.notIface at ht
 split at ht
 ·cases ht
 ·rename_i i hne hg
  have hu:=T.run_underlying w hg
  simp only [execOp,ho,ha.env.eval hx,Instr.typeAssert,Sem.run_bind,hu,Result.andThen_ok]
  cases hi : i.u with
  | interface ms =>
   obtain ⟨u,a,b,c⟩:=i
   simp only at hi
   subst hi
   exact absurd rfl (hne ms a b c)
  | _=>simp
 ·cases ht
end
end Go.Sep
namespace Go
abbrev cq := @Sep.OT.litR
end Go

/- SepAu -/
namespace Go.Sep
theorem uA {p p' : Prop} (hp : p') (h : p' → p:=by (intro h; (repeat (first|refine q1 ?_|refine q2 ?_|refine q3 ?_|refine q4 tab rfl rfl ?_|refine q5 ?_|refine q6 ?_|refine q7 ?_|refine q8 ?_|refine q9 ?_|refine q10 ?_|refine q11 ?_|refine q12 rfl ?_|refine q13 ?_|refine q14 ?_|refine q15 ?_|refine q16 rfl ?_|refine q17 rfl ?_));exact h)) : p:=h hp
theorem uN {p p' : Prop} (hp : p') (h : p' → p:=by (intro h; (repeat (first|refine q1 ?_|refine q2 ?_|refine q3 ?_|refine q4 tab rfl rfl ?_|refine q5 ?_|refine q6 ?_|refine q7 ?_|refine q8 ?_|refine q9 ?_|refine q10 ?_|refine q11 ?_|refine q12 rfl ?_|refine q13 ?_|refine q14 ?_|refine q15 ?_));exact h)) : p:=h hp
theorem uB {p p' : Prop} (hp : p') (h : p' → p:=by (intro h; (repeat (first|refine q1 ?_|refine q3 ?_|refine q4 tab rfl rfl ?_|refine q5 ?_|refine q6 ?_|refine q7 ?_|refine q8 ?_|refine q9 ?_|refine q10 ?_|refine q11 ?_|refine q12 rfl ?_|refine q13 ?_|refine q14 ?_|refine q15 ?_|refine q16 rfl ?_|refine q17 rfl ?_));exact h)) : p:=h hp
theorem uL {p p' : Prop} (hp : p') (h : p' → p:=by (intro h; (repeat (first|refine q1 ?_|refine q2 ?_|refine q3 ?_|refine q4 tab rfl rfl ?_|refine q5 ?_|refine q6 ?_|refine q7 ?_|refine q8 ?_|refine q9 ?_|refine q10 ?_|refine q11 ?_|refine q12 rfl ?_|refine q13 ?_|refine q14 ?_|refine q15 ?_|refine q16 rfl ?_|refine q17 rfl ?_|refine qs rfl (ql tab 0 rfl rfl rfl rfl rfl rfl ?_)|refine qs rfl (qz tab 0 rfl rfl rfl rfl rfl rfl ?_)|refine qs rfl (ql tab 1 rfl rfl rfl rfl rfl rfl ?_)|refine qs rfl (qz tab 1 rfl rfl rfl rfl rfl rfl ?_)|refine qs rfl (ql tab 2 rfl rfl rfl rfl rfl rfl ?_)|refine qs rfl (qz tab 2 rfl rfl rfl rfl rfl rfl ?_)|refine qs rfl (ql tab 3 rfl rfl rfl rfl rfl rfl ?_)|refine qs rfl (qz tab 3 rfl rfl rfl rfl rfl rfl ?_)|refine qs rfl (ql tab 4 rfl rfl rfl rfl rfl rfl ?_)|refine qs rfl (qz tab 4 rfl rfl rfl rfl rfl rfl ?_)|refine qs rfl (ql tab 5 rfl rfl rfl rfl rfl rfl ?_)|refine qs rfl (qz tab 5 rfl rfl rfl rfl rfl rfl ?_)));exact h)) : p:=h hp
theorem uM {p p' : Prop} (hp : p') (h : p' → p:=by (intro h; (first|refine qs rfl (ql tab 0 rfl rfl rfl rfl rfl rfl ?_)|refine qs rfl (qz tab 0 rfl rfl rfl rfl rfl rfl ?_)|refine qs rfl (ql tab 1 rfl rfl rfl rfl rfl rfl ?_)|refine qs rfl (qz tab 1 rfl rfl rfl rfl rfl rfl ?_)|refine qs rfl (ql tab 2 rfl rfl rfl rfl rfl rfl ?_)|refine qs rfl (qz tab 2 rfl rfl rfl rfl rfl rfl ?_)|refine qs rfl (ql tab 3 rfl rfl rfl rfl rfl rfl ?_)|refine qs rfl (qz tab 3 rfl rfl rfl rfl rfl rfl ?_)|refine qs rfl (ql tab 4 rfl rfl rfl rfl rfl rfl ?_)|refine qs rfl (qz tab 4 rfl rfl rfl rfl rfl rfl ?_)|refine qs rfl (ql tab 5 rfl rfl rfl rfl rfl rfl ?_)|refine qs rfl (qz tab 5 rfl rfl rfl rfl rfl rfl ?_));exact h)) : p:=h hp
theorem uT {p p' : Prop} (hp : p') (h : p' → p:=by (intro h; (first|refine qs rfl (bI tab 0 rfl rfl rfl rfl rfl rfl rfl rfl ?_)|refine qs rfl (bJ tab 0 rfl rfl rfl rfl rfl rfl rfl rfl ?_)|refine qs rfl (bI tab 1 rfl rfl rfl rfl rfl rfl rfl rfl ?_)|refine qs rfl (bJ tab 1 rfl rfl rfl rfl rfl rfl rfl rfl ?_)|refine qs rfl (bI tab 2 rfl rfl rfl rfl rfl rfl rfl rfl ?_)|refine qs rfl (bJ tab 2 rfl rfl rfl rfl rfl rfl rfl rfl ?_)|refine qs rfl (bI tab 3 rfl rfl rfl rfl rfl rfl rfl rfl ?_)|refine qs rfl (bJ tab 3 rfl rfl rfl rfl rfl rfl rfl rfl ?_)|refine qs rfl (bI tab 4 rfl rfl rfl rfl rfl rfl rfl rfl ?_)|refine qs rfl (bJ tab 4 rfl rfl rfl rfl rfl rfl rfl rfl ?_)|refine qs rfl (bI tab 5 rfl rfl rfl rfl rfl rfl rfl rfl ?_)|refine qs rfl (bJ tab 5 rfl rfl rfl rfl rfl rfl rfl rfl ?_));exact h)) : p:=h hp
theorem uS {α : Type} {l l' : List α} (h : l'.Sublist l:=by (repeat (first | exact aP _ | exact List.sublist_append_left _ _ | refine aN _ ?_ | refine aO _ ?_))) : l'.Sublist l:=h
theorem uH {p : Prop} (h : p:=by (repeat (first | exact trivial | refine And.intro rfl ?_))) : p:=h
theorem uC {Q : EPost} (h : Calm Q:=by (repeat (first | exact bU | exact Calm.quiet | refine bS ?_ | refine bT ?_ | assumption))) : Calm Q:=h
theorem uP {α : Type} {l l' : List α} (h : l.Perm l':=by (first | exact af _ | (rw [aQ];exact af _))) : l.Perm l':=h
section
variable {P : Program} {N : Nat} {ρ : Env} {D : List Deferred} {m : Mem} {L : List Item} {Q : EPost} {full : List Oper} {o : Oper} {rest : List Oper}
theorem oC {F : Operand} {args : List Operand} {ats : Array TypeId} {f : FuncId} {first cap vs all : List Value} {d : Nat} (hg : Goes P f)
 (h : TCallX P f ⟨all⟩ m L (fun v m' L' => TO P N ⟨full⟩ rest ((d,v) :: ρ) D m' L' Q) (fun ch m' L' => Q (.panic ch) ρ D m' L'))
 (h0 : gv full ρ o=some true:=by exact rfl) (ho : o.op=.call ⟨.value F,⟨args⟩,ats⟩:=by exact rfl) (hd : o.dst=some d:=by exact rfl) (hN : Nat.blt d N=true:=by exact rfl)
 (hF : ev ρ F=some (.func (.func f) ⟨first⟩ ⟨cap⟩):=by exact rfl) (ha : evs ρ args=some vs:=by exact rfl) (hall : fl (first++(vs++cap))=some all:=by exact rfl) : TO P N ⟨full⟩ (o :: rest) ρ D m L Q :=
 TO.step h0 (OT.call ho hd hN hF ha hall hg h)
theorem oB {x : Operand} {t : TypeId} {d : Nat} {v : Value} {cs : List Value} (hK : ∀ b,TO P N ⟨full⟩ rest ((d,.pointer (some ⟨b,0,none⟩)) :: ρ) D m (.cells b 0 cs :: L) Q)
 (h0 : gv full ρ o=some true:=by exact rfl) (ho : o.op=.box t x:=by exact rfl) (hd : o.dst=some d:=by exact rfl) (hN : Nat.blt d N=true:=by exact rfl) (hx : ev ρ x=some v:=by exact rfl) (hv : cellsF v=some cs:=by exact rfl) : TO P N ⟨full⟩ (o :: rest) ρ D m L Q :=
 TO.step h0 (OT.box ho hd hN hx hv hK)
theorem oA (T : Tab P) {t : TypeId} {d : Nat} {cs : List Value} (hK : ∀ b,TO P N ⟨full⟩ rest ((d,.pointer (some ⟨b,0,none⟩)) :: ρ) D m (.cells b 0 cs :: L) Q)
 (h0 : gv full ρ o=some true:=by exact rfl) (ho : o.op=.alloc t:=by exact rfl) (hd : o.dst=some d:=by exact rfl) (hN : Nat.blt d N=true:=by exact rfl) (hv : T.zeroCells t=some cs:=by exact rfl) : TO P N ⟨full⟩ (o :: rest) ρ D m L Q :=
 TO.step h0 (OT.alloc T ho hd hN hv hK)
theorem oL (T : Tab P) {x : Operand} {t : TypeId} {b off d : Nat} {cs : List Value} {v : Value} (hi : At m b off cs) (hK : TO P N ⟨full⟩ rest ((d,v) :: ρ) D m L Q)
 (h0 : gv full ρ o=some true:=by exact rfl) (ho : o.op=.load t x:=by exact rfl) (hd : o.dst=some d:=by exact rfl) (hN : Nat.blt d N=true:=by exact rfl)
 (hx : ev ρ x=some (.pointer (some ⟨b,off,none⟩)):=by exact rfl) (hv : T.load t cs 0=some v:=by exact rfl) : TO P N ⟨full⟩ (o :: rest) ρ D m L Q :=
 TO.step h0 (OT.loadA0 T hi ho hd hN hx hv hK)
end
end Go.Sep


/- ScTab -/
namespace Go.Sep
open Go.Proofs
noncomputable def tiOf (i d : TypeInfo) : TI:=⟨d.desc,i.size,i.bytes,match i.zero with | some z=>z | none=>undef⟩
def GoodTI (P : Program) (t : TypeId) (i : TI) : Prop := ∃ info,P.info? t=some info∧P.underlying t=some i.u∧info.size=i.size∧info.bytes=i.bytes∧info.zero=some i.zero
theorem goodTI {P : Program} {t : TypeId} {i d : TypeInfo} (h1 : P.info? t=some i) (h2 : P.underlying t=some d.desc) (h3 : i.zero.isSome=true) : GoodTI P t (tiOf i d):=by
 refine ⟨i,h1,h2,rfl,rfl, ?_⟩
 cases hz : i.zero with
 | none=>rw [hz] at h3;cases h3
 | some z=>simp [tiOf,hz]
inductive TT where
 | nil
 | node (l : TT) (k : Nat) (i : TI) (r : TT)
def getT : TT→Nat→Option TI
 | .nil,_=>none
 | .node l k i r,t=>bif Nat.beq t k then some i else bif Nat.blt t k then getT l t else getT r t
def AllT (P : Program) : TT→Prop
 | .nil=>True
 | .node l k i r=>AllT P l∧GoodTI P k i∧AllT P r
theorem getT_ok {P : Program} : ∀ {l : TT},AllT P l → ∀ t i,getT l t=some i→GoodTI P t i
 | .nil,_,t,i,h=>by cases h
 | .node l k x r,hl,t,i,h=>by
  simp only [getT] at h
  cases hb : Nat.beq t k with
  | true =>
   have : t=k:=Nat.eq_of_beq_eq_true hb
   subst this
   simp only [hb,bh,an] at h
   subst h
   exact hl.2.1
  | false =>
   simp only [hb,bg] at h
   cases hc : Nat.blt t k with
   | true=>simp only [hc,bh] at h;exact getT_ok hl.1 t i h
   | false=>simp only [hc,bg] at h;exact getT_ok hl.2.2 t i h
noncomputable def tbl : TT:=(.node (.node (.node (.node (.node (.node (.node (.node .nil 1 (tiOf Tryz.t1 Tryz.t1) .nil) 2 (tiOf Tryz.t2 Tryz.t2) (.node .nil 3 (tiOf Tryz.t3 Tryz.t3) .nil)) 4 (tiOf Tryz.t4 Tryz.t4) (.node (.node .nil 5 (tiOf Tryz.t5 Tryz.t5) .nil) 7 (tiOf Tryz.t7 Tryz.t7) .nil)) 9 (tiOf Tryz.t9 Tryz.t9) (.node (.node (.node .nil 12 (tiOf Tryz.t12 Tryz.t12) .nil) 13 (tiOf Tryz.t13 Tryz.t13) .nil) 15 (tiOf Tryz.t15 Tryz.t15) (.node (.node .nil 16 (tiOf Tryz.t16 Tryz.t16) .nil) 17 (tiOf Tryz.t17 Tryz.t17) .nil))) 18 (tiOf Tryz.t18 Tryz.t18) (.node (.node (.node (.node .nil 20 (tiOf Tryz.t20 Tryz.t20) .nil) 21 (tiOf Tryz.t21 Tryz.t21) .nil) 22 (tiOf Tryz.t22 Tryz.t22) (.node (.node .nil 23 (tiOf Tryz.t23 Tryz.t23) .nil) 24 (tiOf Tryz.t24 Tryz.t23) .nil)) 25 (tiOf Tryz.t25 Tryz.t25) (.node (.node (.node .nil 26 (tiOf Tryz.t26 Tryz.t26) .nil) 27 (tiOf Tryz.t27 Tryz.t27) .nil) 28 (tiOf Tryz.t28 Tryz.t28) (.node (.node .nil 29 (tiOf Tryz.t29 Tryz.t28) .nil) 30 (tiOf Tryz.t30 Tryz.t3) .nil)))) 31 (tiOf Tryz.t31 Tryz.t31) (.node (.node (.node (.node (.node .nil 32 (tiOf Tryz.t32 Tryz.t32) .nil) 33 (tiOf Tryz.t33 Tryz.t33) .nil) 34 (tiOf Tryz.t34 Tryz.t34) (.node (.node .nil 35 (tiOf Tryz.t35 Tryz.t35) .nil) 36 (tiOf Tryz.t36 Tryz.t36) .nil)) 37 (tiOf Tryz.t37 Tryz.t37) (.node (.node (.node .nil 38 (tiOf Tryz.t38 Tryz.t38) .nil) 39 (tiOf Tryz.t39 Tryz.t39) .nil) 40 (tiOf Tryz.t40 Tryz.t40) (.node (.node .nil 41 (tiOf Tryz.t41 Tryz.t41) .nil) 42 (tiOf Tryz.t42 Tryz.t42) .nil))) 43 (tiOf Tryz.t43 Tryz.t43) (.node (.node (.node (.node .nil 44 (tiOf Tryz.t44 Tryz.t44) .nil) 45 (tiOf Tryz.t45 Tryz.t45) .nil) 46 (tiOf Tryz.t46 Tryz.t46) (.node (.node .nil 47 (tiOf Tryz.t47 Tryz.t47) .nil) 48 (tiOf Tryz.t48 Tryz.t48) .nil)) 49 (tiOf Tryz.t49 Tryz.t49) (.node (.node (.node .nil 50 (tiOf Tryz.t50 Tryz.t50) .nil) 51 (tiOf Tryz.t51 Tryz.t50) .nil) 52 (tiOf Tryz.t52 Tryz.t52) (.node (.node .nil 53 (tiOf Tryz.t53 Tryz.t52) .nil) 54 (tiOf Tryz.t54 Tryz.t54) .nil))))) 55 (tiOf Tryz.t55 Tryz.t55) (.node (.node (.node (.node (.node (.node .nil 56 (tiOf Tryz.t56 Tryz.t56) .nil) 57 (tiOf Tryz.t57 Tryz.t57) (.node .nil 58 (tiOf Tryz.t58 Tryz.t58) .nil)) 59 (tiOf Tryz.t59 Tryz.t59) (.node (.node .nil 60 (tiOf Tryz.t60 Tryz.t60) .nil) 61 (tiOf Tryz.t61 Tryz.t61) .nil)) 62 (tiOf Tryz.t62 Tryz.t62) (.node (.node (.node .nil 63 (tiOf Tryz.t63 Tryz.t63) .nil) 64 (tiOf Tryz.t64 Tryz.t63) .nil) 65 (tiOf Tryz.t65 Tryz.t65) (.node (.node .nil 66 (tiOf Tryz.t66 Tryz.t65) .nil) 67 (tiOf Tryz.t67 Tryz.t67) .nil))) 68 (tiOf Tryz.t68 Tryz.t68) (.node (.node (.node (.node .nil 69 (tiOf Tryz.t69 Tryz.t69) .nil) 70 (tiOf Tryz.t70 Tryz.t70) .nil) 71 (tiOf Tryz.t71 Tryz.t71) (.node (.node .nil 72 (tiOf Tryz.t72 Tryz.t72) .nil) 73 (tiOf Tryz.t73 Tryz.t73) .nil)) 74 (tiOf Tryz.t74 Tryz.t74) (.node (.node (.node .nil 75 (tiOf Tryz.t75 Tryz.t75) .nil) 76 (tiOf Tryz.t76 Tryz.t76) .nil) 77 (tiOf Tryz.t77 Tryz.t77) (.node (.node .nil 78 (tiOf Tryz.t78 Tryz.t78) .nil) 79 (tiOf Tryz.t79 Tryz.t78) .nil)))) 80 (tiOf Tryz.t80 Tryz.t80) (.node (.node (.node (.node (.node .nil 81 (tiOf Tryz.t81 Tryz.t81) .nil) 82 (tiOf Tryz.t82 Tryz.t82) .nil) 83 (tiOf Tryz.t83 Tryz.t82) (.node (.node .nil 84 (tiOf Tryz.t84 Tryz.t84) .nil) 85 (tiOf Tryz.t85 Tryz.t85) .nil)) 86 (tiOf Tryz.t86 Tryz.t86) (.node (.node (.node .nil 87 (tiOf Tryz.t87 Tryz.t86) .nil) 88 (tiOf Tryz.t88 Tryz.t88) .nil) 89 (tiOf Tryz.t89 Tryz.t89) (.node (.node .nil 90 (tiOf Tryz.t90 Tryz.t90) .nil) 91 (tiOf Tryz.t91 Tryz.t91) .nil))) 92 (tiOf Tryz.t92 Tryz.t92) (.node (.node (.node (.node .nil 93 (tiOf Tryz.t93 Tryz.t92) .nil) 94 (tiOf Tryz.t94 Tryz.t94) .nil) 95 (tiOf Tryz.t95 Tryz.t95) (.node (.node .nil 96 (tiOf Tryz.t96 Tryz.t96) .nil) 97 (tiOf Tryz.t97 Tryz.t97) .nil)) 98 (tiOf Tryz.t98 Tryz.t98) (.node (.node (.node .nil 99 (tiOf Tryz.t99 Tryz.t99) .nil) 100 (tiOf Tryz.t100 Tryz.t100) .nil) 101 (tiOf Tryz.t101 Tryz.t42) (.node (.node .nil 102 (tiOf Tryz.t102 Tryz.t102) .nil) 103 (tiOf Tryz.t103 Tryz.t103) .nil)))))) 104 (tiOf Tryz.t104 Tryz.t104) (.node (.node (.node (.node (.node (.node (.node .nil 105 (tiOf Tryz.t105 Tryz.t105) .nil) 106 (tiOf Tryz.t106 Tryz.t106) (.node .nil 107 (tiOf Tryz.t107 Tryz.t107) .nil)) 108 (tiOf Tryz.t108 Tryz.t108) (.node (.node .nil 109 (tiOf Tryz.t109 Tryz.t109) .nil) 110 (tiOf Tryz.t110 Tryz.t110) .nil)) 111 (tiOf Tryz.t111 Tryz.t111) (.node (.node (.node .nil 112 (tiOf Tryz.t112 Tryz.t112) .nil) 113 (tiOf Tryz.t113 Tryz.t112) .nil) 114 (tiOf Tryz.t114 Tryz.t114) (.node (.node .nil 115 (tiOf Tryz.t115 Tryz.t115) .nil) 116 (tiOf Tryz.t116 Tryz.t116) .nil))) 117 (tiOf Tryz.t117 Tryz.t117) (.node (.node (.node (.node .nil 118 (tiOf Tryz.t118 Tryz.t118) .nil) 119 (tiOf Tryz.t119 Tryz.t119) .nil) 120 (tiOf Tryz.t120 Tryz.t120) (.node (.node .nil 121 (tiOf Tryz.t121 Tryz.t119) .nil) 122 (tiOf Tryz.t122 Tryz.t122) .nil)) 123 (tiOf Tryz.t123 Tryz.t123) (.node (.node (.node .nil 124 (tiOf Tryz.t124 Tryz.t124) .nil) 125 (tiOf Tryz.t125 Tryz.t125) .nil) 126 (tiOf Tryz.t126 Tryz.t126) (.node (.node .nil 127 (tiOf Tryz.t127 Tryz.t127) .nil) 128 (tiOf Tryz.t128 Tryz.t128) .nil)))) 129 (tiOf Tryz.t129 Tryz.t129) (.node (.node (.node (.node (.node .nil 130 (tiOf Tryz.t130 Tryz.t130) .nil) 131 (tiOf Tryz.t131 Tryz.t131) .nil) 132 (tiOf Tryz.t132 Tryz.t132) (.node (.node .nil 133 (tiOf Tryz.t133 Tryz.t133) .nil) 134 (tiOf Tryz.t134 Tryz.t134) .nil)) 135 (tiOf Tryz.t135 Tryz.t135) (.node (.node (.node .nil 136 (tiOf Tryz.t136 Tryz.t136) .nil) 137 (tiOf Tryz.t137 Tryz.t137) .nil) 138 (tiOf Tryz.t138 Tryz.t138) (.node (.node .nil 139 (tiOf Tryz.t139 Tryz.t139) .nil) 140 (tiOf Tryz.t140 Tryz.t140) .nil))) 141 (tiOf Tryz.t141 Tryz.t141) (.node (.node (.node (.node .nil 142 (tiOf Tryz.t142 Tryz.t142) .nil) 143 (tiOf Tryz.t143 Tryz.t143) .nil) 144 (tiOf Tryz.t144 Tryz.t144) (.node (.node .nil 145 (tiOf Tryz.t145 Tryz.t145) .nil) 146 (tiOf Tryz.t146 Tryz.t146) .nil)) 147 (tiOf Tryz.t147 Tryz.t147) (.node (.node (.node .nil 148 (tiOf Tryz.t148 Tryz.t148) .nil) 149 (tiOf Tryz.t149 Tryz.t149) .nil) 150 (tiOf Tryz.t150 Tryz.t150) (.node (.node .nil 151 (tiOf Tryz.t151 Tryz.t151) .nil) 152 (tiOf Tryz.t152 Tryz.t152) .nil))))) 153 (tiOf Tryz.t153 Tryz.t153) (.node (.node (.node (.node (.node (.node .nil 154 (tiOf Tryz.t154 Tryz.t154) .nil) 155 (tiOf Tryz.t155 Tryz.t155) (.node .nil 156 (tiOf Tryz.t156 Tryz.t156) .nil)) 157 (tiOf Tryz.t157 Tryz.t157) (.node (.node .nil 158 (tiOf Tryz.t158 Tryz.t158) .nil) 159 (tiOf Tryz.t159 Tryz.t159) .nil)) 160 (tiOf Tryz.t160 Tryz.t160) (.node (.node (.node .nil 161 (tiOf Tryz.t161 Tryz.t161) .nil) 162 (tiOf Tryz.t162 Tryz.t162) .nil) 163 (tiOf Tryz.t163 Tryz.t163) (.node (.node .nil 164 (tiOf Tryz.t164 Tryz.t3) .nil) 165 (tiOf Tryz.t165 Tryz.t165) .nil))) 166 (tiOf Tryz.t166 Tryz.t166) (.node (.node (.node (.node .nil 167 (tiOf Tryz.t167 Tryz.t167) .nil) 168 (tiOf Tryz.t168 Tryz.t168) .nil) 169 (tiOf Tryz.t169 Tryz.t169) (.node (.node .nil 170 (tiOf Tryz.t170 Tryz.t170) .nil) 171 (tiOf Tryz.t171 Tryz.t171) .nil)) 172 (tiOf Tryz.t172 Tryz.t172) (.node (.node (.node .nil 173 (tiOf Tryz.t173 Tryz.t173) .nil) 174 (tiOf Tryz.t174 Tryz.t174) .nil) 175 (tiOf Tryz.t175 Tryz.t175) (.node (.node .nil 176 (tiOf Tryz.t176 Tryz.t176) .nil) 177 (tiOf Tryz.t177 Tryz.t176) .nil)))) 178 (tiOf Tryz.t178 Tryz.t178) (.node (.node (.node (.node (.node .nil 179 (tiOf Tryz.t179 Tryz.t179) .nil) 180 (tiOf Tryz.t180 Tryz.t180) .nil) 181 (tiOf Tryz.t181 Tryz.t181) (.node (.node .nil 182 (tiOf Tryz.t182 Tryz.t182) .nil) 183 (tiOf Tryz.t183 Tryz.t183) .nil)) 184 (tiOf Tryz.t184 Tryz.t184) (.node (.node (.node .nil 185 (tiOf Tryz.t185 Tryz.t185) .nil) 186 (tiOf Tryz.t186 Tryz.t186) .nil) 187 (tiOf Tryz.t187 Tryz.t187) (.node (.node .nil 188 (tiOf Tryz.t188 Tryz.t188) .nil) 189 (tiOf Tryz.t189 Tryz.t188) .nil))) 190 (tiOf Tryz.t190 Tryz.t190) (.node (.node (.node (.node .nil 191 (tiOf Tryz.t191 Tryz.t191) .nil) 192 (tiOf Tryz.t192 Tryz.t192) .nil) 193 (tiOf Tryz.t193 Tryz.t193) (.node (.node .nil 194 (tiOf Tryz.t194 Tryz.t194) .nil) 195 (tiOf Tryz.t195 Tryz.t195) .nil)) 196 (tiOf Tryz.t196 Tryz.t196) (.node (.node (.node .nil 197 (tiOf Tryz.t197 Tryz.t197) .nil) 199 (tiOf Tryz.t199 Tryz.t199) .nil) 200 (tiOf Tryz.t200 Tryz.t200) (.node (.node .nil 204 (tiOf Tryz.t204 Tryz.t204) .nil) 207 (tiOf Tryz.t207 Tryz.t207) .nil)))))))
theorem good1 : GoodTI Tryz.prog 1 (tiOf Tryz.t1 Tryz.t1):=goodTI uK uK uK
theorem good2 : GoodTI Tryz.prog 2 (tiOf Tryz.t2 Tryz.t2):=goodTI uK uK uK
theorem good3 : GoodTI Tryz.prog 3 (tiOf Tryz.t3 Tryz.t3):=goodTI uK uK uK
theorem good4 : GoodTI Tryz.prog 4 (tiOf Tryz.t4 Tryz.t4):=goodTI uK uK uK
theorem good5 : GoodTI Tryz.prog 5 (tiOf Tryz.t5 Tryz.t5):=goodTI uK uK uK
theorem good7 : GoodTI Tryz.prog 7 (tiOf Tryz.t7 Tryz.t7):=goodTI uK uK uK
theorem good9 : GoodTI Tryz.prog 9 (tiOf Tryz.t9 Tryz.t9):=goodTI uK uK uK
theorem good12 : GoodTI Tryz.prog 12 (tiOf Tryz.t12 Tryz.t12):=goodTI uK uK uK
theorem good13 : GoodTI Tryz.prog 13 (tiOf Tryz.t13 Tryz.t13):=goodTI uK uK uK
theorem good15 : GoodTI Tryz.prog 15 (tiOf Tryz.t15 Tryz.t15):=goodTI uK uK uK
theorem good16 : GoodTI Tryz.prog 16 (tiOf Tryz.t16 Tryz.t16):=goodTI uK uK uK
theorem good17 : GoodTI Tryz.prog 17 (tiOf Tryz.t17 Tryz.t17):=goodTI uK uK uK
theorem good18 : GoodTI Tryz.prog 18 (tiOf Tryz.t18 Tryz.t18):=goodTI uK uK uK
theorem good20 : GoodTI Tryz.prog 20 (tiOf Tryz.t20 Tryz.t20):=goodTI uK uK uK
theorem good21 : GoodTI Tryz.prog 21 (tiOf Tryz.t21 Tryz.t21):=goodTI uK uK uK
theorem good22 : GoodTI Tryz.prog 22 (tiOf Tryz.t22 Tryz.t22):=goodTI uK uK uK
theorem good23 : GoodTI Tryz.prog 23 (tiOf Tryz.t23 Tryz.t23):=goodTI uK uK uK
theorem good24 : GoodTI Tryz.prog 24 (tiOf Tryz.t24 Tryz.t23):=goodTI uK uK uK
theorem good25 : GoodTI Tryz.prog 25 (tiOf Tryz.t25 Tryz.t25):=goodTI uK uK uK
theorem good26 : GoodTI Tryz.prog 26 (tiOf Tryz.t26 Tryz.t26):=goodTI uK uK uK
theorem good27 : GoodTI Tryz.prog 27 (tiOf Tryz.t27 Tryz.t27):=goodTI uK uK uK
theorem good28 : GoodTI Tryz.prog 28 (tiOf Tryz.t28 Tryz.t28):=goodTI uK uK uK
theorem good29 : GoodTI Tryz.prog 29 (tiOf Tryz.t29 Tryz.t28):=goodTI uK uK uK
theorem good30 : GoodTI Tryz.prog 30 (tiOf Tryz.t30 Tryz.t3):=goodTI uK uK uK
theorem good31 : GoodTI Tryz.prog 31 (tiOf Tryz.t31 Tryz.t31):=goodTI uK uK uK
theorem good32 : GoodTI Tryz.prog 32 (tiOf Tryz.t32 Tryz.t32):=goodTI uK uK uK
theorem good33 : GoodTI Tryz.prog 33 (tiOf Tryz.t33 Tryz.t33):=goodTI uK uK uK
theorem good34 : GoodTI Tryz.prog 34 (tiOf Tryz.t34 Tryz.t34):=goodTI uK uK uK
theorem good35 : GoodTI Tryz.prog 35 (tiOf Tryz.t35 Tryz.t35):=goodTI uK uK uK
theorem good36 : GoodTI Tryz.prog 36 (tiOf Tryz.t36 Tryz.t36):=goodTI uK uK uK
theorem good37 : GoodTI Tryz.prog 37 (tiOf Tryz.t37 Tryz.t37):=goodTI uK uK uK
theorem good38 : GoodTI Tryz.prog 38 (tiOf Tryz.t38 Tryz.t38):=goodTI uK uK uK
theorem good39 : GoodTI Tryz.prog 39 (tiOf Tryz.t39 Tryz.t39):=goodTI uK uK uK
theorem good40 : GoodTI Tryz.prog 40 (tiOf Tryz.t40 Tryz.t40):=goodTI uK uK uK
theorem good41 : GoodTI Tryz.prog 41 (tiOf Tryz.t41 Tryz.t41):=goodTI uK uK uK
theorem good42 : GoodTI Tryz.prog 42 (tiOf Tryz.t42 Tryz.t42):=goodTI uK uK uK
theorem good43 : GoodTI Tryz.prog 43 (tiOf Tryz.t43 Tryz.t43):=goodTI uK uK uK
theorem good44 : GoodTI Tryz.prog 44 (tiOf Tryz.t44 Tryz.t44):=goodTI uK uK uK
theorem good45 : GoodTI Tryz.prog 45 (tiOf Tryz.t45 Tryz.t45):=goodTI uK uK uK
theorem good46 : GoodTI Tryz.prog 46 (tiOf Tryz.t46 Tryz.t46):=goodTI uK uK uK
theorem good47 : GoodTI Tryz.prog 47 (tiOf Tryz.t47 Tryz.t47):=goodTI uK uK uK
theorem good48 : GoodTI Tryz.prog 48 (tiOf Tryz.t48 Tryz.t48):=goodTI uK uK uK
theorem good49 : GoodTI Tryz.prog 49 (tiOf Tryz.t49 Tryz.t49):=goodTI uK uK uK
theorem good50 : GoodTI Tryz.prog 50 (tiOf Tryz.t50 Tryz.t50):=goodTI uK uK uK
theorem good51 : GoodTI Tryz.prog 51 (tiOf Tryz.t51 Tryz.t50):=goodTI uK uK uK
theorem good52 : GoodTI Tryz.prog 52 (tiOf Tryz.t52 Tryz.t52):=goodTI uK uK uK
theorem good53 : GoodTI Tryz.prog 53 (tiOf Tryz.t53 Tryz.t52):=goodTI uK uK uK
theorem good54 : GoodTI Tryz.prog 54 (tiOf Tryz.t54 Tryz.t54):=goodTI uK uK uK
theorem good55 : GoodTI Tryz.prog 55 (tiOf Tryz.t55 Tryz.t55):=goodTI uK uK uK
theorem good56 : GoodTI Tryz.prog 56 (tiOf Tryz.t56 Tryz.t56):=goodTI uK uK uK
theorem good57 : GoodTI Tryz.prog 57 (tiOf Tryz.t57 Tryz.t57):=goodTI uK uK uK
theorem good58 : GoodTI Tryz.prog 58 (tiOf Tryz.t58 Tryz.t58):=goodTI uK uK uK
theorem good59 : GoodTI Tryz.prog 59 (tiOf Tryz.t59 Tryz.t59):=goodTI uK uK uK
theorem good60 : GoodTI Tryz.prog 60 (tiOf Tryz.t60 Tryz.t60):=goodTI uK uK uK
theorem good61 : GoodTI Tryz.prog 61 (tiOf Tryz.t61 Tryz.t61):=goodTI uK uK uK
theorem good62 : GoodTI Tryz.prog 62 (tiOf Tryz.t62 Tryz.t62):=goodTI uK uK uK
theorem good63 : GoodTI Tryz.prog 63 (tiOf Tryz.t63 Tryz.t63):=goodTI uK uK uK
theorem good64 : GoodTI Tryz.prog 64 (tiOf Tryz.t64 Tryz.t63):=goodTI uK uK uK
theorem good65 : GoodTI Tryz.prog 65 (tiOf Tryz.t65 Tryz.t65):=goodTI uK uK uK
theorem good66 : GoodTI Tryz.prog 66 (tiOf Tryz.t66 Tryz.t65):=goodTI uK uK uK
theorem good67 : GoodTI Tryz.prog 67 (tiOf Tryz.t67 Tryz.t67):=goodTI uK uK uK
theorem good68 : GoodTI Tryz.prog 68 (tiOf Tryz.t68 Tryz.t68):=goodTI uK uK uK
theorem good69 : GoodTI Tryz.prog 69 (tiOf Tryz.t69 Tryz.t69):=goodTI uK uK uK
theorem good70 : GoodTI Tryz.prog 70 (tiOf Tryz.t70 Tryz.t70):=goodTI uK uK uK
theorem good71 : GoodTI Tryz.prog 71 (tiOf Tryz.t71 Tryz.t71):=goodTI uK uK uK
theorem good72 : GoodTI Tryz.prog 72 (tiOf Tryz.t72 Tryz.t72):=goodTI uK uK uK
theorem good73 : GoodTI Tryz.prog 73 (tiOf Tryz.t73 Tryz.t73):=goodTI uK uK uK
theorem good74 : GoodTI Tryz.prog 74 (tiOf Tryz.t74 Tryz.t74):=goodTI uK uK uK
theorem good75 : GoodTI Tryz.prog 75 (tiOf Tryz.t75 Tryz.t75):=goodTI uK uK uK
theorem good76 : GoodTI Tryz.prog 76 (tiOf Tryz.t76 Tryz.t76):=goodTI uK uK uK
theorem good77 : GoodTI Tryz.prog 77 (tiOf Tryz.t77 Tryz.t77):=goodTI uK uK uK
theorem good78 : GoodTI Tryz.prog 78 (tiOf Tryz.t78 Tryz.t78):=goodTI uK uK uK
theorem good79 : GoodTI Tryz.prog 79 (tiOf Tryz.t79 Tryz.t78):=goodTI uK uK uK
theorem good80 : GoodTI Tryz.prog 80 (tiOf Tryz.t80 Tryz.t80):=goodTI uK uK uK
theorem good81 : GoodTI Tryz.prog 81 (tiOf Tryz.t81 Tryz.t81):=goodTI uK uK uK
theorem good82 : GoodTI Tryz.prog 82 (tiOf Tryz.t82 Tryz.t82):=goodTI uK uK uK
theorem good83 : GoodTI Tryz.prog 83 (tiOf Tryz.t83 Tryz.t82):=goodTI uK uK uK
theorem good84 : GoodTI Tryz.prog 84 (tiOf Tryz.t84 Tryz.t84):=goodTI uK uK uK
theorem good85 : GoodTI Tryz.prog 85 (tiOf Tryz.t85 Tryz.t85):=goodTI uK uK uK
theorem good86 : GoodTI Tryz.prog 86 (tiOf Tryz.t86 Tryz.t86):=goodTI uK uK uK
theorem good87 : GoodTI Tryz.prog 87 (tiOf Tryz.t87 Tryz.t86):=goodTI uK uK uK
theorem good88 : GoodTI Tryz.prog 88 (tiOf Tryz.t88 Tryz.t88):=goodTI uK uK uK
theorem good89 : GoodTI Tryz.prog 89 (tiOf Tryz.t89 Tryz.t89):=goodTI uK uK uK
theorem good90 : GoodTI Tryz.prog 90 (tiOf Tryz.t90 Tryz.t90):=goodTI uK uK uK
theorem good91 : GoodTI Tryz.prog 91 (tiOf Tryz.t91 Tryz.t91):=goodTI uK uK uK
theorem good92 : GoodTI Tryz.prog 92 (tiOf Tryz.t92 Tryz.t92):=goodTI uK uK uK
theorem good93 : GoodTI Tryz.prog 93 (tiOf Tryz.t93 Tryz.t92):=goodTI uK uK uK
theorem good94 : GoodTI Tryz.prog 94 (tiOf Tryz.t94 Tryz.t94):=goodTI uK uK uK
theorem good95 : GoodTI Tryz.prog 95 (tiOf Tryz.t95 Tryz.t95):=goodTI uK uK uK
theorem good96 : GoodTI Tryz.prog 96 (tiOf Tryz.t96 Tryz.t96):=goodTI uK uK uK
theorem good97 : GoodTI Tryz.prog 97 (tiOf Tryz.t97 Tryz.t97):=goodTI uK uK uK
theorem good98 : GoodTI Tryz.prog 98 (tiOf Tryz.t98 Tryz.t98):=goodTI uK uK uK
theorem good99 : GoodTI Tryz.prog 99 (tiOf Tryz.t99 Tryz.t99):=goodTI uK uK uK
theorem good100 : GoodTI Tryz.prog 100 (tiOf Tryz.t100 Tryz.t100):=goodTI uK uK uK
theorem good101 : GoodTI Tryz.prog 101 (tiOf Tryz.t101 Tryz.t42):=goodTI uK uK uK
theorem good102 : GoodTI Tryz.prog 102 (tiOf Tryz.t102 Tryz.t102):=goodTI uK uK uK
theorem good103 : GoodTI Tryz.prog 103 (tiOf Tryz.t103 Tryz.t103):=goodTI uK uK uK
theorem good104 : GoodTI Tryz.prog 104 (tiOf Tryz.t104 Tryz.t104):=goodTI uK uK uK
theorem good105 : GoodTI Tryz.prog 105 (tiOf Tryz.t105 Tryz.t105):=goodTI uK uK uK
theorem good106 : GoodTI Tryz.prog 106 (tiOf Tryz.t106 Tryz.t106):=goodTI uK uK uK
theorem good107 : GoodTI Tryz.prog 107 (tiOf Tryz.t107 Tryz.t107):=goodTI uK uK uK
theorem good108 : GoodTI Tryz.prog 108 (tiOf Tryz.t108 Tryz.t108):=goodTI uK uK uK
theorem good109 : GoodTI Tryz.prog 109 (tiOf Tryz.t109 Tryz.t109):=goodTI uK uK uK
theorem good110 : GoodTI Tryz.prog 110 (tiOf Tryz.t110 Tryz.t110):=goodTI uK uK uK
theorem good111 : GoodTI Tryz.prog 111 (tiOf Tryz.t111 Tryz.t111):=goodTI uK uK uK
theorem good112 : GoodTI Tryz.prog 112 (tiOf Tryz.t112 Tryz.t112):=goodTI uK uK uK
theorem good113 : GoodTI Tryz.prog 113 (tiOf Tryz.t113 Tryz.t112):=goodTI uK uK uK
theorem good114 : GoodTI Tryz.prog 114 (tiOf Tryz.t114 Tryz.t114):=goodTI uK uK uK
theorem good115 : GoodTI Tryz.prog 115 (tiOf Tryz.t115 Tryz.t115):=goodTI uK uK uK
theorem good116 : GoodTI Tryz.prog 116 (tiOf Tryz.t116 Tryz.t116):=goodTI uK uK uK
theorem good117 : GoodTI Tryz.prog 117 (tiOf Tryz.t117 Tryz.t117):=goodTI uK uK uK
theorem good118 : GoodTI Tryz.prog 118 (tiOf Tryz.t118 Tryz.t118):=goodTI uK uK uK
theorem good119 : GoodTI Tryz.prog 119 (tiOf Tryz.t119 Tryz.t119):=goodTI uK uK uK
theorem good120 : GoodTI Tryz.prog 120 (tiOf Tryz.t120 Tryz.t120):=goodTI uK uK uK
theorem good121 : GoodTI Tryz.prog 121 (tiOf Tryz.t121 Tryz.t119):=goodTI uK uK uK
theorem good122 : GoodTI Tryz.prog 122 (tiOf Tryz.t122 Tryz.t122):=goodTI uK uK uK
theorem good123 : GoodTI Tryz.prog 123 (tiOf Tryz.t123 Tryz.t123):=goodTI uK uK uK
theorem good124 : GoodTI Tryz.prog 124 (tiOf Tryz.t124 Tryz.t124):=goodTI uK uK uK
theorem good125 : GoodTI Tryz.prog 125 (tiOf Tryz.t125 Tryz.t125):=goodTI uK uK uK
theorem good126 : GoodTI Tryz.prog 126 (tiOf Tryz.t126 Tryz.t126):=goodTI uK uK uK
theorem good127 : GoodTI Tryz.prog 127 (tiOf Tryz.t127 Tryz.t127):=goodTI uK uK uK
theorem good128 : GoodTI Tryz.prog 128 (tiOf Tryz.t128 Tryz.t128):=goodTI uK uK uK
theorem good129 : GoodTI Tryz.prog 129 (tiOf Tryz.t129 Tryz.t129):=goodTI uK uK uK
theorem good130 : GoodTI Tryz.prog 130 (tiOf Tryz.t130 Tryz.t130):=goodTI uK uK uK
theorem good131 : GoodTI Tryz.prog 131 (tiOf Tryz.t131 Tryz.t131):=goodTI uK uK uK
theorem good132 : GoodTI Tryz.prog 132 (tiOf Tryz.t132 Tryz.t132):=goodTI uK uK uK
theorem good133 : GoodTI Tryz.prog 133 (tiOf Tryz.t133 Tryz.t133):=goodTI uK uK uK
theorem good134 : GoodTI Tryz.prog 134 (tiOf Tryz.t134 Tryz.t134):=goodTI uK uK uK
theorem good135 : GoodTI Tryz.prog 135 (tiOf Tryz.t135 Tryz.t135):=goodTI uK uK uK
theorem good136 : GoodTI Tryz.prog 136 (tiOf Tryz.t136 Tryz.t136):=goodTI uK uK uK
theorem good137 : GoodTI Tryz.prog 137 (tiOf Tryz.t137 Tryz.t137):=goodTI uK uK uK
theorem good138 : GoodTI Tryz.prog 138 (tiOf Tryz.t138 Tryz.t138):=goodTI uK uK uK
theorem good139 : GoodTI Tryz.prog 139 (tiOf Tryz.t139 Tryz.t139):=goodTI uK uK uK
theorem good140 : GoodTI Tryz.prog 140 (tiOf Tryz.t140 Tryz.t140):=goodTI uK uK uK
theorem good141 : GoodTI Tryz.prog 141 (tiOf Tryz.t141 Tryz.t141):=goodTI uK uK uK
theorem good142 : GoodTI Tryz.prog 142 (tiOf Tryz.t142 Tryz.t142):=goodTI uK uK uK
theorem good143 : GoodTI Tryz.prog 143 (tiOf Tryz.t143 Tryz.t143):=goodTI uK uK uK
theorem good144 : GoodTI Tryz.prog 144 (tiOf Tryz.t144 Tryz.t144):=goodTI uK uK uK
theorem good145 : GoodTI Tryz.prog 145 (tiOf Tryz.t145 Tryz.t145):=goodTI uK uK uK
theorem good146 : GoodTI Tryz.prog 146 (tiOf Tryz.t146 Tryz.t146):=goodTI uK uK uK
theorem good147 : GoodTI Tryz.prog 147 (tiOf Tryz.t147 Tryz.t147):=goodTI uK uK uK
theorem good148 : GoodTI Tryz.prog 148 (tiOf Tryz.t148 Tryz.t148):=goodTI uK uK uK
theorem good149 : GoodTI Tryz.prog 149 (tiOf Tryz.t149 Tryz.t149):=goodTI uK uK uK
theorem good150 : GoodTI Tryz.prog 150 (tiOf Tryz.t150 Tryz.t150):=goodTI uK uK uK
theorem good151 : GoodTI Tryz.prog 151 (tiOf Tryz.t151 Tryz.t151):=goodTI uK uK uK
theorem good152 : GoodTI Tryz.prog 152 (tiOf Tryz.t152 Tryz.t152):=goodTI uK uK uK
theorem good153 : GoodTI Tryz.prog 153 (tiOf Tryz.t153 Tryz.t153):=goodTI uK uK uK
theorem good154 : GoodTI Tryz.prog 154 (tiOf Tryz.t154 Tryz.t154):=goodTI uK uK uK
theorem good155 : GoodTI Tryz.prog 155 (tiOf Tryz.t155 Tryz.t155):=goodTI uK uK uK
theorem good156 : GoodTI Tryz.prog 156 (tiOf Tryz.t156 Tryz.t156):=goodTI uK uK uK
theorem good157 : GoodTI Tryz.prog 157 (tiOf Tryz.t157 Tryz.t157):=goodTI uK uK uK
theorem good158 : GoodTI Tryz.prog 158 (tiOf Tryz.t158 Tryz.t158):=goodTI uK uK uK
theorem good159 : GoodTI Tryz.prog 159 (tiOf Tryz.t159 Tryz.t159):=goodTI uK uK uK
theorem good160 : GoodTI Tryz.prog 160 (tiOf Tryz.t160 Tryz.t160):=goodTI uK uK uK
theorem good161 : GoodTI Tryz.prog 161 (tiOf Tryz.t161 Tryz.t161):=goodTI uK uK uK
theorem good162 : GoodTI Tryz.prog 162 (tiOf Tryz.t162 Tryz.t162):=goodTI uK uK uK
theorem good163 : GoodTI Tryz.prog 163 (tiOf Tryz.t163 Tryz.t163):=goodTI uK uK uK
theorem good164 : GoodTI Tryz.prog 164 (tiOf Tryz.t164 Tryz.t3):=goodTI uK uK uK
theorem good165 : GoodTI Tryz.prog 165 (tiOf Tryz.t165 Tryz.t165):=goodTI uK uK uK
theorem good166 : GoodTI Tryz.prog 166 (tiOf Tryz.t166 Tryz.t166):=goodTI uK uK uK
theorem good167 : GoodTI Tryz.prog 167 (tiOf Tryz.t167 Tryz.t167):=goodTI uK uK uK
theorem good168 : GoodTI Tryz.prog 168 (tiOf Tryz.t168 Tryz.t168):=goodTI uK uK uK
theorem good169 : GoodTI Tryz.prog 169 (tiOf Tryz.t169 Tryz.t169):=goodTI uK uK uK
theorem good170 : GoodTI Tryz.prog 170 (tiOf Tryz.t170 Tryz.t170):=goodTI uK uK uK
theorem good171 : GoodTI Tryz.prog 171 (tiOf Tryz.t171 Tryz.t171):=goodTI uK uK uK
theorem good172 : GoodTI Tryz.prog 172 (tiOf Tryz.t172 Tryz.t172):=goodTI uK uK uK
theorem good173 : GoodTI Tryz.prog 173 (tiOf Tryz.t173 Tryz.t173):=goodTI uK uK uK
theorem good174 : GoodTI Tryz.prog 174 (tiOf Tryz.t174 Tryz.t174):=goodTI uK uK uK
theorem good175 : GoodTI Tryz.prog 175 (tiOf Tryz.t175 Tryz.t175):=goodTI uK uK uK
theorem good176 : GoodTI Tryz.prog 176 (tiOf Tryz.t176 Tryz.t176):=goodTI uK uK uK
theorem good177 : GoodTI Tryz.prog 177 (tiOf Tryz.t177 Tryz.t176):=goodTI uK uK uK
theorem good178 : GoodTI Tryz.prog 178 (tiOf Tryz.t178 Tryz.t178):=goodTI uK uK uK
theorem good179 : GoodTI Tryz.prog 179 (tiOf Tryz.t179 Tryz.t179):=goodTI uK uK uK
theorem good180 : GoodTI Tryz.prog 180 (tiOf Tryz.t180 Tryz.t180):=goodTI uK uK uK
theorem good181 : GoodTI Tryz.prog 181 (tiOf Tryz.t181 Tryz.t181):=goodTI uK uK uK
theorem good182 : GoodTI Tryz.prog 182 (tiOf Tryz.t182 Tryz.t182):=goodTI uK uK uK
theorem good183 : GoodTI Tryz.prog 183 (tiOf Tryz.t183 Tryz.t183):=goodTI uK uK uK
theorem good184 : GoodTI Tryz.prog 184 (tiOf Tryz.t184 Tryz.t184):=goodTI uK uK uK
theorem good185 : GoodTI Tryz.prog 185 (tiOf Tryz.t185 Tryz.t185):=goodTI uK uK uK
theorem good186 : GoodTI Tryz.prog 186 (tiOf Tryz.t186 Tryz.t186):=goodTI uK uK uK
theorem good187 : GoodTI Tryz.prog 187 (tiOf Tryz.t187 Tryz.t187):=goodTI uK uK uK
theorem good188 : GoodTI Tryz.prog 188 (tiOf Tryz.t188 Tryz.t188):=goodTI uK uK uK
theorem good189 : GoodTI Tryz.prog 189 (tiOf Tryz.t189 Tryz.t188):=goodTI uK uK uK
theorem good190 : GoodTI Tryz.prog 190 (tiOf Tryz.t190 Tryz.t190):=goodTI uK uK uK
theorem good191 : GoodTI Tryz.prog 191 (tiOf Tryz.t191 Tryz.t191):=goodTI uK uK uK
theorem good192 : GoodTI Tryz.prog 192 (tiOf Tryz.t192 Tryz.t192):=goodTI uK uK uK
theorem good193 : GoodTI Tryz.prog 193 (tiOf Tryz.t193 Tryz.t193):=goodTI uK uK uK
theorem good194 : GoodTI Tryz.prog 194 (tiOf Tryz.t194 Tryz.t194):=goodTI uK uK uK
theorem good195 : GoodTI Tryz.prog 195 (tiOf Tryz.t195 Tryz.t195):=goodTI uK uK uK
theorem good196 : GoodTI Tryz.prog 196 (tiOf Tryz.t196 Tryz.t196):=goodTI uK uK uK
theorem good197 : GoodTI Tryz.prog 197 (tiOf Tryz.t197 Tryz.t197):=goodTI uK uK uK
theorem good199 : GoodTI Tryz.prog 199 (tiOf Tryz.t199 Tryz.t199):=goodTI uK uK uK
theorem good200 : GoodTI Tryz.prog 200 (tiOf Tryz.t200 Tryz.t200):=goodTI uK uK uK
theorem good204 : GoodTI Tryz.prog 204 (tiOf Tryz.t204 Tryz.t204):=goodTI uK uK uK
theorem good207 : GoodTI Tryz.prog 207 (tiOf Tryz.t207 Tryz.t207):=goodTI uK uK uK
theorem tbl_ok : AllT Tryz.prog tbl:=⟨⟨⟨⟨⟨⟨⟨⟨trivial,good1,trivial⟩,good2,⟨trivial,good3,trivial⟩⟩,good4,⟨⟨trivial,good5,trivial⟩,good7,trivial⟩⟩,good9,⟨⟨⟨trivial,good12,trivial⟩,good13,trivial⟩,good15,⟨⟨trivial,good16,trivial⟩,good17,trivial⟩⟩⟩,good18,⟨⟨⟨⟨trivial,good20,trivial⟩,good21,trivial⟩,good22,⟨⟨trivial,good23,trivial⟩,good24,trivial⟩⟩,good25,⟨⟨⟨trivial,good26,trivial⟩,good27,trivial⟩,good28,⟨⟨trivial,good29,trivial⟩,good30,trivial⟩⟩⟩⟩,good31,⟨⟨⟨⟨⟨trivial,good32,trivial⟩,good33,trivial⟩,good34,⟨⟨trivial,good35,trivial⟩,good36,trivial⟩⟩,good37,⟨⟨⟨trivial,good38,trivial⟩,good39,trivial⟩,good40,⟨⟨trivial,good41,trivial⟩,good42,trivial⟩⟩⟩,good43,⟨⟨⟨⟨trivial,good44,trivial⟩,good45,trivial⟩,good46,⟨⟨trivial,good47,trivial⟩,good48,trivial⟩⟩,good49,⟨⟨⟨trivial,good50,trivial⟩,good51,trivial⟩,good52,⟨⟨trivial,good53,trivial⟩,good54,trivial⟩⟩⟩⟩⟩,good55,⟨⟨⟨⟨⟨⟨trivial,good56,trivial⟩,good57,⟨trivial,good58,trivial⟩⟩,good59,⟨⟨trivial,good60,trivial⟩,good61,trivial⟩⟩,good62,⟨⟨⟨trivial,good63,trivial⟩,good64,trivial⟩,good65,⟨⟨trivial,good66,trivial⟩,good67,trivial⟩⟩⟩,good68,⟨⟨⟨⟨trivial,good69,trivial⟩,good70,trivial⟩,good71,⟨⟨trivial,good72,trivial⟩,good73,trivial⟩⟩,good74,⟨⟨⟨trivial,good75,trivial⟩,good76,trivial⟩,good77,⟨⟨trivial,good78,trivial⟩,good79,trivial⟩⟩⟩⟩,good80,⟨⟨⟨⟨⟨trivial,good81,trivial⟩,good82,trivial⟩,good83,⟨⟨trivial,good84,trivial⟩,good85,trivial⟩⟩,good86,⟨⟨⟨trivial,good87,trivial⟩,good88,trivial⟩,good89,⟨⟨trivial,good90,trivial⟩,good91,trivial⟩⟩⟩,good92,⟨⟨⟨⟨trivial,good93,trivial⟩,good94,trivial⟩,good95,⟨⟨trivial,good96,trivial⟩,good97,trivial⟩⟩,good98,⟨⟨⟨trivial,good99,trivial⟩,good100,trivial⟩,good101,⟨⟨trivial,good102,trivial⟩,good103,trivial⟩⟩⟩⟩⟩⟩,good104,⟨⟨⟨⟨⟨⟨⟨trivial,good105,trivial⟩,good106,⟨trivial,good107,trivial⟩⟩,good108,⟨⟨trivial,good109,trivial⟩,good110,trivial⟩⟩,good111,⟨⟨⟨trivial,good112,trivial⟩,good113,trivial⟩,good114,⟨⟨trivial,good115,trivial⟩,good116,trivial⟩⟩⟩,good117,⟨⟨⟨⟨trivial,good118,trivial⟩,good119,trivial⟩,good120,⟨⟨trivial,good121,trivial⟩,good122,trivial⟩⟩,good123,⟨⟨⟨trivial,good124,trivial⟩,good125,trivial⟩,good126,⟨⟨trivial,good127,trivial⟩,good128,trivial⟩⟩⟩⟩,good129,⟨⟨⟨⟨⟨trivial,good130,trivial⟩,good131,trivial⟩,good132,⟨⟨trivial,good133,trivial⟩,good134,trivial⟩⟩,good135,⟨⟨⟨trivial,good136,trivial⟩,good137,trivial⟩,good138,⟨⟨trivial,good139,trivial⟩,good140,trivial⟩⟩⟩,good141,⟨⟨⟨⟨trivial,good142,trivial⟩,good143,trivial⟩,good144,⟨⟨trivial,good145,trivial⟩,good146,trivial⟩⟩,good147,⟨⟨⟨trivial,good148,trivial⟩,good149,trivial⟩,good150,⟨⟨trivial,good151,trivial⟩,good152,trivial⟩⟩⟩⟩⟩,good153,⟨⟨⟨⟨⟨⟨trivial,good154,trivial⟩,good155,⟨trivial,good156,trivial⟩⟩,good157,⟨⟨trivial,good158,trivial⟩,good159,trivial⟩⟩,good160,⟨⟨⟨trivial,good161,trivial⟩,good162,trivial⟩,good163,⟨⟨trivial,good164,trivial⟩,good165,trivial⟩⟩⟩,good166,⟨⟨⟨⟨trivial,good167,trivial⟩,good168,trivial⟩,good169,⟨⟨trivial,good170,trivial⟩,good171,trivial⟩⟩,good172,⟨⟨⟨trivial,good173,trivial⟩,good174,trivial⟩,good175,⟨⟨trivial,good176,trivial⟩,good177,trivial⟩⟩⟩⟩,good178,⟨⟨⟨⟨⟨trivial,good179,trivial⟩,good180,trivial⟩,good181,⟨⟨trivial,good182,trivial⟩,good183,trivial⟩⟩,good184,⟨⟨⟨trivial,good185,trivial⟩,good186,trivial⟩,good187,⟨⟨trivial,good188,trivial⟩,good189,trivial⟩⟩⟩,good190,⟨⟨⟨⟨trivial,good191,trivial⟩,good192,trivial⟩,good193,⟨⟨trivial,good194,trivial⟩,good195,trivial⟩⟩,good196,⟨⟨⟨trivial,good197,trivial⟩,good199,trivial⟩,good200,⟨⟨trivial,good204,trivial⟩,good207,trivial⟩⟩⟩⟩⟩⟩⟩
def fieldsIn (P : Program) (d : TypeDesc) : Bool:=match d with | .struct fs=>fs.toList.all fun f=>(P.info? f.type).isSome | _=>true
def AllF (P : Program) : TT→Bool
 | .nil=>true
 | .node l _ i r=>AllF P l && (fieldsIn P i.u && AllF P r)
theorem getT_mem : ∀ {l : TT} {P : Program},AllF P l=true → ∀ t i,getT l t=some i→fieldsIn P i.u=true
 | .nil,_,_,t,i,h=>by cases h
 | .node l k x r,P,hl,t,i,h=>by
  simp only [AllF,aj] at hl
  simp only [getT] at h
  cases hb : Nat.beq t k with
  | true=>simp only [hb,bh,an] at h;subst h;exact hl.2.1
  | false =>
   simp only [hb,bg] at h
   cases hc : Nat.blt t k with
   | true=>simp only [hc,bh] at h;exact getT_mem hl.1 t i h
   | false=>simp only [hc,bg] at h;exact getT_mem hl.2.2 t i h
theorem fields_ok {P : Program} {d : TypeDesc} (h : fieldsIn P d=true) : ∀ fs,d = .struct fs → ∀ f ∈ fs.toList, ∃ j,P.info? f.type=some j:=by
 intro fs hd f hf
 subst hd
 have:=List.all_eq_true.1 h f hf
 exact Option.isSome_iff_exists.1 this
noncomputable def tab : Tab Tryz.prog:=⟨getT tbl,getT_ok tbl_ok,fun t i h=>fields_ok (getT_mem uK t i h)⟩
theorem mixed : Tryz.prog.follows .mixedOrders=true:=by kernel_rfl
theorem goes11 : Goes Tryz.prog 11:=bL Tryz.func11 uK uK
theorem goes16 : Goes Tryz.prog 16:=bL Tryz.func16 uK uK
theorem goes17 : Goes Tryz.prog 17:=bL Tryz.func17 uK uK
theorem goes18 : Goes Tryz.prog 18:=bL Tryz.func18 uK uK
theorem goes19 : Goes Tryz.prog 19:=bL Tryz.func19 uK uK
theorem goes20 : Goes Tryz.prog 20:=bL Tryz.func20 uK uK
theorem goes21 : Goes Tryz.prog 21:=bL Tryz.func21 uK uK
theorem goes29 : Goes Tryz.prog 29:=bL Tryz.func29 uK uK
theorem goes30 : Goes Tryz.prog 30:=bL Tryz.func30 uK uK
theorem goes31 : Goes Tryz.prog 31:=bL Tryz.func31 uK uK
theorem goes32 : Goes Tryz.prog 32:=bL Tryz.func32 uK uK
theorem goes34 : Goes Tryz.prog 34:=bL Tryz.func34 uK uK
theorem goes35 : Goes Tryz.prog 35:=bL Tryz.func35 uK uK
theorem goes37 : Goes Tryz.prog 37:=bL Tryz.func37 uK uK
theorem goes38 : Goes Tryz.prog 38:=bL Tryz.func38 uK uK
theorem goes39 : Goes Tryz.prog 39:=bL Tryz.func39 uK uK
theorem goes40 : Goes Tryz.prog 40:=bL Tryz.func40 uK uK
theorem goes41 : Goes Tryz.prog 41:=bL Tryz.func41 uK uK
theorem goes42 : Goes Tryz.prog 42:=bL Tryz.func42 uK uK
theorem goes43 : Goes Tryz.prog 43:=bL Tryz.func43 uK uK
theorem goes44 : Goes Tryz.prog 44:=bL Tryz.func44 uK uK
theorem goes45 : Goes Tryz.prog 45:=bL Tryz.func45 uK uK
theorem goes46 : Goes Tryz.prog 46:=bL Tryz.func46 uK uK
theorem goes47 : Goes Tryz.prog 47:=bL Tryz.func47 uK uK
theorem goes53 : Goes Tryz.prog 53:=bL Tryz.func53 uK uK
theorem goes59 : Goes Tryz.prog 59:=bL Tryz.func59 uK uK
theorem goes60 : Goes Tryz.prog 60:=bL Tryz.func60 uK uK
theorem goes61 : Goes Tryz.prog 61:=bL Tryz.func61 uK uK
theorem goes62 : Goes Tryz.prog 62:=bL Tryz.func62 uK uK
theorem goes63 : Goes Tryz.prog 63:=bL Tryz.func63 uK uK
theorem goes64 : Goes Tryz.prog 64:=bL Tryz.func64 uK uK
theorem goes65 : Goes Tryz.prog 65:=bL Tryz.func65 uK uK
theorem goes66 : Goes Tryz.prog 66:=bL Tryz.func66 uK uK
theorem goes67 : Goes Tryz.prog 67:=bL Tryz.func67 uK uK
theorem goes68 : Goes Tryz.prog 68:=bL Tryz.func68 uK uK
theorem goes69 : Goes Tryz.prog 69:=bL Tryz.func69 uK uK
theorem goes70 : Goes Tryz.prog 70:=bL Tryz.func70 uK uK
theorem goes71 : Goes Tryz.prog 71:=bL Tryz.func71 uK uK
theorem goes72 : Goes Tryz.prog 72:=bL Tryz.func72 uK uK
theorem goes73 : Goes Tryz.prog 73:=bL Tryz.func73 uK uK
theorem goes74 : Goes Tryz.prog 74:=bL Tryz.func74 uK uK
theorem goes75 : Goes Tryz.prog 75:=bL Tryz.func75 uK uK
theorem goes76 : Goes Tryz.prog 76:=bL Tryz.func76 uK uK
theorem goes77 : Goes Tryz.prog 77:=bL Tryz.func77 uK uK
theorem goes78 : Goes Tryz.prog 78:=bL Tryz.func78 uK uK
theorem goes79 : Goes Tryz.prog 79:=bL Tryz.func79 uK uK
theorem goes80 : Goes Tryz.prog 80:=bL Tryz.func80 uK uK
theorem goes81 : Goes Tryz.prog 81:=bL Tryz.func81 uK uK
theorem goes82 : Goes Tryz.prog 82:=bL Tryz.func82 uK uK
theorem goes83 : Goes Tryz.prog 83:=bL Tryz.func83 uK uK
theorem goes84 : Goes Tryz.prog 84:=bL Tryz.func84 uK uK
theorem goes85 : Goes Tryz.prog 85:=bL Tryz.func85 uK uK
theorem goes86 : Goes Tryz.prog 86:=bL Tryz.func86 uK uK
theorem goes87 : Goes Tryz.prog 87:=bL Tryz.func87 uK uK
theorem goes88 : Goes Tryz.prog 88:=bL Tryz.func88 uK uK
theorem goes89 : Goes Tryz.prog 89:=bL Tryz.func89 uK uK
theorem goes91 : Goes Tryz.prog 91:=bL Tryz.func91 uK uK
theorem goes95 : Goes Tryz.prog 95:=bL Tryz.func95 uK uK
theorem goes96 : Goes Tryz.prog 96:=bL Tryz.func96 uK uK
theorem goes97 : Goes Tryz.prog 97:=bL Tryz.func97 uK uK
theorem goes98 : Goes Tryz.prog 98:=bL Tryz.func98 uK uK
theorem goes99 : Goes Tryz.prog 99:=bL Tryz.func99 uK uK
theorem goes100 : Goes Tryz.prog 100:=bL Tryz.func100 uK uK
theorem goes105 : Goes Tryz.prog 105:=bL Tryz.func105 uK uK
theorem goes106 : Goes Tryz.prog 106:=bL Tryz.func106 uK uK
theorem goes107 : Goes Tryz.prog 107:=bL Tryz.func107 uK uK
theorem goes108 : Goes Tryz.prog 108:=bL Tryz.func108 uK uK
theorem goes109 : Goes Tryz.prog 109:=bL Tryz.func109 uK uK
theorem goes110 : Goes Tryz.prog 110:=bL Tryz.func110 uK uK
theorem goes111 : Goes Tryz.prog 111:=bL Tryz.func111 uK uK
theorem goes112 : Goes Tryz.prog 112:=bL Tryz.func112 uK uK
theorem goes113 : Goes Tryz.prog 113:=bL Tryz.func113 uK uK
theorem goes114 : Goes Tryz.prog 114:=bL Tryz.func114 uK uK
theorem goes115 : Goes Tryz.prog 115:=bL Tryz.func115 uK uK
theorem goes116 : Goes Tryz.prog 116:=bL Tryz.func116 uK uK
theorem goes117 : Goes Tryz.prog 117:=bL Tryz.func117 uK uK
theorem goes118 : Goes Tryz.prog 118:=bL Tryz.func118 uK uK
theorem goes119 : Goes Tryz.prog 119:=bL Tryz.func119 uK uK
theorem goes120 : Goes Tryz.prog 120:=bL Tryz.func120 uK uK
theorem goes121 : Goes Tryz.prog 121:=bL Tryz.func121 uK uK
theorem goes122 : Goes Tryz.prog 122:=bL Tryz.func122 uK uK
theorem goes123 : Goes Tryz.prog 123:=bL Tryz.func123 uK uK
theorem goes124 : Goes Tryz.prog 124:=bL Tryz.func124 uK uK
theorem goes125 : Goes Tryz.prog 125:=bL Tryz.func125 uK uK
theorem goes126 : Goes Tryz.prog 126:=bL Tryz.func126 uK uK
theorem goes127 : Goes Tryz.prog 127:=bL Tryz.func127 uK uK
theorem goes128 : Goes Tryz.prog 128:=bL Tryz.func128 uK uK
theorem goes129 : Goes Tryz.prog 129:=bL Tryz.func129 uK uK
theorem goes131 : Goes Tryz.prog 131:=bL Tryz.func131 uK uK
theorem goes134 : Goes Tryz.prog 134:=bL Tryz.func134 uK uK
theorem goes135 : Goes Tryz.prog 135:=bL Tryz.func135 uK uK
theorem goes137 : Goes Tryz.prog 137:=bL Tryz.func137 uK uK
theorem goes138 : Goes Tryz.prog 138:=bL Tryz.func138 uK uK
theorem goes139 : Goes Tryz.prog 139:=bL Tryz.func139 uK uK
theorem goes140 : Goes Tryz.prog 140:=bL Tryz.func140 uK uK
theorem goes141 : Goes Tryz.prog 141:=bL Tryz.func141 uK uK
theorem goes142 : Goes Tryz.prog 142:=bL Tryz.func142 uK uK
theorem goes143 : Goes Tryz.prog 143:=bL Tryz.func143 uK uK
theorem goes144 : Goes Tryz.prog 144:=bL Tryz.func144 uK uK
theorem goes145 : Goes Tryz.prog 145:=bL Tryz.func145 uK uK
theorem goes146 : Goes Tryz.prog 146:=bL Tryz.func146 uK uK
theorem goes147 : Goes Tryz.prog 147:=bL Tryz.func147 uK uK
theorem goes148 : Goes Tryz.prog 148:=bL Tryz.func148 uK uK
theorem goes149 : Goes Tryz.prog 149:=bL Tryz.func149 uK uK
theorem goes150 : Goes Tryz.prog 150:=bL Tryz.func150 uK uK
theorem goes151 : Goes Tryz.prog 151:=bL Tryz.func151 uK uK
theorem goes152 : Goes Tryz.prog 152:=bL Tryz.func152 uK uK
theorem goes153 : Goes Tryz.prog 153:=bL Tryz.func153 uK uK
theorem goes154 : Goes Tryz.prog 154:=bL Tryz.func154 uK uK
theorem goes155 : Goes Tryz.prog 155:=bL Tryz.func155 uK uK
theorem goes156 : Goes Tryz.prog 156:=bL Tryz.func156 uK uK
theorem goes157 : Goes Tryz.prog 157:=bL Tryz.func157 uK uK
theorem goes158 : Goes Tryz.prog 158:=bL Tryz.func158 uK uK
theorem goes159 : Goes Tryz.prog 159:=bL Tryz.func159 uK uK
theorem goes160 : Goes Tryz.prog 160:=bL Tryz.func160 uK uK
theorem goes161 : Goes Tryz.prog 161:=bL Tryz.func161 uK uK
theorem goes162 : Goes Tryz.prog 162:=bL Tryz.func162 uK uK
theorem goes169 : Goes Tryz.prog 169:=bL Tryz.func169 uK uK
theorem goes170 : Goes Tryz.prog 170:=bL Tryz.func170 uK uK
theorem goes171 : Goes Tryz.prog 171:=bL Tryz.func171 uK uK
theorem goes174 : Goes Tryz.prog 174:=bL Tryz.func174 uK uK
theorem goes175 : Goes Tryz.prog 175:=bL Tryz.func175 uK uK
theorem goes176 : Goes Tryz.prog 176:=bL Tryz.func176 uK uK
theorem goes177 : Goes Tryz.prog 177:=bL Tryz.func177 uK uK
theorem goes178 : Goes Tryz.prog 178:=bL Tryz.func178 uK uK
theorem goes179 : Goes Tryz.prog 179:=bL Tryz.func179 uK uK
theorem goes180 : Goes Tryz.prog 180:=bL Tryz.func180 uK uK
theorem goes181 : Goes Tryz.prog 181:=bL Tryz.func181 uK uK
theorem goes182 : Goes Tryz.prog 182:=bL Tryz.func182 uK uK
theorem goes187 : Goes Tryz.prog 187:=bL Tryz.func187 uK uK
theorem goes189 : Goes Tryz.prog 189:=bL Tryz.func189 uK uK
theorem goes191 : Goes Tryz.prog 191:=bL Tryz.func191 uK uK
theorem goes192 : Goes Tryz.prog 192:=bL Tryz.func192 uK uK
theorem goes193 : Goes Tryz.prog 193:=bL Tryz.func193 uK uK
theorem goes194 : Goes Tryz.prog 194:=bL Tryz.func194 uK uK
theorem goes200 : Goes Tryz.prog 200:=bL Tryz.func200 uK uK
theorem goes203 : Goes Tryz.prog 203:=bL Tryz.func203 uK uK
theorem goes204 : Goes Tryz.prog 204:=bL Tryz.func204 uK uK
theorem goes205 : Goes Tryz.prog 205:=bL Tryz.func205 uK uK
theorem goes206 : Goes Tryz.prog 206:=bL Tryz.func206 uK uK
theorem goes207 : Goes Tryz.prog 207:=bL Tryz.func207 uK uK
theorem goes208 : Goes Tryz.prog 208:=bL Tryz.func208 uK uK
theorem goes209 : Goes Tryz.prog 209:=bL Tryz.func209 uK uK
theorem goes210 : Goes Tryz.prog 210:=bL Tryz.func210 uK uK
theorem goes211 : Goes Tryz.prog 211:=bL Tryz.func211 uK uK
theorem goes212 : Goes Tryz.prog 212:=bL Tryz.func212 uK uK
end Go.Sep
namespace Go
abbrev cr := @Sep.mixed
abbrev ct := @Sep.goes67
end Go

/- ScScan -/
namespace Go.Sep
open Go.Proofs
attribute [local irreducible] TC TO OT TCallX TCall DO DOt thenQ blockQ retQ At
def ltr (b : UInt8) : Bool:=decide (97 ≤ b.toNat∧b.toNat ≤ 122) || decide (65 ≤ b.toNat∧b.toNat ≤ 90) || decide (b.toNat=95)
def dgt (b : UInt8) : Bool:=decide (48 ≤ b.toNat∧b.toNat ≤ 57)
def lod (b : UInt8) : Bool:=ltr b || dgt b
theorem low_all : ∀ n : Fin 256,(97 ≤ n.val ||| 32∧n.val ||| 32 ≤ 122) ↔ ((97 ≤ n.val∧n.val ≤ 122) ∨ (65 ≤ n.val∧n.val ≤ 90)):=by decide +kernel
theorem low (b : UInt8) : (97 ≤ b.toNat ||| 32∧b.toNat ||| 32 ≤ 122) ↔ ((97 ≤ b.toNat∧b.toNat ≤ 122) ∨ (65 ≤ b.toNat∧b.toNat ≤ 90)):=low_all ⟨b.toNat,b.toNat_lt⟩
section
variable (m : Mem) (L : List Item) (b : UInt8)
theorem letter_law : TCall Tryz.prog 95 ⟨[byteV b]⟩ m L (Ret (.bool (ltr b)) m L):=by
 unfold TCall
 refine bw Tryz.func95 rfl 15 rfl ?_
 have hb : b.toNat < 256:=b.toNat_lt
 have hlow:=low b
 refine uA ?_
 refine qs rfl (OT.orU8 (b:=32) rfl rfl rfl rfl rfl hb (by decide) ?_)
 refine uA ?_
 (refine bB rfl rfl (fun h1 => ?_) (fun h1 => ?_))
 ·refine uA ?_
  refine qs rfl (OT.orU8 (b:=32) rfl rfl rfl rfl rfl hb (by decide) ?_)
  refine uA ?_
  (refine bB rfl rfl (fun h2 => ?_) (fun h2 => ?_))
  ·refine uA ?_
   refine bu rfl uS ⟨rfl,rfl, ?_⟩
   refine congrArg Value.bool ?_
   have : ltr b=true:=by
    have:=hlow.1 ⟨by omega,by omega⟩
    unfold ltr
    rcases this with h | h <;> simp [h]
   simp [this,h2]
  ·refine uA ?_
   refine bu rfl uS ⟨rfl,rfl, ?_⟩
   refine congrArg Value.bool ?_
   have h3 : ¬ (97 ≤ b.toNat∧b.toNat ≤ 122):=fun h=>by have:=hlow.2 (.inl h);omega
   have h4 : ¬ (65 ≤ b.toNat∧b.toNat ≤ 90):=fun h=>by have:=hlow.2 (.inr h);omega
   unfold ltr
   rw [aI h3,aI h4]
   simp only [be]
   congr 1
   apply propext
   omega
 ·refine uA ?_
  refine bu rfl uS ⟨rfl,rfl, ?_⟩
  refine congrArg Value.bool ?_
  have h3 : ¬ (97 ≤ b.toNat∧b.toNat ≤ 122):=fun h=>by have:=hlow.2 (.inl h);omega
  have h4 : ¬ (65 ≤ b.toNat∧b.toNat ≤ 90):=fun h=>by have:=hlow.2 (.inr h);omega
  unfold ltr
  rw [aI h3,aI h4]
  simp only [be]
  congr 1
  apply propext
  omega
theorem digit_law : TCall Tryz.prog 98 ⟨[byteV b]⟩ m L (Ret (.bool (dgt b)) m L):=by
 unfold TCall
 refine bw Tryz.func98 rfl 9 rfl ?_
 refine uA ?_
 (refine bB rfl rfl (fun h1 => ?_) (fun h1 => ?_))
 ·refine uA ?_
  refine bu rfl uS ⟨rfl,rfl, ?_⟩
  refine congrArg Value.bool ?_
  unfold dgt
  congr 1
  apply propext
  omega
 ·refine uA ?_
  refine bu rfl uS ⟨rfl,rfl, ?_⟩
  refine congrArg Value.bool ?_
  unfold dgt
  symm
  apply aI
  omega
theorem digit_ref : TCall Tryz.prog 160 ⟨[byteV b]⟩ m L (Ret (.bool (dgt b)) m L):=by
 unfold TCall
 refine bw Tryz.func160 rfl 9 rfl ?_
 refine uA ?_
 (refine bB rfl rfl (fun h1 => ?_) (fun h1 => ?_))
 ·refine uA ?_
  refine bu rfl uS ⟨rfl,rfl, ?_⟩
  refine congrArg Value.bool ?_
  unfold dgt
  congr 1
  apply propext
  omega
 ·refine uA ?_
  refine bu rfl uS ⟨rfl,rfl, ?_⟩
  refine congrArg Value.bool ?_
  unfold dgt
  symm
  apply aI
  omega
theorem letter_ref : TCall Tryz.prog 162 ⟨[byteV b]⟩ m L (Ret (.bool (ltr b)) m L):=by
 unfold TCall
 refine bw Tryz.func162 rfl 21 rfl ?_
 repeat' (first|(first|refine q1 ?_|refine q3 ?_|refine q4 tab rfl rfl ?_|refine q5 ?_|refine q6 ?_|refine q15 ?_)|(refine bB rfl rfl (fun hb => ?_) (fun hb => ?_)))
 all_goals
  refine bu rfl uS ⟨rfl,rfl, ?_⟩
  refine congrArg Value.bool ?_
  unfold ltr
  (rw [Bool.eq_iff_iff];simp only [ar,aj,ao,Bool.not_eq_true',decide_eq_false_iff_not,true_iff,iff_true,Bool.false_eq_true,false_iff,iff_false];omega)
end
def IsClass (m : Mem) (L : List Item) (fn : FuncId) (cap : List Value) (p : UInt8→Bool) : Prop:=Goes Tryz.prog fn ∧ ∀ b : UInt8,TCall Tryz.prog fn ⟨byteV b :: cap⟩ m L (Ret (.bool (p b)) m L)
theorem either_cl (m : Mem) (L : List Item) (b : UInt8) (b1 b2 : Nat) (h1 : At m b1 0 [.func (.func 95) ⟨[]⟩ ⟨[]⟩]) (h2 : At m b2 0 [.func (.func 98) ⟨[]⟩ ⟨[]⟩]) :
  TCall Tryz.prog 134 ⟨[byteV b, .pointer (some ⟨b1,0,none⟩), .pointer (some ⟨b2,0,none⟩)]⟩ m L (Ret (.bool (lod b)) m L):=by
 unfold TCall
 refine bw Tryz.func134 rfl 13 rfl ?_
 refine uA ?_
 (refine oL tab h1 ?_)
 refine uA ?_
 refine oC goes95 ((letter_law m L b).x ?_);
 rintro _ _ _ ⟨rfl,rfl,rfl⟩
 refine uA ?_
 (refine bA rfl rfl (fun h3 => ?_) (fun h3 => ?_))
 ·refine uA ?_
  refine bu rfl uS ⟨rfl,rfl, ?_⟩
  unfold lod
  rw [h3];rfl
 ·refine uA ?_
  (refine oL tab h2 ?_)
  refine uA ?_
  refine oC goes98 ((digit_law m L b).x ?_);
  rintro _ _ _ ⟨rfl,rfl,rfl⟩
  refine uA ?_
  refine bu rfl uS ⟨rfl,rfl, ?_⟩
  unfold lod
  rw [h3];rfl
theorem either_law (m : Mem) (L : List Item) : TCall Tryz.prog 97 ⟨[.func (.func 95) ⟨[]⟩ ⟨[]⟩, .func (.func 98) ⟨[]⟩ ⟨[]⟩]⟩ m L
  (Made m L fun r m' => ∃ b1 b2,r = .func (.func 134) ⟨[]⟩ ⟨[.pointer (some ⟨b1,0,none⟩), .pointer (some ⟨b2,0,none⟩)]⟩ ∧ At m' b1 0 [.func (.func 95) ⟨[]⟩ ⟨[]⟩]∧At m' b2 0 [.func (.func 98) ⟨[]⟩ ⟨[]⟩]):=by
 unfold TCall
 refine bw Tryz.func97 rfl 6 rfl ?_
 refine uB ?_
 refine oB (fun b1 => ?_)
 refine uB ?_
 refine oB (fun b2 => ?_)
 refine cc fun m1 hm1 hA1 => ?_
 refine cc fun m2 hm2 hA2 => ?_
 refine uA ?_
 refine bu rfl uS ⟨bn hm1 hm2,rfl,b1,b2,rfl,hA2,hA1.mono hm2⟩
def spanOf (p : UInt8→Bool) (s : Str) : Nat:=(s.takeWhile p).length
theorem span_law (m : Mem) (L : List Item) (s : Str) (hs : s.length ≤ 140737488355328) (p : UInt8→Bool) (fn : FuncId) (cap : List Value) (hc : IsClass m L fn cap p) :
  TCall Tryz.prog 96 ⟨[strV s, .func (.func fn) ⟨[]⟩ ⟨cap⟩]⟩ m L (Ret (.int .i64 (spanOf p s)) m L):=by
 unfold TCall
 refine bw Tryz.func96 rfl 20 rfl ?_
 refine uA ?_
 refine br (ι:=Nat) [0,1] rfl (fun k=>[(5, .int .i64 (k : Int))]) (fun _=>m) (fun _=>L) (fun k=>k ≤ s.length∧spanOf p s=k + spanOf p (s.drop k)) (fun k=>s.length - k) 0 uH rfl uS ⟨aU _,by simp⟩ ?_
 rintro k ⟨hk,hI⟩
 refine uA ?_
 (refine bB rfl rfl (fun h1 => ?_) (fun h1 => ?_))
 ·refine uA ?_
  have hlt : k < s.length:=by omega
  have hx : s[k]? = some s[k]:=by simp [hlt]
  refine qs rfl (OT.sidx tab k rfl rfl rfl rfl rfl rfl rfl hx ?_)
  refine uA ?_
  refine qs rfl (bM (all:=byteV s[k] :: cap) rfl rfl rfl rfl rfl (by rw [fl_eq];rfl) hc.1 ((hc.2 s[k]).x ?_))
  rintro _ _ _ ⟨rfl,rfl,rfl⟩
  refine uA ?_
  refine bo rfl (fun h2 => ?_) (fun h2 => ?_)
  ·refine uA ?_
   refine qs rfl (bK (r':=((k + 1 : Nat) : Int)) rfl rfl rfl rfl rfl rfl rfl (by omega) ?_)
   refine uA ?_
   refine ⟨k + 1,uH,uH,rfl,rfl,uS,⟨by omega, ?_⟩,by omega⟩
   rw [hI,aJ hlt,spanOf,spanOf,List.takeWhile_cons_of_pos h2]
   simp;omega
  ·refine uA ?_
   refine bu rfl uS ⟨rfl,rfl, ?_⟩
   rw [hI,aJ hlt,spanOf,List.takeWhile_cons_of_neg (by simp [h2])]
   simp
 ·refine uA ?_
  refine bu rfl uS ⟨rfl,rfl, ?_⟩
  rw [hI,aS (by omega)]
  simp [spanOf]
end Go.Sep


/- ScSlices -/
namespace Go.Sep
open Go.Proofs
attribute [local irreducible] TC TO OT TCallX TCall DO DOt thenQ blockQ retQ At
def idx {α : Type} [DecidableEq α] : List α → α → Nat→Int
 | [],_,_ => -1
 | x :: xs,v,k=>if v=x then (k : Int) else idx xs v (k + 1)
theorem idx_not {α : Type} [DecidableEq α] : ∀ (l : List α) (v : α) (k : Nat),v ∉ l→idx l v k = -1
 | [],_,_,_=>rfl
 | x :: xs,v,k,h=>by
  rw [idx,if_neg (fun e=>h (by simp [e])),idx_not xs v (k + 1) (fun e=>h (by simp [e]))]
theorem idx_mem {α : Type} [DecidableEq α] : ∀ (l : List α) (v : α) (k : Nat),v ∈ l → ∃ j,l[j]? = some v∧idx l v k=((k + j : Nat) : Int)
 | [],_,_,h=>by cases h
 | x :: xs,v,k,h=>by
  by_cases e : v=x
  ·exact ⟨0,by simp [e],by rw [idx,if_pos e];rfl⟩
  ·have h' : v ∈ xs:=by
    rcases List.mem_cons.1 h with h | h
    ·exact absurd h e
    ·exact h
   obtain ⟨j,h1,h2⟩:=idx_mem xs v (k + 1) h'
   exact ⟨j + 1,by simpa using h1,by rw [idx,if_neg e,h2];congr 1;omega⟩
theorem idx_ge {α : Type} [DecidableEq α] (l : List α) (v : α) : decide (0 ≤ idx l v 0)=decide (v ∈ l):=by
 by_cases h : v ∈ l
 ·obtain ⟨j,_,h2⟩:=idx_mem l v 0 h
  simp [h,h2]
 ·simp [h,idx_not l v 0 h]
def idxP {α : Type} : List α → (α → Bool)→Nat→Int
 | [],_,_ => -1
 | x :: xs,p,k=>if p x=true then (k : Int) else idxP xs p (k + 1)
theorem idxP_ge0 {α : Type} : ∀ (l : List α) (p : α → Bool) (k : Nat),decide (0 ≤ idxP l p k)=l.any p
 | [],p,k=>by simp [idxP]
 | x :: xs,p,k=>by
  simp only [idxP,List.any_cons]
  split
  ·rename_i h;simp [h]
  ·rename_i h;rw [idxP_ge0 xs p (k + 1)];simp [h]
theorem idxP_ge {α : Type} (l : List α) (p : α → Bool) : decide (0 ≤ idxP l p 0)=l.any p:=idxP_ge0 l p 0
theorem index_str (m : Mem) (L : List Item) (s : Sl) (l : List Str) (v : Str) (hs : SlRep rStr m s l) :
  TCall Tryz.prog 135 ⟨[s.v,strV v]⟩ m L (Ret (.int .i64 (idx l v 0)) m L):=by
 unfold TCall
 refine bw Tryz.func135 rfl 19 rfl ?_
 refine uA ?_
 refine br (ι:=Nat) [0,1,7] rfl (fun k=>[(8, .int .i64 (k : Int))]) (fun _=>m) (fun _=>L) (fun k=>k ≤ l.length∧idx l v 0=idx (l.drop k) v k) (fun k=>l.length - k) 0 uH rfl uS ⟨aU _,rfl⟩ ?_
 rintro k ⟨hk,hI⟩
 have hl:=hs.len
 have hsm:=hs.small rfl
 refine uA ?_
 refine bq rfl (fun h => ?_) (fun h => ?_)
 ·have hlt : k < l.length:=by omega
  have hx : l[k]? = some l[k]:=by simp [hlt]
  refine uA ?_
  refine qs rfl (bO tab rStr k hs rfl rfl rfl rfl rfl (by first | rfl | omega | (simp only;omega)) rfl hx ?_)
  rintro b i hd rfl hA
  (first | refine qs rfl (OT.loadA tab hA rfl rfl rfl rfl rfl ?_) | refine oL tab hA ?_)
  refine uA ?_
  refine bq rfl (fun h => ?_) (fun h => ?_)
  ·refine uA ?_
   refine bu rfl uS ⟨rfl,rfl, ?_⟩
   rw [hI,aJ hlt,idx,if_pos h]
  ·refine uA ?_
   refine qs rfl (bK (r':=((k + 1 : Nat) : Int)) rfl rfl rfl rfl rfl rfl rfl (by omega) ?_)
   refine uA ?_
   exact ⟨k + 1,uH,uH,rfl,rfl,uS,⟨by omega,by rw [hI,aJ hlt,idx,if_neg h]⟩,by omega⟩
 ·refine uA ?_
  refine bu rfl uS ⟨rfl,rfl, ?_⟩
  rw [hI,aS (by omega)]
  rfl
theorem contains_str (m : Mem) (L : List Item) (s : Sl) (l : List Str) (v : Str) (hs : SlRep rStr m s l) :
  TCall Tryz.prog 99 ⟨[s.v,strV v]⟩ m L (Ret (.bool (decide (v ∈ l))) m L):=by
 unfold TCall
 refine bw Tryz.func99 rfl 9 rfl ?_
 refine uA ?_
 refine oC goes135 ((index_str m L s l v hs).x ?_);
 rintro _ _ _ ⟨rfl,rfl,rfl⟩
 refine uA ?_
 refine bu rfl uS ⟨rfl,rfl, ?_⟩
 exact congrArg Value.bool (by rw [idx_ge];try congr)
end Go.Sep


/- ScName -/
namespace Go.Sep
open Go.Proofs
attribute [local irreducible] TC TO OT TCallX TCall DO DOt thenQ blockQ retQ At
def wordL : List Str:=[[116,121,112,101],[115,116,114,117,99,116],[105,110,116,101,114,102,97,99,101],[102,117,110,99],[118,97,114],[105,102],[101,108,115,101],[102,111,114],[114,101,116,117,114,110],[98,114,101,97,107],[99,111,110,116,105,110,117,101],[116,114,117,101],[102,97,108,115,101],[110,105,108]]
def isName (s : Str) : Bool:=decide (0 < s.length) && (decide (s.length ≤ 64) && (!(s.head?.any dgt) && (s.all lod && !decide (s ∈ wordL))))
theorem all_refl2 {m : Mem} : ∀ l : List Str,All2 (rStr.rep m) l l
 | []=>trivial
 | _ :: l=>⟨rfl,all_refl2 l⟩
theorem words_rep {m : Mem} {b : Nat} (h : At m b 0 (encs rStr wordL)) : SlRep rStr m ⟨some ⟨b,0,none⟩,14,14⟩ wordL :=
 ⟨rfl,av _,(by show 14 * 16 ≤ _;decide),wordL,all_refl2 wordL, .inr ⟨b,0,rfl,h⟩⟩
theorem words_law (m : Mem) (L : List Item) : TCall Tryz.prog 100 ⟨[]⟩ m L (Made m L fun r m' => ∃ s : Sl,r=s.v∧SlRep rStr m' s wordL):=by
 unfold TCall
 refine bw Tryz.func100 rfl 2 rfl ?_
 refine uB ?_
 refine qs rfl (cd tab rfl rfl rfl rfl (fun b => ?_))
 refine cc fun m1 hm1 hA1 => ?_
 refine uA ?_
 exact bu rfl uS ⟨hm1,rfl,_,rfl,words_rep hA1⟩
theorem span_full (p : UInt8→Bool) (s : Str) : spanOf p s=s.length ↔ s.all p=true:=by
 unfold spanOf
 induction s with
 | nil=>simp
 | cons x xs ih =>
  by_cases h : p x=true
  ·rw [List.takeWhile_cons_of_pos h];simp [h,ih]
  ·rw [List.takeWhile_cons_of_neg h];simp [h]
theorem dgt_ltr (b : UInt8) : ltr b=(lod b && !dgt b):=by
 have hb : b.toNat < 256:=b.toNat_lt
 unfold lod ltr dgt
 rw [Bool.eq_iff_iff]
 simp only [ar,aj,ao,Bool.not_eq_true',decide_eq_false_iff_not]
 omega
theorem isName_eq {s : Str} (h : 0 < s.length) : isName s=(decide (s.length ≤ 64) && (ltr s[0] && (s.all lod && !decide (s ∈ wordL)))):=by
 cases s with
 | nil=>cases h
 | cons x xs =>
  unfold isName
  rw [aH h,aF]
  congr 1
  simp only [List.head?_cons,Option.any_some,List.getElem_cons_zero,dgt_ltr,aY]
  cases dgt x <;> cases lod x <;> simp
theorem name_law (m : Mem) (L : List Item) (s : Str) (hs : s.length ≤ 140737488355328) : TCall Tryz.prog 53 ⟨[strV s]⟩ m L (Ret (.bool (isName s)) m L):=by
 refine cg ?_
 unfold TCall
 refine bw Tryz.func53 rfl 29 rfl ?_
 refine uA ?_
 (refine bC rfl rfl (fun h1 => ?_) (fun h1 => ?_))
 ·refine uA ?_
  (refine bB rfl rfl (fun h2 => ?_) (fun h2 => ?_))
  ·refine uA ?_
   have hlt : 0 < s.length:=List.length_pos_iff.2 h1
   have hx : s[0]? = some s[0]:=by simp [hlt]
   refine qs rfl (OT.sidx tab 0 rfl rfl rfl rfl rfl rfl rfl hx ?_)
   refine uA ?_
   refine oC goes95 ((letter_law m L s[0]).x ?_);
   rintro _ _ _ ⟨rfl,rfl,rfl⟩
   refine uA ?_
   (refine bA rfl rfl (fun h3 => ?_) (fun h3 => ?_))
   ·refine uA ?_
    refine oC goes97 ((either_law m L).x ?_);
    rintro _ m1 _ ⟨hm1,rfl,b1,b2,rfl,hA1,hA2⟩
    refine uA ?_
    refine oC goes96 ((span_law m1 L s hs lod 134 _ ⟨goes134,fun b=>either_cl m1 L b b1 b2 hA1 hA2⟩).x ?_);
    rintro _ _ _ ⟨rfl,rfl,rfl⟩
    refine uA ?_
    (refine bB rfl rfl (fun h4 => ?_) (fun h4 => ?_))
    ·refine uA ?_
     refine oC goes100 ((words_law m1 L).x ?_);
     rintro _ m2 _ ⟨hm2,rfl,w,rfl,hw⟩
     refine uA ?_
     refine oC goes99 ((contains_str m2 L w wordL s hw).x ?_);
     rintro _ _ _ ⟨rfl,rfl,rfl⟩
     refine uA ?_
     refine bu rfl uS ⟨bn hm1 hm2,rfl, ?_⟩
     rw [isName_eq hlt,aH (by omega),h3,(span_full lod s).1 (by omega)];rfl
    ·refine uA ?_
     refine bu rfl uS ⟨hm1,rfl, ?_⟩
     have h5 : s.all lod=false:=Bool.eq_false_iff.2 (fun h=>h4 (by have:=(span_full lod s).2 h;omega))
     rw [isName_eq hlt,aH (by omega),h3,h5];rfl
   ·refine uA ?_
    refine bu rfl uS ⟨bm _,rfl, ?_⟩
    rw [isName_eq hlt,aH (by omega),h3];rfl
  ·refine uA ?_
   refine bu rfl uS ⟨bm _,rfl, ?_⟩
   have hlt : 0 < s.length:=List.length_pos_iff.2 h1
   rw [isName_eq hlt,aI (by omega)];rfl
 ·refine uA ?_
  refine bu rfl uS ⟨bm _,rfl, ?_⟩
  rw [h1];rfl
theorem reserved_ref (m : Mem) (L : List Item) (s : Str) : TCall Tryz.prog 161 ⟨[strV s]⟩ m L (Ret (.bool (decide (s ∈ wordL))) m L):=by
 refine cg ?_
 unfold TCall
 refine bw Tryz.func161 rfl 15 rfl ?_
 refine uB ?_
 refine qs rfl (cd tab rfl rfl rfl rfl (fun b => ?_))
 refine cc fun m1 hm1 hA1 => ?_
 have hw:=words_rep hA1
 refine uA ?_
 refine br (ι:=Nat) [0,5,6] rfl (fun k=>[(7, .int .i64 (k : Int))]) (fun _=>m1) (fun _=>L) (fun k=>k ≤ 14∧s ∉ wordL.take k) (fun k=>14 - k) 0 uH rfl uS ⟨aU _,by simp⟩ ?_
 rintro k ⟨hk,hI⟩
 have hwl : wordL.length=14:=rfl
 refine uN ?_
 refine bq rfl (fun h => ?_) (fun h => ?_)
 ·have hlt : k < wordL.length:=by omega
  have hx : wordL[k]? = some wordL[k]:=by simp [hlt]
  refine uA ?_
  refine qs rfl (bO tab rStr k hw rfl rfl rfl rfl rfl (by first | rfl | omega | (simp only;omega)) rfl hx ?_)
  rintro b i hd rfl hA
  (refine oL tab hA ?_)
  refine uA ?_
  refine bq rfl (fun h2 => ?_) (fun h2 => ?_)
  ·refine uA ?_
   refine bu rfl uS ⟨hm1,rfl, ?_⟩
   rw [aH]
   rw [h2]
   exact aB hlt
  ·refine uA ?_
   refine qs rfl (bK (r':=((k + 1 : Nat) : Int)) rfl rfl rfl rfl rfl rfl rfl (by omega) ?_)
   refine uA ?_
   refine ⟨k + 1,uH,uH,rfl,rfl,uS,⟨by omega, ?_⟩,by omega⟩
   rw [aX hlt,List.mem_append]
   rintro (h3 | h3)
   ·exact hI h3
   ·exact h2 (by simpa using h3)
 ·refine uA ?_
  refine bu rfl uS ⟨hm1,rfl, ?_⟩
  rw [aI]
  rwa [aT (by omega)] at hI
theorem name_ref (m : Mem) (L : List Item) (s : Str) (hs : s.length ≤ 140737488355328) : TCall Tryz.prog 127 ⟨[strV s]⟩ m L (Ret (.bool (isName s)) m L):=by
 unfold TCall
 refine bw Tryz.func127 rfl 39 rfl ?_
 refine uB ?_
 refine uN ?_
 (refine bB rfl rfl (fun h1 => ?_) (fun h1 => ?_))
 ·refine uN ?_
  refine TC.cond_t rfl ?_
  refine uN ?_
  refine bu rfl uS ⟨rfl,rfl, ?_⟩
  have h0 : s=[]:=List.length_eq_zero_iff.1 (by omega)
  rw [h0];rfl
 have hlt : 0 < s.length:=by omega
 ·refine uN ?_
  (refine bB rfl rfl (fun h2 => ?_) (fun h2 => ?_))
  ·refine uN ?_
   refine TC.cond_t rfl ?_
   refine uN ?_
   refine bu rfl uS ⟨rfl,rfl, ?_⟩
   rw [isName_eq hlt,aI (by omega)];rfl
  have hx : s[0]? = some s[0]:=by simp [hlt]
  refine uN ?_
  refine qs rfl (OT.sidx tab 0 rfl rfl rfl rfl rfl rfl rfl hx ?_)
  refine uN ?_
  refine oC goes160 ((digit_ref m L s[0]).x ?_);
  rintro _ _ _ ⟨rfl,rfl,rfl⟩
  refine uN ?_
  (refine bB rfl rfl (fun h3 => ?_) (fun h3 => ?_))
  ·refine uN ?_
   refine TC.cond_t rfl ?_
   refine uN ?_
   refine bu rfl uS ⟨rfl,rfl, ?_⟩
   have h5 : dgt s[0]=true:=aH h3
   rw [isName_eq hlt,dgt_ltr,h5];simp
  refine uN ?_
  refine oC goes161 ((reserved_ref m L s).x ?_);
  rintro _ _ _ ⟨rfl,rfl,rfl⟩
  refine uN ?_
  refine bq rfl (fun h4 => ?_) (fun h4 => ?_)
  ·refine uN ?_
   refine bu rfl uS ⟨rfl,rfl, ?_⟩
   rw [isName_eq hlt,aH h4];simp
  refine uN ?_
  refine br (ι:=Nat) [0] rfl (fun k=>[(3, .int .i64 (k : Int))]) (fun _=>m) (fun _=>L) (fun k=>k ≤ s.length∧(s.take k).all lod=true) (fun k=>s.length - k) 0 uH rfl uS ⟨aU _,by simp⟩ ?_
  rintro k ⟨hk,hI⟩
  refine uN ?_
  refine bq rfl (fun h => ?_) (fun h => ?_)
  ·have hl2 : k < s.length:=by omega
   have hx : s[k]? = some s[k]:=by simp [hl2]
   refine uN ?_
   refine qs rfl (OT.sidx tab k rfl rfl rfl rfl rfl rfl rfl hx ?_)
   refine uN ?_
   refine oC goes162 ((letter_ref m L s[k]).x ?_);
   rintro _ _ _ ⟨rfl,rfl,rfl⟩
   refine uN ?_
   have step : lod s[k]=true→k + 1 ≤ s.length∧(s.take (k + 1)).all lod=true:=fun hl=>⟨by omega,by rw [aX hl2,List.all_append,hI,aY,hl];rfl⟩
   refine bA (b := !ltr s[k]) rfl rfl (fun h5 => ?_) (fun h5 => ?_)
   ·refine uN ?_
    refine qs rfl (OT.sidx tab k rfl rfl rfl rfl rfl rfl rfl hx ?_)
    refine uN ?_
    refine oC goes160 ((digit_ref m L s[k]).x ?_);
    rintro _ _ _ ⟨rfl,rfl,rfl⟩
    refine uN ?_
    refine bo (t := !dgt s[k]) rfl (fun h6 => ?_) (fun h6 => ?_)
    ·refine uN ?_
     refine bu rfl uS ⟨rfl,rfl, ?_⟩
     have h7 : s.all lod=false:=List.all_eq_false.2 ⟨s[k],aB hl2,by unfold lod;simp_all⟩
     rw [isName_eq hlt,h7];simp
    ·refine uN ?_
     refine qs rfl (bK (r':=((k + 1 : Nat) : Int)) rfl rfl rfl rfl rfl rfl rfl (by omega) ?_)
     refine uN ?_
     exact ⟨k + 1,uH,uH,rfl,rfl,uS,step (by unfold lod;simp_all),by omega⟩
   ·refine uN ?_
    refine TC.cond_f rfl ?_
    refine uN ?_
    refine qs rfl (bK (r':=((k + 1 : Nat) : Int)) rfl rfl rfl rfl rfl rfl rfl (by omega) ?_)
    refine uN ?_
    exact ⟨k + 1,uH,uH,rfl,rfl,uS,step (by unfold lod;simp_all),by omega⟩
  ·refine uN ?_
   refine bu rfl uS ⟨rfl,rfl, ?_⟩
   rw [aT (by omega)] at hI
   have h5 : dgt s[0]=false:=aI h3
   rw [isName_eq hlt,aH (by omega),dgt_ltr,h5,hI,aI h4]
   have:=List.all_eq_true.1 hI s[0] (aB hlt)
   rw [this];rfl
end Go.Sep

