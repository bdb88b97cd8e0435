/-
  Part 5 of the proof: library, walks and plain laws.
-/
import Derived.Lib.UnsafeStr
import Derived.Test.YtiknfjdjbhbjhaaGreatDoorB4
set_option linter.unusedVariables false
set_option linter.unusedSimpArgs false
namespace Go.Sep
section
variable {P : Program} {N : Nat} {ρ : Env} {D : List Deferred} {m : Mem} {L : List Item} {Q : EPost} {full : List Oper} {o : Oper} {K : Env→Mem→List Item→Prop}
theorem OT.allocT (T : Tab P) {t : TypeId} {d : Nat} {cs : List Value} (ho : o.op = .alloc t) (hd : o.dst=some d) (hN : Nat.blt d N=true)
  (hv : T.zeroCells t=some cs) (hK : ∀ b m',m ≤ m' → m'.t b=some (t,cs.length)→K ((d, .pointer (some ⟨b,0,none⟩)) :: ρ) m' (.cells b 0 cs :: L)) : OT P N o ρ D m L Q K:=by
 intro a w ha
 unfold Tab.zeroCells at hv
 split at hv
 ·rename_i i hi
  have hr : (execOp a.eval o).run P w = .ok (.value (.pointer (some ⟨w.heap.size,0,none⟩))) (w.alloc (.cells ⟨cs⟩ t)):=by
   simp only [execOp,ho,Instr.alloc,newVar,newRow,cellsF_eq hv,Sem.run_bind,Sem.run_pure,run_newObj,Result.andThen_ok,World.alloc_eq,T.run_zero w hi]
  simp only [Oper.wp,hr,Oper.upon,hd]
  have hp:=ha.put hN (.pointer (some ⟨w.heap.size,0,none⟩))
  have hst:=ha.st.allocCells ⟨cs⟩ t
  obtain ⟨f1,f2,f3⟩:=hst.typed (heap_alloc_at w (.cells ⟨cs⟩ t))
  exact ⟨_,_,_,⟨hp.size,hp.env,hp.defers,f3⟩,hK _ _ f1 f2⟩
 ·cases hv
theorem St.shape {w : World} {b : Nat} {x : TypeId × Nat} (h : St m w L) (hb : m.t b=some x) : w.shape? b=some x:=by
 obtain ⟨arr,fr,h1,h2⟩:=h.t b x hb
 simp only [World.shape?,h1]
 rw [h2]
def Tab.isPtr {P : Program} (T : Tab P) (t e : TypeId) : Bool :=
 match T.get t with
 | some ⟨.pointer u,_,_,_⟩=>Nat.beq u e
 | _=>false
theorem isPtr_get {T : Tab P} {t e : TypeId} (h : T.isPtr t e=true) : ∃ i,T.get t=some i∧i.u = .pointer e:=by
 unfold Tab.isPtr at h
 split at h
 ·have:=Nat.eq_of_beq_eq_true h
  subst this
  exact ⟨_,by assumption,rfl⟩
 ·cases h
def Tab.isUnsafe {P : Program} (T : Tab P) (t : TypeId) : Bool :=
 match T.get t with
 | some ⟨.unsafePointer,_,_,_⟩=>true
 | _=>false
theorem isUnsafe_get {T : Tab P} {t : TypeId} (h : T.isUnsafe t=true) : ∃ i,T.get t=some i∧i.u = .unsafePointer:=by
 unfold Tab.isUnsafe at h
 split at h
 ·exact ⟨_,by assumption,rfl⟩
 ·cases h
def Tab.size1 {P : Program} (T : Tab P) (t : TypeId) : Bool :=
 match T.get t with
 | some ⟨_,n + 1,_,_⟩=>true
 | _=>false
theorem size1_get {T : Tab P} {t : TypeId} (h : T.size1 t=true) : ∃ i,T.get t=some i∧i.size ≠ 0:=by
 unfold Tab.size1 at h
 split at h
 ·exact ⟨_,by assumption,by simp⟩
 ·cases h
theorem equalIn_ptrNil {t e : TypeId} {w : World} (dd : Nat) (a : Addr) (hu : (underlying t).run P w = .ok (.pointer e) w) :
  (Op.equalIn (dd + 1) t (.pointer (some a)) (.pointer none)).run P w = .ok false w:=by
 simp only [Op.equalIn,Sem.run_bind,hu,Result.andThen_ok,Sem.run_pure]
theorem equalIn_nilPtr {t e : TypeId} {w : World} (dd : Nat) (hu : (underlying t).run P w = .ok (.pointer e) w) :
  (Op.equalIn (dd + 1) t (.pointer none) (.pointer none)).run P w = .ok true w:=by
 simp only [Op.equalIn,Sem.run_bind,hu,Result.andThen_ok,Sem.run_pure]
 rfl
theorem OT.ptrNil (T : Tab P) {t t' e : TypeId} {x y : Operand} {q : Option Addr} {d : Nat} (ho : o.op = .binOp .eql t x y t') (hd : o.dst=some d) (hN : Nat.blt d N=true)
  (hx : ev ρ x=some (.pointer q)) (hy : ev ρ y=some (.pointer none)) (ht : T.isPtr t e=true) (hK : K ((d, .bool q.isNone) :: ρ) m L) : OT P N o ρ D m L Q K:=by
 obtain ⟨ti,h1,h2⟩:=isPtr_get ht
 refine OT.run hd hN (fun ac w ha=>⟨w, ?_,ha.st⟩) hK
 have hu:=T.run_underlying w h1
 rw [h2] at hu
 have e1 : binOp .eql t (.pointer q) (.pointer none)=(do pure (.bool (← Op.equalIn (9999 + 1) t (.pointer q) (.pointer none))) : Sem Value):=rfl
 have e2 : (eqGuard .eql t x y (.pointer q) (.pointer none)).run P w = .ok () w:=by simp [eqGuard]
 cases q with
 | none =>
  have h:=equalIn_nilPtr (P:=P) 9999 hu
  simp only [execOp,ho,ha.env.eval hx,ha.env.eval hy,Sem.run_bind,e2,Result.andThen_ok,e1,h,Sem.run_pure];rfl
 | some q =>
  have h:=equalIn_ptrNil (P:=P) 9999 q hu
  simp only [execOp,ho,ha.env.eval hx,ha.env.eval hy,Sem.run_bind,e2,Result.andThen_ok,e1,h,Sem.run_pure];rfl
end
end Go.Sep
set_option linter.unusedVariables false
set_option linter.unusedSimpArgs false
namespace Go.Sep
theorem freeze_cell (w : World) (a : Addr) (n : Nat) (x : Addr) : (w.freeze a n).cell? x=w.cell? x:=by
 unfold World.freeze
 split
 ·rfl
 ·simp only [World.cell?,Array.getElem?_modify]
  by_cases e : a.block=x.block
  ·rw [if_pos e]
   cases h : w.heap[x.block]? with
   | none=>rfl
   | some ob=>cases ob <;> rfl
  ·rw [if_neg e]
theorem freeze_heap (w : World) (a : Addr) (n : Nat) {b : Nat} (h : a.block ≠ b) : (w.freeze a n).heap[b]? = w.heap[b]?:=by
 unfold World.freeze
 split
 ·rfl
 ·simp only [Array.getElem?_modify]
  rw [if_neg h]
theorem St.frz {m : Mem} {w : World} {L : List Item} (h : St m w L) (g n : Nat) (hp : m.pin.heap.size ≤ g) (hL : ∀ x ∈ L,0 < x.len→x.blk ≠ g) : St m (w.freeze ⟨g,0,none⟩ n) L:=by
 have hsz : (w.freeze ⟨g,0,none⟩ n).heap.size=w.heap.size:=by
  unfold World.freeze
  split
  ·rfl
  ·simp
 have hos : (w.freeze ⟨g,0,none⟩ n).os=w.os∧(w.freeze ⟨g,0,none⟩ n).tape=w.tape∧(w.freeze ⟨g,0,none⟩ n).output=w.output:=by
  unfold World.freeze
  split <;> exact ⟨rfl,rfl,rfl⟩
 have hfz : ∀ a : Addr,a.block ≠ g→(w.freeze ⟨g,0,none⟩ n).frozen? a=w.frozen? a:=fun a ha=>World.frozen?_of_block (freeze_heap w _ n (fun e=>ha e.symm))
 refine { os:=hos.1.trans h.os,tape:=hos.2.1.trans h.tape,output:=hos.2.2.trans h.output,size:=by rw [hsz];exact h.size,pin:=fun b hb=>(freeze_heap w _ n (show g ≠ b by omega)).trans (h.pin b hb),c:=fun b i v hv=>(freeze_cell ..).trans (h.c b i v hv),o:=fun b x hx => ?_,t:=fun b x hx => ?_,items:=fun x hx => ?_,free:=h.free,disj:=h.disj }
 ·have h1:=h.o b x hx
  by_cases e : g=b
  ·subst e
   unfold World.freeze
   split
   ·exact h1
   ·refine ⟨?_,h1.2⟩
    simp only [Array.getElem?_modify,if_true,h1.1,Option.map_some]
    cases x <;> simp_all [isCells]
  ·exact ⟨(freeze_heap w _ n e).trans h1.1,h1.2⟩
 ·obtain ⟨arr,fr,g1,g2⟩:=h.t b x hx
  by_cases e : g=b
  ·subst e
   unfold World.freeze
   split
   ·exact ⟨arr,fr,g1,g2⟩
   ·simp only [Array.getElem?_modify,if_true,g1,Option.map_some]
    exact ⟨arr,_,rfl,g2⟩
  ·exact ⟨arr,fr,(freeze_heap w _ n e).trans g1,g2⟩
 ·have hi:=h.items x hx
  have hl:=hL x hx
  cases x with
  | cells b off vs =>
   intro j v hv
   obtain ⟨g1,g2⟩:=hi j v hv
   have hj:=(List.getElem?_eq_some_iff.1 hv).1
   have hne : b ≠ g:=hl (by simp only [Item.len];omega)
   exact ⟨(freeze_cell ..).trans g1,fun i=>(hfz ⟨b,i,none⟩ hne).trans (g2 i)⟩
  | room b off k =>
   intro j hj
   obtain ⟨v,g1,g2⟩:=hi j hj
   have hne : b ≠ g:=hl (by simp only [Item.len];omega)
   exact ⟨v,(freeze_cell ..).trans g1,fun i=>(hfz ⟨b,i,none⟩ hne).trans (g2 i)⟩
  | obj b ob =>
   have hne : b ≠ g:=hl (by simp [Item.len])
   exact ⟨(freeze_heap w _ n (fun e=>hne e.symm)).trans hi.1,hi.2⟩
theorem cell_arr {w : World} {g i : Nat} {arr : Array Value} {e : TypeId} {fr : Nat × Nat} {v : Value} (hg : w.heap[g]? = some (.cells arr e fr)) (h : w.cell? ⟨g,i,none⟩ = some v) : i < arr.size:=by
 simp only [World.cell?,hg] at h
 exact (Array.getElem?_eq_some_iff.1 (by simpa using h)).1
def isObj : Item→Bool
 | .obj ..=>true
 | _=>false
theorem St.alone {m : Mem} {w : World} {L : List Item} {g n c : Nat} {e : TypeId} {vs : List Value} (h : St m w (tok ⟨some ⟨g,0,none⟩,n,c⟩ 1 :: L)) (hn : n ≤ c) (hA : At m g 0 vs) (hv : vs.length=n) (ht : m.t g=some (e,c)) : ∀ x ∈ L,0 < x.len→x.blk ≠ g:=by
 intro x hx hl hb
 obtain ⟨arr,fr,g1,g2⟩:=h.t g _ ht
 have hd:=(List.pairwise_cons.1 h.disj).1 x hx
 have hf:=h.free x (List.mem_cons_of_mem _ hx)
 have hi:=h.items x (List.mem_cons_of_mem _ hx)
 have hoff : x.off < c ∨ isObj x=true:=by
  cases x with
  | cells b off us =>
   left
   simp only [Item.blk] at hb
   subst hb
   obtain ⟨q1,_⟩:=hi 0 us[0] (by simp only [Item.len] at hl;simp [hl])
   have:=cell_arr g1 q1
   rw [g2] at this
   simpa [Item.off] using this
  | room b off k =>
   left
   simp only [Item.blk] at hb
   subst hb
   obtain ⟨v,q1,_⟩:=hi 0 hl
   have:=cell_arr g1 q1
   rw [g2] at this
   simpa [Item.off] using this
  | obj b ob=>right;rfl
 rcases hoff with hoff | hoff
 ·by_cases hlt : x.off < n
  ·have h1:=hf.c 0 hl
   rw [hb,Nat.add_zero] at h1
   have h2:=hA x.off vs[x.off] (by simp [hv,hlt])
   rw [Nat.zero_add,h1] at h2
   cases h2
  ·simp only [tok,Item.Disj,Item.len,Item.blk,Item.off,Nat.mul_one,Nat.zero_add] at hd
   rcases hd with q | q | q | q | q
   ·omega
   ·simp only [Item.len] at hl;cases x <;> simp_all [Item.len] <;> omega
   ·exact q hb.symm
   ·cases x <;> simp_all [Item.off] <;> omega
   ·cases x <;> simp_all [Item.off,Item.len] <;> omega
 ·cases x with
  | obj b ob =>
   simp only [Item.blk] at hb
   subst hb
   have h1:=hi.1
   have h2:=hi.2
   rw [g1] at h1
   cases h1
   simp [isCells] at h2
  | cells=>cases hoff
  | room=>cases hoff
section
variable {P : Program} {N : Nat} {ρ : Env} {D : List Deferred} {m : Mem} {L : List Item} {Q : EPost} {full : List Oper} {o : Oper} {K : Env→Mem→List Item→Prop}
theorem At.bytes {m : Mem} {b : Nat} {bs : List UInt8} (h : At m b 0 (bs.map byteV)) {w : World} (hst : St m w L) : ∀ j x,bs[j]? = some x→w.cell? ((⟨b,0,none⟩ : Addr).add j)=some (.int .u8 x.toNat):=fun j x hx=>by
 rw [addr_add]
 have:=hst.c _ _ _ (h j (byteV x) (by simp [hx]))
 simpa using this
theorem OT.sliceData {ts : Array TypeId} {x : Operand} {a : Option Addr} {n c d : Nat} (ho : o.op = .call ⟨.builtin .unsafeSliceData,⟨[x]⟩,ts⟩) (hd : o.dst=some d) (hN : Nat.blt d N=true) (hx : ev ρ x=some (.slice a n c)) (hc : a=none ∨ c ≠ 0) (hK : K ((d, .pointer a) :: ρ) m L) : OT P N o ρ D m L Q K:=by
 refine OT.run hd hN (fun ac w ha=>⟨w, ?_,ha.st⟩) hK
 have hr : (Builtin.unsafeSliceData_ ts o.type #[.slice a n c]).run P w = .ok (.pointer a) w:=by
  cases a with
  | none=>exact Lib.run_unsafeSliceData_nil w ts o.type n c
  | some a =>
   rcases hc with h | h
   ·cases h
   ·exact Lib.run_unsafeSliceData_row w ts o.type a n c h
 simp only [execOp,ho,resolve,invoke,builtin,Sem.run_bind,Sem.run_pure,Result.andThen_ok,List.map_toArray,List.map_cons,List.map_nil,ha.env.eval hx,hr]
theorem OT.unsafeStr0 {pt it : TypeId} {x y : Operand} {p : Option Addr} {d : Nat} (ho : o.op = .call ⟨.builtin .unsafeString,⟨[x,y]⟩,⟨[pt,it]⟩⟩) (hd : o.dst=some d) (hN : Nat.blt d N=true) (hx : ev ρ x=some (.pointer p)) (hy : ev ρ y=some (.int .i64 0))
  (hK : K ((d,strV []) :: ρ) m L) : OT P N o ρ D m L Q K:=by
 refine OT.run hd hN (fun ac w ha=>⟨w, ?_,ha.st⟩) hK
 have hr:=Lib.run_unsafeString_none (P:=P) w pt it o.type p
 simp only [execOp,ho,resolve,invoke,builtin,Sem.run_bind,Sem.run_pure,Result.andThen_ok,List.map_toArray,List.map_cons,List.map_nil,ha.env.eval hx,ha.env.eval hy]
 simp only [List.map_toArray,List.map_cons,List.map_nil,ha.env.eval hx,ha.env.eval hy,hr,Result.andThen_ok]
 rfl
theorem OT.unsafeStr (T : Tab P) {pt it e : TypeId} {x y : Operand} {g n c : Nat} {bs : List UInt8} {d : Nat} (ho : o.op = .call ⟨.builtin .unsafeString,⟨[x,y]⟩,⟨[pt,it]⟩⟩) (hd : o.dst=some d) (hN : Nat.blt d N=true) (hx : ev ρ x=some (.pointer (some ⟨g,0,none⟩))) (hy : ev ρ y=some (.int .i64 (n : Int)))
  (hpt : T.isPtr pt e=true) (hce : P.cellsOf e=1) (hA : At m g 0 (bs.map byteV)) (hbs : bs.length=n) (hpos : 0 < n) (hc : n ≤ c) (hmax : n ≤ 9223372036854775807) (ht : m.t g=some (e,c)) (hp : m.pin.heap.size ≤ g)
  (hK : K ((d,strV bs) :: ρ) m L) : OT P N o ρ D m (tok ⟨some ⟨g,0,none⟩,n,c⟩ 1 :: L) Q K:=by
 obtain ⟨pi,p1,p2⟩:=isPtr_get hpt
 obtain ⟨_,_,hup,_⟩:=T.ok pt pi p1
 rw [p2] at hup
 refine OT.run hd hN (fun ac w ha => ?_) hK
 have hst:=ha.st
 have halone:=hst.alone hc hA (by rw [List.length_map];exact hbs) ht
 have hcell:=At.bytes hA hst
 have hne : bs ≠ []:=fun e=>by subst e;simp at hbs;omega
 have hr:=Lib.run_unsafeString_row (P:=P) w pt it o.type e hup hce g c (hst.shape ht) bs hne (by omega) (by omega) hcell
 refine ⟨_, ?_,(hst.sub (List.sublist_cons_self _ _)).frz g bs.length hp halone⟩
 subst hbs
 simp only [execOp,ho,resolve,invoke,builtin,Sem.run_bind,Sem.run_pure,Result.andThen_ok,List.map_toArray,List.map_cons,List.map_nil,ha.env.eval hx,ha.env.eval hy]
 simp only [List.map_toArray,List.map_cons,List.map_nil,ha.env.eval hx,ha.env.eval hy,hr,Result.andThen_ok]
theorem OT.bytesStr (T : Tab P) {t u : TypeId} {x : Operand} {s : Sl} {bs : List UInt8} {d : Nat} {e : TypeId} {ei : TI} (ho : o.op = .convert t u x) (hd : o.dst=some d) (hN : Nat.blt d N=true) (hx : ev ρ x=some s.v) (he : T.elem t=some (e,ei)) (hb : ei.u = .int .u8) (hu : T.isStr u=true) (hs : SlRep rByte m s bs) (hpos : 0 < bs.length)
  (hK : K ((d,strV bs) :: ρ) m L) : OT P N o ρ D m L Q K:=by
 obtain ⟨ti,h4,h5,h6⟩:=elem_get he
 obtain ⟨ui,u1,u2⟩:=isStr_get hu
 obtain ⟨_,_,hut,_⟩:=T.ok t ti h4
 rw [h5] at hut
 obtain ⟨_,_,huu,_⟩:=T.ok u ui u1
 rw [u2] at huu
 obtain ⟨_,_,hue,_⟩:=T.ok e ei h6
 rw [hb] at hue
 refine OT.run hd hN (fun ac w ha=>⟨w, ?_,ha.st⟩) hK
 obtain ⟨hs',k1,k2⟩:=hs.cells
 have hh:=byte_all2 k1
 subst hh
 rcases k2 with ⟨k2,_⟩ | ⟨b,off,k3,k4⟩
 ·subst k2;simp at hpos
 ·obtain ⟨a,n,c⟩:=s
  simp only at k3
  subst k3
  have hlen : n=hs'.length:=hs.len
  subst hlen
  have hr:=run_convert_bytes_back (P:=P) w t u e ⟨b,off,none⟩ c hs' hut hue huu (fun j hj=>by
   rw [addr_add]
   rw [encs_byte] at k4
   exact ha.st.c _ _ _ (k4 j (byteV hs'[j]) (by simp [hj])))
  simp only [execOp,ho,ha.env.eval hx,Sl.v,Sem.run_bind,hr,Result.andThen_ok,Sem.run_pure]
end
end Go.Sep
set_option linter.unusedVariables false
set_option linter.unusedSimpArgs false
namespace Go.Sep
theorem allOne_bytes : ∀ bs : List UInt8,allOne (bs.map byteV)=true
 | []=>rfl
 | x :: xs=>by
  have:=allOne_bytes xs
  have h1 : (byteV x).oneCell' = true:=rfl
  simpa [allOne,h1] using this
section
variable {P : Program} {N : Nat} {ρ : Env} {D : List Deferred} {m : Mem} {L : List Item} {Q : EPost} {full : List Oper} {o : Oper} {K : Env→Mem→List Item→Prop}
theorem run_appendS (T : Tab P) {t t2 e ty : TypeId} {ei : TI} {w : World} {s : Sl} {bs : List UInt8} {xs : List Value} {i : Nat} (he : T.elem t=some (e,ei)) (he2 : T.isStr t2=true)
  (hw : St m w L) (hi : L[i]? = some (tok s ei.size)) (ho : Own s) (hx : Src w s ei.size xs) (hsz1 : ei.size=1) (hzs : ei.zero.cells.size=ei.size) (hcap : s.len ≤ s.cap)
  (hb : 0 < ei.bytes) (hfit : (s.len + bs.length) * ei.bytes ≤ 140737488355328) (hAt : ∀ b o,s.a=some ⟨b,o,none⟩ → At m b o xs) :
  ∃ s' m' w',(Builtin.append_ #[t,t2] ty #[s.v,strV bs]).run P w = .ok s'.v w' ∧ m ≤ m' ∧ St m' w' (L.set i (tok s' ei.size))∧Own s' ∧ s'.len=s.len + bs.length∧s'.len ≤ s'.cap ∧
   ((s'.a=none∧xs++bs.map byteV=[]∧s'.cap=0) ∨ ∃ b o,s'.a=some ⟨b,o,none⟩ ∧ At m' b o (xs++bs.map byteV)):=by
 obtain ⟨ti,h4,h5,h6⟩:=elem_get he
 obtain ⟨ti2,k4,k5⟩:=isStr_get he2
 obtain ⟨_,_,hu,_⟩:=T.ok t ti h4
 rw [h5] at hu
 obtain ⟨_,_,hu2,_⟩:=T.ok t2 ti2 k4
 rw [k5] at hu2
 obtain ⟨info,q1,q2,q3,q4,q5⟩:=T.ok e ei h6
 have hnewA : ∀ w : World,(Builtin.firstCells ei.size bs.length (strV bs)).run P w = .ok (⟨bs.map byteV⟩ : Array Value) w:=fun w=>by
  have hx : (⟨⟨bs⟩⟩ : ByteArray).extract 0 bs.length = ⟨⟨bs⟩⟩:=by
   apply ByteArray.ext
   apply Array.ext'
   simp
  simp only [Builtin.firstCells,Sem.run_pure]
  rw [hx]
  congr 1
  apply Array.ext'
  simp
 have hnew:=hnewA w
 have hsize : (⟨⟨bs⟩⟩ : ByteArray).size=bs.length:=rfl
 have hylen : (bs.map byteV).length=bs.length * ei.size:=by rw [hsz1];simp
 have h1 : allOne (bs.map byteV)=true:=by
  induction bs with
  | nil=>rfl
  | cons x xs ih=>exact allOne_bytes (x :: xs)
 have hbound : s.len + bs.length ≤ 140737488355328:=Nat.le_trans (Nat.le_mul_of_pos_right _ hb) hfit
 by_cases hroom : s.len + bs.length ≤ s.cap
 ·
  rcases ho with hnil | ⟨b,o,ha⟩
  ·subst hnil
   simp only at hroom
   have hz : bs.length=0:=by omega
   have hxs : xs=[]:=List.eq_nil_of_length_eq_zero (by have:=hx.1;simpa using this)
   have hns : bs=[]:=List.eq_nil_of_length_eq_zero hz
   subst hxs;subst hns
   refine ⟨⟨none,0,0⟩,m,w, ?_,m.le_refl,by rw [set_same hi];exact hw, .inl rfl,by simp [hz],by simp, .inl ⟨rfl,rfl,rfl⟩⟩
   have hnew':=hnew
   simp only [List.length_nil,List.map_nil] at hnew'
   simp [Builtin.append_,run_underlying hu,run_underlying hu2,sizeOf,typeInfo,q1,q3,Builtin.lenOf,hsize,hz,hnew']
  ·obtain ⟨a,n,c⟩:=s
   simp only at ha hroom hcap hbound hfit hx hAt
   subst ha
   have hst:=(hw.at_ hi)
   simp only [tok] at hst
   obtain ⟨vs,hvl,hst⟩:=hst.ofRoom
   have hnl : (bs.map byteV).length ≤ vs.length:=by
    rw [hvl,hylen];exact Nat.mul_le_mul_right _ (by omega)
   obtain ⟨w',hr,hst'⟩:=run_storeCells (P:=P) (bs.map byteV) vs 0 0 w hst h1 (by omega)
   rw [putAt_zero hnl] at hst'
   have hst2:=hst'.split
   obtain ⟨g1,g2,g3⟩:=hst2.freeze
   have g4:=g3.toRoom
   refine ⟨⟨some ⟨b,o,none⟩,n + bs.length,c⟩,m.addCells b (o + n * ei.size) (bs.map byteV),w', ?_,g1, ?_, .inr ⟨b,o,rfl⟩,rfl,hroom, .inr ⟨b,o,rfl, ?_⟩⟩
   ·have hr' : (storeCells ((⟨b,o,none⟩ : Addr).add (n * ei.size)) (bs.map byteV)).run P w = .ok () w':=by rw [addr_add];exact hr
    simp [Builtin.append_,run_underlying hu,run_underlying hu2,sizeOf,typeInfo,q1,q3,Builtin.lenOf,hsize,hroom,hnew,hr']
   ·have e1 : Item.room b (o + n * ei.size + (bs.map byteV).length) (List.drop (bs.map byteV).length vs).length=tok ⟨some ⟨b,o,none⟩,n + bs.length,c⟩ ei.size:=by
     simp only [tok,List.length_drop,hvl,hylen]
     congr 1
     ·rw [Nat.add_mul];omega
     ·rw [← Nat.sub_mul];congr 1;omega
    rw [← e1]
    exact St.back hi g4
   ·refine ((hAt b o rfl).mono g1).append ?_
    rw [hx.1]
    exact g2
 ·
  have hlt : s.cap < s.len + bs.length:=by omega
  have h48 : ¬ (Builtin.nextslicecap (s.len + bs.length) s.cap * ei.bytes > 281474976710656):=by
   have:=growslice_fits hlt hfit
   omega
  have hold:=run_first (P:=P) (hx.drew)
  have hnew':=hnewA w.drew
  obtain ⟨nc,hnc,hge⟩ : ∃ nc,nc=(Question.appendCap (s.len + bs.length) s.cap e).cut (w.tape w.drawn (.appendCap (s.len + bs.length) s.cap e))∧s.len + bs.length ≤ nc:=⟨_,rfl,by simp [Question.cut]⟩
  have hst:=hw.drew.allocCells ((⟨xs⟩ : Array Value)++(⟨bs.map byteV⟩ : Array Value)++Builtin.zeroCells ei.zero.cells (nc - (s.len + bs.length))) e
  have hl1 : ((⟨xs⟩ : Array Value)++(⟨bs.map byteV⟩ : Array Value)++Builtin.zeroCells ei.zero.cells (nc - (s.len + bs.length))).toList=(xs++bs.map byteV)++(Builtin.zeroCells ei.zero.cells (nc - (s.len + bs.length))).toList:=by simp
  rw [hl1] at hst
  obtain ⟨g1,g2,g3⟩:=hst.split.freeze
  have g4:=g3.toRoom
  have hxl : (xs++bs.map byteV).length=(s.len + bs.length) * ei.size:=by rw [List.length_append,hx.1,hylen,Nat.add_mul]
  refine ⟨⟨some ⟨w.heap.size,0,none⟩,s.len + bs.length,nc⟩,_,w.drew.alloc (.cells ((⟨xs⟩ : Array Value)++(⟨bs.map byteV⟩ : Array Value)++Builtin.zeroCells ei.zero.cells (nc - (s.len + bs.length))) e), ?_,g1, ?_, .inr ⟨_,_,rfl⟩,rfl,hge, .inr ⟨_,_,rfl,g2⟩⟩
  ·simp only [Sl.v] at hold
   have hb0 : ei.bytes ≠ 0:=by omega
   have hmax : ¬ (9223372036854775807 < (s.len : Int) + (bs.length : Int)):=by omega
   simp [Builtin.append_,run_underlying hu,run_underlying hu2,sizeOf,typeInfo,zeroValue,q1,q3,q4,q5,Builtin.lenOf,hsize,hroom,hold,hnew',h48,hmax,Question.forced,newRow,← hnc,IntKind.max,IntKind.signed,IntKind.bits,hb0]
   congr 2
   apply Array.ext'
   simp
  ·have e1 : Item.room w.heap.size (0 + (xs++bs.map byteV).length) (Builtin.zeroCells ei.zero.cells (nc - (s.len + bs.length))).toList.length=tok ⟨some ⟨w.heap.size,0,none⟩,s.len + bs.length,nc⟩ ei.size:=by
    simp only [tok,hxl,Array.length_toList,size_zeroCells,hzs]
   rw [← e1]
   have hsub : (Item.room w.heap.size (0 + (xs++bs.map byteV).length) (Builtin.zeroCells ei.zero.cells (nc - (s.len + bs.length))).toList.length :: L.eraseIdx i).Sublist (Item.room w.heap.size (0 + (xs++bs.map byteV).length) (Builtin.zeroCells ei.zero.cells (nc - (s.len + bs.length))).toList.length :: L) :=
    List.Sublist.cons_cons _ (List.eraseIdx_sublist L i)
   exact St.back hi (g4.sub hsub)
theorem OT.appendS (T : Tab P) (i : Nat) {s : Sl} {l bs : List UInt8} {x y : Operand} {t t2 e : TypeId} {ei : TI} {d : Nat} (hs : SlRep rByte m s l) (hown : Own s)
  (ho : o.op = .call ⟨.builtin .append,⟨[x,y]⟩,⟨[t,t2]⟩⟩) (hd : o.dst=some d) (hN : Nat.blt d N=true) (hx : ev ρ x=some s.v) (hy : ev ρ y=some (strV bs)) (he : T.elem t=some (e,ei)) (h1 : Nat.beq ei.size 1=true) (hb : Nat.beq ei.bytes 1=true) (hz : (cellsF ei.zero).map List.length=some 1) (ht2 : T.isStr t2=true)
  (hi : L[i]? = some (tok s 1)) (hfit : l.length + bs.length ≤ 140737488355328)
  (hK : ∀ s' m',m ≤ m' → SlRep rByte m' s' (l++bs)→Own s' → K ((d,s'.v) :: ρ) m' (L.set i (tok s' 1))) : OT P N o ρ D m L Q K:=by
 have e1 : ei.size=1:=Nat.eq_of_beq_eq_true h1
 have e2 : ei.bytes=1:=Nat.eq_of_beq_eq_true hb
 have e3 : ei.zero.cells.size=ei.size:=by
  cases hc : cellsF ei.zero with
  | none=>rw [hc] at hz;cases hz
  | some l=>rw [hc] at hz;rw [cellsF_eq hc,e1];simpa using hz
 intro a w ha
 obtain ⟨hl,g1,g2,g3,g4⟩:=hs.src ha.st
 have hh:=byte_all2 g1
 subst hh
 rw [encs_byte] at g2 g4
 obtain ⟨s',m',w',hr,k1,k2,k3,k4,k5,k6⟩:=run_appendS (P:=P) (ty:=o.type) (bs:=bs) T he ht2 ha.st (by rw [e1];exact hi) hown (by rw [e1];exact g2) e1 e3 hs.cap (by omega) (by rw [e2,hs.len];omega) g4
 have hex : (execOp a.eval o).run P w = .ok (.value s'.v) w':=by
  simp only [execOp,ho,resolve,invoke,builtin,Sem.run_bind,Sem.run_pure,Result.andThen_ok,List.map_toArray,List.map_cons,List.map_nil,ha.env.eval hx,ha.env.eval hy]
  simp only [List.map_toArray,List.map_cons,List.map_nil,ha.env.eval hx,ha.env.eval hy,hr,Result.andThen_ok]
 have hrep : SlRep rByte m' s' (hl++bs):=by
  refine ⟨by rw [k4,hs.len];simp,k5,by show s'.len * 1 ≤ _;rw [k4,hs.len];omega,hl++bs,byte_refl _, ?_⟩
  rcases k6 with ⟨f1,f2,f3⟩ | ⟨b,off,f1,f2⟩
  ·left
   have f2 : hl++bs=[]:=by
    have:=congrArg List.length f2
    exact List.eq_nil_of_length_eq_zero (by simpa using this)
   exact ⟨f2,fun _=>f3⟩
  ·right
   exact ⟨b,off,f1,by rw [encs_byte,List.map_append];exact f2⟩
 simp only [Oper.wp,hex,Oper.upon,hd]
 have hp:=ha.put hN s'.v
 rw [e1] at k2
 exact ⟨_,_,_,⟨hp.size,hp.env,hp.defers,k2⟩,hK s' m' k1 hrep k3⟩
theorem equalIn_ifNil {t : TypeId} {ms : Array (String × TypeId)} {w : World} (dd : Nat) (u : TypeId) (v : Value) (hu : (underlying t).run P w = .ok (.interface ms) w) :
  (Op.equalIn (dd + 1) t (.iface u v) .nilIface).run P w = .ok false w:=by
 simp only [Op.equalIn,Sem.run_bind,hu,Result.andThen_ok,Sem.run_pure]
theorem equalIn_nilNil {t : TypeId} {ms : Array (String × TypeId)} {w : World} (dd : Nat) (hu : (underlying t).run P w = .ok (.interface ms) w) :
  (Op.equalIn (dd + 1) t .nilIface .nilIface).run P w = .ok true w:=by
 simp only [Op.equalIn,Sem.run_bind,hu,Result.andThen_ok,Sem.run_pure]
def isErr : Value→Bool
 | .iface _ _=>true
 | _=>false
theorem OT.errNe (T : Tab P) {t t' : TypeId} {x y : Operand} {v : Value} {d : Nat} (ho : o.op = .binOp .neq t x y t') (hd : o.dst=some d) (hN : Nat.blt d N=true)
  (hx : ev ρ x=some v) (hv : v = .nilIface ∨ ∃ u a,v = .iface u a) (hy : y = .const .nilIface) (ht : T.isIface t=true) (hK : K ((d, .bool (isErr v)) :: ρ) m L) : OT P N o ρ D m L Q K:=by
 obtain ⟨ti,ms,h1,h2⟩:=isIface_get ht
 subst hy
 have hy : ev ρ (.const .nilIface)=some .nilIface:=rfl
 refine OT.run hd hN (fun ac w ha=>⟨w, ?_,ha.st⟩) hK
 have hu:=T.run_underlying w h1
 rw [h2] at hu
 have e1 : binOp .neq t v .nilIface=(do pure (.bool (!(← Op.equalIn (9999 + 1) t v .nilIface))) : Sem Value):=by
  rcases hv with rfl | ⟨u,a,rfl⟩ <;> rfl
 rcases hv with rfl | ⟨u,a,rfl⟩
 ·have h:=equalIn_nilNil (P:=P) 9999 hu
  have e2 : (eqGuard .neq t x (.const .nilIface) .nilIface .nilIface).run P w = .ok () w:=by simp [eqGuard]
  simp only [execOp,ho,ha.env.eval hx,ha.env.eval hy,Sem.run_bind,e2,Result.andThen_ok,e1,h,Sem.run_pure];rfl
 ·have h:=equalIn_ifNil (P:=P) 9999 u a hu
  have e2 : (eqGuard .neq t x (.const .nilIface) (.iface u a) .nilIface).run P w = .ok () w:=by simp [eqGuard]
  simp only [execOp,ho,ha.env.eval hx,ha.env.eval hy,Sem.run_bind,e2,Result.andThen_ok,e1,h,Sem.run_pure];rfl
theorem equalIn_ints {t u : TypeId} {k : IntKind} {info : TypeInfo} {ms : Array (String × TypeId)} {w : World} (dd : Nat) (a b : Int) (hu : (underlying t).run P w = .ok (.interface ms) w) (hi : P.info? u=some info) (hc : info.comparable=true) (hk : (underlying u).run P w = .ok (.int k) w) :
  (Op.equalIn (dd + 1 + 1) t (.iface u (.int k a)) (.iface u (.int k b))).run P w = .ok (a == b) w:=by
 rw [Op.equalIn]
 simp only [Sem.run_bind,hu,Result.andThen_ok]
 simp [typeInfo,hi,hc,Op.equalIn,hk]
theorem OT.errEq (T : Tab P) {op : BinOp} {t t' u : TypeId} {k : IntKind} {info : TypeInfo} {x y : Operand} {a b : Int} {d : Nat} (hop : op = .eql ∨ op = .neq) (ho : o.op = .binOp op t x y t') (hd : o.dst=some d) (hN : Nat.blt d N=true)
  (hx : ev ρ x=some (.iface u (.int k a))) (hy : ev ρ y=some (.iface u (.int k b))) (ht : T.isIface t=true) (hi : P.info? u=some info) (hc : info.comparable=true) (hk : T.intK u=some k) (hK : K ((d, .bool (if op = .eql then decide (a=b) else !decide (a=b))) :: ρ) m L) : OT P N o ρ D m L Q K:=by
 obtain ⟨ti,ms,h1,h2⟩:=isIface_get ht
 obtain ⟨ui,u1,u2⟩:=intK_get hk
 refine OT.run hd hN (fun ac w ha=>⟨w, ?_,ha.st⟩) hK
 have hu:=T.run_underlying w h1
 rw [h2] at hu
 have hku:=T.run_underlying w u1
 rw [u2] at hku
 have h:=equalIn_ints (P:=P) (k:=k) 9998 a b hu hi hc hku
 rcases hop with rfl | rfl
 ·have e1 : binOp .eql t (.iface u (.int k a)) (.iface u (.int k b))=(do pure (.bool (← Op.equalIn (9998 + 1 + 1) t (.iface u (.int k a)) (.iface u (.int k b)))) : Sem Value):=rfl
  have e2 : (eqGuard .eql t x y (.iface u (.int k a)) (.iface u (.int k b))).run P w = .ok () w:=by simp [eqGuard]
  simp only [execOp,ho,ha.env.eval hx,ha.env.eval hy,Sem.run_bind,e2,Result.andThen_ok,e1,h,Sem.run_pure,if_true,beq_dec]
 ·have e1 : binOp .neq t (.iface u (.int k a)) (.iface u (.int k b))=(do pure (.bool (!(← Op.equalIn (9998 + 1 + 1) t (.iface u (.int k a)) (.iface u (.int k b))))) : Sem Value):=rfl
  have e2 : (eqGuard .neq t x y (.iface u (.int k a)) (.iface u (.int k b))).run P w = .ok () w:=by simp [eqGuard]
  simp only [execOp,ho,ha.env.eval hx,ha.env.eval hy,Sem.run_bind,e2,Result.andThen_ok,e1,h,Sem.run_pure,beq_dec]
  simp
theorem equalIn_ptrSame {t e : TypeId} {w : World} {ei : TI} (T : Tab P) (dd : Nat) (b : Nat) (hu : (underlying t).run P w = .ok (.pointer e) w) (he : T.get e=some ei) (hz : ei.size ≠ 0) :
  (Op.equalIn (dd + 1) t (.pointer (some ⟨b,0,none⟩)) (.pointer (some ⟨b,0,none⟩))).run P w = .ok true w:=by
 have hs:=T.run_sizeOf w he
 simp only [Op.equalIn,Sem.run_bind,hu,Result.andThen_ok,hs]
 simp [hz,sameAddr]
theorem OT.ptrSame (T : Tab P) {t t' e : TypeId} {x y : Operand} {b d : Nat} (ho : o.op = .binOp .neq t x y t') (hd : o.dst=some d) (hN : Nat.blt d N=true)
  (hx : ev ρ x=some (.pointer (some ⟨b,0,none⟩))) (hy : ev ρ y=some (.pointer (some ⟨b,0,none⟩))) (ht : T.isPtr t e=true) (he : T.size1 e=true) (hK : K ((d, .bool false) :: ρ) m L) : OT P N o ρ D m L Q K:=by
 obtain ⟨ti,h1,h2⟩:=isPtr_get ht
 obtain ⟨ei,e1,e2⟩:=size1_get he
 refine OT.run hd hN (fun ac w ha=>⟨w, ?_,ha.st⟩) hK
 have hu:=T.run_underlying w h1
 rw [h2] at hu
 have g1 : binOp .neq t (.pointer (some ⟨b,0,none⟩)) (.pointer (some ⟨b,0,none⟩))=(do pure (.bool (!(← Op.equalIn (9999 + 1) t (.pointer (some ⟨b,0,none⟩)) (.pointer (some ⟨b,0,none⟩))))) : Sem Value):=rfl
 have g2 : (eqGuard .neq t x y (.pointer (some ⟨b,0,none⟩)) (.pointer (some ⟨b,0,none⟩))).run P w = .ok () w:=by simp [eqGuard]
 have h:=equalIn_ptrSame (P:=P) T 9999 b hu e1 e2
 simp only [execOp,ho,ha.env.eval hx,ha.env.eval hy,Sem.run_bind,g2,Result.andThen_ok,g1,h,Sem.run_pure];rfl
end
end Go.Sep
set_option linter.unusedVariables false
set_option linter.unusedSimpArgs false
namespace Go.Sep
section
variable {P : Program} {N : Nat} {ρ : Env} {D : List Deferred} {m : Mem} {L : List Item} {Q : EPost} {full : List Oper} {o : Oper} {K : Env→Mem→List Item→Prop}
theorem OT.makeT (T : Tab P) {t : TypeId} {n d : Nat} {z : Value} {x y : Operand} {e : TypeId} {ei : TI} (ho : o.op = .makeSlice t x y) (hd : o.dst=some d) (hN : Nat.blt d N=true)
  (hx : ev ρ x=some (.int .i64 (n : Int))) (hy : ev ρ y=some (.int .i64 (n : Int))) (he : T.elem t=some (e,ei)) (hs : Nat.beq ei.size 1=true) (hz : cellsF ei.zero=some [z]) (hfit : n * ei.bytes ≤ 281474976710656) (hb : Nat.blt 0 ei.bytes=true)
  (hK : ∀ b m',m ≤ m' → m'.t b=some (e,n)→m'.pin.heap.size ≤ b→K ((d, .slice (some ⟨b,0,none⟩) n n) :: ρ) m' (.cells b 0 (List.replicate n z) :: L)) : OT P N o ρ D m L Q K:=by
 intro a w ha
 obtain ⟨ti,h4,h5,h6⟩:=elem_get he
 have hu:=T.run_underlying w h4
 rw [h5] at hu
 obtain ⟨info,q1,q2,q3,q4,q5⟩:=T.ok e ei h6
 have hs1:=Nat.eq_of_beq_eq_true hs
 have hbp : 0 < ei.bytes:=by simpa [Nat.blt_eq] using hb
 have hn : n ≤ 281474976710656:=Nat.le_trans (Nat.le_mul_of_pos_right _ hbp) hfit
 have hzc:=cellsF_eq hz
 obtain ⟨_,_,hu',_⟩:=T.ok t ti h4
 rw [h5] at hu'
 have hcast : ((info.bytes : Int) * (n : Int))=((n * ei.bytes : Nat) : Int):=by rw [q4,Nat.mul_comm];simp
 have hmk:=run_make (P:=P) w t e info ei.zero hu' q1 q5 .i64 .i64 (n : Int) (n : Int) (by omega) (by omega) (by rw [hcast];omega) (by omega)
 have hrow : madeCells (⟨[z]⟩ : Array Value) (n * 1) = ⟨List.replicate n z⟩:=by
  apply Array.ext'
  simp only [madeCells,Nat.mul_one,Array.toList_map,Array.toList_range]
  apply List.ext_getElem
  ·simp
  ·intro i h1 h2
   simp [Nat.mod_one]
 rw [Int.toNat_natCast,q3,hs1,hzc,hrow] at hmk
 have hr : (execOp a.eval o).run P w = .ok (.value (.slice (some ⟨w.heap.size,0,none⟩) n n)) (w.alloc (.cells ⟨List.replicate n z⟩ e)):=by
  simp only [execOp,ho,ha.env.eval hx,ha.env.eval hy,Sem.run_bind,hmk,Result.andThen_ok,Sem.run_pure]
 simp only [Oper.wp,hr,Oper.upon,hd]
 have hp:=ha.put hN (.slice (some ⟨w.heap.size,0,none⟩) n n)
 have hst:=ha.st.allocCells ⟨List.replicate n z⟩ e
 obtain ⟨f1,f2,f3⟩:=hst.typed (heap_alloc_at w (.cells ⟨List.replicate n z⟩ e))
 exact ⟨_,_,_,⟨hp.size,hp.env,hp.defers,f3⟩,hK _ _ f1 (by simpa using f2) (by rw [f1.pin];exact ha.st.size)⟩
theorem OT.copyS (T : Tab P) (i : Nat) {x y : Operand} {t t2 e : TypeId} {ei : TI} {b off k n c : Nat} {bs : List UInt8} {vs : List Value} {d : Nat} (ho : o.op = .call ⟨.builtin .copy,⟨[x,y]⟩,⟨[t,t2]⟩⟩) (hd : o.dst=some d) (hN : Nat.blt d N=true)
  (hx : ev ρ x=some (.slice (some ⟨b,off + k,none⟩) n c)) (hy : ev ρ y=some (strV bs)) (hle : bs.length ≤ n) (he : T.elem t=some (e,ei)) (hsz : Nat.beq ei.size 1=true)
  (hi : L[i]? = some (.cells b off vs)) (hk : k + bs.length ≤ vs.length)
  (hK : K ((d, .int .i64 (bs.length : Int)) :: ρ) m (L.set i (.cells b off (putAt vs k (bs.map byteV))))) : OT P N o ρ D m L Q K:=by
 obtain ⟨ti,h4,h5,h6⟩:=elem_get he
 have hs1:=Nat.eq_of_beq_eq_true hsz
 intro ac w ha
 have hu:=T.run_underlying w h4
 rw [h5] at hu
 have hes:=T.run_sizeOf w h6
 rw [hs1] at hes
 have hst:=ha.st.at_ hi
 obtain ⟨w',hr,hst'⟩:=run_storeCells (P:=P) (bs.map byteV) vs k 0 w hst (allOne_bytes bs) (by rw [List.length_map];omega)
 have hx2 : (⟨⟨bs⟩⟩ : ByteArray).extract 0 bs.length = ⟨⟨bs⟩⟩:=by
  apply ByteArray.ext
  apply Array.ext'
  simp
 have hfirst' : (Builtin.firstCells 1 bs.length (strV bs)).run P w = .ok (⟨bs.map byteV⟩ : Array Value) w:=by
  simp only [Builtin.firstCells,Sem.run_pure]
  rw [hx2]
  congr 1
  apply Array.ext'
  simp
 have he' : (execOp ac.eval o).run P w = .ok (.value (.int .i64 (bs.length : Int))) w':=by
  simp only [execOp,ho,resolve,invoke,builtin,Sem.run_bind,Sem.run_pure,Result.andThen_ok,List.map_toArray,List.map_cons,List.map_nil,ha.env.eval hx,ha.env.eval hy]
  have hlen : (Builtin.lenOf (strV bs)).run P w = .ok bs.length w:=rfl
  have hmin : Nat.min bs.length n=bs.length:=Nat.min_eq_left hle
  simp [Builtin.copy_,hu,hes,hlen,hfirst',hr,goInt,hmin]
 simp only [Oper.wp,he',Oper.upon,hd]
 have hp:=ha.put hN (.int .i64 (bs.length : Int))
 exact ⟨_,_,_,⟨hp.size,hp.env,hp.defers,hst'.back hi⟩,hK⟩
theorem tok_full (b n : Nat) : tok ⟨some ⟨b,0,none⟩,n,n⟩ 1 = .room b n 0:=by simp [tok]
theorem TO.tokFull {l : List Oper} (b n : Nat) (h : TO P N ⟨full⟩ l ρ D m (tok ⟨some ⟨b,0,none⟩,n,n⟩ 1 :: L) Q) : TO P N ⟨full⟩ l ρ D m L Q:=by
 rw [tok_full] at h
 exact TO.room0 b n h
theorem putAt_all {vs cs : List Value} (h : vs.length=cs.length) : putAt vs 0 cs=cs:=by
 rw [putAt_zero (by omega),List.drop_of_length_le (by omega),List.append_nil]
end
end Go.Sep
set_option linter.unusedVariables false
set_option linter.unusedSimpArgs false
namespace Go.Sep
section
variable {P : Program} {N : Nat} {ρ : Env} {D : List Deferred} {m : Mem} {L : List Item} {Q : EPost} {full : List Oper} {o : Oper} {K : Env→Mem→List Item→Prop}
theorem OT.freeze {b off : Nat} {vs : List Value} (h : ∀ m',m ≤ m' → At m' b off vs→OT P N o ρ D m' L Q K) : OT P N o ρ D m (.cells b off vs :: L) Q K:=by
 intro a w ha
 obtain ⟨h1,h2,h3⟩:=ha.st.freeze
 exact h _ h1 h2 a w ⟨ha.size,ha.env,ha.defers,h3⟩
theorem OT.sidxK (T : Tab P) {t : TypeId} {x y : Operand} {s : Str} {i : Int} {kd : IntKind} {b : UInt8} {d : Nat} (k : Nat) (ho : o.op = .index t x y) (hd : o.dst=some d) (hN : Nat.blt d N=true)
  (ht : T.isStr t=true) (hx : ev ρ x=some (strV s)) (hy : ev ρ y=some (.int kd i)) (hi : i=(k : Int)) (hb : s[k]? = some b) (hK : K ((d,byteV b) :: ρ) m L) : OT P N o ρ D m L Q K:=by
 obtain ⟨ti,h1,h2⟩:=isStr_get ht
 subst hi
 refine OT.run hd hN (fun a w ha=>⟨w, ?_,ha.st⟩) hK
 have hu:=T.run_underlying w h1
 rw [h2] at hu
 have hg:=getElem_data s k hb
 simp only [execOp,ho,ha.env.eval hx,ha.env.eval hy,Instr.index,asIntOf,Sem.run_bind,Sem.run_pure,Result.andThen_ok,hu,Int.toNat_natCast,Int.natCast_nonneg,if_true,hg]
theorem SlRep.bytes {b : Nat} {bs : List UInt8} {n : Nat} (hA : At m b 0 (bs.map byteV)) (hn : bs.length=n) (hfit : n ≤ 140737488355328) : SlRep rByte m ⟨some ⟨b,0,none⟩,n,n⟩ bs:=by
 subst hn
 exact ⟨rfl,Nat.le_refl _,by show bs.length * 1 ≤ _;omega,bs,byte_refl bs, .inr ⟨b,0,rfl,by rw [encs_byte];exact hA⟩⟩
theorem run_bytes_zero {P : Program} (w : World) (src e dst : TypeId) (hs : P.underlying src=some (.slice e)) (he : P.underlying e=some (.int .u8)) (p : Option Addr) (c : Nat) (hd : P.underlying dst=some .string) :
  (convert src dst (.slice p 0 c)).run P w = .ok (.string ByteArray.empty) w:=by
 rw [run_convert_bytes_string w src dst e _ 0 c hs he hd]
 cases p <;> simp [Conv.bytesToString,loadCells]
 all_goals rfl
theorem OT.bytesStrA (T : Tab P) {t u : TypeId} {x : Operand} {s : Sl} {bs : List UInt8} {d : Nat} {e : TypeId} {ei : TI} (ho : o.op = .convert t u x) (hd : o.dst=some d) (hN : Nat.blt d N=true) (hx : ev ρ x=some s.v) (he : T.elem t=some (e,ei)) (hb : ei.u = .int .u8) (hu : T.isStr u=true) (hs : SlRep rByte m s bs)
  (hK : K ((d,strV bs) :: ρ) m L) : OT P N o ρ D m L Q K:=by
 by_cases hpos : 0 < bs.length
 ·exact OT.bytesStr T ho hd hN hx he hb hu hs hpos hK
 ·have h0 : bs=[]:=List.eq_nil_of_length_eq_zero (by omega)
  subst h0
  obtain ⟨ti,h4,h5,h6⟩:=elem_get he
  obtain ⟨ui,u1,u2⟩:=isStr_get hu
  obtain ⟨_,_,hut,_⟩:=T.ok t ti h4
  rw [h5] at hut
  obtain ⟨_,_,huu,_⟩:=T.ok u ui u1
  rw [u2] at huu
  obtain ⟨_,_,hue,_⟩:=T.ok e ei h6
  rw [hb] at hue
  refine OT.run hd hN (fun ac w ha=>⟨w, ?_,ha.st⟩) hK
  obtain ⟨a,n,c⟩:=s
  have hlen : n=0:=hs.len
  subst hlen
  have hr:=run_bytes_zero (P:=P) w t e u hut hue a c huu
  simp only [execOp,ho,ha.env.eval hx,Sl.v,Sem.run_bind,hr,Result.andThen_ok,Sem.run_pure]
  rfl
theorem TC.tokFull {c : Code} (b n : Nat) (h : TC P N c ρ D m (tok ⟨some ⟨b,0,none⟩,n,n⟩ 1 :: L) Q) : TC P N c ρ D m L Q:=by
 rw [tok_full] at h
 exact TC.room0 b n h
end
end Go.Sep
set_option linter.unusedVariables false
set_option linter.unusedSimpArgs false
namespace Go.Sep
section
variable {P : Program} {N : Nat} {ρ : Env} {D : List Deferred} {m : Mem} {L Ls Lp : List Item} {Q : EPost} {ops : List Oper} {ts : List Nat} {fuel : Nat} {listed : List Bool}
theorem DO.sidx (T : Tab P) (i : Nat) {t : TypeId} {x y : Operand} {o : Oper} {s : Str} {iv : Int} {kd : IntKind} {b : UInt8} {d : Nat} (k : Nat) (hc : Calm Q) (hns : Region.noSelect ⟨ops⟩ = true) (hok : orderOkP ops ts [i] listed=true)
  (hi : ops[i]? = some o) (hg : gv ops ρ o=some true) (ho : o.op = .index t x y) (hd : o.dst=some d) (hN : Nat.blt d N=true)
  (ht : T.isStr t=true) (hx : ev ρ x=some (strV s)) (hy : ev ρ y=some (.int kd iv)) (hik : iv=(k : Int)) (hb : s[k]? = some b)
  (h : DO P N ops ts fuel (listed.set i true) ((d,byteV b) :: ρ) D m Ls Lp Q) : DO P N ops ts (fuel + 1) listed ρ D m Ls Lp Q:=by
 simp only [orderOkP,Bool.and_eq_true] at hok
 obtain ⟨o1,o2,o3,_⟩:=hok
 obtain ⟨ti,h1,h2⟩:=isStr_get ht
 subst hik
 refine DO.takeP i hc hi hd hN hg hns o1 o2 (by simpa using o3) (fun ac w hA => ?_) h
 have hu:=T.run_underlying w h1
 rw [h2] at hu
 have hg:=getElem_data s k hb
 simp only [execOp,ho,hA.eval hx,hA.eval hy,Instr.index,asIntOf,Sem.run_bind,Sem.run_pure,Result.andThen_ok,hu,Int.toNat_natCast,Int.natCast_nonneg,if_true,hg]
theorem DO.conv (T : Tab P) (i : Nat) {s t : TypeId} {x : Operand} {o : Oper} {k ks kt : IntKind} {d : Nat} {a r : Int} (hc : Calm Q) (hns : Region.noSelect ⟨ops⟩ = true) (hok : orderOkP ops ts [i] listed=true)
  (hi : ops[i]? = some o) (hg : gv ops ρ o=some true) (ho : o.op = .convert s t x) (hd : o.dst=some d) (hN : Nat.blt d N=true)
  (hs : T.intK s=some ks) (ht : T.intK t=some kt) (hx : ev ρ x=some (.int k a)) (hr : kt.wrap a=r)
  (h : DO P N ops ts fuel (listed.set i true) ((d, .int kt r) :: ρ) D m Ls Lp Q) : DO P N ops ts (fuel + 1) listed ρ D m Ls Lp Q:=by
 simp only [orderOkP,Bool.and_eq_true] at hok
 obtain ⟨o1,o2,o3,_⟩:=hok
 obtain ⟨si,s1,s2⟩:=intK_get hs
 obtain ⟨ti,t1,t2⟩:=intK_get ht
 refine DO.takeP i hc hi hd hN hg hns o1 o2 (by simpa using o3) (fun ac w hA => ?_) h
 have hus:=T.run_underlying w s1
 have hut:=T.run_underlying w t1
 rw [s2] at hus
 rw [t2] at hut
 simp only [execOp,ho,hA.eval hx,Go.convert,Sem.run_bind,hus,hut,Result.andThen_ok,Conv.intToInt,Sem.run_pure,hr]
end
section
variable {P : Program} {N : Nat} {ρ : Env} {D : List Deferred} {m : Mem} {L : List Item} {Q : EPost} {o : Oper} {K : Env→Mem→List Item→Prop}
end
end Go.Sep
set_option linter.unusedVariables false
set_option linter.unusedSimpArgs false
namespace Go.Sep
structure ORow {H : Type} (s : Sl) (hs : List H) : Prop where
 len : s.len ≤ s.cap
 all : hs.length=s.cap
 adr : (s = ⟨none,0,0⟩) ∨ ∃ b,s.a=some ⟨b,0,none⟩
theorem ORow.nil {H : Type} : ORow (H:=H) ⟨none,0,0⟩ []:=⟨Nat.le_refl _,rfl, .inl rfl⟩
theorem ORow.pos {H : Type} {s : Sl} {hs : List H} (h : ORow s hs) (hp : 0 < s.len) : ∃ b,s = ⟨some ⟨b,0,none⟩,s.len,s.cap⟩:=by
 rcases h.adr with e | ⟨b,e⟩
 ·rw [e] at hp;simp at hp
 ·refine ⟨b, ?_⟩
  obtain ⟨a,n,c⟩:=s
  simp only at e
  rw [e]
section
variable {P : Program} {N : Nat} {ρ : Env} {D : List Deferred} {m : Mem} {L : List Item} {Q : EPost} {full : List Oper} {o : Oper} {K : Env→Mem→List Item→Prop}
end
end Go.Sep
set_option linter.unusedVariables false
set_option linter.unusedSimpArgs false
set_option linter.unusedSectionVars false
namespace Go.Sep
section
variable {α : Type} [Inhabited α]
def gk (xs : List α) (k : Nat) : α:=xs[k]?.getD default
def sw (xs : List α) (i j : Nat) : List α:=(xs.set i (gk xs j)).set j (gk xs i)
theorem sw_length (xs : List α) (i j : Nat) : (sw xs i j).length=xs.length:=by simp [sw]
theorem gk_get {xs : List α} {k : Nat} (h : k < xs.length) : xs[k]? = some (gk xs k):=by
 unfold gk
 rw [List.getElem?_eq_getElem h]
 rfl
theorem gk_set {xs : List α} {i k : Nat} {x : α} (h : i < xs.length) : gk (xs.set i x) k=if i=k then x else gk xs k:=by
 unfold gk
 rw [List.getElem?_set]
 split
 ·simp [h]
 ·rfl
theorem gk_sw {xs : List α} {i j k : Nat} (hi : i < xs.length) (hj : j < xs.length) : gk (sw xs i j) k=if k=j then gk xs i else if k=i then gk xs j else gk xs k:=by
 unfold sw
 rw [gk_set (by simpa using hj),gk_set hi]
 by_cases h1 : j=k
 ·simp [h1]
 ·by_cases h2 : i=k
  ·simp [h1,h2,Ne.symm h1]
  ·simp [h1,h2,Ne.symm h1,Ne.symm h2]
theorem gk_take {xs : List α} {n k : Nat} (h : k < n) : gk (xs.take n) k=gk xs k:=by
 unfold gk
 rw [List.getElem?_take,if_pos h]
theorem set_perm {xs : List α} {i : Nat} (hi : i < xs.length) (x : α) : (gk xs i :: xs.set i x).Perm (x :: xs):=by
 induction xs generalizing i with
 | nil=>simp at hi
 | cons y ys ih =>
  cases i with
  | zero=>simp only [gk,List.getElem?_cons_zero,Option.getD_some,List.set_cons_zero];exact List.Perm.swap _ _ _
  | succ i =>
   simp only [List.set_cons_succ]
   have:=ih (i:=i) (by simpa using hi)
   have e : gk (y :: ys) (i + 1)=gk ys i:=by simp [gk]
   rw [e]
   exact (List.Perm.swap _ _ _).trans ((this.cons y).trans (List.Perm.swap _ _ _))
theorem sw_perm {xs : List α} {i j : Nat} (hi : i < xs.length) (hj : j < xs.length) : (sw xs i j).Perm xs:=by
 by_cases e : i=j
 ·subst e
  unfold sw
  rw [List.set_set]
  have : xs.set i (gk xs i)=xs:=by
   apply List.ext_getElem?
   intro k
   rw [List.getElem?_set]
   split
   ·rename_i h;subst h;exact (gk_get hi).symm
   ·rfl
  rw [this]
 ·have h1:=set_perm hi (gk xs j)
  have hj2 : j < (xs.set i (gk xs j)).length:=by simpa using hj
  have h2:=set_perm hj2 (gk xs i)
  have e2 : gk (xs.set i (gk xs j)) j=gk xs j:=by rw [gk_set hi];simp [e]
  rw [e2] at h2
  have h3 : (gk xs j :: sw xs i j).Perm (gk xs j :: xs):=h2.trans h1
  exact (List.perm_cons _).1 h3
theorem sw_take {xs : List α} {i j n : Nat} (hi : i < n) (hj : j < n) : (sw xs i j).take n=sw (xs.take n) i j:=by
 unfold sw
 rw [List.take_set,List.take_set,gk_take hi,gk_take hj]
theorem sw_drop {xs : List α} {i j n : Nat} (hi : i < n) (hj : j < n) : (sw xs i j).drop n=xs.drop n:=by
 unfold sw
 rw [List.drop_set_of_lt hj,List.drop_set_of_lt hi]
structure Mix (n : Nat) (xs ys : List α) : Prop where
 len : ys.length=xs.length
 perm : (ys.take n).Perm (xs.take n)
 rest : ys.drop n=xs.drop n
theorem Mix.refl (n : Nat) (xs : List α) : Mix n xs xs:=⟨rfl, .refl _,rfl⟩
theorem Mix.trans {n : Nat} {xs ys zs : List α} (h : Mix n xs ys) (k : Mix n ys zs) : Mix n xs zs:=⟨k.len.trans h.len,k.perm.trans h.perm,k.rest.trans h.rest⟩
theorem Mix.sw {n i j : Nat} {xs : List α} (hi : i < n) (hj : j < n) (hn : n ≤ xs.length) : Mix n xs (sw xs i j):=by
 refine ⟨sw_length _ _ _, ?_,sw_drop hi hj⟩
 rw [sw_take hi hj]
 exact sw_perm (by simp;omega) (by simp;omega)
structure OrdK (lt : α → α → Bool) : Prop where
 asym : ∀ a b,lt a b=true→lt b a=false
 trans : ∀ a b c,lt b a=false→lt c b=false→lt c a=false
def par (k : Nat) : Nat:=(k - 1) / 2
variable {lt : α → α → Bool}
def HF (lt : α → α → Bool) (xs : List α) (n lo : Nat) : Prop := ∀ k,0 < k→k < n→lo ≤ par k→lt (gk xs k) (gk xs (par k))=false
structure DI (lt : α → α → Bool) (xs : List α) (n lo i : Nat) : Prop where
 a : ∀ k,0 < k→k < n→lo ≤ par k→par k ≠ i→lt (gk xs k) (gk xs (par k))=false
 b : ∀ k,0 < k→k < n→par k=i→0 < i→lo ≤ par i→lt (gk xs k) (gk xs (par i))=false
theorem DI.start {xs : List α} {n lo : Nat} (h : HF lt xs n (lo + 1)) : DI lt xs n lo lo :=
 ⟨fun k h1 h2 h3 h4=>h k h1 h2 (by omega),fun k h1 h2 h3 h4 h5=>by unfold par at h5;omega⟩
theorem DI.done0 {xs : List α} {n lo i : Nat} (h : DI lt xs n lo i) (hn : n ≤ 2 * i + 1) : HF lt xs n lo:=fun k h1 h2 h3=>by
 refine h.a k h1 h2 h3 (fun e => ?_)
 unfold par at e
 omega
theorem DI.done {xs : List α} {n lo i j : Nat} (O : OrdK lt) (h : DI lt xs n lo i) (hj : ∀ k,0 < k→k < n→par k=i→lt (gk xs k) (gk xs j)=false) (hl : lt (gk xs j) (gk xs i)=false) : HF lt xs n lo:=fun k h1 h2 h3=>by
 by_cases e : par k=i
 ·rw [e]
  exact O.trans _ _ _ hl (hj k h1 h2 e)
 ·exact h.a k h1 h2 h3 e
theorem DI.step {xs : List α} {n lo i j : Nat} (O : OrdK lt) (h : DI lt xs n lo i) (hn : n ≤ xs.length) (hlo : lo ≤ i) (hjn : j < n) (hj0 : 0 < j) (hji : par j=i) (hj : ∀ k,0 < k→k < n→par k=i→lt (gk xs k) (gk xs j)=false) (hl : lt (gk xs j) (gk xs i)=true) : DI lt (sw xs i j) n lo j:=by
 have hij : i < j:=by unfold par at hji;omega
 have hi' : i < xs.length:=by omega
 have hj' : j < xs.length:=by omega
 refine ⟨fun k h1 h2 h3 h4 => ?_,fun k h1 h2 h3 h4 h5 => ?_⟩
 ·rw [gk_sw hi' hj',gk_sw hi' hj']
  rw [if_neg h4]
  by_cases e1 : k=j
  ·rw [if_pos e1,e1,hji,if_pos rfl]
   exact O.asym _ _ hl
  ·rw [if_neg e1]
   by_cases e2 : k=i
   ·rw [if_pos e2]
    have e3 : par k ≠ i:=by unfold par;omega
    rw [if_neg e3,e2]
    have:=h.b j hj0 hjn hji (by omega) (by rw [← e2];exact h3)
    exact this
   ·rw [if_neg e2]
    by_cases e3 : par k=i
    ·rw [if_pos e3]
     exact hj k h1 h2 e3
    ·rw [if_neg e3]
     exact h.a k h1 h2 h3 e3
 ·rw [hji,gk_sw hi' hj',gk_sw hi' hj',if_neg (show i ≠ j by omega),if_pos rfl]
  have e1 : k ≠ j:=by unfold par at h3;omega
  have e2 : k ≠ i:=by unfold par at h3;omega
  rw [if_neg e1,if_neg e2,← h3]
  exact h.a k h1 h2 (by rw [h3];omega) (by rw [h3];omega)
theorem DI.pop {xs : List α} {n : Nat} (h : HF lt xs (n + 1) 0) (hn : n + 1 ≤ xs.length) : DI lt (sw xs 0 n) n 0 0:=by
 refine ⟨fun k h1 h2 h3 h4 => ?_,fun k h1 h2 h3 h4=>by omega⟩
 have hk : par k < k:=by unfold par;omega
 rw [gk_sw (by omega) (by omega),gk_sw (by omega) (by omega),if_neg (by omega),if_neg (by omega),if_neg (by omega),if_neg h4]
 exact h k h1 (by omega) h3
theorem HF.min {xs : List α} {n : Nat} (O : OrdK lt) (h : HF lt xs n 0) (hirr : ∀ a,lt a a=false) : ∀ k,k < n→lt (gk xs k) (gk xs 0)=false:=by
 intro k
 induction k using Nat.strongRecOn with
 | ind k ih =>
  intro hk
  by_cases e : k=0
  ·rw [e];exact hirr _
  ·have h1 : par k < k:=by unfold par;omega
   exact O.trans _ _ _ (ih (par k) h1 (by omega)) (h k (by omega) hk (Nat.zero_le _))
structure UI (lt : α → α → Bool) (xs : List α) (n j : Nat) : Prop where
 a : ∀ k,0 < k→k < n→k ≠ j→lt (gk xs k) (gk xs (par k))=false
 b : ∀ k,0 < k→k < n→par k=j→0 < j→lt (gk xs k) (gk xs (par j))=false
theorem UI.start {xs : List α} {n : Nat} (h : HF lt xs n 0) : UI lt xs (n + 1) n :=
 ⟨fun k h1 h2 h3=>h k h1 (by omega) (Nat.zero_le _),fun k h1 h2 h3=>by unfold par at h3;omega⟩
theorem UI.done {xs : List α} {n j : Nat} (h : UI lt xs n j) (hj : j=0 ∨ lt (gk xs j) (gk xs (par j))=false) : HF lt xs n 0:=fun k h1 h2 h3=>by
 by_cases e : k=j
 ·subst e
  rcases hj with e | e
  ·omega
  ·exact e
 ·exact h.a k h1 h2 e
theorem UI.step {xs : List α} {n j : Nat} (O : OrdK lt) (h : UI lt xs n j) (hn : n ≤ xs.length) (hjn : j < n) (h0 : 0 < j) (hl : lt (gk xs j) (gk xs (par j))=true) : UI lt (sw xs (par j) j) n (par j):=by
 have hp : par j < j:=by unfold par;omega
 refine ⟨fun k h1 h2 h3 => ?_,fun k h1 h2 h3 h4 => ?_⟩
 ·rw [gk_sw (by omega) (by omega),gk_sw (by omega) (by omega),if_neg h3]
  by_cases e1 : k=j
  ·subst e1
   rw [if_pos rfl,if_neg (by omega),if_pos rfl]
   exact O.asym _ _ hl
  ·rw [if_neg e1]
   by_cases e2 : par k=j
   ·rw [if_pos e2]
    exact h.b k h1 h2 e2 h0
   ·rw [if_neg e2]
    by_cases e3 : par k=par j
    ·rw [if_pos e3]
     have:=h.a k h1 h2 e1
     rw [e3] at this
     exact O.trans _ _ _ (O.asym _ _ hl) this
    ·rw [if_neg e3]
     exact h.a k h1 h2 e1
 ·have hpp : par (par j) < par j:=by unfold par at h4 ⊢;omega
  rw [gk_sw (by omega) (by omega),gk_sw (by omega) (by omega),if_neg (show par (par j) ≠ j by omega),if_neg (show par (par j) ≠ par j by omega)]
  have hup:=h.a (par j) h4 (by omega) (by omega)
  by_cases e1 : k=j
  ·rw [if_pos e1];exact hup
  ·have hk : k ≠ par j:=by
    intro e;rw [e] at h3;omega
   rw [if_neg e1,if_neg hk]
   have:=h.a k h1 h2 e1
   rw [h3] at this
   exact O.trans _ _ _ hup this
end
end Go.Sep
set_option linter.unusedVariables false
set_option linter.unusedSimpArgs false
namespace Go.Sep
section
variable {P : Program} {N : Nat} {ρ : Env} {D : List Deferred} {m : Mem} {L : List Item} {Q : EPost} {full : List Oper} {o : Oper} {K : Env→Mem→List Item→Prop}
end
section
variable {P : Program} {N : Nat} {ρ : Env} {D : List Deferred} {m : Mem} {Q : EPost} {ops : List Oper} {ts : List Nat} {fuel : Nat} {listed : List Bool} {Ls Lp : List Item}
theorem DO.loadE {H α : Type} (T : Tab P) (i : Nat) (j : Nat) (r : R H α) {hs : List H} {k jj q : Nat} {h0 : H} {v : Value} {x : Operand} {t : TypeId} {o : Oper} {b d : Nat} (hk : hs[k]? = some h0) (hq : q=k * r.size + jj) (hv : ∀ rest,T.load t (r.enc h0++rest) jj=some v) (hc : Calm Q) (hns : Region.noSelect ⟨ops⟩ = true) (hok : orderOk ops ts [i] listed=true)
  (hi : ops[i]? = some o) (hg : gv ops ρ o=some true) (ho : o.op = .load t x) (hd : o.dst=some d) (hN : Nat.blt d N=true)
  (hx : ev ρ x=some (.pointer (some ⟨b,q,none⟩))) (hj : Ls[j]? = some (.cells b 0 (encs r hs)))
  (h : DO P N ops ts fuel (listed.set i true) ((d,v) :: ρ) D m Ls Lp Q) : DO P N ops ts (fuel + 1) listed ρ D m Ls Lp Q:=by
 subst hq
 exact DO.loadL (off:=0) (k:=k * r.size + jj) T i j hc hns hok hi hg ho hd hN (by rw [Nat.zero_add];exact hx) hj (load_encs T r hk hv) h
end
theorem encs_int (l : List Int) : encs rInt l=l.map (Value.int .i64):=by
 induction l with
 | nil=>rfl
 | cons x xs ih=>simpa [encs,rInt] using ih
structure IRow (s : Sl) (b : Nat) (n : Nat) : Prop where
 len : s.len=n
 cap : s.len ≤ s.cap
 pos : 0 < n → ∃ c,s = ⟨some ⟨b,0,none⟩,n,c⟩
 nil : n=0→s.a=none→s.cap=0
theorem IRow.rep {m : Mem} {s : Sl} {b : Nat} {l : List Int} (h : IRow s b l.length) (hA : At m b 0 (l.map (Value.int .i64))) (hn : l.length ≤ 1000000) : SlRep rInt m s l:=by
 refine ⟨h.len,h.cap,by rw [h.len];simp only [rInt];omega,l, ?_, ?_⟩
 ·clear h hA hn
  induction l with
  | nil=>trivial
  | cons x xs ih=>exact ⟨rfl,ih⟩
 ·by_cases e : l=[]
  ·exact .inl ⟨e,h.nil (by rw [e];rfl)⟩
  ·obtain ⟨c,hc⟩:=h.pos (List.length_pos_iff.2 e)
   exact .inr ⟨b,0,by rw [hc],by rw [encs_int];exact hA⟩
section
variable {P : Program} {N : Nat} {ρ : Env} {D : List Deferred} {m : Mem} {L : List Item} {Q : EPost} {full : List Oper} {o : Oper} {K : Env→Mem→List Item→Prop}
end
section
variable {P : Program} {N : Nat} {ρ : Env} {D : List Deferred} {m : Mem} {L : List Item} {Q : EPost} {full : List Oper}
theorem TC.freezeAt {c : Code} (i : Nat) {b off : Nat} {vs : List Value} (hi : L[i]? = some (.cells b off vs)) (h : ∀ m',m ≤ m' → At m' b off vs→TC P N c ρ D m' (L.eraseIdx i) Q) : TC P N c ρ D m L Q :=
 TC.perm (perm_at hi) (TC.freeze h)
theorem TO.freezeAt {l : List Oper} (i : Nat) {b off : Nat} {vs : List Value} (hi : L[i]? = some (.cells b off vs)) (h : ∀ m',m ≤ m' → At m' b off vs→TO P N ⟨full⟩ l ρ D m' (L.eraseIdx i) Q) : TO P N ⟨full⟩ l ρ D m L Q:=by
 exact TO.perm (perm_at hi) (TO.freeze h)
end
end Go.Sep
set_option linter.unusedVariables false
set_option linter.unusedSimpArgs false
namespace Go.Sep
section
variable {P : Program} {N : Nat} {ρ : Env} {D : List Deferred} {m : Mem} {L : List Item} {Q : EPost} {full : List Oper} {o : Oper} {K : Env→Mem→List Item→Prop}
theorem OT.litR {H α : Type} (T : Tab P) (r : R H α) {hs : List H} {l : List α} {t : TypeId} {n d : Nat} {ps : List (Nat × Operand)} (h2 : All2 (r.rep m) hs l) (ho : o.op = .buildSlice t n ⟨ps⟩) (hd : o.dst=some d) (hN : Nat.blt d N=true)
  (hv : T.lit ρ t n ps=some (encs r hs)) (hn : l.length=n) (hfit : n * r.bytes ≤ 140737488355328)
  (hK : ∀ s m',m ≤ m' → SlRep r m' s l→Own s→s.cap=s.len→K ((d,s.v) :: ρ) m' L) : OT P N o ρ D m L Q K:=by
 intro a w ha
 refine Oper.wp_mono (fun a' w' hl => ?_) (OT.lit (K:=fun ρ' m' L' => ∃ b, ρ' = (d, .slice (some ⟨b,0,none⟩) n n) :: ρ ∧ m' = m∧L' = .cells b 0 (encs r hs) :: L) T ho hd hN hv (fun b=>⟨b,rfl,rfl,rfl⟩) a w ha)
 obtain ⟨ρ',m',L',h1,b,rfl,rfl,rfl⟩:=hl
 obtain ⟨g1,g2,g3⟩:=h1.st.freeze
 exact ⟨_,_,_,⟨h1.size,h1.env,h1.defers,g3⟩,hK ⟨some ⟨b,0,none⟩,n,n⟩ _ g1 ⟨hn.symm,Nat.le_refl _,hfit,hs,h2.mono fun _ _=>r.mono g1, .inr ⟨b,0,rfl,g2⟩⟩ (.inr ⟨b,0,rfl⟩) rfl⟩
theorem tok_fullO {s : Sl} (h : s.cap=s.len) (ho : Own s) (size : Nat) : ∃ b off,tok s size = .room b off 0:=by
 rcases ho with rfl | ⟨b,o,ha⟩
 ·exact ⟨0,0,rfl⟩
 ·exact ⟨b,o + s.len * size,by unfold tok;rw [ha,h];simp⟩
theorem TO.tokFo {l : List Oper} {s : Sl} (h : s.cap=s.len) (ho : Own s) (size : Nat) (hK : TO P N ⟨full⟩ l ρ D m (tok s size :: L) Q) : TO P N ⟨full⟩ l ρ D m L Q:=by
 obtain ⟨b,off,hb⟩:=tok_fullO h ho size
 rw [hb] at hK
 exact TO.room0 b off hK
theorem OT.tokFo {s : Sl} (h : s.cap=s.len) (ho : Own s) (size : Nat) (hK : OT P N o ρ D m (tok s size :: L) Q K) : OT P N o ρ D m L Q K:=by
 obtain ⟨b,off,hb⟩:=tok_fullO h ho size
 rw [hb] at hK
 exact fun a w ha=>hK a w ⟨ha.size,ha.env,ha.defers,ha.st.room0 b off⟩
end
end Go.Sep
set_option linter.unusedVariables false
set_option linter.unusedSimpArgs false
namespace Go.Sep
theorem uA {p p' : Prop} (hp : p') (h : p' → p:=by (intro h; (repeat (first|refine q1 ?_|refine q2 ?_|refine q3 ?_|refine q4 tab rfl rfl ?_|refine q5 ?_|refine q6 ?_|refine q7 ?_|refine q8 ?_|refine q9 ?_|refine q10 ?_|refine q11 ?_|refine q12 rfl ?_|refine q13 ?_|refine q14 ?_|refine q15 ?_|refine q16 rfl ?_|refine q17 rfl ?_));exact h)) : p:=h hp
theorem uN {p p' : Prop} (hp : p') (h : p' → p:=by (intro h; (repeat (first|refine q1 ?_|refine q2 ?_|refine q3 ?_|refine q4 tab rfl rfl ?_|refine q5 ?_|refine q6 ?_|refine q7 ?_|refine q8 ?_|refine q9 ?_|refine q10 ?_|refine q11 ?_|refine q12 rfl ?_|refine q13 ?_|refine q14 ?_|refine q15 ?_));exact h)) : p:=h hp
theorem uB {p p' : Prop} (hp : p') (h : p' → p:=by (intro h; (repeat (first|refine q1 ?_|refine q3 ?_|refine q4 tab rfl rfl ?_|refine q5 ?_|refine q6 ?_|refine q7 ?_|refine q8 ?_|refine q9 ?_|refine q10 ?_|refine q11 ?_|refine q12 rfl ?_|refine q13 ?_|refine q14 ?_|refine q15 ?_|refine q16 rfl ?_|refine q17 rfl ?_));exact h)) : p:=h hp
theorem uM {p p' : Prop} (hp : p') (h : p' → p:=by (intro h; (first|refine qs rfl (ql tab 0 rfl rfl rfl rfl rfl rfl ?_)|refine qs rfl (qz tab 0 rfl rfl rfl rfl rfl rfl ?_)|refine qs rfl (ql tab 1 rfl rfl rfl rfl rfl rfl ?_)|refine qs rfl (qz tab 1 rfl rfl rfl rfl rfl rfl ?_)|refine qs rfl (ql tab 2 rfl rfl rfl rfl rfl rfl ?_)|refine qs rfl (qz tab 2 rfl rfl rfl rfl rfl rfl ?_)|refine qs rfl (ql tab 3 rfl rfl rfl rfl rfl rfl ?_)|refine qs rfl (qz tab 3 rfl rfl rfl rfl rfl rfl ?_)|refine qs rfl (ql tab 4 rfl rfl rfl rfl rfl rfl ?_)|refine qs rfl (qz tab 4 rfl rfl rfl rfl rfl rfl ?_)|refine qs rfl (ql tab 5 rfl rfl rfl rfl rfl rfl ?_)|refine qs rfl (qz tab 5 rfl rfl rfl rfl rfl rfl ?_));exact h)) : p:=h hp
theorem uT {p p' : Prop} (hp : p') (h : p' → p:=by (intro h; (first|refine qs rfl (OT.storeL tab 0 rfl rfl rfl rfl rfl rfl rfl rfl ?_)|refine qs rfl (OT.storeL0 tab 0 rfl rfl rfl rfl rfl rfl rfl rfl ?_)|refine qs rfl (OT.storeL tab 1 rfl rfl rfl rfl rfl rfl rfl rfl ?_)|refine qs rfl (OT.storeL0 tab 1 rfl rfl rfl rfl rfl rfl rfl rfl ?_)|refine qs rfl (OT.storeL tab 2 rfl rfl rfl rfl rfl rfl rfl rfl ?_)|refine qs rfl (OT.storeL0 tab 2 rfl rfl rfl rfl rfl rfl rfl rfl ?_)|refine qs rfl (OT.storeL tab 3 rfl rfl rfl rfl rfl rfl rfl rfl ?_)|refine qs rfl (OT.storeL0 tab 3 rfl rfl rfl rfl rfl rfl rfl rfl ?_)|refine qs rfl (OT.storeL tab 4 rfl rfl rfl rfl rfl rfl rfl rfl ?_)|refine qs rfl (OT.storeL0 tab 4 rfl rfl rfl rfl rfl rfl rfl rfl ?_)|refine qs rfl (OT.storeL tab 5 rfl rfl rfl rfl rfl rfl rfl rfl ?_)|refine qs rfl (OT.storeL0 tab 5 rfl rfl rfl rfl rfl rfl rfl rfl ?_));exact h)) : p:=h hp
theorem uS {α : Type} {l l' : List α} (h : l'.Sublist l:=by (repeat (first | exact List.Sublist.refl _ | exact List.sublist_append_left _ _ | refine List.Sublist.cons_cons _ ?_ | refine List.Sublist.cons _ ?_))) : l'.Sublist l:=h
theorem uH {p : Prop} (h : p:=by (repeat (first | exact trivial | refine And.intro rfl ?_))) : p:=h
theorem uC {Q : EPost} (h : Calm Q:=by (repeat (first | exact Calm.ret | exact Calm.quiet | refine Calm.then ?_ | refine Calm.block ?_ | assumption))) : Calm Q:=h
theorem uP {α : Type} {l l' : List α} (h : l.Perm l':=by (first | exact List.Perm.refl _ | (rw [List.append_nil];exact List.Perm.refl _))) : l.Perm l':=h
end Go.Sep
