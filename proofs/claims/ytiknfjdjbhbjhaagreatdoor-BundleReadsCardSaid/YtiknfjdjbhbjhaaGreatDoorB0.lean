/-
  Part 0 of the proof: library, walks and plain laws.
-/
import Derived.WalkKit
set_option linter.unusedVariables false
set_option linter.unusedSimpArgs false
namespace Go.Sep
structure Mem where
 pin : World
 c : Nat→Nat→Option Value
 o : Nat→Option Obj
 t : Nat→Option (TypeId × Nat)
structure Mem.le (m m' : Mem) : Prop where
 pin : m'.pin=m.pin
 c : ∀ b i v,m.c b i=some v→m'.c b i=some v
 o : ∀ b x,m.o b=some x→m'.o b=some x
 t : ∀ b x,m.t b=some x→m'.t b=some x
instance : LE Mem:=⟨Mem.le⟩
theorem Mem.le_refl (m : Mem) : m ≤ m:=⟨rfl,fun _ _ _ h=>h,fun _ _ h=>h,fun _ _ h=>h⟩
theorem Mem.le_trans {a b c : Mem} (h : a ≤ b) (k : b ≤ c) : a ≤ c :=
 ⟨k.pin.trans h.pin,fun _ _ _ x=>k.c _ _ _ (h.c _ _ _ x),fun _ _ x=>k.o _ _ (h.o _ _ x),fun _ _ x=>k.t _ _ (h.t _ _ x)⟩
def isCells : Obj→Bool
 | .cells ..=>true
 | _=>false
inductive Item where
 | cells (b off : Nat) (vs : List Value)
 | room (b off n : Nat)
 | obj (b : Nat) (o : Obj)
def Item.blk : Item→Nat
 | .cells b _ _ | .room b _ _ | .obj b _=>b
def Item.off : Item→Nat
 | .cells _ o _ | .room _ o _=>o
 | .obj _ _=>0
def Item.len : Item→Nat
 | .cells _ _ vs=>vs.length
 | .room _ _ n=>n
 | .obj _ _=>1
def Item.holds (w : World) : Item→Prop
 | .cells b off vs => ∀ j v,vs[j]? = some v→w.cell? ⟨b,off + j,none⟩ = some v ∧ ∀ i,w.frozen? ⟨b,i,none⟩ = false
 | .room b off n => ∀ j,j < n → ∃ v,w.cell? ⟨b,off + j,none⟩ = some v ∧ ∀ i,w.frozen? ⟨b,i,none⟩ = false
 | .obj b o=>w.heap[b]? = some o∧isCells o=false
structure Item.Free (m : Mem) (x : Item) : Prop where
 pin : 0 < x.len→m.pin.heap.size ≤ x.blk
 c : ∀ j,j < x.len→m.c x.blk (x.off + j)=none
 o : ∀ b o,x = .obj b o→m.o b=none
def Item.Disj (x y : Item) : Prop:=x.len=0 ∨ y.len=0 ∨ x.blk ≠ y.blk ∨ x.off + x.len ≤ y.off ∨ y.off + y.len ≤ x.off
theorem Item.Disj.symm {x y : Item} (h : x.Disj y) : y.Disj x:=by
 rcases h with h | h | h | h | h
 ·exact .inr (.inl h)
 ·exact .inl h
 ·exact .inr (.inr (.inl (Ne.symm h)))
 ·exact .inr (.inr (.inr (.inr h)))
 ·exact .inr (.inr (.inr (.inl h)))
structure St (m : Mem) (w : World) (L : List Item) : Prop where
 os : w.os=m.pin.os
 tape : w.tape=m.pin.tape
 output : w.output=m.pin.output
 size : m.pin.heap.size ≤ w.heap.size
 pin : ∀ b,b < m.pin.heap.size→w.heap[b]? = m.pin.heap[b]?
 c : ∀ b i v,m.c b i=some v→w.cell? ⟨b,i,none⟩ = some v
 o : ∀ b x,m.o b=some x→w.heap[b]? = some x∧isCells x=false
 t : ∀ b x,m.t b=some x → ∃ arr fr,w.heap[b]? = some (.cells arr x.1 fr)∧arr.size=x.2
 items : ∀ x ∈ L,x.holds w
 free : ∀ x ∈ L,x.Free m
 disj : L.Pairwise Item.Disj
theorem St.perm {m : Mem} {w : World} {L L' : List Item} (h : St m w L) (p : L.Perm L') : St m w L' :=
 {h with
  items:=fun x hx=>h.items x (p.mem_iff.2 hx)
  free:=fun x hx=>h.free x (p.mem_iff.2 hx)
  disj:=p.pairwise h.disj fun hx=>hx.symm }
theorem St.sub {m : Mem} {w : World} {L L' : List Item} (h : St m w L) (p : L'.Sublist L) : St m w L' :=
 {h with
  items:=fun x hx=>h.items x (p.subset hx)
  free:=fun x hx=>h.free x (p.subset hx)
  disj:=h.disj.sublist p }
theorem St.drew {m : Mem} {w : World} {L : List Item} (h : St m w L) : St m w.drew L :=
 {os:=h.os,tape:=h.tape,output:=h.output,size:=h.size,pin:=h.pin,c:=h.c,o:=h.o,t:=h.t
  items:=fun x hx=>by have:=h.items x hx;cases x <;> exact this
  free:=h.free,disj:=h.disj }
theorem heap_alloc_lt (w : World) (o : Obj) {b : Nat} (h : b < w.heap.size) : (w.alloc o).heap[b]? = w.heap[b]?:=by
 show (w.heap.push o)[b]? = _
 simp [Array.getElem?_push,Nat.ne_of_lt h]
theorem heap_alloc_at (w : World) (o : Obj) : (w.alloc o).heap[w.heap.size]? = some o:=by
 show (w.heap.push o)[w.heap.size]? = _
 simp
theorem frozen_alloc_lt (w : World) (o : Obj) {a : Addr} (h : a.block < w.heap.size) : (w.alloc o).frozen? a=w.frozen? a :=
 World.frozen?_alloc_old w o a (Nat.ne_of_lt h)
theorem lt_of_heap {w : World} {b : Nat} {o : Obj} (h : w.heap[b]? = some o) : b < w.heap.size:=(Array.getElem?_eq_some_iff.1 h).1
theorem Item.holds_alloc {w : World} {x : Item} (o : Obj) (h : x.holds w) : x.holds (w.alloc o):=by
 cases x with
 | cells b off vs =>
  intro j v hv
  obtain ⟨h1,h2⟩:=h j v hv
  have hb:=World.block_lt_of_cell? _ _ h1
  exact ⟨(World.cell?_alloc_lt _ _ _ hb).trans h1,fun i=>(frozen_alloc_lt (a:=⟨b,i,none⟩) _ _ hb).trans (h2 i)⟩
 | room b off n =>
  intro j hj
  obtain ⟨v,h1,h2⟩:=h j hj
  have hb:=World.block_lt_of_cell? _ _ h1
  exact ⟨v,(World.cell?_alloc_lt _ _ _ hb).trans h1,fun i=>(frozen_alloc_lt (a:=⟨b,i,none⟩) _ _ hb).trans (h2 i)⟩
 | obj b o' =>
  exact ⟨(heap_alloc_lt _ _ (lt_of_heap h.1)).trans h.1,h.2⟩
theorem Item.blk_lt {w : World} {x : Item} (h : x.holds w) (hl : 0 < x.len) : x.blk < w.heap.size:=by
 cases x with
 | cells b off vs =>
  have : 0 < vs.length:=hl
  obtain ⟨h1,_⟩:=h 0 vs[0] (by simp)
  exact World.block_lt_of_cell? _ _ h1
 | room b off n =>
  obtain ⟨v,h1,_⟩:=h 0 hl
  exact World.block_lt_of_cell? _ _ h1
 | obj b o=>exact lt_of_heap h.1
theorem St.push {m : Mem} {w : World} {L : List Item} {o : Obj} {x : Item} (h : St m w L) (hb : x.blk=w.heap.size) (hx : x.holds (w.alloc o)) :
  St m (w.alloc o) (x :: L) where
 os:=h.os
 tape:=h.tape
 output:=h.output
 size:=by have:=h.size;simp;omega
 pin:=fun b hlt=>(heap_alloc_lt _ _ (Nat.lt_of_lt_of_le hlt h.size)).trans (h.pin b hlt)
 c:=fun b i v hv=>by
  have h1:=h.c b i v hv
  exact (World.cell?_alloc_lt _ _ _ (World.block_lt_of_cell? _ _ h1)).trans h1
 o:=fun b x hx=>by
  have h1:=h.o b x hx
  exact ⟨(heap_alloc_lt _ _ (lt_of_heap h1.1)).trans h1.1,h1.2⟩
 t:=fun b x hx=>by
  obtain ⟨arr,fr,h1,h2⟩:=h.t b x hx
  exact ⟨arr,fr,(heap_alloc_lt _ _ (lt_of_heap h1)).trans h1,h2⟩
 items:=fun y hy=>by
  rcases List.mem_cons.1 hy with rfl | hy
  ·exact hx
  ·exact Item.holds_alloc _ (h.items y hy)
 free:=fun y hy=>by
  rcases List.mem_cons.1 hy with rfl | hy
  ·refine ⟨fun _=>by rw [hb];exact h.size,fun j hj => ?_,fun b o e => ?_⟩
   ·cases hc : m.c y.blk (y.off + j) with
    | none=>rfl
    | some v =>
     have:=World.block_lt_of_cell? _ _ (h.c _ _ _ hc)
     simp only at this
     omega
   ·subst e
    cases ho : m.o b with
    | none=>rfl
    | some v =>
     have:=lt_of_heap (h.o _ _ ho).1
     simp only [Item.blk] at hb
     omega
  ·exact h.free y hy
 disj:=by
  refine List.pairwise_cons.2 ⟨fun y hy => ?_,h.disj⟩
  by_cases hl : 0 < y.len
  ·have:=Item.blk_lt (h.items y hy) hl
   exact .inr (.inr (.inl (by omega)))
  ·exact .inr (.inl (by omega))
theorem cell_new (w : World) (arr : Array Value) (t : TypeId) (i : Nat) : (w.alloc (.cells arr t)).cell? ⟨w.heap.size,i,none⟩ = arr[i]? :=
 World.cell?_alloc_new w arr t i
theorem St.allocCells {m : Mem} {w : World} {L : List Item} (h : St m w L) (arr : Array Value) (t : TypeId) :
  St m (w.alloc (.cells arr t)) (.cells w.heap.size 0 arr.toList :: L):=by
 refine h.push (x := .cells w.heap.size 0 arr.toList) rfl fun j v hv => ?_
 simp only [Nat.zero_add]
 exact ⟨by rw [cell_new];simpa using hv,fun _=>World.frozen?_alloc_new _ _ _ _⟩
theorem St.allocObj {m : Mem} {w : World} {L : List Item} (h : St m w L) (o : Obj) (ho : isCells o=false) :
  St m (w.alloc o) (.obj w.heap.size o :: L) :=
 h.push (x := .obj w.heap.size o) rfl ⟨heap_alloc_at _ _,ho⟩
theorem heap_setCell_ne (w : World) (a : Addr) (v : Value) {b : Nat} (h : a.block ≠ b) : (w.setCell a v).heap[b]? = w.heap[b]?:=by
 simp only [World.setCell,Array.getElem?_modify]
 simp [h]
theorem heap_setCell_obj (w : World) (a : Addr) (v : Value) {b : Nat} {o : Obj} (h : w.heap[b]? = some o) (ho : isCells o=false) : (w.setCell a v).heap[b]? = some o:=by
 simp only [World.setCell,Array.getElem?_modify,h]
 split
 ·cases o <;> simp_all [isCells]
 ·rfl
theorem Item.holds_setCell {w : World} {x : Item} (a : Addr) (v : Value) (h : x.holds w) (hd : ∀ j,j < x.len→a ≠ ⟨x.blk,x.off + j,none⟩) : x.holds (w.setCell a v):=by
 cases x with
 | cells b off vs =>
  intro j u hu
  obtain ⟨h1,h2⟩:=h j u hu
  have hj : j < vs.length:=(List.getElem?_eq_some_iff.1 hu).1
  exact ⟨(World.cell?_setCell_other _ _ _ _ (hd j hj)).trans h1,fun i=>by rw [World.frozen?_setCell];exact h2 i⟩
 | room b off n =>
  intro j hj
  obtain ⟨u,h1,h2⟩:=h j hj
  exact ⟨u,(World.cell?_setCell_other _ _ _ _ (hd j hj)).trans h1,fun i=>by rw [World.frozen?_setCell];exact h2 i⟩
 | obj b o=>exact ⟨heap_setCell_obj _ _ _ h.1 h.2,h.2⟩
theorem heap_setCell_shape (w : World) (a : Addr) (v : Value) {b : Nat} {arr : Array Value} {e : TypeId} {fr : Nat × Nat} (h : w.heap[b]? = some (.cells arr e fr)) : ∃ arr',(w.setCell a v).heap[b]? = some (.cells arr' e fr)∧arr'.size=arr.size:=by
 simp only [World.setCell,Array.getElem?_modify,h]
 split
 ·refine ⟨_,rfl, ?_⟩
  split <;> simp
 ·exact ⟨arr,rfl,rfl⟩
theorem St.set {m : Mem} {w : World} {L : List Item} {b off : Nat} {vs : List Value} (h : St m w (.cells b off vs :: L)) {j : Nat} (hj : j < vs.length) (v : Value) :
  St m (w.setCell ⟨b,off + j,none⟩ v) (.cells b off (vs.set j v) :: L):=by
 have hx:=h.items _ (List.mem_cons_self ..)
 have hf:=h.free _ (List.mem_cons_self ..)
 have hd:=List.pairwise_cons.1 h.disj
 have hcell : ∀ i,i < vs.length→w.cell? ⟨b,off + i,none⟩ = some (vs[i]?.getD undef):=fun i hi=>by
  have:=(hx i vs[i] (by simp [hi])).1
  simpa [hi] using this
 refine { os:=h.os,tape:=h.tape,output:=h.output,size:=by simpa using h.size,pin:=fun k hk => ?_,c:=fun k i u hu => ?_,o:=fun k x hk => ?_,t:=fun k x hk=>(by obtain ⟨arr,fr,g1,g2⟩:=h.t k x hk;obtain ⟨arr',g3,g4⟩:=heap_setCell_shape w ⟨b,off + j,none⟩ v g1;exact ⟨arr',fr,g3,g4.trans g2⟩),items:=fun y hy => ?_,free:=fun y hy => ?_,disj := ?_ }
 ·have hp : m.pin.heap.size ≤ b:=hf.pin (by simp only [Item.len];omega)
  rw [heap_setCell_ne _ _ _ (show b ≠ k by omega)]
  exact h.pin k hk
 ·have hne : (⟨b,off + j,none⟩ : Addr) ≠ ⟨k,i,none⟩:=fun e=>by
   have h1 : b=k:=congrArg Addr.block e
   have h2 : off + j=i:=congrArg Addr.off e
   subst h1;subst h2
   have:=hf.c j hj
   simp only [Item.blk,Item.off] at this
   rw [this] at hu;cases hu
  exact (World.cell?_setCell_other _ _ _ _ hne).trans (h.c k i u hu)
 ·have:=h.o k x hk
  exact ⟨heap_setCell_obj _ _ _ this.1 this.2,this.2⟩
 ·rcases List.mem_cons.1 hy with rfl | hy
  ·intro i u hu
   simp only [World.frozen?_setCell]
   have hi : i < vs.length:=by have:=(List.getElem?_eq_some_iff.1 hu).1;simpa using this
   obtain ⟨h1,h2⟩:=hx i vs[i] (by simp [hi])
   refine ⟨?_,h2⟩
   by_cases hij : j=i
   ·subst hij
    rw [World.cell?_setCell_same _ _ _ (hcell j hi)]
    simpa [hi] using hu
   ·rw [World.cell?_setCell_other _ _ _ _ (fun e=>hij (by have:=congrArg Addr.off e;simp only at this;omega)),h1]
    rw [List.getElem?_set_ne hij] at hu
    simpa [hi] using hu
  ·refine Item.holds_setCell _ _ (h.items y (List.mem_cons_of_mem _ hy)) fun i hi e => ?_
   have h1 : b=y.blk:=congrArg Addr.block e
   have h2 : off + j=y.off + i:=congrArg Addr.off e
   rcases hd.1 y hy with hq | hq | hq | hq | hq <;> simp only [Item.len,Item.blk,Item.off] at hq h1 h2 hi
   ·omega
   ·omega
   ·exact hq h1
   ·omega
   ·omega
 ·rcases List.mem_cons.1 hy with rfl | hy
  ·exact ⟨fun hl=>hf.pin (by simpa [Item.len] using hl),fun i hi=>hf.c i (by simpa [Item.len] using hi),fun _ _ e=>by cases e⟩
  ·exact h.free y (List.mem_cons_of_mem _ hy)
 ·refine List.pairwise_cons.2 ⟨fun y hy => ?_,hd.2⟩
  have:=hd.1 y hy
  simpa [Item.Disj,Item.len,Item.blk,Item.off] using this
def Mem.addCells (m : Mem) (b off : Nat) (vs : List Value) : Mem :=
 {m with c:=fun k i=>if k=b∧off ≤ i∧i < off + vs.length then vs[i - off]? else m.c k i }
def At (m : Mem) (b off : Nat) (vs : List Value) : Prop := ∀ j v,vs[j]? = some v→m.c b (off + j)=some v
theorem At.mono {m m' : Mem} {b off : Nat} {vs : List Value} (h : At m b off vs) (hm : m ≤ m') : At m' b off vs:=fun j v hv=>hm.c _ _ _ (h j v hv)
theorem Mem.addCells_le {m : Mem} {b off : Nat} {vs : List Value} (hf : ∀ j,j < vs.length→m.c b (off + j)=none) : m ≤ m.addCells b off vs:=by
 refine ⟨rfl,fun k i v hv => ?_,fun _ _ h=>h,fun _ _ h=>h⟩
 simp only [Mem.addCells]
 split
 ·rename_i hc
  obtain ⟨rfl,h1,h2⟩:=hc
  have:=hf (i - off) (by omega)
  rw [show off + (i - off)=i by omega] at this
  rw [this] at hv;cases hv
 ·exact hv
theorem Mem.at_addCells (m : Mem) (b off : Nat) (vs : List Value) : At (m.addCells b off vs) b off vs:=by
 intro j v hv
 have hj : j < vs.length:=(List.getElem?_eq_some_iff.1 hv).1
 have hc : b=b∧off ≤ off + j∧off + j < off + vs.length:=⟨rfl,by omega,by omega⟩
 show (if b=b∧off ≤ off + j∧off + j < off + vs.length then vs[off + j - off]? else m.c b (off + j))=some v
 rw [if_pos hc,show off + j - off=j by omega]
 exact hv
theorem St.freeze {m : Mem} {w : World} {L : List Item} {b off : Nat} {vs : List Value} (h : St m w (.cells b off vs :: L)) :
  m ≤ m.addCells b off vs∧At (m.addCells b off vs) b off vs∧St (m.addCells b off vs) w L:=by
 have hx:=h.items _ (List.mem_cons_self ..)
 have hf:=h.free _ (List.mem_cons_self ..)
 have hd:=List.pairwise_cons.1 h.disj
 have hle:=Mem.addCells_le (m:=m) (b:=b) (off:=off) (vs:=vs) hf.c
 refine ⟨hle,Mem.at_addCells m b off vs,{ os:=h.os,tape:=h.tape,output:=h.output,size:=h.size,pin:=h.pin,c:=fun k i u hu => ?_,o:=h.o,t:=h.t,items:=fun y hy=>h.items y (List.mem_cons_of_mem _ hy),free:=fun y hy => ?_,disj:=hd.2 }⟩
 ·simp only [Mem.addCells] at hu
  split at hu
  ·rename_i hc
   obtain ⟨rfl,h1,h2⟩:=hc
   have:=(hx (i - off) u hu).1
   rwa [show off + (i - off)=i by omega] at this
  ·exact h.c k i u hu
 ·have hy':=h.free y (List.mem_cons_of_mem _ hy)
  refine ⟨hy'.pin,fun j hj => ?_,hy'.o⟩
  simp only [Mem.addCells]
  split
  ·rename_i hc
   rcases hd.1 y hy with hq | hq | hq | hq | hq <;> simp only [Item.len,Item.blk,Item.off] at hq
   ·omega
   ·simp only [Item.len] at hj;omega
   ·exact absurd hc.1.symm hq
   ·simp only [Item.off] at hc hj;omega
   ·simp only [Item.off,Item.len] at hc hj;omega
  ·exact hy'.c j hj
theorem heap_setObj_ne (w : World) {b k : Nat} (o : Obj) (h : b ≠ k) : ({ w with heap:=w.heap.setIfInBounds b o } : World).heap[k]? = w.heap[k]?:=by
 simp [Array.getElem?_setIfInBounds_ne h]
theorem St.setObj {m : Mem} {w : World} {L : List Item} {b : Nat} {o : Obj} (h : St m w (.obj b o :: L)) (o' : Obj) (ho : isCells o' = false) :
  St m { w with heap:=w.heap.setIfInBounds b o' } (.obj b o' :: L):=by
 have hx:=h.items _ (List.mem_cons_self ..)
 have hf:=h.free _ (List.mem_cons_self ..)
 have hd:=List.pairwise_cons.1 h.disj
 have hb:=lt_of_heap hx.1
 have hnb : ∀ i,w.cell? ⟨b,i,none⟩ = none:=fun i=>by
  have h1:=hx.1
  have h2:=hx.2
  simp only [World.cell?,h1]
  cases o <;> simp_all [isCells]
 have keepC : ∀ (a : Addr) (v : Value),w.cell? a=some v→a.spot=none→({ w with heap:=w.heap.setIfInBounds b o' } : World).cell? a=some v ∧ ∀ i,({ w with heap:=w.heap.setIfInBounds b o' } : World).frozen? ⟨a.block,i,none⟩ = w.frozen? ⟨a.block,i,none⟩:=fun a v hv hs=>by
  have hne : b ≠ a.block:=fun e=>by
   have:=hnb a.off
   subst e
   obtain ⟨ab,ao,as1⟩:=a
   simp only at hs
   subst hs
   rw [this] at hv;cases hv
  have e:=heap_setObj_ne w o' hne
  exact ⟨(World.cell?_of_block e).trans hv,fun i=>World.frozen?_of_block (a:=⟨a.block,i,none⟩) e⟩
 refine { os:=h.os,tape:=h.tape,output:=h.output,size:=by simpa using h.size,pin:=fun k hk => ?_,c:=fun k i u hu=>(keepC _ _ (h.c k i u hu) rfl).1,o:=fun k x hk => ?_,t:=fun k x hk => ?_,items:=fun y hy => ?_,free:=fun y hy => ?_,disj := ?_ }
 ·have hp : m.pin.heap.size ≤ b:=hf.pin (by simp [Item.len])
  rw [heap_setObj_ne _ _ (show b ≠ k by omega)]
  exact h.pin k hk
 ·have h1:=h.o k x hk
  have hne : b ≠ k:=fun e=>by subst e;rw [hf.o b o rfl] at hk;cases hk
  exact ⟨(heap_setObj_ne _ _ hne).trans h1.1,h1.2⟩
 ·obtain ⟨arr,fr,g1,g2⟩:=h.t k x hk
  have hne : b ≠ k:=fun e=>by
   subst e
   have h1:=hx.1
   have h2:=hx.2
   rw [g1] at h1
   cases h1
   simp [isCells] at h2
  exact ⟨arr,fr,(heap_setObj_ne _ _ hne).trans g1,g2⟩
 ·rcases List.mem_cons.1 hy with rfl | hy
  ·exact ⟨by simp [hb],ho⟩
  ·have hi:=h.items y (List.mem_cons_of_mem _ hy)
   cases y with
   | cells k off vs =>
    intro j v hv
    obtain ⟨h1,h2⟩:=hi j v hv
    have:=keepC _ _ h1 rfl
    exact ⟨this.1,fun i=>(this.2 i).trans (h2 i)⟩
   | room k off n =>
    intro j hj
    obtain ⟨v,h1,h2⟩:=hi j hj
    have:=keepC _ _ h1 rfl
    exact ⟨v,this.1,fun i=>(this.2 i).trans (h2 i)⟩
   | obj k x =>
    have hne : b ≠ k:=by
     rcases hd.1 _ hy with hq | hq | hq | hq | hq <;> simp [Item.len,Item.blk,Item.off] at hq
     exact hq
    exact ⟨(heap_setObj_ne _ _ hne).trans hi.1,hi.2⟩
 ·rcases List.mem_cons.1 hy with rfl | hy
  ·exact ⟨hf.pin,hf.c,fun k x e=>by cases e;exact hf.o b o rfl⟩
  ·exact h.free y (List.mem_cons_of_mem _ hy)
 ·refine List.pairwise_cons.2 ⟨fun y hy => ?_,hd.2⟩
  have:=hd.1 y hy
  simpa [Item.Disj,Item.len,Item.blk,Item.off] using this
theorem St.ofItems {m : Mem} {w : World} {L L' : List Item} (h : St m w L) (hi : ∀ x ∈ L',x.holds w) (hf : ∀ x ∈ L',x.Free m) (hd : L'.Pairwise Item.Disj) : St m w L' :=
 {h with items:=hi,free:=hf,disj:=hd }
theorem St.split {m : Mem} {w : World} {L : List Item} {b off : Nat} {vs us : List Value} (h : St m w (.cells b off (vs++us) :: L)) :
  St m w (.cells b off vs :: .cells b (off + vs.length) us :: L):=by
 have hx:=h.items _ (List.mem_cons_self ..)
 have hf:=h.free _ (List.mem_cons_self ..)
 have hd:=List.pairwise_cons.1 h.disj
 refine h.ofItems (fun y hy => ?_) (fun y hy => ?_) ?_
 ·rcases List.mem_cons.1 hy with rfl | hy
  ·intro j v hv
   exact hx j v (by rw [List.getElem?_append_left (List.getElem?_eq_some_iff.1 hv).1];exact hv)
  ·rcases List.mem_cons.1 hy with rfl | hy
   ·intro j v hv
    have:=hx (vs.length + j) v (by rw [List.getElem?_append_right (by omega)];simpa using hv)
    rwa [← Nat.add_assoc] at this
   ·exact h.items y (List.mem_cons_of_mem _ hy)
 ·rcases List.mem_cons.1 hy with rfl | hy
  ·exact ⟨fun hl=>hf.pin (by simp [Item.len] at hl ⊢;omega),fun j hj=>hf.c j (by simp [Item.len] at hj ⊢;omega),fun _ _ e=>by cases e⟩
  ·rcases List.mem_cons.1 hy with rfl | hy
   ·refine ⟨fun hl=>hf.pin (by simp [Item.len] at hl ⊢;omega),fun j hj => ?_,fun _ _ e=>by cases e⟩
    have:=hf.c (vs.length + j) (by simp [Item.len] at hj ⊢;omega)
    simpa [Item.blk,Item.off,Nat.add_assoc] using this
   ·exact h.free y (List.mem_cons_of_mem _ hy)
 ·refine List.pairwise_cons.2 ⟨fun y hy => ?_,List.pairwise_cons.2 ⟨fun y hy => ?_,hd.2⟩⟩
  ·rcases List.mem_cons.1 hy with rfl | hy
   ·exact .inr (.inr (.inr (.inl (by simp [Item.len,Item.off]))))
   ·rcases hd.1 y hy with hq | hq | hq | hq | hq <;> simp only [Item.len,Item.blk,Item.off,List.length_append] at hq
    ·exact .inl (by simp only [Item.len];omega)
    ·exact .inr (.inl hq)
    ·exact .inr (.inr (.inl hq))
    ·exact .inr (.inr (.inr (.inl (by simp only [Item.len,Item.off];omega))))
    ·exact .inr (.inr (.inr (.inr hq)))
  ·rcases hd.1 y hy with hq | hq | hq | hq | hq <;> simp only [Item.len,Item.blk,Item.off,List.length_append] at hq
   ·exact .inl (by simp only [Item.len];omega)
   ·exact .inr (.inl hq)
   ·exact .inr (.inr (.inl hq))
   ·exact .inr (.inr (.inr (.inl (by simp only [Item.len,Item.off];omega))))
   ·exact .inr (.inr (.inr (.inr (by simp only [Item.len,Item.off];omega))))
theorem St.join {m : Mem} {w : World} {L : List Item} {b off off' : Nat} {vs us : List Value} (h : St m w (.cells b off vs :: .cells b off' us :: L)) (he : off' = off + vs.length) :
  St m w (.cells b off (vs++us) :: L):=by
 subst he
 have hx:=h.items _ (List.mem_cons_self ..)
 have hy:=h.items (.cells b (off + vs.length) us) (by simp)
 have hfx:=h.free _ (List.mem_cons_self ..)
 have hfy:=h.free (.cells b (off + vs.length) us) (by simp)
 have hd:=List.pairwise_cons.1 h.disj
 have hd2:=List.pairwise_cons.1 hd.2
 refine h.ofItems (fun y hy' => ?_) (fun y hy' => ?_) ?_
 ·rcases List.mem_cons.1 hy' with rfl | hy'
  ·intro j v hv
   rcases Nat.lt_or_ge j vs.length with hj | hj
   ·rw [List.getElem?_append_left hj] at hv;exact hx j v hv
   ·rw [List.getElem?_append_right hj] at hv
    have:=hy _ v hv
    rwa [show off + vs.length + (j - vs.length)=off + j by omega] at this
  ·exact h.items y (by simp [hy'])
 ·rcases List.mem_cons.1 hy' with rfl | hy'
  ·refine ⟨fun hl => ?_,fun j hj => ?_,fun _ _ e=>by cases e⟩
   ·rcases Nat.eq_zero_or_pos vs.length with h0 | h0
    ·exact hfy.pin (by simp [Item.len] at hl ⊢;omega)
    ·exact hfx.pin h0
   rcases Nat.lt_or_ge j vs.length with hj' | hj'
   ·exact hfx.c j hj'
   ·have:=hfy.c (j - vs.length) (by simp [Item.len] at hj ⊢;omega)
    simp only [Item.blk,Item.off] at this ⊢
    rwa [show off + vs.length + (j - vs.length)=off + j by omega] at this
  ·exact h.free y (by simp [hy'])
 ·refine List.pairwise_cons.2 ⟨fun y hy' => ?_,hd2.2⟩
  have h1:=hd.1 y (by simp [hy'])
  have h2:=hd2.1 y hy'
  simp only [Item.Disj,Item.len,Item.blk,Item.off,List.length_append] at h1 h2 ⊢
  omega
theorem St.toRoom {m : Mem} {w : World} {L : List Item} {b off : Nat} {vs : List Value} (h : St m w (.cells b off vs :: L)) : St m w (.room b off vs.length :: L):=by
 have hx:=h.items _ (List.mem_cons_self ..)
 have hf:=h.free _ (List.mem_cons_self ..)
 have hd:=List.pairwise_cons.1 h.disj
 refine h.ofItems (fun y hy => ?_) (fun y hy => ?_) (List.pairwise_cons.2 ⟨fun y hy => ?_,hd.2⟩)
 ·rcases List.mem_cons.1 hy with rfl | hy
  ·intro j hj
   exact ⟨vs[j],hx j vs[j] (by simp [hj])⟩
  ·exact h.items y (List.mem_cons_of_mem _ hy)
 ·rcases List.mem_cons.1 hy with rfl | hy
  ·exact ⟨hf.pin,hf.c,fun _ _ e=>by cases e⟩
  ·exact h.free y (List.mem_cons_of_mem _ hy)
 ·exact hd.1 y hy
theorem St.ofRoom {m : Mem} {w : World} {L : List Item} {b off n : Nat} (h : St m w (.room b off n :: L)) : ∃ vs : List Value,vs.length=n∧St m w (.cells b off vs :: L):=by
 have hx:=h.items _ (List.mem_cons_self ..)
 have hf:=h.free _ (List.mem_cons_self ..)
 have hd:=List.pairwise_cons.1 h.disj
 refine ⟨(List.range n).map fun j=>(w.cell? ⟨b,off + j,none⟩).getD undef,by simp, ?_⟩
 refine h.ofItems (fun y hy => ?_) (fun y hy => ?_) (List.pairwise_cons.2 ⟨fun y hy => ?_,hd.2⟩)
 ·rcases List.mem_cons.1 hy with rfl | hy
  ·intro j v hv
   have hj : j < n:=by have:=(List.getElem?_eq_some_iff.1 hv).1;simpa using this
   obtain ⟨u,h1,h2⟩:=hx j hj
   simp [hj,h1] at hv
   subst hv
   exact ⟨h1,h2⟩
  ·exact h.items y (List.mem_cons_of_mem _ hy)
 ·rcases List.mem_cons.1 hy with rfl | hy
  ·exact ⟨fun hl=>hf.pin (by simpa [Item.len] using hl),fun j hj=>hf.c j (by simpa [Item.len] using hj),fun _ _ e=>by cases e⟩
  ·exact h.free y (List.mem_cons_of_mem _ hy)
 ·have:=hd.1 y hy
  simpa [Item.Disj,Item.len,Item.blk,Item.off] using this
theorem perm_at : ∀ {L : List Item} {i : Nat} {x : Item},L[i]? = some x→L.Perm (x :: L.eraseIdx i)
 | [],i,x,h=>by simp at h
 | y :: L,0,x,h=>by
  simp at h;subst h;exact List.Perm.refl _
 | y :: L,i + 1,x,h=>by
  rw [List.getElem?_cons_succ] at h
  rw [List.eraseIdx_cons_succ]
  exact ((perm_at h).cons y).trans (List.Perm.swap x y _)
theorem perm_back {L : List Item} {i : Nat} (hi : i < L.length) (y : Item) : (y :: L.eraseIdx i).Perm (L.set i y):=by
 have h : (L.set i y)[i]? = some y:=by simp [hi]
 have:=perm_at h
 rw [List.eraseIdx_set_eq] at this
 exact this.symm
theorem St.at_ {m : Mem} {w : World} {L : List Item} {i : Nat} {x : Item} (h : St m w L) (hi : L[i]? = some x) : St m w (x :: L.eraseIdx i):=h.perm (perm_at hi)
theorem St.back {m : Mem} {w : World} {L : List Item} {i : Nat} {x y : Item} (hi : L[i]? = some x) (h : St m w (y :: L.eraseIdx i)) : St m w (L.set i y) :=
 h.perm (perm_back (List.getElem?_eq_some_iff.1 hi).1 y)
def Mem.addT (m : Mem) (b : Nat) (e : TypeId) (n : Nat) : Mem:={ m with t:=fun k=>if k=b then some (e,n) else m.t k }
theorem St.typed {m : Mem} {w : World} {L : List Item} {b : Nat} {e : TypeId} {arr : Array Value} {fr : Nat × Nat} (h : St m w L) (hb : w.heap[b]? = some (.cells arr e fr)) : m ≤ m.addT b e arr.size∧(m.addT b e arr.size).t b=some (e,arr.size)∧St (m.addT b e arr.size) w L:=by
 refine ⟨⟨rfl,fun _ _ _ h=>h,fun _ _ h=>h,fun k x hk => ?_⟩,by simp [Mem.addT],{ os:=h.os,tape:=h.tape,output:=h.output,size:=h.size,pin:=h.pin,c:=h.c,o:=h.o,t:=fun k x hk => ?_,items:=h.items,free:=fun y hy=>⟨(h.free y hy).pin,(h.free y hy).c,(h.free y hy).o⟩,disj:=h.disj }⟩
 ·simp only [Mem.addT]
  split
  ·rename_i e1
   subst e1
   obtain ⟨arr',fr',g1,g2⟩:=h.t k x hk
   rw [hb] at g1
   cases g1
   rw [g2]
  ·exact hk
 ·simp only [Mem.addT] at hk
  split at hk
  ·rename_i e1
   subst e1
   cases hk
   exact ⟨arr,fr,hb,rfl⟩
  ·exact h.t k x hk
end Go.Sep
set_option linter.unusedVariables false
set_option linter.unusedSimpArgs false
namespace Go.Sep
abbrev Env:=List (Nat × Value)
def look : Env→Nat→Option Value
 | [],_=>none
 | (i,v) :: r,j=>bif Nat.beq i j then some v else look r j
def ev (ρ : Env) : Operand→Option Value
 | .tmp t=>look ρ t
 | .const v=>some v
 | .global g=>some (.pointer (some ⟨g,0,none⟩))
 | .func f=>some (.func (.func f) #[] #[])
def fo : Option Value→Option Value
 | some (.bool b)=>some (.bool b)
 | some (.int k n)=>some (.int k n)
 | some (.float k n)=>some (.float k n)
 | some (.complex k a b)=>some (.complex k a b)
 | some (.string s)=>some (.string s)
 | some (.pointer a)=>some (.pointer a)
 | some (.slice a n c)=>some (.slice a n c)
 | some (.map r)=>some (.map r)
 | some (.chan r)=>some (.chan r)
 | some (.func f a b)=>some (.func f a b)
 | some .nilFunc=>some .nilFunc
 | some (.iface t v)=>some (.iface t v)
 | some .nilIface=>some .nilIface
 | some (.agg cs)=>some (.agg cs)
 | some (.tuple vs)=>some (.tuple vs)
 | none=>none
theorem fo_eq (x : Option Value) : fo x=x:=by cases x with
 | none=>rfl
 | some v=>cases v <;> rfl
def fl : List Value→Option (List Value)
 | []=>some []
 | x :: xs=>match fo (some x),fl xs with
  | some y,some ys=>some (y :: ys)
  | _,_=>none
theorem fl_eq : ∀ l : List Value,fl l=some l
 | []=>rfl
 | x :: xs=>by simp [fl,fo_eq,fl_eq xs]
structure TI where
 u : TypeDesc
 size : Nat
 bytes : Nat
 zero : Value
structure Tab (P : Program) where
 get : TypeId→Option TI
 ok : ∀ t i,get t=some i → ∃ info,P.info? t=some info∧P.underlying t=some i.u∧info.size=i.size∧info.bytes=i.bytes∧info.zero=some i.zero
 fields : ∀ t i,get t=some i → ∀ fs,i.u = .struct fs → ∀ f ∈ fs.toList, ∃ j,P.info? f.type=some j
def TypeDesc.isAgg : TypeDesc→Bool
 | .struct _ | .array _ _=>true
 | _=>false
def Tab.field {P : Program} (T : Tab P) (t : TypeId) (f : Nat) : Option Field :=
 match T.get t with
 | some ⟨.struct fs,_,_,_⟩=>fs.toList[f]?
 | _=>none
def Tab.isAgg {P : Program} (T : Tab P) (t : TypeId) : Option (Bool × Nat) :=
 match T.get t with
 | some i=>some (TypeDesc.isAgg i.u,i.size)
 | none=>none
def Tab.part {P : Program} (T : Tab P) (t : TypeId) (cs : List Value) (off : Nat) : Option Value :=
 match T.isAgg t with
 | some (true,n)=>match fl ((cs.drop off).take n) with
  | some l=>some (.agg ⟨l⟩)
  | none=>none
 | some (false,_)=>fo cs[off]?
 | none=>none
def evs (ρ : Env) : List Operand→Option (List Value)
 | []=>some []
 | x :: xs=>match fo (ev ρ x),evs ρ xs with
  | some y,some ys=>some (y :: ys)
  | _,_=>none
def cmpInt (op : BinOp) (a b : Int) : Option Value :=
 match op with
 | .eql=>some (.bool (decide (a=b)))
 | .neq=>some (.bool (!decide (a=b)))
 | .lss=>some (.bool (decide (a < b)))
 | .leq=>some (.bool (decide (a ≤ b)))
 | .gtr=>some (.bool (decide (b < a)))
 | .geq=>some (.bool (decide (b ≤ a)))
 | _=>none
def cmpStr (op : BinOp) (a b : List UInt8) : Option Value :=
 match op with
 | .eql=>some (.bool (decide (a=b)))
 | .neq=>some (.bool (!decide (a=b)))
 | .lss=>some (.bool (Op.bytesLess a b))
 | .gtr=>some (.bool (!(Op.bytesLess a b || decide (a=b))))
 | _=>none
def sameKind (a b : IntKind) : Bool :=
 match a,b with
 | .i8, .i8 | .i16, .i16 | .i32, .i32 | .i64, .i64 | .u8, .u8 | .u16, .u16 | .u32, .u32 | .u64, .u64=>true
 | _,_=>false
theorem sameKind_eq {a b : IntKind} (h : sameKind a b=true) : a=b:=by cases a <;> cases b <;> first | rfl | cases h
def evalBin (op : BinOp) : Option Value→Option Value→Option Value
 | some (.int k a),some (.int k' b)=>bif sameKind k k' then cmpInt op a b else none
 | some (.string ⟨⟨a⟩⟩),some (.string ⟨⟨b⟩⟩)=>cmpStr op a b
 | _,_=>none
def cellsF : Value→Option (List Value)
 | .agg ⟨cs⟩=>fl cs
 | .tuple _=>none
 | v=>match fo (some v) with
  | some u=>some [u]
  | none=>none
theorem cellsF_eq {v : Value} {cs : List Value} (h : cellsF v=some cs) : v.cells = ⟨cs⟩:=by
 unfold cellsF at h
 split at h
 ·rw [fl_eq] at h;simp only [Option.some.injEq] at h;subst h;rfl
 ·cases h
 ·rename_i h1 h2
  rw [fo_eq] at h
  simp only [Option.some.injEq] at h;subst h
  cases v <;> first | rfl | exact (h1 _ rfl).elim
def putAt : List Value→Nat→List Value→List Value
 | vs,_,[]=>vs
 | vs,k,c :: cs=>putAt (vs.set k c) (k + 1) cs
theorem putAt_length : ∀ (cs vs : List Value) (k : Nat),(putAt vs k cs).length=vs.length
 | [],vs,k=>rfl
 | c :: cs,vs,k=>by simp [putAt,putAt_length cs]
def fillF {P : Program} (T : Tab P) (ρ : Env) (fs : List Field) : List Value→List (Nat × Operand)→Option (List Value)
 | cs,[]=>fl cs
 | cs,(i,x) :: r=>match fs[i]? with
  | some f=>match T.get f.type,ev ρ x with
   | some ti,some v=>match cellsF v with
    | some vs=>bif Nat.beq vs.length ti.size && Nat.ble (f.offset + vs.length) cs.length then (match fl (putAt cs f.offset vs) with
      | some cs'=>fillF T ρ fs cs' r
      | none=>none) else none
    | none=>none
   | _,_=>none
  | none=>none
def evalOp {P : Program} (T : Tab P) (ρ : Env) : Op→Option Value
 | .move x | .assign x=>fo (ev ρ x)
 | .pick c a b=>match ev ρ c with
  | some (.bool true)=>fo (ev ρ a)
  | some (.bool false)=>fo (ev ρ b)
  | _=>none
 | .nilCheck x=>match ev ρ x with
  | some (.pointer (some a))=>some (.pointer (some a))
  | _=>none
 | .fieldAddr s x f=>match ev ρ x,T.field s f with
  | some (.pointer (some ⟨b,o,none⟩)),some fl=>match T.isAgg fl.type with
   | some (_,n + 1)=>some (.pointer (some ⟨b,o + fl.offset,none⟩))
   | _=>none
  | _,_=>none
 | .field s x f=>match ev ρ x,T.field s f with
  | some (.agg ⟨cs⟩),some fl=>T.part fl.type cs fl.offset
  | _,_=>none
 | .extract t i=>match ev ρ t with
  | some (.tuple ⟨vs⟩)=>fo vs[i]?
  | _=>none
 | .binOp op _ x y _=>evalBin op (ev ρ x) (ev ρ y)
 | .unOp .not _ x=>match ev ρ x with
  | some (.bool b)=>some (.bool (!b))
  | _=>none
 | .build t ⟨ps⟩=>match T.get t with
  | some ⟨.struct fs,_,_,z⟩=>match cellsF z with
   | some zs=>match fillF T ρ fs.toList zs ps with
    | some l=>some (.agg ⟨l⟩)
    | none=>none
   | none=>none
  | _=>none
 | .makeFunc fn ⟨first⟩ ⟨cap⟩=>match evs ρ first,evs ρ cap with
  | some a,some b=>some (.func fn ⟨a⟩ ⟨b⟩)
  | _,_=>none
 | .call ⟨.builtin .min,⟨[x,y]⟩,_⟩=>match ev ρ x,ev ρ y with
  | some (.int k a),some (.int _ b)=>some (.int k (if b < a then b else a))
  | _,_=>none
 | .call ⟨.builtin .len,⟨[x]⟩,⟨[t]⟩⟩=>match ev ρ x,T.get t with
  | some (.slice _ n _),some ⟨.slice _,_,_,_⟩=>some (.int .i64 (n : Int))
  | some (.string ⟨⟨s⟩⟩),some ⟨.string,_,_,_⟩=>some (.int .i64 (s.length : Int))
  | _,_=>none
 | _=>none
def Agree (a : Act) (ρ : Env) : Prop := ∀ i v,look ρ i=some v→a.tmps[i]? = some v
theorem Agree.eval {a : Act} {ρ : Env} (h : Agree a ρ) {x : Operand} {v : Value} (hx : ev ρ x=some v) : a.eval x=v:=by
 cases x with
 | tmp t =>
  have:=h t v hx
  simp [Act.eval,this]
 | const u=>simpa [ev,Act.eval] using hx
 | global g=>simpa [ev,Act.eval] using hx
 | func f=>simpa [ev,Act.eval] using hx
theorem Agree.evals {a : Act} {ρ : Env} (h : Agree a ρ) : ∀ {xs : List Operand} {vs : List Value},evs ρ xs=some vs→xs.map a.eval=vs
 | [],vs,hx=>by simp [evs] at hx;simp [hx]
 | x :: xs,vs,hx=>by
  simp only [evs,fo_eq] at hx
  split at hx
  ·rename_i y ys h1 h2
   cases hx
   simp [h.eval h1,h.evals h2]
  ·cases hx
theorem Agree.put {a : Act} {ρ : Env} (h : Agree a ρ) {d : Nat} (hd : d < a.tmps.size) (v : Value) : Agree (a.put (some d) v) ((d,v) :: ρ):=by
 intro i u hu
 simp only [look] at hu
 cases hb : Nat.beq d i with
 | true =>
  have : d=i:=Nat.eq_of_beq_eq_true hb
  subst this
  simp only [hb,cond_true,Option.some.injEq] at hu
  subst hu
  simp [Act.put,hd]
 | false =>
  have hne : d ≠ i:=Nat.ne_of_beq_eq_false hb
  simp only [hb,cond_false] at hu
  simp only [Act.put]
  rw [Array.getElem?_setIfInBounds_ne hne]
  exact h i u hu
@[simp] theorem put_size (a : Act) (d : Option Tmp) (v : Value) : (a.put d v).tmps.size=a.tmps.size:=by cases d <;> simp [Act.put]
@[simp] theorem put_defers (a : Act) (d : Option Tmp) (v : Value) : (a.put d v).defers=a.defers:=by cases d <;> rfl
section runs
variable {P : Program} (T : Tab P) (w : World)
theorem Tab.run_underlying {t : TypeId} {i : TI} (h : T.get t=some i) : (underlying t).run P w = .ok i.u w:=by
 obtain ⟨info,_,h2,_⟩:=T.ok t i h
 simp [underlying,h2]
theorem Tab.run_sizeOf {t : TypeId} {i : TI} (h : T.get t=some i) : (sizeOf t).run P w = .ok i.size w:=by
 obtain ⟨info,h1,_,h3,_⟩:=T.ok t i h
 simp [sizeOf,typeInfo,h1,h3]
theorem Tab.run_isAgg {t : TypeId} {i : TI} (h : T.get t=some i) : (Go.isAgg t).run P w = .ok (TypeDesc.isAgg i.u) w:=by
 have hu:=T.run_underlying w h
 simp only [Go.isAgg,Sem.run_bind,hu,Result.andThen_ok]
 cases i.u <;> rfl
theorem Tab.run_zero {t : TypeId} {i : TI} (h : T.get t=some i) : (zeroValue t).run P w = .ok i.zero w:=by
 obtain ⟨info,h1,_,_,_,h5⟩:=T.ok t i h
 simp [zeroValue,typeInfo,h1,h5]
theorem Tab.run_part {t : TypeId} {cs : List Value} {off : Nat} {v : Value} (h : T.part t cs off=some v) : (Go.part t ⟨cs⟩ off).run P w = .ok v w:=by
 unfold Tab.part Tab.isAgg at h
 split at h
 ·rename_i n hi
  split at hi
  ·rename_i i hg
   simp only [Option.some.injEq,Prod.mk.injEq] at hi
   obtain ⟨h1,h2⟩:=hi
   rw [fl_eq] at h
   simp only [Option.some.injEq] at h
   subst h
   simp only [Go.part,Sem.run_bind,T.run_isAgg w hg,T.run_sizeOf w hg,Result.andThen_ok,h1,if_true,h2,Sem.run_pure]
   congr 2
   apply Array.ext'
   rw [Array.toList_extract]
   simp [List.extract_eq_take_drop]
  ·cases hi
 ·rename_i n hi
  split at hi
  ·rename_i i hg
   simp only [Option.some.injEq,Prod.mk.injEq] at hi
   rw [fo_eq] at h
   have hc : (⟨cs⟩ : Array Value)[off]? = some v:=by simpa using h
   simp only [Go.part,Sem.run_bind,T.run_isAgg w hg,Result.andThen_ok,hi.1,Bool.false_eq_true,if_false,hc,Sem.run_pure]
  ·cases hi
 ·cases h
theorem beq_dec {α : Type} [BEq α] [LawfulBEq α] [DecidableEq α] (a b : α) : (a == b)=decide (a=b):=by rw [Bool.eq_iff_iff];simp
theorem toList_mk (s : List UInt8) : (ByteArray.mk ⟨s⟩).toList=s:=by
 rw [ByteArray.toList_eq]
theorem run_bin {op : BinOp} {x y v : Value} (t : TypeId) (X Y : Operand) (h : evalBin op (some x) (some y)=some v) :
  (do eqGuard op t X Y x y;binOp op t x y : Sem Value).run P w = .ok v w:=by
 have hg : (eqGuard op t X Y x y).run P w = .ok () w:=by
  unfold evalBin at h
  split at h <;> first | (cases h;done) | skip
  all_goals
   rename_i e1 e2
   simp only [Option.some.injEq] at e1 e2
   subst e1;subst e2
   cases op <;> simp [eqGuard]
 simp only [Sem.run_bind,hg,Result.andThen_ok]
 unfold evalBin at h
 split at h
 ·rename_i k a k' b e1 e2
  simp only [Option.some.injEq] at e1 e2
  subst e1;subst e2
  cases hk : sameKind k k' with
  | false=>simp [hk] at h
  | true =>
   have:=sameKind_eq hk
   subst this
   simp only [hk,cond_true] at h
   cases op <;> simp only [cmpInt,Option.some.injEq] at h <;> first | (cases h;done) | (subst h;simp [binOp,Op.intCmp,bne];try rw [beq_dec])
 ·rename_i a b e1 e2
  simp only [Option.some.injEq] at e1 e2
  subst e1;subst e2
  cases op <;> simp only [cmpStr,Option.some.injEq] at h <;> first | (cases h;done) | (subst h;simp only [binOp,Op.stringOp,toList_mk,Sem.run_pure,beq_dec])
 ·cases h
theorem foldl_putAt : ∀ (vs cs : List Value) (off k : Nat),((vs.zipIdx k).foldl (fun (a : Array Value) (p : Value × Nat)=>a.setIfInBounds (off + p.2) p.1) ⟨cs⟩) = ⟨putAt cs (off + k) vs⟩
 | [],cs,off,k=>rfl
 | v :: vs,cs,off,k=>by
  simp only [List.zipIdx_cons,List.foldl_cons,putAt]
  have e : (⟨cs⟩ : Array Value).setIfInBounds (off + k) v = ⟨cs.set (off + k) v⟩:=by apply Array.ext';simp
  rw [e,foldl_putAt vs _ off (k + 1),Nat.add_assoc]
theorem run_fill {a : Act} {ρ : Env} (hA : Agree a ρ) (fs : List Field) (place : Nat→Option (Nat × Nat)) (hp : ∀ (i : Nat) (f : Field) (ti : TI),fs[i]? = some f→T.get f.type=some ti→place i=some (f.offset,ti.size)) :
  ∀ (ps : List (Nat × Operand)) (cs l : List Value),fillF T ρ fs cs ps=some l→Instr.fill place ⟨cs⟩ (ps.map fun p=>(p.1,a.eval p.2))=some ⟨l⟩
 | [],cs,l,h=>by
  simp only [fillF,fl_eq,Option.some.injEq] at h;subst h;rfl
 | (i,x) :: r,cs,l,h=>by
  unfold fillF at h
  split at h
  ·rename_i f hf
   split at h
   ·rename_i ti v ht hv
    split at h
    ·rename_i vs hvs
     cases hb : (Nat.beq vs.length ti.size && Nat.ble (f.offset + vs.length) cs.length) with
     | false=>simp [hb] at h
     | true =>
      simp only [hb,cond_true,fl_eq] at h
      simp only [Bool.and_eq_true] at hb
      have h1:=Nat.eq_of_beq_eq_true hb.1
      have h2:=Nat.le_of_ble_eq_true hb.2
      have ih:=run_fill hA fs place hp r _ l h
      have hc:=cellsF_eq hvs
      simp only [List.map_cons,Instr.fill,hp i f ti hf ht,hA.eval hv,hc]
      have hn : ¬ ((⟨vs⟩ : Array Value).size ≠ ti.size ∨ f.offset + (⟨vs⟩ : Array Value).size > (⟨cs⟩ : Array Value).size):=by
       simp;omega
      have e:=foldl_putAt vs cs f.offset 0
      simp only [Nat.add_zero] at e
      have hz : (⟨vs⟩ : Array Value).zipIdx = ⟨vs.zipIdx⟩:=by apply Array.ext';simp
      have e2 : Array.foldl (fun (a : Array Value) (p : Value × Nat)=>a.setIfInBounds (f.offset + p.2) p.1) (⟨cs⟩ : Array Value) (⟨vs⟩ : Array Value).zipIdx = ⟨putAt cs f.offset vs⟩:=by
       rw [← Array.foldl_toList,hz];exact e
      rw [if_neg (by simpa using hn)]
      exact (congrArg (fun z=>Instr.fill place z (r.map fun p=>(p.1,a.eval p.2))) e2).trans ih
    ·cases h
   ·cases h
  ·cases h
theorem run_places (fs : List Field) (w : World) (hall : ∀ f ∈ fs, ∃ i,P.info? f.type=some i) :
  ∃ ps : List (Nat × Nat),(fs.mapM (m:=Sem) fun (f : Field)=>do pure (f.offset,← sizeOf f.type)).run P w = .ok ps w ∧ ∀ (i : Nat) (f : Field) (ti : TI),fs[i]? = some f→T.get f.type=some ti→ps[i]? = some (f.offset,ti.size):=by
 induction fs with
 | nil=>exact ⟨[],rfl,fun i f ti h=>by simp at h⟩
 | cons f fs ih =>
  obtain ⟨ps,h1,h2⟩:=ih fun g hg=>hall g (List.mem_cons_of_mem _ hg)
  obtain ⟨info,hi⟩:=hall f (List.mem_cons_self ..)
  refine ⟨(f.offset,info.size) :: ps, ?_,fun i g ti hg ht => ?_⟩
  ·rw [List.mapM_cons]
   simp only [Sem.run_bind,sizeOf,typeInfo,run_program,Result.andThen_ok,hi,Sem.run_pure] at h1 ⊢
   rw [h1]
   rfl
  ·cases i with
   | zero =>
    simp at hg;subst hg
    obtain ⟨info',k1,_,k3,_⟩:=T.ok _ _ ht
    rw [hi] at k1;cases k1
    simp [k3]
   | succ i =>
    rw [List.getElem?_cons_succ] at hg ⊢
    exact h2 i g ti hg ht
theorem run_fieldAddr {s : TypeId} {b o f n : Nat} {fd : Field} {g : Bool} (hf : T.field s f=some fd) (hn : T.isAgg fd.type=some (g,n + 1)) :
  (Instr.fieldAt s (.pointer (some ⟨b,o,none⟩)) f).run P w = .ok (.pointer (some ⟨b,o + fd.offset,none⟩)) w:=by
 unfold Tab.field at hf
 split at hf
 ·rename_i fs sz by_ z hg
  have hu:=T.run_underlying w hg
  unfold Tab.isAgg at hn
  split at hn
  ·rename_i i hi
   simp only [Option.some.injEq,Prod.mk.injEq] at hn
   have hf' : fs[f]? = some fd:=by simpa using hf
   have hs:=T.run_sizeOf w hi
   have hadd : (⟨b,o,none⟩ : Addr).add fd.offset = ⟨b,o + fd.offset,none⟩:=by
    unfold Addr.add;split <;> simp_all
   simp only [Instr.fieldAt,Sem.run_bind,hu,Result.andThen_ok,hf',Instr.sureAddr,Sem.run_pure,fieldPlace,hs,hn.2,hadd]
   simp
  ·cases hn
 ·cases hf
end runs
theorem evalOp_run {P : Program} (T : Tab P) {a : Act} {ρ : Env} (hA : Agree a ρ) {o : Oper} {v : Value} (h : evalOp T ρ o.op=some v) (w : World) :
  (execOp a.eval o).run P w = .ok (.value v) w:=by
 obtain ⟨dst,op,ty,pos,after,guard⟩:=o
 simp only at h
 unfold evalOp at h
 split at h
 ·rw [fo_eq] at h;simp [execOp,hA.eval h]
 ·rw [fo_eq] at h;simp [execOp,hA.eval h]
 ·split at h
  ·rename_i hc;rw [fo_eq] at h;simp [execOp,hA.eval h,hA.eval hc,asBool]
  ·rename_i hc;rw [fo_eq] at h;simp [execOp,hA.eval h,hA.eval hc,asBool]
  ·cases h
 ·split at h
  ·rename_i hc;cases h;simp [execOp,hA.eval hc]
  ·cases h
 ·split at h
  ·rename_i hx hf
   split at h
   ·rename_i hn
    cases h
    simp only [execOp,hA.eval hx,Sem.run_bind,run_fieldAddr T w hf hn,Result.andThen_ok,Sem.run_pure]
   ·cases h
  ·cases h
 ·split at h
  ·rename_i cs fd hx hf
   have hp:=T.run_part w h
   unfold Tab.field at hf
   split at hf
   ·rename_i fs sz by_ z hg
    have hf' : ∀ k : Nat,fs.toList[k]? = some fd→fs[k]? = some fd:=fun k hk=>by simpa using hk
    have hf':=hf' _ hf
    simp only [execOp,hA.eval hx,Sem.run_bind,Instr.field,T.run_underlying w hg,Result.andThen_ok,hf',asAgg,Sem.run_pure,hp]
   ·cases hf
  ·cases h
 ·split at h
  ·rename_i vs hx
   rw [fo_eq] at h
   have h' : ∀ k : Nat,vs[k]? = some v→(⟨vs⟩ : Array Value)[k]? = some v:=fun k hk=>by simpa using hk
   have h':=h' _ h
   simp only [execOp,hA.eval hx,Sem.run_bind,Instr.extract,h',Sem.run_pure,Result.andThen_ok]
  ·cases h
 ·rename_i bop t x y u
  cases hx : ev ρ x with
  | none=>simp [hx,evalBin] at h
  | some xv =>
   cases hy : ev ρ y with
   | none=>simp [hx,hy,evalBin] at h
   | some yv =>
    rw [hx,hy] at h
    have:=run_bin (P:=P) w t x y h
    simp only [execOp,hA.eval hx,hA.eval hy,Sem.run_bind,Sem.run_pure] at this ⊢
    rw [this];rfl
 ·split at h
  ·rename_i hx;cases h;simp [execOp,hA.eval hx,Op.unary]
  ·cases h
 ·rename_i t ps
  split at h
  ·rename_i fs sz by_ z hg
   split at h
   ·rename_i zs hz
    split at h
    ·rename_i l hl
     simp only [Option.some.injEq] at h;subst h
     have hzv:=T.run_zero w hg
     have hu:=T.run_underlying w hg
     obtain ⟨pl,hp1,hp2⟩:=run_places T fs.toList w (T.fields _ _ hg fs rfl)
     have hfill:=run_fill T hA fs.toList (fun i=>(⟨pl⟩ : Array (Nat × Nat))[i]?) (fun i f ti h1 h2=>by simpa using hp2 i f ti h1 h2) ps zs l hl
     have hmap : (fs.mapM (m:=Sem) fun (f : Field)=>do pure (f.offset,← sizeOf f.type)).run P w = .ok ⟨pl⟩ w:=by
      rw [Array.mapM_eq_mapM_toList,Sem.run_map,hp1];rfl
     have e3 : ((⟨ps⟩ : Array (Nat × Operand)).map fun (p : Nat × Operand)=>(p.1,a.eval p.2)).toList=ps.map fun p=>(p.1,a.eval p.2):=by simp
     simp only [execOp,Instr.build,Sem.run_bind,hzv,hu,Result.andThen_ok,hmap,cellsF_eq hz,e3]
     rw [hfill]
     rfl
    ·cases h
   ·cases h
  ·cases h
 ·split at h
  ·rename_i h1 h2
   cases h
   have e1:=hA.evals h1
   have e2:=hA.evals h2
   simp [execOp,Instr.makeFunc,e1,e2]
  ·cases h
 ·split at h
  ·rename_i hx hy
   cases h
   simp [execOp,resolve,invoke,builtin,Builtin.min_,Builtin.min2,hA.eval hx,hA.eval hy]
  ·cases h
 ·split at h
  ·rename_i hx hg
   cases h
   simp [execOp,resolve,invoke,builtin,Builtin.len_,hA.eval hx,T.run_underlying w hg,goInt]
  ·rename_i hx hg
   cases h
   simp [execOp,resolve,invoke,builtin,Builtin.len_,hA.eval hx,T.run_underlying w hg,goInt]
   rfl
  ·cases h
 ·cases h
end Go.Sep
set_option linter.unusedVariables false
set_option linter.unusedSimpArgs false
namespace Go.Sep
abbrev EPost:=Exit→Env→List Deferred→Mem→List Item→Prop
structure Ok (N : Nat) (ρ : Env) (D : List Deferred) (m : Mem) (L : List Item) (a : Act) (w : World) : Prop where
 size : N ≤ a.tmps.size
 env : Agree a ρ
 defers : a.defers=D
 st : St m w L
def Lift (N : Nat) (Q : EPost) : Exit→Act→World→Prop:=fun e a w => ∃ ρ D m L,Ok N ρ D m L a w∧Q e ρ D m L
def TC (P : Program) (N : Nat) (c : Code) (ρ : Env) (D : List Deferred) (m : Mem) (L : List Item) (Q : EPost) : Prop :=
 ∀ a w,Ok N ρ D m L a w→c.wp P (Lift N Q) a w
def TO (P : Program) (N : Nat) (ops : Array Oper) (l : List Oper) (ρ : Env) (D : List Deferred) (m : Mem) (L : List Item) (Q : EPost) : Prop :=
 ∀ a w,Ok N ρ D m L a w→wpList P ops (Lift N Q) l a w
def OT (P : Program) (N : Nat) (o : Oper) (ρ : Env) (D : List Deferred) (m : Mem) (L : List Item) (Q : EPost) (K : Env→Mem→List Item→Prop) : Prop :=
 ∀ a w,Ok N ρ D m L a w→o.wp P a w (fun a' w' => ∃ ρ' m' L',Ok N ρ' D m' L' a' w' ∧ K ρ' m' L') (Lift N Q)
def TCallX (P : Program) (f : FuncId) (args : Array Value) (m : Mem) (L : List Item) (R : Value→Mem→List Item→Prop) (X : List PanicEntry→Mem→List Item→Prop) : Prop :=
 ∀ w,St m w L→Calls P f args w fun
  | .returned v,w' => ∃ m' L',St m' w' L' ∧ R v m' L'
  | .panicked ch,w' => ∃ m' L',St m' w' L' ∧ X ch m' L'
  | .outgrown,_=>False
def TCall (P : Program) (f : FuncId) (args : Array Value) (m : Mem) (L : List Item) (R : Value→Mem→List Item→Prop) : Prop :=
 TCallX P f args m L R fun _ _ _=>False
@[reducible] def Ret (v : Value) (m : Mem) (L : List Item) : Value→Mem→List Item→Prop:=fun r m' L'=>m=m' ∧ L=L' ∧ r=v
theorem TCallX.mono {P : Program} {f : FuncId} {args : Array Value} {m : Mem} {L : List Item} {R R' : Value→Mem→List Item→Prop} {X X' : List PanicEntry→Mem→List Item→Prop}
  (h : TCallX P f args m L R X) (hr : ∀ v m' L',R v m' L' → R' v m' L') (hx : ∀ ch m' L',X ch m' L' → X' ch m' L') : TCallX P f args m L R' X' :=
 fun w hs=>(h w hs).mono fun e w' he=>by
  cases e with
  | returned v=>obtain ⟨m',L',h1,h2⟩:=he;exact ⟨m',L',h1,hr _ _ _ h2⟩
  | panicked ch=>obtain ⟨m',L',h1,h2⟩:=he;exact ⟨m',L',h1,hx _ _ _ h2⟩
  | outgrown=>exact he
theorem TCall.mono {P : Program} {f : FuncId} {args : Array Value} {m : Mem} {L : List Item} {R R' : Value→Mem→List Item→Prop}
  (h : TCall P f args m L R) (hr : ∀ v m' L',R v m' L' → R' v m' L') : TCall P f args m L R':=TCallX.mono h hr fun _ _ _ h=>h
theorem TCall.x {P : Program} {f : FuncId} {args : Array Value} {m : Mem} {L : List Item} {R R' : Value→Mem→List Item→Prop} {X : List PanicEntry→Mem→List Item→Prop}
  (h : TCall P f args m L R) (hr : ∀ v m' L',R v m' L' → R' v m' L') : TCallX P f args m L R' X:=TCallX.mono h hr fun _ _ _ h=>h.elim
section code
variable {P : Program} {N : Nat} {ρ : Env} {D : List Deferred} {m : Mem} {L : List Item} {Q : EPost}
theorem Lift.mono {Q Q' : EPost} (h : ∀ e ρ D m L,Q e ρ D m L→Q' e ρ D m L) {e : Exit} {a : Act} {w : World} (hl : Lift N Q e a w) : Lift N Q' e a w:=by
 obtain ⟨ρ,D,m,L,h1,h2⟩:=hl
 exact ⟨ρ,D,m,L,h1,h _ _ _ _ _ h2⟩
theorem TC.mono {c : Code} {Q' : EPost} (h : TC P N c ρ D m L Q') (hq : ∀ e ρ D m L,Q' e ρ D m L→Q e ρ D m L) : TC P N c ρ D m L Q :=
 fun a w ha=>wp_mono (h a w ha) fun _ _ _=>Lift.mono hq
def thenQ (K : Env→List Deferred→Mem→List Item→Prop) (Q : EPost) : EPost
 | .normal, ρ,D,m,L=>K ρ D m L
 | e, ρ,D,m,L=>Q e ρ D m L
def blockQ (id : Nat) (Q : EPost) : EPost
 | .exit i, ρ,D,m,L=>if i=id then Q .normal ρ D m L else Q (.exit i) ρ D m L
 | e, ρ,D,m,L=>Q e ρ D m L
theorem thenQ_n {K : Env→List Deferred→Mem→List Item→Prop} (h : K ρ D m L) : thenQ K Q .normal ρ D m L:=h
theorem thenQ_x {K : Env→List Deferred→Mem→List Item→Prop} {i : Nat} (h : Q (.exit i) ρ D m L) : thenQ K Q (.exit i) ρ D m L:=h
theorem thenQ_r {K : Env→List Deferred→Mem→List Item→Prop} (h : Q .ret ρ D m L) : thenQ K Q .ret ρ D m L:=h
theorem blockQ_n {id : Nat} (h : Q .normal ρ D m L) : blockQ id Q .normal ρ D m L:=h
theorem blockQ_r {id : Nat} (h : Q .ret ρ D m L) : blockQ id Q .ret ρ D m L:=h
theorem blockQ_hit {id : Nat} (h : Q .normal ρ D m L) : blockQ id Q (.exit id) ρ D m L:=by simpa [blockQ] using h
theorem blockQ_miss {id i : Nat} (hi : Nat.beq i id=false) (h : Q (.exit i) ρ D m L) : blockQ id Q (.exit i) ρ D m L:=by
 have:=Nat.ne_of_beq_eq_false hi
 simpa [blockQ,this] using h
theorem TC.skip (h : Q .normal ρ D m L) : TC P N .skip ρ D m L Q:=fun _ _ ha=>wp_skip ⟨ρ,D,m,L,ha,h⟩
theorem TC.label {l : Nat} (h : Q .normal ρ D m L) : TC P N (.label l) ρ D m L Q:=fun _ _ ha=>wp_label ⟨ρ,D,m,L,ha,h⟩
theorem TC.exit {id : Nat} (h : Q (.exit id) ρ D m L) : TC P N (.exit id) ρ D m L Q:=fun _ _ ha=>wp_exit ⟨ρ,D,m,L,ha,h⟩
theorem TC.goto {l : Nat} (h : Q (.goto l) ρ D m L) : TC P N (.goto l) ρ D m L Q:=fun _ _ ha=>wp_goto ⟨ρ,D,m,L,ha,h⟩
theorem TC.ret (h : Q .ret ρ D m L) : TC P N .ret ρ D m L Q:=fun _ _ ha=>wp_ret ⟨ρ,D,m,L,ha,h⟩
theorem TC.seq {x y : Code} (h : TC P N x ρ D m L (thenQ (fun ρ D m L=>TC P N y ρ D m L Q) Q)) : TC P N (.seq x y) ρ D m L Q :=
 fun a w ha=>wp_seq (wp_mono (h a w ha) fun e a' w' hl=>by
  obtain ⟨ρ',D',m',L',h1,h2⟩:=hl
  cases e with
  | normal=>exact (show TC P N y ρ' D' m' L' Q from h2) _ _ h1
  | _=>exact ⟨ρ',D',m',L',h1,h2⟩)
theorem TC.block {id : Nat} {c : Code} (h : TC P N c ρ D m L (blockQ id Q)) : TC P N (.block id c) ρ D m L Q :=
 fun a w ha=>wp_block (wp_mono (h a w ha) fun e a' w' hl=>by
  obtain ⟨ρ',D',m',L',h1,h2⟩:=hl
  cases e with
  | exit i =>
   simp only [Exit.inBlock]
   split
   ·rename_i hi;subst hi
    exact ⟨ρ',D',m',L',h1,by simpa [blockQ] using h2⟩
   ·rename_i hi
    exact ⟨ρ',D',m',L',h1,by simpa [blockQ,hi] using h2⟩
  | _=>exact ⟨ρ',D',m',L',h1,h2⟩)
theorem TC.cond {c : Operand} {x y : Code} {t : Bool} (hc : ev ρ c=some (.bool t)) (h1 : t=true→TC P N x ρ D m L Q) (h2 : t=false→TC P N y ρ D m L Q) : TC P N (.cond c x y) ρ D m L Q :=
 fun a w ha=>wp_cond_split (ha.env.eval hc) (fun h=>h1 h a w ha) (fun h=>h2 h a w ha)
theorem TC.cond_t {c : Operand} {x y : Code} (hc : ev ρ c=some (.bool true)) (h1 : TC P N x ρ D m L Q) : TC P N (.cond c x y) ρ D m L Q:=TC.cond hc (fun _=>h1) (fun h=>by cases h)
theorem TC.cond_f {c : Operand} {x y : Code} (hc : ev ρ c=some (.bool false)) (h2 : TC P N y ρ D m L Q) : TC P N (.cond c x y) ρ D m L Q:=TC.cond hc (fun h=>by cases h) (fun _=>h2)
theorem TC.condP {c : Operand} {x y : Code} {p : Prop} [Decidable p] (hc : ev ρ c=some (.bool (decide p))) (h1 : p→TC P N x ρ D m L Q) (h2 : ¬ p→TC P N y ρ D m L Q) : TC P N (.cond c x y) ρ D m L Q :=
 TC.cond hc (fun h=>h1 (of_decide_eq_true h)) (fun h=>h2 (of_decide_eq_false h))
theorem TC.condN {c : Operand} {x y : Code} {p : Prop} [Decidable p] (hc : ev ρ c=some (.bool (!decide p))) (h1 : ¬ p→TC P N x ρ D m L Q) (h2 : p→TC P N y ρ D m L Q) : TC P N (.cond c x y) ρ D m L Q :=
 TC.cond hc (fun h=>h1 (by simpa using h)) (fun h=>h2 (by simpa using h))
theorem TC.region {id : Nat} {l : List Oper} (h : TO P N ⟨l⟩ l ρ D m L Q) : TC P N (.region id ⟨l⟩ false) ρ D m L Q :=
 fun a w ha=>wp_region_lit (l:=l) (h a w ha)
def Sub (ρ ρ' : Env) : Prop := ∀ i v,look ρ' i=some v→look ρ i=some v
theorem Ok.sub {ρ' : Env} {a : Act} {w : World} (h : Ok N ρ D m L a w) (hs : Sub ρ ρ') : Ok N ρ' D m L a w:=⟨h.size,fun i v hv=>h.env i v (hs i v hv),h.defers,h.st⟩
theorem Ok.sublist {L' : List Item} {a : Act} {w : World} (h : Ok N ρ D m L a w) (hs : L'.Sublist L) : Ok N ρ D m L' a w:=⟨h.size,h.env,h.defers,h.st.sub hs⟩
theorem Ok.perm {L' : List Item} {a : Act} {w : World} (h : Ok N ρ D m L a w) (hs : L.Perm L') : Ok N ρ D m L' a w:=⟨h.size,h.env,h.defers,h.st.perm hs⟩
def pickEnv (ρ : Env) : List Nat→Option Env
 | []=>some []
 | k :: ks=>match fo (look ρ k),pickEnv ρ ks with
  | some v,some r=>some ((k,v) :: r)
  | _,_=>none
theorem TC.drop {c : Code} {L' : List Item} (hs : L'.Sublist L) (h : TC P N c ρ D m L' Q) : TC P N c ρ D m L Q:=fun a w ha=>h a w (ha.sublist hs)
theorem TC.perm {c : Code} {L' : List Item} (hs : L.Perm L') (h : TC P N c ρ D m L' Q) : TC P N c ρ D m L Q:=fun a w ha=>h a w (ha.perm hs)
def Has (ρ : Env) : Env→Prop
 | []=>True
 | (i,v) :: r=>look ρ i=some v∧Has ρ r
theorem Has.sub {ρ : Env} : ∀ {ρ' : Env},Has ρ ρ' → Sub ρ ρ'
 | [],_=>fun i v hv=>by cases hv
 | (k,u) :: r,h=>fun i v hv=>by
  simp only [look] at hv
  cases hb : Nat.beq k i with
  | true =>
   have : k=i:=Nat.eq_of_beq_eq_true hb
   subst this
   simp only [hb,cond_true] at hv
   rw [h.1];exact hv
  | false =>
   simp only [hb,cond_false] at hv
   exact h.2.sub i v hv
theorem wp_loop_n {c : Code} {Q : Exit→Act→World→Prop} (I : Nat→Act→World→Prop)
  (round : ∀ n a w,I n a w→c.wp P (Exit.then (fun a' w' => ∃ n',n' < n∧I n' a' w') Q) a w) {n : Nat} {a : Act} {w : World} (h₀ : I n a w) : (Code.loop c).wp P Q a w:=by
 intro b k cs
 have key : ∀ n a w,I n a w →
   ∃ e a' w',Q e a' w' ∧ Arrives P (lone (b.at a (.code c :: .inLoop c :: k)) cs w) b k cs e a' w':=by
  intro n
  induction n using Nat.strongRecOn with
  | _ n ih =>
   intro a w hI
   obtain ⟨e,a₁,w₁,hq,harr⟩:=round n a w hI b (.inLoop c :: k) cs
   cases e with
   | normal =>
    obtain ⟨n',hlt,hI₁⟩:=hq
    obtain ⟨e₂,a₂,w₂,hq₂,harr₂⟩:=ih n' hlt a₁ w₁ hI₁
    exact ⟨e₂,a₂,w₂,hq₂, .of_steps (Steps.trans harr (.one step_inLoop)) harr₂⟩
   | exit id=>exact ⟨_,a₁,w₁,hq, .pass (x := .inLoop c) rfl (fun _ _ => .inl (by simp)) harr⟩
   | goto l=>exact ⟨_,a₁,w₁,hq, .pass (x := .inLoop c) rfl (fun _ _ => .inl (by simp)) harr⟩
   | ret=>exact ⟨_,a₁,w₁,hq, .pass (x := .inLoop c) rfl (fun _ _ => .inl (by simp)) harr⟩
   | panic ch=>exact ⟨_,a₁,w₁,hq, .pass (x := .inLoop c) rfl (fun _ _ => .inl (by simp)) harr⟩
   | outgrown=>exact ⟨_,a₁,w₁,hq, .pass (x := .inLoop c) rfl (fun _ _ => .inl (by simp)) harr⟩
 obtain ⟨e,a',w',hq,harr⟩:=key _ a w h₀
 exact ⟨e,a',w',hq, .of_steps (.one step_loop) harr⟩
theorem TC.loop {ι : Type} {body : Code} (sρ : ι → Env) (sm : ι → Mem) (sL : ι → List Item) (I : ι → Prop) (μ : ι → Nat) (x0 : ι)
  (h0 : Has ρ (sρ x0)) (hm0 : m=sm x0) (hL0 : (sL x0).Sublist L) (hI0 : I x0)
  (round : ∀ x,I x→TC P N body (sρ x) D (sm x) (sL x) (thenQ (fun ρ' D' m' L' => ∃ x',Has ρ' (sρ x')∧D' = D∧m' = sm x' ∧ (sL x').Sublist L' ∧ I x' ∧ μ x' < μ x) Q)) :
  TC P N (.loop body) ρ D m L Q:=by
 intro a w ha
 refine wp_loop_n (fun n a w => ∃ x,Ok N (sρ x) D (sm x) (sL x) a w∧I x ∧ μ x=n) ?_ (n := μ x0) ⟨x0, ?_,hI0,rfl⟩
 ·rintro n a w ⟨x,hx,hI,rfl⟩
  refine wp_mono (round x hI a w hx) fun e a' w' hl => ?_
  obtain ⟨ρ',D',m',L',h1,h2⟩:=hl
  cases e with
  | normal =>
   obtain ⟨x',k1,k2,k3,k4,k5,k6⟩:=h2
   subst k2;subst k3
   exact ⟨μ x',k6,x',(h1.sub k1.sub).sublist k4,k5,rfl⟩
  | _=>exact ⟨ρ',D',m',L',h1,h2⟩
 ·subst hm0
  exact (ha.sub h0.sub).sublist hL0
theorem Has.append {ρ : Env} : ∀ {a b : Env},Has ρ a→Has ρ b→Has ρ (a++b)
 | [],_,_,h=>h
 | (_,_) :: _,_,h1,h2=>⟨h1.1,Has.append h1.2 h2⟩
theorem pickEnv_has {ρ : Env} : ∀ {ks : List Nat} {ρ' : Env},pickEnv ρ ks=some ρ' → Has ρ ρ'
 | [], ρ',h=>by simp only [pickEnv,Option.some.injEq] at h;subst h;trivial
 | k :: ks, ρ',h=>by
  simp only [pickEnv,fo_eq] at h
  split at h
  ·rename_i v r h1 h2
   simp only [Option.some.injEq] at h
   subst h
   exact ⟨h1,pickEnv_has h2⟩
  ·cases h
theorem TC.loopK {ι : Type} {body : Code} (ks : List Nat) {ρc : Env} (hk : pickEnv ρ ks=some ρc) (sρ : ι → Env) (sm : ι → Mem) (sL : ι → List Item) (I : ι → Prop) (μ : ι → Nat) (x0 : ι)
  (h0 : Has ρ (sρ x0)) (hm0 : m=sm x0) (hL0 : (sL x0).Sublist L) (hI0 : I x0)
  (round : ∀ x,I x→TC P N body (sρ x ++ ρc) D (sm x) (sL x) (thenQ (fun ρ' D' m' L' => ∃ x',Has ρ' (sρ x')∧Has ρ' ρc∧D' = D∧m' = sm x' ∧ (sL x').Sublist L' ∧ I x' ∧ μ x' < μ x) Q)) :
  TC P N (.loop body) ρ D m L Q :=
 TC.loop (fun x=>sρ x ++ ρc) sm sL I μ x0 (h0.append (pickEnv_has hk)) hm0 hL0 hI0 fun x hx=>(round x hx).mono fun e ρ' D' m' L' h=>by
  cases e with
  | normal =>
   obtain ⟨x',h1,h2,h3⟩:=(show ∃ x',Has ρ' (sρ x')∧Has ρ' ρc∧_ from h)
   exact (show ∃ x',_ from ⟨x',h1.append h2,h3⟩)
  | _=>exact h
theorem TC.cut {ι : Type} {x y : Code} (ks : List Nat) {ρc : Env} (hk : pickEnv ρ ks=some ρc) (sρ : ι → Env) (sm : ι → Mem) (sL : ι → List Item) (I : ι → Prop)
  (hx : TC P N x ρ D m L (thenQ (fun ρ' D' m' L' => ∃ i,Has ρ' (sρ i)∧Has ρ' ρc∧D' = D∧m' = sm i∧(sL i).Sublist L' ∧ I i) Q))
  (hy : ∀ i,I i→TC P N y (sρ i ++ ρc) D (sm i) (sL i) Q) : TC P N (.seq x y) ρ D m L Q :=
 TC.seq (hx.mono fun e ρ' D' m' L' h=>by
  cases e with
  | normal =>
   obtain ⟨i,h1,h2,h3,h4,h5,h6⟩:=(show ∃ i,Has ρ' (sρ i)∧Has ρ' ρc∧_ from h)
   subst h3;subst h4
   exact (show TC P N y ρ' D' (sm i) L' Q from fun a w ha=>hy i h6 a w ((ha.sub (h1.append h2).sub).sublist h5))
  | _=>exact h)
def argEnv : List Value→Nat→Env
 | [],_=>[]
 | v :: vs,i=>(i,v) :: argEnv vs (i + 1)
theorem look_argEnv : ∀ (vs : List Value) (i j : Nat) (v : Value),look (argEnv vs i) j=some v→i ≤ j∧vs[j - i]? = some v
 | [],i,j,v,h=>by cases h
 | u :: us,i,j,v,h=>by
  simp only [argEnv,look] at h
  cases hb : Nat.beq i j with
  | true =>
   have : i=j:=Nat.eq_of_beq_eq_true hb
   subst this
   simp only [hb,cond_true,Option.some.injEq] at h
   subst h
   simp
  | false =>
   have hne : i ≠ j:=Nat.ne_of_beq_eq_false hb
   simp only [hb,cond_false] at h
   obtain ⟨h1,h2⟩:=look_argEnv us (i + 1) j v h
   refine ⟨by omega, ?_⟩
   rw [show j - i=(j - (i + 1)) + 1 by omega,List.getElem?_cons_succ]
   exact h2
def resEnv (ρ : Env) : List ResultVar→Option (List Value)
 | []=>some []
 | .tmp t :: r=>match fo (look ρ t),resEnv ρ r with
  | some v,some vs=>some (v :: vs)
  | _,_=>none
 | .cell _ _ :: _=>none
def resVal (ρ : Env) (rs : Array ResultVar) : Option Value :=
 match rs with
 | ⟨l⟩=>match resEnv ρ l with
  | some [v]=>some v
  | some vs=>some (.tuple ⟨vs⟩)
  | none=>none
theorem resEnv_run {P : Program} {a : Act} {ρ : Env} (hA : Agree a ρ) (w : World) (f : ResultVar→Sem Value) (hf : ∀ t,f (.tmp t)=pure (a.tmps.getD t undef)) :
  ∀ {l : List ResultVar} {vs : List Value},resEnv ρ l=some vs→(l.mapM f).run P w = .ok vs w
 | [],vs,h=>by simp only [resEnv,Option.some.injEq] at h;subst h;rfl
 | .tmp t :: r,vs,h=>by
  simp only [resEnv,fo_eq] at h
  split at h
  ·rename_i v us h1 h2
   simp only [Option.some.injEq] at h
   subst h
   have h3:=resEnv_run (P:=P) hA w f hf h2
   have h4:=hA t v h1
   rw [List.mapM_cons]
   simp only [Sem.run_bind,hf,Sem.run_pure,Result.andThen_ok,h3]
   simp [h4]
  ·cases h
 | .cell _ _ :: _,vs,h=>by simp [resEnv] at h
theorem resVal_run {P : Program} {a : Act} {ρ : Env} (hA : Agree a ρ) (w : World) {fn : Func} {v : Value} (h : resVal ρ fn.results=some v) : (results fn a.tmps).run P w = .ok v w:=by
 unfold resVal at h
 split at h
 rename_i l hl
 have key : ∀ vs,resEnv ρ l=some vs→(results fn a.tmps).run P w = .ok (if h : (⟨vs⟩ : Array Value).size=1 then (⟨vs⟩ : Array Value)[0] else .tuple ⟨vs⟩) w:=fun vs hv=>by
  unfold results
  rw [hl,Array.mapM_eq_mapM_toList]
  simp only [Sem.run_bind,Sem.run_map,Sem.run_pure]
  rw [resEnv_run (P:=P) hA w _ (fun _=>rfl) hv]
  rfl
 split at h
 ·rename_i u hr
  simp only [Option.some.injEq] at h;subst h
  have:=key _ hr
  simpa using this
 ·rename_i vs hne hr
  simp only [Option.some.injEq] at h;subst h
  rw [key _ hr,dif_neg]
  intro hs
  match vs,hs with
  | [u],_=>exact hne u rfl
 ·cases h
def ResIs (P : Program) (fn : Func) (ρ : Env) (m : Mem) (L : List Item) (v : Value) : Prop := ∀ (a : Act) (w : World),Agree a ρ → St m w L→(results fn a.tmps).run P w = .ok v w
def retQ (P : Program) (fn : Func) (R : Value→Mem→List Item→Prop) (X : List PanicEntry→Mem→List Item→Prop) : EPost
 | .normal, ρ,D,m,L | .ret, ρ,D,m,L=>D=[] ∧ ∃ v L',ResIs P fn ρ m L v∧L'.Sublist L∧R v m L'
 | .panic ch,_,D,m,L=>D=[] ∧ ∃ L',L'.Sublist L∧X ch m L'
 | _,_,_,_,_=>False
theorem retQ_ret {P : Program} {fn : Func} {R : Value→Mem→List Item→Prop} {X : List PanicEntry→Mem→List Item→Prop} {v : Value} {L' : List Item} (hv : resVal ρ fn.results=some v) (hs : L'.Sublist L) (h : R v m L') : retQ P fn R X .ret ρ [] m L:=⟨rfl,v,L',fun _ w hA _=>resVal_run hA w hv,hs,h⟩
theorem retQ_n {P : Program} {fn : Func} {R : Value→Mem→List Item→Prop} {X : List PanicEntry→Mem→List Item→Prop} {v : Value} {L' : List Item} (hv : resVal ρ fn.results=some v) (hs : L'.Sublist L) (h : R v m L') : retQ P fn R X .normal ρ [] m L:=⟨rfl,v,L',fun _ w hA _=>resVal_run hA w hv,hs,h⟩
theorem TCallX.enter {P : Program} {f : FuncId} {fn : Func} {c : Code} {vs : List Value} {m : Mem} {L : List Item} {R : Value→Mem→List Item→Prop} {X : List PanicEntry→Mem→List Item→Prop}
  (hf : P.funcs[f]? = some fn) (hb : fn.body=some c) (N : Nat) (hN : Nat.ble N fn.ntmps=true) (h : TC P N c (argEnv vs 0) [] m L (retQ P fn R X)) : TCallX P f ⟨vs⟩ m L R X:=by
 intro w hs
 refine calls_of_wp hf hb (wp_mono (h { tmps:=⟨vs⟩ ++ Array.replicate (fn.ntmps - (⟨vs⟩ : Array Value).size) undef,defers:=[] } w ⟨?_, ?_,rfl,hs⟩) fun e a' w' hl => ?_)
 ·have:=Nat.le_of_ble_eq_true hN
  simp
  omega
 ·intro i v hv
  have:=(look_argEnv vs 0 i v hv).2
  have hi : i < vs.length:=by have:=(List.getElem?_eq_some_iff.1 this).1;simpa using this
  have h2 : vs[i]? = some v:=by simpa using this
  rw [Array.getElem?_append_left (by simpa using hi)]
  simpa using h2
 ·obtain ⟨ρ',D',m',L',h1,h2⟩:=hl
  cases e with
  | normal =>
   obtain ⟨hD,v,L2,hv,hs2,hR⟩:=h2
   exact ⟨h1.defers.trans hD,v,hv _ _ h1.env h1.st,m',L2,h1.st.sub hs2,hR⟩
  | ret =>
   obtain ⟨hD,v,L2,hv,hs2,hR⟩:=h2
   exact ⟨h1.defers.trans hD,v,hv _ _ h1.env h1.st,m',L2,h1.st.sub hs2,hR⟩
  | panic ch =>
   obtain ⟨hD,L2,hs2,hX⟩:=h2
   exact ⟨h1.defers.trans hD,m',L2,h1.st.sub hs2,hX⟩
  | exit i=>exact h2.elim
  | goto i=>exact h2.elim
  | outgrown=>exact h2.elim
end code
end Go.Sep
set_option linter.unusedVariables false
set_option linter.unusedSimpArgs false
namespace Go.Sep
def gv (full : List Oper) (ρ : Env) (o : Oper) : Option Bool :=
 match o.guard with
 | none=>some true
 | some (j,want)=>match full[j]? with
  | some oj=>match oj.dst with
   | some d=>match look ρ d with
    | some (.bool true)=>some want
    | some (.bool false)=>some (!want)
    | some (.tuple _)=>some false
    | _=>none
   | none=>none
  | none=>none
def gslot (full : List Oper) (o : Oper) : Option Nat :=
 match o.guard with
 | none=>none
 | some (j,_)=>match full[j]? with
  | some oj=>oj.dst
  | none=>none
theorem gv_wanted {full : List Oper} {ρ : Env} {o : Oper} {b : Bool} (h : gv full ρ o=some b) {a : Act} (hA : Agree a ρ) : Region.wanted o (yielded ⟨full⟩ a.tmps)=b:=by
 unfold gv at h
 unfold Region.wanted
 split at h
 ·rename_i hg;rw [hg];simpa using h
 ·rename_i j want hg
  rw [hg]
  simp only
  split at h
  ·rename_i oj hj
   split at h
   ·rename_i d hd
    have hy : ∀ c,look ρ d=some (.bool c)→yielded ⟨full⟩ a.tmps j=some c:=fun c hc=>by
     have:=hA d _ hc
     simp [yielded,hj,hd,this]
    split at h
    ·rename_i hl;rw [hy _ hl];simp only [Option.some.injEq] at h;subst h;cases want <;> rfl
    ·rename_i hl;rw [hy _ hl];simp only [Option.some.injEq] at h;subst h;cases want <;> rfl
    ·rename_i vs hl
     have:=hA d _ hl
     have hn : yielded ⟨full⟩ a.tmps j=none:=by simp [yielded,hj,hd,this]
     rw [hn];simp only [Option.some.injEq] at h;subst h;rfl
    ·cases h
   ·cases h
  ·cases h
inductive PR where
 | go (ρ : Env) (l : List Oper)
def gok (B : Nat) (o : Oper) : Bool :=
 match o.guard with
 | none=>true
 | some (j,_)=>Nat.blt j B
def runPure {P : Program} (T : Tab P) (N : Nat) (full : List Oper) (B : Nat) : List Oper→Env→PR
 | [], ρ => .go ρ []
 | o :: r, ρ=>bif gok B o then (match gv full ρ o with
  | some true=>match o.dst with
   | some d=>bif Nat.blt d N then (match evalOp T ρ o.op with
     | some v=>runPure T N full B r ((d,v) :: ρ)
     | none => .go ρ (o :: r)) else .go ρ (o :: r)
   | none => .go ρ (o :: r)
  | some false=>match o.dst with
   | some d=>bif Nat.blt d N then runPure T N full B r ((d,undef) :: ρ) else .go ρ (o :: r)
   | none=>runPure T N full B r ρ
  | none => .go ρ (o :: r)) else .go ρ (o :: r)
section
variable {P : Program} {N : Nat} {ρ : Env} {D : List Deferred} {m : Mem} {L : List Item} {Q : EPost} {full : List Oper}
theorem Ok.put {a : Act} {w : World} (h : Ok N ρ D m L a w) {d : Nat} (hd : Nat.blt d N=true) (v : Value) : Ok N ((d,v) :: ρ) D m L (a.put (some d) v) w:=by
 have h1 : d < N:=by simpa [Nat.blt_eq] using hd
 exact ⟨by simpa using h.size,h.env.put (Nat.lt_of_lt_of_le h1 h.size) v,by simpa using h.defers,h.st⟩
theorem TO.nil {ops : Array Oper} (h : Q .normal ρ D m L) : TO P N ops [] ρ D m L Q:=fun _ _ ha=>⟨ρ,D,m,L,ha,h⟩
theorem wpList_yes {ops : Array Oper} {R : Exit→Act→World→Prop} {o : Oper} {rest : List Oper} {a : Act} {w : World} (hw : Region.wanted o (yielded ops a.tmps)=true)
  (h : o.wp P a w (wpList P ops R rest) R) : wpList P ops R (o :: rest) a w:=by
 unfold wpList;rw [if_pos hw];exact .inl h
theorem wpList_no {ops : Array Oper} {R : Exit→Act→World→Prop} {o : Oper} {rest : List Oper} {a : Act} {w : World} (hw : Region.wanted o (yielded ops a.tmps)=false)
  (h : wpList P ops R rest (a.put o.dst undef) w) : wpList P ops R (o :: rest) a w:=by
 unfold wpList;rw [if_neg (by simp [hw])];exact h
theorem TO.pure (T : Tab P) (B : Nat) : ∀ (l : List Oper) (ρ : Env) {ρ' : Env} {l' : List Oper},runPure T N full B l ρ = .go ρ' l' → TO P N ⟨full⟩ l' ρ' D m L Q→TO P N ⟨full⟩ l ρ D m L Q
 | [], ρ, ρ',l',h,k=>by
  simp only [runPure,PR.go.injEq] at h
  obtain ⟨rfl,rfl⟩:=h;exact k
 | o :: r, ρ, ρ',l',h,k=>by
  unfold runPure at h
  cases hgk : gok B o with
  | false=>simp only [hgk,cond_false,PR.go.injEq] at h;obtain ⟨rfl,rfl⟩:=h;exact k
  | true =>
  simp only [hgk,cond_true] at h
  split at h
  ·rename_i hg
   split at h
   ·rename_i d hd
    cases hb : Nat.blt d N with
    | false=>simp only [hb,cond_false,PR.go.injEq] at h;obtain ⟨rfl,rfl⟩:=h;exact k
    | true =>
     simp only [hb,cond_true] at h
     split at h
     ·rename_i v hv
      have ih:=TO.pure T B r _ h k
      intro a w ha
      refine wpList_yes (gv_wanted hg ha.env) ?_
      simp only [Oper.wp,evalOp_run T ha.env hv w,Oper.upon,hd]
      exact ih _ _ (ha.put hb v)
     ·simp only [PR.go.injEq] at h;obtain ⟨rfl,rfl⟩:=h;exact k
   ·simp only [PR.go.injEq] at h;obtain ⟨rfl,rfl⟩:=h;exact k
  ·rename_i hg
   split at h
   ·rename_i d hd
    cases hb : Nat.blt d N with
    | false=>simp only [hb,cond_false,PR.go.injEq] at h;obtain ⟨rfl,rfl⟩:=h;exact k
    | true =>
     simp only [hb,cond_true] at h
     have ih:=TO.pure T B r _ h k
     intro a w ha
     refine wpList_no (gv_wanted hg ha.env) ?_
     rw [hd]
     exact ih _ _ (ha.put hb undef)
   ·rename_i hd
    have ih:=TO.pure T B r _ h k
    intro a w ha
    refine wpList_no (gv_wanted hg ha.env) ?_
    rw [hd]
    exact ih _ _ ha
  ·simp only [PR.go.injEq] at h;obtain ⟨rfl,rfl⟩:=h;exact k
theorem TO.pureP (T : Tab P) {l : List Oper} {ρ : Env} {ρ' : Env} {l' : List Oper} (h : runPure T N full (full.length - l.length) l ρ = .go ρ' l') (hp : Nat.blt l'.length l.length=true)
  (k : TO P N ⟨full⟩ l' ρ' D m L Q) : TO P N ⟨full⟩ l ρ D m L Q:=TO.pure T _ l ρ h k
theorem TO.step {o : Oper} {rest : List Oper} (hg : gv full ρ o=some true) (h : OT P N o ρ D m L Q (fun ρ' m' L'=>TO P N ⟨full⟩ rest ρ' D m' L' Q)) : TO P N ⟨full⟩ (o :: rest) ρ D m L Q :=
 fun a w ha=>wpList_yes (gv_wanted hg ha.env) (Oper.wp_mono (fun a' w' hl=>by
  obtain ⟨ρ',m',L',h1,h2⟩:=hl
  exact h2 _ _ h1) (h a w ha))
theorem Ok.setKnown {a : Act} {w : World} (h : Ok N ρ D m L a w) {d : Nat} {v : Value} (hl : look ρ d=some v) : Ok N ((d,v) :: ρ) D m L a w:=by
 refine ⟨h.size,fun i u hu => ?_,h.defers,h.st⟩
 simp only [look] at hu
 cases hb : Nat.beq d i with
 | true =>
  have : d=i:=Nat.eq_of_beq_eq_true hb
  subst this
  simp only [hb,cond_true] at hu
  exact h.env d u (hl.trans hu)
 | false=>simp only [hb,cond_false] at hu;exact h.env i u hu
theorem TO.split {o : Oper} {rest : List Oper} {d : Nat} {b : Bool} (hg : gslot full o=some d) (hl : look ρ d=some (.bool b))
  (h1 : b=true→TO P N ⟨full⟩ (o :: rest) ((d, .bool true) :: ρ) D m L Q) (h2 : b=false→TO P N ⟨full⟩ (o :: rest) ((d, .bool false) :: ρ) D m L Q) : TO P N ⟨full⟩ (o :: rest) ρ D m L Q:=by
 intro a w ha
 cases b with
 | true=>exact h1 rfl a w (ha.setKnown hl)
 | false=>exact h2 rfl a w (ha.setKnown hl)
theorem TO.splitP {o : Oper} {rest : List Oper} {d : Nat} {p : Prop} [Decidable p] (hg : gslot full o=some d) (hl : look ρ d=some (.bool (decide p)))
  (h1 : p→TO P N ⟨full⟩ (o :: rest) ((d, .bool true) :: ρ) D m L Q) (h2 : ¬ p→TO P N ⟨full⟩ (o :: rest) ((d, .bool false) :: ρ) D m L Q) : TO P N ⟨full⟩ (o :: rest) ρ D m L Q :=
 TO.split hg hl (fun h=>h1 (of_decide_eq_true h)) (fun h=>h2 (of_decide_eq_false h))
theorem TO.splitN {o : Oper} {rest : List Oper} {d : Nat} {p : Prop} [Decidable p] (hg : gslot full o=some d) (hl : look ρ d=some (.bool (!decide p)))
  (h1 : ¬ p→TO P N ⟨full⟩ (o :: rest) ((d, .bool true) :: ρ) D m L Q) (h2 : p→TO P N ⟨full⟩ (o :: rest) ((d, .bool false) :: ρ) D m L Q) : TO P N ⟨full⟩ (o :: rest) ρ D m L Q :=
 TO.split hg hl (fun h=>h1 (by simpa using h)) (fun h=>h2 (by simpa using h))
theorem TO.drop {l : List Oper} {L' : List Item} (hs : L'.Sublist L) (h : TO P N ⟨full⟩ l ρ D m L' Q) : TO P N ⟨full⟩ l ρ D m L Q:=fun a w ha=>h a w (ha.sublist hs)
theorem TO.perm {l : List Oper} {L' : List Item} (hs : L.Perm L') (h : TO P N ⟨full⟩ l ρ D m L' Q) : TO P N ⟨full⟩ l ρ D m L Q:=fun a w ha=>h a w (ha.perm hs)
theorem TO.conv {l : List Oper} {d : Nat} {v v' : Value} (h : TO P N ⟨full⟩ l ((d,v') :: ρ) D m L Q) (he : v=v') : TO P N ⟨full⟩ l ((d,v) :: ρ) D m L Q:=by subst he;exact h
variable {o : Oper} {K : Env→Mem→List Item→Prop}
theorem OT.run {d : Nat} {v : Value} {m' : Mem} {L' : List Item} (hd : o.dst=some d) (hN : Nat.blt d N=true)
  (h : ∀ a w,Ok N ρ D m L a w → ∃ w',(execOp a.eval o).run P w = .ok (.value v) w' ∧ St m' w' L') (hK : K ((d,v) :: ρ) m' L') : OT P N o ρ D m L Q K:=by
 intro a w ha
 obtain ⟨w',hr,hs⟩:=h a w ha
 simp only [Oper.wp,hr,Oper.upon]
 refine ⟨_,_,_, ?_,hK⟩
 rw [hd]
 have:=ha.put hN v
 exact ⟨this.size,this.env,this.defers,hs⟩
theorem OT.run0 {m' : Mem} {L' : List Item} (hd : o.dst=none)
  (h : ∀ a w,Ok N ρ D m L a w → ∃ w',(execOp a.eval o).run P w = .ok .skip w' ∧ St m' w' L') (hK : K ρ m' L') : OT P N o ρ D m L Q K:=by
 intro a w ha
 obtain ⟨w',hr,hs⟩:=h a w ha
 simp only [Oper.wp,hr,Oper.upon]
 refine ⟨_,_,_, ?_,hK⟩
 rw [hd]
 exact ⟨ha.size,ha.env,ha.defers,hs⟩
def takeF : Nat→List Value→Option (List Value)
 | 0,_=>some []
 | n + 1,x :: xs=>match fo (some x),takeF n xs with
  | some y,some ys=>some (y :: ys)
  | _,_=>none
 | _ + 1,[]=>none
theorem takeF_eq : ∀ {n : Nat} {l r : List Value},takeF n l=some r→r=l.take n∧r.length=n
 | 0,l,r,h=>by simp only [takeF,Option.some.injEq] at h;subst h;simp
 | n + 1,[],r,h=>by simp [takeF] at h
 | n + 1,x :: xs,r,h=>by
  simp only [takeF,fo_eq] at h
  split at h
  ·rename_i y ys h1 h2
   simp only [Option.some.injEq] at h h1
   subst h1;subst h
   obtain ⟨h3,h4⟩:=takeF_eq h2
   simp [h3]
   subst h3
   simpa using h4
  ·cases h
def Tab.load {P : Program} (T : Tab P) (t : TypeId) (cs : List Value) (k : Nat) : Option Value :=
 match T.isAgg t with
 | some (true,n)=>match takeF n (cs.drop k) with
  | some l=>some (.agg ⟨l⟩)
  | none=>none
 | some (false,_)=>fo cs[k]?
 | none=>none
def Cells (w : World) (b off : Nat) (cs : List Value) : Prop := ∀ j v,cs[j]? = some v→w.cell? ⟨b,off + j,none⟩ = some v
theorem addr_add (b o k : Nat) : (⟨b,o,none⟩ : Addr).add k = ⟨b,o + k,none⟩:=by unfold Addr.add;split <;> simp_all
theorem isAgg_get {T : Tab P} {t : TypeId} {g : Bool} {n : Nat} (h : T.isAgg t=some (g,n)) : ∃ i,T.get t=some i∧TypeDesc.isAgg i.u=g∧i.size=n:=by
 unfold Tab.isAgg at h
 split at h
 ·rename_i i hi
  simp only [Option.some.injEq,Prod.mk.injEq] at h
  exact ⟨i,hi,h.1,h.2⟩
 ·cases h
theorem run_loadVar (T : Tab P) {w : World} {b off k : Nat} {cs : List Value} {t : TypeId} {v : Value} (hc : Cells w b off cs) (h : T.load t cs k=some v) :
  (loadVar t ⟨b,off + k,none⟩).run P w = .ok v w:=by
 unfold Tab.load at h
 split at h
 ·rename_i n hi
  obtain ⟨i,hg,h1,h2⟩:=isAgg_get hi
  split at h
  ·rename_i l hl
   simp only [Option.some.injEq] at h;subst h
   obtain ⟨h3,h4⟩:=takeF_eq hl
   have hr:=run_loadCells_list (P:=P) w ⟨b,off + k,none⟩ l (fun j v hv=>by
    rw [addr_add,Nat.add_assoc]
    refine hc _ _ ?_
    rw [h3,List.getElem?_take] at hv
    split at hv
    ·rwa [List.getElem?_drop] at hv
    ·cases hv)
   rw [h4] at hr
   simp only [loadVar,Sem.run_bind,T.run_isAgg w hg,T.run_sizeOf w hg,Result.andThen_ok,h1,if_true,h2,hr,Sem.run_pure]
  ·cases h
 ·rename_i n hi
  obtain ⟨i,hg,h1,h2⟩:=isAgg_get hi
  rw [fo_eq] at h
  have:=hc k v h
  simp only [loadVar,Sem.run_bind,T.run_isAgg w hg,Result.andThen_ok,h1,Bool.false_eq_true,if_false]
  simp [this]
 ·cases h
theorem St.cells {w : World} {i b off : Nat} {vs : List Value} (h : St m w L) (hi : L[i]? = some (.cells b off vs)) : Cells w b off vs:=fun j v hv =>
 (h.items _ (List.mem_of_getElem? hi) j v hv).1
theorem St.at_cells {w : World} {b off : Nat} {vs : List Value} (h : St m w L) (hi : At m b off vs) : Cells w b off vs:=fun j v hv=>h.c _ _ _ (hi j v hv)
theorem OT.loadC (T : Tab P) {x : Operand} {t : TypeId} {b off k d : Nat} {cs : List Value} {v : Value} (ho : o.op = .load t x) (hd : o.dst=some d) (hN : Nat.blt d N=true)
  (hx : ev ρ x=some (.pointer (some ⟨b,off + k,none⟩))) (hc : ∀ w,St m w L→Cells w b off cs) (hv : T.load t cs k=some v) (hK : K ((d,v) :: ρ) m L) : OT P N o ρ D m L Q K :=
 OT.run hd hN (fun a w ha=>⟨w,by
  have:=run_loadVar T (hc w ha.st) hv
  simp only [execOp,ho,ha.env.eval hx,Sem.run_bind,Instr.loadAt,Instr.sureAddr,Sem.run_pure,Result.andThen_ok,this],ha.st⟩) hK
theorem OT.loadL (T : Tab P) (i : Nat) {x : Operand} {t : TypeId} {b off k d : Nat} {cs : List Value} {v : Value} (ho : o.op = .load t x) (hd : o.dst=some d) (hN : Nat.blt d N=true)
  (hx : ev ρ x=some (.pointer (some ⟨b,off + k,none⟩))) (hi : L[i]? = some (.cells b off cs)) (hv : T.load t cs k=some v) (hK : K ((d,v) :: ρ) m L) : OT P N o ρ D m L Q K :=
 OT.loadC T ho hd hN hx (fun _ h=>h.cells hi) hv hK
theorem OT.loadL0 (T : Tab P) (i : Nat) {x : Operand} {t : TypeId} {b off d : Nat} {cs : List Value} {v : Value} (ho : o.op = .load t x) (hd : o.dst=some d) (hN : Nat.blt d N=true)
  (hx : ev ρ x=some (.pointer (some ⟨b,off,none⟩))) (hi : L[i]? = some (.cells b off cs)) (hv : T.load t cs 0=some v) (hK : K ((d,v) :: ρ) m L) : OT P N o ρ D m L Q K :=
 OT.loadC (k:=0) T ho hd hN hx (fun _ h=>h.cells hi) hv hK
theorem OT.loadA (T : Tab P) {x : Operand} {t : TypeId} {b off k d : Nat} {cs : List Value} {v : Value} (hi : At m b off cs) (ho : o.op = .load t x) (hd : o.dst=some d) (hN : Nat.blt d N=true)
  (hx : ev ρ x=some (.pointer (some ⟨b,off + k,none⟩))) (hv : T.load t cs k=some v) (hK : K ((d,v) :: ρ) m L) : OT P N o ρ D m L Q K :=
 OT.loadC T ho hd hN hx (fun _ h=>h.at_cells hi) hv hK
theorem OT.loadA0 (T : Tab P) {x : Operand} {t : TypeId} {b off d : Nat} {cs : List Value} {v : Value} (hi : At m b off cs) (ho : o.op = .load t x) (hd : o.dst=some d) (hN : Nat.blt d N=true)
  (hx : ev ρ x=some (.pointer (some ⟨b,off,none⟩))) (hv : T.load t cs 0=some v) (hK : K ((d,v) :: ρ) m L) : OT P N o ρ D m L Q K :=
 OT.loadC (k:=0) T ho hd hN hx (fun _ h=>h.at_cells hi) hv hK
theorem OT.box {x : Operand} {t : TypeId} {d : Nat} {v : Value} {cs : List Value} (ho : o.op = .box t x) (hd : o.dst=some d) (hN : Nat.blt d N=true)
  (hx : ev ρ x=some v) (hv : cellsF v=some cs) (hK : ∀ b,K ((d, .pointer (some ⟨b,0,none⟩)) :: ρ) m (.cells b 0 cs :: L)) : OT P N o ρ D m L Q K:=by
 intro a w ha
 have hr : (execOp a.eval o).run P w = .ok (.value (.pointer (some ⟨w.heap.size,0,none⟩))) (w.alloc (.cells ⟨cs⟩ t)):=by
  simp only [execOp,ho,ha.env.eval hx,Instr.box,newVar,newRow,cellsF_eq hv,Sem.run_bind,Sem.run_pure,run_newObj,Result.andThen_ok,World.alloc_eq]
 simp only [Oper.wp,hr,Oper.upon,hd]
 have hp:=ha.put hN (.pointer (some ⟨w.heap.size,0,none⟩))
 exact ⟨_,_,_,⟨hp.size,hp.env,hp.defers,ha.st.allocCells ⟨cs⟩ t⟩,hK _⟩
def Tab.zeroCells {P : Program} (T : Tab P) (t : TypeId) : Option (List Value) :=
 match T.get t with
 | some i=>cellsF i.zero
 | none=>none
theorem OT.alloc (T : Tab P) {t : TypeId} {d : Nat} {cs : List Value} (ho : o.op = .alloc t) (hd : o.dst=some d) (hN : Nat.blt d N=true)
  (hv : T.zeroCells t=some cs) (hK : ∀ b,K ((d, .pointer (some ⟨b,0,none⟩)) :: ρ) m (.cells b 0 cs :: L)) : OT P N o ρ D m L Q K:=by
 intro a w ha
 unfold Tab.zeroCells at hv
 split at hv
 ·rename_i i hi
  have hr : (execOp a.eval o).run P w = .ok (.value (.pointer (some ⟨w.heap.size,0,none⟩))) (w.alloc (.cells ⟨cs⟩ t)):=by
   simp only [execOp,ho,Instr.alloc,newVar,newRow,cellsF_eq hv,Sem.run_bind,Sem.run_pure,run_newObj,Result.andThen_ok,World.alloc_eq,T.run_zero w hi]
  simp only [Oper.wp,hr,Oper.upon,hd]
  have hp:=ha.put hN (.pointer (some ⟨w.heap.size,0,none⟩))
  exact ⟨_,_,_,⟨hp.size,hp.env,hp.defers,ha.st.allocCells ⟨cs⟩ t⟩,hK _⟩
 ·cases hv
def allOne : List Value→Bool
 | []=>true
 | v :: vs=>v.oneCell' && allOne vs
theorem run_storeCells {b off : Nat} : ∀ (cs : List Value) (vs : List Value) (k i : Nat) (w : World),St m w (.cells b off vs :: L)→allOne cs=true→k + cs.length + i ≤ vs.length →
  ∃ w',(storeCells ⟨b,off + k,none⟩ cs i).run P w = .ok () w' ∧ St m w' (.cells b off (putAt vs (k + i) cs) :: L)
 | [],vs,k,i,w,h,_,_=>⟨w,rfl,h⟩
 | c :: cs,vs,k,i,w,h,h1,h2=>by
  simp only [allOne,Bool.and_eq_true] at h1
  simp only [List.length_cons] at h2
  have hx:=h.items _ (List.mem_cons_self ..)
  have hlt : k + i < vs.length:=by omega
  obtain ⟨hc,hf⟩:=hx (k + i) vs[k + i] (by simp [hlt])
  have hs:=h.set hlt c
  obtain ⟨w',hr,hst⟩:=run_storeCells cs (vs.set (k + i) c) k (i + 1) _ hs h1.2 (by simp;omega)
  refine ⟨w', ?_,by rw [show k + (i + 1)=k + i + 1 by omega] at hst;exact hst⟩
  simp only [storeCells,Sem.run_bind,addr_add,Nat.add_assoc,run_store P w _ c .plain h1.1,hc,hf,Bool.false_eq_true,if_false,Result.andThen_ok]
  rw [← Nat.add_assoc] at *
  exact hr
theorem run_storeVar (T : Tab P) {i : TI} {t : TypeId} {b off k : Nat} {vs cs : List Value} {v : Value} {w : World} (h : St m w (.cells b off vs :: L)) (hg : T.get t=some i) (hv : v.cells = ⟨cs⟩)
  (hsz : cs.length=i.size) (h1 : allOne cs=true) (hk : k + cs.length ≤ vs.length) :
  ∃ w',(storeVar t ⟨b,off + k,none⟩ v).run P w = .ok () w' ∧ St m w' (.cells b off (putAt vs k cs) :: L):=by
 obtain ⟨w',hr,hs⟩:=run_storeCells (P:=P) cs vs k 0 w h h1 (by omega)
 refine ⟨w', ?_,hs⟩
 simp only [storeVar,Sem.run_bind,T.run_sizeOf w hg,Result.andThen_ok,hv]
 have : ¬ (⟨cs⟩ : Array Value).size ≠ i.size:=by simpa using hsz
 rw [if_neg this]
 simpa using hr
def Tab.sizeOk {P : Program} (T : Tab P) (t : TypeId) (cs : List Value) : Bool :=
 match T.get t with
 | some i=>Nat.beq cs.length i.size && allOne cs
 | none=>false
def storeF (vs : List Value) (k : Nat) (cs : List Value) : Option (List Value) :=
 bif Nat.ble (k + cs.length) vs.length then fl (putAt vs k cs) else none
theorem OT.storeG (T : Tab P) (i : Nat) {x y : Operand} {t : TypeId} {b off k : Nat} {vs cs : List Value} {v : Value} (ho : o.op = .store t x y) (hd : o.dst=none)
  (hx : ev ρ x=some (.pointer (some ⟨b,off + k,none⟩))) (hy : ev ρ y=some v) (hv : cellsF v=some cs) (hs : T.sizeOk t cs=true) (hi : L[i]? = some (.cells b off vs)) (hk : k + cs.length ≤ vs.length)
  (hK : K ρ m (L.set i (.cells b off (putAt vs k cs)))) : OT P N o ρ D m L Q K:=by
 refine OT.run0 hd (fun a w ha => ?_) hK
 unfold Tab.sizeOk at hs
 split at hs
 ·rename_i ti hg
  simp only [Bool.and_eq_true] at hs
  obtain ⟨w',hr,hst⟩:=run_storeVar T (k:=k) (ha.st.at_ hi) hg (cellsF_eq hv) (Nat.eq_of_beq_eq_true hs.1) hs.2 hk
  refine ⟨w', ?_,hst.back hi⟩
  simp only [execOp,ho,ha.env.eval hx,ha.env.eval hy,Instr.storeAt,Instr.sureAddr,Sem.run_bind,Sem.run_pure,Result.andThen_ok,hr]
 ·cases hs
theorem OT.storeL (T : Tab P) (i : Nat) {x y : Operand} {t : TypeId} {b off k : Nat} {vs cs vs' : List Value} {v : Value} (ho : o.op = .store t x y) (hd : o.dst=none)
  (hx : ev ρ x=some (.pointer (some ⟨b,off + k,none⟩))) (hy : ev ρ y=some v) (hv : cellsF v=some cs) (hs : T.sizeOk t cs=true) (hi : L[i]? = some (.cells b off vs)) (hk : storeF vs k cs=some vs')
  (hK : K ρ m (L.set i (.cells b off vs'))) : OT P N o ρ D m L Q K:=by
 unfold storeF at hk
 cases hb : Nat.ble (k + cs.length) vs.length with
 | false=>simp [hb] at hk
 | true =>
  simp only [hb,cond_true,fl_eq,Option.some.injEq] at hk
  subst hk
  exact OT.storeG T i ho hd hx hy hv hs hi (Nat.le_of_ble_eq_true hb) hK
theorem OT.storeL0 (T : Tab P) (i : Nat) {x y : Operand} {t : TypeId} {b off : Nat} {vs cs vs' : List Value} {v : Value} (ho : o.op = .store t x y) (hd : o.dst=none)
  (hx : ev ρ x=some (.pointer (some ⟨b,off,none⟩))) (hy : ev ρ y=some v) (hv : cellsF v=some cs) (hs : T.sizeOk t cs=true) (hi : L[i]? = some (.cells b off vs)) (hk : storeF vs 0 cs=some vs')
  (hK : K ρ m (L.set i (.cells b off vs'))) : OT P N o ρ D m L Q K :=
 OT.storeL (k:=0) T i ho hd hx hy hv hs hi hk hK
def arith (op : BinOp) (a b : Int) : Option Int :=
 match op with
 | .add=>some (a + b)
 | .sub=>some (a - b)
 | .mul=>some (a * b)
 | _=>none
theorem wrap64_in {n : Int} (h1 : -9223372036854775808 ≤ n) (h2 : n ≤ 9223372036854775807) : IntKind.i64.wrap n=n:=IntWalk.i64_in n ⟨h1,h2⟩
theorem OT.arith {op : BinOp} {t t' : TypeId} {x y : Operand} {d : Nat} {a b r r' : Int} (ho : o.op = .binOp op t x y t') (hd : o.dst=some d) (hN : Nat.blt d N=true)
  (hx : ev ρ x=some (.int .i64 a)) (hy : ev ρ y=some (.int .i64 b)) (hr : Sep.arith op a b=some r) (he : r=r') (h1 : -9223372036854775808 ≤ r' ∧ r' ≤ 9223372036854775807)
  (hK : K ((d, .int .i64 r') :: ρ) m L) : OT P N o ρ D m L Q K:=by
 subst he
 refine OT.run hd hN (fun ac w ha=>⟨w, ?_,ha.st⟩) hK
 have hw:=wrap64_in h1.1 h1.2
 cases op <;> simp only [Sep.arith,Option.some.injEq] at hr <;> first | (cases hr;done) | (subst hr;simp [execOp,ho,ha.env.eval hx,ha.env.eval hy,eqGuard,binOp,Op.intArith,hw])
def Goes (P : Program) (f : FuncId) : Prop := ∀ args w,(callFunc f args).run P w = .ok (.enter f args) w
theorem Goes.mk' {f : FuncId} {fn : Func} (hf : P.funcs[f]? = some fn) (hn : (fn.name == "runtime.NumGoroutine")=false) (hb : fn.body.isNone=false) : Goes P f:=by
 intro args w
 simp only [callFunc,Sem.run_bind,run_program,Result.andThen_ok,hf,hn,hb,Bool.false_eq_true,if_false,Sem.run_pure]
theorem OT.call {F : Operand} {args : List Operand} {ats : Array TypeId} {f : FuncId} {first cap vs all : List Value} {d : Nat} (ho : o.op = .call ⟨.value F,⟨args⟩,ats⟩) (hd : o.dst=some d) (hN : Nat.blt d N=true)
  (hF : ev ρ F=some (.func (.func f) ⟨first⟩ ⟨cap⟩)) (ha : evs ρ args=some vs) (hall : fl (first++(vs++cap))=some all) (hg : Goes P f)
  (h : TCallX P f ⟨all⟩ m L (fun v m' L'=>K ((d,v) :: ρ) m' L') (fun ch m' L'=>Q (.panic ch) ρ D m' L')) : OT P N o ρ D m L Q K:=by
 intro a w hok
 rw [fl_eq] at hall
 simp only [Option.some.injEq] at hall
 have he : (execOp a.eval o).run P w = .ok (.enter f ⟨all⟩) w:=by
  have e1:=hok.env.evals ha
  simp only [execOp,ho,resolve,hok.env.eval hF,Deferred.ofValue,Sem.run_bind,Sem.run_pure,Result.andThen_ok,invoke]
  rw [hg _ w]
  congr 2
  subst hall
  simp [e1]
 simp only [Oper.wp,he,Oper.upon]
 refine (h w hok.st).mono fun e w' hh => ?_
 cases e with
 | returned v =>
  obtain ⟨m',L',h1,h2⟩:=hh
  have hp:=hok.put hN v
  rw [hd]
  exact ⟨_,_,_,⟨hp.size,hp.env,hp.defers,h1⟩,h2⟩
 | panicked ch =>
  obtain ⟨m',L',h1,h2⟩:=hh
  exact ⟨ρ,D,m',L',⟨hok.size,hok.env,hok.defers,h1⟩,h2⟩
 | outgrown=>exact hh.elim
end
end Go.Sep
set_option linter.unusedVariables false
set_option linter.unusedSimpArgs false
namespace Go.Sep
structure R (H α : Type) where
 size : Nat
 bytes : Nat
 enc : H→List Value
 rep : Mem→H → α → Prop
 enc_len : ∀ h,(enc h).length=size
 one : ∀ h,allOne (enc h)=true
 mono : ∀ {m m' : Mem} {h : H} {a : α},m ≤ m' → rep m h a→rep m' h a
structure Sl where
 a : Option Addr
 len : Nat
 cap : Nat
@[reducible] def Sl.v (s : Sl) : Value := .slice s.a s.len s.cap
def All2 {H α : Type} (r : H → α → Prop) : List H→List α → Prop
 | [],[]=>True
 | h :: hs,a :: as1=>r h a∧All2 r hs as1
 | _,_=>False
theorem All2.length {H α : Type} {r : H → α → Prop} : ∀ {hs : List H} {as1 : List α},All2 r hs as1→hs.length=as1.length
 | [],[],_=>rfl
 | h :: hs,a :: as1,h2=>by simp [All2.length h2.2]
 | [],_ :: _,h=>h.elim
 | _ :: _,[],h=>h.elim
theorem All2.mono {H α : Type} {r r' : H → α → Prop} (hr : ∀ h a,r h a→r' h a) : ∀ {hs : List H} {as1 : List α},All2 r hs as1→All2 r' hs as1
 | [],[],_=>trivial
 | h :: hs,a :: as1,h2=>⟨hr _ _ h2.1,All2.mono hr h2.2⟩
 | [],_ :: _,h=>h.elim
 | _ :: _,[],h=>h.elim
theorem All2.append {H α : Type} {r : H → α → Prop} : ∀ {hs : List H} {as1 : List α} {hs' : List H} {as1' : List α},All2 r hs as1→All2 r hs' as1' → All2 r (hs++hs') (as1++as1')
 | [],[],_,_,_,h=>h
 | h :: hs,a :: as1,_,_,h2,h3=>⟨h2.1,All2.append h2.2 h3⟩
 | [],_ :: _,_,_,h,_=>h.elim
 | _ :: _,[],_,_,h,_=>h.elim
theorem All2.get {H α : Type} {r : H → α → Prop} : ∀ {hs : List H} {as1 : List α},All2 r hs as1 → ∀ {k : Nat} {a : α},as1[k]? = some a → ∃ h,hs[k]? = some h∧r h a
 | [],[],_,k,a,hk=>by simp at hk
 | h :: hs,a :: as1,h2,0,b,hk=>by simp at hk;subst hk;exact ⟨h,by simp,h2.1⟩
 | h :: hs,a :: as1,h2,k + 1,b,hk=>by
  rw [List.getElem?_cons_succ] at hk ⊢
  exact All2.get h2.2 hk
 | [],_ :: _,h,_,_,_=>h.elim
 | _ :: _,[],h,_,_,_=>h.elim
theorem All2.take {H α : Type} {r : H → α → Prop} : ∀ (k : Nat) {hs : List H} {as1 : List α},All2 r hs as1→All2 r (hs.take k) (as1.take k)
 | 0,hs,as1,_=>by simp [All2]
 | k + 1,[],[],_=>trivial
 | k + 1,h :: hs,a :: as1,h2=>⟨h2.1,All2.take k h2.2⟩
 | _ + 1,[],_ :: _,h=>h.elim
 | _ + 1,_ :: _,[],h=>h.elim
theorem All2.drop {H α : Type} {r : H → α → Prop} : ∀ (k : Nat) {hs : List H} {as1 : List α},All2 r hs as1→All2 r (hs.drop k) (as1.drop k)
 | 0,hs,as1,h=>h
 | k + 1,[],[],_=>trivial
 | k + 1,h :: hs,a :: as1,h2=>All2.drop k h2.2
 | _ + 1,[],_ :: _,h=>h.elim
 | _ + 1,_ :: _,[],h=>h.elim
def encs {H α : Type} (r : R H α) (hs : List H) : List Value:=hs.flatMap r.enc
theorem encs_len {H α : Type} (r : R H α) : ∀ hs : List H,(encs r hs).length=hs.length * r.size
 | []=>by simp [encs]
 | h :: hs=>by
  have:=encs_len r hs
  simp only [encs,List.flatMap_cons,List.length_append,r.enc_len,List.length_cons] at this ⊢
  rw [this,Nat.add_mul];omega
theorem encs_one {H α : Type} (r : R H α) : ∀ hs : List H,allOne (encs r hs)=true
 | []=>rfl
 | h :: hs=>by
  have:=encs_one r hs
  have h1:=r.one h
  simp only [encs,List.flatMap_cons] at this ⊢
  generalize r.enc h=l at h1
  induction l with
  | nil=>exact this
  | cons v l ih=>simp only [allOne,Bool.and_eq_true,List.cons_append] at h1 ⊢;exact ⟨h1.1,ih h1.2⟩
theorem encs_append {H α : Type} (r : R H α) (a b : List H) : encs r (a++b)=encs r a++encs r b:=by simp [encs]
theorem encs_get {H α : Type} (r : R H α) : ∀ {hs : List H} {k : Nat} {h : H},hs[k]? = some h → ∀ (j : Nat) (v : Value),(r.enc h)[j]? = some v→(encs r hs)[k * r.size + j]? = some v
 | [],k,h,hk,_,_,_=>by simp at hk
 | x :: hs,0,h,hk,j,v,hv=>by
  simp at hk;subst hk
  have hj:=(List.getElem?_eq_some_iff.1 hv).1
  simp only [encs,List.flatMap_cons,Nat.zero_mul,Nat.zero_add]
  rw [List.getElem?_append_left hj];exact hv
 | x :: hs,k + 1,h,hk,j,v,hv=>by
  rw [List.getElem?_cons_succ] at hk
  have ih:=encs_get r hk j v hv
  simp only [encs,List.flatMap_cons] at ih ⊢
  rw [List.getElem?_append_right (by rw [r.enc_len,Nat.add_mul];omega),r.enc_len,show (k + 1) * r.size + j - r.size=k * r.size + j by rw [Nat.add_mul];omega]
  exact ih
structure SlRep {H α : Type} (r : R H α) (m : Mem) (s : Sl) (l : List α) : Prop where
 len : s.len=l.length
 cap : s.len ≤ s.cap
 fit : s.len * r.bytes ≤ 140737488355328
 cells : ∃ hs,All2 (r.rep m) hs l∧((l=[]∧(s.a=none→s.cap=0)) ∨ ∃ b o,s.a=some ⟨b,o,none⟩ ∧ At m b o (encs r hs))
theorem SlRep.mono {H α : Type} {r : R H α} {m m' : Mem} {s : Sl} {l : List α} (h : SlRep r m s l) (hm : m ≤ m') : SlRep r m' s l:=by
 obtain ⟨hs,h1,h2⟩:=h.cells
 refine ⟨h.len,h.cap,h.fit,hs,h1.mono fun _ _=>r.mono hm, ?_⟩
 rcases h2 with h2 | ⟨b,o,h3,h4⟩
 ·exact .inl h2
 ·exact .inr ⟨b,o,h3,h4.mono hm⟩
theorem SlRep.small {H α : Type} {r : R H α} {m : Mem} {s : Sl} {l : List α} (h : SlRep r m s l) (hb : Nat.blt 0 r.bytes=true) : l.length ≤ 140737488355328:=by
 have h1 : 0 < r.bytes:=by simpa [Nat.blt_eq] using hb
 have:=h.fit
 rw [← h.len]
 exact Nat.le_trans (Nat.le_mul_of_pos_right _ h1) this
theorem SlRep.nil {H α : Type} (r : R H α) (m : Mem) : SlRep r m ⟨none,0,0⟩ ([] : List α) :=
 ⟨rfl,Nat.le_refl _,by simp,[],trivial, .inl ⟨rfl,fun _=>rfl⟩⟩
theorem SlRep.elem {H α : Type} {r : R H α} {m : Mem} {s : Sl} {l : List α} (h : SlRep r m s l) {k : Nat} {a : α} (hk : l[k]? = some a) :
  ∃ b o hd,s.a=some ⟨b,o,none⟩ ∧ r.rep m hd a∧At m b (o + k * r.size) (r.enc hd):=by
 obtain ⟨hs,h1,h2⟩:=h.cells
 obtain ⟨hd,h3,h4⟩:=h1.get hk
 rcases h2 with ⟨h2,_⟩ | ⟨b,o,h5,h6⟩
 ·subst h2;simp at hk
 ·refine ⟨b,o,hd,h5,h4,fun j v hv => ?_⟩
  rw [Nat.add_assoc]
  exact h6 _ _ (encs_get r h3 j v hv)
def rInt : R Int Int where
 size:=1
 bytes:=8
 enc n:=[.int .i64 n]
 rep _ h a:=h=a
 enc_len _:=rfl
 one _:=rfl
 mono _ h:=h
abbrev Str:=List UInt8
@[reducible] def strV (s : Str) : Value := .string ⟨⟨s⟩⟩
def rStr : R Str Str where
 size:=1
 bytes:=16
 enc s:=[strV s]
 rep _ h a:=h=a
 enc_len _:=rfl
 one _:=rfl
 mono _ h:=h
def rSl {H α : Type} (r : R H α) : R Sl (List α) where
 size:=1
 bytes:=24
 enc s:=[s.v]
 rep m s l:=SlRep r m s l
 enc_len _:=rfl
 one _:=rfl
 mono hm h:=h.mono hm
section
variable {P : Program} {N : Nat} {ρ : Env} {D : List Deferred} {m : Mem} {L : List Item} {Q : EPost} {full : List Oper} {o : Oper} {K : Env→Mem→List Item→Prop}
def Tab.elem {P : Program} (T : Tab P) (t : TypeId) : Option (TypeId × TI) :=
 match T.get t with
 | some ⟨.slice e,_,_,_⟩=>match T.get e with
  | some i=>some (e,i)
  | none=>none
 | _=>none
theorem elem_get {T : Tab P} {t e : TypeId} {i : TI} (h : T.elem t=some (e,i)) : ∃ ti,T.get t=some ti∧ti.u = .slice e∧T.get e=some i:=by
 unfold Tab.elem at h
 split at h
 ·rename_i e' a b c hg
  split at h
  ·rename_i j hj
   simp only [Option.some.injEq,Prod.mk.injEq] at h
   obtain ⟨rfl,rfl⟩:=h
   exact ⟨_,hg,rfl,hj⟩
  ·cases h
 ·cases h
def Tab.esize {P : Program} (T : Tab P) (t : TypeId) : Option Nat :=
 match T.elem t with
 | some (_,i)=>some i.size
 | none=>none
theorem esize_get {T : Tab P} {t : TypeId} {n : Nat} (h : T.esize t=some n) : ∃ e i,T.elem t=some (e,i)∧i.size=n:=by
 unfold Tab.esize at h
 split at h
 ·rename_i e i he
  simp only [Option.some.injEq] at h
  exact ⟨e,i,he,h⟩
 ·cases h
theorem run_indexAddr (T : Tab P) {t : TypeId} {n sz len cap : Nat} {ad : Addr} {i : Int} {k : IntKind} {w : World} (he : T.esize t=some sz) (h0 : 0 ≤ i) (h1 : i < len) :
  (Instr.indexAt t (.slice (some ad) len cap) (.int k i)).run P w = .ok (.pointer (some (ad.add (i.toNat * sz)))) w:=by
 obtain ⟨e,ei,h2,h3⟩:=esize_get he
 obtain ⟨ti,h4,h5,h6⟩:=elem_get h2
 have hu:=T.run_underlying w h4
 rw [h5] at hu
 simp only [Instr.indexAt,Sem.run_bind,asIntOf,Sem.run_pure,Result.andThen_ok,hu]
 rw [if_pos ⟨h0,h1⟩]
 simp only [Sem.run_bind,T.run_sizeOf w h6,Result.andThen_ok,Sem.run_pure,h3]
theorem OT.index {H α : Type} (T : Tab P) (r : R H α) {s : Sl} {l : List α} (k : Nat) {x y : Operand} {t : TypeId} {d : Nat} {a : α} (hs : SlRep r m s l)
  (ho : o.op = .indexAddr t x y) (hd : o.dst=some d) (hN : Nat.blt d N=true) (hx : ev ρ x=some s.v) {iv : Int} (hy : ev ρ y=some (.int .i64 iv)) (hik : iv=(k : Int)) (hsz : T.esize t=some r.size) (hk : l[k]? = some a)
  (hK : ∀ b i hd',r.rep m hd' a→At m b i (r.enc hd')→K ((d, .pointer (some ⟨b,i,none⟩)) :: ρ) m L) : OT P N o ρ D m L Q K:=by
 subst hik
 obtain ⟨b,i,hd',h1,h2,h3⟩:=hs.elem hk
 have hlt : k < s.len:=by rw [hs.len];exact (List.getElem?_eq_some_iff.1 hk).1
 refine OT.run hd hN (fun ac w ha=>⟨w, ?_,ha.st⟩) (hK b (i + k * r.size) hd' h2 h3)
 have hx':=ha.env.eval hx
 simp only [Sl.v,h1] at hx'
 have:=run_indexAddr (P:=P) T (n:=0) (len:=s.len) (cap:=s.cap) (ad:=⟨b,i,none⟩) (k := .i64) (w:=w) hsz (Int.natCast_nonneg k) (by omega : (k : Int) < s.len)
 rw [addr_add,Int.toNat_natCast] at this
 simp only [execOp,ho,hx',ha.env.eval hy,Sem.run_bind,this,Result.andThen_ok,Sem.run_pure]
theorem OT.indexP (T : Tab P) (k : Nat) {x y : Operand} {t : TypeId} {d b i n c sz : Nat}
  (ho : o.op = .indexAddr t x y) (hd : o.dst=some d) (hN : Nat.blt d N=true) (hx : ev ρ x=some (.slice (some ⟨b,i,none⟩) n c)) {iv : Int} (hy : ev ρ y=some (.int .i64 iv)) (hik : iv=(k : Int)) (hsz : T.esize t=some sz) (hk : k < n)
  (hK : K ((d, .pointer (some ⟨b,i + k * sz,none⟩)) :: ρ) m L) : OT P N o ρ D m L Q K:=by
 subst hik
 refine OT.run hd hN (fun ac w ha=>⟨w, ?_,ha.st⟩) hK
 have:=run_indexAddr (P:=P) T (n:=0) (cap:=c) (ad:=⟨b,i,none⟩) (k := .i64) (w:=w) hsz (Int.natCast_nonneg k) (by omega : (k : Int) < n)
 rw [addr_add,Int.toNat_natCast] at this
 simp only [execOp,ho,ha.env.eval hx,ha.env.eval hy,Sem.run_bind,this,Result.andThen_ok,Sem.run_pure]
end
end Go.Sep
set_option linter.unusedVariables false
set_option linter.unusedSimpArgs false
namespace Go.Sep
def tok (s : Sl) (size : Nat) : Item :=
 match s.a with
 | none => .room 0 0 0
 | some a => .room a.block (a.off + s.len * size) ((s.cap - s.len) * size)
def Own (s : Sl) : Prop:=s = ⟨none,0,0⟩ ∨ ∃ b o,s.a=some ⟨b,o,none⟩
def Src (w : World) (s : Sl) (size : Nat) (news : List Value) : Prop :=
 news.length=s.len * size∧(s.len=0 ∨ ∃ b o,s.a=some ⟨b,o,none⟩ ∧ Cells w b o news)
theorem Src.drew {w : World} {s : Sl} {size : Nat} {news : List Value} (h : Src w s size news) : Src w.drew s size news:=h
theorem run_first {P : Program} {w : World} {s : Sl} {size : Nat} {news : List Value} (h : Src w s size news) : (Builtin.firstCells size s.len s.v).run P w = .ok ⟨news⟩ w:=by
 obtain ⟨h1,h2⟩:=h
 obtain ⟨a,n,c⟩:=s
 simp only at h1 h2
 cases a with
 | none =>
  rcases h2 with h2 | ⟨b,o,h3,_⟩
  ·subst h2
   have : news=[]:=List.eq_nil_of_length_eq_zero (by omega)
   subst this
   rfl
  ·cases h3
 | some a =>
  simp only [Sl.v,Builtin.firstCells]
  rw [← h1]
  refine run_loadCells_list w a news fun j v hv => ?_
  rcases h2 with h2 | ⟨b,o,h3,h4⟩
  ·subst h2
   have : news=[]:=List.eq_nil_of_length_eq_zero (by omega)
   subst this
   simp at hv
  ·cases h3
   rw [addr_add]
   exact h4 j v hv
theorem At.append {m : Mem} {b o : Nat} {xs ys : List Value} (h : At m b o xs) (h2 : At m b (o + xs.length) ys) : At m b o (xs++ys):=by
 intro j v hv
 rcases Nat.lt_or_ge j xs.length with hj | hj
 ·rw [List.getElem?_append_left hj] at hv;exact h j v hv
 ·rw [List.getElem?_append_right hj] at hv
  have:=h2 _ v hv
  rwa [show o + xs.length + (j - xs.length)=o + j by omega] at this
theorem At.nil (m : Mem) (b o : Nat) : At m b o []:=fun j v hv=>by simp at hv
theorem SlRep.src {H α : Type} {r : R H α} {m : Mem} {w : World} {L : List Item} {s : Sl} {l : List α} (h : SlRep r m s l) (hw : St m w L) :
  ∃ hs,All2 (r.rep m) hs l∧Src w s r.size (encs r hs)∧(s.a=none→s.len=0∧s.cap=0)∧(∀ b o,s.a=some ⟨b,o,none⟩ → At m b o (encs r hs)):=by
 obtain ⟨hs,h1,h2⟩:=h.cells
 refine ⟨hs,h1,⟨by rw [encs_len,h1.length,h.len], ?_⟩, ?_, ?_⟩
 ·rcases h2 with ⟨h2,_⟩ | ⟨b,o,h3,h4⟩
  ·left;rw [h.len,h2];rfl
  ·exact .inr ⟨b,o,h3,hw.at_cells h4⟩
 ·intro ha
  rcases h2 with ⟨h2,h5⟩ | ⟨b,o,h3,h4⟩
  ·exact ⟨by rw [h.len,h2];rfl,h5 ha⟩
  ·rw [ha] at h3;cases h3
 ·intro b o ha
  rcases h2 with ⟨h2,h5⟩ | ⟨b',o',h3,h4⟩
  ·subst h2
   have : hs=[]:=List.eq_nil_of_length_eq_zero (by rw [h1.length];rfl)
   subst this
   exact At.nil _ _ _
  ·rw [ha] at h3
   cases h3
   exact h4
theorem putAt_front : ∀ (cs vs : List Value),cs.length ≤ vs.length → ∀ (pre : List Value),putAt (pre++vs) pre.length cs=pre++cs++vs.drop cs.length
 | [],vs,_,pre=>by simp [putAt]
 | c :: cs,[],h,pre=>by simp at h
 | c :: cs,v :: vs,h,pre=>by
  simp only [putAt]
  have e : (pre++v :: vs).set pre.length c=(pre++[c])++vs:=by simp
  rw [e]
  have:=putAt_front cs vs (by simpa using h) (pre++[c])
  simp only [List.length_append,List.length_cons,List.length_nil,Nat.zero_add] at this
  rw [this]
  simp
theorem set_same {L : List Item} {i : Nat} {x : Item} (h : L[i]? = some x) : L.set i x=L:=by
 obtain ⟨hi,he⟩:=List.getElem?_eq_some_iff.1 h
 subst he
 exact List.set_getElem_self hi
theorem putAt_zero {cs vs : List Value} (h : cs.length ≤ vs.length) : putAt vs 0 cs=cs++vs.drop cs.length:=by
 have:=putAt_front cs vs h []
 simpa using this
section
variable {P : Program} {N : Nat} {ρ : Env} {D : List Deferred} {m : Mem} {L : List Item} {Q : EPost} {full : List Oper} {o : Oper} {K : Env→Mem→List Item→Prop}
theorem run_append (T : Tab P) {t t2 e e2 ty : TypeId} {ei ei2 : TI} {w : World} {s s2 : Sl} {xs news : List Value} {i : Nat} (he : T.elem t=some (e,ei)) (he2 : T.elem t2=some (e2,ei2))
  (hw : St m w L) (hi : L[i]? = some (tok s ei.size)) (ho : Own s) (hx : Src w s ei.size xs) (hy : Src w s2 ei.size news) (hn : s2.a=none→s2.len=0) (h1 : allOne news=true) (hzs : ei.zero.cells.size=ei.size) (hcap : s.len ≤ s.cap)
  (hb : 0 < ei.bytes) (hfit : (s.len + s2.len) * ei.bytes ≤ 140737488355328) (hAt : ∀ b o,s.a=some ⟨b,o,none⟩ → At m b o xs) :
  ∃ s' m' w',(Builtin.append_ #[t,t2] ty #[s.v,s2.v]).run P w = .ok s'.v w' ∧ m ≤ m' ∧ St m' w' (L.set i (tok s' ei.size))∧Own s' ∧ s'.len=s.len + s2.len∧s'.len ≤ s'.cap ∧
   ((s'.a=none∧xs++news=[]∧s'.cap=0) ∨ ∃ b o,s'.a=some ⟨b,o,none⟩ ∧ At m' b o (xs++news)):=by
 obtain ⟨ti,h4,h5,h6⟩:=elem_get he
 obtain ⟨ti2,k4,k5,k6⟩:=elem_get he2
 obtain ⟨_,_,hu,_⟩:=T.ok t ti h4
 rw [h5] at hu
 obtain ⟨_,_,hu2,_⟩:=T.ok t2 ti2 k4
 rw [k5] at hu2
 obtain ⟨info,q1,q2,q3,q4,q5⟩:=T.ok e ei h6
 have hnew:=run_first (P:=P) hy
 have hbound : s.len + s2.len ≤ 140737488355328:=Nat.le_trans (Nat.le_mul_of_pos_right _ hb) hfit
 by_cases hroom : s.len + s2.len ≤ s.cap
 ·
  rcases ho with hnil | ⟨b,o,ha⟩
  ·subst hnil
   simp only at hroom
   have hz : s2.len=0:=by omega
   have hxs : xs=[]:=List.eq_nil_of_length_eq_zero (by have:=hx.1;simpa using this)
   have hns : news=[]:=List.eq_nil_of_length_eq_zero (by have:=hy.1;rw [hz] at this;simpa using this)
   subst hxs;subst hns
   refine ⟨⟨none,0,0⟩,m,w, ?_,m.le_refl,by rw [set_same hi];exact hw, .inl rfl,by simp [hz],by simp, .inl ⟨rfl,rfl,rfl⟩⟩
   have hnew' : (Builtin.firstCells ei.size 0 s2.v).run P w = .ok (⟨[]⟩ : Array Value) w:=by rw [← hz];exact hnew
   simp only [Sl.v] at hnew'
   simp [Builtin.append_,run_underlying hu,run_underlying hu2,sizeOf,typeInfo,q1,q3,Builtin.lenOf,hz,hnew']
  ·obtain ⟨a,n,c⟩:=s
   simp only at ha hroom hcap hbound hfit hx hAt
   subst ha
   have hst:=(hw.at_ hi)
   simp only [tok] at hst
   obtain ⟨vs,hvl,hst⟩:=hst.ofRoom
   have hnl : news.length ≤ vs.length:=by
    rw [hvl,hy.1];exact Nat.mul_le_mul_right _ (by omega)
   obtain ⟨w',hr,hst'⟩:=run_storeCells (P:=P) news vs 0 0 w hst h1 (by omega)
   rw [putAt_zero hnl] at hst'
   have hst2:=hst'.split
   obtain ⟨g1,g2,g3⟩:=hst2.freeze
   have g4:=g3.toRoom
   refine ⟨⟨some ⟨b,o,none⟩,n + s2.len,c⟩,m.addCells b (o + n * ei.size) news,w', ?_,g1, ?_, .inr ⟨b,o,rfl⟩,rfl,hroom, .inr ⟨b,o,rfl, ?_⟩⟩
   ·have hr' : (storeCells ((⟨b,o,none⟩ : Addr).add (n * ei.size)) news).run P w = .ok () w':=by rw [addr_add];exact hr
    simp only [Sl.v] at hnew
    simp [Builtin.append_,run_underlying hu,run_underlying hu2,sizeOf,typeInfo,q1,q3,Builtin.lenOf,hroom,hnew,hr']
   ·have e1 : Item.room b (o + n * ei.size + news.length) (List.drop news.length vs).length=tok ⟨some ⟨b,o,none⟩,n + s2.len,c⟩ ei.size:=by
     simp only [tok,List.length_drop,hvl,hy.1]
     congr 1
     ·rw [Nat.add_mul];omega
     ·rw [← Nat.sub_mul];congr 1;omega
    rw [← e1]
    exact St.back hi g4
   ·refine ((hAt b o rfl).mono g1).append ?_
    rw [hx.1]
    exact g2
 ·
  have hlt : s.cap < s.len + s2.len:=by omega
  have h48 : ¬ (Builtin.nextslicecap (s.len + s2.len) s.cap * ei.bytes > 281474976710656):=by
   have:=growslice_fits hlt hfit
   omega
  have hold:=run_first (P:=P) (hx.drew)
  have hnew':=run_first (P:=P) (hy.drew)
  obtain ⟨nc,hnc,hge⟩ : ∃ nc,nc=(Question.appendCap (s.len + s2.len) s.cap e).cut (w.tape w.drawn (.appendCap (s.len + s2.len) s.cap e))∧s.len + s2.len ≤ nc:=⟨_,rfl,by simp [Question.cut]⟩
  have hst:=hw.drew.allocCells ((⟨xs⟩ : Array Value)++(⟨news⟩ : Array Value)++Builtin.zeroCells ei.zero.cells (nc - (s.len + s2.len))) e
  have hl1 : ((⟨xs⟩ : Array Value)++(⟨news⟩ : Array Value)++Builtin.zeroCells ei.zero.cells (nc - (s.len + s2.len))).toList=(xs++news)++(Builtin.zeroCells ei.zero.cells (nc - (s.len + s2.len))).toList:=by simp
  rw [hl1] at hst
  obtain ⟨g1,g2,g3⟩:=hst.split.freeze
  have g4:=g3.toRoom
  have hxl : (xs++news).length=(s.len + s2.len) * ei.size:=by rw [List.length_append,hx.1,hy.1,Nat.add_mul]
  refine ⟨⟨some ⟨w.heap.size,0,none⟩,s.len + s2.len,nc⟩,_,w.drew.alloc (.cells ((⟨xs⟩ : Array Value)++(⟨news⟩ : Array Value)++Builtin.zeroCells ei.zero.cells (nc - (s.len + s2.len))) e), ?_,g1, ?_, .inr ⟨_,_,rfl⟩,rfl,hge, .inr ⟨_,_,rfl,g2⟩⟩
  ·simp only [Sl.v] at hold hnew'
   have hb0 : ei.bytes ≠ 0:=by omega
   have hmax : ¬ (9223372036854775807 < (s.len : Int) + (s2.len : Int)):=by omega
   simp [Builtin.append_,run_underlying hu,run_underlying hu2,sizeOf,typeInfo,zeroValue,q1,q3,q4,q5,Builtin.lenOf,hroom,hold,hnew',h48,hmax,Question.forced,newRow,← hnc,IntKind.max,IntKind.signed,IntKind.bits,hb0]
   congr 2
   apply Array.ext'
   simp
  ·have e1 : Item.room w.heap.size (0 + (xs++news).length) (Builtin.zeroCells ei.zero.cells (nc - (s.len + s2.len))).toList.length=tok ⟨some ⟨w.heap.size,0,none⟩,s.len + s2.len,nc⟩ ei.size:=by
    simp only [tok,hxl,Array.length_toList,size_zeroCells,hzs]
   rw [← e1]
   have hsub : (Item.room w.heap.size (0 + (xs++news).length) (Builtin.zeroCells ei.zero.cells (nc - (s.len + s2.len))).toList.length :: L.eraseIdx i).Sublist (Item.room w.heap.size (0 + (xs++news).length) (Builtin.zeroCells ei.zero.cells (nc - (s.len + s2.len))).toList.length :: L) :=
    List.Sublist.cons_cons _ (List.eraseIdx_sublist L i)
   exact St.back hi (g4.sub hsub)
def Tab.okElem {P : Program} (T : Tab P) (t t2 : TypeId) (size bytes : Nat) : Bool :=
 match T.elem t,T.elem t2 with
 | some (_,ei),some (_,_)=>Nat.beq ei.size size && (Nat.beq ei.bytes bytes && (Nat.blt 0 bytes && match cellsF ei.zero with
  | some l=>Nat.beq l.length size
  | none=>false))
 | _,_=>false
theorem okElem_get {T : Tab P} {t t2 : TypeId} {size bytes : Nat} (h : T.okElem t t2 size bytes=true) :
  ∃ e e2 ei ei2,T.elem t=some (e,ei)∧T.elem t2=some (e2,ei2)∧ei.size=size∧ei.bytes=bytes∧0 < bytes∧ei.zero.cells.size=ei.size:=by
 unfold Tab.okElem at h
 split at h
 ·rename_i e ei e2 ei2 h1 h2
  simp only [Bool.and_eq_true] at h
  obtain ⟨a1,a2,a3,a4⟩:=h
  split at a4
  ·rename_i l hl
   have:=cellsF_eq hl
   refine ⟨e,e2,ei,ei2,h1,h2,Nat.eq_of_beq_eq_true a1,Nat.eq_of_beq_eq_true a2,by simpa [Nat.blt_eq] using a3, ?_⟩
   rw [this,Nat.eq_of_beq_eq_true a1]
   simpa using Nat.eq_of_beq_eq_true a4
  ·cases a4
 ·cases h
theorem OT.append {H α : Type} (T : Tab P) (r : R H α) (i : Nat) {s s2 : Sl} {l l2 : List α} {x y : Operand} {t t2 : TypeId} {d : Nat} (hs : SlRep r m s l) (hown : Own s) (hs2 : SlRep r m s2 l2)
  (ho : o.op = .call ⟨.builtin .append,⟨[x,y]⟩,⟨[t,t2]⟩⟩) (hd : o.dst=some d) (hN : Nat.blt d N=true) (hx : ev ρ x=some s.v) (hy : ev ρ y=some s2.v) (hT : T.okElem t t2 r.size r.bytes=true)
  (hi : L[i]? = some (tok s r.size)) (hfit : (l.length + l2.length) * r.bytes ≤ 140737488355328)
  (hK : ∀ s' m',m ≤ m' → SlRep r m' s' (l++l2)→Own s' → K ((d,s'.v) :: ρ) m' (L.set i (tok s' r.size))) : OT P N o ρ D m L Q K:=by
 obtain ⟨e,e2,ei,ei2,q1,q2,q3,q4,q5,q6⟩:=okElem_get hT
 intro a w ha
 obtain ⟨hl,h1,h2,h3,h4⟩:=hs.src ha.st
 obtain ⟨hl2,k1,k2,k3,k4⟩:=hs2.src ha.st
 have hb : 0 < ei.bytes:=by omega
 obtain ⟨s',m',w',hr,g1,g2,g3,g4,g5,g6⟩:=run_append (P:=P) (ty:=o.type) T q1 q2 ha.st (by rw [q3];exact hi) hown (by rw [q3];exact h2) (by rw [q3];exact k2) (fun hz=>(k3 hz).1) (encs_one r hl2) q6 hs.cap hb
  (by rw [hs.len,hs2.len,q4];exact hfit) h4
 have he : (execOp a.eval o).run P w = .ok (.value s'.v) w':=by
  simp only [execOp,ho,resolve,invoke,builtin,Sem.run_bind,Sem.run_pure,Result.andThen_ok,List.map_toArray,List.map_cons,List.map_nil,ha.env.eval hx,ha.env.eval hy]
  simp only [List.map_toArray,List.map_cons,List.map_nil,ha.env.eval hx,ha.env.eval hy,hr,Result.andThen_ok]
 have hrep : SlRep r m' s' (l++l2):=by
  refine ⟨by rw [g4,hs.len,hs2.len];simp,g5,by rw [g4,hs.len,hs2.len];exact hfit,hl++hl2,(h1.mono fun _ _=>r.mono g1).append (k1.mono fun _ _=>r.mono g1), ?_⟩
  rcases g6 with ⟨e1,e2,e3⟩ | ⟨b,off,e1,e2⟩
  ·left
   have hz : s'.len=0:=by
    rcases g3 with e | ⟨b,off,e⟩
    ·rw [e]
    ·rw [e1] at e;cases e
   refine ⟨List.eq_nil_of_length_eq_zero ?_,fun _=>e3⟩
   have j1:=hs.len
   have j2:=hs2.len
   rw [List.length_append];omega
  ·right
   exact ⟨b,off,e1,by rw [encs_append];exact e2⟩
 simp only [Oper.wp,he,Oper.upon]
 rw [hd]
 have hp:=ha.put hN s'.v
 rw [q3] at g2
 exact ⟨_,_,_,⟨hp.size,hp.env,hp.defers,g2⟩,hK s' m' g1 hrep g3⟩
end
end Go.Sep
