/- SepA -/
import Derived.WalkKit
import Derived.Test.YtinmchaljlekgaaGreatDoorProg
import Derived.KernelRfl
import Derived.Test.YtinmchaljlekgaaGreatDoorB0
set_option linter.unusedVariables false
set_option linter.unusedSimpArgs false
namespace Go.Sep
structure Mem where
 pin : World
 c : Nat→Nat→Option Value
 o : Nat→Option Obj
 t : Nat→Option (TypeId × Nat)
structure Mem.le (m m' : Mem) : Prop where
 pin : m'.pin=m.pin
 c : ∀ b i v,m.c b i=some v→m'.c b i=some v
 o : ∀ b x,m.o b=some x→m'.o b=some x
 t : ∀ b x,m.t b=some x→m'.t b=some x
instance : LE Mem:=⟨Mem.le⟩
theorem Mem.le_refl (m : Mem) : m ≤ m:=⟨rfl,fun _ _ _ h=>h,fun _ _ h=>h,fun _ _ h=>h⟩
theorem Mem.le_trans {a b c : Mem} (h : a ≤ b) (k : b ≤ c) : a ≤ c :=
 ⟨k.pin.trans h.pin,fun _ _ _ x=>k.c _ _ _ (h.c _ _ _ x),fun _ _ x=>k.o _ _ (h.o _ _ x),fun _ _ x=>k.t _ _ (h.t _ _ x)⟩
def isCells : Obj→Bool
 | .cells ..=>true
 | _=>false
inductive Item where
 | cells (b off : Nat) (vs : List Value)
 | room (b off n : Nat)
 | obj (b : Nat) (o : Obj)
def Item.blk : Item→Nat
 | .cells b _ _ | .room b _ _ | .obj b _=>b
def Item.off : Item→Nat
 | .cells _ o _ | .room _ o _=>o
 | .obj _ _=>0
def Item.len : Item→Nat
 | .cells _ _ vs=>vs.length
 | .room _ _ n=>n
 | .obj _ _=>1
def Item.holds (w : World) : Item→Prop
 | .cells b off vs => ∀ j v,vs[j]? = some v→w.cell? ⟨b,off + j,none⟩ = some v ∧ ∀ i,w.frozen? ⟨b,i,none⟩ = false
 | .room b off n => ∀ j,j < n → ∃ v,w.cell? ⟨b,off + j,none⟩ = some v ∧ ∀ i,w.frozen? ⟨b,i,none⟩ = false
 | .obj b o=>w.heap[b]? = some o∧isCells o=false
structure Item.Free (m : Mem) (x : Item) : Prop where
 pin : 0 < x.len→m.pin.heap.size ≤ x.blk
 c : ∀ j,j < x.len→m.c x.blk (x.off + j)=none
 o : ∀ b o,x = .obj b o→m.o b=none
def Item.Disj (x y : Item) : Prop:=x.len=0 ∨ y.len=0 ∨ x.blk ≠ y.blk ∨ x.off + x.len ≤ y.off ∨ y.off + y.len ≤ x.off
theorem Item.Disj.symm {x y : Item} (h : x.Disj y) : y.Disj x:=by
 rcases h with h | h | h | h | h
 ·exact .inr (.inl h)
 ·exact .inl h
 ·exact .inr (.inr (.inl (Ne.symm h)))
 ·exact .inr (.inr (.inr (.inr h)))
 ·exact .inr (.inr (.inr (.inl h)))
structure St (m : Mem) (w : World) (L : List Item) : Prop where
 os : w.os=m.pin.os
 tape : w.tape=m.pin.tape
 output : w.output=m.pin.output
 size : m.pin.heap.size ≤ w.heap.size
 pin : ∀ b,b < m.pin.heap.size→w.heap[b]? = m.pin.heap[b]?
 c : ∀ b i v,m.c b i=some v→w.cell? ⟨b,i,none⟩ = some v
 o : ∀ b x,m.o b=some x→w.heap[b]? = some x∧isCells x=false
 t : ∀ b x,m.t b=some x → ∃ arr fr,w.heap[b]? = some (.cells arr x.1 fr)∧arr.size=x.2
 items : ∀ x ∈ L,x.holds w
 free : ∀ x ∈ L,x.Free m
 disj : L.Pairwise Item.Disj
theorem St.perm {m : Mem} {w : World} {L L' : List Item} (h : St m w L) (p : L.Perm L') : St m w L' :=
 {h with
  items:=fun x hx=>h.items x (p.mem_iff.2 hx)
  free:=fun x hx=>h.free x (p.mem_iff.2 hx)
  disj:=p.pairwise h.disj fun hx=>hx.symm }
theorem St.sub {m : Mem} {w : World} {L L' : List Item} (h : St m w L) (p : L'.Sublist L) : St m w L' :=
 {h with
  items:=fun x hx=>h.items x (p.subset hx)
  free:=fun x hx=>h.free x (p.subset hx)
  disj:=h.disj.sublist p }
theorem St.drew {m : Mem} {w : World} {L : List Item} (h : St m w L) : St m w.drew L :=
 {os:=h.os,tape:=h.tape,output:=h.output,size:=h.size,pin:=h.pin,c:=h.c,o:=h.o,t:=h.t
  items:=fun x hx=>by have:=h.items x hx;cases x <;> exact this
  free:=h.free,disj:=h.disj }
theorem heap_alloc_lt (w : World) (o : Obj) {b : Nat} (h : b < w.heap.size) : (w.alloc o).heap[b]? = w.heap[b]?:=by
 show (w.heap.push o)[b]? = _
 simp [Array.getElem?_push,Nat.ne_of_lt h]
theorem heap_alloc_at (w : World) (o : Obj) : (w.alloc o).heap[w.heap.size]? = some o:=by
 show (w.heap.push o)[w.heap.size]? = _
 simp
theorem frozen_alloc_lt (w : World) (o : Obj) {a : Addr} (h : a.block < w.heap.size) : (w.alloc o).frozen? a=w.frozen? a :=
 World.frozen?_alloc_old w o a (Nat.ne_of_lt h)
theorem lt_of_heap {w : World} {b : Nat} {o : Obj} (h : w.heap[b]? = some o) : b < w.heap.size:=(Array.getElem?_eq_some_iff.1 h).1
theorem Item.holds_alloc {w : World} {x : Item} (o : Obj) (h : x.holds w) : x.holds (w.alloc o):=by
 cases x with
 | cells b off vs =>
  intro j v hv
  obtain ⟨h1,h2⟩:=h j v hv
  have hb:=World.block_lt_of_cell? _ _ h1
  exact ⟨(World.cell?_alloc_lt _ _ _ hb).trans h1,fun i=>(frozen_alloc_lt (a:=⟨b,i,none⟩) _ _ hb).trans (h2 i)⟩
 | room b off n =>
  intro j hj
  obtain ⟨v,h1,h2⟩:=h j hj
  have hb:=World.block_lt_of_cell? _ _ h1
  exact ⟨v,(World.cell?_alloc_lt _ _ _ hb).trans h1,fun i=>(frozen_alloc_lt (a:=⟨b,i,none⟩) _ _ hb).trans (h2 i)⟩
 | obj b o' =>
  exact ⟨(heap_alloc_lt _ _ (lt_of_heap h.1)).trans h.1,h.2⟩
theorem Item.blk_lt {w : World} {x : Item} (h : x.holds w) (hl : 0 < x.len) : x.blk < w.heap.size:=by
 cases x with
 | cells b off vs =>
  have : 0 < vs.length:=hl
  obtain ⟨h1,_⟩:=h 0 vs[0] (by simp)
  exact World.block_lt_of_cell? _ _ h1
 | room b off n =>
  obtain ⟨v,h1,_⟩:=h 0 hl
  exact World.block_lt_of_cell? _ _ h1
 | obj b o=>exact lt_of_heap h.1
theorem St.push {m : Mem} {w : World} {L : List Item} {o : Obj} {x : Item} (h : St m w L) (hb : x.blk=w.heap.size) (hx : x.holds (w.alloc o)) :
  St m (w.alloc o) (x :: L) where
 os:=h.os
 tape:=h.tape
 output:=h.output
 size:=by have:=h.size;simp;omega
 pin:=fun b hlt=>(heap_alloc_lt _ _ (Nat.lt_of_lt_of_le hlt h.size)).trans (h.pin b hlt)
 c:=fun b i v hv=>by
  have h1:=h.c b i v hv
  exact (World.cell?_alloc_lt _ _ _ (World.block_lt_of_cell? _ _ h1)).trans h1
 o:=fun b x hx=>by
  have h1:=h.o b x hx
  exact ⟨(heap_alloc_lt _ _ (lt_of_heap h1.1)).trans h1.1,h1.2⟩
 t:=fun b x hx=>by
  obtain ⟨arr,fr,h1,h2⟩:=h.t b x hx
  exact ⟨arr,fr,(heap_alloc_lt _ _ (lt_of_heap h1)).trans h1,h2⟩
 items:=fun y hy=>by
  rcases List.mem_cons.1 hy with rfl | hy
  ·exact hx
  ·exact Item.holds_alloc _ (h.items y hy)
 free:=fun y hy=>by
  rcases List.mem_cons.1 hy with rfl | hy
  ·refine ⟨fun _=>by rw [hb];exact h.size,fun j hj => ?_,fun b o e => ?_⟩
   ·cases hc : m.c y.blk (y.off + j) with
    | none=>rfl
    | some v =>
     have:=World.block_lt_of_cell? _ _ (h.c _ _ _ hc)
     simp only at this
     omega
   ·subst e
    cases ho : m.o b with
    | none=>rfl
    | some v =>
     have:=lt_of_heap (h.o _ _ ho).1
     simp only [Item.blk] at hb
     omega
  ·exact h.free y hy
 disj:=by
  refine List.pairwise_cons.2 ⟨fun y hy => ?_,h.disj⟩
  by_cases hl : 0 < y.len
  ·have:=Item.blk_lt (h.items y hy) hl
   exact .inr (.inr (.inl (by omega)))
  ·exact .inr (.inl (by omega))
theorem cell_new (w : World) (arr : Array Value) (t : TypeId) (i : Nat) : (w.alloc (.cells arr t)).cell? ⟨w.heap.size,i,none⟩ = arr[i]? :=
 World.cell?_alloc_new w arr t i
theorem St.allocCells {m : Mem} {w : World} {L : List Item} (h : St m w L) (arr : Array Value) (t : TypeId) :
  St m (w.alloc (.cells arr t)) (.cells w.heap.size 0 arr.toList :: L):=by
 refine h.push (x := .cells w.heap.size 0 arr.toList) rfl fun j v hv => ?_
 simp only [Nat.zero_add]
 exact ⟨by rw [cell_new];simpa using hv,fun _=>World.frozen?_alloc_new _ _ _ _⟩
theorem heap_setCell_ne (w : World) (a : Addr) (v : Value) {b : Nat} (h : a.block ≠ b) : (w.setCell a v).heap[b]? = w.heap[b]?:=by
 simp only [World.setCell,Array.getElem?_modify]
 simp [h]
theorem heap_setCell_obj (w : World) (a : Addr) (v : Value) {b : Nat} {o : Obj} (h : w.heap[b]? = some o) (ho : isCells o=false) : (w.setCell a v).heap[b]? = some o:=by
 simp only [World.setCell,Array.getElem?_modify,h]
 split
 ·cases o <;> simp_all [isCells]
 ·rfl
theorem Item.holds_setCell {w : World} {x : Item} (a : Addr) (v : Value) (h : x.holds w) (hd : ∀ j,j < x.len→a ≠ ⟨x.blk,x.off + j,none⟩) : x.holds (w.setCell a v):=by
 cases x with
 | cells b off vs =>
  intro j u hu
  obtain ⟨h1,h2⟩:=h j u hu
  have hj : j < vs.length:=(List.getElem?_eq_some_iff.1 hu).1
  exact ⟨(World.cell?_setCell_other _ _ _ _ (hd j hj)).trans h1,fun i=>by rw [World.frozen?_setCell];exact h2 i⟩
 | room b off n =>
  intro j hj
  obtain ⟨u,h1,h2⟩:=h j hj
  exact ⟨u,(World.cell?_setCell_other _ _ _ _ (hd j hj)).trans h1,fun i=>by rw [World.frozen?_setCell];exact h2 i⟩
 | obj b o=>exact ⟨heap_setCell_obj _ _ _ h.1 h.2,h.2⟩
theorem heap_setCell_shape (w : World) (a : Addr) (v : Value) {b : Nat} {arr : Array Value} {e : TypeId} {fr : Nat × Nat} (h : w.heap[b]? = some (.cells arr e fr)) : ∃ arr',(w.setCell a v).heap[b]? = some (.cells arr' e fr)∧arr'.size=arr.size:=by
 simp only [World.setCell,Array.getElem?_modify,h]
 split
 ·refine ⟨_,rfl, ?_⟩
  split <;> simp
 ·exact ⟨arr,rfl,rfl⟩
theorem St.set {m : Mem} {w : World} {L : List Item} {b off : Nat} {vs : List Value} (h : St m w (.cells b off vs :: L)) {j : Nat} (hj : j < vs.length) (v : Value) :
  St m (w.setCell ⟨b,off + j,none⟩ v) (.cells b off (vs.set j v) :: L):=by
 have hx:=h.items _ (List.mem_cons_self ..)
 have hf:=h.free _ (List.mem_cons_self ..)
 have hd:=List.pairwise_cons.1 h.disj
 have hcell : ∀ i,i < vs.length→w.cell? ⟨b,off + i,none⟩ = some (vs[i]?.getD undef):=fun i hi=>by
  have:=(hx i vs[i] (by simp [hi])).1
  simpa [hi] using this
 refine { os:=h.os,tape:=h.tape,output:=h.output,size:=by simpa using h.size,pin:=fun k hk => ?_,c:=fun k i u hu => ?_,o:=fun k x hk => ?_,t:=fun k x hk=>(by obtain ⟨arr,fr,g1,g2⟩:=h.t k x hk;obtain ⟨arr',g3,g4⟩:=heap_setCell_shape w ⟨b,off + j,none⟩ v g1;exact ⟨arr',fr,g3,g4.trans g2⟩),items:=fun y hy => ?_,free:=fun y hy => ?_,disj := ?_ }
 ·have hp : m.pin.heap.size ≤ b:=hf.pin (by simp only [Item.len];omega)
  rw [heap_setCell_ne _ _ _ (show b ≠ k by omega)]
  exact h.pin k hk
 ·have hne : (⟨b,off + j,none⟩ : Addr) ≠ ⟨k,i,none⟩:=fun e=>by
   have h1 : b=k:=congrArg Addr.block e
   have h2 : off + j=i:=congrArg Addr.off e
   subst h1;subst h2
   have:=hf.c j hj
   simp only [Item.blk,Item.off] at this
   rw [this] at hu;cases hu
  exact (World.cell?_setCell_other _ _ _ _ hne).trans (h.c k i u hu)
 ·have:=h.o k x hk
  exact ⟨heap_setCell_obj _ _ _ this.1 this.2,this.2⟩
 ·rcases List.mem_cons.1 hy with rfl | hy
  ·intro i u hu
   simp only [World.frozen?_setCell]
   have hi : i < vs.length:=by have:=(List.getElem?_eq_some_iff.1 hu).1;simpa using this
   obtain ⟨h1,h2⟩:=hx i vs[i] (by simp [hi])
   refine ⟨?_,h2⟩
   by_cases hij : j=i
   ·subst hij
    rw [World.cell?_setCell_same _ _ _ (hcell j hi)]
    simpa [hi] using hu
   ·rw [World.cell?_setCell_other _ _ _ _ (fun e=>hij (by have:=congrArg Addr.off e;simp only at this;omega)),h1]
    rw [List.getElem?_set_ne hij] at hu
    simpa [hi] using hu
  ·refine Item.holds_setCell _ _ (h.items y (List.mem_cons_of_mem _ hy)) fun i hi e => ?_
   have h1 : b=y.blk:=congrArg Addr.block e
   have h2 : off + j=y.off + i:=congrArg Addr.off e
   rcases hd.1 y hy with hq | hq | hq | hq | hq <;> simp only [Item.len,Item.blk,Item.off] at hq h1 h2 hi
   ·omega
   ·omega
   ·exact hq h1
   ·omega
   ·omega
 ·rcases List.mem_cons.1 hy with rfl | hy
  ·exact ⟨fun hl=>hf.pin (by simpa [Item.len] using hl),fun i hi=>hf.c i (by simpa [Item.len] using hi),fun _ _ e=>by cases e⟩
  ·exact h.free y (List.mem_cons_of_mem _ hy)
 ·refine List.pairwise_cons.2 ⟨fun y hy => ?_,hd.2⟩
  have:=hd.1 y hy
  simpa [Item.Disj,Item.len,Item.blk,Item.off] using this
def Mem.addCells (m : Mem) (b off : Nat) (vs : List Value) : Mem :=
 {m with c:=fun k i=>if k=b∧off ≤ i∧i < off + vs.length then vs[i - off]? else m.c k i }
def At (m : Mem) (b off : Nat) (vs : List Value) : Prop := ∀ j v,vs[j]? = some v→m.c b (off + j)=some v
theorem At.mono {m m' : Mem} {b off : Nat} {vs : List Value} (h : At m b off vs) (hm : m ≤ m') : At m' b off vs:=fun j v hv=>hm.c _ _ _ (h j v hv)
theorem Mem.addCells_le {m : Mem} {b off : Nat} {vs : List Value} (hf : ∀ j,j < vs.length→m.c b (off + j)=none) : m ≤ m.addCells b off vs:=by
 refine ⟨rfl,fun k i v hv => ?_,fun _ _ h=>h,fun _ _ h=>h⟩
 simp only [Mem.addCells]
 split
 ·rename_i hc
  obtain ⟨rfl,h1,h2⟩:=hc
  have:=hf (i - off) (by omega)
  rw [show off + (i - off)=i by omega] at this
  rw [this] at hv;cases hv
 ·exact hv
theorem Mem.at_addCells (m : Mem) (b off : Nat) (vs : List Value) : At (m.addCells b off vs) b off vs:=by
 intro j v hv
 have hj : j < vs.length:=(List.getElem?_eq_some_iff.1 hv).1
 have hc : b=b∧off ≤ off + j∧off + j < off + vs.length:=⟨rfl,by omega,by omega⟩
 show (if b=b∧off ≤ off + j∧off + j < off + vs.length then vs[off + j - off]? else m.c b (off + j))=some v
 rw [if_pos hc,show off + j - off=j by omega]
 exact hv
theorem St.freeze {m : Mem} {w : World} {L : List Item} {b off : Nat} {vs : List Value} (h : St m w (.cells b off vs :: L)) :
  m ≤ m.addCells b off vs∧At (m.addCells b off vs) b off vs∧St (m.addCells b off vs) w L:=by
 have hx:=h.items _ (List.mem_cons_self ..)
 have hf:=h.free _ (List.mem_cons_self ..)
 have hd:=List.pairwise_cons.1 h.disj
 have hle:=Mem.addCells_le (m:=m) (b:=b) (off:=off) (vs:=vs) hf.c
 refine ⟨hle,Mem.at_addCells m b off vs,{ os:=h.os,tape:=h.tape,output:=h.output,size:=h.size,pin:=h.pin,c:=fun k i u hu => ?_,o:=h.o,t:=h.t,items:=fun y hy=>h.items y (List.mem_cons_of_mem _ hy),free:=fun y hy => ?_,disj:=hd.2 }⟩
 ·simp only [Mem.addCells] at hu
  split at hu
  ·rename_i hc
   obtain ⟨rfl,h1,h2⟩:=hc
   have:=(hx (i - off) u hu).1
   rwa [show off + (i - off)=i by omega] at this
  ·exact h.c k i u hu
 ·have hy':=h.free y (List.mem_cons_of_mem _ hy)
  refine ⟨hy'.pin,fun j hj => ?_,hy'.o⟩
  simp only [Mem.addCells]
  split
  ·rename_i hc
   rcases hd.1 y hy with hq | hq | hq | hq | hq <;> simp only [Item.len,Item.blk,Item.off] at hq
   ·omega
   ·simp only [Item.len] at hj;omega
   ·exact absurd hc.1.symm hq
   ·simp only [Item.off] at hc hj;omega
   ·simp only [Item.off,Item.len] at hc hj;omega
  ·exact hy'.c j hj
theorem St.ofItems {m : Mem} {w : World} {L L' : List Item} (h : St m w L) (hi : ∀ x ∈ L',x.holds w) (hf : ∀ x ∈ L',x.Free m) (hd : L'.Pairwise Item.Disj) : St m w L' :=
 {h with items:=hi,free:=hf,disj:=hd }
theorem St.split {m : Mem} {w : World} {L : List Item} {b off : Nat} {vs us : List Value} (h : St m w (.cells b off (vs++us) :: L)) :
  St m w (.cells b off vs :: .cells b (off + vs.length) us :: L):=by
 have hx:=h.items _ (List.mem_cons_self ..)
 have hf:=h.free _ (List.mem_cons_self ..)
 have hd:=List.pairwise_cons.1 h.disj
 refine h.ofItems (fun y hy => ?_) (fun y hy => ?_) ?_
 ·rcases List.mem_cons.1 hy with rfl | hy
  ·intro j v hv
   exact hx j v (by rw [List.getElem?_append_left (List.getElem?_eq_some_iff.1 hv).1];exact hv)
  ·rcases List.mem_cons.1 hy with rfl | hy
   ·intro j v hv
    have:=hx (vs.length + j) v (by rw [List.getElem?_append_right (by omega)];simpa using hv)
    rwa [← Nat.add_assoc] at this
   ·exact h.items y (List.mem_cons_of_mem _ hy)
 ·rcases List.mem_cons.1 hy with rfl | hy
  ·exact ⟨fun hl=>hf.pin (by simp [Item.len] at hl ⊢;omega),fun j hj=>hf.c j (by simp [Item.len] at hj ⊢;omega),fun _ _ e=>by cases e⟩
  ·rcases List.mem_cons.1 hy with rfl | hy
   ·refine ⟨fun hl=>hf.pin (by simp [Item.len] at hl ⊢;omega),fun j hj => ?_,fun _ _ e=>by cases e⟩
    have:=hf.c (vs.length + j) (by simp [Item.len] at hj ⊢;omega)
    simpa [Item.blk,Item.off,Nat.add_assoc] using this
   ·exact h.free y (List.mem_cons_of_mem _ hy)
 ·refine List.pairwise_cons.2 ⟨fun y hy => ?_,List.pairwise_cons.2 ⟨fun y hy => ?_,hd.2⟩⟩
  ·rcases List.mem_cons.1 hy with rfl | hy
   ·exact .inr (.inr (.inr (.inl (by simp [Item.len,Item.off]))))
   ·rcases hd.1 y hy with hq | hq | hq | hq | hq <;> simp only [Item.len,Item.blk,Item.off,List.length_append] at hq
    ·exact .inl (by simp only [Item.len];omega)
    ·exact .inr (.inl hq)
    ·exact .inr (.inr (.inl hq))
    ·exact .inr (.inr (.inr (.inl (by simp only [Item.len,Item.off];omega))))
    ·exact .inr (.inr (.inr (.inr hq)))
  ·rcases hd.1 y hy with hq | hq | hq | hq | hq <;> simp only [Item.len,Item.blk,Item.off,List.length_append] at hq
   ·exact .inl (by simp only [Item.len];omega)
   ·exact .inr (.inl hq)
   ·exact .inr (.inr (.inl hq))
   ·exact .inr (.inr (.inr (.inl (by simp only [Item.len,Item.off];omega))))
   ·exact .inr (.inr (.inr (.inr (by simp only [Item.len,Item.off];omega))))
theorem St.toRoom {m : Mem} {w : World} {L : List Item} {b off : Nat} {vs : List Value} (h : St m w (.cells b off vs :: L)) : St m w (.room b off vs.length :: L):=by
 have hx:=h.items _ (List.mem_cons_self ..)
 have hf:=h.free _ (List.mem_cons_self ..)
 have hd:=List.pairwise_cons.1 h.disj
 refine h.ofItems (fun y hy => ?_) (fun y hy => ?_) (List.pairwise_cons.2 ⟨fun y hy => ?_,hd.2⟩)
 ·rcases List.mem_cons.1 hy with rfl | hy
  ·intro j hj
   exact ⟨vs[j],hx j vs[j] (by simp [hj])⟩
  ·exact h.items y (List.mem_cons_of_mem _ hy)
 ·rcases List.mem_cons.1 hy with rfl | hy
  ·exact ⟨hf.pin,hf.c,fun _ _ e=>by cases e⟩
  ·exact h.free y (List.mem_cons_of_mem _ hy)
 ·exact hd.1 y hy
theorem St.ofRoom {m : Mem} {w : World} {L : List Item} {b off n : Nat} (h : St m w (.room b off n :: L)) : ∃ vs : List Value,vs.length=n∧St m w (.cells b off vs :: L):=by
 have hx:=h.items _ (List.mem_cons_self ..)
 have hf:=h.free _ (List.mem_cons_self ..)
 have hd:=List.pairwise_cons.1 h.disj
 refine ⟨(List.range n).map fun j=>(w.cell? ⟨b,off + j,none⟩).getD undef,by simp, ?_⟩
 refine h.ofItems (fun y hy => ?_) (fun y hy => ?_) (List.pairwise_cons.2 ⟨fun y hy => ?_,hd.2⟩)
 ·rcases List.mem_cons.1 hy with rfl | hy
  ·intro j v hv
   have hj : j < n:=by have:=(List.getElem?_eq_some_iff.1 hv).1;simpa using this
   obtain ⟨u,h1,h2⟩:=hx j hj
   simp [hj,h1] at hv
   subst hv
   exact ⟨h1,h2⟩
  ·exact h.items y (List.mem_cons_of_mem _ hy)
 ·rcases List.mem_cons.1 hy with rfl | hy
  ·exact ⟨fun hl=>hf.pin (by simpa [Item.len] using hl),fun j hj=>hf.c j (by simpa [Item.len] using hj),fun _ _ e=>by cases e⟩
  ·exact h.free y (List.mem_cons_of_mem _ hy)
 ·have:=hd.1 y hy
  simpa [Item.Disj,Item.len,Item.blk,Item.off] using this
theorem perm_at : ∀ {L : List Item} {i : Nat} {x : Item},L[i]? = some x→L.Perm (x :: L.eraseIdx i)
 | [],i,x,h=>by simp at h
 | y :: L,0,x,h=>by
  simp at h;subst h;exact List.Perm.refl _
 | y :: L,i + 1,x,h=>by
  rw [List.getElem?_cons_succ] at h
  rw [List.eraseIdx_cons_succ]
  exact ((perm_at h).cons y).trans (List.Perm.swap x y _)
theorem perm_back {L : List Item} {i : Nat} (hi : i < L.length) (y : Item) : (y :: L.eraseIdx i).Perm (L.set i y):=by
 have h : (L.set i y)[i]? = some y:=by simp [hi]
 have:=perm_at h
 rw [List.eraseIdx_set_eq] at this
 exact this.symm
theorem St.at_ {m : Mem} {w : World} {L : List Item} {i : Nat} {x : Item} (h : St m w L) (hi : L[i]? = some x) : St m w (x :: L.eraseIdx i):=h.perm (perm_at hi)
theorem St.back {m : Mem} {w : World} {L : List Item} {i : Nat} {x y : Item} (hi : L[i]? = some x) (h : St m w (y :: L.eraseIdx i)) : St m w (L.set i y) :=
 h.perm (perm_back (List.getElem?_eq_some_iff.1 hi).1 y)
def Mem.addT (m : Mem) (b : Nat) (e : TypeId) (n : Nat) : Mem:={ m with t:=fun k=>if k=b then some (e,n) else m.t k }
theorem St.typed {m : Mem} {w : World} {L : List Item} {b : Nat} {e : TypeId} {arr : Array Value} {fr : Nat × Nat} (h : St m w L) (hb : w.heap[b]? = some (.cells arr e fr)) : m ≤ m.addT b e arr.size∧(m.addT b e arr.size).t b=some (e,arr.size)∧St (m.addT b e arr.size) w L:=by
 refine ⟨⟨rfl,fun _ _ _ h=>h,fun _ _ h=>h,fun k x hk => ?_⟩,by simp [Mem.addT],{ os:=h.os,tape:=h.tape,output:=h.output,size:=h.size,pin:=h.pin,c:=h.c,o:=h.o,t:=fun k x hk => ?_,items:=h.items,free:=fun y hy=>⟨(h.free y hy).pin,(h.free y hy).c,(h.free y hy).o⟩,disj:=h.disj }⟩
 ·simp only [Mem.addT]
  split
  ·rename_i e1
   subst e1
   obtain ⟨arr',fr',g1,g2⟩:=h.t k x hk
   rw [hb] at g1
   cases g1
   rw [g2]
  ·exact hk
 ·simp only [Mem.addT] at hk
  split at hk
  ·rename_i e1
   subst e1
   cases hk
   exact ⟨arr,fr,hb,rfl⟩
  ·exact h.t k x hk
end Go.Sep


/- SepB -/
set_option linter.unusedVariables false
set_option linter.unusedSimpArgs false
namespace Go.Sep
abbrev Env:=List (Nat × Value)
def look : Env→Nat→Option Value
 | [],_=>none
 | (i,v) :: r,j=>bif Nat.beq i j then some v else look r j
def ev (ρ : Env) : Operand→Option Value
 | .tmp t=>look ρ t
 | .const v=>some v
 | .global g=>some (.pointer (some ⟨g,0,none⟩))
 | .func f=>some (.func (.func f) #[] #[])
def fo : Option Value→Option Value
 | some (.bool b)=>some (.bool b)
 | some (.int k n)=>some (.int k n)
 | some (.float k n)=>some (.float k n)
 | some (.complex k a b)=>some (.complex k a b)
 | some (.string s)=>some (.string s)
 | some (.pointer a)=>some (.pointer a)
 | some (.slice a n c)=>some (.slice a n c)
 | some (.map r)=>some (.map r)
 | some (.chan r)=>some (.chan r)
 | some (.func f a b)=>some (.func f a b)
 | some .nilFunc=>some .nilFunc
 | some (.iface t v)=>some (.iface t v)
 | some .nilIface=>some .nilIface
 | some (.agg cs)=>some (.agg cs)
 | some (.tuple vs)=>some (.tuple vs)
 | none=>none
theorem fo_eq (x : Option Value) : fo x=x:=by cases x with
 | none=>rfl
 | some v=>cases v <;> rfl
def fl : List Value→Option (List Value)
 | []=>some []
 | x :: xs=>match fo (some x),fl xs with
  | some y,some ys=>some (y :: ys)
  | _,_=>none
theorem fl_eq : ∀ l : List Value,fl l=some l
 | []=>rfl
 | x :: xs=>by simp [fl,fo_eq,fl_eq xs]
structure TI where
 u : TypeDesc
 size : Nat
 bytes : Nat
 zero : Value
structure Tab (P : Program) where
 get : TypeId→Option TI
 ok : ∀ t i,get t=some i → ∃ info,P.info? t=some info∧P.underlying t=some i.u∧info.size=i.size∧info.bytes=i.bytes∧info.zero=some i.zero
 fields : ∀ t i,get t=some i → ∀ fs,i.u = .struct fs → ∀ f ∈ fs.toList, ∃ j,P.info? f.type=some j
def TypeDesc.isAgg : TypeDesc→Bool
 | .struct _ | .array _ _=>true
 | _=>false
def Tab.field {P : Program} (T : Tab P) (t : TypeId) (f : Nat) : Option Field :=
 match T.get t with
 | some ⟨.struct fs,_,_,_⟩=>fs.toList[f]?
 | _=>none
def Tab.isAgg {P : Program} (T : Tab P) (t : TypeId) : Option (Bool × Nat) :=
 match T.get t with
 | some i=>some (TypeDesc.isAgg i.u,i.size)
 | none=>none
def Tab.part {P : Program} (T : Tab P) (t : TypeId) (cs : List Value) (off : Nat) : Option Value :=
 match T.isAgg t with
 | some (true,n)=>match fl ((cs.drop off).take n) with
  | some l=>some (.agg ⟨l⟩)
  | none=>none
 | some (false,_)=>fo cs[off]?
 | none=>none
def evs (ρ : Env) : List Operand→Option (List Value)
 | []=>some []
 | x :: xs=>match fo (ev ρ x),evs ρ xs with
  | some y,some ys=>some (y :: ys)
  | _,_=>none
def cmpInt (op : BinOp) (a b : Int) : Option Value :=
 match op with
 | .eql=>some (.bool (decide (a=b)))
 | .neq=>some (.bool (!decide (a=b)))
 | .lss=>some (.bool (decide (a < b)))
 | .leq=>some (.bool (decide (a ≤ b)))
 | .gtr=>some (.bool (decide (b < a)))
 | .geq=>some (.bool (decide (b ≤ a)))
 | _=>none
def cmpStr (op : BinOp) (a b : List UInt8) : Option Value :=
 match op with
 | .eql=>some (.bool (decide (a=b)))
 | .neq=>some (.bool (!decide (a=b)))
 | _=>none
def sameKind (a b : IntKind) : Bool :=
 match a,b with
 | .i8, .i8 | .i16, .i16 | .i32, .i32 | .i64, .i64 | .u8, .u8 | .u16, .u16 | .u32, .u32 | .u64, .u64=>true
 | _,_=>false
theorem sameKind_eq {a b : IntKind} (h : sameKind a b=true) : a=b:=by cases a <;> cases b <;> first | rfl | cases h
def evalBin (op : BinOp) : Option Value→Option Value→Option Value
 | some (.int k a),some (.int k' b)=>bif sameKind k k' then cmpInt op a b else none
 | some (.string ⟨⟨a⟩⟩),some (.string ⟨⟨b⟩⟩)=>cmpStr op a b
 | _,_=>none
def cellsF : Value→Option (List Value)
 | .agg ⟨cs⟩=>fl cs
 | .tuple _=>none
 | v=>match fo (some v) with
  | some u=>some [u]
  | none=>none
theorem cellsF_eq {v : Value} {cs : List Value} (h : cellsF v=some cs) : v.cells = ⟨cs⟩:=by
 unfold cellsF at h
 split at h
 ·rw [fl_eq] at h;simp only [Option.some.injEq] at h;subst h;rfl
 ·cases h
 ·rename_i h1 h2
  rw [fo_eq] at h
  simp only [Option.some.injEq] at h;subst h
  cases v <;> first | rfl | exact (h1 _ rfl).elim
def putAt : List Value→Nat→List Value→List Value
 | vs,_,[]=>vs
 | vs,k,c :: cs=>putAt (vs.set k c) (k + 1) cs
theorem putAt_length : ∀ (cs vs : List Value) (k : Nat),(putAt vs k cs).length=vs.length
 | [],vs,k=>rfl
 | c :: cs,vs,k=>by simp [putAt,putAt_length cs]
def fillF {P : Program} (T : Tab P) (ρ : Env) (fs : List Field) : List Value→List (Nat × Operand)→Option (List Value)
 | cs,[]=>fl cs
 | cs,(i,x) :: r=>match fs[i]? with
  | some f=>match T.get f.type,ev ρ x with
   | some ti,some v=>match cellsF v with
    | some vs=>bif Nat.beq vs.length ti.size && Nat.ble (f.offset + vs.length) cs.length then (match fl (putAt cs f.offset vs) with
      | some cs'=>fillF T ρ fs cs' r
      | none=>none) else none
    | none=>none
   | _,_=>none
  | none=>none
def evalOp {P : Program} (T : Tab P) (ρ : Env) : Op→Option Value
 | .move x | .assign x=>fo (ev ρ x)
 | .pick c a b=>match ev ρ c with
  | some (.bool true)=>fo (ev ρ a)
  | some (.bool false)=>fo (ev ρ b)
  | _=>none
 | .nilCheck x=>match ev ρ x with
  | some (.pointer (some a))=>some (.pointer (some a))
  | _=>none
 | .fieldAddr s x f=>match ev ρ x,T.field s f with
  | some (.pointer (some ⟨b,o,none⟩)),some fl=>match T.isAgg fl.type with
   | some (_,n + 1)=>some (.pointer (some ⟨b,o + fl.offset,none⟩))
   | _=>none
  | _,_=>none
 | .field s x f=>match ev ρ x,T.field s f with
  | some (.agg ⟨cs⟩),some fl=>T.part fl.type cs fl.offset
  | _,_=>none
 | .extract t i=>match ev ρ t with
  | some (.tuple ⟨vs⟩)=>fo vs[i]?
  | _=>none
 | .binOp op _ x y _=>evalBin op (ev ρ x) (ev ρ y)
 | .unOp .not _ x=>match ev ρ x with
  | some (.bool b)=>some (.bool (!b))
  | _=>none
 | .build t ⟨ps⟩=>match T.get t with
  | some ⟨.struct fs,_,_,z⟩=>match cellsF z with
   | some zs=>match fillF T ρ fs.toList zs ps with
    | some l=>some (.agg ⟨l⟩)
    | none=>none
   | none=>none
  | _=>none
 | .makeFunc fn ⟨first⟩ ⟨cap⟩=>match evs ρ first,evs ρ cap with
  | some a,some b=>some (.func fn ⟨a⟩ ⟨b⟩)
  | _,_=>none
 | .call ⟨.builtin .min,⟨[x,y]⟩,_⟩=>match ev ρ x,ev ρ y with
  | some (.int k a),some (.int _ b)=>some (.int k (if b < a then b else a))
  | _,_=>none
 | .call ⟨.builtin .len,⟨[x]⟩,⟨[t]⟩⟩=>match ev ρ x,T.get t with
  | some (.slice _ n _),some ⟨.slice _,_,_,_⟩=>some (.int .i64 (n : Int))
  | some (.string ⟨⟨s⟩⟩),some ⟨.string,_,_,_⟩=>some (.int .i64 (s.length : Int))
  | _,_=>none
 | _=>none
def Agree (a : Act) (ρ : Env) : Prop := ∀ i v,look ρ i=some v→a.tmps[i]? = some v
theorem Agree.eval {a : Act} {ρ : Env} (h : Agree a ρ) {x : Operand} {v : Value} (hx : ev ρ x=some v) : a.eval x=v:=by
 cases x with
 | tmp t =>
  have:=h t v hx
  simp [Act.eval,this]
 | const u=>simpa [ev,Act.eval] using hx
 | global g=>simpa [ev,Act.eval] using hx
 | func f=>simpa [ev,Act.eval] using hx
theorem Agree.evals {a : Act} {ρ : Env} (h : Agree a ρ) : ∀ {xs : List Operand} {vs : List Value},evs ρ xs=some vs→xs.map a.eval=vs
 | [],vs,hx=>by simp [evs] at hx;simp [hx]
 | x :: xs,vs,hx=>by
  simp only [evs,fo_eq] at hx
  split at hx
  ·rename_i y ys h1 h2
   cases hx
   simp [h.eval h1,h.evals h2]
  ·cases hx
theorem Agree.put {a : Act} {ρ : Env} (h : Agree a ρ) {d : Nat} (hd : d < a.tmps.size) (v : Value) : Agree (a.put (some d) v) ((d,v) :: ρ):=by
 intro i u hu
 simp only [look] at hu
 cases hb : Nat.beq d i with
 | true =>
  have : d=i:=Nat.eq_of_beq_eq_true hb
  subst this
  simp only [hb,cond_true,Option.some.injEq] at hu
  subst hu
  simp [Act.put,hd]
 | false =>
  have hne : d ≠ i:=Nat.ne_of_beq_eq_false hb
  simp only [hb,cond_false] at hu
  simp only [Act.put]
  rw [Array.getElem?_setIfInBounds_ne hne]
  exact h i u hu
@[simp] theorem put_size (a : Act) (d : Option Tmp) (v : Value) : (a.put d v).tmps.size=a.tmps.size:=by cases d <;> simp [Act.put]
@[simp] theorem put_defers (a : Act) (d : Option Tmp) (v : Value) : (a.put d v).defers=a.defers:=by cases d <;> rfl
section runs
variable {P : Program} (T : Tab P) (w : World)
theorem Tab.run_underlying {t : TypeId} {i : TI} (h : T.get t=some i) : (underlying t).run P w = .ok i.u w:=by
 obtain ⟨info,_,h2,_⟩:=T.ok t i h
 simp [underlying,h2]
theorem Tab.run_sizeOf {t : TypeId} {i : TI} (h : T.get t=some i) : (sizeOf t).run P w = .ok i.size w:=by
 obtain ⟨info,h1,_,h3,_⟩:=T.ok t i h
 simp [sizeOf,typeInfo,h1,h3]
theorem Tab.run_isAgg {t : TypeId} {i : TI} (h : T.get t=some i) : (Go.isAgg t).run P w = .ok (TypeDesc.isAgg i.u) w:=by
 have hu:=T.run_underlying w h
 simp only [Go.isAgg,Sem.run_bind,hu,Result.andThen_ok]
 cases i.u <;> rfl
theorem Tab.run_zero {t : TypeId} {i : TI} (h : T.get t=some i) : (zeroValue t).run P w = .ok i.zero w:=by
 obtain ⟨info,h1,_,_,_,h5⟩:=T.ok t i h
 simp [zeroValue,typeInfo,h1,h5]
theorem Tab.run_part {t : TypeId} {cs : List Value} {off : Nat} {v : Value} (h : T.part t cs off=some v) : (Go.part t ⟨cs⟩ off).run P w = .ok v w:=by
 unfold Tab.part Tab.isAgg at h
 split at h
 ·rename_i n hi
  split at hi
  ·rename_i i hg
   simp only [Option.some.injEq,Prod.mk.injEq] at hi
   obtain ⟨h1,h2⟩:=hi
   rw [fl_eq] at h
   simp only [Option.some.injEq] at h
   subst h
   simp only [Go.part,Sem.run_bind,T.run_isAgg w hg,T.run_sizeOf w hg,Result.andThen_ok,h1,if_true,h2,Sem.run_pure]
   congr 2
   apply Array.ext'
   rw [Array.toList_extract]
   simp [List.extract_eq_take_drop]
  ·cases hi
 ·rename_i n hi
  split at hi
  ·rename_i i hg
   simp only [Option.some.injEq,Prod.mk.injEq] at hi
   rw [fo_eq] at h
   have hc : (⟨cs⟩ : Array Value)[off]? = some v:=by simpa using h
   simp only [Go.part,Sem.run_bind,T.run_isAgg w hg,Result.andThen_ok,hi.1,Bool.false_eq_true,if_false,hc,Sem.run_pure]
  ·cases hi
 ·cases h
theorem beq_dec {α : Type} [BEq α] [LawfulBEq α] [DecidableEq α] (a b : α) : (a == b)=decide (a=b):=by rw [Bool.eq_iff_iff];simp
theorem toList_mk (s : List UInt8) : (ByteArray.mk ⟨s⟩).toList=s:=by
 rw [ByteArray.toList_eq]
theorem run_bin {op : BinOp} {x y v : Value} (t : TypeId) (X Y : Operand) (h : evalBin op (some x) (some y)=some v) :
  (do eqGuard op t X Y x y;binOp op t x y : Sem Value).run P w = .ok v w:=by
 have hg : (eqGuard op t X Y x y).run P w = .ok () w:=by
  unfold evalBin at h
  split at h <;> first | (cases h;done) | skip
  all_goals
   rename_i e1 e2
   simp only [Option.some.injEq] at e1 e2
   subst e1;subst e2
   cases op <;> simp [eqGuard]
 simp only [Sem.run_bind,hg,Result.andThen_ok]
 unfold evalBin at h
 split at h
 ·rename_i k a k' b e1 e2
  simp only [Option.some.injEq] at e1 e2
  subst e1;subst e2
  cases hk : sameKind k k' with
  | false=>simp [hk] at h
  | true =>
   have:=sameKind_eq hk
   subst this
   simp only [hk,cond_true] at h
   cases op <;> simp only [cmpInt,Option.some.injEq] at h <;> first | (cases h;done) | (subst h;simp [binOp,Op.intCmp,bne];try rw [beq_dec])
 ·rename_i a b e1 e2
  simp only [Option.some.injEq] at e1 e2
  subst e1;subst e2
  cases op <;> simp only [cmpStr,Option.some.injEq] at h <;> first | (cases h;done) | (subst h;simp only [binOp,Op.stringOp,toList_mk,Sem.run_pure,beq_dec])
 ·cases h
theorem foldl_putAt : ∀ (vs cs : List Value) (off k : Nat),((vs.zipIdx k).foldl (fun (a : Array Value) (p : Value × Nat)=>a.setIfInBounds (off + p.2) p.1) ⟨cs⟩) = ⟨putAt cs (off + k) vs⟩
 | [],cs,off,k=>rfl
 | v :: vs,cs,off,k=>by
  simp only [List.zipIdx_cons,List.foldl_cons,putAt]
  have e : (⟨cs⟩ : Array Value).setIfInBounds (off + k) v = ⟨cs.set (off + k) v⟩:=by apply Array.ext';simp
  rw [e,foldl_putAt vs _ off (k + 1),Nat.add_assoc]
theorem run_fill {a : Act} {ρ : Env} (hA : Agree a ρ) (fs : List Field) (place : Nat→Option (Nat × Nat)) (hp : ∀ (i : Nat) (f : Field) (ti : TI),fs[i]? = some f→T.get f.type=some ti→place i=some (f.offset,ti.size)) :
  ∀ (ps : List (Nat × Operand)) (cs l : List Value),fillF T ρ fs cs ps=some l→Instr.fill place ⟨cs⟩ (ps.map fun p=>(p.1,a.eval p.2))=some ⟨l⟩
 | [],cs,l,h=>by
  simp only [fillF,fl_eq,Option.some.injEq] at h;subst h;rfl
 | (i,x) :: r,cs,l,h=>by
  unfold fillF at h
  split at h
  ·rename_i f hf
   split at h
   ·rename_i ti v ht hv
    split at h
    ·rename_i vs hvs
     cases hb : (Nat.beq vs.length ti.size && Nat.ble (f.offset + vs.length) cs.length) with
     | false=>simp [hb] at h
     | true =>
      simp only [hb,cond_true,fl_eq] at h
      simp only [Bool.and_eq_true] at hb
      have h1:=Nat.eq_of_beq_eq_true hb.1
      have h2:=Nat.le_of_ble_eq_true hb.2
      have ih:=run_fill hA fs place hp r _ l h
      have hc:=cellsF_eq hvs
      simp only [List.map_cons,Instr.fill,hp i f ti hf ht,hA.eval hv,hc]
      have hn : ¬ ((⟨vs⟩ : Array Value).size ≠ ti.size ∨ f.offset + (⟨vs⟩ : Array Value).size > (⟨cs⟩ : Array Value).size):=by
       simp;omega
      have e:=foldl_putAt vs cs f.offset 0
      simp only [Nat.add_zero] at e
      have hz : (⟨vs⟩ : Array Value).zipIdx = ⟨vs.zipIdx⟩:=by apply Array.ext';simp
      have e2 : Array.foldl (fun (a : Array Value) (p : Value × Nat)=>a.setIfInBounds (f.offset + p.2) p.1) (⟨cs⟩ : Array Value) (⟨vs⟩ : Array Value).zipIdx = ⟨putAt cs f.offset vs⟩:=by
       rw [← Array.foldl_toList,hz];exact e
      rw [if_neg (by simpa using hn)]
      exact (congrArg (fun z=>Instr.fill place z (r.map fun p=>(p.1,a.eval p.2))) e2).trans ih
    ·cases h
   ·cases h
  ·cases h
theorem run_places (fs : List Field) (w : World) (hall : ∀ f ∈ fs, ∃ i,P.info? f.type=some i) :
  ∃ ps : List (Nat × Nat),(fs.mapM (m:=Sem) fun (f : Field)=>do pure (f.offset,← sizeOf f.type)).run P w = .ok ps w ∧ ∀ (i : Nat) (f : Field) (ti : TI),fs[i]? = some f→T.get f.type=some ti→ps[i]? = some (f.offset,ti.size):=by
 induction fs with
 | nil=>exact ⟨[],rfl,fun i f ti h=>by simp at h⟩
 | cons f fs ih =>
  obtain ⟨ps,h1,h2⟩:=ih fun g hg=>hall g (List.mem_cons_of_mem _ hg)
  obtain ⟨info,hi⟩:=hall f (List.mem_cons_self ..)
  refine ⟨(f.offset,info.size) :: ps, ?_,fun i g ti hg ht => ?_⟩
  ·rw [List.mapM_cons]
   simp only [Sem.run_bind,sizeOf,typeInfo,run_program,Result.andThen_ok,hi,Sem.run_pure] at h1 ⊢
   rw [h1]
   rfl
  ·cases i with
   | zero =>
    simp at hg;subst hg
    obtain ⟨info',k1,_,k3,_⟩:=T.ok _ _ ht
    rw [hi] at k1;cases k1
    simp [k3]
   | succ i =>
    rw [List.getElem?_cons_succ] at hg ⊢
    exact h2 i g ti hg ht
theorem run_fieldAddr {s : TypeId} {b o f n : Nat} {fd : Field} {g : Bool} (hf : T.field s f=some fd) (hn : T.isAgg fd.type=some (g,n + 1)) :
  (Instr.fieldAt s (.pointer (some ⟨b,o,none⟩)) f).run P w = .ok (.pointer (some ⟨b,o + fd.offset,none⟩)) w:=by
 unfold Tab.field at hf
 split at hf
 ·rename_i fs sz by_ z hg
  have hu:=T.run_underlying w hg
  unfold Tab.isAgg at hn
  split at hn
  ·rename_i i hi
   simp only [Option.some.injEq,Prod.mk.injEq] at hn
   have hf' : fs[f]? = some fd:=by simpa using hf
   have hs:=T.run_sizeOf w hi
   have hadd : (⟨b,o,none⟩ : Addr).add fd.offset = ⟨b,o + fd.offset,none⟩:=by
    unfold Addr.add;split <;> simp_all
   simp only [Instr.fieldAt,Sem.run_bind,hu,Result.andThen_ok,hf',Instr.sureAddr,Sem.run_pure,fieldPlace,hs,hn.2,hadd]
   simp
  ·cases hn
 ·cases hf
end runs
theorem evalOp_run {P : Program} (T : Tab P) {a : Act} {ρ : Env} (hA : Agree a ρ) {o : Oper} {v : Value} (h : evalOp T ρ o.op=some v) (w : World) :
  (execOp a.eval o).run P w = .ok (.value v) w:=by
 obtain ⟨dst,op,ty,pos,after,guard⟩:=o
 simp only at h
 unfold evalOp at h
 split at h
 ·rw [fo_eq] at h;simp [execOp,hA.eval h]
 ·rw [fo_eq] at h;simp [execOp,hA.eval h]
 ·split at h
  ·rename_i hc;rw [fo_eq] at h;simp [execOp,hA.eval h,hA.eval hc,asBool]
  ·rename_i hc;rw [fo_eq] at h;simp [execOp,hA.eval h,hA.eval hc,asBool]
  ·cases h
 ·split at h
  ·rename_i hc;cases h;simp [execOp,hA.eval hc]
  ·cases h
 ·split at h
  ·rename_i hx hf
   split at h
   ·rename_i hn
    cases h
    simp only [execOp,hA.eval hx,Sem.run_bind,run_fieldAddr T w hf hn,Result.andThen_ok,Sem.run_pure]
   ·cases h
  ·cases h
 ·split at h
  ·rename_i cs fd hx hf
   have hp:=T.run_part w h
   unfold Tab.field at hf
   split at hf
   ·rename_i fs sz by_ z hg
    have hf' : ∀ k : Nat,fs.toList[k]? = some fd→fs[k]? = some fd:=fun k hk=>by simpa using hk
    have hf':=hf' _ hf
    simp only [execOp,hA.eval hx,Sem.run_bind,Instr.field,T.run_underlying w hg,Result.andThen_ok,hf',asAgg,Sem.run_pure,hp]
   ·cases hf
  ·cases h
 ·split at h
  ·rename_i vs hx
   rw [fo_eq] at h
   have h' : ∀ k : Nat,vs[k]? = some v→(⟨vs⟩ : Array Value)[k]? = some v:=fun k hk=>by simpa using hk
   have h':=h' _ h
   simp only [execOp,hA.eval hx,Sem.run_bind,Instr.extract,h',Sem.run_pure,Result.andThen_ok]
  ·cases h
 ·rename_i bop t x y u
  cases hx : ev ρ x with
  | none=>simp [hx,evalBin] at h
  | some xv =>
   cases hy : ev ρ y with
   | none=>simp [hx,hy,evalBin] at h
   | some yv =>
    rw [hx,hy] at h
    have:=run_bin (P:=P) w t x y h
    simp only [execOp,hA.eval hx,hA.eval hy,Sem.run_bind,Sem.run_pure] at this ⊢
    rw [this];rfl
 ·split at h
  ·rename_i hx;cases h;simp [execOp,hA.eval hx,Op.unary]
  ·cases h
 ·rename_i t ps
  split at h
  ·rename_i fs sz by_ z hg
   split at h
   ·rename_i zs hz
    split at h
    ·rename_i l hl
     simp only [Option.some.injEq] at h;subst h
     have hzv:=T.run_zero w hg
     have hu:=T.run_underlying w hg
     obtain ⟨pl,hp1,hp2⟩:=run_places T fs.toList w (T.fields _ _ hg fs rfl)
     have hfill:=run_fill T hA fs.toList (fun i=>(⟨pl⟩ : Array (Nat × Nat))[i]?) (fun i f ti h1 h2=>by simpa using hp2 i f ti h1 h2) ps zs l hl
     have hmap : (fs.mapM (m:=Sem) fun (f : Field)=>do pure (f.offset,← sizeOf f.type)).run P w = .ok ⟨pl⟩ w:=by
      rw [Array.mapM_eq_mapM_toList,Sem.run_map,hp1];rfl
     have e3 : ((⟨ps⟩ : Array (Nat × Operand)).map fun (p : Nat × Operand)=>(p.1,a.eval p.2)).toList=ps.map fun p=>(p.1,a.eval p.2):=by simp
     simp only [execOp,Instr.build,Sem.run_bind,hzv,hu,Result.andThen_ok,hmap,cellsF_eq hz,e3]
     rw [hfill]
     rfl
    ·cases h
   ·cases h
  ·cases h
 ·split at h
  ·rename_i h1 h2
   cases h
   have e1:=hA.evals h1
   have e2:=hA.evals h2
   simp [execOp,Instr.makeFunc,e1,e2]
  ·cases h
 ·split at h
  ·rename_i hx hy
   cases h
   simp [execOp,resolve,invoke,builtin,Builtin.min_,Builtin.min2,hA.eval hx,hA.eval hy]
  ·cases h
 ·split at h
  ·rename_i hx hg
   cases h
   simp [execOp,resolve,invoke,builtin,Builtin.len_,hA.eval hx,T.run_underlying w hg,goInt]
  ·rename_i hx hg
   cases h
   simp [execOp,resolve,invoke,builtin,Builtin.len_,hA.eval hx,T.run_underlying w hg,goInt]
   rfl
  ·cases h
 ·cases h
end Go.Sep


/- SepC -/
set_option linter.unusedVariables false
set_option linter.unusedSimpArgs false
namespace Go.Sep
abbrev EPost:=Exit→Env→List Deferred→Mem→List Item→Prop
structure Ok (N : Nat) (ρ : Env) (D : List Deferred) (m : Mem) (L : List Item) (a : Act) (w : World) : Prop where
 size : N ≤ a.tmps.size
 env : Agree a ρ
 defers : a.defers=D
 st : St m w L
def Lift (N : Nat) (Q : EPost) : Exit→Act→World→Prop:=fun e a w => ∃ ρ D m L,Ok N ρ D m L a w∧Q e ρ D m L
def TC (P : Program) (N : Nat) (c : Code) (ρ : Env) (D : List Deferred) (m : Mem) (L : List Item) (Q : EPost) : Prop :=
 ∀ a w,Ok N ρ D m L a w→c.wp P (Lift N Q) a w
def TO (P : Program) (N : Nat) (ops : Array Oper) (l : List Oper) (ρ : Env) (D : List Deferred) (m : Mem) (L : List Item) (Q : EPost) : Prop :=
 ∀ a w,Ok N ρ D m L a w→wpList P ops (Lift N Q) l a w
def OT (P : Program) (N : Nat) (o : Oper) (ρ : Env) (D : List Deferred) (m : Mem) (L : List Item) (Q : EPost) (K : Env→Mem→List Item→Prop) : Prop :=
 ∀ a w,Ok N ρ D m L a w→o.wp P a w (fun a' w' => ∃ ρ' m' L',Ok N ρ' D m' L' a' w' ∧ K ρ' m' L') (Lift N Q)
def TCallX (P : Program) (f : FuncId) (args : Array Value) (m : Mem) (L : List Item) (R : Value→Mem→List Item→Prop) (X : List PanicEntry→Mem→List Item→Prop) : Prop :=
 ∀ w,St m w L→Calls P f args w fun
  | .returned v,w' => ∃ m' L',St m' w' L' ∧ R v m' L'
  | .panicked ch,w' => ∃ m' L',St m' w' L' ∧ X ch m' L'
  | .outgrown,_=>False
def TCall (P : Program) (f : FuncId) (args : Array Value) (m : Mem) (L : List Item) (R : Value→Mem→List Item→Prop) : Prop :=
 TCallX P f args m L R fun _ _ _=>False
@[reducible] def Ret (v : Value) (m : Mem) (L : List Item) : Value→Mem→List Item→Prop:=fun r m' L'=>m=m' ∧ L=L' ∧ r=v
theorem TCallX.mono {P : Program} {f : FuncId} {args : Array Value} {m : Mem} {L : List Item} {R R' : Value→Mem→List Item→Prop} {X X' : List PanicEntry→Mem→List Item→Prop}
  (h : TCallX P f args m L R X) (hr : ∀ v m' L',R v m' L' → R' v m' L') (hx : ∀ ch m' L',X ch m' L' → X' ch m' L') : TCallX P f args m L R' X' :=
 fun w hs=>(h w hs).mono fun e w' he=>by
  cases e with
  | returned v=>obtain ⟨m',L',h1,h2⟩:=he;exact ⟨m',L',h1,hr _ _ _ h2⟩
  | panicked ch=>obtain ⟨m',L',h1,h2⟩:=he;exact ⟨m',L',h1,hx _ _ _ h2⟩
  | outgrown=>exact he
theorem TCall.mono {P : Program} {f : FuncId} {args : Array Value} {m : Mem} {L : List Item} {R R' : Value→Mem→List Item→Prop}
  (h : TCall P f args m L R) (hr : ∀ v m' L',R v m' L' → R' v m' L') : TCall P f args m L R':=TCallX.mono h hr fun _ _ _ h=>h
theorem TCall.x {P : Program} {f : FuncId} {args : Array Value} {m : Mem} {L : List Item} {R R' : Value→Mem→List Item→Prop} {X : List PanicEntry→Mem→List Item→Prop}
  (h : TCall P f args m L R) (hr : ∀ v m' L',R v m' L' → R' v m' L') : TCallX P f args m L R' X:=TCallX.mono h hr fun _ _ _ h=>h.elim
section code
variable {P : Program} {N : Nat} {ρ : Env} {D : List Deferred} {m : Mem} {L : List Item} {Q : EPost}
theorem Lift.mono {Q Q' : EPost} (h : ∀ e ρ D m L,Q e ρ D m L→Q' e ρ D m L) {e : Exit} {a : Act} {w : World} (hl : Lift N Q e a w) : Lift N Q' e a w:=by
 obtain ⟨ρ,D,m,L,h1,h2⟩:=hl
 exact ⟨ρ,D,m,L,h1,h _ _ _ _ _ h2⟩
theorem TC.mono {c : Code} {Q' : EPost} (h : TC P N c ρ D m L Q') (hq : ∀ e ρ D m L,Q' e ρ D m L→Q e ρ D m L) : TC P N c ρ D m L Q :=
 fun a w ha=>wp_mono (h a w ha) fun _ _ _=>Lift.mono hq
def thenQ (K : Env→List Deferred→Mem→List Item→Prop) (Q : EPost) : EPost
 | .normal, ρ,D,m,L=>K ρ D m L
 | e, ρ,D,m,L=>Q e ρ D m L
def blockQ (id : Nat) (Q : EPost) : EPost
 | .exit i, ρ,D,m,L=>if i=id then Q .normal ρ D m L else Q (.exit i) ρ D m L
 | e, ρ,D,m,L=>Q e ρ D m L
theorem thenQ_n {K : Env→List Deferred→Mem→List Item→Prop} (h : K ρ D m L) : thenQ K Q .normal ρ D m L:=h
theorem thenQ_x {K : Env→List Deferred→Mem→List Item→Prop} {i : Nat} (h : Q (.exit i) ρ D m L) : thenQ K Q (.exit i) ρ D m L:=h
theorem thenQ_r {K : Env→List Deferred→Mem→List Item→Prop} (h : Q .ret ρ D m L) : thenQ K Q .ret ρ D m L:=h
theorem thenQ_p {K : Env→List Deferred→Mem→List Item→Prop} {ch : List PanicEntry} (h : Q (.panic ch) ρ D m L) : thenQ K Q (.panic ch) ρ D m L:=h
theorem blockQ_n {id : Nat} (h : Q .normal ρ D m L) : blockQ id Q .normal ρ D m L:=h
theorem blockQ_r {id : Nat} (h : Q .ret ρ D m L) : blockQ id Q .ret ρ D m L:=h
theorem blockQ_p {id : Nat} {ch : List PanicEntry} (h : Q (.panic ch) ρ D m L) : blockQ id Q (.panic ch) ρ D m L:=h
theorem blockQ_hit {id : Nat} (h : Q .normal ρ D m L) : blockQ id Q (.exit id) ρ D m L:=by simpa [blockQ] using h
theorem blockQ_miss {id i : Nat} (hi : Nat.beq i id=false) (h : Q (.exit i) ρ D m L) : blockQ id Q (.exit i) ρ D m L:=by
 have:=Nat.ne_of_beq_eq_false hi
 simpa [blockQ,this] using h
theorem TC.skip (h : Q .normal ρ D m L) : TC P N .skip ρ D m L Q:=fun _ _ ha=>wp_skip ⟨ρ,D,m,L,ha,h⟩
theorem TC.exit {id : Nat} (h : Q (.exit id) ρ D m L) : TC P N (.exit id) ρ D m L Q:=fun _ _ ha=>wp_exit ⟨ρ,D,m,L,ha,h⟩
theorem TC.goto {l : Nat} (h : Q (.goto l) ρ D m L) : TC P N (.goto l) ρ D m L Q:=fun _ _ ha=>wp_goto ⟨ρ,D,m,L,ha,h⟩
theorem TC.ret (h : Q .ret ρ D m L) : TC P N .ret ρ D m L Q:=fun _ _ ha=>wp_ret ⟨ρ,D,m,L,ha,h⟩
theorem TC.seq {x y : Code} (h : TC P N x ρ D m L (thenQ (fun ρ D m L=>TC P N y ρ D m L Q) Q)) : TC P N (.seq x y) ρ D m L Q :=
 fun a w ha=>wp_seq (wp_mono (h a w ha) fun e a' w' hl=>by
  obtain ⟨ρ',D',m',L',h1,h2⟩:=hl
  cases e with
  | normal=>exact (show TC P N y ρ' D' m' L' Q from h2) _ _ h1
  | _=>exact ⟨ρ',D',m',L',h1,h2⟩)
theorem TC.block {id : Nat} {c : Code} (h : TC P N c ρ D m L (blockQ id Q)) : TC P N (.block id c) ρ D m L Q :=
 fun a w ha=>wp_block (wp_mono (h a w ha) fun e a' w' hl=>by
  obtain ⟨ρ',D',m',L',h1,h2⟩:=hl
  cases e with
  | exit i =>
   simp only [Exit.inBlock]
   split
   ·rename_i hi;subst hi
    exact ⟨ρ',D',m',L',h1,by simpa [blockQ] using h2⟩
   ·rename_i hi
    exact ⟨ρ',D',m',L',h1,by simpa [blockQ,hi] using h2⟩
  | _=>exact ⟨ρ',D',m',L',h1,h2⟩)
theorem TC.cond {c : Operand} {x y : Code} {t : Bool} (hc : ev ρ c=some (.bool t)) (h1 : t=true→TC P N x ρ D m L Q) (h2 : t=false→TC P N y ρ D m L Q) : TC P N (.cond c x y) ρ D m L Q :=
 fun a w ha=>wp_cond_split (ha.env.eval hc) (fun h=>h1 h a w ha) (fun h=>h2 h a w ha)
theorem TC.cond_t {c : Operand} {x y : Code} (hc : ev ρ c=some (.bool true)) (h1 : TC P N x ρ D m L Q) : TC P N (.cond c x y) ρ D m L Q:=TC.cond hc (fun _=>h1) (fun h=>by cases h)
theorem TC.cond_f {c : Operand} {x y : Code} (hc : ev ρ c=some (.bool false)) (h2 : TC P N y ρ D m L Q) : TC P N (.cond c x y) ρ D m L Q:=TC.cond hc (fun h=>by cases h) (fun _=>h2)
theorem TC.condP {c : Operand} {x y : Code} {p : Prop} [Decidable p] (hc : ev ρ c=some (.bool (decide p))) (h1 : p→TC P N x ρ D m L Q) (h2 : ¬ p→TC P N y ρ D m L Q) : TC P N (.cond c x y) ρ D m L Q :=
 TC.cond hc (fun h=>h1 (of_decide_eq_true h)) (fun h=>h2 (of_decide_eq_false h))
theorem TC.condN {c : Operand} {x y : Code} {p : Prop} [Decidable p] (hc : ev ρ c=some (.bool (!decide p))) (h1 : ¬ p→TC P N x ρ D m L Q) (h2 : p→TC P N y ρ D m L Q) : TC P N (.cond c x y) ρ D m L Q :=
 TC.cond hc (fun h=>h1 (by simpa using h)) (fun h=>h2 (by simpa using h))
theorem TC.region {id : Nat} {l : List Oper} (h : TO P N ⟨l⟩ l ρ D m L Q) : TC P N (.region id ⟨l⟩ false) ρ D m L Q :=
 fun a w ha=>wp_region_lit (l:=l) (h a w ha)
def Sub (ρ ρ' : Env) : Prop := ∀ i v,look ρ' i=some v→look ρ i=some v
theorem Ok.sub {ρ' : Env} {a : Act} {w : World} (h : Ok N ρ D m L a w) (hs : Sub ρ ρ') : Ok N ρ' D m L a w:=⟨h.size,fun i v hv=>h.env i v (hs i v hv),h.defers,h.st⟩
theorem Ok.sublist {L' : List Item} {a : Act} {w : World} (h : Ok N ρ D m L a w) (hs : L'.Sublist L) : Ok N ρ D m L' a w:=⟨h.size,h.env,h.defers,h.st.sub hs⟩
theorem Ok.perm {L' : List Item} {a : Act} {w : World} (h : Ok N ρ D m L a w) (hs : L.Perm L') : Ok N ρ D m L' a w:=⟨h.size,h.env,h.defers,h.st.perm hs⟩
def pickEnv (ρ : Env) : List Nat→Option Env
 | []=>some []
 | k :: ks=>match fo (look ρ k),pickEnv ρ ks with
  | some v,some r=>some ((k,v) :: r)
  | _,_=>none
theorem TC.drop {c : Code} {L' : List Item} (hs : L'.Sublist L) (h : TC P N c ρ D m L' Q) : TC P N c ρ D m L Q:=fun a w ha=>h a w (ha.sublist hs)
theorem TC.perm {c : Code} {L' : List Item} (hs : L.Perm L') (h : TC P N c ρ D m L' Q) : TC P N c ρ D m L Q:=fun a w ha=>h a w (ha.perm hs)
def Has (ρ : Env) : Env→Prop
 | []=>True
 | (i,v) :: r=>look ρ i=some v∧Has ρ r
theorem Has.sub {ρ : Env} : ∀ {ρ' : Env},Has ρ ρ' → Sub ρ ρ'
 | [],_=>fun i v hv=>by cases hv
 | (k,u) :: r,h=>fun i v hv=>by
  simp only [look] at hv
  cases hb : Nat.beq k i with
  | true =>
   have : k=i:=Nat.eq_of_beq_eq_true hb
   subst this
   simp only [hb,cond_true] at hv
   rw [h.1];exact hv
  | false =>
   simp only [hb,cond_false] at hv
   exact h.2.sub i v hv
theorem wp_loop_n {c : Code} {Q : Exit→Act→World→Prop} (I : Nat→Act→World→Prop)
  (round : ∀ n a w,I n a w→c.wp P (Exit.then (fun a' w' => ∃ n',n' < n∧I n' a' w') Q) a w) {n : Nat} {a : Act} {w : World} (h₀ : I n a w) : (Code.loop c).wp P Q a w:=by
 intro b k cs
 have key : ∀ n a w,I n a w →
   ∃ e a' w',Q e a' w' ∧ Arrives P (lone (b.at a (.code c :: .inLoop c :: k)) cs w) b k cs e a' w':=by
  intro n
  induction n using Nat.strongRecOn with
  | _ n ih =>
   intro a w hI
   obtain ⟨e,a₁,w₁,hq,harr⟩:=round n a w hI b (.inLoop c :: k) cs
   cases e with
   | normal =>
    obtain ⟨n',hlt,hI₁⟩:=hq
    obtain ⟨e₂,a₂,w₂,hq₂,harr₂⟩:=ih n' hlt a₁ w₁ hI₁
    exact ⟨e₂,a₂,w₂,hq₂, .of_steps (Steps.trans harr (.one step_inLoop)) harr₂⟩
   | exit id=>exact ⟨_,a₁,w₁,hq, .pass (x := .inLoop c) rfl (fun _ _ => .inl (by simp)) harr⟩
   | goto l=>exact ⟨_,a₁,w₁,hq, .pass (x := .inLoop c) rfl (fun _ _ => .inl (by simp)) harr⟩
   | ret=>exact ⟨_,a₁,w₁,hq, .pass (x := .inLoop c) rfl (fun _ _ => .inl (by simp)) harr⟩
   | panic ch=>exact ⟨_,a₁,w₁,hq, .pass (x := .inLoop c) rfl (fun _ _ => .inl (by simp)) harr⟩
   | outgrown=>exact ⟨_,a₁,w₁,hq, .pass (x := .inLoop c) rfl (fun _ _ => .inl (by simp)) harr⟩
 obtain ⟨e,a',w',hq,harr⟩:=key _ a w h₀
 exact ⟨e,a',w',hq, .of_steps (.one step_loop) harr⟩
theorem TC.loop {ι : Type} {body : Code} (sρ : ι → Env) (sm : ι → Mem) (sL : ι → List Item) (I : ι → Prop) (μ : ι → Nat) (x0 : ι)
  (h0 : Has ρ (sρ x0)) (hm0 : m=sm x0) (hL0 : (sL x0).Sublist L) (hI0 : I x0)
  (round : ∀ x,I x→TC P N body (sρ x) D (sm x) (sL x) (thenQ (fun ρ' D' m' L' => ∃ x',Has ρ' (sρ x')∧D' = D∧m' = sm x' ∧ (sL x').Sublist L' ∧ I x' ∧ μ x' < μ x) Q)) :
  TC P N (.loop body) ρ D m L Q:=by
 intro a w ha
 refine wp_loop_n (fun n a w => ∃ x,Ok N (sρ x) D (sm x) (sL x) a w∧I x ∧ μ x=n) ?_ (n := μ x0) ⟨x0, ?_,hI0,rfl⟩
 ·rintro n a w ⟨x,hx,hI,rfl⟩
  refine wp_mono (round x hI a w hx) fun e a' w' hl => ?_
  obtain ⟨ρ',D',m',L',h1,h2⟩:=hl
  cases e with
  | normal =>
   obtain ⟨x',k1,k2,k3,k4,k5,k6⟩:=h2
   subst k2;subst k3
   exact ⟨μ x',k6,x',(h1.sub k1.sub).sublist k4,k5,rfl⟩
  | _=>exact ⟨ρ',D',m',L',h1,h2⟩
 ·subst hm0
  exact (ha.sub h0.sub).sublist hL0
theorem Has.append {ρ : Env} : ∀ {a b : Env},Has ρ a→Has ρ b→Has ρ (a++b)
 | [],_,_,h=>h
 | (_,_) :: _,_,h1,h2=>⟨h1.1,Has.append h1.2 h2⟩
theorem pickEnv_has {ρ : Env} : ∀ {ks : List Nat} {ρ' : Env},pickEnv ρ ks=some ρ' → Has ρ ρ'
 | [], ρ',h=>by simp only [pickEnv,Option.some.injEq] at h;subst h;trivial
 | k :: ks, ρ',h=>by
  simp only [pickEnv,fo_eq] at h
  split at h
  ·rename_i v r h1 h2
   simp only [Option.some.injEq] at h
   subst h
   exact ⟨h1,pickEnv_has h2⟩
  ·cases h
theorem TC.loopK {ι : Type} {body : Code} (ks : List Nat) {ρc : Env} (hk : pickEnv ρ ks=some ρc) (sρ : ι → Env) (sm : ι → Mem) (sL : ι → List Item) (I : ι → Prop) (μ : ι → Nat) (x0 : ι)
  (h0 : Has ρ (sρ x0)) (hm0 : m=sm x0) (hL0 : (sL x0).Sublist L) (hI0 : I x0)
  (round : ∀ x,I x→TC P N body (sρ x ++ ρc) D (sm x) (sL x) (thenQ (fun ρ' D' m' L' => ∃ x',Has ρ' (sρ x')∧Has ρ' ρc∧D' = D∧m' = sm x' ∧ (sL x').Sublist L' ∧ I x' ∧ μ x' < μ x) Q)) :
  TC P N (.loop body) ρ D m L Q :=
 TC.loop (fun x=>sρ x ++ ρc) sm sL I μ x0 (h0.append (pickEnv_has hk)) hm0 hL0 hI0 fun x hx=>(round x hx).mono fun e ρ' D' m' L' h=>by
  cases e with
  | normal =>
   obtain ⟨x',h1,h2,h3⟩:=(show ∃ x',Has ρ' (sρ x')∧Has ρ' ρc∧_ from h)
   exact (show ∃ x',_ from ⟨x',h1.append h2,h3⟩)
  | _=>exact h
theorem TC.cut {ι : Type} {x y : Code} (ks : List Nat) {ρc : Env} (hk : pickEnv ρ ks=some ρc) (sρ : ι → Env) (sm : ι → Mem) (sL : ι → List Item) (I : ι → Prop)
  (hx : TC P N x ρ D m L (thenQ (fun ρ' D' m' L' => ∃ i,Has ρ' (sρ i)∧Has ρ' ρc∧D' = D∧m' = sm i∧(sL i).Sublist L' ∧ I i) Q))
  (hy : ∀ i,I i→TC P N y (sρ i ++ ρc) D (sm i) (sL i) Q) : TC P N (.seq x y) ρ D m L Q :=
 TC.seq (hx.mono fun e ρ' D' m' L' h=>by
  cases e with
  | normal =>
   obtain ⟨i,h1,h2,h3,h4,h5,h6⟩:=(show ∃ i,Has ρ' (sρ i)∧Has ρ' ρc∧_ from h)
   subst h3;subst h4
   exact (show TC P N y ρ' D' (sm i) L' Q from fun a w ha=>hy i h6 a w ((ha.sub (h1.append h2).sub).sublist h5))
  | _=>exact h)
def argEnv : List Value→Nat→Env
 | [],_=>[]
 | v :: vs,i=>(i,v) :: argEnv vs (i + 1)
theorem look_argEnv : ∀ (vs : List Value) (i j : Nat) (v : Value),look (argEnv vs i) j=some v→i ≤ j∧vs[j - i]? = some v
 | [],i,j,v,h=>by cases h
 | u :: us,i,j,v,h=>by
  simp only [argEnv,look] at h
  cases hb : Nat.beq i j with
  | true =>
   have : i=j:=Nat.eq_of_beq_eq_true hb
   subst this
   simp only [hb,cond_true,Option.some.injEq] at h
   subst h
   simp
  | false =>
   have hne : i ≠ j:=Nat.ne_of_beq_eq_false hb
   simp only [hb,cond_false] at h
   obtain ⟨h1,h2⟩:=look_argEnv us (i + 1) j v h
   refine ⟨by omega, ?_⟩
   rw [show j - i=(j - (i + 1)) + 1 by omega,List.getElem?_cons_succ]
   exact h2
def resEnv (ρ : Env) : List ResultVar→Option (List Value)
 | []=>some []
 | .tmp t :: r=>match fo (look ρ t),resEnv ρ r with
  | some v,some vs=>some (v :: vs)
  | _,_=>none
 | .cell _ _ :: _=>none
def resVal (ρ : Env) (rs : Array ResultVar) : Option Value :=
 match rs with
 | ⟨l⟩=>match resEnv ρ l with
  | some [v]=>some v
  | some vs=>some (.tuple ⟨vs⟩)
  | none=>none
theorem resEnv_run {P : Program} {a : Act} {ρ : Env} (hA : Agree a ρ) (w : World) (f : ResultVar→Sem Value) (hf : ∀ t,f (.tmp t)=pure (a.tmps.getD t undef)) :
  ∀ {l : List ResultVar} {vs : List Value},resEnv ρ l=some vs→(l.mapM f).run P w = .ok vs w
 | [],vs,h=>by simp only [resEnv,Option.some.injEq] at h;subst h;rfl
 | .tmp t :: r,vs,h=>by
  simp only [resEnv,fo_eq] at h
  split at h
  ·rename_i v us h1 h2
   simp only [Option.some.injEq] at h
   subst h
   have h3:=resEnv_run (P:=P) hA w f hf h2
   have h4:=hA t v h1
   rw [List.mapM_cons]
   simp only [Sem.run_bind,hf,Sem.run_pure,Result.andThen_ok,h3]
   simp [h4]
  ·cases h
 | .cell _ _ :: _,vs,h=>by simp [resEnv] at h
theorem resVal_run {P : Program} {a : Act} {ρ : Env} (hA : Agree a ρ) (w : World) {fn : Func} {v : Value} (h : resVal ρ fn.results=some v) : (results fn a.tmps).run P w = .ok v w:=by
 unfold resVal at h
 split at h
 rename_i l hl
 have key : ∀ vs,resEnv ρ l=some vs→(results fn a.tmps).run P w = .ok (if h : (⟨vs⟩ : Array Value).size=1 then (⟨vs⟩ : Array Value)[0] else .tuple ⟨vs⟩) w:=fun vs hv=>by
  unfold results
  rw [hl,Array.mapM_eq_mapM_toList]
  simp only [Sem.run_bind,Sem.run_map,Sem.run_pure]
  rw [resEnv_run (P:=P) hA w _ (fun _=>rfl) hv]
  rfl
 split at h
 ·rename_i u hr
  simp only [Option.some.injEq] at h;subst h
  have:=key _ hr
  simpa using this
 ·rename_i vs hne hr
  simp only [Option.some.injEq] at h;subst h
  rw [key _ hr,dif_neg]
  intro hs
  match vs,hs with
  | [u],_=>exact hne u rfl
 ·cases h
def ResIs (P : Program) (fn : Func) (ρ : Env) (m : Mem) (L : List Item) (v : Value) : Prop := ∀ (a : Act) (w : World),Agree a ρ → St m w L→(results fn a.tmps).run P w = .ok v w
def retQ (P : Program) (fn : Func) (R : Value→Mem→List Item→Prop) (X : List PanicEntry→Mem→List Item→Prop) : EPost
 | .normal, ρ,D,m,L | .ret, ρ,D,m,L=>D=[] ∧ ∃ v L',ResIs P fn ρ m L v∧L'.Sublist L∧R v m L'
 | .panic ch,_,D,m,L=>D=[] ∧ ∃ L',L'.Sublist L∧X ch m L'
 | _,_,_,_,_=>False
theorem retQ_ret {P : Program} {fn : Func} {R : Value→Mem→List Item→Prop} {X : List PanicEntry→Mem→List Item→Prop} {v : Value} {L' : List Item} (hv : resVal ρ fn.results=some v) (hs : L'.Sublist L) (h : R v m L') : retQ P fn R X .ret ρ [] m L:=⟨rfl,v,L',fun _ w hA _=>resVal_run hA w hv,hs,h⟩
theorem retQ_n {P : Program} {fn : Func} {R : Value→Mem→List Item→Prop} {X : List PanicEntry→Mem→List Item→Prop} {v : Value} {L' : List Item} (hv : resVal ρ fn.results=some v) (hs : L'.Sublist L) (h : R v m L') : retQ P fn R X .normal ρ [] m L:=⟨rfl,v,L',fun _ w hA _=>resVal_run hA w hv,hs,h⟩
theorem retQ_p {P : Program} {fn : Func} {R : Value→Mem→List Item→Prop} {X : List PanicEntry→Mem→List Item→Prop} {ch : List PanicEntry} {L' : List Item} (hs : L'.Sublist L) (h : X ch m L') : retQ P fn R X (.panic ch) ρ [] m L:=⟨rfl,L',hs,h⟩
theorem TCallX.enter {P : Program} {f : FuncId} {fn : Func} {c : Code} {vs : List Value} {m : Mem} {L : List Item} {R : Value→Mem→List Item→Prop} {X : List PanicEntry→Mem→List Item→Prop}
  (hf : P.funcs[f]? = some fn) (hb : fn.body=some c) (N : Nat) (hN : Nat.ble N fn.ntmps=true) (h : TC P N c (argEnv vs 0) [] m L (retQ P fn R X)) : TCallX P f ⟨vs⟩ m L R X:=by
 intro w hs
 refine calls_of_wp hf hb (wp_mono (h { tmps:=⟨vs⟩ ++ Array.replicate (fn.ntmps - (⟨vs⟩ : Array Value).size) undef,defers:=[] } w ⟨?_, ?_,rfl,hs⟩) fun e a' w' hl => ?_)
 ·have:=Nat.le_of_ble_eq_true hN
  simp
  omega
 ·intro i v hv
  have:=(look_argEnv vs 0 i v hv).2
  have hi : i < vs.length:=by have:=(List.getElem?_eq_some_iff.1 this).1;simpa using this
  have h2 : vs[i]? = some v:=by simpa using this
  rw [Array.getElem?_append_left (by simpa using hi)]
  simpa using h2
 ·obtain ⟨ρ',D',m',L',h1,h2⟩:=hl
  cases e with
  | normal =>
   obtain ⟨hD,v,L2,hv,hs2,hR⟩:=h2
   exact ⟨h1.defers.trans hD,v,hv _ _ h1.env h1.st,m',L2,h1.st.sub hs2,hR⟩
  | ret =>
   obtain ⟨hD,v,L2,hv,hs2,hR⟩:=h2
   exact ⟨h1.defers.trans hD,v,hv _ _ h1.env h1.st,m',L2,h1.st.sub hs2,hR⟩
  | panic ch =>
   obtain ⟨hD,L2,hs2,hX⟩:=h2
   exact ⟨h1.defers.trans hD,m',L2,h1.st.sub hs2,hX⟩
  | exit i=>exact h2.elim
  | goto i=>exact h2.elim
  | outgrown=>exact h2.elim
end code
end Go.Sep


/- SepD -/
set_option linter.unusedVariables false
set_option linter.unusedSimpArgs false
namespace Go.Sep
def gv (full : List Oper) (ρ : Env) (o : Oper) : Option Bool :=
 match o.guard with
 | none=>some true
 | some (j,want)=>match full[j]? with
  | some oj=>match oj.dst with
   | some d=>match look ρ d with
    | some (.bool true)=>some want
    | some (.bool false)=>some (!want)
    | some (.tuple _)=>some false
    | _=>none
   | none=>none
  | none=>none
def gslot (full : List Oper) (o : Oper) : Option Nat :=
 match o.guard with
 | none=>none
 | some (j,_)=>match full[j]? with
  | some oj=>oj.dst
  | none=>none
theorem gv_wanted {full : List Oper} {ρ : Env} {o : Oper} {b : Bool} (h : gv full ρ o=some b) {a : Act} (hA : Agree a ρ) : Region.wanted o (yielded ⟨full⟩ a.tmps)=b:=by
 unfold gv at h
 unfold Region.wanted
 split at h
 ·rename_i hg;rw [hg];simpa using h
 ·rename_i j want hg
  rw [hg]
  simp only
  split at h
  ·rename_i oj hj
   split at h
   ·rename_i d hd
    have hy : ∀ c,look ρ d=some (.bool c)→yielded ⟨full⟩ a.tmps j=some c:=fun c hc=>by
     have:=hA d _ hc
     simp [yielded,hj,hd,this]
    split at h
    ·rename_i hl;rw [hy _ hl];simp only [Option.some.injEq] at h;subst h;cases want <;> rfl
    ·rename_i hl;rw [hy _ hl];simp only [Option.some.injEq] at h;subst h;cases want <;> rfl
    ·rename_i vs hl
     have:=hA d _ hl
     have hn : yielded ⟨full⟩ a.tmps j=none:=by simp [yielded,hj,hd,this]
     rw [hn];simp only [Option.some.injEq] at h;subst h;rfl
    ·cases h
   ·cases h
  ·cases h
inductive PR where
 | go (ρ : Env) (l : List Oper)
def gok (B : Nat) (o : Oper) : Bool :=
 match o.guard with
 | none=>true
 | some (j,_)=>Nat.blt j B
def runPure {P : Program} (T : Tab P) (N : Nat) (full : List Oper) (B : Nat) : List Oper→Env→PR
 | [], ρ => .go ρ []
 | o :: r, ρ=>bif gok B o then (match gv full ρ o with
  | some true=>match o.dst with
   | some d=>bif Nat.blt d N then (match evalOp T ρ o.op with
     | some v=>runPure T N full B r ((d,v) :: ρ)
     | none => .go ρ (o :: r)) else .go ρ (o :: r)
   | none => .go ρ (o :: r)
  | some false=>match o.dst with
   | some d=>bif Nat.blt d N then runPure T N full B r ((d,undef) :: ρ) else .go ρ (o :: r)
   | none=>runPure T N full B r ρ
  | none => .go ρ (o :: r)) else .go ρ (o :: r)
section
variable {P : Program} {N : Nat} {ρ : Env} {D : List Deferred} {m : Mem} {L : List Item} {Q : EPost} {full : List Oper}
theorem Ok.put {a : Act} {w : World} (h : Ok N ρ D m L a w) {d : Nat} (hd : Nat.blt d N=true) (v : Value) : Ok N ((d,v) :: ρ) D m L (a.put (some d) v) w:=by
 have h1 : d < N:=by simpa [Nat.blt_eq] using hd
 exact ⟨by simpa using h.size,h.env.put (Nat.lt_of_lt_of_le h1 h.size) v,by simpa using h.defers,h.st⟩
theorem TO.nil {ops : Array Oper} (h : Q .normal ρ D m L) : TO P N ops [] ρ D m L Q:=fun _ _ ha=>⟨ρ,D,m,L,ha,h⟩
theorem wpList_yes {ops : Array Oper} {R : Exit→Act→World→Prop} {o : Oper} {rest : List Oper} {a : Act} {w : World} (hw : Region.wanted o (yielded ops a.tmps)=true)
  (h : o.wp P a w (wpList P ops R rest) R) : wpList P ops R (o :: rest) a w:=by
 unfold wpList;rw [if_pos hw];exact .inl h
theorem wpList_no {ops : Array Oper} {R : Exit→Act→World→Prop} {o : Oper} {rest : List Oper} {a : Act} {w : World} (hw : Region.wanted o (yielded ops a.tmps)=false)
  (h : wpList P ops R rest (a.put o.dst undef) w) : wpList P ops R (o :: rest) a w:=by
 unfold wpList;rw [if_neg (by simp [hw])];exact h
theorem TO.pure (T : Tab P) (B : Nat) : ∀ (l : List Oper) (ρ : Env) {ρ' : Env} {l' : List Oper},runPure T N full B l ρ = .go ρ' l' → TO P N ⟨full⟩ l' ρ' D m L Q→TO P N ⟨full⟩ l ρ D m L Q
 | [], ρ, ρ',l',h,k=>by
  simp only [runPure,PR.go.injEq] at h
  obtain ⟨rfl,rfl⟩:=h;exact k
 | o :: r, ρ, ρ',l',h,k=>by
  unfold runPure at h
  cases hgk : gok B o with
  | false=>simp only [hgk,cond_false,PR.go.injEq] at h;obtain ⟨rfl,rfl⟩:=h;exact k
  | true =>
  simp only [hgk,cond_true] at h
  split at h
  ·rename_i hg
   split at h
   ·rename_i d hd
    cases hb : Nat.blt d N with
    | false=>simp only [hb,cond_false,PR.go.injEq] at h;obtain ⟨rfl,rfl⟩:=h;exact k
    | true =>
     simp only [hb,cond_true] at h
     split at h
     ·rename_i v hv
      have ih:=TO.pure T B r _ h k
      intro a w ha
      refine wpList_yes (gv_wanted hg ha.env) ?_
      simp only [Oper.wp,evalOp_run T ha.env hv w,Oper.upon,hd]
      exact ih _ _ (ha.put hb v)
     ·simp only [PR.go.injEq] at h;obtain ⟨rfl,rfl⟩:=h;exact k
   ·simp only [PR.go.injEq] at h;obtain ⟨rfl,rfl⟩:=h;exact k
  ·rename_i hg
   split at h
   ·rename_i d hd
    cases hb : Nat.blt d N with
    | false=>simp only [hb,cond_false,PR.go.injEq] at h;obtain ⟨rfl,rfl⟩:=h;exact k
    | true =>
     simp only [hb,cond_true] at h
     have ih:=TO.pure T B r _ h k
     intro a w ha
     refine wpList_no (gv_wanted hg ha.env) ?_
     rw [hd]
     exact ih _ _ (ha.put hb undef)
   ·rename_i hd
    have ih:=TO.pure T B r _ h k
    intro a w ha
    refine wpList_no (gv_wanted hg ha.env) ?_
    rw [hd]
    exact ih _ _ ha
  ·simp only [PR.go.injEq] at h;obtain ⟨rfl,rfl⟩:=h;exact k
theorem TO.pureP (T : Tab P) {l : List Oper} {ρ : Env} {ρ' : Env} {l' : List Oper} (h : runPure T N full (full.length - l.length) l ρ = .go ρ' l') (hp : Nat.blt l'.length l.length=true)
  (k : TO P N ⟨full⟩ l' ρ' D m L Q) : TO P N ⟨full⟩ l ρ D m L Q:=TO.pure T _ l ρ h k
theorem TO.step {o : Oper} {rest : List Oper} (hg : gv full ρ o=some true) (h : OT P N o ρ D m L Q (fun ρ' m' L'=>TO P N ⟨full⟩ rest ρ' D m' L' Q)) : TO P N ⟨full⟩ (o :: rest) ρ D m L Q :=
 fun a w ha=>wpList_yes (gv_wanted hg ha.env) (Oper.wp_mono (fun a' w' hl=>by
  obtain ⟨ρ',m',L',h1,h2⟩:=hl
  exact h2 _ _ h1) (h a w ha))
theorem Ok.setKnown {a : Act} {w : World} (h : Ok N ρ D m L a w) {d : Nat} {v : Value} (hl : look ρ d=some v) : Ok N ((d,v) :: ρ) D m L a w:=by
 refine ⟨h.size,fun i u hu => ?_,h.defers,h.st⟩
 simp only [look] at hu
 cases hb : Nat.beq d i with
 | true =>
  have : d=i:=Nat.eq_of_beq_eq_true hb
  subst this
  simp only [hb,cond_true] at hu
  exact h.env d u (hl.trans hu)
 | false=>simp only [hb,cond_false] at hu;exact h.env i u hu
theorem TO.split {o : Oper} {rest : List Oper} {d : Nat} {b : Bool} (hg : gslot full o=some d) (hl : look ρ d=some (.bool b))
  (h1 : b=true→TO P N ⟨full⟩ (o :: rest) ((d, .bool true) :: ρ) D m L Q) (h2 : b=false→TO P N ⟨full⟩ (o :: rest) ((d, .bool false) :: ρ) D m L Q) : TO P N ⟨full⟩ (o :: rest) ρ D m L Q:=by
 intro a w ha
 cases b with
 | true=>exact h1 rfl a w (ha.setKnown hl)
 | false=>exact h2 rfl a w (ha.setKnown hl)
theorem TO.splitP {o : Oper} {rest : List Oper} {d : Nat} {p : Prop} [Decidable p] (hg : gslot full o=some d) (hl : look ρ d=some (.bool (decide p)))
  (h1 : p→TO P N ⟨full⟩ (o :: rest) ((d, .bool true) :: ρ) D m L Q) (h2 : ¬ p→TO P N ⟨full⟩ (o :: rest) ((d, .bool false) :: ρ) D m L Q) : TO P N ⟨full⟩ (o :: rest) ρ D m L Q :=
 TO.split hg hl (fun h=>h1 (of_decide_eq_true h)) (fun h=>h2 (of_decide_eq_false h))
theorem TO.splitN {o : Oper} {rest : List Oper} {d : Nat} {p : Prop} [Decidable p] (hg : gslot full o=some d) (hl : look ρ d=some (.bool (!decide p)))
  (h1 : ¬ p→TO P N ⟨full⟩ (o :: rest) ((d, .bool true) :: ρ) D m L Q) (h2 : p→TO P N ⟨full⟩ (o :: rest) ((d, .bool false) :: ρ) D m L Q) : TO P N ⟨full⟩ (o :: rest) ρ D m L Q :=
 TO.split hg hl (fun h=>h1 (by simpa using h)) (fun h=>h2 (by simpa using h))
theorem TO.drop {l : List Oper} {L' : List Item} (hs : L'.Sublist L) (h : TO P N ⟨full⟩ l ρ D m L' Q) : TO P N ⟨full⟩ l ρ D m L Q:=fun a w ha=>h a w (ha.sublist hs)
theorem TO.perm {l : List Oper} {L' : List Item} (hs : L.Perm L') (h : TO P N ⟨full⟩ l ρ D m L' Q) : TO P N ⟨full⟩ l ρ D m L Q:=fun a w ha=>h a w (ha.perm hs)
theorem TO.conv {l : List Oper} {d : Nat} {v v' : Value} (h : TO P N ⟨full⟩ l ((d,v') :: ρ) D m L Q) (he : v=v') : TO P N ⟨full⟩ l ((d,v) :: ρ) D m L Q:=by subst he;exact h
variable {o : Oper} {K : Env→Mem→List Item→Prop}
theorem OT.run {d : Nat} {v : Value} {m' : Mem} {L' : List Item} (hd : o.dst=some d) (hN : Nat.blt d N=true)
  (h : ∀ a w,Ok N ρ D m L a w → ∃ w',(execOp a.eval o).run P w = .ok (.value v) w' ∧ St m' w' L') (hK : K ((d,v) :: ρ) m' L') : OT P N o ρ D m L Q K:=by
 intro a w ha
 obtain ⟨w',hr,hs⟩:=h a w ha
 simp only [Oper.wp,hr,Oper.upon]
 refine ⟨_,_,_, ?_,hK⟩
 rw [hd]
 have:=ha.put hN v
 exact ⟨this.size,this.env,this.defers,hs⟩
theorem OT.run0 {m' : Mem} {L' : List Item} (hd : o.dst=none)
  (h : ∀ a w,Ok N ρ D m L a w → ∃ w',(execOp a.eval o).run P w = .ok .skip w' ∧ St m' w' L') (hK : K ρ m' L') : OT P N o ρ D m L Q K:=by
 intro a w ha
 obtain ⟨w',hr,hs⟩:=h a w ha
 simp only [Oper.wp,hr,Oper.upon]
 refine ⟨_,_,_, ?_,hK⟩
 rw [hd]
 exact ⟨ha.size,ha.env,ha.defers,hs⟩
def takeF : Nat→List Value→Option (List Value)
 | 0,_=>some []
 | n + 1,x :: xs=>match fo (some x),takeF n xs with
  | some y,some ys=>some (y :: ys)
  | _,_=>none
 | _ + 1,[]=>none
theorem takeF_eq : ∀ {n : Nat} {l r : List Value},takeF n l=some r→r=l.take n∧r.length=n
 | 0,l,r,h=>by simp only [takeF,Option.some.injEq] at h;subst h;simp
 | n + 1,[],r,h=>by simp [takeF] at h
 | n + 1,x :: xs,r,h=>by
  simp only [takeF,fo_eq] at h
  split at h
  ·rename_i y ys h1 h2
   simp only [Option.some.injEq] at h h1
   subst h1;subst h
   obtain ⟨h3,h4⟩:=takeF_eq h2
   simp [h3]
   subst h3
   simpa using h4
  ·cases h
def Tab.load {P : Program} (T : Tab P) (t : TypeId) (cs : List Value) (k : Nat) : Option Value :=
 match T.isAgg t with
 | some (true,n)=>match takeF n (cs.drop k) with
  | some l=>some (.agg ⟨l⟩)
  | none=>none
 | some (false,_)=>fo cs[k]?
 | none=>none
def Cells (w : World) (b off : Nat) (cs : List Value) : Prop := ∀ j v,cs[j]? = some v→w.cell? ⟨b,off + j,none⟩ = some v
theorem addr_add (b o k : Nat) : (⟨b,o,none⟩ : Addr).add k = ⟨b,o + k,none⟩:=by unfold Addr.add;split <;> simp_all
theorem isAgg_get {T : Tab P} {t : TypeId} {g : Bool} {n : Nat} (h : T.isAgg t=some (g,n)) : ∃ i,T.get t=some i∧TypeDesc.isAgg i.u=g∧i.size=n:=by
 unfold Tab.isAgg at h
 split at h
 ·rename_i i hi
  simp only [Option.some.injEq,Prod.mk.injEq] at h
  exact ⟨i,hi,h.1,h.2⟩
 ·cases h
theorem run_loadVar (T : Tab P) {w : World} {b off k : Nat} {cs : List Value} {t : TypeId} {v : Value} (hc : Cells w b off cs) (h : T.load t cs k=some v) :
  (loadVar t ⟨b,off + k,none⟩).run P w = .ok v w:=by
 unfold Tab.load at h
 split at h
 ·rename_i n hi
  obtain ⟨i,hg,h1,h2⟩:=isAgg_get hi
  split at h
  ·rename_i l hl
   simp only [Option.some.injEq] at h;subst h
   obtain ⟨h3,h4⟩:=takeF_eq hl
   have hr:=run_loadCells_list (P:=P) w ⟨b,off + k,none⟩ l (fun j v hv=>by
    rw [addr_add,Nat.add_assoc]
    refine hc _ _ ?_
    rw [h3,List.getElem?_take] at hv
    split at hv
    ·rwa [List.getElem?_drop] at hv
    ·cases hv)
   rw [h4] at hr
   simp only [loadVar,Sem.run_bind,T.run_isAgg w hg,T.run_sizeOf w hg,Result.andThen_ok,h1,if_true,h2,hr,Sem.run_pure]
  ·cases h
 ·rename_i n hi
  obtain ⟨i,hg,h1,h2⟩:=isAgg_get hi
  rw [fo_eq] at h
  have:=hc k v h
  simp only [loadVar,Sem.run_bind,T.run_isAgg w hg,Result.andThen_ok,h1,Bool.false_eq_true,if_false]
  simp [this]
 ·cases h
theorem St.cells {w : World} {i b off : Nat} {vs : List Value} (h : St m w L) (hi : L[i]? = some (.cells b off vs)) : Cells w b off vs:=fun j v hv =>
 (h.items _ (List.mem_of_getElem? hi) j v hv).1
theorem St.at_cells {w : World} {b off : Nat} {vs : List Value} (h : St m w L) (hi : At m b off vs) : Cells w b off vs:=fun j v hv=>h.c _ _ _ (hi j v hv)
theorem OT.loadC (T : Tab P) {x : Operand} {t : TypeId} {b off k d : Nat} {cs : List Value} {v : Value} (ho : o.op = .load t x) (hd : o.dst=some d) (hN : Nat.blt d N=true)
  (hx : ev ρ x=some (.pointer (some ⟨b,off + k,none⟩))) (hc : ∀ w,St m w L→Cells w b off cs) (hv : T.load t cs k=some v) (hK : K ((d,v) :: ρ) m L) : OT P N o ρ D m L Q K :=
 OT.run hd hN (fun a w ha=>⟨w,by
  have:=run_loadVar T (hc w ha.st) hv
  simp only [execOp,ho,ha.env.eval hx,Sem.run_bind,Instr.loadAt,Instr.sureAddr,Sem.run_pure,Result.andThen_ok,this],ha.st⟩) hK
theorem OT.loadL (T : Tab P) (i : Nat) {x : Operand} {t : TypeId} {b off k d : Nat} {cs : List Value} {v : Value} (ho : o.op = .load t x) (hd : o.dst=some d) (hN : Nat.blt d N=true)
  (hx : ev ρ x=some (.pointer (some ⟨b,off + k,none⟩))) (hi : L[i]? = some (.cells b off cs)) (hv : T.load t cs k=some v) (hK : K ((d,v) :: ρ) m L) : OT P N o ρ D m L Q K :=
 OT.loadC T ho hd hN hx (fun _ h=>h.cells hi) hv hK
theorem OT.loadL0 (T : Tab P) (i : Nat) {x : Operand} {t : TypeId} {b off d : Nat} {cs : List Value} {v : Value} (ho : o.op = .load t x) (hd : o.dst=some d) (hN : Nat.blt d N=true)
  (hx : ev ρ x=some (.pointer (some ⟨b,off,none⟩))) (hi : L[i]? = some (.cells b off cs)) (hv : T.load t cs 0=some v) (hK : K ((d,v) :: ρ) m L) : OT P N o ρ D m L Q K :=
 OT.loadC (k:=0) T ho hd hN hx (fun _ h=>h.cells hi) hv hK
theorem OT.loadA (T : Tab P) {x : Operand} {t : TypeId} {b off k d : Nat} {cs : List Value} {v : Value} (hi : At m b off cs) (ho : o.op = .load t x) (hd : o.dst=some d) (hN : Nat.blt d N=true)
  (hx : ev ρ x=some (.pointer (some ⟨b,off + k,none⟩))) (hv : T.load t cs k=some v) (hK : K ((d,v) :: ρ) m L) : OT P N o ρ D m L Q K :=
 OT.loadC T ho hd hN hx (fun _ h=>h.at_cells hi) hv hK
theorem OT.loadA0 (T : Tab P) {x : Operand} {t : TypeId} {b off d : Nat} {cs : List Value} {v : Value} (hi : At m b off cs) (ho : o.op = .load t x) (hd : o.dst=some d) (hN : Nat.blt d N=true)
  (hx : ev ρ x=some (.pointer (some ⟨b,off,none⟩))) (hv : T.load t cs 0=some v) (hK : K ((d,v) :: ρ) m L) : OT P N o ρ D m L Q K :=
 OT.loadC (k:=0) T ho hd hN hx (fun _ h=>h.at_cells hi) hv hK
theorem OT.box {x : Operand} {t : TypeId} {d : Nat} {v : Value} {cs : List Value} (ho : o.op = .box t x) (hd : o.dst=some d) (hN : Nat.blt d N=true)
  (hx : ev ρ x=some v) (hv : cellsF v=some cs) (hK : ∀ b,K ((d, .pointer (some ⟨b,0,none⟩)) :: ρ) m (.cells b 0 cs :: L)) : OT P N o ρ D m L Q K:=by
 intro a w ha
 have hr : (execOp a.eval o).run P w = .ok (.value (.pointer (some ⟨w.heap.size,0,none⟩))) (w.alloc (.cells ⟨cs⟩ t)):=by
  simp only [execOp,ho,ha.env.eval hx,Instr.box,newVar,newRow,cellsF_eq hv,Sem.run_bind,Sem.run_pure,run_newObj,Result.andThen_ok,World.alloc_eq]
 simp only [Oper.wp,hr,Oper.upon,hd]
 have hp:=ha.put hN (.pointer (some ⟨w.heap.size,0,none⟩))
 exact ⟨_,_,_,⟨hp.size,hp.env,hp.defers,ha.st.allocCells ⟨cs⟩ t⟩,hK _⟩
def Tab.zeroCells {P : Program} (T : Tab P) (t : TypeId) : Option (List Value) :=
 match T.get t with
 | some i=>cellsF i.zero
 | none=>none
theorem OT.alloc (T : Tab P) {t : TypeId} {d : Nat} {cs : List Value} (ho : o.op = .alloc t) (hd : o.dst=some d) (hN : Nat.blt d N=true)
  (hv : T.zeroCells t=some cs) (hK : ∀ b,K ((d, .pointer (some ⟨b,0,none⟩)) :: ρ) m (.cells b 0 cs :: L)) : OT P N o ρ D m L Q K:=by
 intro a w ha
 unfold Tab.zeroCells at hv
 split at hv
 ·rename_i i hi
  have hr : (execOp a.eval o).run P w = .ok (.value (.pointer (some ⟨w.heap.size,0,none⟩))) (w.alloc (.cells ⟨cs⟩ t)):=by
   simp only [execOp,ho,Instr.alloc,newVar,newRow,cellsF_eq hv,Sem.run_bind,Sem.run_pure,run_newObj,Result.andThen_ok,World.alloc_eq,T.run_zero w hi]
  simp only [Oper.wp,hr,Oper.upon,hd]
  have hp:=ha.put hN (.pointer (some ⟨w.heap.size,0,none⟩))
  exact ⟨_,_,_,⟨hp.size,hp.env,hp.defers,ha.st.allocCells ⟨cs⟩ t⟩,hK _⟩
 ·cases hv
def allOne : List Value→Bool
 | []=>true
 | v :: vs=>v.oneCell' && allOne vs
theorem run_storeCells {b off : Nat} : ∀ (cs : List Value) (vs : List Value) (k i : Nat) (w : World),St m w (.cells b off vs :: L)→allOne cs=true→k + cs.length + i ≤ vs.length →
  ∃ w',(storeCells ⟨b,off + k,none⟩ cs i).run P w = .ok () w' ∧ St m w' (.cells b off (putAt vs (k + i) cs) :: L)
 | [],vs,k,i,w,h,_,_=>⟨w,rfl,h⟩
 | c :: cs,vs,k,i,w,h,h1,h2=>by
  simp only [allOne,Bool.and_eq_true] at h1
  simp only [List.length_cons] at h2
  have hx:=h.items _ (List.mem_cons_self ..)
  have hlt : k + i < vs.length:=by omega
  obtain ⟨hc,hf⟩:=hx (k + i) vs[k + i] (by simp [hlt])
  have hs:=h.set hlt c
  obtain ⟨w',hr,hst⟩:=run_storeCells cs (vs.set (k + i) c) k (i + 1) _ hs h1.2 (by simp;omega)
  refine ⟨w', ?_,by rw [show k + (i + 1)=k + i + 1 by omega] at hst;exact hst⟩
  simp only [storeCells,Sem.run_bind,addr_add,Nat.add_assoc,run_store P w _ c .plain h1.1,hc,hf,Bool.false_eq_true,if_false,Result.andThen_ok]
  rw [← Nat.add_assoc] at *
  exact hr
theorem run_storeVar (T : Tab P) {i : TI} {t : TypeId} {b off k : Nat} {vs cs : List Value} {v : Value} {w : World} (h : St m w (.cells b off vs :: L)) (hg : T.get t=some i) (hv : v.cells = ⟨cs⟩)
  (hsz : cs.length=i.size) (h1 : allOne cs=true) (hk : k + cs.length ≤ vs.length) :
  ∃ w',(storeVar t ⟨b,off + k,none⟩ v).run P w = .ok () w' ∧ St m w' (.cells b off (putAt vs k cs) :: L):=by
 obtain ⟨w',hr,hs⟩:=run_storeCells (P:=P) cs vs k 0 w h h1 (by omega)
 refine ⟨w', ?_,hs⟩
 simp only [storeVar,Sem.run_bind,T.run_sizeOf w hg,Result.andThen_ok,hv]
 have : ¬ (⟨cs⟩ : Array Value).size ≠ i.size:=by simpa using hsz
 rw [if_neg this]
 simpa using hr
def Tab.sizeOk {P : Program} (T : Tab P) (t : TypeId) (cs : List Value) : Bool :=
 match T.get t with
 | some i=>Nat.beq cs.length i.size && allOne cs
 | none=>false
def storeF (vs : List Value) (k : Nat) (cs : List Value) : Option (List Value) :=
 bif Nat.ble (k + cs.length) vs.length then fl (putAt vs k cs) else none
theorem OT.storeG (T : Tab P) (i : Nat) {x y : Operand} {t : TypeId} {b off k : Nat} {vs cs : List Value} {v : Value} (ho : o.op = .store t x y) (hd : o.dst=none)
  (hx : ev ρ x=some (.pointer (some ⟨b,off + k,none⟩))) (hy : ev ρ y=some v) (hv : cellsF v=some cs) (hs : T.sizeOk t cs=true) (hi : L[i]? = some (.cells b off vs)) (hk : k + cs.length ≤ vs.length)
  (hK : K ρ m (L.set i (.cells b off (putAt vs k cs)))) : OT P N o ρ D m L Q K:=by
 refine OT.run0 hd (fun a w ha => ?_) hK
 unfold Tab.sizeOk at hs
 split at hs
 ·rename_i ti hg
  simp only [Bool.and_eq_true] at hs
  obtain ⟨w',hr,hst⟩:=run_storeVar T (k:=k) (ha.st.at_ hi) hg (cellsF_eq hv) (Nat.eq_of_beq_eq_true hs.1) hs.2 hk
  refine ⟨w', ?_,hst.back hi⟩
  simp only [execOp,ho,ha.env.eval hx,ha.env.eval hy,Instr.storeAt,Instr.sureAddr,Sem.run_bind,Sem.run_pure,Result.andThen_ok,hr]
 ·cases hs
theorem OT.storeL (T : Tab P) (i : Nat) {x y : Operand} {t : TypeId} {b off k : Nat} {vs cs vs' : List Value} {v : Value} (ho : o.op = .store t x y) (hd : o.dst=none)
  (hx : ev ρ x=some (.pointer (some ⟨b,off + k,none⟩))) (hy : ev ρ y=some v) (hv : cellsF v=some cs) (hs : T.sizeOk t cs=true) (hi : L[i]? = some (.cells b off vs)) (hk : storeF vs k cs=some vs')
  (hK : K ρ m (L.set i (.cells b off vs'))) : OT P N o ρ D m L Q K:=by
 unfold storeF at hk
 cases hb : Nat.ble (k + cs.length) vs.length with
 | false=>simp [hb] at hk
 | true =>
  simp only [hb,cond_true,fl_eq,Option.some.injEq] at hk
  subst hk
  exact OT.storeG T i ho hd hx hy hv hs hi (Nat.le_of_ble_eq_true hb) hK
theorem OT.storeL0 (T : Tab P) (i : Nat) {x y : Operand} {t : TypeId} {b off : Nat} {vs cs vs' : List Value} {v : Value} (ho : o.op = .store t x y) (hd : o.dst=none)
  (hx : ev ρ x=some (.pointer (some ⟨b,off,none⟩))) (hy : ev ρ y=some v) (hv : cellsF v=some cs) (hs : T.sizeOk t cs=true) (hi : L[i]? = some (.cells b off vs)) (hk : storeF vs 0 cs=some vs')
  (hK : K ρ m (L.set i (.cells b off vs'))) : OT P N o ρ D m L Q K :=
 OT.storeL (k:=0) T i ho hd hx hy hv hs hi hk hK
def arith (op : BinOp) (a b : Int) : Option Int :=
 match op with
 | .add=>some (a + b)
 | .sub=>some (a - b)
 | .mul=>some (a * b)
 | _=>none
theorem wrap64_in {n : Int} (h1 : -9223372036854775808 ≤ n) (h2 : n ≤ 9223372036854775807) : IntKind.i64.wrap n=n:=IntWalk.i64_in n ⟨h1,h2⟩
theorem OT.arith {op : BinOp} {t t' : TypeId} {x y : Operand} {d : Nat} {a b r r' : Int} (ho : o.op = .binOp op t x y t') (hd : o.dst=some d) (hN : Nat.blt d N=true)
  (hx : ev ρ x=some (.int .i64 a)) (hy : ev ρ y=some (.int .i64 b)) (hr : Sep.arith op a b=some r) (he : r=r') (h1 : -9223372036854775808 ≤ r' ∧ r' ≤ 9223372036854775807)
  (hK : K ((d, .int .i64 r') :: ρ) m L) : OT P N o ρ D m L Q K:=by
 subst he
 refine OT.run hd hN (fun ac w ha=>⟨w, ?_,ha.st⟩) hK
 have hw:=wrap64_in h1.1 h1.2
 cases op <;> simp only [Sep.arith,Option.some.injEq] at hr <;> first | (cases hr;done) | (subst hr;simp [execOp,ho,ha.env.eval hx,ha.env.eval hy,eqGuard,binOp,Op.intArith,hw])
def Goes (P : Program) (f : FuncId) : Prop := ∀ args w,(callFunc f args).run P w = .ok (.enter f args) w
theorem Goes.mk' {f : FuncId} {fn : Func} (hf : P.funcs[f]? = some fn) (hn : (fn.name == "runtime.NumGoroutine")=false) (hb : fn.body.isNone=false) : Goes P f:=by
 intro args w
 simp only [callFunc,Sem.run_bind,run_program,Result.andThen_ok,hf,hn,hb,Bool.false_eq_true,if_false,Sem.run_pure]
theorem OT.call {F : Operand} {args : List Operand} {ats : Array TypeId} {f : FuncId} {first cap vs all : List Value} {d : Nat} (ho : o.op = .call ⟨.value F,⟨args⟩,ats⟩) (hd : o.dst=some d) (hN : Nat.blt d N=true)
  (hF : ev ρ F=some (.func (.func f) ⟨first⟩ ⟨cap⟩)) (ha : evs ρ args=some vs) (hall : fl (first++(vs++cap))=some all) (hg : Goes P f)
  (h : TCallX P f ⟨all⟩ m L (fun v m' L'=>K ((d,v) :: ρ) m' L') (fun ch m' L'=>Q (.panic ch) ρ D m' L')) : OT P N o ρ D m L Q K:=by
 intro a w hok
 rw [fl_eq] at hall
 simp only [Option.some.injEq] at hall
 have he : (execOp a.eval o).run P w = .ok (.enter f ⟨all⟩) w:=by
  have e1:=hok.env.evals ha
  simp only [execOp,ho,resolve,hok.env.eval hF,Deferred.ofValue,Sem.run_bind,Sem.run_pure,Result.andThen_ok,invoke]
  rw [hg _ w]
  congr 2
  subst hall
  simp [e1]
 simp only [Oper.wp,he,Oper.upon]
 refine (h w hok.st).mono fun e w' hh => ?_
 cases e with
 | returned v =>
  obtain ⟨m',L',h1,h2⟩:=hh
  have hp:=hok.put hN v
  rw [hd]
  exact ⟨_,_,_,⟨hp.size,hp.env,hp.defers,h1⟩,h2⟩
 | panicked ch =>
  obtain ⟨m',L',h1,h2⟩:=hh
  exact ⟨ρ,D,m',L',⟨hok.size,hok.env,hok.defers,h1⟩,h2⟩
 | outgrown=>exact hh.elim
end
end Go.Sep


/- ScTab -/
set_option linter.unusedVariables false
namespace Go.Sep
open Go.Proofs
noncomputable def tiOf (i d : TypeInfo) : TI:=⟨d.desc,i.size,i.bytes,match i.zero with | some z=>z | none=>undef⟩
def GoodTI (P : Program) (t : TypeId) (i : TI) : Prop := ∃ info,P.info? t=some info∧P.underlying t=some i.u∧info.size=i.size∧info.bytes=i.bytes∧info.zero=some i.zero
theorem goodTI {P : Program} {t : TypeId} {i d : TypeInfo} (h1 : P.info? t=some i) (h2 : P.underlying t=some d.desc) (h3 : i.zero.isSome=true) : GoodTI P t (tiOf i d):=by
 refine ⟨i,h1,h2,rfl,rfl, ?_⟩
 cases hz : i.zero with
 | none=>rw [hz] at h3;cases h3
 | some z=>simp [tiOf,hz]
inductive TT where
 | nil
 | node (l : TT) (k : Nat) (i : TI) (r : TT)
def getT : TT→Nat→Option TI
 | .nil,_=>none
 | .node l k i r,t=>bif Nat.beq t k then some i else bif Nat.blt t k then getT l t else getT r t
def AllT (P : Program) : TT→Prop
 | .nil=>True
 | .node l k i r=>AllT P l∧GoodTI P k i∧AllT P r
theorem getT_ok {P : Program} : ∀ {l : TT},AllT P l → ∀ t i,getT l t=some i→GoodTI P t i
 | .nil,_,t,i,h=>by cases h
 | .node l k x r,hl,t,i,h=>by
  simp only [getT] at h
  cases hb : Nat.beq t k with
  | true =>
   have : t=k:=Nat.eq_of_beq_eq_true hb
   subst this
   simp only [hb,cond_true,Option.some.injEq] at h
   subst h
   exact hl.2.1
  | false =>
   simp only [hb,cond_false] at h
   cases hc : Nat.blt t k with
   | true=>simp only [hc,cond_true] at h;exact getT_ok hl.1 t i h
   | false=>simp only [hc,cond_false] at h;exact getT_ok hl.2.2 t i h
noncomputable def tbl : TT:=(.node (.node (.node (.node (.node (.node (.node (.node .nil 1 (tiOf Tryz.t1 Tryz.t1) .nil) 2 (tiOf Tryz.t2 Tryz.t2) (.node .nil 3 (tiOf Tryz.t3 Tryz.t3) .nil)) 4 (tiOf Tryz.t4 Tryz.t4) (.node (.node .nil 5 (tiOf Tryz.t5 Tryz.t5) .nil) 7 (tiOf Tryz.t7 Tryz.t7) .nil)) 9 (tiOf Tryz.t9 Tryz.t9) (.node (.node (.node .nil 12 (tiOf Tryz.t12 Tryz.t12) .nil) 13 (tiOf Tryz.t13 Tryz.t13) .nil) 15 (tiOf Tryz.t15 Tryz.t15) (.node (.node .nil 16 (tiOf Tryz.t16 Tryz.t16) .nil) 17 (tiOf Tryz.t17 Tryz.t17) .nil))) 18 (tiOf Tryz.t18 Tryz.t18) (.node (.node (.node (.node .nil 20 (tiOf Tryz.t20 Tryz.t20) .nil) 21 (tiOf Tryz.t21 Tryz.t21) .nil) 22 (tiOf Tryz.t22 Tryz.t22) (.node (.node .nil 23 (tiOf Tryz.t23 Tryz.t23) .nil) 24 (tiOf Tryz.t24 Tryz.t23) .nil)) 25 (tiOf Tryz.t25 Tryz.t25) (.node (.node (.node .nil 26 (tiOf Tryz.t26 Tryz.t26) .nil) 27 (tiOf Tryz.t27 Tryz.t27) .nil) 28 (tiOf Tryz.t28 Tryz.t28) (.node (.node .nil 29 (tiOf Tryz.t29 Tryz.t28) .nil) 30 (tiOf Tryz.t30 Tryz.t3) .nil)))) 31 (tiOf Tryz.t31 Tryz.t31) (.node (.node (.node (.node (.node .nil 32 (tiOf Tryz.t32 Tryz.t32) .nil) 33 (tiOf Tryz.t33 Tryz.t33) .nil) 34 (tiOf Tryz.t34 Tryz.t34) (.node (.node .nil 35 (tiOf Tryz.t35 Tryz.t35) .nil) 36 (tiOf Tryz.t36 Tryz.t36) .nil)) 37 (tiOf Tryz.t37 Tryz.t37) (.node (.node (.node .nil 38 (tiOf Tryz.t38 Tryz.t38) .nil) 39 (tiOf Tryz.t39 Tryz.t39) .nil) 40 (tiOf Tryz.t40 Tryz.t40) (.node (.node .nil 41 (tiOf Tryz.t41 Tryz.t41) .nil) 42 (tiOf Tryz.t42 Tryz.t42) .nil))) 43 (tiOf Tryz.t43 Tryz.t43) (.node (.node (.node (.node .nil 44 (tiOf Tryz.t44 Tryz.t44) .nil) 45 (tiOf Tryz.t45 Tryz.t45) .nil) 46 (tiOf Tryz.t46 Tryz.t46) (.node (.node .nil 47 (tiOf Tryz.t47 Tryz.t47) .nil) 48 (tiOf Tryz.t48 Tryz.t48) .nil)) 49 (tiOf Tryz.t49 Tryz.t49) (.node (.node (.node .nil 50 (tiOf Tryz.t50 Tryz.t50) .nil) 51 (tiOf Tryz.t51 Tryz.t50) .nil) 52 (tiOf Tryz.t52 Tryz.t52) (.node (.node .nil 53 (tiOf Tryz.t53 Tryz.t52) .nil) 54 (tiOf Tryz.t54 Tryz.t54) .nil))))) 55 (tiOf Tryz.t55 Tryz.t55) (.node (.node (.node (.node (.node (.node .nil 56 (tiOf Tryz.t56 Tryz.t56) .nil) 57 (tiOf Tryz.t57 Tryz.t57) (.node .nil 58 (tiOf Tryz.t58 Tryz.t58) .nil)) 59 (tiOf Tryz.t59 Tryz.t59) (.node (.node .nil 60 (tiOf Tryz.t60 Tryz.t60) .nil) 61 (tiOf Tryz.t61 Tryz.t61) .nil)) 62 (tiOf Tryz.t62 Tryz.t62) (.node (.node (.node .nil 63 (tiOf Tryz.t63 Tryz.t63) .nil) 64 (tiOf Tryz.t64 Tryz.t63) .nil) 65 (tiOf Tryz.t65 Tryz.t65) (.node (.node .nil 66 (tiOf Tryz.t66 Tryz.t65) .nil) 67 (tiOf Tryz.t67 Tryz.t67) .nil))) 68 (tiOf Tryz.t68 Tryz.t68) (.node (.node (.node (.node .nil 69 (tiOf Tryz.t69 Tryz.t69) .nil) 70 (tiOf Tryz.t70 Tryz.t70) .nil) 71 (tiOf Tryz.t71 Tryz.t71) (.node (.node .nil 72 (tiOf Tryz.t72 Tryz.t72) .nil) 73 (tiOf Tryz.t73 Tryz.t73) .nil)) 74 (tiOf Tryz.t74 Tryz.t74) (.node (.node (.node .nil 75 (tiOf Tryz.t75 Tryz.t75) .nil) 76 (tiOf Tryz.t76 Tryz.t76) .nil) 77 (tiOf Tryz.t77 Tryz.t77) (.node (.node .nil 78 (tiOf Tryz.t78 Tryz.t78) .nil) 79 (tiOf Tryz.t79 Tryz.t78) .nil)))) 80 (tiOf Tryz.t80 Tryz.t80) (.node (.node (.node (.node (.node .nil 81 (tiOf Tryz.t81 Tryz.t81) .nil) 82 (tiOf Tryz.t82 Tryz.t82) .nil) 83 (tiOf Tryz.t83 Tryz.t82) (.node (.node .nil 84 (tiOf Tryz.t84 Tryz.t84) .nil) 85 (tiOf Tryz.t85 Tryz.t85) .nil)) 86 (tiOf Tryz.t86 Tryz.t86) (.node (.node (.node .nil 87 (tiOf Tryz.t87 Tryz.t86) .nil) 88 (tiOf Tryz.t88 Tryz.t88) .nil) 89 (tiOf Tryz.t89 Tryz.t89) (.node (.node .nil 90 (tiOf Tryz.t90 Tryz.t90) .nil) 91 (tiOf Tryz.t91 Tryz.t91) .nil))) 92 (tiOf Tryz.t92 Tryz.t92) (.node (.node (.node (.node .nil 93 (tiOf Tryz.t93 Tryz.t92) .nil) 94 (tiOf Tryz.t94 Tryz.t94) .nil) 95 (tiOf Tryz.t95 Tryz.t95) (.node (.node .nil 96 (tiOf Tryz.t96 Tryz.t96) .nil) 97 (tiOf Tryz.t97 Tryz.t97) .nil)) 98 (tiOf Tryz.t98 Tryz.t98) (.node (.node (.node .nil 99 (tiOf Tryz.t99 Tryz.t99) .nil) 100 (tiOf Tryz.t100 Tryz.t100) .nil) 101 (tiOf Tryz.t101 Tryz.t42) (.node (.node .nil 102 (tiOf Tryz.t102 Tryz.t102) .nil) 103 (tiOf Tryz.t103 Tryz.t103) .nil)))))) 104 (tiOf Tryz.t104 Tryz.t104) (.node (.node (.node (.node (.node (.node (.node .nil 105 (tiOf Tryz.t105 Tryz.t105) .nil) 106 (tiOf Tryz.t106 Tryz.t106) (.node .nil 107 (tiOf Tryz.t107 Tryz.t107) .nil)) 108 (tiOf Tryz.t108 Tryz.t108) (.node (.node .nil 109 (tiOf Tryz.t109 Tryz.t109) .nil) 110 (tiOf Tryz.t110 Tryz.t110) .nil)) 111 (tiOf Tryz.t111 Tryz.t111) (.node (.node (.node .nil 112 (tiOf Tryz.t112 Tryz.t112) .nil) 113 (tiOf Tryz.t113 Tryz.t112) .nil) 114 (tiOf Tryz.t114 Tryz.t114) (.node (.node .nil 115 (tiOf Tryz.t115 Tryz.t115) .nil) 116 (tiOf Tryz.t116 Tryz.t116) .nil))) 117 (tiOf Tryz.t117 Tryz.t117) (.node (.node (.node (.node .nil 118 (tiOf Tryz.t118 Tryz.t118) .nil) 119 (tiOf Tryz.t119 Tryz.t119) .nil) 120 (tiOf Tryz.t120 Tryz.t120) (.node (.node .nil 121 (tiOf Tryz.t121 Tryz.t119) .nil) 122 (tiOf Tryz.t122 Tryz.t122) .nil)) 123 (tiOf Tryz.t123 Tryz.t123) (.node (.node (.node .nil 124 (tiOf Tryz.t124 Tryz.t124) .nil) 125 (tiOf Tryz.t125 Tryz.t125) .nil) 126 (tiOf Tryz.t126 Tryz.t126) (.node (.node .nil 127 (tiOf Tryz.t127 Tryz.t127) .nil) 128 (tiOf Tryz.t128 Tryz.t128) .nil)))) 129 (tiOf Tryz.t129 Tryz.t129) (.node (.node (.node (.node (.node .nil 130 (tiOf Tryz.t130 Tryz.t130) .nil) 131 (tiOf Tryz.t131 Tryz.t131) .nil) 132 (tiOf Tryz.t132 Tryz.t132) (.node (.node .nil 133 (tiOf Tryz.t133 Tryz.t133) .nil) 134 (tiOf Tryz.t134 Tryz.t134) .nil)) 135 (tiOf Tryz.t135 Tryz.t135) (.node (.node (.node .nil 136 (tiOf Tryz.t136 Tryz.t136) .nil) 137 (tiOf Tryz.t137 Tryz.t137) .nil) 138 (tiOf Tryz.t138 Tryz.t138) (.node (.node .nil 139 (tiOf Tryz.t139 Tryz.t139) .nil) 140 (tiOf Tryz.t140 Tryz.t140) .nil))) 141 (tiOf Tryz.t141 Tryz.t141) (.node (.node (.node (.node .nil 142 (tiOf Tryz.t142 Tryz.t142) .nil) 143 (tiOf Tryz.t143 Tryz.t143) .nil) 144 (tiOf Tryz.t144 Tryz.t144) (.node (.node .nil 145 (tiOf Tryz.t145 Tryz.t145) .nil) 146 (tiOf Tryz.t146 Tryz.t146) .nil)) 147 (tiOf Tryz.t147 Tryz.t147) (.node (.node (.node .nil 148 (tiOf Tryz.t148 Tryz.t148) .nil) 149 (tiOf Tryz.t149 Tryz.t149) .nil) 150 (tiOf Tryz.t150 Tryz.t150) (.node (.node .nil 151 (tiOf Tryz.t151 Tryz.t151) .nil) 152 (tiOf Tryz.t152 Tryz.t152) .nil))))) 153 (tiOf Tryz.t153 Tryz.t153) (.node (.node (.node (.node (.node (.node .nil 154 (tiOf Tryz.t154 Tryz.t154) .nil) 155 (tiOf Tryz.t155 Tryz.t155) (.node .nil 156 (tiOf Tryz.t156 Tryz.t156) .nil)) 157 (tiOf Tryz.t157 Tryz.t157) (.node (.node .nil 158 (tiOf Tryz.t158 Tryz.t158) .nil) 159 (tiOf Tryz.t159 Tryz.t159) .nil)) 160 (tiOf Tryz.t160 Tryz.t160) (.node (.node (.node .nil 161 (tiOf Tryz.t161 Tryz.t161) .nil) 162 (tiOf Tryz.t162 Tryz.t162) .nil) 163 (tiOf Tryz.t163 Tryz.t163) (.node (.node .nil 164 (tiOf Tryz.t164 Tryz.t3) .nil) 165 (tiOf Tryz.t165 Tryz.t165) .nil))) 166 (tiOf Tryz.t166 Tryz.t166) (.node (.node (.node (.node .nil 167 (tiOf Tryz.t167 Tryz.t167) .nil) 168 (tiOf Tryz.t168 Tryz.t168) .nil) 169 (tiOf Tryz.t169 Tryz.t169) (.node (.node .nil 170 (tiOf Tryz.t170 Tryz.t170) .nil) 171 (tiOf Tryz.t171 Tryz.t171) .nil)) 172 (tiOf Tryz.t172 Tryz.t172) (.node (.node (.node .nil 173 (tiOf Tryz.t173 Tryz.t173) .nil) 174 (tiOf Tryz.t174 Tryz.t174) .nil) 175 (tiOf Tryz.t175 Tryz.t175) (.node (.node .nil 176 (tiOf Tryz.t176 Tryz.t176) .nil) 177 (tiOf Tryz.t177 Tryz.t176) .nil)))) 178 (tiOf Tryz.t178 Tryz.t178) (.node (.node (.node (.node (.node .nil 179 (tiOf Tryz.t179 Tryz.t179) .nil) 180 (tiOf Tryz.t180 Tryz.t180) .nil) 181 (tiOf Tryz.t181 Tryz.t181) (.node (.node .nil 182 (tiOf Tryz.t182 Tryz.t182) .nil) 183 (tiOf Tryz.t183 Tryz.t183) .nil)) 184 (tiOf Tryz.t184 Tryz.t184) (.node (.node (.node .nil 185 (tiOf Tryz.t185 Tryz.t185) .nil) 186 (tiOf Tryz.t186 Tryz.t186) .nil) 187 (tiOf Tryz.t187 Tryz.t187) (.node (.node .nil 188 (tiOf Tryz.t188 Tryz.t188) .nil) 189 (tiOf Tryz.t189 Tryz.t188) .nil))) 190 (tiOf Tryz.t190 Tryz.t190) (.node (.node (.node (.node .nil 191 (tiOf Tryz.t191 Tryz.t191) .nil) 192 (tiOf Tryz.t192 Tryz.t192) .nil) 193 (tiOf Tryz.t193 Tryz.t193) (.node (.node .nil 194 (tiOf Tryz.t194 Tryz.t194) .nil) 195 (tiOf Tryz.t195 Tryz.t195) .nil)) 196 (tiOf Tryz.t196 Tryz.t196) (.node (.node (.node .nil 197 (tiOf Tryz.t197 Tryz.t197) .nil) 199 (tiOf Tryz.t199 Tryz.t199) .nil) 200 (tiOf Tryz.t200 Tryz.t200) (.node (.node .nil 204 (tiOf Tryz.t204 Tryz.t204) .nil) 207 (tiOf Tryz.t207 Tryz.t207) .nil)))))))
theorem good1 : GoodTI Tryz.prog 1 (tiOf Tryz.t1 Tryz.t1):=goodTI (by kernel_rfl) (by kernel_rfl) (by kernel_rfl)
theorem good2 : GoodTI Tryz.prog 2 (tiOf Tryz.t2 Tryz.t2):=goodTI (by kernel_rfl) (by kernel_rfl) (by kernel_rfl)
theorem good3 : GoodTI Tryz.prog 3 (tiOf Tryz.t3 Tryz.t3):=goodTI (by kernel_rfl) (by kernel_rfl) (by kernel_rfl)
theorem good4 : GoodTI Tryz.prog 4 (tiOf Tryz.t4 Tryz.t4):=goodTI (by kernel_rfl) (by kernel_rfl) (by kernel_rfl)
theorem good5 : GoodTI Tryz.prog 5 (tiOf Tryz.t5 Tryz.t5):=goodTI (by kernel_rfl) (by kernel_rfl) (by kernel_rfl)
theorem good7 : GoodTI Tryz.prog 7 (tiOf Tryz.t7 Tryz.t7):=goodTI (by kernel_rfl) (by kernel_rfl) (by kernel_rfl)
theorem good9 : GoodTI Tryz.prog 9 (tiOf Tryz.t9 Tryz.t9):=goodTI (by kernel_rfl) (by kernel_rfl) (by kernel_rfl)
theorem good12 : GoodTI Tryz.prog 12 (tiOf Tryz.t12 Tryz.t12):=goodTI (by kernel_rfl) (by kernel_rfl) (by kernel_rfl)
theorem good13 : GoodTI Tryz.prog 13 (tiOf Tryz.t13 Tryz.t13):=goodTI (by kernel_rfl) (by kernel_rfl) (by kernel_rfl)
theorem good15 : GoodTI Tryz.prog 15 (tiOf Tryz.t15 Tryz.t15):=goodTI (by kernel_rfl) (by kernel_rfl) (by kernel_rfl)
theorem good16 : GoodTI Tryz.prog 16 (tiOf Tryz.t16 Tryz.t16):=goodTI (by kernel_rfl) (by kernel_rfl) (by kernel_rfl)
theorem good17 : GoodTI Tryz.prog 17 (tiOf Tryz.t17 Tryz.t17):=goodTI (by kernel_rfl) (by kernel_rfl) (by kernel_rfl)
theorem good18 : GoodTI Tryz.prog 18 (tiOf Tryz.t18 Tryz.t18):=goodTI (by kernel_rfl) (by kernel_rfl) (by kernel_rfl)
theorem good20 : GoodTI Tryz.prog 20 (tiOf Tryz.t20 Tryz.t20):=goodTI (by kernel_rfl) (by kernel_rfl) (by kernel_rfl)
theorem good21 : GoodTI Tryz.prog 21 (tiOf Tryz.t21 Tryz.t21):=goodTI (by kernel_rfl) (by kernel_rfl) (by kernel_rfl)
theorem good22 : GoodTI Tryz.prog 22 (tiOf Tryz.t22 Tryz.t22):=goodTI (by kernel_rfl) (by kernel_rfl) (by kernel_rfl)
theorem good23 : GoodTI Tryz.prog 23 (tiOf Tryz.t23 Tryz.t23):=goodTI (by kernel_rfl) (by kernel_rfl) (by kernel_rfl)
theorem good24 : GoodTI Tryz.prog 24 (tiOf Tryz.t24 Tryz.t23):=goodTI (by kernel_rfl) (by kernel_rfl) (by kernel_rfl)
theorem good25 : GoodTI Tryz.prog 25 (tiOf Tryz.t25 Tryz.t25):=goodTI (by kernel_rfl) (by kernel_rfl) (by kernel_rfl)
theorem good26 : GoodTI Tryz.prog 26 (tiOf Tryz.t26 Tryz.t26):=goodTI (by kernel_rfl) (by kernel_rfl) (by kernel_rfl)
theorem good27 : GoodTI Tryz.prog 27 (tiOf Tryz.t27 Tryz.t27):=goodTI (by kernel_rfl) (by kernel_rfl) (by kernel_rfl)
theorem good28 : GoodTI Tryz.prog 28 (tiOf Tryz.t28 Tryz.t28):=goodTI (by kernel_rfl) (by kernel_rfl) (by kernel_rfl)
theorem good29 : GoodTI Tryz.prog 29 (tiOf Tryz.t29 Tryz.t28):=goodTI (by kernel_rfl) (by kernel_rfl) (by kernel_rfl)
theorem good30 : GoodTI Tryz.prog 30 (tiOf Tryz.t30 Tryz.t3):=goodTI (by kernel_rfl) (by kernel_rfl) (by kernel_rfl)
theorem good31 : GoodTI Tryz.prog 31 (tiOf Tryz.t31 Tryz.t31):=goodTI (by kernel_rfl) (by kernel_rfl) (by kernel_rfl)
theorem good32 : GoodTI Tryz.prog 32 (tiOf Tryz.t32 Tryz.t32):=goodTI (by kernel_rfl) (by kernel_rfl) (by kernel_rfl)
theorem good33 : GoodTI Tryz.prog 33 (tiOf Tryz.t33 Tryz.t33):=goodTI (by kernel_rfl) (by kernel_rfl) (by kernel_rfl)
theorem good34 : GoodTI Tryz.prog 34 (tiOf Tryz.t34 Tryz.t34):=goodTI (by kernel_rfl) (by kernel_rfl) (by kernel_rfl)
theorem good35 : GoodTI Tryz.prog 35 (tiOf Tryz.t35 Tryz.t35):=goodTI (by kernel_rfl) (by kernel_rfl) (by kernel_rfl)
theorem good36 : GoodTI Tryz.prog 36 (tiOf Tryz.t36 Tryz.t36):=goodTI (by kernel_rfl) (by kernel_rfl) (by kernel_rfl)
theorem good37 : GoodTI Tryz.prog 37 (tiOf Tryz.t37 Tryz.t37):=goodTI (by kernel_rfl) (by kernel_rfl) (by kernel_rfl)
theorem good38 : GoodTI Tryz.prog 38 (tiOf Tryz.t38 Tryz.t38):=goodTI (by kernel_rfl) (by kernel_rfl) (by kernel_rfl)
theorem good39 : GoodTI Tryz.prog 39 (tiOf Tryz.t39 Tryz.t39):=goodTI (by kernel_rfl) (by kernel_rfl) (by kernel_rfl)
theorem good40 : GoodTI Tryz.prog 40 (tiOf Tryz.t40 Tryz.t40):=goodTI (by kernel_rfl) (by kernel_rfl) (by kernel_rfl)
theorem good41 : GoodTI Tryz.prog 41 (tiOf Tryz.t41 Tryz.t41):=goodTI (by kernel_rfl) (by kernel_rfl) (by kernel_rfl)
theorem good42 : GoodTI Tryz.prog 42 (tiOf Tryz.t42 Tryz.t42):=goodTI (by kernel_rfl) (by kernel_rfl) (by kernel_rfl)
theorem good43 : GoodTI Tryz.prog 43 (tiOf Tryz.t43 Tryz.t43):=goodTI (by kernel_rfl) (by kernel_rfl) (by kernel_rfl)
theorem good44 : GoodTI Tryz.prog 44 (tiOf Tryz.t44 Tryz.t44):=goodTI (by kernel_rfl) (by kernel_rfl) (by kernel_rfl)
theorem good45 : GoodTI Tryz.prog 45 (tiOf Tryz.t45 Tryz.t45):=goodTI (by kernel_rfl) (by kernel_rfl) (by kernel_rfl)
theorem good46 : GoodTI Tryz.prog 46 (tiOf Tryz.t46 Tryz.t46):=goodTI (by kernel_rfl) (by kernel_rfl) (by kernel_rfl)
theorem good47 : GoodTI Tryz.prog 47 (tiOf Tryz.t47 Tryz.t47):=goodTI (by kernel_rfl) (by kernel_rfl) (by kernel_rfl)
theorem good48 : GoodTI Tryz.prog 48 (tiOf Tryz.t48 Tryz.t48):=goodTI (by kernel_rfl) (by kernel_rfl) (by kernel_rfl)
theorem good49 : GoodTI Tryz.prog 49 (tiOf Tryz.t49 Tryz.t49):=goodTI (by kernel_rfl) (by kernel_rfl) (by kernel_rfl)
theorem good50 : GoodTI Tryz.prog 50 (tiOf Tryz.t50 Tryz.t50):=goodTI (by kernel_rfl) (by kernel_rfl) (by kernel_rfl)
theorem good51 : GoodTI Tryz.prog 51 (tiOf Tryz.t51 Tryz.t50):=goodTI (by kernel_rfl) (by kernel_rfl) (by kernel_rfl)
theorem good52 : GoodTI Tryz.prog 52 (tiOf Tryz.t52 Tryz.t52):=goodTI (by kernel_rfl) (by kernel_rfl) (by kernel_rfl)
theorem good53 : GoodTI Tryz.prog 53 (tiOf Tryz.t53 Tryz.t52):=goodTI (by kernel_rfl) (by kernel_rfl) (by kernel_rfl)
theorem good54 : GoodTI Tryz.prog 54 (tiOf Tryz.t54 Tryz.t54):=goodTI (by kernel_rfl) (by kernel_rfl) (by kernel_rfl)
theorem good55 : GoodTI Tryz.prog 55 (tiOf Tryz.t55 Tryz.t55):=goodTI (by kernel_rfl) (by kernel_rfl) (by kernel_rfl)
theorem good56 : GoodTI Tryz.prog 56 (tiOf Tryz.t56 Tryz.t56):=goodTI (by kernel_rfl) (by kernel_rfl) (by kernel_rfl)
theorem good57 : GoodTI Tryz.prog 57 (tiOf Tryz.t57 Tryz.t57):=goodTI (by kernel_rfl) (by kernel_rfl) (by kernel_rfl)
theorem good58 : GoodTI Tryz.prog 58 (tiOf Tryz.t58 Tryz.t58):=goodTI (by kernel_rfl) (by kernel_rfl) (by kernel_rfl)
theorem good59 : GoodTI Tryz.prog 59 (tiOf Tryz.t59 Tryz.t59):=goodTI (by kernel_rfl) (by kernel_rfl) (by kernel_rfl)
theorem good60 : GoodTI Tryz.prog 60 (tiOf Tryz.t60 Tryz.t60):=goodTI (by kernel_rfl) (by kernel_rfl) (by kernel_rfl)
theorem good61 : GoodTI Tryz.prog 61 (tiOf Tryz.t61 Tryz.t61):=goodTI (by kernel_rfl) (by kernel_rfl) (by kernel_rfl)
theorem good62 : GoodTI Tryz.prog 62 (tiOf Tryz.t62 Tryz.t62):=goodTI (by kernel_rfl) (by kernel_rfl) (by kernel_rfl)
theorem good63 : GoodTI Tryz.prog 63 (tiOf Tryz.t63 Tryz.t63):=goodTI (by kernel_rfl) (by kernel_rfl) (by kernel_rfl)
theorem good64 : GoodTI Tryz.prog 64 (tiOf Tryz.t64 Tryz.t63):=goodTI (by kernel_rfl) (by kernel_rfl) (by kernel_rfl)
theorem good65 : GoodTI Tryz.prog 65 (tiOf Tryz.t65 Tryz.t65):=goodTI (by kernel_rfl) (by kernel_rfl) (by kernel_rfl)
theorem good66 : GoodTI Tryz.prog 66 (tiOf Tryz.t66 Tryz.t65):=goodTI (by kernel_rfl) (by kernel_rfl) (by kernel_rfl)
theorem good67 : GoodTI Tryz.prog 67 (tiOf Tryz.t67 Tryz.t67):=goodTI (by kernel_rfl) (by kernel_rfl) (by kernel_rfl)
theorem good68 : GoodTI Tryz.prog 68 (tiOf Tryz.t68 Tryz.t68):=goodTI (by kernel_rfl) (by kernel_rfl) (by kernel_rfl)
theorem good69 : GoodTI Tryz.prog 69 (tiOf Tryz.t69 Tryz.t69):=goodTI (by kernel_rfl) (by kernel_rfl) (by kernel_rfl)
theorem good70 : GoodTI Tryz.prog 70 (tiOf Tryz.t70 Tryz.t70):=goodTI (by kernel_rfl) (by kernel_rfl) (by kernel_rfl)
theorem good71 : GoodTI Tryz.prog 71 (tiOf Tryz.t71 Tryz.t71):=goodTI (by kernel_rfl) (by kernel_rfl) (by kernel_rfl)
theorem good72 : GoodTI Tryz.prog 72 (tiOf Tryz.t72 Tryz.t72):=goodTI (by kernel_rfl) (by kernel_rfl) (by kernel_rfl)
theorem good73 : GoodTI Tryz.prog 73 (tiOf Tryz.t73 Tryz.t73):=goodTI (by kernel_rfl) (by kernel_rfl) (by kernel_rfl)
theorem good74 : GoodTI Tryz.prog 74 (tiOf Tryz.t74 Tryz.t74):=goodTI (by kernel_rfl) (by kernel_rfl) (by kernel_rfl)
theorem good75 : GoodTI Tryz.prog 75 (tiOf Tryz.t75 Tryz.t75):=goodTI (by kernel_rfl) (by kernel_rfl) (by kernel_rfl)
theorem good76 : GoodTI Tryz.prog 76 (tiOf Tryz.t76 Tryz.t76):=goodTI (by kernel_rfl) (by kernel_rfl) (by kernel_rfl)
theorem good77 : GoodTI Tryz.prog 77 (tiOf Tryz.t77 Tryz.t77):=goodTI (by kernel_rfl) (by kernel_rfl) (by kernel_rfl)
theorem good78 : GoodTI Tryz.prog 78 (tiOf Tryz.t78 Tryz.t78):=goodTI (by kernel_rfl) (by kernel_rfl) (by kernel_rfl)
theorem good79 : GoodTI Tryz.prog 79 (tiOf Tryz.t79 Tryz.t78):=goodTI (by kernel_rfl) (by kernel_rfl) (by kernel_rfl)
theorem good80 : GoodTI Tryz.prog 80 (tiOf Tryz.t80 Tryz.t80):=goodTI (by kernel_rfl) (by kernel_rfl) (by kernel_rfl)
theorem good81 : GoodTI Tryz.prog 81 (tiOf Tryz.t81 Tryz.t81):=goodTI (by kernel_rfl) (by kernel_rfl) (by kernel_rfl)
theorem good82 : GoodTI Tryz.prog 82 (tiOf Tryz.t82 Tryz.t82):=goodTI (by kernel_rfl) (by kernel_rfl) (by kernel_rfl)
theorem good83 : GoodTI Tryz.prog 83 (tiOf Tryz.t83 Tryz.t82):=goodTI (by kernel_rfl) (by kernel_rfl) (by kernel_rfl)
theorem good84 : GoodTI Tryz.prog 84 (tiOf Tryz.t84 Tryz.t84):=goodTI (by kernel_rfl) (by kernel_rfl) (by kernel_rfl)
theorem good85 : GoodTI Tryz.prog 85 (tiOf Tryz.t85 Tryz.t85):=goodTI (by kernel_rfl) (by kernel_rfl) (by kernel_rfl)
theorem good86 : GoodTI Tryz.prog 86 (tiOf Tryz.t86 Tryz.t86):=goodTI (by kernel_rfl) (by kernel_rfl) (by kernel_rfl)
theorem good87 : GoodTI Tryz.prog 87 (tiOf Tryz.t87 Tryz.t86):=goodTI (by kernel_rfl) (by kernel_rfl) (by kernel_rfl)
theorem good88 : GoodTI Tryz.prog 88 (tiOf Tryz.t88 Tryz.t88):=goodTI (by kernel_rfl) (by kernel_rfl) (by kernel_rfl)
theorem good89 : GoodTI Tryz.prog 89 (tiOf Tryz.t89 Tryz.t89):=goodTI (by kernel_rfl) (by kernel_rfl) (by kernel_rfl)
theorem good90 : GoodTI Tryz.prog 90 (tiOf Tryz.t90 Tryz.t90):=goodTI (by kernel_rfl) (by kernel_rfl) (by kernel_rfl)
theorem good91 : GoodTI Tryz.prog 91 (tiOf Tryz.t91 Tryz.t91):=goodTI (by kernel_rfl) (by kernel_rfl) (by kernel_rfl)
theorem good92 : GoodTI Tryz.prog 92 (tiOf Tryz.t92 Tryz.t92):=goodTI (by kernel_rfl) (by kernel_rfl) (by kernel_rfl)
theorem good93 : GoodTI Tryz.prog 93 (tiOf Tryz.t93 Tryz.t92):=goodTI (by kernel_rfl) (by kernel_rfl) (by kernel_rfl)
theorem good94 : GoodTI Tryz.prog 94 (tiOf Tryz.t94 Tryz.t94):=goodTI (by kernel_rfl) (by kernel_rfl) (by kernel_rfl)
theorem good95 : GoodTI Tryz.prog 95 (tiOf Tryz.t95 Tryz.t95):=goodTI (by kernel_rfl) (by kernel_rfl) (by kernel_rfl)
theorem good96 : GoodTI Tryz.prog 96 (tiOf Tryz.t96 Tryz.t96):=goodTI (by kernel_rfl) (by kernel_rfl) (by kernel_rfl)
theorem good97 : GoodTI Tryz.prog 97 (tiOf Tryz.t97 Tryz.t97):=goodTI (by kernel_rfl) (by kernel_rfl) (by kernel_rfl)
theorem good98 : GoodTI Tryz.prog 98 (tiOf Tryz.t98 Tryz.t98):=goodTI (by kernel_rfl) (by kernel_rfl) (by kernel_rfl)
theorem good99 : GoodTI Tryz.prog 99 (tiOf Tryz.t99 Tryz.t99):=goodTI (by kernel_rfl) (by kernel_rfl) (by kernel_rfl)
theorem good100 : GoodTI Tryz.prog 100 (tiOf Tryz.t100 Tryz.t100):=goodTI (by kernel_rfl) (by kernel_rfl) (by kernel_rfl)
theorem good101 : GoodTI Tryz.prog 101 (tiOf Tryz.t101 Tryz.t42):=goodTI (by kernel_rfl) (by kernel_rfl) (by kernel_rfl)
theorem good102 : GoodTI Tryz.prog 102 (tiOf Tryz.t102 Tryz.t102):=goodTI (by kernel_rfl) (by kernel_rfl) (by kernel_rfl)
theorem good103 : GoodTI Tryz.prog 103 (tiOf Tryz.t103 Tryz.t103):=goodTI (by kernel_rfl) (by kernel_rfl) (by kernel_rfl)
theorem good104 : GoodTI Tryz.prog 104 (tiOf Tryz.t104 Tryz.t104):=goodTI (by kernel_rfl) (by kernel_rfl) (by kernel_rfl)
theorem good105 : GoodTI Tryz.prog 105 (tiOf Tryz.t105 Tryz.t105):=goodTI (by kernel_rfl) (by kernel_rfl) (by kernel_rfl)
theorem good106 : GoodTI Tryz.prog 106 (tiOf Tryz.t106 Tryz.t106):=goodTI (by kernel_rfl) (by kernel_rfl) (by kernel_rfl)
theorem good107 : GoodTI Tryz.prog 107 (tiOf Tryz.t107 Tryz.t107):=goodTI (by kernel_rfl) (by kernel_rfl) (by kernel_rfl)
theorem good108 : GoodTI Tryz.prog 108 (tiOf Tryz.t108 Tryz.t108):=goodTI (by kernel_rfl) (by kernel_rfl) (by kernel_rfl)
theorem good109 : GoodTI Tryz.prog 109 (tiOf Tryz.t109 Tryz.t109):=goodTI (by kernel_rfl) (by kernel_rfl) (by kernel_rfl)
theorem good110 : GoodTI Tryz.prog 110 (tiOf Tryz.t110 Tryz.t110):=goodTI (by kernel_rfl) (by kernel_rfl) (by kernel_rfl)
theorem good111 : GoodTI Tryz.prog 111 (tiOf Tryz.t111 Tryz.t111):=goodTI (by kernel_rfl) (by kernel_rfl) (by kernel_rfl)
theorem good112 : GoodTI Tryz.prog 112 (tiOf Tryz.t112 Tryz.t112):=goodTI (by kernel_rfl) (by kernel_rfl) (by kernel_rfl)
theorem good113 : GoodTI Tryz.prog 113 (tiOf Tryz.t113 Tryz.t112):=goodTI (by kernel_rfl) (by kernel_rfl) (by kernel_rfl)
theorem good114 : GoodTI Tryz.prog 114 (tiOf Tryz.t114 Tryz.t114):=goodTI (by kernel_rfl) (by kernel_rfl) (by kernel_rfl)
theorem good115 : GoodTI Tryz.prog 115 (tiOf Tryz.t115 Tryz.t115):=goodTI (by kernel_rfl) (by kernel_rfl) (by kernel_rfl)
theorem good116 : GoodTI Tryz.prog 116 (tiOf Tryz.t116 Tryz.t116):=goodTI (by kernel_rfl) (by kernel_rfl) (by kernel_rfl)
theorem good117 : GoodTI Tryz.prog 117 (tiOf Tryz.t117 Tryz.t117):=goodTI (by kernel_rfl) (by kernel_rfl) (by kernel_rfl)
theorem good118 : GoodTI Tryz.prog 118 (tiOf Tryz.t118 Tryz.t118):=goodTI (by kernel_rfl) (by kernel_rfl) (by kernel_rfl)
theorem good119 : GoodTI Tryz.prog 119 (tiOf Tryz.t119 Tryz.t119):=goodTI (by kernel_rfl) (by kernel_rfl) (by kernel_rfl)
theorem good120 : GoodTI Tryz.prog 120 (tiOf Tryz.t120 Tryz.t120):=goodTI (by kernel_rfl) (by kernel_rfl) (by kernel_rfl)
theorem good121 : GoodTI Tryz.prog 121 (tiOf Tryz.t121 Tryz.t119):=goodTI (by kernel_rfl) (by kernel_rfl) (by kernel_rfl)
theorem good122 : GoodTI Tryz.prog 122 (tiOf Tryz.t122 Tryz.t122):=goodTI (by kernel_rfl) (by kernel_rfl) (by kernel_rfl)
theorem good123 : GoodTI Tryz.prog 123 (tiOf Tryz.t123 Tryz.t123):=goodTI (by kernel_rfl) (by kernel_rfl) (by kernel_rfl)
theorem good124 : GoodTI Tryz.prog 124 (tiOf Tryz.t124 Tryz.t124):=goodTI (by kernel_rfl) (by kernel_rfl) (by kernel_rfl)
theorem good125 : GoodTI Tryz.prog 125 (tiOf Tryz.t125 Tryz.t125):=goodTI (by kernel_rfl) (by kernel_rfl) (by kernel_rfl)
theorem good126 : GoodTI Tryz.prog 126 (tiOf Tryz.t126 Tryz.t126):=goodTI (by kernel_rfl) (by kernel_rfl) (by kernel_rfl)
theorem good127 : GoodTI Tryz.prog 127 (tiOf Tryz.t127 Tryz.t127):=goodTI (by kernel_rfl) (by kernel_rfl) (by kernel_rfl)
theorem good128 : GoodTI Tryz.prog 128 (tiOf Tryz.t128 Tryz.t128):=goodTI (by kernel_rfl) (by kernel_rfl) (by kernel_rfl)
theorem good129 : GoodTI Tryz.prog 129 (tiOf Tryz.t129 Tryz.t129):=goodTI (by kernel_rfl) (by kernel_rfl) (by kernel_rfl)
theorem good130 : GoodTI Tryz.prog 130 (tiOf Tryz.t130 Tryz.t130):=goodTI (by kernel_rfl) (by kernel_rfl) (by kernel_rfl)
theorem good131 : GoodTI Tryz.prog 131 (tiOf Tryz.t131 Tryz.t131):=goodTI (by kernel_rfl) (by kernel_rfl) (by kernel_rfl)
theorem good132 : GoodTI Tryz.prog 132 (tiOf Tryz.t132 Tryz.t132):=goodTI (by kernel_rfl) (by kernel_rfl) (by kernel_rfl)
theorem good133 : GoodTI Tryz.prog 133 (tiOf Tryz.t133 Tryz.t133):=goodTI (by kernel_rfl) (by kernel_rfl) (by kernel_rfl)
theorem good134 : GoodTI Tryz.prog 134 (tiOf Tryz.t134 Tryz.t134):=goodTI (by kernel_rfl) (by kernel_rfl) (by kernel_rfl)
theorem good135 : GoodTI Tryz.prog 135 (tiOf Tryz.t135 Tryz.t135):=goodTI (by kernel_rfl) (by kernel_rfl) (by kernel_rfl)
theorem good136 : GoodTI Tryz.prog 136 (tiOf Tryz.t136 Tryz.t136):=goodTI (by kernel_rfl) (by kernel_rfl) (by kernel_rfl)
theorem good137 : GoodTI Tryz.prog 137 (tiOf Tryz.t137 Tryz.t137):=goodTI (by kernel_rfl) (by kernel_rfl) (by kernel_rfl)
theorem good138 : GoodTI Tryz.prog 138 (tiOf Tryz.t138 Tryz.t138):=goodTI (by kernel_rfl) (by kernel_rfl) (by kernel_rfl)
theorem good139 : GoodTI Tryz.prog 139 (tiOf Tryz.t139 Tryz.t139):=goodTI (by kernel_rfl) (by kernel_rfl) (by kernel_rfl)
theorem good140 : GoodTI Tryz.prog 140 (tiOf Tryz.t140 Tryz.t140):=goodTI (by kernel_rfl) (by kernel_rfl) (by kernel_rfl)
theorem good141 : GoodTI Tryz.prog 141 (tiOf Tryz.t141 Tryz.t141):=goodTI (by kernel_rfl) (by kernel_rfl) (by kernel_rfl)
theorem good142 : GoodTI Tryz.prog 142 (tiOf Tryz.t142 Tryz.t142):=goodTI (by kernel_rfl) (by kernel_rfl) (by kernel_rfl)
theorem good143 : GoodTI Tryz.prog 143 (tiOf Tryz.t143 Tryz.t143):=goodTI (by kernel_rfl) (by kernel_rfl) (by kernel_rfl)
theorem good144 : GoodTI Tryz.prog 144 (tiOf Tryz.t144 Tryz.t144):=goodTI (by kernel_rfl) (by kernel_rfl) (by kernel_rfl)
theorem good145 : GoodTI Tryz.prog 145 (tiOf Tryz.t145 Tryz.t145):=goodTI (by kernel_rfl) (by kernel_rfl) (by kernel_rfl)
theorem good146 : GoodTI Tryz.prog 146 (tiOf Tryz.t146 Tryz.t146):=goodTI (by kernel_rfl) (by kernel_rfl) (by kernel_rfl)
theorem good147 : GoodTI Tryz.prog 147 (tiOf Tryz.t147 Tryz.t147):=goodTI (by kernel_rfl) (by kernel_rfl) (by kernel_rfl)
theorem good148 : GoodTI Tryz.prog 148 (tiOf Tryz.t148 Tryz.t148):=goodTI (by kernel_rfl) (by kernel_rfl) (by kernel_rfl)
theorem good149 : GoodTI Tryz.prog 149 (tiOf Tryz.t149 Tryz.t149):=goodTI (by kernel_rfl) (by kernel_rfl) (by kernel_rfl)
theorem good150 : GoodTI Tryz.prog 150 (tiOf Tryz.t150 Tryz.t150):=goodTI (by kernel_rfl) (by kernel_rfl) (by kernel_rfl)
theorem good151 : GoodTI Tryz.prog 151 (tiOf Tryz.t151 Tryz.t151):=goodTI (by kernel_rfl) (by kernel_rfl) (by kernel_rfl)
theorem good152 : GoodTI Tryz.prog 152 (tiOf Tryz.t152 Tryz.t152):=goodTI (by kernel_rfl) (by kernel_rfl) (by kernel_rfl)
theorem good153 : GoodTI Tryz.prog 153 (tiOf Tryz.t153 Tryz.t153):=goodTI (by kernel_rfl) (by kernel_rfl) (by kernel_rfl)
theorem good154 : GoodTI Tryz.prog 154 (tiOf Tryz.t154 Tryz.t154):=goodTI (by kernel_rfl) (by kernel_rfl) (by kernel_rfl)
theorem good155 : GoodTI Tryz.prog 155 (tiOf Tryz.t155 Tryz.t155):=goodTI (by kernel_rfl) (by kernel_rfl) (by kernel_rfl)
theorem good156 : GoodTI Tryz.prog 156 (tiOf Tryz.t156 Tryz.t156):=goodTI (by kernel_rfl) (by kernel_rfl) (by kernel_rfl)
theorem good157 : GoodTI Tryz.prog 157 (tiOf Tryz.t157 Tryz.t157):=goodTI (by kernel_rfl) (by kernel_rfl) (by kernel_rfl)
theorem good158 : GoodTI Tryz.prog 158 (tiOf Tryz.t158 Tryz.t158):=goodTI (by kernel_rfl) (by kernel_rfl) (by kernel_rfl)
theorem good159 : GoodTI Tryz.prog 159 (tiOf Tryz.t159 Tryz.t159):=goodTI (by kernel_rfl) (by kernel_rfl) (by kernel_rfl)
theorem good160 : GoodTI Tryz.prog 160 (tiOf Tryz.t160 Tryz.t160):=goodTI (by kernel_rfl) (by kernel_rfl) (by kernel_rfl)
theorem good161 : GoodTI Tryz.prog 161 (tiOf Tryz.t161 Tryz.t161):=goodTI (by kernel_rfl) (by kernel_rfl) (by kernel_rfl)
theorem good162 : GoodTI Tryz.prog 162 (tiOf Tryz.t162 Tryz.t162):=goodTI (by kernel_rfl) (by kernel_rfl) (by kernel_rfl)
theorem good163 : GoodTI Tryz.prog 163 (tiOf Tryz.t163 Tryz.t163):=goodTI (by kernel_rfl) (by kernel_rfl) (by kernel_rfl)
theorem good164 : GoodTI Tryz.prog 164 (tiOf Tryz.t164 Tryz.t3):=goodTI (by kernel_rfl) (by kernel_rfl) (by kernel_rfl)
theorem good165 : GoodTI Tryz.prog 165 (tiOf Tryz.t165 Tryz.t165):=goodTI (by kernel_rfl) (by kernel_rfl) (by kernel_rfl)
theorem good166 : GoodTI Tryz.prog 166 (tiOf Tryz.t166 Tryz.t166):=goodTI (by kernel_rfl) (by kernel_rfl) (by kernel_rfl)
theorem good167 : GoodTI Tryz.prog 167 (tiOf Tryz.t167 Tryz.t167):=goodTI (by kernel_rfl) (by kernel_rfl) (by kernel_rfl)
theorem good168 : GoodTI Tryz.prog 168 (tiOf Tryz.t168 Tryz.t168):=goodTI (by kernel_rfl) (by kernel_rfl) (by kernel_rfl)
theorem good169 : GoodTI Tryz.prog 169 (tiOf Tryz.t169 Tryz.t169):=goodTI (by kernel_rfl) (by kernel_rfl) (by kernel_rfl)
theorem good170 : GoodTI Tryz.prog 170 (tiOf Tryz.t170 Tryz.t170):=goodTI (by kernel_rfl) (by kernel_rfl) (by kernel_rfl)
theorem good171 : GoodTI Tryz.prog 171 (tiOf Tryz.t171 Tryz.t171):=goodTI (by kernel_rfl) (by kernel_rfl) (by kernel_rfl)
theorem good172 : GoodTI Tryz.prog 172 (tiOf Tryz.t172 Tryz.t172):=goodTI (by kernel_rfl) (by kernel_rfl) (by kernel_rfl)
theorem good173 : GoodTI Tryz.prog 173 (tiOf Tryz.t173 Tryz.t173):=goodTI (by kernel_rfl) (by kernel_rfl) (by kernel_rfl)
theorem good174 : GoodTI Tryz.prog 174 (tiOf Tryz.t174 Tryz.t174):=goodTI (by kernel_rfl) (by kernel_rfl) (by kernel_rfl)
theorem good175 : GoodTI Tryz.prog 175 (tiOf Tryz.t175 Tryz.t175):=goodTI (by kernel_rfl) (by kernel_rfl) (by kernel_rfl)
theorem good176 : GoodTI Tryz.prog 176 (tiOf Tryz.t176 Tryz.t176):=goodTI (by kernel_rfl) (by kernel_rfl) (by kernel_rfl)
theorem good177 : GoodTI Tryz.prog 177 (tiOf Tryz.t177 Tryz.t176):=goodTI (by kernel_rfl) (by kernel_rfl) (by kernel_rfl)
theorem good178 : GoodTI Tryz.prog 178 (tiOf Tryz.t178 Tryz.t178):=goodTI (by kernel_rfl) (by kernel_rfl) (by kernel_rfl)
theorem good179 : GoodTI Tryz.prog 179 (tiOf Tryz.t179 Tryz.t179):=goodTI (by kernel_rfl) (by kernel_rfl) (by kernel_rfl)
theorem good180 : GoodTI Tryz.prog 180 (tiOf Tryz.t180 Tryz.t180):=goodTI (by kernel_rfl) (by kernel_rfl) (by kernel_rfl)
theorem good181 : GoodTI Tryz.prog 181 (tiOf Tryz.t181 Tryz.t181):=goodTI (by kernel_rfl) (by kernel_rfl) (by kernel_rfl)
theorem good182 : GoodTI Tryz.prog 182 (tiOf Tryz.t182 Tryz.t182):=goodTI (by kernel_rfl) (by kernel_rfl) (by kernel_rfl)
theorem good183 : GoodTI Tryz.prog 183 (tiOf Tryz.t183 Tryz.t183):=goodTI (by kernel_rfl) (by kernel_rfl) (by kernel_rfl)
theorem good184 : GoodTI Tryz.prog 184 (tiOf Tryz.t184 Tryz.t184):=goodTI (by kernel_rfl) (by kernel_rfl) (by kernel_rfl)
theorem good185 : GoodTI Tryz.prog 185 (tiOf Tryz.t185 Tryz.t185):=goodTI (by kernel_rfl) (by kernel_rfl) (by kernel_rfl)
theorem good186 : GoodTI Tryz.prog 186 (tiOf Tryz.t186 Tryz.t186):=goodTI (by kernel_rfl) (by kernel_rfl) (by kernel_rfl)
theorem good187 : GoodTI Tryz.prog 187 (tiOf Tryz.t187 Tryz.t187):=goodTI (by kernel_rfl) (by kernel_rfl) (by kernel_rfl)
theorem good188 : GoodTI Tryz.prog 188 (tiOf Tryz.t188 Tryz.t188):=goodTI (by kernel_rfl) (by kernel_rfl) (by kernel_rfl)
theorem good189 : GoodTI Tryz.prog 189 (tiOf Tryz.t189 Tryz.t188):=goodTI (by kernel_rfl) (by kernel_rfl) (by kernel_rfl)
theorem good190 : GoodTI Tryz.prog 190 (tiOf Tryz.t190 Tryz.t190):=goodTI (by kernel_rfl) (by kernel_rfl) (by kernel_rfl)
theorem good191 : GoodTI Tryz.prog 191 (tiOf Tryz.t191 Tryz.t191):=goodTI (by kernel_rfl) (by kernel_rfl) (by kernel_rfl)
theorem good192 : GoodTI Tryz.prog 192 (tiOf Tryz.t192 Tryz.t192):=goodTI (by kernel_rfl) (by kernel_rfl) (by kernel_rfl)
theorem good193 : GoodTI Tryz.prog 193 (tiOf Tryz.t193 Tryz.t193):=goodTI (by kernel_rfl) (by kernel_rfl) (by kernel_rfl)
theorem good194 : GoodTI Tryz.prog 194 (tiOf Tryz.t194 Tryz.t194):=goodTI (by kernel_rfl) (by kernel_rfl) (by kernel_rfl)
theorem good195 : GoodTI Tryz.prog 195 (tiOf Tryz.t195 Tryz.t195):=goodTI (by kernel_rfl) (by kernel_rfl) (by kernel_rfl)
theorem good196 : GoodTI Tryz.prog 196 (tiOf Tryz.t196 Tryz.t196):=goodTI (by kernel_rfl) (by kernel_rfl) (by kernel_rfl)
theorem good197 : GoodTI Tryz.prog 197 (tiOf Tryz.t197 Tryz.t197):=goodTI (by kernel_rfl) (by kernel_rfl) (by kernel_rfl)
theorem good199 : GoodTI Tryz.prog 199 (tiOf Tryz.t199 Tryz.t199):=goodTI (by kernel_rfl) (by kernel_rfl) (by kernel_rfl)
theorem good200 : GoodTI Tryz.prog 200 (tiOf Tryz.t200 Tryz.t200):=goodTI (by kernel_rfl) (by kernel_rfl) (by kernel_rfl)
theorem good204 : GoodTI Tryz.prog 204 (tiOf Tryz.t204 Tryz.t204):=goodTI (by kernel_rfl) (by kernel_rfl) (by kernel_rfl)
theorem good207 : GoodTI Tryz.prog 207 (tiOf Tryz.t207 Tryz.t207):=goodTI (by kernel_rfl) (by kernel_rfl) (by kernel_rfl)
theorem tbl_ok : AllT Tryz.prog tbl:=⟨⟨⟨⟨⟨⟨⟨⟨trivial,good1,trivial⟩,good2,⟨trivial,good3,trivial⟩⟩,good4,⟨⟨trivial,good5,trivial⟩,good7,trivial⟩⟩,good9,⟨⟨⟨trivial,good12,trivial⟩,good13,trivial⟩,good15,⟨⟨trivial,good16,trivial⟩,good17,trivial⟩⟩⟩,good18,⟨⟨⟨⟨trivial,good20,trivial⟩,good21,trivial⟩,good22,⟨⟨trivial,good23,trivial⟩,good24,trivial⟩⟩,good25,⟨⟨⟨trivial,good26,trivial⟩,good27,trivial⟩,good28,⟨⟨trivial,good29,trivial⟩,good30,trivial⟩⟩⟩⟩,good31,⟨⟨⟨⟨⟨trivial,good32,trivial⟩,good33,trivial⟩,good34,⟨⟨trivial,good35,trivial⟩,good36,trivial⟩⟩,good37,⟨⟨⟨trivial,good38,trivial⟩,good39,trivial⟩,good40,⟨⟨trivial,good41,trivial⟩,good42,trivial⟩⟩⟩,good43,⟨⟨⟨⟨trivial,good44,trivial⟩,good45,trivial⟩,good46,⟨⟨trivial,good47,trivial⟩,good48,trivial⟩⟩,good49,⟨⟨⟨trivial,good50,trivial⟩,good51,trivial⟩,good52,⟨⟨trivial,good53,trivial⟩,good54,trivial⟩⟩⟩⟩⟩,good55,⟨⟨⟨⟨⟨⟨trivial,good56,trivial⟩,good57,⟨trivial,good58,trivial⟩⟩,good59,⟨⟨trivial,good60,trivial⟩,good61,trivial⟩⟩,good62,⟨⟨⟨trivial,good63,trivial⟩,good64,trivial⟩,good65,⟨⟨trivial,good66,trivial⟩,good67,trivial⟩⟩⟩,good68,⟨⟨⟨⟨trivial,good69,trivial⟩,good70,trivial⟩,good71,⟨⟨trivial,good72,trivial⟩,good73,trivial⟩⟩,good74,⟨⟨⟨trivial,good75,trivial⟩,good76,trivial⟩,good77,⟨⟨trivial,good78,trivial⟩,good79,trivial⟩⟩⟩⟩,good80,⟨⟨⟨⟨⟨trivial,good81,trivial⟩,good82,trivial⟩,good83,⟨⟨trivial,good84,trivial⟩,good85,trivial⟩⟩,good86,⟨⟨⟨trivial,good87,trivial⟩,good88,trivial⟩,good89,⟨⟨trivial,good90,trivial⟩,good91,trivial⟩⟩⟩,good92,⟨⟨⟨⟨trivial,good93,trivial⟩,good94,trivial⟩,good95,⟨⟨trivial,good96,trivial⟩,good97,trivial⟩⟩,good98,⟨⟨⟨trivial,good99,trivial⟩,good100,trivial⟩,good101,⟨⟨trivial,good102,trivial⟩,good103,trivial⟩⟩⟩⟩⟩⟩,good104,⟨⟨⟨⟨⟨⟨⟨trivial,good105,trivial⟩,good106,⟨trivial,good107,trivial⟩⟩,good108,⟨⟨trivial,good109,trivial⟩,good110,trivial⟩⟩,good111,⟨⟨⟨trivial,good112,trivial⟩,good113,trivial⟩,good114,⟨⟨trivial,good115,trivial⟩,good116,trivial⟩⟩⟩,good117,⟨⟨⟨⟨trivial,good118,trivial⟩,good119,trivial⟩,good120,⟨⟨trivial,good121,trivial⟩,good122,trivial⟩⟩,good123,⟨⟨⟨trivial,good124,trivial⟩,good125,trivial⟩,good126,⟨⟨trivial,good127,trivial⟩,good128,trivial⟩⟩⟩⟩,good129,⟨⟨⟨⟨⟨trivial,good130,trivial⟩,good131,trivial⟩,good132,⟨⟨trivial,good133,trivial⟩,good134,trivial⟩⟩,good135,⟨⟨⟨trivial,good136,trivial⟩,good137,trivial⟩,good138,⟨⟨trivial,good139,trivial⟩,good140,trivial⟩⟩⟩,good141,⟨⟨⟨⟨trivial,good142,trivial⟩,good143,trivial⟩,good144,⟨⟨trivial,good145,trivial⟩,good146,trivial⟩⟩,good147,⟨⟨⟨trivial,good148,trivial⟩,good149,trivial⟩,good150,⟨⟨trivial,good151,trivial⟩,good152,trivial⟩⟩⟩⟩⟩,good153,⟨⟨⟨⟨⟨⟨trivial,good154,trivial⟩,good155,⟨trivial,good156,trivial⟩⟩,good157,⟨⟨trivial,good158,trivial⟩,good159,trivial⟩⟩,good160,⟨⟨⟨trivial,good161,trivial⟩,good162,trivial⟩,good163,⟨⟨trivial,good164,trivial⟩,good165,trivial⟩⟩⟩,good166,⟨⟨⟨⟨trivial,good167,trivial⟩,good168,trivial⟩,good169,⟨⟨trivial,good170,trivial⟩,good171,trivial⟩⟩,good172,⟨⟨⟨trivial,good173,trivial⟩,good174,trivial⟩,good175,⟨⟨trivial,good176,trivial⟩,good177,trivial⟩⟩⟩⟩,good178,⟨⟨⟨⟨⟨trivial,good179,trivial⟩,good180,trivial⟩,good181,⟨⟨trivial,good182,trivial⟩,good183,trivial⟩⟩,good184,⟨⟨⟨trivial,good185,trivial⟩,good186,trivial⟩,good187,⟨⟨trivial,good188,trivial⟩,good189,trivial⟩⟩⟩,good190,⟨⟨⟨⟨trivial,good191,trivial⟩,good192,trivial⟩,good193,⟨⟨trivial,good194,trivial⟩,good195,trivial⟩⟩,good196,⟨⟨⟨trivial,good197,trivial⟩,good199,trivial⟩,good200,⟨⟨trivial,good204,trivial⟩,good207,trivial⟩⟩⟩⟩⟩⟩⟩
def fieldsIn (P : Program) (d : TypeDesc) : Bool:=match d with | .struct fs=>fs.toList.all fun f=>(P.info? f.type).isSome | _=>true
def AllF (P : Program) : TT→Bool
 | .nil=>true
 | .node l _ i r=>AllF P l && (fieldsIn P i.u && AllF P r)
theorem getT_mem : ∀ {l : TT} {P : Program},AllF P l=true → ∀ t i,getT l t=some i→fieldsIn P i.u=true
 | .nil,_,_,t,i,h=>by cases h
 | .node l k x r,P,hl,t,i,h=>by
  simp only [AllF,Bool.and_eq_true] at hl
  simp only [getT] at h
  cases hb : Nat.beq t k with
  | true=>simp only [hb,cond_true,Option.some.injEq] at h;subst h;exact hl.2.1
  | false =>
   simp only [hb,cond_false] at h
   cases hc : Nat.blt t k with
   | true=>simp only [hc,cond_true] at h;exact getT_mem hl.1 t i h
   | false=>simp only [hc,cond_false] at h;exact getT_mem hl.2.2 t i h
theorem fields_ok {P : Program} {d : TypeDesc} (h : fieldsIn P d=true) : ∀ fs,d = .struct fs → ∀ f ∈ fs.toList, ∃ j,P.info? f.type=some j:=by
 intro fs hd f hf
 subst hd
 have:=List.all_eq_true.1 h f hf
 exact Option.isSome_iff_exists.1 this
noncomputable def tab : Tab Tryz.prog:=⟨getT tbl,getT_ok tbl_ok,fun t i h=>fields_ok (getT_mem (by kernel_rfl) t i h)⟩
theorem mixed : Tryz.prog.follows .mixedOrders=true:=by kernel_rfl
theorem goes11 : Goes Tryz.prog 11:=Goes.mk' Tryz.func11 (by kernel_rfl) (by kernel_rfl)
theorem goes15 : Goes Tryz.prog 15:=Goes.mk' Tryz.func15 (by kernel_rfl) (by kernel_rfl)
theorem goes16 : Goes Tryz.prog 16:=Goes.mk' Tryz.func16 (by kernel_rfl) (by kernel_rfl)
theorem goes17 : Goes Tryz.prog 17:=Goes.mk' Tryz.func17 (by kernel_rfl) (by kernel_rfl)
theorem goes18 : Goes Tryz.prog 18:=Goes.mk' Tryz.func18 (by kernel_rfl) (by kernel_rfl)
theorem goes20 : Goes Tryz.prog 20:=Goes.mk' Tryz.func20 (by kernel_rfl) (by kernel_rfl)
theorem goes22 : Goes Tryz.prog 22:=Goes.mk' Tryz.func22 (by kernel_rfl) (by kernel_rfl)
theorem goes29 : Goes Tryz.prog 29:=Goes.mk' Tryz.func29 (by kernel_rfl) (by kernel_rfl)
theorem goes30 : Goes Tryz.prog 30:=Goes.mk' Tryz.func30 (by kernel_rfl) (by kernel_rfl)
theorem goes31 : Goes Tryz.prog 31:=Goes.mk' Tryz.func31 (by kernel_rfl) (by kernel_rfl)
theorem goes32 : Goes Tryz.prog 32:=Goes.mk' Tryz.func32 (by kernel_rfl) (by kernel_rfl)
theorem goes34 : Goes Tryz.prog 34:=Goes.mk' Tryz.func34 (by kernel_rfl) (by kernel_rfl)
theorem goes35 : Goes Tryz.prog 35:=Goes.mk' Tryz.func35 (by kernel_rfl) (by kernel_rfl)
theorem goes37 : Goes Tryz.prog 37:=Goes.mk' Tryz.func37 (by kernel_rfl) (by kernel_rfl)
theorem goes38 : Goes Tryz.prog 38:=Goes.mk' Tryz.func38 (by kernel_rfl) (by kernel_rfl)
theorem goes39 : Goes Tryz.prog 39:=Goes.mk' Tryz.func39 (by kernel_rfl) (by kernel_rfl)
theorem goes40 : Goes Tryz.prog 40:=Goes.mk' Tryz.func40 (by kernel_rfl) (by kernel_rfl)
theorem goes41 : Goes Tryz.prog 41:=Goes.mk' Tryz.func41 (by kernel_rfl) (by kernel_rfl)
theorem goes45 : Goes Tryz.prog 45:=Goes.mk' Tryz.func45 (by kernel_rfl) (by kernel_rfl)
theorem goes46 : Goes Tryz.prog 46:=Goes.mk' Tryz.func46 (by kernel_rfl) (by kernel_rfl)
theorem goes53 : Goes Tryz.prog 53:=Goes.mk' Tryz.func53 (by kernel_rfl) (by kernel_rfl)
theorem goes59 : Goes Tryz.prog 59:=Goes.mk' Tryz.func59 (by kernel_rfl) (by kernel_rfl)
theorem goes60 : Goes Tryz.prog 60:=Goes.mk' Tryz.func60 (by kernel_rfl) (by kernel_rfl)
theorem goes61 : Goes Tryz.prog 61:=Goes.mk' Tryz.func61 (by kernel_rfl) (by kernel_rfl)
theorem goes62 : Goes Tryz.prog 62:=Goes.mk' Tryz.func62 (by kernel_rfl) (by kernel_rfl)
theorem goes63 : Goes Tryz.prog 63:=Goes.mk' Tryz.func63 (by kernel_rfl) (by kernel_rfl)
theorem goes64 : Goes Tryz.prog 64:=Goes.mk' Tryz.func64 (by kernel_rfl) (by kernel_rfl)
theorem goes65 : Goes Tryz.prog 65:=Goes.mk' Tryz.func65 (by kernel_rfl) (by kernel_rfl)
theorem goes66 : Goes Tryz.prog 66:=Goes.mk' Tryz.func66 (by kernel_rfl) (by kernel_rfl)
theorem goes67 : Goes Tryz.prog 67:=Goes.mk' Tryz.func67 (by kernel_rfl) (by kernel_rfl)
theorem goes68 : Goes Tryz.prog 68:=Goes.mk' Tryz.func68 (by kernel_rfl) (by kernel_rfl)
theorem goes69 : Goes Tryz.prog 69:=Goes.mk' Tryz.func69 (by kernel_rfl) (by kernel_rfl)
theorem goes70 : Goes Tryz.prog 70:=Goes.mk' Tryz.func70 (by kernel_rfl) (by kernel_rfl)
theorem goes71 : Goes Tryz.prog 71:=Goes.mk' Tryz.func71 (by kernel_rfl) (by kernel_rfl)
theorem goes72 : Goes Tryz.prog 72:=Goes.mk' Tryz.func72 (by kernel_rfl) (by kernel_rfl)
theorem goes73 : Goes Tryz.prog 73:=Goes.mk' Tryz.func73 (by kernel_rfl) (by kernel_rfl)
theorem goes74 : Goes Tryz.prog 74:=Goes.mk' Tryz.func74 (by kernel_rfl) (by kernel_rfl)
theorem goes75 : Goes Tryz.prog 75:=Goes.mk' Tryz.func75 (by kernel_rfl) (by kernel_rfl)
theorem goes76 : Goes Tryz.prog 76:=Goes.mk' Tryz.func76 (by kernel_rfl) (by kernel_rfl)
theorem goes86 : Goes Tryz.prog 86:=Goes.mk' Tryz.func86 (by kernel_rfl) (by kernel_rfl)
theorem goes87 : Goes Tryz.prog 87:=Goes.mk' Tryz.func87 (by kernel_rfl) (by kernel_rfl)
theorem goes88 : Goes Tryz.prog 88:=Goes.mk' Tryz.func88 (by kernel_rfl) (by kernel_rfl)
theorem goes89 : Goes Tryz.prog 89:=Goes.mk' Tryz.func89 (by kernel_rfl) (by kernel_rfl)
theorem goes91 : Goes Tryz.prog 91:=Goes.mk' Tryz.func91 (by kernel_rfl) (by kernel_rfl)
theorem goes95 : Goes Tryz.prog 95:=Goes.mk' Tryz.func95 (by kernel_rfl) (by kernel_rfl)
theorem goes96 : Goes Tryz.prog 96:=Goes.mk' Tryz.func96 (by kernel_rfl) (by kernel_rfl)
theorem goes97 : Goes Tryz.prog 97:=Goes.mk' Tryz.func97 (by kernel_rfl) (by kernel_rfl)
theorem goes98 : Goes Tryz.prog 98:=Goes.mk' Tryz.func98 (by kernel_rfl) (by kernel_rfl)
theorem goes99 : Goes Tryz.prog 99:=Goes.mk' Tryz.func99 (by kernel_rfl) (by kernel_rfl)
theorem goes100 : Goes Tryz.prog 100:=Goes.mk' Tryz.func100 (by kernel_rfl) (by kernel_rfl)
theorem goes105 : Goes Tryz.prog 105:=Goes.mk' Tryz.func105 (by kernel_rfl) (by kernel_rfl)
theorem goes106 : Goes Tryz.prog 106:=Goes.mk' Tryz.func106 (by kernel_rfl) (by kernel_rfl)
theorem goes107 : Goes Tryz.prog 107:=Goes.mk' Tryz.func107 (by kernel_rfl) (by kernel_rfl)
theorem goes108 : Goes Tryz.prog 108:=Goes.mk' Tryz.func108 (by kernel_rfl) (by kernel_rfl)
theorem goes109 : Goes Tryz.prog 109:=Goes.mk' Tryz.func109 (by kernel_rfl) (by kernel_rfl)
theorem goes110 : Goes Tryz.prog 110:=Goes.mk' Tryz.func110 (by kernel_rfl) (by kernel_rfl)
theorem goes111 : Goes Tryz.prog 111:=Goes.mk' Tryz.func111 (by kernel_rfl) (by kernel_rfl)
theorem goes112 : Goes Tryz.prog 112:=Goes.mk' Tryz.func112 (by kernel_rfl) (by kernel_rfl)
theorem goes113 : Goes Tryz.prog 113:=Goes.mk' Tryz.func113 (by kernel_rfl) (by kernel_rfl)
theorem goes114 : Goes Tryz.prog 114:=Goes.mk' Tryz.func114 (by kernel_rfl) (by kernel_rfl)
theorem goes115 : Goes Tryz.prog 115:=Goes.mk' Tryz.func115 (by kernel_rfl) (by kernel_rfl)
theorem goes116 : Goes Tryz.prog 116:=Goes.mk' Tryz.func116 (by kernel_rfl) (by kernel_rfl)
theorem goes117 : Goes Tryz.prog 117:=Goes.mk' Tryz.func117 (by kernel_rfl) (by kernel_rfl)
theorem goes118 : Goes Tryz.prog 118:=Goes.mk' Tryz.func118 (by kernel_rfl) (by kernel_rfl)
theorem goes119 : Goes Tryz.prog 119:=Goes.mk' Tryz.func119 (by kernel_rfl) (by kernel_rfl)
theorem goes120 : Goes Tryz.prog 120:=Goes.mk' Tryz.func120 (by kernel_rfl) (by kernel_rfl)
theorem goes121 : Goes Tryz.prog 121:=Goes.mk' Tryz.func121 (by kernel_rfl) (by kernel_rfl)
theorem goes122 : Goes Tryz.prog 122:=Goes.mk' Tryz.func122 (by kernel_rfl) (by kernel_rfl)
theorem goes123 : Goes Tryz.prog 123:=Goes.mk' Tryz.func123 (by kernel_rfl) (by kernel_rfl)
theorem goes131 : Goes Tryz.prog 131:=Goes.mk' Tryz.func131 (by kernel_rfl) (by kernel_rfl)
theorem goes134 : Goes Tryz.prog 134:=Goes.mk' Tryz.func134 (by kernel_rfl) (by kernel_rfl)
theorem goes135 : Goes Tryz.prog 135:=Goes.mk' Tryz.func135 (by kernel_rfl) (by kernel_rfl)
theorem goes137 : Goes Tryz.prog 137:=Goes.mk' Tryz.func137 (by kernel_rfl) (by kernel_rfl)
theorem goes138 : Goes Tryz.prog 138:=Goes.mk' Tryz.func138 (by kernel_rfl) (by kernel_rfl)
theorem goes139 : Goes Tryz.prog 139:=Goes.mk' Tryz.func139 (by kernel_rfl) (by kernel_rfl)
theorem goes140 : Goes Tryz.prog 140:=Goes.mk' Tryz.func140 (by kernel_rfl) (by kernel_rfl)
theorem goes141 : Goes Tryz.prog 141:=Goes.mk' Tryz.func141 (by kernel_rfl) (by kernel_rfl)
theorem goes142 : Goes Tryz.prog 142:=Goes.mk' Tryz.func142 (by kernel_rfl) (by kernel_rfl)
theorem goes143 : Goes Tryz.prog 143:=Goes.mk' Tryz.func143 (by kernel_rfl) (by kernel_rfl)
theorem goes144 : Goes Tryz.prog 144:=Goes.mk' Tryz.func144 (by kernel_rfl) (by kernel_rfl)
theorem goes145 : Goes Tryz.prog 145:=Goes.mk' Tryz.func145 (by kernel_rfl) (by kernel_rfl)
theorem goes146 : Goes Tryz.prog 146:=Goes.mk' Tryz.func146 (by kernel_rfl) (by kernel_rfl)
theorem goes147 : Goes Tryz.prog 147:=Goes.mk' Tryz.func147 (by kernel_rfl) (by kernel_rfl)
theorem goes148 : Goes Tryz.prog 148:=Goes.mk' Tryz.func148 (by kernel_rfl) (by kernel_rfl)
theorem goes149 : Goes Tryz.prog 149:=Goes.mk' Tryz.func149 (by kernel_rfl) (by kernel_rfl)
theorem goes150 : Goes Tryz.prog 150:=Goes.mk' Tryz.func150 (by kernel_rfl) (by kernel_rfl)
theorem goes151 : Goes Tryz.prog 151:=Goes.mk' Tryz.func151 (by kernel_rfl) (by kernel_rfl)
theorem goes152 : Goes Tryz.prog 152:=Goes.mk' Tryz.func152 (by kernel_rfl) (by kernel_rfl)
theorem goes153 : Goes Tryz.prog 153:=Goes.mk' Tryz.func153 (by kernel_rfl) (by kernel_rfl)
theorem goes154 : Goes Tryz.prog 154:=Goes.mk' Tryz.func154 (by kernel_rfl) (by kernel_rfl)
theorem goes155 : Goes Tryz.prog 155:=Goes.mk' Tryz.func155 (by kernel_rfl) (by kernel_rfl)
theorem goes156 : Goes Tryz.prog 156:=Goes.mk' Tryz.func156 (by kernel_rfl) (by kernel_rfl)
theorem goes169 : Goes Tryz.prog 169:=Goes.mk' Tryz.func169 (by kernel_rfl) (by kernel_rfl)
theorem goes170 : Goes Tryz.prog 170:=Goes.mk' Tryz.func170 (by kernel_rfl) (by kernel_rfl)
theorem goes171 : Goes Tryz.prog 171:=Goes.mk' Tryz.func171 (by kernel_rfl) (by kernel_rfl)
theorem goes174 : Goes Tryz.prog 174:=Goes.mk' Tryz.func174 (by kernel_rfl) (by kernel_rfl)
theorem goes175 : Goes Tryz.prog 175:=Goes.mk' Tryz.func175 (by kernel_rfl) (by kernel_rfl)
theorem goes176 : Goes Tryz.prog 176:=Goes.mk' Tryz.func176 (by kernel_rfl) (by kernel_rfl)
theorem goes177 : Goes Tryz.prog 177:=Goes.mk' Tryz.func177 (by kernel_rfl) (by kernel_rfl)
theorem goes178 : Goes Tryz.prog 178:=Goes.mk' Tryz.func178 (by kernel_rfl) (by kernel_rfl)
theorem goes179 : Goes Tryz.prog 179:=Goes.mk' Tryz.func179 (by kernel_rfl) (by kernel_rfl)
theorem goes180 : Goes Tryz.prog 180:=Goes.mk' Tryz.func180 (by kernel_rfl) (by kernel_rfl)
theorem goes181 : Goes Tryz.prog 181:=Goes.mk' Tryz.func181 (by kernel_rfl) (by kernel_rfl)
theorem goes187 : Goes Tryz.prog 187:=Goes.mk' Tryz.func187 (by kernel_rfl) (by kernel_rfl)
theorem goes189 : Goes Tryz.prog 189:=Goes.mk' Tryz.func189 (by kernel_rfl) (by kernel_rfl)
theorem goes191 : Goes Tryz.prog 191:=Goes.mk' Tryz.func191 (by kernel_rfl) (by kernel_rfl)
theorem goes192 : Goes Tryz.prog 192:=Goes.mk' Tryz.func192 (by kernel_rfl) (by kernel_rfl)
theorem goes193 : Goes Tryz.prog 193:=Goes.mk' Tryz.func193 (by kernel_rfl) (by kernel_rfl)
theorem goes194 : Goes Tryz.prog 194:=Goes.mk' Tryz.func194 (by kernel_rfl) (by kernel_rfl)
theorem goes200 : Goes Tryz.prog 200:=Goes.mk' Tryz.func200 (by kernel_rfl) (by kernel_rfl)
theorem goes203 : Goes Tryz.prog 203:=Goes.mk' Tryz.func203 (by kernel_rfl) (by kernel_rfl)
theorem goes204 : Goes Tryz.prog 204:=Goes.mk' Tryz.func204 (by kernel_rfl) (by kernel_rfl)
theorem goes205 : Goes Tryz.prog 205:=Goes.mk' Tryz.func205 (by kernel_rfl) (by kernel_rfl)
theorem goes206 : Goes Tryz.prog 206:=Goes.mk' Tryz.func206 (by kernel_rfl) (by kernel_rfl)
theorem goes207 : Goes Tryz.prog 207:=Goes.mk' Tryz.func207 (by kernel_rfl) (by kernel_rfl)
theorem goes208 : Goes Tryz.prog 208:=Goes.mk' Tryz.func208 (by kernel_rfl) (by kernel_rfl)
theorem goes209 : Goes Tryz.prog 209:=Goes.mk' Tryz.func209 (by kernel_rfl) (by kernel_rfl)
theorem goes210 : Goes Tryz.prog 210:=Goes.mk' Tryz.func210 (by kernel_rfl) (by kernel_rfl)
theorem goes211 : Goes Tryz.prog 211:=Goes.mk' Tryz.func211 (by kernel_rfl) (by kernel_rfl)
theorem goes212 : Goes Tryz.prog 212:=Goes.mk' Tryz.func212 (by kernel_rfl) (by kernel_rfl)
end Go.Sep


/- SepE -/
set_option linter.unusedVariables false
set_option linter.unusedSimpArgs false
namespace Go.Sep
structure R (H α : Type) where
 size : Nat
 bytes : Nat
 enc : H→List Value
 rep : Mem→H → α → Prop
 enc_len : ∀ h,(enc h).length=size
 one : ∀ h,allOne (enc h)=true
 mono : ∀ {m m' : Mem} {h : H} {a : α},m ≤ m' → rep m h a→rep m' h a
structure Sl where
 a : Option Addr
 len : Nat
 cap : Nat
@[reducible] def Sl.v (s : Sl) : Value := .slice s.a s.len s.cap
def All2 {H α : Type} (r : H → α → Prop) : List H→List α → Prop
 | [],[]=>True
 | h :: hs,a :: as1=>r h a∧All2 r hs as1
 | _,_=>False
theorem All2.length {H α : Type} {r : H → α → Prop} : ∀ {hs : List H} {as1 : List α},All2 r hs as1→hs.length=as1.length
 | [],[],_=>rfl
 | h :: hs,a :: as1,h2=>by simp [All2.length h2.2]
 | [],_ :: _,h=>h.elim
 | _ :: _,[],h=>h.elim
theorem All2.mono {H α : Type} {r r' : H → α → Prop} (hr : ∀ h a,r h a→r' h a) : ∀ {hs : List H} {as1 : List α},All2 r hs as1→All2 r' hs as1
 | [],[],_=>trivial
 | h :: hs,a :: as1,h2=>⟨hr _ _ h2.1,All2.mono hr h2.2⟩
 | [],_ :: _,h=>h.elim
 | _ :: _,[],h=>h.elim
theorem All2.append {H α : Type} {r : H → α → Prop} : ∀ {hs : List H} {as1 : List α} {hs' : List H} {as1' : List α},All2 r hs as1→All2 r hs' as1' → All2 r (hs++hs') (as1++as1')
 | [],[],_,_,_,h=>h
 | h :: hs,a :: as1,_,_,h2,h3=>⟨h2.1,All2.append h2.2 h3⟩
 | [],_ :: _,_,_,h,_=>h.elim
 | _ :: _,[],_,_,h,_=>h.elim
theorem All2.get {H α : Type} {r : H → α → Prop} : ∀ {hs : List H} {as1 : List α},All2 r hs as1 → ∀ {k : Nat} {a : α},as1[k]? = some a → ∃ h,hs[k]? = some h∧r h a
 | [],[],_,k,a,hk=>by simp at hk
 | h :: hs,a :: as1,h2,0,b,hk=>by simp at hk;subst hk;exact ⟨h,by simp,h2.1⟩
 | h :: hs,a :: as1,h2,k + 1,b,hk=>by
  rw [List.getElem?_cons_succ] at hk ⊢
  exact All2.get h2.2 hk
 | [],_ :: _,h,_,_,_=>h.elim
 | _ :: _,[],h,_,_,_=>h.elim
theorem All2.take {H α : Type} {r : H → α → Prop} : ∀ (k : Nat) {hs : List H} {as1 : List α},All2 r hs as1→All2 r (hs.take k) (as1.take k)
 | 0,hs,as1,_=>by simp [All2]
 | k + 1,[],[],_=>trivial
 | k + 1,h :: hs,a :: as1,h2=>⟨h2.1,All2.take k h2.2⟩
 | _ + 1,[],_ :: _,h=>h.elim
 | _ + 1,_ :: _,[],h=>h.elim
theorem All2.drop {H α : Type} {r : H → α → Prop} : ∀ (k : Nat) {hs : List H} {as1 : List α},All2 r hs as1→All2 r (hs.drop k) (as1.drop k)
 | 0,hs,as1,h=>h
 | k + 1,[],[],_=>trivial
 | k + 1,h :: hs,a :: as1,h2=>All2.drop k h2.2
 | _ + 1,[],_ :: _,h=>h.elim
 | _ + 1,_ :: _,[],h=>h.elim
def encs {H α : Type} (r : R H α) (hs : List H) : List Value:=hs.flatMap r.enc
theorem encs_len {H α : Type} (r : R H α) : ∀ hs : List H,(encs r hs).length=hs.length * r.size
 | []=>by simp [encs]
 | h :: hs=>by
  have:=encs_len r hs
  simp only [encs,List.flatMap_cons,List.length_append,r.enc_len,List.length_cons] at this ⊢
  rw [this,Nat.add_mul];omega
theorem encs_one {H α : Type} (r : R H α) : ∀ hs : List H,allOne (encs r hs)=true
 | []=>rfl
 | h :: hs=>by
  have:=encs_one r hs
  have h1:=r.one h
  simp only [encs,List.flatMap_cons] at this ⊢
  generalize r.enc h=l at h1
  induction l with
  | nil=>exact this
  | cons v l ih=>simp only [allOne,Bool.and_eq_true,List.cons_append] at h1 ⊢;exact ⟨h1.1,ih h1.2⟩
theorem encs_append {H α : Type} (r : R H α) (a b : List H) : encs r (a++b)=encs r a++encs r b:=by simp [encs]
theorem encs_get {H α : Type} (r : R H α) : ∀ {hs : List H} {k : Nat} {h : H},hs[k]? = some h → ∀ (j : Nat) (v : Value),(r.enc h)[j]? = some v→(encs r hs)[k * r.size + j]? = some v
 | [],k,h,hk,_,_,_=>by simp at hk
 | x :: hs,0,h,hk,j,v,hv=>by
  simp at hk;subst hk
  have hj:=(List.getElem?_eq_some_iff.1 hv).1
  simp only [encs,List.flatMap_cons,Nat.zero_mul,Nat.zero_add]
  rw [List.getElem?_append_left hj];exact hv
 | x :: hs,k + 1,h,hk,j,v,hv=>by
  rw [List.getElem?_cons_succ] at hk
  have ih:=encs_get r hk j v hv
  simp only [encs,List.flatMap_cons] at ih ⊢
  rw [List.getElem?_append_right (by rw [r.enc_len,Nat.add_mul];omega),r.enc_len,show (k + 1) * r.size + j - r.size=k * r.size + j by rw [Nat.add_mul];omega]
  exact ih
structure SlRep {H α : Type} (r : R H α) (m : Mem) (s : Sl) (l : List α) : Prop where
 len : s.len=l.length
 cap : s.len ≤ s.cap
 fit : s.len * r.bytes ≤ 140737488355328
 cells : ∃ hs,All2 (r.rep m) hs l∧((l=[]∧(s.a=none→s.cap=0)) ∨ ∃ b o,s.a=some ⟨b,o,none⟩ ∧ At m b o (encs r hs))
theorem SlRep.mono {H α : Type} {r : R H α} {m m' : Mem} {s : Sl} {l : List α} (h : SlRep r m s l) (hm : m ≤ m') : SlRep r m' s l:=by
 obtain ⟨hs,h1,h2⟩:=h.cells
 refine ⟨h.len,h.cap,h.fit,hs,h1.mono fun _ _=>r.mono hm, ?_⟩
 rcases h2 with h2 | ⟨b,o,h3,h4⟩
 ·exact .inl h2
 ·exact .inr ⟨b,o,h3,h4.mono hm⟩
theorem SlRep.small {H α : Type} {r : R H α} {m : Mem} {s : Sl} {l : List α} (h : SlRep r m s l) (hb : Nat.blt 0 r.bytes=true) : l.length ≤ 140737488355328:=by
 have h1 : 0 < r.bytes:=by simpa [Nat.blt_eq] using hb
 have:=h.fit
 rw [← h.len]
 exact Nat.le_trans (Nat.le_mul_of_pos_right _ h1) this
theorem SlRep.nil {H α : Type} (r : R H α) (m : Mem) : SlRep r m ⟨none,0,0⟩ ([] : List α) :=
 ⟨rfl,Nat.le_refl _,by simp,[],trivial, .inl ⟨rfl,fun _=>rfl⟩⟩
theorem SlRep.elem {H α : Type} {r : R H α} {m : Mem} {s : Sl} {l : List α} (h : SlRep r m s l) {k : Nat} {a : α} (hk : l[k]? = some a) :
  ∃ b o hd,s.a=some ⟨b,o,none⟩ ∧ r.rep m hd a∧At m b (o + k * r.size) (r.enc hd):=by
 obtain ⟨hs,h1,h2⟩:=h.cells
 obtain ⟨hd,h3,h4⟩:=h1.get hk
 rcases h2 with ⟨h2,_⟩ | ⟨b,o,h5,h6⟩
 ·subst h2;simp at hk
 ·refine ⟨b,o,hd,h5,h4,fun j v hv => ?_⟩
  rw [Nat.add_assoc]
  exact h6 _ _ (encs_get r h3 j v hv)
def rInt : R Int Int where
 size:=1
 bytes:=8
 enc n:=[.int .i64 n]
 rep _ h a:=h=a
 enc_len _:=rfl
 one _:=rfl
 mono _ h:=h
abbrev Str:=List UInt8
@[reducible] def strV (s : Str) : Value := .string ⟨⟨s⟩⟩
def rStr : R Str Str where
 size:=1
 bytes:=16
 enc s:=[strV s]
 rep _ h a:=h=a
 enc_len _:=rfl
 one _:=rfl
 mono _ h:=h
def rSl {H α : Type} (r : R H α) : R Sl (List α) where
 size:=1
 bytes:=24
 enc s:=[s.v]
 rep m s l:=SlRep r m s l
 enc_len _:=rfl
 one _:=rfl
 mono hm h:=h.mono hm
section
variable {P : Program} {N : Nat} {ρ : Env} {D : List Deferred} {m : Mem} {L : List Item} {Q : EPost} {full : List Oper} {o : Oper} {K : Env→Mem→List Item→Prop}
def Tab.elem {P : Program} (T : Tab P) (t : TypeId) : Option (TypeId × TI) :=
 match T.get t with
 | some ⟨.slice e,_,_,_⟩=>match T.get e with
  | some i=>some (e,i)
  | none=>none
 | _=>none
theorem elem_get {T : Tab P} {t e : TypeId} {i : TI} (h : T.elem t=some (e,i)) : ∃ ti,T.get t=some ti∧ti.u = .slice e∧T.get e=some i:=by
 unfold Tab.elem at h
 split at h
 ·rename_i e' a b c hg
  split at h
  ·rename_i j hj
   simp only [Option.some.injEq,Prod.mk.injEq] at h
   obtain ⟨rfl,rfl⟩:=h
   exact ⟨_,hg,rfl,hj⟩
  ·cases h
 ·cases h
def Tab.esize {P : Program} (T : Tab P) (t : TypeId) : Option Nat :=
 match T.elem t with
 | some (_,i)=>some i.size
 | none=>none
theorem esize_get {T : Tab P} {t : TypeId} {n : Nat} (h : T.esize t=some n) : ∃ e i,T.elem t=some (e,i)∧i.size=n:=by
 unfold Tab.esize at h
 split at h
 ·rename_i e i he
  simp only [Option.some.injEq] at h
  exact ⟨e,i,he,h⟩
 ·cases h
theorem run_indexAddr (T : Tab P) {t : TypeId} {n sz len cap : Nat} {ad : Addr} {i : Int} {k : IntKind} {w : World} (he : T.esize t=some sz) (h0 : 0 ≤ i) (h1 : i < len) :
  (Instr.indexAt t (.slice (some ad) len cap) (.int k i)).run P w = .ok (.pointer (some (ad.add (i.toNat * sz)))) w:=by
 obtain ⟨e,ei,h2,h3⟩:=esize_get he
 obtain ⟨ti,h4,h5,h6⟩:=elem_get h2
 have hu:=T.run_underlying w h4
 rw [h5] at hu
 simp only [Instr.indexAt,Sem.run_bind,asIntOf,Sem.run_pure,Result.andThen_ok,hu]
 rw [if_pos ⟨h0,h1⟩]
 simp only [Sem.run_bind,T.run_sizeOf w h6,Result.andThen_ok,Sem.run_pure,h3]
theorem OT.index {H α : Type} (T : Tab P) (r : R H α) {s : Sl} {l : List α} (k : Nat) {x y : Operand} {t : TypeId} {d : Nat} {a : α} (hs : SlRep r m s l)
  (ho : o.op = .indexAddr t x y) (hd : o.dst=some d) (hN : Nat.blt d N=true) (hx : ev ρ x=some s.v) {iv : Int} (hy : ev ρ y=some (.int .i64 iv)) (hik : iv=(k : Int)) (hsz : T.esize t=some r.size) (hk : l[k]? = some a)
  (hK : ∀ b i hd',r.rep m hd' a→At m b i (r.enc hd')→K ((d, .pointer (some ⟨b,i,none⟩)) :: ρ) m L) : OT P N o ρ D m L Q K:=by
 subst hik
 obtain ⟨b,i,hd',h1,h2,h3⟩:=hs.elem hk
 have hlt : k < s.len:=by rw [hs.len];exact (List.getElem?_eq_some_iff.1 hk).1
 refine OT.run hd hN (fun ac w ha=>⟨w, ?_,ha.st⟩) (hK b (i + k * r.size) hd' h2 h3)
 have hx':=ha.env.eval hx
 simp only [Sl.v,h1] at hx'
 have:=run_indexAddr (P:=P) T (n:=0) (len:=s.len) (cap:=s.cap) (ad:=⟨b,i,none⟩) (k := .i64) (w:=w) hsz (Int.natCast_nonneg k) (by omega : (k : Int) < s.len)
 rw [addr_add,Int.toNat_natCast] at this
 simp only [execOp,ho,hx',ha.env.eval hy,Sem.run_bind,this,Result.andThen_ok,Sem.run_pure]
theorem OT.indexP (T : Tab P) (k : Nat) {x y : Operand} {t : TypeId} {d b i n c sz : Nat}
  (ho : o.op = .indexAddr t x y) (hd : o.dst=some d) (hN : Nat.blt d N=true) (hx : ev ρ x=some (.slice (some ⟨b,i,none⟩) n c)) {iv : Int} (hy : ev ρ y=some (.int .i64 iv)) (hik : iv=(k : Int)) (hsz : T.esize t=some sz) (hk : k < n)
  (hK : K ((d, .pointer (some ⟨b,i + k * sz,none⟩)) :: ρ) m L) : OT P N o ρ D m L Q K:=by
 subst hik
 refine OT.run hd hN (fun ac w ha=>⟨w, ?_,ha.st⟩) hK
 have:=run_indexAddr (P:=P) T (n:=0) (cap:=c) (ad:=⟨b,i,none⟩) (k := .i64) (w:=w) hsz (Int.natCast_nonneg k) (by omega : (k : Int) < n)
 rw [addr_add,Int.toNat_natCast] at this
 simp only [execOp,ho,ha.env.eval hx,ha.env.eval hy,Sem.run_bind,this,Result.andThen_ok,Sem.run_pure]
end
end Go.Sep


/- SepF -/
set_option linter.unusedVariables false
set_option linter.unusedSimpArgs false
namespace Go.Sep
def tok (s : Sl) (size : Nat) : Item :=
 match s.a with
 | none => .room 0 0 0
 | some a => .room a.block (a.off + s.len * size) ((s.cap - s.len) * size)
def Own (s : Sl) : Prop:=s = ⟨none,0,0⟩ ∨ ∃ b o,s.a=some ⟨b,o,none⟩
def Src (w : World) (s : Sl) (size : Nat) (news : List Value) : Prop :=
 news.length=s.len * size∧(s.len=0 ∨ ∃ b o,s.a=some ⟨b,o,none⟩ ∧ Cells w b o news)
theorem Src.drew {w : World} {s : Sl} {size : Nat} {news : List Value} (h : Src w s size news) : Src w.drew s size news:=h
theorem run_first {P : Program} {w : World} {s : Sl} {size : Nat} {news : List Value} (h : Src w s size news) : (Builtin.firstCells size s.len s.v).run P w = .ok ⟨news⟩ w:=by
 obtain ⟨h1,h2⟩:=h
 obtain ⟨a,n,c⟩:=s
 simp only at h1 h2
 cases a with
 | none =>
  rcases h2 with h2 | ⟨b,o,h3,_⟩
  ·subst h2
   have : news=[]:=List.eq_nil_of_length_eq_zero (by omega)
   subst this
   rfl
  ·cases h3
 | some a =>
  simp only [Sl.v,Builtin.firstCells]
  rw [← h1]
  refine run_loadCells_list w a news fun j v hv => ?_
  rcases h2 with h2 | ⟨b,o,h3,h4⟩
  ·subst h2
   have : news=[]:=List.eq_nil_of_length_eq_zero (by omega)
   subst this
   simp at hv
  ·cases h3
   rw [addr_add]
   exact h4 j v hv
theorem At.append {m : Mem} {b o : Nat} {xs ys : List Value} (h : At m b o xs) (h2 : At m b (o + xs.length) ys) : At m b o (xs++ys):=by
 intro j v hv
 rcases Nat.lt_or_ge j xs.length with hj | hj
 ·rw [List.getElem?_append_left hj] at hv;exact h j v hv
 ·rw [List.getElem?_append_right hj] at hv
  have:=h2 _ v hv
  rwa [show o + xs.length + (j - xs.length)=o + j by omega] at this
theorem At.nil (m : Mem) (b o : Nat) : At m b o []:=fun j v hv=>by simp at hv
theorem SlRep.src {H α : Type} {r : R H α} {m : Mem} {w : World} {L : List Item} {s : Sl} {l : List α} (h : SlRep r m s l) (hw : St m w L) :
  ∃ hs,All2 (r.rep m) hs l∧Src w s r.size (encs r hs)∧(s.a=none→s.len=0∧s.cap=0)∧(∀ b o,s.a=some ⟨b,o,none⟩ → At m b o (encs r hs)):=by
 obtain ⟨hs,h1,h2⟩:=h.cells
 refine ⟨hs,h1,⟨by rw [encs_len,h1.length,h.len], ?_⟩, ?_, ?_⟩
 ·rcases h2 with ⟨h2,_⟩ | ⟨b,o,h3,h4⟩
  ·left;rw [h.len,h2];rfl
  ·exact .inr ⟨b,o,h3,hw.at_cells h4⟩
 ·intro ha
  rcases h2 with ⟨h2,h5⟩ | ⟨b,o,h3,h4⟩
  ·exact ⟨by rw [h.len,h2];rfl,h5 ha⟩
  ·rw [ha] at h3;cases h3
 ·intro b o ha
  rcases h2 with ⟨h2,h5⟩ | ⟨b',o',h3,h4⟩
  ·subst h2
   have : hs=[]:=List.eq_nil_of_length_eq_zero (by rw [h1.length];rfl)
   subst this
   exact At.nil _ _ _
  ·rw [ha] at h3
   cases h3
   exact h4
theorem putAt_front : ∀ (cs vs : List Value),cs.length ≤ vs.length → ∀ (pre : List Value),putAt (pre++vs) pre.length cs=pre++cs++vs.drop cs.length
 | [],vs,_,pre=>by simp [putAt]
 | c :: cs,[],h,pre=>by simp at h
 | c :: cs,v :: vs,h,pre=>by
  simp only [putAt]
  have e : (pre++v :: vs).set pre.length c=(pre++[c])++vs:=by simp
  rw [e]
  have:=putAt_front cs vs (by simpa using h) (pre++[c])
  simp only [List.length_append,List.length_cons,List.length_nil,Nat.zero_add] at this
  rw [this]
  simp
theorem set_same {L : List Item} {i : Nat} {x : Item} (h : L[i]? = some x) : L.set i x=L:=by
 obtain ⟨hi,he⟩:=List.getElem?_eq_some_iff.1 h
 subst he
 exact List.set_getElem_self hi
theorem putAt_zero {cs vs : List Value} (h : cs.length ≤ vs.length) : putAt vs 0 cs=cs++vs.drop cs.length:=by
 have:=putAt_front cs vs h []
 simpa using this
section
variable {P : Program} {N : Nat} {ρ : Env} {D : List Deferred} {m : Mem} {L : List Item} {Q : EPost} {full : List Oper} {o : Oper} {K : Env→Mem→List Item→Prop}
theorem run_append (T : Tab P) {t t2 e e2 ty : TypeId} {ei ei2 : TI} {w : World} {s s2 : Sl} {xs news : List Value} {i : Nat} (he : T.elem t=some (e,ei)) (he2 : T.elem t2=some (e2,ei2))
  (hw : St m w L) (hi : L[i]? = some (tok s ei.size)) (ho : Own s) (hx : Src w s ei.size xs) (hy : Src w s2 ei.size news) (hn : s2.a=none→s2.len=0) (h1 : allOne news=true) (hzs : ei.zero.cells.size=ei.size) (hcap : s.len ≤ s.cap)
  (hb : 0 < ei.bytes) (hfit : (s.len + s2.len) * ei.bytes ≤ 140737488355328) (hAt : ∀ b o,s.a=some ⟨b,o,none⟩ → At m b o xs) :
  ∃ s' m' w',(Builtin.append_ #[t,t2] ty #[s.v,s2.v]).run P w = .ok s'.v w' ∧ m ≤ m' ∧ St m' w' (L.set i (tok s' ei.size))∧Own s' ∧ s'.len=s.len + s2.len∧s'.len ≤ s'.cap ∧
   ((s'.a=none∧xs++news=[]∧s'.cap=0) ∨ ∃ b o,s'.a=some ⟨b,o,none⟩ ∧ At m' b o (xs++news)):=by
 obtain ⟨ti,h4,h5,h6⟩:=elem_get he
 obtain ⟨ti2,k4,k5,k6⟩:=elem_get he2
 obtain ⟨_,_,hu,_⟩:=T.ok t ti h4
 rw [h5] at hu
 obtain ⟨_,_,hu2,_⟩:=T.ok t2 ti2 k4
 rw [k5] at hu2
 obtain ⟨info,q1,q2,q3,q4,q5⟩:=T.ok e ei h6
 have hnew:=run_first (P:=P) hy
 have hbound : s.len + s2.len ≤ 140737488355328:=Nat.le_trans (Nat.le_mul_of_pos_right _ hb) hfit
 by_cases hroom : s.len + s2.len ≤ s.cap
 ·
  rcases ho with hnil | ⟨b,o,ha⟩
  ·subst hnil
   simp only at hroom
   have hz : s2.len=0:=by omega
   have hxs : xs=[]:=List.eq_nil_of_length_eq_zero (by have:=hx.1;simpa using this)
   have hns : news=[]:=List.eq_nil_of_length_eq_zero (by have:=hy.1;rw [hz] at this;simpa using this)
   subst hxs;subst hns
   refine ⟨⟨none,0,0⟩,m,w, ?_,m.le_refl,by rw [set_same hi];exact hw, .inl rfl,by simp [hz],by simp, .inl ⟨rfl,rfl,rfl⟩⟩
   have hnew' : (Builtin.firstCells ei.size 0 s2.v).run P w = .ok (⟨[]⟩ : Array Value) w:=by rw [← hz];exact hnew
   simp only [Sl.v] at hnew'
   simp [Builtin.append_,run_underlying hu,run_underlying hu2,sizeOf,typeInfo,q1,q3,Builtin.lenOf,hz,hnew']
  ·obtain ⟨a,n,c⟩:=s
   simp only at ha hroom hcap hbound hfit hx hAt
   subst ha
   have hst:=(hw.at_ hi)
   simp only [tok] at hst
   obtain ⟨vs,hvl,hst⟩:=hst.ofRoom
   have hnl : news.length ≤ vs.length:=by
    rw [hvl,hy.1];exact Nat.mul_le_mul_right _ (by omega)
   obtain ⟨w',hr,hst'⟩:=run_storeCells (P:=P) news vs 0 0 w hst h1 (by omega)
   rw [putAt_zero hnl] at hst'
   have hst2:=hst'.split
   obtain ⟨g1,g2,g3⟩:=hst2.freeze
   have g4:=g3.toRoom
   refine ⟨⟨some ⟨b,o,none⟩,n + s2.len,c⟩,m.addCells b (o + n * ei.size) news,w', ?_,g1, ?_, .inr ⟨b,o,rfl⟩,rfl,hroom, .inr ⟨b,o,rfl, ?_⟩⟩
   ·have hr' : (storeCells ((⟨b,o,none⟩ : Addr).add (n * ei.size)) news).run P w = .ok () w':=by rw [addr_add];exact hr
    simp only [Sl.v] at hnew
    simp [Builtin.append_,run_underlying hu,run_underlying hu2,sizeOf,typeInfo,q1,q3,Builtin.lenOf,hroom,hnew,hr']
   ·have e1 : Item.room b (o + n * ei.size + news.length) (List.drop news.length vs).length=tok ⟨some ⟨b,o,none⟩,n + s2.len,c⟩ ei.size:=by
     simp only [tok,List.length_drop,hvl,hy.1]
     congr 1
     ·rw [Nat.add_mul];omega
     ·rw [← Nat.sub_mul];congr 1;omega
    rw [← e1]
    exact St.back hi g4
   ·refine ((hAt b o rfl).mono g1).append ?_
    rw [hx.1]
    exact g2
 ·
  have hlt : s.cap < s.len + s2.len:=by omega
  have h48 : ¬ (Builtin.nextslicecap (s.len + s2.len) s.cap * ei.bytes > 281474976710656):=by
   have:=growslice_fits hlt hfit
   omega
  have hold:=run_first (P:=P) (hx.drew)
  have hnew':=run_first (P:=P) (hy.drew)
  obtain ⟨nc,hnc,hge⟩ : ∃ nc,nc=(Question.appendCap (s.len + s2.len) s.cap e).cut (w.tape w.drawn (.appendCap (s.len + s2.len) s.cap e))∧s.len + s2.len ≤ nc:=⟨_,rfl,by simp [Question.cut]⟩
  have hst:=hw.drew.allocCells ((⟨xs⟩ : Array Value)++(⟨news⟩ : Array Value)++Builtin.zeroCells ei.zero.cells (nc - (s.len + s2.len))) e
  have hl1 : ((⟨xs⟩ : Array Value)++(⟨news⟩ : Array Value)++Builtin.zeroCells ei.zero.cells (nc - (s.len + s2.len))).toList=(xs++news)++(Builtin.zeroCells ei.zero.cells (nc - (s.len + s2.len))).toList:=by simp
  rw [hl1] at hst
  obtain ⟨g1,g2,g3⟩:=hst.split.freeze
  have g4:=g3.toRoom
  have hxl : (xs++news).length=(s.len + s2.len) * ei.size:=by rw [List.length_append,hx.1,hy.1,Nat.add_mul]
  refine ⟨⟨some ⟨w.heap.size,0,none⟩,s.len + s2.len,nc⟩,_,w.drew.alloc (.cells ((⟨xs⟩ : Array Value)++(⟨news⟩ : Array Value)++Builtin.zeroCells ei.zero.cells (nc - (s.len + s2.len))) e), ?_,g1, ?_, .inr ⟨_,_,rfl⟩,rfl,hge, .inr ⟨_,_,rfl,g2⟩⟩
  ·simp only [Sl.v] at hold hnew'
   have hb0 : ei.bytes ≠ 0:=by omega
   have hmax : ¬ (9223372036854775807 < (s.len : Int) + (s2.len : Int)):=by omega
   simp [Builtin.append_,run_underlying hu,run_underlying hu2,sizeOf,typeInfo,zeroValue,q1,q3,q4,q5,Builtin.lenOf,hroom,hold,hnew',h48,hmax,Question.forced,newRow,← hnc,IntKind.max,IntKind.signed,IntKind.bits,hb0]
   congr 2
   apply Array.ext'
   simp
  ·have e1 : Item.room w.heap.size (0 + (xs++news).length) (Builtin.zeroCells ei.zero.cells (nc - (s.len + s2.len))).toList.length=tok ⟨some ⟨w.heap.size,0,none⟩,s.len + s2.len,nc⟩ ei.size:=by
    simp only [tok,hxl,Array.length_toList,size_zeroCells,hzs]
   rw [← e1]
   have hsub : (Item.room w.heap.size (0 + (xs++news).length) (Builtin.zeroCells ei.zero.cells (nc - (s.len + s2.len))).toList.length :: L.eraseIdx i).Sublist (Item.room w.heap.size (0 + (xs++news).length) (Builtin.zeroCells ei.zero.cells (nc - (s.len + s2.len))).toList.length :: L) :=
    List.Sublist.cons_cons _ (List.eraseIdx_sublist L i)
   exact St.back hi (g4.sub hsub)
def Tab.okElem {P : Program} (T : Tab P) (t t2 : TypeId) (size bytes : Nat) : Bool :=
 match T.elem t,T.elem t2 with
 | some (_,ei),some (_,_)=>Nat.beq ei.size size && (Nat.beq ei.bytes bytes && (Nat.blt 0 bytes && match cellsF ei.zero with
  | some l=>Nat.beq l.length size
  | none=>false))
 | _,_=>false
theorem okElem_get {T : Tab P} {t t2 : TypeId} {size bytes : Nat} (h : T.okElem t t2 size bytes=true) :
  ∃ e e2 ei ei2,T.elem t=some (e,ei)∧T.elem t2=some (e2,ei2)∧ei.size=size∧ei.bytes=bytes∧0 < bytes∧ei.zero.cells.size=ei.size:=by
 unfold Tab.okElem at h
 split at h
 ·rename_i e ei e2 ei2 h1 h2
  simp only [Bool.and_eq_true] at h
  obtain ⟨a1,a2,a3,a4⟩:=h
  split at a4
  ·rename_i l hl
   have:=cellsF_eq hl
   refine ⟨e,e2,ei,ei2,h1,h2,Nat.eq_of_beq_eq_true a1,Nat.eq_of_beq_eq_true a2,by simpa [Nat.blt_eq] using a3, ?_⟩
   rw [this,Nat.eq_of_beq_eq_true a1]
   simpa using Nat.eq_of_beq_eq_true a4
  ·cases a4
 ·cases h
theorem OT.append {H α : Type} (T : Tab P) (r : R H α) (i : Nat) {s s2 : Sl} {l l2 : List α} {x y : Operand} {t t2 : TypeId} {d : Nat} (hs : SlRep r m s l) (hown : Own s) (hs2 : SlRep r m s2 l2)
  (ho : o.op = .call ⟨.builtin .append,⟨[x,y]⟩,⟨[t,t2]⟩⟩) (hd : o.dst=some d) (hN : Nat.blt d N=true) (hx : ev ρ x=some s.v) (hy : ev ρ y=some s2.v) (hT : T.okElem t t2 r.size r.bytes=true)
  (hi : L[i]? = some (tok s r.size)) (hfit : (l.length + l2.length) * r.bytes ≤ 140737488355328)
  (hK : ∀ s' m',m ≤ m' → SlRep r m' s' (l++l2)→Own s' → K ((d,s'.v) :: ρ) m' (L.set i (tok s' r.size))) : OT P N o ρ D m L Q K:=by
 obtain ⟨e,e2,ei,ei2,q1,q2,q3,q4,q5,q6⟩:=okElem_get hT
 intro a w ha
 obtain ⟨hl,h1,h2,h3,h4⟩:=hs.src ha.st
 obtain ⟨hl2,k1,k2,k3,k4⟩:=hs2.src ha.st
 have hb : 0 < ei.bytes:=by omega
 obtain ⟨s',m',w',hr,g1,g2,g3,g4,g5,g6⟩:=run_append (P:=P) (ty:=o.type) T q1 q2 ha.st (by rw [q3];exact hi) hown (by rw [q3];exact h2) (by rw [q3];exact k2) (fun hz=>(k3 hz).1) (encs_one r hl2) q6 hs.cap hb
  (by rw [hs.len,hs2.len,q4];exact hfit) h4
 have he : (execOp a.eval o).run P w = .ok (.value s'.v) w':=by
  simp only [execOp,ho,resolve,invoke,builtin,Sem.run_bind,Sem.run_pure,Result.andThen_ok,List.map_toArray,List.map_cons,List.map_nil,ha.env.eval hx,ha.env.eval hy]
  simp only [List.map_toArray,List.map_cons,List.map_nil,ha.env.eval hx,ha.env.eval hy,hr,Result.andThen_ok]
 have hrep : SlRep r m' s' (l++l2):=by
  refine ⟨by rw [g4,hs.len,hs2.len];simp,g5,by rw [g4,hs.len,hs2.len];exact hfit,hl++hl2,(h1.mono fun _ _=>r.mono g1).append (k1.mono fun _ _=>r.mono g1), ?_⟩
  rcases g6 with ⟨e1,e2,e3⟩ | ⟨b,off,e1,e2⟩
  ·left
   have hz : s'.len=0:=by
    rcases g3 with e | ⟨b,off,e⟩
    ·rw [e]
    ·rw [e1] at e;cases e
   refine ⟨List.eq_nil_of_length_eq_zero ?_,fun _=>e3⟩
   have j1:=hs.len
   have j2:=hs2.len
   rw [List.length_append];omega
  ·right
   exact ⟨b,off,e1,by rw [encs_append];exact e2⟩
 simp only [Oper.wp,he,Oper.upon]
 rw [hd]
 have hp:=ha.put hN s'.v
 rw [q3] at g2
 exact ⟨_,_,_,⟨hp.size,hp.env,hp.defers,g2⟩,hK s' m' g1 hrep g3⟩
end
end Go.Sep

