/-
  A small separation-style state over the model's World: persistent cells (Mem, grow-only), owned items (List Item).
-/
import Derived.WalkKit
set_option linter.unusedVariables false
set_option linter.unusedSimpArgs false
namespace Go.Sep

/-- What is known for ever: the pinned start, cells, objects. -/
structure Mem where
  pin : World
  c : Nat → Nat → Option Value
  o : Nat → Option Obj

structure Mem.le (m m' : Mem) : Prop where
  pin : m'.pin = m.pin
  c : ∀ b i v, m.c b i = some v → m'.c b i = some v
  o : ∀ b x, m.o b = some x → m'.o b = some x

instance : LE Mem := ⟨Mem.le⟩

theorem Mem.le_refl (m : Mem) : m ≤ m := ⟨rfl, fun _ _ _ h => h, fun _ _ h => h⟩
theorem Mem.le_trans {a b c : Mem} (h : a ≤ b) (k : b ≤ c) : a ≤ c :=
  ⟨k.pin.trans h.pin, fun _ _ _ x => k.c _ _ _ (h.c _ _ _ x), fun _ _ x => k.o _ _ (h.o _ _ x)⟩

def isCells : Obj → Bool
  | .cells .. => true
  | _ => false

inductive Item where
  | cells (b off : Nat) (vs : List Value)
  | room (b off n : Nat)
  | obj (b : Nat) (o : Obj)

def Item.blk : Item → Nat
  | .cells b _ _ | .room b _ _ | .obj b _ => b
def Item.off : Item → Nat
  | .cells _ o _ | .room _ o _ => o
  | .obj _ _ => 0
def Item.len : Item → Nat
  | .cells _ _ vs => vs.length
  | .room _ _ n => n
  | .obj _ _ => 1

def Item.holds (w : World) : Item → Prop
  | .cells b off vs => ∀ j v, vs[j]? = some v → w.cell? ⟨b, off + j, none⟩ = some v ∧ w.frozen? ⟨b, off + j, none⟩ = false
  | .room b off n => ∀ j, j < n → ∃ v, w.cell? ⟨b, off + j, none⟩ = some v ∧ w.frozen? ⟨b, off + j, none⟩ = false
  | .obj b o => w.heap[b]? = some o ∧ isCells o = false

structure Item.Free (m : Mem) (x : Item) : Prop where
  pin : 0 < x.len → m.pin.heap.size ≤ x.blk
  c : ∀ j, j < x.len → m.c x.blk (x.off + j) = none
  o : ∀ b o, x = .obj b o → m.o b = none

def Item.Disj (x y : Item) : Prop := x.len = 0 ∨ y.len = 0 ∨ x.blk ≠ y.blk ∨ x.off + x.len ≤ y.off ∨ y.off + y.len ≤ x.off

theorem Item.Disj.symm {x y : Item} (h : x.Disj y) : y.Disj x := by
  rcases h with h | h | h | h | h
  · exact .inr (.inl h)
  · exact .inl h
  · exact .inr (.inr (.inl (Ne.symm h)))
  · exact .inr (.inr (.inr (.inr h)))
  · exact .inr (.inr (.inr (.inl h)))

structure St (m : Mem) (w : World) (L : List Item) : Prop where
  os : w.os = m.pin.os
  tape : w.tape = m.pin.tape
  output : w.output = m.pin.output
  size : m.pin.heap.size ≤ w.heap.size
  pin : ∀ b, b < m.pin.heap.size → w.heap[b]? = m.pin.heap[b]?
  c : ∀ b i v, m.c b i = some v → w.cell? ⟨b, i, none⟩ = some v
  o : ∀ b x, m.o b = some x → w.heap[b]? = some x ∧ isCells x = false
  items : ∀ x ∈ L, x.holds w
  free : ∀ x ∈ L, x.Free m
  disj : L.Pairwise Item.Disj

/-! ### structural -/

theorem St.perm {m : Mem} {w : World} {L L' : List Item} (h : St m w L) (p : L.Perm L') : St m w L' :=
  { h with
    items := fun x hx => h.items x (p.mem_iff.2 hx)
    free := fun x hx => h.free x (p.mem_iff.2 hx)
    disj := p.pairwise h.disj fun hx => hx.symm }

theorem St.sub {m : Mem} {w : World} {L L' : List Item} (h : St m w L) (p : L'.Sublist L) : St m w L' :=
  { h with
    items := fun x hx => h.items x (p.subset hx)
    free := fun x hx => h.free x (p.subset hx)
    disj := h.disj.sublist p }

/-! ### draws -/
theorem St.drew {m : Mem} {w : World} {L : List Item} (h : St m w L) : St m w.drew L :=
  { os := h.os, tape := h.tape, output := h.output, size := h.size, pin := h.pin, c := h.c, o := h.o
    items := fun x hx => by have := h.items x hx; cases x <;> exact this
    free := h.free, disj := h.disj }

/-! ### new blocks -/
theorem heap_alloc_lt (w : World) (o : Obj) {b : Nat} (h : b < w.heap.size) : (w.alloc o).heap[b]? = w.heap[b]? := by
  show (w.heap.push o)[b]? = _
  simp [Array.getElem?_push, Nat.ne_of_lt h]
theorem heap_alloc_at (w : World) (o : Obj) : (w.alloc o).heap[w.heap.size]? = some o := by
  show (w.heap.push o)[w.heap.size]? = _
  simp
theorem frozen_alloc_lt (w : World) (o : Obj) {a : Addr} (h : a.block < w.heap.size) : (w.alloc o).frozen? a = w.frozen? a :=
  World.frozen?_alloc_old w o a (Nat.ne_of_lt h)
theorem lt_of_heap {w : World} {b : Nat} {o : Obj} (h : w.heap[b]? = some o) : b < w.heap.size := (Array.getElem?_eq_some_iff.1 h).1

theorem Item.holds_alloc {w : World} {x : Item} (o : Obj) (h : x.holds w) : x.holds (w.alloc o) := by
  cases x with
  | cells b off vs =>
    intro j v hv
    obtain ⟨h1, h2⟩ := h j v hv
    have hb := World.block_lt_of_cell? _ _ h1
    exact ⟨(World.cell?_alloc_lt _ _ _ hb).trans h1, (frozen_alloc_lt _ _ hb).trans h2⟩
  | room b off n =>
    intro j hj
    obtain ⟨v, h1, h2⟩ := h j hj
    have hb := World.block_lt_of_cell? _ _ h1
    exact ⟨v, (World.cell?_alloc_lt _ _ _ hb).trans h1, (frozen_alloc_lt _ _ hb).trans h2⟩
  | obj b o' =>
    exact ⟨(heap_alloc_lt _ _ (lt_of_heap h.1)).trans h.1, h.2⟩

theorem Item.blk_lt {w : World} {x : Item} (h : x.holds w) (hl : 0 < x.len) : x.blk < w.heap.size := by
  cases x with
  | cells b off vs =>
    have : 0 < vs.length := hl
    obtain ⟨h1, _⟩ := h 0 vs[0] (by simp)
    exact World.block_lt_of_cell? _ _ h1
  | room b off n =>
    obtain ⟨v, h1, _⟩ := h 0 hl
    exact World.block_lt_of_cell? _ _ h1
  | obj b o => exact lt_of_heap h.1

/-- the base of all allocation rules: a new item in the new block -/
theorem St.push {m : Mem} {w : World} {L : List Item} {o : Obj} {x : Item} (h : St m w L) (hb : x.blk = w.heap.size) (hx : x.holds (w.alloc o)) :
    St m (w.alloc o) (x :: L) where
  os := h.os
  tape := h.tape
  output := h.output
  size := by have := h.size; simp; omega
  pin := fun b hlt => (heap_alloc_lt _ _ (Nat.lt_of_lt_of_le hlt h.size)).trans (h.pin b hlt)
  c := fun b i v hv => by
    have h1 := h.c b i v hv
    exact (World.cell?_alloc_lt _ _ _ (World.block_lt_of_cell? _ _ h1)).trans h1
  o := fun b x hx => by
    have h1 := h.o b x hx
    exact ⟨(heap_alloc_lt _ _ (lt_of_heap h1.1)).trans h1.1, h1.2⟩
  items := fun y hy => by
    rcases List.mem_cons.1 hy with rfl | hy
    · exact hx
    · exact Item.holds_alloc _ (h.items y hy)
  free := fun y hy => by
    rcases List.mem_cons.1 hy with rfl | hy
    · refine ⟨fun _ => by rw [hb]; exact h.size, fun j hj => ?_, fun b o e => ?_⟩
      · cases hc : m.c y.blk (y.off + j) with
        | none => rfl
        | some v =>
          have := World.block_lt_of_cell? _ _ (h.c _ _ _ hc)
          simp only at this
          omega
      · subst e
        cases ho : m.o b with
        | none => rfl
        | some v =>
          have := lt_of_heap (h.o _ _ ho).1
          simp only [Item.blk] at hb
          omega
    · exact h.free y hy
  disj := by
    refine List.pairwise_cons.2 ⟨fun y hy => ?_, h.disj⟩
    by_cases hl : 0 < y.len
    · have := Item.blk_lt (h.items y hy) hl
      exact .inr (.inr (.inl (by omega)))
    · exact .inr (.inl (by omega))

/-! ### a row of new cells, owned -/
theorem cell_new (w : World) (arr : Array Value) (t : TypeId) (i : Nat) : (w.alloc (.cells arr t)).cell? ⟨w.heap.size, i, none⟩ = arr[i]? :=
  World.cell?_alloc_new w arr t i

theorem St.allocCells {m : Mem} {w : World} {L : List Item} (h : St m w L) (arr : Array Value) (t : TypeId) :
    St m (w.alloc (.cells arr t)) (.cells w.heap.size 0 arr.toList :: L) := by
  refine h.push (x := .cells w.heap.size 0 arr.toList) rfl fun j v hv => ?_
  simp only [Nat.zero_add]
  exact ⟨by rw [cell_new]; simpa using hv, World.frozen?_alloc_new _ _ _ _⟩

theorem St.allocObj {m : Mem} {w : World} {L : List Item} (h : St m w L) (o : Obj) (ho : isCells o = false) :
    St m (w.alloc o) (.obj w.heap.size o :: L) :=
  h.push (x := .obj w.heap.size o) rfl ⟨heap_alloc_at _ _, ho⟩

/-! ### stores -/
theorem heap_setCell_ne (w : World) (a : Addr) (v : Value) {b : Nat} (h : a.block ≠ b) : (w.setCell a v).heap[b]? = w.heap[b]? := by
  simp only [World.setCell, Array.getElem?_modify]
  simp [h]
theorem heap_setCell_obj (w : World) (a : Addr) (v : Value) {b : Nat} {o : Obj} (h : w.heap[b]? = some o) (ho : isCells o = false) : (w.setCell a v).heap[b]? = some o := by
  simp only [World.setCell, Array.getElem?_modify, h]
  split
  · cases o <;> simp_all [isCells]
  · rfl

theorem Item.holds_setCell {w : World} {x : Item} (a : Addr) (v : Value) (h : x.holds w) (hd : ∀ j, j < x.len → a ≠ ⟨x.blk, x.off + j, none⟩) : x.holds (w.setCell a v) := by
  cases x with
  | cells b off vs =>
    intro j u hu
    obtain ⟨h1, h2⟩ := h j u hu
    have hj : j < vs.length := (List.getElem?_eq_some_iff.1 hu).1
    exact ⟨(World.cell?_setCell_other _ _ _ _ (hd j hj)).trans h1, by rw [World.frozen?_setCell]; exact h2⟩
  | room b off n =>
    intro j hj
    obtain ⟨u, h1, h2⟩ := h j hj
    exact ⟨u, (World.cell?_setCell_other _ _ _ _ (hd j hj)).trans h1, by rw [World.frozen?_setCell]; exact h2⟩
  | obj b o => exact ⟨heap_setCell_obj _ _ _ h.1 h.2, h.2⟩

/-- one owned cell is written -/
theorem St.set {m : Mem} {w : World} {L : List Item} {b off : Nat} {vs : List Value} (h : St m w (.cells b off vs :: L)) {j : Nat} (hj : j < vs.length) (v : Value) :
    St m (w.setCell ⟨b, off + j, none⟩ v) (.cells b off (vs.set j v) :: L) := by
  have hx := h.items _ (List.mem_cons_self ..)
  have hf := h.free _ (List.mem_cons_self ..)
  have hd := List.pairwise_cons.1 h.disj
  have hcell : ∀ i, i < vs.length → w.cell? ⟨b, off + i, none⟩ = some (vs[i]?.getD undef) := fun i hi => by
    have := (hx i vs[i] (by simp [hi])).1
    simpa [hi] using this
  refine { os := h.os, tape := h.tape, output := h.output, size := by simpa using h.size, pin := fun k hk => ?_, c := fun k i u hu => ?_, o := fun k x hk => ?_, items := fun y hy => ?_, free := fun y hy => ?_, disj := ?_ }
  · have hp : m.pin.heap.size ≤ b := hf.pin (by simp only [Item.len]; omega)
    rw [heap_setCell_ne _ _ _ (show b ≠ k by omega)]
    exact h.pin k hk
  · have hne : (⟨b, off + j, none⟩ : Addr) ≠ ⟨k, i, none⟩ := fun e => by
      have h1 : b = k := congrArg Addr.block e
      have h2 : off + j = i := congrArg Addr.off e
      subst h1; subst h2
      have := hf.c j hj
      simp only [Item.blk, Item.off] at this
      rw [this] at hu; cases hu
    exact (World.cell?_setCell_other _ _ _ _ hne).trans (h.c k i u hu)
  · have := h.o k x hk
    exact ⟨heap_setCell_obj _ _ _ this.1 this.2, this.2⟩
  · rcases List.mem_cons.1 hy with rfl | hy
    · intro i u hu
      rw [World.frozen?_setCell]
      have hi : i < vs.length := by have := (List.getElem?_eq_some_iff.1 hu).1; simpa using this
      obtain ⟨h1, h2⟩ := hx i vs[i] (by simp [hi])
      refine ⟨?_, h2⟩
      by_cases hij : j = i
      · subst hij
        rw [World.cell?_setCell_same _ _ _ (hcell j hi)]
        simpa [hi] using hu
      · rw [World.cell?_setCell_other _ _ _ _ (fun e => hij (by have := congrArg Addr.off e; simp only at this; omega)), h1]
        rw [List.getElem?_set_ne hij] at hu
        simpa [hi] using hu
    · refine Item.holds_setCell _ _ (h.items y (List.mem_cons_of_mem _ hy)) fun i hi e => ?_
      have h1 : b = y.blk := congrArg Addr.block e
      have h2 : off + j = y.off + i := congrArg Addr.off e
      rcases hd.1 y hy with hq | hq | hq | hq | hq <;> simp only [Item.len, Item.blk, Item.off] at hq h1 h2 hi
      · omega
      · omega
      · exact hq h1
      · omega
      · omega
  · rcases List.mem_cons.1 hy with rfl | hy
    · exact ⟨fun hl => hf.pin (by simpa [Item.len] using hl), fun i hi => hf.c i (by simpa [Item.len] using hi), fun _ _ e => by cases e⟩
    · exact h.free y (List.mem_cons_of_mem _ hy)
  · refine List.pairwise_cons.2 ⟨fun y hy => ?_, hd.2⟩
    have := hd.1 y hy
    simpa [Item.Disj, Item.len, Item.blk, Item.off] using this

/-! ### freezing: owned cells become known for ever -/
def Mem.addCells (m : Mem) (b off : Nat) (vs : List Value) : Mem :=
  { m with c := fun k i => if k = b ∧ off ≤ i ∧ i < off + vs.length then vs[i - off]? else m.c k i }

/-- cells that are known for ever -/
def At (m : Mem) (b off : Nat) (vs : List Value) : Prop := ∀ j v, vs[j]? = some v → m.c b (off + j) = some v

theorem At.mono {m m' : Mem} {b off : Nat} {vs : List Value} (h : At m b off vs) (hm : m ≤ m') : At m' b off vs := fun j v hv => hm.c _ _ _ (h j v hv)

theorem Mem.addCells_le {m : Mem} {b off : Nat} {vs : List Value} (hf : ∀ j, j < vs.length → m.c b (off + j) = none) : m ≤ m.addCells b off vs := by
  refine ⟨rfl, fun k i v hv => ?_, fun _ _ h => h⟩
  simp only [Mem.addCells]
  split
  · rename_i hc
    obtain ⟨rfl, h1, h2⟩ := hc
    have := hf (i - off) (by omega)
    rw [show off + (i - off) = i by omega] at this
    rw [this] at hv; cases hv
  · exact hv

theorem Mem.at_addCells (m : Mem) (b off : Nat) (vs : List Value) : At (m.addCells b off vs) b off vs := by
  intro j v hv
  have hj : j < vs.length := (List.getElem?_eq_some_iff.1 hv).1
  have hc : b = b ∧ off ≤ off + j ∧ off + j < off + vs.length := ⟨rfl, by omega, by omega⟩
  show (if b = b ∧ off ≤ off + j ∧ off + j < off + vs.length then vs[off + j - off]? else m.c b (off + j)) = some v
  rw [if_pos hc, show off + j - off = j by omega]
  exact hv

theorem St.freeze {m : Mem} {w : World} {L : List Item} {b off : Nat} {vs : List Value} (h : St m w (.cells b off vs :: L)) :
    m ≤ m.addCells b off vs ∧ At (m.addCells b off vs) b off vs ∧ St (m.addCells b off vs) w L := by
  have hx := h.items _ (List.mem_cons_self ..)
  have hf := h.free _ (List.mem_cons_self ..)
  have hd := List.pairwise_cons.1 h.disj
  have hle := Mem.addCells_le (m := m) (b := b) (off := off) (vs := vs) hf.c
  refine ⟨hle, Mem.at_addCells m b off vs, { os := h.os, tape := h.tape, output := h.output, size := h.size, pin := h.pin, c := fun k i u hu => ?_, o := h.o, items := fun y hy => h.items y (List.mem_cons_of_mem _ hy), free := fun y hy => ?_, disj := hd.2 }⟩
  · simp only [Mem.addCells] at hu
    split at hu
    · rename_i hc
      obtain ⟨rfl, h1, h2⟩ := hc
      have := (hx (i - off) u hu).1
      rwa [show off + (i - off) = i by omega] at this
    · exact h.c k i u hu
  · have hy' := h.free y (List.mem_cons_of_mem _ hy)
    refine ⟨hy'.pin, fun j hj => ?_, hy'.o⟩
    simp only [Mem.addCells]
    split
    · rename_i hc
      rcases hd.1 y hy with hq | hq | hq | hq | hq <;> simp only [Item.len, Item.blk, Item.off] at hq
      · omega
      · simp only [Item.len] at hj; omega
      · exact absurd hc.1.symm hq
      · simp only [Item.off] at hc hj; omega
      · simp only [Item.off, Item.len] at hc hj; omega
    · exact hy'.c j hj

/-! ### owned objects -/
def Mem.addObj (m : Mem) (b : Nat) (o : Obj) : Mem := { m with o := fun k => if k = b then some o else m.o k }

theorem St.freezeObj {m : Mem} {w : World} {L : List Item} {b : Nat} {o : Obj} (h : St m w (.obj b o :: L)) :
    m ≤ m.addObj b o ∧ (m.addObj b o).o b = some o ∧ St (m.addObj b o) w L := by
  have hx := h.items _ (List.mem_cons_self ..)
  have hf := h.free _ (List.mem_cons_self ..)
  have hd := List.pairwise_cons.1 h.disj
  refine ⟨⟨rfl, fun _ _ _ h => h, fun k x hk => ?_⟩, by simp [Mem.addObj], { os := h.os, tape := h.tape, output := h.output, size := h.size, pin := h.pin, c := h.c, o := fun k x hk => ?_, items := fun y hy => h.items y (List.mem_cons_of_mem _ hy), free := fun y hy => ?_, disj := hd.2 }⟩
  · simp only [Mem.addObj]
    split
    · rename_i e; subst e; rw [hf.o k o rfl] at hk; cases hk
    · exact hk
  · simp only [Mem.addObj] at hk
    split at hk
    · rename_i e; cases hk; subst e; exact hx
    · exact h.o k x hk
  · have hy' := h.free y (List.mem_cons_of_mem _ hy)
    refine ⟨hy'.pin, hy'.c, fun k o' e => ?_⟩
    subst e
    simp only [Mem.addObj]
    split
    · rename_i e; subst e
      rcases hd.1 _ hy with hq | hq | hq | hq | hq <;> simp [Item.len, Item.blk, Item.off] at hq
    · exact hy'.o k o' rfl

theorem heap_setObj_ne (w : World) {b k : Nat} (o : Obj) (h : b ≠ k) : ({ w with heap := w.heap.setIfInBounds b o } : World).heap[k]? = w.heap[k]? := by
  simp [Array.getElem?_setIfInBounds_ne h]

theorem St.setObj {m : Mem} {w : World} {L : List Item} {b : Nat} {o : Obj} (h : St m w (.obj b o :: L)) (o' : Obj) (ho : isCells o' = false) :
    St m { w with heap := w.heap.setIfInBounds b o' } (.obj b o' :: L) := by
  have hx := h.items _ (List.mem_cons_self ..)
  have hf := h.free _ (List.mem_cons_self ..)
  have hd := List.pairwise_cons.1 h.disj
  have hb := lt_of_heap hx.1
  have hnb : ∀ i, w.cell? ⟨b, i, none⟩ = none := fun i => by
    have h1 := hx.1
    have h2 := hx.2
    simp only [World.cell?, h1]
    cases o <;> simp_all [isCells]
  have keepC : ∀ (a : Addr) (v : Value), w.cell? a = some v → a.spot = none → ({ w with heap := w.heap.setIfInBounds b o' } : World).cell? a = some v ∧ ({ w with heap := w.heap.setIfInBounds b o' } : World).frozen? a = w.frozen? a := fun a v hv hs => by
    have hne : b ≠ a.block := fun e => by
      have := hnb a.off
      subst e
      obtain ⟨ab, ao, as⟩ := a
      simp only at hs
      subst hs
      rw [this] at hv; cases hv
    have e := heap_setObj_ne w o' hne
    exact ⟨(World.cell?_of_block e).trans hv, World.frozen?_of_block e⟩
  refine { os := h.os, tape := h.tape, output := h.output, size := by simpa using h.size, pin := fun k hk => ?_, c := fun k i u hu => (keepC _ _ (h.c k i u hu) rfl).1, o := fun k x hk => ?_, items := fun y hy => ?_, free := fun y hy => ?_, disj := ?_ }
  · have hp : m.pin.heap.size ≤ b := hf.pin (by simp [Item.len])
    rw [heap_setObj_ne _ _ (show b ≠ k by omega)]
    exact h.pin k hk
  · have h1 := h.o k x hk
    have hne : b ≠ k := fun e => by subst e; rw [hf.o b o rfl] at hk; cases hk
    exact ⟨(heap_setObj_ne _ _ hne).trans h1.1, h1.2⟩
  · rcases List.mem_cons.1 hy with rfl | hy
    · exact ⟨by simp [hb], ho⟩
    · have hi := h.items y (List.mem_cons_of_mem _ hy)
      cases y with
      | cells k off vs =>
        intro j v hv
        obtain ⟨h1, h2⟩ := hi j v hv
        have := keepC _ _ h1 rfl
        exact ⟨this.1, this.2.trans h2⟩
      | room k off n =>
        intro j hj
        obtain ⟨v, h1, h2⟩ := hi j hj
        have := keepC _ _ h1 rfl
        exact ⟨v, this.1, this.2.trans h2⟩
      | obj k x =>
        have hne : b ≠ k := by
          rcases hd.1 _ hy with hq | hq | hq | hq | hq <;> simp [Item.len, Item.blk, Item.off] at hq
          exact hq
        exact ⟨(heap_setObj_ne _ _ hne).trans hi.1, hi.2⟩
  · rcases List.mem_cons.1 hy with rfl | hy
    · exact ⟨hf.pin, hf.c, fun k x e => by cases e; exact hf.o b o rfl⟩
    · exact h.free y (List.mem_cons_of_mem _ hy)
  · refine List.pairwise_cons.2 ⟨fun y hy => ?_, hd.2⟩
    have := hd.1 y hy
    simpa [Item.Disj, Item.len, Item.blk, Item.off] using this

/-! ### cutting and joining owned cells -/
theorem St.ofItems {m : Mem} {w : World} {L L' : List Item} (h : St m w L) (hi : ∀ x ∈ L', x.holds w) (hf : ∀ x ∈ L', x.Free m) (hd : L'.Pairwise Item.Disj) : St m w L' :=
  { h with items := hi, free := hf, disj := hd }

theorem St.split {m : Mem} {w : World} {L : List Item} {b off : Nat} {vs us : List Value} (h : St m w (.cells b off (vs ++ us) :: L)) :
    St m w (.cells b off vs :: .cells b (off + vs.length) us :: L) := by
  have hx := h.items _ (List.mem_cons_self ..)
  have hf := h.free _ (List.mem_cons_self ..)
  have hd := List.pairwise_cons.1 h.disj
  refine h.ofItems (fun y hy => ?_) (fun y hy => ?_) ?_
  · rcases List.mem_cons.1 hy with rfl | hy
    · intro j v hv
      exact hx j v (by rw [List.getElem?_append_left (List.getElem?_eq_some_iff.1 hv).1]; exact hv)
    · rcases List.mem_cons.1 hy with rfl | hy
      · intro j v hv
        have := hx (vs.length + j) v (by rw [List.getElem?_append_right (by omega)]; simpa using hv)
        rwa [← Nat.add_assoc] at this
      · exact h.items y (List.mem_cons_of_mem _ hy)
  · rcases List.mem_cons.1 hy with rfl | hy
    · exact ⟨fun hl => hf.pin (by simp [Item.len] at hl ⊢; omega), fun j hj => hf.c j (by simp [Item.len] at hj ⊢; omega), fun _ _ e => by cases e⟩
    · rcases List.mem_cons.1 hy with rfl | hy
      · refine ⟨fun hl => hf.pin (by simp [Item.len] at hl ⊢; omega), fun j hj => ?_, fun _ _ e => by cases e⟩
        have := hf.c (vs.length + j) (by simp [Item.len] at hj ⊢; omega)
        simpa [Item.blk, Item.off, Nat.add_assoc] using this
      · exact h.free y (List.mem_cons_of_mem _ hy)
  · refine List.pairwise_cons.2 ⟨fun y hy => ?_, List.pairwise_cons.2 ⟨fun y hy => ?_, hd.2⟩⟩
    · rcases List.mem_cons.1 hy with rfl | hy
      · exact .inr (.inr (.inr (.inl (by simp [Item.len, Item.off]))))
      · rcases hd.1 y hy with hq | hq | hq | hq | hq <;> simp only [Item.len, Item.blk, Item.off, List.length_append] at hq
        · exact .inl (by simp only [Item.len]; omega)
        · exact .inr (.inl hq)
        · exact .inr (.inr (.inl hq))
        · exact .inr (.inr (.inr (.inl (by simp only [Item.len, Item.off]; omega))))
        · exact .inr (.inr (.inr (.inr hq)))
    · rcases hd.1 y hy with hq | hq | hq | hq | hq <;> simp only [Item.len, Item.blk, Item.off, List.length_append] at hq
      · exact .inl (by simp only [Item.len]; omega)
      · exact .inr (.inl hq)
      · exact .inr (.inr (.inl hq))
      · exact .inr (.inr (.inr (.inl (by simp only [Item.len, Item.off]; omega))))
      · exact .inr (.inr (.inr (.inr (by simp only [Item.len, Item.off]; omega))))

theorem St.join {m : Mem} {w : World} {L : List Item} {b off off' : Nat} {vs us : List Value} (h : St m w (.cells b off vs :: .cells b off' us :: L)) (he : off' = off + vs.length) :
    St m w (.cells b off (vs ++ us) :: L) := by
  subst he
  have hx := h.items _ (List.mem_cons_self ..)
  have hy := h.items (.cells b (off + vs.length) us) (by simp)
  have hfx := h.free _ (List.mem_cons_self ..)
  have hfy := h.free (.cells b (off + vs.length) us) (by simp)
  have hd := List.pairwise_cons.1 h.disj
  have hd2 := List.pairwise_cons.1 hd.2
  refine h.ofItems (fun y hy' => ?_) (fun y hy' => ?_) ?_
  · rcases List.mem_cons.1 hy' with rfl | hy'
    · intro j v hv
      rcases Nat.lt_or_ge j vs.length with hj | hj
      · rw [List.getElem?_append_left hj] at hv; exact hx j v hv
      · rw [List.getElem?_append_right hj] at hv
        have := hy _ v hv
        rwa [show off + vs.length + (j - vs.length) = off + j by omega] at this
    · exact h.items y (by simp [hy'])
  · rcases List.mem_cons.1 hy' with rfl | hy'
    · refine ⟨fun hl => ?_, fun j hj => ?_, fun _ _ e => by cases e⟩
      · rcases Nat.eq_zero_or_pos vs.length with h0 | h0
        · exact hfy.pin (by simp [Item.len] at hl ⊢; omega)
        · exact hfx.pin h0
      rcases Nat.lt_or_ge j vs.length with hj' | hj'
      · exact hfx.c j hj'
      · have := hfy.c (j - vs.length) (by simp [Item.len] at hj ⊢; omega)
        simp only [Item.blk, Item.off] at this ⊢
        rwa [show off + vs.length + (j - vs.length) = off + j by omega] at this
    · exact h.free y (by simp [hy'])
  · refine List.pairwise_cons.2 ⟨fun y hy' => ?_, hd2.2⟩
    have h1 := hd.1 y (by simp [hy'])
    have h2 := hd2.1 y hy'
    simp only [Item.Disj, Item.len, Item.blk, Item.off, List.length_append] at h1 h2 ⊢
    omega

/-- owned cells of which only the number is remembered -/
theorem St.toRoom {m : Mem} {w : World} {L : List Item} {b off : Nat} {vs : List Value} (h : St m w (.cells b off vs :: L)) : St m w (.room b off vs.length :: L) := by
  have hx := h.items _ (List.mem_cons_self ..)
  have hf := h.free _ (List.mem_cons_self ..)
  have hd := List.pairwise_cons.1 h.disj
  refine h.ofItems (fun y hy => ?_) (fun y hy => ?_) (List.pairwise_cons.2 ⟨fun y hy => ?_, hd.2⟩)
  · rcases List.mem_cons.1 hy with rfl | hy
    · intro j hj
      exact ⟨vs[j], hx j vs[j] (by simp [hj])⟩
    · exact h.items y (List.mem_cons_of_mem _ hy)
  · rcases List.mem_cons.1 hy with rfl | hy
    · exact ⟨hf.pin, hf.c, fun _ _ e => by cases e⟩
    · exact h.free y (List.mem_cons_of_mem _ hy)
  · exact hd.1 y hy

/-- and back: some values are there -/
theorem St.ofRoom {m : Mem} {w : World} {L : List Item} {b off n : Nat} (h : St m w (.room b off n :: L)) : ∃ vs : List Value, vs.length = n ∧ St m w (.cells b off vs :: L) := by
  have hx := h.items _ (List.mem_cons_self ..)
  have hf := h.free _ (List.mem_cons_self ..)
  have hd := List.pairwise_cons.1 h.disj
  refine ⟨(List.range n).map fun j => (w.cell? ⟨b, off + j, none⟩).getD undef, by simp, ?_⟩
  refine h.ofItems (fun y hy => ?_) (fun y hy => ?_) (List.pairwise_cons.2 ⟨fun y hy => ?_, hd.2⟩)
  · rcases List.mem_cons.1 hy with rfl | hy
    · intro j v hv
      have hj : j < n := by have := (List.getElem?_eq_some_iff.1 hv).1; simpa using this
      obtain ⟨u, h1, h2⟩ := hx j hj
      simp [hj, h1] at hv
      subst hv
      exact ⟨h1, h2⟩
    · exact h.items y (List.mem_cons_of_mem _ hy)
  · rcases List.mem_cons.1 hy with rfl | hy
    · exact ⟨fun hl => hf.pin (by simpa [Item.len] using hl), fun j hj => hf.c j (by simpa [Item.len] using hj), fun _ _ e => by cases e⟩
    · exact h.free y (List.mem_cons_of_mem _ hy)
  · have := hd.1 y hy
    simpa [Item.Disj, Item.len, Item.blk, Item.off] using this


/-! ### items by their place in the list -/
theorem perm_at : ∀ {L : List Item} {i : Nat} {x : Item}, L[i]? = some x → L.Perm (x :: L.eraseIdx i)
  | [], i, x, h => by simp at h
  | y :: L, 0, x, h => by
    simp at h; subst h; exact List.Perm.refl _
  | y :: L, i + 1, x, h => by
    rw [List.getElem?_cons_succ] at h
    rw [List.eraseIdx_cons_succ]
    exact ((perm_at h).cons y).trans (List.Perm.swap x y _)

theorem perm_back {L : List Item} {i : Nat} (hi : i < L.length) (y : Item) : (y :: L.eraseIdx i).Perm (L.set i y) := by
  have h : (L.set i y)[i]? = some y := by simp [hi]
  have := perm_at h
  rw [List.eraseIdx_set_eq] at this
  exact this.symm

theorem St.at_ {m : Mem} {w : World} {L : List Item} {i : Nat} {x : Item} (h : St m w L) (hi : L[i]? = some x) : St m w (x :: L.eraseIdx i) := h.perm (perm_at hi)
theorem St.back {m : Mem} {w : World} {L : List Item} {i : Nat} {x y : Item} (hi : L[i]? = some x) (h : St m w (y :: L.eraseIdx i)) : St m w (L.set i y) :=
  h.perm (perm_back (List.getElem?_eq_some_iff.1 hi).1 y)

end Go.Sep
