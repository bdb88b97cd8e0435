/-
  Part 4 of the proof: library, walks and plain laws.
-/
import Derived.Lib.ConvBytes
import Derived.Laws.IdiomStrings
import Derived.Test.YtiknfjdjbhbjhaaGreatDoorB3
set_option linter.unusedVariables false
set_option linter.unusedSimpArgs false
namespace Go.Sep
def rByte : R UInt8 UInt8 where
 size:=1
 bytes:=1
 enc b:=[byteV b]
 rep _ h a:=h=a
 enc_len _:=rfl
 one _:=rfl
 mono _ h:=h
theorem byte_all2 {m : Mem} : ∀ {hs l : List UInt8},All2 (rByte.rep m) hs l→hs=l
 | [],[],_=>rfl
 | h :: hs,a :: l,hh=>by rw [show h=a from hh.1,byte_all2 hh.2]
 | [],_ :: _,hh=>hh.elim
 | _ :: _,[],hh=>hh.elim
theorem byte_refl {m : Mem} : ∀ l : List UInt8,All2 (rByte.rep m) l l
 | []=>trivial
 | _ :: l=>⟨rfl,byte_refl l⟩
theorem encs_byte (l : List UInt8) : encs rByte l=l.map byteV:=by
 induction l with
 | nil=>rfl
 | cons x xs ih=>rw [encs_cons,ih];rfl
theorem St.grow {m : Mem} {w w' : World} {L : List Item} (h : St m w L) (hos : w'.os=w.os) (ht : w'.tape=w.tape) (hout : w'.output=w.output) (hsz : w.heap.size ≤ w'.heap.size) (hold : ∀ b,b < w.heap.size→w'.heap[b]? = w.heap[b]?) : St m w' L:=by
 have hc : ∀ (a : Addr) (v : Value),w.cell? a=some v→w'.cell? a=some v ∧ ∀ i,w'.frozen? ⟨a.block,i,none⟩ = w.frozen? ⟨a.block,i,none⟩:=fun a v hv=>by
  have e:=hold a.block (World.block_lt_of_cell? _ _ hv)
  exact ⟨(World.cell?_of_block e).trans hv,fun i=>World.frozen?_of_block (a:=⟨a.block,i,none⟩) e⟩
 refine { os:=hos.trans h.os,tape:=ht.trans h.tape,output:=hout.trans h.output,size:=Nat.le_trans h.size hsz,pin:=fun b hb=>(hold b (Nat.lt_of_lt_of_le hb h.size)).trans (h.pin b hb),c:=fun b i v hv=>(hc _ _ (h.c b i v hv)).1,o:=fun b x hx => ?_,t:=fun b x hx => ?_,items:=fun x hx => ?_,free:=h.free,disj:=h.disj }
 ·have:=h.o b x hx
  exact ⟨(hold b (lt_of_heap this.1)).trans this.1,this.2⟩
 ·obtain ⟨arr,fr,g1,g2⟩:=h.t b x hx
  exact ⟨arr,fr,(hold b (lt_of_heap g1)).trans g1,g2⟩
 ·have hi:=h.items x hx
  cases x with
  | cells b off vs =>
   intro j v hv
   obtain ⟨g1,g2⟩:=hi j v hv
   have:=hc _ _ g1
   exact ⟨this.1,fun i=>(this.2 i).trans (g2 i)⟩
  | room b off n =>
   intro j hj
   obtain ⟨v,g1,g2⟩:=hi j hj
   have:=hc _ _ g1
   exact ⟨v,this.1,fun i=>(this.2 i).trans (g2 i)⟩
  | obj b o=>exact ⟨(hold b (lt_of_heap hi.1)).trans hi.1,hi.2⟩
section
variable {P : Program} {N : Nat} {ρ : Env} {D : List Deferred} {m : Mem} {L : List Item} {Q : EPost} {full : List Oper} {o : Oper} {K : Env→Mem→List Item→Prop}
theorem OT.sub (T : Tab P) (lo hi : Nat) {s : Str} {x : Operand} {lx hx : Option Operand} {lov hiv : Option Value} {t : TypeId} {d : Nat} (ho : o.op = .slice t x lx hx none) (hd : o.dst=some d) (hN : Nat.blt d N=true) (ht : T.isStr t=true)
  (he : ev ρ x=some (strV s)) (h1 : evO ρ lx=some lov) (h2 : evO ρ hx=some hiv) (g1 : (lov=none∧lo=0) ∨ lov=some (.int .i64 (lo : Int))) (g2 : (hiv=none∧hi=s.length) ∨ hiv=some (.int .i64 (hi : Int))) (hle : lo ≤ hi) (hhi : hi ≤ s.length)
  (hK : K ((d,strV ((s.take hi).drop lo)) :: ρ) m L) : OT P N o ρ D m L Q K:=by
 obtain ⟨ti,t1,t2⟩:=isStr_get ht
 refine OT.run hd hN (fun a w ha=>⟨w, ?_,ha.st⟩) hK
 have hu:=T.run_underlying w t1
 rw [t2] at hu
 have hsz : (⟨⟨s⟩⟩ : ByteArray).size=s.length:=rfl
 have hb : (Instr.sliceBounds false (⟨⟨s⟩⟩ : ByteArray).size (⟨⟨s⟩⟩ : ByteArray).size lov hiv none).run P w = .ok (lo,hi,s.length) w:=by
  rw [hsz]
  have q1 : ∀ y code,lo ≤ y→(Instr.sliceBound (.int .i64 (lo : Int)) y code).run P w = .ok lo w:=fun y code hy=>by
   have : (0 : Int) ≤ (lo : Int)∧(lo : Int) ≤ (y : Int):=⟨by omega,by omega⟩
   simp [Instr.sliceBound,asIntOf,this]
  have q2 : ∀ y code,hi ≤ y→(Instr.sliceBound (.int .i64 (hi : Int)) y code).run P w = .ok hi w:=fun y code hy=>by
   have : (0 : Int) ≤ (hi : Int)∧(hi : Int) ≤ (y : Int):=⟨by omega,by omega⟩
   simp [Instr.sliceBound,asIntOf,this]
  rcases g1 with ⟨rfl,rfl⟩ | rfl <;> rcases g2 with ⟨rfl,rfl⟩ | rfl
  ·simp [Instr.sliceBounds]
  ·simp [Instr.sliceBounds,q2 _ _ hhi]
  ·simp [Instr.sliceBounds,q1 _ _ hle]
  ·simp [Instr.sliceBounds,q2 _ _ hhi,q1 _ _ hle]
 have hx2 : (⟨⟨s⟩⟩ : ByteArray).extract lo hi = ⟨⟨(s.take hi).drop lo⟩⟩:=by
  apply ByteArray.ext
  apply Array.ext'
  simp [List.extract_eq_take_drop,List.take_drop]
  rw [show lo + (hi - lo)=hi by omega]
 have e1:=ha.env.evalO h1
 have e2:=ha.env.evalO h2
 have hs : (Instr.slice t (strV s) lov hiv none).run P w = .ok (strV ((s.take hi).drop lo)) w:=by
  unfold Instr.slice
  rw [Sem.run_bind,hu]
  simp only [Result.andThen_ok,Option.isSome_none,Bool.false_eq_true,if_false,Sem.run_bind,Sem.run_pure]
  rw [hb]
  simp only [Result.andThen_ok,hx2]
 simp only [execOp,ho,ha.env.eval he,e1,e2,Option.map_none,Instr.sliceAt,Sem.run_bind,hu,Result.andThen_ok,Sem.run_pure,hs]
theorem OT.arithK {op : BinOp} {t t' : TypeId} {x y : Operand} {k : IntKind} {d : Nat} {a b r r' : Int} (ho : o.op = .binOp op t x y t') (hd : o.dst=some d) (hN : Nat.blt d N=true)
  (hx : ev ρ x=some (.int k a)) (hy : ev ρ y=some (.int k b)) (hr : Sep.arith op a b=some r) (he : k.wrap r=r') (hK : K ((d, .int k r') :: ρ) m L) : OT P N o ρ D m L Q K:=by
 subst he
 refine OT.run hd hN (fun ac w ha=>⟨w, ?_,ha.st⟩) hK
 cases op <;> simp only [Sep.arith,Option.some.injEq] at hr <;> first | (cases hr;done) | (subst hr;simp [execOp,ho,ha.env.eval hx,ha.env.eval hy,eqGuard,binOp,Op.intArith])
theorem OT.quoK {t t' : TypeId} {x y : Operand} {k : IntKind} {d : Nat} {a b r : Int} (ho : o.op = .binOp .quo t x y t') (hd : o.dst=some d) (hN : Nat.blt d N=true)
  (hx : ev ρ x=some (.int k a)) (hy : ev ρ y=some (.int k b)) (hb : b ≠ 0) (he : k.wrap (a.tdiv b)=r) (hK : K ((d, .int k r) :: ρ) m L) : OT P N o ρ D m L Q K:=by
 subst he
 refine OT.run hd hN (fun ac w ha=>⟨w, ?_,ha.st⟩) hK
 simp [execOp,ho,ha.env.eval hx,ha.env.eval hy,eqGuard,binOp,Op.intDiv,hb]
theorem OT.remK {t t' : TypeId} {x y : Operand} {k : IntKind} {d : Nat} {a b r : Int} (ho : o.op = .binOp .rem t x y t') (hd : o.dst=some d) (hN : Nat.blt d N=true)
  (hx : ev ρ x=some (.int k a)) (hy : ev ρ y=some (.int k b)) (hb : b ≠ 0) (he : a.tmod b=r) (hK : K ((d, .int k r) :: ρ) m L) : OT P N o ρ D m L Q K:=by
 subst he
 refine OT.run hd hN (fun ac w ha=>⟨w, ?_,ha.st⟩) hK
 simp [execOp,ho,ha.env.eval hx,ha.env.eval hy,eqGuard,binOp,Op.intDiv,hb]
theorem OT.shK {op : BinOp} {t t' : TypeId} {x y : Operand} {k ky : IntKind} {d : Nat} {a b r : Int} (ho : o.op = .binOp op t x y t') (hop : op = .shl ∨ op = .shr) (hd : o.dst=some d) (hN : Nat.blt d N=true)
  (hx : ev ρ x=some (.int k a)) (hy : ev ρ y=some (.int ky b)) (hb : 0 ≤ b) (he : (if op = .shl then k.wrap (a * 2 ^ (min b.toNat k.bits)) else a.fdiv (2 ^ (min b.toNat k.bits)))=r) (hK : K ((d, .int k r) :: ρ) m L) : OT P N o ρ D m L Q K:=by
 subst he
 have hb' : ¬ b < 0:=by omega
 refine OT.run hd hN (fun ac w ha=>⟨w, ?_,ha.st⟩) hK
 rcases hop with rfl | rfl <;> simp [execOp,ho,ha.env.eval hx,ha.env.eval hy,eqGuard,binOp,Op.shift,hb']
theorem OT.andK {t t' : TypeId} {x y : Operand} {k : IntKind} {d : Nat} {a b r : Int} (ho : o.op = .binOp .and t x y t') (hd : o.dst=some d) (hN : Nat.blt d N=true)
  (hx : ev ρ x=some (.int k a)) (hy : ev ρ y=some (.int k b)) (he : ∀ w,(Op.intBits .and k a b).run P w = .ok (.int k r) w) (hK : K ((d, .int k r) :: ρ) m L) : OT P N o ρ D m L Q K:=by
 refine OT.run hd hN (fun ac w ha=>⟨w, ?_,ha.st⟩) hK
 simp [execOp,ho,ha.env.eval hx,ha.env.eval hy,eqGuard,binOp,he]
def Tab.isIface {P : Program} (T : Tab P) (t : TypeId) : Bool :=
 match T.get t with
 | some ⟨.interface _,_,_,_⟩=>true
 | _=>false
theorem isIface_get {T : Tab P} {t : TypeId} (h : T.isIface t=true) : ∃ i ms,T.get t=some i∧i.u = .interface ms:=by
 unfold Tab.isIface at h
 split at h
 ·exact ⟨_,_,by assumption,rfl⟩
 ·cases h
def Tab.notIface {P : Program} (T : Tab P) (t : TypeId) : Bool :=
 match T.get t with
 | some ⟨.interface _,_,_,_⟩=>false
 | some _=>true
 | _=>false
theorem OT.mkIface (T : Tab P) {t : TypeId} {x : Operand} {v : Value} {d : Nat} (ho : o.op = .makeInterface t x) (hd : o.dst=some d) (hN : Nat.blt d N=true) (hx : ev ρ x=some v) (ht : T.notIface t=true)
  (hK : K ((d, .iface t v) :: ρ) m L) : OT P N o ρ D m L Q K:=by
 refine OT.run hd hN (fun ac w ha=>⟨w, ?_,ha.st⟩) hK
 unfold Tab.notIface at ht
 split at ht
 ·cases ht
 ·rename_i i hne hg
  have hu:=T.run_underlying w hg
  simp only [execOp,ho,ha.env.eval hx,Instr.makeInterface,Sem.run_bind,hu,Result.andThen_ok]
  split
  ·rename_i ms h2
   obtain ⟨u,a,b,c⟩:=i
   simp only at h2
   subst h2
   exact absurd rfl (hne ms a b c)
  ·simp
 ·cases ht
end
end Go.Sep
