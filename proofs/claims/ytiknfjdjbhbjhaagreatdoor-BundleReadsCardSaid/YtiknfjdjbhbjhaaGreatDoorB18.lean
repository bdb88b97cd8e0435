/-
  Part 18 of the proof: library, walks and plain laws.
-/
import Derived.LaidEql
import Derived.Test.YtiknfjdjbhbjhaaGreatDoorB17
set_option linter.unusedVariables false
set_option linter.unusedSimpArgs false
namespace Go.Sep
section
variable {P : Program} {N : Nat} {ρ : Env} {D : List Deferred} {m : Mem} {L : List Item} {Q : EPost} {o : Oper} {K : Env→Mem→List Item→Prop}
structure Apart (w : World) (a b : Nat) : Prop where
 fr : ∀ i,w.frozen? ⟨a,i,none⟩ = false
 ca : ∃ i v,w.cell? ⟨a,i,none⟩ = some v
 cb : ∃ i v,w.cell? ⟨b,i,none⟩ = some v
def Item.isMem : Item→Bool
 | .obj _ _=>false
 | _=>true
theorem St.apart {w : World} {x : Item} {i b j : Nat} {v : Value} (hs : St m w L) (hi : L[i]? = some x) (hl : 0 < x.len) (hc : x.isMem=true) (hb : m.c b j=some v) : Apart w x.blk b:=by
 have h:=hs.items x (List.mem_of_getElem? hi)
 have h2:=hs.c _ _ _ hb
 cases x with
 | cells k off vs =>
  have h0 : 0 < vs.length:=hl
  obtain ⟨g1,g2⟩:=h 0 vs[0] (by simp)
  exact ⟨g2,⟨_,_,g1⟩,⟨_,_,h2⟩⟩
 | room k off n =>
  obtain ⟨u,g1,g2⟩:=h 0 hl
  exact ⟨g2,⟨_,_,g1⟩,⟨_,_,h2⟩⟩
 | obj k o=>cases hc
end
end Go.Sep
set_option linter.unusedVariables false
set_option linter.unusedSimpArgs false
namespace Go.Sep
theorem St.frzQ {m : Mem} {w : World} {L : List Item} (h : St m w L) (g q n : Nat) (hp : m.pin.heap.size ≤ g) (hL : ∀ x ∈ L,0 < x.len→x.blk ≠ g) : St m (w.freeze ⟨g,q,none⟩ n) L:=by
 have hsz : (w.freeze ⟨g,q,none⟩ n).heap.size=w.heap.size:=by
  unfold World.freeze
  split
  ·rfl
  ·simp
 have hos : (w.freeze ⟨g,q,none⟩ n).os=w.os∧(w.freeze ⟨g,q,none⟩ n).tape=w.tape∧(w.freeze ⟨g,q,none⟩ n).output=w.output:=by
  unfold World.freeze
  split <;> exact ⟨rfl,rfl,rfl⟩
 have hfz : ∀ a : Addr,a.block ≠ g→(w.freeze ⟨g,q,none⟩ n).frozen? a=w.frozen? a:=fun a ha=>World.frozen?_of_block (freeze_heap w _ n (fun e=>ha e.symm))
 refine { os:=hos.1.trans h.os,tape:=hos.2.1.trans h.tape,output:=hos.2.2.trans h.output,size:=by rw [hsz];exact h.size,pin:=fun b hb=>(freeze_heap w _ n (show g ≠ b by omega)).trans (h.pin b hb),c:=fun b i v hv=>(freeze_cell ..).trans (h.c b i v hv),o:=fun b x hx => ?_,t:=fun b x hx => ?_,items:=fun x hx => ?_,free:=h.free,disj:=h.disj }
 ·have h1:=h.o b x hx
  by_cases e : g=b
  ·subst e
   unfold World.freeze
   split
   ·exact h1
   ·refine ⟨?_,h1.2⟩
    simp only [Array.getElem?_modify,if_true,h1.1,Option.map_some]
    cases x <;> simp_all [isCells]
  ·exact ⟨(freeze_heap w _ n e).trans h1.1,h1.2⟩
 ·obtain ⟨arr,fr,g1,g2⟩:=h.t b x hx
  by_cases e : g=b
  ·subst e
   unfold World.freeze
   split
   ·exact ⟨arr,fr,g1,g2⟩
   ·simp only [Array.getElem?_modify,if_true,g1,Option.map_some]
    exact ⟨arr,_,rfl,g2⟩
  ·exact ⟨arr,fr,(freeze_heap w _ n e).trans g1,g2⟩
 ·have hi:=h.items x hx
  have hl:=hL x hx
  cases x with
  | cells b off vs =>
   intro j v hv
   obtain ⟨g1,g2⟩:=hi j v hv
   have hj:=(List.getElem?_eq_some_iff.1 hv).1
   have hne : b ≠ g:=hl (by simp only [Item.len];omega)
   exact ⟨(freeze_cell ..).trans g1,fun i=>(hfz ⟨b,i,none⟩ hne).trans (g2 i)⟩
  | room b off k =>
   intro j hj
   obtain ⟨v,g1,g2⟩:=hi j hj
   have hne : b ≠ g:=hl (by simp only [Item.len];omega)
   exact ⟨v,(freeze_cell ..).trans g1,fun i=>(hfz ⟨b,i,none⟩ hne).trans (g2 i)⟩
  | obj b ob =>
   have hne : b ≠ g:=hl (by simp [Item.len])
   exact ⟨(freeze_heap w _ n (fun e=>hne e.symm)).trans hi.1,hi.2⟩
theorem blk_lt {w : World} {x : Item} (h : x.holds w) (hl : 0 < x.len) : x.blk < w.heap.size:=by
 cases x with
 | cells b off vs =>
  simp only [Item.len] at hl
  obtain ⟨g1,_⟩:=h 0 vs[0] (by simp [hl])
  exact World.block_lt_of_cell? _ _ g1
 | room b off k =>
  simp only [Item.len] at hl
  obtain ⟨v,g1,_⟩:=h 0 hl
  exact World.block_lt_of_cell? _ _ g1
 | obj b o =>
  exact (Array.getElem?_eq_some_iff.1 h.1).1
section
variable {P : Program} {N : Nat} {ρ : Env} {D : List Deferred} {m : Mem} {L : List Item} {Q : EPost} {o : Oper} {K : Env→Mem→List Item→Prop}
theorem OT.litT (T : Tab P) {t : TypeId} {n d : Nat} {ps : List (Nat × Operand)} {cs : List Value} (ho : o.op = .buildSlice t n ⟨ps⟩) (hd : o.dst=some d) (hN : Nat.blt d N=true)
  (hv : T.lit ρ t n ps=some cs) (hK : ∀ (b : Nat) (m' : Mem) (e q : Nat),m ≤ m' → m'.t b=some (e,q)→m'.pin.heap.size ≤ b→(∀ x ∈ L,0 < x.len→x.blk ≠ b)→At m' b 0 cs→K ((d, .slice (some ⟨b,0,none⟩) n n) :: ρ) m' L) : OT P N o ρ D m L Q K:=by
 intro a w ha
 unfold Tab.lit at hv
 split at hv
 ·rename_i e ei he
  split at hv
  ·rename_i zs hz
   cases hb : (Nat.ble (n * ei.size) 16777216 && Nat.beq zs.length ei.size) with
   | false=>simp [hb] at hv
   | true =>
    simp only [hb,cond_true] at hv
    simp only [Bool.and_eq_true] at hb
    have hle:=Nat.le_of_ble_eq_true hb.1
    have hzl:=Nat.eq_of_beq_eq_true hb.2
    obtain ⟨ti,h4,h5,h6⟩:=elem_get he
    have hu:=T.run_underlying w h4
    rw [h5] at hu
    have hs:=T.run_sizeOf w h6
    have hzr:=T.run_zero w h6
    have hzc:=cellsF_eq hz
    have hfill:=run_fillS ha.env ei.size ps _ _ hv
    have hrow : ((Array.range (n * ei.size)).map fun i=>(if n * ei.size=0 then (#[] : Array Value) else ⟨zs⟩)[i % (if n * ei.size=0 then (#[] : Array Value) else ⟨zs⟩).size]!) = ⟨zeroRow zs (n * ei.size)⟩:=by
     by_cases h0 : n * ei.size=0
     ·rw [h0];apply Array.ext';simp [zeroRow]
     ·apply Array.ext'
      simp only [h0,if_false,Array.toList_map,Array.toList_range,zeroRow]
      apply List.map_congr_left
      intro i hi
      have : 0 < zs.length:=by
       rw [hzl];rcases Nat.eq_zero_or_pos ei.size with h | h
       ·rw [h] at h0;simp at h0
       ·exact h
      have hlt:=Nat.mod_lt i this
      simp [hlt]
    have hr : (execOp a.eval o).run P w = .ok (.value (.slice (some ⟨w.heap.size,0,none⟩) n n)) (w.alloc (.cells ⟨cs⟩ e)):=by
     have e3 : ((⟨ps⟩ : Array (Nat × Operand)).map fun (p : Nat × Operand)=>(p.1,a.eval p.2)).toList=ps.map fun p=>(p.1,a.eval p.2):=by simp
     have hlim : ¬ (n * ei.size > 2 ^ 24):=by omega
     simp only [execOp,ho,Instr.buildSlice,Sem.run_bind,hu,hs,Result.andThen_ok,if_neg hlim]
     by_cases h0 : n * ei.size=0
     ·simp only [h0,if_true,Sem.run_bind,Sem.run_pure,Result.andThen_ok] at hrow hfill ⊢
      rw [hrow,e3,hfill]
      simp only [newRow,Sem.run_bind,run_newObj,Result.andThen_ok,Sem.run_pure,World.alloc_eq]
     ·simp only [h0,if_false,Sem.run_bind,hzr,Result.andThen_ok,Sem.run_pure,hzc] at hrow ⊢
      rw [hrow,e3,hfill]
      simp only [newRow,Sem.run_bind,run_newObj,Result.andThen_ok,Sem.run_pure,World.alloc_eq]
    simp only [Oper.wp,hr,Oper.upon,hd]
    have hp:=ha.put hN (.slice (some ⟨w.heap.size,0,none⟩) n n)
    have hst:=ha.st.allocCells ⟨cs⟩ e
    obtain ⟨f1,f2,f3⟩:=hst.typed (heap_alloc_at w (.cells ⟨cs⟩ e))
    obtain ⟨g1,g2,g3⟩:=f3.freeze
    refine ⟨_,_,_,⟨hp.size,hp.env,hp.defers,g3⟩,hK _ _ e cs.length (Mem.le_trans f1 g1) (by simpa using g1.t _ _ f2) (by rw [g1.pin,f1.pin];exact ha.st.size) (fun x hx hl => ?_) g2⟩
    exact Nat.ne_of_lt (blk_lt (ha.st.items x hx) hl)
  ·cases hv
 ·cases hv
theorem OT.convB (T : Tab P) {t : TypeId} {x : Operand} {b n c d eb q : Nat} {e : TypeId} {ei : TI} (ho : o.op = .convert t t x) (hd : o.dst=some d) (hN : Nat.blt d N=true) (hx : ev ρ x=some (.slice (some ⟨b,0,none⟩) n c))
  (he : T.elem t=some (e,ei)) (hb : ei.u = .int .u8) (ht : m.t b=some (eb,q)) (hp : m.pin.heap.size ≤ b) (hL : ∀ x ∈ L,0 < x.len→x.blk ≠ b)
  (hK : K ((d, .slice (some ⟨b,0,none⟩) n c) :: ρ) m L) : OT P N o ρ D m L Q K:=by
 obtain ⟨ti,h4,h5,h6⟩:=elem_get he
 obtain ⟨_,_,hut,_⟩:=T.ok t ti h4
 rw [h5] at hut
 obtain ⟨_,_,hue,_⟩:=T.ok e ei h6
 rw [hb] at hue
 refine OT.run hd hN (fun ac w ha=>⟨w.freeze ⟨b,q,none⟩ 1, ?_,ha.st.frzQ b q 1 hp hL⟩) hK
 have hsh : w.shape? b=some (eb,q):=by
  obtain ⟨arr,fr,h1,h2⟩:=ha.st.t b _ ht
  simp only [World.shape?,h1]
  rw [h2]
 simp only [execOp,ho,ha.env.eval hx,Go.convert,Sem.run_bind,run_underlying hut,run_underlying hue,Result.andThen_ok]
 simp [markStringish,hsh,run_freeze,Sem.run_bind,Result.andThen_ok,Sem.run_pure]
end
end Go.Sep
set_option linter.unusedVariables false
set_option linter.unusedSimpArgs false
namespace Go.Sep
open Go.Proofs
attribute [local irreducible] TC TO OT TCallX TCall DO DOt thenQ blockQ retQ At
def UnpR (b : Str) (r : Value) (m : Mem) : Prop :=
 (∃ (ys : List Ch) (s : Sl),errD ys=0∧ordF ys=ys∧b=packD ys∧SlRep rCh m s ys∧r = .tuple ⟨[s.v, .int .i64 0]⟩) ∨
 ((∀ ys,errD ys=0→ordF ys=ys→b ≠ packD ys)∧r = .tuple ⟨[.slice none 0 0, .int .i64 3]⟩)
def Fol (b : Str) (l : List Ch) (z : Str) : Prop := ∀ ys,errD ys=0→ordF ys=ys→b=packD ys→l=ys.take l.length∧z=packD (ys.drop l.length)
theorem Fol.head {b : Str} {l : List Ch} {z : Str} (h : Fol b l z) (hz : 0 < z.length) {ys : List Ch} (h1 : errD ys=0) (h2 : ordF ys=ys) (h3 : b=packD ys) :
  ∃ y r,l.length < 64∧isName y.nm=true∧y.tx.length ≤ 65536∧z=packD (y :: r)∧ys.take (l.length + 1)=l++[y]∧ys.drop (l.length + 1)=r:=by
 obtain ⟨h4,h5⟩:=h ys h1 h2 h3
 have hlt : l.length < ys.length:=by
  rcases Nat.lt_or_ge l.length ys.length with h6 | h6
  ·exact h6
  ·rw [List.drop_of_length_le h6] at h5
   rw [h5] at hz
   simp [packD] at hz
 obtain ⟨hl64, -, -⟩:=openOk h1
 have hs:=errD_sound h1 _ (List.getElem_mem hlt)
 refine ⟨ys[l.length],ys.drop (l.length + 1),by omega,hs.1,hs.2, ?_, ?_,rfl⟩
 ·rw [h5,List.drop_eq_getElem_cons hlt]
 ·rw [List.take_succ_eq_append_getElem hlt,← h4]
structure UnS where
 m : Mem
 fs : Sl
 l : List Ch
 rs : Sl
 z : Str
theorem neg_of_idx {b : Str} {l : List Ch} {z : Str} (h : Fol b l z) (hz : 0 < z.length) (hn : Lib.indexByte z 10 < 0) : ∀ ys,errD ys=0→ordF ys=ys→b ≠ packD ys:=fun ys h1 h2 h3=>by
 obtain ⟨y,r,h4,h5,h6,h7, -⟩:=h.head hz h1 h2 h3
 obtain ⟨k,j,h8, -⟩:=pack_head h5 h6 h7
 omega
theorem neg_of_cut {b : Str} {l : List Ch} {z : Str} (h : Fol b l z) (hz : 0 < z.length) {k : Nat} (hk : Lib.indexByte z 10=(k : Int)) (hn : Lib.indexByte (z.take k) 32 < 0) : ∀ ys,errD ys=0→ordF ys=ys→b ≠ packD ys:=fun ys h1 h2 h3=>by
 obtain ⟨y,r,h4,h5,h6,h7, -⟩:=h.head hz h1 h2 h3
 obtain ⟨k',j,h8,h9, -⟩:=pack_head h5 h6 h7
 obtain rfl : k=k':=by omega
 omega
theorem neg_of_num {b : Str} {l : List Ch} {z : Str} (h : Fol b l z) (hz : 0 < z.length) {k j : Nat} (hk : Lib.indexByte z 10=(k : Int)) (hj : Lib.indexByte (z.take k) 32=(j : Int))
  (hn : (∀ v,Lib.atoiAll ((z.take k).drop (j + 1)) ≠ .ok v) ∨ ∃ v : Int,Lib.atoiAll ((z.take k).drop (j + 1)) = .ok v∧(v < 0 ∨ ((z.drop (k + 1)).length : Int) < v ∨ l.length=64)) : ∀ ys,errD ys=0→ordF ys=ys→b ≠ packD ys:=fun ys h1 h2 h3=>by
 obtain ⟨y,r,h4,h5,h6,h7, -⟩:=h.head hz h1 h2 h3
 obtain ⟨k',j',h8,h9,h10,h11,h12,h13, -⟩:=pack_head h5 h6 h7
 obtain rfl : k=k':=by omega
 obtain rfl : j=j':=by omega
 rcases hn with hn | ⟨v,hv,hn⟩
 ·exact hn _ h12
 ·rw [h12] at hv
  have:=Lib.NumEnd.ok.inj hv
  omega
theorem Fol.next {b : Str} {l : List Ch} {z : Str} (h : Fol b l z) (hz : 0 < z.length) {k j n : Nat} (hk : Lib.indexByte z 10=(k : Int)) (hj : Lib.indexByte (z.take k) 32=(j : Int))
  (hn : Lib.atoiAll ((z.take k).drop (j + 1)) = .ok (n : Int)) : Fol b (l++[⟨(z.take k).take j,(z.drop (k + 1)).take n⟩]) ((z.drop (k + 1)).drop n):=fun ys h1 h2 h3=>by
 obtain ⟨y,r,h4,h5,h6,h7,g1,g2⟩:=h.head hz h1 h2 h3
 obtain ⟨k',j',h8,h9,h10,h11,h12,h13,h14,h15⟩:=pack_head h5 h6 h7
 obtain rfl : k=k':=by omega
 obtain rfl : j=j':=by omega
 rw [h12] at hn
 have hny : n=y.tx.length:=by
  have:=Lib.NumEnd.ok.inj hn
  omega
 rw [hny,h10,h14,h15,List.length_append,List.length_singleton,g1,g2]
 exact ⟨rfl,rfl⟩
theorem Fol.done {b : Str} {l : List Ch} (h : Fol b l []) : ∀ ys,errD ys=0→ordF ys=ys→b=packD ys→l=ys:=fun ys h1 h2 h3=>by
 obtain ⟨h4,h5⟩:=h ys h1 h2 h3
 have h6:=packD_nil h5.symm
 have h7 : ys.length ≤ l.length:=by
  have:=congrArg List.length h6
  simp at this
  omega
 rw [List.take_of_length_le h7] at h4
 exact h4
theorem cut_form {bs : Str} {c : UInt8} {m : Mem} {r : Value} (h : CutR bs c m r) : ∃ (s1 s2 : Sl) (hd bh : Str) (ok : Bool),r = .tuple ⟨[s1.v,s2.v, .bool ok]⟩ ∧ SlRep rByte m s1 hd∧SlRep rByte m s2 bh ∧
  ((ok=true ∧ ∃ k : Nat,k < bs.length∧Lib.indexByte bs c=(k : Int)∧hd=bs.take k∧bh=bs.drop (k + 1)) ∨ (ok=false∧Lib.indexByte bs c < 0)):=by
 rcases h with ⟨k,s1,s2,h1,h2,h3,h4,h5,rfl⟩ | ⟨h1,s1,h2,rfl⟩
 ·exact ⟨s1,s2,_,_,true,rfl,h4,h5, .inl ⟨rfl,k,h1,h3,rfl,rfl⟩⟩
 ·exact ⟨s1,⟨none,0,0⟩,_,[],false,rfl,h2,SlRep.nil _ _, .inr ⟨rfl,h1⟩⟩
theorem one_rep {m : Mem} {b : Nat} {c : UInt8} (h : At m b 0 [byteV c]) : SlRep rByte m ⟨some ⟨b,0,none⟩,1,1⟩ [c]:=⟨rfl,Nat.le_refl _,(by show 1 * 1 ≤ 140737488355328;decide),[c],⟨rfl,trivial⟩, .inr ⟨b,0,rfl,h⟩⟩
set_option maxHeartbeats 4000000 in
theorem unpack_law (s : Sl) (b : Str) (m : Mem) (L : List Item) (hs : SlRep rByte m s b) (hT : Tb m) (hE : Eb m) : TCall Tryz.prog 18 ⟨[s.v]⟩ m L (Made m L fun r m'=>UnpR b r m'):=by
 have hsl:=hs.len
 have hsf : s.len * 1 ≤ 140737488355328:=hs.fit
 unfold TCall
 refine TCallX.enter Tryz.func18 rfl 94 rfl ?_
 refine uA ?_
 refine TC.grow0 (size:=2) ?_
 refine TC.loopK (ι:=UnS) [0] rfl (fun x=>[(5,x.rs.v),(4,x.fs.v)]) (fun x=>x.m) (fun x=>tok x.fs 2 :: L) (fun x=>m ≤ x.m∧SlRep rCh x.m x.fs x.l∧Own x.fs∧SlRep rByte x.m x.rs x.z∧Wide x.l∧x.l.length ≤ 64∧Fol b x.l x.z) (fun x=>x.z.length) ⟨m,⟨none,0,0⟩,[],s,b⟩ uH rfl uS ⟨Mem.le_refl _,SlRep.nil _ _,Own.nil,hs,(fun _ h=>by cases h),Nat.zero_le _,fun ys h1 h2 h3=>⟨by simp,by simpa using h3⟩⟩ ?_
 rintro ⟨m2,fs,l,rs,z⟩ ⟨hm2,hfs,hfo,hrs,hwl,hl64,hfol⟩
 simp only at hm2 hfs hfo hrs hwl hl64 hfol
 show TC _ _ _ ((5,rs.v) :: (4,fs.v) :: _) _ m2 (tok fs 2 :: L) _
 have hrl:=hrs.len
 have hfl:=hfs.len
 have hrf : rs.len * 1 ≤ 140737488355328:=hrs.fit
 refine uA ?_
 refine TC.condP rfl (fun h5 => ?_) (fun h5 => ?_)
 ·have hz : 0 < z.length:=by omega
  refine uA ?_
  refine TO.step rfl (OT.litT tab (cs:=[byteV 10]) rfl rfl rfl rfl (fun bA mA eA qA hmA htA hpA hnA hAA => ?_))
  refine TO.step rfl (OT.convB tab rfl rfl rfl rfl rfl rfl htA hpA hnA ?_)
  refine uA ?_
  refine TO.step rfl (OT.call rfl rfl rfl rfl rfl rfl goes31 ((bcut_law mA _ rs ⟨some ⟨bA,0,none⟩,1,1⟩ z 10 (hrs.mono hmA) (one_rep hAA)).x ?_));
  rintro _ _ _ ⟨rfl,rfl,hC⟩
  obtain ⟨s1,s2,hd,bh,ok1,rfl,hs1,hs2,hC1⟩:=cut_form hC
  refine uA ?_
  refine TO.step rfl (OT.litT tab (cs:=[byteV 32]) rfl rfl rfl rfl (fun bB mB eB qB hmB htB hpB hnB hAB => ?_))
  refine TO.step rfl (OT.convB tab rfl rfl rfl rfl rfl rfl htB hpB hnB ?_)
  refine uA ?_
  refine TO.step rfl (OT.call rfl rfl rfl rfl rfl rfl goes31 ((bcut_law mB _ s1 ⟨some ⟨bB,0,none⟩,1,1⟩ hd 32 (hs1.mono hmB) (one_rep hAB)).x ?_));
  rintro _ _ _ ⟨rfl,rfl,hC⟩
  obtain ⟨s3,s4,nm,cn,ok2,rfl,hs3,hs4,hC2⟩:=cut_form hC
  have h2B:=Mem.le_trans hm2 (Mem.le_trans hmA hmB)
  have hcl : cn.length * 1 ≤ 140737488355328:=by have:=hs4.fit;rw [hs4.len] at this;exact this
  refine uA ?_
  refine TO.step rfl (OT.bytesStrA tab (s:=s4) rfl rfl rfl rfl rfl rfl rfl hs4 ?_)
  refine uA ?_
  refine TO.step rfl (OT.call rfl rfl rfl rfl rfl rfl goes32 ((atoi_law mB _ cn (by omega) (ebm hE h2B)).x ?_));
  rintro _ m3 _ ⟨hm3,rfl,hN⟩
  have h03:=Mem.le_trans h2B hm3
  rcases hN with ⟨v,hv,rfl⟩ | ⟨hnv,xv,ty,pv,rfl⟩
  ·rcases hC1 with ⟨rfl,k,hk1,hk,rfl,rfl⟩ | ⟨rfl,hk⟩
   ·rcases hC2 with ⟨rfl,jj,hj1,hj,rfl,rfl⟩ | ⟨rfl,hj⟩
    ·refine uA ?_
     refine TO.step rfl (OT.errNe tab rfl rfl rfl rfl (.inl rfl) rfl rfl ?_)
     refine uA ?_
     by_cases hv0 : v < 0
     ·have hng:=neg_of_num hfol hz hk hj (.inr ⟨v,hv, .inl hv0⟩)
      rw [show decide (v < 0)=true from decide_eq_true hv0]
      refine uA ?_
      refine retQ_ret rfl (L':=L) uS ⟨h03,rfl, .inr ⟨hng,rfl⟩⟩
     ·rw [show decide (v < 0)=false from decide_eq_false hv0]
      refine uA ?_
      have hs2l:=hs2.len
      by_cases hv1 : (s2.len : Int) < v
      ·have hng:=neg_of_num hfol hz hk hj (.inr ⟨v,hv, .inr (.inl (by omega))⟩)
       rw [show decide ((s2.len : Int) < v)=true from decide_eq_true hv1]
       refine uA ?_
       refine retQ_ret rfl (L':=L) uS ⟨h03,rfl, .inr ⟨hng,rfl⟩⟩
      ·rw [show decide ((s2.len : Int) < v)=false from decide_eq_false hv1]
       refine uA ?_
       refine TC.condP rfl (fun h64 => ?_) (fun h64 => ?_)
       ·have hng:=neg_of_num hfol hz hk hj (.inr ⟨v,hv, .inr (.inr (by omega))⟩)
        refine uA ?_
        refine retQ_ret rfl (L':=L) uS ⟨h03,rfl, .inr ⟨hng,rfl⟩⟩
       ·obtain ⟨n,rfl⟩ : ∃ n : Nat,v=(n : Int):=⟨v.toNat,by omega⟩
        have hs33:=hs3.mono hm3
        have hs23:=(hs2.mono hmB).mono hm3
        have hfs3:=hfs.mono (Mem.le_trans hmA (Mem.le_trans hmB hm3))
        have hnx:=hfol.next hz hk hj hv
        have hzl : z.length ≤ 140737488355328:=by omega
        have hw2 : Wide (l++[⟨(z.take k).take jj,(z.drop (k + 1)).take n⟩]):=fun x hx=>by
         rcases List.mem_append.1 hx with hx | hx
         ·exact hwl x hx
         ·rw [List.mem_singleton] at hx
          subst hx
          simp only [List.length_take,List.length_drop]
          omega
        refine uA ?_
        refine TC.draw [] mixed 11 rfl [] (_::L) uP ?_
        refine DO.pure tab uC (by kernel_rfl) [0,1,3,4] (by kernel_rfl) rfl ?_
        refine DO.cutS tab rByte 5 0 n hs23 uC (by kernel_rfl) (by kernel_rfl) rfl rfl rfl rfl rfl rfl rfl rfl rfl (.inl ⟨rfl,rfl⟩) (.inr rfl) (Nat.zero_le _) (by omega) (fun s5 hs5 => ?_)
        rw [List.drop_zero] at hs5
        refine DO.fork 2 [6] (by kernel_rfl) ⟨⟨_,rfl,rfl,rfl, ?_⟩,⟨_,rfl,rfl,rfl, ?_⟩,trivial⟩
        ·refine OT.bytesStrA tab (s:=s3) rfl rfl rfl rfl rfl rfl rfl hs33 ?_
         refine ⟨Mem.le_refl _,_,List.Perm.refl _, ?_⟩
         refine DO.run 6 rfl rfl (by kernel_rfl) rfl ?_
         refine OT.bytesStrA tab (s:=s5) rfl rfl rfl rfl rfl rfl rfl hs5 ?_
         refine ⟨Mem.le_refl _,_,List.Perm.refl _, ?_⟩
         refine DO.pure tab (by repeat (first|exact Calm.ret|refine Calm.then ?_|refine Calm.block ?_)) (by kernel_rfl) [7] (by kernel_rfl) rfl ?_
         refine DO.run 8 rfl rfl (by kernel_rfl) rfl ?_
         refine OT.litR tab rCh (hs:=[⟨(z.take k).take jj,(z.drop (k + 1)).take n⟩]) (l:=[⟨(z.take k).take jj,(z.drop (k + 1)).take n⟩]) ⟨rfl,trivial⟩ rfl rfl rfl rfl rfl (by decide) (fun sC mC hmC hsC hoC hcC=>⟨hmC,_,List.Perm.refl _, ?_⟩)
         refine DO.run 9 rfl rfl (by kernel_rfl) rfl ?_
         refine OT.append tab rCh 0 (hfs3.mono hmC) hfo hsC rfl rfl rfl rfl rfl rfl rfl (by simp only [List.length_append,List.length_cons,List.length_nil];show _ * 32 ≤ _;omega) (fun f4 m4 hm4 hf4 ho4=>⟨hm4,_,List.Perm.refl _, ?_⟩)
         refine DO.pure tab (by repeat (first|exact Calm.ret|refine Calm.then ?_|refine Calm.block ?_)) (by kernel_rfl) [10] (by kernel_rfl) rfl ?_
         refine DO.nil (by kernel_rfl) ?_
         refine uA ?_
         refine TO.step rfl (OT.cut tab rByte n (z.drop (k + 1)).length (hs23.mono (Mem.le_trans hmC hm4)) rfl rfl rfl rfl rfl rfl rfl (.inr rfl) (.inl ⟨rfl,hs2l.symm⟩) (by omega) (Nat.le_refl _) (fun s6 hs6 => ?_))
         rw [List.take_length] at hs6
         refine uA ?_
         refine ⟨⟨m4,f4,l++[⟨(z.take k).take jj,(z.drop (k + 1)).take n⟩],s6,(z.drop (k + 1)).drop n⟩,uH,uH,rfl,rfl,uS,⟨Mem.le_trans h03 (Mem.le_trans hmC hm4),hf4,ho4,hs6,hw2,by rw [List.length_append,List.length_singleton];omega,hnx⟩, ?_⟩
         simp only [List.length_drop]
         omega
        ·refine OT.bytesStrA tab (s:=s5) rfl rfl rfl rfl rfl rfl rfl hs5 ?_
         refine ⟨Mem.le_refl _,_,List.Perm.refl _, ?_⟩
         refine DO.run 2 rfl rfl (by kernel_rfl) rfl ?_
         refine OT.bytesStrA tab (s:=s3) rfl rfl rfl rfl rfl rfl rfl hs33 ?_
         refine ⟨Mem.le_refl _,_,List.Perm.refl _, ?_⟩
         refine DO.pure tab (by repeat (first|exact Calm.ret|refine Calm.then ?_|refine Calm.block ?_)) (by kernel_rfl) [7] (by kernel_rfl) rfl ?_
         refine DO.run 8 rfl rfl (by kernel_rfl) rfl ?_
         refine OT.litR tab rCh (hs:=[⟨(z.take k).take jj,(z.drop (k + 1)).take n⟩]) (l:=[⟨(z.take k).take jj,(z.drop (k + 1)).take n⟩]) ⟨rfl,trivial⟩ rfl rfl rfl rfl rfl (by decide) (fun sC mC hmC hsC hoC hcC=>⟨hmC,_,List.Perm.refl _, ?_⟩)
         refine DO.run 9 rfl rfl (by kernel_rfl) rfl ?_
         refine OT.append tab rCh 0 (hfs3.mono hmC) hfo hsC rfl rfl rfl rfl rfl rfl rfl (by simp only [List.length_append,List.length_cons,List.length_nil];show _ * 32 ≤ _;omega) (fun f4 m4 hm4 hf4 ho4=>⟨hm4,_,List.Perm.refl _, ?_⟩)
         refine DO.pure tab (by repeat (first|exact Calm.ret|refine Calm.then ?_|refine Calm.block ?_)) (by kernel_rfl) [10] (by kernel_rfl) rfl ?_
         refine DO.nil (by kernel_rfl) ?_
         refine uA ?_
         refine TO.step rfl (OT.cut tab rByte n (z.drop (k + 1)).length (hs23.mono (Mem.le_trans hmC hm4)) rfl rfl rfl rfl rfl rfl rfl (.inr rfl) (.inl ⟨rfl,hs2l.symm⟩) (by omega) (Nat.le_refl _) (fun s6 hs6 => ?_))
         rw [List.take_length] at hs6
         refine uA ?_
         refine ⟨⟨m4,f4,l++[⟨(z.take k).take jj,(z.drop (k + 1)).take n⟩],s6,(z.drop (k + 1)).drop n⟩,uH,uH,rfl,rfl,uS,⟨Mem.le_trans h03 (Mem.le_trans hmC hm4),hf4,ho4,hs6,hw2,by rw [List.length_append,List.length_singleton];omega,hnx⟩, ?_⟩
         simp only [List.length_drop]
         omega
    ·have hng:=neg_of_cut hfol hz hk hj
     refine uA ?_
     refine retQ_ret rfl (L':=L) uS ⟨h03,rfl, .inr ⟨hng,rfl⟩⟩
   ·have hng:=neg_of_idx hfol hz hk
    refine uA ?_
    refine retQ_ret rfl (L':=L) uS ⟨h03,rfl, .inr ⟨hng,rfl⟩⟩
  ·rcases hC1 with ⟨rfl,k,hk1,hk,rfl,rfl⟩ | ⟨rfl,hk⟩
   ·rcases hC2 with ⟨rfl,jj,hj1,hj,rfl,rfl⟩ | ⟨rfl,hj⟩
    ·have hng:=neg_of_num hfol hz hk hj (.inl hnv)
     refine uA ?_
     refine TO.step rfl (OT.errNe tab rfl rfl rfl rfl (.inr ⟨_,_,rfl⟩) rfl rfl ?_)
     refine uA ?_
     refine retQ_ret rfl (L':=L) uS ⟨h03,rfl, .inr ⟨hng,rfl⟩⟩
    ·have hng:=neg_of_cut hfol hz hk hj
     refine uA ?_
     refine retQ_ret rfl (L':=L) uS ⟨h03,rfl, .inr ⟨hng,rfl⟩⟩
   ·have hng:=neg_of_idx hfol hz hk
    refine uA ?_
    refine retQ_ret rfl (L':=L) uS ⟨h03,rfl, .inr ⟨hng,rfl⟩⟩
 ·have hz : z=[]:=List.eq_nil_of_length_eq_zero (by omega)
  subst hz
  refine uA ?_
  refine TO.step rfl (OT.call rfl rfl rfl rfl rfl rfl goes9 ((pack_law fs l m2 _ hfs hwl (tbm hT hm2)).x ?_));
  rintro r3 m3 _ ⟨hm3,rfl,hR⟩
  have h03:=Mem.le_trans hm2 hm3
  rcases hR with ⟨h0,rfl⟩ | ⟨h0,t,rfl,ht⟩
  ·refine uA ?_
   rw [show (!decide (errD l=0))=true by simp [h0]]
   have hng : ∀ ys,errD ys=0→ordF ys=ys→b ≠ packD ys:=fun ys h1 h2 h3=>h0 (by rw [hfol.done ys h1 h2 h3];exact h1)
   refine uA ?_
   refine retQ_ret rfl (L':=L) uS ⟨h03,rfl, .inr ⟨hng,rfl⟩⟩
  ·refine uA ?_
   refine TO.step rfl (OT.call rfl rfl rfl rfl rfl rfl goes33 ((bequal_law m3 _ t s _ b ht (hs.mono h03)).x ?_));
   rintro _ _ _ ⟨rfl,rfl,rfl⟩
   have hpo:=ordF_perm l
   have hoo : ordF (ordF l)=ordF l:=by
    obtain ⟨-,hnam, -⟩:=openOk h0
    exact (sorted_ord (List.Perm.refl _) (ordF_sorted l hnam)).symm
   by_cases he : packD (ordF l)=b
   ·rw [show decide (packD (ordF l)=b)=true from decide_eq_true he]
    have hlo : l=ordF l:=hfol.done (ordF l) (by rw [errD_perm hpo];exact h0) hoo he.symm
    refine uA ?_
    refine retQ_ret rfl (L':=L) uS ⟨h03,rfl, .inl ⟨l,fs,h0,hlo.symm,by rw [← he,← hlo],hfs.mono hm3,rfl⟩⟩
   ·rw [show decide (packD (ordF l)=b)=false from decide_eq_false he]
    have hng : ∀ ys,errD ys=0→ordF ys=ys→b ≠ packD ys:=fun ys h1 h2 h3=>he (by rw [hfol.done ys h1 h2 h3,h2];exact h3.symm)
    refine uA ?_
    refine retQ_ret rfl (L':=L) uS ⟨h03,rfl, .inr ⟨hng,rfl⟩⟩
end Go.Sep
set_option linter.unusedVariables false
set_option linter.unusedSimpArgs false
namespace Go.Sep
open Go.Proofs
attribute [local irreducible] TC TO OT TCallX TCall DO DOt thenQ blockQ retQ At
theorem OT.geqS {P : Program} {N : Nat} {ρ : Env} {D : List Deferred} {m : Mem} {L : List Item} {Q : EPost} {o : Oper} {K : Env→Mem→List Item→Prop} {t t' : TypeId} {x y : Operand} {a b : Str} {d : Nat} (ho : o.op = .binOp .geq t x y t') (hd : o.dst=some d) (hN : Nat.blt d N=true)
  (hx : ev ρ x=some (strV a)) (hy : ev ρ y=some (strV b)) (hK : K ((d, .bool (!Op.bytesLess a b)) :: ρ) m L) : OT P N o ρ D m L Q K:=by
 refine OT.run hd hN (fun ac w ha=>⟨w, ?_,ha.st⟩) hK
 simp only [execOp,ho,ha.env.eval hx,ha.env.eval hy,Sem.run_bind,eqGuard,binOp,Op.stringOp]
 simp [strV]
def rotC (l : List Ch) (k : Nat) : List Ch:=l.drop (k % l.length)++l.take (k % l.length)
theorem rotC_perm (l : List Ch) (k : Nat) : (rotC l k).Perm l:=by
 unfold rotC
 have h:=List.take_append_drop (k % l.length) l
 exact List.perm_append_comm.trans (by rw [h])
theorem rotC_get (l : List Ch) (k i : Nat) (hi : i < l.length) : (rotC l k)[i]? = l[(i + k) % l.length]?:=by
 have h0 : 0 < l.length:=by omega
 have hr:=Nat.mod_lt k h0
 unfold rotC
 have e : (i + k) % l.length=(i + k % l.length) % l.length:=by rw [Nat.add_mod_mod]
 rw [e]
 by_cases h : i < l.length - k % l.length
 ·have e1 : (i + k % l.length) % l.length=i + k % l.length:=Nat.mod_eq_of_lt (by omega)
  rw [List.getElem?_append_left (by rw [List.length_drop];omega),List.getElem?_drop,e1]
  congr 1;omega
 ·have e2 : (i + k % l.length) % l.length=i + k % l.length - l.length:=by
   rw [Nat.mod_eq_sub_mod (by omega),Nat.mod_eq_of_lt (by omega)]
  rw [List.getElem?_append_right (by rw [List.length_drop];omega),List.length_drop,List.getElem?_take_of_lt (by omega),e2]
  congr 1;omega
theorem ordF_eq {a b : List Ch} (h : a.Perm b) (hn : Nam b) : ordF a=ordF b :=
 sorted_uniq (ordF_sorted a ((Nam.perm h).2 hn)) (ordF_sorted b hn) ((ordF_perm a).trans (h.trans (ordF_perm b).symm))
theorem and_match (n1 t1 n2 t2 : Str) : ((match decide (n1=n2) with | false=>false | true=>decide (t1=t2) && true)=true) ↔ (⟨n2,t2⟩ : Ch) = ⟨n1,t1⟩:=by
 by_cases h1 : n1=n2
 ·subst h1
  by_cases h2 : t1=t2
  ·subst h2;simp
  ·simp [h2,Ne.symm h2]
 ·simp [h1,Ne.symm h1]
structure BbS where
 m : Mem
 s : Sl
 k : Nat
set_option maxHeartbeats 4000000 in
theorem bundleBack_walk (s : Sl) (l : List Ch) (z : Nat) (m : Mem) (L : List Item) (hs : SlRep rCh m s l) (hw : Wide l) (hz : z < 256) (hT : Tb m) (hE : Eb m) : TCall Tryz.prog 7 ⟨[s.v, .int .u8 (z : Int)]⟩ m L (Made m L fun r _=>r = .bool true):=by
 have hsl:=hs.len
 unfold TCall
 refine TCallX.enter Tryz.func7 rfl 154 rfl ?_
 refine uA ?_
 refine TO.step rfl (OT.call rfl rfl rfl rfl rfl rfl goes9 ((pack_law s l m L hs hw hT).x ?_));
 rintro r1 m1 _ ⟨hm1,rfl,hR⟩
 by_cases h0 : errD l=0
 ·rcases hR with ⟨h, -⟩ | ⟨-,t,rfl,ht⟩
  ·exact absurd h0 h
  refine uA ?_
  refine TO.step rfl (OT.call rfl rfl rfl rfl rfl rfl goes10 ((join_law s l m1 _ (hs.mono hm1) hw).x ?_));
  rintro _ m2 _ ⟨hm2,rfl,rfl⟩
  rw [show joinX l=joinD (ordF l) from if_pos h0,h0]
  refine uA ?_
  refine TO.step rfl (OT.call rfl rfl rfl rfl rfl rfl goes12 ((awake_law m2 _).x ?_));
  rintro _ m3 _ ⟨hm3,rfl,rfl⟩
  have h03:=Mem.le_trans hm1 (Mem.le_trans hm2 hm3)
  have ht3:=ht.mono (Mem.le_trans hm2 hm3)
  obtain ⟨hl64,hnam,hsum⟩:=openOk h0
  refine uA ?_
  refine TO.step rfl (OT.litR tab rCh (hs:=[]) (l:=[]) trivial rfl rfl rfl rfl rfl (by decide) (fun sA mA hmA hsA hoA hcA => ?_))
  refine TO.tokFo hcA hoA 2 ?_
  refine uA ?_
  have h0A:=Mem.le_trans h03 hmA
  refine TC.loopK (ι:=BbS) [0,1,5,7] rfl (fun x=>[(10, .int .i64 (x.k : Int)),(9,x.s.v)]) (fun x=>x.m) (fun x=>tok x.s 2 :: L) (fun x=>mA ≤ x.m∧x.k ≤ l.length∧SlRep rCh x.m x.s ((rotC l z).take x.k)∧Own x.s) (fun x=>l.length - x.k) ⟨mA,sA,0⟩ uH rfl uS ⟨Mem.le_refl _,Nat.zero_le _,hsA,hoA⟩ ?_
  rintro ⟨m4,u,k⟩ ⟨hm4,hk,hu,huo⟩
  simp only at hm4 hk hu huo
  show TC _ _ _ ((10, .int .i64 (k : Int)) :: (9,u.v) :: _) _ m4 (tok u 2 :: L) _
  have h04:=Mem.le_trans h0A hm4
  refine uA ?_
  refine TC.condP rfl (fun h5 => ?_) (fun h5 => ?_)
  ·have hlt : k < l.length:=by omega
   have hmod : (k + z) % l.length < l.length:=Nat.mod_lt _ (by omega)
   have hxj : l[(k + z) % l.length]? = some l[(k + z) % l.length]:=by simp [hmod]
   have hrg:=rotC_get l z k hlt
   have hrl : (rotC l z).length=l.length:=(rotC_perm l z).length_eq
   have hlr : k < (rotC l z).length:=by omega
   have htk : (rotC l z).take (k + 1)=(rotC l z).take k++[l[(k + z) % l.length]]:=by
    rw [List.take_succ_eq_append_getElem hlr]
    congr 2
    rw [List.getElem?_eq_getElem hlr,hxj] at hrg
    injection hrg
   have hs4:=hs.mono h04
   refine uA ?_
   refine TO.step rfl (OT.conv (r:=(z : Int)) tab rfl rfl rfl rfl rfl rfl (wrap64_in (by omega) (by omega)) ?_)
   refine TO.step rfl (OT.arith (r':=((k + z : Nat) : Int)) rfl rfl rfl rfl rfl rfl (by omega) (by omega) ?_)
   refine uA ?_
   refine TO.step rfl (OT.remK (r:=(((k + z) % l.length : Nat) : Int)) rfl rfl rfl rfl rfl (show ((s.len : Nat) : Int) ≠ 0 by omega) (tmod_len hsl) ?_)
   refine uA ?_
   generalize (k + z) % l.length=jj at hmod hxj htk
   refine TO.step rfl (OT.index tab rCh jj hs4 rfl rfl rfl rfl rfl (by first | rfl | omega | (simp only;omega)) rfl hxj ?_)
   rintro b' i' f9 hr9 hA9
   obtain rfl : f9=l[jj]:=hr9
   (refine TO.step rfl (OT.loadA0 tab hA9 rfl rfl rfl rfl rfl ?_))
   refine TO.step rfl (OT.litR tab rCh (hs:=[l[jj]]) (l:=[l[jj]]) ⟨rfl,trivial⟩ rfl rfl rfl rfl rfl (by decide) (fun sB m6 hm6 hsB _ _ => ?_))
   refine TO.step rfl (OT.append tab rCh 0 (hu.mono hm6) huo hsB rfl rfl rfl rfl rfl rfl rfl (by simp only [List.length_append,List.length_cons,List.length_nil,List.length_take];show _ * 32 ≤ _;omega) (fun s' m7 hm7 hs' ho' => ?_))
   refine uA ?_
   refine TO.step rfl (OT.arith (r':=((k + 1 : Nat) : Int)) rfl rfl rfl rfl rfl rfl rfl (by omega) ?_)
   refine uA ?_
   exact ⟨⟨m7,s',k + 1⟩,uH,uH,rfl,rfl,uS,⟨Mem.le_trans hm4 (Mem.le_trans hm6 hm7),by show k + 1 ≤ _;omega,by
    show SlRep rCh m7 s' ((rotC l z).take (k + 1))
    rw [htk];exact hs',ho'⟩,by show l.length - (k + 1) < l.length - k;omega⟩
  ·have hke : k=l.length:=by omega
   have hrp:=rotC_perm l z
   rw [List.take_of_length_le (by rw [hrp.length_eq];omega)] at hu
   have her : errD (rotC l z)=0:=by rw [errD_perm hrp];exact h0
   have hor : ordF (rotC l z)=ordF l:=ordF_eq hrp hnam
   have hwr : Wide (rotC l z):=fun x hx=>hw x (hrp.mem_iff.1 hx)
   have hpo:=ordF_perm l
   have heo : errD (ordF l)=0:=by rw [errD_perm hpo];exact h0
   have hoo : ordF (ordF l)=ordF l:=(sorted_ord (List.Perm.refl _) (ordF_sorted l hnam)).symm
   have hwo : Wide (ordF l):=fun x hx=>hw x (hpo.mem_iff.1 hx)
   refine uA ?_
   refine TO.step rfl (OT.call rfl rfl rfl rfl rfl rfl goes9 ((pack_law u (rotC l z) m4 _ hu hwr (tbm hT h04)).x ?_));
   rintro r5 m5 _ ⟨hm5,rfl,hR5⟩
   have h05:=Mem.le_trans h04 hm5
   rcases hR5 with ⟨h, -⟩ | ⟨-,c,rfl,hc⟩
   ·exact absurd her h
   rw [hor] at hc
   refine uA ?_
   refine TO.step rfl (OT.call rfl rfl rfl rfl rfl rfl goes18 ((unpack_law c _ m5 _ hc (tbm hT h05) (ebm hE h05)).x ?_));
   rintro r6 m6 _ ⟨hm6,rfl,hR6⟩
   have h06:=Mem.le_trans h05 hm6
   rcases hR6 with ⟨ys,f,hye,hyo,hyp,hf,rfl⟩ | ⟨hno, -⟩
   rotate_left
   ·exact absurd rfl (hno (ordF l) heo hoo)
   obtain rfl:=pack_uniq (errD_sound heo) (errD_sound hye) hyp
   refine uA ?_
   refine TO.step rfl (OT.call rfl rfl rfl rfl rfl rfl goes10 ((join_law f (ordF l) m6 _ hf hwo).x ?_));
   rintro _ m7 _ ⟨hm7,rfl,rfl⟩
   rw [show joinX (ordF l)=joinD (ordF l) from by rw [joinX,if_pos heo,hoo],heo]
   have h07:=Mem.le_trans h06 hm7
   have ht7:=ht3.mono (Mem.le_trans hmA (Mem.le_trans hm4 (Mem.le_trans hm5 (Mem.le_trans hm6 hm7))))
   have hc7:=hc.mono (Mem.le_trans hm6 hm7)
   have hf7:=hf.mono hm7
   have hs7:=hs.mono h07
   have hfl:=hf7.len
   have hol:=hpo.length_eq
   refine uA ?_
   refine TO.step rfl (OT.bytesStrA tab (s:=t) rfl rfl rfl rfl rfl rfl rfl ht7 ?_)
   refine uA ?_
   refine TO.step rfl (OT.bytesStrA tab (s:=c) rfl rfl rfl rfl rfl rfl rfl hc7 ?_)
   refine uA ?_
   rw [show (!decide (packD (ordF l)=packD (ordF l)))=false by simp]
   refine uA ?_
   rw [show (!decide (joinD (ordF l)=joinD (ordF l)))=false by simp]
   refine uA ?_
   rw [show (!decide ((f.len : Int)=(s.len : Int)))=false by simp;omega]
   refine uA ?_
   have hsrt:=ordF_sorted l hnam
   obtain ⟨ys,hys⟩ : ∃ ys,ys=ordF l:=⟨_,rfl⟩
   rw [← hys] at hf7 hfl hol hsrt hpo
   have hy64 : ys.length ≤ 64:=by omega
   refine TC.loopK (ι:=Nat) [0,13] rfl (fun i=>[(17, .int .i64 (i : Int))]) (fun _=>m7) (fun _=>L) (fun i=>i ≤ ys.length) (fun i=>ys.length - i) 0 uH rfl uS (Nat.zero_le _) ?_
   rintro i hi
   refine uA ?_
   refine TC.condP rfl (fun h8 => ?_) (fun h8 => ?_)
   ·have hil : i < ys.length:=by omega
    have hxi : ys[i]? = some ys[i]:=List.getElem?_eq_getElem hil
    refine uA ?_
    refine TC.loopK (ι:=Nat × Bool) [0,13,17] rfl (fun x=>[(19, .int .i64 (x.1 : Int)),(18, .bool x.2)]) (fun _=>m7) (fun _=>L) (fun x=>x.1 ≤ l.length∧(x.2=true ↔ ys[i] ∈ l.take x.1)) (fun x=>l.length - x.1) (0,false) uH rfl uS ⟨Nat.zero_le _,by simp⟩ ?_
    rintro ⟨j,fd⟩ ⟨hj,hfd⟩
    simp only at hj hfd
    show TC _ _ _ ((19, .int .i64 (j : Int)) :: (18, .bool fd) :: _) _ m7 L _
    refine uA ?_
    refine TC.condP rfl (fun h9 => ?_) (fun h9 => ?_)
    ·have hjl : j < l.length:=by omega
     have hxj : l[j]? = some l[j]:=List.getElem?_eq_getElem hjl
     have htk : l.take (j + 1)=l.take j++[l[j]]:=List.take_succ_eq_append_getElem hjl
     refine uA ?_
     cases fd with
     | true =>
      have hin : ys[i] ∈ l.take (j + 1):=by rw [htk];exact List.mem_append_left _ (hfd.1 rfl)
      refine TC.draw0 [] mixed 13 rfl ?_
      refine DO.pure tab uC (by kernel_rfl) [0,1,2,3,4,5,6,7,8,9,10,11,12] (by kernel_rfl) rfl ?_
      (refine DO.nil0 (by kernel_rfl) ?_)
      rotate_left 1
      refine uA ?_
      refine TO.step rfl (OT.arith (r':=((j + 1 : Nat) : Int)) rfl rfl rfl rfl rfl rfl rfl (by omega) ?_)
      refine uA ?_
      exact ⟨(j + 1,true),uH,uH,rfl,rfl,uS,⟨hjl,⟨fun _=>hin,fun _=>rfl⟩⟩,by show l.length - (j + 1) < l.length - j;omega⟩
     | false =>
      refine TC.draw0 [] mixed 13 rfl ?_
      refine DO.pure tab uC (by kernel_rfl) [0,1,2,3] (by kernel_rfl) rfl ?_
      refine DO.index tab rCh 4 j hs7 uC (by kernel_rfl) (by kernel_rfl) rfl rfl rfl rfl rfl rfl rfl (by first | rfl | omega) rfl hxj ?_
      rintro b1 i1 f1 hr1 hA1;obtain rfl : f1=l[j]:=hr1
      (refine DO.loadA (k:=0) tab 5 hA1 uC (by kernel_rfl) (by kernel_rfl) rfl rfl rfl rfl rfl rfl rfl ?_)
      refine DO.pure tab uC (by kernel_rfl) [6,7] (by kernel_rfl) rfl ?_
      refine DO.index tab rCh 8 i hf7 uC (by kernel_rfl) (by kernel_rfl) rfl rfl rfl rfl rfl rfl rfl (by first | rfl | omega) rfl hxi ?_
      rintro b2 i2 f2 hr2 hA2;obtain rfl : f2=ys[i]:=hr2
      (refine DO.loadA (k:=0) tab 9 hA2 uC (by kernel_rfl) (by kernel_rfl) rfl rfl rfl rfl rfl rfl rfl ?_)
      refine DO.run 10 rfl rfl (by kernel_rfl) rfl ?_;refine OT.eqS tab rfl rfl rfl rfl rfl rfl (by kernel_rfl) (by kernel_rfl) rfl ?_;refine ⟨Mem.le_refl _,_,List.Perm.refl _, ?_⟩
      refine DO.pure tab uC (by kernel_rfl) [11,12] (by kernel_rfl) rfl ?_
      (refine DO.nil0 (by kernel_rfl) ?_)
      rotate_left 1
      refine uA ?_
      refine TO.step rfl (OT.arith (r':=((j + 1 : Nat) : Int)) rfl rfl rfl rfl rfl rfl rfl (by omega) ?_)
      refine uA ?_
      refine ⟨(j + 1,_),uH,uH,rfl,rfl,uS,⟨hjl, ?_⟩,by show l.length - (j + 1) < l.length - j;omega⟩
      have hno : ys[i] ∉ l.take j:=fun h=>by have:=hfd.2 h;cases this
      rw [htk,List.mem_append,List.mem_singleton]
      simp only [hno,false_or]
      cases ha : l[j]
      cases hb : ys[i]
      exact and_match _ _ _ _
    ·have hjl : j=l.length:=by omega
     rw [List.take_of_length_le (by omega)] at hfd
     have hfd2 : fd=true:=hfd.2 (hpo.mem_iff.1 (List.getElem_mem hil))
     subst hfd2
     obtain ⟨ip,hip⟩ : ∃ ip,ip=i - 1:=⟨_,rfl⟩
     have hipl : ip < ys.length:=by omega
     have hxp : ys[ip]? = some ys[ip]:=List.getElem?_eq_getElem hipl
     refine uA ?_
     refine TC.draw0 [] mixed 20 rfl ?_
     refine DO.pure tab uC (by kernel_rfl) [0,1,2,3,4,5] (by kernel_rfl) rfl ?_
     (refine DO.splitP (d:=139) rfl (fun hg5 => ?_) (fun hg5 => ?_))
     refine DO.pure tab uC (by kernel_rfl) [6,7] (by kernel_rfl) rfl ?_
     refine DO.arith 8 (r':=(ip : Int)) uC (by kernel_rfl) (by kernel_rfl) rfl rfl rfl rfl rfl rfl rfl rfl (by first | rfl | omega | (simp only;omega)) (by omega) ?_
     refine DO.index tab rCh 9 ip hf7 uC (by kernel_rfl) (by kernel_rfl) rfl rfl rfl rfl rfl rfl rfl (by first | rfl | omega) rfl hxp ?_
     rintro b1 i1 f1 hr1 hA1;obtain rfl : f1=ys[ip]:=hr1
     refine DO.pure tab uC (by kernel_rfl) [10] (by kernel_rfl) rfl ?_
     (refine DO.loadA tab 11 hA1 uC (by kernel_rfl) (by kernel_rfl) rfl rfl rfl rfl rfl rfl rfl ?_)
     refine DO.pure tab uC (by kernel_rfl) [12,13] (by kernel_rfl) rfl ?_
     refine DO.index tab rCh 14 i hf7 uC (by kernel_rfl) (by kernel_rfl) rfl rfl rfl rfl rfl rfl rfl (by first | rfl | omega) rfl hxi ?_
     rintro b2 i2 f2 hr2 hA2;obtain rfl : f2=ys[i]:=hr2
     refine DO.pure tab uC (by kernel_rfl) [15] (by kernel_rfl) rfl ?_
     (refine DO.loadA tab 16 hA2 uC (by kernel_rfl) (by kernel_rfl) rfl rfl rfl rfl rfl rfl rfl ?_)
     refine DO.run 17 rfl rfl (by kernel_rfl) rfl ?_;refine OT.geqS rfl rfl rfl rfl rfl ?_;refine ⟨Mem.le_refl _,_,List.Perm.refl _, ?_⟩
     refine DO.pure tab uC (by kernel_rfl) [18,19] (by kernel_rfl) rfl ?_
     (refine DO.nil0 (by kernel_rfl) ?_)
     rotate_left 1
     refine DO.pure tab uC (by kernel_rfl) [6,7,8,9,10,11,12,13,14,15,16,17,18,19] (by kernel_rfl) rfl ?_
     (refine DO.nil0 (by kernel_rfl) ?_)
     rotate_left 1
     ·have hb : Op.bytesLess (ys[ip]).nm (ys[i]).nm=true:=(List.pairwise_iff_getElem.1 hsrt) ip i hipl hil (by omega)
      rw [hb]
      refine uA ?_
      refine TO.step rfl (OT.arith (r':=((i + 1 : Nat) : Int)) rfl rfl rfl rfl rfl rfl rfl (by omega) ?_)
      refine uA ?_
      exact ⟨i + 1,uH,uH,rfl,rfl,uS,hil,by show ys.length - (i + 1) < ys.length - i;omega⟩
     ·refine uA ?_
      refine TO.step rfl (OT.arith (r':=((i + 1 : Nat) : Int)) rfl rfl rfl rfl rfl rfl rfl (by omega) ?_)
      refine uA ?_
      exact ⟨i + 1,uH,uH,rfl,rfl,uS,hil,by show ys.length - (i + 1) < ys.length - i;omega⟩
   ·have hie : i=ys.length:=by omega
    refine uA ?_
    refine retQ_ret rfl (L':=L) uS ⟨h07,rfl,rfl⟩
 ·rcases hR with ⟨-,rfl⟩ | ⟨h, -⟩
  ·refine uA ?_
   refine TO.step rfl (OT.call rfl rfl rfl rfl rfl rfl goes10 ((join_law s l m1 _ (hs.mono hm1) hw).x ?_));
   rintro _ m2 _ ⟨hm2,rfl,rfl⟩
   rw [show joinX l=[] from if_neg h0]
   refine uA ?_
   refine TO.step rfl (OT.call rfl rfl rfl rfl rfl rfl goes12 ((awake_law m2 _).x ?_));
   rintro _ m3 _ ⟨hm3,rfl,rfl⟩
   obtain ⟨E,hE2⟩ : ∃ E,E=errD l:=⟨_,rfl⟩
   rw [← hE2] at h0 ⊢
   refine uA ?_
   rw [show (!decide (E=0))=true by simp [h0]]
   refine uA ?_
   refine TO.step rfl (OT.call rfl rfl rfl rfl rfl rfl goes12 ((awake_law m3 _).x ?_));
   rintro _ m4 _ ⟨hm4,rfl,rfl⟩
   refine uA ?_
   refine retQ_ret rfl (L':=L) uS ⟨Mem.le_trans hm1 (Mem.le_trans hm2 (Mem.le_trans hm3 hm4)),rfl, ?_⟩
   simp
  ·exact absurd h h0
end Go.Sep
set_option linter.unusedVariables false
set_option linter.unusedSimpArgs false
namespace Go.Sep
open Go.Proofs
attribute [local irreducible] TC TO OT TCallX TCall DO DOt thenQ blockQ retQ At
structure UrS where
 m : Mem
 fs : Sl
 l : List Ch
 a : Nat
structure UdS where
 j : Nat
 n : Nat
theorem one_byte {b : Str} {i : Nat} {c : UInt8} (h : b[i]? = some c) : (b.take (i + 1)).drop i=[c]:=by
 have hi:=(List.getElem?_eq_some_iff.1 h).1
 rw [List.take_add_one,h,List.drop_append_of_le_length (by rw [List.length_take];omega),List.drop_of_length_le (by rw [List.length_take];omega)]
 rfl
theorem drop_next {b : Str} {a k : Nat} {c : UInt8} (h : b[a + k]? = some c) : (b.drop a).take (k + 1)=(b.drop a).take k++[c]:=by
 rw [List.take_add_one,List.getElem?_drop,h]
 rfl
theorem name_in {z : Str} {y : Ch} {r : List Ch} (h1 : isName y.nm=true) (hz : z=packD (y :: r)) {k : Nat} (hf : (32 : UInt8) ∉ z.take k) : k ≤ y.nm.length:=by
 rcases Nat.lt_or_ge y.nm.length k with h | h
 ·exfalso
  apply hf
  have hz2 : z=y.nm++32 :: (Pt.digN y.tx.length++10 :: (y.tx++packD r)):=by rw [hz];simp [packD,packF]
  rw [hz2,List.take_append]
  refine List.mem_append_right _ ?_
  rw [show k - y.nm.length=(k - y.nm.length - 1) + 1 by omega,List.take_succ_cons]
  exact List.mem_cons_self
 ·exact h
theorem name_end {z : Str} {y : Ch} {r : List Ch} (h1 : isName y.nm=true) (hz : z=packD (y :: r)) {k : Nat} (hk : k ≤ y.nm.length) (he : z.length ≤ k ∨ z[k]? = some 32 ∨ z[k]? = some 10) : k=y.nm.length:=by
 rcases Nat.lt_or_ge k y.nm.length with h | h
 ·exfalso
  have hz2 : z=y.nm++32 :: (Pt.digN y.tx.length++10 :: (y.tx++packD r)):=by rw [hz];simp [packD,packF]
  obtain ⟨n1,n2⟩:=name_sep h1
  have hg : z[k]? = some y.nm[k]:=by rw [hz2,List.getElem?_append_left h,List.getElem?_eq_getElem h]
  rcases he with he | he | he
  ·rw [List.getElem?_eq_none he] at hg;cases hg
  ·rw [hg] at he
   exact n2 (by rw [← Option.some.inj he];exact List.getElem_mem h)
  ·rw [hg] at he
   exact n1 (by rw [← Option.some.inj he];exact List.getElem_mem h)
 ·omega
theorem digN_short {n : Nat} (h : n ≤ 65536) : (Pt.digN n).length ≤ 5:=by
 have h2 : ∀ g f m,f ≤ g→m < 10 ^ f→0 < f→(Pt.digF g m).length ≤ f:=by
  intro g
  induction g with
  | zero=>intro f m h3 _ h5;omega
  | succ g ih =>
   intro f m h3 h4 h5
   rw [Pt.digF]
   split
   ·simp;omega
   ·rename_i h6
    have hf : 1 < f:=by
     rcases Nat.lt_or_ge 1 f with h7 | h7
     ·exact h7
     ·have : f=1:=by omega
      subst this;simp at h4;omega
    have:=ih (f - 1) (m / 10) (by omega) (by
     have : 10 ^ f=10 ^ (f - 1) * 10:=by rw [← Nat.pow_succ];congr 1;omega
     omega) (by omega)
    rw [List.length_append,List.length_singleton]
    omega
 exact h2 20 5 n (by omega) (by omega) (by omega)
theorem dig_end {w : Str} {n : Nat} {q : Str} (hn : n ≤ 65536) (hw : w=Pt.digN n++10 :: q) {j : Nat} (hj : j ≤ w.length) (hd : ∀ c ∈ w.take j,48 ≤ c.toNat∧c.toNat ≤ 57) (he : w.length ≤ j ∨ (∃ c,w[j]? = some c ∧ ¬ (48 ≤ c.toNat∧c.toNat ≤ 57)) ∨ 6 ≤ j) : j=(Pt.digN n).length:=by
 have hs:=digN_short hn
 have h1 : j ≤ (Pt.digN n).length:=by
  rcases Nat.lt_or_ge (Pt.digN n).length j with h | h
  ·exfalso
   have hm : (10 : UInt8) ∈ w.take j:=by
    rw [hw,List.take_append]
    refine List.mem_append_right _ ?_
    rw [show j - (Pt.digN n).length=(j - (Pt.digN n).length - 1) + 1 by omega,List.take_succ_cons]
    exact List.mem_cons_self
   have:=hd _ hm
   revert this;decide
  ·exact h
 rcases Nat.lt_or_ge j (Pt.digN n).length with h | h
 ·exfalso
  have hg : w[j]? = some (Pt.digN n)[j]:=by rw [hw,List.getElem?_append_left h,List.getElem?_eq_getElem h]
  have hdg:=digF_dig 20 n _ (List.getElem_mem h)
  rcases he with he | ⟨c,he,hc⟩ | he
  ·rw [List.getElem?_eq_none he] at hg;cases hg
  ·rw [hg] at he
   rw [← Option.some.inj he] at hc
   exact hc hdg
  ·omega
 ·omega
theorem pu_digit {n : Nat} {c : UInt8} (hn : n < 1000000) (h1 : 48 ≤ c.toNat) (h2 : c.toNat ≤ 57) : Lib.parseUint10 n [c] = .ok (n * 10 + (c.toNat - 48)):=by
 simp only [Lib.parseUint10]
 rw [if_pos ⟨h1,h2⟩,if_neg (by omega),if_neg (by omega)]
theorem ref_fol {b : Str} {l : List Ch} {a k j n : Nat} {w : Str} (hfol : Fol b l (b.drop a)) (hz : 0 < (b.drop a).length) (hk : a + k ≤ b.length) (hn32 : (32 : UInt8) ∉ (b.drop a).take k) (hend : b.length ≤ a + k ∨ b[a + k]? = some 32 ∨ b[a + k]? = some 10)
  (hw : w=b.drop (a + k + 1)) (hj : j ≤ w.length) (hdg : ∀ c ∈ w.take j,48 ≤ c.toNat∧c.toNat ≤ 57) (hpn : Lib.parseUint10 0 (w.take j) = .ok n) (hde : w.length ≤ j ∨ (∃ c,w[j]? = some c ∧ ¬ (48 ≤ c.toNat∧c.toNat ≤ 57)) ∨ 6 ≤ j)
  {ys : List Ch} (g1 : errD ys=0) (g2 : ordF ys=ys) (g3 : b=packD ys) :
  ∃ y r,l.length < 64∧ys.take (l.length + 1)=l++[y]∧ys.drop (l.length + 1)=r∧(b.drop a).take k=y.nm∧n=y.tx.length∧w.take j=Pt.digN n∧w.drop j=10 :: (y.tx++packD r):=by
 obtain ⟨y,r,g4,g5,g6,g7,g8,g9⟩:=hfol.head hz g1 g2 g3
 have hz2 : b.drop a=y.nm++32 :: (Pt.digN y.tx.length++10 :: (y.tx++packD r)):=by rw [g7];simp [packD,packF]
 have e1:=name_end g5 g7 (name_in g5 g7 hn32) (by
  rw [List.length_drop,List.getElem?_drop]
  rcases hend with h | h | h
  ·exact .inl (by omega)
  ·exact .inr (.inl h)
  ·exact .inr (.inr h))
 have e2 : (b.drop a).take k=y.nm:=by rw [hz2,e1];simp
 have e3 : w=Pt.digN y.tx.length++10 :: (y.tx++packD r):=by
  have : b.drop (a + k + 1)=(b.drop a).drop (k + 1):=by rw [List.drop_drop];congr 1
  rw [hw,this,hz2,e1,show y.nm++32 :: (Pt.digN y.tx.length++10 :: (y.tx++packD r))=(y.nm++[32])++(Pt.digN y.tx.length++10 :: (y.tx++packD r)) by simp]
  exact List.drop_left' (by simp)
 have e4:=dig_end g6 e3 hj hdg hde
 have e5 : w.take j=Pt.digN y.tx.length:=by rw [e3,e4];simp
 have e6 : n=y.tx.length:=by
  have h1:=pu_dig 20 y.tx.length (by omega) (Nat.lt_of_le_of_lt g6 (by decide)) (by omega)
  rw [e5] at hpn
  exact Lib.NumEnd.ok.inj (hpn.symm.trans h1)
 exact ⟨y,r,g4,g8,g9,e2,e6,by rw [e5,e6],by rw [e3,e4];simp⟩
set_option maxHeartbeats 8000000 in
theorem unpack_ref (s : Sl) (b : Str) (m : Mem) (L : List Item) (hs : SlRep rByte m s b) : TCall Tryz.prog 19 ⟨[s.v]⟩ m L (Made m L fun r m'=>UnpR b r m'):=by
 have hsl:=hs.len
 have hsf : s.len * 1 ≤ 140737488355328:=hs.fit
 unfold TCall
 refine TCallX.enter Tryz.func19 rfl 154 rfl ?_
 refine uA ?_
 refine TO.step rfl (OT.litR tab rCh (hs:=[]) (l:=[]) trivial rfl rfl rfl rfl rfl (by decide) (fun sA mA hmA hsA hoA hcA => ?_))
 refine TO.tokFo hcA hoA 2 ?_
 refine uA ?_
 refine TC.loopK (ι:=UrS) [0] rfl (fun x=>[(5, .int .i64 (x.a : Int)),(4,x.fs.v)]) (fun x=>x.m) (fun x=>tok x.fs 2 :: L) (fun x=>mA ≤ x.m∧SlRep rCh x.m x.fs x.l∧Own x.fs∧x.a ≤ b.length∧Wide x.l∧x.l.length ≤ 65∧Fol b x.l (b.drop x.a)) (fun x=>b.length - x.a) ⟨mA,sA,[],0⟩ uH rfl uS ⟨Mem.le_refl _,hsA,hoA,Nat.zero_le _,(fun _ h=>by cases h),Nat.zero_le _,fun ys h1 h2 h3=>⟨by simp,by simpa using h3⟩⟩ ?_
 rintro ⟨m2,fs,l,a⟩ ⟨hm2,hfs,hfo,ha,hwl,hl65,hfol⟩
 simp only at hm2 hfs hfo ha hwl hl65 hfol
 show TC _ _ _ ((5, .int .i64 (a : Int)) :: (4,fs.v) :: _) _ m2 (tok fs 2 :: L) _
 have h02:=Mem.le_trans hmA hm2
 have hs2:=hs.mono h02
 have hfl:=hfs.len
 refine uA ?_
 refine TC.condP rfl (fun h5 => ?_) (fun h5 => ?_)
 ·have hz : 0 < (b.drop a).length:=by rw [List.length_drop];omega
  refine uA ?_
  refine TO.step rfl (OT.alloc tab rfl rfl rfl rfl (fun b6 => ?_))
  refine uA ?_
  refine uT ?_
  refine TO.nil ?_
  refine thenQ_n ?_
  refine TC.seq ?_
  refine TC.cutT (ι:=Nat) [0,4,6] rfl (fun k=>[(5, .int .i64 ((a + k : Nat) : Int))]) (fun _=>m2) (fun k => .cells b6 0 [strV ((b.drop a).take k),strV []] :: tok fs 2 :: L) (fun k=>a + k ≤ b.length∧k ≤ 64∧(32 : UInt8) ∉ (b.drop a).take k∧(b.length ≤ a + k ∨ b[a + k]? = some 32 ∨ b[a + k]? = some 10)) ?_ (fun k hkk => ?_)
  ·refine TC.block ?_
   refine TC.loopK (ι:=Nat) [0,4,6] rfl (fun k=>[(5, .int .i64 ((a + k : Nat) : Int))]) (fun _=>m2) (fun k => .cells b6 0 [strV ((b.drop a).take k),strV []] :: tok fs 2 :: L) (fun k=>a + k ≤ b.length∧k ≤ 64∧(32 : UInt8) ∉ (b.drop a).take k) (fun k=>b.length - (a + k)) 0 uH rfl uS ⟨by omega,by omega,by simp⟩ ?_
   rintro k ⟨hk,hk64,hn32⟩
   refine uA ?_
   by_cases hlt : ((a + k : Nat) : Int) < (s.len : Int)
   ·rw [show decide (((a + k : Nat) : Int) < (s.len : Int))=true from decide_eq_true hlt]
    have hkl : a + k < b.length:=by omega
    obtain ⟨c,hc⟩ : ∃ c,b[a + k]? = some c:=⟨b[a + k],by simp [hkl]⟩
    refine uA ?_
    refine TO.step rfl (OT.index tab rByte (a+k) hs2 rfl rfl rfl rfl rfl (by first | rfl | omega | (simp only;omega)) rfl hc ?_)
    rintro b1 i1 f1 hr1 hA1
    obtain rfl : f1=c:=hr1
    (refine TO.step rfl (OT.loadA0 tab hA1 rfl rfl rfl rfl rfl ?_))
    refine uA ?_
    by_cases h32 : (f1.toNat : Int)=32
    ·rw [show (!decide ((f1.toNat : Int)=32))=false by simp [h32]]
     refine uA ?_
     have e : f1=32:=UInt8.toNat_inj.1 (by show f1.toNat=32;omega)
     exact ⟨k,uH,uH,rfl,rfl,uS,hk,hk64,hn32, .inr (.inl (by rw [hc,e]))⟩
    ·rw [show (!decide ((f1.toNat : Int)=32))=true by simp [h32]]
     refine uA ?_
     refine TO.step rfl (OT.index tab rByte (a+k) hs2 rfl rfl rfl rfl rfl (by first | rfl | omega | (simp only;omega)) rfl hc ?_)
     rintro b3 i3 f3 hr3 hA3
     obtain rfl : f3=f1:=hr3
     (refine TO.step rfl (OT.loadA0 tab hA3 rfl rfl rfl rfl rfl ?_))
     refine uA ?_
     refine TC.condN rfl (fun h10 => ?_) (fun h10 => ?_)
     ·have hn : (32 : UInt8) ∉ (b.drop a).take (k + 1):=by
       rw [drop_next hc,List.mem_append,List.mem_singleton]
       rintro (h | h)
       ·exact hn32 h
       ·exact h32 (by rw [← h];rfl)
      have hnl : ((b.drop a).take k).length=k:=by rw [List.length_take,List.length_drop];omega
      refine uA ?_
      refine TC.draw [10] mixed 11 rfl [.cells b6 0 [strV ((b.drop a).take k),strV []]] (tok fs 2 :: L) uP ?_
      refine DO.pure tab uC (by kernel_rfl) [0] (by kernel_rfl) rfl ?_
      (refine DO.loadL tab 1 0 uC (by kernel_rfl) (by kernel_rfl) rfl rfl rfl rfl rfl rfl rfl rfl ?_)
      refine DO.pure tab uC (by kernel_rfl) [2,3,4] (by kernel_rfl) rfl ?_
      refine DO.arith 5 (r':=((a + k + 1 : Nat) : Int)) uC (by kernel_rfl) (by kernel_rfl) rfl rfl rfl rfl rfl rfl rfl rfl (by first | rfl | omega | (simp only;omega)) (by omega) ?_
      refine DO.cutS tab rByte 6 (a + k) (a + k + 1) hs2 uC (by kernel_rfl) (by kernel_rfl) rfl rfl rfl rfl rfl rfl rfl rfl rfl (.inr rfl) (.inr rfl) (by omega) (by omega) (fun s5 hs5 => ?_);rw [one_byte hc] at hs5
      refine DO.run 7 rfl rfl (by kernel_rfl) rfl ?_
      refine OT.bytesStrA tab (s:=s5) rfl rfl rfl rfl rfl rfl rfl hs5 ?_;refine ⟨Mem.le_refl _,_,List.Perm.refl _, ?_⟩
      refine DO.concat 8 uC (by kernel_rfl) (by kernel_rfl) rfl rfl rfl rfl rfl rfl rfl (by simp only [List.length_cons,List.length_nil];omega) ?_;rw [← drop_next hc]
      refine DO.pure tab uC (by kernel_rfl) [9] (by kernel_rfl) rfl ?_
      refine DO.tail ?_
      refine DOt.run 10 rfl rfl (by kernel_rfl) rfl ?_
      refine OT.storeL0 tab 0 rfl rfl rfl rfl rfl rfl rfl rfl ?_
      refine DOt.nil (by kernel_rfl) ?_
      rotate_left 1
      refine uA ?_
      refine TO.step rfl (OT.arith (r':=((a + (k + 1) : Nat) : Int)) rfl rfl rfl rfl rfl rfl (by omega) (by omega) ?_)
      refine uA ?_
      refine uM ?_
      refine uA ?_
      have hnl2 : ((b.drop a).take (k + 1)).length=k + 1:=by rw [List.length_take,List.length_drop];omega
      refine TC.condP rfl (fun h64 => ?_) (fun h64 => ?_)
      ·have hng : ∀ ys,errD ys=0→ordF ys=ys→b ≠ packD ys:=fun ys g1 g2 g3=>by
        obtain ⟨y,r,g4,g5,g6,g7, -⟩:=hfol.head hz g1 g2 g3
        have g8:=name_in g5 g7 hn
        have g9:=name_len g5
        omega
       refine uA ?_
       refine retQ_ret rfl (L':=L) uS ⟨h02,rfl, .inr ⟨hng,rfl⟩⟩
      ·refine uA ?_
       exact ⟨k + 1,uH,uH,rfl,rfl,uS,⟨by omega,by omega,hn⟩,by omega⟩
     ·refine uA ?_
      have e : f3=10:=UInt8.toNat_inj.1 (by show f3.toNat=10;omega)
      exact ⟨k,uH,uH,rfl,rfl,uS,hk,hk64,hn32, .inr (.inr (by rw [hc,e]))⟩
   ·rw [show decide (((a + k : Nat) : Int) < (s.len : Int))=false from decide_eq_false hlt]
    refine uA ?_
    exact ⟨k,uH,uH,rfl,rfl,uS,hk,hk64,hn32, .inl (by omega)⟩
  ·obtain ⟨hk,hk64,hn32,hend⟩:=hkk
   have hnl : ((b.drop a).take k).length=k:=by rw [List.length_take,List.length_drop];omega
   refine uA ?_
   refine TO.step rfl (OT.arith (r':=((a + k + 1 : Nat) : Int)) rfl rfl rfl rfl rfl rfl (by omega) (by omega) ?_)
   refine q4 tab rfl rfl ?_
   refine TO.nil ?_
   refine thenQ_n ?_
   refine TC.seq ?_
   have hwl':=hwl
   obtain ⟨w,hw⟩ : ∃ w,w=b.drop (a + k + 1):=⟨_,rfl⟩
   have hwl : w.length=b.length - (a + k + 1):=by rw [hw,List.length_drop]
   refine TC.cutT (ι:=UdS) [0,4,6] rfl (fun x=>[(5, .int .i64 ((a + k + 1 + x.j : Nat) : Int)),(7, .int .i64 (x.n : Int)),(8,strV (w.take x.j))]) (fun _=>m2) (fun _ => .cells b6 0 [strV ((b.drop a).take k),strV []] :: tok fs 2 :: L)
    (fun x=>x.j ≤ w.length∧x.j ≤ 6∧(∀ c ∈ w.take x.j,48 ≤ c.toNat∧c.toNat ≤ 57)∧Lib.parseUint10 0 (w.take x.j) = .ok x.n∧x.n + 1 ≤ 10 ^ x.j∧(w.length ≤ x.j ∨ (∃ c,w[x.j]? = some c ∧ ¬ (48 ≤ c.toNat∧c.toNat ≤ 57)) ∨ 6 ≤ x.j)) ?_ (fun x hxx => ?_)
   ·refine TC.block ?_
    refine TC.loopK (ι:=UdS) [0,4,6] rfl (fun x=>[(5, .int .i64 ((a + k + 1 + x.j : Nat) : Int)),(7, .int .i64 (x.n : Int)),(8,strV (w.take x.j))]) (fun _=>m2) (fun _ => .cells b6 0 [strV ((b.drop a).take k),strV []] :: tok fs 2 :: L)
     (fun x=>x.j ≤ w.length∧x.j ≤ 6∧(∀ c ∈ w.take x.j,48 ≤ c.toNat∧c.toNat ≤ 57)∧Lib.parseUint10 0 (w.take x.j) = .ok x.n∧x.n + 1 ≤ 10 ^ x.j) (fun x=>w.length - x.j) ⟨0,0⟩ uH rfl uS ⟨Nat.zero_le _,Nat.zero_le _,by simp,rfl,by simp⟩ ?_
    rintro ⟨j,n⟩ ⟨hj,hj6,hdg,hpn,hnb⟩
    simp only at hj hj6 hdg hpn hnb
    show TC _ _ _ ((5, .int .i64 ((a + k + 1 + j : Nat) : Int)) :: (7, .int .i64 (n : Int)) :: (8,strV (w.take j)) :: _) _ m2 _ _
    have hjl : (w.take j).length=j:=by rw [List.length_take];omega
    have hn6 : n < 1000000:=by
     have : 10 ^ j ≤ 10 ^ 6:=Nat.pow_le_pow_right (by omega) hj6
     omega
    refine uA ?_
    by_cases hlt : ((a + k + 1 + j : Nat) : Int) < (s.len : Int)
    ·rw [show decide (((a + k + 1 + j : Nat) : Int) < (s.len : Int))=true from decide_eq_true hlt]
     have hkl : a + k + 1 + j < b.length:=by omega
     obtain ⟨c,hc⟩ : ∃ c,b[a + k + 1 + j]? = some c:=⟨b[a + k + 1 + j],by simp [hkl]⟩
     have hwc : w[j]? = some c:=by rw [hw,List.getElem?_drop];exact hc
     refine uA ?_
     refine TO.step rfl (OT.index tab rByte (a+k+1+j) hs2 rfl rfl rfl rfl rfl (by first | rfl | omega | (simp only;omega)) rfl hc ?_)
     rintro b1 i1 f1 hr1 hA1
     obtain rfl : f1=c:=hr1
     (refine TO.step rfl (OT.loadA0 tab hA1 rfl rfl rfl rfl rfl ?_))
     refine uA ?_
     by_cases h48 : (48 : Int) ≤ (f1.toNat : Int)
     ·rw [show decide ((48 : Int) ≤ (f1.toNat : Int))=true from decide_eq_true h48]
      refine uA ?_
      refine TO.step rfl (OT.index tab rByte (a+k+1+j) hs2 rfl rfl rfl rfl rfl (by first | rfl | omega | (simp only;omega)) rfl hc ?_)
      rintro b3 i3 f3 hr3 hA3
      obtain rfl : f3=f1:=hr3
      (refine TO.step rfl (OT.loadA0 tab hA3 rfl rfl rfl rfl rfl ?_))
      refine uA ?_
      by_cases h57 : (f3.toNat : Int) ≤ 57
      ·rw [show decide ((f3.toNat : Int) ≤ 57)=true from decide_eq_true h57]
       refine uA ?_
       refine TC.condP rfl (fun h6 => ?_) (fun h6 => ?_)
       ·have hd9 : f3.toNat - 48 < 10:=by omega
        have htk : w.take (j + 1)=w.take j++[f3]:=by rw [List.take_add_one,hwc];rfl
        have hpn2 : Lib.parseUint10 0 (w.take (j + 1)) = .ok (n * 10 + (f3.toNat - 48)):=by
         rw [htk,pu_app _ _ _ _ hpn]
         exact pu_digit hn6 (by omega) (by omega)
        have hdg2 : ∀ c ∈ w.take (j + 1),48 ≤ c.toNat∧c.toNat ≤ 57:=fun c hcm=>by
         rw [htk,List.mem_append,List.mem_singleton] at hcm
         rcases hcm with hcm | rfl
         ·exact hdg c hcm
         ·omega
        have hnb2 : n * 10 + (f3.toNat - 48) + 1 ≤ 10 ^ (j + 1):=by rw [Nat.pow_succ];omega
        refine uA ?_
        refine TO.step rfl (OT.arith (r':=((n * 10 : Nat) : Int)) rfl rfl rfl rfl rfl rfl (by omega) (by omega) ?_)
        refine uA ?_
        refine TO.step rfl (OT.index tab rByte (a+k+1+j) hs2 rfl rfl rfl rfl rfl (by first | rfl | omega | (simp only;omega)) rfl hc ?_)
        rintro b5 i5 f5 hr5 hA5
        obtain rfl : f5=f3:=hr5
        (refine TO.step rfl (OT.loadA0 tab hA5 rfl rfl rfl rfl rfl ?_))
        refine TO.step rfl (OT.arithK (r':=((f5.toNat - 48 : Nat) : Int)) rfl rfl rfl rfl rfl rfl (by rw [u8_in (by omega) (by omega)];omega) ?_)
        refine TO.step rfl (OT.conv tab (r:=((f5.toNat - 48 : Nat) : Int)) rfl rfl rfl rfl rfl rfl (wrap64_in (by omega) (by omega)) ?_)
        refine TO.step rfl (OT.arith (r':=((n * 10 + (f5.toNat - 48) : Nat) : Int)) rfl rfl rfl rfl rfl rfl (by omega) (by omega) ?_)
        refine uA ?_
        refine TO.step rfl (OT.arith (r':=((a + k + 1 + j + 1 : Nat) : Int)) rfl rfl rfl rfl rfl rfl (by omega) (by omega) ?_)
        refine TO.step rfl (OT.cut tab rByte (a + k + 1 + j) (a + k + 1 + j + 1) hs2 rfl rfl rfl rfl rfl rfl rfl (.inr rfl) (.inr rfl) (by omega) (by omega) (fun s5 hs5 => ?_))
        rw [one_byte hc] at hs5
        refine TO.step rfl (OT.bytesStrA tab (s:=s5) rfl rfl rfl rfl rfl rfl rfl hs5 ?_)
        refine TO.step rfl (OT.concat rfl rfl rfl rfl rfl (by simp only [List.length_cons,List.length_nil];omega) ?_)
        rw [← htk]
        refine uA ?_
        refine TO.step rfl (OT.arith (r':=((a + k + 1 + (j + 1) : Nat) : Int)) rfl rfl rfl rfl rfl rfl (by omega) (by omega) ?_)
        refine uA ?_
        exact ⟨⟨j + 1,n * 10 + (f5.toNat - 48)⟩,uH,uH,rfl,rfl,uS,⟨by show j + 1 ≤ w.length;omega,by show j + 1 ≤ 6;omega,hdg2,hpn2,hnb2⟩,by show w.length - (j + 1) < w.length - j;omega⟩
       ·refine uA ?_
        exact ⟨⟨j,n⟩,uH,uH,rfl,rfl,uS,hj,hj6,hdg,hpn,hnb, .inr (.inr (by show 6 ≤ j;omega))⟩
      ·rw [show decide ((f3.toNat : Int) ≤ 57)=false from decide_eq_false h57]
       refine uA ?_
       exact ⟨⟨j,n⟩,uH,uH,rfl,rfl,uS,hj,hj6,hdg,hpn,hnb, .inr (.inl ⟨f3,hwc,by omega⟩)⟩
     ·rw [show decide ((48 : Int) ≤ (f1.toNat : Int))=false from decide_eq_false h48]
      refine uA ?_
      exact ⟨⟨j,n⟩,uH,uH,rfl,rfl,uS,hj,hj6,hdg,hpn,hnb, .inr (.inl ⟨f1,hwc,by omega⟩)⟩
    ·rw [show decide (((a + k + 1 + j : Nat) : Int) < (s.len : Int))=false from decide_eq_false hlt]
     refine uA ?_
     exact ⟨⟨j,n⟩,uH,uH,rfl,rfl,uS,hj,hj6,hdg,hpn,hnb, .inl (by simp only;omega)⟩
   ·obtain ⟨j,n⟩:=x
    obtain ⟨hj,hj6,hdg,hpn,hnb,hde⟩:=hxx
    simp only at hj hj6 hdg hpn hnb hde
    show TC _ _ _ ((5, .int .i64 ((a + k + 1 + j : Nat) : Int)) :: (7, .int .i64 (n : Int)) :: (8,strV (w.take j)) :: _) _ m2 _ _
    refine uA ?_
    have hF := @ref_fol b l a k j n w hfol hz hk hn32 hend hw hj hdg hpn hde
    have hn6 : n < 1000000:=by
     have : 10 ^ j ≤ 10 ^ 6:=Nat.pow_le_pow_right (by omega) hj6
     omega
    by_cases hlt : (s.len : Int) ≤ ((a + k + 1 + j : Nat) : Int)
    ·rw [show decide ((s.len : Int) ≤ ((a + k + 1 + j : Nat) : Int))=true from decide_eq_true hlt]
     have hng : ∀ ys,errD ys=0→ordF ys=ys→b ≠ packD ys:=fun ys g1 g2 g3=>by
      obtain ⟨y,r, -, -, -, -, -, -,e7⟩:=hF g1 g2 g3
      have:=congrArg List.length e7
      simp only [List.length_drop,List.length_cons] at this
      omega
     refine uA ?_
     refine retQ_ret rfl (L':=L) uS ⟨h02,rfl, .inr ⟨hng,rfl⟩⟩
    ·rw [show decide ((s.len : Int) ≤ ((a + k + 1 + j : Nat) : Int))=false from decide_eq_false hlt]
     have hkl : a + k + 1 + j < b.length:=by omega
     obtain ⟨c,hc⟩ : ∃ c,b[a + k + 1 + j]? = some c:=⟨b[a + k + 1 + j],by simp [hkl]⟩
     have hwd : w.drop j=c :: b.drop (a + k + 1 + j + 1):=by
      have hlt2 : a + k + 1 + j < b.length:=hkl
      rw [hw,List.drop_drop,List.drop_eq_getElem_cons (by omega)]
      congr 1
      rw [List.getElem?_eq_getElem hkl] at hc
      exact Option.some.inj hc
     refine uA ?_
     refine TO.step rfl (OT.index tab rByte (a+k+1+j) hs2 rfl rfl rfl rfl rfl (by first | rfl | omega | (simp only;omega)) rfl hc ?_)
     rintro b1 i1 f1 hr1 hA1
     obtain rfl : f1=c:=hr1
     (refine TO.step rfl (OT.loadA0 tab hA1 rfl rfl rfl rfl rfl ?_))
     refine uA ?_
     by_cases h10 : (f1.toNat : Int)=10
     ·rw [show (!decide ((f1.toNat : Int)=10))=false by simp [h10]]
      refine uA ?_
      refine TO.step rfl (OT.call rfl rfl rfl rfl rfl rfl goes28 ((decimal_law m2 _ (n : Int) (by omega) (by omega)).x ?_));
      rintro _ _ _ ⟨rfl,rfl,rfl⟩
      rw [Int.toNat_natCast]
      refine uA ?_
      by_cases hdn : w.take j=Pt.digN n
      ·rw [show (!decide (w.take j=Pt.digN n))=false by simp [hdn]]
       refine uA ?_
       refine TO.step rfl (OT.arith (r':=((b.length - (a + k + 1 + j) : Nat) : Int)) rfl rfl rfl rfl rfl rfl (by omega) (by omega) ?_)
       refine TO.step rfl (OT.arith (r':=((b.length - (a + k + 1 + j) - 1 : Nat) : Int)) rfl rfl rfl rfl rfl rfl (by omega) (by omega) ?_)
       refine uA ?_
       by_cases hnl3 : ((b.length - (a + k + 1 + j) - 1 : Nat) : Int) < (n : Int)
       ·rw [show decide (((b.length - (a + k + 1 + j) - 1 : Nat) : Int) < (n : Int))=true from decide_eq_true hnl3]
        have hng : ∀ ys,errD ys=0→ordF ys=ys→b ≠ packD ys:=fun ys g1 g2 g3=>by
         obtain ⟨y,r, -, -, -, -,e5, -,e7⟩:=hF g1 g2 g3
         rw [hwd] at e7
         have:=congrArg List.length e7
         simp only [List.length_drop,List.length_cons,List.length_append] at this
         omega
        refine uA ?_
        refine retQ_ret rfl (L':=L) uS ⟨h02,rfl, .inr ⟨hng,rfl⟩⟩
       ·rw [show decide (((b.length - (a + k + 1 + j) - 1 : Nat) : Int) < (n : Int))=false from decide_eq_false hnl3]
        refine uA ?_
        refine TC.condP rfl (fun h64 => ?_) (fun h64 => ?_)
        ·have hng : ∀ ys,errD ys=0→ordF ys=ys→b ≠ packD ys:=fun ys g1 g2 g3=>by
          obtain ⟨y,r,e1, -⟩:=hF g1 g2 g3
          omega
         refine uA ?_
         refine retQ_ret rfl (L':=L) uS ⟨h02,rfl, .inr ⟨hng,rfl⟩⟩
        ·refine uA ?_
         refine TO.step rfl (OT.arith (r':=((a + k + 1 + j + 1 : Nat) : Int)) rfl rfl rfl rfl rfl rfl (by omega) (by omega) ?_)
         refine uA ?_
         refine TO.step rfl (OT.arith (r':=((a + k + 1 + j + 1 : Nat) : Int)) rfl rfl rfl rfl rfl rfl (by omega) (by omega) ?_)
         refine uA ?_
         refine TO.step rfl (OT.arith (r':=((a + k + 1 + j + 1 + n : Nat) : Int)) rfl rfl rfl rfl rfl rfl (by omega) (by omega) ?_)
         refine TO.step rfl (OT.cut tab rByte (a + k + 1 + j + 1) (a + k + 1 + j + 1 + n) hs2 rfl rfl rfl rfl rfl rfl rfl (.inr rfl) (.inr rfl) (by omega) (by omega) (fun s5 hs5 => ?_))
         rw [List.drop_take,Nat.add_sub_cancel_left] at hs5
         refine TO.step rfl (OT.bytesStrA tab (s:=s5) rfl rfl rfl rfl rfl rfl rfl hs5 ?_)
         refine uA ?_
         refine uT ?_
         refine uA ?_
         refine TO.step rfl (OT.arith (r':=((1 + n : Nat) : Int)) rfl rfl rfl rfl rfl rfl (by omega) (by omega) ?_)
         refine TO.step rfl (OT.arith (r':=((a + k + 1 + j + (1 + n) : Nat) : Int)) rfl rfl rfl rfl rfl rfl (by omega) (by omega) ?_)
         refine uA ?_
         refine uM ?_
         have hnl4 : ((b.drop (a + k + 1 + j + 1)).take n).length ≤ b.length:=by rw [List.length_take,List.length_drop];omega
         refine TO.step rfl (OT.litR tab rCh (hs:=[⟨(b.drop a).take k,(b.drop (a + k + 1 + j + 1)).take n⟩]) (l:=[⟨(b.drop a).take k,(b.drop (a + k + 1 + j + 1)).take n⟩]) ⟨rfl,trivial⟩ rfl rfl rfl rfl rfl (by decide) (fun sC mC hmC hsC hoC hcC => ?_))
         refine TO.step rfl (OT.append tab rCh 1 (hfs.mono hmC) hfo hsC rfl rfl rfl rfl rfl rfl rfl (by simp only [List.length_append,List.length_cons,List.length_nil];show _ * 32 ≤ _;omega) (fun f4 m4 hm4 hf4 ho4 => ?_))
         refine uA ?_
         refine ⟨⟨m4,f4,l++[⟨(b.drop a).take k,(b.drop (a + k + 1 + j + 1)).take n⟩],a + k + 1 + j + (1 + n)⟩,uH,uH,rfl,rfl,uS,⟨Mem.le_trans hm2 (Mem.le_trans hmC hm4),hf4,ho4,by show a + k + 1 + j + (1 + n) ≤ b.length;omega, ?_,by rw [List.length_append,List.length_singleton];omega, ?_⟩,by show b.length - (a + k + 1 + j + (1 + n)) < b.length - a;omega⟩
         ·intro x hx
          rcases List.mem_append.1 hx with hx | hx
          ·exact hwl' x hx
          ·rw [List.mem_singleton] at hx
           subst hx
           exact ⟨by show ((b.drop a).take k).length ≤ _;omega,by show ((b.drop (a + k + 1 + j + 1)).take n).length ≤ _;omega⟩
         ·intro ys g1 g2 g3
          obtain ⟨y,r,e1,e2,e3,e4,e5,e6,e7⟩:=hF g1 g2 g3
          rw [hwd] at e7
          have e8:=(List.cons.inj e7).2
          have e9 : (b.drop (a + k + 1 + j + 1)).take n=y.tx:=by rw [e8,e5];simp
          have e10 : b.drop (a + k + 1 + j + (1 + n))=packD r:=by
           rw [show a + k + 1 + j + (1 + n)=a + k + 1 + j + 1 + n by omega,← List.drop_drop,e8,e5]
           simp
          rw [List.length_append,List.length_singleton,e2,e3,e4,e9]
          exact ⟨rfl,e10⟩
      ·rw [show (!decide (w.take j=Pt.digN n))=true by simp [hdn]]
       have hng : ∀ ys,errD ys=0→ordF ys=ys→b ≠ packD ys:=fun ys g1 g2 g3=>by
        obtain ⟨y,r, -, -, -, -, -,e6, -⟩:=hF g1 g2 g3
        exact hdn e6
       refine uA ?_
       refine retQ_ret rfl (L':=L) uS ⟨h02,rfl, .inr ⟨hng,rfl⟩⟩
     ·rw [show (!decide ((f1.toNat : Int)=10))=true by simp [h10]]
      have hng : ∀ ys,errD ys=0→ordF ys=ys→b ≠ packD ys:=fun ys g1 g2 g3=>by
       obtain ⟨y,r, -, -, -, -, -, -,e7⟩:=hF g1 g2 g3
       rw [hwd] at e7
       exact h10 (by rw [(List.cons.inj e7).1];rfl)
      refine uA ?_
      refine retQ_ret rfl (L':=L) uS ⟨h02,rfl, .inr ⟨hng,rfl⟩⟩
 ·have hz : b.drop a=[]:=List.drop_of_length_le (by omega)
  rw [hz] at hfol
  have hpo:=ordF_perm l
  have hs02:=hs.mono h02
  refine uA ?_
  refine TC.draw0 [] mixed 11 rfl ?_
  refine DO.pure tab uC (by kernel_rfl) [0] (by kernel_rfl) rfl ?_
  refine DO.run 1 rfl rfl (by kernel_rfl) rfl (OT.call rfl rfl rfl rfl rfl rfl goes11 ((check_ref fs l m2 _ hfs hwl).x ?_))
  rintro _ _ _ ⟨rfl,rfl,rfl⟩
  refine ⟨Mem.le_refl _,_,List.Perm.refl _, ?_⟩
  by_cases h0 : errD l=0
  ·rw [h0]
   refine DO.pure tab uC (by kernel_rfl) [2,3,4,7] (by kernel_rfl) rfl ?_
   refine DO.fork 5 [8] (by kernel_rfl) ⟨⟨_,rfl,rfl,rfl, ?_⟩,⟨_,rfl,rfl,rfl, ?_⟩,trivial⟩
   ·refine OT.call rfl rfl rfl rfl rfl rfl goes13 ((pack_ref fs l m2 _ hfs h0).x ?_)
    rintro _ m3 _ ⟨hm3,rfl,t,rfl,ht⟩
    refine ⟨hm3,_,List.Perm.refl _, ?_⟩
    have hs03:=hs02.mono hm3
    refine DO.fork 6 [8] (by kernel_rfl) ⟨⟨_,rfl,rfl,rfl, ?_⟩,⟨_,rfl,rfl,rfl, ?_⟩,trivial⟩
    ·refine OT.bytesStrA tab (s:=t) rfl rfl rfl rfl rfl rfl rfl ht ?_
     refine ⟨Mem.le_refl _,_,List.Perm.refl _, ?_⟩
     refine DO.run 8 rfl rfl (by kernel_rfl) rfl ?_
     refine OT.bytesStrA tab (s:=s) rfl rfl rfl rfl rfl rfl rfl hs03 ?_
     refine ⟨Mem.le_refl _,_,List.Perm.refl _, ?_⟩
     refine DO.pure tab uC (by kernel_rfl) [9,10] (by kernel_rfl) rfl ?_
     refine DO.nil (by kernel_rfl) ?_
     have h03:=Mem.le_trans h02 hm3
     have hoo : ordF (ordF l)=ordF l:=by
      obtain ⟨-,hnam, -⟩:=openOk h0
      exact (sorted_ord (List.Perm.refl _) (ordF_sorted l hnam)).symm
     by_cases he : packD (ordF l)=b
     ·rw [show (!decide (packD (ordF l)=b))=false by simp [he]]
      have hlo : l=ordF l:=hfol.done (ordF l) (by rw [errD_perm hpo];exact h0) hoo he.symm
      refine uA ?_
      refine retQ_ret rfl (L':=L) uS ⟨h03,rfl, .inl ⟨l,fs,h0,hlo.symm,by rw [← he,← hlo],hfs.mono hm3,rfl⟩⟩
     ·rw [show (!decide (packD (ordF l)=b))=true by simp [he]]
      have hng : ∀ ys,errD ys=0→ordF ys=ys→b ≠ packD ys:=fun ys h1 h2 h3=>he (by rw [hfol.done ys h1 h2 h3,h2];exact h3.symm)
      refine uA ?_
      refine retQ_ret rfl (L':=L) uS ⟨h03,rfl, .inr ⟨hng,rfl⟩⟩
    ·refine OT.bytesStrA tab (s:=s) rfl rfl rfl rfl rfl rfl rfl hs03 ?_
     refine ⟨Mem.le_refl _,_,List.Perm.refl _, ?_⟩
     refine DO.run 6 rfl rfl (by kernel_rfl) rfl ?_
     refine OT.bytesStrA tab (s:=t) rfl rfl rfl rfl rfl rfl rfl ht ?_
     refine ⟨Mem.le_refl _,_,List.Perm.refl _, ?_⟩
     refine DO.pure tab uC (by kernel_rfl) [9,10] (by kernel_rfl) rfl ?_
     refine DO.nil (by kernel_rfl) ?_
     have h03:=Mem.le_trans h02 hm3
     have hoo : ordF (ordF l)=ordF l:=by
      obtain ⟨-,hnam, -⟩:=openOk h0
      exact (sorted_ord (List.Perm.refl _) (ordF_sorted l hnam)).symm
     by_cases he : packD (ordF l)=b
     ·rw [show (!decide (packD (ordF l)=b))=false by simp [he]]
      have hlo : l=ordF l:=hfol.done (ordF l) (by rw [errD_perm hpo];exact h0) hoo he.symm
      refine uA ?_
      refine retQ_ret rfl (L':=L) uS ⟨h03,rfl, .inl ⟨l,fs,h0,hlo.symm,by rw [← he,← hlo],hfs.mono hm3,rfl⟩⟩
     ·rw [show (!decide (packD (ordF l)=b))=true by simp [he]]
      have hng : ∀ ys,errD ys=0→ordF ys=ys→b ≠ packD ys:=fun ys h1 h2 h3=>he (by rw [hfol.done ys h1 h2 h3,h2];exact h3.symm)
      refine uA ?_
      refine retQ_ret rfl (L':=L) uS ⟨h03,rfl, .inr ⟨hng,rfl⟩⟩
   ·refine OT.bytesStrA tab (s:=s) rfl rfl rfl rfl rfl rfl rfl hs02 ?_
    refine ⟨Mem.le_refl _,_,List.Perm.refl _, ?_⟩
    refine DO.run 5 rfl rfl (by kernel_rfl) rfl ?_
    refine OT.call rfl rfl rfl rfl rfl rfl goes13 ((pack_ref fs l m2 _ hfs h0).x ?_)
    rintro _ m3 _ ⟨hm3,rfl,t,rfl,ht⟩
    refine ⟨hm3,_,List.Perm.refl _, ?_⟩
    refine DO.run 6 rfl rfl (by kernel_rfl) rfl ?_
    refine OT.bytesStrA tab (s:=t) rfl rfl rfl rfl rfl rfl rfl ht ?_
    refine ⟨Mem.le_refl _,_,List.Perm.refl _, ?_⟩
    refine DO.pure tab uC (by kernel_rfl) [9,10] (by kernel_rfl) rfl ?_
    refine DO.nil (by kernel_rfl) ?_
    have h03:=Mem.le_trans h02 hm3
    have hoo : ordF (ordF l)=ordF l:=by
     obtain ⟨-,hnam, -⟩:=openOk h0
     exact (sorted_ord (List.Perm.refl _) (ordF_sorted l hnam)).symm
    by_cases he : packD (ordF l)=b
    ·rw [show (!decide (packD (ordF l)=b))=false by simp [he]]
     have hlo : l=ordF l:=hfol.done (ordF l) (by rw [errD_perm hpo];exact h0) hoo he.symm
     refine uA ?_
     refine retQ_ret rfl (L':=L) uS ⟨h03,rfl, .inl ⟨l,fs,h0,hlo.symm,by rw [← he,← hlo],hfs.mono hm3,rfl⟩⟩
    ·rw [show (!decide (packD (ordF l)=b))=true by simp [he]]
     have hng : ∀ ys,errD ys=0→ordF ys=ys→b ≠ packD ys:=fun ys h1 h2 h3=>he (by rw [hfol.done ys h1 h2 h3,h2];exact h3.symm)
     refine uA ?_
     refine retQ_ret rfl (L':=L) uS ⟨h03,rfl, .inr ⟨hng,rfl⟩⟩
  ·have hng : ∀ ys,errD ys=0→ordF ys=ys→b ≠ packD ys:=fun ys g1 g2 g3=>h0 (by rw [hfol.done ys g1 g2 g3];exact g1)
   refine DO.pure tab uC (by kernel_rfl) [2,3] (by kernel_rfl) rfl ?_
   rw [show (!decide (errD l=0))=true by simp [h0]]
   refine DO.pure tab uC (by kernel_rfl) [4,5,6,7,8,9,10] (by kernel_rfl) rfl ?_
   refine DO.nil (by kernel_rfl) ?_
   refine uA ?_
   refine retQ_ret rfl (L':=L) uS ⟨h02,rfl, .inr ⟨hng,rfl⟩⟩
end Go.Sep
set_option linter.unusedVariables false
set_option linter.unusedSimpArgs false
namespace Go.Sep
open Go.Proofs
attribute [local irreducible] TC TO OT TCallX TCall DO DOt thenQ blockQ retQ At
set_option maxHeartbeats 1000000 in
theorem same_ref (s t : Sl) (l r : List Ch) (m : Mem) (L : List Item) (hs : SlRep rCh m s l) (ht : SlRep rCh m t r) : TCall Tryz.prog 20 ⟨[s.v,t.v]⟩ m L (Ret (.bool (decide (l=r))) m L):=by
 have hl:=hs.len
 have hr:=ht.len
 have hsm:=hs.small rfl
 unfold TCall
 refine TCallX.enter Tryz.func20 rfl 26 rfl ?_
 refine uA ?_
 by_cases hlr : l.length=r.length
 ·rw [show (s.len : Int)=(t.len : Int) by omega]
  simp only [decide_true,Bool.not_true]
  refine uA ?_
  refine TC.loopK (ι:=Nat) [0,1] rfl (fun k=>[(5, .int .i64 (k : Int))]) (fun _=>m) (fun _=>L) (fun k=>k ≤ l.length ∧ ∀ i,i < k→gk l i=gk r i) (fun k=>l.length - k) 0 uH rfl uS ⟨Nat.zero_le _,fun i h=>by omega⟩ ?_
  rintro k ⟨hk,hI⟩
  refine uA ?_
  refine TC.condP rfl (fun h5 => ?_) (fun h5 => ?_)
  ·have hlt : k < l.length:=by omega
   have hx : l[k]? = some (gk l k):=gk_get hlt
   have hy : r[k]? = some (gk r k):=gk_get (by omega)
   refine uA ?_
   refine TC.draw0 [] mixed 9 rfl ?_
   refine DO.pure tab uC (by kernel_rfl) [0,1] (by kernel_rfl) rfl ?_
   refine DO.index tab rCh 2 k hs uC (by kernel_rfl) (by kernel_rfl) rfl rfl rfl rfl rfl rfl rfl (by first | rfl | omega) rfl hx ?_
   rintro b1 i1 f1 hr1 hA1;obtain rfl : f1=gk l k:=hr1
   (refine DO.loadA (k:=0) tab 3 hA1 uC (by kernel_rfl) (by kernel_rfl) rfl rfl rfl rfl rfl rfl rfl ?_)
   refine DO.pure tab uC (by kernel_rfl) [4,5] (by kernel_rfl) rfl ?_
   refine DO.index tab rCh 6 k ht uC (by kernel_rfl) (by kernel_rfl) rfl rfl rfl rfl rfl rfl rfl (by first | rfl | omega) rfl hy ?_
   rintro b2 i2 f2 hr2 hA2;obtain rfl : f2=gk r k:=hr2
   (refine DO.loadA (k:=0) tab 7 hA2 uC (by kernel_rfl) (by kernel_rfl) rfl rfl rfl rfl rfl rfl rfl ?_)
   refine DO.run 8 rfl rfl (by kernel_rfl) rfl ?_;refine OT.neS tab rfl rfl rfl rfl rfl rfl (by kernel_rfl) (by kernel_rfl) rfl ?_;refine ⟨Mem.le_refl _,_,List.Perm.refl _, ?_⟩
   (refine DO.nil0 (by kernel_rfl) ?_)
   rotate_left 1
   refine uA ?_
   refine TC.cond rfl (fun hq => ?_) (fun hq => ?_)
   ·refine uA ?_
    refine retQ_ret rfl uS ⟨rfl,rfl, ?_⟩
    rw [decide_eq_false]
    intro e
    subst e
    simp at hq
   ·have he : gk l k=gk r k:=by
     cases ha : gk l k
     cases hb : gk r k
     rw [ha,hb] at hq
     simpa using hq
    refine uA ?_
    refine TO.step rfl (OT.arith (r':=((k + 1 : Nat) : Int)) rfl rfl rfl rfl rfl rfl rfl (by omega) ?_)
    refine uA ?_
    exact ⟨k + 1,uH,uH,rfl,rfl,uS,⟨hlt,fun i hi=>by
     by_cases e : i=k
     ·subst e;exact he
     ·exact hI i (by omega)⟩,by omega⟩
  ·have hke : k=l.length:=by omega
   refine uA ?_
   refine retQ_ret rfl uS ⟨rfl,rfl, ?_⟩
   rw [decide_eq_true]
   refine List.ext_getElem hlr fun i h1 h2 => ?_
   have h3:=hI i (by omega)
   have e1 : gk l i=l[i]:=Option.some.inj ((gk_get h1).symm.trans (by simp [h1]))
   have e2 : gk r i=r[i]:=Option.some.inj ((gk_get h2).symm.trans (by simp [h2]))
   rw [← e1,← e2,h3]
 ·rw [show decide ((s.len : Int)=(t.len : Int))=false from decide_eq_false (by omega)]
  refine uA ?_
  refine retQ_ret rfl uS ⟨rfl,rfl, ?_⟩
  rw [decide_eq_false]
  intro e
  exact hlr (by rw [e])
end Go.Sep
set_option linter.unusedVariables false
set_option linter.unusedSimpArgs false
namespace Go.Sep
open Go.Proofs
attribute [local irreducible] TC TO OT TCallX TCall DO DOt thenQ blockQ retQ At
set_option maxHeartbeats 2000000 in
theorem bundleReads_walk (s : Sl) (b : Str) (m : Mem) (L : List Item) (hs : SlRep rByte m s b) (hT : Tb m) (hE : Eb m) : TCall Tryz.prog 6 ⟨[s.v]⟩ m L (Made m L fun r _=>r = .bool true):=by
 have hsl:=hs.len
 unfold TCall
 refine TCallX.enter Tryz.func6 rfl 33 rfl ?_
 refine uA ?_
 refine TC.condP rfl (fun h5 => ?_) (fun h5 => ?_)
 ·refine uA ?_
  refine TO.step rfl (OT.cut tab rByte 0 75120 hs rfl rfl rfl rfl rfl rfl rfl (.inl ⟨rfl,rfl⟩) (.inr rfl) (Nat.zero_le _) (by omega) (fun s1 hs1 => ?_))
  rw [List.drop_zero] at hs1
  refine uA ?_
  refine TO.step rfl (OT.call rfl rfl rfl rfl rfl rfl goes18 ((unpack_law s1 (b.take 75120) m L hs1 hT hE).x ?_));
  rintro _ m1 _ ⟨hm1,rfl,hR1⟩
  rcases hR1 with ⟨ys,f,h1,h2,h3,h4,rfl⟩ | ⟨h1,rfl⟩
  ·refine uA ?_
   refine TO.step rfl (OT.call rfl rfl rfl rfl rfl rfl goes19 ((unpack_ref s1 (b.take 75120) m1 L ((hs1).mono hm1)).x ?_));
   rintro _ m2 _ ⟨hm2,rfl,hR2⟩
   rcases hR2 with ⟨ys2,f2,g1,g2,g3,g4,rfl⟩ | ⟨g1, -⟩
   ·obtain rfl:=pack_uniq (errD_sound g1) (errD_sound h1) (g3.symm.trans h3)
    refine uA ?_
    refine TO.step rfl (OT.call rfl rfl rfl rfl rfl rfl goes12 ((awake_law m2 _).x ?_));
    rintro _ m3 _ ⟨hm3,rfl,rfl⟩
    refine uA ?_
    refine TO.step rfl (OT.call rfl rfl rfl rfl rfl rfl goes20 ((same_ref f f2 ys2 ys2 m3 _ (h4.mono (Mem.le_trans hm2 hm3)) (g4.mono hm3)).x ?_));
    rintro _ _ _ ⟨rfl,rfl,rfl⟩
    rw [show decide (ys2=ys2)=true from decide_eq_true rfl]
    refine uA ?_
    refine retQ_ret rfl (L':=L) uS ⟨Mem.le_trans hm1 (Mem.le_trans hm2 hm3),rfl,rfl⟩
   ·exact absurd h3 (g1 ys h1 h2)
  ·refine uA ?_
   refine TO.step rfl (OT.call rfl rfl rfl rfl rfl rfl goes19 ((unpack_ref s1 (b.take 75120) m1 L ((hs1).mono hm1)).x ?_));
   rintro _ m2 _ ⟨hm2,rfl,hR2⟩
   rcases hR2 with ⟨ys2,f2,g1,g2,g3, -⟩ | ⟨g1,rfl⟩
   ·exact absurd g3 (h1 ys2 g1 g2)
   ·refine uA ?_
    refine TO.step rfl (OT.call rfl rfl rfl rfl rfl rfl goes12 ((awake_law m2 _).x ?_));
    rintro _ m3 _ ⟨hm3,rfl,rfl⟩
    refine uA ?_
    refine TO.step rfl (OT.call rfl rfl rfl rfl rfl rfl goes20 ((same_ref ⟨none,0,0⟩ ⟨none,0,0⟩ [] [] m3 _ (SlRep.nil _ _) (SlRep.nil _ _)).x ?_));
    rintro _ _ _ ⟨rfl,rfl,rfl⟩
    refine uA ?_
    refine retQ_ret rfl (L':=L) uS ⟨Mem.le_trans hm1 (Mem.le_trans hm2 hm3),rfl, ?_⟩
    first | rfl | simp
 ·skip
  refine uA ?_
  refine TO.step rfl (OT.call rfl rfl rfl rfl rfl rfl goes18 ((unpack_law s b m L hs hT hE).x ?_));
  rintro _ m1 _ ⟨hm1,rfl,hR1⟩
  rcases hR1 with ⟨ys,f,h1,h2,h3,h4,rfl⟩ | ⟨h1,rfl⟩
  ·refine uA ?_
   refine TO.step rfl (OT.call rfl rfl rfl rfl rfl rfl goes19 ((unpack_ref s b m1 L ((hs).mono hm1)).x ?_));
   rintro _ m2 _ ⟨hm2,rfl,hR2⟩
   rcases hR2 with ⟨ys2,f2,g1,g2,g3,g4,rfl⟩ | ⟨g1, -⟩
   ·obtain rfl:=pack_uniq (errD_sound g1) (errD_sound h1) (g3.symm.trans h3)
    refine uA ?_
    refine TO.step rfl (OT.call rfl rfl rfl rfl rfl rfl goes12 ((awake_law m2 _).x ?_));
    rintro _ m3 _ ⟨hm3,rfl,rfl⟩
    refine uA ?_
    refine TO.step rfl (OT.call rfl rfl rfl rfl rfl rfl goes20 ((same_ref f f2 ys2 ys2 m3 _ (h4.mono (Mem.le_trans hm2 hm3)) (g4.mono hm3)).x ?_));
    rintro _ _ _ ⟨rfl,rfl,rfl⟩
    rw [show decide (ys2=ys2)=true from decide_eq_true rfl]
    refine uA ?_
    refine retQ_ret rfl (L':=L) uS ⟨Mem.le_trans hm1 (Mem.le_trans hm2 hm3),rfl,rfl⟩
   ·exact absurd h3 (g1 ys h1 h2)
  ·refine uA ?_
   refine TO.step rfl (OT.call rfl rfl rfl rfl rfl rfl goes19 ((unpack_ref s b m1 L ((hs).mono hm1)).x ?_));
   rintro _ m2 _ ⟨hm2,rfl,hR2⟩
   rcases hR2 with ⟨ys2,f2,g1,g2,g3, -⟩ | ⟨g1,rfl⟩
   ·exact absurd g3 (h1 ys2 g1 g2)
   ·refine uA ?_
    refine TO.step rfl (OT.call rfl rfl rfl rfl rfl rfl goes12 ((awake_law m2 _).x ?_));
    rintro _ m3 _ ⟨hm3,rfl,rfl⟩
    refine uA ?_
    refine TO.step rfl (OT.call rfl rfl rfl rfl rfl rfl goes20 ((same_ref ⟨none,0,0⟩ ⟨none,0,0⟩ [] [] m3 _ (SlRep.nil _ _) (SlRep.nil _ _)).x ?_));
    rintro _ _ _ ⟨rfl,rfl,rfl⟩
    refine uA ?_
    refine retQ_ret rfl (L':=L) uS ⟨Mem.le_trans hm1 (Mem.le_trans hm2 hm3),rfl, ?_⟩
    first | rfl | simp
end Go.Sep
