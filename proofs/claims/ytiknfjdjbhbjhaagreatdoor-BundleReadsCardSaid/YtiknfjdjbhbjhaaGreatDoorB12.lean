/-
  Part 12 of the proof: library, walks and plain laws.
-/
import Derived.Laws.MakeOwn
import Derived.Test.YtiknfjdjbhbjhaaGreatDoorB11
set_option linter.unusedVariables false
set_option linter.unusedSimpArgs false
namespace Go.Ev
open Go.Sep
theorem zeros_succ (z : List Value) (n : Nat) : zeros z (n + 1)=z++zeros z n:=rfl
theorem zeros_len (z : List Value) : ∀ n,(zeros z n).length=n * z.length
 | 0=>by show (([] : List Value)).length=_;simp
 | n + 1=>by rw [zeros_succ,List.length_append,zeros_len z n,Nat.add_mul,Nat.one_mul,Nat.add_comm]
theorem zeros_get (z : List Value) : ∀ (n i : Nat),i < n * z.length→(zeros z n)[i]? = z[i % z.length]?
 | 0,i,h=>by simp at h
 | n + 1,i,h=>by
  rw [zeros_succ]
  by_cases hi : i < z.length
  ·rw [List.getElem?_append_left hi,Nat.mod_eq_of_lt hi]
  ·rw [List.getElem?_append_right (by omega),zeros_get z n (i - z.length) (by rw [Nat.succ_mul] at h;omega)]
   rw [Nat.mod_eq_sub_mod (a:=i) (by omega)]
theorem zeros_row (z : List Value) (n sz : Nat) (hz : z.length=sz) : (Array.range (n * sz)).map ((⟨z⟩ : Array Value)[· % (⟨z⟩ : Array Value).size]!) = ⟨zeros z n⟩:=by
 apply Array.ext'
 apply List.ext_getElem?
 intro i
 simp only [Array.toList_map,Array.toList_range]
 by_cases hi : i < n * sz
 ·rw [zeros_get z n i (by rw [hz];exact hi)]
  have hpos : 0 < z.length:=by
   rcases Nat.eq_zero_or_pos z.length with h | h
   ·rw [hz] at h;rw [h] at hi;simp at hi
   ·exact h
  have hlt:=Nat.mod_lt i hpos
  simp [hi,hlt]
 ·rw [List.getElem?_eq_none (by simp;omega),List.getElem?_eq_none (by rw [zeros_len,hz];omega)]
theorem zeros_VRs {φ : Ren} {z : List Value} (h : VRs φ z z) : ∀ n,VRs φ (zeros z n) (zeros z n)
 | 0 => .nil
 | n + 1=>h.append (zeros_VRs h n)
theorem BR.fresh {φ : Ren} {w : World} {b esz : Nat} {cs us rest : List Value} {et : TypeId} {fr : Nat × Nat} (hv : VRs φ cs us) (hh : w.heap[b]? = some (.cells ⟨us++rest⟩ et fr)) (hf : ∀ i,i < (us++rest).length → ¬ (fr.1 ≤ i∧i < fr.2)) (h0 : esz=0→fr=(0,0)) :
  BR φ w ⟨b,0,(us++rest).length,esz⟩ (.cells cs esz):=by
 refine ⟨rfl,us++rest,et,fr,hh,hf,h0,by simp,by rw [hv.length];simp,fun j v hj => ?_⟩
 obtain ⟨u,g1,g2⟩:=hv.get hj
 refine ⟨u, ?_,g2⟩
 rw [Nat.zero_add,List.getElem?_append_left (List.getElem?_eq_some_iff.1 g1).1]
 exact g1
theorem BR.fresh0 {φ : Ren} {w : World} {b esz : Nat} {cs us : List Value} {et : TypeId} (hv : VRs φ cs us) (hh : w.heap[b]? = some (.cells ⟨us⟩ et)) : BR φ w ⟨b,0,us.length,esz⟩ (.cells cs esz):=by
 have:=BR.fresh (φ := φ) (w:=w) (b:=b) (esz:=esz) (rest:=[]) (et:=et) (fr:=(0,0)) hv (by simpa using hh) (fun i _=>by simp) (fun _=>rfl)
 simpa using this
theorem freeze_alloc (w : World) (arr : Array Value) (e : TypeId) (n : Nat) (hn : n ≠ 0) : (w.alloc (.cells arr e)).freeze ⟨w.heap.size,arr.size,none⟩ n=w.alloc (.cells arr e (arr.size,arr.size + n)):=by
 unfold World.freeze World.alloc
 rw [if_neg hn]
 congr 1
 apply Array.ext'
 apply List.ext_getElem?
 intro i
 simp only [Array.getElem?_toList,Array.getElem?_modify,Array.getElem?_push]
 by_cases h : w.heap.size=i
 ·subst h;simp
 ·by_cases h2 : i=w.heap.size
  ·exact absurd h2.symm h
  ·simp [h,h2]
theorem flat_bytes : ∀ l : List UInt8,allFlat (l.map fun c=>Value.int .u8 (.ofNat c.toNat))=true
 | []=>rfl
 | c :: l=>flat_bytes l
section
variable {P : Program} (T : Tab P) {φ : Ren} {ρ : Nat→Option Value} {a : Act}
def Makes (P : Program) (φ : Ren) (r : Result Next) (w : World) (blk : Blk) (g : Nat→Value) : Prop :=
 ∃ (obj : Obj) (n esz : Nat) (u : Value) (w0 : World),(w0=w ∨ w0=w.drew)∧r = .ok (.value u) (w0.alloc obj) ∧
  ∀ (id : Nat) (φ' : Ren), φ.le φ' → φ' id=some ⟨w.heap.size,0,n,esz⟩ → VR φ' (g id) u ∧ ∀ w',w'.heap[w.heap.size]? = some obj→BR φ' w' ⟨w.heap.size,0,n,esz⟩ blk
theorem opA_run (hA : ER φ ρ a) {o : Oper} {blk : Blk} {g : Nat→Value} (h : opA T.get ρ o.op=some (blk,g)) (w : World) : Makes P φ ((execOp a.eval o).run P w) w blk g:=by
 obtain ⟨dst,op,ty,pos,after,guard⟩:=o
 simp only at h
 unfold opA at h
 split at h
 ·
  rename_i t
  split at h
  ·rename_i i hi
   split at h
   ·rename_i cs hz
    cases h
    obtain ⟨z1,z2,z3⟩:=zc_eq (φ := φ) hz
    refine ⟨.cells ⟨cs⟩ t,cs.length,0, .pointer (some ⟨w.heap.size,0,none⟩),w, .inl rfl, ?_,fun id φ' hl hid=>⟨.ptr (o:=0) hid,fun w' hw=>BR.fresh0 (z1.mono hl) hw⟩⟩
    simp only [execOp,Instr.alloc,newVar,newRow,z2,Sem.run_bind,Sem.run_pure,run_newObj,Result.andThen_ok,World.alloc_eq,T.run_zero w hi]
   ·cases h
  ·cases h
 ·
  rename_i t x
  split at h
  ·rename_i v hv
   split at h
   ·rename_i cs hc
    cases h
    obtain ⟨ti,us,h1,h2,h3,h4⟩:=putC_eq T (hA.ev hv) hc
    refine ⟨.cells ⟨us⟩ t,us.length,0, .pointer (some ⟨w.heap.size,0,none⟩),w, .inl rfl, ?_,fun id φ' hl hid=>⟨.ptr (o:=0) hid,fun w' hw=>BR.fresh0 (h3.mono hl) hw⟩⟩
    simp only [execOp,Instr.box,newVar,newRow,h2,Sem.run_bind,Sem.run_pure,run_newObj,Result.andThen_ok,World.alloc_eq]
   ·cases h
  ·cases h
 ·
  rename_i t n ps
  split at h
  ·rename_i e ei he
   split at h
   ·rename_i z hz
    obtain ⟨z1,z2,z3⟩:=zc_eq (φ := φ) hz
    cases hb : Nat.ble (n * ei.size) 16777216 && Nat.blt n U with
    | false=>simp [hb] at h
    | true =>
     simp only [hb,cond_true] at h
     rw [Bool.and_eq_true] at hb
     have b1:=Nat.le_of_ble_eq_true hb.1
     have b2 : n < U:=by simpa [Nat.blt_eq] using hb.2
     split at h
     ·rename_i cs hc
      cases h
      obtain ⟨ti,h4,h5,h6⟩:=elem_get he
      have hu:=T.run_underlying w h4
      rw [h5] at hu
      have hs:=T.run_sizeOf w h6
      have hzr:=T.run_zero w h6
      obtain ⟨cs',hf,hv⟩:=fillP_run T hA (fun i=>some (i * ei.size,e)) (fun i=>some (i * ei.size,ei.size)) (fun i off t ti hh ht=>by
       simp only [Option.some.injEq,Prod.mk.injEq] at hh
       obtain ⟨rfl,rfl⟩:=hh
       rw [h6] at ht;cases ht;rfl) ps _ _ _ (zeros_VRs z1 n) hc
      have hrow:=zeros_row z n ei.size z3
      have e3 : ((⟨ps⟩ : Array (Nat × Operand)).map fun (p : Nat × Operand)=>(p.1,a.eval p.2)).toList=ps.map fun p=>(p.1,a.eval p.2):=by simp
      have hlim : ¬ (n * ei.size > 2 ^ 24):=by omega
      refine ⟨.cells ⟨cs'⟩ e,cs'.length,ei.size, .slice (some ⟨w.heap.size,0,none⟩) n n,w, .inl rfl, ?_,fun id φ' hl hid=>⟨.slice (o:=0) hid b2,fun w' hw=>BR.fresh0 (hv.mono hl) hw⟩⟩
      simp only [execOp,Instr.buildSlice,Sem.run_bind,hu,hs,Result.andThen_ok,if_neg hlim]
      by_cases h0 : n * ei.size=0
      ·have hrow0 : (Array.range (n * ei.size)).map ((#[] : Array Value)[· % (#[] : Array Value).size]!) = ⟨zeros z n⟩:=by
        rw [← hrow,h0];simp
       simp only [h0,if_true,Sem.run_bind,Sem.run_pure,Result.andThen_ok] at hrow0 ⊢
       rw [hrow0,e3,hf]
       simp only [newRow,Sem.run_bind,run_newObj,Result.andThen_ok,Sem.run_pure,World.alloc_eq]
      ·simp only [h0,if_false,Sem.run_bind,hzr,Result.andThen_ok,Sem.run_pure,z2] at hrow ⊢
       rw [hrow,e3,hf]
       simp only [newRow,Sem.run_bind,run_newObj,Result.andThen_ok,Sem.run_pure,World.alloc_eq]
     ·cases h
   ·cases h
  ·cases h
 ·
  rename_i t x y
  split at h
  ·rename_i e ei n c he hx hy
   split at h
   ·rename_i z hz
    obtain ⟨z1,z2,z3⟩:=zc_eq (φ := φ) hz
    cases hb : Nat.beq n c && (Nat.blt 0 ei.bytes && Nat.ble (n * ei.bytes) 281474976710656) with
    | false=>simp [hb] at h
    | true =>
     simp only [hb,cond_true] at h
     cases h
     simp only [Bool.and_eq_true] at hb
     obtain ⟨b1,b2,b3⟩:=hb
     have b1:=Nat.eq_of_beq_eq_true b1
     have b2 : 0 < ei.bytes:=by simpa [Nat.blt_eq] using b2
     have b3:=Nat.le_of_ble_eq_true b3
     subst b1
     obtain ⟨kx,e1⟩:=intOf_run hA hx
     obtain ⟨ky,e2⟩:=intOf_run hA hy
     obtain ⟨ti,h4,h5,h6⟩:=elem_get he
     obtain ⟨_,_,hu',_⟩:=T.ok t ti h4
     rw [h5] at hu'
     obtain ⟨info,q1,q2,q3,q4,q5⟩:=T.ok e ei h6
     have hn : n ≤ 281474976710656:=Nat.le_trans (Nat.le_mul_of_pos_right _ b2) b3
     have hcast : ((info.bytes : Int) * (n : Int))=((n * ei.bytes : Nat) : Int):=by rw [q4,Nat.mul_comm];simp
     have hmk:=run_make (P:=P) w t e info ei.zero hu' q1 q5 kx ky (n : Int) (n : Int) (by omega) (by omega) (by rw [hcast];omega) (by omega)
     have hrow : madeCells (⟨z⟩ : Array Value) (n * ei.size) = ⟨zeros z n⟩:=zeros_row z n ei.size z3
     rw [Int.toNat_natCast,q3,z2,hrow] at hmk
     have hnU : n < U:=Nat.lt_of_le_of_lt hn (by decide)
     refine ⟨.cells ⟨zeros z n⟩ e,(zeros z n).length,ei.size, .slice (some ⟨w.heap.size,0,none⟩) n n,w, .inl rfl, ?_,fun id φ' hl hid=>⟨.slice (o:=0) hid hnU,fun w' hw=>BR.fresh0 ((zeros_VRs z1 n).mono hl) hw⟩⟩
     simp only [execOp,e1,e2,Sem.run_bind,hmk,Result.andThen_ok,Sem.run_pure]
   ·cases h
  ·cases h
 ·
  cases h
  refine ⟨.map #[] 0,0,0, .map (some w.heap.size),w, .inl rfl, ?_,fun id φ' hl hid=>⟨.map hid,fun w' hw=>⟨_,_,hw,trivial⟩⟩⟩
  simp only [execOp,Option.map_none,Instr.makeMap,Sem.run_bind,Sem.run_pure,run_newObj,Result.andThen_ok,World.alloc_eq]
 ·
  rename_i st t x
  split at h
  ·rename_i _ _ _ e _ _ _ l hs he hx
   cases h
   have e1:=(hA.ev hx).flat_inv rfl
   obtain ⟨ti,h4,h5,h6⟩:=elem_get he
   have hu1:=T.run_underlying w hs
   have hu2:=T.run_underlying w h4
   rw [h5] at hu2
   have hu3:=T.run_underlying w h6
   obtain ⟨nc,hnc,hge⟩ : ∃ nc,nc=(Question.appendCap l.length 0 e).cut (w.tape w.drawn (.appendCap l.length 0 e))∧l.length ≤ nc:=⟨_,rfl,by simp [Question.cut]⟩
   have hv : VRs φ (l.map fun c=>Value.int .u8 (.ofNat c.toNat)) (l.map fun c=>Value.int .u8 (.ofNat c.toNat)):=VRs.ofFlat (flat_bytes l)
   have hnc' : (Question.appendCap (⟨⟨l⟩⟩ : ByteArray).size 0 e).cut (w.tape w.drawn (.appendCap (⟨⟨l⟩⟩ : ByteArray).size 0 e))=nc:=hnc.symm
   have hel : (⟨⟨l⟩⟩ : ByteArray).data.map (fun b=>Value.int .u8 (b.toNat : Int)) = ⟨l.map fun c=>Value.int .u8 (.ofNat c.toNat)⟩:=by
    apply Array.ext';simp
   have hrest : (⟨l.map fun c=>Value.int .u8 (.ofNat c.toNat)⟩ : Array Value)++Array.replicate (nc - l.length) (Value.int .u8 0) = ⟨(l.map fun c=>Value.int .u8 (.ofNat c.toNat))++List.replicate (nc - l.length) (Value.int .u8 0)⟩:=by
    apply Array.ext';simp
   have hlen : ((l.map fun c=>Value.int .u8 (.ofNat c.toNat))++List.replicate (nc - l.length) (Value.int .u8 0)).length=nc:=by simp;omega
   refine ⟨.cells ⟨(l.map fun c=>Value.int .u8 (.ofNat c.toNat))++List.replicate (nc - l.length) (Value.int .u8 0)⟩ e (nc,nc + 1),nc,1, .slice (some ⟨w.heap.size,0,none⟩) l.length nc,w.drew, .inr rfl, ?_,fun id φ' hl hid=>⟨.sliceU (o:=0) hid hge (by simp),fun w' hw => ?_⟩⟩
   ·have hfz:=freeze_alloc w.drew ⟨(l.map fun c=>Value.int .u8 (.ofNat c.toNat))++List.replicate (nc - l.length) (Value.int .u8 0)⟩ e 1 (by decide)
    have hsz : (⟨(l.map fun c=>Value.int .u8 (.ofNat c.toNat))++List.replicate (nc - l.length) (Value.int .u8 0)⟩ : Array Value).size=nc:=hlen
    rw [hsz] at hfz
    have hch : (choose (.appendCap (⟨⟨l⟩⟩ : ByteArray).size 0 e)).run P w = .ok nc w.drew:=by
     rw [← hnc'];rfl
    have hshape : (w.drew.alloc (.cells ⟨(l.map fun c=>Value.int .u8 (.ofNat c.toNat))++List.replicate (nc - l.length) (Value.int .u8 0)⟩ e)).shape? w.heap.size=some (e,nc):=by
     have hat:=heap_alloc_at w.drew (.cells ⟨(l.map fun c=>Value.int .u8 (.ofNat c.toNat))++List.replicate (nc - l.length) (Value.int .u8 0)⟩ e)
     have hat' : (w.drew.alloc (.cells ⟨(l.map fun c=>Value.int .u8 (.ofNat c.toNat))++List.replicate (nc - l.length) (Value.int .u8 0)⟩ e)).heap[w.heap.size]? = _:=hat
     simp only [World.shape?,hat',hsz]
    have hconv : (Conv.stringToBytes e ⟨⟨l⟩⟩).run P w = .ok (.slice (some ⟨w.heap.size,0,none⟩) l.length nc) (w.drew.alloc (.cells ⟨(l.map fun c=>Value.int .u8 (.ofNat c.toNat))++List.replicate (nc - l.length) (Value.int .u8 0)⟩ e (nc,nc + 1))):=by
     rw [← hfz]
     unfold Conv.stringToBytes
     rw [Sem.run_bind,hch]
     simp only [Result.andThen_ok,hel,newRow,Sem.run_bind,run_newObj,Sem.run_pure,World.alloc_eq]
     have hsz2 : nc - (⟨⟨l⟩⟩ : ByteArray).size=nc - l.length:=rfl
     rw [hsz2,hrest]
     have hd : w.drew.heap.size=w.heap.size:=rfl
     simp only [markStringish,Sem.run_bind,run_shape,Result.andThen_ok,hd,hshape,run_freeze,Sem.run_pure]
     rfl
    simp only [execOp,e1,Go.convert,Sem.run_bind,hu1,hu2,hu3,Result.andThen_ok,Sem.run_pure,hconv]
   ·have:=BR.fresh (φ := φ') (w:=w') (b:=w.heap.size) (esz:=1) (fr:=(nc,nc + 1)) (hv.mono hl) hw (fun i hi=>by rw [hlen] at hi;simp;omega) (fun h=>by cases h)
    rw [hlen] at this
    exact this
  ·cases h
 ·cases h
end
end Go.Ev
set_option linter.unusedVariables false
set_option linter.unusedSimpArgs false
namespace Go.Ev
open Go.Sep
section
variable {P : Program} (T : Tab P) {φ : Ren} {ρ : Nat→Option Value} {a : Act} {pin : World} {X : Nat→Obj→Prop} {s : S} {w : World}
def KU (T : Tab P) : KK→TypeDesc→Prop
 | .int,u => ∃ k,u = .int k
 | .str,u=>u = .string
 | .ptr,u => ∃ e i,u = .pointer e∧T.get e=some i∧i.size ≠ 0
theorem mapT_get {t : TypeId} {kk : KK} {ei : TI} (h : mapT T.get t=some (kk,ei)) : ∃ mi k e ki,T.get t=some mi∧mi.u = .map k e∧T.get k=some ki∧T.get e=some ei∧KU T kk ki.u:=by
 unfold mapT at h
 split at h
 ·rename_i k e _ _ _ hg
  split at h
  ·rename_i ki ei' hk he
   split at h
   ·rename_i kd hu
    cases h
    exact ⟨_,k,e,ki,hg,rfl,hk,he,⟨_,hu⟩⟩
   ·rename_i hu
    cases h
    exact ⟨_,k,e,ki,hg,rfl,hk,he,hu⟩
   ·rename_i e0 hu
    split at h
    ·rename_i i0 hi0
     cases hb : Nat.beq i0.size 0 with
     | true=>simp [hb] at h
     | false =>
      simp only [hb,cond_false,Option.some.injEq,Prod.mk.injEq] at h
      obtain ⟨rfl,rfl⟩:=h
      exact ⟨_,k,e,ki,hg,rfl,hk,he,⟨e0,i0,hu,hi0,Nat.ne_of_beq_eq_false hb⟩⟩
    ·cases h
   ·cases h
  ·cases h
 ·cases h
theorem run_checkKey {b : Bool} {kt : TypeId} {ki : TI} {kk : KK} (hk : T.get kt=some ki) (hu : KU T kk ki.u) (v : Value) (n : Nat) (w : World) : (Instr.checkKey b (n + 1) kt v).run P w = .ok () w:=by
 have hr:=T.run_underlying w hk
 cases kk with
 | int=>obtain ⟨k,hu⟩:=hu;rw [hu] at hr;simp only [Instr.checkKey,Sem.run_bind,hr,Result.andThen_ok,Sem.run_pure]
 | str=>rw [show ki.u = .string from hu] at hr;simp only [Instr.checkKey,Sem.run_bind,hr,Result.andThen_ok,Sem.run_pure]
 | ptr=>obtain ⟨e,i,hu,_⟩:=hu;rw [hu] at hr;simp only [Instr.checkKey,Sem.run_bind,hr,Result.andThen_ok,Sem.run_pure]
def FR (φ : Ren) : Option (Nat × Value)→Option (Nat × Value)→Prop
 | none,none=>True
 | some (i,v),some (j,u)=>i=j∧VR φ v u
 | _,_=>False
def up (d : Nat) : Option (Nat × Value)→Option (Nat × Value)
 | none=>none
 | some (i,v)=>some (i + d,v)
theorem find_cons (m : Tr Blk) (kk : KK) (k : Value) (e : Value × Value) (es : List (Value × Value)) : find m kk k (e :: es)=match keyIs m kk k e.1 with
  | some true=>some (some (0,e.2))
  | some false=>(match find m kk k es with
   | some (some (i,v))=>some (some (i + 1,v))
   | some none=>some none
   | none=>none)
  | none=>none:=rfl
theorem keyIs_now {m : Tr Blk} {kk : KK} {k e k' e' : Value} {b : Bool} {u : TypeDesc} (h : keyIs m kk k e=some b) (hu : (kk = .int ∧ ∃ j,u = .int j) ∨ (kk = .str∧u = .string)) (hk : VR φ k k') (he : VR φ e e') : Instr.sameNow u k' e' = some b:=by
 rcases hu with ⟨rfl,j,rfl⟩ | ⟨rfl,rfl⟩
 ·simp only [keyIs] at h
  split at h
  ·rename_i j a j' b'
   have e1:=hk.flat_inv rfl
   have e2:=he.flat_inv rfl
   subst e1;subst e2
   cases hb : kbeq j j' with
   | false=>simp [hb] at h
   | true =>
    have:=kbeq_eq hb
    subst this
    simp only [hb,cond_true,Option.some.injEq] at h
    subst h
    simp [Instr.sameNow,beq_dec]
  ·cases h
 ·simp only [keyIs] at h
  split at h
  ·have e1:=hk.flat_inv rfl
   have e2:=he.flat_inv rfl
   subst e1;subst e2
   cases h
   rename_i a b
   simp only [Instr.sameNow,strEq_eq]
   congr 1
   rw [Bool.eq_iff_iff]
   show ((⟨a⟩ : Array UInt8) == ⟨b⟩)=true ↔ _
   simp
  ·cases h
theorem findNow_run {m : Tr Blk} {kk : KK} {k k' : Value} {u : TypeDesc} (hu : (kk = .int ∧ ∃ j,u = .int j) ∨ (kk = .str∧u = .string)) (hk : VR φ k k') :
  ∀ {es : List (Value × Value)} {ents : List MapEntry} {r : Option (Nat × Value)} (d : Nat),PairsR φ es ents→find m kk k es=some r → ∃ r',Instr.findNow u k' ents d=some (up d r')∧FR φ r r'
 | [],[],r,d,_,h=>by cases h;exact ⟨none,rfl,trivial⟩
 | [],_ :: _,_,_,h,_=>h.elim
 | _ :: _,[],_,_,h,_=>h.elim
 | (ek,ev) :: es,en :: ents,r,d,hp,h=>by
  rw [find_cons] at h
  split at h
  ·rename_i hb
   cases h
   have:=keyIs_now (φ := φ) hb hu hk hp.1
   exact ⟨some (0,en.val),by simp [Instr.findNow,this,up],rfl,hp.2.1⟩
  ·rename_i hb
   have h1:=keyIs_now (φ := φ) hb hu hk hp.1
   split at h
   ·rename_i i v hf
    cases h
    obtain ⟨r',g1,g2⟩:=findNow_run hu hk (d + 1) hp.2.2 hf
    cases r' with
    | none=>exact g2.elim
    | some r' =>
     obtain ⟨j,u'⟩:=r'
     obtain ⟨rfl,g3⟩:=g2
     refine ⟨some (i + 1,u'), ?_,rfl,g3⟩
     simp only [Instr.findNow,h1,g1,up]
     congr 3
     omega
   ·rename_i hf
    cases h
    obtain ⟨r',g1,g2⟩:=findNow_run hu hk (d + 1) hp.2.2 hf
    cases r' with
    | none=>exact ⟨none,by simp only [Instr.findNow,h1,g1,up],trivial⟩
    | some r'=>exact g2.elim
   ·cases h
  ·cases h
theorem keyIs_ptr (hR : Rel pin X φ s w) {k e k' e' : Value} {b : Bool} {kt : TypeId} {ki : TI} (hkt : T.get kt=some ki) (hu : KU T .ptr ki.u) (h : keyIs s.m .ptr k e=some b) (hk : VR φ k k') (he : VR φ e e') (d : Nat) :
  (∃ x y,k' = .pointer (some x)∧e' = .pointer (some y))∧(Op.equalIn (d + 1) kt k' e').run P w = .ok b w:=by
 obtain ⟨e0,i0,hu1,hu2,hu3⟩:=hu
 have hr:=T.run_underlying w hkt
 rw [hu1] at hr
 have hs:=T.run_sizeOf w hu2
 simp only [keyIs] at h
 split at h
 ·rename_i i o j p
  split at h
  ·rename_i csi csj hi hj
   obtain ⟨L,hL,_,e1⟩:=hk.ptr_inv
   obtain ⟨M,hM,_,e2⟩:=he.ptr_inv
   subst e1;subst e2
   refine ⟨⟨_,_,rfl,rfl⟩, ?_⟩
   cases h
   by_cases hij : i=j
   ·subst hij
    rw [hL] at hM;cases hM
    have hb : Nat.beq i i=true:=Nat.beq_refl i
    simp only [Op.equalIn,Sem.run_bind,hr,Result.andThen_ok,hs,hu3,ne_eq,not_false_eq_true,if_true,sameAddr,beq_self_eq_true,Sem.run_pure,hb,Bool.true_and]
    congr 1
    rw [Bool.eq_iff_iff]
    simp
   ·obtain ⟨L',h1,h2⟩:=hR.live i _ hi
    rw [hL] at h1;cases h1
    obtain ⟨M',g1,g2⟩:=hR.live j _ hj
    rw [hM] at g1;cases g1
    have hne : L.b ≠ M.b:=fun e=>hij (hR.inj i j _ _ L M hi hj hL hM e)
    obtain ⟨_,l1,et1,fr1,a1,_,a3,_⟩:=h2
    obtain ⟨_,l2,et2,fr2,b1,_,b3,_⟩:=g2
    have a3:=a3 rfl
    have b3:=b3 rfl
    subst a3;subst b3
    have hb : Nat.beq i j=false:=by
     cases hq : Nat.beq i j with
     | false=>rfl
     | true=>exact absurd (Nat.eq_of_beq_eq_true hq) hij
    have f1 : ∀ o,w.frozen? ⟨L.b,o,none⟩ = false:=fun o=>by simp [World.frozen?,a1]
    have f2 : ∀ o,w.frozen? ⟨M.b,o,none⟩ = false:=fun o=>by simp [World.frozen?,b1]
    have s1 : w.shape? L.b=some (et1,l1.length):=by simp [World.shape?,a1]
    have s2 : w.shape? M.b=some (et2,l2.length):=by simp [World.shape?,b1]
    have hsame : ∀ o p,(sameAddr ⟨L.b,o,none⟩ ⟨M.b,p,none⟩).run P w = .ok false w:=fun o p=>by
     simp [sameAddr,hne,f1,f2,noView,viewAt,s1,s2,mayBeOne,stringish]
    simp only [Op.equalIn,Sem.run_bind,hr,Result.andThen_ok,hs,hu3,ne_eq,not_false_eq_true,if_true,hsame,hb,Bool.false_and]
  ·cases h
 ·cases h
theorem findAsk_run (hR : Rel pin X φ s w) {k k' : Value} {kt : TypeId} {ki : TI} (hkt : T.get kt=some ki) (hu : KU T .ptr ki.u) (hk : VR φ k k') :
  ∀ {es : List (Value × Value)} {ents : List MapEntry} {r : Option (Nat × Value)} (d : Nat),PairsR φ es ents→find s.m .ptr k es=some r → ∃ r',(Instr.findAsking kt k' ents d).run P w = .ok (up d r') w∧FR φ r r'
 | [],[],r,d,_,h=>by cases h;exact ⟨none,rfl,trivial⟩
 | [],_ :: _,_,_,h,_=>h.elim
 | _ :: _,[],_,_,h,_=>h.elim
 | (ek,ev) :: es,en :: ents,r,d,hp,h=>by
  rw [find_cons] at h
  split at h
  ·rename_i hb
   cases h
   have:=(keyIs_ptr T hR hkt hu hb hk hp.1 9999).2
   refine ⟨some (0,en.val), ?_,rfl,hp.2.1⟩
   have e1 : Op.equal kt k' en.key=Op.equalIn (9999 + 1) kt k' en.key:=rfl
   simp only [Instr.findAsking,Sem.run_bind,e1,this,Result.andThen_ok,if_true,Sem.run_pure,up,Nat.zero_add]
  ·rename_i hb
   have h1:=(keyIs_ptr T hR hkt hu hb hk hp.1 9999).2
   have e1 : Op.equal kt k' en.key=Op.equalIn (9999 + 1) kt k' en.key:=rfl
   split at h
   ·rename_i i v hf
    cases h
    obtain ⟨r',g1,g2⟩:=findAsk_run hR hkt hu hk (d + 1) hp.2.2 hf
    cases r' with
    | none=>exact g2.elim
    | some r' =>
     obtain ⟨j,u'⟩:=r'
     obtain ⟨rfl,g3⟩:=g2
     refine ⟨some (i + 1,u'), ?_,rfl,g3⟩
     simp only [Instr.findAsking,Sem.run_bind,e1,h1,Result.andThen_ok,Bool.false_eq_true,if_false,g1,up]
     congr 3
     omega
   ·rename_i hf
    cases h
    obtain ⟨r',g1,g2⟩:=findAsk_run hR hkt hu hk (d + 1) hp.2.2 hf
    cases r' with
    | none=>exact ⟨none,by simp only [Instr.findAsking,Sem.run_bind,e1,h1,Result.andThen_ok,Bool.false_eq_true,if_false,g1,up],trivial⟩
    | some r'=>exact g2.elim
   ·cases h
  ·cases h
theorem up_zero (r : Option (Nat × Value)) : up 0 r=r:=by cases r <;> rfl
theorem findKey_run (hR : Rel pin X φ s w) {kk : KK} {k k' : Value} {kt : TypeId} {ki : TI} (hkt : T.get kt=some ki) (hu : KU T kk ki.u) (hk : VR φ k k') {es : List (Value × Value)} {ents : List MapEntry} {r : Option (Nat × Value)} (hp : PairsR φ es ents) (h : find s.m kk k es=some r) :
  ∃ r',(Instr.findKey kt k' ents).run P w = .ok r' w∧FR φ r r':=by
 have hr:=T.run_underlying w hkt
 cases kk with
 | int =>
  obtain ⟨r',g1,g2⟩:=findNow_run (φ := φ) (u:=ki.u) (.inl ⟨rfl,hu⟩) hk 0 hp h
  rw [up_zero] at g1
  exact ⟨r',by simp only [Instr.findKey,Sem.run_bind,hr,Result.andThen_ok,g1,Sem.run_pure],g2⟩
 | str =>
  obtain ⟨r',g1,g2⟩:=findNow_run (φ := φ) (u:=ki.u) (.inr ⟨rfl,hu⟩) hk 0 hp h
  rw [up_zero] at g1
  exact ⟨r',by simp only [Instr.findKey,Sem.run_bind,hr,Result.andThen_ok,g1,Sem.run_pure],g2⟩
 | ptr =>
  obtain ⟨r',g1,g2⟩:=findAsk_run T hR hkt hu hk 0 hp h
  rw [up_zero] at g1
  refine ⟨r', ?_,g2⟩
  obtain ⟨e0,i0,hu1,hu2,hu3⟩:=hu
  rw [hu1] at hr
  simp only [Instr.findKey,Sem.run_bind,hr,Result.andThen_ok]
  match es,ents,hp,h with
  | [],[],_,h=>cases h;cases r' <;> first | rfl | exact g2.elim
  | (ek,ev) :: es,en :: ents,hp,h=>exact g1
theorem opR_run (hA : ER φ ρ a) (hR : Rel pin X φ s w) {o : Oper} {v : Value} (h : opR T.get ρ s.m o.op=some v) : ∃ u,VR φ v u∧(execOp a.eval o).run P w = .ok (.value u) w:=by
 obtain ⟨dst,op,ty,pos,after,guard⟩:=o
 simp only at h
 unfold opR at h
 split at h
 ·
  split at h
  ·rename_i b o hx
   split at h
   ·rename_i cs esz hb
    obtain ⟨L,hL,_,e1⟩:=(hA.ev hx).ptr_inv
    obtain ⟨L',g1,g2⟩:=hR.live b _ hb
    rw [hL] at g1;cases g1
    obtain ⟨us,k1,k2⟩:=g2.cells
    obtain ⟨u,k3,k4⟩:=getC_load T k1 h
    refine ⟨u,k4, ?_⟩
    have:=run_loadVar T k2 k3
    simp only [execOp,e1,Sem.run_bind,Instr.loadAt,Instr.sureAddr,Sem.run_pure,Result.andThen_ok,this]
   ·cases h
  ·cases h
 ·
  rename_i t x k ok
  split at h
  ·rename_i b kv kk ei hx hk hm
   split at h
   ·rename_i es hb
    obtain ⟨mi,kt,e,ki,m1,m2,m3,m4,m5⟩:=mapT_get T hm
    have e1 : ∃ L, φ b=some L∧a.eval x = .map (some L.b):=by
     have:=hA.ev hx
     generalize a.eval x=xv at this
     cases this with
     | same h=>cases h
     | map h=>exact ⟨_,h,rfl⟩
    obtain ⟨L,hL,e1⟩:=e1
    obtain ⟨L',g1,g2⟩:=hR.live b _ hb
    rw [hL] at g1;cases g1
    obtain ⟨ents,clock,k1,k2⟩:=g2
    have hu:=T.run_underlying w m1
    rw [m2] at hu
    have hget : (getObj L.b).run P w = .ok (.map ents clock) w:=by simp only [getObj,Sem.run,k1]
    have hck:=run_checkKey T (b:=ents.isEmpty) m3 m5 (a.eval k) 9999 w
    have hz:=T.run_zero w m4
    split at h
    ·rename_i i v' hf
     cases h
     obtain ⟨r',f1,f2⟩:=findKey_run T hR m3 m5 (hA.ev hk) k2 hf
     cases r' with
     | none=>exact f2.elim
     | some r' =>
      obtain ⟨j,u⟩:=r'
      refine ⟨if ok then .tuple #[u, .bool true] else u, ?_, ?_⟩
      ·cases ok with
       | true=>exact .tuple (.cons f2.2 (.cons (.same rfl) .nil))
       | false=>exact f2.2
      ·have : (Instr.lookup t (.map (some L.b)) (a.eval k) ok).run P w = .ok (if ok then .tuple #[u, .bool true] else u) w:=by
        simp only [Instr.lookup,Sem.run_bind,hu,Result.andThen_ok,hget,Sem.run_pure]
        rw [hck]
        simp only [Result.andThen_ok,f1,Sem.run_bind,Sem.run_pure]
       simp only [execOp,e1,Sem.run_bind,this,Result.andThen_ok,Sem.run_pure]
    ·rename_i hf
     obtain ⟨r',f1,f2⟩:=findKey_run T hR m3 m5 (hA.ev hk) k2 hf
     cases hc : clo ei.zero with
     | false=>simp [hc] at h
     | true =>
      simp only [hc,cond_true,Option.some.injEq] at h
      subst h
      cases r' with
      | some r'=>exact f2.elim
      | none =>
       refine ⟨if ok then .tuple #[ei.zero, .bool false] else ei.zero, ?_, ?_⟩
       ·cases ok with
        | true=>exact .tuple (.cons (VR.ofClo hc) (.cons (.same rfl) .nil))
        | false=>exact VR.ofClo hc
       ·have : (Instr.lookup t (.map (some L.b)) (a.eval k) ok).run P w = .ok (if ok then .tuple #[ei.zero, .bool false] else ei.zero) w:=by
         simp only [Instr.lookup,Sem.run_bind,hu,Result.andThen_ok,hget,Sem.run_pure]
         rw [hck]
         simp only [Result.andThen_ok,f1,Sem.run_bind,hz,Sem.run_pure]
        simp only [execOp,e1,Sem.run_bind,this,Result.andThen_ok,Sem.run_pure]
    ·cases h
   ·cases h
  ·cases h
 ·
  rename_i x t
  split at h
  ·rename_i b k e _ _ _ hx hg
   split at h
   ·rename_i es hb
    cases h
    have e1 : ∃ L, φ b=some L∧a.eval x = .map (some L.b):=by
     have:=hA.ev hx
     generalize a.eval x=xv at this
     cases this with
     | same h=>cases h
     | map h=>exact ⟨_,h,rfl⟩
    obtain ⟨L,hL,e1⟩:=e1
    obtain ⟨L',g1,g2⟩:=hR.live b _ hb
    rw [hL] at g1;cases g1
    obtain ⟨ents,clock,k1,k2⟩:=g2
    have hu:=T.run_underlying w hg
    have hget : (getObj L.b).run P w = .ok (.map ents clock) w:=by simp only [getObj,Sem.run,k1]
    have hlen : ∀ {es : List (Value × Value)} {ents : List MapEntry},PairsR φ es ents→es.length=ents.length:=by
     intro es
     induction es with
     | nil=>intro ents h;cases ents <;> first | rfl | exact h.elim
     | cons x es ih=>intro ents h;cases ents with
      | nil=>exact h.elim
      | cons en ents=>simp [ih h.2.2]
    have hl:=hlen k2
    refine ⟨_, .same rfl, ?_⟩
    have hl' : es.length=ents.size:=by rw [hl];simp
    have hlen : (Builtin.len_ #[t] ty #[.map (some L.b)]).run P w = .ok (.int .i64 (.ofNat es.length)) w:=by
     simp only [Builtin.len_,List.getElem?_toArray,List.getElem?_cons_zero,Sem.run_bind,hu,Result.andThen_ok,hget,Sem.run_pure,goInt,hl']
     rfl
    simp only [execOp,resolve,invoke,builtin,Sem.run_bind,Sem.run_pure,Result.andThen_ok,List.map_toArray,List.map_cons,List.map_nil,e1,hlen]
   ·cases h
  ·cases h
 ·cases h
end
end Go.Ev
set_option linter.unusedVariables false
set_option linter.unusedSimpArgs false
namespace Go.Ev
open Go.Sep
section
variable {P : Program} (T : Tab P) {φ : Ren} {ρ : Nat→Option Value} {a : Act} {pin : World} {X : Nat→Obj→Prop} {s : S} {w : World}
theorem zeroCells_eq {z : Value} {zs : List Value} (h : z.cells = ⟨zs⟩) (n : Nat) : Builtin.zeroCells z.cells n = ⟨zeros zs n⟩:=by
 rw [h]
 exact zeros_row zs n zs.length rfl
theorem app_room {t t2 e ty : TypeId} {ei i2 : TI} (he : T.elem t=some (e,ei)) (h2 : T.get t2=some i2) (hz : ∀ k,i2.u ≠ .int k) {ad : Option Addr} {n c n2 : Nat} {y : Value} {ns : List Value} (hl : (Builtin.lenOf y).run P w = .ok n2 w)
  (hf : (Builtin.firstCells ei.size n2 y).run P w = .ok ⟨ns⟩ w) (hroom : n + n2 ≤ c) {w' : World} (hs : (match ad with
   | some a=>storeCells (a.add (n * ei.size)) ns
   | none=>pure ()).run P w = .ok () w') : (Builtin.append_ #[t,t2] ty #[.slice ad n c,y]).run P w = .ok (.slice ad (n + n2) c) w':=by
 obtain ⟨ti,h4,h5,h6⟩:=elem_get he
 obtain ⟨_,_,hu,_⟩:=T.ok t ti h4
 rw [h5] at hu
 obtain ⟨_,_,hu2,_⟩:=T.ok t2 i2 h2
 obtain ⟨info,q1,q2,q3,q4,q5⟩:=T.ok e ei h6
 have hm : (match i2.u with
  | .int _=>true
  | _=>false)=false:=by
  split
  ·rename_i k hk;exact absurd hk (hz k)
  ·rfl
 cases ad with
 | none => 
  simp only [Sem.run_pure] at hs
  cases hs
  simp [Builtin.append_,run_underlying hu,run_underlying hu2,sizeOf,typeInfo,q1,q3,hm,hl,hroom,hf]
 | some ad =>
  simp only at hs
  simp [Builtin.append_,run_underlying hu,run_underlying hu2,sizeOf,typeInfo,q1,q3,hm,hl,hroom,hf,hs]
theorem app_grow {t t2 e ty : TypeId} {ei i2 : TI} (he : T.elem t=some (e,ei)) (h2 : T.get t2=some i2) (hz : ∀ k,i2.u ≠ .int k) {ad : Option Addr} {n c n2 : Nat} {y : Value} {ns xs zs : List Value} (hl : (Builtin.lenOf y).run P w = .ok n2 w)
  (hf : (Builtin.firstCells ei.size n2 y).run P w.drew = .ok ⟨ns⟩ w.drew) (hx : (Builtin.firstCells ei.size n (.slice ad n c)).run P w.drew = .ok ⟨xs⟩ w.drew) (hroom : c < n + n2) (hzs : ei.zero.cells = ⟨zs⟩) (hb : 0 < ei.bytes) (hfit : (n + n2) * ei.bytes ≤ 140737488355328) :
  ∃ nc,n + n2 ≤ nc∧(Builtin.append_ #[t,t2] ty #[.slice ad n c,y]).run P w = .ok (.slice (some ⟨w.heap.size,0,none⟩) (n + n2) nc) (w.drew.alloc (.cells ⟨(xs++ns)++zeros zs (nc - (n + n2))⟩ e)):=by
 obtain ⟨ti,h4,h5,h6⟩:=elem_get he
 obtain ⟨_,_,hu,_⟩:=T.ok t ti h4
 rw [h5] at hu
 obtain ⟨_,_,hu2,_⟩:=T.ok t2 i2 h2
 obtain ⟨info,q1,q2,q3,q4,q5⟩:=T.ok e ei h6
 have hm : (match i2.u with
  | .int _=>true
  | _=>false)=false:=by
  split
  ·rename_i k hk;exact absurd hk (hz k)
  ·rfl
 have hbound : n + n2 ≤ 140737488355328:=Nat.le_trans (Nat.le_mul_of_pos_right _ hb) hfit
 have h48 : ¬ (Builtin.nextslicecap (n + n2) c * ei.bytes > 281474976710656):=by
  have:=growslice_fits hroom hfit
  omega
 obtain ⟨nc,hnc,hge⟩ : ∃ nc,nc=(Question.appendCap (n + n2) c e).cut (w.tape w.drawn (.appendCap (n + n2) c e))∧n + n2 ≤ nc:=⟨_,rfl,by simp [Question.cut]⟩
 have hnr : ¬ (n + n2 ≤ c):=by omega
 have hb0 : ei.bytes ≠ 0:=by omega
 have hmax : ¬ (9223372036854775807 < (n : Int) + (n2 : Int)):=by omega
 have hzc:=fun k=>zeroCells_eq hzs k
 refine ⟨nc,hge, ?_⟩
 simp [Builtin.append_,run_underlying hu,run_underlying hu2,sizeOf,typeInfo,zeroValue,q1,q3,q4,q5,hm,hl,hnr,hx,hf,h48,hmax,Question.forced,newRow,← hnc,IntKind.max,IntKind.signed,IntKind.bits,hb0,hzc]
theorem app_growZ {t t2 e ty : TypeId} {ei i2 : TI} (he : T.elem t=some (e,ei)) (h2 : T.get t2=some i2) {kz : IntKind} (hz : i2.u = .int kz) {ad : Option Addr} {n c n2 : Nat} {xs zs : List Value}
  (hx : (Builtin.firstCells ei.size n (.slice ad n c)).run P w.drew = .ok ⟨xs⟩ w.drew) (hroom : c < n + n2) (hzs : ei.zero.cells = ⟨zs⟩) (hzl : zs.length=ei.size) (hb : 0 < ei.bytes) (hfit : (n + n2) * ei.bytes ≤ 140737488355328) :
  ∃ nc,n + n2 ≤ nc∧(Builtin.append_ #[t,t2] ty #[.slice ad n c, .int .i64 (n2 : Int)]).run P w = .ok (.slice (some ⟨w.heap.size,0,none⟩) (n + n2) nc) (w.drew.alloc (.cells ⟨(xs++zeros zs n2)++zeros zs (nc - (n + n2))⟩ e)):=by
 obtain ⟨ti,h4,h5,h6⟩:=elem_get he
 obtain ⟨_,_,hu,_⟩:=T.ok t ti h4
 rw [h5] at hu
 obtain ⟨_,_,hu2,_⟩:=T.ok t2 i2 h2
 rw [hz] at hu2
 obtain ⟨info,q1,q2,q3,q4,q5⟩:=T.ok e ei h6
 have hbound : n + n2 ≤ 140737488355328:=Nat.le_trans (Nat.le_mul_of_pos_right _ hb) hfit
 have h48 : ¬ (Builtin.nextslicecap (n + n2) c * ei.bytes > 281474976710656):=by
  have:=growslice_fits hroom hfit
  omega
 obtain ⟨nc,hnc,hge⟩ : ∃ nc,nc=(Question.appendCap (n + n2) c e).cut (w.tape w.drawn (.appendCap (n + n2) c e))∧n + n2 ≤ nc:=⟨_,rfl,by simp [Question.cut]⟩
 have hnr : ¬ (n + n2 ≤ c):=by omega
 have hb0 : ei.bytes ≠ 0:=by omega
 have hmax : ¬ (9223372036854775807 < (n : Int) + (n2 : Int)):=by omega
 have hzc:=fun k=>zeroCells_eq hzs k
 have hzb : ¬ ((n2 : Int) * (ei.bytes : Int) > 281474976710656):=by
  have : n2 * ei.bytes ≤ 140737488355328:=Nat.le_trans (Nat.mul_le_mul_right _ (by omega)) hfit
  have h2 : ((n2 : Int) * (ei.bytes : Int))=((n2 * ei.bytes : Nat) : Int):=by simp
  rw [h2];omega
 have hwrap : IntKind.i64.wrap (n2 : Int)=(n2 : Int):=wrap64_in (by omega) (by omega)
 have hneg : ¬ ((n2 : Int) < 0):=by omega
 refine ⟨nc,hge, ?_⟩
 by_cases h0 : n2 * ei.size=0
 ·have hz0 : zeros zs n2=[]:=List.eq_nil_of_length_eq_zero (by rw [zeros_len,hzl];exact h0)
  have h0' : n2=0 ∨ ei.size=0:=by rcases Nat.mul_eq_zero.1 h0 with h | h <;> simp [h]
  simp [Builtin.append_,run_underlying hu,run_underlying hu2,sizeOf,typeInfo,zeroValue,q1,q3,q4,q5,asInt,asIntOf,hwrap,hneg,hzb,hnr,h48,hmax,hx,hz0,h0',Question.forced,newRow,← hnc,IntKind.max,IntKind.signed,IntKind.bits,hb0,hzc]
 ·have h0' : ¬ (n2=0 ∨ ei.size=0):=fun h=>h0 (by rcases h with h | h <;> simp [h])
  simp [Builtin.append_,run_underlying hu,run_underlying hu2,sizeOf,typeInfo,zeroValue,q1,q3,q4,q5,asInt,asIntOf,hwrap,hneg,hzb,hnr,h48,hmax,hx,h0',h0,Question.forced,newRow,← hnc,IntKind.max,IntKind.signed,IntKind.bits,hb0,hzc]
theorem app_roomZ {t t2 e ty : TypeId} {ei i2 : TI} (he : T.elem t=some (e,ei)) (h2 : T.get t2=some i2) {kz : IntKind} (hz : i2.u = .int kz) {ad : Option Addr} {n c n2 : Nat} {zs : List Value} (hzs : ei.zero.cells = ⟨zs⟩) (hzl : zs.length=ei.size) (hb : 0 < ei.bytes) (hfit : (n + n2) * ei.bytes ≤ 140737488355328)
  (hroom : n + n2 ≤ c) {w' : World} (hs : (match ad with
   | some a=>storeCells (a.add (n * ei.size)) (zeros zs n2)
   | none=>pure ()).run P w = .ok () w') : (Builtin.append_ #[t,t2] ty #[.slice ad n c, .int .i64 (n2 : Int)]).run P w = .ok (.slice ad (n + n2) c) w':=by
 obtain ⟨ti,h4,h5,h6⟩:=elem_get he
 obtain ⟨_,_,hu,_⟩:=T.ok t ti h4
 rw [h5] at hu
 obtain ⟨_,_,hu2,_⟩:=T.ok t2 i2 h2
 rw [hz] at hu2
 obtain ⟨info,q1,q2,q3,q4,q5⟩:=T.ok e ei h6
 have hbound : n + n2 ≤ 140737488355328:=Nat.le_trans (Nat.le_mul_of_pos_right _ hb) hfit
 have hzc:=fun k=>zeroCells_eq hzs k
 have hzb : ¬ ((n2 : Int) * (ei.bytes : Int) > 281474976710656):=by
  have : n2 * ei.bytes ≤ 140737488355328:=Nat.le_trans (Nat.mul_le_mul_right _ (by omega)) hfit
  have h2 : ((n2 : Int) * (ei.bytes : Int))=((n2 * ei.bytes : Nat) : Int):=by simp
  rw [h2];omega
 have hwrap : IntKind.i64.wrap (n2 : Int)=(n2 : Int):=wrap64_in (by omega) (by omega)
 have hneg : ¬ ((n2 : Int) < 0):=by omega
 by_cases h0 : n2 * ei.size=0
 ·have hz0 : zeros zs n2=[]:=List.eq_nil_of_length_eq_zero (by rw [zeros_len,hzl];exact h0)
  have h0' : n2=0 ∨ ei.size=0:=by rcases Nat.mul_eq_zero.1 h0 with h | h <;> simp [h]
  rw [hz0] at hs
  have hw : w=w':=by
   cases ad with
   | none=>simpa using hs
   | some ad=>simpa [storeCells] using hs
  subst hw
  cases ad <;> simp [Builtin.append_,run_underlying hu,run_underlying hu2,sizeOf,typeInfo,zeroValue,q1,q3,q4,q5,asInt,asIntOf,hwrap,hneg,hzb,hroom,h0',h0,hzc,storeCells]
 ·have h0' : ¬ (n2=0 ∨ ei.size=0):=fun h=>h0 (by rcases h with h | h <;> simp [h])
  cases ad with
  | none =>
   simp only [Sem.run_pure] at hs
   cases hs
   simp [Builtin.append_,run_underlying hu,run_underlying hu2,sizeOf,typeInfo,zeroValue,q1,q3,q4,q5,asInt,asIntOf,hwrap,hneg,hzb,hroom,h0',h0,hzc]
  | some ad =>
   simp only at hs
   simp [Builtin.append_,run_underlying hu,run_underlying hu2,sizeOf,typeInfo,zeroValue,q1,q3,q4,q5,asInt,asIntOf,hwrap,hneg,hzb,hroom,h0',h0,hzc,hs]
theorem Rel.first (hR : Rel pin X φ s w) {b o m sz c : Nat} {cs l : List Value} {esz : Nat} {L : Loc} (hb : s.m.at b=some (.cells cs esz)) (hL : φ b=some L) (ht : takeN (dropN cs o) (m * sz)=some l) :
  ∃ us,VRs φ l us ∧ ∀ w' : World,w'.heap=w.heap→(Builtin.firstCells sz m (.slice (some ⟨L.b,L.base + o,none⟩) m c)).run P w' = .ok ⟨us⟩ w':=by
 obtain ⟨L',g1,g2⟩:=hR.live b _ hb
 rw [hL] at g1;cases g1
 obtain ⟨vs,k1,k2⟩:=g2.cells
 obtain ⟨t1,t2⟩:=takeN_eq _ _ _ ht
 rw [dropN_eq] at t1 t2
 subst t1
 have hv:=(k1.drop o).take (m * sz)
 have hlen : ((vs.drop o).take (m * sz)).length=m * sz:=by
  rw [← hv.length]
  simp only [List.length_take]
  omega
 refine ⟨(vs.drop o).take (m * sz),hv,fun w' hw => ?_⟩
 have:=run_loadCells_list (P:=P) w' ⟨L.b,L.base + o,none⟩ ((vs.drop o).take (m * sz)) (fun j v hj=>by
  rw [addr_add,Nat.add_assoc]
  have hc : w'.cell? ⟨L.b,L.base + (o + j),none⟩ = w.cell? ⟨L.b,L.base + (o + j),none⟩:=by simp only [World.cell?,hw]
  rw [hc]
  refine k2 _ _ ?_
  rw [List.getElem?_take] at hj
  split at hj
  ·rwa [List.getElem?_drop] at hj
  ·cases hj)
 rw [hlen] at this
 simpa [Builtin.firstCells] using this
theorem news_run (hR : Rel pin X φ s w) {sz n2 : Nat} {z ns : List Value} {isI : Bool} {y y' : Value} (hz : VRs φ z z) (hy : VR φ y y') (h : news s.m sz z isI y=some (n2,ns)) :
  (isI=false ∧ ∃ us,VRs φ ns us∧(∀ w',(Builtin.lenOf y').run P w' = .ok n2 w') ∧ ∀ w' : World,w'.heap=w.heap→(Builtin.firstCells sz n2 y').run P w' = .ok ⟨us⟩ w') ∨
  (isI=true∧y' = .int .i64 (n2 : Int)∧ns=zeros z n2):=by
 unfold news at h
 split at h
 ·rename_i n c
  cases isI with
  | true=>simp at h
  | false =>
   simp only [cond_false] at h
   cases hb : Nat.beq n 0 with
   | false=>simp [hb] at h
   | true =>
    have:=Nat.eq_of_beq_eq_true hb
    subst this
    simp only [hb,cond_true,Option.some.injEq,Prod.mk.injEq] at h
    obtain ⟨rfl,rfl⟩:=h
    have e1:=hy.flat_inv rfl
    subst e1
    exact .inl ⟨rfl,[], .nil,fun w'=>by simp [Builtin.lenOf],fun w' _=>by simp [Builtin.firstCells]⟩
 ·rename_i b o n c
  cases isI with
  | true=>simp at h
  | false =>
   simp only [cond_false] at h
   obtain ⟨_,L,c',hL,e1,_⟩:=hy.slice_inv
   subst e1
   cases hb : Nat.beq n 0 with
   | true =>
    have:=Nat.eq_of_beq_eq_true hb
    subst this
    simp only [hb,cond_true,Option.some.injEq,Prod.mk.injEq] at h
    obtain ⟨rfl,rfl⟩:=h
    exact .inl ⟨rfl,[], .nil,fun w'=>by simp [Builtin.lenOf],fun w' _=>by
     have:=run_loadCells_list (P:=P) w' ⟨L.b,L.base + o,none⟩ [] (by simp)
     simpa [Builtin.firstCells] using this⟩
   | false =>
    simp only [hb,cond_false] at h
    split at h
    ·rename_i cs esz hbl
     split at h
     ·rename_i l hl
      cases h
      obtain ⟨us,h1,h2⟩:=hR.first (P:=P) (c:=c') hbl hL hl
      exact .inl ⟨rfl,us,h1,fun w'=>by simp [Builtin.lenOf],h2⟩
     ·cases h
    ·cases h
 ·rename_i l
  cases isI with
  | true=>simp at h
  | false =>
   simp only [cond_false,Option.some.injEq,Prod.mk.injEq] at h
   obtain ⟨rfl,rfl⟩:=h
   have e1:=hy.flat_inv rfl
   subst e1
   refine .inl ⟨rfl,_,VRs.ofFlat (flat_bytes l),fun w'=>by simp [Builtin.lenOf];rfl,fun w' _ => ?_⟩
   have hx : (⟨⟨l⟩⟩ : ByteArray).extract 0 l.length = ⟨⟨l⟩⟩:=by
    apply ByteArray.ext
    apply Array.ext'
    simp
   simp only [Builtin.firstCells,hx,Sem.run_pure]
   congr 1
   apply Array.ext'
   simp
 ·cases isI with
  | false=>simp at h
  | true =>
   simp only [cond_true,Option.some.injEq,Prod.mk.injEq] at h
   obtain ⟨rfl,rfl⟩:=h
   exact .inr ⟨rfl,hy.flat_inv rfl,rfl⟩
 ·cases h
structure AppR (P : Program) (w : World) (ei : TI) (n2 : Nat) (us : List Value) (run : Option Addr→Nat→Nat→Result Value) : Prop where
 room : ∀ ad n c w',n + n2 ≤ c→(n + n2) * ei.bytes ≤ 140737488355328→(match ad with
   | some a=>storeCells (a.add (n * ei.size)) us
   | none=>pure ()).run P w = .ok () w' → run ad n c = .ok (.slice ad (n + n2) c) w'
 grow : ∀ ad n c xs,(Builtin.firstCells ei.size n (.slice ad n c)).run P w.drew = .ok ⟨xs⟩ w.drew→c < n + n2→(n + n2) * ei.bytes ≤ 140737488355328 →
   ∃ nc e zs,n + n2 ≤ nc∧zs.length=ei.size∧run ad n c = .ok (.slice (some ⟨w.heap.size,0,none⟩) (n + n2) nc) (w.drew.alloc (.cells ⟨(xs++us)++zeros zs (nc - (n + n2))⟩ e))
theorem first_zero (sz : Nat) (ad : Option Addr) (c : Nat) (w : World) : (Builtin.firstCells sz 0 (.slice ad 0 c)).run P w = .ok ⟨[]⟩ w:=by
 cases ad with
 | none=>simp [Builtin.firstCells]
 | some ad =>
  have:=run_loadCells_list (P:=P) w ad [] (by simp)
  simpa [Builtin.firstCells] using this
theorem storeNil (ad : Option Addr) (k : Nat) (w : World) : (match ad with
   | some a=>storeCells (a.add k) []
   | none=>pure ()).run P w = .ok () w:=by cases ad <;> rfl
theorem appGrow_run (hR : Rel pin X φ s w) {ei : TI} {n2 : Nat} {us ns : List Value} {run : Option Addr→Nat→Nat→Result Value} (hA : AppR P w ei n2 us run) (hv : VRs φ ns us) (hl : ns.length=n2 * ei.size) {ad ad' : Option Addr} {n c c' : Nat} (hfit : (n + n2) * ei.bytes ≤ 140737488355328) (hlt : c' < n + n2)
  (hx : VR φ (.slice ad n c) (.slice ad' n c')) {v : Value} {s' : S} (h : appGrow s ei.size ad n n2 ns=some (v,s')) : ∃ φ' w' u,Grow s s' φ φ' ∧ Rel pin X φ' s' w' ∧ VR φ' v u∧run ad' n c' = .ok u w':=by
 unfold appGrow at h
 split at h
 ·rename_i l ho
  cases h
  have hxs : ∃ xs,VRs φ l xs∧(Builtin.firstCells ei.size n (.slice ad' n c')).run P w.drew = .ok ⟨xs⟩ w.drew∧l.length=n * ei.size:=by
   unfold oldOf at ho
   cases hn : Nat.beq n 0 with
   | true =>
    have:=Nat.eq_of_beq_eq_true hn
    subst this
    simp only [hn,cond_true,Option.some.injEq] at ho
    subst ho
    exact ⟨[], .nil,first_zero _ _ _ _,by simp⟩
   | false =>
    simp only [hn,cond_false] at ho
    split at ho
    ·rename_i b o
     split at ho
     ·rename_i cs esz hb
      obtain ⟨_,L,c2,hL,e1,_⟩:=hx.slice_inv
      cases e1
      obtain ⟨xs,h1,h2⟩:=hR.first (P:=P) (c:=c') hb hL ho
      refine ⟨xs,h1,h2 _ rfl, ?_⟩
      obtain ⟨t1,t2⟩:=takeN_eq _ _ _ ho
      rw [t1,List.length_take]
      omega
     ·cases ho
    ·cases ho
  obtain ⟨xs,x1,x2,x3⟩:=hxs
  obtain ⟨nc,e,zs,g1,g2,g3⟩:=hA.grow ad' n c' xs x2 hlt hfit
  have hlen : ((xs++us)++zeros zs (nc - (n + n2))).length=nc * ei.size:=by
   rw [List.length_append,List.length_append,← x1.length,← hv.length,x3,hl,zeros_len,g2,← Nat.add_mul,← Nat.add_mul]
   congr 1
   omega
  refine ⟨φ.ext s.next ⟨w.heap.size,0,nc * ei.size,ei.size⟩,_,_,Grow.ext1 hR.fresh, ?_, ?_,g3⟩
  ·have hle:=Ren.le_ext (φ := φ) (id:=s.next) (L:=⟨w.heap.size,0,nc * ei.size,ei.size⟩) hR.fresh
   have:=hR.drew.new (.cells ⟨(xs++us)++zeros zs (nc - (n + n2))⟩ e) ⟨w.heap.size,0,nc * ei.size,ei.size⟩ rfl (blk := .cells (l++ns) ei.size) (by
    have h1:=BR.fresh (φ := φ.ext s.next ⟨w.heap.size,0,nc * ei.size,ei.size⟩) (w:=w.drew.alloc (.cells ⟨(xs++us)++zeros zs (nc - (n + n2))⟩ e)) (b:=w.heap.size) (esz:=ei.size) (fr:=(0,0)) ((x1.append hv).mono hle) (heap_alloc_at w.drew _) (fun i _=>by simp) (fun _=>rfl)
    rw [hlen] at h1
    exact h1)
   exact this
  ·exact .sliceU (o:=0) (Ren.ext_self _ _ _) g1 (by simp)
 ·cases h
theorem appU_run (hR : Rel pin X φ s w) {ei : TI} {n2 : Nat} {us ns : List Value} {run : Option Addr→Nat→Nat→Result Value} (hA : AppR P w ei n2 us run) (hv : VRs φ ns us) (hl : ns.length=n2 * ei.size) (ho : ones ns=true) {b o n c' : Nat} {L : Loc} (hfit : (n + n2) * ei.bytes ≤ 140737488355328)
  (hL : φ b=some L) (hn : n ≤ c') (hc : o + c' * L.esz=L.n) {v : Value} {s' : S} (h : appU s ei.size b o n n2 ns=some (v,s')) : ∃ φ' w' u,Grow s s' φ φ' ∧ Rel pin X φ' s' w' ∧ VR φ' v u∧run (some ⟨L.b,L.base + o,none⟩) n c' = .ok u w':=by
 unfold appU at h
 split at h
 ·rename_i cs esz hb
  cases he : Nat.beq esz ei.size with
  | false=>simp [he] at h
  | true =>
   have he:=Nat.eq_of_beq_eq_true he
   subst he
   simp only [Nat.beq_refl,cond_true] at h
   split at h
   ·rename_i l ht
    cases h
    obtain ⟨L',g1,g2⟩:=hR.live b _ hb
    rw [hL] at g1;cases g1
    obtain ⟨h0,l0,et,fr,k1,k2,k3,k4,k5,k6⟩:=g2
    obtain ⟨t1,t2⟩:=takeN_eq _ _ _ ht
    rw [dropN_eq] at t1 t2
    have hll : l.length=n * ei.size:=by rw [t1,List.length_take];omega
    rw [h0] at hc
    have hul:=hv.length
    by_cases hroom : n + n2 ≤ c'
    ·
     have hmul : n * ei.size + n2 * ei.size ≤ c' * ei.size:=by rw [← Nat.add_mul];exact Nat.mul_le_mul_right _ hroom
     obtain ⟨w',r1,r2,r3⟩:=run_storeCellsW (P:=P) us L.b (L.base + (o + n * ei.size)) 0 w l0 et fr k1 k2 (ones_allOne hv ho) (by omega)
     have hrun:=hA.room (some ⟨L.b,L.base + o,none⟩) n c' w' hroom hfit (by simp only [addr_add,Nat.add_assoc];exact r1)
     have hxL : ∀ o, ¬ X L.b o:=fun o hx=>(hR.priv _ _ hx).2 b _ L hb hL rfl
     have hne : ∀ k blk M,(s.m.del b).at k=some blk → φ k=some M→M.b ≠ L.b:=fun k blk M hk hM e=>(Tr.at_del hk).1 (hR.inj k b _ _ M L (Tr.at_del hk).2 hb hM hL e).symm
     have f1 : Rel pin X φ ⟨s.m.del b,s.next⟩ w':=(hR.forget b).frame r2 hne hxL
     have f2:=f1.name (id:=s.next) (next:=s.next + 1) ⟨L.b,L.base + o,L.n - o,ei.size⟩ hR.fresh (Nat.lt_succ_self _) (Nat.le_succ _)
     have hle:=Ren.le_ext (φ := φ) (id:=s.next) (L:=⟨L.b,L.base + o,L.n - o,ei.size⟩) hR.fresh
     refine ⟨_,w',_,Grow.ext1 hR.fresh,f2.commit (Ren.ext_self _ _ _) ?_ (fun k blk M hkn hk hM => ?_) hxL, .sliceU (o:=0) (Ren.ext_self _ _ _) hroom (by simp only [Nat.zero_add];omega),hrun⟩
     ·refine ⟨rfl,_,et,fr,r3,by rw [putAt_length];exact k2,k3,by rw [putAt_length];simp only;omega,by rw [List.length_append,hll,hl];simp only;omega,fun j v hj => ?_⟩
      rw [putAt_get _ _ _ _ (by omega)]
      by_cases hlt : j < n * ei.size
      ·rw [List.getElem?_append_left (by omega),t1,List.getElem?_take,if_pos hlt,List.getElem?_drop] at hj
       rw [if_neg (by simp only;omega)]
       obtain ⟨u,p1,p2⟩:=k6 _ v hj
       refine ⟨u, ?_,p2.mono hle⟩
       simp only
       rw [Nat.add_assoc];exact p1
      ·rw [List.getElem?_append_right (by omega),hll] at hj
       have hjl:=(List.getElem?_eq_some_iff.1 hj).1
       rw [if_pos (by simp only;omega)]
       obtain ⟨u,p1,p2⟩:=hv.get hj
       refine ⟨u, ?_,p2.mono hle⟩
       rw [← p1]
       congr 1
       simp only
       omega
     ·rw [Ren.ext_ne hkn] at hM
      exact hne k blk M hk hM
    ·
     have hx : ∃ xs,VRs φ l xs∧(Builtin.firstCells ei.size n (.slice (some ⟨L.b,L.base + o,none⟩) n c')).run P w.drew = .ok ⟨xs⟩ w.drew:=by
      rw [← dropN_eq] at t1
      obtain ⟨xs,h1,h2⟩:=hR.first (P:=P) (c:=c') hb hL ht
      exact ⟨xs,h1,h2 _ rfl⟩
     obtain ⟨xs,x1,x2⟩:=hx
     obtain ⟨nc,e,zs,g1,g2,g3⟩:=hA.grow _ n c' xs x2 (by omega) hfit
     have hlen : ((xs++us)++zeros zs (nc - (n + n2))).length=nc * ei.size:=by
      rw [List.length_append,List.length_append,← x1.length,← hv.length,hll,hl,zeros_len,g2,← Nat.add_mul,← Nat.add_mul]
      congr 1
      omega
     have hle:=Ren.le_ext (φ := φ) (id:=s.next) (L:=⟨w.heap.size,0,nc * ei.size,ei.size⟩) hR.fresh
     refine ⟨φ.ext s.next ⟨w.heap.size,0,nc * ei.size,ei.size⟩,_,_,Grow.ext1 hR.fresh, ?_, .sliceU (o:=0) (Ren.ext_self _ _ _) g1 (by simp),g3⟩
     have:=(hR.forget b).drew.new (.cells ⟨(xs++us)++zeros zs (nc - (n + n2))⟩ e) ⟨w.heap.size,0,nc * ei.size,ei.size⟩ rfl (blk := .cells (l++ns) ei.size) (by
      have h1:=BR.fresh (φ := φ.ext s.next ⟨w.heap.size,0,nc * ei.size,ei.size⟩) (w:=w.drew.alloc (.cells ⟨(xs++us)++zeros zs (nc - (n + n2))⟩ e)) (b:=w.heap.size) (esz:=ei.size) (fr:=(0,0)) ((x1.append hv).mono hle) (heap_alloc_at w.drew _) (fun i _=>by simp) (fun _=>rfl)
      rw [hlen] at h1
      exact h1)
     exact this
   ·cases h
 ·cases h
theorem appX_run (hR : Rel pin X φ s w) {ei : TI} {n2 : Nat} {us ns : List Value} {run : Option Addr→Nat→Nat→Result Value} (hA : AppR P w ei n2 us run) (hv : VRs φ ns us) (hl : ns.length=n2 * ei.size) (ho : ones ns=true) {ad : Option Addr} {n c : Nat} (hfit : (n + n2) * ei.bytes ≤ 140737488355328)
  {x' : Value} (hx : VR φ (.slice ad n c) x') {v : Value} {s' : S} (h : appX s ei.size ad n c n2 ns=some (v,s')) : ∃ ad' c',x' = .slice ad' n c' ∧ ∃ φ' w' u,Grow s s' φ φ' ∧ Rel pin X φ' s' w' ∧ VR φ' v u∧run ad' n c' = .ok u w':=by
 have hUW : U < W:=by decide
 unfold appX at h
 cases h2 : Nat.beq n2 0 with
 | true =>
  have h2':=Nat.eq_of_beq_eq_true h2
  subst h2'
  simp only [h2,cond_true] at h
  cases hb : Nat.ble n c with
  | false=>simp [hb] at h
  | true =>
   simp only [hb,cond_true,Option.some.injEq,Prod.mk.injEq] at h
   obtain ⟨rfl,rfl⟩:=h
   have hnc:=Nat.le_of_ble_eq_true hb
   have hus : us=[]:=List.eq_nil_of_length_eq_zero (by rw [← hv.length,hl];simp)
   subst hus
   obtain ⟨ad',c',e1,hle⟩ : ∃ ad' c',x' = .slice ad' n c' ∧ n ≤ c':=by
    cases ad with
    | none=>exact ⟨_,_,hx.flat_inv rfl,hnc⟩
    | some ad =>
     obtain ⟨id,o,sp⟩:=ad
     obtain ⟨_,L,c',_,e1,hc⟩:=hx.slice_inv
     refine ⟨_,c',e1, ?_⟩
     rcases hc with hc | hc | hc
     ·rw [hc.2];exact hnc
     ·exact hc.2.1
     ·exact hc.2
   subst e1
   refine ⟨ad',c',rfl, φ,w,_,Grow.refl _ _,hR,hx, ?_⟩
   have:=hA.room ad' n c' w (by omega) hfit (storeNil _ _ _)
   simpa using this
 | false =>
  simp only [h2,cond_false] at h
  cases hU : Nat.beq c U with
  | true =>
   have hU':=Nat.eq_of_beq_eq_true hU
   simp only [hU,cond_true] at h
   split at h
   ·rename_i b o
    obtain ⟨_,L,c',hL,e1,hc⟩:=hx.slice_inv
    rcases hc with hc | hc | hc
    ·omega
    ·exact ⟨_,c',e1,appU_run hR hA hv hl ho hfit hL hc.2.1 hc.2.2 h⟩
    ·omega
   ·cases h
  | false =>
   simp only [hU,cond_false] at h
   cases hW : Nat.beq c W with
   | true=>simp [hW] at h
   | false =>
    simp only [hW,cond_false] at h
    have hU':=Nat.ne_of_beq_eq_false hU
    have hW':=Nat.ne_of_beq_eq_false hW
    cases hb : Nat.ble (n + n2) c with
    | true =>
     simp only [hb,cond_true] at h
     have hroom:=Nat.le_of_ble_eq_true hb
     split at h
     ·rename_i b o
      obtain ⟨_,L,c',hL,e1,hc⟩:=hx.slice_inv
      rcases hc with hc | hc | hc
      ·rw [hc.2] at e1
       refine ⟨_,c,e1, ?_⟩
       unfold appIn at h
       split at h
       ·rename_i cs esz hbl
        split at h
        ·rename_i cs' hs
         cases h
         obtain ⟨w',r1,r2⟩:=hR.write (P:=P) hbl hL hv ho hs
         have hrun:=hA.room (some ⟨L.b,L.base + o,none⟩) n c w' hroom hfit (by simp only [addr_add,Nat.add_assoc];exact r1)
         exact ⟨φ,w',_,⟨φ.le_refl,fun _ _=>rfl,Nat.le_refl _⟩,r2, .slice hL hc.1,hrun⟩
        ·cases h
       ·cases h
      ·exact absurd hc.1 hU'
      ·exact absurd hc.1 hW'
     ·cases h
    | false =>
     simp only [hb,cond_false] at h
     have hlt : c < n + n2:=by
      have:=Nat.ble_eq (x:=n + n2) (y:=c)
      rw [hb] at this
      have : ¬ n + n2 ≤ c:=fun hh=>by simp [hh] at this
      omega
     obtain ⟨ad',e1⟩ : ∃ ad',x' = .slice ad' n c:=by
      cases ad with
      | none=>exact ⟨_,hx.flat_inv rfl⟩
      | some ad =>
       obtain ⟨id,o,sp⟩:=ad
       obtain ⟨_,L,c',_,e1,hc⟩:=hx.slice_inv
       rcases hc with hc | hc | hc
       ·rw [hc.2] at e1;exact ⟨_,e1⟩
       ·exact absurd hc.1 hU'
       ·exact absurd hc.1 hW'
     subst e1
     exact ⟨ad',c,rfl,appGrow_run hR hA hv hl hfit hlt hx h⟩
end
end Go.Ev
set_option linter.unusedVariables false
set_option linter.unusedSimpArgs false
namespace Go.Ev
open Go.Sep
section
variable {P : Program} (T : Tab P) {φ : Ren} {ρ : Nat→Option Value} {a : Act} {pin : World} {X : Nat→Obj→Prop} {s : S} {w : World}
theorem appendE_run (hR : Rel pin X φ s w) {t t2 ty : TypeId} {x y x' y' v : Value} {s' : S} (hx : VR φ x x') (hy : VR φ y y') (h : appendE T.get s t t2 x y=some (v,s')) :
  ∃ φ' w' u,Grow s s' φ φ' ∧ Rel pin X φ' s' w' ∧ VR φ' v u∧(Builtin.append_ #[t,t2] ty #[x',y']).run P w = .ok u w':=by
 unfold appendE at h
 split at h
 ·rename_i e ei i2 he h2
  split at h
  ·rename_i z hz
   obtain ⟨z1,z2,z3⟩:=zc_eq (φ := φ) hz
   split at h
   ·rename_i n2 ns hn
    split at h
    ·rename_i ad n c
     cases hb : Nat.blt 0 ei.bytes && (Nat.ble ((n + n2) * ei.bytes) 140737488355328 && (ones ns && Nat.beq ns.length (n2 * ei.size))) with
     | false=>rw [hb] at h;cases h
     | true =>
      rw [hb] at h
      simp only [cond_true] at h
      simp only [Bool.and_eq_true] at hb
      obtain ⟨b1,b2,b3,b4⟩:=hb
      have b1 : 0 < ei.bytes:=by simpa [Nat.blt_eq] using b1
      have b2:=Nat.le_of_ble_eq_true b2
      have b4:=Nat.eq_of_beq_eq_true b4
      rcases news_run (P:=P) hR z1 hy hn with ⟨hI,us,g1,g2,g3⟩ | ⟨hI,hy',hns⟩
      ·have hzt : ∀ k,i2.u ≠ .int k:=fun k hk=>by rw [hk] at hI;cases hI
       have hA : AppR P w ei n2 us (fun ad n c=>(Builtin.append_ #[t,t2] ty #[.slice ad n c,y']).run P w) :=
        {room:=fun ad n c w' hr hf hs=>app_room T he h2 hzt (g2 w) (g3 w rfl) hr hs
         grow:=fun ad n c xs hx hlt hf=>by
          obtain ⟨nc,k1,k2⟩:=app_grow T (ty:=ty) he h2 hzt (g2 w) (g3 w.drew rfl) hx hlt z2 b1 hf
          exact ⟨nc,e,z,k1,z3,k2⟩ }
       obtain ⟨ad',c',e1, φ',w',u,r⟩:=appX_run hR hA g1 b4 b3 b2 hx h
       subst e1
       exact ⟨φ',w',u,r⟩
      ·subst hy'
       subst hns
       obtain ⟨kz,hk⟩ : ∃ k,i2.u = .int k:=by
        cases hu : i2.u with
        | int k=>exact ⟨k,rfl⟩
        | _=>rw [hu] at hI;cases hI
       have hA : AppR P w ei n2 (zeros z n2) (fun ad n c=>(Builtin.append_ #[t,t2] ty #[.slice ad n c, .int .i64 (n2 : Int)]).run P w) :=
        {room:=fun ad n c w' hr hf hs=>app_roomZ T he h2 hk z2 z3 b1 hf hr hs
         grow:=fun ad n c xs hx hlt hf=>by
          obtain ⟨nc,k1,k2⟩:=app_growZ T (ty:=ty) he h2 hk hx hlt z2 z3 b1 hf
          exact ⟨nc,e,z,k1,z3,k2⟩ }
       obtain ⟨ad',c',e1, φ',w',u,r⟩:=appX_run hR hA (zeros_VRs z1 n2) b4 b3 b2 hx h
       subst e1
       exact ⟨φ',w',u,r⟩
    ·cases h
   ·cases h
  ·cases h
 ·cases h
theorem copyE_run (hR : Rel pin X φ s w) {t t2 ty : TypeId} {x y x' y' v : Value} {s' : S} (hx : VR φ x x') (hy : VR φ y y') (h : copyE T.get s t t2 x y=some (v,s')) :
  ∃ w' u,Grow s s' φ φ ∧ Rel pin X φ s' w' ∧ VR φ v u∧(Builtin.copy_ #[t,t2] ty #[x',y']).run P w = .ok u w':=by
 unfold copyE at h
 split at h
 ·rename_i e ei _ ad n c ad2 n2 c2 he he2
  obtain ⟨ti,h4,h5,h6⟩:=elem_get he
  have hu:=T.run_underlying w h4
  rw [h5] at hu
  have hs:=T.run_sizeOf w h6
  have hsh : ∀ {ad : Option Addr} {n c : Nat} {x' : Value},VR φ (.slice ad n c) x' → ∃ ad' c',x' = .slice ad' n c':=by
   intro ad n c x' hx
   cases ad with
   | none=>exact ⟨_,_,hx.flat_inv rfl⟩
   | some ad =>
    obtain ⟨id,o,sp⟩:=ad
    obtain ⟨_,L,c',_,e1,_⟩:=hx.slice_inv
    exact ⟨_,_,e1⟩
  cases hb : Nat.beq (Nat.min n2 n) 0 with
  | true =>
   have hm:=Nat.eq_of_beq_eq_true hb
   simp only [hb,cond_true,Option.some.injEq,Prod.mk.injEq] at h
   obtain ⟨rfl,rfl⟩:=h
   obtain ⟨ad',c',e1⟩:=hsh hx
   obtain ⟨ad2',c2',e2⟩:=hsh hy
   subst e1;subst e2
   refine ⟨w,_,Grow.refl _ _,hR, .same rfl, ?_⟩
   have hf : (Builtin.firstCells ei.size 0 (.slice ad2' n2 c2')).run P w = .ok ⟨[]⟩ w:=by
    cases ad2' with
    | none=>simp [Builtin.firstCells]
    | some ad =>
     have:=run_loadCells_list (P:=P) w ad [] (by simp)
     simpa [Builtin.firstCells] using this
   cases ad' with
   | none=>simp [Builtin.copy_,hu,hs,Builtin.lenOf,hm,hf,goInt]
   | some ad'=>simp [Builtin.copy_,hu,hs,Builtin.lenOf,hm,hf,goInt,storeCells]
  | false =>
   simp only [hb,cond_false] at h
   split at h
   ·rename_i b o b2 o2
    split at h
    ·rename_i cs esz cs2 esz2 hb1 hb2
     split at h
     ·rename_i l hl
      cases ho : ones l with
      | false=>simp [ho] at h
      | true =>
       simp only [ho,cond_true] at h
       split at h
       ·rename_i cs' hsp
        cases h
        obtain ⟨_,L,c',hL,e1,_⟩:=hx.slice_inv
        obtain ⟨_,L2,c2',hL2,e2,_⟩:=hy.slice_inv
        subst e1;subst e2
        obtain ⟨us,u1,u2⟩:=hR.first (P:=P) (c:=c2') hb2 hL2 hl
        obtain ⟨w',r1,r2⟩:=hR.write (P:=P) hb1 hL u1 ho hsp
        refine ⟨w',_,⟨φ.le_refl,fun _ _=>rfl,Nat.le_refl _⟩,r2, .same rfl, ?_⟩
        have hf : (Builtin.firstCells ei.size (Nat.min n2 n) (.slice (some ⟨L2.b,L2.base + o2,none⟩) n2 c2')).run P w = .ok ⟨us⟩ w:=by
         have:=u2 w rfl
         simpa [Builtin.firstCells] using this
        simp [Builtin.copy_,hu,hs,Builtin.lenOf,hf,goInt,r1]
       ·cases h
     ·cases h
    ·cases h
   ·cases h
 ·cases h
theorem PairsR.push {φ : Ren} {k v : Value} {en : MapEntry} : ∀ {es : List (Value × Value)} {ents : List MapEntry},PairsR φ es ents→VR φ k en.key→VR φ v en.val→PairsR φ (es++[(k,v)]) (ents++[en])
 | [],[],_,hk,hv=>⟨hk,hv,trivial⟩
 | (_,_) :: _,_ :: _,h,hk,hv=>⟨h.1,h.2.1,PairsR.push h.2.2 hk hv⟩
 | [],_ :: _,h,_,_=>h.elim
 | _ :: _,[],h,_,_=>h.elim
theorem mapE_run (hR : Rel pin X φ s w) {t : TypeId} {x k v x' k' v' : Value} {s' : S} (hx : VR φ x x') (hk : VR φ k k') (hv : VR φ v v') (h : mapE T.get s t x k v=some s') :
  ∃ w',Grow s s' φ φ ∧ Rel pin X φ s' w' ∧ (Instr.mapUpdate t x' k' v').run P w = .ok () w':=by
 unfold mapE at h
 split at h
 ·rename_i b kd ei hm
  split at h
  ·rename_i es hb
   split at h
   ·cases h
   ·rename_i hf
    cases h
    obtain ⟨mi,kt,e,ki,m1,m2,m3,m4,m5⟩:=mapT_get T hm
    have e1 : ∃ L, φ b=some L∧x' = .map (some L.b):=by
     cases hx with
     | same h=>cases h
     | map h=>exact ⟨_,h,rfl⟩
    obtain ⟨L,hL,e1⟩:=e1
    subst e1
    obtain ⟨L',g1,g2⟩:=hR.live b _ hb
    rw [hL] at g1;cases g1
    obtain ⟨ents,clock,k1,k2⟩:=g2
    have hu:=T.run_underlying w m1
    rw [m2] at hu
    have hget : (getObj L.b).run P w = .ok (.map ents clock) w:=by simp only [getObj,Sem.run,k1]
    have hck:=run_checkKey T (b:=false) m3 m5 k' 9999 w
    obtain ⟨r',f1,f2⟩:=findKey_run T hR m3 m5 hk k2 hf
    cases r' with
    | some r'=>exact f2.elim
    | none =>
     refine ⟨{ w with heap:=w.heap.setIfInBounds L.b (.map (ents.push { key:=k',val:=v',born:=clock }) (clock + 1)) },⟨φ.le_refl,fun _ _=>rfl,Nat.le_refl _⟩, ?_, ?_⟩
     ·have hlt:=lt_of_heap k1
      refine hR.upd hb hL ⟨rfl,rfl,rfl,fun j hj=>heap_setObj_ne w _ (Ne.symm hj)⟩ ⟨ents.push { key:=k',val:=v',born:=clock },clock + 1, ?_, ?_⟩
      ·simp [hlt]
      ·rw [Array.toList_push]
       exact k2.push hk hv
     ·simp only [Instr.mapUpdate,Sem.run_bind,hu,Result.andThen_ok,hget]
      rw [hck]
      simp only [Result.andThen_ok,f1]
      simp [setObj,Sem.run,k1]
   ·cases h
  ·cases h
 ·cases h
def OutE (φ : Ren) (r : Result Next) (w' : World) : Option Value→Prop
 | none=>r = .ok .skip w'
 | some v => ∃ u,VR φ v u∧r = .ok (.value u) w'
theorem opE_run (hA : ER φ ρ a) (hR : Rel pin X φ s w) {o : Oper} {v : Option Value} {s' : S} (h : opE T.get ρ s o.op=some (v,s')) :
  ∃ φ' w',Grow s s' φ φ' ∧ Rel pin X φ' s' w' ∧ OutE φ' ((execOp a.eval o).run P w) w' v:=by
 obtain ⟨dst,op,ty,pos,after,guard⟩:=o
 simp only at h
 unfold opE at h
 split at h
 ·
  rename_i t x y
  split at h
  ·rename_i b o v' hx hy
   split at h
   ·rename_i cs esz vs hb hp
    cases ho : ones vs with
    | false=>simp [ho] at h
    | true =>
     simp only [ho,cond_true] at h
     split at h
     ·rename_i cs' hs
      cases h
      obtain ⟨L,hL,_,e1⟩:=(hA.ev hx).ptr_inv
      obtain ⟨ti,us,p1,p2,p3,p4⟩:=putC_eq T (hA.ev hy) hp
      obtain ⟨w',r1,r2⟩:=hR.write (P:=P) hb hL p3 ho hs
      refine ⟨φ,w',⟨φ.le_refl,fun _ _=>rfl,Nat.le_refl _⟩,r2, ?_⟩
      have hst : (storeVar t ⟨L.b,L.base + o,none⟩ (a.eval y)).run P w = .ok () w':=by
       simp only [storeVar,Sem.run_bind,T.run_sizeOf w p1,Result.andThen_ok,p2]
       have : ¬ (⟨us⟩ : Array Value).size ≠ ti.size:=by simp [← p3.length,p4]
       rw [if_neg this]
       simpa using r1
      simp only [OutE,execOp,e1,Instr.storeAt,Instr.sureAddr,Sem.run_bind,Sem.run_pure,Result.andThen_ok,hst]
     ·cases h
   ·cases h
  ·cases h
 ·
  split at h
  ·rename_i x k v' hx hk hv
   split at h
   ·rename_i s2 hm
    cases h
    obtain ⟨w',r0,r1,r2⟩:=mapE_run T hR (hA.ev hx) (hA.ev hk) (hA.ev hv) hm
    exact ⟨φ,w',r0,r1,by simp only [OutE,execOp,Sem.run_bind,r2,Result.andThen_ok,Sem.run_pure]⟩
   ·cases h
  ·cases h
 ·
  split at h
  ·rename_i x k v' hx hk hv
   split at h
   ·rename_i s2 hm
    cases h
    obtain ⟨w',r0,r1,r2⟩:=mapE_run T hR (hA.ev hx) (hA.ev hk) (hA.ev hv) hm
    exact ⟨φ,w',r0,r1,by simp only [OutE,execOp,Sem.run_bind,r2,Result.andThen_ok,Sem.run_pure]⟩
   ·cases h
  ·cases h
 ·
  rename_i x y t t2
  split at h
  ·rename_i xv yv hx hy
   split at h
   ·rename_i v' s2 hm
    cases h
    obtain ⟨φ',w',u,r1,r2,r3,r4⟩:=appendE_run T hR (ty:=ty) (hA.ev hx) (hA.ev hy) hm
    refine ⟨φ',w',r1,r2,u,r3, ?_⟩
    simp only [execOp,resolve,invoke,builtin,Sem.run_bind,Sem.run_pure,Result.andThen_ok,List.map_toArray,List.map_cons,List.map_nil,r4]
   ·cases h
  ·cases h
 ·
  rename_i x y t t2
  split at h
  ·rename_i xv yv hx hy
   split at h
   ·rename_i v' s2 hm
    cases h
    obtain ⟨w',u,r0,r2,r3,r4⟩:=copyE_run T hR (ty:=ty) (hA.ev hx) (hA.ev hy) hm
    refine ⟨φ,w',r0,r2,u,r3, ?_⟩
    simp only [execOp,resolve,invoke,builtin,Sem.run_bind,Sem.run_pure,Result.andThen_ok,List.map_toArray,List.map_cons,List.map_nil,r4]
   ·cases h
  ·cases h
 ·cases h
end
end Go.Ev
set_option linter.unusedVariables false
set_option linter.unusedSimpArgs false
namespace Go.Ev
open Go.Sep
structure EnvOk (P : Program) (T : Tab P) (E : Env0) : Prop where
 ti : E.ti=T.get
 ft : ∀ f fn,E.ft f=some fn→P.funcs[f]? = some fn∧Goes P f
 ix : ∀ l c w,c < 256→(callFunc E.ix ⟨[.string ⟨⟨l⟩⟩, .int .u8 (.ofNat c)]⟩).run P w = .ok (.value (.int .i64 (indexI c l))) w
 mixed : P.follows .mixedOrders=true
def DR (φ : Ren) : List Nat→List DItem→List Deferred→Prop
 | rs,[],[]=>rs=[]
 | rs, .fn f vs cap :: l,d :: ds=>(∃ vs' cap',d = { target := .fn (.func f) ⟨cap'⟩,args:=⟨vs'⟩ } ∧ VRs φ vs vs' ∧ VRs φ cap cap')∧DR φ rs l ds
 | r :: rs, .coll :: l,d :: ds=>d = { target := .collected r,args := #[] } ∧ DR φ rs l ds
 | _,_,_=>False
theorem DR.mono {φ φ' : Ren} (hl : φ.le φ') : ∀ {l : List DItem} {rs : List Nat} {ds : List Deferred},DR φ rs l ds→DR φ' rs l ds
 | [],rs,[],h=>by simpa [DR] using h
 | .fn f vs cap :: l,rs,d :: ds,h=>by
  simp only [DR] at h ⊢
  obtain ⟨⟨vs',cap',h1,h2,h3⟩,h4⟩:=h
  exact ⟨⟨vs',cap',h1,h2.mono hl,h3.mono hl⟩,h4.mono hl⟩
 | .coll :: l,r :: rs,d :: ds,h=>by
  simp only [DR] at h ⊢
  exact ⟨h.1,h.2.mono hl⟩
 | [],rs,_ :: _,h=>by simp [DR] at h
 | .fn _ _ _ :: _,rs,[],h=>by simp [DR] at h
 | .coll :: _,rs,[],h=>by cases rs <;> simp [DR] at h
 | .coll :: _,[],_ :: _,h=>by simp [DR] at h
structure OkF (pin : World) (X : Nat→Obj→Prop) (rs : List Nat) (φ : Ren) (f : F) (a : Act) (w : World) : Prop where
 n : f.n ≤ a.tmps.size
 e : ER φ (fun t=>f.ρ.at t) a
 d : DR φ rs f.d a.defers
 r : Rel pin X φ f.s w
def CallSound (P : Program) (pin : World) (call : Nat→List Value→S→R (Value × S)) : Prop :=
 ∀ g args s v s',call g args s = .ok (v,s')→Goes P g ∧ ∀ X φ w args',VRs φ args args' → Rel pin X φ s w →
  Calls P g ⟨args'⟩ w fun e w' => ∃ φ' u,e = .returned u∧Grow s s' φ φ' ∧ VR φ' v u∧Rel pin X φ' s' w'
section
variable {P : Program} {T : Tab P} {E : Env0} {self : Fns} {pin : World} {X : Nat→Obj→Prop} {rs : List Nat} {φ : Ren} {a : Act} {w : World} {f f' : F} {full rest : List Oper} {o : Oper}
theorem wantedQ_run {ρ : Nat→Option Value} (hA : ER φ ρ a) {b : Bool} (h : wantedQ ρ full o=some b) : Region.wanted o (yielded ⟨full⟩ a.tmps)=b:=by
 unfold wantedQ at h
 unfold Region.wanted
 split at h
 ·rename_i hg;rw [hg];cases h;rfl
 ·rename_i j want hg
  rw [hg]
  simp only
  rw [nth_eq] at h
  split at h
  ·rename_i oj hj
   split at h
   ·rename_i d hd
    split at h
    ·rename_i c hc
     obtain ⟨u,h1,h2⟩:=hA d _ hc
     have:=h2.flat_inv rfl
     subst this
     have hy : yielded ⟨full⟩ a.tmps j=some c:=by simp [yielded,hj,hd,h1]
     rw [hy]
     cases h
     cases want <;> cases c <;> rfl
    ·rename_i vs hc
     obtain ⟨u,h1,h2⟩:=hA d _ hc
     have hn : yielded ⟨full⟩ a.tmps j=none:=by
      cases h2 with
      | same h=>cases h
      | tuple h=>simp [yielded,hj,hd,h1]
     rw [hn]
     cases h;rfl
    ·cases h
   ·cases h
  ·cases h
theorem ER.put {n : Nat} {ρ : Tr Value} (hA : ER φ (fun t => ρ.at t) a) (hn : n ≤ a.tmps.size) {d : Nat} (hd : Nat.blt d n=true) {v u : Value} (hv : VR φ v u) : ER φ (fun t=>(ρ.put d v).at t) (a.put (some d) u):=by
 have hd : d < n:=by simpa [Nat.blt_eq] using hd
 intro t x hx
 rcases Tr.at_put hx with ⟨rfl,rfl⟩ | ⟨hne,hx⟩
 ·refine ⟨u, ?_,hv⟩
  have : d < a.tmps.size:=Nat.lt_of_lt_of_le hd hn
  simp [Act.put,this]
 ·obtain ⟨u',h1,h2⟩:=hA t x hx
  refine ⟨u', ?_,h2⟩
  simp only [Act.put]
  rw [Array.getElem?_setIfInBounds_ne hne]
  exact h1
theorem putF_s {d : Option Nat} {v : Value} (h : putF f d v=some f') : f'.s=f.s:=by
 unfold putF at h
 split at h
 ·rename_i d
  cases hb : Nat.blt d f.n with
  | false=>simp [hb] at h
  | true=>simp only [hb,cond_true,Option.some.injEq] at h;subst h;rfl
 ·cases h;rfl
theorem Grow.to {s s' s'' : S} {φ φ' : Ren} (h : Grow s s' φ φ') (e : s'' = s') : Grow s s'' φ φ':=e ▸ h
theorem OkF.put (h : OkF pin X rs φ f a w) {d : Option Nat} {v u : Value} (hv : VR φ v u) (hp : putF f d v=some f') : OkF pin X rs φ f' (a.put d u) w:=by
 unfold putF at hp
 split at hp
 ·rename_i d
  cases hb : Nat.blt d f.n with
  | false=>simp [hb] at hp
  | true =>
   simp only [hb,cond_true,Option.some.injEq] at hp
   subst hp
   exact ⟨by simpa using h.n,h.e.put h.n hb hv,by simpa using h.d,h.r⟩
 ·cases hp
  exact h
theorem OkF.mono (h : OkF pin X rs φ f a w) {φ' : Ren} (hl : φ.le φ') {s' : S} {w' : World} (hr : Rel pin X φ' s' w') : OkF pin X rs φ' ⟨f.n,f.ρ,s',f.d⟩ a w' :=
 ⟨h.n,h.e.mono hl,h.d.mono hl,hr⟩
theorem callV_run {ρ : Nat→Option Value} (hA : ER φ ρ a) {Xo : Operand} {as1 : List Operand} {g : Nat} {first vs cap : List Value} (h : callV ρ Xo as1=some (g,first,vs,cap)) :
  ∃ first' vs' cap',a.eval Xo = .func (.func g) ⟨first'⟩ ⟨cap'⟩ ∧ as1.map a.eval=vs' ∧ VRs φ first first' ∧ VRs φ vs vs' ∧ VRs φ cap cap':=by
 unfold callV at h
 split at h
 ·rename_i hX hs
  cases h
  obtain ⟨xs',ys',e1,h1,h2⟩:=(hA.ev hX).func_inv
  obtain ⟨us,e2,h3⟩:=evs_run hA hs
  exact ⟨xs',us,ys',e1,e2,h1,h3,h2⟩
 ·cases h
theorem run_call {Xo : Operand} {as1 : List Operand} {ats : Array TypeId} {g : Nat} {first' vs' cap' : List Value} (ho : o.op = .call ⟨.value Xo,⟨as1⟩,ats⟩) (e1 : a.eval Xo = .func (.func g) ⟨first'⟩ ⟨cap'⟩) (e2 : as1.map a.eval=vs') :
  (execOp a.eval o).run P w=(callFunc g ⟨first' ++ (vs' ++ cap')⟩).run P w:=by
 simp only [execOp,ho,resolve,e1,Deferred.ofValue,Sem.run_bind,Sem.run_pure,Result.andThen_ok,invoke]
 congr 2
 simp [e2]
theorem doOp_run (hE : EnvOk P T E) (hC : CallSound P pin self.call) {at_ : Nat} (h : doOp E self at_ full o f = .ok f') (hf : OkF pin X rs φ f a w) {Q : Exit→Act→World→Prop}
  (hK : ∀ φ' a' w',Grow f.s f'.s φ φ' → OkF pin X rs φ' f' a' w' → wpList P ⟨full⟩ Q rest a' w') : wpList P ⟨full⟩ Q (o :: rest) a w:=by
 unfold doOp at h
 rw [hE.ti] at h
 split at h
 ·cases h
 ·rename_i hw
  split at h
  ·rename_i f2 hp
   cases h
   exact wpList_no (wantedQ_run hf.e hw) (hK φ _ _ ((Grow.refl _ _).to (putF_s hp)) (hf.put (.tuple .nil) hp))
  ·cases h
 ·rename_i hw
  refine wpList_yes (wantedQ_run hf.e hw) ?_
  split at h
  ·
   split at h
   ·rename_i v d hv hd
    split at h
    ·rename_i f2 hp
     cases h
     obtain ⟨u,h1,h2⟩:=opP_run T hf.e hv
     simp only [Oper.wp,h2,Oper.upon]
     rw [hd]
     exact hK φ _ _ ((Grow.refl _ _).to (putF_s hp)) (hf.put h1 hp)
    ·cases h
   ·cases h
  ·
   split at h
   ·rename_i b k d hv hd
    split at h
    ·rename_i f2 hp
     cases h
     obtain ⟨obj,n,esz,u,w0,h0,h1,h2⟩:=opA_run T hf.e hv w
     have hw0 : w0.heap=w.heap∧Rel pin X φ f.s w0:=by
      rcases h0 with rfl | rfl
      ·exact ⟨rfl,hf.r⟩
      ·exact ⟨rfl,hf.r.drew⟩
     have hsz : w0.heap.size=w.heap.size:=by rw [hw0.1]
     have hle:=Ren.le_ext (φ := φ) (id:=f.s.next) (L:=⟨w.heap.size,0,n,esz⟩) hf.r.fresh
     obtain ⟨g1,g2⟩:=h2 f.s.next _ hle (Ren.ext_self _ _ _)
     have hnew:=hw0.2.new obj ⟨w.heap.size,0,n,esz⟩ hsz.symm (blk:=b) (g2 _ (by rw [← hsz];exact heap_alloc_at w0 obj))
     simp only [Oper.wp,h1,Oper.upon]
     rw [hd]
     exact hK _ _ _ ((Grow.ext1 hf.r.fresh : Grow f.s ⟨f.s.m.put f.s.next b,f.s.next + 1⟩ φ _).to (putF_s hp)) ((hf.mono hle hnew).put g1 hp)
    ·cases h
   ·cases h
  ·
   split at h
   ·rename_i v d hv hd
    split at h
    ·rename_i f2 hp
     cases h
     obtain ⟨u,h1,h2⟩:=opR_run T hf.e hf.r hv
     simp only [Oper.wp,h2,Oper.upon]
     rw [hd]
     exact hK φ _ _ ((Grow.refl _ _).to (putF_s hp)) (hf.put h1 hp)
    ·cases h
   ·cases h
  ·
   split at h
   ·rename_i v s2 hv
    obtain ⟨φ',w',h1,h2,h3⟩:=opE_run T hf.e hf.r hv
    split at h
    ·rename_i v2 d hd
     split at h
     ·rename_i f2 hp
      cases h
      obtain ⟨u,g1,g2⟩:=h3
      simp only [Oper.wp,g2,Oper.upon]
      rw [hd]
      exact hK _ _ _ (h1.to (putF_s hp)) ((hf.mono h1.le h2).put g1 hp)
     ·cases h
    ·rename_i hd
     cases h
     simp only [OutE] at h3
     simp only [Oper.wp,h3,Oper.upon]
     rw [hd]
     exact hK _ _ _ h1 (hf.mono h1.le h2)
    ·cases h
   ·cases h
  ·
   split at h
   ·rename_i Xo as1 ats ho
    split at h
    ·rename_i g first vs cap d hv hd
     obtain ⟨first',vs',cap',e1,e2,h1,h2,h3⟩:=callV_run hf.e hv
     have hrun:=run_call (P:=P) (w:=w) ho e1 e2
     cases hb : Nat.beq g E.ix with
     | true =>
      have:=Nat.eq_of_beq_eq_true hb
      subst this
      simp only [hb,cond_true] at h
      split at h
      ·rename_i l c
       cases hc : Nat.blt c 256 with
       | false=>simp [hc] at h
       | true =>
        simp only [hc,cond_true] at h
        split at h
        ·rename_i f2 hp
         cases h
         have hc' : c < 256:=by simpa [Nat.blt_eq] using hc
         cases h1
         cases h3
         cases h2 with
         | cons h4 h5 =>
          cases h5 with
          | cons h6 h7 =>
           cases h7
           have q1:=h4.flat_inv rfl
           have q2:=h6.flat_inv rfl
           subst q1;subst q2
           have hix:=hE.ix l c w hc'
           simp only [Oper.wp,hrun,List.nil_append,List.append_nil,hix,Oper.upon]
           rw [hd]
           exact hK φ _ _ ((Grow.refl _ _).to (putF_s hp)) (hf.put (.same rfl) hp)
        ·cases h
      ·cases h
     | false =>
      simp only [hb,cond_false] at h
      split at h
      ·rename_i v s2 hcall
       split at h
       ·rename_i f2 hp
        cases h
        have hg : (callFunc g ⟨first' ++ (vs' ++ cap')⟩).run P w = .ok (.enter g ⟨first' ++ (vs' ++ cap')⟩) w:=(hC g _ _ _ _ hcall).1 _ w
        simp only [Oper.wp,hrun,hg,Oper.upon]
        refine ((hC g _ _ _ _ hcall).2 X φ w _ (h1.append (h2.append h3)) hf.r).mono fun e w' hh => ?_
        obtain ⟨φ',u,rfl,k1,k2,k3⟩:=hh
        simp only
        rw [hd]
        exact hK _ _ _ (k1.to (putF_s hp)) ((hf.mono k1.le k3).put k2 hp)
       ·cases h
      ·cases h
    ·cases h
   ·cases h
  ·
   split at h
   ·rename_i Xo as1 ats ho
    split at h
    ·rename_i g first vs cap hv hd
     cases h
     obtain ⟨first',vs',cap',e1,e2,h1,h2,h3⟩:=callV_run hf.e hv
     have he : (execOp a.eval o).run P w = .ok (.defer { target := .fn (.func g) ⟨cap'⟩,args:=⟨first' ++ vs'⟩ }) w:=by
      simp only [execOp,ho,resolve,e1,Deferred.ofValue,Sem.run_bind,Sem.run_pure,Result.andThen_ok]
      congr 3
      simp [e2]
     simp only [Oper.wp,he,Oper.upon,hd]
     exact hK φ _ _ (Grow.refl _ _) ⟨hf.n,hf.e,(by simp only [DR];exact ⟨⟨_,_,rfl,h1.append h2,h3⟩,hf.d⟩),hf.r⟩
    ·cases h
   ·cases h
  ·cases h
theorem seqOps_run (hE : EnvOk P T E) (hC : CallSound P pin self.call) {at_ : Nat} {Q : Exit→Act→World→Prop} : ∀ {l : List Oper} {f : F} {φ : Ren} {a : Act} {w : World},seqOps E self at_ full l f = .ok f' → OkF pin X rs φ f a w →
  (∀ φ' a' w',Grow f.s f'.s φ φ' → OkF pin X rs φ' f' a' w' → Q .normal a' w')→wpList P ⟨full⟩ Q l a w
 | [],f, φ,a,w,h,hf,hK=>by
  cases h
  exact hK φ a w (Grow.refl _ _) hf
 | o :: l,f, φ,a,w,h,hf,hK=>by
  have h' : (match doOp E self at_ full o f with
   | .ok f=>seqOps E self at_ full l f
   | .no n => .no n)=R.ok f':=h
  split at h'
  ·rename_i f2 h2
   exact doOp_run hE hC h2 hf fun φ' a' w' hl hf'=>seqOps_run hE hC h' hf' fun φ2 a2 w2 hl2 hf2=>hK φ2 a2 w2 (hl.trans hl2) hf2
  ·cases h'
end
end Go.Ev
