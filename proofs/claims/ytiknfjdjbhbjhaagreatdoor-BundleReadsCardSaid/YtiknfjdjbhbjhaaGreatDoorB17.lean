/-
  Part 17 of the proof: library, walks and plain laws.
-/
import Derived.Lib.BytesEntry
import Derived.Test.YtiknfjdjbhbjhaaGreatDoorB16
set_option linter.unusedVariables false
set_option linter.unusedSimpArgs false
namespace Go.Sep
open Go.Proofs
attribute [local irreducible] TC TO OT TCallX TCall DO DOt thenQ blockQ retQ At
theorem bytesOf_nat (l : Str) : Lib.bytesOf (l.map fun b=>(b.toNat : Int))=l:=by
 induction l with
 | nil=>rfl
 | cons b l ih =>
  simp only [Lib.bytesOf,List.map_cons,Int.toNat_natCast] at ih ⊢
  rw [ih]
  congr 1
  simp
theorem indexByteB_law (m : Mem) (L : List Item) (s : Sl) (bs : Str) (c : UInt8) (hs : SlRep rByte m s bs) : TCall Tryz.prog 96 ⟨[s.v,byteV c]⟩ m L (Ret (.int .i64 (Lib.indexByte bs c)) m L):=by
 unfold TCall
 refine TCallX.enter Tryz.func96 rfl 8 rfl ?_
 refine uA ?_
 refine TO.step rfl (OT.callX (E:=Extern.BytealgIndexByte.indexByte) (vs:=[s.v,byteV c]) (v := .int .i64 (Lib.indexByte bs c)) rfl rfl rfl rfl rfl Tryz.func165 (by kernel_rfl) (by kernel_rfl) (by kernel_rfl) (by kernel_rfl) (fun w hw => ?_) ?_)
 ·obtain ⟨hs',k1,k2⟩:=hs.cells
  have hh:=byte_all2 k1
  subst hh
  have hlen:=hs.len
  obtain ⟨a,n,cp⟩:=s
  rcases k2 with ⟨rfl, -⟩ | ⟨b,off,k3,k4⟩
  ·simp only [List.length_nil] at hlen
   subst hlen
   cases a with
   | none=>exact Lib.run_indexByteNil w 0 cp c.toNat
   | some ad =>
    exact Lib.run_indexByteString (P:=Tryz.prog) .empty (c.toNat : Int) w
  ·simp only at k3 hlen
   subst k3
   have hr:=Lib.run_indexByteSlice (P:=Tryz.prog) w b off n cp (hs'.map fun b=>(b.toNat : Int)) (by simp [hlen]) (fun i hi=>by
    rw [encs_byte] at k4
    unfold At at k4
    have:=hw.c _ _ _ (k4 i (byteV (hs'[i]'(by omega))) (by simp [show i < hs'.length by omega]))
    rw [this]
    simp [List.getD_eq_getElem?_getD,show i < hs'.length by omega]) (c.toNat : Int)
   rw [bytesOf_nat] at hr
   simpa using hr
 ·refine uA ?_
  refine retQ_ret rfl uS ⟨rfl,rfl, ?_⟩
  rfl
theorem bindex_law (m : Mem) (L : List Item) (s t : Sl) (bs : Str) (c : UInt8) (hs : SlRep rByte m s bs) (ht : SlRep rByte m t [c]) : TCall Tryz.prog 57 ⟨[s.v,t.v]⟩ m L (Ret (.int .i64 (Lib.indexByte bs c)) m L):=by
 have htl : t.len=1:=ht.len
 unfold TCall
 refine TCallX.enter Tryz.func57 rfl 200 rfl ?_
 refine uA ?_
 rw [htl]
 refine uA ?_
 refine TO.step rfl (OT.index tab rByte 0 ht rfl rfl rfl rfl rfl (by first | rfl | omega | (simp only;omega)) rfl (show ([c] : Str)[0]? = some c from rfl) ?_)
 rintro b i f hr hA
 obtain rfl : f=c:=hr
 refine uA ?_
 (refine TO.step rfl (OT.loadA0 tab hA rfl rfl rfl rfl rfl ?_))
 refine uA ?_
 refine TO.step rfl (OT.call rfl rfl rfl rfl rfl rfl goes96 ((indexByteB_law _ _ s bs f hs).x ?_));
 rintro _ _ _ ⟨rfl,rfl,rfl⟩
 refine uA ?_
 refine retQ_ret rfl uS ⟨rfl,rfl, ?_⟩
 rfl
def CutR (bs : Str) (c : UInt8) (m : Mem) (r : Value) : Prop :=
 (∃ (k : Nat) (s1 s2 : Sl),k < bs.length∧bs[k]? = some c∧Lib.indexByte bs c=(k : Int)∧SlRep rByte m s1 (bs.take k)∧SlRep rByte m s2 (bs.drop (k + 1))∧r = .tuple ⟨[s1.v,s2.v, .bool true]⟩) ∨
 (Lib.indexByte bs c < 0 ∧ ∃ s1 : Sl,SlRep rByte m s1 bs∧r = .tuple ⟨[s1.v, .slice none 0 0, .bool false]⟩)
theorem indexByte_some : ∀ (l : Str) (c : UInt8),0 ≤ Lib.indexByte l c → ∃ k : Nat,k < l.length∧l[k]? = some c∧Lib.indexByte l c=(k : Int)
 | [],_,h=>by simp [Lib.indexByte] at h
 | b :: l,c,h=>by
  by_cases e : b=c
  ·subst e
   exact ⟨0,by simp,rfl,by simp [Lib.indexByte]⟩
  ·have hb : (b == c)=false:=by simpa using e
   simp only [Lib.indexByte,hb] at h ⊢
   by_cases h2 : Lib.indexByte l c = -1
   ·simp [h2] at h
   ·have h3 : (Lib.indexByte l c == -1)=false:=by simpa using h2
    rw [h3] at h ⊢
    have h4:=Lib.indexByte_ge l c
    obtain ⟨k,h5,h6,h7⟩:=indexByte_some l c (by omega)
    exact ⟨k + 1,by simpa using h5,by simpa using h6,by simp only [h7];simp⟩
theorem bcut_law (m : Mem) (L : List Item) (s t : Sl) (bs : Str) (c : UInt8) (hs : SlRep rByte m s bs) (ht : SlRep rByte m t [c]) : TCall Tryz.prog 31 ⟨[s.v,t.v]⟩ m L (fun r m' L'=>m=m' ∧ L=L' ∧ CutR bs c m r):=by
 have htl : t.len=1:=ht.len
 have hsl:=hs.len
 have hsf:=hs.fit
 have hb1 : rByte.bytes=1:=rfl
 rw [hb1] at hsf
 unfold TCall
 refine TCallX.enter Tryz.func31 rfl 23 rfl ?_
 refine uA ?_
 refine TO.step rfl (OT.call rfl rfl rfl rfl rfl rfl goes57 ((bindex_law m L s t bs c hs ht).x ?_));
 rintro _ _ _ ⟨rfl,rfl,rfl⟩
 refine uA ?_
 by_cases h : 0 ≤ Lib.indexByte bs c
 ·obtain ⟨k,hk,hx,he⟩:=indexByte_some bs c h
  rw [he]
  rw [show decide ((0 : Int) ≤ (k : Int))=true from decide_eq_true (by omega)]
  refine uA ?_
  refine TC.draw0 [] mixed 12 rfl ?_
  refine DO.pure tab uC (by kernel_rfl) [0,1] (by kernel_rfl) rfl ?_
  refine DO.cutS tab rByte 2 0 k hs uC (by kernel_rfl) (by kernel_rfl) rfl rfl rfl rfl rfl rfl rfl rfl rfl (.inl ⟨rfl,rfl⟩) (.inr rfl) (Nat.zero_le _) (by omega) (fun s1 hs1 => ?_)
  refine DO.pure tab uC (by kernel_rfl) [3,4,5,6] (by kernel_rfl) rfl ?_
  refine DO.arith 7 (r':=((k + 1 : Nat) : Int)) uC (by kernel_rfl) (by kernel_rfl) rfl rfl rfl rfl rfl rfl rfl rfl (by first | rfl | omega | (simp only;omega)) (by omega) ?_
  refine DO.cutS tab rByte 8 (k + 1) bs.length hs uC (by kernel_rfl) (by kernel_rfl) rfl rfl rfl rfl rfl rfl rfl rfl rfl (.inr rfl) (.inl ⟨rfl,hsl.symm⟩) (by omega) (Nat.le_refl _) (fun s2 hs2 => ?_)
  refine DO.pure tab uC (by kernel_rfl) [9,10,11] (by kernel_rfl) rfl ?_
  (refine DO.nil0 (by kernel_rfl) ?_)
  rotate_left 1
  refine uA ?_
  rw [List.drop_zero] at hs1
  rw [List.take_length] at hs2
  refine retQ_ret rfl uS ⟨rfl,rfl, .inl ⟨k,s1,s2,hk,hx,he,hs1,hs2,rfl⟩⟩
 ·rw [show decide ((0 : Int) ≤ Lib.indexByte bs c)=false from decide_eq_false h]
  refine uA ?_
  refine retQ_ret rfl uS ⟨rfl,rfl, .inr ⟨by omega,s,hs,rfl⟩⟩
theorem bequal_law (m : Mem) (L : List Item) (s t : Sl) (a b : Str) (hs : SlRep rByte m s a) (ht : SlRep rByte m t b) : TCall Tryz.prog 33 ⟨[s.v,t.v]⟩ m L (Ret (.bool (decide (a=b))) m L):=by
 unfold TCall
 refine TCallX.enter Tryz.func33 rfl 10 rfl ?_
 refine uA ?_
 refine TO.step rfl (OT.bytesStrA tab (s:=s) rfl rfl rfl rfl rfl rfl rfl hs ?_)
 refine uA ?_
 refine TO.step rfl (OT.bytesStrA tab (s:=t) rfl rfl rfl rfl rfl rfl rfl ht ?_)
 refine uA ?_
 refine retQ_ret rfl uS ⟨rfl,rfl, ?_⟩
 rfl
end Go.Sep
set_option linter.unusedVariables false
set_option linter.unusedSimpArgs false
namespace Go.Sep
open Go.Proofs
theorem pu_app : ∀ (a b : Str) (acc v : Nat),Lib.parseUint10 acc a = .ok v→Lib.parseUint10 acc (a++b)=Lib.parseUint10 v b
 | [],b,acc,v,h=>by
  simp only [Lib.parseUint10] at h
  injection h with h
  subst h;rfl
 | c :: a,b,acc,v,h=>by
  simp only [Lib.parseUint10,List.cons_append] at h ⊢
  split at h
  ·rename_i h1
   rw [if_pos h1]
   split at h
   ·cases h
   ·rename_i h2
    rw [if_neg h2]
    split at h
    ·cases h
    ·rename_i h3
     rw [if_neg h3]
     exact pu_app a b _ v h
  ·cases h
theorem dig_nat {d : Nat} (h : d < 10) : (UInt8.ofNat (48 + d)).toNat=48 + d:=by
 rw [UInt8.toNat_ofNat',Nat.mod_eq_of_lt (by omega)]
theorem pu_one {acc d : Nat} (h : d < 10) (ha : acc < 1000000) : Lib.parseUint10 acc [UInt8.ofNat (48 + d)] = .ok (acc * 10 + d):=by
 simp only [Lib.parseUint10]
 rw [dig_nat h,if_pos (by omega),if_neg (by omega),if_neg (by omega)]
 congr 1
 omega
theorem pu_dig : ∀ (f n : Nat),0 < f→n < 10 ^ f→n < 1000000→Lib.parseUint10 0 (Pt.digF f n) = .ok n
 | 0,n,h,_,_=>by omega
 | f + 1,n,_,h1,h2=>by
  unfold Pt.digF
  split
  ·rename_i h3
   have:=pu_one (acc:=0) h3 (by omega)
   simpa using this
  ·rename_i h3
   have hf : 0 < f:=by
    rcases Nat.eq_zero_or_pos f with rfl | h4
    ·simp at h1;omega
    ·exact h4
   rw [pu_app _ _ _ _ (pu_dig f (n / 10) hf (by rw [Nat.pow_succ] at h1;omega) (by omega)),pu_one (by omega) (by omega)]
   congr 1
   omega
theorem digF_dig : ∀ (f n : Nat), ∀ c ∈ Pt.digF f n,48 ≤ c.toNat∧c.toNat ≤ 57
 | 0,n,c,h=>by cases h
 | f + 1,n,c,h=>by
  unfold Pt.digF at h
  split at h
  ·rename_i h1
   rw [List.mem_singleton] at h
   subst h
   rw [dig_nat h1];omega
  ·rcases List.mem_append.1 h with h | h
   ·exact digF_dig f _ c h
   ·rw [List.mem_singleton] at h
    subst h
    rw [dig_nat (by omega)];omega
theorem digF_ne : ∀ (f n : Nat),0 < f→Pt.digF f n ≠ []
 | 0,n,h=>by omega
 | f + 1,n,_=>by
  unfold Pt.digF
  split <;> simp
theorem atoi_dig {n : Nat} (h : n < 1000000) : Lib.atoiAll (Pt.digN n) = .ok (n : Int):=by
 have h1:=pu_dig 20 n (by omega) (Nat.lt_of_lt_of_le h (by decide)) h
 have h2 : Pt.digN n ≠ []:=digF_ne 20 n (by omega)
 have h3 : ∀ c ∈ Pt.digN n,48 ≤ c.toNat∧c.toNat ≤ 57:=digF_dig 20 n
 have h4 : Lib.parseUint10 0 (Pt.digN n) = .ok n:=h1
 cases hd : Pt.digN n with
 | nil=>exact absurd hd h2
 | cons c r =>
  have hc:=h3 c (by rw [hd];simp)
  rw [hd] at h4
  unfold Lib.atoiAll
  simp only
  rw [if_neg (by omega)]
  unfold Lib.parseMag
  rw [if_neg (by simp),h4]
  simp only
  rw [if_neg (by omega),if_neg (by omega),if_neg (by omega)]
theorem lod_sep {c : UInt8} (h : lod c=true) : c ≠ 10∧c ≠ 32:=by
 constructor <;> (rintro rfl;revert h;decide)
theorem name_sep {s : Str} (h : isName s=true) : (10 : UInt8) ∉ s∧(32 : UInt8) ∉ s:=by
 unfold isName at h
 simp only [Bool.and_eq_true] at h
 have h2:=List.all_eq_true.1 h.2.2.2.1
 exact ⟨fun hm=>(lod_sep (h2 _ hm)).1 rfl,fun hm=>(lod_sep (h2 _ hm)).2 rfl⟩
theorem errD_perm {a b : List Ch} (h : a.Perm b) : errD a=errD b:=by
 unfold errD
 rw [h.length_eq,sumD_perm h,show (a.any fun x => !isName x.nm)=b.any fun x => !isName x.nm from by
  rw [Bool.eq_iff_iff];simp only [List.any_eq_true]
  exact ⟨fun ⟨x,hx,h1⟩=>⟨x,h.mem_iff.1 hx,h1⟩,fun ⟨x,hx,h1⟩=>⟨x,h.mem_iff.2 hx,h1⟩⟩]
 by_cases hn : Nam a
 ·have hn2:=(Nam.perm h).1 hn
  simp only [hn,hn2]
 ·have hn2 : ¬ Nam b:=fun h2=>hn ((Nam.perm h).2 h2)
  simp only [hn,hn2]
theorem errD_name {l : List Ch} (h : errD l=0) : ∀ x ∈ l,isName x.nm=true:=by
 unfold errD at h
 split at h
 ·cases h
 ·split at h
  ·cases h
  ·rename_i h2
   intro x hx
   cases hn : isName x.nm with
   | true=>rfl
   | false=>exact absurd (List.any_eq_true.2 ⟨x,hx,by simp [hn]⟩) h2
theorem errD_tx {l : List Ch} (h : errD l=0) : ∀ x ∈ l,x.tx.length ≤ 65536:=by
 obtain ⟨-, -,hs⟩:=openOk h
 intro x hx
 obtain ⟨i,hi,rfl⟩:=List.getElem_of_mem hx
 have h1:=sumD_next hi
 have h2:=sumD_le l (i + 1)
 have e : gk l i=l[i]:=Option.some.inj ((gk_get hi).symm.trans (by simp [hi]))
 rw [e] at h1
 omega
theorem indexByte_app : ∀ (a c : Str) (b : UInt8),b ∉ a→Lib.indexByte (a++b :: c) b=(a.length : Int)
 | [],c,b,_=>by simp [Lib.indexByte]
 | x :: a,c,b,h=>by
  simp only [List.mem_cons,not_or] at h
  have ih:=indexByte_app a c b h.2
  have e : (x == b)=false:=by simpa using Ne.symm h.1
  simp only [List.cons_append,Lib.indexByte,e,ih]
  rw [if_neg (by simp),if_neg (by simp <;> omega)]
  simp
theorem packF_eq (y : Ch) (r : Str) : packF y++r=(y.nm++32 :: Pt.digN y.tx.length)++10 :: (y.tx++r):=by
 simp [packF]
theorem pack_head {y : Ch} {r : List Ch} (h1 : isName y.nm=true) (h2 : y.tx.length ≤ 65536) {z : Str} (hz : z=packD (y :: r)) :
  ∃ k j : Nat,Lib.indexByte z 10=(k : Int)∧Lib.indexByte (z.take k) 32=(j : Int)∧(z.take k).take j=y.nm∧(z.take k).drop (j + 1)=Pt.digN y.tx.length∧Lib.atoiAll ((z.take k).drop (j + 1)) = .ok (y.tx.length : Int) ∧
   (z.drop (k + 1)).length=y.tx.length + (packD r).length∧(z.drop (k + 1)).take y.tx.length=y.tx∧(z.drop (k + 1)).drop y.tx.length=packD r:=by
 obtain ⟨n1,n2⟩:=name_sep h1
 have hd : (10 : UInt8) ∉ Pt.digN y.tx.length:=fun h=>by have:=digF_dig 20 _ _ h;revert this;decide
 have hz2 : z=(y.nm++32 :: Pt.digN y.tx.length)++10 :: (y.tx++packD r):=by
  rw [hz,← packF_eq];simp [packD]
 obtain ⟨a,ha⟩ : ∃ a,a=y.nm++32 :: Pt.digN y.tx.length:=⟨_,rfl⟩
 rw [← ha] at hz2
 have ha10 : (10 : UInt8) ∉ a:=by
  rw [ha]
  simp [n1,hd]
 have e1 : z.take a.length=a:=by rw [hz2];simp
 have e2 : z.drop (a.length + 1)=y.tx++packD r:=by
  rw [hz2,show a++10 :: (y.tx++packD r)=(a++[10])++(y.tx++packD r) by simp]
  exact List.drop_left' (by simp)
 have e3 : a.drop (y.nm.length + 1)=Pt.digN y.tx.length:=by
  rw [ha,show y.nm++32 :: Pt.digN y.tx.length=(y.nm++[32])++Pt.digN y.tx.length by simp]
  exact List.drop_left' (by simp)
 refine ⟨a.length,y.nm.length,by rw [hz2];exact indexByte_app a _ 10 ha10,by rw [e1,ha];exact indexByte_app _ _ 32 n2,by rw [e1,ha];simp,by rw [e1,e3],by rw [e1,e3];exact atoi_dig (by omega),by rw [e2];simp,by rw [e2];simp,by rw [e2];simp⟩
theorem packF_pos (y : Ch) : 0 < (packF y).length:=by simp [packF];omega
theorem packD_nil {l : List Ch} (h : packD l=[]) : l=[]:=by
 cases l with
 | nil=>rfl
 | cons y r =>
  have h1:=packF_pos y
  have h2 : (packD (y :: r)).length=0:=by rw [h];rfl
  simp [packD] at h2
  rw [h2.1] at h1
  simp at h1
theorem pack_uniq : ∀ {a b : List Ch},(∀ x ∈ a,isName x.nm=true∧x.tx.length ≤ 65536)→(∀ x ∈ b,isName x.nm=true∧x.tx.length ≤ 65536)→packD a=packD b→a=b
 | [],b,_,_,h=>(packD_nil h.symm).symm
 | x :: a,[],_,_,h=>packD_nil h
 | x :: a,y :: b,ha,hb,h=>by
  obtain ⟨k,j,h1,h2,h3,h4,h5,h6,h7,h8⟩:=pack_head (ha x (by simp)).1 (ha x (by simp)).2 (rfl : packD (x :: a)=_)
  obtain ⟨k',j',g1,g2,g3,g4,g5,g6,g7,g8⟩:=pack_head (hb y (by simp)).1 (hb y (by simp)).2 h
  rw [h1] at g1
  obtain rfl : k=k':=by omega
  rw [h2] at g2
  obtain rfl : j=j':=by omega
  rw [h5] at g5
  have hl : x.tx.length=y.tx.length:=by
   have:=Lib.NumEnd.ok.inj g5
   omega
  rw [h3] at g3
  rw [← hl,h7] at g7
  rw [← hl,h8] at g8
  have he : x=y:=by
   cases x;cases y
   simp only at g3 g7
   rw [g3,g7]
  rw [he,pack_uniq (fun z hz=>ha z (by simp [hz])) (fun z hz=>hb z (by simp [hz])) g8]
theorem errD_sound {l : List Ch} (h : errD l=0) : ∀ x ∈ l,isName x.nm=true∧x.tx.length ≤ 65536:=fun x hx=>⟨errD_name h x hx,errD_tx h x hx⟩
end Go.Sep
