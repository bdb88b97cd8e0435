/-
  Part 11 of the proof: library, walks and plain laws.
-/
import Derived.Test.YthemafgjfddgbaaGreatDoorB10
set_option linter.unusedVariables false
set_option linter.unusedSimpArgs false
set_option maxHeartbeats 6400000
namespace Go.Sep
open Go.Proofs
attribute [local irreducible] TC TO OT TCallX TCall DO DOt thenQ blockQ retQ At
structure LitS where
 m : Mem
 q : Option Addr
 sl : Sl
 i : Nat
 acc : Str
def litR (o : Option (Str × Nat)) : Value:=match o with
 | some (t,n) => .tuple ⟨[strV t, .int .i64 ((n + 1 : Nat) : Int)]⟩
 | none => .tuple ⟨[strV [], .int .i64 0]⟩
theorem literal_law (m : Mem) (L : List Item) (s : Str) (h0 : 0 < s.length) (hl : s.length ≤ 70000) (hE : Errs m) : TCall Tryz.prog 107 ⟨[strV s]⟩ m L (Made m L fun r _=>r=litR (lit (s.drop 1))):=by
 unfold TCall
 refine cG Tryz.func107 rfl 76 rfl ?_
 refine uA ?_
 refine qs rfl (OT.allocT tab rfl rfl rfl rfl (fun bd m1 hm1 ht1 => ?_))
 refine uA ?_
 refine cT (size:=1) ?_
 refine TC.perm pf1 ?_
 refine cD (ι:=LitS) [0,4] rfl (fun x=>[(5, .int .i64 (x.i : Int))]) (fun x=>x.m) (fun x => .cells bd 0 [.pointer x.q,x.sl.v] :: tok x.sl 1 :: L) (fun x=>m ≤ x.m∧1 ≤ x.i∧x.i ≤ s.length∧BOk x.m bd x.q x.sl x.acc∧x.acc.length ≤ x.i∧LitAt s 1 x.i x.acc (lit (s.drop 1))) (fun x=>s.length - x.i) ⟨m1,none,⟨none,0,0⟩,1,[]⟩ uH rfl uS ⟨hm1,bE _,h0,⟨⟨_,ht1,by kernel_rfl⟩, .inl rfl,cO _ _,cU,fun _ _ e=>(by cases e),fun _=>rfl⟩,ci _,LitAt.start s 1⟩ ?_
 rintro ⟨m1,q,sl,i,acc⟩ ⟨hm,hi1,hi,hB,hacc,hI⟩
 replace hm : m ≤ m1:=hm
 replace hi1 : 1 ≤ i:=hi1
 replace hi : i ≤ s.length:=hi
 replace hB : BOk m1 bd q sl acc:=hB
 replace hacc : acc.length ≤ i:=hacc
 replace hI : LitAt s 1 i acc (lit (s.drop 1)):=hI
 show TC _ _ _ ((5, .int .i64 (i : Int)) :: _) _ m1 (.cells bd 0 [.pointer q,sl.v] :: tok sl 1 :: L) _
 refine uA ?_
 refine TC.condP rfl (fun g1 => ?_) (fun g1 => ?_)
 ·have hlt : i < s.length:=by omega
  have hx : s[i]? = some s[i]:=by simp [hlt]
  refine uA ?_
  refine qs rfl (OT.sidx tab i rfl rfl rfl rfl rfl rfl rfl hx ?_)
  refine uA ?_
  refine TC.condP rfl (fun c1 => ?_) (fun c1 => ?_)
  ·refine uA ?_
   refine oC goes81 ((string_law _ _ bd q sl acc hB).x ?_);
   rintro _ _ _ ⟨rfl,rfl,rfl⟩
   refine uA ?_
   refine qs rfl (OT.arith (r':=((i + 1 : Nat) : Int)) rfl rfl rfl rfl rfl rfl rfl (by omega) ?_)
   refine uA ?_
   refine cE rfl uS ⟨hm,rfl, ?_⟩
   rw [hI.quote hlt (by omega)]
   show Value.tuple ⟨[strV acc, .int .i64 ((i + 1 : Nat) : Int)]⟩ = .tuple ⟨[strV acc, .int .i64 ((i - 1 + 1 + 1 : Nat) : Int)]⟩
   rw [show i - 1 + 1 + 1=i + 1 by omega]
  refine uA ?_
  refine TC.condP rfl (fun c2 => ?_) (fun c2 => ?_)
  ·refine uA ?_
   refine cE rfl uS ⟨hm,rfl, ?_⟩
   rw [hI.nl hlt (by omega)];rfl
  refine uA ?_
  refine TC.condP rfl (fun c3 => ?_) (fun c3 => ?_)
  ·refine uA ?_
   refine qs rfl (OT.arith (r':=((i + 1 : Nat) : Int)) rfl rfl rfl rfl rfl rfl rfl (by omega) ?_)
   refine uA ?_
   refine TC.condP rfl (fun c4 => ?_) (fun c4 => ?_)
   ·refine uA ?_
    refine cE rfl uS ⟨hm,rfl, ?_⟩
    rw [hI.bad hlt (by omega) (by rw [ce (by omega)];rfl)];rfl
   have hlt2 : i + 1 < s.length:=by omega
   have hx2 : s[i + 1]? = some s[i + 1]:=by simp [hlt2]
   have hd2:=bR hlt2
   refine uA ?_
   refine qs rfl (OT.sidx tab (i + 1) rfl rfl rfl rfl rfl rfl rfl hx2 ?_)
   refine uA ?_
   refine TC.condP rfl (fun d1 => ?_) (fun d1 => ?_)
   ·have he : escB (s.drop (i + 1))=some (10,1):=by rw [hd2];exact esc_n (by omega)
    refine uA ?_
    refine oC goes130 ((writeByte_law _ _ bd q sl acc 10 hB (by omega)).x ?_);
    rintro _ m2 _ ⟨hm2,sl2,q2,rfl,hB2⟩
    refine uA ?_
    refine qs rfl (OT.arith (r':=(((i + 1) + 1 : Nat) : Int)) rfl rfl rfl rfl rfl rfl rfl (by omega) ?_)
    refine uA ?_
    exact ⟨⟨m2,q2,sl2,(i + 1) + 1,acc++[10]⟩,uH,uH,rfl,rfl,uS,⟨cz hm hm2,by show _ ≤ (i + 1) + 1;omega,by show (i + 1) + 1 ≤ _;omega,hB2,by show (acc++[_]).length ≤ (i + 1) + 1;rw [a6];simp only [a7,a8];omega,(hI.esc hi1 hlt (by omega) he)⟩,by show s.length - ((i + 1) + 1) < s.length - i;omega⟩
   refine uA ?_
   refine TC.condP rfl (fun d2 => ?_) (fun d2 => ?_)
   ·have he : escB (s.drop (i + 1))=some (9,1):=by rw [hd2];exact esc_t (by omega)
    refine uA ?_
    refine oC goes130 ((writeByte_law _ _ bd q sl acc 9 hB (by omega)).x ?_);
    rintro _ m2 _ ⟨hm2,sl2,q2,rfl,hB2⟩
    refine uA ?_
    refine qs rfl (OT.arith (r':=(((i + 1) + 1 : Nat) : Int)) rfl rfl rfl rfl rfl rfl rfl (by omega) ?_)
    refine uA ?_
    exact ⟨⟨m2,q2,sl2,(i + 1) + 1,acc++[9]⟩,uH,uH,rfl,rfl,uS,⟨cz hm hm2,by show _ ≤ (i + 1) + 1;omega,by show (i + 1) + 1 ≤ _;omega,hB2,by show (acc++[_]).length ≤ (i + 1) + 1;rw [a6];simp only [a7,a8];omega,(hI.esc hi1 hlt (by omega) he)⟩,by show s.length - ((i + 1) + 1) < s.length - i;omega⟩
   refine uA ?_
   refine TC.condP rfl (fun d3 => ?_) (fun d3 => ?_)
   ·have he : escB (s.drop (i + 1))=some (s[i + 1],1):=by rw [hd2];exact esc_self (by omega)
    refine uA ?_
    refine TC.condP rfl (fun _ => ?_) (fun h=>absurd d3 h)
    refine uA ?_
    refine qs rfl (OT.sidx tab (i + 1) rfl rfl rfl rfl rfl rfl rfl hx2 ?_)
    refine uA ?_
    refine oC goes130 ((writeByte_law _ _ bd q sl acc s[i + 1] hB (by omega)).x ?_);
    rintro _ m2 _ ⟨hm2,sl2,q2,rfl,hB2⟩
    refine uA ?_
    refine qs rfl (OT.arith (r':=(((i + 1) + 1 : Nat) : Int)) rfl rfl rfl rfl rfl rfl rfl (by omega) ?_)
    refine uA ?_
    exact ⟨⟨m2,q2,sl2,(i + 1) + 1,acc++[s[i + 1]]⟩,uH,uH,rfl,rfl,uS,⟨cz hm hm2,by show _ ≤ (i + 1) + 1;omega,by show (i + 1) + 1 ≤ _;omega,hB2,by show (acc++[_]).length ≤ (i + 1) + 1;rw [a6];simp only [a7,a8];omega,(hI.esc hi1 hlt (by omega) he)⟩,by show s.length - ((i + 1) + 1) < s.length - i;omega⟩
   refine uA ?_
   refine TC.condP rfl (fun d4 => ?_) (fun d4 => ?_)
   ·have he : escB (s.drop (i + 1))=some (s[i + 1],1):=by rw [hd2];exact esc_self (by omega)
    refine uA ?_
    refine qs rfl (OT.sidx tab (i + 1) rfl rfl rfl rfl rfl rfl rfl hx2 ?_)
    refine uA ?_
    refine oC goes130 ((writeByte_law _ _ bd q sl acc s[i + 1] hB (by omega)).x ?_);
    rintro _ m2 _ ⟨hm2,sl2,q2,rfl,hB2⟩
    refine uA ?_
    refine qs rfl (OT.arith (r':=(((i + 1) + 1 : Nat) : Int)) rfl rfl rfl rfl rfl rfl rfl (by omega) ?_)
    refine uA ?_
    exact ⟨⟨m2,q2,sl2,(i + 1) + 1,acc++[s[i + 1]]⟩,uH,uH,rfl,rfl,uS,⟨cz hm hm2,by show _ ≤ (i + 1) + 1;omega,by show (i + 1) + 1 ≤ _;omega,hB2,by show (acc++[_]).length ≤ (i + 1) + 1;rw [a6];simp only [a7,a8];omega,(hI.esc hi1 hlt (by omega) he)⟩,by show s.length - ((i + 1) + 1) < s.length - i;omega⟩
   refine uA ?_
   refine TC.condP rfl (fun d5 => ?_) (fun d5 => ?_)
   ·refine uA ?_
    refine qs rfl (OT.arith (r':=((i + 3 : Nat) : Int)) rfl rfl rfl rfl rfl rfl rfl (by omega) ?_)
    refine uA ?_
    refine TC.condP rfl (fun d6 => ?_) (fun d6 => ?_)
    ·refine uA ?_
     refine cE rfl uS ⟨hm,rfl, ?_⟩
     rw [hI.bad hlt (by omega) (by rw [hd2];exact esc_xs (by omega) (by rw [bU];omega))];rfl
    have hl3 : i + 2 < s.length:=by omega
    have hl4 : i + 3 < s.length:=by omega
    have hcut : (s.take (i + 4)).drop (i + 2)=[s[i + 2],s[i + 3]]:=by
     rw [cm hl4,cm hl3,bo,List.drop_append,ce (by simp;omega)]
     simp [Nat.min_eq_left (show i + 2 ≤ s.length by omega)]
    have hd3 : s.drop (i + 1)=s[i + 1] :: s[i + 2] :: s[i + 3] :: s.drop (i + 4):=by
     rw [hd2,bR hl3,bR hl4]
    refine uA ?_
    refine qs rfl (OT.arith (r':=((i + 2 : Nat) : Int)) rfl rfl rfl rfl rfl rfl rfl (by omega) ?_)
    refine uA ?_
    refine qs rfl (OT.arith (r':=((i + 4 : Nat) : Int)) rfl rfl rfl rfl rfl rfl rfl (by omega) ?_)
    refine qs rfl (OT.sub tab (i + 2) (i + 4) rfl rfl rfl rfl rfl rfl rfl (.inr rfl) (.inr rfl) (by omega) (by omega) ?_)
    rw [hcut]
    refine oC goes143 ((parseUint_law _ _ [s[i + 2],s[i + 3]] (by simp) (by simp) (hE.mono hm)).x ?_);
    rintro _ m3 _ ⟨hm3,rfl,⟨v,e1,rfl⟩ | ⟨e1,v,a,b,rfl⟩⟩
    ·have hv:=pU_le _ _ _ (ci _) e1
     have he : escB (s.drop (i + 1))=some (UInt8.ofNat v,3):=by rw [hd3,esc_x (by omega),hexB,e1];rfl
     refine uA ?_
     refine qs rfl (OT.errNe tab rfl rfl rfl rfl (.inl rfl) rfl rfl ?_)
     refine uA ?_
     refine qs rfl (OT.conv tab rfl rfl rfl rfl rfl rfl (r:=((UInt8.ofNat v).toNat : Int)) (by rw [u8_in (by omega) (by omega),UInt8.toNat_ofNat',Nat.mod_eq_of_lt (by omega)]) ?_)
     replace hB:=hB.mono hm3
     refine oC goes130 ((writeByte_law _ _ bd q sl acc (UInt8.ofNat v) hB (by omega)).x ?_);
     rintro _ m2 _ ⟨hm2,sl2,q2,rfl,hB2⟩
     refine uA ?_
     refine qs rfl (OT.arith (r':=((i + 3 : Nat) : Int)) rfl rfl rfl rfl rfl rfl rfl (by omega) ?_)
     refine uA ?_
     refine qs rfl (OT.arith (r':=(((i + 3) + 1 : Nat) : Int)) rfl rfl rfl rfl rfl rfl rfl (by omega) ?_)
     refine uA ?_
     exact ⟨⟨m2,q2,sl2,(i + 3) + 1,acc++[(UInt8.ofNat v)]⟩,uH,uH,rfl,rfl,uS,⟨cz hm (cz hm3 hm2),by show _ ≤ (i + 3) + 1;omega,by show (i + 3) + 1 ≤ _;omega,hB2,by show (acc++[_]).length ≤ (i + 3) + 1;rw [a6];simp only [a7,a8];omega,(hI.esc hi1 hlt (by omega) he)⟩,by show s.length - ((i + 3) + 1) < s.length - i;omega⟩
    ·refine uA ?_
     refine qs rfl (OT.errNe tab rfl rfl rfl rfl (.inr ⟨_,_,rfl⟩) rfl rfl ?_)
     refine uA ?_
     refine cE rfl uS ⟨cz hm hm3,rfl, ?_⟩
     rw [hI.bad hlt (by omega) (by rw [hd3,esc_x (by omega),hexB,e1];rfl)];rfl
   ·refine uA ?_
    refine cE rfl uS ⟨hm,rfl, ?_⟩
    rw [hI.bad hlt (by omega) (by rw [hd2];exact esc_no (by omega) (by omega) (by omega) (by omega) (by omega))];rfl
  ·refine uA ?_
   refine qs rfl (OT.sidx tab i rfl rfl rfl rfl rfl rfl rfl hx ?_)
   refine oC goes130 ((writeByte_law _ _ bd q sl acc s[i] hB (by omega)).x ?_);
   rintro _ m2 _ ⟨hm2,sl2,q2,rfl,hB2⟩
   refine uA ?_
   refine qs rfl (OT.arith (r':=((i + 1 : Nat) : Int)) rfl rfl rfl rfl rfl rfl rfl (by omega) ?_)
   refine uA ?_
   exact ⟨⟨m2,q2,sl2,i + 1,acc++[s[i]]⟩,uH,uH,rfl,rfl,uS,⟨cz hm hm2,by show _ ≤ i + 1;omega,by show i + 1 ≤ _;omega,hB2,by show (acc++[_]).length ≤ i + 1;rw [a6];simp only [a7,a8];omega,(hI.one hi1 hlt (by omega) (by omega) (by omega))⟩,by show s.length - (i + 1) < s.length - i;omega⟩
 ·refine uA ?_
  refine cE rfl uS ⟨hm,rfl, ?_⟩
  rw [hI.end_ (by omega)];rfl
end Go.Sep
namespace Go.Sep
def isSp (c : UInt8) : Bool:=decide (c.toNat=9) || (decide (c.toNat=10) || (decide (c.toNat=13) || decide (c.toNat=32)))
def blk : Bool→Str→Nat
 | _,[]=>0
 | true,c :: r=>if c.toNat=10 then 1 + blk false r else 1 + blk true r
 | false,c :: r=>if isSp c=true then 1 + blk false r else if c.toNat=47∧r.head? = some 47 then 1 + blk true r else 0
theorem blk_le : ∀ (b : Bool) (s : Str),blk b s ≤ s.length
 | _,[]=>by simp [blk]
 | true,c :: r=>by
  have h1:=blk_le false r;have h2:=blk_le true r;rw [blk,a7];split <;> omega
 | false,c :: r=>by
  have h1:=blk_le false r;have h2:=blk_le true r;rw [blk,a7];split
  ·omega
  ·split <;> omega
theorem isSp_ix_all : ∀ n : Fin 256,decide (0 ≤ Lib.indexByte [9,10,13,32] (UInt8.ofNat n.val))=isSp (UInt8.ofNat n.val):=by decide +kernel
theorem isSp_ix (c : UInt8) : decide (0 ≤ Lib.indexByte [9,10,13,32] c)=isSp c:=by
 have:=isSp_ix_all ⟨c.toNat,c.toNat_lt⟩;simpa using this
theorem blk_line : ∀ l : Str,(Lib.indexByte l 10 = -1∧blk true l=l.length) ∨ ∃ k : Nat,k < l.length∧Lib.indexByte l 10=(k : Int)∧blk true l=k + blk false (l.drop k)∧(l.drop k).head? = some 10
 | [] => .inl ⟨rfl,rfl⟩
 | c :: r=>by
  by_cases hc : c=10
  ·subst hc;refine .inr ⟨0,by simp,rfl, ?_,rfl⟩;rw [cx,cl,blk,blk,if_pos lO,if_pos lO]
  ·have hn : c.toNat ≠ 10:=fun e=>hc (UInt8.toNat_inj.1 e);have hb : (c == 10)=false:=by simpa using hc
   rw [Lib.indexByte,blk,if_neg hn,hb];simp only [Bool.false_eq_true,if_false];rcases blk_line r with ⟨h1,h2⟩ | ⟨k,h1,h2,h3,h4⟩
   ·refine .inl ⟨?_, ?_⟩
    ·rw [h1];rfl
    ·rw [h2,a7];omega
   ·refine .inr ⟨k + 1,by simpa using h1, ?_, ?_,by simpa using h4⟩
    ·rw [h2];have : ((k : Int) == -1)=false:=by
      simp only [beq_eq_false_iff_ne];omega
     rw [this];simp
    ·rw [h3];simp;omega
theorem blk_rem {c : UInt8} {r : Str} (h1 : c.toNat=47) (h2 : r.head? = some 47) : blk false (c :: r)=blk true (c :: r):=by
 rw [blk,blk,if_neg (by unfold isSp;simp [h1]),if_pos ⟨h1,h2⟩,if_neg lM]
structure Tok where
 kind : Int
 text : Str
 num : Int
 at_ : Int
 deriving DecidableEq
def markL : List Str:=[[58,61],[61,61],[33,61],[60,61],[62,61],[38,38],[124,124],[40],[41],[123],[125],[91],[93],[44],[59],[46],[58],[61],[60],[62],[43],[45],[42],[47],[37],[38],[33]]
def tokD : Str→Option (Tok × Nat)
 | []=>none
 | c :: r =>
  if ltr c=true then (if 64 < spanOf lod (c :: r) then none else some (⟨if (c :: r).take (spanOf lod (c :: r)) ∈ wordL then 5 else 1,(c :: r).take (spanOf lod (c :: r)),0,0⟩,spanOf lod (c :: r)))
  else if dgt c=true then (match numOf ((c :: r).take (spanOf lod (c :: r))) with
   | none=>none
   | some v=>if (c.toNat=48∧1 < spanOf lod (c :: r)) ∨ spanOf dgt (c :: r) ≠ spanOf lod (c :: r) then none else some (⟨2,[],v,0⟩,spanOf lod (c :: r)))
  else if c.toNat=34 then (match lit r with
   | none=>none
   | some (t,n)=>if 1024 < t.length then none else some (⟨3,t,0,0⟩,n + 1))
  else match markL.find? (fun p=>prefixB p (c :: r)) with
   | none=>none
   | some p=>some (⟨4,p,0,0⟩,p.length)
theorem span_pos {p : UInt8→Bool} {c : UInt8} {r : Str} (h : p c=true) : 0 < spanOf p (c :: r):=by
 rw [spanOf,List.takeWhile_cons_of_pos h];simp
theorem span_le (p : UInt8→Bool) (s : Str) : spanOf p s ≤ s.length:=by
 unfold spanOf
 induction s with
 | nil=>simp
 | cons x xs ih =>
  rw [List.takeWhile_cons];split <;> simp;exact ih
theorem litF_le : ∀ (f : Nat) (r t : Str) (n : Nat),litF f r=some (t,n)→1 ≤ n∧n ≤ r.length
 | 0,_,_,_,h=>by cases h
 | f + 1,[],_,_,h=>by cases h
 | f + 1,c :: r,t,n,h=>by
  rw [litF] at h;split at h
  ·cases h;simp
  ·split at h
   ·cases h
   ·split at h
    ·cases he : escB r with
     | none=>rw [he] at h;cases h
     | some p =>
      obtain ⟨b,k⟩:=p;rw [he] at h;simp only at h;cases hl : litF f (r.drop k) with
      | none=>rw [hl] at h;cases h
      | some q =>
       obtain ⟨t',n'⟩:=q;rw [hl] at h;simp only [cq,br,Prod.mk.injEq] at h;have h1:=litF_le f _ _ _ hl;have h2:=escB_pos he;have h3 : (r.drop k).length=r.length - k:=lN;simp only [a7];omega
    ·cases hl : litF f r with
     | none=>rw [hl] at h;cases h
     | some q =>
      obtain ⟨t',n'⟩:=q;rw [hl] at h;simp only [cq,br,Prod.mk.injEq] at h;have h1:=litF_le f _ _ _ hl;simp only [a7];omega
theorem lit_le {r t : Str} {n : Nat} (h : lit r=some (t,n)) : 1 ≤ n∧n ≤ r.length:=litF_le _ _ _ _ h
theorem prefixB_len {p s : Str} (h : prefixB p s=true) : p.length ≤ s.length∧s.take p.length=p:=by
 unfold prefixB at h;rw [bj] at h;exact ⟨of_decide_eq_true h.1,of_decide_eq_true h.2⟩
theorem markL_len : ∀ p ∈ markL,1 ≤ p.length:=by decide
theorem tokD_le {s : Str} {t : Tok} {n : Nat} (h : tokD s=some (t,n)) : 1 ≤ n∧n ≤ s.length:=by
 cases s with
 | nil=>cases h
 | cons c r =>
  have hs:=span_le lod (c :: r);rw [tokD] at h;by_cases h1 : ltr c=true
  ·rw [if_pos h1] at h;have : lod c=true:=by unfold lod;rw [h1];rfl
   have:=span_pos (r:=r) this;split at h
   ·cases h
   ·cases h;omega
  ·rw [if_neg h1] at h;by_cases h2 : dgt c=true
   ·rw [if_pos h2] at h;have : lod c=true:=by unfold lod;rw [h2];simp
    have:=span_pos (r:=r) this;split at h
    ·cases h
    ·split at h
     ·cases h
     ·cases h;omega
   ·rw [if_neg h2] at h;by_cases h3 : c.toNat=34
    ·rw [if_pos h3] at h;cases hl : lit r with
     | none=>rw [hl] at h;cases h
     | some p =>
      obtain ⟨t',n'⟩:=p;rw [hl] at h;simp only at h;have:=lit_le hl;split at h
      ·cases h
      ·cases h;simp;omega
    ·rw [if_neg h3] at h;cases hf : markL.find? (fun p=>prefixB p (c :: r)) with
     | none=>rw [hf] at h;cases h
     | some p =>
      rw [hf] at h;cases h;have:=prefixB_len (p:=p) (s:=c :: r) (List.find?_some (p:=fun p=>prefixB p (c :: r)) hf);exact ⟨markL_len p (List.mem_of_find?_eq_some hf),this.1⟩
def cutF : Nat→Str→Nat→Nat→Except (Nat × Int) (List Tok)
 | 0,_,_,_ => .error (0,0)
 | f + 1,r,at_,k=>if r.drop (blk false r)=[] then .ok [] else if k=20000 then .error (at_ + blk false r,4) else match tokD (r.drop (blk false r)) with
  | none => .error (at_ + blk false r,3)
  | some (t,n)=>match cutF f ((r.drop (blk false r)).drop n) (at_ + blk false r + n) (k + 1) with
   | .error e => .error e
   | .ok l => .ok (⟨t.kind,t.text,t.num,((at_ + blk false r : Nat) : Int)⟩ :: l)
structure Cut where
 list : List Tok
 at_ : Nat
 e : Int
 deriving DecidableEq
def Cut.of : Except (Nat × Int) (List Tok)→Cut
 | .ok l=>⟨l,0,0⟩
 | .error (a,e)=>⟨[],a,e⟩
def scanD (s : Str) : Cut:=if 65536 < s.length then ⟨[],0,13⟩ else .of (cutF (s.length + 1) s 0 0)
end Go.Sep
namespace Go.Sep
open Go.Proofs
attribute [local irreducible] TC TO OT TCallX TCall DO DOt thenQ blockQ retQ At
theorem prefix_2 (l : Str) : prefixB [47,47] l=true ↔ ∃ r,l=47 :: 47 :: r:=by
 constructor
 ·intro h;obtain ⟨h1,h2⟩:=prefixB_len h
  match l,h1,h2 with
  | a :: b :: r,_,h2 =>
   simp at h2;exact ⟨r,by rw [h2.1,h2.2]⟩
  | [a],h1,_=>simp at h1
  | [],h1,_=>simp at h1
 ·rintro ⟨r,rfl⟩;rfl
theorem blank_law (m : Mem) (L : List Item) (s : Str) (hl : s.length ≤ 70000) : TCall Tryz.prog 55 ⟨[strV s]⟩ m L (Ret (.int .i64 ((blk false s : Nat) : Int)) m L):=by
 unfold TCall;refine ak Tryz.func55 35 ?_;refine cD (ι:=Nat) [0] rfl (fun n=>[(3, .int .i64 (n : Int))]) (fun _=>m) (fun _=>L) (fun n=>n ≤ s.length∧blk false s=n + blk false (s.drop n)) (fun n=>s.length - n) 0 uH rfl uS ⟨ci _,by simp⟩ ?_;rintro n ⟨hn,hI⟩;refine uA ?_;refine an (fun g1 => ?_) (fun g1 => ?_)
 ·have hlt : n < s.length:=lM;have hx : s[n]? = some s[n]:=lU;have hd:=bR hlt;refine uA ?_;refine qs rfl (OT.sidx tab n rfl rfl rfl rfl rfl rfl rfl hx ?_);refine ar goes98 (indexByte_law _ _ [9,10,13,32] s[n]) ?_;rw [isSp_ix];refine aN (fun c1 => ?_) (fun c1 => ?_)
  ·refine uA ?_;refine aa (r':=((n + 1 : Nat) : Int)) uH lM ?_;exact ⟨n + 1,uH,uH,rfl,rfl,uS,⟨by omega,by rw [hI,hd,blk,if_pos c1];omega⟩,by omega⟩
  ·refine uA ?_;refine kr ?_;refine ar goes99 (prefix_law _ _ (s.drop n) [47,47]) ?_;refine aN (fun c2 => ?_) (fun c2 => ?_)
   ·obtain ⟨r,hr⟩:=(prefix_2 _).1 c2;have hb : blk false (s.drop n)=blk true (s.drop n):=by rw [hr];exact blk_rem rfl rfl
    refine uA ?_;refine kr ?_;refine oR goes98 (indexByte_law _ _ (s.drop n) 10) ?_;rcases blk_line (s.drop n) with ⟨k1,k2⟩ | ⟨k,k0,k1,k2,k3⟩
    ·rw [k1];refine jo ?_;rw [hI,hb,k2,bU]
     congr 1;omega
    ·rw [k1];have hk : k ≠ 0:=fun e=>by rw [e,hr] at k3;simp at k3
     rw [bU] at k0;refine uA ?_;refine aa (r':=((n + k : Nat) : Int)) uH lM ?_;exact ⟨n + k,uH,uH,rfl,rfl,uS,⟨by omega,by rw [hI,hb,k2,List.drop_drop];omega⟩,by omega⟩
   ·refine uA ?_;refine iT ?_;have hb : blk false (s.drop n)=0:=by
     rw [hd,blk,if_neg (by rw [c1];decide),if_neg];rintro ⟨h1,h2⟩;refine Bool.eq_false_iff.1 c2 ((prefix_2 _).2 ?_);rw [hd];have h3 : s[n]=47:=UInt8.toNat_inj.1 h1;cases hr : s.drop (n + 1) with
     | nil=>rw [hr] at h2;cases h2
     | cons x r =>
      rw [hr] at h2;simp at h2;exact ⟨r,by rw [h3,h2]⟩
    rw [hI,hb];rfl
 ·refine uA ?_;refine iT ?_;rw [hI,ce lM,blk]
  congr 1
theorem marks_rep {m : Mem} {b : Nat} (h : At m b 0 (encs rStr markL)) : SlRep rStr m ⟨some ⟨b,0,none⟩,27,27⟩ markL :=
 ⟨rfl,bE _,(by show 27 * 16 ≤ _;decide),markL,all_refl2 markL, .inr ⟨b,0,rfl,h⟩⟩
theorem marks_law (m : Mem) (L : List Item) : TCall Tryz.prog 108 ⟨[]⟩ m L (Made m L fun r m' => ∃ s : Sl,r=s.v∧SlRep rStr m' s markL):=by
 unfold TCall;refine cG Tryz.func108 rfl 2 rfl ?_;refine uB ?_;refine qs rfl (OT.lit tab rfl rfl rfl rfl (fun b => ?_));refine cS fun m1 hm1 hA1 => ?_;refine uA ?_;exact cE rfl uS ⟨hm1,rfl,_,rfl,marks_rep hA1⟩
end Go.Sep
namespace Go.Sep
open Go.Proofs
attribute [local irreducible] TC TO OT TCallX TCall DO DOt thenQ blockQ retQ At
def tokC (t : Tok) : List Value:=[.int .i64 t.kind,strV t.text, .int .i64 t.num, .int .i64 t.at_]
@[reducible] def tokV (t : Tok) : Value := .agg ⟨tokC t⟩
def NextR (o : Option (Tok × Nat)) (r : Value) : Prop := ∃ t n,r = .tuple ⟨[tokV t, .int .i64 ((n : Nat) : Int)]⟩ ∧ (o=some (t,n) ∨ (o=none∧n=0))
theorem next_law (m : Mem) (L : List Item) (s : Str) (h0 : 0 < s.length) (hl : s.length ≤ 70000) (hE : Errs m) : TCall Tryz.prog 56 ⟨[strV s]⟩ m L (Made m L fun r _=>NextR (tokD s) r):=by
 obtain ⟨c,r,rfl⟩ : ∃ c r,s=c :: r:=by
  cases s with
  | nil=>simp at h0
  | cons c r=>exact ⟨c,r,rfl⟩
 have hx : (c :: r)[0]? = some c:=rfl;have hsl:=span_le lod (c :: r);unfold TCall;refine ak Tryz.func56 99 ?_;refine aD tab (fun b2 => ?_);refine jB ?_;refine ar goes100 (letter_law _ _ c) ?_;refine aN (fun c1 => ?_) (fun c1 => ?_)
 ·refine uA ?_;refine oC goes102 ((either_law _ _).x ?_);rintro _ m1 _ ⟨hm1,rfl,e1,e2,rfl,hA1,hA2⟩;refine km ?_;refine aS [] cZ 5 ?_;refine cQ tab uC uK [1,2] uK rfl ?_;refine DO.fork 0 [3] uK ⟨⟨_,rfl,rfl,rfl, ?_⟩,⟨_,rfl,rfl,rfl, ?_⟩,trivial⟩
  ·refine cN rfl rfl rfl rfl rfl rfl goes105 ((words_law _ _).x ?_);rintro _ m2 _ ⟨hm2,rfl,w,rfl,hw⟩;refine ⟨hm2,_,a9 _, ?_⟩;refine af 3 ?_;refine OT.sub tab 0 (spanOf lod (c :: r)) rfl rfl rfl rfl rfl rfl rfl (.inl ⟨rfl,rfl⟩) (.inr rfl) (ci _) hsl ?_;refine i9 ?_;exact dJ
  ·refine OT.sub tab 0 (spanOf lod (c :: r)) rfl rfl rfl rfl rfl rfl rfl (.inl ⟨rfl,rfl⟩) (.inr rfl) (ci _) hsl ?_;refine i9 ?_;refine af 0 ?_;refine cN rfl rfl rfl rfl rfl rfl goes105 ((words_law _ _).x ?_);rintro _ m2 _ ⟨hm2,rfl,w,rfl,hw⟩;refine ⟨hm2,_,a9 _, ?_⟩;exact dJ
 ·refine uA ?_;refine jB ?_;refine ar goes103 (digit_law _ _ c) ?_;refine aN (fun c2 => ?_) (fun c2 => ?_)
  ·refine uA ?_;refine oC goes102 ((either_law _ _).x ?_);rintro _ m1 _ ⟨hm1,rfl,e1,e2,rfl,hA1,hA2⟩;refine km ?_;refine jI ?_;have hp : 0 < spanOf lod (c :: r):=span_pos (by unfold lod;rw [c2];simp);have htk : (c :: r).take (spanOf lod (c :: r))=c :: r.take (spanOf lod (c :: r) - 1):=by
    obtain ⟨k,hk⟩ : ∃ k,spanOf lod (c :: r)=k + 1:=⟨spanOf lod (c :: r) - 1,by omega⟩
    rw [hk];rfl
   rw [cx];have c1' : ¬ ltr c=true:=by rw [c1];decide
   refine oC goes106 ((parseInt_law _ _ ((c :: r).take (spanOf lod (c :: r))) (by rw [htk];simp) (fun x hx=>by rw [htk] at hx;cases hx;exact c2) mz (hE.mono hm1)).x ?_);rintro _ m2 _ ⟨hm2,rfl,⟨v,e1,rfl⟩ | ⟨e1,v,a,b,rfl⟩⟩
   ·refine uA ?_;refine aM (.inl rfl) ?_;refine jB ?_;refine uA ?_
    (first | refine TO.splitP rfl rfl (fun c3 => ?_) (fun c3 => ?_) | refine cH rfl rfl (fun c3 => ?_) (fun c3 => ?_) | refine TO.split rfl rfl (fun c3 => ?_) (fun c3 => ?_))
    ·refine uA ?_
     (first | refine TO.splitP rfl rfl (fun c5 => ?_) (fun c5 => ?_) | refine cH rfl rfl (fun c5 => ?_) (fun c5 => ?_) | refine TO.split rfl rfl (fun c5 => ?_) (fun c5 => ?_))
     ·skip;refine iZ ?_;refine aG (L':=L) 0 ⟨(cz hm1 hm2),rfl, ?_⟩;refine ⟨⟨0,[],0,0⟩,0,rfl, .inr ⟨?_,rfl⟩⟩;rw [tokD,if_neg c1',if_pos c2,e1];simp only;rw [if_pos (.inl lM)]
     ·exact eo
    ·exact eo
   ·refine uA ?_;refine kA ?_;refine iS ?_;refine aG (L':=L) 0 ⟨(cz hm1 hm2),rfl, ?_⟩;refine ⟨⟨0,[],0,0⟩,0,rfl, .inr ⟨?_,rfl⟩⟩;rw [tokD,if_neg c1',if_pos c2,e1]
  ·refine uA ?_;refine jB ?_;refine uA ?_;have c1' : ¬ ltr c=true:=by rw [c1];decide
   have c2' : ¬ dgt c=true:=by rw [c2];decide
   refine an (fun c3 => ?_) (fun c3 => ?_)
   ·refine uA ?_;refine oC goes107 ((literal_law _ _ (c :: r) h0 hl hE).x ?_);rintro _ m1 _ ⟨hm1,rfl,rfl⟩;show TO _ _ _ _ ((_,litR (lit r)) :: _) _ _ _ _;have hD : tokD (c :: r)=(match lit r with
     | none=>none
     | some (t,n)=>if 1024 < t.length then none else some (⟨3,t,0,0⟩,n + 1)):=by
     rw [tokD,if_neg c1',if_neg c2',if_pos lM]
     try rfl
    rcases hlit : lit r with _ | ⟨t,n⟩
    ·rw [hlit] at hD;show TO _ _ _ _ ((_, .tuple ⟨[strV [], .int .i64 0]⟩) :: _) _ _ _ _;refine iZ ?_;refine kV ?_;refine ⟨⟨3,[],0,0⟩,0,rfl, .inr ⟨?_,rfl⟩⟩;rw [hD]
    ·rw [hlit] at hD;show TO _ _ _ _ ((_, .tuple ⟨[strV t, .int .i64 ((n + 1 : Nat) : Int)]⟩) :: _) _ _ _ _;refine uA ?_;refine an (fun c4 => ?_) (fun c4 => ?_)
     ·refine uA ?_;refine iS ?_;refine kV ?_;refine ⟨⟨3,t,0,0⟩,0,rfl, .inr ⟨?_,rfl⟩⟩;rw [hD];simp only;rw [if_pos lM]
     ·refine uA ?_;refine iS ?_;refine kV ?_;refine ⟨⟨3,t,0,0⟩,n + 1,rfl, .inl ?_⟩;rw [hD];simp only;rw [if_neg lM]
   ·refine uA ?_;refine oC goes108 ((marks_law _ _).x ?_);rintro _ m1 _ ⟨hm1,rfl,w,rfl,hw⟩;refine uA ?_;have hwl : w.len=27:=hw.len;rw [hwl];have hD : tokD (c :: r)=(match markL.find? (fun p=>prefixB p (c :: r)) with
     | none=>none
     | some p=>some (⟨4,p,0,0⟩,p.length)):=by
     rw [tokD,if_neg c1',if_neg c2',if_neg lM]
     try rfl
    refine cD (ι:=Nat) [0,2,84,85] rfl (fun k=>[(86, .int .i64 (k : Int))]) (fun _=>m1) (fun _ => .cells b2 0 (tokC ⟨0,[],0,0⟩) :: L) (fun k=>k ≤ 27∧markL.find? (fun p=>prefixB p (c :: r))=(markL.drop k).find? (fun p=>prefixB p (c :: r))) (fun k=>27 - k) 0 uH rfl uS ⟨ci _,rfl⟩ ?_;rintro k ⟨hk,hI⟩;have hml : markL.length=27:=rfl;refine uA ?_;refine an (fun g1 => ?_) (fun g1 => ?_)
    ·have hlt : k < markL.length:=lM;have hx : markL[k]? = some markL[k]:=lU;refine uA ?_;refine au tab rStr k hw uH lS rfl hx ?_;rintro b i hd rfl hA
     (first | refine qs rfl (OT.loadA tab hA rfl rfl rfl rfl rfl ?_) | refine oL tab hA ?_)
     refine uA ?_;refine ar goes99 (prefix_law _ _ (c :: r) markL[k]) ?_;refine aN (fun g2 => ?_) (fun g2 => ?_)
     ·refine uA ?_;refine iS ?_;refine kV ?_;refine ⟨⟨4,markL[k],0,0⟩,markL[k].length,rfl, .inl ?_⟩;rw [hD,hI,bR hlt,List.find?_cons_of_pos (p:=fun p=>prefixB p (c :: r)) g2]
     ·refine uA ?_;refine iV ?_;exact ⟨k + 1,uH,uH,rfl,rfl,uS,⟨by omega,by rw [hI,bR hlt,List.find?_cons_of_neg (p:=fun p=>prefixB p (c :: r)) (by show ¬ prefixB markL[k] (c :: r)=true;rw [g2];decide)]⟩,by omega⟩
    ·skip;refine iZ ?_;refine kV ?_;refine ⟨⟨0,[],0,0⟩,0,rfl, .inr ⟨?_,rfl⟩⟩;rw [hD,hI,ce lM];rfl
end Go.Sep
namespace Go.Sep
open Go.Proofs
attribute [local irreducible] TC TO OT TCallX TCall DO DOt thenQ blockQ retQ At
def rTok : R Tok Tok where
 size:=4
 bytes:=40
 enc t:=tokC t
 rep _ h a:=h=a
 enc_len _:=rfl
 one _:=rfl
 mono _ h:=h
def joinE (l : List Tok) : Except (Nat × Int) (List Tok)→Except (Nat × Int) (List Tok)
 | .error e => .error e
 | .ok l' => .ok (l++l')
def CutAt (s : Str) (at_ : Nat) (l : List Tok) (res : Except (Nat × Int) (List Tok)) : Prop := ∃ f,s.length < at_ + f∧res=joinE l (cutF f (s.drop at_) at_ l.length)
theorem CutAt.start (s : Str) : CutAt s 0 [] (cutF (s.length + 1) s 0 0):=by
 refine ⟨s.length + 1,by omega, ?_⟩;rw [cx];show _=joinE [] (cutF (s.length + 1) s 0 0);cases cutF (s.length + 1) s 0 0 <;> rfl
section
variable {s : Str} {a : Nat} {l : List Tok} {res : Except (Nat × Int) (List Tok)}
theorem CutAt.pos (h : CutAt s a l res) (ha : a ≤ s.length) : ∃ f,s.length < a + (f + 1)∧res=joinE l (cutF (f + 1) (s.drop a) a l.length):=by
 obtain ⟨f,h1,h2⟩:=h;cases f with
 | zero=>omega
 | succ f=>exact ⟨f,h1,h2⟩
theorem CutAt.end_ (h : CutAt s a l res) (ha : a ≤ s.length) (hb : a + blk false (s.drop a)=s.length) : res = .ok l:=by
 obtain ⟨f,h1,h2⟩:=h.pos ha;rw [h2,cutF,List.drop_drop,ce lM,if_pos rfl];simp [joinE]
theorem drop_ne {s : Str} {k : Nat} (h : k < s.length) : s.drop k ≠ []:=fun e=>by
 have:=congrArg List.length e;simp at this;omega
theorem CutAt.large (h : CutAt s a l res) (ha : a ≤ s.length) (hb : a + blk false (s.drop a) < s.length) (hl : l.length=20000) : res = .error (a + blk false (s.drop a),4):=by
 obtain ⟨f,h1,h2⟩:=h.pos ha;rw [h2,cutF,List.drop_drop,if_neg (drop_ne hb),if_pos hl];rfl
theorem CutAt.text (h : CutAt s a l res) (ha : a ≤ s.length) (hb : a + blk false (s.drop a) < s.length) (hl : l.length ≠ 20000) (ht : tokD (s.drop (a + blk false (s.drop a)))=none) : res = .error (a + blk false (s.drop a),3):=by
 obtain ⟨f,h1,h2⟩:=h.pos ha;rw [h2,cutF,List.drop_drop,if_neg (drop_ne hb),if_neg hl,ht];rfl
theorem CutAt.go (h : CutAt s a l res) (ha : a ≤ s.length) (hb : a + blk false (s.drop a) < s.length) (hl : l.length ≠ 20000) {t : Tok} {n : Nat} (ht : tokD (s.drop (a + blk false (s.drop a)))=some (t,n)) :
  CutAt s (a + blk false (s.drop a) + n) (l++[⟨t.kind,t.text,t.num,((a + blk false (s.drop a) : Nat) : Int)⟩]) res:=by
 obtain ⟨f,h1,h2⟩:=h.pos ha;have hn:=(tokD_le ht).1;refine ⟨f,by omega, ?_⟩;rw [h2,cutF,List.drop_drop,if_neg (drop_ne hb),if_neg hl,ht];simp only [List.drop_drop,a6,a7,a8];cases cutF f (s.drop (a + blk false (s.drop a) + n)) (a + blk false (s.drop a) + n) (l.length + 1) with
 | error e=>rfl
 | ok l'=>simp [joinE]
end
structure ScanS where
 m : Mem
 sl : Sl
 l : List Tok
 a : Nat
def ScanR (c : Cut) (r : Value) (m' : Mem) : Prop := ∃ sl : Sl,r = .tuple ⟨[sl.v, .int .i64 ((c.at_ : Nat) : Int), .int .i64 c.e]⟩ ∧ SlRep rTok m' sl c.list
theorem scan_law (m : Mem) (L : List Item) (s : Str) (hE : Errs m) : TCall Tryz.prog 28 ⟨[strV s]⟩ m L (Made m L fun r m'=>ScanR (scanD s) r m'):=by
 unfold TCall;refine ak Tryz.func28 44 ?_;refine an (fun c0 => ?_) (fun c0 => ?_)
 ·refine uA ?_;refine jf ?_;rw [scanD,if_pos lM];exact iy
 have hl : s.length ≤ 65536:=lM;have hD : scanD s = .of (cutF (s.length + 1) s 0 0):=by rw [scanD,if_neg lM]
 refine uA ?_;refine cT (size:=4) ?_;refine cD (ι:=ScanS) [0] rfl (fun x=>[(2,x.sl.v),(3, .int .i64 (x.a : Int))]) (fun x=>x.m) (fun x=>tok x.sl 4 :: L) (fun x=>m ≤ x.m∧x.a ≤ s.length∧SlRep rTok x.m x.sl x.l∧Own x.sl∧x.l.length ≤ 20000∧CutAt s x.a x.l (cutF (s.length + 1) s 0 0)) (fun x=>s.length - x.a) ⟨m,⟨none,0,0⟩,[],0⟩ uH rfl uS ⟨cy _,ci _,cO _ _,cU,ci _,CutAt.start s⟩ ?_;rintro ⟨m1,sl,l,a⟩ ⟨hm,ha,hsl,hown,hll,hI⟩;replace hm : m ≤ m1:=hm;replace ha : a ≤ s.length:=ha;replace hsl : SlRep rTok m1 sl l:=hsl;replace hown : Own sl:=hown;replace hll : l.length ≤ 20000:=hll;replace hI : CutAt s a l (cutF (s.length + 1) s 0 0):=hI;show TC _ _ _ ((2,sl.v) :: (3, .int .i64 (a : Int)) :: _) _ m1 (tok sl 4 :: L) _;have hlen:=hsl.len;have hb:=blk_le false (s.drop a);rw [bU] at hb;refine uA ?_;refine qs rfl (OT.sub tab a s.length rfl rfl rfl rfl rfl rfl rfl (.inr rfl) (.inl ⟨rfl,rfl⟩) lM lM ?_);rw [List.take_length];refine oR goes55 (blank_law _ _ (s.drop a) mL) ?_;refine uA ?_;refine aa (r':=((a + blk false (s.drop a) : Nat) : Int)) uH lM ?_;refine an (fun c1 => ?_) (fun c1 => ?_)
 ·refine uA ?_;refine kZ ?_;rw [hD,hI.end_ ha lM];exact ⟨sl,rfl,hsl⟩
 refine uA ?_;refine an (fun c2 => ?_) (fun c2 => ?_)
 ·refine uA ?_;refine kZ ?_;rw [hD,hI.large ha lM lM];exact iy
 refine uA ?_;refine qs rfl (OT.sub tab (a + blk false (s.drop a)) s.length rfl rfl rfl rfl rfl rfl rfl (.inr rfl) (.inl ⟨rfl,rfl⟩) lM lM ?_);rw [List.take_length];refine oC goes56 ((next_law _ _ (s.drop (a + blk false (s.drop a))) mL mL (hE.mono hm)).x ?_);rintro _ m2 _ ⟨hm2,rfl,t,n,rfl,hn⟩;refine uA ?_;refine aD tab (fun b5 => ?_);refine iS ?_;rcases hn with hn | ⟨hn,rfl⟩
 ·have hnl:=tokD_le hn;rw [bU] at hnl;refine an (fun c3 => ?_) (fun c3 => ?_)
  ·omega
  refine iZ ?_;refine jy ?_;refine qs rfl (OT.lit tab rfl rfl rfl rfl (fun b => ?_));refine qs rfl (OT.append1 tab rTok 1 (hd':=⟨t.kind,t.text,t.num,((a + blk false (s.drop a) : Nat) : Int)⟩) (a:=⟨t.kind,t.text,t.num,((a + blk false (s.drop a) : Nat) : Int)⟩) (hsl.mono hm2) hown rfl rfl rfl rfl rfl rfl rfl rfl (by show (l.length + 1) * 40 ≤ _;omega) (fun s' m3 hm3 hs3 ho3 => ?_));refine uA ?_;refine aa (r':=((a + blk false (s.drop a) + n : Nat) : Int)) uH lM ?_;exact ⟨⟨m3,s',l++[⟨t.kind,t.text,t.num,((a + blk false (s.drop a) : Nat) : Int)⟩],a + blk false (s.drop a) + n⟩,uH,uH,rfl,rfl,uS,⟨cz hm (cz hm2 hm3),by show _ + n ≤ _;omega,hs3,ho3,by show (l++[_]).length ≤ _;rw [a6];simp only [a7,a8];omega,hI.go ha lM lM hn⟩,by show s.length - (_ + n) < s.length - a;omega⟩
 ·refine uA ?_;refine ag ⟨cz hm hm2,rfl, ?_⟩;rw [hD,hI.text ha lM lM hn];exact iy
end Go.Sep
namespace Go.Sep
attribute [local irreducible] TC TO OT TCallX TCall DO DOt thenQ blockQ retQ At
theorem pfr1 {α : Type} {a0 a1 : α} {l : List α} : (a0 :: a1 :: l).Perm (a1 :: a0 :: l):=ba _ _ _
theorem pfr2 {α : Type} {a0 a1 a2 : α} {l : List α} : (a0 :: a1 :: a2 :: l).Perm (a2 :: a0 :: a1 :: l):=be (bg _ pfr1) (ba _ _ _)
theorem pfr3 {α : Type} {a0 a1 a2 a3 : α} {l : List α} : (a0 :: a1 :: a2 :: a3 :: l).Perm (a3 :: a0 :: a1 :: a2 :: l):=be (bg _ pfr2) (ba _ _ _)
theorem pfr4 {α : Type} {a0 a1 a2 a3 a4 : α} {l : List α} : (a0 :: a1 :: a2 :: a3 :: a4 :: l).Perm (a4 :: a0 :: a1 :: a2 :: a3 :: l):=be (bg _ pfr3) (ba _ _ _)
structure PE where
 src : Str
 list : Sl
 toks : List Tok
 p : Nat
 N : Nat
def PE.f (E : PE) : Ps.F:=fun i=>match E.toks[i]? with
 | some t=>some ⟨t.kind,t.text,t.num⟩
 | none=>none
structure PE.Ok (E : PE) (m : Mem) : Prop where
 rep : SlRep rTok m E.list E.toks
 few : E.toks.length ≤ 20000
 rows : E.N ≤ 20001
 pos : 1 ≤ E.N
theorem PE.Ok.mono {E : PE} {m m' : Mem} (h : E.Ok m) (hm : m ≤ m') : E.Ok m':=⟨h.rep.mono hm,h.few,h.rows,h.pos⟩
@[reducible] def PE.I (E : PE) (k : Nat) (h : Int) : Item := .cells E.p 0 [strV E.src,E.list.v, .int .i64 (k : Int), .int .i64 h]
@[reducible] def PE.v (E : PE) : Value := .pointer (some ⟨E.p,0,none⟩)
def PE.place (E : PE) (k : Nat) : Int:=match E.toks[k]? with
 | some t=>t.at_
 | none=>(E.src.length : Int)
def PE.flt (E : PE) (k : Nat) : List PanicEntry:=[{ v := .iface 60 (.agg ⟨[.int .i64 (E.place k)]⟩),recovered:=false }]
abbrev RV (α : Type):=Mem→Value→List Item → α → Prop
def vTree : RV Tree:=fun m v X t => ∃ h,v=treeV h∧X=[]∧TreeRep m h t
def vList : RV (List Tree):=fun m v X l => ∃ s,v=s.v∧X=[tok s 4]∧SlRep rTree m s l∧Own s∧l.length ≤ 20001
def vSl : RV (List Tree):=fun m v X l => ∃ s,v=s.v∧X=[]∧SlRep rTree m s l∧l.length ≤ 20001
def pR {α : Type} (E : PE) (V : RV α) (T : Ps.Res α) (m : Mem) (L : List Item) (h : Int) : Value→Mem→List Item→Prop :=
 fun v m' L' => ∃ a k' xs,T = .ok a k' ∧ m ≤ m' ∧ k' ≤ E.toks.length∧V m' v xs a∧L' = E.I k' h :: (xs++L)
def pX {α : Type} (E : PE) (T : Ps.Res α) (m : Mem) (L : List Item) : List PanicEntry→Mem→List Item→Prop :=
 fun ch m' L' => ∃ k' h',T = .bad k' ∧ m ≤ m' ∧ k' ≤ E.toks.length∧ch=E.flt k' ∧ L' = E.I k' h' :: L
def Par {α : Type} (P : Program) (mb : Mem) (E : PE) (V : RV α) (f : FuncId) (args : List Value) (h : Int) (X : Ps.Pp α) : Prop :=
 ∀ (m : Mem) (L : List Item) (k : Nat),mb ≤ m→E.Ok m→k ≤ E.toks.length→X E.f k ≠ .out→TCallX P f ⟨args⟩ m (E.I k h :: L) (pR E V (X E.f k) m L h) (pX E (X E.f k) m L)
theorem Par.enter {α : Type} {P : Program} {mb : Mem} {E : PE} {V : RV α} {f : FuncId} {args : List Value} {h : Int} {X : Ps.Pp α} {fn : Func} {c : Code} (hf : P.funcs[f]? = some fn) (hb : fn.body=some c) (N : Nat) (hN : Nat.ble N fn.ntmps=true)
  (hK : ∀ (m : Mem) (L : List Item) (k : Nat) (T : Ps.Res α),mb ≤ m→E.Ok m→k ≤ E.toks.length→T=X E.f k→T ≠ .out→TC P N c (argEnv args 0) [] m (E.I k h :: L) (retQ P fn (pR E V T m L h) (pX E T m L))) : Par P mb E V f args h X :=
 fun m L k h0 h1 h2 h3=>cG hf hb N hN (hK m L k _ h0 h1 h2 rfl h3)
theorem Par.up {α : Type} {P : Program} {mb mb' : Mem} {E : PE} {V : RV α} {f : FuncId} {args : List Value} {h : Int} {X : Ps.Pp α} (hp : Par P mb E V f args h X) (hm : mb ≤ mb') : Par P mb' E V f args h X:=fun m L k h0=>hp m L k (cz hm h0)
def Bad {β : Type} (Q : EPost) (E : PE) (T : Ps.Res β) (m : Mem) (L : List Item) : Prop := ∀ ρ m' k h L',m ≤ m' → k ≤ E.toks.length→T = .bad k→L.Sublist L' → Q (.panic (E.flt k)) ρ [] m' (E.I k h :: L')
theorem Bad.ret {β : Type} {P : Program} {fn : Func} {R : Value→Mem→List Item→Prop} {E : PE} {T : Ps.Res β} {m : Mem} {L : List Item} : Bad (retQ P fn R (pX E T m L)) E T m L :=
 fun ρ m' k h L' h1 h2 h3 h4=>retQ_p (L':=E.I k h :: L) (bV _ h4) ⟨k,h,h3,h1,h2,rfl,rfl⟩
theorem Bad.then {β : Type} {Q : EPost} {K : Env→List Deferred→Mem→List Item→Prop} {E : PE} {T : Ps.Res β} {m : Mem} {L : List Item} (h : Bad Q E T m L) : Bad (thenQ K Q) E T m L:=fun ρ m' k hd L' h1 h2 h3 h4=>thenQ_p (h ρ m' k hd L' h1 h2 h3 h4)
theorem Bad.block {β : Type} {Q : EPost} {i : Nat} {E : PE} {T : Ps.Res β} {m : Mem} {L : List Item} (h : Bad Q E T m L) : Bad (blockQ i Q) E T m L:=fun ρ m' k hd L' h1 h2 h3 h4=>blockQ_p (h ρ m' k hd L' h1 h2 h3 h4)
theorem Bad.le {β : Type} {Q : EPost} {E : PE} {T : Ps.Res β} {m m' : Mem} {L : List Item} (h : Bad Q E T m L) (hm : m ≤ m') : Bad Q E T m' L:=fun ρ m2 k hd L' h1 h2 h3 h4=>h ρ m2 k hd L' (cz hm h1) h2 h3 h4
theorem bind_out' {α β : Type} {p : Ps.Pp α} {g : α → Ps.Pp β} {f : Ps.F} {k : Nat} {T : Ps.Res β} (hT : T=Ps.bind p g f k) (hn : T ≠ .out) : p f k ≠ .out:=fun h=>hn (by rw [hT];unfold Ps.bind;rw [h])
section
variable {P : Program} {N : Nat} {ρ : Env} {m : Mem} {L : List Item} {Q : EPost} {o : Oper} {K : Env→Mem→List Item→Prop} {E : PE} {α β : Type}
theorem OT.parG {V : RV α} {FF : Operand} {args : List Operand} {ats : Array TypeId} {f : FuncId} {first cap vs all : List Value} {d : Nat} {h : Int} {p : Ps.Pp α} {g : α → Ps.Pp β} {T : Ps.Res β} {k : Nat} {m0 mb : Mem} {L0 : List Item}
  (ho : o.op = .call ⟨.value FF,⟨args⟩,ats⟩) (hd : o.dst=some d) (hN : Nat.blt d N=true)
  (hF : ev ρ FF=some (.func (.func f) ⟨first⟩ ⟨cap⟩)) (ha : evs ρ args=some vs) (hall : fl (first++(vs++cap))=some all) (hg : Goes P f)
  (hp : Par P mb E V f all h p) (hq : mb ≤ m) (hT : T=Ps.bind p g E.f k) (hn : T ≠ .out) (hE : E.Ok m) (hk : k ≤ E.toks.length) (hb : Bad Q E T m0 L0) (hm : m0 ≤ m) (hL : L0.Sublist L)
  (hK : ∀ v m' a k' xs,T=g a E.f k' → m ≤ m' → k' ≤ E.toks.length→V m' v xs a→K ((d,v) :: ρ) m' (E.I k' h :: (xs++L))) : OT P N o ρ [] m (E.I k h :: L) Q K:=by
 refine cN ho hd hN hF ha hall hg (cA (hp m L k hq hE hk (bind_out' hT hn)) ?_ ?_)
 ·exact gu
 ·exact ge
section
variable {FF : Operand} {args : List Operand} {ats : Array TypeId} {f : FuncId} {first cap vs all : List Value} {d : Nat} {h : Int} {T : Ps.Res β} {k : Nat} {m0 mb : Mem} {L0 : List Item}
theorem OT.parT {p : Ps.Pp Tree} {g : Tree→Ps.Pp β} (hp : Par P mb E vTree f all h p) (hq : mb ≤ m) (hT : T=Ps.bind p g E.f k) (hn : T ≠ .out) (hE : E.Ok m) (hk : k ≤ E.toks.length) (hb : Bad Q E T m0 L0) (hm : m0 ≤ m) (hL : L0.Sublist L)
  (ho : o.op = .call ⟨.value FF,⟨args⟩,ats⟩) (hd : o.dst=some d) (hN : Nat.blt d N=true)
  (hF : ev ρ FF=some (.func (.func f) ⟨first⟩ ⟨cap⟩)) (ha : evs ρ args=some vs) (hall : fl (first++(vs++cap))=some all) (hg : Goes P f)
  (hK : ∀ x m' a k',T=g a E.f k' → m0 ≤ m' → E.Ok m' → m ≤ m' → k' ≤ E.toks.length→TreeRep m' x a→K ((d,treeV x) :: ρ) m' (E.I k' h :: L)) : OT P N o ρ [] m (E.I k h :: L) Q K :=
 OT.parG ho hd hN hF ha hall hg hp hq hT hn hE hk hb hm hL fun v m' a k' xs h1 h2 h3 h4=>by
  exact gR
theorem OT.parL {p : Ps.Pp (List Tree)} {g : List Tree→Ps.Pp β} (hp : Par P mb E vList f all h p) (hq : mb ≤ m) (hT : T=Ps.bind p g E.f k) (hn : T ≠ .out) (hE : E.Ok m) (hk : k ≤ E.toks.length) (hb : Bad Q E T m0 L0) (hm : m0 ≤ m) (hL : L0.Sublist L)
  (ho : o.op = .call ⟨.value FF,⟨args⟩,ats⟩) (hd : o.dst=some d) (hN : Nat.blt d N=true)
  (hF : ev ρ FF=some (.func (.func f) ⟨first⟩ ⟨cap⟩)) (ha : evs ρ args=some vs) (hall : fl (first++(vs++cap))=some all) (hg : Goes P f)
  (hK : ∀ (x : Sl) m' a k',T=g a E.f k' → m0 ≤ m' → E.Ok m' → m ≤ m' → k' ≤ E.toks.length→SlRep rTree m' x a→Own x→a.length ≤ 20001→K ((d,x.v) :: ρ) m' (E.I k' h :: tok x 4 :: L)) : OT P N o ρ [] m (E.I k h :: L) Q K :=
 OT.parG ho hd hN hF ha hall hg hp hq hT hn hE hk hb hm hL fun v m' a k' xs h1 h2 h3 h4=>by
  obtain ⟨x,rfl,rfl,h5,h6,h7⟩:=h4;exact hK x m' a k' h1 (cz hm h2) (hE.mono h2) h2 h3 h5 h6 h7
theorem OT.parS {p : Ps.Pp (List Tree)} {g : List Tree→Ps.Pp β} (hp : Par P mb E vSl f all h p) (hq : mb ≤ m) (hT : T=Ps.bind p g E.f k) (hn : T ≠ .out) (hE : E.Ok m) (hk : k ≤ E.toks.length) (hb : Bad Q E T m0 L0) (hm : m0 ≤ m) (hL : L0.Sublist L)
  (ho : o.op = .call ⟨.value FF,⟨args⟩,ats⟩) (hd : o.dst=some d) (hN : Nat.blt d N=true)
  (hF : ev ρ FF=some (.func (.func f) ⟨first⟩ ⟨cap⟩)) (ha : evs ρ args=some vs) (hall : fl (first++(vs++cap))=some all) (hg : Goes P f)
  (hK : ∀ (x : Sl) m' a k',T=g a E.f k' → m0 ≤ m' → E.Ok m' → m ≤ m' → k' ≤ E.toks.length→SlRep rTree m' x a→a.length ≤ 20001→K ((d,x.v) :: ρ) m' (E.I k' h :: L)) : OT P N o ρ [] m (E.I k h :: L) Q K :=
 OT.parG ho hd hN hF ha hall hg hp hq hT hn hE hk hb hm hL fun v m' a k' xs h1 h2 h3 h4=>by
  exact gM
end
theorem DOt.perm {ops : List Oper} {ts : List Nat} {fuel : Nat} {listed : List Bool} {D : List Deferred} {L' : List Item} (hp : L.Perm L') (h : DOt P N ops ts fuel listed ρ D m L' Q) : DOt P N ops ts fuel listed ρ D m L Q:=by
 unfold DOt at h ⊢;exact fun a w ha=>h a w (ha.perm hp)
end
end Go.Sep
namespace Go
abbrev dn := @Sep.Par.enter
abbrev dp := @Sep.Bad.ret
abbrev dq := @Sep.Bad.then
abbrev dr := @Sep.Bad.block
abbrev dt := @Sep.OT.parT
end Go
namespace Go.Sep
open Go.Proofs
attribute [local irreducible] TC TO OT TCallX TCall DO DOt thenQ blockQ retQ At
theorem PE.f_some {E : PE} {k : Nat} (h : k < E.toks.length) : E.f k=some ⟨(E.toks[k]).kind,(E.toks[k]).text,(E.toks[k]).num⟩:=by
 unfold PE.f;rw [bm h]
theorem PE.f_none {E : PE} {k : Nat} (h : E.toks.length ≤ k) : E.f k=none:=by
 unfold PE.f;rw [List.getElem?_eq_none h]
theorem PE.isM {E : PE} {k : Nat} (h : k < E.toks.length) (s : Str) : Ps.isM s E.f k=((decide ((E.toks[k]).kind=4) || decide ((E.toks[k]).kind=5)) && decide ((E.toks[k]).text=s)):=by
 unfold Ps.isM;rw [PE.f_some h]
theorem PE.isM_no {E : PE} {k : Nat} (h : E.toks.length ≤ k) (s : Str) : Ps.isM s E.f k=false:=by
 unfold Ps.isM;rw [PE.f_none h]
theorem PE.isK {E : PE} {k : Nat} (h : k < E.toks.length) (c : Int) : Ps.isK c E.f k=decide ((E.toks[k]).kind=c):=by
 unfold Ps.isK;rw [PE.f_some h]
theorem PE.isK_no {E : PE} {k : Nat} (h : E.toks.length ≤ k) (c : Int) : Ps.isK c E.f k=false:=by
 unfold Ps.isK;rw [PE.f_none h]
section
variable {E : PE} {m : Mem} {L : List Item} {k : Nat} {h : Int}
theorem peek_law (s : Str) (hE : E.Ok m) (hk : k ≤ E.toks.length) : TCall Tryz.prog 144 ⟨[E.v,strV s]⟩ m (E.I k h :: L) (Ret (.bool (Ps.isM s E.f k)) m (E.I k h :: L)):=by
 have hlen:=hE.rep.len;have hfew:=hE.few;unfold TCall;refine ak Tryz.func144 40 ?_;refine aS [] cZ 10 ?_;refine jb ?_;refine js ?_;refine aP ?_
 rotate_left 1
 refine uA ?_;refine an (fun c0 => ?_) (fun c0 => ?_)
 ·refine uA ?_;refine iT ?_;rw [PE.isM_no lM]
 have hlt : k < E.toks.length:=lM;have hx : E.toks[k]? = some E.toks[k]:=bm hlt;refine uA ?_;refine TC.draw [11] cZ 12 rfl [E.I k h] L uP ?_;refine jb ?_;refine lg ?_;rintro b i hd hr hA;obtain rfl:=(show hd=E.toks[k] from hr)
 refine ai (k:=0) 9 hA ?_;refine af 10 ?_;refine OT.alloc tab rfl rfl rfl rfl (fun bx => ?_);refine ⟨cy _, .cells bx 0 [.int .i64 0, .string ⟨#[]⟩, .int .i64 0, .int .i64 0] :: L,ba _ _ _, ?_⟩;refine cR ?_;refine aB 11 ?_;refine aE 1 ?_;refine aI ?_
 rotate_left 1
 repeat' (first|(first|refine q1 ?_|refine q3 ?_|refine q4 tab rfl rfl ?_|refine q5 ?_|refine q6 ?_|refine q15 ?_)|(refine qs rfl (ql tab 1 rfl rfl rfl rfl rfl rfl ?_))|(refine TO.splitP rfl rfl (fun hb => ?_) (fun hb => ?_)))
 all_goals
  refine iT ?_;rw [PE.isM hlt]
  simp_all [tokC]
@[reducible] def PE.step (E : PE) (s : Str) (k : Nat) : Nat:=bif Ps.isM s E.f k then k + 1 else k
theorem PE.isM_lt {s : Str} (h : Ps.isM s E.f k=true) : k < E.toks.length:=by
 rcases Nat.lt_or_ge k E.toks.length with hl | hl
 ·exact hl
 ·rw [PE.isM_no hl] at h;cases h
theorem PE.isK_lt {c : Int} (h : Ps.isK c E.f k=true) : k < E.toks.length:=by
 rcases Nat.lt_or_ge k E.toks.length with hl | hl
 ·exact hl
 ·rw [PE.isK_no hl] at h;cases h
theorem take_law (s : Str) (hE : E.Ok m) (hk : k ≤ E.toks.length) : TCall Tryz.prog 109 ⟨[E.v,strV s]⟩ m (E.I k h :: L) (Ret (.bool (Ps.isM s E.f k)) m (E.I (E.step s k) h :: L)):=by
 have hfew:=hE.few;unfold TCall;refine ak Tryz.func109 15 ?_;refine ar goes144 (peek_law s hE hk) ?_;unfold PE.step;cases hb : Ps.isM s E.f k with
 | true =>
  refine kE ?_;refine iV ?_;refine aj (k:=2) 0 ?_;refine ag (L':=E.I (k + 1) h :: L) ⟨rfl,rfl,rfl⟩
 | false =>
  refine uA ?_;refine ag (L':=E.I k h :: L) ⟨rfl,rfl,rfl⟩
theorem place_law (hE : E.Ok m) (hk : k ≤ E.toks.length) : TCall Tryz.prog 177 ⟨[E.v]⟩ m (E.I k h :: L) (Ret (.int .i64 (E.place k)) m (E.I k h :: L)):=by
 have hlen:=hE.rep.len;have hfew:=hE.few;unfold TCall;refine ak Tryz.func177 29 ?_;refine aS [] cZ 10 ?_;refine jb ?_;refine js ?_;refine aP ?_
 rotate_left 1
 refine uA ?_;refine an (fun c0 => ?_) (fun c0 => ?_)
 ·have hlt : k < E.toks.length:=lM;have hx : E.toks[k]? = some E.toks[k]:=bm hlt;refine uA ?_;refine aS [] cZ 12 ?_;refine jb ?_;refine lg ?_;rintro b i hd hr hA;obtain rfl:=(show hd=E.toks[k] from hr)
  refine cQ tab uC uK [9] uK rfl ?_;refine ai 10 hA ?_;refine ly ?_;refine aP ?_
  rotate_left 1
  refine jo ?_;unfold PE.place;rw [hx]
 ·refine uA ?_;refine uM ?_;refine jo ?_;unfold PE.place;rw [List.getElem?_eq_none lM]
theorem stop_law (hE : E.Ok m) (hk : k ≤ E.toks.length) : TCallX Tryz.prog 146 ⟨[E.v]⟩ m (E.I k h :: L) (fun _ _ _=>False) (fun ch m' L'=>m' = m∧ch=E.flt k∧L' = E.I k h :: L):=by
 refine ak Tryz.func146 6 ?_;refine ar goes177 (place_law hE hk) ?_;refine ay ?_;refine qs rfl (OT.panic rfl rfl ?_);exact retQ_p (L':=E.I k h :: L) uS ⟨rfl,rfl,rfl⟩
theorem is_law (c : Int) (hE : E.Ok m) (hk : k ≤ E.toks.length) : TCall Tryz.prog 147 ⟨[E.v, .int .i64 c]⟩ m (E.I k h :: L) (Ret (.bool (Ps.isK c E.f k)) m (E.I k h :: L)):=by
 have hlen:=hE.rep.len;have hfew:=hE.few;unfold TCall;refine ak Tryz.func147 30 ?_;rcases Nat.lt_or_ge k E.toks.length with hlt | hge
 ·have hx : E.toks[k]? = some E.toks[k]:=bm hlt;refine aS [] cZ 26 ?_;refine jb ?_;refine cQ tab uC uK [8,9,10] uK rfl ?_;refine DO.splitP (d:=15) rfl (fun hg10 => ?_) (fun hg10 => ?_);refine cQ tab uC uK [11,12,13] uK rfl ?_;refine ae 14 0 ?_;refine cQ tab uC uK [15,16,17] uK rfl ?_;refine ae 18 0 ?_;refine DO.index tab rTok 19 k hE.rep uC uK uK rfl rfl rfl rfl rfl rfl rfl l6 rfl hx ?_;rintro b i hd hr hA;obtain rfl:=(show hd=E.toks[k] from hr)
  refine cQ tab uC uK [20] uK rfl ?_;refine ai 21 hA ?_;refine cQ tab uC uK [22,23,24,25] uK rfl ?_;refine aP ?_
  rotate_left 1
  ·first | (exfalso;omega) | exact absurd rfl hg10 | exact absurd (by assumption) hg10 | contradiction
  refine jo ?_;rw [PE.isK hlt]
 ·refine aS [] cZ 26 ?_;refine jb ?_;refine cQ tab uC uK [8,9,10] uK rfl ?_;refine DO.splitP (d:=15) rfl (fun hg10 => ?_) (fun hg10 => ?_)
  ·first | (exfalso;omega) | exact absurd rfl hg10 | exact absurd (by assumption) hg10 | contradiction
  refine cQ tab uC uK [11,12,13,14,15,16,17,18,19,20,21,22,23,24,25] uK rfl ?_;refine aP ?_
  rotate_left 1
  refine jo ?_;rw [PE.isK_no hge]
end
end Go.Sep
namespace Go.Ps
variable {α β : Type}
theorem tok_t {s : Sep.Str} {A B : Pp α} {f : F} {k : Nat} (h : isM s f k=true) : tok s A B f k=A f (k + 1):=by unfold tok;rw [h];rfl
theorem tok_f {s : Sep.Str} {A B : Pp α} {f : F} {k : Nat} (h : isM s f k=false) : tok s A B f k=B f k:=by unfold tok;rw [h];rfl
theorem peek_t' {q : F→Nat→Bool} {A B : Pp α} {f : F} {k : Nat} (h : q f k=true) : peek q A B f k=A f k:=by unfold peek;rw [h];rfl
theorem peek_f' {q : F→Nat→Bool} {A B : Pp α} {f : F} {k : Nat} (h : q f k=false) : peek q A B f k=B f k:=by unfold peek;rw [h];rfl
theorem name_t {A : Sep.Str→Pp α} {f : F} {k : Nat} {t : Tk} (h : f k=some t) (hk : t.kind=1) : name A f k=A t.text f (k + 1):=by
 unfold name tkn;rw [h];simp only [hk];rfl
theorem name_f {A : Sep.Str→Pp α} {f : F} {k : Nat} (h : isK 1 f k=false) : name A f k = .bad k:=by
 unfold isK at h;unfold name tkn;cases hf : f k with
 | none=>rfl
 | some t=>rw [hf] at h;simp only at h;simp only [h];rfl
end Go.Ps
namespace Go.Sep
open Go.Proofs
attribute [local irreducible] TC TO OT TCallX TCall DO DOt thenQ blockQ retQ At
section
variable {E : PE} {m : Mem} {L : List Item} {k : Nat} {h : Int}
theorem need_law (s : Str) (hE : E.Ok m) (hk : k ≤ E.toks.length) : TCallX Tryz.prog 111 ⟨[E.v,strV s]⟩ m (E.I k h :: L)
  (fun v m' L'=>m' = m∧v = .tuple ⟨[]⟩ ∧ Ps.isM s E.f k=true∧L' = E.I (k + 1) h :: L) (fun ch m' L'=>m' = m∧Ps.isM s E.f k=false∧ch=E.flt k∧L' = E.I k h :: L):=by
 refine cG Tryz.func111 rfl 10 rfl ?_
 refine uA ?_
 refine oC goes109 ((take_law s hE hk).x ?_);
 rintro _ _ _ ⟨rfl,rfl,rfl⟩
 refine uA ?_
 unfold PE.step
 cases hb : Ps.isM s E.f k with
 | true =>
  refine uA ?_
  refine cF rfl (L':=E.I (k + 1) h :: L) uS ⟨rfl,rfl,rfl,rfl⟩
 | false =>
  refine uA ?_
  refine oC goes146 (cA (stop_law hE hk) (fun _ _ _ hf=>hf.elim) ?_)
  rintro _ _ _ ⟨rfl,rfl,rfl⟩
  skip
  exact retQ_p (L':=E.I k h :: L) uS ⟨rfl,rfl,rfl,rfl⟩
theorem pname_law (hE : E.Ok m) (hk : k ≤ E.toks.length) : TCallX Tryz.prog 112 ⟨[E.v]⟩ m (E.I k h :: L)
  (fun v m' L'=>m' = m ∧ ∃ t,E.f k=some t∧t.kind=1∧v=strV t.text∧k + 1 ≤ E.toks.length∧L' = E.I (k + 1) h :: L) (fun ch m' L'=>m' = m∧Ps.isK 1 E.f k=false∧ch=E.flt k∧L' = E.I k h :: L):=by
 refine cG Tryz.func112 rfl 27 rfl ?_
 have hlen:=hE.rep.len
 have hfew:=hE.few
 refine uA ?_
 refine oC goes147 ((is_law 1 hE hk).x ?_);
 rintro _ _ _ ⟨rfl,rfl,rfl⟩
 refine uA ?_
 cases hb : Ps.isK 1 E.f k with
 | true =>
  have hlt:=PE.isK_lt hb
  have hx : E.toks[k]? = some E.toks[k]:=bm hlt
  have hkind : E.toks[k].kind=1:=by rw [PE.isK hlt] at hb;simpa using hb
  refine uA ?_
  refine uM ?_
  refine qs rfl (OT.arith (r':=((k + 1 : Nat) : Int)) rfl rfl rfl rfl rfl rfl rfl (by omega) ?_)
  refine uA ?_
  refine qs rfl (cK (k:=2) tab 0 rfl rfl rfl rfl rfl rfl rfl rfl ?_)
  refine uA ?_
  refine TC.draw0 [] cZ 13 rfl ?_
  refine cQ tab uC uK [0,1,2] uK rfl ?_
  refine DO.loadL tab 3 0 uC uK uK rfl rfl rfl rfl rfl rfl rfl rfl ?_
  refine cQ tab uC uK [4,5,6] uK rfl ?_
  refine DO.loadL tab 7 0 uC uK uK rfl rfl rfl rfl rfl rfl rfl rfl ?_
  refine DO.arith 8 (r':=((k : Nat) : Int)) uC uK uK rfl rfl rfl rfl rfl rfl rfl rfl (by first | rfl | omega | (simp only;omega)) (by omega) ?_
  refine DO.index tab rTok 9 k hE.rep uC uK uK rfl rfl rfl rfl rfl rfl rfl (by first | rfl | omega) rfl hx ?_
  rintro b i hd hr hA;obtain rfl:=(show hd=E.toks[k] from hr)
  refine cQ tab uC uK [10] uK rfl ?_
  refine DO.loadA tab 11 hA uC uK uK rfl rfl rfl rfl rfl rfl rfl ?_
  refine cQ tab uC uK [12] uK rfl ?_
  refine DO.nil0 uK ?_
  rotate_left 1
  refine uA ?_
  refine cE rfl (L':=E.I (k + 1) h :: L) uS ⟨rfl,_,PE.f_some hlt,hkind,rfl,hlt,rfl⟩
 | false =>
  refine uA ?_
  refine oC goes146 (cA (stop_law hE hk) (fun _ _ _ hf=>hf.elim) ?_)
  rintro _ _ _ ⟨rfl,rfl,rfl⟩
  repeat (refine thenQ_p ?_)
  exact retQ_p (L':=E.I k h :: L) uS ⟨rfl,rfl,rfl,rfl⟩
end
section
variable {P : Program} {N : Nat} {ρ : Env} {m : Mem} {L : List Item} {Q : EPost} {o : Oper} {K : Env→Mem→List Item→Prop} {E : PE} {α β : Type}
 {FF : Operand} {args : List Operand} {ats : Array TypeId} {first cap vs : List Value} {d : Nat} {h : Int} {T : Ps.Res β} {k : Nat} {m0 : Mem} {L0 : List Item} {s : Str} {A B : Ps.Pp β}
theorem OT.takeP {D : List Deferred} (hT : T=Ps.tok s A B E.f k) (hE : E.Ok m) (hk : k ≤ E.toks.length)
  (ho : o.op = .call ⟨.value FF,⟨args⟩,ats⟩) (hd : o.dst=some d) (hN : Nat.blt d N=true)
  (hF : ev ρ FF=some (.func (.func 109) ⟨first⟩ ⟨cap⟩)) (ha : evs ρ args=some vs) (hall : fl (first++(vs++cap))=some [E.v,strV s])
  (h1 : T=A E.f (k + 1)→k + 1 ≤ E.toks.length→K ((d, .bool true) :: ρ) m (E.I (k + 1) h :: L)) (h2 : T=B E.f k→K ((d, .bool false) :: ρ) m (E.I k h :: L)) : OT Tryz.prog N o ρ D m (E.I k h :: L) Q K:=by
 refine cN ho hd hN hF ha hall goes109 ((take_law s hE hk).x ?_);refine jD ?_;unfold PE.step;cases hb : Ps.isM s E.f k with
 | true=>exact h1 (hT.trans (Ps.tok_t hb)) (PE.isM_lt hb)
 | false=>exact h2 (hT.trans (Ps.tok_f hb))
theorem OT.peekP {D : List Deferred} (hT : T=Ps.peek (Ps.isM s) A B E.f k) (hE : E.Ok m) (hk : k ≤ E.toks.length)
  (ho : o.op = .call ⟨.value FF,⟨args⟩,ats⟩) (hd : o.dst=some d) (hN : Nat.blt d N=true)
  (hF : ev ρ FF=some (.func (.func 144) ⟨first⟩ ⟨cap⟩)) (ha : evs ρ args=some vs) (hall : fl (first++(vs++cap))=some [E.v,strV s])
  (h1 : T=A E.f k→K ((d, .bool true) :: ρ) m (E.I k h :: L)) (h2 : T=B E.f k→K ((d, .bool false) :: ρ) m (E.I k h :: L)) : OT Tryz.prog N o ρ D m (E.I k h :: L) Q K:=by
 refine cN ho hd hN hF ha hall goes144 ((peek_law s hE hk).x ?_);refine jD ?_;cases hb : Ps.isM s E.f k with
 | true=>exact h1 (hT.trans (Ps.peek_t' hb))
 | false=>exact h2 (hT.trans (Ps.peek_f' hb))
theorem OT.needP (hT : T=Ps.need s A E.f k) (hE : E.Ok m) (hk : k ≤ E.toks.length) (hb : Bad Q E T m0 L0) (hm : m0 ≤ m) (hL : L0.Sublist L)
  (ho : o.op = .call ⟨.value FF,⟨args⟩,ats⟩) (hd : o.dst=some d) (hN : Nat.blt d N=true)
  (hF : ev ρ FF=some (.func (.func 111) ⟨first⟩ ⟨cap⟩)) (ha : evs ρ args=some vs) (hall : fl (first++(vs++cap))=some [E.v,strV s])
  (hK : T=A E.f (k + 1)→k + 1 ≤ E.toks.length→K ((d, .tuple ⟨[]⟩) :: ρ) m (E.I (k + 1) h :: L)) : OT Tryz.prog N o ρ [] m (E.I k h :: L) Q K:=by
 refine cN ho hd hN hF ha hall goes111 (cA (need_law s hE hk) ?_ ?_)
 ·rintro _ _ _ ⟨rfl,rfl,h1,rfl⟩;exact hK (hT.trans (Ps.tok_t h1)) (PE.isM_lt h1)
 ·rintro _ _ _ ⟨rfl,h1,rfl,rfl⟩;exact hb _ _ _ _ _ hm hk (hT.trans (Ps.tok_f h1)) hL
theorem OT.stopP (hT : T = .bad k) (hE : E.Ok m) (hk : k ≤ E.toks.length) (hb : Bad Q E T m0 L0) (hm : m0 ≤ m) (hL : L0.Sublist L)
  (ho : o.op = .call ⟨.value FF,⟨args⟩,ats⟩) (hd : o.dst=some d) (hN : Nat.blt d N=true)
  (hF : ev ρ FF=some (.func (.func 146) ⟨first⟩ ⟨cap⟩)) (ha : evs ρ args=some vs) (hall : fl (first++(vs++cap))=some [E.v]) : OT Tryz.prog N o ρ [] m (E.I k h :: L) Q K:=by
 refine cN ho hd hN hF ha hall goes146 (cA (stop_law hE hk) (fun _ _ _ hf=>hf.elim) ?_)
 rintro _ _ _ ⟨rfl,rfl,rfl⟩
 exact hb _ _ _ _ _ hm hk hT hL
theorem OT.nameP {A : Str→Ps.Pp β} (hT : T=Ps.name A E.f k) (hE : E.Ok m) (hk : k ≤ E.toks.length) (hb : Bad Q E T m0 L0) (hm : m0 ≤ m) (hL : L0.Sublist L)
  (ho : o.op = .call ⟨.value FF,⟨args⟩,ats⟩) (hd : o.dst=some d) (hN : Nat.blt d N=true)
  (hF : ev ρ FF=some (.func (.func 112) ⟨first⟩ ⟨cap⟩)) (ha : evs ρ args=some vs) (hall : fl (first++(vs++cap))=some [E.v])
  (hK : ∀ t : Str,T=A t E.f (k + 1)→k + 1 ≤ E.toks.length→K ((d,strV t) :: ρ) m (E.I (k + 1) h :: L)) : OT Tryz.prog N o ρ [] m (E.I k h :: L) Q K:=by
 refine cN ho hd hN hF ha hall goes112 (cA (pname_law hE hk) ?_ ?_)
 ·rintro _ _ _ ⟨rfl,t,h1,h2,rfl,h3,rfl⟩;exact hK _ (hT.trans (Ps.name_t h1 h2)) h3
 ·rintro _ _ _ ⟨rfl,h1,rfl,rfl⟩;exact hb _ _ _ _ _ hm hk (hT.trans (Ps.name_f h1)) hL
end
end Go.Sep
namespace Go
abbrev du := @Sep.OT.takeP
end Go
namespace Go.Ps
open Go.Sep (Tree Str)
variable {α β γ : Type}
theorem bind_assoc (p : Pp α) (g : α → Pp β) (h : β → Pp γ) : bind (bind p g) h=bind p fun a=>bind (g a) h:=by
 funext f k;unfold bind
 cases p f k <;> rfl
theorem ret_bind (a : α) (g : α → Pp β) : bind (ret a) g=g a:=rfl
theorem bind_ret (p : Pp α) : bind p ret=p:=by
 funext f k;unfold bind
 cases p f k <;> rfl
theorem dry_bind (g : α → Pp β) : bind dry g=dry:=rfl
theorem tok_bind (s : Str) (A B : Pp α) (g : α → Pp β) : bind (tok s A B) g=tok s (bind A g) (bind B g):=by
 funext f k;unfold tok bind
 cases h : isM s f k <;> simp only [h,cv,cu]
theorem need_bind (s : Str) (A : Pp α) (g : α → Pp β) : bind (need s A) g=need s (bind A g):=by
 unfold need;rw [tok_bind];rfl
theorem tkn_bind (c : Int) (A : Tk→Pp α) (B : Pp α) (g : α → Pp β) : bind (tkn c A B) g=tkn c (fun t=>bind (A t) g) (bind B g):=by
 funext f k;unfold tkn bind;simp only []
 cases f k with
 | none=>rfl
 | some t=>cases h : decide (t.kind=c) <;> simp only [h,cv,cu]
theorem name_bind (A : Str→Pp α) (g : α → Pp β) : bind (name A) g=name fun s=>bind (A s) g:=by
 unfold name;rw [tkn_bind];rfl
def more (j : Nat) (X : Pp α) (acc : List α) : Pp (List α):=tok [44] (bind (commas j X) fun l=>ret (acc++l)) (ret acc)
theorem commas_acc (j : Nat) (X : Pp α) (acc : List α) : (bind (commas (j + 1) X) fun l=>ret (acc++l))=bind X fun a=>more j X (acc++[a]):=by
 show bind (bind X _) _=_;rw [bind_assoc]
 congr 1;funext a
 rw [tok_bind,bind_assoc];unfold more
 congr 1
 congr 1;funext l
 exact gp
theorem commas_start (j : Nat) (X : Pp α) : commas (j + 1) X=bind X fun a=>more j X [a]:=by
 have h:=commas_acc j X ([] : List α);simp only [bJ] at h;rw [← h,bind_ret]
theorem more_zero (X : Pp α) (acc : List α) : more 0 X acc=tok [44] dry (ret acc):=rfl
theorem more_succ (j : Nat) (X : Pp α) (acc : List α) : more (j + 1) X acc=tok [44] (bind X fun a=>more j X (acc++[a])) (ret acc):=by
 rw [← commas_acc];rfl
def rest (j : Nat) (s : Str) (X : Pp α) (acc : List α) : Pp (List α):=bind (upto j s X) fun l=>ret (acc++l)
theorem rest_start (j : Nat) (s : Str) (X : Pp α) : upto j s X=rest j s X []:=by unfold rest;exact (bind_ret _).symm
theorem rest_zero (s : Str) (X : Pp α) (acc : List α) : rest 0 s X acc=dry:=rfl
theorem rest_succ (j : Nat) (s : Str) (X : Pp α) (acc : List α) : rest (j + 1) s X acc=tok s (ret acc) (bind X fun a=>rest j s X (acc++[a])):=by
 unfold rest;show bind (tok s (ret []) _) _=_;rw [tok_bind,bind_assoc,ret_bind,bY]
 congr 1
 congr 1;funext a
 rw [bind_assoc]
 congr 1;funext l
 exact gp
def decls (decl : Pp Tree) (j : Nat) (acc : List Tree) : Pp (List Tree):=bind (progL decl j) fun l=>ret (acc++l)
theorem decls_start (decl : Pp Tree) (j : Nat) : progL decl j=decls decl j []:=by unfold decls;exact (bind_ret _).symm
theorem decls_none {decl : Pp Tree} {j : Nat} {acc : List Tree} {f : F} {k : Nat} (h : f k=none) : decls decl (j + 1) acc f k = .ok acc k:=by
 have : progL decl (j + 1) f k = .ok [] k:=by unfold progL;rw [h];rfl
 unfold decls bind;rw [this];show Res.ok (acc++[]) k=_;rw [bY]
theorem decls_some {decl : Pp Tree} {j : Nat} {acc : List Tree} {f : F} {k : Nat} (h : f k ≠ none) : decls decl (j + 1) acc f k=(bind decl fun a=>decls decl j (acc++[a])) f k:=by
 have : progL decl (j + 1) f k=(bind decl fun a=>bind (progL decl j) fun l=>ret (a :: l)) f k:=by
  show (bif (f k).isNone then _ else _)=_;cases hf : f k with
  | none=>exact absurd hf h
  | some t=>rfl
 have e : decls decl (j + 1) acc f k=bind (bind decl fun a=>bind (progL decl j) fun l=>ret (a :: l)) (fun l=>ret (acc++l)) f k:=by
  unfold decls;unfold bind at this ⊢;simp only [] at this ⊢;rw [this]
 rw [e,bind_assoc]
 congr 1;congr 1;funext a
 rw [bind_assoc];unfold decls
 congr 1;funext l
 exact gp
end Go.Ps
namespace Go.Sep
open Go.Proofs
attribute [local irreducible] TC TO OT TCallX TCall DO DOt thenQ blockQ retQ At
section
variable {mb : Mem} {E : PE} {h : Int}
theorem list1_par {f : FuncId} {first cap all : List Value} {X : Ps.Pp Tree} (hall : fl (first++([]++cap))=some all) (hg : Goes Tryz.prog f) (hX : Par Tryz.prog mb E vTree f all h X) :
  Par Tryz.prog mb E vList 148 [E.v, .func (.func f) ⟨first⟩ ⟨cap⟩] h (Ps.commas E.N X):=by
 refine dn Tryz.func148 rfl 17 rfl fun m L k T hm0 hE hk hT hn => ?_;replace hX:=hX.up hm0;have hrows:=hE.rows;have hm : m ≤ m:=cy _;obtain ⟨j,hj⟩ : ∃ j,E.N=j + 1:=by
  cases hN : E.N with
  | zero=>rw [hN] at hT;exact absurd hT hn
  | succ j=>exact ⟨j,rfl⟩
 rw [hj,Ps.commas_start] at hT;refine uA ?_;refine qs rfl (dt (L0:=L) hX hm hT hn hE hk lR hm uS rfl rfl rfl rfl rfl hall hg (fun x m2 a k2 hT hm hE hle hk hr => ?_));refine uA ?_;refine aw (hs:=[x]) (l:=[a]) tab rTree ⟨rTree_iff.2 hr,trivial⟩ uH lO (fun s m3 hle3 hs ho hc => ?_);refine kF ?_;refine cD (ι:=Sl × Mem × List Tree × Nat × Nat) [0,1] rfl (fun x=>[(5,x.1.v)]) (fun x=>x.2.1) (fun x=>E.I x.2.2.2.1 h :: tok x.1 4 :: L) (fun x=>m ≤ x.2.1∧E.Ok x.2.1∧x.2.2.2.1 ≤ E.toks.length∧SlRep rTree x.2.1 x.1 x.2.2.1∧Own x.1∧x.2.2.1.length + x.2.2.2.2=j + 1∧T=Ps.more x.2.2.2.2 X x.2.2.1 E.f x.2.2.2.1) (fun x=>x.2.2.2.2) (s,m3,[a],k2,j) uH rfl uS ⟨cz hm hle3,hE.mono hle3,hk,hs,ho,by simp only [a7,a8];omega,hT⟩ ?_;rintro ⟨s,m3,acc,k,j2⟩ ⟨hm,hE,hk,hs,ho,hlen,hT⟩;simp only at hm hE hk hs ho hlen hT;cases j2 with
 | zero =>
  rw [Ps.more_zero] at hT;refine uA ?_;refine qs rfl (du hT hE hk rfl rfl rfl rfl rfl rfl (fun hT hk => ?_) (fun hT => ?_))
  ·exact absurd hT hn
  ·exact f0
 | succ j2 =>
  rw [Ps.more_succ] at hT;refine uA ?_;refine qs rfl (du hT hE hk rfl rfl rfl rfl rfl rfl (fun hT hk => ?_) (fun hT => ?_))
  ·refine uA ?_;refine qs rfl (dt (L0:=L) hX hm hT hn hE hk lT hm uS rfl rfl rfl rfl rfl hall hg (fun x m2 a k2 hT hm hE hle hk hr => ?_));refine uA ?_;refine aw (hs:=[x]) (l:=[a]) tab rTree ⟨rTree_iff.2 hr,trivial⟩ uH lO (fun s2 m3 hle3 hs2 ho2 hc2 => ?_);refine qs rfl (cP tab rTree 1 (hs.mono (cz hle hle3)) ho hs2 rfl rfl rfl rfl rfl rfl rfl mJ (fun s3 m4 hle4 hs3 ho3 => ?_));refine uA ?_;exact ⟨(s3,m4,acc++[a],k2,j2),uH,uH,rfl,rfl,uS,⟨cz hm (cz hle3 hle4),hE.mono (cz hle3 hle4),hk,hs3,ho3,by simp only [a6,a7,a8];omega,hT⟩,by simp only;omega⟩
  ·exact f0
theorem begins_law {m : Mem} {L : List Item} {k : Nat} (hE : E.Ok m) (hk : k ≤ E.toks.length) : TCall Tryz.prog 178 ⟨[E.v]⟩ m (E.I k h :: L) (Ret (.bool (Ps.begins E.f k)) m (E.I k h :: L)):=by
 unfold TCall Ps.begins;refine ak Tryz.func178 17 ?_;refine ar goes147 (is_law 1 hE hk) ?_;cases h1 : Ps.isK 1 E.f k with
 | true => 
  exact eK
 | false =>
  refine uA ?_;refine ar goes144 (peek_law [42] hE hk) ?_;cases h2 : Ps.isM [42] E.f k with
  | true => 
   exact eK
  | false =>
   refine uA ?_;refine ar goes144 (peek_law [91] hE hk) ?_;cases h3 : Ps.isM [91] E.f k with
   | true => 
    exact eK
   | false =>
    refine uA ?_;refine ar goes144 (peek_law [102,117,110,99] hE hk) ?_;refine iT ?_;cases Ps.isM [102,117,110,99] E.f k <;> rfl
theorem results_par {X : Ps.Pp Tree} (hX : Par Tryz.prog mb E vTree 145 [E.v] h X) :
  Par Tryz.prog mb E vSl 150 [E.v] h (Ps.resultsP E.N X):=by
 refine dn Tryz.func150 rfl 18 rfl fun m L k T hm0 hE hk hT hn => ?_;replace hX:=hX.up hm0;have hm : m ≤ m:=cy _;unfold Ps.resultsP at hT;refine uA ?_;refine qs rfl (du hT hE hk rfl rfl rfl rfl rfl rfl (fun hT hk => ?_) (fun hT => ?_))
 ·refine uA ?_;refine qs rfl (OT.parL (L0:=L) (list1_par (first:=[E.v]) (cap:=[]) rfl goes145 hX) hm hT hn hE hk lR hm uS rfl rfl rfl rfl rfl rfl goes148 (fun x m2 a k2 hT hm hE hlex hk hrx hox hlx => ?_));exact fw
 ·refine uA ?_;refine ar goes178 (begins_law hE hk) ?_;cases hb : Ps.begins E.f k with
  | true =>
   rw [Ps.peek_t' hb] at hT;refine uA ?_;refine qs rfl (dt (L0:=L) (hX) hm hT hn hE hk lR hm uS rfl rfl rfl rfl rfl rfl goes145 (fun x m2 a k2 hT hm hE hlex hk hrx => ?_));refine uA ?_;refine aw (hs:=[x]) (l:=[a]) tab rTree ⟨rTree_iff.2 hrx,trivial⟩ uH lO (fun s m3 hle3 hs ho hc => ?_);refine uA ?_;refine cE rfl (L':=E.I k2 h :: L) uS ⟨[a],k2,[],hT,cz hm hle3,hk,⟨s,rfl,rfl,hs,by simp⟩,rfl⟩
  | false =>
   rw [Ps.peek_f' hb] at hT;refine uA ?_;refine cE rfl (L':=E.I k h :: L) uS ⟨[],k,[],hT,hm,hk,⟨⟨none,0,0⟩,rfl,rfl,cO _ _,by simp⟩,rfl⟩
end
end Go.Sep
namespace Go.Sep
open Go.Proofs
attribute [local irreducible] TC TO OT TCallX TCall DO DOt thenQ blockQ retQ At
section
variable {mb : Mem} {E : PE} {h : Int}
theorem typ_par {X : Ps.Pp Tree} (hX : Par Tryz.prog mb E vTree 145 [E.v] h X) :
  Par Tryz.prog mb E vTree 145 [E.v] h (Ps.typP E.N X):=by
 refine dn Tryz.func145 rfl 50 rfl fun m L k T hm0 hE hk hT hn => ?_;replace hX:=hX.up hm0;have hm : m ≤ m:=cy _;have hrows:=hE.rows;unfold Ps.typP at hT;refine uA ?_;refine oA tab (fun b2 => ?_);refine cI (ba _ _ _) ?_;refine uA ?_;refine qs rfl (du hT hE hk rfl rfl rfl rfl rfl rfl (fun hT hk => ?_) (fun hT => ?_))
 ·refine uA ?_;refine qs rfl (dt (L0:=L) (hX) hm hT hn hE hk lT hm uS rfl rfl rfl rfl rfl rfl goes145 (fun x m2 a k2 hT hm hE hlex hk hrx => ?_));refine uA ?_;refine aw (hs:=[x]) (l:=[a]) tab rTree ⟨rTree_iff.2 hrx,trivial⟩ uH lO (fun s m3 hle3 hs ho hc => ?_);refine iZ ?_;refine ax (L':=E.I k2 h :: L) 1 ⟨_,k2,[],hT,cz hm hle3,hk,⟨⟨11,[],0,s⟩,rfl,rfl,⟨rfl,rfl,rfl,hs⟩⟩,rfl⟩
 refine uA ?_;refine qs rfl (du hT hE hk rfl rfl rfl rfl rfl rfl (fun hT hk => ?_) (fun hT => ?_))
 ·refine uA ?_;refine qs rfl (OT.needP (L0:=L) hT hE hk lT hm uS rfl rfl rfl rfl rfl rfl (fun hT hk => ?_));refine uA ?_;refine qs rfl (dt (L0:=L) (hX) hm hT hn hE hk lT hm uS rfl rfl rfl rfl rfl rfl goes145 (fun x m2 a k2 hT hm hE hlex hk hrx => ?_));refine uA ?_;refine aw (hs:=[x]) (l:=[a]) tab rTree ⟨rTree_iff.2 hrx,trivial⟩ uH lO (fun s m3 hle3 hs ho hc => ?_);refine iZ ?_;refine ax (L':=E.I k2 h :: L) 1 ⟨_,k2,[],hT,cz hm hle3,hk,⟨⟨12,[],0,s⟩,rfl,rfl,⟨rfl,rfl,rfl,hs⟩⟩,rfl⟩
 refine uA ?_;refine qs rfl (du hT hE hk rfl rfl rfl rfl rfl rfl (fun hT hk => ?_) (fun hT => ?_))
 ·refine uA ?_;refine oA tab (fun b3 => ?_);refine cI (ba _ _ _) ?_;refine iZ ?_;refine qs rfl (OT.needP (L0:=L) hT hE hk lT hm uS rfl rfl rfl rfl rfl rfl (fun hT hk => ?_));unfold Ps.inP at hT;simp only [Ps.tok_bind,Ps.ret_bind,Ps.bind_assoc,Ps.need_bind] at hT;refine lL ?_;refine TC.cut (ι:=Sl × Mem × List Tree × Nat) [0,2,3] rfl (fun _=>[]) (fun i=>i.2.1) (fun i=>E.I i.2.2.2 h :: .cells b3 0 [.int .i64 13,strV [], .int .i64 0,i.1.v] :: tok i.1 4 :: .cells b2 0 [.int .i64 0,strV [], .int .i64 0, .slice none 0 0] :: L) (fun i=>m ≤ i.2.1∧E.Ok i.2.1∧i.2.2.2 ≤ E.toks.length∧SlRep rTree i.2.1 i.1 i.2.2.1∧Own i.1∧i.2.2.1.length ≤ 20001∧T=(Ps.bind (Ps.resultsP E.N X) fun rs=>Ps.ret (Tree.mk 13 [] (i.2.2.1.length : Int) (i.2.2.1++rs))) E.f i.2.2.2) ?_ ?_
  ·refine uA ?_;refine qs rfl (du hT hE hk rfl rfl rfl rfl rfl rfl (fun hT hk => ?_) (fun hT => ?_))
   ·refine TO.grow0 (size:=4) ?_;refine aL (L':=E.I (k + 1 + 1 + 1) h :: .cells b3 0 [.int .i64 13,strV [], .int .i64 0, .slice none 0 0] :: tok ⟨none,0,0⟩ 4 :: .cells b2 0 [.int .i64 0,strV [], .int .i64 0, .slice none 0 0] :: L) (be (ba _ _ _) (bg _ (ba _ _ _))) ?_;exact ⟨(⟨none,0,0⟩,m,[],k + 1 + 1 + 1),uH,uH,rfl,rfl,uS,hm,hE,hk,cO _ _,cU,by simp,hT⟩
   ·refine uA ?_;refine qs rfl (OT.parL (L0:=L) (list1_par (first:=[E.v]) (cap:=[]) rfl goes145 hX) hm hT hn hE hk lT hm uS rfl rfl rfl rfl rfl rfl goes148 (fun x m2 a k2 hT hm hE hlex hk hrx hox hlx => ?_));refine aL (L':=E.I k2 h :: .cells b3 0 [.int .i64 13,strV [], .int .i64 0, .slice none 0 0] :: tok x 4 :: .cells b2 0 [.int .i64 0,strV [], .int .i64 0, .slice none 0 0] :: L) (bg _ (ba _ _ _)) ?_;refine aj (k:=3) 1 ?_;refine qs rfl (OT.needP (L0:=L) hT hE hk lT hm uS rfl rfl rfl rfl rfl rfl (fun hT hk => ?_));refine uA ?_;exact ⟨(x,m2,a,k2 + 1),uH,uH,rfl,rfl,uS,hm,hE,hk,hrx,hox,hlx,hT⟩
  ·rintro ⟨s,m1,l,k1⟩ ⟨hm,hE,hk,hs,ho,hl,hT⟩;simp only at hm hE hk hs ho hl hT;have hsl:=hs.len;refine jd ?_;refine aj (k:=2) 1 ?_;refine aK [6] cZ 7 [.cells b3 0 [.int .i64 13,strV [], .int .i64 (s.len : Int),s.v]] (E.I k1 h :: tok s 4 :: .cells b2 0 [.int .i64 0,strV [], .int .i64 0, .slice none 0 0] :: L) (ba _ _ _) ?_;refine ja ?_;refine cV (ba _ _ _) (OT.parS (L0:=L) (results_par hX) hm hT hn hE hk lT hm uS rfl rfl rfl rfl rfl rfl goes150 (fun x m2 a k2 hT hm hE hle hk hr hla => ?_));refine ⟨hle,E.I k2 h :: tok s 4 :: .cells b2 0 [.int .i64 0,strV [], .int .i64 0, .slice none 0 0] :: L,ba _ _ _, ?_⟩;refine af 4 ?_;refine cP tab rTree 2 (hs.mono hle) ho hr rfl rfl rfl rfl rfl rfl rfl nx (fun s3 m4 hle4 hs3 ho3 => ?_);refine ⟨hle4,E.I k2 h :: tok s3 4 :: .cells b2 0 [.int .i64 0,strV [], .int .i64 0, .slice none 0 0] :: L,a9 _, ?_⟩;refine j5 ?_;refine ap (k:=3) 0 ?_;refine aI ?_
   rotate_left 1
   refine ld ?_;refine retQ_ret_c1 tab 3 rfl rfl rfl rfl (L':=E.I k2 h :: L) uS ⟨_,k2,[],hT,cz hm hle4,hk,⟨⟨13,[],(s.len : Int),s3⟩,rfl,rfl,⟨rfl,rfl,by show (s.len : Int)=_;rw [hsl];rfl,hs3⟩⟩,rfl⟩
 ·refine uA ?_;refine qs rfl (OT.nameP (L0:=L) hT hE hk lR hm uS rfl rfl rfl rfl rfl rfl (fun t hT hk => ?_));refine iZ ?_;refine ax (L':=E.I (k + 1) h :: L) 1 ⟨_,k + 1,[],hT,hm,hk,⟨⟨10,t,0,⟨none,0,0⟩⟩,rfl,rfl,⟨rfl,rfl,rfl,cO _ _⟩⟩,rfl⟩
end
end Go.Sep
namespace Go.Sep
open Go.Proofs
attribute [local irreducible] TC TO OT TCallX TCall DO DOt thenQ blockQ retQ At
section
variable {mb : Mem} {E : PE} {h : Int}
theorem param_par {X : Ps.Pp Tree} (hX : Par Tryz.prog mb E vTree 145 [E.v] h X) (b1 : Nat) (hA : At mb b1 0 [E.v]) :
  Par Tryz.prog mb E vTree 149 [.pointer (some ⟨b1,0,none⟩)] h (Ps.paramP X):=by
 refine dn Tryz.func149 rfl 10 rfl fun m L k T hm0 hE hk hT hn => ?_;replace hX:=hX.up hm0;replace hA:=hA.mono hm0;have hm : m ≤ m:=cy _;unfold Ps.paramP at hT;refine uA ?_;refine oA tab (fun b2 => ?_);refine cI (ba _ _ _) ?_;refine ji ?_;refine qs rfl (OT.nameP (L0:=L) hT hE hk lR hm uS rfl rfl rfl rfl rfl rfl (fun t hT hk => ?_));refine ji ?_;refine qs rfl (dt (L0:=L) (hX) hm hT hn hE hk lR hm uS rfl rfl rfl rfl rfl rfl goes145 (fun x m2 a k2 hT hm hE hlex hk hrx => ?_));refine uA ?_;refine aw (hs:=[x]) (l:=[a]) tab rTree ⟨rTree_iff.2 hrx,trivial⟩ uH lO (fun s m3 hle3 hs ho hc => ?_);refine iZ ?_;refine ax (L':=E.I k2 h :: L) 1 ⟨_,k2,[],hT,cz hm hle3,hk,⟨⟨8,t,0,s⟩,rfl,rfl,⟨rfl,rfl,rfl,hs⟩⟩,rfl⟩
theorem psig_par {X : Ps.Pp Tree} (hX : Par Tryz.prog mb E vTree 145 [E.v] h X) :
  Par Tryz.prog mb E vTree 113 [E.v] h (Ps.sigP E.N X):=by
 refine dn Tryz.func113 rfl 27 rfl fun m L k T hm0 hE hk hT hn => ?_;have hm : m ≤ m:=cy _;have hrows:=hE.rows;unfold Ps.sigP Ps.sigLike at hT;refine uA ?_;refine oB (fun b1 => ?_);refine cS fun m1 hle1 hA => ?_;replace hm : m ≤ m1:=hle1;replace hE:=hE.mono hle1;replace hX:=hX.up (cz hm0 hle1);refine uA ?_;refine oA tab (fun b2 => ?_);refine cI (ba _ _ _) ?_;refine uA ?_;refine oA tab (fun b3 => ?_);refine cI (ba _ _ _) ?_;refine iZ ?_;refine jq ?_;refine qs rfl (OT.needP (L0:=L) hT hE hk lR hm uS rfl rfl rfl rfl rfl rfl (fun hT hk => ?_));unfold Ps.inP at hT;simp only [Ps.tok_bind,Ps.ret_bind,Ps.bind_assoc,Ps.need_bind] at hT;refine lL ?_;refine TC.cut (ι:=Sl × Mem × List Tree × Nat) [1,2,3] rfl (fun _=>[]) (fun i=>i.2.1) (fun i=>E.I i.2.2.2 h :: .cells b3 0 [.int .i64 7,strV [], .int .i64 0,i.1.v] :: tok i.1 4 :: .cells b2 0 [.int .i64 0,strV [], .int .i64 0, .slice none 0 0] :: L) (fun i=>m1 ≤ i.2.1∧E.Ok i.2.1∧i.2.2.2 ≤ E.toks.length∧SlRep rTree i.2.1 i.1 i.2.2.1∧Own i.1∧i.2.2.1.length ≤ 20001∧T=(Ps.bind (Ps.resultsP E.N X) fun rs=>Ps.ret (Tree.mk 7 [] (i.2.2.1.length : Int) (i.2.2.1++rs))) E.f i.2.2.2) ?_ ?_
 ·refine uA ?_;refine jq ?_;refine qs rfl (du hT hE hk rfl rfl rfl rfl rfl rfl (fun hT hk => ?_) (fun hT => ?_))
  ·refine TO.grow0 (size:=4) ?_;refine aL (L':=E.I (k + 1 + 1) h :: .cells b3 0 [.int .i64 7,strV [], .int .i64 0, .slice none 0 0] :: tok ⟨none,0,0⟩ 4 :: .cells b2 0 [.int .i64 0,strV [], .int .i64 0, .slice none 0 0] :: L) (be (ba _ _ _) (bg _ (ba _ _ _))) ?_;exact ⟨(⟨none,0,0⟩,m1,[],k + 1 + 1),uH,uH,rfl,rfl,uS,cy _,hE,hk,cO _ _,cU,by simp,hT⟩
  ·refine uA ?_;refine jq ?_;refine qs rfl (OT.parL (L0:=L) (list1_par (first:=[]) (cap:=[.pointer (some ⟨b1,0,none⟩)]) rfl goes149 (param_par hX b1 hA)) (cy _) hT hn hE hk lR hm uS rfl rfl rfl rfl rfl rfl goes148 (fun x m2 a k2 hT hm hE hle2 hk hrx hox hlx => ?_));refine aL (L':=E.I k2 h :: .cells b3 0 [.int .i64 7,strV [], .int .i64 0, .slice none 0 0] :: tok x 4 :: .cells b2 0 [.int .i64 0,strV [], .int .i64 0, .slice none 0 0] :: L) (bg _ (ba _ _ _)) ?_;refine aj (k:=3) 1 ?_;have hA2:=hA.mono hle2;refine aq tab hA2 ?_;refine qs rfl (OT.needP (L0:=L) hT hE hk lR hm uS rfl rfl rfl rfl rfl rfl (fun hT hk => ?_));refine uA ?_;exact ⟨(x,m2,a,k2 + 1),uH,uH,rfl,rfl,uS,hle2,hE,hk,hrx,hox,hlx,hT⟩
 ·rintro ⟨s,m2,l,k1⟩ ⟨hm12,hE,hk,hs,ho,hl,hT⟩;simp only at hm12 hE hk hs ho hl hT;have hsl:=hs.len;replace hA:=hA.mono hm12;replace hX:=hX.up hm12;replace hm : m ≤ m2:=cz hm hm12;refine jd ?_;refine aj (k:=2) 1 ?_;refine aK [6] cZ 7 [.cells b3 0 [.int .i64 7,strV [], .int .i64 (s.len : Int),s.v]] (E.I k1 h :: tok s 4 :: .cells b2 0 [.int .i64 0,strV [], .int .i64 0, .slice none 0 0] :: L) (ba _ _ _) ?_;refine j3 ?_;refine ae 1 0 ?_;refine ai (k:=0) 2 hA ?_;refine af 3 ?_;refine cV (ba _ _ _) (OT.parS (L0:=L) (results_par hX) (cy _) hT hn hE hk lR hm uS rfl rfl rfl rfl rfl rfl goes150 (fun x m3 a k2 hT hm hE hle hk hr hla => ?_));refine ⟨hle,E.I k2 h :: tok s 4 :: .cells b2 0 [.int .i64 0,strV [], .int .i64 0, .slice none 0 0] :: L,ba _ _ _, ?_⟩;refine af 4 ?_;refine cP tab rTree 2 (hs.mono hle) ho hr rfl rfl rfl rfl rfl rfl rfl nx (fun s3 m4 hle4 hs3 ho3 => ?_);refine ⟨hle4,E.I k2 h :: tok s3 4 :: .cells b2 0 [.int .i64 0,strV [], .int .i64 0, .slice none 0 0] :: L,a9 _, ?_⟩;refine j5 ?_;refine ap (k:=3) 0 ?_;refine aI ?_
  rotate_left 1
  refine ld ?_;refine retQ_ret_c1 tab 3 rfl rfl rfl rfl (L':=E.I k2 h :: L) uS ⟨_,k2,[],hT,cz hm hle4,hk,⟨⟨7,[],(s.len : Int),s3⟩,rfl,rfl,⟨rfl,rfl,by show (s.len : Int)=_;rw [hsl];rfl,hs3⟩⟩,rfl⟩
end
end Go.Sep
namespace Go.Sep
open Go.Proofs
attribute [local irreducible] TC TO OT TCallX TCall DO DOt thenQ blockQ retQ At
section
variable {mb : Mem} {E : PE} {h : Int}
theorem block_par {X : Ps.Pp Tree} (hX : Par Tryz.prog mb E vTree 151 [E.v] 0 X) :
  Par Tryz.prog mb E vTree 114 [E.v] h (Ps.blockP E.N X):=by
 refine dn Tryz.func114 rfl 30 rfl fun m L k T hm0 hE hk hT hn => ?_;replace hX:=hX.up hm0;have hm : m ≤ m:=cy _;have hrows:=hE.rows;unfold Ps.blockP at hT;rw [Ps.rest_start] at hT;refine uA ?_;refine oA tab (fun b2 => ?_);refine cI (ba _ _ _) ?_;refine jd ?_;refine lG ?_;refine qs rfl (OT.needP (L0:=L) hT hE hk (by repeat (first | exact dp | refine dq ?_ | refine dr ?_)) hm uS rfl rfl rfl rfl rfl rfl (fun hT hk => ?_));refine uA ?_;refine oA tab (fun b4 => ?_);refine cI (ba _ _ _) ?_;refine jU ?_;refine TO.grow0 (size:=4) ?_;refine aL (L':=E.I (k + 1) 0 :: .cells b4 0 [.int .i64 20,strV [], .int .i64 0, .slice none 0 0] :: tok ⟨none,0,0⟩ 4 :: .cells b2 0 [.int .i64 0,strV [], .int .i64 0, .slice none 0 0] :: L) (be (ba _ _ _) (bg _ (ba _ _ _))) ?_;refine cD (ι:=Sl × Mem × List Tree × Nat × Nat) [0,2,3,4] rfl (fun x=>[]) (fun x=>x.2.1) (fun x=>E.I x.2.2.2.1 0 :: .cells b4 0 [.int .i64 20,strV [], .int .i64 0,x.1.v] :: tok x.1 4 :: .cells b2 0 [.int .i64 0,strV [], .int .i64 0, .slice none 0 0] :: L) (fun x=>m ≤ x.2.1∧E.Ok x.2.1∧x.2.2.2.1 ≤ E.toks.length∧SlRep rTree x.2.1 x.1 x.2.2.1∧Own x.1∧x.2.2.1.length + x.2.2.2.2=E.N∧T=Ps.bind (Ps.rest x.2.2.2.2 [125] X x.2.2.1) (fun l=>Ps.ret (.mk 20 [] 0 l)) E.f x.2.2.2.1) (fun x=>x.2.2.2.2) (⟨none,0,0⟩,m,[],k + 1,E.N) uH rfl uS ⟨hm,hE,hk,cO _ _,cU,by simp,hT⟩ ?_;rintro ⟨s,m1,acc,k,j⟩ ⟨hm,hE,hk,hs,ho,hlen,hT⟩;simp only at hm hE hk hs ho hlen hT;cases j with
 | zero=>rw [Ps.rest_zero,Ps.dry_bind] at hT;exact absurd hT hn
 | succ j =>
  rw [Ps.rest_succ,Ps.tok_bind,Ps.bind_assoc,Ps.ret_bind] at hT;refine uA ?_;refine qs rfl (du hT hE hk rfl rfl rfl rfl rfl rfl (fun hT hk => ?_) (fun hT => ?_))
  ·refine uA ?_;refine lG ?_;refine jy ?_;refine av 3 ?_;refine ax (L':=E.I (k + 1) h :: L) 3 ⟨_,k + 1,[],hT,hm,hk,⟨⟨20,[],0,s⟩,rfl,rfl,⟨rfl,rfl,rfl,hs⟩⟩,rfl⟩
  ·refine uA ?_;refine aK [7] cZ 8 [.cells b4 0 [.int .i64 20,strV [], .int .i64 0,s.v]] (E.I k 0 :: tok s 4 :: .cells b2 0 [.int .i64 0,strV [], .int .i64 0, .slice none 0 0] :: L) (ba _ _ _) ?_;refine j3 ?_
   (first | refine DO.loadL tab 1 0 uC uK uK rfl rfl rfl rfl rfl rfl rfl rfl ?_ | refine DO.loadL tab 1 1 uC uK uK rfl rfl rfl rfl rfl rfl rfl rfl ?_ | refine DO.loadL tab 1 2 uC uK uK rfl rfl rfl rfl rfl rfl rfl rfl ?_ | refine DO.loadL tab 1 3 uC uK uK rfl rfl rfl rfl rfl rfl rfl rfl ?_ | refine DO.loadL tab 1 4 uC uK uK rfl rfl rfl rfl rfl rfl rfl rfl ?_ | refine DO.loadL tab 1 5 uC uK uK rfl rfl rfl rfl rfl rfl rfl rfl ?_ | refine DO.loadL (k:=0) tab 1 0 uC uK uK rfl rfl rfl rfl rfl rfl rfl rfl ?_ | refine DO.loadL (k:=0) tab 1 1 uC uK uK rfl rfl rfl rfl rfl rfl rfl rfl ?_ | refine DO.loadL (k:=0) tab 1 2 uC uK uK rfl rfl rfl rfl rfl rfl rfl rfl ?_ | refine DO.loadL (k:=0) tab 1 3 uC uK uK rfl rfl rfl rfl rfl rfl rfl rfl ?_ | refine DO.loadL (k:=0) tab 1 4 uC uK uK rfl rfl rfl rfl rfl rfl rfl rfl ?_ | refine DO.loadL (k:=0) tab 1 5 uC uK uK rfl rfl rfl rfl rfl rfl rfl rfl ?_)
   refine cQ tab uC uK [2] uK rfl ?_;refine af 3 ?_;refine cV (ba _ _ _) (dt (L0:=L) (hX) hm hT hn hE hk (by repeat (first | exact dp | refine dq ?_ | refine dr ?_)) hm uS rfl rfl rfl rfl rfl rfl goes151 (fun x mA a k2 hT hm hE hleA hk hr => ?_));refine ⟨hleA,E.I k2 0 :: tok s 4 :: .cells b2 0 [.int .i64 0,strV [], .int .i64 0, .slice none 0 0] :: L,ba _ _ _, ?_⟩;exact dZ
end
end Go.Sep
namespace Go.Sep
open Go.Proofs
attribute [local irreducible] TC TO OT TCallX TCall DO DOt thenQ blockQ retQ At
section
variable {mb : Mem} {E : PE} {h : Int}
theorem typeDecl_par {X : Ps.Pp Tree} (hX : Par Tryz.prog mb E vTree 145 [E.v] h X) :
  Par Tryz.prog mb E vTree 110 [E.v] h (Ps.typeDeclP E.N X):=by
 refine dn Tryz.func110 rfl 38 rfl fun m L k T hm0 hE hk hT hn => ?_;replace hX:=hX.up hm0;have hm : m ≤ m:=cy _;have hrows:=hE.rows;unfold Ps.typeDeclP at hT;refine uA ?_;refine oA tab (fun b2 => ?_);refine cI (ba _ _ _) ?_;refine uA ?_;refine qs rfl (OT.nameP (L0:=L) hT hE hk lR hm uS rfl rfl rfl rfl rfl rfl (fun nm hT hk => ?_));refine uA ?_;refine oA tab (fun b3 => ?_);refine cI (ba _ _ _) ?_;refine jU ?_;refine jz ?_;refine TC.region ?_
 repeat (refine TO.pureP tab rfl rfl ?_)
 refine lL ?_;refine TC.cut (ι:=Int × FuncId × Ps.Pp Tree × Nat) [0,2,3] rfl (fun i=>[(4, .func (.func i.2.1) ⟨[E.v]⟩ ⟨[]⟩)]) (fun i=>m) (fun i=>E.I i.2.2.2 h :: .cells b3 0 [.int .i64 i.1,strV nm, .int .i64 0, .slice none 0 0] :: .cells b2 0 [.int .i64 0,strV [], .int .i64 0, .slice none 0 0] :: L) (fun i=>i.2.2.2 ≤ E.toks.length∧Goes Tryz.prog i.2.1∧Par Tryz.prog m E vTree i.2.1 [E.v] h i.2.2.1∧T=Ps.bodyP E.N i.1 nm i.2.2.1 E.f i.2.2.2) ?_ ?_
 ·refine uA ?_;refine qs rfl (du hT hE hk rfl rfl rfl rfl rfl rfl (fun hT hk => ?_) (fun hT => ?_))
  ·refine uA ?_;refine av 1 ?_;exact ⟨(3,113,Ps.sigP E.N X,k + 1 + 1),uH,uH,rfl,rfl,uS,hk,goes113,psig_par hX,hT⟩
  ·refine uA ?_;refine qs rfl (OT.needP (L0:=L) hT hE hk lR hm uS rfl rfl rfl rfl rfl rfl (fun hT hk => ?_));refine uA ?_;exact ⟨(2,145,X,k + 1 + 1),uH,uH,rfl,rfl,uS,hk,goes145,hX,hT⟩
 rintro ⟨kd,ff,Y,k⟩ ⟨hk,hgo,hY,hT⟩;simp only at hk hgo hY hT;unfold Ps.bodyP at hT;rw [Ps.rest_start] at hT;refine uA ?_;refine qs rfl (OT.needP (L0:=L) hT hE hk lR hm uS rfl rfl rfl rfl rfl rfl (fun hT hk => ?_));refine TO.grow0 (size:=4) ?_;refine aL (L':=E.I (k + 1) h :: .cells b3 0 [.int .i64 kd,strV nm, .int .i64 0, .slice none 0 0] :: tok ⟨none,0,0⟩ 4 :: .cells b2 0 [.int .i64 0,strV [], .int .i64 0, .slice none 0 0] :: L) (be (ba _ _ _) (bg _ (ba _ _ _))) ?_;refine cD (ι:=Sl × Mem × List Tree × Nat × Nat) [0,2,3,4] rfl (fun x=>[]) (fun x=>x.2.1) (fun x=>E.I x.2.2.2.1 h :: .cells b3 0 [.int .i64 kd,strV nm, .int .i64 0,x.1.v] :: tok x.1 4 :: .cells b2 0 [.int .i64 0,strV [], .int .i64 0, .slice none 0 0] :: L) (fun x=>m ≤ x.2.1∧E.Ok x.2.1∧x.2.2.2.1 ≤ E.toks.length∧SlRep rTree x.2.1 x.1 x.2.2.1∧Own x.1∧x.2.2.1.length + x.2.2.2.2=E.N∧T=Ps.bind (Ps.rest x.2.2.2.2 [125] (Ps.fieldP Y) x.2.2.1) (fun l=>Ps.ret (.mk kd nm 0 l)) E.f x.2.2.2.1) (fun x=>x.2.2.2.2) (⟨none,0,0⟩,m,[],k + 1,E.N) uH rfl uS ⟨hm,hE,hk,cO _ _,cU,by simp,hT⟩ ?_;rintro ⟨s,m1,acc,k,j⟩ ⟨hm,hE,hk,hs,ho,hlen,hT⟩;simp only at hm hE hk hs ho hlen hT;cases j with
 | zero=>rw [Ps.rest_zero,Ps.dry_bind] at hT;exact absurd hT hn
 | succ j =>
  rw [Ps.rest_succ,Ps.tok_bind,Ps.bind_assoc,Ps.ret_bind] at hT;refine uA ?_;refine qs rfl (du hT hE hk rfl rfl rfl rfl rfl rfl (fun hT hk => ?_) (fun hT => ?_))
  ·refine uA ?_;refine jy ?_;refine av 3 ?_;refine ax (L':=E.I (k + 1) h :: L) 3 ⟨_,k + 1,[],hT,hm,hk,⟨⟨kd,nm,0,s⟩,rfl,rfl,⟨rfl,rfl,rfl,hs⟩⟩,rfl⟩
  ·unfold Ps.fieldP at hT;simp only [Ps.name_bind,Ps.bind_assoc,Ps.need_bind,Ps.ret_bind] at hT;refine uA ?_;refine qs rfl (OT.nameP (L0:=L) hT hE hk lT hm uS rfl rfl rfl rfl rfl rfl (fun t hT hk => ?_));refine uA ?_;refine aK [10] cZ 11 [.cells b3 0 [.int .i64 kd,strV nm, .int .i64 0,s.v]] (E.I (k + 1) h :: tok s 4 :: .cells b2 0 [.int .i64 0,strV [], .int .i64 0, .slice none 0 0] :: L) (ba _ _ _) ?_;refine j3 ?_;refine ae 1 0 ?_;refine cQ tab uC uK [2,3] uK rfl ?_;refine af 4 ?_;refine cV (ba _ _ _) (dt (L0:=L) hY hm hT hn hE hk lT hm uS rfl rfl rfl rfl rfl rfl hgo (fun x m3 a k2 hT hm hE hle hk hr => ?_));refine ⟨hle,E.I k2 h :: tok s 4 :: .cells b2 0 [.int .i64 0,strV [], .int .i64 0, .slice none 0 0] :: L,ba _ _ _, ?_⟩;refine af 5 ?_;refine cY tab rTree (hs:=[x]) (l:=[a]) ⟨rTree_iff.2 hr,trivial⟩ rfl rfl rfl rfl rfl lO (fun s2 m4 hle2 hs2 ho2 hc2 => ?_);refine ⟨hle2,_,a9 _, ?_⟩;refine cQ tab uC uK [6] uK rfl ?_;refine af 7 ?_;refine cY tab rTree (hs:=[⟨6,t,0,s2⟩]) (l:=[.mk 6 t 0 [a]]) ⟨rTree_iff.2 ⟨rfl,rfl,rfl,hs2⟩,trivial⟩ rfl rfl rfl rfl rfl lO (fun s3 m5 hle3 hs3 ho3 hc3 => ?_);refine ⟨hle3,_,a9 _, ?_⟩;refine af 8 ?_;refine cP tab rTree 2 (hs.mono (cz hle (cz hle2 hle3))) ho hs3 rfl rfl rfl rfl rfl rfl rfl lX (fun s4 m6 hle6 hs4 ho4 => ?_);refine ⟨hle6,E.I k2 h :: tok s4 4 :: .cells b2 0 [.int .i64 0,strV [], .int .i64 0, .slice none 0 0] :: L,a9 _, ?_⟩;refine cQ tab uC uK [9] uK rfl ?_;refine cR ?_;refine aB 10 ?_;refine cK (k:=3) tab 0 rfl rfl rfl rfl rfl rfl rfl rfl ?_;refine DOt.perm (ba _ _ _) ?_;refine aI ?_
   rotate_left 1
   replace hm:=cz hm (cz hle2 (cz hle3 hle6));replace hE:=hE.mono (cz hle2 (cz hle3 hle6));refine uA ?_;refine qs rfl (OT.needP (L0:=L) hT hE hk lT hm uS rfl rfl rfl rfl rfl rfl (fun hT hk => ?_));refine uA ?_;exact ⟨(s4,m6,acc++[Tree.mk 6 t 0 [a]],k2 + 1,j),uH,uH,rfl,rfl,uS,⟨hm,hE,hk,hs4,ho4,by simp only [a6,a7,a8];omega,hT⟩,by simp only;omega⟩
theorem decl_par {X Y : Ps.Pp Tree} (hX : Par Tryz.prog mb E vTree 145 [E.v] h X) (hY : Par Tryz.prog mb E vTree 114 [E.v] h Y) :
  Par Tryz.prog mb E vTree 57 [E.v] h (Ps.declP E.N X Y):=by
 refine dn Tryz.func57 rfl 49 rfl fun m L k T hm0 hE hk hT hn => ?_;replace hX:=hX.up hm0;replace hY:=hY.up hm0;have hm : m ≤ m:=cy _;unfold Ps.declP at hT;refine uA ?_;refine oA tab (fun b2 => ?_);refine cI (ba _ _ _) ?_;refine uA ?_;refine qs rfl (du hT hE hk rfl rfl rfl rfl rfl rfl (fun hT hk => ?_) (fun hT => ?_))
 ·refine uA ?_;rw [← Ps.bind_ret (Ps.typeDeclP E.N X)] at hT;refine qs rfl (dt (L0:=L) (typeDecl_par hX) hm hT hn hE hk lR hm uS rfl rfl rfl rfl rfl rfl goes110 (fun x m2 a k2 hT hm hE hlex hk hrx => ?_));exact eS
 refine uA ?_;refine qs rfl (OT.needP (L0:=L) hT hE hk lR hm uS rfl rfl rfl rfl rfl rfl (fun hT hk => ?_));refine uA ?_;refine qs rfl (du hT hE hk rfl rfl rfl rfl rfl rfl (fun hT hk => ?_) (fun hT => ?_))
 ·refine uA ?_;refine qs rfl (OT.nameP (L0:=L) hT hE hk lR hm uS rfl rfl rfl rfl rfl rfl (fun recv hT hk => ?_));refine uA ?_;refine qs rfl (OT.needP (L0:=L) hT hE hk lR hm uS rfl rfl rfl rfl rfl rfl (fun hT hk => ?_));refine uA ?_;refine qs rfl (OT.nameP (L0:=L) hT hE hk lR hm uS rfl rfl rfl rfl rfl rfl (fun of hT hk => ?_));refine uA ?_;refine aw (hs:=[⟨10,of,0,⟨none,0,0⟩⟩]) (l:=[Ps.leaf 10 of]) tab rTree ⟨rTree_iff.2 ⟨rfl,rfl,rfl,cO _ _⟩,trivial⟩ uH lO (fun s m2 hle hs ho hc => ?_);replace hm:=hle;replace hE:=hE.mono hle;refine uA ?_;refine oA tab (fun b5 => ?_);refine cI (ba _ _ _) ?_;refine iZ ?_;refine qs rfl (OT.needP (L0:=L) hT hE hk lR hm uS rfl rfl rfl rfl rfl rfl (fun hT hk => ?_));refine uA ?_;refine qs rfl (OT.nameP (L0:=L) hT hE hk lR hm uS rfl rfl rfl rfl rfl rfl (fun nm hT hk => ?_));refine uA ?_;have hs0:=hs;refine aK [11] cZ 12 [.cells b5 0 [.int .i64 11,strV [], .int .i64 0,s.v], .cells b2 0 [.int .i64 0,strV [], .int .i64 0, .slice none 0 0]] (E.I (k + 1 + 1 + 1 + 1 + 1 + 1 + 1) h :: L) (be (ba _ _ _) (bg _ (ba _ _ _))) ?_;refine cQ tab uC uK [0,1,5,7] uK rfl ?_;refine ae (k:=0) 2 0 ?_;refine DO.fork 3 [6] uK ⟨⟨_,rfl,rfl,rfl, ?_⟩,⟨_,rfl,rfl,rfl, ?_⟩,trivial⟩
  ·skip;refine aO (hs:=[⟨11,[],0,s⟩]) (l:=[.mk 11 [] 0 [Ps.leaf 10 of]]) tab rTree ⟨rTree_iff.2 ⟨rfl,rfl,rfl,hs⟩,trivial⟩ uH lO (fun s1 m1 hle1 hs1 ho1 hc1 => ?_);replace hm:=cz hm hle1;replace hE:=hE.mono hle1;refine kQ ?_;refine af 6 ?_;refine cV List.perm_middle (dt (L0:=L) (psig_par hX) hm hT hn hE hk lR hm uS rfl rfl rfl rfl rfl rfl goes113 (fun x m3 a k2 hT hm hE hle2 hk hrx => ?_));refine ⟨hle2,E.I k2 h :: L,cW (l:=[_,_]), ?_⟩;refine af 8 ?_;refine cV List.perm_middle (dt (L0:=L) hY hm hT hn hE hk lR hm uS rfl rfl rfl rfl rfl rfl goes114 (fun y m4 b k3 hT hm hE hle3 hk hry => ?_));refine ⟨hle3,E.I k3 h :: L,cW (l:=[_,_]), ?_⟩;have hz1:=hrx.mono hle3;have hz2:=hry;have hz3:=hs1.mono (cz hle2 hle3);exact dP
  ·skip;refine cV List.perm_middle (dt (L0:=L) (psig_par hX) hm hT hn hE hk lR hm uS rfl rfl rfl rfl rfl rfl goes113 (fun x m3 a k2 hT hm hE hle2 hk hrx => ?_));refine ⟨hle2,E.I k2 h :: L,cW (l:=[_,_]), ?_⟩;refine DO.fork 3 [8] uK ⟨⟨_,rfl,rfl,rfl, ?_⟩,⟨_,rfl,rfl,rfl, ?_⟩,trivial⟩
   ·skip;refine aO (hs:=[⟨11,[],0,s⟩]) (l:=[.mk 11 [] 0 [Ps.leaf 10 of]]) tab rTree ⟨rTree_iff.2 ⟨rfl,rfl,rfl,(hs.mono hle2)⟩,trivial⟩ uH lO (fun s1 m1 hle1 hs1 ho1 hc1 => ?_);replace hm:=cz hm hle1;replace hE:=hE.mono hle1;refine kQ ?_;refine af 8 ?_;refine cV List.perm_middle (dt (L0:=L) hY hm hT hn hE hk lR hm uS rfl rfl rfl rfl rfl rfl goes114 (fun y m4 b k3 hT hm hE hle3 hk hry => ?_));refine ⟨hle3,E.I k3 h :: L,cW (l:=[_,_]), ?_⟩;have hz1:=hrx.mono (cz hle1 hle3);have hz2:=hry;have hz3:=hs1.mono hle3;exact dP
   ·skip;refine cV List.perm_middle (dt (L0:=L) hY hm hT hn hE hk lR hm uS rfl rfl rfl rfl rfl rfl goes114 (fun y m4 b k3 hT hm hE hle3 hk hry => ?_));refine ⟨hle3,E.I k3 h :: L,cW (l:=[_,_]), ?_⟩;refine af 3 ?_;refine aO (hs:=[⟨11,[],0,s⟩]) (l:=[.mk 11 [] 0 [Ps.leaf 10 of]]) tab rTree ⟨rTree_iff.2 ⟨rfl,rfl,rfl,(hs.mono (cz hle2 hle3))⟩,trivial⟩ uH lO (fun s1 m1 hle1 hs1 ho1 hc1 => ?_);replace hm:=cz hm hle1;replace hE:=hE.mono hle1;refine kQ ?_;have hz1:=hrx.mono (cz hle3 hle1);have hz2:=hry.mono hle1;have hz3:=hs1;exact dP
 ·refine uA ?_;refine qs rfl (OT.nameP (L0:=L) hT hE hk lR hm uS rfl rfl rfl rfl rfl rfl (fun nm hT hk => ?_));refine uA ?_;refine qs rfl (dt (L0:=L) (psig_par hX) hm hT hn hE hk lR hm uS rfl rfl rfl rfl rfl rfl goes113 (fun x m2 a k2 hT hm hE hlex hk hrx => ?_));refine uA ?_;refine qs rfl (dt (L0:=L) (hY) hm hT hn hE hk lR hm uS rfl rfl rfl rfl rfl rfl goes114 (fun y m3 b k3 hT hm hE hley hk hry => ?_));refine uA ?_;refine aw (hs:=[x,y]) (l:=[a,b]) tab rTree ⟨rTree_iff.2 (hrx.mono hley),rTree_iff.2 hry,trivial⟩ uH lO (fun s m4 hle hs ho hc => ?_);refine iZ ?_;refine ax (L':=E.I k3 h :: L) 1 ⟨_,k3,[],hT,cz hm hle,hk,⟨⟨4,nm,0,s⟩,rfl,rfl,⟨rfl,rfl,rfl,hs⟩⟩,rfl⟩
end
end Go.Sep
namespace Go.Sep
open Go.Proofs
attribute [local irreducible] TC TO OT TCallX TCall DO DOt thenQ blockQ retQ At
section
variable {mb : Mem} {E : PE}
theorem cond_par {X : Ps.Pp Tree} (hX : Par Tryz.prog mb E vTree 199 [E.v] 1 X) :
  Par Tryz.prog mb E vTree 180 [E.v] 0 X:=by
 refine dn Tryz.func180 rfl 13 rfl fun m L k T hm0 hE hk hT hn => ?_;replace hX:=hX.up hm0;have hm : m ≤ m:=cy _;rw [← Ps.bind_ret X] at hT;refine uA ?_;refine oA tab (fun b2 => ?_);refine cI (ba _ _ _) ?_;refine uA ?_;refine lG ?_;refine qs rfl (dt (L0:=L) (hX) hm hT hn hE hk lR hm uS rfl rfl rfl rfl rfl rfl goes199 (fun x m2 a k2 hT hm hE hlex hk hrx => ?_));refine uA ?_;refine oA tab (fun b3 => ?_);refine cI (ba _ _ _) ?_;refine iZ ?_;refine lG ?_;refine jy ?_;refine av 2 ?_;refine ax (L':=E.I k2 0 :: L) 2 ⟨_,k2,[],hT,hm,hk,⟨x,rfl,rfl,hrx⟩,rfl⟩
theorem branch_par {X Y Z : Ps.Pp Tree} (hX : Par Tryz.prog mb E vTree 199 [E.v] 1 X) (hY : Par Tryz.prog mb E vTree 114 [E.v] 0 Y) (hZ : Par Tryz.prog mb E vTree 179 [E.v] 0 Z) :
  Par Tryz.prog mb E vTree 179 [E.v] 0 (Ps.branchP X Y Z):=by
 refine dn Tryz.func179 rfl 36 rfl fun m L k T hm0 hE hk hT hn => ?_;replace hX:=hX.up hm0;replace hY:=hY.up hm0;replace hZ:=hZ.up hm0;have hm : m ≤ m:=cy _;unfold Ps.branchP at hT;refine uA ?_;refine oA tab (fun b2 => ?_);refine cI (ba _ _ _) ?_;refine uA ?_;refine qs rfl (OT.needP (L0:=L) hT hE hk lR hm uS rfl rfl rfl rfl rfl rfl (fun hT hk => ?_));refine uA ?_;refine qs rfl (dt (L0:=L) (cond_par hX) hm hT hn hE hk lR hm uS rfl rfl rfl rfl rfl rfl goes180 (fun x m2 c k2 hT hm hE hlex hk hrx => ?_));refine uA ?_;refine aw (hs:=[x]) (l:=[c]) tab rTree ⟨rTree_iff.2 hrx,trivial⟩ uH lO (fun s m3 hle3 hs ho hc => ?_);replace hm:=cz hm hle3;replace hE:=hE.mono hle3;refine kF ?_;refine oA tab (fun b3 => ?_);refine cI (ba _ _ _) ?_;refine iZ ?_;refine aK [7] cZ 8 [.cells b3 0 [.int .i64 25,strV [], .int .i64 0,s.v]] (E.I k2 0 :: tok s 4 :: .cells b2 0 [.int .i64 0,strV [], .int .i64 0, .slice none 0 0] :: L) (ba _ _ _) ?_;refine ja ?_;refine cV (ba _ _ _) (dt (L0:=L) (hY) hm hT hn hE hk lR hm uS rfl rfl rfl rfl rfl rfl goes114 (fun x3 mA a3 k3 hT hm hE hleA hk hr3 => ?_));refine ⟨hleA,E.I k3 0 :: tok s 4 :: .cells b2 0 [.int .i64 0,strV [], .int .i64 0, .slice none 0 0] :: L,ba _ _ _, ?_⟩;refine af 4 ?_;refine cY tab rTree (hs:=[x3]) (l:=[a3]) ⟨rTree_iff.2 hr3,trivial⟩ rfl rfl rfl rfl rfl lO (fun sB mB hleB hsB hoB hcB => ?_);refine ⟨hleB,_,a9 _, ?_⟩;refine af 5 ?_;refine cP tab rTree 2 (hs.mono (cz hleA hleB)) ho hsB rfl rfl rfl rfl rfl rfl rfl lX (fun s3 mC hleC hs3 ho3 => ?_);refine ⟨hleC,E.I k3 0 :: tok s3 4 :: .cells b2 0 [.int .i64 0,strV [], .int .i64 0, .slice none 0 0] :: L,a9 _, ?_⟩;refine jm ?_;refine cK (k:=3) tab 0 rfl rfl rfl rfl rfl rfl rfl rfl ?_;refine DOt.perm (ba _ _ _) ?_;refine aI ?_
 rotate_left 1
 replace hm:=cz hm (cz hleB hleC);replace hE:=hE.mono (cz hleB hleC);refine uA ?_;refine qs rfl (du hT hE hk rfl rfl rfl rfl rfl rfl (fun hT hk => ?_) (fun hT => ?_))
 ·refine uA ?_;refine qs rfl (OT.peekP hT hE hk rfl rfl rfl rfl rfl rfl (fun hT => ?_) (fun hT => ?_))
  ·refine uA ?_;refine jX ?_;refine ja ?_;refine cV (ba _ _ _) (dt (L0:=L) (hZ) hm hT hn hE hk lR hm uS rfl rfl rfl rfl rfl rfl goes179 (fun x4 mA a4 k4 hT hm hE hleA hk hr4 => ?_));refine ⟨hleA,E.I k4 0 :: tok s3 4 :: .cells b2 0 [.int .i64 0,strV [], .int .i64 0, .slice none 0 0] :: L,ba _ _ _, ?_⟩;exact dW
  ·refine uA ?_;refine jX ?_;refine ja ?_;refine cV (ba _ _ _) (dt (L0:=L) (hY) hm hT hn hE hk lR hm uS rfl rfl rfl rfl rfl rfl goes114 (fun x4 mA a4 k4 hT hm hE hleA hk hr4 => ?_));refine ⟨hleA,E.I k4 0 :: tok s3 4 :: .cells b2 0 [.int .i64 0,strV [], .int .i64 0, .slice none 0 0] :: L,ba _ _ _, ?_⟩;exact dW
 ·refine uA ?_;refine jy ?_;refine av 3 ?_;refine ax (L':=E.I k3 0 :: L) 3 ⟨_,k3,[],hT,hm,hk,⟨⟨25,[],0,s3⟩,rfl,rfl,⟨rfl,rfl,rfl,hs3⟩⟩,rfl⟩
theorem stmt_par {X Y Z S : Ps.Pp Tree} (hX : Par Tryz.prog mb E vTree 199 [E.v] 1 X) (hY : Par Tryz.prog mb E vTree 114 [E.v] 0 Y) (hZ : Par Tryz.prog mb E vTree 179 [E.v] 0 Z)
  (hS : Par Tryz.prog mb E vTree 181 [E.v] 0 S) :
  Par Tryz.prog mb E vTree 151 [E.v] 0 (Ps.peek (Ps.isM [123]) Y (Ps.peek (Ps.isM [105,102]) Z (Ps.tok [102,111,114] (Ps.forP X Y) (Ps.bind S fun s=>Ps.need [59] (Ps.ret s))))):=by
 refine dn Tryz.func151 rfl 42 rfl fun m L k T hm0 hE hk hT hn => ?_;replace hX:=hX.up hm0;replace hY:=hY.up hm0;replace hZ:=hZ.up hm0;replace hS:=hS.up hm0;have hm : m ≤ m:=cy _;refine uA ?_;refine oA tab (fun b2 => ?_);refine cI (ba _ _ _) ?_;refine uA ?_;refine qs rfl (OT.peekP hT hE hk rfl rfl rfl rfl rfl rfl (fun hT => ?_) (fun hT => ?_))
 ·rw [← Ps.bind_ret Y] at hT;refine uA ?_;refine qs rfl (dt (L0:=L) (hY) hm hT hn hE hk lT hm uS rfl rfl rfl rfl rfl rfl goes114 (fun x m2 a k2 hT hm hE hlex hk hrx => ?_));exact gm
 refine uA ?_;refine qs rfl (OT.peekP hT hE hk rfl rfl rfl rfl rfl rfl (fun hT => ?_) (fun hT => ?_))
 ·rw [← Ps.bind_ret Z] at hT;refine uA ?_;refine qs rfl (dt (L0:=L) (hZ) hm hT hn hE hk lT hm uS rfl rfl rfl rfl rfl rfl goes179 (fun x m2 a k2 hT hm hE hlex hk hrx => ?_));exact gm
 refine uA ?_;refine qs rfl (du hT hE hk rfl rfl rfl rfl rfl rfl (fun hT hk => ?_) (fun hT => ?_))
 ·unfold Ps.forP at hT;refine uA ?_;refine oA tab (fun b3 => ?_);refine cI (ba _ _ _) ?_;refine jU ?_;refine TO.grow0 (size:=4) ?_;refine cI (L':=E.I (k + 1) 0 :: .cells b3 0 [.int .i64 26,strV [], .int .i64 0, .slice none 0 0] :: tok ⟨none,0,0⟩ 4 :: .cells b2 0 [.int .i64 0,strV [], .int .i64 0, .slice none 0 0] :: L) (be (ba _ _ _) (bg _ (ba _ _ _))) ?_;obtain ⟨s,hse⟩ : ∃ s : Sl,s = ⟨none,0,0⟩:=⟨_,rfl⟩
  have hs : SlRep rTree m s []:=by rw [hse];exact cO _ _
  have ho : Own s:=by rw [hse];exact cU
  rw [show Value.slice none 0 0=(⟨none,0,0⟩ : Sl).v from rfl,← hse];refine uA ?_;refine qs rfl (OT.peekP hT hE hk rfl rfl rfl rfl rfl rfl (fun hT => ?_) (fun hT => ?_))
  ·refine uA ?_;refine j6 ?_;refine ja ?_;refine cV (ba _ _ _) (dt (L0:=L) (hY) hm hT hn hE hk lT hm uS rfl rfl rfl rfl rfl rfl goes114 (fun x4 mA a4 k4 hT hm hE hleA hk hr4 => ?_));refine ⟨hleA,E.I k4 0 :: tok s 4 :: .cells b2 0 [.int .i64 0,strV [], .int .i64 0,s.v] :: L,ba _ _ _, ?_⟩;refine af 4 ?_;refine cY tab rTree (hs:=[x4]) (l:=[a4]) ⟨rTree_iff.2 hr4,trivial⟩ rfl rfl rfl rfl rfl lO (fun sB mB hleB hsB hoB hcB => ?_);refine ⟨hleB,_,a9 _, ?_⟩;refine af 5 ?_;refine cP tab rTree 2 (hs.mono (cz hleA hleB)) ho hsB rfl rfl rfl rfl rfl rfl rfl lX (fun s4 mC hleC hs4 ho4 => ?_);refine ⟨hleC,E.I k4 0 :: tok s4 4 :: .cells b2 0 [.int .i64 0,strV [], .int .i64 0,s.v] :: L,a9 _, ?_⟩;exact eM
  ·refine uA ?_;refine j6 ?_;refine ja ?_;refine cV (ba _ _ _) (dt (L0:=L) (cond_par hX) hm hT hn hE hk lT hm uS rfl rfl rfl rfl rfl rfl goes180 (fun x3 mA a3 k3 hT hm hE hleA hk hr3 => ?_));refine ⟨hleA,E.I k3 0 :: tok s 4 :: .cells b2 0 [.int .i64 0,strV [], .int .i64 0,s.v] :: L,ba _ _ _, ?_⟩;refine af 4 ?_;refine cY tab rTree (hs:=[x3]) (l:=[a3]) ⟨rTree_iff.2 hr3,trivial⟩ rfl rfl rfl rfl rfl lO (fun sB mB hleB hsB hoB hcB => ?_);refine ⟨hleB,_,a9 _, ?_⟩;refine af 5 ?_;refine cP tab rTree 2 (hs.mono (cz hleA hleB)) ho hsB rfl rfl rfl rfl rfl rfl rfl lX (fun s3 mC hleC hs3 ho3 => ?_);refine ⟨hleC,E.I k3 0 :: tok s3 4 :: .cells b2 0 [.int .i64 0,strV [], .int .i64 0,s.v] :: L,a9 _, ?_⟩;refine jm ?_;refine cK (k:=3) tab 0 rfl rfl rfl rfl rfl rfl rfl rfl ?_;refine DOt.perm (ba _ _ _) ?_;refine aI ?_
   rotate_left 1
   replace hm:=cz hm (cz hleB hleC);replace hE:=hE.mono (cz hleB hleC);refine uA ?_;refine aK [7] cZ 8 [.cells b3 0 [.int .i64 26,strV [], .int .i64 0,s3.v]] (E.I k3 0 :: tok s3 4 :: .cells b2 0 [.int .i64 0,strV [], .int .i64 0,s.v] :: L) (ba _ _ _) ?_;refine ja ?_;refine cV (ba _ _ _) (dt (L0:=L) (hY) hm hT hn hE hk lT hm uS rfl rfl rfl rfl rfl rfl goes114 (fun x4 mA a4 k4 hT hm hE hleA hk hr4 => ?_));refine ⟨hleA,E.I k4 0 :: tok s3 4 :: .cells b2 0 [.int .i64 0,strV [], .int .i64 0,s.v] :: L,ba _ _ _, ?_⟩;refine af 4 ?_;refine cY tab rTree (hs:=[x4]) (l:=[a4]) ⟨rTree_iff.2 hr4,trivial⟩ rfl rfl rfl rfl rfl lO (fun sB mB hleB hsB hoB hcB => ?_);refine ⟨hleB,_,a9 _, ?_⟩;refine af 5 ?_;refine cP tab rTree 2 (hs3.mono (cz hleA hleB)) ho3 hsB rfl rfl rfl rfl rfl rfl rfl lX (fun s4 mC hleC hs4 ho4 => ?_);refine ⟨hleC,E.I k4 0 :: tok s4 4 :: .cells b2 0 [.int .i64 0,strV [], .int .i64 0,s.v] :: L,a9 _, ?_⟩;exact eM
 refine uA ?_;refine qs rfl (dt (L0:=L) (hS) hm hT hn hE hk lR hm uS rfl rfl rfl rfl rfl rfl goes181 (fun x m2 a k2 hT hm hE hlex hk hrx => ?_));refine uA ?_;refine oA tab (fun b4 => ?_);refine cI (ba _ _ _) ?_;refine iZ ?_;refine qs rfl (OT.needP (L0:=L) hT hE hk lR hm uS rfl rfl rfl rfl rfl rfl (fun hT hk => ?_));refine jd ?_;refine av 2 ?_;refine ax (L':=E.I (k2 + 1) 0 :: L) 2 ⟨_,k2 + 1,[],hT,hm,hk,⟨x,rfl,rfl,hrx⟩,rfl⟩
end
end Go.Sep
namespace Go.Ps
theorem tokIf_eq {α : Type} (c : Bool) (s : Sep.Str) (A B : Pp α) (f : F) (k : Nat) : tokIf c s A B f k=bif (isM s f k && c) then A f (k + 1) else B f k:=by
 unfold tokIf tok;cases c <;> cases h : isM s f k <;> simp [h]
end Go.Ps
namespace Go.Sep
open Go.Proofs
attribute [local irreducible] TC TO OT TCallX TCall DO DOt thenQ blockQ retQ At
section
variable {mb : Mem} {E : PE}
theorem perm_simple {α : Type} {e t n s b : α} {l : List α} : (e :: t :: n :: s :: b :: l).Perm ([n]++(e :: s :: b :: t :: l)):=by
 refine be (bg _ (ba _ _ _)) (be (ba _ _ _) (bg _ (bg _ ?_)));exact be (ba _ _ _) (bg _ (ba _ _ _))
def Tells (fn : FuncId) (p : Tree→Bool) : Prop:=Goes Tryz.prog fn ∧ ∀ (m : Mem) (L : List Item) (h : HTree) (a : Tree),TreeRep m h a→TCall Tryz.prog fn ⟨[treeV h]⟩ m L (Ret (.bool (p a)) m L)
theorem isNm_tells : Tells 201 Ps.isNm:=by
 refine ⟨goes201,fun m L h a hr => ?_⟩;obtain ⟨h1,h2,h3,h4⟩:=hr;unfold TCall;refine ak Tryz.func201 6 ?_;refine az (fun b => ?_);refine iT ?_;unfold Ps.isNm;rw [h1]
theorem isPl_tells : Tells 190 Ps.isPl:=by
 refine ⟨goes190,fun m L h a hr => ?_⟩;obtain ⟨h1,h2,h3,h4⟩:=hr;unfold TCall;refine ak Tryz.func190 26 ?_;refine oB (fun b => ?_)
 repeat' (first|(first|refine q1 ?_|refine q3 ?_|refine q4 tab rfl rfl ?_|refine q5 ?_|refine q6 ?_|refine q15 ?_)|(refine qs rfl (ql tab 0 rfl rfl rfl rfl rfl rfl ?_))|(refine TO.splitP rfl rfl (fun hb => ?_) (fun hb => ?_)))
 all_goals
  refine iT ?_;refine kG ?_;unfold Ps.isPl;rw [← h1,← h2]
  simp_all
theorem all_law (m : Mem) (L : List Item) (s : Sl) (l : List Tree) (hs : SlRep rTree m s l) (b5 : Nat) (hA : At m b5 0 [s.v]) (fn : FuncId) (p : Tree→Bool) (hp : Tells fn p) :
  TCall Tryz.prog 200 ⟨[.func (.func fn) ⟨[]⟩ ⟨[]⟩, .pointer (some ⟨b5,0,none⟩)]⟩ m L (Ret (.bool (l.all p)) m L):=by
 have hlen:=hs.len;have hsm:=hs.small rfl;unfold TCall;refine ak Tryz.func200 17 ?_;refine jq ?_;refine cD (ι:=Nat) [0,1,6,7] rfl (fun k=>[(8, .int .i64 (k : Int))]) (fun _=>m) (fun _=>L) (fun k=>k ≤ l.length∧(l.take k).all p=true) (fun k=>l.length - k) 0 uH rfl uS ⟨ci _,by simp⟩ ?_;rintro k ⟨hk,hI⟩;refine uA ?_;refine an (fun hc => ?_) (fun hc => ?_)
 ·have hlt : k < l.length:=lM;have hx : l[k]? = some l[k]:=bm hlt;refine jZ ?_;rintro bx ix hx' hrx hAx;refine uA ?_;refine aq tab hAx ?_;refine aD tab (fun b9 => ?_);refine iS ?_;refine uM ?_;refine qs rfl (cN (all:=[treeV hx']) rfl rfl rfl rfl rfl mr hp.1 ((hp.2 _ _ hx' l[k] (rTree_iff.1 hrx)).x ?_));refine jD ?_;refine uA ?_;cases hb : p l[k] with
  | true =>
   refine lc ?_;exact ⟨k + 1,uH,uH,rfl,rfl,uS,⟨hlt,by rw [cm hlt,List.all_append,hI];simp [hb]⟩,by omega⟩
  | false =>
   refine jo ?_;refine kG ?_
   symm
   rw [List.all_eq_false];exact ⟨l[k],bK hlt,by simp [hb]⟩
 ·refine uA ?_;refine iT ?_;rw [cg lM] at hI;rw [hI]
theorem simple_par {X Y : Ps.Pp Tree} (hX : Par Tryz.prog mb E vTree 145 [E.v] 0 X) (hY : Par Tryz.prog mb E vTree 199 [E.v] 0 Y) :
  Par Tryz.prog mb E vTree 181 [E.v] 0 (Ps.simpleP E.N X Y):=by
 refine dn Tryz.func181 rfl 109 rfl fun m L k T hm0 hE hk hT hn => ?_;replace hX:=hX.up hm0;replace hY:=hY.up hm0;have hm : m ≤ m:=cy _;have hrows:=hE.rows;unfold Ps.simpleP at hT;refine uA ?_;refine oA tab (fun b2 => ?_);refine cI (ba _ _ _) ?_;refine uA ?_;refine qs rfl (du hT hE hk rfl rfl rfl rfl rfl rfl (fun hT hk => ?_) (fun hT => ?_))
 ·refine uA ?_;refine qs rfl (OT.nameP (L0:=L) hT hE hk lT hm uS rfl rfl rfl rfl rfl rfl (fun nm hT hk => ?_));refine uA ?_;refine oA tab (fun b3 => ?_);refine cI (ba _ _ _) ?_;refine iZ ?_;refine qs rfl (dt (L0:=L) (hX) hm hT hn hE hk lT hm uS rfl rfl rfl rfl rfl rfl goes145 (fun t m2 tt k2 hT hm hE hlet hk hrt => ?_));refine uA ?_;refine aw (hs:=[t]) (l:=[tt]) tab rTree ⟨rTree_iff.2 hrt,trivial⟩ uH lO (fun s m3 hle3 hs ho hc => ?_);replace hm:=cz hm hle3;replace hE:=hE.mono hle3;refine TO.tokFo hc ho 4 ?_;refine aL (be (ba _ _ _) (bg _ (ba _ _ _))) ?_;refine aj (k:=3) 1 ?_;refine qs rfl (du hT hE hk rfl rfl rfl rfl rfl rfl (fun hT hk => ?_) (fun hT => ?_))
  ·refine uA ?_;refine aK [7] cZ 8 [.cells b3 0 [.int .i64 21,strV nm, .int .i64 0,s.v]] (E.I (k2+1) 0 :: tok s 4 :: .cells b2 0 [.int .i64 0,strV [], .int .i64 0, .slice none 0 0] :: L) (ba _ _ _) ?_;refine ja ?_;refine cV (ba _ _ _) (dt (L0:=L) (hY) hm hT hn hE hk lT hm uS rfl rfl rfl rfl rfl rfl goes199 (fun x4 mA a4 k4 hT hm hE hleA hk hr4 => ?_));refine ⟨hleA,E.I k4 0 :: tok s 4 :: .cells b2 0 [.int .i64 0,strV [], .int .i64 0, .slice none 0 0] :: L,ba _ _ _, ?_⟩;refine af 4 ?_;refine cY tab rTree (hs:=[x4]) (l:=[a4]) ⟨rTree_iff.2 hr4,trivial⟩ rfl rfl rfl rfl rfl lO (fun sB mB hleB hsB hoB hcB => ?_);refine ⟨hleB,_,a9 _, ?_⟩;refine af 5 ?_;refine cP tab rTree 2 (hs.mono (cz hleA hleB)) ho hsB rfl rfl rfl rfl rfl rfl rfl lX (fun s4 mC hleC hs4 ho4 => ?_);refine ⟨hleC,E.I k4 0 :: tok s4 4 :: .cells b2 0 [.int .i64 0,strV [], .int .i64 0, .slice none 0 0] :: L,a9 _, ?_⟩;refine jm ?_;refine cK (k:=3) tab 0 rfl rfl rfl rfl rfl rfl rfl rfl ?_;refine DOt.perm (ba _ _ _) ?_;refine aI ?_
   rotate_left 1
   replace hm:=cz hm (cz hleB hleC);replace hE:=hE.mono (cz hleB hleC);refine ld ?_;refine ax (L':=E.I k4 0 :: L) 3 ⟨_,k4,[],hT,hm,hk,⟨⟨21,nm,0,s4⟩,rfl,rfl,⟨rfl,rfl,rfl,hs4⟩⟩,rfl⟩
  ·refine uA ?_;refine jy ?_;refine av 3 ?_;refine ax (L':=E.I k2 0 :: L) 3 ⟨_,k2,[],hT,hm,hk,⟨⟨21,nm,0,s⟩,rfl,rfl,⟨rfl,rfl,rfl,hs⟩⟩,rfl⟩
 refine uA ?_;refine qs rfl (du hT hE hk rfl rfl rfl rfl rfl rfl (fun hT hk => ?_) (fun hT => ?_))
 ·refine uA ?_;refine oA tab (fun b4 => ?_);refine cI (ba _ _ _) ?_;refine iZ ?_;refine qs rfl (OT.peekP hT hE hk rfl rfl rfl rfl rfl rfl (fun hT => ?_) (fun hT => ?_))
  ·refine uA ?_;refine jy ?_;refine av 2 ?_;refine ax (L':=E.I (k + 1) 0 :: L) 2 ⟨_,k + 1,[],hT,hm,hk,⟨⟨27,[],0,⟨none,0,0⟩⟩,rfl,rfl,⟨rfl,rfl,rfl,cO _ _⟩⟩,rfl⟩
  ·refine uA ?_;refine qs rfl (OT.parL (L0:=L) (list1_par (first:=[E.v]) (cap:=[]) rfl goes199 hY) hm hT hn hE hk lT hm uS rfl rfl rfl rfl rfl rfl goes148 (fun x m2 l k2 hT hm hE hlex hk hrx hox hlx => ?_));refine aL (L':=E.I k2 0 :: .cells b4 0 [.int .i64 27,strV [], .int .i64 0, .slice none 0 0] :: tok x 4 :: .cells b2 0 [.int .i64 0,strV [], .int .i64 0, .slice none 0 0] :: L) (bg _ (ba _ _ _)) ?_;refine kJ ?_;refine ax (L':=E.I k2 0 :: L) 3 ⟨_,k2,[],hT,hm,hk,⟨⟨27,[],0,x⟩,rfl,rfl,⟨rfl,rfl,rfl,hrx⟩⟩,rfl⟩
 refine uA ?_;refine qs rfl (du hT hE hk rfl rfl rfl rfl rfl rfl (fun hT hk => ?_) (fun hT => ?_))
 ·refine uA ?_;refine iS ?_;refine ax (L':=E.I (k + 1) 0 :: L) 1 ⟨_,k + 1,[],hT,hm,hk,⟨⟨28,[],0,⟨none,0,0⟩⟩,rfl,rfl,⟨rfl,rfl,rfl,cO _ _⟩⟩,rfl⟩
 refine uA ?_;refine qs rfl (du hT hE hk rfl rfl rfl rfl rfl rfl (fun hT hk => ?_) (fun hT => ?_))
 ·refine uA ?_;refine iS ?_;refine ax (L':=E.I (k + 1) 0 :: L) 1 ⟨_,k + 1,[],hT,hm,hk,⟨⟨29,[],0,⟨none,0,0⟩⟩,rfl,rfl,⟨rfl,rfl,rfl,cO _ _⟩⟩,rfl⟩
 refine uA ?_;refine qs rfl (OT.parL (L0:=L) (list1_par (first:=[E.v]) (cap:=[]) rfl goes199 hY) hm hT hn hE hk lR hm uS rfl rfl rfl rfl rfl rfl goes148 (fun s m2 l k1 hT hm hE hles hk hrs hos hls => ?_));have hs:=hrs;have ho:=hos;have hl:=hls;have hlen:=hs.len;refine uA ?_;refine aD tab (fun b5 => ?_);refine uT ?_;refine cS fun m3 hle3 hA => ?_;replace hm:=cz hm hle3;replace hE:=hE.mono hle3;replace hs:=hs.mono hle3;refine uA ?_;refine cI (L':=E.I k1 0 :: tok s 4 :: .cells b2 0 [.int .i64 0,strV [], .int .i64 0, .slice none 0 0] :: L) (a9 _) ?_;refine oA tab (fun b7 => ?_);refine cI (ba _ _ _) ?_;refine jU ?_;unfold Ps.assignP at hT;simp only [Ps.tokIf_eq] at hT;refine lL ?_;refine TC.cut (ι:=Int) [0,2,5,7] rfl (fun _=>[]) (fun i=>m3) (fun i=>E.I k1 0 :: .cells b7 0 [.int .i64 i,strV [], .int .i64 0, .slice none 0 0] :: tok s 4 :: .cells b2 0 [.int .i64 0,strV [], .int .i64 0, .slice none 0 0] :: L) (fun i=>k1 + 1 ≤ E.toks.length∧T=(Ps.bind (Ps.commas E.N Y) fun l2=>Ps.ret (Tree.mk i [] (l.length : Int) (l++l2))) E.f (k1 + 1)) ?_ ?_
 ·skip;refine uA ?_;refine ar goes144 (peek_law [58,61] hE hk) ?_;cases hb1 : Ps.isM [58,61] E.f k1 with
  | false =>
   rw [hb1,Bool.false_and] at hT;simp only [cu] at hT;refine uA ?_;refine ar goes144 (peek_law [61] hE hk) ?_;cases hb2 : Ps.isM [61] E.f k1 with
   | false =>
    rw [hb2,Bool.false_and] at hT;exact dy
   | true =>
    refine uA ?_;refine oR goes200 (all_law m3 _ s l hs b5 hA _ Ps.isPl isPl_tells) ?_;cases ha2 : l.all Ps.isPl with
    | true =>
     exact fZ
    | false =>
     rw [ha2,Bool.and_false] at hT;exact dy
  | true =>
   refine uA ?_;refine oR goes200 (all_law m3 _ s l hs b5 hA _ Ps.isNm isNm_tells) ?_;cases ha1 : l.all Ps.isNm with
   | true =>
    rw [hb1,ha1] at hT;simp only [Bool.and_true,cv] at hT;refine uA ?_;refine av 1 ?_;exact ⟨22,uH,uH,rfl,rfl,uS,PE.isM_lt hb1,hT⟩
   | false =>
    rw [ha1,Bool.and_false] at hT;simp only [cu] at hT;refine uA ?_;refine ar goes144 (peek_law [61] hE hk) ?_;cases hb2 : Ps.isM [61] E.f k1 with
    | false =>
     rw [hb2,Bool.false_and] at hT;exact dy
    | true =>
     refine uA ?_;refine oR goes200 (all_law m3 _ s l hs b5 hA _ Ps.isPl isPl_tells) ?_;cases ha2 : l.all Ps.isPl with
     | true =>
      exact fZ
     | false =>
      rw [ha2,Bool.and_false] at hT;exact dy
 ·rintro kd ⟨hk,hT⟩;have hfew:=hE.few;refine kE ?_;refine aa (r':=((k1 + 1 : Nat) : Int)) uH lM ?_;refine aj (k:=2) 0 ?_;refine jq ?_;refine aj (k:=2) 1 ?_;refine aK [7] cZ 8 [.cells b7 0 [.int .i64 kd,strV [], .int .i64 (s.len : Int), .slice none 0 0]] (E.I (k1 + 1) 0 :: tok s 4 :: .cells b2 0 [.int .i64 0,strV [], .int .i64 0, .slice none 0 0] :: L) (ba _ _ _) ?_;refine ai (k:=0) 0 hA ?_;refine cQ tab uC uK [1,2,3] uK rfl ?_;refine af 4 ?_;refine cV (ba _ _ _) (OT.parL (L0:=L) (list1_par (first:=[E.v]) (cap:=[]) rfl goes199 hY) hm hT hn hE hk lR hm uS rfl rfl rfl rfl rfl rfl goes148 (fun x mA l2 k2 hT hm hE hleA hk hrx hox hlx => ?_));refine ⟨hleA,E.I k2 0 :: tok s 4 :: .cells b2 0 [.int .i64 0,strV [], .int .i64 0, .slice none 0 0] :: tok x 4 :: L,perm_simple, ?_⟩;refine af 5 ?_;refine cP tab rTree 2 (hs.mono hleA) ho hrx rfl rfl rfl rfl rfl rfl rfl nx (fun s3 mC hleC hs3 ho3 => ?_);refine ⟨hleC,E.I k2 0 :: tok s3 4 :: .cells b2 0 [.int .i64 0,strV [], .int .i64 0, .slice none 0 0] :: tok x 4 :: L,a9 _, ?_⟩;refine jm ?_;refine cK (k:=3) tab 0 rfl rfl rfl rfl rfl rfl rfl rfl ?_;refine DOt.perm (ba _ _ _) ?_;refine aI ?_
  rotate_left 1
  refine ld ?_;refine retQ_ret_c1 tab 3 rfl rfl rfl rfl (L':=E.I k2 0 :: L) uS ⟨_,k2,[],hT,cz hm hleC,hk,⟨⟨kd,[],(s.len : Int),s3⟩,rfl,rfl,⟨rfl,rfl,by show (s.len : Int)=_;rw [hlen];rfl,hs3⟩⟩,rfl⟩
end
end Go.Sep
namespace Go.Ps
theorem oneOf_some {α : Type} {ops : List Sep.Str} {A : Sep.Str→Pp α} {B : Pp α} {f : F} {k : Nat} {s : Sep.Str} (h : ops.find? (fun s=>isM s f k)=some s) : oneOf ops A B f k=A s f (k + 1):=by unfold oneOf;rw [h]
theorem oneOf_none {α : Type} {ops : List Sep.Str} {A : Sep.Str→Pp α} {B : Pp α} {f : F} {k : Nat} (h : ops.find? (fun s=>isM s f k)=none) : oneOf ops A B f k=B f k:=by unfold oneOf;rw [h]
theorem find_at {p : Sep.Str→Bool} {l : List Sep.Str} {i : Nat} (hi : i < l.length) (h1 : (l.take i).all (fun s => !p s)=true) (h2 : p l[i]=true) : l.find? p=some l[i]:=by
 have e : l=l.take i++l[i] :: l.drop (i + 1):=by rw [List.getElem_cons_drop,cj]
 rw [List.find?_eq_some_iff_append];exact ⟨h2,l.take i,l.drop (i + 1),e,fun a ha=>by simpa using List.all_eq_true.1 h1 a ha⟩
theorem find_no {p : Sep.Str→Bool} {l : List Sep.Str} (h1 : l.all (fun s => !p s)=true) : l.find? p=none:=by
 rw [List.find?_eq_none];intro a ha;simpa using List.all_eq_true.1 h1 a ha
end Go.Ps
namespace Go.Sep
open Go.Proofs
attribute [local irreducible] TC TO OT TCallX TCall DO DOt thenQ blockQ retQ At
section
variable {mb : Mem} {E : PE} {h : Int}
theorem levels_law (m : Mem) (L : List Item) : TCall Tryz.prog 189 ⟨[]⟩ m L (Made m L fun r m' => ∃ s : Sl,r=s.v∧SlRep (rSl rStr) m' s Ps.levels):=by
 unfold TCall;refine ak Tryz.func189 7 ?_;refine aw (hs:=[[124,124]]) (l:=[[124,124]]) tab rStr ⟨rfl,trivial⟩ uH lO (fun s1 m1 h1 hs1 _ _ => ?_);refine aw (hs:=[[38,38]]) (l:=[[38,38]]) tab rStr ⟨rfl,trivial⟩ uH lO (fun s2 m2 h2 hs2 _ _ => ?_);refine aw (hs:=[[61,61],[33,61],[60],[60,61],[62],[62,61]]) (l:=[[61,61],[33,61],[60],[60,61],[62],[62,61]]) tab rStr ⟨rfl,rfl,rfl,rfl,rfl,rfl,trivial⟩ uH lO (fun s3 m3 h3 hs3 _ _ => ?_);refine aw (hs:=[[43],[45]]) (l:=[[43],[45]]) tab rStr ⟨rfl,rfl,trivial⟩ uH lO (fun s4 m4 h4 hs4 _ _ => ?_);refine aw (hs:=[[42],[47],[37]]) (l:=[[42],[47],[37]]) tab rStr ⟨rfl,rfl,rfl,trivial⟩ uH lO (fun s5 m5 h5 hs5 _ _ => ?_);have k45:=h5;have k35:=cz h4 k45;have k25:=cz h3 k35;have k15:=cz h2 k25;refine aw (hs:=[s1,s2,s3,s4,s5]) (l:=Ps.levels) tab (rSl rStr) ⟨hs1.mono k15,hs2.mono k25,hs3.mono k35,hs4.mono k45,hs5,trivial⟩ uH lO (fun s m6 h6 hs _ _ => ?_);refine uA ?_;refine ag ⟨cz h1 (cz k15 h6),rfl,s,rfl,hs⟩
theorem levels_ne {ops : List Str} (ho : ops ∈ Ps.levels) {s : Str} (hs : s ∈ ops) : s ≠ []:=by
 have : ∀ ops ∈ Ps.levels, ∀ s ∈ ops,s ≠ []:=lO;exact this ops ho s hs
theorem binary_par {U : Ps.Pp Tree} (hU : Par Tryz.prog mb E vTree 220 [E.v] h U) :
  ∀ d j : Nat,j + d=5→Par Tryz.prog mb E vTree 214 [E.v, .int .i64 (j : Int)] h (Ps.binL E.N U (Ps.levels.drop j)):=by
 intro d
 induction d with
 | zero =>
  intro j hj;refine dn Tryz.func214 rfl 46 rfl fun m L k T hm0 hE hk hT hn => ?_;replace hU:=hU.up hm0;obtain rfl : j=5:=lM;have hm : m ≤ m:=cy _;replace hT : T=Ps.bind U Ps.ret E.f k:=by rw [Ps.bind_ret];exact hT
  refine uA ?_;refine oA tab (fun b4 => ?_);refine cI (ba _ _ _) ?_;refine uA ?_;refine oC goes189 ((levels_law _ _).x ?_);rintro _ m1 _ ⟨hm1,rfl,s,rfl,hs⟩;have hlen:=hs.len;replace hm:=hm1;replace hE:=hE.mono hm1;refine uA ?_;refine an (fun hc => ?_) (fun hc => ?_)
  ·refine uA ?_;refine qs rfl (dt (L0:=L) (hU) hm hT hn hE hk lR hm uS rfl rfl rfl rfl rfl rfl goes220 (fun x m2 a k2 hT hm hE hlex hk hrx => ?_));exact eS
  ·exact absurd (by rw [hlen];rfl) hc
 | succ d ih =>
  intro j hj;have ihj:=ih (j + 1) lM;have hjl : j < Ps.levels.length:=by show j < 5;omega
  have hops : Ps.levels.drop j=Ps.levels[j] :: Ps.levels.drop (j + 1):=bR hjl;have hne : ∀ s ∈ Ps.levels[j],s ≠ []:=fun s hs=>levels_ne (bK hjl) hs;have hget : Ps.levels[j]? = some Ps.levels[j]:=bm hjl;generalize Ps.levels[j]=ops at hops hne hget;generalize hXe : Ps.binL E.N U (Ps.levels.drop (j + 1))=X at ihj;have hspec : Ps.binL E.N U (Ps.levels.drop j)=Ps.bind X (Ps.loopB E.N ops X):=by rw [hops,← hXe];rfl
  rw [hspec];clear hspec hXe hops;refine dn Tryz.func214 rfl 46 rfl fun m L k T hm0 hE hk hT hn => ?_;replace ihj:=ihj.up hm0;have hm : m ≤ m:=cy _;refine uA ?_;refine oA tab (fun b4 => ?_);refine cI (ba _ _ _) ?_;refine uA ?_;refine oC goes189 ((levels_law _ _).x ?_);rintro _ m1 _ ⟨hm1,rfl,s,rfl,hs⟩;have hlen:=hs.len;replace hm:=hm1;replace hE:=hE.mono hm1;refine uA ?_;refine an (fun hc => ?_) (fun hc => ?_)
  ·have : s.len=5:=by rw [hlen];rfl
   omega
  refine uA ?_;refine qs rfl (OT.arith (r':=((j + 1 : Nat) : Int)) rfl rfl rfl rfl rfl rfl rfl lM ?_);refine qs rfl (dt (L0:=L) (ihj) hm hT hn hE hk lR hm uS rfl rfl rfl rfl rfl rfl goes214 (fun x m2 a k2 hT hm hE hlex hk hrx => ?_));replace hs:=hs.mono hlex;have hlex' : m ≤ m2:=hm;refine uA ?_;refine oA tab (fun b6 => ?_);refine cI (ba _ _ _) ?_;refine iZ ?_;refine cD (ι:=HTree × Mem × Tree × Nat × Nat) [0,1,4,5,6] rfl (fun _=>[]) (fun x=>x.2.1) (fun x=>E.I x.2.2.2.1 h :: .cells b6 0 (treeC x.1) :: .cells b4 0 [.int .i64 0,strV [], .int .i64 0, .slice none 0 0] :: L) (fun x=>m2 ≤ x.2.1∧x.2.2.2.1 ≤ E.toks.length∧TreeRep x.2.1 x.1 x.2.2.1∧T=Ps.loopB x.2.2.2.2 ops X x.2.2.1 E.f x.2.2.2.1) (fun x=>x.2.2.2.2) (x,m2,a,k2,E.N) uH rfl uS ⟨cy _,hk,hrx,hT⟩ ?_;rintro ⟨x,m3,a,k3,N⟩ ⟨hm3,hk,hrx,hT⟩;simp only at hm3 hk hrx hT;replace hm:=cz hm hm3;replace hE:=hE.mono hm3;replace hs:=hs.mono hm3;cases N with
  | zero=>exact absurd hT hn
  | succ N =>
   replace hT : T=Ps.oneOf ops (fun op=>Ps.bind X fun m=>Ps.loopB N ops X (Ps.binT op a m)) (Ps.ret a) E.f k3:=hT;refine q2 ?_;refine q1 ?_;refine q3 ?_;refine q4 tab rfl rfl ?_;refine q5 ?_;refine q6 ?_;refine TC.cut (ι:=Str × Nat) [0,1,4,5,6] rfl (fun i=>[(7,strV i.1)]) (fun _=>m3) (fun i=>E.I i.2 h :: .cells b6 0 (treeC x) :: .cells b4 0 [.int .i64 0,strV [], .int .i64 0, .slice none 0 0] :: L) (fun i=>(i.1=[]∧i.2=k3∧ops.find? (fun s=>Ps.isM s E.f k3)=none) ∨ (i.1 ≠ []∧i.2=k3 + 1∧k3 + 1 ≤ E.toks.length∧ops.find? (fun s=>Ps.isM s E.f k3)=some i.1)) ?_ ?_
   ·refine uA ?_;refine qs rfl (OT.index tab (rSl rStr) j hs rfl rfl rfl rfl rfl rfl rfl hget ?_);intro bi ii row hrow hAr;have hrow' : SlRep rStr m3 row ops:=hrow;have hlr:=hrow'.len;have hsm:=hrow'.small rfl;refine uA ?_;refine aq tab hAr ?_;refine cD (ι:=Nat) [0,1,4,5,6,7,24,25] rfl (fun i=>[(26, .int .i64 (i : Int))]) (fun _=>m3) (fun i=>E.I k3 h :: .cells b6 0 (treeC x) :: .cells b4 0 [.int .i64 0,strV [], .int .i64 0, .slice none 0 0] :: L) (fun i=>i ≤ ops.length∧(ops.take i).all (fun s => !Ps.isM s E.f k3)=true) (fun i=>ops.length - i) 0 uH rfl uS ⟨ci _,by simp⟩ ?_;rintro i ⟨hi,hI⟩;refine uA ?_;refine an (fun hc2 => ?_) (fun hc2 => ?_)
    ·have hlt : i < ops.length:=lM;have hx : ops[i]? = some ops[i]:=bm hlt;refine uA ?_;refine au tab rStr i hrow' uH lS rfl hx ?_;rintro bs is' sv hsv hAs;obtain rfl:=(show sv=ops[i] from hsv)
     refine uA ?_;refine aq tab hAs ?_;refine oR goes109 (take_law ops[i] hE hk) ?_;unfold PE.step;cases hb : Ps.isM ops[i] E.f k3 with
     | true =>
      refine uA ?_;exact ⟨(ops[i],k3 + 1),uH,uH,rfl,rfl,uS, .inr ⟨hne _ (bK hlt),rfl,PE.isM_lt hb,Ps.find_at hlt hI hb⟩⟩
     | false =>
      exact fM
    ·rw [cg lM] at hI;refine uA ?_;exact ⟨([],k3),uH,uH,rfl,rfl,uS, .inl ⟨rfl,rfl,Ps.find_no hI⟩⟩
   ·rintro ⟨found,k4⟩ hI;simp only at hI;refine uA ?_;refine an (fun hf => ?_) (fun hf => ?_)
    ·rcases hI with ⟨rfl,rfl,hI⟩ | ⟨h1,_⟩
     ·rw [Ps.oneOf_none hI] at hT;refine jd ?_;refine av 2 ?_;refine ax (L':=E.I k4 h :: L) 2 ⟨_,k4,[],hT,hm,hk,⟨x,rfl,rfl,hrx⟩,rfl⟩
     ·exact absurd hf h1
    ·rcases hI with ⟨h1,_⟩ | ⟨_,rfl,hk,hI⟩
     ·exact absurd h1 hf
     rw [Ps.oneOf_some hI] at hT;refine uA ?_;refine aK [8] cZ 9 [.cells b6 0 (treeC x)] (E.I (k3 + 1) h :: .cells b4 0 [.int .i64 0,strV [], .int .i64 0, .slice none 0 0] :: L) (ba _ _ _) ?_;refine j3 ?_;refine ae (k:=0) 1 0 ?_;refine cQ tab uC uK [2,3] uK rfl ?_;refine DO.arith 4 (r':=((j + 1 : Nat) : Int)) uC uK uK rfl rfl rfl rfl rfl rfl rfl rfl lS lM ?_;refine af 5 ?_;refine cV (ba _ _ _) (dt (L0:=L) ihj (cz hlex' hm3) hT hn hE hk lT hm uS rfl rfl rfl rfl rfl rfl goes214 (fun y m5 b k5 hT hm hE hle5 hk hry => ?_));refine ⟨hle5,E.I k5 h :: .cells b4 0 [.int .i64 0,strV [], .int .i64 0, .slice none 0 0] :: L,ba _ _ _, ?_⟩;refine af 6 ?_;refine cY tab rTree (hs:=[x,y]) (l:=[a,b]) ⟨rTree_iff.2 (hrx.mono hle5),rTree_iff.2 hry,trivial⟩ rfl rfl rfl rfl rfl lO (fun s9 m6 hle6 hs9 ho9 hc9 => ?_);refine ⟨hle6,_,a9 _, ?_⟩;refine lD ?_;refine cR ?_;refine aB 8 ?_;refine cL tab 0 rfl rfl rfl rfl rfl rfl rfl rfl ?_;refine DOt.perm (ba _ _ _) ?_;refine aI ?_
     rotate_left 1
     refine uA ?_;exact ⟨(⟨53,found,0,s9⟩,m6,Ps.binT found a b,k5,N),uH,uH,rfl,rfl,uS,⟨cz hm3 (cz hle5 hle6),hk,⟨rfl,rfl,rfl,hs9⟩,hT⟩,by simp only;omega⟩
theorem expr_par {U : Ps.Pp Tree} (hU : Par Tryz.prog mb E vTree 220 [E.v] h U) :
  Par Tryz.prog mb E vTree 199 [E.v] h (Ps.binL E.N U Ps.levels):=by
 refine dn Tryz.func199 rfl 5 rfl fun m L k T hm0 hE hk hT hn => ?_;have hB:=(binary_par hU 5 0 rfl).up hm0;have hm : m ≤ m:=cy _;replace hT : T=Ps.bind (Ps.binL E.N U Ps.levels) Ps.ret E.f k:=by rw [Ps.bind_ret];exact hT
 refine uA ?_;refine oA tab (fun b2 => ?_);refine cI (ba _ _ _) ?_;refine uA ?_;refine qs rfl (dt (L0:=L) (hB) hm hT hn hE hk lR hm uS rfl rfl rfl rfl rfl rfl goes214 (fun x m2 a k2 hT hm hE hlex hk hrx => ?_));exact eS
theorem unary_par {X Y : Ps.Pp Tree} (hX : Par Tryz.prog mb E vTree 220 [E.v] h X) (hY : Par Tryz.prog mb E vTree 227 [E.v] h Y) :
  Par Tryz.prog mb E vTree 220 [E.v] h (Ps.oneOf [[45],[33],[38],[42]] (fun op=>Ps.bind X fun t=>Ps.ret (.mk 52 op 0 [t])) Y):=by
 refine dn Tryz.func220 rfl 22 rfl fun m L k T hm0 hE hk hT hn => ?_;replace hX:=hX.up hm0;replace hY:=hY.up hm0;have hm : m ≤ m:=cy _;generalize hops : ([[45],[33],[38],[42]] : List Str)=ops at hT;refine uA ?_;refine oA tab (fun b2 => ?_);refine cI (ba _ _ _) ?_;refine uA ?_;refine qs rfl (cY tab rStr (hs:=[[45],[33],[38],[42]]) (l:=ops) (by rw [← hops];exact ⟨rfl,rfl,rfl,rfl,trivial⟩) rfl rfl rfl rfl (by rw [← hops];rfl) lO (fun s m1 hm1 hs _ _ => ?_));have hlen:=hs.len;have hsm:=hs.small rfl;replace hm:=hm1;replace hE:=hE.mono hm1;refine uA ?_;refine cD (ι:=Nat) [0,2,5,6] rfl (fun i=>[(7, .int .i64 (i : Int))]) (fun _=>m1) (fun i=>E.I k h :: .cells b2 0 [.int .i64 0,strV [], .int .i64 0, .slice none 0 0] :: L) (fun i=>i ≤ ops.length∧(ops.take i).all (fun s => !Ps.isM s E.f k)=true) (fun i=>ops.length - i) 0 uH rfl uS ⟨ci _,by simp⟩ ?_;rintro i ⟨hi,hI⟩;refine uA ?_;refine an (fun hc2 => ?_) (fun hc2 => ?_)
 ·have hlt : i < ops.length:=lM;have hx : ops[i]? = some ops[i]:=bm hlt;refine uA ?_;refine au tab rStr i hs uH lS rfl hx ?_;rintro bs is' sv hsv hAs;obtain rfl:=(show sv=ops[i] from hsv)
  refine uA ?_;refine aq tab hAs ?_;refine oR goes109 (take_law ops[i] hE hk) ?_;unfold PE.step;cases hb : Ps.isM ops[i] E.f k with
  | true =>
   replace hk:=PE.isM_lt hb;rw [Ps.oneOf_some (Ps.find_at hlt hI hb)] at hT;refine uA ?_;refine qs rfl (dt (L0:=L) (hX) hm hT hn hE hk lT hm uS rfl rfl rfl rfl rfl rfl goes220 (fun x m2 a k2 hT hm hE hlex hk hrx => ?_));refine uA ?_;refine aw (hs:=[x]) (l:=[a]) tab rTree ⟨rTree_iff.2 hrx,trivial⟩ uH lO (fun s m3 hle3 hs ho hc => ?_);refine iZ ?_;refine ax (L':=E.I k2 h :: L) 1 ⟨_,k2,[],hT,cz hm hle3,hk,⟨⟨52,ops[i],0,s⟩,rfl,rfl,⟨rfl,rfl,rfl,hs⟩⟩,rfl⟩
  | false =>
   exact fM
 ·rw [cg lM] at hI;rw [Ps.oneOf_none (Ps.find_no hI),← Ps.bind_ret Y] at hT;refine uA ?_;refine qs rfl (dt (L0:=L) (hY) hm hT hn hE hk lR hm uS rfl rfl rfl rfl rfl rfl goes227 (fun x m2 a k2 hT hm hE hlex hk hrx => ?_));exact eS
end
end Go.Sep
namespace Go.Sep
open Go.Proofs
attribute [local irreducible] TC TO OT TCallX TCall DO DOt thenQ blockQ retQ At
theorem kidPred {fn : FuncId} {p : Tree→Bool} {a : Tree} (hg : Goes Tryz.prog fn) (hB : a.wide ≤ 140737488355328) (h : ∀ (b : Tree) (m : Mem) (L : List Item) (h : HTree),TreeRep m h b→b.wide ≤ 140737488355328→TCall Tryz.prog fn ⟨[treeV h]⟩ m L (Ret (.bool (p b)) m L)) : IsPred fn p a.kids :=
 ⟨hg,fun m L x k hk hr=>h k m L x hr (bF ((da hk)) hB)⟩
theorem pr0 {l : List Tree} : ∀ q ∈ ([] : List (FuncId × (Tree→Bool))),IsPred q.1 q.2 l:=fun _ h=>by cases h
theorem pr1 {l : List Tree} {f : FuncId} {p : Tree→Bool} (h : IsPred f p l) : ∀ q ∈ [(f,p)],IsPred q.1 q.2 l:=fun q hq=>by
 rw [List.mem_singleton.1 hq];exact h
theorem pr2 {l : List Tree} {f f2 : FuncId} {p p2 : Tree→Bool} (h : IsPred f p l) (h2 : IsPred f2 p2 l) : ∀ q ∈ [(f,p),(f2,p2)],IsPred q.1 q.2 l:=fun q hq=>by
 rcases List.mem_cons.1 hq with e | hq
 ·rw [e];exact h
 ·exact pr1 h2 q hq
theorem pr3 {l : List Tree} {f f2 f3 : FuncId} {p p2 p3 : Tree→Bool} (h : IsPred f p l) (h2 : IsPred f2 p2 l) (h3 : IsPred f3 p3 l) : ∀ q ∈ [(f,p),(f2,p2),(f3,p3)],IsPred q.1 q.2 l:=fun q hq=>by
 rcases List.mem_cons.1 hq with e | hq
 ·rw [e];exact h
 ·exact pr2 h2 h3 q hq
theorem po0 {l : List Tree} : ∀ q : FuncId × (Tree→Bool),none=some q→IsPred q.1 q.2 l:=fun _ h=>by cases h
theorem po1 {l : List Tree} {f : FuncId} {p : Tree→Bool} (h : IsPred f p l) : ∀ q : FuncId × (Tree→Bool),some (f,p)=some q→IsPred q.1 q.2 l:=fun q e=>by
 cases e;exact h
theorem expr_teller (g : Sg) (a : Tree) (m : Mem) (L : List Item) (h : HTree) (hr : TreeRep m h a) (hB : a.wide ≤ 140737488355328) (hE : IsPred 161 g.expr a.kids) (hK : IsPred 74 g.block a.kids) :
  TCall Tryz.prog 161 ⟨[treeV h]⟩ m L (Ret (.bool (exprS g a)) m L):=by
 have hT : IsPred 71 Tree.isType a.kids:=kidPred goes71 hB fun b m L h hr hB=>type_law b m L h hr hB;have hSg : IsPred 73 Tree.isSig a.kids:=kidPred goes73 hB fun b m L h hr hB=>sig_law b m L h hr hB;have hr':=hr;obtain ⟨h1,h2,h3,h4⟩:=hr;have hl:=h4.len;have hsm:=h4.small rfl;refine kN ?_;unfold exprS TCall;refine cG Tryz.func161 rfl 170 rfl ?_;by_cases hk40 : a.kind=40
 ·rw [if_pos hk40];obtain ⟨k,n,u,s⟩:=h;obtain rfl : k=40:=h1.trans hk40;simp only at h2 h3 h4 hl;subst h2;subst h3;refine uA ?_;refine az (fun b => ?_);refine ar goes33 (bare_law _ _ ⟨40,a.name,a.num,s⟩ a hr' (decide (0 ≤ a.num)) false true) ?_;refine aF (fun h7 => ?_) (fun h7 => ?_)
  ·refine uL ?_;have hm1:=cy m;refine ar goes70 (db m _ ⟨40,a.name,a.num,s⟩ a hr' ⟨none,0,0⟩ [] none (cO _ _) pr0 po0) ?_;exact eB
  ·exact dU
 rw [if_neg hk40];by_cases hk41 : a.kind=41
 ·rw [if_pos hk41];obtain ⟨k,n,u,s⟩:=h;obtain rfl : k=41:=h1.trans hk41;simp only at h2 h3 h4 hl;subst h2;subst h3;refine uA ?_;refine az (fun b => ?_);refine ar goes33 (bare_law _ _ ⟨41,a.name,a.num,s⟩ a hr' (decide ((a.name.length : Int) ≤ 1024)) true false) ?_;refine aF (fun h7 => ?_) (fun h7 => ?_)
  ·refine uL ?_;have hm1:=cy m;refine ar goes70 (db m _ ⟨41,a.name,a.num,s⟩ a hr' ⟨none,0,0⟩ [] none (cO _ _) pr0 po0) ?_;exact eB
  ·exact dU
 rw [if_neg hk41];by_cases hk42 : a.kind=42
 ·rw [if_pos hk42];obtain ⟨k,n,u,s⟩:=h;obtain rfl : k=42:=h1.trans hk42;simp only at h2 h3 h4 hl;subst h2;subst h3;refine uA ?_;refine az (fun b => ?_);refine kR ?_;refine uA ?_;refine ar goes33 (bare_law _ _ ⟨42,a.name,a.num,s⟩ a hr' (decide (a.num / 2=0)) false true) ?_;refine aF (fun h7 => ?_) (fun h7 => ?_)
  ·refine uL ?_;have hm1:=cy m;refine ar goes70 (db m _ ⟨42,a.name,a.num,s⟩ a hr' ⟨none,0,0⟩ [] none (cO _ _) pr0 po0) ?_;exact eB
  ·exact dU
 rw [if_neg hk42];by_cases hk43 : a.kind=43
 ·rw [if_pos hk43];obtain ⟨k,n,u,s⟩:=h;obtain rfl : k=43:=h1.trans hk43;simp only at h2 h3 h4 hl;subst h2;subst h3;refine uA ?_;refine az (fun b => ?_);refine ar goes33 (bare_law _ _ ⟨43,a.name,a.num,s⟩ a hr' true false false) ?_;refine aF (fun h7 => ?_) (fun h7 => ?_)
  ·refine uL ?_;have hm1:=cy m;refine ar goes70 (db m _ ⟨43,a.name,a.num,s⟩ a hr' ⟨none,0,0⟩ [] none (cO _ _) pr0 po0) ?_;exact eB
  ·exact dU
 rw [if_neg hk43];by_cases hk44 : a.kind=44
 ·rw [if_pos hk44];obtain ⟨k,n,u,s⟩:=h;obtain rfl : k=44:=h1.trans hk44;simp only at h2 h3 h4 hl;subst h2;subst h3;refine uA ?_;refine az (fun b => ?_);refine ar goes68 (of_law _ _ ⟨44,a.name,a.num,s⟩ a hr' hB 44) ?_;refine aF (fun h7 => ?_) (fun h7 => ?_)
  ·refine uL ?_;have hm1:=cy m;refine ar goes70 (db m _ ⟨44,a.name,a.num,s⟩ a hr' ⟨none,0,0⟩ [] none (cO _ _) pr0 po0) ?_;exact eB
  ·exact dU
 rw [if_neg hk44];by_cases hk45 : a.kind=45
 ·rw [if_pos hk45];obtain ⟨k,n,u,s⟩:=h;obtain rfl : k=45:=h1.trans hk45;simp only at h2 h3 h4 hl;subst h2;subst h3;refine uA ?_;refine az (fun b => ?_);refine ar goes68 (of_law _ _ ⟨45,a.name,a.num,s⟩ a hr' hB 45) ?_;refine aF (fun h7 => ?_) (fun h7 => ?_)
  ·refine uL ?_;have hm1:=cy m;refine lb ?_;exact eB
  ·exact dU
 rw [if_neg hk45];by_cases hk46 : a.kind=46
 ·rw [if_pos hk46];obtain ⟨k,n,u,s⟩:=h;obtain rfl : k=46:=h1.trans hk46;simp only at h2 h3 h4 hl;subst h2;subst h3;refine uA ?_;refine az (fun b => ?_);refine ar goes33 (bare_law _ _ ⟨46,a.name,a.num,s⟩ a hr' true false false) ?_;refine aF (fun h7 => ?_) (fun h7 => ?_)
  ·refine uL ?_;refine aw (hs:=[71]) (l:=[71]) tab rFn ⟨rfl,trivial⟩ uH lO (fun s1 m1 hm1 hs1 _ _ => ?_);refine uA ?_;refine ar goes70 (db m1 _ ⟨46,a.name,a.num,s⟩ a (hr'.mono hm1) s1 [(71,Tree.isType)] (some (161,g.expr)) hs1 (pr1 hT) (po1 hE)) ?_;exact eB
  ·exact dU
 rw [if_neg hk46];by_cases hk47 : a.kind=47
 ·rw [if_pos hk47];obtain ⟨k,n,u,s⟩:=h;obtain rfl : k=47:=h1.trans hk47;simp only at h2 h3 h4 hl;subst h2;subst h3;refine uA ?_;refine az (fun b => ?_);refine ar goes33 (bare_law _ _ ⟨47,a.name,a.num,s⟩ a hr' true false false) ?_;refine aF (fun h7 => ?_) (fun h7 => ?_)
  ·refine uL ?_;refine aw (hs:=[73,74]) (l:=[73,74]) tab rFn ⟨rfl,rfl,trivial⟩ uH lO (fun s1 m1 hm1 hs1 _ _ => ?_);refine uA ?_;refine ar goes70 (db m1 _ ⟨47,a.name,a.num,s⟩ a (hr'.mono hm1) s1 [(73,Tree.isSig),(74,g.block)] none hs1 (pr2 hSg hK) po0) ?_;exact eB
  ·exact dU
 rw [if_neg hk47];by_cases hk48 : a.kind=48
 ·rw [if_pos hk48];obtain ⟨k,n,u,s⟩:=h;obtain rfl : k=48:=h1.trans hk48;simp only at h2 h3 h4 hl;subst h2;subst h3;refine uA ?_;refine az (fun b => ?_);refine ar goes68 (of_law _ _ ⟨48,a.name,a.num,s⟩ a hr' hB 48) ?_;refine aF (fun h7 => ?_) (fun h7 => ?_)
  ·refine uL ?_;refine aw (hs:=[161]) (l:=[161]) tab rFn ⟨rfl,trivial⟩ uH lO (fun s1 m1 hm1 hs1 _ _ => ?_);refine uA ?_;refine ar goes70 (db m1 _ ⟨48,a.name,a.num,s⟩ a (hr'.mono hm1) s1 [(161,g.expr)] none hs1 (pr1 hE) po0) ?_;exact eB
  ·exact dU
 rw [if_neg hk48];by_cases hk49 : a.kind=49
 ·rw [if_pos hk49];obtain ⟨k,n,u,s⟩:=h;obtain rfl : k=49:=h1.trans hk49;simp only at h2 h3 h4 hl;subst h2;subst h3;refine uA ?_;refine az (fun b => ?_);refine ar goes33 (bare_law _ _ ⟨49,a.name,a.num,s⟩ a hr' true false false) ?_;refine aF (fun h7 => ?_) (fun h7 => ?_)
  ·refine uL ?_;refine aw (hs:=[161,161]) (l:=[161,161]) tab rFn ⟨rfl,rfl,trivial⟩ uH lO (fun s1 m1 hm1 hs1 _ _ => ?_);refine uA ?_;refine ar goes70 (db m1 _ ⟨49,a.name,a.num,s⟩ a (hr'.mono hm1) s1 [(161,g.expr),(161,g.expr)] none hs1 (pr2 hE hE) po0) ?_;exact eB
  ·exact dU
 rw [if_neg hk49];by_cases hk50 : a.kind=50
 ·rw [if_pos hk50];obtain ⟨k,n,u,s⟩:=h;obtain rfl : k=50:=h1.trans hk50;simp only at h2 h3 h4 hl;subst h2;subst h3;refine uA ?_;refine az (fun b => ?_);refine qs rfl (OT.shK (r:=a.num / 4) rfl (.inr rfl) rfl rfl rfl rfl lO (by show Int.fdiv a.num 4=a.num / 4;exact Int.fdiv_eq_ediv_of_nonneg _ lO) ?_);refine uA ?_;refine aA (fun e4 => ?_) (fun e4 => ?_)
  ·have hlv : a.num=0 ∨ a.num=1 ∨ a.num=2 ∨ a.num=3:=lM;have hand : ∀ w,(Op.intBits .and .i64 a.num 1).run Tryz.prog w = .ok (.int .i64 (a.num % 2)) w:=by
    rcases hlv with e | e | e | e <;> (intro w;rw [e];rfl)
   have hlv2 : lvl a=decide ((s.len : Int)=1 + a.num % 2 + a.num / 2):=by
    unfold lvl;rw [bP (show 0 ≤ a.num by omega),bP (show a.num ≤ 3 by omega),hl];rfl
   rw [hlv2];refine uL ?_;refine qs rfl (OT.andK (r:=a.num % 2) rfl rfl rfl rfl rfl hand ?_);refine qs rfl (OT.arith (r':=1 + a.num % 2) rfl rfl rfl rfl rfl rfl lM lM ?_);refine uL ?_;refine kR ?_;refine aW (r':=1 + a.num % 2 + a.num / 2) uH lM lM ?_;refine ar goes33 (bare_law _ _ ⟨50,a.name,a.num,s⟩ a hr' (decide ((s.len : Int)=1 + a.num % 2 + a.num / 2)) false true) ?_;refine aF (fun h7 => ?_) (fun h7 => ?_)
   ·refine uL ?_;refine lb ?_;exact ed
   ·exact dU
  ·have hlv2 : lvl a=false:=by
    unfold lvl;by_cases h5 : 0 ≤ a.num
    ·rw [bQ (show ¬ a.num ≤ 3 by omega),Bool.false_and,Bool.and_false]
    ·rw [bQ h5];rfl
   rw [hlv2];refine uL ?_;refine ar goes33 (bare_law _ _ ⟨50,a.name,a.num,s⟩ a hr' false false true) ?_;exact cE rfl uS ⟨cy _,rfl,rfl⟩
 rw [if_neg hk50];by_cases hk51 : a.kind=51
 ·rw [if_pos hk51];obtain ⟨k,n,u,s⟩:=h;obtain rfl : k=51:=h1.trans hk51;simp only at h2 h3 h4 hl;subst h2;subst h3;refine uA ?_;refine az (fun b => ?_);refine ar goes33 (bare_law _ _ ⟨51,a.name,a.num,s⟩ a hr' true false false) ?_;refine aF (fun h7 => ?_) (fun h7 => ?_)
  ·refine uL ?_;refine aw (hs:=[161]) (l:=[161]) tab rFn ⟨rfl,trivial⟩ uH lO (fun s1 m1 hm1 hs1 _ _ => ?_);refine uA ?_;refine ar goes70 (db m1 _ ⟨51,a.name,a.num,s⟩ a (hr'.mono hm1) s1 [(161,g.expr)] (some (161,g.expr)) hs1 (pr1 hE) (po1 hE)) ?_;exact eB
  ·exact dU
 rw [if_neg hk51];by_cases hk52 : a.kind=52
 ·rw [if_pos hk52];obtain ⟨k,n,u,s⟩:=h;obtain rfl : k=52:=h1.trans hk52;simp only at h2 h3 h4 hl;subst h2;subst h3;refine uA ?_;refine az (fun b => ?_);refine TC.draw [] cZ 12 rfl [.cells b 0 [.int .i64 52,strV a.name, .int .i64 a.num,s.v]] L uP ?_;refine ae (k:=0) 0 0 ?_;refine cQ tab uC uK [2] uK rfl ?_;refine ae 3 0 ?_;refine af 1 ?_;refine cY tab rStr (hs:=[[45],[33],[38],[42]]) (l:=[[45],[33],[38],[42]]) ⟨rfl,rfl,rfl,rfl,trivial⟩ rfl rfl rfl rfl rfl lO (fun s1 m1 hm1 hs1 _ _ => ?_);refine ⟨hm1,_,a9 _, ?_⟩;refine af 4 (cN rfl rfl rfl rfl rfl rfl goes104 ((contains_str _ _ s1 ops4 a.name hs1).x ?_));rintro _ _ _ ⟨rfl,rfl,rfl⟩;refine ⟨cy _,_,a9 _, ?_⟩;refine af 5 (cN rfl rfl rfl rfl rfl rfl goes33 ((bare_law _ _ ⟨52,a.name,a.num,s⟩ a (hr'.mono hm1) (decide (a.name ∈ ops4)) true false).x ?_));rintro _ _ _ ⟨rfl,rfl,rfl⟩;refine ⟨cy _,_,a9 _, ?_⟩;refine cQ tab uC uK [6] uK rfl ?_;refine DO.split (d:=151) rfl (fun h7 => ?_) (fun h7 => ?_);refine ae (k:=0) 7 0 ?_;refine af 8 ?_;refine cY tab rFn (hs:=[161]) (l:=[161]) ⟨rfl,trivial⟩ rfl rfl rfl rfl rfl lO (fun s2 m2 hm2 hs2 _ _ => ?_);refine ⟨hm2,_,a9 _, ?_⟩;refine af 9 (cN rfl rfl rfl rfl rfl rfl goes70 ((db m2 _ ⟨52,a.name,a.num,s⟩ a (hr'.mono (cz hm1 hm2)) s2 [(161,g.expr)] none hs2 (pr1 hE) po0).x ?_));rintro _ _ _ ⟨rfl,rfl,rfl⟩;refine ⟨cy _,_,a9 _, ?_⟩;refine kB ?_;refine aU ?_
  rotate_left 1
  refine cQ tab uC uK [7,8,9,10,11] uK rfl ?_;refine aU ?_
  rotate_left 1
  ·refine uA ?_;refine ag ⟨cz hm1 hm2,rfl, ?_⟩;rw [h7];rfl
  ·refine uA ?_;exact eB
 rw [if_neg hk52];by_cases hk53 : a.kind=53
 ·rw [if_pos hk53];obtain ⟨k,n,u,s⟩:=h;obtain rfl : k=53:=h1.trans hk53;simp only at h2 h3 h4 hl;subst h2;subst h3;refine uA ?_;refine az (fun b => ?_);refine TC.draw [] cZ 13 rfl [.cells b 0 [.int .i64 53,strV a.name, .int .i64 a.num,s.v]] L uP ?_;refine ae (k:=0) 0 0 ?_;refine cQ tab uC uK [3] uK rfl ?_;refine ae 4 0 ?_;refine af 1 (cN rfl rfl rfl rfl rfl rfl goes189 ((levels_law _ _).x ?_));rintro _ m0 _ ⟨hm0,rfl,s0,rfl,hs0⟩;refine ⟨hm0,_,a9 _, ?_⟩;refine DO.run 2 rfl rfl uK rfl (cN rfl rfl rfl rfl rfl rfl goes188 ((concatS_law m0 _ s0 Ps.levels hs0 lO).x ?_));rintro _ m1 _ ⟨hm1,rfl,s1,rfl,hs1⟩;refine ⟨hm1,_,a9 _, ?_⟩;refine af 5 (cN rfl rfl rfl rfl rfl rfl goes104 ((contains_str _ _ s1 Ps.levels.flatten a.name hs1).x ?_));rintro _ _ _ ⟨rfl,rfl,rfl⟩;refine ⟨cy _,_,a9 _, ?_⟩;refine af 6 (cN rfl rfl rfl rfl rfl rfl goes33 ((bare_law _ _ ⟨53,a.name,a.num,s⟩ a (hr'.mono (cz hm0 hm1)) (decide (a.name ∈ Ps.levels.flatten)) true false).x ?_));rintro _ _ _ ⟨rfl,rfl,rfl⟩;refine ⟨cy _,_,a9 _, ?_⟩;refine lD ?_;refine DO.split (d:=165) rfl (fun h7 => ?_) (fun h7 => ?_);refine ae (k:=0) 8 0 ?_;refine af 9 ?_;refine cY tab rFn (hs:=[161,161]) (l:=[161,161]) ⟨rfl,rfl,trivial⟩ rfl rfl rfl rfl rfl lO (fun s2 m2 hm2 hs2 _ _ => ?_);refine ⟨hm2,_,a9 _, ?_⟩;refine af 10 (cN rfl rfl rfl rfl rfl rfl goes70 ((db m2 _ ⟨53,a.name,a.num,s⟩ a (hr'.mono (cz (cz hm0 hm1) hm2)) s2 [(161,g.expr),(161,g.expr)] none hs2 (pr2 hE hE) po0).x ?_));rintro _ _ _ ⟨rfl,rfl,rfl⟩;refine ⟨cy _,_,a9 _, ?_⟩;refine ka ?_;refine aU ?_
  rotate_left 1
  refine cQ tab uC uK [8,9,10,11,12] uK rfl ?_;refine aU ?_
  rotate_left 1
  ·refine uA ?_;refine ag ⟨cz (cz hm0 hm1) hm2,rfl, ?_⟩;rw [h7];rfl
  ·refine uA ?_;refine ag ⟨cz hm0 hm1,rfl, ?_⟩;rw [h7];rfl
 rw [if_neg hk53];refine uA ?_;refine az (fun b => ?_);refine an (fun h5 => ?_) (fun h5 => ?_)
 ·omega
 refine uA ?_;refine an (fun h5 => ?_) (fun h5 => ?_)
 ·omega
 refine uA ?_;refine an (fun h5 => ?_) (fun h5 => ?_)
 ·omega
 refine uA ?_;refine an (fun h5 => ?_) (fun h5 => ?_)
 ·omega
 refine uA ?_;refine an (fun h5 => ?_) (fun h5 => ?_)
 ·omega
 refine uA ?_;refine an (fun h5 => ?_) (fun h5 => ?_)
 ·omega
 refine uA ?_;refine an (fun h5 => ?_) (fun h5 => ?_)
 ·omega
 refine uA ?_;refine an (fun h5 => ?_) (fun h5 => ?_)
 ·omega
 refine uA ?_;refine an (fun h5 => ?_) (fun h5 => ?_)
 ·omega
 refine uA ?_;refine an (fun h5 => ?_) (fun h5 => ?_)
 ·omega
 refine uA ?_;exact ez
end Go.Sep
namespace Go.Sep
open Go.Proofs
attribute [local irreducible] TC TO OT TCallX TCall DO DOt thenQ blockQ retQ At
theorem block_teller (g : Sg) (a : Tree) (m : Mem) (L : List Item) (h : HTree) (hr : TreeRep m h a) (hS : IsPred 125 g.stmt a.kids) :
  TCall Tryz.prog 74 ⟨[treeV h]⟩ m L (Ret (.bool (blockS g a)) m L):=by
 have hr':=hr;obtain ⟨h1,h2,h3,h4⟩:=hr;unfold TCall;refine ak Tryz.func74 13 ?_;refine az (fun b => ?_);refine oR goes33 (bare_law _ _ h a hr' (decide (h.kind=20)) false false) ?_;unfold blockS;rw [← h1];refine uA ?_;refine aF (fun h7 => ?_) (fun h7 => ?_)
 ·refine uL ?_;refine ar goes34 (pall_law _ _ h.kids a.kids h4 125 g.stmt hS) ?_;exact fq
 ·refine uA ?_;exact fq
theorem nm_pred {g : Sg} {l : List Tree} (hE : IsPred 161 g.expr l) : IsPred 163 (nmS g) l:=by
 refine ⟨goes163,fun m L h a ha hr => ?_⟩;have hr':=hr;obtain ⟨h1,h2,h3,h4⟩:=hr;unfold TCall;refine ak Tryz.func163 10 ?_;refine az (fun b => ?_);unfold nmS;rw [← h1];refine aA (fun e1 => ?_) (fun e1 => ?_)
 ·refine uL ?_;refine ar hE.1 (hE.2 _ _ h a ha hr') ?_;exact fE
 ·exact fA
theorem call_pred {g : Sg} {l : List Tree} (hE : IsPred 161 g.expr l) : IsPred 164 (callS g) l:=by
 refine ⟨goes164,fun m L h a ha hr => ?_⟩;have hr':=hr;obtain ⟨h1,h2,h3,h4⟩:=hr;unfold TCall;refine ak Tryz.func164 10 ?_;refine az (fun b => ?_);unfold callS;rw [← h1];refine aA (fun e1 => ?_) (fun e1 => ?_)
 ·refine uL ?_;refine ar hE.1 (hE.2 _ _ h a ha hr') ?_;exact fE
 ·exact fA
theorem pl_pred {g : Sg} {l : List Tree} (hE : IsPred 161 g.expr l) : IsPred 162 (plS g) l:=by
 refine ⟨goes162,fun m L h a ha hr => ?_⟩;have hr':=hr;obtain ⟨h1,h2,h3,h4⟩:=hr;unfold TCall;refine ak Tryz.func162 9 ?_;refine az (fun b => ?_);refine oR isPl_tells.1 (isPl_tells.2 _ _ h a hr') ?_;unfold plS;refine uA ?_;refine aF (fun h7 => ?_) (fun h7 => ?_)
 ·refine uL ?_;refine ar hE.1 (hE.2 _ _ h a ha hr') ?_;exact fq
 ·refine uA ?_;exact fq
theorem other_pred {g : Sg} {l : List Tree} (hK : IsPred 74 g.block l) (hS : IsPred 125 g.stmt l) : IsPred 165 (otherS g) l:=by
 refine ⟨goes165,fun m L h a ha hr => ?_⟩;have hr':=hr;obtain ⟨h1,h2,h3,h4⟩:=hr;unfold TCall;refine ak Tryz.func165 14 ?_;refine az (fun b => ?_);refine oR hK.1 (hK.2 _ _ h a ha hr') ?_;unfold otherS;rw [← h1];refine uA ?_;refine aF (fun h7 => ?_) (fun h7 => ?_)
 ·refine uA ?_;exact fq
 ·refine uL ?_;refine aA (fun e1 => ?_) (fun e1 => ?_)
  ·refine uL ?_;refine ar hS.1 (hS.2 _ _ h a ha hr') ?_;refine iT ?_;rw [h7,bP e1];rfl
  ·refine uA ?_;refine iT ?_;rw [h7,bQ e1];rfl
theorem stmtS_no {g : Sg} {a : Tree} (h : headS a=false) : stmtS g a=false:=by unfold stmtS;rw [if_pos h]
theorem stmt_teller (g : Sg) (a : Tree) (m : Mem) (L : List Item) (h : HTree) (hr : TreeRep m h a) (hB : a.wide ≤ 140737488355328) (hE : IsPred 161 g.expr a.kids) (hK : IsPred 74 g.block a.kids) (hS : IsPred 125 g.stmt a.kids) :
  TCall Tryz.prog 125 ⟨[treeV h]⟩ m L (Ret (.bool (stmtS g a)) m L):=by
 have hT : IsPred 71 Tree.isType a.kids:=kidPred goes71 hB fun b m L h hr hB=>type_law b m L h hr hB;have hC:=call_pred hE;have hO:=other_pred hK hS;have hr':=hr;obtain ⟨h1,h2,h3,h4⟩:=hr;have hl:=h4.len;have hsm:=h4.small rfl;refine kN ?_;unfold TCall;refine cG Tryz.func125 rfl 121 rfl ?_;by_cases hk20 : a.kind=20
 ·obtain ⟨k,n,u,s⟩:=h;obtain rfl : k=20:=h1.trans hk20;simp only at h2 h3 h4 hl;subst h2;subst h3;refine uA ?_;refine az (fun b => ?_);refine cH rfl rfl (fun e1 => ?_) (fun e1 => ?_)
  ·refine uA ?_;refine jf ?_;rw [stmtS_no (show headS a=false by unfold headS;rw [hk20,bQ e1];rfl)]
  refine uL ?_;refine aY (fun e2 => ?_) (fun e2 => ?_)
  ·simp only at e2;refine j4 ?_;rw [stmtS_no (show headS a=false by unfold headS;rw [hk20,bQ e2];simp)]
  simp only at e2;refine uL ?_;have hh : headS a=true:=by unfold headS;rw [hk20,bP e1,bP e2];simp
  have hspec : stmtS g a=blockS g a:=by unfold stmtS;rw [if_neg mh];simp [hk20]
  refine lh ?_;refine ar goes74 (block_teller g a _ _ ⟨20,a.name,a.num,s⟩ hr' hS) ?_;refine jf ?_;rfl
 by_cases hk21 : a.kind=21
 ·obtain ⟨k,n,u,s⟩:=h;obtain rfl : k=21:=h1.trans hk21;simp only at h2 h3 h4 hl;subst h2;subst h3;refine uA ?_;refine az (fun b => ?_);refine aY (fun e2 => ?_) (fun e2 => ?_)
  ·simp only at e2;refine j4 ?_;rw [stmtS_no (show headS a=false by unfold headS;rw [hk21,bQ e2];simp)]
  simp only at e2;refine uL ?_;have hh : headS a=true:=by unfold headS;rw [hk21,bP e2];simp
  have hspec : stmtS g a=(isName a.name && (kidsR [Tree.isType] none a.kids || kidsR [Tree.isType,g.expr] none a.kids)):=by unfold stmtS;rw [if_neg mh];simp [hk21]
  refine lh ?_;refine ar goes123 (named_law _ _ ⟨21,a.name,a.num,s⟩ a hr' hB) ?_;refine aF (fun h7 => ?_) (fun h7 => ?_)
  ·refine uL ?_;refine aw (hs:=[71]) (l:=[71]) tab rFn ⟨rfl,trivial⟩ uH lO (fun s1 m1 hm1 hs1 _ _ => ?_);refine uA ?_;refine ar goes70 (db m1 _ ⟨21,a.name,a.num,s⟩ a (hr'.mono hm1) s1 [(71,Tree.isType)] none hs1 (pr1 hT) po0) ?_;refine aF (fun h8 => ?_) (fun h8 => ?_)
   ·skip;refine kP ?_;rw [h7,show kidsR [Tree.isType] none a.kids=true from h8];rfl
   ·refine uL ?_;refine aw (hs:=[71,161]) (l:=[71,161]) tab rFn ⟨rfl,rfl,trivial⟩ uH lO (fun s2 m2 hm2 hs2 _ _ => ?_);refine uA ?_;refine ar goes70 (db m2 _ ⟨21,a.name,a.num,s⟩ a (hr'.mono (cz hm1 hm2)) s2 [(71,Tree.isType),(161,g.expr)] none hs2 (pr2 hT hE) po0) ?_;refine ag ⟨(cz hm1 hm2),rfl, ?_⟩;rw [h7,show kidsR [Tree.isType] none a.kids=false from h8];rfl
  ·skip;exact dU
 by_cases hk22 : a.kind=22
 ·obtain ⟨k,n,u,s⟩:=h;obtain rfl : k=22:=h1.trans hk22;simp only at h2 h3 h4 hl;subst h2;subst h3;refine uA ?_;refine az (fun b => ?_);refine cH rfl rfl (fun e1 => ?_) (fun e1 => ?_)
  ·refine uA ?_;refine jf ?_;rw [stmtS_no (show headS a=false by unfold headS;rw [hk22,bQ e1];rfl)]
  refine uL ?_;have hh : headS a=true:=by unfold headS;rw [hk22,bP e1];simp
  have hspec : stmtS g a=asgS g (nmS g) a:=by unfold stmtS;rw [if_neg mh];simp [hk22]
  rw [hspec];unfold asgS;have hp1 : IsPred 161 g.expr (a.kids.drop a.num.toNat):=⟨hE.1,fun m L x b hb=>hE.2 m L x b (List.mem_of_mem_drop hb)⟩
  have hp2':=nm_pred hE;have hp2 : IsPred 163 (nmS g) (a.kids.take a.num.toNat):=⟨hp2'.1,fun m L x b hb=>hp2'.2 m L x b (cp hb)⟩
  refine uL ?_;refine aA (fun e3 => ?_) (fun e3 => ?_)
  ·simp only at e3;refine uL ?_;refine aA (fun e4 => ?_) (fun e4 => ?_)
   ·simp only at e4;have hnum : a.num=((a.num.toNat : Nat) : Int):=lM;rw [bP e3,bP (show a.num < (a.kids.length : Int) by omega),bO,bO];refine uL ?_;refine qs rfl (OT.cut tab rTree 0 a.num.toNat h4 rfl rfl rfl rfl rfl rfl rfl (.inl ⟨rfl,rfl⟩) (.inr (by rw [← hnum])) (ci _) lM (fun s1 hs1 => ?_));rw [cx] at hs1;refine uA ?_;refine ar goes34 (pall_law _ _ s1 _ hs1 163 (nmS g) hp2) ?_;exact eJ
   ·exact fV
  ·exact ig
 by_cases hk23 : a.kind=23
 ·obtain ⟨k,n,u,s⟩:=h;obtain rfl : k=23:=h1.trans hk23;simp only at h2 h3 h4 hl;subst h2;subst h3;refine uA ?_;refine az (fun b => ?_);refine cH rfl rfl (fun e1 => ?_) (fun e1 => ?_)
  ·refine uA ?_;refine jf ?_;rw [stmtS_no (show headS a=false by unfold headS;rw [hk23,bQ e1];rfl)]
  refine uL ?_;have hh : headS a=true:=by unfold headS;rw [hk23,bP e1];simp
  have hspec : stmtS g a=asgS g (plS g) a:=by unfold stmtS;rw [if_neg mh];simp [hk23]
  rw [hspec];unfold asgS;have hp1 : IsPred 161 g.expr (a.kids.drop a.num.toNat):=⟨hE.1,fun m L x b hb=>hE.2 m L x b (List.mem_of_mem_drop hb)⟩
  have hp2':=pl_pred hE;have hp2 : IsPred 162 (plS g) (a.kids.take a.num.toNat):=⟨hp2'.1,fun m L x b hb=>hp2'.2 m L x b (cp hb)⟩
  refine uL ?_;refine aA (fun e3 => ?_) (fun e3 => ?_)
  ·simp only at e3;refine uL ?_;refine aA (fun e4 => ?_) (fun e4 => ?_)
   ·simp only at e4;have hnum : a.num=((a.num.toNat : Nat) : Int):=lM;rw [bP e3,bP (show a.num < (a.kids.length : Int) by omega),bO,bO];refine uL ?_;refine qs rfl (OT.cut tab rTree 0 a.num.toNat h4 rfl rfl rfl rfl rfl rfl rfl (.inl ⟨rfl,rfl⟩) (.inr (by rw [← hnum])) (ci _) lM (fun s1 hs1 => ?_));rw [cx] at hs1;refine uA ?_;refine ar goes34 (pall_law _ _ s1 _ hs1 162 (plS g) hp2) ?_;exact eJ
   ·exact fV
  ·exact ig
 by_cases hk24 : a.kind=24
 ·obtain ⟨k,n,u,s⟩:=h;obtain rfl : k=24:=h1.trans hk24;simp only at h2 h3 h4 hl;subst h2;subst h3;refine uA ?_;refine az (fun b => ?_);refine cH rfl rfl (fun e1 => ?_) (fun e1 => ?_)
  ·refine uA ?_;refine jf ?_;rw [stmtS_no (show headS a=false by unfold headS;rw [hk24,bQ e1];rfl)]
  refine uL ?_;refine aY (fun e2 => ?_) (fun e2 => ?_)
  ·simp only at e2;refine j4 ?_;rw [stmtS_no (show headS a=false by unfold headS;rw [hk24,bQ e2];simp)]
  simp only at e2;refine uL ?_;have hh : headS a=true:=by unfold headS;rw [hk24,bP e1,bP e2];simp
  have hspec : stmtS g a=kidsR [callS g] none a.kids:=by unfold stmtS;rw [if_neg mh];simp [hk24]
  refine lh ?_;refine aw (hs:=[164]) (l:=[164]) tab rFn ⟨rfl,trivial⟩ uH lO (fun s1 m1 hm1 hs1 _ _ => ?_);refine uA ?_;refine ar goes70 (db m1 _ ⟨24,a.name,a.num,s⟩ a (hr'.mono hm1) s1 [(164,callS g)] none hs1 (pr1 hC) po0) ?_;refine ju ?_;rfl
 by_cases hk25 : a.kind=25
 ·obtain ⟨k,n,u,s⟩:=h;obtain rfl : k=25:=h1.trans hk25;simp only at h2 h3 h4 hl;subst h2;subst h3;refine uA ?_;refine az (fun b => ?_);refine cH rfl rfl (fun e1 => ?_) (fun e1 => ?_)
  ·refine uA ?_;refine jf ?_;rw [stmtS_no (show headS a=false by unfold headS;rw [hk25,bQ e1];rfl)]
  refine uL ?_;refine aY (fun e2 => ?_) (fun e2 => ?_)
  ·simp only at e2;refine j4 ?_;rw [stmtS_no (show headS a=false by unfold headS;rw [hk25,bQ e2];simp)]
  simp only at e2;refine uL ?_;have hh : headS a=true:=by unfold headS;rw [hk25,bP e1,bP e2];simp
  have hspec : stmtS g a=(kidsR [g.expr,g.block] none a.kids || kidsR [g.expr,g.block,otherS g] none a.kids):=by unfold stmtS;rw [if_neg mh];simp [hk25]
  refine lh ?_;refine aw (hs:=[161,74]) (l:=[161,74]) tab rFn ⟨rfl,rfl,trivial⟩ uH lO (fun s1 m1 hm1 hs1 _ _ => ?_);refine uA ?_;refine ar goes70 (db m1 _ ⟨25,a.name,a.num,s⟩ a (hr'.mono hm1) s1 [(161,g.expr),(74,g.block)] none hs1 (pr2 hE hK) po0) ?_;refine aF (fun h8 => ?_) (fun h8 => ?_)
  ·skip;refine kP ?_;rw [show kidsR [g.expr,g.block] none a.kids=true from h8];rfl
  ·refine uL ?_;refine aw (hs:=[161,74,165]) (l:=[161,74,165]) tab rFn ⟨rfl,rfl,rfl,trivial⟩ uH lO (fun s2 m2 hm2 hs2 _ _ => ?_);refine uA ?_;refine ar goes70 (db m2 _ ⟨25,a.name,a.num,s⟩ a (hr'.mono (cz hm1 hm2)) s2 [(161,g.expr),(74,g.block),(165,otherS g)] none hs2 (pr3 hE hK hO) po0) ?_;refine ag ⟨(cz hm1 hm2),rfl, ?_⟩;rw [show kidsR [g.expr,g.block] none a.kids=false from h8];rfl
 by_cases hk26 : a.kind=26
 ·obtain ⟨k,n,u,s⟩:=h;obtain rfl : k=26:=h1.trans hk26;simp only at h2 h3 h4 hl;subst h2;subst h3;refine uA ?_;refine az (fun b => ?_);refine cH rfl rfl (fun e1 => ?_) (fun e1 => ?_)
  ·refine uA ?_;refine jf ?_;rw [stmtS_no (show headS a=false by unfold headS;rw [hk26,bQ e1];rfl)]
  refine uL ?_;refine aY (fun e2 => ?_) (fun e2 => ?_)
  ·simp only at e2;refine j4 ?_;rw [stmtS_no (show headS a=false by unfold headS;rw [hk26,bQ e2];simp)]
  simp only at e2;refine uL ?_;have hh : headS a=true:=by unfold headS;rw [hk26,bP e1,bP e2];simp
  have hspec : stmtS g a=(kidsR [g.block] none a.kids || kidsR [g.expr,g.block] none a.kids):=by unfold stmtS;rw [if_neg mh];simp [hk26]
  refine lh ?_;refine aw (hs:=[74]) (l:=[74]) tab rFn ⟨rfl,trivial⟩ uH lO (fun s1 m1 hm1 hs1 _ _ => ?_);refine uA ?_;refine ar goes70 (db m1 _ ⟨26,a.name,a.num,s⟩ a (hr'.mono hm1) s1 [(74,g.block)] none hs1 (pr1 hK) po0) ?_;refine aF (fun h8 => ?_) (fun h8 => ?_)
  ·skip;refine kP ?_;rw [show kidsR [g.block] none a.kids=true from h8];rfl
  ·refine uL ?_;refine aw (hs:=[161,74]) (l:=[161,74]) tab rFn ⟨rfl,rfl,trivial⟩ uH lO (fun s2 m2 hm2 hs2 _ _ => ?_);refine uA ?_;refine ar goes70 (db m2 _ ⟨26,a.name,a.num,s⟩ a (hr'.mono (cz hm1 hm2)) s2 [(161,g.expr),(74,g.block)] none hs2 (pr2 hE hK) po0) ?_;refine ag ⟨(cz hm1 hm2),rfl, ?_⟩;rw [show kidsR [g.block] none a.kids=false from h8];rfl
 by_cases hk27 : a.kind=27
 ·obtain ⟨k,n,u,s⟩:=h;obtain rfl : k=27:=h1.trans hk27;simp only at h2 h3 h4 hl;subst h2;subst h3;refine uA ?_;refine az (fun b => ?_);refine cH rfl rfl (fun e1 => ?_) (fun e1 => ?_)
  ·refine uA ?_;refine jf ?_;rw [stmtS_no (show headS a=false by unfold headS;rw [hk27,bQ e1];rfl)]
  refine uL ?_;refine aY (fun e2 => ?_) (fun e2 => ?_)
  ·simp only at e2;refine j4 ?_;rw [stmtS_no (show headS a=false by unfold headS;rw [hk27,bQ e2];simp)]
  simp only at e2;refine uL ?_;have hh : headS a=true:=by unfold headS;rw [hk27,bP e1,bP e2];simp
  have hspec : stmtS g a=a.kids.all g.expr:=by unfold stmtS;rw [if_neg mh];simp [hk27]
  refine lh ?_;refine lb ?_;refine jf ?_;rfl
 by_cases hk28 : a.kind=28
 ·obtain ⟨k,n,u,s⟩:=h;obtain rfl : k=28:=h1.trans hk28;simp only at h2 h3 h4 hl;subst h2;subst h3;refine uA ?_;refine az (fun b => ?_);refine cH rfl rfl (fun e1 => ?_) (fun e1 => ?_)
  ·refine uA ?_;refine jf ?_;rw [stmtS_no (show headS a=false by unfold headS;rw [hk28,bQ e1];rfl)]
  refine uL ?_;refine aY (fun e2 => ?_) (fun e2 => ?_)
  ·simp only at e2;refine j4 ?_;rw [stmtS_no (show headS a=false by unfold headS;rw [hk28,bQ e2];simp)]
  simp only at e2;refine uL ?_;have hh : headS a=true:=by unfold headS;rw [hk28,bP e1,bP e2];simp
  have hspec : stmtS g a=kidsR [] none a.kids:=by unfold stmtS;rw [if_neg mh];simp [hk28]
  refine lh ?_;refine ar goes70 (db m _ ⟨28,a.name,a.num,s⟩ a hr' ⟨none,0,0⟩ [] none (cO _ _) pr0 po0) ?_;refine ag ⟨(cy _),rfl, ?_⟩;rfl
 by_cases hk29 : a.kind=29
 ·obtain ⟨k,n,u,s⟩:=h;obtain rfl : k=29:=h1.trans hk29;simp only at h2 h3 h4 hl;subst h2;subst h3;refine uA ?_;refine az (fun b => ?_);refine cH rfl rfl (fun e1 => ?_) (fun e1 => ?_)
  ·refine uA ?_;refine jf ?_;rw [stmtS_no (show headS a=false by unfold headS;rw [hk29,bQ e1];rfl)]
  refine uL ?_;refine aY (fun e2 => ?_) (fun e2 => ?_)
  ·simp only at e2;refine j4 ?_;rw [stmtS_no (show headS a=false by unfold headS;rw [hk29,bQ e2];simp)]
  simp only at e2;refine uL ?_;have hh : headS a=true:=by unfold headS;rw [hk29,bP e1,bP e2];simp
  have hspec : stmtS g a=kidsR [] none a.kids:=by unfold stmtS;rw [if_neg mh];simp [hk29]
  refine lh ?_;refine ar goes70 (db m _ ⟨29,a.name,a.num,s⟩ a hr' ⟨none,0,0⟩ [] none (cO _ _) pr0 po0) ?_;refine ag ⟨(cy _),rfl, ?_⟩;rfl
 have hspec : stmtS g a=false:=by
  unfold stmtS;split
  ·rfl
  ·simp [hk20,hk21,hk22,hk23,hk24,hk25,hk26,hk27,hk28,hk29]
 rw [hspec];refine uA ?_;refine oB (fun b => ?_)
 repeat' (first|(first|refine q1 ?_|refine q2 ?_|refine q3 ?_|refine q4 tab rfl rfl ?_|refine q5 ?_|refine q6 ?_|refine q8 ?_|refine q13 ?_|refine q15 ?_|refine q16 rfl ?_|refine q17 rfl ?_)|(refine qs rfl (ql tab 0 rfl rfl rfl rfl rfl rfl ?_))|(first|refine TO.splitP rfl rfl (fun hb => ?_) (fun hb => ?_)|refine cH rfl rfl (fun hb => ?_) (fun hb => ?_)))
 all_goals try omega
 all_goals first | exact cE rfl uS ⟨cy _,rfl,rfl⟩ | skip
 all_goals
  repeat' (first|(first|refine q1 ?_|refine q2 ?_|refine q3 ?_|refine q4 tab rfl rfl ?_|refine q5 ?_|refine q6 ?_|refine q7 ?_|refine q8 ?_|refine q13 ?_|refine q15 ?_)|refine uM ?_|(refine TC.condP rfl (fun h5=>lM) (fun h5 => ?_))|(refine TC.condN rfl (fun h5 => ?_) (fun h5 => ?_)))
 all_goals first | exact cE rfl uS ⟨cy _,rfl,rfl⟩ | omega
end Go.Sep
namespace Go.Sep
open Go.Proofs
attribute [local irreducible] TC TO OT TCallX TCall DO DOt thenQ blockQ retQ At
def ParAt {α : Type} (P : Program) (E : PE) (V : RV α) (f : FuncId) (args : List Value) (h : Int) (X : Ps.Pp α) (m : Mem) (L : List Item) (k : Nat) : Prop :=
 X E.f k ≠ .out→TCallX P f ⟨args⟩ m (E.I k h :: L) (pR E V (X E.f k) m L h) (pX E (X E.f k) m L)
theorem ParAt.enter {α : Type} {P : Program} {E : PE} {V : RV α} {f : FuncId} {args : List Value} {h : Int} {X : Ps.Pp α} {m : Mem} {L : List Item} {k : Nat} {fn : Func} {c : Code} (hf : P.funcs[f]? = some fn) (hb : fn.body=some c) (N : Nat) (hN : Nat.ble N fn.ntmps=true)
  (hK : ∀ (T : Ps.Res α),T=X E.f k→T ≠ .out→TC P N c (argEnv args 0) [] m (E.I k h :: L) (retQ P fn (pR E V T m L h) (pX E T m L))) : ParAt P E V f args h X m L k :=
 fun h3=>cG hf hb N hN (hK _ rfl h3)
theorem Par.at {α : Type} {P : Program} {mb : Mem} {E : PE} {V : RV α} {f : FuncId} {args : List Value} {h : Int} {X : Ps.Pp α} (hp : Par P mb E V f args h X) {m : Mem} (L : List Item) {k : Nat} (hm : mb ≤ m) (hE : E.Ok m) (hk : k ≤ E.toks.length) : ParAt P E V f args h X m L k:=hp m L k hm hE hk
section
variable {P : Program} {N : Nat} {ρ : Env} {m : Mem} {L : List Item} {Q : EPost} {o : Oper} {K : Env→Mem→List Item→Prop} {E : PE} {α β : Type}
theorem OT.parGA {V : RV α} {FF : Operand} {args : List Operand} {ats : Array TypeId} {f : FuncId} {first cap vs all : List Value} {d : Nat} {h : Int} {p : Ps.Pp α} {g : α → Ps.Pp β} {T : Ps.Res β} {k : Nat} {m0 : Mem} {L0 : List Item}
  (ho : o.op = .call ⟨.value FF,⟨args⟩,ats⟩) (hd : o.dst=some d) (hN : Nat.blt d N=true)
  (hF : ev ρ FF=some (.func (.func f) ⟨first⟩ ⟨cap⟩)) (ha : evs ρ args=some vs) (hall : fl (first++(vs++cap))=some all) (hg : Goes P f)
  (hp : ParAt P E V f all h p m L k) (hT : T=Ps.bind p g E.f k) (hn : T ≠ .out) (hb : Bad Q E T m0 L0) (hm : m0 ≤ m) (hL : L0.Sublist L)
  (hK : ∀ v m' a k' xs,T=g a E.f k' → m ≤ m' → k' ≤ E.toks.length→V m' v xs a→K ((d,v) :: ρ) m' (E.I k' h :: (xs++L))) : OT P N o ρ [] m (E.I k h :: L) Q K:=by
 refine cN ho hd hN hF ha hall hg (cA (hp (bind_out' hT hn)) ?_ ?_)
 ·exact gu
 ·exact ge
variable {FF : Operand} {args : List Operand} {ats : Array TypeId} {f : FuncId} {first cap vs all : List Value} {d : Nat} {h : Int} {T : Ps.Res β} {k : Nat} {m0 : Mem} {L0 : List Item}
theorem OT.parTA {p : Ps.Pp Tree} {g : Tree→Ps.Pp β} (hp : ParAt P E vTree f all h p m L k) (hT : T=Ps.bind p g E.f k) (hn : T ≠ .out) (hE : E.Ok m) (hb : Bad Q E T m0 L0) (hm : m0 ≤ m) (hL : L0.Sublist L)
  (ho : o.op = .call ⟨.value FF,⟨args⟩,ats⟩) (hd : o.dst=some d) (hN : Nat.blt d N=true)
  (hF : ev ρ FF=some (.func (.func f) ⟨first⟩ ⟨cap⟩)) (ha : evs ρ args=some vs) (hall : fl (first++(vs++cap))=some all) (hg : Goes P f)
  (hK : ∀ x m' a k',T=g a E.f k' → m0 ≤ m' → E.Ok m' → m ≤ m' → k' ≤ E.toks.length→TreeRep m' x a→K ((d,treeV x) :: ρ) m' (E.I k' h :: L)) : OT P N o ρ [] m (E.I k h :: L) Q K :=
 OT.parGA ho hd hN hF ha hall hg hp hT hn hb hm hL fun v m' a k' xs h1 h2 h3 h4=>by
  exact gR
theorem OT.parSA {p : Ps.Pp (List Tree)} {g : List Tree→Ps.Pp β} (hp : ParAt P E vSl f all h p m L k) (hT : T=Ps.bind p g E.f k) (hn : T ≠ .out) (hE : E.Ok m) (hb : Bad Q E T m0 L0) (hm : m0 ≤ m) (hL : L0.Sublist L)
  (ho : o.op = .call ⟨.value FF,⟨args⟩,ats⟩) (hd : o.dst=some d) (hN : Nat.blt d N=true)
  (hF : ev ρ FF=some (.func (.func f) ⟨first⟩ ⟨cap⟩)) (ha : evs ρ args=some vs) (hall : fl (first++(vs++cap))=some all) (hg : Goes P f)
  (hK : ∀ (x : Sl) m' a k',T=g a E.f k' → m0 ≤ m' → E.Ok m' → m ≤ m' → k' ≤ E.toks.length→SlRep rTree m' x a→a.length ≤ 20001→K ((d,x.v) :: ρ) m' (E.I k' h :: L)) : OT P N o ρ [] m (E.I k h :: L) Q K :=
 OT.parGA ho hd hN hF ha hall hg hp hT hn hb hm hL fun v m' a k' xs h1 h2 h3 h4=>by
  exact gM
end
section
variable {mb : Mem} {E : PE} {h : Int}
theorem inside_at {f : FuncId} {first cap all : List Value} {X : Ps.Pp Tree} {m : Mem} {L : List Item} {k : Nat} (hall : fl (first++([]++cap))=some all) (hg : Goes Tryz.prog f) (hE : E.Ok m)
  (hX : ∀ b,ParAt Tryz.prog E vTree f all 0 X m (.cells b 0 [.int .i64 0,strV [], .int .i64 0, .slice none 0 0] :: L) k) :
  ParAt Tryz.prog E vTree 234 [E.v, .func (.func f) ⟨first⟩ ⟨cap⟩] h X m L k:=by
 refine ParAt.enter Tryz.func234 rfl 21 rfl fun T hT hn => ?_;have hm : m ≤ m:=cy _;rw [← Ps.bind_ret X] at hT;refine uA ?_;refine oA tab (fun b4 => ?_);refine cI (ba _ _ _) ?_;refine jd ?_;refine lG ?_;refine qs rfl (OT.parTA (L0:=L) (hX b4) hT hn hE lR hm uS rfl rfl rfl rfl rfl hall hg (fun x m2 a k2 hT hm hE hle hk hrx => ?_));refine uA ?_;refine oA tab (fun b6 => ?_);refine cI (ba _ _ _) ?_;refine iZ ?_;refine lG ?_;refine jy ?_;refine av 2 ?_;refine ax (L':=E.I k2 h :: L) 2 ⟨_,k2,[],hT,hm,hk,⟨x,rfl,rfl,hrx⟩,rfl⟩
theorem insideS_at {f : FuncId} {first cap all : List Value} {X : Ps.Pp (List Tree)} {m : Mem} {L : List Item} {k : Nat} (hall : fl (first++([]++cap))=some all) (hg : Goes Tryz.prog f) (hE : E.Ok m)
  (hX : ParAt Tryz.prog E vSl f all 0 X m L k) :
  ParAt Tryz.prog E vSl 241 [E.v, .func (.func f) ⟨first⟩ ⟨cap⟩] h X m L k:=by
 refine ParAt.enter Tryz.func241 rfl 21 rfl fun T hT hn => ?_;have hm : m ≤ m:=cy _;rw [← Ps.bind_ret X] at hT;refine jd ?_;refine lG ?_;refine qs rfl (OT.parSA (L0:=L) hX hT hn hE lR hm uS rfl rfl rfl rfl rfl hall hg (fun x m2 a k2 hT hm hE hle hk hrx hlx => ?_));refine uA ?_;refine lG ?_;refine ag (L':=E.I k2 h :: L) ⟨_,k2,[],hT,hm,hk,⟨x,rfl,rfl,hrx,hlx⟩,rfl⟩
theorem exprs_par {Y : Ps.Pp Tree} (hY : Par Tryz.prog mb E vTree 199 [E.v] h Y) (e : Str) :
  Par Tryz.prog mb E vSl 238 [E.v,strV e] h (Ps.exprsP E.N e Y):=by
 refine dn Tryz.func238 rfl 17 rfl fun m L k T hm0 hE hk hT hn => ?_;replace hY:=hY.up hm0;have hm : m ≤ m:=cy _;unfold Ps.exprsP Ps.inP at hT;refine uA ?_;refine qs rfl (du hT hE hk rfl rfl rfl rfl rfl rfl (fun hT hk => ?_) (fun hT => ?_))
 ·refine uA ?_;refine cE rfl (L':=E.I (k + 1) h :: L) uS ⟨[],k + 1,[],hT,hm,hk,⟨⟨none,0,0⟩,rfl,rfl,cO _ _,by simp⟩,rfl⟩
 ·refine uA ?_;refine qs rfl (OT.parL (L0:=L) (list1_par (first:=[E.v]) (cap:=[]) rfl goes199 hY) hm hT hn hE hk lR hm uS rfl rfl rfl rfl rfl rfl goes148 (fun x m2 a k2 hT hm hE hlex hk hrx hox hlx => ?_));exact fw
theorem index_par {Y : Ps.Pp Tree} (hY : Par Tryz.prog mb E vTree 199 [E.v] 0 Y) (x : HTree) (n : Tree) (hr : TreeRep mb x n) :
  Par Tryz.prog mb E vTree 236 [E.v,treeV x] 0 (Ps.indexP Y n):=by
 refine dn Tryz.func236 rfl 42 rfl fun m L k T hm0 hE hk hT hn => ?_;replace hY:=hY.up hm0;replace hr:=hr.mono hm0;have hm : m ≤ m:=cy _;unfold Ps.indexP at hT;refine uA ?_;refine oB (fun b3 => ?_);refine cI (ba _ _ _) ?_;refine oA tab (fun b4 => ?_);refine cI (ba _ _ _) ?_;refine kE ?_;refine aw (hs:=[x]) (l:=[n]) tab rTree ⟨rTree_iff.2 hr,trivial⟩ uH lO (fun s m1 hle1 hs ho hc => ?_);replace hm:=hle1;replace hE:=hE.mono hle1;refine kF ?_;refine oA tab (fun b6 => ?_);refine cI (ba _ _ _) ?_;refine jU ?_;refine lL ?_;refine TC.cut (ι:=Int × Sl × Mem × List Tree × Nat) [0,4,6] rfl (fun i=>[(5,i.2.1.v)]) (fun i=>i.2.2.1) (fun i=>E.I i.2.2.2.2 0 :: .cells b6 0 [.int .i64 50,strV [], .int .i64 i.1, .slice none 0 0] :: tok i.2.1 4 :: .cells b4 0 [.int .i64 0,strV [], .int .i64 0, .slice none 0 0] :: L) (fun i=>m ≤ i.2.2.1∧E.Ok i.2.2.1∧i.2.2.2.2 ≤ E.toks.length∧SlRep rTree i.2.2.1 i.2.1 i.2.2.2.1∧Own i.2.1∧i.2.2.2.1.length ≤ 2∧0 ≤ i.1∧i.1 ≤ 1∧T=Ps.cutP Y i.1 i.2.2.2.1 E.f i.2.2.2.2) ?_ ?_
 ·refine uA ?_;refine qs rfl (OT.peekP hT hE hk rfl rfl rfl rfl rfl rfl (fun hT => ?_) (fun hT => ?_))
  ·refine uA ?_;exact ⟨(0,s,m1,[n],k),uH,uH,rfl,rfl,uS,hm,hE,hk,hs,ho,by simp,by simp only;omega,by simp only;omega,hT⟩
  ·refine uA ?_;refine qs rfl (dt (L0:=L) (hY) hm hT hn hE hk lR hm uS rfl rfl rfl rfl rfl rfl goes199 (fun y m2 e k2 hT hm hE hley hk hry => ?_));refine aw (hs:=[y]) (l:=[e]) tab rTree ⟨rTree_iff.2 hry,trivial⟩ uH lO (fun s2 m3 hle3 hs2 ho2 hc2 => ?_);refine qs rfl (cP tab rTree 2 (hs.mono (cz hley hle3)) ho hs2 rfl rfl rfl rfl rfl rfl rfl mJ (fun s3 m4 hle4 hs3 ho3 => ?_));replace hm:=cz hm (cz hle3 hle4);replace hE:=hE.mono (cz hle3 hle4);refine uA ?_;refine qs rfl (du hT hE hk rfl rfl rfl rfl rfl rfl (fun hT hk => ?_) (fun hT => ?_))
   ·refine uA ?_;refine av 3 ?_;refine ax (L':=E.I (k2 + 1) 0 :: L) 3 ⟨_,k2 + 1,[],hT,hm,hk,⟨⟨49,[],0,s3⟩,rfl,rfl,⟨rfl,rfl,rfl,hs3⟩⟩,rfl⟩
   ·refine uA ?_;refine aj (k:=2) 1 ?_;exact ⟨(1,s3,m4,[n]++[e],k2),uH,uH,rfl,rfl,uS,hm,hE,hk,hs3,ho3,by simp,by simp only;omega,by simp only;omega,hT⟩
 ·rintro ⟨num,s,m1,ks,k⟩ ⟨hm,hE,hk,hs,ho,hl,hn0,hn1,hT⟩;simp only at hm hE hk hs ho hl hn0 hn1 hT;unfold Ps.cutP at hT;refine uA ?_;refine qs rfl (OT.needP (L0:=L) hT hE hk lR hm uS rfl rfl rfl rfl rfl rfl (fun hT hk => ?_));refine uA ?_;refine qs rfl (du hT hE hk rfl rfl rfl rfl rfl rfl (fun hT hk => ?_) (fun hT => ?_))
  ·refine uA ?_;refine kJ ?_;refine ax (L':=E.I (k + 1 + 1) 0 :: L) 3 ⟨_,k + 1 + 1,[],hT,hm,hk,⟨⟨50,[],num,s⟩,rfl,rfl,⟨rfl,rfl,rfl,hs⟩⟩,rfl⟩
  ·refine uA ?_;refine qs rfl (dt (L0:=L) (hY) hm hT hn hE hk lR hm uS rfl rfl rfl rfl rfl rfl goes199 (fun y m2 e k2 hT hm hE hley hk hry => ?_));refine aw (hs:=[y]) (l:=[e]) tab rTree ⟨rTree_iff.2 hry,trivial⟩ uH lO (fun s2 m3 hle3 hs2 ho2 hc2 => ?_);refine qs rfl (cP tab rTree 2 (hs.mono (cz hley hle3)) ho hs2 rfl rfl rfl rfl rfl rfl rfl mJ (fun s3 m4 hle4 hs3 ho3 => ?_));replace hm:=cz hm (cz hle3 hle4);replace hE:=hE.mono (cz hle3 hle4);refine kE ?_;refine aa (r':=num + 2) uH lM ?_;refine aj (k:=2) 1 ?_;refine qs rfl (OT.needP (L0:=L) hT hE hk lR hm uS rfl rfl rfl rfl rfl rfl (fun hT hk => ?_));refine uA ?_;refine kJ ?_;refine ax (L':=E.I (k2 + 1) 0 :: L) 3 ⟨_,k2 + 1,[],hT,hm,hk,⟨⟨50,[],num + 2,s3⟩,rfl,rfl,⟨rfl,rfl,rfl,hs3⟩⟩,rfl⟩
end
end Go.Sep
namespace Go.Sep
open Go.Proofs
attribute [local irreducible] TC TO OT TCallX TCall DO DOt thenQ blockQ retQ At
section
variable {mb : Mem} {E : PE} {h : Int}
theorem post1_at {Y : Ps.Pp Tree} (hY : Par Tryz.prog mb E vTree 199 [E.v] 0 Y) {m : Mem} {L : List Item} {k : Nat} {it : Item} {b1 b3 : Nat} {x : HTree} {n : Tree} (hm0 : mb ≤ m) (hE : E.Ok m) (hk : k ≤ E.toks.length) (hA : At m b1 0 [E.v]) (hr : TreeRep m x n) :
  ParAt Tryz.prog E vTree 235 [.pointer (some ⟨b1,0,none⟩), .pointer (some ⟨b3,0,none⟩)] 0 (Ps.indexP Y n) m (it :: .cells b3 0 (treeC x) :: L) k:=by
 refine ParAt.enter Tryz.func235 rfl 6 rfl fun T hT hn => ?_;have hm : m ≤ m:=cy _;rw [← Ps.bind_ret (Ps.indexP Y n)] at hT;refine uA ?_;refine oA tab (fun b2 => ?_);refine cI (ba _ _ _) ?_;refine uA ?_;refine oL tab hA ?_;refine uM ?_;refine qs rfl (dt (L0:=it :: .cells b3 0 (treeC x) :: L) (index_par (hY.up hm0) x n hr) hm hT hn hE hk lR hm uS rfl rfl rfl rfl rfl rfl goes236 (fun x m2 a k2 hT hm hE hle hk hrx => ?_));refine iZ ?_;refine ax (L':=E.I k2 0 :: it :: .cells b3 0 _ :: L) 1 ⟨_,k2,[],hT,hm,hk,⟨x,rfl,rfl,hrx⟩,rfl⟩
theorem post2_at {Y : Ps.Pp Tree} (hY : Par Tryz.prog mb E vTree 199 [E.v] 0 Y) {m : Mem} {L : List Item} {k : Nat} {it : Item} {b1 b3 : Nat} {x : HTree} {n : Tree} (hm0 : mb ≤ m) (hE : E.Ok m) (hk : k ≤ E.toks.length) (hA : At m b1 0 [E.v]) (hr : TreeRep m x n) :
  ParAt Tryz.prog E vTree 237 [.pointer (some ⟨b3,0,none⟩), .pointer (some ⟨b1,0,none⟩)] 0 (Ps.bind (Ps.exprsP E.N [41] Y) fun l=>Ps.ret (.mk 51 [] 0 (n :: l))) m (it :: .cells b3 0 (treeC x) :: L) k:=by
 refine ParAt.enter Tryz.func237 rfl 9 rfl fun T hT hn => ?_;have hm : m ≤ m:=cy _;replace hY:=hY.up hm0;refine uA ?_;refine oA tab (fun b2 => ?_);refine cI (ba _ _ _) ?_;refine uA ?_;refine aK [6] cZ 7 [.cells b3 0 (treeC x), .cells b2 0 [.int .i64 0,strV [], .int .i64 0, .slice none 0 0]] (E.I k 0 :: it :: L) ((be pfr3 (bg _ pfr1))) ?_;refine ae (k:=0) 0 0 ?_;refine ai (k:=0) 2 hA ?_;refine DO.fork 1 [3] uK ⟨⟨_,rfl,rfl,rfl, ?_⟩,⟨_,rfl,rfl,rfl, ?_⟩,trivial⟩
 ·skip;refine aO (hs:=[x]) (l:=[n]) tab rTree ⟨rTree_iff.2 hr,trivial⟩ uH lO (fun s mB hleB hs ho hc => ?_);replace hm:=cz hm hleB;replace hE:=hE.mono hleB;refine ⟨hleB,_,a9 _, ?_⟩;refine af 3 ?_;refine cV (L':=E.I k 0 :: .cells b2 0 [.int .i64 0,strV [], .int .i64 0, .slice none 0 0] :: it :: .cells b3 0 (treeC x) :: L) ((be pfr2 (bg _ (be pfr1 (bg _ pfr1))))) (OT.parS (L0:=it :: .cells b3 0 (treeC x) :: L) (exprs_par hY [41]) hm hT hn hE hk lR hm uS rfl rfl rfl rfl rfl rfl goes238 (fun y mA l k2 hT hm hE hleA hk hry hly => ?_));refine ⟨hleA,E.I k2 0 :: it :: L,((be pfr3 (bg _ pfr1))), ?_⟩;have hsB:=hs.mono hleA;have hrB:=hry;exact eh
 ·skip;refine cV (L':=E.I k 0 :: .cells b2 0 [.int .i64 0,strV [], .int .i64 0, .slice none 0 0] :: it :: .cells b3 0 (treeC x) :: L) ((be pfr2 (bg _ (be pfr1 (bg _ pfr1))))) (OT.parS (L0:=it :: .cells b3 0 (treeC x) :: L) (exprs_par hY [41]) hm hT hn hE hk lR hm uS rfl rfl rfl rfl rfl rfl goes238 (fun y mA l k2 hT hm hE hleA hk hry hly => ?_));refine ⟨hleA,E.I k2 0 :: it :: L,((be pfr3 (bg _ pfr1))), ?_⟩;refine af 1 ?_;refine aO (hs:=[x]) (l:=[n]) tab rTree ⟨rTree_iff.2 (hr.mono hleA),trivial⟩ uH lO (fun s mB hleB hs ho hc => ?_);replace hm:=cz hm hleB;replace hE:=hE.mono hleB;refine ⟨hleB,_,a9 _, ?_⟩;have hsB:=hs;have hrB:=hry.mono hleB;exact eh
end
end Go.Sep
namespace Go.Ps
theorem tkn_t {α : Type} {c : Int} {A : Tk→Pp α} {B : Pp α} {f : F} {k : Nat} {t : Tk} (h : f k=some t) (hk : isK c f k=true) : tkn c A B f k=A t f (k + 1):=by
 unfold isK at hk;rw [h] at hk;simp only at hk;unfold tkn;rw [h];simp only [hk,cv]
theorem tkn_f {α : Type} {c : Int} {A : Tk→Pp α} {B : Pp α} {f : F} {k : Nat} (hk : isK c f k=false) : tkn c A B f k=B f k:=by
 unfold isK at hk;unfold tkn;cases h : f k with
 | none=>rfl
 | some t=>rw [h] at hk;simp only at hk;simp only [hk,cu]
end Go.Ps
namespace Go.Sep
open Go.Proofs
attribute [local irreducible] TC TO OT TCallX TCall DO DOt thenQ blockQ retQ At
section
variable {mb : Mem} {E : PE} {h : Int}
theorem primary1_par {Y : Ps.Pp Tree} (hY : Par Tryz.prog mb E vTree 199 [E.v] h Y) (b1 : Nat) (hA : At mb b1 0 [E.v]) :
  Par Tryz.prog mb E vSl 242 [.pointer (some ⟨b1,0,none⟩)] h (Ps.exprsP E.N [125] Y):=by
 refine dn Tryz.func242 rfl 4 rfl fun m L k T hm0 hE hk hT hn => ?_;replace hY:=hY.up hm0;replace hA:=hA.mono hm0;have hm : m ≤ m:=cy _;rw [← Ps.bind_ret (Ps.exprsP E.N [125] Y)] at hT;refine ji ?_;refine qs rfl (OT.parS (L0:=L) (exprs_par hY [125]) hm hT hn hE hk lR hm uS rfl rfl rfl rfl rfl rfl goes238 (fun x m2 a k2 hT hm hE hlex hk hrx hlx => ?_));refine uA ?_;refine ag (L':=E.I k2 h :: L) ⟨a,k2,[],hT,hm,hk,⟨x,rfl,rfl,hrx,hlx⟩,rfl⟩
theorem primary_par {X Y Z : Ps.Pp Tree} (hd : Bool) (hX : Par Tryz.prog mb E vTree 145 [E.v] (bif hd then 1 else 0) X) (hY : Par Tryz.prog mb E vTree 199 [E.v] 0 Y) (hZ : Par Tryz.prog mb E vTree 114 [E.v] (bif hd then 1 else 0) Z) :
  Par Tryz.prog mb E vTree 233 [E.v] (bif hd then 1 else 0) (Ps.primP E.N X Z Y hd):=by
 refine dn Tryz.func233 rfl 119 rfl fun m L k T hm0 hE hk hT hn => ?_;have hm : m ≤ m:=cy _;have hrows:=hE.rows;unfold Ps.primP at hT;generalize hh : (bif hd then (1 : Int) else 0)=h at hX hZ ⊢;refine uA ?_;refine oB (fun b1 => ?_);refine cS fun m1 hle1 hA => ?_;replace hm : m ≤ m1:=hle1;replace hE:=hE.mono hle1;replace hX:=hX.up (cz hm0 hle1);replace hY:=hY.up (cz hm0 hle1);replace hZ:=hZ.up (cz hm0 hle1);have hmm : m1 ≤ m1:=cy _;have hlen:=hE.rep.len;have hfew:=hE.few;refine uA ?_;refine oA tab (fun b2 => ?_);refine cI (ba _ _ _) ?_;refine ji ?_;refine ar goes147 (is_law 2 hE hk) ?_;cases hb : Ps.isK 2 E.f k with
 | true =>
  have hlt:=PE.isK_lt hb;have hx : E.toks[k]? = some E.toks[k]:=bm hlt;rw [Ps.tkn_t (PE.f_some hlt) hb] at hT;refine ji ?_;refine uM ?_;refine iV ?_;refine jg ?_;rintro b i hd hr hA2;obtain rfl:=(show hd=E.toks[k] from hr)
  refine j7 ?_
  rotate_left 1
  refine uA ?_;refine ax (L':=E.I (k + 1) h :: L) 1 ⟨_,k + 1,[],hT,hm,hlt,⟨⟨40,[],(E.toks[k]).num,⟨none,0,0⟩⟩,rfl,rfl,⟨rfl,rfl,rfl,cO _ _⟩⟩,rfl⟩
 | false =>
 rw [Ps.tkn_f hb] at hT;refine ji ?_;refine ar goes147 (is_law 3 hE hk) ?_;cases hb : Ps.isK 3 E.f k with
 | true =>
  have hlt:=PE.isK_lt hb;have hx : E.toks[k]? = some E.toks[k]:=bm hlt;rw [Ps.tkn_t (PE.f_some hlt) hb] at hT;refine ji ?_;refine uM ?_;refine iV ?_;refine jg ?_;rintro b i hd hr hA2;obtain rfl:=(show hd=E.toks[k] from hr)
  refine j7 ?_
  rotate_left 1
  refine uA ?_;refine ax (L':=E.I (k + 1) h :: L) 1 ⟨_,k + 1,[],hT,hm,hlt,⟨⟨41,(E.toks[k]).text,0,⟨none,0,0⟩⟩,rfl,rfl,⟨rfl,rfl,rfl,cO _ _⟩⟩,rfl⟩
 | false =>
 rw [Ps.tkn_f hb] at hT;refine ji ?_;refine qs rfl (du hT hE hk rfl rfl rfl rfl rfl rfl (fun hT hk => ?_) (fun hT => ?_))
 ·refine uA ?_;refine iS ?_;refine ax (L':=E.I (k + 1) h :: L) 1 ⟨_,k + 1,[],hT,hm,hk,⟨⟨42,[],1,⟨none,0,0⟩⟩,rfl,rfl,⟨rfl,rfl,rfl,cO _ _⟩⟩,rfl⟩
 refine ji ?_;refine qs rfl (du hT hE hk rfl rfl rfl rfl rfl rfl (fun hT hk => ?_) (fun hT => ?_))
 ·refine uA ?_;refine iS ?_;refine ax (L':=E.I (k + 1) h :: L) 1 ⟨_,k + 1,[],hT,hm,hk,⟨⟨42,[],0,⟨none,0,0⟩⟩,rfl,rfl,⟨rfl,rfl,rfl,cO _ _⟩⟩,rfl⟩
 refine ji ?_;refine qs rfl (du hT hE hk rfl rfl rfl rfl rfl rfl (fun hT hk => ?_) (fun hT => ?_))
 ·refine uA ?_;refine iS ?_;refine ax (L':=E.I (k + 1) h :: L) 1 ⟨_,k + 1,[],hT,hm,hk,⟨⟨43,[],0,⟨none,0,0⟩⟩,rfl,rfl,⟨rfl,rfl,rfl,cO _ _⟩⟩,rfl⟩
 refine ji ?_;refine qs rfl (du hT hE hk rfl rfl rfl rfl rfl rfl (fun hT hk => ?_) (fun hT => ?_))
 ·refine uA ?_;refine oL tab hA ?_;refine jq ?_;refine qs rfl (OT.parTA (L0:=L) (inside_at (first:=[E.v]) (cap:=[]) rfl goes199 hE (fun b=>hY.at _ hmm hE hk)) hT hn hE lT hm uS rfl rfl rfl rfl rfl rfl goes234 (fun x m2 a k2 hT hm hE hle hk hrx => ?_));replace hA:=hA.mono hle;refine uA ?_;refine oA tab (fun b3 => ?_);refine cI (ba _ _ _) ?_;refine iZ ?_;refine jq ?_;refine qs rfl (OT.needP (L0:=L) hT hE hk lT hm uS rfl rfl rfl rfl rfl rfl (fun hT hk => ?_));refine jd ?_;refine av 2 ?_;refine ax (L':=E.I (k2 + 1) h :: L) 2 ⟨_,k2 + 1,[],hT,hm,hk,⟨x,rfl,rfl,hrx⟩,rfl⟩
 refine ji ?_;refine qs rfl (du hT hE hk rfl rfl rfl rfl rfl rfl (fun hT hk => ?_) (fun hT => ?_))
 ·refine uA ?_;refine jq ?_;refine qs rfl (OT.needP (L0:=L) hT hE hk lT hm uS rfl rfl rfl rfl rfl rfl (fun hT hk => ?_));refine ji ?_;refine qs rfl (dt (L0:=L) hX hmm hT hn hE hk lT hm uS rfl rfl rfl rfl rfl rfl goes145 (fun x m2 a k2 hT hm hE hle hk hrx => ?_));refine aw (hs:=[x]) (l:=[a]) tab rTree ⟨rTree_iff.2 hrx,trivial⟩ uH lO (fun s m3 hle3 hs ho hc => ?_);replace hA:=hA.mono (cz hle hle3);replace hm:=cz hm hle3;replace hE:=hE.mono hle3;replace hY:=hY.up (cz hle hle3);refine kF ?_;refine oA tab (fun b4 => ?_);refine cI (ba _ _ _) ?_;refine iZ ?_;refine jq ?_;refine qs rfl (OT.needP (L0:=L) hT hE hk lT hm uS rfl rfl rfl rfl rfl rfl (fun hT hk => ?_));refine uA ?_;refine aK [7] cZ 8 [.cells b4 0 [.int .i64 46,strV [], .int .i64 0,s.v]] (E.I (k2 + 1) h :: tok s 4 :: .cells b2 0 [.int .i64 0,strV [], .int .i64 0, .slice none 0 0] :: L) (ba _ _ _) ?_;refine j3 ?_;refine ae 1 0 ?_;refine ai (k:=0) 2 hA ?_;refine cQ tab uC uK [3] uK rfl ?_;refine af 4 ?_;refine cV (ba _ _ _) (OT.parSA (L0:=L) (insideS_at (first:=[]) (cap:=[.pointer (some ⟨b1,0,none⟩)]) rfl goes242 hE ((primary1_par hY b1 hA).at _ (cy _) hE hk)) hT hn hE lT hm uS rfl rfl rfl rfl rfl rfl goes241 (fun y mA l k3 hT hm hE hleA hk hry hly => ?_));refine ⟨hleA,E.I k3 h :: tok s 4 :: .cells b2 0 [.int .i64 0,strV [], .int .i64 0, .slice none 0 0] :: L,ba _ _ _, ?_⟩;refine af 5 ?_;refine cP tab rTree 2 (hs.mono hleA) ho hry rfl rfl rfl rfl rfl rfl rfl mJ (fun s3 mC hleC hs3 ho3 => ?_);refine ⟨hleC,E.I k3 h :: tok s3 4 :: .cells b2 0 [.int .i64 0,strV [], .int .i64 0, .slice none 0 0] :: L,a9 _, ?_⟩;refine jm ?_;refine cK (k:=3) tab 0 rfl rfl rfl rfl rfl rfl rfl rfl ?_;refine DOt.perm (ba _ _ _) ?_;refine aI ?_
  rotate_left 1
  refine ld ?_;refine ax (L':=E.I k3 h :: L) 3 ⟨_,k3,[],hT,cz hm hleC,hk,⟨⟨46,[],0,s3⟩,rfl,rfl,⟨rfl,rfl,rfl,hs3⟩⟩,rfl⟩
 refine ji ?_;refine qs rfl (du hT hE hk rfl rfl rfl rfl rfl rfl (fun hT hk => ?_) (fun hT => ?_))
 ·refine uA ?_;refine aK [6] cZ 7 [.cells b2 0 [.int .i64 0,strV [], .int .i64 0, .slice none 0 0]] (E.I (k + 1) h :: L) (ba _ _ _) ?_;refine ai (k:=0) 0 hA ?_;refine ai (k:=0) 2 hA ?_;refine af 1 ?_;refine cV (ba _ _ _) (dt (L0:=L) (psig_par hX) hmm hT hn hE hk lT hm uS rfl rfl rfl rfl rfl rfl goes113 (fun x mA a k2 hT hm hE hleA hk hrx => ?_));refine ⟨hleA,E.I k2 h :: L,ba _ _ _, ?_⟩;refine af 3 ?_;refine cV (ba _ _ _) (dt (L0:=L) hZ hleA hT hn hE hk lT hm uS rfl rfl rfl rfl rfl rfl goes114 (fun y mB b k3 hT hm hE hleB hk hry => ?_));refine ⟨hleB,E.I k3 h :: L,ba _ _ _, ?_⟩;refine af 4 ?_;refine cY tab rTree (hs:=[x,y]) (l:=[a,b]) ⟨rTree_iff.2 (hrx.mono hleB),rTree_iff.2 hry,trivial⟩ rfl rfl rfl rfl rfl lO (fun s mC hleC hs ho hc => ?_);refine ⟨hleC,_,a9 _, ?_⟩;refine j5 ?_;refine cL tab 0 rfl rfl rfl rfl rfl rfl rfl rfl ?_;refine DOt.perm (ba _ _ _) ?_;refine aI ?_
  rotate_left 1
  refine uA ?_;refine ax (L':=E.I k3 h :: L) 1 ⟨_,k3,[],hT,cz hm hleC,hk,⟨⟨47,[],0,s⟩,rfl,rfl,⟨rfl,rfl,rfl,hs⟩⟩,rfl⟩
 refine ji ?_;refine qs rfl (OT.nameP (L0:=L) hT hE hk lR hm uS rfl rfl rfl rfl rfl rfl (fun nm hT hk => ?_));refine ji ?_;refine uM ?_;cases hd with
 | true =>
  obtain rfl:=(show (1 : Int)=h from hh)
  refine iZ ?_;refine ax (L':=E.I (k + 1) 1 :: L) 1 ⟨_,k + 1,[],hT,hm,hk,⟨⟨44,nm,0,⟨none,0,0⟩⟩,rfl,rfl,⟨rfl,rfl,rfl,cO _ _⟩⟩,rfl⟩
 | false =>
  obtain rfl:=(show (0 : Int)=h from hh)
  replace hT : T=Ps.tok [123] (Ps.bind (Ps.exprsP E.N [125] Y) fun l=>Ps.ret (.mk 45 nm 0 l)) (Ps.ret (Ps.leaf 44 nm)) E.f (k + 1):=hT;refine ji ?_;refine qs rfl (du hT hE hk rfl rfl rfl rfl rfl rfl (fun hT hk => ?_) (fun hT => ?_))
  ·refine uA ?_;refine jq ?_;refine qs rfl (OT.parS (L0:=L) (exprs_par hY [125]) hmm hT hn hE hk lR hm uS rfl rfl rfl rfl rfl rfl goes238 (fun y mA l k3 hT hm hE hleA hk hry hly => ?_));refine iZ ?_;refine ax (L':=E.I k3 0 :: L) 1 ⟨_,k3,[],hT,hm,hk,⟨⟨45,nm,0,y⟩,rfl,rfl,⟨rfl,rfl,rfl,hry⟩⟩,rfl⟩
  ·refine uA ?_;refine iS ?_;refine ax (L':=E.I (k + 1) 0 :: L) 1 ⟨_,k + 1,[],hT,hm,hk,⟨⟨44,nm,0,⟨none,0,0⟩⟩,rfl,rfl,⟨rfl,rfl,rfl,cO _ _⟩⟩,rfl⟩
end
end Go.Sep
namespace Go.Sep
open Go.Proofs
attribute [local irreducible] TC TO OT TCallX TCall DO DOt thenQ blockQ retQ At
section
variable {mb : Mem} {E : PE} {h : Int}
theorem post_par {X Y : Ps.Pp Tree} (hX : Par Tryz.prog mb E vTree 233 [E.v] h X) (hY : Par Tryz.prog mb E vTree 199 [E.v] 0 Y) :
  Par Tryz.prog mb E vTree 227 [E.v] h (Ps.bind X (Ps.postP E.N Y E.N)):=by
 refine dn Tryz.func227 rfl 27 rfl fun m L k T hm0 hE hk hT hn => ?_;have hm : m ≤ m:=cy _;have hrows:=hE.rows;refine uA ?_;refine oB (fun b1 => ?_);refine cS fun m1 hle1 hA => ?_;replace hm : m ≤ m1:=hle1;replace hE:=hE.mono hle1;replace hX:=hX.up (cz hm0 hle1);replace hY:=hY.up (cz hm0 hle1);refine uA ?_;refine oA tab (fun b2 => ?_);refine cI (ba _ _ _) ?_;refine ji ?_;refine qs rfl (dt (L0:=L) hX (cy _) hT hn hE hk lR hm uS rfl rfl rfl rfl rfl rfl goes233 (fun x m2 a k2 hT hm hE hle2 hk hrx => ?_));refine uA ?_;refine oA tab (fun b3 => ?_);refine cI (ba _ _ _) ?_;refine iZ ?_;refine cD (ι:=HTree × Mem × Tree × Nat × Nat) [0,1,2,3] rfl (fun _=>[]) (fun x=>x.2.1) (fun x=>E.I x.2.2.2.1 h :: .cells b3 0 (treeC x.1) :: .cells b2 0 [.int .i64 0,strV [], .int .i64 0, .slice none 0 0] :: L) (fun x=>m2 ≤ x.2.1∧x.2.2.2.1 ≤ E.toks.length∧TreeRep x.2.1 x.1 x.2.2.1∧T=Ps.postP E.N Y x.2.2.2.2 x.2.2.1 E.f x.2.2.2.1) (fun x=>x.2.2.2.2) (x,m2,a,k2,E.N) uH rfl uS ⟨cy _,hk,hrx,hT⟩ ?_;rintro ⟨x,m3,n,k,N⟩ ⟨hm3,hk,hrx,hT⟩;simp only at hm3 hk hrx hT;show TC _ _ _ _ _ m3 (E.I k h :: .cells b3 0 (treeC x) :: .cells b2 0 [.int .i64 0,strV [], .int .i64 0, .slice none 0 0] :: L) _;replace hm:=cz hm hm3;replace hE:=hE.mono hm3;replace hA:=hA.mono (cz hle2 hm3);replace hY:=hY.up (cz hle2 hm3);have hmm : m3 ≤ m3:=cy _;cases N with
 | zero=>exact absurd hT hn
 | succ N =>
  replace hT : T=Ps.tok [46] (Ps.name fun s=>Ps.postP E.N Y N (.mk 48 s 0 [n])) (Ps.tok [91] (Ps.bind (Ps.indexP Y n) fun t=>Ps.postP E.N Y N t) (Ps.tok [40] (Ps.bind (Ps.exprsP E.N [41] Y) fun l=>Ps.postP E.N Y N (.mk 51 [] 0 (n :: l))) (Ps.ret n))) E.f k:=hT;refine ji ?_;refine qs rfl (du hT hE hk rfl rfl rfl rfl rfl rfl (fun hT hk => ?_) (fun hT => ?_))
  ·refine uA ?_;refine aK [5] cZ 6 [.cells b3 0 (treeC x)] (E.I (k + 1) h :: .cells b2 0 [.int .i64 0,strV [], .int .i64 0, .slice none 0 0] :: L) (ba _ _ _) ?_;refine ai (k:=0) 0 hA ?_;refine ae (k:=0) 2 0 ?_;refine DO.fork 1 [3] uK ⟨⟨_,rfl,rfl,rfl, ?_⟩,⟨_,rfl,rfl,rfl, ?_⟩,trivial⟩
   ·skip;refine cV (ba _ _ _) (OT.nameP (L0:=L) hT hE hk lT hm uS rfl rfl rfl rfl rfl rfl (fun t hT hk => ?_));refine kO ?_;refine af 3 ?_;refine aO (hs:=[x]) (l:=[n]) tab rTree ⟨rTree_iff.2 hrx,trivial⟩ uH lO (fun s mB hleB hs ho hc => ?_);replace hm:=cz hm hleB;replace hE:=hE.mono hleB;refine ⟨hleB,_,a9 _, ?_⟩;exact fa
   ·skip;refine aO (hs:=[x]) (l:=[n]) tab rTree ⟨rTree_iff.2 hrx,trivial⟩ uH lO (fun s mB hleB hs ho hc => ?_);replace hm:=cz hm hleB;replace hE:=hE.mono hleB;refine ⟨hleB,_,a9 _, ?_⟩;refine af 1 ?_;refine cV (ba _ _ _) (OT.nameP (L0:=L) hT hE hk lT hm uS rfl rfl rfl rfl rfl rfl (fun t hT hk => ?_));refine kO ?_;exact fa
  refine ji ?_;refine qs rfl (du hT hE hk rfl rfl rfl rfl rfl rfl (fun hT hk => ?_) (fun hT => ?_))
  ·refine uA ?_;refine jq ?_;refine qs rfl (OT.parTA (L0:=L) (inside_at (first:=[]) (cap:=[.pointer (some ⟨b1,0,none⟩), .pointer (some ⟨b3,0,none⟩)]) rfl goes235 hE (fun b=>post1_at hY hmm hE hk hA hrx)) hT hn hE lT hm uS rfl rfl rfl rfl rfl rfl goes234 (fun y mB e k3 hT hm hE hleB hk hry => ?_));exact gn
  refine ji ?_;refine qs rfl (du hT hE hk rfl rfl rfl rfl rfl rfl (fun hT hk => ?_) (fun hT => ?_))
  ·replace hT : T=Ps.bind (Ps.bind (Ps.exprsP E.N [41] Y) fun l=>Ps.ret (.mk 51 [] 0 (n :: l))) (Ps.postP E.N Y N) E.f (k + 1):=by rw [Ps.bind_assoc];exact hT
   refine ji ?_;refine qs rfl (OT.parTA (L0:=L) (inside_at (first:=[]) (cap:=[.pointer (some ⟨b3,0,none⟩), .pointer (some ⟨b1,0,none⟩)]) rfl goes237 hE (fun b=>post2_at hY hmm hE hk hA hrx)) hT hn hE lT hm uS rfl rfl rfl rfl rfl rfl goes234 (fun y mB e k3 hT hm hE hleB hk hry => ?_));exact gn
  ·refine uA ?_;refine jy ?_;refine av 2 ?_;refine ax (L':=E.I k h :: L) 2 ⟨_,k,[],hT,hm,hk,⟨x,rfl,rfl,hrx⟩,rfl⟩
structure GW (mb : Mem) (E : PE) (g : Ps.Gr) : Prop where
 typ : ∀ h,Par Tryz.prog mb E vTree 145 [E.v] h g.typ
 block : ∀ h,Par Tryz.prog mb E vTree 114 [E.v] h g.block
 stmt : Par Tryz.prog mb E vTree 151 [E.v] 0 g.stmt
 branch : Par Tryz.prog mb E vTree 179 [E.v] 0 g.branch
 expr : ∀ b,Par Tryz.prog mb E vTree 199 [E.v] (bif b then 1 else 0) (g.expr b)
 unary : ∀ b,Par Tryz.prog mb E vTree 220 [E.v] (bif b then 1 else 0) (g.unary b)
theorem Par.dry {f : FuncId} {args : List Value} {V : RV Tree} : Par Tryz.prog mb E V f args h Ps.dry:=fun _ _ _ _ _ _ hn=>absurd rfl hn
theorem gw : ∀ n,GW mb E (Ps.gr E.N n)
 | 0=>⟨fun _=>Par.dry,fun _=>Par.dry,Par.dry,Par.dry,fun _=>Par.dry,fun _=>Par.dry⟩
 | n + 1=>by
  have g:=gw n;refine ⟨fun h=>typ_par (g.typ h),fun h=>block_par g.stmt,stmt_par (g.expr true) (g.block 0) g.branch (simple_par (g.typ 0) (g.expr false)),branch_par (g.expr true) (g.block 0) g.branch,fun b=>expr_par (g.unary b),fun b => ?_⟩;exact unary_par (g.unary b) (post_par (primary_par b (g.typ _) (g.expr false) (g.block _)) (g.expr false))
end
end Go.Sep
namespace Go.Sep
open Go.Proofs
attribute [local irreducible] TC TO OT TCallX TCall DO DOt thenQ blockQ retQ At
section
variable {mb : Mem} {E : PE}
theorem program_par {X : Ps.Pp Tree} (hX : Par Tryz.prog mb E vTree 57 [E.v] 0 X) :
  Par Tryz.prog mb E vTree 30 [E.v] 0 (Ps.bind (Ps.progL X E.N) fun l=>Ps.ret (.mk 1 [] 0 l)):=by
 refine dn Tryz.func30 rfl 23 rfl fun m L k T hm0 hE hk hT hn => ?_;replace hX:=hX.up hm0;have hm : m ≤ m:=cy _;have hrows:=hE.rows;rw [Ps.decls_start] at hT;refine uA ?_;refine oA tab (fun b2 => ?_);refine cI (ba _ _ _) ?_;refine uA ?_;refine oA tab (fun b3 => ?_);refine cI (ba _ _ _) ?_;refine jU ?_;refine TO.grow0 (size:=4) ?_;refine aL (L':=E.I k 0 :: .cells b3 0 [.int .i64 1,strV [], .int .i64 0, .slice none 0 0] :: tok ⟨none,0,0⟩ 4 :: .cells b2 0 [.int .i64 0,strV [], .int .i64 0, .slice none 0 0] :: L) (be (ba _ _ _) (bg _ (ba _ _ _))) ?_;refine cD (ι:=Sl × Mem × List Tree × Nat × Nat) [0,2,3] rfl (fun x=>[]) (fun x=>x.2.1) (fun x=>E.I x.2.2.2.1 0 :: .cells b3 0 [.int .i64 1,strV [], .int .i64 0,x.1.v] :: tok x.1 4 :: .cells b2 0 [.int .i64 0,strV [], .int .i64 0, .slice none 0 0] :: L) (fun x=>m ≤ x.2.1∧E.Ok x.2.1∧x.2.2.2.1 ≤ E.toks.length∧SlRep rTree x.2.1 x.1 x.2.2.1∧Own x.1∧x.2.2.1.length + x.2.2.2.2=E.N∧T=Ps.bind (Ps.decls X x.2.2.2.2 x.2.2.1) (fun l=>Ps.ret (.mk 1 [] 0 l)) E.f x.2.2.2.1) (fun x=>x.2.2.2.2) (⟨none,0,0⟩,m,[],k,E.N) uH rfl uS ⟨hm,hE,hk,cO _ _,cU,by simp,hT⟩ ?_;rintro ⟨s,m1,acc,k,j⟩ ⟨hm,hE,hk,hs,ho,hlen,hT⟩;simp only at hm hE hk hs ho hlen hT;show TC _ _ _ _ _ m1 (E.I k 0 :: .cells b3 0 [.int .i64 1,strV [], .int .i64 0,s.v] :: tok s 4 :: .cells b2 0 [.int .i64 0,strV [], .int .i64 0, .slice none 0 0] :: L) _;have hll:=hE.rep.len;have hfew:=hE.few;cases j with
 | zero=>exact absurd hT hn
 | succ j =>
  refine uA ?_;refine aS [] cZ 10 ?_;refine jb ?_;refine js ?_;refine aP ?_
  rotate_left 1
  refine uA ?_;refine an (fun hc => ?_) (fun hc => ?_)
  ·have hlt : k < E.toks.length:=lM;have hT : T=Ps.bind X (fun a=>Ps.bind (Ps.decls X j (acc++[a])) fun l=>Ps.ret (.mk 1 [] 0 l)) E.f k:=by
    rw [← Ps.bind_assoc,hT];show Ps.bind _ _ E.f k=Ps.bind _ _ E.f k;unfold Ps.bind;rw [Ps.decls_some (by rw [PE.f_some hlt];exact fun h=>by cases h)];rfl
   refine uA ?_;refine aK [7] cZ 8 [.cells b3 0 [.int .i64 1,strV [], .int .i64 0,s.v]] (E.I k 0 :: tok s 4 :: .cells b2 0 [.int .i64 0,strV [], .int .i64 0, .slice none 0 0] :: L) (ba _ _ _) ?_;refine ja ?_;refine cV (ba _ _ _) (dt (L0:=L) (hX) hm hT hn hE hk lT hm uS rfl rfl rfl rfl rfl rfl goes57 (fun x mA a k2 hT hm hE hleA hk hr => ?_));refine ⟨hleA,E.I k2 0 :: tok s 4 :: .cells b2 0 [.int .i64 0,strV [], .int .i64 0, .slice none 0 0] :: L,ba _ _ _, ?_⟩;exact dZ
  ·have hT : T = .ok (.mk 1 [] 0 acc) k:=by
    rw [hT];unfold Ps.bind;rw [Ps.decls_none (PE.f_none lM)];rfl
   refine ld ?_;refine ax (L':=E.I k 0 :: L) 3 ⟨_,k,[],hT,hm,hk,⟨⟨1,[],0,s⟩,rfl,rfl,⟨rfl,rfl,rfl,hs⟩⟩,rfl⟩
end
def FitR (bl : Nat) (L : List Item) (m : Mem) (a : Tree) (d left : Int) : Value→Mem→List Item→Prop :=
 fun r m' L'=>m' = m∧((r = .bool true∧(a.size : Int) ≤ left∧d + (a.deep : Int) ≤ 101∧L' = .cells bl 0 [.int .i64 (left - a.size)] :: L) ∨ (r = .bool false ∧ ¬ ((a.size : Int) ≤ left∧d + (a.deep : Int) ≤ 101) ∧ ∃ n,L' = .cells bl 0 [.int .i64 n] :: L))
theorem fits_law (a : Tree) : ∀ (m : Mem) (L : List Item) (h : HTree) (bl : Nat) (d left : Int),TreeRep m h a→0 ≤ left→left ≤ 20000→0 ≤ d→d ≤ 101 →
  TCall Tryz.prog 31 ⟨[treeV h, .int .i64 d, .pointer (some ⟨bl,0,none⟩)]⟩ m (.cells bl 0 [.int .i64 left] :: L) (FitR bl L m a d left):=by
 induction a using Tree.ind with
 | h a ih =>
 intro m L h bl d left hr hl0 hl1 hd0 hd1;have hr':=hr;obtain ⟨h1,h2,h3,h4⟩:=hr;have hlen:=h4.len;have hsm:=h4.small rfl;have hsz:=size_kids a;have hdp:=deep_kids a;unfold TCall;refine ak Tryz.func31 36 ?_;refine oB (fun b3 => ?_);refine kE ?_;refine aa (r':=left - 1) uH lM ?_;refine av 1 ?_;refine jy ?_;refine aA (fun hneg => ?_) (fun hneg => ?_)
 ·exact gj
 refine uA ?_;refine an (fun hdd => ?_) (fun hdd => ?_)
 ·exact gj
 refine jd ?_;refine cD (ι:=Nat) [0,1,2,23,24] rfl (fun i=>[(25, .int .i64 (i : Int))]) (fun _=>m) (fun i => .cells bl 0 [.int .i64 (left - 1 - (sizeL (a.kids.take i) : Int))] :: L) (fun i=>i ≤ a.kids.length∧(sizeL (a.kids.take i) : Int) ≤ left - 1∧d + (deepL (a.kids.take i) : Int) ≤ 100) (fun i=>a.kids.length - i) 0 uH rfl (by rw [show left - 1 - (sizeL (a.kids.take 0) : Int)=left - 1 by simp [sizeL]];exact bW _ (bX _)) ⟨ci _,by simp [sizeL];omega,by simp [deepL];omega⟩ ?_;rintro i ⟨hi,hI1,hI2⟩;refine uA ?_;refine an (fun hc => ?_) (fun hc => ?_)
 ·have hlt : i < a.kids.length:=lM;have hx : a.kids[i]? = some a.kids[i]:=bm hlt;have e1:=sizeL_next a.kids i hlt;have e2:=deepL_next a.kids i hlt;have e3:=sizeL_take a.kids (i + 1);have e4:=deepL_take a.kids (i + 1);refine uA ?_;refine au tab rTree i h4 uH lS rfl hx ?_;rintro bx ix hx' hrx hAx;refine uA ?_;refine aq tab hAx ?_;refine aD tab (fun b8 => ?_);refine iS ?_;refine jy ?_;refine aa (r':=d + 1) uH lM ?_;refine cI (ba _ _ _) ?_;refine oC goes31 ((ih a.kids[i] (bK hlt) _ _ hx' bl (d + 1) (left - 1 - (sizeL (a.kids.take i) : Int)) (rTree_iff.1 hrx) lM lM lM lM).x ?_);rintro _ _ _ ⟨rfl,⟨rfl,k1,k2,rfl⟩ | ⟨rfl,k1,n,rfl⟩⟩
  ·refine uA ?_;refine iU ?_;refine ⟨i + 1,uH,uH,rfl,rfl, ?_,⟨hlt,by omega,by omega⟩,by omega⟩;rw [show left - 1 - (sizeL (a.kids.take (i + 1)) : Int)=left - 1 - (sizeL (a.kids.take i) : Int) - (a.kids[i].size : Int) by omega];exact uS
  ·refine uA ?_;refine cE rfl (L' := .cells bl 0 [.int .i64 n] :: L) uS ⟨rfl, .inr ⟨rfl,by omega,_,rfl⟩⟩
 ·rw [cg lM] at hI1 hI2;rw [cg (show a.kids.length ≤ i by omega)];refine uA ?_;refine cE rfl (L' := .cells bl 0 [.int .i64 (left - a.size)] :: L) ?_ ⟨rfl, .inl ⟨rfl,by omega,by omega,rfl⟩⟩;rw [show left - (a.size : Int)=left - 1 - (sizeL a.kids : Int) by omega];exact uS
end Go.Sep
namespace Go.Sep
open Go.Proofs
attribute [local irreducible] TC TO OT TCallX TCall DO DOt thenQ blockQ retQ At
theorem deepL_mem : ∀ {l : List Tree} {t : Tree},t ∈ l→t.deep ≤ deepL l
 | x :: xs,t,h=>by
  rcases List.mem_cons.1 h with rfl | h
  ·simp only [deepL];omega
  ·have:=deepL_mem h;simp only [deepL];omega
theorem deep_kid {a t : Tree} (h : t ∈ a.kids) : t.deep < a.deep:=by
 obtain ⟨k,n,u,ks⟩:=a;have:=deepL_mem h;simp only [Tree.kids,Tree.deep] at *;omega
structure SgT (n : Nat) (a : Tree) (m : Mem) (L : List Item) (h : HTree) : Prop where
 expr : TCall Tryz.prog 161 ⟨[treeV h]⟩ m L (Ret (.bool ((sg n).expr a)) m L)
 stmt : TCall Tryz.prog 125 ⟨[treeV h]⟩ m L (Ret (.bool ((sg n).stmt a)) m L)
 block : TCall Tryz.prog 74 ⟨[treeV h]⟩ m L (Ret (.bool ((sg n).block a)) m L)
theorem sg_tellers : ∀ (n : Nat) (a : Tree),a.deep ≤ n→a.wide ≤ 140737488355328 → ∀ (m : Mem) (L : List Item) (h : HTree),TreeRep m h a→SgT n a m L h
 | 0,a,hd,hB,m,L,h,hr=>by
  obtain ⟨k,nm,u,ks⟩:=a;simp only [Tree.deep] at hd;omega
 | n + 1,a,hd,hB,m,L,h,hr=>by
  have ih : ∀ b ∈ a.kids, ∀ (m : Mem) (L : List Item) (h : HTree),TreeRep m h b→SgT n b m L h:=fun b hb m L h hr =>
   sg_tellers n b (by have:=deep_kid hb;omega) (bF ((da hb)) hB) m L h hr
  have hE : IsPred 161 (sg n).expr a.kids:=⟨goes161,fun m L h b hb hr=>(ih b hb m L h hr).expr⟩
  have hS : IsPred 125 (sg n).stmt a.kids:=⟨goes125,fun m L h b hb hr=>(ih b hb m L h hr).stmt⟩
  have hK : IsPred 74 (sg n).block a.kids:=⟨goes74,fun m L h b hb hr=>(ih b hb m L h hr).block⟩
  exact ⟨expr_teller _ a m L h hr hB hE hK,stmt_teller _ a m L h hr hB hE hK hS,block_teller _ a m L h hr hS⟩
theorem fieldT_teller (a : Tree) (m : Mem) (L : List Item) (h : HTree) (hr : TreeRep m h a) (hB : a.wide ≤ 140737488355328) :
  TCall Tryz.prog 69 ⟨[treeV h]⟩ m L (Ret (.bool (fieldS Tree.isType a)) m L):=by
 have hT : IsPred 71 Tree.isType a.kids:=kidPred goes71 hB fun b m L h hr hB=>type_law b m L h hr hB;refine kN ?_;unfold TCall fieldS;refine ak Tryz.func69 10 ?_;refine az (fun b => ?_);refine ar goes68 (of_law _ _ h a hr hB 6) ?_;refine aF (fun h7 => ?_) (fun h7 => ?_)
 ·refine uL ?_;refine aw (hs:=[71]) (l:=[71]) tab rFn ⟨rfl,trivial⟩ uH lO (fun s1 m1 hm1 hs1 _ _ => ?_);refine uA ?_;refine ar goes70 (db m1 _ h a (hr.mono hm1) s1 [(71,Tree.isType)] none hs1 (pr1 hT) po0) ?_;exact eB
 ·exact dU
theorem fieldG_teller (a : Tree) (m : Mem) (L : List Item) (h : HTree) (hr : TreeRep m h a) (hB : a.wide ≤ 140737488355328) :
  TCall Tryz.prog 72 ⟨[treeV h]⟩ m L (Ret (.bool (fieldS Tree.isSig a)) m L):=by
 have hT : IsPred 73 Tree.isSig a.kids:=kidPred goes73 hB fun b m L h hr hB=>sig_law b m L h hr hB;refine kN ?_;unfold TCall fieldS;refine ak Tryz.func72 10 ?_;refine az (fun b => ?_);refine ar goes68 (of_law _ _ h a hr hB 6) ?_;refine aF (fun h7 => ?_) (fun h7 => ?_)
 ·refine uL ?_;refine aw (hs:=[73]) (l:=[73]) tab rFn ⟨rfl,trivial⟩ uH lO (fun s1 m1 hm1 hs1 _ _ => ?_);refine uA ?_;refine ar goes70 (db m1 _ h a (hr.mono hm1) s1 [(73,Tree.isSig)] none hs1 (pr1 hT) po0) ?_;exact eB
 ·exact dU
theorem isParam_kid {a : Tree} (h : a.isParam=true) : ∃ k,a.kids=[k]∧k.isType=true:=by
 unfold Tree.isParam at h;simp only [bj,bu,bN] at h;obtain ⟨h1,_,_,h2,h3⟩:=h
 match hk : a.kids with
 | []=>rw [hk] at h2;cases h2
 | [k]=>exact ⟨k,rfl,h3 k mu⟩
 | _ :: _ :: _=>rw [hk] at h2;simp at h2
theorem isType_kid {a : Tree} (h : a.isType=true) (h11 : a.kind=11) : ∃ k,a.kids=[k]:=by
 rw [isType_eq,if_neg lM,if_pos (.inl h11)] at h;simp only [bj,bu] at h
 match hk : a.kids with
 | []=>rw [hk] at h;simp at h
 | [k]=>exact ⟨k,rfl⟩
 | _ :: _ :: _=>rw [hk] at h;simp at h
theorem recv_teller (a : Tree) (m : Mem) (L : List Item) (h : HTree) (hr : TreeRep m h a) (hB : a.wide ≤ 140737488355328) :
  TCall Tryz.prog 75 ⟨[treeV h]⟩ m L (Ret (.bool (recvS a)) m L):=by
 have hr':=hr;obtain ⟨h1,h2,h3,h4⟩:=hr;have hl:=h4.len;unfold TCall recvS;refine ak Tryz.func75 24 ?_;refine az (fun b => ?_);refine ar goes124 (param_law a _ _ h hr' hB) ?_;refine aF (fun h7 => ?_) (fun h7 => ?_)
 ·obtain ⟨k0,hk0,ht0⟩:=isParam_kid h7;have e0 : kid0 a=k0:=by unfold kid0;rw [hk0];rfl
  have hx : a.kids[0]? = some k0:=by rw [hk0];rfl
  rw [h7,e0];refine uL ?_;refine kj ?_;rintro b' i hd hrd hA;obtain ⟨g1,g2,g3,g4⟩:=rTree_iff.1 hrd;refine uL ?_;refine ah hA ?_;refine aA (fun e1 => ?_) (fun e1 => ?_)
  ·obtain ⟨k1,hk1⟩:=isType_kid ht0 (g1.symm.trans e1);have e2 : kid0 k0=k1:=by unfold kid0;rw [hk1];rfl
   have hx1 : k0.kids[0]? = some k1:=by rw [hk1];rfl
   rw [e2,bP (g1.symm.trans e1)];refine uL ?_;refine kj ?_;rintro b2 i2 hd2 hrd2 hA2;obtain ⟨f1,f2,f3,f4⟩:=rTree_iff.1 hrd2;refine uL ?_;refine qs rfl (OT.loadA tab hA2 rfl rfl rfl rfl rfl ?_);refine uL ?_;refine au tab rTree 0 f4 uH lS rfl hx1 ?_;rintro b3 i3 hd3 hrd3 hA3;obtain ⟨d1,d2,d3,d4⟩:=rTree_iff.1 hrd3;refine uL ?_;refine ah hA3 ?_;refine iT ?_;rw [d1];rfl
  ·refine uA ?_;refine iT ?_;rw [bQ (fun e=>e1 (g1.trans e))];rfl
 ·refine uA ?_;exact fq
theorem decl_teller (g : Sg) (a : Tree) (m : Mem) (L : List Item) (h : HTree) (hr : TreeRep m h a) (hB : a.wide ≤ 140737488355328) (hK : IsPred 74 g.block a.kids) :
  TCall Tryz.prog 35 ⟨[treeV h]⟩ m L (Ret (.bool (declS g a)) m L):=by
 have hSg : IsPred 73 Tree.isSig a.kids:=kidPred goes73 hB fun b m L h hr hB=>sig_law b m L h hr hB;have hF1 : IsPred 69 (fieldS Tree.isType) a.kids:=kidPred goes69 hB fun b m L h hr hB=>fieldT_teller b m L h hr hB;have hF2 : IsPred 72 (fieldS Tree.isSig) a.kids:=kidPred goes72 hB fun b m L h hr hB=>fieldG_teller b m L h hr hB;have hR : IsPred 75 recvS a.kids:=kidPred goes75 hB fun b m L h hr hB=>recv_teller b m L h hr hB;have hr':=hr;obtain ⟨h1,h2,h3,h4⟩:=hr;have hl:=h4.len;refine kN ?_;unfold declS TCall;refine cG Tryz.func35 rfl 49 rfl ?_;by_cases hk : a.kind=2
 ·skip;rw [if_pos hk];obtain ⟨k,n,u,s⟩:=h;obtain rfl : k=2:=h1.trans hk;simp only at h2 h3 h4 hl;subst h2;subst h3;refine uA ?_;refine az (fun b => ?_);refine ar goes68 (of_law _ _ ⟨2,a.name,a.num,s⟩ a hr' hB 2) ?_;refine aF (fun h7 => ?_) (fun h7 => ?_)
  ·refine uL ?_;refine ar goes34 (pall_law _ _ s a.kids h4 69 (fieldS Tree.isType) hF1) ?_;exact ed
  ·skip;exact dU
 rw [if_neg hk];have hk2:=hk;clear hk;by_cases hk : a.kind=3
 ·skip;rw [if_pos hk];obtain ⟨k,n,u,s⟩:=h;obtain rfl : k=3:=h1.trans hk;simp only at h2 h3 h4 hl;subst h2;subst h3;refine uA ?_;refine az (fun b => ?_);refine ar goes68 (of_law _ _ ⟨3,a.name,a.num,s⟩ a hr' hB 3) ?_;refine aF (fun h7 => ?_) (fun h7 => ?_)
  ·refine uL ?_;refine ar goes34 (pall_law _ _ s a.kids h4 72 (fieldS Tree.isSig) hF2) ?_;exact ed
  ·skip;exact dU
 rw [if_neg hk];have hk3:=hk;clear hk;by_cases hk : a.kind=4
 ·skip;rw [if_pos hk];obtain ⟨k,n,u,s⟩:=h;obtain rfl : k=4:=h1.trans hk;simp only at h2 h3 h4 hl;subst h2;subst h3;refine uA ?_;refine az (fun b => ?_);refine ar goes68 (of_law _ _ ⟨4,a.name,a.num,s⟩ a hr' hB 4) ?_;refine aF (fun h7 => ?_) (fun h7 => ?_)
  ·refine uL ?_;refine aw (hs:=[73,74]) (l:=[73,74]) tab rFn ⟨rfl,rfl,trivial⟩ uH lO (fun s1 m1 hm1 hs1 _ _ => ?_);refine uA ?_;refine ar goes70 (db m1 _ ⟨4,a.name,a.num,s⟩ a (hr'.mono hm1) s1 [(73,Tree.isSig),(74,g.block)] none hs1 (pr2 hSg hK) po0) ?_;exact eB
  ·skip;exact dU
 rw [if_neg hk];have hk4:=hk;clear hk;by_cases hk : a.kind=5
 ·skip;rw [if_pos hk];obtain ⟨k,n,u,s⟩:=h;obtain rfl : k=5:=h1.trans hk;simp only at h2 h3 h4 hl;subst h2;subst h3;refine uA ?_;refine az (fun b => ?_);refine ar goes68 (of_law _ _ ⟨5,a.name,a.num,s⟩ a hr' hB 5) ?_;refine aF (fun h7 => ?_) (fun h7 => ?_)
  ·refine uL ?_;refine aw (hs:=[75,73,74]) (l:=[75,73,74]) tab rFn ⟨rfl,rfl,rfl,trivial⟩ uH lO (fun s1 m1 hm1 hs1 _ _ => ?_);refine uA ?_;refine ar goes70 (db m1 _ ⟨5,a.name,a.num,s⟩ a (hr'.mono hm1) s1 [(75,recvS),(73,Tree.isSig),(74,g.block)] none hs1 (pr3 hR hSg hK) po0) ?_;exact eB
  ·skip;exact dU
 rw [if_neg hk];refine uA ?_;refine az (fun b => ?_);exact ez
theorem sound_law (a : Tree) (m : Mem) (L : List Item) (h : HTree) (hr : TreeRep m h a) (hB : a.wide ≤ 140737488355328) :
  TCall Tryz.prog 16 ⟨[treeV h]⟩ m L (Ret (.bool (soundB a)) m L):=by
 have hr':=hr;obtain ⟨h1,h2,h3,h4⟩:=hr;unfold TCall;refine ak Tryz.func16 18 ?_;refine oB (fun b => ?_);refine uA ?_;refine aD tab (fun b3 => ?_);refine iS ?_;refine qs rfl (OT.loadL0 tab 1 rfl rfl rfl rfl rfl rfl ?_);refine uA ?_;refine oC goes31 ((fits_law a m _ h b3 1 20000 hr' lO lO lO lO).x ?_);rintro _ _ _ ⟨rfl,⟨rfl,k1,k2,rfl⟩ | ⟨rfl,k1,n,rfl⟩⟩
 ·have e1 : (decide (a.size ≤ 20000) && decide (a.deep ≤ 100))=true:=by rw [bP lM,bP lM];rfl
  unfold soundB;rw [e1,bO,← h1];have hD : IsPred 35 (declS (sg 100)) a.kids:=by
   refine ⟨goes35,fun m L x c hc hrc => ?_⟩;have hBc:=bF ((da hc)) hB;refine decl_teller _ c m L x hrc hBc ⟨goes74,fun m L y d hd hrd => ?_⟩;exact (sg_tellers 100 d (by have:=deep_kid hc;have:=deep_kid hd;omega) (bF ((da hd)) hBc) m L y hrd).block
  refine uA ?_;refine qs rfl (OT.loadL0 tab 1 rfl rfl rfl rfl rfl rfl ?_);refine uL ?_;refine ar goes33 (bare_law _ _ h a hr' (decide (h.kind=1)) false false) ?_;refine aF (fun h7 => ?_) (fun h7 => ?_)
  ·refine uL ?_;refine ar goes34 (pall_law _ _ h.kids a.kids h4 35 (declS (sg 100)) hD) ?_;exact fq
  ·refine uA ?_;exact fq
 ·have e1 : (decide (a.size ≤ 20000) && decide (a.deep ≤ 100))=false:=by
   rw [← Bool.decide_and,bQ (fun hh=>k1 ⟨by omega,by omega⟩)]
  unfold soundB;rw [e1];exact eK
end Go.Sep
namespace Go.Pt
open Go.Sep Go.Ps
structure PR (N n : Nat) (h : Bool) (a : Tree) : Prop where
 ex : ∃ (lp ls : List Tk) (b : Tree) (m : Nat),toks a=lp++ls∧m < a.size∧Rd (primP N (gr N n).typ (gr N n).block ((gr N n).expr false) h) lp b (fP h)∧(∀ o,hS LE (hd lp o)=true) ∧
  (∀ (j : Nat) (f : F) (k : Nat),seg f k ls→postP N ((gr N n).expr false) (j + m) b f k=postP N ((gr N n).expr false) j a f (k + ls.length)) ∧ ∀ o,fP h o=true→fP h (hd ls o)=true
section
variable {N : Nat}
theorem PR.hd {n : Nat} {h : Bool} {a : Tree} (hp : PR N n h a) (o : Option Tk) : hS LE (hd (toks a) o)=true:=by
 obtain ⟨lp,ls,b,m,h1,h2,h3,h4,h5,h6⟩:=hp.ex;rw [h1,hd_app2];exact h4 _
structure RT (N : Nat) (a : Tree) : Prop where
 block : lim.block a=true → ∀ n,4 * a.deep ≤ n→Rd (gr N n).block (toks a) a yes
 stmt : lim.stmt a=true → ∀ n,4 * a.deep + 1 ≤ n→Rd (gr N n).stmt (toks a) a fS
 branch : lim.stmt a=true→a.kind=25 → ∀ n,4 * a.deep ≤ n→Rd (gr N n).branch (toks a) a fS
 post : lim.expr a=true → ∀ h n,4 * a.deep ≤ n + 1→PR N n h a
 hdS : lim.stmt a=true → ∀ o,hS LS (hd (toks a) o)=true
section
variable {k0 : Int} {n0 : Str} {u0 : Int} {ks : List Tree} (ih : ∀ k ∈ ks,k.size ≤ N→RT N k) (hN : (Tree.mk k0 n0 u0 ks).size ≤ N)
include ih hN
end
end
end Go.Pt
namespace Go.Pt
open Go.Sep Go.Ps
section
variable {N : Nat} {n0 : Str} {u0 : Int} {ks : List Tree}
theorem kids1 {p : Tree→Bool} {l : List Tree} (h : kidsR [p] none l=true) : ∃ x,l=[x]∧p x=true:=by
 match l,h with
 | [],h=>cases h
 | [x],h=>exact ⟨x,rfl,by simpa [kidsR] using h⟩
 | x :: y :: l,h=>simp [kidsR] at h
theorem kids2 {p q : Tree→Bool} {l : List Tree} (h : kidsR [p,q] none l=true) : ∃ x y,l=[x,y]∧p x=true∧q y=true:=by
 match l,h with
 | [],h=>cases h
 | [x],h=>simp [kidsR] at h
 | [x,y],h=>exact ⟨x,y,rfl,by simpa [kidsR] using h⟩
 | x :: y :: z :: l,h=>simp [kidsR] at h
theorem kids3 {p q r : Tree→Bool} {l : List Tree} (h : kidsR [p,q,r] none l=true) : ∃ x y z,l=[x,y,z]∧p x=true∧q y=true∧r z=true:=by
 match l,h with
 | [],h=>cases h
 | [x],h=>simp [kidsR] at h
 | [x,y],h=>simp [kidsR] at h
 | [x,y,z],h=>exact ⟨x,y,z,rfl,by simpa [kidsR] using h⟩
 | x :: y :: z :: w :: l,h=>simp [kidsR] at h
end
end Go.Pt
namespace Go.Pt
open Go.Sep Go.Ps
theorem headS_n {a : Tree} {k : Int} (h : a.kind=k) (h1 : k ≠ 21∧k ≠ 22∧k ≠ 23) : headS a=(decide (a.name=[]) && decide (a.num=0)):=by
 unfold headS;rw [h,bQ h1.1,bQ h1.2.1,bQ h1.2.2];rfl
theorem stmtS_head (g : Sg) (a : Tree) : stmtS g a=(headS a && (if a.kind=20 then blockS g a
 else if a.kind=21 then isName a.name && (kidsR [Tree.isType] none a.kids || kidsR [Tree.isType,g.expr] none a.kids)
 else if a.kind=22 then asgS g (nmS g) a
 else if a.kind=23 then asgS g (plS g) a
 else if a.kind=24 then kidsR [callS g] none a.kids
 else if a.kind=25 then kidsR [g.expr,g.block] none a.kids || kidsR [g.expr,g.block,otherS g] none a.kids
 else if a.kind=26 then kidsR [g.block] none a.kids || kidsR [g.expr,g.block] none a.kids
 else if a.kind=27 then a.kids.all g.expr
 else if a.kind=28 ∨ a.kind=29 then kidsR [] none a.kids
 else false)):=by
 unfold stmtS;cases headS a <;> simp
section
variable {N : Nat}
end
end Go.Pt
