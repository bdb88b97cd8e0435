/- ScLit -/
import Derived.Test.YtinmchaljlekgaaGreatDoorB7
set_option linter.unusedVariables false
set_option linter.unusedSimpArgs false
namespace Go.Sep
open Go.Proofs
attribute [local irreducible] TC TO OT TCallX TCall DO DOt thenQ blockQ retQ At
structure LitS where
 m : Mem
 q : Option Addr
 sl : Sl
 i : Nat
 acc : Str
def litR (o : Option (Str × Nat)) : Value:=match o with
 | some (t,n) => .tuple ⟨[strV t, .int .i64 ((n + 1 : Nat) : Int)]⟩
 | none => .tuple ⟨[strV [], .int .i64 0]⟩
set_option maxHeartbeats 2000000 in
theorem literal_law (m : Mem) (L : List Item) (s : Str) (h0 : 0 < s.length) (hl : s.length ≤ 70000) (hE : Errs m) : TCall Tryz.prog 108 ⟨[strV s]⟩ m L (Made m L fun r _=>r=litR (lit (s.drop 1))):=by
 unfold TCall
 refine TCallX.enter Tryz.func108 rfl 76 rfl ?_
 refine uA ?_
 refine TO.step rfl (OT.allocT tab rfl rfl rfl rfl (fun bd m1 hm1 ht1 => ?_))
 refine uA ?_
 refine TC.grow0 (size:=1) ?_
 refine TC.perm pf1 ?_
 refine TC.loopK (ι:=LitS) [0,4] rfl (fun x=>[(5, .int .i64 (x.i : Int))]) (fun x=>x.m) (fun x => .cells bd 0 [.pointer x.q,x.sl.v] :: tok x.sl 1 :: L) (fun x=>m ≤ x.m∧1 ≤ x.i∧x.i ≤ s.length∧BOk x.m bd x.q x.sl x.acc∧x.acc.length ≤ x.i∧LitAt s 1 x.i x.acc (lit (s.drop 1))) (fun x=>s.length - x.i) ⟨m1,none,⟨none,0,0⟩,1,[]⟩ uH rfl uS ⟨hm1,Nat.le_refl _,h0,⟨⟨_,ht1,by kernel_rfl⟩, .inl rfl,SlRep.nil _ _,Own.nil,fun _ _ e=>(by cases e),fun _=>rfl⟩,Nat.zero_le _,LitAt.start s 1⟩ ?_
 rintro ⟨m1,q,sl,i,acc⟩ ⟨hm,hi1,hi,hB,hacc,hI⟩
 replace hm : m ≤ m1:=hm
 replace hi1 : 1 ≤ i:=hi1
 replace hi : i ≤ s.length:=hi
 replace hB : BOk m1 bd q sl acc:=hB
 replace hacc : acc.length ≤ i:=hacc
 replace hI : LitAt s 1 i acc (lit (s.drop 1)):=hI
 show TC _ _ _ ((5, .int .i64 (i : Int)) :: _) _ m1 (.cells bd 0 [.pointer q,sl.v] :: tok sl 1 :: L) _
 refine uA ?_
 refine TC.condP rfl (fun g1 => ?_) (fun g1 => ?_)
 ·have hlt : i < s.length:=by omega
  have hx : s[i]? = some s[i]:=by simp [hlt]
  refine uA ?_
  refine TO.step rfl (OT.sidx tab i rfl rfl rfl rfl rfl rfl rfl hx ?_)
  refine uA ?_
  refine TC.condP rfl (fun c1 => ?_) (fun c1 => ?_)
  ·refine uA ?_
   refine TO.step rfl (OT.call rfl rfl rfl rfl rfl rfl goes70 ((string_law _ _ bd q sl acc hB).x ?_));
   rintro _ _ _ ⟨rfl,rfl,rfl⟩
   refine uA ?_
   refine TO.step rfl (OT.arith (r':=((i + 1 : Nat) : Int)) rfl rfl rfl rfl rfl rfl rfl (by omega) ?_)
   refine uA ?_
   refine retQ_ret rfl uS ⟨hm,rfl, ?_⟩
   rw [hI.quote hlt (by omega)]
   show Value.tuple ⟨[strV acc, .int .i64 ((i + 1 : Nat) : Int)]⟩ = .tuple ⟨[strV acc, .int .i64 ((i - 1 + 1 + 1 : Nat) : Int)]⟩
   rw [show i - 1 + 1 + 1=i + 1 by omega]
  refine uA ?_
  refine TC.condP rfl (fun c2 => ?_) (fun c2 => ?_)
  ·refine uA ?_
   refine retQ_ret rfl uS ⟨hm,rfl, ?_⟩
   rw [hI.nl hlt (by omega)];rfl
  refine uA ?_
  refine TC.condP rfl (fun c3 => ?_) (fun c3 => ?_)
  ·refine uA ?_
   refine TO.step rfl (OT.arith (r':=((i + 1 : Nat) : Int)) rfl rfl rfl rfl rfl rfl rfl (by omega) ?_)
   refine uA ?_
   refine TC.condP rfl (fun c4 => ?_) (fun c4 => ?_)
   ·refine uA ?_
    refine retQ_ret rfl uS ⟨hm,rfl, ?_⟩
    rw [hI.bad hlt (by omega) (by rw [List.drop_eq_nil_of_le (by omega)];rfl)];rfl
   have hlt2 : i + 1 < s.length:=by omega
   have hx2 : s[i + 1]? = some s[i + 1]:=by simp [hlt2]
   have hd2:=List.drop_eq_getElem_cons hlt2
   refine uA ?_
   refine TO.step rfl (OT.sidx tab (i + 1) rfl rfl rfl rfl rfl rfl rfl hx2 ?_)
   refine uA ?_
   refine TC.condP rfl (fun d1 => ?_) (fun d1 => ?_)
   ·have he : escB (s.drop (i + 1))=some (10,1):=by rw [hd2];exact esc_n (by omega)
    refine uA ?_
    refine TO.step rfl (OT.call rfl rfl rfl rfl rfl rfl goes119 ((writeByte_law _ _ bd q sl acc 10 hB (by omega)).x ?_));
    rintro _ m2 _ ⟨hm2,sl2,q2,rfl,hB2⟩
    refine uA ?_
    refine TO.step rfl (OT.arith (r':=(((i + 1) + 1 : Nat) : Int)) rfl rfl rfl rfl rfl rfl rfl (by omega) ?_)
    refine uA ?_
    exact ⟨⟨m2,q2,sl2,(i + 1) + 1,acc++[10]⟩,uH,uH,rfl,rfl,uS,⟨Mem.le_trans hm hm2,by show _ ≤ (i + 1) + 1;omega,by show (i + 1) + 1 ≤ _;omega,hB2,by show (acc++[_]).length ≤ (i + 1) + 1;rw [List.length_append];simp only [List.length_cons,List.length_nil];omega,(hI.esc hi1 hlt (by omega) he)⟩,by show s.length - ((i + 1) + 1) < s.length - i;omega⟩
   refine uA ?_
   refine TC.condP rfl (fun d2 => ?_) (fun d2 => ?_)
   ·have he : escB (s.drop (i + 1))=some (9,1):=by rw [hd2];exact esc_t (by omega)
    refine uA ?_
    refine TO.step rfl (OT.call rfl rfl rfl rfl rfl rfl goes119 ((writeByte_law _ _ bd q sl acc 9 hB (by omega)).x ?_));
    rintro _ m2 _ ⟨hm2,sl2,q2,rfl,hB2⟩
    refine uA ?_
    refine TO.step rfl (OT.arith (r':=(((i + 1) + 1 : Nat) : Int)) rfl rfl rfl rfl rfl rfl rfl (by omega) ?_)
    refine uA ?_
    exact ⟨⟨m2,q2,sl2,(i + 1) + 1,acc++[9]⟩,uH,uH,rfl,rfl,uS,⟨Mem.le_trans hm hm2,by show _ ≤ (i + 1) + 1;omega,by show (i + 1) + 1 ≤ _;omega,hB2,by show (acc++[_]).length ≤ (i + 1) + 1;rw [List.length_append];simp only [List.length_cons,List.length_nil];omega,(hI.esc hi1 hlt (by omega) he)⟩,by show s.length - ((i + 1) + 1) < s.length - i;omega⟩
   refine uA ?_
   refine TC.condP rfl (fun d3 => ?_) (fun d3 => ?_)
   ·have he : escB (s.drop (i + 1))=some (s[i + 1],1):=by rw [hd2];exact esc_self (by omega)
    refine uA ?_
    refine TC.condP rfl (fun _ => ?_) (fun h=>absurd d3 h)
    refine uA ?_
    refine TO.step rfl (OT.sidx tab (i + 1) rfl rfl rfl rfl rfl rfl rfl hx2 ?_)
    refine uA ?_
    refine TO.step rfl (OT.call rfl rfl rfl rfl rfl rfl goes119 ((writeByte_law _ _ bd q sl acc s[i + 1] hB (by omega)).x ?_));
    rintro _ m2 _ ⟨hm2,sl2,q2,rfl,hB2⟩
    refine uA ?_
    refine TO.step rfl (OT.arith (r':=(((i + 1) + 1 : Nat) : Int)) rfl rfl rfl rfl rfl rfl rfl (by omega) ?_)
    refine uA ?_
    exact ⟨⟨m2,q2,sl2,(i + 1) + 1,acc++[s[i + 1]]⟩,uH,uH,rfl,rfl,uS,⟨Mem.le_trans hm hm2,by show _ ≤ (i + 1) + 1;omega,by show (i + 1) + 1 ≤ _;omega,hB2,by show (acc++[_]).length ≤ (i + 1) + 1;rw [List.length_append];simp only [List.length_cons,List.length_nil];omega,(hI.esc hi1 hlt (by omega) he)⟩,by show s.length - ((i + 1) + 1) < s.length - i;omega⟩
   refine uA ?_
   refine TC.condP rfl (fun d4 => ?_) (fun d4 => ?_)
   ·have he : escB (s.drop (i + 1))=some (s[i + 1],1):=by rw [hd2];exact esc_self (by omega)
    refine uA ?_
    refine TO.step rfl (OT.sidx tab (i + 1) rfl rfl rfl rfl rfl rfl rfl hx2 ?_)
    refine uA ?_
    refine TO.step rfl (OT.call rfl rfl rfl rfl rfl rfl goes119 ((writeByte_law _ _ bd q sl acc s[i + 1] hB (by omega)).x ?_));
    rintro _ m2 _ ⟨hm2,sl2,q2,rfl,hB2⟩
    refine uA ?_
    refine TO.step rfl (OT.arith (r':=(((i + 1) + 1 : Nat) : Int)) rfl rfl rfl rfl rfl rfl rfl (by omega) ?_)
    refine uA ?_
    exact ⟨⟨m2,q2,sl2,(i + 1) + 1,acc++[s[i + 1]]⟩,uH,uH,rfl,rfl,uS,⟨Mem.le_trans hm hm2,by show _ ≤ (i + 1) + 1;omega,by show (i + 1) + 1 ≤ _;omega,hB2,by show (acc++[_]).length ≤ (i + 1) + 1;rw [List.length_append];simp only [List.length_cons,List.length_nil];omega,(hI.esc hi1 hlt (by omega) he)⟩,by show s.length - ((i + 1) + 1) < s.length - i;omega⟩
   refine uA ?_
   refine TC.condP rfl (fun d5 => ?_) (fun d5 => ?_)
   ·refine uA ?_
    refine TO.step rfl (OT.arith (r':=((i + 3 : Nat) : Int)) rfl rfl rfl rfl rfl rfl rfl (by omega) ?_)
    refine uA ?_
    refine TC.condP rfl (fun d6 => ?_) (fun d6 => ?_)
    ·refine uA ?_
     refine retQ_ret rfl uS ⟨hm,rfl, ?_⟩
     rw [hI.bad hlt (by omega) (by rw [hd2];exact esc_xs (by omega) (by rw [List.length_drop];omega))];rfl
    have hl3 : i + 2 < s.length:=by omega
    have hl4 : i + 3 < s.length:=by omega
    have hcut : (s.take (i + 4)).drop (i + 2)=[s[i + 2],s[i + 3]]:=by
     rw [List.take_succ_eq_append_getElem hl4,List.take_succ_eq_append_getElem hl3,List.append_assoc,List.drop_append,List.drop_eq_nil_of_le (by simp;omega)]
     simp [Nat.min_eq_left (show i + 2 ≤ s.length by omega)]
    have hd3 : s.drop (i + 1)=s[i + 1] :: s[i + 2] :: s[i + 3] :: s.drop (i + 4):=by
     rw [hd2,List.drop_eq_getElem_cons hl3,List.drop_eq_getElem_cons hl4]
    refine uA ?_
    refine TO.step rfl (OT.arith (r':=((i + 2 : Nat) : Int)) rfl rfl rfl rfl rfl rfl rfl (by omega) ?_)
    refine uA ?_
    refine TO.step rfl (OT.arith (r':=((i + 4 : Nat) : Int)) rfl rfl rfl rfl rfl rfl rfl (by omega) ?_)
    refine TO.step rfl (OT.sub tab (i + 2) (i + 4) rfl rfl rfl rfl rfl rfl rfl (.inr rfl) (.inr rfl) (by omega) (by omega) ?_)
    rw [hcut]
    refine TO.step rfl (OT.call rfl rfl rfl rfl rfl rfl goes141 ((parseUint_law _ _ [s[i + 2],s[i + 3]] (by simp) (by simp) (hE.mono hm)).x ?_));
    rintro _ m3 _ ⟨hm3,rfl,⟨v,e1,rfl⟩ | ⟨e1,v,a,b,rfl⟩⟩
    ·have hv:=pU_le _ _ _ (Nat.zero_le _) e1
     have he : escB (s.drop (i + 1))=some (UInt8.ofNat v,3):=by rw [hd3,esc_x (by omega),hexB,e1];rfl
     refine uA ?_
     refine TO.step rfl (OT.errNe tab rfl rfl rfl rfl (.inl rfl) rfl rfl ?_)
     refine uA ?_
     refine TO.step rfl (OT.conv tab rfl rfl rfl rfl rfl rfl (r:=((UInt8.ofNat v).toNat : Int)) (by rw [u8_in (by omega) (by omega),UInt8.toNat_ofNat',Nat.mod_eq_of_lt (by omega)]) ?_)
     replace hB:=hB.mono hm3
     refine TO.step rfl (OT.call rfl rfl rfl rfl rfl rfl goes119 ((writeByte_law _ _ bd q sl acc (UInt8.ofNat v) hB (by omega)).x ?_));
     rintro _ m2 _ ⟨hm2,sl2,q2,rfl,hB2⟩
     refine uA ?_
     refine TO.step rfl (OT.arith (r':=((i + 3 : Nat) : Int)) rfl rfl rfl rfl rfl rfl rfl (by omega) ?_)
     refine uA ?_
     refine TO.step rfl (OT.arith (r':=(((i + 3) + 1 : Nat) : Int)) rfl rfl rfl rfl rfl rfl rfl (by omega) ?_)
     refine uA ?_
     exact ⟨⟨m2,q2,sl2,(i + 3) + 1,acc++[(UInt8.ofNat v)]⟩,uH,uH,rfl,rfl,uS,⟨Mem.le_trans hm (Mem.le_trans hm3 hm2),by show _ ≤ (i + 3) + 1;omega,by show (i + 3) + 1 ≤ _;omega,hB2,by show (acc++[_]).length ≤ (i + 3) + 1;rw [List.length_append];simp only [List.length_cons,List.length_nil];omega,(hI.esc hi1 hlt (by omega) he)⟩,by show s.length - ((i + 3) + 1) < s.length - i;omega⟩
    ·refine uA ?_
     refine TO.step rfl (OT.errNe tab rfl rfl rfl rfl (.inr ⟨_,_,rfl⟩) rfl rfl ?_)
     refine uA ?_
     refine retQ_ret rfl uS ⟨Mem.le_trans hm hm3,rfl, ?_⟩
     rw [hI.bad hlt (by omega) (by rw [hd3,esc_x (by omega),hexB,e1];rfl)];rfl
   ·refine uA ?_
    refine retQ_ret rfl uS ⟨hm,rfl, ?_⟩
    rw [hI.bad hlt (by omega) (by rw [hd2];exact esc_no (by omega) (by omega) (by omega) (by omega) (by omega))];rfl
  ·refine uA ?_
   refine TO.step rfl (OT.sidx tab i rfl rfl rfl rfl rfl rfl rfl hx ?_)
   refine TO.step rfl (OT.call rfl rfl rfl rfl rfl rfl goes119 ((writeByte_law _ _ bd q sl acc s[i] hB (by omega)).x ?_));
   rintro _ m2 _ ⟨hm2,sl2,q2,rfl,hB2⟩
   refine uA ?_
   refine TO.step rfl (OT.arith (r':=((i + 1 : Nat) : Int)) rfl rfl rfl rfl rfl rfl rfl (by omega) ?_)
   refine uA ?_
   exact ⟨⟨m2,q2,sl2,i + 1,acc++[s[i]]⟩,uH,uH,rfl,rfl,uS,⟨Mem.le_trans hm hm2,by show _ ≤ i + 1;omega,by show i + 1 ≤ _;omega,hB2,by show (acc++[_]).length ≤ i + 1;rw [List.length_append];simp only [List.length_cons,List.length_nil];omega,(hI.one hi1 hlt (by omega) (by omega) (by omega))⟩,by show s.length - (i + 1) < s.length - i;omega⟩
 ·refine uA ?_
  refine retQ_ret rfl uS ⟨hm,rfl, ?_⟩
  rw [hI.end_ (by omega)];rfl
end Go.Sep


/- ScTok0 -/
set_option linter.unusedVariables false
set_option linter.unusedSimpArgs false
namespace Go.Sep
def isSp (c : UInt8) : Bool:=decide (c.toNat=9) || (decide (c.toNat=10) || (decide (c.toNat=13) || decide (c.toNat=32)))
def blk : Bool→Str→Nat
 | _,[]=>0
 | true,c :: r=>if c.toNat=10 then 1 + blk false r else 1 + blk true r
 | false,c :: r=>if isSp c=true then 1 + blk false r else if c.toNat=47∧r.head? = some 47 then 1 + blk true r else 0
theorem blk_le : ∀ (b : Bool) (s : Str),blk b s ≤ s.length
 | _,[]=>by simp [blk]
 | true,c :: r=>by
  have h1:=blk_le false r
  have h2:=blk_le true r
  rw [blk,List.length_cons]
  split <;> omega
 | false,c :: r=>by
  have h1:=blk_le false r
  have h2:=blk_le true r
  rw [blk,List.length_cons]
  split
  ·omega
  ·split <;> omega
theorem isSp_ix_all : ∀ n : Fin 256,decide (0 ≤ Lib.indexByte [9,10,13,32] (UInt8.ofNat n.val))=isSp (UInt8.ofNat n.val):=by decide +kernel
theorem isSp_ix (c : UInt8) : decide (0 ≤ Lib.indexByte [9,10,13,32] c)=isSp c:=by
 have:=isSp_ix_all ⟨c.toNat,c.toNat_lt⟩
 simpa using this
theorem blk_line : ∀ l : Str,(Lib.indexByte l 10 = -1∧blk true l=l.length) ∨ ∃ k : Nat,k < l.length∧Lib.indexByte l 10=(k : Int)∧blk true l=k + blk false (l.drop k)∧(l.drop k).head? = some 10
 | [] => .inl ⟨rfl,rfl⟩
 | c :: r=>by
  by_cases hc : c=10
  ·subst hc
   refine .inr ⟨0,by simp,rfl, ?_,rfl⟩
   rw [List.drop_zero,Nat.zero_add,blk,blk,if_pos (by decide),if_pos (by decide)]
  ·have hn : c.toNat ≠ 10:=fun e=>hc (UInt8.toNat_inj.1 e)
   have hb : (c == 10)=false:=by simpa using hc
   rw [Lib.indexByte,blk,if_neg hn,hb]
   simp only [Bool.false_eq_true,if_false]
   rcases blk_line r with ⟨h1,h2⟩ | ⟨k,h1,h2,h3,h4⟩
   ·refine .inl ⟨?_, ?_⟩
    ·rw [h1];rfl
    ·rw [h2,List.length_cons];omega
   ·refine .inr ⟨k + 1,by simpa using h1, ?_, ?_,by simpa using h4⟩
    ·rw [h2]
     have : ((k : Int) == -1)=false:=by
      simp only [beq_eq_false_iff_ne];omega
     rw [this];simp
    ·rw [h3];simp;omega
theorem blk_rem {c : UInt8} {r : Str} (h1 : c.toNat=47) (h2 : r.head? = some 47) : blk false (c :: r)=blk true (c :: r):=by
 rw [blk,blk,if_neg (by unfold isSp;simp [h1]),if_pos ⟨h1,h2⟩,if_neg (by omega)]
structure Tok where
 kind : Int
 text : Str
 num : Int
 at_ : Int
 deriving DecidableEq
def markL : List Str:=[[58,61],[61,61],[33,61],[60,61],[62,61],[38,38],[124,124],[40],[41],[123],[125],[91],[93],[44],[59],[46],[58],[61],[60],[62],[43],[45],[42],[47],[37],[38],[33]]
def tokD : Str→Option (Tok × Nat)
 | []=>none
 | c :: r =>
  if ltr c=true then (if 64 < spanOf lod (c :: r) then none else some (⟨if (c :: r).take (spanOf lod (c :: r)) ∈ wordL then 5 else 1,(c :: r).take (spanOf lod (c :: r)),0,0⟩,spanOf lod (c :: r)))
  else if dgt c=true then (match numOf ((c :: r).take (spanOf lod (c :: r))) with
   | none=>none
   | some v=>if (c.toNat=48∧1 < spanOf lod (c :: r)) ∨ spanOf dgt (c :: r) ≠ spanOf lod (c :: r) then none else some (⟨2,[],v,0⟩,spanOf lod (c :: r)))
  else if c.toNat=34 then (match lit r with
   | none=>none
   | some (t,n)=>if 1024 < t.length then none else some (⟨3,t,0,0⟩,n + 1))
  else match markL.find? (fun p=>prefixB p (c :: r)) with
   | none=>none
   | some p=>some (⟨4,p,0,0⟩,p.length)
theorem span_pos {p : UInt8→Bool} {c : UInt8} {r : Str} (h : p c=true) : 0 < spanOf p (c :: r):=by
 rw [spanOf,List.takeWhile_cons_of_pos h];simp
theorem span_le (p : UInt8→Bool) (s : Str) : spanOf p s ≤ s.length:=by
 unfold spanOf
 induction s with
 | nil=>simp
 | cons x xs ih =>
  rw [List.takeWhile_cons]
  split <;> simp
  exact ih
theorem litF_le : ∀ (f : Nat) (r t : Str) (n : Nat),litF f r=some (t,n)→1 ≤ n∧n ≤ r.length
 | 0,_,_,_,h=>by cases h
 | f + 1,[],_,_,h=>by cases h
 | f + 1,c :: r,t,n,h=>by
  rw [litF] at h
  split at h
  ·cases h;simp
  ·split at h
   ·cases h
   ·split at h
    ·cases he : escB r with
     | none=>rw [he] at h;cases h
     | some p =>
      obtain ⟨b,k⟩:=p
      rw [he] at h
      simp only at h
      cases hl : litF f (r.drop k) with
      | none=>rw [hl] at h;cases h
      | some q =>
       obtain ⟨t',n'⟩:=q
       rw [hl] at h
       simp only [Option.map_some,Option.some.injEq,Prod.mk.injEq] at h
       have h1:=litF_le f _ _ _ hl
       have h2:=escB_pos he
       have h3 : (r.drop k).length=r.length - k:=by simp
       simp only [List.length_cons]
       omega
    ·cases hl : litF f r with
     | none=>rw [hl] at h;cases h
     | some q =>
      obtain ⟨t',n'⟩:=q
      rw [hl] at h
      simp only [Option.map_some,Option.some.injEq,Prod.mk.injEq] at h
      have h1:=litF_le f _ _ _ hl
      simp only [List.length_cons]
      omega
theorem lit_le {r t : Str} {n : Nat} (h : lit r=some (t,n)) : 1 ≤ n∧n ≤ r.length:=litF_le _ _ _ _ h
theorem prefixB_len {p s : Str} (h : prefixB p s=true) : p.length ≤ s.length∧s.take p.length=p:=by
 unfold prefixB at h
 rw [Bool.and_eq_true] at h
 exact ⟨of_decide_eq_true h.1,of_decide_eq_true h.2⟩
theorem markL_len : ∀ p ∈ markL,1 ≤ p.length:=by decide
theorem tokD_le {s : Str} {t : Tok} {n : Nat} (h : tokD s=some (t,n)) : 1 ≤ n∧n ≤ s.length:=by
 cases s with
 | nil=>cases h
 | cons c r =>
  have hs:=span_le lod (c :: r)
  rw [tokD] at h
  by_cases h1 : ltr c=true
  ·rw [if_pos h1] at h
   have : lod c=true:=by unfold lod;rw [h1];rfl
   have:=span_pos (r:=r) this
   split at h
   ·cases h
   ·cases h;omega
  ·rw [if_neg h1] at h
   by_cases h2 : dgt c=true
   ·rw [if_pos h2] at h
    have : lod c=true:=by unfold lod;rw [h2];simp
    have:=span_pos (r:=r) this
    split at h
    ·cases h
    ·split at h
     ·cases h
     ·cases h;omega
   ·rw [if_neg h2] at h
    by_cases h3 : c.toNat=34
    ·rw [if_pos h3] at h
     cases hl : lit r with
     | none=>rw [hl] at h;cases h
     | some p =>
      obtain ⟨t',n'⟩:=p
      rw [hl] at h
      simp only at h
      have:=lit_le hl
      split at h
      ·cases h
      ·cases h;simp;omega
    ·rw [if_neg h3] at h
     cases hf : markL.find? (fun p=>prefixB p (c :: r)) with
     | none=>rw [hf] at h;cases h
     | some p =>
      rw [hf] at h
      cases h
      have:=prefixB_len (p:=p) (s:=c :: r) (List.find?_some (p:=fun p=>prefixB p (c :: r)) hf)
      exact ⟨markL_len p (List.mem_of_find?_eq_some hf),this.1⟩
def cutF : Nat→Str→Nat→Nat→Except (Nat × Int) (List Tok)
 | 0,_,_,_ => .error (0,0)
 | f + 1,r,at_,k=>if r.drop (blk false r)=[] then .ok [] else if k=20000 then .error (at_ + blk false r,4) else match tokD (r.drop (blk false r)) with
  | none => .error (at_ + blk false r,3)
  | some (t,n)=>match cutF f ((r.drop (blk false r)).drop n) (at_ + blk false r + n) (k + 1) with
   | .error e => .error e
   | .ok l => .ok (⟨t.kind,t.text,t.num,((at_ + blk false r : Nat) : Int)⟩ :: l)
structure Cut where
 list : List Tok
 at_ : Nat
 e : Int
 deriving DecidableEq
def Cut.of : Except (Nat × Int) (List Tok)→Cut
 | .ok l=>⟨l,0,0⟩
 | .error (a,e)=>⟨[],a,e⟩
def scanD (s : Str) : Cut:=if 65536 < s.length then ⟨[],0,13⟩ else .of (cutF (s.length + 1) s 0 0)
end Go.Sep


/- ScBlank -/
set_option linter.unusedVariables false
set_option linter.unusedSimpArgs false
namespace Go.Sep
open Go.Proofs
attribute [local irreducible] TC TO OT TCallX TCall DO DOt thenQ blockQ retQ At
theorem prefix_2 (l : Str) : prefixB [47,47] l=true ↔ ∃ r,l=47 :: 47 :: r:=by
 constructor
 ·intro h
  obtain ⟨h1,h2⟩:=prefixB_len h
  match l,h1,h2 with
  | a :: b :: r,_,h2 =>
   simp at h2
   exact ⟨r,by rw [h2.1,h2.2]⟩
  | [a],h1,_=>simp at h1
  | [],h1,_=>simp at h1
 ·rintro ⟨r,rfl⟩
  rfl
set_option maxHeartbeats 800000 in
theorem blank_law (m : Mem) (L : List Item) (s : Str) (hl : s.length ≤ 70000) : TCall Tryz.prog 59 ⟨[strV s]⟩ m L (Ret (.int .i64 ((blk false s : Nat) : Int)) m L):=by
 unfold TCall
 refine TCallX.enter Tryz.func59 rfl 35 rfl ?_
 refine uA ?_
 refine TC.loopK (ι:=Nat) [0] rfl (fun n=>[(3, .int .i64 (n : Int))]) (fun _=>m) (fun _=>L) (fun n=>n ≤ s.length∧blk false s=n + blk false (s.drop n)) (fun n=>s.length - n) 0 uH rfl uS ⟨Nat.zero_le _,by simp⟩ ?_
 rintro n ⟨hn,hI⟩
 refine uA ?_
 refine TC.condP rfl (fun g1 => ?_) (fun g1 => ?_)
 ·have hlt : n < s.length:=by omega
  have hx : s[n]? = some s[n]:=by simp [hlt]
  have hd:=List.drop_eq_getElem_cons hlt
  refine uA ?_
  refine TO.step rfl (OT.sidx tab n rfl rfl rfl rfl rfl rfl rfl hx ?_)
  refine TO.step rfl (OT.call rfl rfl rfl rfl rfl rfl goes105 ((indexByte_law _ _ [9,10,13,32] s[n]).x ?_));
  rintro _ _ _ ⟨rfl,rfl,rfl⟩
  refine uA ?_
  rw [isSp_ix]
  refine TC.cond rfl (fun c1 => ?_) (fun c1 => ?_)
  ·refine uA ?_
   refine TO.step rfl (OT.arith (r':=((n + 1 : Nat) : Int)) rfl rfl rfl rfl rfl rfl rfl (by omega) ?_)
   refine uA ?_
   exact ⟨n + 1,uH,uH,rfl,rfl,uS,⟨by omega,by rw [hI,hd,blk,if_pos c1];omega⟩,by omega⟩
  ·refine uA ?_
   refine TO.step rfl (OT.sub tab n s.length rfl rfl rfl rfl rfl rfl rfl (.inr rfl) (.inl ⟨rfl,rfl⟩) (by omega) (by omega) ?_)
   rw [List.take_length]
   refine TO.step rfl (OT.call rfl rfl rfl rfl rfl rfl goes106 ((prefix_law _ _ (s.drop n) [47,47]).x ?_));
   rintro _ _ _ ⟨rfl,rfl,rfl⟩
   refine uA ?_
   refine TC.cond rfl (fun c2 => ?_) (fun c2 => ?_)
   ·obtain ⟨r,hr⟩:=(prefix_2 _).1 c2
    have hb : blk false (s.drop n)=blk true (s.drop n):=by rw [hr];exact blk_rem rfl rfl
    refine uA ?_
    refine TO.step rfl (OT.sub tab n s.length rfl rfl rfl rfl rfl rfl rfl (.inr rfl) (.inl ⟨rfl,rfl⟩) (by omega) (by omega) ?_)
    rw [List.take_length]
    refine TO.step rfl (OT.call rfl rfl rfl rfl rfl rfl goes105 ((indexByte_law _ _ (s.drop n) 10).x ?_));
    rintro _ _ _ ⟨rfl,rfl,rfl⟩
    rcases blk_line (s.drop n) with ⟨k1,k2⟩ | ⟨k,k0,k1,k2,k3⟩
    ·rw [k1]
     refine uA ?_
     refine retQ_ret rfl uS ⟨rfl,rfl, ?_⟩
     rw [hI,hb,k2,List.length_drop]
     congr 1;omega
    ·rw [k1]
     have hk : k ≠ 0:=fun e=>by rw [e,hr] at k3;simp at k3
     rw [List.length_drop] at k0
     refine uA ?_
     refine TO.step rfl (OT.arith (r':=((n + k : Nat) : Int)) rfl rfl rfl rfl rfl rfl rfl (by omega) ?_)
     refine uA ?_
     exact ⟨n + k,uH,uH,rfl,rfl,uS,⟨by omega,by rw [hI,hb,k2,List.drop_drop];omega⟩,by omega⟩
   ·refine uA ?_
    refine retQ_ret rfl uS ⟨rfl,rfl, ?_⟩
    have hb : blk false (s.drop n)=0:=by
     rw [hd,blk,if_neg (by rw [c1];decide),if_neg]
     rintro ⟨h1,h2⟩
     refine Bool.eq_false_iff.1 c2 ((prefix_2 _).2 ?_)
     rw [hd]
     have h3 : s[n]=47:=UInt8.toNat_inj.1 h1
     cases hr : s.drop (n + 1) with
     | nil=>rw [hr] at h2;cases h2
     | cons x r =>
      rw [hr] at h2
      simp at h2
      exact ⟨r,by rw [h3,h2]⟩
    rw [hI,hb];rfl
 ·refine uA ?_
  refine retQ_ret rfl uS ⟨rfl,rfl, ?_⟩
  rw [hI,List.drop_eq_nil_of_le (by omega),blk]
  congr 1
theorem marks_rep {m : Mem} {b : Nat} (h : At m b 0 (encs rStr markL)) : SlRep rStr m ⟨some ⟨b,0,none⟩,27,27⟩ markL :=
 ⟨rfl,Nat.le_refl _,(by show 27 * 16 ≤ _;decide),markL,all_refl2 markL, .inr ⟨b,0,rfl,h⟩⟩
set_option maxHeartbeats 400000 in
theorem marks_law (m : Mem) (L : List Item) : TCall Tryz.prog 109 ⟨[]⟩ m L (Made m L fun r m' => ∃ s : Sl,r=s.v∧SlRep rStr m' s markL):=by
 unfold TCall
 refine TCallX.enter Tryz.func109 rfl 2 rfl ?_
 refine uB ?_
 refine TO.step rfl (OT.lit tab rfl rfl rfl rfl (fun b => ?_))
 refine TO.freeze fun m1 hm1 hA1 => ?_
 refine uA ?_
 exact retQ_ret rfl uS ⟨hm1,rfl,_,rfl,marks_rep hA1⟩
end Go.Sep


/- ScNext -/
set_option linter.unusedVariables false
set_option linter.unusedSimpArgs false
namespace Go.Sep
open Go.Proofs
attribute [local irreducible] TC TO OT TCallX TCall DO DOt thenQ blockQ retQ At
def tokC (t : Tok) : List Value:=[.int .i64 t.kind,strV t.text, .int .i64 t.num, .int .i64 t.at_]
@[reducible] def tokV (t : Tok) : Value := .agg ⟨tokC t⟩
def NextR (o : Option (Tok × Nat)) (r : Value) : Prop := ∃ t n,r = .tuple ⟨[tokV t, .int .i64 ((n : Nat) : Int)]⟩ ∧ (o=some (t,n) ∨ (o=none∧n=0))
set_option maxHeartbeats 1000000 in
theorem next_law (m : Mem) (L : List Item) (s : Str) (h0 : 0 < s.length) (hl : s.length ≤ 70000) (hE : Errs m) : TCall Tryz.prog 60 ⟨[strV s]⟩ m L (Made m L fun r _=>NextR (tokD s) r):=by
 obtain ⟨c,r,rfl⟩ : ∃ c r,s=c :: r:=by
  cases s with
  | nil=>simp at h0
  | cons c r=>exact ⟨c,r,rfl⟩
 have hx : (c :: r)[0]? = some c:=rfl
 have hsl:=span_le lod (c :: r)
 unfold TCall
 refine TCallX.enter Tryz.func60 rfl 99 rfl ?_
 refine uA ?_
 refine TO.step rfl (OT.alloc tab rfl rfl rfl rfl (fun b2 => ?_))
 refine uA ?_
 refine TO.step rfl (OT.sidx tab 0 rfl rfl rfl rfl rfl rfl rfl hx ?_)
 refine TO.step rfl (OT.call rfl rfl rfl rfl rfl rfl goes95 ((letter_law _ _ c).x ?_));
 rintro _ _ _ ⟨rfl,rfl,rfl⟩
 refine uA ?_
 refine TC.cond rfl (fun c1 => ?_) (fun c1 => ?_)
 ·refine uA ?_
  refine TO.step rfl (OT.call rfl rfl rfl rfl rfl rfl goes97 ((either_law _ _).x ?_));
  rintro _ m1 _ ⟨hm1,rfl,e1,e2,rfl,hA1,hA2⟩
  refine uA ?_
  refine TO.step rfl (OT.call rfl rfl rfl rfl rfl rfl goes96 ((span_law m1 _ (c :: r) (by omega) lod 134 _ ⟨goes134,fun b=>either_cl m1 _ b e1 e2 hA1 hA2⟩).x ?_));
  rintro _ _ _ ⟨rfl,rfl,rfl⟩
  refine uA ?_
  refine TC.draw0 [] mixed 5 rfl ?_
  refine DO.pure tab uC (by kernel_rfl) [1,2] (by kernel_rfl) rfl ?_
  refine DO.fork 0 [3] (by kernel_rfl) ⟨⟨_,rfl,rfl,rfl, ?_⟩,⟨_,rfl,rfl,rfl, ?_⟩,trivial⟩
  ·refine OT.call rfl rfl rfl rfl rfl rfl goes100 ((words_law _ _).x ?_)
   rintro _ m2 _ ⟨hm2,rfl,w,rfl,hw⟩
   refine ⟨hm2,_,List.Perm.refl _, ?_⟩
   refine DO.run 3 rfl rfl (by kernel_rfl) rfl ?_
   refine OT.sub tab 0 (spanOf lod (c :: r)) rfl rfl rfl rfl rfl rfl rfl (.inl ⟨rfl,rfl⟩) (.inr rfl) (Nat.zero_le _) hsl ?_
   refine ⟨Mem.le_refl _,_,List.Perm.refl _, ?_⟩
   refine DO.run 4 rfl rfl (by kernel_rfl) rfl ?_
   refine OT.call rfl rfl rfl rfl rfl rfl goes99 ((contains_str m2 _ w wordL _ hw).x ?_)
   rintro _ _ _ ⟨rfl,rfl,rfl⟩
   refine ⟨Mem.le_refl _,_,List.Perm.refl _, ?_⟩
   refine DO.nil0 (by kernel_rfl) ?_
   refine thenQ_n ?_
   refine (fun (hm12 : m ≤ m2) => ?_) (Mem.le_trans hm1 hm2)
   refine uA ?_
   refine TC.condP rfl (fun k1 => ?_) (fun k1 => ?_)
   ·refine uA ?_
    refine TC.condP rfl (fun k2 => ?_) (fun k2 => ?_)
    ·skip
     refine uA ?_
     refine uT ?_
     refine uA ?_
     refine retQ_ret_c tab 0 rfl rfl rfl rfl rfl (L':=L) uS ⟨hm12,rfl, ?_⟩
     refine ⟨⟨0,[],0,0⟩,0,rfl, .inr ⟨?_,rfl⟩⟩
     rw [tokD,if_pos c1,if_pos (by omega)]
    ·refine uA ?_
     refine TO.step rfl (OT.sub tab 0 (spanOf lod (c :: r)) rfl rfl rfl rfl rfl rfl rfl (.inl ⟨rfl,rfl⟩) (.inr rfl) (Nat.zero_le _) hsl ?_)
     refine uA ?_
     refine uT ?_
     refine uA ?_
     refine retQ_ret_c tab 0 rfl rfl rfl rfl rfl (L':=L) uS ⟨hm12,rfl, ?_⟩
     refine ⟨⟨5,(c :: r).take (spanOf lod (c :: r)),0,0⟩,spanOf lod (c :: r),rfl, .inl ?_⟩
     rw [List.drop_zero] at k1
     rw [tokD,if_pos c1,if_neg (by omega),if_pos k1]
   ·refine uA ?_
    refine TC.condP rfl (fun k2 => ?_) (fun k2 => ?_)
    ·skip
     refine uA ?_
     refine uT ?_
     refine uA ?_
     refine retQ_ret_c tab 0 rfl rfl rfl rfl rfl (L':=L) uS ⟨hm12,rfl, ?_⟩
     refine ⟨⟨0,[],0,0⟩,0,rfl, .inr ⟨?_,rfl⟩⟩
     rw [tokD,if_pos c1,if_pos (by omega)]
    ·refine uA ?_
     refine TO.step rfl (OT.sub tab 0 (spanOf lod (c :: r)) rfl rfl rfl rfl rfl rfl rfl (.inl ⟨rfl,rfl⟩) (.inr rfl) (Nat.zero_le _) hsl ?_)
     refine uA ?_
     refine uT ?_
     refine uA ?_
     refine retQ_ret_c tab 0 rfl rfl rfl rfl rfl (L':=L) uS ⟨hm12,rfl, ?_⟩
     refine ⟨⟨1,(c :: r).take (spanOf lod (c :: r)),0,0⟩,spanOf lod (c :: r),rfl, .inl ?_⟩
     rw [List.drop_zero] at k1
     rw [tokD,if_pos c1,if_neg (by omega),if_neg k1]
  ·refine OT.sub tab 0 (spanOf lod (c :: r)) rfl rfl rfl rfl rfl rfl rfl (.inl ⟨rfl,rfl⟩) (.inr rfl) (Nat.zero_le _) hsl ?_
   refine ⟨Mem.le_refl _,_,List.Perm.refl _, ?_⟩
   refine DO.run 0 rfl rfl (by kernel_rfl) rfl ?_
   refine OT.call rfl rfl rfl rfl rfl rfl goes100 ((words_law _ _).x ?_)
   rintro _ m2 _ ⟨hm2,rfl,w,rfl,hw⟩
   refine ⟨hm2,_,List.Perm.refl _, ?_⟩
   refine DO.run 4 rfl rfl (by kernel_rfl) rfl ?_
   refine OT.call rfl rfl rfl rfl rfl rfl goes99 ((contains_str m2 _ w wordL _ hw).x ?_)
   rintro _ _ _ ⟨rfl,rfl,rfl⟩
   refine ⟨Mem.le_refl _,_,List.Perm.refl _, ?_⟩
   refine DO.nil0 (by kernel_rfl) ?_
   refine thenQ_n ?_
   refine (fun (hm12 : m ≤ m2) => ?_) (Mem.le_trans hm1 hm2)
   refine uA ?_
   refine TC.condP rfl (fun k1 => ?_) (fun k1 => ?_)
   ·refine uA ?_
    refine TC.condP rfl (fun k2 => ?_) (fun k2 => ?_)
    ·skip
     refine uA ?_
     refine uT ?_
     refine uA ?_
     refine retQ_ret_c tab 0 rfl rfl rfl rfl rfl (L':=L) uS ⟨hm12,rfl, ?_⟩
     refine ⟨⟨0,[],0,0⟩,0,rfl, .inr ⟨?_,rfl⟩⟩
     rw [tokD,if_pos c1,if_pos (by omega)]
    ·refine uA ?_
     refine TO.step rfl (OT.sub tab 0 (spanOf lod (c :: r)) rfl rfl rfl rfl rfl rfl rfl (.inl ⟨rfl,rfl⟩) (.inr rfl) (Nat.zero_le _) hsl ?_)
     refine uA ?_
     refine uT ?_
     refine uA ?_
     refine retQ_ret_c tab 0 rfl rfl rfl rfl rfl (L':=L) uS ⟨hm12,rfl, ?_⟩
     refine ⟨⟨5,(c :: r).take (spanOf lod (c :: r)),0,0⟩,spanOf lod (c :: r),rfl, .inl ?_⟩
     rw [List.drop_zero] at k1
     rw [tokD,if_pos c1,if_neg (by omega),if_pos k1]
   ·refine uA ?_
    refine TC.condP rfl (fun k2 => ?_) (fun k2 => ?_)
    ·skip
     refine uA ?_
     refine uT ?_
     refine uA ?_
     refine retQ_ret_c tab 0 rfl rfl rfl rfl rfl (L':=L) uS ⟨hm12,rfl, ?_⟩
     refine ⟨⟨0,[],0,0⟩,0,rfl, .inr ⟨?_,rfl⟩⟩
     rw [tokD,if_pos c1,if_pos (by omega)]
    ·refine uA ?_
     refine TO.step rfl (OT.sub tab 0 (spanOf lod (c :: r)) rfl rfl rfl rfl rfl rfl rfl (.inl ⟨rfl,rfl⟩) (.inr rfl) (Nat.zero_le _) hsl ?_)
     refine uA ?_
     refine uT ?_
     refine uA ?_
     refine retQ_ret_c tab 0 rfl rfl rfl rfl rfl (L':=L) uS ⟨hm12,rfl, ?_⟩
     refine ⟨⟨1,(c :: r).take (spanOf lod (c :: r)),0,0⟩,spanOf lod (c :: r),rfl, .inl ?_⟩
     rw [List.drop_zero] at k1
     rw [tokD,if_pos c1,if_neg (by omega),if_neg k1]
 ·refine uA ?_
  refine TO.step rfl (OT.sidx tab 0 rfl rfl rfl rfl rfl rfl rfl hx ?_)
  refine TO.step rfl (OT.call rfl rfl rfl rfl rfl rfl goes98 ((digit_law _ _ c).x ?_));
  rintro _ _ _ ⟨rfl,rfl,rfl⟩
  refine uA ?_
  refine TC.cond rfl (fun c2 => ?_) (fun c2 => ?_)
  ·refine uA ?_
   refine TO.step rfl (OT.call rfl rfl rfl rfl rfl rfl goes97 ((either_law _ _).x ?_));
   rintro _ m1 _ ⟨hm1,rfl,e1,e2,rfl,hA1,hA2⟩
   refine uA ?_
   refine TO.step rfl (OT.call rfl rfl rfl rfl rfl rfl goes96 ((span_law m1 _ (c :: r) (by omega) lod 134 _ ⟨goes134,fun b=>either_cl m1 _ b e1 e2 hA1 hA2⟩).x ?_));
   rintro _ _ _ ⟨rfl,rfl,rfl⟩
   refine uA ?_
   refine TO.step rfl (OT.sub tab 0 (spanOf lod (c :: r)) rfl rfl rfl rfl rfl rfl rfl (.inl ⟨rfl,rfl⟩) (.inr rfl) (Nat.zero_le _) hsl ?_)
   have hp : 0 < spanOf lod (c :: r):=span_pos (by unfold lod;rw [c2];simp)
   have htk : (c :: r).take (spanOf lod (c :: r))=c :: r.take (spanOf lod (c :: r) - 1):=by
    obtain ⟨k,hk⟩ : ∃ k,spanOf lod (c :: r)=k + 1:=⟨spanOf lod (c :: r) - 1,by omega⟩
    rw [hk];rfl
   rw [List.drop_zero]
   have c1' : ¬ ltr c=true:=by rw [c1];decide
   refine TO.step rfl (OT.call rfl rfl rfl rfl rfl rfl goes107 ((parseInt_law _ _ ((c :: r).take (spanOf lod (c :: r))) (by rw [htk];simp) (fun x hx=>by rw [htk] at hx;cases hx;exact c2) (by rw [List.length_take];omega) (hE.mono hm1)).x ?_));
   rintro _ m2 _ ⟨hm2,rfl,⟨v,e1,rfl⟩ | ⟨e1,v,a,b,rfl⟩⟩
   ·refine uA ?_
    refine TO.step rfl (OT.errNe tab rfl rfl rfl rfl (.inl rfl) rfl rfl ?_)
    refine uA ?_
    refine TO.step rfl (OT.sidx tab 0 rfl rfl rfl rfl rfl rfl rfl hx ?_)
    refine uA ?_
    (first | refine TO.splitP rfl rfl (fun c3 => ?_) (fun c3 => ?_) | refine TO.splitN rfl rfl (fun c3 => ?_) (fun c3 => ?_) | refine TO.split rfl rfl (fun c3 => ?_) (fun c3 => ?_))
    ·refine uA ?_
     (first | refine TO.splitP rfl rfl (fun c5 => ?_) (fun c5 => ?_) | refine TO.splitN rfl rfl (fun c5 => ?_) (fun c5 => ?_) | refine TO.split rfl rfl (fun c5 => ?_) (fun c5 => ?_))
     ·skip
      refine uA ?_
      refine uT ?_
      refine uA ?_
      refine retQ_ret_c tab 0 rfl rfl rfl rfl rfl (L':=L) uS ⟨(Mem.le_trans hm1 hm2),rfl, ?_⟩
      refine ⟨⟨0,[],0,0⟩,0,rfl, .inr ⟨?_,rfl⟩⟩
      rw [tokD,if_neg c1',if_pos c2,e1]
      simp only
      rw [if_pos (.inl (by omega))]
     ·skip
      refine uA ?_
      refine TO.step rfl (OT.call rfl rfl rfl rfl rfl rfl goes96 ((span_law _ _ (c :: r) (by omega) dgt 98 [] ⟨goes98,fun b=>digit_law _ _ b⟩).x ?_));
      rintro _ _ _ ⟨rfl,rfl,rfl⟩
      refine uA ?_
      refine TC.condN rfl (fun c4 => ?_) (fun c4 => ?_)
      ·skip
       refine uA ?_
       refine uT ?_
       refine uA ?_
       refine retQ_ret_c tab 0 rfl rfl rfl rfl rfl (L':=L) uS ⟨(Mem.le_trans hm1 hm2),rfl, ?_⟩
       refine ⟨⟨0,[],0,0⟩,0,rfl, .inr ⟨?_,rfl⟩⟩
       rw [tokD,if_neg c1',if_pos c2,e1]
       simp only
       rw [if_pos (.inr (by omega))]
      ·refine uA ?_
       refine uT ?_
       refine uA ?_
       refine retQ_ret_c tab 0 rfl rfl rfl rfl rfl (L':=L) uS ⟨Mem.le_trans hm1 hm2,rfl, ?_⟩
       refine ⟨⟨2,[],v,0⟩,spanOf lod (c :: r),rfl, .inl ?_⟩
       rw [tokD,if_neg c1',if_pos c2,e1]
       simp only
       rw [if_neg (by omega)]
    ·skip
     refine uA ?_
     refine TO.step rfl (OT.call rfl rfl rfl rfl rfl rfl goes96 ((span_law _ _ (c :: r) (by omega) dgt 98 [] ⟨goes98,fun b=>digit_law _ _ b⟩).x ?_));
     rintro _ _ _ ⟨rfl,rfl,rfl⟩
     refine uA ?_
     refine TC.condN rfl (fun c4 => ?_) (fun c4 => ?_)
     ·skip
      refine uA ?_
      refine uT ?_
      refine uA ?_
      refine retQ_ret_c tab 0 rfl rfl rfl rfl rfl (L':=L) uS ⟨(Mem.le_trans hm1 hm2),rfl, ?_⟩
      refine ⟨⟨0,[],0,0⟩,0,rfl, .inr ⟨?_,rfl⟩⟩
      rw [tokD,if_neg c1',if_pos c2,e1]
      simp only
      rw [if_pos (.inr (by omega))]
     ·refine uA ?_
      refine uT ?_
      refine uA ?_
      refine retQ_ret_c tab 0 rfl rfl rfl rfl rfl (L':=L) uS ⟨Mem.le_trans hm1 hm2,rfl, ?_⟩
      refine ⟨⟨2,[],v,0⟩,spanOf lod (c :: r),rfl, .inl ?_⟩
      rw [tokD,if_neg c1',if_pos c2,e1]
      simp only
      rw [if_neg (by omega)]
   ·refine uA ?_
    refine TO.step rfl (OT.errNe tab rfl rfl rfl rfl (.inr ⟨_,_,rfl⟩) rfl rfl ?_)
    refine uA ?_
    refine uT ?_
    refine uA ?_
    refine retQ_ret_c tab 0 rfl rfl rfl rfl rfl (L':=L) uS ⟨(Mem.le_trans hm1 hm2),rfl, ?_⟩
    refine ⟨⟨0,[],0,0⟩,0,rfl, .inr ⟨?_,rfl⟩⟩
    rw [tokD,if_neg c1',if_pos c2,e1]
  ·refine uA ?_
   refine TO.step rfl (OT.sidx tab 0 rfl rfl rfl rfl rfl rfl rfl hx ?_)
   refine uA ?_
   have c1' : ¬ ltr c=true:=by rw [c1];decide
   have c2' : ¬ dgt c=true:=by rw [c2];decide
   refine TC.condP rfl (fun c3 => ?_) (fun c3 => ?_)
   ·refine uA ?_
    refine TO.step rfl (OT.call rfl rfl rfl rfl rfl rfl goes108 ((literal_law _ _ (c :: r) h0 hl hE).x ?_));
    rintro _ m1 _ ⟨hm1,rfl,rfl⟩
    show TO _ _ _ _ ((_,litR (lit r)) :: _) _ _ _ _
    have hD : tokD (c :: r)=(match lit r with
     | none=>none
     | some (t,n)=>if 1024 < t.length then none else some (⟨3,t,0,0⟩,n + 1)):=by
     rw [tokD,if_neg c1',if_neg c2',if_pos (by omega)]
     try rfl
    rcases hlit : lit r with _ | ⟨t,n⟩
    ·rw [hlit] at hD
     show TO _ _ _ _ ((_, .tuple ⟨[strV [], .int .i64 0]⟩) :: _) _ _ _ _
     refine uA ?_
     refine uT ?_
     refine uA ?_
     refine retQ_ret_c tab 0 rfl rfl rfl rfl rfl (L':=L) uS ⟨hm1,rfl, ?_⟩
     refine ⟨⟨3,[],0,0⟩,0,rfl, .inr ⟨?_,rfl⟩⟩
     rw [hD]
    ·rw [hlit] at hD
     show TO _ _ _ _ ((_, .tuple ⟨[strV t, .int .i64 ((n + 1 : Nat) : Int)]⟩) :: _) _ _ _ _
     refine uA ?_
     refine TC.condP rfl (fun c4 => ?_) (fun c4 => ?_)
     ·refine uA ?_
      refine uT ?_
      refine uA ?_
      refine retQ_ret_c tab 0 rfl rfl rfl rfl rfl (L':=L) uS ⟨hm1,rfl, ?_⟩
      refine ⟨⟨3,t,0,0⟩,0,rfl, .inr ⟨?_,rfl⟩⟩
      rw [hD]
      simp only
      rw [if_pos (by omega)]
     ·refine uA ?_
      refine uT ?_
      refine uA ?_
      refine retQ_ret_c tab 0 rfl rfl rfl rfl rfl (L':=L) uS ⟨hm1,rfl, ?_⟩
      refine ⟨⟨3,t,0,0⟩,n + 1,rfl, .inl ?_⟩
      rw [hD]
      simp only
      rw [if_neg (by omega)]
   ·refine uA ?_
    refine TO.step rfl (OT.call rfl rfl rfl rfl rfl rfl goes109 ((marks_law _ _).x ?_));
    rintro _ m1 _ ⟨hm1,rfl,w,rfl,hw⟩
    refine uA ?_
    have hwl : w.len=27:=hw.len
    rw [hwl]
    have hD : tokD (c :: r)=(match markL.find? (fun p=>prefixB p (c :: r)) with
     | none=>none
     | some p=>some (⟨4,p,0,0⟩,p.length)):=by
     rw [tokD,if_neg c1',if_neg c2',if_neg (by omega)]
     try rfl
    refine TC.loopK (ι:=Nat) [0,2,84,85] rfl (fun k=>[(86, .int .i64 (k : Int))]) (fun _=>m1) (fun _ => .cells b2 0 (tokC ⟨0,[],0,0⟩) :: L) (fun k=>k ≤ 27∧markL.find? (fun p=>prefixB p (c :: r))=(markL.drop k).find? (fun p=>prefixB p (c :: r))) (fun k=>27 - k) 0 uH rfl uS ⟨Nat.zero_le _,rfl⟩ ?_
    rintro k ⟨hk,hI⟩
    have hml : markL.length=27:=rfl
    refine uA ?_
    refine TC.condP rfl (fun g1 => ?_) (fun g1 => ?_)
    ·have hlt : k < markL.length:=by omega
     have hx : markL[k]? = some markL[k]:=by simp [hlt]
     refine uA ?_
     refine TO.step rfl (OT.index tab rStr k hw rfl rfl rfl rfl rfl (by first | rfl | omega | (simp only;omega)) rfl hx ?_)
     rintro b i hd rfl hA
     (first | refine TO.step rfl (OT.loadA tab hA rfl rfl rfl rfl rfl ?_) | refine TO.step rfl (OT.loadA0 tab hA rfl rfl rfl rfl rfl ?_))
     refine uA ?_
     refine TO.step rfl (OT.call rfl rfl rfl rfl rfl rfl goes106 ((prefix_law _ _ (c :: r) markL[k]).x ?_));
     rintro _ _ _ ⟨rfl,rfl,rfl⟩
     refine uA ?_
     refine TC.cond rfl (fun g2 => ?_) (fun g2 => ?_)
     ·refine uA ?_
      refine uT ?_
      refine uA ?_
      refine retQ_ret_c tab 0 rfl rfl rfl rfl rfl (L':=L) uS ⟨hm1,rfl, ?_⟩
      refine ⟨⟨4,markL[k],0,0⟩,markL[k].length,rfl, .inl ?_⟩
      rw [hD,hI,List.drop_eq_getElem_cons hlt,List.find?_cons_of_pos (p:=fun p=>prefixB p (c :: r)) g2]
     ·refine uA ?_
      refine TO.step rfl (OT.arith (r':=((k + 1 : Nat) : Int)) rfl rfl rfl rfl rfl rfl rfl (by omega) ?_)
      refine uA ?_
      exact ⟨k + 1,uH,uH,rfl,rfl,uS,⟨by omega,by rw [hI,List.drop_eq_getElem_cons hlt,List.find?_cons_of_neg (p:=fun p=>prefixB p (c :: r)) (by show ¬ prefixB markL[k] (c :: r)=true;rw [g2];decide)]⟩,by omega⟩
    ·skip
     refine uA ?_
     refine uT ?_
     refine uA ?_
     refine retQ_ret_c tab 0 rfl rfl rfl rfl rfl (L':=L) uS ⟨hm1,rfl, ?_⟩
     refine ⟨⟨0,[],0,0⟩,0,rfl, .inr ⟨?_,rfl⟩⟩
     rw [hD,hI,List.drop_eq_nil_of_le (by omega)]
     rfl
end Go.Sep


/- ScScanW -/
set_option linter.unusedVariables false
set_option linter.unusedSimpArgs false
namespace Go.Sep
open Go.Proofs
attribute [local irreducible] TC TO OT TCallX TCall DO DOt thenQ blockQ retQ At
def rTok : R Tok Tok where
 size:=4
 bytes:=40
 enc t:=tokC t
 rep _ h a:=h=a
 enc_len _:=rfl
 one _:=rfl
 mono _ h:=h
def joinE (l : List Tok) : Except (Nat × Int) (List Tok)→Except (Nat × Int) (List Tok)
 | .error e => .error e
 | .ok l' => .ok (l++l')
def CutAt (s : Str) (at_ : Nat) (l : List Tok) (res : Except (Nat × Int) (List Tok)) : Prop := ∃ f,s.length < at_ + f∧res=joinE l (cutF f (s.drop at_) at_ l.length)
theorem CutAt.start (s : Str) : CutAt s 0 [] (cutF (s.length + 1) s 0 0):=by
 refine ⟨s.length + 1,by omega, ?_⟩
 rw [List.drop_zero]
 show _=joinE [] (cutF (s.length + 1) s 0 0)
 cases cutF (s.length + 1) s 0 0 <;> rfl
section
variable {s : Str} {a : Nat} {l : List Tok} {res : Except (Nat × Int) (List Tok)}
theorem CutAt.pos (h : CutAt s a l res) (ha : a ≤ s.length) : ∃ f,s.length < a + (f + 1)∧res=joinE l (cutF (f + 1) (s.drop a) a l.length):=by
 obtain ⟨f,h1,h2⟩:=h
 cases f with
 | zero=>omega
 | succ f=>exact ⟨f,h1,h2⟩
theorem CutAt.end_ (h : CutAt s a l res) (ha : a ≤ s.length) (hb : a + blk false (s.drop a)=s.length) : res = .ok l:=by
 obtain ⟨f,h1,h2⟩:=h.pos ha
 rw [h2,cutF,List.drop_drop,List.drop_eq_nil_of_le (by omega),if_pos rfl]
 simp [joinE]
theorem drop_ne {s : Str} {k : Nat} (h : k < s.length) : s.drop k ≠ []:=fun e=>by
 have:=congrArg List.length e
 simp at this
 omega
theorem CutAt.large (h : CutAt s a l res) (ha : a ≤ s.length) (hb : a + blk false (s.drop a) < s.length) (hl : l.length=20000) : res = .error (a + blk false (s.drop a),4):=by
 obtain ⟨f,h1,h2⟩:=h.pos ha
 rw [h2,cutF,List.drop_drop,if_neg (drop_ne hb),if_pos hl];rfl
theorem CutAt.text (h : CutAt s a l res) (ha : a ≤ s.length) (hb : a + blk false (s.drop a) < s.length) (hl : l.length ≠ 20000) (ht : tokD (s.drop (a + blk false (s.drop a)))=none) : res = .error (a + blk false (s.drop a),3):=by
 obtain ⟨f,h1,h2⟩:=h.pos ha
 rw [h2,cutF,List.drop_drop,if_neg (drop_ne hb),if_neg hl,ht];rfl
theorem CutAt.go (h : CutAt s a l res) (ha : a ≤ s.length) (hb : a + blk false (s.drop a) < s.length) (hl : l.length ≠ 20000) {t : Tok} {n : Nat} (ht : tokD (s.drop (a + blk false (s.drop a)))=some (t,n)) :
  CutAt s (a + blk false (s.drop a) + n) (l++[⟨t.kind,t.text,t.num,((a + blk false (s.drop a) : Nat) : Int)⟩]) res:=by
 obtain ⟨f,h1,h2⟩:=h.pos ha
 have hn:=(tokD_le ht).1
 refine ⟨f,by omega, ?_⟩
 rw [h2,cutF,List.drop_drop,if_neg (drop_ne hb),if_neg hl,ht]
 simp only [List.drop_drop,List.length_append,List.length_cons,List.length_nil]
 cases cutF f (s.drop (a + blk false (s.drop a) + n)) (a + blk false (s.drop a) + n) (l.length + 1) with
 | error e=>rfl
 | ok l'=>simp [joinE]
end
structure ScanS where
 m : Mem
 sl : Sl
 l : List Tok
 a : Nat
def ScanR (c : Cut) (r : Value) (m' : Mem) : Prop := ∃ sl : Sl,r = .tuple ⟨[sl.v, .int .i64 ((c.at_ : Nat) : Int), .int .i64 c.e]⟩ ∧ SlRep rTok m' sl c.list
set_option maxHeartbeats 1000000 in
theorem scan_law (m : Mem) (L : List Item) (s : Str) (hE : Errs m) : TCall Tryz.prog 29 ⟨[strV s]⟩ m L (Made m L fun r m'=>ScanR (scanD s) r m'):=by
 unfold TCall
 refine TCallX.enter Tryz.func29 rfl 44 rfl ?_
 refine uA ?_
 refine TC.condP rfl (fun c0 => ?_) (fun c0 => ?_)
 ·refine uA ?_
  refine retQ_ret rfl uS ⟨Mem.le_refl _,rfl, ?_⟩
  rw [scanD,if_pos (by omega)]
  exact ⟨⟨none,0,0⟩,rfl,SlRep.nil _ _⟩
 have hl : s.length ≤ 65536:=by omega
 have hD : scanD s = .of (cutF (s.length + 1) s 0 0):=by rw [scanD,if_neg (by omega)]
 refine uA ?_
 refine TC.grow0 (size:=4) ?_
 refine TC.loopK (ι:=ScanS) [0] rfl (fun x=>[(2,x.sl.v),(3, .int .i64 (x.a : Int))]) (fun x=>x.m) (fun x=>tok x.sl 4 :: L) (fun x=>m ≤ x.m∧x.a ≤ s.length∧SlRep rTok x.m x.sl x.l∧Own x.sl∧x.l.length ≤ 20000∧CutAt s x.a x.l (cutF (s.length + 1) s 0 0)) (fun x=>s.length - x.a) ⟨m,⟨none,0,0⟩,[],0⟩ uH rfl uS ⟨Mem.le_refl _,Nat.zero_le _,SlRep.nil _ _,Own.nil,Nat.zero_le _,CutAt.start s⟩ ?_
 rintro ⟨m1,sl,l,a⟩ ⟨hm,ha,hsl,hown,hll,hI⟩
 replace hm : m ≤ m1:=hm
 replace ha : a ≤ s.length:=ha
 replace hsl : SlRep rTok m1 sl l:=hsl
 replace hown : Own sl:=hown
 replace hll : l.length ≤ 20000:=hll
 replace hI : CutAt s a l (cutF (s.length + 1) s 0 0):=hI
 show TC _ _ _ ((2,sl.v) :: (3, .int .i64 (a : Int)) :: _) _ m1 (tok sl 4 :: L) _
 have hlen:=hsl.len
 have hb:=blk_le false (s.drop a)
 rw [List.length_drop] at hb
 refine uA ?_
 refine TO.step rfl (OT.sub tab a s.length rfl rfl rfl rfl rfl rfl rfl (.inr rfl) (.inl ⟨rfl,rfl⟩) (by omega) (by omega) ?_)
 rw [List.take_length]
 refine TO.step rfl (OT.call rfl rfl rfl rfl rfl rfl goes59 ((blank_law _ _ (s.drop a) (by rw [List.length_drop];omega)).x ?_));
 rintro _ _ _ ⟨rfl,rfl,rfl⟩
 refine uA ?_
 refine TO.step rfl (OT.arith (r':=((a + blk false (s.drop a) : Nat) : Int)) rfl rfl rfl rfl rfl rfl rfl (by omega) ?_)
 refine uA ?_
 refine TC.condP rfl (fun c1 => ?_) (fun c1 => ?_)
 ·refine uA ?_
  refine retQ_ret rfl uS ⟨hm,rfl, ?_⟩
  rw [hD,hI.end_ ha (by omega)]
  exact ⟨sl,rfl,hsl⟩
 refine uA ?_
 refine TC.condP rfl (fun c2 => ?_) (fun c2 => ?_)
 ·refine uA ?_
  refine retQ_ret rfl uS ⟨hm,rfl, ?_⟩
  rw [hD,hI.large ha (by omega) (by omega)]
  exact ⟨⟨none,0,0⟩,rfl,SlRep.nil _ _⟩
 refine uA ?_
 refine TO.step rfl (OT.sub tab (a + blk false (s.drop a)) s.length rfl rfl rfl rfl rfl rfl rfl (.inr rfl) (.inl ⟨rfl,rfl⟩) (by omega) (by omega) ?_)
 rw [List.take_length]
 refine TO.step rfl (OT.call rfl rfl rfl rfl rfl rfl goes60 ((next_law _ _ (s.drop (a + blk false (s.drop a))) (by rw [List.length_drop];omega) (by rw [List.length_drop];omega) (hE.mono hm)).x ?_));
 rintro _ m2 _ ⟨hm2,rfl,t,n,rfl,hn⟩
 refine uA ?_
 refine TO.step rfl (OT.alloc tab rfl rfl rfl rfl (fun b5 => ?_))
 refine uA ?_
 refine uT ?_
 refine uA ?_
 rcases hn with hn | ⟨hn,rfl⟩
 ·have hnl:=tokD_le hn
  rw [List.length_drop] at hnl
  refine TC.condP rfl (fun c3 => ?_) (fun c3 => ?_)
  ·omega
  refine uA ?_
  refine uT ?_
  refine uA ?_
  refine uM ?_
  refine uA ?_
  refine TO.step rfl (OT.lit tab rfl rfl rfl rfl (fun b => ?_))
  refine TO.step rfl (OT.append1 tab rTok 1 (hd':=⟨t.kind,t.text,t.num,((a + blk false (s.drop a) : Nat) : Int)⟩) (a:=⟨t.kind,t.text,t.num,((a + blk false (s.drop a) : Nat) : Int)⟩) (hsl.mono hm2) hown rfl rfl rfl rfl rfl rfl rfl rfl (by show (l.length + 1) * 40 ≤ _;omega) (fun s' m3 hm3 hs3 ho3 => ?_))
  refine uA ?_
  refine TO.step rfl (OT.arith (r':=((a + blk false (s.drop a) + n : Nat) : Int)) rfl rfl rfl rfl rfl rfl rfl (by omega) ?_)
  refine uA ?_
  exact ⟨⟨m3,s',l++[⟨t.kind,t.text,t.num,((a + blk false (s.drop a) : Nat) : Int)⟩],a + blk false (s.drop a) + n⟩,uH,uH,rfl,rfl,uS,⟨Mem.le_trans hm (Mem.le_trans hm2 hm3),by show _ + n ≤ _;omega,hs3,ho3,by show (l++[_]).length ≤ _;rw [List.length_append];simp only [List.length_cons,List.length_nil];omega,hI.go ha (by omega) (by omega) hn⟩,by show s.length - (_ + n) < s.length - a;omega⟩
 ·refine uA ?_
  refine retQ_ret rfl uS ⟨Mem.le_trans hm hm2,rfl, ?_⟩
  rw [hD,hI.text ha (by omega) (by omega) hn]
  exact ⟨⟨none,0,0⟩,rfl,SlRep.nil _ _⟩
end Go.Sep


/- ScAhead -/
set_option linter.unusedVariables false
set_option linter.unusedSimpArgs false
namespace Go.Sep
theorem blk_take : ∀ (b : Bool) (r : Str) (j : Nat),blk b r ≤ j→blk b (r.take j)=blk b r
 | _,[],j,_=>by simp [blk]
 | true,c :: r,0,h=>by
  rw [blk] at h
  split at h <;> omega
 | true,c :: r,j + 1,h=>by
  rw [List.take_succ_cons,blk,blk]
  rw [blk] at h
  split at h
  ·rename_i hc
   rw [if_pos hc,if_pos hc,blk_take false r j (by omega)]
  ·rename_i hc
   rw [if_neg hc,if_neg hc,blk_take true r j (by omega)]
 | false,c :: r,0,h=>by
  have : blk false (c :: r)=0:=by omega
  rw [this];rfl
 | false,c :: r,j + 1,h=>by
  rw [List.take_succ_cons,blk,blk]
  rw [blk] at h
  split at h
  ·rename_i hc
   rw [if_pos hc,if_pos hc,blk_take false r j (by omega)]
  ·rename_i hc
   rw [if_neg hc,if_neg hc]
   split at h
   ·rename_i h2
    have hj : 1 ≤ j:=by
     cases r with
     | nil=>cases h2.2
     | cons x r =>
      have hx : x=47:=by have:=h2.2;simpa using this
      subst hx
      rw [blk,if_neg (by decide)] at h
      omega
    have hh : (r.take j).head? = r.head?:=by
     cases r with
     | nil=>simp
     | cons x r =>
      obtain ⟨i,rfl⟩ : ∃ i,j=i + 1:=⟨j - 1,by omega⟩
      simp
    rw [hh,if_pos h2,if_pos h2,blk_take true r j (by omega)]
   ·rename_i h2
    rw [if_neg h2,if_neg]
    rintro ⟨h3,h4⟩
    refine h2 ⟨h3, ?_⟩
    cases j with
    | zero=>simp at h4
    | succ i =>
     cases r with
     | nil=>simp at h4
     | cons x r=>simpa using h4
theorem takeWhile_take (p : UInt8→Bool) : ∀ (s : Str) (j : Nat),(s.takeWhile p).length ≤ j→((s.take j).takeWhile p).length=(s.takeWhile p).length
 | [],j,_=>by simp
 | c :: r,0,h=>by
  rw [List.takeWhile_cons] at h ⊢
  split at h
  ·simp at h
  ·rename_i hc
   rw [if_neg hc];rfl
 | c :: r,j + 1,h=>by
  rw [List.take_succ_cons,List.takeWhile_cons,List.takeWhile_cons]
  rw [List.takeWhile_cons] at h
  split
  ·rename_i hc
   rw [if_pos hc] at h
   simp only [List.length_cons] at h ⊢
   rw [takeWhile_take p r j (by omega)]
  ·rfl
theorem span_take {p : UInt8→Bool} {s : Str} {j : Nat} (h : spanOf p s ≤ j) : spanOf p (s.take j)=spanOf p s:=takeWhile_take p s j h
theorem escX_take {r : Str} {b : UInt8} {n j : Nat} (h : escX r=some (b,n)) (hj : n ≤ j + 1) : escX (r.take j)=some (b,n):=by
 match r,h with
 | x :: y :: r',h =>
  have h' : (hexB x y).map (fun z=>(z,3))=some (b,n):=h
  have hn : n=3:=by
   cases hx : hexB x y with
   | none=>rw [hx] at h';cases h'
   | some z=>rw [hx] at h';cases h';rfl
  obtain ⟨i,rfl⟩ : ∃ i,j=i + 2:=⟨j - 2,by omega⟩
  exact h
theorem escB_take {r : Str} {b : UInt8} {n j : Nat} (h : escB r=some (b,n)) (hj : n ≤ j) : escB (r.take j)=some (b,n):=by
 have hp:=escB_pos h
 cases r with
 | nil=>cases h
 | cons c r =>
  obtain ⟨i,rfl⟩ : ∃ i,j=i + 1:=⟨j - 1,by omega⟩
  rw [List.take_succ_cons]
  rw [escB] at h ⊢
  by_cases h1 : c.toNat=110
  ·rw [if_pos h1] at h ⊢;exact h
  ·rw [if_neg h1] at h ⊢
   by_cases h2 : c.toNat=116
   ·rw [if_pos h2] at h ⊢;exact h
   ·rw [if_neg h2] at h ⊢
    by_cases h3 : c.toNat=34 ∨ c.toNat=92
    ·rw [if_pos h3] at h ⊢;exact h
    ·rw [if_neg h3] at h ⊢
     by_cases h4 : c.toNat=120
     ·rw [if_pos h4] at h ⊢;exact escX_take h hj
     ·rw [if_neg h4] at h;cases h
theorem lit_take : ∀ (N : Nat) (r t : Str) (n j : Nat),r.length < N→lit r=some (t,n)→n ≤ j→lit (r.take j)=some (t,n)
 | 0,_,_,_,_,h,_,_=>by omega
 | N + 1,[],_,_,_,_,h,_=>by cases h
 | N + 1,c :: r,t,n,j,hN,h,hj=>by
  have hp:=lit_le h
  simp only [List.length_cons] at hN
  obtain ⟨i,rfl⟩ : ∃ i,j=i + 1:=⟨j - 1,by omega⟩
  rw [List.take_succ_cons]
  by_cases h1 : c.toNat=34
  ·rw [lit_quote h1] at h ⊢;exact h
  by_cases h2 : c.toNat=10
  ·rw [lit_nl h2] at h;cases h
  by_cases h3 : c.toNat=92
  ·cases he : escB r with
   | none=>rw [lit_esc_none h3 he] at h;cases h
   | some p =>
    obtain ⟨b,k⟩:=p
    rw [lit_esc_some h3 he] at h
    cases hl : lit (r.drop k) with
    | none=>rw [hl] at h;cases h
    | some q =>
     obtain ⟨t',n'⟩:=q
     rw [hl] at h
     simp only [Option.map_some,Option.some.injEq,Prod.mk.injEq] at h
     have hk:=escB_pos he
     have he':=escB_take (j:=i) he (by omega)
     rw [lit_esc_some h3 he',List.drop_take,lit_take N (r.drop k) t' n' (i - k) (by rw [List.length_drop];omega) hl (by omega)]
     simp only [Option.map_some,Option.some.injEq,Prod.mk.injEq]
     exact h
  ·cases hl : lit r with
   | none=>rw [lit_one h1 h2 h3,hl] at h;cases h
   | some q =>
    obtain ⟨t',n'⟩:=q
    rw [lit_one h1 h2 h3,hl] at h
    simp only [Option.map_some,Option.some.injEq,Prod.mk.injEq] at h
    rw [lit_one h1 h2 h3,lit_take N r t' n' i (by omega) hl (by omega)]
    simp only [Option.map_some,Option.some.injEq,Prod.mk.injEq]
    exact h
theorem prefixB_iff {p s : Str} : prefixB p s=true ↔ p.length ≤ s.length∧s.take p.length=p:=by
 unfold prefixB
 rw [Bool.and_eq_true,decide_eq_true_iff,decide_eq_true_iff]
theorem find_take {s p : Str} {j : Nat} (hj : p.length ≤ j) : ∀ l : List Str,l.find? (fun q=>prefixB q s)=some p→l.find? (fun q=>prefixB q (s.take j))=some p
 | [],h=>by cases h
 | q :: l,h=>by
  by_cases hq : prefixB q s=true
  ·rw [List.find?_cons_of_pos (p:=fun q=>prefixB q s) hq] at h
   cases h
   refine List.find?_cons_of_pos (p:=fun q=>prefixB q (s.take j)) (prefixB_iff.2 ?_)
   obtain ⟨h1,h2⟩:=prefixB_iff.1 hq
   refine ⟨by rw [List.length_take];omega, ?_⟩
   rw [List.take_take,Nat.min_eq_left hj];exact h2
  ·rw [List.find?_cons_of_neg (p:=fun q=>prefixB q s) hq] at h
   rw [List.find?_cons_of_neg (p:=fun q=>prefixB q (s.take j))]
   ·exact find_take hj l h
   ·intro h3
    obtain ⟨h1,h2⟩:=prefixB_iff.1 h3
    rw [List.length_take] at h1
    rw [List.take_take,Nat.min_eq_left (by omega)] at h2
    exact hq (prefixB_iff.2 ⟨by omega,h2⟩)
theorem tokD_take {s : Str} {t : Tok} {n j : Nat} (h : tokD s=some (t,n)) (hj : n ≤ j) : tokD (s.take j)=some (t,n):=by
 have hp:=tokD_le h
 cases s with
 | nil=>cases h
 | cons c r =>
  obtain ⟨i,rfl⟩ : ∃ i,j=i + 1:=⟨j - 1,by omega⟩
  have hts : (c :: r).take (i + 1)=c :: r.take i:=rfl
  by_cases h1 : ltr c=true
  ·have hn : n=spanOf lod (c :: r):=by
    rw [tokD,if_pos h1] at h
    split at h
    ·cases h
    ·cases h;rfl
   have hsp : spanOf lod ((c :: r).take (i + 1))=spanOf lod (c :: r):=span_take (by omega)
   have htt : ((c :: r).take (i + 1)).take (spanOf lod (c :: r))=(c :: r).take (spanOf lod (c :: r)):=by rw [List.take_take,Nat.min_eq_left (by omega)]
   rw [hts] at hsp htt ⊢
   rw [tokD,if_pos h1] at h ⊢
   rw [hsp,htt];exact h
  ·by_cases h2 : dgt c=true
   ·have hn : n=spanOf lod (c :: r)∧spanOf dgt (c :: r)=spanOf lod (c :: r):=by
     rw [tokD,if_neg h1,if_pos h2] at h
     split at h
     ·cases h
     ·split at h
      ·cases h
      ·rename_i h3
       cases h;exact ⟨rfl,by omega⟩
    have hsp : spanOf lod ((c :: r).take (i + 1))=spanOf lod (c :: r):=span_take (by omega)
    have hsd : spanOf dgt ((c :: r).take (i + 1))=spanOf dgt (c :: r):=span_take (by omega)
    have htt : ((c :: r).take (i + 1)).take (spanOf lod (c :: r))=(c :: r).take (spanOf lod (c :: r)):=by rw [List.take_take,Nat.min_eq_left (by omega)]
    rw [hts] at hsp hsd htt ⊢
    rw [tokD,if_neg h1,if_pos h2] at h ⊢
    rw [hsp,hsd,htt];exact h
   ·by_cases h3 : c.toNat=34
    ·rw [hts]
     rw [tokD,if_neg h1,if_neg h2,if_pos h3] at h ⊢
     cases hl : lit r with
     | none=>rw [hl] at h;cases h
     | some q =>
      obtain ⟨t',n'⟩:=q
      rw [hl] at h
      simp only at h
      have hn : n=n' + 1:=by
       split at h
       ·cases h
       ·cases h;rfl
      rw [lit_take (r.length + 1) r t' n' i (by omega) hl (by omega)]
      exact h
    ·rw [tokD,if_neg h1,if_neg h2,if_neg h3] at h
     cases hf : markL.find? (fun p=>prefixB p (c :: r)) with
     | none=>rw [hf] at h;cases h
     | some p =>
      rw [hf] at h
      have hn : n=p.length:=by cases h;rfl
      have:=find_take (s:=c :: r) (p:=p) (j:=i + 1) (by omega) markL hf
      rw [hts] at this ⊢
      rw [tokD,if_neg h1,if_neg h2,if_neg h3,this]
      exact h
theorem cutF_take : ∀ (f : Nat) (r : Str) (at_ k a : Nat),cutF f r at_ k = .error (a,3)→r.length < f→at_ ≤ a∧a - at_ < r.length ∧ ∀ g,a - at_ < g → ∃ l,cutF g (r.take (a - at_)) at_ k = .ok l
 | 0,r,at_,k,a,h,hf=>by omega
 | f + 1,r,at_,k,a,h,hf=>by
  have hb:=blk_le false r
  rw [cutF] at h
  by_cases h1 : r.drop (blk false r)=[]
  ·rw [if_pos h1] at h;cases h
  ·rw [if_neg h1] at h
   have hlt : blk false r < r.length:=by
    refine Nat.lt_of_not_le fun hge=>h1 (List.drop_eq_nil_of_le hge)
   by_cases h2 : k=20000
   ·rw [if_pos h2] at h
    cases h
   ·rw [if_neg h2] at h
    cases ht : tokD (r.drop (blk false r)) with
    | none =>
     rw [ht] at h
     simp only [Except.error.injEq,Prod.mk.injEq,and_true] at h
     subst h
     refine ⟨by omega,by omega,fun g hg => ?_⟩
     rw [show at_ + blk false r - at_=blk false r by omega]
     cases g with
     | zero=>omega
     | succ g =>
      refine ⟨[], ?_⟩
      rw [cutF,blk_take false r _ (Nat.le_refl _),List.drop_eq_nil_of_le (by rw [List.length_take];omega),if_pos rfl]
    | some p =>
     obtain ⟨t,n⟩:=p
     rw [ht] at h
     simp only at h
     have hn:=tokD_le ht
     rw [List.length_drop] at hn
     cases hc : cutF f ((r.drop (blk false r)).drop n) (at_ + blk false r + n) (k + 1) with
     | ok l=>rw [hc] at h;cases h
     | error e =>
      rw [hc] at h
      simp only [Except.error.injEq] at h
      subst h
      obtain ⟨g1,g2,g3⟩:=cutF_take f _ _ _ _ hc (by rw [List.length_drop,List.length_drop];omega)
      rw [List.length_drop,List.length_drop] at g2
      refine ⟨by omega,by omega,fun g hg => ?_⟩
      cases g with
      | zero=>omega
      | succ g =>
       have hd : (r.take (a - at_)).drop (blk false r)=(r.drop (blk false r)).take (a - at_ - blk false r):=List.drop_take ..
       obtain ⟨l,hl⟩:=g3 g (by omega)
       have ht':=tokD_take (j:=a - at_ - blk false r) ht (by omega)
       refine ⟨⟨t.kind,t.text,t.num,((at_ + blk false r : Nat) : Int)⟩ :: l, ?_⟩
       rw [cutF,blk_take false r _ (by omega),hd,if_neg,if_neg h2,ht']
       ·simp only
        rw [List.drop_take,show a - at_ - blk false r - n=a - (at_ + blk false r + n) by omega,hl]
       ·intro e
        rw [e] at ht'
        cases ht'
end Go.Sep


/- ScQuote -/
set_option linter.unusedVariables false
set_option linter.unusedSimpArgs false
namespace Go.Sep
open Go.Proofs
attribute [local irreducible] TC TO OT TCallX TCall DO DOt thenQ blockQ retQ At
def hexD (n : Nat) : UInt8:=UInt8.ofNat (if n < 10 then 48 + n else 87 + n)
def quoteC (c : UInt8) : Str :=
 if c.toNat=10 then [92,110] else if c.toNat=9 then [92,116] else if c.toNat=34 ∨ c.toNat=92 then [92,c]
 else if 32 ≤ c.toNat∧c.toNat ≤ 126 then [c] else [92,120,hexD (c.toNat / 16),hexD (c.toNat % 16)]
def quoteB (s : Str) : Str:=s.flatMap quoteC
def quoteD (s : Str) : Str:=34 :: (quoteB s++[34])
theorem qc_nl {c : UInt8} (h : c.toNat=10) : quoteC c=[92,110]:=by rw [quoteC,if_pos h]
theorem qc_tab {c : UInt8} (h : c.toNat=9) : quoteC c=[92,116]:=by rw [quoteC,if_neg (by omega),if_pos h]
theorem qc_self {c : UInt8} (h : c.toNat=34 ∨ c.toNat=92) : quoteC c=[92,c]:=by rw [quoteC,if_neg (by omega),if_neg (by omega),if_pos h]
theorem qc_one {c : UInt8} (h1 : c.toNat ≠ 34) (h2 : c.toNat ≠ 92) (h3 : 32 ≤ c.toNat) (h4 : c.toNat ≤ 126) : quoteC c=[c]:=by rw [quoteC,if_neg (by omega),if_neg (by omega),if_neg (by omega),if_pos ⟨h3,h4⟩]
theorem qc_hex {c : UInt8} (h1 : c.toNat ≠ 10) (h2 : c.toNat ≠ 9) (h : c.toNat < 32 ∨ 126 < c.toNat) : quoteC c=[92,120,hexD (c.toNat / 16),hexD (c.toNat % 16)]:=by rw [quoteC,if_neg h1,if_neg h2,if_neg (by omega),if_neg (by omega)]
structure QuoS where
 m : Mem
 sl : Sl
 i : Nat
 acc : Str
end Go.Sep


/- ScPlain -/
set_option linter.unusedVariables false
set_option linter.unusedSimpArgs false
namespace Go.Sep
theorem hexB_all : ∀ n : Fin 256,hexB (hexD (n.val / 16)) (hexD (n.val % 16))=some (UInt8.ofNat n.val):=by decide +kernel
theorem hexB_hexD (c : UInt8) : hexB (hexD (c.toNat / 16)) (hexD (c.toNat % 16))=some c:=by
 have:=hexB_all ⟨c.toNat,c.toNat_lt⟩
 simpa using this
theorem lit_quoteC (c : UInt8) (r : Str) : lit (quoteC c++r)=(lit r).map fun p=>(c :: p.1,p.2 + (quoteC c).length):=by
 by_cases h1 : c.toNat=10
 ·have hc : c=10:=UInt8.toNat_inj.1 h1
  rw [qc_nl h1,hc]
  exact (lit_esc_some (c:=92) rfl (esc_n (r:=r) rfl))
 by_cases h2 : c.toNat=9
 ·have hc : c=9:=UInt8.toNat_inj.1 h2
  rw [qc_tab h2,hc]
  exact (lit_esc_some (c:=92) rfl (esc_t (r:=r) rfl))
 by_cases h3 : c.toNat=34 ∨ c.toNat=92
 ·rw [qc_self h3]
  exact (lit_esc_some (c:=92) rfl (esc_self (r:=r) h3))
 by_cases h4 : 32 ≤ c.toNat∧c.toNat ≤ 126
 ·rw [qc_one (by omega) (by omega) h4.1 h4.2]
  exact lit_one (by omega) h1 (by omega)
 ·rw [qc_hex h1 h2 (by omega)]
  have he : escB (120 :: hexD (c.toNat / 16) :: hexD (c.toNat % 16) :: r)=some (c,3):=by rw [esc_x rfl,hexB_hexD];rfl
  exact lit_esc_some (c:=92) rfl he
theorem lit_quoteB : ∀ (s r : Str),lit (quoteB s++34 :: r)=some (s,(quoteB s).length + 1)
 | [],r=>by rw [quoteB,List.flatMap_nil,List.nil_append,lit_quote rfl];rfl
 | c :: s,r=>by
  have hq : quoteB (c :: s)=quoteC c++quoteB s:=by unfold quoteB;rw [List.flatMap_cons]
  rw [hq,List.append_assoc,lit_quoteC,lit_quoteB s r]
  simp
  omega
theorem tokD_str {r t : Str} {n : Nat} (h : lit r=some (t,n)) : tokD (34 :: r)=if 1024 < t.length then none else some (⟨3,t,0,0⟩,n + 1):=by
 have h1 : ¬ ltr 34=true:=by decide
 have h2 : ¬ dgt 34=true:=by decide
 rw [tokD,if_neg h1,if_neg h2,if_pos (by decide),h]
theorem quoteD_len (s : Str) : (quoteD s).length=(quoteB s).length + 2:=by simp [quoteD]
theorem blk_34 (r : Str) : blk false (34 :: r)=0:=by
 rw [blk,if_neg (by decide),if_neg (by intro h;exact absurd h.1 (by decide))]
end Go.Sep


/- ScPlain2 -/
set_option linter.unusedVariables false
set_option linter.unusedSimpArgs false
namespace Go.Sep
theorem cutF_ok : ∀ (f : Nat) (r : Str) (at_ k : Nat) (l : List Tok),cutF f r at_ k = .ok l→r.length < f→k ≤ 20000→l.length + k ≤ 20000∧(∀ t ∈ l,(at_ : Int) ≤ t.at_∧t.at_ < at_ + r.length)∧l.Pairwise (fun a b=>a.at_ < b.at_)
 | 0,r,at_,k,l,h,hf,hk=>by omega
 | f + 1,r,at_,k,l,h,hf,hk=>by
  have hb:=blk_le false r
  rw [cutF] at h
  by_cases h1 : r.drop (blk false r)=[]
  ·rw [if_pos h1] at h
   cases h
   exact ⟨by simpa using hk,by simp,List.Pairwise.nil⟩
  ·rw [if_neg h1] at h
   have hlt : blk false r < r.length:=Nat.lt_of_not_le fun hge=>h1 (List.drop_eq_nil_of_le hge)
   by_cases h2 : k=20000
   ·rw [if_pos h2] at h;cases h
   ·rw [if_neg h2] at h
    cases ht : tokD (r.drop (blk false r)) with
    | none=>rw [ht] at h;cases h
    | some p =>
     obtain ⟨t,n⟩:=p
     rw [ht] at h
     simp only at h
     have hn:=tokD_le ht
     rw [List.length_drop] at hn
     cases hc : cutF f ((r.drop (blk false r)).drop n) (at_ + blk false r + n) (k + 1) with
     | error e=>rw [hc] at h;cases h
     | ok l' =>
      rw [hc] at h
      cases h
      obtain ⟨g1,g2,g3⟩:=cutF_ok f _ _ _ _ hc (by rw [List.length_drop,List.length_drop];omega) (by omega)
      have g2' : ∀ t ∈ l',((at_ + blk false r + n : Nat) : Int) ≤ t.at_∧t.at_ < at_ + r.length:=fun t ht=>by
       have:=g2 t ht
       rw [List.length_drop,List.length_drop] at this
       omega
      refine ⟨by simp only [List.length_cons];omega,fun t' ht' => ?_,List.pairwise_cons.2 ⟨fun t' ht' => ?_,g3⟩⟩
      ·rcases List.mem_cons.1 ht' with rfl | ht'
       ·simp only;omega
       ·have:=g2' t' ht';omega
      ·have:=g2' t' ht'
       simp only;omega
theorem cutF_err : ∀ (f : Nat) (r : Str) (at_ k a : Nat) (e : Int),cutF f r at_ k = .error (a,e)→r.length < f→at_ ≤ a∧a < at_ + r.length∧(e=3 ∨ e=4)
 | 0,r,at_,k,a,e,h,hf=>by omega
 | f + 1,r,at_,k,a,e,h,hf=>by
  have hb:=blk_le false r
  rw [cutF] at h
  by_cases h1 : r.drop (blk false r)=[]
  ·rw [if_pos h1] at h;cases h
  ·rw [if_neg h1] at h
   have hlt : blk false r < r.length:=Nat.lt_of_not_le fun hge=>h1 (List.drop_eq_nil_of_le hge)
   by_cases h2 : k=20000
   ·rw [if_pos h2] at h
    simp only [Except.error.injEq,Prod.mk.injEq] at h
    omega
   ·rw [if_neg h2] at h
    cases ht : tokD (r.drop (blk false r)) with
    | none =>
     rw [ht] at h
     simp only [Except.error.injEq,Prod.mk.injEq] at h
     omega
    | some p =>
     obtain ⟨t,n⟩:=p
     rw [ht] at h
     simp only at h
     have hn:=tokD_le ht
     rw [List.length_drop] at hn
     cases hc : cutF f ((r.drop (blk false r)).drop n) (at_ + blk false r + n) (k + 1) with
     | ok l=>rw [hc] at h;cases h
     | error e' =>
      rw [hc] at h
      simp only [Except.error.injEq] at h
      subst h
      have:=cutF_err f _ _ _ _ _ hc (by rw [List.length_drop,List.length_drop];omega)
      rw [List.length_drop,List.length_drop] at this
      omega
theorem scanD_cases (s : Str) : (65536 < s.length∧scanD s = ⟨[],0,13⟩) ∨
  (s.length ≤ 65536 ∧ ∃ l : List Tok,scanD s = ⟨l,0,0⟩ ∧ cutF (s.length + 1) s 0 0 = .ok l∧l.length ≤ 20000∧(∀ t ∈ l,0 ≤ t.at_∧t.at_ < s.length)∧l.Pairwise (fun a b=>a.at_ < b.at_)) ∨
  (s.length ≤ 65536 ∧ ∃ a e,scanD s = ⟨[],a,e⟩ ∧ a < s.length∧(e=4 ∨ (e=3∧(scanD (s.take a)).e=0))):=by
 by_cases hl : 65536 < s.length
 ·exact .inl ⟨hl,by rw [scanD,if_pos hl]⟩
 ·refine .inr ?_
  have hs : scanD s = .of (cutF (s.length + 1) s 0 0):=by rw [scanD,if_neg hl]
  cases hc : cutF (s.length + 1) s 0 0 with
  | ok l =>
   obtain ⟨h1,h2,h3⟩:=cutF_ok _ _ _ _ _ hc (by omega) (by omega)
   refine .inl ⟨by omega,l,by rw [hs,hc];rfl,rfl,by omega,fun t ht => ?_,h3⟩
   have:=h2 t ht
   omega
  | error x =>
   obtain ⟨a,e⟩:=x
   obtain ⟨h1,h2,h3⟩:=cutF_err _ _ _ _ _ _ hc (by omega)
   refine .inr ⟨by omega,a,e,by rw [hs,hc];rfl,by omega, ?_⟩
   rcases h3 with rfl | rfl
   ·refine .inr ⟨rfl, ?_⟩
    obtain ⟨_,_,h4⟩:=cutF_take _ _ _ _ _ hc (by omega)
    obtain ⟨l,hl2⟩:=h4 (a + 1) (by omega)
    rw [Nat.sub_zero] at hl2
    rw [scanD,if_neg (by rw [List.length_take];omega),show (s.take a).length=a by rw [List.length_take];omega,hl2]
    rfl
   ·exact .inl rfl
theorem scanD_len (s : Str) : (scanD s).list.length ≤ 20000:=by
 rcases scanD_cases s with ⟨_,h⟩ | ⟨_,l,h,_,h2,_⟩ | ⟨_,a,e,h,_⟩
 ·rw [h];exact Nat.zero_le _
 ·rw [h];exact h2
 ·rw [h];exact Nat.zero_le _
end Go.Sep


/- ScPlain3 -/
set_option linter.unusedVariables false
set_option linter.unusedSimpArgs false
namespace Go.Sep
def valN : Str→Nat→Nat
 | [],a=>a
 | c :: r,a=>valN r (a * 10 + (c.toNat - 48))
theorem valN_ge : ∀ (s : Str) (a : Nat),a ≤ valN s a
 | [],a=>Nat.le_refl _
 | c :: r,a=>by
  have:=valN_ge r (a * 10 + (c.toNat - 48))
  rw [valN];omega
theorem dgt_le {c : UInt8} (h : dgt c=true) : 48 ≤ c.toNat∧c.toNat ≤ 57:=of_decide_eq_true h
theorem dv_dgt {c : UInt8} (h : dgt c=true) : dv c=some (c.toNat - 48):=dv_dig (dgt_le h).1 (dgt_le h).2
theorem pU_val : ∀ (s : Str) (a : Nat),s.all dgt=true→valN s a ≤ 18446744073709551615→pU 10 18446744073709551615 s a=some (valN s a)
 | [],a,_,_=>rfl
 | c :: r,a,h,hv=>by
  rw [List.all_cons,Bool.and_eq_true] at h
  have hc:=dgt_le h.1
  rw [valN] at hv
  have:=valN_ge r (a * 10 + (c.toNat - 48))
  rw [pU,dv_dgt h.1]
  simp only
  rw [if_pos ⟨by omega,by omega⟩,pU_val r _ h.2 hv,valN]
theorem numOf_val {s : Str} (h : s.all dgt=true) (hv : valN s 0 < 9223372036854775808) : numOf s=some (valN s 0):=by
 rw [numOf,pU_val s 0 h (by omega)]
 simp only
 rw [if_pos hv]
theorem dgt_lod {c : UInt8} (h : dgt c=true) : lod c=true:=by unfold lod;rw [h];simp
theorem dgt_nltr {c : UInt8} (h : dgt c=true) : ¬ ltr c=true:=by rw [dgt_ltr,h];simp
theorem all_dgt_lod {s : Str} (h : s.all dgt=true) : s.all lod=true:=List.all_eq_true.2 fun x hx=>dgt_lod (List.all_eq_true.1 h x hx)
theorem takeWhile_app {p : UInt8→Bool} : ∀ (s r : Str),s.all p=true→(s++r).takeWhile p=s++r.takeWhile p
 | [],r,_=>rfl
 | c :: s,r,h=>by
  rw [List.all_cons,Bool.and_eq_true] at h
  rw [List.cons_append,List.takeWhile_cons,if_pos h.1,takeWhile_app s r h.2];rfl
theorem span_app {p : UInt8→Bool} {s r : Str} (h : s.all p=true) : spanOf p (s++r)=s.length + spanOf p r:=by
 unfold spanOf
 rw [takeWhile_app s r h,List.length_append]
theorem span_stop {p : UInt8→Bool} {c : UInt8} {r : Str} (h : p c=false) : spanOf p (c :: r)=0:=by
 unfold spanOf
 rw [List.takeWhile_cons,if_neg (by rw [h];decide)];rfl
structure Dec (s : Str) (n : Nat) : Prop where
 pos : s ≠ []
 dig : s.all dgt=true
 val : valN s 0=n
 lead : s.head? ≠ some 48 ∨ s.length=1
theorem tok_num {s : Str} {n : Nat} {c : UInt8} {r : Str} (h : Dec s n) (hn : n < 9223372036854775808) (hc : lod c=false) : tokD (s++c :: r)=some (⟨2,[],n,0⟩,s.length):=by
 have hd : dgt c=false:=by
  cases hd : dgt c with
  | false=>rfl
  | true=>rw [dgt_lod hd] at hc;cases hc
 have hs1 : spanOf lod (s++c :: r)=s.length:=by rw [span_app (all_dgt_lod h.dig),span_stop hc];omega
 have hs2 : spanOf dgt (s++c :: r)=s.length:=by rw [span_app h.dig,span_stop hd];omega
 have ht : (s++c :: r).take s.length=s:=by simp
 have hnum : numOf s=some n:=by rw [numOf_val h.dig (by rw [h.val];exact hn),h.val]
 have hlead:=h.lead
 obtain ⟨x,s',rfl⟩ : ∃ x s',s=x :: s':=by
  cases s with
  | nil=>exact absurd rfl h.pos
  | cons x s'=>exact ⟨x,s',rfl⟩
 have hdx : dgt x=true:=List.all_eq_true.1 h.dig x (by simp)
 rw [List.cons_append] at hs1 hs2 ht ⊢
 rw [tokD,if_neg (dgt_nltr hdx),if_pos hdx,hs1,ht,hnum]
 simp only
 rw [if_neg]
 rintro (⟨h1,h2⟩ | h3)
 ·rcases hlead with h4 | h4
  ·exact h4 (by rw [List.head?_cons];congr 1;exact UInt8.toNat_inj.1 h1)
  ·omega
 ·exact h3 hs2
theorem blk_dgt {c : UInt8} {r : Str} (h : dgt c=true) : blk false (c :: r)=0:=by
 have:=dgt_le h
 rw [blk,if_neg,if_neg]
 ·rintro ⟨h1,_⟩;omega
 ·unfold isSp
  simp only [Bool.or_eq_true,decide_eq_true_eq]
  omega
theorem dec_head {s : Str} {n : Nat} (h : Dec s n) : ∃ x s',s=x :: s' ∧ dgt x=true:=by
 cases hs : s with
 | nil=>exact absurd hs h.pos
 | cons x s'=>exact ⟨x,s',rfl,List.all_eq_true.1 h.dig x (by simp [hs])⟩
structure DecAt (s : Str) (k n : Nat) : Prop where
 dig : s.all dgt=true
 val : k * 10 ^ s.length + valN s 0=n
 lead : k=0→s ≠ []→s.head? ≠ some 48 ∨ s.length=1
theorem valN_app : ∀ (s : Str) (a : Nat),valN s a=a * 10 ^ s.length + valN s 0
 | [],a=>by simp [valN]
 | c :: r,a=>by
  rw [valN,valN,valN_app r (a * 10 + (c.toNat - 48)),valN_app r (0 * 10 + (c.toNat - 48)),List.length_cons,Nat.pow_succ]
  rw [Nat.zero_mul,Nat.zero_add,Nat.add_mul]
  have : a * 10 * 10 ^ r.length=a * (10 ^ r.length * 10):=by rw [Nat.mul_assoc,Nat.mul_comm 10]
  omega
theorem DecAt.start (n : Nat) : DecAt [] n n:=⟨rfl,by simp [valN],fun _ h=>absurd rfl h⟩
theorem dig_lt (k : Nat) : (UInt8.ofNat (48 + k % 10)).toNat=48 + k % 10:=by
 rw [UInt8.toNat_ofNat',Nat.mod_eq_of_lt (by omega)]
theorem DecAt.step {s : Str} {k n : Nat} (h : DecAt s k n) (hk : 0 < k ∨ s=[]) : DecAt (UInt8.ofNat (48 + k % 10) :: s) (k / 10) n:=by
 have hd:=dig_lt k
 refine ⟨?_, ?_, ?_⟩
 ·rw [List.all_cons,h.dig,Bool.and_true]
  unfold dgt
  rw [hd]
  exact decide_eq_true (by omega)
 ·rw [valN,valN_app,hd,List.length_cons,Nat.pow_succ,← h.val,Nat.zero_mul,Nat.zero_add]
  have h1 : 48 + k % 10 - 48=k % 10:=by omega
  have h2 : k=k / 10 * 10 + k % 10:=by omega
  rw [h1]
  have h3 : k * 10 ^ s.length=k / 10 * (10 ^ s.length * 10) + k % 10 * 10 ^ s.length:=by
   conv=>lhs;rw [h2,Nat.add_mul]
   rw [Nat.mul_assoc,Nat.mul_comm 10]
  omega
 ·intro h0 _
  rcases hk with hk | rfl
  ·refine .inl fun e => ?_
   rw [List.head?_cons] at e
   have:=congrArg UInt8.toNat (Option.some.inj e)
   rw [hd] at this
   have h48 : (48 : UInt8).toNat=48:=rfl
   omega
  ·exact .inr rfl
theorem DecAt.done {s : Str} {n : Nat} (h : DecAt s 0 n) (hs : s ≠ []) : Dec s n:=⟨hs,h.dig,by have:=h.val;omega,h.lead rfl hs⟩
end Go.Sep


/- PsBlk -/
set_option linter.unusedVariables false
set_option linter.unusedSimpArgs false
namespace Go.Pb
open Go.Ps
open Go.Sep (Tree Str bulkL)
variable {α β : Type}
def FS (f : F) : Prop := ∀ i t,f i=some t→t.text.length ≤ 1024
def Wt (c : Nat) (w : α → Nat) (p : Pp α) : Prop := ∀ f,FS f → ∀ k a k',p f k = .ok a k' → w a + 1025 * k ≤ 1025 * k' + c
theorem Wt.up {c c' : Nat} {w : α → Nat} {p : Pp α} (h : Wt c w p) (hc : c ≤ c') : Wt c' w p:=fun f hf k a k' e=>by have:=h f hf k a k' e;omega
theorem Wt.ret {c : Nat} {w : α → Nat} {a : α} (h : w a ≤ c) : Wt c w (ret a):=fun f hf k b k' e=>by injection e with e1 e2;subst e1;subst e2;omega
theorem Wt.fail {c : Nat} {w : α → Nat} : Wt c w (fail : Pp α):=fun f hf k a k' e=>by cases e
theorem Wt.dry {c : Nat} {w : α → Nat} : Wt c w (dry : Pp α):=fun f hf k a k' e=>by cases e
theorem Wt.bind {c c1 : Nat} {w1 : α → Nat} {w : β → Nat} {p : Pp α} {g : α → Pp β} (hp : Wt c1 w1 p) (hg : ∀ a, ∃ d,d ≤ c + w1 a - c1∧c1 ≤ c + w1 a∧Wt d w (g a)) : Wt c w (bind p g):=fun f hf k b k' e=>by
 unfold Ps.bind at e
 cases hx : p f k with
 | ok a k1 =>
  simp only [hx] at e
  obtain ⟨d,h1,h2,h3⟩:=hg a
  have h4:=hp f hf k a k1 hx
  have h5:=h3 f hf k1 b k' e
  omega
 | bad k1=>simp only [hx] at e;cases e
 | out=>simp only [hx] at e;cases e
theorem Wt.bind0 {c : Nat} {w1 : α → Nat} {w : β → Nat} {p : Pp α} {g : α → Pp β} (hp : Wt 0 w1 p) (hg : ∀ a,Wt (c + w1 a) w (g a)) : Wt c w (Ps.bind p g):=Wt.bind hp fun a=>⟨_,Nat.le_refl _,Nat.zero_le _,hg a⟩
theorem Wt.tok {c : Nat} {w : α → Nat} {s : Str} {A B : Pp α} (hA : Wt (c + 1025) w A) (hB : Wt c w B) : Wt c w (tok s A B):=fun f hf k a k' e=>by
 unfold Ps.tok at e
 cases hb : isM s f k with
 | true=>simp only [hb,cond_true] at e;have:=hA f hf _ a k' e;omega
 | false=>simp only [hb,cond_false] at e;exact hB f hf k a k' e
theorem Wt.need {c : Nat} {w : α → Nat} {s : Str} {A : Pp α} (hA : Wt (c + 1025) w A) : Wt c w (need s A):=Wt.tok hA Wt.fail
theorem Wt.tkn {c : Nat} {w : α → Nat} {n : Int} {A : Tk→Pp α} {B : Pp α} (hA : ∀ t,t.text.length ≤ 1024→Wt (c + 1025) w (A t)) (hB : Wt c w B) : Wt c w (tkn n A B):=fun f hf k a k' e=>by
 unfold Ps.tkn at e
 cases hx : f k with
 | none=>simp only [hx] at e;exact hB f hf k a k' e
 | some t =>
  cases hb : decide (t.kind=n) with
  | true=>simp only [hx,hb,cond_true] at e;have:=hA t (hf k t hx) f hf _ a k' e;omega
  | false=>simp only [hx,hb,cond_false] at e;exact hB f hf k a k' e
theorem Wt.name {c : Nat} {w : α → Nat} {A : Str→Pp α} (hA : ∀ t,t.length ≤ 1024→Wt (c + 1025) w (A t)) : Wt c w (name A):=Wt.tkn (fun t ht=>hA t.text ht) Wt.fail
theorem Wt.oneOf {c : Nat} {w : α → Nat} {ops : List Str} {A : Str→Pp α} {B : Pp α} (hA : ∀ t ∈ ops,Wt (c + 1025) w (A t)) (hB : Wt c w B) : Wt c w (oneOf ops A B):=fun f hf k a k' e=>by
 unfold Ps.oneOf at e
 cases hx : ops.find? (fun s=>isM s f k) with
 | none=>simp only [hx] at e;exact hB f hf k a k' e
 | some t=>simp only [hx] at e;have:=hA t (List.mem_of_find?_eq_some hx) f hf _ a k' e;omega
theorem Wt.peek {c : Nat} {w : α → Nat} {q : F→Nat→Bool} {A B : Pp α} (hA : Wt c w A) (hB : Wt c w B) : Wt c w (peek q A B):=fun f hf k a k' e=>by
 unfold Ps.peek at e
 cases hb : q f k with
 | true=>simp only [hb,cond_true] at e;exact hA f hf k a k' e
 | false=>simp only [hb,cond_false] at e;exact hB f hf k a k' e
theorem Wt.tokIf {c : Nat} {w : α → Nat} {x : Bool} {s : Str} {A B : Pp α} (hA : Wt (c + 1025) w A) (hB : Wt c w B) : Wt c w (tokIf x s A B):=by
 cases x with
 | true=>exact Wt.tok hA hB
 | false=>exact hB
@[reducible] def T0 (p : Pp Tree) : Prop:=Wt 0 Tree.bulk p
@[reducible] def L0 (p : Pp (List Tree)) : Prop:=Wt 0 bulkL p
theorem szL_app (a b : List Tree) : bulkL (a++b)=bulkL a + bulkL b:=by
 induction a with
 | nil=>simp [bulkL]
 | cons x l ih=>simp only [List.cons_append,bulkL,ih];omega
theorem sz_mk (k : Int) (s : Str) (n : Int) (ks : List Tree) : (Tree.mk k s n ks).bulk=1 + s.length + bulkL ks:=by simp only [Tree.bulk]
theorem sz_leaf (k : Int) (s : Str) : (leaf k s).bulk=1 + s.length:=by simp only [leaf,Tree.bulk,bulkL];omega
theorem commas_wt {X : Pp Tree} (h : T0 X) : ∀ j,L0 (commas j X)
 | 0=>Wt.dry
 | j + 1=>Wt.bind0 h fun a=>Wt.tok (Wt.bind0 (commas_wt h j) fun l=>Wt.ret (by (simp only [sz_mk,sz_leaf,bulkL,szL_app,List.length_nil];omega))) (Wt.ret (by (simp only [sz_mk,sz_leaf,bulkL,szL_app,List.length_nil];omega)))
theorem upto_wt {X : Pp Tree} {s : Str} (h : T0 X) : ∀ j,L0 (upto j s X)
 | 0=>Wt.dry
 | j + 1=>Wt.tok (Wt.ret (by (simp only [sz_mk,sz_leaf,bulkL,szL_app,List.length_nil];omega))) (Wt.bind0 h fun a=>Wt.bind0 (upto_wt h j) fun l=>Wt.ret (by (simp only [sz_mk,sz_leaf,bulkL,szL_app,List.length_nil];omega)))
variable {N : Nat}
theorem inP_wt {s : Str} {X : Pp Tree} (h : T0 X) : L0 (inP N s X):=Wt.tok (Wt.ret (by (simp only [sz_mk,sz_leaf,bulkL,szL_app,List.length_nil];omega))) (Wt.bind0 (commas_wt h N) fun l=>Wt.need (Wt.ret (by omega)))
theorem results_wt {typ : Pp Tree} (h : T0 typ) : L0 (resultsP N typ) :=
 Wt.tok (Wt.bind0 (commas_wt h N) fun l=>Wt.need (Wt.ret (by omega))) (Wt.peek (Wt.bind0 h fun t=>Wt.ret (by (simp only [sz_mk,sz_leaf,bulkL,szL_app,List.length_nil];omega))) (Wt.ret (by (simp only [sz_mk,sz_leaf,bulkL,szL_app,List.length_nil];omega))))
theorem param_wt {typ : Pp Tree} (h : T0 typ) : T0 (paramP typ):=Wt.name fun s hs_=>Wt.bind0 h fun t=>Wt.ret (by (simp only [sz_mk,sz_leaf,bulkL,szL_app,List.length_nil];omega))
theorem sigLike_wt {kind : Int} {X typ : Pp Tree} (hX : T0 X) (h : T0 typ) : T0 (sigLike N kind X typ) :=
 Wt.need (Wt.bind0 (inP_wt hX) fun ps=>Wt.bind0 (results_wt h) fun rs=>Wt.ret (by (simp only [sz_mk,sz_leaf,bulkL,szL_app,List.length_nil];omega)))
theorem sig_wt {typ : Pp Tree} (h : T0 typ) : T0 (sigP N typ):=sigLike_wt (param_wt h) h
theorem typP_wt {typ : Pp Tree} (h : T0 typ) : T0 (typP N typ) :=
 Wt.tok (Wt.bind0 h fun t=>Wt.ret (by (simp only [sz_mk,sz_leaf,bulkL,szL_app,List.length_nil];omega))) (Wt.tok (Wt.need (Wt.bind0 h fun t=>Wt.ret (by (simp only [sz_mk,sz_leaf,bulkL,szL_app,List.length_nil];omega)))) (Wt.tok ((sigLike_wt h h).up (by omega)) (Wt.name fun s hs_=>Wt.ret (by (simp only [sz_mk,sz_leaf,bulkL,szL_app,List.length_nil];omega)))))
theorem field_wt {mb : Pp Tree} (h : T0 mb) : T0 (fieldP mb):=Wt.name fun s hs_=>Wt.bind0 h fun t=>Wt.need (Wt.ret (by (simp only [sz_mk,sz_leaf,bulkL,szL_app,List.length_nil];omega)))
theorem body_wt {kind : Int} {nm : Str} {mb : Pp Tree} (hnm : nm.length ≤ 1024) (h : T0 mb) : T0 (bodyP N kind nm mb):=Wt.need (Wt.bind0 (upto_wt (field_wt h) N) fun l=>Wt.ret (by (simp only [sz_mk,sz_leaf,bulkL,szL_app,List.length_nil];omega)))
theorem typeDecl_wt {typ : Pp Tree} (h : T0 typ) : T0 (typeDeclP N typ):=Wt.name fun nm hnm_=>Wt.tok ((body_wt hnm_ (sig_wt h)).up (by omega)) (Wt.need ((body_wt hnm_ h).up (by omega)))
theorem decl_wt {typ block : Pp Tree} (h : T0 typ) (hb : T0 block) : T0 (declP N typ block):=by
 refine Wt.tok ((typeDecl_wt h).up (by omega)) (Wt.need (Wt.tok ?_ ?_))
 ·exact Wt.name fun recv hrecv_=>Wt.need (Wt.name fun of hof_=>Wt.need (Wt.name fun nm hnm_=>Wt.bind0 (sig_wt h) fun s=>Wt.bind0 hb fun b=>Wt.ret (by simp only [sz_mk,bulkL,recvT,sz_leaf,List.length_nil];omega)))
 ·exact Wt.name fun nm hnm_=>Wt.bind0 (sig_wt h) fun s=>Wt.bind0 hb fun b=>Wt.ret (by (simp only [sz_mk,sz_leaf,bulkL,szL_app,List.length_nil];omega))
theorem block_wt {stmt : Pp Tree} (h : T0 stmt) : T0 (blockP N stmt):=Wt.need (Wt.bind0 (upto_wt h N) fun l=>Wt.ret (by (simp only [sz_mk,sz_leaf,bulkL,szL_app,List.length_nil];omega)))
theorem branch_wt {expr block branch : Pp Tree} (he : T0 expr) (hb : T0 block) (hr : T0 branch) : T0 (branchP expr block branch) :=
 Wt.need (Wt.bind0 he fun c=>Wt.bind0 hb fun b=>Wt.tok (Wt.peek (Wt.bind0 hr fun e=>Wt.ret (by (simp only [sz_mk,sz_leaf,bulkL,szL_app,List.length_nil];omega))) (Wt.bind0 hb fun e=>Wt.ret (by (simp only [sz_mk,sz_leaf,bulkL,szL_app,List.length_nil];omega)))) (Wt.ret (by (simp only [sz_mk,sz_leaf,bulkL,szL_app,List.length_nil];omega))))
theorem for_wt {expr block : Pp Tree} (he : T0 expr) (hb : T0 block) : Wt 1025 Tree.bulk (forP expr block) :=
 Wt.peek (Wt.bind0 hb fun b=>Wt.ret (by (simp only [sz_mk,sz_leaf,bulkL,szL_app,List.length_nil];omega))) (Wt.bind0 he fun c=>Wt.bind0 hb fun b=>Wt.ret (by (simp only [sz_mk,sz_leaf,bulkL,szL_app,List.length_nil];omega)))
theorem assign_wt {expr : Pp Tree} {left : List Tree} (he : T0 expr) : Wt (bulkL left + 1025) Tree.bulk (assignP N expr left):=by
 refine Wt.tokIf (Wt.bind0 (commas_wt he N) fun l=>Wt.ret (by (simp only [sz_mk,sz_leaf,bulkL,szL_app,List.length_nil];omega))) (Wt.tokIf (Wt.bind0 (commas_wt he N) fun l=>Wt.ret (by (simp only [sz_mk,sz_leaf,bulkL,szL_app,List.length_nil];omega))) ?_)
 cases isC1 left with
 | true=>exact Wt.peek (Wt.ret (by (simp only [sz_mk,sz_leaf,bulkL,szL_app,List.length_nil];omega))) Wt.fail
 | false=>exact Wt.fail
theorem simple_wt {typ expr : Pp Tree} (h : T0 typ) (he : T0 expr) : Wt 1025 Tree.bulk (simpleP N typ expr):=by
 refine Wt.tok (Wt.name fun s hs_=>Wt.bind0 h fun t=>Wt.tok (Wt.bind0 he fun e=>Wt.ret (by (simp only [sz_mk,sz_leaf,bulkL,szL_app,List.length_nil];omega))) (Wt.ret (by (simp only [sz_mk,sz_leaf,bulkL,szL_app,List.length_nil];omega)))) ?_
 refine Wt.tok (Wt.peek (Wt.ret (by (simp only [sz_mk,sz_leaf,bulkL,szL_app,List.length_nil];omega))) (Wt.bind0 (commas_wt he N) fun l=>Wt.ret (by (simp only [sz_mk,sz_leaf,bulkL,szL_app,List.length_nil];omega)))) ?_
 refine Wt.tok (Wt.ret (by (simp only [sz_mk,sz_leaf,bulkL,szL_app,List.length_nil];omega))) (Wt.tok (Wt.ret (by (simp only [sz_mk,sz_leaf,bulkL,szL_app,List.length_nil];omega))) ?_)
 exact Wt.bind0 (commas_wt he N) fun l=>(assign_wt he).up (by omega)
theorem exprs_wt {s : Str} {expr : Pp Tree} (he : T0 expr) : L0 (exprsP N s expr):=inP_wt he
theorem cut_wt {expr : Pp Tree} {num : Int} {ks : List Tree} {c : Nat} (he : T0 expr) (hc : bulkL ks ≤ c) : Wt c Tree.bulk (cutP expr num ks) :=
 Wt.need (Wt.tok (Wt.ret (by (simp only [sz_mk,sz_leaf,bulkL,szL_app,List.length_nil];omega))) (Wt.bind0 he fun e=>Wt.need (Wt.ret (by (simp only [sz_mk,sz_leaf,bulkL,szL_app,List.length_nil];omega)))))
theorem index_wt {expr : Pp Tree} {n : Tree} (he : T0 expr) : Wt n.bulk Tree.bulk (indexP expr n) :=
 Wt.peek (cut_wt he (by (simp only [sz_mk,sz_leaf,bulkL,szL_app,List.length_nil];omega))) (Wt.bind0 he fun e=>Wt.tok (Wt.ret (by (simp only [sz_mk,sz_leaf,bulkL,szL_app,List.length_nil];omega))) (cut_wt he (by (simp only [sz_mk,sz_leaf,bulkL,szL_app,List.length_nil];omega))))
theorem post_wt {expr : Pp Tree} (he : T0 expr) : ∀ (j : Nat) (n : Tree),Wt n.bulk Tree.bulk (postP N expr j n)
 | 0,n=>Wt.dry
 | j + 1,n=>by
  refine Wt.tok (Wt.name fun s hs_=>(post_wt he j _).up (by (simp only [sz_mk,sz_leaf,bulkL,szL_app,List.length_nil];omega))) (Wt.tok (Wt.bind (index_wt he) fun t=>⟨_, ?_, ?_,post_wt he j t⟩) (Wt.tok (Wt.bind0 (exprs_wt he) fun l=>(post_wt he j _).up (by (simp only [sz_mk,sz_leaf,bulkL,szL_app,List.length_nil];omega))) (Wt.ret (Nat.le_refl _))))
  ·omega
  ·omega
theorem prim_wt {typ block expr : Pp Tree} {h : Bool} (ht : T0 typ) (hb : T0 block) (he : T0 expr) : T0 (primP N typ block expr h):=by
 refine Wt.tkn (fun t ht_=>Wt.ret (by (simp only [sz_mk,sz_leaf,bulkL,szL_app,List.length_nil];omega))) (Wt.tkn (fun t ht_=>Wt.ret (by (simp only [sz_mk,sz_leaf,bulkL,szL_app,List.length_nil];omega))) (Wt.tok (Wt.ret (by (simp only [sz_mk,sz_leaf,bulkL,szL_app,List.length_nil];omega))) (Wt.tok (Wt.ret (by (simp only [sz_mk,sz_leaf,bulkL,szL_app,List.length_nil];omega))) (Wt.tok (Wt.ret (by (simp only [sz_mk,sz_leaf,bulkL,szL_app,List.length_nil];omega))) ?_))))
 refine Wt.tok (Wt.bind0 he fun t=>Wt.need (Wt.ret (by omega))) ?_
 refine Wt.tok (Wt.need (Wt.bind0 ht fun t=>Wt.need (Wt.bind0 (exprs_wt he) fun l=>Wt.ret (by (simp only [sz_mk,sz_leaf,bulkL,szL_app,List.length_nil];omega))))) ?_
 refine Wt.tok (Wt.bind0 (sig_wt ht) fun s=>Wt.bind0 hb fun b=>Wt.ret (by (simp only [sz_mk,sz_leaf,bulkL,szL_app,List.length_nil];omega))) (Wt.name fun s hs_ => ?_)
 cases h with
 | true=>exact Wt.ret (by (simp only [sz_mk,sz_leaf,bulkL,szL_app,List.length_nil];omega))
 | false=>exact Wt.tok (Wt.bind0 (exprs_wt he) fun l=>Wt.ret (by (simp only [sz_mk,sz_leaf,bulkL,szL_app,List.length_nil];omega))) (Wt.ret (by (simp only [sz_mk,sz_leaf,bulkL,szL_app,List.length_nil];omega)))
theorem loopB_wt {X : Pp Tree} {ops : List Str} (h : T0 X) (ho : ∀ s ∈ ops,s.length ≤ 1024) : ∀ (j : Nat) (n : Tree),Wt n.bulk Tree.bulk (loopB j ops X n)
 | 0,n=>Wt.dry
 | j + 1,n=>Wt.oneOf (fun op hop=>Wt.bind0 h fun m=>(loopB_wt h ho j _).up (by have:=ho op hop;simp only [binT,sz_mk,bulkL];omega)) (Wt.ret (Nat.le_refl _))
theorem binL_wt {U : Pp Tree} (hU : T0 U) : ∀ l : List (List Str),(∀ ops ∈ l, ∀ s ∈ ops,s.length ≤ 1024)→T0 (binL N U l)
 | [],_=>hU
 | ops :: rest,hl=>Wt.bind0 (binL_wt hU rest fun o ho=>hl o (by simp [ho])) fun n=>(loopB_wt (binL_wt hU rest fun o ho=>hl o (by simp [ho])) (hl ops (by simp)) N n).up (by omega)
theorem levels_short : ∀ ops ∈ levels, ∀ s ∈ ops,s.length ≤ 1024:=by decide
theorem ops_short : ∀ s ∈ ([[45],[33],[38],[42]] : List Str),s.length ≤ 1024:=by decide
theorem semi_wt {p : Pp Tree} (h : Wt 1025 Tree.bulk p) : T0 (Ps.bind p fun s=>Ps.need [59] (Ps.ret s)):=fun f hf k b k' e=>by
 unfold Ps.bind at e
 cases hx : p f k with
 | ok a k1 =>
  simp only [hx] at e
  have h4:=h f hf k a k1 hx
  unfold Ps.need Ps.tok at e
  cases hb : isM [59] f k1 with
  | true =>
   simp only [hb,cond_true] at e
   injection e with e1 e2
   subst e1 e2
   omega
  | false=>simp only [hb,cond_false] at e;cases e
 | bad k1=>simp only [hx] at e;cases e
 | out=>simp only [hx] at e;cases e
structure GWt (g : Gr) : Prop where
 typ : T0 g.typ
 block : T0 g.block
 stmt : T0 g.stmt
 branch : T0 g.branch
 expr : ∀ b,T0 (g.expr b)
 unary : ∀ b,T0 (g.unary b)
theorem gwt : ∀ n,GWt (gr N n)
 | 0=>⟨Wt.dry,Wt.dry,Wt.dry,Wt.dry,fun _=>Wt.dry,fun _=>Wt.dry⟩
 | n + 1=>by
  have IH:=gwt n
  refine ⟨typP_wt IH.typ,block_wt IH.stmt, ?_,branch_wt (IH.expr _) IH.block IH.branch,fun b=>binL_wt (IH.unary b) _ levels_short,fun b => ?_⟩
  ·exact Wt.peek IH.block (Wt.peek IH.branch (Wt.tok (for_wt (IH.expr _) IH.block) (semi_wt (simple_wt IH.typ (IH.expr _)))))
  ·exact Wt.oneOf (fun op hop=>Wt.bind0 (IH.unary b) fun t=>Wt.ret (by have:=ops_short op hop; (simp only [sz_mk,sz_leaf,bulkL,szL_app,List.length_nil];omega))) (Wt.bind0 (prim_wt IH.typ IH.block (IH.expr _)) fun t=>(post_wt (IH.expr _) N t).up (by omega))
theorem declG_wt (n : Nat) : T0 (declG N n):=decl_wt (gwt n).typ (gwt n).block
theorem progL_wt {decl : Pp Tree} (h : T0 decl) : ∀ j,L0 (progL decl j)
 | 0=>Wt.dry
 | j + 1=>fun f hf k a k' e=>by
  have hr : L0 (bind decl fun a=>bind (progL decl j) fun l=>ret (a :: l)):=Wt.bind0 h fun a=>Wt.bind0 (progL_wt h j) fun l=>Wt.ret (by (simp only [sz_mk,sz_leaf,bulkL,szL_app,List.length_nil];omega))
  unfold progL at e
  cases hb : (f k).isNone with
  | true=>simp only [hb,cond_true] at e;injection e with e1 e2;subst e1;subst e2;simp only [bulkL];omega
  | false=>simp only [hb,cond_false] at e;exact hr f hf k a k' e
theorem program_wt (M : Nat) : L0 (Ps.program M):=progL_wt (declG_wt _) _
end Go.Pb


/- PsScut -/
set_option linter.unusedVariables false
set_option linter.unusedSimpArgs false
namespace Go.Sep
theorem scanD_ok {s : Str} (h : (scanD s).e=0) : s.length ≤ 65536∧cutF (s.length + 1) s 0 0 = .ok (scanD s).list:=by
 by_cases h1 : 65536 < s.length
 ·rw [scanD,if_pos h1] at h;cases h
 have hD : scanD s = .of (cutF (s.length + 1) s 0 0):=by rw [scanD,if_neg h1]
 refine ⟨by omega, ?_⟩
 rw [hD] at h ⊢
 cases hc : cutF (s.length + 1) s 0 0 with
 | ok l=>rfl
 | error e =>
  obtain ⟨a,e⟩:=e
  rw [hc] at h
  replace h : e=0:=h
  have:=(cutF_err _ _ _ _ _ _ hc (by omega)).2.2
  omega
end Go.Sep


/- PsAns -/
set_option linter.unusedVariables false
set_option linter.unusedSimpArgs false
namespace Go.Sep
def tkF (l : List Tok) : Ps.F:=fun i=>match l[i]? with
 | some t=>some ⟨t.kind,t.text,t.num⟩
 | none=>none
def placeD (s : Str) (l : List Tok) (k : Nat) : Int:=match l[k]? with
 | some t=>t.at_
 | none=>(s.length : Int)
structure PA where
 tree : Tree
 at_ : Int
 e : Int
def emptyT : Tree := .mk 0 [] 0 []
def parseL (s : Str) (l : List Tok) : PA :=
 match Ps.program l.length (tkF l) 0 with
 | .ok ds _=>if (Tree.mk 1 [] 0 ds).size ≤ 20000∧(Tree.mk 1 [] 0 ds).deep ≤ 100 then ⟨.mk 1 [] 0 ds,0,0⟩ else ⟨emptyT,0,4⟩
 | .bad k=>⟨emptyT,placeD s l k,3⟩
 | .out=>⟨emptyT,0,0⟩
def parseD (s : Str) : PA:=if (scanD s).e=0 then parseL s (scanD s).list else ⟨emptyT,((scanD s).at_ : Int),(scanD s).e⟩
def ParseR (a : PA) (r : Value) (m' : Mem) : Prop := ∃ x,r = .tuple ⟨[treeV x, .int .i64 a.at_, .int .i64 a.e]⟩ ∧ TreeRep m' x a.tree
theorem emptyT_rep (m : Mem) : TreeRep m ⟨0,[],0,⟨none,0,0⟩⟩ emptyT:=⟨rfl,rfl,rfl,SlRep.nil _ _⟩
end Go.Sep


/- PsFin -/
namespace Go.Sep
theorem tkF_none (l : List Tok) : ∀ i,l.length ≤ i→tkF l i=none:=fun i h=>by unfold tkF;rw [List.getElem?_eq_none h]
theorem program_ne (l : List Tok) : Ps.program l.length (tkF l) 0 ≠ .out:=(Ps.Run.program (tkF_none l)).out 0 (Nat.le_refl _) (Nat.zero_le _)
end Go.Sep


/- PsTokP -/
set_option linter.unusedVariables false
set_option linter.unusedSimpArgs false
namespace Go.Sep
structure TOk (t : Tok) : Prop where
 name : t.kind=1→isName t.text=true
 num : t.kind=2→0 ≤ t.num
 short : t.text.length ≤ 1024
theorem take_span (p : UInt8→Bool) (s : Str) : s.take (spanOf p s)=s.takeWhile p:=(List.prefix_iff_eq_take.1 (List.takeWhile_prefix p)).symm
theorem tokD_ok {s : Str} {t : Tok} {n : Nat} (h : tokD s=some (t,n)) : TOk t:=by
 cases s with
 | nil=>cases h
 | cons c r =>
  rw [tokD] at h
  by_cases h1 : ltr c=true
  ·rw [if_pos h1] at h
   by_cases h64 : 64 < spanOf lod (c :: r)
   ·rw [if_pos h64] at h;cases h
   rw [if_neg h64,take_span] at h
   have hlen : ((c :: r).takeWhile lod).length ≤ 64:=by unfold spanOf at h64;omega
   have hc : lod c=true:=by unfold lod;rw [h1];rfl
   by_cases hw : (c :: r).takeWhile lod ∈ wordL
   ·rw [if_pos hw] at h
    cases h
    exact ⟨fun e=>(by cases e),fun e=>(by cases e),by show ((c :: r).takeWhile lod).length ≤ 1024;omega⟩
   ·rw [if_neg hw] at h
    cases h
    refine ⟨fun _ => ?_,fun e=>(by cases e),by show ((c :: r).takeWhile lod).length ≤ 1024;omega⟩
    show isName ((c :: r).takeWhile lod)=true
    have hall : ((c :: r).takeWhile lod).all lod=true:=List.all_takeWhile
    have e : (c :: r).takeWhile lod=c :: r.takeWhile lod:=List.takeWhile_cons_of_pos hc
    rw [isName_eq (by rw [e];simp),decide_eq_true hlen,hall,decide_eq_false hw]
    simp only [e,List.getElem_cons_zero,h1]
    rfl
  ·rw [if_neg h1] at h
   by_cases h2 : dgt c=true
   ·rw [if_pos h2] at h
    split at h
    ·cases h
    ·split at h
     ·cases h
     ·cases h
      exact ⟨fun e=>(by cases e),fun _=>Int.natCast_nonneg _,Nat.zero_le _⟩
   ·rw [if_neg h2] at h
    by_cases h3 : c.toNat=34
    ·rw [if_pos h3] at h
     cases hl : lit r with
     | none=>rw [hl] at h;cases h
     | some p =>
      obtain ⟨t',n'⟩:=p
      rw [hl] at h
      simp only at h
      split at h
      ·cases h
      ·cases h
       exact ⟨fun e=>(by cases e),fun e=>(by cases e),by show t'.length ≤ 1024;omega⟩
    ·rw [if_neg h3] at h
     cases hf : markL.find? (fun p=>prefixB p (c :: r)) with
     | none=>rw [hf] at h;cases h
     | some p =>
      rw [hf] at h
      cases h
      have hm : ∀ p ∈ markL,p.length ≤ 1024:=by decide
      exact ⟨fun e=>(by cases e),fun e=>(by cases e),hm p (List.mem_of_find?_eq_some hf)⟩
theorem cutF_toks : ∀ (f : Nat) (r : Str) (at_ k : Nat) (l : List Tok),cutF f r at_ k = .ok l → ∀ t ∈ l,TOk t
 | 0,r,at_,k,l,h=>by cases h
 | f + 1,r,at_,k,l,h=>by
  rw [cutF] at h
  by_cases h1 : r.drop (blk false r)=[]
  ·rw [if_pos h1] at h
   injection h with h
   subst h
   intro t ht;cases ht
  rw [if_neg h1] at h
  by_cases h2 : k=20000
  ·rw [if_pos h2] at h;cases h
  rw [if_neg h2] at h
  cases ht : tokD (r.drop (blk false r)) with
  | none=>rw [ht] at h;cases h
  | some p =>
   obtain ⟨u,n⟩:=p
   rw [ht] at h
   simp only at h
   cases hc : cutF f ((r.drop (blk false r)).drop n) (at_ + blk false r + n) (k + 1) with
   | error e=>rw [hc] at h;cases h
   | ok l' =>
    rw [hc] at h
    simp only [Except.ok.injEq] at h
    subst h
    intro t hm
    rcases List.mem_cons.1 hm with rfl | hm
    ·have:=tokD_ok ht
     exact ⟨this.name,this.num,this.short⟩
    ·exact cutF_toks f _ _ _ _ hc t hm
theorem toks_ok {s : Str} (h : (scanD s).e=0) : ∀ t ∈ (scanD s).list,TOk t:=cutF_toks _ _ _ _ _ (scanD_ok h).2
theorem tkF_tok {l : List Tok} {i : Nat} {t : Ps.Tk} (h : tkF l i=some t) : ∃ u ∈ l,t = ⟨u.kind,u.text,u.num⟩:=by
 unfold tkF at h
 cases hx : l[i]? with
 | none=>rw [hx] at h;cases h
 | some u =>
  rw [hx] at h
  simp only [Option.some.injEq] at h
  exact ⟨u,List.mem_of_getElem? hx,h.symm⟩
theorem fok_of {s : Str} (h : (scanD s).e=0) : Ps.FOk (tkF (scanD s).list):=fun i t ht=>by
 obtain ⟨u,hu,rfl⟩:=tkF_tok ht
 have:=toks_ok h u hu
 exact ⟨this.name,this.num,fun _=>this.short⟩
theorem fs_of {s : Str} (h : (scanD s).e=0) : Pb.FS (tkF (scanD s).list):=fun i t ht=>by
 obtain ⟨u,hu,rfl⟩:=tkF_tok ht
 exact (toks_ok h u hu).short
theorem parse_sound {s : Str} {ds : List Tree} {k : Nat} (h : (scanD s).e=0) (hp : Ps.program (scanD s).list.length (tkF (scanD s).list) 0 = .ok ds k) (h1 : (Tree.mk 1 [] 0 ds).size ≤ 20000) (h2 : (Tree.mk 1 [] 0 ds).deep ≤ 100) :
  soundB (.mk 1 [] 0 ds)=true∧(Tree.mk 1 [] 0 ds).bulk ≤ 140737488355328:=by
 refine ⟨Ps.program_sound (fok_of h) hp h1 h2, ?_⟩
 have e1:=Pb.program_wt _ _ (fs_of h) 0 ds k hp
 have e2:=((Ps.Run.program (tkF_none _)).ok 0 (Nat.le_refl _) (Nat.zero_le _) ds k hp).2.1
 have e3:=scanD_len s
 simp only [Tree.bulk,List.length_nil]
 omega
end Go.Sep


/- PtScan -/
set_option linter.unusedVariables false
set_option linter.unusedSimpArgs false
namespace Go.Pt
open Go.Sep Go.Ps
def TkV (t : Tk) : Prop :=
 (t.kind=1∧isName t.text=true∧t.num=0) ∨ (t.kind=2∧t.text=[]∧0 ≤ t.num∧t.num < 9223372036854775808) ∨ (t.kind=3∧t.text.length ≤ 1024∧t.num=0) ∨ (t.kind=4∧t.text ∈ markL∧t.num=0) ∨ (t.kind=5∧t.text ∈ wordL∧t.num=0)
def txt (t : Tk) : Str:=if t.kind=2 then digN t.num.toNat else if t.kind=3 then quoteD t.text else t.text
def stopB (c : UInt8) : Bool := !lod c && (!decide (c=61) && (!decide (c=38) && (!decide (c=124) && !decide (c=47))))
structure Nx (t : Tk) (R : Str) : Prop where
 tk : tokD (txt t++R)=some (⟨t.kind,t.text,t.num,0⟩,(txt t).length)
 bl : blk false (txt t++R)=0
 pos : txt t ≠ []
theorem valN_append : ∀ (s r : Str) (a : Nat),valN (s++r) a=valN r (valN s a)
 | [],r,a=>rfl
 | c :: s,r,a=>by rw [List.cons_append,valN,valN,valN_append s r]
theorem digF_dec : ∀ (f n : Nat),1 ≤ f→n < 10 ^ f→Dec (digF f n) n
 | 0,n,h,_=>by omega
 | f + 1,n,_,hn=>by
  have hd : ∀ k,k < 10→dgt (UInt8.ofNat (48 + k))=true∧(UInt8.ofNat (48 + k)).toNat - 48=k:=by
   intro k hk
   have : ∀ k : Fin 10,dgt (UInt8.ofNat (48 + k.val))=true∧(UInt8.ofNat (48 + k.val)).toNat - 48=k.val:=by decide
   exact this ⟨k,hk⟩
  unfold digF
  by_cases h : n < 10
  ·rw [if_pos h]
   exact ⟨by simp,by rw [List.all_cons,(hd n h).1];rfl,by show 0 * 10 + ((UInt8.ofNat (48 + n)).toNat - 48)=n;rw [(hd n h).2];omega, .inr rfl⟩
  ·rw [if_neg h]
   have hf : 1 ≤ f:=by
    rcases Nat.eq_zero_or_pos f with rfl | h1
    ·simp at hn;omega
    ·exact h1
   have ih:=digF_dec f (n / 10) hf (by rw [Nat.pow_succ] at hn;omega)
   have hm:=hd (n % 10) (by omega)
   refine ⟨by simp, ?_, ?_, .inl ?_⟩
   ·rw [List.all_append,ih.dig,List.all_cons,hm.1];rfl
   ·rw [valN_append,ih.val]
    show n / 10 * 10 + ((UInt8.ofNat (48 + n % 10)).toNat - 48)=n
    rw [hm.2];omega
   ·have hp:=ih.pos
    obtain ⟨x,s,hs⟩ : ∃ x s,digF f (n / 10)=x :: s:=by
     cases hs : digF f (n / 10) with
     | nil=>exact absurd hs hp
     | cons x s=>exact ⟨x,s,rfl⟩
    have hl:=ih.lead
    have hv:=ih.val
    rw [hs] at hl hv ⊢
    intro h0
    have h0' : x=48:=by simpa using h0
    subst h0'
    rcases hl with h1 | h1
    ·exact h1 rfl
    ·have : s=[]:=by simpa using h1
     subst this
     simp [valN] at hv
     omega
theorem digN_dec {n : Nat} (h : n < 9223372036854775808) : Dec (digN n) n:=digF_dec 20 n (by decide) (by omega)
theorem tok_word {x : UInt8} {w : Str} {c : UInt8} {r : Str} (hx : ltr x=true) (hw : (x :: w).all lod=true) (hl : (x :: w).length ≤ 64) (hc : lod c=false) :
  tokD ((x :: w)++c :: r)=some (⟨if (x :: w) ∈ wordL then 5 else 1,x :: w,0,0⟩,(x :: w).length):=by
 have hs : spanOf lod ((x :: w)++c :: r)=(x :: w).length:=by rw [span_app hw,span_stop hc];rfl
 have ht : ((x :: w)++c :: r).take (x :: w).length=x :: w:=by simp
 rw [List.cons_append] at hs ht ⊢
 rw [tokD,if_pos hx,hs,if_neg (by omega),ht]
theorem blk_one {x : UInt8} {r : Str} (h1 : isSp x=false) (h2 : x.toNat ≠ 47) : blk false (x :: r)=0:=by
 rw [blk,if_neg (by rw [h1];decide),if_neg fun h=>h2 h.1]
theorem ltr_blk {x : UInt8} {r : Str} (h : ltr x=true) : blk false (x :: r)=0:=by
 unfold ltr at h
 simp only [Bool.or_eq_true,decide_eq_true_eq] at h
 refine blk_one ?_ (by omega)
 unfold isSp
 simp only [Bool.or_eq_false_iff,decide_eq_false_iff_not]
 omega
theorem name_head {w : Str} (h : isName w=true) : ∃ x w',w=x :: w' ∧ ltr x=true∧w.all lod=true∧w.length ≤ 64∧w ∉ wordL:=by
 unfold isName at h
 simp only [Bool.and_eq_true,decide_eq_true_eq,Bool.not_eq_true'] at h
 obtain ⟨h1,h2,h3,h4,h5⟩:=h
 cases w with
 | nil=>simp at h1
 | cons x w' =>
  refine ⟨x,w',rfl, ?_,h4,h2,by simpa using h5⟩
  have : lod x=true:=List.all_eq_true.1 h4 x (by simp)
  rw [dgt_ltr,this]
  simpa using h3
theorem word_head : ∀ w ∈ wordL, ∃ x w',w=x :: w' ∧ ltr x=true∧w.all lod=true∧w.length ≤ 64:=by
 have : ∀ w ∈ wordL,w.head?.any ltr=true∧w.all lod=true∧w.length ≤ 64:=by decide
 intro w hw
 obtain ⟨h1,h2,h3⟩:=this w hw
 cases w with
 | nil=>simp at h1
 | cons x w'=>exact ⟨x,w',rfl,by simpa using h1,h2,h3⟩
theorem prefixB_take (p s : Str) (k : Nat) (h : p.length ≤ k) : prefixB p s=prefixB p (s.take k):=by
 unfold prefixB
 rw [List.take_take,show min p.length k=p.length by omega,List.length_take]
 congr 1
 exact decide_eq_decide.2 (by omega)
theorem mark_fin : ∀ m ∈ markL, ∀ c : Fin 256,stopB (UInt8.ofNat c.val)=true→markL.find? (fun p=>prefixB p ((m++[UInt8.ofNat c.val]).take 2))=some m:=by decide +kernel
theorem mark_len : ∀ m ∈ markL,m.length=1 ∨ m.length=2:=by decide
theorem mark_head : ∀ m ∈ markL,m.head?.any (fun x => !ltr x && (!dgt x && (!decide (x.toNat=34) && !isSp x)))=true:=by decide
theorem mark_slash : ∀ m ∈ markL,m.head? = some 47→m=[47]:=by decide
theorem tok_mark {m : Str} (hm : m ∈ markL) {c : UInt8} {r : Str} (hc : stopB c=true) : tokD (m++c :: r)=some (⟨4,m,0,0⟩,m.length)∧blk false (m++c :: r)=0:=by
 have h1:=mark_fin m hm ⟨c.toNat,c.toNat_lt⟩ (by simpa using hc)
 simp only [UInt8.ofNat_toNat] at h1
 have h2 : (m++c :: r).take 2=(m++[c]).take 2:=by
  rcases mark_len m hm with h | h
  ·obtain ⟨x,rfl⟩:=List.length_eq_one_iff.1 h;rfl
  ·match m,h with
   | [x,y],_=>rfl
 have h3 : markL.find? (fun p=>prefixB p (m++c :: r))=some m:=by
  rw [← h1]
  have e : ∀ l : List Str,(∀ p ∈ l,p.length ≤ 2)→l.find? (fun p=>prefixB p (m++c :: r))=l.find? (fun p=>prefixB p ((m++[c]).take 2)):=by
   intro l
   induction l with
   | nil=>intro _;rfl
   | cons p l ih =>
    intro hl
    rw [List.find?_cons,List.find?_cons,ih fun q hq=>hl q (by simp [hq]),prefixB_take p (m++c :: r) 2 (hl p (by simp)),h2]
  exact e markL (by decide)
 have h4:=mark_head m hm
 have h5:=mark_slash m hm
 cases m with
 | nil=>simp at h4
 | cons x m' =>
  simp only [List.head?_cons,Option.any_some,Bool.and_eq_true,Bool.not_eq_true',decide_eq_false_iff_not] at h4
  rw [List.cons_append] at h3 ⊢
  refine ⟨by rw [tokD,if_neg (by rw [h4.1];decide),if_neg (by rw [h4.2.1];decide),if_neg h4.2.2.1,h3], ?_⟩
  by_cases h47 : x.toNat=47
  ·have hx : x=47:=UInt8.toNat_inj.1 h47
   have:=h5 (by rw [hx];rfl)
   injection this with _ hm'
   subst hm'
   rw [blk,if_neg (by rw [h4.2.2.2];decide),if_neg]
   rintro ⟨_,h6⟩
   have : c=47:=by simpa using h6
   subst this
   revert hc;decide
  ·exact blk_one h4.2.2.2 h47
theorem Nx.of {t : Tk} (h : TkV t) {c : UInt8} (hc : stopB c=true) (r : Str) : Nx t (c :: r):=by
 have hl : lod c=false:=by
  unfold stopB at hc
  simp only [Bool.and_eq_true,Bool.not_eq_true'] at hc
  exact hc.1
 obtain ⟨k,w,u⟩:=t
 rcases h with ⟨h1,h2,h3⟩ | ⟨h1,h2,h3,h4⟩ | ⟨h1,h2,h3⟩ | ⟨h1,h2,h3⟩ | ⟨h1,h2,h3⟩
 ·obtain rfl : k=1:=h1
  obtain rfl : u=0:=h3
  have h2' : isName w=true:=h2
  obtain ⟨x,w',rfl,g1,g2,g3,g4⟩:=name_head h2'
  have ht:=tok_word (r:=r) g1 g2 g3 hl
  rw [if_neg g4] at ht
  exact ⟨ht,ltr_blk g1,by simp [txt]⟩
 ·obtain rfl : k=2:=h1
  obtain rfl : w=[]:=h2
  have h3' : 0 ≤ u:=h3
  have h4' : u < 9223372036854775808:=h4
  have hd:=digN_dec (n:=u.toNat) (by omega)
  have ht:=tok_num (r:=r) hd (by omega) hl
  obtain ⟨x,s',hs,hx⟩:=dec_head hd
  have e : txt ⟨2,[],u⟩ = digN u.toNat:=rfl
  refine ⟨?_, ?_,by rw [e];exact hd.pos⟩
  ·rw [e,ht]
   show some (Tok.mk 2 [] ((u.toNat : Nat) : Int) 0,_)=some (Tok.mk 2 [] u 0,_)
   rw [show ((u.toNat : Nat) : Int)=u by omega]
  ·rw [e,hs,List.cons_append,blk_dgt hx]
 ·obtain rfl : k=3:=h1
  obtain rfl : u=0:=h3
  have h2' : w.length ≤ 1024:=h2
  have e : txt ⟨3,w,0⟩ = quoteD w:=rfl
  refine ⟨?_, ?_,by rw [e,quoteD];simp⟩
  ·rw [e]
   have e2 : quoteD w++c :: r=34 :: (quoteB w++34 :: (c :: r)):=by rw [quoteD];simp
   rw [e2,tokD_str (lit_quoteB w (c :: r)),if_neg (by omega),quoteD_len]
  ·rw [e,quoteD,List.cons_append,blk_34]
 ·obtain rfl : k=4:=h1
  obtain rfl : u=0:=h3
  have h2' : w ∈ markL:=h2
  have:=tok_mark (r:=r) h2' hc
  exact ⟨this.1,this.2,fun e=>by
   have h4:=mark_head w h2'
   have e' : w=[]:=e
   rw [e'] at h4;simp at h4⟩
 ·obtain rfl : k=5:=h1
  obtain rfl : u=0:=h3
  have h2' : w ∈ wordL:=h2
  obtain ⟨x,w',rfl,g1,g2,g3⟩:=word_head w h2'
  have ht:=tok_word (r:=r) g1 g2 g3 hl
  rw [if_pos h2'] at ht
  exact ⟨ht,ltr_blk g1,by simp [txt]⟩
def lay : List (Tk × Str)→Str
 | []=>[]
 | (t,g) :: ps=>txt t++(g++lay ps)
def OkL : List (Tk × Str)→Prop
 | []=>True
 | (t,g) :: ps=>Nx t (g++lay ps)∧g.all isSp=true∧OkL ps
theorem lay_blk {ps : List (Tk × Str)} (h : OkL ps) : blk false (lay ps)=0:=by
 match ps,h with
 | [],_=>rfl
 | (t,g) :: ps,h=>exact h.1.bl
theorem blk_sp : ∀ (g r : Str),g.all isSp=true→blk false (g++r)=g.length + blk false r
 | [],r,_=>by simp
 | c :: g,r,h=>by
  rw [List.all_cons,Bool.and_eq_true] at h
  rw [List.cons_append,blk,if_pos h.1,blk_sp g r h.2,List.length_cons];omega
def bareT (t : Tok) : Tk:=⟨t.kind,t.text,t.num⟩
theorem cut_lay : ∀ (ps : List (Tk × Str)) (g0 : Str) (f at_ k : Nat),OkL ps→g0.all isSp=true→(g0++lay ps).length < f→k ≤ 20000 →
  (k + ps.length ≤ 20000 → ∃ l,cutF f (g0++lay ps) at_ k = .ok l∧l.map bareT=ps.map Prod.fst)∧(20000 < k + ps.length → ∃ a,cutF f (g0++lay ps) at_ k = .error (a,4)∧at_ + (20000 - k) ≤ a)
 | ps,g0,0,at_,k,_,_,hf,_=>by omega
 | [],g0,f + 1,at_,k,_,hg,hf,hk=>by
  have hb : blk false (g0++lay [])=g0.length:=by rw [blk_sp g0 _ hg];rfl
  have hd : (g0++lay []).drop g0.length=[]:=by simp [lay]
  refine ⟨fun _=>⟨[],by rw [cutF,hb,hd,if_pos rfl],rfl⟩,fun h=>by simp at h;omega⟩
 | (t,g) :: ps,g0,f + 1,at_,k,ho,hg,hf,hk=>by
  have hb : blk false (g0++lay ((t,g) :: ps))=g0.length:=by rw [blk_sp g0 _ hg,lay_blk ho];omega
  have hd : (g0++lay ((t,g) :: ps)).drop g0.length=txt t++(g++lay ps):=by simp [lay]
  have hne : txt t++(g++lay ps) ≠ []:=fun e=>ho.1.pos (List.append_eq_nil_iff.1 e).1
  have hp : 1 ≤ (txt t).length:=List.length_pos_iff.2 ho.1.pos
  rw [cutF,hb,hd,if_neg hne]
  by_cases h20 : k=20000
  ·rw [if_pos h20]
   refine ⟨fun h=>by simp at h;omega,fun _=>⟨_,rfl,by omega⟩⟩
  rw [if_neg h20,ho.1.tk]
  have hd2 : (txt t++(g++lay ps)).drop (txt t).length=g++lay ps:=List.drop_left
  simp only [hd2]
  have hlen : (g++lay ps).length < f:=by
   have e : (g0++lay ((t,g) :: ps)).length=g0.length + ((txt t).length + (g++lay ps).length):=by simp [lay]
   omega
  have ih:=cut_lay ps g f (at_ + g0.length + (txt t).length) (k + 1) ho.2.2 ho.2.1 hlen (by omega)
  refine ⟨fun h => ?_,fun h => ?_⟩
  ·obtain ⟨l,h1,h2⟩:=ih.1 (by simp at h;omega)
   rw [h1]
   exact ⟨_,rfl,by rw [List.map_cons,List.map_cons,h2];rfl⟩
  ·obtain ⟨a,h1,h2⟩:=ih.2 (by simp at h;omega)
   rw [h1]
   exact ⟨a,rfl,by omega⟩
theorem scan_lay {ps : List (Tk × Str)} (h : OkL ps) (hl : (lay ps).length ≤ 65536) :
  (ps.length ≤ 20000 → ∃ l,scanD (lay ps) = ⟨l,0,0⟩ ∧ l.map bareT=ps.map Prod.fst)∧(20000 < ps.length → ∃ a,scanD (lay ps) = ⟨[],a,4⟩ ∧ 0 < a):=by
 have hc:=cut_lay ps [] ((lay ps).length + 1) 0 0 h rfl (by simp) (by omega)
 rw [List.nil_append,Nat.zero_add] at hc
 unfold scanD
 rw [if_neg (by omega)]
 refine ⟨fun h1 => ?_,fun h1 => ?_⟩
 ·obtain ⟨l,h2,h3⟩:=hc.1 h1
  exact ⟨l,by rw [h2];rfl,h3⟩
 ·obtain ⟨a,h2,h3⟩:=hc.2 h1
  exact ⟨a,by rw [h2];rfl,by omega⟩
theorem tkF_bare (l : List Tok) : tkF l=fun i=>(l.map bareT)[i]?:=by
 funext i
 unfold tkF
 rw [List.getElem?_map]
 cases l[i]? <;> rfl
end Go.Pt


/- PtBuild -/
set_option linter.unusedVariables false
set_option linter.unusedSimpArgs false
namespace Go.Sep
open Go.Proofs
attribute [local irreducible] TC TO OT TCallX TCall DO DOt thenQ blockQ retQ At
@[reducible] def bdL (bd : Nat) (q : Option Addr) (s : Sl) (L : List Item) : List Item := .cells bd 0 [.pointer q,s.v] :: tok s 1 :: L
@[reducible] def bdV (bd : Nat) : Value := .pointer (some ⟨bd,0,none⟩)
def Wr (bd : Nat) (m : Mem) (L : List Item) (y : Str) : Value→Mem→List Item→Prop:=fun _ m' L'=>m ≤ m' ∧ ∃ s' q',L' = bdL bd q' s' L∧BOk m' bd q' s' y
def suffixB (p s : Str) : Bool:=decide (p.length ≤ s.length) && decide (s.drop (s.length - p.length)=p)
def trimD (s p : Str) : Str:=if suffixB p s=true then s.take (s.length - p.length) else s
def lastB (t : Str) : UInt8:=if t=[123] ∨ t=[125] ∨ t=[59] then 10 else 32
def putS (t : Str) : Str:=t++[lastB t]
def putL (l : List Str) : Str:=(l.map putS).flatten
def putT (l : List Ps.Tk) : Str:=putL (l.map Pt.txt)
structure PS where
 m : Mem
 q : Option Addr
 s : Sl
 i : Nat
theorem BOk.cast {m : Mem} {bd : Nat} {q : Option Addr} {s : Sl} {x y : Str} (h : BOk m bd q s x) (e : x=y) : BOk m bd q s y:=e ▸ h
end Go.Sep


/- PtVal -/
set_option linter.unusedVariables false
set_option linter.unusedSimpArgs false
namespace Go.Pt
open Go.Sep Go.Ps
mutual
def numB2 : Tree→Bool
 | .mk k n u ks=>(!decide (k=40) || decide (u < 9223372036854775808)) && numL ks
def numL : List Tree→Bool
 | []=>true
 | t :: ts=>numB2 t && numL ts
end
structure AllV (n : Nat) (l : List Tk) : Prop where
 v : ∀ t ∈ l,TkV t
 len : l.length ≤ n
theorem AllV.le {n m : Nat} {l : List Tk} (h : AllV n l) (hn : n ≤ m) : AllV m l:=⟨h.v,Nat.le_trans h.len hn⟩
theorem AllV.nil : AllV 0 []:=⟨fun t h=>(by cases h),Nat.le_refl _⟩
theorem AllV.cons {n : Nat} {t : Tk} {l : List Tk} (h : TkV t) (hl : AllV n l) : AllV (n + 1) (t :: l):=⟨fun x hx=>by
 rcases List.mem_cons.1 hx with rfl | hx
 ·exact h
 ·exact hl.v x hx,Nat.succ_le_succ hl.len⟩
theorem AllV.app {n m : Nat} {l r : List Tk} (hl : AllV n l) (hr : AllV m r) : AllV (n + m) (l++r):=⟨fun x hx=>by
 rcases List.mem_append.1 hx with hx | hx
 ·exact hl.v x hx
 ·exact hr.v x hx,by have:=hl.len;have:=hr.len;rw [List.length_append];omega⟩
theorem v_mk {s : Str} (h : s ∈ markL) : TkV (mk s) := .inr (.inr (.inr (.inl ⟨rfl,h,rfl⟩)))
theorem v_wd {s : Str} (h : s ∈ wordL) : TkV (wd s) := .inr (.inr (.inr (.inr ⟨rfl,h,rfl⟩)))
theorem v_nm {s : Str} (h : isName s=true) : TkV (nm s) := .inl ⟨rfl,h,rfl⟩
theorem AllV.m {n : Nat} {s : Str} {l : List Tk} (h : s ∈ markL) (hl : AllV n l) : AllV (n + 1) (Pt.mk s :: l):=AllV.cons (v_mk h) hl
theorem AllV.w {n : Nat} {s : Str} {l : List Tk} (h : s ∈ wordL) (hl : AllV n l) : AllV (n + 1) (wd s :: l):=AllV.cons (v_wd h) hl
theorem AllV.n {n : Nat} {s : Str} {l : List Tk} (h : isName s=true) (hl : AllV n l) : AllV (n + 1) (nm s :: l):=AllV.cons (v_nm h) hl
def Kv (k : Tree) : Prop:=AllV (8 * k.size - 1) (toks k)
theorem sz (k : Int) (n : Str) (u : Int) (ks : List Tree) : (Tree.mk k n u ks).size=1 + sizeL ks:=rfl
structure VT (a : Tree) : Prop where
 expr : lim.expr a=true→Kv a
 stmt : lim.stmt a=true→Kv a
 block : lim.block a=true→Kv a
end Go.Pt


/- PtEach -/
set_option linter.unusedVariables false
set_option linter.unusedSimpArgs false
namespace Go.Sep
open Go.Proofs Go.Pt
attribute [local irreducible] TC TO OT TCallX TCall DO DOt thenQ blockQ retQ At
structure Cbk (mb : Mem) (bd : Nat) (fn : FuncId) (first cap : List Value) (ks : List Tree) : Prop where
 goes : Goes Tryz.prog fn
 run : ∀ k ∈ ks, ∀ (m : Mem) (L : List Item) (q : Option Addr) (s : Sl) (x : Str) (h : HTree),mb ≤ m→BOk m bd q s x→TreeRep m h k→x.length + (putT (Pt.toks k)).length ≤ 140737488355328 →
  TCall Tryz.prog fn ⟨first++treeV h :: cap⟩ m (bdL bd q s L) (Wr bd m L (x++putT (Pt.toks k)))
end Go.Sep


/- PtTypW -/
set_option linter.unusedVariables false
set_option linter.unusedSimpArgs false
namespace Go.Sep
open Go.Proofs
attribute [local irreducible] TC TO OT TCallX TCall DO DOt thenQ blockQ retQ At
structure TbOk (Tb : Mem→Prop) : Prop where
 mono : ∀ {m m' : Mem},Tb m→m ≤ m' → Tb m'
section
variable {Tb : Mem→Prop}
def Pw (Tb : Mem→Prop) (fn : FuncId) (a : Tree) : Prop := ∀ (m : Mem) (L : List Item) (bd : Nat) (q : Option Addr) (s : Sl) (x0 : Str) (h : HTree),Tb m→BOk m bd q s x0→TreeRep m h a→x0.length + (putT (Pt.toks a)).length ≤ 140737488355328 →
 TCall Tryz.prog fn ⟨[bdV bd,treeV h]⟩ m (bdL bd q s L) (Wr bd m L (x0++putT (Pt.toks a)))
theorem Cbk.of (hTb : TbOk Tb) {mb : Mem} {bd : Nat} {fn : FuncId} {ks : List Tree} (h : ∀ k ∈ ks,Pw Tb fn k) (hg : Goes Tryz.prog fn) (hT : Tb mb) : Cbk mb bd fn [bdV bd] [] ks:=⟨hg,fun k hk m L q s x h' hmb hB hr hl=>h k hk m L bd q s x h' (hTb.mono hT hmb) hB hr hl⟩
structure TbM (Tb : Mem→Prop) (m : Mem) : Prop where
 mono : ∀ {m' : Mem},m ≤ m' → Tb m'
end
end Go.Sep


/- PtMoW -/
set_option linter.unusedVariables false
set_option linter.unusedSimpArgs false
namespace Go.Sep
open Go.Proofs
attribute [local irreducible] TC TO OT TCallX TCall DO DOt thenQ blockQ retQ At
section
variable {Tb : Mem→Prop}
structure PT (Tb : Mem→Prop) (a : Tree) : Prop where
 expr : Pt.numB2 a=true→lim.expr a=true→Pw Tb 46 a
 stmt : Pt.numB2 a=true→lim.stmt a=true→Pw Tb 120 a
 block : Pt.numB2 a=true→lim.block a=true→Pw Tb 68 a
end
end Go.Sep


/- PtExW -/
set_option linter.unusedVariables false
set_option linter.unusedSimpArgs false
namespace Go.Sep
open Go.Proofs
attribute [local irreducible] TC TO OT TCallX TCall DO DOt thenQ blockQ retQ At
section
variable {Tb : Mem→Prop}
end
end Go.Sep


/- PtBlW -/
set_option linter.unusedVariables false
set_option linter.unusedSimpArgs false
namespace Go.Sep
open Go.Proofs
attribute [local irreducible] TC TO OT TCallX TCall DO DOt thenQ blockQ retQ At
section
variable {Tb : Mem→Prop}
end
end Go.Sep


/- PtStW -/
set_option linter.unusedVariables false
set_option linter.unusedSimpArgs false
namespace Go.Sep
open Go.Proofs
attribute [local irreducible] TC TO OT TCallX TCall DO DOt thenQ blockQ retQ At
section
variable {Tb : Mem→Prop}
end
end Go.Sep


/- PsNode -/
set_option linter.unusedVariables false
set_option linter.unusedSimpArgs false
namespace Go.Sep
open Go.Proofs
section
variable {P : Program} {N : Nat} {ρ : Env} {D : List Deferred} {m : Mem} {L : List Item} {Q : EPost} {o : Oper} {K : Env→Mem→List Item→Prop}
theorem equalIn_nilFn2 {t : TypeId} {w : World} {a b c} {f g h} (dd : Nat) (hu : (underlying t).run P w = .ok (.func a b c) w) :
  (Op.equalIn (dd + 1) t (.func f g h) .nilFunc).run P w = .ok false w:=by
 simp only [Op.equalIn,Sem.run_bind,hu,Result.andThen_ok,Sem.run_pure]
theorem OT.nilFn2 (T : Tab P) {t t' : TypeId} {x y : Operand} {d : Nat} {f g h} (ho : o.op = .binOp .eql t x y t') (hd : o.dst=some d) (hN : Nat.blt d N=true)
  (hx : ev ρ x=some (.func f g h)) (hy : ev ρ y=some .nilFunc) (ht : T.isFunc t=true) (hK : K ((d, .bool false) :: ρ) m L) : OT P N o ρ D m L Q K:=by
 obtain ⟨ti,a,b,c,h1,h2⟩:=isFunc_get ht
 refine OT.run hd hN (fun ac w ha=>⟨w, ?_,ha.st⟩) hK
 have hu:=T.run_underlying w h1
 rw [h2] at hu
 have e1 : binOp .eql t (.func f g h) .nilFunc=(do pure (.bool (← Op.equalIn (9999 + 1) t (.func f g h) .nilFunc)) : Sem Value):=rfl
 have e2 : (eqGuard .eql t x y (.func f g h) .nilFunc).run P w = .ok () w:=by simp [eqGuard]
 have h:=equalIn_nilFn2 (P:=P) (f:=f) (g:=g) (h:=h) 9999 hu
 simp only [execOp,ho,ha.env.eval hx,ha.env.eval hy,Sem.run_bind,e2,Result.andThen_ok,e1,h,Sem.run_pure]
end
attribute [local irreducible] TC TO OT TCallX TCall DO DOt thenQ blockQ retQ At
set_option maxHeartbeats 400000 in
theorem indexFunc_node (m : Mem) (L : List Item) (s : Sl) (l : List Tree) (p : Tree→Bool) (fn : FuncId) (cap : List Value) (hg : Goes Tryz.prog fn) (hs : SlRep rTree m s l)
  (hp : ∀ (h : HTree) (a : Tree),a ∈ l→rTree.rep m h a→TCall Tryz.prog fn ⟨treeV h :: cap⟩ m L (Ret (.bool (p a)) m L)) :
  TCall Tryz.prog 122 ⟨[s.v, .func (.func fn) ⟨[]⟩ ⟨cap⟩]⟩ m L (Ret (.int .i64 (idxP l p 0)) m L):=by
 unfold TCall
 refine TCallX.enter Tryz.func122 rfl 19 rfl ?_
 refine uA ?_
 refine TC.loopK (ι:=Nat) [0,1,7] rfl (fun k=>[(8, .int .i64 (k : Int))]) (fun _=>m) (fun _=>L) (fun k=>k ≤ l.length∧idxP l p 0=idxP (l.drop k) p k) (fun k=>l.length - k) 0 uH rfl uS ⟨Nat.zero_le _,rfl⟩ ?_
 rintro k ⟨hk,hI⟩
 have hl:=hs.len
 have hsm:=hs.small rfl
 refine uA ?_
 refine TC.condP rfl (fun h => ?_) (fun h => ?_)
 ·have hlt : k < l.length:=by omega
  have hx : l[k]? = some l[k]:=by simp [hlt]
  refine uA ?_
  refine TO.step rfl (OT.index tab rTree k hs rfl rfl rfl rfl rfl (by first | rfl | omega | (simp only;omega)) rfl hx ?_)
  rintro b i hd hr hA
  (refine TO.step rfl (OT.loadA0 tab hA rfl rfl rfl rfl rfl ?_))
  refine uA ?_
  refine TO.step rfl (OT.call (all:=treeV hd :: cap) rfl rfl rfl rfl rfl (by rw [fl_eq];rfl) hg ((hp hd l[k] (List.getElem_mem hlt) hr).x ?_))
  rintro _ _ _ ⟨rfl,rfl,rfl⟩
  refine uA ?_
  refine TC.cond rfl (fun h => ?_) (fun h => ?_)
  ·refine uA ?_
   refine retQ_ret rfl uS ⟨rfl,rfl, ?_⟩
   rw [hI,List.drop_eq_getElem_cons hlt,idxP,if_pos h]
  ·refine uA ?_
   refine TO.step rfl (OT.arith (r':=((k + 1 : Nat) : Int)) rfl rfl rfl rfl rfl rfl rfl (by omega) ?_)
   refine uA ?_
   exact ⟨k + 1,uH,uH,rfl,rfl,uS,⟨by omega,by rw [hI,List.drop_eq_getElem_cons hlt,idxP,if_neg (by simp [h])]⟩,by omega⟩
 ·refine uA ?_
  refine retQ_ret rfl uS ⟨rfl,rfl, ?_⟩
  rw [hI,List.drop_eq_nil_of_le (by omega)]
  rfl
set_option maxHeartbeats 400000 in
theorem containsFunc_node (m : Mem) (L : List Item) (s : Sl) (l : List Tree) (p : Tree→Bool) (fn : FuncId) (cap : List Value) (hg : Goes Tryz.prog fn) (hs : SlRep rTree m s l)
  (hp : ∀ (h : HTree) (a : Tree),a ∈ l→rTree.rep m h a→TCall Tryz.prog fn ⟨treeV h :: cap⟩ m L (Ret (.bool (p a)) m L)) :
  TCall Tryz.prog 71 ⟨[s.v, .func (.func fn) ⟨[]⟩ ⟨cap⟩]⟩ m L (Ret (.bool (l.any p)) m L):=by
 unfold TCall
 refine TCallX.enter Tryz.func71 rfl 9 rfl ?_
 refine uA ?_
 refine TO.step rfl (OT.call rfl rfl rfl rfl rfl rfl goes122 ((indexFunc_node m L s l p fn cap hg hs hp).x ?_));
 rintro _ _ _ ⟨rfl,rfl,rfl⟩
 refine uA ?_
 refine retQ_ret rfl uS ⟨rfl,rfl, ?_⟩
 rw [idxP_ge]
set_option maxHeartbeats 800000 in
theorem bare_law (m : Mem) (L : List Item) (h : HTree) (a : Tree) (hr : TreeRep m h a) (k t u : Bool) :
  TCall Tryz.prog 39 ⟨[treeV h, .bool k, .bool t, .bool u]⟩ m L (Ret (.bool (bareB a k t u)) m L):=by
 obtain ⟨h1,h2,h3,h4⟩:=hr
 unfold TCall
 refine TCallX.enter Tryz.func39 rfl 26 rfl ?_
 refine uA ?_
 refine TO.step rfl (OT.box rfl rfl rfl rfl rfl (fun b => ?_))
 cases k <;> cases t <;> cases u
 all_goals repeat' (first|(first|refine q1 ?_|refine q3 ?_|refine q4 tab rfl rfl ?_|refine q5 ?_|refine q6 ?_|refine q15 ?_)|(refine qs rfl (ql tab 0 rfl rfl rfl rfl rfl rfl ?_))|(refine TO.splitP rfl rfl (fun hb => ?_) (fun hb => ?_)))
 all_goals
  refine retQ_ret rfl uS ⟨rfl,rfl, ?_⟩
  refine congrArg Value.bool ?_
  unfold bareB
  try rw [← h2]
  try rw [← h3]
  simp_all
set_option maxHeartbeats 400000 in
theorem named_law (m : Mem) (L : List Item) (h : HTree) (a : Tree) (hr : TreeRep m h a) (hB : a.wide ≤ 140737488355328) : TCall Tryz.prog 116 ⟨[treeV h]⟩ m L (Ret (.bool (isName a.name)) m L):=by
 obtain ⟨h1,h2,h3,h4⟩:=hr
 have hl:=wide_name a
 unfold TCall
 refine TCallX.enter Tryz.func116 rfl 6 rfl ?_
 refine uA ?_
 refine TO.step rfl (OT.box rfl rfl rfl rfl rfl (fun b => ?_))
 refine uL ?_
 refine TO.step rfl (OT.call rfl rfl rfl rfl rfl rfl goes53 ((name_law _ _ h.name (by rw [h2];omega)).x ?_));
 rintro _ _ _ ⟨rfl,rfl,rfl⟩
 refine uA ?_
 refine retQ_ret rfl uS ⟨rfl,rfl, ?_⟩
 rw [h2]
set_option maxHeartbeats 400000 in
theorem of_law (m : Mem) (L : List Item) (h : HTree) (a : Tree) (hr : TreeRep m h a) (hB : a.wide ≤ 140737488355328) (k : Int) :
  TCall Tryz.prog 62 ⟨[treeV h, .int .i64 k]⟩ m L (Ret (.bool (ofB a k)) m L):=by
 have hr':=hr
 obtain ⟨h1,h2,h3,h4⟩:=hr
 unfold TCall
 refine TCallX.enter Tryz.func62 rfl 15 rfl ?_
 refine uA ?_
 refine TO.step rfl (OT.box rfl rfl rfl rfl rfl (fun b => ?_))
 refine uL ?_
 refine TO.step rfl (OT.call rfl rfl rfl rfl rfl rfl goes39 ((bare_law _ _ h a hr' (decide (h.kind=k)) true false).x ?_));
 rintro _ _ _ ⟨rfl,rfl,rfl⟩
 refine uA ?_
 refine TO.split (b:=bareB a (decide (h.kind=k)) true false) rfl rfl (fun hb => ?_) (fun hb => ?_)
 ·refine uL ?_
  refine TO.step rfl (OT.call rfl rfl rfl rfl rfl rfl goes116 ((named_law _ _ h a hr' hB).x ?_));
  rintro _ _ _ ⟨rfl,rfl,rfl⟩
  refine uA ?_
  refine retQ_ret rfl uS ⟨rfl,rfl, ?_⟩
  unfold bareB at hb
  unfold ofB
  rw [h1] at hb
  simp_all
 ·refine uA ?_
  refine retQ_ret rfl uS ⟨rfl,rfl, ?_⟩
  unfold bareB at hb
  unfold ofB
  rw [h1] at hb
  simp_all
def IsPred (fn : FuncId) (p : Tree→Bool) (l : List Tree) : Prop:=Goes Tryz.prog fn ∧ ∀ (m : Mem) (L : List Item) (h : HTree) (a : Tree),a ∈ l→TreeRep m h a→TCall Tryz.prog fn ⟨[treeV h]⟩ m L (Ret (.bool (p a)) m L)
set_option maxHeartbeats 400000 in
theorem not_law (m : Mem) (L : List Item) (h : HTree) (a : Tree) (hr : TreeRep m h a) (fn : FuncId) (p : Tree→Bool) (l : List Tree) (hp : IsPred fn p l) (ha : a ∈ l) (b1 : Nat) (hA : At m b1 0 [.func (.func fn) ⟨[]⟩ ⟨[]⟩]) :
  TCall Tryz.prog 72 ⟨[treeV h, .pointer (some ⟨b1,0,none⟩)]⟩ m L (Ret (.bool (!p a)) m L):=by
 unfold TCall
 refine TCallX.enter Tryz.func72 rfl 8 rfl ?_
 refine uA ?_
 refine TO.step rfl (OT.box rfl rfl rfl rfl rfl (fun b => ?_))
 refine uA ?_
 (refine TO.step rfl (OT.loadA0 tab hA rfl rfl rfl rfl rfl ?_))
 refine uL ?_
 refine TO.step rfl (OT.call (all:=[treeV h]) rfl rfl rfl rfl rfl (by rw [fl_eq];rfl) hp.1 ((hp.2 _ _ h a ha hr).x ?_))
 rintro _ _ _ ⟨rfl,rfl,rfl⟩
 refine uA ?_
 refine retQ_ret rfl uS ⟨rfl,rfl, ?_⟩
 rfl
set_option maxHeartbeats 400000 in
theorem pall_law (m : Mem) (L : List Item) (s : Sl) (l : List Tree) (hs : SlRep rTree m s l) (fn : FuncId) (p : Tree→Bool) (hp : IsPred fn p l) :
  TCall Tryz.prog 40 ⟨[s.v, .func (.func fn) ⟨[]⟩ ⟨[]⟩]⟩ m L (Ret (.bool (l.all p)) m L):=by
 refine TCall.forget ?_
 unfold TCall
 refine TCallX.enter Tryz.func40 rfl 9 rfl ?_
 refine uB ?_
 refine TO.step rfl (OT.box rfl rfl rfl rfl rfl (fun b => ?_))
 refine TO.freeze fun m1 hm1 hA1 => ?_
 refine uA ?_
 refine TO.step rfl (OT.call rfl rfl rfl rfl rfl rfl goes71 ((containsFunc_node m1 L s l (fun a => !p a) 72 [.pointer (some ⟨b,0,none⟩)] goes72 (hs.mono hm1) (fun h a ha hr=>not_law m1 L h a (rTree_iff.1 hr) fn p l hp ha b hA1)).x ?_));
 rintro _ _ _ ⟨rfl,rfl,rfl⟩
 refine uA ?_
 refine retQ_ret rfl uS ⟨hm1,rfl, ?_⟩
 rw [List.all_eq_not_any_not]
def rFn : R FuncId FuncId where
 size:=1
 bytes:=8
 enc f:=[.func (.func f) ⟨[]⟩ ⟨[]⟩]
 rep _ f g:=f=g
 enc_len _:=rfl
 one f:=rfl
 mono _ h:=h
def restV : Option (FuncId × (Tree→Bool))→Value
 | none => .nilFunc
 | some p => .func (.func p.1) ⟨[]⟩ ⟨[]⟩
def restB : Option (FuncId × (Tree→Bool))→Option (Tree→Bool)
 | none=>none
 | some p=>some p.2
set_option maxHeartbeats 1600000 in
theorem kids_law (m : Mem) (L : List Item) (h : HTree) (a : Tree) (hr : TreeRep m h a) (s : Sl) (ps : List (FuncId × (Tree→Bool))) (rest : Option (FuncId × (Tree→Bool))) (hf : SlRep rFn m s (ps.map Prod.fst)) (hp : ∀ p ∈ ps,IsPred p.1 p.2 a.kids) (hq : ∀ p,rest=some p→IsPred p.1 p.2 a.kids) :
  TCall Tryz.prog 63 ⟨[treeV h,restV rest,s.v]⟩ m L (Ret (.bool (kidsR (ps.map Prod.snd) (restB rest) a.kids)) m L):=by
 obtain ⟨h1,h2,h3,h4⟩:=hr
 have hl:=h4.len
 have hsm:=h4.small rfl
 have hl2:=hf.len
 rw [List.length_map] at hl2
 cases rest with
 | none =>
  show TCall _ _ ⟨[treeV h, .nilFunc,s.v]⟩ _ _ _
  unfold TCall
  refine TCallX.enter Tryz.func63 rfl 50 rfl ?_
  refine uA ?_
  refine TO.step rfl (OT.box rfl rfl rfl rfl rfl (fun b => ?_))
  refine uL ?_
  (refine TO.splitP rfl rfl (fun hb => ?_) (fun hb => ?_))
  ·refine uA ?_
   refine retQ_ret rfl uS ⟨rfl,rfl, ?_⟩
   rw [kidsR_short _ _ _ (by rw [List.length_map];omega)]
  refine uL ?_
  refine TO.step rfl (OT.nilFn tab rfl rfl rfl rfl rfl (by kernel_rfl) ?_)
  refine uL ?_
  refine TC.condP rfl (fun hb2 => ?_) (fun hb2 => ?_)
  ·refine uA ?_
   refine retQ_ret rfl uS ⟨rfl,rfl, ?_⟩
   refine congrArg Value.bool (Eq.symm ?_)
   exact kidsR_long _ _ (by rw [List.length_map];omega)
  refine uL ?_
  refine TC.loopK (ι:=Nat) [1,2,29,30] rfl (fun k=>[(31, .int .i64 (k : Int))]) (fun _=>m) (fun _=>L) (fun k=>k ≤ a.kids.length∧kidsR (ps.map Prod.snd) (restB none) a.kids=kidsR ((ps.map Prod.snd).drop k) (restB none) (a.kids.drop k)) (fun k=>a.kids.length - k) 0 uH rfl uS ⟨Nat.zero_le _,rfl⟩ ?_
  rintro k ⟨hk,hI⟩
  refine uA ?_
  refine TC.condP rfl (fun h => ?_) (fun h => ?_)
  ·have hlt : k < a.kids.length:=by omega
   have hx : a.kids[k]? = some a.kids[k]:=by simp [hlt]
   refine uA ?_
   refine TO.step rfl (OT.index tab rTree k h4 rfl rfl rfl rfl rfl (by first | rfl | omega | (simp only;omega)) rfl hx ?_)
   rintro b' i hd hrd hA
   (refine TO.step rfl (OT.loadA0 tab hA rfl rfl rfl rfl rfl ?_))
   refine uA ?_
   refine TO.step rfl (OT.alloc tab rfl rfl rfl rfl (fun b2 => ?_))
   refine uA ?_
   refine uT ?_
   refine uA ?_
   refine TC.condP rfl (fun h5 => ?_) (fun h5 => ?_)
   ·have hlt2 : k < ps.length:=by omega
    have hx2 : (ps.map Prod.fst)[k]? = some ps[k].1:=by simp [hlt2]
    refine uA ?_
    refine TO.step rfl (OT.index tab rFn k hf rfl rfl rfl rfl rfl (by first | rfl | omega | (simp only;omega)) rfl hx2 ?_)
    rintro b3 i3 fn hfn hA3
    obtain rfl : fn=ps[k].1:=hfn
    (refine TO.step rfl (OT.loadA0 tab hA3 rfl rfl rfl rfl rfl ?_))
    refine uL ?_
    have hpp:=hp ps[k] (List.getElem_mem hlt2)
    have hst:=kidsR_step (ps.map Prod.snd) (restB none) a.kids k (by rw [List.length_map];exact hlt2) hlt
    rw [List.getElem_map] at hst
    refine TO.step rfl (OT.call (all:=[treeV hd]) rfl rfl rfl rfl rfl (by rw [fl_eq];rfl) hpp.1 ((hpp.2 _ _ hd a.kids[k] (List.getElem_mem hlt) (rTree_iff.1 hrd)).x ?_))
    rintro _ _ _ ⟨rfl,rfl,rfl⟩
    refine uA ?_
    refine TC.cond (t := !ps[k].2 a.kids[k]) rfl (fun h6 => ?_) (fun h6 => ?_)
    ·refine uA ?_
     refine retQ_ret rfl uS ⟨rfl,rfl, ?_⟩
     rw [hI,hst]
     simp_all
    ·refine uA ?_
     refine TO.step rfl (OT.arith (r':=((k + 1 : Nat) : Int)) rfl rfl rfl rfl rfl rfl rfl (by omega) ?_)
     refine uA ?_
     exact ⟨k + 1,uH,uH,rfl,rfl,uS,⟨by omega,by rw [hI,hst];simp_all⟩,by omega⟩
   ·skip
    omega
  ·refine uA ?_
   refine retQ_ret rfl uS ⟨rfl,rfl, ?_⟩
   rw [hI,kidsR_end _ _ _ _ (by rw [List.length_map];omega) (by omega)]
 | some p =>
  show TCall _ _ ⟨[treeV h, .func (.func p.1) ⟨[]⟩ ⟨[]⟩,s.v]⟩ _ _ _
  unfold TCall
  refine TCallX.enter Tryz.func63 rfl 50 rfl ?_
  refine uA ?_
  refine TO.step rfl (OT.box rfl rfl rfl rfl rfl (fun b => ?_))
  refine uL ?_
  (refine TO.splitP rfl rfl (fun hb => ?_) (fun hb => ?_))
  ·refine uA ?_
   refine retQ_ret rfl uS ⟨rfl,rfl, ?_⟩
   rw [kidsR_short _ _ _ (by rw [List.length_map];omega)]
  refine uL ?_
  refine TO.step rfl (OT.nilFn2 tab rfl rfl rfl rfl rfl (by kernel_rfl) ?_)
  refine uL ?_
  refine TC.loopK (ι:=Nat) [1,2,29,30] rfl (fun k=>[(31, .int .i64 (k : Int))]) (fun _=>m) (fun _=>L) (fun k=>k ≤ a.kids.length∧kidsR (ps.map Prod.snd) (restB (some p)) a.kids=kidsR ((ps.map Prod.snd).drop k) (restB (some p)) (a.kids.drop k)) (fun k=>a.kids.length - k) 0 uH rfl uS ⟨Nat.zero_le _,rfl⟩ ?_
  rintro k ⟨hk,hI⟩
  refine uA ?_
  refine TC.condP rfl (fun h => ?_) (fun h => ?_)
  ·have hlt : k < a.kids.length:=by omega
   have hx : a.kids[k]? = some a.kids[k]:=by simp [hlt]
   refine uA ?_
   refine TO.step rfl (OT.index tab rTree k h4 rfl rfl rfl rfl rfl (by first | rfl | omega | (simp only;omega)) rfl hx ?_)
   rintro b' i hd hrd hA
   (refine TO.step rfl (OT.loadA0 tab hA rfl rfl rfl rfl rfl ?_))
   refine uA ?_
   refine TO.step rfl (OT.alloc tab rfl rfl rfl rfl (fun b2 => ?_))
   refine uA ?_
   refine uT ?_
   refine uA ?_
   refine TC.condP rfl (fun h5 => ?_) (fun h5 => ?_)
   ·have hlt2 : k < ps.length:=by omega
    have hx2 : (ps.map Prod.fst)[k]? = some ps[k].1:=by simp [hlt2]
    refine uA ?_
    refine TO.step rfl (OT.index tab rFn k hf rfl rfl rfl rfl rfl (by first | rfl | omega | (simp only;omega)) rfl hx2 ?_)
    rintro b3 i3 fn hfn hA3
    obtain rfl : fn=ps[k].1:=hfn
    (refine TO.step rfl (OT.loadA0 tab hA3 rfl rfl rfl rfl rfl ?_))
    refine uL ?_
    have hpp:=hp ps[k] (List.getElem_mem hlt2)
    have hst:=kidsR_step (ps.map Prod.snd) (restB (some p)) a.kids k (by rw [List.length_map];exact hlt2) hlt
    rw [List.getElem_map] at hst
    refine TO.step rfl (OT.call (all:=[treeV hd]) rfl rfl rfl rfl rfl (by rw [fl_eq];rfl) hpp.1 ((hpp.2 _ _ hd a.kids[k] (List.getElem_mem hlt) (rTree_iff.1 hrd)).x ?_))
    rintro _ _ _ ⟨rfl,rfl,rfl⟩
    refine uA ?_
    refine TC.cond (t := !ps[k].2 a.kids[k]) rfl (fun h6 => ?_) (fun h6 => ?_)
    ·refine uA ?_
     refine retQ_ret rfl uS ⟨rfl,rfl, ?_⟩
     rw [hI,hst]
     simp_all
    ·refine uA ?_
     refine TO.step rfl (OT.arith (r':=((k + 1 : Nat) : Int)) rfl rfl rfl rfl rfl rfl rfl (by omega) ?_)
     refine uA ?_
     exact ⟨k + 1,uH,uH,rfl,rfl,uS,⟨by omega,by rw [hI,hst];simp_all⟩,by omega⟩
   ·skip
    have hst:=kidsR_rest (ps.map Prod.snd) p.2 a.kids k (by rw [List.length_map];omega) hlt
    have hpp:=hq p rfl
    refine uA ?_
    refine uM ?_
    refine uA ?_
    refine TO.step rfl (OT.call (all:=[treeV hd]) rfl rfl rfl rfl rfl (by rw [fl_eq];rfl) hpp.1 ((hpp.2 _ _ hd a.kids[k] (List.getElem_mem hlt) (rTree_iff.1 hrd)).x ?_))
    rintro _ _ _ ⟨rfl,rfl,rfl⟩
    refine uA ?_
    refine TC.cond (t := !p.2 a.kids[k]) rfl (fun h6 => ?_) (fun h6 => ?_)
    ·refine uA ?_
     refine retQ_ret rfl uS ⟨rfl,rfl, ?_⟩
     rw [hI]
     refine congrArg Value.bool ?_
     refine Eq.symm (hst.trans ?_)
     simp_all
    ·refine uA ?_
     refine TO.step rfl (OT.arith (r':=((k + 1 : Nat) : Int)) rfl rfl rfl rfl rfl rfl rfl (by omega) ?_)
     refine uA ?_
     exact ⟨k + 1,uH,uH,rfl,rfl,uS,⟨by omega,by rw [hI];refine hst.trans ?_;simp_all [restB]⟩,by omega⟩
  ·refine uA ?_
   refine retQ_ret rfl uS ⟨rfl,rfl, ?_⟩
   rw [hI,kidsR_end _ _ _ _ (by rw [List.length_map];omega) (by omega)]
end Go.Sep


/- PsSnd1 -/
set_option linter.unusedVariables false
set_option linter.unusedSimpArgs false
namespace Go.Sep
open Go.Proofs
attribute [local irreducible] TC TO OT TCallX TCall DO DOt thenQ blockQ retQ At
theorem sl1 {m : Mem} {b : Nat} {fn : FuncId} (h : At m b 0 [.func (.func fn) ⟨[]⟩ ⟨[]⟩]) : SlRep rFn m ⟨some ⟨b,0,none⟩,1,1⟩ [fn]:=SlRep.one (r:=rFn) (h:=fn) h rfl (by decide)
set_option maxHeartbeats 1600000 in
theorem type_law (a : Tree) : ∀ (m : Mem) (L : List Item) (h : HTree) (hr : TreeRep m h a) (hB : a.wide ≤ 140737488355328),TCall Tryz.prog 34 ⟨[treeV h]⟩ m L (Ret (.bool a.isType) m L):=by
 induction a using Tree.ind with
 | h a ih =>
 intro m L h hr hB
 have hp : IsPred 34 Tree.isType a.kids:=⟨goes34,fun m L h k hk hr=>ih k hk m L h hr (Nat.le_trans ((wide_kid hk)) hB)⟩
 have hr':=hr
 obtain ⟨h1,h2,h3,h4⟩:=hr
 have hl:=h4.len
 refine TCall.forget ?_
 rw [isType_eq]
 unfold TCall
 refine TCallX.enter Tryz.func34 rfl 47 rfl ?_
 by_cases h10 : a.kind=10
 ·rw [if_pos h10]
  obtain ⟨k,n,u,s⟩:=h
  obtain rfl : k=10:=h1.trans h10
  refine uA ?_
  refine TO.step rfl (OT.box rfl rfl rfl rfl rfl (fun b => ?_))
  refine uL ?_
  refine TO.step rfl (OT.call rfl rfl rfl rfl rfl rfl goes62 ((of_law _ _ ⟨10,n,u,s⟩ a hr' hB 10).x ?_));
  rintro _ _ _ ⟨rfl,rfl,rfl⟩
  refine uA ?_
  refine TO.split rfl rfl (fun h7 => ?_) (fun h7 => ?_)
  ·refine uL ?_
   refine TO.step rfl (OT.call rfl rfl rfl rfl rfl rfl goes63 ((kids_law _ _ ⟨10,n,u,s⟩ a hr' ⟨none,0,0⟩ [] none (SlRep.nil _ _) (fun _ h=>by cases h) (fun _ h=>by cases h)).x ?_));
   rintro _ _ _ ⟨rfl,rfl,rfl⟩
   refine uA ?_
   refine retQ_ret rfl uS ⟨Mem.le_refl _,rfl, ?_⟩
   simp_all [kidsR0,kidsR1,ofB,restB]
  ·refine uA ?_
   refine retQ_ret rfl uS ⟨Mem.le_refl _,rfl, ?_⟩
   unfold ofB at h7
   rw [h10,decide_eq_true rfl,Bool.true_and] at h7
   rw [← Bool.and_assoc,h7];rfl
 rw [if_neg h10]
 by_cases h11 : a.kind=11 ∨ a.kind=12
 ·rw [if_pos h11]
  have h12 : h.kind=11 ∨ h.kind=12:=by rw [h1];exact h11
  obtain ⟨k,n,u,s⟩:=h
  rcases h12 with h12 | h12
  all_goals
   simp only at h12
   subst h12
   refine uA ?_
   refine TO.step rfl (OT.box rfl rfl rfl rfl rfl (fun b => ?_))
   refine uL ?_
   refine TO.step rfl (OT.call rfl rfl rfl rfl rfl rfl goes39 ((bare_law _ _ ⟨_,n,u,s⟩ a hr' true false false).x ?_));
   rintro _ _ _ ⟨rfl,rfl,rfl⟩
   refine uA ?_
   refine TO.split rfl rfl (fun h7 => ?_) (fun h7 => ?_)
   ·refine uL ?_
    refine TO.step rfl (OT.lit tab rfl rfl rfl rfl (fun b2 => ?_))
    refine TO.freeze fun m1 hm1 hA1 => ?_
    refine uA ?_
    refine TO.step rfl (OT.call rfl rfl rfl rfl rfl rfl goes63 ((kids_law m1 _ ⟨_,n,u,s⟩ a (hr'.mono hm1) ⟨some ⟨b2,0,none⟩,1,1⟩ [(34,Tree.isType)] none (sl1 hA1) (fun p h=>by rw [List.mem_singleton.1 h];exact hp) (fun _ h=>by cases h)).x ?_));
    rintro _ _ _ ⟨rfl,rfl,rfl⟩
    refine uA ?_
    refine retQ_ret rfl uS ⟨hm1,rfl, ?_⟩
    simp_all [bareB,kidsR1,restB]
   ·refine uA ?_
    refine retQ_ret rfl uS ⟨Mem.le_refl _,rfl, ?_⟩
    unfold bareB at h7
    simp only [Bool.true_and,Bool.false_or] at h7
    rw [← Bool.and_assoc,h7];rfl
 rw [if_neg h11]
 by_cases h13 : a.kind=13
 ·rw [if_pos h13]
  obtain ⟨k,n,u,s⟩:=h
  obtain rfl : k=13:=h1.trans h13
  refine uA ?_
  refine TO.step rfl (OT.box rfl rfl rfl rfl rfl (fun b => ?_))
  refine uL ?_
  refine TO.step rfl (OT.call rfl rfl rfl rfl rfl rfl goes39 ((bare_law _ _ ⟨13,n,u,s⟩ a hr' true false true).x ?_));
  rintro _ _ _ ⟨rfl,rfl,rfl⟩
  simp only at h2 h3 hl
  refine uA ?_
  refine TO.split rfl rfl (fun h7 => ?_) (fun h7 => ?_)
  ·have hn : a.name=[]:=by unfold bareB at h7;simpa using h7
   refine uL ?_
   (refine TO.splitP rfl rfl (fun h8 => ?_) (fun h8 => ?_))
   ·refine uL ?_
    (refine TO.splitP rfl rfl (fun h9 => ?_) (fun h9 => ?_))
    ·refine uL ?_
     refine TO.step rfl (OT.call rfl rfl rfl rfl rfl rfl goes40 ((pall_law _ _ s a.kids h4 34 Tree.isType hp).x ?_));
     rintro _ _ _ ⟨rfl,rfl,rfl⟩
     refine uA ?_
     refine retQ_ret rfl uS ⟨Mem.le_refl _,rfl, ?_⟩
     simp only at h8 h9
     rw [decide_eq_true hn,decide_eq_true (by omega),decide_eq_true (by omega)];rfl
    ·refine uA ?_
     refine retQ_ret rfl uS ⟨Mem.le_refl _,rfl, ?_⟩
     simp only at h8 h9
     rw [decide_eq_true hn,decide_eq_true (by omega),decide_eq_false (by omega)];rfl
   ·refine uA ?_
    refine retQ_ret rfl uS ⟨Mem.le_refl _,rfl, ?_⟩
    simp only at h8
    rw [decide_eq_true hn,decide_eq_false (by omega)];rfl
  ·refine uA ?_
   refine retQ_ret rfl uS ⟨Mem.le_refl _,rfl, ?_⟩
   have hn : ¬ a.name=[]:=by unfold bareB at h7;simpa using h7
   rw [decide_eq_false hn];rfl
 rw [if_neg h13]
 refine uA ?_
 refine TO.step rfl (OT.box rfl rfl rfl rfl rfl (fun b => ?_))
 refine uL ?_
 refine TC.condP rfl (fun h5 => ?_) (fun h5 => ?_)
 ·omega
 refine uA ?_
 refine TC.condP rfl (fun h5 => ?_) (fun h5 => ?_)
 ·omega
 refine uA ?_
 refine TC.condP rfl (fun h5 => ?_) (fun h5 => ?_)
 ·omega
 refine uA ?_
 refine TC.condP rfl (fun h5 => ?_) (fun h5 => ?_)
 ·omega
 refine uA ?_
 exact retQ_ret rfl uS ⟨Mem.le_refl _,rfl,rfl⟩
set_option maxHeartbeats 800000 in
theorem param_law (a : Tree) (m : Mem) (L : List Item) (h : HTree) (hr : TreeRep m h a) (hB : a.wide ≤ 140737488355328) : TCall Tryz.prog 64 ⟨[treeV h]⟩ m L (Ret (.bool a.isParam) m L):=by
 have hp : IsPred 34 Tree.isType a.kids:=⟨goes34,fun m L h k hk hr=>type_law k m L h hr (Nat.le_trans ((wide_kid hk)) hB)⟩
 refine TCall.forget ?_
 unfold TCall
 refine TCallX.enter Tryz.func64 rfl 10 rfl ?_
 refine uA ?_
 refine TO.step rfl (OT.box rfl rfl rfl rfl rfl (fun b => ?_))
 refine uL ?_
 refine TO.step rfl (OT.call rfl rfl rfl rfl rfl rfl goes62 ((of_law _ _ h a hr hB 8).x ?_));
 rintro _ _ _ ⟨rfl,rfl,rfl⟩
 refine uA ?_
 refine TO.split rfl rfl (fun h7 => ?_) (fun h7 => ?_)
 ·refine uL ?_
  refine TO.step rfl (OT.lit tab rfl rfl rfl rfl (fun b2 => ?_))
  refine TO.freeze fun m1 hm1 hA1 => ?_
  refine uA ?_
  refine TO.step rfl (OT.call rfl rfl rfl rfl rfl rfl goes63 ((kids_law m1 _ h a (hr.mono hm1) ⟨some ⟨b2,0,none⟩,1,1⟩ [(34,Tree.isType)] none (sl1 hA1) (fun p h=>by rw [List.mem_singleton.1 h];exact hp) (fun _ h=>by cases h)).x ?_));
  rintro _ _ _ ⟨rfl,rfl,rfl⟩
  refine uA ?_
  refine retQ_ret rfl uS ⟨hm1,rfl, ?_⟩
  unfold Tree.isParam
  simp_all [kidsR0,kidsR1,ofB,restB]
 ·refine uA ?_
  refine retQ_ret rfl uS ⟨Mem.le_refl _,rfl, ?_⟩
  unfold ofB at h7
  unfold Tree.isParam
  rw [← Bool.and_assoc,← Bool.and_assoc,Bool.and_assoc (decide (a.kind=8)),h7];rfl
set_option maxHeartbeats 800000 in
theorem sig_law (a : Tree) (m : Mem) (L : List Item) (h : HTree) (hr : TreeRep m h a) (hB : a.wide ≤ 140737488355328) : TCall Tryz.prog 35 ⟨[treeV h]⟩ m L (Ret (.bool a.isSig) m L):=by
 have hp : IsPred 34 Tree.isType (a.kids.drop a.num.toNat):=⟨goes34,fun m L h k hk hr=>type_law k m L h hr (Nat.le_trans ((wide_kid (List.mem_of_mem_drop hk))) hB)⟩
 have hp2 : IsPred 64 Tree.isParam (a.kids.take a.num.toNat):=⟨goes64,fun m L h k hk hr=>param_law k m L h hr (Nat.le_trans ((wide_kid (List.mem_of_mem_take hk))) hB)⟩
 have hr':=hr
 obtain ⟨h1,h2,h3,h4⟩:=hr
 have hl:=h4.len
 unfold TCall
 refine TCallX.enter Tryz.func35 rfl 37 rfl ?_
 refine uA ?_
 refine TO.step rfl (OT.box rfl rfl rfl rfl rfl (fun b => ?_))
 refine uL ?_
 refine TO.step rfl (OT.call rfl rfl rfl rfl rfl rfl goes39 ((bare_law _ _ h a hr' (decide (h.kind=7)) false true).x ?_));
 rintro _ _ _ ⟨rfl,rfl,rfl⟩
 refine uA ?_
 refine TO.split rfl rfl (fun h7 => ?_) (fun h7 => ?_)
 ·have hn : a.kind=7∧a.name=[]:=by unfold bareB at h7;rw [← h1];simpa using h7
  refine uL ?_
  (refine TO.splitP rfl rfl (fun h8 => ?_) (fun h8 => ?_))
  ·refine uL ?_
   (refine TO.splitP rfl rfl (fun h9 => ?_) (fun h9 => ?_))
   ·refine uL ?_
    have hnum : h.num=((a.num.toNat : Nat) : Int):=by omega
    refine TO.step rfl (OT.cut tab rTree 0 a.num.toNat h4 rfl rfl rfl rfl rfl rfl rfl (.inl ⟨rfl,rfl⟩) (.inr (by rw [hnum])) (Nat.zero_le _) (by omega) (fun s1 hs1 => ?_))
    rw [List.drop_zero] at hs1
    refine uA ?_
    refine TO.step rfl (OT.call rfl rfl rfl rfl rfl rfl goes40 ((pall_law _ _ s1 _ hs1 64 Tree.isParam hp2).x ?_));
    rintro _ _ _ ⟨rfl,rfl,rfl⟩
    refine uA ?_
    have pre : a.isSig=((a.kids.take a.num.toNat).all Tree.isParam && (a.kids.drop a.num.toNat).all Tree.isType):=by
     unfold Tree.isSig
     rw [decide_eq_true hn.1,decide_eq_true hn.2,decide_eq_true (show 0 ≤ a.num by omega),decide_eq_true (show a.num ≤ (a.kids.length : Int) by omega)];rfl
    refine TO.split rfl rfl (fun h10 => ?_) (fun h10 => ?_)
    ·refine uL ?_
     refine TO.step rfl (OT.cut tab rTree a.num.toNat h.kids.len h4 rfl rfl rfl rfl rfl rfl rfl (.inr (by rw [hnum])) (.inl ⟨rfl,rfl⟩) (by omega) (by omega) (fun s2 hs2 => ?_))
     rw [List.take_of_length_le (by omega)] at hs2
     refine uA ?_
     refine TO.step rfl (OT.call rfl rfl rfl rfl rfl rfl goes40 ((pall_law _ _ s2 _ hs2 34 Tree.isType hp).x ?_));
     rintro _ _ _ ⟨rfl,rfl,rfl⟩
     refine uA ?_
     refine retQ_ret rfl uS ⟨rfl,rfl, ?_⟩
     rw [pre,h10];rfl
    ·refine uA ?_
     refine retQ_ret rfl uS ⟨rfl,rfl, ?_⟩
     rw [pre,h10];rfl
   ·refine uA ?_
    refine retQ_ret rfl uS ⟨rfl,rfl, ?_⟩
    unfold Tree.isSig
    rw [decide_eq_true hn.1,decide_eq_true hn.2,decide_eq_true (show 0 ≤ a.num by omega),decide_eq_false (show ¬ a.num ≤ (a.kids.length : Int) by omega)];rfl
  ·refine uA ?_
   refine retQ_ret rfl uS ⟨rfl,rfl, ?_⟩
   unfold Tree.isSig
   rw [decide_eq_true hn.1,decide_eq_true hn.2,decide_eq_false (show ¬ 0 ≤ a.num by omega)];rfl
 ·refine uA ?_
  refine retQ_ret rfl uS ⟨rfl,rfl, ?_⟩
  have hn : ¬ (a.kind=7∧a.name=[]):=by unfold bareB at h7;rw [← h1];simpa using h7
  unfold Tree.isSig
  rw [← Bool.and_assoc,← Bool.decide_and,decide_eq_false hn];rfl
end Go.Sep


/- PsConcat -/
set_option linter.unusedVariables false
set_option linter.unusedSimpArgs false
namespace Go.Sep
open Go.Proofs
attribute [local irreducible] TC TO OT TCallX TCall DO DOt thenQ blockQ retQ At
end Go.Sep


/- PsPar -/
set_option linter.unusedVariables false
set_option linter.unusedSimpArgs false
namespace Go.Sep
attribute [local irreducible] TC TO OT TCallX TCall DO DOt thenQ blockQ retQ At
theorem pfr1 {α : Type} {a0 a1 : α} {l : List α} : (a0 :: a1 :: l).Perm (a1 :: a0 :: l):=List.Perm.swap _ _ _
theorem pfr2 {α : Type} {a0 a1 a2 : α} {l : List α} : (a0 :: a1 :: a2 :: l).Perm (a2 :: a0 :: a1 :: l):=List.Perm.trans (List.Perm.cons _ pfr1) (List.Perm.swap _ _ _)
theorem pfr3 {α : Type} {a0 a1 a2 a3 : α} {l : List α} : (a0 :: a1 :: a2 :: a3 :: l).Perm (a3 :: a0 :: a1 :: a2 :: l):=List.Perm.trans (List.Perm.cons _ pfr2) (List.Perm.swap _ _ _)
theorem pfr4 {α : Type} {a0 a1 a2 a3 a4 : α} {l : List α} : (a0 :: a1 :: a2 :: a3 :: a4 :: l).Perm (a4 :: a0 :: a1 :: a2 :: a3 :: l):=List.Perm.trans (List.Perm.cons _ pfr3) (List.Perm.swap _ _ _)
structure PE where
 src : Str
 list : Sl
 toks : List Tok
 p : Nat
 N : Nat
def PE.f (E : PE) : Ps.F:=fun i=>match E.toks[i]? with
 | some t=>some ⟨t.kind,t.text,t.num⟩
 | none=>none
structure PE.Ok (E : PE) (m : Mem) : Prop where
 rep : SlRep rTok m E.list E.toks
 few : E.toks.length ≤ 20000
 rows : E.N ≤ 20001
 pos : 1 ≤ E.N
theorem PE.Ok.mono {E : PE} {m m' : Mem} (h : E.Ok m) (hm : m ≤ m') : E.Ok m':=⟨h.rep.mono hm,h.few,h.rows,h.pos⟩
@[reducible] def PE.I (E : PE) (k : Nat) (h : Int) : Item := .cells E.p 0 [strV E.src,E.list.v, .int .i64 (k : Int), .int .i64 h]
@[reducible] def PE.v (E : PE) : Value := .pointer (some ⟨E.p,0,none⟩)
def PE.place (E : PE) (k : Nat) : Int:=match E.toks[k]? with
 | some t=>t.at_
 | none=>(E.src.length : Int)
def PE.flt (E : PE) (k : Nat) : List PanicEntry:=[{ v := .iface 53 (.agg ⟨[.int .i64 (E.place k)]⟩),recovered:=false }]
abbrev RV (α : Type):=Mem→Value→List Item → α → Prop
def vTree : RV Tree:=fun m v X t => ∃ h,v=treeV h∧X=[]∧TreeRep m h t
def vList : RV (List Tree):=fun m v X l => ∃ s,v=s.v∧X=[tok s 4]∧SlRep rTree m s l∧Own s∧l.length ≤ 20001
def vSl : RV (List Tree):=fun m v X l => ∃ s,v=s.v∧X=[]∧SlRep rTree m s l∧l.length ≤ 20001
def pR {α : Type} (E : PE) (V : RV α) (T : Ps.Res α) (m : Mem) (L : List Item) (h : Int) : Value→Mem→List Item→Prop :=
 fun v m' L' => ∃ a k' xs,T = .ok a k' ∧ m ≤ m' ∧ k' ≤ E.toks.length∧V m' v xs a∧L' = E.I k' h :: (xs++L)
def pX {α : Type} (E : PE) (T : Ps.Res α) (m : Mem) (L : List Item) : List PanicEntry→Mem→List Item→Prop :=
 fun ch m' L' => ∃ k' h',T = .bad k' ∧ m ≤ m' ∧ k' ≤ E.toks.length∧ch=E.flt k' ∧ L' = E.I k' h' :: L
def Par {α : Type} (P : Program) (mb : Mem) (E : PE) (V : RV α) (f : FuncId) (args : List Value) (h : Int) (X : Ps.Pp α) : Prop :=
 ∀ (m : Mem) (L : List Item) (k : Nat),mb ≤ m→E.Ok m→k ≤ E.toks.length→X E.f k ≠ .out→TCallX P f ⟨args⟩ m (E.I k h :: L) (pR E V (X E.f k) m L h) (pX E (X E.f k) m L)
theorem Par.enter {α : Type} {P : Program} {mb : Mem} {E : PE} {V : RV α} {f : FuncId} {args : List Value} {h : Int} {X : Ps.Pp α} {fn : Func} {c : Code} (hf : P.funcs[f]? = some fn) (hb : fn.body=some c) (N : Nat) (hN : Nat.ble N fn.ntmps=true)
  (hK : ∀ (m : Mem) (L : List Item) (k : Nat) (T : Ps.Res α),mb ≤ m→E.Ok m→k ≤ E.toks.length→T=X E.f k→T ≠ .out→TC P N c (argEnv args 0) [] m (E.I k h :: L) (retQ P fn (pR E V T m L h) (pX E T m L))) : Par P mb E V f args h X :=
 fun m L k h0 h1 h2 h3=>TCallX.enter hf hb N hN (hK m L k _ h0 h1 h2 rfl h3)
theorem Par.up {α : Type} {P : Program} {mb mb' : Mem} {E : PE} {V : RV α} {f : FuncId} {args : List Value} {h : Int} {X : Ps.Pp α} (hp : Par P mb E V f args h X) (hm : mb ≤ mb') : Par P mb' E V f args h X:=fun m L k h0=>hp m L k (Mem.le_trans hm h0)
def Bad {β : Type} (Q : EPost) (E : PE) (T : Ps.Res β) (m : Mem) (L : List Item) : Prop := ∀ ρ m' k h L',m ≤ m' → k ≤ E.toks.length→T = .bad k→L.Sublist L' → Q (.panic (E.flt k)) ρ [] m' (E.I k h :: L')
theorem Bad.ret {β : Type} {P : Program} {fn : Func} {R : Value→Mem→List Item→Prop} {E : PE} {T : Ps.Res β} {m : Mem} {L : List Item} : Bad (retQ P fn R (pX E T m L)) E T m L :=
 fun ρ m' k h L' h1 h2 h3 h4=>retQ_p (L':=E.I k h :: L) (List.Sublist.cons_cons _ h4) ⟨k,h,h3,h1,h2,rfl,rfl⟩
theorem Bad.then {β : Type} {Q : EPost} {K : Env→List Deferred→Mem→List Item→Prop} {E : PE} {T : Ps.Res β} {m : Mem} {L : List Item} (h : Bad Q E T m L) : Bad (thenQ K Q) E T m L:=fun ρ m' k hd L' h1 h2 h3 h4=>thenQ_p (h ρ m' k hd L' h1 h2 h3 h4)
theorem Bad.block {β : Type} {Q : EPost} {i : Nat} {E : PE} {T : Ps.Res β} {m : Mem} {L : List Item} (h : Bad Q E T m L) : Bad (blockQ i Q) E T m L:=fun ρ m' k hd L' h1 h2 h3 h4=>blockQ_p (h ρ m' k hd L' h1 h2 h3 h4)
theorem Bad.le {β : Type} {Q : EPost} {E : PE} {T : Ps.Res β} {m m' : Mem} {L : List Item} (h : Bad Q E T m L) (hm : m ≤ m') : Bad Q E T m' L:=fun ρ m2 k hd L' h1 h2 h3 h4=>h ρ m2 k hd L' (Mem.le_trans hm h1) h2 h3 h4
theorem bind_out' {α β : Type} {p : Ps.Pp α} {g : α → Ps.Pp β} {f : Ps.F} {k : Nat} {T : Ps.Res β} (hT : T=Ps.bind p g f k) (hn : T ≠ .out) : p f k ≠ .out:=fun h=>hn (by rw [hT];unfold Ps.bind;rw [h])
section
variable {P : Program} {N : Nat} {ρ : Env} {m : Mem} {L : List Item} {Q : EPost} {o : Oper} {K : Env→Mem→List Item→Prop} {E : PE} {α β : Type}
theorem OT.parG {V : RV α} {FF : Operand} {args : List Operand} {ats : Array TypeId} {f : FuncId} {first cap vs all : List Value} {d : Nat} {h : Int} {p : Ps.Pp α} {g : α → Ps.Pp β} {T : Ps.Res β} {k : Nat} {m0 mb : Mem} {L0 : List Item}
  (ho : o.op = .call ⟨.value FF,⟨args⟩,ats⟩) (hd : o.dst=some d) (hN : Nat.blt d N=true)
  (hF : ev ρ FF=some (.func (.func f) ⟨first⟩ ⟨cap⟩)) (ha : evs ρ args=some vs) (hall : fl (first++(vs++cap))=some all) (hg : Goes P f)
  (hp : Par P mb E V f all h p) (hq : mb ≤ m) (hT : T=Ps.bind p g E.f k) (hn : T ≠ .out) (hE : E.Ok m) (hk : k ≤ E.toks.length) (hb : Bad Q E T m0 L0) (hm : m0 ≤ m) (hL : L0.Sublist L)
  (hK : ∀ v m' a k' xs,T=g a E.f k' → m ≤ m' → k' ≤ E.toks.length→V m' v xs a→K ((d,v) :: ρ) m' (E.I k' h :: (xs++L))) : OT P N o ρ [] m (E.I k h :: L) Q K:=by
 refine OT.call ho hd hN hF ha hall hg (TCallX.mono (hp m L k hq hE hk (bind_out' hT hn)) ?_ ?_)
 ·rintro v m' L' ⟨a,k',xs,h1,h2,h3,h4,rfl⟩
  exact hK v m' a k' xs (by rw [hT];unfold Ps.bind;rw [h1]) h2 h3 h4
 ·rintro ch m' L' ⟨k',h',h1,h2,h3,rfl,rfl⟩
  exact hb _ _ _ _ _ (Mem.le_trans hm h2) h3 (by rw [hT];unfold Ps.bind;rw [h1]) hL
section
variable {FF : Operand} {args : List Operand} {ats : Array TypeId} {f : FuncId} {first cap vs all : List Value} {d : Nat} {h : Int} {T : Ps.Res β} {k : Nat} {m0 mb : Mem} {L0 : List Item}
theorem OT.parT {p : Ps.Pp Tree} {g : Tree→Ps.Pp β} (hp : Par P mb E vTree f all h p) (hq : mb ≤ m) (hT : T=Ps.bind p g E.f k) (hn : T ≠ .out) (hE : E.Ok m) (hk : k ≤ E.toks.length) (hb : Bad Q E T m0 L0) (hm : m0 ≤ m) (hL : L0.Sublist L)
  (ho : o.op = .call ⟨.value FF,⟨args⟩,ats⟩) (hd : o.dst=some d) (hN : Nat.blt d N=true)
  (hF : ev ρ FF=some (.func (.func f) ⟨first⟩ ⟨cap⟩)) (ha : evs ρ args=some vs) (hall : fl (first++(vs++cap))=some all) (hg : Goes P f)
  (hK : ∀ x m' a k',T=g a E.f k' → m0 ≤ m' → E.Ok m' → m ≤ m' → k' ≤ E.toks.length→TreeRep m' x a→K ((d,treeV x) :: ρ) m' (E.I k' h :: L)) : OT P N o ρ [] m (E.I k h :: L) Q K :=
 OT.parG ho hd hN hF ha hall hg hp hq hT hn hE hk hb hm hL fun v m' a k' xs h1 h2 h3 h4=>by
  obtain ⟨x,rfl,rfl,h5⟩:=h4
  exact hK x m' a k' h1 (Mem.le_trans hm h2) (hE.mono h2) h2 h3 h5
theorem OT.parL {p : Ps.Pp (List Tree)} {g : List Tree→Ps.Pp β} (hp : Par P mb E vList f all h p) (hq : mb ≤ m) (hT : T=Ps.bind p g E.f k) (hn : T ≠ .out) (hE : E.Ok m) (hk : k ≤ E.toks.length) (hb : Bad Q E T m0 L0) (hm : m0 ≤ m) (hL : L0.Sublist L)
  (ho : o.op = .call ⟨.value FF,⟨args⟩,ats⟩) (hd : o.dst=some d) (hN : Nat.blt d N=true)
  (hF : ev ρ FF=some (.func (.func f) ⟨first⟩ ⟨cap⟩)) (ha : evs ρ args=some vs) (hall : fl (first++(vs++cap))=some all) (hg : Goes P f)
  (hK : ∀ (x : Sl) m' a k',T=g a E.f k' → m0 ≤ m' → E.Ok m' → m ≤ m' → k' ≤ E.toks.length→SlRep rTree m' x a→Own x→a.length ≤ 20001→K ((d,x.v) :: ρ) m' (E.I k' h :: tok x 4 :: L)) : OT P N o ρ [] m (E.I k h :: L) Q K :=
 OT.parG ho hd hN hF ha hall hg hp hq hT hn hE hk hb hm hL fun v m' a k' xs h1 h2 h3 h4=>by
  obtain ⟨x,rfl,rfl,h5,h6,h7⟩:=h4
  exact hK x m' a k' h1 (Mem.le_trans hm h2) (hE.mono h2) h2 h3 h5 h6 h7
theorem OT.parS {p : Ps.Pp (List Tree)} {g : List Tree→Ps.Pp β} (hp : Par P mb E vSl f all h p) (hq : mb ≤ m) (hT : T=Ps.bind p g E.f k) (hn : T ≠ .out) (hE : E.Ok m) (hk : k ≤ E.toks.length) (hb : Bad Q E T m0 L0) (hm : m0 ≤ m) (hL : L0.Sublist L)
  (ho : o.op = .call ⟨.value FF,⟨args⟩,ats⟩) (hd : o.dst=some d) (hN : Nat.blt d N=true)
  (hF : ev ρ FF=some (.func (.func f) ⟨first⟩ ⟨cap⟩)) (ha : evs ρ args=some vs) (hall : fl (first++(vs++cap))=some all) (hg : Goes P f)
  (hK : ∀ (x : Sl) m' a k',T=g a E.f k' → m0 ≤ m' → E.Ok m' → m ≤ m' → k' ≤ E.toks.length→SlRep rTree m' x a→a.length ≤ 20001→K ((d,x.v) :: ρ) m' (E.I k' h :: L)) : OT P N o ρ [] m (E.I k h :: L) Q K :=
 OT.parG ho hd hN hF ha hall hg hp hq hT hn hE hk hb hm hL fun v m' a k' xs h1 h2 h3 h4=>by
  obtain ⟨x,rfl,rfl,h5,h6⟩:=h4
  exact hK x m' a k' h1 (Mem.le_trans hm h2) (hE.mono h2) h2 h3 h5 h6
end
theorem DOt.perm {ops : List Oper} {ts : List Nat} {fuel : Nat} {listed : List Bool} {D : List Deferred} {L' : List Item} (hp : L.Perm L') (h : DOt P N ops ts fuel listed ρ D m L' Q) : DOt P N ops ts fuel listed ρ D m L Q:=by
 unfold DOt at h ⊢
 exact fun a w ha=>h a w (ha.perm hp)
end
end Go.Sep


/- PsW1 -/
set_option linter.unusedVariables false
set_option linter.unusedSimpArgs false
namespace Go.Sep
open Go.Proofs
attribute [local irreducible] TC TO OT TCallX TCall DO DOt thenQ blockQ retQ At
theorem PE.f_some {E : PE} {k : Nat} (h : k < E.toks.length) : E.f k=some ⟨(E.toks[k]).kind,(E.toks[k]).text,(E.toks[k]).num⟩:=by
 unfold PE.f;rw [List.getElem?_eq_getElem h]
theorem PE.f_none {E : PE} {k : Nat} (h : E.toks.length ≤ k) : E.f k=none:=by
 unfold PE.f;rw [List.getElem?_eq_none h]
theorem PE.isM {E : PE} {k : Nat} (h : k < E.toks.length) (s : Str) : Ps.isM s E.f k=((decide ((E.toks[k]).kind=4) || decide ((E.toks[k]).kind=5)) && decide ((E.toks[k]).text=s)):=by
 unfold Ps.isM;rw [PE.f_some h]
theorem PE.isM_no {E : PE} {k : Nat} (h : E.toks.length ≤ k) (s : Str) : Ps.isM s E.f k=false:=by
 unfold Ps.isM;rw [PE.f_none h]
theorem PE.isK {E : PE} {k : Nat} (h : k < E.toks.length) (c : Int) : Ps.isK c E.f k=decide ((E.toks[k]).kind=c):=by
 unfold Ps.isK;rw [PE.f_some h]
theorem PE.isK_no {E : PE} {k : Nat} (h : E.toks.length ≤ k) (c : Int) : Ps.isK c E.f k=false:=by
 unfold Ps.isK;rw [PE.f_none h]
section
variable {E : PE} {m : Mem} {L : List Item} {k : Nat} {h : Int}
theorem peek_law (s : Str) (hE : E.Ok m) (hk : k ≤ E.toks.length) : TCall Tryz.prog 142 ⟨[E.v,strV s]⟩ m (E.I k h :: L) (Ret (.bool (Ps.isM s E.f k)) m (E.I k h :: L)):=by
 have hlen:=hE.rep.len
 have hfew:=hE.few
 unfold TCall
 refine TCallX.enter Tryz.func142 rfl 40 rfl ?_
 refine uA ?_
 refine TC.draw0 [] mixed 10 rfl ?_
 refine DO.pure tab uC (by kernel_rfl) [0,1,2] (by kernel_rfl) rfl ?_
 (refine DO.loadL tab 3 0 uC (by kernel_rfl) (by kernel_rfl) rfl rfl rfl rfl rfl rfl rfl rfl ?_)
 refine DO.pure tab uC (by kernel_rfl) [4,5,6] (by kernel_rfl) rfl ?_
 (refine DO.loadL tab 7 0 uC (by kernel_rfl) (by kernel_rfl) rfl rfl rfl rfl rfl rfl rfl rfl ?_)
 refine DO.pure tab uC (by kernel_rfl) [8,9] (by kernel_rfl) rfl ?_
 (refine DO.nil0 (by kernel_rfl) ?_)
 rotate_left 1
 refine uA ?_
 refine TC.condP rfl (fun c0 => ?_) (fun c0 => ?_)
 ·refine uA ?_
  refine retQ_ret rfl uS ⟨rfl,rfl, ?_⟩
  rw [PE.isM_no (by omega)]
 have hlt : k < E.toks.length:=by omega
 have hx : E.toks[k]? = some E.toks[k]:=List.getElem?_eq_getElem hlt
 refine uA ?_
 refine TC.draw [11] mixed 12 rfl [E.I k h] L uP ?_
 refine DO.pure tab uC (by kernel_rfl) [0,1,2] (by kernel_rfl) rfl ?_
 (refine DO.loadL tab 3 0 uC (by kernel_rfl) (by kernel_rfl) rfl rfl rfl rfl rfl rfl rfl rfl ?_)
 refine DO.pure tab uC (by kernel_rfl) [4,5,6] (by kernel_rfl) rfl ?_
 (refine DO.loadL tab 7 0 uC (by kernel_rfl) (by kernel_rfl) rfl rfl rfl rfl rfl rfl rfl rfl ?_)
 refine DO.index tab rTok 8 k hE.rep uC (by kernel_rfl) (by kernel_rfl) rfl rfl rfl rfl rfl rfl rfl (by first | rfl | omega) rfl hx ?_
 rintro b i hd hr hA;obtain rfl:=(show hd=E.toks[k] from hr)
 (refine DO.loadA (k:=0) tab 9 hA uC (by kernel_rfl) (by kernel_rfl) rfl rfl rfl rfl rfl rfl rfl ?_)
 refine DO.run 10 rfl rfl (by kernel_rfl) rfl ?_
 refine OT.alloc tab rfl rfl rfl rfl (fun bx => ?_);refine ⟨Mem.le_refl _, .cells bx 0 [.int .i64 0, .string ⟨#[]⟩, .int .i64 0, .int .i64 0] :: L,List.Perm.swap _ _ _, ?_⟩
 refine DO.tail ?_
 refine DOt.run 11 rfl rfl (by kernel_rfl) rfl ?_
 refine OT.storeL0 tab 1 rfl rfl rfl rfl rfl rfl rfl rfl ?_
 refine DOt.nil (by kernel_rfl) ?_
 rotate_left 1
 repeat' (first|(first|refine q1 ?_|refine q3 ?_|refine q4 tab rfl rfl ?_|refine q5 ?_|refine q6 ?_|refine q15 ?_)|(refine qs rfl (ql tab 1 rfl rfl rfl rfl rfl rfl ?_))|(refine TO.splitP rfl rfl (fun hb => ?_) (fun hb => ?_)))
 all_goals
  refine retQ_ret rfl uS ⟨rfl,rfl, ?_⟩
  rw [PE.isM hlt]
  simp_all [tokC]
@[reducible] def PE.step (E : PE) (s : Str) (k : Nat) : Nat:=bif Ps.isM s E.f k then k + 1 else k
theorem PE.isM_lt {s : Str} (h : Ps.isM s E.f k=true) : k < E.toks.length:=by
 rcases Nat.lt_or_ge k E.toks.length with hl | hl
 ·exact hl
 ·rw [PE.isM_no hl] at h;cases h
theorem PE.isK_lt {c : Int} (h : Ps.isK c E.f k=true) : k < E.toks.length:=by
 rcases Nat.lt_or_ge k E.toks.length with hl | hl
 ·exact hl
 ·rw [PE.isK_no hl] at h;cases h
theorem take_law (s : Str) (hE : E.Ok m) (hk : k ≤ E.toks.length) : TCall Tryz.prog 110 ⟨[E.v,strV s]⟩ m (E.I k h :: L) (Ret (.bool (Ps.isM s E.f k)) m (E.I (E.step s k) h :: L)):=by
 have hfew:=hE.few
 unfold TCall
 refine TCallX.enter Tryz.func110 rfl 15 rfl ?_
 refine uA ?_
 refine TO.step rfl (OT.call rfl rfl rfl rfl rfl rfl goes142 ((peek_law s hE hk).x ?_));
 rintro _ _ _ ⟨rfl,rfl,rfl⟩
 refine uA ?_
 unfold PE.step
 cases hb : Ps.isM s E.f k with
 | true =>
  refine uA ?_
  refine uM ?_
  refine TO.step rfl (OT.arith (r':=((k + 1 : Nat) : Int)) rfl rfl rfl rfl rfl rfl rfl (by omega) ?_)
  refine uA ?_
  refine TO.step rfl (OT.storeL (k:=2) tab 0 rfl rfl rfl rfl rfl rfl rfl rfl ?_)
  refine uA ?_
  refine retQ_ret rfl (L':=E.I (k + 1) h :: L) uS ⟨rfl,rfl,rfl⟩
 | false =>
  refine uA ?_
  refine retQ_ret rfl (L':=E.I k h :: L) uS ⟨rfl,rfl,rfl⟩
theorem place_law (hE : E.Ok m) (hk : k ≤ E.toks.length) : TCall Tryz.prog 174 ⟨[E.v]⟩ m (E.I k h :: L) (Ret (.int .i64 (E.place k)) m (E.I k h :: L)):=by
 have hlen:=hE.rep.len
 have hfew:=hE.few
 unfold TCall
 refine TCallX.enter Tryz.func174 rfl 29 rfl ?_
 refine uA ?_
 refine TC.draw0 [] mixed 10 rfl ?_
 refine DO.pure tab uC (by kernel_rfl) [0,1,2] (by kernel_rfl) rfl ?_
 (refine DO.loadL tab 3 0 uC (by kernel_rfl) (by kernel_rfl) rfl rfl rfl rfl rfl rfl rfl rfl ?_)
 refine DO.pure tab uC (by kernel_rfl) [4,5,6] (by kernel_rfl) rfl ?_
 (refine DO.loadL tab 7 0 uC (by kernel_rfl) (by kernel_rfl) rfl rfl rfl rfl rfl rfl rfl rfl ?_)
 refine DO.pure tab uC (by kernel_rfl) [8,9] (by kernel_rfl) rfl ?_
 (refine DO.nil0 (by kernel_rfl) ?_)
 rotate_left 1
 refine uA ?_
 refine TC.condP rfl (fun c0 => ?_) (fun c0 => ?_)
 ·have hlt : k < E.toks.length:=by omega
  have hx : E.toks[k]? = some E.toks[k]:=List.getElem?_eq_getElem hlt
  refine uA ?_
  refine TC.draw0 [] mixed 12 rfl ?_
  refine DO.pure tab uC (by kernel_rfl) [0,1,2] (by kernel_rfl) rfl ?_
  (refine DO.loadL tab 3 0 uC (by kernel_rfl) (by kernel_rfl) rfl rfl rfl rfl rfl rfl rfl rfl ?_)
  refine DO.pure tab uC (by kernel_rfl) [4,5,6] (by kernel_rfl) rfl ?_
  (refine DO.loadL tab 7 0 uC (by kernel_rfl) (by kernel_rfl) rfl rfl rfl rfl rfl rfl rfl rfl ?_)
  refine DO.index tab rTok 8 k hE.rep uC (by kernel_rfl) (by kernel_rfl) rfl rfl rfl rfl rfl rfl rfl (by first | rfl | omega) rfl hx ?_
  rintro b i hd hr hA;obtain rfl:=(show hd=E.toks[k] from hr)
  refine DO.pure tab uC (by kernel_rfl) [9] (by kernel_rfl) rfl ?_
  (refine DO.loadA tab 10 hA uC (by kernel_rfl) (by kernel_rfl) rfl rfl rfl rfl rfl rfl rfl ?_)
  refine DO.pure tab uC (by kernel_rfl) [11] (by kernel_rfl) rfl ?_
  (refine DO.nil0 (by kernel_rfl) ?_)
  rotate_left 1
  refine uA ?_
  refine retQ_ret rfl uS ⟨rfl,rfl, ?_⟩
  unfold PE.place;rw [hx]
 ·refine uA ?_
  refine uM ?_
  refine uA ?_
  refine retQ_ret rfl uS ⟨rfl,rfl, ?_⟩
  unfold PE.place;rw [List.getElem?_eq_none (by omega)]
theorem stop_law (hE : E.Ok m) (hk : k ≤ E.toks.length) : TCallX Tryz.prog 144 ⟨[E.v]⟩ m (E.I k h :: L) (fun _ _ _=>False) (fun ch m' L'=>m' = m∧ch=E.flt k∧L' = E.I k h :: L):=by
 refine TCallX.enter Tryz.func144 rfl 6 rfl ?_
 refine uA ?_
 refine TO.step rfl (OT.call rfl rfl rfl rfl rfl rfl goes174 ((place_law hE hk).x ?_));
 rintro _ _ _ ⟨rfl,rfl,rfl⟩
 refine uA ?_
 refine TO.step rfl (OT.mkIface tab rfl rfl rfl rfl rfl ?_)
 refine uA ?_
 refine TO.step rfl (OT.panic rfl rfl ?_)
 exact retQ_p (L':=E.I k h :: L) uS ⟨rfl,rfl,rfl⟩
theorem is_law (c : Int) (hE : E.Ok m) (hk : k ≤ E.toks.length) : TCall Tryz.prog 145 ⟨[E.v, .int .i64 c]⟩ m (E.I k h :: L) (Ret (.bool (Ps.isK c E.f k)) m (E.I k h :: L)):=by
 have hlen:=hE.rep.len
 have hfew:=hE.few
 unfold TCall
 refine TCallX.enter Tryz.func145 rfl 30 rfl ?_
 refine uA ?_
 rcases Nat.lt_or_ge k E.toks.length with hlt | hge
 ·have hx : E.toks[k]? = some E.toks[k]:=List.getElem?_eq_getElem hlt
  refine TC.draw0 [] mixed 26 rfl ?_
  refine DO.pure tab uC (by kernel_rfl) [0,1,2] (by kernel_rfl) rfl ?_
  (refine DO.loadL tab 3 0 uC (by kernel_rfl) (by kernel_rfl) rfl rfl rfl rfl rfl rfl rfl rfl ?_)
  refine DO.pure tab uC (by kernel_rfl) [4,5,6] (by kernel_rfl) rfl ?_
  (refine DO.loadL tab 7 0 uC (by kernel_rfl) (by kernel_rfl) rfl rfl rfl rfl rfl rfl rfl rfl ?_)
  refine DO.pure tab uC (by kernel_rfl) [8,9,10] (by kernel_rfl) rfl ?_
  (refine DO.splitP (d:=15) rfl (fun hg10 => ?_) (fun hg10 => ?_))
  refine DO.pure tab uC (by kernel_rfl) [11,12,13] (by kernel_rfl) rfl ?_
  (refine DO.loadL tab 14 0 uC (by kernel_rfl) (by kernel_rfl) rfl rfl rfl rfl rfl rfl rfl rfl ?_)
  refine DO.pure tab uC (by kernel_rfl) [15,16,17] (by kernel_rfl) rfl ?_
  (refine DO.loadL tab 18 0 uC (by kernel_rfl) (by kernel_rfl) rfl rfl rfl rfl rfl rfl rfl rfl ?_)
  refine DO.index tab rTok 19 k hE.rep uC (by kernel_rfl) (by kernel_rfl) rfl rfl rfl rfl rfl rfl rfl (by first | rfl | omega) rfl hx ?_
  rintro b i hd hr hA;obtain rfl:=(show hd=E.toks[k] from hr)
  refine DO.pure tab uC (by kernel_rfl) [20] (by kernel_rfl) rfl ?_
  (refine DO.loadA tab 21 hA uC (by kernel_rfl) (by kernel_rfl) rfl rfl rfl rfl rfl rfl rfl ?_)
  refine DO.pure tab uC (by kernel_rfl) [22,23,24,25] (by kernel_rfl) rfl ?_
  (refine DO.nil0 (by kernel_rfl) ?_)
  rotate_left 1
  ·first | (exfalso;omega) | exact absurd rfl hg10 | exact absurd (by assumption) hg10 | contradiction
  refine uA ?_
  refine retQ_ret rfl uS ⟨rfl,rfl, ?_⟩
  rw [PE.isK hlt]
 ·refine TC.draw0 [] mixed 26 rfl ?_
  refine DO.pure tab uC (by kernel_rfl) [0,1,2] (by kernel_rfl) rfl ?_
  (refine DO.loadL tab 3 0 uC (by kernel_rfl) (by kernel_rfl) rfl rfl rfl rfl rfl rfl rfl rfl ?_)
  refine DO.pure tab uC (by kernel_rfl) [4,5,6] (by kernel_rfl) rfl ?_
  (refine DO.loadL tab 7 0 uC (by kernel_rfl) (by kernel_rfl) rfl rfl rfl rfl rfl rfl rfl rfl ?_)
  refine DO.pure tab uC (by kernel_rfl) [8,9,10] (by kernel_rfl) rfl ?_
  (refine DO.splitP (d:=15) rfl (fun hg10 => ?_) (fun hg10 => ?_))
  ·first | (exfalso;omega) | exact absurd rfl hg10 | exact absurd (by assumption) hg10 | contradiction
  refine DO.pure tab uC (by kernel_rfl) [11,12,13,14,15,16,17,18,19,20,21,22,23,24,25] (by kernel_rfl) rfl ?_
  (refine DO.nil0 (by kernel_rfl) ?_)
  rotate_left 1
  refine uA ?_
  refine retQ_ret rfl uS ⟨rfl,rfl, ?_⟩
  rw [PE.isK_no hge]
end
end Go.Sep


/- PsW2 -/
set_option linter.unusedVariables false
set_option linter.unusedSimpArgs false
namespace Go.Ps
variable {α β : Type}
theorem tok_t {s : Sep.Str} {A B : Pp α} {f : F} {k : Nat} (h : isM s f k=true) : tok s A B f k=A f (k + 1):=by unfold tok;rw [h];rfl
theorem tok_f {s : Sep.Str} {A B : Pp α} {f : F} {k : Nat} (h : isM s f k=false) : tok s A B f k=B f k:=by unfold tok;rw [h];rfl
theorem peek_t' {q : F→Nat→Bool} {A B : Pp α} {f : F} {k : Nat} (h : q f k=true) : peek q A B f k=A f k:=by unfold peek;rw [h];rfl
theorem peek_f' {q : F→Nat→Bool} {A B : Pp α} {f : F} {k : Nat} (h : q f k=false) : peek q A B f k=B f k:=by unfold peek;rw [h];rfl
theorem name_t {A : Sep.Str→Pp α} {f : F} {k : Nat} {t : Tk} (h : f k=some t) (hk : t.kind=1) : name A f k=A t.text f (k + 1):=by
 unfold name tkn;rw [h];simp only [hk];rfl
theorem name_f {A : Sep.Str→Pp α} {f : F} {k : Nat} (h : isK 1 f k=false) : name A f k = .bad k:=by
 unfold isK at h
 unfold name tkn
 cases hf : f k with
 | none=>rfl
 | some t=>rw [hf] at h;simp only at h;simp only [h];rfl
end Go.Ps
namespace Go.Sep
open Go.Proofs
attribute [local irreducible] TC TO OT TCallX TCall DO DOt thenQ blockQ retQ At
section
variable {E : PE} {m : Mem} {L : List Item} {k : Nat} {h : Int}
theorem need_law (s : Str) (hE : E.Ok m) (hk : k ≤ E.toks.length) : TCallX Tryz.prog 112 ⟨[E.v,strV s]⟩ m (E.I k h :: L)
  (fun v m' L'=>m' = m∧v = .tuple ⟨[]⟩ ∧ Ps.isM s E.f k=true∧L' = E.I (k + 1) h :: L) (fun ch m' L'=>m' = m∧Ps.isM s E.f k=false∧ch=E.flt k∧L' = E.I k h :: L):=by
 refine TCallX.enter Tryz.func112 rfl 10 rfl ?_
 refine uA ?_
 refine TO.step rfl (OT.call rfl rfl rfl rfl rfl rfl goes110 ((take_law s hE hk).x ?_));
 rintro _ _ _ ⟨rfl,rfl,rfl⟩
 refine uA ?_
 unfold PE.step
 cases hb : Ps.isM s E.f k with
 | true =>
  refine uA ?_
  refine retQ_n rfl (L':=E.I (k + 1) h :: L) uS ⟨rfl,rfl,rfl,rfl⟩
 | false =>
  refine uA ?_
  refine TO.step rfl (OT.call rfl rfl rfl rfl rfl rfl goes144 (TCallX.mono (stop_law hE hk) (fun _ _ _ hf=>hf.elim) ?_))
  rintro _ _ _ ⟨rfl,rfl,rfl⟩
  skip
  exact retQ_p (L':=E.I k h :: L) uS ⟨rfl,rfl,rfl,rfl⟩
theorem pname_law (hE : E.Ok m) (hk : k ≤ E.toks.length) : TCallX Tryz.prog 113 ⟨[E.v]⟩ m (E.I k h :: L)
  (fun v m' L'=>m' = m ∧ ∃ t,E.f k=some t∧t.kind=1∧v=strV t.text∧k + 1 ≤ E.toks.length∧L' = E.I (k + 1) h :: L) (fun ch m' L'=>m' = m∧Ps.isK 1 E.f k=false∧ch=E.flt k∧L' = E.I k h :: L):=by
 refine TCallX.enter Tryz.func113 rfl 27 rfl ?_
 have hlen:=hE.rep.len
 have hfew:=hE.few
 refine uA ?_
 refine TO.step rfl (OT.call rfl rfl rfl rfl rfl rfl goes145 ((is_law 1 hE hk).x ?_));
 rintro _ _ _ ⟨rfl,rfl,rfl⟩
 refine uA ?_
 cases hb : Ps.isK 1 E.f k with
 | true =>
  have hlt:=PE.isK_lt hb
  have hx : E.toks[k]? = some E.toks[k]:=List.getElem?_eq_getElem hlt
  have hkind : E.toks[k].kind=1:=by rw [PE.isK hlt] at hb;simpa using hb
  refine uA ?_
  refine uM ?_
  refine TO.step rfl (OT.arith (r':=((k + 1 : Nat) : Int)) rfl rfl rfl rfl rfl rfl rfl (by omega) ?_)
  refine uA ?_
  refine TO.step rfl (OT.storeL (k:=2) tab 0 rfl rfl rfl rfl rfl rfl rfl rfl ?_)
  refine uA ?_
  refine TC.draw0 [] mixed 13 rfl ?_
  refine DO.pure tab uC (by kernel_rfl) [0,1,2] (by kernel_rfl) rfl ?_
  (refine DO.loadL tab 3 0 uC (by kernel_rfl) (by kernel_rfl) rfl rfl rfl rfl rfl rfl rfl rfl ?_)
  refine DO.pure tab uC (by kernel_rfl) [4,5,6] (by kernel_rfl) rfl ?_
  (refine DO.loadL tab 7 0 uC (by kernel_rfl) (by kernel_rfl) rfl rfl rfl rfl rfl rfl rfl rfl ?_)
  refine DO.arith 8 (r':=((k : Nat) : Int)) uC (by kernel_rfl) (by kernel_rfl) rfl rfl rfl rfl rfl rfl rfl rfl (by first | rfl | omega | (simp only;omega)) (by omega) ?_
  refine DO.index tab rTok 9 k hE.rep uC (by kernel_rfl) (by kernel_rfl) rfl rfl rfl rfl rfl rfl rfl (by first | rfl | omega) rfl hx ?_
  rintro b i hd hr hA;obtain rfl:=(show hd=E.toks[k] from hr)
  refine DO.pure tab uC (by kernel_rfl) [10] (by kernel_rfl) rfl ?_
  (refine DO.loadA tab 11 hA uC (by kernel_rfl) (by kernel_rfl) rfl rfl rfl rfl rfl rfl rfl ?_)
  refine DO.pure tab uC (by kernel_rfl) [12] (by kernel_rfl) rfl ?_
  (refine DO.nil0 (by kernel_rfl) ?_)
  rotate_left 1
  refine uA ?_
  refine retQ_ret rfl (L':=E.I (k + 1) h :: L) uS ⟨rfl,_,PE.f_some hlt,hkind,rfl,hlt,rfl⟩
 | false =>
  refine uA ?_
  refine TO.step rfl (OT.call rfl rfl rfl rfl rfl rfl goes144 (TCallX.mono (stop_law hE hk) (fun _ _ _ hf=>hf.elim) ?_))
  rintro _ _ _ ⟨rfl,rfl,rfl⟩
  repeat (refine thenQ_p ?_)
  exact retQ_p (L':=E.I k h :: L) uS ⟨rfl,rfl,rfl,rfl⟩
end
section
variable {P : Program} {N : Nat} {ρ : Env} {m : Mem} {L : List Item} {Q : EPost} {o : Oper} {K : Env→Mem→List Item→Prop} {E : PE} {α β : Type}
 {FF : Operand} {args : List Operand} {ats : Array TypeId} {first cap vs : List Value} {d : Nat} {h : Int} {T : Ps.Res β} {k : Nat} {m0 : Mem} {L0 : List Item} {s : Str} {A B : Ps.Pp β}
theorem OT.takeP {D : List Deferred} (hT : T=Ps.tok s A B E.f k) (hE : E.Ok m) (hk : k ≤ E.toks.length)
  (ho : o.op = .call ⟨.value FF,⟨args⟩,ats⟩) (hd : o.dst=some d) (hN : Nat.blt d N=true)
  (hF : ev ρ FF=some (.func (.func 110) ⟨first⟩ ⟨cap⟩)) (ha : evs ρ args=some vs) (hall : fl (first++(vs++cap))=some [E.v,strV s])
  (h1 : T=A E.f (k + 1)→k + 1 ≤ E.toks.length→K ((d, .bool true) :: ρ) m (E.I (k + 1) h :: L)) (h2 : T=B E.f k→K ((d, .bool false) :: ρ) m (E.I k h :: L)) : OT Tryz.prog N o ρ D m (E.I k h :: L) Q K:=by
 refine OT.call ho hd hN hF ha hall goes110 ((take_law s hE hk).x ?_)
 rintro _ _ _ ⟨rfl,rfl,rfl⟩
 unfold PE.step
 cases hb : Ps.isM s E.f k with
 | true=>exact h1 (hT.trans (Ps.tok_t hb)) (PE.isM_lt hb)
 | false=>exact h2 (hT.trans (Ps.tok_f hb))
theorem OT.peekP {D : List Deferred} (hT : T=Ps.peek (Ps.isM s) A B E.f k) (hE : E.Ok m) (hk : k ≤ E.toks.length)
  (ho : o.op = .call ⟨.value FF,⟨args⟩,ats⟩) (hd : o.dst=some d) (hN : Nat.blt d N=true)
  (hF : ev ρ FF=some (.func (.func 142) ⟨first⟩ ⟨cap⟩)) (ha : evs ρ args=some vs) (hall : fl (first++(vs++cap))=some [E.v,strV s])
  (h1 : T=A E.f k→K ((d, .bool true) :: ρ) m (E.I k h :: L)) (h2 : T=B E.f k→K ((d, .bool false) :: ρ) m (E.I k h :: L)) : OT Tryz.prog N o ρ D m (E.I k h :: L) Q K:=by
 refine OT.call ho hd hN hF ha hall goes142 ((peek_law s hE hk).x ?_)
 rintro _ _ _ ⟨rfl,rfl,rfl⟩
 cases hb : Ps.isM s E.f k with
 | true=>exact h1 (hT.trans (Ps.peek_t' hb))
 | false=>exact h2 (hT.trans (Ps.peek_f' hb))
theorem OT.needP (hT : T=Ps.need s A E.f k) (hE : E.Ok m) (hk : k ≤ E.toks.length) (hb : Bad Q E T m0 L0) (hm : m0 ≤ m) (hL : L0.Sublist L)
  (ho : o.op = .call ⟨.value FF,⟨args⟩,ats⟩) (hd : o.dst=some d) (hN : Nat.blt d N=true)
  (hF : ev ρ FF=some (.func (.func 112) ⟨first⟩ ⟨cap⟩)) (ha : evs ρ args=some vs) (hall : fl (first++(vs++cap))=some [E.v,strV s])
  (hK : T=A E.f (k + 1)→k + 1 ≤ E.toks.length→K ((d, .tuple ⟨[]⟩) :: ρ) m (E.I (k + 1) h :: L)) : OT Tryz.prog N o ρ [] m (E.I k h :: L) Q K:=by
 refine OT.call ho hd hN hF ha hall goes112 (TCallX.mono (need_law s hE hk) ?_ ?_)
 ·rintro _ _ _ ⟨rfl,rfl,h1,rfl⟩
  exact hK (hT.trans (Ps.tok_t h1)) (PE.isM_lt h1)
 ·rintro _ _ _ ⟨rfl,h1,rfl,rfl⟩
  exact hb _ _ _ _ _ hm hk (hT.trans (Ps.tok_f h1)) hL
theorem OT.stopP (hT : T = .bad k) (hE : E.Ok m) (hk : k ≤ E.toks.length) (hb : Bad Q E T m0 L0) (hm : m0 ≤ m) (hL : L0.Sublist L)
  (ho : o.op = .call ⟨.value FF,⟨args⟩,ats⟩) (hd : o.dst=some d) (hN : Nat.blt d N=true)
  (hF : ev ρ FF=some (.func (.func 144) ⟨first⟩ ⟨cap⟩)) (ha : evs ρ args=some vs) (hall : fl (first++(vs++cap))=some [E.v]) : OT Tryz.prog N o ρ [] m (E.I k h :: L) Q K:=by
 refine OT.call ho hd hN hF ha hall goes144 (TCallX.mono (stop_law hE hk) (fun _ _ _ hf=>hf.elim) ?_)
 rintro _ _ _ ⟨rfl,rfl,rfl⟩
 exact hb _ _ _ _ _ hm hk hT hL
theorem OT.nameP {A : Str→Ps.Pp β} (hT : T=Ps.name A E.f k) (hE : E.Ok m) (hk : k ≤ E.toks.length) (hb : Bad Q E T m0 L0) (hm : m0 ≤ m) (hL : L0.Sublist L)
  (ho : o.op = .call ⟨.value FF,⟨args⟩,ats⟩) (hd : o.dst=some d) (hN : Nat.blt d N=true)
  (hF : ev ρ FF=some (.func (.func 113) ⟨first⟩ ⟨cap⟩)) (ha : evs ρ args=some vs) (hall : fl (first++(vs++cap))=some [E.v])
  (hK : ∀ t : Str,T=A t E.f (k + 1)→k + 1 ≤ E.toks.length→K ((d,strV t) :: ρ) m (E.I (k + 1) h :: L)) : OT Tryz.prog N o ρ [] m (E.I k h :: L) Q K:=by
 refine OT.call ho hd hN hF ha hall goes113 (TCallX.mono (pname_law hE hk) ?_ ?_)
 ·rintro _ _ _ ⟨rfl,t,h1,h2,rfl,h3,rfl⟩
  exact hK _ (hT.trans (Ps.name_t h1 h2)) h3
 ·rintro _ _ _ ⟨rfl,h1,rfl,rfl⟩
  exact hb _ _ _ _ _ hm hk (hT.trans (Ps.name_f h1)) hL
end
end Go.Sep


/- PsRun -/
set_option linter.unusedVariables false
set_option linter.unusedSimpArgs false
namespace Go.Ps
open Go.Sep (Tree Str)
variable {α β γ : Type}
theorem bind_assoc (p : Pp α) (g : α → Pp β) (h : β → Pp γ) : bind (bind p g) h=bind p fun a=>bind (g a) h:=by
 funext f k;unfold bind
 cases p f k <;> rfl
theorem ret_bind (a : α) (g : α → Pp β) : bind (ret a) g=g a:=rfl
theorem bind_ret (p : Pp α) : bind p ret=p:=by
 funext f k;unfold bind
 cases p f k <;> rfl
theorem dry_bind (g : α → Pp β) : bind dry g=dry:=rfl
theorem tok_bind (s : Str) (A B : Pp α) (g : α → Pp β) : bind (tok s A B) g=tok s (bind A g) (bind B g):=by
 funext f k;unfold tok bind
 cases h : isM s f k <;> simp only [h,cond_true,cond_false]
theorem need_bind (s : Str) (A : Pp α) (g : α → Pp β) : bind (need s A) g=need s (bind A g):=by
 unfold need;rw [tok_bind];rfl
theorem tkn_bind (c : Int) (A : Tk→Pp α) (B : Pp α) (g : α → Pp β) : bind (tkn c A B) g=tkn c (fun t=>bind (A t) g) (bind B g):=by
 funext f k;unfold tkn bind;simp only []
 cases f k with
 | none=>rfl
 | some t=>cases h : decide (t.kind=c) <;> simp only [h,cond_true,cond_false]
theorem name_bind (A : Str→Pp α) (g : α → Pp β) : bind (name A) g=name fun s=>bind (A s) g:=by
 unfold name;rw [tkn_bind];rfl
def more (j : Nat) (X : Pp α) (acc : List α) : Pp (List α):=tok [44] (bind (commas j X) fun l=>ret (acc++l)) (ret acc)
theorem commas_acc (j : Nat) (X : Pp α) (acc : List α) : (bind (commas (j + 1) X) fun l=>ret (acc++l))=bind X fun a=>more j X (acc++[a]):=by
 show bind (bind X _) _=_
 rw [bind_assoc]
 congr 1;funext a
 rw [tok_bind,bind_assoc]
 unfold more
 congr 1
 congr 1;funext l
 show ret (acc++(a :: l))=ret (acc++[a]++l)
 rw [List.append_assoc];rfl
theorem commas_start (j : Nat) (X : Pp α) : commas (j + 1) X=bind X fun a=>more j X [a]:=by
 have h:=commas_acc j X ([] : List α)
 simp only [List.nil_append] at h
 rw [← h,bind_ret]
theorem more_zero (X : Pp α) (acc : List α) : more 0 X acc=tok [44] dry (ret acc):=rfl
theorem more_succ (j : Nat) (X : Pp α) (acc : List α) : more (j + 1) X acc=tok [44] (bind X fun a=>more j X (acc++[a])) (ret acc):=by
 rw [← commas_acc];rfl
def rest (j : Nat) (s : Str) (X : Pp α) (acc : List α) : Pp (List α):=bind (upto j s X) fun l=>ret (acc++l)
theorem rest_start (j : Nat) (s : Str) (X : Pp α) : upto j s X=rest j s X []:=by unfold rest;exact (bind_ret _).symm
theorem rest_zero (s : Str) (X : Pp α) (acc : List α) : rest 0 s X acc=dry:=rfl
theorem rest_succ (j : Nat) (s : Str) (X : Pp α) (acc : List α) : rest (j + 1) s X acc=tok s (ret acc) (bind X fun a=>rest j s X (acc++[a])):=by
 unfold rest
 show bind (tok s (ret []) _) _=_
 rw [tok_bind,bind_assoc,ret_bind,List.append_nil]
 congr 1
 congr 1;funext a
 rw [bind_assoc]
 congr 1;funext l
 show ret (acc++(a :: l))=ret (acc++[a]++l)
 rw [List.append_assoc];rfl
def decls (decl : Pp Tree) (j : Nat) (acc : List Tree) : Pp (List Tree):=bind (progL decl j) fun l=>ret (acc++l)
theorem decls_start (decl : Pp Tree) (j : Nat) : progL decl j=decls decl j []:=by unfold decls;exact (bind_ret _).symm
theorem decls_none {decl : Pp Tree} {j : Nat} {acc : List Tree} {f : F} {k : Nat} (h : f k=none) : decls decl (j + 1) acc f k = .ok acc k:=by
 have : progL decl (j + 1) f k = .ok [] k:=by unfold progL;rw [h];rfl
 unfold decls bind
 rw [this]
 show Res.ok (acc++[]) k=_
 rw [List.append_nil]
theorem decls_some {decl : Pp Tree} {j : Nat} {acc : List Tree} {f : F} {k : Nat} (h : f k ≠ none) : decls decl (j + 1) acc f k=(bind decl fun a=>decls decl j (acc++[a])) f k:=by
 have : progL decl (j + 1) f k=(bind decl fun a=>bind (progL decl j) fun l=>ret (a :: l)) f k:=by
  show (bif (f k).isNone then _ else _)=_
  cases hf : f k with
  | none=>exact absurd hf h
  | some t=>rfl
 have e : decls decl (j + 1) acc f k=bind (bind decl fun a=>bind (progL decl j) fun l=>ret (a :: l)) (fun l=>ret (acc++l)) f k:=by
  unfold decls
  unfold bind at this ⊢
  simp only [] at this ⊢
  rw [this]
 rw [e,bind_assoc]
 congr 1;congr 1;funext a
 rw [bind_assoc]
 unfold decls
 congr 1;funext l
 show ret (acc++(a :: l))=ret (acc++[a]++l)
 rw [List.append_assoc];rfl
end Go.Ps


/- PsW3 -/
set_option linter.unusedVariables false
set_option linter.unusedSimpArgs false
namespace Go.Sep
open Go.Proofs
attribute [local irreducible] TC TO OT TCallX TCall DO DOt thenQ blockQ retQ At
section
variable {mb : Mem} {E : PE} {h : Int}
set_option maxHeartbeats 1000000 in
theorem list1_par {f : FuncId} {first cap all : List Value} {X : Ps.Pp Tree} (hall : fl (first++([]++cap))=some all) (hg : Goes Tryz.prog f) (hX : Par Tryz.prog mb E vTree f all h X) :
  Par Tryz.prog mb E vList 146 [E.v, .func (.func f) ⟨first⟩ ⟨cap⟩] h (Ps.commas E.N X):=by
 refine Par.enter Tryz.func146 rfl 17 rfl fun m L k T hm0 hE hk hT hn => ?_
 replace hX:=hX.up hm0
 have hrows:=hE.rows
 have hm : m ≤ m:=Mem.le_refl _
 obtain ⟨j,hj⟩ : ∃ j,E.N=j + 1:=by
  cases hN : E.N with
  | zero=>rw [hN] at hT;exact absurd hT hn
  | succ j=>exact ⟨j,rfl⟩
 rw [hj,Ps.commas_start] at hT
 refine uA ?_
 refine TO.step rfl (OT.parT (L0:=L) hX hm hT hn hE hk (by repeat (first|exact Bad.ret|refine Bad.then ?_)) hm uS rfl rfl rfl rfl rfl hall hg (fun x m2 a k2 hT hm hE hle hk hr => ?_))
 refine uA ?_
 refine TO.step rfl (OT.litR tab rTree (hs:=[x]) (l:=[a]) ⟨rTree_iff.2 hr,trivial⟩ rfl rfl rfl rfl rfl (by decide) (fun s m3 hle3 hs ho hc => ?_))
 refine TO.tokFo hc ho 4 ?_
 refine TO.perm (List.Perm.swap _ _ _) ?_
 refine uA ?_
 refine TC.loopK (ι:=Sl × Mem × List Tree × Nat × Nat) [0,1] rfl (fun x=>[(5,x.1.v)]) (fun x=>x.2.1) (fun x=>E.I x.2.2.2.1 h :: tok x.1 4 :: L) (fun x=>m ≤ x.2.1∧E.Ok x.2.1∧x.2.2.2.1 ≤ E.toks.length∧SlRep rTree x.2.1 x.1 x.2.2.1∧Own x.1∧x.2.2.1.length + x.2.2.2.2=j + 1∧T=Ps.more x.2.2.2.2 X x.2.2.1 E.f x.2.2.2.1) (fun x=>x.2.2.2.2) (s,m3,[a],k2,j) uH rfl uS ⟨Mem.le_trans hm hle3,hE.mono hle3,hk,hs,ho,by simp only [List.length_cons,List.length_nil];omega,hT⟩ ?_
 rintro ⟨s,m3,acc,k,j2⟩ ⟨hm,hE,hk,hs,ho,hlen,hT⟩
 simp only at hm hE hk hs ho hlen hT
 cases j2 with
 | zero =>
  rw [Ps.more_zero] at hT
  refine uA ?_
  refine TO.step rfl (OT.takeP hT hE hk rfl rfl rfl rfl rfl rfl (fun hT hk => ?_) (fun hT => ?_))
  ·exact absurd hT hn
  ·refine uA ?_
   refine retQ_ret rfl (L':=E.I k h :: tok s 4 :: L) uS ⟨acc,k,[tok s 4],hT,hm,hk,⟨s,rfl,rfl,hs,ho,by omega⟩,rfl⟩
 | succ j2 =>
  rw [Ps.more_succ] at hT
  refine uA ?_
  refine TO.step rfl (OT.takeP hT hE hk rfl rfl rfl rfl rfl rfl (fun hT hk => ?_) (fun hT => ?_))
  ·refine uA ?_
   refine TO.step rfl (OT.parT (L0:=L) hX hm hT hn hE hk (by repeat (first|exact Bad.ret|refine Bad.then ?_|refine Bad.block ?_)) hm uS rfl rfl rfl rfl rfl hall hg (fun x m2 a k2 hT hm hE hle hk hr => ?_))
   refine uA ?_
   refine TO.step rfl (OT.litR tab rTree (hs:=[x]) (l:=[a]) ⟨rTree_iff.2 hr,trivial⟩ rfl rfl rfl rfl rfl (by decide) (fun s2 m3 hle3 hs2 ho2 hc2 => ?_))
   refine TO.step rfl (OT.append tab rTree 1 (hs.mono (Mem.le_trans hle hle3)) ho hs2 rfl rfl rfl rfl rfl rfl rfl (by simp only [List.length_cons,List.length_nil,rTree,mkR];omega) (fun s3 m4 hle4 hs3 ho3 => ?_))
   refine uA ?_
   exact ⟨(s3,m4,acc++[a],k2,j2),uH,uH,rfl,rfl,uS,⟨Mem.le_trans hm (Mem.le_trans hle3 hle4),hE.mono (Mem.le_trans hle3 hle4),hk,hs3,ho3,by simp only [List.length_append,List.length_cons,List.length_nil];omega,hT⟩,by simp only;omega⟩
  ·refine uA ?_
   refine retQ_ret rfl (L':=E.I k h :: tok s 4 :: L) uS ⟨acc,k,[tok s 4],hT,hm,hk,⟨s,rfl,rfl,hs,ho,by omega⟩,rfl⟩
theorem begins_law {m : Mem} {L : List Item} {k : Nat} (hE : E.Ok m) (hk : k ≤ E.toks.length) : TCall Tryz.prog 175 ⟨[E.v]⟩ m (E.I k h :: L) (Ret (.bool (Ps.begins E.f k)) m (E.I k h :: L)):=by
 unfold TCall Ps.begins
 refine TCallX.enter Tryz.func175 rfl 17 rfl ?_
 refine uA ?_
 refine TO.step rfl (OT.call rfl rfl rfl rfl rfl rfl goes145 ((is_law 1 hE hk).x ?_));
 rintro _ _ _ ⟨rfl,rfl,rfl⟩
 refine uA ?_
 cases h1 : Ps.isK 1 E.f k with
 | true => 
  refine uA ?_
  refine retQ_ret rfl uS ⟨rfl,rfl, ?_⟩
  rfl
 | false =>
  refine uA ?_
  refine TO.step rfl (OT.call rfl rfl rfl rfl rfl rfl goes142 ((peek_law [42] hE hk).x ?_));
  rintro _ _ _ ⟨rfl,rfl,rfl⟩
  refine uA ?_
  cases h2 : Ps.isM [42] E.f k with
  | true => 
   refine uA ?_
   refine retQ_ret rfl uS ⟨rfl,rfl, ?_⟩
   rfl
  | false =>
   refine uA ?_
   refine TO.step rfl (OT.call rfl rfl rfl rfl rfl rfl goes142 ((peek_law [91] hE hk).x ?_));
   rintro _ _ _ ⟨rfl,rfl,rfl⟩
   refine uA ?_
   cases h3 : Ps.isM [91] E.f k with
   | true => 
    refine uA ?_
    refine retQ_ret rfl uS ⟨rfl,rfl, ?_⟩
    rfl
   | false =>
    refine uA ?_
    refine TO.step rfl (OT.call rfl rfl rfl rfl rfl rfl goes142 ((peek_law [102,117,110,99] hE hk).x ?_));
    rintro _ _ _ ⟨rfl,rfl,rfl⟩
    refine uA ?_
    refine retQ_ret rfl uS ⟨rfl,rfl, ?_⟩
    cases Ps.isM [102,117,110,99] E.f k <;> rfl
theorem results_par {X : Ps.Pp Tree} (hX : Par Tryz.prog mb E vTree 143 [E.v] h X) :
  Par Tryz.prog mb E vSl 148 [E.v] h (Ps.resultsP E.N X):=by
 refine Par.enter Tryz.func148 rfl 18 rfl fun m L k T hm0 hE hk hT hn => ?_
 replace hX:=hX.up hm0
 have hm : m ≤ m:=Mem.le_refl _
 unfold Ps.resultsP at hT
 refine uA ?_
 refine TO.step rfl (OT.takeP hT hE hk rfl rfl rfl rfl rfl rfl (fun hT hk => ?_) (fun hT => ?_))
 ·refine uA ?_
  refine TO.step rfl (OT.parL (L0:=L) (list1_par (first:=[E.v]) (cap:=[]) rfl goes143 hX) hm hT hn hE hk (by repeat (first|exact Bad.ret|refine Bad.then ?_)) hm uS rfl rfl rfl rfl rfl rfl goes146 (fun x m2 a k2 hT hm hE hlex hk hrx hox hlx => ?_))
  refine uA ?_
  refine TO.step rfl (OT.needP (L0:=L) hT hE hk (by repeat (first|exact Bad.ret|refine Bad.then ?_)) hm uS rfl rfl rfl rfl rfl rfl (fun hT hk => ?_))
  refine uA ?_
  refine retQ_ret rfl (L':=E.I (k2 + 1) h :: L) uS ⟨a,k2 + 1,[],hT,hm,hk,⟨x,rfl,rfl,hrx,hlx⟩,rfl⟩
 ·refine uA ?_
  refine TO.step rfl (OT.call rfl rfl rfl rfl rfl rfl goes175 ((begins_law hE hk).x ?_));
  rintro _ _ _ ⟨rfl,rfl,rfl⟩
  refine uA ?_
  cases hb : Ps.begins E.f k with
  | true =>
   rw [Ps.peek_t' hb] at hT
   refine uA ?_
   refine TO.step rfl (OT.parT (L0:=L) (hX) hm hT hn hE hk (by repeat (first|exact Bad.ret|refine Bad.then ?_)) hm uS rfl rfl rfl rfl rfl rfl goes143 (fun x m2 a k2 hT hm hE hlex hk hrx => ?_))
   refine uA ?_
   refine TO.step rfl (OT.litR tab rTree (hs:=[x]) (l:=[a]) ⟨rTree_iff.2 hrx,trivial⟩ rfl rfl rfl rfl rfl (by decide) (fun s m3 hle3 hs ho hc => ?_))
   refine uA ?_
   refine retQ_ret rfl (L':=E.I k2 h :: L) uS ⟨[a],k2,[],hT,Mem.le_trans hm hle3,hk,⟨s,rfl,rfl,hs,by simp⟩,rfl⟩
  | false =>
   rw [Ps.peek_f' hb] at hT
   refine uA ?_
   refine retQ_ret rfl (L':=E.I k h :: L) uS ⟨[],k,[],hT,hm,hk,⟨⟨none,0,0⟩,rfl,rfl,SlRep.nil _ _,by simp⟩,rfl⟩
end
end Go.Sep


/- PsW4 -/
set_option linter.unusedVariables false
set_option linter.unusedSimpArgs false
namespace Go.Sep
open Go.Proofs
attribute [local irreducible] TC TO OT TCallX TCall DO DOt thenQ blockQ retQ At
section
variable {mb : Mem} {E : PE} {h : Int}
set_option maxHeartbeats 1000000 in
theorem typ_par {X : Ps.Pp Tree} (hX : Par Tryz.prog mb E vTree 143 [E.v] h X) :
  Par Tryz.prog mb E vTree 143 [E.v] h (Ps.typP E.N X):=by
 refine Par.enter Tryz.func143 rfl 50 rfl fun m L k T hm0 hE hk hT hn => ?_
 replace hX:=hX.up hm0
 have hm : m ≤ m:=Mem.le_refl _
 have hrows:=hE.rows
 unfold Ps.typP at hT
 refine uA ?_
 refine TO.step rfl (OT.alloc tab rfl rfl rfl rfl (fun b2 => ?_));refine TO.perm (List.Perm.swap _ _ _) ?_
 refine uA ?_
 refine TO.step rfl (OT.takeP hT hE hk rfl rfl rfl rfl rfl rfl (fun hT hk => ?_) (fun hT => ?_))
 ·refine uA ?_
  refine TO.step rfl (OT.parT (L0:=L) (hX) hm hT hn hE hk (by repeat (first|exact Bad.ret|refine Bad.then ?_|refine Bad.block ?_)) hm uS rfl rfl rfl rfl rfl rfl goes143 (fun x m2 a k2 hT hm hE hlex hk hrx => ?_))
  refine uA ?_
  refine TO.step rfl (OT.litR tab rTree (hs:=[x]) (l:=[a]) ⟨rTree_iff.2 hrx,trivial⟩ rfl rfl rfl rfl rfl (by decide) (fun s m3 hle3 hs ho hc => ?_))
  refine uA ?_
  refine uT ?_
  refine uA ?_
  refine retQ_ret_c1 tab 1 rfl rfl rfl rfl (L':=E.I k2 h :: L) uS ⟨_,k2,[],hT,Mem.le_trans hm hle3,hk,⟨⟨11,[],0,s⟩,rfl,rfl,⟨rfl,rfl,rfl,hs⟩⟩,rfl⟩
 refine uA ?_
 refine TO.step rfl (OT.takeP hT hE hk rfl rfl rfl rfl rfl rfl (fun hT hk => ?_) (fun hT => ?_))
 ·refine uA ?_
  refine TO.step rfl (OT.needP (L0:=L) hT hE hk (by repeat (first|exact Bad.ret|refine Bad.then ?_|refine Bad.block ?_)) hm uS rfl rfl rfl rfl rfl rfl (fun hT hk => ?_))
  refine uA ?_
  refine TO.step rfl (OT.parT (L0:=L) (hX) hm hT hn hE hk (by repeat (first|exact Bad.ret|refine Bad.then ?_|refine Bad.block ?_)) hm uS rfl rfl rfl rfl rfl rfl goes143 (fun x m2 a k2 hT hm hE hlex hk hrx => ?_))
  refine uA ?_
  refine TO.step rfl (OT.litR tab rTree (hs:=[x]) (l:=[a]) ⟨rTree_iff.2 hrx,trivial⟩ rfl rfl rfl rfl rfl (by decide) (fun s m3 hle3 hs ho hc => ?_))
  refine uA ?_
  refine uT ?_
  refine uA ?_
  refine retQ_ret_c1 tab 1 rfl rfl rfl rfl (L':=E.I k2 h :: L) uS ⟨_,k2,[],hT,Mem.le_trans hm hle3,hk,⟨⟨12,[],0,s⟩,rfl,rfl,⟨rfl,rfl,rfl,hs⟩⟩,rfl⟩
 refine uA ?_
 refine TO.step rfl (OT.takeP hT hE hk rfl rfl rfl rfl rfl rfl (fun hT hk => ?_) (fun hT => ?_))
 ·refine uA ?_
  refine TO.step rfl (OT.alloc tab rfl rfl rfl rfl (fun b3 => ?_));refine TO.perm (List.Perm.swap _ _ _) ?_
  refine uA ?_
  refine uT ?_
  refine uA ?_
  refine TO.step rfl (OT.needP (L0:=L) hT hE hk (by repeat (first|exact Bad.ret|refine Bad.then ?_|refine Bad.block ?_)) hm uS rfl rfl rfl rfl rfl rfl (fun hT hk => ?_))
  unfold Ps.inP at hT
  simp only [Ps.tok_bind,Ps.ret_bind,Ps.bind_assoc,Ps.need_bind] at hT
  refine TO.nil ?_
  refine thenQ_n ?_
  refine TC.cut (ι:=Sl × Mem × List Tree × Nat) [0,2,3] rfl (fun _=>[]) (fun i=>i.2.1) (fun i=>E.I i.2.2.2 h :: .cells b3 0 [.int .i64 13,strV [], .int .i64 0,i.1.v] :: tok i.1 4 :: .cells b2 0 [.int .i64 0,strV [], .int .i64 0, .slice none 0 0] :: L) (fun i=>m ≤ i.2.1∧E.Ok i.2.1∧i.2.2.2 ≤ E.toks.length∧SlRep rTree i.2.1 i.1 i.2.2.1∧Own i.1∧i.2.2.1.length ≤ 20001∧T=(Ps.bind (Ps.resultsP E.N X) fun rs=>Ps.ret (Tree.mk 13 [] (i.2.2.1.length : Int) (i.2.2.1++rs))) E.f i.2.2.2) ?_ ?_
  ·refine uA ?_
   refine TO.step rfl (OT.takeP hT hE hk rfl rfl rfl rfl rfl rfl (fun hT hk => ?_) (fun hT => ?_))
   ·refine TO.grow0 (size:=4) ?_
    refine TO.perm (L':=E.I (k + 1 + 1 + 1) h :: .cells b3 0 [.int .i64 13,strV [], .int .i64 0, .slice none 0 0] :: tok ⟨none,0,0⟩ 4 :: .cells b2 0 [.int .i64 0,strV [], .int .i64 0, .slice none 0 0] :: L) (List.Perm.trans (List.Perm.swap _ _ _) (List.Perm.cons _ (List.Perm.swap _ _ _))) ?_
    refine uA ?_
    exact ⟨(⟨none,0,0⟩,m,[],k + 1 + 1 + 1),uH,uH,rfl,rfl,uS,hm,hE,hk,SlRep.nil _ _,Own.nil,by simp,hT⟩
   ·refine uA ?_
    refine TO.step rfl (OT.parL (L0:=L) (list1_par (first:=[E.v]) (cap:=[]) rfl goes143 hX) hm hT hn hE hk (by repeat (first|exact Bad.ret|refine Bad.then ?_|refine Bad.block ?_)) hm uS rfl rfl rfl rfl rfl rfl goes146 (fun x m2 a k2 hT hm hE hlex hk hrx hox hlx => ?_))
    refine TO.perm (L':=E.I k2 h :: .cells b3 0 [.int .i64 13,strV [], .int .i64 0, .slice none 0 0] :: tok x 4 :: .cells b2 0 [.int .i64 0,strV [], .int .i64 0, .slice none 0 0] :: L) (List.Perm.cons _ (List.Perm.swap _ _ _)) ?_
    refine uA ?_
    refine TO.step rfl (OT.storeL (k:=3) tab 1 rfl rfl rfl rfl rfl rfl rfl rfl ?_)
    refine uA ?_
    refine TO.step rfl (OT.needP (L0:=L) hT hE hk (by repeat (first|exact Bad.ret|refine Bad.then ?_|refine Bad.block ?_)) hm uS rfl rfl rfl rfl rfl rfl (fun hT hk => ?_))
    refine uA ?_
    exact ⟨(x,m2,a,k2 + 1),uH,uH,rfl,rfl,uS,hm,hE,hk,hrx,hox,hlx,hT⟩
  ·rintro ⟨s,m1,l,k1⟩ ⟨hm,hE,hk,hs,ho,hl,hT⟩
   simp only at hm hE hk hs ho hl hT
   have hsl:=hs.len
   refine uA ?_
   refine uM ?_
   refine uA ?_
   refine TO.step rfl (OT.storeL (k:=2) tab 1 rfl rfl rfl rfl rfl rfl rfl rfl ?_)
   refine uA ?_
   refine TC.draw [6] mixed 7 rfl [.cells b3 0 [.int .i64 13,strV [], .int .i64 (s.len : Int),s.v]] (E.I k1 h :: tok s 4 :: .cells b2 0 [.int .i64 0,strV [], .int .i64 0, .slice none 0 0] :: L) (List.Perm.swap _ _ _) ?_
   refine DO.pure tab uC (by kernel_rfl) [0] (by kernel_rfl) rfl ?_
   (refine DO.loadL tab 1 0 uC (by kernel_rfl) (by kernel_rfl) rfl rfl rfl rfl rfl rfl rfl rfl ?_)
   refine DO.pure tab uC (by kernel_rfl) [2] (by kernel_rfl) rfl ?_
   refine DO.run 3 rfl rfl (by kernel_rfl) rfl ?_
   refine OT.perm (List.Perm.swap _ _ _) (OT.parS (L0:=L) (results_par hX) hm hT hn hE hk (by repeat (first|exact Bad.ret|refine Bad.then ?_|refine Bad.block ?_)) hm uS rfl rfl rfl rfl rfl rfl goes148 (fun x m2 a k2 hT hm hE hle hk hr hla => ?_));refine ⟨hle,E.I k2 h :: tok s 4 :: .cells b2 0 [.int .i64 0,strV [], .int .i64 0, .slice none 0 0] :: L,List.Perm.swap _ _ _, ?_⟩
   refine DO.run 4 rfl rfl (by kernel_rfl) rfl ?_
   refine OT.append tab rTree 2 (hs.mono hle) ho hr rfl rfl rfl rfl rfl rfl rfl (by simp only [rTree,mkR];omega) (fun s3 m4 hle4 hs3 ho3 => ?_);refine ⟨hle4,E.I k2 h :: tok s3 4 :: .cells b2 0 [.int .i64 0,strV [], .int .i64 0, .slice none 0 0] :: L,List.Perm.refl _, ?_⟩
   refine DO.pure tab uC (by kernel_rfl) [5] (by kernel_rfl) rfl ?_
   refine DO.tail ?_
   refine DOt.run 6 rfl rfl (by kernel_rfl) rfl ?_
   refine OT.storeL (k:=3) tab 0 rfl rfl rfl rfl rfl rfl rfl rfl ?_
   refine DOt.nil (by kernel_rfl) ?_
   rotate_left 1
   refine uA ?_
   refine uM ?_
   refine uA ?_
   refine TO.step rfl (OT.storeL0 tab 3 rfl rfl rfl rfl rfl rfl rfl rfl ?_)
   refine uA ?_
   refine retQ_ret_c1 tab 3 rfl rfl rfl rfl (L':=E.I k2 h :: L) uS ⟨_,k2,[],hT,Mem.le_trans hm hle4,hk,⟨⟨13,[],(s.len : Int),s3⟩,rfl,rfl,⟨rfl,rfl,by show (s.len : Int)=_;rw [hsl];rfl,hs3⟩⟩,rfl⟩
 ·refine uA ?_
  refine TO.step rfl (OT.nameP (L0:=L) hT hE hk (by repeat (first|exact Bad.ret|refine Bad.then ?_)) hm uS rfl rfl rfl rfl rfl rfl (fun t hT hk => ?_))
  refine uA ?_
  refine uT ?_
  refine uA ?_
  refine retQ_ret_c1 tab 1 rfl rfl rfl rfl (L':=E.I (k + 1) h :: L) uS ⟨_,k + 1,[],hT,hm,hk,⟨⟨10,t,0,⟨none,0,0⟩⟩,rfl,rfl,⟨rfl,rfl,rfl,SlRep.nil _ _⟩⟩,rfl⟩
end
end Go.Sep

