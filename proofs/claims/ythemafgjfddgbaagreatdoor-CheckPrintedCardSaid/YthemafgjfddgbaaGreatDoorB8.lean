/-
  Part 8 of the proof: library, walks and plain laws.
-/
import Derived.Lib.Bytealg
import Derived.Test.YthemafgjfddgbaaGreatDoorB7
set_option linter.unusedVariables false
set_option linter.unusedSimpArgs false
set_option maxHeartbeats 6400000
namespace Go.Sep
open Go.Proofs
attribute [local irreducible] TC TO OT TCallX TCall DO DOt thenQ blockQ retQ At
theorem indexByte_lite (m:Mem) (L:List Item) (s:Str) (c:UInt8):TCall Tryz.prog 138 ⟨[strV s,byteV c]⟩ m L (Ret (.int .i64 (Lib.indexByte s c)) m L):=by
 unfold TCall;refine ag Tryz.func138 8 ?_;refine qs rfl (OT.callX (E:=Extern.BytealgIndexByte.indexByte) (vs:=[strV s,byteV c]) (v:=.int .i64 (Lib.indexByte s c)) rfl rfl rfl rfl rfl Tryz.func171 uK uK uK uK (fun w _=>?_) ?_)
 ·have:=Lib.run_indexByteString (P:=Tryz.prog) ⟨⟨s⟩⟩ (c.toNat:Int) w;simpa using this
 ·refine uA ?_;exact fc
theorem indexByte_law (m:Mem) (L:List Item) (s:Str) (c:UInt8):TCall Tryz.prog 98 ⟨[strV s,byteV c]⟩ m L (Ret (.int .i64 (Lib.indexByte s c)) m L):=by
 unfold TCall;refine ag Tryz.func98 8 ?_;refine au goes138 (indexByte_lite _ _ s c) ?_;exact fc
def prefixB (p s:Str):Bool:=decide (p.length≤s.length)&&decide (s.take p.length=p)
theorem prefix_lite (m:Mem) (L:List Item) (s p:Str):TCall Tryz.prog 139 ⟨[strV s,strV p]⟩ m L (Ret (.bool (prefixB p s)) m L):=by
 unfold TCall;refine ag Tryz.func139 18 ?_
 (first | refine TO.splitP rfl rfl (fun e1=>?_) (fun e1=>?_) | refine cK rfl rfl (fun e1=>?_) (fun e1=>?_) | refine TO.split rfl rfl (fun e1=>?_) (fun e1=>?_))
 ·refine uA ?_;refine qs rfl (OT.sub tab 0 p.length rfl rfl rfl rfl rfl rfl rfl (.inl ⟨rfl,rfl⟩) (.inr rfl) (cm _) ou ?_);refine kP ?_;rw[prefixB,bS (show p.length≤s.length by omega)];rfl
 ·refine uA ?_;refine kh ?_;rw[prefixB,bU (show ¬p.length≤s.length by omega)];rfl
theorem prefix_law (m:Mem) (L:List Item) (s p:Str):TCall Tryz.prog 99 ⟨[strV s,strV p]⟩ m L (Ret (.bool (prefixB p s)) m L):=by
 unfold TCall;refine ag Tryz.func99 8 ?_;refine au goes139 (prefix_lite _ _ s p) ?_;exact fc
def lowerN (c:UInt8):Nat:=c.toNat ||| 32
theorem lower_law (m:Mem) (L:List Item) (c:UInt8):TCall Tryz.prog 195 ⟨[byteV c]⟩ m L (Ret (.int .u8 (lowerN c:Int)) m L):=by
 unfold TCall;refine ag Tryz.func195 5 ?_;refine qs rfl (OT.orU8 (a:=c.toNat) (b:=32) rfl rfl rfl rfl rfl c.toNat_lt ou ?_);refine uA ?_;exact fc
end Go.Sep
namespace Go
abbrev df := @Sep.lower_law
end Go
namespace Go.Sep
open Go.Proofs
attribute [local irreducible] TC TO OT TCallX TCall DO DOt thenQ blockQ retQ At
structure Errs (m:Mem):Prop where
 syn:∃ u v,At m 1 0 [.iface u v]
 rng:∃ u v,At m 2 0 [.iface u v]
theorem Errs.mono {m m':Mem} (h:Errs m) (hm:m≤m'):Errs m':=by
 obtain⟨⟨u,v,h1⟩,⟨u',v',h2⟩⟩:=h;exact⟨⟨u,v,h1.mono hm⟩,⟨u',v',h2.mono hm⟩⟩
theorem clone_str (m:Mem) (L:List Item) (s:Str) (hs:s.length≤140737488355328):TCall Tryz.prog 197 ⟨[strV s]⟩ m L (Ret (strV s) m L):=by
 refine mR ?_;unfold TCall;refine ag Tryz.func197 18 ?_;refine ap (fun e1=>?_) (fun e1=>?_)
 ·have h0:s=[]:=List.eq_nil_of_length_eq_zero ou;refine uA ?_;refine cH rfl uS ⟨cB _,rfl,by rw[h0]⟩
 ·refine uA ?_;refine qs rfl (OT.makeT tab (n:=s.length) (z:=.int .u8 0) rfl rfl rfl rfl rfl rfl rfl rfl (by show s.length*1≤_;omega) rfl (fun b m1 hm1 ht hp=>?_));refine uA ?_;refine qs rfl (OT.copyS tab 0 (off:=0) (k:=0) rfl rfl rfl rfl rfl (bI _) rfl rfl rfl ow ?_);rw[putAt_all ow];refine cV fun m2 hm2 hA=>?_;refine uA ?_;refine qs rfl (OT.indexP (sz:=1) tab 0 rfl rfl rfl rfl rfl rfl rfl ou ?_);refine uA ?_;refine TO.tokFull b s.length ?_;refine qs rfl (OT.unsafeStr tab (e:=5) rfl rfl rfl rfl rfl rfl uK hA rfl ou (bI _) ou (hm2.t _ _ ht) (by rw[hm2.pin];exact hp) ?_);refine uA ?_;refine ah ⟨cC hm1 hm2,rfl,rfl⟩
@[reducible] def MadeE (m:Mem) (L:List Item):Value→Mem→List Item→Prop:=Made m L fun r _=>∃ b,r = .pointer (some ⟨b,0,none⟩)
theorem syntaxError_law (m:Mem) (L:List Item) (f s:Str) (hs:s.length≤140737488355328) (hE:Errs m):TCall Tryz.prog 173 ⟨[strV f,strV s]⟩ m L (MadeE m L):=by
 obtain⟨u,v,hA⟩:=hE.syn;unfold TCall;refine ag Tryz.func173 11 ?_;exact eX
theorem rangeError_law (m:Mem) (L:List Item) (f s:Str) (hs:s.length≤140737488355328) (hE:Errs m):TCall Tryz.prog 174 ⟨[strV f,strV s]⟩ m L (MadeE m L):=by
 obtain⟨u,v,hA⟩:=hE.rng;unfold TCall;refine ag Tryz.func174 11 ?_;exact eX
@[reducible] def MadeI (m:Mem) (L:List Item):Value→Mem→List Item→Prop:=Made m L fun r _=>∃ u v,r = .iface u v
theorem toError_syn (m:Mem) (L:List Item) (f s:Str) (b z:Int) (hs:s.length≤140737488355328) (hE:Errs m):TCall Tryz.prog 142 ⟨[strV f,strV s,.int .i64 b,.int .i64 z,.iface 197 (.int .i64 2)]⟩ m L (MadeI m L):=by
 unfold TCall;refine ag Tryz.func142 43 ?_;refine lu ?_;refine oC goes173 ((syntaxError_law _ _ f s hs hE).x ?_);exact ja
theorem toError_rng (m:Mem) (L:List Item) (f s:Str) (b z:Int) (hs:s.length≤140737488355328) (hE:Errs m):TCall Tryz.prog 142 ⟨[strV f,strV s,.int .i64 b,.int .i64 z,.iface 197 (.int .i64 1)]⟩ m L (MadeI m L):=by
 unfold TCall;refine ag Tryz.func142 43 ?_;refine lu ?_;refine lu ?_;refine oC goes174 ((rangeError_law _ _ f s hs hE).x ?_);exact ja
end Go.Sep
namespace Go.Sep
open Go.Proofs
attribute [local irreducible] TC TO OT TCallX TCall DO DOt thenQ blockQ retQ At
theorem u64_in {n:Int} (h1:0≤n) (h2:n<18446744073709551616):IntKind.u64.wrap n=n:=by
 exact iP
theorem u8_in {n:Int} (h1:0≤n) (h2:n<256):IntKind.u8.wrap n=n:=by
 exact iP
def dv (c:UInt8):Option Nat :=
 if 48≤c.toNat∧c.toNat≤57 then some (c.toNat-48)
 else if 97≤lowerN c∧lowerN c≤122 then some (lowerN c-97+10)else none
def pU (base maxV:Nat):Str→Nat→Option Nat
 | [],n=>some n
 | c::cs,n=>match dv c with
  | none=>none
  | some d=>if d<base∧n*base+d≤maxV then pU base maxV cs (n*base+d)else none
def UintR (top:Nat) (o:Option Nat) (r:Value):Prop :=
 (∃ v,v≤top∧o=some v∧r = .tuple ⟨[.int .u64 (v:Int),.nilIface]⟩)∨(o=none∧∃ v k,(k=1∧v=(top:Int)∨k=2)∧r = .tuple ⟨[.int .u64 v,.iface 197 (.int .i64 k)]⟩)
theorem pU_step {base maxV:Nat} {s:Str} {k n:Nat} (h:k<s.length):pU base maxV (s.drop k) n=match dv s[k]with
  | none=>none
  | some d=>if d<base∧n*base+d≤maxV then pU base maxV (s.drop (k+1)) (n*base+d)else none:=by
 rw[bV h,pU]
theorem lowerN_lt (c:UInt8):lowerN c<256:=by
 have:=(by decide +kernel:∀ n:Fin 256,n.val ||| 32<256) ⟨c.toNat,c.toNat_lt⟩
 exact this
theorem dv_lt {c:UInt8} {d:Nat} (h:dv c=some d):d<36:=by
 unfold dv at h;split at h
 ·cases h;omega
 ·split at h
  ·cases h;omega
  ·cases h
theorem dv_dig {c:UInt8} (h1:48≤c.toNat) (h2:c.toNat≤57):dv c=some (c.toNat-48):=by
 rw[dv,if_pos ⟨h1,h2⟩]
theorem dv_low {c:UInt8} (h0:¬(48≤c.toNat∧c.toNat≤57)) (h1:97≤lowerN c) (h2:lowerN c≤122):dv c=some (lowerN c-97+10):=by
 rw[dv,if_neg h0,if_pos ⟨h1,h2⟩]
theorem dv_none {c:UInt8} (h0:¬(48≤c.toNat∧c.toNat≤57)) (h1:¬(97≤lowerN c∧lowerN c≤122)):dv c=none:=by
 rw[dv,if_neg h0,if_neg h1]
theorem pU_none {base maxV:Nat} {s:Str} {k n:Nat} (h:k<s.length) (h2:dv s[k]=none):pU base maxV (s.drop k) n=none:=by
 rw[pU_step h,h2]
theorem pU_big {base maxV:Nat} {s:Str} {k n d:Nat} (h:k<s.length) (h2:dv s[k]=some d) (h3:¬(d<base∧n*base+d≤maxV)):pU base maxV (s.drop k) n=none:=by
 rw[pU_step h,h2];exact if_neg h3
theorem pU_go {base maxV:Nat} {s:Str} {k n d:Nat} (h:k<s.length) (h2:dv s[k]=some d) (h3:d<base∧n*base+d≤maxV):pU base maxV (s.drop k) n=pU base maxV (s.drop (k+1)) (n*base+d):=by
 rw[pU_step h,h2];exact if_pos h3
theorem uint10 (m:Mem) (L:List Item) (s:Str) (hs:s≠[]) (hl:s.length≤140737488355328):TCall Tryz.prog 172 ⟨[strV s,.int .i64 10,.int .i64 64]⟩ m L (Made m L fun r _=>UintR 18446744073709551615 (pU 10 18446744073709551615 s 0) r):=by
 unfold TCall;refine ag Tryz.func172 172 ?_;refine ap (fun h=>?_) (fun h=>?_)
 ·exact absurd h hs
 refine uA ?_;refine qs rfl (OT.conv tab rfl rfl rfl rfl rfl rfl (r:=64) rfl ?_);refine qs rfl (OT.shK rfl (.inl rfl) rfl rfl rfl rfl ov (r:=0) (by rfl) ?_);refine aI (r':=18446744073709551615) uH (by rfl) ?_;refine qs rfl (OT.strBytes tab rfl rfl rfl rfl rfl rfl rfl hl (fun sb m1 hm1 hsb hlen=>?_));refine uA ?_;rw[hlen];refine cG (ι:=Nat×Nat) [1,8,9,10,11,12,99,100] rfl (fun x=>[(101,.int .i64 (x.1:Int)),(13,.int .u64 (x.2:Int))]) (fun _=>m1) (fun _=>L) (fun x=>x.1≤s.length∧x.2≤18446744073709551615∧pU 10 18446744073709551615 s 0=pU 10 18446744073709551615 (s.drop x.1) x.2) (fun x=>s.length-x.1) (0,0) uH rfl uS ⟨cm _,cm _,rfl⟩ ?_;rintro⟨k,n⟩ ⟨hk,hn,hI⟩;replace hk:k≤s.length:=hk;replace hn:n≤18446744073709551615:=hn;replace hI:pU 10 18446744073709551615 s 0=pU 10 18446744073709551615 (s.drop k) n:=hI;refine uA ?_;refine ap (fun h1=>?_) (fun h1=>?_)
 ·have hlt:k<s.length:=ou;have hx:s[k]? = some s[k]:=oG;have hc:s[k].toNat<256:=s[k].toNat_lt;refine nL ?_;rintro b i hd rfl hA;refine oL tab hA ?_;refine uB ?_;refine TC.cutT (ι:=Nat) [1,8,9,10,11,12,13,99,100,101] rfl (fun d=>[(16,.int .u8 (d:Int))]) (fun _=>m1) (fun _=>L) (fun d=>dv s[k]=some d) ?_ (fun d hd=>?_)
  ·refine uA ?_;refine az (fun h3=>?_) (fun h3=>?_)
   ·exact dH
   ·exact dH
  have hd36:=dv_lt hd;refine uA ?_;refine qs rfl (OT.conv tab rfl rfl rfl rfl rfl rfl (r:=10) rfl ?_);refine uA ?_;refine ap (fun h4=>?_) (fun h4=>?_)
  ·exact ie
  refine uA ?_;refine ap (fun h5=>?_) (fun h5=>?_)
  ·exact eD
  refine uA ?_;refine qs rfl (OT.conv tab rfl rfl rfl rfl rfl rfl (r:=10) rfl ?_);refine aI (r':=((n*10:Nat):Int)) uH (by rw[u64_in ou ou];omega) ?_;refine nT ?_;refine aI (r':=(((n*10+d) % 18446744073709551616:Nat):Int)) uH (by simp only[IntKind.wrap,IntKind.signed,IntKind.bits,Bool.false_and,Bool.false_eq_true,if_false];omega) ?_;refine az (fun h6=>?_) (fun h6=>?_)
  ·exact eD
  refine uA ?_;refine ap (fun h7=>?_) (fun h7=>?_)
  ·exact eD
  have hv:(n*10+d) % 18446744073709551616=n*10+d:=ou;rw[hv];refine nE ?_;exact⟨(k+1,n*10+d),uH,uH,rfl,rfl,uS,⟨by omega,by omega,hI.trans (pU_go hlt hd ou)⟩,by omega⟩
 ·exact iV
theorem uint16 (m:Mem) (L:List Item) (s:Str) (hs:s≠[]) (hl:s.length≤140737488355328):TCall Tryz.prog 172 ⟨[strV s,.int .i64 16,.int .i64 8]⟩ m L (Made m L fun r _=>UintR 255 (pU 16 255 s 0) r):=by
 unfold TCall;refine ag Tryz.func172 172 ?_;refine ap (fun h=>?_) (fun h=>?_)
 ·exact absurd h hs
 refine uA ?_;refine qs rfl (OT.conv tab rfl rfl rfl rfl rfl rfl (r:=8) rfl ?_);refine qs rfl (OT.shK rfl (.inl rfl) rfl rfl rfl rfl ov (r:=256) (by rfl) ?_);refine aI (r':=255) uH (by rfl) ?_;refine qs rfl (OT.strBytes tab rfl rfl rfl rfl rfl rfl rfl hl (fun sb m1 hm1 hsb hlen=>?_));refine uA ?_;rw[hlen];refine cG (ι:=Nat×Nat) [1,8,9,10,11,12,99,100] rfl (fun x=>[(101,.int .i64 (x.1:Int)),(13,.int .u64 (x.2:Int))]) (fun _=>m1) (fun _=>L) (fun x=>x.1≤s.length∧x.2≤255∧pU 16 255 s 0=pU 16 255 (s.drop x.1) x.2) (fun x=>s.length-x.1) (0,0) uH rfl uS ⟨cm _,cm _,rfl⟩ ?_;rintro⟨k,n⟩ ⟨hk,hn,hI⟩;replace hk:k≤s.length:=hk;replace hn:n≤255:=hn;replace hI:pU 16 255 s 0=pU 16 255 (s.drop k) n:=hI;refine uA ?_;refine ap (fun h1=>?_) (fun h1=>?_)
 ·have hlt:k<s.length:=ou;have hx:s[k]? = some s[k]:=oG;have hc:s[k].toNat<256:=s[k].toNat_lt;refine nL ?_;rintro b i hd rfl hA;refine oL tab hA ?_;refine uB ?_;refine TC.cutT (ι:=Nat) [1,8,9,10,11,12,13,99,100,101] rfl (fun d=>[(16,.int .u8 (d:Int))]) (fun _=>m1) (fun _=>L) (fun d=>dv s[k]=some d) ?_ (fun d hd=>?_)
  ·refine uA ?_;refine az (fun h3=>?_) (fun h3=>?_)
   ·exact dH
   ·exact dH
  have hd36:=dv_lt hd;refine uA ?_;refine qs rfl (OT.conv tab rfl rfl rfl rfl rfl rfl (r:=16) rfl ?_);refine uA ?_;refine ap (fun h4=>?_) (fun h4=>?_)
  ·exact ie
  refine uA ?_;refine ap (fun h5=>?_) (fun h5=>?_)
  ·exact eD
  refine uA ?_;refine qs rfl (OT.conv tab rfl rfl rfl rfl rfl rfl (r:=16) rfl ?_);refine aI (r':=((n*16:Nat):Int)) uH (by rw[u64_in ou ou];omega) ?_;refine nT ?_;refine aI (r':=(((n*16+d) % 18446744073709551616:Nat):Int)) uH (by simp only[IntKind.wrap,IntKind.signed,IntKind.bits,Bool.false_and,Bool.false_eq_true,if_false];omega) ?_;refine az (fun h6=>?_) (fun h6=>?_)
  ·exact eD
  refine uA ?_;refine ap (fun h7=>?_) (fun h7=>?_)
  ·exact eD
  have hv:(n*16+d) % 18446744073709551616=n*16+d:=ou;rw[hv];refine nE ?_;exact⟨(k+1,n*16+d),uH,uH,rfl,rfl,uS,⟨by omega,by omega,hI.trans (pU_go hlt hd ou)⟩,by omega⟩
 ·exact iV
end Go.Sep
namespace Go.Sep
open Go.Proofs
attribute [local irreducible] TC TO OT TCallX TCall DO DOt thenQ blockQ retQ At
def numOf (s:Str):Option Nat:=match pU 10 18446744073709551615 s 0 with
 | some v=>if v<9223372036854775808 then some v else none
 | none=>none
def IntR (o:Option Nat) (r:Value):Prop :=
 (∃ v,v<9223372036854775808∧o=some v∧r = .tuple ⟨[.int .i64 (v:Int),.nilIface]⟩)∨(o=none∧∃ v k,(k=1∨k=2)∧r = .tuple ⟨[.int .i64 v,.iface 197 (.int .i64 k)]⟩)
theorem int10 (m:Mem) (L:List Item) (s:Str) (hs:s≠[]) (h0:∀ c,s.head? = some c→dgt c=true) (hl:s.length≤140737488355328):TCall Tryz.prog 141 ⟨[strV s,.int .i64 10,.int .i64 64]⟩ m L (Made m L fun r _=>IntR (numOf s) r):=by
 have hlt:0<s.length:=List.length_pos_iff.2 hs;have hx:s[0]? = some s[0]:=oG;have hn1:48≤s[0].toNat:=by
  have h1:=h0 s[0] (by rw[List.head?_eq_getElem?];exact hx);unfold dgt at h1;have h2:=of_decide_eq_true h1;exact h2.1
 unfold TCall;refine ag Tryz.func141 73 ?_;refine ap (fun h=>?_) (fun h=>?_)
 ·exact absurd h hs
 refine uA ?_;refine lD ?_;refine uA ?_;refine ap (fun h=>?_) (fun h=>?_)
 ·omega
 refine uA ?_;refine ap (fun h=>?_) (fun h=>?_)
 ·omega
 refine uA ?_;refine oC goes172 ((uint10 _ _ s hs hl).x ?_);rintro _ m1 _ ⟨hm1,rfl,⟨v,hv,e1,rfl⟩ | ⟨e1,v,c,hc,rfl⟩⟩
 ·refine uA ?_;refine aP (.inl rfl) ?_;refine lG ?_;refine ap (fun h=>?_) (fun h=>?_)
  ·refine uA ?_;refine lY ?_;refine .inr ⟨?_,_,1,.inl rfl,rfl⟩;rw[numOf,e1];simp only;rw[if_neg ou]
  refine uA ?_;refine qs rfl (OT.conv tab rfl rfl rfl rfl rfl rfl (r:=(v:Int)) (wrap64_in ou ou) ?_);refine nq ?_;refine .inl ⟨v,by omega,?_,rfl⟩;rw[numOf,e1];simp only;rw[if_pos ou]
 ·refine uA ?_;refine mK ?_;refine qs rfl (OT.mkIface tab rfl rfl rfl rfl rfl ?_);refine qs rfl (OT.errEq tab (info:=Tryz.t197) (.inr rfl) rfl rfl rfl rfl rfl rfl uK rfl rfl ?_);rcases hc with ⟨rfl,rfl⟩ | rfl
  ·refine uA ?_;refine lG ?_;refine lY ?_;refine .inr ⟨?_,_,1,.inl rfl,rfl⟩;rw[numOf,e1]
  ·refine uA ?_;refine lk ?_;refine .inr ⟨?_,_,2,.inr rfl,rfl⟩;rw[numOf,e1]
def NumR (k:IntKind) (o:Option Nat) (r:Value):Prop :=
 (∃ v,o=some v∧r = .tuple ⟨[.int k (v:Int),.nilIface]⟩)∨(o=none∧∃ v a b,r = .tuple ⟨[.int k v,.iface a b]⟩)
theorem parseInt_law (m:Mem) (L:List Item) (s:Str) (hs:s≠[]) (h0:∀ c,s.head? = some c→dgt c=true) (hl:s.length≤140737488355328) (hE:Errs m):TCall Tryz.prog 106 ⟨[strV s,.int .i64 10,.int .i64 64]⟩ m L (Made m L fun r _=>NumR .i64 (numOf s) r):=by
 unfold TCall;refine ag Tryz.func106 25 ?_;refine oC goes141 ((int10 _ _ s hs h0 hl).x ?_);rintro _ m1 _ ⟨hm1,rfl,⟨v,hv,e1,rfl⟩ | ⟨e1,v,c,hc,rfl⟩⟩
 ·exact jc
 ·refine uA ?_;refine mK ?_;rcases hc with rfl | rfl
  ·refine oC goes142 ((toError_rng _ _ _ s 10 64 hl (hE.mono hm1)).x ?_);exact fw
  ·refine oC goes142 ((toError_syn _ _ _ s 10 64 hl (hE.mono hm1)).x ?_);exact fw
theorem parseUint_law (m:Mem) (L:List Item) (s:Str) (hs:s≠[]) (hl:s.length≤140737488355328) (hE:Errs m):TCall Tryz.prog 143 ⟨[strV s,.int .i64 16,.int .i64 8]⟩ m L (Made m L fun r _=>NumR .u64 (pU 16 255 s 0) r):=by
 unfold TCall;refine ag Tryz.func143 26 ?_;refine oC goes172 ((uint16 _ _ s hs hl).x ?_);rintro _ m1 _ ⟨hm1,rfl,⟨v,hv,e1,rfl⟩ | ⟨e1,v,c,hc,rfl⟩⟩
 ·exact jc
 ·refine uA ?_;refine mK ?_;rcases hc with ⟨rfl,_⟩ | rfl
  ·refine oC goes142 ((toError_rng _ _ _ s 16 8 hl (hE.mono hm1)).x ?_);exact fw
  ·refine oC goes142 ((toError_syn _ _ _ s 16 8 hl (hE.mono hm1)).x ?_);exact fw
end Go.Sep
namespace Go.Sep
section
variable {P:Program} {N:Nat} {ρ:Env} {D:List Deferred} {m:Mem} {L:List Item} {Q:EPost} {o:Oper} {full:List Oper} {K:Env→Mem→List Item→Prop}
theorem OT.toUnsafeE (T:Tab P) {t u e e':TypeId} {x:Operand} {b n:Nat} {d:Nat} (ho:o.op = .convert t u x) (hd:o.dst=some d) (hN:Nat.blt d N=true) (hx:ev ρ x=some (.pointer (some ⟨b,0,none⟩)))
  (ht:T.isPtr t e=true) (hu:T.isUnsafe u=true) (he:T.size1 e=true) (hb:m.t b=some (e',n)) (hn:0<n) (hK:K ((d,.pointer (some ⟨b,0,none⟩))::ρ) m L):OT P N o ρ D m L Q K:=by
 obtain⟨ti,t1,t2⟩:=isPtr_get ht;obtain⟨ui,u1,u2⟩:=isUnsafe_get hu;obtain⟨ei,e1,e2⟩:=size1_get he;refine cM hd hN (fun a w ha=>⟨w,?_,ha.st⟩) hK;have hut:=T.run_underlying w t1;rw[t2]at hut;have huu:=T.run_underlying w u1;rw[u2]at huu;have hse:=T.run_sizeOf w e1;have hsh:=ha.st.shape hb;have hn':¬(0≥n):=ou;have hv:(viewAt b).run P w = .ok none w:=by simp[viewAt,hsh]
 have hc:(cellsIn b).run P w = .ok (some n) w:=by simp[cellsIn,hsh]
 simp only[execOp,ho,ha.env.eval hx,Go.convert,Sem.run_bind,hut,huu,Result.andThen_ok,Conv.unsafePointer,Conv.seenAt,hv,hc,hse,Sem.run_pure];simp[hn',e2]
theorem OT.fromUnsafeE (T:Tab P) {t u e e':TypeId} {x:Operand} {b n:Nat} {d:Nat} (ho:o.op = .convert u t x) (hd:o.dst=some d) (hN:Nat.blt d N=true) (hx:ev ρ x=some (.pointer (some ⟨b,0,none⟩)))
  (ht:T.isPtr t e=true) (hu:T.isUnsafe u=true) (hb:m.t b=some (e',n)) (hlies:liesAt P P.depth e' (n / P.cellsOf e') 0 e 1=true) (he:T.size1 e=true) (hK:K ((d,.pointer (some ⟨b,0,none⟩))::ρ) m L):OT P N o ρ D m L Q K:=by
 obtain⟨ti,t1,t2⟩:=isPtr_get ht;obtain⟨ui,u1,u2⟩:=isUnsafe_get hu;obtain⟨ei,e1,e2⟩:=size1_get he;refine cM hd hN (fun a w ha=>⟨w,?_,ha.st⟩) hK;have hut:=T.run_underlying w t1;rw[t2]at hut;have huu:=T.run_underlying w u1;rw[u2]at huu;have hse:=T.run_sizeOf w e1;have hsh:=ha.st.shape hb;have hv:(viewAt b).run P w = .ok none w:=by simp[viewAt,hsh]
 have hva:(variablesAt ⟨b,0,none⟩ e 1).run P w = .ok true w:=by simp[variablesAt,hsh,hlies]
 simp only[execOp,ho,ha.env.eval hx,Go.convert,Sem.run_bind,hut,huu,Result.andThen_ok,Conv.unsafePointer,Conv.seenAt,hv,hse,Sem.run_pure];simp[e2,hva]
theorem run_appendST (T : Tab P) {t t2 e ty : TypeId} {ei : TI} {w : World} {s : Sl} {bs : List UInt8} {xs : List Value} {i : Nat} (he : T.elem t=some (e,ei)) (he2 : T.isStr t2=true)
  (hw : St m w L) (hi : L[i]? = some (tok s ei.size)) (ho : Own s) (hx : Src w s ei.size xs) (hsz1 : ei.size=1) (hzs : ei.zero.cells.size=ei.size) (hcap : s.len ≤ s.cap)
  (hb : 0 < ei.bytes) (hfit : (s.len + bs.length) * ei.bytes ≤ 140737488355328) (hAt : ∀ b o,s.a=some ⟨b,o,none⟩ → At m b o xs)
  (hTy : ∀ b o,s.a=some ⟨b,o,none⟩ → o=0∧m.t b=some (e,s.cap * ei.size)∧m.pin.heap.size ≤ b) :
  ∃ s' m' w',(Builtin.append_ #[t,t2] ty #[s.v,strV bs]).run P w = .ok s'.v w' ∧ m ≤ m' ∧ St m' w' (L.set i (tok s' ei.size))∧Own s' ∧ s'.len=s.len + bs.length∧s'.len ≤ s'.cap ∧
   ((s'.a=none∧xs++bs.map byteV=[]∧s'.cap=0) ∨ ∃ b o,s'.a=some ⟨b,o,none⟩ ∧ At m' b o (xs++bs.map byteV))∧(∀ b o,s'.a=some ⟨b,o,none⟩ → o=0∧m'.t b=some (e,s'.cap * ei.size)∧m'.pin.heap.size ≤ b)∧(bs=[]→s' = s):=by
 obtain ⟨ti,h4,h5,h6⟩:=elem_get he
 obtain ⟨ti2,k4,k5⟩:=isStr_get he2
 obtain ⟨_,_,hu,_⟩:=T.ok t ti h4
 rw [h5] at hu
 obtain ⟨_,_,hu2,_⟩:=T.ok t2 ti2 k4
 rw [k5] at hu2
 obtain ⟨info,q1,q2,q3,q4,q5⟩:=T.ok e ei h6
 have hnewA : ∀ w : World,(Builtin.firstCells ei.size bs.length (strV bs)).run P w = .ok (⟨bs.map byteV⟩ : Array Value) w:=fun w=>by
  have hx : (⟨⟨bs⟩⟩ : ByteArray).extract 0 bs.length = ⟨⟨bs⟩⟩:=by
   apply ByteArray.ext
   apply Array.ext'
   simp
  simp only [Builtin.firstCells,Sem.run_pure]
  rw [hx]
  congr 1
  apply Array.ext'
  simp
 have hnew:=hnewA w
 have hsize : (⟨⟨bs⟩⟩ : ByteArray).size=bs.length:=rfl
 have hylen : (bs.map byteV).length=bs.length * ei.size:=by rw [hsz1];simp
 have h1 : allOne (bs.map byteV)=true:=by
  induction bs with
  | nil=>rfl
  | cons x xs ih=>exact allOne_bytes (x :: xs)
 have hbound : s.len + bs.length ≤ 140737488355328:=bJ (Nat.le_mul_of_pos_right _ hb) hfit
 by_cases hroom : s.len + bs.length ≤ s.cap
 ·
  rcases ho with hnil | ⟨b,o,ha⟩
  ·subst hnil
   simp only at hroom
   have hz : bs.length=0:=by omega
   have hxs : xs=[]:=List.eq_nil_of_length_eq_zero (by have:=hx.1;simpa using this)
   have hns : bs=[]:=List.eq_nil_of_length_eq_zero hz
   subst hxs;subst hns
   refine ⟨⟨none,0,0⟩,m,w, ?_,m.le_refl,by rw [set_same hi];exact hw, .inl rfl,by simp [hz],by simp, .inl ⟨rfl,rfl,rfl⟩,fun b o q=>(by cases q),fun _=>rfl⟩
   have hnew':=hnew
   simp only [bg,bL] at hnew'
   simp [Builtin.append_,run_underlying hu,run_underlying hu2,sizeOf,typeInfo,q1,q3,Builtin.lenOf,hsize,hz,hnew']
  ·obtain ⟨a,n,c⟩:=s
   simp only at ha hroom hcap hbound hfit hx hAt
   subst ha
   have hst:=(hw.at_ hi)
   simp only [tok] at hst
   obtain ⟨vs,hvl,hst⟩:=hst.ofRoom
   have hnl : (bs.map byteV).length ≤ vs.length:=by
    rw [hvl,hylen];exact Nat.mul_le_mul_right _ (by omega)
   obtain ⟨w',hr,hst'⟩:=run_storeCells (P:=P) (bs.map byteV) vs 0 0 w hst h1 (by omega)
   rw [putAt_zero hnl] at hst'
   have hst2:=hst'.split
   obtain ⟨g1,g2,g3⟩:=hst2.freeze
   have g4:=g3.toRoom
   refine ⟨⟨some ⟨b,o,none⟩,n + bs.length,c⟩,m.addCells b (o + n * ei.size) (bs.map byteV),w', ?_,g1, ?_, .inr ⟨b,o,rfl⟩,rfl,hroom, .inr ⟨b,o,rfl, ?_⟩,fun b' o' q=>(by cases q;exact hTy b o rfl),fun e0=>by rw [e0];rfl⟩
   ·have hr' : (storeCells ((⟨b,o,none⟩ : Addr).add (n * ei.size)) (bs.map byteV)).run P w = .ok () w':=by rw [addr_add];exact hr
    simp [Builtin.append_,run_underlying hu,run_underlying hu2,sizeOf,typeInfo,q1,q3,Builtin.lenOf,hsize,hroom,hnew,hr']
   ·have e1 : Item.room b (o + n * ei.size + (bs.map byteV).length) (List.drop (bs.map byteV).length vs).length=tok ⟨some ⟨b,o,none⟩,n + bs.length,c⟩ ei.size:=by
     simp only [tok,bX,hvl,hylen]
     congr 1
     ·rw [Nat.add_mul];omega
     ·rw [← Nat.sub_mul];congr 1;omega
    rw [← e1]
    exact St.back hi g4
   ·refine ((hAt b o rfl).mono g1).append ?_
    rw [hx.1]
    exact g2
 ·
  have hlt : s.cap < s.len + bs.length:=by omega
  have h48 : ¬ (Builtin.nextslicecap (s.len + bs.length) s.cap * ei.bytes > 281474976710656):=by
   have:=growslice_fits hlt hfit
   omega
  have hold:=run_first (P:=P) (hx.drew)
  have hnew':=hnewA w.drew
  obtain ⟨nc,hnc,hge⟩ : ∃ nc,nc=(Question.appendCap (s.len + bs.length) s.cap e).cut (w.tape w.drawn (.appendCap (s.len + bs.length) s.cap e))∧s.len + bs.length ≤ nc:=⟨_,rfl,by simp [Question.cut]⟩
  have hst:=hw.drew.allocCells ((⟨xs⟩ : Array Value)++(⟨bs.map byteV⟩ : Array Value)++Builtin.zeroCells ei.zero.cells (nc - (s.len + bs.length))) e
  have hl1 : ((⟨xs⟩ : Array Value)++(⟨bs.map byteV⟩ : Array Value)++Builtin.zeroCells ei.zero.cells (nc - (s.len + bs.length))).toList=(xs++bs.map byteV)++(Builtin.zeroCells ei.zero.cells (nc - (s.len + bs.length))).toList:=by simp
  rw [hl1] at hst
  obtain ⟨g1,g2,g3⟩:=hst.split.freeze
  have hheap : (w.drew.alloc (.cells ((⟨xs⟩ : Array Value)++(⟨bs.map byteV⟩ : Array Value)++Builtin.zeroCells ei.zero.cells (nc - (s.len + bs.length))) e)).heap[w.drew.heap.size]? = some (.cells ((⟨xs⟩ : Array Value)++(⟨bs.map byteV⟩ : Array Value)++Builtin.zeroCells ei.zero.cells (nc - (s.len + bs.length))) e (0,0)):=heap_alloc_at _ _
  obtain ⟨f1,f2,f3⟩:=g3.typed hheap
  have g2:=g2.mono f1
  have g1:=cC g1 f1
  have g4:=f3.toRoom
  have hxl : (xs++bs.map byteV).length=(s.len + bs.length) * ei.size:=by rw [ba,hx.1,hylen,Nat.add_mul]
  refine ⟨⟨some ⟨w.heap.size,0,none⟩,s.len + bs.length,nc⟩,_,w.drew.alloc (.cells ((⟨xs⟩ : Array Value)++(⟨bs.map byteV⟩ : Array Value)++Builtin.zeroCells ei.zero.cells (nc - (s.len + bs.length))) e), ?_,g1, ?_, .inr ⟨_,_,rfl⟩,rfl,hge, .inr ⟨_,_,rfl,g2⟩,fun b' o' q => ?_,fun e0=>absurd (show s.len + bs.length ≤ s.cap by rw [e0];simpa using hcap) hroom⟩
  ·simp only [Sl.v] at hold
   have hb0 : ei.bytes ≠ 0:=by omega
   have hmax : ¬ (9223372036854775807 < (s.len : Int) + (bs.length : Int)):=by omega
   simp [Builtin.append_,run_underlying hu,run_underlying hu2,sizeOf,typeInfo,zeroValue,q1,q3,q4,q5,Builtin.lenOf,hsize,hroom,hold,hnew',h48,hmax,Question.forced,newRow,← hnc,IntKind.max,IntKind.signed,IntKind.bits,hb0]
   congr 2
   apply Array.ext'
   simp
  ·have e1 : Item.room w.heap.size (0 + (xs++bs.map byteV).length) (Builtin.zeroCells ei.zero.cells (nc - (s.len + bs.length))).toList.length=tok ⟨some ⟨w.heap.size,0,none⟩,s.len + bs.length,nc⟩ ei.size:=by
    simp only [tok,hxl,Array.length_toList,size_zeroCells,hzs]
   rw [← e1]
   have hsub : (Item.room w.heap.size (0 + (xs++bs.map byteV).length) (Builtin.zeroCells ei.zero.cells (nc - (s.len + bs.length))).toList.length :: L.eraseIdx i).Sublist (Item.room w.heap.size (0 + (xs++bs.map byteV).length) (Builtin.zeroCells ei.zero.cells (nc - (s.len + bs.length))).toList.length :: L) :=
    bY _ (List.eraseIdx_sublist L i)
   exact St.back hi (g4.sub hsub)
  ·simp only [bD,Addr.mk.injEq,and_true] at q
   obtain ⟨rfl,rfl⟩:=q
   refine ⟨rfl,f2.trans ?_,by rw [g1.pin];exact hw.size⟩
   congr 2
   rw [Array.size_append,Array.size_append,size_zeroCells,hzs]
   have h1 : (⟨xs⟩ : Array Value).size=xs.length:=rfl
   have h2 : (⟨bs.map byteV⟩ : Array Value).size=(bs.map byteV).length:=rfl
   rw [h1,h2,hx.1,hylen,← Nat.add_mul,← Nat.add_mul]
   congr 1
   show s.len + bs.length + (nc - (s.len + bs.length))=nc
   omega
theorem OT.appendST (T:Tab P) (i:Nat) {s:Sl} {l bs:List UInt8} {x y:Operand} {t t2 e:TypeId} {ei:TI} {d:Nat} (hs:SlRep rByte m s l) (hown:Own s)
  (ho:o.op = .call ⟨.builtin .append,⟨[x,y]⟩,⟨[t,t2]⟩⟩) (hd:o.dst=some d) (hN:Nat.blt d N=true) (hx:ev ρ x=some s.v) (hy:ev ρ y=some (strV bs)) (he:T.elem t=some (e,ei)) (h1:Nat.beq ei.size 1=true) (hb:Nat.beq ei.bytes 1=true) (hz:(cellsF ei.zero).map List.length=some 1) (ht2:T.isStr t2=true)
  (hi:L[i]? = some (tok s 1)) (hfit:l.length+bs.length≤140737488355328) (hTy:∀ b o,s.a=some ⟨b,o,none⟩→o=0∧m.t b=some (e,s.cap)∧m.pin.heap.size≤b)
  (hK:∀ s' m',m≤m'→SlRep rByte m' s' (l++bs)→Own s'→(∀ b o,s'.a=some ⟨b,o,none⟩→o=0∧m'.t b=some (e,s'.cap)∧m'.pin.heap.size≤b)→(bs=[]→s'=s)→K ((d,s'.v)::ρ) m' (L.set i (tok s' 1))):OT P N o ρ D m L Q K:=by
 have e1:ei.size=1:=Nat.eq_of_beq_eq_true h1;have e2:ei.bytes=1:=Nat.eq_of_beq_eq_true hb;have e3:ei.zero.cells.size=ei.size:=by
  exact g8
 intro a w ha;obtain⟨hl,g1,g2,g3,g4⟩:=hs.src ha.st;have hh:=byte_all2 g1;subst hh;rw[encs_byte]at g2 g4;obtain⟨s',m',w',hr,k1,k2,k3,k4,k5,k6,k7,k8⟩:=run_appendST (P:=P) (ty:=o.type) (bs:=bs) T he ht2 ha.st (by rw[e1];exact hi) hown (by rw[e1];exact g2) e1 e3 hs.cap ou (by rw[e2,hs.len];omega) g4 (by rw[e1];simpa using hTy);have hex:(execOp a.eval o).run P w = .ok (.value s'.v) w':=by
  exact ef
 have hrep:SlRep rByte m' s' (hl++bs):=by
  exact fp
 simp only[Oper.wp,hex,Oper.upon,hd];have hp:=ha.put hN s'.v;rw[e1]at k2;exact⟨_,_,_,⟨hp.size,hp.env,hp.defers,k2⟩,hK s' m' k1 hrep k3 (by rw[e1]at k7;simpa using k7) k8⟩
theorem OT.boxT {x:Operand} {t:TypeId} {d:Nat} {v:Value} {cs:List Value} (ho:o.op = .box t x) (hd:o.dst=some d) (hN:Nat.blt d N=true)
  (hx:ev ρ x=some v) (hv:cellsF v=some cs) (hK:∀ b m',m≤m'→m'.t b=some (t,cs.length)→K ((d,.pointer (some ⟨b,0,none⟩))::ρ) m' (.cells b 0 cs::L)):OT P N o ρ D m L Q K:=by
 intro a w ha;have hr:(execOp a.eval o).run P w = .ok (.value (.pointer (some ⟨w.heap.size,0,none⟩))) (w.alloc (.cells ⟨cs⟩ t)):=by
  exact gN
 exact fR
end
end Go.Sep
namespace Go.Sep
open Go.Proofs
attribute [local irreducible] TC TO OT TCallX TCall DO DOt thenQ blockQ retQ At
def TyB (m:Mem) (bd:Nat):Prop:=∃ T,m.t bd=some (T,2)∧liesAt Tryz.prog Tryz.prog.depth T (2 / Tryz.prog.cellsOf T) 0 74 1=true
theorem TyB.mono {m m':Mem} {bd:Nat} (h:TyB m bd) (hm:m≤m'):TyB m' bd:=by
 obtain⟨T,h1,h2⟩:=h;exact⟨T,hm.t _ _ h1,h2⟩
structure BOk (m:Mem) (bd:Nat) (q:Option Addr) (s:Sl) (l:Str):Prop where
 ty:TyB m bd
 q:q=none∨q=some ⟨bd,0,none⟩
 sl:SlRep rByte m s l
 own:Own s
 row:∀ b o,s.a=some ⟨b,o,none⟩→o=0∧m.t b=some (5,s.cap)∧m.pin.heap.size≤b
 none:l=[]→s=⟨none,0,0⟩
theorem BOk.mono {m m':Mem} {bd:Nat} {q:Option Addr} {s:Sl} {l:Str} (h:BOk m bd q s l) (hm:m≤m'):BOk m' bd q s l :=
 ⟨h.ty.mono hm,h.q,h.sl.mono hm,h.own,fun b o e=>by obtain⟨h1,h2,h3⟩:=h.row b o e;exact⟨h1,hm.t _ _ h2,by rw[hm.pin];exact h3⟩,h.none⟩
theorem copyCheck_law (m:Mem) (L:List Item) (bd:Nat) (q:Option Addr) (v:Value) (hv:∃ a n c,v = .slice a n c) (ht:TyB m bd) (hq:q=none∨q=some ⟨bd,0,none⟩) :
  TCall Tryz.prog 166 ⟨[.pointer (some ⟨bd,0,none⟩)]⟩ m (.cells bd 0 [.pointer q,v]::L) (fun _ m' L'=>m'=m∧L' = .cells bd 0 [.pointer (some ⟨bd,0,none⟩),v]::L):=by
 obtain⟨a,n,c,rfl⟩:=hv;obtain⟨T,ht,hlies⟩:=ht;unfold TCall;refine ag Tryz.func166 20 ?_;refine uM ?_;refine qs rfl (OT.ptrNil tab rfl rfl rfl rfl rfl (e:=74) rfl ?_);rcases hq with rfl | rfl
 ·refine uA ?_;refine qs rfl (OT.toUnsafeE tab (e:=74) rfl rfl rfl rfl rfl rfl rfl ht ov ?_);refine uA ?_;refine qs rfl (OT.callX (E:=Extern.AbiNoEscape.same) (vs:=[.pointer (some ⟨bd,0,none⟩)]) (v:=.pointer (some ⟨bd,0,none⟩)) rfl rfl rfl rfl rfl Tryz.func191 uK uK uK uK (fun w _=>rfl) ?_);refine uA ?_;refine qs rfl (OT.fromUnsafeE tab (e:=74) rfl rfl rfl rfl rfl rfl ht hlies rfl ?_);refine kx ?_;refine cI rfl (ce _) ⟨rfl,rfl⟩
 ·refine uA ?_;refine ly ?_;refine qs rfl (OT.ptrSame tab (e:=74) rfl rfl rfl rfl rfl rfl rfl ?_);refine uA ?_;refine cI rfl (ce _) ⟨rfl,rfl⟩
theorem writeByte_law (m:Mem) (L:List Item) (bd:Nat) (q:Option Addr) (s:Sl) (l:Str) (c:UInt8) (hB:BOk m bd q s l) (hl:l.length+1≤140737488355328) :
  TCall Tryz.prog 130 ⟨[.pointer (some ⟨bd,0,none⟩),byteV c]⟩ m (.cells bd 0 [.pointer q,s.v]::tok s 1::L) (fun _ m' L'=>m≤m'∧∃ s' q',L' = .cells bd 0 [.pointer q',s'.v]::tok s' 1::L∧BOk m' bd q' s' (l++[c])):=by
 unfold TCall;refine ag Tryz.func130 17 ?_;refine oC goes166 ((copyCheck_law _ _ bd q s.v ⟨_,_,_,rfl⟩ hB.ty hB.q).x ?_);rintro _ _ _ ⟨rfl,rfl⟩;refine kA ?_;refine qs rfl (OT.lit tab rfl rfl rfl rfl (fun b=>?_));refine cV fun m1 hm1 hA1=>?_;have hB1:=hB.mono hm1;refine qs rfl (OT.appendT tab rByte 1 hB1.sl hB1.own (SlRep.one (b:=b) (h:=c) (a:=c) hA1 rfl ov) rfl rfl rfl rfl rfl rfl rfl (by show(l.length+1)*1≤_;omega) rfl (fun b o e=>by obtain⟨h1,h2,h3⟩:=hB1.row b o e;exact⟨h1,by rw[show s.cap*rByte.size=s.cap from Nat.mul_one _];exact h2,h3⟩) (fun s' m2 hm2 hs2 ho2 hr2=>?_));refine kx ?_;refine cH rfl (ce _) ⟨cC hm1 hm2,s',_,rfl,hB1.ty.mono hm2,.inr rfl,hs2,ho2,fun b o e=>by obtain⟨h1,h2,h3⟩:=hr2 b o e;exact⟨h1,by rw[show s'.cap*rByte.size=s'.cap from Nat.mul_one _]at h2;exact h2,h3⟩,fun e=>by simp at e⟩
theorem string_law (m:Mem) (L:List Item) (bd:Nat) (q:Option Addr) (s:Sl) (l:Str) (hB:BOk m bd q s l) :
  TCall Tryz.prog 81 ⟨[.pointer (some ⟨bd,0,none⟩)]⟩ m (.cells bd 0 [.pointer q,s.v]::tok s 1::L) (Ret (strV l) m L):=by
 have hlen:=hB.sl.len;have hcap:=hB.sl.cap;have hfit:s.len*1≤140737488355328:=hB.sl.fit;unfold TCall;refine ag Tryz.func81 14 ?_;by_cases hl:l=[]
 ·have h0:=hB.none hl;subst h0;refine aW [] dc 12 ?_;refine lI ?_;refine mN ?_;refine OT.sliceData rfl rfl rfl rfl (.inl rfl) ?_;refine⟨cB _,_,bj _,?_⟩;refine af 10 ?_;refine OT.unsafeStr0 rfl rfl rfl rfl rfl ?_;refine⟨cB _,_,bj _,?_⟩;refine nh ?_;refine aS ?_
  rotate_left 1
  refine kP ?_;rw[hl]
 ·obtain⟨hs,k1,k2⟩:=hB.sl.cells;have hpos:0<l.length:=List.length_pos_iff.2 hl;rcases k2 with ⟨k2,_⟩ | ⟨b,o,k2,k3⟩
  ·exact absurd k2 hl
  obtain⟨g1,g2,g3⟩:=hB.row b o k2;subst g1;have he:=byte_all2 k1;subst he;rw[encs_byte]at k3;obtain⟨sa,sn,sc⟩:=s;simp only at k2 hlen hcap hfit g2;subst k2;refine TC.draw [] dc 12 rfl [_] (tok ⟨some ⟨b,0,none⟩,sn,sc⟩ 1::L) uP ?_;refine lI ?_;refine mN ?_;refine OT.sliceData rfl rfl rfl rfl (.inr (show sc≠0 by omega)) ?_;refine⟨cB _,_,bj _,?_⟩;refine af 10 ?_;refine cY pf1 (OT.unsafeStr tab (e:=5) (g:=b) (n:=sn) (c:=sc) rfl rfl rfl rfl rfl rfl uK k3 hlen.symm ou hcap ou g2 g3 ?_);refine⟨cB _,L,bj _,?_⟩;refine nh ?_;refine aX ?_
  rotate_left 1
  refine uA ?_;exact fc
end Go.Sep
namespace Go.Sep
inductive Tree where
 | mk (kind:Int) (name:Str) (num:Int) (kids:List Tree)
def Tree.kind : Tree→Int | .mk k _ _ _=>k
def Tree.name : Tree→Str | .mk _ n _ _=>n
def Tree.num : Tree→Int | .mk _ _ u _=>u
def Tree.kids : Tree→List Tree | .mk _ _ _ ks=>ks
theorem Tree.ind {P:Tree→Prop} (h:∀ t,(∀ k∈t.kids,P k)→P t) (t:Tree):P t :=
 Tree.rec (motive_1:=P) (motive_2:=fun l=>∀ k∈l,P k) (fun kind name num kids ih=>h (.mk kind name num kids) ih) (fun k hk=>by cases hk)
  (fun a l ha hl k hk=>by
   rcases List.mem_cons.1 hk with rfl | hk
   ·exact ha
   ·exact hl k hk) t
structure HTree where
 kind:Int
 name:Str
 num:Int
 kids:Sl
@[reducible] def treeC (h:HTree):List Value:=[.int .i64 h.kind,strV h.name,.int .i64 h.num,h.kids.v]
@[reducible] def treeV (h:HTree):Value:=.agg ⟨[.int .i64 h.kind,strV h.name,.int .i64 h.num,h.kids.v]⟩
def RT : Type:={ rep:Mem→HTree→Tree→Prop // ∀ m m' h a,m≤m'→rep m h a→rep m' h a }
def mkR (x:RT):R HTree Tree where
 size:=4
 bytes:=56
 enc:=treeC
 rep:=x.1
 enc_len _:=rfl
 one _:=rfl
 mono hm h:=x.2 _ _ _ _ hm h
def rtN : Nat→RT
 | 0=>⟨fun _ _ _=>False,fun _ _ _ _ _ h=>h⟩
 | n+1=>⟨fun m h a=>h.kind=a.kind∧h.name=a.name∧h.num=a.num∧SlRep (mkR (rtN n)) m h.kids a.kids,fun _ _ _ _ hm h=>⟨h.1,h.2.1,h.2.2.1,h.2.2.2.mono hm⟩⟩
def rTree : R HTree Tree:=mkR ⟨fun m h a=>∃ n,(rtN n).1 m h a,fun _ _ h a hm ⟨n,hn⟩=>⟨n,(rtN n).2 _ _ _ _ hm hn⟩⟩
theorem SlRep.imp {x y:RT} {m:Mem} (hxy:∀ h a,x.1 m h a→y.1 m h a) {s:Sl} {l:List Tree} (h:SlRep (mkR x) m s l):SlRep (mkR y) m s l:=by
 obtain⟨hs,h1,h2⟩:=h.cells;exact⟨h.len,h.cap,h.fit,hs,All2.mono hxy h1,h2⟩
theorem rtN_up (m:Mem):∀(n:Nat) (h:HTree) (a:Tree),(rtN n).1 m h a→(rtN (n+1)).1 m h a
 | 0,_,_,h=>h.elim
 | n+1,_,_,h=>⟨h.1,h.2.1,h.2.2.1,SlRep.imp (rtN_up m n) h.2.2.2⟩
theorem rtN_le (m:Mem) {n k:Nat} (hk:n≤k) (h:HTree) (a:Tree) (hr:(rtN n).1 m h a):(rtN k).1 m h a:=by
 induction hk with
 | refl=>exact hr
 | step _ ih=>exact rtN_up m _ h a ih
theorem all2_common {m:Mem}:∀(hs:List HTree) (l:List Tree),All2 (rTree.rep m) hs l→∃ n,All2 ((rtN n).1 m) hs l
 | [],[],_=>⟨0,trivial⟩
 | h::hs,a::l,hh=>by
  obtain⟨n1,h1⟩:=hh.1;obtain⟨n2,h2⟩:=all2_common hs l hh.2;exact⟨max n1 n2,rtN_le m (Nat.le_max_left _ _) h a h1,All2.mono (fun h a=>rtN_le m (Nat.le_max_right _ _) h a) h2⟩
 | [],_::_,hh=>hh.elim
 | _::_,[],hh=>hh.elim
structure TreeRep (m:Mem) (h:HTree) (a:Tree):Prop where
 kind:h.kind=a.kind
 name:h.name=a.name
 num:h.num=a.num
 kids:SlRep rTree m h.kids a.kids
theorem rTree_iff {m:Mem} {h:HTree} {a:Tree}:rTree.rep m h a↔TreeRep m h a:=by
 constructor
 ·rintro⟨n,hn⟩;cases n with
  | zero=>exact hn.elim
  | succ n=>exact⟨hn.1,hn.2.1,hn.2.2.1,SlRep.imp (x:=rtN n) (y:=⟨fun m h a=>∃ n,(rtN n).1 m h a,fun _ _ h a hm ⟨n,hn⟩=>⟨n,(rtN n).2 _ _ _ _ hm hn⟩⟩) (fun h a hh=>⟨n,hh⟩) hn.2.2.2⟩
 ·rintro⟨h1,h2,h3,h4⟩;obtain⟨hs,k1,k2⟩:=h4.cells;obtain⟨n,hn⟩:=all2_common hs _ k1;exact⟨n+1,h1,h2,h3,h4.len,h4.cap,h4.fit,hs,hn,k2⟩
theorem TreeRep.mono {m m':Mem} {h:HTree} {a:Tree} (hr:TreeRep m h a) (hm:m≤m'):TreeRep m' h a:=⟨hr.kind,hr.name,hr.num,hr.kids.mono hm⟩
end Go.Sep
namespace Go.Ps
open Go.Sep
structure Tk where
 kind:Int
 text:Str
 num:Int
inductive Res (α:Type) where
 | ok (a:α) (k:Nat)
 | bad (k:Nat)
 | out
@[reducible] def F : Type:=Nat→Option Tk
@[reducible] def Pp (α:Type):Type:=F→Nat→Res α
def ret {α:Type} (a:α):Pp α:=fun _ k=>.ok a k
def fail {α:Type}:Pp α:=fun _ k=>.bad k
def dry {α:Type}:Pp α:=fun _ _=>.out
def bind {α β:Type} (p:Pp α) (g:α→Pp β):Pp β:=fun f k =>
 match p f k with
 | .ok a k'=>g a f k'
 | .bad k'=>.bad k'
 | .out=>.out
def isM (s:Str):F→Nat→Bool:=fun f k =>
 match f k with
 | some t=>(decide (t.kind=4)||decide (t.kind=5))&&decide (t.text=s)
 | none=>false
def isK (c:Int):F→Nat→Bool:=fun f k =>
 match f k with
 | some t=>decide (t.kind=c)
 | none=>false
def tok {α:Type} (s:Str) (A B:Pp α):Pp α:=fun f k=>bif isM s f k then A f (k+1)else B f k
def need {α:Type} (s:Str) (A:Pp α):Pp α:=tok s A fail
def tkn {α:Type} (c:Int) (A:Tk→Pp α) (B:Pp α):Pp α:=fun f k =>
 match f k with
 | some t=>bif decide (t.kind=c)then A t f (k+1)else B f k
 | none=>B f k
def name {α:Type} (A:Str→Pp α):Pp α:=tkn 1 (fun t=>A t.text) fail
def peek {α:Type} (q:F→Nat→Bool) (A B:Pp α):Pp α:=fun f k=>bif q f k then A f k else B f k
def oneOf {α:Type} (ops:List Str) (A:Str→Pp α) (B:Pp α):Pp α:=fun f k =>
 match ops.find? (fun s=>isM s f k)with
 | some s=>A s f (k+1)
 | none=>B f k
def commas {α:Type}:Nat→Pp α→Pp (List α)
 | 0,_=>dry
 | j+1,X=>bind X fun a=>tok [44] (bind (commas j X) fun l=>ret (a::l)) (ret [a])
def upto {α:Type}:Nat→Str→Pp α→Pp (List α)
 | 0,_,_=>dry
 | j+1,s,X=>tok s (ret []) (bind X fun a=>bind (upto j s X) fun l=>ret (a::l))
structure Gr where
 typ:Pp Tree
 block:Pp Tree
 stmt:Pp Tree
 branch:Pp Tree
 expr:Bool→Pp Tree
 unary:Bool→Pp Tree
def leaf (kind:Int) (s:Str):Tree:=.mk kind s 0 []
def begins : F→Nat→Bool:=fun f k=>isK 1 f k||(isM [42] f k||(isM [91] f k||isM [102,117,110,99] f k))
section
variable (N:Nat)
def inP {α:Type} (s:Str) (X:Pp α):Pp (List α):=tok s (ret []) (bind (commas N X) fun l=>need s (ret l))
def resultsP (typ:Pp Tree):Pp (List Tree) :=
 tok [40] (bind (commas N typ) fun l=>need [41] (ret l)) (peek begins (bind typ fun t=>ret [t]) (ret []))
def paramP (typ:Pp Tree):Pp Tree:=name fun s=>bind typ fun t=>ret (.mk 8 s 0 [t])
def sigLike (kind:Int) (X typ:Pp Tree):Pp Tree :=
 need [40] (bind (inP N [41] X) fun ps=>bind (resultsP N typ) fun rs=>ret (.mk kind [] (ps.length:Int) (ps++rs)))
def sigP (typ:Pp Tree):Pp Tree:=sigLike N 7 (paramP typ) typ
def typP (typ:Pp Tree):Pp Tree :=
 tok [42] (bind typ fun t=>ret (.mk 11 [] 0 [t]))
  (tok [91] (need [93] (bind typ fun t=>ret (.mk 12 [] 0 [t])))
   (tok [102,117,110,99] (sigLike N 13 typ typ) (name fun s=>ret (leaf 10 s))))
def fieldP (member:Pp Tree):Pp Tree:=name fun s=>bind member fun t=>need [59] (ret (.mk 6 s 0 [t]))
def bodyP (kind:Int) (nm:Str) (member:Pp Tree):Pp Tree:=need [123] (bind (upto N [125] (fieldP member)) fun l=>ret (.mk kind nm 0 l))
def typeDeclP (typ:Pp Tree):Pp Tree:=name fun nm=>tok [105,110,116,101,114,102,97,99,101] (bodyP N 3 nm (sigP N typ)) (need [115,116,114,117,99,116] (bodyP N 2 nm typ))
def recvT (recv of:Str):Tree:=.mk 8 recv 0 [.mk 11 [] 0 [leaf 10 of]]
def declP (typ block:Pp Tree):Pp Tree :=
 tok [116,121,112,101] (typeDeclP N typ) (need [102,117,110,99] (tok [40]
  (name fun recv=>need [42] (name fun of=>need [41] (name fun nm=>bind (sigP N typ) fun s=>bind block fun b=>ret (.mk 5 nm 0 [recvT recv of,s,b]))))
  (name fun nm=>bind (sigP N typ) fun s=>bind block fun b=>ret (.mk 4 nm 0 [s,b]))))
def blockP (stmt:Pp Tree):Pp Tree:=need [123] (bind (upto N [125] stmt) fun l=>ret (.mk 20 [] 0 l))
def branchP (expr block branch:Pp Tree):Pp Tree :=
 need [105,102] (bind expr fun c=>bind block fun b=>tok [101,108,115,101]
  (peek (isM [105,102]) (bind branch fun e=>ret (.mk 25 [] 0 [c,b,e])) (bind block fun e=>ret (.mk 25 [] 0 [c,b,e])))
  (ret (.mk 25 [] 0 [c,b])))
def forP (expr block:Pp Tree):Pp Tree :=
 peek (isM [123]) (bind block fun b=>ret (.mk 26 [] 0 [b])) (bind expr fun c=>bind block fun b=>ret (.mk 26 [] 0 [c,b]))
def isNm (t:Tree):Bool:=decide (t.kind=44)
def isPl (t:Tree):Bool:=decide (t.kind=44)||(decide (t.kind=48)||(decide (t.kind=49)||(decide (t.kind=52)&&decide (t.name=[42]))))
def isC1 : List Tree→Bool
 | [t]=>decide (t.kind=51)
 | _=>false
def tokIf {α:Type} (c:Bool) (s:Str) (A B:Pp α):Pp α:=bif c then tok s A B else B
def assignP (expr:Pp Tree) (left:List Tree):Pp Tree :=
 tokIf (left.all isNm) [58,61] (bind (commas N expr) fun l=>ret (.mk 22 [] (left.length:Int) (left++l)))
  (tokIf (left.all isPl) [61] (bind (commas N expr) fun l=>ret (.mk 23 [] (left.length:Int) (left++l)))
   (bif isC1 left then peek (isM [59]) (ret (.mk 24 [] 0 left)) fail else fail))
def simpleP (typ expr:Pp Tree):Pp Tree :=
 tok [118,97,114] (name fun s=>bind typ fun t=>tok [61] (bind expr fun e=>ret (.mk 21 s 0 [t,e])) (ret (.mk 21 s 0 [t])))
  (tok [114,101,116,117,114,110] (peek (isM [59]) (ret (leaf 27 [])) (bind (commas N expr) fun l=>ret (.mk 27 [] 0 l)))
   (tok [98,114,101,97,107] (ret (leaf 28 [])) (tok [99,111,110,116,105,110,117,101] (ret (leaf 29 [])) (bind (commas N expr) (assignP N expr)))))
def stmtP (g:Gr):Pp Tree :=
 peek (isM [123]) g.block (peek (isM [105,102]) g.branch (tok [102,111,114] (forP (g.expr true) g.block) (bind (simpleP N g.typ (g.expr false)) fun s=>need [59] (ret s))))
def levels : List (List Str):=[[[124,124]],[[38,38]],[[61,61],[33,61],[60],[60,61],[62],[62,61]],[[43],[45]],[[42],[47],[37]]]
def binT (op:Str) (a b:Tree):Tree:=.mk 53 op 0 [a,b]
def loopB : Nat→List Str→Pp Tree→Tree→Pp Tree
 | 0,_,_,_=>dry
 | j+1,ops,X,n=>oneOf ops (fun op=>bind X fun m=>loopB j ops X (binT op n m)) (ret n)
def binL (U:Pp Tree):List (List Str)→Pp Tree
 | []=>U
 | ops::rest=>bind (binL U rest) (loopB N ops (binL U rest))
def exprsP (s:Str) (expr:Pp Tree):Pp (List Tree):=inP N s expr
def cutP (expr:Pp Tree) (num:Int) (ks:List Tree):Pp Tree :=
 need [58] (tok [93] (ret (.mk 50 [] num ks)) (bind expr fun e=>need [93] (ret (.mk 50 [] (num+2) (ks++[e])))))
def indexP (expr:Pp Tree) (n:Tree):Pp Tree :=
 peek (isM [58]) (cutP expr 0 [n]) (bind expr fun e=>tok [93] (ret (.mk 49 [] 0 [n,e])) (cutP expr 1 [n,e]))
def postP (expr:Pp Tree):Nat→Tree→Pp Tree
 | 0,_=>dry
 | j+1,n=>tok [46] (name fun s=>postP expr j (.mk 48 s 0 [n]))
   (tok [91] (bind (indexP expr n) fun t=>postP expr j t)
    (tok [40] (bind (exprsP N [41] expr) fun l=>postP expr j (.mk 51 [] 0 (n::l))) (ret n)))
def primP (typ block expr:Pp Tree) (h:Bool):Pp Tree :=
 tkn 2 (fun t=>ret (.mk 40 [] t.num [])) (tkn 3 (fun t=>ret (leaf 41 t.text))
  (tok [116,114,117,101] (ret (.mk 42 [] 1 [])) (tok [102,97,108,115,101] (ret (leaf 42 [])) (tok [110,105,108] (ret (leaf 43 []))
   (tok [40] (bind expr fun t=>need [41] (ret t))
    (tok [91] (need [93] (bind typ fun t=>need [123] (bind (exprsP N [125] expr) fun l=>ret (.mk 46 [] 0 (t::l)))))
     (tok [102,117,110,99] (bind (sigP N typ) fun s=>bind block fun b=>ret (.mk 47 [] 0 [s,b]))
      (name fun s=>bif h then ret (leaf 44 s)else tok [123] (bind (exprsP N [125] expr) fun l=>ret (.mk 45 s 0 l)) (ret (leaf 44 s))))))))))
def unaryP (g:Gr) (h:Bool):Pp Tree :=
 oneOf [[45],[33],[38],[42]] (fun op=>bind (g.unary h) fun t=>ret (.mk 52 op 0 [t])) (bind (primP N g.typ g.block (g.expr false) h) (postP N (g.expr false) N))
def Gr.step (g:Gr):Gr where
 typ:=typP N g.typ
 block:=blockP N g.stmt
 stmt:=stmtP N g
 branch:=branchP (g.expr true) g.block g.branch
 expr h:=binL N (g.unary h) levels
 unary h:=unaryP N g h
def gr : Nat→Gr
 | 0=>⟨dry,dry,dry,dry,fun _=>dry,fun _=>dry⟩
 | n+1=>(gr n).step N
def progL (decl:Pp Tree):Nat→Pp (List Tree)
 | 0=>dry
 | j+1=>fun f k=>bif (f k).isNone then .ok [] k else bind decl (fun a=>bind (progL decl j) fun l=>ret (a::l)) f k
def declG (n:Nat):Pp Tree:=declP N (gr N n).typ (gr N n).block
end
def program (M:Nat):Pp (List Tree):=progL (declG (M+1) (3*M+4)) (M+1)
end Go.Ps
namespace Go.Pt
open Go.Sep Go.Ps
def digF : Nat→Nat→Str
 | 0,_=>[]
 | f+1,n=>if n<10 then [UInt8.ofNat (48+n)]else digF f (n / 10)++[UInt8.ofNat (48+n % 10)]
def digN (n:Nat):Str:=digF 20 n
@[reducible] def mk (s:Str):Tk:=⟨4,s,0⟩
@[reducible] def wd (s:Str):Tk:=⟨5,s,0⟩
@[reducible] def nm (s:Str):Tk:=⟨1,s,0⟩
def commaJ : List (List Tk)→List Tk
 | []=>[]
 | [t]=>t
 | t::u::ts=>t++mk [44]::commaJ (u::ts)
def resJ (ts:List (List Tk)):List Tk:=if ts.length<2 then commaJ ts else mk [40]::(commaJ ts++[mk [41]])
def nth (ts:List (List Tk)) (i:Nat):List Tk:=ts.getD i []
def semis (ts:List (List Tk)):List Tk:=(ts.map (· ++ [mk [59]])).flatten
def sigJ (u:Int) (ts:List (List Tk)):List Tk:=mk [40]::(commaJ (ts.take u.toNat)++mk [41]::resJ (ts.drop u.toNat))
def comb (k:Int) (n:Str) (u:Int) (ts:List (List Tk)):List Tk :=
 if k=1 then ts.flatten
 else if k=2 then wd [116,121,112,101]::nm n::wd [115,116,114,117,99,116]::mk [123]::(semis ts++[mk [125]])
 else if k=3 then wd [116,121,112,101]::nm n::wd [105,110,116,101,114,102,97,99,101]::mk [123]::(semis ts++[mk [125]])
 else if k=4 then wd [102,117,110,99]::nm n::(nth ts 0++nth ts 1)
 else if k=5 then wd [102,117,110,99]::mk [40]::(nth ts 0++mk [41]::nm n::(nth ts 1++nth ts 2))
 else if k=6∨k=8 then nm n::nth ts 0
 else if k=7 then sigJ u ts
 else if k=10 then [nm n]
 else if k=11 then mk [42]::nth ts 0
 else if k=12 then mk [91]::mk [93]::nth ts 0
 else if k=13 then wd [102,117,110,99]::sigJ u ts
 else if k=20 then mk [123]::(ts.flatten++[mk [125]])
 else if k=21 then wd [118,97,114]::nm n::(nth ts 0++((if ts.length=2 then mk [61]::nth ts 1 else [])++[mk [59]]))
 else if k=22 then commaJ (ts.take u.toNat)++mk [58,61]::(commaJ (ts.drop u.toNat)++[mk [59]])
 else if k=23 then commaJ (ts.take u.toNat)++mk [61]::(commaJ (ts.drop u.toNat)++[mk [59]])
 else if k=24 then nth ts 0++[mk [59]]
 else if k=25 then wd [105,102]::(nth ts 0++(nth ts 1++(if ts.length=3 then wd [101,108,115,101]::nth ts 2 else [])))
 else if k=26 then wd [102,111,114]::(commaJ (ts.take (ts.length-1))++nth ts (ts.length-1))
 else if k=27 then wd [114,101,116,117,114,110]::(commaJ ts++[mk [59]])
 else if k=28 then [wd [98,114,101,97,107],mk [59]]
 else if k=29 then [wd [99,111,110,116,105,110,117,101],mk [59]]
 else if k=40 then [⟨2,[],u⟩]
 else if k=41 then [⟨3,n,0⟩]
 else if k=42 then (if u=1 then [wd [116,114,117,101]]else [wd [102,97,108,115,101]])
 else if k=43 then [wd [110,105,108]]
 else if k=44 then [nm n]
 else if k=45 then mk [40]::nm n::mk [123]::(commaJ ts++[mk [125],mk [41]])
 else if k=46 then mk [91]::mk [93]::(nth ts 0++mk [123]::(commaJ (ts.drop 1)++[mk [125]]))
 else if k=47 then wd [102,117,110,99]::(nth ts 0++nth ts 1)
 else if k=48 then nth ts 0++[mk [46],nm n]
 else if k=49 then nth ts 0++mk [91]::(nth ts 1++[mk [93]])
 else if k=50 then nth ts 0++mk [91]::((if u=1∨u=3 then nth ts 1 else [])++mk [58]::((if 2≤u then nth ts (ts.length-1)else [])++[mk [93]]))
 else if k=51 then nth ts 0++mk [40]::(commaJ (ts.drop 1)++[mk [41]])
 else if k=52 then mk [40]::mk n::(nth ts 0++[mk [41]])
 else if k=53 then mk [40]::(nth ts 0++mk n::(nth ts 1++[mk [41]]))
 else []
mutual
def toks : Tree→List Tk
 | .mk k n u ks=>comb k n u (toksL ks)
def toksL : List Tree→List (List Tk)
 | []=>[]
 | t::ts=>toks t::toksL ts
end
theorem toksL_eq : ∀ l:List Tree,toksL l=l.map toks
 | []=>rfl
 | t::ts=>by rw[toksL,toksL_eq ts,bK]
theorem toks_eq (a:Tree):toks a=comb a.kind a.name a.num (a.kids.map toks):=by
 obtain⟨k,n,u,ks⟩:=a;rw[toks,toksL_eq];rfl
end Go.Pt
namespace Go.Ps
open Go.Sep
variable {α β γ:Type}
def Res.up (c:Nat):Res α→Res α
 | .ok a k=>.ok a (k+c)
 | .bad k=>.bad (k+c)
 | .out=>.out
structure Cut (f f':F) (q:Nat):Prop where
 lo:∀ i,i<q→f' i=f i
 hi:∀ i,q≤i→f' i=none
structure Good (p:Pp α):Prop where
 le:∀ {f:F} {k:Nat} {a:α} {k':Nat},p f k = .ok a k'→k≤k'
 leb:∀ {f:F} {k k':Nat},p f k = .bad k'→k≤k'
 agree:∀ {f f':F} {q:Nat},(∀ i,i<q→f' i=f i)→∀ {k:Nat} {a:α} {k':Nat},p f k = .ok a k'→k'<q→p f' k = .ok a k'
 agreeb:∀ {f f':F} {q:Nat},(∀ i,i<q→f' i=f i)→∀ {k k':Nat},p f k = .bad k'→k'<q→p f' k = .bad k'
 cut:∀ {f f':F} {q:Nat},Cut f f' q→∀ {k:Nat},p f k = .bad q→p f' k = .bad q∨p f' k = .out
 cutk:∀ {f f':F} {q:Nat},Cut f f' q→∀ {k:Nat} {a:α},p f k = .ok a q→p f' k = .ok a q∨p f' k = .bad q∨p f' k = .out
 shift:∀(f:F) (c k:Nat),p f (k+c)=(p (fun i=>f (i+c)) k).up c
theorem bind_ok {p:Pp α} {g:α→Pp β} {f:F} {k k':Nat} {a:α} (h:p f k = .ok a k'):bind p g f k=g a f k':=by unfold bind;rw[h]
def look (d:Option Tk→Option γ) (A:γ→Pp α) (B:Pp α):Pp α:=fun f k =>
 match d (f k)with
 | some x=>A x f (k+1)
 | none=>B f k
theorem look_some {d:Option Tk→Option γ} {A:γ→Pp α} {B:Pp α} {f:F} {k:Nat} {x:γ} (h:d (f k)=some x):look d A B f k=A x f (k+1):=by unfold look;rw[h]
theorem look_none {d:Option Tk→Option γ} {A:γ→Pp α} {B:Pp α} {f:F} {k:Nat} (h:d (f k)=none):look d A B f k=B f k:=by unfold look;rw[h]
theorem Good.look {d:Option Tk→Option γ} {A:γ→Pp α} {B:Pp α} (hd:d none=none) (hA:∀ x,Good (A x)) (hB:Good B):Good (look d A B) where
 le {f k a k'} h:=by
  cases hx:d (f k)with
  | some x=>rw[look_some hx]at h;have:=(hA x).le h;omega
  | none=>rw[look_none hx]at h;exact hB.le h
 leb {f k k'} h:=by
  cases hx:d (f k)with
  | some x=>rw[look_some hx]at h;have:=(hA x).leb h;omega
  | none=>rw[look_none hx]at h;exact hB.leb h
 agree {f f' q} hf k a k' h hk:=by
  cases hx:d (f k)with
  | some x =>
   rw[look_some hx]at h;have:=(hA x).le h;rw[look_some (x:=x) pS];exact(hA x).agree hf h hk
  | none =>
   rw[look_none hx]at h;have:=hB.le h;rw[look_none pS];exact hB.agree hf h hk
 agreeb {f f' q} hf k k' h hk:=by
  cases hx:d (f k)with
  | some x =>
   rw[look_some hx]at h;have:=(hA x).leb h;rw[look_some (x:=x) pS];exact(hA x).agreeb hf h hk
  | none =>
   rw[look_none hx]at h;have:=hB.leb h;rw[look_none pS];exact hB.agreeb hf h hk
 cut {f f' q} hc k h:=by
  cases hx:d (f k)with
  | some x =>
   rw[look_some hx]at h;have:=(hA x).leb h;rw[look_some (x:=x) (by rw[hc.lo k ou];exact hx)];exact(hA x).cut hc h
  | none =>
   rw[look_none hx]at h;have:=hB.leb h;rw[look_none (d:=d)]
   ·exact hB.cut hc h
   ·exact jg
 cutk {f f' q} hc k a h:=by
  cases hx:d (f k)with
  | some x =>
   rw[look_some hx]at h;have:=(hA x).le h;rw[look_some (x:=x) (by rw[hc.lo k ou];exact hx)];exact(hA x).cutk hc h
  | none =>
   rw[look_none hx]at h;have:=hB.le h;rw[look_none (d:=d)]
   ·exact hB.cutk hc h
   ·exact jg
 shift f c k:=by
  show(match d (f (k+c))with | some x=>A x f (k+c+1) | none=>B f (k+c))=Res.up c (match d (f (k+c))with | some x=>A x (fun i=>f (i+c)) (k+1) | none=>B (fun i=>f (i+c)) k);cases hx:d (f (k+c))with
  | some x=>have:=(hA x).shift f c (k+1);rw[show k+1+c=k+c+1 by omega]at this;exact this
  | none=>exact hB.shift f c k
def dM (s:Str):Option Tk→Bool
 | some t=>(decide (t.kind=4)||decide (t.kind=5))&&decide (t.text=s)
 | none=>false
theorem isM_eq (s:Str) (f:F) (k:Nat):isM s f k=dM s (f k):=by unfold isM dM;cases f k<;>rfl
def Stops (p:Pp α):Prop:=∀(f:F) (k:Nat),f k=none→p f k = .bad k∨p f k = .out
def Takes (q:F→Nat→Bool) (p:Pp α):Prop:=∀(f:F) (k:Nat),q f k=true→(∀ a k',p f k = .ok a k'→k<k')∧∀ k',p f k = .bad k'→k<k'
structure Loc (q:F→Nat→Bool):Prop where
 no:∀(f:F) (k:Nat),f k=none→q f k=false
 same:∀(f f':F) (k k':Nat),f k=f' k'→q f k=q f' k'
theorem peek_t {q:F→Nat→Bool} {A B:Pp α} {f:F} {k:Nat} (h:q f k=true):peek q A B f k=A f k:=by unfold peek;rw[h];rfl
theorem peek_f {q:F→Nat→Bool} {A B:Pp α} {f:F} {k:Nat} (h:q f k=false):peek q A B f k=B f k:=by unfold peek;rw[h];rfl
theorem Stops.look {d:Option Tk→Option γ} {A:γ→Pp α} {B:Pp α} (hd:d none=none) (hB:Stops B):Stops (look d A B):=fun f k hk=>by
 rw[look_none (by rw[hk];exact hd)];exact hB f k hk
end Go.Ps
namespace Go.Pt
open Go.Sep Go.Ps
variable {α β:Type}
def seg (f:F) (k:Nat):List Tk→Prop
 | []=>True
 | t::l=>f k=some t∧seg f (k+1) l
theorem seg_append {f:F}:∀ {l r:List Tk} {k:Nat},seg f k (l++r)↔seg f k l∧seg f (k+l.length) r
 | [],r,k=>by simp[seg]
 | t::l,r,k=>by
  simp only[bM,seg,seg_append (l:=l),be,and_assoc];rw[show k+(l.length+1)=k+1+l.length by omega]
def hd (l:List Tk) (o:Option Tk):Option Tk:=match l with
 | []=>o
 | t::_=>some t
theorem hd_at {f:F} {l:List Tk} {k:Nat} (h:seg f k l):f k=hd l (f (k+l.length)):=by
 cases l with
 | nil=>rfl
 | cons t l=>exact h.1
theorem hd_app2 {l r:List Tk} {o:Option Tk}:hd (l++r) o=hd l (hd r o):=by
 cases l with
 | nil=>rfl
 | cons t l=>rfl
def Rd (p:Pp α) (l:List Tk) (a:α) (S:Option Tk→Bool):Prop:=∀ f k,seg f k l→S (f (k+l.length))=true→p f k = .ok a (k+l.length)
theorem Rd.ret {a:α} {S:Option Tk→Bool}:Rd (ret a) [] a S:=fun f k _ _=>rfl
theorem Rd.mono {p:Pp α} {l:List Tk} {a:α} {S S':Option Tk→Bool} (h:Rd p l a S) (hs:∀ o,S' o=true→S o=true):Rd p l a S':=fun f k h1 h2=>h f k h1 (hs _ h2)
theorem Rd.cast {p:Pp α} {l l':List Tk} {a:α} {S:Option Tk→Bool} (h:Rd p l a S) (e:l=l'):Rd p l' a S:=e▸h
theorem Rd.bind {p:Pp α} {g:α→Pp β} {l1 l2:List Tk} {a:α} {b:β} {S1 S2:Option Tk→Bool} (hp:Rd p l1 a S1) (hg:Rd (g a) l2 b S2) (hS:∀ o,S2 o=true→S1 (hd l2 o)=true):Rd (bind p g) (l1++l2) b S2:=fun f k h1 h2=>by
 obtain⟨s1,s2⟩:=seg_append.1 h1;rw[ba]at h2 ⊢;have e:k+(l1.length+l2.length)=k+l1.length+l2.length:=ou;rw[e]at h2 ⊢;have h3:=hp f k s1 (by rw[hd_at s2];exact hS _ h2);rw[bind_ok h3];exact hg f _ s2 h2
theorem Rd.bret {p:Pp α} {g:α→β} {l:List Tk} {a:α} {S:Option Tk→Bool} (hp:Rd p l a S):Rd (Ps.bind p fun x=>Ps.ret (g x)) l (g a) S:=by
 have:=Rd.bind (g:=fun x=>Ps.ret (g x)) (b:=g a) (S2:=S) hp Rd.ret (fun o h=>h)
 rwa [cg]at this
theorem Rd.tokT {s:Str} {A B:Pp α} {t:Tk} {l:List Tk} {a:α} {S:Option Tk→Bool} (ht:dM s (some t)=true) (h:Rd A l a S):Rd (tok s A B) (t::l) a S:=fun f k h1 h2=>by
 unfold Ps.tok;rw[isM_eq,h1.1,ht,cy];exact gp
theorem Rd.tokF {s:Str} {A B:Pp α} {l:List Tk} {a:α} {S:Option Tk→Bool} (hn:∀ o,S o=true→dM s (hd l o)=false) (h:Rd B l a S):Rd (tok s A B) l a S:=fun f k h1 h2=>by
 unfold Ps.tok;rw[isM_eq,hd_at h1,hn _ h2,cx];exact h f k h1 h2
theorem Rd.need {s:Str} {A:Pp α} {t:Tk} {l:List Tk} {a:α} {S:Option Tk→Bool} (ht:dM s (some t)=true) (h:Rd A l a S):Rd (need s A) (t::l) a S:=Rd.tokT ht h
theorem Rd.tknT {c:Int} {A:Tk→Pp α} {B:Pp α} {t:Tk} {l:List Tk} {a:α} {S:Option Tk→Bool} (ht:t.kind=c) (h:Rd (A t) l a S):Rd (tkn c A B) (t::l) a S:=fun f k h1 h2=>by
 unfold Ps.tkn;rw[h1.1];simp only[bS ht,cy];exact gp
def dKb (c:Int) (o:Option Tk):Bool:=match o with
 | some t=>decide (t.kind=c)
 | none=>false
theorem Rd.tknF {c:Int} {A:Tk→Pp α} {B:Pp α} {l:List Tk} {a:α} {S:Option Tk→Bool} (hn:∀ o,S o=true→dKb c (hd l o)=false) (h:Rd B l a S):Rd (tkn c A B) l a S:=fun f k h1 h2=>by
 have h3:=hn _ h2;rw[←hd_at h1]at h3;unfold Ps.tkn;cases hf:f k with
 | none=>exact h f k h1 h2
 | some t =>
  rw[hf]at h3;simp only[show decide (t.kind=c)=false from h3,cx];exact h f k h1 h2
theorem Rd.name {A:Str→Pp α} {s:Str} {l:List Tk} {a:α} {S:Option Tk→Bool} (h:Rd (A s) l a S):Rd (name A) (nm s::l) a S:=Rd.tknT rfl h
theorem Rd.peekT {q:F→Nat→Bool} {d:Option Tk→Bool} (hq:∀ f k,q f k=d (f k)) {A B:Pp α} {l:List Tk} {a:α} {S:Option Tk→Bool} (hn:∀ o,S o=true→d (hd l o)=true) (h:Rd A l a S):Rd (peek q A B) l a S:=fun f k h1 h2=>by
 rw[peek_t (by rw[hq,hd_at h1];exact hn _ h2)];exact h f k h1 h2
theorem Rd.peekF {q:F→Nat→Bool} {d:Option Tk→Bool} (hq:∀ f k,q f k=d (f k)) {A B:Pp α} {l:List Tk} {a:α} {S:Option Tk→Bool} (hn:∀ o,S o=true→d (hd l o)=false) (h:Rd B l a S):Rd (peek q A B) l a S:=fun f k h1 h2=>by
 rw[peek_f (by rw[hq,hd_at h1];exact hn _ h2)];exact h f k h1 h2
theorem Rd.peekMT {s:Str} {A B:Pp α} {l:List Tk} {a:α} {S:Option Tk→Bool} (hn:∀ o,S o=true→dM s (hd l o)=true) (h:Rd A l a S):Rd (peek (isM s) A B) l a S:=Rd.peekT (isM_eq s) hn h
theorem Rd.peekMF {s:Str} {A B:Pp α} {l:List Tk} {a:α} {S:Option Tk→Bool} (hn:∀ o,S o=true→dM s (hd l o)=false) (h:Rd B l a S):Rd (peek (isM s) A B) l a S:=Rd.peekF (isM_eq s) hn h
def dB (o:Option Tk):Bool:=dKb 1 o||(dM [42] o||(dM [91] o||dM [102,117,110,99] o))
theorem begins_eq (f:F) (k:Nat):begins f k=dB (f k):=by
 unfold begins dB;rw[isM_eq,isM_eq,isM_eq];rfl
theorem Rd.oneOfT {ops:List Str} {A:Str→Pp α} {B:Pp α} {s:Str} {l:List Tk} {a:α} {S:Option Tk→Bool} (hs:s∈ops) (h:Rd (A s) l a S):Rd (oneOf ops A B) (mk s::l) a S:=fun f k h1 h2=>by
 have h3:ops.find? (fun x=>isM x f k)=some s:=by
  have e:∀ x,isM x f k=decide (s=x):=fun x=>by rw[isM_eq,h1.1];rfl
  have e2:(fun x=>isM x f k)=fun x=>decide (s=x):=funext e;rw[e2]
  induction ops with
  | nil=>cases hs
  | cons y ys ih =>
   rw[List.find?_cons];by_cases hy:s=y
   ·rw[bS hy,hy]
   ·rw[bU hy];exact ih ((List.mem_cons.1 hs).resolve_left hy)
 unfold Ps.oneOf;rw[h3];exact gp
theorem Rd.oneOfF {ops:List Str} {A:Str→Pp α} {B:Pp α} {l:List Tk} {a:α} {S:Option Tk→Bool} (hn:∀ o,S o=true→∀ s∈ops,dM s (hd l o)=false) (h:Rd B l a S):Rd (oneOf ops A B) l a S:=fun f k h1 h2=>by
 have h3:ops.find? (fun x=>isM x f k)=none:=by
  rw[List.find?_eq_none];intro x hx;rw[isM_eq,hd_at h1,hn _ h2 x hx];decide
 unfold Ps.oneOf;rw[h3];exact h f k h1 h2
theorem Rd.commas {X:Pp α} {tk:α→List Tk} {S S':Option Tk→Bool} (hc:∀ o,S o=true→dM [44] o=false) (hS:∀ o,S o=true→S' o=true) (h2:S' (some (mk [44]))=true) :
  ∀(j:Nat) (l:List α),l≠[]→l.length≤j→(∀ x∈l,Rd X (tk x) x S')→Rd (commas j X) (commaJ (l.map tk)) l S
 | 0,l,h,hj,_=>by cases l with
  | nil=>exact absurd rfl h
  | cons x xs=>simp at hj
 | j+1,[],h,_,_=>absurd rfl h
 | j+1,[x],_,_,hx=>by
  have h1:=Rd.bind (g:=fun a=>tok [44] (Ps.bind (Ps.commas j X) fun l=>Ps.ret (a::l)) (Ps.ret [a])) (hx x ow) (Rd.tokF (s:=[44]) (A:=Ps.bind (Ps.commas j X) fun l=>Ps.ret (x::l)) (S:=S) (l:=[]) hc (Rd.ret (a:=[x]))) hS
  rwa [cg]at h1
 | j+1,x::y::l,_,hj,hx=>by
  have ih:=Rd.commas hc hS h2 j (y::l) ow pP (fun z hz=>hx z (by simp at hz ⊢;exact .inr hz));exact Rd.bind (g:=fun a=>tok [44] (Ps.bind (Ps.commas j X) fun l=>Ps.ret (a::l)) (Ps.ret [a])) (hx x ow) (Rd.tokT ov (Rd.bret ih)) (fun o _=>h2)
theorem Rd.upto {X:Pp α} {tk:α→List Tk} {s:Str} {S S':Option Tk→Bool} (h2:S' (some (mk s))=true) :
  ∀(j:Nat) (l:List α),l.length<j→(∀ x∈l,Rd X (tk x) x S'∧∀ o,dM s (hd (tk x) o)=false∧S' (hd (tk x) o)=true)→Rd (upto j s X) ((l.map tk).flatten++[mk s]) l S
 | 0,l,hj,_=>by omega
 | j+1,[],_,_=>Rd.tokT (by unfold dM;simp) Rd.ret
 | j+1,x::l,hj,hx=>by
  have ih:=Rd.upto (S:=S) h2 j l pP (fun z hz=>hx z (by simp[hz]));have h1:=hx x ow;rw[bK,List.flatten_cons,bz];refine Rd.tokF (fun o _=>?_) (Rd.bind h1.1 (Rd.bret ih) fun o _=>?_)
  ·rw[hd_app2];exact(h1.2 _).1
  ·cases l with
   | nil=>exact h2
   | cons y l =>
    rw[bK,List.flatten_cons,bz,hd_app2];exact((hx y ow).2 _).2
theorem Rd.inP {N:Nat} {X:Pp α} {tk:α→List Tk} {s:Str} {S S':Option Tk→Bool} (hs:dM [44] (some (mk s))=false) (hS:S' (some (mk s))=true) (h2:S' (some (mk [44]))=true) (l:List α) (hl:l.length≤N)
  (hx:∀ x∈l,Rd X (tk x) x S'∧∀ o,dM s (hd (tk x) o)=false):Rd (inP N s X) (commaJ (l.map tk)++[mk s]) l S:=by
 cases l with
 | nil=>exact Rd.tokT (by unfold dM;simp) Rd.ret
 | cons x xs =>
  have hc:Rd (Ps.commas N X) (commaJ ((x::xs).map tk)) (x::xs) (fun o=>!dM [44] o&&S' o):=Rd.commas (S':=S') (fun o h=>by simp only[bu,Bool.not_eq_true']at h;exact h.1) (fun o h=>by simp only[bu]at h;exact h.2) h2 N (x::xs) ow hl (fun z hz=>(hx z hz).1);refine Rd.tokF (fun o _=>?_) (Rd.bind hc (Rd.need (by unfold dM;simp) Rd.ret) fun o _=>by show(!dM [44] (some (mk s))&&S' (some (mk s)))=true;rw[hs,hS];rfl);cases xs with
  | nil=>rw[bK,bL,commaJ,hd_app2];exact(hx x ow).2 _
  | cons y ys=>rw[bK,bK,commaJ,bz,hd_app2];exact(hx x ow).2 _
end Go.Pt
namespace Go.Sep
mutual
def Tree.bulk : Tree→Nat
 | .mk _ n _ ks=>1+n.length+bulkL ks
def bulkL : List Tree→Nat
 | []=>0
 | t::ts=>t.bulk+bulkL ts
end
theorem bulk_len : ∀ l:List Tree,l.length≤bulkL l
 | []=>by simp[bulkL]
 | t::ts=>by
  have:=bulk_len ts;obtain⟨k,n,u,ks⟩:=t;simp only[bulkL,Tree.bulk,be];omega
mutual
def Tree.size : Tree→Nat
 | .mk _ _ _ ks=>1+sizeL ks
def sizeL : List Tree→Nat
 | []=>0
 | t::ts=>t.size+sizeL ts
end
mutual
def Tree.deep : Tree→Nat
 | .mk _ _ _ ks=>deepL ks+1
def deepL : List Tree→Nat
 | []=>0
 | t::ts=>max t.deep (deepL ts)
end
theorem size_pos (a:Tree):1≤a.size:=by obtain⟨k,n,u,ks⟩:=a;simp only[Tree.size];omega
theorem sizeL_append : ∀ l r:List Tree,sizeL (l++r)=sizeL l+sizeL r
 | [],r=>by simp[sizeL]
 | t::ts,r=>by have:=sizeL_append ts r;simp only[bM,sizeL];omega
theorem deepL_append : ∀ l r:List Tree,deepL (l++r)=max (deepL l) (deepL r)
 | [],r=>by simp[deepL]
 | t::ts,r=>by have:=deepL_append ts r;simp only[bM,deepL];omega
theorem sizeL_take (l:List Tree) (k:Nat):sizeL (l.take k)≤sizeL l:=by
 have:=sizeL_append (l.take k) (l.drop k);rw[cn]at this;omega
theorem deepL_take (l:List Tree) (k:Nat):deepL (l.take k)≤deepL l:=by
 have:=deepL_append (l.take k) (l.drop k);rw[cn]at this;omega
theorem sizeL_drop (l:List Tree) (k:Nat):sizeL (l.take k)+sizeL (l.drop k)=sizeL l:=by
 rw[←sizeL_append,cn]
theorem len_sizeL : ∀ l:List Tree,l.length≤sizeL l
 | []=>by simp[sizeL]
 | t::ts=>by
  have:=len_sizeL ts;have:=size_pos t;simp only[sizeL,be];omega
theorem size_kids (a:Tree):a.size=1+sizeL a.kids:=by obtain⟨_,_,_,ks⟩:=a;rfl
theorem deep_kids (a:Tree):a.deep=deepL a.kids+1:=by obtain⟨_,_,_,ks⟩:=a;rfl
theorem sizeL_next (l:List Tree) (k:Nat) (h:k<l.length):sizeL (l.take (k+1))=sizeL (l.take k)+l[k].size:=by rw[cp h,sizeL_append];simp[sizeL]
theorem deepL_next (l:List Tree) (k:Nat) (h:k<l.length):deepL (l.take (k+1))=max (deepL (l.take k)) l[k].deep:=by rw[cp h,deepL_append];simp[deepL]
end Go.Sep
namespace Go.Sep
mutual
def Tree.wide : Tree→Nat
 | .mk _ n _ ks=>max n.length (wideL ks)
def wideL : List Tree→Nat
 | []=>0
 | t::ts=>max t.wide (wideL ts)
end
theorem wideL_mem : ∀ {l:List Tree} {t:Tree},t∈l→t.wide≤wideL l
 | x::xs,t,h=>by
  rcases List.mem_cons.1 h with rfl | h
  ·simp only[wideL];omega
  ·have:=wideL_mem h;simp only[wideL];omega
theorem wide_kid {a t:Tree} (h:t∈a.kids):t.wide≤a.wide:=by
 obtain⟨k,n,u,ks⟩:=a;have:=wideL_mem h;simp only[Tree.kids,Tree.wide]at *;omega
theorem wide_name (a:Tree):a.name.length≤a.wide:=by
 obtain⟨k,n,u,ks⟩:=a;simp only[Tree.name,Tree.wide];omega
mutual
theorem wide_bulk : ∀ a:Tree,a.wide≤a.bulk
 | .mk _ n _ ks=>by
  have:=wideL_bulk ks;simp only[Tree.wide,Tree.bulk];omega
theorem wideL_bulk : ∀ l:List Tree,wideL l≤bulkL l
 | []=>by simp[wideL,bulkL]
 | t::ts=>by
  have:=wide_bulk t;have:=wideL_bulk ts;simp only[wideL,bulkL];omega
end
end Go.Sep
namespace Go
abbrev dg := @Sep.wide_kid
end Go
namespace Go.Sep
mutual
def Tree.isType : Tree→Bool
 | .mk k n u ks =>
  if k=10 then decide (u=0)&&(isName n&&decide (ks.length=0))
  else if k=11∨k=12 then decide (n=[])&&(decide (u=0)&&(decide (ks.length=1)&&allType ks))
  else if k=13 then decide (n=[])&&(decide (0≤u)&&(decide (u≤(ks.length:Int))&&allType ks))
  else false
def allType : List Tree→Bool
 | []=>true
 | t::ts=>t.isType&&allType ts
end
theorem allType_eq : ∀ l:List Tree,allType l=l.all Tree.isType
 | []=>rfl
 | t::ts=>by rw[allType,allType_eq ts,cq]
theorem isType_eq (a:Tree):a.isType =
  if a.kind=10 then decide (a.num=0)&&(isName a.name&&decide (a.kids.length=0))
  else if a.kind=11∨a.kind=12 then decide (a.name=[])&&(decide (a.num=0)&&(decide (a.kids.length=1)&&a.kids.all Tree.isType))
  else if a.kind=13 then decide (a.name=[])&&(decide (0≤a.num)&&(decide (a.num≤(a.kids.length:Int))&&a.kids.all Tree.isType))
  else false:=by
 obtain⟨k,n,u,ks⟩:=a;simp only[Tree.kind,Tree.name,Tree.num,Tree.kids];rw[Tree.isType,allType_eq];rfl
def Tree.isParam (a:Tree):Bool:=decide (a.kind=8)&&(decide (a.num=0)&&(isName a.name&&(decide (a.kids.length=1)&&a.kids.all Tree.isType)))
def Tree.isSig (a:Tree):Bool:=decide (a.kind=7)&&(decide (a.name=[])&&(decide (0≤a.num)&&(decide (a.num≤(a.kids.length:Int))&&((a.kids.take a.num.toNat).all Tree.isParam&&(a.kids.drop a.num.toNat).all Tree.isType))))
def bareB (a:Tree) (k t u:Bool):Bool:=k&&((t||decide (a.name=[]))&&(u||decide (a.num=0)))
def ofB (a:Tree) (k:Int):Bool:=decide (a.kind=k)&&(decide (a.num=0)&&isName a.name)
def kidsR : List (Tree→Bool)→Option (Tree→Bool)→List Tree→Bool
 | [],none,l=>l.isEmpty
 | [],some r,l=>l.all r
 | _::_,_,[]=>false
 | p::ps,rest,x::l=>p x&&kidsR ps rest l
theorem kidsR_short : ∀(ps:List (Tree→Bool)) (rest:Option (Tree→Bool)) (l:List Tree),l.length<ps.length→kidsR ps rest l=false
 | [],_,_,h=>by simp at h
 | _::_,_,[],_=>by simp[kidsR]
 | p::ps,rest,x::l,h=>by rw[kidsR,kidsR_short ps rest l oW,Bool.and_false]
theorem kidsR_long : ∀(ps:List (Tree→Bool)) (l:List Tree),ps.length<l.length→kidsR ps none l=false
 | [],[],h=>by simp at h
 | [],_::_,_=>by simp[kidsR]
 | _::_,[],h=>by simp at h
 | p::ps,x::l,h=>by rw[kidsR,kidsR_long ps l oW,Bool.and_false]
theorem kidsR_step (ps:List (Tree→Bool)) (rest:Option (Tree→Bool)) (l:List Tree) (k:Nat) (h1:k<ps.length) (h2:k<l.length):kidsR (ps.drop k) rest (l.drop k)=(ps[k] l[k]&&kidsR (ps.drop (k+1)) rest (l.drop (k+1))):=by
 rw[bV h1,bV h2,kidsR]
theorem kidsR_rest (ps:List (Tree→Bool)) (r:Tree→Bool) (l:List Tree) (k:Nat) (h1:ps.length≤k) (h2:k<l.length):kidsR (ps.drop k) (some r) (l.drop k)=(r l[k]&&kidsR (ps.drop (k+1)) (some r) (l.drop (k+1))):=by
 rw[cj h1,cj (show ps.length≤k+1 by omega),bV h2,kidsR,kidsR,cq]
theorem kidsR_end (ps:List (Tree→Bool)) (rest:Option (Tree→Bool)) (l:List Tree) (k:Nat) (h1:ps.length≤k) (h2:l.length≤k):kidsR (ps.drop k) rest (l.drop k)=true:=by
 rw[cj h1,cj h2];cases rest<;>rfl
end Go.Sep
namespace Go.Sep
structure Sg where
 expr:Tree→Bool
 stmt:Tree→Bool
 block:Tree→Bool
theorem kidsR0 (l:List Tree):kidsR [] none l=decide (l.length=0):=by cases l<;>simp[kidsR]
theorem kidsR1 (p:Tree→Bool) (l:List Tree):kidsR [p] none l=(decide (l.length=1)&&l.all p):=by
 match l with
 | []=>simp[kidsR]
 | [x]=>simp[kidsR]
 | _::_::_=>simp[kidsR]
def ops4 : List Str:=[[45],[33],[38],[42]]
def lvl (a:Tree):Bool:=decide (0≤a.num)&&(decide (a.num≤3)&&decide ((a.kids.length:Int)=1+a.num % 2+a.num / 2))
def exprS (g:Sg) (a:Tree):Bool :=
 if a.kind=40 then bareB a (decide (0≤a.num)) false true&&kidsR [] none a.kids
 else if a.kind=41 then bareB a (decide ((a.name.length:Int)≤1024)) true false&&kidsR [] none a.kids
 else if a.kind=42 then bareB a (decide (a.num / 2=0)) false true&&kidsR [] none a.kids
 else if a.kind=43 then bareB a true false false&&kidsR [] none a.kids
 else if a.kind=44 then ofB a 44&&kidsR [] none a.kids
 else if a.kind=45 then ofB a 45&&a.kids.all g.expr
 else if a.kind=46 then bareB a true false false&&kidsR [Tree.isType] (some g.expr) a.kids
 else if a.kind=47 then bareB a true false false&&kidsR [Tree.isSig,g.block] none a.kids
 else if a.kind=48 then ofB a 48&&kidsR [g.expr] none a.kids
 else if a.kind=49 then bareB a true false false&&kidsR [g.expr,g.expr] none a.kids
 else if a.kind=50 then bareB a (lvl a) false true&&a.kids.all g.expr
 else if a.kind=51 then bareB a true false false&&kidsR [g.expr] (some g.expr) a.kids
 else if a.kind=52 then bareB a (decide (a.name∈ops4)) true false&&kidsR [g.expr] none a.kids
 else if a.kind=53 then bareB a (decide (a.name∈Ps.levels.flatten)) true false&&kidsR [g.expr,g.expr] none a.kids
 else false
def blockS (g:Sg) (a:Tree):Bool:=bareB a (decide (a.kind=20)) false false&&a.kids.all g.stmt
def nmS (g:Sg) (a:Tree):Bool:=decide (a.kind=44)&&g.expr a
def plS (g:Sg) (a:Tree):Bool:=Ps.isPl a&&g.expr a
def callS (g:Sg) (a:Tree):Bool:=decide (a.kind=51)&&g.expr a
def otherS (g:Sg) (a:Tree):Bool:=g.block a||(decide (a.kind=25)&&g.stmt a)
def asgS (g:Sg) (left:Tree→Bool) (a:Tree):Bool:=decide (1≤a.num)&&(decide (a.num<(a.kids.length:Int))&&((a.kids.take a.num.toNat).all left&&(a.kids.drop a.num.toNat).all g.expr))
def headS (a:Tree):Bool:=(decide (a.kind=21)||decide (a.name=[]))&&((decide (a.kind=22)||decide (a.kind=23))||decide (a.num=0))
def stmtS (g:Sg) (a:Tree):Bool :=
 if headS a=false then false
 else if a.kind=20 then blockS g a
 else if a.kind=21 then isName a.name&&(kidsR [Tree.isType] none a.kids||kidsR [Tree.isType,g.expr] none a.kids)
 else if a.kind=22 then asgS g (nmS g) a
 else if a.kind=23 then asgS g (plS g) a
 else if a.kind=24 then kidsR [callS g] none a.kids
 else if a.kind=25 then kidsR [g.expr,g.block] none a.kids||kidsR [g.expr,g.block,otherS g] none a.kids
 else if a.kind=26 then kidsR [g.block] none a.kids||kidsR [g.expr,g.block] none a.kids
 else if a.kind=27 then a.kids.all g.expr
 else if a.kind=28∨a.kind=29 then kidsR [] none a.kids
 else false
def Sg.step (g:Sg):Sg:=⟨exprS g,stmtS g,blockS g⟩
def sg : Nat→Sg
 | 0=>⟨fun _=>false,fun _=>false,fun _=>false⟩
 | n+1=>(sg n).step
def kid0 (a:Tree):Tree:=a.kids.headD (.mk 0 [] 0 [])
def recvS (a:Tree):Bool:=a.isParam&&(decide ((kid0 a).kind=11)&&decide ((kid0 (kid0 a)).kind=10))
def fieldS (p:Tree→Bool) (a:Tree):Bool:=ofB a 6&&kidsR [p] none a.kids
def declS (g:Sg) (a:Tree):Bool :=
 if a.kind=2 then ofB a 2&&a.kids.all (fieldS Tree.isType)
 else if a.kind=3 then ofB a 3&&a.kids.all (fieldS Tree.isSig)
 else if a.kind=4 then ofB a 4&&kidsR [Tree.isSig,g.block] none a.kids
 else if a.kind=5 then ofB a 5&&kidsR [recvS,Tree.isSig,g.block] none a.kids
 else false
def soundB (a:Tree):Bool:=(decide (a.size≤20000)&&decide (a.deep≤100))&&(bareB a (decide (a.kind=1)) false false&&a.kids.all (declS (sg 100)))
end Go.Sep
namespace Go.Sep
def lim : Sg:=⟨fun a=>(sg a.deep).expr a,fun a=>(sg a.deep).stmt a,fun a=>(sg a.deep).block a⟩
structure EqOn (g g':Sg) (l:List Tree):Prop where
 expr:∀ x∈l,g.expr x=g'.expr x
 stmt:∀ x∈l,g.stmt x=g'.stmt x
 block:∀ x∈l,g.block x=g'.block x
theorem all_congr {p q:Tree→Bool}:∀ {l:List Tree},(∀ x∈l,p x=q x)→l.all p=l.all q
 | [],_=>rfl
 | x::l,h=>by rw[cq,cq,h x ow,all_congr fun y hy=>h y pm]
theorem kidsR_congr : ∀(ps qs:List (Tree→Bool)) (r r':Option (Tree→Bool)) (l:List Tree),All2 (fun p q=>∀ x∈l,p x=q x) ps qs→(∀ l',l' ⊆ l→kidsR [] r l'=kidsR [] r' l')→kidsR ps r l=kidsR qs r' l
 | [],[],r,r',l,_,hr=>hr l (fun _ h=>h)
 | p::ps,q::qs,r,r',[],_,_=>rfl
 | p::ps,q::qs,r,r',x::l,h,hr=>by
  rw[kidsR,kidsR,h.1 x ow,kidsR_congr ps qs r r' l (h.2.mono fun p q hp y hy=>hp y pm) (fun l' hl=>hr l' (fun y hy=>by have:=hl hy;simp[this]))]
theorem kidsR_some {p q:Tree→Bool} {l:List Tree} (h:∀ x∈l,p x=q x) (l':List Tree) (hl:l' ⊆ l):kidsR [] (some p) l'=kidsR [] (some q) l':=all_congr fun x hx=>h x (hl hx)
section
variable {g g':Sg} {a:Tree} (h:EqOn g g' a.kids)
include h
theorem exprS_congr : exprS g a=exprS g' a:=by
 have k1:kidsR [g.expr] none a.kids=kidsR [g'.expr] none a.kids:=kidsR_congr _ _ _ _ _ ⟨h.expr,trivial⟩ (fun _ _=>rfl);have k2:kidsR [g.expr,g.expr] none a.kids=kidsR [g'.expr,g'.expr] none a.kids:=kidsR_congr _ _ _ _ _ ⟨h.expr,h.expr,trivial⟩ (fun _ _=>rfl);have k3:kidsR [Tree.isType] (some g.expr) a.kids=kidsR [Tree.isType] (some g'.expr) a.kids:=kidsR_congr _ _ _ _ _ ⟨fun _ _=>rfl,trivial⟩ (kidsR_some h.expr);have k4:kidsR [Tree.isSig,g.block] none a.kids=kidsR [Tree.isSig,g'.block] none a.kids:=kidsR_congr _ _ _ _ _ ⟨fun _ _=>rfl,h.block,trivial⟩ (fun _ _=>rfl);have k5:kidsR [g.expr] (some g.expr) a.kids=kidsR [g'.expr] (some g'.expr) a.kids:=kidsR_congr _ _ _ _ _ ⟨h.expr,trivial⟩ (kidsR_some h.expr);have k6:a.kids.all g.expr=a.kids.all g'.expr:=all_congr h.expr;unfold exprS;rw[k1,k2,k3,k4,k5,k6]
theorem blockS_congr : blockS g a=blockS g' a:=by
 unfold blockS;rw[all_congr h.stmt]
theorem stmtS_congr : stmtS g a=stmtS g' a:=by
 have k1:kidsR [Tree.isType,g.expr] none a.kids=kidsR [Tree.isType,g'.expr] none a.kids:=kidsR_congr _ _ _ _ _ ⟨fun _ _=>rfl,h.expr,trivial⟩ (fun _ _=>rfl);have k2:kidsR [callS g] none a.kids=kidsR [callS g'] none a.kids:=kidsR_congr _ _ _ _ _ ⟨fun x hx=>by unfold callS;rw[h.expr x hx],trivial⟩ (fun _ _=>rfl);have k3:kidsR [g.expr,g.block] none a.kids=kidsR [g'.expr,g'.block] none a.kids:=kidsR_congr _ _ _ _ _ ⟨h.expr,h.block,trivial⟩ (fun _ _=>rfl);have k4:kidsR [g.expr,g.block,otherS g] none a.kids=kidsR [g'.expr,g'.block,otherS g'] none a.kids:=kidsR_congr _ _ _ _ _ ⟨h.expr,h.block,fun x hx=>by unfold otherS;rw[h.block x hx,h.stmt x hx],trivial⟩ (fun _ _=>rfl);have k5:kidsR [g.block] none a.kids=kidsR [g'.block] none a.kids:=kidsR_congr _ _ _ _ _ ⟨h.block,trivial⟩ (fun _ _=>rfl);have k6:a.kids.all g.expr=a.kids.all g'.expr:=all_congr h.expr;have k7:∀ left left':Tree→Bool,(∀ x∈a.kids,left x=left' x)→asgS g left a=asgS g' left' a:=fun left left' hl=>by
  unfold asgS;rw[all_congr (l:=a.kids.take a.num.toNat) fun x hx=>hl x (cu hx),all_congr (l:=a.kids.drop a.num.toNat) fun x hx=>h.expr x (List.mem_of_mem_drop hx)]
 unfold stmtS;rw[k1,k2,k3,k4,k5,k6,blockS_congr h,k7 (nmS g) (nmS g') (fun x hx=>by unfold nmS;rw[h.expr x hx]),k7 (plS g) (plS g') (fun x hx=>by unfold plS;rw[h.expr x hx])]
end
theorem deepL_of_mem : ∀ {l:List Tree} {t:Tree},t∈l→t.deep≤deepL l
 | x::xs,t,h=>by
  rcases List.mem_cons.1 h with rfl | h
  ·simp only[deepL];omega
  ·have:=deepL_of_mem h;simp only[deepL];omega
theorem deep_of_kid {a t:Tree} (h:t∈a.kids):t.deep<a.deep:=by
 obtain⟨k,n,u,ks⟩:=a;have:=deepL_of_mem h;simp only[Tree.kids,Tree.deep]at *;omega
theorem deep_pos (a:Tree):1≤a.deep:=by obtain⟨k,n,u,ks⟩:=a;simp only[Tree.deep];omega
theorem sg_lim : ∀(n:Nat) (a:Tree),a.deep≤n→(sg n).expr a=lim.expr a∧(sg n).stmt a=lim.stmt a∧(sg n).block a=lim.block a:=by
 intro n
 induction n using Nat.strongRecOn with
 | _ n ih =>
  intro a ha;have hp:=deep_pos a;obtain⟨d,hd⟩:∃ d,a.deep=d+1:=⟨a.deep-1,by omega⟩
  obtain⟨m,rfl⟩:∃ m,n=m+1:=⟨n-1,by omega⟩
  have he:EqOn (sg m) (sg d) a.kids:=by
   have h1:∀ x∈a.kids,_:=fun x hx=>ih m ou x qk;have h2:∀ x∈a.kids,_:=fun x hx=>ih d ou x qk;exact⟨fun x hx=>(h1 x hx).1.trans (h2 x hx).1.symm,fun x hx=>(h1 x hx).2.1.trans (h2 x hx).2.1.symm,fun x hx=>(h1 x hx).2.2.trans (h2 x hx).2.2.symm⟩
  show(sg m).step.expr a=(sg a.deep).expr a∧(sg m).step.stmt a=(sg a.deep).stmt a∧(sg m).step.block a=(sg a.deep).block a;rw[hd];exact⟨exprS_congr he,stmtS_congr he,blockS_congr he⟩
theorem lim_fix (a:Tree):lim.expr a=exprS lim a∧lim.stmt a=stmtS lim a∧lim.block a=blockS lim a:=by
 have he:EqOn (sg a.deep) lim a.kids:=by
  have h1:∀ x∈a.kids,_:=fun x hx=>sg_lim a.deep x (Nat.le_of_lt (deep_of_kid hx));exact⟨fun x hx=>(h1 x hx).1,fun x hx=>(h1 x hx).2.1,fun x hx=>(h1 x hx).2.2⟩
 have h2:=sg_lim (a.deep+1) a ou;exact⟨h2.1.symm.trans (exprS_congr he),h2.2.1.symm.trans (stmtS_congr he),h2.2.2.symm.trans (blockS_congr he)⟩
theorem declS_lim {a:Tree} (h:a.deep≤101):declS (sg 100) a=declS lim a:=by
 have hb:∀ x∈a.kids,(sg 100).block x=lim.block x:=fun x hx=>(sg_lim 100 x qk).2.2;unfold declS;rw[kidsR_congr [Tree.isSig,(sg 100).block] [Tree.isSig,lim.block] none none a.kids ⟨fun _ _=>rfl,hb,trivial⟩ (fun _ _=>rfl),
  kidsR_congr [recvS,Tree.isSig,(sg 100).block] [recvS,Tree.isSig,lim.block] none none a.kids ⟨fun _ _=>rfl,fun _ _=>rfl,hb,trivial⟩ (fun _ _=>rfl)]
end Go.Sep
namespace Go.Ps
open Go.Sep
variable {α β:Type}
structure TkOk (t:Tk):Prop where
 name:t.kind=1→isName t.text=true
 num:t.kind=2→0≤t.num
 str:t.kind=3→t.text.length≤1024
def FOk (f:F):Prop:=∀ i t,f i=some t→TkOk t
def Sd (w:α→Prop) (p:Pp α):Prop:=∀ f,FOk f→∀ k a k',p f k = .ok a k'→w a
theorem Sd.ret {w:α→Prop} {a:α} (h:w a):Sd w (ret a):=fun f _ k b k' e=>by injection e with e1 e2;subst e1;exact h
theorem Sd.fail {w:α→Prop}:Sd w (fail:Pp α):=fun f _ k a k' e=>by cases e
theorem Sd.dry {w:α→Prop}:Sd w (dry:Pp α):=fun f _ k a k' e=>by cases e
theorem Sd.mono {w w':α→Prop} {p:Pp α} (h:Sd w p) (hw:∀ a,w a→w' a):Sd w' p:=fun f hf k a k' e=>hw a (h f hf k a k' e)
theorem Sd.bind {w1:α→Prop} {w:β→Prop} {p:Pp α} {g:α→Pp β} (hp:Sd w1 p) (hg:∀ a,w1 a→Sd w (g a)):Sd w (Ps.bind p g):=fun f hf k b k' e=>by
 exact gi
theorem Sd.tok {w:α→Prop} {s:Str} {A B:Pp α} (hA:Sd w A) (hB:Sd w B):Sd w (tok s A B):=fun f hf k a k' e=>by
 exact gH
theorem Sd.need {w:α→Prop} {s:Str} {A:Pp α} (hA:Sd w A):Sd w (need s A):=Sd.tok hA Sd.fail
theorem Sd.tkn {w:α→Prop} {n:Int} {A:Tk→Pp α} {B:Pp α} (hA:∀ t,TkOk t→t.kind=n→Sd w (A t)) (hB:Sd w B):Sd w (tkn n A B):=fun f hf k a k' e=>by
 exact fB
theorem Sd.name {w:α→Prop} {A:Str→Pp α} (hA:∀ t,isName t=true→Sd w (A t)):Sd w (name A):=Sd.tkn (fun t ht hk=>hA t.text (ht.name hk)) Sd.fail
theorem Sd.oneOf {w:α→Prop} {ops:List Str} {A:Str→Pp α} {B:Pp α} (hA:∀ t∈ops,Sd w (A t)) (hB:Sd w B):Sd w (oneOf ops A B):=fun f hf k a k' e=>by
 unfold Ps.oneOf at e;cases hx:ops.find? (fun s=>isM s f k)with
 | none=>simp only[hx]at e;exact hB f hf k a k' e
 | some t=>simp only[hx]at e;exact hA t (List.mem_of_find?_eq_some hx) f hf _ a k' e
theorem Sd.peek {w:α→Prop} {q:F→Nat→Bool} {A B:Pp α} (hA:Sd w A) (hB:Sd w B):Sd w (peek q A B):=fun f hf k a k' e=>by
 exact fz
theorem Sd.tokIf {w:α→Prop} {x:Bool} {s:Str} {A B:Pp α} (hA:x=true→Sd w A) (hB:Sd w B):Sd w (tokIf x s A B):=by
 cases x with
 | true=>exact Sd.tok (hA rfl) hB
 | false=>exact hB
def AllW (w:α→Prop) (l:List α):Prop:=∀ a∈l,w a
def Row (w:α→Prop) (l:List α):Prop:=AllW w l∧1≤l.length
theorem AllW.nil {w:α→Prop}:AllW w ([]:List α):=fun _ h=>by cases h
theorem AllW.cons {w:α→Prop} {a:α} {l:List α} (h:w a) (hl:AllW w l):AllW w (a::l):=fun b hb=>by
 exact jH
theorem AllW.all {p:Tree→Bool} {l:List Tree} (h:AllW (fun a=>p a=true) l):l.all p=true:=List.all_eq_true.2 h
theorem commas_sd {w:α→Prop} {X:Pp α} (h:Sd w X):∀ j,Sd (Row w) (commas j X)
 | 0=>Sd.dry
 | j+1=>Sd.bind h fun a ha=>Sd.tok (Sd.bind (commas_sd h j) fun l hl=>Sd.ret ⟨AllW.cons ha hl.1,by simp⟩) (Sd.ret ⟨AllW.cons ha AllW.nil,by simp⟩)
theorem upto_sd {w:α→Prop} {X:Pp α} {s:Str} (h:Sd w X):∀ j,Sd (AllW w) (upto j s X)
 | 0=>Sd.dry
 | j+1=>Sd.tok (Sd.ret AllW.nil) (Sd.bind h fun a ha=>Sd.bind (upto_sd h j) fun l hl=>Sd.ret (AllW.cons ha hl))
variable {N:Nat}
theorem inP_sd {w:α→Prop} {s:Str} {X:Pp α} (h:Sd w X):Sd (AllW w) (inP N s X):=Sd.tok (Sd.ret AllW.nil) (Sd.bind (commas_sd h N) fun l hl=>Sd.need (Sd.ret hl.1))
@[reducible] def Ty (a:Tree):Prop:=a.isType=true
@[reducible] def Pa (a:Tree):Prop:=a.isParam=true
@[reducible] def Sgn (a:Tree):Prop:=a.isSig=true
@[reducible] def Ex (a:Tree):Prop:=lim.expr a=true
@[reducible] def Stt (a:Tree):Prop:=lim.stmt a=true
@[reducible] def Bl (a:Tree):Prop:=lim.block a=true
theorem results_sd {typ:Pp Tree} (h:Sd Ty typ):Sd (AllW Ty) (resultsP N typ) :=
 Sd.tok (Sd.bind (commas_sd h N) fun l hl=>Sd.need (Sd.ret hl.1)) (Sd.peek (Sd.bind h fun t ht=>Sd.ret (AllW.cons ht AllW.nil)) (Sd.ret AllW.nil))
theorem param_sd {typ:Pp Tree} (h:Sd Ty typ):Sd Pa (paramP typ):=Sd.name fun s hs=>Sd.bind h fun t ht=>Sd.ret (by
 show Tree.isParam _=true;unfold Tree.isParam;simp[Tree.kind,Tree.num,Tree.name,Tree.kids,hs,show t.isType=true from ht])
theorem sig_sd {typ:Pp Tree} (h:Sd Ty typ):Sd Sgn (sigP N typ):=Sd.need (Sd.bind (inP_sd (param_sd h)) fun ps hps=>Sd.bind (results_sd h) fun rs hrs=>Sd.ret (by
 show Tree.isSig _=true;unfold Tree.isSig;simp only[Tree.kind,Tree.num,Tree.name,Tree.kids,bO,List.take_left',List.drop_left',AllW.all hps,AllW.all hrs];simp;omega))
theorem fsig_sd {typ:Pp Tree} (h:Sd Ty typ):Sd Ty (sigLike N 13 typ typ):=Sd.need (Sd.bind (inP_sd h) fun ps hps=>Sd.bind (results_sd h) fun rs hrs=>Sd.ret (by
 show Tree.isType _=true;rw[isType_eq];simp only[Tree.kind,Tree.num,Tree.name,Tree.kids,List.all_append,AllW.all hps,AllW.all hrs];simp;omega))
theorem typP_sd {typ:Pp Tree} (h:Sd Ty typ):Sd Ty (typP N typ):=by
 refine Sd.tok (Sd.bind h fun t ht=>Sd.ret ?_) (Sd.tok (Sd.need (Sd.bind h fun t ht=>Sd.ret ?_)) (Sd.tok (fsig_sd h) (Sd.name fun s hs=>Sd.ret ?_)))
 ·exact io
 ·exact io
 ·show Tree.isType _=true;rw[isType_eq];simp[leaf,Tree.kind,Tree.num,Tree.name,Tree.kids,hs]
theorem fieldT_sd {typ:Pp Tree} (h:Sd Ty typ):Sd (fun a=>fieldS Tree.isType a=true) (fieldP typ):=Sd.name fun s hs=>Sd.bind h fun t ht=>Sd.need (Sd.ret (by
 show fieldS _ _=true;simp[fieldS,ofB,kidsR,Tree.kind,Tree.num,Tree.name,Tree.kids,hs,show t.isType=true from ht]))
theorem fieldG_sd {typ:Pp Tree} (h:Sd Sgn typ):Sd (fun a=>fieldS Tree.isSig a=true) (fieldP typ):=Sd.name fun s hs=>Sd.bind h fun t ht=>Sd.need (Sd.ret (by
 show fieldS _ _=true;simp[fieldS,ofB,kidsR,Tree.kind,Tree.num,Tree.name,Tree.kids,hs,show t.isSig=true from ht]))
theorem typeDecl_sd {typ:Pp Tree} (h:Sd Ty typ):Sd (fun a=>declS lim a=true) (typeDeclP N typ):=by
 refine Sd.name fun nm hnm=>Sd.tok (Sd.need (Sd.bind (upto_sd (fieldG_sd (sig_sd h)) N) fun l hl=>Sd.ret ?_)) (Sd.need (Sd.need (Sd.bind (upto_sd (fieldT_sd h) N) fun l hl=>Sd.ret ?_)))
 ·exact iu
 ·exact iu
theorem declP_sd {typ block:Pp Tree} (h:Sd Ty typ) (hb:Sd Bl block):Sd (fun a=>declS lim a=true) (declP N typ block):=by
 refine Sd.tok (typeDecl_sd h) (Sd.need (Sd.tok ?_ ?_))
 ·refine Sd.name fun recv hrecv=>Sd.need (Sd.name fun of hof=>Sd.need (Sd.name fun nm hnm=>Sd.bind (sig_sd h) fun s hs=>Sd.bind hb fun b hb=>Sd.ret ?_));show declS _ _=true;have ht:(Tree.mk 11 [] 0 [leaf 10 of]).isType=true:=by
   have h1:(leaf 10 of).isType=true:=by rw[isType_eq];simp[leaf,Tree.kind,Tree.num,Tree.name,Tree.kids,hof]
   rw[isType_eq];simp[Tree.kind,Tree.num,Tree.name,Tree.kids,h1]
  have hr:recvS (recvT recv of)=true:=by
   unfold recvS recvT Tree.isParam;simp[kid0,leaf,Tree.kind,Tree.num,Tree.name,Tree.kids,hrecv];exact ht
  simp only[declS,Tree.kind];simp[ofB,kidsR,Tree.kind,Tree.num,Tree.name,Tree.kids,hnm,hr,show s.isSig=true from hs,show lim.block b=true from hb]
 ·refine Sd.name fun nm hnm=>Sd.bind (sig_sd h) fun s hs=>Sd.bind hb fun b hb=>Sd.ret ?_;show declS _ _=true;simp only[declS,Tree.kind];simp[ofB,kidsR,Tree.kind,Tree.num,Tree.name,Tree.kids,hnm,show s.isSig=true from hs,show lim.block b=true from hb]
theorem blockP_sd {stmt:Pp Tree} (h:Sd Stt stmt):Sd Bl (blockP N stmt):=Sd.need (Sd.bind (upto_sd h N) fun l hl=>Sd.ret (by
 show lim.block _=true;rw[(lim_fix _).2.2];simp only[blockS,bareB,Tree.kind,Tree.num,Tree.name,Tree.kids,AllW.all hl];simp))
@[reducible] def If (a:Tree):Prop:=lim.stmt a=true∧a.kind=25
theorem branchP_sd {expr block branch:Pp Tree} (he:Sd Ex expr) (hb:Sd Bl block) (hr:Sd If branch):Sd If (branchP expr block branch):=by
 refine Sd.need (Sd.bind he fun c hc=>Sd.bind hb fun b hb1=>Sd.tok (Sd.peek (Sd.bind hr fun e he1=>Sd.ret ⟨?_,rfl⟩) (Sd.bind hb fun e he1=>Sd.ret ⟨?_,rfl⟩)) (Sd.ret ⟨?_,rfl⟩))
 ·rw[(lim_fix _).2.1];simp[stmtS,headS,otherS,kidsR,Tree.kind,Tree.num,Tree.name,Tree.kids,show lim.expr c=true from hc,show lim.block b=true from hb1,he1.1];exact .inr (bS he1.2)
 ·rw[(lim_fix _).2.1];simp[stmtS,headS,otherS,kidsR,Tree.kind,Tree.num,Tree.name,Tree.kids,show lim.expr c=true from hc,show lim.block b=true from hb1,show lim.block e=true from he1]
 ·exact gL
theorem forP_sd {expr block:Pp Tree} (he:Sd Ex expr) (hb:Sd Bl block):Sd Stt (forP expr block):=by
 refine Sd.peek (Sd.bind hb fun b hb1=>Sd.ret ?_) (Sd.bind he fun c hc=>Sd.bind hb fun b hb1=>Sd.ret ?_)
 ·show lim.stmt _=true;rw[(lim_fix _).2.1];simp[stmtS,headS,kidsR,Tree.kind,Tree.num,Tree.name,Tree.kids,show lim.block b=true from hb1]
 ·show lim.stmt _=true;exact gL
theorem asg_ok {left l:List Tree} {p:Tree→Bool} (h1:1≤left.length) (h2:1≤l.length) (hp:left.all p=true) (hl:l.all lim.expr=true) (k:Int):asgS lim p (.mk k [] (left.length:Int) (left++l))=true:=by
 simp only[asgS,Tree.num,Tree.kids,bO,List.take_left',List.drop_left',hp,hl,ba];simp only[bu];exact⟨bS ou,bS ou,trivial,trivial⟩
theorem assignP_sd {expr:Pp Tree} {left:List Tree} (he:Sd Ex expr) (hl:Row Ex left):Sd Stt (assignP N expr left):=by
 refine Sd.tokIf (fun hx=>Sd.bind (commas_sd he N) fun l hr=>Sd.ret ?_) (Sd.tokIf (fun hx=>Sd.bind (commas_sd he N) fun l hr=>Sd.ret ?_) ?_)
 ·show lim.stmt _=true;have hp:left.all (nmS lim)=true:=List.all_eq_true.2 fun x hx1=>by
   unfold nmS;exact iW
  rw[(lim_fix _).2.1];simp only[stmtS,headS,Tree.kind,Tree.num,Tree.name];simpa using asg_ok hl.2 hr.2 hp (AllW.all hr.1) 22
 ·show lim.stmt _=true;have hp:left.all (plS lim)=true:=List.all_eq_true.2 fun x hx1=>by
   unfold plS;exact iW
  rw[(lim_fix _).2.1];simp only[stmtS,headS,Tree.kind,Tree.num,Tree.name];simpa using asg_ok hl.2 hr.2 hp (AllW.all hr.1) 23
 ·cases hx:isC1 left with
  | false=>exact Sd.fail
  | true =>
   refine Sd.peek (Sd.ret ?_) Sd.fail;show lim.stmt _=true
   match left,hx,hl with
   | [t],hx,hl =>
    have ht:t.kind=51:=of_decide_eq_true hx;rw[(lim_fix _).2.1];simp[stmtS,headS,callS,kidsR,Tree.kind,Tree.num,Tree.name,Tree.kids,show lim.expr t=true from hl.1 t ow];exact bS ht
theorem simpleP_sd {typ expr:Pp Tree} (h:Sd Ty typ) (he:Sd Ex expr):Sd Stt (simpleP N typ expr):=by
 refine Sd.tok (Sd.name fun s hs=>Sd.bind h fun t ht=>Sd.tok (Sd.bind he fun e he1=>Sd.ret ?_) (Sd.ret ?_)) (Sd.tok (Sd.peek (Sd.ret ?_) (Sd.bind (commas_sd he N) fun l hl=>Sd.ret ?_)) (Sd.tok (Sd.ret ?_) (Sd.tok (Sd.ret ?_) (Sd.bind (commas_sd he N) fun l hl=>assignP_sd he hl))))
 ·show lim.stmt _=true;rw[(lim_fix _).2.1];simp[stmtS,headS,kidsR,Tree.kind,Tree.num,Tree.name,Tree.kids,hs,show t.isType=true from ht,show lim.expr e=true from he1]
 ·show lim.stmt _=true;rw[(lim_fix _).2.1];simp[stmtS,headS,kidsR,Tree.kind,Tree.num,Tree.name,Tree.kids,hs,show t.isType=true from ht]
 ·show lim.stmt _=true;rw[(lim_fix _).2.1];simp[stmtS,headS,leaf,Tree.kind,Tree.num,Tree.name,Tree.kids]
 ·show lim.stmt _=true;rw[(lim_fix _).2.1];simp only[stmtS,headS,Tree.kind,Tree.num,Tree.name,Tree.kids,AllW.all hl.1];simp
 ·exact iw
 ·exact iw
theorem cutP_sd {expr:Pp Tree} {num:Int} {ks:List Tree} (he:Sd Ex expr) (hk:AllW Ex ks) (hn:(num=0∧ks.length=1)∨(num=1∧ks.length=2)):Sd Ex (cutP expr num ks):=by
 refine Sd.need (Sd.tok (Sd.ret ?_) (Sd.bind he fun e he1=>Sd.need (Sd.ret ?_)))
 ·show lim.expr _=true;refine nZ ?_;simp only[exprS,Tree.kind];simp only[bareB,lvl,Tree.num,Tree.name,Tree.kids,AllW.all hk];rcases hn with ⟨rfl,h⟩ | ⟨rfl,h⟩<;>simp[h]
 ·show lim.expr _=true;refine nZ ?_;simp only[exprS,Tree.kind];simp only[bareB,lvl,Tree.num,Tree.name,Tree.kids,List.all_append,AllW.all hk];rcases hn with ⟨rfl,h⟩ | ⟨rfl,h⟩<;>simp[h,show lim.expr e=true from he1]
theorem indexP_sd {expr:Pp Tree} {n:Tree} (he:Sd Ex expr) (hn:Ex n):Sd Ex (indexP expr n):=by
 refine Sd.peek (cutP_sd he (AllW.cons hn AllW.nil) (.inl ⟨rfl,rfl⟩)) (Sd.bind he fun e he1=>Sd.tok (Sd.ret ?_) (cutP_sd he (AllW.cons hn (AllW.cons he1 AllW.nil)) (.inr ⟨rfl,rfl⟩)));show lim.expr _=true;refine nZ ?_;simp[exprS,bareB,kidsR,Tree.kind,Tree.num,Tree.name,Tree.kids,show lim.expr n=true from hn,show lim.expr e=true from he1]
theorem postP_sd {expr:Pp Tree} (he:Sd Ex expr):∀(j:Nat) (n:Tree),Ex n→Sd Ex (postP N expr j n)
 | 0,_,_=>Sd.dry
 | j+1,n,hn=>by
  refine Sd.tok (Sd.name fun s hs=>postP_sd he j _ ?_) (Sd.tok (Sd.bind (indexP_sd he hn) fun t ht=>postP_sd he j _ ht) (Sd.tok (Sd.bind (inP_sd he) fun l hl=>postP_sd he j _ ?_) (Sd.ret hn)))
  ·show lim.expr _=true;refine nZ ?_;simp[exprS,ofB,kidsR,Tree.kind,Tree.num,Tree.name,Tree.kids,hs,show lim.expr n=true from hn]
  ·show lim.expr _=true;refine nZ ?_;simp only[exprS,bareB,kidsR,Tree.kind,Tree.num,Tree.name,Tree.kids,AllW.all hl,show lim.expr n=true from hn];simp
theorem primP_sd {typ block expr:Pp Tree} {h:Bool} (gt:Sd Ty typ) (hb:Sd Bl block) (he:Sd Ex expr):Sd Ex (primP N typ block expr h):=by
 refine Sd.tkn (fun t ht hk=>Sd.ret ?_) (Sd.tkn (fun t ht hk=>Sd.ret ?_) (Sd.tok (Sd.ret ?_) (Sd.tok (Sd.ret ?_) (Sd.tok (Sd.ret ?_) ?_))))
 ·show lim.expr _=true;refine nZ ?_;simp[exprS,bareB,kidsR,Tree.kind,Tree.num,Tree.name,Tree.kids,ht.num hk]
 ·show lim.expr _=true;have:=ht.str hk;refine nZ ?_;simp only[exprS,leaf,bareB,kidsR,Tree.kind,Tree.num,Tree.name,Tree.kids];simp;exact bS ou
 ·show lim.expr _=true;refine nZ ?_;simp[exprS,bareB,kidsR,Tree.kind,Tree.num,Tree.name,Tree.kids]
 ·exact iE
 ·exact iE
 refine Sd.tok (Sd.bind he fun t ht=>Sd.need (Sd.ret ht)) (Sd.tok (Sd.need (Sd.bind gt fun t ht=>Sd.need (Sd.bind (inP_sd he) fun l hl=>Sd.ret ?_))) (Sd.tok (Sd.bind (sig_sd gt) fun s hs=>Sd.bind hb fun b hb1=>Sd.ret ?_) (Sd.name fun s hs=>?_)))
 ·show lim.expr _=true;refine nZ ?_;simp only[exprS,bareB,kidsR,Tree.kind,Tree.num,Tree.name,Tree.kids,AllW.all hl,show t.isType=true from ht];simp
 ·show lim.expr _=true;refine nZ ?_;simp[exprS,bareB,kidsR,Tree.kind,Tree.num,Tree.name,Tree.kids,show s.isSig=true from hs,show lim.block b=true from hb1]
 have hnm:Ex (leaf 44 s):=by
  show lim.expr _=true;refine nZ ?_;simp[exprS,leaf,ofB,kidsR,Tree.kind,Tree.num,Tree.name,Tree.kids,hs]
 cases h with
 | true=>exact Sd.ret hnm
 | false =>
  refine Sd.tok (Sd.bind (inP_sd he) fun l hl=>Sd.ret ?_) (Sd.ret hnm);show lim.expr _=true;refine nZ ?_;simp only[exprS,ofB,kidsR,Tree.kind,Tree.num,Tree.name,Tree.kids,AllW.all hl,hs];simp
theorem loopB_sd {X:Pp Tree} {ops:List Str} (h:Sd Ex X) (ho:∀ s∈ops,s∈levels.flatten):∀(j:Nat) (n:Tree),Ex n→Sd Ex (loopB j ops X n)
 | 0,_,_=>Sd.dry
 | j+1,n,hn=>Sd.oneOf (fun op hop=>Sd.bind h fun m hm=>loopB_sd h ho j _ (by
   show lim.expr _=true;refine nZ ?_;simp only[exprS,binT,bareB,kidsR,Tree.kind,Tree.num,Tree.name,Tree.kids,show lim.expr n=true from hn,show lim.expr m=true from hm];simp;exact List.mem_flatten.1 (ho op hop))) (Sd.ret hn)
theorem binL_sd {U:Pp Tree} (hU:Sd Ex U):∀ l,(∀ ops∈l,∀ s∈ops,s∈levels.flatten)→Sd Ex (binL N U l)
 | [],_=>hU
 | ops::rest,hl=>Sd.bind (binL_sd hU rest fun o ho=>hl o (by simp[ho])) fun n hn=>loopB_sd (binL_sd hU rest fun o ho=>hl o (by simp[ho])) (hl ops ow) N n hn
structure GSd (g:Gr):Prop where
 typ:Sd Ty g.typ
 block:Sd Bl g.block
 stmt:Sd Stt g.stmt
 branch:Sd If g.branch
 expr:∀ b,Sd Ex (g.expr b)
 unary:∀ b,Sd Ex (g.unary b)
theorem gsd : ∀ n,GSd (gr N n)
 | 0=>⟨Sd.dry,Sd.dry,Sd.dry,Sd.dry,fun _=>Sd.dry,fun _=>Sd.dry⟩
 | n+1=>by
  have IH:=gsd n;refine⟨typP_sd IH.typ,blockP_sd IH.stmt,?_,branchP_sd (IH.expr _) IH.block IH.branch,fun b=>binL_sd (IH.unary b) _ fun o ho s hs=>List.mem_flatten.2 ⟨o,ho,hs⟩,fun b=>?_⟩
  ·refine Sd.peek (IH.block.mono fun a ha=>?_) (Sd.peek (IH.branch.mono fun a ha=>ha.1) (Sd.tok (forP_sd (IH.expr _) IH.block) (Sd.bind (simpleP_sd IH.typ (IH.expr _)) fun s hs=>Sd.need (Sd.ret hs))));show lim.stmt a=true;have h1:blockS lim a=true:=(lim_fix a).2.2.symm.trans ha;have h2:a.kind=20∧a.name=[]∧a.num=0:=by
    unfold blockS bareB at h1;simp only[bu,bE,cw]at h1;exact⟨h1.1.1,h1.1.2.1,h1.1.2.2⟩
   rw[(lim_fix a).2.1];unfold stmtS;rw[if_neg (by unfold headS;rw[h2.1,h2.2.1,h2.2.2];decide),if_pos h2.1,h1]
  ·refine Sd.oneOf (fun op hop=>Sd.bind (IH.unary b) fun t ht=>Sd.ret ?_) (Sd.bind (primP_sd IH.typ IH.block (IH.expr _)) fun t ht=>postP_sd (IH.expr _) N t ht);show lim.expr _=true;refine nZ ?_;have ho:op∈ops4:=hop;simp only[exprS,bareB,kidsR,Tree.kind,Tree.num,Tree.name,Tree.kids,show lim.expr t=true from ht];simp;exact bS ho
theorem declG_sd (n:Nat):Sd (fun a=>declS lim a=true) (declG N n):=declP_sd (gsd n).typ (gsd n).block
theorem progL_sd {w:Tree→Prop} {decl:Pp Tree} (h:Sd w decl):∀ j,Sd (AllW w) (progL decl j)
 | 0=>Sd.dry
 | j+1=>fun f hf k a k' e=>by
  have hr:Sd (AllW w) (Ps.bind decl fun a=>Ps.bind (Ps.progL decl j) fun l=>Ps.ret (a::l)):=Sd.bind h fun a ha=>Sd.bind (progL_sd h j) fun l hl=>Sd.ret (AllW.cons ha hl);unfold progL at e;cases hb:(f k).isNone with
  | true=>simp only[hb,cy]at e;injection e with e1 e2;subst e1;exact AllW.nil
  | false=>simp only[hb,cx]at e;exact hr f hf k a k' e
theorem program_sound {M:Nat} {f:F} (hf:FOk f) {ds:List Tree} {k:Nat} (h:program M f 0 = .ok ds k) (h1:(Tree.mk 1 [] 0 ds).size≤20000) (h2:(Tree.mk 1 [] 0 ds).deep≤100):soundB (.mk 1 [] 0 ds)=true:=by
 have hd:=progL_sd (declG_sd _) _ f hf 0 ds k h;unfold soundB;rw[bS h1,bS h2];simp only[bareB,Tree.kind,Tree.num,Tree.name,Tree.kids];have ha:ds.all (declS (sg 100))=true:=List.all_eq_true.2 fun x hx=>by
  have hx':x∈(Tree.mk 1 [] 0 ds).kids:=hx;rw[declS_lim (by have:=deep_of_kid hx';omega)];exact hd x hx
 rw[ha];simp
end Go.Ps
namespace Go
abbrev dh := @Sep.deep_of_kid
abbrev di := @Sep.lim_fix
end Go
namespace Go.Pt
open Go.Sep Go.Ps
variable {α β:Type}
def yes (_:Option Tk):Bool:=true
def fT (o:Option Tk):Bool:=!dM [40] o&&!dB o
def fP (h:Bool) (o:Option Tk):Bool:=h||!dM [123] o
def fQ (o:Option Tk):Bool:=!dM [46] o&&(!dM [91] o&&!dM [40] o)
def fU (h:Bool) (o:Option Tk):Bool:=fP h o&&fQ o
def opB (o:Option Tk):Bool:=levels.flatten.any fun s=>dM s o
def fE (h:Bool) (o:Option Tk):Bool:=fU h o&&!opB o
def fS (o:Option Tk):Bool:=!dM [101,108,115,101] o
def hS (L:List Str):Option Tk→Bool
 | none=>false
 | some t=>(decide (t.kind=1)||(decide (t.kind=2)||decide (t.kind=3)))||((decide (t.kind=4)||decide (t.kind=5))&&decide (t.text∈L))
theorem hS_no {L:List Str} {s:Str} {o:Option Tk} (h:hS L o=true) (hs:s∉L):dM s o=false:=by
 cases o with
 | none=>rfl
 | some t =>
  unfold hS at h;show((decide (t.kind=4)||decide (t.kind=5))&&decide (t.text=s))=false;simp only[bH,bu,bE]at h;rcases h with h | h
  ·rw[bU (show ¬t.kind=4 by omega),bU (show ¬t.kind=5 by omega)];rfl
  ·rw[bU (show ¬t.text=s from fun e=>hs (e▸h.2)),Bool.and_false]
theorem hS_up {L L':List Str} {o:Option Tk} (h:hS L o=true) (hL:∀ s∈L,s∈L'):hS L' o=true:=by
 cases o with
 | none=>cases h
 | some t =>
  unfold hS at h ⊢;simp only[bH,bu,bE]at h ⊢;rcases h with h | h
  ·exact .inl h
  ·exact .inr ⟨h.1,hL _ h.2⟩
def LT : List Str:=[[42],[91],[102,117,110,99]]
def LE : List Str:=[[40],[91],[116,114,117,101],[102,97,108,115,101],[110,105,108],[102,117,110,99]]
def LS : List Str:=[[40],[91],[116,114,117,101],[102,97,108,115,101],[110,105,108],[102,117,110,99],[123],[105,102],[102,111,114],[118,97,114],[114,101,116,117,114,110],[98,114,101,97,107],[99,111,110,116,105,110,117,101]]
theorem dB_hS {o:Option Tk} (h:dB o=true):hS LT o=true:=by
 cases o with
 | none=>cases h
 | some t =>
  unfold dB dKb dM at h;unfold hS;simp only[bH,bu,bE]at h ⊢;rcases h with h | ⟨h1,h2⟩ | ⟨h1,h2⟩ | ⟨h1,h2⟩
  ·exact .inl (.inl h)
  ·exact jB
  ·exact jB
  ·exact jB
section
variable {N:Nat}
theorem loop_end {ops:List Str} {X:Pp Tree} {a:Tree} {S:Option Tk→Bool} (hS:∀ s∈ops,∀ o,S o=true→dM s o=false) (hN:1≤N):Rd (loopB N ops X a) [] a S:=by
 obtain⟨j,rfl⟩:∃ j,N=j+1:=⟨N-1,by omega⟩
 exact Rd.oneOfF (fun o ho s hs=>hS s hs o ho) Rd.ret
theorem binL_one {U:Pp Tree} {l:List Tk} {a:Tree} {S S':Option Tk→Bool} (hU:Rd U l a S) (hN:1≤N) (hm:∀ o,S' o=true→S o=true):∀ ls:List (List Str),(∀ s∈ls.flatten,∀ o,S' o=true→dM s o=false)→Rd (binL N U ls) l a S'
 | [],_=>hU.mono hm
 | ops::rest,h=>by
  have ih:=binL_one hU hN hm rest (fun s hs=>h s (by rw[List.flatten_cons];exact List.mem_append_right _ hs));have h1:=Rd.bind ih (loop_end (X:=binL N U rest) (S:=S') (fun s hs=>h s (by rw[List.flatten_cons];exact List.mem_append_left _ hs)) hN) (fun o ho=>ho);rw[cg]at h1;exact h1
def Dj : List (List Str)→Prop
 | []=>True
 | ops::rest=>(∀ s∈ops,s∉rest.flatten)∧Dj rest
theorem binL_op {U:Pp Tree} {la lb:List Tk} {a b:Tree} {op:Str} {Sa Sb S':Option Tk→Bool} (hA:Rd U la a Sa) (hB:Rd U lb b Sb) (hN:2≤N) (ho:Sa (some (mk op))=true) (hm:∀ o,S' o=true→Sb o=true) :
  ∀ ls:List (List Str),Dj ls→op∈ls.flatten→(∀ s∈ls.flatten,∀ o,S' o=true→dM s o=false)→Rd (binL N U ls) (la++mk op::lb) (binT op a b) S'
 | [],_,h,_=>by cases h
 | ops::rest,hd',h,hs=>by
  have hsr:∀ s∈rest.flatten,∀ o,S' o=true→dM s o=false:=fun s hs'=>hs s (by rw[List.flatten_cons];exact List.mem_append_right _ hs');have hso:∀ s∈ops,∀ o,S' o=true→dM s o=false:=fun s hs'=>hs s (by rw[List.flatten_cons];exact List.mem_append_left _ hs');by_cases h1:op∈ops
  ·have hno:=hd'.1 op h1;have q1:Rd (binL N U rest) la a (fun o=>Sa o&&!(rest.flatten.any fun s=>dM s o)):=binL_one hA ou (fun o h=>by simp only[bu]at h;exact h.1) rest (fun s hs o h=>by
    simp only[bu,Bool.not_eq_true',List.any_eq_false]at h;simpa using h.2 s hs)
   obtain⟨j,rfl⟩:∃ j,N=j+1:=⟨N-1,by omega⟩
   have q2:Rd (loopB (j+1) ops (binL (j+1) U rest) a) (mk op::lb) (binT op a b) S':=by
    have q3:=Rd.bind (g:=fun m=>loopB j ops (binL (j+1) U rest) (binT op a m)) (binL_one hB (N:=j+1) ou hm rest hsr) (loop_end (N:=j) (X:=binL (j+1) U rest) (a:=binT op a b) (S:=S') hso ou) (fun o ho=>ho);rw[cg]at q3;exact Rd.oneOfT h1 q3
   refine Rd.bind q1 q2 fun o _=>?_;show(Sa (some (mk op))&&!(rest.flatten.any fun s=>dM s (some (mk op))))=true;rw[ho,bR,Bool.not_eq_true',List.any_eq_false];intro s hs2 h2;exact hno ((show op=s by simpa[dM]using h2)▸hs2)
  ·have h2:op∈rest.flatten:=by
    rw[List.flatten_cons]at h;exact(List.mem_append.1 h).resolve_left h1
   have ih:=binL_op hA hB hN ho hm rest hd'.2 h2 hsr;have h3:=Rd.bind ih (loop_end (N:=N) (X:=binL N U rest) (S:=S') hso ou) (fun o ho=>ho);rw[cg]at h3;exact h3
theorem dj_levels : Dj levels:=⟨by decide,by decide,by decide,by decide,by decide,trivial⟩
theorem opB_no {o:Option Tk} (h:opB o=false):∀ s∈levels.flatten,dM s o=false:=fun s hs=>by
 unfold opB at h;rw[List.any_eq_false]at h;simpa using h s hs
theorem results_rd {typ:Pp Tree} {rs:List Tree} (hl:rs.length≤N) (h:∀ r∈rs,Rd typ (toks r) r fT∧∀ o,dB (hd (toks r) o)=true):Rd (resultsP N typ) (resJ (rs.map toks)) rs fT:=by
 match rs,hl,h with
 | [],_,_ =>
  refine Rd.tokF (fun o ho=>?_) (Rd.peekF begins_eq (fun o ho=>?_) Rd.ret)
  ·unfold fT at ho;simp only[bu,Bool.not_eq_true']at ho;exact ho.1
  ·unfold fT at ho;simp only[bu,Bool.not_eq_true']at ho;exact ho.2
 | [r],_,h =>
  have h1:=h r ow;exact Rd.tokF (fun o ho=>hS_no (dB_hS (h1.2 _)) ov) (Rd.peekT begins_eq (fun o ho=>h1.2 _) (Rd.bret h1.1))
 | r::r2::rs,hl,h =>
  have hc:Rd (Ps.commas N typ) (commaJ ((r::r2::rs).map toks)) (r::r2::rs) (dM [41]):=Rd.commas (S':=fT) (fun o h=>by
    cases o with
    | none=>rfl
    | some t =>
     have h2:((decide (t.kind=4)||decide (t.kind=5))&&decide (t.text=[41]))=true:=h;show((decide (t.kind=4)||decide (t.kind=5))&&decide (t.text=[44]))=false;simp only[bu,bE]at h2;rw[h2.2];simp) (fun o h=>by
    cases o with
    | none=>cases h
    | some t =>
     have h2:((decide (t.kind=4)||decide (t.kind=5))&&decide (t.text=[41]))=true:=h;simp only[bu,bH,bE]at h2;show(!((decide (t.kind=4)||decide (t.kind=5))&&decide (t.text=[40]))&&!(decide (t.kind=1)||(((decide (t.kind=4)||decide (t.kind=5))&&decide (t.text=[42]))||(((decide (t.kind=4)||decide (t.kind=5))&&decide (t.text=[91]))||((decide (t.kind=4)||decide (t.kind=5))&&decide (t.text=[102,117,110,99]))))))=true;rw[h2.2,bU (show ¬t.kind=1 by omega)];simp) ov N _ ow hl (fun x hx=>(h x hx).1)
  exact Rd.tokT ov (Rd.bind hc (Rd.need ov Rd.ret) fun o _=>by rfl)
theorem sigLike_rd {kind:Int} {X typ:Pp Tree} {u:Int} {ks:List Tree} (hu:0≤u∧u≤(ks.length:Int)) (hl:ks.length≤N)
  (hX:∀ p∈ks.take u.toNat,Rd X (toks p) p fT∧∀ o,dM [41] (hd (toks p) o)=false) (h:∀ r∈ks.drop u.toNat,Rd typ (toks r) r fT∧∀ o,dB (hd (toks r) o)=true) :
  Rd (sigLike N kind X typ) (sigJ u (ks.map toks)) (.mk kind [] u ks) fT:=by
 unfold sigLike sigJ;refine Rd.need ov ?_;rw[←List.map_take,←List.map_drop];have q1:Rd (inP N [41] X) (commaJ ((ks.take u.toNat).map toks)++[mk [41]]) (ks.take u.toNat) yes:=Rd.inP (S':=fT) ov ov ov _ pd hX;have q2:Rd (resultsP N typ) (resJ ((ks.drop u.toNat).map toks)) (ks.drop u.toNat) fT:=results_rd pf h;have e:Tree.mk kind [] u ks = .mk kind [] ((ks.take u.toNat).length:Int) (ks.take u.toNat++ks.drop u.toNat):=by
  rw[cn,bW,show((min u.toNat ks.length:Nat):Int)=u by omega]
 rw[e];have q3:=Rd.bind (g:=fun ps=>Ps.bind (resultsP N typ) fun rs=>Ps.ret (Tree.mk kind [] (ps.length:Int) (ps++rs))) q1 (Rd.bret (g:=fun rs=>Tree.mk kind [] ((ks.take u.toNat).length:Int) (ks.take u.toNat++rs)) q2) (fun o _=>rfl);exact q3.cast ow
theorem len_size (a:Tree):a.kids.length<a.size:=by have:=len_sizeL a.kids;have:=size_kids a;omega
theorem kid_size {a t:Tree} (h:t∈a.kids):t.size<a.size:=by
 obtain⟨i,hi,rfl⟩:=List.getElem_of_mem h;have h1:=sizeL_next a.kids i hi;have h2:=sizeL_drop a.kids (i+1);have h3:=size_kids a;omega
theorem typ_all (a:Tree):a.isType=true→a.size≤N→(∀ n,a.deep≤n→Rd (gr N n).typ (toks a) a fT)∧∀ o,dB (hd (toks a) o)=true:=by
 induction a using Tree.ind with
 | h a ih =>
 intro ht hN;rw[isType_eq]at ht;have hlen:=len_size a;by_cases h:a.kind=10
 ·rw[if_pos h]at ht;simp only[bu,bE]at ht;obtain⟨k,nm',u,ks⟩:=a;obtain rfl:k=10:=h;obtain rfl:u=0:=ht.1;obtain rfl:ks=[]:=List.length_eq_zero_iff.1 ht.2.2;refine⟨fun n hn=>?_,fun o=>rfl⟩;obtain⟨n,rfl⟩:∃ m,n=m+1:=⟨n-1,by have:=deep_pos (.mk 10 nm' 0 []);omega⟩
  exact Rd.tokF (fun o _=>rfl) (Rd.tokF (fun o _=>rfl) (Rd.tokF (fun o _=>rfl) (Rd.name Rd.ret)))
 rw[if_neg h]at ht;by_cases h2:a.kind=11∨a.kind=12
 ·rw[if_pos h2]at ht;simp only[bu,bE]at ht;obtain⟨k,nm',u,ks⟩:=a;obtain rfl:nm' = []:=ht.1;obtain rfl:u=0:=ht.2.1;obtain⟨x,rfl⟩:=List.length_eq_one_iff.1 ht.2.2.1;have hx:x∈(Tree.mk k [] 0 [x]).kids:=oD;have hxt:x.isType=true:=List.all_eq_true.1 ht.2.2.2 x hx;have h3:=ih x hx hxt qm;have hdp:=dh hx;rcases h2 with h2 | h2
  ·obtain rfl:k=11:=h2;refine⟨fun n hn=>?_,fun o=>rfl⟩;obtain⟨n,rfl⟩:∃ m,n=m+1:=⟨n-1,by omega⟩
   exact Rd.tokT rfl (Rd.bret (h3.1 n ou))
  ·obtain rfl:k=12:=h2;refine⟨fun n hn=>?_,fun o=>rfl⟩;obtain⟨n,rfl⟩:∃ m,n=m+1:=⟨n-1,by omega⟩
   exact Rd.tokF (fun o _=>rfl) (Rd.tokT rfl (Rd.need rfl (Rd.bret (h3.1 n ou))))
 rw[if_neg h2]at ht;by_cases h3:a.kind=13
 ·rw[if_pos h3]at ht;simp only[bu,bE]at ht;obtain⟨k,nm',u,ks⟩:=a;obtain rfl:k=13:=h3;obtain rfl:nm' = []:=ht.1;have e:toks (.mk 13 [] u ks)=wd [102,117,110,99]::sigJ u (ks.map toks):=oK;refine⟨fun n hn=>?_,fun o=>by rw[e];rfl⟩;obtain⟨n,rfl⟩:∃ m,n=m+1:=⟨n-1,by have:=deep_pos (.mk 13 [] u ks);omega⟩
  have hk:∀ r∈ks,Rd (gr N n).typ (toks r) r fT∧∀ o,dB (hd (toks r) o)=true:=fun r hr=>by
   have hr':r∈(Tree.mk 13 [] u ks).kids:=hr;have:=ih r hr' (List.all_eq_true.1 ht.2.2.2 r hr) (by have:=kid_size hr';omega);exact⟨this.1 n (by have:=dh hr';omega),this.2⟩
  rw[e];exact Rd.tokF (fun o _=>rfl) (Rd.tokF (fun o _=>rfl) (Rd.tokT rfl (sigLike_rd ⟨ht.2.1,ht.2.2.1⟩ qn (fun p hp=>⟨(hk p (cu hp)).1,fun o=>hS_no (dB_hS ((hk p (cu hp)).2 o)) ov⟩) (fun r hr=>hk r (List.mem_of_mem_drop hr)))))
 rw[if_neg h3]at ht;cases ht
theorem typ_rd {a:Tree} (ht:a.isType=true) (hN:a.size≤N) {n:Nat} (hn:a.deep≤n):Rd (gr N n).typ (toks a) a fT:=(typ_all a ht hN).1 n hn
theorem typ_hd {a:Tree} (ht:a.isType=true) (o:Option Tk):dB (hd (toks a) o)=true:=(typ_all (N:=a.size) a ht (bI _)).2 o
theorem param_rd {a:Tree} (ht:a.isParam=true) (hN:a.size≤N) {n:Nat} (hn:a.deep≤n):Rd (paramP (gr N n).typ) (toks a) a fT∧∀ o,dM [41] (hd (toks a) o)=false:=by
 unfold Tree.isParam at ht;simp only[bu,bE]at ht;obtain⟨k,nm',u,ks⟩:=a;obtain rfl:k=8:=ht.1;obtain rfl:u=0:=ht.2.1;obtain⟨x,rfl⟩:=List.length_eq_one_iff.1 ht.2.2.2.1;have hx:x∈(Tree.mk 8 nm' 0 [x]).kids:=oD;exact⟨Rd.name (Rd.bret (typ_rd (List.all_eq_true.1 ht.2.2.2.2 x hx) qm (by have:=dh hx;omega))),fun o=>rfl⟩
theorem sig_rd {a:Tree} (ht:a.isSig=true) (hN:a.size≤N) {n:Nat} (hn:a.deep≤n):Rd (sigP N (gr N n).typ) (toks a) a fT:=by
 unfold Tree.isSig at ht;simp only[bu,bE]at ht;have hlen:=len_size a;obtain⟨k,nm',u,ks⟩:=a;obtain rfl:k=7:=ht.1;obtain rfl:nm' = []:=ht.2.1;have e:toks (.mk 7 [] u ks)=sigJ u (ks.map toks):=oK;rw[e];refine sigLike_rd ⟨ht.2.2.1,ht.2.2.2.1⟩ qn (fun p hp=>?_) (fun r hr=>?_)
 ·have hp':p∈(Tree.mk 7 [] u ks).kids:=cu hp;exact param_rd (List.all_eq_true.1 ht.2.2.2.2.1 p hp) (by have:=kid_size hp';omega) (by have:=dh hp';omega)
 ·have hr':r∈(Tree.mk 7 [] u ks).kids:=List.mem_of_mem_drop hr;have h3:r.isType=true:=List.all_eq_true.1 ht.2.2.2.2.2 r hr;exact⟨typ_rd h3 (by have:=kid_size hr';omega) (by have:=dh hr';omega),typ_hd h3⟩
end
end Go.Pt
namespace Go.Pt
open Go.Sep Go.Ps
structure PR (N n:Nat) (h:Bool) (a:Tree):Prop where
 ex:∃(lp ls:List Tk) (b:Tree) (m:Nat),toks a=lp++ls∧m<a.size∧Rd (primP N (gr N n).typ (gr N n).block ((gr N n).expr false) h) lp b (fP h)∧(∀ o,hS LE (hd lp o)=true) ∧
  (∀(j:Nat) (f:F) (k:Nat),seg f k ls→postP N ((gr N n).expr false) (j+m) b f k=postP N ((gr N n).expr false) j a f (k+ls.length))∧∀ o,fP h o=true→fP h (hd ls o)=true
section
variable {N:Nat}
theorem PR.base {n:Nat} {h:Bool} {a:Tree} (hp:Rd (primP N (gr N n).typ (gr N n).block ((gr N n).expr false) h) (toks a) a (fP h)) (hh:∀ o,hS LE (hd (toks a) o)=true):PR N n h a :=
 ⟨toks a,[],a,0,(cg _).symm,size_pos a,hp,hh,fun _ _ _ _=>rfl,fun _ ho=>ho⟩
theorem PR.suffix {n:Nat} {h:Bool} {x a:Tree} {suf:List Tk} (hx:PR N n h x) (ht:toks a=toks x++suf) (hs:x.size<a.size)
  (hstep:∀(j:Nat) (f:F) (k:Nat),seg f k suf→postP N ((gr N n).expr false) (j+1) x f k=postP N ((gr N n).expr false) j a f (k+suf.length)) (hd2:∀ o,dM [123] (hd suf o)=false):PR N n h a:=by
 obtain⟨lp,ls,b,m,h1,h2,h3,h4,h5,h6⟩:=hx.ex;refine⟨lp,ls++suf,b,m+1,by rw[ht,h1,bz],by omega,h3,h4,fun j f k hseg=>?_,fun o _=>?_⟩
 ·obtain⟨s1,s2⟩:=seg_append.1 hseg;rw[show j+(m+1)=(j+1)+m by omega,h5 (j+1) f k s1,hstep j f _ s2,ba,cz]
 ·rw[hd_app2];cases h with
  | true=>rfl
  | false=>exact h6 _ (by show(false||!dM [123] (hd suf o))=true;rw[hd2];rfl)
theorem PR.hd {n:Nat} {h:Bool} {a:Tree} (hp:PR N n h a) (o:Option Tk):hS LE (hd (toks a) o)=true:=by
 obtain⟨lp,ls,b,m,h1,h2,h3,h4,h5,h6⟩:=hp.ex;rw[h1,hd_app2];exact h4 _
def uops : List Str:=[[45],[33],[38],[42]]
theorem hE_uops {o:Option Tk} (h:hS LE o=true):∀ s∈uops,dM s o=false:=fun s hs=>hS_no h (by
 have:∀ s∈uops,s∉LE:=ov;exact this s hs)
theorem PR.unary {n:Nat} {h:Bool} {a:Tree} (hp:PR N n h a) (hN:a.size≤N):Rd (unaryP N (gr N n) h) (toks a) a (fU h):=by
 obtain⟨lp,ls,b,m,h1,h2,h3,h4,h5,h6⟩:=hp.ex;refine Rd.oneOfF (fun o ho s hs=>hE_uops (hp.hd o) s hs) fun f k hseg hf=>?_;have hU:=hf;unfold fU at hU;simp only[bu]at hU;rw[h1]at hseg hU ⊢;obtain⟨s1,s2⟩:=seg_append.1 hseg;rw[ba,←cz]at hU ⊢;have q1:=h3 f k s1 (by rw[hd_at s2];exact h6 _ hU.1);rw[bind_ok q1];obtain⟨j,hj⟩:∃ j,N=(j+1)+m:=⟨N-m-1,by omega⟩
 have q2:=h5 (j+1) f (k+lp.length) s2;rw[←hj]at q2;rw[q2];have hQ:=hU.2;exact gT
structure RT (N:Nat) (a:Tree):Prop where
 block:lim.block a=true→∀ n,4*a.deep≤n→Rd (gr N n).block (toks a) a yes
 stmt:lim.stmt a=true→∀ n,4*a.deep+1≤n→Rd (gr N n).stmt (toks a) a fS
 branch:lim.stmt a=true→a.kind=25→∀ n,4*a.deep≤n→Rd (gr N n).branch (toks a) a fS
 post:lim.expr a=true→∀ h n,4*a.deep≤n+1→PR N n h a
 hdS:lim.stmt a=true→∀ o,hS LS (hd (toks a) o)=true
theorem RT.unary {a:Tree} (r:RT N a) (he:lim.expr a=true) (hN:a.size≤N) {h:Bool} {n:Nat} (hn:4*a.deep≤n):Rd ((gr N n).unary h) (toks a) a (fU h):=by
 have:=deep_pos a;obtain⟨n,rfl⟩:∃ m,n=m+1:=⟨n-1,by omega⟩
 exact(r.post he h n hn).unary hN
theorem fE_op {h:Bool} {o:Option Tk} (ho:fE h o=true):∀ s∈levels.flatten,dM s o=false:=by
 unfold fE at ho;simp only[bu,Bool.not_eq_true']at ho;exact opB_no ho.2
theorem fE_U {h:Bool} {o:Option Tk} (ho:fE h o=true):fU h o=true:=by
 unfold fE at ho;simp only[bu]at ho;exact ho.1
theorem expr_of {U:Pp Tree} {l:List Tk} {a:Tree} {h:Bool} (hU:Rd U l a (fU h)) (hN:1≤N):Rd (binL N U levels) l a (fE h):=binL_one hU hN (fun o ho=>fE_U ho) levels fun s hs o ho=>fE_op ho s hs
theorem RT.expr {a:Tree} (r:RT N a) (he:lim.expr a=true) (hN:a.size≤N) {h:Bool} {n:Nat} (hn:4*a.deep+1≤n):Rd ((gr N n).expr h) (toks a) a (fE h):=by
 obtain⟨n,rfl⟩:∃ m,n=m+1:=⟨n-1,by omega⟩
 exact expr_of (r.unary he hN ou) (by have:=size_pos a;omega)
theorem RT.hdE {a:Tree} (r:RT N a) (he:lim.expr a=true) (o:Option Tk):hS LE (hd (toks a) o)=true:=(r.post he false (4*a.deep) ou).hd o
theorem exprs_in {n:Nat} {s:Str} {l:List Tree} (hs:dM [44] (some (mk s))=false) (hS:fE false (some (mk s))=true) (hl:l.length≤N) (hsE:s∉LE) (h:∀ x∈l,RT N x∧lim.expr x=true∧x.size≤N∧4*x.deep+1≤n) :
  Rd (inP N s ((gr N n).expr false)) (commaJ (l.map toks)++[mk s]) l yes :=
 Rd.inP (S':=fE false) hs hS ov l hl fun x hx=>by
  obtain⟨h1,h2,h3,h4⟩:=h x hx;exact⟨h1.expr h2 h3 h4,fun o=>hS_no (h1.hdE h2 o) hsE⟩
theorem exprs_row {n:Nat} {l:List Tree} (hne:l≠[]) (hl:l.length≤N) (h:∀ x∈l,RT N x∧lim.expr x=true∧x.size≤N∧4*x.deep+1≤n) :
  Rd (commas N ((gr N n).expr false)) (commaJ (l.map toks)) l (fun o=>!dM [44] o&&fE false o) :=
 Rd.commas (S':=fE false) (fun o h=>by simp only[bu,Bool.not_eq_true']at h;exact h.1) (fun o h=>by simp only[bu]at h;exact h.2) ov N l hne hl fun x hx=>by
  obtain⟨h1,h2,h3,h4⟩:=h x hx;exact h1.expr h2 h3 h4
section
variable {k0:Int} {n0:Str} {u0:Int} {ks:List Tree} (ih:∀ k∈ks,k.size≤N→RT N k) (hN:(Tree.mk k0 n0 u0 ks).size≤N)
include ih hN
theorem kid_ok {x:Tree} (hx:x∈ks):RT N x∧x.size≤N∧x.deep<(Tree.mk k0 n0 u0 ks).deep:=by
 have h1:x∈(Tree.mk k0 n0 u0 ks).kids:=hx;have h2:=kid_size h1;exact⟨ih x hx ou,by omega,dh h1⟩
end
theorem prim_un {n:Nat} {h:Bool} {l:List Tk} {a:Tree} (hp:Rd (primP N (gr N n).typ (gr N n).block ((gr N n).expr false) h) l a (fP h)) (hh:∀ o,hS LE (hd l o)=true) (hN:1≤N):Rd (unaryP N (gr N n) h) l a (fU h):=by
 refine Rd.oneOfF (fun o ho s hs=>hE_uops (hh o) s hs) fun f k hseg hf=>?_;unfold fU at hf;simp only[bu]at hf;rw[bind_ok (hp f k hseg hf.1)];obtain⟨j,rfl⟩:∃ j,N=j+1:=⟨N-1,by omega⟩
 have hQ:=hf.2;exact gT
theorem paren_rd {n:Nat} {h:Bool} {l:List Tk} {a:Tree} (hp:Rd ((gr N n).expr false) l a (dM [41])):Rd (primP N (gr N n).typ (gr N n).block ((gr N n).expr false) h) (mk [40]::(l++[mk [41]])) a (fP h) :=
 Rd.tknF (fun o _=>rfl) (Rd.tknF (fun o _=>rfl) (Rd.tokF (fun o _=>rfl) (Rd.tokF (fun o _=>rfl) (Rd.tokF (fun o _=>rfl) (Rd.tokT rfl (Rd.bind hp (Rd.need rfl Rd.ret) fun o _=>rfl))))))
theorem close_no {o:Option Tk} (h:dM [41] o=true) {s:Str} (hs:s≠[41]):dM s o=false:=by
 cases o with
 | none=>rfl
 | some t =>
  have h2:((decide (t.kind=4)||decide (t.kind=5))&&decide (t.text=[41]))=true:=h;show((decide (t.kind=4)||decide (t.kind=5))&&decide (t.text=s))=false;simp only[bu,bE]at h2;rw[h2.2,bU (show ¬([41]:Str)=s from fun e=>hs e.symm),Bool.and_false]
theorem close_U {o:Option Tk} (h:dM [41] o=true):fU false o=true:=by
 unfold fU fP fQ;rw[close_no h ov,close_no h ov,close_no h ov,close_no h ov];rfl
theorem close_E {o:Option Tk} (h:dM [41] o=true):fE false o=true:=by
 unfold fE;rw[close_U h,bR,Bool.not_eq_true'];unfold opB;rw[List.any_eq_false];intro s hs;rw[close_no h (by
  have:∀ s∈levels.flatten,s≠[41]:=ov;exact this s hs)]
 decide
end
end Go.Pt
namespace Go.Pt
open Go.Sep Go.Ps
section
variable {N:Nat} {n0:Str} {u0:Int} {ks:List Tree}
theorem bare_f {a:Tree} {k t u:Bool} (h:bareB a k t u=true):k=true∧(t=false→a.name=[])∧(u=false→a.num=0):=by
 unfold bareB at h;simp only[bu,bH,bE]at h;refine⟨h.1,fun e=>?_,fun e=>?_⟩
 ·rcases h.2.1 with h1 | h1
  ·rw[e]at h1;cases h1
  ·exact h1
 ·rcases h.2.2 with h1 | h1
  ·rw[e]at h1;cases h1
  ·exact h1
theorem of_f {a:Tree} {k:Int} (h:ofB a k=true):a.kind=k∧a.num=0∧isName a.name=true:=by
 unfold ofB at h;simpa using h
theorem kids0 {l:List Tree} (h:kidsR [] none l=true):l=[]:=by
 rw[kidsR0]at h;exact List.length_eq_zero_iff.1 (of_decide_eq_true h)
theorem kids1 {p:Tree→Bool} {l:List Tree} (h:kidsR [p] none l=true):∃ x,l=[x]∧p x=true:=by
 match l,h with
 | [],h=>cases h
 | [x],h=>exact⟨x,rfl,by simpa[kidsR]using h⟩
 | x::y::l,h=>simp[kidsR]at h
theorem kids2 {p q:Tree→Bool} {l:List Tree} (h:kidsR [p,q] none l=true):∃ x y,l=[x,y]∧p x=true∧q y=true:=by
 match l,h with
 | [],h=>cases h
 | [x],h=>simp[kidsR]at h
 | [x,y],h=>exact⟨x,y,rfl,by simpa[kidsR]using h⟩
 | x::y::z::l,h=>simp[kidsR]at h
theorem kids3 {p q r:Tree→Bool} {l:List Tree} (h:kidsR [p,q,r] none l=true):∃ x y z,l=[x,y,z]∧p x=true∧q y=true∧r z=true:=by
 match l,h with
 | [],h=>cases h
 | [x],h=>simp[kidsR]at h
 | [x,y],h=>simp[kidsR]at h
 | [x,y,z],h=>exact⟨x,y,z,rfl,by simpa[kidsR]using h⟩
 | x::y::z::w::l,h=>simp[kidsR]at h
theorem len2 {l:List Tree} (h:l.length=2):∃ x y,l=[x,y]:=by
 match l,h with
 | [x,y],_=>exact⟨x,y,rfl⟩
theorem len3 {l:List Tree} (h:l.length=3):∃ x y z,l=[x,y,z]:=by
 match l,h with
 | [x,y,z],_=>exact⟨x,y,z,rfl⟩
theorem kidsS {p q:Tree→Bool} {l:List Tree} (h:kidsR [p] (some q) l=true):∃ x r,l=x::r∧p x=true∧∀ y∈r,q y=true:=by
 match l,h with
 | [],h=>cases h
 | x::r,h =>
  simp only[kidsR,bu]at h;exact⟨x,r,rfl,h.1,fun y hy=>List.all_eq_true.1 h.2 y hy⟩
theorem post_expr (k0:Int) (ih:∀ k∈ks,k.size≤N→RT N k) (hN:(Tree.mk k0 n0 u0 ks).size≤N) (he:exprS lim (.mk k0 n0 u0 ks)=true) (h:Bool) (n:Nat) (hn:4*(Tree.mk k0 n0 u0 ks).deep≤n+1):PR N n h (.mk k0 n0 u0 ks):=by
 have hlen:=len_size (Tree.mk k0 n0 u0 ks);have hdp:=deep_pos (Tree.mk k0 n0 u0 ks);simp only[Tree.kids]at hlen;have K:∀ x∈ks,RT N x∧x.size≤N∧x.deep<(Tree.mk k0 n0 u0 ks).deep:=fun x hx=>kid_ok ih hN hx;by_cases e:k0=40
 ·subst e;have hf:(bareB (.mk 40 n0 u0 ks) (decide (0≤u0)) false true&&kidsR [] none ks)=true:=he;rw[bu]at hf;obtain rfl:n0=[]:=(bare_f hf.1).2.1 rfl;obtain rfl:=kids0 hf.2;exact PR.base (Rd.tknT rfl Rd.ret) (fun o=>rfl)
 by_cases e:k0=41
 ·subst e;have hf:(bareB (.mk 41 n0 u0 ks) (decide ((n0.length:Int)≤1024)) true false&&kidsR [] none ks)=true:=he;rw[bu]at hf;obtain rfl:u0=0:=(bare_f hf.1).2.2 rfl;obtain rfl:=kids0 hf.2;exact PR.base (Rd.tknF (fun o _=>rfl) (Rd.tknT rfl Rd.ret)) (fun o=>rfl)
 by_cases e:k0=42
 ·subst e;have hf:(bareB (.mk 42 n0 u0 ks) (decide (u0 / 2=0)) false true&&kidsR [] none ks)=true:=he;rw[bu]at hf;obtain rfl:n0=[]:=(bare_f hf.1).2.1 rfl;obtain rfl:=kids0 hf.2;have hu:=of_decide_eq_true (bare_f hf.1).1;have hu2:u0=0∨u0=1:=ou;rcases hu2 with rfl | rfl
  ·exact PR.base (Rd.tknF (fun o _=>rfl) (Rd.tknF (fun o _=>rfl) (Rd.tokF (fun o _=>rfl) (Rd.tokT rfl Rd.ret)))) (fun o=>rfl)
  ·exact PR.base (Rd.tknF (fun o _=>rfl) (Rd.tknF (fun o _=>rfl) (Rd.tokT rfl Rd.ret))) (fun o=>rfl)
 by_cases e:k0=43
 ·subst e;have hf:(bareB (.mk 43 n0 u0 ks) true false false&&kidsR [] none ks)=true:=he;rw[bu]at hf;obtain rfl:n0=[]:=(bare_f hf.1).2.1 rfl;obtain rfl:u0=0:=(bare_f hf.1).2.2 rfl;obtain rfl:=kids0 hf.2;exact PR.base (Rd.tknF (fun o _=>rfl) (Rd.tknF (fun o _=>rfl) (Rd.tokF (fun o _=>rfl) (Rd.tokF (fun o _=>rfl) (Rd.tokT rfl Rd.ret))))) (fun o=>rfl)
 by_cases e:k0=44
 ·subst e;have hf:(ofB (.mk 44 n0 u0 ks) 44&&kidsR [] none ks)=true:=he;rw[bu]at hf;obtain rfl:u0=0:=(of_f hf.1).2.1;obtain rfl:=kids0 hf.2;refine PR.base (Rd.tknF (fun o _=>rfl) (Rd.tknF (fun o _=>rfl) (Rd.tokF (fun o _=>rfl) (Rd.tokF (fun o _=>rfl) (Rd.tokF (fun o _=>rfl) (Rd.tokF (fun o _=>rfl) (Rd.tokF (fun o _=>rfl) (Rd.tokF (fun o _=>rfl) (Rd.name ?_))))))))) (fun o=>rfl);cases h with
  | true=>exact Rd.ret
  | false=>exact Rd.tokF (fun o ho=>(by unfold fP at ho;simpa using ho:dM [123] o=false)) Rd.ret
 by_cases e:k0=45
 ·subst e;have hf:(ofB (.mk 45 n0 u0 ks) 45&&ks.all lim.expr)=true:=he;rw[bu]at hf;obtain rfl:u0=0:=(of_f hf.1).2.1;have et:toks (.mk 45 n0 0 ks)=mk [40]::((nm n0::mk [123]::(commaJ (ks.map toks)++[mk [125]]))++[mk [41]]):=by rw[toks_eq];show mk _::nm n0::mk _::(_++[mk _,mk _])=_;simp[Tree.kids]
  obtain⟨n2,rfl⟩:∃ m,n=m+2:=⟨n-2,by omega⟩
  refine PR.base ?_ (fun o=>by rw[et];rfl);rw[et];refine paren_rd ?_;have q1:Rd (primP N (gr N n2).typ (gr N n2).block ((gr N n2).expr false) false) (nm n0::mk [123]::(commaJ (ks.map toks)++[mk [125]])) (.mk 45 n0 0 ks) (fP false):=by
   refine Rd.tknF (fun o _=>rfl) (Rd.tknF (fun o _=>rfl) (Rd.tokF (fun o _=>rfl) (Rd.tokF (fun o _=>rfl) (Rd.tokF (fun o _=>rfl) (Rd.tokF (fun o _=>rfl) (Rd.tokF (fun o _=>rfl) (Rd.tokF (fun o _=>rfl) (Rd.name ?_))))))));exact Rd.tokT rfl (Rd.bret (g:=fun l=>Tree.mk 45 n0 0 l) ((exprs_in ov ov ou ov fun x hx=>⟨(K x hx).1,List.all_eq_true.1 hf.2 x hx,(K x hx).2.1,by have:=(K x hx).2.2;omega⟩).mono fun o _=>rfl))
  exact binL_one (prim_un q1 (fun o=>rfl) ou) ou (fun o ho=>close_U ho) levels fun s hs o ho=>opB_no qo s hs
 by_cases e:k0=46
 ·subst e;have hf:(bareB (.mk 46 n0 u0 ks) true false false&&kidsR [Tree.isType] (some lim.expr) ks)=true:=he;rw[bu]at hf;obtain rfl:n0=[]:=(bare_f hf.1).2.1 rfl;obtain rfl:u0=0:=(bare_f hf.1).2.2 rfl;obtain⟨x,r,rfl,hx,hr⟩:=kidsS hf.2;have hx1:=K x ow;have et:toks (.mk 46 [] 0 (x::r))=mk [91]::mk [93]::(toks x++mk [123]::(commaJ (r.map toks)++[mk [125]])):=oK;refine PR.base ?_ (fun o=>by rw[et];rfl);rw[et];refine Rd.tknF (fun o _=>rfl) (Rd.tknF (fun o _=>rfl) (Rd.tokF (fun o _=>rfl) (Rd.tokF (fun o _=>rfl) (Rd.tokF (fun o _=>rfl) (Rd.tokF (fun o _=>rfl) (Rd.tokT rfl (Rd.need rfl ?_)))))));refine Rd.bind (typ_rd hx hx1.2.1 ou) (Rd.need rfl (Rd.bret (g:=fun l=>Tree.mk 46 [] 0 (x::l)) ((exprs_in (n:=n) (l:=r) ov ov qp ov fun y hy=>?_).mono fun o _=>rfl))) (fun o _=>rfl);have:=K y pm;exact⟨this.1,hr y hy,this.2.1,by omega⟩
 by_cases e:k0=47
 ·subst e;have hf:(bareB (.mk 47 n0 u0 ks) true false false&&kidsR [Tree.isSig,lim.block] none ks)=true:=he;rw[bu]at hf;obtain rfl:n0=[]:=(bare_f hf.1).2.1 rfl;obtain rfl:u0=0:=(bare_f hf.1).2.2 rfl;obtain⟨x,y,rfl,hx,hy⟩:=kids2 hf.2;have hx1:=K x ow;have hy1:=K y ow;have et:toks (.mk 47 [] 0 [x,y])=wd [102,117,110,99]::(toks x++toks y):=oK;refine PR.base ?_ (fun o=>by rw[et];rfl);rw[et];refine Rd.tknF (fun o _=>rfl) (Rd.tknF (fun o _=>rfl) (Rd.tokF (fun o _=>rfl) (Rd.tokF (fun o _=>rfl) (Rd.tokF (fun o _=>rfl) (Rd.tokF (fun o _=>rfl) (Rd.tokF (fun o _=>rfl) (Rd.tokT rfl ?_)))))));refine Rd.bind (sig_rd hx hx1.2.1 ou) (Rd.bret ((hy1.1.block hy n ou).mono fun o _=>rfl)) (fun o _=>?_);have hb:blockS lim y=true:=(di y).2.2.symm.trans hy;unfold blockS at hb;rw[bu]at hb;have hk:=of_decide_eq_true (bare_f hb.1).1;obtain⟨k2,n2,u2,ks2⟩:=y;obtain rfl:k2=20:=hk;rw[toks_eq];rfl
 have heE:∀ x∈ks,lim.expr x=true→RT N x∧lim.expr x=true∧x.size≤N∧4*x.deep+1≤n:=fun x hx h1=>⟨(K x hx).1,h1,(K x hx).2.1,by have:=(K x hx).2.2;omega⟩
 have hE1:∀ x∈ks,lim.expr x=true→Rd ((gr N n).expr false) (toks x) x (fE false):=fun x hx h1=>(K x hx).1.expr h1 (K x hx).2.1 pH;have hP1:∀ x∈ks,lim.expr x=true→PR N n h x:=fun x hx h1=>(K x hx).1.post h1 h n pH;by_cases e:k0=48
 ·subst e;have hf:(ofB (.mk 48 n0 u0 ks) 48&&kidsR [lim.expr] none ks)=true:=he;rw[bu]at hf;obtain rfl:u0=0:=(of_f hf.1).2.1;obtain⟨x,rfl,hx⟩:=kids1 hf.2;refine(hP1 x ow hx).suffix (suf:=[mk [46],nm n0]) oK (kid_size oD) (fun j f k hseg=>?_) (fun o=>rfl);rw[postP];unfold Ps.tok;rw[isM_eq,hseg.1];simp only[show dM [46] (some (mk [46]))=true from rfl,cy];unfold Ps.name Ps.tkn;rw[hseg.2.1];rfl
 by_cases e:k0=49
 ·subst e;have hf:(bareB (.mk 49 n0 u0 ks) true false false&&kidsR [lim.expr,lim.expr] none ks)=true:=he;rw[bu]at hf;obtain rfl:n0=[]:=(bare_f hf.1).2.1 rfl;obtain rfl:u0=0:=(bare_f hf.1).2.2 rfl;obtain⟨x,y,rfl,hx,hy⟩:=kids2 hf.2;have q:Rd (indexP ((gr N n).expr false) x) (toks y++[mk [93]]) (.mk 49 [] 0 [x,y]) yes:=by
   refine Rd.peekMF (fun o _=>?_) (Rd.bind (hE1 y ow hy) (Rd.tokT rfl Rd.ret) fun o _=>by rfl);exact gg
  refine(hP1 x ow hx).suffix (suf:=mk [91]::(toks y++[mk [93]])) oK (kid_size oD) (fun j f k hseg=>?_) (fun o=>rfl);rw[postP];unfold Ps.tok;rw[isM_eq,isM_eq,hseg.1];exact g9
 by_cases e:k0=50
 ·subst e;have hf:(bareB (.mk 50 n0 u0 ks) (lvl (.mk 50 n0 u0 ks)) false true&&ks.all lim.expr)=true:=he;rw[bu]at hf;obtain rfl:n0=[]:=(bare_f hf.1).2.1 rfl;have hl:(decide (0≤u0)&&(decide (u0≤3)&&decide ((ks.length:Int)=1+u0 % 2+u0 / 2)))=true:=(bare_f hf.1).1;simp only[bu,bE]at hl;have fin:∀(x:Tree) (suf:List Tk) (hx:x∈ks) (et:toks (.mk 50 [] u0 ks)=toks x++mk [91]::suf) (q:Rd (indexP ((gr N n).expr false) x) suf (.mk 50 [] u0 ks) yes),PR N n h (.mk 50 [] u0 ks):=fun x suf hx et q=>by
   refine(hP1 x hx (List.all_eq_true.1 hf.2 x hx)).suffix (suf:=mk [91]::suf) et (kid_size pn) (fun j f k hseg=>?_) (fun o=>rfl);rw[postP];unfold Ps.tok;rw[isM_eq,isM_eq,hseg.1];show Ps.bind _ _ f (k+1)=_;rw[bind_ok (q f (k+1) hseg.2 rfl)];simp only[be,Nat.add_comm,Nat.add_left_comm]
  have hu:u0=0∨u0=1∨u0=2∨u0=3:=ou;rcases hu with rfl | rfl | rfl | rfl
  ·obtain⟨x,rfl⟩:=List.length_eq_one_iff.1 (show ks.length=1 by omega);exact fin x [mk [58],mk [93]] ow oK (Rd.peekMT (fun o _=>rfl) (Rd.need rfl (Rd.tokT rfl Rd.ret)))
  ·obtain⟨x,y,rfl⟩:=len2 (show ks.length=2 by omega);have hy:lim.expr y=true:=List.all_eq_true.1 hf.2 y ow;refine fin x (toks y++mk [58]::[mk [93]]) ow oK (Rd.peekMF (fun o _=>?_) (Rd.bind (hE1 y ow hy) (Rd.tokF (fun o _=>rfl) (Rd.need rfl (Rd.tokT rfl Rd.ret))) fun o _=>by rfl));exact gg
  ·obtain⟨x,y,rfl⟩:=len2 (show ks.length=2 by omega);have hy:lim.expr y=true:=List.all_eq_true.1 hf.2 y ow;refine fin x (mk [58]::(toks y++[mk [93]])) ow oK (Rd.peekMT (fun o _=>rfl) (Rd.need rfl (Rd.tokF (fun o _=>?_) (Rd.bind (hE1 y ow hy) (Rd.need rfl Rd.ret) fun o _=>by rfl))));exact gg
  ·obtain⟨x,y,z,rfl⟩:=len3 (show ks.length=3 by omega);have hy:lim.expr y=true:=List.all_eq_true.1 hf.2 y ow;have hz:lim.expr z=true:=List.all_eq_true.1 hf.2 z ow;refine fin x (toks y++mk [58]::(toks z++[mk [93]])) ow oK (Rd.peekMF (fun o _=>?_) (Rd.bind (hE1 y ow hy) (Rd.tokF (fun o _=>rfl) (Rd.need rfl (Rd.tokF (fun o _=>?_) (Rd.bind (hE1 z ow hz) (Rd.need rfl Rd.ret) fun o _=>by rfl)))) fun o _=>by rfl))
   ·exact gg
   ·rw[hd_app2];exact hS_no ((K z ow).1.hdE hz _) ov
 by_cases e:k0=51
 ·subst e;have hf:(bareB (.mk 51 n0 u0 ks) true false false&&kidsR [lim.expr] (some lim.expr) ks)=true:=he;rw[bu]at hf;obtain rfl:n0=[]:=(bare_f hf.1).2.1 rfl;obtain rfl:u0=0:=(bare_f hf.1).2.2 rfl;obtain⟨x,r,rfl,hx,hr⟩:=kidsS hf.2;have q:Rd (exprsP N [41] ((gr N n).expr false)) (commaJ (r.map toks)++[mk [41]]) r yes:=exprs_in (n:=n) (s:=[41]) (l:=r) ov ov qp ov fun y hy=>heE y pm (hr y hy);refine(hP1 x ow hx).suffix (suf:=mk [40]::(commaJ (r.map toks)++[mk [41]])) oK (kid_size oD) (fun j f k hseg=>?_) (fun o=>rfl);rw[postP];unfold Ps.tok;rw[isM_eq,isM_eq,isM_eq,hseg.1];exact g9
 by_cases e:k0=52
 ·subst e;have hf:(bareB (.mk 52 n0 u0 ks) (decide (n0∈ops4)) true false&&kidsR [lim.expr] none ks)=true:=he;rw[bu]at hf;obtain rfl:u0=0:=(bare_f hf.1).2.2 rfl;have ho:=of_decide_eq_true (bare_f hf.1).1;obtain⟨x,rfl,hx⟩:=kids1 hf.2;have hx1:=K x ow;have et:toks (.mk 52 n0 0 [x])=mk [40]::((mk n0::toks x)++[mk [41]]):=oK;obtain⟨n3,rfl⟩:∃ m,n=m+3:=⟨n-3,by omega⟩
  refine PR.base ?_ (fun o=>by rw[et];rfl);rw[et];refine paren_rd ?_;have q1:Rd (unaryP N (gr N (n3+1)) false) (mk n0::toks x) (.mk 52 n0 0 [x]) (fU false):=Rd.oneOfT (ops:=[[45],[33],[38],[42]]) ho (Rd.bret (g:=fun t=>Tree.mk 52 n0 0 [t]) (hx1.1.unary hx hx1.2.1 ou));exact binL_one q1 ou (fun o ho=>close_U ho) levels fun s hs o ho=>opB_no qo s hs
 by_cases e:k0=53
 ·subst e;have hf:(bareB (.mk 53 n0 u0 ks) (decide (n0∈Ps.levels.flatten)) true false&&kidsR [lim.expr,lim.expr] none ks)=true:=he;rw[bu]at hf;obtain rfl:u0=0:=(bare_f hf.1).2.2 rfl;have ho:=of_decide_eq_true (bare_f hf.1).1;obtain⟨x,y,rfl,hx,hy⟩:=kids2 hf.2;have hx1:=K x ow;have hy1:=K y ow;have et:toks (.mk 53 n0 0 [x,y])=mk [40]::((toks x++mk n0::toks y)++[mk [41]]):=by rw[toks_eq];show mk [40]::(toks x++mk n0::(toks y++[mk [41]]))=_;rw[bz];rfl
  obtain⟨n2,rfl⟩:∃ m,n=m+2:=⟨n-2,by omega⟩
  refine PR.base ?_ (fun o=>by rw[et];rfl);rw[et];refine paren_rd ?_;have hU:fU false (some (mk n0))=true:=by
   have:∀ s∈Ps.levels.flatten,fU false (some (mk s))=true:=ov;exact this n0 ho
  exact binL_op (hx1.1.unary hx hx1.2.1 ou) (hy1.1.unary hy hy1.2.1 ou) qp hU (fun o ho=>close_U ho) levels dj_levels ho fun s hs o ho=>opB_no qo s hs
 exact jy
end
end Go.Pt
namespace Go.Pt
open Go.Sep Go.Ps
theorem headS_y {a:Tree} {k:Int} (h:a.kind=k) (h1:k=21):headS a=decide (a.num=0):=by
 unfold headS;rw[h,h1];rfl
theorem headS_a {a:Tree} {k:Int} (h:a.kind=k) (h1:k=22∨k=23):headS a=decide (a.name=[]):=by
 unfold headS;rw[h];rcases h1 with rfl | rfl<;>simp
theorem headS_n {a:Tree} {k:Int} (h:a.kind=k) (h1:k≠21∧k≠22∧k≠23):headS a=(decide (a.name=[])&&decide (a.num=0)):=by
 unfold headS;rw[h,bU h1.1,bU h1.2.1,bU h1.2.2];rfl
theorem stmtS_head (g:Sg) (a:Tree):stmtS g a=(headS a&&(if a.kind=20 then blockS g a
 else if a.kind=21 then isName a.name&&(kidsR [Tree.isType] none a.kids||kidsR [Tree.isType,g.expr] none a.kids)
 else if a.kind=22 then asgS g (nmS g) a
 else if a.kind=23 then asgS g (plS g) a
 else if a.kind=24 then kidsR [callS g] none a.kids
 else if a.kind=25 then kidsR [g.expr,g.block] none a.kids||kidsR [g.expr,g.block,otherS g] none a.kids
 else if a.kind=26 then kidsR [g.block] none a.kids||kidsR [g.expr,g.block] none a.kids
 else if a.kind=27 then a.kids.all g.expr
 else if a.kind=28∨a.kind=29 then kidsR [] none a.kids
 else false)):=by
 unfold stmtS;cases headS a<;>simp
theorem only_no {s0 s:Str} {o:Option Tk} (h:dM s0 o=true) (hs:s≠s0):dM s o=false:=by
 cases o with
 | none=>rfl
 | some t =>
  have h2:((decide (t.kind=4)||decide (t.kind=5))&&decide (t.text=s0))=true:=h;show((decide (t.kind=4)||decide (t.kind=5))&&decide (t.text=s))=false;simp only[bu,bE]at h2;rw[h2.2,bU (show ¬s0=s from fun e=>hs e.symm),Bool.and_false]
theorem only_K {s0:Str} {o:Option Tk} (h:dM s0 o=true):dKb 1 o=false:=by
 cases o with
 | none=>rfl
 | some t =>
  have h2:((decide (t.kind=4)||decide (t.kind=5))&&decide (t.text=s0))=true:=h;simp only[bu,bH,bE]at h2;exact bU ou
def LB : List Str:=levels.flatten++[[123],[46],[91],[40],[42],[102,117,110,99]]
theorem only_T {s0:Str} {o:Option Tk} (h:dM s0 o=true) (hs:s0∉LB):fT o=true:=by
 have q:∀ s∈LB,dM s o=false:=fun s h2=>only_no h fun e=>hs (e▸h2);unfold fT dB;rw[q _ ov,only_K h,q _ ov,q _ ov,q _ ov];rfl
theorem only_E {s0:Str} {o:Option Tk} {b:Bool} (h:dM s0 o=true) (hs:s0∉LB):fE b o=true:=by
 have q:∀ s∈LB,dM s o=false:=fun s h2=>only_no h fun e=>hs (e▸h2);unfold fE fU fP fQ;rw[q _ ov,q _ ov,q _ ov,q _ ov];have:opB o=false:=by
  unfold opB;rw[List.any_eq_false];intro s h2;rw[q s (List.mem_append_left _ h2)];decide
 rw[this];cases b<;>rfl
theorem block_f {a:Tree} (h:lim.block a=true):a.kind=20∧a.name=[]∧a.num=0∧a.kids.all lim.stmt=true:=by
 have h1:blockS lim a=true:=(di a).2.2.symm.trans h;unfold blockS at h1;rw[bu]at h1;exact⟨of_decide_eq_true (bare_f h1.1).1,(bare_f h1.1).2.1 rfl,(bare_f h1.1).2.2 rfl,h1.2⟩
theorem block_hd {a:Tree} (h:lim.block a=true) (o:Option Tk):hd (toks a) o=some (mk [123]):=by
 obtain⟨k,n,u,ks⟩:=a;obtain rfl:k=20:=(block_f h).1;rw[toks_eq];rfl
section
variable {N:Nat}
theorem row_hd {L:List Str} {l:List Tree} (hne:l≠[]) (h:∀ x∈l,∀ o,hS L (hd (toks x) o)=true) (o:Option Tk):hS L (hd (commaJ (l.map toks)) o)=true:=by
 match l,hne,h with
 | [x],_,h=>exact h x ow o
 | x::y::r,_,h=>rw[bK,bK,commaJ,hd_app2];exact h x ow _
theorem semi_rd {n:Nat} {L:List Tk} {a:Tree} (h:Rd (simpleP N (gr N n).typ ((gr N n).expr false)) L a (dM [59])) (hb:∀ o,dM [123] (hd L o)=false) (hi:∀ o,dM [105,102] (hd L o)=false) (hf:∀ o,dM [102,111,114] (hd L o)=false) :
  Rd (stmtP N (gr N n)) (L++[mk [59]]) a fS :=
 Rd.peekMF (fun o _=>by rw[hd_app2];exact hb _) (Rd.peekMF (fun o _=>by rw[hd_app2];exact hi _) (Rd.tokF (fun o _=>by rw[hd_app2];exact hf _) (Rd.bind h (Rd.need rfl Rd.ret) fun o _=>rfl)))
theorem row_e {n:Nat} {l:List Tree} (hne:l≠[]) (hl:l.length≤N) {s0:Str} (hs:s0∉LB) (hc:s0≠[44]) (h:∀ x∈l,RT N x∧lim.expr x=true∧x.size≤N∧4*x.deep+1≤n) :
  Rd (commas N ((gr N n).expr false)) (commaJ (l.map toks)) l (dM s0):=(exprs_row hne hl h).mono fun o ho=>by
 rw[only_no ho (fun e=>hc e.symm),only_E ho hs];rfl
theorem all_isNm {l:List Tree} (h:l.all (nmS lim)=true):l.all isNm=true:=List.all_eq_true.2 fun x hx=>by
 have:=List.all_eq_true.1 h x hx;unfold nmS at this;rw[bu]at this;exact this.1
theorem all_isPl {l:List Tree} (h:l.all (plS lim)=true):l.all isPl=true:=List.all_eq_true.2 fun x hx=>by
 have:=List.all_eq_true.1 h x hx;unfold plS at this;rw[bu]at this;exact this.1
theorem branch_rd (a:Tree) (ih:∀ k∈a.kids,k.size≤N→RT N k) (hN:a.size≤N) (hs:lim.stmt a=true) (hk:a.kind=25) (n:Nat) (hn:4*a.deep≤n):Rd (gr N n).branch (toks a) a fS:=by
 obtain⟨k0,n0,u0,ks⟩:=a;obtain rfl:k0=25:=hk;have hdp:=deep_pos (Tree.mk 25 n0 u0 ks);have K:∀ x∈ks,RT N x∧x.size≤N∧x.deep<(Tree.mk 25 n0 u0 ks).deep:=fun x hx=>kid_ok ih hN hx;obtain⟨n,rfl⟩:∃ m,n=m+1:=⟨n-1,by omega⟩
 have h1:stmtS lim (.mk 25 n0 u0 ks)=true:=(di _).2.1.symm.trans hs;rw[stmtS_head,headS_n (k:=25) rfl ov]at h1;have h2:((decide (n0=[])&&decide (u0=0))&&(kidsR [lim.expr,lim.block] none ks||kidsR [lim.expr,lim.block,otherS lim] none ks))=true:=h1;simp only[bu,bH,bE]at h2;obtain⟨⟨rfl,rfl⟩,h3⟩:=h2;have ex:∀ x∈ks,lim.expr x=true→Rd ((gr N n).expr true) (toks x) x (fE true):=fun x hx h=>(K x hx).1.expr h (K x hx).2.1 pH;have bl:∀ x∈ks,lim.block x=true→Rd (gr N n).block (toks x) x yes:=fun x hx h=>(K x hx).1.block h n pH;rcases h3 with h3 | h3
 ·obtain⟨c,b,rfl,hc,hb⟩:=kids2 h3;have et:toks (.mk 25 [] 0 [c,b])=wd [105,102]::(toks c++(toks b++[])):=oK;rw[et];refine Rd.need rfl (Rd.bind (ex c ow hc) (Rd.bind (bl b ow hb) (Rd.tokF (fun o ho=>?_) Rd.ret) fun o _=>rfl) fun o _=>?_)
  ·have ho':(!dM [101,108,115,101] o)=true:=ho;show dM [101,108,115,101] o=false;simpa using ho'
  ·rw[cg,block_hd hb];decide
 ·obtain⟨c,b,e,rfl,hc,hb,he⟩:=kids3 h3;have et:toks (.mk 25 [] 0 [c,b,e])=wd [105,102]::(toks c++(toks b++wd [101,108,115,101]::toks e)):=oK;rw[et];refine Rd.need rfl (Rd.bind (ex c ow hc) (Rd.bind (bl b ow hb) (Rd.tokT rfl ?_) fun o _=>rfl) fun o _=>?_)
  ·unfold otherS at he;by_cases hbe:lim.block e=true
   ·exact Rd.peekMF (fun o _=>by rw[block_hd hbe];rfl) (Rd.bret (g:=fun e=>Tree.mk 25 [] 0 [c,b,e]) ((bl e ow hbe).mono fun o _=>rfl))
   ·rw[bH,bu]at he;obtain⟨he1,he2⟩:=he.resolve_left hbe;have hk25:=of_decide_eq_true he1;have hK:=K e ow;refine Rd.peekMT (fun o _=>?_) (Rd.bret (g:=fun e=>Tree.mk 25 [] 0 [c,b,e]) (hK.1.branch he2 hk25 n (by have:=hK.2.2;omega)));obtain⟨k2,n2,u2,ks2⟩:=e;obtain rfl:k2=25:=hk25;rw[toks_eq];rfl
  ·rw[hd_app2,block_hd hb];decide
theorem block_rd (a:Tree) (ih:∀ k∈a.kids,k.size≤N→RT N k) (hN:a.size≤N) (hs:lim.block a=true) (n:Nat) (hn:4*a.deep≤n):Rd (gr N n).block (toks a) a yes:=by
 obtain⟨h1,h2,h3,h4⟩:=block_f hs;have hlen:=len_size a;have hdp:=deep_pos a;obtain⟨k0,n0,u0,ks⟩:=a;obtain rfl:k0=20:=h1;obtain rfl:n0=[]:=h2;obtain rfl:u0=0:=h3;have K:∀ x∈ks,RT N x∧x.size≤N∧x.deep<(Tree.mk 20 [] 0 ks).deep:=fun x hx=>kid_ok ih hN hx;obtain⟨n,rfl⟩:∃ m,n=m+1:=⟨n-1,by omega⟩
 have et:toks (.mk 20 [] 0 ks)=mk [123]::((ks.map toks).flatten++[mk [125]]):=oK;rw[et];refine Rd.need rfl (Rd.bret (g:=fun l=>Tree.mk 20 [] 0 l) (Rd.upto (S':=fS) rfl N ks qn fun x hx=>?_));have hx1:lim.stmt x=true:=List.all_eq_true.1 h4 x hx;refine⟨(K x hx).1.stmt hx1 n pH,fun o=>⟨hS_no ((K x hx).1.hdS hx1 o) ov,?_⟩⟩;unfold fS;rw[hS_no ((K x hx).1.hdS hx1 o) ov];rfl
theorem stmt_rd (a:Tree) (ih:∀ k∈a.kids,k.size≤N→RT N k) (hN:a.size≤N) (hs:lim.stmt a=true):(∀ n,4*a.deep+1≤n→Rd (gr N n).stmt (toks a) a fS)∧∀ o,hS LS (hd (toks a) o)=true:=by
 have hbr:=branch_rd a ih hN hs;have hbl:=block_rd a ih hN;have hlen:=len_size a;obtain⟨k0,n0,u0,ks⟩:=a;simp only[Tree.kids]at hlen;have hdp:=deep_pos (Tree.mk k0 n0 u0 ks);have K:∀ x∈ks,RT N x∧x.size≤N∧x.deep<(Tree.mk k0 n0 u0 ks).deep:=fun x hx=>kid_ok ih hN hx;have h1:stmtS lim (.mk k0 n0 u0 ks)=true:=(di _).2.1.symm.trans hs;rw[stmtS_head]at h1;have hE:∀ x∈ks,lim.expr x=true→∀ o,hS LS (hd (toks x) o)=true:=fun x hx he o=>hS_up ((K x hx).1.hdE he o) ov;have he1:∀ n,4*(Tree.mk k0 n0 u0 ks).deep≤n→∀ x∈ks,lim.expr x=true→RT N x∧lim.expr x=true∧x.size≤N∧4*x.deep+1≤n:=fun n hn x hx he=>⟨(K x hx).1,he,(K x hx).2.1,by have:=(K x hx).2.2;omega⟩
 have noE:∀ {L:List Tk},(∀ o,hS LE (hd L o)=true)→(∀ o,dM [123] (hd L o)=false)∧(∀ o,dM [105,102] (hd L o)=false)∧(∀ o,dM [102,111,114] (hd L o)=false):=fun h=>⟨fun o=>hS_no (h o) ov,fun o=>hS_no (h o) ov,fun o=>hS_no (h o) ov⟩
 by_cases e:k0=20
 ·subst e;rw[headS_n (k:=20) rfl ov]at h1;have h2:((decide (n0=[])&&decide (u0=0))&&blockS lim (.mk 20 n0 u0 ks))=true:=h1;rw[bu]at h2;have hb:lim.block (.mk 20 n0 u0 ks)=true:=(di _).2.2.trans h2.2;refine⟨fun n hn=>?_,fun o=>by rw[block_hd hb];rfl⟩;obtain⟨n,rfl⟩:∃ m,n=m+1:=⟨n-1,by omega⟩
  exact Rd.peekMT (fun o _=>by rw[block_hd hb];rfl) ((hbl hb n ou).mono fun o _=>rfl)
 by_cases e:k0=21
 ·subst e;rw[headS_y (k:=21) rfl rfl]at h1;have h2:(decide (u0=0)&&(isName n0&&(kidsR [Tree.isType] none ks||kidsR [Tree.isType,lim.expr] none ks)))=true:=h1;simp only[bu,bH,bE]at h2;obtain⟨rfl,hn0,h3⟩:=h2;rcases h3 with h3 | h3
  ·obtain⟨t,rfl,ht⟩:=kids1 h3;have et:toks (.mk 21 n0 0 [t])=(wd [118,97,114]::nm n0::(toks t++[]))++[mk [59]]:=by rw[toks_eq];show wd _::nm n0::(toks t++([]++[mk _]))=_;simp
   refine⟨fun n hn=>?_,fun o=>by rw[et];rfl⟩;obtain⟨n,rfl⟩:∃ m,n=m+1:=⟨n-1,by omega⟩
   rw[et];refine semi_rd (Rd.tokT rfl (Rd.name (Rd.bind (typ_rd ht (K t ow).2.1 (by have:=(K t ow).2.2;omega)) (Rd.tokF (fun o ho=>only_no ho ov) Rd.ret) fun o ho=>only_T ho ov))) (fun o=>rfl) (fun o=>rfl) (fun o=>rfl)
  ·obtain⟨t,x,rfl,ht,hx⟩:=kids2 h3;have et:toks (.mk 21 n0 0 [t,x])=(wd [118,97,114]::nm n0::(toks t++mk [61]::toks x))++[mk [59]]:=by rw[toks_eq];show wd _::nm n0::(toks t++((mk _::toks x)++[mk _]))=_;simp
   refine⟨fun n hn=>?_,fun o=>by rw[et];rfl⟩;obtain⟨n,rfl⟩:∃ m,n=m+1:=⟨n-1,by omega⟩
   rw[et];have hx1:=he1 n ou x ow hx;refine semi_rd (Rd.tokT rfl (Rd.name (Rd.bind (typ_rd ht (K t ow).2.1 (by have:=(K t ow).2.2;omega)) (Rd.tokT rfl (Rd.bret (g:=fun e=>Tree.mk 21 n0 0 [t,e]) ((hx1.1.expr hx hx1.2.2.1 hx1.2.2.2).mono fun o ho=>only_E ho ov))) fun o ho=>rfl))) (fun o=>rfl) (fun o=>rfl) (fun o=>rfl)
 by_cases e:k0=22
 ·subst e;rw[headS_a (k:=22) rfl (.inl rfl)]at h1;have h2:(decide (n0=[])&&(decide (1≤u0)&&(decide (u0<(ks.length:Int))&&((ks.take u0.toNat).all (nmS lim)&&(ks.drop u0.toNat).all lim.expr))))=true:=h1;simp only[bu,bE]at h2;obtain⟨rfl,h3,h4,h5,h6⟩:=h2;have hl:(ks.take u0.toNat).length=u0.toNat:=pd;have hne:ks.take u0.toNat≠[]:=fun e=>by rw[e]at hl;simp at hl;omega
  have hne2:ks.drop u0.toNat≠[]:=fun e=>by have:=congrArg List.length e;rw[bX]at this;simp at this;omega
  have et:toks (.mk 22 [] u0 ks)=(commaJ ((ks.take u0.toNat).map toks)++mk [58,61]::commaJ ((ks.drop u0.toNat).map toks))++[mk [59]]:=by rw[toks_eq,List.map_take,List.map_drop];show commaJ _++mk _::(commaJ _++[mk _])=_;rw[bz];rfl
  have hLE:∀ x∈ks.take u0.toNat,lim.expr x=true:=fun x hx=>by have:=List.all_eq_true.1 h5 x hx;unfold nmS at this;rw[bu]at this;exact this.2
  have hh:∀ o,hS LE (hd (commaJ ((ks.take u0.toNat).map toks)++mk [58,61]::commaJ ((ks.drop u0.toNat).map toks)) o)=true:=fun o=>by
   exact jk
  refine⟨fun n hn=>?_,fun o=>by rw[et,hd_app2];exact hS_up (hh _) ov⟩;obtain⟨n,rfl⟩:∃ m,n=m+1:=⟨n-1,by omega⟩
  rw[et];obtain⟨q1,q2,q3⟩:=noE hh;refine semi_rd ?_ q1 q2 q3;have e2:Tree.mk 22 [] u0 ks = .mk 22 [] ((ks.take u0.toNat).length:Int) (ks.take u0.toNat++ks.drop u0.toNat):=by rw[cn,hl,show((u0.toNat:Nat):Int)=u0 by omega]
  rw[e2];refine ld ?_;refine Rd.bind (g:=assignP N ((gr N n).expr false)) (row_e (s0:=[58,61]) hne ou ov ov fun x hx=>he1 n ou x (cu hx) (hLE x hx)) ?_ (fun o _=>rfl);unfold assignP tokIf;rw[all_isNm h5,cy];exact Rd.tokT rfl (Rd.bret (g:=fun l=>Tree.mk 22 [] ((ks.take u0.toNat).length:Int) (ks.take u0.toNat++l)) (row_e hne2 pf ov ov fun x hx=>he1 n ou x (List.mem_of_mem_drop hx) (List.all_eq_true.1 h6 x hx)))
 by_cases e:k0=23
 ·subst e;rw[headS_a (k:=23) rfl (.inr rfl)]at h1;have h2:(decide (n0=[])&&(decide (1≤u0)&&(decide (u0<(ks.length:Int))&&((ks.take u0.toNat).all (plS lim)&&(ks.drop u0.toNat).all lim.expr))))=true:=h1;simp only[bu,bE]at h2;obtain⟨rfl,h3,h4,h5,h6⟩:=h2;have hl:(ks.take u0.toNat).length=u0.toNat:=pd;have hne:ks.take u0.toNat≠[]:=fun e=>by rw[e]at hl;simp at hl;omega
  have hne2:ks.drop u0.toNat≠[]:=fun e=>by have:=congrArg List.length e;rw[bX]at this;simp at this;omega
  have et:toks (.mk 23 [] u0 ks)=(commaJ ((ks.take u0.toNat).map toks)++mk [61]::commaJ ((ks.drop u0.toNat).map toks))++[mk [59]]:=by rw[toks_eq,List.map_take,List.map_drop];show commaJ _++mk _::(commaJ _++[mk _])=_;rw[bz];rfl
  have hLE:∀ x∈ks.take u0.toNat,lim.expr x=true:=fun x hx=>by have:=List.all_eq_true.1 h5 x hx;unfold plS at this;rw[bu]at this;exact this.2
  have hh:∀ o,hS LE (hd (commaJ ((ks.take u0.toNat).map toks)++mk [61]::commaJ ((ks.drop u0.toNat).map toks)) o)=true:=fun o=>by
   exact jk
  refine⟨fun n hn=>?_,fun o=>by rw[et,hd_app2];exact hS_up (hh _) ov⟩;obtain⟨n,rfl⟩:∃ m,n=m+1:=⟨n-1,by omega⟩
  rw[et];obtain⟨q1,q2,q3⟩:=noE hh;refine semi_rd ?_ q1 q2 q3;have e2:Tree.mk 23 [] u0 ks = .mk 23 [] ((ks.take u0.toNat).length:Int) (ks.take u0.toNat++ks.drop u0.toNat):=by rw[cn,hl,show((u0.toNat:Nat):Int)=u0 by omega]
  rw[e2];refine ld ?_;refine Rd.bind (g:=assignP N ((gr N n).expr false)) (row_e (s0:=[61]) hne ou ov ov fun x hx=>he1 n ou x (cu hx) (hLE x hx)) ?_ (fun o _=>rfl);have q:Rd (tokIf ((ks.take u0.toNat).all isPl) [61] (Ps.bind (commas N ((gr N n).expr false)) fun l=>Ps.ret (Tree.mk 23 [] ((ks.take u0.toNat).length:Int) (ks.take u0.toNat++l))) (bif isC1 (ks.take u0.toNat)then Ps.peek (isM [59]) (Ps.ret (.mk 24 [] 0 (ks.take u0.toNat))) Ps.fail else Ps.fail)) (mk [61]::commaJ ((ks.drop u0.toNat).map toks)) (.mk 23 [] ((ks.take u0.toNat).length:Int) (ks.take u0.toNat++ks.drop u0.toNat)) (dM [59]):=by
   unfold tokIf;rw[all_isPl h5,cy];exact Rd.tokT rfl (Rd.bret (g:=fun l=>Tree.mk 23 [] ((ks.take u0.toNat).length:Int) (ks.take u0.toNat++l)) (row_e hne2 pf ov ov fun x hx=>he1 n ou x (List.mem_of_mem_drop hx) (List.all_eq_true.1 h6 x hx)))
  unfold assignP;cases hq:(ks.take u0.toNat).all isNm with
  | true=>exact Rd.tokF (fun o _=>rfl) q
  | false=>exact q
 by_cases e:k0=24
 ·subst e;rw[headS_n (k:=24) rfl ov]at h1;have h2:((decide (n0=[])&&decide (u0=0))&&kidsR [callS lim] none ks)=true:=h1;simp only[bu,bE]at h2;obtain⟨⟨rfl,rfl⟩,h3⟩:=h2;obtain⟨x,rfl,hx⟩:=kids1 h3;unfold callS at hx;rw[bu]at hx;have hk51:=of_decide_eq_true hx.1;have et:toks (.mk 24 [] 0 [x])=(commaJ ([x].map toks)++[])++[mk [59]]:=by rw[toks_eq,cg];rfl
  have hh:∀ o,hS LE (hd (commaJ ([x].map toks)++[]) o)=true:=fun o=>by rw[cg];exact(K x ow).1.hdE hx.2 o
  refine⟨fun n hn=>?_,fun o=>by rw[et,hd_app2];exact hS_up (hh _) ov⟩;obtain⟨n,rfl⟩:∃ m,n=m+1:=⟨n-1,by omega⟩
  rw[et];obtain⟨q1,q2,q3⟩:=noE hh;refine semi_rd ?_ q1 q2 q3;refine ld ?_;refine Rd.bind (g:=assignP N ((gr N n).expr false)) (row_e (s0:=[59]) (l:=[x]) ow (by simp at hlen ⊢;omega) ov ov fun y hy=>by rw[List.mem_singleton.1 hy];exact he1 n ou x ow hx.2) ?_ (fun o ho=>ho);unfold assignP tokIf;rw[show [x].all isNm=false by simp[isNm,hk51],show [x].all isPl=false by simp[isPl,hk51],show isC1 [x]=true from bS hk51,cx,cx,cy];exact Rd.peekMT (fun o ho=>ho) Rd.ret
 by_cases e:k0=25
 ·subst e;have hh:∀ o,hd (toks (.mk 25 n0 u0 ks)) o=some (wd [105,102]):=fun o=>by rw[toks_eq];rfl
  refine⟨fun n hn=>?_,fun o=>by rw[hh];rfl⟩;obtain⟨n,rfl⟩:∃ m,n=m+1:=⟨n-1,by omega⟩
  exact Rd.peekMF (fun o _=>by rw[hh];rfl) (Rd.peekMT (fun o _=>by rw[hh];rfl) (hbr rfl n ou))
 by_cases e:k0=26
 ·subst e;rw[headS_n (k:=26) rfl ov]at h1;have h2:((decide (n0=[])&&decide (u0=0))&&(kidsR [lim.block] none ks||kidsR [lim.expr,lim.block] none ks))=true:=h1;simp only[bu,bH,bE]at h2;obtain⟨⟨rfl,rfl⟩,h3⟩:=h2;have hh:∀ o,hd (toks (.mk 26 [] 0 ks)) o=some (wd [102,111,114]):=fun o=>by rw[toks_eq];rfl
  refine⟨fun n hn=>?_,fun o=>by rw[hh];rfl⟩;obtain⟨n,rfl⟩:∃ m,n=m+1:=⟨n-1,by omega⟩
  refine Rd.peekMF (fun o _=>by rw[hh];rfl) (Rd.peekMF (fun o _=>by rw[hh];rfl) ?_);rcases h3 with h3 | h3
  ·obtain⟨b,rfl,hb⟩:=kids1 h3;have et:toks (.mk 26 [] 0 [b])=wd [102,111,114]::toks b:=oK;rw[et];exact Rd.tokT rfl (Rd.peekMT (fun o _=>by rw[block_hd hb];rfl) (Rd.bret (g:=fun b=>Tree.mk 26 [] 0 [b]) (((K b ow).1.block hb n (by have:=(K b ow).2.2;omega)).mono fun o _=>rfl)))
  ·obtain⟨c,b,rfl,hc,hb⟩:=kids2 h3;have et:toks (.mk 26 [] 0 [c,b])=wd [102,111,114]::(toks c++toks b):=oK;rw[et];have hc1:=he1 n ou c ow hc;refine Rd.tokT rfl (Rd.peekMF (fun o _=>?_) (Rd.bind (hc1.1.expr hc hc1.2.2.1 hc1.2.2.2) (Rd.bret (g:=fun b=>Tree.mk 26 [] 0 [c,b]) (((K b ow).1.block hb n (by have:=(K b ow).2.2;omega)).mono fun o _=>rfl)) fun o _=>?_))
   ·rw[hd_app2];exact hS_no (hc1.1.hdE hc _) ov
   ·rw[block_hd hb];decide
 by_cases e:k0=27
 ·subst e;rw[headS_n (k:=27) rfl ov]at h1;have h2:((decide (n0=[])&&decide (u0=0))&&ks.all lim.expr)=true:=h1;simp only[bu,bE]at h2;obtain⟨⟨rfl,rfl⟩,h3⟩:=h2;have et:toks (.mk 27 [] 0 ks)=(wd [114,101,116,117,114,110]::commaJ (ks.map toks))++[mk [59]]:=oK;refine⟨fun n hn=>?_,fun o=>by rw[et];rfl⟩;obtain⟨n,rfl⟩:∃ m,n=m+1:=⟨n-1,by omega⟩
  rw[et];refine semi_rd (Rd.tokF (fun o _=>rfl) (Rd.tokT rfl ?_)) (fun o=>rfl) (fun o=>rfl) (fun o=>rfl);by_cases hks:ks=[]
  ·subst hks;exact Rd.peekMT (fun o ho=>ho) Rd.ret
  ·refine Rd.peekMF (fun o _=>?_) (Rd.bret (g:=fun l=>Tree.mk 27 [] 0 l) (row_e hks ou ov ov fun x hx=>he1 n ou x hx (List.all_eq_true.1 h3 x hx)));exact hS_no (row_hd (L:=LE) hks (fun x hx o=>(K x hx).1.hdE (List.all_eq_true.1 h3 x hx) o) o) ov
 by_cases e:k0=28∨k0=29
 ·have h2:n0=[]∧u0=0∧ks=[]:=by
   rcases e with rfl | rfl
   ·rw[headS_n (k:=28) rfl ov]at h1;exact gX
   ·rw[headS_n (k:=29) rfl ov]at h1;exact gX
  obtain⟨rfl,rfl,rfl⟩:=h2;rcases e with rfl | rfl
  ·refine⟨fun n hn=>?_,fun o=>rfl⟩;obtain⟨n,rfl⟩:∃ m,n=m+1:=⟨n-1,by omega⟩
   exact semi_rd (L:=[wd [98,114,101,97,107]]) (Rd.tokF (fun o _=>rfl) (Rd.tokF (fun o _=>rfl) (Rd.tokT rfl Rd.ret))) (fun o=>rfl) (fun o=>rfl) (fun o=>rfl)
  ·refine⟨fun n hn=>?_,fun o=>rfl⟩;obtain⟨n,rfl⟩:∃ m,n=m+1:=⟨n-1,by omega⟩
   exact semi_rd (L:=[wd [99,111,110,116,105,110,117,101]]) (Rd.tokF (fun o _=>rfl) (Rd.tokF (fun o _=>rfl) (Rd.tokF (fun o _=>rfl) (Rd.tokT rfl Rd.ret)))) (fun o=>rfl) (fun o=>rfl) (fun o=>rfl)
 exact jZ
theorem rt_all (a:Tree):a.size≤N→RT N a:=by
 induction a using Tree.ind with
 | h a ih =>
 intro hN;refine⟨fun h n hn=>block_rd a ih hN h n hn,fun h n hn=>(stmt_rd a ih hN h).1 n hn,fun h hk n hn=>branch_rd a ih hN h hk n hn,fun h b n hn=>?_,fun h=>(stmt_rd a ih hN h).2⟩;have he:exprS lim a=true:=(di a).1.symm.trans h;obtain⟨k0,n0,u0,ks⟩:=a;exact post_expr k0 ih hN he b n hn
end
end Go.Pt
namespace Go.Ps
open Go.Sep (Tree Str)
variable {α β:Type}
def Le (p p':Pp α):Prop:=∀ f k,p f k≠.out→p' f k=p f k
theorem Le.refl (p:Pp α):Le p p:=fun _ _ _=>rfl
theorem Le.dry {p:Pp α}:Le dry p:=fun _ _ h=>absurd rfl h
theorem Le.bind {p p':Pp α} {g g':α→Pp β} (hp:Le p p') (hg:∀ a,Le (g a) (g' a)):Le (bind p g) (bind p' g'):=fun f k h=>by
 unfold Ps.bind at h ⊢;cases hx:p f k with
 | ok a k1 =>
  simp only[hx]at h;rw[hp f k (by rw[hx];exact fun e=>by cases e),hx];exact hg a f k1 h
 | bad k1=>rw[hp f k (by rw[hx];exact fun e=>by cases e),hx]
 | out=>simp only[hx]at h;exact absurd rfl h
theorem Le.bret {p p':Pp α} {g:α→Pp β} (hp:Le p p'):Le (Ps.bind p g) (Ps.bind p' g):=Le.bind hp fun a=>Le.refl _
theorem Le.tok {s:Str} {A A' B B':Pp α} (hA:Le A A') (hB:Le B B'):Le (tok s A B) (tok s A' B'):=fun f k h=>by
 unfold Ps.tok at h ⊢;cases hb:isM s f k with
 | true=>simp only[hb,cy]at h ⊢;exact hA f _ h
 | false=>simp only[hb,cx]at h ⊢;exact hB f _ h
theorem Le.need {s:Str} {A A':Pp α} (hA:Le A A'):Le (need s A) (need s A'):=Le.tok hA (Le.refl _)
theorem Le.tkn {n:Int} {A A':Tk→Pp α} {B B':Pp α} (hA:∀ t,Le (A t) (A' t)) (hB:Le B B'):Le (tkn n A B) (tkn n A' B'):=fun f k h=>by
 unfold Ps.tkn at h ⊢;cases hx:f k with
 | none=>simp only[hx]at h ⊢;exact hB f k h
 | some t =>
  cases hb:decide (t.kind=n)with
  | true=>simp only[hx,hb,cy]at h ⊢;exact hA t f _ h
  | false=>simp only[hx,hb,cx]at h ⊢;exact hB f k h
theorem Le.name {A A':Str→Pp α} (hA:∀ t,Le (A t) (A' t)):Le (name A) (name A'):=Le.tkn (fun t=>hA t.text) (Le.refl _)
theorem Le.oneOf {ops:List Str} {A A':Str→Pp α} {B B':Pp α} (hA:∀ t,Le (A t) (A' t)) (hB:Le B B'):Le (oneOf ops A B) (oneOf ops A' B'):=fun f k h=>by
 unfold Ps.oneOf at h ⊢;cases hx:ops.find? (fun s=>isM s f k)with
 | none=>simp only[hx]at h ⊢;exact hB f k h
 | some t=>simp only[hx]at h ⊢;exact hA t f _ h
theorem Le.peek {q:F→Nat→Bool} {A A' B B':Pp α} (hA:Le A A') (hB:Le B B'):Le (peek q A B) (peek q A' B'):=fun f k h=>by
 unfold Ps.peek at h ⊢;cases hb:q f k with
 | true=>simp only[hb,cy]at h ⊢;exact hA f _ h
 | false=>simp only[hb,cx]at h ⊢;exact hB f _ h
theorem Le.tokIf {c:Bool} {s:Str} {A A' B B':Pp α} (hA:Le A A') (hB:Le B B'):Le (tokIf c s A B) (tokIf c s A' B'):=by
 cases c with
 | true=>exact Le.tok hA hB
 | false=>exact hB
theorem Le.commas {X X':Pp α} (h:Le X X'):∀ {j j':Nat},j≤j'→Le (commas j X) (commas j' X')
 | 0,_,_=>Le.dry
 | j+1,j'+1,hj=>Le.bind h fun a=>Le.tok (Le.bret (Le.commas h (Nat.le_of_succ_le_succ hj))) (Le.refl _)
theorem Le.upto {X X':Pp α} {s:Str} (h:Le X X'):∀ {j j':Nat},j≤j'→Le (upto j s X) (upto j' s X')
 | 0,_,_=>Le.dry
 | j+1,j'+1,hj=>Le.tok (Le.refl _) (Le.bind h fun a=>Le.bret (Le.upto h (Nat.le_of_succ_le_succ hj)))
section
variable {N N':Nat} (hN:N≤N')
include hN
theorem Le.inP {s:Str} {X X':Pp α} (h:Le X X'):Le (inP N s X) (inP N' s X'):=Le.tok (Le.refl _) (Le.bret (Le.commas h hN))
theorem Le.results {typ typ':Pp Tree} (h:Le typ typ'):Le (resultsP N typ) (resultsP N' typ'):=Le.tok (Le.bret (Le.commas h hN)) (Le.peek (Le.bret h) (Le.refl _))
omit hN in
theorem Le.param {typ typ':Pp Tree} (h:Le typ typ'):Le (paramP typ) (paramP typ'):=Le.name fun s=>Le.bret h
theorem Le.sigLike {kind:Int} {X X' typ typ':Pp Tree} (hX:Le X X') (h:Le typ typ'):Le (sigLike N kind X typ) (sigLike N' kind X' typ'):=Le.need (Le.bind (Le.inP hN hX) fun ps=>Le.bret (Le.results hN h))
theorem Le.sig {typ typ':Pp Tree} (h:Le typ typ'):Le (sigP N typ) (sigP N' typ'):=Le.sigLike hN (Le.param h) h
theorem Le.typP {typ typ':Pp Tree} (h:Le typ typ'):Le (typP N typ) (typP N' typ'):=Le.tok (Le.bret h) (Le.tok (Le.need (Le.bret h)) (Le.tok (Le.sigLike hN h h) (Le.refl _)))
omit hN in
theorem Le.field {mb mb':Pp Tree} (h:Le mb mb'):Le (fieldP mb) (fieldP mb'):=Le.name fun s=>Le.bret h
theorem Le.body {kind:Int} {nm:Str} {mb mb':Pp Tree} (h:Le mb mb'):Le (bodyP N kind nm mb) (bodyP N' kind nm mb'):=Le.need (Le.bret (Le.upto (Le.field h) hN))
theorem Le.typeDecl {typ typ':Pp Tree} (h:Le typ typ'):Le (typeDeclP N typ) (typeDeclP N' typ'):=Le.name fun nm=>Le.tok (Le.body hN (Le.sig hN h)) (Le.need (Le.body hN h))
theorem Le.declP {typ typ' block block':Pp Tree} (h:Le typ typ') (hb:Le block block'):Le (declP N typ block) (declP N' typ' block') :=
 Le.tok (Le.typeDecl hN h) (Le.need (Le.tok
  (Le.name fun recv=>Le.need (Le.name fun of=>Le.need (Le.name fun nm=>Le.bind (Le.sig hN h) fun s=>Le.bret hb)))
  (Le.name fun nm=>Le.bind (Le.sig hN h) fun s=>Le.bret hb)))
theorem Le.blockP {stmt stmt':Pp Tree} (h:Le stmt stmt'):Le (blockP N stmt) (blockP N' stmt'):=Le.need (Le.bret (Le.upto h hN))
omit hN in
theorem Le.branchP {expr expr' block block' branch branch':Pp Tree} (he:Le expr expr') (hb:Le block block') (hr:Le branch branch'):Le (branchP expr block branch) (branchP expr' block' branch') :=
 Le.need (Le.bind he fun c=>Le.bind hb fun b=>Le.tok (Le.peek (Le.bret hr) (Le.bret hb)) (Le.refl _))
omit hN in
theorem Le.forP {expr expr' block block':Pp Tree} (he:Le expr expr') (hb:Le block block'):Le (forP expr block) (forP expr' block'):=Le.peek (Le.bret hb) (Le.bind he fun c=>Le.bret hb)
theorem Le.assignP {expr expr':Pp Tree} {left:List Tree} (he:Le expr expr'):Le (assignP N expr left) (assignP N' expr' left) :=
 Le.tokIf (Le.bret (Le.commas he hN)) (Le.tokIf (Le.bret (Le.commas he hN)) (Le.refl _))
theorem Le.simpleP {typ typ' expr expr':Pp Tree} (h:Le typ typ') (he:Le expr expr'):Le (simpleP N typ expr) (simpleP N' typ' expr') :=
 Le.tok (Le.name fun s=>Le.bind h fun t=>Le.tok (Le.bret he) (Le.refl _)) (Le.tok (Le.peek (Le.refl _) (Le.bret (Le.commas he hN))) (Le.tok (Le.refl _) (Le.tok (Le.refl _) (Le.bind (Le.commas he hN) fun l=>Le.assignP hN he))))
theorem Le.exprsP {s:Str} {expr expr':Pp Tree} (he:Le expr expr'):Le (exprsP N s expr) (exprsP N' s expr'):=Le.inP hN he
omit hN in
theorem Le.cutP {expr expr':Pp Tree} {num:Int} {ks:List Tree} (he:Le expr expr'):Le (cutP expr num ks) (cutP expr' num ks):=Le.need (Le.tok (Le.refl _) (Le.bret he))
omit hN in
theorem Le.indexP {expr expr':Pp Tree} {n:Tree} (he:Le expr expr'):Le (indexP expr n) (indexP expr' n):=Le.peek (Le.cutP he) (Le.bind he fun e=>Le.tok (Le.refl _) (Le.cutP he))
theorem Le.postP {expr expr':Pp Tree} (he:Le expr expr'):∀ {j j':Nat} (n:Tree),j≤j'→Le (postP N expr j n) (postP N' expr' j' n)
 | 0,_,_,_=>Le.dry
 | j+1,j'+1,n,hj=>Le.tok (Le.name fun s=>Le.postP he _ (Nat.le_of_succ_le_succ hj)) (Le.tok (Le.bind (Le.indexP he) fun t=>Le.postP he _ (Nat.le_of_succ_le_succ hj)) (Le.tok (Le.bind (Le.exprsP hN he) fun l=>Le.postP he _ (Nat.le_of_succ_le_succ hj)) (Le.refl _)))
theorem Le.primP {typ typ' block block' expr expr':Pp Tree} {h:Bool} (ht:Le typ typ') (hb:Le block block') (he:Le expr expr'):Le (primP N typ block expr h) (primP N' typ' block' expr' h):=by
 refine Le.tkn (fun t=>Le.refl _) (Le.tkn (fun t=>Le.refl _) (Le.tok (Le.refl _) (Le.tok (Le.refl _) (Le.tok (Le.refl _) ?_))));refine Le.tok (Le.bret he) (Le.tok (Le.need (Le.bind ht fun t=>Le.need (Le.bret (Le.exprsP hN he)))) (Le.tok (Le.bind (Le.sig hN ht) fun s=>Le.bret hb) (Le.name fun s=>?_)));cases h with
 | true=>exact Le.refl _
 | false=>exact Le.tok (Le.bret (Le.exprsP hN he)) (Le.refl _)
omit hN in
theorem Le.loopB {X X':Pp Tree} {ops:List Str} (h:Le X X'):∀ {j j':Nat} (n:Tree),j≤j'→Le (loopB j ops X n) (loopB j' ops X' n)
 | 0,_,_,_=>Le.dry
 | j+1,j'+1,n,hj=>Le.oneOf (fun op=>Le.bind h fun m=>Le.loopB h _ (Nat.le_of_succ_le_succ hj)) (Le.refl _)
theorem Le.binL {U U':Pp Tree} (hU:Le U U'):∀ l,Le (binL N U l) (binL N' U' l)
 | []=>hU
 | ops::rest=>Le.bind (Le.binL hU rest) fun n=>Le.loopB (Le.binL hU rest) n hN
end
structure GLe (g g':Gr):Prop where
 typ:Le g.typ g'.typ
 block:Le g.block g'.block
 stmt:Le g.stmt g'.stmt
 branch:Le g.branch g'.branch
 expr:∀ b,Le (g.expr b) (g'.expr b)
 unary:∀ b,Le (g.unary b) (g'.unary b)
theorem gle {N N':Nat} (hN:N≤N'):∀ {n n':Nat},n≤n'→GLe (gr N n) (gr N' n')
 | 0,_,_=>⟨Le.dry,Le.dry,Le.dry,Le.dry,fun _=>Le.dry,fun _=>Le.dry⟩
 | n+1,n'+1,hn=>by
  have IH:=gle hN (Nat.le_of_succ_le_succ hn);refine⟨Le.typP hN IH.typ,Le.blockP hN IH.stmt,?_,Le.branchP (IH.expr _) IH.block IH.branch,fun b=>Le.binL hN (IH.unary b) _,fun b=>?_⟩
  ·exact Le.peek IH.block (Le.peek IH.branch (Le.tok (Le.forP (IH.expr _) IH.block) (Le.bret (Le.simpleP hN IH.typ (IH.expr _)))))
  ·exact Le.oneOf (fun op=>Le.bret (IH.unary b)) (Le.bind (Le.primP hN IH.typ IH.block (IH.expr _)) fun t=>Le.postP hN (IH.expr _) t hN)
theorem Le.declG {N N' n n':Nat} (hN:N≤N') (hn:n≤n'):Le (declG N n) (declG N' n'):=Le.declP hN (gle hN hn).typ (gle hN hn).block
theorem Le.progL {decl decl':Pp Tree} (h:Le decl decl'):∀ {j j':Nat},j≤j'→Le (progL decl j) (progL decl' j')
 | 0,_,_=>Le.dry
 | j+1,j'+1,hj=>fun f k hx=>by
  have hr:Le (Ps.bind decl fun a=>Ps.bind (Ps.progL decl j) fun l=>Ps.ret (a::l)) (Ps.bind decl' fun a=>Ps.bind (Ps.progL decl' j') fun l=>Ps.ret (a::l)):=Le.bind h fun a=>Le.bret (Le.progL h (Nat.le_of_succ_le_succ hj));unfold Ps.progL at hx ⊢;cases hb:(f k).isNone with
  | true=>simp only[cy]
  | false=>simp only[hb,cx]at hx ⊢;exact hr f k hx
theorem Le.program {M M':Nat} (hM:M≤M'):Le (program M) (program M'):=Le.progL (Le.declG ou ou) ou
end Go.Ps
namespace Go.Ps
open Go.Sep (Tree Str)
variable {α β:Type}
section
variable (M:Nat) (f:F)
structure Run (st:Bool) (k0:Nat) (p:Pp α):Prop where
 out:∀ k,k0≤k→k≤M→p f k≠.out
 ok:∀ k,k0≤k→k≤M→∀ a k',p f k = .ok a k'→k≤k'∧k'≤M∧(st=true→k<k')
end
section
variable {M:Nat} {f:F}
theorem Run.vac {st:Bool} {k0:Nat} {p:Pp α} (h:M<k0):Run M f st k0 p:=⟨fun k h1 h2=>ou,fun k h1 h2=>ou⟩
theorem Run.up {st:Bool} {k0 k1:Nat} {p:Pp α} (h:Run M f st k0 p) (hk:k0≤k1):Run M f st k1 p:=⟨fun k h1 h2=>h.out k ou h2,fun k h1 h2=>h.ok k ou h2⟩
theorem Run.lax {st:Bool} {k0:Nat} {p:Pp α} (h:Run M f st k0 p):Run M f false k0 p:=⟨h.out,fun k h1 h2 a k' h3=>⟨(h.ok k h1 h2 a k' h3).1,(h.ok k h1 h2 a k' h3).2.1,fun e=>oT⟩⟩
theorem Run.ret {k0:Nat} (a:α):Run M f false k0 (ret a):=⟨fun k _ _ h=>(by cases h),fun k h1 h2 a k' h=>(by injection h with _ h;subst h;exact⟨bI _,h2,fun e=>oT⟩)⟩
theorem Run.fail {st:Bool} {k0:Nat}:Run M f st k0 (fail:Pp α):=⟨fun k _ _ h=>(by cases h),fun k h1 h2 a k' h=>(by cases h)⟩
theorem Run.bind {s1 s2:Bool} {k0:Nat} {p:Pp α} {g:α→Pp β} (hp:Run M f s1 k0 p) (hg:∀ a,Run M f s2 (bif s1 then k0+1 else k0) (g a)):Run M f (s1||s2) k0 (bind p g):=by
 have hb:∀ k,k0≤k→k≤M→∀ a k1,p f k = .ok a k1→(bif s1 then k0+1 else k0)≤k1:=fun k h1 h2 a k1 hx=>by
  have:=hp.ok k h1 h2 a k1 hx;cases s1 with
  | true=>have:=this.2.2 rfl;show k0+1≤k1;omega
  | false=>show k0≤k1;omega
 refine⟨fun k h1 h2 h=>?_,fun k h1 h2 b k' h=>?_⟩
 ·unfold Ps.bind at h;cases hx:p f k with
  | ok a k1 =>
   simp only[hx]at h;exact(hg a).out k1 (hb k h1 h2 a k1 hx) (hp.ok k h1 h2 a k1 hx).2.1 h
  | bad k1=>simp only[hx]at h;cases h
  | out=>exact hp.out k h1 h2 hx
 ·unfold Ps.bind at h;cases hx:p f k with
  | ok a k1 =>
   simp only[hx]at h;have q1:=hp.ok k h1 h2 a k1 hx;have q2:=(hg a).ok k1 (hb k h1 h2 a k1 hx) q1.2.1 b k' h;refine⟨by omega,q2.2.1,fun e=>?_⟩;cases s1 with
   | true=>have:=q1.2.2 rfl;omega
   | false=>have:=q2.2.2 e;omega
  | bad k1=>simp only[hx]at h;cases h
  | out=>simp only[hx]at h;cases h
theorem Run.step {st:Bool} {k0:Nat} {A:Pp α} {k:Nat} (h:Run M f st (k0+1) A) (h1:k0≤k) (hlt:k<M):A f (k+1)≠.out∧∀ a k',A f (k+1) = .ok a k'→k<k'∧k'≤M :=
 ⟨h.out _ ou ou,fun a k' hx=>(by have:=h.ok _ ou ou a k' hx;omega)⟩
theorem isM_some {s:Str} {k:Nat} (h:isM s f k=true):f k≠none:=fun e=>by unfold isM at h;rw[e]at h;cases h
variable (hf:∀ i,M≤i→f i=none)
include hf
theorem at_lt {k:Nat} (h:f k≠none):k<M:=by
 rcases Nat.lt_or_ge k M with h1 | h1
 ·exact h1
 ·exact absurd (hf k h1) h
theorem Run.tok {s1 st:Bool} {k0:Nat} {s:Str} {A B:Pp α} (hA:Run M f s1 (k0+1) A) (hB:Run M f st k0 B):Run M f st k0 (tok s A B):=by
 refine⟨fun k h1 h2 h=>?_,fun k h1 h2 a k' h=>?_⟩
 ·unfold Ps.tok at h;cases hb:isM s f k with
  | true=>simp only[hb,cy]at h;exact(hA.step h1 (at_lt hf (isM_some hb))).1 h
  | false=>simp only[hb,cx]at h;exact hB.out k h1 h2 h
 ·unfold Ps.tok at h;cases hb:isM s f k with
  | true =>
   simp only[hb,cy]at h;have:=(hA.step h1 (at_lt hf (isM_some hb))).2 a k' h;exact jq
  | false=>simp only[hb,cx]at h;exact hB.ok k h1 h2 a k' h
theorem Run.need {s1 st:Bool} {k0:Nat} {s:Str} {A:Pp α} (hA:Run M f s1 (k0+1) A):Run M f st k0 (need s A):=Run.tok hf hA Run.fail
theorem Run.tkn {s1 st:Bool} {k0:Nat} {c:Int} {A:Tk→Pp α} {B:Pp α} (hA:∀ t,Run M f s1 (k0+1) (A t)) (hB:Run M f st k0 B):Run M f st k0 (tkn c A B):=by
 refine⟨fun k h1 h2 h=>?_,fun k h1 h2 a k' h=>?_⟩
 ·unfold Ps.tkn at h;cases hx:f k with
  | none=>simp only[hx]at h;exact hB.out k h1 h2 h
  | some t =>
   cases hb:decide (t.kind=c)with
   | true=>simp only[hx,hb,cy]at h;exact((hA t).step h1 (at_lt hf (by rw[hx];exact fun e=>oT))).1 h
   | false=>simp only[hx,hb,cx]at h;exact hB.out k h1 h2 h
 ·unfold Ps.tkn at h;cases hx:f k with
  | none=>simp only[hx]at h;exact hB.ok k h1 h2 a k' h
  | some t =>
   cases hb:decide (t.kind=c)with
   | true =>
    simp only[hx,hb,cy]at h;have:=((hA t).step h1 (at_lt hf (by rw[hx];exact fun e=>oT))).2 a k' h;exact jq
   | false=>simp only[hx,hb,cx]at h;exact hB.ok k h1 h2 a k' h
theorem Run.name {s1 st:Bool} {k0:Nat} {A:Str→Pp α} (hA:∀ t,Run M f s1 (k0+1) (A t)):Run M f st k0 (name A):=Run.tkn hf (fun t=>hA t.text) Run.fail
theorem Run.oneOf {s1 st:Bool} {k0:Nat} {ops:List Str} {A:Str→Pp α} {B:Pp α} (hA:∀ t,Run M f s1 (k0+1) (A t)) (hB:Run M f st k0 B):Run M f st k0 (oneOf ops A B):=by
 refine⟨fun k h1 h2 h=>?_,fun k h1 h2 a k' h=>?_⟩
 ·unfold Ps.oneOf at h;cases hx:ops.find? (fun s=>isM s f k)with
  | none=>simp only[hx]at h;exact hB.out k h1 h2 h
  | some t=>simp only[hx]at h;exact((hA t).step h1 (at_lt hf (isM_some (List.find?_some (p:=fun s=>isM s f k) hx)))).1 h
 ·unfold Ps.oneOf at h;cases hx:ops.find? (fun s=>isM s f k)with
  | none=>simp only[hx]at h;exact hB.ok k h1 h2 a k' h
  | some t =>
   simp only[hx]at h;have:=((hA t).step h1 (at_lt hf (isM_some (List.find?_some (p:=fun s=>isM s f k) hx)))).2 a k' h;exact jq
omit hf
theorem Run.peek {st:Bool} {k0:Nat} {q:F→Nat→Bool} {A B:Pp α} (hA:Run M f st k0 A) (hB:Run M f st k0 B):Run M f st k0 (peek q A B):=by
 refine⟨fun k h1 h2 h=>?_,fun k h1 h2 a k' h=>?_⟩
 ·unfold Ps.peek at h;cases hb:q f k with
  | true=>simp only[hb,cy]at h;exact hA.out k h1 h2 h
  | false=>simp only[hb,cx]at h;exact hB.out k h1 h2 h
 ·unfold Ps.peek at h;cases hb:q f k with
  | true=>simp only[hb,cy]at h;exact hA.ok k h1 h2 a k' h
  | false=>simp only[hb,cx]at h;exact hB.ok k h1 h2 a k' h
include hf
theorem Run.commas {X:Pp α}:∀(j k0:Nat),M+1≤j+k0→Run M f true k0 X→Run M f true k0 (commas j X)
 | 0,k0,h,hX=>Run.vac ou
 | j+1,k0,h,hX=>by
  refine Run.bind (s2:=false) hX fun a=>Run.tok hf (s1:=true) ?_ (Run.ret _);exact Run.bind (s2:=false) (Run.commas j _ (by show M+1≤j+(k0+1+1);omega) (hX.up (by show k0≤k0+1+1;omega))) fun l=>Run.ret _
theorem Run.upto {X:Pp α} {s:Str}:∀(j k0:Nat),M+1≤j+k0→Run M f true k0 X→Run M f true k0 (upto j s X)
 | 0,k0,h,hX=>Run.vac ou
 | j+1,k0,h,hX=>by
  refine Run.tok hf (Run.ret _) (Run.bind (s2:=false) hX fun a=>?_);exact(Run.bind (s2:=false) (Run.upto j _ (by show M+1≤j+(k0+1);omega) (hX.up (by show k0≤k0+1;omega))) fun l=>Run.ret _).lax
theorem Run.loopB {X:Pp Tree} {ops:List Str}:∀(j k0:Nat) (n:Tree),M+1≤j+k0→Run M f true k0 X→Run M f false k0 (loopB j ops X n)
 | 0,k0,n,h,hX=>Run.vac ou
 | j+1,k0,n,h,hX=>by
  refine Run.oneOf hf (s1:=true) (fun op=>?_) (Run.ret _);exact Run.bind (s2:=false) (hX.up ou) fun m=>Run.loopB j _ _ (by show M+1≤j+(k0+1+1);omega) (hX.up (by show k0≤k0+1+1;omega))
theorem Run.binL {N:Nat} {U:Pp Tree} {k0:Nat} (hN:M+1≤N) (hU:Run M f true k0 U):∀ l,Run M f true k0 (binL N U l)
 | []=>hU
 | ops::rest=>Run.bind (s2:=false) (Run.binL hN hU rest) fun n=>Run.loopB hf N _ n (by show M+1≤N+(k0+1);omega) ((Run.binL hN hU rest).up (by show k0≤k0+1;omega))
theorem Run.inP {N:Nat} {s:Str} {X:Pp α} {k0:Nat} (hN:M+1≤N) (hX:Run M f true k0 X):Run M f true k0 (inP N s X):=by
 refine Run.tok hf (Run.ret _) (Run.bind (s2:=true) (Run.commas hf N k0 ou hX) fun l=>Run.need hf (Run.ret _))
theorem Run.results {N:Nat} {typ:Pp Tree} {k0:Nat} (hN:M+1≤N) (h:Run M f true k0 typ):Run M f false k0 (resultsP N typ):=by
 refine Run.tok hf (s1:=true) (Run.bind (s2:=true) (Run.commas hf N _ ou (h.up ou)) fun l=>Run.need hf (Run.ret _)) (Run.peek (Run.bind (s2:=false) h fun t=>Run.ret _).lax (Run.ret _))
theorem Run.sigLike {N:Nat} {kind:Int} {X typ:Pp Tree} {k0:Nat} (hN:M+1≤N) (hX:Run M f true (k0+1) X) (h:Run M f true (k0+1) typ):Run M f true k0 (sigLike N kind X typ) :=
 Run.need hf (s1:=true) (Run.bind (s2:=false) (Run.inP hf hN hX) fun ps=>Run.bind (s2:=false) (Run.results hf hN (h.up (by show k0+1≤k0+1+1;omega))) fun rs=>Run.ret _)
theorem Run.param {typ:Pp Tree} {k0:Nat} (h:Run M f true (k0+1) typ):Run M f true k0 (paramP typ):=Run.name hf (s1:=true) fun s=>Run.bind (s2:=false) h fun t=>Run.ret _
theorem Run.sig {N:Nat} {typ:Pp Tree} {k0:Nat} (hN:M+1≤N) (h:Run M f true (k0+1) typ):Run M f true k0 (sigP N typ):=Run.sigLike hf hN (Run.param hf (h.up ou)) h
structure GRun (g:Gr) (n k0:Nat):Prop where
 typ:3*M+1≤n+3*k0→Run M f true k0 g.typ
 block:3*M+1≤n+3*k0→Run M f true k0 g.block
 branch:3*M+1≤n+3*k0→Run M f true k0 g.branch
 unary:∀ b,3*M+1≤n+3*k0→Run M f true k0 (g.unary b)
 expr:∀ b,3*M+2≤n+3*k0→Run M f true k0 (g.expr b)
 stmt:3*M+3≤n+3*k0→Run M f true k0 g.stmt
omit hf
theorem Run.bret {s1:Bool} {k0:Nat} {p:Pp α} (g:α→β) (hp:Run M f s1 k0 p):Run M f s1 k0 (Ps.bind p fun a=>Ps.ret (g a)):=by
 have:=Run.bind (s2:=false) hp fun a=>Run.ret (g a)
 rwa [Bool.or_false]at this
theorem Run.bind1 {k0:Nat} {p:Pp α} {g:α→Pp β} (hp:Run M f true k0 p) (hg:∀ a,Run M f false (k0+1) (g a)):Run M f true k0 (Ps.bind p g):=Run.bind hp hg
include hf
theorem Run.tokIf {s1 st c:Bool} {k0:Nat} {s:Str} {A B:Pp α} (hA:Run M f s1 (k0+1) A) (hB:Run M f st k0 B):Run M f st k0 (tokIf c s A B):=by
 cases c with
 | true=>exact Run.tok hf hA hB
 | false=>exact hB
section
variable {N:Nat} (hN:M+1≤N)
include hN
theorem Run.typP {typ:Pp Tree} {k0:Nat} (h:Run M f true (k0+1) typ):Run M f true k0 (typP N typ) :=
 Run.tok hf (Run.bret _ h) (Run.tok hf (s1:=true) (Run.need hf (Run.bret _ (h.up ou))) (Run.tok hf (Run.sigLike hf hN (h.up ou) (h.up ou)) (Run.name hf fun s=>Run.ret _)))
omit hN in
theorem Run.fieldP {mb:Pp Tree} {k0:Nat} (h:Run M f true (k0+1) mb):Run M f true k0 (fieldP mb) :=
 Run.name hf (s1:=true) fun s=>Run.bind1 h fun t=>Run.need hf (s1:=false) (Run.ret _)
theorem Run.bodyP {kind:Int} {nm:Str} {mb:Pp Tree} {k0:Nat} (h:Run M f true (k0+1) mb):Run M f true k0 (bodyP N kind nm mb) :=
 Run.need hf (s1:=true) (Run.bret _ (Run.upto hf N _ ou (Run.fieldP hf (h.up ou))))
theorem Run.typeDeclP {typ:Pp Tree} {k0:Nat} (h:Run M f true (k0+1) typ):Run M f true k0 (typeDeclP N typ) :=
 Run.name hf (s1:=true) fun nm=>Run.tok hf (Run.bodyP hf hN (Run.sig hf hN (h.up ou))) (Run.need hf (Run.bodyP hf hN (h.up ou)))
theorem Run.declP {typ block:Pp Tree} {k0:Nat} (h:Run M f true (k0+1) typ) (hb:Run M f true (k0+1) block):Run M f true k0 (declP N typ block):=by
 refine Run.tok hf (Run.typeDeclP hf hN (h.up ou)) (Run.need hf (s1:=true) (Run.tok hf (s1:=true) ?_ ?_))
 ·refine Run.name hf (s1:=true) fun recv=>Run.need hf (s1:=true) (Run.name hf (s1:=true) fun of=>Run.need hf (s1:=true) (Run.name hf (s1:=true) fun nm=>?_));exact iT
 ·refine Run.name hf (s1:=true) fun nm=>?_;exact iT
theorem Run.blockP {stmt:Pp Tree} {k0:Nat} (h:Run M f true (k0+1) stmt):Run M f true k0 (blockP N stmt) :=
 Run.need hf (s1:=true) (Run.bret _ (Run.upto hf N _ ou h))
omit hN in
theorem Run.branchP {expr block branch:Pp Tree} {k0:Nat} (he:Run M f true (k0+1) expr) (hb:Run M f true (k0+1) block) (hr:Run M f true (k0+1) branch):Run M f true k0 (branchP expr block branch):=by
 refine Run.need hf (s1:=true) (Run.bind1 he fun c=>Run.lax (Run.bind1 (hb.up ou) fun b=>Run.tok hf (s1:=true) (Run.peek ?_ ?_) (Run.ret _)))
 ·exact Run.bret _ (hr.up ou)
 ·exact Run.bret _ (hb.up ou)
omit hf hN in
theorem Run.forP {expr block:Pp Tree} {k0:Nat} (he:Run M f true k0 expr) (hb:Run M f true k0 block):Run M f true k0 (forP expr block) :=
 Run.peek (Run.bret _ hb) (Run.bind1 he fun c=>(Run.bret _ (hb.up ou)).lax)
theorem Run.assignP {expr:Pp Tree} {left:List Tree} {k0:Nat} (he:Run M f true (k0+1) expr):Run M f false k0 (assignP N expr left):=by
 refine Run.tokIf hf (Run.bret _ (Run.commas hf N _ ou he)) (Run.tokIf hf (Run.bret _ (Run.commas hf N _ ou he)) ?_);cases isC1 left with
 | true=>exact Run.peek (Run.ret _) Run.fail
 | false=>exact Run.fail
theorem Run.simpleP {typ expr:Pp Tree} {k0:Nat} (h:Run M f true (k0+1) typ) (he:Run M f true k0 expr):Run M f true k0 (simpleP N typ expr):=by
 refine Run.tok hf (s1:=true) (Run.name hf (s1:=true) fun s=>Run.bind1 (h.up ou) fun t=>Run.tok hf (Run.bret _ (he.up ou)) (Run.ret _)) ?_;refine Run.tok hf (s1:=false) (Run.peek (Run.ret _) (Run.bret _ (Run.commas hf N _ ou (he.up ou))).lax) ?_;refine Run.tok hf (Run.ret _) (Run.tok hf (Run.ret _) ?_);exact Run.bind1 (Run.commas hf N _ ou he) fun l=>Run.assignP hf hN (he.up ou)
theorem Run.exprsP {s:Str} {expr:Pp Tree} {k0:Nat} (he:Run M f true k0 expr):Run M f true k0 (exprsP N s expr):=Run.inP hf hN he
omit hN
theorem Run.cutP {expr:Pp Tree} {num:Int} {ks:List Tree} {k0:Nat} (he:Run M f true (k0+1) expr):Run M f true k0 (cutP expr num ks) :=
 Run.need hf (s1:=true) (Run.tok hf (Run.ret _) (Run.bind1 he fun e=>Run.need hf (Run.ret _)))
theorem Run.indexP {expr:Pp Tree} {n:Tree} {k0:Nat} (he:Run M f true k0 expr):Run M f true k0 (indexP expr n) :=
 Run.peek (Run.cutP hf (he.up ou)) (Run.bind1 he fun e=>Run.tok hf (Run.ret _) (Run.cutP hf (he.up ou)).lax)
include hN
theorem Run.postP {expr:Pp Tree}:∀(j k0:Nat) (n:Tree),M+1≤j+k0→Run M f true (k0+1) expr→Run M f false k0 (postP N expr j n)
 | 0,k0,n,h,he=>Run.vac ou
 | j+1,k0,n,h,he=>by
  refine Run.tok hf (s1:=true) (Run.name hf fun s=>Run.postP j _ _ ou (he.up ou)) ?_;refine Run.tok hf (s1:=true) (Run.bind1 (Run.indexP hf he) fun t=>Run.postP j _ _ ou (he.up ou)) ?_;exact Run.tok hf (s1:=true) (Run.bind1 (Run.exprsP hf hN he) fun l=>Run.postP j _ _ ou (he.up ou)) (Run.ret _)
theorem Run.primP {typ block expr:Pp Tree} {h:Bool} {k0:Nat} (ht:Run M f true (k0+1) typ) (hb:Run M f true (k0+1) block) (he:Run M f true (k0+1) expr):Run M f true k0 (primP N typ block expr h):=by
 refine Run.tkn hf (fun t=>Run.ret _) (Run.tkn hf (fun t=>Run.ret _) (Run.tok hf (Run.ret _) (Run.tok hf (Run.ret _) (Run.tok hf (Run.ret _) ?_))));refine Run.tok hf (Run.bind1 he fun t=>Run.need hf (Run.ret _)) ?_;refine Run.tok hf (s1:=true) (Run.need hf (s1:=true) (Run.bind1 (ht.up ou) fun t=>Run.need hf (s1:=true) (Run.bret _ (Run.exprsP hf hN (he.up ou))))) ?_;refine Run.tok hf (s1:=true) (Run.bind1 (Run.sig hf hN (ht.up ou)) fun s=>(Run.bret _ (hb.up ou)).lax) ?_;refine Run.name hf (s1:=false) fun s=>?_;cases h with
 | true=>exact Run.ret _
 | false=>exact Run.tok hf (Run.bret _ (Run.exprsP hf hN (he.up ou))) (Run.ret _)
theorem GRun.all : ∀(n k0:Nat),GRun (M:=M) (f:=f) (gr N n) n k0
 | 0,k0=>⟨fun h=>Run.vac ou,fun h=>Run.vac ou,fun h=>Run.vac ou,fun b h=>Run.vac ou,fun b h=>Run.vac ou,fun h=>Run.vac ou⟩
 | n+1,k0=>by
  have IH:=GRun.all n;refine⟨fun h=>?_,fun h=>?_,fun h=>?_,fun b h=>?_,fun b h=>?_,fun h=>?_⟩
  ·exact Run.typP hf hN ((IH (k0+1)).typ ou)
  ·exact Run.blockP hf hN ((IH (k0+1)).stmt ou)
  ·exact Run.branchP hf ((IH (k0+1)).expr _ ou) ((IH (k0+1)).block ou) ((IH (k0+1)).branch ou)
  ·refine Run.oneOf hf (fun op=>Run.bret _ ((IH (k0+1)).unary b ou)) ?_;exact Run.bind1 (Run.primP hf hN ((IH (k0+1)).typ ou) ((IH (k0+1)).block ou) ((IH (k0+1)).expr _ ou)) fun t=>Run.postP hf hN N _ _ ou ((IH (k0+1+1)).expr _ ou)
  ·exact Run.binL hf hN ((IH k0).unary b ou) _
  ·refine Run.peek ((IH k0).block ou) (Run.peek ((IH k0).branch ou) (Run.tok hf (Run.forP ((IH (k0+1)).expr _ ou) ((IH (k0+1)).block ou)) ?_));exact Run.bind1 (Run.simpleP hf hN ((IH (k0+1)).typ ou) ((IH k0).expr _ ou)) fun s=>Run.need hf (Run.ret _)
theorem Run.declG {n k0:Nat} (h:3*M+1≤n+3*(k0+1)):Run M f true k0 (declG N n) :=
 Run.declP hf hN ((GRun.all hf hN n (k0+1)).typ h) ((GRun.all hf hN n (k0+1)).block h)
end
omit hf in
theorem Run.progL {decl:Pp Tree}:∀(j k0:Nat),M+1≤j+k0→Run M f true k0 decl→Run M f false k0 (progL decl j)
 | 0,k0,h,hd=>Run.vac ou
 | j+1,k0,h,hd=>by
  have hr:Run M f false k0 (Ps.bind decl fun a=>Ps.bind (Ps.progL decl j) fun l=>Ps.ret (a::l)):=(Run.bind1 hd fun a=>Run.bret _ (Run.progL j (k0+1) ou (hd.up ou))).lax;refine⟨fun k h1 h2 h=>?_,fun k h1 h2 a k' h=>?_⟩
  ·unfold Ps.progL at h;cases hb:(f k).isNone with
   | true=>simp only[hb,cy]at h;cases h
   | false=>simp only[hb,cx]at h;exact hr.out k h1 h2 h
  ·unfold Ps.progL at h;cases hb:(f k).isNone with
   | true=>simp only[hb,cy]at h;injection h with _ h;subst h;exact⟨bI _,h2,fun e=>oT⟩
   | false=>simp only[hb,cx]at h;exact hr.ok k h1 h2 a k' h
theorem Run.program : Run M f false 0 (program M):=Run.progL (M+1) 0 ou (Run.declG hf (bI _) ou)
end
end Go.Ps
namespace Go.Pt
open Go.Sep Go.Ps
section
variable {N:Nat}
theorem field_f {p:Tree→Bool} {a:Tree} (h:fieldS p a=true):∃ s t,a = .mk 6 s 0 [t]∧p t=true:=by
 unfold fieldS at h;rw[bu]at h;obtain⟨h1,h2,h3⟩:=of_f h.1;obtain⟨t,h4,h5⟩:=kids1 h.2;obtain⟨k,n,u,ks⟩:=a;obtain rfl:k=6:=h1;obtain rfl:u=0:=h2;obtain rfl:ks=[t]:=h4;exact⟨n,t,rfl,h5⟩
theorem semis_eq (l:List Tree):semis (l.map toks)=(l.map fun x=>toks x++[mk [59]]).flatten:=by
 unfold semis;rw[List.map_map];rfl
theorem body_rd {kind:Int} {n0:Str} {p:Tree→Bool} {member:Pp Tree} {l:List Tree} (hl:l.length<N) (h:∀ x∈l,fieldS p x=true) (hm:∀ x∈l,∀ t∈x.kids,p t=true→Rd member (toks t) t fT) :
  Rd (bodyP N kind n0 member) (mk [123]::(semis (l.map toks)++[mk [125]])) (.mk kind n0 0 l) yes:=by
 rw[semis_eq];refine Rd.need rfl (Rd.bret (g:=fun l=>Tree.mk kind n0 0 l) (Rd.upto (S':=yes) rfl N l hl fun x hx=>?_));obtain⟨s,t,e,ht⟩:=field_f (h x hx);have hmt:=hm x hx t (by rw[e];simp[Tree.kids]) ht;have et:toks x++[mk [59]]=nm s::(toks t++[mk [59]]):=by rw[e,toks_eq];rfl
 rw[et];refine⟨?_,fun o=>⟨rfl,rfl⟩⟩;rw[e];exact Rd.name (Rd.bind hmt (Rd.need rfl Rd.ret) fun o _=>rfl)
theorem decl_rd {a:Tree} (hd':declS lim a=true) (hN:a.size≤N) {n:Nat} (hn:4*a.deep≤n):Rd (declG N n) (toks a) a yes∧∃ t l,toks a=t::l:=by
 have hlen:=len_size a;have K:∀ x∈a.kids,x.size≤N∧x.deep<a.deep∧RT N x:=fun x hx=>⟨by have:=kid_size hx;omega,dh hx,rt_all x qm⟩
 obtain⟨k,n0,u,ks⟩:=a;simp only[Tree.kids]at K hlen;unfold declG declP;by_cases e:k=2
 ·subst e;have hf:(ofB (.mk 2 n0 u ks) 2&&ks.all (fieldS Tree.isType))=true:=hd';rw[bu]at hf;obtain rfl:u=0:=(of_f hf.1).2.1;have et:toks (.mk 2 n0 0 ks)=wd [116,121,112,101]::nm n0::wd [115,116,114,117,99,116]::mk [123]::(semis (ks.map toks)++[mk [125]]):=oK;rw[et];refine⟨Rd.tokT rfl (Rd.name (Rd.tokF (fun o _=>rfl) (Rd.need rfl (body_rd ou (fun x hx=>List.all_eq_true.1 hf.2 x hx) fun x hx t ht hp=>?_)))),_,_,rfl⟩;have h1:=K x hx;exact typ_rd hp (by have:=kid_size ht;omega) (by have:=dh ht;omega)
 by_cases e:k=3
 ·subst e;have hf:(ofB (.mk 3 n0 u ks) 3&&ks.all (fieldS Tree.isSig))=true:=hd';rw[bu]at hf;obtain rfl:u=0:=(of_f hf.1).2.1;have et:toks (.mk 3 n0 0 ks)=wd [116,121,112,101]::nm n0::wd [105,110,116,101,114,102,97,99,101]::mk [123]::(semis (ks.map toks)++[mk [125]]):=oK;rw[et];refine⟨Rd.tokT rfl (Rd.name (Rd.tokT rfl (body_rd ou (fun x hx=>List.all_eq_true.1 hf.2 x hx) fun x hx t ht hp=>?_))),_,_,rfl⟩;have h1:=K x hx;exact sig_rd hp (by have:=kid_size ht;omega) (by have:=dh ht;omega)
 by_cases e:k=4
 ·subst e;have hf:(ofB (.mk 4 n0 u ks) 4&&kidsR [Tree.isSig,lim.block] none ks)=true:=hd';rw[bu]at hf;obtain rfl:u=0:=(of_f hf.1).2.1;obtain⟨s,b,rfl,hs,hb⟩:=kids2 hf.2;have et:toks (.mk 4 n0 0 [s,b])=wd [102,117,110,99]::nm n0::(toks s++toks b):=oK;rw[et];have k1:=K s ow;have k2:=K b ow;refine⟨Rd.tokF (fun o _=>rfl) (Rd.need rfl (Rd.tokF (fun o _=>rfl) (Rd.name (Rd.bind (sig_rd hs k1.1 ou) (Rd.bret (g:=fun b=>Tree.mk 4 n0 0 [s,b]) (k2.2.2.block hb n ou)) fun o _=>by rw[block_hd hb];decide)))),_,_,rfl⟩
 by_cases e:k=5
 ·subst e;have hf:(ofB (.mk 5 n0 u ks) 5&&kidsR [recvS,Tree.isSig,lim.block] none ks)=true:=hd';rw[bu]at hf;obtain rfl:u=0:=(of_f hf.1).2.1;obtain⟨r,s,b,rfl,hr,hs,hb⟩:=kids3 hf.2;have hrf:∃ rn ty,r=recvT rn ty:=by
   unfold recvS at hr;simp only[bu,bE]at hr;obtain⟨hp,h11,h10⟩:=hr;unfold Tree.isParam at hp;simp only[bu,bE]at hp;obtain⟨p1,p2,p3,p4,p5⟩:=hp;obtain⟨rk,rn,ru,rks⟩:=r;obtain rfl:rk=8:=p1;obtain rfl:ru=0:=p2;obtain⟨x,rfl⟩:=List.length_eq_one_iff.1 p4;have hx:x.isType=true:=List.all_eq_true.1 p5 x oD;have hx11:x.kind=11:=h11;rw[isType_eq,if_neg ou,if_pos (.inl hx11)]at hx;simp only[bu,bE]at hx;obtain⟨xk,xn,xu,xks⟩:=x;obtain rfl:xk=11:=hx11;obtain rfl:xn=[]:=hx.1;obtain rfl:xu=0:=hx.2.1;obtain⟨y,rfl⟩:=List.length_eq_one_iff.1 hx.2.2.1;have hy:y.isType=true:=List.all_eq_true.1 hx.2.2.2 y oD;have hy10:y.kind=10:=h10;rw[isType_eq,if_pos hy10]at hy;simp only[bu,bE]at hy;obtain⟨yk,yn,yu,yks⟩:=y;obtain rfl:yk=10:=hy10;obtain rfl:yu=0:=hy.1;obtain rfl:yks=[]:=List.length_eq_zero_iff.1 hy.2.2;exact⟨rn,yn,rfl⟩
  obtain⟨rn,ty,rfl⟩:=hrf;have et:toks (.mk 5 n0 0 [recvT rn ty,s,b])=wd [102,117,110,99]::mk [40]::nm rn::mk [42]::nm ty::mk [41]::nm n0::(toks s++toks b):=oK;rw[et];have k1:=K s ow;have k2:=K b ow;refine⟨Rd.tokF (fun o _=>rfl) (Rd.need rfl (Rd.tokT rfl (Rd.name (Rd.need rfl (Rd.name (Rd.need rfl (Rd.name (Rd.bind (sig_rd hs k1.1 ou) (Rd.bret (g:=fun b=>Tree.mk 5 n0 0 [recvT rn ty,s,b]) (k2.2.2.block hb n ou)) fun o _=>by rw[block_hd hb];decide)))))))),_,_,rfl⟩
 exfalso;unfold declS at hd';simp only[Tree.kind]at hd';simp[*]at hd'
theorem prog_rd {decl:Pp Tree}:∀(j:Nat) (ds:List Tree),ds.length<j→(∀ d∈ds,Rd decl (toks d) d yes∧∃ t l,toks d=t::l)→∀(f:F) (k:Nat),seg f k (ds.map toks).flatten→f (k+(ds.map toks).flatten.length)=none →
  progL decl j f k = .ok ds (k+(ds.map toks).flatten.length)
 | 0,ds,h,_,f,k,_,_=>by omega
 | j+1,[],_,_,f,k,_,hn=>by
  have hn':f k=none:=hn;unfold progL;simp only[hn',Option.isNone_none,cy];rfl
 | j+1,d::ds,hj,hd',f,k,hseg,hn=>by
  obtain⟨h1,t,l,ht⟩:=hd' d ow;rw[bK,List.flatten_cons]at hseg hn ⊢;obtain⟨s1,s2⟩:=seg_append.1 hseg;rw[ba,←cz]at hn ⊢;have hf:f k=some t:=by rw[ht]at s1;exact s1.1
  have q1:=h1 f k s1 rfl;have q2:=prog_rd j ds pP (fun x hx=>hd' x pb) f _ s2 hn;unfold progL;simp only[hf,Option.isNone_some,cx];rw[bind_ok q1,bind_ok q2];rfl
end
theorem seg_get (l:List Tk):seg (fun i=>l[i]?) 0 l:=by
 have:∀(r l:List Tk),seg (fun i=>(r++l)[i]?) r.length l:=by
  intro r l
  induction l generalizing r with
  | nil=>trivial
  | cons t l ih =>
   refine⟨by simp,?_⟩;have:=ih (r++[t]);rw[ba,bz]at this;exact this
 exact this [] l
theorem soundB_f {a:Tree} (h:soundB a=true):∃ ds,a = .mk 1 [] 0 ds∧a.size≤20000∧a.deep≤100∧∀ d∈ds,declS lim d=true:=by
 unfold soundB at h;simp only[bu,bE]at h;obtain⟨⟨h1,h2⟩,h3,h4⟩:=h;have h5:=bare_f h3;obtain⟨k,n,u,ks⟩:=a;obtain rfl:k=1:=of_decide_eq_true h5.1;obtain rfl:n=[]:=h5.2.1 rfl;obtain rfl:u=0:=h5.2.2 rfl;refine⟨ks,rfl,h1,h2,fun d hd=>?_⟩;have:=List.all_eq_true.1 h4 d hd
 rwa [declS_lim (by have:=dh (a:=.mk 1 [] 0 ks) hd;omega)]at this
theorem program_toks {ds:List Tree} (h:soundB (.mk 1 [] 0 ds)=true):Ps.program (ds.map toks).flatten.length (fun i=>(ds.map toks).flatten[i]?) 0 = .ok ds (ds.map toks).flatten.length:=by
 obtain⟨ds',e,h1,h2,h3⟩:=soundB_f h;injection e with _ _ _ e
 subst e;have hlen:=len_size (.mk 1 [] 0 ds);simp only[Tree.kids]at hlen;generalize hl:(ds.map toks).flatten=l;have q:=prog_rd (decl:=declG (max l.length 20000+1) (3*max l.length 20000+4)) (max l.length 20000+1) ds ou (fun d hd=>by
  have k1:=kid_size (a:=.mk 1 [] 0 ds) hd;have k2:=dh (a:=.mk 1 [] 0 ds) hd;exact decl_rd (h3 d hd) ou ou) (fun i=>l[i]?) 0 (by rw[hl];exact seg_get l) (by rw[hl];simp)
 rw[hl,co]at q;have q':Ps.program (max l.length 20000) (fun i=>l[i]?) 0 = .ok ds l.length:=q;have hr:Run l.length (fun i=>l[i]?) false 0 (Ps.program l.length):=Run.program (fun i hi=>by simp[hi]);rw[←Le.program (Nat.le_max_left l.length 20000) (fun i=>l[i]?) 0 (hr.out 0 (bI _) (cm _))];exact q'
end Go.Pt
namespace Go.Sep
def hexB (a b:UInt8):Option UInt8:=(pU 16 255 [a,b] 0).map UInt8.ofNat
def escX : Str→Option (UInt8×Nat)
 | a::b::_=>(hexB a b).map fun x=>(x,3)
 | _=>none
def escB : Str→Option (UInt8×Nat)
 | []=>none
 | c::r=>if c.toNat=110 then some (10,1)else if c.toNat=116 then some (9,1)else if c.toNat=34∨c.toNat=92 then some (c,1)else if c.toNat=120 then escX r else none
def litF : Nat→Str→Option (Str×Nat)
 | 0,_=>none
 | _+1,[]=>none
 | f+1,c::r=>if c.toNat=34 then some ([],1)else if c.toNat=10 then none else if c.toNat=92 then (match escB r with
  | none=>none
  | some (b,n)=>(litF f (r.drop n)).map fun p=>(b::p.1,p.2+1+n))else (litF f r).map fun p=>(c::p.1,p.2+1)
def lit (r:Str):Option (Str×Nat):=litF (r.length+1) r
theorem escX_pos {r:Str} {b:UInt8} {n:Nat} (h:escX r=some (b,n)):1≤n∧n≤r.length+1:=by
 match r,h with
 | a::b'::r',h =>
  replace h:(hexB a b').map (fun x=>(x,3))=some (b,n):=h;cases hx:hexB a b' with
  | none=>rw[hx]at h;cases h
  | some x=>rw[hx]at h;cases h;simp
theorem escB_pos {r:Str} {b:UInt8} {n:Nat} (h:escB r=some (b,n)):1≤n∧n≤r.length:=by
 cases r with
 | nil=>cases h
 | cons c r =>
  rw[escB]at h;by_cases h1:c.toNat=110
  ·rw[if_pos h1]at h;cases h;simp
  ·rw[if_neg h1]at h;by_cases h2:c.toNat=116
   ·rw[if_pos h2]at h;cases h;simp
   ·rw[if_neg h2]at h;by_cases h3:c.toNat=34∨c.toNat=92
    ·rw[if_pos h3]at h;cases h;simp
    ·rw[if_neg h3]at h;by_cases h4:c.toNat=120
     ·rw[if_pos h4]at h;exact escX_pos h
     ·rw[if_neg h4]at h;cases h
theorem litF_fuel : ∀(f g:Nat) (r:Str),r.length<f→r.length<g→litF f r=litF g r
 | 0,_,_,h,_=>by omega
 | _,0,_,_,h=>by omega
 | f+1,g+1,[],_,_=>rfl
 | f+1,g+1,c::r,h1,h2=>by
  simp only[be]at h1 h2;rw[litF,litF];split
  ·rfl
  ·split
   ·rfl
   ·split
    ·cases he:escB r with
     | none=>rfl
     | some p =>
      obtain⟨b,n⟩:=p;have hl:(r.drop n).length≤r.length:=ow;simp only;rw[litF_fuel f g (r.drop n) ou ou]
    ·rw[litF_fuel f g r ou ou]
theorem litF_lit {f:Nat} {r:Str} (h:r.length<f):litF f r=lit r:=litF_fuel _ _ _ h ou
theorem lit_quote {c:UInt8} {r:Str} (h:c.toNat=34):lit (c::r)=some ([],1):=by rw[lit,litF,if_pos h]
theorem lit_nl {c:UInt8} {r:Str} (h:c.toNat=10):lit (c::r)=none:=by rw[lit,litF,if_neg ou,if_pos h]
theorem lit_esc {c:UInt8} {r:Str} (h:c.toNat=92):lit (c::r)=match escB r with
  | none=>none
  | some (b,n)=>(lit (r.drop n)).map fun p=>(b::p.1,p.2+1+n):=by
 rw[lit,litF,if_neg ou,if_neg ou,if_pos h];cases he:escB r with
 | none=>rfl
 | some p =>
  obtain⟨b,n⟩:=p;simp only;rw[litF_lit oN]
theorem lit_esc_none {c:UInt8} {r:Str} (h:c.toNat=92) (h2:escB r=none):lit (c::r)=none:=by
 rw[lit_esc h,h2]
theorem lit_esc_some {c:UInt8} {r:Str} {b:UInt8} {n:Nat} (h:c.toNat=92) (h2:escB r=some (b,n)):lit (c::r)=(lit (r.drop n)).map fun p=>(b::p.1,p.2+1+n):=by
 rw[lit_esc h,h2]
theorem lit_one {c:UInt8} {r:Str} (h1:c.toNat≠34) (h2:c.toNat≠10) (h3:c.toNat≠92):lit (c::r)=(lit r).map fun p=>(c::p.1,p.2+1):=by
 rw[lit,litF,if_neg h1,if_neg h2,if_neg h3,litF_lit ow]
theorem esc_n {c:UInt8} {r:Str} (h:c.toNat=110):escB (c::r)=some (10,1):=by rw[escB,if_pos h]
theorem esc_t {c:UInt8} {r:Str} (h:c.toNat=116):escB (c::r)=some (9,1):=by rw[escB,if_neg ou,if_pos h]
theorem esc_self {c:UInt8} {r:Str} (h:c.toNat=34∨c.toNat=92):escB (c::r)=some (c,1):=by rw[escB,if_neg ou,if_neg ou,if_pos h]
theorem esc_x {c a b:UInt8} {r:Str} (h:c.toNat=120):escB (c::a::b::r)=(hexB a b).map fun x=>(x,3):=by rw[escB,if_neg ou,if_neg ou,if_neg ou,if_pos h,escX]
theorem esc_xs {c:UInt8} {r:Str} (h:c.toNat=120) (h2:r.length<2):escB (c::r)=none:=by
 rw[escB,if_neg ou,if_neg ou,if_neg ou,if_pos h]
 match r,h2 with
 | [],_=>rfl
 | [_],_=>rfl
theorem esc_no {c:UInt8} {r:Str} (h1:c.toNat≠110) (h2:c.toNat≠116) (h3:c.toNat≠34) (h4:c.toNat≠92) (h5:c.toNat≠120):escB (c::r)=none:=by
 rw[escB,if_neg h1,if_neg h2,if_neg ou,if_neg h5]
def LitAt (s:Str) (j i:Nat) (acc:Str) (res:Option (Str×Nat)):Prop:=res=(lit (s.drop i)).map fun p=>(acc++p.1,i-j+p.2)
theorem LitAt.start (s:Str) (i:Nat):LitAt s i i [] (lit (s.drop i)):=by
 unfold LitAt;cases lit (s.drop i)<;>simp
theorem LitAt.end_ {s:Str} {j i:Nat} {acc:Str} {res:Option (Str×Nat)} (h:LitAt s j i acc res) (hi:s.length≤i):res=none:=by
 rw[h,cj hi];rfl
theorem LitAt.quote {s:Str} {j i:Nat} {acc:Str} {res:Option (Str×Nat)} (h:LitAt s j i acc res) (hi:i<s.length) (hc:s[i].toNat=34):res=some (acc,i-j+1):=by
 rw[h,bV hi,lit_quote hc];simp
theorem LitAt.nl {s:Str} {j i:Nat} {acc:Str} {res:Option (Str×Nat)} (h:LitAt s j i acc res) (hi:i<s.length) (hc:s[i].toNat=10):res=none:=by
 rw[h,bV hi,lit_nl hc];rfl
theorem LitAt.bad {s:Str} {j i:Nat} {acc:Str} {res:Option (Str×Nat)} (h:LitAt s j i acc res) (hi:i<s.length) (hc:s[i].toNat=92) (he:escB (s.drop (i+1))=none):res=none:=by
 rw[h,bV hi,lit_esc_none hc he];rfl
theorem LitAt.esc {s:Str} {j i:Nat} {acc:Str} {res:Option (Str×Nat)} {b:UInt8} {n:Nat} (h:LitAt s j i acc res) (hj:j≤i) (hi:i<s.length) (hc:s[i].toNat=92) (he:escB (s.drop (i+1))=some (b,n)):LitAt s j (i+1+n) (acc++[b]) res:=by
 unfold LitAt at h ⊢;rw[h,bV hi,lit_esc_some hc he,List.drop_drop,Option.map_map]
 congr 1
 funext p
 exact jh
theorem LitAt.one {s:Str} {j i:Nat} {acc:Str} {res:Option (Str×Nat)} (h:LitAt s j i acc res) (hj:j≤i) (hi:i<s.length) (h1:s[i].toNat≠34) (h2:s[i].toNat≠10) (h3:s[i].toNat≠92):LitAt s j (i+1) (acc++[s[i]]) res:=by
 unfold LitAt at h ⊢;rw[h,bV hi,lit_one h1 h2 h3,Option.map_map]
 congr 1
 funext p
 exact jh
theorem pU_le {base maxV:Nat}:∀(s:Str) (n v:Nat),n≤maxV→pU base maxV s n=some v→v≤maxV
 | [],n,v,h,e=>by cases e;exact h
 | c::cs,n,v,h,e=>by
  rw[pU]at e;split at e
  ·cases e
  ·split at e
   ·rename_i hc;exact pU_le cs _ v hc.2 e
   ·cases e
end Go.Sep
namespace Go.Sep
open Go.Proofs
attribute [local irreducible] TC TO OT TCallX TCall DO DOt thenQ blockQ retQ At
structure LitS where
 m:Mem
 q:Option Addr
 sl:Sl
 i:Nat
 acc:Str
def litR (o:Option (Str×Nat)):Value:=match o with
 | some (t,n)=>.tuple ⟨[strV t,.int .i64 ((n+1:Nat):Int)]⟩
 | none=>.tuple ⟨[strV [],.int .i64 0]⟩
theorem literal_law (m : Mem) (L : List Item) (s : Str) (h0 : 0 < s.length) (hl : s.length ≤ 70000) (hE : Errs m) : TCall Tryz.prog 107 ⟨[strV s]⟩ m L (Made m L fun r _=>r=litR (lit (s.drop 1))):=by
 unfold TCall
 refine cJ Tryz.func107 rfl 76 rfl ?_
 refine uA ?_
 refine qs rfl (OT.allocT tab rfl rfl rfl rfl (fun bd m1 hm1 ht1 => ?_))
 refine uA ?_
 refine cW (size:=1) ?_
 refine TC.perm pf1 ?_
 refine cG (ι:=LitS) [0,4] rfl (fun x=>[(5, .int .i64 (x.i : Int))]) (fun x=>x.m) (fun x => .cells bd 0 [.pointer x.q,x.sl.v] :: tok x.sl 1 :: L) (fun x=>m ≤ x.m∧1 ≤ x.i∧x.i ≤ s.length∧BOk x.m bd x.q x.sl x.acc∧x.acc.length ≤ x.i∧LitAt s 1 x.i x.acc (lit (s.drop 1))) (fun x=>s.length - x.i) ⟨m1,none,⟨none,0,0⟩,1,[]⟩ uH rfl uS ⟨hm1,bI _,h0,⟨⟨_,ht1,by kernel_rfl⟩, .inl rfl,cR _ _,cX,fun _ _ e=>(by cases e),fun _=>rfl⟩,cm _,LitAt.start s 1⟩ ?_
 rintro ⟨m1,q,sl,i,acc⟩ ⟨hm,hi1,hi,hB,hacc,hI⟩
 replace hm : m ≤ m1:=hm
 replace hi1 : 1 ≤ i:=hi1
 replace hi : i ≤ s.length:=hi
 replace hB : BOk m1 bd q sl acc:=hB
 replace hacc : acc.length ≤ i:=hacc
 replace hI : LitAt s 1 i acc (lit (s.drop 1)):=hI
 show TC _ _ _ ((5, .int .i64 (i : Int)) :: _) _ m1 (.cells bd 0 [.pointer q,sl.v] :: tok sl 1 :: L) _
 refine uA ?_
 refine TC.condP rfl (fun g1 => ?_) (fun g1 => ?_)
 ·have hlt : i < s.length:=by omega
  have hx : s[i]? = some s[i]:=by simp [hlt]
  refine uA ?_
  refine qs rfl (OT.sidx tab i rfl rfl rfl rfl rfl rfl rfl hx ?_)
  refine uA ?_
  refine TC.condP rfl (fun c1 => ?_) (fun c1 => ?_)
  ·refine uA ?_
   refine oC goes81 ((string_law _ _ bd q sl acc hB).x ?_);
   rintro _ _ _ ⟨rfl,rfl,rfl⟩
   refine uA ?_
   refine qs rfl (OT.arith (r':=((i + 1 : Nat) : Int)) rfl rfl rfl rfl rfl rfl rfl (by omega) ?_)
   refine uA ?_
   refine cH rfl uS ⟨hm,rfl, ?_⟩
   rw [hI.quote hlt (by omega)]
   show Value.tuple ⟨[strV acc, .int .i64 ((i + 1 : Nat) : Int)]⟩ = .tuple ⟨[strV acc, .int .i64 ((i - 1 + 1 + 1 : Nat) : Int)]⟩
   rw [show i - 1 + 1 + 1=i + 1 by omega]
  refine uA ?_
  refine TC.condP rfl (fun c2 => ?_) (fun c2 => ?_)
  ·refine uA ?_
   refine cH rfl uS ⟨hm,rfl, ?_⟩
   rw [hI.nl hlt (by omega)];rfl
  refine uA ?_
  refine TC.condP rfl (fun c3 => ?_) (fun c3 => ?_)
  ·refine uA ?_
   refine qs rfl (OT.arith (r':=((i + 1 : Nat) : Int)) rfl rfl rfl rfl rfl rfl rfl (by omega) ?_)
   refine uA ?_
   refine TC.condP rfl (fun c4 => ?_) (fun c4 => ?_)
   ·refine uA ?_
    refine cH rfl uS ⟨hm,rfl, ?_⟩
    rw [hI.bad hlt (by omega) (by rw [cj (by omega)];rfl)];rfl
   have hlt2 : i + 1 < s.length:=by omega
   have hx2 : s[i + 1]? = some s[i + 1]:=by simp [hlt2]
   have hd2:=bV hlt2
   refine uA ?_
   refine qs rfl (OT.sidx tab (i + 1) rfl rfl rfl rfl rfl rfl rfl hx2 ?_)
   refine uA ?_
   refine TC.condP rfl (fun d1 => ?_) (fun d1 => ?_)
   ·have he : escB (s.drop (i + 1))=some (10,1):=by rw [hd2];exact esc_n (by omega)
    refine uA ?_
    refine oC goes130 ((writeByte_law _ _ bd q sl acc 10 hB (by omega)).x ?_);
    rintro _ m2 _ ⟨hm2,sl2,q2,rfl,hB2⟩
    refine uA ?_
    refine qs rfl (OT.arith (r':=(((i + 1) + 1 : Nat) : Int)) rfl rfl rfl rfl rfl rfl rfl (by omega) ?_)
    refine uA ?_
    exact ⟨⟨m2,q2,sl2,(i + 1) + 1,acc++[10]⟩,uH,uH,rfl,rfl,uS,⟨cC hm hm2,by show _ ≤ (i + 1) + 1;omega,by show (i + 1) + 1 ≤ _;omega,hB2,by show (acc++[_]).length ≤ (i + 1) + 1;rw [ba];simp only [be,bg];omega,(hI.esc hi1 hlt (by omega) he)⟩,by show s.length - ((i + 1) + 1) < s.length - i;omega⟩
   refine uA ?_
   refine TC.condP rfl (fun d2 => ?_) (fun d2 => ?_)
   ·have he : escB (s.drop (i + 1))=some (9,1):=by rw [hd2];exact esc_t (by omega)
    refine uA ?_
    refine oC goes130 ((writeByte_law _ _ bd q sl acc 9 hB (by omega)).x ?_);
    rintro _ m2 _ ⟨hm2,sl2,q2,rfl,hB2⟩
    refine uA ?_
    refine qs rfl (OT.arith (r':=(((i + 1) + 1 : Nat) : Int)) rfl rfl rfl rfl rfl rfl rfl (by omega) ?_)
    refine uA ?_
    exact ⟨⟨m2,q2,sl2,(i + 1) + 1,acc++[9]⟩,uH,uH,rfl,rfl,uS,⟨cC hm hm2,by show _ ≤ (i + 1) + 1;omega,by show (i + 1) + 1 ≤ _;omega,hB2,by show (acc++[_]).length ≤ (i + 1) + 1;rw [ba];simp only [be,bg];omega,(hI.esc hi1 hlt (by omega) he)⟩,by show s.length - ((i + 1) + 1) < s.length - i;omega⟩
   refine uA ?_
   refine TC.condP rfl (fun d3 => ?_) (fun d3 => ?_)
   ·have he : escB (s.drop (i + 1))=some (s[i + 1],1):=by rw [hd2];exact esc_self (by omega)
    refine uA ?_
    refine TC.condP rfl (fun _ => ?_) (fun h=>absurd d3 h)
    refine uA ?_
    refine qs rfl (OT.sidx tab (i + 1) rfl rfl rfl rfl rfl rfl rfl hx2 ?_)
    refine uA ?_
    refine oC goes130 ((writeByte_law _ _ bd q sl acc s[i + 1] hB (by omega)).x ?_);
    rintro _ m2 _ ⟨hm2,sl2,q2,rfl,hB2⟩
    refine uA ?_
    refine qs rfl (OT.arith (r':=(((i + 1) + 1 : Nat) : Int)) rfl rfl rfl rfl rfl rfl rfl (by omega) ?_)
    refine uA ?_
    exact ⟨⟨m2,q2,sl2,(i + 1) + 1,acc++[s[i + 1]]⟩,uH,uH,rfl,rfl,uS,⟨cC hm hm2,by show _ ≤ (i + 1) + 1;omega,by show (i + 1) + 1 ≤ _;omega,hB2,by show (acc++[_]).length ≤ (i + 1) + 1;rw [ba];simp only [be,bg];omega,(hI.esc hi1 hlt (by omega) he)⟩,by show s.length - ((i + 1) + 1) < s.length - i;omega⟩
   refine uA ?_
   refine TC.condP rfl (fun d4 => ?_) (fun d4 => ?_)
   ·have he : escB (s.drop (i + 1))=some (s[i + 1],1):=by rw [hd2];exact esc_self (by omega)
    refine uA ?_
    refine qs rfl (OT.sidx tab (i + 1) rfl rfl rfl rfl rfl rfl rfl hx2 ?_)
    refine uA ?_
    refine oC goes130 ((writeByte_law _ _ bd q sl acc s[i + 1] hB (by omega)).x ?_);
    rintro _ m2 _ ⟨hm2,sl2,q2,rfl,hB2⟩
    refine uA ?_
    refine qs rfl (OT.arith (r':=(((i + 1) + 1 : Nat) : Int)) rfl rfl rfl rfl rfl rfl rfl (by omega) ?_)
    refine uA ?_
    exact ⟨⟨m2,q2,sl2,(i + 1) + 1,acc++[s[i + 1]]⟩,uH,uH,rfl,rfl,uS,⟨cC hm hm2,by show _ ≤ (i + 1) + 1;omega,by show (i + 1) + 1 ≤ _;omega,hB2,by show (acc++[_]).length ≤ (i + 1) + 1;rw [ba];simp only [be,bg];omega,(hI.esc hi1 hlt (by omega) he)⟩,by show s.length - ((i + 1) + 1) < s.length - i;omega⟩
   refine uA ?_
   refine TC.condP rfl (fun d5 => ?_) (fun d5 => ?_)
   ·refine uA ?_
    refine qs rfl (OT.arith (r':=((i + 3 : Nat) : Int)) rfl rfl rfl rfl rfl rfl rfl (by omega) ?_)
    refine uA ?_
    refine TC.condP rfl (fun d6 => ?_) (fun d6 => ?_)
    ·refine uA ?_
     refine cH rfl uS ⟨hm,rfl, ?_⟩
     rw [hI.bad hlt (by omega) (by rw [hd2];exact esc_xs (by omega) (by rw [bX];omega))];rfl
    have hl3 : i + 2 < s.length:=by omega
    have hl4 : i + 3 < s.length:=by omega
    have hcut : (s.take (i + 4)).drop (i + 2)=[s[i + 2],s[i + 3]]:=by
     rw [cp hl4,cp hl3,bz,List.drop_append,cj (by simp;omega)]
     simp [Nat.min_eq_left (show i + 2 ≤ s.length by omega)]
    have hd3 : s.drop (i + 1)=s[i + 1] :: s[i + 2] :: s[i + 3] :: s.drop (i + 4):=by
     rw [hd2,bV hl3,bV hl4]
    refine uA ?_
    refine qs rfl (OT.arith (r':=((i + 2 : Nat) : Int)) rfl rfl rfl rfl rfl rfl rfl (by omega) ?_)
    refine uA ?_
    refine qs rfl (OT.arith (r':=((i + 4 : Nat) : Int)) rfl rfl rfl rfl rfl rfl rfl (by omega) ?_)
    refine qs rfl (OT.sub tab (i + 2) (i + 4) rfl rfl rfl rfl rfl rfl rfl (.inr rfl) (.inr rfl) (by omega) (by omega) ?_)
    rw [hcut]
    refine oC goes143 ((parseUint_law _ _ [s[i + 2],s[i + 3]] (by simp) (by simp) (hE.mono hm)).x ?_);
    rintro _ m3 _ ⟨hm3,rfl,⟨v,e1,rfl⟩ | ⟨e1,v,a,b,rfl⟩⟩
    ·have hv:=pU_le _ _ _ (cm _) e1
     have he : escB (s.drop (i + 1))=some (UInt8.ofNat v,3):=by rw [hd3,esc_x (by omega),hexB,e1];rfl
     refine uA ?_
     refine qs rfl (OT.errNe tab rfl rfl rfl rfl (.inl rfl) rfl rfl ?_)
     refine uA ?_
     refine qs rfl (OT.conv tab rfl rfl rfl rfl rfl rfl (r:=((UInt8.ofNat v).toNat : Int)) (by rw [u8_in (by omega) (by omega),UInt8.toNat_ofNat',Nat.mod_eq_of_lt (by omega)]) ?_)
     replace hB:=hB.mono hm3
     refine oC goes130 ((writeByte_law _ _ bd q sl acc (UInt8.ofNat v) hB (by omega)).x ?_);
     rintro _ m2 _ ⟨hm2,sl2,q2,rfl,hB2⟩
     refine uA ?_
     refine qs rfl (OT.arith (r':=((i + 3 : Nat) : Int)) rfl rfl rfl rfl rfl rfl rfl (by omega) ?_)
     refine uA ?_
     refine qs rfl (OT.arith (r':=(((i + 3) + 1 : Nat) : Int)) rfl rfl rfl rfl rfl rfl rfl (by omega) ?_)
     refine uA ?_
     exact ⟨⟨m2,q2,sl2,(i + 3) + 1,acc++[(UInt8.ofNat v)]⟩,uH,uH,rfl,rfl,uS,⟨cC hm (cC hm3 hm2),by show _ ≤ (i + 3) + 1;omega,by show (i + 3) + 1 ≤ _;omega,hB2,by show (acc++[_]).length ≤ (i + 3) + 1;rw [ba];simp only [be,bg];omega,(hI.esc hi1 hlt (by omega) he)⟩,by show s.length - ((i + 3) + 1) < s.length - i;omega⟩
    ·refine uA ?_
     refine qs rfl (OT.errNe tab rfl rfl rfl rfl (.inr ⟨_,_,rfl⟩) rfl rfl ?_)
     refine uA ?_
     refine cH rfl uS ⟨cC hm hm3,rfl, ?_⟩
     rw [hI.bad hlt (by omega) (by rw [hd3,esc_x (by omega),hexB,e1];rfl)];rfl
   ·refine uA ?_
    refine cH rfl uS ⟨hm,rfl, ?_⟩
    rw [hI.bad hlt (by omega) (by rw [hd2];exact esc_no (by omega) (by omega) (by omega) (by omega) (by omega))];rfl
  ·refine uA ?_
   refine qs rfl (OT.sidx tab i rfl rfl rfl rfl rfl rfl rfl hx ?_)
   refine oC goes130 ((writeByte_law _ _ bd q sl acc s[i] hB (by omega)).x ?_);
   rintro _ m2 _ ⟨hm2,sl2,q2,rfl,hB2⟩
   refine uA ?_
   refine qs rfl (OT.arith (r':=((i + 1 : Nat) : Int)) rfl rfl rfl rfl rfl rfl rfl (by omega) ?_)
   refine uA ?_
   exact ⟨⟨m2,q2,sl2,i + 1,acc++[s[i]]⟩,uH,uH,rfl,rfl,uS,⟨cC hm hm2,by show _ ≤ i + 1;omega,by show i + 1 ≤ _;omega,hB2,by show (acc++[_]).length ≤ i + 1;rw [ba];simp only [be,bg];omega,(hI.one hi1 hlt (by omega) (by omega) (by omega))⟩,by show s.length - (i + 1) < s.length - i;omega⟩
 ·refine uA ?_
  refine cH rfl uS ⟨hm,rfl, ?_⟩
  rw [hI.end_ (by omega)];rfl
end Go.Sep
namespace Go.Sep
def isSp (c:UInt8):Bool:=decide (c.toNat=9)||(decide (c.toNat=10)||(decide (c.toNat=13)||decide (c.toNat=32)))
def blk : Bool→Str→Nat
 | _,[]=>0
 | true,c::r=>if c.toNat=10 then 1+blk false r else 1+blk true r
 | false,c::r=>if isSp c=true then 1+blk false r else if c.toNat=47∧r.head? = some 47 then 1+blk true r else 0
theorem blk_le : ∀(b:Bool) (s:Str),blk b s≤s.length
 | _,[]=>by simp[blk]
 | true,c::r=>by
  have h1:=blk_le false r;have h2:=blk_le true r;rw[blk,be];split<;>omega
 | false,c::r=>by
  have h1:=blk_le false r;have h2:=blk_le true r;rw[blk,be];split
  ·omega
  ·split<;>omega
theorem isSp_ix_all : ∀ n:Fin 256,decide (0≤Lib.indexByte [9,10,13,32] (UInt8.ofNat n.val))=isSp (UInt8.ofNat n.val):=by decide +kernel
theorem isSp_ix (c:UInt8):decide (0≤Lib.indexByte [9,10,13,32] c)=isSp c:=by
 have:=isSp_ix_all ⟨c.toNat,c.toNat_lt⟩;simpa using this
theorem blk_line : ∀ l:Str,(Lib.indexByte l 10 = -1∧blk true l=l.length)∨∃ k:Nat,k<l.length∧Lib.indexByte l 10=(k:Int)∧blk true l=k+blk false (l.drop k)∧(l.drop k).head? = some 10
 | [] =>.inl ⟨rfl,rfl⟩
 | c::r=>by
  by_cases hc:c=10
  ·subst hc;refine .inr ⟨0,by simp,rfl,?_,rfl⟩;rw[cA,co,blk,blk,if_pos ov,if_pos ov]
  ·have hn:c.toNat≠10:=fun e=>hc (UInt8.toNat_inj.1 e);have hb:(c==10)=false:=by simpa using hc
   rw[Lib.indexByte,blk,if_neg hn,hb];simp only[Bool.false_eq_true,if_false];rcases blk_line r with ⟨h1,h2⟩ | ⟨k,h1,h2,h3,h4⟩
   ·refine .inl ⟨?_,?_⟩
    ·rw[h1];rfl
    ·rw[h2,be];omega
   ·refine .inr ⟨k+1,by simpa using h1,?_,?_,by simpa using h4⟩
    ·rw[h2];have:((k:Int) == -1)=false:=by
      simp only[beq_eq_false_iff_ne];omega
     rw[this];simp
    ·rw[h3];simp;omega
theorem blk_rem {c:UInt8} {r:Str} (h1:c.toNat=47) (h2:r.head? = some 47):blk false (c::r)=blk true (c::r):=by
 rw[blk,blk,if_neg (by unfold isSp;simp[h1]),if_pos ⟨h1,h2⟩,if_neg ou]
structure Tok where
 kind:Int
 text:Str
 num:Int
 at_:Int
 deriving DecidableEq
def markL : List Str:=[[58,61],[61,61],[33,61],[60,61],[62,61],[38,38],[124,124],[40],[41],[123],[125],[91],[93],[44],[59],[46],[58],[61],[60],[62],[43],[45],[42],[47],[37],[38],[33]]
def tokD : Str→Option (Tok×Nat)
 | []=>none
 | c::r =>
  if ltr c=true then (if 64<spanOf lod (c::r)then none else some (⟨if (c::r).take (spanOf lod (c::r))∈wordL then 5 else 1,(c::r).take (spanOf lod (c::r)),0,0⟩,spanOf lod (c::r)))
  else if dgt c=true then (match numOf ((c::r).take (spanOf lod (c::r)))with
   | none=>none
   | some v=>if (c.toNat=48∧1<spanOf lod (c::r))∨spanOf dgt (c::r)≠spanOf lod (c::r)then none else some (⟨2,[],v,0⟩,spanOf lod (c::r)))
  else if c.toNat=34 then (match lit r with
   | none=>none
   | some (t,n)=>if 1024<t.length then none else some (⟨3,t,0,0⟩,n+1))
  else match markL.find? (fun p=>prefixB p (c::r))with
   | none=>none
   | some p=>some (⟨4,p,0,0⟩,p.length)
theorem span_pos {p:UInt8→Bool} {c:UInt8} {r:Str} (h:p c=true):0<spanOf p (c::r):=by
 rw[spanOf,List.takeWhile_cons_of_pos h];simp
theorem span_le (p:UInt8→Bool) (s:Str):spanOf p s≤s.length:=by
 unfold spanOf
 induction s with
 | nil=>simp
 | cons x xs ih =>
  rw[List.takeWhile_cons];split<;>simp;exact ih
theorem litF_le : ∀(f:Nat) (r t:Str) (n:Nat),litF f r=some (t,n)→1≤n∧n≤r.length
 | 0,_,_,_,h=>by cases h
 | f+1,[],_,_,h=>by cases h
 | f+1,c::r,t,n,h=>by
  rw[litF]at h;split at h
  ·cases h;simp
  ·split at h
   ·cases h
   ·split at h
    ·cases he:escB r with
     | none=>rw[he]at h;cases h
     | some p =>
      obtain⟨b,k⟩:=p;rw[he]at h;simp only at h;cases hl:litF f (r.drop k)with
      | none=>rw[hl]at h;cases h
      | some q =>
       obtain⟨t',n'⟩:=q;rw[hl]at h;simp only[cv,bD,Prod.mk.injEq]at h;have h1:=litF_le f _ _ _ hl;have h2:=escB_pos he;have h3:(r.drop k).length=r.length-k:=ow;simp only[be];omega
    ·cases hl:litF f r with
     | none=>rw[hl]at h;cases h
     | some q =>
      obtain⟨t',n'⟩:=q;rw[hl]at h;simp only[cv,bD,Prod.mk.injEq]at h;have h1:=litF_le f _ _ _ hl;simp only[be];omega
theorem lit_le {r t:Str} {n:Nat} (h:lit r=some (t,n)):1≤n∧n≤r.length:=litF_le _ _ _ _ h
theorem prefixB_len {p s:Str} (h:prefixB p s=true):p.length≤s.length∧s.take p.length=p:=by
 unfold prefixB at h;rw[bu]at h;exact⟨of_decide_eq_true h.1,of_decide_eq_true h.2⟩
theorem markL_len : ∀ p∈markL,1≤p.length:=by decide
theorem tokD_le {s:Str} {t:Tok} {n:Nat} (h:tokD s=some (t,n)):1≤n∧n≤s.length:=by
 cases s with
 | nil=>cases h
 | cons c r =>
  have hs:=span_le lod (c::r);rw[tokD]at h;by_cases h1:ltr c=true
  ·rw[if_pos h1]at h;have:lod c=true:=by unfold lod;rw[h1];rfl
   have:=span_pos (r:=r) this;split at h
   ·cases h
   ·cases h;omega
  ·rw[if_neg h1]at h;by_cases h2:dgt c=true
   ·rw[if_pos h2]at h;have:lod c=true:=by unfold lod;rw[h2];simp
    have:=span_pos (r:=r) this;split at h
    ·cases h
    ·split at h
     ·cases h
     ·cases h;omega
   ·rw[if_neg h2]at h;by_cases h3:c.toNat=34
    ·rw[if_pos h3]at h;cases hl:lit r with
     | none=>rw[hl]at h;cases h
     | some p =>
      obtain⟨t',n'⟩:=p;rw[hl]at h;simp only at h;have:=lit_le hl;split at h
      ·cases h
      ·cases h;simp;omega
    ·rw[if_neg h3]at h;cases hf:markL.find? (fun p=>prefixB p (c::r))with
     | none=>rw[hf]at h;cases h
     | some p =>
      rw[hf]at h;cases h;have:=prefixB_len (p:=p) (s:=c::r) (List.find?_some (p:=fun p=>prefixB p (c::r)) hf);exact⟨markL_len p (List.mem_of_find?_eq_some hf),this.1⟩
def cutF : Nat→Str→Nat→Nat→Except (Nat×Int) (List Tok)
 | 0,_,_,_=>.error (0,0)
 | f+1,r,at_,k=>if r.drop (blk false r)=[]then .ok []else if k=20000 then .error (at_+blk false r,4)else match tokD (r.drop (blk false r))with
  | none=>.error (at_+blk false r,3)
  | some (t,n)=>match cutF f ((r.drop (blk false r)).drop n) (at_+blk false r+n) (k+1)with
   | .error e=>.error e
   | .ok l=>.ok (⟨t.kind,t.text,t.num,((at_+blk false r:Nat):Int)⟩::l)
structure Cut where
 list:List Tok
 at_:Nat
 e:Int
 deriving DecidableEq
def Cut.of : Except (Nat×Int) (List Tok)→Cut
 | .ok l=>⟨l,0,0⟩
 | .error (a,e)=>⟨[],a,e⟩
def scanD (s:Str):Cut:=if 65536<s.length then ⟨[],0,13⟩else .of (cutF (s.length+1) s 0 0)
end Go.Sep
