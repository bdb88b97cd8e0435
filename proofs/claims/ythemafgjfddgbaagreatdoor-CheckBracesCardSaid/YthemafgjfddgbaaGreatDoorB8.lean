/-
  Part 8 of the proof: library, walks and plain laws.
-/
import Derived.Lib.Bytealg
import Derived.Test.YthemafgjfddgbaaGreatDoorB7
set_option linter.unusedVariables false
set_option linter.unusedSimpArgs false
set_option maxHeartbeats 6400000
namespace Go.Sep
open Go.Proofs
attribute [local irreducible] TC TO OT TCallX TCall DO DOt thenQ blockQ retQ At
theorem indexByte_lite (m:Mem) (L:List Item) (s:Str) (c:UInt8):TCall Tryz.prog 138 ⟨[strV s,byteV c]⟩ m L (Ret (.int .i64 (Lib.indexByte s c)) m L):=by
 unfold TCall;refine ak Tryz.func138 8 ?_;refine qs rfl (OT.callX (E:=Extern.BytealgIndexByte.indexByte) (vs:=[strV s,byteV c]) (v:=.int .i64 (Lib.indexByte s c)) rfl rfl rfl rfl rfl Tryz.func171 uK uK uK uK (fun w _=>?_) ?_)
 ·have:=Lib.run_indexByteString (P:=Tryz.prog) ⟨⟨s⟩⟩ (c.toNat:Int) w;simpa using this
 ·exact eS
theorem indexByte_law (m:Mem) (L:List Item) (s:Str) (c:UInt8):TCall Tryz.prog 98 ⟨[strV s,byteV c]⟩ m L (Ret (.int .i64 (Lib.indexByte s c)) m L):=by
 unfold TCall;refine ak Tryz.func98 8 ?_;refine au goes138 (indexByte_lite _ _ s c) ?_;exact eV
def prefixB (p s:Str):Bool:=decide (p.length≤s.length)&&decide (s.take p.length=p)
theorem prefix_lite (m:Mem) (L:List Item) (s p:Str):TCall Tryz.prog 139 ⟨[strV s,strV p]⟩ m L (Ret (.bool (prefixB p s)) m L):=by
 unfold TCall;refine ak Tryz.func139 18 ?_
 (first | refine TO.splitP rfl rfl (fun e1=>?_) (fun e1=>?_) | refine cL rfl rfl (fun e1=>?_) (fun e1=>?_) | refine TO.split rfl rfl (fun e1=>?_) (fun e1=>?_))
 ·refine uA ?_;refine qs rfl (OT.sub tab 0 p.length rfl rfl rfl rfl rfl rfl rfl (.inl ⟨rfl,rfl⟩) (.inr rfl) (cn _) mv ?_);refine jT ?_;rw[prefixB,bQ (show p.length≤s.length by omega)];rfl
 ·refine uA ?_;refine jy ?_;rw[prefixB,bR (show ¬p.length≤s.length by omega)];rfl
theorem prefix_law (m:Mem) (L:List Item) (s p:Str):TCall Tryz.prog 99 ⟨[strV s,strV p]⟩ m L (Ret (.bool (prefixB p s)) m L):=by
 unfold TCall;refine ak Tryz.func99 8 ?_;refine au goes139 (prefix_lite _ _ s p) ?_;exact eV
def lowerN (c:UInt8):Nat:=c.toNat ||| 32
theorem lower_law (m:Mem) (L:List Item) (c:UInt8):TCall Tryz.prog 195 ⟨[byteV c]⟩ m L (Ret (.int .u8 (lowerN c:Int)) m L):=by
 unfold TCall;refine ak Tryz.func195 5 ?_;refine qs rfl (OT.orU8 (a:=c.toNat) (b:=32) rfl rfl rfl rfl rfl c.toNat_lt mv ?_);exact eS
end Go.Sep
namespace Go
abbrev dg := @Sep.lower_law
end Go
namespace Go.Sep
open Go.Proofs
attribute [local irreducible] TC TO OT TCallX TCall DO DOt thenQ blockQ retQ At
structure Errs (m:Mem):Prop where
 syn:∃ u v,At m 1 0 [.iface u v]
 rng:∃ u v,At m 2 0 [.iface u v]
theorem Errs.mono {m m':Mem} (h:Errs m) (hm:m≤m'):Errs m':=by
 obtain⟨⟨u,v,h1⟩,⟨u',v',h2⟩⟩:=h;exact⟨⟨u,v,h1.mono hm⟩,⟨u',v',h2.mono hm⟩⟩
theorem clone_str (m:Mem) (L:List Item) (s:Str) (hs:s.length≤140737488355328):TCall Tryz.prog 197 ⟨[strV s]⟩ m L (Ret (strV s) m L):=by
 refine lD ?_;unfold TCall;refine ak Tryz.func197 18 ?_;refine am (fun e1=>?_) (fun e1=>?_)
 ·have h0:s=[]:=List.eq_nil_of_length_eq_zero mv;refine uA ?_;refine cI rfl uS ⟨cC _,rfl,by rw[h0]⟩
 ·refine uA ?_;refine qs rfl (OT.makeT tab (n:=s.length) (z:=.int .u8 0) rfl rfl rfl rfl rfl rfl rfl rfl (by show s.length*1≤_;omega) rfl (fun b m1 hm1 ht hp=>?_));refine uA ?_;refine qs rfl (OT.copyS tab 0 (off:=0) (k:=0) rfl rfl rfl rfl rfl (bF _) rfl rfl rfl mx ?_);rw[putAt_all mx];refine cX fun m2 hm2 hA=>?_;refine uA ?_;refine qs rfl (OT.indexP (sz:=1) tab 0 rfl rfl rfl rfl rfl rfl rfl mv ?_);refine uA ?_;refine TO.tokFull b s.length ?_;refine qs rfl (OT.unsafeStr tab (e:=5) rfl rfl rfl rfl rfl rfl uK hA rfl mv (bF _) mv (hm2.t _ _ ht) (by rw[hm2.pin];exact hp) ?_);refine uA ?_;refine ag ⟨cD hm1 hm2,rfl,rfl⟩
@[reducible] def MadeE (m:Mem) (L:List Item):Value→Mem→List Item→Prop:=Made m L fun r _=>∃ b,r = .pointer (some ⟨b,0,none⟩)
theorem syntaxError_law (m:Mem) (L:List Item) (f s:Str) (hs:s.length≤140737488355328) (hE:Errs m):TCall Tryz.prog 173 ⟨[strV f,strV s]⟩ m L (MadeE m L):=by
 obtain⟨u,v,hA⟩:=hE.syn;unfold TCall;refine ak Tryz.func173 11 ?_;exact eO
theorem rangeError_law (m:Mem) (L:List Item) (f s:Str) (hs:s.length≤140737488355328) (hE:Errs m):TCall Tryz.prog 174 ⟨[strV f,strV s]⟩ m L (MadeE m L):=by
 obtain⟨u,v,hA⟩:=hE.rng;unfold TCall;refine ak Tryz.func174 11 ?_;exact eO
@[reducible] def MadeI (m:Mem) (L:List Item):Value→Mem→List Item→Prop:=Made m L fun r _=>∃ u v,r = .iface u v
theorem toError_syn (m:Mem) (L:List Item) (f s:Str) (b z:Int) (hs:s.length≤140737488355328) (hE:Errs m):TCall Tryz.prog 142 ⟨[strV f,strV s,.int .i64 b,.int .i64 z,.iface 197 (.int .i64 2)]⟩ m L (MadeI m L):=by
 unfold TCall;refine ak Tryz.func142 43 ?_;refine j3 ?_;refine oC goes173 ((syntaxError_law _ _ f s hs hE).x ?_);exact iq
theorem toError_rng (m:Mem) (L:List Item) (f s:Str) (b z:Int) (hs:s.length≤140737488355328) (hE:Errs m):TCall Tryz.prog 142 ⟨[strV f,strV s,.int .i64 b,.int .i64 z,.iface 197 (.int .i64 1)]⟩ m L (MadeI m L):=by
 unfold TCall;refine ak Tryz.func142 43 ?_;refine j3 ?_;refine j3 ?_;refine oC goes174 ((rangeError_law _ _ f s hs hE).x ?_);exact iq
end Go.Sep
namespace Go.Sep
inductive Tree where
 | mk (kind:Int) (name:Str) (num:Int) (kids:List Tree)
def Tree.kind : Tree→Int | .mk k _ _ _=>k
def Tree.name : Tree→Str | .mk _ n _ _=>n
def Tree.num : Tree→Int | .mk _ _ u _=>u
def Tree.kids : Tree→List Tree | .mk _ _ _ ks=>ks
theorem Tree.ind {P:Tree→Prop} (h:∀ t,(∀ k∈t.kids,P k)→P t) (t:Tree):P t :=
 Tree.rec (motive_1:=P) (motive_2:=fun l=>∀ k∈l,P k) (fun kind name num kids ih=>h (.mk kind name num kids) ih) (fun k hk=>by cases hk)
  (fun a l ha hl k hk=>by
   rcases List.mem_cons.1 hk with rfl | hk
   ·exact ha
   ·exact hl k hk) t
structure HTree where
 kind:Int
 name:Str
 num:Int
 kids:Sl
@[reducible] def treeC (h:HTree):List Value:=[.int .i64 h.kind,strV h.name,.int .i64 h.num,h.kids.v]
@[reducible] def treeV (h:HTree):Value:=.agg ⟨[.int .i64 h.kind,strV h.name,.int .i64 h.num,h.kids.v]⟩
def RT : Type:={ rep:Mem→HTree→Tree→Prop // ∀ m m' h a,m≤m'→rep m h a→rep m' h a }
def mkR (x:RT):R HTree Tree where
 size:=4
 bytes:=56
 enc:=treeC
 rep:=x.1
 enc_len _:=rfl
 one _:=rfl
 mono hm h:=x.2 _ _ _ _ hm h
def rtN : Nat→RT
 | 0=>⟨fun _ _ _=>False,fun _ _ _ _ _ h=>h⟩
 | n+1=>⟨fun m h a=>h.kind=a.kind∧h.name=a.name∧h.num=a.num∧SlRep (mkR (rtN n)) m h.kids a.kids,fun _ _ _ _ hm h=>⟨h.1,h.2.1,h.2.2.1,h.2.2.2.mono hm⟩⟩
def rTree : R HTree Tree:=mkR ⟨fun m h a=>∃ n,(rtN n).1 m h a,fun _ _ h a hm ⟨n,hn⟩=>⟨n,(rtN n).2 _ _ _ _ hm hn⟩⟩
theorem SlRep.imp {x y:RT} {m:Mem} (hxy:∀ h a,x.1 m h a→y.1 m h a) {s:Sl} {l:List Tree} (h:SlRep (mkR x) m s l):SlRep (mkR y) m s l:=by
 obtain⟨hs,h1,h2⟩:=h.cells;exact⟨h.len,h.cap,h.fit,hs,All2.mono hxy h1,h2⟩
theorem rtN_up (m:Mem):∀(n:Nat) (h:HTree) (a:Tree),(rtN n).1 m h a→(rtN (n+1)).1 m h a
 | 0,_,_,h=>h.elim
 | n+1,_,_,h=>⟨h.1,h.2.1,h.2.2.1,SlRep.imp (rtN_up m n) h.2.2.2⟩
theorem rtN_le (m:Mem) {n k:Nat} (hk:n≤k) (h:HTree) (a:Tree) (hr:(rtN n).1 m h a):(rtN k).1 m h a:=by
 induction hk with
 | refl=>exact hr
 | step _ ih=>exact rtN_up m _ h a ih
theorem all2_common {m:Mem}:∀(hs:List HTree) (l:List Tree),All2 (rTree.rep m) hs l→∃ n,All2 ((rtN n).1 m) hs l
 | [],[],_=>⟨0,trivial⟩
 | h::hs,a::l,hh=>by
  obtain⟨n1,h1⟩:=hh.1;obtain⟨n2,h2⟩:=all2_common hs l hh.2;exact⟨max n1 n2,rtN_le m (Nat.le_max_left _ _) h a h1,All2.mono (fun h a=>rtN_le m (Nat.le_max_right _ _) h a) h2⟩
 | [],_::_,hh=>hh.elim
 | _::_,[],hh=>hh.elim
structure TreeRep (m:Mem) (h:HTree) (a:Tree):Prop where
 kind:h.kind=a.kind
 name:h.name=a.name
 num:h.num=a.num
 kids:SlRep rTree m h.kids a.kids
theorem rTree_iff {m:Mem} {h:HTree} {a:Tree}:rTree.rep m h a↔TreeRep m h a:=by
 constructor
 ·rintro⟨n,hn⟩;cases n with
  | zero=>exact hn.elim
  | succ n=>exact⟨hn.1,hn.2.1,hn.2.2.1,SlRep.imp (x:=rtN n) (y:=⟨fun m h a=>∃ n,(rtN n).1 m h a,fun _ _ h a hm ⟨n,hn⟩=>⟨n,(rtN n).2 _ _ _ _ hm hn⟩⟩) (fun h a hh=>⟨n,hh⟩) hn.2.2.2⟩
 ·rintro⟨h1,h2,h3,h4⟩;obtain⟨hs,k1,k2⟩:=h4.cells;obtain⟨n,hn⟩:=all2_common hs _ k1;exact⟨n+1,h1,h2,h3,h4.len,h4.cap,h4.fit,hs,hn,k2⟩
theorem TreeRep.mono {m m':Mem} {h:HTree} {a:Tree} (hr:TreeRep m h a) (hm:m≤m'):TreeRep m' h a:=⟨hr.kind,hr.name,hr.num,hr.kids.mono hm⟩
end Go.Sep
namespace Go.Sep
mutual
def Tree.bulk : Tree→Nat
 | .mk _ n _ ks=>1+n.length+bulkL ks
def bulkL : List Tree→Nat
 | []=>0
 | t::ts=>t.bulk+bulkL ts
end
theorem bulk_len : ∀ l:List Tree,l.length≤bulkL l
 | []=>by simp[bulkL]
 | t::ts=>by
  have:=bulk_len ts;obtain⟨k,n,u,ks⟩:=t;simp only[bulkL,Tree.bulk,a7];omega
mutual
def Tree.size : Tree→Nat
 | .mk _ _ _ ks=>1+sizeL ks
def sizeL : List Tree→Nat
 | []=>0
 | t::ts=>t.size+sizeL ts
end
mutual
def Tree.deep : Tree→Nat
 | .mk _ _ _ ks=>deepL ks+1
def deepL : List Tree→Nat
 | []=>0
 | t::ts=>max t.deep (deepL ts)
end
theorem size_pos (a:Tree):1≤a.size:=by obtain⟨k,n,u,ks⟩:=a;simp only[Tree.size];omega
theorem sizeL_append : ∀ l r:List Tree,sizeL (l++r)=sizeL l+sizeL r
 | [],r=>by simp[sizeL]
 | t::ts,r=>by have:=sizeL_append ts r;simp only[bJ,sizeL];omega
theorem deepL_append : ∀ l r:List Tree,deepL (l++r)=max (deepL l) (deepL r)
 | [],r=>by simp[deepL]
 | t::ts,r=>by have:=deepL_append ts r;simp only[bJ,deepL];omega
theorem sizeL_take (l:List Tree) (k:Nat):sizeL (l.take k)≤sizeL l:=by
 have:=sizeL_append (l.take k) (l.drop k);rw[co]at this;omega
theorem deepL_take (l:List Tree) (k:Nat):deepL (l.take k)≤deepL l:=by
 have:=deepL_append (l.take k) (l.drop k);rw[co]at this;omega
theorem sizeL_drop (l:List Tree) (k:Nat):sizeL (l.take k)+sizeL (l.drop k)=sizeL l:=by
 rw[←sizeL_append,co]
theorem len_sizeL : ∀ l:List Tree,l.length≤sizeL l
 | []=>by simp[sizeL]
 | t::ts=>by
  have:=len_sizeL ts;have:=size_pos t;simp only[sizeL,a7];omega
theorem size_kids (a:Tree):a.size=1+sizeL a.kids:=by obtain⟨_,_,_,ks⟩:=a;rfl
theorem deep_kids (a:Tree):a.deep=deepL a.kids+1:=by obtain⟨_,_,_,ks⟩:=a;rfl
theorem sizeL_next (l:List Tree) (k:Nat) (h:k<l.length):sizeL (l.take (k+1))=sizeL (l.take k)+l[k].size:=by rw[cq h,sizeL_append];simp[sizeL]
theorem deepL_next (l:List Tree) (k:Nat) (h:k<l.length):deepL (l.take (k+1))=max (deepL (l.take k)) l[k].deep:=by rw[cq h,deepL_append];simp[deepL]
end Go.Sep
namespace Go.Sep
mutual
def Tree.wide : Tree→Nat
 | .mk _ n _ ks=>max n.length (wideL ks)
def wideL : List Tree→Nat
 | []=>0
 | t::ts=>max t.wide (wideL ts)
end
theorem wideL_mem : ∀ {l:List Tree} {t:Tree},t∈l→t.wide≤wideL l
 | x::xs,t,h=>by
  rcases List.mem_cons.1 h with rfl | h
  ·simp only[wideL];omega
  ·have:=wideL_mem h;simp only[wideL];omega
theorem wide_kid {a t:Tree} (h:t∈a.kids):t.wide≤a.wide:=by
 obtain⟨k,n,u,ks⟩:=a;have:=wideL_mem h;simp only[Tree.kids,Tree.wide]at *;omega
theorem wide_name (a:Tree):a.name.length≤a.wide:=by
 obtain⟨k,n,u,ks⟩:=a;simp only[Tree.name,Tree.wide];omega
mutual
theorem wide_bulk : ∀ a:Tree,a.wide≤a.bulk
 | .mk _ n _ ks=>by
  have:=wideL_bulk ks;simp only[Tree.wide,Tree.bulk];omega
theorem wideL_bulk : ∀ l:List Tree,wideL l≤bulkL l
 | []=>by simp[wideL,bulkL]
 | t::ts=>by
  have:=wide_bulk t;have:=wideL_bulk ts;simp only[wideL,bulkL];omega
end
end Go.Sep
namespace Go
abbrev dh := @Sep.wide_kid
end Go
namespace Go.Sep
mutual
def Tree.isType : Tree→Bool
 | .mk k n u ks =>
  if k=10 then decide (u=0)&&(isName n&&decide (ks.length=0))
  else if k=11∨k=12 then decide (n=[])&&(decide (u=0)&&(decide (ks.length=1)&&allType ks))
  else if k=13 then decide (n=[])&&(decide (0≤u)&&(decide (u≤(ks.length:Int))&&allType ks))
  else false
def allType : List Tree→Bool
 | []=>true
 | t::ts=>t.isType&&allType ts
end
theorem allType_eq : ∀ l:List Tree,allType l=l.all Tree.isType
 | []=>rfl
 | t::ts=>by rw[allType,allType_eq ts,cr]
theorem isType_eq (a:Tree):a.isType =
  if a.kind=10 then decide (a.num=0)&&(isName a.name&&decide (a.kids.length=0))
  else if a.kind=11∨a.kind=12 then decide (a.name=[])&&(decide (a.num=0)&&(decide (a.kids.length=1)&&a.kids.all Tree.isType))
  else if a.kind=13 then decide (a.name=[])&&(decide (0≤a.num)&&(decide (a.num≤(a.kids.length:Int))&&a.kids.all Tree.isType))
  else false:=by
 obtain⟨k,n,u,ks⟩:=a;simp only[Tree.kind,Tree.name,Tree.num,Tree.kids];rw[Tree.isType,allType_eq];rfl
def Tree.isParam (a:Tree):Bool:=decide (a.kind=8)&&(decide (a.num=0)&&(isName a.name&&(decide (a.kids.length=1)&&a.kids.all Tree.isType)))
def Tree.isSig (a:Tree):Bool:=decide (a.kind=7)&&(decide (a.name=[])&&(decide (0≤a.num)&&(decide (a.num≤(a.kids.length:Int))&&((a.kids.take a.num.toNat).all Tree.isParam&&(a.kids.drop a.num.toNat).all Tree.isType))))
def bareB (a:Tree) (k t u:Bool):Bool:=k&&((t||decide (a.name=[]))&&(u||decide (a.num=0)))
def ofB (a:Tree) (k:Int):Bool:=decide (a.kind=k)&&(decide (a.num=0)&&isName a.name)
def kidsR : List (Tree→Bool)→Option (Tree→Bool)→List Tree→Bool
 | [],none,l=>l.isEmpty
 | [],some r,l=>l.all r
 | _::_,_,[]=>false
 | p::ps,rest,x::l=>p x&&kidsR ps rest l
theorem kidsR_short : ∀(ps:List (Tree→Bool)) (rest:Option (Tree→Bool)) (l:List Tree),l.length<ps.length→kidsR ps rest l=false
 | [],_,_,h=>by simp at h
 | _::_,_,[],_=>by simp[kidsR]
 | p::ps,rest,x::l,h=>by rw[kidsR,kidsR_short ps rest l mP,Bool.and_false]
theorem kidsR_long : ∀(ps:List (Tree→Bool)) (l:List Tree),ps.length<l.length→kidsR ps none l=false
 | [],[],h=>by simp at h
 | [],_::_,_=>by simp[kidsR]
 | _::_,[],h=>by simp at h
 | p::ps,x::l,h=>by rw[kidsR,kidsR_long ps l mP,Bool.and_false]
theorem kidsR_step (ps:List (Tree→Bool)) (rest:Option (Tree→Bool)) (l:List Tree) (k:Nat) (h1:k<ps.length) (h2:k<l.length):kidsR (ps.drop k) rest (l.drop k)=(ps[k] l[k]&&kidsR (ps.drop (k+1)) rest (l.drop (k+1))):=by
 rw[bU h1,bU h2,kidsR]
theorem kidsR_rest (ps:List (Tree→Bool)) (r:Tree→Bool) (l:List Tree) (k:Nat) (h1:ps.length≤k) (h2:k<l.length):kidsR (ps.drop k) (some r) (l.drop k)=(r l[k]&&kidsR (ps.drop (k+1)) (some r) (l.drop (k+1))):=by
 rw[ci h1,ci (show ps.length≤k+1 by omega),bU h2,kidsR,kidsR,cr]
theorem kidsR_end (ps:List (Tree→Bool)) (rest:Option (Tree→Bool)) (l:List Tree) (k:Nat) (h1:ps.length≤k) (h2:l.length≤k):kidsR (ps.drop k) rest (l.drop k)=true:=by
 rw[ci h1,ci h2];cases rest<;>rfl
end Go.Sep
namespace Go.Sep
open Go.Proofs
section
variable {P:Program} {N:Nat} {ρ:Env} {D:List Deferred} {m:Mem} {L:List Item} {Q:EPost} {o:Oper} {K:Env→Mem→List Item→Prop}
theorem equalIn_nilFn2 {t:TypeId} {w:World} {a b c} {f g h} (dd:Nat) (hu:(underlying t).run P w = .ok (.func a b c) w) :
  (Op.equalIn (dd+1) t (.func f g h) .nilFunc).run P w = .ok false w:=by
 exact fj
theorem OT.nilFn2 (T:Tab P) {t t':TypeId} {x y:Operand} {d:Nat} {f g h} (ho:o.op = .binOp .eql t x y t') (hd:o.dst=some d) (hN:Nat.blt d N=true)
  (hx:ev ρ x=some (.func f g h)) (hy:ev ρ y=some .nilFunc) (ht:T.isFunc t=true) (hK:K ((d,.bool false)::ρ) m L):OT P N o ρ D m L Q K:=by
 obtain⟨ti,a,b,c,h1,h2⟩:=isFunc_get ht;refine cN hd hN (fun ac w ha=>⟨w,?_,ha.st⟩) hK;have hu:=T.run_underlying w h1;rw[h2]at hu;have e1:binOp .eql t (.func f g h) .nilFunc=(do pure (.bool (←Op.equalIn (9999+1) t (.func f g h) .nilFunc)):Sem Value):=rfl;have e2:(eqGuard .eql t x y (.func f g h) .nilFunc).run P w = .ok () w:=mQ;have h:=equalIn_nilFn2 (P:=P) (f:=f) (g:=g) (h:=h) 9999 hu;exact gX
end
attribute [local irreducible] TC TO OT TCallX TCall DO DOt thenQ blockQ retQ At
theorem indexFunc_node (m:Mem) (L:List Item) (s:Sl) (l:List Tree) (p:Tree→Bool) (fn:FuncId) (cap:List Value) (hg:Goes Tryz.prog fn) (hs:SlRep rTree m s l)
  (hp:∀(h:HTree) (a:Tree),a∈l→rTree.rep m h a→TCall Tryz.prog fn ⟨treeV h::cap⟩ m L (Ret (.bool (p a)) m L)) :
  TCall Tryz.prog 122 ⟨[s.v,.func (.func fn) ⟨[]⟩ ⟨cap⟩]⟩ m L (Ret (.int .i64 (idxP l p 0)) m L):=by
 unfold TCall;refine ak Tryz.func122 19 ?_;refine jU ?_;rintro k ⟨hk,hI⟩;have hl:=hs.len;have hsm:=hs.small rfl;refine uA ?_;refine am (fun h=>?_) (fun h=>?_)
 ·have hlt:k<l.length:=mv;have hx:l[k]? = some l[k]:=mG;refine kJ ?_;rintro b i hd hr hA;refine jV ?_;refine qs rfl (cR (all:=treeV hd::cap) rfl rfl rfl rfl rfl nh hg ((hp hd l[k] (bL hlt) hr).x ?_));refine ka ?_;exact ed
 ·exact fz
theorem containsFunc_node (m:Mem) (L:List Item) (s:Sl) (l:List Tree) (p:Tree→Bool) (fn:FuncId) (cap:List Value) (hg:Goes Tryz.prog fn) (hs:SlRep rTree m s l)
  (hp:∀(h:HTree) (a:Tree),a∈l→rTree.rep m h a→TCall Tryz.prog fn ⟨treeV h::cap⟩ m L (Ret (.bool (p a)) m L)) :
  TCall Tryz.prog 66 ⟨[s.v,.func (.func fn) ⟨[]⟩ ⟨cap⟩]⟩ m L (Ret (.bool (l.any p)) m L):=by
 unfold TCall;refine ak Tryz.func66 9 ?_;refine au goes122 (indexFunc_node m L s l p fn cap hg hs hp) ?_;refine jy ?_;rw[idxP_ge]
theorem bare_law (m:Mem) (L:List Item) (h:HTree) (a:Tree) (hr:TreeRep m h a) (k t u:Bool) :
  TCall Tryz.prog 33 ⟨[treeV h,.bool k,.bool t,.bool u]⟩ m L (Ret (.bool (bareB a k t u)) m L):=by
 obtain⟨h1,h2,h3,h4⟩:=hr;unfold TCall;refine ak Tryz.func33 26 ?_;refine oB (fun b=>?_);cases k<;>cases t<;>cases u
 all_goals repeat' (first|(first|refine q1 ?_|refine q3 ?_|refine q4 tab rfl rfl ?_|refine q5 ?_|refine q6 ?_|refine q15 ?_)|(refine qs rfl (ql tab 0 rfl rfl rfl rfl rfl rfl ?_))|(refine TO.splitP rfl rfl (fun hb=>?_) (fun hb=>?_)))
 all_goals
  refine jy ?_;refine lw ?_;unfold bareB
  try rw[←h2]
  try rw[←h3]
  simp_all
theorem named_law (m:Mem) (L:List Item) (h:HTree) (a:Tree) (hr:TreeRep m h a) (hB:a.wide≤140737488355328):TCall Tryz.prog 123 ⟨[treeV h]⟩ m L (Ret (.bool (isName a.name)) m L):=by
 obtain⟨h1,h2,h3,h4⟩:=hr;have hl:=wide_name a;unfold TCall;refine ak Tryz.func123 6 ?_;refine ay (fun b=>?_);refine oR goes84 (name_law _ _ h.name (by rw[h2];omega)) ?_;refine jT ?_;rw[h2]
theorem of_law (m:Mem) (L:List Item) (h:HTree) (a:Tree) (hr:TreeRep m h a) (hB:a.wide≤140737488355328) (k:Int) :
  TCall Tryz.prog 68 ⟨[treeV h,.int .i64 k]⟩ m L (Ret (.bool (ofB a k)) m L):=by
 have hr':=hr;obtain⟨h1,h2,h3,h4⟩:=hr;unfold TCall;refine ak Tryz.func68 15 ?_;refine ay (fun b=>?_);refine au goes33 (bare_law _ _ h a hr' (decide (h.kind=k)) true false) ?_;refine aE (b:=bareB a (decide (h.kind=k)) true false) (fun hb=>?_) (fun hb=>?_)
 ·refine uL ?_;refine au goes123 (named_law _ _ h a hr' hB) ?_;exact iH
 ·refine uA ?_;exact iH
def IsPred (fn:FuncId) (p:Tree→Bool) (l:List Tree):Prop:=Goes Tryz.prog fn∧∀(m:Mem) (L:List Item) (h:HTree) (a:Tree),a∈l→TreeRep m h a→TCall Tryz.prog fn ⟨[treeV h]⟩ m L (Ret (.bool (p a)) m L)
theorem not_law (m:Mem) (L:List Item) (h:HTree) (a:Tree) (hr:TreeRep m h a) (fn:FuncId) (p:Tree→Bool) (l:List Tree) (hp:IsPred fn p l) (ha:a∈l) (b1:Nat) (hA:At m b1 0 [.func (.func fn) ⟨[]⟩ ⟨[]⟩]) :
  TCall Tryz.prog 67 ⟨[treeV h,.pointer (some ⟨b1,0,none⟩)]⟩ m L (Ret (.bool (!p a)) m L):=by
 unfold TCall;refine ak Tryz.func67 8 ?_;refine oB (fun b=>?_);refine uA ?_;refine oL tab hA ?_;refine uL ?_;refine qs rfl (cR (all:=[treeV h]) rfl rfl rfl rfl rfl nh hp.1 ((hp.2 _ _ h a ha hr).x ?_));refine ka ?_;exact eS
theorem pall_law (m:Mem) (L:List Item) (s:Sl) (l:List Tree) (hs:SlRep rTree m s l) (fn:FuncId) (p:Tree→Bool) (hp:IsPred fn p l) :
  TCall Tryz.prog 34 ⟨[s.v,.func (.func fn) ⟨[]⟩ ⟨[]⟩]⟩ m L (Ret (.bool (l.all p)) m L):=by
 refine lD ?_;unfold TCall;refine cK Tryz.func34 rfl 9 rfl ?_;refine uB ?_;refine oB (fun b=>?_);refine cX fun m1 hm1 hA1=>?_;refine uA ?_;refine au goes66 (containsFunc_node m1 L s l (fun a=>!p a) 67 [.pointer (some ⟨b,0,none⟩)] goes67 (hs.mono hm1) (fun h a ha hr=>not_law m1 L h a (rTree_iff.1 hr) fn p l hp ha b hA1)) ?_;refine jZ ?_;rw[List.all_eq_not_any_not]
def rFn : R FuncId FuncId where
 size:=1
 bytes:=8
 enc f:=[.func (.func f) ⟨[]⟩ ⟨[]⟩]
 rep _ f g:=f=g
 enc_len _:=rfl
 one f:=rfl
 mono _ h:=h
def restV : Option (FuncId×(Tree→Bool))→Value
 | none=>.nilFunc
 | some p=>.func (.func p.1) ⟨[]⟩ ⟨[]⟩
def restB : Option (FuncId×(Tree→Bool))→Option (Tree→Bool)
 | none=>none
 | some p=>some p.2
theorem kids_law (m:Mem) (L:List Item) (h:HTree) (a:Tree) (hr:TreeRep m h a) (s:Sl) (ps:List (FuncId×(Tree→Bool))) (rest:Option (FuncId×(Tree→Bool))) (hf:SlRep rFn m s (ps.map Prod.fst)) (hp:∀ p∈ps,IsPred p.1 p.2 a.kids) (hq:∀ p,rest=some p→IsPred p.1 p.2 a.kids) :
  TCall Tryz.prog 70 ⟨[treeV h,restV rest,s.v]⟩ m L (Ret (.bool (kidsR (ps.map Prod.snd) (restB rest) a.kids)) m L):=by
 obtain⟨h1,h2,h3,h4⟩:=hr;have hl:=h4.len;have hsm:=h4.small rfl;have hl2:=hf.len;rw[bN]at hl2;cases rest with
 | none =>
  show TCall _ _ ⟨[treeV h,.nilFunc,s.v]⟩ _ _ _;unfold TCall;refine ak Tryz.func70 50 ?_;refine ay (fun b=>?_);refine az (fun hb=>?_) (fun hb=>?_)
  ·exact iG
  refine uL ?_;refine qs rfl (OT.nilFn tab rfl rfl rfl rfl rfl uK ?_);refine uL ?_;refine am (fun hb2=>?_) (fun hb2=>?_)
  ·refine uA ?_;refine jy ?_;refine congrArg Value.bool (Eq.symm ?_);exact kidsR_long _ _ nB
  refine uL ?_;refine cH (ι:=Nat) [1,2,29,30] rfl (fun k=>[(31,.int .i64 (k:Int))]) (fun _=>m) (fun _=>L) (fun k=>k≤a.kids.length∧kidsR (ps.map Prod.snd) (restB none) a.kids=kidsR ((ps.map Prod.snd).drop k) (restB none) (a.kids.drop k)) (fun k=>a.kids.length-k) 0 uH rfl uS ⟨cn _,rfl⟩ ?_;rintro k ⟨hk,hI⟩;refine uA ?_;refine am (fun h=>?_) (fun h=>?_)
  ·have hlt:k<a.kids.length:=mv;have hx:a.kids[k]? = some a.kids[k]:=mG;refine jX ?_;rintro b' i hd hrd hA;refine jV ?_;refine aC tab (fun b2=>?_);refine jx ?_;refine am (fun h5=>?_) (fun h5=>?_)
   ·have hlt2:k<ps.length:=mv;have hx2:(ps.map Prod.fst)[k]? = some ps[k].1:=ni;refine mi ?_;rintro b3 i3 fn hfn hA3;obtain rfl:fn=ps[k].1:=hfn;refine oL tab hA3 ?_;refine uL ?_;have hpp:=hp ps[k] (bL hlt2);have hst:=kidsR_step (ps.map Prod.snd) (restB none) a.kids k (by rw[bN];exact hlt2) hlt;exact eK
   ·skip;omega
  ·exact ic
 | some p =>
  show TCall _ _ ⟨[treeV h,.func (.func p.1) ⟨[]⟩ ⟨[]⟩,s.v]⟩ _ _ _;unfold TCall;refine ak Tryz.func70 50 ?_;refine ay (fun b=>?_);refine az (fun hb=>?_) (fun hb=>?_)
  ·exact iG
  refine uL ?_;refine qs rfl (OT.nilFn2 tab rfl rfl rfl rfl rfl uK ?_);refine uL ?_;refine cH (ι:=Nat) [1,2,29,30] rfl (fun k=>[(31,.int .i64 (k:Int))]) (fun _=>m) (fun _=>L) (fun k=>k≤a.kids.length∧kidsR (ps.map Prod.snd) (restB (some p)) a.kids=kidsR ((ps.map Prod.snd).drop k) (restB (some p)) (a.kids.drop k)) (fun k=>a.kids.length-k) 0 uH rfl uS ⟨cn _,rfl⟩ ?_;rintro k ⟨hk,hI⟩;refine uA ?_;refine am (fun h=>?_) (fun h=>?_)
  ·have hlt:k<a.kids.length:=mv;have hx:a.kids[k]? = some a.kids[k]:=mG;refine jX ?_;rintro b' i hd hrd hA;refine jV ?_;refine aC tab (fun b2=>?_);refine jx ?_;refine am (fun h5=>?_) (fun h5=>?_)
   ·have hlt2:k<ps.length:=mv;have hx2:(ps.map Prod.fst)[k]? = some ps[k].1:=ni;refine mi ?_;rintro b3 i3 fn hfn hA3;obtain rfl:fn=ps[k].1:=hfn;refine oL tab hA3 ?_;refine uL ?_;have hpp:=hp ps[k] (bL hlt2);have hst:=kidsR_step (ps.map Prod.snd) (restB (some p)) a.kids k (by rw[bN];exact hlt2) hlt;exact eK
   ·skip;have hst:=kidsR_rest (ps.map Prod.snd) p.2 a.kids k nB hlt;have hpp:=hq p rfl;refine jJ ?_;refine kW ?_;refine aO (t:=!p.2 a.kids[k]) (fun h6=>?_) (fun h6=>?_)
    ·refine uA ?_;refine jy ?_;rw[hI];refine lw ?_;refine Eq.symm (hst.trans ?_)
     simp_all
    ·refine uA ?_;refine jA ?_;exact⟨k+1,uH,uH,rfl,rfl,uS,⟨by omega,by rw[hI];refine hst.trans ?_;simp_all [restB]⟩,by omega⟩
  ·exact ic
end Go.Sep
namespace Go
abbrev di := @Sep.kids_law
end Go
namespace Go.Ps
open Go.Sep
structure Tk where
 kind:Int
 text:Str
 num:Int
inductive Res (α:Type) where
 | ok (a:α) (k:Nat)
 | bad (k:Nat)
 | out
@[reducible] def F : Type:=Nat→Option Tk
@[reducible] def Pp (α:Type):Type:=F→Nat→Res α
def ret {α:Type} (a:α):Pp α:=fun _ k=>.ok a k
def fail {α:Type}:Pp α:=fun _ k=>.bad k
def dry {α:Type}:Pp α:=fun _ _=>.out
def bind {α β:Type} (p:Pp α) (g:α→Pp β):Pp β:=fun f k =>
 match p f k with
 | .ok a k'=>g a f k'
 | .bad k'=>.bad k'
 | .out=>.out
def isM (s:Str):F→Nat→Bool:=fun f k =>
 match f k with
 | some t=>(decide (t.kind=4)||decide (t.kind=5))&&decide (t.text=s)
 | none=>false
def isK (c:Int):F→Nat→Bool:=fun f k =>
 match f k with
 | some t=>decide (t.kind=c)
 | none=>false
def tok {α:Type} (s:Str) (A B:Pp α):Pp α:=fun f k=>bif isM s f k then A f (k+1)else B f k
def need {α:Type} (s:Str) (A:Pp α):Pp α:=tok s A fail
def tkn {α:Type} (c:Int) (A:Tk→Pp α) (B:Pp α):Pp α:=fun f k =>
 match f k with
 | some t=>bif decide (t.kind=c)then A t f (k+1)else B f k
 | none=>B f k
def name {α:Type} (A:Str→Pp α):Pp α:=tkn 1 (fun t=>A t.text) fail
def peek {α:Type} (q:F→Nat→Bool) (A B:Pp α):Pp α:=fun f k=>bif q f k then A f k else B f k
def oneOf {α:Type} (ops:List Str) (A:Str→Pp α) (B:Pp α):Pp α:=fun f k =>
 match ops.find? (fun s=>isM s f k)with
 | some s=>A s f (k+1)
 | none=>B f k
def commas {α:Type}:Nat→Pp α→Pp (List α)
 | 0,_=>dry
 | j+1,X=>bind X fun a=>tok [44] (bind (commas j X) fun l=>ret (a::l)) (ret [a])
def upto {α:Type}:Nat→Str→Pp α→Pp (List α)
 | 0,_,_=>dry
 | j+1,s,X=>tok s (ret []) (bind X fun a=>bind (upto j s X) fun l=>ret (a::l))
structure Gr where
 typ:Pp Tree
 block:Pp Tree
 stmt:Pp Tree
 branch:Pp Tree
 expr:Bool→Pp Tree
 unary:Bool→Pp Tree
def leaf (kind:Int) (s:Str):Tree:=.mk kind s 0 []
def begins : F→Nat→Bool:=fun f k=>isK 1 f k||(isM [42] f k||(isM [91] f k||isM [102,117,110,99] f k))
section
variable (N:Nat)
def inP {α:Type} (s:Str) (X:Pp α):Pp (List α):=tok s (ret []) (bind (commas N X) fun l=>need s (ret l))
def resultsP (typ:Pp Tree):Pp (List Tree) :=
 tok [40] (bind (commas N typ) fun l=>need [41] (ret l)) (peek begins (bind typ fun t=>ret [t]) (ret []))
def paramP (typ:Pp Tree):Pp Tree:=name fun s=>bind typ fun t=>ret (.mk 8 s 0 [t])
def sigLike (kind:Int) (X typ:Pp Tree):Pp Tree :=
 need [40] (bind (inP N [41] X) fun ps=>bind (resultsP N typ) fun rs=>ret (.mk kind [] (ps.length:Int) (ps++rs)))
def sigP (typ:Pp Tree):Pp Tree:=sigLike N 7 (paramP typ) typ
def typP (typ:Pp Tree):Pp Tree :=
 tok [42] (bind typ fun t=>ret (.mk 11 [] 0 [t]))
  (tok [91] (need [93] (bind typ fun t=>ret (.mk 12 [] 0 [t])))
   (tok [102,117,110,99] (sigLike N 13 typ typ) (name fun s=>ret (leaf 10 s))))
def fieldP (member:Pp Tree):Pp Tree:=name fun s=>bind member fun t=>need [59] (ret (.mk 6 s 0 [t]))
def bodyP (kind:Int) (nm:Str) (member:Pp Tree):Pp Tree:=need [123] (bind (upto N [125] (fieldP member)) fun l=>ret (.mk kind nm 0 l))
def typeDeclP (typ:Pp Tree):Pp Tree:=name fun nm=>tok [105,110,116,101,114,102,97,99,101] (bodyP N 3 nm (sigP N typ)) (need [115,116,114,117,99,116] (bodyP N 2 nm typ))
def recvT (recv of:Str):Tree:=.mk 8 recv 0 [.mk 11 [] 0 [leaf 10 of]]
def declP (typ block:Pp Tree):Pp Tree :=
 tok [116,121,112,101] (typeDeclP N typ) (need [102,117,110,99] (tok [40]
  (name fun recv=>need [42] (name fun of=>need [41] (name fun nm=>bind (sigP N typ) fun s=>bind block fun b=>ret (.mk 5 nm 0 [recvT recv of,s,b]))))
  (name fun nm=>bind (sigP N typ) fun s=>bind block fun b=>ret (.mk 4 nm 0 [s,b]))))
def blockP (stmt:Pp Tree):Pp Tree:=need [123] (bind (upto N [125] stmt) fun l=>ret (.mk 20 [] 0 l))
def branchP (expr block branch:Pp Tree):Pp Tree :=
 need [105,102] (bind expr fun c=>bind block fun b=>tok [101,108,115,101]
  (peek (isM [105,102]) (bind branch fun e=>ret (.mk 25 [] 0 [c,b,e])) (bind block fun e=>ret (.mk 25 [] 0 [c,b,e])))
  (ret (.mk 25 [] 0 [c,b])))
def forP (expr block:Pp Tree):Pp Tree :=
 peek (isM [123]) (bind block fun b=>ret (.mk 26 [] 0 [b])) (bind expr fun c=>bind block fun b=>ret (.mk 26 [] 0 [c,b]))
def isNm (t:Tree):Bool:=decide (t.kind=44)
def isPl (t:Tree):Bool:=decide (t.kind=44)||(decide (t.kind=48)||(decide (t.kind=49)||(decide (t.kind=52)&&decide (t.name=[42]))))
def isC1 : List Tree→Bool
 | [t]=>decide (t.kind=51)
 | _=>false
def tokIf {α:Type} (c:Bool) (s:Str) (A B:Pp α):Pp α:=bif c then tok s A B else B
def assignP (expr:Pp Tree) (left:List Tree):Pp Tree :=
 tokIf (left.all isNm) [58,61] (bind (commas N expr) fun l=>ret (.mk 22 [] (left.length:Int) (left++l)))
  (tokIf (left.all isPl) [61] (bind (commas N expr) fun l=>ret (.mk 23 [] (left.length:Int) (left++l)))
   (bif isC1 left then peek (isM [59]) (ret (.mk 24 [] 0 left)) fail else fail))
def simpleP (typ expr:Pp Tree):Pp Tree :=
 tok [118,97,114] (name fun s=>bind typ fun t=>tok [61] (bind expr fun e=>ret (.mk 21 s 0 [t,e])) (ret (.mk 21 s 0 [t])))
  (tok [114,101,116,117,114,110] (peek (isM [59]) (ret (leaf 27 [])) (bind (commas N expr) fun l=>ret (.mk 27 [] 0 l)))
   (tok [98,114,101,97,107] (ret (leaf 28 [])) (tok [99,111,110,116,105,110,117,101] (ret (leaf 29 [])) (bind (commas N expr) (assignP N expr)))))
def stmtP (g:Gr):Pp Tree :=
 peek (isM [123]) g.block (peek (isM [105,102]) g.branch (tok [102,111,114] (forP (g.expr true) g.block) (bind (simpleP N g.typ (g.expr false)) fun s=>need [59] (ret s))))
def levels : List (List Str):=[[[124,124]],[[38,38]],[[61,61],[33,61],[60],[60,61],[62],[62,61]],[[43],[45]],[[42],[47],[37]]]
def binT (op:Str) (a b:Tree):Tree:=.mk 53 op 0 [a,b]
def loopB : Nat→List Str→Pp Tree→Tree→Pp Tree
 | 0,_,_,_=>dry
 | j+1,ops,X,n=>oneOf ops (fun op=>bind X fun m=>loopB j ops X (binT op n m)) (ret n)
def binL (U:Pp Tree):List (List Str)→Pp Tree
 | []=>U
 | ops::rest=>bind (binL U rest) (loopB N ops (binL U rest))
def exprsP (s:Str) (expr:Pp Tree):Pp (List Tree):=inP N s expr
def cutP (expr:Pp Tree) (num:Int) (ks:List Tree):Pp Tree :=
 need [58] (tok [93] (ret (.mk 50 [] num ks)) (bind expr fun e=>need [93] (ret (.mk 50 [] (num+2) (ks++[e])))))
def indexP (expr:Pp Tree) (n:Tree):Pp Tree :=
 peek (isM [58]) (cutP expr 0 [n]) (bind expr fun e=>tok [93] (ret (.mk 49 [] 0 [n,e])) (cutP expr 1 [n,e]))
def postP (expr:Pp Tree):Nat→Tree→Pp Tree
 | 0,_=>dry
 | j+1,n=>tok [46] (name fun s=>postP expr j (.mk 48 s 0 [n]))
   (tok [91] (bind (indexP expr n) fun t=>postP expr j t)
    (tok [40] (bind (exprsP N [41] expr) fun l=>postP expr j (.mk 51 [] 0 (n::l))) (ret n)))
def primP (typ block expr:Pp Tree) (h:Bool):Pp Tree :=
 tkn 2 (fun t=>ret (.mk 40 [] t.num [])) (tkn 3 (fun t=>ret (leaf 41 t.text))
  (tok [116,114,117,101] (ret (.mk 42 [] 1 [])) (tok [102,97,108,115,101] (ret (leaf 42 [])) (tok [110,105,108] (ret (leaf 43 []))
   (tok [40] (bind expr fun t=>need [41] (ret t))
    (tok [91] (need [93] (bind typ fun t=>need [123] (bind (exprsP N [125] expr) fun l=>ret (.mk 46 [] 0 (t::l)))))
     (tok [102,117,110,99] (bind (sigP N typ) fun s=>bind block fun b=>ret (.mk 47 [] 0 [s,b]))
      (name fun s=>bif h then ret (leaf 44 s)else tok [123] (bind (exprsP N [125] expr) fun l=>ret (.mk 45 s 0 l)) (ret (leaf 44 s))))))))))
def unaryP (g:Gr) (h:Bool):Pp Tree :=
 oneOf [[45],[33],[38],[42]] (fun op=>bind (g.unary h) fun t=>ret (.mk 52 op 0 [t])) (bind (primP N g.typ g.block (g.expr false) h) (postP N (g.expr false) N))
def Gr.step (g:Gr):Gr where
 typ:=typP N g.typ
 block:=blockP N g.stmt
 stmt:=stmtP N g
 branch:=branchP (g.expr true) g.block g.branch
 expr h:=binL N (g.unary h) levels
 unary h:=unaryP N g h
def gr : Nat→Gr
 | 0=>⟨dry,dry,dry,dry,fun _=>dry,fun _=>dry⟩
 | n+1=>(gr n).step N
def progL (decl:Pp Tree):Nat→Pp (List Tree)
 | 0=>dry
 | j+1=>fun f k=>bif (f k).isNone then .ok [] k else bind decl (fun a=>bind (progL decl j) fun l=>ret (a::l)) f k
def declG (n:Nat):Pp Tree:=declP N (gr N n).typ (gr N n).block
end
def program (M:Nat):Pp (List Tree):=progL (declG (M+1) (3*M+4)) (M+1)
end Go.Ps
namespace Go.Sep
structure Sg where
 expr:Tree→Bool
 stmt:Tree→Bool
 block:Tree→Bool
theorem kidsR0 (l:List Tree):kidsR [] none l=decide (l.length=0):=by cases l<;>simp[kidsR]
theorem kidsR1 (p:Tree→Bool) (l:List Tree):kidsR [p] none l=(decide (l.length=1)&&l.all p):=by
 match l with
 | []=>simp[kidsR]
 | [x]=>simp[kidsR]
 | _::_::_=>simp[kidsR]
def ops4 : List Str:=[[45],[33],[38],[42]]
def lvl (a:Tree):Bool:=decide (0≤a.num)&&(decide (a.num≤3)&&decide ((a.kids.length:Int)=1+a.num % 2+a.num / 2))
def exprS (g:Sg) (a:Tree):Bool :=
 if a.kind=40 then bareB a (decide (0≤a.num)) false true&&kidsR [] none a.kids
 else if a.kind=41 then bareB a (decide ((a.name.length:Int)≤1024)) true false&&kidsR [] none a.kids
 else if a.kind=42 then bareB a (decide (a.num / 2=0)) false true&&kidsR [] none a.kids
 else if a.kind=43 then bareB a true false false&&kidsR [] none a.kids
 else if a.kind=44 then ofB a 44&&kidsR [] none a.kids
 else if a.kind=45 then ofB a 45&&a.kids.all g.expr
 else if a.kind=46 then bareB a true false false&&kidsR [Tree.isType] (some g.expr) a.kids
 else if a.kind=47 then bareB a true false false&&kidsR [Tree.isSig,g.block] none a.kids
 else if a.kind=48 then ofB a 48&&kidsR [g.expr] none a.kids
 else if a.kind=49 then bareB a true false false&&kidsR [g.expr,g.expr] none a.kids
 else if a.kind=50 then bareB a (lvl a) false true&&a.kids.all g.expr
 else if a.kind=51 then bareB a true false false&&kidsR [g.expr] (some g.expr) a.kids
 else if a.kind=52 then bareB a (decide (a.name∈ops4)) true false&&kidsR [g.expr] none a.kids
 else if a.kind=53 then bareB a (decide (a.name∈Ps.levels.flatten)) true false&&kidsR [g.expr,g.expr] none a.kids
 else false
def blockS (g:Sg) (a:Tree):Bool:=bareB a (decide (a.kind=20)) false false&&a.kids.all g.stmt
def nmS (g:Sg) (a:Tree):Bool:=decide (a.kind=44)&&g.expr a
def plS (g:Sg) (a:Tree):Bool:=Ps.isPl a&&g.expr a
def callS (g:Sg) (a:Tree):Bool:=decide (a.kind=51)&&g.expr a
def otherS (g:Sg) (a:Tree):Bool:=g.block a||(decide (a.kind=25)&&g.stmt a)
def asgS (g:Sg) (left:Tree→Bool) (a:Tree):Bool:=decide (1≤a.num)&&(decide (a.num<(a.kids.length:Int))&&((a.kids.take a.num.toNat).all left&&(a.kids.drop a.num.toNat).all g.expr))
def headS (a:Tree):Bool:=(decide (a.kind=21)||decide (a.name=[]))&&((decide (a.kind=22)||decide (a.kind=23))||decide (a.num=0))
def stmtS (g:Sg) (a:Tree):Bool :=
 if headS a=false then false
 else if a.kind=20 then blockS g a
 else if a.kind=21 then isName a.name&&(kidsR [Tree.isType] none a.kids||kidsR [Tree.isType,g.expr] none a.kids)
 else if a.kind=22 then asgS g (nmS g) a
 else if a.kind=23 then asgS g (plS g) a
 else if a.kind=24 then kidsR [callS g] none a.kids
 else if a.kind=25 then kidsR [g.expr,g.block] none a.kids||kidsR [g.expr,g.block,otherS g] none a.kids
 else if a.kind=26 then kidsR [g.block] none a.kids||kidsR [g.expr,g.block] none a.kids
 else if a.kind=27 then a.kids.all g.expr
 else if a.kind=28∨a.kind=29 then kidsR [] none a.kids
 else false
def Sg.step (g:Sg):Sg:=⟨exprS g,stmtS g,blockS g⟩
def sg : Nat→Sg
 | 0=>⟨fun _=>false,fun _=>false,fun _=>false⟩
 | n+1=>(sg n).step
def kid0 (a:Tree):Tree:=a.kids.headD (.mk 0 [] 0 [])
def recvS (a:Tree):Bool:=a.isParam&&(decide ((kid0 a).kind=11)&&decide ((kid0 (kid0 a)).kind=10))
def fieldS (p:Tree→Bool) (a:Tree):Bool:=ofB a 6&&kidsR [p] none a.kids
def declS (g:Sg) (a:Tree):Bool :=
 if a.kind=2 then ofB a 2&&a.kids.all (fieldS Tree.isType)
 else if a.kind=3 then ofB a 3&&a.kids.all (fieldS Tree.isSig)
 else if a.kind=4 then ofB a 4&&kidsR [Tree.isSig,g.block] none a.kids
 else if a.kind=5 then ofB a 5&&kidsR [recvS,Tree.isSig,g.block] none a.kids
 else false
def soundB (a:Tree):Bool:=(decide (a.size≤20000)&&decide (a.deep≤100))&&(bareB a (decide (a.kind=1)) false false&&a.kids.all (declS (sg 100)))
end Go.Sep
namespace Go.Sep
open Go.Proofs
attribute [local irreducible] TC TO OT TCallX TCall DO DOt thenQ blockQ retQ At
theorem sl1 {m:Mem} {b:Nat} {fn:FuncId} (h:At m b 0 [.func (.func fn) ⟨[]⟩ ⟨[]⟩]):SlRep rFn m ⟨some ⟨b,0,none⟩,1,1⟩ [fn]:=SlRep.one (r:=rFn) (h:=fn) h rfl mw
theorem type_law (a:Tree):∀(m:Mem) (L:List Item) (h:HTree) (hr:TreeRep m h a) (hB:a.wide≤140737488355328),TCall Tryz.prog 71 ⟨[treeV h]⟩ m L (Ret (.bool a.isType) m L):=by
 induction a using Tree.ind with
 | h a ih =>
 intro m L h hr hB;have hp:IsPred 71 Tree.isType a.kids:=⟨goes71,fun m L h k hk hr=>ih k hk m L h hr (bG ((dh hk)) hB)⟩
 have hr':=hr;obtain⟨h1,h2,h3,h4⟩:=hr;have hl:=h4.len;refine lD ?_;rw[isType_eq];unfold TCall;refine cK Tryz.func71 rfl 47 rfl ?_;by_cases h10:a.kind=10
 ·rw[if_pos h10];obtain⟨k,n,u,s⟩:=h;obtain rfl:k=10:=h1.trans h10;refine uA ?_;refine ay (fun b=>?_);refine au goes68 (of_law _ _ ⟨10,n,u,s⟩ a hr' hB 10) ?_;refine aE (fun h7=>?_) (fun h7=>?_)
  ·refine uL ?_;refine oR goes70 (di _ _ ⟨10,n,u,s⟩ a hr' ⟨none,0,0⟩ [] none (cS _ _) (fun _ h=>by cases h) (fun _ h=>by cases h)) ?_;refine kN ?_
   simp_all [kidsR0,ofB,restB]
  ·refine uA ?_;refine jL ?_;unfold ofB at h7;rw[h10,bQ rfl,bP]at h7;rw[←Bool.and_assoc,h7];rfl
 rw[if_neg h10];by_cases h11:a.kind=11∨a.kind=12
 ·rw[if_pos h11];have h12:h.kind=11∨h.kind=12:=by rw[h1];exact h11
  obtain⟨k,n,u,s⟩:=h;rcases h12 with h12 | h12
  all_goals
   simp only at h12;subst h12;refine uA ?_;refine ay (fun b=>?_);refine au goes33 (bare_law _ _ ⟨_,n,u,s⟩ a hr' true false false) ?_;refine aE (fun h7=>?_) (fun h7=>?_)
   ·refine uL ?_;refine qs rfl (OT.lit tab rfl rfl rfl rfl (fun b2=>?_));refine cX fun m1 hm1 hA1=>?_;refine uA ?_;refine oR goes70 (di m1 _ ⟨_,n,u,s⟩ a (hr'.mono hm1) ⟨some ⟨b2,0,none⟩,1,1⟩ [(71,Tree.isType)] none (sl1 hA1) (fun p h=>by rw[List.mem_singleton.1 h];exact hp) (fun _ h=>by cases h)) ?_;refine lF ?_
    simp_all [bareB,kidsR1,restB]
   ·refine uA ?_;refine jL ?_;unfold bareB at h7;simp only[bP,cx]at h7;rw[←Bool.and_assoc,h7];rfl
 rw[if_neg h11];by_cases h13:a.kind=13
 ·rw[if_pos h13];obtain⟨k,n,u,s⟩:=h;obtain rfl:k=13:=h1.trans h13;refine uA ?_;refine ay (fun b=>?_);refine oR goes33 (bare_law _ _ ⟨13,n,u,s⟩ a hr' true false true) ?_;simp only at h2 h3 hl;refine uA ?_;refine aE (fun h7=>?_) (fun h7=>?_)
  ·have hn:a.name=[]:=by unfold bareB at h7;simpa using h7
   refine uL ?_;refine az (fun h8=>?_) (fun h8=>?_)
   ·refine uL ?_;refine az (fun h9=>?_) (fun h9=>?_)
    ·refine uL ?_;refine au goes34 (pall_law _ _ s a.kids h4 71 Tree.isType hp) ?_;refine jL ?_;simp only at h8 h9;rw[bQ hn,bQ mv,bQ mv];rfl
    ·refine uA ?_;refine jL ?_;simp only at h8 h9;rw[bQ hn,bQ mv,bR mv];rfl
   ·refine uA ?_;refine jL ?_;simp only at h8;rw[bQ hn,bR mv];rfl
  ·refine uA ?_;refine jL ?_;have hn:¬a.name=[]:=by unfold bareB at h7;simpa using h7
   rw[bR hn];rfl
 rw[if_neg h13];refine uA ?_;refine ay (fun b=>?_);exact eF
theorem param_law (a:Tree) (m:Mem) (L:List Item) (h:HTree) (hr:TreeRep m h a) (hB:a.wide≤140737488355328):TCall Tryz.prog 124 ⟨[treeV h]⟩ m L (Ret (.bool a.isParam) m L):=by
 have hp:IsPred 71 Tree.isType a.kids:=⟨goes71,fun m L h k hk hr=>type_law k m L h hr (bG ((dh hk)) hB)⟩
 refine lD ?_;unfold TCall;refine ak Tryz.func124 10 ?_;refine ay (fun b=>?_);refine au goes68 (of_law _ _ h a hr hB 8) ?_;refine aE (fun h7=>?_) (fun h7=>?_)
 ·refine uL ?_;refine qs rfl (OT.lit tab rfl rfl rfl rfl (fun b2=>?_));refine cX fun m1 hm1 hA1=>?_;refine uA ?_;refine oR goes70 (di m1 _ h a (hr.mono hm1) ⟨some ⟨b2,0,none⟩,1,1⟩ [(71,Tree.isType)] none (sl1 hA1) (fun p h=>by rw[List.mem_singleton.1 h];exact hp) (fun _ h=>by cases h)) ?_;refine lF ?_;unfold Tree.isParam
  simp_all [kidsR1,ofB,restB]
 ·refine uA ?_;refine jL ?_;unfold ofB at h7;unfold Tree.isParam;rw[←Bool.and_assoc,←Bool.and_assoc,Bool.and_assoc (decide (a.kind=8)),h7];rfl
theorem sig_law (a:Tree) (m:Mem) (L:List Item) (h:HTree) (hr:TreeRep m h a) (hB:a.wide≤140737488355328):TCall Tryz.prog 73 ⟨[treeV h]⟩ m L (Ret (.bool a.isSig) m L):=by
 have hp:IsPred 71 Tree.isType (a.kids.drop a.num.toNat):=⟨goes71,fun m L h k hk hr=>type_law k m L h hr (bG ((dh (List.mem_of_mem_drop hk))) hB)⟩
 have hp2:IsPred 124 Tree.isParam (a.kids.take a.num.toNat):=⟨goes124,fun m L h k hk hr=>param_law k m L h hr (bG ((dh (cv hk))) hB)⟩
 have hr':=hr;obtain⟨h1,h2,h3,h4⟩:=hr;have hl:=h4.len;unfold TCall;refine ak Tryz.func73 37 ?_;refine ay (fun b=>?_);refine au goes33 (bare_law _ _ h a hr' (decide (h.kind=7)) false true) ?_;refine aE (fun h7=>?_) (fun h7=>?_)
 ·have hn:a.kind=7∧a.name=[]:=by unfold bareB at h7;rw[←h1];simpa using h7
  refine uL ?_;refine az (fun h8=>?_) (fun h8=>?_)
  ·refine uL ?_;refine az (fun h9=>?_) (fun h9=>?_)
   ·refine uL ?_;have hnum:h.num=((a.num.toNat:Nat):Int):=mv;refine qs rfl (OT.cut tab rTree 0 a.num.toNat h4 rfl rfl rfl rfl rfl rfl rfl (.inl ⟨rfl,rfl⟩) (.inr (by rw[hnum])) (cn _) mv (fun s1 hs1=>?_));rw[cB]at hs1;refine uA ?_;refine au goes34 (pall_law _ _ s1 _ hs1 124 Tree.isParam hp2) ?_;have pre:a.isSig=((a.kids.take a.num.toNat).all Tree.isParam&&(a.kids.drop a.num.toNat).all Tree.isType):=by
     unfold Tree.isSig;rw[bQ hn.1,bQ hn.2,bQ (show 0≤a.num by omega),bQ (show a.num≤(a.kids.length:Int) by omega)];rfl
    refine aE (fun h10=>?_) (fun h10=>?_)
    ·refine uL ?_;refine qs rfl (OT.cut tab rTree a.num.toNat h.kids.len h4 rfl rfl rfl rfl rfl rfl rfl (.inr (by rw[hnum])) (.inl ⟨rfl,rfl⟩) mv mv (fun s2 hs2=>?_));rw[cj mv]at hs2;refine uA ?_;refine au goes34 (pall_law _ _ s2 _ hs2 71 Tree.isType hp) ?_;exact ju
    ·refine uA ?_;exact ju
   ·refine uA ?_;refine jy ?_;unfold Tree.isSig;rw[bQ hn.1,bQ hn.2,bQ (show 0≤a.num by omega),bR (show ¬a.num≤(a.kids.length:Int) by omega)];rfl
  ·refine uA ?_;refine jy ?_;unfold Tree.isSig;rw[bQ hn.1,bQ hn.2,bR (show ¬0≤a.num by omega)];rfl
 ·refine uA ?_;refine jy ?_;have hn:¬(a.kind=7∧a.name=[]):=by unfold bareB at h7;rw[←h1];simpa using h7
  unfold Tree.isSig;rw[←Bool.and_assoc,←Bool.decide_and,bR hn];rfl
end Go.Sep
namespace Go.Sep
mutual
def teq : Tree→Tree→Bool
 | .mk k n u ks,.mk k' n' u' ks'=>decide (k=k')&&(decide (n=n')&&(decide (u=u')&&teqL ks ks'))
def teqL : List Tree→List Tree→Bool
 | [],[]=>true
 | t::ts,s::ss=>teq t s&&teqL ts ss
 | [],_::_=>false
 | _::_,[]=>false
end
mutual
theorem teq_iff : ∀ a b:Tree,teq a b=true↔a=b
 | .mk k n u ks,.mk k' n' u' ks'=>by
  have:=teqL_iff ks ks';simp only[teq,bj,bw,this,Tree.mk.injEq]
theorem teqL_iff : ∀ l r:List Tree,teqL l r=true↔l=r
 | [],[]=>by simp[teqL]
 | t::ts,s::ss=>by
  have h1:=teq_iff t s;have h2:=teqL_iff ts ss;simp only[teqL,bj,h1,h2,List.cons.injEq]
 | [],_::_=>by simp[teqL]
 | _::_,[]=>by simp[teqL]
end
theorem teq_eq (a b:Tree):teq a b=(decide (a.kind=b.kind)&&(decide (a.name=b.name)&&(decide (a.num=b.num)&&teqL a.kids b.kids))):=by
 obtain⟨_,_,_,_⟩:=a;obtain⟨_,_,_,_⟩:=b;rfl
theorem teqL_len {l r:List Tree} (h:l.length≠r.length):teqL l r=false:=by
 cases hc:teqL l r with
 | false=>rfl
 | true=>exact absurd (congrArg List.length ((teqL_iff l r).1 hc)) h
theorem teqL_step (l r:List Tree) (k:Nat) (h1:k<l.length) (h2:k<r.length):teqL (l.drop k) (r.drop k)=(teq l[k] r[k]&&teqL (l.drop (k+1)) (r.drop (k+1))):=by
 rw[bU h1,bU h2,teqL]
end Go.Sep
