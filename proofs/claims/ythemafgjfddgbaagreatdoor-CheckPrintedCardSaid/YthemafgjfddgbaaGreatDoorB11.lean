/-
  Part 11 of the proof: library, walks and plain laws.
-/
import Derived.Lib.Join
import Derived.Test.YthemafgjfddgbaaGreatDoorB10
set_option linter.unusedVariables false
set_option linter.unusedSimpArgs false
set_option maxHeartbeats 6400000
namespace Go.Sep
open Go.Proofs
attribute [local irreducible] TC TO OT TCallX TCall DO DOt thenQ blockQ retQ At
def basicOf (s:Str):Int:=if s=[105,110,116]then 1 else if s=[98,111,111,108]then 2 else if s=[115,116,114,105,110,103]then 3 else 0
def withinB (a:Tree) (x y:Int):Bool:=decide ((a.size:Int)+x≤20000)&&decide ((a.deep:Int)+y≤100)
theorem withinB_eq (a:Tree) (x y:Int):withinB a x y=(decide ((a.size:Int)+x≤20000)&&decide ((a.deep:Int)+y≤100)):=rfl
mutual
def Tree.ofT : Tree→Tree
 | .mk k n u ks=>if k=10 then (if basicOf n=0 then .mk 4 n 0 []else .mk (basicOf n) [] 0 [])else if k=8 then ofHead ks else .mk (if k=11 then 5 else if k=12 then 6 else 7) [] u (ofL ks)
def ofL : List Tree→List Tree
 | []=>[]
 | t::ts=>t.ofT::ofL ts
def ofHead : List Tree→Tree
 | [] =>.mk 0 [] 0 []
 | t::_=>t.ofT
end
theorem ofL_eq : ∀ l:List Tree,ofL l=l.map Tree.ofT
 | []=>rfl
 | t::ts=>by rw[ofL,ofL_eq ts];rfl
def okNode (a:Tree):Bool:=a.isType||(a.isParam||a.isSig)
theorem isType_node {a:Tree} (h:a.isType=true):okNode a=true:=by unfold okNode;rw[h];rfl
theorem isType_facts {a:Tree} (h:a.isType=true):(a.kind=10∧a.num=0∧a.kids=[])∨((a.kind=11∨a.kind=12)∧a.num=0∧∀ k∈a.kids,k.isType=true)∨(a.kind=13∧∀ k∈a.kids,k.isType=true):=by
 rw[isType_eq]at h;split at h
 ·simp only[bu,bE]at h;exact .inl ⟨by assumption,h.1,List.length_eq_zero_iff.1 h.2.2⟩
 split at h
 ·simp only[bu,bE,bQ]at h;exact .inr (.inl ⟨by assumption,h.2.1,h.2.2.2⟩)
 split at h
 ·simp only[bu,bE,bQ]at h;exact .inr (.inr ⟨by assumption,h.2.2.2⟩)
 ·cases h
theorem isParam_facts {a:Tree} (h:a.isParam=true):a.kind=8∧∃ k,a.kids=[k]∧k.isType=true:=by
 unfold Tree.isParam at h;simp only[bu,bE,bQ]at h;obtain⟨h1,_,_,h2,h3⟩:=h
 match hk:a.kids with
 | []=>rw[hk]at h2;cases h2
 | [k]=>exact⟨h1,k,rfl,h3 k pw⟩
 | _::_::_=>rw[hk]at h2;simp at h2
theorem isSig_facts {a:Tree} (h:a.isSig=true):a.kind=7∧∀ k∈a.kids,okNode k=true:=by
 unfold Tree.isSig at h;simp only[bu,bE,bQ]at h;obtain⟨h1,_,_,_,h2,h3⟩:=h;refine⟨h1,fun k hk=>?_⟩;rw[←cn a.num.toNat a.kids,List.mem_append]at hk;rcases hk with hk | hk
 ·unfold okNode;rw[h2 k hk];simp
 ·exact isType_node (h3 k hk)
theorem okNode_facts {a:Tree} (h:okNode a=true):(a.kind=10∧a.num=0∧a.kids=[])∨((a.kind=11∨a.kind=12)∧a.num=0∧∀ k∈a.kids,okNode k=true)∨((a.kind=13∨a.kind=7)∧∀ k∈a.kids,okNode k=true)∨(a.kind=8∧∃ k,a.kids=[k]∧okNode k=true):=by
 unfold okNode at h;rw[bH,bH]at h;rcases h with h | h | h
 ·rcases isType_facts h with h | ⟨h1,h2,h3⟩ | ⟨h1,h3⟩
  ·exact .inl h
  ·exact .inr (.inl ⟨h1,h2,fun k hk=>isType_node (h3 k hk)⟩)
  ·exact .inr (.inr (.inl ⟨.inl h1,fun k hk=>isType_node (h3 k hk)⟩))
 ·obtain⟨h1,k,h2,h3⟩:=isParam_facts h;exact .inr (.inr (.inr ⟨h1,k,h2,isType_node h3⟩))
 ·obtain⟨h1,h2⟩:=isSig_facts h;exact .inr (.inr (.inl ⟨.inr h1,h2⟩))
theorem ofT_eq (a:Tree):a.ofT=if a.kind=10 then (if basicOf a.name=0 then .mk 4 a.name 0 []else .mk (basicOf a.name) [] 0 [])else if a.kind=8 then ofHead a.kids else .mk (if a.kind=11 then 5 else if a.kind=12 then 6 else 7) [] a.num (a.kids.map Tree.ofT):=by
 obtain⟨k,n,u,ks⟩:=a;simp only[Tree.kind,Tree.name,Tree.num,Tree.kids];rw[Tree.ofT,ofL_eq];rfl
def okType (a:Tree):Bool:=withinB a 3 3&&a.isType
def okSig (a:Tree):Bool:=withinB a 3 2&&a.isSig
def kindB (a:Tree):Bool :=
 if a.kind=1∨a.kind=2∨a.kind=3∨a.kind=8 then decide (a.kids.length=0)
 else if a.kind=4 then decide (a.kids.length=0)&&(isName a.name&&decide (basicOf a.name=0))
 else if a.kind=5∨a.kind=6 then decide (a.kids.length=1)
 else if a.kind=7 then decide (0≤a.num)&&decide (a.num≤(a.kids.length:Int))else false
def headB (a:Tree):Bool:=(decide (a.kind=4)||decide (a.name=[]))&&(decide (a.kind=7)||decide (a.num=0))
mutual
def Tree.formed : Tree→Bool
 | .mk k n u ks=>formedL ks&&(headB (.mk k n u ks)&&kindB (.mk k n u ks))
def formedL : List Tree→Bool
 | []=>true
 | t::ts=>(!decide (t.kind=8)&&t.formed)&&formedL ts
end
theorem formed_eq (a:Tree):a.formed=(formedL a.kids&&(headB a&&kindB a)):=by
 obtain⟨_,_,_,_⟩:=a;rfl
theorem formedL_eq : ∀ l:List Tree,formedL l=l.all (fun t=>!decide (t.kind=8)&&t.formed)
 | []=>rfl
 | t::ts=>by rw[formedL,formedL_eq ts,cq]
theorem formedL_append (l r:List Tree):formedL (l++r)=(formedL l&&formedL r):=by rw[formedL_eq,formedL_eq,formedL_eq,List.all_append]
theorem formedL_next (l:List Tree) (k:Nat) (h:k<l.length):formedL (l.take (k+1))=(formedL (l.take k)&&(!decide (l[k].kind=8)&&l[k].formed)):=by
 rw[cp h,formedL_append];simp[formedL]
theorem formedL_false {l:List Tree} {t:Tree} (hm:t∈l) (h:(!decide (t.kind=8)&&t.formed)=false):formedL l=false:=by
 rw[formedL_eq];exact List.all_eq_false.2 ⟨t,hm,by rw[h];simp⟩
def Tree.sound (a:Tree):Bool:=decide (a.size≤20000∧a.deep≤100)&&a.formed
def joinS (xs:List Str) (sep:Str):Str:=Lib.join xs sep
def commaS : Str:=[44,32]
def restS (l:List Str):Str:=if l.length=0 then []else if l.length=1 then [32]++l.headD []else [32,40]++joinS l commaS++[41]
mutual
def Tree.show : Tree→Str
 | .mk k n u ks=>if k=1 then [105,110,116]else if k=2 then [98,111,111,108]else if k=3 then [115,116,114,105,110,103]else if k=8 then [110,105,108]else if k=4 then n
  else if k=5 then [42]++(showL ks).headD []else if k=6 then [91,93]++(showL ks).headD []
  else [102,117,110,99,40]++joinS ((showL ks).take u.toNat) commaS++[41]++restS ((showL ks).drop u.toNat)
def showL : List Tree→List Str
 | []=>[]
 | t::ts=>t.show::showL ts
end
end Go.Sep
namespace Go.Sep
open Go.Proofs
attribute [local irreducible] TC TO OT TCallX TCall DO DOt thenQ blockQ retQ At
theorem basic_law (m:Mem) (L:List Item) (s:Str):TCall Tryz.prog 85 ⟨[strV s]⟩ m L (Ret (.int .i64 (basicOf s)) m L):=by
 unfold TCall;refine ag Tryz.func85 10 ?_;refine ap (fun h1=>?_) (fun h1=>?_)
 ·refine uA ?_;refine kh ?_;rw[basicOf,if_pos h1]
 refine uA ?_;refine ap (fun h2=>?_) (fun h2=>?_)
 ·refine uA ?_;refine kh ?_;rw[basicOf,if_neg h1,if_pos h2]
 refine uA ?_;refine ap (fun h3=>?_) (fun h3=>?_)
 ·refine uA ?_;refine kh ?_;rw[basicOf,if_neg h1,if_neg h2,if_pos h3]
 ·refine uA ?_;refine kh ?_;rw[basicOf,if_neg h1,if_neg h2,if_neg h3]
@[reducible] def cellI (b:Nat) (z:Int):Item:=.cells b 0 [.int .i64 z]
theorem set_get {L:List Item} {i:Nat} {x:Item} (h:L[i]? = some x) (y:Item):(L.set i y)[i]? = some y:=by
 rw[List.getElem?_set_self (List.getElem?_eq_some_iff.1 h).1]
def Low (m:Mem) (L:List Item) (i bl:Nat) (r:Bool) (z':Int):Value→Mem→List Item→Prop:=fun v m' L'=>m=m'∧v = .bool r∧∃ y:Int,L'=L.set i (cellI bl y)∧(r=true→y=z')
theorem small_law (a:Tree):∀(m:Mem) (L:List Item) (h:HTree) (hr:TreeRep m h a) (room z:Int) (i bl:Nat) (hi:L[i]? = some (cellI bl z)) (hz:0≤z∧z≤20000) (hroom:0≤room∧room≤1000),
  TCall Tryz.prog 82 ⟨[treeV h,.int .i64 room,.pointer (some ⟨bl,0,none⟩)]⟩ m L (Low m L i bl (decide ((a.size:Int)≤z∧(a.deep:Int)≤room)) (z-a.size)):=by
 induction a using Tree.ind with
 | h a ih =>
 intro m L h hr room z i bl hi hz hroom;obtain⟨h1,h2,h3,h4⟩:=hr;have hl:=h4.len;have hsm:=h4.small rfl;have hsz:=size_kids a;have hdp:=deep_kids a;unfold TCall;refine ag Tryz.func82 36 ?_;refine oB (fun b=>?_);refine lX ?_;have hset:=fun y=>set_get hi (cellI bl y);refine uA ?_;refine qs rfl (OT.loadL0 tab (i+1) rfl rfl rfl rfl (hset _) rfl ?_);have bad:∀ {y:Int},¬((a.size:Int)≤z∧(a.deep:Int)≤room)→Low m L i bl (decide ((a.size:Int)≤z∧(a.deep:Int)≤room)) (z-a.size) (.bool false) m (L.set i (cellI bl y)):=fun {y} hn=>⟨rfl,by rw[bU hn],y,rfl,fun hd=>absurd (of_decide_eq_true hd) hn⟩
 refine uA ?_;refine az (fun h5=>?_) (fun h5=>?_)
 ·refine uN ?_;refine TC.cond_t rfl ?_;refine uN ?_;exact jG
 refine uN ?_;refine ap (fun h6=>?_) (fun h6=>?_)
 ·refine uN ?_;exact jG
 refine uL ?_;refine cG (ι:=Nat×Int) [1,2,23,24] rfl (fun x=>[(25,.int .i64 (x.1:Int))]) (fun _=>m) (fun x=>.cells b 0 (treeC h)::L.set i (cellI bl x.2)) (fun x=>x.1≤a.kids.length∧x.2=z-1-sizeL (a.kids.take x.1)∧0≤x.2∧(deepL (a.kids.take x.1):Int)≤room-1) (fun x=>a.kids.length-x.1) (0,z-1) uH rfl uS ⟨cm _,by simp[sizeL],by simp only;omega,by simp[deepL];omega⟩ ?_;rintro⟨k,y⟩ ⟨hk,hy,hy0,hd⟩;simp only at hk hy hy0 hd ⊢;refine uA ?_;refine ap (fun h=>?_) (fun h=>?_)
 ·have hlt:k<a.kids.length:=ou;have hx:a.kids[k]? = some a.kids[k]:=oG;have hmem:=bN hlt;have e1:=sizeL_next a.kids k hlt;have e2:=deepL_next a.kids k hlt;have e3:=sizeL_take a.kids (k+1);have e4:=deepL_take a.kids (k+1);refine li ?_;rintro b' i' h' hrd hA;refine lg ?_;refine aB tab (fun b2=>?_);refine kH ?_;refine aa (r':=room-1) uH ou ?_;refine oC goes82 ((ih _ hmem _ _ h' (rTree_iff.1 hrd) (room-1) y (i+2) bl (hset y) ou ou).x ?_);rintro _ _ L3 ⟨rfl,rfl,y',hL,hy'⟩;have hL2:∀(x1 x2:Item),(x1::x2::L.set i (cellI bl y)).set (i+2) (cellI bl y')=x1::x2::L.set i (cellI bl y'):=fun x1 x2=>by simp[List.set_set]
  replace hL:=hL.trans (hL2 (.cells b2 0 (treeC h')) _);subst hL;refine uA ?_;refine a7 (fun h7=>?_) (fun h7=>?_)
  ·refine uA ?_;exact jG
  ·refine uA ?_;refine kq ?_;have:=hy' (bS h7);exact⟨(k+1,y'),uH,uH,rfl,rfl,uS,⟨by simp only;omega,by simp only;omega,by simp only;omega,by simp only;omega⟩,by simp only;omega⟩
 ·refine uA ?_;refine ah ⟨rfl,?_,y,rfl,?_⟩
  ·rw[cl ou]at hy hd;rw[bS];omega
  ·intro _;rw[cl ou]at hy;omega
def MadeT (m:Mem) (L:List Item) (x:Tree):Value→Mem→List Item→Prop:=Made m L fun r m'=>∃ h:HTree,r=treeV h∧TreeRep m' h x
theorem TreeRep.leaf (m:Mem) (k:Int) (n:Str) (u:Int):TreeRep m ⟨k,n,u,⟨none,0,0⟩⟩ (.mk k n u []):=⟨rfl,rfl,rfl,cR _ _⟩
theorem rot3 {α:Type} {a b c:α} {L:List α}:(a::b::c::L).Perm (b::c::a::L):=(bm b a _).trans ((bm c a _).cons b)
theorem ofN_law (a:Tree):∀(hn:okNode a=true) (m:Mem) (L:List Item) (h:HTree) (hr:TreeRep m h a) (hB:a.size≤1048576),TCall Tryz.prog 83 ⟨[treeV h]⟩ m L (MadeT m L a.ofT):=by
 induction a using Tree.ind with
 | h a ih =>
 intro hn m L h hr hB;have hr':=hr;obtain⟨h1,h2,h3,h4⟩:=hr;have hl:=h4.len;have hsm:=h4.small rfl;have hbl:=Pt.len_size a;rw[ofT_eq];unfold TCall;refine cJ Tryz.func83 rfl 55 rfl ?_;rcases okNode_facts hn with ⟨h10,hu,hks⟩ | ⟨h11,hu,hkn⟩ | ⟨h13,hkn⟩ | ⟨h8,k,hks,hkn⟩
 ·rw[if_pos h10];obtain⟨k,n,u,s⟩:=h;obtain rfl:k=10:=h1.trans h10;refine uA ?_;refine oB (fun b=>?_);refine uA ?_;refine oA tab (fun b2=>?_);refine uL ?_;refine aB tab (fun b3=>?_);refine kH ?_;refine au goes85 (basic_law _ _ n) ?_;refine kH ?_;refine ap (fun h0=>?_) (fun h0=>?_)
  ·simp only at h2 h3;rw[←h2,if_pos h0];refine aO [] dc 6 [_,_] (_::L) rot3 ?_;refine cT tab uC uK [0,2] uK rfl ?_;refine a8 1 [3] ⟨⟨_,rfl,rfl,rfl,?_⟩,⟨_,rfl,rfl,rfl,?_⟩,trivial⟩
   ·refine OT.loadL tab 1 rfl rfl rfl rfl rfl rfl ?_;refine ko ?_;refine af 3 ?_;refine aE 2 ?_;exact fj
   ·refine aE 2 ?_;refine ko ?_;refine af 1 ?_;refine OT.loadL tab 1 rfl rfl rfl rfl rfl rfl ?_;exact fj
  ·rw[if_neg (by rw[←h2];exact h0)];refine uL ?_;refine kc ?_;refine aw 1 ⟨cB _,rfl,⟨basicOf n,[],u,⟨none,0,0⟩⟩,rfl,?_⟩;simp only at h2 h3;rw[←h2,h3,hu];exact TreeRep.leaf _ _ _ _
 ·have h10:¬a.kind=10:=ou;have h8:¬a.kind=8:=ou;rw[if_neg h10,if_neg h8];have h12:h.kind=11∨h.kind=12:=by rw[h1];exact h11
  obtain⟨k,n,u,s⟩:=h;rcases h12 with h12 | h12
  ·simp only at h12;subst h12;rw[if_pos (show a.kind=11 from h1.symm)];refine uA ?_;refine oB (fun b=>?_);refine uA ?_;refine oA tab (fun b2=>?_);refine uL ?_;refine aB tab (fun b3=>?_);refine nC ?_;refine cG (ι:=Grow) [1,2,3,40,41] rfl (fun g=>[(42,.int .i64 (g.k:Int))]) (fun g=>g.m) (fun g=>tok g.s 4::.cells b3 0 [.int .i64 5,strV [],.int .i64 u,g.s.v]::.cells b2 0 (treeC ⟨0,[],0,⟨none,0,0⟩⟩)::.cells b 0 (treeC ⟨11,n,u,s⟩)::L) (fun g=>g.k≤a.kids.length∧SlRep rTree g.m g.s ((a.kids.take g.k).map Tree.ofT)∧Own g.s∧m≤g.m) (fun g=>a.kids.length-g.k) ⟨0,⟨none,0,0⟩,m⟩ uH rfl uS ⟨cm _,cR _ _,cX,cB _⟩ ?_;exact dJ
  ·simp only at h12;subst h12;rw[if_neg (show ¬a.kind=11 from fun e=>by rw[e]at h1;cases h1),if_pos (show a.kind=12 from h1.symm)];refine uA ?_;refine oB (fun b=>?_);refine uA ?_;refine oA tab (fun b2=>?_);refine uL ?_;refine aB tab (fun b3=>?_);refine nC ?_;refine cG (ι:=Grow) [1,2,3,40,41] rfl (fun g=>[(42,.int .i64 (g.k:Int))]) (fun g=>g.m) (fun g=>tok g.s 4::.cells b3 0 [.int .i64 6,strV [],.int .i64 u,g.s.v]::.cells b2 0 (treeC ⟨0,[],0,⟨none,0,0⟩⟩)::.cells b 0 (treeC ⟨12,n,u,s⟩)::L) (fun g=>g.k≤a.kids.length∧SlRep rTree g.m g.s ((a.kids.take g.k).map Tree.ofT)∧Own g.s∧m≤g.m) (fun g=>a.kids.length-g.k) ⟨0,⟨none,0,0⟩,m⟩ uH rfl uS ⟨cm _,cR _ _,cX,cB _⟩ ?_;exact dJ
 ·have h10:¬a.kind=10:=ou;have h8:¬a.kind=8:=ou;rw[if_neg h10,if_neg h8,if_neg ou,if_neg ou];have h12:h.kind=13∨h.kind=7:=by rw[h1];exact h13
  obtain⟨k,n,u,s⟩:=h;rcases h12 with h12 | h12
  ·simp only at h12;subst h12;refine uA ?_;refine oB (fun b=>?_);refine uA ?_;refine oA tab (fun b2=>?_);refine uL ?_;refine aB tab (fun b3=>?_);refine nC ?_;refine cG (ι:=Grow) [1,2,3,40,41] rfl (fun g=>[(42,.int .i64 (g.k:Int))]) (fun g=>g.m) (fun g=>tok g.s 4::.cells b3 0 [.int .i64 7,strV [],.int .i64 u,g.s.v]::.cells b2 0 (treeC ⟨0,[],0,⟨none,0,0⟩⟩)::.cells b 0 (treeC ⟨13,n,u,s⟩)::L) (fun g=>g.k≤a.kids.length∧SlRep rTree g.m g.s ((a.kids.take g.k).map Tree.ofT)∧Own g.s∧m≤g.m) (fun g=>a.kids.length-g.k) ⟨0,⟨none,0,0⟩,m⟩ uH rfl uS ⟨cm _,cR _ _,cX,cB _⟩ ?_;exact dJ
  ·simp only at h12;subst h12;refine uA ?_;refine oB (fun b=>?_);refine uA ?_;refine oA tab (fun b2=>?_);refine uL ?_;refine aB tab (fun b3=>?_);refine nC ?_;refine cG (ι:=Grow) [1,2,3,40,41] rfl (fun g=>[(42,.int .i64 (g.k:Int))]) (fun g=>g.m) (fun g=>tok g.s 4::.cells b3 0 [.int .i64 7,strV [],.int .i64 u,g.s.v]::.cells b2 0 (treeC ⟨0,[],0,⟨none,0,0⟩⟩)::.cells b 0 (treeC ⟨7,n,u,s⟩)::L) (fun g=>g.k≤a.kids.length∧SlRep rTree g.m g.s ((a.kids.take g.k).map Tree.ofT)∧Own g.s∧m≤g.m) (fun g=>a.kids.length-g.k) ⟨0,⟨none,0,0⟩,m⟩ uH rfl uS ⟨cm _,cR _ _,cX,cB _⟩ ?_;exact dJ
 ·rw[if_neg ou,if_pos h8,hks];have hmem:k∈a.kids:=by rw[hks];simp
  obtain⟨k',n,u,s⟩:=h;obtain rfl:k'=8:=h1.trans h8;have hx:a.kids[0]? = some k:=by rw[hks];rfl
  refine uA ?_;refine oB (fun b=>?_);refine uA ?_;refine oA tab (fun b2=>?_);refine uL ?_;refine aB tab (fun b3=>?_);refine kH ?_;refine my ?_;rintro b' i' h' hrd hA;refine lg ?_;refine oC goes83 ((ih k hmem hkn _ _ h' (rTree_iff.1 hrd) (bJ (Nat.le_of_lt (Pt.kid_size hmem)) hB)).x ?_);rintro _ m2 _ ⟨hm2,rfl,ht2,rfl,hrt⟩;refine kx ?_;exact retQ_ret_c1 tab 1 rfl rfl rfl rfl uS ⟨hm2,rfl,ht2,rfl,hrt⟩
def okT (a:Tree):Bool:=okType a||okSig a
def ofRes (a:Tree):Tree×Int:=if okT a=true then (a.ofT,0)else (.mk 0 [] 0 [],2)
def MadeTI (m:Mem) (L:List Item) (x:Tree×Int):Value→Mem→List Item→Prop:=Made m L fun r m'=>∃ h:HTree,r = .tuple ⟨[treeV h,.int .i64 x.2]⟩∧TreeRep m' h x.1
theorem okT_node {a:Tree} (h:okT a=true):okNode a=true:=by
 unfold okT okType okSig at h;unfold okNode;rw[bH,bu,bu]at h;rcases h with h | h
 ·rw[h.2];rfl
 ·rw[h.2];simp
theorem okT_size {a:Tree} (h:okT a=true):a.size≤1048576:=by
 unfold okT okType okSig at h;rw[withinB_eq,withinB_eq]at h;simp only[bH,bu,bE]at h;omega
theorem type_not7 {a:Tree} (h:a.isType=true):¬a.kind=7:=by
 rcases isType_facts h with h | h | h<;>omega
theorem of_own (a:Tree) (m:Mem) (L:List Item) (h:HTree) (hr:TreeRep m h a) (hB:a.wide≤140737488355328):TCall Tryz.prog 38 ⟨[treeV h]⟩ m L (MadeTI m L (ofRes a)):=by
 have hk:=hr.kind;unfold TCall;refine ag Tryz.func38 28 ?_;refine oB (fun b=>?_);refine uA ?_;refine aB tab (fun b2=>?_);refine aB tab (fun b3=>?_);refine kH ?_;refine ap (fun h7=>?_) (fun h7=>?_)
 ·refine uA ?_;refine qs rfl (OT.arith (r':=98) rfl rfl rfl rfl rfl rfl rfl ou ?_);refine uL ?_;have hsB:∀ r:Bool,r=decide ((a.size:Int)≤19997∧(a.deep:Int)≤98)→(r=true→(a.isType=true∨a.isSig=true)→okT a=true)∧(r=false→okT a=false):=by
   exact ey
  have hno:a.isType=false→a.isSig=false→okT a=false:=fun h1 h2=>by unfold okT okType okSig;rw[h1,h2];simp
  refine oC goes82 ((small_law a _ _ h hr 98 19997 0 b3 rfl ou ou).x ?_);rintro v _ L3 ⟨rfl,hv,y,hL,_⟩;generalize hsm:decide ((a.size:Int)≤19997∧(a.deep:Int)≤98)=sm at hv;exact dX
 ·refine uL ?_;have hsB:∀ r:Bool,r=decide ((a.size:Int)≤19997∧(a.deep:Int)≤97)→(r=true→(a.isType=true∨a.isSig=true)→okT a=true)∧(r=false→okT a=false):=by
   exact ey
  have hno:a.isType=false→a.isSig=false→okT a=false:=fun h1 h2=>by unfold okT okType okSig;rw[h1,h2];simp
  refine oC goes82 ((small_law a _ _ h hr 97 19997 0 b3 rfl ou ou).x ?_);rintro v _ L3 ⟨rfl,hv,y,hL,_⟩;generalize hsm:decide ((a.size:Int)≤19997∧(a.deep:Int)≤97)=sm at hv;exact dX
end Go.Sep
namespace Go
abbrev du := @Sep.TreeRep.leaf
end Go
namespace Go.Sep
open Go.Proofs
attribute [local irreducible] TC TO OT TCallX TCall DO DOt thenQ blockQ retQ At
theorem equalFunc_law (m:Mem) (L:List Item) (s t:Sl) (l r:List Tree) (hs:SlRep rTree m s l) (ht:SlRep rTree m t r)
  (hp:∀ a∈l,∀(c:Tree) (m:Mem) (L:List Item) (h g:HTree),TreeRep m h a→TreeRep m g c→TCall Tryz.prog 203 ⟨[treeV h,treeV g]⟩ m L (Ret (.bool (teq a c)) m L)) :
  TCall Tryz.prog 215 ⟨[s.v,t.v,.func (.func 203) ⟨[]⟩ ⟨[]⟩]⟩ m L (Ret (.bool (teqL l r)) m L):=by
 have hl:=hs.len;have gl:=ht.len;have gsm:=ht.small rfl;unfold TCall;refine ag Tryz.func215 32 ?_;refine a7 (fun e4=>?_) (fun e4=>?_)
 ·refine uA ?_;refine kh ?_;rw[teqL_len ou]
 refine uA ?_;refine cG (ι:=Nat) [1,2,15,16] rfl (fun k=>[(17,.int .i64 (k:Int))]) (fun _=>m) (fun _=>L) (fun k=>k≤l.length∧teqL l r=teqL (l.drop k) (r.drop k)) (fun k=>l.length-k) 0 uH rfl uS ⟨cm _,rfl⟩ ?_;rintro k ⟨hk,hI⟩;refine uA ?_;refine ap (fun hlt'=>?_) (fun hlt'=>?_)
 ·have hlt:k<l.length:=ou;have hlt2:k<r.length:=ou;have hx:l[k]? = some l[k]:=oG;have hx2:r[k]? = some r[k]:=pg;rw[teqL_step _ _ k hlt hlt2]at hI;refine l7 ?_;rintro b' i' h' hrd hA;refine lg ?_;refine aB tab (fun b1=>?_);refine kc ?_;refine al tab rTree k ht uH oy rfl hx2 ?_;rintro b'' i'' g' grd gA;refine an tab gA ?_;refine aB tab (fun b2=>?_);refine kH ?_;refine au goes203 (hp _ (bN hlt) r[k] _ _ h' g' (rTree_iff.1 hrd) (rTree_iff.1 grd)) ?_;refine aQ (t:=!teq l[k] r[k]) (fun e5=>?_) (fun e5=>?_)
  ·exact jf
  ·exact gz
 ·exact jo
theorem equal_law (a:Tree):∀(c:Tree) (m:Mem) (L:List Item) (h g:HTree) (hr:TreeRep m h a) (gr:TreeRep m g c),TCall Tryz.prog 203 ⟨[treeV h,treeV g]⟩ m L (Ret (.bool (teq a c)) m L):=by
 induction a using Tree.ind with
 | h a ih =>
 intro c m L h g hr gr;obtain⟨h1,h2,h3,h4⟩:=hr;obtain⟨g1,g2,g3,g4⟩:=gr;rw[teq_eq,←h1,←g1,←h2,←g2,←h3,←g3];unfold TCall;refine ag Tryz.func203 31 ?_;refine oB (fun b=>?_);refine uA ?_;refine ay (fun b2=>?_);refine az (fun e1=>?_) (fun e1=>?_)
 ·refine uL ?_;refine az (fun e2=>?_) (fun e2=>?_)
  ·refine uL ?_;refine az (fun e3=>?_) (fun e3=>?_)
   ·refine uL ?_;refine au goes215 (equalFunc_law _ _ h.kids g.kids _ _ h4 g4 (fun k hk=>ih k hk)) ?_;refine kh ?_;rw[bS e1,bS e2,bS e3];rfl
   ·exact jI
  ·exact jP
 ·exact fN
end Go.Sep
namespace Go.Sep
open Go.Proofs
attribute [local irreducible] TC TO OT TCallX TCall DO DOt thenQ blockQ retQ At
theorem kindB_leaf {a:Tree} (h:a.kind=1∨a.kind=2∨a.kind=3∨a.kind=8):kindB a=decide (a.kids.length=0):=by unfold kindB;rw[if_pos h]
theorem kindB_4 {a:Tree} (h:a.kind=4):kindB a=(decide (a.kids.length=0)&&(isName a.name&&decide (basicOf a.name=0))):=by unfold kindB;rw[if_neg ou,if_pos h]
theorem kindB_5 {a:Tree} (h:a.kind=5∨a.kind=6):kindB a=decide (a.kids.length=1):=by unfold kindB;rw[if_neg ou,if_neg ou,if_pos h]
theorem kindB_7 {a:Tree} (h:a.kind=7):kindB a=(decide (0≤a.num)&&decide (a.num≤(a.kids.length:Int))):=by unfold kindB;rw[if_neg ou,if_neg ou,if_neg ou,if_pos h]
theorem kindB_no {a:Tree} (h1:¬(a.kind=1∨a.kind=2∨a.kind=3∨a.kind=8)) (h2:¬a.kind=4) (h3:¬(a.kind=5∨a.kind=6)) (h4:¬a.kind=7):kindB a=false:=by unfold kindB;rw[if_neg h1,if_neg h2,if_neg h3,if_neg h4]
def fitsB (a:Tree) (z d:Int):Bool:=decide ((a.size:Int)≤z∧(a.deep:Int)+d≤101)
theorem tsound_law (a:Tree):∀(m:Mem) (L:List Item) (h:HTree) (hr:TreeRep m h a) (hB:a.wide≤140737488355328) (d z:Int) (i bl:Nat) (hi:L[i]? = some (cellI bl z)) (hz:0≤z∧z≤20000) (hd:0≤d∧d≤101),
  TCall Tryz.prog 134 ⟨[treeV h,.int .i64 d,.pointer (some ⟨bl,0,none⟩)]⟩ m L (Low m L i bl (fitsB a z d&&a.formed) (z-a.size)):=by
 induction a using Tree.ind with
 | h a ih =>
 intro m L h hr hB d z i bl hi hz hd;obtain⟨h1,h2,h3,h4⟩:=hr;have hl:=h4.len;have hsm:=h4.small rfl;have hsz:=size_kids a;have hdp:=deep_kids a;have hnl:=wide_name a;obtain⟨q,n,u,s⟩:=h;simp only at h1 h2 h3 h4 hl;unfold TCall;refine cJ Tryz.func134 rfl 112 rfl ?_;have bad:∀ {y:Int},(fitsB a z d&&a.formed)=false→Low m L i bl (fitsB a z d&&a.formed) (z-a.size) (.bool false) m (L.set i (cellI bl y)):=fun {y} hn=>⟨rfl,by rw[hn],y,rfl,fun hd=>by rw[hn]at hd;cases hd⟩
 have bad1:∀ {y:Int},¬((a.size:Int)≤z∧(a.deep:Int)+d≤101)→Low m L i bl (fitsB a z d&&a.formed) (z-a.size) (.bool false) m (L.set i (cellI bl y)):=fun hn=>bad (by unfold fitsB;rw[bU hn];rfl);have bad2:∀ {y:Int},headB a=false→Low m L i bl (fitsB a z d&&a.formed) (z-a.size) (.bool false) m (L.set i (cellI bl y)):=fun hn=>bad (by rw[formed_eq,hn];simp);have bad3:∀ {y:Int},formedL a.kids=false→Low m L i bl (fitsB a z d&&a.formed) (z-a.size) (.bool false) m (L.set i (cellI bl y)):=fun hn=>bad (by rw[formed_eq,hn];simp);have hset:=fun y=>set_get hi (cellI bl y);refine uA ?_;refine oB (fun b=>?_);refine lX ?_;refine uA ?_;refine qs rfl (OT.loadL0 tab (i+1) rfl rfl rfl rfl (hset _) rfl ?_);refine uA ?_;refine az (fun h5=>?_) (fun h5=>?_)
 ·exact jb
 refine uN ?_;refine az (fun h6=>?_) (fun h6=>?_)
 ·exact jb
 refine uL ?_;by_cases k4:a.kind=4
 ·obtain rfl:q=4:=h1.trans k4;refine uL ?_;refine a7 (fun e2=>?_) (fun e2=>?_)
  ·refine uA ?_;exact cH rfl uS (bad2 (by unfold headB;rw[←h3,bU e2,bU (show ¬a.kind=7 by omega)];simp))
  have hhd:headB a=true:=by unfold headB;rw[←h3,bS k4,bS e2];simp
  refine uL ?_;refine cG (ι:=Nat×Int) [1,2,3,43,44] rfl (fun x=>[(45,.int .i64 (x.1:Int))]) (fun _=>m) (fun x=>.cells b 0 (treeC ⟨4,n,u,s⟩)::L.set i (cellI bl x.2)) (fun x=>x.1≤a.kids.length∧x.2=z-1-sizeL (a.kids.take x.1)∧0≤x.2∧(deepL (a.kids.take x.1):Int)+d≤100∧formedL (a.kids.take x.1)=true) (fun x=>a.kids.length-x.1) (0,z-1) uH rfl uS ⟨cm _,by simp[sizeL],by simp only;omega,by simp[deepL];omega,rfl⟩ ?_;rintro⟨k,y⟩ ⟨hk,hy,hy0,hd',hI⟩;simp only at hk hy hy0 hd' hI ⊢;refine uA ?_;refine ap (fun hlt'=>?_) (fun hlt'=>?_)
  ·exact dN
  rw[cl ou]at hy hd' hI;have hall:(fitsB a z d&&a.formed)=kindB a:=by
   exact iM
  have good:∀ {r:Bool},r=kindB a→Low m L i bl (fitsB a z d&&a.formed) (z-a.size) (.bool r) m (L.set i (cellI bl y)):=fun hr=>⟨rfl,by rw[hall,hr],y,rfl,fun _=>by omega⟩
  have hkb:=kindB_4 k4;refine uL ?_;refine az (fun e5=>?_) (fun e5=>?_)
  ·simp only at e5;refine uL ?_;refine oR goes84 (name_law _ _ n (by rw[h2];omega)) ?_;refine uA ?_;refine aF (b:=isName n) (fun e6=>?_) (fun e6=>?_)
   ·refine uL ?_;refine au goes85 (basic_law _ _ n) ?_;refine ah (good ?_);rw[hkb,←h2,e6,bS (show a.kids.length=0 by omega)];rfl
   ·refine uA ?_;refine ah (good ?_);rw[hkb,←h2,e6];simp
  ·simp only at e5;refine uA ?_;refine ah (good ?_);rw[hkb,bU (show ¬a.kids.length=0 by omega)];rfl
 have n4:=k4;by_cases h7:a.kind=7
 ·obtain rfl:q=7:=h1.trans h7;refine uL ?_;refine cK rfl rfl (fun e1=>?_) (fun e1=>?_)
  ·exact ji
  have hhd:headB a=true:=by unfold headB;rw[←h2,bS e1,bS h7];simp
  refine uL ?_;refine cG (ι:=Nat×Int) [1,2,3,43,44] rfl (fun x=>[(45,.int .i64 (x.1:Int))]) (fun _=>m) (fun x=>.cells b 0 (treeC ⟨7,n,u,s⟩)::L.set i (cellI bl x.2)) (fun x=>x.1≤a.kids.length∧x.2=z-1-sizeL (a.kids.take x.1)∧0≤x.2∧(deepL (a.kids.take x.1):Int)+d≤100∧formedL (a.kids.take x.1)=true) (fun x=>a.kids.length-x.1) (0,z-1) uH rfl uS ⟨cm _,by simp[sizeL],by simp only;omega,by simp[deepL];omega,rfl⟩ ?_;rintro⟨k,y⟩ ⟨hk,hy,hy0,hd',hI⟩;simp only at hk hy hy0 hd' hI ⊢;refine uA ?_;refine ap (fun hlt'=>?_) (fun hlt'=>?_)
  ·exact dN
  rw[cl ou]at hy hd' hI;have hall:(fitsB a z d&&a.formed)=kindB a:=by
   exact iM
  have good:∀ {r:Bool},r=kindB a→Low m L i bl (fitsB a z d&&a.formed) (z-a.size) (.bool r) m (L.set i (cellI bl y)):=fun hr=>⟨rfl,by rw[hall,hr],y,rfl,fun _=>by omega⟩
  have hkb:=kindB_7 h7;refine uL ?_;refine az (fun e5=>?_) (fun e5=>?_)
  ·simp only at e5;refine uL ?_;refine ah (good ?_);rw[hkb,bS (show 0≤a.num by omega),bR]
   congr 1
   apply propext
   (try simp only)
   omega
  ·simp only at e5;refine uA ?_;refine ah (good ?_);rw[hkb,bU (show ¬0≤a.num by omega)];rfl
 have n7:=h7;refine cK rfl rfl (fun e0=>?_) (fun e0=>?_)
 ·refine uL ?_;refine cK rfl rfl (fun e1=>?_) (fun e1=>?_)
  ·exact ji
  refine uL ?_;refine cK rfl rfl (fun e3=>?_) (fun e3=>?_)
  ·refine uL ?_;refine a7 (fun e2=>?_) (fun e2=>?_)
   ·refine uA ?_;exact cH rfl uS (bad2 (by unfold headB;rw[←h3,bU e2,bU h7];simp))
   have hhd:headB a=true:=by unfold headB;rw[←h2,←h3,bS e1,bS e2];simp
   refine uL ?_;refine cG (ι:=Nat×Int) [1,2,3,43,44] rfl (fun x=>[(45,.int .i64 (x.1:Int))]) (fun _=>m) (fun x=>.cells b 0 (treeC ⟨q,n,u,s⟩)::L.set i (cellI bl x.2)) (fun x=>x.1≤a.kids.length∧x.2=z-1-sizeL (a.kids.take x.1)∧0≤x.2∧(deepL (a.kids.take x.1):Int)+d≤100∧formedL (a.kids.take x.1)=true) (fun x=>a.kids.length-x.1) (0,z-1) uH rfl uS ⟨cm _,by simp[sizeL],by simp only;omega,by simp[deepL];omega,rfl⟩ ?_;rintro⟨k,y⟩ ⟨hk,hy,hy0,hd',hI⟩;simp only at hk hy hy0 hd' hI ⊢;refine uA ?_;refine ap (fun hlt'=>?_) (fun hlt'=>?_)
   ·exact dN
   rw[cl ou]at hy hd' hI;have hall:(fitsB a z d&&a.formed)=kindB a:=by
    exact iM
   have good:∀ {r:Bool},r=kindB a→Low m L i bl (fitsB a z d&&a.formed) (z-a.size) (.bool r) m (L.set i (cellI bl y)):=fun hr=>⟨rfl,by rw[hall,hr],y,rfl,fun _=>by omega⟩
   by_cases hA:a.kind=1∨a.kind=2∨a.kind=3∨a.kind=8
   ·have hkb:=kindB_leaf hA;rcases hA with hA | hA | hA | hA
    ·obtain rfl:q=1:=h1.trans hA;exact eZ
    ·obtain rfl:q=2:=h1.trans hA;exact eZ
    ·obtain rfl:q=3:=h1.trans hA;exact eZ
    ·obtain rfl:q=8:=h1.trans hA;exact eZ
   by_cases hC:a.kind=5∨a.kind=6
   ·have hkb:=kindB_5 hC;rcases hC with hC | hC
    ·obtain rfl:q=5:=h1.trans hC;exact eZ
    ·obtain rfl:q=6:=h1.trans hC;exact eZ
   have hkb:=kindB_no hA n4 hC n7;refine uL ?_;refine ap (fun e5=>?_) (fun e5=>?_)
   ·simp only at e5;omega
   refine uA ?_;refine ap (fun e5=>?_) (fun e5=>?_)
   ·simp only at e5;omega
   refine uA ?_;refine ap (fun e5=>?_) (fun e5=>?_)
   ·simp only at e5;omega
   refine uA ?_;refine ap (fun e5=>?_) (fun e5=>?_)
   ·simp only at e5;omega
   refine uA ?_;refine ap (fun e5=>?_) (fun e5=>?_)
   ·simp only at e5;omega
   refine uA ?_;refine ap (fun e5=>?_) (fun e5=>?_)
   ·simp only at e5;omega
   refine uA ?_;refine ap (fun e5=>?_) (fun e5=>?_)
   ·simp only at e5;omega
   refine uL ?_;refine az (fun e5=>?_) (fun e5=>?_)
   ·simp only at e5;omega
   refine uA ?_;exact cH rfl uS (good hkb.symm)
  ·simp only at e3;omega
 ·simp only at e0;omega
theorem isSound_law (a:Tree) (m:Mem) (L:List Item) (h:HTree) (hr:TreeRep m h a) (hB:a.wide≤140737488355328):TCall Tryz.prog 87 ⟨[treeV h]⟩ m L (Ret (.bool a.sound) m L):=by
 unfold TCall;refine ag Tryz.func87 6 ?_;refine oB (fun b=>?_);refine uA ?_;refine aB tab (fun b2=>?_);refine kH ?_;refine oC goes134 ((tsound_law a _ _ h hr hB 1 20000 0 b2 rfl ou ou).x ?_);rintro v _ L3 ⟨rfl,rfl,y,rfl,_⟩;refine kP ?_;unfold fitsB Tree.sound
 congr 2
 congr 1
 apply propext;omega
attribute [local irreducible] Tree.sound
end Go.Sep
namespace Go.Sep
open Go.Proofs
attribute [local irreducible] TC TO OT TCallX TCall DO DOt thenQ blockQ retQ At
structure HDecl where
 name:Str
 iface:Bool
 fields:Sl
 methods:Sl
@[reducible] def declV (h:HDecl):Value:=.agg ⟨[strV h.name,.bool h.iface,h.fields.v,h.methods.v]⟩
def declZ : HDecl:=⟨[],false,⟨none,0,0⟩,⟨none,0,0⟩⟩
def EntsOk (es:Ents Str):Prop:=∀ x,∃ h:HDecl,(mget es x).getD (declV declZ)=declV h
theorem EntsOk.nil : EntsOk []:=fun x=>⟨declZ,rfl⟩
mutual
def tknown (has:Str→Bool):Tree→Bool
 | .mk k n u ks=>(!decide (k=4)||has n)&&(!decide (k=8)&&tknownL has ks)
def tknownL (has:Str→Bool):List Tree→Bool
 | []=>true
 | t::ts=>tknown has t&&tknownL has ts
end
theorem tknown_eq (has:Str→Bool) (a:Tree):tknown has a=((!decide (a.kind=4)||has a.name)&&(!decide (a.kind=8)&&tknownL has a.kids)):=by
 obtain⟨_,_,_,_⟩:=a;rfl
theorem tknownL_eq (has:Str→Bool):∀ l:List Tree,tknownL has l=l.all (tknown has)
 | []=>rfl
 | t::ts=>by rw[tknownL,tknownL_eq has ts,cq]
theorem tknown_law (bt c:Nat) (es:Ents Str) (hok:EntsOk es) (a:Tree):∀(m:Mem) (L:List Item) (h:HTree) (hr:TreeRep m h a) (ho:m.o bt=some (mapO kStr es c)),
  TCall Tryz.prog 88 ⟨[.map (some bt),treeV h]⟩ m L (Ret (.bool (tknown (mhas es) a)) m L):=by
 induction a using Tree.ind with
 | h a ih =>
 intro m L h hr ho;obtain⟨h1,h2,h3,h4⟩:=hr;have hl:=h4.len;have hsm:=h4.small rfl;rw[tknown_eq,←h1,←h2];unfold TCall;refine cJ Tryz.func88 rfl 40 rfl ?_;obtain⟨hd,hhd⟩:=hok h.name;refine uA ?_;refine ay (fun b=>?_);refine qs rfl (OT.lookupOkP tab kStr h.name rfl rfl rfl rfl rfl rfl rfl ho ?_);refine TO.conv ?_ (congrArg (fun z=>Value.tuple ⟨[z,.bool (mhas es h.name)]⟩) hhd);refine uA ?_;refine aB tab (fun b5=>?_);refine kH ?_
 (first | refine TO.splitP rfl rfl (fun e1=>?_) (fun e1=>?_) | refine cK rfl rfl (fun e1=>?_) (fun e1=>?_) | refine TO.split rfl rfl (fun e1=>?_) (fun e1=>?_))
 ·refine uA ?_;refine aF (b:=!mhas es h.name) (fun e2=>?_) (fun e2=>?_)
  ·rw[Bool.not_eq_true']at e2;refine kP ?_;rw[bS e1,e2];rfl
  ·rw[Bool.not_eq_false']at e2;refine uL ?_;refine ap (fun e3=>?_) (fun e3=>?_)
   ·omega
   ·refine uL ?_;refine lQ ?_;rintro k ⟨hk,hI⟩;refine uA ?_;refine ap (fun hlt'=>?_) (fun hlt'=>?_)
    ·exact d9
    ·rw[cl ou]at hI;refine kP ?_;rw[tknownL_eq,hI];rw[bS e1,e2,bU e3];rfl
 ·refine uL ?_;refine ap (fun e3=>?_) (fun e3=>?_)
  ·refine uA ?_;refine kh ?_;rw[bS e3];simp
  ·refine uL ?_;refine lQ ?_;rintro k ⟨hk,hI⟩;refine uA ?_;refine ap (fun hlt'=>?_) (fun hlt'=>?_)
   ·exact d9
   ·rw[cl ou]at hI;refine kP ?_;rw[tknownL_eq,hI];rw[bU e1,bU e3];rfl
end Go.Sep
namespace Go.Sep
open Go.Proofs
attribute [local irreducible] TC TO OT TCallX TCall DO DOt thenQ blockQ retQ At
structure Fld where
 name:Str
 type:Tree
structure Decl where
 name:Str
 iface:Bool
 fields:List Fld
 methods:List Fld
structure HFld where
 name:Str
 type:HTree
@[reducible] def fieldC (h:HFld):List Value:=[strV h.name,.int .i64 h.type.kind,strV h.type.name,.int .i64 h.type.num,h.type.kids.v]
@[reducible] def fieldV (h:HFld):Value:=.agg ⟨[strV h.name,.int .i64 h.type.kind,strV h.type.name,.int .i64 h.type.num,h.type.kids.v]⟩
structure FldRep (m:Mem) (h:HFld) (a:Fld):Prop where
 name:h.name=a.name
 type:TreeRep m h.type a.type
def rField : R HFld Fld where
 size:=5
 bytes:=72
 enc:=fieldC
 rep:=FldRep
 enc_len _:=rfl
 one _:=rfl
 mono hm h:=⟨h.1,h.2.mono hm⟩
@[reducible] def declC (h:HDecl):List Value:=[strV h.name,.bool h.iface,h.fields.v,h.methods.v]
structure DeclRep (m:Mem) (h:HDecl) (a:Decl):Prop where
 name:h.name=a.name
 iface:h.iface=a.iface
 fields:SlRep rField m h.fields a.fields
 methods:SlRep rField m h.methods a.methods
theorem DeclRep.mono {m m':Mem} {h:HDecl} {a:Decl} (hr:DeclRep m h a) (hm:m≤m'):DeclRep m' h a:=⟨hr.name,hr.iface,hr.fields.mono hm,hr.methods.mono hm⟩
def rDecl : R HDecl Decl where
 size:=4
 bytes:=72
 enc:=declC
 rep:=DeclRep
 enc_len _:=rfl
 one _:=rfl
 mono hm h:=h.mono hm
def hasD (tbl:List Decl) (n:Str):Bool:=tbl.any fun d=>decide (d.name=n)
def findD (tbl:List Decl) (n:Str):Option Decl:=tbl.find? fun d=>decide (d.name=n)
theorem idxP_find {α:Type}:∀(l:List α) (p:α→Bool) (k:Nat),(l.find? p=none∧idxP l p k = -1)∨∃ j d,l[j]? = some d∧l.find? p=some d∧idxP l p k=((k+j:Nat):Int)
 | [],p,k=>.inl ⟨rfl,rfl⟩
 | x::xs,p,k=>by
  by_cases h:p x=true
  ·exact .inr ⟨0,x,rfl,by simp[h],by simp[idxP,h]⟩
  ·rcases idxP_find xs p (k+1)with ⟨h1,h2⟩ | ⟨j,d,h1,h2,h3⟩
   ·exact .inl ⟨by simp[h,h1],by simp[idxP,h,h2]⟩
   ·exact .inr ⟨j+1,d,by simpa using h1,by simp[h,h2],by rw[idxP,if_neg h,h3];congr 1;omega⟩
theorem hasD_find (tbl:List Decl) (n:Str):hasD tbl n=(findD tbl n).isSome:=by
 rw[findD,←any_find,hasD]
def zeroD : Decl:=⟨[],false,[],[]⟩
def theD (tbl:List Decl) (n:Str):Decl:=(findD tbl n).getD zeroD
def isStructD (tbl:List Decl) (t:Tree):Bool:=decide (t.kind=4)&&(hasD tbl t.name&&!(theD tbl t.name).iface)
def isIfaceD (tbl:List Decl) (t:Tree):Bool:=decide (t.kind=4)&&(hasD tbl t.name&&(theD tbl t.name).iface)
def toStructD (tbl:List Decl) (t:Tree):Bool:=decide (t.kind=5)&&(match t.kids with | k::_=>isStructD tbl k | []=>false)
def nilableD (tbl:List Decl) (t:Tree):Bool:=decide (t.kind=5)||(decide (t.kind=6)||(decide (t.kind=7)||isIfaceD tbl t))
structure TblRep (m:Mem) (es:Ents Str) (tbl:List Decl):Prop where
 get:∀ n,(findD tbl n=none∧mget es n=none)∨∃ d h,findD tbl n=some d∧mget es n=some (declV h)∧DeclRep m h d
theorem TblRep.mono {m m':Mem} {es:Ents Str} {tbl:List Decl} (h:TblRep m es tbl) (hm:m≤m'):TblRep m' es tbl:=⟨fun n=>by
 rcases h.get n with h | ⟨d,h,h1,h2,h3⟩
 ·exact .inl h
 ·exact .inr ⟨d,h,h1,h2,h3.mono hm⟩⟩
theorem TblRep.look {m:Mem} {es:Ents Str} {tbl:List Decl} (hT:TblRep m es tbl) (n:Str):∃ h,(mget es n).getD (declV declZ)=declV h∧DeclRep m h (theD tbl n):=by
 rcases hT.get n with ⟨h1,h2⟩ | ⟨d,h,h1,h2,h3⟩
 ·exact⟨declZ,by rw[h2];rfl,by rw[theD,h1];exact⟨rfl,rfl,cR _ _,cR _ _⟩⟩
 ·exact⟨h,by rw[h2];rfl,by rw[theD,h1];exact h3⟩
theorem TblRep.has {m:Mem} {es:Ents Str} {tbl:List Decl} (hT:TblRep m es tbl) (n:Str):mhas es n=hasD tbl n:=by
 rw[mhas_mget,hasD_find];rcases hT.get n with ⟨h1,h2⟩ | ⟨d,h,h1,h2,h3⟩<;>rw[h1,h2]<;>rfl
theorem TblRep.hasF {m:Mem} {es:Ents Str} {tbl:List Decl} (hT:TblRep m es tbl):mhas es=hasD tbl:=funext hT.has
theorem TblRep.ok {m:Mem} {es:Ents Str} {tbl:List Decl} (hT:TblRep m es tbl):EntsOk es:=fun x=>by
 obtain⟨h,h1,_⟩:=hT.look x;exact⟨h,h1⟩
def memF (l:List Fld) (n:Str):Option Fld:=l.find? fun f=>decide (f.name=n)
def Decl.all (d:Decl):List Fld:=d.fields++d.methods
def anyI {α:Type} (p:Nat→α→Bool):List α→Nat→Bool
 | [],_=>false
 | x::xs,k=>p k x||anyI p xs (k+1)
theorem anyI_iff {α:Type} (p:Nat→α→Bool):∀(l:List α) (k:Nat),anyI p l k=true↔∃ j x,l[j]? = some x∧p (k+j) x=true
 | [],k=>by simp[anyI]
 | x::xs,k=>by
  rw[anyI,bH,anyI_iff p xs (k+1)];constructor
  ·rintro(h | ⟨j,y,h1,h2⟩)
   ·exact⟨0,x,rfl,h⟩
   ·exact⟨j+1,y,by simpa using h1,by rw[←h2];congr 1;omega⟩
  ·rintro⟨j,y,h1,h2⟩;cases j with
   | zero=>left;simp only[List.getElem?_cons_zero,bD]at h1;subst h1;exact h2
   | succ j=>right;exact⟨j,y,by simpa using h1,by rw[←h2];congr 1;omega⟩
theorem anyI_no {α:Type} {p:Nat→α→Bool} {l:List α} (h:∀ j x,l[j]? = some x→p j x=false):anyI p l 0=false:=by
 rw[Bool.eq_false_iff];intro hc;obtain⟨j,x,h1,h2⟩:=(anyI_iff p l 0).1 hc;rw[co,h j x h1]at h2;cases h2
theorem anyI_yes {α:Type} {p:Nat→α→Bool} {l:List α} {j:Nat} {x:α} (h1:l[j]? = some x) (h2:p j x=true):anyI p l 0=true:=(anyI_iff p l 0).2 ⟨j,x,h1,by rw[co];exact h2⟩
def largeB (tbl:List Decl):Bool:=decide (1024<tbl.length)||tbl.any fun d=>decide (64<d.fields.length)||decide (64<d.methods.length)
def badF (nf k:Nat) (f:Fld):Bool:=!isName f.name||(!f.type.sound||(decide (f.type.kind=8)||(decide (nf≤k)&&!decide (f.type.kind=7))))
def headD (d:Decl):Bool:=!isName d.name||(!decide (basicOf d.name=0)||(d.iface&&decide (0<d.fields.length)))
def formD (d:Decl):Bool:=headD d||anyI (badF d.fields.length) d.all 0
def badK (tbl:List Decl) (nf k:Nat) (f:Fld):Bool:=!tknown (hasD tbl) f.type||(decide (k<nf)&&isStructD tbl f.type)
def typeD (tbl:List Decl) (d:Decl):Bool:=!decide ((d.all.map Fld.name).Nodup)||anyI (badK tbl d.fields.length) d.all 0
def typeB (tbl:List Decl):Bool:=!decide ((tbl.map Decl.name).Nodup)||tbl.any (typeD tbl)
def soundE (tbl:List Decl):Int:=if largeB tbl=true then 4 else if tbl.any formD=true then 2 else if typeB tbl=true then 5 else 0
structure Decl.small (d:Decl):Prop where
 name:d.name.length≤1048576
 fields:d.fields.length≤1048576
 methods:d.methods.length≤1048576
 all:∀ f∈d.all,f.name.length≤1048576∧f.type.wide≤140737488355328
def TblS (tbl:List Decl):Prop:=∀ d∈tbl,d.small
end Go.Sep
namespace Go.Sep
open Go.Proofs
attribute [local irreducible] TC TO OT TCallX TCall DO DOt thenQ blockQ retQ At
theorem tstruct_law (a:Tree) (bt c:Nat) (es:Ents Str) (tbl:List Decl) (m:Mem) (L:List Item) (h:HTree) (hr:TreeRep m h a) (ho:m.o bt=some (mapO kStr es c)) (hT:TblRep m es tbl):TCall Tryz.prog 89 ⟨[.map (some bt),treeV h]⟩ m L (Ret (.bool (isStructD tbl a)) m L):=by
 obtain⟨h1,h2,h3,h4⟩:=hr;obtain⟨hd,hhd,hrd⟩:=hT.look h.name;have hhas:=hT.has h.name;have hif:=hrd.iface;unfold TCall;refine cJ Tryz.func89 rfl 25 rfl ?_;unfold isStructD;exact eI
theorem tiface_law (a:Tree) (bt c:Nat) (es:Ents Str) (tbl:List Decl) (m:Mem) (L:List Item) (h:HTree) (hr:TreeRep m h a) (ho:m.o bt=some (mapO kStr es c)) (hT:TblRep m es tbl):TCall Tryz.prog 204 ⟨[.map (some bt),treeV h]⟩ m L (Ret (.bool (isIfaceD tbl a)) m L):=by
 obtain⟨h1,h2,h3,h4⟩:=hr;obtain⟨hd,hhd,hrd⟩:=hT.look h.name;have hhas:=hT.has h.name;have hif:=hrd.iface;unfold TCall;refine cJ Tryz.func204 rfl 24 rfl ?_;unfold isIfaceD;exact eI
theorem nilable_law (a:Tree) (bt c:Nat) (es:Ents Str) (tbl:List Decl) (m:Mem) (L:List Item) (h:HTree) (hr:TreeRep m h a) (ho:m.o bt=some (mapO kStr es c)) (hT:TblRep m es tbl):TCall Tryz.prog 202 ⟨[.map (some bt),treeV h]⟩ m L (Ret (.bool (nilableD tbl a)) m L):=by
 have h1:=hr.kind;unfold TCall;refine cJ Tryz.func202 rfl 23 rfl ?_;unfold nilableD;rw[←h1];refine uA ?_;refine ay (fun b=>?_);refine az (fun e1=>?_) (fun e1=>?_)
 ·refine uL ?_;exact gI
 ·refine uL ?_;refine az (fun e2=>?_) (fun e2=>?_)
  ·refine uL ?_;refine kh ?_;rw[bS e2];simp
  ·refine uL ?_;refine az (fun e3=>?_) (fun e3=>?_)
   ·refine uL ?_;refine kh ?_;rw[bS e3];simp
   ·refine uL ?_;refine au goes204 (tiface_law a bt c es tbl _ _ h hr ho hT) ?_;exact j0
theorem names_snoc (l:List Decl) (k:Nat) (h:k<l.length):((l.take (k+1)).map Decl.name).Nodup↔((l.take k).map Decl.name).Nodup∧hasD (l.take k) l[k].name=false:=by
 rw[cp h,cr,List.nodup_append];simp only[bK,bL,List.nodup_cons,List.not_mem_nil,not_false_eq_true,List.nodup_nil,true_and,and_true,List.mem_singleton,hasD,List.any_eq_false,bE,and_congr_right_iff];intro _;constructor
 ·intro hh x hx e;exact hh _ (List.mem_map.2 ⟨x,hx,rfl⟩) _ rfl e
 ·rintro hh x hx _ rfl e;obtain⟨d,hd,rfl⟩:=List.mem_map.1 hx;exact hh d hd e
theorem find_snoc (l:List Decl) (d:Decl) (n:Str):findD (l++[d]) n=(findD l n).or (if d.name=n then some d else none):=by
 rw[findD,List.find?_append,findD];by_cases h:d.name=n<;>simp[h]
theorem has_snoc (l:List Decl) (d:Decl) (n:Str):hasD (l++[d]) n=(hasD l n||decide (d.name=n)):=by
 simp[hasD]
structure TblAt (m:Mem) (es:Ents Str) (tbl:List Decl):Prop where
 has:∀ n,mhas es n=hasD tbl n
 ok:EntsOk es
 le:es.length≤tbl.length
 len:es.length=tbl.length↔(tbl.map Decl.name).Nodup
 rep:(tbl.map Decl.name).Nodup→TblRep m es tbl
theorem TblAt.nil (m:Mem):TblAt m [] []:=⟨fun _=>rfl,EntsOk.nil,bI _,by simp,fun _=>⟨fun n=>.inl ⟨rfl,rfl⟩⟩⟩
theorem TblAt.step {m:Mem} {es:Ents Str} {l:List Decl} {k c:Nat} (h:TblAt m es (l.take k)) (hk:k<l.length) {hd:HDecl} (hr:DeclRep m hd l[k]):TblAt m (mset es hd.name (declV hd) c) (l.take (k+1)):=by
 have hn:=hr.name;have hlen:(l.take k).length=k:=oN;have hlen':(l.take (k+1)).length=k+1:=oN;have hs:=names_snoc l k hk;have hsn:l.take (k+1)=l.take k++[l[k]]:=cp hk;have hhas:∀ n,mhas (mset es hd.name (declV hd) c) n=hasD (l.take (k+1)) n:=fun n=>by
  rw[mhas_mget,mget_mset,hsn,has_snoc,←h.has n,mhas_mget,←hn];by_cases e:hd.name=n
  ·rw[if_pos e,bS e];simp
  ·rw[if_neg e,bU e];simp
 have hle:=h.le;have hl:=h.len;rw[hlen]at hle hl;refine⟨hhas,fun x=>?_,?_,?_,fun hnd=>⟨fun n=>?_⟩⟩
 ·rw[mget_mset];by_cases e:hd.name=x
  ·rw[if_pos e];exact⟨hd,rfl⟩
  ·rw[if_neg e];exact h.ok x
 ·rw[mset_len,hlen'];split<;>omega
 ·rw[mset_len,hlen',hs,h.has,hn,←hl];cases hh:hasD (l.take k) l[k].name with
  | true=>simp;omega
  | false=>simp
 ·obtain⟨q1,q2⟩:=hs.1 hnd;rw[hsn,find_snoc,mget_mset,hn];by_cases e:l[k].name=n
  ·subst e;rw[hasD_find]at q2;have:findD (l.take k) l[k].name=none:=by
    cases hf:findD (l.take k) l[k].name with
    | none=>rfl
    | some d=>rw[hf]at q2;cases q2
   rw[this,if_pos rfl,if_pos rfl];exact .inr ⟨_,hd,rfl,rfl,hr⟩
  ·rw[if_neg e,if_neg e,Option.or_none];exact(h.rep q1).get n
theorem newTable_law (m:Mem) (L:List Item) (s:Sl) (l:List Decl) (hs:SlRep rDecl m s l):TCall Tryz.prog 58 ⟨[s.v]⟩ m L (Made m L fun r m'=>∃ b es c,r = .map (some b)∧m'.o b=some (mapO kStr es c)∧TblAt m' es l):=by
 have hl:=hs.len;have hsm:=hs.small rfl;unfold TCall;refine ag Tryz.func58 19 ?_;refine qs rfl (OT.makeMap kStr rfl rfl rfl (fun b=>?_));refine uA ?_;refine cG (ι:=Nat×Ents Str×Nat) [3,7,8] rfl (fun x=>[(9,.int .i64 (x.1:Int))]) (fun _=>m) (fun x=>.obj b (mapO kStr x.2.1 x.2.2)::L) (fun x=>x.1≤l.length∧TblAt m x.2.1 (l.take x.1)) (fun x=>l.length-x.1) (0,[],0) uH rfl uS ⟨cm _,TblAt.nil m⟩ ?_;rintro⟨k,es,c⟩ ⟨hk,hI⟩;simp only at hk hI ⊢;refine uA ?_;refine ap (fun h=>?_) (fun h=>?_)
 ·have hlt:k<l.length:=ou;have hx:l[k]? = some l[k]:=oG;refine nV ?_;rintro b' i' hd hrd hA;refine lg ?_;refine aB tab (fun b5=>?_);refine kH ?_;refine qs rfl (OT.mapSet tab kStr 1 hd.name rfl rfl rfl rfl rfl rfl rfl ?_);refine nE ?_;exact⟨(k+1,mset es hd.name (declV hd) c,mclock es hd.name c),uH,uH,rfl,rfl,uS,⟨by simp only;omega,hI.step hlt hrd⟩,by simp only;omega⟩
 ·rw[cl ou]at hI;refine TC.freezeO fun m1 hm1 ho=>?_;refine uA ?_;refine ah ⟨hm1,rfl,b,es,c,rfl,ho,⟨hI.has,hI.ok,hI.le,hI.len,fun hn=>(hI.rep hn).mono hm1⟩⟩
theorem indexFunc_field (m:Mem) (L:List Item) (s:Sl) (l:List Fld) (p:Fld→Bool) (fn:FuncId) (cap:List Value) (hg:Goes Tryz.prog fn) (hs:SlRep rField m s l)
  (hp:∀(h:HFld) (a:Fld),a∈l→rField.rep m h a→TCall Tryz.prog fn ⟨fieldV h::cap⟩ m L (Ret (.bool (p a)) m L)) :
  TCall Tryz.prog 221 ⟨[s.v,.func (.func fn) ⟨[]⟩ ⟨cap⟩]⟩ m L (Ret (.int .i64 (idxP l p 0)) m L):=by
 unfold TCall;refine ag Tryz.func221 19 ?_;refine lc ?_;rintro k ⟨hk,hI⟩;have hl:=hs.len;have hsm:=hs.small rfl;refine uA ?_;refine ap (fun h=>?_) (fun h=>?_)
 ·have hlt:k<l.length:=ou;have hx:l[k]? = some l[k]:=oG;refine uA ?_;refine al tab rField k hs uH oy rfl hx ?_;rintro b i hd hr hA;refine lg ?_;refine qs rfl (cQ (all:=fieldV hd::cap) rfl rfl rfl rfl rfl pc hg ((hp hd l[k] (bN hlt) hr).x ?_));refine lz ?_;exact ej
 ·exact fO
theorem memF_idx (l:List Fld) (n:Str):(memF l n=none∧idxP l (fun f=>decide (f.name=n)) 0 = -1)∨∃(j:Nat) (f:Fld),l[j]? = some f∧memF l n=some f∧idxP l (fun f=>decide (f.name=n)) 0=(j:Int):=by
 have:=idxP_find l (fun f=>decide (f.name=n)) 0;simpa[memF]using this
def zeroT : Tree:=.mk 0 [] 0 []
def memT (l:List Fld) (n:Str):Tree:=match memF l n with
 | some f=>f.type
 | none=>zeroT
theorem zeroT_rep (m:Mem):TreeRep m ⟨0,[],0,⟨none,0,0⟩⟩ zeroT:=du _ _ _ _
theorem member_cl (b:Nat) (n:Str) (m:Mem) (L:List Item) (h:HFld) (hb:At m b 0 [strV n]):TCall Tryz.prog 222 ⟨[fieldV h,.pointer (some ⟨b,0,none⟩)]⟩ m L (Ret (.bool (decide (h.name=n))) m L):=by
 unfold TCall;refine ag Tryz.func222 8 ?_;refine ay (fun b2=>?_);refine an tab hb ?_;exact fc
@[reducible] def MadeM (m:Mem) (L:List Item) (l:List Fld) (n:Str):Value→Mem→List Item→Prop:=Made m L fun r m'=>∃ ht,r = .tuple ⟨[treeV ht,.bool (memF l n).isSome]⟩∧TreeRep m' ht (memT l n)
theorem member_law (m:Mem) (L:List Item) (s:Sl) (l:List Fld) (n:Str) (hs:SlRep rField m s l):TCall Tryz.prog 216 ⟨[s.v,strV n]⟩ m L (MadeM m L l n):=by
 unfold TCall;refine ag Tryz.func216 18 ?_;refine oB (fun b=>?_);refine cV fun m1 hm1 hb=>?_;refine uA ?_;refine aB tab (fun b4=>?_);have hs1:=hs.mono hm1;refine oR goes221 (indexFunc_field m1 _ s l (fun f=>decide (f.name=n)) 222 [.pointer (some ⟨b,0,none⟩)] goes222 hs1 (fun h a ha hr=>by have:=hr.name;rw[←this];exact member_cl b n m1 _ h hb)) ?_;rcases memF_idx l n with ⟨w1,w2⟩ | ⟨j,f,w0,w1,w2⟩
 ·rw[w2];refine uN ?_;refine TC.condP rfl (fun e=>?_) (fun e=>absurd ov e);refine kx ?_;refine retQ_ret_c tab 0 rfl rfl rfl rfl rfl (L':=L) uS ⟨hm1,rfl,⟨0,[],0,⟨none,0,0⟩⟩,by rw[w1];rfl,by rw[memT,w1];exact zeroT_rep _⟩
 ·rw[w2];refine uN ?_;refine ap (fun e=>?_) (fun e=>?_)
  ·omega
  ·refine uA ?_;refine al tab rField j hs1 uH oy rfl w0 ?_;rintro b' i' hd hrd hA;refine nK ?_;refine kc ?_;refine retQ_ret_c tab 0 rfl rfl rfl rfl rfl (L':=L) uS ⟨hm1,rfl,hd.type,by rw[w1];rfl,by rw[memT,w1];exact hrd.type⟩
def givesF (l:List Fld) (f:Fld):Bool:=(memF l f.name).isSome&&teq (memT l f.name) f.type
def hasMD (tbl:List Decl) (s i:Str):Bool:=(theD tbl i).methods.all (givesF (theD tbl s).methods)
theorem has_law (sn im:Str) (bt c:Nat) (es:Ents Str) (tbl:List Decl) (m:Mem) (L:List Item) (ho:m.o bt=some (mapO kStr es c)) (hT:TblRep m es tbl):TCall Tryz.prog 205 ⟨[.map (some bt),strV sn,strV im]⟩ m L (Ret (.bool (hasMD tbl sn im)) m L):=by
 refine mR ?_;obtain⟨hi,hhi,hri⟩:=hT.look im;obtain⟨hd,hhd,hrd⟩:=hT.look sn;have hms:=hri.methods;have hl:=hms.len;have hsm:=hms.small rfl;unfold TCall;refine ag Tryz.func205 40 ?_;refine qs rfl (OT.lookupP tab kStr im rfl rfl rfl rfl rfl rfl rfl ho ?_);refine TO.conv ?_ hhi;refine uA ?_;refine cG (ι:=Nat×Mem) [0,1,14,15] rfl (fun x=>[(16,.int .i64 (x.1:Int))]) (fun x=>x.2) (fun _=>L) (fun x=>x.1≤(theD tbl im).methods.length∧m≤x.2∧((theD tbl im).methods.take x.1).all (givesF (theD tbl sn).methods)=true) (fun x=>(theD tbl im).methods.length-x.1) (0,m) uH rfl uS ⟨cm _,cB _,rfl⟩ ?_;rintro⟨k,m1⟩ ⟨hk,hm1,hI⟩;simp only at hk hm1 hI ⊢;refine uA ?_;refine ap (fun h=>?_) (fun h=>?_)
 ·have hlt:k<(theD tbl im).methods.length:=ou;have hx:(theD tbl im).methods[k]? = some (theD tbl im).methods[k]:=oG;refine uA ?_;have hms1:=hms.mono hm1;refine al tab rField k hms1 uH oy rfl hx ?_;rintro b' i' hf hrf hA;refine lg ?_;refine aB tab (fun b8=>?_);refine kH ?_;refine qs rfl (OT.lookupP tab kStr sn rfl rfl rfl rfl rfl rfl rfl (hm1.o _ _ ho) ?_);refine TO.conv ?_ hhd;refine uL ?_;refine oC goes216 ((member_law m1 _ hd.methods (theD tbl sn).methods hf.name (hrd.methods.mono hm1)).x ?_);rintro _ m2 _ ⟨hm2,rfl,ht,rfl,hrt⟩;have hfn:=hrf.name;have hm02:=cC hm1 hm2;refine uA ?_;refine aB tab (fun b9=>?_);refine kc ?_;refine aF (b:=!(memF (theD tbl sn).methods hf.name).isSome) (fun e2=>?_) (fun e2=>?_)
  ·rw[Bool.not_eq_true']at e2;refine uA ?_;refine ah ⟨hm02,rfl,?_⟩;rw[hasMD,List.all_eq_false.2 ⟨_,bN hlt,by rw[givesF,←hfn,e2];simp⟩]
  ·rw[Bool.not_eq_false']at e2;refine uL ?_;refine au goes203 (equal_law _ _ _ _ ht hf.type hrt (hrf.type.mono hm2)) ?_;refine aQ (t:=!teq (memT (theD tbl sn).methods hf.name) (theD tbl im).methods[k].type) (fun e9=>?_) (fun e9=>?_)
   ·rw[Bool.not_eq_true',hfn]at e9;refine uA ?_;refine ah ⟨hm02,rfl,?_⟩;rw[hasMD,List.all_eq_false.2 ⟨_,bN hlt,by rw[givesF,e9];simp⟩]
   ·rw[Bool.not_eq_false',hfn]at e9;rw[hfn]at e2;refine nE ?_;exact⟨(k+1,m2),uH,uH,rfl,rfl,uS,⟨by simp only;omega,hm02,by rw[cp hlt,List.all_append,hI,cq,givesF,e2,e9];rfl⟩,by simp only;omega⟩
 ·rw[cl ou]at hI;refine nq ?_;rw[hasMD,hI]
end Go.Sep
namespace Go.Sep
open Go.Proofs
attribute [local irreducible] TC TO OT TCallX TCall DO DOt thenQ blockQ retQ At
theorem one_kid {a:Tree} (h:a.kids.length=1):a.kids=[kid0 a]:=by
 unfold kid0
 match hk:a.kids,h with
 | [k],_=>rfl
theorem toStruct_kid {l:List Decl} {a:Tree} (h:a.kids.length=1):toStructD l a=(decide (a.kind=5)&&isStructD l (kid0 a)):=by
 rw[toStructD,one_kid h]
def tassignB (l:List Decl) (a b:Tree):Bool:=tknown (hasD l) b&&(if a.kind=8 then nilableD l b else (teq a b||(isIfaceD l b&&(toStructD l a&&hasMD l (kid0 a).name b.name))))
theorem tassign_law (a c:Tree) (hkid:a.kind=5→a.kids.length=1) (bt cc:Nat) (es:Ents Str) (l:List Decl) (m:Mem) (L:List Item) (h g:HTree) (hr:TreeRep m h a) (gr:TreeRep m g c) (ho:m.o bt=some (mapO kStr es cc)) (hT:TblRep m es l) :
  TCall Tryz.prog 182 ⟨[.map (some bt),treeV h,treeV g]⟩ m L (Ret (.bool (tassignB l a c)) m L):=by
 obtain⟨h1,h2,h3,h4⟩:=id hr;have g2:=gr.name;unfold TCall;refine cJ Tryz.func182 rfl 50 rfl ?_;unfold tassignB;rw[←h1,←g2];refine uA ?_;refine oB (fun b=>?_);refine uA ?_;refine ay (fun b2=>?_);refine n9 ?_;refine aQ (t:=!tknown (hasD l) c) (fun e1=>?_) (fun e1=>?_)
 ·rw[Bool.not_eq_true']at e1;refine kP ?_;rw[e1];rfl
 ·rw[Bool.not_eq_false']at e1;refine uL ?_;refine ap (fun e2=>?_) (fun e2=>?_)
  ·refine uL ?_;refine au goes202 (nilable_law c bt cc es l _ _ g gr ho hT) ?_;refine kh ?_;rw[e1,if_pos e2];rfl
  ·refine uL ?_;refine au goes203 (equal_law a c _ _ h g hr gr) ?_;refine aQ (t:=teq a c) (fun e3=>?_) (fun e3=>?_)
   ·refine uA ?_;refine kh ?_;rw[e1,if_neg e2,e3];rfl
   ·rw[e1,if_neg e2,e3];have hx0:a.kind=5→a.kids[0]? = some (kid0 a):=fun e=>by rw[one_kid (hkid e)];rfl
    have hts:a.kind=5→toStructD l a=isStructD l (kid0 a):=fun e=>by rw[toStruct_kid (hkid e),bS e];rfl
    refine uA ?_;refine aW [] dc 28 ?_;refine lT ?_;refine ae (k:=0) 1 0 ?_;refine af 2 (cQ rfl rfl rfl rfl rfl rfl goes204 ((tiface_law c bt cc es l _ _ g gr ho hT).x ?_));rintro _ _ _ ⟨rfl,rfl,rfl⟩;refine⟨cB _,_,bj _,?_⟩;refine cT tab uC uK [3] uK rfl ?_;refine DO.split (d:=26) rfl (fun hg3=>?_) (fun hg3=>?_);refine cT tab uC uK [4] uK rfl ?_;refine ae 5 1 ?_;refine cT tab uC uK [6,7,8] uK rfl ?_;refine DO.splitP (d:=31) rfl (fun hg8=>?_) (fun hg8=>?_);refine cT tab uC uK [9,10] uK rfl ?_;refine ae 11 1 ?_;refine DO.index tab rTree 12 0 h4 uC uK uK rfl rfl rfl rfl rfl rfl rfl oU rfl (hx0 (h1.symm.trans hg8)) ?_;rintro b' i' h' hrd hA;refine ak (k:=0) 13 hA ?_;refine af 14 (cQ rfl rfl rfl rfl rfl rfl goes89 ((tstruct_law (kid0 a) bt cc es l _ _ h' (rTree_iff.1 hrd) ho hT).x ?_));rintro _ _ _ ⟨rfl,rfl,rfl⟩;refine⟨cB _,_,bj _,?_⟩;refine cT tab uC uK [15,16] uK rfl ?_;refine DO.split (d:=39) rfl (fun hg16=>?_) (fun hg16=>?_);refine cT tab uC uK [17,18] uK rfl ?_;refine ae 19 1 ?_;refine DO.index tab rTree 20 0 h4 uC uK uK rfl rfl rfl rfl rfl rfl rfl oU rfl (hx0 (h1.symm.trans hg8)) ?_;rintro b3 i3 h3' hrd3 hA3;have hn3:=(rTree_iff.1 hrd3).name;refine cT tab uC uK [21] uK rfl ?_;refine ak 22 hA3 ?_;refine cT tab uC uK [23] uK rfl ?_;refine ae 24 0 ?_;refine af 25 (cQ rfl rfl rfl rfl rfl rfl goes205 ((has_law h3'.name g.name bt cc es l _ _ ho hT).x ?_));rintro _ _ _ ⟨rfl,rfl,rfl⟩;refine⟨cB _,_,bj _,?_⟩;refine cT tab uC uK [26,27] uK rfl ?_;refine aS ?_
    rotate_left 1
    refine cT tab uC uK [17,18,19,20,21,22,23,24,25,26,27] uK rfl ?_;refine aS ?_
    rotate_left 1
    refine cT tab uC uK [9,10,11,12,13,14,15,16,17,18,19,20,21,22,23,24,25,26,27] uK rfl ?_;refine aS ?_
    rotate_left 1
    refine cT tab uC uK [4,5,6,7,8,9,10,11,12,13,14,15,16,17,18,19,20,21,22,23,24,25,26,27] uK rfl ?_;refine aS ?_
    rotate_left 1
    ·refine aV ?_;refine kh ?_;rw[hg3,hts (h1.symm.trans hg8),hg16,hn3];rfl
    ·refine aV ?_;refine kh ?_;rw[hg3,hts (h1.symm.trans hg8),hg16];rfl
    ·refine aV ?_;refine kh ?_;have:toStructD l a=false:=by rw[toStructD,bU (fun e=>hg8 (h1.trans e))];rfl
     rw[hg3,this];rfl
    ·refine aV ?_;refine kh ?_;rw[hg3];rfl
def simpleD (l:List Decl) (a:Tree):Bool:=decide (a.kind≤3)||(decide (a.kind=5)||isIfaceD l a)
def tcompB (l:List Decl) (a b:Tree):Bool :=
 if a.kind=8 then !decide (b.kind=8)&&(tknown (hasD l) b&&nilableD l b)else if b.kind=8 then tknown (hasD l) a&&nilableD l a
 else (teq a b&&tknown (hasD l) a)&&simpleD l a
theorem tcomp_law (a c:Tree) (bt cc:Nat) (es:Ents Str) (l:List Decl) (m:Mem) (L:List Item) (h g:HTree) (hr:TreeRep m h a) (gr:TreeRep m g c) (ho:m.o bt=some (mapO kStr es cc)) (hT:TblRep m es l) :
  TCall Tryz.prog 211 ⟨[.map (some bt),treeV h,treeV g]⟩ m L (Ret (.bool (tcompB l a c)) m L):=by
 have h1:=hr.kind;have g1:=gr.kind;unfold TCall;refine cJ Tryz.func211 rfl 60 rfl ?_;unfold tcompB simpleD;rw[←h1,←g1];refine uA ?_;refine oB (fun b=>?_);refine uA ?_;refine ay (fun b2=>?_);refine ap (fun e1=>?_) (fun e1=>?_)
 ·rw[if_pos e1];refine uL ?_;refine cK rfl rfl (fun e2=>?_) (fun e2=>?_)
  ·refine uL ?_;refine n9 ?_;refine aF (b:=tknown (hasD l) c) (fun e3=>?_) (fun e3=>?_)
   ·refine uL ?_;refine au goes202 (nilable_law c bt cc es l _ _ g gr ho hT) ?_;exact j8
   ·refine uA ?_;exact j8
  ·refine uA ?_;refine kh ?_;rw[bS e2];rfl
 ·rw[if_neg e1];refine uL ?_;refine ap (fun e2=>?_) (fun e2=>?_)
  ·rw[if_pos e2];refine nz ?_;refine aF (b:=tknown (hasD l) a) (fun e3=>?_) (fun e3=>?_)
   ·refine uL ?_;refine au goes202 (nilable_law a bt cc es l _ _ h hr ho hT) ?_;exact jw
   ·refine uA ?_;exact jw
  ·rw[if_neg e2];refine uL ?_;refine au goes203 (equal_law a c _ _ h g hr gr) ?_;refine aF (b:=!teq a c) (fun e3=>?_) (fun e3=>?_)
   ·rw[Bool.not_eq_true']at e3;refine uA ?_;exact jw
   ·rw[Bool.not_eq_false']at e3;refine nz ?_;refine aQ (t:=!tknown (hasD l) a) (fun e4=>?_) (fun e4=>?_)
    ·rw[Bool.not_eq_true']at e4;refine kP ?_;rw[e3,e4];rfl
    ·rw[Bool.not_eq_false']at e4;refine uL ?_;refine az (fun e5=>?_) (fun e5=>?_)
     ·refine uA ?_;refine kh ?_;rw[e3,e4,bS e5];rfl
     ·refine uL ?_;refine az (fun e6=>?_) (fun e6=>?_)
      ·refine uA ?_;refine kh ?_;rw[e3,e4,bS e6,bU e5];rfl
      ·refine uL ?_;refine au goes204 (tiface_law a bt cc es l _ _ h hr ho hT) ?_;refine kh ?_;rw[e3,e4,bU e5,bU e6];rfl
end Go.Sep
namespace Go.Sep
open Go.Proofs
attribute [local irreducible] TC TO OT TCallX TCall DO DOt thenQ blockQ retQ At
def ofD (l:List Decl) (a:Tree):Tree:=if toStructD l a=true then kid0 a else a
def methodsD (l:List Decl) (a:Tree):List Fld:=if (decide ((ofD l a).kind=4)&&hasD l (ofD l a).name)=true then (theD l (ofD l a).name).methods else []
theorem theD_no {l:List Decl} {n:Str} (h:hasD l n=false):theD l n=zeroD:=by
 rw[hasD_find]at h;cases hf:findD l n with
 | none=>rw[theD,hf];rfl
 | some d=>rw[hf]at h;cases h
theorem methodsD_kind {l:List Decl} {a:Tree}:methodsD l a=if (ofD l a).kind=4 then (theD l (ofD l a).name).methods else []:=by
 rw[methodsD];by_cases h:(ofD l a).kind=4
 ·rw[bS h,if_pos h];cases hh:hasD l (ofD l a).name with
  | true=>rfl
  | false=>rw[theD_no hh];rfl
 ·rw[bU h,if_neg h];rfl
theorem tmethod_law (a:Tree) (hkid:a.kind=5→a.kids.length=1) (n:Str) (bt cc:Nat) (es:Ents Str) (l:List Decl) (m:Mem) (L:List Item) (h:HTree) (hr:TreeRep m h a) (ho:m.o bt=some (mapO kStr es cc)) (hT:TblRep m es l) :
  TCall Tryz.prog 217 ⟨[.map (some bt),treeV h,strV n]⟩ m L (MadeM m L (methodsD l a) n):=by
 obtain⟨h1,h2,h3,h4⟩:=id hr;have hx0:a.kind=5→a.kids[0]? = some (kid0 a):=fun e=>by rw[one_kid (hkid e)];rfl
 have hts:a.kind=5→toStructD l a=isStructD l (kid0 a):=fun e=>by rw[toStruct_kid (hkid e),bS e];rfl
 unfold TCall;refine cJ Tryz.func217 rfl 36 rfl ?_;rw[methodsD_kind];refine uA ?_;refine oB (fun b=>?_);refine uA ?_;refine oA tab (fun b6=>?_);refine TO.pureP tab rfl rfl ?_;refine lA ?_;refine TC.cutT (ι:=HTree) [0,2,4,6] rfl (fun _=>[]) (fun _=>m) (fun x=>.cells b6 0 (treeC ⟨0,[],0,⟨none,0,0⟩⟩)::.cells b 0 (treeC x)::L) (fun x=>TreeRep m x (ofD l a)) ?_ (fun x hx=>?_)
 ·refine uL ?_;refine az (fun e1=>?_) (fun e1=>?_)
  ·have e5:a.kind=5:=ou;refine uL ?_;refine mn ?_;rintro b' i' h' hrd hA;refine lg ?_;refine au goes89 (tstruct_law (kid0 a) bt cc es l _ _ h' (rTree_iff.1 hrd) ho hT) ?_;refine aQ (t:=isStructD l (kid0 a)) (fun e2=>?_) (fun e2=>?_)
   ·refine uL ?_;refine mn ?_;rintro b3 i3 h3' hrd3 hA3;refine an tab hA3 ?_;refine kc ?_;exact⟨h3',uH,uH,rfl,rfl,uS,by rw[ofD,hts e5,if_pos e2];exact rTree_iff.1 hrd3⟩
   ·refine uA ?_;exact⟨h,uH,uH,rfl,rfl,uS,by rw[ofD,hts e5,if_neg (by rw[e2];simp)];exact hr⟩
  ·refine uA ?_;have:toStructD l a=false:=by rw[toStructD,bU (fun e=>e1 ou)];rfl
   exact⟨h,uH,uH,rfl,rfl,uS,by rw[ofD,if_neg (by rw[this];simp)];exact hr⟩
 ·have x1:=hx.kind;have x2:=hx.name;refine uL ?_;refine a7 (fun e1=>?_) (fun e1=>?_)
  ·refine uA ?_;refine kc ?_;refine aH (L':=L) 0 ⟨cB _,rfl,⟨0,[],0,⟨none,0,0⟩⟩,?_,?_⟩
   ·rw[if_neg ou];rfl
   ·rw[if_neg ou];exact zeroT_rep _
  ·obtain⟨hd,hhd,hrd⟩:=hT.look x.name;refine od ?_;refine TO.conv ?_ hhd;refine uA ?_;refine oC goes216 ((member_law _ _ hd.methods (theD l x.name).methods n hrd.methods).x ?_);rintro _ m2 _ ⟨hm2,rfl,ht,rfl,hrt⟩;refine kx ?_;refine aH (L':=L) 0 ⟨hm2,rfl,ht,?_,?_⟩
   ·rw[if_pos ou,←x2]
   ·rw[if_pos ou,←x2];exact hrt
def ofK (a:Tree):Tree:=if a.kind=5 then kid0 a else a
def fieldsD (l:List Decl) (a:Tree):Option (List Fld):=if isStructD l (ofK a)=true then some (theD l (ofK a).name).fields else none
@[reducible] def MadeF (m:Mem) (L:List Item) (x:Option (List Fld)):Value→Mem→List Item→Prop:=Made m L fun r m'=>∃ s:Sl,r = .tuple ⟨[s.v,.bool x.isSome]⟩∧SlRep rField m' s (x.getD [])
theorem tfields_law (a:Tree) (hkid:a.kind=5→a.kids.length=1) (bt cc:Nat) (es:Ents Str) (l:List Decl) (m:Mem) (L:List Item) (h:HTree) (hr:TreeRep m h a) (ho:m.o bt=some (mapO kStr es cc)) (hT:TblRep m es l) :
  TCall Tryz.prog 209 ⟨[.map (some bt),treeV h]⟩ m L (MadeF m L (fieldsD l a)):=by
 obtain⟨h1,h2,h3,h4⟩:=id hr;have hx0:a.kind=5→a.kids[0]? = some (kid0 a):=fun e=>by rw[one_kid (hkid e)];rfl
 unfold TCall;refine ag Tryz.func209 22 ?_;refine oB (fun b=>?_);refine TO.pureP tab rfl rfl ?_;refine lA ?_;refine TC.cutT (ι:=HTree) [0,3] rfl (fun _=>[]) (fun _=>m) (fun x=>.cells b 0 (treeC x)::L) (fun x=>TreeRep m x (ofK a)) ?_ (fun x hx=>?_)
 ·refine uL ?_;refine ap (fun e1=>?_) (fun e1=>?_)
  ·have e5:a.kind=5:=ou;refine uL ?_;refine mn ?_;rintro b' i' h' hrd hA;refine lg ?_;refine kc ?_;exact⟨h',uH,uH,rfl,rfl,uS,by rw[ofK,if_pos e5];exact rTree_iff.1 hrd⟩
  ·refine uA ?_;exact⟨h,uH,uH,rfl,rfl,uS,by rw[ofK,if_neg ou];exact hr⟩
 ·have x2:=hx.name;refine uL ?_;refine au goes89 (tstruct_law (ofK a) bt cc es l _ _ x hx ho hT) ?_;refine aQ (t:=!isStructD l (ofK a)) (fun e1=>?_) (fun e1=>?_)
  ·rw[Bool.not_eq_true']at e1;refine uA ?_;refine cH rfl (L':=L) uS ⟨cB _,rfl,⟨none,0,0⟩,by rw[fieldsD,if_neg (by rw[e1];simp)];rfl,by rw[fieldsD,if_neg (by rw[e1];simp)];exact cR _ _⟩
  ·rw[Bool.not_eq_false']at e1;obtain⟨hd,hhd,hrd⟩:=hT.look x.name;refine od ?_;refine TO.conv ?_ hhd;refine uA ?_;refine cH rfl (L':=L) uS ⟨cB _,rfl,hd.fields,by rw[fieldsD,if_pos e1];rfl,by rw[fieldsD,if_pos e1,←x2];exact hrd.fields⟩
end Go.Sep
namespace Go.Ck
open Go.Sep
abbrev Names:=List (Str×Tree)
abbrev Sc:=List Names
structure X where
 kind:Int
 type:Tree
 multi:Bool
 how:Int
 place:Bool
structure Env where
 tbl:List Decl
 fns:Names
def getN (l:Names) (x:Str):Option Tree:=(l.find? fun p=>decide (p.1=x)).map Prod.snd
def lookS (sc:Sc) (x:Str):Option Tree:=sc.findSome? fun s=>getN s x
def tk (k:Int):Tree:=.mk k [] 0 []
def kid (n:Tree) (i:Nat):Tree:=(n.kids[i]?).getD zeroT
def builtinD (x:Str):Int:=if x=[112,114,105,110,116]then 1 else if x=[112,97,110,105,99]then 2 else if x=[108,101,110]then 3 else if x=[97,112,112,101,110,100]then 4 else if x=[]then 0 else -1
def declC (sc:Sc) (x:Str) (t:Tree):Option Sc :=
 match sc with
 | []=>none
 | s::r=>if (getN s x).isSome||decide (t.kind=8)then none else some (((x,t)::s)::r)
def want (b:Bool):Option Unit:=if b then some ()else none
def typC (tbl:List Decl) (n:Tree):Option Tree:=if tknown (hasD tbl) (ofRes n).1 then some (ofRes n).1 else none
def breaksD : Nat→Tree→Bool
 | 0,_=>false
 | f+1,n=>decide (n.kind=28)||((decide (n.kind=20)||decide (n.kind=25))&&n.kids.any (breaksD f))
def endsD : Nat→Tree→Bool
 | 0,_=>false
 | f+1,n =>
  if n.kind=20 then (match n.kids.getLast? with | none=>false | some k=>endsD f k)
  else if n.kind=27 then true
  else if n.kind=24 then decide ((kid (kid n 0) 0).kind=44)&&decide ((kid (kid n 0) 0).name=[112,97,110,105,99])
  else if n.kind=25 then decide (2<n.kids.length)&&(endsD f (kid n 1)&&endsD f (kid n 2))
  else if n.kind=26 then decide (n.kids.length=1)&&!breaksD f (kid n 0)
  else false
section
variable (tbl:List Decl) (ex:Sc→Tree→Option X)
def valC (sc:Sc) (n:Tree):Option X:=(ex sc n).bind fun x=>if x.multi then none else some x
def ofC (k:Int) (sc:Sc) (n:Tree):Option X:=(valC ex sc n).bind fun x=>if x.type.kind=k then some x else none
def valuesC (sc:Sc) (l:List Tree) (many:Nat):Option (List Tree) :=
 if l.length=1∧1<many then (ex sc (l.headD zeroT)).bind fun x=>if x.kind=51∧x.type.kind=7∧x.multi=true∧x.type.kids.length=many then some x.type.kids else none
 else if l.length=many then l.mapM fun n=>(valC ex sc n).map X.type
 else none
def assignC (sc:Sc) (l:List Tree) (to:List Tree):Option Unit :=
 (valuesC ex sc l to.length).bind fun fr=>want ((fr.zip to).all fun p=>tassignB tbl p.1 p.2)
def eachC (sc:Sc):List Tree→List Tree→Option Unit
 | a::r,t::ts=>(assignC tbl ex sc [a] [t]).bind fun _=>eachC sc r ts
 | _,_=>some ()
def lastF (l:List Fld) (x:Str):Option Tree:=(memF l.reverse x).map Fld.type
def builtC (sc:Sc) (how:Int) (args:List Tree):Option X :=
 if how=1 then (want (decide (args.length=1))).bind fun _=>(valC ex sc (args.headD zeroT)).bind fun x=>(want (decide (x.type.kind=1)||(decide (x.type.kind=2)||decide (x.type.kind=3)))).map fun _=>⟨51,tk 7,true,1,false⟩
 else if how=2 then (want (decide (args.length=1))).bind fun _=>(ofC ex 1 sc (args.headD zeroT)).map fun _=>⟨51,tk 7,true,2,false⟩
 else if how=3 then (want (decide (args.length=1))).bind fun _=>(valC ex sc (args.headD zeroT)).bind fun x=>(want (decide (x.type.kind=6)||decide (x.type.kind=3))).map fun _=>⟨51,tk 1,false,3,false⟩
 else (want (decide (args.length=2))).bind fun _=>(ofC ex 6 sc (args.headD zeroT)).bind fun s=>(assignC tbl ex sc (args.drop 1) s.type.kids).map fun _=>⟨51,s.type,false,4,false⟩
def calleeC (sc:Sc) (f:Tree):Option (Tree×Int) :=
 if f.kind=48 then (valC ex sc (kid f 0)).bind fun r =>
  match memF (methodsD tbl r.type) f.name with
  | some m=>(want (!isStructD tbl r.type||r.place)).map fun _=>(m.type,if isIfaceD tbl r.type then 6 else 5)
  | none=>(lastF ((fieldsD tbl r.type).getD []) f.name).map fun t=>(t,0)
 else (valC ex sc f).map fun k=>(k.type,0)
def callC (sc:Sc) (n:Tree):Option X :=
 if (kid n 0).kind=44∧0<builtinD (kid n 0).name∧lookS sc (kid n 0).name=none then builtC tbl ex sc (builtinD (kid n 0).name) (n.kids.drop 1)
 else (calleeC tbl ex sc (kid n 0)).bind fun c =>
  (want (decide (c.1.kind=7)&&decide (((n.kids.drop 1).length:Int)=c.1.num))).bind fun _ =>
  (eachC tbl ex sc (n.kids.drop 1) c.1.kids).map fun _ =>
   match c.1.kids.drop c.1.num.toNat with
   | [t]=>⟨51,t,false,c.2,false⟩
   | ts=>⟨51,.mk 7 [] 0 ts,true,c.2,false⟩
def unaryC (sc:Sc) (n:Tree):Option X :=
 (valC ex sc (kid n 0)).bind fun k =>
  if n.name=[45]then (want (decide (k.type.kind=1))).map fun _=>⟨52,k.type,false,0,false⟩
  else if n.name=[33]then (want (decide (k.type.kind=2))).map fun _=>⟨52,k.type,false,0,false⟩
  else if n.name=[42]then (want (decide (k.type.kind=5))).map fun _=>⟨52,kid0 k.type,false,0,true⟩
  else (want (decide (k.kind=45)||k.place)).map fun _=>⟨52,.mk 5 [] 0 [k.type],false,0,false⟩
def binaryC (sc:Sc) (n:Tree):Option X :=
 (valC ex sc (kid n 0)).bind fun a=>(valC ex sc (kid n 1)).bind fun b =>
  let same:=decide (a.type.kind=b.type.kind)
  let o:=n.name
  if o=[61,61]∨o=[33,61]then (want (tcompB tbl a.type b.type)).map fun _=>⟨53,tk 2,false,0,false⟩
  else if o=[38,38]∨o=[124,124]then (want (same&&decide (a.type.kind=2))).map fun _=>⟨53,tk 2,false,0,false⟩
  else if o=[60]∨o=[60,61]∨o=[62]∨o=[62,61]then (want (same&&(decide (a.type.kind=1)||decide (a.type.kind=3)))).map fun _=>⟨53,tk 2,false,0,false⟩
  else (want (same&&(decide (a.type.kind=1)||(decide (o=[43])&&decide (a.type.kind=3))))).map fun _=>⟨53,a.type,false,0,false⟩
def operC (sc:Sc) (n:Tree):Option X :=
 if n.kind=48 then (valC ex sc (kid n 0)).bind fun k=>(lastF ((fieldsD tbl k.type).getD []) n.name).map fun t=>⟨48,t,false,0,decide (k.type.kind=5)||k.place⟩
 else if n.kind=49 then (valC ex sc (kid n 0)).bind fun k=>(ofC ex 1 sc (kid n 1)).bind fun _ =>
  if k.type.kind=6 then some ⟨49,kid0 k.type,false,0,true⟩else if k.type.kind=3 then some ⟨49,tk 1,false,0,false⟩else none
 else if n.kind=50 then (valC ex sc (kid n 0)).bind fun k=>((n.kids.drop 1).mapM (ofC ex 1 sc)).bind fun _=>(want (decide (k.type.kind=6)||decide (k.type.kind=3))).map fun _=>⟨50,k.type,false,0,false⟩
 else if n.kind=52 then unaryC ex sc n
 else binaryC tbl ex sc n
end
def paramsC (sc:Names):List (Str×Tree)→Option Names
 | []=>some sc
 | p::r=>if (getN sc p.1).isSome then none else paramsC (p::sc) r
def sigC (tbl:List Decl) (recv:Names) (n:Tree):Option (Tree×Names) :=
 (typC tbl n).bind fun t=>(paramsC [] (recv++((n.kids.take n.num.toNat).map Tree.name).zip t.kids)).map fun ps=>(t,ps)
structure Lv where
 ex:Sc→Tree→Option X
 st:List Tree→Nat→Sc→Tree→Option Sc
def bodyC (lv:Lv) (t:Tree) (ps:Names) (sc:Sc) (n:Tree):Option Unit :=
 (lv.st (t.kids.drop t.num.toNat) 0 (ps::sc) n).bind fun _=>want ((t.kids.drop t.num.toNat).isEmpty||endsD 200 n)
def exprC (e:Env) (lv:Lv) (sc:Sc) (n:Tree):Option X :=
 let k:=n.kind
 if k=40 then some ⟨40,tk 1,false,0,false⟩
 else if k=41 then some ⟨41,tk 3,false,0,false⟩
 else if k=42 then some ⟨42,tk 2,false,0,false⟩
 else if k=43 then some ⟨43,tk 8,false,0,false⟩
 else if k=44 then (match lookS sc n.name with
  | some t=>some ⟨44,t,false,0,true⟩
  | none=>(getN e.fns n.name).map fun t=>⟨44,t,false,0,false⟩)
 else if k=45 then
  (want (isStructD e.tbl (.mk 4 n.name 0 []))).bind fun _ =>
  (want (decide (n.kids.length=(theD e.tbl n.name).fields.length))).bind fun _ =>
  (eachC e.tbl lv.ex sc n.kids ((theD e.tbl n.name).fields.map Fld.type)).map fun _=>⟨45,.mk 4 n.name 0 [],false,0,false⟩
 else if k=46 then (typC e.tbl (kid n 0)).bind fun t=>(eachC e.tbl lv.ex sc (n.kids.drop 1) ((n.kids.drop 1).map fun _=>t)).map fun _=>⟨46,.mk 6 [] 0 [t],false,0,false⟩
 else if k=47 then (sigC e.tbl [] (kid n 0)).bind fun s=>n.kids[1]?.bind fun b=>(bodyC lv s.1 s.2 sc b).map fun _=>⟨47,s.1,false,0,false⟩
 else if k=51 then callC e.tbl lv.ex sc n
 else operC e.tbl lv.ex sc n
def declAll (sc:Sc):List (Str×Tree)→Option Sc
 | []=>some sc
 | p::r=>(declC sc p.1 p.2).bind fun sc'=>declAll sc' r
def stmtsC (st:Sc→Tree→Option Sc) (sc:Sc):List Tree→Option Sc
 | []=>some sc
 | n::r=>(st sc n).bind fun sc'=>stmtsC st sc' r
def stmtC (e:Env) (lv:Lv) (res:List Tree) (w:Nat) (sc:Sc) (n:Tree):Option Sc :=
 let k:=n.kind
 let num:=n.num.toNat
 if k=20 then (stmtsC (lv.st res w) ([]::sc) n.kids).map fun _=>sc
 else if k=21 then (typC e.tbl (kid n 0)).bind fun t=>(if 1<n.kids.length then assignC e.tbl lv.ex sc (n.kids.drop 1) [t]else some ()).bind fun _=>declC sc n.name t
 else if k=22 then (valuesC lv.ex sc (n.kids.drop num) num).bind fun ts=>declAll sc (((n.kids.take num).map Tree.name).zip ts)
 else if k=23 then ((n.kids.take num).mapM fun p=>(valC lv.ex sc p).bind fun x=>(want x.place).map fun _=>x.type).bind fun ts=>(assignC e.tbl lv.ex sc (n.kids.drop num) ts).map fun _=>sc
 else if k=24 then (lv.ex sc (kid n 0)).bind fun x=>(want (!decide (x.how=3)&&!decide (x.how=4))).map fun _=>sc
 else if k=27 then (assignC e.tbl lv.ex sc n.kids res).map fun _=>sc
 else if k=25 then (ofC lv.ex 2 sc (kid n 0)).bind fun _=>(stmtsC (lv.st res w) sc (n.kids.drop 1)).map fun _=>sc
 else if k=26 then (if 1<n.kids.length then (ofC lv.ex 2 sc (kid n 0)).map fun _=>()else some ()).bind fun _=>n.kids.getLast?.bind fun b=>(lv.st res (w+1) sc b).map fun _=>sc
 else (want (decide (0<w))).map fun _=>sc
def lvl (e:Env):Nat→Lv
 | 0=>⟨fun _ _=>none,fun _ _ _ _=>none⟩
 | n+1=>⟨exprC e (lvl e n),stmtC e (lvl e n)⟩
def recvD (n:Tree):Str:=(kid (kid (kid n 0) 0) 0).name
def fldOf (f:Tree):Fld:=⟨f.name,(ofRes (kid f 0)).1⟩
def declOf (n:Tree):Decl:=if n.kind=3 then ⟨n.name,true,[],n.kids.map fldOf⟩else ⟨n.name,false,n.kids.map fldOf,[]⟩
def addM (l:List Decl) (x:Str) (f:Fld):Option (List Decl) :=
 match l with
 | []=>none
 | d::r=>if d.name=x∧d.iface=false then some ({ d with methods:=d.methods++[f] }::r)else (addM r x f).map fun r'=>d::r'
def methodsC : List Decl→List Tree→Option (List Decl)
 | l,[]=>some l
 | l,n::r=>if n.kind=5 then (addM l (recvD n) ⟨n.name,(ofRes (kid n 1)).1⟩).bind fun l'=>methodsC l' r else methodsC l r
def tableD (p:Tree):Except Int (List Decl) :=
 match methodsC ((p.kids.filter fun n=>decide (n.kind=2)||decide (n.kind=3)).map declOf) p.kids with
 | none=>.error 5
 | some l=>if soundE l=0 then .ok l else .error (if soundE l=2 then 5 else soundE l)
def headsC (tbl:List Decl):Names→List (Tree×Names×Tree)→List Tree→Option (Names×List (Tree×Names×Tree))
 | fns,bs,[]=>some (fns,bs)
 | fns,bs,n::r =>
  if n.kind=4 then
   if (getN fns n.name).isSome∨0<builtinD n.name then none
   else (sigC tbl [] (kid n 0)).bind fun s=>headsC tbl ((n.name,s.1)::fns) (bs++[(s.1,s.2,kid n 1)]) r
  else if n.kind=5 then (sigC tbl [((kid n 0).name,.mk 5 [] 0 [.mk 4 (recvD n) 0 []])] (kid n 1)).bind fun s=>headsC tbl fns (bs++[(s.1,s.2,kid n 2)]) r
  else headsC tbl fns bs r
def chkD (p:Tree):Int :=
 match tableD p with
 | .error c=>c
 | .ok tbl=>match headsC tbl [] [] p.kids with
  | none=>5
  | some (fns,bs) =>
   if bs.all (fun b=>(bodyC (lvl ⟨tbl,fns⟩ 200) b.1 b.2.1 [] b.2.2).isSome)&&(match getN fns [109,97,105,110]with | some t=>t.kids.isEmpty | none=>false)then 0 else 5
end Go.Ck
