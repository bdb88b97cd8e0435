/-
  Part 9 of the proof: library, walks and plain laws.
-/
import Derived.Lib.Join
import Derived.Test.YthemafgjfddgbaaGreatDoorB8
set_option linter.unusedVariables false
set_option linter.unusedSimpArgs false
set_option maxHeartbeats 6400000
namespace Go.Sep
open Go.Proofs
attribute [local irreducible] TC TO OT TCallX TCall DO DOt thenQ blockQ retQ At
def basicOf (s:Str):Int:=if s=[105,110,116]then 1 else if s=[98,111,111,108]then 2 else if s=[115,116,114,105,110,103]then 3 else 0
def withinB (a:Tree) (x y:Int):Bool:=decide ((a.size:Int)+x≤20000)&&decide ((a.deep:Int)+y≤100)
theorem withinB_eq (a:Tree) (x y:Int):withinB a x y=(decide ((a.size:Int)+x≤20000)&&decide ((a.deep:Int)+y≤100)):=rfl
mutual
def Tree.ofT : Tree→Tree
 | .mk k n u ks=>if k=10 then (if basicOf n=0 then .mk 4 n 0 []else .mk (basicOf n) [] 0 [])else if k=8 then ofHead ks else .mk (if k=11 then 5 else if k=12 then 6 else 7) [] u (ofL ks)
def ofL : List Tree→List Tree
 | []=>[]
 | t::ts=>t.ofT::ofL ts
def ofHead : List Tree→Tree
 | [] =>.mk 0 [] 0 []
 | t::_=>t.ofT
end
theorem ofL_eq : ∀ l:List Tree,ofL l=l.map Tree.ofT
 | []=>rfl
 | t::ts=>by rw[ofL,ofL_eq ts];rfl
def okNode (a:Tree):Bool:=a.isType||(a.isParam||a.isSig)
theorem isType_node {a:Tree} (h:a.isType=true):okNode a=true:=by unfold okNode;rw[h];rfl
theorem isType_facts {a:Tree} (h:a.isType=true):(a.kind=10∧a.num=0∧a.kids=[])∨((a.kind=11∨a.kind=12)∧a.num=0∧∀ k∈a.kids,k.isType=true)∨(a.kind=13∧∀ k∈a.kids,k.isType=true):=by
 rw[isType_eq]at h;split at h
 ·simp only[bj,bw]at h;exact .inl ⟨by assumption,h.1,List.length_eq_zero_iff.1 h.2.2⟩
 split at h
 ·simp only[bj,bw,bO]at h;exact .inr (.inl ⟨by assumption,h.2.1,h.2.2.2⟩)
 split at h
 ·simp only[bj,bw,bO]at h;exact .inr (.inr ⟨by assumption,h.2.2.2⟩)
 ·cases h
theorem isParam_facts {a:Tree} (h:a.isParam=true):a.kind=8∧∃ k,a.kids=[k]∧k.isType=true:=by
 unfold Tree.isParam at h;simp only[bj,bw,bO]at h;obtain⟨h1,_,_,h2,h3⟩:=h
 match hk:a.kids with
 | []=>rw[hk]at h2;cases h2
 | [k]=>exact⟨h1,k,rfl,h3 k nn⟩
 | _::_::_=>rw[hk]at h2;simp at h2
theorem isSig_facts {a:Tree} (h:a.isSig=true):a.kind=7∧∀ k∈a.kids,okNode k=true:=by
 unfold Tree.isSig at h;simp only[bj,bw,bO]at h;obtain⟨h1,_,_,_,h2,h3⟩:=h;refine⟨h1,fun k hk=>?_⟩;rw[←co a.num.toNat a.kids,List.mem_append]at hk;rcases hk with hk | hk
 ·unfold okNode;rw[h2 k hk];simp
 ·exact isType_node (h3 k hk)
theorem okNode_facts {a:Tree} (h:okNode a=true):(a.kind=10∧a.num=0∧a.kids=[])∨((a.kind=11∨a.kind=12)∧a.num=0∧∀ k∈a.kids,okNode k=true)∨((a.kind=13∨a.kind=7)∧∀ k∈a.kids,okNode k=true)∨(a.kind=8∧∃ k,a.kids=[k]∧okNode k=true):=by
 unfold okNode at h;rw[bE,bE]at h;rcases h with h | h | h
 ·rcases isType_facts h with h | ⟨h1,h2,h3⟩ | ⟨h1,h3⟩
  ·exact .inl h
  ·exact .inr (.inl ⟨h1,h2,fun k hk=>isType_node (h3 k hk)⟩)
  ·exact .inr (.inr (.inl ⟨.inl h1,fun k hk=>isType_node (h3 k hk)⟩))
 ·obtain⟨h1,k,h2,h3⟩:=isParam_facts h;exact .inr (.inr (.inr ⟨h1,k,h2,isType_node h3⟩))
 ·obtain⟨h1,h2⟩:=isSig_facts h;exact .inr (.inr (.inl ⟨.inr h1,h2⟩))
theorem ofT_eq (a:Tree):a.ofT=if a.kind=10 then (if basicOf a.name=0 then .mk 4 a.name 0 []else .mk (basicOf a.name) [] 0 [])else if a.kind=8 then ofHead a.kids else .mk (if a.kind=11 then 5 else if a.kind=12 then 6 else 7) [] a.num (a.kids.map Tree.ofT):=by
 obtain⟨k,n,u,ks⟩:=a;simp only[Tree.kind,Tree.name,Tree.num,Tree.kids];rw[Tree.ofT,ofL_eq];rfl
def okType (a:Tree):Bool:=withinB a 3 3&&a.isType
def okSig (a:Tree):Bool:=withinB a 3 2&&a.isSig
def kindB (a:Tree):Bool :=
 if a.kind=1∨a.kind=2∨a.kind=3∨a.kind=8 then decide (a.kids.length=0)
 else if a.kind=4 then decide (a.kids.length=0)&&(isName a.name&&decide (basicOf a.name=0))
 else if a.kind=5∨a.kind=6 then decide (a.kids.length=1)
 else if a.kind=7 then decide (0≤a.num)&&decide (a.num≤(a.kids.length:Int))else false
def headB (a:Tree):Bool:=(decide (a.kind=4)||decide (a.name=[]))&&(decide (a.kind=7)||decide (a.num=0))
mutual
def Tree.formed : Tree→Bool
 | .mk k n u ks=>formedL ks&&(headB (.mk k n u ks)&&kindB (.mk k n u ks))
def formedL : List Tree→Bool
 | []=>true
 | t::ts=>(!decide (t.kind=8)&&t.formed)&&formedL ts
end
theorem formed_eq (a:Tree):a.formed=(formedL a.kids&&(headB a&&kindB a)):=by
 obtain⟨_,_,_,_⟩:=a;rfl
theorem formedL_eq : ∀ l:List Tree,formedL l=l.all (fun t=>!decide (t.kind=8)&&t.formed)
 | []=>rfl
 | t::ts=>by rw[formedL,formedL_eq ts,cr]
theorem formedL_append (l r:List Tree):formedL (l++r)=(formedL l&&formedL r):=by rw[formedL_eq,formedL_eq,formedL_eq,List.all_append]
theorem formedL_next (l:List Tree) (k:Nat) (h:k<l.length):formedL (l.take (k+1))=(formedL (l.take k)&&(!decide (l[k].kind=8)&&l[k].formed)):=by
 rw[cq h,formedL_append];simp[formedL]
theorem formedL_false {l:List Tree} {t:Tree} (hm:t∈l) (h:(!decide (t.kind=8)&&t.formed)=false):formedL l=false:=by
 rw[formedL_eq];exact List.all_eq_false.2 ⟨t,hm,by rw[h];simp⟩
def Tree.sound (a:Tree):Bool:=decide (a.size≤20000∧a.deep≤100)&&a.formed
end Go.Sep
namespace Go.Pt
open Go.Sep Go.Ps
@[reducible] def mk (s:Str):Tk:=⟨4,s,0⟩
@[reducible] def wd (s:Str):Tk:=⟨5,s,0⟩
@[reducible] def nm (s:Str):Tk:=⟨1,s,0⟩
def commaJ : List (List Tk)→List Tk
 | []=>[]
 | [t]=>t
 | t::u::ts=>t++mk [44]::commaJ (u::ts)
def resJ (ts:List (List Tk)):List Tk:=if ts.length<2 then commaJ ts else mk [40]::(commaJ ts++[mk [41]])
def nth (ts:List (List Tk)) (i:Nat):List Tk:=ts.getD i []
def semis (ts:List (List Tk)):List Tk:=(ts.map (· ++ [mk [59]])).flatten
def sigJ (u:Int) (ts:List (List Tk)):List Tk:=mk [40]::(commaJ (ts.take u.toNat)++mk [41]::resJ (ts.drop u.toNat))
def comb (k:Int) (n:Str) (u:Int) (ts:List (List Tk)):List Tk :=
 if k=1 then ts.flatten
 else if k=2 then wd [116,121,112,101]::nm n::wd [115,116,114,117,99,116]::mk [123]::(semis ts++[mk [125]])
 else if k=3 then wd [116,121,112,101]::nm n::wd [105,110,116,101,114,102,97,99,101]::mk [123]::(semis ts++[mk [125]])
 else if k=4 then wd [102,117,110,99]::nm n::(nth ts 0++nth ts 1)
 else if k=5 then wd [102,117,110,99]::mk [40]::(nth ts 0++mk [41]::nm n::(nth ts 1++nth ts 2))
 else if k=6∨k=8 then nm n::nth ts 0
 else if k=7 then sigJ u ts
 else if k=10 then [nm n]
 else if k=11 then mk [42]::nth ts 0
 else if k=12 then mk [91]::mk [93]::nth ts 0
 else if k=13 then wd [102,117,110,99]::sigJ u ts
 else if k=20 then mk [123]::(ts.flatten++[mk [125]])
 else if k=21 then wd [118,97,114]::nm n::(nth ts 0++((if ts.length=2 then mk [61]::nth ts 1 else [])++[mk [59]]))
 else if k=22 then commaJ (ts.take u.toNat)++mk [58,61]::(commaJ (ts.drop u.toNat)++[mk [59]])
 else if k=23 then commaJ (ts.take u.toNat)++mk [61]::(commaJ (ts.drop u.toNat)++[mk [59]])
 else if k=24 then nth ts 0++[mk [59]]
 else if k=25 then wd [105,102]::(nth ts 0++(nth ts 1++(if ts.length=3 then wd [101,108,115,101]::nth ts 2 else [])))
 else if k=26 then wd [102,111,114]::(commaJ (ts.take (ts.length-1))++nth ts (ts.length-1))
 else if k=27 then wd [114,101,116,117,114,110]::(commaJ ts++[mk [59]])
 else if k=28 then [wd [98,114,101,97,107],mk [59]]
 else if k=29 then [wd [99,111,110,116,105,110,117,101],mk [59]]
 else if k=40 then [⟨2,[],u⟩]
 else if k=41 then [⟨3,n,0⟩]
 else if k=42 then (if u=1 then [wd [116,114,117,101]]else [wd [102,97,108,115,101]])
 else if k=43 then [wd [110,105,108]]
 else if k=44 then [nm n]
 else if k=45 then mk [40]::nm n::mk [123]::(commaJ ts++[mk [125],mk [41]])
 else if k=46 then mk [91]::mk [93]::(nth ts 0++mk [123]::(commaJ (ts.drop 1)++[mk [125]]))
 else if k=47 then wd [102,117,110,99]::(nth ts 0++nth ts 1)
 else if k=48 then nth ts 0++[mk [46],nm n]
 else if k=49 then nth ts 0++mk [91]::(nth ts 1++[mk [93]])
 else if k=50 then nth ts 0++mk [91]::((if u=1∨u=3 then nth ts 1 else [])++mk [58]::((if 2≤u then nth ts (ts.length-1)else [])++[mk [93]]))
 else if k=51 then nth ts 0++mk [40]::(commaJ (ts.drop 1)++[mk [41]])
 else if k=52 then mk [40]::mk n::(nth ts 0++[mk [41]])
 else if k=53 then mk [40]::(nth ts 0++mk n::(nth ts 1++[mk [41]]))
 else []
mutual
def toks : Tree→List Tk
 | .mk k n u ks=>comb k n u (toksL ks)
def toksL : List Tree→List (List Tk)
 | []=>[]
 | t::ts=>toks t::toksL ts
end
end Go.Pt
namespace Go.Ps
open Go.Sep
variable {α β γ:Type}
def Res.up (c:Nat):Res α→Res α
 | .ok a k=>.ok a (k+c)
 | .bad k=>.bad (k+c)
 | .out=>.out
structure Cut (f f':F) (q:Nat):Prop where
 lo:∀ i,i<q→f' i=f i
 hi:∀ i,q≤i→f' i=none
structure Good (p:Pp α):Prop where
 le:∀ {f:F} {k:Nat} {a:α} {k':Nat},p f k = .ok a k'→k≤k'
 leb:∀ {f:F} {k k':Nat},p f k = .bad k'→k≤k'
 agree:∀ {f f':F} {q:Nat},(∀ i,i<q→f' i=f i)→∀ {k:Nat} {a:α} {k':Nat},p f k = .ok a k'→k'<q→p f' k = .ok a k'
 agreeb:∀ {f f':F} {q:Nat},(∀ i,i<q→f' i=f i)→∀ {k k':Nat},p f k = .bad k'→k'<q→p f' k = .bad k'
 cut:∀ {f f':F} {q:Nat},Cut f f' q→∀ {k:Nat},p f k = .bad q→p f' k = .bad q∨p f' k = .out
 cutk:∀ {f f':F} {q:Nat},Cut f f' q→∀ {k:Nat} {a:α},p f k = .ok a q→p f' k = .ok a q∨p f' k = .bad q∨p f' k = .out
 shift:∀(f:F) (c k:Nat),p f (k+c)=(p (fun i=>f (i+c)) k).up c
theorem Good.ret (a:α):Good (ret a) where
 le h:=by injection h with _ h;omega
 leb h:=by cases h
 agree _ _ _ _ h _:=h
 agreeb _ _ _ h _:=by cases h
 cut _ _ h:=by cases h
 cutk _ _ _ h:=.inl h
 shift _ _ _:=rfl
theorem Good.fail : Good (fail:Pp α) where
 le h:=by cases h
 leb h:=by injection h with h;omega
 agree _ _ _ _ h _:=by cases h
 agreeb _ _ _ h _:=h
 cut _ _ h:=.inl h
 cutk _ _ _ h:=by cases h
 shift _ _ _:=rfl
theorem Good.dry : Good (dry:Pp α) where
 le h:=by cases h
 leb h:=by cases h
 agree _ _ _ _ h _:=by cases h
 agreeb _ _ _ h _:=by cases h
 cut _ _ h:=by cases h
 cutk _ _ _ h:=by cases h
 shift _ _ _:=rfl
theorem bind_ok {p:Pp α} {g:α→Pp β} {f:F} {k k':Nat} {a:α} (h:p f k = .ok a k'):bind p g f k=g a f k':=by unfold bind;rw[h]
theorem bind_bad {p:Pp α} {g:α→Pp β} {f:F} {k k':Nat} (h:p f k = .bad k'):bind p g f k = .bad k':=by unfold bind;rw[h]
theorem bind_out {p:Pp α} {g:α→Pp β} {f:F} {k:Nat} (h:p f k = .out):bind p g f k = .out:=by unfold bind;rw[h]
theorem bind_ok_iff {p:Pp α} {g:α→Pp β} {f:F} {k k':Nat} {b:β} (h:bind p g f k = .ok b k'):∃ a k1,p f k = .ok a k1∧g a f k1 = .ok b k':=by
 cases hp:p f k with
 | ok a k1=>exact⟨a,k1,rfl,by rw[←h,bind_ok hp]⟩
 | bad k1=>rw[bind_bad hp]at h;cases h
 | out=>rw[bind_out hp]at h;cases h
theorem bind_bad_iff {p:Pp α} {g:α→Pp β} {f:F} {k k':Nat} (h:bind p g f k = .bad k'):p f k = .bad k'∨∃ a k1,p f k = .ok a k1∧g a f k1 = .bad k':=by
 cases hp:p f k with
 | ok a k1=>exact .inr ⟨a,k1,rfl,by rw[←h,bind_ok hp]⟩
 | bad k1=>rw[bind_bad hp]at h;injection h with h;exact .inl (by rw[h])
 | out=>rw[bind_out hp]at h;cases h
theorem Good.bind {p:Pp α} {g:α→Pp β} (hp:Good p) (hg:∀ a,Good (g a)):Good (bind p g) where
 le h:=by
  obtain⟨a,k1,h1,h2⟩:=bind_ok_iff h;exact bG (hp.le h1) ((hg a).le h2)
 leb h:=by
  rcases bind_bad_iff h with h1 | ⟨a,k1,h1,h2⟩
  ·exact hp.leb h1
  ·exact bG (hp.le h1) ((hg a).leb h2)
 agree hf k a k' h hk:=by
  obtain⟨a,k1,h1,h2⟩:=bind_ok_iff h;rw[bind_ok (hp.agree hf h1 (Nat.lt_of_le_of_lt ((hg a).le h2) hk))];exact(hg a).agree hf h2 hk
 agreeb hf k k' h hk:=by
  rcases bind_bad_iff h with h1 | ⟨a,k1,h1,h2⟩
  ·exact bind_bad (hp.agreeb hf h1 hk)
  ·rw[bind_ok (hp.agree hf h1 (Nat.lt_of_le_of_lt ((hg a).leb h2) hk))];exact(hg a).agreeb hf h2 hk
 cut {f f' q} hc k h:=by
  rcases bind_bad_iff h with h1 | ⟨a,k1,h1,h2⟩
  ·rcases hp.cut hc h1 with h3 | h3
   ·exact .inl (bind_bad h3)
   ·exact .inr (bind_out h3)
  ·have hk1:=(hg a).leb h2;rcases Nat.lt_or_eq_of_le hk1 with hk | hk
   ·rw[bind_ok (hp.agree hc.lo h1 hk)];exact(hg a).cut hc h2
   ·subst hk;rcases hp.cutk hc h1 with h3 | h3 | h3
    ·rw[bind_ok h3];exact(hg a).cut hc h2
    ·exact .inl (bind_bad h3)
    ·exact .inr (bind_out h3)
 cutk {f f' q} hc k b h:=by
  obtain⟨a,k1,h1,h2⟩:=bind_ok_iff h;have hk1:=(hg a).le h2;rcases Nat.lt_or_eq_of_le hk1 with hk | hk
  ·rw[bind_ok (hp.agree hc.lo h1 hk)];exact(hg a).cutk hc h2
  ·subst hk;rcases hp.cutk hc h1 with h3 | h3 | h3
   ·rw[bind_ok h3];exact(hg a).cutk hc h2
   ·exact .inr (.inl (bind_bad h3))
   ·exact .inr (.inr (bind_out h3))
 shift f c k:=by
  have h1:=hp.shift f c k;cases hr:p (fun i=>f (i+c)) k with
  | ok a k1=>rw[bind_ok hr,bind_ok (by rw[h1,hr];rfl)];exact(hg a).shift f c k1
  | bad k1=>rw[bind_bad hr,bind_bad (by rw[h1,hr];rfl)];rfl
  | out=>rw[bind_out hr,bind_out (by rw[h1,hr];rfl)];rfl
def look (d:Option Tk→Option γ) (A:γ→Pp α) (B:Pp α):Pp α:=fun f k =>
 match d (f k)with
 | some x=>A x f (k+1)
 | none=>B f k
theorem look_some {d:Option Tk→Option γ} {A:γ→Pp α} {B:Pp α} {f:F} {k:Nat} {x:γ} (h:d (f k)=some x):look d A B f k=A x f (k+1):=by unfold look;rw[h]
theorem look_none {d:Option Tk→Option γ} {A:γ→Pp α} {B:Pp α} {f:F} {k:Nat} (h:d (f k)=none):look d A B f k=B f k:=by unfold look;rw[h]
theorem Good.look {d:Option Tk→Option γ} {A:γ→Pp α} {B:Pp α} (hd:d none=none) (hA:∀ x,Good (A x)) (hB:Good B):Good (look d A B) where
 le {f k a k'} h:=by
  cases hx:d (f k)with
  | some x=>rw[look_some hx]at h;have:=(hA x).le h;omega
  | none=>rw[look_none hx]at h;exact hB.le h
 leb {f k k'} h:=by
  cases hx:d (f k)with
  | some x=>rw[look_some hx]at h;have:=(hA x).leb h;omega
  | none=>rw[look_none hx]at h;exact hB.leb h
 agree {f f' q} hf k a k' h hk:=by
  cases hx:d (f k)with
  | some x =>
   rw[look_some hx]at h;have:=(hA x).le h;rw[look_some (x:=x) nI];exact(hA x).agree hf h hk
  | none =>
   rw[look_none hx]at h;have:=hB.le h;rw[look_none nI];exact hB.agree hf h hk
 agreeb {f f' q} hf k k' h hk:=by
  cases hx:d (f k)with
  | some x =>
   rw[look_some hx]at h;have:=(hA x).leb h;rw[look_some (x:=x) nI];exact(hA x).agreeb hf h hk
  | none =>
   rw[look_none hx]at h;have:=hB.leb h;rw[look_none nI];exact hB.agreeb hf h hk
 cut {f f' q} hc k h:=by
  cases hx:d (f k)with
  | some x =>
   rw[look_some hx]at h;have:=(hA x).leb h;rw[look_some (x:=x) (by rw[hc.lo k mv];exact hx)];exact(hA x).cut hc h
  | none =>
   rw[look_none hx]at h;have:=hB.leb h;rw[look_none (d:=d)]
   ·exact hB.cut hc h
   ·exact iD
 cutk {f f' q} hc k a h:=by
  cases hx:d (f k)with
  | some x =>
   rw[look_some hx]at h;have:=(hA x).le h;rw[look_some (x:=x) (by rw[hc.lo k mv];exact hx)];exact(hA x).cutk hc h
  | none =>
   rw[look_none hx]at h;have:=hB.le h;rw[look_none (d:=d)]
   ·exact hB.cutk hc h
   ·exact iD
 shift f c k:=by
  show(match d (f (k+c))with | some x=>A x f (k+c+1) | none=>B f (k+c))=Res.up c (match d (f (k+c))with | some x=>A x (fun i=>f (i+c)) (k+1) | none=>B (fun i=>f (i+c)) k);cases hx:d (f (k+c))with
  | some x=>have:=(hA x).shift f c (k+1);rw[show k+1+c=k+c+1 by omega]at this;exact this
  | none=>exact hB.shift f c k
def dM (s:Str):Option Tk→Bool
 | some t=>(decide (t.kind=4)||decide (t.kind=5))&&decide (t.text=s)
 | none=>false
theorem isM_eq (s:Str) (f:F) (k:Nat):isM s f k=dM s (f k):=by unfold isM dM;cases f k<;>rfl
theorem tok_eq (s:Str) (A B:Pp α):tok s A B=look (fun o=>bif dM s o then some ()else none) (fun _=>A) B:=by
 funext f k
 unfold tok look;rw[isM_eq];cases h:dM s (f k)<;>simp[h]
def dK (c:Int):Option Tk→Option Tk
 | some t=>bif decide (t.kind=c)then some t else none
 | none=>none
theorem tkn_eq (c:Int) (A:Tk→Pp α) (B:Pp α):tkn c A B=look (dK c) A B:=by
 funext f k
 unfold tkn look dK;cases f k with
 | none=>rfl
 | some t=>by_cases h:t.kind=c<;>simp[h]
theorem find_none {ops:List Str} {p:Str→Bool} (h:∀ s,p s=false):ops.find? p=none:=by simp[List.find?_eq_none,h]
theorem oneOf_eq (ops:List Str) (A:Str→Pp α) (B:Pp α):oneOf ops A B=look (fun o=>ops.find? (fun s=>dM s o)) A B:=by
 funext f k
 unfold oneOf look;simp only[isM_eq];cases ops.find? (fun s=>dM s (f k))<;>rfl
theorem Good.tok {s:Str} {A B:Pp α} (hA:Good A) (hB:Good B):Good (tok s A B):=by rw[tok_eq];exact Good.look rfl (fun _=>hA) hB
theorem Good.tkn {c:Int} {A:Tk→Pp α} {B:Pp α} (hA:∀ t,Good (A t)) (hB:Good B):Good (tkn c A B):=by rw[tkn_eq];exact Good.look rfl hA hB
theorem Good.oneOf {ops:List Str} {A:Str→Pp α} {B:Pp α} (hA:∀ t,Good (A t)) (hB:Good B):Good (oneOf ops A B):=by
 rw[oneOf_eq];exact Good.look (find_none fun _=>rfl) hA hB
theorem Good.need {s:Str} {A:Pp α} (hA:Good A):Good (need s A):=Good.tok hA Good.fail
theorem Good.name {A:Str→Pp α} (hA:∀ s,Good (A s)):Good (name A):=Good.tkn (fun t=>hA t.text) Good.fail
def Stops (p:Pp α):Prop:=∀(f:F) (k:Nat),f k=none→p f k = .bad k∨p f k = .out
def Takes (q:F→Nat→Bool) (p:Pp α):Prop:=∀(f:F) (k:Nat),q f k=true→(∀ a k',p f k = .ok a k'→k<k')∧∀ k',p f k = .bad k'→k<k'
structure Loc (q:F→Nat→Bool):Prop where
 no:∀(f:F) (k:Nat),f k=none→q f k=false
 same:∀(f f':F) (k k':Nat),f k=f' k'→q f k=q f' k'
theorem Loc.isM (s:Str):Loc (isM s):=⟨fun f k h=>by rw[isM_eq,h];rfl,fun f f' k k' h=>by rw[isM_eq,isM_eq,h]⟩
theorem Loc.begins : Loc begins:=by
 constructor
 ·intro f k h;simp only[Ps.begins,isM_eq,isK,h,dM];rfl
 ·intro f f' k k' h;simp only[Ps.begins,isM_eq,isK,h]
theorem peek_t {q:F→Nat→Bool} {A B:Pp α} {f:F} {k:Nat} (h:q f k=true):peek q A B f k=A f k:=by unfold peek;rw[h];rfl
theorem peek_f {q:F→Nat→Bool} {A B:Pp α} {f:F} {k:Nat} (h:q f k=false):peek q A B f k=B f k:=by unfold peek;rw[h];rfl
theorem Good.peek {q:F→Nat→Bool} {A B:Pp α} (hq:Loc q) (hA:Good A) (hB:Good B) (hs:Stops B∨Takes q A):Good (peek q A B) where
 le {f k a k'} h:=by
  cases hx:q f k with
  | true=>rw[peek_t hx]at h;exact hA.le h
  | false=>rw[peek_f hx]at h;exact hB.le h
 leb {f k k'} h:=by
  cases hx:q f k with
  | true=>rw[peek_t hx]at h;exact hA.leb h
  | false=>rw[peek_f hx]at h;exact hB.leb h
 agree {f f' n} hf k a k' h hk:=by
  cases hx:q f k with
  | true =>
   rw[peek_t hx]at h;have:=hA.le h;rw[peek_t nJ];exact hA.agree hf h hk
  | false =>
   rw[peek_f hx]at h;have:=hB.le h;rw[peek_f nJ];exact hB.agree hf h hk
 agreeb {f f' n} hf k k' h hk:=by
  cases hx:q f k with
  | true =>
   rw[peek_t hx]at h;have:=hA.leb h;rw[peek_t nJ];exact hA.agreeb hf h hk
  | false =>
   rw[peek_f hx]at h;have:=hB.leb h;rw[peek_f nJ];exact hB.agreeb hf h hk
 cut {f f' n} hc k h:=by
  cases hx:q f k with
  | true =>
   rw[peek_t hx]at h;have hl:=hA.leb h;rcases Nat.lt_or_eq_of_le hl with hk | hk
   ·rw[peek_t (by rw[hq.same f' f k k (hc.lo k hk)];exact hx)];exact hA.cut hc h
   ·subst hk;rcases hs with hs | hs
    ·have hn:=hc.hi k (bF _);rw[peek_f (hq.no f' k hn)];exact hs f' k hn
    ·have:=(hs f k hx).2 _ h;omega
  | false =>
   rw[peek_f hx]at h;have hl:=hB.leb h;rw[peek_f (q:=q)]
   ·exact hB.cut hc h
   ·exact gZ
 cutk {f f' n} hc k a h:=by
  cases hx:q f k with
  | true =>
   rw[peek_t hx]at h;have hl:=hA.le h;rcases Nat.lt_or_eq_of_le hl with hk | hk
   ·rw[peek_t (by rw[hq.same f' f k k (hc.lo k hk)];exact hx)];exact hA.cutk hc h
   ·subst hk;rcases hs with hs | hs
    ·have hn:=hc.hi k (bF _);rw[peek_f (hq.no f' k hn)];exact .inr (hs f' k hn)
    ·have:=(hs f k hx).1 _ _ h;omega
  | false =>
   rw[peek_f hx]at h;have hl:=hB.le h;rw[peek_f (q:=q)]
   ·exact hB.cutk hc h
   ·exact gZ
 shift f c k:=by
  have hx:q (fun i=>f (i+c)) k=q f (k+c):=hq.same _ _ _ _ rfl;cases hb:q f (k+c)with
  | true=>rw[peek_t hb,peek_t (hx.trans hb)];exact hA.shift f c k
  | false=>rw[peek_f hb,peek_f (hx.trans hb)];exact hB.shift f c k
theorem Good.commas {X:Pp α} (hX:Good X):∀ j,Good (commas j X)
 | 0=>Good.dry
 | j+1=>hX.bind fun a=>Good.tok ((Good.commas hX j).bind fun l=>Good.ret _) (Good.ret _)
theorem Good.upto {s:Str} {X:Pp α} (hX:Good X):∀ j,Good (upto j s X)
 | 0=>Good.dry
 | j+1=>Good.tok (Good.ret _) (hX.bind fun a=>(Good.upto hX j).bind fun l=>Good.ret _)
theorem Good.inP {N:Nat} {s:Str} {X:Pp α} (hX:Good X):Good (inP N s X):=Good.tok (Good.ret _) ((Good.commas hX N).bind fun l=>Good.need (Good.ret _))
theorem Good.tokIf {c:Bool} {s:Str} {A B:Pp α} (hA:Good A) (hB:Good B):Good (tokIf c s A B):=by
 cases c
 ·exact hB
 ·exact Good.tok hA hB
theorem Stops.bind {p:Pp α} {g:α→Pp β} (h:Stops p):Stops (bind p g):=fun f k hk=>by
 rcases h f k hk with h | h
 ·exact .inl (bind_bad h)
 ·exact .inr (bind_out h)
theorem Stops.look {d:Option Tk→Option γ} {A:γ→Pp α} {B:Pp α} (hd:d none=none) (hB:Stops B):Stops (look d A B):=fun f k hk=>by
 rw[look_none (by rw[hk];exact hd)];exact hB f k hk
theorem Stops.fail : Stops (fail:Pp α):=fun _ _ _=>.inl rfl
theorem Stops.dry : Stops (dry:Pp α):=fun _ _ _=>.inr rfl
theorem Stops.tok {s:Str} {A B:Pp α} (hB:Stops B):Stops (tok s A B):=by rw[tok_eq];exact Stops.look rfl hB
theorem Stops.tkn {c:Int} {A:Tk→Pp α} {B:Pp α} (hB:Stops B):Stops (tkn c A B):=by rw[tkn_eq];exact Stops.look rfl hB
theorem Stops.oneOf {ops:List Str} {A:Str→Pp α} {B:Pp α} (hB:Stops B):Stops (oneOf ops A B):=by rw[oneOf_eq];exact Stops.look (find_none fun _=>rfl) hB
theorem Stops.need {s:Str} {A:Pp α}:Stops (need s A):=Stops.tok Stops.fail
theorem Stops.name {A:Str→Pp α}:Stops (name A):=Stops.tkn Stops.fail
theorem Stops.commas {X:Pp α} (hX:Stops X):∀ j,Stops (commas j X)
 | 0=>Stops.dry
 | j+1=>Stops.bind hX
theorem Stops.peek {q:F→Nat→Bool} {A B:Pp α} (hq:Loc q) (hB:Stops B):Stops (peek q A B):=fun f k hk=>by
 rw[peek_f (hq.no f k hk)];exact hB f k hk
theorem Stops.binL {N:Nat} {U:Pp Tree} (hU:Stops U):∀ l,Stops (binL N U l)
 | []=>hU
 | _::rest=>Stops.bind (Stops.binL hU rest)
theorem Takes.tok {s:Str} {A B:Pp α} (hA:Good A):Takes (isM s) (tok s A B):=fun f k hk=>by
 have:Ps.tok s A B f k=A f (k+1):=by unfold Ps.tok;rw[hk];rfl
 rw[this];exact⟨fun a k' h=>hA.le h,fun k' h=>hA.leb h⟩
end Go.Ps
namespace Go.Pt
open Go.Sep Go.Ps
variable {α β:Type}
def seg (f:F) (k:Nat):List Tk→Prop
 | []=>True
 | t::l=>f k=some t∧seg f (k+1) l
def hd (l:List Tk) (o:Option Tk):Option Tk:=match l with
 | []=>o
 | t::_=>some t
theorem hd_app2 {l r:List Tk} {o:Option Tk}:hd (l++r) o=hd l (hd r o):=by
 cases l with
 | nil=>rfl
 | cons t l=>rfl
def Rd (p:Pp α) (l:List Tk) (a:α) (S:Option Tk→Bool):Prop:=∀ f k,seg f k l→S (f (k+l.length))=true→p f k = .ok a (k+l.length)
def dKb (c:Int) (o:Option Tk):Bool:=match o with
 | some t=>decide (t.kind=c)
 | none=>false
def dB (o:Option Tk):Bool:=dKb 1 o||(dM [42] o||(dM [91] o||dM [102,117,110,99] o))
end Go.Pt
namespace Go.Sep
def lim : Sg:=⟨fun a=>(sg a.deep).expr a,fun a=>(sg a.deep).stmt a,fun a=>(sg a.deep).block a⟩
structure EqOn (g g':Sg) (l:List Tree):Prop where
 expr:∀ x∈l,g.expr x=g'.expr x
 stmt:∀ x∈l,g.stmt x=g'.stmt x
 block:∀ x∈l,g.block x=g'.block x
theorem all_congr {p q:Tree→Bool}:∀ {l:List Tree},(∀ x∈l,p x=q x)→l.all p=l.all q
 | [],_=>rfl
 | x::l,h=>by rw[cr,cr,h x mx,all_congr fun y hy=>h y np]
theorem kidsR_congr : ∀(ps qs:List (Tree→Bool)) (r r':Option (Tree→Bool)) (l:List Tree),All2 (fun p q=>∀ x∈l,p x=q x) ps qs→(∀ l',l' ⊆ l→kidsR [] r l'=kidsR [] r' l')→kidsR ps r l=kidsR qs r' l
 | [],[],r,r',l,_,hr=>hr l (fun _ h=>h)
 | p::ps,q::qs,r,r',[],_,_=>rfl
 | p::ps,q::qs,r,r',x::l,h,hr=>by
  rw[kidsR,kidsR,h.1 x mx,kidsR_congr ps qs r r' l (h.2.mono fun p q hp y hy=>hp y np) (fun l' hl=>hr l' (fun y hy=>by have:=hl hy;simp[this]))]
theorem kidsR_some {p q:Tree→Bool} {l:List Tree} (h:∀ x∈l,p x=q x) (l':List Tree) (hl:l' ⊆ l):kidsR [] (some p) l'=kidsR [] (some q) l':=all_congr fun x hx=>h x (hl hx)
section
variable {g g':Sg} {a:Tree} (h:EqOn g g' a.kids)
include h
theorem exprS_congr : exprS g a=exprS g' a:=by
 have k1:kidsR [g.expr] none a.kids=kidsR [g'.expr] none a.kids:=kidsR_congr _ _ _ _ _ ⟨h.expr,trivial⟩ (fun _ _=>rfl);have k2:kidsR [g.expr,g.expr] none a.kids=kidsR [g'.expr,g'.expr] none a.kids:=kidsR_congr _ _ _ _ _ ⟨h.expr,h.expr,trivial⟩ (fun _ _=>rfl);have k3:kidsR [Tree.isType] (some g.expr) a.kids=kidsR [Tree.isType] (some g'.expr) a.kids:=kidsR_congr _ _ _ _ _ ⟨fun _ _=>rfl,trivial⟩ (kidsR_some h.expr);have k4:kidsR [Tree.isSig,g.block] none a.kids=kidsR [Tree.isSig,g'.block] none a.kids:=kidsR_congr _ _ _ _ _ ⟨fun _ _=>rfl,h.block,trivial⟩ (fun _ _=>rfl);have k5:kidsR [g.expr] (some g.expr) a.kids=kidsR [g'.expr] (some g'.expr) a.kids:=kidsR_congr _ _ _ _ _ ⟨h.expr,trivial⟩ (kidsR_some h.expr);have k6:a.kids.all g.expr=a.kids.all g'.expr:=all_congr h.expr;unfold exprS;rw[k1,k2,k3,k4,k5,k6]
theorem blockS_congr : blockS g a=blockS g' a:=by
 unfold blockS;rw[all_congr h.stmt]
theorem stmtS_congr : stmtS g a=stmtS g' a:=by
 have k1:kidsR [Tree.isType,g.expr] none a.kids=kidsR [Tree.isType,g'.expr] none a.kids:=kidsR_congr _ _ _ _ _ ⟨fun _ _=>rfl,h.expr,trivial⟩ (fun _ _=>rfl);have k2:kidsR [callS g] none a.kids=kidsR [callS g'] none a.kids:=kidsR_congr _ _ _ _ _ ⟨fun x hx=>by unfold callS;rw[h.expr x hx],trivial⟩ (fun _ _=>rfl);have k3:kidsR [g.expr,g.block] none a.kids=kidsR [g'.expr,g'.block] none a.kids:=kidsR_congr _ _ _ _ _ ⟨h.expr,h.block,trivial⟩ (fun _ _=>rfl);have k4:kidsR [g.expr,g.block,otherS g] none a.kids=kidsR [g'.expr,g'.block,otherS g'] none a.kids:=kidsR_congr _ _ _ _ _ ⟨h.expr,h.block,fun x hx=>by unfold otherS;rw[h.block x hx,h.stmt x hx],trivial⟩ (fun _ _=>rfl);have k5:kidsR [g.block] none a.kids=kidsR [g'.block] none a.kids:=kidsR_congr _ _ _ _ _ ⟨h.block,trivial⟩ (fun _ _=>rfl);have k6:a.kids.all g.expr=a.kids.all g'.expr:=all_congr h.expr;have k7:∀ left left':Tree→Bool,(∀ x∈a.kids,left x=left' x)→asgS g left a=asgS g' left' a:=fun left left' hl=>by
  unfold asgS;rw[all_congr (l:=a.kids.take a.num.toNat) fun x hx=>hl x (cv hx),all_congr (l:=a.kids.drop a.num.toNat) fun x hx=>h.expr x (List.mem_of_mem_drop hx)]
 unfold stmtS;rw[k1,k2,k3,k4,k5,k6,blockS_congr h,k7 (nmS g) (nmS g') (fun x hx=>by unfold nmS;rw[h.expr x hx]),k7 (plS g) (plS g') (fun x hx=>by unfold plS;rw[h.expr x hx])]
end
theorem deepL_of_mem : ∀ {l:List Tree} {t:Tree},t∈l→t.deep≤deepL l
 | x::xs,t,h=>by
  rcases List.mem_cons.1 h with rfl | h
  ·simp only[deepL];omega
  ·have:=deepL_of_mem h;simp only[deepL];omega
theorem deep_of_kid {a t:Tree} (h:t∈a.kids):t.deep<a.deep:=by
 obtain⟨k,n,u,ks⟩:=a;have:=deepL_of_mem h;simp only[Tree.kids,Tree.deep]at *;omega
theorem deep_pos (a:Tree):1≤a.deep:=by obtain⟨k,n,u,ks⟩:=a;simp only[Tree.deep];omega
theorem sg_lim : ∀(n:Nat) (a:Tree),a.deep≤n→(sg n).expr a=lim.expr a∧(sg n).stmt a=lim.stmt a∧(sg n).block a=lim.block a:=by
 intro n
 induction n using Nat.strongRecOn with
 | _ n ih =>
  intro a ha;have hp:=deep_pos a;obtain⟨d,hd⟩:∃ d,a.deep=d+1:=⟨a.deep-1,by omega⟩
  obtain⟨m,rfl⟩:∃ m,n=m+1:=⟨n-1,by omega⟩
  have he:EqOn (sg m) (sg d) a.kids:=by
   have h1:∀ x∈a.kids,_:=fun x hx=>ih m mv x og;have h2:∀ x∈a.kids,_:=fun x hx=>ih d mv x og;exact⟨fun x hx=>(h1 x hx).1.trans (h2 x hx).1.symm,fun x hx=>(h1 x hx).2.1.trans (h2 x hx).2.1.symm,fun x hx=>(h1 x hx).2.2.trans (h2 x hx).2.2.symm⟩
  show(sg m).step.expr a=(sg a.deep).expr a∧(sg m).step.stmt a=(sg a.deep).stmt a∧(sg m).step.block a=(sg a.deep).block a;rw[hd];exact⟨exprS_congr he,stmtS_congr he,blockS_congr he⟩
theorem lim_fix (a:Tree):lim.expr a=exprS lim a∧lim.stmt a=stmtS lim a∧lim.block a=blockS lim a:=by
 have he:EqOn (sg a.deep) lim a.kids:=by
  have h1:∀ x∈a.kids,_:=fun x hx=>sg_lim a.deep x (Nat.le_of_lt (deep_of_kid hx));exact⟨fun x hx=>(h1 x hx).1,fun x hx=>(h1 x hx).2.1,fun x hx=>(h1 x hx).2.2⟩
 have h2:=sg_lim (a.deep+1) a mv;exact⟨h2.1.symm.trans (exprS_congr he),h2.2.1.symm.trans (stmtS_congr he),h2.2.2.symm.trans (blockS_congr he)⟩
theorem declS_lim {a:Tree} (h:a.deep≤101):declS (sg 100) a=declS lim a:=by
 have hb:∀ x∈a.kids,(sg 100).block x=lim.block x:=fun x hx=>(sg_lim 100 x og).2.2;unfold declS;rw[kidsR_congr [Tree.isSig,(sg 100).block] [Tree.isSig,lim.block] none none a.kids ⟨fun _ _=>rfl,hb,trivial⟩ (fun _ _=>rfl),
  kidsR_congr [recvS,Tree.isSig,(sg 100).block] [recvS,Tree.isSig,lim.block] none none a.kids ⟨fun _ _=>rfl,fun _ _=>rfl,hb,trivial⟩ (fun _ _=>rfl)]
end Go.Sep
namespace Go.Ps
open Go.Sep
variable {α β:Type}
structure TkOk (t:Tk):Prop where
 name:t.kind=1→isName t.text=true
 num:t.kind=2→0≤t.num
 str:t.kind=3→t.text.length≤1024
def FOk (f:F):Prop:=∀ i t,f i=some t→TkOk t
def Sd (w:α→Prop) (p:Pp α):Prop:=∀ f,FOk f→∀ k a k',p f k = .ok a k'→w a
theorem Sd.ret {w:α→Prop} {a:α} (h:w a):Sd w (ret a):=fun f _ k b k' e=>by injection e with e1 e2;subst e1;exact h
theorem Sd.fail {w:α→Prop}:Sd w (fail:Pp α):=fun f _ k a k' e=>by cases e
theorem Sd.dry {w:α→Prop}:Sd w (dry:Pp α):=fun f _ k a k' e=>by cases e
theorem Sd.mono {w w':α→Prop} {p:Pp α} (h:Sd w p) (hw:∀ a,w a→w' a):Sd w' p:=fun f hf k a k' e=>hw a (h f hf k a k' e)
theorem Sd.bind {w1:α→Prop} {w:β→Prop} {p:Pp α} {g:α→Pp β} (hp:Sd w1 p) (hg:∀ a,w1 a→Sd w (g a)):Sd w (Ps.bind p g):=fun f hf k b k' e=>by
 unfold Ps.bind at e;cases hx:p f k with
 | ok a k1=>simp only[hx]at e;exact hg a (hp f hf k a k1 hx) f hf k1 b k' e
 | bad k1=>simp only[hx]at e;cases e
 | out=>simp only[hx]at e;cases e
theorem Sd.tok {w:α→Prop} {s:Str} {A B:Pp α} (hA:Sd w A) (hB:Sd w B):Sd w (tok s A B):=fun f hf k a k' e=>by
 unfold Ps.tok at e;cases hb:isM s f k with
 | true=>simp only[hb,cz]at e;exact hA f hf _ a k' e
 | false=>simp only[hb,cy]at e;exact hB f hf k a k' e
theorem Sd.need {w:α→Prop} {s:Str} {A:Pp α} (hA:Sd w A):Sd w (need s A):=Sd.tok hA Sd.fail
theorem Sd.tkn {w:α→Prop} {n:Int} {A:Tk→Pp α} {B:Pp α} (hA:∀ t,TkOk t→t.kind=n→Sd w (A t)) (hB:Sd w B):Sd w (tkn n A B):=fun f hf k a k' e=>by
 unfold Ps.tkn at e;cases hx:f k with
 | none=>simp only[hx]at e;exact hB f hf k a k' e
 | some t =>
  cases hb:decide (t.kind=n)with
  | true=>simp only[hx,hb,cz]at e;exact hA t (hf k t hx) (of_decide_eq_true hb) f hf _ a k' e
  | false=>simp only[hx,hb,cy]at e;exact hB f hf k a k' e
theorem Sd.name {w:α→Prop} {A:Str→Pp α} (hA:∀ t,isName t=true→Sd w (A t)):Sd w (name A):=Sd.tkn (fun t ht hk=>hA t.text (ht.name hk)) Sd.fail
theorem Sd.oneOf {w:α→Prop} {ops:List Str} {A:Str→Pp α} {B:Pp α} (hA:∀ t∈ops,Sd w (A t)) (hB:Sd w B):Sd w (oneOf ops A B):=fun f hf k a k' e=>by
 unfold Ps.oneOf at e;cases hx:ops.find? (fun s=>isM s f k)with
 | none=>simp only[hx]at e;exact hB f hf k a k' e
 | some t=>simp only[hx]at e;exact hA t (List.mem_of_find?_eq_some hx) f hf _ a k' e
theorem Sd.peek {w:α→Prop} {q:F→Nat→Bool} {A B:Pp α} (hA:Sd w A) (hB:Sd w B):Sd w (peek q A B):=fun f hf k a k' e=>by
 exact f0
theorem Sd.tokIf {w:α→Prop} {x:Bool} {s:Str} {A B:Pp α} (hA:x=true→Sd w A) (hB:Sd w B):Sd w (tokIf x s A B):=by
 cases x with
 | true=>exact Sd.tok (hA rfl) hB
 | false=>exact hB
def AllW (w:α→Prop) (l:List α):Prop:=∀ a∈l,w a
def Row (w:α→Prop) (l:List α):Prop:=AllW w l∧1≤l.length
theorem AllW.nil {w:α→Prop}:AllW w ([]:List α):=fun _ h=>by cases h
theorem AllW.cons {w:α→Prop} {a:α} {l:List α} (h:w a) (hl:AllW w l):AllW w (a::l):=fun b hb=>by
 rcases List.mem_cons.1 hb with rfl | hb
 ·exact h
 ·exact hl b hb
theorem AllW.all {p:Tree→Bool} {l:List Tree} (h:AllW (fun a=>p a=true) l):l.all p=true:=List.all_eq_true.2 h
theorem commas_sd {w:α→Prop} {X:Pp α} (h:Sd w X):∀ j,Sd (Row w) (commas j X)
 | 0=>Sd.dry
 | j+1=>Sd.bind h fun a ha=>Sd.tok (Sd.bind (commas_sd h j) fun l hl=>Sd.ret ⟨AllW.cons ha hl.1,by simp⟩) (Sd.ret ⟨AllW.cons ha AllW.nil,by simp⟩)
theorem upto_sd {w:α→Prop} {X:Pp α} {s:Str} (h:Sd w X):∀ j,Sd (AllW w) (upto j s X)
 | 0=>Sd.dry
 | j+1=>Sd.tok (Sd.ret AllW.nil) (Sd.bind h fun a ha=>Sd.bind (upto_sd h j) fun l hl=>Sd.ret (AllW.cons ha hl))
variable {N:Nat}
theorem inP_sd {w:α→Prop} {s:Str} {X:Pp α} (h:Sd w X):Sd (AllW w) (inP N s X):=Sd.tok (Sd.ret AllW.nil) (Sd.bind (commas_sd h N) fun l hl=>Sd.need (Sd.ret hl.1))
@[reducible] def Ty (a:Tree):Prop:=a.isType=true
@[reducible] def Pa (a:Tree):Prop:=a.isParam=true
@[reducible] def Sgn (a:Tree):Prop:=a.isSig=true
@[reducible] def Ex (a:Tree):Prop:=lim.expr a=true
@[reducible] def Stt (a:Tree):Prop:=lim.stmt a=true
@[reducible] def Bl (a:Tree):Prop:=lim.block a=true
theorem results_sd {typ:Pp Tree} (h:Sd Ty typ):Sd (AllW Ty) (resultsP N typ) :=
 Sd.tok (Sd.bind (commas_sd h N) fun l hl=>Sd.need (Sd.ret hl.1)) (Sd.peek (Sd.bind h fun t ht=>Sd.ret (AllW.cons ht AllW.nil)) (Sd.ret AllW.nil))
theorem param_sd {typ:Pp Tree} (h:Sd Ty typ):Sd Pa (paramP typ):=Sd.name fun s hs=>Sd.bind h fun t ht=>Sd.ret (by
 show Tree.isParam _=true;unfold Tree.isParam;simp[Tree.kind,Tree.num,Tree.name,Tree.kids,hs,show t.isType=true from ht])
theorem sig_sd {typ:Pp Tree} (h:Sd Ty typ):Sd Sgn (sigP N typ):=Sd.need (Sd.bind (inP_sd (param_sd h)) fun ps hps=>Sd.bind (results_sd h) fun rs hrs=>Sd.ret (by
 show Tree.isSig _=true;unfold Tree.isSig;simp only[Tree.kind,Tree.num,Tree.name,Tree.kids,bM,List.take_left',List.drop_left',AllW.all hps,AllW.all hrs];simp;omega))
theorem fsig_sd {typ:Pp Tree} (h:Sd Ty typ):Sd Ty (sigLike N 13 typ typ):=Sd.need (Sd.bind (inP_sd h) fun ps hps=>Sd.bind (results_sd h) fun rs hrs=>Sd.ret (by
 show Tree.isType _=true;rw[isType_eq];simp only[Tree.kind,Tree.num,Tree.name,Tree.kids,List.all_append,AllW.all hps,AllW.all hrs];simp;omega))
theorem typP_sd {typ:Pp Tree} (h:Sd Ty typ):Sd Ty (typP N typ):=by
 refine Sd.tok (Sd.bind h fun t ht=>Sd.ret ?_) (Sd.tok (Sd.need (Sd.bind h fun t ht=>Sd.ret ?_)) (Sd.tok (fsig_sd h) (Sd.name fun s hs=>Sd.ret ?_)))
 ·exact gE
 ·exact gE
 ·show Tree.isType _=true;rw[isType_eq];simp[leaf,Tree.kind,Tree.num,Tree.name,Tree.kids,hs]
theorem fieldT_sd {typ:Pp Tree} (h:Sd Ty typ):Sd (fun a=>fieldS Tree.isType a=true) (fieldP typ):=Sd.name fun s hs=>Sd.bind h fun t ht=>Sd.need (Sd.ret (by
 show fieldS _ _=true;simp[fieldS,ofB,kidsR,Tree.kind,Tree.num,Tree.name,Tree.kids,hs,show t.isType=true from ht]))
theorem fieldG_sd {typ:Pp Tree} (h:Sd Sgn typ):Sd (fun a=>fieldS Tree.isSig a=true) (fieldP typ):=Sd.name fun s hs=>Sd.bind h fun t ht=>Sd.need (Sd.ret (by
 show fieldS _ _=true;simp[fieldS,ofB,kidsR,Tree.kind,Tree.num,Tree.name,Tree.kids,hs,show t.isSig=true from ht]))
theorem typeDecl_sd {typ:Pp Tree} (h:Sd Ty typ):Sd (fun a=>declS lim a=true) (typeDeclP N typ):=by
 refine Sd.name fun nm hnm=>Sd.tok (Sd.need (Sd.bind (upto_sd (fieldG_sd (sig_sd h)) N) fun l hl=>Sd.ret ?_)) (Sd.need (Sd.need (Sd.bind (upto_sd (fieldT_sd h) N) fun l hl=>Sd.ret ?_)))
 ·exact gI
 ·exact gI
theorem declP_sd {typ block:Pp Tree} (h:Sd Ty typ) (hb:Sd Bl block):Sd (fun a=>declS lim a=true) (declP N typ block):=by
 refine Sd.tok (typeDecl_sd h) (Sd.need (Sd.tok ?_ ?_))
 ·refine Sd.name fun recv hrecv=>Sd.need (Sd.name fun of hof=>Sd.need (Sd.name fun nm hnm=>Sd.bind (sig_sd h) fun s hs=>Sd.bind hb fun b hb=>Sd.ret ?_));show declS _ _=true;have ht:(Tree.mk 11 [] 0 [leaf 10 of]).isType=true:=by
   have h1:(leaf 10 of).isType=true:=by rw[isType_eq];simp[leaf,Tree.kind,Tree.num,Tree.name,Tree.kids,hof]
   rw[isType_eq];simp[Tree.kind,Tree.num,Tree.name,Tree.kids,h1]
  have hr:recvS (recvT recv of)=true:=by
   unfold recvS recvT Tree.isParam;simp[kid0,leaf,Tree.kind,Tree.num,Tree.name,Tree.kids,hrecv];exact ht
  simp only[declS,Tree.kind];simp[ofB,kidsR,Tree.kind,Tree.num,Tree.name,Tree.kids,hnm,hr,show s.isSig=true from hs,show lim.block b=true from hb]
 ·refine Sd.name fun nm hnm=>Sd.bind (sig_sd h) fun s hs=>Sd.bind hb fun b hb=>Sd.ret ?_;show declS _ _=true;simp only[declS,Tree.kind];simp[ofB,kidsR,Tree.kind,Tree.num,Tree.name,Tree.kids,hnm,show s.isSig=true from hs,show lim.block b=true from hb]
theorem blockP_sd {stmt:Pp Tree} (h:Sd Stt stmt):Sd Bl (blockP N stmt):=Sd.need (Sd.bind (upto_sd h N) fun l hl=>Sd.ret (by
 show lim.block _=true;rw[(lim_fix _).2.2];simp only[blockS,bareB,Tree.kind,Tree.num,Tree.name,Tree.kids,AllW.all hl];simp))
@[reducible] def If (a:Tree):Prop:=lim.stmt a=true∧a.kind=25
theorem branchP_sd {expr block branch:Pp Tree} (he:Sd Ex expr) (hb:Sd Bl block) (hr:Sd If branch):Sd If (branchP expr block branch):=by
 refine Sd.need (Sd.bind he fun c hc=>Sd.bind hb fun b hb1=>Sd.tok (Sd.peek (Sd.bind hr fun e he1=>Sd.ret ⟨?_,rfl⟩) (Sd.bind hb fun e he1=>Sd.ret ⟨?_,rfl⟩)) (Sd.ret ⟨?_,rfl⟩))
 ·rw[(lim_fix _).2.1];simp[stmtS,headS,otherS,kidsR,Tree.kind,Tree.num,Tree.name,Tree.kids,show lim.expr c=true from hc,show lim.block b=true from hb1,he1.1];exact .inr (bQ he1.2)
 ·rw[(lim_fix _).2.1];simp[stmtS,headS,otherS,kidsR,Tree.kind,Tree.num,Tree.name,Tree.kids,show lim.expr c=true from hc,show lim.block b=true from hb1,show lim.block e=true from he1]
 ·exact gb
theorem forP_sd {expr block:Pp Tree} (he:Sd Ex expr) (hb:Sd Bl block):Sd Stt (forP expr block):=by
 refine Sd.peek (Sd.bind hb fun b hb1=>Sd.ret ?_) (Sd.bind he fun c hc=>Sd.bind hb fun b hb1=>Sd.ret ?_)
 ·show lim.stmt _=true;rw[(lim_fix _).2.1];simp[stmtS,headS,kidsR,Tree.kind,Tree.num,Tree.name,Tree.kids,show lim.block b=true from hb1]
 ·show lim.stmt _=true;exact gb
theorem asg_ok {left l:List Tree} {p:Tree→Bool} (h1:1≤left.length) (h2:1≤l.length) (hp:left.all p=true) (hl:l.all lim.expr=true) (k:Int):asgS lim p (.mk k [] (left.length:Int) (left++l))=true:=by
 simp only[asgS,Tree.num,Tree.kids,bM,List.take_left',List.drop_left',hp,hl,a6];simp only[bj];exact⟨bQ mv,bQ mv,trivial,trivial⟩
theorem assignP_sd {expr:Pp Tree} {left:List Tree} (he:Sd Ex expr) (hl:Row Ex left):Sd Stt (assignP N expr left):=by
 refine Sd.tokIf (fun hx=>Sd.bind (commas_sd he N) fun l hr=>Sd.ret ?_) (Sd.tokIf (fun hx=>Sd.bind (commas_sd he N) fun l hr=>Sd.ret ?_) ?_)
 ·show lim.stmt _=true;have hp:left.all (nmS lim)=true:=List.all_eq_true.2 fun x hx1=>by
   unfold nmS;exact ij
  rw[(lim_fix _).2.1];simp only[stmtS,headS,Tree.kind,Tree.num,Tree.name];simpa using asg_ok hl.2 hr.2 hp (AllW.all hr.1) 22
 ·show lim.stmt _=true;have hp:left.all (plS lim)=true:=List.all_eq_true.2 fun x hx1=>by
   unfold plS;exact ij
  rw[(lim_fix _).2.1];simp only[stmtS,headS,Tree.kind,Tree.num,Tree.name];simpa using asg_ok hl.2 hr.2 hp (AllW.all hr.1) 23
 ·cases hx:isC1 left with
  | false=>exact Sd.fail
  | true =>
   refine Sd.peek (Sd.ret ?_) Sd.fail;show lim.stmt _=true
   match left,hx,hl with
   | [t],hx,hl =>
    have ht:t.kind=51:=of_decide_eq_true hx;rw[(lim_fix _).2.1];simp[stmtS,headS,callS,kidsR,Tree.kind,Tree.num,Tree.name,Tree.kids,show lim.expr t=true from hl.1 t mx];exact bQ ht
theorem simpleP_sd {typ expr:Pp Tree} (h:Sd Ty typ) (he:Sd Ex expr):Sd Stt (simpleP N typ expr):=by
 refine Sd.tok (Sd.name fun s hs=>Sd.bind h fun t ht=>Sd.tok (Sd.bind he fun e he1=>Sd.ret ?_) (Sd.ret ?_)) (Sd.tok (Sd.peek (Sd.ret ?_) (Sd.bind (commas_sd he N) fun l hl=>Sd.ret ?_)) (Sd.tok (Sd.ret ?_) (Sd.tok (Sd.ret ?_) (Sd.bind (commas_sd he N) fun l hl=>assignP_sd he hl))))
 ·show lim.stmt _=true;rw[(lim_fix _).2.1];simp[stmtS,headS,kidsR,Tree.kind,Tree.num,Tree.name,Tree.kids,hs,show t.isType=true from ht,show lim.expr e=true from he1]
 ·show lim.stmt _=true;rw[(lim_fix _).2.1];simp[stmtS,headS,kidsR,Tree.kind,Tree.num,Tree.name,Tree.kids,hs,show t.isType=true from ht]
 ·show lim.stmt _=true;rw[(lim_fix _).2.1];simp[stmtS,headS,leaf,Tree.kind,Tree.num,Tree.name,Tree.kids]
 ·show lim.stmt _=true;rw[(lim_fix _).2.1];simp only[stmtS,headS,Tree.kind,Tree.num,Tree.name,Tree.kids,AllW.all hl.1];simp
 ·exact gJ
 ·exact gJ
theorem cutP_sd {expr:Pp Tree} {num:Int} {ks:List Tree} (he:Sd Ex expr) (hk:AllW Ex ks) (hn:(num=0∧ks.length=1)∨(num=1∧ks.length=2)):Sd Ex (cutP expr num ks):=by
 refine Sd.need (Sd.tok (Sd.ret ?_) (Sd.bind he fun e he1=>Sd.need (Sd.ret ?_)))
 ·show lim.expr _=true;refine mj ?_;simp only[exprS,Tree.kind];simp only[bareB,lvl,Tree.num,Tree.name,Tree.kids,AllW.all hk];rcases hn with ⟨rfl,h⟩ | ⟨rfl,h⟩<;>simp[h]
 ·show lim.expr _=true;refine mj ?_;simp only[exprS,Tree.kind];simp only[bareB,lvl,Tree.num,Tree.name,Tree.kids,List.all_append,AllW.all hk];rcases hn with ⟨rfl,h⟩ | ⟨rfl,h⟩<;>simp[h,show lim.expr e=true from he1]
theorem indexP_sd {expr:Pp Tree} {n:Tree} (he:Sd Ex expr) (hn:Ex n):Sd Ex (indexP expr n):=by
 refine Sd.peek (cutP_sd he (AllW.cons hn AllW.nil) (.inl ⟨rfl,rfl⟩)) (Sd.bind he fun e he1=>Sd.tok (Sd.ret ?_) (cutP_sd he (AllW.cons hn (AllW.cons he1 AllW.nil)) (.inr ⟨rfl,rfl⟩)));show lim.expr _=true;refine mj ?_;simp[exprS,bareB,kidsR,Tree.kind,Tree.num,Tree.name,Tree.kids,show lim.expr n=true from hn,show lim.expr e=true from he1]
theorem postP_sd {expr:Pp Tree} (he:Sd Ex expr):∀(j:Nat) (n:Tree),Ex n→Sd Ex (postP N expr j n)
 | 0,_,_=>Sd.dry
 | j+1,n,hn=>by
  refine Sd.tok (Sd.name fun s hs=>postP_sd he j _ ?_) (Sd.tok (Sd.bind (indexP_sd he hn) fun t ht=>postP_sd he j _ ht) (Sd.tok (Sd.bind (inP_sd he) fun l hl=>postP_sd he j _ ?_) (Sd.ret hn)))
  ·show lim.expr _=true;refine mj ?_;simp[exprS,ofB,kidsR,Tree.kind,Tree.num,Tree.name,Tree.kids,hs,show lim.expr n=true from hn]
  ·show lim.expr _=true;refine mj ?_;simp only[exprS,bareB,kidsR,Tree.kind,Tree.num,Tree.name,Tree.kids,AllW.all hl,show lim.expr n=true from hn];simp
theorem primP_sd {typ block expr:Pp Tree} {h:Bool} (gt:Sd Ty typ) (hb:Sd Bl block) (he:Sd Ex expr):Sd Ex (primP N typ block expr h):=by
 refine Sd.tkn (fun t ht hk=>Sd.ret ?_) (Sd.tkn (fun t ht hk=>Sd.ret ?_) (Sd.tok (Sd.ret ?_) (Sd.tok (Sd.ret ?_) (Sd.tok (Sd.ret ?_) ?_))))
 ·show lim.expr _=true;refine mj ?_;simp[exprS,bareB,kidsR,Tree.kind,Tree.num,Tree.name,Tree.kids,ht.num hk]
 ·show lim.expr _=true;have:=ht.str hk;refine mj ?_;simp only[exprS,leaf,bareB,kidsR,Tree.kind,Tree.num,Tree.name,Tree.kids];simp;exact bQ mv
 ·show lim.expr _=true;refine mj ?_;simp[exprS,bareB,kidsR,Tree.kind,Tree.num,Tree.name,Tree.kids]
 ·exact gN
 ·exact gN
 refine Sd.tok (Sd.bind he fun t ht=>Sd.need (Sd.ret ht)) (Sd.tok (Sd.need (Sd.bind gt fun t ht=>Sd.need (Sd.bind (inP_sd he) fun l hl=>Sd.ret ?_))) (Sd.tok (Sd.bind (sig_sd gt) fun s hs=>Sd.bind hb fun b hb1=>Sd.ret ?_) (Sd.name fun s hs=>?_)))
 ·show lim.expr _=true;refine mj ?_;simp only[exprS,bareB,kidsR,Tree.kind,Tree.num,Tree.name,Tree.kids,AllW.all hl,show t.isType=true from ht];simp
 ·show lim.expr _=true;refine mj ?_;simp[exprS,bareB,kidsR,Tree.kind,Tree.num,Tree.name,Tree.kids,show s.isSig=true from hs,show lim.block b=true from hb1]
 have hnm:Ex (leaf 44 s):=by
  show lim.expr _=true;refine mj ?_;simp[exprS,leaf,ofB,kidsR,Tree.kind,Tree.num,Tree.name,Tree.kids,hs]
 cases h with
 | true=>exact Sd.ret hnm
 | false =>
  refine Sd.tok (Sd.bind (inP_sd he) fun l hl=>Sd.ret ?_) (Sd.ret hnm);show lim.expr _=true;refine mj ?_;simp only[exprS,ofB,kidsR,Tree.kind,Tree.num,Tree.name,Tree.kids,AllW.all hl,hs];simp
theorem loopB_sd {X:Pp Tree} {ops:List Str} (h:Sd Ex X) (ho:∀ s∈ops,s∈levels.flatten):∀(j:Nat) (n:Tree),Ex n→Sd Ex (loopB j ops X n)
 | 0,_,_=>Sd.dry
 | j+1,n,hn=>Sd.oneOf (fun op hop=>Sd.bind h fun m hm=>loopB_sd h ho j _ (by
   show lim.expr _=true;refine mj ?_;simp only[exprS,binT,bareB,kidsR,Tree.kind,Tree.num,Tree.name,Tree.kids,show lim.expr n=true from hn,show lim.expr m=true from hm];simp;exact List.mem_flatten.1 (ho op hop))) (Sd.ret hn)
theorem binL_sd {U:Pp Tree} (hU:Sd Ex U):∀ l,(∀ ops∈l,∀ s∈ops,s∈levels.flatten)→Sd Ex (binL N U l)
 | [],_=>hU
 | ops::rest,hl=>Sd.bind (binL_sd hU rest fun o ho=>hl o nq) fun n hn=>loopB_sd (binL_sd hU rest fun o ho=>hl o nq) (hl ops mx) N n hn
structure GSd (g:Gr):Prop where
 typ:Sd Ty g.typ
 block:Sd Bl g.block
 stmt:Sd Stt g.stmt
 branch:Sd If g.branch
 expr:∀ b,Sd Ex (g.expr b)
 unary:∀ b,Sd Ex (g.unary b)
theorem gsd : ∀ n,GSd (gr N n)
 | 0=>⟨Sd.dry,Sd.dry,Sd.dry,Sd.dry,fun _=>Sd.dry,fun _=>Sd.dry⟩
 | n+1=>by
  have IH:=gsd n;refine⟨typP_sd IH.typ,blockP_sd IH.stmt,?_,branchP_sd (IH.expr _) IH.block IH.branch,fun b=>binL_sd (IH.unary b) _ fun o ho s hs=>List.mem_flatten.2 ⟨o,ho,hs⟩,fun b=>?_⟩
  ·refine Sd.peek (IH.block.mono fun a ha=>?_) (Sd.peek (IH.branch.mono fun a ha=>ha.1) (Sd.tok (forP_sd (IH.expr _) IH.block) (Sd.bind (simpleP_sd IH.typ (IH.expr _)) fun s hs=>Sd.need (Sd.ret hs))));show lim.stmt a=true;have h1:blockS lim a=true:=(lim_fix a).2.2.symm.trans ha;have h2:a.kind=20∧a.name=[]∧a.num=0:=by
    unfold blockS bareB at h1;simp only[bj,bw,cx]at h1;exact⟨h1.1.1,h1.1.2.1,h1.1.2.2⟩
   rw[(lim_fix a).2.1];unfold stmtS;rw[if_neg (by unfold headS;rw[h2.1,h2.2.1,h2.2.2];decide),if_pos h2.1,h1]
  ·refine Sd.oneOf (fun op hop=>Sd.bind (IH.unary b) fun t ht=>Sd.ret ?_) (Sd.bind (primP_sd IH.typ IH.block (IH.expr _)) fun t ht=>postP_sd (IH.expr _) N t ht);show lim.expr _=true;refine mj ?_;have ho:op∈ops4:=hop;simp only[exprS,bareB,kidsR,Tree.kind,Tree.num,Tree.name,Tree.kids,show lim.expr t=true from ht];simp;exact bQ ho
theorem declG_sd (n:Nat):Sd (fun a=>declS lim a=true) (declG N n):=declP_sd (gsd n).typ (gsd n).block
theorem progL_sd {w:Tree→Prop} {decl:Pp Tree} (h:Sd w decl):∀ j,Sd (AllW w) (progL decl j)
 | 0=>Sd.dry
 | j+1=>fun f hf k a k' e=>by
  have hr:Sd (AllW w) (Ps.bind decl fun a=>Ps.bind (Ps.progL decl j) fun l=>Ps.ret (a::l)):=Sd.bind h fun a ha=>Sd.bind (progL_sd h j) fun l hl=>Sd.ret (AllW.cons ha hl);unfold progL at e;cases hb:(f k).isNone with
  | true=>simp only[hb,cz]at e;injection e with e1 e2;subst e1;exact AllW.nil
  | false=>simp only[hb,cy]at e;exact hr f hf k a k' e
theorem program_sound {M:Nat} {f:F} (hf:FOk f) {ds:List Tree} {k:Nat} (h:program M f 0 = .ok ds k) (h1:(Tree.mk 1 [] 0 ds).size≤20000) (h2:(Tree.mk 1 [] 0 ds).deep≤100):soundB (.mk 1 [] 0 ds)=true:=by
 have hd:=progL_sd (declG_sd _) _ f hf 0 ds k h;unfold soundB;rw[bQ h1,bQ h2];simp only[bareB,Tree.kind,Tree.num,Tree.name,Tree.kids];have ha:ds.all (declS (sg 100))=true:=List.all_eq_true.2 fun x hx=>by
  have hx':x∈(Tree.mk 1 [] 0 ds).kids:=hx;rw[declS_lim (by have:=deep_of_kid hx';omega)];exact hd x hx
 rw[ha];simp
end Go.Ps
namespace Go
abbrev dj := @Sep.deep_of_kid
end Go
namespace Go.Pt
open Go.Sep Go.Ps
variable {α β:Type}
def yes (_:Option Tk):Bool:=true
def fT (o:Option Tk):Bool:=!dM [40] o&&!dB o
def fP (h:Bool) (o:Option Tk):Bool:=h||!dM [123] o
def fS (o:Option Tk):Bool:=!dM [101,108,115,101] o
def hS (L:List Str):Option Tk→Bool
 | none=>false
 | some t=>(decide (t.kind=1)||(decide (t.kind=2)||decide (t.kind=3)))||((decide (t.kind=4)||decide (t.kind=5))&&decide (t.text∈L))
def LE : List Str:=[[40],[91],[116,114,117,101],[102,97,108,115,101],[110,105,108],[102,117,110,99]]
def LS : List Str:=[[40],[91],[116,114,117,101],[102,97,108,115,101],[110,105,108],[102,117,110,99],[123],[105,102],[102,111,114],[118,97,114],[114,101,116,117,114,110],[98,114,101,97,107],[99,111,110,116,105,110,117,101]]
section
variable {N:Nat}
theorem len_size (a:Tree):a.kids.length<a.size:=by have:=len_sizeL a.kids;have:=size_kids a;omega
theorem kid_size {a t:Tree} (h:t∈a.kids):t.size<a.size:=by
 obtain⟨i,hi,rfl⟩:=List.getElem_of_mem h;have h1:=sizeL_next a.kids i hi;have h2:=sizeL_drop a.kids (i+1);have h3:=size_kids a;omega
end
end Go.Pt
namespace Go.Sep
open Go.Proofs
attribute [local irreducible] TC TO OT TCallX TCall DO DOt thenQ blockQ retQ At
theorem basic_law (m:Mem) (L:List Item) (s:Str):TCall Tryz.prog 85 ⟨[strV s]⟩ m L (Ret (.int .i64 (basicOf s)) m L):=by
 unfold TCall;refine ak Tryz.func85 10 ?_;refine am (fun h1=>?_) (fun h1=>?_)
 ·refine uA ?_;refine jy ?_;rw[basicOf,if_pos h1]
 refine uA ?_;refine am (fun h2=>?_) (fun h2=>?_)
 ·refine uA ?_;refine jy ?_;rw[basicOf,if_neg h1,if_pos h2]
 refine uA ?_;refine am (fun h3=>?_) (fun h3=>?_)
 ·refine uA ?_;refine jy ?_;rw[basicOf,if_neg h1,if_neg h2,if_pos h3]
 ·refine uA ?_;refine jy ?_;rw[basicOf,if_neg h1,if_neg h2,if_neg h3]
@[reducible] def cellI (b:Nat) (z:Int):Item:=.cells b 0 [.int .i64 z]
theorem set_get {L:List Item} {i:Nat} {x:Item} (h:L[i]? = some x) (y:Item):(L.set i y)[i]? = some y:=by
 rw[List.getElem?_set_self (List.getElem?_eq_some_iff.1 h).1]
def Low (m:Mem) (L:List Item) (i bl:Nat) (r:Bool) (z':Int):Value→Mem→List Item→Prop:=fun v m' L'=>m=m'∧v = .bool r∧∃ y:Int,L'=L.set i (cellI bl y)∧(r=true→y=z')
theorem small_law (a:Tree):∀(m:Mem) (L:List Item) (h:HTree) (hr:TreeRep m h a) (room z:Int) (i bl:Nat) (hi:L[i]? = some (cellI bl z)) (hz:0≤z∧z≤20000) (hroom:0≤room∧room≤1000),
  TCall Tryz.prog 82 ⟨[treeV h,.int .i64 room,.pointer (some ⟨bl,0,none⟩)]⟩ m L (Low m L i bl (decide ((a.size:Int)≤z∧(a.deep:Int)≤room)) (z-a.size)):=by
 induction a using Tree.ind with
 | h a ih =>
 intro m L h hr room z i bl hi hz hroom;obtain⟨h1,h2,h3,h4⟩:=hr;have hl:=h4.len;have hsm:=h4.small rfl;have hsz:=size_kids a;have hdp:=deep_kids a;unfold TCall;refine ak Tryz.func82 36 ?_;refine oB (fun b=>?_);refine kF ?_;have hset:=fun y=>set_get hi (cellI bl y);refine uA ?_;refine qs rfl (OT.loadL0 tab (i+1) rfl rfl rfl rfl (hset _) rfl ?_);have bad:∀ {y:Int},¬((a.size:Int)≤z∧(a.deep:Int)≤room)→Low m L i bl (decide ((a.size:Int)≤z∧(a.deep:Int)≤room)) (z-a.size) (.bool false) m (L.set i (cellI bl y)):=fun {y} hn=>⟨rfl,by rw[bR hn],y,rfl,fun hd=>absurd (of_decide_eq_true hd) hn⟩
 refine uA ?_;refine az (fun h5=>?_) (fun h5=>?_)
 ·refine uN ?_;refine TC.cond_t rfl ?_;refine uN ?_;exact iY
 refine uN ?_;refine am (fun h6=>?_) (fun h6=>?_)
 ·refine uN ?_;exact iY
 refine uL ?_;refine cH (ι:=Nat×Int) [1,2,23,24] rfl (fun x=>[(25,.int .i64 (x.1:Int))]) (fun _=>m) (fun x=>.cells b 0 (treeC h)::L.set i (cellI bl x.2)) (fun x=>x.1≤a.kids.length∧x.2=z-1-sizeL (a.kids.take x.1)∧0≤x.2∧(deepL (a.kids.take x.1):Int)≤room-1) (fun x=>a.kids.length-x.1) (0,z-1) uH rfl uS ⟨cn _,by simp[sizeL],by simp only;omega,by simp[deepL];omega⟩ ?_;rintro⟨k,y⟩ ⟨hk,hy,hy0,hd⟩;simp only at hk hy hy0 hd ⊢;refine uA ?_;refine am (fun h=>?_) (fun h=>?_)
 ·have hlt:k<a.kids.length:=mv;have hx:a.kids[k]? = some a.kids[k]:=mG;have hmem:=bL hlt;have e1:=sizeL_next a.kids k hlt;have e2:=deepL_next a.kids k hlt;have e3:=sizeL_take a.kids (k+1);have e4:=deepL_take a.kids (k+1);refine jX ?_;rintro b' i' h' hrd hA;refine jV ?_;refine aC tab (fun b2=>?_);refine jK ?_;refine aa (r':=room-1) uH mv ?_;refine oC goes82 ((ih _ hmem _ _ h' (rTree_iff.1 hrd) (room-1) y (i+2) bl (hset y) mv mv).x ?_);rintro _ _ L3 ⟨rfl,rfl,y',hL,hy'⟩;have hL2:∀(x1 x2:Item),(x1::x2::L.set i (cellI bl y)).set (i+2) (cellI bl y')=x1::x2::L.set i (cellI bl y'):=fun x1 x2=>by simp[List.set_set]
  replace hL:=hL.trans (hL2 (.cells b2 0 (treeC h')) _);subst hL;refine uA ?_;refine aY (fun h7=>?_) (fun h7=>?_)
  ·refine uA ?_;exact iY
  ·refine uA ?_;refine jA ?_;have:=hy' (bQ h7);exact⟨(k+1,y'),uH,uH,rfl,rfl,uS,⟨by simp only;omega,by simp only;omega,by simp only;omega,by simp only;omega⟩,by simp only;omega⟩
 ·refine uA ?_;refine ag ⟨rfl,?_,y,rfl,?_⟩
  ·rw[cj mv]at hy hd;rw[bQ];omega
  ·intro _;rw[cj mv]at hy;omega
def MadeT (m:Mem) (L:List Item) (x:Tree):Value→Mem→List Item→Prop:=Made m L fun r m'=>∃ h:HTree,r=treeV h∧TreeRep m' h x
theorem TreeRep.leaf (m:Mem) (k:Int) (n:Str) (u:Int):TreeRep m ⟨k,n,u,⟨none,0,0⟩⟩ (.mk k n u []):=⟨rfl,rfl,rfl,cS _ _⟩
theorem rot3 {α:Type} {a b c:α} {L:List α}:(a::b::c::L).Perm (b::c::a::L):=(ba b a _).trans ((ba c a _).cons b)
theorem ofN_law (a:Tree):∀(hn:okNode a=true) (m:Mem) (L:List Item) (h:HTree) (hr:TreeRep m h a) (hB:a.size≤1048576),TCall Tryz.prog 83 ⟨[treeV h]⟩ m L (MadeT m L a.ofT):=by
 induction a using Tree.ind with
 | h a ih =>
 intro hn m L h hr hB;have hr':=hr;obtain⟨h1,h2,h3,h4⟩:=hr;have hl:=h4.len;have hsm:=h4.small rfl;have hbl:=Pt.len_size a;rw[ofT_eq];unfold TCall;refine cK Tryz.func83 rfl 55 rfl ?_;rcases okNode_facts hn with ⟨h10,hu,hks⟩ | ⟨h11,hu,hkn⟩ | ⟨h13,hkn⟩ | ⟨h8,k,hks,hkn⟩
 ·rw[if_pos h10];obtain⟨k,n,u,s⟩:=h;obtain rfl:k=10:=h1.trans h10;refine uA ?_;refine oB (fun b=>?_);refine uA ?_;refine oA tab (fun b2=>?_);refine uL ?_;refine aC tab (fun b3=>?_);refine jK ?_;refine au goes85 (basic_law _ _ n) ?_;refine jK ?_;refine am (fun h0=>?_) (fun h0=>?_)
  ·simp only at h2 h3;rw[←h2,if_pos h0];refine aL [] df 6 [_,_] (_::L) rot3 ?_;refine cV tab uC uK [0,2] uK rfl ?_;refine DO.fork 1 [3] uK ⟨⟨_,rfl,rfl,rfl,?_⟩,⟨_,rfl,rfl,rfl,?_⟩,trivial⟩
   ·refine OT.loadL tab 1 rfl rfl rfl rfl rfl rfl ?_;refine jF ?_;refine af 3 ?_;refine aD 2 ?_;exact eW
   ·refine aD 2 ?_;refine jF ?_;refine af 1 ?_;refine OT.loadL tab 1 rfl rfl rfl rfl rfl rfl ?_;exact eW
  ·rw[if_neg (by rw[←h2];exact h0)];refine uL ?_;refine jx ?_;refine aw 1 ⟨cC _,rfl,⟨basicOf n,[],u,⟨none,0,0⟩⟩,rfl,?_⟩;simp only at h2 h3;rw[←h2,h3,hu];exact TreeRep.leaf _ _ _ _
 ·have h10:¬a.kind=10:=mv;have h8:¬a.kind=8:=mv;rw[if_neg h10,if_neg h8];have h12:h.kind=11∨h.kind=12:=by rw[h1];exact h11
  obtain⟨k,n,u,s⟩:=h;rcases h12 with h12 | h12
  ·simp only at h12;subst h12;rw[if_pos (show a.kind=11 from h1.symm)];refine uA ?_;refine oB (fun b=>?_);refine uA ?_;refine oA tab (fun b2=>?_);refine uL ?_;refine aC tab (fun b3=>?_);refine lN ?_;refine cH (ι:=Grow) [1,2,3,40,41] rfl (fun g=>[(42,.int .i64 (g.k:Int))]) (fun g=>g.m) (fun g=>tok g.s 4::.cells b3 0 [.int .i64 5,strV [],.int .i64 u,g.s.v]::.cells b2 0 (treeC ⟨0,[],0,⟨none,0,0⟩⟩)::.cells b 0 (treeC ⟨11,n,u,s⟩)::L) (fun g=>g.k≤a.kids.length∧SlRep rTree g.m g.s ((a.kids.take g.k).map Tree.ofT)∧Own g.s∧m≤g.m) (fun g=>a.kids.length-g.k) ⟨0,⟨none,0,0⟩,m⟩ uH rfl uS ⟨cn _,cS _ _,cZ,cC _⟩ ?_;exact dG
  ·simp only at h12;subst h12;rw[if_neg (show ¬a.kind=11 from fun e=>by rw[e]at h1;cases h1),if_pos (show a.kind=12 from h1.symm)];refine uA ?_;refine oB (fun b=>?_);refine uA ?_;refine oA tab (fun b2=>?_);refine uL ?_;refine aC tab (fun b3=>?_);refine lN ?_;refine cH (ι:=Grow) [1,2,3,40,41] rfl (fun g=>[(42,.int .i64 (g.k:Int))]) (fun g=>g.m) (fun g=>tok g.s 4::.cells b3 0 [.int .i64 6,strV [],.int .i64 u,g.s.v]::.cells b2 0 (treeC ⟨0,[],0,⟨none,0,0⟩⟩)::.cells b 0 (treeC ⟨12,n,u,s⟩)::L) (fun g=>g.k≤a.kids.length∧SlRep rTree g.m g.s ((a.kids.take g.k).map Tree.ofT)∧Own g.s∧m≤g.m) (fun g=>a.kids.length-g.k) ⟨0,⟨none,0,0⟩,m⟩ uH rfl uS ⟨cn _,cS _ _,cZ,cC _⟩ ?_;exact dG
 ·have h10:¬a.kind=10:=mv;have h8:¬a.kind=8:=mv;rw[if_neg h10,if_neg h8,if_neg mv,if_neg mv];have h12:h.kind=13∨h.kind=7:=by rw[h1];exact h13
  obtain⟨k,n,u,s⟩:=h;rcases h12 with h12 | h12
  ·simp only at h12;subst h12;refine uA ?_;refine oB (fun b=>?_);refine uA ?_;refine oA tab (fun b2=>?_);refine uL ?_;refine aC tab (fun b3=>?_);refine lN ?_;refine cH (ι:=Grow) [1,2,3,40,41] rfl (fun g=>[(42,.int .i64 (g.k:Int))]) (fun g=>g.m) (fun g=>tok g.s 4::.cells b3 0 [.int .i64 7,strV [],.int .i64 u,g.s.v]::.cells b2 0 (treeC ⟨0,[],0,⟨none,0,0⟩⟩)::.cells b 0 (treeC ⟨13,n,u,s⟩)::L) (fun g=>g.k≤a.kids.length∧SlRep rTree g.m g.s ((a.kids.take g.k).map Tree.ofT)∧Own g.s∧m≤g.m) (fun g=>a.kids.length-g.k) ⟨0,⟨none,0,0⟩,m⟩ uH rfl uS ⟨cn _,cS _ _,cZ,cC _⟩ ?_;exact dG
  ·simp only at h12;subst h12;refine uA ?_;refine oB (fun b=>?_);refine uA ?_;refine oA tab (fun b2=>?_);refine uL ?_;refine aC tab (fun b3=>?_);refine lN ?_;refine cH (ι:=Grow) [1,2,3,40,41] rfl (fun g=>[(42,.int .i64 (g.k:Int))]) (fun g=>g.m) (fun g=>tok g.s 4::.cells b3 0 [.int .i64 7,strV [],.int .i64 u,g.s.v]::.cells b2 0 (treeC ⟨0,[],0,⟨none,0,0⟩⟩)::.cells b 0 (treeC ⟨7,n,u,s⟩)::L) (fun g=>g.k≤a.kids.length∧SlRep rTree g.m g.s ((a.kids.take g.k).map Tree.ofT)∧Own g.s∧m≤g.m) (fun g=>a.kids.length-g.k) ⟨0,⟨none,0,0⟩,m⟩ uH rfl uS ⟨cn _,cS _ _,cZ,cC _⟩ ?_;exact dG
 ·rw[if_neg mv,if_pos h8,hks];have hmem:k∈a.kids:=by rw[hks];simp
  obtain⟨k',n,u,s⟩:=h;obtain rfl:k'=8:=h1.trans h8;have hx:a.kids[0]? = some k:=by rw[hks];rfl
  refine uA ?_;refine oB (fun b=>?_);refine uA ?_;refine oA tab (fun b2=>?_);refine uL ?_;refine aC tab (fun b3=>?_);refine jK ?_;refine kZ ?_;rintro b' i' h' hrd hA;refine jV ?_;refine oC goes83 ((ih k hmem hkn _ _ h' (rTree_iff.1 hrd) (bG (Nat.le_of_lt (Pt.kid_size hmem)) hB)).x ?_);rintro _ m2 _ ⟨hm2,rfl,ht2,rfl,hrt⟩;refine jE ?_;exact retQ_ret_c1 tab 1 rfl rfl rfl rfl uS ⟨hm2,rfl,ht2,rfl,hrt⟩
def okT (a:Tree):Bool:=okType a||okSig a
def ofRes (a:Tree):Tree×Int:=if okT a=true then (a.ofT,0)else (.mk 0 [] 0 [],2)
def MadeTI (m:Mem) (L:List Item) (x:Tree×Int):Value→Mem→List Item→Prop:=Made m L fun r m'=>∃ h:HTree,r = .tuple ⟨[treeV h,.int .i64 x.2]⟩∧TreeRep m' h x.1
theorem okT_node {a:Tree} (h:okT a=true):okNode a=true:=by
 unfold okT okType okSig at h;unfold okNode;rw[bE,bj,bj]at h;rcases h with h | h
 ·rw[h.2];rfl
 ·rw[h.2];simp
theorem okT_size {a:Tree} (h:okT a=true):a.size≤1048576:=by
 unfold okT okType okSig at h;rw[withinB_eq,withinB_eq]at h;simp only[bE,bj,bw]at h;omega
theorem type_not7 {a:Tree} (h:a.isType=true):¬a.kind=7:=by
 rcases isType_facts h with h | h | h<;>omega
theorem of_own (a:Tree) (m:Mem) (L:List Item) (h:HTree) (hr:TreeRep m h a) (hB:a.wide≤140737488355328):TCall Tryz.prog 38 ⟨[treeV h]⟩ m L (MadeTI m L (ofRes a)):=by
 have hk:=hr.kind;unfold TCall;refine ak Tryz.func38 28 ?_;refine oB (fun b=>?_);refine uA ?_;refine aC tab (fun b2=>?_);refine aC tab (fun b3=>?_);refine jK ?_;refine am (fun h7=>?_) (fun h7=>?_)
 ·refine uA ?_;refine qs rfl (OT.arith (r':=98) rfl rfl rfl rfl rfl rfl rfl mv ?_);refine uL ?_;have hsB:∀ r:Bool,r=decide ((a.size:Int)≤19997∧(a.deep:Int)≤98)→(r=true→(a.isType=true∨a.isSig=true)→okT a=true)∧(r=false→okT a=false):=by
   exact eo
  have hno:a.isType=false→a.isSig=false→okT a=false:=fun h1 h2=>by unfold okT okType okSig;rw[h1,h2];simp
  refine oC goes82 ((small_law a _ _ h hr 98 19997 0 b3 rfl mv mv).x ?_);rintro v _ L3 ⟨rfl,hv,y,hL,_⟩;generalize hsm:decide ((a.size:Int)≤19997∧(a.deep:Int)≤98)=sm at hv;exact dT
 ·refine uL ?_;have hsB:∀ r:Bool,r=decide ((a.size:Int)≤19997∧(a.deep:Int)≤97)→(r=true→(a.isType=true∨a.isSig=true)→okT a=true)∧(r=false→okT a=false):=by
   exact eo
  have hno:a.isType=false→a.isSig=false→okT a=false:=fun h1 h2=>by unfold okT okType okSig;rw[h1,h2];simp
  refine oC goes82 ((small_law a _ _ h hr 97 19997 0 b3 rfl mv mv).x ?_);rintro v _ L3 ⟨rfl,hv,y,hL,_⟩;generalize hsm:decide ((a.size:Int)≤19997∧(a.deep:Int)≤97)=sm at hv;exact dT
end Go.Sep
namespace Go
abbrev dk := @Sep.TreeRep.leaf
end Go
namespace Go.Sep
open Go.Proofs
attribute [local irreducible] TC TO OT TCallX TCall DO DOt thenQ blockQ retQ At
theorem equalFunc_law (m:Mem) (L:List Item) (s t:Sl) (l r:List Tree) (hs:SlRep rTree m s l) (ht:SlRep rTree m t r)
  (hp:∀ a∈l,∀(c:Tree) (m:Mem) (L:List Item) (h g:HTree),TreeRep m h a→TreeRep m g c→TCall Tryz.prog 203 ⟨[treeV h,treeV g]⟩ m L (Ret (.bool (teq a c)) m L)) :
  TCall Tryz.prog 215 ⟨[s.v,t.v,.func (.func 203) ⟨[]⟩ ⟨[]⟩]⟩ m L (Ret (.bool (teqL l r)) m L):=by
 have hl:=hs.len;have gl:=ht.len;have gsm:=ht.small rfl;unfold TCall;refine ak Tryz.func215 32 ?_;refine aY (fun e4=>?_) (fun e4=>?_)
 ·refine uA ?_;refine jy ?_;rw[teqL_len mv]
 refine uA ?_;refine cH (ι:=Nat) [1,2,15,16] rfl (fun k=>[(17,.int .i64 (k:Int))]) (fun _=>m) (fun _=>L) (fun k=>k≤l.length∧teqL l r=teqL (l.drop k) (r.drop k)) (fun k=>l.length-k) 0 uH rfl uS ⟨cn _,rfl⟩ ?_;rintro k ⟨hk,hI⟩;refine uA ?_;refine am (fun hlt'=>?_) (fun hlt'=>?_)
 ·have hlt:k<l.length:=mv;have hlt2:k<r.length:=mv;have hx:l[k]? = some l[k]:=mG;have hx2:r[k]? = some r[k]:=ni;rw[teqL_step _ _ k hlt hlt2]at hI;refine kJ ?_;rintro b' i' h' hrd hA;refine jV ?_;refine aC tab (fun b1=>?_);refine jx ?_;refine ar tab rTree k ht uH mD rfl hx2 ?_;rintro b'' i'' g' grd gA;refine ap tab gA ?_;refine aC tab (fun b2=>?_);refine jK ?_;refine au goes203 (hp _ (bL hlt) r[k] _ _ h' g' (rTree_iff.1 hrd) (rTree_iff.1 grd)) ?_;refine aO (t:=!teq l[k] r[k]) (fun e5=>?_) (fun e5=>?_)
  ·rw[Bool.not_eq_true']at e5;refine jT ?_;rw[hI,e5];rfl
  ·rw[Bool.not_eq_false']at e5;refine lQ ?_;exact⟨k+1,uH,uH,rfl,rfl,uS,⟨by omega,by rw[hI,e5];rfl⟩,by omega⟩
 ·refine uA ?_;refine jy ?_;rw[hI,ci mv,ci mv];rfl
theorem equal_law (a:Tree):∀(c:Tree) (m:Mem) (L:List Item) (h g:HTree) (hr:TreeRep m h a) (gr:TreeRep m g c),TCall Tryz.prog 203 ⟨[treeV h,treeV g]⟩ m L (Ret (.bool (teq a c)) m L):=by
 induction a using Tree.ind with
 | h a ih =>
 intro c m L h g hr gr;obtain⟨h1,h2,h3,h4⟩:=hr;obtain⟨g1,g2,g3,g4⟩:=gr;rw[teq_eq,←h1,←g1,←h2,←g2,←h3,←g3];unfold TCall;refine ak Tryz.func203 31 ?_;refine oB (fun b=>?_);refine uA ?_;refine ay (fun b2=>?_);refine az (fun e1=>?_) (fun e1=>?_)
 ·refine uL ?_;refine az (fun e2=>?_) (fun e2=>?_)
  ·refine uL ?_;refine az (fun e3=>?_) (fun e3=>?_)
   ·refine uL ?_;refine au goes215 (equalFunc_law _ _ h.kids g.kids _ _ h4 g4 (fun k hk=>ih k hk)) ?_;refine jy ?_;rw[bQ e1,bQ e2,bQ e3];rfl
   ·refine uA ?_;refine jy ?_;rw[bQ e1,bQ e2,bR e3];rfl
  ·refine uA ?_;refine jy ?_;rw[bQ e1,bR e2];rfl
 ·exact fI
end Go.Sep
namespace Go.Sep
open Go.Proofs
attribute [local irreducible] TC TO OT TCallX TCall DO DOt thenQ blockQ retQ At
theorem kindB_leaf {a:Tree} (h:a.kind=1∨a.kind=2∨a.kind=3∨a.kind=8):kindB a=decide (a.kids.length=0):=by unfold kindB;rw[if_pos h]
theorem kindB_4 {a:Tree} (h:a.kind=4):kindB a=(decide (a.kids.length=0)&&(isName a.name&&decide (basicOf a.name=0))):=by unfold kindB;rw[if_neg mv,if_pos h]
theorem kindB_5 {a:Tree} (h:a.kind=5∨a.kind=6):kindB a=decide (a.kids.length=1):=by unfold kindB;rw[if_neg mv,if_neg mv,if_pos h]
theorem kindB_7 {a:Tree} (h:a.kind=7):kindB a=(decide (0≤a.num)&&decide (a.num≤(a.kids.length:Int))):=by unfold kindB;rw[if_neg mv,if_neg mv,if_neg mv,if_pos h]
theorem kindB_no {a:Tree} (h1:¬(a.kind=1∨a.kind=2∨a.kind=3∨a.kind=8)) (h2:¬a.kind=4) (h3:¬(a.kind=5∨a.kind=6)) (h4:¬a.kind=7):kindB a=false:=by unfold kindB;rw[if_neg h1,if_neg h2,if_neg h3,if_neg h4]
def fitsB (a:Tree) (z d:Int):Bool:=decide ((a.size:Int)≤z∧(a.deep:Int)+d≤101)
theorem tsound_law (a:Tree):∀(m:Mem) (L:List Item) (h:HTree) (hr:TreeRep m h a) (hB:a.wide≤140737488355328) (d z:Int) (i bl:Nat) (hi:L[i]? = some (cellI bl z)) (hz:0≤z∧z≤20000) (hd:0≤d∧d≤101),
  TCall Tryz.prog 134 ⟨[treeV h,.int .i64 d,.pointer (some ⟨bl,0,none⟩)]⟩ m L (Low m L i bl (fitsB a z d&&a.formed) (z-a.size)):=by
 induction a using Tree.ind with
 | h a ih =>
 intro m L h hr hB d z i bl hi hz hd;obtain⟨h1,h2,h3,h4⟩:=hr;have hl:=h4.len;have hsm:=h4.small rfl;have hsz:=size_kids a;have hdp:=deep_kids a;have hnl:=wide_name a;obtain⟨q,n,u,s⟩:=h;simp only at h1 h2 h3 h4 hl;unfold TCall;refine cK Tryz.func134 rfl 112 rfl ?_;have bad:∀ {y:Int},(fitsB a z d&&a.formed)=false→Low m L i bl (fitsB a z d&&a.formed) (z-a.size) (.bool false) m (L.set i (cellI bl y)):=fun {y} hn=>⟨rfl,by rw[hn],y,rfl,fun hd=>by rw[hn]at hd;cases hd⟩
 have bad1:∀ {y:Int},¬((a.size:Int)≤z∧(a.deep:Int)+d≤101)→Low m L i bl (fitsB a z d&&a.formed) (z-a.size) (.bool false) m (L.set i (cellI bl y)):=fun hn=>bad (by unfold fitsB;rw[bR hn];rfl);have bad2:∀ {y:Int},headB a=false→Low m L i bl (fitsB a z d&&a.formed) (z-a.size) (.bool false) m (L.set i (cellI bl y)):=fun hn=>bad (by rw[formed_eq,hn];simp);have bad3:∀ {y:Int},formedL a.kids=false→Low m L i bl (fitsB a z d&&a.formed) (z-a.size) (.bool false) m (L.set i (cellI bl y)):=fun hn=>bad (by rw[formed_eq,hn];simp);have hset:=fun y=>set_get hi (cellI bl y);refine uA ?_;refine oB (fun b=>?_);refine kF ?_;refine uA ?_;refine qs rfl (OT.loadL0 tab (i+1) rfl rfl rfl rfl (hset _) rfl ?_);refine uA ?_;refine az (fun h5=>?_) (fun h5=>?_)
 ·exact ir
 refine uN ?_;refine az (fun h6=>?_) (fun h6=>?_)
 ·exact ir
 refine uL ?_;by_cases k4:a.kind=4
 ·obtain rfl:q=4:=h1.trans k4;refine uL ?_;refine aY (fun e2=>?_) (fun e2=>?_)
  ·refine uA ?_;exact cI rfl uS (bad2 (by unfold headB;rw[←h3,bR e2,bR (show ¬a.kind=7 by omega)];simp))
  have hhd:headB a=true:=by unfold headB;rw[←h3,bQ k4,bQ e2];simp
  refine uL ?_;refine cH (ι:=Nat×Int) [1,2,3,43,44] rfl (fun x=>[(45,.int .i64 (x.1:Int))]) (fun _=>m) (fun x=>.cells b 0 (treeC ⟨4,n,u,s⟩)::L.set i (cellI bl x.2)) (fun x=>x.1≤a.kids.length∧x.2=z-1-sizeL (a.kids.take x.1)∧0≤x.2∧(deepL (a.kids.take x.1):Int)+d≤100∧formedL (a.kids.take x.1)=true) (fun x=>a.kids.length-x.1) (0,z-1) uH rfl uS ⟨cn _,by simp[sizeL],by simp only;omega,by simp[deepL];omega,rfl⟩ ?_;rintro⟨k,y⟩ ⟨hk,hy,hy0,hd',hI⟩;simp only at hk hy hy0 hd' hI ⊢;refine uA ?_;refine am (fun hlt'=>?_) (fun hlt'=>?_)
  ·exact dJ
  rw[cj mv]at hy hd' hI;have hall:(fitsB a z d&&a.formed)=kindB a:=by
   exact gW
  have good:∀ {r:Bool},r=kindB a→Low m L i bl (fitsB a z d&&a.formed) (z-a.size) (.bool r) m (L.set i (cellI bl y)):=fun hr=>⟨rfl,by rw[hall,hr],y,rfl,fun _=>by omega⟩
  have hkb:=kindB_4 k4;refine uL ?_;refine az (fun e5=>?_) (fun e5=>?_)
  ·simp only at e5;refine uL ?_;refine oR goes84 (name_law _ _ n (by rw[h2];omega)) ?_;refine uA ?_;refine aE (b:=isName n) (fun e6=>?_) (fun e6=>?_)
   ·refine uL ?_;refine au goes85 (basic_law _ _ n) ?_;refine ag (good ?_);rw[hkb,←h2,e6,bQ (show a.kids.length=0 by omega)];rfl
   ·refine uA ?_;refine ag (good ?_);rw[hkb,←h2,e6];simp
  ·simp only at e5;refine uA ?_;refine ag (good ?_);rw[hkb,bR (show ¬a.kids.length=0 by omega)];rfl
 have n4:=k4;by_cases h7:a.kind=7
 ·obtain rfl:q=7:=h1.trans h7;refine uL ?_;refine cL rfl rfl (fun e1=>?_) (fun e1=>?_)
  ·exact iE
  have hhd:headB a=true:=by unfold headB;rw[←h2,bQ e1,bQ h7];simp
  refine uL ?_;refine cH (ι:=Nat×Int) [1,2,3,43,44] rfl (fun x=>[(45,.int .i64 (x.1:Int))]) (fun _=>m) (fun x=>.cells b 0 (treeC ⟨7,n,u,s⟩)::L.set i (cellI bl x.2)) (fun x=>x.1≤a.kids.length∧x.2=z-1-sizeL (a.kids.take x.1)∧0≤x.2∧(deepL (a.kids.take x.1):Int)+d≤100∧formedL (a.kids.take x.1)=true) (fun x=>a.kids.length-x.1) (0,z-1) uH rfl uS ⟨cn _,by simp[sizeL],by simp only;omega,by simp[deepL];omega,rfl⟩ ?_;rintro⟨k,y⟩ ⟨hk,hy,hy0,hd',hI⟩;simp only at hk hy hy0 hd' hI ⊢;refine uA ?_;refine am (fun hlt'=>?_) (fun hlt'=>?_)
  ·exact dJ
  rw[cj mv]at hy hd' hI;have hall:(fitsB a z d&&a.formed)=kindB a:=by
   exact gW
  have good:∀ {r:Bool},r=kindB a→Low m L i bl (fitsB a z d&&a.formed) (z-a.size) (.bool r) m (L.set i (cellI bl y)):=fun hr=>⟨rfl,by rw[hall,hr],y,rfl,fun _=>by omega⟩
  have hkb:=kindB_7 h7;refine uL ?_;refine az (fun e5=>?_) (fun e5=>?_)
  ·simp only at e5;refine uL ?_;refine ag (good ?_);rw[hkb,bQ (show 0≤a.num by omega),bP]
   congr 1
   apply propext
   (try simp only)
   omega
  ·simp only at e5;refine uA ?_;refine ag (good ?_);rw[hkb,bR (show ¬0≤a.num by omega)];rfl
 have n7:=h7;refine cL rfl rfl (fun e0=>?_) (fun e0=>?_)
 ·refine uL ?_;refine cL rfl rfl (fun e1=>?_) (fun e1=>?_)
  ·exact iE
  refine uL ?_;refine cL rfl rfl (fun e3=>?_) (fun e3=>?_)
  ·refine uL ?_;refine aY (fun e2=>?_) (fun e2=>?_)
   ·refine uA ?_;exact cI rfl uS (bad2 (by unfold headB;rw[←h3,bR e2,bR h7];simp))
   have hhd:headB a=true:=by unfold headB;rw[←h2,←h3,bQ e1,bQ e2];simp
   refine uL ?_;refine cH (ι:=Nat×Int) [1,2,3,43,44] rfl (fun x=>[(45,.int .i64 (x.1:Int))]) (fun _=>m) (fun x=>.cells b 0 (treeC ⟨q,n,u,s⟩)::L.set i (cellI bl x.2)) (fun x=>x.1≤a.kids.length∧x.2=z-1-sizeL (a.kids.take x.1)∧0≤x.2∧(deepL (a.kids.take x.1):Int)+d≤100∧formedL (a.kids.take x.1)=true) (fun x=>a.kids.length-x.1) (0,z-1) uH rfl uS ⟨cn _,by simp[sizeL],by simp only;omega,by simp[deepL];omega,rfl⟩ ?_;rintro⟨k,y⟩ ⟨hk,hy,hy0,hd',hI⟩;simp only at hk hy hy0 hd' hI ⊢;refine uA ?_;refine am (fun hlt'=>?_) (fun hlt'=>?_)
   ·exact dJ
   rw[cj mv]at hy hd' hI;have hall:(fitsB a z d&&a.formed)=kindB a:=by
    exact gW
   have good:∀ {r:Bool},r=kindB a→Low m L i bl (fitsB a z d&&a.formed) (z-a.size) (.bool r) m (L.set i (cellI bl y)):=fun hr=>⟨rfl,by rw[hall,hr],y,rfl,fun _=>by omega⟩
   by_cases hA:a.kind=1∨a.kind=2∨a.kind=3∨a.kind=8
   ·have hkb:=kindB_leaf hA;rcases hA with hA | hA | hA | hA
    ·obtain rfl:q=1:=h1.trans hA;exact eQ
    ·obtain rfl:q=2:=h1.trans hA;exact eQ
    ·obtain rfl:q=3:=h1.trans hA;exact eQ
    ·obtain rfl:q=8:=h1.trans hA;exact eQ
   by_cases hC:a.kind=5∨a.kind=6
   ·have hkb:=kindB_5 hC;rcases hC with hC | hC
    ·obtain rfl:q=5:=h1.trans hC;exact eQ
    ·obtain rfl:q=6:=h1.trans hC;exact eQ
   have hkb:=kindB_no hA n4 hC n7;refine uL ?_;refine am (fun e5=>?_) (fun e5=>?_)
   ·simp only at e5;omega
   refine uA ?_;refine am (fun e5=>?_) (fun e5=>?_)
   ·simp only at e5;omega
   refine uA ?_;refine am (fun e5=>?_) (fun e5=>?_)
   ·simp only at e5;omega
   refine uA ?_;refine am (fun e5=>?_) (fun e5=>?_)
   ·simp only at e5;omega
   refine uA ?_;refine am (fun e5=>?_) (fun e5=>?_)
   ·simp only at e5;omega
   refine uA ?_;refine am (fun e5=>?_) (fun e5=>?_)
   ·simp only at e5;omega
   refine uA ?_;refine am (fun e5=>?_) (fun e5=>?_)
   ·simp only at e5;omega
   refine uL ?_;refine az (fun e5=>?_) (fun e5=>?_)
   ·simp only at e5;omega
   refine uA ?_;exact cI rfl uS (good hkb.symm)
  ·simp only at e3;omega
 ·simp only at e0;omega
theorem isSound_law (a:Tree) (m:Mem) (L:List Item) (h:HTree) (hr:TreeRep m h a) (hB:a.wide≤140737488355328):TCall Tryz.prog 87 ⟨[treeV h]⟩ m L (Ret (.bool a.sound) m L):=by
 unfold TCall;refine ak Tryz.func87 6 ?_;refine oB (fun b=>?_);refine uA ?_;refine aC tab (fun b2=>?_);refine jK ?_;refine oC goes134 ((tsound_law a _ _ h hr hB 1 20000 0 b2 rfl mv mv).x ?_);rintro v _ L3 ⟨rfl,rfl,y,rfl,_⟩;refine jT ?_;unfold fitsB Tree.sound
 congr 2
 congr 1
 apply propext;omega
attribute [local irreducible] Tree.sound
end Go.Sep
namespace Go.Sep
open Go.Proofs
attribute [local irreducible] TC TO OT TCallX TCall DO DOt thenQ blockQ retQ At
structure HDecl where
 name:Str
 iface:Bool
 fields:Sl
 methods:Sl
@[reducible] def declV (h:HDecl):Value:=.agg ⟨[strV h.name,.bool h.iface,h.fields.v,h.methods.v]⟩
def declZ : HDecl:=⟨[],false,⟨none,0,0⟩,⟨none,0,0⟩⟩
def EntsOk (es:Ents Str):Prop:=∀ x,∃ h:HDecl,(mget es x).getD (declV declZ)=declV h
theorem EntsOk.nil : EntsOk []:=fun x=>⟨declZ,rfl⟩
mutual
def tknown (has:Str→Bool):Tree→Bool
 | .mk k n u ks=>(!decide (k=4)||has n)&&(!decide (k=8)&&tknownL has ks)
def tknownL (has:Str→Bool):List Tree→Bool
 | []=>true
 | t::ts=>tknown has t&&tknownL has ts
end
theorem tknown_eq (has:Str→Bool) (a:Tree):tknown has a=((!decide (a.kind=4)||has a.name)&&(!decide (a.kind=8)&&tknownL has a.kids)):=by
 obtain⟨_,_,_,_⟩:=a;rfl
theorem tknownL_eq (has:Str→Bool):∀ l:List Tree,tknownL has l=l.all (tknown has)
 | []=>rfl
 | t::ts=>by rw[tknownL,tknownL_eq has ts,cr]
theorem tknown_law (bt c:Nat) (es:Ents Str) (hok:EntsOk es) (a:Tree):∀(m:Mem) (L:List Item) (h:HTree) (hr:TreeRep m h a) (ho:m.o bt=some (mapO kStr es c)),
  TCall Tryz.prog 88 ⟨[.map (some bt),treeV h]⟩ m L (Ret (.bool (tknown (mhas es) a)) m L):=by
 induction a using Tree.ind with
 | h a ih =>
 intro m L h hr ho;obtain⟨h1,h2,h3,h4⟩:=hr;have hl:=h4.len;have hsm:=h4.small rfl;rw[tknown_eq,←h1,←h2];unfold TCall;refine cK Tryz.func88 rfl 40 rfl ?_;obtain⟨hd,hhd⟩:=hok h.name;refine uA ?_;refine ay (fun b=>?_);refine qs rfl (OT.lookupOkP tab kStr h.name rfl rfl rfl rfl rfl rfl rfl ho ?_);refine TO.conv ?_ (congrArg (fun z=>Value.tuple ⟨[z,.bool (mhas es h.name)]⟩) hhd);refine uA ?_;refine aC tab (fun b5=>?_);refine jK ?_
 (first | refine TO.splitP rfl rfl (fun e1=>?_) (fun e1=>?_) | refine cL rfl rfl (fun e1=>?_) (fun e1=>?_) | refine TO.split rfl rfl (fun e1=>?_) (fun e1=>?_))
 ·refine uA ?_;refine aE (b:=!mhas es h.name) (fun e2=>?_) (fun e2=>?_)
  ·rw[Bool.not_eq_true']at e2;refine jT ?_;rw[bQ e1,e2];rfl
  ·rw[Bool.not_eq_false']at e2;refine uL ?_;refine am (fun e3=>?_) (fun e3=>?_)
   ·omega
   ·refine uL ?_;refine kx ?_;rintro k ⟨hk,hI⟩;refine uA ?_;refine am (fun hlt'=>?_) (fun hlt'=>?_)
    ·exact dY
    ·rw[cj mv]at hI;refine jT ?_;rw[tknownL_eq,hI];rw[bQ e1,e2,bR e3];rfl
 ·refine uL ?_;refine am (fun e3=>?_) (fun e3=>?_)
  ·refine uA ?_;refine jy ?_;rw[bQ e3];simp
  ·refine uL ?_;refine kx ?_;rintro k ⟨hk,hI⟩;refine uA ?_;refine am (fun hlt'=>?_) (fun hlt'=>?_)
   ·exact dY
   ·rw[cj mv]at hI;refine jT ?_;rw[tknownL_eq,hI];rw[bR e1,bR e3];rfl
end Go.Sep
namespace Go.Sep
open Go.Proofs
attribute [local irreducible] TC TO OT TCallX TCall DO DOt thenQ blockQ retQ At
structure Fld where
 name:Str
 type:Tree
structure Decl where
 name:Str
 iface:Bool
 fields:List Fld
 methods:List Fld
structure HFld where
 name:Str
 type:HTree
@[reducible] def fieldC (h:HFld):List Value:=[strV h.name,.int .i64 h.type.kind,strV h.type.name,.int .i64 h.type.num,h.type.kids.v]
@[reducible] def fieldV (h:HFld):Value:=.agg ⟨[strV h.name,.int .i64 h.type.kind,strV h.type.name,.int .i64 h.type.num,h.type.kids.v]⟩
structure FldRep (m:Mem) (h:HFld) (a:Fld):Prop where
 name:h.name=a.name
 type:TreeRep m h.type a.type
def rField : R HFld Fld where
 size:=5
 bytes:=72
 enc:=fieldC
 rep:=FldRep
 enc_len _:=rfl
 one _:=rfl
 mono hm h:=⟨h.1,h.2.mono hm⟩
@[reducible] def declC (h:HDecl):List Value:=[strV h.name,.bool h.iface,h.fields.v,h.methods.v]
structure DeclRep (m:Mem) (h:HDecl) (a:Decl):Prop where
 name:h.name=a.name
 iface:h.iface=a.iface
 fields:SlRep rField m h.fields a.fields
 methods:SlRep rField m h.methods a.methods
theorem DeclRep.mono {m m':Mem} {h:HDecl} {a:Decl} (hr:DeclRep m h a) (hm:m≤m'):DeclRep m' h a:=⟨hr.name,hr.iface,hr.fields.mono hm,hr.methods.mono hm⟩
def rDecl : R HDecl Decl where
 size:=4
 bytes:=72
 enc:=declC
 rep:=DeclRep
 enc_len _:=rfl
 one _:=rfl
 mono hm h:=h.mono hm
def hasD (tbl:List Decl) (n:Str):Bool:=tbl.any fun d=>decide (d.name=n)
def findD (tbl:List Decl) (n:Str):Option Decl:=tbl.find? fun d=>decide (d.name=n)
theorem idxP_find {α:Type}:∀(l:List α) (p:α→Bool) (k:Nat),(l.find? p=none∧idxP l p k = -1)∨∃ j d,l[j]? = some d∧l.find? p=some d∧idxP l p k=((k+j:Nat):Int)
 | [],p,k=>.inl ⟨rfl,rfl⟩
 | x::xs,p,k=>by
  by_cases h:p x=true
  ·exact .inr ⟨0,x,rfl,by simp[h],by simp[idxP,h]⟩
  ·rcases idxP_find xs p (k+1)with ⟨h1,h2⟩ | ⟨j,d,h1,h2,h3⟩
   ·exact .inl ⟨by simp[h,h1],by simp[idxP,h,h2]⟩
   ·exact .inr ⟨j+1,d,by simpa using h1,by simp[h,h2],by rw[idxP,if_neg h,h3];congr 1;omega⟩
theorem hasD_find (tbl:List Decl) (n:Str):hasD tbl n=(findD tbl n).isSome:=by
 rw[findD,←any_find,hasD]
def zeroD : Decl:=⟨[],false,[],[]⟩
def theD (tbl:List Decl) (n:Str):Decl:=(findD tbl n).getD zeroD
def isStructD (tbl:List Decl) (t:Tree):Bool:=decide (t.kind=4)&&(hasD tbl t.name&&!(theD tbl t.name).iface)
def isIfaceD (tbl:List Decl) (t:Tree):Bool:=decide (t.kind=4)&&(hasD tbl t.name&&(theD tbl t.name).iface)
def toStructD (tbl:List Decl) (t:Tree):Bool:=decide (t.kind=5)&&(match t.kids with | k::_=>isStructD tbl k | []=>false)
def nilableD (tbl:List Decl) (t:Tree):Bool:=decide (t.kind=5)||(decide (t.kind=6)||(decide (t.kind=7)||isIfaceD tbl t))
structure TblRep (m:Mem) (es:Ents Str) (tbl:List Decl):Prop where
 get:∀ n,(findD tbl n=none∧mget es n=none)∨∃ d h,findD tbl n=some d∧mget es n=some (declV h)∧DeclRep m h d
theorem TblRep.mono {m m':Mem} {es:Ents Str} {tbl:List Decl} (h:TblRep m es tbl) (hm:m≤m'):TblRep m' es tbl:=⟨fun n=>by
 rcases h.get n with h | ⟨d,h,h1,h2,h3⟩
 ·exact .inl h
 ·exact .inr ⟨d,h,h1,h2,h3.mono hm⟩⟩
theorem TblRep.look {m:Mem} {es:Ents Str} {tbl:List Decl} (hT:TblRep m es tbl) (n:Str):∃ h,(mget es n).getD (declV declZ)=declV h∧DeclRep m h (theD tbl n):=by
 rcases hT.get n with ⟨h1,h2⟩ | ⟨d,h,h1,h2,h3⟩
 ·exact⟨declZ,by rw[h2];rfl,by rw[theD,h1];exact⟨rfl,rfl,cS _ _,cS _ _⟩⟩
 ·exact⟨h,by rw[h2];rfl,by rw[theD,h1];exact h3⟩
theorem TblRep.has {m:Mem} {es:Ents Str} {tbl:List Decl} (hT:TblRep m es tbl) (n:Str):mhas es n=hasD tbl n:=by
 rw[mhas_mget,hasD_find];rcases hT.get n with ⟨h1,h2⟩ | ⟨d,h,h1,h2,h3⟩<;>rw[h1,h2]<;>rfl
theorem TblRep.hasF {m:Mem} {es:Ents Str} {tbl:List Decl} (hT:TblRep m es tbl):mhas es=hasD tbl:=funext hT.has
theorem TblRep.ok {m:Mem} {es:Ents Str} {tbl:List Decl} (hT:TblRep m es tbl):EntsOk es:=fun x=>by
 obtain⟨h,h1,_⟩:=hT.look x;exact⟨h,h1⟩
def memF (l:List Fld) (n:Str):Option Fld:=l.find? fun f=>decide (f.name=n)
def Decl.all (d:Decl):List Fld:=d.fields++d.methods
def anyI {α:Type} (p:Nat→α→Bool):List α→Nat→Bool
 | [],_=>false
 | x::xs,k=>p k x||anyI p xs (k+1)
theorem anyI_iff {α:Type} (p:Nat→α→Bool):∀(l:List α) (k:Nat),anyI p l k=true↔∃ j x,l[j]? = some x∧p (k+j) x=true
 | [],k=>by simp[anyI]
 | x::xs,k=>by
  rw[anyI,bE,anyI_iff p xs (k+1)];constructor
  ·rintro(h | ⟨j,y,h1,h2⟩)
   ·exact⟨0,x,rfl,h⟩
   ·exact⟨j+1,y,by simpa using h1,by rw[←h2];congr 1;omega⟩
  ·rintro⟨j,y,h1,h2⟩;cases j with
   | zero=>left;simp only[List.getElem?_cons_zero,bu]at h1;subst h1;exact h2
   | succ j=>right;exact⟨j,y,by simpa using h1,by rw[←h2];congr 1;omega⟩
theorem anyI_no {α:Type} {p:Nat→α→Bool} {l:List α} (h:∀ j x,l[j]? = some x→p j x=false):anyI p l 0=false:=by
 rw[Bool.eq_false_iff];intro hc;obtain⟨j,x,h1,h2⟩:=(anyI_iff p l 0).1 hc;rw[cp,h j x h1]at h2;cases h2
theorem anyI_yes {α:Type} {p:Nat→α→Bool} {l:List α} {j:Nat} {x:α} (h1:l[j]? = some x) (h2:p j x=true):anyI p l 0=true:=(anyI_iff p l 0).2 ⟨j,x,h1,by rw[cp];exact h2⟩
def largeB (tbl:List Decl):Bool:=decide (1024<tbl.length)||tbl.any fun d=>decide (64<d.fields.length)||decide (64<d.methods.length)
def badF (nf k:Nat) (f:Fld):Bool:=!isName f.name||(!f.type.sound||(decide (f.type.kind=8)||(decide (nf≤k)&&!decide (f.type.kind=7))))
def headD (d:Decl):Bool:=!isName d.name||(!decide (basicOf d.name=0)||(d.iface&&decide (0<d.fields.length)))
def formD (d:Decl):Bool:=headD d||anyI (badF d.fields.length) d.all 0
def badK (tbl:List Decl) (nf k:Nat) (f:Fld):Bool:=!tknown (hasD tbl) f.type||(decide (k<nf)&&isStructD tbl f.type)
def typeD (tbl:List Decl) (d:Decl):Bool:=!decide ((d.all.map Fld.name).Nodup)||anyI (badK tbl d.fields.length) d.all 0
def typeB (tbl:List Decl):Bool:=!decide ((tbl.map Decl.name).Nodup)||tbl.any (typeD tbl)
def soundE (tbl:List Decl):Int:=if largeB tbl=true then 4 else if tbl.any formD=true then 2 else if typeB tbl=true then 5 else 0
structure Decl.small (d:Decl):Prop where
 name:d.name.length≤1048576
 fields:d.fields.length≤1048576
 methods:d.methods.length≤1048576
 all:∀ f∈d.all,f.name.length≤1048576∧f.type.wide≤140737488355328
def TblS (tbl:List Decl):Prop:=∀ d∈tbl,d.small
end Go.Sep
namespace Go.Sep
open Go.Proofs
attribute [local irreducible] TC TO OT TCallX TCall DO DOt thenQ blockQ retQ At
theorem tstruct_law (a:Tree) (bt c:Nat) (es:Ents Str) (tbl:List Decl) (m:Mem) (L:List Item) (h:HTree) (hr:TreeRep m h a) (ho:m.o bt=some (mapO kStr es c)) (hT:TblRep m es tbl):TCall Tryz.prog 89 ⟨[.map (some bt),treeV h]⟩ m L (Ret (.bool (isStructD tbl a)) m L):=by
 obtain⟨h1,h2,h3,h4⟩:=hr;obtain⟨hd,hhd,hrd⟩:=hT.look h.name;have hhas:=hT.has h.name;have hif:=hrd.iface;unfold TCall;refine cK Tryz.func89 rfl 25 rfl ?_;unfold isStructD;exact eA
theorem tiface_law (a:Tree) (bt c:Nat) (es:Ents Str) (tbl:List Decl) (m:Mem) (L:List Item) (h:HTree) (hr:TreeRep m h a) (ho:m.o bt=some (mapO kStr es c)) (hT:TblRep m es tbl):TCall Tryz.prog 204 ⟨[.map (some bt),treeV h]⟩ m L (Ret (.bool (isIfaceD tbl a)) m L):=by
 obtain⟨h1,h2,h3,h4⟩:=hr;obtain⟨hd,hhd,hrd⟩:=hT.look h.name;have hhas:=hT.has h.name;have hif:=hrd.iface;unfold TCall;refine cK Tryz.func204 rfl 24 rfl ?_;unfold isIfaceD;exact eA
theorem nilable_law (a:Tree) (bt c:Nat) (es:Ents Str) (tbl:List Decl) (m:Mem) (L:List Item) (h:HTree) (hr:TreeRep m h a) (ho:m.o bt=some (mapO kStr es c)) (hT:TblRep m es tbl):TCall Tryz.prog 202 ⟨[.map (some bt),treeV h]⟩ m L (Ret (.bool (nilableD tbl a)) m L):=by
 have h1:=hr.kind;unfold TCall;refine cK Tryz.func202 rfl 23 rfl ?_;unfold nilableD;rw[←h1];refine uA ?_;refine ay (fun b=>?_);refine az (fun e1=>?_) (fun e1=>?_)
 ·refine uL ?_;exact fZ
 ·refine uL ?_;refine az (fun e2=>?_) (fun e2=>?_)
  ·refine uL ?_;refine jy ?_;rw[bQ e2];simp
  ·refine uL ?_;refine az (fun e3=>?_) (fun e3=>?_)
   ·refine uL ?_;refine jy ?_;rw[bQ e3];simp
   ·refine uL ?_;refine au goes204 (tiface_law a bt c es tbl _ _ h hr ho hT) ?_;exact jn
theorem names_snoc (l:List Decl) (k:Nat) (h:k<l.length):((l.take (k+1)).map Decl.name).Nodup↔((l.take k).map Decl.name).Nodup∧hasD (l.take k) l[k].name=false:=by
 rw[cq h,cu,List.nodup_append];simp only[bH,bI,List.nodup_cons,List.not_mem_nil,not_false_eq_true,List.nodup_nil,true_and,and_true,cm,hasD,List.any_eq_false,bw,and_congr_right_iff];intro _;constructor
 ·intro hh x hx e;exact hh _ (List.mem_map.2 ⟨x,hx,rfl⟩) _ rfl e
 ·rintro hh x hx _ rfl e;obtain⟨d,hd,rfl⟩:=List.mem_map.1 hx;exact hh d hd e
theorem find_snoc (l:List Decl) (d:Decl) (n:Str):findD (l++[d]) n=(findD l n).or (if d.name=n then some d else none):=by
 rw[findD,List.find?_append,findD];by_cases h:d.name=n<;>simp[h]
theorem has_snoc (l:List Decl) (d:Decl) (n:Str):hasD (l++[d]) n=(hasD l n||decide (d.name=n)):=by
 simp[hasD]
structure TblAt (m:Mem) (es:Ents Str) (tbl:List Decl):Prop where
 has:∀ n,mhas es n=hasD tbl n
 ok:EntsOk es
 le:es.length≤tbl.length
 len:es.length=tbl.length↔(tbl.map Decl.name).Nodup
 rep:(tbl.map Decl.name).Nodup→TblRep m es tbl
theorem TblAt.nil (m:Mem):TblAt m [] []:=⟨fun _=>rfl,EntsOk.nil,bF _,by simp,fun _=>⟨fun n=>.inl ⟨rfl,rfl⟩⟩⟩
theorem TblAt.step {m:Mem} {es:Ents Str} {l:List Decl} {k c:Nat} (h:TblAt m es (l.take k)) (hk:k<l.length) {hd:HDecl} (hr:DeclRep m hd l[k]):TblAt m (mset es hd.name (declV hd) c) (l.take (k+1)):=by
 have hn:=hr.name;have hlen:(l.take k).length=k:=mK;have hlen':(l.take (k+1)).length=k+1:=mK;have hs:=names_snoc l k hk;have hsn:l.take (k+1)=l.take k++[l[k]]:=cq hk;have hhas:∀ n,mhas (mset es hd.name (declV hd) c) n=hasD (l.take (k+1)) n:=fun n=>by
  rw[mhas_mget,mget_mset,hsn,has_snoc,←h.has n,mhas_mget,←hn];by_cases e:hd.name=n
  ·rw[if_pos e,bQ e];simp
  ·rw[if_neg e,bR e];simp
 have hle:=h.le;have hl:=h.len;rw[hlen]at hle hl;refine⟨hhas,fun x=>?_,?_,?_,fun hnd=>⟨fun n=>?_⟩⟩
 ·rw[mget_mset];by_cases e:hd.name=x
  ·rw[if_pos e];exact⟨hd,rfl⟩
  ·rw[if_neg e];exact h.ok x
 ·rw[mset_len,hlen'];split<;>omega
 ·rw[mset_len,hlen',hs,h.has,hn,←hl];cases hh:hasD (l.take k) l[k].name with
  | true=>simp;omega
  | false=>simp
 ·obtain⟨q1,q2⟩:=hs.1 hnd;rw[hsn,find_snoc,mget_mset,hn];by_cases e:l[k].name=n
  ·subst e;rw[hasD_find]at q2;have:findD (l.take k) l[k].name=none:=by
    cases hf:findD (l.take k) l[k].name with
    | none=>rfl
    | some d=>rw[hf]at q2;cases q2
   rw[this,if_pos rfl,if_pos rfl];exact .inr ⟨_,hd,rfl,rfl,hr⟩
  ·rw[if_neg e,if_neg e,Option.or_none];exact(h.rep q1).get n
theorem newTable_law (m:Mem) (L:List Item) (s:Sl) (l:List Decl) (hs:SlRep rDecl m s l):TCall Tryz.prog 58 ⟨[s.v]⟩ m L (Made m L fun r m'=>∃ b es c,r = .map (some b)∧m'.o b=some (mapO kStr es c)∧TblAt m' es l):=by
 have hl:=hs.len;have hsm:=hs.small rfl;unfold TCall;refine ak Tryz.func58 19 ?_;refine qs rfl (OT.makeMap kStr rfl rfl rfl (fun b=>?_));refine uA ?_;refine cH (ι:=Nat×Ents Str×Nat) [3,7,8] rfl (fun x=>[(9,.int .i64 (x.1:Int))]) (fun _=>m) (fun x=>.obj b (mapO kStr x.2.1 x.2.2)::L) (fun x=>x.1≤l.length∧TblAt m x.2.1 (l.take x.1)) (fun x=>l.length-x.1) (0,[],0) uH rfl uS ⟨cn _,TblAt.nil m⟩ ?_;rintro⟨k,es,c⟩ ⟨hk,hI⟩;simp only at hk hI ⊢;refine uA ?_;refine am (fun h=>?_) (fun h=>?_)
 ·have hlt:k<l.length:=mv;have hx:l[k]? = some l[k]:=mG;refine mg ?_;rintro b' i' hd hrd hA;refine jV ?_;refine aC tab (fun b5=>?_);refine jK ?_;refine qs rfl (OT.mapSet tab kStr 1 hd.name rfl rfl rfl rfl rfl rfl rfl ?_);refine lQ ?_;exact⟨(k+1,mset es hd.name (declV hd) c,mclock es hd.name c),uH,uH,rfl,rfl,uS,⟨by simp only;omega,hI.step hlt hrd⟩,by simp only;omega⟩
 ·rw[cj mv]at hI;refine TC.freezeO fun m1 hm1 ho=>?_;refine uA ?_;refine ag ⟨hm1,rfl,b,es,c,rfl,ho,⟨hI.has,hI.ok,hI.le,hI.len,fun hn=>(hI.rep hn).mono hm1⟩⟩
theorem indexFunc_field (m:Mem) (L:List Item) (s:Sl) (l:List Fld) (p:Fld→Bool) (fn:FuncId) (cap:List Value) (hg:Goes Tryz.prog fn) (hs:SlRep rField m s l)
  (hp:∀(h:HFld) (a:Fld),a∈l→rField.rep m h a→TCall Tryz.prog fn ⟨fieldV h::cap⟩ m L (Ret (.bool (p a)) m L)) :
  TCall Tryz.prog 221 ⟨[s.v,.func (.func fn) ⟨[]⟩ ⟨cap⟩]⟩ m L (Ret (.int .i64 (idxP l p 0)) m L):=by
 unfold TCall;refine ak Tryz.func221 19 ?_;refine jU ?_;rintro k ⟨hk,hI⟩;have hl:=hs.len;have hsm:=hs.small rfl;refine uA ?_;refine am (fun h=>?_) (fun h=>?_)
 ·have hlt:k<l.length:=mv;have hx:l[k]? = some l[k]:=mG;refine uA ?_;refine ar tab rField k hs uH mD rfl hx ?_;rintro b i hd hr hA;refine jV ?_;refine qs rfl (cR (all:=fieldV hd::cap) rfl rfl rfl rfl rfl nh hg ((hp hd l[k] (bL hlt) hr).x ?_));refine ka ?_;exact ed
 ·exact fz
theorem memF_idx (l:List Fld) (n:Str):(memF l n=none∧idxP l (fun f=>decide (f.name=n)) 0 = -1)∨∃(j:Nat) (f:Fld),l[j]? = some f∧memF l n=some f∧idxP l (fun f=>decide (f.name=n)) 0=(j:Int):=by
 have:=idxP_find l (fun f=>decide (f.name=n)) 0;simpa[memF]using this
def zeroT : Tree:=.mk 0 [] 0 []
def memT (l:List Fld) (n:Str):Tree:=match memF l n with
 | some f=>f.type
 | none=>zeroT
theorem zeroT_rep (m:Mem):TreeRep m ⟨0,[],0,⟨none,0,0⟩⟩ zeroT:=dk _ _ _ _
theorem member_cl (b:Nat) (n:Str) (m:Mem) (L:List Item) (h:HFld) (hb:At m b 0 [strV n]):TCall Tryz.prog 222 ⟨[fieldV h,.pointer (some ⟨b,0,none⟩)]⟩ m L (Ret (.bool (decide (h.name=n))) m L):=by
 unfold TCall;refine ak Tryz.func222 8 ?_;refine ay (fun b2=>?_);refine ap tab hb ?_;exact eV
@[reducible] def MadeM (m:Mem) (L:List Item) (l:List Fld) (n:Str):Value→Mem→List Item→Prop:=Made m L fun r m'=>∃ ht,r = .tuple ⟨[treeV ht,.bool (memF l n).isSome]⟩∧TreeRep m' ht (memT l n)
theorem member_law (m:Mem) (L:List Item) (s:Sl) (l:List Fld) (n:Str) (hs:SlRep rField m s l):TCall Tryz.prog 216 ⟨[s.v,strV n]⟩ m L (MadeM m L l n):=by
 unfold TCall;refine ak Tryz.func216 18 ?_;refine oB (fun b=>?_);refine cX fun m1 hm1 hb=>?_;refine uA ?_;refine aC tab (fun b4=>?_);have hs1:=hs.mono hm1;refine oR goes221 (indexFunc_field m1 _ s l (fun f=>decide (f.name=n)) 222 [.pointer (some ⟨b,0,none⟩)] goes222 hs1 (fun h a ha hr=>by have:=hr.name;rw[←this];exact member_cl b n m1 _ h hb)) ?_;rcases memF_idx l n with ⟨w1,w2⟩ | ⟨j,f,w0,w1,w2⟩
 ·rw[w2];refine uN ?_;refine TC.condP rfl (fun e=>?_) (fun e=>absurd mw e);refine jE ?_;refine retQ_ret_c tab 0 rfl rfl rfl rfl rfl (L':=L) uS ⟨hm1,rfl,⟨0,[],0,⟨none,0,0⟩⟩,by rw[w1];rfl,by rw[memT,w1];exact zeroT_rep _⟩
 ·rw[w2];refine uN ?_;refine am (fun e=>?_) (fun e=>?_)
  ·omega
  ·refine uA ?_;refine ar tab rField j hs1 uH mD rfl w0 ?_;rintro b' i' hd hrd hA;refine lV ?_;refine jx ?_;refine retQ_ret_c tab 0 rfl rfl rfl rfl rfl (L':=L) uS ⟨hm1,rfl,hd.type,by rw[w1];rfl,by rw[memT,w1];exact hrd.type⟩
def givesF (l:List Fld) (f:Fld):Bool:=(memF l f.name).isSome&&teq (memT l f.name) f.type
def hasMD (tbl:List Decl) (s i:Str):Bool:=(theD tbl i).methods.all (givesF (theD tbl s).methods)
theorem has_law (sn im:Str) (bt c:Nat) (es:Ents Str) (tbl:List Decl) (m:Mem) (L:List Item) (ho:m.o bt=some (mapO kStr es c)) (hT:TblRep m es tbl):TCall Tryz.prog 205 ⟨[.map (some bt),strV sn,strV im]⟩ m L (Ret (.bool (hasMD tbl sn im)) m L):=by
 refine lD ?_;obtain⟨hi,hhi,hri⟩:=hT.look im;obtain⟨hd,hhd,hrd⟩:=hT.look sn;have hms:=hri.methods;have hl:=hms.len;have hsm:=hms.small rfl;unfold TCall;refine ak Tryz.func205 40 ?_;refine qs rfl (OT.lookupP tab kStr im rfl rfl rfl rfl rfl rfl rfl ho ?_);refine TO.conv ?_ hhi;refine uA ?_;refine cH (ι:=Nat×Mem) [0,1,14,15] rfl (fun x=>[(16,.int .i64 (x.1:Int))]) (fun x=>x.2) (fun _=>L) (fun x=>x.1≤(theD tbl im).methods.length∧m≤x.2∧((theD tbl im).methods.take x.1).all (givesF (theD tbl sn).methods)=true) (fun x=>(theD tbl im).methods.length-x.1) (0,m) uH rfl uS ⟨cn _,cC _,rfl⟩ ?_;rintro⟨k,m1⟩ ⟨hk,hm1,hI⟩;simp only at hk hm1 hI ⊢;refine uA ?_;refine am (fun h=>?_) (fun h=>?_)
 ·have hlt:k<(theD tbl im).methods.length:=mv;have hx:(theD tbl im).methods[k]? = some (theD tbl im).methods[k]:=mG;refine uA ?_;have hms1:=hms.mono hm1;refine ar tab rField k hms1 uH mD rfl hx ?_;rintro b' i' hf hrf hA;refine jV ?_;refine aC tab (fun b8=>?_);refine jK ?_;refine qs rfl (OT.lookupP tab kStr sn rfl rfl rfl rfl rfl rfl rfl (hm1.o _ _ ho) ?_);refine TO.conv ?_ hhd;refine uL ?_;refine oC goes216 ((member_law m1 _ hd.methods (theD tbl sn).methods hf.name (hrd.methods.mono hm1)).x ?_);rintro _ m2 _ ⟨hm2,rfl,ht,rfl,hrt⟩;have hfn:=hrf.name;have hm02:=cD hm1 hm2;refine uA ?_;refine aC tab (fun b9=>?_);refine jx ?_;refine aE (b:=!(memF (theD tbl sn).methods hf.name).isSome) (fun e2=>?_) (fun e2=>?_)
  ·rw[Bool.not_eq_true']at e2;refine uA ?_;refine ag ⟨hm02,rfl,?_⟩;rw[hasMD,List.all_eq_false.2 ⟨_,bL hlt,by rw[givesF,←hfn,e2];simp⟩]
  ·rw[Bool.not_eq_false']at e2;refine uL ?_;refine au goes203 (equal_law _ _ _ _ ht hf.type hrt (hrf.type.mono hm2)) ?_;refine aO (t:=!teq (memT (theD tbl sn).methods hf.name) (theD tbl im).methods[k].type) (fun e9=>?_) (fun e9=>?_)
   ·rw[Bool.not_eq_true',hfn]at e9;refine uA ?_;refine ag ⟨hm02,rfl,?_⟩;rw[hasMD,List.all_eq_false.2 ⟨_,bL hlt,by rw[givesF,e9];simp⟩]
   ·rw[Bool.not_eq_false',hfn]at e9;rw[hfn]at e2;refine lQ ?_;exact⟨(k+1,m2),uH,uH,rfl,rfl,uS,⟨by simp only;omega,hm02,by rw[cq hlt,List.all_append,hI,cr,givesF,e2,e9];rfl⟩,by simp only;omega⟩
 ·rw[cj mv]at hI;refine lF ?_;rw[hasMD,hI]
end Go.Sep
namespace Go.Sep
open Go.Proofs
attribute [local irreducible] TC TO OT TCallX TCall DO DOt thenQ blockQ retQ At
theorem one_kid {a:Tree} (h:a.kids.length=1):a.kids=[kid0 a]:=by
 unfold kid0
 match hk:a.kids,h with
 | [k],_=>rfl
theorem toStruct_kid {l:List Decl} {a:Tree} (h:a.kids.length=1):toStructD l a=(decide (a.kind=5)&&isStructD l (kid0 a)):=by
 rw[toStructD,one_kid h]
def tassignB (l:List Decl) (a b:Tree):Bool:=tknown (hasD l) b&&(if a.kind=8 then nilableD l b else (teq a b||(isIfaceD l b&&(toStructD l a&&hasMD l (kid0 a).name b.name))))
theorem tassign_law (a c:Tree) (hkid:a.kind=5→a.kids.length=1) (bt cc:Nat) (es:Ents Str) (l:List Decl) (m:Mem) (L:List Item) (h g:HTree) (hr:TreeRep m h a) (gr:TreeRep m g c) (ho:m.o bt=some (mapO kStr es cc)) (hT:TblRep m es l) :
  TCall Tryz.prog 182 ⟨[.map (some bt),treeV h,treeV g]⟩ m L (Ret (.bool (tassignB l a c)) m L):=by
 obtain⟨h1,h2,h3,h4⟩:=id hr;have g2:=gr.name;unfold TCall;refine cK Tryz.func182 rfl 50 rfl ?_;unfold tassignB;rw[←h1,←g2];refine uA ?_;refine oB (fun b=>?_);refine uA ?_;refine ay (fun b2=>?_);refine ml ?_;refine aO (t:=!tknown (hasD l) c) (fun e1=>?_) (fun e1=>?_)
 ·rw[Bool.not_eq_true']at e1;refine jT ?_;rw[e1];rfl
 ·rw[Bool.not_eq_false']at e1;refine uL ?_;refine am (fun e2=>?_) (fun e2=>?_)
  ·refine uL ?_;refine au goes202 (nilable_law c bt cc es l _ _ g gr ho hT) ?_;refine jy ?_;rw[e1,if_pos e2];rfl
  ·refine uL ?_;refine au goes203 (equal_law a c _ _ h g hr gr) ?_;refine aO (t:=teq a c) (fun e3=>?_) (fun e3=>?_)
   ·refine uA ?_;refine jy ?_;rw[e1,if_neg e2,e3];rfl
   ·rw[e1,if_neg e2,e3];have hx0:a.kind=5→a.kids[0]? = some (kid0 a):=fun e=>by rw[one_kid (hkid e)];rfl
    have hts:a.kind=5→toStructD l a=isStructD l (kid0 a):=fun e=>by rw[toStruct_kid (hkid e),bQ e];rfl
    refine uA ?_;refine aU [] df 28 ?_;refine kM ?_;refine ae (k:=0) 1 0 ?_;refine af 2 (cR rfl rfl rfl rfl rfl rfl goes204 ((tiface_law c bt cc es l _ _ g gr ho hT).x ?_));rintro _ _ _ ⟨rfl,rfl,rfl⟩;refine⟨cC _,_,a9 _,?_⟩;refine cV tab uC uK [3] uK rfl ?_;refine DO.split (d:=26) rfl (fun hg3=>?_) (fun hg3=>?_);refine cV tab uC uK [4] uK rfl ?_;refine ae 5 1 ?_;refine cV tab uC uK [6,7,8] uK rfl ?_;refine DO.splitP (d:=31) rfl (fun hg8=>?_) (fun hg8=>?_);refine cV tab uC uK [9,10] uK rfl ?_;refine ae 11 1 ?_;refine DO.index tab rTree 12 0 h4 uC uK uK rfl rfl rfl rfl rfl rfl rfl mR rfl (hx0 (h1.symm.trans hg8)) ?_;rintro b' i' h' hrd hA;refine ai (k:=0) 13 hA ?_;refine af 14 (cR rfl rfl rfl rfl rfl rfl goes89 ((tstruct_law (kid0 a) bt cc es l _ _ h' (rTree_iff.1 hrd) ho hT).x ?_));rintro _ _ _ ⟨rfl,rfl,rfl⟩;refine⟨cC _,_,a9 _,?_⟩;refine cV tab uC uK [15,16] uK rfl ?_;refine DO.split (d:=39) rfl (fun hg16=>?_) (fun hg16=>?_);refine cV tab uC uK [17,18] uK rfl ?_;refine ae 19 1 ?_;refine DO.index tab rTree 20 0 h4 uC uK uK rfl rfl rfl rfl rfl rfl rfl mR rfl (hx0 (h1.symm.trans hg8)) ?_;rintro b3 i3 h3' hrd3 hA3;have hn3:=(rTree_iff.1 hrd3).name;refine cV tab uC uK [21] uK rfl ?_;refine ai 22 hA3 ?_;refine cV tab uC uK [23] uK rfl ?_;refine ae 24 0 ?_;refine af 25 (cR rfl rfl rfl rfl rfl rfl goes205 ((has_law h3'.name g.name bt cc es l _ _ ho hT).x ?_));rintro _ _ _ ⟨rfl,rfl,rfl⟩;refine⟨cC _,_,a9 _,?_⟩;refine cV tab uC uK [26,27] uK rfl ?_;refine aN ?_
    rotate_left 1
    refine cV tab uC uK [17,18,19,20,21,22,23,24,25,26,27] uK rfl ?_;refine aN ?_
    rotate_left 1
    refine cV tab uC uK [9,10,11,12,13,14,15,16,17,18,19,20,21,22,23,24,25,26,27] uK rfl ?_;refine aN ?_
    rotate_left 1
    refine cV tab uC uK [4,5,6,7,8,9,10,11,12,13,14,15,16,17,18,19,20,21,22,23,24,25,26,27] uK rfl ?_;refine aN ?_
    rotate_left 1
    ·refine aR ?_;refine jy ?_;rw[hg3,hts (h1.symm.trans hg8),hg16,hn3];rfl
    ·refine aR ?_;refine jy ?_;rw[hg3,hts (h1.symm.trans hg8),hg16];rfl
    ·refine aR ?_;refine jy ?_;have:toStructD l a=false:=by rw[toStructD,bR (fun e=>hg8 (h1.trans e))];rfl
     rw[hg3,this];rfl
    ·refine aR ?_;refine jy ?_;rw[hg3];rfl
def simpleD (l:List Decl) (a:Tree):Bool:=decide (a.kind≤3)||(decide (a.kind=5)||isIfaceD l a)
def tcompB (l:List Decl) (a b:Tree):Bool :=
 if a.kind=8 then !decide (b.kind=8)&&(tknown (hasD l) b&&nilableD l b)else if b.kind=8 then tknown (hasD l) a&&nilableD l a
 else (teq a b&&tknown (hasD l) a)&&simpleD l a
theorem tcomp_law (a c:Tree) (bt cc:Nat) (es:Ents Str) (l:List Decl) (m:Mem) (L:List Item) (h g:HTree) (hr:TreeRep m h a) (gr:TreeRep m g c) (ho:m.o bt=some (mapO kStr es cc)) (hT:TblRep m es l) :
  TCall Tryz.prog 211 ⟨[.map (some bt),treeV h,treeV g]⟩ m L (Ret (.bool (tcompB l a c)) m L):=by
 have h1:=hr.kind;have g1:=gr.kind;unfold TCall;refine cK Tryz.func211 rfl 60 rfl ?_;unfold tcompB simpleD;rw[←h1,←g1];refine uA ?_;refine oB (fun b=>?_);refine uA ?_;refine ay (fun b2=>?_);refine am (fun e1=>?_) (fun e1=>?_)
 ·rw[if_pos e1];refine uL ?_;refine cL rfl rfl (fun e2=>?_) (fun e2=>?_)
  ·refine uL ?_;refine ml ?_;refine aE (b:=tknown (hasD l) c) (fun e3=>?_) (fun e3=>?_)
   ·refine uL ?_;refine au goes202 (nilable_law c bt cc es l _ _ g gr ho hT) ?_;exact jt
   ·refine uA ?_;exact jt
  ·refine uA ?_;refine jy ?_;rw[bQ e2];rfl
 ·rw[if_neg e1];refine uL ?_;refine am (fun e2=>?_) (fun e2=>?_)
  ·rw[if_pos e2];refine lJ ?_;refine aE (b:=tknown (hasD l) a) (fun e3=>?_) (fun e3=>?_)
   ·refine uL ?_;refine au goes202 (nilable_law a bt cc es l _ _ h hr ho hT) ?_;exact iQ
   ·refine uA ?_;exact iQ
  ·rw[if_neg e2];refine uL ?_;refine au goes203 (equal_law a c _ _ h g hr gr) ?_;refine aE (b:=!teq a c) (fun e3=>?_) (fun e3=>?_)
   ·rw[Bool.not_eq_true']at e3;refine uA ?_;exact iQ
   ·rw[Bool.not_eq_false']at e3;refine lJ ?_;refine aO (t:=!tknown (hasD l) a) (fun e4=>?_) (fun e4=>?_)
    ·rw[Bool.not_eq_true']at e4;refine jT ?_;rw[e3,e4];rfl
    ·rw[Bool.not_eq_false']at e4;refine uL ?_;refine az (fun e5=>?_) (fun e5=>?_)
     ·refine uA ?_;refine jy ?_;rw[e3,e4,bQ e5];rfl
     ·refine uL ?_;refine az (fun e6=>?_) (fun e6=>?_)
      ·refine uA ?_;refine jy ?_;rw[e3,e4,bQ e6,bR e5];rfl
      ·refine uL ?_;refine au goes204 (tiface_law a bt cc es l _ _ h hr ho hT) ?_;refine jy ?_;rw[e3,e4,bR e5,bR e6];rfl
end Go.Sep
namespace Go.Sep
open Go.Proofs
attribute [local irreducible] TC TO OT TCallX TCall DO DOt thenQ blockQ retQ At
def ofD (l:List Decl) (a:Tree):Tree:=if toStructD l a=true then kid0 a else a
def methodsD (l:List Decl) (a:Tree):List Fld:=if (decide ((ofD l a).kind=4)&&hasD l (ofD l a).name)=true then (theD l (ofD l a).name).methods else []
theorem theD_no {l:List Decl} {n:Str} (h:hasD l n=false):theD l n=zeroD:=by
 rw[hasD_find]at h;cases hf:findD l n with
 | none=>rw[theD,hf];rfl
 | some d=>rw[hf]at h;cases h
theorem methodsD_kind {l:List Decl} {a:Tree}:methodsD l a=if (ofD l a).kind=4 then (theD l (ofD l a).name).methods else []:=by
 rw[methodsD];by_cases h:(ofD l a).kind=4
 ·rw[bQ h,if_pos h];cases hh:hasD l (ofD l a).name with
  | true=>rfl
  | false=>rw[theD_no hh];rfl
 ·rw[bR h,if_neg h];rfl
theorem tmethod_law (a:Tree) (hkid:a.kind=5→a.kids.length=1) (n:Str) (bt cc:Nat) (es:Ents Str) (l:List Decl) (m:Mem) (L:List Item) (h:HTree) (hr:TreeRep m h a) (ho:m.o bt=some (mapO kStr es cc)) (hT:TblRep m es l) :
  TCall Tryz.prog 217 ⟨[.map (some bt),treeV h,strV n]⟩ m L (MadeM m L (methodsD l a) n):=by
 obtain⟨h1,h2,h3,h4⟩:=id hr;have hx0:a.kind=5→a.kids[0]? = some (kid0 a):=fun e=>by rw[one_kid (hkid e)];rfl
 have hts:a.kind=5→toStructD l a=isStructD l (kid0 a):=fun e=>by rw[toStruct_kid (hkid e),bQ e];rfl
 unfold TCall;refine cK Tryz.func217 rfl 36 rfl ?_;rw[methodsD_kind];refine uA ?_;refine oB (fun b=>?_);refine uA ?_;refine oA tab (fun b6=>?_);refine TO.pureP tab rfl rfl ?_;refine j6 ?_;refine TC.cutT (ι:=HTree) [0,2,4,6] rfl (fun _=>[]) (fun _=>m) (fun x=>.cells b6 0 (treeC ⟨0,[],0,⟨none,0,0⟩⟩)::.cells b 0 (treeC x)::L) (fun x=>TreeRep m x (ofD l a)) ?_ (fun x hx=>?_)
 ·refine uL ?_;refine az (fun e1=>?_) (fun e1=>?_)
  ·have e5:a.kind=5:=mv;refine uL ?_;refine kS ?_;rintro b' i' h' hrd hA;refine jV ?_;refine au goes89 (tstruct_law (kid0 a) bt cc es l _ _ h' (rTree_iff.1 hrd) ho hT) ?_;refine aO (t:=isStructD l (kid0 a)) (fun e2=>?_) (fun e2=>?_)
   ·refine uL ?_;refine kS ?_;rintro b3 i3 h3' hrd3 hA3;refine ap tab hA3 ?_;refine jx ?_;exact⟨h3',uH,uH,rfl,rfl,uS,by rw[ofD,hts e5,if_pos e2];exact rTree_iff.1 hrd3⟩
   ·refine uA ?_;exact⟨h,uH,uH,rfl,rfl,uS,by rw[ofD,hts e5,if_neg (by rw[e2];simp)];exact hr⟩
  ·refine uA ?_;have:toStructD l a=false:=by rw[toStructD,bR (fun e=>e1 mv)];rfl
   exact⟨h,uH,uH,rfl,rfl,uS,by rw[ofD,if_neg (by rw[this];simp)];exact hr⟩
 ·have x1:=hx.kind;have x2:=hx.name;refine uL ?_;refine aY (fun e1=>?_) (fun e1=>?_)
  ·refine uA ?_;refine jx ?_;refine aF (L':=L) 0 ⟨cC _,rfl,⟨0,[],0,⟨none,0,0⟩⟩,?_,?_⟩
   ·rw[if_neg mv];rfl
   ·rw[if_neg mv];exact zeroT_rep _
  ·obtain⟨hd,hhd,hrd⟩:=hT.look x.name;refine mo ?_;refine TO.conv ?_ hhd;refine uA ?_;refine oC goes216 ((member_law _ _ hd.methods (theD l x.name).methods n hrd.methods).x ?_);rintro _ m2 _ ⟨hm2,rfl,ht,rfl,hrt⟩;refine jE ?_;refine aF (L':=L) 0 ⟨hm2,rfl,ht,?_,?_⟩
   ·rw[if_pos mv,←x2]
   ·rw[if_pos mv,←x2];exact hrt
def ofK (a:Tree):Tree:=if a.kind=5 then kid0 a else a
def fieldsD (l:List Decl) (a:Tree):Option (List Fld):=if isStructD l (ofK a)=true then some (theD l (ofK a).name).fields else none
@[reducible] def MadeF (m:Mem) (L:List Item) (x:Option (List Fld)):Value→Mem→List Item→Prop:=Made m L fun r m'=>∃ s:Sl,r = .tuple ⟨[s.v,.bool x.isSome]⟩∧SlRep rField m' s (x.getD [])
theorem tfields_law (a:Tree) (hkid:a.kind=5→a.kids.length=1) (bt cc:Nat) (es:Ents Str) (l:List Decl) (m:Mem) (L:List Item) (h:HTree) (hr:TreeRep m h a) (ho:m.o bt=some (mapO kStr es cc)) (hT:TblRep m es l) :
  TCall Tryz.prog 209 ⟨[.map (some bt),treeV h]⟩ m L (MadeF m L (fieldsD l a)):=by
 obtain⟨h1,h2,h3,h4⟩:=id hr;have hx0:a.kind=5→a.kids[0]? = some (kid0 a):=fun e=>by rw[one_kid (hkid e)];rfl
 unfold TCall;refine ak Tryz.func209 22 ?_;refine oB (fun b=>?_);refine TO.pureP tab rfl rfl ?_;refine j6 ?_;refine TC.cutT (ι:=HTree) [0,3] rfl (fun _=>[]) (fun _=>m) (fun x=>.cells b 0 (treeC x)::L) (fun x=>TreeRep m x (ofK a)) ?_ (fun x hx=>?_)
 ·refine uL ?_;refine am (fun e1=>?_) (fun e1=>?_)
  ·have e5:a.kind=5:=mv;refine uL ?_;refine kS ?_;rintro b' i' h' hrd hA;refine jV ?_;refine jx ?_;exact⟨h',uH,uH,rfl,rfl,uS,by rw[ofK,if_pos e5];exact rTree_iff.1 hrd⟩
  ·refine uA ?_;exact⟨h,uH,uH,rfl,rfl,uS,by rw[ofK,if_neg mv];exact hr⟩
 ·have x2:=hx.name;refine uL ?_;refine au goes89 (tstruct_law (ofK a) bt cc es l _ _ x hx ho hT) ?_;refine aO (t:=!isStructD l (ofK a)) (fun e1=>?_) (fun e1=>?_)
  ·rw[Bool.not_eq_true']at e1;refine uA ?_;refine cI rfl (L':=L) uS ⟨cC _,rfl,⟨none,0,0⟩,by rw[fieldsD,if_neg (by rw[e1];simp)];rfl,by rw[fieldsD,if_neg (by rw[e1];simp)];exact cS _ _⟩
  ·rw[Bool.not_eq_false']at e1;obtain⟨hd,hhd,hrd⟩:=hT.look x.name;refine mo ?_;refine TO.conv ?_ hhd;refine uA ?_;refine cI rfl (L':=L) uS ⟨cC _,rfl,hd.fields,by rw[fieldsD,if_pos e1];rfl,by rw[fieldsD,if_pos e1,←x2];exact hrd.fields⟩
end Go.Sep
namespace Go.Ck
open Go.Sep
abbrev Names:=List (Str×Tree)
abbrev Sc:=List Names
structure X where
 kind:Int
 type:Tree
 multi:Bool
 how:Int
 place:Bool
structure Env where
 tbl:List Decl
 fns:Names
def getN (l:Names) (x:Str):Option Tree:=(l.find? fun p=>decide (p.1=x)).map Prod.snd
def lookS (sc:Sc) (x:Str):Option Tree:=sc.findSome? fun s=>getN s x
def tk (k:Int):Tree:=.mk k [] 0 []
def kid (n:Tree) (i:Nat):Tree:=(n.kids[i]?).getD zeroT
def builtinD (x:Str):Int:=if x=[112,114,105,110,116]then 1 else if x=[112,97,110,105,99]then 2 else if x=[108,101,110]then 3 else if x=[97,112,112,101,110,100]then 4 else if x=[]then 0 else -1
def declC (sc:Sc) (x:Str) (t:Tree):Option Sc :=
 match sc with
 | []=>none
 | s::r=>if (getN s x).isSome||decide (t.kind=8)then none else some (((x,t)::s)::r)
def want (b:Bool):Option Unit:=if b then some ()else none
def typC (tbl:List Decl) (n:Tree):Option Tree:=if tknown (hasD tbl) (ofRes n).1 then some (ofRes n).1 else none
def breaksD : Nat→Tree→Bool
 | 0,_=>false
 | f+1,n=>decide (n.kind=28)||((decide (n.kind=20)||decide (n.kind=25))&&n.kids.any (breaksD f))
def endsD : Nat→Tree→Bool
 | 0,_=>false
 | f+1,n =>
  if n.kind=20 then (match n.kids.getLast? with | none=>false | some k=>endsD f k)
  else if n.kind=27 then true
  else if n.kind=24 then decide ((kid (kid n 0) 0).kind=44)&&decide ((kid (kid n 0) 0).name=[112,97,110,105,99])
  else if n.kind=25 then decide (2<n.kids.length)&&(endsD f (kid n 1)&&endsD f (kid n 2))
  else if n.kind=26 then decide (n.kids.length=1)&&!breaksD f (kid n 0)
  else false
section
variable (tbl:List Decl) (ex:Sc→Tree→Option X)
def valC (sc:Sc) (n:Tree):Option X:=(ex sc n).bind fun x=>if x.multi then none else some x
def ofC (k:Int) (sc:Sc) (n:Tree):Option X:=(valC ex sc n).bind fun x=>if x.type.kind=k then some x else none
def valuesC (sc:Sc) (l:List Tree) (many:Nat):Option (List Tree) :=
 if l.length=1∧1<many then (ex sc (l.headD zeroT)).bind fun x=>if x.kind=51∧x.type.kind=7∧x.multi=true∧x.type.kids.length=many then some x.type.kids else none
 else if l.length=many then l.mapM fun n=>(valC ex sc n).map X.type
 else none
def assignC (sc:Sc) (l:List Tree) (to:List Tree):Option Unit :=
 (valuesC ex sc l to.length).bind fun fr=>want ((fr.zip to).all fun p=>tassignB tbl p.1 p.2)
def eachC (sc:Sc):List Tree→List Tree→Option Unit
 | a::r,t::ts=>(assignC tbl ex sc [a] [t]).bind fun _=>eachC sc r ts
 | _,_=>some ()
def lastF (l:List Fld) (x:Str):Option Tree:=(memF l.reverse x).map Fld.type
def builtC (sc:Sc) (how:Int) (args:List Tree):Option X :=
 if how=1 then (want (decide (args.length=1))).bind fun _=>(valC ex sc (args.headD zeroT)).bind fun x=>(want (decide (x.type.kind=1)||(decide (x.type.kind=2)||decide (x.type.kind=3)))).map fun _=>⟨51,tk 7,true,1,false⟩
 else if how=2 then (want (decide (args.length=1))).bind fun _=>(ofC ex 1 sc (args.headD zeroT)).map fun _=>⟨51,tk 7,true,2,false⟩
 else if how=3 then (want (decide (args.length=1))).bind fun _=>(valC ex sc (args.headD zeroT)).bind fun x=>(want (decide (x.type.kind=6)||decide (x.type.kind=3))).map fun _=>⟨51,tk 1,false,3,false⟩
 else (want (decide (args.length=2))).bind fun _=>(ofC ex 6 sc (args.headD zeroT)).bind fun s=>(assignC tbl ex sc (args.drop 1) s.type.kids).map fun _=>⟨51,s.type,false,4,false⟩
def calleeC (sc:Sc) (f:Tree):Option (Tree×Int) :=
 if f.kind=48 then (valC ex sc (kid f 0)).bind fun r =>
  match memF (methodsD tbl r.type) f.name with
  | some m=>(want (!isStructD tbl r.type||r.place)).map fun _=>(m.type,if isIfaceD tbl r.type then 6 else 5)
  | none=>(lastF ((fieldsD tbl r.type).getD []) f.name).map fun t=>(t,0)
 else (valC ex sc f).map fun k=>(k.type,0)
def callC (sc:Sc) (n:Tree):Option X :=
 if (kid n 0).kind=44∧0<builtinD (kid n 0).name∧lookS sc (kid n 0).name=none then builtC tbl ex sc (builtinD (kid n 0).name) (n.kids.drop 1)
 else (calleeC tbl ex sc (kid n 0)).bind fun c =>
  (want (decide (c.1.kind=7)&&decide (((n.kids.drop 1).length:Int)=c.1.num))).bind fun _ =>
  (eachC tbl ex sc (n.kids.drop 1) c.1.kids).map fun _ =>
   match c.1.kids.drop c.1.num.toNat with
   | [t]=>⟨51,t,false,c.2,false⟩
   | ts=>⟨51,.mk 7 [] 0 ts,true,c.2,false⟩
def unaryC (sc:Sc) (n:Tree):Option X :=
 (valC ex sc (kid n 0)).bind fun k =>
  if n.name=[45]then (want (decide (k.type.kind=1))).map fun _=>⟨52,k.type,false,0,false⟩
  else if n.name=[33]then (want (decide (k.type.kind=2))).map fun _=>⟨52,k.type,false,0,false⟩
  else if n.name=[42]then (want (decide (k.type.kind=5))).map fun _=>⟨52,kid0 k.type,false,0,true⟩
  else (want (decide (k.kind=45)||k.place)).map fun _=>⟨52,.mk 5 [] 0 [k.type],false,0,false⟩
def binaryC (sc:Sc) (n:Tree):Option X :=
 (valC ex sc (kid n 0)).bind fun a=>(valC ex sc (kid n 1)).bind fun b =>
  let same:=decide (a.type.kind=b.type.kind)
  let o:=n.name
  if o=[61,61]∨o=[33,61]then (want (tcompB tbl a.type b.type)).map fun _=>⟨53,tk 2,false,0,false⟩
  else if o=[38,38]∨o=[124,124]then (want (same&&decide (a.type.kind=2))).map fun _=>⟨53,tk 2,false,0,false⟩
  else if o=[60]∨o=[60,61]∨o=[62]∨o=[62,61]then (want (same&&(decide (a.type.kind=1)||decide (a.type.kind=3)))).map fun _=>⟨53,tk 2,false,0,false⟩
  else (want (same&&(decide (a.type.kind=1)||(decide (o=[43])&&decide (a.type.kind=3))))).map fun _=>⟨53,a.type,false,0,false⟩
def operC (sc:Sc) (n:Tree):Option X :=
 if n.kind=48 then (valC ex sc (kid n 0)).bind fun k=>(lastF ((fieldsD tbl k.type).getD []) n.name).map fun t=>⟨48,t,false,0,decide (k.type.kind=5)||k.place⟩
 else if n.kind=49 then (valC ex sc (kid n 0)).bind fun k=>(ofC ex 1 sc (kid n 1)).bind fun _ =>
  if k.type.kind=6 then some ⟨49,kid0 k.type,false,0,true⟩else if k.type.kind=3 then some ⟨49,tk 1,false,0,false⟩else none
 else if n.kind=50 then (valC ex sc (kid n 0)).bind fun k=>((n.kids.drop 1).mapM (ofC ex 1 sc)).bind fun _=>(want (decide (k.type.kind=6)||decide (k.type.kind=3))).map fun _=>⟨50,k.type,false,0,false⟩
 else if n.kind=52 then unaryC ex sc n
 else binaryC tbl ex sc n
end
def paramsC (sc:Names):List (Str×Tree)→Option Names
 | []=>some sc
 | p::r=>if (getN sc p.1).isSome then none else paramsC (p::sc) r
def sigC (tbl:List Decl) (recv:Names) (n:Tree):Option (Tree×Names) :=
 (typC tbl n).bind fun t=>(paramsC [] (recv++((n.kids.take n.num.toNat).map Tree.name).zip t.kids)).map fun ps=>(t,ps)
structure Lv where
 ex:Sc→Tree→Option X
 st:List Tree→Nat→Sc→Tree→Option Sc
def bodyC (lv:Lv) (t:Tree) (ps:Names) (sc:Sc) (n:Tree):Option Unit :=
 (lv.st (t.kids.drop t.num.toNat) 0 (ps::sc) n).bind fun _=>want ((t.kids.drop t.num.toNat).isEmpty||endsD 200 n)
def exprC (e:Env) (lv:Lv) (sc:Sc) (n:Tree):Option X :=
 let k:=n.kind
 if k=40 then some ⟨40,tk 1,false,0,false⟩
 else if k=41 then some ⟨41,tk 3,false,0,false⟩
 else if k=42 then some ⟨42,tk 2,false,0,false⟩
 else if k=43 then some ⟨43,tk 8,false,0,false⟩
 else if k=44 then (match lookS sc n.name with
  | some t=>some ⟨44,t,false,0,true⟩
  | none=>(getN e.fns n.name).map fun t=>⟨44,t,false,0,false⟩)
 else if k=45 then
  (want (isStructD e.tbl (.mk 4 n.name 0 []))).bind fun _ =>
  (want (decide (n.kids.length=(theD e.tbl n.name).fields.length))).bind fun _ =>
  (eachC e.tbl lv.ex sc n.kids ((theD e.tbl n.name).fields.map Fld.type)).map fun _=>⟨45,.mk 4 n.name 0 [],false,0,false⟩
 else if k=46 then (typC e.tbl (kid n 0)).bind fun t=>(eachC e.tbl lv.ex sc (n.kids.drop 1) ((n.kids.drop 1).map fun _=>t)).map fun _=>⟨46,.mk 6 [] 0 [t],false,0,false⟩
 else if k=47 then (sigC e.tbl [] (kid n 0)).bind fun s=>n.kids[1]?.bind fun b=>(bodyC lv s.1 s.2 sc b).map fun _=>⟨47,s.1,false,0,false⟩
 else if k=51 then callC e.tbl lv.ex sc n
 else operC e.tbl lv.ex sc n
def declAll (sc:Sc):List (Str×Tree)→Option Sc
 | []=>some sc
 | p::r=>(declC sc p.1 p.2).bind fun sc'=>declAll sc' r
def stmtsC (st:Sc→Tree→Option Sc) (sc:Sc):List Tree→Option Sc
 | []=>some sc
 | n::r=>(st sc n).bind fun sc'=>stmtsC st sc' r
def stmtC (e:Env) (lv:Lv) (res:List Tree) (w:Nat) (sc:Sc) (n:Tree):Option Sc :=
 let k:=n.kind
 let num:=n.num.toNat
 if k=20 then (stmtsC (lv.st res w) ([]::sc) n.kids).map fun _=>sc
 else if k=21 then (typC e.tbl (kid n 0)).bind fun t=>(if 1<n.kids.length then assignC e.tbl lv.ex sc (n.kids.drop 1) [t]else some ()).bind fun _=>declC sc n.name t
 else if k=22 then (valuesC lv.ex sc (n.kids.drop num) num).bind fun ts=>declAll sc (((n.kids.take num).map Tree.name).zip ts)
 else if k=23 then ((n.kids.take num).mapM fun p=>(valC lv.ex sc p).bind fun x=>(want x.place).map fun _=>x.type).bind fun ts=>(assignC e.tbl lv.ex sc (n.kids.drop num) ts).map fun _=>sc
 else if k=24 then (lv.ex sc (kid n 0)).bind fun x=>(want (!decide (x.how=3)&&!decide (x.how=4))).map fun _=>sc
 else if k=27 then (assignC e.tbl lv.ex sc n.kids res).map fun _=>sc
 else if k=25 then (ofC lv.ex 2 sc (kid n 0)).bind fun _=>(stmtsC (lv.st res w) sc (n.kids.drop 1)).map fun _=>sc
 else if k=26 then (if 1<n.kids.length then (ofC lv.ex 2 sc (kid n 0)).map fun _=>()else some ()).bind fun _=>n.kids.getLast?.bind fun b=>(lv.st res (w+1) sc b).map fun _=>sc
 else (want (decide (0<w))).map fun _=>sc
def lvl (e:Env):Nat→Lv
 | 0=>⟨fun _ _=>none,fun _ _ _ _=>none⟩
 | n+1=>⟨exprC e (lvl e n),stmtC e (lvl e n)⟩
def recvD (n:Tree):Str:=(kid (kid (kid n 0) 0) 0).name
def fldOf (f:Tree):Fld:=⟨f.name,(ofRes (kid f 0)).1⟩
def declOf (n:Tree):Decl:=if n.kind=3 then ⟨n.name,true,[],n.kids.map fldOf⟩else ⟨n.name,false,n.kids.map fldOf,[]⟩
def addM (l:List Decl) (x:Str) (f:Fld):Option (List Decl) :=
 match l with
 | []=>none
 | d::r=>if d.name=x∧d.iface=false then some ({ d with methods:=d.methods++[f] }::r)else (addM r x f).map fun r'=>d::r'
def methodsC : List Decl→List Tree→Option (List Decl)
 | l,[]=>some l
 | l,n::r=>if n.kind=5 then (addM l (recvD n) ⟨n.name,(ofRes (kid n 1)).1⟩).bind fun l'=>methodsC l' r else methodsC l r
def tableD (p:Tree):Except Int (List Decl) :=
 match methodsC ((p.kids.filter fun n=>decide (n.kind=2)||decide (n.kind=3)).map declOf) p.kids with
 | none=>.error 5
 | some l=>if soundE l=0 then .ok l else .error (if soundE l=2 then 5 else soundE l)
def headsC (tbl:List Decl):Names→List (Tree×Names×Tree)→List Tree→Option (Names×List (Tree×Names×Tree))
 | fns,bs,[]=>some (fns,bs)
 | fns,bs,n::r =>
  if n.kind=4 then
   if (getN fns n.name).isSome∨0<builtinD n.name then none
   else (sigC tbl [] (kid n 0)).bind fun s=>headsC tbl ((n.name,s.1)::fns) (bs++[(s.1,s.2,kid n 1)]) r
  else if n.kind=5 then (sigC tbl [((kid n 0).name,.mk 5 [] 0 [.mk 4 (recvD n) 0 []])] (kid n 1)).bind fun s=>headsC tbl fns (bs++[(s.1,s.2,kid n 2)]) r
  else headsC tbl fns bs r
def chkD (p:Tree):Int :=
 match tableD p with
 | .error c=>c
 | .ok tbl=>match headsC tbl [] [] p.kids with
  | none=>5
  | some (fns,bs) =>
   if bs.all (fun b=>(bodyC (lvl ⟨tbl,fns⟩ 200) b.1 b.2.1 [] b.2.2).isSome)&&(match getN fns [109,97,105,110]with | some t=>t.kids.isEmpty | none=>false)then 0 else 5
end Go.Ck
