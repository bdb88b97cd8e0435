/- TqPlain -/
import Derived.Lib.Join
import Derived.Test.YtinmchaljlekgaaGreatDoorB9
set_option linter.unusedVariables false
set_option linter.unusedSimpArgs false
namespace Go.Sep
open Go.Proofs
attribute [local irreducible] TC TO OT TCallX TCall DO DOt thenQ blockQ retQ At
def basicOf (s : Str) : Int:=if s=[105,110,116] then 1 else if s=[98,111,111,108] then 2 else if s=[115,116,114,105,110,103] then 3 else 0
def withinB (a : Tree) (x y : Int) : Bool:=decide ((a.size : Int) + x ≤ 20000) && decide ((a.deep : Int) + y ≤ 100)
theorem withinB_eq (a : Tree) (x y : Int) : withinB a x y=(decide ((a.size : Int) + x ≤ 20000) && decide ((a.deep : Int) + y ≤ 100)):=rfl
mutual
def Tree.ofT : Tree→Tree
 | .mk k n u ks=>if k=10 then (if basicOf n=0 then .mk 4 n 0 [] else .mk (basicOf n) [] 0 []) else if k=8 then ofHead ks else .mk (if k=11 then 5 else if k=12 then 6 else 7) [] u (ofL ks)
def ofL : List Tree→List Tree
 | []=>[]
 | t :: ts=>t.ofT :: ofL ts
def ofHead : List Tree→Tree
 | [] => .mk 0 [] 0 []
 | t :: _=>t.ofT
end
theorem ofL_eq : ∀ l : List Tree,ofL l=l.map Tree.ofT
 | []=>rfl
 | t :: ts=>by rw [ofL,ofL_eq ts];rfl
def okNode (a : Tree) : Bool:=a.isType || (a.isParam || a.isSig)
theorem isType_node {a : Tree} (h : a.isType=true) : okNode a=true:=by unfold okNode;rw [h];rfl
theorem isType_facts {a : Tree} (h : a.isType=true) : (a.kind=10∧a.num=0∧a.kids=[]) ∨ ((a.kind=11 ∨ a.kind=12)∧a.num=0 ∧ ∀ k ∈ a.kids,k.isType=true) ∨ (a.kind=13 ∧ ∀ k ∈ a.kids,k.isType=true):=by
 rw [isType_eq] at h
 split at h
 ·simp only [Bool.and_eq_true,decide_eq_true_eq] at h
  exact .inl ⟨by assumption,h.1,List.length_eq_zero_iff.1 h.2.2⟩
 split at h
 ·simp only [Bool.and_eq_true,decide_eq_true_eq,List.all_eq_true] at h
  exact .inr (.inl ⟨by assumption,h.2.1,h.2.2.2⟩)
 split at h
 ·simp only [Bool.and_eq_true,decide_eq_true_eq,List.all_eq_true] at h
  exact .inr (.inr ⟨by assumption,h.2.2.2⟩)
 ·cases h
theorem isParam_facts {a : Tree} (h : a.isParam=true) : a.kind=8 ∧ ∃ k,a.kids=[k]∧k.isType=true:=by
 unfold Tree.isParam at h
 simp only [Bool.and_eq_true,decide_eq_true_eq,List.all_eq_true] at h
 obtain ⟨h1,_,_,h2,h3⟩:=h
 match hk : a.kids with
 | []=>rw [hk] at h2;cases h2
 | [k]=>exact ⟨h1,k,rfl,h3 k (by rw [hk];simp)⟩
 | _ :: _ :: _=>rw [hk] at h2;simp at h2
theorem isSig_facts {a : Tree} (h : a.isSig=true) : a.kind=7 ∧ ∀ k ∈ a.kids,okNode k=true:=by
 unfold Tree.isSig at h
 simp only [Bool.and_eq_true,decide_eq_true_eq,List.all_eq_true] at h
 obtain ⟨h1,_,_,_,h2,h3⟩:=h
 refine ⟨h1,fun k hk => ?_⟩
 rw [← List.take_append_drop a.num.toNat a.kids,List.mem_append] at hk
 rcases hk with hk | hk
 ·unfold okNode;rw [h2 k hk];simp
 ·exact isType_node (h3 k hk)
theorem okNode_facts {a : Tree} (h : okNode a=true) : (a.kind=10∧a.num=0∧a.kids=[]) ∨ ((a.kind=11 ∨ a.kind=12)∧a.num=0 ∧ ∀ k ∈ a.kids,okNode k=true) ∨ ((a.kind=13 ∨ a.kind=7) ∧ ∀ k ∈ a.kids,okNode k=true) ∨ (a.kind=8 ∧ ∃ k,a.kids=[k]∧okNode k=true):=by
 unfold okNode at h
 rw [Bool.or_eq_true,Bool.or_eq_true] at h
 rcases h with h | h | h
 ·rcases isType_facts h with h | ⟨h1,h2,h3⟩ | ⟨h1,h3⟩
  ·exact .inl h
  ·exact .inr (.inl ⟨h1,h2,fun k hk=>isType_node (h3 k hk)⟩)
  ·exact .inr (.inr (.inl ⟨.inl h1,fun k hk=>isType_node (h3 k hk)⟩))
 ·obtain ⟨h1,k,h2,h3⟩:=isParam_facts h
  exact .inr (.inr (.inr ⟨h1,k,h2,isType_node h3⟩))
 ·obtain ⟨h1,h2⟩:=isSig_facts h
  exact .inr (.inr (.inl ⟨.inr h1,h2⟩))
theorem ofT_eq (a : Tree) : a.ofT=if a.kind=10 then (if basicOf a.name=0 then .mk 4 a.name 0 [] else .mk (basicOf a.name) [] 0 []) else if a.kind=8 then ofHead a.kids else .mk (if a.kind=11 then 5 else if a.kind=12 then 6 else 7) [] a.num (a.kids.map Tree.ofT):=by
 obtain ⟨k,n,u,ks⟩:=a
 simp only [Tree.kind,Tree.name,Tree.num,Tree.kids]
 rw [Tree.ofT,ofL_eq]
 rfl
def okType (a : Tree) : Bool:=withinB a 3 3 && a.isType
def okSig (a : Tree) : Bool:=withinB a 3 2 && a.isSig
def kindB (a : Tree) : Bool :=
 if a.kind=1 ∨ a.kind=2 ∨ a.kind=3 ∨ a.kind=8 then decide (a.kids.length=0)
 else if a.kind=4 then decide (a.kids.length=0) && (isName a.name && decide (basicOf a.name=0))
 else if a.kind=5 ∨ a.kind=6 then decide (a.kids.length=1)
 else if a.kind=7 then decide (0 ≤ a.num) && decide (a.num ≤ (a.kids.length : Int)) else false
def headB (a : Tree) : Bool:=(decide (a.kind=4) || decide (a.name=[])) && (decide (a.kind=7) || decide (a.num=0))
mutual
def Tree.formed : Tree→Bool
 | .mk k n u ks=>formedL ks && (headB (.mk k n u ks) && kindB (.mk k n u ks))
def formedL : List Tree→Bool
 | []=>true
 | t :: ts=>(!decide (t.kind=8) && t.formed) && formedL ts
end
theorem formed_eq (a : Tree) : a.formed=(formedL a.kids && (headB a && kindB a)):=by
 obtain ⟨_,_,_,_⟩:=a
 rfl
theorem formedL_eq : ∀ l : List Tree,formedL l=l.all (fun t => !decide (t.kind=8) && t.formed)
 | []=>rfl
 | t :: ts=>by rw [formedL,formedL_eq ts,List.all_cons]
theorem formedL_append (l r : List Tree) : formedL (l++r)=(formedL l && formedL r):=by rw [formedL_eq,formedL_eq,formedL_eq,List.all_append]
theorem formedL_next (l : List Tree) (k : Nat) (h : k < l.length) : formedL (l.take (k + 1))=(formedL (l.take k) && (!decide (l[k].kind=8) && l[k].formed)):=by
 rw [List.take_succ_eq_append_getElem h,formedL_append]
 simp [formedL]
theorem formedL_false {l : List Tree} {t : Tree} (hm : t ∈ l) (h : (!decide (t.kind=8) && t.formed)=false) : formedL l=false:=by
 rw [formedL_eq]
 exact List.all_eq_false.2 ⟨t,hm,by rw [h];simp⟩
def Tree.sound (a : Tree) : Bool:=decide (a.size ≤ 20000∧a.deep ≤ 100) && a.formed
def joinS (xs : List Str) (sep : Str) : Str:=Lib.join xs sep
def commaS : Str:=[44,32]
def restS (l : List Str) : Str:=if l.length=0 then [] else if l.length=1 then [32]++l.headD [] else [32,40]++joinS l commaS++[41]
mutual
def Tree.show : Tree→Str
 | .mk k n u ks=>if k=1 then [105,110,116] else if k=2 then [98,111,111,108] else if k=3 then [115,116,114,105,110,103] else if k=8 then [110,105,108] else if k=4 then n
  else if k=5 then [42]++(showL ks).headD [] else if k=6 then [91,93]++(showL ks).headD []
  else [102,117,110,99,40]++joinS ((showL ks).take u.toNat) commaS++[41]++restS ((showL ks).drop u.toNat)
def showL : List Tree→List Str
 | []=>[]
 | t :: ts=>t.show :: showL ts
end
theorem showL_eq : ∀ l : List Tree,showL l=l.map Tree.show
 | []=>rfl
 | t :: ts=>by rw [showL,showL_eq ts];rfl
theorem show_eq (a : Tree) : a.show=if a.kind=1 then [105,110,116] else if a.kind=2 then [98,111,111,108] else if a.kind=3 then [115,116,114,105,110,103] else if a.kind=8 then [110,105,108] else if a.kind=4 then a.name
  else if a.kind=5 then [42]++(a.kids.map Tree.show).headD [] else if a.kind=6 then [91,93]++(a.kids.map Tree.show).headD []
  else [102,117,110,99,40]++joinS ((a.kids.map Tree.show).take a.num.toNat) commaS++[41]++restS ((a.kids.map Tree.show).drop a.num.toNat):=by
 obtain ⟨k,n,u,ks⟩:=a
 simp only [Tree.kind,Tree.name,Tree.num,Tree.kids]
 rw [Tree.show,showL_eq]
 rfl
theorem joinS_le (l : List Str) : (joinS l commaS).length ≤ Lib.lens l + 2 * l.length:=by
 cases l with
 | nil=>simp [joinS,Lib.join_nil,Lib.lens]
 | cons x r =>
  unfold joinS
  rw [Lib.join_cons,List.length_append,Lib.joinTail_length]
  simp only [Lib.lens,List.map_cons,List.sum_cons,List.length_cons,commaS,List.length_nil]
  omega
theorem lens_append (l r : List Str) : Lib.lens (l++r)=Lib.lens l + Lib.lens r:=by simp [Lib.lens]
theorem restS_le (l : List Str) : (restS l).length ≤ Lib.lens l + 2 * l.length + 3:=by
 unfold restS
 split
 ·simp
 split
 ·rename_i h0 h1
  match l,h1 with
  | [x],_=>simp [Lib.lens]
 ·have:=joinS_le l
  simp only [List.length_append,List.length_cons,List.length_nil]
  omega
mutual
theorem show_len : ∀ a : Tree,a.show.length + 2 ≤ 16 * a.bulk
 | .mk k n u ks=>by
  have ih:=showL_len ks
  have hh : ((showL ks).headD []).length ≤ Lib.lens (showL ks):=by
   cases showL ks with
   | nil=>simp
   | cons x r=>simp [Lib.lens]
  have h1:=joinS_le ((showL ks).take u.toNat)
  have h2:=restS_le ((showL ks).drop u.toNat)
  have h3:=lens_append ((showL ks).take u.toNat) ((showL ks).drop u.toNat)
  have h4:=congrArg List.length (List.take_append_drop u.toNat (showL ks))
  rw [List.take_append_drop] at h3
  rw [List.length_append] at h4
  have h5 : (showL ks).length=ks.length:=by rw [showL_eq,List.length_map]
  rw [Tree.show]
  simp only [Tree.bulk]
  repeat' split
  all_goals (try simp only [List.length_append,List.length_cons,List.length_nil]);omega
theorem showL_len : ∀ l : List Tree,Lib.lens (showL l) + 2 * l.length ≤ 16 * bulkL l
 | []=>by simp [showL,Lib.lens,bulkL]
 | t :: ts=>by
  have h1:=show_len t
  have h2:=showL_len ts
  simp only [showL,Lib.lens,List.map_cons,List.sum_cons,bulkL,List.length_cons] at *
  omega
end
theorem formed_kinds {a : Tree} (h : a.formed=true) : (∀ k ∈ a.kids,k.formed=true)∧((a.kind=1 ∨ a.kind=2 ∨ a.kind=3 ∨ a.kind=8 ∨ a.kind=4) ∨ ((a.kind=5 ∨ a.kind=6)∧a.kids.length=1) ∨ (a.kind=7∧0 ≤ a.num∧a.num ≤ (a.kids.length : Int))):=by
 rw [formed_eq,Bool.and_eq_true,Bool.and_eq_true] at h
 obtain ⟨h1,h2,h3⟩:=h
 refine ⟨fun k hk => ?_, ?_⟩
 ·rw [formedL_eq,List.all_eq_true] at h1
  have:=h1 k hk
  rw [Bool.and_eq_true] at this
  exact this.2
 ·unfold kindB at h3
  split at h3
  ·left;omega
  split at h3
  ·left;omega
  split at h3
  ·exact .inr (.inl ⟨by assumption,of_decide_eq_true h3⟩)
  split at h3
  ·simp only [Bool.and_eq_true,decide_eq_true_eq] at h3
   exact .inr (.inr ⟨by assumption,h3.1,h3.2⟩)
  ·cases h3
end Go.Sep


/- PtNum -/
set_option linter.unusedVariables false
set_option linter.unusedSimpArgs false
namespace Go.Pt
open Go.Sep Go.Ps
variable {α β : Type}
def FN (f : F) : Prop := ∀ i t,f i=some t→t.kind=2→t.num < 9223372036854775808
def Sn (w : α → Prop) (p : Pp α) : Prop := ∀ f,FN f → ∀ k a k',p f k = .ok a k' → w a
theorem Sn.ret {w : α → Prop} {a : α} (h : w a) : Sn w (ret a):=fun f _ k b k' e=>by injection e with e1 e2;subst e1;exact h
theorem Sn.fail {w : α → Prop} : Sn w (fail : Pp α):=fun f _ k a k' e=>by cases e
theorem Sn.dry {w : α → Prop} : Sn w (dry : Pp α):=fun f _ k a k' e=>by cases e
theorem Sn.mono {w w' : α → Prop} {p : Pp α} (h : Sn w p) (hw : ∀ a,w a→w' a) : Sn w' p:=fun f hf k a k' e=>hw a (h f hf k a k' e)
theorem Sn.bind {w1 : α → Prop} {w : β → Prop} {p : Pp α} {g : α → Pp β} (hp : Sn w1 p) (hg : ∀ a,w1 a→Sn w (g a)) : Sn w (Ps.bind p g):=fun f hf k b k' e=>by
 unfold Ps.bind at e
 cases hx : p f k with
 | ok a k1=>simp only [hx] at e;exact hg a (hp f hf k a k1 hx) f hf k1 b k' e
 | bad k1=>simp only [hx] at e;cases e
 | out=>simp only [hx] at e;cases e
theorem Sn.tok {w : α → Prop} {s : Str} {A B : Pp α} (hA : Sn w A) (hB : Sn w B) : Sn w (Ps.tok s A B):=fun f hf k a k' e=>by
 unfold Ps.tok at e
 cases hb : isM s f k with
 | true=>simp only [hb,cond_true] at e;exact hA f hf _ a k' e
 | false=>simp only [hb,cond_false] at e;exact hB f hf k a k' e
theorem Sn.need {w : α → Prop} {s : Str} {A : Pp α} (hA : Sn w A) : Sn w (need s A):=Sn.tok hA Sn.fail
theorem Sn.tkn {w : α → Prop} {n : Int} {A : Tk→Pp α} {B : Pp α} (hA : ∀ t : Tk,(t.kind=2→t.num < 9223372036854775808)→t.kind=n→Sn w (A t)) (hB : Sn w B) : Sn w (tkn n A B):=fun f hf k a k' e=>by
 unfold Ps.tkn at e
 cases hx : f k with
 | none=>simp only [hx] at e;exact hB f hf k a k' e
 | some t =>
  cases hb : decide (t.kind=n) with
  | true=>simp only [hx,hb,cond_true] at e;exact hA t (hf k t hx) (of_decide_eq_true hb) f hf _ a k' e
  | false=>simp only [hx,hb,cond_false] at e;exact hB f hf k a k' e
theorem Sn.name {w : α → Prop} {A : Str→Pp α} (hA : ∀ t,Sn w (A t)) : Sn w (name A):=Sn.tkn (fun t ht hk=>hA t.text) Sn.fail
theorem Sn.oneOf {w : α → Prop} {ops : List Str} {A : Str→Pp α} {B : Pp α} (hA : ∀ t,Sn w (A t)) (hB : Sn w B) : Sn w (oneOf ops A B):=fun f hf k a k' e=>by
 unfold Ps.oneOf at e
 cases hx : ops.find? (fun s=>isM s f k) with
 | none=>simp only [hx] at e;exact hB f hf k a k' e
 | some t=>simp only [hx] at e;exact hA t f hf _ a k' e
theorem Sn.peek {w : α → Prop} {q : F→Nat→Bool} {A B : Pp α} (hA : Sn w A) (hB : Sn w B) : Sn w (peek q A B):=fun f hf k a k' e=>by
 unfold Ps.peek at e
 cases hb : q f k with
 | true=>simp only [hb,cond_true] at e;exact hA f hf k a k' e
 | false=>simp only [hb,cond_false] at e;exact hB f hf k a k' e
theorem Sn.tokIf {w : α → Prop} {x : Bool} {s : Str} {A B : Pp α} (hA : Sn w A) (hB : Sn w B) : Sn w (tokIf x s A B):=by
 cases x with
 | true=>exact Sn.tok hA hB
 | false=>exact hB
@[reducible] def Nu (a : Tree) : Prop:=numB2 a=true
def Nl (l : List Tree) : Prop := ∀ a ∈ l,Nu a
theorem Nl.nil : Nl []:=fun _ h=>by cases h
theorem Nl.cons {a : Tree} {l : List Tree} (h : Nu a) (hl : Nl l) : Nl (a :: l):=fun b hb=>by
 rcases List.mem_cons.1 hb with rfl | hb
 ·exact h
 ·exact hl b hb
theorem Nl.app {l r : List Tree} (hl : Nl l) (hr : Nl r) : Nl (l++r):=fun b hb=>by
 rcases List.mem_append.1 hb with hb | hb
 ·exact hl b hb
 ·exact hr b hb
theorem nl_of : ∀ {l : List Tree},Nl l→numL l=true
 | [],_=>rfl
 | a :: l,h=>by rw [numL,show numB2 a=true from h a (by simp),nl_of fun x hx=>h x (by simp [hx])];rfl
theorem nu {k : Int} {n : Str} {u : Int} {ks : List Tree} (h : k ≠ 40 ∨ u < 9223372036854775808) (hk : Nl ks) : Nu (.mk k n u ks):=by
 show numB2 _=true
 rw [numB2,nl_of hk,Bool.and_true]
 rcases h with h | h
 ·rw [decide_eq_false h];rfl
 ·rw [decide_eq_true h,Bool.or_true]
section
variable {N : Nat}
theorem one {k : Int} {n : Str} {u : Int} {t : Tree} (h : k ≠ 40) (ht : Nu t) : Nu (.mk k n u [t]):=nu (.inl h) (Nl.nil.cons ht)
structure GN (g : Gr) : Prop where
 typ : Sn Nu g.typ
 block : Sn Nu g.block
 stmt : Sn Nu g.stmt
 branch : Sn Nu g.branch
 expr : ∀ b,Sn Nu (g.expr b)
 unary : ∀ b,Sn Nu (g.unary b)
end
end Go.Pt


/- PtTextW -/
set_option linter.unusedVariables false
set_option linter.unusedSimpArgs false
namespace Go.Sep
open Go.Proofs
attribute [local irreducible] TC TO OT TCallX TCall DO DOt thenQ blockQ retQ At
def outD (x : Str) : Str × Int:=if 65536 < (trimD x [32]).length then ([],4) else (trimD x [32],0)
def textD (a : Tree) : Str × Int:=if soundB a=true then outD (putT (Pt.toks a)) else ([],2)
end Go.Sep


/- PsRec -/
set_option linter.unusedVariables false
set_option linter.unusedSimpArgs false
namespace Go.Sep
open Go.Proofs
attribute [local irreducible] TC TO OT TCallX TCall DO DOt thenQ blockQ retQ At
theorem start_ok {P : Program} {vs : List Value} {m : Mem} {L : List Item} {w : World} {n N : Nat} (hN : N ≤ n) (hs : St m w L) : Ok N (argEnv vs 0) [] m L { tmps:=⟨vs⟩ ++ Array.replicate (n - (⟨vs⟩ : Array Value).size) undef,defers:=[] } w:=by
 refine ⟨?_, ?_,rfl,hs⟩
 ·simp
  omega
 ·intro i v hv
  have:=(look_argEnv vs 0 i v hv).2
  have hi : i < vs.length:=by have:=(List.getElem?_eq_some_iff.1 this).1;simpa using this
  have h2 : vs[i]? = some v:=by simpa using this
  rw [Array.getElem?_append_left (by simpa using hi)]
  simpa using h2
theorem rec_idle (a b c : Nat) (m : Mem) (L : List Item) (w : World) (hs : St m w L) :
  CallsD Tryz.prog 30 ⟨[.pointer (some ⟨a,0,none⟩), .pointer (some ⟨b,0,none⟩), .pointer (some ⟨c,0,none⟩)]⟩ .returning w fun e u' w' => ∃ v,e = .returned v∧u' = .returning∧St m w' L:=by
 refine callsD_of_wpS Tryz.func30 rfl fun c₀ cs hu => ?_
 have h0:=start_ok (P:=Tryz.prog) (vs:=[.pointer (some ⟨a,0,none⟩), .pointer (some ⟨b,0,none⟩), .pointer (some ⟨c,0,none⟩)]) (n:=20) (N:=20) (Nat.le_refl _) hs
 have hrp : recPair (c₀ :: cs)=(.nilIface,c₀ :: cs):=by simp [recPair,recoverD,hu]
 have hc : ({ c₀ with mode := .returning } : Frame)=c₀:=by rw [← hu]
 apply wpS_seq
 refine wpS_rec (d0:=6) (d1:=3) rfl rfl rfl rfl rfl rfl (Nat.lt_of_lt_of_le (by decide : 6 < 20) h0.size) ?_
 rw [hrp]
 show Code.wpS _ _ _ _ _ _
 rw [← hc]
 refine wpS_TC (R:=Ret (.tuple ⟨[]⟩) m L) ?_ ((h0.put (d:=6) rfl .nilIface).put (d:=3) rfl .nilIface) ?_
 ·refine uA ?_
  refine TO.step rfl (OT.errNe tab rfl rfl rfl rfl (.inl rfl) rfl rfl ?_)
  refine uA ?_
  refine retQ_n rfl uS ⟨rfl,rfl,rfl⟩
 ·rintro v m' L' w' ⟨rfl,rfl,rfl⟩ hst
  exact ⟨_,rfl,rfl,hst⟩
theorem rec_fault (a b c : Nat) (m : Mem) (L : List Item) (w : World) (x : Int) (va vb vc : List Value) (ha : va.length=4) (hb : vb.length=1) (hcl : vc.length=1) (hs : St m w (.cells a 0 va :: .cells b 0 vb :: .cells c 0 vc :: L)) :
  CallsD Tryz.prog 30 ⟨[.pointer (some ⟨a,0,none⟩), .pointer (some ⟨b,0,none⟩), .pointer (some ⟨c,0,none⟩)]⟩ (.panicking [{ v := .iface 53 (.agg ⟨[.int .i64 x]⟩),recovered:=false }]) w fun e u' w' =>
   ∃ v,e = .returned v∧u' = .panicking [{ v := .iface 53 (.agg ⟨[.int .i64 x]⟩),recovered:=true }]∧St m w' (.cells a 0 [.int .i64 0,strV [], .int .i64 0, .slice none 0 0] :: .cells b 0 [.int .i64 x] :: .cells c 0 [.int .i64 3] :: L):=by
 refine callsD_of_wpS Tryz.func30 rfl fun c₀ cs hu => ?_
 have h0:=start_ok (P:=Tryz.prog) (vs:=[.pointer (some ⟨a,0,none⟩), .pointer (some ⟨b,0,none⟩), .pointer (some ⟨c,0,none⟩)]) (n:=20) (N:=20) (Nat.le_refl _) hs
 have hrp : recPair (c₀ :: cs)=(.iface 53 (.agg ⟨[.int .i64 x]⟩),{ c₀ with mode := .panicking [{ v := .iface 53 (.agg ⟨[.int .i64 x]⟩),recovered:=true }] } :: cs):=by simp [recPair,recoverD,hu]
 apply wpS_seq
 refine wpS_rec (d0:=6) (d1:=3) rfl rfl rfl rfl rfl rfl (Nat.lt_of_lt_of_le (by decide : 6 < 20) h0.size) ?_
 rw [hrp]
 show Code.wpS _ _ _ _ _ _
 obtain ⟨v0,v1,v2,v3,rfl⟩ : ∃ v0 v1 v2 v3,va=[v0,v1,v2,v3]:=by
  match va,ha with
  | [v0,v1,v2,v3],_=>exact ⟨_,_,_,_,rfl⟩
 obtain ⟨vb,rfl⟩:=List.length_eq_one_iff.1 hb
 obtain ⟨vc,rfl⟩:=List.length_eq_one_iff.1 hcl
 refine wpS_TC (R:=fun r m' L'=>r = .tuple ⟨[]⟩ ∧ m' = m∧L' = .cells a 0 [.int .i64 0,strV [], .int .i64 0, .slice none 0 0] :: .cells b 0 [.int .i64 x] :: .cells c 0 [.int .i64 3] :: L) ?_ ((h0.put (d:=6) rfl _).put (d:=3) rfl _) ?_
 ·refine uA ?_
  refine TO.step rfl (OT.errNe tab rfl rfl rfl rfl (.inr ⟨_,_,rfl⟩) rfl rfl ?_)
  refine uA ?_
  refine TO.step rfl (OT.assertOk tab rfl rfl rfl rfl rfl ?_)
  refine uA ?_
  refine TO.step rfl (OT.alloc tab rfl rfl rfl rfl (fun b4 => ?_))
  refine uA ?_
  refine uT ?_
  refine uA ?_
  refine TC.draw [] mixed 6 rfl [] (.cells b4 0 [.int .i64 x] :: .cells a 0 [v0,v1,v2,v3] :: .cells b 0 [vb] :: .cells c 0 [vc] :: L) (List.Perm.refl _) ?_
  refine DO.pure tab uC (by kernel_rfl) [0,1] (by kernel_rfl) rfl ?_
  refine DO.fork 2 [3] (by kernel_rfl) ⟨⟨_,rfl,rfl,rfl, ?_⟩,⟨_,rfl,rfl,rfl, ?_⟩,trivial⟩
  ·refine OT.loadL0 tab 0 rfl rfl rfl rfl rfl rfl ?_
   refine ⟨Mem.le_refl _,_,List.Perm.refl _, ?_⟩
   refine DO.run 3 rfl rfl (by kernel_rfl) rfl ?_
   refine OT.storeL0 tab 1 rfl rfl rfl rfl rfl rfl rfl rfl ?_
   refine ⟨Mem.le_refl _,_,List.Perm.refl _, ?_⟩
   refine DO.run 4 rfl rfl (by kernel_rfl) rfl ?_
   refine OT.storeL0 tab 2 rfl rfl rfl rfl rfl rfl rfl rfl ?_
   refine ⟨Mem.le_refl _,_,List.Perm.refl _, ?_⟩
   refine DO.run 5 rfl rfl (by kernel_rfl) rfl ?_
   refine OT.storeL0 tab 3 rfl rfl rfl rfl rfl rfl rfl rfl ?_
   refine ⟨Mem.le_refl _,_,List.Perm.refl _, ?_⟩
   refine DO.nil (by kernel_rfl) ?_
   refine retQ_n rfl (L' := .cells a 0 [.int .i64 0,strV [], .int .i64 0, .slice none 0 0] :: .cells b 0 [.int .i64 x] :: .cells c 0 [.int .i64 3] :: L) uS ⟨rfl,rfl,rfl⟩
  ·refine OT.storeL0 tab 1 rfl rfl rfl rfl rfl rfl rfl rfl ?_
   refine ⟨Mem.le_refl _,_,List.Perm.refl _, ?_⟩
   refine DO.run 2 rfl rfl (by kernel_rfl) rfl ?_
   refine OT.loadL0 tab 0 rfl rfl rfl rfl rfl rfl ?_
   refine ⟨Mem.le_refl _,_,List.Perm.refl _, ?_⟩
   refine DO.run 4 rfl rfl (by kernel_rfl) rfl ?_
   refine OT.storeL0 tab 2 rfl rfl rfl rfl rfl rfl rfl rfl ?_
   refine ⟨Mem.le_refl _,_,List.Perm.refl _, ?_⟩
   refine DO.run 5 rfl rfl (by kernel_rfl) rfl ?_
   refine OT.storeL0 tab 3 rfl rfl rfl rfl rfl rfl rfl rfl ?_
   refine ⟨Mem.le_refl _,_,List.Perm.refl _, ?_⟩
   refine DO.nil (by kernel_rfl) ?_
   refine retQ_n rfl (L' := .cells a 0 [.int .i64 0,strV [], .int .i64 0, .slice none 0 0] :: .cells b 0 [.int .i64 x] :: .cells c 0 [.int .i64 3] :: L) uS ⟨rfl,rfl,rfl⟩
 ·rintro v m' L' w' ⟨rfl,rfl,rfl⟩ hst
  exact ⟨_,rfl,rfl,hst⟩
end Go.Sep


/- PsParse -/
set_option linter.unusedVariables false
set_option linter.unusedSimpArgs false
namespace Go.Sep
open Go.Proofs
attribute [local irreducible] TC TO OT TCallX TCall DO DOt thenQ blockQ retQ At
def ParseE (a : PA) (m : Mem) (L : List Item) : Ending→World→Prop
 | .returned v,w' => ∃ m' L',St m' w' L' ∧ Made m L (ParseR a) v m' L'
 | .panicked _,_=>False
 | .outgrown,_=>False
theorem parseE_end {P : Program} {fn : Func} {a : PA} {m m' : Mem} {L : List Item} {ρ : Env} {tmps : Array Value} {w : World} {b2 b3 b4 : Nat} {x : HTree} {L' : List Item} (T : Tab P) {t2 t3 t4 : TypeId}
  (hres : fn.results = ⟨[.cell 2 t2, .cell 3 t3, .cell 4 t4]⟩) (hA : ∀ i v,look ρ i=some v→tmps[i]? = some v) (h2 : look ρ 2=some (.pointer (some ⟨b2,0,none⟩))) (h3 : look ρ 3=some (.pointer (some ⟨b3,0,none⟩))) (h4 : look ρ 4=some (.pointer (some ⟨b4,0,none⟩)))
  (l2 : T.load t2 (treeC x) 0=some (treeV x)) (l3 : T.load t3 [.int .i64 a.at_] 0=some (.int .i64 a.at_)) (l4 : T.load t4 [.int .i64 a.e] 0=some (.int .i64 a.e))
  (hst : St m' w (.cells b2 0 (treeC x) :: .cells b3 0 [.int .i64 a.at_] :: .cells b4 0 [.int .i64 a.e] :: L')) (hsub : L.Sublist L') (hm : m ≤ m') (hr : TreeRep m' x a.tree) : Leaves P fn tmps (ParseE a m L) [] .returning w:=by
 refine ⟨.tuple ⟨[treeV x, .int .i64 a.at_, .int .i64 a.e]⟩, ?_,m',L,hst.sub ?_,hm,rfl,x,rfl,hr⟩
 ·have g2:=run_loadVar (P:=P) T (k:=0) (hst.cells (i:=0) rfl) l2
  have g3:=run_loadVar (P:=P) T (k:=0) (hst.cells (i:=1) rfl) l3
  have g4:=run_loadVar (P:=P) T (k:=0) (hst.cells (i:=2) rfl) l4
  have e2:=hA 2 _ h2
  have e3:=hA 3 _ h3
  have e4:=hA 4 _ h4
  unfold results
  rw [hres,Array.mapM_eq_mapM_toList]
  simp [Sem.run_bind,Sem.run_map,e2,e3,e4,asAddr,g2,g3,g4]
 ·exact List.Sublist.cons _ (List.Sublist.cons _ (List.Sublist.cons _ hsub))
set_option maxHeartbeats 2000000 in
theorem parse_law (hout : ∀ l : List Tok,Ps.program l.length (tkF l) 0 ≠ .out) (m : Mem) (L : List Item) (s : Str) (hE : Errs m) : TCall Tryz.prog 11 ⟨[strV s]⟩ m L (Made m L (ParseR (parseD s))):=by
 have key : ∀ w,St m w L→Calls Tryz.prog 11 ⟨[strV s]⟩ w (ParseE (parseD s) m L):=by
  intro w hst
  have hll:=scanD_len s
  refine calls_enterD Tryz.func11 rfl 31 rfl hst ?_
  refine uA ?_
  refine TO.step rfl (OT.alloc tab rfl rfl rfl rfl (fun b2 => ?_))
  refine TO.step rfl (OT.alloc tab rfl rfl rfl rfl (fun b3 => ?_))
  refine TO.step rfl (OT.alloc tab rfl rfl rfl rfl (fun b4 => ?_))
  refine uA ?_
  refine TO.step rfl (OT.call rfl rfl rfl rfl rfl rfl goes29 ((scan_law _ _ s hE).x ?_));
  rintro _ m1 _ ⟨hm1,rfl,sl,rfl,hsl⟩
  refine uA ?_
  refine TO.step rfl (OT.storeL0 tab 1 rfl rfl rfl rfl rfl rfl rfl rfl ?_)
  refine uA ?_
  refine TO.step rfl (OT.storeL0 tab 0 rfl rfl rfl rfl rfl rfl rfl rfl ?_)
  refine uA ?_
  refine uM ?_
  refine uA ?_
  refine TC.condN rfl (fun he => ?_) (fun he => ?_)
  ·have hD : parseD s = ⟨emptyT,((scanD s).at_ : Int),(scanD s).e⟩:=by rw [parseD,if_neg he]
   refine TC.quiet ?_
   refine TC.draw [5] mixed 6 rfl [.cells b4 0 [.int .i64 (scanD s).e]] (.cells b3 0 [.int .i64 ((scanD s).at_ : Int)] :: .cells b2 0 [.int .i64 0,strV [], .int .i64 0, .slice none 0 0] :: L) (List.Perm.refl _) ?_
   refine DO.pure tab uC (by kernel_rfl) [0] (by kernel_rfl) rfl ?_
   refine DO.loadL (k:=0) tab 2 0 uC (by kernel_rfl) (by kernel_rfl) rfl rfl rfl rfl rfl rfl rfl rfl ?_
   refine DO.fork 1 [3] (by kernel_rfl) ⟨⟨_,rfl,rfl,rfl, ?_⟩,⟨_,rfl,rfl,rfl, ?_⟩,trivial⟩
   ·refine OT.loadL0 tab 1 rfl rfl rfl rfl rfl rfl ?_
    refine ⟨Mem.le_refl _,_,List.Perm.refl _, ?_⟩
    refine DO.run 3 rfl rfl (by kernel_rfl) rfl ?_
    refine OT.storeL0 tab 2 rfl rfl rfl rfl rfl rfl rfl rfl ?_
    refine ⟨Mem.le_refl _,_,List.Perm.refl _, ?_⟩
    refine DO.run 4 rfl rfl (by kernel_rfl) rfl ?_
    refine OT.storeL0 tab 1 rfl rfl rfl rfl rfl rfl rfl rfl ?_
    refine ⟨Mem.le_refl _,_,List.Perm.refl _, ?_⟩
    refine DO.tail ?_
    refine DOt.run 5 rfl rfl (by kernel_rfl) rfl ?_
    refine OT.storeL0 tab 0 rfl rfl rfl rfl rfl rfl rfl rfl ?_
    refine DOt.nil (by kernel_rfl) ?_
    refine TC.ret ?_
    refine thenQ_r ?_
    intro tmps w' hA hst'
    rw [hD]
    exact parseE_end (x:=⟨0,[],0,⟨none,0,0⟩⟩) (L':=L) tab rfl hA rfl rfl rfl rfl rfl rfl (hst'.perm (List.Perm.trans pfr2 (List.Perm.cons _ pfr1))) (List.Sublist.refl _) hm1 (emptyT_rep _)
   ·refine OT.storeL0 tab 2 rfl rfl rfl rfl rfl rfl rfl rfl ?_
    refine ⟨Mem.le_refl _,_,List.Perm.refl _, ?_⟩
    refine DO.run 1 rfl rfl (by kernel_rfl) rfl ?_
    refine OT.loadL0 tab 1 rfl rfl rfl rfl rfl rfl ?_
    refine ⟨Mem.le_refl _,_,List.Perm.refl _, ?_⟩
    refine DO.run 4 rfl rfl (by kernel_rfl) rfl ?_
    refine OT.storeL0 tab 1 rfl rfl rfl rfl rfl rfl rfl rfl ?_
    refine ⟨Mem.le_refl _,_,List.Perm.refl _, ?_⟩
    refine DO.tail ?_
    refine DOt.run 5 rfl rfl (by kernel_rfl) rfl ?_
    refine OT.storeL0 tab 0 rfl rfl rfl rfl rfl rfl rfl rfl ?_
    refine DOt.nil (by kernel_rfl) ?_
    refine TC.ret ?_
    refine thenQ_r ?_
    intro tmps w' hA hst'
    rw [hD]
    exact parseE_end (x:=⟨0,[],0,⟨none,0,0⟩⟩) (L':=L) tab rfl hA rfl rfl rfl rfl rfl rfl (hst'.perm (List.Perm.trans pfr2 (List.Perm.cons _ pfr1))) (List.Sublist.refl _) hm1 (emptyT_rep _)
  ·have hD : parseD s=parseL s (scanD s).list:=by rw [parseD,if_pos he]
   rw [hD]
   generalize (scanD s).list=l at hsl hll
   refine uA ?_
   refine TO.step rfl (OT.box rfl rfl rfl rfl rfl (fun bp => ?_))
   refine uA ?_
   refine TO.defer rfl rfl rfl rfl rfl ?_
   refine uA ?_
   have hEk : (⟨s,sl,l,bp,l.length + 1⟩ : PE).Ok m1:=⟨hsl,hll,by show l.length + 1 ≤ _;omega,by show 1 ≤ l.length + 1;omega⟩
   have hG:=gw (mb:=m1) (E:=⟨s,sl,l,bp,l.length + 1⟩) (3 * l.length + 4)
   have hP:=program_par (decl_par (hG.typ 0) (hG.block 0)) m1 (.cells b4 0 [.int .i64 (scanD s).e] :: .cells b3 0 [.int .i64 ((scanD s).at_ : Int)] :: .cells b2 0 [.int .i64 0,strV [], .int .i64 0, .slice none 0 0] :: L) 0 (Mem.le_refl _) hEk (Nat.zero_le _)
   have hpe : Ps.program l.length (tkF l) 0=Ps.progL (Ps.declP (l.length + 1) (Ps.gr (l.length + 1) (3 * l.length + 4)).typ (Ps.gr (l.length + 1) (3 * l.length + 4)).block) (l.length + 1) (PE.f ⟨s,sl,l,bp,l.length + 1⟩) 0:=rfl
   have hn:=hout l
   rw [hpe] at hn
   refine TO.step rfl (OT.call rfl rfl rfl rfl rfl rfl goes31 (TCallX.mono (hP ?_) ?_ ?_))
   ·intro hb
    unfold Ps.bind at hb
    split at hb
    ·cases hb
    ·cases hb
    ·rename_i he'
     exact hn he'
   ·rintro v m2 L2 ⟨a,k',xs,h1,hm2,hk',⟨x,rfl,rfl,hrx⟩,rfl⟩
    obtain ⟨ds,hds,rfl⟩ : ∃ ds,Ps.program l.length (tkF l) 0 = .ok ds k' ∧ a = .mk 1 [] 0 ds:=by
     rw [hpe]
     unfold Ps.bind at h1
     split at h1
     ·rename_i ds k'' he'
      injection h1 with h1 h2
      subst h2
      exact ⟨ds,he',h1.symm⟩
     ·cases h1
     ·cases h1
    replace hm1:=Mem.le_trans hm1 hm2
    refine uA ?_
    refine TO.step rfl (OT.storeL0 tab 3 rfl rfl rfl rfl rfl rfl rfl rfl ?_)
    refine uA ?_
    refine TO.step rfl (OT.alloc tab rfl rfl rfl rfl (fun bl => ?_))
    refine uA ?_
    refine uT ?_
    refine uA ?_
    refine TO.step rfl (OT.loadL0 tab 4 rfl rfl rfl rfl rfl rfl ?_)
    refine uA ?_
    refine TO.step rfl (OT.call rfl rfl rfl rfl rfl rfl goes32 ((fits_law (.mk 1 [] 0 ds) m2 _ x bl 1 20000 hrx (by decide) (by decide) (by decide) (by decide)).x ?_));
    rintro _ _ _ ⟨rfl,⟨rfl,k1,k2,rfl⟩ | ⟨rfl,k1,n,rfl⟩⟩
    ·have hA2 : parseL s l = ⟨.mk 1 [] 0 ds,0,0⟩:=by
      rw [parseL,hds]
      exact if_pos ⟨by omega,by omega⟩
     refine uA ?_
     refine TO.step rfl (OT.loadL0 tab 4 rfl rfl rfl rfl rfl rfl ?_)
     refine uA ?_
     refine TO.step rfl (OT.storeL0 tab 4 rfl rfl rfl rfl rfl rfl rfl rfl ?_)
     refine TO.step rfl (OT.storeL0 tab 3 rfl rfl rfl rfl rfl rfl rfl rfl ?_)
     refine TO.step rfl (OT.storeL0 tab 2 rfl rfl rfl rfl rfl rfl rfl rfl ?_)
     refine TO.nil ?_
     refine thenQ_n ?_
     refine TC.ret ?_
     intro tmps w' hA hst'
     rw [hA2]
     refine leaves_cons (by simp) (invoke_goes goes30) ?_
     refine (rec_idle b2 b3 b4 _ _ w' hst').mono ?_
     rintro e u' w2 ⟨v,rfl,rfl,hst2⟩
     exact parseE_end (x:=x) tab rfl hA rfl rfl rfl rfl rfl rfl (hst2.perm (List.Perm.trans pfr4 (List.Perm.cons _ (List.Perm.trans pfr3 (List.Perm.cons _ pfr2))))) (List.Sublist.cons _ (List.Sublist.cons _ (List.Sublist.refl _))) hm1 hrx
    ·have hA2 : parseL s l = ⟨emptyT,0,4⟩:=by
      rw [parseL,hds]
      exact if_neg fun h=>k1 ⟨by omega,by omega⟩
     refine uA ?_
     refine TO.step rfl (OT.storeL0 tab 4 rfl rfl rfl rfl rfl rfl rfl rfl ?_)
     refine TO.step rfl (OT.storeL0 tab 3 rfl rfl rfl rfl rfl rfl rfl rfl ?_)
     refine TO.step rfl (OT.storeL0 tab 2 rfl rfl rfl rfl rfl rfl rfl rfl ?_)
     refine TO.nil ?_
     refine thenQ_n ?_
     refine TC.ret ?_
     refine thenQ_r ?_
     intro tmps w' hA hst'
     rw [hA2]
     refine leaves_cons (by simp) (invoke_goes goes30) ?_
     refine (rec_idle b2 b3 b4 _ _ w' hst').mono ?_
     rintro e u' w2 ⟨v,rfl,rfl,hst2⟩
     exact parseE_end (x:=⟨0,[],0,⟨none,0,0⟩⟩) tab rfl hA rfl rfl rfl rfl rfl rfl (hst2.perm (List.Perm.trans pfr4 (List.Perm.cons _ (List.Perm.trans pfr3 (List.Perm.cons _ pfr2))))) (List.Sublist.cons _ (List.Sublist.cons _ (List.Sublist.refl _))) hm1 (emptyT_rep _)
   ·rintro ch m2 L2 ⟨k',h',h1,hm2,hk',rfl,rfl⟩
    have hA2 : parseL s l = ⟨emptyT,placeD s l k',3⟩:=by
     have : Ps.program l.length (tkF l) 0 = .bad k':=by
      rw [hpe]
      unfold Ps.bind at h1
      split at h1
      ·cases h1
      ·rename_i he'
       injection h1 with h1
       rw [← h1];exact he'
      ·cases h1
     rw [parseL,this]
    replace hm1:=Mem.le_trans hm1 hm2
    repeat (first | refine thenQ_p ?_ | refine blockQ_p ?_)
    intro tmps w' hA hst'
    rw [hA2]
    refine leaves_cons (by simp) (invoke_goes goes30) ?_
    refine (rec_fault b2 b3 b4 m2 _ w' (placeD s l k') _ _ _ rfl rfl rfl (hst'.perm (List.Perm.trans pfr3 (List.Perm.cons _ (List.Perm.trans pfr2 (List.Perm.cons _ pfr1)))))).mono ?_
    rintro e u' w2 ⟨v,rfl,rfl,hst2⟩
    exact parseE_end (x:=⟨0,[],0,⟨none,0,0⟩⟩) tab rfl hA rfl rfl rfl rfl rfl rfl hst2 (List.Sublist.cons _ (List.Sublist.refl _)) hm1 (emptyT_rep _)
 unfold TCall TCallX
 intro w hst
 refine (key w hst).mono fun e w' he => ?_
 cases e with
 | returned v=>exact he
 | panicked ch=>exact he.elim
 | outgrown=>exact he
end Go.Sep


/- PsGood2 -/
set_option linter.unusedVariables false
set_option linter.unusedSimpArgs false
namespace Go.Ps
open Go.Sep (Tree Str)
variable {α β : Type}
theorem Good.bret {p : Pp α} {g : α → β} (hp : Good p) : Good (Ps.bind p fun a=>Ps.ret (g a)):=hp.bind fun _=>Good.ret _
theorem Takes.bind {q : F→Nat→Bool} {p : Pp α} {g : α → Pp β} (hp : Takes q p) (hg : ∀ a,Good (g a)) : Takes q (Ps.bind p g):=fun f k hk=>by
 refine ⟨fun b k' h => ?_,fun k' h => ?_⟩
 ·obtain ⟨a,k1,h1,h2⟩:=bind_ok_iff h
  have:=(hp f k hk).1 a k1 h1
  have:=(hg a).le h2
  omega
 ·rcases bind_bad_iff h with h | ⟨a,k1,h1,h2⟩
  ·exact (hp f k hk).2 k' h
  ·have:=(hp f k hk).1 a k1 h1
   have:=(hg a).leb h2
   omega
section
variable {N : Nat}
theorem Good.results {typ : Pp Tree} (h : Good typ) (ht : Takes begins typ) : Good (resultsP N typ) :=
 Good.tok ((Good.commas h N).bind fun l=>Good.need (Good.ret _)) (Good.peek Loc.begins (Good.bret h) (Good.ret _) (.inr (ht.bind fun _=>Good.ret _)))
theorem Good.param {typ : Pp Tree} (h : Good typ) : Good (paramP typ):=Good.name fun s=>Good.bret h
theorem Good.sigLike {kind : Int} {X typ : Pp Tree} (hX : Good X) (h : Good typ) (ht : Takes begins typ) : Good (sigLike N kind X typ):=Good.need ((Good.inP hX).bind fun ps=>Good.bret (Good.results h ht))
theorem Good.sig {typ : Pp Tree} (h : Good typ) (ht : Takes begins typ) : Good (sigP N typ):=Good.sigLike (Good.param h) h ht
theorem Good.typP {typ : Pp Tree} (h : Good typ) (ht : Takes begins typ) : Good (typP N typ) :=
 Good.tok (Good.bret h) (Good.tok (Good.need (Good.bret h)) (Good.tok (Good.sigLike h h ht) (Good.name fun s=>Good.ret _)))
theorem Takes.typP {typ : Pp Tree} (h : Good typ) (ht : Takes begins typ) : Takes begins (typP N typ):=fun f k hk=>by
 unfold Ps.typP
 cases h1 : isM [42] f k with
 | true=>exact Takes.tok (Good.bret h) f k h1
 | false =>
  rw [show Ps.tok [42] (Ps.bind typ fun t=>Ps.ret (.mk 11 [] 0 [t])) (Ps.tok [91] (Ps.need [93] (Ps.bind typ fun t=>Ps.ret (.mk 12 [] 0 [t]))) (Ps.tok [102,117,110,99] (Ps.sigLike N 13 typ typ) (Ps.name fun s=>Ps.ret (leaf 10 s)))) f k=Ps.tok [91] (Ps.need [93] (Ps.bind typ fun t=>Ps.ret (.mk 12 [] 0 [t]))) (Ps.tok [102,117,110,99] (Ps.sigLike N 13 typ typ) (Ps.name fun s=>Ps.ret (leaf 10 s))) f k by unfold Ps.tok;rw [h1];rfl]
  cases h2 : isM [91] f k with
  | true=>exact Takes.tok (Good.need (Good.bret h)) f k h2
  | false =>
   rw [show Ps.tok [91] (Ps.need [93] (Ps.bind typ fun t=>Ps.ret (.mk 12 [] 0 [t]))) (Ps.tok [102,117,110,99] (Ps.sigLike N 13 typ typ) (Ps.name fun s=>Ps.ret (leaf 10 s))) f k=Ps.tok [102,117,110,99] (Ps.sigLike N 13 typ typ) (Ps.name fun s=>Ps.ret (leaf 10 s)) f k by unfold Ps.tok;rw [h2];rfl]
   cases h3 : isM [102,117,110,99] f k with
   | true=>exact Takes.tok (Good.sigLike h h ht) f k h3
   | false =>
    rw [show Ps.tok [102,117,110,99] (Ps.sigLike N 13 typ typ) (Ps.name fun s=>Ps.ret (leaf 10 s)) f k=Ps.name (fun s=>Ps.ret (leaf 10 s)) f k by unfold Ps.tok;rw [h3];rfl]
    have h4 : isK 1 f k=true:=by
     unfold Ps.begins at hk
     rw [h1,h2,h3,Bool.or_false,Bool.or_false,Bool.or_false] at hk
     exact hk
    unfold isK at h4
    unfold Ps.name Ps.tkn
    cases hx : f k with
    | none=>rw [hx] at h4;cases h4
    | some t =>
     rw [hx] at h4
     simp only at h4
     simp only [h4,cond_true]
     exact ⟨fun a k' e=>by injection e with _ e;omega,fun k' e=>by cases e⟩
theorem Good.field {mb : Pp Tree} (h : Good mb) : Good (fieldP mb):=Good.name fun s=>h.bind fun t=>Good.need (Good.ret _)
theorem Good.body {kind : Int} {nm : Str} {mb : Pp Tree} (h : Good mb) : Good (bodyP N kind nm mb):=Good.need (Good.bret (Good.upto (Good.field h) N))
theorem Good.typeDecl {typ : Pp Tree} (h : Good typ) (ht : Takes begins typ) : Good (typeDeclP N typ):=Good.name fun nm=>Good.tok (Good.body (Good.sig h ht)) (Good.need (Good.body h))
theorem Good.declP {typ block : Pp Tree} (h : Good typ) (ht : Takes begins typ) (hb : Good block) : Good (declP N typ block) :=
 Good.tok (Good.typeDecl h ht) (Good.need (Good.tok
  (Good.name fun recv=>Good.need (Good.name fun of=>Good.need (Good.name fun nm=>(Good.sig h ht).bind fun s=>Good.bret hb)))
  (Good.name fun nm=>(Good.sig h ht).bind fun s=>Good.bret hb)))
theorem Good.blockP {stmt : Pp Tree} (h : Good stmt) : Good (blockP N stmt):=Good.need (Good.bret (Good.upto h N))
theorem Good.branchP {expr block branch : Pp Tree} (he : Good expr) (hb : Good block) (hr : Good branch) (sb : Stops block) : Good (branchP expr block branch) :=
 Good.need (he.bind fun c=>hb.bind fun b=>Good.tok (Good.peek (Loc.isM _) (Good.bret hr) (Good.bret hb) (.inl (Stops.bind sb))) (Good.ret _))
theorem Good.forP {expr block : Pp Tree} (he : Good expr) (hb : Good block) (se : Stops expr) : Good (forP expr block) :=
 Good.peek (Loc.isM _) (Good.bret hb) (he.bind fun c=>Good.bret hb) (.inl (Stops.bind se))
theorem Good.assignP {expr : Pp Tree} {left : List Tree} (he : Good expr) : Good (assignP N expr left):=by
 refine Good.tokIf (Good.bret (Good.commas he N)) (Good.tokIf (Good.bret (Good.commas he N)) ?_)
 cases isC1 left with
 | true=>exact Good.peek (Loc.isM _) (Good.ret _) Good.fail (.inl Stops.fail)
 | false=>exact Good.fail
theorem Good.simpleP {typ expr : Pp Tree} (h : Good typ) (he : Good expr) (se : Stops expr) : Good (simpleP N typ expr) :=
 Good.tok (Good.name fun s=>h.bind fun t=>Good.tok (Good.bret he) (Good.ret _)) (Good.tok (Good.peek (Loc.isM _) (Good.ret _) (Good.bret (Good.commas he N)) (.inl (Stops.bind (Stops.commas se N))))
  (Good.tok (Good.ret _) (Good.tok (Good.ret _) ((Good.commas he N).bind fun l=>Good.assignP he))))
theorem Stops.simpleP {typ expr : Pp Tree} (se : Stops expr) : Stops (simpleP N typ expr):=Stops.tok (Stops.tok (Stops.tok (Stops.tok (Stops.bind (Stops.commas se N)))))
theorem Good.exprsP {s : Str} {expr : Pp Tree} (he : Good expr) : Good (exprsP N s expr):=Good.inP he
theorem Good.cutP {expr : Pp Tree} {num : Int} {ks : List Tree} (he : Good expr) : Good (cutP expr num ks):=Good.need (Good.tok (Good.ret _) (he.bind fun e=>Good.need (Good.ret _)))
theorem Good.indexP {expr : Pp Tree} {n : Tree} (he : Good expr) (se : Stops expr) : Good (indexP expr n) :=
 Good.peek (Loc.isM _) (Good.cutP he) (he.bind fun e=>Good.tok (Good.ret _) (Good.cutP he)) (.inl (Stops.bind se))
theorem Good.postP {expr : Pp Tree} (he : Good expr) (se : Stops expr) : ∀ (j : Nat) (n : Tree),Good (postP N expr j n)
 | 0,_=>Good.dry
 | j + 1,n=>Good.tok (Good.name fun s=>Good.postP he se j _) (Good.tok ((Good.indexP he se).bind fun t=>Good.postP he se j _) (Good.tok ((Good.exprsP he).bind fun l=>Good.postP he se j _) (Good.ret _)))
theorem Good.primP {typ block expr : Pp Tree} {h : Bool} (gt : Good typ) (ht : Takes begins typ) (hb : Good block) (he : Good expr) : Good (primP N typ block expr h):=by
 refine Good.tkn (fun t=>Good.ret _) (Good.tkn (fun t=>Good.ret _) (Good.tok (Good.ret _) (Good.tok (Good.ret _) (Good.tok (Good.ret _) ?_))))
 refine Good.tok (he.bind fun t=>Good.need (Good.ret _)) (Good.tok (Good.need (gt.bind fun t=>Good.need (Good.bret (Good.exprsP he)))) (Good.tok ((Good.sig gt ht).bind fun s=>Good.bret hb) (Good.name fun s => ?_)))
 cases h with
 | true=>exact Good.ret _
 | false=>exact Good.tok (Good.bret (Good.exprsP he)) (Good.ret _)
theorem Stops.primP {typ block expr : Pp Tree} {h : Bool} : Stops (primP N typ block expr h):=Stops.tkn (Stops.tkn (Stops.tok (Stops.tok (Stops.tok (Stops.tok (Stops.tok (Stops.tok Stops.name)))))))
theorem Good.loopB {X : Pp Tree} {ops : List Str} (h : Good X) : ∀ (j : Nat) (n : Tree),Good (loopB j ops X n)
 | 0,_=>Good.dry
 | j + 1,n=>Good.oneOf (fun op=>h.bind fun m=>Good.loopB h j _) (Good.ret _)
theorem Good.binL {U : Pp Tree} (hU : Good U) : ∀ l,Good (binL N U l)
 | []=>hU
 | ops :: rest=>(Good.binL hU rest).bind fun n=>Good.loopB (Good.binL hU rest) N n
end
structure GGood (g : Gr) : Prop where
 typ : Good g.typ
 typ2 : Takes begins g.typ
 block : Good g.block
 block2 : Stops g.block
 stmt : Good g.stmt
 branch : Good g.branch
 expr : ∀ b,Good (g.expr b)
 expr2 : ∀ b,Stops (g.expr b)
 unary : ∀ b,Good (g.unary b)
 unary2 : ∀ b,Stops (g.unary b)
theorem ggood (N : Nat) : ∀ n,GGood (gr N n)
 | 0=>⟨Good.dry,fun f k h=>⟨fun a k' e=>(by cases e),fun k' e=>(by cases e)⟩,Good.dry,Stops.dry,Good.dry,Good.dry,fun _=>Good.dry,fun _=>Stops.dry,fun _=>Good.dry,fun _=>Stops.dry⟩
 | n + 1=>by
  have IH:=ggood N n
  have hu : ∀ b,Good (unaryP N (gr N n) b):=fun b=>Good.oneOf (fun op=>Good.bret (IH.unary b)) ((Good.primP IH.typ IH.typ2 IH.block (IH.expr _)).bind fun t=>Good.postP (IH.expr _) (IH.expr2 _) N t)
  have su : ∀ b,Stops (unaryP N (gr N n) b):=fun b=>Stops.oneOf (Stops.bind Stops.primP)
  refine ⟨Good.typP IH.typ IH.typ2,Takes.typP IH.typ IH.typ2,Good.blockP IH.stmt,Stops.need, ?_,Good.branchP (IH.expr _) IH.block IH.branch IH.block2,fun b=>Good.binL (IH.unary b) _,fun b=>Stops.binL (IH.unary2 b) _,hu,su⟩
  have hs : Good (Ps.tok [102,111,114] (forP ((gr N n).expr true) (gr N n).block) (Ps.bind (Ps.simpleP N (gr N n).typ ((gr N n).expr false)) fun s=>Ps.need [59] (Ps.ret s))) :=
   Good.tok (Good.forP (IH.expr _) IH.block (IH.expr2 _)) ((Good.simpleP IH.typ (IH.expr _) (IH.expr2 _)).bind fun s=>Good.need (Good.ret _))
  have ss : Stops (Ps.tok [102,111,114] (forP ((gr N n).expr true) (gr N n).block) (Ps.bind (Ps.simpleP N (gr N n).typ ((gr N n).expr false)) fun s=>Ps.need [59] (Ps.ret s))):=Stops.tok (Stops.bind (Stops.simpleP (IH.expr2 _)))
  exact Good.peek (Loc.isM _) IH.block (Good.peek (Loc.isM _) IH.branch hs (.inl ss)) (.inl (Stops.peek (Loc.isM _) ss))
theorem Good.declG (N n : Nat) : Good (declG N n):=Good.declP (ggood N n).typ (ggood N n).typ2 (ggood N n).block
end Go.Ps


/- PsPlcP -/
set_option linter.unusedVariables false
set_option linter.unusedSimpArgs false
namespace Go.Sep
theorem parseD_cases (s : Str) :
  (∃ ds k,(scanD s).e=0∧Ps.program (scanD s).list.length (tkF (scanD s).list) 0 = .ok ds k∧(Tree.mk 1 [] 0 ds).size ≤ 20000∧(Tree.mk 1 [] 0 ds).deep ≤ 100∧parseD s = ⟨.mk 1 [] 0 ds,0,0⟩) ∨
  (∃ a e,(e=4 ∨ e=13)∧0 ≤ a∧a ≤ (s.length : Int)∧parseD s = ⟨emptyT,a,e⟩) ∨
  (∃ a,(scanD s).e ≠ 0∧0 ≤ a∧a ≤ (s.length : Int)∧parseD s = ⟨emptyT,a,3⟩) ∨
  (∃ k,(scanD s).e=0∧Ps.program (scanD s).list.length (tkF (scanD s).list) 0 = .bad k∧parseD s = ⟨emptyT,placeD s (scanD s).list k,3⟩):=by
 by_cases he : (scanD s).e=0
 ·rw [show parseD s=parseL s (scanD s).list by rw [parseD,if_pos he]]
  have hn:=program_ne (scanD s).list
  rw [parseL]
  cases hp : Ps.program (scanD s).list.length (tkF (scanD s).list) 0 with
  | ok ds k =>
   simp only
   by_cases hc : (Tree.mk 1 [] 0 ds).size ≤ 20000∧(Tree.mk 1 [] 0 ds).deep ≤ 100
   ·rw [if_pos hc]
    exact .inl ⟨ds,k,he,rfl,hc.1,hc.2,rfl⟩
   ·rw [if_neg hc]
    exact .inr (.inl ⟨0,4, .inl rfl,by omega,by omega,rfl⟩)
  | bad k=>exact .inr (.inr (.inr ⟨k,he,rfl,rfl⟩))
  | out=>exact absurd hp hn
 ·rw [show parseD s = ⟨emptyT,((scanD s).at_ : Int),(scanD s).e⟩ by rw [parseD,if_neg he]]
  rcases scanD_cases s with ⟨_,e⟩ | ⟨_,l,e,_⟩ | ⟨_,a,e',e,h1,h2⟩
  ·rw [e]
   exact .inr (.inl ⟨0,13, .inr rfl,by omega,by omega,rfl⟩)
  ·rw [e] at he;exact absurd rfl he
  ·rw [e]
   rcases h2 with rfl | ⟨rfl,_⟩
   ·exact .inr (.inl ⟨a,4, .inl rfl,by omega,by omega,rfl⟩)
   ·exact .inr (.inr (.inl ⟨a,by show (3 : Int) ≠ 0;decide,by omega,by omega,rfl⟩))
end Go.Sep


/- PtOnce -/
set_option linter.unusedVariables false
set_option linter.unusedSimpArgs false
namespace Go.Sep
open Go.Proofs
attribute [local irreducible] TC TO OT TCallX TCall DO DOt thenQ blockQ retQ At
attribute [local irreducible] parseD scanD textD
end Go.Sep


/- PtExprP -/
set_option linter.unusedVariables false
set_option linter.unusedSimpArgs false
namespace Go.Sep
open Go.Proofs
theorem lay_app : ∀ ps qs : List (Ps.Tk × Str),Pt.lay (ps++qs)=Pt.lay ps++Pt.lay qs
 | [],qs=>rfl
 | (t,g) :: ps,qs=>by
  show Pt.txt t++(g++Pt.lay (ps++qs))=(Pt.txt t++(g++Pt.lay ps))++_
  rw [lay_app ps qs];simp only [List.append_assoc]
def Stops (s : Str) : Prop := ∃ c r,s=c :: r∧Pt.stopB c=true
theorem ok_one {t : Ps.Tk} {g : Str} {ps : List (Ps.Tk × Str)} (ht : Pt.TkV t) (hs : Stops (g++Pt.lay ps)) (hg : g.all isSp=true) (h : Pt.OkL ps) : Pt.OkL ((t,g) :: ps):=by
 obtain ⟨c,r,e,hc⟩:=hs
 exact ⟨by rw [e];exact Pt.Nx.of ht hc r,hg,h⟩
def endA : List (Ps.Tk × Str):=[(Pt.mk [59],[32]),(Pt.mk [125],[])]
theorem endA_ok : Pt.OkL endA:=by
 refine ok_one (Pt.v_mk (by decide)) ⟨32,_,rfl,by decide⟩ (by decide) ⟨⟨rfl,rfl,by decide⟩,rfl,trivial⟩
end Go.Sep


/- PtTyP -/
set_option linter.unusedVariables false
set_option linter.unusedSimpArgs false
namespace Go.Sep
open Go.Pt (TkV Nx lay OkL mk wd nm commaJ resJ sigJ nth comb txt)
mutual
def nodeT : Tree→Tree
 | .mk k n u ks=>if k=1 then .mk 10 [105,110,116] 0 [] else if k=2 then .mk 10 [98,111,111,108] 0 [] else if k=3 then .mk 10 [115,116,114,105,110,103] 0 [] else if k=4 then .mk 10 n 0 []
  else .mk (if k=5 then 11 else if k=6 then 12 else 13) [] u (nodeL ks)
def nodeL : List Tree→List Tree
 | []=>[]
 | t :: ts=>nodeT t :: nodeL ts
end
theorem nodeL_eq : ∀ l : List Tree,nodeL l=l.map nodeT
 | []=>rfl
 | t :: ts=>by rw [nodeL,nodeL_eq ts];rfl
abbrev Pcs:=List (Ps.Tk × Str)
def joinP : List Pcs→Pcs
 | []=>[]
 | [a]=>a
 | a :: b :: r=>a++(mk [44],[32]) :: joinP (b :: r)
def restP : List Pcs→Pcs
 | []=>[]
 | [a]=>a
 | a :: b :: r=>(mk [40],[]) :: (joinP (a :: b :: r)++[(mk [41],[])])
def gapP (l : List Pcs) : Str:=if l.isEmpty then [] else [32]
def typP0 (k : Int) (n : Str) (u : Int) (ts : List Pcs) : Pcs :=
 if k=10 then [(nm n,[])] else if k=11 then (mk [42],[]) :: ts.headD [] else if k=12 then (mk [91],[]) :: (mk [93],[]) :: ts.headD []
 else (wd [102,117,110,99],[]) :: (mk [40],[]) :: (joinP (ts.take u.toNat)++(mk [41],gapP (ts.drop u.toNat)) :: restP (ts.drop u.toNat))
mutual
def tpc : Tree→Pcs
 | .mk k n u ks=>typP0 k n u (tpcL ks)
def tpcL : List Tree→List Pcs
 | []=>[]
 | t :: ts=>tpc t :: tpcL ts
end
theorem tpcL_eq : ∀ l : List Tree,tpcL l=l.map tpc
 | []=>rfl
 | t :: ts=>by rw [tpcL,tpcL_eq ts];rfl
theorem joinP_fst : ∀ l : List Pcs,(joinP l).map Prod.fst=commaJ (l.map (List.map Prod.fst))
 | []=>rfl
 | [a]=>rfl
 | a :: b :: r=>by
  have ih:=joinP_fst (b :: r)
  rw [joinP,List.map_append,List.map_cons,ih];rfl
theorem restP_fst : ∀ l : List Pcs,(restP l).map Prod.fst=resJ (l.map (List.map Prod.fst))
 | []=>rfl
 | [a]=>rfl
 | a :: b :: r=>by
  rw [restP,List.map_cons,List.map_append,joinP_fst]
  unfold resJ
  rw [if_neg (by simp)];rfl
theorem type_cases {b : Tree} (hb : b.isType=true) : (b.kind=10∧b.num=0∧isName b.name=true∧b.kids=[]) ∨ ((b.kind=11 ∨ b.kind=12)∧b.name=[]∧b.num=0∧b.kids.length=1 ∧ ∀ t ∈ b.kids,t.isType=true) ∨
  (b.kind=13∧b.name=[]∧0 ≤ b.num∧b.num ≤ (b.kids.length : Int) ∧ ∀ t ∈ b.kids,t.isType=true):=by
 rw [isType_eq] at hb
 by_cases h10 : b.kind=10
 ·rw [if_pos h10] at hb
  simp only [Bool.and_eq_true,decide_eq_true_eq] at hb
  exact .inl ⟨h10,hb.1,hb.2.1,List.length_eq_zero_iff.1 hb.2.2⟩
 rw [if_neg h10] at hb
 by_cases h11 : b.kind=11 ∨ b.kind=12
 ·rw [if_pos h11] at hb
  simp only [Bool.and_eq_true,decide_eq_true_eq,List.all_eq_true] at hb
  exact .inr (.inl ⟨h11,hb⟩)
 rw [if_neg h11] at hb
 by_cases h13 : b.kind=13
 ·rw [if_pos h13] at hb
  simp only [Bool.and_eq_true,decide_eq_true_eq,List.all_eq_true] at hb
  exact .inr (.inr ⟨h13,hb⟩)
 rw [if_neg h13] at hb
 cases hb
theorem tpc_fst (b : Tree) : b.isType=true→(tpc b).map Prod.fst=Pt.toks b:=by
 induction b using Tree.ind with
 | h b ih =>
 intro hb
 have hm : ∀ l : List Tree,(∀ t ∈ l,t ∈ b.kids∧t.isType=true)→(l.map tpc).map (List.map Prod.fst)=l.map Pt.toks:=fun l hl=>by
  rw [List.map_map]
  exact List.map_congr_left fun t ht=>ih t (hl t ht).1 (hl t ht).2
 rw [Pt.toks_eq]
 have hc:=type_cases hb
 obtain ⟨k,n,u,ks⟩:=b
 simp only [Tree.kind,Tree.name,Tree.num,Tree.kids] at hc ih hm ⊢
 rw [tpc,tpcL_eq]
 rcases hc with ⟨rfl, -⟩ | ⟨h11, -, -,hl,ha⟩ | ⟨rfl, -, -, -,ha⟩
 ·rfl
 ·obtain ⟨x,rfl⟩:=List.length_eq_one_iff.1 hl
  have hx:=ih x (by simp) (ha x (by simp))
  rcases h11 with rfl | rfl
  ·show (mk [42] :: (tpc x).map Prod.fst)=_
   rw [hx];rfl
  ·show (mk [91] :: mk [93] :: (tpc x).map Prod.fst)=_
   rw [hx];rfl
 ·have e1:=hm (ks.take u.toNat) fun t ht=>⟨List.mem_of_mem_take ht,ha t (List.mem_of_mem_take ht)⟩
  have e2:=hm (ks.drop u.toNat) fun t ht=>⟨List.mem_of_mem_drop ht,ha t (List.mem_of_mem_drop ht)⟩
  show wd [102,117,110,99] :: mk [40] :: (joinP ((ks.map tpc).take u.toNat)++(mk [41],gapP ((ks.map tpc).drop u.toNat)) :: restP ((ks.map tpc).drop u.toNat)).map Prod.fst=wd [102,117,110,99] :: mk [40] :: (commaJ ((ks.map Pt.toks).take u.toNat)++mk [41] :: resJ ((ks.map Pt.toks).drop u.toNat))
  rw [List.map_append,List.map_cons,joinP_fst,restP_fst,← List.map_take,← List.map_drop,e1,e2]
  simp only [List.map_take,List.map_drop]
def GoodP (ps : Pcs) : Prop := ∀ B : Pcs,OkL B→Stops (lay B)→OkL (ps++B)
theorem nx_mark {s : Str} (h : s ∈ [[42],[91],[93],[40],[41],[44]]) (R : Str) : Nx (mk s) R:=by
 simp only [List.mem_cons,List.not_mem_nil,or_false] at h
 have key : ∀ c : UInt8,c ∈ ([42,91,93,40,41,44] : Str) → ∀ R : Str,markL.find? (fun p=>prefixB p (c :: R))=some [c]:=fun c hc R=>by
  simp only [List.mem_cons,List.not_mem_nil,or_false] at hc
  rcases hc with rfl | rfl | rfl | rfl | rfl | rfl <;> simp [markL,prefixB,List.find?]
 have go : ∀ c : UInt8,c ∈ ([42,91,93,40,41,44] : Str)→Nx (mk [c]) R:=fun c hc=>by
  have h1:=key c hc R
  have h2 : ltr c=false∧dgt c=false∧c.toNat ≠ 34∧isSp c=false∧c.toNat ≠ 47:=by
   simp only [List.mem_cons,List.not_mem_nil,or_false] at hc
   rcases hc with rfl | rfl | rfl | rfl | rfl | rfl <;> decide
  refine ⟨?_,Pt.blk_one h2.2.2.2.1 h2.2.2.2.2,by simp [txt]⟩
  show tokD (c :: R)=some (⟨4,[c],0,0⟩,1)
  rw [tokD,if_neg (by rw [h2.1];decide),if_neg (by rw [h2.2.1];decide),if_neg h2.2.2.1,h1]
  rfl
 rcases h with rfl | rfl | rfl | rfl | rfl | rfl
 ·exact go 42 (by decide)
 ·exact go 91 (by decide)
 ·exact go 93 (by decide)
 ·exact go 40 (by decide)
 ·exact go 41 (by decide)
 ·exact go 44 (by decide)
theorem GoodP.nil : GoodP []:=fun B hB _=>hB
theorem GoodP.mark {s g : Str} {ps : Pcs} (h : s ∈ [[42],[91],[93],[40],[41],[44]]) (hg : g.all isSp=true) (hp : GoodP ps) : GoodP ((mk s,g) :: ps):=fun B hB hs=>⟨nx_mark h _,hg,hp B hB hs⟩
theorem GoodP.name {s : Str} (h : isName s=true) : GoodP [(nm s,[])]:=fun B hB hs=>ok_one (Pt.v_nm h) hs rfl hB
theorem mark_stops {s g : Str} {ps : Pcs} {c : UInt8} {r : Str} (e : s=c :: r) (hc : Pt.stopB c=true) : Stops (lay ((mk s,g) :: ps)):=⟨c,r++(g++lay ps),by subst e;rfl,hc⟩
theorem GoodP.app {ps qs : Pcs} (hp : GoodP ps) (hq : GoodP qs) (hs : ∀ B,Stops (lay (qs++B))) : GoodP (ps++qs):=fun B hB hsB=>by
 rw [List.append_assoc]
 exact hp _ (hq B hB hsB) (hs B)
theorem GoodP.join : ∀ {l : List Pcs},(∀ p ∈ l,GoodP p)→GoodP (joinP l)
 | [],_=>GoodP.nil
 | [a],h=>h a (by simp)
 | a :: b :: r,h=>by
  have ih:=GoodP.join (l:=b :: r) fun p hp=>h p (by simp at hp ⊢;exact .inr hp)
  exact GoodP.app (h a (by simp)) (GoodP.mark (by decide) (by decide) ih) fun B=>mark_stops rfl (by decide)
theorem GoodP.rest : ∀ {l : List Pcs},(∀ p ∈ l,GoodP p)→GoodP (restP l)
 | [],_=>GoodP.nil
 | [a],h=>h a (by simp)
 | a :: b :: r,h=>GoodP.mark (by decide) rfl (GoodP.app (GoodP.join h) (GoodP.mark (by decide) rfl GoodP.nil) fun B=>mark_stops rfl (by decide))
theorem tpc_good (b : Tree) : b.isType=true→GoodP (tpc b):=by
 induction b using Tree.ind with
 | h b ih =>
 intro hb
 have hc:=type_cases hb
 obtain ⟨k,n,u,ks⟩:=b
 simp only [Tree.kind,Tree.name,Tree.num,Tree.kids] at hc ih
 rw [tpc,tpcL_eq]
 rcases hc with ⟨rfl, -,hn, -⟩ | ⟨h11, -, -,hl,ha⟩ | ⟨rfl, -, -, -,ha⟩
 ·exact GoodP.name hn
 ·obtain ⟨x,rfl⟩:=List.length_eq_one_iff.1 hl
  have hx:=ih x (by simp) (ha x (by simp))
  rcases h11 with rfl | rfl
  ·exact GoodP.mark (s:=[42]) (by decide) rfl hx
  ·exact GoodP.mark (s:=[91]) (by decide) rfl (GoodP.mark (s:=[93]) (by decide) rfl hx)
 ·have g : ∀ p ∈ ks.map tpc,GoodP p:=fun p hp=>by
   obtain ⟨t,ht,rfl⟩:=List.mem_map.1 hp
   exact ih t ht (ha t ht)
  have h1:=GoodP.mark (s:=[41]) (g:=gapP ((ks.map tpc).drop u.toNat)) (by decide) (by unfold gapP;split <;> decide) (GoodP.rest (l:=(ks.map tpc).drop u.toNat) fun p hp=>g p (List.mem_of_mem_drop hp))
  have h2:=GoodP.mark (s:=[40]) (g:=[]) (by decide) rfl (GoodP.app (GoodP.join (l:=(ks.map tpc).take u.toNat) fun p hp=>g p (List.mem_of_mem_take hp)) h1 fun B=>mark_stops rfl (by decide))
  exact fun B hB hs=>ok_one (Pt.v_wd (by decide)) ⟨40,_,rfl,by decide⟩ rfl (h2 B hB hs)
theorem join_two (x y : Str) (r : List Str) (sep : Str) : Lib.join (x :: y :: r) sep=x++(sep++Lib.join (y :: r) sep):=by
 simp [Lib.join_cons,Lib.joinTail]
theorem joinP_lay : ∀ l : List Pcs,lay (joinP l)=joinS (l.map lay) commaS
 | []=>rfl
 | [a]=>by
  show lay a=Lib.join [lay a] commaS
  simp [Lib.join_cons,Lib.joinTail]
 | a :: b :: r=>by
  have ih:=joinP_lay (b :: r)
  rw [joinP,lay_app]
  show lay a++([44]++([32]++lay (joinP (b :: r))))=Lib.join (lay a :: lay b :: r.map lay) commaS
  rw [ih,join_two]
  rfl
theorem restP_lay : ∀ l : List Pcs,gapP l++lay (restP l)=restS (l.map lay)
 | []=>rfl
 | [a]=>rfl
 | a :: b :: r=>by
  show [32]++([40]++([]++lay (joinP (a :: b :: r)++[(mk [41],[])])))=_
  rw [lay_app,joinP_lay]
  unfold restS
  rw [if_neg (by simp),if_neg (by simp)]
  simp [lay,txt]
structure NodeOk (a : Tree) : Prop where
 typ : (nodeT a).isType=true
 back : (nodeT a).ofT=a
 size : (nodeT a).size=a.size
 deep : (nodeT a).deep=a.deep
 text : lay (tpc (nodeT a))=a.show
theorem sizeL_map {f : Tree→Tree} : ∀ {l : List Tree},(∀ t ∈ l,(f t).size=t.size)→sizeL (l.map f)=sizeL l
 | [],_=>rfl
 | t :: l,h=>by rw [List.map_cons,sizeL,sizeL,h t (by simp),sizeL_map fun x hx=>h x (by simp [hx])]
theorem deepL_map {f : Tree→Tree} : ∀ {l : List Tree},(∀ t ∈ l,(f t).deep=t.deep)→deepL (l.map f)=deepL l
 | [],_=>rfl
 | t :: l,h=>by rw [List.map_cons,deepL,deepL,h t (by simp),deepL_map fun x hx=>h x (by simp [hx])]
theorem node_ok (a : Tree) : a.formed=true→a.kind ≠ 8→NodeOk a:=by
 induction a using Tree.ind with
 | h a ih =>
 intro hf h8
 obtain ⟨hkf,hkinds⟩:=formed_kinds hf
 have hf2:=hf
 rw [formed_eq,Bool.and_eq_true,Bool.and_eq_true,formedL_eq,List.all_eq_true] at hf2
 obtain ⟨f1,f2,f3⟩:=hf2
 have hk : ∀ t ∈ a.kids,NodeOk t:=fun t ht=>by
  have:=f1 t ht
  simp only [Bool.and_eq_true,Bool.not_eq_true',decide_eq_false_iff_not] at this
  exact ih t ht this.2 this.1
 have g2 : (a.kind=4 ∨ a.name=[])∧(a.kind=7 ∨ a.num=0):=by unfold headB at f2;simpa using f2
 have g3 : (a.kind=1 ∨ a.kind=2 ∨ a.kind=3 ∨ a.kind=8)→a.kids.length=0:=fun h=>by unfold kindB at f3;rw [if_pos h] at f3;exact of_decide_eq_true f3
 have g4 : a.kind=4→a.kids.length=0∧isName a.name=true∧basicOf a.name=0:=fun h=>by
  unfold kindB at f3
  rw [if_neg (by omega),if_pos h] at f3
  simpa using f3
 obtain ⟨k,n,u,ks⟩:=a
 simp only [Tree.kind,Tree.name,Tree.num,Tree.kids] at h8 hkinds hk f1 g2 g3 g4
 have hmap : ks.map (fun t=>(nodeT t).ofT)=ks:=by
  have : ks.map (fun t=>(nodeT t).ofT)=ks.map id:=List.map_congr_left fun t ht=>(hk t ht).back
  rw [this,List.map_id]
 have hsz : sizeL (nodeL ks)=sizeL ks:=by rw [nodeL_eq];exact sizeL_map fun t ht=>(hk t ht).size
 have hdp : deepL (nodeL ks)=deepL ks:=by rw [nodeL_eq];exact deepL_map fun t ht=>(hk t ht).deep
 have hlay : ((nodeL ks).map tpc).map lay=ks.map Tree.show:=by
  rw [nodeL_eq,List.map_map,List.map_map]
  exact List.map_congr_left fun t ht=>(hk t ht).text
 have hall : (nodeL ks).all Tree.isType=true:=by
  rw [nodeL_eq,List.all_eq_true]
  intro x hx
  obtain ⟨t,ht,rfl⟩:=List.mem_map.1 hx
  exact (hk t ht).typ
 have hlen : (nodeL ks).length=ks.length:=by rw [nodeL_eq,List.length_map]
 rcases hkinds with hA | ⟨hC,hl1⟩ | ⟨rfl,hn0,hn1⟩
 ·rcases hA with rfl | rfl | rfl | rfl | rfl
  ·obtain rfl : n=[]:=g2.1.resolve_left (by decide)
   obtain rfl : u=0:=g2.2.resolve_left (by decide)
   obtain rfl:=List.length_eq_zero_iff.1 (g3 (by decide))
   exact ⟨by decide,rfl,rfl,rfl,rfl⟩
  ·obtain rfl : n=[]:=g2.1.resolve_left (by decide)
   obtain rfl : u=0:=g2.2.resolve_left (by decide)
   obtain rfl:=List.length_eq_zero_iff.1 (g3 (by decide))
   exact ⟨by decide,rfl,rfl,rfl,rfl⟩
  ·obtain rfl : n=[]:=g2.1.resolve_left (by decide)
   obtain rfl : u=0:=g2.2.resolve_left (by decide)
   obtain rfl:=List.length_eq_zero_iff.1 (g3 (by decide))
   exact ⟨by decide,rfl,rfl,rfl,rfl⟩
  ·exact absurd rfl h8
  ·obtain rfl : u=0:=g2.2.resolve_left (by decide)
   obtain ⟨f31,f32,f33⟩:=g4 rfl
   obtain rfl:=List.length_eq_zero_iff.1 f31
   have e : nodeT (.mk 4 n 0 []) = .mk 10 n 0 []:=rfl
   refine ⟨?_, ?_,rfl,rfl, ?_⟩
   ·rw [e,isType_eq]
    simp [Tree.kind,Tree.num,Tree.name,Tree.kids,f32]
   ·rw [e]
    show (if basicOf n=0 then Tree.mk 4 n 0 [] else .mk (basicOf n) [] 0 [])=_
    rw [if_pos f33]
   ·rw [e,show_eq]
    show n++([]++[])=n
    simp
 ·obtain ⟨x,rfl⟩:=List.length_eq_one_iff.1 hl1
  have hx:=hk x (by simp)
  rcases hC with rfl | rfl
  ·obtain rfl : n=[]:=g2.1.resolve_left (by decide)
   obtain rfl : u=0:=g2.2.resolve_left (by decide)
   have e : nodeT (.mk 5 [] 0 [x]) = .mk 11 [] 0 [nodeT x]:=rfl
   refine ⟨?_, ?_, ?_, ?_, ?_⟩
   ·rw [e,isType_eq]
    simp [Tree.kind,Tree.num,Tree.name,Tree.kids,hx.typ]
   ·rw [e]
    show Tree.mk 5 [] 0 [(nodeT x).ofT]=_
    rw [hx.back]
   ·rw [e];simp only [Tree.size,sizeL,hx.size]
   ·rw [e];simp only [Tree.deep,deepL,hx.deep]
   ·rw [e,show_eq]
    show [42]++([]++lay (tpc (nodeT x)))=[42]++x.show
    rw [hx.text];rfl
  ·obtain rfl : n=[]:=g2.1.resolve_left (by decide)
   obtain rfl : u=0:=g2.2.resolve_left (by decide)
   have e : nodeT (.mk 6 [] 0 [x]) = .mk 12 [] 0 [nodeT x]:=rfl
   refine ⟨?_, ?_, ?_, ?_, ?_⟩
   ·rw [e,isType_eq]
    simp [Tree.kind,Tree.num,Tree.name,Tree.kids,hx.typ]
   ·rw [e]
    show Tree.mk 6 [] 0 [(nodeT x).ofT]=_
    rw [hx.back]
   ·rw [e];simp only [Tree.size,sizeL,hx.size]
   ·rw [e];simp only [Tree.deep,deepL,hx.deep]
   ·rw [e,show_eq]
    show [91]++([]++([93]++([]++lay (tpc (nodeT x)))))=[91,93]++x.show
    rw [hx.text];rfl
 ·obtain rfl : n=[]:=g2.1.resolve_left (by decide)
  have e : nodeT (.mk 7 [] u ks) = .mk 13 [] u (nodeL ks):=rfl
  refine ⟨?_, ?_, ?_, ?_, ?_⟩
  ·rw [e,isType_eq]
   have hall' : ∀ x ∈ nodeL ks,x.isType=true:=List.all_eq_true.1 hall
   simp only [Tree.kind,Tree.num,Tree.name,Tree.kids]
   simp [hlen,hn0,hn1]
   exact hall'
  ·rw [e]
   show Tree.mk 7 [] u (ofL (nodeL ks))=_
   rw [ofL_eq,nodeL_eq,List.map_map]
   exact congrArg (Tree.mk 7 [] u) hmap
  ·rw [e];simp only [Tree.size,hsz]
  ·rw [e];simp only [Tree.deep,hdp]
  ·rw [e,show_eq,tpc,tpcL_eq]
   generalize hL : (nodeL ks).map tpc=P at hlay
   show [102,117,110,99]++([]++([40]++([]++lay (joinP (P.take u.toNat)++(mk [41],gapP (P.drop u.toNat)) :: restP (P.drop u.toNat)))))=[102,117,110,99,40]++joinS ((ks.map Tree.show).take u.toNat) commaS++[41]++restS ((ks.map Tree.show).drop u.toNat)
   rw [lay_app,joinP_lay,← hlay,← List.map_take,← List.map_drop,← restP_lay]
   simp [lay,txt]
def structT (b : Tree) : Tree := .mk 2 [83] 0 [.mk 6 [102] 0 [b]]
def preT : Pcs:=[(wd [116,121,112,101],[32]),(nm [83],[32]),(wd [115,116,114,117,99,116],[32]),(mk [123],[32]),(nm [102],[32])]
def psT (b : Tree) : Pcs:=preT++(tpc b++endA)
theorem psT_ok {b : Tree} (hb : b.isType=true) : OkL (psT b):=by
 have h:=tpc_good b hb endA endA_ok ⟨59,_,rfl,by decide⟩
 refine ok_one (Pt.v_wd (by decide)) ⟨32,_,rfl,by decide⟩ (by decide) ?_
 refine ok_one (Pt.v_nm (by decide)) ⟨32,_,rfl,by decide⟩ (by decide) ?_
 refine ok_one (Pt.v_wd (by decide)) ⟨32,_,rfl,by decide⟩ (by decide) ?_
 refine ok_one (Pt.v_mk (by decide)) ⟨32,_,rfl,by decide⟩ (by decide) ?_
 exact ok_one (Pt.v_nm (by decide)) ⟨32,_,rfl,by decide⟩ (by decide) h
theorem psT_lay (b : Tree) : lay (psT b)=[116,121,112,101,32,83,32,115,116,114,117,99,116,32,123,32,102,32]++lay (tpc b)++[59,32,125]:=by
 rw [psT,lay_app,lay_app,List.append_assoc];rfl
theorem psT_fst {b : Tree} (hb : b.isType=true) : (psT b).map Prod.fst=Pt.toks (structT b):=by
 have e1 : Pt.toks (.mk 6 [102] 0 [b])=nm [102] :: Pt.toks b:=by rw [Pt.toks_eq];rfl
 have e2 : Pt.toks (structT b)=wd [116,121,112,101] :: nm [83] :: wd [115,116,114,117,99,116] :: mk [123] :: (Pt.semis [Pt.toks (.mk 6 [102] 0 [b])]++[mk [125]]):=by rw [Pt.toks_eq];rfl
 rw [e2,e1,psT,List.map_append,List.map_append,tpc_fst b hb]
 simp [preT,endA,Pt.semis]
theorem struct_rd {b : Tree} (hb : b.isType=true) {N n : Nat} (h1 : b.size + 2 ≤ N) (h2 : b.deep ≤ n) : Pt.Rd (Ps.declG N n) (Pt.toks (structT b)) (structT b) Pt.yes:=by
 have e2 : Pt.toks (structT b)=wd [116,121,112,101] :: nm [83] :: wd [115,116,114,117,99,116] :: mk [123] :: (Pt.semis ([Tree.mk 6 [102] 0 [b]].map Pt.toks)++[mk [125]]):=by rw [Pt.toks_eq];rfl
 rw [e2]
 unfold Ps.declG Ps.declP Ps.typeDeclP
 refine Pt.Rd.tokT rfl (Pt.Rd.name (Pt.Rd.tokF (fun o _=>rfl) (Pt.Rd.need rfl (Pt.body_rd (p:=Tree.isType) (by have:=size_pos b;simp;omega) (fun x hx => ?_) fun x hx t ht hp => ?_))))
 ·rw [List.mem_singleton] at hx;subst hx
  unfold fieldS
  show (ofB _ 6 && kidsR [Tree.isType] none [b])=true
  rw [show ofB (.mk 6 [102] 0 [b]) 6=true from rfl]
  show (true && (b.isType && true))=true
  rw [hb];rfl
 ·rw [List.mem_singleton] at hx;subst hx
  rw [List.mem_singleton.1 ht]
  exact Pt.typ_rd hb (by omega) h2
theorem program_big {l : List Ps.Tk} {d : Tree} (hne : l ≠ []) (hd : ∀ N n,40000 ≤ N→40000 ≤ n→Pt.Rd (Ps.declG N n) l d Pt.yes) : Ps.program l.length (fun i=>l[i]?) 0 = .ok [d] l.length:=by
 have q : Ps.progL (Ps.declG (max l.length 40000 + 1) (3 * max l.length 40000 + 4)) (max l.length 40000 + 1) (fun i=>l[i]?) 0 = .ok [d] l.length:=by
  have h1:=hd (max l.length 40000 + 1) (3 * max l.length 40000 + 4) (by omega) (by omega) (fun i=>l[i]?) 0 (Pt.seg_get l) rfl
  rw [Nat.zero_add] at h1
  obtain ⟨t,l',rfl⟩ : ∃ t l',l=t :: l':=by
   cases l with
   | nil=>exact absurd rfl hne
   | cons t l'=>exact ⟨t,l',rfl⟩
  obtain ⟨j,hj⟩ : ∃ j,max (t :: l').length 40000=j + 1:=⟨max (t :: l').length 40000 - 1,by omega⟩
  rw [Ps.progL]
  simp only [List.getElem?_cons_zero,Option.isNone_some,cond_false]
  rw [Ps.bind_ok h1,hj]
  have h2 : (fun i=>(t :: l')[i]?) (t :: l').length=none:=by simp
  rw [Ps.bind_ok (show Ps.progL _ (j + 1) (fun i=>(t :: l')[i]?) (t :: l').length = .ok [] (t :: l').length by
   rw [Ps.progL]
   simp only [h2,Option.isNone_none,cond_true])]
  rfl
 have q' : Ps.program (max l.length 40000) (fun i=>l[i]?) 0 = .ok [d] l.length:=q
 have hr : Ps.Run l.length (fun i=>l[i]?) false 0 (Ps.program l.length):=Ps.Run.program (fun i hi=>by simp [hi])
 rw [← Ps.Le.program (Nat.le_max_left l.length 40000) (fun i=>l[i]?) 0 (hr.out 0 (Nat.le_refl _) (Nat.zero_le _))]
 exact q'
def progT (b : Tree) : Tree := .mk 1 [] 0 [structT b]
theorem progT_size (b : Tree) : (progT b).size=b.size + 3:=by simp only [progT,structT,Tree.size,sizeL];omega
theorem progT_deep (b : Tree) : (progT b).deep=b.deep + 3:=by
 have:=deep_pos b
 simp only [progT,structT,Tree.deep,deepL];omega
theorem struct_back {b : Tree} (hb : b.isType=true) (h1 : b.size ≤ 20000) (h2 : b.deep ≤ 100) (hl : (lay (psT b)).length ≤ 65536) :
  (b.size + 3 ≤ 20000∧b.deep + 3 ≤ 100∧(psT b).length ≤ 20000∧parseD (lay (psT b)) = ⟨progT b,0,0⟩) ∨ ((20000 < b.size + 3 ∨ 100 < b.deep + 3 ∨ 20000 < (psT b).length) ∧ ∃ k : Int,0 ≤ k∧parseD (lay (psT b)) = ⟨emptyT,k,4⟩):=by
 have hsc:=Pt.scan_lay (psT_ok hb) hl
 rcases Nat.lt_or_ge 20000 (psT b).length with h0 | h0
 ·obtain ⟨a,h3,h4⟩:=hsc.2 h0
  refine .inr ⟨.inr (.inr h0),(a : Int),by omega, ?_⟩
  unfold parseD
  rw [h3];rfl
 ·obtain ⟨l,h3,h4⟩:=hsc.1 h0
  have hp:=program_big (l:=Pt.toks (structT b)) (d:=structT b) (by rw [← psT_fst hb];simp [psT,preT]) fun N n hN hn=>struct_rd hb (by omega) (by omega)
  have hlen : l.length=(Pt.toks (structT b)).length:=by rw [← psT_fst hb,← h4,List.length_map]
  have e : parseD (lay (psT b))=if (Tree.mk 1 [] 0 [structT b]).size ≤ 20000∧(Tree.mk 1 [] 0 [structT b]).deep ≤ 100 then ⟨.mk 1 [] 0 [structT b],0,0⟩ else ⟨emptyT,0,4⟩:=by
   unfold parseD
   rw [h3,if_pos rfl]
   show parseL (lay (psT b)) l=_
   unfold parseL
   rw [Pt.tkF_bare,h4,psT_fst hb,hlen,hp]
  have q1:=progT_size b
  have q2:=progT_deep b
  unfold progT at q1 q2
  rw [q1,q2] at e
  by_cases h5 : b.size + 3 ≤ 20000∧b.deep + 3 ≤ 100
  ·exact .inl ⟨h5.1,h5.2,h0,by rw [e,if_pos h5];rfl⟩
  ·exact .inr ⟨by omega,0,Int.le_refl _,by rw [e,if_neg h5]⟩
end Go.Sep


/- PsCnt -/
set_option linter.unusedVariables false
set_option linter.unusedSimpArgs false
namespace Go.Ps
open Go.Sep (Tree Str sizeL)
variable {α β : Type}
def Wt (c : Nat) (w : α → Nat) (p : Pp α) : Prop := ∀ f k a k',p f k = .ok a k' → w a + k ≤ k' + c
theorem Wt.up {c c' : Nat} {w : α → Nat} {p : Pp α} (h : Wt c w p) (hc : c ≤ c') : Wt c' w p:=fun f k a k' e=>by have:=h f k a k' e;omega
theorem Wt.ret {c : Nat} {w : α → Nat} {a : α} (h : w a ≤ c) : Wt c w (ret a):=fun f k b k' e=>by injection e with e1 e2;subst e1;subst e2;omega
theorem Wt.fail {c : Nat} {w : α → Nat} : Wt c w (fail : Pp α):=fun f k a k' e=>by cases e
theorem Wt.dry {c : Nat} {w : α → Nat} : Wt c w (dry : Pp α):=fun f k a k' e=>by cases e
theorem Wt.bind {c c1 : Nat} {w1 : α → Nat} {w : β → Nat} {p : Pp α} {g : α → Pp β} (hp : Wt c1 w1 p) (hg : ∀ a, ∃ d,d ≤ c + w1 a - c1∧c1 ≤ c + w1 a∧Wt d w (g a)) : Wt c w (bind p g):=fun f k b k' e=>by
 unfold Ps.bind at e
 cases hx : p f k with
 | ok a k1 =>
  simp only [hx] at e
  obtain ⟨d,h1,h2,h3⟩:=hg a
  have h4:=hp f k a k1 hx
  have h5:=h3 f k1 b k' e
  omega
 | bad k1=>simp only [hx] at e;cases e
 | out=>simp only [hx] at e;cases e
theorem Wt.bind0 {c : Nat} {w1 : α → Nat} {w : β → Nat} {p : Pp α} {g : α → Pp β} (hp : Wt 0 w1 p) (hg : ∀ a,Wt (c + w1 a) w (g a)) : Wt c w (Ps.bind p g):=Wt.bind hp fun a=>⟨_,Nat.le_refl _,Nat.zero_le _,hg a⟩
theorem Wt.tok {c : Nat} {w : α → Nat} {s : Str} {A B : Pp α} (hA : Wt (c + 1) w A) (hB : Wt c w B) : Wt c w (tok s A B):=fun f k a k' e=>by
 unfold Ps.tok at e
 cases hb : isM s f k with
 | true=>simp only [hb,cond_true] at e;have:=hA f _ a k' e;omega
 | false=>simp only [hb,cond_false] at e;exact hB f k a k' e
theorem Wt.need {c : Nat} {w : α → Nat} {s : Str} {A : Pp α} (hA : Wt (c + 1) w A) : Wt c w (need s A):=Wt.tok hA Wt.fail
theorem Wt.tkn {c : Nat} {w : α → Nat} {n : Int} {A : Tk→Pp α} {B : Pp α} (hA : ∀ t,Wt (c + 1) w (A t)) (hB : Wt c w B) : Wt c w (tkn n A B):=fun f k a k' e=>by
 unfold Ps.tkn at e
 cases hx : f k with
 | none=>simp only [hx] at e;exact hB f k a k' e
 | some t =>
  cases hb : decide (t.kind=n) with
  | true=>simp only [hx,hb,cond_true] at e;have:=hA t f _ a k' e;omega
  | false=>simp only [hx,hb,cond_false] at e;exact hB f k a k' e
theorem Wt.name {c : Nat} {w : α → Nat} {A : Str→Pp α} (hA : ∀ t,Wt (c + 1) w (A t)) : Wt c w (name A):=Wt.tkn (fun t=>hA t.text) Wt.fail
theorem Wt.oneOf {c : Nat} {w : α → Nat} {ops : List Str} {A : Str→Pp α} {B : Pp α} (hA : ∀ t,Wt (c + 1) w (A t)) (hB : Wt c w B) : Wt c w (oneOf ops A B):=fun f k a k' e=>by
 unfold Ps.oneOf at e
 cases hx : ops.find? (fun s=>isM s f k) with
 | none=>simp only [hx] at e;exact hB f k a k' e
 | some t=>simp only [hx] at e;have:=hA t f _ a k' e;omega
theorem Wt.peek {c : Nat} {w : α → Nat} {q : F→Nat→Bool} {A B : Pp α} (hA : Wt c w A) (hB : Wt c w B) : Wt c w (peek q A B):=fun f k a k' e=>by
 unfold Ps.peek at e
 cases hb : q f k with
 | true=>simp only [hb,cond_true] at e;exact hA f k a k' e
 | false=>simp only [hb,cond_false] at e;exact hB f k a k' e
theorem Wt.tokIf {c : Nat} {w : α → Nat} {x : Bool} {s : Str} {A B : Pp α} (hA : Wt (c + 1) w A) (hB : Wt c w B) : Wt c w (tokIf x s A B):=by
 cases x with
 | true=>exact Wt.tok hA hB
 | false=>exact hB
@[reducible] def T0 (p : Pp Tree) : Prop:=Wt 0 Tree.size p
@[reducible] def L0 (p : Pp (List Tree)) : Prop:=Wt 0 sizeL p
theorem szL_app (a b : List Tree) : sizeL (a++b)=sizeL a + sizeL b:=by
 induction a with
 | nil=>simp [sizeL]
 | cons x l ih=>simp only [List.cons_append,sizeL,ih];omega
theorem sz_mk (k : Int) (s : Str) (n : Int) (ks : List Tree) : (Tree.mk k s n ks).size=1 + sizeL ks:=by simp only [Tree.size]
theorem sz_leaf (k : Int) (s : Str) : (leaf k s).size=1:=rfl
theorem commas_wt {X : Pp Tree} (h : T0 X) : ∀ j,L0 (commas j X)
 | 0=>Wt.dry
 | j + 1=>Wt.bind0 h fun a=>Wt.tok (Wt.bind0 (commas_wt h j) fun l=>Wt.ret (by (simp only [sz_mk,sz_leaf,sizeL,szL_app];omega))) (Wt.ret (by (simp only [sz_mk,sz_leaf,sizeL,szL_app];omega)))
theorem upto_wt {X : Pp Tree} {s : Str} (h : T0 X) : ∀ j,L0 (upto j s X)
 | 0=>Wt.dry
 | j + 1=>Wt.tok (Wt.ret (by (simp only [sz_mk,sz_leaf,sizeL,szL_app];omega))) (Wt.bind0 h fun a=>Wt.bind0 (upto_wt h j) fun l=>Wt.ret (by (simp only [sz_mk,sz_leaf,sizeL,szL_app];omega)))
variable {N : Nat}
theorem inP_wt {s : Str} {X : Pp Tree} (h : T0 X) : L0 (inP N s X):=Wt.tok (Wt.ret (by (simp only [sz_mk,sz_leaf,sizeL,szL_app];omega))) (Wt.bind0 (commas_wt h N) fun l=>Wt.need (Wt.ret (by omega)))
theorem results_wt {typ : Pp Tree} (h : T0 typ) : L0 (resultsP N typ) :=
 Wt.tok (Wt.bind0 (commas_wt h N) fun l=>Wt.need (Wt.ret (by omega))) (Wt.peek (Wt.bind0 h fun t=>Wt.ret (by (simp only [sz_mk,sz_leaf,sizeL,szL_app];omega))) (Wt.ret (by (simp only [sz_mk,sz_leaf,sizeL,szL_app];omega))))
theorem param_wt {typ : Pp Tree} (h : T0 typ) : T0 (paramP typ):=Wt.name fun s=>Wt.bind0 h fun t=>Wt.ret (by (simp only [sz_mk,sz_leaf,sizeL,szL_app];omega))
theorem sigLike_wt {kind : Int} {X typ : Pp Tree} (hX : T0 X) (h : T0 typ) : T0 (sigLike N kind X typ) :=
 Wt.need (Wt.bind0 (inP_wt hX) fun ps=>Wt.bind0 (results_wt h) fun rs=>Wt.ret (by (simp only [sz_mk,sz_leaf,sizeL,szL_app];omega)))
theorem sig_wt {typ : Pp Tree} (h : T0 typ) : T0 (sigP N typ):=sigLike_wt (param_wt h) h
theorem typP_wt {typ : Pp Tree} (h : T0 typ) : T0 (typP N typ) :=
 Wt.tok (Wt.bind0 h fun t=>Wt.ret (by (simp only [sz_mk,sz_leaf,sizeL,szL_app];omega))) (Wt.tok (Wt.need (Wt.bind0 h fun t=>Wt.ret (by (simp only [sz_mk,sz_leaf,sizeL,szL_app];omega)))) (Wt.tok ((sigLike_wt h h).up (by omega)) (Wt.name fun s=>Wt.ret (by (simp only [sz_mk,sz_leaf,sizeL,szL_app];omega)))))
theorem field_wt {mb : Pp Tree} (h : T0 mb) : T0 (fieldP mb):=Wt.name fun s=>Wt.bind0 h fun t=>Wt.need (Wt.ret (by (simp only [sz_mk,sz_leaf,sizeL,szL_app];omega)))
theorem body_wt {kind : Int} {nm : Str} {mb : Pp Tree} (h : T0 mb) : T0 (bodyP N kind nm mb):=Wt.need (Wt.bind0 (upto_wt (field_wt h) N) fun l=>Wt.ret (by (simp only [sz_mk,sz_leaf,sizeL,szL_app];omega)))
theorem typeDecl_wt {typ : Pp Tree} (h : T0 typ) : T0 (typeDeclP N typ):=Wt.name fun nm=>Wt.tok ((body_wt (sig_wt h)).up (by omega)) (Wt.need ((body_wt h).up (by omega)))
theorem decl_wt {typ block : Pp Tree} (h : T0 typ) (hb : T0 block) : T0 (declP N typ block):=by
 refine Wt.tok ((typeDecl_wt h).up (by omega)) (Wt.need (Wt.tok ?_ ?_))
 ·exact Wt.name fun recv=>Wt.need (Wt.name fun of=>Wt.need (Wt.name fun nm=>Wt.bind0 (sig_wt h) fun s=>Wt.bind0 hb fun b=>Wt.ret (by simp only [sz_mk,sizeL,recvT,sz_leaf];omega)))
 ·exact Wt.name fun nm=>Wt.bind0 (sig_wt h) fun s=>Wt.bind0 hb fun b=>Wt.ret (by (simp only [sz_mk,sz_leaf,sizeL,szL_app];omega))
theorem block_wt {stmt : Pp Tree} (h : T0 stmt) : T0 (blockP N stmt):=Wt.need (Wt.bind0 (upto_wt h N) fun l=>Wt.ret (by (simp only [sz_mk,sz_leaf,sizeL,szL_app];omega)))
theorem branch_wt {expr block branch : Pp Tree} (he : T0 expr) (hb : T0 block) (hr : T0 branch) : T0 (branchP expr block branch) :=
 Wt.need (Wt.bind0 he fun c=>Wt.bind0 hb fun b=>Wt.tok (Wt.peek (Wt.bind0 hr fun e=>Wt.ret (by (simp only [sz_mk,sz_leaf,sizeL,szL_app];omega))) (Wt.bind0 hb fun e=>Wt.ret (by (simp only [sz_mk,sz_leaf,sizeL,szL_app];omega)))) (Wt.ret (by (simp only [sz_mk,sz_leaf,sizeL,szL_app];omega))))
theorem for_wt {expr block : Pp Tree} (he : T0 expr) (hb : T0 block) : Wt 1 Tree.size (forP expr block) :=
 Wt.peek (Wt.bind0 hb fun b=>Wt.ret (by (simp only [sz_mk,sz_leaf,sizeL,szL_app];omega))) (Wt.bind0 he fun c=>Wt.bind0 hb fun b=>Wt.ret (by (simp only [sz_mk,sz_leaf,sizeL,szL_app];omega)))
theorem assign_wt {expr : Pp Tree} {left : List Tree} (he : T0 expr) : Wt (sizeL left + 1) Tree.size (assignP N expr left):=by
 refine Wt.tokIf (Wt.bind0 (commas_wt he N) fun l=>Wt.ret (by (simp only [sz_mk,sz_leaf,sizeL,szL_app];omega))) (Wt.tokIf (Wt.bind0 (commas_wt he N) fun l=>Wt.ret (by (simp only [sz_mk,sz_leaf,sizeL,szL_app];omega))) ?_)
 cases isC1 left with
 | true=>exact Wt.peek (Wt.ret (by (simp only [sz_mk,sz_leaf,sizeL,szL_app];omega))) Wt.fail
 | false=>exact Wt.fail
theorem simple_wt {typ expr : Pp Tree} (h : T0 typ) (he : T0 expr) : Wt 1 Tree.size (simpleP N typ expr):=by
 refine Wt.tok (Wt.name fun s=>Wt.bind0 h fun t=>Wt.tok (Wt.bind0 he fun e=>Wt.ret (by (simp only [sz_mk,sz_leaf,sizeL,szL_app];omega))) (Wt.ret (by (simp only [sz_mk,sz_leaf,sizeL,szL_app];omega)))) ?_
 refine Wt.tok (Wt.peek (Wt.ret (by (simp only [sz_mk,sz_leaf,sizeL,szL_app];omega))) (Wt.bind0 (commas_wt he N) fun l=>Wt.ret (by (simp only [sz_mk,sz_leaf,sizeL,szL_app];omega)))) ?_
 refine Wt.tok (Wt.ret (by (simp only [sz_mk,sz_leaf,sizeL,szL_app];omega))) (Wt.tok (Wt.ret (by (simp only [sz_mk,sz_leaf,sizeL,szL_app];omega))) ?_)
 exact Wt.bind0 (commas_wt he N) fun l=>(assign_wt he).up (by omega)
theorem exprs_wt {s : Str} {expr : Pp Tree} (he : T0 expr) : L0 (exprsP N s expr):=inP_wt he
theorem cut_wt {expr : Pp Tree} {num : Int} {ks : List Tree} {c : Nat} (he : T0 expr) (hc : sizeL ks ≤ c) : Wt c Tree.size (cutP expr num ks) :=
 Wt.need (Wt.tok (Wt.ret (by (simp only [sz_mk,sz_leaf,sizeL,szL_app];omega))) (Wt.bind0 he fun e=>Wt.need (Wt.ret (by (simp only [sz_mk,sz_leaf,sizeL,szL_app];omega)))))
theorem index_wt {expr : Pp Tree} {n : Tree} (he : T0 expr) : Wt n.size Tree.size (indexP expr n) :=
 Wt.peek (cut_wt he (by (simp only [sz_mk,sz_leaf,sizeL,szL_app];omega))) (Wt.bind0 he fun e=>Wt.tok (Wt.ret (by (simp only [sz_mk,sz_leaf,sizeL,szL_app];omega))) (cut_wt he (by (simp only [sz_mk,sz_leaf,sizeL,szL_app];omega))))
theorem post_wt {expr : Pp Tree} (he : T0 expr) : ∀ (j : Nat) (n : Tree),Wt n.size Tree.size (postP N expr j n)
 | 0,n=>Wt.dry
 | j + 1,n=>by
  refine Wt.tok (Wt.name fun s=>(post_wt he j _).up (by (simp only [sz_mk,sz_leaf,sizeL,szL_app];omega))) (Wt.tok (Wt.bind (index_wt he) fun t=>⟨_, ?_, ?_,post_wt he j t⟩) (Wt.tok (Wt.bind0 (exprs_wt he) fun l=>(post_wt he j _).up (by (simp only [sz_mk,sz_leaf,sizeL,szL_app];omega))) (Wt.ret (Nat.le_refl _))))
  ·omega
  ·omega
theorem prim_wt {typ block expr : Pp Tree} {h : Bool} (ht : T0 typ) (hb : T0 block) (he : T0 expr) : T0 (primP N typ block expr h):=by
 refine Wt.tkn (fun t=>Wt.ret (by (simp only [sz_mk,sz_leaf,sizeL,szL_app];omega))) (Wt.tkn (fun t=>Wt.ret (by (simp only [sz_mk,sz_leaf,sizeL,szL_app];omega))) (Wt.tok (Wt.ret (by (simp only [sz_mk,sz_leaf,sizeL,szL_app];omega))) (Wt.tok (Wt.ret (by (simp only [sz_mk,sz_leaf,sizeL,szL_app];omega))) (Wt.tok (Wt.ret (by (simp only [sz_mk,sz_leaf,sizeL,szL_app];omega))) ?_))))
 refine Wt.tok (Wt.bind0 he fun t=>Wt.need (Wt.ret (by omega))) ?_
 refine Wt.tok (Wt.need (Wt.bind0 ht fun t=>Wt.need (Wt.bind0 (exprs_wt he) fun l=>Wt.ret (by (simp only [sz_mk,sz_leaf,sizeL,szL_app];omega))))) ?_
 refine Wt.tok (Wt.bind0 (sig_wt ht) fun s=>Wt.bind0 hb fun b=>Wt.ret (by (simp only [sz_mk,sz_leaf,sizeL,szL_app];omega))) (Wt.name fun s => ?_)
 cases h with
 | true=>exact Wt.ret (by (simp only [sz_mk,sz_leaf,sizeL,szL_app];omega))
 | false=>exact Wt.tok (Wt.bind0 (exprs_wt he) fun l=>Wt.ret (by (simp only [sz_mk,sz_leaf,sizeL,szL_app];omega))) (Wt.ret (by (simp only [sz_mk,sz_leaf,sizeL,szL_app];omega)))
theorem loopB_wt {X : Pp Tree} {ops : List Str} (h : T0 X) : ∀ (j : Nat) (n : Tree),Wt n.size Tree.size (loopB j ops X n)
 | 0,n=>Wt.dry
 | j + 1,n=>Wt.oneOf (fun op=>Wt.bind0 h fun m=>(loopB_wt h j _).up (by simp only [binT,sz_mk,sizeL];omega)) (Wt.ret (Nat.le_refl _))
theorem binL_wt {U : Pp Tree} (hU : T0 U) : ∀ l,T0 (binL N U l)
 | []=>hU
 | ops :: rest=>Wt.bind0 (binL_wt hU rest) fun n=>(loopB_wt (binL_wt hU rest) N n).up (by omega)
structure GWt (g : Gr) : Prop where
 typ : T0 g.typ
 block : T0 g.block
 stmt : T0 g.stmt
 branch : T0 g.branch
 expr : ∀ b,T0 (g.expr b)
 unary : ∀ b,T0 (g.unary b)
theorem gwt : ∀ n,GWt (gr N n)
 | 0=>⟨Wt.dry,Wt.dry,Wt.dry,Wt.dry,fun _=>Wt.dry,fun _=>Wt.dry⟩
 | n + 1=>by
  have IH:=gwt n
  refine ⟨typP_wt IH.typ,block_wt IH.stmt, ?_,branch_wt (IH.expr _) IH.block IH.branch,fun b=>binL_wt (IH.unary b) _,fun b => ?_⟩
  ·exact Wt.peek IH.block (Wt.peek IH.branch (Wt.tok (for_wt (IH.expr _) IH.block) (Wt.bind (simple_wt IH.typ (IH.expr _)) fun s=>⟨s.size - 1,by omega,by have:=Sep.size_pos s;omega,Wt.need (Wt.ret (by omega))⟩)))
  ·exact Wt.oneOf (fun op=>Wt.bind0 (IH.unary b) fun t=>Wt.ret (by (simp only [sz_mk,sz_leaf,sizeL,szL_app];omega))) (Wt.bind0 (prim_wt IH.typ IH.block (IH.expr _)) fun t=>(post_wt (IH.expr _) N t).up (by omega))
theorem declG_wt (n : Nat) : T0 (declG N n):=decl_wt (gwt n).typ (gwt n).block
theorem progL_wt {decl : Pp Tree} (h : T0 decl) : ∀ j,L0 (progL decl j)
 | 0=>Wt.dry
 | j + 1=>fun f k a k' e=>by
  have hr : L0 (bind decl fun a=>bind (progL decl j) fun l=>ret (a :: l)):=Wt.bind0 h fun a=>Wt.bind0 (progL_wt h j) fun l=>Wt.ret (by (simp only [sz_mk,sz_leaf,sizeL,szL_app];omega))
  unfold progL at e
  cases hb : (f k).isNone with
  | true=>simp only [hb,cond_true] at e;injection e with e1 e2;subst e1;subst e2;simp only [sizeL];omega
  | false=>simp only [hb,cond_false] at e;exact hr f k a k' e
theorem program_wt (M : Nat) : L0 (program M):=progL_wt (declG_wt _) _
end Go.Ps


/- PtTyQ -/
set_option linter.unusedVariables false
set_option linter.unusedSimpArgs false
namespace Go.Ps
open Go.Sep Go.Pt
def tl (a : Tree) : Nat:=(toks a).length
def cl (l : List Tree) : Nat:=(commaJ (l.map toks)).length
def rl (l : List Tree) : Nat:=(resJ (l.map toks)).length
theorem cl_cons (a : Tree) (l : List Tree) : cl (a :: l) ≤ tl a + 1 + cl l:=by
 cases l with
 | nil=>simp [cl,tl,commaJ]
 | cons b r=>simp only [cl,tl,List.map_cons,commaJ,List.length_append,List.length_cons];omega
theorem rl_le (l : List Tree) : rl l ≤ cl l + 2:=by
 unfold rl cl resJ
 split
 ·omega
 ·simp only [List.length_cons,List.length_append,List.length_nil];omega
theorem commas_t {X : Pp Tree} (h : Wt 0 tl X) : ∀ j,Wt 0 cl (commas j X)
 | 0=>Wt.dry
 | j + 1=>Wt.bind0 h fun a=>Wt.tok (Wt.bind0 (commas_t h j) fun l=>Wt.ret (by have:=cl_cons a l;omega)) (Wt.ret (by simp [cl,tl,commaJ]))
theorem inP_t {N : Nat} {s : Str} {X : Pp Tree} (h : Wt 0 tl X) : Wt 0 (fun l=>cl l + 1) (inP N s X):=Wt.tok (Wt.ret (by simp [cl,commaJ])) (Wt.bind0 (commas_t h N) fun l=>Wt.need (Wt.ret (by omega)))
theorem results_t {N : Nat} {X : Pp Tree} (h : Wt 0 tl X) : Wt 0 rl (resultsP N X) :=
 Wt.tok (Wt.bind0 (commas_t h N) fun l=>Wt.need (Wt.ret (by have:=rl_le l;omega))) (Wt.peek (Wt.bind0 h fun t=>Wt.ret (by simp [rl,tl,resJ,commaJ])) (Wt.ret (by simp [rl,resJ,commaJ])))
theorem func_toks (ps rs : List Tree) : tl (.mk 13 [] (ps.length : Int) (ps++rs))=cl ps + rl rs + 3:=by
 unfold tl
 rw [toks_eq]
 show (wd [102,117,110,99] :: sigJ (ps.length : Int) ((ps++rs).map toks)).length=_
 unfold sigJ
 rw [Int.toNat_natCast,List.map_append,List.take_left' (by rw [List.length_map]),List.drop_left' (by rw [List.length_map])]
 simp only [List.length_cons,List.length_append,cl,rl]
 omega
theorem typ_t {N : Nat} : ∀ n,Wt 0 tl (gr N n).typ
 | 0=>Wt.dry
 | n + 1=>by
  have h:=typ_t (N:=N) n
  refine Wt.tok (Wt.bind0 h fun t=>Wt.ret ?_) (Wt.tok (Wt.need (Wt.bind0 h fun t=>Wt.ret ?_)) (Wt.tok (Wt.need (Wt.bind0 (inP_t h) fun ps=>Wt.bind0 (results_t h) fun rs=>Wt.ret ?_)) (Wt.name fun s=>Wt.ret ?_)))
  ·show (toks (.mk 11 [] 0 [t])).length ≤ _
   rw [toks_eq]
   show (mk [42] :: toks t).length ≤ 0 + 1 + tl t
   simp [tl];omega
  ·show (toks (.mk 12 [] 0 [t])).length ≤ _
   rw [toks_eq]
   show (mk [91] :: mk [93] :: toks t).length ≤ 0 + 1 + 1 + tl t
   simp [tl];omega
  ·rw [func_toks];omega
  ·show (toks (leaf 10 s)).length ≤ _
   unfold leaf
   rw [toks_eq]
   show [nm s].length ≤ _
   simp
theorem bind_inv {α β : Type} {p : Pp α} {g : α → Pp β} {f : F} {k k' : Nat} {b : β} (h : Ps.bind p g f k = .ok b k') : ∃ a k1,p f k = .ok a k1∧g a f k1 = .ok b k':=by
 unfold Ps.bind at h
 cases hp : p f k with
 | ok a k1=>rw [hp] at h;exact ⟨a,k1,rfl,h⟩
 | bad k1=>rw [hp] at h;cases h
 | out=>rw [hp] at h;cases h
theorem need_inv {α : Type} {s : Str} {A : Pp α} {f : F} {k k' : Nat} {a : α} (h : need s A f k = .ok a k') : isM s f k=true∧A f (k + 1) = .ok a k':=by
 unfold need Ps.tok at h
 cases hb : isM s f k with
 | true=>rw [hb] at h;exact ⟨rfl,h⟩
 | false=>rw [hb] at h;cases h
theorem upto_nil {α : Type} {X : Pp α} {s : Str} {j : Nat} {f : F} {k k' : Nat} (h : upto j s X f k = .ok [] k') : isM s f k=true∧k' = k + 1:=by
 cases j with
 | zero=>cases h
 | succ j =>
  unfold upto Ps.tok at h
  cases hb : isM s f k with
  | true =>
   rw [hb] at h
   injection h with _ h2
   exact ⟨rfl,h2.symm⟩
  | false =>
   rw [hb,cond_false] at h
   obtain ⟨a,k1,_,h2⟩:=bind_inv h
   obtain ⟨l,k2,_,h3⟩:=bind_inv h2
   injection h3 with h4 _
   cases h4
theorem isM_ex {s : Str} {f : F} {k : Nat} (h : isM s f k=true) : ∃ t,f k=some t:=by
 rw [isM_eq] at h
 cases hf : f k with
 | none=>rw [hf] at h;cases h
 | some t=>exact ⟨t,rfl⟩
theorem struct_inv {M : Nat} {f : F} {ds : List Tree} {k : Nat} (h0 : f 0=some (wd [116,121,112,101])) (h1 : f 1=some (nm [83])) (h2 : f 2=some (wd [115,116,114,117,99,116])) (h3 : f 3=some (mk [123])) (h4 : f 4=some (nm [102]))
  (h : program M f 0 = .ok ds k) : ∃ ty l ds',ds = .mk 2 [83] 0 (.mk 6 [102] 0 [ty] :: l) :: ds' ∧ (l=[] → ∃ k2,tl ty + 5 ≤ k2 ∧ ∃ t,f (k2 + 1)=some t):=by
 unfold program progL at h
 rw [h0] at h
 simp only [Option.isNone_some,cond_false] at h
 obtain ⟨d,k1,hd,h⟩:=bind_inv h
 obtain ⟨ds',k1',hds,h⟩:=bind_inv h
 injection h with h _
 subst h
 unfold declG declP at hd
 have m0 : isM [116,121,112,101] f 0=true:=by rw [isM_eq,h0];rfl
 unfold Ps.tok at hd
 rw [m0,cond_true] at hd
 unfold typeDeclP name tkn at hd
 rw [h1] at hd
 simp only [decide_true,cond_true] at hd
 have m2 : isM [105,110,116,101,114,102,97,99,101] f 2=false:=by rw [isM_eq,h2];rfl
 have hd : Ps.tok [105,110,116,101,114,102,97,99,101] _ _ f 2 = .ok d k1:=hd
 unfold Ps.tok at hd
 rw [m2,cond_false] at hd
 obtain ⟨-,hd⟩:=need_inv hd
 unfold bodyP at hd
 obtain ⟨-,hd⟩:=need_inv hd
 obtain ⟨l0,k3,hl,hd⟩:=bind_inv hd
 injection hd with hd _
 have hl : upto (M + 1) [125] (fieldP (gr (M + 1) (3 * M + 4)).typ) f 4 = .ok l0 k3:=hl
 unfold upto Ps.tok at hl
 have m4 : isM [125] f 4=false:=by rw [isM_eq,h4];rfl
 rw [m4,cond_false] at hl
 obtain ⟨x,k4,hx,hl⟩:=bind_inv hl
 obtain ⟨l,k5,hu,hl⟩:=bind_inv hl
 injection hl with hl _
 unfold fieldP name tkn at hx
 rw [h4] at hx
 simp only [decide_true,cond_true] at hx
 have hx : Ps.bind (gr (M + 1) (3 * M + 4)).typ _ f 5 = .ok x k4:=hx
 obtain ⟨ty,k2,hty,hx⟩:=bind_inv hx
 obtain ⟨hm,hx⟩:=need_inv hx
 injection hx with hx hk4
 subst hx hl
 refine ⟨ty,l,ds', ?_,fun hnil => ?_⟩
 ·rw [← hd]
 ·subst hnil
  obtain ⟨hm2, -⟩:=upto_nil hu
  have:=typ_t (3 * M + 4) f 5 ty k2 hty
  exact ⟨k2,by omega,by rw [hk4];exact isM_ex hm2⟩
end Go.Ps
namespace Go.Sep
open Go.Pt (TkV Nx lay OkL mk wd nm txt)
theorem cut_pre {t : Ps.Tk} {g g0 R : Str} {f a k : Nat} {l : List Tok} (hn : Nx t (g++R)) (hg : g0.all isSp=true) (h : cutF f (g0++(txt t++(g++R))) a k = .ok l) :
  ∃ f' a' l',l.map Pt.bareT=t :: l'.map Pt.bareT∧cutF f' (g++R) a' (k + 1) = .ok l':=by
 cases f with
 | zero=>cases h
 | succ f =>
  have hb : blk false (g0++(txt t++(g++R)))=g0.length:=by rw [Pt.blk_sp g0 _ hg,hn.bl];omega
  have hd : (g0++(txt t++(g++R))).drop g0.length=txt t++(g++R):=by simp
  have hne : txt t++(g++R) ≠ []:=fun e=>hn.pos (List.append_eq_nil_iff.1 e).1
  rw [cutF,hb,hd,if_neg hne] at h
  by_cases h20 : k=20000
  ·rw [if_pos h20] at h;cases h
  rw [if_neg h20,hn.tk] at h
  have hd2 : (txt t++(g++R)).drop (txt t).length=g++R:=List.drop_left
  simp only [hd2] at h
  split at h
  ·cases h
  ·rename_i l' hl'
   injection h with h
   subst h
   exact ⟨f,_,l',rfl,hl'⟩
theorem scan_struct {s : Str} (h : (scanD ([116,121,112,101,32,83,32,115,116,114,117,99,116,32,123,32,102,32]++s)).e=0) : ∃ r,(scanD ([116,121,112,101,32,83,32,115,116,114,117,99,116,32,123,32,102,32]++s)).list.map Pt.bareT=wd [116,121,112,101] :: nm [83] :: wd [115,116,114,117,99,116] :: mk [123] :: nm [102] :: r:=by
 obtain ⟨-,hc⟩:=scanD_ok h
 have hv : ∀ t : Ps.Tk,TkV t → ∀ R,Nx t ([32]++R):=fun t ht R=>Pt.Nx.of ht (by decide) R
 have e : [116,121,112,101,32,83,32,115,116,114,117,99,116,32,123,32,102,32]++s=[]++(txt (wd [116,121,112,101])++([32]++(txt (nm [83])++([32]++(txt (wd [115,116,114,117,99,116])++([32]++(txt (mk [123])++([32]++(txt (nm [102])++([32]++s)))))))))):=rfl
 generalize scanD ([116,121,112,101,32,83,32,115,116,114,117,99,116,32,123,32,102,32]++s)=c at hc ⊢
 rw [e] at hc
 obtain ⟨f1,a1,l1,q1,hc⟩:=cut_pre (hv _ (Pt.v_wd (by decide)) _) rfl hc
 obtain ⟨f2,a2,l2,q2,hc⟩:=cut_pre (hv _ (Pt.v_nm (by decide)) _) (by decide) hc
 obtain ⟨f3,a3,l3,q3,hc⟩:=cut_pre (hv _ (Pt.v_wd (by decide)) _) (by decide) hc
 obtain ⟨f4,a4,l4,q4,hc⟩:=cut_pre (hv _ (Pt.v_mk (by decide)) _) (by decide) hc
 obtain ⟨f5,a5,l5,q5,hc⟩:=cut_pre (hv _ (Pt.v_nm (by decide)) _) (by decide) hc
 exact ⟨l5.map Pt.bareT,by rw [q1,q2,q3,q4,q5]⟩
theorem basic_in {n : Str} : (basicOf n=0 ∨ (n=[105,110,116]∧basicOf n=1) ∨ (n=[98,111,111,108]∧basicOf n=2) ∨ (n=[115,116,114,105,110,103]∧basicOf n=3)):=by
 by_cases h1 : n=[105,110,116]
 ·subst h1;exact .inr (.inl ⟨rfl,rfl⟩)
 by_cases h2 : n=[98,111,111,108]
 ·subst h2;exact .inr (.inr (.inl ⟨rfl,rfl⟩))
 by_cases h3 : n=[115,116,114,105,110,103]
 ·subst h3;exact .inr (.inr (.inr ⟨rfl,rfl⟩))
 left
 unfold basicOf
 rw [if_neg h1,if_neg h2,if_neg h3]
structure OfOk (b : Tree) : Prop where
 form : b.ofT.formed=true
 kind : b.ofT.kind ≠ 8
 back : nodeT b.ofT=b
 size : b.ofT.size=b.size
 deep : b.ofT.deep=b.deep
theorem of_node (b : Tree) : b.isType=true→OfOk b:=by
 induction b using Tree.ind with
 | h b ih =>
 intro hb
 have hc:=type_cases hb
 obtain ⟨k,n,u,ks⟩:=b
 simp only [Tree.kind,Tree.name,Tree.num,Tree.kids] at hc ih
 have hk : (∀ t ∈ ks,t.isType=true)→(ofL ks).map nodeT=ks∧sizeL (ofL ks)=sizeL ks∧deepL (ofL ks)=deepL ks∧formedL (ofL ks)=true:=fun h=>by
  rw [ofL_eq]
  refine ⟨?_,sizeL_map fun t ht=>(ih t ht (h t ht)).size,deepL_map fun t ht=>(ih t ht (h t ht)).deep, ?_⟩
  ·rw [List.map_map]
   have : ks.map (nodeT ∘ Tree.ofT)=ks.map id:=List.map_congr_left fun t ht=>(ih t ht (h t ht)).back
   rw [this,List.map_id]
  ·rw [formedL_eq,List.all_eq_true]
   intro x hx
   obtain ⟨t,ht,rfl⟩:=List.mem_map.1 hx
   have:=ih t ht (h t ht)
   rw [this.form,decide_eq_false this.kind];rfl
 rcases hc with ⟨rfl,rfl,hn,rfl⟩ | ⟨h11,rfl,rfl,hl,ha⟩ | ⟨rfl,rfl,h0,h1,ha⟩
 ·have e : (Tree.mk 10 n 0 []).ofT=if basicOf n=0 then .mk 4 n 0 [] else .mk (basicOf n) [] 0 []:=rfl
  rcases basic_in (n:=n) with h | ⟨rfl,h⟩ | ⟨rfl,h⟩ | ⟨rfl,h⟩
  ·rw [if_pos h] at e
   refine ⟨?_,by rw [e];show (4 : Int) ≠ 8;decide,by rw [e];rfl,by rw [e];rfl,by rw [e];rfl⟩
   rw [e,formed_eq]
   unfold headB kindB
   simp [Tree.kind,Tree.num,Tree.name,Tree.kids,formedL,hn,h]
  ·exact ⟨by decide +kernel,by decide +kernel,rfl,rfl,rfl⟩
  ·exact ⟨by decide +kernel,by decide +kernel,rfl,rfl,rfl⟩
  ·exact ⟨by decide +kernel,by decide +kernel,rfl,rfl,rfl⟩
 ·obtain ⟨q1,q2,q3,q4⟩:=hk ha
  obtain ⟨x,rfl⟩:=List.length_eq_one_iff.1 hl
  have hx:=ih x (by simp) (ha x (by simp))
  rcases h11 with rfl | rfl
  ·have e : (Tree.mk 11 [] 0 [x]).ofT = .mk 5 [] 0 [x.ofT]:=rfl
   refine ⟨?_,by rw [e];show (5 : Int) ≠ 8;decide, ?_, ?_, ?_⟩
   ·rw [e,formed_eq]
    show (formedL (ofL [x]) && true)=true
    rw [q4];rfl
   ·rw [e]
    show Tree.mk 11 [] 0 [nodeT x.ofT]=_
    rw [hx.back]
   ·rw [e];simp only [Tree.size,sizeL,hx.size]
   ·rw [e];simp only [Tree.deep,deepL,hx.deep]
  ·have e : (Tree.mk 12 [] 0 [x]).ofT = .mk 6 [] 0 [x.ofT]:=rfl
   refine ⟨?_,by rw [e];show (6 : Int) ≠ 8;decide, ?_, ?_, ?_⟩
   ·rw [e,formed_eq]
    show (formedL (ofL [x]) && true)=true
    rw [q4];rfl
   ·rw [e]
    show Tree.mk 12 [] 0 [nodeT x.ofT]=_
    rw [hx.back]
   ·rw [e];simp only [Tree.size,sizeL,hx.size]
   ·rw [e];simp only [Tree.deep,deepL,hx.deep]
 ·obtain ⟨q1,q2,q3,q4⟩:=hk ha
  have e : (Tree.mk 13 [] u ks).ofT = .mk 7 [] u (ofL ks):=rfl
  have hl : (ofL ks).length=ks.length:=by rw [ofL_eq,List.length_map]
  refine ⟨?_,by rw [e];show (7 : Int) ≠ 8;decide, ?_, ?_, ?_⟩
  ·rw [e,formed_eq]
   unfold headB kindB
   simp only [Tree.kind,Tree.num,Tree.name,Tree.kids,q4,hl]
   simp [h0,h1]
  ·rw [e]
   show Tree.mk 13 [] u (nodeL (ofL ks))=_
   rw [nodeL_eq,q1]
  ·rw [e];simp only [Tree.size,q2]
  ·rw [e];simp only [Tree.deep,q3]
end Go.Sep


/- TqOf -/
set_option linter.unusedVariables false
set_option linter.unusedSimpArgs false
namespace Go.Sep
open Go.Proofs
attribute [local irreducible] TC TO OT TCallX TCall DO DOt thenQ blockQ retQ At
set_option maxHeartbeats 400000 in
theorem basic_law (m : Mem) (L : List Item) (s : Str) : TCall Tryz.prog 54 ⟨[strV s]⟩ m L (Ret (.int .i64 (basicOf s)) m L):=by
 unfold TCall
 refine TCallX.enter Tryz.func54 rfl 10 rfl ?_
 refine uA ?_
 refine TC.condP rfl (fun h1 => ?_) (fun h1 => ?_)
 ·refine uA ?_
  refine retQ_ret rfl uS ⟨rfl,rfl, ?_⟩
  rw [basicOf,if_pos h1]
 refine uA ?_
 refine TC.condP rfl (fun h2 => ?_) (fun h2 => ?_)
 ·refine uA ?_
  refine retQ_ret rfl uS ⟨rfl,rfl, ?_⟩
  rw [basicOf,if_neg h1,if_pos h2]
 refine uA ?_
 refine TC.condP rfl (fun h3 => ?_) (fun h3 => ?_)
 ·refine uA ?_
  refine retQ_ret rfl uS ⟨rfl,rfl, ?_⟩
  rw [basicOf,if_neg h1,if_neg h2,if_pos h3]
 ·refine uA ?_
  refine retQ_ret rfl uS ⟨rfl,rfl, ?_⟩
  rw [basicOf,if_neg h1,if_neg h2,if_neg h3]
@[reducible] def cellI (b : Nat) (z : Int) : Item := .cells b 0 [.int .i64 z]
theorem set_get {L : List Item} {i : Nat} {x : Item} (h : L[i]? = some x) (y : Item) : (L.set i y)[i]? = some y:=by
 rw [List.getElem?_set_self (List.getElem?_eq_some_iff.1 h).1]
def Low (m : Mem) (L : List Item) (i bl : Nat) (r : Bool) (z' : Int) : Value→Mem→List Item→Prop:=fun v m' L'=>m=m' ∧ v = .bool r ∧ ∃ y : Int,L' = L.set i (cellI bl y)∧(r=true→y=z')
set_option maxHeartbeats 1600000 in
theorem small_law (a : Tree) : ∀ (m : Mem) (L : List Item) (h : HTree) (hr : TreeRep m h a) (room z : Int) (i bl : Nat) (hi : L[i]? = some (cellI bl z)) (hz : 0 ≤ z∧z ≤ 20000) (hroom : 0 ≤ room∧room ≤ 1000),
  TCall Tryz.prog 33 ⟨[treeV h, .int .i64 room, .pointer (some ⟨bl,0,none⟩)]⟩ m L (Low m L i bl (decide ((a.size : Int) ≤ z∧(a.deep : Int) ≤ room)) (z - a.size)):=by
 induction a using Tree.ind with
 | h a ih =>
 intro m L h hr room z i bl hi hz hroom
 obtain ⟨h1,h2,h3,h4⟩:=hr
 have hl:=h4.len
 have hsm:=h4.small rfl
 have hsz:=size_kids a
 have hdp:=deep_kids a
 unfold TCall
 refine TCallX.enter Tryz.func33 rfl 36 rfl ?_
 refine uA ?_
 refine TO.step rfl (OT.box rfl rfl rfl rfl rfl (fun b => ?_))
 refine uA ?_
 refine TO.step rfl (OT.loadL0 tab (i + 1) rfl rfl rfl rfl hi rfl ?_)
 refine TO.step rfl (OT.arith (r':=z - 1) rfl rfl rfl rfl rfl rfl rfl (by omega) ?_)
 refine uA ?_
 refine TO.step rfl (OT.storeL0 tab (i + 1) rfl rfl rfl rfl rfl rfl hi rfl ?_)
 have hset:=fun y=>set_get hi (cellI bl y)
 refine uA ?_
 refine TO.step rfl (OT.loadL0 tab (i + 1) rfl rfl rfl rfl (hset _) rfl ?_)
 have bad : ∀ {y : Int}, ¬ ((a.size : Int) ≤ z∧(a.deep : Int) ≤ room)→Low m L i bl (decide ((a.size : Int) ≤ z∧(a.deep : Int) ≤ room)) (z - a.size) (.bool false) m (L.set i (cellI bl y)):=fun {y} hn=>⟨rfl,by rw [decide_eq_false hn],y,rfl,fun hd=>absurd (of_decide_eq_true hd) hn⟩
 refine uA ?_
 (refine TO.splitP rfl rfl (fun h5 => ?_) (fun h5 => ?_))
 ·refine uN ?_
  refine TC.cond_t rfl ?_
  refine uN ?_
  exact retQ_ret rfl uS (bad (by omega))
 refine uN ?_
 refine TC.condP rfl (fun h6 => ?_) (fun h6 => ?_)
 ·refine uN ?_
  exact retQ_ret rfl uS (bad (by omega))
 refine uL ?_
 refine TC.loopK (ι:=Nat × Int) [1,2,23,24] rfl (fun x=>[(25, .int .i64 (x.1 : Int))]) (fun _=>m) (fun x => .cells b 0 (treeC h) :: L.set i (cellI bl x.2)) (fun x=>x.1 ≤ a.kids.length∧x.2=z - 1 - sizeL (a.kids.take x.1)∧0 ≤ x.2∧(deepL (a.kids.take x.1) : Int) ≤ room - 1) (fun x=>a.kids.length - x.1) (0,z - 1) uH rfl uS ⟨Nat.zero_le _,by simp [sizeL],by simp only;omega,by simp [deepL];omega⟩ ?_
 rintro ⟨k,y⟩ ⟨hk,hy,hy0,hd⟩
 simp only at hk hy hy0 hd ⊢
 refine uA ?_
 refine TC.condP rfl (fun h => ?_) (fun h => ?_)
 ·have hlt : k < a.kids.length:=by omega
  have hx : a.kids[k]? = some a.kids[k]:=by simp [hlt]
  have hmem:=List.getElem_mem hlt
  have e1:=sizeL_next a.kids k hlt
  have e2:=deepL_next a.kids k hlt
  have e3:=sizeL_take a.kids (k + 1)
  have e4:=deepL_take a.kids (k + 1)
  refine uA ?_
  refine TO.step rfl (OT.index tab rTree k h4 rfl rfl rfl rfl rfl (by first | rfl | omega | (simp only;omega)) rfl hx ?_)
  rintro b' i' h' hrd hA
  (refine TO.step rfl (OT.loadA0 tab hA rfl rfl rfl rfl rfl ?_))
  refine uA ?_
  refine TO.step rfl (OT.alloc tab rfl rfl rfl rfl (fun b2 => ?_))
  refine uA ?_
  refine uT ?_
  refine uL ?_
  refine TO.step rfl (OT.arith (r':=room - 1) rfl rfl rfl rfl rfl rfl rfl (by omega) ?_)
  refine uA ?_
  refine TO.step rfl (OT.call rfl rfl rfl rfl rfl rfl goes33 ((ih _ hmem _ _ h' (rTree_iff.1 hrd) (room - 1) y (i + 2) bl (hset y) (by omega) (by omega)).x ?_));
  rintro _ _ L3 ⟨rfl,rfl,y',hL,hy'⟩
  have hL2 : ∀ (x1 x2 : Item),(x1 :: x2 :: L.set i (cellI bl y)).set (i + 2) (cellI bl y')=x1 :: x2 :: L.set i (cellI bl y'):=fun x1 x2=>by simp [List.set_set]
  replace hL:=hL.trans (hL2 (.cells b2 0 (treeC h')) _)
  subst hL
  refine uA ?_
  refine TC.condN rfl (fun h7 => ?_) (fun h7 => ?_)
  ·refine uA ?_
   exact retQ_ret rfl uS (bad (by omega))
  ·refine uA ?_
   refine TO.step rfl (OT.arith (r':=((k + 1 : Nat) : Int)) rfl rfl rfl rfl rfl rfl rfl (by omega) ?_)
   refine uA ?_
   have:=hy' (decide_eq_true h7)
   exact ⟨(k + 1,y'),uH,uH,rfl,rfl,uS,⟨by simp only;omega,by simp only;omega,by simp only;omega,by simp only;omega⟩,by simp only;omega⟩
 ·refine uA ?_
  refine retQ_ret rfl uS ⟨rfl, ?_,y,rfl, ?_⟩
  ·rw [List.take_of_length_le (by omega)] at hy hd
   rw [decide_eq_true]
   omega
  ·intro _
   rw [List.take_of_length_le (by omega)] at hy
   omega
def MadeT (m : Mem) (L : List Item) (x : Tree) : Value→Mem→List Item→Prop:=Made m L fun r m' => ∃ h : HTree,r=treeV h∧TreeRep m' h x
theorem TreeRep.leaf (m : Mem) (k : Int) (n : Str) (u : Int) : TreeRep m ⟨k,n,u,⟨none,0,0⟩⟩ (.mk k n u []):=⟨rfl,rfl,rfl,SlRep.nil _ _⟩
theorem rot3 {α : Type} {a b c : α} {L : List α} : (a :: b :: c :: L).Perm (b :: c :: a :: L):=(List.Perm.swap b a _).trans ((List.Perm.swap c a _).cons b)
set_option maxHeartbeats 3200000 in
theorem ofN_law (a : Tree) : ∀ (hn : okNode a=true) (m : Mem) (L : List Item) (h : HTree) (hr : TreeRep m h a) (hB : a.size ≤ 1048576),TCall Tryz.prog 36 ⟨[treeV h]⟩ m L (MadeT m L a.ofT):=by
 induction a using Tree.ind with
 | h a ih =>
 intro hn m L h hr hB
 have hr':=hr
 obtain ⟨h1,h2,h3,h4⟩:=hr
 have hl:=h4.len
 have hsm:=h4.small rfl
 have hbl:=Pt.len_size a
 rw [ofT_eq]
 unfold TCall
 refine TCallX.enter Tryz.func36 rfl 55 rfl ?_
 rcases okNode_facts hn with ⟨h10,hu,hks⟩ | ⟨h11,hu,hkn⟩ | ⟨h13,hkn⟩ | ⟨h8,k,hks,hkn⟩
 ·rw [if_pos h10]
  obtain ⟨k,n,u,s⟩:=h
  obtain rfl : k=10:=h1.trans h10
  refine uA ?_
  refine TO.step rfl (OT.box rfl rfl rfl rfl rfl (fun b => ?_))
  refine uA ?_
  refine TO.step rfl (OT.alloc tab rfl rfl rfl rfl (fun b2 => ?_))
  refine uL ?_
  refine TO.step rfl (OT.alloc tab rfl rfl rfl rfl (fun b3 => ?_))
  refine uA ?_
  refine uT ?_
  refine uL ?_
  refine TO.step rfl (OT.call rfl rfl rfl rfl rfl rfl goes54 ((basic_law _ _ n).x ?_));
  rintro _ _ _ ⟨rfl,rfl,rfl⟩
  refine uA ?_
  refine uT ?_
  refine uL ?_
  refine TC.condP rfl (fun h0 => ?_) (fun h0 => ?_)
  ·simp only at h2 h3
   rw [← h2,if_pos h0]
   refine TC.draw [] mixed 6 rfl [_,_] (_::L) rot3 ?_
   refine DO.pure tab uC (by kernel_rfl) [0,2] (by kernel_rfl) rfl ?_
   refine DO.fork 1 [3] (by kernel_rfl) ⟨⟨_,rfl,rfl,rfl, ?_⟩,⟨_,rfl,rfl,rfl, ?_⟩,trivial⟩
   ·refine OT.loadL tab 1 rfl rfl rfl rfl rfl rfl ?_
    refine ⟨Mem.le_refl _,_,List.Perm.refl _, ?_⟩
    refine DO.run 3 rfl rfl (by kernel_rfl) rfl ?_
    refine OT.storeL0 tab 2 rfl rfl rfl rfl rfl rfl rfl rfl ?_
    refine ⟨Mem.le_refl _,_,List.Perm.refl _, ?_⟩
    refine DO.pure tab (by repeat (first|exact Calm.ret|refine Calm.then ?_|refine Calm.block ?_)) (by kernel_rfl) [4] (by kernel_rfl) rfl ?_
    refine DO.run 5 rfl rfl (by kernel_rfl) rfl ?_
    refine OT.storeL tab 2 rfl rfl rfl rfl rfl rfl rfl rfl ?_
    refine ⟨Mem.le_refl _,_,List.Perm.refl _, ?_⟩
    refine DO.nil (by kernel_rfl) ?_
    refine thenQ_n ?_
    refine uL ?_
    refine uT ?_
    refine uA ?_
    exact retQ_ret_c1 tab 0 rfl rfl rfl rfl uS ⟨Mem.le_refl _,rfl,⟨4,n,u,⟨none,0,0⟩⟩,rfl,by rw [h3,hu];exact TreeRep.leaf _ _ _ _⟩
   ·refine OT.storeL0 tab 2 rfl rfl rfl rfl rfl rfl rfl rfl ?_
    refine ⟨Mem.le_refl _,_,List.Perm.refl _, ?_⟩
    refine DO.run 1 rfl rfl (by kernel_rfl) rfl ?_
    refine OT.loadL tab 1 rfl rfl rfl rfl rfl rfl ?_
    refine ⟨Mem.le_refl _,_,List.Perm.refl _, ?_⟩
    refine DO.pure tab (by repeat (first|exact Calm.ret|refine Calm.then ?_|refine Calm.block ?_)) (by kernel_rfl) [4] (by kernel_rfl) rfl ?_
    refine DO.run 5 rfl rfl (by kernel_rfl) rfl ?_
    refine OT.storeL tab 2 rfl rfl rfl rfl rfl rfl rfl rfl ?_
    refine ⟨Mem.le_refl _,_,List.Perm.refl _, ?_⟩
    refine DO.nil (by kernel_rfl) ?_
    refine thenQ_n ?_
    refine uL ?_
    refine uT ?_
    refine uA ?_
    exact retQ_ret_c1 tab 0 rfl rfl rfl rfl uS ⟨Mem.le_refl _,rfl,⟨4,n,u,⟨none,0,0⟩⟩,rfl,by rw [h3,hu];exact TreeRep.leaf _ _ _ _⟩
  ·rw [if_neg (by rw [← h2];exact h0)]
   refine uL ?_
   refine uT ?_
   refine uA ?_
   refine retQ_ret_c1 tab 1 rfl rfl rfl rfl uS ⟨Mem.le_refl _,rfl,⟨basicOf n,[],u,⟨none,0,0⟩⟩,rfl, ?_⟩
   simp only at h2 h3
   rw [← h2,h3,hu]
   exact TreeRep.leaf _ _ _ _
 ·have h10 : ¬ a.kind=10:=by omega
  have h8 : ¬ a.kind=8:=by omega
  rw [if_neg h10,if_neg h8]
  have h12 : h.kind=11 ∨ h.kind=12:=by rw [h1];exact h11
  obtain ⟨k,n,u,s⟩:=h
  rcases h12 with h12 | h12
  ·simp only at h12
   subst h12
   rw [if_pos (show a.kind=11 from h1.symm)]
   refine uA ?_
   refine TO.step rfl (OT.box rfl rfl rfl rfl rfl (fun b => ?_))
   refine uA ?_
   refine TO.step rfl (OT.alloc tab rfl rfl rfl rfl (fun b2 => ?_))
   refine uL ?_
   refine TO.step rfl (OT.alloc tab rfl rfl rfl rfl (fun b3 => ?_))
   refine uA ?_
   refine uT ?_
   refine uL ?_
   refine uT ?_
   refine uL ?_
   refine TC.grow0 (size:=4) ?_
   refine TC.loopK (ι:=Grow) [1,2,3,40,41] rfl (fun g=>[(42, .int .i64 (g.k : Int))]) (fun g=>g.m) (fun g=>tok g.s 4 :: .cells b3 0 [.int .i64 5,strV [], .int .i64 u,g.s.v] :: .cells b2 0 (treeC ⟨0,[],0,⟨none,0,0⟩⟩) :: .cells b 0 (treeC ⟨11,n,u,s⟩) :: L) (fun g=>g.k ≤ a.kids.length∧SlRep rTree g.m g.s ((a.kids.take g.k).map Tree.ofT)∧Own g.s∧m ≤ g.m) (fun g=>a.kids.length - g.k) ⟨0,⟨none,0,0⟩,m⟩ uH rfl uS ⟨Nat.zero_le _,SlRep.nil _ _,Own.nil,Mem.le_refl _⟩ ?_
   rintro ⟨k,t,m1⟩ ⟨hk,ht,hown,hm1⟩
   simp only at hk ht hown hm1 ⊢
   have h41:=h4.mono hm1
   simp only at hl hsm
   refine uA ?_
   refine TC.condP rfl (fun hlt' => ?_) (fun hlt' => ?_)
   ·have hlt : k < a.kids.length:=by omega
    have hx : a.kids[k]? = some a.kids[k]:=by simp [hlt]
    have hmem:=List.getElem_mem hlt
    refine uA ?_
    refine TO.step rfl (OT.index tab rTree k h41 rfl rfl rfl rfl rfl (by first | rfl | omega | (simp only;omega)) rfl hx ?_)
    rintro b' i' h' hrd hA
    (refine TO.step rfl (OT.loadA0 tab hA rfl rfl rfl rfl rfl ?_))
    refine uA ?_
    refine TO.step rfl (OT.alloc tab rfl rfl rfl rfl (fun b5 => ?_))
    refine uA ?_
    refine uT ?_
    refine uA ?_
    generalize hcx : a.kids[k]=c at *
    refine TC.perm (List.Perm.swap _ _ _) ?_
    refine TC.draw [7] mixed 8 rfl (_::_::_::_::L) [tok t 4] perm_last ?_
    refine DO.pure tab uC (by kernel_rfl) [0] (by kernel_rfl) rfl ?_
    (refine DO.loadL tab 1 1 uC (by kernel_rfl) (by kernel_rfl) rfl rfl rfl rfl rfl rfl rfl rfl ?_)
    (refine DO.loadL (k:=0) tab 2 0 uC (by kernel_rfl) (by kernel_rfl) rfl rfl rfl rfl rfl rfl rfl rfl ?_)
    refine DO.run 3 rfl rfl (by kernel_rfl) rfl (OT.call rfl rfl rfl rfl rfl rfl goes36 ((ih c hmem (hkn c hmem) _ _ h' (rTree_iff.1 hrd) (Nat.le_trans (Nat.le_of_lt (Pt.kid_size hmem)) hB)).x ?_))
    rintro _ m2 _ ⟨hm2,rfl,ht2,rfl,hrt⟩;refine ⟨hm2,_,List.Perm.refl _, ?_⟩
    refine DO.run 4 rfl rfl (by kernel_rfl) rfl ?_
    refine OT.lit tab rfl rfl rfl rfl (fun bl => ?_);refine ⟨Mem.le_refl _,_,perm_mid, ?_⟩
    refine DO.run 5 rfl rfl (by kernel_rfl) rfl ?_
    refine OT.perm List.perm_append_comm (OT.append1 tab rTree 0 (hd':=ht2) (a:=c.ofT) (ht.mono hm2) hown (rTree_iff.2 hrt) rfl rfl rfl rfl rfl rfl rfl (by simp only [rTree,mkR,List.length_map,List.length_take];omega) (fun t' m3 hm3 ht' hown' => ?_));refine ⟨hm3,_,perm_last, ?_⟩
    refine DO.pure tab uC (by kernel_rfl) [6] (by kernel_rfl) rfl ?_
    refine DO.tail ?_
    refine DOt.run 7 rfl rfl (by kernel_rfl) rfl ?_
    refine OT.storeL tab 1 rfl rfl rfl rfl rfl rfl rfl rfl ?_
    refine DOt.nil (by kernel_rfl) ?_
    rotate_left 1
    refine uA ?_
    refine TO.perm perm_f4 ?_
    refine TO.step rfl (OT.arith (r':=((k + 1 : Nat) : Int)) rfl rfl rfl rfl rfl rfl rfl (by omega) ?_)
    refine uA ?_
    refine ⟨⟨k + 1,t',m3⟩,uH,uH,rfl,rfl,uS,⟨by simp only;omega, ?_,hown',Mem.le_trans hm1 (Mem.le_trans hm2 hm3)⟩,by simp only;omega⟩
    simp only
    rw [List.take_succ_eq_append_getElem hlt,hcx,List.map_append]
    exact ht'
   ·refine uL ?_
    refine uT ?_
    refine uA ?_
    refine retQ_ret_c1 tab 2 rfl rfl rfl rfl uS ⟨hm1,rfl,⟨_,[],u,t⟩,rfl,rfl,rfl,h3, ?_⟩
    rw [List.take_of_length_le (by omega)] at ht
    exact ht
  ·simp only at h12
   subst h12
   rw [if_neg (show ¬ a.kind=11 from fun e=>by rw [e] at h1;cases h1),if_pos (show a.kind=12 from h1.symm)]
   refine uA ?_
   refine TO.step rfl (OT.box rfl rfl rfl rfl rfl (fun b => ?_))
   refine uA ?_
   refine TO.step rfl (OT.alloc tab rfl rfl rfl rfl (fun b2 => ?_))
   refine uL ?_
   refine TO.step rfl (OT.alloc tab rfl rfl rfl rfl (fun b3 => ?_))
   refine uA ?_
   refine uT ?_
   refine uL ?_
   refine uT ?_
   refine uL ?_
   refine TC.grow0 (size:=4) ?_
   refine TC.loopK (ι:=Grow) [1,2,3,40,41] rfl (fun g=>[(42, .int .i64 (g.k : Int))]) (fun g=>g.m) (fun g=>tok g.s 4 :: .cells b3 0 [.int .i64 6,strV [], .int .i64 u,g.s.v] :: .cells b2 0 (treeC ⟨0,[],0,⟨none,0,0⟩⟩) :: .cells b 0 (treeC ⟨12,n,u,s⟩) :: L) (fun g=>g.k ≤ a.kids.length∧SlRep rTree g.m g.s ((a.kids.take g.k).map Tree.ofT)∧Own g.s∧m ≤ g.m) (fun g=>a.kids.length - g.k) ⟨0,⟨none,0,0⟩,m⟩ uH rfl uS ⟨Nat.zero_le _,SlRep.nil _ _,Own.nil,Mem.le_refl _⟩ ?_
   rintro ⟨k,t,m1⟩ ⟨hk,ht,hown,hm1⟩
   simp only at hk ht hown hm1 ⊢
   have h41:=h4.mono hm1
   simp only at hl hsm
   refine uA ?_
   refine TC.condP rfl (fun hlt' => ?_) (fun hlt' => ?_)
   ·have hlt : k < a.kids.length:=by omega
    have hx : a.kids[k]? = some a.kids[k]:=by simp [hlt]
    have hmem:=List.getElem_mem hlt
    refine uA ?_
    refine TO.step rfl (OT.index tab rTree k h41 rfl rfl rfl rfl rfl (by first | rfl | omega | (simp only;omega)) rfl hx ?_)
    rintro b' i' h' hrd hA
    (refine TO.step rfl (OT.loadA0 tab hA rfl rfl rfl rfl rfl ?_))
    refine uA ?_
    refine TO.step rfl (OT.alloc tab rfl rfl rfl rfl (fun b5 => ?_))
    refine uA ?_
    refine uT ?_
    refine uA ?_
    generalize hcx : a.kids[k]=c at *
    refine TC.perm (List.Perm.swap _ _ _) ?_
    refine TC.draw [7] mixed 8 rfl (_::_::_::_::L) [tok t 4] perm_last ?_
    refine DO.pure tab uC (by kernel_rfl) [0] (by kernel_rfl) rfl ?_
    (refine DO.loadL tab 1 1 uC (by kernel_rfl) (by kernel_rfl) rfl rfl rfl rfl rfl rfl rfl rfl ?_)
    (refine DO.loadL (k:=0) tab 2 0 uC (by kernel_rfl) (by kernel_rfl) rfl rfl rfl rfl rfl rfl rfl rfl ?_)
    refine DO.run 3 rfl rfl (by kernel_rfl) rfl (OT.call rfl rfl rfl rfl rfl rfl goes36 ((ih c hmem (hkn c hmem) _ _ h' (rTree_iff.1 hrd) (Nat.le_trans (Nat.le_of_lt (Pt.kid_size hmem)) hB)).x ?_))
    rintro _ m2 _ ⟨hm2,rfl,ht2,rfl,hrt⟩;refine ⟨hm2,_,List.Perm.refl _, ?_⟩
    refine DO.run 4 rfl rfl (by kernel_rfl) rfl ?_
    refine OT.lit tab rfl rfl rfl rfl (fun bl => ?_);refine ⟨Mem.le_refl _,_,perm_mid, ?_⟩
    refine DO.run 5 rfl rfl (by kernel_rfl) rfl ?_
    refine OT.perm List.perm_append_comm (OT.append1 tab rTree 0 (hd':=ht2) (a:=c.ofT) (ht.mono hm2) hown (rTree_iff.2 hrt) rfl rfl rfl rfl rfl rfl rfl (by simp only [rTree,mkR,List.length_map,List.length_take];omega) (fun t' m3 hm3 ht' hown' => ?_));refine ⟨hm3,_,perm_last, ?_⟩
    refine DO.pure tab uC (by kernel_rfl) [6] (by kernel_rfl) rfl ?_
    refine DO.tail ?_
    refine DOt.run 7 rfl rfl (by kernel_rfl) rfl ?_
    refine OT.storeL tab 1 rfl rfl rfl rfl rfl rfl rfl rfl ?_
    refine DOt.nil (by kernel_rfl) ?_
    rotate_left 1
    refine uA ?_
    refine TO.perm perm_f4 ?_
    refine TO.step rfl (OT.arith (r':=((k + 1 : Nat) : Int)) rfl rfl rfl rfl rfl rfl rfl (by omega) ?_)
    refine uA ?_
    refine ⟨⟨k + 1,t',m3⟩,uH,uH,rfl,rfl,uS,⟨by simp only;omega, ?_,hown',Mem.le_trans hm1 (Mem.le_trans hm2 hm3)⟩,by simp only;omega⟩
    simp only
    rw [List.take_succ_eq_append_getElem hlt,hcx,List.map_append]
    exact ht'
   ·refine uL ?_
    refine uT ?_
    refine uA ?_
    refine retQ_ret_c1 tab 2 rfl rfl rfl rfl uS ⟨hm1,rfl,⟨_,[],u,t⟩,rfl,rfl,rfl,h3, ?_⟩
    rw [List.take_of_length_le (by omega)] at ht
    exact ht
 ·have h10 : ¬ a.kind=10:=by omega
  have h8 : ¬ a.kind=8:=by omega
  rw [if_neg h10,if_neg h8,if_neg (by omega),if_neg (by omega)]
  have h12 : h.kind=13 ∨ h.kind=7:=by rw [h1];exact h13
  obtain ⟨k,n,u,s⟩:=h
  rcases h12 with h12 | h12
  ·simp only at h12
   subst h12
   refine uA ?_
   refine TO.step rfl (OT.box rfl rfl rfl rfl rfl (fun b => ?_))
   refine uA ?_
   refine TO.step rfl (OT.alloc tab rfl rfl rfl rfl (fun b2 => ?_))
   refine uL ?_
   refine TO.step rfl (OT.alloc tab rfl rfl rfl rfl (fun b3 => ?_))
   refine uA ?_
   refine uT ?_
   refine uL ?_
   refine uT ?_
   refine uL ?_
   refine TC.grow0 (size:=4) ?_
   refine TC.loopK (ι:=Grow) [1,2,3,40,41] rfl (fun g=>[(42, .int .i64 (g.k : Int))]) (fun g=>g.m) (fun g=>tok g.s 4 :: .cells b3 0 [.int .i64 7,strV [], .int .i64 u,g.s.v] :: .cells b2 0 (treeC ⟨0,[],0,⟨none,0,0⟩⟩) :: .cells b 0 (treeC ⟨13,n,u,s⟩) :: L) (fun g=>g.k ≤ a.kids.length∧SlRep rTree g.m g.s ((a.kids.take g.k).map Tree.ofT)∧Own g.s∧m ≤ g.m) (fun g=>a.kids.length - g.k) ⟨0,⟨none,0,0⟩,m⟩ uH rfl uS ⟨Nat.zero_le _,SlRep.nil _ _,Own.nil,Mem.le_refl _⟩ ?_
   rintro ⟨k,t,m1⟩ ⟨hk,ht,hown,hm1⟩
   simp only at hk ht hown hm1 ⊢
   have h41:=h4.mono hm1
   simp only at hl hsm
   refine uA ?_
   refine TC.condP rfl (fun hlt' => ?_) (fun hlt' => ?_)
   ·have hlt : k < a.kids.length:=by omega
    have hx : a.kids[k]? = some a.kids[k]:=by simp [hlt]
    have hmem:=List.getElem_mem hlt
    refine uA ?_
    refine TO.step rfl (OT.index tab rTree k h41 rfl rfl rfl rfl rfl (by first | rfl | omega | (simp only;omega)) rfl hx ?_)
    rintro b' i' h' hrd hA
    (refine TO.step rfl (OT.loadA0 tab hA rfl rfl rfl rfl rfl ?_))
    refine uA ?_
    refine TO.step rfl (OT.alloc tab rfl rfl rfl rfl (fun b5 => ?_))
    refine uA ?_
    refine uT ?_
    refine uA ?_
    generalize hcx : a.kids[k]=c at *
    refine TC.perm (List.Perm.swap _ _ _) ?_
    refine TC.draw [7] mixed 8 rfl (_::_::_::_::L) [tok t 4] perm_last ?_
    refine DO.pure tab uC (by kernel_rfl) [0] (by kernel_rfl) rfl ?_
    (refine DO.loadL tab 1 1 uC (by kernel_rfl) (by kernel_rfl) rfl rfl rfl rfl rfl rfl rfl rfl ?_)
    (refine DO.loadL (k:=0) tab 2 0 uC (by kernel_rfl) (by kernel_rfl) rfl rfl rfl rfl rfl rfl rfl rfl ?_)
    refine DO.run 3 rfl rfl (by kernel_rfl) rfl (OT.call rfl rfl rfl rfl rfl rfl goes36 ((ih c hmem (hkn c hmem) _ _ h' (rTree_iff.1 hrd) (Nat.le_trans (Nat.le_of_lt (Pt.kid_size hmem)) hB)).x ?_))
    rintro _ m2 _ ⟨hm2,rfl,ht2,rfl,hrt⟩;refine ⟨hm2,_,List.Perm.refl _, ?_⟩
    refine DO.run 4 rfl rfl (by kernel_rfl) rfl ?_
    refine OT.lit tab rfl rfl rfl rfl (fun bl => ?_);refine ⟨Mem.le_refl _,_,perm_mid, ?_⟩
    refine DO.run 5 rfl rfl (by kernel_rfl) rfl ?_
    refine OT.perm List.perm_append_comm (OT.append1 tab rTree 0 (hd':=ht2) (a:=c.ofT) (ht.mono hm2) hown (rTree_iff.2 hrt) rfl rfl rfl rfl rfl rfl rfl (by simp only [rTree,mkR,List.length_map,List.length_take];omega) (fun t' m3 hm3 ht' hown' => ?_));refine ⟨hm3,_,perm_last, ?_⟩
    refine DO.pure tab uC (by kernel_rfl) [6] (by kernel_rfl) rfl ?_
    refine DO.tail ?_
    refine DOt.run 7 rfl rfl (by kernel_rfl) rfl ?_
    refine OT.storeL tab 1 rfl rfl rfl rfl rfl rfl rfl rfl ?_
    refine DOt.nil (by kernel_rfl) ?_
    rotate_left 1
    refine uA ?_
    refine TO.perm perm_f4 ?_
    refine TO.step rfl (OT.arith (r':=((k + 1 : Nat) : Int)) rfl rfl rfl rfl rfl rfl rfl (by omega) ?_)
    refine uA ?_
    refine ⟨⟨k + 1,t',m3⟩,uH,uH,rfl,rfl,uS,⟨by simp only;omega, ?_,hown',Mem.le_trans hm1 (Mem.le_trans hm2 hm3)⟩,by simp only;omega⟩
    simp only
    rw [List.take_succ_eq_append_getElem hlt,hcx,List.map_append]
    exact ht'
   ·refine uL ?_
    refine uT ?_
    refine uA ?_
    refine retQ_ret_c1 tab 2 rfl rfl rfl rfl uS ⟨hm1,rfl,⟨_,[],u,t⟩,rfl,rfl,rfl,h3, ?_⟩
    rw [List.take_of_length_le (by omega)] at ht
    exact ht
  ·simp only at h12
   subst h12
   refine uA ?_
   refine TO.step rfl (OT.box rfl rfl rfl rfl rfl (fun b => ?_))
   refine uA ?_
   refine TO.step rfl (OT.alloc tab rfl rfl rfl rfl (fun b2 => ?_))
   refine uL ?_
   refine TO.step rfl (OT.alloc tab rfl rfl rfl rfl (fun b3 => ?_))
   refine uA ?_
   refine uT ?_
   refine uL ?_
   refine uT ?_
   refine uL ?_
   refine TC.grow0 (size:=4) ?_
   refine TC.loopK (ι:=Grow) [1,2,3,40,41] rfl (fun g=>[(42, .int .i64 (g.k : Int))]) (fun g=>g.m) (fun g=>tok g.s 4 :: .cells b3 0 [.int .i64 7,strV [], .int .i64 u,g.s.v] :: .cells b2 0 (treeC ⟨0,[],0,⟨none,0,0⟩⟩) :: .cells b 0 (treeC ⟨7,n,u,s⟩) :: L) (fun g=>g.k ≤ a.kids.length∧SlRep rTree g.m g.s ((a.kids.take g.k).map Tree.ofT)∧Own g.s∧m ≤ g.m) (fun g=>a.kids.length - g.k) ⟨0,⟨none,0,0⟩,m⟩ uH rfl uS ⟨Nat.zero_le _,SlRep.nil _ _,Own.nil,Mem.le_refl _⟩ ?_
   rintro ⟨k,t,m1⟩ ⟨hk,ht,hown,hm1⟩
   simp only at hk ht hown hm1 ⊢
   have h41:=h4.mono hm1
   simp only at hl hsm
   refine uA ?_
   refine TC.condP rfl (fun hlt' => ?_) (fun hlt' => ?_)
   ·have hlt : k < a.kids.length:=by omega
    have hx : a.kids[k]? = some a.kids[k]:=by simp [hlt]
    have hmem:=List.getElem_mem hlt
    refine uA ?_
    refine TO.step rfl (OT.index tab rTree k h41 rfl rfl rfl rfl rfl (by first | rfl | omega | (simp only;omega)) rfl hx ?_)
    rintro b' i' h' hrd hA
    (refine TO.step rfl (OT.loadA0 tab hA rfl rfl rfl rfl rfl ?_))
    refine uA ?_
    refine TO.step rfl (OT.alloc tab rfl rfl rfl rfl (fun b5 => ?_))
    refine uA ?_
    refine uT ?_
    refine uA ?_
    generalize hcx : a.kids[k]=c at *
    refine TC.perm (List.Perm.swap _ _ _) ?_
    refine TC.draw [7] mixed 8 rfl (_::_::_::_::L) [tok t 4] perm_last ?_
    refine DO.pure tab uC (by kernel_rfl) [0] (by kernel_rfl) rfl ?_
    (refine DO.loadL tab 1 1 uC (by kernel_rfl) (by kernel_rfl) rfl rfl rfl rfl rfl rfl rfl rfl ?_)
    (refine DO.loadL (k:=0) tab 2 0 uC (by kernel_rfl) (by kernel_rfl) rfl rfl rfl rfl rfl rfl rfl rfl ?_)
    refine DO.run 3 rfl rfl (by kernel_rfl) rfl (OT.call rfl rfl rfl rfl rfl rfl goes36 ((ih c hmem (hkn c hmem) _ _ h' (rTree_iff.1 hrd) (Nat.le_trans (Nat.le_of_lt (Pt.kid_size hmem)) hB)).x ?_))
    rintro _ m2 _ ⟨hm2,rfl,ht2,rfl,hrt⟩;refine ⟨hm2,_,List.Perm.refl _, ?_⟩
    refine DO.run 4 rfl rfl (by kernel_rfl) rfl ?_
    refine OT.lit tab rfl rfl rfl rfl (fun bl => ?_);refine ⟨Mem.le_refl _,_,perm_mid, ?_⟩
    refine DO.run 5 rfl rfl (by kernel_rfl) rfl ?_
    refine OT.perm List.perm_append_comm (OT.append1 tab rTree 0 (hd':=ht2) (a:=c.ofT) (ht.mono hm2) hown (rTree_iff.2 hrt) rfl rfl rfl rfl rfl rfl rfl (by simp only [rTree,mkR,List.length_map,List.length_take];omega) (fun t' m3 hm3 ht' hown' => ?_));refine ⟨hm3,_,perm_last, ?_⟩
    refine DO.pure tab uC (by kernel_rfl) [6] (by kernel_rfl) rfl ?_
    refine DO.tail ?_
    refine DOt.run 7 rfl rfl (by kernel_rfl) rfl ?_
    refine OT.storeL tab 1 rfl rfl rfl rfl rfl rfl rfl rfl ?_
    refine DOt.nil (by kernel_rfl) ?_
    rotate_left 1
    refine uA ?_
    refine TO.perm perm_f4 ?_
    refine TO.step rfl (OT.arith (r':=((k + 1 : Nat) : Int)) rfl rfl rfl rfl rfl rfl rfl (by omega) ?_)
    refine uA ?_
    refine ⟨⟨k + 1,t',m3⟩,uH,uH,rfl,rfl,uS,⟨by simp only;omega, ?_,hown',Mem.le_trans hm1 (Mem.le_trans hm2 hm3)⟩,by simp only;omega⟩
    simp only
    rw [List.take_succ_eq_append_getElem hlt,hcx,List.map_append]
    exact ht'
   ·refine uL ?_
    refine uT ?_
    refine uA ?_
    refine retQ_ret_c1 tab 2 rfl rfl rfl rfl uS ⟨hm1,rfl,⟨_,[],u,t⟩,rfl,rfl,rfl,h3, ?_⟩
    rw [List.take_of_length_le (by omega)] at ht
    exact ht
 ·rw [if_neg (by omega),if_pos h8,hks]
  have hmem : k ∈ a.kids:=by rw [hks];simp
  obtain ⟨k',n,u,s⟩:=h
  obtain rfl : k' = 8:=h1.trans h8
  have hx : a.kids[0]? = some k:=by rw [hks];rfl
  refine uA ?_
  refine TO.step rfl (OT.box rfl rfl rfl rfl rfl (fun b => ?_))
  refine uA ?_
  refine TO.step rfl (OT.alloc tab rfl rfl rfl rfl (fun b2 => ?_))
  refine uL ?_
  refine TO.step rfl (OT.alloc tab rfl rfl rfl rfl (fun b3 => ?_))
  refine uA ?_
  refine uT ?_
  refine uL ?_
  refine TO.step rfl (OT.index tab rTree 0 h4 rfl rfl rfl rfl rfl (by first | rfl | omega | (simp only;omega)) rfl hx ?_)
  rintro b' i' h' hrd hA
  (refine TO.step rfl (OT.loadA0 tab hA rfl rfl rfl rfl rfl ?_))
  refine uA ?_
  refine TO.step rfl (OT.call rfl rfl rfl rfl rfl rfl goes36 ((ih k hmem hkn _ _ h' (rTree_iff.1 hrd) (Nat.le_trans (Nat.le_of_lt (Pt.kid_size hmem)) hB)).x ?_));
  rintro _ m2 _ ⟨hm2,rfl,ht2,rfl,hrt⟩
  refine uA ?_
  refine uT ?_
  refine uA ?_
  exact retQ_ret_c1 tab 1 rfl rfl rfl rfl uS ⟨hm2,rfl,ht2,rfl,hrt⟩
def okT (a : Tree) : Bool:=okType a || okSig a
def ofRes (a : Tree) : Tree × Int:=if okT a=true then (a.ofT,0) else (.mk 0 [] 0 [],2)
def MadeTI (m : Mem) (L : List Item) (x : Tree × Int) : Value→Mem→List Item→Prop:=Made m L fun r m' => ∃ h : HTree,r = .tuple ⟨[treeV h, .int .i64 x.2]⟩ ∧ TreeRep m' h x.1
theorem okT_node {a : Tree} (h : okT a=true) : okNode a=true:=by
 unfold okT okType okSig at h
 unfold okNode
 rw [Bool.or_eq_true,Bool.and_eq_true,Bool.and_eq_true] at h
 rcases h with h | h
 ·rw [h.2];rfl
 ·rw [h.2];simp
theorem okT_size {a : Tree} (h : okT a=true) : a.size ≤ 1048576:=by
 unfold okT okType okSig at h
 rw [withinB_eq,withinB_eq] at h
 simp only [Bool.or_eq_true,Bool.and_eq_true,decide_eq_true_eq] at h
 omega
theorem type_not7 {a : Tree} (h : a.isType=true) : ¬ a.kind=7:=by
 rcases isType_facts h with h | h | h <;> omega
set_option maxHeartbeats 1600000 in
theorem of_own (a : Tree) (m : Mem) (L : List Item) (h : HTree) (hr : TreeRep m h a) (hB : a.wide ≤ 140737488355328) : TCall Tryz.prog 12 ⟨[treeV h]⟩ m L (MadeTI m L (ofRes a)):=by
 have hk:=hr.kind
 unfold TCall
 refine TCallX.enter Tryz.func12 rfl 28 rfl ?_
 refine uA ?_
 refine TO.step rfl (OT.box rfl rfl rfl rfl rfl (fun b => ?_))
 refine uA ?_
 refine TO.step rfl (OT.alloc tab rfl rfl rfl rfl (fun b2 => ?_))
 refine uA ?_
 refine TO.step rfl (OT.alloc tab rfl rfl rfl rfl (fun b3 => ?_))
 refine uA ?_
 refine uT ?_
 refine uL ?_
 refine TC.condP rfl (fun h7 => ?_) (fun h7 => ?_)
 ·refine uA ?_
  refine TO.step rfl (OT.arith (r':=98) rfl rfl rfl rfl rfl rfl rfl (by omega) ?_)
  refine uL ?_
  have hsB : ∀ r : Bool,r=decide ((a.size : Int) ≤ 19997∧(a.deep : Int) ≤ 98)→(r=true→(a.isType=true ∨ a.isSig=true)→okT a=true)∧(r=false→okT a=false):=by
   intro r hrr
   subst hrr
   unfold okT okType okSig
   rw [withinB_eq,withinB_eq]
   refine ⟨fun hd ht => ?_,fun hd => ?_⟩
   ·have hd:=of_decide_eq_true hd
    rcases ht with ht | ht
    ·have:=type_not7 ht
     rw [ht,decide_eq_true (show (a.size : Int) + 3 ≤ 20000 by omega),decide_eq_true (show (a.deep : Int) + 3 ≤ 100 by omega)];rfl
    ·have:=(isSig_facts ht).1
     rw [ht,decide_eq_true (show (a.size : Int) + 3 ≤ 20000 by omega),decide_eq_true (show (a.deep : Int) + 2 ≤ 100 by omega)];simp
   ·have hd:=of_decide_eq_false hd
    rw [Bool.or_eq_false_iff]
    refine ⟨Bool.eq_false_iff.2 fun hc => ?_,Bool.eq_false_iff.2 fun hc => ?_⟩
    ·simp only [Bool.and_eq_true,decide_eq_true_eq] at hc
     have:=type_not7 hc.2
     omega
    ·simp only [Bool.and_eq_true,decide_eq_true_eq] at hc
     have:=(isSig_facts hc.2).1
     omega
  have hno : a.isType=false→a.isSig=false→okT a=false:=fun h1 h2=>by unfold okT okType okSig;rw [h1,h2];simp
  refine TO.step rfl (OT.call rfl rfl rfl rfl rfl rfl goes33 ((small_law a _ _ h hr 98 19997 0 b3 rfl (by omega) (by omega)).x ?_));
  rintro v _ L3 ⟨rfl,hv,y,hL,_⟩
  generalize hsm : decide ((a.size : Int) ≤ 19997∧(a.deep : Int) ≤ 98)=sm at hv
  have hsB':=hsB sm hsm.symm
  clear hsm hsB
  subst hv
  subst hL
  refine uA ?_
  refine TO.split (b := !sm) rfl rfl (fun h1 => ?_) (fun h1 => ?_)
  ·rw [Bool.not_eq_true'] at h1
   have hbad:=hsB'.2 h1
   refine uA ?_
   refine uT ?_
   refine uA ?_
   refine retQ_ret_c tab 1 rfl rfl rfl rfl rfl uS ⟨Mem.le_refl _,rfl,⟨0,[],0,⟨none,0,0⟩⟩, ?_⟩
   rw [ofRes,hbad]
   exact ⟨rfl,TreeRep.leaf _ _ _ _⟩
  rw [Bool.not_eq_false'] at h1
  refine uL ?_
  refine TO.step rfl (OT.call rfl rfl rfl rfl rfl rfl goes34 ((type_law a _ _ h hr hB).x ?_));
  rintro _ _ _ ⟨rfl,rfl,rfl⟩
  refine uA ?_
  refine TO.split (b := !a.isType) rfl rfl (fun h2 => ?_) (fun h2 => ?_)
  ·rw [Bool.not_eq_true'] at h2
   refine uL ?_
   refine TO.step rfl (OT.call rfl rfl rfl rfl rfl rfl goes35 ((sig_law a _ _ h hr hB).x ?_));
   rintro _ _ _ ⟨rfl,rfl,rfl⟩
   refine uA ?_
   refine TC.cond (t := !a.isSig) rfl (fun h3 => ?_) (fun h3 => ?_)
   ·rw [Bool.not_eq_true'] at h3
    have hbad:=hno h2 h3
    refine uA ?_
    refine uT ?_
    refine uA ?_
    refine retQ_ret_c tab 1 rfl rfl rfl rfl rfl uS ⟨Mem.le_refl _,rfl,⟨0,[],0,⟨none,0,0⟩⟩, ?_⟩
    rw [ofRes,hbad]
    exact ⟨rfl,TreeRep.leaf _ _ _ _⟩
   ·rw [Bool.not_eq_false'] at h3
    have hok:=hsB'.1 h1 (.inr h3)
    refine uL ?_
    refine TO.step rfl (OT.call rfl rfl rfl rfl rfl rfl goes36 ((ofN_law a (okT_node hok) _ _ h hr (okT_size hok)).x ?_));
    rintro _ m1 _ ⟨hm1,rfl,h',rfl,hr'⟩
    refine uA ?_
    refine uT ?_
    refine uA ?_
    refine retQ_ret_c tab 1 rfl rfl rfl rfl rfl uS ⟨hm1,rfl,h', ?_⟩
    rw [ofRes,hok]
    exact ⟨rfl,hr'⟩
  ·rw [Bool.not_eq_false'] at h2
   have hok:=hsB'.1 h1 (.inl h2)
   refine uL ?_
   refine TO.step rfl (OT.call rfl rfl rfl rfl rfl rfl goes36 ((ofN_law a (okT_node hok) _ _ h hr (okT_size hok)).x ?_));
   rintro _ m1 _ ⟨hm1,rfl,h',rfl,hr'⟩
   refine uA ?_
   refine uT ?_
   refine uA ?_
   refine retQ_ret_c tab 1 rfl rfl rfl rfl rfl uS ⟨hm1,rfl,h', ?_⟩
   rw [ofRes,hok]
   exact ⟨rfl,hr'⟩
 ·refine uL ?_
  have hsB : ∀ r : Bool,r=decide ((a.size : Int) ≤ 19997∧(a.deep : Int) ≤ 97)→(r=true→(a.isType=true ∨ a.isSig=true)→okT a=true)∧(r=false→okT a=false):=by
   intro r hrr
   subst hrr
   unfold okT okType okSig
   rw [withinB_eq,withinB_eq]
   refine ⟨fun hd ht => ?_,fun hd => ?_⟩
   ·have hd:=of_decide_eq_true hd
    rcases ht with ht | ht
    ·have:=type_not7 ht
     rw [ht,decide_eq_true (show (a.size : Int) + 3 ≤ 20000 by omega),decide_eq_true (show (a.deep : Int) + 3 ≤ 100 by omega)];rfl
    ·have:=(isSig_facts ht).1
     rw [ht,decide_eq_true (show (a.size : Int) + 3 ≤ 20000 by omega),decide_eq_true (show (a.deep : Int) + 2 ≤ 100 by omega)];simp
   ·have hd:=of_decide_eq_false hd
    rw [Bool.or_eq_false_iff]
    refine ⟨Bool.eq_false_iff.2 fun hc => ?_,Bool.eq_false_iff.2 fun hc => ?_⟩
    ·simp only [Bool.and_eq_true,decide_eq_true_eq] at hc
     have:=type_not7 hc.2
     omega
    ·simp only [Bool.and_eq_true,decide_eq_true_eq] at hc
     have:=(isSig_facts hc.2).1
     omega
  have hno : a.isType=false→a.isSig=false→okT a=false:=fun h1 h2=>by unfold okT okType okSig;rw [h1,h2];simp
  refine TO.step rfl (OT.call rfl rfl rfl rfl rfl rfl goes33 ((small_law a _ _ h hr 97 19997 0 b3 rfl (by omega) (by omega)).x ?_));
  rintro v _ L3 ⟨rfl,hv,y,hL,_⟩
  generalize hsm : decide ((a.size : Int) ≤ 19997∧(a.deep : Int) ≤ 97)=sm at hv
  have hsB':=hsB sm hsm.symm
  clear hsm hsB
  subst hv
  subst hL
  refine uA ?_
  refine TO.split (b := !sm) rfl rfl (fun h1 => ?_) (fun h1 => ?_)
  ·rw [Bool.not_eq_true'] at h1
   have hbad:=hsB'.2 h1
   refine uA ?_
   refine uT ?_
   refine uA ?_
   refine retQ_ret_c tab 1 rfl rfl rfl rfl rfl uS ⟨Mem.le_refl _,rfl,⟨0,[],0,⟨none,0,0⟩⟩, ?_⟩
   rw [ofRes,hbad]
   exact ⟨rfl,TreeRep.leaf _ _ _ _⟩
  rw [Bool.not_eq_false'] at h1
  refine uL ?_
  refine TO.step rfl (OT.call rfl rfl rfl rfl rfl rfl goes34 ((type_law a _ _ h hr hB).x ?_));
  rintro _ _ _ ⟨rfl,rfl,rfl⟩
  refine uA ?_
  refine TO.split (b := !a.isType) rfl rfl (fun h2 => ?_) (fun h2 => ?_)
  ·rw [Bool.not_eq_true'] at h2
   refine uL ?_
   refine TO.step rfl (OT.call rfl rfl rfl rfl rfl rfl goes35 ((sig_law a _ _ h hr hB).x ?_));
   rintro _ _ _ ⟨rfl,rfl,rfl⟩
   refine uA ?_
   refine TC.cond (t := !a.isSig) rfl (fun h3 => ?_) (fun h3 => ?_)
   ·rw [Bool.not_eq_true'] at h3
    have hbad:=hno h2 h3
    refine uA ?_
    refine uT ?_
    refine uA ?_
    refine retQ_ret_c tab 1 rfl rfl rfl rfl rfl uS ⟨Mem.le_refl _,rfl,⟨0,[],0,⟨none,0,0⟩⟩, ?_⟩
    rw [ofRes,hbad]
    exact ⟨rfl,TreeRep.leaf _ _ _ _⟩
   ·rw [Bool.not_eq_false'] at h3
    have hok:=hsB'.1 h1 (.inr h3)
    refine uL ?_
    refine TO.step rfl (OT.call rfl rfl rfl rfl rfl rfl goes36 ((ofN_law a (okT_node hok) _ _ h hr (okT_size hok)).x ?_));
    rintro _ m1 _ ⟨hm1,rfl,h',rfl,hr'⟩
    refine uA ?_
    refine uT ?_
    refine uA ?_
    refine retQ_ret_c tab 1 rfl rfl rfl rfl rfl uS ⟨hm1,rfl,h', ?_⟩
    rw [ofRes,hok]
    exact ⟨rfl,hr'⟩
  ·rw [Bool.not_eq_false'] at h2
   have hok:=hsB'.1 h1 (.inl h2)
   refine uL ?_
   refine TO.step rfl (OT.call rfl rfl rfl rfl rfl rfl goes36 ((ofN_law a (okT_node hok) _ _ h hr (okT_size hok)).x ?_));
   rintro _ m1 _ ⟨hm1,rfl,h',rfl,hr'⟩
   refine uA ?_
   refine uT ?_
   refine uA ?_
   refine retQ_ret_c tab 1 rfl rfl rfl rfl rfl uS ⟨hm1,rfl,h', ?_⟩
   rw [ofRes,hok]
   exact ⟨rfl,hr'⟩
end Go.Sep


/- TqEq -/
set_option linter.unusedVariables false
set_option linter.unusedSimpArgs false
namespace Go.Sep
open Go.Proofs
attribute [local irreducible] TC TO OT TCallX TCall DO DOt thenQ blockQ retQ At
set_option maxHeartbeats 1600000 in
theorem equalFunc_law (m : Mem) (L : List Item) (s t : Sl) (l r : List Tree) (hs : SlRep rTree m s l) (ht : SlRep rTree m t r)
  (hp : ∀ a ∈ l, ∀ (c : Tree) (m : Mem) (L : List Item) (h g : HTree),TreeRep m h a→TreeRep m g c→TCall Tryz.prog 50 ⟨[treeV h,treeV g]⟩ m L (Ret (.bool (teq a c)) m L)) :
  TCall Tryz.prog 92 ⟨[s.v,t.v, .func (.func 50) ⟨[]⟩ ⟨[]⟩]⟩ m L (Ret (.bool (teqL l r)) m L):=by
 have hl:=hs.len
 have gl:=ht.len
 have hsm:=hs.small rfl
 have gsm:=ht.small rfl
 unfold TCall
 refine TCallX.enter Tryz.func92 rfl 32 rfl ?_
 refine uA ?_
 refine TC.condN rfl (fun e4 => ?_) (fun e4 => ?_)
 ·refine uA ?_
  refine retQ_ret rfl uS ⟨rfl,rfl, ?_⟩
  rw [teqL_len (by omega)]
 have hlen : l.length=r.length:=by omega
 refine uA ?_
 refine TC.loopK (ι:=Nat) [1,2,15,16] rfl (fun k=>[(17, .int .i64 (k : Int))]) (fun _=>m) (fun _=>L) (fun k=>k ≤ l.length∧teqL l r=teqL (l.drop k) (r.drop k)) (fun k=>l.length - k) 0 uH rfl uS ⟨Nat.zero_le _,rfl⟩ ?_
 rintro k ⟨hk,hI⟩
 refine uA ?_
 refine TC.condP rfl (fun hlt' => ?_) (fun hlt' => ?_)
 ·have hlt : k < l.length:=by omega
  have hlt2 : k < r.length:=by omega
  have hx : l[k]? = some l[k]:=by simp [hlt]
  have hx2 : r[k]? = some r[k]:=by simp [hlt2]
  rw [teqL_step _ _ k hlt hlt2] at hI
  refine uA ?_
  refine TO.step rfl (OT.index tab rTree k hs rfl rfl rfl rfl rfl (by first | rfl | omega | (simp only;omega)) rfl hx ?_)
  rintro b' i' h' hrd hA
  (refine TO.step rfl (OT.loadA0 tab hA rfl rfl rfl rfl rfl ?_))
  refine uA ?_
  refine TO.step rfl (OT.alloc tab rfl rfl rfl rfl (fun b1 => ?_))
  refine uA ?_
  refine uT ?_
  refine uA ?_
  refine TO.step rfl (OT.index tab rTree k ht rfl rfl rfl rfl rfl (by first | rfl | omega | (simp only;omega)) rfl hx2 ?_)
  rintro b'' i'' g' grd gA
  (refine TO.step rfl (OT.loadA0 tab gA rfl rfl rfl rfl rfl ?_))
  refine uA ?_
  refine TO.step rfl (OT.alloc tab rfl rfl rfl rfl (fun b2 => ?_))
  refine uA ?_
  refine uT ?_
  refine uL ?_
  refine TO.step rfl (OT.call rfl rfl rfl rfl rfl rfl goes50 ((hp _ (List.getElem_mem hlt) r[k] _ _ h' g' (rTree_iff.1 hrd) (rTree_iff.1 grd)).x ?_));
  rintro _ _ _ ⟨rfl,rfl,rfl⟩
  refine uA ?_
  refine TC.cond (t := !teq l[k] r[k]) rfl (fun e5 => ?_) (fun e5 => ?_)
  ·rw [Bool.not_eq_true'] at e5
   refine uA ?_
   refine retQ_ret rfl uS ⟨rfl,rfl, ?_⟩
   rw [hI,e5];rfl
  ·rw [Bool.not_eq_false'] at e5
   refine uA ?_
   refine TO.step rfl (OT.arith (r':=((k + 1 : Nat) : Int)) rfl rfl rfl rfl rfl rfl rfl (by omega) ?_)
   refine uA ?_
   exact ⟨k + 1,uH,uH,rfl,rfl,uS,⟨by omega,by rw [hI,e5];rfl⟩,by omega⟩
 ·refine uA ?_
  refine retQ_ret rfl uS ⟨rfl,rfl, ?_⟩
  rw [hI,List.drop_eq_nil_of_le (by omega),List.drop_eq_nil_of_le (by omega)];rfl
set_option maxHeartbeats 1600000 in
theorem equal_law (a : Tree) : ∀ (c : Tree) (m : Mem) (L : List Item) (h g : HTree) (hr : TreeRep m h a) (gr : TreeRep m g c),TCall Tryz.prog 50 ⟨[treeV h,treeV g]⟩ m L (Ret (.bool (teq a c)) m L):=by
 induction a using Tree.ind with
 | h a ih =>
 intro c m L h g hr gr
 obtain ⟨h1,h2,h3,h4⟩:=hr
 obtain ⟨g1,g2,g3,g4⟩:=gr
 rw [teq_eq,← h1,← g1,← h2,← g2,← h3,← g3]
 unfold TCall
 refine TCallX.enter Tryz.func50 rfl 31 rfl ?_
 refine uA ?_
 refine TO.step rfl (OT.box rfl rfl rfl rfl rfl (fun b => ?_))
 refine uA ?_
 refine TO.step rfl (OT.box rfl rfl rfl rfl rfl (fun b2 => ?_))
 refine uL ?_
 (refine TO.splitP rfl rfl (fun e1 => ?_) (fun e1 => ?_))
 ·refine uL ?_
  (refine TO.splitP rfl rfl (fun e2 => ?_) (fun e2 => ?_))
  ·refine uL ?_
   (refine TO.splitP rfl rfl (fun e3 => ?_) (fun e3 => ?_))
   ·refine uL ?_
    refine TO.step rfl (OT.call rfl rfl rfl rfl rfl rfl goes92 ((equalFunc_law _ _ h.kids g.kids _ _ h4 g4 (fun k hk=>ih k hk)).x ?_));
    rintro _ _ _ ⟨rfl,rfl,rfl⟩
    refine uA ?_
    refine retQ_ret rfl uS ⟨rfl,rfl, ?_⟩
    rw [decide_eq_true e1,decide_eq_true e2,decide_eq_true e3];rfl
   ·refine uA ?_
    refine retQ_ret rfl uS ⟨rfl,rfl, ?_⟩
    rw [decide_eq_true e1,decide_eq_true e2,decide_eq_false e3];rfl
  ·refine uA ?_
   refine retQ_ret rfl uS ⟨rfl,rfl, ?_⟩
   rw [decide_eq_true e1,decide_eq_false e2];rfl
 ·refine uA ?_
  refine retQ_ret rfl uS ⟨rfl,rfl, ?_⟩
  rw [decide_eq_false e1];rfl
end Go.Sep


/- TqSnd -/
set_option linter.unusedVariables false
set_option linter.unusedSimpArgs false
namespace Go.Sep
open Go.Proofs
attribute [local irreducible] TC TO OT TCallX TCall DO DOt thenQ blockQ retQ At
theorem kindB_leaf {a : Tree} (h : a.kind=1 ∨ a.kind=2 ∨ a.kind=3 ∨ a.kind=8) : kindB a=decide (a.kids.length=0):=by unfold kindB;rw [if_pos h]
theorem kindB_4 {a : Tree} (h : a.kind=4) : kindB a=(decide (a.kids.length=0) && (isName a.name && decide (basicOf a.name=0))):=by unfold kindB;rw [if_neg (by omega),if_pos h]
theorem kindB_5 {a : Tree} (h : a.kind=5 ∨ a.kind=6) : kindB a=decide (a.kids.length=1):=by unfold kindB;rw [if_neg (by omega),if_neg (by omega),if_pos h]
theorem kindB_7 {a : Tree} (h : a.kind=7) : kindB a=(decide (0 ≤ a.num) && decide (a.num ≤ (a.kids.length : Int))):=by unfold kindB;rw [if_neg (by omega),if_neg (by omega),if_neg (by omega),if_pos h]
theorem kindB_no {a : Tree} (h1 : ¬ (a.kind=1 ∨ a.kind=2 ∨ a.kind=3 ∨ a.kind=8)) (h2 : ¬ a.kind=4) (h3 : ¬ (a.kind=5 ∨ a.kind=6)) (h4 : ¬ a.kind=7) : kindB a=false:=by unfold kindB;rw [if_neg h1,if_neg h2,if_neg h3,if_neg h4]
def fitsB (a : Tree) (z d : Int) : Bool:=decide ((a.size : Int) ≤ z∧(a.deep : Int) + d ≤ 101)
set_option maxHeartbeats 6400000 in
theorem tsound_law (a : Tree) : ∀ (m : Mem) (L : List Item) (h : HTree) (hr : TreeRep m h a) (hB : a.wide ≤ 140737488355328) (d z : Int) (i bl : Nat) (hi : L[i]? = some (cellI bl z)) (hz : 0 ≤ z∧z ≤ 20000) (hd : 0 ≤ d∧d ≤ 101),
  TCall Tryz.prog 48 ⟨[treeV h, .int .i64 d, .pointer (some ⟨bl,0,none⟩)]⟩ m L (Low m L i bl (fitsB a z d && a.formed) (z - a.size)):=by
 induction a using Tree.ind with
 | h a ih =>
 intro m L h hr hB d z i bl hi hz hd
 obtain ⟨h1,h2,h3,h4⟩:=hr
 have hl:=h4.len
 have hsm:=h4.small rfl
 have hsz:=size_kids a
 have hdp:=deep_kids a
 have hnl:=wide_name a
 obtain ⟨q,n,u,s⟩:=h
 simp only at h1 h2 h3 h4 hl
 unfold TCall
 refine TCallX.enter Tryz.func48 rfl 112 rfl ?_
 have bad : ∀ {y : Int},(fitsB a z d && a.formed)=false→Low m L i bl (fitsB a z d && a.formed) (z - a.size) (.bool false) m (L.set i (cellI bl y)):=fun {y} hn=>⟨rfl,by rw [hn],y,rfl,fun hd=>by rw [hn] at hd;cases hd⟩
 have bad1 : ∀ {y : Int}, ¬ ((a.size : Int) ≤ z∧(a.deep : Int) + d ≤ 101)→Low m L i bl (fitsB a z d && a.formed) (z - a.size) (.bool false) m (L.set i (cellI bl y)):=fun hn=>bad (by unfold fitsB;rw [decide_eq_false hn];rfl)
 have bad2 : ∀ {y : Int},headB a=false→Low m L i bl (fitsB a z d && a.formed) (z - a.size) (.bool false) m (L.set i (cellI bl y)):=fun hn=>bad (by rw [formed_eq,hn];simp)
 have bad3 : ∀ {y : Int},formedL a.kids=false→Low m L i bl (fitsB a z d && a.formed) (z - a.size) (.bool false) m (L.set i (cellI bl y)):=fun hn=>bad (by rw [formed_eq,hn];simp)
 have hset:=fun y=>set_get hi (cellI bl y)
 refine uA ?_
 refine TO.step rfl (OT.box rfl rfl rfl rfl rfl (fun b => ?_))
 refine uA ?_
 refine TO.step rfl (OT.loadL0 tab (i + 1) rfl rfl rfl rfl hi rfl ?_)
 refine TO.step rfl (OT.arith (r':=z - 1) rfl rfl rfl rfl rfl rfl rfl (by omega) ?_)
 refine uA ?_
 refine TO.step rfl (OT.storeL0 tab (i + 1) rfl rfl rfl rfl rfl rfl hi rfl ?_)
 refine uA ?_
 refine TO.step rfl (OT.loadL0 tab (i + 1) rfl rfl rfl rfl (hset _) rfl ?_)
 refine uA ?_
 (refine TO.splitP rfl rfl (fun h5 => ?_) (fun h5 => ?_))
 ·refine uN ?_
  refine TC.cond_t rfl ?_
  refine uN ?_
  exact retQ_ret rfl uS (bad1 (by omega))
 refine uN ?_
 (refine TO.splitP rfl rfl (fun h6 => ?_) (fun h6 => ?_))
 ·refine uN ?_
  refine TC.cond_t rfl ?_
  refine uN ?_
  exact retQ_ret rfl uS (bad1 (by omega))
 refine uL ?_
 by_cases k4 : a.kind=4
 ·obtain rfl : q=4:=h1.trans k4
  refine uL ?_
  refine TC.condN rfl (fun e2 => ?_) (fun e2 => ?_)
  ·refine uA ?_
   exact retQ_ret rfl uS (bad2 (by unfold headB;rw [← h3,decide_eq_false e2,decide_eq_false (show ¬ a.kind=7 by omega)];simp))
  have hhd : headB a=true:=by unfold headB;rw [← h3,decide_eq_true k4,decide_eq_true e2];simp
  refine uL ?_
  refine TC.loopK (ι:=Nat × Int) [1,2,3,43,44] rfl (fun x=>[(45, .int .i64 (x.1 : Int))]) (fun _=>m) (fun x => .cells b 0 (treeC ⟨4,n,u,s⟩) :: L.set i (cellI bl x.2)) (fun x=>x.1 ≤ a.kids.length∧x.2=z - 1 - sizeL (a.kids.take x.1)∧0 ≤ x.2∧(deepL (a.kids.take x.1) : Int) + d ≤ 100∧formedL (a.kids.take x.1)=true) (fun x=>a.kids.length - x.1) (0,z - 1) uH rfl uS ⟨Nat.zero_le _,by simp [sizeL],by simp only;omega,by simp [deepL];omega,rfl⟩ ?_
  rintro ⟨k,y⟩ ⟨hk,hy,hy0,hd',hI⟩
  simp only at hk hy hy0 hd' hI ⊢
  refine uA ?_
  refine TC.condP rfl (fun hlt' => ?_) (fun hlt' => ?_)
  ·have hlt : k < a.kids.length:=by omega
   have hx : a.kids[k]? = some a.kids[k]:=by simp [hlt]
   have hmem:=List.getElem_mem hlt
   have e1':=sizeL_next a.kids k hlt
   have e2':=deepL_next a.kids k hlt
   have e3':=sizeL_take a.kids (k + 1)
   have e4':=deepL_take a.kids (k + 1)
   have hnx:=formedL_next a.kids k hlt
   refine uA ?_
   refine TO.step rfl (OT.index tab rTree k h4 rfl rfl rfl rfl rfl (by first | rfl | omega | (simp only;omega)) rfl hx ?_)
   rintro b' i' h' hrd hA
   have hk':=(rTree_iff.1 hrd).kind
   (refine TO.step rfl (OT.loadA0 tab hA rfl rfl rfl rfl rfl ?_))
   refine uA ?_
   refine TO.step rfl (OT.alloc tab rfl rfl rfl rfl (fun b2 => ?_))
   refine uA ?_
   refine uT ?_
   refine uL ?_
   (refine TO.splitP rfl rfl (fun e8 => ?_) (fun e8 => ?_))
   ·refine uA ?_
    exact retQ_ret rfl uS (bad3 (formedL_false hmem (by rw [decide_eq_true (show a.kids[k].kind=8 by omega)];rfl)))
   refine uL ?_
   refine TO.step rfl (OT.arith (r':=d + 1) rfl rfl rfl rfl rfl rfl rfl (by omega) ?_)
   refine uA ?_
   refine TO.step rfl (OT.call rfl rfl rfl rfl rfl rfl goes48 ((ih _ hmem _ _ h' (rTree_iff.1 hrd) (Nat.le_trans (wide_kid hmem) hB) (d + 1) y (i + 2) bl (hset y) (by omega) (by omega)).x ?_));
   rintro _ _ L3 ⟨rfl,rfl,y',hL,hy'⟩
   have hL2 : ∀ (x1 x2 : Item),(x1 :: x2 :: L.set i (cellI bl y)).set (i + 2) (cellI bl y')=x1 :: x2 :: L.set i (cellI bl y'):=fun x1 x2=>by simp [List.set_set]
   replace hL:=hL.trans (hL2 (.cells b2 0 (treeC h')) _)
   subst hL
   refine uA ?_
   refine TC.cond (t := !(fitsB a.kids[k] y (d + 1) && a.kids[k].formed)) rfl (fun e9 => ?_) (fun e9 => ?_)
   ·rw [Bool.not_eq_true',Bool.and_eq_false_iff] at e9
    refine uA ?_
    rcases e9 with e9 | e9
    ·exact retQ_ret rfl uS (bad1 (fun hc=>(of_decide_eq_false e9) (by omega)))
    ·exact retQ_ret rfl uS (bad3 (formedL_false hmem (by rw [e9];simp)))
   ·rw [Bool.not_eq_false'] at e9
    have hyy:=hy' e9
    rw [Bool.and_eq_true] at e9
    have hfit:=of_decide_eq_true e9.1
    refine uA ?_
    refine TO.step rfl (OT.arith (r':=((k + 1 : Nat) : Int)) rfl rfl rfl rfl rfl rfl rfl (by omega) ?_)
    refine uA ?_
    exact ⟨(k + 1,y'),uH,uH,rfl,rfl,uS,⟨by simp only;omega,by simp only;omega,by simp only;omega,by simp only;omega,by simp only;rw [hnx,hI,e9.2,decide_eq_false (show ¬ a.kids[k].kind=8 by omega)];rfl⟩,by simp only;omega⟩
  rw [List.take_of_length_le (by omega)] at hy hd' hI
  have hall : (fitsB a z d && a.formed)=kindB a:=by
   unfold fitsB
   rw [formed_eq,hI,hhd,decide_eq_true (by omega)];rfl
  have good : ∀ {r : Bool},r=kindB a→Low m L i bl (fitsB a z d && a.formed) (z - a.size) (.bool r) m (L.set i (cellI bl y)):=fun hr=>⟨rfl,by rw [hall,hr],y,rfl,fun _=>by omega⟩
  have hkb:=kindB_4 k4
  refine uL ?_
  (refine TO.splitP rfl rfl (fun e5 => ?_) (fun e5 => ?_))
  ·simp only at e5
   refine uL ?_
   refine TO.step rfl (OT.call rfl rfl rfl rfl rfl rfl goes53 ((name_law _ _ n (by rw [h2];omega)).x ?_));
   rintro _ _ _ ⟨rfl,rfl,rfl⟩
   refine uA ?_
   refine TO.split (b:=isName n) rfl rfl (fun e6 => ?_) (fun e6 => ?_)
   ·refine uL ?_
    refine TO.step rfl (OT.call rfl rfl rfl rfl rfl rfl goes54 ((basic_law _ _ n).x ?_));
    rintro _ _ _ ⟨rfl,rfl,rfl⟩
    refine uA ?_
    refine retQ_ret rfl uS (good ?_)
    rw [hkb,← h2,e6,decide_eq_true (show a.kids.length=0 by omega)];rfl
   ·refine uA ?_
    refine retQ_ret rfl uS (good ?_)
    rw [hkb,← h2,e6];simp
  ·simp only at e5
   refine uA ?_
   refine retQ_ret rfl uS (good ?_)
   rw [hkb,decide_eq_false (show ¬ a.kids.length=0 by omega)];rfl
 have n4:=k4
 by_cases h7 : a.kind=7
 ·obtain rfl : q=7:=h1.trans h7
  refine uL ?_
  (refine TO.splitN rfl rfl (fun e1 => ?_) (fun e1 => ?_))
  ·refine uA ?_
   exact retQ_ret rfl uS (bad2 (by unfold headB;rw [← h2,decide_eq_false e1,decide_eq_false k4];rfl))
  have hhd : headB a=true:=by unfold headB;rw [← h2,decide_eq_true e1,decide_eq_true h7];simp
  refine uL ?_
  refine TC.loopK (ι:=Nat × Int) [1,2,3,43,44] rfl (fun x=>[(45, .int .i64 (x.1 : Int))]) (fun _=>m) (fun x => .cells b 0 (treeC ⟨7,n,u,s⟩) :: L.set i (cellI bl x.2)) (fun x=>x.1 ≤ a.kids.length∧x.2=z - 1 - sizeL (a.kids.take x.1)∧0 ≤ x.2∧(deepL (a.kids.take x.1) : Int) + d ≤ 100∧formedL (a.kids.take x.1)=true) (fun x=>a.kids.length - x.1) (0,z - 1) uH rfl uS ⟨Nat.zero_le _,by simp [sizeL],by simp only;omega,by simp [deepL];omega,rfl⟩ ?_
  rintro ⟨k,y⟩ ⟨hk,hy,hy0,hd',hI⟩
  simp only at hk hy hy0 hd' hI ⊢
  refine uA ?_
  refine TC.condP rfl (fun hlt' => ?_) (fun hlt' => ?_)
  ·have hlt : k < a.kids.length:=by omega
   have hx : a.kids[k]? = some a.kids[k]:=by simp [hlt]
   have hmem:=List.getElem_mem hlt
   have e1':=sizeL_next a.kids k hlt
   have e2':=deepL_next a.kids k hlt
   have e3':=sizeL_take a.kids (k + 1)
   have e4':=deepL_take a.kids (k + 1)
   have hnx:=formedL_next a.kids k hlt
   refine uA ?_
   refine TO.step rfl (OT.index tab rTree k h4 rfl rfl rfl rfl rfl (by first | rfl | omega | (simp only;omega)) rfl hx ?_)
   rintro b' i' h' hrd hA
   have hk':=(rTree_iff.1 hrd).kind
   (refine TO.step rfl (OT.loadA0 tab hA rfl rfl rfl rfl rfl ?_))
   refine uA ?_
   refine TO.step rfl (OT.alloc tab rfl rfl rfl rfl (fun b2 => ?_))
   refine uA ?_
   refine uT ?_
   refine uL ?_
   (refine TO.splitP rfl rfl (fun e8 => ?_) (fun e8 => ?_))
   ·refine uA ?_
    exact retQ_ret rfl uS (bad3 (formedL_false hmem (by rw [decide_eq_true (show a.kids[k].kind=8 by omega)];rfl)))
   refine uL ?_
   refine TO.step rfl (OT.arith (r':=d + 1) rfl rfl rfl rfl rfl rfl rfl (by omega) ?_)
   refine uA ?_
   refine TO.step rfl (OT.call rfl rfl rfl rfl rfl rfl goes48 ((ih _ hmem _ _ h' (rTree_iff.1 hrd) (Nat.le_trans (wide_kid hmem) hB) (d + 1) y (i + 2) bl (hset y) (by omega) (by omega)).x ?_));
   rintro _ _ L3 ⟨rfl,rfl,y',hL,hy'⟩
   have hL2 : ∀ (x1 x2 : Item),(x1 :: x2 :: L.set i (cellI bl y)).set (i + 2) (cellI bl y')=x1 :: x2 :: L.set i (cellI bl y'):=fun x1 x2=>by simp [List.set_set]
   replace hL:=hL.trans (hL2 (.cells b2 0 (treeC h')) _)
   subst hL
   refine uA ?_
   refine TC.cond (t := !(fitsB a.kids[k] y (d + 1) && a.kids[k].formed)) rfl (fun e9 => ?_) (fun e9 => ?_)
   ·rw [Bool.not_eq_true',Bool.and_eq_false_iff] at e9
    refine uA ?_
    rcases e9 with e9 | e9
    ·exact retQ_ret rfl uS (bad1 (fun hc=>(of_decide_eq_false e9) (by omega)))
    ·exact retQ_ret rfl uS (bad3 (formedL_false hmem (by rw [e9];simp)))
   ·rw [Bool.not_eq_false'] at e9
    have hyy:=hy' e9
    rw [Bool.and_eq_true] at e9
    have hfit:=of_decide_eq_true e9.1
    refine uA ?_
    refine TO.step rfl (OT.arith (r':=((k + 1 : Nat) : Int)) rfl rfl rfl rfl rfl rfl rfl (by omega) ?_)
    refine uA ?_
    exact ⟨(k + 1,y'),uH,uH,rfl,rfl,uS,⟨by simp only;omega,by simp only;omega,by simp only;omega,by simp only;omega,by simp only;rw [hnx,hI,e9.2,decide_eq_false (show ¬ a.kids[k].kind=8 by omega)];rfl⟩,by simp only;omega⟩
  rw [List.take_of_length_le (by omega)] at hy hd' hI
  have hall : (fitsB a z d && a.formed)=kindB a:=by
   unfold fitsB
   rw [formed_eq,hI,hhd,decide_eq_true (by omega)];rfl
  have good : ∀ {r : Bool},r=kindB a→Low m L i bl (fitsB a z d && a.formed) (z - a.size) (.bool r) m (L.set i (cellI bl y)):=fun hr=>⟨rfl,by rw [hall,hr],y,rfl,fun _=>by omega⟩
  have hkb:=kindB_7 h7
  refine uL ?_
  (refine TO.splitP rfl rfl (fun e5 => ?_) (fun e5 => ?_))
  ·simp only at e5
   refine uL ?_
   refine retQ_ret rfl uS (good ?_)
   rw [hkb,decide_eq_true (show 0 ≤ a.num by omega),Bool.true_and]
   congr 1
   apply propext
   (try simp only)
   omega
  ·simp only at e5
   refine uA ?_
   refine retQ_ret rfl uS (good ?_)
   rw [hkb,decide_eq_false (show ¬ 0 ≤ a.num by omega)];rfl
 have n7:=h7
 (refine TO.splitN rfl rfl (fun e0 => ?_) (fun e0 => ?_))
 ·refine uL ?_
  (refine TO.splitN rfl rfl (fun e1 => ?_) (fun e1 => ?_))
  ·refine uA ?_
   exact retQ_ret rfl uS (bad2 (by unfold headB;rw [← h2,decide_eq_false e1,decide_eq_false k4];rfl))
  refine uL ?_
  (refine TO.splitN rfl rfl (fun e3 => ?_) (fun e3 => ?_))
  ·refine uL ?_
   refine TC.condN rfl (fun e2 => ?_) (fun e2 => ?_)
   ·refine uA ?_
    exact retQ_ret rfl uS (bad2 (by unfold headB;rw [← h3,decide_eq_false e2,decide_eq_false h7];simp))
   have hhd : headB a=true:=by unfold headB;rw [← h2,← h3,decide_eq_true e1,decide_eq_true e2];simp
   refine uL ?_
   refine TC.loopK (ι:=Nat × Int) [1,2,3,43,44] rfl (fun x=>[(45, .int .i64 (x.1 : Int))]) (fun _=>m) (fun x => .cells b 0 (treeC ⟨q,n,u,s⟩) :: L.set i (cellI bl x.2)) (fun x=>x.1 ≤ a.kids.length∧x.2=z - 1 - sizeL (a.kids.take x.1)∧0 ≤ x.2∧(deepL (a.kids.take x.1) : Int) + d ≤ 100∧formedL (a.kids.take x.1)=true) (fun x=>a.kids.length - x.1) (0,z - 1) uH rfl uS ⟨Nat.zero_le _,by simp [sizeL],by simp only;omega,by simp [deepL];omega,rfl⟩ ?_
   rintro ⟨k,y⟩ ⟨hk,hy,hy0,hd',hI⟩
   simp only at hk hy hy0 hd' hI ⊢
   refine uA ?_
   refine TC.condP rfl (fun hlt' => ?_) (fun hlt' => ?_)
   ·have hlt : k < a.kids.length:=by omega
    have hx : a.kids[k]? = some a.kids[k]:=by simp [hlt]
    have hmem:=List.getElem_mem hlt
    have e1':=sizeL_next a.kids k hlt
    have e2':=deepL_next a.kids k hlt
    have e3':=sizeL_take a.kids (k + 1)
    have e4':=deepL_take a.kids (k + 1)
    have hnx:=formedL_next a.kids k hlt
    refine uA ?_
    refine TO.step rfl (OT.index tab rTree k h4 rfl rfl rfl rfl rfl (by first | rfl | omega | (simp only;omega)) rfl hx ?_)
    rintro b' i' h' hrd hA
    have hk':=(rTree_iff.1 hrd).kind
    (refine TO.step rfl (OT.loadA0 tab hA rfl rfl rfl rfl rfl ?_))
    refine uA ?_
    refine TO.step rfl (OT.alloc tab rfl rfl rfl rfl (fun b2 => ?_))
    refine uA ?_
    refine uT ?_
    refine uL ?_
    (refine TO.splitP rfl rfl (fun e8 => ?_) (fun e8 => ?_))
    ·refine uA ?_
     exact retQ_ret rfl uS (bad3 (formedL_false hmem (by rw [decide_eq_true (show a.kids[k].kind=8 by omega)];rfl)))
    refine uL ?_
    refine TO.step rfl (OT.arith (r':=d + 1) rfl rfl rfl rfl rfl rfl rfl (by omega) ?_)
    refine uA ?_
    refine TO.step rfl (OT.call rfl rfl rfl rfl rfl rfl goes48 ((ih _ hmem _ _ h' (rTree_iff.1 hrd) (Nat.le_trans (wide_kid hmem) hB) (d + 1) y (i + 2) bl (hset y) (by omega) (by omega)).x ?_));
    rintro _ _ L3 ⟨rfl,rfl,y',hL,hy'⟩
    have hL2 : ∀ (x1 x2 : Item),(x1 :: x2 :: L.set i (cellI bl y)).set (i + 2) (cellI bl y')=x1 :: x2 :: L.set i (cellI bl y'):=fun x1 x2=>by simp [List.set_set]
    replace hL:=hL.trans (hL2 (.cells b2 0 (treeC h')) _)
    subst hL
    refine uA ?_
    refine TC.cond (t := !(fitsB a.kids[k] y (d + 1) && a.kids[k].formed)) rfl (fun e9 => ?_) (fun e9 => ?_)
    ·rw [Bool.not_eq_true',Bool.and_eq_false_iff] at e9
     refine uA ?_
     rcases e9 with e9 | e9
     ·exact retQ_ret rfl uS (bad1 (fun hc=>(of_decide_eq_false e9) (by omega)))
     ·exact retQ_ret rfl uS (bad3 (formedL_false hmem (by rw [e9];simp)))
    ·rw [Bool.not_eq_false'] at e9
     have hyy:=hy' e9
     rw [Bool.and_eq_true] at e9
     have hfit:=of_decide_eq_true e9.1
     refine uA ?_
     refine TO.step rfl (OT.arith (r':=((k + 1 : Nat) : Int)) rfl rfl rfl rfl rfl rfl rfl (by omega) ?_)
     refine uA ?_
     exact ⟨(k + 1,y'),uH,uH,rfl,rfl,uS,⟨by simp only;omega,by simp only;omega,by simp only;omega,by simp only;omega,by simp only;rw [hnx,hI,e9.2,decide_eq_false (show ¬ a.kids[k].kind=8 by omega)];rfl⟩,by simp only;omega⟩
   rw [List.take_of_length_le (by omega)] at hy hd' hI
   have hall : (fitsB a z d && a.formed)=kindB a:=by
    unfold fitsB
    rw [formed_eq,hI,hhd,decide_eq_true (by omega)];rfl
   have good : ∀ {r : Bool},r=kindB a→Low m L i bl (fitsB a z d && a.formed) (z - a.size) (.bool r) m (L.set i (cellI bl y)):=fun hr=>⟨rfl,by rw [hall,hr],y,rfl,fun _=>by omega⟩
   by_cases hA : a.kind=1 ∨ a.kind=2 ∨ a.kind=3 ∨ a.kind=8
   ·have hkb:=kindB_leaf hA
    rcases hA with hA | hA | hA | hA
    ·obtain rfl : q=1:=h1.trans hA
     refine uL ?_
     refine retQ_ret rfl uS (good ?_)
     rw [hkb]
     congr 1
     apply propext
     (try simp only)
     omega
    ·obtain rfl : q=2:=h1.trans hA
     refine uL ?_
     refine retQ_ret rfl uS (good ?_)
     rw [hkb]
     congr 1
     apply propext
     (try simp only)
     omega
    ·obtain rfl : q=3:=h1.trans hA
     refine uL ?_
     refine retQ_ret rfl uS (good ?_)
     rw [hkb]
     congr 1
     apply propext
     (try simp only)
     omega
    ·obtain rfl : q=8:=h1.trans hA
     refine uL ?_
     refine retQ_ret rfl uS (good ?_)
     rw [hkb]
     congr 1
     apply propext
     (try simp only)
     omega
   by_cases hC : a.kind=5 ∨ a.kind=6
   ·have hkb:=kindB_5 hC
    rcases hC with hC | hC
    ·obtain rfl : q=5:=h1.trans hC
     refine uL ?_
     refine retQ_ret rfl uS (good ?_)
     rw [hkb]
     congr 1
     apply propext
     (try simp only)
     omega
    ·obtain rfl : q=6:=h1.trans hC
     refine uL ?_
     refine retQ_ret rfl uS (good ?_)
     rw [hkb]
     congr 1
     apply propext
     (try simp only)
     omega
   have hkb:=kindB_no hA n4 hC n7
   refine uL ?_
   refine TC.condP rfl (fun e5 => ?_) (fun e5 => ?_)
   ·simp only at e5;omega
   refine uA ?_
   refine TC.condP rfl (fun e5 => ?_) (fun e5 => ?_)
   ·simp only at e5;omega
   refine uA ?_
   refine TC.condP rfl (fun e5 => ?_) (fun e5 => ?_)
   ·simp only at e5;omega
   refine uA ?_
   refine TC.condP rfl (fun e5 => ?_) (fun e5 => ?_)
   ·simp only at e5;omega
   refine uA ?_
   refine TC.condP rfl (fun e5 => ?_) (fun e5 => ?_)
   ·simp only at e5;omega
   refine uA ?_
   refine TC.condP rfl (fun e5 => ?_) (fun e5 => ?_)
   ·simp only at e5;omega
   refine uA ?_
   refine TC.condP rfl (fun e5 => ?_) (fun e5 => ?_)
   ·simp only at e5;omega
   refine uL ?_
   (refine TO.splitP rfl rfl (fun e5 => ?_) (fun e5 => ?_))
   ·simp only at e5;omega
   refine uA ?_
   exact retQ_ret rfl uS (good hkb.symm)
  ·simp only at e3;omega
 ·simp only at e0;omega
set_option maxHeartbeats 800000 in
theorem isSound_law (a : Tree) (m : Mem) (L : List Item) (h : HTree) (hr : TreeRep m h a) (hB : a.wide ≤ 140737488355328) : TCall Tryz.prog 23 ⟨[treeV h]⟩ m L (Ret (.bool a.sound) m L):=by
 unfold TCall
 refine TCallX.enter Tryz.func23 rfl 6 rfl ?_
 refine uA ?_
 refine TO.step rfl (OT.box rfl rfl rfl rfl rfl (fun b => ?_))
 refine uA ?_
 refine TO.step rfl (OT.alloc tab rfl rfl rfl rfl (fun b2 => ?_))
 refine uA ?_
 refine uT ?_
 refine uL ?_
 refine TO.step rfl (OT.call rfl rfl rfl rfl rfl rfl goes48 ((tsound_law a _ _ h hr hB 1 20000 0 b2 rfl (by omega) (by omega)).x ?_));
 rintro v _ L3 ⟨rfl,rfl,y,rfl,_⟩
 refine uA ?_
 refine retQ_ret rfl uS ⟨rfl,rfl, ?_⟩
 unfold fitsB Tree.sound
 congr 2
 congr 1
 apply propext
 omega
attribute [local irreducible] Tree.sound
def sameB (a c : Tree) : Bool:=a.sound && (c.sound && teq a c)
set_option maxHeartbeats 800000 in
theorem tsame_law (a c : Tree) (m : Mem) (L : List Item) (h g : HTree) (hr : TreeRep m h a) (gr : TreeRep m g c) (hB : a.wide ≤ 140737488355328) (gB : c.wide ≤ 140737488355328) : TCall Tryz.prog 25 ⟨[treeV h,treeV g]⟩ m L (Ret (.bool (sameB a c)) m L):=by
 unfold TCall
 refine TCallX.enter Tryz.func25 rfl 16 rfl ?_
 refine uA ?_
 refine TO.step rfl (OT.box rfl rfl rfl rfl rfl (fun b => ?_))
 refine uA ?_
 refine TO.step rfl (OT.box rfl rfl rfl rfl rfl (fun b2 => ?_))
 refine uL ?_
 refine TO.step rfl (OT.call rfl rfl rfl rfl rfl rfl goes23 ((isSound_law a _ _ h hr hB).x ?_));
 rintro _ _ _ ⟨rfl,rfl,rfl⟩
 refine uA ?_
 refine TO.split (b:=a.sound) rfl rfl (fun e1 => ?_) (fun e1 => ?_)
 ·refine uL ?_
  refine TO.step rfl (OT.call rfl rfl rfl rfl rfl rfl goes23 ((isSound_law c _ _ g gr gB).x ?_));
  rintro _ _ _ ⟨rfl,rfl,rfl⟩
  refine uA ?_
  refine TO.split (b:=c.sound) rfl rfl (fun e2 => ?_) (fun e2 => ?_)
  ·refine uL ?_
   refine TO.step rfl (OT.call rfl rfl rfl rfl rfl rfl goes50 ((equal_law a c _ _ h g hr gr).x ?_));
   rintro _ _ _ ⟨rfl,rfl,rfl⟩
   refine uA ?_
   refine retQ_ret rfl uS ⟨rfl,rfl, ?_⟩
   rw [sameB,e1,e2];rfl
  ·refine uA ?_
   refine retQ_ret rfl uS ⟨rfl,rfl, ?_⟩
   rw [sameB,e1,e2];rfl
 ·refine uA ?_
  refine retQ_ret rfl uS ⟨rfl,rfl, ?_⟩
  rw [sameB,e1];rfl
end Go.Sep

