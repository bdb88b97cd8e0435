/-
  Part 11 of the proof: library, walks and plain laws.
-/
import Derived.Shelf.Strconv.Itoa3
import Derived.Test.YtiknfjdjbhbjhaaGreatDoorProg
import Derived.KernelRfl
import Derived.WalkKit
import Derived.Test.YtiknfjdjbhbjhaaGreatDoorB10
namespace Go.Proofs
open Go.Shelf
set_option linter.unusedVariables false
def Tryz.lays171_ren : Ren where
 f:=fun x=>match x with
  | 171=>24
  | 243=>48
  | 246=>85
  | 283=>146
  | 284=>147
  | 285=>148
  | 286=>149
  | 129=>144
  | 317=>213
  | 318=>214
  | 319=>215
  | 320=>216
  | 337=>291
  | 338=>292
  | n=>n
 t:=fun x=>match x with
  | 3=>3
  | 9=>9
  | 2=>2
  | 4=>4
  | 171=>193
  | 0=>0
  | 53=>97
  | 37=>23
  | 5=>5
  | 173=>195
  | 212=>252
  | 51=>189
  | 20=>20
  | 213=>253
  | 46=>140
  | 232=>370
  | 233=>371
  | n=>n
 g:=fun x=>match x with
  | 17=>3
  | 18=>6
  | 19=>7
  | n=>n
theorem Tryz.lays171 : LaysM.n171 Tryz.prog Tryz.lays171_ren where
 mixed:=rfl
 f129:=Tryz.func144.trans (congrArg some (by kernel_rfl))
 f171:=Tryz.func24.trans (congrArg some (by kernel_rfl))
 f243:=Tryz.func48.trans (congrArg some (by kernel_rfl))
 f246:=Tryz.func85.trans (congrArg some (by kernel_rfl))
 f283:=Tryz.func146.trans (congrArg some (by kernel_rfl))
 f284:=Tryz.func147.trans (congrArg some (by kernel_rfl))
 f285:=Tryz.func148.trans (congrArg some (by kernel_rfl))
 f286:=Tryz.func149.trans (congrArg some (by kernel_rfl))
 f317:=Tryz.func213.trans (congrArg some (by kernel_rfl))
 f318:=Tryz.func214.trans (congrArg some (by kernel_rfl))
 f319:=Tryz.func215.trans (congrArg some (by kernel_rfl))
 f320:=Tryz.func216.trans (congrArg some (by kernel_rfl))
 f337:=Tryz.func291.trans (congrArg some (by kernel_rfl))
 f338:=Tryz.func292.trans (congrArg some (by kernel_rfl))
 t0:=Tryz.underlying0
 a0:=Tryz.isAgg0
 z0:=Tryz.sizeOf0
 v0:=Tryz.zeroValue0
 t2:=Tryz.underlying2
 a2:=Tryz.isAgg2
 z2:=Tryz.sizeOf2
 v2:=Tryz.zeroValue2
 t3:=Tryz.underlying3
 a3:=Tryz.isAgg3
 z3:=Tryz.sizeOf3
 v3:=Tryz.zeroValue3
 t4:=Tryz.underlying4
 a4:=Tryz.isAgg4
 z4:=Tryz.sizeOf4
 v4:=Tryz.zeroValue4
 t5:=Tryz.underlying5
 a5:=Tryz.isAgg5
 z5:=Tryz.sizeOf5
 v5:=Tryz.zeroValue5
 t9:=Tryz.underlying9
 a9:=Tryz.isAgg9
 z9:=Tryz.sizeOf9
 v9:=Tryz.zeroValue9
 t20:=Tryz.underlying20
 a20:=Tryz.isAgg20
 z20:=Tryz.sizeOf20
 v20:=Tryz.zeroValue20
 t37:=Tryz.underlying23
 a37:=Tryz.isAgg23
 z37:=Tryz.sizeOf23
 v37:=Tryz.zeroValue23
 t46:=Tryz.underlying140
 a46:=Tryz.isAgg140
 z46:=Tryz.sizeOf140
 v46:=Tryz.zeroValue140
 t51:=Tryz.underlying189
 a51:=Tryz.isAgg189
 z51:=Tryz.sizeOf189
 v51:=Tryz.zeroValue189
 t53:=Tryz.underlying97
 a53:=Tryz.isAgg97
 z53:=Tryz.sizeOf97
 v53:=Tryz.zeroValue97
 t171:=Tryz.underlying193
 a171:=Tryz.isAgg193
 z171:=Tryz.sizeOf193
 v171:=Tryz.zeroValue193
 t173:=Tryz.underlying195
 a173:=Tryz.isAgg195
 z173:=Tryz.sizeOf195
 v173:=Tryz.zeroValue195
 t212:=Tryz.underlying252
 a212:=Tryz.isAgg252
 z212:=Tryz.sizeOf252
 v212:=Tryz.zeroValue252
 t213:=Tryz.underlying253
 a213:=Tryz.isAgg253
 z213:=Tryz.sizeOf253
 t232:=Tryz.underlying370
 a232:=Tryz.isAgg370
 z232:=Tryz.sizeOf370
 v232:=Tryz.zeroValue370
 t233:=Tryz.underlying371
 a233:=Tryz.isAgg371
 z233:=Tryz.sizeOf371
 v233:=Tryz.zeroValue371
 g17:=by kernel_rfl
 g18:=by kernel_rfl
 g19:=by kernel_rfl
 i0:=by kernel_rfl
 i2:=by kernel_rfl
 i3:=by kernel_rfl
 i4:=by kernel_rfl
 i5:=by kernel_rfl
 i9:=by kernel_rfl
 i20:=by kernel_rfl
 i37:=by kernel_rfl
 i46:=by kernel_rfl
 i51:=by kernel_rfl
 i53:=by kernel_rfl
 i171:=by kernel_rfl
 i173:=by kernel_rfl
 i212:=by kernel_rfl
 i232:=by kernel_rfl
 i233:=by kernel_rfl
 m17:=by kernel_rfl
 m18:=by kernel_rfl
 m19:=by kernel_rfl
theorem Tryz.strconv_Itoa (n : Int) (h0 : -9223372036854775808 ≤ n) (h1 : n ≤ 9223372036854775807) (w : World) (htab : Lib.TabIs Tryz.prog w "internal/strconv.uint64pow10" .u64 Lib.pow10Tab) :
  Calls Tryz.prog 24 #[.int .i64 n] w fun e w'=>e = .returned (.string ⟨(Lib.itoa n).toArray⟩) ∧ ∃ k os,w' = Go.Sort.grow (w.drewN k) os :=
 Any.strconv_Itoa Tryz.lays171 n h0 h1 w htab
end Go.Proofs
set_option linter.unusedVariables false
set_option linter.unusedSimpArgs false
namespace Go.Sep
inductive Tree where
 | mk (kind : Int) (name : Str) (num : Int) (kids : List Tree)
def Tree.kind : Tree→Int | .mk k _ _ _=>k
def Tree.name : Tree→Str | .mk _ n _ _=>n
def Tree.num : Tree→Int | .mk _ _ u _=>u
def Tree.kids : Tree→List Tree | .mk _ _ _ ks=>ks
theorem Tree.ind {P : Tree→Prop} (h : ∀ t,(∀ k ∈ t.kids,P k)→P t) (t : Tree) : P t :=
 Tree.rec (motive_1:=P) (motive_2:=fun l => ∀ k ∈ l,P k) (fun kind name num kids ih=>h (.mk kind name num kids) ih) (fun k hk=>by cases hk)
  (fun a l ha hl k hk=>by
   rcases List.mem_cons.1 hk with rfl | hk
   ·exact ha
   ·exact hl k hk) t
structure HTree where
 kind : Int
 name : Str
 num : Int
 kids : Sl
@[reducible] def treeC (h : HTree) : List Value:=[.int .i64 h.kind,strV h.name, .int .i64 h.num,h.kids.v]
@[reducible] def treeV (h : HTree) : Value := .agg ⟨[.int .i64 h.kind,strV h.name, .int .i64 h.num,h.kids.v]⟩
def RT : Type:={ rep : Mem→HTree→Tree→Prop // ∀ m m' h a,m ≤ m' → rep m h a→rep m' h a }
def mkR (x : RT) : R HTree Tree where
 size:=4
 bytes:=56
 enc:=treeC
 rep:=x.1
 enc_len _:=rfl
 one _:=rfl
 mono hm h:=x.2 _ _ _ _ hm h
def rtN : Nat→RT
 | 0=>⟨fun _ _ _=>False,fun _ _ _ _ _ h=>h⟩
 | n + 1=>⟨fun m h a=>h.kind=a.kind∧h.name=a.name∧h.num=a.num∧SlRep (mkR (rtN n)) m h.kids a.kids,fun _ _ _ _ hm h=>⟨h.1,h.2.1,h.2.2.1,h.2.2.2.mono hm⟩⟩
def rTree : R HTree Tree:=mkR ⟨fun m h a => ∃ n,(rtN n).1 m h a,fun _ _ h a hm ⟨n,hn⟩=>⟨n,(rtN n).2 _ _ _ _ hm hn⟩⟩
theorem SlRep.imp {x y : RT} {m : Mem} (hxy : ∀ h a,x.1 m h a→y.1 m h a) {s : Sl} {l : List Tree} (h : SlRep (mkR x) m s l) : SlRep (mkR y) m s l:=by
 obtain ⟨hs,h1,h2⟩:=h.cells
 exact ⟨h.len,h.cap,h.fit,hs,All2.mono hxy h1,h2⟩
structure TreeRep (m : Mem) (h : HTree) (a : Tree) : Prop where
 kind : h.kind=a.kind
 name : h.name=a.name
 num : h.num=a.num
 kids : SlRep rTree m h.kids a.kids
theorem TreeRep.mono {m m' : Mem} {h : HTree} {a : Tree} (hr : TreeRep m h a) (hm : m ≤ m') : TreeRep m' h a:=⟨hr.kind,hr.name,hr.num,hr.kids.mono hm⟩
end Go.Sep
set_option linter.unusedVariables false
set_option linter.unusedSimpArgs false
namespace Go.Ps
open Go.Sep
structure Tk where
 kind : Int
 text : Str
 num : Int
inductive Res (α : Type) where
 | ok (a : α) (k : Nat)
 | bad (k : Nat)
 | out
@[reducible] def F : Type:=Nat→Option Tk
@[reducible] def Pp (α : Type) : Type:=F→Nat→Res α
def ret {α : Type} (a : α) : Pp α:=fun _ k => .ok a k
def fail {α : Type} : Pp α:=fun _ k => .bad k
def dry {α : Type} : Pp α:=fun _ _ => .out
def bind {α β : Type} (p : Pp α) (g : α → Pp β) : Pp β:=fun f k =>
 match p f k with
 | .ok a k'=>g a f k'
 | .bad k' => .bad k'
 | .out => .out
def isM (s : Str) : F→Nat→Bool:=fun f k =>
 match f k with
 | some t=>(decide (t.kind=4) || decide (t.kind=5)) && decide (t.text=s)
 | none=>false
def isK (c : Int) : F→Nat→Bool:=fun f k =>
 match f k with
 | some t=>decide (t.kind=c)
 | none=>false
def tok {α : Type} (s : Str) (A B : Pp α) : Pp α:=fun f k=>bif isM s f k then A f (k + 1) else B f k
def need {α : Type} (s : Str) (A : Pp α) : Pp α:=tok s A fail
def tkn {α : Type} (c : Int) (A : Tk→Pp α) (B : Pp α) : Pp α:=fun f k =>
 match f k with
 | some t=>bif decide (t.kind=c) then A t f (k + 1) else B f k
 | none=>B f k
def name {α : Type} (A : Str→Pp α) : Pp α:=tkn 1 (fun t=>A t.text) fail
def peek {α : Type} (q : F→Nat→Bool) (A B : Pp α) : Pp α:=fun f k=>bif q f k then A f k else B f k
def oneOf {α : Type} (ops : List Str) (A : Str→Pp α) (B : Pp α) : Pp α:=fun f k =>
 match ops.find? (fun s=>isM s f k) with
 | some s=>A s f (k + 1)
 | none=>B f k
def commas {α : Type} : Nat→Pp α → Pp (List α)
 | 0,_=>dry
 | j + 1,X=>bind X fun a=>tok [44] (bind (commas j X) fun l=>ret (a :: l)) (ret [a])
def upto {α : Type} : Nat→Str→Pp α → Pp (List α)
 | 0,_,_=>dry
 | j + 1,s,X=>tok s (ret []) (bind X fun a=>bind (upto j s X) fun l=>ret (a :: l))
structure Gr where
 typ : Pp Tree
 block : Pp Tree
 stmt : Pp Tree
 branch : Pp Tree
 expr : Bool→Pp Tree
 unary : Bool→Pp Tree
def leaf (kind : Int) (s : Str) : Tree := .mk kind s 0 []
def begins : F→Nat→Bool:=fun f k=>isK 1 f k || (isM [42] f k || (isM [91] f k || isM [102,117,110,99] f k))
section
variable (N : Nat)
def inP {α : Type} (s : Str) (X : Pp α) : Pp (List α):=tok s (ret []) (bind (commas N X) fun l=>need s (ret l))
def resultsP (typ : Pp Tree) : Pp (List Tree) :=
 tok [40] (bind (commas N typ) fun l=>need [41] (ret l)) (peek begins (bind typ fun t=>ret [t]) (ret []))
def paramP (typ : Pp Tree) : Pp Tree:=name fun s=>bind typ fun t=>ret (.mk 8 s 0 [t])
def sigLike (kind : Int) (X typ : Pp Tree) : Pp Tree :=
 need [40] (bind (inP N [41] X) fun ps=>bind (resultsP N typ) fun rs=>ret (.mk kind [] (ps.length : Int) (ps++rs)))
def sigP (typ : Pp Tree) : Pp Tree:=sigLike N 7 (paramP typ) typ
def typP (typ : Pp Tree) : Pp Tree :=
 tok [42] (bind typ fun t=>ret (.mk 11 [] 0 [t]))
  (tok [91] (need [93] (bind typ fun t=>ret (.mk 12 [] 0 [t])))
   (tok [102,117,110,99] (sigLike N 13 typ typ) (name fun s=>ret (leaf 10 s))))
def blockP (stmt : Pp Tree) : Pp Tree:=need [123] (bind (upto N [125] stmt) fun l=>ret (.mk 20 [] 0 l))
def branchP (expr block branch : Pp Tree) : Pp Tree :=
 need [105,102] (bind expr fun c=>bind block fun b=>tok [101,108,115,101]
  (peek (isM [105,102]) (bind branch fun e=>ret (.mk 25 [] 0 [c,b,e])) (bind block fun e=>ret (.mk 25 [] 0 [c,b,e])))
  (ret (.mk 25 [] 0 [c,b])))
def forP (expr block : Pp Tree) : Pp Tree :=
 peek (isM [123]) (bind block fun b=>ret (.mk 26 [] 0 [b])) (bind expr fun c=>bind block fun b=>ret (.mk 26 [] 0 [c,b]))
def isNm (t : Tree) : Bool:=decide (t.kind=44)
def isPl (t : Tree) : Bool:=decide (t.kind=44) || (decide (t.kind=48) || (decide (t.kind=49) || (decide (t.kind=52) && decide (t.name=[42]))))
def isC1 : List Tree→Bool
 | [t]=>decide (t.kind=51)
 | _=>false
def tokIf {α : Type} (c : Bool) (s : Str) (A B : Pp α) : Pp α:=bif c then tok s A B else B
def assignP (expr : Pp Tree) (left : List Tree) : Pp Tree :=
 tokIf (left.all isNm) [58,61] (bind (commas N expr) fun l=>ret (.mk 22 [] (left.length : Int) (left++l)))
  (tokIf (left.all isPl) [61] (bind (commas N expr) fun l=>ret (.mk 23 [] (left.length : Int) (left++l)))
   (bif isC1 left then peek (isM [59]) (ret (.mk 24 [] 0 left)) fail else fail))
def simpleP (typ expr : Pp Tree) : Pp Tree :=
 tok [118,97,114] (name fun s=>bind typ fun t=>tok [61] (bind expr fun e=>ret (.mk 21 s 0 [t,e])) (ret (.mk 21 s 0 [t])))
  (tok [114,101,116,117,114,110] (peek (isM [59]) (ret (leaf 27 [])) (bind (commas N expr) fun l=>ret (.mk 27 [] 0 l)))
   (tok [98,114,101,97,107] (ret (leaf 28 [])) (tok [99,111,110,116,105,110,117,101] (ret (leaf 29 [])) (bind (commas N expr) (assignP N expr)))))
def stmtP (g : Gr) : Pp Tree :=
 peek (isM [123]) g.block (peek (isM [105,102]) g.branch (tok [102,111,114] (forP (g.expr true) g.block) (bind (simpleP N g.typ (g.expr false)) fun s=>need [59] (ret s))))
def levels : List (List Str):=[[[124,124]],[[38,38]],[[61,61],[33,61],[60],[60,61],[62],[62,61]],[[43],[45]],[[42],[47],[37]]]
def binT (op : Str) (a b : Tree) : Tree := .mk 53 op 0 [a,b]
def loopB : Nat→List Str→Pp Tree→Tree→Pp Tree
 | 0,_,_,_=>dry
 | j + 1,ops,X,n=>oneOf ops (fun op=>bind X fun m=>loopB j ops X (binT op n m)) (ret n)
def binL (U : Pp Tree) : List (List Str)→Pp Tree
 | []=>U
 | ops :: rest=>bind (binL U rest) (loopB N ops (binL U rest))
def exprsP (s : Str) (expr : Pp Tree) : Pp (List Tree):=inP N s expr
def cutP (expr : Pp Tree) (num : Int) (ks : List Tree) : Pp Tree :=
 need [58] (tok [93] (ret (.mk 50 [] num ks)) (bind expr fun e=>need [93] (ret (.mk 50 [] (num + 2) (ks++[e])))))
def indexP (expr : Pp Tree) (n : Tree) : Pp Tree :=
 peek (isM [58]) (cutP expr 0 [n]) (bind expr fun e=>tok [93] (ret (.mk 49 [] 0 [n,e])) (cutP expr 1 [n,e]))
def postP (expr : Pp Tree) : Nat→Tree→Pp Tree
 | 0,_=>dry
 | j + 1,n=>tok [46] (name fun s=>postP expr j (.mk 48 s 0 [n]))
   (tok [91] (bind (indexP expr n) fun t=>postP expr j t)
    (tok [40] (bind (exprsP N [41] expr) fun l=>postP expr j (.mk 51 [] 0 (n :: l))) (ret n)))
def primP (typ block expr : Pp Tree) (h : Bool) : Pp Tree :=
 tkn 2 (fun t=>ret (.mk 40 [] t.num [])) (tkn 3 (fun t=>ret (leaf 41 t.text))
  (tok [116,114,117,101] (ret (.mk 42 [] 1 [])) (tok [102,97,108,115,101] (ret (leaf 42 [])) (tok [110,105,108] (ret (leaf 43 []))
   (tok [40] (bind expr fun t=>need [41] (ret t))
    (tok [91] (need [93] (bind typ fun t=>need [123] (bind (exprsP N [125] expr) fun l=>ret (.mk 46 [] 0 (t :: l)))))
     (tok [102,117,110,99] (bind (sigP N typ) fun s=>bind block fun b=>ret (.mk 47 [] 0 [s,b]))
      (name fun s=>bif h then ret (leaf 44 s) else tok [123] (bind (exprsP N [125] expr) fun l=>ret (.mk 45 s 0 l)) (ret (leaf 44 s))))))))))
def unaryP (g : Gr) (h : Bool) : Pp Tree :=
 oneOf [[45],[33],[38],[42]] (fun op=>bind (g.unary h) fun t=>ret (.mk 52 op 0 [t])) (bind (primP N g.typ g.block (g.expr false) h) (postP N (g.expr false) N))
def Gr.step (g : Gr) : Gr where
 typ:=typP N g.typ
 block:=blockP N g.stmt
 stmt:=stmtP N g
 branch:=branchP (g.expr true) g.block g.branch
 expr h:=binL N (g.unary h) levels
 unary h:=unaryP N g h
def gr : Nat→Gr
 | 0=>⟨dry,dry,dry,dry,fun _=>dry,fun _=>dry⟩
 | n + 1=>(gr n).step N
end
end Go.Ps
set_option linter.unusedVariables false
set_option linter.unusedSimpArgs false
namespace Go.Pt
open Go.Sep Go.Ps
def digF : Nat→Nat→Str
 | 0,_=>[]
 | f + 1,n=>if n < 10 then [UInt8.ofNat (48 + n)] else digF f (n / 10)++[UInt8.ofNat (48 + n % 10)]
def digN (n : Nat) : Str:=digF 20 n
@[reducible] def mk (s : Str) : Tk:=⟨4,s,0⟩
@[reducible] def wd (s : Str) : Tk:=⟨5,s,0⟩
@[reducible] def nm (s : Str) : Tk:=⟨1,s,0⟩
def commaJ : List (List Tk)→List Tk
 | []=>[]
 | [t]=>t
 | t :: u :: ts=>t++mk [44] :: commaJ (u :: ts)
def nth (ts : List (List Tk)) (i : Nat) : List Tk:=ts.getD i []
end Go.Pt
set_option linter.unusedVariables false
set_option linter.unusedSimpArgs false
namespace Go.Sep
open Go.Proofs Go.RowKit
attribute [local irreducible] TC TO OT TCallX TCall DO DOt thenQ blockQ retQ At
theorem St.below {m : Mem} {w w' : World} {L : List Item} (h : St m w L) (hb : Below w.heap.size w w') : St m w' L:=by
 have hc : ∀ (b i : Nat) (v : Value),w.cell? ⟨b,i,none⟩ = some v→w'.cell? ⟨b,i,none⟩ = some v∧w'.frozen? ⟨b,i,none⟩ = w.frozen? ⟨b,i,none⟩:=fun b i v hv=>by
  have hlt:=World.block_lt_of_cell? _ _ hv
  have e:=hb.block b hlt
  exact ⟨by rw [World.cell?_of_block e];exact hv,World.frozen?_of_block e⟩
 refine ⟨hb.os.trans h.os,hb.tape.trans h.tape,hb.output.trans h.output,Nat.le_trans h.size hb.size,fun b hlt=>(hb.block b (Nat.lt_of_lt_of_le hlt h.size)).trans (h.pin b hlt),fun b i v hv=>(hc b i v (h.c b i v hv)).1,fun b x hx => ?_,fun b x hx => ?_,fun x hx => ?_,h.free,h.disj⟩
 ·obtain ⟨h1,h2⟩:=h.o b x hx
  have hlt : b < w.heap.size:=(Array.getElem?_eq_some_iff.1 h1).1
  exact ⟨(hb.block b hlt).trans h1,h2⟩
 ·obtain ⟨arr,fr,h1,h2⟩:=h.t b x hx
  have hlt : b < w.heap.size:=(Array.getElem?_eq_some_iff.1 h1).1
  exact ⟨arr,fr,(hb.block b hlt).trans h1,h2⟩
 ·have hi:=h.items x hx
  have hc2 : ∀ (b i : Nat) (v : Value),w.cell? ⟨b,i,none⟩ = some v→w'.cell? ⟨b,i,none⟩ = some v ∧ ∀ j,w'.frozen? ⟨b,j,none⟩ = w.frozen? ⟨b,j,none⟩:=fun b i v hv=>by
   have e:=hb.block b (World.block_lt_of_cell? _ _ hv)
   exact ⟨by rw [World.cell?_of_block e];exact hv,fun j=>World.frozen?_of_block e⟩
  cases x with
  | cells b off vs =>
   intro j v hj
   obtain ⟨h1,h2⟩:=hi j v hj
   obtain ⟨h3,h4⟩:=hc2 _ _ _ h1
   exact ⟨h3,fun i=>(h4 i).trans (h2 i)⟩
  | room b off n =>
   intro j hj
   obtain ⟨v,h1,h2⟩:=hi j hj
   obtain ⟨h3,h4⟩:=hc2 _ _ _ h1
   exact ⟨v,h3,fun i=>(h4 i).trans (h2 i)⟩
  | obj b o =>
   obtain ⟨h1,h2⟩:=hi
   have hlt : b < w.heap.size:=(Array.getElem?_eq_some_iff.1 h1).1
   exact ⟨(hb.block b hlt).trans h1,h2⟩
def Tb (m : Mem) : Prop:=Lib.TabIs Tryz.prog m.pin "internal/strconv.uint64pow10" .u64 Lib.pow10Tab∧3 < m.pin.heap.size
theorem dec_dig : ∀ (f n : Nat),1 ≤ f→n < 10 ^ f→Lib.decDigits n=Pt.digF f n
 | 0,n,h,_=>by omega
 | f + 1,n,_,hn=>by
  rw [Lib.decDigits,Pt.digF]
  by_cases h : n < 10
  ·rw [if_pos h,dif_pos h]
  ·rw [if_neg h,dif_neg h]
   have hf : 1 ≤ f:=by
    rcases Nat.eq_zero_or_pos f with rfl | h1
    ·simp at hn;omega
    ·exact h1
   rw [dec_dig f (n / 10) hf (by rw [Nat.pow_succ] at hn;omega)]
theorem itoa_law (m : Mem) (L : List Item) (n : Int) (hT : Tb m) (h0 : 0 ≤ n) (h1 : n < 9223372036854775808) : TCall Tryz.prog 24 ⟨[.int .i64 n]⟩ m L (Made m L fun r _=>r=strV (Pt.digN n.toNat)):=by
 unfold TCall TCallX
 intro w hw
 have hg : Tryz.prog.globalNamed "internal/strconv.uint64pow10" = some 3:=by kernel_rfl
 have htab : Lib.TabIs Tryz.prog w "internal/strconv.uint64pow10" .u64 Lib.pow10Tab:=by
  have h2:=hT.1
  unfold Lib.TabIs World.var? at h2 ⊢
  rw [hg] at h2 ⊢
  simp only [Option.bind_some] at h2 ⊢
  rw [hw.pin 3 hT.2]
  exact h2
 refine (Tryz.strconv_Itoa n (by omega) (by omega) w htab).mono fun e w' ⟨he,k,os,hww⟩ => ?_
 subst he
 have hst : St m w' L:=hw.below (by
  subst hww
  exact ⟨rfl,rfl,rfl,by simp [Go.Sort.grow,World.drewN],fun b hb=>by simp only [Go.Sort.grow];rw [Array.getElem?_append_left (by simpa [World.drewN] using hb)];rfl⟩)
 refine ⟨m,L,hst,Mem.le_refl _,rfl, ?_⟩
 have hd : Lib.itoa n=Pt.digN n.toNat:=by
  unfold Lib.itoa Pt.digN
  rw [if_neg (by omega),dec_dig 20 n.toNat (by decide) (by omega)]
 rw [hd]
end Go.Sep
set_option linter.unusedVariables false
set_option linter.unusedSimpArgs false
namespace Go.Sep
open Go.Proofs Go.RowKit
attribute [local irreducible] TC TO OT TCallX TCall DO DOt thenQ blockQ retQ At
def Eb (m : Mem) : Prop:=(∃ te pe,m.pin.cell? ⟨1,0,none⟩ = some (.iface te pe))∧(∃ te pe,m.pin.cell? ⟨2,0,none⟩ = some (.iface te pe))
theorem ebm {m m' : Mem} (h : Eb m) (hm : m ≤ m') : Eb m':=by unfold Eb;rw [hm.pin];exact h
def AtoiR (t : Str) (r : Value) : Prop :=
 (∃ v : Int,Lib.atoiAll t = .ok v∧r = .tuple ⟨[.int .i64 v, .nilIface]⟩) ∨ ((∀ v,Lib.atoiAll t ≠ .ok v) ∧ ∃ (x : Int) (ty : TypeId) (pv : Value),r = .tuple ⟨[.int .i64 x, .iface ty pv]⟩)
theorem atoi_law (m : Mem) (L : List Item) (t : Str) (ht : t.length ≤ 140737488355328) (hE : Eb m) : TCall Tryz.prog 32 ⟨[strV t]⟩ m L (Made m L fun r _=>AtoiR t r):=by
 unfold TCall TCallX
 intro w hw
 have hcell : ∀ g te pe,m.pin.cell? ⟨g,0,none⟩ = some (.iface te pe)→w.cell? ⟨g,0,none⟩ = some (.iface te pe):=fun g te pe h=>by
  rw [World.cell?_of_block (hw.pin g (World.block_lt_of_cell? _ _ h))];exact h
 obtain ⟨⟨te,pe,h1⟩,⟨te',pe',h2⟩⟩:=hE
 have hsz : (⟨⟨t⟩⟩ : ByteArray).size=t.length:=rfl
 cases ha : Lib.atoiAll t
 ·rename_i v
  refine (Any.strconv_Atoi_ok Tryz.lays172 ⟨⟨t⟩⟩ (by rw [hsz];omega) v ha w).mono fun e w' ⟨he,hww⟩ => ?_
  subst he
  have hb : Below w.heap.size w w':=by
   rcases hww with rfl | ⟨b,rfl⟩
   ·exact Below.refl _ _
   ·exact Lib.bytesWorld_below _ _ _
  exact ⟨m,L,hw.below hb,Mem.le_refl _,rfl, .inl ⟨v,ha,rfl⟩⟩
 ·refine (Any.strconv_Atoi_syntax Tryz.lays172 ⟨⟨t⟩⟩ (by rw [hsz];omega) ha _ w (hcell _ _ _ h1) (.inr ⟨_,_,rfl⟩)).mono fun e w' ⟨N,he,_,_,hb⟩ => ?_
  subst he
  exact ⟨m,L,hw.below hb,Mem.le_refl _,rfl, .inr ⟨(by intro v h;rw [ha] at h;cases h),_,_,_,rfl⟩⟩
 ·refine (Any.strconv_Atoi_range Tryz.lays172 ⟨⟨t⟩⟩ (by rw [hsz];omega) ha _ w (hcell _ _ _ h2) (.inr ⟨_,_,rfl⟩)).mono fun e w' ⟨N,he,_,_,hb⟩ => ?_
  subst he
  exact ⟨m,L,hw.below hb,Mem.le_refl _,rfl, .inr ⟨(by intro v h;rw [ha] at h;cases h),_,_,_,rfl⟩⟩
end Go.Sep
set_option linter.unusedVariables false
namespace Go.Ev
open Go.Sep
noncomputable section
inductive Tr (α : Type) where
 | leaf
 | node (l : Tr α) (k : Nat) (v : Option α) (r : Tr α)
def Tr.get {α : Type} (t : Tr α) : Nat→Nat→Option α :=
 Tr.rec (motive:=fun _=>Nat→Nat→Option α) (fun _ _=>none)
  (fun _ k v _ gl gr p j=>bif Nat.beq p 0 then (bif Nat.beq k j then v else none) else bif Nat.beq (p % 2) 0 then gl (p / 2) j else gr (p / 2) j) t
def Tr.set {α : Type} (n : Nat) : Tr α → Nat→Nat→Option α → Tr α :=
 Nat.rec (motive:=fun _=>Tr α → Nat→Nat→Option α → Tr α) (fun _ _ _ _ => .leaf)
  (fun _ ih t p k v=>Tr.casesOn (motive:=fun _=>Tr α) t
   (bif Nat.beq p 0 then .node .leaf k v .leaf else bif Nat.beq (p % 2) 0 then .node (ih .leaf (p / 2) k v) 0 none .leaf else .node .leaf 0 none (ih .leaf (p / 2) k v))
   (fun l k0 v0 r=>bif Nat.beq p 0 then .node l k v r else bif Nat.beq (p % 2) 0 then .node (ih l (p / 2) k v) k0 v0 r else .node l k0 v0 (ih r (p / 2) k v))) n
@[reducible] def Tr.at {α : Type} (t : Tr α) (k : Nat) : Option α:=t.get k k
@[reducible] def Tr.put {α : Type} (t : Tr α) (k : Nat) (v : α) : Tr α:=Tr.set 40 t k k (some v)
@[reducible] def Tr.del {α : Type} (t : Tr α) (k : Nat) : Tr α:=Tr.set 40 t k k none
inductive R (α : Type) where
 | ok (a : α)
 | no (n : Nat)
inductive Blk where
 | cells (cs : List Value) (esz : Nat)
 | map (es : List (Value × Value))
structure S where
 m : Tr Blk
 next : Nat
abbrev U : Nat:=4611686018427387904
abbrev W : Nat:=4611686018427387905
def nth {α : Type} (l : List α) : Nat→Option α :=
 List.rec (motive:=fun _=>Nat→Option α) (fun _=>none) (fun a _ ih i=>bif Nat.beq i 0 then some a else ih (i - 1)) l
def dropN {α : Type} (l : List α) : Nat→List α :=
 List.rec (motive:=fun _=>Nat→List α) (fun _=>[]) (fun a l ih i=>bif Nat.beq i 0 then a :: l else ih (i - 1)) l
def takeN {α : Type} (l : List α) : Nat→Option (List α) :=
 List.rec (motive:=fun _=>Nat→Option (List α)) (fun n=>bif Nat.beq n 0 then some [] else none)
  (fun a _ ih n=>bif Nat.beq n 0 then some [] else match ih (n - 1) with
   | some r=>some (a :: r)
   | none=>none) l
def over {α : Type} (vs : List α) : List α → Option (List α) :=
 List.rec (motive:=fun _=>List α → Option (List α)) (fun cs=>some cs)
  (fun v _ ih cs=>match cs with
   | []=>none
   | _ :: cs=>match ih cs with
    | some r=>some (v :: r)
    | none=>none) vs
def splice {α : Type} (vs : List α) (cs : List α) : Nat→Option (List α) :=
 List.rec (motive:=fun _=>Nat→Option (List α)) (fun n=>bif Nat.beq n 0 then over vs [] else none)
  (fun c cs ih n=>bif Nat.beq n 0 then over vs (c :: cs) else match ih (n - 1) with
   | some r=>some (c :: r)
   | none=>none) cs
def vcells : Value→List Value
 | .agg ⟨cs⟩=>cs
 | v=>[v]
def flat : Value→Bool
 | .bool _ | .int _ _ | .float _ _ | .complex _ _ _ | .string _ | .pointer none | .slice none _ _ | .map none | .chan none | .nilFunc | .nilIface=>true
 | _=>false
def allFlat (l : List Value) : Bool:=List.rec (motive:=fun _=>Bool) true (fun v _ ih=>flat v && ih) l
def clo : Value→Bool
 | .agg ⟨cs⟩=>allFlat cs
 | v=>flat v
def one : Value→Bool
 | .agg _ | .tuple _=>false
 | _=>true
def ones (l : List Value) : Bool:=List.rec (motive:=fun _=>Bool) true (fun v _ ih=>one v && ih) l
def zc (i : TI) : Option (List Value):=bif allFlat (vcells i.zero) && Nat.beq (vcells i.zero).length i.size then some (vcells i.zero) else none
section ops
variable (ti : TypeId→Option TI)
def fieldOf (s : TypeId) (f : Nat) : Option Field :=
 match ti s with
 | some ⟨.struct fs,_,_,_⟩=>nth fs.toList f
 | _=>none
def elemOf (t : TypeId) : Option (TypeId × TI) :=
 match ti t with
 | some ⟨.slice e,_,_,_⟩=>match ti e with
  | some i=>some (e,i)
  | none=>none
 | _=>none
def getC (t : TypeId) (cs : List Value) (off : Nat) : Option Value :=
 match ti t with
 | some i=>bif TypeDesc.isAgg i.u then (match takeN (dropN cs off) i.size with
   | some l=>some (.agg ⟨l⟩)
   | none=>none) else nth cs off
 | none=>none
def putC (t : TypeId) (v : Value) : Option (List Value) :=
 match ti t with
 | some i=>bif Nat.beq (vcells v).length i.size then some (vcells v) else none
 | none=>none
def loB : IntKind→Int
 | .i8 => -128
 | .i16 => -32768
 | .i32 => -2147483648
 | .i64 => -9223372036854775808
 | _=>0
def hiB : IntKind→Int
 | .i8=>127
 | .i16=>32767
 | .i32=>2147483647
 | .i64=>9223372036854775807
 | .u8=>255
 | .u16=>65535
 | .u32=>4294967295
 | .u64=>18446744073709551615
def fits (k : IntKind) (n : Int) : Bool:=decide (loB k ≤ n) && decide (n ≤ hiB k)
def intR (k : IntKind) (n : Int) : Option Value:=some (.int k (bif fits k n then n else k.wrap n))
def kbeq : IntKind→IntKind→Bool
 | .i8, .i8 | .i16, .i16 | .i32, .i32 | .i64, .i64 | .u8, .u8 | .u16, .u16 | .u32, .u32 | .u64, .u64=>true
 | _,_=>false
def intBin (op : BinOp) (k : IntKind) (a b : Int) : Option Value :=
 match op with
 | .eql=>some (.bool (decide (a=b)))
 | .neq=>some (.bool (!decide (a=b)))
 | .lss=>some (.bool (decide (a < b)))
 | .leq=>some (.bool (decide (a ≤ b)))
 | .gtr=>some (.bool (decide (b < a)))
 | .geq=>some (.bool (decide (b ≤ a)))
 | .add=>intR k (a + b)
 | .sub=>intR k (a - b)
 | .mul=>intR k (a * b)
 | .or=>some (.int k (k.wrap (BitVec.ofInt k.bits a ||| BitVec.ofInt k.bits b).toNat))
 | _=>none
def strEq (a : List UInt8) : List UInt8→Bool :=
 List.rec (motive:=fun _=>List UInt8→Bool) (fun b=>match b with
  | []=>true
  | _ :: _=>false) (fun x _ ih b=>match b with
  | []=>false
  | y :: ys=>bif Nat.beq x.toNat y.toNat then ih ys else false) a
def isPtrT (t : TypeId) : Bool:=match ti t with
 | some ⟨.pointer _,_,_,_⟩=>true
 | _=>false
def isSlT (t : TypeId) : Bool:=match ti t with
 | some ⟨.slice _,_,_,_⟩=>true
 | _=>false
def isFnT (t : TypeId) : Bool:=match ti t with
 | some ⟨.func _ _ _,_,_,_⟩=>true
 | _=>false
def isIfT (t : TypeId) : Bool:=match ti t with
 | some ⟨.interface _,_,_,_⟩=>true
 | _=>false
def isC : Operand→Bool
 | .const _=>true
 | _=>false
def eqv (t : TypeId) (X Y : Operand) (x y : Value) : Option Bool :=
 match x,y with
 | .string ⟨⟨a⟩⟩, .string ⟨⟨b⟩⟩=>some (strEq a b)
 | .pointer none, .pointer q=>bif isPtrT ti t then some (match q with
  | none=>true
  | some _=>false) else none
 | .pointer (some _), .pointer none=>bif isPtrT ti t then some false else none
 | .slice none _ _, .slice q _ _=>bif isSlT ti t then some (match q with
  | none=>true
  | some _=>false) else none
 | .slice (some _) _ _, .slice none _ _=>bif isSlT ti t then some false else none
 | .nilFunc, .nilFunc=>bif isFnT ti t then some true else none
 | .func _ _ _, .nilFunc=>bif isFnT ti t then some false else none
 | .nilIface, .nilIface=>bif isIfT ti t && (isC X || isC Y) then some true else none
 | .iface _ _, .nilIface=>bif isIfT ti t then some false else none
 | _,_=>none
def bin (op : BinOp) (t : TypeId) (X Y : Operand) (x y : Value) : Option Value :=
 match x,y with
 | .int k a, .int k' b=>match op with
  | .shl=>match a,b with
   | .ofNat a, .ofNat b=>bif Nat.ble b k.bits then intR k (.ofNat (a * 2 ^ b)) else none
   | _,_=>none
  | .shr=>none
  | op=>bif kbeq k k' then intBin op k a b else none
 | x,y=>match op with
  | .eql=>match eqv ti t X Y x y with
   | some b=>some (.bool b)
   | none=>none
  | .neq=>match eqv ti t X Y x y with
   | some b=>some (.bool (!b))
   | none=>none
  | _=>none
section pure
variable (ρ : Nat→Option Value)
def ev : Operand→Option Value
 | .tmp t => ρ t
 | .const v=>bif clo v then some v else none
 | .func f=>some (.func (.func f) ⟨[]⟩ ⟨[]⟩)
 | .global _=>none
def evs (l : List Operand) : Option (List Value) :=
 List.rec (motive:=fun _=>Option (List Value)) (some []) (fun x _ ih=>match ev ρ x with
  | some v=>match ih with
   | some vs=>some (v :: vs)
   | none=>none
  | none=>none) l
def fillP (place : Nat→Option (Nat × TypeId)) (ps : List (Nat × Operand)) : List Value→Option (List Value) :=
 List.rec (motive:=fun _=>List Value→Option (List Value)) (fun cs=>some cs) (fun p _ ih cs=>match place p.1 with
  | some (off,t)=>match ev ρ p.2 with
   | some v=>match putC ti t v with
    | some vs=>match splice vs cs off with
     | some cs'=>ih cs'
     | none=>none
    | none=>none
   | none=>none
  | none=>none) ps
def zeros (z : List Value) (n : Nat) : List Value :=
 Nat.rec (motive:=fun _=>List Value) [] (fun _ ih=>z++ih) n
def intOf : Option Value→Option Nat
 | some (.int _ (.ofNat n))=>some n
 | _=>none
def boundOf : Option Operand→Nat→Option Nat
 | none,d=>some d
 | some x,_=>intOf (ev ρ x)
def sliceV (t : TypeId) (x : Value) (lo hi mx : Option Operand) : Option Value :=
 match x with
 | .string ⟨⟨s⟩⟩=>match ti t,mx with
  | some ⟨.string,_,_,_⟩,none=>match boundOf ρ lo 0,boundOf ρ hi s.length with
   | some l,some h=>bif Nat.ble l h && Nat.ble h s.length then (match takeN (dropN s l) (h - l) with
     | some r=>some (.string ⟨⟨r⟩⟩)
     | none=>none) else none
   | _,_=>none
  | _,_=>none
 | .slice none n c=>match elemOf ti t,boundOf ρ lo 0,boundOf ρ hi n,boundOf ρ mx c with
  | some _,some l,some h,some m=>bif Nat.beq c 0 && (Nat.beq l 0 && (Nat.beq h 0 && (Nat.beq m 0 && (hi.isSome || !mx.isSome)))) then some (.slice none 0 0) else none
  | _,_,_,_=>none
 | .slice (some ⟨b,o,_⟩) n c=>match elemOf ti t,boundOf ρ lo 0,boundOf ρ hi n with
  | some (_,ei),some l,some h=>match mx with
   | none=>bif Nat.ble U c then
     (bif Nat.ble l h && Nat.ble h n then (bif Nat.beq l 0 then some (.slice (some ⟨b,o,none⟩) h c) else bif Nat.blt l n then some (.slice (some ⟨b,o + l * ei.size,none⟩) (h - l) W) else none) else none)
    else bif Nat.ble l h && Nat.ble h c then some (.slice (some ⟨b,bif Nat.beq c l then o else o + l * ei.size,none⟩) (h - l) (c - l)) else none
   | some mx=>match intOf (ev ρ mx) with
    | some m=>bif hi.isSome && (Nat.ble l h && (Nat.ble h m && (bif Nat.ble U c then Nat.ble m n && Nat.blt n U else Nat.ble m c))) then
      some (.slice (some ⟨b,bif Nat.beq m l then o else o + l * ei.size,none⟩) (h - l) (m - l)) else none
    | none=>none
  | _,_,_=>none
 | _=>none
def opP (o : Op) : Option Value :=
 match o with
 | .move x=>ev ρ x
 | .assign x=>ev ρ x
 | .pick c a b=>match ev ρ c with
  | some (.bool t)=>bif t then ev ρ a else ev ρ b
  | _=>none
 | .nilCheck x=>match ev ρ x with
  | some (.pointer (some a))=>some (.pointer (some a))
  | _=>none
 | .fieldAddr s x f=>match ev ρ x,fieldOf ti s f with
  | some (.pointer (some ⟨b,o,_⟩)),some fl=>match ti fl.type with
   | some i=>bif Nat.beq i.size 0 then none else some (.pointer (some ⟨b,o + fl.offset,none⟩))
   | none=>none
  | _,_=>none
 | .field s x f=>match ev ρ x,fieldOf ti s f with
  | some (.agg ⟨cs⟩),some fl=>getC ti fl.type cs fl.offset
  | _,_=>none
 | .extract t i=>match ev ρ t with
  | some (.tuple ⟨vs⟩)=>nth vs i
  | _=>none
 | .binOp op t X Y _=>match ev ρ X,ev ρ Y with
  | some x,some y=>bin ti op t X Y x y
  | _,_=>none
 | .unOp .not _ x=>match ev ρ x with
  | some (.bool b)=>some (.bool (!b))
  | _=>none
 | .build t ⟨ps⟩=>match ti t with
  | some ⟨.struct fs,sz,by_,z⟩=>match zc ⟨.struct fs,sz,by_,z⟩ with
   | some zs=>match fillP ti ρ (fun i=>match nth fs.toList i with
     | some f=>some (f.offset,f.type)
     | none=>none) ps zs with
    | some l=>some (.agg ⟨l⟩)
    | none=>none
   | none=>none
  | _=>none
 | .makeFunc (.func f) ⟨first⟩ ⟨cap⟩=>match evs ρ first,evs ρ cap with
  | some a,some b=>some (.func (.func f) ⟨a⟩ ⟨b⟩)
  | _,_=>none
 | .indexAddr t x y=>match ev ρ x,intOf (ev ρ y),elemOf ti t with
  | some (.slice (some ⟨b,o,_⟩) n _),some i,some (_,ei)=>bif Nat.blt i n then some (.pointer (some ⟨b,o + i * ei.size,none⟩)) else none
  | _,_,_=>none
 | .index t x y=>match ev ρ x,intOf (ev ρ y),ti t with
  | some (.string ⟨⟨s⟩⟩),some i,some ⟨.string,_,_,_⟩=>match nth s i with
   | some c=>some (.int .u8 (.ofNat c.toNat))
   | none=>none
  | _,_,_=>none
 | .slice t x lo hi mx=>match ev ρ x with
  | some v=>sliceV ti ρ t v lo hi mx
  | none=>none
 | .convert s t x=>match ti s,ti t,ev ρ x with
  | some ⟨.int _,_,_,_⟩,some ⟨.int k,_,_,_⟩,some (.int _ n)=>intR k n
  | _,_,_=>none
 | .makeInterface t x=>match ti t,ev ρ x with
  | some ⟨.interface _,_,_,_⟩,_=>none
  | some _,some v=>some (.iface t v)
  | _,_=>none
 | .call ⟨.builtin .len,⟨[x]⟩,⟨[t]⟩⟩=>match ev ρ x,ti t with
  | some (.slice _ n _),some ⟨.slice _,_,_,_⟩=>some (.int .i64 (.ofNat n))
  | some (.string ⟨⟨s⟩⟩),some ⟨.string,_,_,_⟩=>some (.int .i64 (.ofNat s.length))
  | _,_=>none
 | .call ⟨.builtin .cap,⟨[x]⟩,⟨[t]⟩⟩=>match ev ρ x,ti t with
  | some (.slice _ _ c),some ⟨.slice _,_,_,_⟩=>bif Nat.ble U c then none else some (.int .i64 (.ofNat c))
  | _,_=>none
 | .call ⟨.builtin .min,⟨[x,y]⟩,_⟩=>match ev ρ x,ev ρ y with
  | some (.int k a),some (.int _ b)=>some (.int k (bif decide (b < a) then b else a))
  | _,_=>none
 | .call ⟨.builtin .max,⟨[x,y]⟩,_⟩=>match ev ρ x,ev ρ y with
  | some (.int k a),some (.int _ b)=>some (.int k (bif decide (a < b) then b else a))
  | _,_=>none
 | _=>none
inductive KK where
 | int
 | str
 | ptr
def keyIs (m : Tr Blk) (kk : KK) (k e : Value) : Option Bool :=
 match kk with
 | .int=>match k,e with
  | .int j a, .int j' b=>bif kbeq j j' then some (decide (a=b)) else none
  | _,_=>none
 | .str=>match k,e with
  | .string ⟨⟨a⟩⟩, .string ⟨⟨b⟩⟩=>some (strEq a b)
  | _,_=>none
 | .ptr=>match k,e with
  | .pointer (some ⟨i,o,none⟩), .pointer (some ⟨j,p,none⟩)=>match m.at i,m.at j with
   | some (.cells _ 0),some (.cells _ 0)=>some (Nat.beq i j && Nat.beq o p)
   | _,_=>none
  | _,_=>none
def find (m : Tr Blk) (kk : KK) (k : Value) (es : List (Value × Value)) : Option (Option (Nat × Value)) :=
 List.rec (motive:=fun _=>Option (Option (Nat × Value))) (some none) (fun e _ ih=>match keyIs m kk k e.1 with
  | some true=>some (some (0,e.2))
  | some false=>(match ih with
   | some (some (i,v))=>some (some (i + 1,v))
   | some none=>some none
   | none=>none)
  | none=>none) es
def mapT (t : TypeId) : Option (KK × TI) :=
 match ti t with
 | some ⟨.map k e,_,_,_⟩=>match ti k,ti e with
  | some ki,some ei=>match ki.u with
   | .int _=>some (.int,ei)
   | .string=>some (.str,ei)
   | .pointer e0=>match ti e0 with
    | some i0=>bif Nat.beq i0.size 0 then none else some (.ptr,ei)
    | none=>none
   | _=>none
  | _,_=>none
 | _=>none
def opR (m : Tr Blk) (o : Op) : Option Value :=
 match o with
 | .load t x=>match ev ρ x with
  | some (.pointer (some ⟨b,o,none⟩))=>match m.at b with
   | some (.cells cs _)=>getC ti t cs o
   | _=>none
  | _=>none
 | .lookup t x k ok=>match ev ρ x,ev ρ k,mapT ti t with
  | some (.map (some b)),some kv,some (kd,ei)=>match m.at b with
   | some (.map es)=>match find m kd kv es with
    | some (some (_,v))=>some (bif ok then .tuple ⟨[v, .bool true]⟩ else v)
    | some none=>bif clo ei.zero then some (bif ok then .tuple ⟨[ei.zero, .bool false]⟩ else ei.zero) else none
    | none=>none
   | _=>none
  | _,_,_=>none
 | .call ⟨.builtin .len,⟨[x]⟩,⟨[t]⟩⟩=>match ev ρ x,ti t with
  | some (.map (some b)),some ⟨.map _ _,_,_,_⟩=>match m.at b with
   | some (.map es)=>some (.int .i64 (.ofNat es.length))
   | _=>none
  | _,_=>none
 | _=>none
def opA (o : Op) : Option (Blk × (Nat→Value)) :=
 match o with
 | .alloc t=>match ti t with
  | some i=>match zc i with
   | some cs=>some (.cells cs 0,fun id => .pointer (some ⟨id,0,none⟩))
   | none=>none
  | none=>none
 | .box t x=>match ev ρ x with
  | some v=>match putC ti t v with
   | some cs=>some (.cells cs 0,fun id => .pointer (some ⟨id,0,none⟩))
   | none=>none
  | none=>none
 | .buildSlice t n ⟨ps⟩=>match elemOf ti t with
  | some (e,ei)=>match zc ei with
   | some z=>bif Nat.ble (n * ei.size) 16777216 && Nat.blt n U then (match fillP ti ρ (fun i=>some (i * ei.size,e)) ps (zeros z n) with
    | some cs=>some (.cells cs ei.size,fun id => .slice (some ⟨id,0,none⟩) n n)
    | none=>none) else none
   | none=>none
  | none=>none
 | .makeSlice t x y=>match elemOf ti t,intOf (ev ρ x),intOf (ev ρ y) with
  | some (_,ei),some n,some c=>match zc ei with
   | some z=>bif Nat.beq n c && (Nat.blt 0 ei.bytes && Nat.ble (n * ei.bytes) 281474976710656) then some (.cells (zeros z n) ei.size,fun id => .slice (some ⟨id,0,none⟩) n n) else none
   | none=>none
  | _,_,_=>none
 | .makeMap _ none=>some (.map [],fun id => .map (some id))
 | .convert s t x=>match ti s,elemOf ti t,ev ρ x with
  | some ⟨.string,_,_,_⟩,some (_,⟨.int .u8,_,_,_⟩),some (.string ⟨⟨l⟩⟩) =>
   some (.cells (l.map fun c => .int .u8 (.ofNat c.toNat)) 1,fun id => .slice (some ⟨id,0,none⟩) l.length U)
  | _,_,_=>none
 | _=>none
def news (m : Tr Blk) (sz : Nat) (z : List Value) (isInt : Bool) (y : Value) : Option (Nat × List Value) :=
 match y with
 | .slice none n _=>bif isInt then none else bif Nat.beq n 0 then some (0,[]) else none
 | .slice (some ⟨b,o,none⟩) n _=>bif isInt then none else bif Nat.beq n 0 then some (0,[]) else match m.at b with
  | some (.cells cs _)=>match takeN (dropN cs o) (n * sz) with
   | some l=>some (n,l)
   | none=>none
  | _=>none
 | .string ⟨⟨l⟩⟩=>bif isInt then none else some (l.length,l.map fun c => .int .u8 (.ofNat c.toNat))
 | .int .i64 (.ofNat n)=>bif isInt then some (n,zeros z n) else none
 | _=>none
def appU (s : S) (sz b o n n2 : Nat) (ns : List Value) : Option (Value × S) :=
 match s.m.at b with
 | some (.cells cs esz)=>bif Nat.beq esz sz then (match takeN (dropN cs o) (n * sz) with
  | some l=>some (.slice (some ⟨s.next,0,none⟩) (n + n2) U,⟨(s.m.del b).put s.next (.cells (l++ns) sz),s.next + 1⟩)
  | none=>none) else none
 | _=>none
def appIn (s : S) (sz b o n n2 c : Nat) (ns : List Value) : Option (Value × S) :=
 match s.m.at b with
 | some (.cells cs esz)=>match splice ns cs (o + n * sz) with
  | some cs'=>some (.slice (some ⟨b,o,none⟩) (n + n2) c,⟨s.m.put b (.cells cs' esz),s.next⟩)
  | none=>none
 | _=>none
def oldOf (s : S) (sz : Nat) (a : Option Addr) (n : Nat) : Option (List Value) :=
 bif Nat.beq n 0 then some [] else match a with
  | some ⟨b,o,none⟩=>match s.m.at b with
   | some (.cells cs _)=>takeN (dropN cs o) (n * sz)
   | _=>none
  | _=>none
def appGrow (s : S) (sz : Nat) (a : Option Addr) (n n2 : Nat) (ns : List Value) : Option (Value × S) :=
 match oldOf s sz a n with
 | some l=>some (.slice (some ⟨s.next,0,none⟩) (n + n2) U,⟨s.m.put s.next (.cells (l++ns) sz),s.next + 1⟩)
 | none=>none
def appX (s : S) (sz : Nat) (a : Option Addr) (n c n2 : Nat) (ns : List Value) : Option (Value × S) :=
 bif Nat.beq n2 0 then (bif Nat.ble n c then some (.slice a n c,s) else none) else
 bif Nat.beq c U then (match a with
  | some ⟨b,o,none⟩=>appU s sz b o n n2 ns
  | _=>none)
 else bif Nat.beq c W then none else bif Nat.ble (n + n2) c then (match a with
  | some ⟨b,o,none⟩=>appIn s sz b o n n2 c ns
  | _=>none)
 else appGrow s sz a n n2 ns
def isIntU : TypeDesc→Bool
 | .int _=>true
 | _=>false
def appendE (s : S) (t t2 : TypeId) (x y : Value) : Option (Value × S) :=
 match elemOf ti t,ti t2 with
 | some (_,ei),some i2=>match zc ei with
  | some z=>match news s.m ei.size z (isIntU i2.u) y with
   | some (n2,ns)=>match x with
    | .slice a n c=>bif Nat.blt 0 ei.bytes && (Nat.ble ((n + n2) * ei.bytes) 140737488355328 && (ones ns && Nat.beq ns.length (n2 * ei.size))) then appX s ei.size a n c n2 ns else none
    | _=>none
   | none=>none
  | none=>none
 | _,_=>none
def copyE (s : S) (t t2 : TypeId) (x y : Value) : Option (Value × S) :=
 match elemOf ti t,elemOf ti t2,x,y with
 | some (_,ei),some _, .slice a n _, .slice a2 n2 _ =>
  bif Nat.beq (Nat.min n2 n) 0 then some (.int .i64 0,s) else
  match a,a2 with
  | some ⟨b,o,none⟩,some ⟨b2,o2,none⟩=>match s.m.at b,s.m.at b2 with
   | some (.cells cs esz),some (.cells cs2 _)=>match takeN (dropN cs2 o2) (Nat.min n2 n * ei.size) with
    | some l=>bif ones l then (match splice l cs o with
     | some cs'=>some (.int .i64 (.ofNat (Nat.min n2 n)),⟨s.m.put b (.cells cs' esz),s.next⟩)
     | none=>none) else none
    | none=>none
   | _,_=>none
  | _,_=>none
 | _,_,_,_=>none
def mapE (s : S) (t : TypeId) (x k v : Value) : Option S :=
 match x,mapT ti t with
 | .map (some b),some (kd,_)=>match s.m.at b with
  | some (.map es)=>match find s.m kd k es with
   | some (some _)=>none
   | some none=>some ⟨s.m.put b (.map (es++[(k,v)])),s.next⟩
   | none=>none
  | _=>none
 | _,_=>none
def opE (s : S) (o : Op) : Option (Option Value × S) :=
 match o with
 | .store t x y=>match ev ρ x,ev ρ y with
  | some (.pointer (some ⟨b,o,none⟩)),some v=>match s.m.at b,putC ti t v with
   | some (.cells cs esz),some vs=>bif ones vs then (match splice vs cs o with
    | some cs'=>some (none,⟨s.m.put b (.cells cs' esz),s.next⟩)
    | none=>none) else none
   | _,_=>none
  | _,_=>none
 | .mapUpdate t x k v=>match ev ρ x,ev ρ k,ev ρ v with
  | some x,some k,some v=>match mapE ti s t x k v with
   | some s'=>some (none,s')
   | none=>none
  | _,_,_=>none
 | .insert t x k v=>match ev ρ x,ev ρ k,ev ρ v with
  | some x,some k,some v=>match mapE ti s t x k v with
   | some s'=>some (none,s')
   | none=>none
  | _,_,_=>none
 | .call ⟨.builtin .append,⟨[x,y]⟩,⟨[t,t2]⟩⟩=>match ev ρ x,ev ρ y with
  | some x,some y=>match appendE ti s t t2 x y with
   | some (v,s')=>some (some v,s')
   | none=>none
  | _,_=>none
 | .call ⟨.builtin .copy,⟨[x,y]⟩,⟨[t,t2]⟩⟩=>match ev ρ x,ev ρ y with
  | some x,some y=>match copyE ti s t t2 x y with
   | some (v,s')=>some (some v,s')
   | none=>none
  | _,_=>none
 | _=>none
end pure
end ops
inductive FT where
 | nil
 | node (l : FT) (k : Nat) (fn : Func) (r : FT)
def getF (t : FT) : Nat→Option Func :=
 FT.rec (motive:=fun _=>Nat→Option Func) (fun _=>none) (fun _ k fn _ gl gr j=>bif Nat.beq j k then some fn else bif Nat.blt j k then gl j else gr j) t
inductive DItem where
 | fn (f : Nat) (vs cap : List Value)
 | coll
structure F where
 n : Nat
 ρ : Tr Value
 s : S
 d : List DItem
inductive Ex where
 | nor
 | exi (id : Nat)
 | ret
structure Fns where
 code : Code→F→R (Ex × F)
 call : Nat→List Value→S→R (Value × S)
inductive Cls where
 | p | a | r | e | c | d | x
def cls (ti : TypeId→Option TI) : Op→Cls
 | .move _ | .assign _ | .pick _ _ _ | .nilCheck _ | .fieldAddr _ _ _ | .field _ _ _ | .extract _ _ | .binOp _ _ _ _ _ | .unOp _ _ _ | .build _ _ | .makeFunc _ _ _
 | .indexAddr _ _ _ | .index _ _ _ | .slice _ _ _ _ _ | .makeInterface _ _ => .p
 | .alloc _ | .box _ _ | .buildSlice _ _ _ | .makeSlice _ _ _ | .makeMap _ _ => .a
 | .load _ _ | .lookup _ _ _ _ => .r
 | .store _ _ _ | .mapUpdate _ _ _ _ | .insert _ _ _ _ => .e
 | .convert s _ _=>match ti s with
  | some ⟨.string,_,_,_⟩ => .a
  | _ => .p
 | .call ⟨.builtin b,_,⟨ts⟩⟩=>match b with
  | .len=>match ts with
   | [t]=>match ti t with
    | some ⟨.map _ _,_,_,_⟩ => .r
    | _ => .p
   | _ => .x
  | .cap | .min | .max => .p
  | .append | .copy => .e
  | _ => .x
 | .call _ => .c
 | .defer _ => .d
 | _ => .x
def wantedQ (ρ : Nat→Option Value) (full : List Oper) (o : Oper) : Option Bool :=
 match o.guard with
 | none=>some true
 | some (j,want)=>match nth full j with
  | some oj=>match oj.dst with
   | some d=>match ρ d with
    | some (.bool b)=>some (bif want then b else !b)
    | some (.tuple _)=>some false
    | _=>none
   | none=>none
  | none=>none
def putF (f : F) (d : Option Nat) (v : Value) : Option F :=
 match d with
 | some d=>bif Nat.blt d f.n then some ⟨f.n,f.ρ.put d v,f.s,f.d⟩ else none
 | none=>some f
structure Env0 where
 ti : TypeId→Option TI
 ft : Nat→Option Func
 ix : Nat
def indexB (c : Nat) (l : List UInt8) : Option Nat :=
 List.rec (motive:=fun _=>Option Nat) none (fun x _ ih=>bif Nat.beq x.toNat c then some 0 else match ih with
  | some i=>some (i + 1)
  | none=>none) l
def indexI (c : Nat) (l : List UInt8) : Int:=match indexB c l with
 | some i => .ofNat i
 | none => -1
def callV (ρ : Nat→Option Value) (X : Operand) (as1 : List Operand) : Option (Nat × List Value × List Value × List Value) :=
 match ev ρ X,evs ρ as1 with
 | some (.func (.func f) ⟨first⟩ ⟨cap⟩),some vs=>some (f,first,vs,cap)
 | _,_=>none
section control
variable (E : Env0) (self : Fns)
def doOp (at_ : Nat) (full : List Oper) (o : Oper) (f : F) : R F :=
 match wantedQ (fun t=>f.ρ.at t) full o with
 | none => .no at_
 | some false=>match putF f o.dst undef with
  | some f => .ok f
  | none => .no at_
 | some true=>match cls E.ti o.op with
  | .p=>match opP E.ti (fun t=>f.ρ.at t) o.op,o.dst with
   | some v,some d=>match putF f (some d) v with
    | some f => .ok f
    | none => .no at_
   | _,_ => .no at_
  | .a=>match opA E.ti (fun t=>f.ρ.at t) o.op,o.dst with
   | some (b,g),some d=>match putF ⟨f.n,f.ρ,⟨f.s.m.put f.s.next b,f.s.next + 1⟩,f.d⟩ (some d) (g f.s.next) with
    | some f => .ok f
    | none => .no at_
   | _,_ => .no at_
  | .r=>match opR E.ti (fun t=>f.ρ.at t) f.s.m o.op,o.dst with
   | some v,some d=>match putF f (some d) v with
    | some f => .ok f
    | none => .no at_
   | _,_ => .no at_
  | .e=>match opE E.ti (fun t=>f.ρ.at t) f.s o.op with
   | some (v,s)=>match v,o.dst with
    | some v,some d=>match putF ⟨f.n,f.ρ,s,f.d⟩ (some d) v with
     | some f => .ok f
     | none => .no at_
    | none,none => .ok ⟨f.n,f.ρ,s,f.d⟩
    | _,_ => .no at_
   | none => .no at_
  | .c=>match o.op with
   | .call ⟨.value X,⟨as1⟩,_⟩=>match callV (fun t=>f.ρ.at t) X as1,o.dst with
    | some (g,first,vs,cap),some d=>bif Nat.beq g E.ix then (match first,vs,cap with
      | [],[.string ⟨⟨l⟩⟩, .int .u8 (.ofNat c)],[]=>bif Nat.blt c 256 then (match putF f (some d) (.int .i64 (indexI c l)) with
       | some f => .ok f
       | none => .no at_) else .no at_
      | _,_,_ => .no at_) else match self.call g (first++(vs++cap)) f.s with
     | .ok (v,s)=>match putF ⟨f.n,f.ρ,s,f.d⟩ (some d) v with
      | some f => .ok f
      | none => .no at_
     | .no n => .no n
    | _,_ => .no at_
   | _ => .no at_
  | .d=>match o.op with
   | .defer ⟨.value X,⟨as1⟩,_⟩=>match callV (fun t=>f.ρ.at t) X as1,o.dst with
    | some (g,first,vs,cap),none => .ok ⟨f.n,f.ρ,f.s, .fn g (first++vs) cap :: f.d⟩
    | _,_ => .no at_
   | _ => .no at_
  | .x => .no at_
structure Ent where
 e : Nat
 before : S
 k : List (Nat × Blk)
 after : S
structure G where
 vals : List (Nat × Value)
 pend : List (Nat × Blk)
 log : List Ent
 s : S
def lk {α : Type} (l : List (Nat × α)) (j : Nat) : Option α :=
 List.rec (motive:=fun _=>Option α) none (fun p _ ih=>bif Nat.beq p.1 j then some p.2 else ih) l
def bit (m j : Nat) : Bool:=Nat.beq ((m / 2 ^ j) % 2) 1
def before1 (ms : List (Nat × Nat)) (i : Nat) (es : List Edge) : Option Nat :=
 List.rec (motive:=fun _=>Option Nat) (some 0) (fun e _ ih=>bif Region.binds .any e then (match ih with
  | some r=>bif Nat.blt e.on i then (match lk ms e.on with
   | some m=>some (Nat.lor (Nat.lor r (2 ^ e.on)) m)
   | none=>none) else none
  | none=>none) else ih) es
def befores (ops : List Oper) : Nat→List (Nat × Nat)→Option (List (Nat × Nat)) :=
 List.rec (motive:=fun _=>Nat→List (Nat × Nat)→Option (List (Nat × Nat))) (fun _ ms=>some ms) (fun o _ ih i ms=>match o.after with
  | ⟨es⟩=>match before1 ms i es with
   | some m=>ih (i + 1) ((i,m) :: ms)
   | none=>none) ops
def writers (ops : List Oper) : Nat→List (Nat × Nat)→Option (List (Nat × Nat)) :=
 List.rec (motive:=fun _=>Nat→List (Nat × Nat)→Option (List (Nat × Nat))) (fun _ ws=>some ws) (fun o _ ih i ws=>match o.dst with
  | some d=>(match lk ws d with
   | some _=>none
   | none=>ih (i + 1) ((d,i) :: ws))
  | none=>ih (i + 1) ws) ops
def rhoD (ms ws : List (Nat × Nat)) (ρ : Tr Value) (vals : List (Nat × Value)) (i t : Nat) : Option Value :=
 match lk ws t with
 | none => ρ.at t
 | some j=>match lk ms i,lk ms j with
  | some mi,some mj=>bif bit mi j then lk vals j else bif bit mj i then ρ.at t else none
  | _,_=>none
def veqS : Value→Value→Bool
 | .bool a, .bool b=>bif a then b else !b
 | .int k a, .int j b=>kbeq k j && decide (a=b)
 | .string ⟨⟨a⟩⟩, .string ⟨⟨b⟩⟩=>strEq a b
 | .pointer none, .pointer none=>true
 | .pointer (some ⟨b,o,none⟩), .pointer (some ⟨c,p,none⟩)=>Nat.beq b c && Nat.beq o p
 | .slice none n c, .slice none m d=>Nat.beq n m && Nat.beq c d
 | .slice (some ⟨b,o,none⟩) n c, .slice (some ⟨b2,o2,none⟩) m d=>Nat.beq b b2 && (Nat.beq o o2 && (Nat.beq n m && Nat.beq c d))
 | .map none, .map none=>true
 | .map (some b), .map (some c)=>Nat.beq b c
 | .nilFunc, .nilFunc=>true
 | .nilIface, .nilIface=>true
 | _,_=>false
def veqL (a : List Value) : List Value→Bool :=
 List.rec (motive:=fun _=>List Value→Bool) (fun b=>match b with
  | []=>true
  | _ :: _=>false) (fun x _ ih b=>match b with
  | []=>false
  | y :: ys=>veqS x y && ih ys) a
def veq : Value→Value→Bool
 | .agg ⟨a⟩, .agg ⟨b⟩=>veqL a b
 | a,b=>veqS a b
def notU : Value→Bool
 | .tuple ⟨[]⟩=>false
 | _=>true
def chainOk (mi : Nat) : List Ent→Bool
 | []=>true
 | t :: _=>bit mi t.e
def isR : Cls→Bool
 | .r=>true
 | _=>false
def selP (m : Nat) (pend : List (Nat × Blk)) : List (Nat × Blk) :=
 List.rec (motive:=fun _=>List (Nat × Blk)) [] (fun p _ ih=>bif bit m p.1 then p :: ih else ih) pend
def rejP (m : Nat) (pend : List (Nat × Blk)) : List (Nat × Blk) :=
 List.rec (motive:=fun _=>List (Nat × Blk)) [] (fun p _ ih=>bif bit m p.1 then ih else p :: ih) pend
def putK (base : Nat) (k : List (Nat × Blk)) : Tr Blk→Tr Blk :=
 List.rec (motive:=fun _=>Tr Blk→Tr Blk) (fun t=>t) (fun p _ ih t=>ih (t.put (base + p.1) p.2)) k
def readOk (ti : TypeId→Option TI) (ρ : Nat→Option Value) (mi : Nat) (o : Op) (v : Value) (log : List Ent) : Bool :=
 List.rec (motive:=fun _=>Bool) true (fun t _ ih=>bif bit mi t.e then true else (match opR ti ρ t.before.m o with
  | some v'=>veq v' v
  | none=>false) && ih) log
def laterOk (ti : TypeId→Option TI) (ms ws : List (Nat × Nat)) (ρ : Tr Value) (vals : List (Nat × Value)) (me : Nat) (ops : List Oper) (m : Tr Blk) (e : Nat) : Nat→Bool :=
 List.rec (motive:=fun _=>Nat→Bool) (fun _=>true) (fun o _ ih i=>bif Nat.beq i e then true else
  (bif isR (cls ti o.op) then (bif bit me i then true else match lk vals i with
   | some (.tuple ⟨[]⟩)=>true
   | some v=>(match opR ti (fun t=>rhoD ms ws ρ vals i t) m o.op with
    | some v'=>veq v' v
    | none=>false)
   | none=>false) else true) && ih (i + 1)) ops
def seqOps (at_ : Nat) (full l : List Oper) : F→R F :=
 List.rec (motive:=fun _=>F→R F) (fun f => .ok f) (fun o _ ih f=>match doOp E self at_ full o f with
  | .ok f=>ih f
  | .no n => .no n) l
def effD (ρ : Nat→Option Value) (o : Oper) (s : S) : R (Value × S) :=
 match cls E.ti o.op with
 | .e=>match opE E.ti ρ s o.op,o.dst with
  | some (some v,s'),some _ => .ok (v,s')
  | some (none,s'),none => .ok (undef,s')
  | _,_ => .no 47
 | .c=>match o.op with
  | .call ⟨.value X,⟨as1⟩,_⟩=>match callV ρ X as1,o.dst with
   | some (k,first,vs,cap),some _=>bif Nat.beq k E.ix then .no 49 else self.call k (first++(vs++cap)) s
   | _,_ => .no 50
  | _ => .no 51
 | _ => .no 53
def drawOp (full : List Oper) (ms ws : List (Nat × Nat)) (base : Nat) (ρ : Tr Value) (o : Oper) (i : Nat) (g : G) : R G :=
 match lk ms i with
 | none => .no 41
 | some mi=>match wantedQ (fun t=>rhoD ms ws ρ g.vals i t) full o with
  | none => .no 42
  | some false => .ok ⟨(i,undef) :: g.vals,g.pend,g.log,g.s⟩
  | some true=>match cls E.ti o.op with
   | .p=>match opP E.ti (fun t=>rhoD ms ws ρ g.vals i t) o.op,o.dst with
    | some v,some _ => .ok ⟨(i,v) :: g.vals,g.pend,g.log,g.s⟩
    | _,_ => .no 43
   | .a=>match opA E.ti (fun t=>rhoD ms ws ρ g.vals i t) o.op,o.dst with
    | some (b,k),some _ => .ok ⟨(i,k (base + i)) :: g.vals,(i,b) :: g.pend,g.log,g.s⟩
    | _,_ => .no 44
   | .r=>match opR E.ti (fun t=>rhoD ms ws ρ g.vals i t) g.s.m o.op,o.dst with
    | some v,some _=>bif notU v && readOk E.ti (fun t=>rhoD ms ws ρ g.vals i t) mi o.op v g.log then .ok ⟨(i,v) :: g.vals,g.pend,g.log,g.s⟩ else .no 45
    | _,_ => .no 46
   | _=>bif chainOk mi g.log then
     (match effD E self (fun t=>rhoD ms ws ρ g.vals i t) o ⟨putK base (selP mi g.pend) g.s.m,g.s.next⟩ with
      | .ok (v,s')=>bif laterOk E.ti ms ws ρ g.vals mi full s'.m i 0 then .ok ⟨(i,v) :: g.vals,rejP mi g.pend,⟨i,g.s,selP mi g.pend,s'⟩ :: g.log,s'⟩ else .no 52
      | .no n => .no n)
    else .no 53
def drawL (full : List Oper) (ms ws : List (Nat × Nat)) (base : Nat) (ρ : Tr Value) (l : List Oper) : Nat→G→R G :=
 List.rec (motive:=fun _=>Nat→G→R G) (fun _ g => .ok g) (fun o _ ih i g=>match drawOp E self full ms ws base ρ o i g with
  | .ok g'=>ih (i + 1) g'
  | .no n => .no n) l
def putAll (N : Nat) (vals : List (Nat × Value)) (ops : List Oper) : Nat→Tr Value→Option (Tr Value) :=
 List.rec (motive:=fun _=>Nat→Tr Value→Option (Tr Value)) (fun _ ρ=>some ρ) (fun o _ ih i ρ=>match o.dst with
  | some d=>bif Nat.blt d N then (match lk vals i with
   | some v=>ih (i + 1) (ρ.put d v)
   | none=>none) else none
  | none=>ih (i + 1) ρ) ops
def drawOps (ops : List Oper) (f : F) : R F :=
 match befores ops 0 [],writers ops 0 [] with
 | some ms,some ws=>bif Region.noSelect ⟨ops⟩ then (match drawL E self ops ms ws f.s.next f.ρ ops 0 ⟨[],[],[],⟨f.s.m,f.s.next + ops.length⟩⟩ with
  | .ok g=>match putAll f.n g.vals ops 0 f.ρ with
   | some ρ => .ok ⟨f.n, ρ,⟨putK f.s.next g.pend g.s.m,g.s.next⟩,f.d⟩
   | none => .no 61
  | .no n => .no n) else .no 63
 | _,_ => .no 62
def stepCode : Code→F→R (Ex × F)
 | .skip,f => .ok (.nor,f)
 | .label _,f => .ok (.nor,f)
 | .ret,f => .ok (.ret,f)
 | .exit id,f => .ok (.exi id,f)
 | .region id ⟨ops⟩ draw,f=>match (bif draw then drawOps E self ops f else seqOps E self id ops ops f) with
  | .ok f => .ok (.nor,f)
  | .no n => .no n
 | .seq a b,f=>match self.code a f with
  | .ok (e,f')=>match e with
   | .nor=>self.code b f'
   | .exi i => .ok (.exi i,f')
   | .ret => .ok (.ret,f')
  | .no n => .no n
 | .cond c x y,f=>match ev (fun t=>f.ρ.at t) c with
  | some (.bool t)=>self.code (bif t then x else y) f
  | _ => .no 7
 | .block id c,f=>match self.code c f with
  | .ok (e,f')=>match e with
   | .nor => .ok (.nor,f')
   | .exi i=>bif Nat.beq i id then .ok (.nor,f') else .ok (.exi i,f')
   | .ret => .ok (.ret,f')
  | .no n => .no n
 | .loop c,f=>match self.code c f with
  | .ok (e,f')=>match e with
   | .nor=>self.code (.loop c) f'
   | .exi i => .ok (.exi i,f')
   | .ret => .ok (.ret,f')
  | .no n => .no n
 | .rangeFunc x _ _ _,f=>match ev (fun t=>f.ρ.at t) x with
  | some (.func (.func g) ⟨first⟩ ⟨cap⟩)=>match self.call g (first++([.func (.yield 0) ⟨[]⟩ ⟨[]⟩]++cap)) f.s with
   | .ok (_,s) => .ok (.nor,⟨f.n,f.ρ,s, .coll :: f.d⟩)
   | .no n => .no n
  | _ => .no 8
 | _,_ => .no 9
def argT (l : List Value) : Nat→Tr Value→Tr Value :=
 List.rec (motive:=fun _=>Nat→Tr Value→Tr Value) (fun _ t=>t) (fun v _ ih i t=>ih (i + 1) (t.put i v)) l
def deferBody (c : Code) : Option (Nat × Nat × Code) :=
 match c with
 | .seq (.region _ ⟨[⟨some d0, .call ⟨.builtin .recover,⟨[]⟩,⟨[]⟩⟩,_,_,_,none⟩,⟨some d1, .assign (.tmp d2),_,_,_,none⟩]⟩ false) r=>bif Nat.beq d0 d2 then some (d0,d1,r) else none
 | _=>none
def runDefers (l : List DItem) : S→R S :=
 List.rec (motive:=fun _=>S→R S) (fun s => .ok s) (fun d _ ih s=>match d with
  | .coll=>ih s
  | .fn f vs cap=>match E.ft f with
   | some fn=>match fn.body with
    | some c=>match deferBody c,fn.results with
     | some (d0,d1,r),⟨[]⟩=>bif Nat.blt d0 fn.ntmps && (Nat.blt d1 fn.ntmps && Nat.ble (vs++cap).length fn.ntmps) then
      (match self.code r ⟨fn.ntmps,((argT (vs++cap) 0 .leaf).put d0 .nilIface).put d1 .nilIface,s,[]⟩ with
       | .ok (e,f')=>match e,f'.d with
        | .nor,[]=>ih f'.s
        | .ret,[]=>ih f'.s
        | _,_ => .no 11
       | .no n => .no n) else .no 12
     | _,_ => .no 13
    | none => .no 14
   | none => .no (100000 + f)) l
def resF (ρ : Nat→Option Value) (m : Tr Blk) (l : List ResultVar) : Option (List Value) :=
 List.rec (motive:=fun _=>Option (List Value)) (some []) (fun r _ ih=>match (match r with
   | .tmp t => ρ t
   | .cell a t=>match ρ a with
    | some (.pointer (some ⟨b,o,none⟩))=>match m.at b with
     | some (.cells cs _)=>getC E.ti t cs o
     | _=>none
    | _=>none) with
  | some v=>match ih with
   | some vs=>some (v :: vs)
   | none=>none
  | none=>none) l
def stepCall (g : Nat) (args : List Value) (s : S) : R (Value × S) :=
 match E.ft g with
 | some fn=>match fn.body,fn.results with
  | some c,⟨rs⟩=>bif Nat.ble args.length fn.ntmps then (match self.code c ⟨fn.ntmps,argT args 0 .leaf,s,[]⟩ with
   | .ok (e,f)=>match e with
    | .exi _ => .no 21
    | _=>match runDefers E self f.d f.s with
     | .ok s=>match resF E (fun t=>f.ρ.at t) s.m rs with
      | some [v] => .ok (v,s)
      | some vs => .ok (.tuple ⟨vs⟩,s)
      | none => .no (22000 + g)
     | .no n => .no n
   | .no n => .no (n + 1000000 * (bif Nat.blt n 1000000 then g else 0))) else .no 23
  | none,_ => .no (24000000 + g)
 | none => .no (25000000 + g)
end control
def run (E : Env0) (n : Nat) : Fns :=
 Nat.rec (motive:=fun _=>Fns) ⟨fun _ _ => .no 1,fun _ _ _ => .no 2⟩ (fun _ ih=>⟨stepCode E ih,stepCall E ih⟩) n
end
end Go.Ev
set_option linter.unusedVariables false
set_option linter.unusedSimpArgs false
namespace Go.Ev
open Go.Sep
theorem Tr.get_leaf {α : Type} (p j : Nat) : (Tr.leaf : Tr α).get p j=none:=rfl
theorem Tr.get_node {α : Type} (l : Tr α) (k : Nat) (v : Option α) (r : Tr α) (p j : Nat) :
  (Tr.node l k v r).get p j=bif Nat.beq p 0 then (bif Nat.beq k j then v else none) else bif Nat.beq (p % 2) 0 then l.get (p / 2) j else r.get (p / 2) j:=rfl
theorem Tr.set_zero {α : Type} (t : Tr α) (p k : Nat) (v : Option α) : Tr.set 0 t p k v = .leaf:=rfl
theorem Tr.set_leaf {α : Type} (n p k : Nat) (v : Option α) : Tr.set (n + 1) .leaf p k v=(bif Nat.beq p 0 then .node .leaf k v .leaf else bif Nat.beq (p % 2) 0 then .node (Tr.set n .leaf (p / 2) k v) 0 none .leaf else .node .leaf 0 none (Tr.set n .leaf (p / 2) k v)):=rfl
theorem Tr.set_node {α : Type} (n : Nat) (l : Tr α) (k0 : Nat) (v0 : Option α) (r : Tr α) (p k : Nat) (v : Option α) :
  Tr.set (n + 1) (.node l k0 v0 r) p k v=(bif Nat.beq p 0 then .node l k v r else bif Nat.beq (p % 2) 0 then .node (Tr.set n l (p / 2) k v) k0 v0 r else .node l k0 v0 (Tr.set n r (p / 2) k v)):=rfl
theorem Tr.get_set {α : Type} : ∀ (n : Nat) (t : Tr α) (p k : Nat) (v : Option α) (q j : Nat) (u : α),(Tr.set n t p k v).get q j=some u→(p=q∧k=j∧v=some u) ∨ (p ≠ q∧t.get q j=some u)
 | 0,t,p,k,v,q,j,u,h=>by rw [Tr.set_zero,Tr.get_leaf] at h;cases h
 | n + 1, .leaf,p,k,v,q,j,u,h=>by
  rw [Tr.set_leaf] at h
  cases hp : Nat.beq p 0 with
  | true =>
   have hp0:=Nat.eq_of_beq_eq_true hp
   simp only [hp,cond_true,Tr.get_node] at h
   cases hq : Nat.beq q 0 with
   | true =>
    have hq0:=Nat.eq_of_beq_eq_true hq
    simp only [hq,cond_true] at h
    cases hk : Nat.beq k j with
    | true=>simp only [hk,cond_true] at h;exact .inl ⟨by omega,Nat.eq_of_beq_eq_true hk,h⟩
    | false=>simp only [hk,cond_false] at h;cases h
   | false=>simp only [hq,cond_false,Tr.get_leaf,Bool.cond_self] at h;cases h
  | false =>
   have hp0:=Nat.ne_of_beq_eq_false hp
   simp only [hp,cond_false] at h
   cases he : Nat.beq (p % 2) 0 with
   | true =>
    simp only [he,cond_true,Tr.get_node] at h
    cases hq : Nat.beq q 0 with
    | true=>simp only [hq,cond_true,Bool.cond_self] at h;cases h
    | false =>
     have hq0:=Nat.ne_of_beq_eq_false hq
     simp only [hq,cond_false] at h
     cases hf : Nat.beq (q % 2) 0 with
     | true =>
      have e1:=Nat.eq_of_beq_eq_true he
      have e2:=Nat.eq_of_beq_eq_true hf
      simp only [hf,cond_true] at h
      rcases Tr.get_set n .leaf _ _ _ _ _ _ h with ⟨h1,h2,h3⟩ | ⟨_,h1⟩
      ·exact .inl ⟨by omega,h2,h3⟩
      ·cases h1
     | false=>simp only [hf,cond_false,Tr.get_leaf] at h;cases h
   | false =>
    simp only [he,cond_false,Tr.get_node] at h
    cases hq : Nat.beq q 0 with
    | true=>simp only [hq,cond_true,Bool.cond_self] at h;cases h
    | false =>
     have hq0:=Nat.ne_of_beq_eq_false hq
     simp only [hq,cond_false] at h
     cases hf : Nat.beq (q % 2) 0 with
     | true=>simp only [hf,cond_true,Tr.get_leaf] at h;cases h
     | false =>
      have e1:=Nat.ne_of_beq_eq_false he
      have e2:=Nat.ne_of_beq_eq_false hf
      simp only [hf,cond_false] at h
      rcases Tr.get_set n .leaf _ _ _ _ _ _ h with ⟨h1,h2,h3⟩ | ⟨_,h1⟩
      ·exact .inl ⟨by omega,h2,h3⟩
      ·cases h1
 | n + 1, .node l k0 v0 r,p,k,v,q,j,u,h=>by
  rw [Tr.set_node] at h
  cases hp : Nat.beq p 0 with
  | true =>
   have hp0:=Nat.eq_of_beq_eq_true hp
   simp only [hp,cond_true,Tr.get_node] at h
   cases hq : Nat.beq q 0 with
   | true =>
    have hq0:=Nat.eq_of_beq_eq_true hq
    simp only [hq,cond_true] at h
    cases hk : Nat.beq k j with
    | true=>simp only [hk,cond_true] at h;exact .inl ⟨by omega,Nat.eq_of_beq_eq_true hk,h⟩
    | false=>simp only [hk,cond_false] at h;cases h
   | false =>
    have hq0:=Nat.ne_of_beq_eq_false hq
    refine .inr ⟨by omega, ?_⟩
    rw [Tr.get_node];simp only [hq,cond_false] at h ⊢;exact h
  | false =>
   have hp0:=Nat.ne_of_beq_eq_false hp
   simp only [hp,cond_false] at h
   cases he : Nat.beq (p % 2) 0 with
   | true =>
    have e1:=Nat.eq_of_beq_eq_true he
    simp only [he,cond_true,Tr.get_node] at h
    cases hq : Nat.beq q 0 with
    | true =>
     have hq0:=Nat.eq_of_beq_eq_true hq
     refine .inr ⟨by omega, ?_⟩
     rw [Tr.get_node];simp only [hq,cond_true] at h ⊢;exact h
    | false =>
     have hq0:=Nat.ne_of_beq_eq_false hq
     simp only [hq,cond_false] at h
     cases hf : Nat.beq (q % 2) 0 with
     | true =>
      have e2:=Nat.eq_of_beq_eq_true hf
      simp only [hf,cond_true] at h
      rcases Tr.get_set n l _ _ _ _ _ _ h with ⟨h1,h2,h3⟩ | ⟨h0,h1⟩
      ·exact .inl ⟨by omega,h2,h3⟩
      ·refine .inr ⟨fun e=>h0 (by rw [e]), ?_⟩
       rw [Tr.get_node];simp only [hq,hf,cond_false,cond_true];exact h1
     | false =>
      have e2:=Nat.ne_of_beq_eq_false hf
      refine .inr ⟨fun e=>e2 (by rw [← e];exact e1), ?_⟩
      rw [Tr.get_node];simp only [hq,hf,cond_false] at h ⊢;exact h
   | false =>
    have e1:=Nat.ne_of_beq_eq_false he
    simp only [he,cond_false,Tr.get_node] at h
    cases hq : Nat.beq q 0 with
    | true =>
     have hq0:=Nat.eq_of_beq_eq_true hq
     refine .inr ⟨by omega, ?_⟩
     rw [Tr.get_node];simp only [hq,cond_true] at h ⊢;exact h
    | false =>
     have hq0:=Nat.ne_of_beq_eq_false hq
     simp only [hq,cond_false] at h
     cases hf : Nat.beq (q % 2) 0 with
     | true =>
      have e2:=Nat.eq_of_beq_eq_true hf
      refine .inr ⟨fun e=>e1 (by rw [e];exact e2), ?_⟩
      rw [Tr.get_node];simp only [hq,hf,cond_false,cond_true] at h ⊢;exact h
     | false =>
      have e2:=Nat.ne_of_beq_eq_false hf
      simp only [hf,cond_false] at h
      rcases Tr.get_set n r _ _ _ _ _ _ h with ⟨h1,h2,h3⟩ | ⟨h0,h1⟩
      ·exact .inl ⟨by omega,h2,h3⟩
      ·refine .inr ⟨fun e=>h0 (by rw [e]), ?_⟩
       rw [Tr.get_node];simp only [hq,hf,cond_false];exact h1
theorem Tr.at_put {α : Type} {t : Tr α} {k j : Nat} {v u : α} (h : (t.put k v).at j=some u) : (k=j∧v=u) ∨ (k ≠ j∧t.at j=some u):=by
 rcases Tr.get_set _ _ _ _ _ _ _ _ h with ⟨h1,_,h3⟩ | ⟨h1,h2⟩
 ·exact .inl ⟨h1,by simpa using h3⟩
 ·exact .inr ⟨h1,h2⟩
theorem Tr.at_del {α : Type} {t : Tr α} {k j : Nat} {u : α} (h : (t.del k).at j=some u) : k ≠ j∧t.at j=some u:=by
 rcases Tr.get_set _ _ _ _ _ _ _ _ h with ⟨_,_,h3⟩ | h
 ·cases h3
 ·exact h
theorem nth_eq {α : Type} : ∀ (l : List α) (i : Nat),nth l i=l[i]?
 | [],i=>by simp [nth]
 | a :: l,0=>rfl
 | a :: l,i + 1=>by
  rw [List.getElem?_cons_succ,← nth_eq l i]
  rfl
theorem dropN_eq {α : Type} : ∀ (l : List α) (i : Nat),dropN l i=l.drop i
 | [],i=>by simp [dropN]
 | a :: l,0=>rfl
 | a :: l,i + 1=>by
  rw [List.drop_succ_cons,← dropN_eq l i]
  rfl
theorem takeN_eq {α : Type} : ∀ (l : List α) (n : Nat) (r : List α),takeN l n=some r→r=l.take n∧n ≤ l.length
 | [],0,r,h=>by cases h;simp
 | [],n + 1,r,h=>by cases h
 | a :: l,0,r,h=>by cases h;simp
 | a :: l,n + 1,r,h=>by
  have h' : (match takeN l n with
   | some r=>some (a :: r)
   | none=>none)=some r:=h
  split at h'
  ·rename_i r' hr
   cases h'
   obtain ⟨h1,h2⟩:=takeN_eq l n r' hr
   subst h1
   simp;omega
  ·cases h'
theorem over_eq {α : Type} : ∀ (vs cs r : List α),over vs cs=some r→r=vs++cs.drop vs.length∧vs.length ≤ cs.length
 | [],cs,r,h=>by cases h;simp
 | v :: vs,[],r,h=>by cases h
 | v :: vs,c :: cs,r,h=>by
  have h' : (match over vs cs with
   | some r=>some (v :: r)
   | none=>none)=some r:=h
  split at h'
  ·rename_i r' hr
   cases h'
   obtain ⟨h1,h2⟩:=over_eq vs cs r' hr
   subst h1
   simp;omega
  ·cases h'
theorem splice_eq {α : Type} (vs : List α) : ∀ (cs : List α) (n : Nat) (r : List α),splice vs cs n=some r→r=cs.take n++vs++cs.drop (n + vs.length)∧n + vs.length ≤ cs.length
 | [],0,r,h=>by
  obtain ⟨h1,h2⟩:=over_eq vs [] r h
  have : vs=[]:=List.eq_nil_of_length_eq_zero (by simpa using h2)
  subst this;subst h1;simp
 | [],n + 1,r,h=>by cases h
 | c :: cs,0,r,h=>by
  obtain ⟨h1,h2⟩:=over_eq vs (c :: cs) r h
  subst h1;simpa using h2
 | c :: cs,n + 1,r,h=>by
  have h' : (match splice vs cs n with
   | some r=>some (c :: r)
   | none=>none)=some r:=h
  split at h'
  ·rename_i r' hr
   cases h'
   obtain ⟨h1,h2⟩:=splice_eq vs cs n r' hr
   subst h1
   refine ⟨by simp [Nat.add_right_comm],by simp;omega⟩
  ·cases h'
structure Loc where
 b : Nat
 base : Nat
 n : Nat
 esz : Nat
abbrev Ren:=Nat→Option Loc
mutual
inductive VR (φ : Ren) : Value→Value→Prop
 | same {v : Value} (h : flat v=true) : VR φ v v
 | ptr {id o : Nat} {L : Loc} (h : φ id=some L) : VR φ (.pointer (some ⟨id,o,none⟩)) (.pointer (some ⟨L.b,L.base + o,none⟩))
 | slice {id o n c : Nat} {L : Loc} (h : φ id=some L) (hc : c < U) : VR φ (.slice (some ⟨id,o,none⟩) n c) (.slice (some ⟨L.b,L.base + o,none⟩) n c)
 | sliceU {id o n c : Nat} {L : Loc} (h : φ id=some L) (hn : n ≤ c) (ho : o + c * L.esz=L.n) : VR φ (.slice (some ⟨id,o,none⟩) n U) (.slice (some ⟨L.b,L.base + o,none⟩) n c)
 | sliceW {id o n c : Nat} {L : Loc} (h : φ id=some L) (hn : n ≤ c) : VR φ (.slice (some ⟨id,o,none⟩) n W) (.slice (some ⟨L.b,L.base + o,none⟩) n c)
 | map {id : Nat} {L : Loc} (h : φ id=some L) : VR φ (.map (some id)) (.map (some L.b))
 | func {f : FuncId} {xs xs' ys ys' : List Value} (hx : VRs φ xs xs') (hy : VRs φ ys ys') : VR φ (.func (.func f) ⟨xs⟩ ⟨ys⟩) (.func (.func f) ⟨xs'⟩ ⟨ys'⟩)
 | yield {k l : Nat} : VR φ (.func (.yield k) ⟨[]⟩ ⟨[]⟩) (.func (.yield l) ⟨[]⟩ ⟨[]⟩)
 | iface {t : TypeId} {v v' : Value} (h : VR φ v v') : VR φ (.iface t v) (.iface t v')
 | agg {cs cs' : List Value} (h : VRs φ cs cs') : VR φ (.agg ⟨cs⟩) (.agg ⟨cs'⟩)
 | tuple {cs cs' : List Value} (h : VRs φ cs cs') : VR φ (.tuple ⟨cs⟩) (.tuple ⟨cs'⟩)
inductive VRs (φ : Ren) : List Value→List Value→Prop
 | nil : VRs φ [] []
 | cons {v v' : Value} {l l' : List Value} (h : VR φ v v') (hs : VRs φ l l') : VRs φ (v :: l) (v' :: l')
end
def Ren.le (φ φ' : Ren) : Prop := ∀ id L, φ id=some L → φ' id=some L
theorem Ren.le_refl (φ : Ren) : φ.le φ:=fun _ _ h=>h
theorem Ren.le_trans {a b c : Ren} (h : a.le b) (k : b.le c) : a.le c:=fun _ _ x=>k _ _ (h _ _ x)
structure Grow (s s' : S) (φ φ' : Ren) : Prop where
 le : φ.le φ'
 ext : ∀ id,id < s.next → φ' id = φ id
 nx : s.next ≤ s'.next
theorem Grow.refl (s : S) (φ : Ren) : Grow s s φ φ:=⟨φ.le_refl,fun _ _=>rfl,Nat.le_refl _⟩
theorem Grow.trans {s s' s'' : S} {φ φ' φ'' : Ren} (h : Grow s s' φ φ') (k : Grow s' s'' φ' φ'') : Grow s s'' φ φ'' :=
 ⟨Ren.le_trans h.le k.le,fun id hi=>(k.ext id (Nat.lt_of_lt_of_le hi h.nx)).trans (h.ext id hi),Nat.le_trans h.nx k.nx⟩
mutual
theorem VR.mono {φ φ' : Ren} (hl : φ.le φ') : ∀ {v u : Value},VR φ v u→VR φ' v u
 | _,_, .same h => .same h
 | _,_, .ptr h => .ptr (hl _ _ h)
 | _,_, .slice h hc => .slice (hl _ _ h) hc
 | _,_, .sliceU h hn ho => .sliceU (hl _ _ h) hn ho
 | _,_, .sliceW h hn => .sliceW (hl _ _ h) hn
 | _,_, .map h => .map (hl _ _ h)
 | _,_, .func hx hy => .func (hx.mono hl) (hy.mono hl)
 | _,_, .yield => .yield
 | _,_, .iface h => .iface (h.mono hl)
 | _,_, .agg h => .agg (h.mono hl)
 | _,_, .tuple h => .tuple (h.mono hl)
theorem VRs.mono {φ φ' : Ren} (hl : φ.le φ') : ∀ {v u : List Value},VRs φ v u→VRs φ' v u
 | _,_, .nil => .nil
 | _,_, .cons h hs => .cons (h.mono hl) (hs.mono hl)
end
theorem VRs.length {φ : Ren} : ∀ {l l' : List Value},VRs φ l l' → l.length=l'.length
 | _,_, .nil=>rfl
 | _,_, .cons _ hs=>by simp [hs.length]
theorem VRs.append {φ : Ren} : ∀ {a a' b b' : List Value},VRs φ a a' → VRs φ b b' → VRs φ (a++b) (a' ++ b')
 | _,_,_,_, .nil,h=>h
 | _,_,_,_, .cons h hs,k => .cons h (hs.append k)
theorem VRs.get {φ : Ren} : ∀ {l l' : List Value},VRs φ l l' → ∀ {i : Nat} {v : Value},l[i]? = some v → ∃ u,l'[i]? = some u∧VR φ v u
 | _,_, .nil,i,v,h=>by simp at h
 | _,_, .cons h hs,0,v,hv=>by simp at hv;subst hv;exact ⟨_,by simp,h⟩
 | _,_, .cons h hs,i + 1,v,hv=>by
  rw [List.getElem?_cons_succ] at hv ⊢
  exact hs.get hv
theorem VRs.take {φ : Ren} : ∀ {l l' : List Value},VRs φ l l' → ∀ n,VRs φ (l.take n) (l'.take n)
 | _,_, .nil,n=>by simpa using VRs.nil
 | _,_, .cons h hs,0 => .nil
 | _,_, .cons h hs,n + 1 => .cons h (hs.take n)
theorem VRs.drop {φ : Ren} : ∀ {l l' : List Value},VRs φ l l' → ∀ n,VRs φ (l.drop n) (l'.drop n)
 | _,_, .nil,n=>by simpa using VRs.nil
 | _,_, .cons h hs,0 => .cons h hs
 | _,_, .cons h hs,n + 1=>hs.drop n
theorem VRs.of_get {φ : Ren} : ∀ {l l' : List Value},l.length=l'.length→(∀ (i : Nat) (v : Value),l[i]? = some v → ∃ u,l'[i]? = some u∧VR φ v u)→VRs φ l l'
 | [],[],_,_ => .nil
 | [],_ :: _,h,_=>by simp at h
 | _ :: _,[],h,_=>by simp at h
 | a :: l,b :: l',h,hg=>by
  obtain ⟨u,h1,h2⟩:=hg 0 a (by simp)
  simp at h1;subst h1
  exact .cons h2 (VRs.of_get (by simpa using h) fun i v hv=>by
   have:=hg (i + 1) v (by simpa using hv)
   simpa using this)
def PairsR (φ : Ren) : List (Value × Value)→List MapEntry→Prop
 | [],[]=>True
 | (k,v) :: l,e :: es=>VR φ k e.key∧VR φ v e.val∧PairsR φ l es
 | _,_=>False
def BR (φ : Ren) (w : World) (L : Loc) : Blk→Prop
 | .cells cs esz=>L.esz=esz ∧ ∃ l et fr,w.heap[L.b]? = some (.cells ⟨l⟩ et fr)∧(∀ i,i < l.length → ¬ (fr.1 ≤ i∧i < fr.2))∧(esz=0→fr=(0,0))∧L.base + L.n=l.length∧cs.length ≤ L.n ∧
   ∀ (j : Nat) (v : Value),cs[j]? = some v → ∃ u,l[L.base + j]? = some u∧VR φ v u
 | .map es => ∃ ents clock,w.heap[L.b]? = some (.map ents clock)∧PairsR φ es ents.toList
structure Rel (pin : World) (X : Nat→Obj→Prop) (φ : Ren) (s : S) (w : World) : Prop where
 os : w.os=pin.os
 tape : w.tape=pin.tape
 output : w.output=pin.output
 dom : ∀ id L, φ id=some L→id < s.next
 live : ∀ id blk,s.m.at id=some blk → ∃ L, φ id=some L∧BR φ w L blk
 inj : ∀ id id' b b' L L',s.m.at id=some b→s.m.at id' = some b' → φ id=some L → φ id' = some L' → L.b=L'.b→id=id'
 priv : ∀ b o,X b o→w.heap[b]? = some o ∧ ∀ id blk L,s.m.at id=some blk → φ id=some L→L.b ≠ b
def ER (φ : Ren) (ρ : Nat→Option Value) (a : Act) : Prop := ∀ t v, ρ t=some v → ∃ u,a.tmps[t]? = some u∧VR φ v u
theorem ER.mono {φ φ' : Ren} (hl : φ.le φ') {ρ : Nat→Option Value} {a : Act} (h : ER φ ρ a) : ER φ' ρ a:=fun t v hv=>by
 obtain ⟨u,h1,h2⟩:=h t v hv
 exact ⟨u,h1,h2.mono hl⟩
theorem VR.ptr_inv {φ : Ren} {id o : Nat} {sp : Option Nat} {u : Value} (h : VR φ (.pointer (some ⟨id,o,sp⟩)) u) : ∃ L, φ id=some L∧sp=none∧u = .pointer (some ⟨L.b,L.base + o,none⟩):=by
 cases h with
 | same h=>cases h
 | ptr h=>exact ⟨_,h,rfl,rfl⟩
theorem VRs.ofFlat {φ : Ren} : ∀ {l : List Value},allFlat l=true→VRs φ l l
 | [],_ => .nil
 | v :: l,h=>by
  have h' : (flat v && allFlat l)=true:=h
  rw [Bool.and_eq_true] at h'
  exact .cons (.same h'.1) (VRs.ofFlat h'.2)
theorem VR.ofClo {φ : Ren} {v : Value} (h : clo v=true) : VR φ v v:=by
 unfold clo at h
 split at h
 ·exact .agg (VRs.ofFlat h)
 ·exact .same h
theorem ER.ev {φ : Ren} {ρ : Nat→Option Value} {a : Act} (h : ER φ ρ a) {x : Operand} {v : Value} (hx : ev ρ x=some v) : VR φ v (a.eval x):=by
 cases x with
 | tmp t =>
  obtain ⟨u,h1,h2⟩:=h t v hx
  simpa [Act.eval,h1] using h2
 | const u =>
  simp only [Ev.ev] at hx
  cases hc : clo u with
  | false=>simp [hc] at hx
  | true =>
   simp only [hc,cond_true,Option.some.injEq] at hx
   subst hx
   exact VR.ofClo hc
 | func f =>
  simp only [Ev.ev,Option.some.injEq] at hx
  subst hx
  exact .func .nil .nil
 | global g=>cases hx
end Go.Ev
set_option linter.unusedVariables false
set_option linter.unusedSimpArgs false
namespace Go.Ev
open Go.Sep
theorem VR.flat_inv {φ : Ren} {v u : Value} (h : VR φ v u) (hf : flat v=true) : u=v:=by
 cases h <;> first | rfl | (simp [flat] at hf)
theorem VR.agg_inv {φ : Ren} {cs : List Value} {u : Value} (h : VR φ (.agg ⟨cs⟩) u) : ∃ cs',u = .agg ⟨cs'⟩ ∧ VRs φ cs cs':=by
 cases h with
 | same h=>cases h
 | agg h=>exact ⟨_,rfl,h⟩
theorem VR.tuple_inv {φ : Ren} {cs : List Value} {u : Value} (h : VR φ (.tuple ⟨cs⟩) u) : ∃ cs',u = .tuple ⟨cs'⟩ ∧ VRs φ cs cs':=by
 cases h with
 | same h=>cases h
 | tuple h=>exact ⟨_,rfl,h⟩
theorem VR.slice_inv {φ : Ren} {id o n c : Nat} {sp : Option Nat} {u : Value} (h : VR φ (.slice (some ⟨id,o,sp⟩) n c) u) :
  sp=none ∧ ∃ L c', φ id=some L∧u = .slice (some ⟨L.b,L.base + o,none⟩) n c' ∧ ((c < U∧c' = c) ∨ (c=U∧n ≤ c' ∧ o + c' * L.esz=L.n) ∨ (c=W∧n ≤ c')):=by
 cases h with
 | same h=>cases h
 | slice h hc=>exact ⟨rfl,_,_,h,rfl, .inl ⟨hc,rfl⟩⟩
 | sliceU h hn ho=>exact ⟨rfl,_,_,h,rfl, .inr (.inl ⟨rfl,hn,ho⟩)⟩
 | sliceW h hn=>exact ⟨rfl,_,_,h,rfl, .inr (.inr ⟨rfl,hn⟩)⟩
theorem VR.func_inv {φ : Ren} {f : FuncId} {xs ys : List Value} {u : Value} (h : VR φ (.func (.func f) ⟨xs⟩ ⟨ys⟩) u) : ∃ xs' ys',u = .func (.func f) ⟨xs'⟩ ⟨ys'⟩ ∧ VRs φ xs xs' ∧ VRs φ ys ys':=by
 cases h with
 | same h=>cases h
 | func hx hy=>exact ⟨_,_,rfl,hx,hy⟩
section
variable {P : Program} (T : Tab P) {φ : Ren} {ρ : Nat→Option Value} {a : Act}
theorem fieldOf_eq (s : TypeId) (f : Nat) : fieldOf T.get s f=T.field s f:=by
 unfold fieldOf Tab.field
 split <;> simp_all [nth_eq]
theorem getC_part {t : TypeId} {cs cs' : List Value} {off : Nat} {v : Value} (hc : VRs φ cs cs') (h : getC T.get t cs off=some v) : ∃ u,T.part t cs' off=some u∧VR φ v u:=by
 unfold getC at h
 unfold Tab.part Tab.isAgg
 split at h
 ·rename_i i hi
  rw [hi]
  cases hg : TypeDesc.isAgg i.u with
  | true =>
   simp only [hg,cond_true] at h ⊢
   split at h
   ·rename_i l hl
    cases h
    obtain ⟨h1,h2⟩:=takeN_eq _ _ _ hl
    rw [dropN_eq] at h1
    subst h1
    rw [fl_eq]
    exact ⟨_,rfl, .agg ((hc.drop off).take i.size)⟩
   ·cases h
  | false =>
   simp only [hg,cond_false] at h ⊢
   rw [nth_eq] at h
   rw [fo_eq]
   exact hc.get h
 ·cases h
theorem getC_load {t : TypeId} {cs cs' : List Value} {off : Nat} {v : Value} (hc : VRs φ cs cs') (h : getC T.get t cs off=some v) : ∃ u,T.load t cs' off=some u∧VR φ v u:=by
 unfold getC at h
 unfold Tab.load Tab.isAgg
 split at h
 ·rename_i i hi
  rw [hi]
  cases hg : TypeDesc.isAgg i.u with
  | true =>
   simp only [hg,cond_true] at h ⊢
   split at h
   ·rename_i l hl
    cases h
    obtain ⟨h1,h2⟩:=takeN_eq _ _ _ hl
    rw [dropN_eq] at h1 h2
    subst h1
    have hlen:=hc.length
    have key : ∀ (n : Nat) (l : List Value),n ≤ l.length→takeF n l=some (l.take n):=by
     intro n
     induction n with
     | zero=>intro l _;rfl
     | succ n ih =>
      intro l hl
      match l,hl with
      | x :: l,hl=>simp [takeF,fo_eq,ih l (by simpa using hl)]
    rw [key _ _ (by simp only [List.length_drop] at h2 ⊢;omega)]
    exact ⟨_,rfl, .agg ((hc.drop off).take i.size)⟩
   ·cases h
  | false =>
   simp only [hg,cond_false] at h ⊢
   rw [nth_eq] at h
   rw [fo_eq]
   exact hc.get h
 ·cases h
theorem evs_run (hA : ER φ ρ a) : ∀ {xs : List Operand} {vs : List Value},evs ρ xs=some vs → ∃ us,xs.map a.eval=us∧VRs φ vs us
 | [],vs,h=>by cases h;exact ⟨[],rfl, .nil⟩
 | x :: xs,vs,h=>by
  have h' : (match ev ρ x with
   | some v=>match evs ρ xs with
    | some vs=>some (v :: vs)
    | none=>none
   | none=>none)=some vs:=h
  split at h'
  ·rename_i v hv
   split at h'
   ·rename_i ws hw
    cases h'
    obtain ⟨us,h1,h2⟩:=evs_run hA hw
    exact ⟨a.eval x :: us,by simp [h1], .cons (hA.ev hv) h2⟩
   ·cases h'
  ·cases h'
theorem intOf_run (hA : ER φ ρ a) {x : Operand} {n : Nat} (h : intOf (ev ρ x)=some n) : ∃ k,a.eval x = .int k (n : Int):=by
 unfold intOf at h
 split at h
 ·rename_i k m hx
  cases h
  exact ⟨k,(hA.ev hx).flat_inv rfl⟩
 ·cases h
theorem strEq_eq : ∀ (a b : List UInt8),strEq a b=decide (a=b)
 | [],[]=>rfl
 | [],_ :: _=>rfl
 | _ :: _,[]=>rfl
 | x :: xs,y :: ys=>by
  have e : strEq (x :: xs) (y :: ys)=bif Nat.beq x.toNat y.toNat then strEq xs ys else false:=rfl
  rw [e,strEq_eq xs ys]
  cases hb : Nat.beq x.toNat y.toNat with
  | true =>
   have : x=y:=UInt8.toNat.inj (Nat.eq_of_beq_eq_true hb)
   subst this
   simp
  | false =>
   have : x ≠ y:=fun e=>Nat.ne_of_beq_eq_false hb (by rw [e])
   simp [this]
theorem kbeq_eq {a b : IntKind} (h : kbeq a b=true) : a=b:=by cases a <;> cases b <;> first | rfl | cases h
theorem fits_wrap {k : IntKind} {n : Int} (h : fits k n=true) : k.wrap n=n:=by
 unfold fits at h
 rw [Bool.and_eq_true,decide_eq_true_eq,decide_eq_true_eq] at h
 obtain ⟨h1,h2⟩:=h
 cases k <;> simp only [loB,hiB] at h1 h2 <;> simp only [IntKind.wrap,IntKind.bits,IntKind.signed] <;> simp <;> omega
theorem intR_eq (k : IntKind) (n : Int) : intR k n=some (.int k (k.wrap n)):=by
 unfold intR
 cases h : fits k n with
 | true=>simp [fits_wrap h]
 | false=>rfl
theorem isPtrT_get {t : TypeId} (h : isPtrT T.get t=true) : ∃ i e,T.get t=some i∧i.u = .pointer e:=by
 unfold isPtrT at h
 split at h
 ·rename_i e _ _ _ hg;exact ⟨_,e,hg,rfl⟩
 ·cases h
theorem isSlT_get {t : TypeId} (h : isSlT T.get t=true) : ∃ i e,T.get t=some i∧i.u = .slice e:=by
 unfold isSlT at h
 split at h
 ·rename_i e _ _ _ hg;exact ⟨_,e,hg,rfl⟩
 ·cases h
theorem isFnT_get {t : TypeId} (h : isFnT T.get t=true) : ∃ i p r v,T.get t=some i∧i.u = .func p r v:=by
 unfold isFnT at h
 split at h
 ·rename_i p r v _ _ _ hg;exact ⟨_,p,r,v,hg,rfl⟩
 ·cases h
theorem isIfT_get {t : TypeId} (h : isIfT T.get t=true) : ∃ i m,T.get t=some i∧i.u = .interface m:=by
 unfold isIfT at h
 split at h
 ·rename_i m _ _ _ hg;exact ⟨_,m,hg,rfl⟩
 ·cases h
theorem eqRun {t : TypeId} {X Y : Operand} {x y : Value} {b : Bool} {w : World} (h1 : Go.binOp .eql t x y=(do pure (.bool (← Op.equalIn (9999 + 1) t x y)) : Sem Value)) (h2 : Go.binOp .neq t x y=(do pure (.bool (!(← Op.equalIn (9999 + 1) t x y))) : Sem Value))
  (hg : ∀ op,(eqGuard op t X Y x y).run P w = .ok () w) (hd : ∀ d,(Op.equalIn (d + 1) t x y).run P w = .ok b w) :
  (do eqGuard .eql t X Y x y;Go.binOp .eql t x y : Sem Value).run P w = .ok (.bool b) w ∧
  (do eqGuard .neq t X Y x y;Go.binOp .neq t x y : Sem Value).run P w = .ok (.bool (!b)) w:=by
 have:=hd 9999
 constructor
 ·simp only [Sem.run_bind,hg,Result.andThen_ok,h1,this,Sem.run_pure]
 ·simp only [Sem.run_bind,hg,Result.andThen_ok,h2,this,Sem.run_pure]
theorem eqv_run {t : TypeId} {X Y : Operand} {x y x' y' : Value} {b : Bool} (h : eqv T.get t X Y x y=some b) (hx : VR φ x x') (hy : VR φ y y') (w : World) :
  (do eqGuard .eql t X Y x' y';Go.binOp .eql t x' y' : Sem Value).run P w = .ok (.bool b) w ∧
  (do eqGuard .neq t X Y x' y';Go.binOp .neq t x' y' : Sem Value).run P w = .ok (.bool (!b)) w:=by
 unfold eqv at h
 split at h
 ·cases h
  have e1:=hx.flat_inv rfl
  have e2:=hy.flat_inv rfl
  subst e1;subst e2
  rw [strEq_eq]
  constructor <;> simp [eqGuard,Go.binOp,Op.stringOp,toList_mk,beq_dec]
 ·rename_i q
  cases hp : isPtrT T.get t with
  | false=>simp [hp] at h
  | true =>
   simp only [hp,cond_true,Option.some.injEq] at h
   obtain ⟨i,e,hg,hu⟩:=isPtrT_get T hp
   have hr:=T.run_underlying w hg
   rw [hu] at hr
   have e1:=hx.flat_inv rfl
   subst e1
   cases q with
   | none =>
    subst h
    have e2:=hy.flat_inv rfl
    subst e2
    exact eqRun rfl rfl (fun op=>by cases op <;> simp [eqGuard]) (fun d=>by simp only [Op.equalIn,Sem.run_bind,hr,Result.andThen_ok,Sem.run_pure] <;> rfl)
   | some q =>
    subst h
    obtain ⟨id,o,sp⟩:=q
    obtain ⟨L,_,_,e2⟩:=hy.ptr_inv
    subst e2
    exact eqRun rfl rfl (fun op=>by cases op <;> simp [eqGuard]) (fun d=>by simp only [Op.equalIn,Sem.run_bind,hr,Result.andThen_ok,Sem.run_pure] <;> rfl)
 ·rename_i q
  cases hp : isPtrT T.get t with
  | false=>simp [hp] at h
  | true =>
   simp only [hp,cond_true,Option.some.injEq] at h
   subst h
   obtain ⟨i,e,hg,hu⟩:=isPtrT_get T hp
   have hr:=T.run_underlying w hg
   rw [hu] at hr
   have e2:=hy.flat_inv rfl
   subst e2
   obtain ⟨id,o,sp⟩:=q
   obtain ⟨L,_,_,e1⟩:=hx.ptr_inv
   subst e1
   exact eqRun rfl rfl (fun op=>by cases op <;> simp [eqGuard]) (fun d=>by simp only [Op.equalIn,Sem.run_bind,hr,Result.andThen_ok,Sem.run_pure] <;> rfl)
 ·rename_i q _ _
  cases hp : isSlT T.get t with
  | false=>simp [hp] at h
  | true =>
   simp only [hp,cond_true,Option.some.injEq] at h
   obtain ⟨i,e,hg,hu⟩:=isSlT_get T hp
   have hr:=T.run_underlying w hg
   rw [hu] at hr
   have e1:=hx.flat_inv rfl
   subst e1
   cases q with
   | none =>
    subst h
    have e2:=hy.flat_inv rfl
    subst e2
    exact eqRun rfl rfl (fun op=>by cases op <;> simp [eqGuard]) (fun d=>by simp only [Op.equalIn,Sem.run_bind,hr,Result.andThen_ok,Sem.run_pure] <;> rfl)
   | some q =>
    subst h
    obtain ⟨id,o,sp⟩:=q
    obtain ⟨_,L,c',_,e2,_⟩:=hy.slice_inv
    subst e2
    exact eqRun rfl rfl (fun op=>by cases op <;> simp [eqGuard]) (fun d=>by simp only [Op.equalIn,Sem.run_bind,hr,Result.andThen_ok,Sem.run_pure] <;> rfl)
 ·rename_i q _ _ _ _
  cases hp : isSlT T.get t with
  | false=>simp [hp] at h
  | true =>
   simp only [hp,cond_true,Option.some.injEq] at h
   subst h
   obtain ⟨i,e,hg,hu⟩:=isSlT_get T hp
   have hr:=T.run_underlying w hg
   rw [hu] at hr
   have e2:=hy.flat_inv rfl
   subst e2
   obtain ⟨id,o,sp⟩:=q
   obtain ⟨_,L,c',_,e1,_⟩:=hx.slice_inv
   subst e1
   exact eqRun rfl rfl (fun op=>by cases op <;> simp [eqGuard]) (fun d=>by simp only [Op.equalIn,Sem.run_bind,hr,Result.andThen_ok,Sem.run_pure] <;> rfl)
 ·cases hp : isFnT T.get t with
  | false=>simp [hp] at h
  | true =>
   simp only [hp,cond_true,Option.some.injEq] at h
   subst h
   obtain ⟨i,p,r,v,hg,hu⟩:=isFnT_get T hp
   have hr:=T.run_underlying w hg
   rw [hu] at hr
   have e1:=hx.flat_inv rfl
   have e2:=hy.flat_inv rfl
   subst e1;subst e2
   exact eqRun rfl rfl (fun op=>by cases op <;> simp [eqGuard]) (fun d=>by simp only [Op.equalIn,Sem.run_bind,hr,Result.andThen_ok,Sem.run_pure] <;> rfl)
 ·cases hp : isFnT T.get t with
  | false=>simp [hp] at h
  | true =>
   simp only [hp,cond_true,Option.some.injEq] at h
   subst h
   obtain ⟨i,p,r,v,hg,hu⟩:=isFnT_get T hp
   have hr:=T.run_underlying w hg
   rw [hu] at hr
   have e2:=hy.flat_inv rfl
   subst e2
   cases hx with
   | same h=>cases h
   | func _ _=>exact eqRun rfl rfl (fun op=>by cases op <;> simp [eqGuard]) (fun d=>by simp only [Op.equalIn,Sem.run_bind,hr,Result.andThen_ok,Sem.run_pure] <;> rfl)
   | yield=>exact eqRun rfl rfl (fun op=>by cases op <;> simp [eqGuard]) (fun d=>by simp only [Op.equalIn,Sem.run_bind,hr,Result.andThen_ok,Sem.run_pure] <;> rfl)
 ·cases hp : isIfT T.get t && (isC X || isC Y) with
  | false=>simp [hp] at h
  | true =>
   simp only [hp,cond_true,Option.some.injEq] at h
   subst h
   rw [Bool.and_eq_true] at hp
   obtain ⟨i,m,hg,hu⟩:=isIfT_get T hp.1
   have hr:=T.run_underlying w hg
   rw [hu] at hr
   have e1:=hx.flat_inv rfl
   have e2:=hy.flat_inv rfl
   subst e1;subst e2
   have hc:=hp.2
   cases X <;> cases Y <;> first
    | (simp [isC] at hc;done)
    | (exact eqRun rfl rfl (fun op=>by cases op <;> simp [eqGuard]) (fun d=>by simp only [Op.equalIn,Sem.run_bind,hr,Result.andThen_ok,Sem.run_pure] <;> rfl))
 ·cases hp : isIfT T.get t with
  | false=>simp [hp] at h
  | true =>
   simp only [hp,cond_true,Option.some.injEq] at h
   subst h
   obtain ⟨i,m,hg,hu⟩:=isIfT_get T hp
   have hr:=T.run_underlying w hg
   rw [hu] at hr
   have e2:=hy.flat_inv rfl
   subst e2
   cases hx with
   | same h=>cases h
   | iface _=>exact eqRun rfl rfl (fun op=>by cases op <;> simp [eqGuard]) (fun d=>by simp only [Op.equalIn,Sem.run_bind,hr,Result.andThen_ok,Sem.run_pure] <;> rfl)
 ·cases h
theorem bin_run {op : BinOp} {t : TypeId} {X Y : Operand} {x y x' y' v : Value} (h : bin T.get op t X Y x y=some v) (hx : VR φ x x') (hy : VR φ y y') (w : World) :
  (do eqGuard op t X Y x' y';Go.binOp op t x' y' : Sem Value).run P w = .ok v w∧VR φ v v:=by
 unfold bin at h
 split at h
 ·rename_i k i k' j
  have e1:=hx.flat_inv rfl
  have e2:=hy.flat_inv rfl
  subst e1;subst e2
  have hgd : (eqGuard op t X Y (.int k i) (.int k' j)).run P w = .ok () w:=by cases op <;> simp [eqGuard]
  simp only [Sem.run_bind,hgd,Result.andThen_ok]
  split at h
  ·split at h
   ·rename_i m n
    cases hb : Nat.ble n k.bits with
    | false=>simp [hb] at h
    | true =>
     simp only [hb,cond_true,intR_eq,Option.some.injEq] at h
     subst h
     have hle:=Nat.le_of_ble_eq_true hb
     refine ⟨?_, .same rfl⟩
     have hn : ¬ ((Int.ofNat n) < 0):=by simp
     have hm : min (Int.ofNat n).toNat k.bits=n:=by simp;omega
     simp only [Go.binOp,Op.shift]
     rw [if_neg hn]
     simp only [hm,Sem.run_pure]
     rfl
   ·cases h
  ·cases h
  ·rename_i ho1 ho2
   cases hk : kbeq k k' with
   | false=>simp [hk] at h
   | true =>
    have:=kbeq_eq hk
    subst this
    simp only [hk,cond_true] at h
    cases op <;> simp only [intBin,intR_eq] at h <;> first
     | (cases h;done)
     | (exact absurd rfl ho1)
     | (exact absurd rfl ho2)
     | (cases h;exact ⟨by simp [Go.binOp,Op.intArith,Op.intBits,Op.intCmp,bne,beq_dec], .same rfl⟩)
 ·split at h
  ·split at h
   ·rename_i b hb
    cases h
    exact ⟨(eqv_run T hb hx hy w).1, .same rfl⟩
   ·cases h
  ·split at h
   ·rename_i b hb
    cases h
    exact ⟨(eqv_run T hb hx hy w).2, .same rfl⟩
   ·cases h
  ·cases h
theorem putC_eq {t : TypeId} {v u : Value} {vs : List Value} (hv : VR φ v u) (h : putC T.get t v=some vs) : ∃ ti us,T.get t=some ti∧u.cells = ⟨us⟩ ∧ VRs φ vs us∧vs.length=ti.size:=by
 unfold putC at h
 split at h
 ·rename_i i hi
  cases hb : Nat.beq (vcells v).length i.size with
  | false=>simp [hb] at h
  | true =>
   simp only [hb,cond_true,Option.some.injEq] at h
   subst h
   have hl:=Nat.eq_of_beq_eq_true hb
   refine ⟨i,vcells u,hi, ?_, ?_,hl⟩
   ·cases u <;> rfl
   ·cases hv with
    | same hf =>
     have h : VRs φ [v] [v] := .cons (.same hf) .nil
     cases v <;> first | exact h | (simp [flat] at hf)
    | agg h=>exact h
    | ptr h=>exact .cons (.ptr h) .nil
    | slice h hc=>exact .cons (.slice h hc) .nil
    | sliceU h hn ho=>exact .cons (.sliceU h hn ho) .nil
    | sliceW h hn=>exact .cons (.sliceW h hn) .nil
    | map h=>exact .cons (.map h) .nil
    | func hx hy=>exact .cons (.func hx hy) .nil
    | yield=>exact .cons .yield .nil
    | iface h=>exact .cons (.iface h) .nil
    | tuple h=>exact .cons (.tuple h) .nil
 ·cases h
theorem VRs.splice {vs vs' cs cs' r : List Value} {off : Nat} (hv : VRs φ vs vs') (hc : VRs φ cs cs') (h : splice vs cs off=some r) : VRs φ r (cs'.take off++vs' ++ cs'.drop (off + vs'.length))∧off + vs'.length ≤ cs'.length:=by
 obtain ⟨h1,h2⟩:=splice_eq vs cs off r h
 subst h1
 rw [hv.length,hc.length] at h2
 exact ⟨((hc.take off).append hv).append (by rw [hv.length];exact hc.drop _),h2⟩
theorem putAt_eq : ∀ (vs cs : List Value) (k : Nat),k + vs.length ≤ cs.length→putAt cs k vs=cs.take k++vs++cs.drop (k + vs.length)
 | [],cs,k,_=>by simp [putAt]
 | v :: vs,cs,k,h=>by
  simp only [List.length_cons] at h
  simp only [putAt]
  rw [putAt_eq vs (cs.set k v) (k + 1) (by simp;omega)]
  rw [List.take_set,List.drop_set,if_pos (by omega)]
  have hk : k < cs.length:=by omega
  have e : (cs.take (k + 1)).set k v=cs.take k++[v]:=by
   rw [List.take_succ_eq_append_getElem hk,List.set_append_right _ _ (by simp;omega)]
   simp [Nat.min_eq_left (Nat.le_of_lt hk)]
  rw [e]
  simp
  omega
theorem fillP_run (hA : ER φ ρ a) (place : Nat→Option (Nat × TypeId)) (place' : Nat→Option (Nat × Nat)) (hp : ∀ (i off : Nat) (t : TypeId) (ti : TI),place i=some (off,t)→T.get t=some ti→place' i=some (off,ti.size)) :
  ∀ (ps : List (Nat × Operand)) (cs cs' l : List Value),VRs φ cs cs' → fillP T.get ρ place ps cs=some l → ∃ l',Instr.fill place' ⟨cs'⟩ (ps.map fun p=>(p.1,a.eval p.2))=some ⟨l'⟩ ∧ VRs φ l l'
 | [],cs,cs',l,hc,h=>by cases h;exact ⟨cs',rfl,hc⟩
 | p :: ps,cs,cs',l,hc,h=>by
  have h' : (match place p.1 with
   | some (off,t)=>match ev ρ p.2 with
    | some v=>match putC T.get t v with
     | some vs=>match Ev.splice vs cs off with
      | some cs'=>fillP T.get ρ place ps cs'
      | none=>none
     | none=>none
    | none=>none
   | none=>none)=some l:=h
  split at h'
  ·rename_i off t hpl
   split at h'
   ·rename_i v hv
    split at h'
    ·rename_i vs hvs
     split at h'
     ·rename_i cs2 hs
      obtain ⟨ti,us,h1,h2,h3,h4⟩:=putC_eq T (hA.ev hv) hvs
      obtain ⟨h5,h6⟩:=h3.splice hc hs
      obtain ⟨l',h7,h8⟩:=fillP_run hA place place' hp ps _ _ l h5 h'
      refine ⟨l', ?_,h8⟩
      have hl:=h3.length
      simp only [List.map_cons,Instr.fill,hp _ _ _ _ hpl h1,h2]
      have hn : ¬ ((⟨us⟩ : Array Value).size ≠ ti.size ∨ off + (⟨us⟩ : Array Value).size > (⟨cs'⟩ : Array Value).size):=by
       simp;omega
      have e:=foldl_putAt us cs' off 0
      simp only [Nat.add_zero] at e
      have hz : (⟨us⟩ : Array Value).zipIdx = ⟨us.zipIdx⟩:=by apply Array.ext';simp
      have e2 : Array.foldl (fun (a : Array Value) (p : Value × Nat)=>a.setIfInBounds (off + p.2) p.1) (⟨cs'⟩ : Array Value) (⟨us⟩ : Array Value).zipIdx = ⟨cs'.take off++us++cs'.drop (off + us.length)⟩:=by
       rw [← Array.foldl_toList,hz,← putAt_eq us cs' off h6];exact e
      rw [if_neg (by simpa using hn)]
      exact (congrArg (fun z=>Instr.fill place' z (ps.map fun p=>(p.1,a.eval p.2))) e2).trans h7
     ·cases h'
    ·cases h'
   ·cases h'
  ·cases h'
theorem zc_eq {i : TI} {z : List Value} (h : zc i=some z) : VRs φ z z∧i.zero.cells = ⟨z⟩ ∧ z.length=i.size:=by
 unfold zc at h
 cases hb : allFlat (vcells i.zero) && Nat.beq (vcells i.zero).length i.size with
 | false=>simp [hb] at h
 | true =>
  simp only [hb,cond_true,Option.some.injEq] at h
  rw [Bool.and_eq_true] at hb
  subst h
  exact ⟨VRs.ofFlat hb.1,by cases i.zero <;> rfl,Nat.eq_of_beq_eq_true hb.2⟩
theorem boundOf_run (hA : ER φ ρ a) {x : Option Operand} {d n : Nat} (h : boundOf ρ x d=some n) : (x=none∧n=d) ∨ ∃ k,x.map a.eval=some (.int k (n : Int)):=by
 cases x with
 | none=>cases h;exact .inl ⟨rfl,rfl⟩
 | some x =>
  obtain ⟨k,hk⟩:=intOf_run hA h
  exact .inr ⟨k,by simp [hk]⟩
theorem run_bound {P : Program} (k : IntKind) (l y : Nat) (code : BoundsCode) (h : l ≤ y) (w : World) : (Instr.sliceBound (.int k (l : Int)) y code).run P w = .ok l w:=by
 have : (0 : Int) ≤ (l : Int)∧(l : Int) ≤ (y : Int):=⟨by omega,by omega⟩
 simp [Instr.sliceBound,asIntOf,this]
theorem run_bounds (isS : Bool) {len cap l h m : Nat} {lo hi mx : Option Value} (hlo : (lo=none∧l=0) ∨ ∃ k,lo=some (.int k (l : Int))) (hhi : (hi=none∧h=len) ∨ ∃ k,hi=some (.int k (h : Int)))
  (hmx : (mx=none∧m=cap) ∨ ∃ k,mx=some (.int k (m : Int))) (h1 : l ≤ h) (h2 : h ≤ m) (h3 : m ≤ cap) (hn : mx.isSome=true→hi.isSome=true) (w : World) :
  (Instr.sliceBounds isS len cap lo hi mx).run P w = .ok (l,h,m) w:=by
 rcases hlo with ⟨rfl,rfl⟩ | ⟨kl,rfl⟩ <;> rcases hhi with ⟨rfl,rfl⟩ | ⟨kh,rfl⟩ <;> rcases hmx with ⟨rfl,rfl⟩ | ⟨km,rfl⟩ <;> first
  | (simp at hn;done)
  | (simp only [Instr.sliceBounds,Sem.run_bind,Sem.run_pure,Result.andThen_ok,run_bound _ _ _ _ h1,run_bound _ _ _ _ h2,run_bound _ _ _ _ h3,Option.isSome_none,Option.isSome_some,if_true,Bool.false_eq_true,if_false])
end
end Go.Ev
set_option linter.unusedVariables false
set_option linter.unusedSimpArgs false
namespace Go.Ev
open Go.Sep
section
variable {P : Program} (T : Tab P) {φ : Ren} {ρ : Nat→Option Value} {a : Act}
theorem run_sliceStr {t : TypeId} {i : TI} (hg : T.get t=some i) (hu : i.u = .string) {s : List UInt8} {l h : Nat} {lo hi : Option Value} (hlo : (lo=none∧l=0) ∨ ∃ k,lo=some (.int k (l : Int)))
  (hhi : (hi=none∧h=s.length) ∨ ∃ k,hi=some (.int k (h : Int))) (h1 : l ≤ h) (h2 : h ≤ s.length) (w : World) :
  (Instr.sliceAt t (.string ⟨⟨s⟩⟩) lo hi none).run P w = .ok (.string ⟨⟨(s.drop l).take (h - l)⟩⟩) w:=by
 have hr:=T.run_underlying w hg
 rw [hu] at hr
 have hb:=run_bounds (P:=P) false (len:=(⟨⟨s⟩⟩ : ByteArray).size) (cap:=(⟨⟨s⟩⟩ : ByteArray).size) (m:=(⟨⟨s⟩⟩ : ByteArray).size) (mx:=none) hlo hhi (.inl ⟨rfl,rfl⟩) h1 h2 (Nat.le_refl _) (fun h=>by cases h) w
 have hx : (⟨⟨s⟩⟩ : ByteArray).extract l h = ⟨⟨(s.drop l).take (h - l)⟩⟩:=by
  apply ByteArray.ext
  apply Array.ext'
  simp [List.extract_eq_take_drop]
 have hs : (Instr.slice t (.string ⟨⟨s⟩⟩) lo hi none).run P w = .ok (.string ⟨⟨(s.drop l).take (h - l)⟩⟩) w:=by
  unfold Instr.slice
  rw [Sem.run_bind,hr]
  simp only [Result.andThen_ok,Option.isSome_none,Bool.false_eq_true,if_false,Sem.run_bind,Sem.run_pure]
  rw [hb]
  simp only [Result.andThen_ok,hx]
 simp only [Instr.sliceAt,Sem.run_bind,hr,Result.andThen_ok,hs]
theorem run_sliceSl {t e : TypeId} {ei : TI} (he : T.elem t=some (e,ei)) {ad : Option Addr} {n c l h m : Nat} {lo hi mx : Option Value} (hlo : (lo=none∧l=0) ∨ ∃ k,lo=some (.int k (l : Int)))
  (hhi : (hi=none∧h=n) ∨ ∃ k,hi=some (.int k (h : Int))) (hmx : (mx=none∧m=c) ∨ ∃ k,mx=some (.int k (m : Int))) (h1 : l ≤ h) (h2 : h ≤ m) (h3 : m ≤ c) (hn : mx.isSome=true→hi.isSome=true) (w : World) :
  (Instr.sliceAt t (.slice ad n c) lo hi mx).run P w = .ok (.slice (if m=l then ad else ad.map (·.add (l * ei.size))) (h - l) (m - l)) w:=by
 obtain ⟨ti,h4,h5,h6⟩:=elem_get he
 have hr:=T.run_underlying w h4
 rw [h5] at hr
 have hs:=T.run_sizeOf w h6
 have hb:=run_bounds (P:=P) true hlo hhi hmx h1 h2 h3 hn w
 simp only [Instr.sliceAt,Sem.run_bind,hr,Result.andThen_ok,Instr.slice,hb,hs,Sem.run_pure]
theorem bmap {x : Option Operand} {n d : Nat} {f : Operand→Value} (h : (x=none∧n=d) ∨ ∃ k,x.map f=some (.int k (n : Int))) : (x.map f=none∧n=d) ∨ ∃ k,x.map f=some (.int k (n : Int)):=by
 rcases h with ⟨rfl,h⟩ | h
 ·exact .inl ⟨rfl,h⟩
 ·exact .inr h
theorem VR.cutK {id o l h m sz : Nat} {L : Loc} (hL : φ id=some L) (hm : m - l < U) :
  VR φ (.slice (some ⟨id,bif Nat.beq m l then o else o + l * sz,none⟩) (h - l) (m - l)) (.slice (if m=l then some ⟨L.b,L.base + o,none⟩ else (some (⟨L.b,L.base + o,none⟩ : Addr)).map (·.add (l * sz))) (h - l) (m - l)):=by
 by_cases he : m=l
 ·have hb : Nat.beq m l=true:=by rw [he];exact Nat.beq_refl l
  rw [hb,if_pos he]
  exact .slice hL hm
 ·have hb : Nat.beq m l=false:=by
   cases hq : Nat.beq m l with
   | false=>rfl
   | true=>exact absurd (Nat.eq_of_beq_eq_true hq) he
  rw [hb,if_neg he]
  simp only [cond_false,Option.map_some,addr_add,Nat.add_assoc]
  exact .slice hL hm
theorem sliceV_run (hA : ER φ ρ a) {t : TypeId} {x x' v : Value} {lo hi mx : Option Operand} (hx : VR φ x x') (h : sliceV T.get ρ t x lo hi mx=some v) :
  ∃ u,VR φ v u ∧ ∀ w,(Instr.sliceAt t x' (lo.map a.eval) (hi.map a.eval) (mx.map a.eval)).run P w = .ok u w:=by
 unfold sliceV at h
 split at h
 ·rename_i s
  have e1:=hx.flat_inv rfl
  subst e1
  split at h
  ·rename_i sz by_ z hg
   split at h
   ·rename_i l hh h1 h2
    cases hb : Nat.ble l hh && Nat.ble hh s.length with
    | false=>simp [hb] at h
    | true =>
     simp only [hb,cond_true] at h
     rw [Bool.and_eq_true] at hb
     have b1:=Nat.le_of_ble_eq_true hb.1
     have b2:=Nat.le_of_ble_eq_true hb.2
     split at h
     ·rename_i r hr
      cases h
      obtain ⟨q1,q2⟩:=takeN_eq _ _ _ hr
      rw [dropN_eq] at q1
      subst q1
      exact ⟨_, .same rfl,fun w=>run_sliceStr T hg rfl (bmap (boundOf_run hA h1)) (bmap (boundOf_run hA h2)) b1 b2 w⟩
     ·cases h
   ·cases h
  ·cases h
 ·rename_i n c
  have e1:=hx.flat_inv rfl
  subst e1
  split at h
  ·rename_i ee l hh m he h1 h2 h3
   obtain ⟨e,ei⟩:=ee
   cases hb : Nat.beq c 0 && (Nat.beq l 0 && (Nat.beq hh 0 && (Nat.beq m 0 && (hi.isSome || !mx.isSome)))) with
   | false=>rw [hb] at h;cases h
   | true =>
    rw [hb] at h
    simp only [cond_true,Option.some.injEq] at h
    simp only [Bool.and_eq_true] at hb
    obtain ⟨b1,b2,b3,b4,b5⟩:=hb
    have b1:=Nat.eq_of_beq_eq_true b1
    have b2:=Nat.eq_of_beq_eq_true b2
    have b3:=Nat.eq_of_beq_eq_true b3
    have b4:=Nat.eq_of_beq_eq_true b4
    subst b1;subst b2;subst b3;subst b4;subst h
    refine ⟨_, .same rfl,fun w => ?_⟩
    have g3:=bmap (boundOf_run hA h3)
    have g2:=bmap (boundOf_run hA h2)
    have g1:=bmap (boundOf_run hA h1)
    have hn : (mx.map a.eval).isSome=true→(hi.map a.eval).isSome=true:=by
     cases hi <;> cases mx <;> simp_all
    have:=run_sliceSl (P:=P) T he (ad:=none) g1 g2 g3 (Nat.le_refl _) (Nat.le_refl _) (Nat.le_refl _) hn w
    simpa using this
  ·cases h
 ·rename_i b o sp n c
  obtain ⟨e0,L,c',hL,e1,hcap⟩:=hx.slice_inv
  have hUW : U < W:=by decide
  subst e1
  split at h
  ·rename_i e ei l hh he h1 h2
   have g1:=bmap (boundOf_run hA h1)
   have g2:=bmap (boundOf_run hA h2)
   split at h
   ·
    cases hU : Nat.ble U c with
    | true =>
     have hUc:=Nat.le_of_ble_eq_true hU
     simp only [hU,cond_true] at h
     cases hb : Nat.ble l hh && Nat.ble hh n with
     | false=>simp [hb] at h
     | true =>
      simp only [hb,cond_true] at h
      rw [Bool.and_eq_true] at hb
      have b1:=Nat.le_of_ble_eq_true hb.1
      have b2:=Nat.le_of_ble_eq_true hb.2
      have hc' : n ≤ c':=by
       rcases hcap with h | h | h
       ·omega
       ·exact h.2.1
       ·exact h.2
      have hrun:=fun w=>run_sliceSl (P:=P) T he (ad:=some ⟨L.b,L.base + o,none⟩) (c:=c') (m:=c') (mx:=none) g1 g2 (.inl ⟨rfl,rfl⟩) b1 (by omega) (Nat.le_refl _) (fun h=>by cases h) w
      cases hz : Nat.beq l 0 with
      | true =>
       have:=Nat.eq_of_beq_eq_true hz
       subst this
       simp only [hz,cond_true,Option.some.injEq] at h
       subst h
       refine ⟨.slice (some ⟨L.b,L.base + o,none⟩) hh c', ?_,fun w => ?_⟩
       ·rcases hcap with h | h | h
        ·omega
        ·rw [h.1];exact .sliceU hL (by omega) h.2.2
        ·rw [h.1];exact .sliceW hL (by omega)
       ·have:=hrun w
        simpa [addr_add] using this
      | false =>
       simp only [hz,cond_false] at h
       cases hn : Nat.blt l n with
       | false=>simp [hn] at h
       | true =>
        have hln : l < n:=by simpa [Nat.blt_eq] using hn
        simp only [hn,cond_true,Option.some.injEq] at h
        subst h
        refine ⟨.slice (some ⟨L.b,L.base + (o + l * ei.size),none⟩) (hh - l) (c' - l), .sliceW hL (by omega),fun w => ?_⟩
        have:=hrun w
        rw [if_neg (by omega)] at this
        simpa [addr_add,Nat.add_assoc] using this
    | false =>
     have hcU : c < U:=by
      have:=Nat.ble_eq (x:=U) (y:=c)
      rw [hU] at this
      have : ¬ U ≤ c:=fun hh=>by simp [hh] at this
      omega
     simp only [hU,cond_false] at h
     have e2 : c' = c:=by
      rcases hcap with h | h | h
      ·exact h.2
      ·omega
      ·omega
     subst e2
     cases hb : Nat.ble l hh && Nat.ble hh c' with
     | false=>simp [hb] at h
     | true =>
      simp only [hb,cond_true,Option.some.injEq] at h
      rw [Bool.and_eq_true] at hb
      have b1:=Nat.le_of_ble_eq_true hb.1
      have b2:=Nat.le_of_ble_eq_true hb.2
      subst h
      exact ⟨_,VR.cutK (sz:=ei.size) hL (by omega),fun w=>run_sliceSl (P:=P) T he g1 g2 (.inl ⟨rfl,rfl⟩) b1 b2 (Nat.le_refl _) (fun h=>by cases h) w⟩
   ·rename_i mxo
    split at h
    ·rename_i m hm
     obtain ⟨km,hkm⟩:=intOf_run hA hm
     cases hb : hi.isSome && (Nat.ble l hh && (Nat.ble hh m && (bif Nat.ble U c then Nat.ble m n && Nat.blt n U else Nat.ble m c))) with
     | false=>simp [hb] at h
     | true =>
      simp only [hb,cond_true,Option.some.injEq] at h
      simp only [Bool.and_eq_true] at hb
      obtain ⟨b0,b1,b2,b3⟩:=hb
      have b1:=Nat.le_of_ble_eq_true b1
      have b2:=Nat.le_of_ble_eq_true b2
      subst h
      have key : m ≤ c' ∧ m < U:=by
       cases hU : Nat.ble U c with
       | true =>
        have hUc:=Nat.le_of_ble_eq_true hU
        rw [hU] at b3
        simp only [cond_true,Bool.and_eq_true] at b3
        have b4:=Nat.le_of_ble_eq_true b3.1
        have b5 : n < U:=by simpa [Nat.blt_eq] using b3.2
        rcases hcap with h | h | h
        ·omega
        ·exact ⟨Nat.le_trans b4 h.2.1,by omega⟩
        ·exact ⟨Nat.le_trans b4 h.2,by omega⟩
       | false =>
        have hcU : c < U:=by
         have:=Nat.ble_eq (x:=U) (y:=c)
         rw [hU] at this
         have : ¬ U ≤ c:=fun hh=>by simp [hh] at this
         omega
        rw [hU] at b3
        have b4:=Nat.le_of_ble_eq_true b3
        rcases hcap with h | h | h
        ·rw [h.2];exact ⟨b4,by omega⟩
        ·omega
        ·omega
      exact ⟨_,VR.cutK (sz:=ei.size) hL (by omega),fun w=>run_sliceSl (P:=P) T he g1 g2 (.inr ⟨km,by simp [hkm]⟩) b1 b2 key.1 (fun _=>by simpa using b0) w⟩
    ·cases h
  ·cases h
 ·cases h
def placeOf (P : Program) (f : Field) : Nat × Nat:=(f.offset,((P.info? f.type).map (·.size)).getD 0)
theorem placeOf_get {f : Field} {ti : TI} (h : T.get f.type=some ti) : placeOf P f=(f.offset,ti.size):=by
 obtain ⟨info,h1,_,h3,_⟩:=T.ok _ _ h
 simp [placeOf,h1,h3]
theorem run_placesL {P : Program} : ∀ (fs : List Field) (w : World),(∀ f ∈ fs, ∃ i,P.info? f.type=some i)→(fs.mapM (m:=Sem) fun (f : Field)=>do pure (f.offset,← sizeOf f.type)).run P w = .ok (fs.map (placeOf P)) w
 | [],w,_=>rfl
 | f :: fs,w,h=>by
  obtain ⟨i,hi⟩:=h f (List.mem_cons_self ..)
  have ih:=run_placesL fs w fun g hg=>h g (List.mem_cons_of_mem _ hg)
  rw [List.mapM_cons]
  have hs : (sizeOf f.type).run P w = .ok i.size w:=by simp [sizeOf,typeInfo,hi]
  simp only [Sem.run_bind,hs,Result.andThen_ok,Sem.run_pure,ih,List.map_cons]
  simp [placeOf,hi]
theorem opP_run (hA : ER φ ρ a) {o : Oper} {v : Value} (h : opP T.get ρ o.op=some v) : ∃ u,VR φ v u ∧ ∀ w,(execOp a.eval o).run P w = .ok (.value u) w:=by
 obtain ⟨dst,op,ty,pos,after,guard⟩:=o
 simp only at h
 unfold opP at h
 split at h
 ·exact ⟨_,hA.ev h,fun w=>by simp [execOp]⟩
 ·exact ⟨_,hA.ev h,fun w=>by simp [execOp]⟩
 ·
  split at h
  ·rename_i t hc
   have e1:=(hA.ev hc).flat_inv rfl
   cases t with
   | true=>exact ⟨_,hA.ev h,fun w=>by simp [execOp,e1,asBool]⟩
   | false=>exact ⟨_,hA.ev h,fun w=>by simp [execOp,e1,asBool]⟩
  ·cases h
 ·
  split at h
  ·rename_i ad hx
   cases h
   obtain ⟨id,o,sp⟩:=ad
   have hv:=hA.ev hx
   obtain ⟨L,h1,h2,e1⟩:=hv.ptr_inv
   exact ⟨_,hv,fun w=>by simp [execOp,e1]⟩
  ·cases h
 ·
  split at h
  ·rename_i b o sp fl hx hf
   split at h
   ·rename_i i hi
    cases hb : Nat.beq i.size 0 with
    | true=>simp [hb] at h
    | false =>
     simp only [hb,cond_false,Option.some.injEq] at h
     subst h
     obtain ⟨L,h1,h2,e1⟩:=(hA.ev hx).ptr_inv
     rw [fieldOf_eq] at hf
     have hsz:=Nat.ne_of_beq_eq_false hb
     obtain ⟨n,hn⟩ : ∃ n,i.size=n + 1:=⟨i.size - 1,by omega⟩
     have hag : T.isAgg fl.type=some (TypeDesc.isAgg i.u,n + 1):=by simp [Tab.isAgg,hi,hn]
     refine ⟨_, .ptr (o:=o + fl.offset) h1,fun w => ?_⟩
     have:=run_fieldAddr T w (b:=L.b) (o:=L.base + o) hf hag
     simp only [execOp,e1,Sem.run_bind,this,Result.andThen_ok,Sem.run_pure,Nat.add_assoc]
   ·cases h
  ·cases h
 ·
  split at h
  ·rename_i cs fl hx hf
   obtain ⟨cs',e1,hcs⟩:=(hA.ev hx).agg_inv
   obtain ⟨u,h1,h2⟩:=getC_part T hcs h
   rw [fieldOf_eq] at hf
   refine ⟨u,h2,fun w => ?_⟩
   have hp:=T.run_part w h1
   unfold Tab.field at hf
   split at hf
   ·rename_i fs sz by_ z hg
    have hf' : ∀ k : Nat,fs.toList[k]? = some fl→fs[k]? = some fl:=fun k hk=>by simpa using hk
    have hf':=hf' _ hf
    simp only [execOp,e1,Sem.run_bind,Instr.field,T.run_underlying w hg,Result.andThen_ok,hf',asAgg,Sem.run_pure,hp]
   ·cases hf
  ·cases h
 ·
  split at h
  ·rename_i vs hx
   obtain ⟨cs',e1,hcs⟩:=(hA.ev hx).tuple_inv
   rw [nth_eq] at h
   obtain ⟨u,h1,h2⟩:=hcs.get h
   refine ⟨u,h2,fun w => ?_⟩
   have h' : ∀ k : Nat,cs'[k]? = some u→(⟨cs'⟩ : Array Value)[k]? = some u:=fun k hk=>by simpa using hk
   have h':=h' _ h1
   simp only [execOp,e1,Sem.run_bind,Instr.extract,h',Sem.run_pure,Result.andThen_ok]
  ·cases h
 ·
  split at h
  ·rename_i x y hx hy
   refine ⟨v,(bin_run T h (hA.ev hx) (hA.ev hy) default).2,fun w => ?_⟩
   have:=(bin_run T h (hA.ev hx) (hA.ev hy) w).1
   simp only [execOp,Sem.run_bind,Sem.run_pure] at this ⊢
   rw [this];rfl
  ·cases h
 ·
  split at h
  ·rename_i t hx
   cases h
   have e1:=(hA.ev hx).flat_inv rfl
   exact ⟨_, .same rfl,fun w=>by simp [execOp,e1,Op.unary]⟩
  ·cases h
 ·
  split at h
  ·rename_i fs sz by_ z hg
   split at h
   ·rename_i zs hz
    split at h
    ·rename_i l hl
     cases h
     obtain ⟨z1,z2,z3⟩:=zc_eq (φ := φ) hz
     rename_i ps _ _ _
     obtain ⟨l',h1,h2⟩:=fillP_run T hA (fun i=>match nth fs.toList i with
      | some f=>some (f.offset,f.type)
      | none=>none) (fun i=>(⟨fs.toList.map (placeOf P)⟩ : Array (Nat × Nat))[i]?) (fun i off t ti hh ht=>by
      rw [nth_eq] at hh
      split at hh
      ·rename_i f hf
       simp only [Option.some.injEq,Prod.mk.injEq] at hh
       obtain ⟨rfl,rfl⟩:=hh
       simp [hf,placeOf_get T ht]
      ·cases hh) ps zs zs l z1 hl
     refine ⟨_, .agg h2,fun w => ?_⟩
     have hq1:=run_placesL (P:=P) fs.toList w (T.fields _ _ hg fs rfl)
     have hzv:=T.run_zero w hg
     have hu:=T.run_underlying w hg
     have hmap : (fs.mapM (m:=Sem) fun (f : Field)=>do pure (f.offset,← sizeOf f.type)).run P w = .ok ⟨fs.toList.map (placeOf P)⟩ w:=by
      rw [Array.mapM_eq_mapM_toList,Sem.run_map,hq1];rfl
     have e3 : ((⟨ps⟩ : Array (Nat × Operand)).map fun (p : Nat × Operand)=>(p.1,a.eval p.2)).toList=ps.map fun p=>(p.1,a.eval p.2):=by simp
     simp only [execOp,Instr.build,Sem.run_bind,hzv,hu,Result.andThen_ok,hmap,z2,e3]
     rw [h1]
     rfl
    ·cases h
   ·cases h
  ·cases h
 ·
  split at h
  ·rename_i x y hx hy
   cases h
   obtain ⟨us,e1,h1⟩:=evs_run hA hx
   obtain ⟨us',e2,h2⟩:=evs_run hA hy
   exact ⟨_, .func h1 h2,fun w=>by simp [execOp,Instr.makeFunc,e1,e2]⟩
  ·cases h
 ·
  split at h
  ·rename_i b o sp n c i e ei hx hy he
   cases hb : Nat.blt i n with
   | false=>simp [hb] at h
   | true =>
    simp only [hb,cond_true,Option.some.injEq] at h
    subst h
    have hlt : i < n:=by simpa [Nat.blt_eq] using hb
    obtain ⟨_,L,c',hL,e1,_⟩:=(hA.ev hx).slice_inv
    obtain ⟨k,e2⟩:=intOf_run hA hy
    refine ⟨_, .ptr (o:=o + i * ei.size) hL,fun w => ?_⟩
    have hsz : ∀ t,T.elem t=some (e,ei)→T.esize t=some ei.size:=fun t h=>by
     unfold Tab.esize
     rw [h]
    have:=run_indexAddr (P:=P) T (n:=0) (cap:=c') (ad:=⟨L.b,L.base + o,none⟩) (k:=k) (w:=w) (hsz _ he) (Int.natCast_nonneg i) (by omega : (i : Int) < n)
    rw [addr_add,Int.toNat_natCast] at this
    simp only [execOp,e1,e2,Sem.run_bind,this,Result.andThen_ok,Sem.run_pure,Nat.add_assoc]
  ·cases h
 ·
  split at h
  ·rename_i s i sz by_ z hx hy hg
   split at h
   ·rename_i ch hc
    cases h
    rw [nth_eq] at hc
    have e1:=(hA.ev hx).flat_inv rfl
    obtain ⟨k,e2⟩:=intOf_run hA hy
    refine ⟨_, .same rfl,fun w => ?_⟩
    have hu:=T.run_underlying w hg
    have hgd:=getElem_data s i hc
    simp only [execOp,e1,e2,Instr.index,asIntOf,Sem.run_bind,Sem.run_pure,Result.andThen_ok,hu,Int.toNat_natCast,Int.natCast_nonneg,if_true,hgd]
    rfl
   ·cases h
  ·cases h
 ·
  split at h
  ·rename_i x hx
   obtain ⟨u,h1,h2⟩:=sliceV_run T hA (hA.ev hx) h
   exact ⟨u,h1,fun w=>by simp only [execOp,Sem.run_bind,h2 w,Result.andThen_ok,Sem.run_pure]⟩
  ·cases h
 ·
  split at h
  ·rename_i ks _ _ _ kt _ _ _ k n hs ht hx
   rw [intR_eq] at h
   cases h
   have e1:=(hA.ev hx).flat_inv rfl
   refine ⟨_, .same rfl,fun w => ?_⟩
   have hus:=T.run_underlying w hs
   have hut:=T.run_underlying w ht
   simp only [execOp,e1,Go.convert,Sem.run_bind,hus,hut,Result.andThen_ok,Conv.intToInt,Sem.run_pure]
  ·cases h
 ·
  split at h
  ·cases h
  ·rename_i i x hne hg hx
   cases h
   refine ⟨_, .iface (hA.ev hx),fun w => ?_⟩
   have hu:=T.run_underlying w hg
   simp only [execOp,Instr.makeInterface,Sem.run_bind,hu,Result.andThen_ok]
   split
   ·rename_i ms h2
    obtain ⟨u,b1,b2,b3⟩:=i
    simp only at h2
    subst h2
    exact absurd rfl (hne ms b1 b2 b3)
   ·simp only [Sem.run_pure,Result.andThen_ok]
  ·cases h
 ·
  split at h
  ·rename_i ad n c e _ _ _ hx hg
   cases h
   refine ⟨_, .same rfl,fun w => ?_⟩
   have hu:=T.run_underlying w hg
   obtain ⟨ad',c',e1⟩ : ∃ ad' c',a.eval _ = .slice ad' n c':=by
    cases ad with
    | none=>exact ⟨_,_,(hA.ev hx).flat_inv rfl⟩
    | some ad =>
     obtain ⟨id,o,sp⟩:=ad
     obtain ⟨_,L,c',_,e1,_⟩:=(hA.ev hx).slice_inv
     exact ⟨_,_,e1⟩
   simp [execOp,resolve,invoke,builtin,Builtin.len_,e1,hu,goInt]
  ·rename_i s _ _ _ hx hg
   cases h
   refine ⟨_, .same rfl,fun w => ?_⟩
   have hu:=T.run_underlying w hg
   have e1:=(hA.ev hx).flat_inv rfl
   simp [execOp,resolve,invoke,builtin,Builtin.len_,e1,hu,goInt]
   rfl
  ·cases h
 ·
  split at h
  ·rename_i ad n c e _ _ _ hx hg
   cases hU : Nat.ble U c with
   | true=>simp [hU] at h
   | false =>
    simp only [hU,cond_false,Option.some.injEq] at h
    subst h
    refine ⟨_, .same rfl,fun w => ?_⟩
    have hu:=T.run_underlying w hg
    have hcU : c < U:=by
     have:=Nat.ble_eq (x:=U) (y:=c)
     rw [hU] at this
     have : ¬ U ≤ c:=fun hh=>by simp [hh] at this
     omega
    have hUW : U < W:=by decide
    obtain ⟨ad',e1⟩ : ∃ ad',a.eval _ = .slice ad' n c:=by
     cases ad with
     | none=>exact ⟨_,(hA.ev hx).flat_inv rfl⟩
     | some ad =>
      obtain ⟨id,o,sp⟩:=ad
      obtain ⟨_,L,c',_,e1,hc⟩:=(hA.ev hx).slice_inv
      rcases hc with hc | hc | hc
      ·rw [hc.2] at e1;exact ⟨_,e1⟩
      ·omega
      ·omega
    simp [execOp,resolve,invoke,builtin,Builtin.cap_,e1,hu,goInt]
  ·cases h
 ·
  split at h
  ·rename_i k x k' y hx hy
   cases h
   have e1:=(hA.ev hx).flat_inv rfl
   have e2:=(hA.ev hy).flat_inv rfl
   refine ⟨_, .same rfl,fun w => ?_⟩
   simp [execOp,resolve,invoke,builtin,Builtin.min_,Builtin.min2,e1,e2,Bool.cond_decide]
  ·cases h
 ·
  split at h
  ·rename_i k x k' y hx hy
   cases h
   have e1:=(hA.ev hx).flat_inv rfl
   have e2:=(hA.ev hy).flat_inv rfl
   refine ⟨_, .same rfl,fun w => ?_⟩
   simp [execOp,resolve,invoke,builtin,Builtin.max_,Builtin.max2,e1,e2,Bool.cond_decide]
  ·cases h
 ·cases h
end
end Go.Ev
set_option linter.unusedVariables false
set_option linter.unusedSimpArgs false
namespace Go.Ev
open Go.Sep
theorem PairsR.mono {φ φ' : Ren} (hl : φ.le φ') : ∀ {l : List (Value × Value)} {es : List MapEntry},PairsR φ l es→PairsR φ' l es
 | [],[],_=>trivial
 | (_,_) :: _,_ :: _,h=>⟨h.1.mono hl,h.2.1.mono hl,PairsR.mono hl h.2.2⟩
 | [],_ :: _,h=>h.elim
 | _ :: _,[],h=>h.elim
theorem BR.mono {φ φ' : Ren} (hl : φ.le φ') {w : World} {L : Loc} {blk : Blk} (h : BR φ w L blk) : BR φ' w L blk:=by
 cases blk with
 | cells cs esz =>
  obtain ⟨h0,l,et,fr,h1,h2,h3,h4,h5,h6⟩:=h
  refine ⟨h0,l,et,fr,h1,h2,h3,h4,h5,fun j v hv => ?_⟩
  obtain ⟨u,g1,g2⟩:=h6 j v hv
  exact ⟨u,g1,g2.mono hl⟩
 | map es =>
  obtain ⟨ents,clock,h1,h2⟩:=h
  exact ⟨ents,clock,h1,h2.mono hl⟩
theorem BR.heap {φ : Ren} {w w' : World} {L : Loc} {blk : Blk} (h : BR φ w L blk) (he : w'.heap[L.b]? = w.heap[L.b]?) : BR φ w' L blk:=by
 cases blk with
 | cells cs esz =>
  obtain ⟨h0,l,et,fr,h1,h2⟩:=h
  exact ⟨h0,l,et,fr,he.trans h1,h2⟩
 | map es =>
  obtain ⟨ents,clock,h1,h2⟩:=h
  exact ⟨ents,clock,he.trans h1,h2⟩
theorem BR.lt {φ : Ren} {w : World} {L : Loc} {blk : Blk} (h : BR φ w L blk) : L.b < w.heap.size:=by
 cases blk with
 | cells cs esz=>obtain ⟨h0,l,et,fr,h1,_⟩:=h;exact lt_of_heap h1
 | map es=>obtain ⟨ents,clock,h1,_⟩:=h;exact lt_of_heap h1
structure Chg (w w' : World) (b : Nat) : Prop where
 os : w'.os=w.os
 tape : w'.tape=w.tape
 output : w'.output=w.output
 heap : ∀ k,k ≠ b→w'.heap[k]? = w.heap[k]?
theorem Chg.refl (w : World) (b : Nat) : Chg w w b:=⟨rfl,rfl,rfl,fun _ _=>rfl⟩
theorem Chg.trans {w w' w'' : World} {b : Nat} (h : Chg w w' b) (k : Chg w' w'' b) : Chg w w'' b :=
 ⟨k.os.trans h.os,k.tape.trans h.tape,k.output.trans h.output,fun i hi=>(k.heap i hi).trans (h.heap i hi)⟩
theorem Chg.alloc (w : World) (o : Obj) : Chg w (w.alloc o) w.heap.size:=⟨rfl,rfl,rfl,fun k hk=>by
 by_cases hlt : k < w.heap.size
 ·exact heap_alloc_lt w o hlt
 ·have : w.heap.size < k:=by omega
  show (w.heap.push o)[k]? = _
  rw [Array.getElem?_eq_none (by simp;omega),Array.getElem?_eq_none (by omega)]⟩
variable {pin : World} {X : Nat→Obj→Prop} {φ : Ren} {s : S} {w : World}
theorem Rel.frame (h : Rel pin X φ s w) {w' : World} {b : Nat} (hc : Chg w w' b) (hl : ∀ id blk L,s.m.at id=some blk → φ id=some L→L.b ≠ b) (hx : ∀ o, ¬ X b o) : Rel pin X φ s w' where
 os:=hc.os.trans h.os
 tape:=hc.tape.trans h.tape
 output:=hc.output.trans h.output
 dom:=h.dom
 live:=fun id blk hb=>by
  obtain ⟨L,h1,h2⟩:=h.live id blk hb
  exact ⟨L,h1,h2.heap (hc.heap _ (hl _ _ _ hb h1))⟩
 inj:=h.inj
 priv:=fun k o hk=>by
  obtain ⟨h1,h2⟩:=h.priv k o hk
  have : k ≠ b:=fun e=>hx o (e ▸ hk)
  exact ⟨(hc.heap k this).trans h1,h2⟩
theorem Rel.lt (h : Rel pin X φ s w) {id : Nat} {blk : Blk} {L : Loc} (hb : s.m.at id=some blk) (hL : φ id=some L) : L.b < w.heap.size:=by
 obtain ⟨L',h1,h2⟩:=h.live id blk hb
 rw [hL] at h1;cases h1
 exact h2.lt
theorem Rel.privLt (h : Rel pin X φ s w) {b : Nat} {o : Obj} (hx : X b o) : b < w.heap.size:=lt_of_heap (h.priv b o hx).1
theorem Rel.drew (h : Rel pin X φ s w) : Rel pin X φ s w.drew where
 os:=h.os
 tape:=h.tape
 output:=h.output
 dom:=h.dom
 live:=fun id blk hb=>by
  obtain ⟨L,h1,h2⟩:=h.live id blk hb
  exact ⟨L,h1,h2.heap rfl⟩
 inj:=h.inj
 priv:=h.priv
theorem Rel.grow (h : Rel pin X φ s w) (o : Obj) : Rel pin X φ s (w.alloc o) :=
 h.frame (Chg.alloc w o) (fun id blk L hb hL=>Nat.ne_of_lt (h.lt hb hL)) (fun o hx=>absurd (h.privLt hx) (Nat.lt_irrefl _))
theorem Rel.aside (h : Rel pin X φ s w) (o : Obj) : Rel pin (fun b p=>X b p ∨ (b=w.heap.size∧p=o)) φ s (w.alloc o) :=
 {h.grow o with
  priv:=fun b p hp=>by
   rcases hp with hp | ⟨rfl,rfl⟩
   ·exact (h.grow o).priv b p hp
   ·exact ⟨heap_alloc_at w p,fun id blk L hb hL=>Nat.ne_of_lt (h.lt hb hL)⟩ }
theorem Rel.less (h : Rel pin X φ s w) {X' : Nat→Obj→Prop} (hx : ∀ b o,X' b o→X b o) : Rel pin X' φ s w :=
 {h with priv:=fun b o hb=>h.priv b o (hx b o hb) }
def Ren.ext (φ : Ren) (id : Nat) (L : Loc) : Ren:=fun k=>if k=id then some L else φ k
theorem Ren.le_ext {φ : Ren} {id : Nat} {L : Loc} (h : φ id=none) : φ.le (φ.ext id L):=fun k M hk=>by
 unfold Ren.ext
 split
 ·rename_i e;subst e;rw [h] at hk;cases hk
 ·exact hk
theorem Grow.ext1 {s : S} {m : Tr Blk} {φ : Ren} {L : Loc} (h : φ s.next=none) : Grow s ⟨m,s.next + 1⟩ φ (φ.ext s.next L) :=
 ⟨Ren.le_ext h,fun id hi=>by unfold Ren.ext;rw [if_neg (Nat.ne_of_lt hi)],Nat.le_succ _⟩
theorem Ren.ext_self (φ : Ren) (id : Nat) (L : Loc) : (φ.ext id L) id=some L:=by simp [Ren.ext]
theorem Ren.ext_ne {φ : Ren} {id k : Nat} {L : Loc} (h : k ≠ id) : (φ.ext id L) k = φ k:=by simp [Ren.ext,h]
theorem Rel.fresh (h : Rel pin X φ s w) : φ s.next=none:=by
 cases hq : φ s.next with
 | none=>rfl
 | some L=>exact absurd (h.dom _ _ hq) (Nat.lt_irrefl _)
theorem Rel.unnamed (h : Rel pin X φ s w) {id : Nat} (hn : φ id=none) : s.m.at id=none:=by
 cases hq : s.m.at id with
 | none=>rfl
 | some blk=>obtain ⟨L,h1,_⟩:=h.live id blk hq;rw [hn] at h1;cases h1
theorem Rel.name (h : Rel pin X φ s w) {id next : Nat} (L : Loc) (hn : φ id=none) (h1 : id < next) (h2 : s.next ≤ next) : Rel pin X (φ.ext id L) ⟨s.m,next⟩ w where
 os:=h.os
 tape:=h.tape
 output:=h.output
 dom:=fun k M hk=>by
  by_cases e : k=id
  ·subst e;exact h1
  ·rw [Ren.ext_ne e] at hk
   exact Nat.lt_of_lt_of_le (h.dom _ _ hk) h2
 live:=fun k blk hb=>by
  have e : k ≠ id:=fun e=>by rw [e,h.unnamed hn] at hb;cases hb
  obtain ⟨M,g1,g2⟩:=h.live k blk hb
  exact ⟨M,by rw [Ren.ext_ne e];exact g1,g2.mono (Ren.le_ext hn)⟩
 inj:=fun k k' b b' M M' hb hb' hM hM' he=>by
  have e : k ≠ id:=fun e=>by rw [e,h.unnamed hn] at hb;cases hb
  have e' : k' ≠ id:=fun e=>by rw [e,h.unnamed hn] at hb';cases hb'
  rw [Ren.ext_ne e] at hM
  rw [Ren.ext_ne e'] at hM'
  exact h.inj k k' b b' M M' hb hb' hM hM' he
 priv:=fun b o hb=>by
  obtain ⟨g1,g2⟩:=h.priv b o hb
  refine ⟨g1,fun k blk M hk hM => ?_⟩
  have e : k ≠ id:=fun e=>by rw [e,h.unnamed hn] at hk;cases hk
  rw [Ren.ext_ne e] at hM
  exact g2 k blk M hk hM
theorem Rel.commit (h : Rel pin X φ s w) {id : Nat} {L : Loc} {blk : Blk} (hL : φ id=some L) (hb : BR φ w L blk) (hn : ∀ k b M,k ≠ id→s.m.at k=some b → φ k=some M→M.b ≠ L.b) (hx : ∀ o, ¬ X L.b o) :
  Rel pin X φ ⟨s.m.put id blk,s.next⟩ w where
 os:=h.os
 tape:=h.tape
 output:=h.output
 dom:=h.dom
 live:=fun k b hk=>by
  rcases Tr.at_put hk with ⟨rfl,rfl⟩ | ⟨hne,hk⟩
  ·exact ⟨L,hL,hb⟩
  ·exact h.live k b hk
 inj:=fun k k' b b' M M' hk hk' hM hM' he=>by
  rcases Tr.at_put hk with ⟨rfl,rfl⟩ | ⟨hne,hk⟩ <;> rcases Tr.at_put hk' with ⟨rfl,rfl⟩ | ⟨hne',hk'⟩
  ·rfl
  ·rw [hL] at hM;cases hM
   exact absurd he.symm (hn k' b' M' (Ne.symm hne') hk' hM')
  ·rw [hL] at hM';cases hM'
   exact absurd he (hn k b M (Ne.symm hne) hk hM)
  ·exact h.inj k k' b b' M M' hk hk' hM hM' he
 priv:=fun b o hb'=>by
  obtain ⟨g1,g2⟩:=h.priv b o hb'
  refine ⟨g1,fun k blk' M hk hM => ?_⟩
  rcases Tr.at_put hk with ⟨rfl,rfl⟩ | ⟨hne,hk⟩
  ·rw [hL] at hM;cases hM
   exact fun e=>hx o (e ▸ hb')
  ·exact g2 k blk' M hk hM
theorem Rel.forget (h : Rel pin X φ s w) (id : Nat) : Rel pin X φ ⟨s.m.del id,s.next⟩ w where
 os:=h.os
 tape:=h.tape
 output:=h.output
 dom:=h.dom
 live:=fun k b hk=>h.live k b (Tr.at_del hk).2
 inj:=fun k k' b b' M M' hk hk'=>h.inj k k' b b' M M' (Tr.at_del hk).2 (Tr.at_del hk').2
 priv:=fun b o hb=>by
  obtain ⟨g1,g2⟩:=h.priv b o hb
  exact ⟨g1,fun k blk' M hk=>g2 k blk' M (Tr.at_del hk).2⟩
theorem Rel.new (h : Rel pin X φ s w) (o : Obj) (L : Loc) (hLb : L.b=w.heap.size) {blk : Blk} (hb : BR (φ.ext s.next L) (w.alloc o) L blk) :
  Rel pin X (φ.ext s.next L) ⟨s.m.put s.next blk,s.next + 1⟩ (w.alloc o):=by
 have h1:=(h.grow o).name (next:=s.next + 1) L h.fresh (Nat.lt_succ_self _) (Nat.le_succ _)
 refine h1.commit (Ren.ext_self _ _ _) hb (fun k b M hne hk hM => ?_) (fun o hx => ?_)
 ·rw [Ren.ext_ne hne] at hM
  rw [hLb]
  exact Nat.ne_of_lt (h.lt hk hM)
 ·rw [hLb] at hx
  exact absurd (h.privLt hx) (Nat.lt_irrefl _)
theorem Rel.upd (h : Rel pin X φ s w) {w' : World} {id : Nat} {blk blk' : Blk} {L : Loc} (hk : s.m.at id=some blk) (hL : φ id=some L) (hc : Chg w w' L.b) (hb : BR φ w' L blk') :
  Rel pin X φ ⟨s.m.put id blk',s.next⟩ w':=by
 have hx : ∀ o, ¬ X L.b o:=fun o hx=>(h.priv _ _ hx).2 id blk L hk hL rfl
 have hne : ∀ k b M,k ≠ id→s.m.at k=some b → φ k=some M→M.b ≠ L.b:=fun k b M hkk hb' hM e=>hkk (h.inj k id b blk M L hb' hk hM hL e)
 have h1 : Rel pin X φ ⟨s.m.del id,s.next⟩ w':=(h.forget id).frame hc (fun k b M hb' hM=>hne k b M (Ne.symm (Tr.at_del hb').1) (Tr.at_del hb').2 hM) hx
 have h2:=h1.commit hL hb (fun k b M hkk hb' hM=>hne k b M hkk (Tr.at_del hb').2 hM) hx
 exact { h2 with
  live:=fun k b hkb=>by
   rcases Tr.at_put hkb with ⟨rfl,rfl⟩ | ⟨hne',hkb'⟩
   ·exact ⟨L,hL,hb⟩
   ·obtain ⟨M,g1,g2⟩:=h.live k b hkb'
    exact ⟨M,g1,g2.heap (hc.heap _ (hne k b M (Ne.symm hne') hkb' g1))⟩
  inj:=fun k k' b b' M M' hk1 hk2 hM hM' he=>by
   rcases Tr.at_put hk1 with ⟨rfl,rfl⟩ | ⟨hne1,hk1⟩ <;> rcases Tr.at_put hk2 with ⟨rfl,rfl⟩ | ⟨hne2,hk2⟩
   ·rfl
   ·rw [hL] at hM;cases hM
    exact absurd he.symm (hne k' b' M' (Ne.symm hne2) hk2 hM')
   ·rw [hL] at hM';cases hM'
    exact absurd he (hne k b M (Ne.symm hne1) hk1 hM)
   ·exact h.inj k k' b b' M M' hk1 hk2 hM hM' he
  priv:=fun b o hb'=>by
   obtain ⟨g1,g2⟩:=h.priv b o hb'
   have hbb : b ≠ L.b:=fun e=>hx o (e ▸ hb')
   refine ⟨(hc.heap b hbb).trans g1,fun k blk'' M hk1 hM => ?_⟩
   rcases Tr.at_put hk1 with ⟨rfl,rfl⟩ | ⟨hne1,hk1⟩
   ·rw [hL] at hM;cases hM;exact fun e=>hbb e.symm
   ·exact g2 k blk'' M hk1 hM }
theorem BR.cells {L : Loc} {cs : List Value} {esz : Nat} (h : BR φ w L (.cells cs esz)) : ∃ us,VRs φ cs us∧Cells w L.b L.base us:=by
 obtain ⟨h0,l,et,fr,h1,h2,h3,h4,h5,h6⟩:=h
 have hlen : ((l.drop L.base).take cs.length).length=cs.length:=by simp;omega
 have hget : ∀ (j : Nat),j < cs.length→((l.drop L.base).take cs.length)[j]? = l[L.base + j]?:=fun j hj=>by
  rw [List.getElem?_take,if_pos hj,List.getElem?_drop]
 refine ⟨(l.drop L.base).take cs.length,VRs.of_get hlen.symm fun j v hv => ?_,fun j v hv => ?_⟩
 ·obtain ⟨u,g1,g2⟩:=h6 j v hv
  exact ⟨u,by rw [hget j (List.getElem?_eq_some_iff.1 hv).1];exact g1,g2⟩
 ·have hj : j < cs.length:=by have:=(List.getElem?_eq_some_iff.1 hv).1;omega
  rw [hget j hj] at hv
  simp only [World.cell?,h1]
  simpa using hv
theorem putAt_get : ∀ (vs l : List Value) (k i : Nat),k + vs.length ≤ l.length→(putAt l k vs)[i]? = if k ≤ i∧i < k + vs.length then vs[i - k]? else l[i]?
 | [],l,k,i,_=>by
  simp only [putAt,List.length_nil,Nat.add_zero]
  rw [if_neg (by omega)]
 | v :: vs,l,k,i,h=>by
  simp only [List.length_cons] at h
  simp only [putAt,List.length_cons]
  rw [putAt_get vs (l.set k v) (k + 1) i (by simp;omega)]
  by_cases h1 : k + 1 ≤ i∧i < k + 1 + vs.length
  ·rw [if_pos h1,if_pos (by omega),show i - k=(i - (k + 1)) + 1 by omega,List.getElem?_cons_succ]
  ·rw [if_neg h1]
   by_cases h2 : k=i
   ·subst h2
    rw [if_pos (by omega),Nat.sub_self]
    have : k < l.length:=by omega
    simp [this]
   ·rw [if_neg (by omega),List.getElem?_set_ne h2]
theorem splice_get {vs cs r : List Value} {n : Nat} (h : splice vs cs n=some r) (j : Nat) : r[j]? = (if n ≤ j∧j < n + vs.length then vs[j - n]? else cs[j]?)∧r.length=cs.length:=by
 obtain ⟨h1,h2⟩:=splice_eq vs cs n r h
 rw [← putAt_eq vs cs n h2] at h1
 subst h1
 exact ⟨putAt_get vs cs n j h2,putAt_length vs cs n⟩
theorem ones_allOne {φ : Ren} : ∀ {l l' : List Value},VRs φ l l' → ones l=true→allOne l' = true
 | _,_, .nil,_=>rfl
 | _,_, .cons (v:=v) (v':=v') (l:=l) h hs,ho=>by
  have h' : (Ev.one v && ones l)=true:=ho
  rw [Bool.and_eq_true] at h'
  simp only [allOne,Bool.and_eq_true]
  refine ⟨?_,ones_allOne hs h'.2⟩
  cases h with
  | same hf=>cases v <;> first | rfl | (simp [flat] at hf)
  | agg=>simp [Ev.one] at h'
  | tuple=>simp [Ev.one] at h'
  | _=>rfl
theorem run_storeCellsW {P : Program} : ∀ (vs : List Value) (b o i : Nat) (w : World) (l : List Value) (et : TypeId) (fr : Nat × Nat),w.heap[b]? = some (.cells ⟨l⟩ et fr)→(∀ i,i < l.length → ¬ (fr.1 ≤ i∧i < fr.2))→allOne vs=true→o + i + vs.length ≤ l.length →
  ∃ w',(storeCells ⟨b,o,none⟩ vs i).run P w = .ok () w' ∧ Chg w w' b∧w'.heap[b]? = some (.cells ⟨putAt l (o + i) vs⟩ et fr)
 | [],b,o,i,w,l,et,fr,h,_,_,_=>⟨w,rfl,Chg.refl w b,h⟩
 | v :: vs,b,o,i,w,l,et,fr,h,hf,h1,h2=>by
  simp only [allOne,Bool.and_eq_true] at h1
  simp only [List.length_cons] at h2
  have hlt : o + i < l.length:=by omega
  have hc : w.cell? ⟨b,o + i,none⟩ = some l[o + i]:=by simp [World.cell?,h,hlt]
  have hfz : w.frozen? ⟨b,o + i,none⟩ = false:=by
   have:=hf (o + i) hlt
   simp only [World.frozen?,h]
   simpa using this
  have hset : (w.setCell ⟨b,o + i,none⟩ v).heap[b]? = some (.cells ⟨l.set (o + i) v⟩ et fr):=by
   have hb:=lt_of_heap h
   simp only [World.setCell,Array.getElem?_modify]
   simp [h]
  have hch : Chg w (w.setCell ⟨b,o + i,none⟩ v) b:=⟨rfl,rfl,rfl,fun k hk=>heap_setCell_ne w _ v (Ne.symm hk)⟩
  obtain ⟨w',hr,hc',hh⟩:=run_storeCellsW vs b o (i + 1) _ (l.set (o + i) v) et fr hset (by simpa using hf) h1.2 (by simp;omega)
  refine ⟨w', ?_,hch.trans hc',by simpa [putAt,Nat.add_assoc] using hh⟩
  simp only [storeCells,Sem.run_bind,addr_add,run_store P w _ v .plain h1.1,stored,hc,hfz,Bool.false_eq_true,if_false,Result.andThen_ok]
  exact hr
theorem Rel.write {P : Program} (h : Rel pin X φ s w) {id off : Nat} {cs cs' vs vs' : List Value} {esz : Nat} {L : Loc} (hk : s.m.at id=some (.cells cs esz)) (hL : φ id=some L) (hv : VRs φ vs vs') (h1 : ones vs=true) (hs : splice vs cs off=some cs') :
  ∃ w',(storeCells ⟨L.b,L.base + off,none⟩ vs').run P w = .ok () w' ∧ Rel pin X φ ⟨s.m.put id (.cells cs' esz),s.next⟩ w':=by
 obtain ⟨M,g1,g2⟩:=h.live id _ hk
 rw [hL] at g1;cases g1
 obtain ⟨h0,l,et,fr,k1,k2,k3,k4,k5,k6⟩:=g2
 obtain ⟨s1,s2⟩:=splice_eq vs cs off cs' hs
 have hlen:=hv.length
 obtain ⟨w',r1,r2,r3⟩:=run_storeCellsW (P:=P) vs' L.b (L.base + off) 0 w l et fr k1 k2 (ones_allOne hv h1) (by omega)
 refine ⟨w',r1,h.upd hk hL r2 ⟨h0,_,et,fr,r3, ?_,k3, ?_, ?_,fun j v hj => ?_⟩⟩
 ·rw [putAt_length];exact k2
 ·rw [putAt_length];exact k4
 ·rw [(splice_get hs 0).2];exact k5
 ·have hg:=(splice_get hs j).1
  rw [hg] at hj
  rw [putAt_get _ _ _ _ (by omega)]
  by_cases hc : off ≤ j∧j < off + vs.length
  ·rw [if_pos hc] at hj
   rw [if_pos (by omega),show L.base + j - (L.base + off + 0)=j - off by omega]
   exact hv.get hj
  ·rw [if_neg hc] at hj
   rw [if_neg (by omega)]
   exact k6 j v hj
end Go.Ev
