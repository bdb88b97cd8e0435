/- PrShP -/
import Derived.Test.YtinmchaljlekgaaGreatDoorB11
set_option linter.unusedVariables false
set_option linter.unusedSimpArgs false
set_option maxHeartbeats 6400000
namespace Go.Sep
def rep (c : Int) (a : Tree) : List Int:=List.replicate (min a.num.toNat 20001) c
def shStmt (lv : Str→Nat) (a : Tree) : Shape :=
 if a.kind=20 then ⟨[],6,0,true⟩
 else if a.kind=21 then (if a.kids.length=1 then ⟨[2],0,1,true⟩ else ⟨[2,7],0,1,true⟩)
 else if a.kind=22 then ⟨rep 11 a,7,0,decide (1 ≤ a.num) && decide (a.num < (a.kids.length : Int))⟩
 else if a.kind=23 then ⟨rep 10 a,7,0,decide (1 ≤ a.num) && decide (a.num < (a.kids.length : Int))⟩
 else if a.kind=24 then ⟨[12],0,0,true⟩
 else if a.kind=25 then (if a.kids.length=2 then ⟨[7,5],0,0,true⟩ else ⟨[7,5,13],0,0,true⟩)
 else if a.kind=26 then (if a.kids.length=1 then ⟨[5],0,0,true⟩ else ⟨[7,5],0,0,true⟩)
 else if a.kind=27 then ⟨[],7,0,true⟩
 else if a.kind=28 ∨ a.kind=29 then ⟨[],0,0,true⟩
 else ⟨[],0,0,false⟩
def shExpr (lv : Str→Nat) (a : Tree) : Shape :=
 if a.kind=40 then ⟨[],0,0,decide (0 ≤ a.num)⟩
 else if a.kind=41 then ⟨[],0,2,decide ((a.name.length : Int) ≤ 1024)⟩
 else if a.kind=42 then ⟨[],0,0,decide (a.num=0) || decide (a.num=1)⟩
 else if a.kind=43 then ⟨[],0,0,true⟩
 else if a.kind=44 then ⟨[],0,1,true⟩
 else if a.kind=45 then ⟨[],7,1,true⟩
 else if a.kind=46 then ⟨[2],7,0,true⟩
 else if a.kind=47 then ⟨[3,5],0,0,true⟩
 else if a.kind=48 then ⟨[7],0,1,true⟩
 else if a.kind=49 then ⟨[7,7],0,0,true⟩
 else if a.kind=50 then (if a.num=0 then ⟨[7],0,0,true⟩ else if a.num=1 ∨ a.num=2 then ⟨[7,7],0,0,true⟩ else if a.num=3 then ⟨[7,7,7],0,0,true⟩ else ⟨[],0,0,false⟩)
 else if a.kind=51 then ⟨[7],7,0,true⟩
 else if a.kind=52 then ⟨[7],0,2,decide (a.name=[45]) || (decide (a.name=[33]) || (decide (a.name=[38]) || decide (a.name=[42])))⟩
 else if a.kind=53 then ⟨[7,7],0,2,decide (0 < (lv a.name : Int))⟩
 else ⟨[],0,0,false⟩
def kd0 (a : Tree) : Tree:=a.kids.headD (.mk 0 [] 0 [])
def shDecl (a : Tree) : Shape :=
 if a.kind=2 then ⟨[],8,1,true⟩ else if a.kind=3 then ⟨[],9,1,true⟩
 else if a.kind=4 then ⟨[3,5],0,1,true⟩ else if a.kind=5 then ⟨[14,3,5],0,1,true⟩ else ⟨[],0,0,false⟩
def shTyp (a : Tree) : Shape :=
 if a.kind=10 then ⟨[],0,1,true⟩ else if a.kind=11 ∨ a.kind=12 then ⟨[2],0,0,true⟩
 else if a.kind=13 then ⟨[],2,0,decide (0 ≤ a.num) && decide (a.num ≤ (a.kids.length : Int))⟩ else ⟨[],0,0,false⟩
def shSig (a : Tree) : Shape:=⟨rep 4 a,2,0,decide (a.kind=7) && (decide (0 ≤ a.num) && decide (a.num ≤ (a.kids.length : Int)))⟩
def Shape.but (x : Shape) (c : Bool) : Shape:=⟨x.ks,x.rest,x.text,c && x.ok⟩
def shapeR (lv : Str→Nat) (k : Int) (a : Tree) : Shape :=
 if k=10 then (shExpr lv a).but (Ps.isPl a)
 else if k=11 then ⟨[],0,1,decide (a.kind=44)⟩
 else if k=12 then (shExpr lv a).but (decide (a.kind=51))
 else if k=13 then (if a.kind=25 then shStmt lv a else ⟨[],6,0,decide (a.kind=20)⟩)
 else if k=14 then ⟨[2],0,1,((decide (a.kids.length=1) && decide ((kd0 a).kind=11)) && (decide ((kd0 a).kids.length=1) && decide ((kd0 (kd0 a)).kind=10))) && decide (a.kind=8)⟩
 else if k=8 then ⟨[2],0,1,decide (a.kind=6)⟩
 else if k=9 then ⟨[3],0,1,decide (a.kind=6)⟩
 else if k=4 then ⟨[2],0,1,decide (a.kind=8)⟩
 else if k=5 then ⟨[],6,0,decide (a.kind=20)⟩
 else if k=3 then shSig a
 else if k=1 then shDecl a
 else if k=2 then shTyp a
 else if k=6 then shStmt lv a
 else if k=7 then shExpr lv a
 else ⟨[],0,0,false⟩
def isD (lv : Str→Nat) : Nat→Int→Tree→Bool
 | 0,_,_=>false
 | n + 1,k,a=>fitB (shapeR lv k a) a && (textB (shapeR lv k a) a && allS (isD lv n) (shapeR lv k a).ks (shapeR lv k a).rest a.kids)
end Go.Sep


/- PrClimb -/
namespace Go.Ps
open Go.Sep (Tree Str)
variable {β : Type}
def opsAt (l : Nat) : List Str:=(levels[l]?).getD []
end Go.Ps


/- PrLev -/
namespace Go.Sep
open Go.Proofs
attribute [local irreducible] TC TO OT TCallX TCall DO DOt thenQ blockQ retQ At
def levelD (s : Str) : Nat :=
 if s=[124,124] then 1 else if s=[38,38] then 2
 else if s=[61,61] ∨ s=[33,61] ∨ s=[60] ∨ s=[60,61] ∨ s=[62] ∨ s=[62,61] then 3
 else if s=[43] ∨ s=[45] then 4
 else if s=[42] ∨ s=[47] ∨ s=[37] then 5 else 0
theorem levelD_pos {s : Str} (h : levelD s ≠ 0) : ∃ l,l < 5∧levelD s=l + 1∧s ∈ Ps.opsAt l:=by
 unfold levelD at h ⊢
 by_cases h1 : s=[124,124]
 ·exact ⟨0,by decide,by rw [if_pos h1],by rw [h1];decide⟩
 rw [if_neg h1] at h ⊢
 by_cases h2 : s=[38,38]
 ·exact ⟨1,by decide,by rw [if_pos h2],by rw [h2];decide⟩
 rw [if_neg h2] at h ⊢
 by_cases h3 : s=[61,61] ∨ s=[33,61] ∨ s=[60] ∨ s=[60,61] ∨ s=[62] ∨ s=[62,61]
 ·refine ⟨2,by decide,by rw [if_pos h3], ?_⟩
  rcases h3 with h | h | h | h | h | h <;> (rw [h];decide)
 rw [if_neg h3] at h ⊢
 by_cases h4 : s=[43] ∨ s=[45]
 ·refine ⟨3,by decide,by rw [if_pos h4], ?_⟩
  rcases h4 with h | h <;> (rw [h];decide)
 rw [if_neg h4] at h ⊢
 by_cases h5 : s=[42] ∨ s=[47] ∨ s=[37]
 ·refine ⟨4,by decide,by rw [if_pos h5], ?_⟩
  rcases h5 with h | h | h <;> (rw [h];decide)
 ·rw [if_neg h5] at h;exact absurd rfl h
theorem level_law (m : Mem) (L : List Item) (s : Str) : TCall Tryz.prog 182 ⟨[strV s]⟩ m L (Ret (.int .i64 (levelD s : Int)) m L):=by
 unfold TCall levelD
 refine bw Tryz.func182 rfl 22 rfl ?_
 refine uA ?_
 refine bq rfl (fun a1 => ?_) (fun a1 => ?_)
 ·skip
  subst a1
  refine uA ?_
  refine bu rfl uS ⟨rfl,rfl, ?_⟩
  rfl
 refine uA ?_
 refine bq rfl (fun a2 => ?_) (fun a2 => ?_)
 ·skip
  subst a2
  refine uA ?_
  refine bu rfl uS ⟨rfl,rfl, ?_⟩
  rfl
 refine uA ?_
 refine bq rfl (fun a3 => ?_) (fun a3 => ?_)
 ·skip
  subst a3
  refine uA ?_
  refine bu rfl uS ⟨rfl,rfl, ?_⟩
  rfl
 refine uA ?_
 refine bq rfl (fun a4 => ?_) (fun a4 => ?_)
 ·skip
  subst a4
  refine uA ?_
  refine bu rfl uS ⟨rfl,rfl, ?_⟩
  rfl
 refine uA ?_
 refine bq rfl (fun a5 => ?_) (fun a5 => ?_)
 ·skip
  subst a5
  refine uA ?_
  refine bu rfl uS ⟨rfl,rfl, ?_⟩
  rfl
 refine uA ?_
 refine bq rfl (fun a6 => ?_) (fun a6 => ?_)
 ·skip
  subst a6
  refine uA ?_
  refine bu rfl uS ⟨rfl,rfl, ?_⟩
  rfl
 refine uA ?_
 refine bq rfl (fun a7 => ?_) (fun a7 => ?_)
 ·skip
  subst a7
  refine uA ?_
  refine bu rfl uS ⟨rfl,rfl, ?_⟩
  rfl
 refine uA ?_
 refine bq rfl (fun a8 => ?_) (fun a8 => ?_)
 ·skip
  subst a8
  refine uA ?_
  refine bu rfl uS ⟨rfl,rfl, ?_⟩
  rfl
 refine uA ?_
 refine bq rfl (fun a9 => ?_) (fun a9 => ?_)
 ·skip
  subst a9
  refine uA ?_
  refine bu rfl uS ⟨rfl,rfl, ?_⟩
  rfl
 refine uA ?_
 refine bq rfl (fun a10 => ?_) (fun a10 => ?_)
 ·skip
  subst a10
  refine uA ?_
  refine bu rfl uS ⟨rfl,rfl, ?_⟩
  rfl
 refine uA ?_
 refine bq rfl (fun a11 => ?_) (fun a11 => ?_)
 ·skip
  subst a11
  refine uA ?_
  refine bu rfl uS ⟨rfl,rfl, ?_⟩
  rfl
 refine uA ?_
 refine bq rfl (fun a12 => ?_) (fun a12 => ?_)
 ·skip
  subst a12
  refine uA ?_
  refine bu rfl uS ⟨rfl,rfl, ?_⟩
  rfl
 refine uA ?_
 refine bq rfl (fun a13 => ?_) (fun a13 => ?_)
 ·skip
  subst a13
  refine uA ?_
  refine bu rfl uS ⟨rfl,rfl, ?_⟩
  rfl
 refine uA ?_
 refine bu rfl uS ⟨rfl,rfl, ?_⟩
 simp [a1,a2,a3,a4,a5,a6,a7,a8,a9,a10,a11,a12,a13]
end Go.Sep


/- PrShQ -/
namespace Go.Sep
theorem level_iff (s : Str) : decide (0 < (levelD s : Int))=decide (s ∈ Ps.levels.flatten):=by
 refine decide_eq_decide.2 ⟨fun h => ?_,fun h => ?_⟩
 ·obtain ⟨l,h1,h2,h3⟩:=levelD_pos (s:=s) (by omega)
  exact List.mem_flatten.2 ⟨Ps.opsAt l,by
   have : ∀ l : Fin 5,Ps.opsAt l.val ∈ Ps.levels:=by decide
   exact this ⟨l,h1⟩,h3⟩
 ·have : ∀ s ∈ Ps.levels.flatten,0 < levelD s:=by decide
  have:=this s h
  omega
def isK (g : Sg) (k : Int) : Tree→Bool :=
 if k=7 then g.expr else if k=6 then g.stmt else if k=5 then g.block else if k=2 then Tree.isType else if k=3 then Tree.isSig else if k=4 then Tree.isParam
 else if k=8 then fieldS Tree.isType else if k=9 then fieldS Tree.isSig else if k=10 then plS g else if k=11 then nmS g else if k=12 then callS g else if k=13 then otherS g
 else if k=14 then recvS else if k=1 then declS g else fun _=>false
@[reducible] def Srt (k : Int) : Prop:=1 ≤ k∧k ≤ 14
structure SortsOk (x : Shape) : Prop where
 ks : ∀ k ∈ x.ks,Srt k
 rest : x.rest=0 ∨ Srt x.rest
theorem want_ok {x : Shape} {a : Tree} (h : SortsOk x) (hf : fitB x a=true) {i : Nat} (hi : i < a.kids.length) : Srt (want x i):=by
 unfold want
 by_cases h1 : i < x.ks.length
 ·rw [ak h1]
  exact h.ks _ (aB h1)
 ·rw [au (by omega)]
  rcases h.rest with h2 | h2
  ·unfold fitB at hf
   rw [h2] at hf
   simp only [aj,ao,ar,Bool.not_eq_true',decide_eq_false_iff_not,not_true_eq_false,false_or] at hf
   omega
  ·exact h2
theorem rep_ok {c : Int} {a : Tree} (h : Srt c) : ∀ k ∈ rep c a,Srt k:=fun k hk=>by rw [List.eq_of_mem_replicate hk];exact h
theorem ok_lit {ks : List Int} {r t : Int} {o : Bool} (h : ks.all (fun k=>decide (1 ≤ k∧k ≤ 14))=true) (hr : r=0 ∨ Srt r) : SortsOk ⟨ks,r,t,o⟩ :=
 ⟨fun k hk=>by have:=List.all_eq_true.1 h k hk;exact of_decide_eq_true this,hr⟩
theorem rest_ok {r : Int} (h : decide (r=0 ∨ 1 ≤ r∧r ≤ 14)=true) : r=0 ∨ Srt r:=of_decide_eq_true h
theorem ok_rep {c r t : Int} {o : Bool} {a : Tree} (h : Srt c) (hr : r=0 ∨ Srt r) : SortsOk ⟨rep c a,r,t,o⟩:=⟨rep_ok h,hr⟩
theorem ok_if {c : Prop} [Decidable c] {x y : Shape} (hx : SortsOk x) (hy : SortsOk y) : SortsOk (if c then x else y):=by
 by_cases h : c
 ·rw [if_pos h];exact hx
 ·rw [if_neg h];exact hy
theorem SortsOk.but {x : Shape} (h : SortsOk x) (c : Bool) : SortsOk (x.but c):=⟨h.ks,h.rest⟩
theorem shStmt_ok (lv : Str→Nat) (a : Tree) : SortsOk (shStmt lv a):=by
 unfold shStmt
 repeat' first
  | refine ok_if ?_ ?_
  | exact ok_lit rfl (rest_ok (by decide))
  | exact ok_rep (c:=11) ⟨by decide,by decide⟩ (rest_ok (by decide))
  | exact ok_rep (c:=10) ⟨by decide,by decide⟩ (rest_ok (by decide))
theorem shExpr_ok (lv : Str→Nat) (a : Tree) : SortsOk (shExpr lv a):=by
 unfold shExpr
 repeat' first
  | refine ok_if ?_ ?_
  | exact ok_lit rfl (rest_ok (by decide))
theorem shDecl_ok (a : Tree) : SortsOk (shDecl a):=by
 unfold shDecl
 repeat' first
  | refine ok_if ?_ ?_
  | exact ok_lit rfl (rest_ok (by decide))
theorem shTyp_ok (a : Tree) : SortsOk (shTyp a):=by
 unfold shTyp
 repeat' first
  | refine ok_if ?_ ?_
  | exact ok_lit rfl (rest_ok (by decide))
theorem shSig_ok (a : Tree) : SortsOk (shSig a):=ok_rep (c:=4) ⟨by decide,by decide⟩ (rest_ok (by decide))
theorem shapeR_ok (lv : Str→Nat) (k : Int) (a : Tree) : SortsOk (shapeR lv k a):=by
 unfold shapeR
 repeat' first
  | exact (shExpr_ok lv a).but _
  | exact shExpr_ok lv a
  | exact shStmt_ok lv a
  | exact shDecl_ok a
  | exact shTyp_ok a
  | exact shSig_ok a
  | refine ok_if ?_ ?_
  | exact ok_lit rfl (rest_ok (by decide))
theorem size_of_kid {a t : Tree} (h : t ∈ a.kids) : t.size < a.size:=by
 obtain ⟨i,hi,rfl⟩:=List.getElem_of_mem h
 have h1:=sizeL_next a.kids i hi
 have h2:=sizeL_drop a.kids (i + 1)
 have h3:=size_kids a
 omega
theorem all_get {p q : Int→Tree→Bool} : ∀ (ks : List Int) (r : Int) (l : List Tree),(∀ (i : Nat) (hi : i < l.length),p (ks[i]?.getD r) l[i]=q (ks[i]?.getD r) l[i])→allS p ks r l=allS q ks r l
 | [],r,[],_=>rfl
 | _ :: _,r,[],_=>rfl
 | [],r,t :: ts,h=>by
  rw [allS,allS,all_get [] r ts fun i hi=>h (i + 1) (by simpa using hi)]
  have:=h 0 (by simp)
  simp only [List.getElem?_nil,Option.getD_none,List.getElem_cons_zero] at this
  rw [this]
 | k :: ks,r,t :: ts,h=>by
  rw [allS,allS,all_get ks r ts fun i hi=>by have:=h (i + 1) (by simpa using hi);simpa using this]
  have:=h 0 (by simp)
  simp only [List.getElem?_cons_zero,Option.getD_some,List.getElem_cons_zero] at this
  rw [this]
def restO (p : Int→Tree→Bool) (r : Int) : Option (Tree→Bool):=if r=0 then none else some (p r)
theorem allS_kids (p : Int→Tree→Bool) : ∀ (ks : List Int) (r : Int) (l : List Tree),(decide (ks.length ≤ l.length) && ((!decide (r=0) || decide (l.length ≤ ks.length)) && allS p ks r l))=kidsR (ks.map p) (restO p r) l
 | [],r,[]=>by unfold restO;split <;> simp [kidsR,allS, *]
 | k :: ks,r,[]=>by simp [kidsR]
 | [],r,t :: ts=>by
  unfold restO
  split
  ·next h=>simp [kidsR,h]
  ·next h =>
   have:=allS_kids p [] r ts
   unfold restO at this
   rw [if_neg h] at this
   simp only [ay,kidsR] at this
   simp only [ay,kidsR,aY,← this,allS]
   simp [h]
 | k :: ks,r,t :: ts=>by
  have:=allS_kids p ks r ts
  simp only [ax,kidsR,← this,allS,ab,Nat.add_le_add_iff_right]
  cases p k t <;> simp
theorem allS_take (p : Int→Tree→Bool) (c r : Int) (n : Nat) : ∀ l : List Tree,n ≤ l.length→allS p (List.replicate n c) r l=((l.take n).all (p c) && (l.drop n).all (p r)):=by
 induction n with
 | zero=>intro l _;induction l with
  | nil=>rfl
  | cons t ts ih=>simp only [List.replicate_zero] at *;rw [allS,ih (aU _)];simp
 | succ n ih =>
  intro l hl
  cases l with
  | nil=>simp at hl
  | cons t ts =>
   rw [List.replicate_succ,allS,ih ts (by simpa using hl),List.take_succ_cons,aY,List.drop_succ_cons,bf]
theorem is_eq (x : Shape) (a : Tree) (p : Int→Tree→Bool) : (fitB x a && (textB x a && allS p x.ks x.rest a.kids)) =
  ((x.ok && (decide (a.num=0) || numB a.kind)) && (textB x a && kidsR (x.ks.map p) (restO p x.rest) a.kids)):=by
 rw [← allS_kids]
 unfold fitB
 cases x.ok <;> cases textB x a <;> cases decide (x.ks.length ≤ a.kids.length) <;> cases decide (a.num=0) <;> cases numB a.kind <;> cases decide (x.rest=0) <;> cases decide (a.kids.length ≤ x.ks.length) <;> cases allS p x.ks x.rest a.kids <;> rfl
theorem kidsR2 (p q : Tree→Bool) (l : List Tree) : kidsR [p,q] none l=true→l.length=2:=by
 match l with
 | []=>simp [kidsR]
 | [_]=>simp [kidsR]
 | [_,_]=>simp
 | _ :: _ :: _ :: _=>simp [kidsR]
theorem kidsR3 (p q r : Tree→Bool) (l : List Tree) : kidsR [p,q,r] none l=true→l.length=3:=by
 match l with
 | []=>simp [kidsR]
 | [_]=>simp [kidsR]
 | [_,_]=>simp [kidsR]
 | [_,_,_]=>simp
 | _ :: _ :: _ :: _ :: _=>simp [kidsR]
theorem kidsR_same : ∀ (n : Nat) (p : Tree→Bool) (l : List Tree),kidsR (List.replicate n p) none l=(decide (l.length=n) && l.all p)
 | 0,p,[]=>by simp [kidsR]
 | 0,p,_ :: _=>by simp [kidsR]
 | n + 1,p,[]=>by simp [kidsR,List.replicate_succ]
 | n + 1,p,x :: l=>by
  rw [List.replicate_succ,kidsR,kidsR_same n p l]
  simp only [ab,Nat.add_right_cancel_iff,aY]
  cases p x <;> simp
theorem asg_eq (g : Sg) (c : Int) (a : Tree) (hs : a.kids.length ≤ 20000) : 
  ((decide (1 ≤ a.num) && decide (a.num < (a.kids.length : Int))) && kidsR ((rep c a).map (isK g)) (restO (isK g) 7) a.kids)=asgS g (isK g c) a:=by
 unfold asgS
 by_cases h1 : 1 ≤ a.num
 ·by_cases h2 : a.num < (a.kids.length : Int)
  ·rw [aH h1,aH h2,← allS_kids]
   have h3 : rep c a=List.replicate a.num.toNat c:=by unfold rep;rw [show min a.num.toNat 20001=a.num.toNat by omega]
   rw [h3,allS_take (isK g) c 7 a.num.toNat a.kids (by omega),aK,aH (show a.num.toNat ≤ a.kids.length by omega)]
   rfl
  ·rw [aI h2,aH h1];rfl
 ·rw [aI h1];rfl
def shB (p : Int→Tree→Bool) (x : Shape) (a : Tree) : Bool:=(x.ok && (decide (a.num=0) || numB a.kind)) && (textB x a && kidsR (x.ks.map p) (restO p x.rest) a.kids)
theorem text0 {ks : List Int} {r : Int} {o : Bool} (a : Tree) : textB ⟨ks,r,0,o⟩ a=decide (a.name=[]):=by unfold textB;cases decide (a.name=[]) <;> rfl
theorem text1 {ks : List Int} {r : Int} {o : Bool} (a : Tree) : textB ⟨ks,r,1,o⟩ a=isName a.name:=by unfold textB;cases isName a.name <;> rfl
theorem text2 {ks : List Int} {r : Int} {o : Bool} (a : Tree) : textB ⟨ks,r,2,o⟩ a=true:=rfl
theorem num_y {k : Int} (a : Tree) (h : a.kind=k) (hk : numB k=true) : (decide (a.num=0) || numB a.kind)=true:=by rw [h,hk,Bool.or_true]
theorem num_n {k : Int} (a : Tree) (h : a.kind=k) (hk : numB k=false) : (decide (a.num=0) || numB a.kind)=decide (a.num=0):=by rw [h,hk,bc]
theorem bareB_eq (a : Tree) (k t u : Bool) : bareB a k t u=(k && ((t || decide (a.name=[])) && (u || decide (a.num=0)))):=rfl
section
variable (g : Sg) (a : Tree)
theorem shY {x : Shape} {k : Int} {o : Bool} {ps : List (Tree→Bool)} {r : Option (Tree→Bool)} (hk : a.kind=k) (hn : numB k=true) (ho : x.ok=o) (hp : x.ks.map (isK g)=ps) (hr : restO (isK g) x.rest=r) : shB (isK g) x a=(o && (textB x a && kidsR ps r a.kids)):=by
 unfold shB;rw [num_y a hk hn,hp,hr,ho,aE]
theorem shN {x : Shape} {k : Int} {o : Bool} {ps : List (Tree→Bool)} {r : Option (Tree→Bool)} (hk : a.kind=k) (hn : numB k=false) (ho : x.ok=o) (hp : x.ks.map (isK g)=ps) (hr : restO (isK g) x.rest=r) : shB (isK g) x a=((o && decide (a.num=0)) && (textB x a && kidsR ps r a.kids)):=by
 unfold shB;rw [num_n a hk hn,hp,hr,ho]
theorem ofB_eq {k : Int} (h : a.kind=k) : ofB a k=(decide (a.num=0) && isName a.name):=by unfold ofB;rw [aH h,aF]
theorem kidsR_nil (p : Tree→Bool) (l : List Tree) : kidsR [] (some p) l=l.all p:=rfl
theorem kidsR_two (p : Tree→Bool) (l : List Tree) : kidsR [p,p] none l=(decide (l.length=2) && l.all p):=kidsR_same 2 p l
theorem kidsR_three (p : Tree→Bool) (l : List Tree) : kidsR [p,p,p] none l=(decide (l.length=3) && l.all p):=kidsR_same 3 p l
theorem sh_expr : shB (isK g) (shExpr levelD a) a=exprS g a:=by
 unfold shExpr exprS
 by_cases h : a.kind=40
 ·rw [if_pos h,if_pos h,shY g a h rfl rfl (ps:=[]) (r:=none) rfl rfl]
  simp only [text0,text1,text2,bareB_eq,kidsR_nil,ofB_eq a h]
  simp only [aF,aE,be,Bool.true_or,bc,aG,bareB_eq,bf];try ac_rfl
 rw [if_neg h,if_neg h];clear h
 by_cases h : a.kind=41
 ·rw [if_pos h,if_pos h,shN g a h rfl rfl (ps:=[]) (r:=none) rfl rfl]
  simp only [text0,text1,text2,bareB_eq,kidsR_nil,ofB_eq a h]
  simp only [aF,aE,be,Bool.true_or,bc,aG,bareB_eq,bf];try ac_rfl
 rw [if_neg h,if_neg h];clear h
 by_cases h : a.kind=42
 ·rw [if_pos h,if_pos h,shY g a h rfl rfl (ps:=[]) (r:=none) rfl rfl,text0,bareB_eq]
  rw [show (decide (a.num=0) || decide (a.num=1))=decide (a.num / 2=0) by rw [← Bool.decide_or];exact decide_eq_decide.2 (by omega)]
  simp only [aF,aE,be,Bool.true_or,bc,aG,bareB_eq,bf];try ac_rfl
 rw [if_neg h,if_neg h];clear h
 by_cases h : a.kind=43
 ·rw [if_pos h,if_pos h,shN g a h rfl rfl (ps:=[]) (r:=none) rfl rfl]
  simp only [text0,text1,text2,bareB_eq,kidsR_nil,ofB_eq a h]
  simp only [aF,aE,be,Bool.true_or,bc,aG,bareB_eq,bf];try ac_rfl
 rw [if_neg h,if_neg h];clear h
 by_cases h : a.kind=44
 ·rw [if_pos h,if_pos h,shN g a h rfl rfl (ps:=[]) (r:=none) rfl rfl]
  simp only [text0,text1,text2,bareB_eq,kidsR_nil,ofB_eq a h]
  simp only [aF,aE,be,Bool.true_or,bc,aG,bareB_eq,bf];try ac_rfl
 rw [if_neg h,if_neg h];clear h
 by_cases h : a.kind=45
 ·rw [if_pos h,if_pos h,shN g a h rfl rfl (ps:=[]) (r:=(some g.expr)) rfl rfl]
  simp only [text0,text1,text2,bareB_eq,kidsR_nil,ofB_eq a h]
  simp only [aF,aE,be,Bool.true_or,bc,aG,bareB_eq,bf];try ac_rfl
 rw [if_neg h,if_neg h];clear h
 by_cases h : a.kind=46
 ·rw [if_pos h,if_pos h,shN g a h rfl rfl (ps:=[Tree.isType]) (r:=(some g.expr)) rfl rfl]
  simp only [text0,text1,text2,bareB_eq,kidsR_nil,ofB_eq a h]
  simp only [aF,aE,be,Bool.true_or,bc,aG,bareB_eq,bf];try ac_rfl
 rw [if_neg h,if_neg h];clear h
 by_cases h : a.kind=47
 ·rw [if_pos h,if_pos h,shN g a h rfl rfl (ps:=[Tree.isSig,g.block]) (r:=none) rfl rfl]
  simp only [text0,text1,text2,bareB_eq,kidsR_nil,ofB_eq a h]
  simp only [aF,aE,be,Bool.true_or,bc,aG,bareB_eq,bf];try ac_rfl
 rw [if_neg h,if_neg h];clear h
 by_cases h : a.kind=48
 ·rw [if_pos h,if_pos h,shN g a h rfl rfl (ps:=[g.expr]) (r:=none) rfl rfl]
  simp only [text0,text1,text2,bareB_eq,kidsR_nil,ofB_eq a h]
  simp only [aF,aE,be,Bool.true_or,bc,aG,bareB_eq,bf];try ac_rfl
 rw [if_neg h,if_neg h];clear h
 by_cases h : a.kind=49
 ·rw [if_pos h,if_pos h,shN g a h rfl rfl (ps:=[g.expr,g.expr]) (r:=none) rfl rfl]
  simp only [text0,text1,text2,bareB_eq,kidsR_nil,ofB_eq a h]
  simp only [aF,aE,be,Bool.true_or,bc,aG,bareB_eq,bf];try ac_rfl
 rw [if_neg h,if_neg h];clear h
 by_cases h : a.kind=50
 ·rw [if_pos h,if_pos h]
  unfold lvl
  by_cases n0 : a.num=0
  ·rw [if_pos n0,shY g a h rfl rfl (ps:=[g.expr]) (r:=none) rfl rfl,text0,bareB_eq,kidsR1,n0]
   rw [show decide ((a.kids.length : Int)=1 + 0 % 2 + 0 / 2)=decide (a.kids.length=1) from decide_eq_decide.2 (by omega)]
   simp only [aF,aE,be,Bool.true_or,bc,aG,bareB_eq,bf];try ac_rfl
  rw [if_neg n0]
  by_cases n1 : a.num=1 ∨ a.num=2
  ·rw [if_pos n1,shY g a h rfl rfl (ps:=[g.expr,g.expr]) (r:=none) rfl rfl,text0,bareB_eq,kidsR_two]
   rcases n1 with n1 | n1
   ·rw [n1,show decide ((a.kids.length : Int)=1 + 1 % 2 + 1 / 2)=decide (a.kids.length=2) from decide_eq_decide.2 (by omega)]
    simp only [aF,aE,be,Bool.true_or,bc,aG,bareB_eq,bf];try ac_rfl
   ·rw [n1,show decide ((a.kids.length : Int)=1 + 2 % 2 + 2 / 2)=decide (a.kids.length=2) from decide_eq_decide.2 (by omega)]
    simp only [aF,aE,be,Bool.true_or,bc,aG,bareB_eq,bf];try ac_rfl
  rw [if_neg n1]
  by_cases n3 : a.num=3
  ·rw [if_pos n3,shY g a h rfl rfl (ps:=[g.expr,g.expr,g.expr]) (r:=none) rfl rfl,text0,bareB_eq,kidsR_three,n3]
   rw [show decide ((a.kids.length : Int)=1 + 3 % 2 + 3 / 2)=decide (a.kids.length=3) from decide_eq_decide.2 (by omega)]
   simp only [aF,aE,be,Bool.true_or,bc,aG,bareB_eq,bf];try ac_rfl
  rw [if_neg n3,shY g a h rfl rfl (ps:=[]) (r:=none) rfl rfl,bareB_eq,Bool.false_and]
  by_cases n4 : 0 ≤ a.num
  ·rw [aI (show ¬ a.num ≤ 3 by omega),Bool.false_and,Bool.and_false,Bool.false_and,Bool.false_and]
  ·rw [aI n4,Bool.false_and,Bool.false_and,Bool.false_and]
 rw [if_neg h,if_neg h];clear h
 by_cases h : a.kind=51
 ·rw [if_pos h,if_pos h,shN g a h rfl rfl (ps:=[g.expr]) (r:=(some g.expr)) rfl rfl]
  simp only [text0,text1,text2,bareB_eq,kidsR_nil,ofB_eq a h]
  simp only [aF,aE,be,Bool.true_or,bc,aG,bareB_eq,bf];try ac_rfl
 rw [if_neg h,if_neg h];clear h
 by_cases h : a.kind=52
 ·rw [if_pos h,if_pos h,shN g a h rfl rfl (ps:=[g.expr]) (r:=none) rfl rfl,text2,bareB_eq]
  rw [show (decide (a.name=[45]) || (decide (a.name=[33]) || (decide (a.name=[38]) || decide (a.name=[42]))))=decide (a.name ∈ ops4) by rw [← Bool.decide_or,← Bool.decide_or,← Bool.decide_or];exact decide_eq_decide.2 (by simp [ops4])]
  simp only [aF,aE,be,Bool.true_or,bc,aG,bareB_eq,bf];try ac_rfl
 rw [if_neg h,if_neg h];clear h
 by_cases h : a.kind=53
 ·rw [if_pos h,if_pos h,shN g a h rfl rfl (ps:=[g.expr,g.expr]) (r:=none) rfl rfl,text2,bareB_eq,level_iff]
  simp only [aF,aE,be,Bool.true_or,bc,aG,bareB_eq,bf];try ac_rfl
 rw [if_neg h,if_neg h];clear h
 unfold shB
 simp
theorem headS_y {a : Tree} {k : Int} (h : a.kind=k) (h1 : k=21) : headS a=decide (a.num=0):=by
 unfold headS;rw [h,h1];rfl
theorem headS_a {a : Tree} {k : Int} (h : a.kind=k) (h1 : k=22 ∨ k=23) : headS a=decide (a.name=[]):=by
 unfold headS;rw [h];rcases h1 with rfl | rfl <;> simp
theorem headS_n {a : Tree} {k : Int} (h : a.kind=k) (h1 : k ≠ 21∧k ≠ 22∧k ≠ 23) : headS a=(decide (a.name=[]) && decide (a.num=0)):=by
 unfold headS;rw [h,aI h1.1,aI h1.2.1,aI h1.2.2];rfl
theorem stmtS_head : stmtS g a=(headS a && (if a.kind=20 then blockS g a
 else if a.kind=21 then isName a.name && (kidsR [Tree.isType] none a.kids || kidsR [Tree.isType,g.expr] none a.kids)
 else if a.kind=22 then asgS g (nmS g) a
 else if a.kind=23 then asgS g (plS g) a
 else if a.kind=24 then kidsR [callS g] none a.kids
 else if a.kind=25 then kidsR [g.expr,g.block] none a.kids || kidsR [g.expr,g.block,otherS g] none a.kids
 else if a.kind=26 then kidsR [g.block] none a.kids || kidsR [g.expr,g.block] none a.kids
 else if a.kind=27 then a.kids.all g.expr
 else if a.kind=28 ∨ a.kind=29 then kidsR [] none a.kids
 else false)):=by
 unfold stmtS
 cases headS a <;> simp
theorem or_len {A B : Bool} {l : List Tree} {n : Nat} (hA : A=true→l.length=n) (hB : B=true→l.length ≠ n) : (A || B)=if l.length=n then A else B:=by
 cases A with
 | true=>rw [if_pos (hA rfl)];rfl
 | false =>
  cases B with
  | true=>rw [if_neg (hB rfl)];rfl
  | false=>split <;> rfl
theorem kidsR1_len (p : Tree→Bool) (l : List Tree) (h : kidsR [p] none l=true) : l.length=1:=by
 rw [kidsR1,aj] at h;exact of_decide_eq_true h.1
theorem sh_stmt (hs : a.kids.length ≤ 20000) : shB (isK g) (shStmt levelD a) a=stmtS g a:=by
 rw [stmtS_head]
 unfold shStmt
 by_cases h : a.kind=20
 ·rw [if_pos h,if_pos h,shN g a h rfl rfl (ps:=[]) (r:=some g.stmt) rfl rfl,text0,headS_n h (by decide),kidsR_nil,blockS,bareB_eq,aH h]
  simp only [aF,aE,be,Bool.true_or,bc,aG,bareB_eq,bf]
  cases decide (a.name=[]) <;> cases decide (a.num=0) <;> rfl
 rw [if_neg h,if_neg h];clear h
 by_cases h : a.kind=21
 ·rw [if_pos h,if_pos h,headS_y h rfl,or_len (kidsR1_len _ _) (fun h=>by have:=kidsR2 _ _ _ h;omega)]
  by_cases h2 : a.kids.length=1
  ·rw [if_pos h2,if_pos h2,shN g a h rfl rfl (ps:=[Tree.isType]) (r:=none) rfl rfl,text1]
   simp only [aF,aE,be,Bool.true_or,bc,aG,bareB_eq,bf];try ac_rfl
  ·rw [if_neg h2,if_neg h2,shN g a h rfl rfl (ps:=[Tree.isType,g.expr]) (r:=none) rfl rfl,text1]
   simp only [aF,aE,be,Bool.true_or,bc,aG,bareB_eq,bf];try ac_rfl
 rw [if_neg h,if_neg h];clear h
 by_cases h : a.kind=22
 ·rw [if_pos h,if_pos h,headS_a h (.inl rfl),shY g a h rfl rfl rfl rfl,text0,← show isK g 11=nmS g from rfl,← asg_eq g 11 a hs]
  simp only [aF,aE,be,Bool.true_or,bc,aG,bareB_eq,bf];try ac_rfl
 rw [if_neg h,if_neg h];clear h
 by_cases h : a.kind=23
 ·rw [if_pos h,if_pos h,headS_a h (.inr rfl),shY g a h rfl rfl rfl rfl,text0,← show isK g 10=plS g from rfl,← asg_eq g 10 a hs]
  simp only [aF,aE,be,Bool.true_or,bc,aG,bareB_eq,bf];try ac_rfl
 rw [if_neg h,if_neg h];clear h
 by_cases h : a.kind=24
 ·rw [if_pos h,if_pos h,headS_n h (by decide),shN g a h rfl rfl (ps:=[callS g]) (r:=none) rfl rfl,text0]
  simp only [aF,aE,be,Bool.true_or,bc,aG,bareB_eq,bf];try ac_rfl
 rw [if_neg h,if_neg h];clear h
 by_cases h : a.kind=25
 ·rw [if_pos h,if_pos h,headS_n h (by decide),or_len (kidsR2 _ _ _) (fun h=>by have:=kidsR3 _ _ _ _ h;omega)]
  by_cases h2 : a.kids.length=2
  ·rw [if_pos h2,if_pos h2,shN g a h rfl rfl (ps:=[g.expr,g.block]) (r:=none) rfl rfl,text0]
   simp only [aF,aE,be,Bool.true_or,bc,aG,bareB_eq,bf];try ac_rfl
  ·rw [if_neg h2,if_neg h2,shN g a h rfl rfl (ps:=[g.expr,g.block,otherS g]) (r:=none) rfl rfl,text0]
   simp only [aF,aE,be,Bool.true_or,bc,aG,bareB_eq,bf];try ac_rfl
 rw [if_neg h,if_neg h];clear h
 by_cases h : a.kind=26
 ·rw [if_pos h,if_pos h,headS_n h (by decide),or_len (kidsR1_len _ _) (fun h=>by have:=kidsR2 _ _ _ h;omega)]
  by_cases h2 : a.kids.length=1
  ·rw [if_pos h2,if_pos h2,shN g a h rfl rfl (ps:=[g.block]) (r:=none) rfl rfl,text0]
   simp only [aF,aE,be,Bool.true_or,bc,aG,bareB_eq,bf];try ac_rfl
  ·rw [if_neg h2,if_neg h2,shN g a h rfl rfl (ps:=[g.expr,g.block]) (r:=none) rfl rfl,text0]
   simp only [aF,aE,be,Bool.true_or,bc,aG,bareB_eq,bf];try ac_rfl
 rw [if_neg h,if_neg h];clear h
 by_cases h : a.kind=27
 ·rw [if_pos h,if_pos h,headS_n h (by decide),shN g a h rfl rfl (ps:=[]) (r:=some g.expr) rfl rfl,text0,kidsR_nil]
  simp only [aF,aE,be,Bool.true_or,bc,aG,bareB_eq,bf];try ac_rfl
 rw [if_neg h,if_neg h];clear h
 by_cases h : a.kind=28 ∨ a.kind=29
 ·rw [if_pos h,if_pos h]
  rcases h with h | h
  ·rw [headS_n h (by decide),shN g a h rfl rfl (ps:=[]) (r:=none) rfl rfl,text0]
   simp only [aF,aE,be,Bool.true_or,bc,aG,bareB_eq,bf];try ac_rfl
  ·rw [headS_n h (by decide),shN g a h rfl rfl (ps:=[]) (r:=none) rfl rfl,text0]
   simp only [aF,aE,be,Bool.true_or,bc,aG,bareB_eq,bf];try ac_rfl
 rw [if_neg h,if_neg h];clear h
 unfold shB
 simp
theorem sh_but (p : Int→Tree→Bool) (x : Shape) (c : Bool) : shB p (x.but c) a=(c && shB p x a):=by
 unfold shB Shape.but
 cases c <;> rfl
theorem sh_block (g : Sg) : shB (isK g) ⟨[],6,0,decide (a.kind=20)⟩ a=blockS g a:=by
 by_cases h : a.kind=20
 ·rw [shN g a h rfl rfl (ps:=[]) (r:=some g.stmt) rfl rfl,text0,kidsR_nil,blockS]
  simp only [aF,aE,be,Bool.true_or,bc,aG,bareB_eq,bf];try ac_rfl
 ·unfold shB blockS
  simp only [bareB_eq,aI h,Bool.false_and]
theorem sh_typ : shB (isK g) (shTyp a) a=a.isType:=by
 rw [isType_eq]
 unfold shTyp
 by_cases h : a.kind=10
 ·rw [if_pos h,if_pos h,shN g a h rfl rfl (ps:=[]) (r:=none) rfl rfl,text1,kidsR0]
  simp only [aF,aE,be,Bool.true_or,bc,aG,bareB_eq,bf];try ac_rfl
 rw [if_neg h,if_neg h];clear h
 by_cases h : a.kind=11 ∨ a.kind=12
 ·rw [if_pos h,if_pos h]
  rcases h with h | h
  ·rw [shN g a h rfl rfl (ps:=[Tree.isType]) (r:=none) rfl rfl,text0,kidsR1]
   simp only [aF,aE,be,Bool.true_or,bc,aG,bareB_eq,bf];try ac_rfl
  ·rw [shN g a h rfl rfl (ps:=[Tree.isType]) (r:=none) rfl rfl,text0,kidsR1]
   simp only [aF,aE,be,Bool.true_or,bc,aG,bareB_eq,bf];try ac_rfl
 rw [if_neg h,if_neg h];clear h
 by_cases h : a.kind=13
 ·rw [if_pos h,if_pos h,shY g a h rfl rfl (ps:=[]) (r:=some Tree.isType) rfl rfl,text0,kidsR_nil]
  simp only [aF,aE,be,Bool.true_or,bc,aG,bareB_eq,bf];try ac_rfl
 rw [if_neg h,if_neg h];clear h
 unfold shB
 simp
theorem sh_param : shB (isK g) ⟨[2],0,1,decide (a.kind=8)⟩ a=a.isParam:=by
 unfold Tree.isParam
 by_cases h : a.kind=8
 ·rw [shN g a h rfl rfl (ps:=[Tree.isType]) (r:=none) rfl rfl,text1,kidsR1]
  simp only [aF,aE,be,Bool.true_or,bc,aG,bareB_eq,bf];try ac_rfl
 ·unfold shB;simp only [aI h,Bool.false_and]
theorem sh_field (p : Tree→Bool) (k : Int) (hp : [k].map (isK g)=[p]) : shB (isK g) ⟨[k],0,1,decide (a.kind=6)⟩ a=fieldS p a:=by
 unfold fieldS
 by_cases h : a.kind=6
 ·rw [shN g a h rfl rfl (ps:=[p]) (r:=none) hp rfl,text1,ofB_eq a h,aH h]
  simp only [aF,aE,be,Bool.true_or,bc,aG,bareB_eq,bf];try ac_rfl
 ·unfold shB ofB;simp only [aI h,Bool.false_and]
theorem sh_sig (hs : a.kids.length ≤ 20000) : shB (isK g) (shSig a) a=a.isSig:=by
 unfold shSig Tree.isSig
 by_cases h : a.kind=7
 ·rw [shY g a h rfl rfl rfl rfl,text0,aH h]
  by_cases h1 : 0 ≤ a.num
  ·by_cases h2 : a.num ≤ (a.kids.length : Int)
   ·rw [← allS_kids]
    have h3 : rep 4 a=List.replicate a.num.toNat 4:=by unfold rep;rw [show min a.num.toNat 20001=a.num.toNat by omega]
    rw [h3,allS_take (isK g) 4 2 a.num.toNat a.kids (by omega),aK,aH (show a.num.toNat ≤ a.kids.length by omega),aH h1,aH h2,← show isK g 4=Tree.isParam from rfl,← show isK g 2=Tree.isType from rfl]
    simp only [show decide ((2 : Int)=0)=false from rfl,Bool.not_false,Bool.true_or,aF]
   ·simp only [aI h2,Bool.and_false,Bool.false_and]
  ·simp only [aI h1,Bool.and_false,Bool.false_and]
 ·unfold shB;simp only [aI h,Bool.false_and]
theorem sh_decl : shB (isK g) (shDecl a) a=declS g a:=by
 unfold shDecl declS
 by_cases h : a.kind=2
 ·rw [if_pos h,if_pos h,shN g a h rfl rfl (ps:=[]) (r:=(some (fieldS Tree.isType))) rfl rfl]
  simp only [text0,text1,text2,bareB_eq,kidsR_nil,ofB_eq a h]
  simp only [aF,aE,be,Bool.true_or,bc,aG,bareB_eq,bf];try ac_rfl
 rw [if_neg h,if_neg h];clear h
 by_cases h : a.kind=3
 ·rw [if_pos h,if_pos h,shN g a h rfl rfl (ps:=[]) (r:=(some (fieldS Tree.isSig))) rfl rfl]
  simp only [text0,text1,text2,bareB_eq,kidsR_nil,ofB_eq a h]
  simp only [aF,aE,be,Bool.true_or,bc,aG,bareB_eq,bf];try ac_rfl
 rw [if_neg h,if_neg h];clear h
 by_cases h : a.kind=4
 ·rw [if_pos h,if_pos h,shN g a h rfl rfl (ps:=[Tree.isSig,g.block]) (r:=none) rfl rfl]
  simp only [text0,text1,text2,bareB_eq,kidsR_nil,ofB_eq a h]
  simp only [aF,aE,be,Bool.true_or,bc,aG,bareB_eq,bf];try ac_rfl
 rw [if_neg h,if_neg h];clear h
 by_cases h : a.kind=5
 ·rw [if_pos h,if_pos h,shN g a h rfl rfl (ps:=[recvS,Tree.isSig,g.block]) (r:=none) rfl rfl]
  simp only [text0,text1,text2,bareB_eq,kidsR_nil,ofB_eq a h]
  simp only [aF,aE,be,Bool.true_or,bc,aG,bareB_eq,bf];try ac_rfl
 rw [if_neg h,if_neg h];clear h
 unfold shB
 simp
end
theorem kid0_eq (a : Tree) : kd0 a=kid0 a:=rfl
theorem sh_recv (g : Sg) (a : Tree) : shB (isK g) ⟨[2],0,1,((decide (a.kids.length=1) && decide ((kd0 a).kind=11)) && (decide ((kd0 a).kids.length=1) && decide ((kd0 (kd0 a)).kind=10))) && decide (a.kind=8)⟩ a=recvS a:=by
 unfold recvS
 rw [← sh_param g a,kid0_eq,kid0_eq]
 by_cases h : a.kind=8
 ·rw [shN g a h rfl rfl (ps:=[Tree.isType]) (r:=none) rfl rfl,shN g a h rfl rfl (ps:=[Tree.isType]) (r:=none) rfl rfl,text1,text1,kidsR1,aH h]
  cases hx : decide (a.kids.length=1) with
  | false=>simp only [Bool.false_and,Bool.and_false]
  | true =>
   have h1 : a.kids.length=1:=of_decide_eq_true hx
   cases hk : decide ((kid0 a).kind=11) with
   | false=>simp only [Bool.false_and,Bool.and_false]
   | true =>
    have h2 : (kid0 a).kind=11:=of_decide_eq_true hk
    have h3 : a.kids.all Tree.isType=(kid0 a).isType:=by
     obtain ⟨x,hx⟩:=List.length_eq_one_iff.1 h1
     unfold kid0
     rw [hx]
     simp
    rw [h3,isType_eq (kid0 a),if_neg (by omega),if_pos (.inl h2)]
    simp only [aF,aE,be,Bool.true_or,bc,aG,bareB_eq,bf];try ac_rfl
 ·unfold shB;simp only [aI h,Bool.false_and,Bool.and_false]
theorem sh_all (k : Int) (hk : Srt k) (a : Tree) (hs : a.kids.length ≤ 20000) : shB (isK lim) (shapeR levelD k a) a=isK lim k a:=by
 obtain ⟨l1,l2,l3⟩:=lim_fix a
 have hk : k=1 ∨ k=2 ∨ k=3 ∨ k=4 ∨ k=5 ∨ k=6 ∨ k=7 ∨ k=8 ∨ k=9 ∨ k=10 ∨ k=11 ∨ k=12 ∨ k=13 ∨ k=14:=by
  obtain ⟨h1,h2⟩:=hk;omega
 rcases hk with rfl | rfl | rfl | rfl | rfl | rfl | rfl | rfl | rfl | rfl | rfl | rfl | rfl | rfl
 ·exact sh_decl lim a
 ·exact sh_typ lim a
 ·exact sh_sig lim a hs
 ·exact sh_param lim a
 ·exact (sh_block a lim).trans l3.symm
 ·exact (sh_stmt lim a hs).trans l2.symm
 ·exact (sh_expr lim a).trans l1.symm
 ·exact sh_field lim a Tree.isType 2 rfl
 ·exact sh_field lim a Tree.isSig 3 rfl
 ·show shB (isK lim) ((shExpr levelD a).but (Ps.isPl a)) a=(Ps.isPl a && lim.expr a)
  rw [sh_but,sh_expr,l1]
 ·show shB (isK lim) ⟨[],0,1,decide (a.kind=44)⟩ a=(decide (a.kind=44) && lim.expr a)
  rw [l1]
  by_cases h : a.kind=44
  ·rw [← sh_expr lim a,aH h]
   unfold shExpr
   simp only [h]
   rfl
  ·unfold shB;simp only [aI h,Bool.false_and]
 ·show shB (isK lim) ((shExpr levelD a).but (decide (a.kind=51))) a=(decide (a.kind=51) && lim.expr a)
  rw [sh_but,sh_expr,l1]
 ·show shB (isK lim) (if a.kind=25 then shStmt levelD a else ⟨[],6,0,decide (a.kind=20)⟩) a=(lim.block a || (decide (a.kind=25) && lim.stmt a))
  by_cases h : a.kind=25
  ·rw [if_pos h,sh_stmt lim a hs,← l2,aH h,l3]
   unfold blockS
   simp only [bareB_eq,aI (show ¬ a.kind=20 by omega),Bool.false_and,be,aF]
  ·rw [if_neg h,sh_block,aI h,Bool.false_and,bc,l3]
 ·exact sh_recv lim a
theorem isD_eq : ∀ (n : Nat) (k : Int) (a : Tree),Srt k→a.deep ≤ n→a.size ≤ 20000→isD levelD n k a=isK lim k a
 | 0,k,a,_,hd,_=>by have:=deep_pos a;omega
 | n + 1,k,a,hk,hd,hs=>by
  have hl : a.kids.length ≤ 20000:=by have:=len_sizeL a.kids;have:=size_kids a;omega
  rw [← sh_all k hk a hl,isD]
  unfold shB
  rw [← is_eq]
  cases hf : fitB (shapeR levelD k a) a with
  | false=>rfl
  | true =>
   rw [all_get (q:=isK lim) _ _ _ fun i hi=>isD_eq n _ a.kids[i] (want_ok (shapeR_ok levelD k a) hf hi) (by have:=deep_of_kid (aB hi);omega) (by have:=size_of_kid (aB hi);omega)]
def rsoundB (a : Tree) : Bool:=decide (a.kind=1) && (decide (a.name=[]) && (decide (a.num=0) && (withinB a 0 0 && a.kids.all (isD levelD 100 1))))
theorem rsound_eq (a : Tree) : rsoundB a=soundB a:=by
 unfold rsoundB soundB
 rw [withinB_eq,bareB_eq]
 by_cases h1 : a.size ≤ 20000
 ·by_cases h2 : a.deep ≤ 100
  ·have h3 : a.kids.all (isD levelD 100 1)=a.kids.all (declS (sg 100)):=all_congr fun x hx=>by
    have:=deep_of_kid hx
    rw [isD_eq 100 1 x ⟨by decide,by decide⟩ (by omega) (by have:=size_of_kid hx;omega),declS_lim (by omega)]
    rfl
   rw [h3,aH h1,aH h2,aH (show (a.size : Int) + 0 ≤ 20000 by omega),aH (show (a.deep : Int) + 0 ≤ 100 by omega)]
   simp only [aF,aE,be,Bool.true_or,bc,aG,bareB_eq,bf];try ac_rfl
  ·rw [aI h2,aI (show ¬ (a.deep : Int) + 0 ≤ 100 by omega)]
   simp only [Bool.false_and,Bool.and_false]
 ·rw [aI h1,aI (show ¬ (a.size : Int) + 0 ≤ 20000 by omega)]
  simp only [Bool.false_and,Bool.and_false]
end Go.Sep


/- PtRefP -/
namespace Go.Sep
open Go.Pt
def OkK (k u : Int) (n sl : Nat) : Prop :=
 ((1 ≤ k∧k ≤ 8) ∨ (10 ≤ k∧k ≤ 13) ∨ (20 ≤ k∧k ≤ 29) ∨ (40 ≤ k∧k ≤ 53)) ∧
 ((k=6 ∨ k=8 ∨ k=11 ∨ k=12 ∨ k=21 ∨ k=24 ∨ k=26 ∨ k=46 ∨ k=48 ∨ k=51 ∨ k=52)→1 ≤ n) ∧
 ((k=4 ∨ k=25 ∨ k=47 ∨ k=49 ∨ k=53)→2 ≤ n)∧(k=5→3 ≤ n)∧((k=7 ∨ k=13 ∨ k=22 ∨ k=23)→(0 ≤ u∧u ≤ (n : Int))) ∧
 (k=50→((u=0∧n=1) ∨ (u=1∧n=2) ∨ (u=2∧n=2) ∨ (u=3∧n=3)))∧(k=40→0 ≤ u)∧(k=41→sl ≤ 1024)
inductive OkR : Tree→Prop
 | mk {k : Int} {n : Str} {u : Int} {ks : List Tree} : OkK k u ks.length n.length→(∀ t ∈ ks,OkR t)→OkR (.mk k n u ks)
theorem OkR.kid {a t : Tree} (h : OkR a) (ht : t ∈ a.kids) : OkR t:=by cases h with | mk h1 h2=>exact h2 t ht
theorem OkR.ok {a : Tree} (h : OkR a) : OkK a.kind a.num a.kids.length a.name.length:=by cases h with | mk h1 h2=>exact h1
section
variable {lv : Str→Nat} {a : Tree}
theorem fit_if {c : Prop} [Decidable c] {x y : Shape} (h : fitB (if c then x else y) a=true) : (c∧fitB x a=true) ∨ (¬ c∧fitB y a=true):=by
 by_cases hc : c
 ·rw [if_pos hc] at h;exact .inl ⟨hc,h⟩
 ·rw [if_neg hc] at h;exact .inr ⟨hc,h⟩
theorem fit_len {x : Shape} (h : fitB x a=true) : x.ok=true∧x.ks.length ≤ a.kids.length∧(x.rest ≠ 0 ∨ a.kids.length ≤ x.ks.length):=by
 unfold fitB at h
 simp only [aj,ar,Bool.not_eq_true',ao,decide_eq_false_iff_not] at h
 exact ⟨h.1,h.2.1,h.2.2.1⟩
theorem okK_stmt (h : fitB (shStmt lv a) a=true) : OkK a.kind a.num a.kids.length a.name.length:=by
 unfold shStmt at h
 by_cases e : a.kind=20
 ·rw [if_pos e] at h
  (obtain ⟨h1,h2,h3⟩:=fit_len h;simp only [ab,ae,rep,aK,ao,aj,ar,Bool.false_eq_true] at h1 h2 h3 <;> (unfold OkK;omega))
 rw [if_neg e] at h
 by_cases e : a.kind=21
 ·rw [if_pos e] at h
  by_cases e : a.kids.length=1
  ·rw [if_pos e] at h
   (obtain ⟨h1,h2,h3⟩:=fit_len h;simp only [ab,ae,rep,aK,ao,aj,ar,Bool.false_eq_true] at h1 h2 h3 <;> (unfold OkK;omega))
  rw [if_neg e] at h
  (obtain ⟨h1,h2,h3⟩:=fit_len h;simp only [ab,ae,rep,aK,ao,aj,ar,Bool.false_eq_true] at h1 h2 h3 <;> (unfold OkK;omega))
 rw [if_neg e] at h
 by_cases e : a.kind=22
 ·rw [if_pos e] at h
  (obtain ⟨h1,h2,h3⟩:=fit_len h;simp only [ab,ae,rep,aK,ao,aj,ar,Bool.false_eq_true] at h1 h2 h3 <;> (unfold OkK;omega))
 rw [if_neg e] at h
 by_cases e : a.kind=23
 ·rw [if_pos e] at h
  (obtain ⟨h1,h2,h3⟩:=fit_len h;simp only [ab,ae,rep,aK,ao,aj,ar,Bool.false_eq_true] at h1 h2 h3 <;> (unfold OkK;omega))
 rw [if_neg e] at h
 by_cases e : a.kind=24
 ·rw [if_pos e] at h
  (obtain ⟨h1,h2,h3⟩:=fit_len h;simp only [ab,ae,rep,aK,ao,aj,ar,Bool.false_eq_true] at h1 h2 h3 <;> (unfold OkK;omega))
 rw [if_neg e] at h
 by_cases e : a.kind=25
 ·rw [if_pos e] at h
  by_cases e : a.kids.length=2
  ·rw [if_pos e] at h
   (obtain ⟨h1,h2,h3⟩:=fit_len h;simp only [ab,ae,rep,aK,ao,aj,ar,Bool.false_eq_true] at h1 h2 h3 <;> (unfold OkK;omega))
  rw [if_neg e] at h
  (obtain ⟨h1,h2,h3⟩:=fit_len h;simp only [ab,ae,rep,aK,ao,aj,ar,Bool.false_eq_true] at h1 h2 h3 <;> (unfold OkK;omega))
 rw [if_neg e] at h
 by_cases e : a.kind=26
 ·rw [if_pos e] at h
  by_cases e : a.kids.length=1
  ·rw [if_pos e] at h
   (obtain ⟨h1,h2,h3⟩:=fit_len h;simp only [ab,ae,rep,aK,ao,aj,ar,Bool.false_eq_true] at h1 h2 h3 <;> (unfold OkK;omega))
  rw [if_neg e] at h
  (obtain ⟨h1,h2,h3⟩:=fit_len h;simp only [ab,ae,rep,aK,ao,aj,ar,Bool.false_eq_true] at h1 h2 h3 <;> (unfold OkK;omega))
 rw [if_neg e] at h
 by_cases e : a.kind=27
 ·rw [if_pos e] at h
  (obtain ⟨h1,h2,h3⟩:=fit_len h;simp only [ab,ae,rep,aK,ao,aj,ar,Bool.false_eq_true] at h1 h2 h3 <;> (unfold OkK;omega))
 rw [if_neg e] at h
 by_cases e : a.kind=28 ∨ a.kind=29
 ·rw [if_pos e] at h
  (obtain ⟨h1,h2,h3⟩:=fit_len h;simp only [ab,ae,rep,aK,ao,aj,ar,Bool.false_eq_true] at h1 h2 h3 <;> (unfold OkK;omega))
 rw [if_neg e] at h
 (obtain ⟨h1,h2,h3⟩:=fit_len h;simp only [ab,ae,rep,aK,ao,aj,ar,Bool.false_eq_true] at h1 h2 h3 <;> (unfold OkK;omega))
theorem okK_expr (h : fitB (shExpr lv a) a=true) : OkK a.kind a.num a.kids.length a.name.length:=by
 unfold shExpr at h
 by_cases e : a.kind=40
 ·rw [if_pos e] at h
  (obtain ⟨h1,h2,h3⟩:=fit_len h;simp only [ab,ae,rep,aK,ao,aj,ar,Bool.false_eq_true] at h1 h2 h3 <;> (unfold OkK;omega))
 rw [if_neg e] at h
 by_cases e : a.kind=41
 ·rw [if_pos e] at h
  (obtain ⟨h1,h2,h3⟩:=fit_len h;simp only [ab,ae,rep,aK,ao,aj,ar,Bool.false_eq_true] at h1 h2 h3 <;> (unfold OkK;omega))
 rw [if_neg e] at h
 by_cases e : a.kind=42
 ·rw [if_pos e] at h
  (obtain ⟨h1,h2,h3⟩:=fit_len h;simp only [ab,ae,rep,aK,ao,aj,ar,Bool.false_eq_true] at h1 h2 h3 <;> (unfold OkK;omega))
 rw [if_neg e] at h
 by_cases e : a.kind=43
 ·rw [if_pos e] at h
  (obtain ⟨h1,h2,h3⟩:=fit_len h;simp only [ab,ae,rep,aK,ao,aj,ar,Bool.false_eq_true] at h1 h2 h3 <;> (unfold OkK;omega))
 rw [if_neg e] at h
 by_cases e : a.kind=44
 ·rw [if_pos e] at h
  (obtain ⟨h1,h2,h3⟩:=fit_len h;simp only [ab,ae,rep,aK,ao,aj,ar,Bool.false_eq_true] at h1 h2 h3 <;> (unfold OkK;omega))
 rw [if_neg e] at h
 by_cases e : a.kind=45
 ·rw [if_pos e] at h
  (obtain ⟨h1,h2,h3⟩:=fit_len h;simp only [ab,ae,rep,aK,ao,aj,ar,Bool.false_eq_true] at h1 h2 h3 <;> (unfold OkK;omega))
 rw [if_neg e] at h
 by_cases e : a.kind=46
 ·rw [if_pos e] at h
  (obtain ⟨h1,h2,h3⟩:=fit_len h;simp only [ab,ae,rep,aK,ao,aj,ar,Bool.false_eq_true] at h1 h2 h3 <;> (unfold OkK;omega))
 rw [if_neg e] at h
 by_cases e : a.kind=47
 ·rw [if_pos e] at h
  (obtain ⟨h1,h2,h3⟩:=fit_len h;simp only [ab,ae,rep,aK,ao,aj,ar,Bool.false_eq_true] at h1 h2 h3 <;> (unfold OkK;omega))
 rw [if_neg e] at h
 by_cases e : a.kind=48
 ·rw [if_pos e] at h
  (obtain ⟨h1,h2,h3⟩:=fit_len h;simp only [ab,ae,rep,aK,ao,aj,ar,Bool.false_eq_true] at h1 h2 h3 <;> (unfold OkK;omega))
 rw [if_neg e] at h
 by_cases e : a.kind=49
 ·rw [if_pos e] at h
  (obtain ⟨h1,h2,h3⟩:=fit_len h;simp only [ab,ae,rep,aK,ao,aj,ar,Bool.false_eq_true] at h1 h2 h3 <;> (unfold OkK;omega))
 rw [if_neg e] at h
 by_cases e : a.kind=50
 ·rw [if_pos e] at h
  by_cases e : a.num=0
  ·rw [if_pos e] at h
   (obtain ⟨h1,h2,h3⟩:=fit_len h;simp only [ab,ae,rep,aK,ao,aj,ar,Bool.false_eq_true] at h1 h2 h3 <;> (unfold OkK;omega))
  rw [if_neg e] at h
  by_cases e : a.num=1 ∨ a.num=2
  ·rw [if_pos e] at h
   (obtain ⟨h1,h2,h3⟩:=fit_len h;simp only [ab,ae,rep,aK,ao,aj,ar,Bool.false_eq_true] at h1 h2 h3 <;> (unfold OkK;omega))
  rw [if_neg e] at h
  by_cases e : a.num=3
  ·rw [if_pos e] at h
   (obtain ⟨h1,h2,h3⟩:=fit_len h;simp only [ab,ae,rep,aK,ao,aj,ar,Bool.false_eq_true] at h1 h2 h3 <;> (unfold OkK;omega))
  rw [if_neg e] at h
  (obtain ⟨h1,h2,h3⟩:=fit_len h;simp only [ab,ae,rep,aK,ao,aj,ar,Bool.false_eq_true] at h1 h2 h3 <;> (unfold OkK;omega))
 rw [if_neg e] at h
 by_cases e : a.kind=51
 ·rw [if_pos e] at h
  (obtain ⟨h1,h2,h3⟩:=fit_len h;simp only [ab,ae,rep,aK,ao,aj,ar,Bool.false_eq_true] at h1 h2 h3 <;> (unfold OkK;omega))
 rw [if_neg e] at h
 by_cases e : a.kind=52
 ·rw [if_pos e] at h
  (obtain ⟨h1,h2,h3⟩:=fit_len h;simp only [ab,ae,rep,aK,ao,aj,ar,Bool.false_eq_true] at h1 h2 h3 <;> (unfold OkK;omega))
 rw [if_neg e] at h
 by_cases e : a.kind=53
 ·rw [if_pos e] at h
  (obtain ⟨h1,h2,h3⟩:=fit_len h;simp only [ab,ae,rep,aK,ao,aj,ar,Bool.false_eq_true] at h1 h2 h3 <;> (unfold OkK;omega))
 rw [if_neg e] at h
 (obtain ⟨h1,h2,h3⟩:=fit_len h;simp only [ab,ae,rep,aK,ao,aj,ar,Bool.false_eq_true] at h1 h2 h3 <;> (unfold OkK;omega))
theorem okK_decl (h : fitB (shDecl a) a=true) : OkK a.kind a.num a.kids.length a.name.length:=by
 unfold shDecl at h
 by_cases e : a.kind=2
 ·rw [if_pos e] at h
  (obtain ⟨h1,h2,h3⟩:=fit_len h;simp only [ab,ae,rep,aK,ao,aj,ar,Bool.false_eq_true] at h1 h2 h3 <;> (unfold OkK;omega))
 rw [if_neg e] at h
 by_cases e : a.kind=3
 ·rw [if_pos e] at h
  (obtain ⟨h1,h2,h3⟩:=fit_len h;simp only [ab,ae,rep,aK,ao,aj,ar,Bool.false_eq_true] at h1 h2 h3 <;> (unfold OkK;omega))
 rw [if_neg e] at h
 by_cases e : a.kind=4
 ·rw [if_pos e] at h
  (obtain ⟨h1,h2,h3⟩:=fit_len h;simp only [ab,ae,rep,aK,ao,aj,ar,Bool.false_eq_true] at h1 h2 h3 <;> (unfold OkK;omega))
 rw [if_neg e] at h
 by_cases e : a.kind=5
 ·rw [if_pos e] at h
  (obtain ⟨h1,h2,h3⟩:=fit_len h;simp only [ab,ae,rep,aK,ao,aj,ar,Bool.false_eq_true] at h1 h2 h3 <;> (unfold OkK;omega))
 rw [if_neg e] at h
 (obtain ⟨h1,h2,h3⟩:=fit_len h;simp only [ab,ae,rep,aK,ao,aj,ar,Bool.false_eq_true] at h1 h2 h3 <;> (unfold OkK;omega))
theorem okK_typ (h : fitB (shTyp a) a=true) : OkK a.kind a.num a.kids.length a.name.length:=by
 unfold shTyp at h
 by_cases e : a.kind=10
 ·rw [if_pos e] at h
  (obtain ⟨h1,h2,h3⟩:=fit_len h;simp only [ab,ae,rep,aK,ao,aj,ar,Bool.false_eq_true] at h1 h2 h3 <;> (unfold OkK;omega))
 rw [if_neg e] at h
 by_cases e : a.kind=11 ∨ a.kind=12
 ·rw [if_pos e] at h
  (obtain ⟨h1,h2,h3⟩:=fit_len h;simp only [ab,ae,rep,aK,ao,aj,ar,Bool.false_eq_true] at h1 h2 h3 <;> (unfold OkK;omega))
 rw [if_neg e] at h
 by_cases e : a.kind=13
 ·rw [if_pos e] at h
  (obtain ⟨h1,h2,h3⟩:=fit_len h;simp only [ab,ae,rep,aK,ao,aj,ar,Bool.false_eq_true] at h1 h2 h3 <;> (unfold OkK;omega))
 rw [if_neg e] at h
 (obtain ⟨h1,h2,h3⟩:=fit_len h;simp only [ab,ae,rep,aK,ao,aj,ar,Bool.false_eq_true] at h1 h2 h3 <;> (unfold OkK;omega))
theorem okK_sig (h : fitB (shSig a) a=true) : OkK a.kind a.num a.kids.length a.name.length:=by
 unfold shSig at h
 (obtain ⟨h1,h2,h3⟩:=fit_len h;simp only [ab,ae,rep,aK,ao,aj,ar,Bool.false_eq_true] at h1 h2 h3 <;> (unfold OkK;omega))
theorem fit_but {x : Shape} {c : Bool} (h : fitB (x.but c) a=true) : fitB x a=true:=by
 unfold fitB Shape.but at h
 unfold fitB
 simp only [aj] at h ⊢
 exact ⟨h.1.2,h.2⟩
theorem okK_of {k : Int} (hk : Srt k) (h : fitB (shapeR lv k a) a=true) : OkK a.kind a.num a.kids.length a.name.length:=by
 have hk : k=1 ∨ k=2 ∨ k=3 ∨ k=4 ∨ k=5 ∨ k=6 ∨ k=7 ∨ k=8 ∨ k=9 ∨ k=10 ∨ k=11 ∨ k=12 ∨ k=13 ∨ k=14:=by
  obtain ⟨h1,h2⟩:=hk;omega
 rcases hk with rfl | rfl | rfl | rfl | rfl | rfl | rfl | rfl | rfl | rfl | rfl | rfl | rfl | rfl
 ·exact okK_decl h
 ·exact okK_typ h
 ·exact okK_sig h
 ·(obtain ⟨h1,h2,h3⟩:=fit_len h;simp [shapeR] at h1 h2 h3;unfold OkK;omega)
 ·(obtain ⟨h1,h2,h3⟩:=fit_len h;simp [shapeR] at h1 h2 h3;unfold OkK;omega)
 ·exact okK_stmt (lv:=lv) h
 ·exact okK_expr (lv:=lv) h
 ·(obtain ⟨h1,h2,h3⟩:=fit_len h;simp [shapeR] at h1 h2 h3;unfold OkK;omega)
 ·(obtain ⟨h1,h2,h3⟩:=fit_len h;simp [shapeR] at h1 h2 h3;unfold OkK;omega)
 ·exact okK_expr (lv:=lv) (fit_but (c:=Ps.isPl a) h)
 ·(obtain ⟨h1,h2,h3⟩:=fit_len h;simp [shapeR] at h1 h2 h3;unfold OkK;omega)
 ·exact okK_expr (lv:=lv) (fit_but (c:=decide (a.kind=51)) h)
 ·have h' : fitB (if a.kind=25 then shStmt lv a else ⟨[],6,0,decide (a.kind=20)⟩) a=true:=h
  rcases fit_if h' with ⟨e,h'⟩ | ⟨e,h'⟩
  ·exact okK_stmt (lv:=lv) h'
  ·(obtain ⟨h1,h2,h3⟩:=fit_len h';simp only [ae,ao] at h1 h2 h3;unfold OkK;omega)
 ·(obtain ⟨h1,h2,h3⟩:=fit_len h;simp [shapeR] at h1 h2 h3;unfold OkK;omega)
end
theorem allS_each {p : Int→Tree→Bool} {x : Shape} {l : List Tree} (h : allS p x.ks x.rest l=true) : ∀ (i : Nat) (hi : i < l.length),p (want x i) l[i]=true:=by
 have key : ∀ (k : Nat),k ≤ l.length→allS p (x.ks.drop k) x.rest (l.drop k)=true:=by
  intro k
  induction k with
  | zero=>intro _;exact h
  | succ k ih =>
   intro hk
   have h1:=ih (by omega)
   rw [allS_step p x l k (by omega),aj] at h1
   exact h1.2
 intro i hi
 have h1:=key i (by omega)
 rw [allS_step p x l i hi,aj] at h1
 exact h1.1
theorem okR_of : ∀ (n : Nat) (k : Int) (a : Tree),Srt k→isD levelD n k a=true→OkR a
 | 0,k,a,_,h=>by cases h
 | n + 1,k,a,hk,h=>by
  rw [isD,aj,aj] at h
  obtain ⟨h1,h2,h3⟩:=h
  have h4:=okK_of hk h1
  have h5:=allS_each h3
  have h6 : ∀ t ∈ a.kids,OkR t:=fun t ht=>by
   obtain ⟨i,hi,rfl⟩:=List.getElem_of_mem ht
   exact okR_of n _ _ (want_ok (shapeR_ok levelD k a) h1 hi) (h5 i hi)
  obtain ⟨k,n,u,ks⟩:=a
  exact .mk h4 h6
theorem nth3 (ts : List (List Ps.Tk)) : (nth ts 0).length + (nth ts 1).length + (nth ts 2).length ≤ ts.flatten.length:=by
 match ts with
 | []=>simp [nth]
 | [a]=>simp [nth]
 | [a,b]=>simp [nth]
 | a :: b :: c :: r=>simp [nth];omega
theorem nth_hd (ts : List (List Ps.Tk)) (h : 1 ≤ ts.length) : (nth ts 0).length + (ts.drop 1).flatten.length=ts.flatten.length:=by
 match ts,h with
 | a :: r,_=>simp [nth]
theorem comma_len : ∀ ts : List (List Ps.Tk),(commaJ ts).length ≤ ts.flatten.length + ts.length
 | []=>by simp [commaJ]
 | [a]=>by simp [commaJ]
 | a :: b :: r=>by
  have:=comma_len (b :: r)
  simp only [commaJ,aa,ab,List.flatten_cons] at *
  omega
theorem res_len (ts : List (List Ps.Tk)) : (resJ ts).length ≤ ts.flatten.length + ts.length + 2:=by
 have:=comma_len ts
 unfold resJ
 split
 ·omega
 ·simp only [ab,aa,ae];omega
theorem semis_len : ∀ ts : List (List Ps.Tk),(semis ts).length=ts.flatten.length + ts.length
 | []=>rfl
 | a :: r=>by
  have:=semis_len r
  unfold semis at *
  simp only [ax,List.flatten_cons,aa,ab,ae] at *
  omega
theorem cut_len (ts : List (List Ps.Tk)) (i : Nat) : (ts.take i).flatten.length + (ts.drop i).flatten.length=ts.flatten.length:=by
 rw [← aa,← List.flatten_append,aV]
theorem nth_last (ts : List (List Ps.Tk)) (h : 1 ≤ ts.length) : (nth ts (ts.length - 1)).length + (ts.take (ts.length - 1)).flatten.length=ts.flatten.length:=by
 have h1:=cut_len ts (ts.length - 1)
 have h2 : (ts.drop (ts.length - 1)).flatten.length=(nth ts (ts.length - 1)).length:=by
  rw [aJ (by omega),show ts.length - 1 + 1=ts.length by omega,List.drop_length]
  unfold nth
  rw [List.getD_eq_getElem?_getD,ak (by omega)]
  simp
 omega
theorem comb_len {k u : Int} {s : Str} {ts : List (List Ps.Tk)} {sl : Nat} (h : OkK k u ts.length sl) : (comb k s u ts).length ≤ ts.flatten.length + ts.length + 7:=by
 obtain ⟨h0,h1, -, -, -,h5, -, -⟩:=h
 have hcl : ∀ i : Nat,(ts.take i).length + (ts.drop i).length=ts.length:=fun i=>by rw [← aa,aV]
 have hk : k=1 ∨ k=2 ∨ k=3 ∨ k=4 ∨ k=5 ∨ k=6 ∨ k=7 ∨ k=8 ∨ k=10 ∨ k=11 ∨ k=12 ∨ k=13 ∨ k=20 ∨ k=21 ∨ k=22 ∨ k=23 ∨ k=24 ∨ k=25 ∨ k=26 ∨ k=27 ∨ k=28 ∨ k=29 ∨ k=40 ∨ k=41 ∨ k=42 ∨ k=43 ∨ k=44 ∨ k=45 ∨ k=46 ∨ k=47 ∨ k=48 ∨ k=49 ∨ k=50 ∨ k=51 ∨ k=52 ∨ k=53:=by omega
 clear h0
 rcases hk with rfl | rfl | rfl | rfl | rfl | rfl | rfl | rfl | rfl | rfl | rfl | rfl | rfl | rfl | rfl | rfl | rfl | rfl | rfl | rfl | rfl | rfl | rfl | rfl | rfl | rfl | rfl | rfl | rfl | rfl | rfl | rfl | rfl | rfl | rfl | rfl
 ·clear h5
  clear h1
  show (ts.flatten).length ≤ _
  clear hcl
  omega
 ·clear h5
  clear h1
  show (wd [116,121,112,101] :: nm s :: wd [115,116,114,117,99,116] :: Pt.mk [123] :: (semis ts++[Pt.mk [125]])).length ≤ _
  have:=semis_len ts
  clear hcl
  simp only [ab,aa,ae] at *;omega
 ·clear h5
  clear h1
  show (wd [116,121,112,101] :: nm s :: wd [105,110,116,101,114,102,97,99,101] :: Pt.mk [123] :: (semis ts++[Pt.mk [125]])).length ≤ _
  have:=semis_len ts
  clear hcl
  simp only [ab,aa,ae] at *;omega
 ·clear h5
  clear h1
  show (wd [102,117,110,99] :: nm s :: (nth ts 0++nth ts 1)).length ≤ _
  have:=nth3 ts
  clear hcl
  simp only [ab,aa,ae] at *;omega
 ·clear h5
  clear h1
  show (wd [102,117,110,99] :: Pt.mk [40] :: (nth ts 0++Pt.mk [41] :: nm s :: (nth ts 1++nth ts 2))).length ≤ _
  have:=nth3 ts
  clear hcl
  simp only [ab,aa,ae] at *;omega
 ·clear h5
  clear h1
  show (nm s :: nth ts 0).length ≤ _
  have:=nth3 ts
  clear hcl
  simp only [ab,aa,ae] at *;omega
 ·clear h5
  clear h1
  show (Pt.mk [40] :: (commaJ (ts.take u.toNat)++Pt.mk [41] :: resJ (ts.drop u.toNat))).length ≤ _
  have:=comma_len (ts.take u.toNat)
  have:=res_len (ts.drop u.toNat)
  have:=cut_len ts u.toNat
  have:=hcl u.toNat
  clear hcl
  simp only [ab,aa,ae] at *;omega
 ·clear h5
  clear h1
  show (nm s :: nth ts 0).length ≤ _
  have:=nth3 ts
  clear hcl
  simp only [ab,aa,ae] at *;omega
 ·clear h5
  clear h1
  show ([nm s]).length ≤ _
  clear hcl
  simp only [ab,aa,ae] at *;omega
 ·clear h5
  clear h1
  show (Pt.mk [42] :: nth ts 0).length ≤ _
  have:=nth3 ts
  clear hcl
  simp only [ab,aa,ae] at *;omega
 ·clear h5
  clear h1
  show (Pt.mk [91] :: Pt.mk [93] :: nth ts 0).length ≤ _
  have:=nth3 ts
  clear hcl
  simp only [ab,aa,ae] at *;omega
 ·clear h5
  clear h1
  show (wd [102,117,110,99] :: Pt.mk [40] :: (commaJ (ts.take u.toNat)++Pt.mk [41] :: resJ (ts.drop u.toNat))).length ≤ _
  have:=comma_len (ts.take u.toNat)
  have:=res_len (ts.drop u.toNat)
  have:=cut_len ts u.toNat
  have:=hcl u.toNat
  clear hcl
  simp only [ab,aa,ae] at *;omega
 ·clear h5
  clear h1
  show (Pt.mk [123] :: (ts.flatten++[Pt.mk [125]])).length ≤ _
  clear hcl
  simp only [ab,aa,ae] at *;omega
 ·clear h5
  clear h1
  show (wd [118,97,114] :: nm s :: (nth ts 0++((if ts.length=2 then Pt.mk [61] :: nth ts 1 else [])++[Pt.mk [59]]))).length ≤ _
  have:=nth3 ts
  clear hcl
  split <;> (simp only [ab,aa,ae];omega)
 ·clear h5
  clear h1
  show (commaJ (ts.take u.toNat)++Pt.mk [58,61] :: (commaJ (ts.drop u.toNat)++[Pt.mk [59]])).length ≤ _
  have:=comma_len (ts.take u.toNat)
  have:=comma_len (ts.drop u.toNat)
  have:=cut_len ts u.toNat
  have:=hcl u.toNat
  clear hcl
  simp only [ab,aa,ae] at *;omega
 ·clear h5
  clear h1
  show (commaJ (ts.take u.toNat)++Pt.mk [61] :: (commaJ (ts.drop u.toNat)++[Pt.mk [59]])).length ≤ _
  have:=comma_len (ts.take u.toNat)
  have:=comma_len (ts.drop u.toNat)
  have:=cut_len ts u.toNat
  have:=hcl u.toNat
  clear hcl
  simp only [ab,aa,ae] at *;omega
 ·clear h5
  clear h1
  show (nth ts 0++[Pt.mk [59]]).length ≤ _
  have:=nth3 ts
  clear hcl
  simp only [ab,aa,ae] at *;omega
 ·clear h5
  clear h1
  show (wd [105,102] :: (nth ts 0++(nth ts 1++(if ts.length=3 then wd [101,108,115,101] :: nth ts 2 else [])))).length ≤ _
  have:=nth3 ts
  clear hcl
  split <;> (simp only [ab,aa,ae];omega)
 ·clear h5
  show (wd [102,111,114] :: (commaJ (ts.take (ts.length - 1))++nth ts (ts.length - 1))).length ≤ _
  have:=comma_len (ts.take (ts.length - 1))
  have:=nth_last ts (h1 (by omega))
  have:=hcl (ts.length - 1)
  clear h1
  clear hcl
  simp only [ab,aa,ae] at *;omega
 ·clear h5
  clear h1
  show (wd [114,101,116,117,114,110] :: (commaJ ts++[Pt.mk [59]])).length ≤ _
  have:=comma_len ts
  clear hcl
  simp only [ab,aa,ae] at *;omega
 ·clear h5
  clear h1
  show ([wd [98,114,101,97,107],Pt.mk [59]]).length ≤ _
  clear hcl
  simp only [ab,aa,ae] at *;omega
 ·clear h5
  clear h1
  show ([wd [99,111,110,116,105,110,117,101],Pt.mk [59]]).length ≤ _
  clear hcl
  simp only [ab,aa,ae] at *;omega
 ·clear h5
  clear h1
  show ([⟨2,[],u⟩]).length ≤ _
  clear hcl
  simp only [ab,aa,ae] at *;omega
 ·clear h5
  clear h1
  show ([⟨3,s,0⟩]).length ≤ _
  clear hcl
  simp only [ab,aa,ae] at *;omega
 ·clear h5
  clear h1
  show ((if u=1 then [wd [116,114,117,101]] else [wd [102,97,108,115,101]])).length ≤ _
  clear hcl
  split <;> (simp only [ab,aa,ae];omega)
 ·clear h5
  clear h1
  show ([wd [110,105,108]]).length ≤ _
  clear hcl
  simp only [ab,aa,ae] at *;omega
 ·clear h5
  clear h1
  show ([nm s]).length ≤ _
  clear hcl
  simp only [ab,aa,ae] at *;omega
 ·clear h5
  clear h1
  show (Pt.mk [40] :: nm s :: Pt.mk [123] :: (commaJ ts++[Pt.mk [125],Pt.mk [41]])).length ≤ _
  have:=comma_len ts
  clear hcl
  simp only [ab,aa,ae] at *;omega
 ·clear h5
  show (Pt.mk [91] :: Pt.mk [93] :: (nth ts 0++Pt.mk [123] :: (commaJ (ts.drop 1)++[Pt.mk [125]]))).length ≤ _
  have:=comma_len (ts.drop 1)
  have:=nth_hd ts (h1 (by omega))
  have:=hcl 1
  clear h1
  clear hcl
  simp only [ab,aa,ae] at *;omega
 ·clear h5
  clear h1
  show (wd [102,117,110,99] :: (nth ts 0++nth ts 1)).length ≤ _
  have:=nth3 ts
  clear hcl
  simp only [ab,aa,ae] at *;omega
 ·clear h5
  clear h1
  show (nth ts 0++[Pt.mk [46],nm s]).length ≤ _
  have:=nth3 ts
  clear hcl
  simp only [ab,aa,ae] at *;omega
 ·clear h5
  clear h1
  show (nth ts 0++Pt.mk [91] :: (nth ts 1++[Pt.mk [93]])).length ≤ _
  have:=nth3 ts
  clear hcl
  simp only [ab,aa,ae] at *;omega
 ·rcases h5 rfl with ⟨rfl,hn⟩ | ⟨rfl,hn⟩ | ⟨rfl,hn⟩ | ⟨rfl,hn⟩
  ·show (nth ts 0++Pt.mk [91] :: ([]++Pt.mk [58] :: ([]++[Pt.mk [93]]))).length ≤ _
   have:=nth3 ts
   simp only [ab,aa,ae,Nat.reduceSub] at *;omega
  ·show (nth ts 0++Pt.mk [91] :: (nth ts 1++Pt.mk [58] :: ([]++[Pt.mk [93]]))).length ≤ _
   have:=nth3 ts
   simp only [ab,aa,ae,Nat.reduceSub] at *;omega
  ·show (nth ts 0++Pt.mk [91] :: ([]++Pt.mk [58] :: (nth ts (ts.length - 1)++[Pt.mk [93]]))).length ≤ _
   have:=nth3 ts
   rw [hn] at *
   simp only [ab,aa,ae,Nat.reduceSub] at *;omega
  ·show (nth ts 0++Pt.mk [91] :: (nth ts 1++Pt.mk [58] :: (nth ts (ts.length - 1)++[Pt.mk [93]]))).length ≤ _
   have:=nth3 ts
   rw [hn] at *
   simp only [ab,aa,ae,Nat.reduceSub] at *;omega
 ·clear h5
  show (nth ts 0++Pt.mk [40] :: (commaJ (ts.drop 1)++[Pt.mk [41]])).length ≤ _
  have:=comma_len (ts.drop 1)
  have:=nth_hd ts (h1 (by omega))
  have:=hcl 1
  clear h1
  clear hcl
  simp only [ab,aa,ae] at *;omega
 ·clear h5
  clear h1
  show (Pt.mk [40] :: Pt.mk s :: (nth ts 0++[Pt.mk [41]])).length ≤ _
  have:=nth3 ts
  clear hcl
  simp only [ab,aa,ae] at *;omega
 ·clear h5
  clear h1
  show (Pt.mk [40] :: (nth ts 0++Pt.mk s :: (nth ts 1++[Pt.mk [41]]))).length ≤ _
  have:=nth3 ts
  clear hcl
  simp only [ab,aa,ae] at *;omega
theorem toks_len (a : Tree) : OkR a→(Pt.toks a).length + 1 ≤ 8 * a.size:=by
 induction a using Tree.ind with
 | h a ih =>
 intro h
 have hk : ∀ l : List Tree,(∀ t ∈ l,(Pt.toks t).length + 1 ≤ 8 * t.size)→(l.map Pt.toks).flatten.length + l.length ≤ 8 * sizeL l:=by
  intro l
  induction l with
  | nil=>intro _;simp [sizeL]
  | cons t l ihl =>
   intro hl
   have h1:=hl t (by simp)
   have h2:=ihl fun x hx=>hl x (by simp [hx])
   simp only [ax,List.flatten_cons,aa,ab,sizeL] at *
   omega
 have h1:=hk a.kids fun t ht=>ih t ht (h.kid ht)
 have h2 : (comb a.kind a.name a.num (a.kids.map Pt.toks)).length ≤ (a.kids.map Pt.toks).flatten.length + (a.kids.map Pt.toks).length + 7:=comb_len (sl:=a.name.length) (by rw [aD];exact h.ok)
 rw [toks_eq]
 rw [aD] at h2
 have h3 : a.size=1 + sizeL a.kids:=by obtain ⟨k,n,u,ks⟩:=a;rfl
 omega
def rtk (a : Tree) : List Str:=(Pt.toks a).map txt
theorem rtk_len (a : Tree) : (rtk a).length=(Pt.toks a).length:=aD _
end Go.Sep
namespace Go
abbrev cE := @Sep.rtk_len
end Go

/- SepBag -/
namespace Go.Sep
structure Spec where
 p : Value→Mem→Prop
 mono : ∀ {v : Value} {m m' : Mem},m ≤ m' → p v m→p v m'
structure BEnt where
 i : Nat
 d : Nat
 s : Spec
 ds : List Nat
def entOf : List BEnt→Nat→Option BEnt
 | [],_=>none
 | e :: es,j=>bif Nat.beq e.i j then some e else entOf es j
theorem entOf_mem : ∀ {es : List BEnt} {j : Nat} {e : BEnt},entOf es j=some e→e ∈ es∧e.i=j
 | e0 :: es,j,e,h=>by
  unfold entOf at h
  cases hb : Nat.beq e0.i j with
  | true =>
   rw [hb] at h
   simp only [bh,an] at h
   subst h
   exact ⟨by simp,Nat.eq_of_beq_eq_true hb⟩
  | false =>
   rw [hb] at h
   obtain ⟨h1,h2⟩:=entOf_mem h
   exact ⟨by simp [h1],h2⟩
def bagPre (m : Mem) (es : List BEnt) : List Nat→Env→(Env→Prop)→Prop
 | [], ρ,K=>K ρ
 | j :: ds, ρ,K=>match entOf es j with
  | some e => ∀ v,e.s.p v m→bagPre m es ds ((e.d,v) :: ρ) K
  | none=>False
theorem bagPre_use {m : Mem} {es : List BEnt} {K : Env→Prop} : ∀ {ds : List Nat} {ρ : Env},bagPre m es ds ρ K→(∀ j ∈ ds, ∀ e,entOf es j=some e → ∃ v,look ρ e.d=some v∧e.s.p v m) → ∃ ρ1,K ρ1 ∧ ∀ i,look ρ1 i=look ρ i
 | [], ρ,h,_=>⟨ρ,h,fun _=>rfl⟩
 | j :: ds, ρ,h,hv=>by
  unfold bagPre at h
  cases he : entOf es j with
  | none=>rw [he] at h;exact h.elim
  | some e =>
   rw [he] at h
   obtain ⟨v,h1,h2⟩:=hv j (by simp) e he
   have hl : ∀ i,look ((e.d,v) :: ρ) i=look ρ i:=fun i=>by
    show (bif Nat.beq e.d i then some v else look ρ i)=_
    cases hb : Nat.beq e.d i with
    | true =>
     have:=Nat.eq_of_beq_eq_true hb
     subst this
     rw [bh,h1]
    | false=>rfl
   obtain ⟨ρ1,h3,h4⟩:=bagPre_use (h v h2) fun k hk e' he'=>by
    obtain ⟨v',h5,h6⟩:=hv k (by simp [hk]) e' he'
    exact ⟨v',by rw [hl];exact h5,h6⟩
   exact ⟨ρ1,h3,fun i=>(h4 i).trans (hl i)⟩
theorem look_append (a b : Env) (i : Nat) : look (a++b) i=match look a i with | some v=>some v | none=>look b i:=by
 induction a with
 | nil=>rfl
 | cons x a ih =>
  obtain ⟨d,v⟩:=x
  show (bif Nat.beq d i then some v else look (a++b) i)=match (bif Nat.beq d i then some v else look a i) with | some v=>some v | none=>look b i
  cases hb : Nat.beq d i with
  | true=>rfl
  | false=>exact ih
def falses : List Bool→Nat
 | []=>0
 | true :: l=>falses l
 | false :: l=>falses l + 1
theorem falses_set : ∀ {l : List Bool} {i : Nat},l[i]? = some false→falses (l.set i true) + 1=falses l
 | b :: l,0,h=>by
  simp only [List.getElem?_cons_zero,an] at h
  subst h;rfl
 | b :: l,i + 1,h=>by
  rw [List.getElem?_cons_succ] at h
  have:=falses_set h
  rw [List.set_cons_succ]
  cases b with
  | true=>exact this
  | false=>show falses (l.set i true) + 1 + 1=falses l + 1;omega
theorem falses_pos {l : List Bool} {i : Nat} (h : l[i]? = some false) : 0 < falses l:=by
 have:=falses_set h;omega
def distB : List BEnt→Bool
 | []=>true
 | e :: es=>es.all (fun e' => !Nat.beq e.i e'.i && !Nat.beq e.d e'.d) && distB es
theorem dist_eq : ∀ {es : List BEnt},distB es=true → ∀ e ∈ es, ∀ e' ∈ es,(e.i=e'.i ∨ e.d=e'.d)→e=e'
 | x :: es,h,e,he,e',he',hd=>by
  unfold distB at h
  rw [aj] at h
  have hx : ∀ y ∈ es,x.i ≠ y.i∧x.d ≠ y.d:=fun y hy=>by
   have:=List.all_eq_true.1 h.1 y hy
   rw [aj,Bool.not_eq_true',Bool.not_eq_true'] at this
   exact ⟨Nat.ne_of_beq_eq_false this.1,Nat.ne_of_beq_eq_false this.2⟩
  rcases List.mem_cons.1 he with rfl | he1
  ·rcases List.mem_cons.1 he' with rfl | he2
   ·rfl
   ·have:=hx e' he2
    rcases hd with hd | hd
    ·exact absurd hd this.1
    ·exact absurd hd this.2
  ·rcases List.mem_cons.1 he' with rfl | he2
   ·have:=hx e he1
    rcases hd with hd | hd
    ·exact absurd hd.symm this.1
    ·exact absurd hd.symm this.2
   ·exact dist_eq h.2 e he1 e' he2 hd
def edgeTo (o : Oper) (j : Nat) : Bool:=o.after.any fun x=>Region.binds .any x && Nat.beq x.on j
def bagChk (ops : List Oper) (N : Nat) (listed : List Bool) (z : Nat) (es : List BEnt) : Bool :=
 Nat.beq listed.length ops.length && ((List.range ops.length).all (fun i=>(listed.getD i true) || ((entOf es i).isSome || (Nat.blt z i && (match ops[i]? with | some o=>edgeTo o z | none=>false)))) &&
 (es.all (fun e=>match ops[e.i]? with
  | some o=>(match o.dst with | some d=>Nat.beq d e.d | none=>false) && (Nat.blt e.d N && (o.guard.isNone && ((e.ds.all (fun j=>(entOf es j).isSome && edgeTo o j)) &&
    ((o.after.all (fun x => !Region.binds .any x || Nat.blt x.on e.i)) && (Nat.beq e.i z || es.any (fun e'=>Nat.blt e.i e'.i && (Nat.ble e'.i z && (match ops[e'.i]? with | some o'=>edgeTo o' e.i | none=>false))))))))
  | none=>false) && ((entOf es z).isSome && distB es)))
def bagSet : List BEnt→List Bool→List Bool
 | [],l=>l
 | e :: es,l=>bagSet es (l.set e.i true)
theorem bagSet_len : ∀ (es : List BEnt) (l : List Bool),(bagSet es l).length=l.length
 | [],l=>rfl
 | e :: es,l=>by rw [bagSet,bagSet_len es,List.length_set]
theorem bagSet_get : ∀ (es : List BEnt) (l : List Bool) (i : Nat),i < l.length→(bagSet es l)[i]? = if (∃ e ∈ es,e.i=i) then some true else l[i]?
 | [],l,i,h=>by simp [bagSet]
 | e :: es,l,i,h=>by
  rw [bagSet,bagSet_get es _ i (by rw [List.length_set];exact h)]
  by_cases h1 : ∃ x ∈ es,x.i=i
  ·rw [if_pos h1,if_pos (by obtain ⟨x,hx,hi⟩:=h1;exact ⟨x,by simp [hx],hi⟩)]
  ·rw [if_neg h1]
   by_cases h2 : e.i=i
   ·rw [if_pos ⟨e,by simp,h2⟩,h2,List.getElem?_set_self h]
   ·rw [if_neg (by
     rintro ⟨x,hx,hi⟩
     rcases List.mem_cons.1 hx with rfl | hx
     ·exact h2 hi
     ·exact h1 ⟨x,hx,hi⟩),List.getElem?_set_ne h2]
section
variable {P : Program} {N : Nat} {ρ ρc : Env} {D : List Deferred} {m : Mem} {L Ls Lp : List Item} {Q : EPost} {ops : List Oper} {fuel : Nat} {listed : List Bool} {T : Nat→Bool} {S : World→Prop}
theorem wpAnyT_more {Q : Exit→Act→World→Prop} {ops : Array Oper} {md : Region.Mode} : ∀ (fuel : Nat) (l : Array Bool) (a : Act) (w : World),wpAnyT P md ops Q T S fuel l a w→wpAnyT P md ops Q T S (fuel + 1) l a w
 | 0,l,a,w,h=>⟨fun _=>h.2,fun i hi=>by rw [h.1] at hi;cases hi⟩
 | fuel + 1,l,a,w,h=>⟨h.1,fun i hi=>wpOp_mono (fun a' w' h'=>⟨h'.1,wpAnyT_more fuel _ a' w' h'.2⟩) (h.2 i hi)⟩
theorem wpAnyT_le {Q : Exit→Act→World→Prop} {ops : Array Oper} {md : Region.Mode} {l : Array Bool} {a : Act} {w : World} {n k : Nat} (h : wpAnyT P md ops Q T S n l a w) (hk : n ≤ k) : wpAnyT P md ops Q T S k l a w:=by
 induction k with
 | zero =>
  obtain rfl : n=0:=by omega
  exact h
 | succ k ih =>
  rcases Nat.eq_or_lt_of_le hk with rfl | h1
  ·exact h
  ·exact wpAnyT_more k l a w (ih (by omega))
def BagOp (P : Program) (N : Nat) (ops : List Oper) (ρc : Env) (D : List Deferred) (m : Mem) (L : List Item) (Q : EPost) (es : List BEnt) (e : BEnt) : Prop :=
 ∃ o,ops[e.i]? = some o ∧ ∀ m',m ≤ m' → ∀ rest,bagPre m' es e.ds (ρc++rest) fun ρ'=>OT P N o ρ' D m' L Q (fun ρ'' m'' L''=>m' ≤ m'' ∧ L=L'' ∧ ∃ v, ρ'' = (e.d,v) :: ρ' ∧ e.s.p v m'')
structure BagInv (N : Nat) (ops : List Oper) (es : List BEnt) (ρc : Env) (D : List Deferred) (m : Mem) (L : List Item) (listed l : List Bool) (a : Act) (w : World) (m' : Mem) (ρ' : Env) : Prop where
 le : m ≤ m'
 ok : Ok N (ρc ++ ρ') D m' L a w
 len : l.length=listed.length
 old : ∀ i,listed.getD i true=true→l.getD i true=true
 new : ∀ i,l[i]? = some true→listed[i]? = some true ∨ ∃ e ∈ es,e.i=i
 shut : ∀ e ∈ es,l[e.i]? = some true → ∀ o,ops[e.i]? = some o → ∀ j,edgeTo o j=true→l[j]? = some true
 vals : ∀ e ∈ es,l[e.i]? = some true → ∃ v,look (ρc ++ ρ') e.d=some v∧e.s.p v m'
theorem bag_any {z : Nat} {es : List BEnt} (hc : bagChk ops N listed z es=true) (hfree : ∀ e ∈ es,listed[e.i]? = some false) (hks : ∀ e ∈ es,look ρc e.d=none)
  (hop : ∀ e ∈ es,BagOp P N ops ρc D m (Ls++Lp) Q es e) (out : List Nat) (n : Nat) (hn : n=falses (bagSet es listed)) (hfin : ∀ m',m ≤ m' → ∀ rest,bagPre m' es out (ρc++rest) fun ρ'=>DO P N ops [] n (bagSet es listed) ρ' D m' Ls Lp Q) :
  ∀ (fuel : Nat) (l : List Bool) (m' : Mem) (ρ' : Env) (a : Act) (w : World),falses l ≤ fuel→BagInv N ops es ρc D m (Ls++Lp) listed l a w m' ρ' → wpAnyT P .any ⟨ops⟩ (Lift N Q) (fun i=>([] : List Nat).contains i) (Stays m Ls) fuel ⟨l⟩ a w:=by
 unfold bagChk at hc
 simp only [aj] at hc
 obtain ⟨c1,c2,c3,c5,c4⟩:=hc
 have c1 : listed.length=ops.length:=Nat.eq_of_beq_eq_true c1
 obtain ⟨ez,hez⟩:=Option.isSome_iff_exists.1 c5
 obtain ⟨hezm,hezi⟩:=entOf_mem hez
 have cov : ∀ i,i < ops.length→listed.getD i true=false→(∃ e ∈ es,e.i=i) ∨ (z < i ∧ ∃ o,ops[i]? = some o∧edgeTo o z=true):=fun i hi hl=>by
  have:=List.all_eq_true.1 c2 i (by simpa using hi)
  rw [hl,be,ar] at this
  rcases this with h | h
  ·obtain ⟨e,he⟩:=Option.isSome_iff_exists.1 h
   exact .inl ⟨e,(entOf_mem he).1,(entOf_mem he).2⟩
  ·rw [ak hi,aj] at h
   exact .inr ⟨(Nat.blt_eq).mp h.1,ops[i],by simp [hi],h.2⟩
 have each : ∀ e ∈ es, ∀ o,ops[e.i]? = some o→o.dst=some e.d∧Nat.blt e.d N=true∧o.guard=none∧(∀ j ∈ e.ds,edgeTo o j=true)∧(∀ x ∈ o.after,Region.binds .any x=true→x.on < e.i) ∧
   (e.i=z ∨ ∃ e' ∈ es,e.i < e'.i∧e'.i ≤ z ∧ ∃ o',ops[e'.i]? = some o' ∧ edgeTo o' e.i=true):=fun e he o ho=>by
  have:=List.all_eq_true.1 c3 e he
  rw [ho] at this
  simp only [aj] at this
  obtain ⟨h1,h2,h3,h5,h6,h8⟩:=this
  refine ⟨?_,h2,by simpa using h3,fun j hj => ?_,fun x hx hb => ?_, ?_⟩
  ·cases hd : o.dst with
   | none=>rw [hd] at h1;cases h1
   | some d=>rw [hd] at h1;rw [Nat.eq_of_beq_eq_true h1]
  ·have h7:=List.all_eq_true.1 h5 j hj
   rw [aj] at h7
   exact h7.2
  ·have h7:=Array.all_eq_true'.1 h6 x hx
   rw [hb] at h7
   simp only [Bool.not_true,be] at h7
   exact (Nat.blt_eq).mp h7
  ·rw [ar] at h8
   rcases h8 with h8 | h8
   ·exact .inl (Nat.eq_of_beq_eq_true h8)
   ·obtain ⟨e',he',hb⟩:=List.any_eq_true.1 h8
    rw [aj,aj] at hb
    refine .inr ⟨e',he',(Nat.blt_eq).mp hb.1,Nat.le_of_ble_eq_true hb.2.1, ?_⟩
    have h9:=hb.2.2
    cases hq : ops[e'.i]? with
    | none=>rw [hq] at h9;cases h9
    | some o'=>rw [hq] at h9;exact ⟨o',rfl,h9⟩
 have opOf : ∀ e ∈ es, ∃ o,ops[e.i]? = some o:=fun e he=>by
  have h1:=(List.getElem?_eq_some_iff.1 (hfree e he)).1
  exact ⟨ops[e.i]'(by omega),by rw [ak]⟩
 have lez : ∀ e ∈ es,e.i ≤ z:=fun e he=>by
  obtain ⟨o,ho⟩:=opOf e he
  rcases (each e he o ho).2.2.2.2.2 with h | ⟨e',_,h1,h2,_⟩ <;> omega
 have dis : ∀ e ∈ es, ∀ e' ∈ es,e.i ≠ e'.i→e.d ≠ e'.d:=fun e he e' he' hne hd=>hne (by rw [dist_eq c4 e he e' he' (.inr hd)])
 have getl : ∀ (l : List Bool) (i : Nat),i < l.length→l[i]? = some (l.getD i true):=fun l i hi=>by
  rw [List.getD_eq_getElem?_getD,ak hi];rfl
 have edge_of : ∀ (o : Oper) (x : Edge),x ∈ o.after→Region.binds .any x=true→edgeTo o x.on=true:=fun o x hx hb=>by
  unfold edgeTo
  exact Array.any_eq_true'.2 ⟨x,hx,by rw [hb];simp⟩
 have zall : ∀ l m' ρ' a w,BagInv N ops es ρc D m (Ls++Lp) listed l a w m' ρ' → l[z]? = some true → ∀ k, ∀ e ∈ es,z - e.i ≤ k→l[e.i]? = some true:=fun l m' ρ' a w hI hz k=>by
  induction k with
  | zero =>
   intro e he hk
   have:=lez e he
   rw [show e.i=z by omega];exact hz
  | succ k ih =>
   intro e he hk
   obtain ⟨o,ho⟩:=opOf e he
   rcases (each e he o ho).2.2.2.2.2 with h | ⟨e',he',h1,h2,o',ho',h3⟩
   ·rw [h];exact hz
   ·exact hI.shut e' he' (ih e' he' (by omega)) o' ho' e.i h3
 have last : ∀ (fuel : Nat) (l : List Bool) (m' : Mem) (ρ' : Env) (a : Act) (w : World),BagInv N ops es ρc D m (Ls++Lp) listed l a w m' ρ' → falses l ≤ fuel→(∀ e ∈ es,l[e.i]? = some true) →
   wpAnyT P .any ⟨ops⟩ (Lift N Q) (fun i=>([] : List Nat).contains i) (Stays m Ls) fuel ⟨l⟩ a w:=fun fuel l m' ρ' a w hI hf hl=>by
  have hle : l=bagSet es listed:=by
   refine List.ext_getElem? fun i => ?_
   by_cases hi : i < listed.length
   ·rw [bagSet_get es listed i hi]
    by_cases h1 : ∃ e ∈ es,e.i=i
    ·rw [if_pos h1]
     obtain ⟨e,he,rfl⟩:=h1
     exact hl e he
    ·rw [if_neg h1,getl l i (by have:=hI.len;omega),getl listed i hi]
     cases hq : l.getD i true with
     | true =>
      rcases hI.new i (by rw [getl l i (by have:=hI.len;omega),hq]) with h2 | h2
      ·rw [← getl listed i hi];exact h2.symm
      ·exact absurd h2 h1
     | false =>
      cases hq2 : listed.getD i true with
      | false=>rfl
      | true=>have:=hI.old i hq2;rw [hq] at this;cases this
   ·have h1:=hI.len
    have h2:=bagSet_len es listed
    rw [au (by omega),au (by omega)]
  subst hle
  obtain ⟨ρ1,h1,h2⟩:=bagPre_use (hfin m' hI.le ρ') fun j hj e he=>by
   have hem:=(entOf_mem he).1
   exact hI.vals e hem (hl e hem)
  have h3:=h1 a w (hI.ok.sub fun i v hv=>by rw [← h2];exact hv)
  refine wpAnyT_le (n:=n) ?_ (by omega)
  refine wpAnyT_strong ?_ _ _ _ _ h3
  rintro w2 ⟨m2,L2,g1,g2⟩
  exact ⟨m2,L2,bn hI.le g1,g2⟩
 have rdy : ∀ l m' ρ' a w,BagInv N ops es ρc D m (Ls++Lp) listed l a w m' ρ' → ∀ (k i : Nat),i ≤ k→i ≤ z→l[i]? = some false → ∃ j,j ∈ Region.ready .any ⟨ops⟩ ⟨l⟩:=by
  intro l m' ρ' a w hI k
  have old : ∀ i,l[i]? = some false→listed.getD i true=false:=fun i hf=>by
   cases hq : listed.getD i true with
   | false=>rfl
   | true=>have:=hI.old i hq;rw [List.getD_eq_getElem?_getD,hf] at this;cases this
  induction k with
  | zero =>
   intro i hi hiz hf
   have hlt : i < ops.length:=by have:=(List.getElem?_eq_some_iff.1 hf).1;have:=hI.len;omega
   rcases cov i hlt (old i hf) with ⟨e,he,rfl⟩ | ⟨h,_⟩
   ·obtain ⟨o,ho⟩:=opOf e he
    exact ⟨e.i,mem_ready.2 ⟨by rw [Array.getD_eq_getD_getElem?];simp [hf],o,by simpa using ho,fun x hx hb=>by
     have:=(each e he o ho).2.2.2.2.1 x hx hb;omega⟩⟩
   ·omega
  | succ k ih =>
   intro i hi hiz hf
   have hlt : i < ops.length:=by have:=(List.getElem?_eq_some_iff.1 hf).1;have:=hI.len;omega
   rcases cov i hlt (old i hf) with ⟨e,he,rfl⟩ | ⟨h,_⟩
   ·obtain ⟨o,ho⟩:=opOf e he
    by_cases hall : ∀ x ∈ o.after,Region.binds .any x=true→l[x.on]? = some true
    ·exact ⟨e.i,mem_ready.2 ⟨by rw [Array.getD_eq_getD_getElem?];simp [hf],o,by simpa using ho,fun x hx hb=>by
      rw [Array.getD_eq_getD_getElem?];simp [hall x hx hb]⟩⟩
    ·rw [Classical.not_forall] at hall
     obtain ⟨x,hall⟩:=hall
     rw [Classical.not_forall] at hall
     obtain ⟨hx,hall⟩:=hall
     rw [Classical.not_forall] at hall
     obtain ⟨hb,hno⟩:=hall
     have h1:=(each e he o ho).2.2.2.2.1 x hx hb
     have h2 : l[x.on]? = some false:=by
      have:=getl l x.on (by have:=(List.getElem?_eq_some_iff.1 hf).1;omega)
      cases hq : l.getD x.on true with
      | true=>rw [hq] at this;exact absurd this hno
      | false=>rw [hq] at this;exact this
     exact ih x.on (by omega) (by omega) h2
   ·omega
 have allT : ∀ l m' ρ' a w,BagInv N ops es ρc D m (Ls++Lp) listed l a w m' ρ' → l[z]? = some true → ∀ e ∈ es,l[e.i]? = some true:=fun l m' ρ' a w hI hz e he=>zall l m' ρ' a w hI hz (z - e.i) e he (av _)
 have zlt : z < listed.length:=by
  have:=(List.getElem?_eq_some_iff.1 (hfree ez hezm)).1
  rw [hezi] at this;exact this
 intro fuel
 induction fuel with
 | zero =>
  intro l m' ρ' a w hf hI
  have hz : l[z]? = some true:=by
   have:=getl l z (by have:=hI.len;omega)
   cases hq : l.getD z true with
   | true=>rw [hq] at this;exact this
   | false=>rw [hq] at this;have:=falses_pos this;omega
  exact last 0 l m' ρ' a w hI hf (allT l m' ρ' a w hI hz)
 | succ fuel ih =>
  intro l m' ρ' a w hf hI
  have hzc:=getl l z (by have:=hI.len;omega)
  cases hq : l.getD z true with
  | true=>rw [hq] at hzc;exact last _ l m' ρ' a w hI hf (allT l m' ρ' a w hI hzc)
  | false =>
  rw [hq] at hzc
  refine ⟨fun hr => ?_,fun i hi => ?_⟩
  ·obtain ⟨j,hj⟩:=rdy l m' ρ' a w hI z z (av _) (av _) hzc
   rw [hr] at hj;cases hj
  obtain ⟨h0,o,ho,hedge⟩:=mem_ready.1 hi
  have ho' : ops[i]? = some o:=by simpa using ho
  have hlt : i < ops.length:=(List.getElem?_eq_some_iff.1 ho').1
  have hlf : l.getD i true=false:=by
   rw [Array.getD_eq_getD_getElem?] at h0
   rw [List.getD_eq_getElem?_getD]
   simpa using h0
  have hli : l[i]? = some false:=by rw [getl l i (by have:=hI.len;omega),hlf]
  have hedge2 : ∀ j,edgeTo o j=true→l[j]? = some true:=fun j hj=>by
   unfold edgeTo at hj
   obtain ⟨x,hx,hb⟩:=Array.any_eq_true'.1 hj
   rw [aj] at hb
   have h3:=hedge x hx hb.1
   have h4:=Nat.eq_of_beq_eq_true hb.2
   rw [Array.getD_eq_getD_getElem?,h4] at h3
   cases hq : l[j]? with
   | none=>simp [hq] at h3
   | some b=>simp [hq] at h3;rw [h3]
  have hie : ∃ e ∈ es,e.i=i:=by
   rcases cov i hlt (by
    cases hq : listed.getD i true with
    | false=>rfl
    | true=>have:=hI.old i hq;rw [hlf] at this;cases this) with h | ⟨_,o2,ho2,h⟩
   ·exact h
   ·rw [ho'] at ho2
    simp only [an] at ho2
    subst ho2
    have:=hedge2 z h
    rw [hzc] at this;cases this
  obtain ⟨e,he,hei⟩:=hie
  subst hei
  obtain ⟨e1,e2,e3,e4,e5,_⟩:=each e he o ho'
  obtain ⟨o2,ho2,hrun⟩:=hop e he
  rw [ho'] at ho2
  simp only [an] at ho2
  subst ho2
  obtain ⟨ρ1,h1,h2⟩:=bagPre_use (hrun m' hI.le ρ') fun j hj e' he'=>by
   obtain ⟨hm',hi'⟩:=entOf_mem he'
   exact hI.vals e' hm' (by rw [hi'];exact hedge2 j (e4 j hj))
  have hok1 : Ok N ρ1 D m' (Ls++Lp) a w:=hI.ok.sub fun i v hv=>by rw [← h2];exact hv
  have hset : (⟨l⟩ : Array Bool).setIfInBounds e.i true = ⟨l.set e.i true⟩:=by
   apply Array.ext';simp
  have hgv : gv ops ρ1 o=some true:=by unfold gv;rw [e3]
  unfold wpOp
  simp only [ho,gv_wanted hgv hok1.env,if_true]
  refine .inl (Oper.wp_mono ?_ (h1 a w hok1))
  rintro a' w' ⟨ρ'',m'',L'',g1,g2,rfl,v,rfl,g5⟩
  have hle : m ≤ m'':=bn hI.le g2
  have seti : ∀ j,(l.set e.i true)[j]? = some true→j=e.i ∨ l[j]? = some true:=fun j hj=>by
   by_cases h : e.i=j
   ·exact .inl h.symm
   ·rw [List.getElem?_set_ne h] at hj;exact .inr hj
  have setm : ∀ j,l[j]? = some true→(l.set e.i true)[j]? = some true:=fun j hj=>by
   by_cases h : e.i=j
   ·subst h;rw [hli] at hj;cases hj
   ·rw [List.getElem?_set_ne h];exact hj
  refine ⟨fun _=>⟨m'',Lp,hle,g1.st⟩, ?_⟩
  rw [hset]
  refine ih (l.set e.i true) m'' ((e.d,v) :: ρ') a' w' (by have:=falses_set hli;omega) ⟨hle,g1.sub fun i u hu => ?_,by rw [List.length_set];exact hI.len,fun i hi => ?_,fun i hi => ?_,fun e' he' hl' o2 ho2 j hj => ?_,fun e' he' hl' => ?_⟩
  ·rw [look_append] at hu
   show (bif Nat.beq e.d i then some v else look ρ1 i)=some u
   have hu2 : (match look ρc i with | some v=>some v | none=>(bif Nat.beq e.d i then some v else look ρ' i))=some u:=hu
   cases hb : Nat.beq e.d i with
   | true =>
    have:=Nat.eq_of_beq_eq_true hb
    subst this
    rw [hks e he,hb] at hu2
    exact hu2
   | false =>
    rw [bg,h2,look_append]
    rw [hb] at hu2
    exact hu2
  ·have h3:=hI.old i hi
   rw [List.getD_eq_getElem?_getD] at h3 ⊢
   by_cases hie : e.i=i
   ·subst hie;rw [hli] at h3;cases h3
   ·rw [List.getElem?_set_ne hie];exact h3
  ·rcases seti i hi with rfl | h
   ·exact .inr ⟨e,he,rfl⟩
   ·exact hI.new i h
  ·rcases seti e'.i hl' with h | h
   ·have hoo : o2=o:=by
     rw [h] at ho2;rw [ho'] at ho2;exact (Option.some.inj ho2).symm
    subst hoo
    exact setm j (hedge2 j hj)
   ·exact setm j (hI.shut e' he' h o2 ho2 j hj)
  ·by_cases hie : e.i=e'.i
   ·obtain rfl:=dist_eq c4 e he e' he' (.inl hie)
    refine ⟨v, ?_,g5⟩
    rw [look_append,hks e he]
    show (bif Nat.beq e.d e.d then some v else look ρ' e.d)=some v
    simp
   ·rw [List.getElem?_set_ne hie] at hl'
    obtain ⟨u,h5,h6⟩:=hI.vals e' he' hl'
    refine ⟨u, ?_,e'.s.mono g2 h6⟩
    have hd:=dis e he e' he' hie
    rw [look_append] at h5 ⊢
    rw [hks e' he'] at h5 ⊢
    show (bif Nat.beq e.d e'.d then some v else look ρ' e'.d)=some u
    cases hb : Nat.beq e.d e'.d with
    | true=>exact absurd (Nat.eq_of_beq_eq_true hb) hd
    | false=>exact h5
def bagFree (listed : List Bool) (ρc : Env) (es : List BEnt) : Bool:=es.all fun e=>(match listed[e.i]? with | some b => !b | none=>false) && (look ρc e.d).isNone
theorem DO.bag (ks : List Nat) (hk : pickEnv ρ ks=some ρc) (z : Nat) (es : List BEnt) (out : List Nat) (n : Nat) (hc : bagChk ops N listed z es=true) (hf : bagFree listed ρc es=true) (hn : Nat.beq n (falses (bagSet es listed))=true) (hfu : Nat.ble (falses listed) fuel=true)
  (hop : AllL (BagOp P N ops ρc D m (Ls++Lp) Q es) es) (hfin : ∀ m',m ≤ m' → ∀ rest,bagPre m' es out (ρc++rest) fun ρ'=>DO P N ops [] n (bagSet es listed) ρ' D m' Ls Lp Q) :
  DO P N ops [] fuel listed ρ D m Ls Lp Q:=by
 intro a w ha
 have hf' : ∀ e ∈ es,listed[e.i]? = some false∧look ρc e.d=none:=fun e he=>by
  have:=List.all_eq_true.1 hf e he
  rw [aj] at this
  obtain ⟨h1,h2⟩:=this
  refine ⟨?_,by simpa using h2⟩
  cases hq : listed[e.i]? with
  | none=>rw [hq] at h1;cases h1
  | some b =>
   rw [hq] at h1
   cases b with
   | false=>rfl
   | true=>cases h1
 have hfree : ∀ e ∈ es,listed[e.i]? = some false:=fun e he=>(hf' e he).1
 refine bag_any hc hfree (fun e he=>(hf' e he).2) (fun e he=>hop.mem e he) out n (Nat.eq_of_beq_eq_true hn) hfin fuel listed m [] a w (Nat.le_of_ble_eq_true hfu) ⟨m.le_refl, ?_,rfl,fun _ h=>h,fun _ h => .inl h,fun e he h => ?_,fun e he h => ?_⟩
 ·rw [aQ];exact ha.sub (pickEnv_sub hk)
 ·rw [hfree e he] at h;cases h
 ·rw [hfree e he] at h;cases h
end
end Go.Sep


/- PtRefS -/
namespace Go.Sep
open Go.Proofs Go.Pt
@[reducible] def rSS : R Sl (List Str):=rSl rStr
def spStrs (l : List Str) : Spec:=⟨fun v m => ∃ s : Sl,v=s.v∧SlRep rStr m s l,fun hm h=>by obtain ⟨s,e,h⟩:=h;exact ⟨s,e,h.mono hm⟩⟩
def spStrss (l : List (List Str)) : Spec:=⟨fun v m => ∃ s : Sl,v=s.v∧SlRep (rSS) m s l,fun hm h=>by obtain ⟨s,e,h⟩:=h;exact ⟨s,e,h.mono hm⟩⟩
def spNodes (l : List Tree) : Spec:=⟨fun v m => ∃ s : Sl,v=s.v∧SlRep rTree m s l,fun hm h=>by obtain ⟨s,e,h⟩:=h;exact ⟨s,e,h.mono hm⟩⟩
theorem bagPre_nil {m : Mem} {es : List BEnt} {ρ : Env} {K : Env→Prop} (h : K ρ) : bagPre m es [] ρ K:=h
theorem bagPre_cons {m : Mem} {es : List BEnt} {j : Nat} {ds : List Nat} {ρ : Env} {K : Env→Prop} {e : BEnt} (he : entOf es j=some e) (h : ∀ v,e.s.p v m→bagPre m es ds ((e.d,v) :: ρ) K) : bagPre m es (j :: ds) ρ K:=by
 unfold bagPre
 rw [he]
 exact h
theorem permB {α : Type} {x c : α} {l : List α} : (x :: ([c]++l)).Perm ([c]++x :: l):=ag _ _ _
def TkO (m : Mem) (L : List Item) (l : List Str) : Value→Mem→List Item→Prop:=fun r m' L'=>m ≤ m' ∧ ∃ s : Sl,r=s.v∧SlRep rStr m' s l∧Own s∧L' = tok s 1 :: L
@[reducible] def TkM (m : Mem) (L : List Item) (l : List Str) : Value→Mem→List Item→Prop:=Made m L fun r m' => ∃ s : Sl,r=s.v∧SlRep rStr m' s l
theorem TkO.drop {P : Program} {f : FuncId} {args : Array Value} {m : Mem} {L : List Item} {l : List Str} (h : TCall P f args m L (TkO m L l)) : TCall P f args m L (TkM m L l):=fun w hw=>(h w hw).mono fun e w' hx=>by
 cases e with
 | returned v =>
  obtain ⟨m',L',h1,h2,s,h3,h4,h5,rfl⟩:=hx
  exact ⟨m',L,h1.sub (List.sublist_cons_self _ _),h2,rfl,s,h3,h4⟩
 | panicked ch=>obtain ⟨_,_,_,hf⟩:=hx;exact hf.elim
 | outgrown=>exact hx
theorem TkO.cast {P : Program} {f : FuncId} {args : Array Value} {m : Mem} {L : List Item} {l l' : List Str} (h : TCall P f args m L (TkO m L l)) (e : l=l') : TCall P f args m L (TkO m L l'):=e ▸ h
def TkCall (a : Tree) : Prop := ∀ (m : Mem) (L : List Item) (h : HTree),TreeRep m h a→TCall Tryz.prog 44 ⟨[treeV h]⟩ m L (TkO m L (rtk a))
attribute [local irreducible] TC TO OT TCallX TCall DO DOt thenQ blockQ retQ At
theorem one_law (m : Mem) (L : List Item) (s : Sl) : TCall Tryz.prog 81 ⟨[s.v]⟩ m L (Ret s.v m L):=by
 unfold TCall
 refine bw Tryz.func81 rfl 4 rfl ?_
 refine uA ?_
 refine bu rfl uS ⟨rfl,rfl, ?_⟩
 rfl
structure RS where
 i : Nat
 m : Mem
 s : Sl
theorem join_law (m : Mem) (L : List Item) (sl : Sl) (ll : List (List Str)) (hs : SlRep (rSS) m sl ll) (hl : ll.flatten.length ≤ 1000000) : TCall Tryz.prog 80 ⟨[sl.v]⟩ m L (TkO m L ll.flatten):=by
 have hlen:=hs.len
 have hsm:=hs.small rfl
 have hcut : ∀ i,(ll.take i).flatten.length + (ll.drop i).flatten.length=ll.flatten.length:=fun i=>by rw [← aa,← List.flatten_append,aV]
 unfold TCall
 refine bw Tryz.func80 rfl 19 rfl ?_
 refine uA ?_
 refine qs rfl (cq tab rStr (hs:=[]) (l:=[]) trivial rfl rfl rfl rfl rfl (by decide) (fun s0 m0 hm0 hs0 ho0 hc0 => ?_))
 refine TO.tokFo hc0 ho0 1 ?_
 refine uA ?_
 refine br (ι:=RS) [0] rfl (fun g=>[(4, .int .i64 (g.i : Int)),(3,g.s.v)]) (fun g=>g.m) (fun g=>tok g.s 1 :: L) (fun g=>m ≤ g.m∧g.i ≤ ll.length∧SlRep rStr g.m g.s (ll.take g.i).flatten∧Own g.s) (fun g=>ll.length - g.i) ⟨0,m0,s0⟩ uH rfl uS ⟨hm0,aU _,hs0,ho0⟩ ?_
 rintro ⟨i,m1,s⟩ ⟨hm1,hi,h1,h2⟩
 simp only at hm1 hi h1 h2
 refine uA ?_
 refine bq rfl (fun h3 => ?_) (fun h3 => ?_)
 ·simp only at h3
  have hlt : i < ll.length:=by omega
  have hxi : ll[i]? = some ll[i]:=ak hlt
  have hs1:=hs.mono hm1
  have hc:=hcut (i + 1)
  have ht : (ll.take (i + 1)).flatten=(ll.take i).flatten++ll[i]:=by rw [aX hlt,List.flatten_append];simp
  rw [ht,aa] at hc
  refine uA ?_
  refine qs rfl (bO tab rSS i hs1 rfl rfl rfl rfl rfl (by first | rfl | omega | (simp only;omega)) rfl hxi ?_)
  rintro b4 i4 y hy hA4
  (refine oL tab hA4 ?_)
  refine uA ?_
  refine qs rfl (bP tab rStr 0 h1 h2 hy rfl rfl rfl rfl rfl rfl rfl (by show _ * 16 ≤ _;omega) (fun s2 m2 hm2 hs2 ho2 => ?_))
  refine uA ?_
  refine qs rfl (bK (r':=((i + 1 : Nat) : Int)) rfl rfl rfl rfl rfl rfl rfl (by omega) ?_)
  refine uA ?_
  refine ⟨⟨i + 1,m2,s2⟩,uH,uH,rfl,rfl,uS,⟨bn hm1 hm2,by simp only;omega,by rw [ht];exact hs2,ho2⟩,by simp only;omega⟩
 ·simp only at h3
  rw [aT (by omega)] at h1
  refine uA ?_
  exact bu rfl uS ⟨hm1,s,rfl,h1,h2,rfl⟩
section
variable {N : Nat} {ops : List Oper} {ρc : Env} {D : List Deferred} {m : Mem} {L : List Item} {Q : EPost} {es : List BEnt} {i d : Nat} {o : Oper} {F : Operand} {args : List Operand} {ats : Array TypeId}
theorem bLit {n : Nat} {t : TypeId} {E : List Str} {ps : List (Nat × Operand)} (ho : ops[i]? = some o:=by rfl) (h1 : o.op = .buildSlice t n ⟨ps⟩:=by rfl) (h2 : o.dst=some d:=by rfl) (h3 : Nat.blt d N=true:=by rfl)
  (h4 : ∀ rest,tab.lit (ρc++rest) t n ps=some (encs rStr E):=by (intro rest;rfl)) (h5 : E.length=n:=by rfl) (h6 : n * rStr.bytes ≤ 140737488355328:=by decide) : BagOp Tryz.prog N ops ρc D m L Q es ⟨i,d,spStrs E,[]⟩ :=
 ⟨o,ho,fun m' hm' rest=>bagPre_nil (cq tab rStr (all_refl2 E) h1 h2 h3 (h4 rest) h5 h6 (fun s m2 hm2 hs _ _=>⟨hm2,rfl,_,rfl,s,rfl,hs⟩))⟩
theorem bOne {j dj : Nat} {dsj : List Nat} {E : List Str} (ho : ops[i]? = some o:=by rfl) (h1 : o.op = .call ⟨.value F,⟨args⟩,ats⟩:=by rfl) (h2 : o.dst=some d:=by rfl) (h3 : Nat.blt d N=true:=by rfl)
  (he : entOf es j=some ⟨j,dj,spStrs E,dsj⟩:=by rfl) (hF : ∀ ρ,ev ρ F=some (.func (.func 81) ⟨[]⟩ ⟨[]⟩):=by (intro;rfl)) (ha : ∀ (s : Sl) rest,evs ((dj,s.v) :: (ρc++rest)) args=some [s.v]:=by (intros;rfl)) :
  BagOp Tryz.prog N ops ρc D m L Q es ⟨i,d,spStrs E,[j]⟩ :=
 ⟨o,ho,fun m' hm' rest=>bagPre_cons he fun v hv=>bagPre_nil (by
  obtain ⟨s,rfl,hs⟩:=hv
  exact bM h1 h2 h3 (hF _) (ha _ _) rfl goes81 ((one_law _ _ s).x (by rintro _ _ _ ⟨rfl,rfl,rfl⟩;exact ⟨bm _,rfl,_,rfl,s,rfl,hs⟩)))⟩
theorem bKid {k : Tree} {y : HTree} (hk : TkCall k) (r : rTree.rep m y k) (ho : ops[i]? = some o:=by rfl) (h1 : o.op = .call ⟨.value F,⟨args⟩,ats⟩:=by rfl) (h2 : o.dst=some d:=by rfl) (h3 : Nat.blt d N=true:=by rfl)
  (hF : ∀ ρ,ev ρ F=some (.func (.func 44) ⟨[]⟩ ⟨[]⟩):=by (intro;rfl)) (ha : ∀ rest,evs (ρc++rest) args=some [treeV y]:=by (intros;rfl)) :
  BagOp Tryz.prog N ops ρc D m L Q es ⟨i,d,spStrs (rtk k),[]⟩ :=
 ⟨o,ho,fun m' hm' rest=>bagPre_nil (bM h1 h2 h3 (hF _) (ha _) rfl goes44 ((TkO.drop (hk _ _ y ((rTree_iff.1 r).mono hm'))).x (by rintro _ m2 _ ⟨hm2,rfl,s,rfl,hs⟩;exact ⟨hm2,rfl,_,rfl,s,rfl,hs⟩)))⟩
theorem bRow {j dj : Nat} {dsj : List Nat} {fn : FuncId} {l : List Tree} {E : List Str} (hg : Goes Tryz.prog fn) (law : ∀ (m : Mem) (L : List Item) (s : Sl),SlRep rTree m s l→TCall Tryz.prog fn ⟨[s.v]⟩ m L (TkO m L E))
  (ho : ops[i]? = some o:=by rfl) (h1 : o.op = .call ⟨.value F,⟨args⟩,ats⟩:=by rfl) (h2 : o.dst=some d:=by rfl) (h3 : Nat.blt d N=true:=by rfl) (he : entOf es j=some ⟨j,dj,spNodes l,dsj⟩:=by rfl)
  (hF : ∀ ρ,ev ρ F=some (.func (.func fn) ⟨[]⟩ ⟨[]⟩):=by (intro;rfl)) (ha : ∀ (s : Sl) rest,evs ((dj,s.v) :: (ρc++rest)) args=some [s.v]:=by (intros;rfl)) :
  BagOp Tryz.prog N ops ρc D m L Q es ⟨i,d,spStrs E,[j]⟩ :=
 ⟨o,ho,fun m' hm' rest=>bagPre_cons he fun v hv=>bagPre_nil (by
  obtain ⟨s0,rfl,hs0⟩:=hv
  exact bM h1 h2 h3 (hF _) (ha _ _) rfl hg ((TkO.drop (law _ _ s0 hs0)).x (by rintro _ m2 _ ⟨hm2,rfl,s,rfl,hs⟩;exact ⟨hm2,rfl,_,rfl,s,rfl,hs⟩)))⟩
theorem bCut {s0 : Sl} {l l' : List Tree} {lo hi : Nat} {x : Operand} {lx hx : Option Operand} {lov hiv : Option Value} {t : TypeId} (hs : SlRep rTree m s0 l) (lo hi : Nat) (hl : (l.take hi).drop lo=l')
  (g1 : (lov=none∧lo=0) ∨ lov=some (.int .i64 (lo : Int))) (g2 : (hiv=none∧hi=s0.len) ∨ hiv=some (.int .i64 (hi : Int))) (hle : lo ≤ hi) (hhi : hi ≤ l.length)
  (ho : ops[i]? = some o:=by rfl) (h1 : o.op = .slice t x lx hx none:=by rfl) (h2 : o.dst=some d:=by rfl) (h3 : Nat.blt d N=true:=by rfl)
  (e1 : ∀ rest,ev (ρc++rest) x=some s0.v:=by (intros;rfl)) (e2 : ∀ rest,evO (ρc++rest) lx=some lov:=by (intros;rfl)) (e3 : ∀ rest,evO (ρc++rest) hx=some hiv:=by (intros;rfl)) (hsz : tab.esize t=some rTree.size:=by rfl) :
  BagOp Tryz.prog N ops ρc D m L Q es ⟨i,d,spNodes l',[]⟩ :=
 ⟨o,ho,fun m' hm' rest=>bagPre_nil (OT.cut tab rTree lo hi (hs.mono hm') h1 h2 h3 (e1 _) (e2 _) (e3 _) hsz g1 g2 hle hhi (fun s hs=>⟨bm _,rfl,_,rfl,s,rfl,hl ▸ hs⟩))⟩
theorem bLL {hs : List Sl} {n : Nat} {t : TypeId} {E : List (List Str)} {ps : List (Nat × Operand)} {ρ' : Env} {m' : Mem} (hr : All2 (rSS.rep m') hs E) (h1 : o.op = .buildSlice t n ⟨ps⟩:=by rfl) (h2 : o.dst=some d:=by rfl) (h3 : Nat.blt d N=true:=by rfl)
  (h4 : tab.lit ρ' t n ps=some (encs rSS hs):=by rfl) (h5 : E.length=n:=by rfl) (h6 : n * rSS.bytes ≤ 140737488355328:=by decide) :
  OT Tryz.prog N o ρ' D m' L Q (fun ρ'' m'' L''=>m' ≤ m'' ∧ L=L'' ∧ ∃ v, ρ'' = (d,v) :: ρ' ∧ (spStrss E).p v m'') :=
 cq tab rSS hr h1 h2 h3 h4 h5 h6 (fun s m2 hm2 hs _ _=>⟨hm2,rfl,_,rfl,s,rfl,hs⟩)
end
theorem comma_bound (l : List (List Ps.Tk)) (i : Nat) : (commaJ (l.take i)).length ≤ (commaJ l).length:=by
 by_cases h : i < l.length
 ·by_cases h0 : i=0
  ·subst h0;simp [commaJ]
  ·have:=comma_app (l.take i) (l.drop i) (by intro e;have:=congrArg List.length e;rw [aL,ae] at this;omega) (by intro e;have:=congrArg List.length e;rw [aM,ae] at this;omega)
   rw [aV] at this
   rw [this,aa];omega
 ·rw [aT (by omega)];exact av _
theorem row_law (ks : List Tree) (hk : ∀ t ∈ ks,TkCall t) (m : Mem) (L : List Item) (sl : Sl) (hs : SlRep rTree m sl ks) (hl : (commaJ (ks.map Pt.toks)).length ≤ 1000000) :
  TCall Tryz.prog 82 ⟨[sl.v]⟩ m L (TkO m L ((commaJ (ks.map Pt.toks)).map txt)):=by
 have hlen:=hs.len
 have hsm:=hs.small rfl
 unfold TCall
 refine bw Tryz.func82 rfl 25 rfl ?_
 refine uA ?_
 refine qs rfl (cq tab rStr (hs:=[]) (l:=[]) trivial rfl rfl rfl rfl rfl (by decide) (fun s0 m0 hm0 hs0 ho0 hc0 => ?_))
 refine TO.tokFo hc0 ho0 1 ?_
 refine uA ?_
 refine br (ι:=RS) [0] rfl (fun g=>[(4, .int .i64 (g.i : Int)),(3,g.s.v)]) (fun g=>g.m) (fun g=>tok g.s 1 :: L) (fun g=>m ≤ g.m∧g.i ≤ ks.length∧SlRep rStr g.m g.s ((commaJ ((ks.take g.i).map Pt.toks)).map txt)∧Own g.s) (fun g=>ks.length - g.i) ⟨0,m0,s0⟩ uH rfl uS ⟨hm0,aU _,hs0,ho0⟩ ?_
 rintro ⟨i,m1,s⟩ ⟨hm1,hi,h1,h2⟩
 simp only at hm1 hi h1 h2
 refine uA ?_
 refine bq rfl (fun h3 => ?_) (fun h3 => ?_)
 ·simp only at h3
  have hlt : i < ks.length:=by omega
  have hxi : ks[i]? = some ks[i]:=ak hlt
  have hbd:=comma_bound (ks.map Pt.toks) (i + 1)
  rw [← List.map_take] at hbd
  have hkc:=hk ks[i] (aB hlt)
  refine uA ?_
  refine bq rfl (fun h4 => ?_) (fun h4 => ?_)
  ·simp only at h4
   have htk : commaJ ((ks.take (i + 1)).map Pt.toks)=commaJ ((ks.take i).map Pt.toks)++Pt.mk [44] :: Pt.toks ks[i]:=by
    rw [aX hlt,aZ]
    exact comma_snoc _ _ (by simp;exact ⟨by omega,fun e=>by rw [e] at hlt;simp at hlt⟩)
   have hlt2:=congrArg List.length htk
   rw [aa,ab] at hlt2
   have hrl:=cE ks[i]
   have hml : ((commaJ ((ks.take i).map Pt.toks)).map txt).length=_:=aD _
   refine uA ?_
   refine qs rfl (cq tab rStr (hs:=[[44]]) (l:=[[44]]) ⟨rfl,trivial⟩ rfl rfl rfl rfl rfl (by decide) (fun s2 m2 hm2 hs2 _ _ => ?_))
   refine uA ?_
   refine qs rfl (bP tab rStr 0 (h1.mono hm2) h2 hs2 rfl rfl rfl rfl rfl rfl rfl (by show (_ + 1) * 16 ≤ _;omega) (fun s3 m3 hm3 hs3 ho3 => ?_))
   have hm13:=bn hm1 (bn hm2 hm3)
   have hs1:=hs.mono hm13
   refine uA ?_
   refine qs rfl (bO tab rTree i hs1 rfl rfl rfl rfl rfl (by first | rfl | omega | (simp only;omega)) rfl hxi ?_)
   rintro b4 i4 y hy hA4
   (refine oL tab hA4 ?_)
   refine uA ?_
   refine oC goes44 ((TkO.drop (hkc _ _ y (rTree_iff.1 hy))).x ?_);
   rintro _ m4 _ ⟨hm4,rfl,s4,rfl,hs4⟩
   refine uA ?_
   refine qs rfl (bP tab rStr 0 (hs3.mono hm4) ho3 hs4 rfl rfl rfl rfl rfl rfl rfl (by rw [aa,ab,ae];show _ * 16 ≤ _;omega) (fun s5 m5 hm5 hs5 ho5 => ?_))
   refine uA ?_
   refine qs rfl (bK (r':=((i + 1 : Nat) : Int)) rfl rfl rfl rfl rfl rfl rfl (by omega) ?_)
   refine uA ?_
   refine ⟨⟨i + 1,m5,s5⟩,uH,uH,rfl,rfl,uS,⟨bn hm13 (bn hm4 hm5),by simp only;omega, ?_,ho5⟩,by simp only;omega⟩
   rw [htk,aZ,ax]
   rw [am] at hs5
   exact hs5
  ·simp only at h4
   have hi0 : i=0:=by omega
   subst hi0
   have htk : commaJ ((ks.take (0 + 1)).map Pt.toks)=Pt.toks ks[0]:=by
    rw [aX hlt];rfl
   have hlt2:=congrArg List.length htk
   have hrl:=cE ks[0]
   have hs1:=hs.mono hm1
   refine uA ?_
   refine qs rfl (bO tab rTree 0 hs1 rfl rfl rfl rfl rfl (by first | rfl | omega | (simp only;omega)) rfl hxi ?_)
   rintro b4 i4 y hy hA4
   (refine oL tab hA4 ?_)
   refine uA ?_
   refine oC goes44 ((TkO.drop (hkc _ _ y (rTree_iff.1 hy))).x ?_);
   rintro _ m4 _ ⟨hm4,rfl,s4,rfl,hs4⟩
   refine uA ?_
   refine qs rfl (bP tab rStr 0 (h1.mono hm4) h2 hs4 rfl rfl rfl rfl rfl rfl rfl (by simp only [List.take_zero,ay,commaJ,ae];show (0 + _) * 16 ≤ _;omega) (fun s5 m5 hm5 hs5 ho5 => ?_))
   refine uA ?_
   refine qs rfl (bK (r':=((0 + 1 : Nat) : Int)) rfl rfl rfl rfl rfl rfl rfl (by omega) ?_)
   refine uA ?_
   refine ⟨⟨0 + 1,m5,s5⟩,uH,uH,rfl,rfl,uS,⟨bn hm1 (bn hm4 hm5),by simp only;omega, ?_,ho5⟩,by simp only;omega⟩
   rw [htk]
   exact hs5
 ·simp only at h3
  rw [aT (by omega)] at h1
  refine uA ?_
  exact bu rfl uS ⟨hm1,s,rfl,h1,h2,rfl⟩
theorem results_law (ks : List Tree) (hk : ∀ t ∈ ks,TkCall t) (m : Mem) (L : List Item) (sl : Sl) (hs : SlRep rTree m sl ks) (hl : (resJ (ks.map Pt.toks)).length ≤ 1000000) :
  TCall Tryz.prog 83 ⟨[sl.v]⟩ m L (TkO m L ((resJ (ks.map Pt.toks)).map txt)):=by
 have hlen:=hs.len
 have hsm:=hs.small rfl
 have hlc : (commaJ (ks.map Pt.toks)).length ≤ (resJ (ks.map Pt.toks)).length:=by
  unfold resJ
  split
  ·exact av _
  ·simp;omega
 unfold TCall
 refine bw Tryz.func83 rfl 16 rfl ?_
 refine uA ?_
 refine bq rfl (fun h1 => ?_) (fun h1 => ?_)
 ·refine uA ?_
  refine oC goes82 ((row_law ks hk _ _ sl hs (by omega)).x ?_);
  rintro _ m1 _ ⟨hm1,s,rfl,hs1,ho1,rfl⟩
  refine uA ?_
  refine bu rfl (L':=tok s 1 :: L) uS ⟨hm1,s,rfl, ?_,ho1,rfl⟩
  have e : resJ (ks.map Pt.toks)=commaJ (ks.map Pt.toks):=by unfold resJ;rw [if_pos (by rw [aD];omega)]
  rw [e];exact hs1
 ·have e : resJ (ks.map Pt.toks)=Pt.mk [40] :: (commaJ (ks.map Pt.toks)++[Pt.mk [41]]):=by unfold resJ;rw [if_neg (by rw [aD];omega)]
  have hle:=congrArg List.length e
  rw [ab,aa,ab,ae] at hle
  have hml : ((commaJ (ks.map Pt.toks)).map txt).length=_:=aD _
  refine uA ?_
  refine qs rfl (cq tab rStr (hs:=[[40]]) (l:=[[40]]) ⟨rfl,trivial⟩ rfl rfl rfl rfl rfl (by decide) (fun s0 m0 hm0 hs0 ho0 hc0 => ?_))
  refine TO.tokFo hc0 ho0 1 ?_
  refine uA ?_
  refine oC goes82 ((TkO.drop (row_law ks hk _ _ sl (hs.mono hm0) (by omega))).x ?_);
  rintro _ m1 _ ⟨hm1,rfl,s1,rfl,hs1⟩
  refine uA ?_
  refine qs rfl (bP tab rStr 0 (hs0.mono hm1) ho0 hs1 rfl rfl rfl rfl rfl rfl rfl (by show (1 + _) * 16 ≤ _;omega) (fun s2 m2 hm2 hs2 ho2 => ?_))
  refine uA ?_
  refine qs rfl (cq tab rStr (hs:=[[41]]) (l:=[[41]]) ⟨rfl,trivial⟩ rfl rfl rfl rfl rfl (by decide) (fun s3 m3 hm3 hs3 _ _ => ?_))
  refine uA ?_
  refine qs rfl (bP tab rStr 0 (hs2.mono hm3) ho2 hs3 rfl rfl rfl rfl rfl rfl rfl (by rw [aa];show (1 + _ + 1) * 16 ≤ _;omega) (fun s4 m4 hm4 hs4 ho4 => ?_))
  refine uA ?_
  refine bu rfl (L':=tok s4 1 :: L) uS ⟨bn hm0 (bn hm1 (bn hm2 (bn hm3 hm4))),s4,rfl, ?_,ho4,rfl⟩
  rw [e,ax,aZ]
  exact hs4
def allJ (ks : List Tree) (e : Bool) : List Str:=(ks.map fun t=>rtk t++(if e=true then [[59]] else [])).flatten
theorem allJ_t (ks : List Tree) : allJ ks true=(semis (ks.map Pt.toks)).map txt:=by
 unfold allJ semis
 rw [List.map_map,List.map_flatten,List.map_map]
 congr 1
 refine List.map_congr_left fun t _ => ?_
 simp [rtk,txt]
theorem allJ_f (ks : List Tree) : allJ ks false=((ks.map Pt.toks).flatten).map txt:=by
 unfold allJ
 rw [List.map_flatten,List.map_map]
 congr 1
 refine List.map_congr_left fun t _ => ?_
 simp [rtk]
theorem allJ_cut (ks : List Tree) (e : Bool) (i : Nat) : (allJ (ks.take i) e).length ≤ (allJ ks e).length:=by
 have : allJ ks e=allJ (ks.take i) e++allJ (ks.drop i) e:=by
  unfold allJ
  rw [← List.flatten_append,← aZ,aV]
 rw [this,aa];omega
theorem all_ref (ks : List Tree) (hk : ∀ t ∈ ks,TkCall t) (e : Bool) (m : Mem) (L : List Item) (sl : Sl) (hs : SlRep rTree m sl ks) (hl : (allJ ks e).length ≤ 1000000) :
  TCall Tryz.prog 79 ⟨[sl.v, .bool e]⟩ m L (TkO m L (allJ ks e)):=by
 have hlen:=hs.len
 have hsm:=hs.small rfl
 unfold TCall
 refine bw Tryz.func79 rfl 26 rfl ?_
 refine uA ?_
 refine qs rfl (cq tab rStr (hs:=[]) (l:=[]) trivial rfl rfl rfl rfl rfl (by decide) (fun s0 m0 hm0 hs0 ho0 hc0 => ?_))
 refine TO.tokFo hc0 ho0 1 ?_
 refine uA ?_
 refine br (ι:=RS) [0,1] rfl (fun g=>[(6, .int .i64 (g.i : Int)),(5,g.s.v)]) (fun g=>g.m) (fun g=>tok g.s 1 :: L) (fun g=>m ≤ g.m∧g.i ≤ ks.length∧SlRep rStr g.m g.s (allJ (ks.take g.i) e)∧Own g.s) (fun g=>ks.length - g.i) ⟨0,m0,s0⟩ uH rfl uS ⟨hm0,aU _,hs0,ho0⟩ ?_
 rintro ⟨i,m1,s⟩ ⟨hm1,hi,h1,h2⟩
 simp only at hm1 hi h1 h2
 refine uA ?_
 refine bq rfl (fun h3 => ?_) (fun h3 => ?_)
 ·simp only at h3
  have hlt : i < ks.length:=by omega
  have hxi : ks[i]? = some ks[i]:=ak hlt
  have hbd:=allJ_cut ks e (i + 1)
  have hkc:=hk ks[i] (aB hlt)
  have hs1:=hs.mono hm1
  have htk : allJ (ks.take (i + 1)) e=allJ (ks.take i) e++(rtk ks[i]++(if e=true then [[59]] else [])):=by
   unfold allJ
   rw [aX hlt,aZ,List.flatten_append];simp
  have hlt2:=congrArg List.length htk
  rw [aa,aa] at hlt2
  refine uA ?_
  refine qs rfl (bO tab rTree i hs1 rfl rfl rfl rfl rfl (by first | rfl | omega | (simp only;omega)) rfl hxi ?_)
  rintro b4 i4 y hy hA4
  (refine oL tab hA4 ?_)
  refine uA ?_
  refine oC goes44 ((TkO.drop (hkc _ _ y (rTree_iff.1 hy))).x ?_);
  rintro _ m4 _ ⟨hm4,rfl,s4,rfl,hs4⟩
  refine uA ?_
  refine qs rfl (bP tab rStr 0 (h1.mono hm4) h2 hs4 rfl rfl rfl rfl rfl rfl rfl (by show _ * 16 ≤ _;omega) (fun s5 m5 hm5 hs5 ho5 => ?_))
  have hm15:=bn hm1 (bn hm4 hm5)
  refine uA ?_
  cases e with
  | true =>
   rw [if_pos rfl] at htk hlt2
   refine uA ?_
   refine qs rfl (cq tab rStr (hs:=[[59]]) (l:=[[59]]) ⟨rfl,trivial⟩ rfl rfl rfl rfl rfl (by decide) (fun s6 m6 hm6 hs6 _ _ => ?_))
   refine uA ?_
   refine qs rfl (bP tab rStr 0 (hs5.mono hm6) ho5 hs6 rfl rfl rfl rfl rfl rfl rfl (by rw [aa];simp only [ab,ae] at hlt2;show (_ + 1) * 16 ≤ _;omega) (fun s7 m7 hm7 hs7 ho7 => ?_))
   refine uA ?_
   refine qs rfl (bK (r':=((i + 1 : Nat) : Int)) rfl rfl rfl rfl rfl rfl rfl (by omega) ?_)
   refine uA ?_
   refine ⟨⟨i + 1,m7,s7⟩,uH,uH,rfl,rfl,uS,⟨bn hm15 (bn hm6 hm7),by simp only;omega, ?_,ho7⟩,by simp only;omega⟩
   rw [htk,← am]
   exact hs7
  | false =>
   rw [if_neg (by decide)] at htk hlt2
   refine uA ?_
   refine qs rfl (bK (r':=((i + 1 : Nat) : Int)) rfl rfl rfl rfl rfl rfl rfl (by omega) ?_)
   refine uA ?_
   refine ⟨⟨i + 1,m5,s5⟩,uH,uH,rfl,rfl,uS,⟨hm15,by simp only;omega, ?_,ho5⟩,by simp only;omega⟩
   rw [htk,aQ]
   exact hs5
 ·simp only at h3
  rw [aT (by omega)] at h1
  refine uA ?_
  exact bu rfl uS ⟨hm1,s,rfl,h1,h2,rfl⟩
end Go.Sep
namespace Go
abbrev cF := @Sep.bagPre_nil
abbrev cG := @Sep.bagPre_cons
abbrev cH := @Sep.one_law
abbrev cI := @Sep.join_law
abbrev cJ := @Sep.allJ_t
abbrev cK := @Sep.allJ_f
end Go

/- PtRefN -/
namespace Go.Sep
open Go.Proofs Go.Pt
attribute [local irreducible] TC TO OT TCallX TCall DO DOt thenQ blockQ retQ At
theorem digF_fuel : ∀ (f g n : Nat),n < 10 ^ f→n < 10 ^ g→1 ≤ f→1 ≤ g→digF f n=digF g n
 | 0,_,_,_,_,h,_=>by omega
 | _ + 1,0,_,_,_,_,h=>by omega
 | f + 1,g + 1,n,h1,h2,_,_=>by
  unfold digF
  by_cases h : n < 10
  ·rw [if_pos h,if_pos h]
  ·rw [if_neg h,if_neg h]
   rw [Nat.pow_succ] at h1 h2
   have hf : 1 ≤ f:=by
    rcases Nat.eq_zero_or_pos f with rfl | h3
    ·simp at h1;omega
    ·exact h3
   have hg : 1 ≤ g:=by
    rcases Nat.eq_zero_or_pos g with rfl | h3
    ·simp at h2;omega
    ·exact h3
   rw [digF_fuel f g (n / 10) (by omega) (by omega) hf hg]
theorem digN_step {n : Nat} (h : n < 18446744073709551616) : digN n=(if n < 10 then [] else digN (n / 10))++[UInt8.ofNat (48 + n % 10)]:=by
 unfold digN
 conv=>lhs;unfold digF
 by_cases h1 : n < 10
 ·rw [if_pos h1,if_pos h1,aA,show n % 10=n by omega]
 ·rw [if_neg h1,if_neg h1,digF_fuel 19 20 (n / 10) (by omega) (by omega) (by decide) (by decide)]
structure DcS where
 m : Mem
 s : Str
 k : Nat
 f : Bool
theorem dc_wrap {k : Nat} (h : k < 18446744073709551616) : IntKind.u64.wrap (k : Int)=(k : Int):=u64_in (by omega) (by omega)
theorem digF_len : ∀ (f n : Nat),(digF f n).length ≤ f
 | 0,n=>by simp [digF]
 | f + 1,n=>by
  have:=digF_len f (n / 10)
  unfold digF
  split
  ·simp
  ·rw [aa,List.length_singleton];omega
theorem decimal_law (m : Mem) (L : List Item) (u : Int) (h0 : 0 ≤ u) (h1 : u < 9223372036854775808) : TCall Tryz.prog 128 ⟨[.int .i64 u]⟩ m L (Ret (strV (digN u.toNat)) m L):=by
 refine cg ?_
 obtain ⟨n,rfl⟩ : ∃ n : Nat,u=(n : Int):=⟨u.toNat,by omega⟩
 rw [aC]
 unfold TCall
 refine bw Tryz.func128 rfl 32 rfl ?_
 refine uA ?_
 refine qs rfl (OT.conv tab rfl rfl rfl rfl rfl rfl (r:=(n : Int)) (dc_wrap (by omega)) ?_)
 refine uA ?_
 refine br (ι:=DcS) [0] rfl (fun x=>[(3, .int .u64 (x.k : Int)),(4,strV x.s),(5, .bool x.f)]) (fun x=>x.m) (fun _=>L) (fun x=>m ≤ x.m∧x.k ≤ n∧digN n=(if x.f=true ∨ 0 < x.k then digN x.k else [])++x.s) (fun x=>x.k + if x.f=true then 1 else 0) ⟨m,[],n,true⟩ uH rfl uS ⟨bm _,av _,by simp⟩ ?_
 rintro ⟨m1,s,k,f⟩ ⟨hm,hk,hI⟩
 simp only at hm hk hI
 have hsl : s.length ≤ 20:=by
  have h2:=congrArg List.length hI
  have h3:=digF_len 20 n
  rw [aa] at h2
  unfold digN at h2
  omega
 cases f with
 | true =>
  refine uA ?_
  refine qs rfl (OT.remK rfl rfl rfl rfl rfl (by decide) (r:=((k % 10 : Nat) : Int)) rfl ?_)
  refine qs rfl (cj (r':=((48 + k % 10 : Nat) : Int)) rfl rfl rfl rfl rfl rfl (dc_wrap (k:=48 + k % 10) (by omega)) ?_)
  refine qs rfl (OT.conv tab rfl rfl rfl rfl rfl rfl (r:=((UInt8.ofNat (48 + k % 10)).toNat : Int)) (by rw [dig_lt,u8_in (by omega) (by omega)]) ?_)
  refine qs rfl (cd tab rfl rfl rfl rfl (fun b => ?_))
  refine cc fun m2 hm2 hA => ?_
  refine qs rfl (OT.bytesStr tab (s:=⟨some ⟨b,0,none⟩,1,1⟩) (bs:=[UInt8.ofNat (48 + k % 10)]) rfl rfl rfl rfl rfl rfl rfl (cp (bs:=[UInt8.ofNat (48 + k % 10)]) hA rfl (by decide)) (by simp) ?_)
  refine uA ?_
  refine qs rfl (OT.concat (s:=[UInt8.ofNat (48 + k % 10)]) (u:=s) rfl rfl rfl rfl rfl (by simp only [ab,ae];omega) ?_)
  refine uA ?_
  refine qs rfl (OT.quoK rfl rfl rfl rfl rfl (by decide) (r:=((k / 10 : Nat) : Int)) (dc_wrap (k:=k / 10) (by omega)) ?_)
  refine uA ?_
  refine ⟨⟨m2,UInt8.ofNat (48 + k % 10) :: s,k / 10,false⟩,uH,uH,rfl,rfl,uS,⟨bn hm hm2,by show k / 10 ≤ n;omega, ?_⟩, ?_⟩
  ·show digN n=(if false=true ∨ 0 < k / 10 then digN (k / 10) else [])++(UInt8.ofNat (48 + k % 10) :: s)
   rw [hI,if_pos (.inl rfl),digN_step (by omega),am]
   congr 1
   by_cases h10 : k < 10
   ·rw [if_pos h10,if_neg (by simp;omega)]
   ·rw [if_neg h10,if_pos (.inr (by omega))]
  ·show k / 10 + (if false=true then 1 else 0) < k + (if true=true then 1 else 0)
   (rw [if_neg (by decide),if_pos rfl];omega)
 | false =>
  refine uA ?_
  refine bq rfl (fun c1 => ?_) (fun c1 => ?_)
  ·simp only at c1
   refine uA ?_
   refine qs rfl (OT.remK rfl rfl rfl rfl rfl (by decide) (r:=((k % 10 : Nat) : Int)) rfl ?_)
   refine qs rfl (cj (r':=((48 + k % 10 : Nat) : Int)) rfl rfl rfl rfl rfl rfl (dc_wrap (k:=48 + k % 10) (by omega)) ?_)
   refine qs rfl (OT.conv tab rfl rfl rfl rfl rfl rfl (r:=((UInt8.ofNat (48 + k % 10)).toNat : Int)) (by rw [dig_lt,u8_in (by omega) (by omega)]) ?_)
   refine qs rfl (cd tab rfl rfl rfl rfl (fun b => ?_))
   refine cc fun m2 hm2 hA => ?_
   refine qs rfl (OT.bytesStr tab (s:=⟨some ⟨b,0,none⟩,1,1⟩) (bs:=[UInt8.ofNat (48 + k % 10)]) rfl rfl rfl rfl rfl rfl rfl (cp (bs:=[UInt8.ofNat (48 + k % 10)]) hA rfl (by decide)) (by simp) ?_)
   refine uA ?_
   refine qs rfl (OT.concat (s:=[UInt8.ofNat (48 + k % 10)]) (u:=s) rfl rfl rfl rfl rfl (by simp only [ab,ae];omega) ?_)
   refine uA ?_
   refine qs rfl (OT.quoK rfl rfl rfl rfl rfl (by decide) (r:=((k / 10 : Nat) : Int)) (dc_wrap (k:=k / 10) (by omega)) ?_)
   refine uA ?_
   refine ⟨⟨m2,UInt8.ofNat (48 + k % 10) :: s,k / 10,false⟩,uH,uH,rfl,rfl,uS,⟨bn hm hm2,by show k / 10 ≤ n;omega, ?_⟩, ?_⟩
   ·show digN n=(if false=true ∨ 0 < k / 10 then digN (k / 10) else [])++(UInt8.ofNat (48 + k % 10) :: s)
    rw [hI,if_pos (.inr (by omega)),digN_step (by omega),am]
    congr 1
    by_cases h10 : k < 10
    ·rw [if_pos h10,if_neg (by simp;omega)]
    ·rw [if_neg h10,if_pos (.inr (by omega))]
   ·show k / 10 + (if false=true then 1 else 0) < k + (if false=true then 1 else 0)
    (rw [if_neg (by decide)];omega)
  ·simp only at c1
   have hk0 : k=0:=by omega
   rw [if_neg (by simp;omega),aA] at hI
   refine uA ?_
   refine bu rfl uS ⟨hm,rfl, ?_⟩
   rw [hI]
end Go.Sep


/- PtRefE -/
namespace Go.Sep
open Go.Proofs Go.Pt
attribute [local irreducible] TC TO OT TCallX TCall DO DOt thenQ blockQ retQ At
theorem ex_40 (n0 : Str) (u0 : Int) (ks : List Tree) (hok : OkK 40 u0 ks.length n0.length) (hk : ∀ t ∈ ks,TkCall t) (hl : (Pt.toks (.mk 40 n0 u0 ks)).length ≤ 1000000) (hu2 : u0 < 9223372036854775808) (m : Mem) (L : List Item) (h : HTree) (hr : TreeRep m h (.mk 40 n0 u0 ks)) :
  TCall Tryz.prog 85 ⟨[treeV h]⟩ m L (TkO m L (rtk (.mk 40 n0 u0 ks))):=by
 obtain ⟨-,k1,k2,k3,k4,k5,k6,k7⟩:=hok
 obtain ⟨hkd,hn,hu,hks⟩:=h
 obtain ⟨h1,h2,h3,h4⟩:=hr
 simp only [Tree.kind,Tree.name,Tree.num,Tree.kids] at h1 h2 h3 h4
 replace h2:=h2.symm
 replace h3:=h3.symm
 subst h1 h2 h3
 have hlen:=h4.len
 have hsm:=h4.small rfl
 have hm:=bm m
 have et : Pt.toks (.mk 40 n0 u0 ks)=[⟨2,[],u0⟩]:=by rw [toks_eq];rfl
 have hl2:=hl
 rw [et] at hl2
 try simp only [aa,ab,ae] at hl2
 unfold TCall
 refine bw Tryz.func85 rfl 201 rfl ?_
 refine uA ?_
 refine oB (fun b => ?_)
 refine uL ?_
 refine oC goes128 ((decimal_law _ _ u0 (k6 rfl) hu2).x ?_);
 rintro _ _ _ ⟨rfl,rfl,rfl⟩
 refine uL ?_
 refine qs rfl (cq tab rStr (hs:=[(digN u0.toNat)]) (l:=[(digN u0.toNat)]) ⟨rfl,trivial⟩ rfl rfl rfl rfl rfl (by decide) (fun s1 ma hma hs1 ho1 hc1 => ?_))
 replace hm:=bn hm hma
 replace h4:=h4.mono hma
 refine uL ?_
 refine oC goes81 ((cH _ _ s1).x ?_);
 rintro _ _ _ ⟨rfl,rfl,rfl⟩
 refine TO.tokFo hc1 ho1 1 ?_
 refine uL ?_
 refine bu rfl (L':=tok s1 1 :: L) uS ⟨hm,s1,rfl, ?_,ho1,rfl⟩
 rw [rtk,et]
 simpa [rtk,txt] using hs1
theorem ex_41 (n0 : Str) (u0 : Int) (ks : List Tree) (hok : OkK 41 u0 ks.length n0.length) (hk : ∀ t ∈ ks,TkCall t) (hl : (Pt.toks (.mk 41 n0 u0 ks)).length ≤ 1000000) (m : Mem) (L : List Item) (h : HTree) (hr : TreeRep m h (.mk 41 n0 u0 ks)) :
  TCall Tryz.prog 85 ⟨[treeV h]⟩ m L (TkO m L (rtk (.mk 41 n0 u0 ks))):=by
 obtain ⟨-,k1,k2,k3,k4,k5,k6,k7⟩:=hok
 obtain ⟨hkd,hn,hu,hks⟩:=h
 obtain ⟨h1,h2,h3,h4⟩:=hr
 simp only [Tree.kind,Tree.name,Tree.num,Tree.kids] at h1 h2 h3 h4
 replace h2:=h2.symm
 replace h3:=h3.symm
 subst h1 h2 h3
 have hlen:=h4.len
 have hsm:=h4.small rfl
 have hm:=bm m
 have et : Pt.toks (.mk 41 n0 u0 ks)=[⟨3,n0,0⟩]:=by rw [toks_eq];rfl
 have hl2:=hl
 rw [et] at hl2
 try simp only [aa,ab,ae] at hl2
 unfold TCall
 refine bw Tryz.func85 rfl 201 rfl ?_
 refine uA ?_
 refine oB (fun b => ?_)
 refine uL ?_
 refine oC goes129 ((quote_ref _ _ n0 (by have:=k7 rfl;omega)).x ?_);
 rintro _ _ _ ⟨rfl,rfl,rfl⟩
 refine uL ?_
 refine qs rfl (cq tab rStr (hs:=[(quoteD n0)]) (l:=[(quoteD n0)]) ⟨rfl,trivial⟩ rfl rfl rfl rfl rfl (by decide) (fun s1 ma hma hs1 ho1 hc1 => ?_))
 replace hm:=bn hm hma
 replace h4:=h4.mono hma
 refine uL ?_
 refine oC goes81 ((cH _ _ s1).x ?_);
 rintro _ _ _ ⟨rfl,rfl,rfl⟩
 refine TO.tokFo hc1 ho1 1 ?_
 refine uL ?_
 refine bu rfl (L':=tok s1 1 :: L) uS ⟨hm,s1,rfl, ?_,ho1,rfl⟩
 rw [rtk,et]
 simpa [rtk,txt] using hs1
theorem ex_42 (n0 : Str) (u0 : Int) (ks : List Tree) (hok : OkK 42 u0 ks.length n0.length) (hk : ∀ t ∈ ks,TkCall t) (hl : (Pt.toks (.mk 42 n0 u0 ks)).length ≤ 1000000) (m : Mem) (L : List Item) (h : HTree) (hr : TreeRep m h (.mk 42 n0 u0 ks)) :
  TCall Tryz.prog 85 ⟨[treeV h]⟩ m L (TkO m L (rtk (.mk 42 n0 u0 ks))):=by
 obtain ⟨-,k1,k2,k3,k4,k5,k6,k7⟩:=hok
 obtain ⟨hkd,hn,hu,hks⟩:=h
 obtain ⟨h1,h2,h3,h4⟩:=hr
 simp only [Tree.kind,Tree.name,Tree.num,Tree.kids] at h1 h2 h3 h4
 replace h2:=h2.symm
 replace h3:=h3.symm
 subst h1 h2 h3
 have hlen:=h4.len
 have hsm:=h4.small rfl
 have hm:=bm m
 have et : Pt.toks (.mk 42 n0 u0 ks)=(if u0=1 then [wd [116,114,117,101]] else [wd [102,97,108,115,101]]):=by rw [toks_eq];rfl
 have hl2:=hl
 rw [et] at hl2
 try simp only [aa,ab,ae] at hl2
 clear hl2
 unfold TCall
 refine bw Tryz.func85 rfl 201 rfl ?_
 refine uA ?_
 refine oB (fun b => ?_)
 refine uL ?_
 refine bq rfl (fun c1 => ?_) (fun c1 => ?_)
 ·rw [if_pos c1] at et
  refine uL ?_
  refine qs rfl (cq tab rStr (hs:=[([116,114,117,101] : Str)]) (l:=[([116,114,117,101] : Str)]) ⟨rfl,trivial⟩ rfl rfl rfl rfl rfl (by decide) (fun s1 ma hma hs1 ho1 hc1 => ?_))
  replace hm:=bn hm hma
  replace h4:=h4.mono hma
  refine uL ?_
  refine oC goes81 ((cH _ _ s1).x ?_);
  rintro _ _ _ ⟨rfl,rfl,rfl⟩
  refine TO.tokFo hc1 ho1 1 ?_
  refine uL ?_
  refine bu rfl (L':=tok s1 1 :: L) uS ⟨hm,s1,rfl, ?_,ho1,rfl⟩
  rw [rtk,et]
  simpa [rtk,txt] using hs1
 ·rw [if_neg c1] at et
  refine uL ?_
  refine qs rfl (cq tab rStr (hs:=[([102,97,108,115,101] : Str)]) (l:=[([102,97,108,115,101] : Str)]) ⟨rfl,trivial⟩ rfl rfl rfl rfl rfl (by decide) (fun s1 ma hma hs1 ho1 hc1 => ?_))
  replace hm:=bn hm hma
  replace h4:=h4.mono hma
  refine uL ?_
  refine oC goes81 ((cH _ _ s1).x ?_);
  rintro _ _ _ ⟨rfl,rfl,rfl⟩
  refine TO.tokFo hc1 ho1 1 ?_
  refine uL ?_
  refine bu rfl (L':=tok s1 1 :: L) uS ⟨hm,s1,rfl, ?_,ho1,rfl⟩
  rw [rtk,et]
  simpa [rtk,txt] using hs1
theorem ex_43 (n0 : Str) (u0 : Int) (ks : List Tree) (hok : OkK 43 u0 ks.length n0.length) (hk : ∀ t ∈ ks,TkCall t) (hl : (Pt.toks (.mk 43 n0 u0 ks)).length ≤ 1000000) (m : Mem) (L : List Item) (h : HTree) (hr : TreeRep m h (.mk 43 n0 u0 ks)) :
  TCall Tryz.prog 85 ⟨[treeV h]⟩ m L (TkO m L (rtk (.mk 43 n0 u0 ks))):=by
 obtain ⟨-,k1,k2,k3,k4,k5,k6,k7⟩:=hok
 obtain ⟨hkd,hn,hu,hks⟩:=h
 obtain ⟨h1,h2,h3,h4⟩:=hr
 simp only [Tree.kind,Tree.name,Tree.num,Tree.kids] at h1 h2 h3 h4
 replace h2:=h2.symm
 replace h3:=h3.symm
 subst h1 h2 h3
 have hlen:=h4.len
 have hsm:=h4.small rfl
 have hm:=bm m
 have et : Pt.toks (.mk 43 n0 u0 ks)=[wd [110,105,108]]:=by rw [toks_eq];rfl
 have hl2:=hl
 rw [et] at hl2
 try simp only [aa,ab,ae] at hl2
 unfold TCall
 refine bw Tryz.func85 rfl 201 rfl ?_
 refine uA ?_
 refine oB (fun b => ?_)
 refine uL ?_
 refine qs rfl (cq tab rStr (hs:=[([110,105,108] : Str)]) (l:=[([110,105,108] : Str)]) ⟨rfl,trivial⟩ rfl rfl rfl rfl rfl (by decide) (fun s1 ma hma hs1 ho1 hc1 => ?_))
 replace hm:=bn hm hma
 replace h4:=h4.mono hma
 refine uL ?_
 refine oC goes81 ((cH _ _ s1).x ?_);
 rintro _ _ _ ⟨rfl,rfl,rfl⟩
 refine TO.tokFo hc1 ho1 1 ?_
 refine uL ?_
 refine bu rfl (L':=tok s1 1 :: L) uS ⟨hm,s1,rfl, ?_,ho1,rfl⟩
 rw [rtk,et]
 simpa [rtk,txt] using hs1
theorem ex_44 (n0 : Str) (u0 : Int) (ks : List Tree) (hok : OkK 44 u0 ks.length n0.length) (hk : ∀ t ∈ ks,TkCall t) (hl : (Pt.toks (.mk 44 n0 u0 ks)).length ≤ 1000000) (m : Mem) (L : List Item) (h : HTree) (hr : TreeRep m h (.mk 44 n0 u0 ks)) :
  TCall Tryz.prog 85 ⟨[treeV h]⟩ m L (TkO m L (rtk (.mk 44 n0 u0 ks))):=by
 obtain ⟨-,k1,k2,k3,k4,k5,k6,k7⟩:=hok
 obtain ⟨hkd,hn,hu,hks⟩:=h
 obtain ⟨h1,h2,h3,h4⟩:=hr
 simp only [Tree.kind,Tree.name,Tree.num,Tree.kids] at h1 h2 h3 h4
 replace h2:=h2.symm
 replace h3:=h3.symm
 subst h1 h2 h3
 have hlen:=h4.len
 have hsm:=h4.small rfl
 have hm:=bm m
 have et : Pt.toks (.mk 44 n0 u0 ks)=[nm n0]:=by rw [toks_eq];rfl
 have hl2:=hl
 rw [et] at hl2
 try simp only [aa,ab,ae] at hl2
 unfold TCall
 refine bw Tryz.func85 rfl 201 rfl ?_
 refine uA ?_
 refine oB (fun b => ?_)
 refine uL ?_
 refine qs rfl (cq tab rStr (hs:=[n0]) (l:=[n0]) ⟨rfl,trivial⟩ rfl rfl rfl rfl rfl (by decide) (fun s1 ma hma hs1 ho1 hc1 => ?_))
 replace hm:=bn hm hma
 replace h4:=h4.mono hma
 refine uL ?_
 refine oC goes81 ((cH _ _ s1).x ?_);
 rintro _ _ _ ⟨rfl,rfl,rfl⟩
 refine TO.tokFo hc1 ho1 1 ?_
 refine uL ?_
 refine bu rfl (L':=tok s1 1 :: L) uS ⟨hm,s1,rfl, ?_,ho1,rfl⟩
 rw [rtk,et]
 simpa [rtk,txt] using hs1
theorem ex_45 (n0 : Str) (u0 : Int) (ks : List Tree) (hok : OkK 45 u0 ks.length n0.length) (hk : ∀ t ∈ ks,TkCall t) (hl : (Pt.toks (.mk 45 n0 u0 ks)).length ≤ 1000000) (m : Mem) (L : List Item) (h : HTree) (hr : TreeRep m h (.mk 45 n0 u0 ks)) :
  TCall Tryz.prog 85 ⟨[treeV h]⟩ m L (TkO m L (rtk (.mk 45 n0 u0 ks))):=by
 obtain ⟨-,k1,k2,k3,k4,k5,k6,k7⟩:=hok
 obtain ⟨hkd,hn,hu,hks⟩:=h
 obtain ⟨h1,h2,h3,h4⟩:=hr
 simp only [Tree.kind,Tree.name,Tree.num,Tree.kids] at h1 h2 h3 h4
 replace h2:=h2.symm
 replace h3:=h3.symm
 subst h1 h2 h3
 have hlen:=h4.len
 have hsm:=h4.small rfl
 have hm:=bm m
 have et : Pt.toks (.mk 45 n0 u0 ks)=Pt.mk [40] :: nm n0 :: Pt.mk [123] :: (commaJ (ks.map Pt.toks)++[Pt.mk [125],Pt.mk [41]]):=by rw [toks_eq];rfl
 have hl2:=hl
 rw [et] at hl2
 try simp only [aa,ab,ae] at hl2
 unfold TCall
 refine bw Tryz.func85 rfl 201 rfl ?_
 refine uA ?_
 refine oB (fun b => ?_)
 refine uL ?_
 refine qs rfl (cq tab rStr (hs:=[([40] : Str),n0,([123] : Str)]) (l:=[([40] : Str),n0,([123] : Str)]) ⟨rfl,rfl,rfl,trivial⟩ rfl rfl rfl rfl rfl (by decide) (fun s1 ma hma hs1 ho1 hc1 => ?_))
 replace hm:=bn hm hma
 replace h4:=h4.mono hma
 refine uL ?_
 refine oC goes81 ((cH _ _ s1).x ?_);
 rintro _ _ _ ⟨rfl,rfl,rfl⟩
 refine uL ?_
 refine oC goes82 ((TkO.drop (row_law ks hk _ _ hks h4 (by omega))).x ?_);
 rintro _ m2 _ ⟨hm2,rfl,s2,rfl,hs2⟩
 replace hm:=bn hm hm2
 replace h4:=h4.mono hm2
 replace hs1:=hs1.mono hm2
 refine uL ?_
 refine qs rfl (cq tab rStr (hs:=[([125] : Str),([41] : Str)]) (l:=[([125] : Str),([41] : Str)]) ⟨rfl,rfl,trivial⟩ rfl rfl rfl rfl rfl (by decide) (fun s3 ma hma hs3 ho3 hc3 => ?_))
 replace hm:=bn hm hma
 replace h4:=h4.mono hma
 replace hs1:=hs1.mono hma
 replace hs2:=hs2.mono hma
 refine uL ?_
 refine oC goes81 ((cH _ _ s3).x ?_);
 rintro _ _ _ ⟨rfl,rfl,rfl⟩
 refine uL ?_
 refine qs rfl (cq tab rSS (hs:=[s1,s2,s3]) (l:=[[([40] : Str),n0,([123] : Str)],(commaJ (ks.map Pt.toks)).map txt,[([125] : Str),([41] : Str)]]) ⟨hs1,hs2,hs3,trivial⟩ rfl rfl rfl rfl rfl (by decide) (fun s4 ma hma hs4 ho4 hc4 => ?_))
 replace hm:=bn hm hma
 replace h4:=h4.mono hma
 replace hs1:=hs1.mono hma
 replace hs2:=hs2.mono hma
 replace hs3:=hs3.mono hma
 refine uL ?_
 refine oC goes80 ((cI _ _ s4 _ hs4 (by rw [show List.flatten _=rtk (.mk 45 n0 u0 ks) from by (show List.flatten _=(Pt.toks (.mk 45 n0 u0 ks)).map txt);rw [et];simp [rtk,txt,cJ,cK]];rw [cE];exact hl)).x ?_);
 rintro _ m2 _ ⟨hm2,s2,rfl,hs2,ho2,rfl⟩
 refine uL ?_
 refine bu rfl (L':=tok s2 1 :: L) uS ⟨bn hm hm2,s2,rfl, ?_,ho2,rfl⟩
 rw [rtk,et]
 simpa [rtk,txt,cJ,cK] using hs2
theorem ex_46 (n0 : Str) (u0 : Int) (ks : List Tree) (hok : OkK 46 u0 ks.length n0.length) (hk : ∀ t ∈ ks,TkCall t) (hl : (Pt.toks (.mk 46 n0 u0 ks)).length ≤ 1000000) (m : Mem) (L : List Item) (h : HTree) (hr : TreeRep m h (.mk 46 n0 u0 ks)) :
  TCall Tryz.prog 85 ⟨[treeV h]⟩ m L (TkO m L (rtk (.mk 46 n0 u0 ks))):=by
 obtain ⟨-,k1,k2,k3,k4,k5,k6,k7⟩:=hok
 obtain ⟨hkd,hn,hu,hks⟩:=h
 obtain ⟨h1,h2,h3,h4⟩:=hr
 simp only [Tree.kind,Tree.name,Tree.num,Tree.kids] at h1 h2 h3 h4
 replace h2:=h2.symm
 replace h3:=h3.symm
 subst h1 h2 h3
 have hlen:=h4.len
 have hsm:=h4.small rfl
 have hm:=bm m
 have n1 : 1 ≤ ks.length:=k1 (by decide)
 have x0 : ks[0]? = some ks[0]:=ak (by omega)
 have et : Pt.toks (.mk 46 n0 u0 ks)=Pt.mk [91] :: Pt.mk [93] :: (nth (ks.map Pt.toks) 0++Pt.mk [123] :: (commaJ ((ks.drop 1).map Pt.toks)++[Pt.mk [125]])):=by rw [toks_eq];simp only [List.map_take,List.map_drop];rfl
 have y0 : nth (ks.map Pt.toks) 0=Pt.toks ks[0]:=nth_map ks 0 (by omega)
 rw [y0] at et
 have hl2:=hl
 rw [et] at hl2
 try simp only [aa,ab,ae] at hl2
 unfold TCall
 refine bw Tryz.func85 rfl 201 rfl ?_
 refine uA ?_
 refine oB (fun b => ?_)
 refine uL ?_
 refine bQ [] cr 16 rfl [.cells b 0 (treeC ⟨46,n0,u0,hks⟩)] L uP ?_
 refine bV tab uC uK [2] uK rfl ?_
 refine bY tab rTree 3 0 h4 uC uK uK rfl rfl rfl rfl rfl rfl rfl (by first | rfl | omega) rfl x0 ?_
 rintro b0 i0 c0 r0 A0
 (refine bX (k:=0) tab 4 A0 uC uK uK rfl rfl rfl rfl rfl rfl rfl ?_)
 refine bV tab uC uK [8] uK rfl ?_
 refine DO.bag [61,65] rfl 13 [⟨0,57,spStrs [([91] : Str),([93] : Str)],[]⟩,⟨1,58,spStrs ([([91] : Str),([93] : Str)]),[0]⟩,⟨5,62,spStrs (rtk (ks[0])),[]⟩,⟨6,63,spStrs [([123] : Str)],[]⟩,⟨7,64,spStrs ([([123] : Str)]),[6]⟩,⟨9,66,spNodes (ks.drop 1),[]⟩,⟨10,67,spStrs ((commaJ ((ks.drop 1).map Pt.toks)).map txt),[9]⟩,⟨11,68,spStrs [([125] : Str)],[]⟩,⟨12,69,spStrs ([([125] : Str)]),[11]⟩,⟨13,70,spStrss [[([91] : Str),([93] : Str)],rtk (ks[0]),[([123] : Str)],(commaJ ((ks.drop 1).map Pt.toks)).map txt,[([125] : Str)]],[1,5,7,10,12]⟩] [13] 2 uK uK rfl rfl ?_ ?_
 ·refine ⟨bLit,bOne,(bKid (hk _ (aB _)) r0),bLit,bOne,(bCut (lo:=1) (hi:=ks.length) h4 1 ks.length (by rw [List.take_length]) (.inr rfl) (.inl ⟨rfl,hlen.symm⟩) (by omega) (av _)),(bRow goes82 (fun m L s hs=>row_law (ks.drop 1) (fun t ht=>hk t (List.mem_of_mem_drop ht)) m L s hs (by omega))),bLit,bOne,⟨_,rfl,fun mA hmA rest => ?_⟩,trivial⟩
  refine cG rfl fun v hv => ?_
  obtain ⟨s0,rfl,hs0⟩:=hv
  refine cG rfl fun v hv => ?_
  obtain ⟨s1,rfl,hs1⟩:=hv
  refine cG rfl fun v hv => ?_
  obtain ⟨s2,rfl,hs2⟩:=hv
  refine cG rfl fun v hv => ?_
  obtain ⟨s3,rfl,hs3⟩:=hv
  refine cG rfl fun v hv => ?_
  obtain ⟨s4,rfl,hs4⟩:=hv
  exact cF (bLL (hs:=[s0,s1,s2,s3,s4]) (E:=[[([91] : Str),([93] : Str)],rtk (ks[0]),[([123] : Str)],(commaJ ((ks.drop 1).map Pt.toks)).map txt,[([125] : Str)]]) ⟨hs0,hs1,hs2,hs3,hs4,trivial⟩)
 ·intro m1 hm1 rest
  refine cG rfl fun v hv => ?_
  obtain ⟨sz,rfl,hsz⟩:=hv
  refine cF ?_
  refine bZ 14 rfl rfl uK rfl (bM rfl rfl rfl rfl rfl rfl goes80 ((cI _ _ sz _ hsz (by rw [show List.flatten _=rtk (.mk 46 n0 u0 ks) from by (show List.flatten _=(Pt.toks (.mk 46 n0 u0 ks)).map txt);rw [et];simp [rtk,txt,cJ,cK]];rw [cE];exact hl)).x ?_))
  rintro _ m2 _ ⟨hm2,s2,rfl,hs2,ho2,rfl⟩
  refine ⟨hm2,_,permB, ?_⟩
  refine bV tab (by repeat (first|exact bU|refine bS ?_|refine bT ?_)) uK [15] uK rfl ?_
  refine cb uK ?_
  refine uA ?_
  refine bu rfl (L':=tok s2 1 :: L) uS ⟨bn hm1 hm2,s2,rfl, ?_,ho2,rfl⟩
  rw [rtk,et]
  simpa [rtk,txt,cJ,cK] using hs2
theorem ex_47 (n0 : Str) (u0 : Int) (ks : List Tree) (hok : OkK 47 u0 ks.length n0.length) (hk : ∀ t ∈ ks,TkCall t) (hl : (Pt.toks (.mk 47 n0 u0 ks)).length ≤ 1000000) (m : Mem) (L : List Item) (h : HTree) (hr : TreeRep m h (.mk 47 n0 u0 ks)) :
  TCall Tryz.prog 85 ⟨[treeV h]⟩ m L (TkO m L (rtk (.mk 47 n0 u0 ks))):=by
 obtain ⟨-,k1,k2,k3,k4,k5,k6,k7⟩:=hok
 obtain ⟨hkd,hn,hu,hks⟩:=h
 obtain ⟨h1,h2,h3,h4⟩:=hr
 simp only [Tree.kind,Tree.name,Tree.num,Tree.kids] at h1 h2 h3 h4
 replace h2:=h2.symm
 replace h3:=h3.symm
 subst h1 h2 h3
 have hlen:=h4.len
 have hsm:=h4.small rfl
 have hm:=bm m
 have n1 : 2 ≤ ks.length:=k2 (by decide)
 have x0 : ks[0]? = some ks[0]:=ak (by omega)
 have x1 : ks[1]? = some ks[1]:=ak (by omega)
 have et : Pt.toks (.mk 47 n0 u0 ks)=wd [102,117,110,99] :: (nth (ks.map Pt.toks) 0++nth (ks.map Pt.toks) 1):=by rw [toks_eq];rfl
 have y0 : nth (ks.map Pt.toks) 0=Pt.toks ks[0]:=nth_map ks 0 (by omega)
 have y1 : nth (ks.map Pt.toks) 1=Pt.toks ks[1]:=nth_map ks 1 (by omega)
 rw [y0,y1] at et
 have hl2:=hl
 rw [et] at hl2
 try simp only [aa,ab,ae] at hl2
 unfold TCall
 refine bw Tryz.func85 rfl 201 rfl ?_
 refine uA ?_
 refine oB (fun b => ?_)
 refine uL ?_
 refine bQ [] cr 13 rfl [.cells b 0 (treeC ⟨47,n0,u0,hks⟩)] L uP ?_
 refine bV tab uC uK [2] uK rfl ?_
 refine bY tab rTree 3 0 h4 uC uK uK rfl rfl rfl rfl rfl rfl rfl (by first | rfl | omega) rfl x0 ?_
 rintro b0 i0 c0 r0 A0
 (refine bX (k:=0) tab 4 A0 uC uK uK rfl rfl rfl rfl rfl rfl rfl ?_)
 refine bV tab uC uK [6] uK rfl ?_
 refine bY tab rTree 7 1 h4 uC uK uK rfl rfl rfl rfl rfl rfl rfl (by first | rfl | omega) rfl x1 ?_
 rintro b1 i1 c1 r1 A1
 (refine bX (k:=0) tab 8 A1 uC uK uK rfl rfl rfl rfl rfl rfl rfl ?_)
 refine DO.bag [78,82] rfl 10 [⟨0,74,spStrs [([102,117,110,99] : Str)],[]⟩,⟨1,75,spStrs ([([102,117,110,99] : Str)]),[0]⟩,⟨5,79,spStrs (rtk (ks[0])),[]⟩,⟨9,83,spStrs (rtk (ks[1])),[]⟩,⟨10,84,spStrss [[([102,117,110,99] : Str)],rtk (ks[0]),rtk (ks[1])],[1,5,9]⟩] [10] 2 uK uK rfl rfl ?_ ?_
 ·refine ⟨bLit,bOne,(bKid (hk _ (aB _)) r0),(bKid (hk _ (aB _)) r1),⟨_,rfl,fun mA hmA rest => ?_⟩,trivial⟩
  refine cG rfl fun v hv => ?_
  obtain ⟨s0,rfl,hs0⟩:=hv
  refine cG rfl fun v hv => ?_
  obtain ⟨s1,rfl,hs1⟩:=hv
  refine cG rfl fun v hv => ?_
  obtain ⟨s2,rfl,hs2⟩:=hv
  exact cF (bLL (hs:=[s0,s1,s2]) (E:=[[([102,117,110,99] : Str)],rtk (ks[0]),rtk (ks[1])]) ⟨hs0,hs1,hs2,trivial⟩)
 ·intro m1 hm1 rest
  refine cG rfl fun v hv => ?_
  obtain ⟨sz,rfl,hsz⟩:=hv
  refine cF ?_
  refine bZ 11 rfl rfl uK rfl (bM rfl rfl rfl rfl rfl rfl goes80 ((cI _ _ sz _ hsz (by rw [show List.flatten _=rtk (.mk 47 n0 u0 ks) from by (show List.flatten _=(Pt.toks (.mk 47 n0 u0 ks)).map txt);rw [et];simp [rtk,txt,cJ,cK]];rw [cE];exact hl)).x ?_))
  rintro _ m2 _ ⟨hm2,s2,rfl,hs2,ho2,rfl⟩
  refine ⟨hm2,_,permB, ?_⟩
  refine bV tab (by repeat (first|exact bU|refine bS ?_|refine bT ?_)) uK [12] uK rfl ?_
  refine cb uK ?_
  refine uA ?_
  refine bu rfl (L':=tok s2 1 :: L) uS ⟨bn hm1 hm2,s2,rfl, ?_,ho2,rfl⟩
  rw [rtk,et]
  simpa [rtk,txt,cJ,cK] using hs2
theorem ex_48 (n0 : Str) (u0 : Int) (ks : List Tree) (hok : OkK 48 u0 ks.length n0.length) (hk : ∀ t ∈ ks,TkCall t) (hl : (Pt.toks (.mk 48 n0 u0 ks)).length ≤ 1000000) (m : Mem) (L : List Item) (h : HTree) (hr : TreeRep m h (.mk 48 n0 u0 ks)) :
  TCall Tryz.prog 85 ⟨[treeV h]⟩ m L (TkO m L (rtk (.mk 48 n0 u0 ks))):=by
 obtain ⟨-,k1,k2,k3,k4,k5,k6,k7⟩:=hok
 obtain ⟨hkd,hn,hu,hks⟩:=h
 obtain ⟨h1,h2,h3,h4⟩:=hr
 simp only [Tree.kind,Tree.name,Tree.num,Tree.kids] at h1 h2 h3 h4
 replace h2:=h2.symm
 replace h3:=h3.symm
 subst h1 h2 h3
 have hlen:=h4.len
 have hsm:=h4.small rfl
 have hm:=bm m
 have n1 : 1 ≤ ks.length:=k1 (by decide)
 have x0 : ks[0]? = some ks[0]:=ak (by omega)
 have et : Pt.toks (.mk 48 n0 u0 ks)=nth (ks.map Pt.toks) 0++[Pt.mk [46],nm n0]:=by rw [toks_eq];rfl
 have y0 : nth (ks.map Pt.toks) 0=Pt.toks ks[0]:=nth_map ks 0 (by omega)
 rw [y0] at et
 have hl2:=hl
 rw [et] at hl2
 try simp only [aa,ab,ae] at hl2
 unfold TCall
 refine bw Tryz.func85 rfl 201 rfl ?_
 refine uA ?_
 refine oB (fun b => ?_)
 refine uL ?_
 refine bQ [] cr 11 rfl [.cells b 0 (treeC ⟨48,n0,u0,hks⟩)] L uP ?_
 refine bV tab uC uK [0] uK rfl ?_
 refine bY tab rTree 1 0 h4 uC uK uK rfl rfl rfl rfl rfl rfl rfl (by first | rfl | omega) rfl x0 ?_
 rintro b0 i0 c0 r0 A0
 (refine bX (k:=0) tab 2 A0 uC uK uK rfl rfl rfl rfl rfl rfl rfl ?_)
 refine bV tab uC uK [4] uK rfl ?_
 (refine bW tab 5 0 uC uK uK rfl rfl rfl rfl rfl rfl rfl rfl ?_)
 refine DO.bag [90,93] rfl 8 [⟨3,91,spStrs (rtk (ks[0])),[]⟩,⟨6,94,spStrs [([46] : Str),n0],[]⟩,⟨7,95,spStrs ([([46] : Str),n0]),[6]⟩,⟨8,96,spStrss [rtk (ks[0]),[([46] : Str),n0]],[3,7]⟩] [8] 2 uK uK rfl rfl ?_ ?_
 ·refine ⟨(bKid (hk _ (aB _)) r0),bLit,bOne,⟨_,rfl,fun mA hmA rest => ?_⟩,trivial⟩
  refine cG rfl fun v hv => ?_
  obtain ⟨s0,rfl,hs0⟩:=hv
  refine cG rfl fun v hv => ?_
  obtain ⟨s1,rfl,hs1⟩:=hv
  exact cF (bLL (hs:=[s0,s1]) (E:=[rtk (ks[0]),[([46] : Str),n0]]) ⟨hs0,hs1,trivial⟩)
 ·intro m1 hm1 rest
  refine cG rfl fun v hv => ?_
  obtain ⟨sz,rfl,hsz⟩:=hv
  refine cF ?_
  refine bZ 9 rfl rfl uK rfl (bM rfl rfl rfl rfl rfl rfl goes80 ((cI _ _ sz _ hsz (by rw [show List.flatten _=rtk (.mk 48 n0 u0 ks) from by (show List.flatten _=(Pt.toks (.mk 48 n0 u0 ks)).map txt);rw [et];simp [rtk,txt,cJ,cK]];rw [cE];exact hl)).x ?_))
  rintro _ m2 _ ⟨hm2,s2,rfl,hs2,ho2,rfl⟩
  refine ⟨hm2,_,permB, ?_⟩
  refine bV tab (by repeat (first|exact bU|refine bS ?_|refine bT ?_)) uK [10] uK rfl ?_
  refine cb uK ?_
  refine uA ?_
  refine bu rfl (L':=tok s2 1 :: L) uS ⟨bn hm1 hm2,s2,rfl, ?_,ho2,rfl⟩
  rw [rtk,et]
  simpa [rtk,txt,cJ,cK] using hs2
theorem ex_49 (n0 : Str) (u0 : Int) (ks : List Tree) (hok : OkK 49 u0 ks.length n0.length) (hk : ∀ t ∈ ks,TkCall t) (hl : (Pt.toks (.mk 49 n0 u0 ks)).length ≤ 1000000) (m : Mem) (L : List Item) (h : HTree) (hr : TreeRep m h (.mk 49 n0 u0 ks)) :
  TCall Tryz.prog 85 ⟨[treeV h]⟩ m L (TkO m L (rtk (.mk 49 n0 u0 ks))):=by
 obtain ⟨-,k1,k2,k3,k4,k5,k6,k7⟩:=hok
 obtain ⟨hkd,hn,hu,hks⟩:=h
 obtain ⟨h1,h2,h3,h4⟩:=hr
 simp only [Tree.kind,Tree.name,Tree.num,Tree.kids] at h1 h2 h3 h4
 replace h2:=h2.symm
 replace h3:=h3.symm
 subst h1 h2 h3
 have hlen:=h4.len
 have hsm:=h4.small rfl
 have hm:=bm m
 have n1 : 2 ≤ ks.length:=k2 (by decide)
 have x0 : ks[0]? = some ks[0]:=ak (by omega)
 have x1 : ks[1]? = some ks[1]:=ak (by omega)
 have et : Pt.toks (.mk 49 n0 u0 ks)=nth (ks.map Pt.toks) 0++Pt.mk [91] :: (nth (ks.map Pt.toks) 1++[Pt.mk [93]]):=by rw [toks_eq];rfl
 have y0 : nth (ks.map Pt.toks) 0=Pt.toks ks[0]:=nth_map ks 0 (by omega)
 have y1 : nth (ks.map Pt.toks) 1=Pt.toks ks[1]:=nth_map ks 1 (by omega)
 rw [y0,y1] at et
 have hl2:=hl
 rw [et] at hl2
 try simp only [aa,ab,ae] at hl2
 unfold TCall
 refine bw Tryz.func85 rfl 201 rfl ?_
 refine uA ?_
 refine oB (fun b => ?_)
 refine uL ?_
 refine bQ [] cr 15 rfl [.cells b 0 (treeC ⟨49,n0,u0,hks⟩)] L uP ?_
 refine bV tab uC uK [0] uK rfl ?_
 refine bY tab rTree 1 0 h4 uC uK uK rfl rfl rfl rfl rfl rfl rfl (by first | rfl | omega) rfl x0 ?_
 rintro b0 i0 c0 r0 A0
 (refine bX (k:=0) tab 2 A0 uC uK uK rfl rfl rfl rfl rfl rfl rfl ?_)
 refine bV tab uC uK [6] uK rfl ?_
 refine bY tab rTree 7 1 h4 uC uK uK rfl rfl rfl rfl rfl rfl rfl (by first | rfl | omega) rfl x1 ?_
 rintro b1 i1 c1 r1 A1
 (refine bX (k:=0) tab 8 A1 uC uK uK rfl rfl rfl rfl rfl rfl rfl ?_)
 refine DO.bag [102,108] rfl 12 [⟨3,103,spStrs (rtk (ks[0])),[]⟩,⟨4,104,spStrs [([91] : Str)],[]⟩,⟨5,105,spStrs ([([91] : Str)]),[4]⟩,⟨9,109,spStrs (rtk (ks[1])),[]⟩,⟨10,110,spStrs [([93] : Str)],[]⟩,⟨11,111,spStrs ([([93] : Str)]),[10]⟩,⟨12,112,spStrss [rtk (ks[0]),[([91] : Str)],rtk (ks[1]),[([93] : Str)]],[3,5,9,11]⟩] [12] 2 uK uK rfl rfl ?_ ?_
 ·refine ⟨(bKid (hk _ (aB _)) r0),bLit,bOne,(bKid (hk _ (aB _)) r1),bLit,bOne,⟨_,rfl,fun mA hmA rest => ?_⟩,trivial⟩
  refine cG rfl fun v hv => ?_
  obtain ⟨s0,rfl,hs0⟩:=hv
  refine cG rfl fun v hv => ?_
  obtain ⟨s1,rfl,hs1⟩:=hv
  refine cG rfl fun v hv => ?_
  obtain ⟨s2,rfl,hs2⟩:=hv
  refine cG rfl fun v hv => ?_
  obtain ⟨s3,rfl,hs3⟩:=hv
  exact cF (bLL (hs:=[s0,s1,s2,s3]) (E:=[rtk (ks[0]),[([91] : Str)],rtk (ks[1]),[([93] : Str)]]) ⟨hs0,hs1,hs2,hs3,trivial⟩)
 ·intro m1 hm1 rest
  refine cG rfl fun v hv => ?_
  obtain ⟨sz,rfl,hsz⟩:=hv
  refine cF ?_
  refine bZ 13 rfl rfl uK rfl (bM rfl rfl rfl rfl rfl rfl goes80 ((cI _ _ sz _ hsz (by rw [show List.flatten _=rtk (.mk 49 n0 u0 ks) from by (show List.flatten _=(Pt.toks (.mk 49 n0 u0 ks)).map txt);rw [et];simp [rtk,txt,cJ,cK]];rw [cE];exact hl)).x ?_))
  rintro _ m2 _ ⟨hm2,s2,rfl,hs2,ho2,rfl⟩
  refine ⟨hm2,_,permB, ?_⟩
  refine bV tab (by repeat (first|exact bU|refine bS ?_|refine bT ?_)) uK [14] uK rfl ?_
  refine cb uK ?_
  refine uA ?_
  refine bu rfl (L':=tok s2 1 :: L) uS ⟨bn hm1 hm2,s2,rfl, ?_,ho2,rfl⟩
  rw [rtk,et]
  simpa [rtk,txt,cJ,cK] using hs2
theorem ex_51 (n0 : Str) (u0 : Int) (ks : List Tree) (hok : OkK 51 u0 ks.length n0.length) (hk : ∀ t ∈ ks,TkCall t) (hl : (Pt.toks (.mk 51 n0 u0 ks)).length ≤ 1000000) (m : Mem) (L : List Item) (h : HTree) (hr : TreeRep m h (.mk 51 n0 u0 ks)) :
  TCall Tryz.prog 85 ⟨[treeV h]⟩ m L (TkO m L (rtk (.mk 51 n0 u0 ks))):=by
 obtain ⟨-,k1,k2,k3,k4,k5,k6,k7⟩:=hok
 obtain ⟨hkd,hn,hu,hks⟩:=h
 obtain ⟨h1,h2,h3,h4⟩:=hr
 simp only [Tree.kind,Tree.name,Tree.num,Tree.kids] at h1 h2 h3 h4
 replace h2:=h2.symm
 replace h3:=h3.symm
 subst h1 h2 h3
 have hlen:=h4.len
 have hsm:=h4.small rfl
 have hm:=bm m
 have n1 : 1 ≤ ks.length:=k1 (by decide)
 have x0 : ks[0]? = some ks[0]:=ak (by omega)
 have et : Pt.toks (.mk 51 n0 u0 ks)=nth (ks.map Pt.toks) 0++Pt.mk [40] :: (commaJ ((ks.drop 1).map Pt.toks)++[Pt.mk [41]]):=by rw [toks_eq];simp only [List.map_take,List.map_drop];rfl
 have y0 : nth (ks.map Pt.toks) 0=Pt.toks ks[0]:=nth_map ks 0 (by omega)
 rw [y0] at et
 have hl2:=hl
 rw [et] at hl2
 try simp only [aa,ab,ae] at hl2
 unfold TCall
 refine bw Tryz.func85 rfl 201 rfl ?_
 refine uA ?_
 refine oB (fun b => ?_)
 refine uL ?_
 refine bQ [] cr 14 rfl [.cells b 0 (treeC ⟨51,n0,u0,hks⟩)] L uP ?_
 refine bV tab uC uK [0] uK rfl ?_
 refine bY tab rTree 1 0 h4 uC uK uK rfl rfl rfl rfl rfl rfl rfl (by first | rfl | omega) rfl x0 ?_
 rintro b0 i0 c0 r0 A0
 (refine bX (k:=0) tab 2 A0 uC uK uK rfl rfl rfl rfl rfl rfl rfl ?_)
 refine bV tab uC uK [6] uK rfl ?_
 refine DO.bag [158,162] rfl 11 [⟨3,159,spStrs (rtk (ks[0])),[]⟩,⟨4,160,spStrs [([40] : Str)],[]⟩,⟨5,161,spStrs ([([40] : Str)]),[4]⟩,⟨7,163,spNodes (ks.drop 1),[]⟩,⟨8,164,spStrs ((commaJ ((ks.drop 1).map Pt.toks)).map txt),[7]⟩,⟨9,165,spStrs [([41] : Str)],[]⟩,⟨10,166,spStrs ([([41] : Str)]),[9]⟩,⟨11,167,spStrss [rtk (ks[0]),[([40] : Str)],(commaJ ((ks.drop 1).map Pt.toks)).map txt,[([41] : Str)]],[3,5,8,10]⟩] [11] 2 uK uK rfl rfl ?_ ?_
 ·refine ⟨(bKid (hk _ (aB _)) r0),bLit,bOne,(bCut (lo:=1) (hi:=ks.length) h4 1 ks.length (by rw [List.take_length]) (.inr rfl) (.inl ⟨rfl,hlen.symm⟩) (by omega) (av _)),(bRow goes82 (fun m L s hs=>row_law (ks.drop 1) (fun t ht=>hk t (List.mem_of_mem_drop ht)) m L s hs (by omega))),bLit,bOne,⟨_,rfl,fun mA hmA rest => ?_⟩,trivial⟩
  refine cG rfl fun v hv => ?_
  obtain ⟨s0,rfl,hs0⟩:=hv
  refine cG rfl fun v hv => ?_
  obtain ⟨s1,rfl,hs1⟩:=hv
  refine cG rfl fun v hv => ?_
  obtain ⟨s2,rfl,hs2⟩:=hv
  refine cG rfl fun v hv => ?_
  obtain ⟨s3,rfl,hs3⟩:=hv
  exact cF (bLL (hs:=[s0,s1,s2,s3]) (E:=[rtk (ks[0]),[([40] : Str)],(commaJ ((ks.drop 1).map Pt.toks)).map txt,[([41] : Str)]]) ⟨hs0,hs1,hs2,hs3,trivial⟩)
 ·intro m1 hm1 rest
  refine cG rfl fun v hv => ?_
  obtain ⟨sz,rfl,hsz⟩:=hv
  refine cF ?_
  refine bZ 12 rfl rfl uK rfl (bM rfl rfl rfl rfl rfl rfl goes80 ((cI _ _ sz _ hsz (by rw [show List.flatten _=rtk (.mk 51 n0 u0 ks) from by (show List.flatten _=(Pt.toks (.mk 51 n0 u0 ks)).map txt);rw [et];simp [rtk,txt,cJ,cK]];rw [cE];exact hl)).x ?_))
  rintro _ m2 _ ⟨hm2,s2,rfl,hs2,ho2,rfl⟩
  refine ⟨hm2,_,permB, ?_⟩
  refine bV tab (by repeat (first|exact bU|refine bS ?_|refine bT ?_)) uK [13] uK rfl ?_
  refine cb uK ?_
  refine uA ?_
  refine bu rfl (L':=tok s2 1 :: L) uS ⟨bn hm1 hm2,s2,rfl, ?_,ho2,rfl⟩
  rw [rtk,et]
  simpa [rtk,txt,cJ,cK] using hs2
theorem ex_52 (n0 : Str) (u0 : Int) (ks : List Tree) (hok : OkK 52 u0 ks.length n0.length) (hk : ∀ t ∈ ks,TkCall t) (hl : (Pt.toks (.mk 52 n0 u0 ks)).length ≤ 1000000) (m : Mem) (L : List Item) (h : HTree) (hr : TreeRep m h (.mk 52 n0 u0 ks)) :
  TCall Tryz.prog 85 ⟨[treeV h]⟩ m L (TkO m L (rtk (.mk 52 n0 u0 ks))):=by
 obtain ⟨-,k1,k2,k3,k4,k5,k6,k7⟩:=hok
 obtain ⟨hkd,hn,hu,hks⟩:=h
 obtain ⟨h1,h2,h3,h4⟩:=hr
 simp only [Tree.kind,Tree.name,Tree.num,Tree.kids] at h1 h2 h3 h4
 replace h2:=h2.symm
 replace h3:=h3.symm
 subst h1 h2 h3
 have hlen:=h4.len
 have hsm:=h4.small rfl
 have hm:=bm m
 have n1 : 1 ≤ ks.length:=k1 (by decide)
 have x0 : ks[0]? = some ks[0]:=ak (by omega)
 have et : Pt.toks (.mk 52 n0 u0 ks)=Pt.mk [40] :: Pt.mk n0 :: (nth (ks.map Pt.toks) 0++[Pt.mk [41]]):=by rw [toks_eq];rfl
 have y0 : nth (ks.map Pt.toks) 0=Pt.toks ks[0]:=nth_map ks 0 (by omega)
 rw [y0] at et
 have hl2:=hl
 rw [et] at hl2
 try simp only [aa,ab,ae] at hl2
 unfold TCall
 refine bw Tryz.func85 rfl 201 rfl ?_
 refine uA ?_
 refine oB (fun b => ?_)
 refine uL ?_
 refine bQ [] cr 13 rfl [.cells b 0 (treeC ⟨52,n0,u0,hks⟩)] L uP ?_
 refine bV tab uC uK [0] uK rfl ?_
 (refine bW tab 1 0 uC uK uK rfl rfl rfl rfl rfl rfl rfl rfl ?_)
 refine bV tab uC uK [4] uK rfl ?_
 refine bY tab rTree 5 0 h4 uC uK uK rfl rfl rfl rfl rfl rfl rfl (by first | rfl | omega) rfl x0 ?_
 rintro b0 i0 c0 r0 A0
 (refine bX (k:=0) tab 6 A0 uC uK uK rfl rfl rfl rfl rfl rfl rfl ?_)
 refine DO.bag [172,177] rfl 10 [⟨2,173,spStrs [([40] : Str),n0],[]⟩,⟨3,174,spStrs ([([40] : Str),n0]),[2]⟩,⟨7,178,spStrs (rtk (ks[0])),[]⟩,⟨8,179,spStrs [([41] : Str)],[]⟩,⟨9,180,spStrs ([([41] : Str)]),[8]⟩,⟨10,181,spStrss [[([40] : Str),n0],rtk (ks[0]),[([41] : Str)]],[3,7,9]⟩] [10] 2 uK uK rfl rfl ?_ ?_
 ·refine ⟨bLit,bOne,(bKid (hk _ (aB _)) r0),bLit,bOne,⟨_,rfl,fun mA hmA rest => ?_⟩,trivial⟩
  refine cG rfl fun v hv => ?_
  obtain ⟨s0,rfl,hs0⟩:=hv
  refine cG rfl fun v hv => ?_
  obtain ⟨s1,rfl,hs1⟩:=hv
  refine cG rfl fun v hv => ?_
  obtain ⟨s2,rfl,hs2⟩:=hv
  exact cF (bLL (hs:=[s0,s1,s2]) (E:=[[([40] : Str),n0],rtk (ks[0]),[([41] : Str)]]) ⟨hs0,hs1,hs2,trivial⟩)
 ·intro m1 hm1 rest
  refine cG rfl fun v hv => ?_
  obtain ⟨sz,rfl,hsz⟩:=hv
  refine cF ?_
  refine bZ 11 rfl rfl uK rfl (bM rfl rfl rfl rfl rfl rfl goes80 ((cI _ _ sz _ hsz (by rw [show List.flatten _=rtk (.mk 52 n0 u0 ks) from by (show List.flatten _=(Pt.toks (.mk 52 n0 u0 ks)).map txt);rw [et];simp [rtk,txt,cJ,cK]];rw [cE];exact hl)).x ?_))
  rintro _ m2 _ ⟨hm2,s2,rfl,hs2,ho2,rfl⟩
  refine ⟨hm2,_,permB, ?_⟩
  refine bV tab (by repeat (first|exact bU|refine bS ?_|refine bT ?_)) uK [12] uK rfl ?_
  refine cb uK ?_
  refine uA ?_
  refine bu rfl (L':=tok s2 1 :: L) uS ⟨bn hm1 hm2,s2,rfl, ?_,ho2,rfl⟩
  rw [rtk,et]
  simpa [rtk,txt,cJ,cK] using hs2
theorem ex_53 (n0 : Str) (u0 : Int) (ks : List Tree) (hok : OkK 53 u0 ks.length n0.length) (hk : ∀ t ∈ ks,TkCall t) (hl : (Pt.toks (.mk 53 n0 u0 ks)).length ≤ 1000000) (m : Mem) (L : List Item) (h : HTree) (hr : TreeRep m h (.mk 53 n0 u0 ks)) :
  TCall Tryz.prog 85 ⟨[treeV h]⟩ m L (TkO m L (rtk (.mk 53 n0 u0 ks))):=by
 obtain ⟨-,k1,k2,k3,k4,k5,k6,k7⟩:=hok
 obtain ⟨hkd,hn,hu,hks⟩:=h
 obtain ⟨h1,h2,h3,h4⟩:=hr
 simp only [Tree.kind,Tree.name,Tree.num,Tree.kids] at h1 h2 h3 h4
 replace h2:=h2.symm
 replace h3:=h3.symm
 subst h1 h2 h3
 have hlen:=h4.len
 have hsm:=h4.small rfl
 have hm:=bm m
 have n1 : 2 ≤ ks.length:=k2 (by decide)
 have x0 : ks[0]? = some ks[0]:=ak (by omega)
 have x1 : ks[1]? = some ks[1]:=ak (by omega)
 have et : Pt.toks (.mk 53 n0 u0 ks)=Pt.mk [40] :: (nth (ks.map Pt.toks) 0++Pt.mk n0 :: (nth (ks.map Pt.toks) 1++[Pt.mk [41]])):=by rw [toks_eq];rfl
 have y0 : nth (ks.map Pt.toks) 0=Pt.toks ks[0]:=nth_map ks 0 (by omega)
 have y1 : nth (ks.map Pt.toks) 1=Pt.toks ks[1]:=nth_map ks 1 (by omega)
 rw [y0,y1] at et
 have hl2:=hl
 rw [et] at hl2
 try simp only [aa,ab,ae] at hl2
 unfold TCall
 refine bw Tryz.func85 rfl 201 rfl ?_
 refine uA ?_
 refine oB (fun b => ?_)
 refine uL ?_
 refine bQ [] cr 19 rfl [.cells b 0 (treeC ⟨53,n0,u0,hks⟩)] L uP ?_
 refine bV tab uC uK [2] uK rfl ?_
 refine bY tab rTree 3 0 h4 uC uK uK rfl rfl rfl rfl rfl rfl rfl (by first | rfl | omega) rfl x0 ?_
 rintro b0 i0 c0 r0 A0
 (refine bX (k:=0) tab 4 A0 uC uK uK rfl rfl rfl rfl rfl rfl rfl ?_)
 refine bV tab uC uK [6] uK rfl ?_
 (refine bW tab 7 0 uC uK uK rfl rfl rfl rfl rfl rfl rfl rfl ?_)
 refine bV tab uC uK [10] uK rfl ?_
 refine bY tab rTree 11 1 h4 uC uK uK rfl rfl rfl rfl rfl rfl rfl (by first | rfl | omega) rfl x1 ?_
 rintro b1 i1 c1 r1 A1
 (refine bX (k:=0) tab 12 A1 uC uK uK rfl rfl rfl rfl rfl rfl rfl ?_)
 refine DO.bag [187,190,195] rfl 16 [⟨0,183,spStrs [([40] : Str)],[]⟩,⟨1,184,spStrs ([([40] : Str)]),[0]⟩,⟨5,188,spStrs (rtk (ks[0])),[]⟩,⟨8,191,spStrs [n0],[]⟩,⟨9,192,spStrs ([n0]),[8]⟩,⟨13,196,spStrs (rtk (ks[1])),[]⟩,⟨14,197,spStrs [([41] : Str)],[]⟩,⟨15,198,spStrs ([([41] : Str)]),[14]⟩,⟨16,199,spStrss [[([40] : Str)],rtk (ks[0]),[n0],rtk (ks[1]),[([41] : Str)]],[1,5,9,13,15]⟩] [16] 2 uK uK rfl rfl ?_ ?_
 ·refine ⟨bLit,bOne,(bKid (hk _ (aB _)) r0),bLit,bOne,(bKid (hk _ (aB _)) r1),bLit,bOne,⟨_,rfl,fun mA hmA rest => ?_⟩,trivial⟩
  refine cG rfl fun v hv => ?_
  obtain ⟨s0,rfl,hs0⟩:=hv
  refine cG rfl fun v hv => ?_
  obtain ⟨s1,rfl,hs1⟩:=hv
  refine cG rfl fun v hv => ?_
  obtain ⟨s2,rfl,hs2⟩:=hv
  refine cG rfl fun v hv => ?_
  obtain ⟨s3,rfl,hs3⟩:=hv
  refine cG rfl fun v hv => ?_
  obtain ⟨s4,rfl,hs4⟩:=hv
  exact cF (bLL (hs:=[s0,s1,s2,s3,s4]) (E:=[[([40] : Str)],rtk (ks[0]),[n0],rtk (ks[1]),[([41] : Str)]]) ⟨hs0,hs1,hs2,hs3,hs4,trivial⟩)
 ·intro m1 hm1 rest
  refine cG rfl fun v hv => ?_
  obtain ⟨sz,rfl,hsz⟩:=hv
  refine cF ?_
  refine bZ 17 rfl rfl uK rfl (bM rfl rfl rfl rfl rfl rfl goes80 ((cI _ _ sz _ hsz (by rw [show List.flatten _=rtk (.mk 53 n0 u0 ks) from by (show List.flatten _=(Pt.toks (.mk 53 n0 u0 ks)).map txt);rw [et];simp [rtk,txt,cJ,cK]];rw [cE];exact hl)).x ?_))
  rintro _ m2 _ ⟨hm2,s2,rfl,hs2,ho2,rfl⟩
  refine ⟨hm2,_,permB, ?_⟩
  refine bV tab (by repeat (first|exact bU|refine bS ?_)) uK [18] uK rfl ?_
  refine cb uK ?_
  refine uA ?_
  refine bu rfl (L':=tok s2 1 :: L) uS ⟨bn hm1 hm2,s2,rfl, ?_,ho2,rfl⟩
  rw [rtk,et]
  simpa [rtk,txt,cJ,cK] using hs2
theorem ex_50u0 (n0 : Str) (ks : List Tree) (hok : OkK 50 0 ks.length n0.length) (hv : ks.length=1) (hk : ∀ t ∈ ks,TkCall t) (hl : (Pt.toks (.mk 50 n0 0 ks)).length ≤ 1000000) (m : Mem) (L : List Item) (h : HTree) (hr : TreeRep m h (.mk 50 n0 0 ks)) :
  TCall Tryz.prog 85 ⟨[treeV h]⟩ m L (TkO m L (rtk (.mk 50 n0 0 ks))):=by
 obtain ⟨-,k1,k2,k3,k4,k5,k6,k7⟩:=hok
 obtain ⟨hkd,hn,hu,hks⟩:=h
 obtain ⟨h1,h2,h3,h4⟩:=hr
 simp only [Tree.kind,Tree.name,Tree.num,Tree.kids] at h1 h2 h3 h4
 replace h2:=h2.symm
 subst h1 h2 h3
 have hlen:=h4.len
 have hsm:=h4.small rfl
 have hm:=bm m
 have n1 : 1 ≤ ks.length:=by omega
 obtain ⟨ha,hl0,hc⟩:=hks
 obtain rfl : hl0=1:=by have:=hlen;simp only at this;omega
 have x0 : ks[0]? = some ks[0]:=ak (by omega)
 have et : Pt.toks (.mk 50 n0 0 ks)=nth (ks.map Pt.toks) 0++Pt.mk [91] :: ([]++Pt.mk [58] :: ([]++[Pt.mk [93]])):=by rw [toks_eq];show comb 50 n0 0 (ks.map Pt.toks)=_;unfold comb;simp [hv]
 have y0 : nth (ks.map Pt.toks) 0=Pt.toks ks[0]:=nth_map ks 0 (by omega)
 rw [y0] at et
 have hl2:=hl
 rw [et] at hl2
 try simp only [aa,ab,ae] at hl2
 unfold TCall
 refine bw Tryz.func85 rfl 201 rfl ?_
 refine uA ?_
 refine oB (fun b => ?_)
 refine uL ?_
 refine qs rfl (cq tab rStr (hs:=[]) (l:=[]) trivial rfl rfl rfl rfl rfl (by decide) (fun s21 ma hma hs21 _ _ => ?_))
 replace hm:=bn hm hma
 replace h4:=h4.mono hma
 refine uL ?_
 refine qs rfl (cq tab rStr (hs:=[]) (l:=[]) trivial rfl rfl rfl rfl rfl (by decide) (fun s22 ma hma hs22 _ _ => ?_))
 replace hm:=bn hm hma
 replace h4:=h4.mono hma
 replace hs21:=hs21.mono hma
 refine uL ?_
 refine qs rfl (bO tab rTree 0 h4 rfl rfl rfl rfl rfl (by first | rfl | omega | (simp only;omega)) rfl x0 ?_)
 rintro b0 i0 c0 r0 A0
 (refine oL tab A0 ?_)
 refine uA ?_
 refine oC goes44 ((TkO.drop (hk _ (aB _) _ _ c0 (rTree_iff.1 r0))).x ?_);
 rintro _ m1 _ ⟨hm1,rfl,s1,rfl,hs1⟩
 replace hm:=bn hm hm1
 replace h4:=h4.mono hm1
 replace hs21:=hs21.mono hm1
 replace hs22:=hs22.mono hm1
 refine uL ?_
 refine qs rfl (cq tab rStr (hs:=[([91] : Str)]) (l:=[([91] : Str)]) ⟨rfl,trivial⟩ rfl rfl rfl rfl rfl (by decide) (fun s2 ma hma hs2 ho2 hc2 => ?_))
 replace hm:=bn hm hma
 replace h4:=h4.mono hma
 replace hs21:=hs21.mono hma
 replace hs22:=hs22.mono hma
 replace hs1:=hs1.mono hma
 refine uL ?_
 refine oC goes81 ((cH _ _ s2).x ?_);
 rintro _ _ _ ⟨rfl,rfl,rfl⟩
 refine uL ?_
 refine qs rfl (cq tab rStr (hs:=[([58] : Str)]) (l:=[([58] : Str)]) ⟨rfl,trivial⟩ rfl rfl rfl rfl rfl (by decide) (fun s3 ma hma hs3 ho3 hc3 => ?_))
 replace hm:=bn hm hma
 replace h4:=h4.mono hma
 replace hs21:=hs21.mono hma
 replace hs22:=hs22.mono hma
 replace hs1:=hs1.mono hma
 replace hs2:=hs2.mono hma
 refine uL ?_
 refine oC goes81 ((cH _ _ s3).x ?_);
 rintro _ _ _ ⟨rfl,rfl,rfl⟩
 refine uL ?_
 refine qs rfl (cq tab rStr (hs:=[([93] : Str)]) (l:=[([93] : Str)]) ⟨rfl,trivial⟩ rfl rfl rfl rfl rfl (by decide) (fun s4 ma hma hs4 ho4 hc4 => ?_))
 replace hm:=bn hm hma
 replace h4:=h4.mono hma
 replace hs21:=hs21.mono hma
 replace hs22:=hs22.mono hma
 replace hs1:=hs1.mono hma
 replace hs2:=hs2.mono hma
 replace hs3:=hs3.mono hma
 refine uL ?_
 refine oC goes81 ((cH _ _ s4).x ?_);
 rintro _ _ _ ⟨rfl,rfl,rfl⟩
 refine uL ?_
 refine qs rfl (cq tab rSS (hs:=[s1,s2,s21,s3,s22,s4]) (l:=[rtk ks[0],[([91] : Str)],([] : List Str),[([58] : Str)],([] : List Str),[([93] : Str)]]) ⟨hs1,hs2,hs21,hs3,hs22,hs4,trivial⟩ rfl rfl rfl rfl rfl (by decide) (fun s5 ma hma hs5 ho5 hc5 => ?_))
 replace hm:=bn hm hma
 replace h4:=h4.mono hma
 replace hs21:=hs21.mono hma
 replace hs22:=hs22.mono hma
 replace hs1:=hs1.mono hma
 replace hs2:=hs2.mono hma
 replace hs3:=hs3.mono hma
 replace hs4:=hs4.mono hma
 refine uL ?_
 refine oC goes80 ((cI _ _ s5 _ hs5 (by rw [show List.flatten _=rtk (.mk 50 n0 0 ks) from by (show List.flatten _=(Pt.toks (.mk 50 n0 0 ks)).map txt);rw [et];simp [rtk,txt,cJ,cK]];rw [cE];exact hl)).x ?_);
 rintro _ m2 _ ⟨hm2,s2,rfl,hs2,ho2,rfl⟩
 refine uL ?_
 refine bu rfl (L':=tok s2 1 :: L) uS ⟨bn hm hm2,s2,rfl, ?_,ho2,rfl⟩
 rw [rtk,et]
 simpa [rtk,txt] using hs2
theorem ex_50u1 (n0 : Str) (ks : List Tree) (hok : OkK 50 1 ks.length n0.length) (hv : ks.length=2) (hk : ∀ t ∈ ks,TkCall t) (hl : (Pt.toks (.mk 50 n0 1 ks)).length ≤ 1000000) (m : Mem) (L : List Item) (h : HTree) (hr : TreeRep m h (.mk 50 n0 1 ks)) :
  TCall Tryz.prog 85 ⟨[treeV h]⟩ m L (TkO m L (rtk (.mk 50 n0 1 ks))):=by
 obtain ⟨-,k1,k2,k3,k4,k5,k6,k7⟩:=hok
 obtain ⟨hkd,hn,hu,hks⟩:=h
 obtain ⟨h1,h2,h3,h4⟩:=hr
 simp only [Tree.kind,Tree.name,Tree.num,Tree.kids] at h1 h2 h3 h4
 replace h2:=h2.symm
 subst h1 h2 h3
 have hlen:=h4.len
 have hsm:=h4.small rfl
 have hm:=bm m
 have n1 : 2 ≤ ks.length:=by omega
 obtain ⟨ha,hl0,hc⟩:=hks
 obtain rfl : hl0=2:=by have:=hlen;simp only at this;omega
 have x0 : ks[0]? = some ks[0]:=ak (by omega)
 have x1 : ks[1]? = some ks[1]:=ak (by omega)
 have et : Pt.toks (.mk 50 n0 1 ks)=nth (ks.map Pt.toks) 0++Pt.mk [91] :: (nth (ks.map Pt.toks) 1++Pt.mk [58] :: ([]++[Pt.mk [93]])):=by rw [toks_eq];show comb 50 n0 1 (ks.map Pt.toks)=_;unfold comb;simp [hv]
 have y0 : nth (ks.map Pt.toks) 0=Pt.toks ks[0]:=nth_map ks 0 (by omega)
 have y1 : nth (ks.map Pt.toks) 1=Pt.toks ks[1]:=nth_map ks 1 (by omega)
 rw [y0,y1] at et
 have hl2:=hl
 rw [et] at hl2
 try simp only [aa,ab,ae] at hl2
 unfold TCall
 refine bw Tryz.func85 rfl 201 rfl ?_
 refine uA ?_
 refine oB (fun b => ?_)
 refine uL ?_
 refine qs rfl (cq tab rStr (hs:=[]) (l:=[]) trivial rfl rfl rfl rfl rfl (by decide) (fun s21 ma hma hs21 _ _ => ?_))
 replace hm:=bn hm hma
 replace h4:=h4.mono hma
 refine uL ?_
 refine qs rfl (cq tab rStr (hs:=[]) (l:=[]) trivial rfl rfl rfl rfl rfl (by decide) (fun s22 ma hma hs22 _ _ => ?_))
 replace hm:=bn hm hma
 replace h4:=h4.mono hma
 replace hs21:=hs21.mono hma
 refine uL ?_
 refine qs rfl (bO tab rTree 1 h4 rfl rfl rfl rfl rfl (by first | rfl | omega | (simp only;omega)) rfl x1 ?_)
 rintro b1 i1 c1 r1 A1
 (refine oL tab A1 ?_)
 refine uA ?_
 refine oC goes44 ((TkO.drop (hk _ (aB _) _ _ c1 (rTree_iff.1 r1))).x ?_);
 rintro _ m31 _ ⟨hm31,rfl,s31,rfl,hs31⟩
 replace hm:=bn hm hm31
 replace h4:=h4.mono hm31
 replace hs22:=hs22.mono hm31
 refine uL ?_
 refine qs rfl (bO tab rTree 0 h4 rfl rfl rfl rfl rfl (by first | rfl | omega | (simp only;omega)) rfl x0 ?_)
 rintro b0 i0 c0 r0 A0
 (refine oL tab A0 ?_)
 refine uA ?_
 refine oC goes44 ((TkO.drop (hk _ (aB _) _ _ c0 (rTree_iff.1 r0))).x ?_);
 rintro _ m1 _ ⟨hm1,rfl,s1,rfl,hs1⟩
 replace hm:=bn hm hm1
 replace h4:=h4.mono hm1
 replace hs31:=hs31.mono hm1
 replace hs22:=hs22.mono hm1
 refine uL ?_
 refine qs rfl (cq tab rStr (hs:=[([91] : Str)]) (l:=[([91] : Str)]) ⟨rfl,trivial⟩ rfl rfl rfl rfl rfl (by decide) (fun s2 ma hma hs2 ho2 hc2 => ?_))
 replace hm:=bn hm hma
 replace h4:=h4.mono hma
 replace hs31:=hs31.mono hma
 replace hs22:=hs22.mono hma
 replace hs1:=hs1.mono hma
 refine uL ?_
 refine oC goes81 ((cH _ _ s2).x ?_);
 rintro _ _ _ ⟨rfl,rfl,rfl⟩
 refine uL ?_
 refine qs rfl (cq tab rStr (hs:=[([58] : Str)]) (l:=[([58] : Str)]) ⟨rfl,trivial⟩ rfl rfl rfl rfl rfl (by decide) (fun s3 ma hma hs3 ho3 hc3 => ?_))
 replace hm:=bn hm hma
 replace h4:=h4.mono hma
 replace hs31:=hs31.mono hma
 replace hs22:=hs22.mono hma
 replace hs1:=hs1.mono hma
 replace hs2:=hs2.mono hma
 refine uL ?_
 refine oC goes81 ((cH _ _ s3).x ?_);
 rintro _ _ _ ⟨rfl,rfl,rfl⟩
 refine uL ?_
 refine qs rfl (cq tab rStr (hs:=[([93] : Str)]) (l:=[([93] : Str)]) ⟨rfl,trivial⟩ rfl rfl rfl rfl rfl (by decide) (fun s4 ma hma hs4 ho4 hc4 => ?_))
 replace hm:=bn hm hma
 replace h4:=h4.mono hma
 replace hs31:=hs31.mono hma
 replace hs22:=hs22.mono hma
 replace hs1:=hs1.mono hma
 replace hs2:=hs2.mono hma
 replace hs3:=hs3.mono hma
 refine uL ?_
 refine oC goes81 ((cH _ _ s4).x ?_);
 rintro _ _ _ ⟨rfl,rfl,rfl⟩
 refine uL ?_
 refine qs rfl (cq tab rSS (hs:=[s1,s2,s31,s3,s22,s4]) (l:=[rtk ks[0],[([91] : Str)],rtk ks[1],[([58] : Str)],([] : List Str),[([93] : Str)]]) ⟨hs1,hs2,hs31,hs3,hs22,hs4,trivial⟩ rfl rfl rfl rfl rfl (by decide) (fun s5 ma hma hs5 ho5 hc5 => ?_))
 replace hm:=bn hm hma
 replace h4:=h4.mono hma
 replace hs31:=hs31.mono hma
 replace hs22:=hs22.mono hma
 replace hs1:=hs1.mono hma
 replace hs2:=hs2.mono hma
 replace hs3:=hs3.mono hma
 replace hs4:=hs4.mono hma
 refine uL ?_
 refine oC goes80 ((cI _ _ s5 _ hs5 (by rw [show List.flatten _=rtk (.mk 50 n0 1 ks) from by (show List.flatten _=(Pt.toks (.mk 50 n0 1 ks)).map txt);rw [et];simp [rtk,txt,cJ,cK]];rw [cE];exact hl)).x ?_);
 rintro _ m2 _ ⟨hm2,s2,rfl,hs2,ho2,rfl⟩
 refine uL ?_
 refine bu rfl (L':=tok s2 1 :: L) uS ⟨bn hm hm2,s2,rfl, ?_,ho2,rfl⟩
 rw [rtk,et]
 simpa [rtk,txt] using hs2
theorem ex_50u2 (n0 : Str) (ks : List Tree) (hok : OkK 50 2 ks.length n0.length) (hv : ks.length=2) (hk : ∀ t ∈ ks,TkCall t) (hl : (Pt.toks (.mk 50 n0 2 ks)).length ≤ 1000000) (m : Mem) (L : List Item) (h : HTree) (hr : TreeRep m h (.mk 50 n0 2 ks)) :
  TCall Tryz.prog 85 ⟨[treeV h]⟩ m L (TkO m L (rtk (.mk 50 n0 2 ks))):=by
 obtain ⟨-,k1,k2,k3,k4,k5,k6,k7⟩:=hok
 obtain ⟨hkd,hn,hu,hks⟩:=h
 obtain ⟨h1,h2,h3,h4⟩:=hr
 simp only [Tree.kind,Tree.name,Tree.num,Tree.kids] at h1 h2 h3 h4
 replace h2:=h2.symm
 subst h1 h2 h3
 have hlen:=h4.len
 have hsm:=h4.small rfl
 have hm:=bm m
 have n1 : 2 ≤ ks.length:=by omega
 obtain ⟨ha,hl0,hc⟩:=hks
 obtain rfl : hl0=2:=by have:=hlen;simp only at this;omega
 have x0 : ks[0]? = some ks[0]:=ak (by omega)
 have x1 : ks[1]? = some ks[1]:=ak (by omega)
 have et : Pt.toks (.mk 50 n0 2 ks)=nth (ks.map Pt.toks) 0++Pt.mk [91] :: ([]++Pt.mk [58] :: (nth (ks.map Pt.toks) 1++[Pt.mk [93]])):=by rw [toks_eq];show comb 50 n0 2 (ks.map Pt.toks)=_;unfold comb;simp [hv]
 have y0 : nth (ks.map Pt.toks) 0=Pt.toks ks[0]:=nth_map ks 0 (by omega)
 have y1 : nth (ks.map Pt.toks) 1=Pt.toks ks[1]:=nth_map ks 1 (by omega)
 rw [y0,y1] at et
 have hl2:=hl
 rw [et] at hl2
 try simp only [aa,ab,ae] at hl2
 unfold TCall
 refine bw Tryz.func85 rfl 201 rfl ?_
 refine uA ?_
 refine oB (fun b => ?_)
 refine uL ?_
 refine qs rfl (cq tab rStr (hs:=[]) (l:=[]) trivial rfl rfl rfl rfl rfl (by decide) (fun s21 ma hma hs21 _ _ => ?_))
 replace hm:=bn hm hma
 replace h4:=h4.mono hma
 refine uL ?_
 refine qs rfl (cq tab rStr (hs:=[]) (l:=[]) trivial rfl rfl rfl rfl rfl (by decide) (fun s22 ma hma hs22 _ _ => ?_))
 replace hm:=bn hm hma
 replace h4:=h4.mono hma
 replace hs21:=hs21.mono hma
 refine uL ?_
 refine qs rfl (bK (r':=1) rfl rfl rfl rfl rfl rfl rfl (by decide) ?_)
 refine uA ?_
 refine qs rfl (bO tab rTree 1 h4 rfl rfl rfl rfl rfl (by first | rfl | omega | (simp only;omega)) rfl x1 ?_)
 rintro b1 i1 c1 r1 A1
 (refine oL tab A1 ?_)
 refine uA ?_
 refine oC goes44 ((TkO.drop (hk _ (aB _) _ _ c1 (rTree_iff.1 r1))).x ?_);
 rintro _ m32 _ ⟨hm32,rfl,s32,rfl,hs32⟩
 replace hm:=bn hm hm32
 replace h4:=h4.mono hm32
 replace hs21:=hs21.mono hm32
 refine uL ?_
 refine qs rfl (bO tab rTree 0 h4 rfl rfl rfl rfl rfl (by first | rfl | omega | (simp only;omega)) rfl x0 ?_)
 rintro b0 i0 c0 r0 A0
 (refine oL tab A0 ?_)
 refine uA ?_
 refine oC goes44 ((TkO.drop (hk _ (aB _) _ _ c0 (rTree_iff.1 r0))).x ?_);
 rintro _ m1 _ ⟨hm1,rfl,s1,rfl,hs1⟩
 replace hm:=bn hm hm1
 replace h4:=h4.mono hm1
 replace hs21:=hs21.mono hm1
 replace hs32:=hs32.mono hm1
 refine uL ?_
 refine qs rfl (cq tab rStr (hs:=[([91] : Str)]) (l:=[([91] : Str)]) ⟨rfl,trivial⟩ rfl rfl rfl rfl rfl (by decide) (fun s2 ma hma hs2 ho2 hc2 => ?_))
 replace hm:=bn hm hma
 replace h4:=h4.mono hma
 replace hs21:=hs21.mono hma
 replace hs32:=hs32.mono hma
 replace hs1:=hs1.mono hma
 refine uL ?_
 refine oC goes81 ((cH _ _ s2).x ?_);
 rintro _ _ _ ⟨rfl,rfl,rfl⟩
 refine uL ?_
 refine qs rfl (cq tab rStr (hs:=[([58] : Str)]) (l:=[([58] : Str)]) ⟨rfl,trivial⟩ rfl rfl rfl rfl rfl (by decide) (fun s3 ma hma hs3 ho3 hc3 => ?_))
 replace hm:=bn hm hma
 replace h4:=h4.mono hma
 replace hs21:=hs21.mono hma
 replace hs32:=hs32.mono hma
 replace hs1:=hs1.mono hma
 replace hs2:=hs2.mono hma
 refine uL ?_
 refine oC goes81 ((cH _ _ s3).x ?_);
 rintro _ _ _ ⟨rfl,rfl,rfl⟩
 refine uL ?_
 refine qs rfl (cq tab rStr (hs:=[([93] : Str)]) (l:=[([93] : Str)]) ⟨rfl,trivial⟩ rfl rfl rfl rfl rfl (by decide) (fun s4 ma hma hs4 ho4 hc4 => ?_))
 replace hm:=bn hm hma
 replace h4:=h4.mono hma
 replace hs21:=hs21.mono hma
 replace hs32:=hs32.mono hma
 replace hs1:=hs1.mono hma
 replace hs2:=hs2.mono hma
 replace hs3:=hs3.mono hma
 refine uL ?_
 refine oC goes81 ((cH _ _ s4).x ?_);
 rintro _ _ _ ⟨rfl,rfl,rfl⟩
 refine uL ?_
 refine qs rfl (cq tab rSS (hs:=[s1,s2,s21,s3,s32,s4]) (l:=[rtk ks[0],[([91] : Str)],([] : List Str),[([58] : Str)],rtk ks[1],[([93] : Str)]]) ⟨hs1,hs2,hs21,hs3,hs32,hs4,trivial⟩ rfl rfl rfl rfl rfl (by decide) (fun s5 ma hma hs5 ho5 hc5 => ?_))
 replace hm:=bn hm hma
 replace h4:=h4.mono hma
 replace hs21:=hs21.mono hma
 replace hs32:=hs32.mono hma
 replace hs1:=hs1.mono hma
 replace hs2:=hs2.mono hma
 replace hs3:=hs3.mono hma
 replace hs4:=hs4.mono hma
 refine uL ?_
 refine oC goes80 ((cI _ _ s5 _ hs5 (by rw [show List.flatten _=rtk (.mk 50 n0 2 ks) from by (show List.flatten _=(Pt.toks (.mk 50 n0 2 ks)).map txt);rw [et];simp [rtk,txt,cJ,cK]];rw [cE];exact hl)).x ?_);
 rintro _ m2 _ ⟨hm2,s2,rfl,hs2,ho2,rfl⟩
 refine uL ?_
 refine bu rfl (L':=tok s2 1 :: L) uS ⟨bn hm hm2,s2,rfl, ?_,ho2,rfl⟩
 rw [rtk,et]
 simpa [rtk,txt] using hs2
theorem ex_50u3 (n0 : Str) (ks : List Tree) (hok : OkK 50 3 ks.length n0.length) (hv : ks.length=3) (hk : ∀ t ∈ ks,TkCall t) (hl : (Pt.toks (.mk 50 n0 3 ks)).length ≤ 1000000) (m : Mem) (L : List Item) (h : HTree) (hr : TreeRep m h (.mk 50 n0 3 ks)) :
  TCall Tryz.prog 85 ⟨[treeV h]⟩ m L (TkO m L (rtk (.mk 50 n0 3 ks))):=by
 obtain ⟨-,k1,k2,k3,k4,k5,k6,k7⟩:=hok
 obtain ⟨hkd,hn,hu,hks⟩:=h
 obtain ⟨h1,h2,h3,h4⟩:=hr
 simp only [Tree.kind,Tree.name,Tree.num,Tree.kids] at h1 h2 h3 h4
 replace h2:=h2.symm
 subst h1 h2 h3
 have hlen:=h4.len
 have hsm:=h4.small rfl
 have hm:=bm m
 have n1 : 3 ≤ ks.length:=by omega
 obtain ⟨ha,hl0,hc⟩:=hks
 obtain rfl : hl0=3:=by have:=hlen;simp only at this;omega
 have x0 : ks[0]? = some ks[0]:=ak (by omega)
 have x1 : ks[1]? = some ks[1]:=ak (by omega)
 have x2 : ks[2]? = some ks[2]:=ak (by omega)
 have et : Pt.toks (.mk 50 n0 3 ks)=nth (ks.map Pt.toks) 0++Pt.mk [91] :: (nth (ks.map Pt.toks) 1++Pt.mk [58] :: (nth (ks.map Pt.toks) 2++[Pt.mk [93]])):=by rw [toks_eq];show comb 50 n0 3 (ks.map Pt.toks)=_;unfold comb;simp [hv]
 have y0 : nth (ks.map Pt.toks) 0=Pt.toks ks[0]:=nth_map ks 0 (by omega)
 have y1 : nth (ks.map Pt.toks) 1=Pt.toks ks[1]:=nth_map ks 1 (by omega)
 have y2 : nth (ks.map Pt.toks) 2=Pt.toks ks[2]:=nth_map ks 2 (by omega)
 rw [y0,y1,y2] at et
 have hl2:=hl
 rw [et] at hl2
 try simp only [aa,ab,ae] at hl2
 unfold TCall
 refine bw Tryz.func85 rfl 201 rfl ?_
 refine uA ?_
 refine oB (fun b => ?_)
 refine uL ?_
 refine qs rfl (cq tab rStr (hs:=[]) (l:=[]) trivial rfl rfl rfl rfl rfl (by decide) (fun s21 ma hma hs21 _ _ => ?_))
 replace hm:=bn hm hma
 replace h4:=h4.mono hma
 refine uL ?_
 refine qs rfl (cq tab rStr (hs:=[]) (l:=[]) trivial rfl rfl rfl rfl rfl (by decide) (fun s22 ma hma hs22 _ _ => ?_))
 replace hm:=bn hm hma
 replace h4:=h4.mono hma
 replace hs21:=hs21.mono hma
 refine uL ?_
 refine qs rfl (bO tab rTree 1 h4 rfl rfl rfl rfl rfl (by first | rfl | omega | (simp only;omega)) rfl x1 ?_)
 rintro b1 i1 c1 r1 A1
 (refine oL tab A1 ?_)
 refine uA ?_
 refine oC goes44 ((TkO.drop (hk _ (aB _) _ _ c1 (rTree_iff.1 r1))).x ?_);
 rintro _ m31 _ ⟨hm31,rfl,s31,rfl,hs31⟩
 replace hm:=bn hm hm31
 replace h4:=h4.mono hm31
 replace hs22:=hs22.mono hm31
 refine uL ?_
 refine qs rfl (bK (r':=2) rfl rfl rfl rfl rfl rfl rfl (by decide) ?_)
 refine uA ?_
 refine qs rfl (bO tab rTree 2 h4 rfl rfl rfl rfl rfl (by first | rfl | omega | (simp only;omega)) rfl x2 ?_)
 rintro b2 i2 c2 r2 A2
 (refine oL tab A2 ?_)
 refine uA ?_
 refine oC goes44 ((TkO.drop (hk _ (aB _) _ _ c2 (rTree_iff.1 r2))).x ?_);
 rintro _ m32 _ ⟨hm32,rfl,s32,rfl,hs32⟩
 replace hm:=bn hm hm32
 replace h4:=h4.mono hm32
 replace hs31:=hs31.mono hm32
 refine uL ?_
 refine qs rfl (bO tab rTree 0 h4 rfl rfl rfl rfl rfl (by first | rfl | omega | (simp only;omega)) rfl x0 ?_)
 rintro b0 i0 c0 r0 A0
 (refine oL tab A0 ?_)
 refine uA ?_
 refine oC goes44 ((TkO.drop (hk _ (aB _) _ _ c0 (rTree_iff.1 r0))).x ?_);
 rintro _ m1 _ ⟨hm1,rfl,s1,rfl,hs1⟩
 replace hm:=bn hm hm1
 replace h4:=h4.mono hm1
 replace hs31:=hs31.mono hm1
 replace hs32:=hs32.mono hm1
 refine uL ?_
 refine qs rfl (cq tab rStr (hs:=[([91] : Str)]) (l:=[([91] : Str)]) ⟨rfl,trivial⟩ rfl rfl rfl rfl rfl (by decide) (fun s2 ma hma hs2 ho2 hc2 => ?_))
 replace hm:=bn hm hma
 replace h4:=h4.mono hma
 replace hs31:=hs31.mono hma
 replace hs32:=hs32.mono hma
 replace hs1:=hs1.mono hma
 refine uL ?_
 refine oC goes81 ((cH _ _ s2).x ?_);
 rintro _ _ _ ⟨rfl,rfl,rfl⟩
 refine uL ?_
 refine qs rfl (cq tab rStr (hs:=[([58] : Str)]) (l:=[([58] : Str)]) ⟨rfl,trivial⟩ rfl rfl rfl rfl rfl (by decide) (fun s3 ma hma hs3 ho3 hc3 => ?_))
 replace hm:=bn hm hma
 replace h4:=h4.mono hma
 replace hs31:=hs31.mono hma
 replace hs32:=hs32.mono hma
 replace hs1:=hs1.mono hma
 replace hs2:=hs2.mono hma
 refine uL ?_
 refine oC goes81 ((cH _ _ s3).x ?_);
 rintro _ _ _ ⟨rfl,rfl,rfl⟩
 refine uL ?_
 refine qs rfl (cq tab rStr (hs:=[([93] : Str)]) (l:=[([93] : Str)]) ⟨rfl,trivial⟩ rfl rfl rfl rfl rfl (by decide) (fun s4 ma hma hs4 ho4 hc4 => ?_))
 replace hm:=bn hm hma
 replace h4:=h4.mono hma
 replace hs31:=hs31.mono hma
 replace hs32:=hs32.mono hma
 replace hs1:=hs1.mono hma
 replace hs2:=hs2.mono hma
 replace hs3:=hs3.mono hma
 refine uL ?_
 refine oC goes81 ((cH _ _ s4).x ?_);
 rintro _ _ _ ⟨rfl,rfl,rfl⟩
 refine uL ?_
 refine qs rfl (cq tab rSS (hs:=[s1,s2,s31,s3,s32,s4]) (l:=[rtk ks[0],[([91] : Str)],rtk ks[1],[([58] : Str)],rtk ks[2],[([93] : Str)]]) ⟨hs1,hs2,hs31,hs3,hs32,hs4,trivial⟩ rfl rfl rfl rfl rfl (by decide) (fun s5 ma hma hs5 ho5 hc5 => ?_))
 replace hm:=bn hm hma
 replace h4:=h4.mono hma
 replace hs31:=hs31.mono hma
 replace hs32:=hs32.mono hma
 replace hs1:=hs1.mono hma
 replace hs2:=hs2.mono hma
 replace hs3:=hs3.mono hma
 replace hs4:=hs4.mono hma
 refine uL ?_
 refine oC goes80 ((cI _ _ s5 _ hs5 (by rw [show List.flatten _=rtk (.mk 50 n0 3 ks) from by (show List.flatten _=(Pt.toks (.mk 50 n0 3 ks)).map txt);rw [et];simp [rtk,txt,cJ,cK]];rw [cE];exact hl)).x ?_);
 rintro _ m2 _ ⟨hm2,s2,rfl,hs2,ho2,rfl⟩
 refine uL ?_
 refine bu rfl (L':=tok s2 1 :: L) uS ⟨bn hm hm2,s2,rfl, ?_,ho2,rfl⟩
 rw [rtk,et]
 simpa [rtk,txt] using hs2
end Go.Sep

