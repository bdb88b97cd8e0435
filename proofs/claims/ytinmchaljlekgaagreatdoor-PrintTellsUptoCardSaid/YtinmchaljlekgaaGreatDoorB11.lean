/- PsW10 -/
import Derived.Test.YtinmchaljlekgaaGreatDoorB10
set_option linter.unusedVariables false
set_option linter.unusedSimpArgs false
set_option maxHeartbeats 6400000
namespace Go.Ps
theorem oneOf_some {α : Type} {ops : List Sep.Str} {A : Sep.Str→Pp α} {B : Pp α} {f : F} {k : Nat} {s : Sep.Str} (h : ops.find? (fun s=>isM s f k)=some s) : oneOf ops A B f k=A s f (k + 1):=by unfold oneOf;rw [h]
theorem oneOf_none {α : Type} {ops : List Sep.Str} {A : Sep.Str→Pp α} {B : Pp α} {f : F} {k : Nat} (h : ops.find? (fun s=>isM s f k)=none) : oneOf ops A B f k=B f k:=by unfold oneOf;rw [h]
theorem find_at {p : Sep.Str→Bool} {l : List Sep.Str} {i : Nat} (hi : i < l.length) (h1 : (l.take i).all (fun s => !p s)=true) (h2 : p l[i]=true) : l.find? p=some l[i]:=by
 have e : l=l.take i++l[i] :: l.drop (i + 1):=by rw [List.getElem_cons_drop,aV]
 rw [List.find?_eq_some_iff_append]
 exact ⟨h2,l.take i,l.drop (i + 1),e,fun a ha=>by simpa using List.all_eq_true.1 h1 a ha⟩
theorem find_no {p : Sep.Str→Bool} {l : List Sep.Str} (h1 : l.all (fun s => !p s)=true) : l.find? p=none:=by
 rw [List.find?_eq_none]
 intro a ha
 simpa using List.all_eq_true.1 h1 a ha
end Go.Ps
namespace Go.Sep
open Go.Proofs
attribute [local irreducible] TC TO OT TCallX TCall DO DOt thenQ blockQ retQ At
section
variable {mb : Mem} {E : PE} {h : Int}
theorem levels_law (m : Mem) (L : List Item) : TCall Tryz.prog 180 ⟨[]⟩ m L (Made m L fun r m' => ∃ s : Sl,r=s.v∧SlRep (rSl rStr) m' s Ps.levels):=by
 unfold TCall
 refine bw Tryz.func180 rfl 7 rfl ?_
 refine uA ?_
 refine qs rfl (cq tab rStr (hs:=[[124,124]]) (l:=[[124,124]]) ⟨rfl,trivial⟩ rfl rfl rfl rfl rfl (by decide) (fun s1 m1 h1 hs1 _ _ => ?_))
 refine qs rfl (cq tab rStr (hs:=[[38,38]]) (l:=[[38,38]]) ⟨rfl,trivial⟩ rfl rfl rfl rfl rfl (by decide) (fun s2 m2 h2 hs2 _ _ => ?_))
 refine qs rfl (cq tab rStr (hs:=[[61,61],[33,61],[60],[60,61],[62],[62,61]]) (l:=[[61,61],[33,61],[60],[60,61],[62],[62,61]]) ⟨rfl,rfl,rfl,rfl,rfl,rfl,trivial⟩ rfl rfl rfl rfl rfl (by decide) (fun s3 m3 h3 hs3 _ _ => ?_))
 refine qs rfl (cq tab rStr (hs:=[[43],[45]]) (l:=[[43],[45]]) ⟨rfl,rfl,trivial⟩ rfl rfl rfl rfl rfl (by decide) (fun s4 m4 h4 hs4 _ _ => ?_))
 refine qs rfl (cq tab rStr (hs:=[[42],[47],[37]]) (l:=[[42],[47],[37]]) ⟨rfl,rfl,rfl,trivial⟩ rfl rfl rfl rfl rfl (by decide) (fun s5 m5 h5 hs5 _ _ => ?_))
 have k45:=h5
 have k35:=bn h4 k45
 have k25:=bn h3 k35
 have k15:=bn h2 k25
 refine qs rfl (cq tab (rSl rStr) (hs:=[s1,s2,s3,s4,s5]) (l:=Ps.levels) ⟨hs1.mono k15,hs2.mono k25,hs3.mono k35,hs4.mono k45,hs5,trivial⟩ rfl rfl rfl rfl rfl (by decide) (fun s m6 h6 hs _ _ => ?_))
 refine uA ?_
 refine bu rfl uS ⟨bn h1 (bn k15 h6),rfl,s,rfl,hs⟩
theorem levels_ne {ops : List Str} (ho : ops ∈ Ps.levels) {s : Str} (hs : s ∈ ops) : s ≠ []:=by
 have : ∀ ops ∈ Ps.levels, ∀ s ∈ ops,s ≠ []:=by decide
 exact this ops ho s hs
theorem binary_par {U : Ps.Pp Tree} (hU : Par Tryz.prog mb E vTree 203 [E.v] h U) :
  ∀ d j : Nat,j + d=5→Par Tryz.prog mb E vTree 200 [E.v, .int .i64 (j : Int)] h (Ps.binL E.N U (Ps.levels.drop j)):=by
 intro d
 induction d with
 | zero =>
  intro j hj
  refine cy Tryz.func200 rfl 46 rfl fun m L k T hm0 hE hk hT hn => ?_
  replace hU:=hU.up hm0
  obtain rfl : j=5:=by omega
  have hm : m ≤ m:=bm _
  replace hT : T=Ps.bind U Ps.ret E.f k:=by rw [Ps.bind_ret];exact hT
  refine uA ?_
  refine oA tab (fun b4 => ?_);refine bD (ag _ _ _) ?_
  refine uA ?_
  refine oC goes180 ((levels_law _ _).x ?_);
  rintro _ m1 _ ⟨hm1,rfl,s,rfl,hs⟩
  have hlen:=hs.len
  replace hm:=hm1
  replace hE:=hE.mono hm1
  refine uA ?_
  refine bq rfl (fun hc => ?_) (fun hc => ?_)
  ·refine uA ?_
   refine qs rfl (cC (L0:=L) (hU) hm hT hn hE hk (by repeat (first|exact cz|refine cA ?_)) hm uS rfl rfl rfl rfl rfl rfl goes203 (fun x m2 a k2 hT hm hE hlex hk hrx => ?_))
   refine uA ?_
   refine uT ?_
   refine uA ?_
   refine ci tab 1 rfl rfl rfl rfl (L':=E.I k2 h :: L) uS ⟨_,k2,[],hT,hm,hk,⟨x,rfl,rfl,hrx⟩,rfl⟩
  ·exact absurd (by rw [hlen];rfl) hc
 | succ d ih =>
  intro j hj
  have ihj:=ih (j + 1) (by omega)
  have hjl : j < Ps.levels.length:=by show j < 5;omega
  have hops : Ps.levels.drop j=Ps.levels[j] :: Ps.levels.drop (j + 1):=aJ hjl
  have hne : ∀ s ∈ Ps.levels[j],s ≠ []:=fun s hs=>levels_ne (aB hjl) hs
  have hget : Ps.levels[j]? = some Ps.levels[j]:=ak hjl
  generalize Ps.levels[j]=ops at hops hne hget
  generalize hXe : Ps.binL E.N U (Ps.levels.drop (j + 1))=X at ihj
  have hspec : Ps.binL E.N U (Ps.levels.drop j)=Ps.bind X (Ps.loopB E.N ops X):=by rw [hops,← hXe];rfl
  rw [hspec]
  clear hspec hXe hops
  refine cy Tryz.func200 rfl 46 rfl fun m L k T hm0 hE hk hT hn => ?_
  replace ihj:=ihj.up hm0
  have hm : m ≤ m:=bm _
  refine uA ?_
  refine oA tab (fun b4 => ?_);refine bD (ag _ _ _) ?_
  refine uA ?_
  refine oC goes180 ((levels_law _ _).x ?_);
  rintro _ m1 _ ⟨hm1,rfl,s,rfl,hs⟩
  have hlen:=hs.len
  replace hm:=hm1
  replace hE:=hE.mono hm1
  refine uA ?_
  refine bq rfl (fun hc => ?_) (fun hc => ?_)
  ·have : s.len=5:=by rw [hlen];rfl
   omega
  refine uA ?_
  refine qs rfl (bK (r':=((j + 1 : Nat) : Int)) rfl rfl rfl rfl rfl rfl rfl (by omega) ?_)
  refine qs rfl (cC (L0:=L) (ihj) hm hT hn hE hk (by repeat (first|exact cz|refine cA ?_)) hm uS rfl rfl rfl rfl rfl rfl goes200 (fun x m2 a k2 hT hm hE hlex hk hrx => ?_))
  replace hs:=hs.mono hlex
  have hlex' : m ≤ m2:=hm
  refine uA ?_
  refine oA tab (fun b6 => ?_);refine bD (ag _ _ _) ?_
  refine uA ?_
  refine uT ?_
  refine uA ?_
  refine br (ι:=HTree × Mem × Tree × Nat × Nat) [0,1,4,5,6] rfl (fun _=>[]) (fun x=>x.2.1) (fun x=>E.I x.2.2.2.1 h :: .cells b6 0 (treeC x.1) :: .cells b4 0 [.int .i64 0,strV [], .int .i64 0, .slice none 0 0] :: L) (fun x=>m2 ≤ x.2.1∧x.2.2.2.1 ≤ E.toks.length∧TreeRep x.2.1 x.1 x.2.2.1∧T=Ps.loopB x.2.2.2.2 ops X x.2.2.1 E.f x.2.2.2.1) (fun x=>x.2.2.2.2) (x,m2,a,k2,E.N) uH rfl uS ⟨bm _,hk,hrx,hT⟩ ?_
  rintro ⟨x,m3,a,k3,N⟩ ⟨hm3,hk,hrx,hT⟩
  simp only at hm3 hk hrx hT
  replace hm:=bn hm hm3
  replace hE:=hE.mono hm3
  replace hs:=hs.mono hm3
  cases N with
  | zero=>exact absurd hT hn
  | succ N =>
   replace hT : T=Ps.oneOf ops (fun op=>Ps.bind X fun m=>Ps.loopB N ops X (Ps.binT op a m)) (Ps.ret a) E.f k3:=hT
   refine q2 ?_
   refine q1 ?_
   refine q3 ?_
   refine q4 tab rfl rfl ?_
   refine q5 ?_
   refine q6 ?_
   refine TC.cut (ι:=Str × Nat) [0,1,4,5,6] rfl (fun i=>[(7,strV i.1)]) (fun _=>m3) (fun i=>E.I i.2 h :: .cells b6 0 (treeC x) :: .cells b4 0 [.int .i64 0,strV [], .int .i64 0, .slice none 0 0] :: L) (fun i=>(i.1=[]∧i.2=k3∧ops.find? (fun s=>Ps.isM s E.f k3)=none) ∨ (i.1 ≠ []∧i.2=k3 + 1∧k3 + 1 ≤ E.toks.length∧ops.find? (fun s=>Ps.isM s E.f k3)=some i.1)) ?_ ?_
   ·refine uA ?_
    refine qs rfl (bO tab (rSl rStr) j hs rfl rfl rfl rfl rfl rfl rfl hget ?_)
    intro bi ii row hrow hAr
    have hrow' : SlRep rStr m3 row ops:=hrow
    have hlr:=hrow'.len
    have hsm:=hrow'.small rfl
    refine uA ?_
    (refine oL tab hAr ?_)
    refine uA ?_
    refine br (ι:=Nat) [0,1,4,5,6,7,24,25] rfl (fun i=>[(26, .int .i64 (i : Int))]) (fun _=>m3) (fun i=>E.I k3 h :: .cells b6 0 (treeC x) :: .cells b4 0 [.int .i64 0,strV [], .int .i64 0, .slice none 0 0] :: L) (fun i=>i ≤ ops.length∧(ops.take i).all (fun s => !Ps.isM s E.f k3)=true) (fun i=>ops.length - i) 0 uH rfl uS ⟨aU _,by simp⟩ ?_
    rintro i ⟨hi,hI⟩
    refine uA ?_
    refine bq rfl (fun hc2 => ?_) (fun hc2 => ?_)
    ·have hlt : i < ops.length:=by omega
     have hx : ops[i]? = some ops[i]:=ak hlt
     refine uA ?_
     refine qs rfl (bO tab rStr i hrow' rfl rfl rfl rfl rfl (by first | rfl | omega | (simp only;omega)) rfl hx ?_)
     rintro bs is' sv hsv hAs
     obtain rfl:=(show sv=ops[i] from hsv)
     refine uA ?_
     (refine oL tab hAs ?_)
     refine uA ?_
     refine oC goes110 ((take_law ops[i] hE hk).x ?_);
     rintro _ _ _ ⟨rfl,rfl,rfl⟩
     unfold PE.step
     cases hb : Ps.isM ops[i] E.f k3 with
     | true =>
      refine uA ?_
      exact ⟨(ops[i],k3 + 1),uH,uH,rfl,rfl,uS, .inr ⟨hne _ (aB hlt),rfl,PE.isM_lt hb,Ps.find_at hlt hI hb⟩⟩
     | false =>
      refine uA ?_
      refine qs rfl (bK (r':=((i + 1 : Nat) : Int)) rfl rfl rfl rfl rfl rfl rfl (by omega) ?_)
      refine uA ?_
      exact ⟨i + 1,uH,uH,rfl,rfl,uS,⟨hlt,by rw [aX hlt,List.all_append,hI];simp [hb]⟩,by omega⟩
    ·rw [aT (by omega)] at hI
     refine uA ?_
     exact ⟨([],k3),uH,uH,rfl,rfl,uS, .inl ⟨rfl,rfl,Ps.find_no hI⟩⟩
   ·rintro ⟨found,k4⟩ hI
    simp only at hI
    refine uA ?_
    refine bq rfl (fun hf => ?_) (fun hf => ?_)
    ·rcases hI with ⟨rfl,rfl,hI⟩ | ⟨h1,_⟩
     ·rw [Ps.oneOf_none hI] at hT
      refine uA ?_
      refine uM ?_
      refine uA ?_
      refine qs rfl (bJ tab 2 rfl rfl rfl rfl rfl rfl rfl rfl ?_)
      refine uA ?_
      refine ci tab 2 rfl rfl rfl rfl (L':=E.I k4 h :: L) uS ⟨_,k4,[],hT,hm,hk,⟨x,rfl,rfl,hrx⟩,rfl⟩
     ·exact absurd hf h1
    ·rcases hI with ⟨h1,_⟩ | ⟨_,rfl,hk,hI⟩
     ·exact absurd h1 hf
     rw [Ps.oneOf_some hI] at hT
     refine uA ?_
     refine bQ [8] cr 9 rfl [.cells b6 0 (treeC x)] (E.I (k3 + 1) h :: .cells b4 0 [.int .i64 0,strV [], .int .i64 0, .slice none 0 0] :: L) (ag _ _ _) ?_
     refine bV tab uC uK [0] uK rfl ?_
     (refine bW (k:=0) tab 1 0 uC uK uK rfl rfl rfl rfl rfl rfl rfl rfl ?_)
     refine bV tab uC uK [2,3] uK rfl ?_
     refine DO.arith 4 (r':=((j + 1 : Nat) : Int)) uC uK uK rfl rfl rfl rfl rfl rfl rfl rfl (by first | rfl | omega | (simp only;omega)) (by omega) ?_
     refine bZ 5 rfl rfl uK rfl ?_
     refine ce (ag _ _ _) (cC (L0:=L) ihj (bn hlex' hm3) hT hn hE hk (by repeat (first|exact cz|refine cA ?_|refine cB ?_)) hm uS rfl rfl rfl rfl rfl rfl goes200 (fun y m5 b k5 hT hm hE hle5 hk hry => ?_));refine ⟨hle5,E.I k5 h :: .cells b4 0 [.int .i64 0,strV [], .int .i64 0, .slice none 0 0] :: L,ag _ _ _, ?_⟩
     refine bZ 6 rfl rfl uK rfl ?_
     refine cq tab rTree (hs:=[x,y]) (l:=[a,b]) ⟨rTree_iff.2 (hrx.mono hle5),rTree_iff.2 hry,trivial⟩ rfl rfl rfl rfl rfl (by decide) (fun s9 m6 hle6 hs9 ho9 hc9 => ?_);refine ⟨hle6,_,af _, ?_⟩
     refine bV tab uC uK [7] uK rfl ?_
     refine DO.tail ?_
     refine DOt.run 8 rfl rfl uK rfl ?_
     refine bJ tab 0 rfl rfl rfl rfl rfl rfl rfl rfl ?_;refine DOt.perm (ag _ _ _) ?_
     refine DOt.nil uK ?_
     rotate_left 1
     refine uA ?_
     exact ⟨(⟨53,found,0,s9⟩,m6,Ps.binT found a b,k5,N),uH,uH,rfl,rfl,uS,⟨bn hm3 (bn hle5 hle6),hk,⟨rfl,rfl,rfl,hs9⟩,hT⟩,by simp only;omega⟩
theorem expr_par {U : Ps.Pp Tree} (hU : Par Tryz.prog mb E vTree 203 [E.v] h U) :
  Par Tryz.prog mb E vTree 191 [E.v] h (Ps.binL E.N U Ps.levels):=by
 refine cy Tryz.func191 rfl 5 rfl fun m L k T hm0 hE hk hT hn => ?_
 have hB:=(binary_par hU 5 0 rfl).up hm0
 have hm : m ≤ m:=bm _
 replace hT : T=Ps.bind (Ps.binL E.N U Ps.levels) Ps.ret E.f k:=by rw [Ps.bind_ret];exact hT
 refine uA ?_
 refine oA tab (fun b2 => ?_);refine bD (ag _ _ _) ?_
 refine uA ?_
 refine qs rfl (cC (L0:=L) (hB) hm hT hn hE hk (by repeat (first|exact cz|refine cA ?_)) hm uS rfl rfl rfl rfl rfl rfl goes200 (fun x m2 a k2 hT hm hE hlex hk hrx => ?_))
 refine uA ?_
 refine uT ?_
 refine uA ?_
 refine ci tab 1 rfl rfl rfl rfl (L':=E.I k2 h :: L) uS ⟨_,k2,[],hT,hm,hk,⟨x,rfl,rfl,hrx⟩,rfl⟩
theorem unary_par {X Y : Ps.Pp Tree} (hX : Par Tryz.prog mb E vTree 203 [E.v] h X) (hY : Par Tryz.prog mb E vTree 204 [E.v] h Y) :
  Par Tryz.prog mb E vTree 203 [E.v] h (Ps.oneOf [[45],[33],[38],[42]] (fun op=>Ps.bind X fun t=>Ps.ret (.mk 52 op 0 [t])) Y):=by
 refine cy Tryz.func203 rfl 22 rfl fun m L k T hm0 hE hk hT hn => ?_
 replace hX:=hX.up hm0
 replace hY:=hY.up hm0
 have hm : m ≤ m:=bm _
 generalize hops : ([[45],[33],[38],[42]] : List Str)=ops at hT
 refine uA ?_
 refine oA tab (fun b2 => ?_);refine bD (ag _ _ _) ?_
 refine uA ?_
 refine qs rfl (cq tab rStr (hs:=[[45],[33],[38],[42]]) (l:=ops) (by rw [← hops];exact ⟨rfl,rfl,rfl,rfl,trivial⟩) rfl rfl rfl rfl (by rw [← hops];rfl) (by decide) (fun s m1 hm1 hs _ _ => ?_))
 have hlen:=hs.len
 have hsm:=hs.small rfl
 replace hm:=hm1
 replace hE:=hE.mono hm1
 refine uA ?_
 refine br (ι:=Nat) [0,2,5,6] rfl (fun i=>[(7, .int .i64 (i : Int))]) (fun _=>m1) (fun i=>E.I k h :: .cells b2 0 [.int .i64 0,strV [], .int .i64 0, .slice none 0 0] :: L) (fun i=>i ≤ ops.length∧(ops.take i).all (fun s => !Ps.isM s E.f k)=true) (fun i=>ops.length - i) 0 uH rfl uS ⟨aU _,by simp⟩ ?_
 rintro i ⟨hi,hI⟩
 refine uA ?_
 refine bq rfl (fun hc2 => ?_) (fun hc2 => ?_)
 ·have hlt : i < ops.length:=by omega
  have hx : ops[i]? = some ops[i]:=ak hlt
  refine uA ?_
  refine qs rfl (bO tab rStr i hs rfl rfl rfl rfl rfl (by first | rfl | omega | (simp only;omega)) rfl hx ?_)
  rintro bs is' sv hsv hAs
  obtain rfl:=(show sv=ops[i] from hsv)
  refine uA ?_
  (refine oL tab hAs ?_)
  refine uA ?_
  refine oC goes110 ((take_law ops[i] hE hk).x ?_);
  rintro _ _ _ ⟨rfl,rfl,rfl⟩
  unfold PE.step
  cases hb : Ps.isM ops[i] E.f k with
  | true =>
   replace hk:=PE.isM_lt hb
   rw [Ps.oneOf_some (Ps.find_at hlt hI hb)] at hT
   refine uA ?_
   refine qs rfl (cC (L0:=L) (hX) hm hT hn hE hk (by repeat (first|exact cz|refine cA ?_|refine cB ?_)) hm uS rfl rfl rfl rfl rfl rfl goes203 (fun x m2 a k2 hT hm hE hlex hk hrx => ?_))
   refine uA ?_
   refine qs rfl (cq tab rTree (hs:=[x]) (l:=[a]) ⟨rTree_iff.2 hrx,trivial⟩ rfl rfl rfl rfl rfl (by decide) (fun s m3 hle3 hs ho hc => ?_))
   refine uA ?_
   refine uT ?_
   refine uA ?_
   refine ci tab 1 rfl rfl rfl rfl (L':=E.I k2 h :: L) uS ⟨_,k2,[],hT,bn hm hle3,hk,⟨⟨52,ops[i],0,s⟩,rfl,rfl,⟨rfl,rfl,rfl,hs⟩⟩,rfl⟩
  | false =>
   refine uA ?_
   refine qs rfl (bK (r':=((i + 1 : Nat) : Int)) rfl rfl rfl rfl rfl rfl rfl (by omega) ?_)
   refine uA ?_
   exact ⟨i + 1,uH,uH,rfl,rfl,uS,⟨hlt,by rw [aX hlt,List.all_append,hI];simp [hb]⟩,by omega⟩
 ·rw [aT (by omega)] at hI
  rw [Ps.oneOf_none (Ps.find_no hI),← Ps.bind_ret Y] at hT
  refine uA ?_
  refine qs rfl (cC (L0:=L) (hY) hm hT hn hE hk (by repeat (first|exact cz|refine cA ?_)) hm uS rfl rfl rfl rfl rfl rfl goes204 (fun x m2 a k2 hT hm hE hlex hk hrx => ?_))
  refine uA ?_
  refine uT ?_
  refine uA ?_
  refine ci tab 1 rfl rfl rfl rfl (L':=E.I k2 h :: L) uS ⟨_,k2,[],hT,hm,hk,⟨x,rfl,rfl,hrx⟩,rfl⟩
end
end Go.Sep


/- PsSnd2 -/
namespace Go.Sep
open Go.Proofs
attribute [local irreducible] TC TO OT TCallX TCall DO DOt thenQ blockQ retQ At
theorem kidPred {fn : FuncId} {p : Tree→Bool} {a : Tree} (hg : Goes Tryz.prog fn) (hB : a.wide ≤ 140737488355328) (h : ∀ (b : Tree) (m : Mem) (L : List Item) (h : HTree),TreeRep m h b→b.wide ≤ 140737488355328→TCall Tryz.prog fn ⟨[treeV h]⟩ m L (Ret (.bool (p b)) m L)) : IsPred fn p a.kids :=
 ⟨hg,fun m L x k hk hr=>h k m L x hr (aw ((wide_kid hk)) hB)⟩
theorem pr0 {l : List Tree} : ∀ q ∈ ([] : List (FuncId × (Tree→Bool))),IsPred q.1 q.2 l:=fun _ h=>by cases h
theorem pr1 {l : List Tree} {f : FuncId} {p : Tree→Bool} (h : IsPred f p l) : ∀ q ∈ [(f,p)],IsPred q.1 q.2 l:=fun q hq=>by
 rw [List.mem_singleton.1 hq];exact h
theorem pr2 {l : List Tree} {f f2 : FuncId} {p p2 : Tree→Bool} (h : IsPred f p l) (h2 : IsPred f2 p2 l) : ∀ q ∈ [(f,p),(f2,p2)],IsPred q.1 q.2 l:=fun q hq=>by
 rcases List.mem_cons.1 hq with e | hq
 ·rw [e];exact h
 ·exact pr1 h2 q hq
theorem pr3 {l : List Tree} {f f2 f3 : FuncId} {p p2 p3 : Tree→Bool} (h : IsPred f p l) (h2 : IsPred f2 p2 l) (h3 : IsPred f3 p3 l) : ∀ q ∈ [(f,p),(f2,p2),(f3,p3)],IsPred q.1 q.2 l:=fun q hq=>by
 rcases List.mem_cons.1 hq with e | hq
 ·rw [e];exact h
 ·exact pr2 h2 h3 q hq
theorem po0 {l : List Tree} : ∀ q : FuncId × (Tree→Bool),none=some q→IsPred q.1 q.2 l:=fun _ h=>by cases h
theorem po1 {l : List Tree} {f : FuncId} {p : Tree→Bool} (h : IsPred f p l) : ∀ q : FuncId × (Tree→Bool),some (f,p)=some q→IsPred q.1 q.2 l:=fun q e=>by
 cases e;exact h
theorem expr_teller (g : Sg) (a : Tree) (m : Mem) (L : List Item) (h : HTree) (hr : TreeRep m h a) (hB : a.wide ≤ 140737488355328) (hE : IsPred 152 g.expr a.kids) (hK : IsPred 75 g.block a.kids) :
  TCall Tryz.prog 152 ⟨[treeV h]⟩ m L (Ret (.bool (exprS g a)) m L):=by
 have hT : IsPred 34 Tree.isType a.kids:=kidPred goes34 hB fun b m L h hr hB=>type_law b m L h hr hB
 have hSg : IsPred 35 Tree.isSig a.kids:=kidPred goes35 hB fun b m L h hr hB=>sig_law b m L h hr hB
 have hr':=hr
 obtain ⟨h1,h2,h3,h4⟩:=hr
 have hl:=h4.len
 have hsm:=h4.small rfl
 refine cg ?_
 unfold exprS TCall
 refine bw Tryz.func152 rfl 170 rfl ?_
 by_cases hk40 : a.kind=40
 ·rw [if_pos hk40]
  obtain ⟨k,n,u,s⟩:=h
  obtain rfl : k=40:=h1.trans hk40
  simp only at h2 h3 h4 hl
  subst h2
  subst h3
  refine uA ?_
  refine oB (fun b => ?_)
  refine uL ?_
  refine oC goes39 ((bare_law _ _ ⟨40,a.name,a.num,s⟩ a hr' (decide (0 ≤ a.num)) false true).x ?_);
  rintro _ _ _ ⟨rfl,rfl,rfl⟩
  refine uA ?_
  refine bA rfl rfl (fun h7 => ?_) (fun h7 => ?_)
  ·refine uL ?_
   have hm1:=bm m
   refine oC goes63 ((cx m _ ⟨40,a.name,a.num,s⟩ a hr' ⟨none,0,0⟩ [] none (bN _ _) pr0 po0).x ?_);
   rintro _ _ _ ⟨rfl,rfl,rfl⟩
   refine uA ?_
   refine bu rfl uS ⟨hm1,rfl, ?_⟩
   rw [h7];rfl
  ·refine uA ?_
   refine bu rfl uS ⟨bm _,rfl, ?_⟩
   rw [h7];rfl
 rw [if_neg hk40]
 by_cases hk41 : a.kind=41
 ·rw [if_pos hk41]
  obtain ⟨k,n,u,s⟩:=h
  obtain rfl : k=41:=h1.trans hk41
  simp only at h2 h3 h4 hl
  subst h2
  subst h3
  refine uA ?_
  refine oB (fun b => ?_)
  refine uL ?_
  refine oC goes39 ((bare_law _ _ ⟨41,a.name,a.num,s⟩ a hr' (decide ((a.name.length : Int) ≤ 1024)) true false).x ?_);
  rintro _ _ _ ⟨rfl,rfl,rfl⟩
  refine uA ?_
  refine bA rfl rfl (fun h7 => ?_) (fun h7 => ?_)
  ·refine uL ?_
   have hm1:=bm m
   refine oC goes63 ((cx m _ ⟨41,a.name,a.num,s⟩ a hr' ⟨none,0,0⟩ [] none (bN _ _) pr0 po0).x ?_);
   rintro _ _ _ ⟨rfl,rfl,rfl⟩
   refine uA ?_
   refine bu rfl uS ⟨hm1,rfl, ?_⟩
   rw [h7];rfl
  ·refine uA ?_
   refine bu rfl uS ⟨bm _,rfl, ?_⟩
   rw [h7];rfl
 rw [if_neg hk41]
 by_cases hk42 : a.kind=42
 ·rw [if_pos hk42]
  obtain ⟨k,n,u,s⟩:=h
  obtain rfl : k=42:=h1.trans hk42
  simp only at h2 h3 h4 hl
  subst h2
  subst h3
  refine uA ?_
  refine oB (fun b => ?_)
  refine uL ?_
  refine qs rfl (OT.half (r:=a.num / 2) rfl rfl rfl rfl rfl (by decide) (Int.fdiv_eq_ediv_of_nonneg _ (by decide)) ?_)
  refine uA ?_
  refine oC goes39 ((bare_law _ _ ⟨42,a.name,a.num,s⟩ a hr' (decide (a.num / 2=0)) false true).x ?_);
  rintro _ _ _ ⟨rfl,rfl,rfl⟩
  refine uA ?_
  refine bA rfl rfl (fun h7 => ?_) (fun h7 => ?_)
  ·refine uL ?_
   have hm1:=bm m
   refine oC goes63 ((cx m _ ⟨42,a.name,a.num,s⟩ a hr' ⟨none,0,0⟩ [] none (bN _ _) pr0 po0).x ?_);
   rintro _ _ _ ⟨rfl,rfl,rfl⟩
   refine uA ?_
   refine bu rfl uS ⟨hm1,rfl, ?_⟩
   rw [h7];rfl
  ·refine uA ?_
   refine bu rfl uS ⟨bm _,rfl, ?_⟩
   rw [h7];rfl
 rw [if_neg hk42]
 by_cases hk43 : a.kind=43
 ·rw [if_pos hk43]
  obtain ⟨k,n,u,s⟩:=h
  obtain rfl : k=43:=h1.trans hk43
  simp only at h2 h3 h4 hl
  subst h2
  subst h3
  refine uA ?_
  refine oB (fun b => ?_)
  refine uL ?_
  refine oC goes39 ((bare_law _ _ ⟨43,a.name,a.num,s⟩ a hr' true false false).x ?_);
  rintro _ _ _ ⟨rfl,rfl,rfl⟩
  refine uA ?_
  refine bA rfl rfl (fun h7 => ?_) (fun h7 => ?_)
  ·refine uL ?_
   have hm1:=bm m
   refine oC goes63 ((cx m _ ⟨43,a.name,a.num,s⟩ a hr' ⟨none,0,0⟩ [] none (bN _ _) pr0 po0).x ?_);
   rintro _ _ _ ⟨rfl,rfl,rfl⟩
   refine uA ?_
   refine bu rfl uS ⟨hm1,rfl, ?_⟩
   rw [h7];rfl
  ·refine uA ?_
   refine bu rfl uS ⟨bm _,rfl, ?_⟩
   rw [h7];rfl
 rw [if_neg hk43]
 by_cases hk44 : a.kind=44
 ·rw [if_pos hk44]
  obtain ⟨k,n,u,s⟩:=h
  obtain rfl : k=44:=h1.trans hk44
  simp only at h2 h3 h4 hl
  subst h2
  subst h3
  refine uA ?_
  refine oB (fun b => ?_)
  refine uL ?_
  refine oC goes62 ((of_law _ _ ⟨44,a.name,a.num,s⟩ a hr' hB 44).x ?_);
  rintro _ _ _ ⟨rfl,rfl,rfl⟩
  refine uA ?_
  refine bA rfl rfl (fun h7 => ?_) (fun h7 => ?_)
  ·refine uL ?_
   have hm1:=bm m
   refine oC goes63 ((cx m _ ⟨44,a.name,a.num,s⟩ a hr' ⟨none,0,0⟩ [] none (bN _ _) pr0 po0).x ?_);
   rintro _ _ _ ⟨rfl,rfl,rfl⟩
   refine uA ?_
   refine bu rfl uS ⟨hm1,rfl, ?_⟩
   rw [h7];rfl
  ·refine uA ?_
   refine bu rfl uS ⟨bm _,rfl, ?_⟩
   rw [h7];rfl
 rw [if_neg hk44]
 by_cases hk45 : a.kind=45
 ·rw [if_pos hk45]
  obtain ⟨k,n,u,s⟩:=h
  obtain rfl : k=45:=h1.trans hk45
  simp only at h2 h3 h4 hl
  subst h2
  subst h3
  refine uA ?_
  refine oB (fun b => ?_)
  refine uL ?_
  refine oC goes62 ((of_law _ _ ⟨45,a.name,a.num,s⟩ a hr' hB 45).x ?_);
  rintro _ _ _ ⟨rfl,rfl,rfl⟩
  refine uA ?_
  refine bA rfl rfl (fun h7 => ?_) (fun h7 => ?_)
  ·refine uL ?_
   have hm1:=bm m
   refine oC goes40 ((pall_law _ _ s a.kids h4 152 g.expr hE).x ?_);
   rintro _ _ _ ⟨rfl,rfl,rfl⟩
   refine uA ?_
   refine bu rfl uS ⟨hm1,rfl, ?_⟩
   rw [h7];rfl
  ·refine uA ?_
   refine bu rfl uS ⟨bm _,rfl, ?_⟩
   rw [h7];rfl
 rw [if_neg hk45]
 by_cases hk46 : a.kind=46
 ·rw [if_pos hk46]
  obtain ⟨k,n,u,s⟩:=h
  obtain rfl : k=46:=h1.trans hk46
  simp only at h2 h3 h4 hl
  subst h2
  subst h3
  refine uA ?_
  refine oB (fun b => ?_)
  refine uL ?_
  refine oC goes39 ((bare_law _ _ ⟨46,a.name,a.num,s⟩ a hr' true false false).x ?_);
  rintro _ _ _ ⟨rfl,rfl,rfl⟩
  refine uA ?_
  refine bA rfl rfl (fun h7 => ?_) (fun h7 => ?_)
  ·refine uL ?_
   refine qs rfl (cq tab rFn (hs:=[34]) (l:=[34]) ⟨rfl,trivial⟩ rfl rfl rfl rfl rfl (by decide) (fun s1 m1 hm1 hs1 _ _ => ?_))
   refine uA ?_
   refine oC goes63 ((cx m1 _ ⟨46,a.name,a.num,s⟩ a (hr'.mono hm1) s1 [(34,Tree.isType)] (some (152,g.expr)) hs1 (pr1 hT) (po1 hE)).x ?_);
   rintro _ _ _ ⟨rfl,rfl,rfl⟩
   refine uA ?_
   refine bu rfl uS ⟨hm1,rfl, ?_⟩
   rw [h7];rfl
  ·refine uA ?_
   refine bu rfl uS ⟨bm _,rfl, ?_⟩
   rw [h7];rfl
 rw [if_neg hk46]
 by_cases hk47 : a.kind=47
 ·rw [if_pos hk47]
  obtain ⟨k,n,u,s⟩:=h
  obtain rfl : k=47:=h1.trans hk47
  simp only at h2 h3 h4 hl
  subst h2
  subst h3
  refine uA ?_
  refine oB (fun b => ?_)
  refine uL ?_
  refine oC goes39 ((bare_law _ _ ⟨47,a.name,a.num,s⟩ a hr' true false false).x ?_);
  rintro _ _ _ ⟨rfl,rfl,rfl⟩
  refine uA ?_
  refine bA rfl rfl (fun h7 => ?_) (fun h7 => ?_)
  ·refine uL ?_
   refine qs rfl (cq tab rFn (hs:=[35,75]) (l:=[35,75]) ⟨rfl,rfl,trivial⟩ rfl rfl rfl rfl rfl (by decide) (fun s1 m1 hm1 hs1 _ _ => ?_))
   refine uA ?_
   refine oC goes63 ((cx m1 _ ⟨47,a.name,a.num,s⟩ a (hr'.mono hm1) s1 [(35,Tree.isSig),(75,g.block)] none hs1 (pr2 hSg hK) po0).x ?_);
   rintro _ _ _ ⟨rfl,rfl,rfl⟩
   refine uA ?_
   refine bu rfl uS ⟨hm1,rfl, ?_⟩
   rw [h7];rfl
  ·refine uA ?_
   refine bu rfl uS ⟨bm _,rfl, ?_⟩
   rw [h7];rfl
 rw [if_neg hk47]
 by_cases hk48 : a.kind=48
 ·rw [if_pos hk48]
  obtain ⟨k,n,u,s⟩:=h
  obtain rfl : k=48:=h1.trans hk48
  simp only at h2 h3 h4 hl
  subst h2
  subst h3
  refine uA ?_
  refine oB (fun b => ?_)
  refine uL ?_
  refine oC goes62 ((of_law _ _ ⟨48,a.name,a.num,s⟩ a hr' hB 48).x ?_);
  rintro _ _ _ ⟨rfl,rfl,rfl⟩
  refine uA ?_
  refine bA rfl rfl (fun h7 => ?_) (fun h7 => ?_)
  ·refine uL ?_
   refine qs rfl (cq tab rFn (hs:=[152]) (l:=[152]) ⟨rfl,trivial⟩ rfl rfl rfl rfl rfl (by decide) (fun s1 m1 hm1 hs1 _ _ => ?_))
   refine uA ?_
   refine oC goes63 ((cx m1 _ ⟨48,a.name,a.num,s⟩ a (hr'.mono hm1) s1 [(152,g.expr)] none hs1 (pr1 hE) po0).x ?_);
   rintro _ _ _ ⟨rfl,rfl,rfl⟩
   refine uA ?_
   refine bu rfl uS ⟨hm1,rfl, ?_⟩
   rw [h7];rfl
  ·refine uA ?_
   refine bu rfl uS ⟨bm _,rfl, ?_⟩
   rw [h7];rfl
 rw [if_neg hk48]
 by_cases hk49 : a.kind=49
 ·rw [if_pos hk49]
  obtain ⟨k,n,u,s⟩:=h
  obtain rfl : k=49:=h1.trans hk49
  simp only at h2 h3 h4 hl
  subst h2
  subst h3
  refine uA ?_
  refine oB (fun b => ?_)
  refine uL ?_
  refine oC goes39 ((bare_law _ _ ⟨49,a.name,a.num,s⟩ a hr' true false false).x ?_);
  rintro _ _ _ ⟨rfl,rfl,rfl⟩
  refine uA ?_
  refine bA rfl rfl (fun h7 => ?_) (fun h7 => ?_)
  ·refine uL ?_
   refine qs rfl (cq tab rFn (hs:=[152,152]) (l:=[152,152]) ⟨rfl,rfl,trivial⟩ rfl rfl rfl rfl rfl (by decide) (fun s1 m1 hm1 hs1 _ _ => ?_))
   refine uA ?_
   refine oC goes63 ((cx m1 _ ⟨49,a.name,a.num,s⟩ a (hr'.mono hm1) s1 [(152,g.expr),(152,g.expr)] none hs1 (pr2 hE hE) po0).x ?_);
   rintro _ _ _ ⟨rfl,rfl,rfl⟩
   refine uA ?_
   refine bu rfl uS ⟨hm1,rfl, ?_⟩
   rw [h7];rfl
  ·refine uA ?_
   refine bu rfl uS ⟨bm _,rfl, ?_⟩
   rw [h7];rfl
 rw [if_neg hk49]
 by_cases hk50 : a.kind=50
 ·rw [if_pos hk50]
  obtain ⟨k,n,u,s⟩:=h
  obtain rfl : k=50:=h1.trans hk50
  simp only at h2 h3 h4 hl
  subst h2
  subst h3
  refine uA ?_
  refine oB (fun b => ?_)
  refine uL ?_
  refine qs rfl (OT.shK (r:=a.num / 4) rfl (.inr rfl) rfl rfl rfl rfl (by decide) (by show Int.fdiv a.num 4=a.num / 4;exact Int.fdiv_eq_ediv_of_nonneg _ (by decide)) ?_)
  refine uA ?_
  (refine bB rfl rfl (fun e4 => ?_) (fun e4 => ?_))
  ·have hlv : a.num=0 ∨ a.num=1 ∨ a.num=2 ∨ a.num=3:=by omega
   have hand : ∀ w,(Op.intBits .and .i64 a.num 1).run Tryz.prog w = .ok (.int .i64 (a.num % 2)) w:=by
    rcases hlv with e | e | e | e <;> (intro w;rw [e];rfl)
   have hlv2 : lvl a=decide ((s.len : Int)=1 + a.num % 2 + a.num / 2):=by
    unfold lvl
    rw [aH (show 0 ≤ a.num by omega),aH (show a.num ≤ 3 by omega),hl];rfl
   rw [hlv2]
   refine uL ?_
   refine qs rfl (OT.andK (r:=a.num % 2) rfl rfl rfl rfl rfl hand ?_)
   refine qs rfl (bK (r':=1 + a.num % 2) rfl rfl rfl rfl rfl rfl (by omega) (by omega) ?_)
   refine uL ?_
   refine qs rfl (OT.half (r:=a.num / 2) rfl rfl rfl rfl rfl (by decide) (Int.fdiv_eq_ediv_of_nonneg _ (by decide)) ?_)
   refine qs rfl (bK (r':=1 + a.num % 2 + a.num / 2) rfl rfl rfl rfl rfl rfl (by omega) (by omega) ?_)
   refine uA ?_
   refine oC goes39 ((bare_law _ _ ⟨50,a.name,a.num,s⟩ a hr' (decide ((s.len : Int)=1 + a.num % 2 + a.num / 2)) false true).x ?_);
   rintro _ _ _ ⟨rfl,rfl,rfl⟩
   refine uA ?_
   refine bA rfl rfl (fun h7 => ?_) (fun h7 => ?_)
   ·refine uL ?_
    refine oC goes40 ((pall_law _ _ s a.kids h4 152 g.expr hE).x ?_);
    rintro _ _ _ ⟨rfl,rfl,rfl⟩
    refine uA ?_
    refine bu rfl uS ⟨bm _,rfl, ?_⟩
    rw [h7];rfl
   ·refine uA ?_
    refine bu rfl uS ⟨bm _,rfl, ?_⟩
    rw [h7];rfl
  ·have hlv2 : lvl a=false:=by
    unfold lvl
    by_cases h5 : 0 ≤ a.num
    ·rw [aI (show ¬ a.num ≤ 3 by omega),Bool.false_and,Bool.and_false]
    ·rw [aI h5];rfl
   rw [hlv2]
   refine uL ?_
   refine oC goes39 ((bare_law _ _ ⟨50,a.name,a.num,s⟩ a hr' false false true).x ?_);
   rintro _ _ _ ⟨rfl,rfl,rfl⟩
   refine uA ?_
   exact bu rfl uS ⟨bm _,rfl,rfl⟩
 rw [if_neg hk50]
 by_cases hk51 : a.kind=51
 ·rw [if_pos hk51]
  obtain ⟨k,n,u,s⟩:=h
  obtain rfl : k=51:=h1.trans hk51
  simp only at h2 h3 h4 hl
  subst h2
  subst h3
  refine uA ?_
  refine oB (fun b => ?_)
  refine uL ?_
  refine oC goes39 ((bare_law _ _ ⟨51,a.name,a.num,s⟩ a hr' true false false).x ?_);
  rintro _ _ _ ⟨rfl,rfl,rfl⟩
  refine uA ?_
  refine bA rfl rfl (fun h7 => ?_) (fun h7 => ?_)
  ·refine uL ?_
   refine qs rfl (cq tab rFn (hs:=[152]) (l:=[152]) ⟨rfl,trivial⟩ rfl rfl rfl rfl rfl (by decide) (fun s1 m1 hm1 hs1 _ _ => ?_))
   refine uA ?_
   refine oC goes63 ((cx m1 _ ⟨51,a.name,a.num,s⟩ a (hr'.mono hm1) s1 [(152,g.expr)] (some (152,g.expr)) hs1 (pr1 hE) (po1 hE)).x ?_);
   rintro _ _ _ ⟨rfl,rfl,rfl⟩
   refine uA ?_
   refine bu rfl uS ⟨hm1,rfl, ?_⟩
   rw [h7];rfl
  ·refine uA ?_
   refine bu rfl uS ⟨bm _,rfl, ?_⟩
   rw [h7];rfl
 rw [if_neg hk51]
 by_cases hk52 : a.kind=52
 ·rw [if_pos hk52]
  obtain ⟨k,n,u,s⟩:=h
  obtain rfl : k=52:=h1.trans hk52
  simp only at h2 h3 h4 hl
  subst h2
  subst h3
  refine uA ?_
  refine oB (fun b => ?_)
  refine uL ?_
  refine bQ [] cr 12 rfl [.cells b 0 [.int .i64 52,strV a.name, .int .i64 a.num,s.v]] L uP ?_
  (refine bW (k:=0) tab 0 0 uC uK uK rfl rfl rfl rfl rfl rfl rfl rfl ?_)
  refine bV tab uC uK [2] uK rfl ?_
  (refine bW tab 3 0 uC uK uK rfl rfl rfl rfl rfl rfl rfl rfl ?_)
  refine bZ 1 rfl rfl uK rfl ?_
  refine cq tab rStr (hs:=[[45],[33],[38],[42]]) (l:=[[45],[33],[38],[42]]) ⟨rfl,rfl,rfl,rfl,trivial⟩ rfl rfl rfl rfl rfl (by decide) (fun s1 m1 hm1 hs1 _ _ => ?_);refine ⟨hm1,_,af _, ?_⟩
  refine bZ 4 rfl rfl uK rfl (bM rfl rfl rfl rfl rfl rfl goes99 ((contains_str _ _ s1 ops4 a.name hs1).x ?_))
  rintro _ _ _ ⟨rfl,rfl,rfl⟩;refine ⟨bm _,_,af _, ?_⟩
  refine bZ 5 rfl rfl uK rfl (bM rfl rfl rfl rfl rfl rfl goes39 ((bare_law _ _ ⟨52,a.name,a.num,s⟩ a (hr'.mono hm1) (decide (a.name ∈ ops4)) true false).x ?_))
  rintro _ _ _ ⟨rfl,rfl,rfl⟩;refine ⟨bm _,_,af _, ?_⟩
  refine bV tab uC uK [6] uK rfl ?_
  (refine DO.split (d:=151) rfl (fun h7 => ?_) (fun h7 => ?_))
  (refine bW (k:=0) tab 7 0 uC uK uK rfl rfl rfl rfl rfl rfl rfl rfl ?_)
  refine bZ 8 rfl rfl uK rfl ?_
  refine cq tab rFn (hs:=[152]) (l:=[152]) ⟨rfl,trivial⟩ rfl rfl rfl rfl rfl (by decide) (fun s2 m2 hm2 hs2 _ _ => ?_);refine ⟨hm2,_,af _, ?_⟩
  refine bZ 9 rfl rfl uK rfl (bM rfl rfl rfl rfl rfl rfl goes63 ((cx m2 _ ⟨52,a.name,a.num,s⟩ a (hr'.mono (bn hm1 hm2)) s2 [(152,g.expr)] none hs2 (pr1 hE) po0).x ?_))
  rintro _ _ _ ⟨rfl,rfl,rfl⟩;refine ⟨bm _,_,af _, ?_⟩
  refine bV tab uC uK [10,11] uK rfl ?_
  (refine cb uK ?_)
  rotate_left 1
  refine bV tab uC uK [7,8,9,10,11] uK rfl ?_
  (refine cb uK ?_)
  rotate_left 1
  ·refine uA ?_
   refine bu rfl uS ⟨bn hm1 hm2,rfl, ?_⟩
   rw [h7];rfl
  ·refine uA ?_
   refine bu rfl uS ⟨hm1,rfl, ?_⟩
   rw [h7];rfl
 rw [if_neg hk52]
 by_cases hk53 : a.kind=53
 ·rw [if_pos hk53]
  obtain ⟨k,n,u,s⟩:=h
  obtain rfl : k=53:=h1.trans hk53
  simp only at h2 h3 h4 hl
  subst h2
  subst h3
  refine uA ?_
  refine oB (fun b => ?_)
  refine uL ?_
  refine bQ [] cr 13 rfl [.cells b 0 [.int .i64 53,strV a.name, .int .i64 a.num,s.v]] L uP ?_
  (refine bW (k:=0) tab 0 0 uC uK uK rfl rfl rfl rfl rfl rfl rfl rfl ?_)
  refine bV tab uC uK [3] uK rfl ?_
  (refine bW tab 4 0 uC uK uK rfl rfl rfl rfl rfl rfl rfl rfl ?_)
  refine bZ 1 rfl rfl uK rfl (bM rfl rfl rfl rfl rfl rfl goes180 ((levels_law _ _).x ?_))
  rintro _ m0 _ ⟨hm0,rfl,s0,rfl,hs0⟩;refine ⟨hm0,_,af _, ?_⟩
  refine bZ 2 rfl rfl uK rfl (bM rfl rfl rfl rfl rfl rfl goes179 ((concatS_law m0 _ s0 Ps.levels hs0 (by decide)).x ?_))
  rintro _ m1 _ ⟨hm1,rfl,s1,rfl,hs1⟩;refine ⟨hm1,_,af _, ?_⟩
  refine bZ 5 rfl rfl uK rfl (bM rfl rfl rfl rfl rfl rfl goes99 ((contains_str _ _ s1 Ps.levels.flatten a.name hs1).x ?_))
  rintro _ _ _ ⟨rfl,rfl,rfl⟩;refine ⟨bm _,_,af _, ?_⟩
  refine bZ 6 rfl rfl uK rfl (bM rfl rfl rfl rfl rfl rfl goes39 ((bare_law _ _ ⟨53,a.name,a.num,s⟩ a (hr'.mono (bn hm0 hm1)) (decide (a.name ∈ Ps.levels.flatten)) true false).x ?_))
  rintro _ _ _ ⟨rfl,rfl,rfl⟩;refine ⟨bm _,_,af _, ?_⟩
  refine bV tab uC uK [7] uK rfl ?_
  (refine DO.split (d:=165) rfl (fun h7 => ?_) (fun h7 => ?_))
  (refine bW (k:=0) tab 8 0 uC uK uK rfl rfl rfl rfl rfl rfl rfl rfl ?_)
  refine bZ 9 rfl rfl uK rfl ?_
  refine cq tab rFn (hs:=[152,152]) (l:=[152,152]) ⟨rfl,rfl,trivial⟩ rfl rfl rfl rfl rfl (by decide) (fun s2 m2 hm2 hs2 _ _ => ?_);refine ⟨hm2,_,af _, ?_⟩
  refine bZ 10 rfl rfl uK rfl (bM rfl rfl rfl rfl rfl rfl goes63 ((cx m2 _ ⟨53,a.name,a.num,s⟩ a (hr'.mono (bn (bn hm0 hm1) hm2)) s2 [(152,g.expr),(152,g.expr)] none hs2 (pr2 hE hE) po0).x ?_))
  rintro _ _ _ ⟨rfl,rfl,rfl⟩;refine ⟨bm _,_,af _, ?_⟩
  refine bV tab uC uK [11,12] uK rfl ?_
  (refine cb uK ?_)
  rotate_left 1
  refine bV tab uC uK [8,9,10,11,12] uK rfl ?_
  (refine cb uK ?_)
  rotate_left 1
  ·refine uA ?_
   refine bu rfl uS ⟨bn (bn hm0 hm1) hm2,rfl, ?_⟩
   rw [h7];rfl
  ·refine uA ?_
   refine bu rfl uS ⟨bn hm0 hm1,rfl, ?_⟩
   rw [h7];rfl
 rw [if_neg hk53]
 refine uA ?_
 refine oB (fun b => ?_)
 refine uL ?_
 refine bq rfl (fun h5 => ?_) (fun h5 => ?_)
 ·omega
 refine uA ?_
 refine bq rfl (fun h5 => ?_) (fun h5 => ?_)
 ·omega
 refine uA ?_
 refine bq rfl (fun h5 => ?_) (fun h5 => ?_)
 ·omega
 refine uA ?_
 refine bq rfl (fun h5 => ?_) (fun h5 => ?_)
 ·omega
 refine uA ?_
 refine bq rfl (fun h5 => ?_) (fun h5 => ?_)
 ·omega
 refine uA ?_
 refine bq rfl (fun h5 => ?_) (fun h5 => ?_)
 ·omega
 refine uA ?_
 refine bq rfl (fun h5 => ?_) (fun h5 => ?_)
 ·omega
 refine uA ?_
 refine bq rfl (fun h5 => ?_) (fun h5 => ?_)
 ·omega
 refine uA ?_
 refine bq rfl (fun h5 => ?_) (fun h5 => ?_)
 ·omega
 refine uA ?_
 refine bq rfl (fun h5 => ?_) (fun h5 => ?_)
 ·omega
 refine uA ?_
 refine bq rfl (fun h5 => ?_) (fun h5 => ?_)
 ·omega
 refine uA ?_
 refine bq rfl (fun h5 => ?_) (fun h5 => ?_)
 ·omega
 refine uA ?_
 refine bq rfl (fun h5 => ?_) (fun h5 => ?_)
 ·omega
 refine uA ?_
 refine bq rfl (fun h5 => ?_) (fun h5 => ?_)
 ·omega
 refine uA ?_
 exact bu rfl uS ⟨bm _,rfl,rfl⟩
end Go.Sep


/- PsSnd3 -/
namespace Go.Sep
open Go.Proofs
attribute [local irreducible] TC TO OT TCallX TCall DO DOt thenQ blockQ retQ At
theorem block_teller (g : Sg) (a : Tree) (m : Mem) (L : List Item) (h : HTree) (hr : TreeRep m h a) (hS : IsPred 123 g.stmt a.kids) :
  TCall Tryz.prog 75 ⟨[treeV h]⟩ m L (Ret (.bool (blockS g a)) m L):=by
 have hr':=hr
 obtain ⟨h1,h2,h3,h4⟩:=hr
 unfold TCall
 refine bw Tryz.func75 rfl 13 rfl ?_
 refine uA ?_
 refine oB (fun b => ?_)
 refine uL ?_
 refine oC goes39 ((bare_law _ _ h a hr' (decide (h.kind=20)) false false).x ?_);
 rintro _ _ _ ⟨rfl,rfl,rfl⟩
 unfold blockS
 rw [← h1]
 refine uA ?_
 refine bA rfl rfl (fun h7 => ?_) (fun h7 => ?_)
 ·refine uL ?_
  refine oC goes40 ((pall_law _ _ h.kids a.kids h4 123 g.stmt hS).x ?_);
  rintro _ _ _ ⟨rfl,rfl,rfl⟩
  refine uA ?_
  refine bu rfl uS ⟨rfl,rfl, ?_⟩
  rw [h7];rfl
 ·refine uA ?_
  refine bu rfl uS ⟨rfl,rfl, ?_⟩
  rw [h7];rfl
theorem nm_pred {g : Sg} {l : List Tree} (hE : IsPred 152 g.expr l) : IsPred 154 (nmS g) l:=by
 refine ⟨goes154,fun m L h a ha hr => ?_⟩
 have hr':=hr
 obtain ⟨h1,h2,h3,h4⟩:=hr
 unfold TCall
 refine bw Tryz.func154 rfl 10 rfl ?_
 refine uA ?_
 refine oB (fun b => ?_)
 refine uL ?_
 unfold nmS
 rw [← h1]
 (refine bB rfl rfl (fun e1 => ?_) (fun e1 => ?_))
 ·refine uL ?_
  refine oC hE.1 ((hE.2 _ _ h a ha hr').x ?_);
  rintro _ _ _ ⟨rfl,rfl,rfl⟩
  refine uA ?_
  refine bu rfl uS ⟨rfl,rfl, ?_⟩
  rw [aH e1];rfl
 ·refine uA ?_
  refine bu rfl uS ⟨rfl,rfl, ?_⟩
  rw [aI e1];rfl
theorem call_pred {g : Sg} {l : List Tree} (hE : IsPred 152 g.expr l) : IsPred 155 (callS g) l:=by
 refine ⟨goes155,fun m L h a ha hr => ?_⟩
 have hr':=hr
 obtain ⟨h1,h2,h3,h4⟩:=hr
 unfold TCall
 refine bw Tryz.func155 rfl 10 rfl ?_
 refine uA ?_
 refine oB (fun b => ?_)
 refine uL ?_
 unfold callS
 rw [← h1]
 (refine bB rfl rfl (fun e1 => ?_) (fun e1 => ?_))
 ·refine uL ?_
  refine oC hE.1 ((hE.2 _ _ h a ha hr').x ?_);
  rintro _ _ _ ⟨rfl,rfl,rfl⟩
  refine uA ?_
  refine bu rfl uS ⟨rfl,rfl, ?_⟩
  rw [aH e1];rfl
 ·refine uA ?_
  refine bu rfl uS ⟨rfl,rfl, ?_⟩
  rw [aI e1];rfl
theorem pl_pred {g : Sg} {l : List Tree} (hE : IsPred 152 g.expr l) : IsPred 153 (plS g) l:=by
 refine ⟨goes153,fun m L h a ha hr => ?_⟩
 have hr':=hr
 obtain ⟨h1,h2,h3,h4⟩:=hr
 unfold TCall
 refine bw Tryz.func153 rfl 9 rfl ?_
 refine uA ?_
 refine oB (fun b => ?_)
 refine uL ?_
 refine oC isPl_tells.1 ((isPl_tells.2 _ _ h a hr').x ?_);
 rintro _ _ _ ⟨rfl,rfl,rfl⟩
 unfold plS
 refine uA ?_
 refine bA rfl rfl (fun h7 => ?_) (fun h7 => ?_)
 ·refine uL ?_
  refine oC hE.1 ((hE.2 _ _ h a ha hr').x ?_);
  rintro _ _ _ ⟨rfl,rfl,rfl⟩
  refine uA ?_
  refine bu rfl uS ⟨rfl,rfl, ?_⟩
  rw [h7];rfl
 ·refine uA ?_
  refine bu rfl uS ⟨rfl,rfl, ?_⟩
  rw [h7];rfl
theorem other_pred {g : Sg} {l : List Tree} (hK : IsPred 75 g.block l) (hS : IsPred 123 g.stmt l) : IsPred 156 (otherS g) l:=by
 refine ⟨goes156,fun m L h a ha hr => ?_⟩
 have hr':=hr
 obtain ⟨h1,h2,h3,h4⟩:=hr
 unfold TCall
 refine bw Tryz.func156 rfl 14 rfl ?_
 refine uA ?_
 refine oB (fun b => ?_)
 refine uL ?_
 refine oC hK.1 ((hK.2 _ _ h a ha hr').x ?_);
 rintro _ _ _ ⟨rfl,rfl,rfl⟩
 unfold otherS
 rw [← h1]
 refine uA ?_
 refine bA rfl rfl (fun h7 => ?_) (fun h7 => ?_)
 ·refine uA ?_
  refine bu rfl uS ⟨rfl,rfl, ?_⟩
  rw [h7];rfl
 ·refine uL ?_
  (refine bB rfl rfl (fun e1 => ?_) (fun e1 => ?_))
  ·refine uL ?_
   refine oC hS.1 ((hS.2 _ _ h a ha hr').x ?_);
   rintro _ _ _ ⟨rfl,rfl,rfl⟩
   refine uA ?_
   refine bu rfl uS ⟨rfl,rfl, ?_⟩
   rw [h7,aH e1];rfl
  ·refine uA ?_
   refine bu rfl uS ⟨rfl,rfl, ?_⟩
   rw [h7,aI e1];rfl
theorem stmtS_no {g : Sg} {a : Tree} (h : headS a=false) : stmtS g a=false:=by unfold stmtS;rw [if_pos h]
theorem stmt_teller (g : Sg) (a : Tree) (m : Mem) (L : List Item) (h : HTree) (hr : TreeRep m h a) (hB : a.wide ≤ 140737488355328) (hE : IsPred 152 g.expr a.kids) (hK : IsPred 75 g.block a.kids) (hS : IsPred 123 g.stmt a.kids) :
  TCall Tryz.prog 123 ⟨[treeV h]⟩ m L (Ret (.bool (stmtS g a)) m L):=by
 have hT : IsPred 34 Tree.isType a.kids:=kidPred goes34 hB fun b m L h hr hB=>type_law b m L h hr hB
 have hC:=call_pred hE
 have hO:=other_pred hK hS
 have hr':=hr
 obtain ⟨h1,h2,h3,h4⟩:=hr
 have hl:=h4.len
 have hsm:=h4.small rfl
 refine cg ?_
 unfold TCall
 refine bw Tryz.func123 rfl 121 rfl ?_
 by_cases hk20 : a.kind=20
 ·obtain ⟨k,n,u,s⟩:=h
  obtain rfl : k=20:=h1.trans hk20
  simp only at h2 h3 h4 hl
  subst h2
  subst h3
  refine uA ?_
  refine oB (fun b => ?_)
  refine uL ?_
  (refine bC rfl rfl (fun e1 => ?_) (fun e1 => ?_))
  ·refine uA ?_
   refine bu rfl uS ⟨bm _,rfl, ?_⟩
   rw [stmtS_no (show headS a=false by unfold headS;rw [hk20,aI e1];rfl)]
  refine uL ?_
  refine TC.condN rfl (fun e2 => ?_) (fun e2 => ?_)
  ·simp only at e2
   refine uA ?_
   refine bu rfl uS ⟨bm _,rfl, ?_⟩
   rw [stmtS_no (show headS a=false by unfold headS;rw [hk20,aI e2];simp)]
  simp only at e2
  refine uL ?_
  have hh : headS a=true:=by unfold headS;rw [hk20,aH e1,aH e2];simp
  have hspec : stmtS g a=blockS g a:=by unfold stmtS;rw [if_neg (by rw [hh];decide)];simp [hk20]
  rw [hspec]
  refine uL ?_
  refine oC goes75 ((block_teller g a _ _ ⟨20,a.name,a.num,s⟩ hr' hS).x ?_);
  rintro _ _ _ ⟨rfl,rfl,rfl⟩
  refine uA ?_
  refine bu rfl uS ⟨bm _,rfl, ?_⟩
  rfl
 by_cases hk21 : a.kind=21
 ·obtain ⟨k,n,u,s⟩:=h
  obtain rfl : k=21:=h1.trans hk21
  simp only at h2 h3 h4 hl
  subst h2
  subst h3
  refine uA ?_
  refine oB (fun b => ?_)
  refine uL ?_
  refine TC.condN rfl (fun e2 => ?_) (fun e2 => ?_)
  ·simp only at e2
   refine uA ?_
   refine bu rfl uS ⟨bm _,rfl, ?_⟩
   rw [stmtS_no (show headS a=false by unfold headS;rw [hk21,aI e2];simp)]
  simp only at e2
  refine uL ?_
  have hh : headS a=true:=by unfold headS;rw [hk21,aH e2];simp
  have hspec : stmtS g a=(isName a.name && (kidsR [Tree.isType] none a.kids || kidsR [Tree.isType,g.expr] none a.kids)):=by unfold stmtS;rw [if_neg (by rw [hh];decide)];simp [hk21]
  rw [hspec]
  refine uL ?_
  refine oC goes116 ((named_law _ _ ⟨21,a.name,a.num,s⟩ a hr' hB).x ?_);
  rintro _ _ _ ⟨rfl,rfl,rfl⟩
  refine uA ?_
  refine bA rfl rfl (fun h7 => ?_) (fun h7 => ?_)
  ·refine uL ?_
   refine qs rfl (cq tab rFn (hs:=[34]) (l:=[34]) ⟨rfl,trivial⟩ rfl rfl rfl rfl rfl (by decide) (fun s1 m1 hm1 hs1 _ _ => ?_))
   refine uA ?_
   refine oC goes63 ((cx m1 _ ⟨21,a.name,a.num,s⟩ a (hr'.mono hm1) s1 [(34,Tree.isType)] none hs1 (pr1 hT) po0).x ?_);
   rintro _ _ _ ⟨rfl,rfl,rfl⟩
   refine uA ?_
   refine bA rfl rfl (fun h8 => ?_) (fun h8 => ?_)
   ·skip
    refine uA ?_
    refine bu rfl uS ⟨hm1,rfl, ?_⟩
    rw [h7,show kidsR [Tree.isType] none a.kids=true from h8];rfl
   ·refine uL ?_
    refine qs rfl (cq tab rFn (hs:=[34,152]) (l:=[34,152]) ⟨rfl,rfl,trivial⟩ rfl rfl rfl rfl rfl (by decide) (fun s2 m2 hm2 hs2 _ _ => ?_))
    refine uA ?_
    refine oC goes63 ((cx m2 _ ⟨21,a.name,a.num,s⟩ a (hr'.mono (bn hm1 hm2)) s2 [(34,Tree.isType),(152,g.expr)] none hs2 (pr2 hT hE) po0).x ?_);
    rintro _ _ _ ⟨rfl,rfl,rfl⟩
    refine uA ?_
    refine bu rfl uS ⟨(bn hm1 hm2),rfl, ?_⟩
    rw [h7,show kidsR [Tree.isType] none a.kids=false from h8];rfl
  ·skip
   refine uA ?_
   refine bu rfl uS ⟨bm _,rfl, ?_⟩
   rw [h7];rfl
 by_cases hk22 : a.kind=22
 ·obtain ⟨k,n,u,s⟩:=h
  obtain rfl : k=22:=h1.trans hk22
  simp only at h2 h3 h4 hl
  subst h2
  subst h3
  refine uA ?_
  refine oB (fun b => ?_)
  refine uL ?_
  (refine bC rfl rfl (fun e1 => ?_) (fun e1 => ?_))
  ·refine uA ?_
   refine bu rfl uS ⟨bm _,rfl, ?_⟩
   rw [stmtS_no (show headS a=false by unfold headS;rw [hk22,aI e1];rfl)]
  refine uL ?_
  have hh : headS a=true:=by unfold headS;rw [hk22,aH e1];simp
  have hspec : stmtS g a=asgS g (nmS g) a:=by unfold stmtS;rw [if_neg (by rw [hh];decide)];simp [hk22]
  rw [hspec]
  unfold asgS
  have hp1 : IsPred 152 g.expr (a.kids.drop a.num.toNat):=⟨hE.1,fun m L x b hb=>hE.2 m L x b (List.mem_of_mem_drop hb)⟩
  have hp2':=nm_pred hE
  have hp2 : IsPred 154 (nmS g) (a.kids.take a.num.toNat):=⟨hp2'.1,fun m L x b hb=>hp2'.2 m L x b (ba hb)⟩
  refine uL ?_
  (refine bB rfl rfl (fun e3 => ?_) (fun e3 => ?_))
  ·simp only at e3
   refine uL ?_
   (refine bB rfl rfl (fun e4 => ?_) (fun e4 => ?_))
   ·simp only at e4
    have hnum : a.num=((a.num.toNat : Nat) : Int):=by omega
    rw [aH e3,aH (show a.num < (a.kids.length : Int) by omega),aF,aF]
    refine uL ?_
    refine qs rfl (OT.cut tab rTree 0 a.num.toNat h4 rfl rfl rfl rfl rfl rfl rfl (.inl ⟨rfl,rfl⟩) (.inr (by rw [← hnum])) (aU _) (by omega) (fun s1 hs1 => ?_))
    rw [bk] at hs1
    refine uA ?_
    refine oC goes40 ((pall_law _ _ s1 _ hs1 154 (nmS g) hp2).x ?_);
    rintro _ _ _ ⟨rfl,rfl,rfl⟩
    refine uA ?_
    refine bA rfl rfl (fun h10 => ?_) (fun h10 => ?_)
    ·refine uL ?_
     refine qs rfl (OT.cut tab rTree a.num.toNat s.len h4 rfl rfl rfl rfl rfl rfl rfl (.inr (by rw [← hnum])) (.inl ⟨rfl,rfl⟩) (by omega) (by omega) (fun s2 hs2 => ?_))
     rw [aT (by omega)] at hs2
     refine uA ?_
     refine oC goes40 ((pall_law _ _ s2 _ hs2 152 g.expr hp1).x ?_);
     rintro _ _ _ ⟨rfl,rfl,rfl⟩
     refine uA ?_
     refine bu rfl uS ⟨bm _,rfl, ?_⟩
     rw [h10];rfl
    ·skip
     refine uA ?_
     refine bu rfl uS ⟨bm _,rfl, ?_⟩
     rw [h10];rfl
   ·simp only at e4
    refine uA ?_
    refine bu rfl uS ⟨bm _,rfl, ?_⟩
    rw [aI (show ¬ a.num < (a.kids.length : Int) by omega),Bool.false_and,Bool.and_false]
  ·simp only at e3
   refine uA ?_
   refine bu rfl uS ⟨bm _,rfl, ?_⟩
   rw [aI e3];rfl
 by_cases hk23 : a.kind=23
 ·obtain ⟨k,n,u,s⟩:=h
  obtain rfl : k=23:=h1.trans hk23
  simp only at h2 h3 h4 hl
  subst h2
  subst h3
  refine uA ?_
  refine oB (fun b => ?_)
  refine uL ?_
  (refine bC rfl rfl (fun e1 => ?_) (fun e1 => ?_))
  ·refine uA ?_
   refine bu rfl uS ⟨bm _,rfl, ?_⟩
   rw [stmtS_no (show headS a=false by unfold headS;rw [hk23,aI e1];rfl)]
  refine uL ?_
  have hh : headS a=true:=by unfold headS;rw [hk23,aH e1];simp
  have hspec : stmtS g a=asgS g (plS g) a:=by unfold stmtS;rw [if_neg (by rw [hh];decide)];simp [hk23]
  rw [hspec]
  unfold asgS
  have hp1 : IsPred 152 g.expr (a.kids.drop a.num.toNat):=⟨hE.1,fun m L x b hb=>hE.2 m L x b (List.mem_of_mem_drop hb)⟩
  have hp2':=pl_pred hE
  have hp2 : IsPred 153 (plS g) (a.kids.take a.num.toNat):=⟨hp2'.1,fun m L x b hb=>hp2'.2 m L x b (ba hb)⟩
  refine uL ?_
  (refine bB rfl rfl (fun e3 => ?_) (fun e3 => ?_))
  ·simp only at e3
   refine uL ?_
   (refine bB rfl rfl (fun e4 => ?_) (fun e4 => ?_))
   ·simp only at e4
    have hnum : a.num=((a.num.toNat : Nat) : Int):=by omega
    rw [aH e3,aH (show a.num < (a.kids.length : Int) by omega),aF,aF]
    refine uL ?_
    refine qs rfl (OT.cut tab rTree 0 a.num.toNat h4 rfl rfl rfl rfl rfl rfl rfl (.inl ⟨rfl,rfl⟩) (.inr (by rw [← hnum])) (aU _) (by omega) (fun s1 hs1 => ?_))
    rw [bk] at hs1
    refine uA ?_
    refine oC goes40 ((pall_law _ _ s1 _ hs1 153 (plS g) hp2).x ?_);
    rintro _ _ _ ⟨rfl,rfl,rfl⟩
    refine uA ?_
    refine bA rfl rfl (fun h10 => ?_) (fun h10 => ?_)
    ·refine uL ?_
     refine qs rfl (OT.cut tab rTree a.num.toNat s.len h4 rfl rfl rfl rfl rfl rfl rfl (.inr (by rw [← hnum])) (.inl ⟨rfl,rfl⟩) (by omega) (by omega) (fun s2 hs2 => ?_))
     rw [aT (by omega)] at hs2
     refine uA ?_
     refine oC goes40 ((pall_law _ _ s2 _ hs2 152 g.expr hp1).x ?_);
     rintro _ _ _ ⟨rfl,rfl,rfl⟩
     refine uA ?_
     refine bu rfl uS ⟨bm _,rfl, ?_⟩
     rw [h10];rfl
    ·skip
     refine uA ?_
     refine bu rfl uS ⟨bm _,rfl, ?_⟩
     rw [h10];rfl
   ·simp only at e4
    refine uA ?_
    refine bu rfl uS ⟨bm _,rfl, ?_⟩
    rw [aI (show ¬ a.num < (a.kids.length : Int) by omega),Bool.false_and,Bool.and_false]
  ·simp only at e3
   refine uA ?_
   refine bu rfl uS ⟨bm _,rfl, ?_⟩
   rw [aI e3];rfl
 by_cases hk24 : a.kind=24
 ·obtain ⟨k,n,u,s⟩:=h
  obtain rfl : k=24:=h1.trans hk24
  simp only at h2 h3 h4 hl
  subst h2
  subst h3
  refine uA ?_
  refine oB (fun b => ?_)
  refine uL ?_
  (refine bC rfl rfl (fun e1 => ?_) (fun e1 => ?_))
  ·refine uA ?_
   refine bu rfl uS ⟨bm _,rfl, ?_⟩
   rw [stmtS_no (show headS a=false by unfold headS;rw [hk24,aI e1];rfl)]
  refine uL ?_
  refine TC.condN rfl (fun e2 => ?_) (fun e2 => ?_)
  ·simp only at e2
   refine uA ?_
   refine bu rfl uS ⟨bm _,rfl, ?_⟩
   rw [stmtS_no (show headS a=false by unfold headS;rw [hk24,aI e2];simp)]
  simp only at e2
  refine uL ?_
  have hh : headS a=true:=by unfold headS;rw [hk24,aH e1,aH e2];simp
  have hspec : stmtS g a=kidsR [callS g] none a.kids:=by unfold stmtS;rw [if_neg (by rw [hh];decide)];simp [hk24]
  rw [hspec]
  refine uL ?_
  refine qs rfl (cq tab rFn (hs:=[155]) (l:=[155]) ⟨rfl,trivial⟩ rfl rfl rfl rfl rfl (by decide) (fun s1 m1 hm1 hs1 _ _ => ?_))
  refine uA ?_
  refine oC goes63 ((cx m1 _ ⟨24,a.name,a.num,s⟩ a (hr'.mono hm1) s1 [(155,callS g)] none hs1 (pr1 hC) po0).x ?_);
  rintro _ _ _ ⟨rfl,rfl,rfl⟩
  refine uA ?_
  refine bu rfl uS ⟨hm1,rfl, ?_⟩
  rfl
 by_cases hk25 : a.kind=25
 ·obtain ⟨k,n,u,s⟩:=h
  obtain rfl : k=25:=h1.trans hk25
  simp only at h2 h3 h4 hl
  subst h2
  subst h3
  refine uA ?_
  refine oB (fun b => ?_)
  refine uL ?_
  (refine bC rfl rfl (fun e1 => ?_) (fun e1 => ?_))
  ·refine uA ?_
   refine bu rfl uS ⟨bm _,rfl, ?_⟩
   rw [stmtS_no (show headS a=false by unfold headS;rw [hk25,aI e1];rfl)]
  refine uL ?_
  refine TC.condN rfl (fun e2 => ?_) (fun e2 => ?_)
  ·simp only at e2
   refine uA ?_
   refine bu rfl uS ⟨bm _,rfl, ?_⟩
   rw [stmtS_no (show headS a=false by unfold headS;rw [hk25,aI e2];simp)]
  simp only at e2
  refine uL ?_
  have hh : headS a=true:=by unfold headS;rw [hk25,aH e1,aH e2];simp
  have hspec : stmtS g a=(kidsR [g.expr,g.block] none a.kids || kidsR [g.expr,g.block,otherS g] none a.kids):=by unfold stmtS;rw [if_neg (by rw [hh];decide)];simp [hk25]
  rw [hspec]
  refine uL ?_
  refine qs rfl (cq tab rFn (hs:=[152,75]) (l:=[152,75]) ⟨rfl,rfl,trivial⟩ rfl rfl rfl rfl rfl (by decide) (fun s1 m1 hm1 hs1 _ _ => ?_))
  refine uA ?_
  refine oC goes63 ((cx m1 _ ⟨25,a.name,a.num,s⟩ a (hr'.mono hm1) s1 [(152,g.expr),(75,g.block)] none hs1 (pr2 hE hK) po0).x ?_);
  rintro _ _ _ ⟨rfl,rfl,rfl⟩
  refine uA ?_
  refine bA rfl rfl (fun h8 => ?_) (fun h8 => ?_)
  ·skip
   refine uA ?_
   refine bu rfl uS ⟨hm1,rfl, ?_⟩
   rw [show kidsR [g.expr,g.block] none a.kids=true from h8];rfl
  ·refine uL ?_
   refine qs rfl (cq tab rFn (hs:=[152,75,156]) (l:=[152,75,156]) ⟨rfl,rfl,rfl,trivial⟩ rfl rfl rfl rfl rfl (by decide) (fun s2 m2 hm2 hs2 _ _ => ?_))
   refine uA ?_
   refine oC goes63 ((cx m2 _ ⟨25,a.name,a.num,s⟩ a (hr'.mono (bn hm1 hm2)) s2 [(152,g.expr),(75,g.block),(156,otherS g)] none hs2 (pr3 hE hK hO) po0).x ?_);
   rintro _ _ _ ⟨rfl,rfl,rfl⟩
   refine uA ?_
   refine bu rfl uS ⟨(bn hm1 hm2),rfl, ?_⟩
   rw [show kidsR [g.expr,g.block] none a.kids=false from h8];rfl
 by_cases hk26 : a.kind=26
 ·obtain ⟨k,n,u,s⟩:=h
  obtain rfl : k=26:=h1.trans hk26
  simp only at h2 h3 h4 hl
  subst h2
  subst h3
  refine uA ?_
  refine oB (fun b => ?_)
  refine uL ?_
  (refine bC rfl rfl (fun e1 => ?_) (fun e1 => ?_))
  ·refine uA ?_
   refine bu rfl uS ⟨bm _,rfl, ?_⟩
   rw [stmtS_no (show headS a=false by unfold headS;rw [hk26,aI e1];rfl)]
  refine uL ?_
  refine TC.condN rfl (fun e2 => ?_) (fun e2 => ?_)
  ·simp only at e2
   refine uA ?_
   refine bu rfl uS ⟨bm _,rfl, ?_⟩
   rw [stmtS_no (show headS a=false by unfold headS;rw [hk26,aI e2];simp)]
  simp only at e2
  refine uL ?_
  have hh : headS a=true:=by unfold headS;rw [hk26,aH e1,aH e2];simp
  have hspec : stmtS g a=(kidsR [g.block] none a.kids || kidsR [g.expr,g.block] none a.kids):=by unfold stmtS;rw [if_neg (by rw [hh];decide)];simp [hk26]
  rw [hspec]
  refine uL ?_
  refine qs rfl (cq tab rFn (hs:=[75]) (l:=[75]) ⟨rfl,trivial⟩ rfl rfl rfl rfl rfl (by decide) (fun s1 m1 hm1 hs1 _ _ => ?_))
  refine uA ?_
  refine oC goes63 ((cx m1 _ ⟨26,a.name,a.num,s⟩ a (hr'.mono hm1) s1 [(75,g.block)] none hs1 (pr1 hK) po0).x ?_);
  rintro _ _ _ ⟨rfl,rfl,rfl⟩
  refine uA ?_
  refine bA rfl rfl (fun h8 => ?_) (fun h8 => ?_)
  ·skip
   refine uA ?_
   refine bu rfl uS ⟨hm1,rfl, ?_⟩
   rw [show kidsR [g.block] none a.kids=true from h8];rfl
  ·refine uL ?_
   refine qs rfl (cq tab rFn (hs:=[152,75]) (l:=[152,75]) ⟨rfl,rfl,trivial⟩ rfl rfl rfl rfl rfl (by decide) (fun s2 m2 hm2 hs2 _ _ => ?_))
   refine uA ?_
   refine oC goes63 ((cx m2 _ ⟨26,a.name,a.num,s⟩ a (hr'.mono (bn hm1 hm2)) s2 [(152,g.expr),(75,g.block)] none hs2 (pr2 hE hK) po0).x ?_);
   rintro _ _ _ ⟨rfl,rfl,rfl⟩
   refine uA ?_
   refine bu rfl uS ⟨(bn hm1 hm2),rfl, ?_⟩
   rw [show kidsR [g.block] none a.kids=false from h8];rfl
 by_cases hk27 : a.kind=27
 ·obtain ⟨k,n,u,s⟩:=h
  obtain rfl : k=27:=h1.trans hk27
  simp only at h2 h3 h4 hl
  subst h2
  subst h3
  refine uA ?_
  refine oB (fun b => ?_)
  refine uL ?_
  (refine bC rfl rfl (fun e1 => ?_) (fun e1 => ?_))
  ·refine uA ?_
   refine bu rfl uS ⟨bm _,rfl, ?_⟩
   rw [stmtS_no (show headS a=false by unfold headS;rw [hk27,aI e1];rfl)]
  refine uL ?_
  refine TC.condN rfl (fun e2 => ?_) (fun e2 => ?_)
  ·simp only at e2
   refine uA ?_
   refine bu rfl uS ⟨bm _,rfl, ?_⟩
   rw [stmtS_no (show headS a=false by unfold headS;rw [hk27,aI e2];simp)]
  simp only at e2
  refine uL ?_
  have hh : headS a=true:=by unfold headS;rw [hk27,aH e1,aH e2];simp
  have hspec : stmtS g a=a.kids.all g.expr:=by unfold stmtS;rw [if_neg (by rw [hh];decide)];simp [hk27]
  rw [hspec]
  refine uL ?_
  refine oC goes40 ((pall_law _ _ s a.kids h4 152 g.expr hE).x ?_);
  rintro _ _ _ ⟨rfl,rfl,rfl⟩
  refine uA ?_
  refine bu rfl uS ⟨bm _,rfl, ?_⟩
  rfl
 by_cases hk28 : a.kind=28
 ·obtain ⟨k,n,u,s⟩:=h
  obtain rfl : k=28:=h1.trans hk28
  simp only at h2 h3 h4 hl
  subst h2
  subst h3
  refine uA ?_
  refine oB (fun b => ?_)
  refine uL ?_
  (refine bC rfl rfl (fun e1 => ?_) (fun e1 => ?_))
  ·refine uA ?_
   refine bu rfl uS ⟨bm _,rfl, ?_⟩
   rw [stmtS_no (show headS a=false by unfold headS;rw [hk28,aI e1];rfl)]
  refine uL ?_
  refine TC.condN rfl (fun e2 => ?_) (fun e2 => ?_)
  ·simp only at e2
   refine uA ?_
   refine bu rfl uS ⟨bm _,rfl, ?_⟩
   rw [stmtS_no (show headS a=false by unfold headS;rw [hk28,aI e2];simp)]
  simp only at e2
  refine uL ?_
  have hh : headS a=true:=by unfold headS;rw [hk28,aH e1,aH e2];simp
  have hspec : stmtS g a=kidsR [] none a.kids:=by unfold stmtS;rw [if_neg (by rw [hh];decide)];simp [hk28]
  rw [hspec]
  refine uL ?_
  refine oC goes63 ((cx m _ ⟨28,a.name,a.num,s⟩ a hr' ⟨none,0,0⟩ [] none (bN _ _) pr0 po0).x ?_);
  rintro _ _ _ ⟨rfl,rfl,rfl⟩
  refine uA ?_
  refine bu rfl uS ⟨(bm _),rfl, ?_⟩
  rfl
 by_cases hk29 : a.kind=29
 ·obtain ⟨k,n,u,s⟩:=h
  obtain rfl : k=29:=h1.trans hk29
  simp only at h2 h3 h4 hl
  subst h2
  subst h3
  refine uA ?_
  refine oB (fun b => ?_)
  refine uL ?_
  (refine bC rfl rfl (fun e1 => ?_) (fun e1 => ?_))
  ·refine uA ?_
   refine bu rfl uS ⟨bm _,rfl, ?_⟩
   rw [stmtS_no (show headS a=false by unfold headS;rw [hk29,aI e1];rfl)]
  refine uL ?_
  refine TC.condN rfl (fun e2 => ?_) (fun e2 => ?_)
  ·simp only at e2
   refine uA ?_
   refine bu rfl uS ⟨bm _,rfl, ?_⟩
   rw [stmtS_no (show headS a=false by unfold headS;rw [hk29,aI e2];simp)]
  simp only at e2
  refine uL ?_
  have hh : headS a=true:=by unfold headS;rw [hk29,aH e1,aH e2];simp
  have hspec : stmtS g a=kidsR [] none a.kids:=by unfold stmtS;rw [if_neg (by rw [hh];decide)];simp [hk29]
  rw [hspec]
  refine uL ?_
  refine oC goes63 ((cx m _ ⟨29,a.name,a.num,s⟩ a hr' ⟨none,0,0⟩ [] none (bN _ _) pr0 po0).x ?_);
  rintro _ _ _ ⟨rfl,rfl,rfl⟩
  refine uA ?_
  refine bu rfl uS ⟨(bm _),rfl, ?_⟩
  rfl
 have hspec : stmtS g a=false:=by
  unfold stmtS
  split
  ·rfl
  ·simp [hk20,hk21,hk22,hk23,hk24,hk25,hk26,hk27,hk28,hk29]
 rw [hspec]
 refine uA ?_
 refine oB (fun b => ?_)
 repeat' (first|(first|refine q1 ?_|refine q2 ?_|refine q3 ?_|refine q4 tab rfl rfl ?_|refine q5 ?_|refine q6 ?_|refine q8 ?_|refine q13 ?_|refine q15 ?_|refine q16 rfl ?_|refine q17 rfl ?_)|(refine qs rfl (ql tab 0 rfl rfl rfl rfl rfl rfl ?_))|(first|refine bB rfl rfl (fun hb => ?_) (fun hb => ?_)|refine bC rfl rfl (fun hb => ?_) (fun hb => ?_)))
 all_goals try omega
 all_goals first | exact bu rfl uS ⟨bm _,rfl,rfl⟩ | skip
 all_goals
  repeat' (first|(first|refine q1 ?_|refine q2 ?_|refine q3 ?_|refine q4 tab rfl rfl ?_|refine q5 ?_|refine q6 ?_|refine q7 ?_|refine q8 ?_|refine q13 ?_|refine q15 ?_)|refine uM ?_|(refine bq rfl (fun h5=>(by omega)) (fun h5 => ?_))|(refine TC.condN rfl (fun h5 => ?_) (fun h5 => ?_)))
 all_goals first | exact bu rfl uS ⟨bm _,rfl,rfl⟩ | omega
end Go.Sep


/- PsW11 -/
namespace Go.Sep
open Go.Proofs
attribute [local irreducible] TC TO OT TCallX TCall DO DOt thenQ blockQ retQ At
def ParAt {α : Type} (P : Program) (E : PE) (V : RV α) (f : FuncId) (args : List Value) (h : Int) (X : Ps.Pp α) (m : Mem) (L : List Item) (k : Nat) : Prop :=
 X E.f k ≠ .out→TCallX P f ⟨args⟩ m (E.I k h :: L) (pR E V (X E.f k) m L h) (pX E (X E.f k) m L)
theorem ParAt.enter {α : Type} {P : Program} {E : PE} {V : RV α} {f : FuncId} {args : List Value} {h : Int} {X : Ps.Pp α} {m : Mem} {L : List Item} {k : Nat} {fn : Func} {c : Code} (hf : P.funcs[f]? = some fn) (hb : fn.body=some c) (N : Nat) (hN : Nat.ble N fn.ntmps=true)
  (hK : ∀ (T : Ps.Res α),T=X E.f k→T ≠ .out→TC P N c (argEnv args 0) [] m (E.I k h :: L) (retQ P fn (pR E V T m L h) (pX E T m L))) : ParAt P E V f args h X m L k :=
 fun h3=>bw hf hb N hN (hK _ rfl h3)
theorem Par.at {α : Type} {P : Program} {mb : Mem} {E : PE} {V : RV α} {f : FuncId} {args : List Value} {h : Int} {X : Ps.Pp α} (hp : Par P mb E V f args h X) {m : Mem} (L : List Item) {k : Nat} (hm : mb ≤ m) (hE : E.Ok m) (hk : k ≤ E.toks.length) : ParAt P E V f args h X m L k:=hp m L k hm hE hk
section
variable {P : Program} {N : Nat} {ρ : Env} {m : Mem} {L : List Item} {Q : EPost} {o : Oper} {K : Env→Mem→List Item→Prop} {E : PE} {α β : Type}
theorem OT.parGA {V : RV α} {FF : Operand} {args : List Operand} {ats : Array TypeId} {f : FuncId} {first cap vs all : List Value} {d : Nat} {h : Int} {p : Ps.Pp α} {g : α → Ps.Pp β} {T : Ps.Res β} {k : Nat} {m0 : Mem} {L0 : List Item}
  (ho : o.op = .call ⟨.value FF,⟨args⟩,ats⟩) (hd : o.dst=some d) (hN : Nat.blt d N=true)
  (hF : ev ρ FF=some (.func (.func f) ⟨first⟩ ⟨cap⟩)) (ha : evs ρ args=some vs) (hall : fl (first++(vs++cap))=some all) (hg : Goes P f)
  (hp : ParAt P E V f all h p m L k) (hT : T=Ps.bind p g E.f k) (hn : T ≠ .out) (hb : Bad Q E T m0 L0) (hm : m0 ≤ m) (hL : L0.Sublist L)
  (hK : ∀ v m' a k' xs,T=g a E.f k' → m ≤ m' → k' ≤ E.toks.length→V m' v xs a→K ((d,v) :: ρ) m' (E.I k' h :: (xs++L))) : OT P N o ρ [] m (E.I k h :: L) Q K:=by
 refine bM ho hd hN hF ha hall hg (TCallX.mono (hp (bind_out' hT hn)) ?_ ?_)
 ·rintro v m' L' ⟨a,k',xs,h1,h2,h3,h4,rfl⟩
  exact hK v m' a k' xs (by rw [hT];unfold Ps.bind;rw [h1]) h2 h3 h4
 ·rintro ch m' L' ⟨k',h',h1,h2,h3,rfl,rfl⟩
  exact hb _ _ _ _ _ (bn hm h2) h3 (by rw [hT];unfold Ps.bind;rw [h1]) hL
variable {FF : Operand} {args : List Operand} {ats : Array TypeId} {f : FuncId} {first cap vs all : List Value} {d : Nat} {h : Int} {T : Ps.Res β} {k : Nat} {m0 : Mem} {L0 : List Item}
theorem OT.parTA {p : Ps.Pp Tree} {g : Tree→Ps.Pp β} (hp : ParAt P E vTree f all h p m L k) (hT : T=Ps.bind p g E.f k) (hn : T ≠ .out) (hE : E.Ok m) (hb : Bad Q E T m0 L0) (hm : m0 ≤ m) (hL : L0.Sublist L)
  (ho : o.op = .call ⟨.value FF,⟨args⟩,ats⟩) (hd : o.dst=some d) (hN : Nat.blt d N=true)
  (hF : ev ρ FF=some (.func (.func f) ⟨first⟩ ⟨cap⟩)) (ha : evs ρ args=some vs) (hall : fl (first++(vs++cap))=some all) (hg : Goes P f)
  (hK : ∀ x m' a k',T=g a E.f k' → m0 ≤ m' → E.Ok m' → m ≤ m' → k' ≤ E.toks.length→TreeRep m' x a→K ((d,treeV x) :: ρ) m' (E.I k' h :: L)) : OT P N o ρ [] m (E.I k h :: L) Q K :=
 OT.parGA ho hd hN hF ha hall hg hp hT hn hb hm hL fun v m' a k' xs h1 h2 h3 h4=>by
  obtain ⟨x,rfl,rfl,h5⟩:=h4
  exact hK x m' a k' h1 (bn hm h2) (hE.mono h2) h2 h3 h5
theorem OT.parSA {p : Ps.Pp (List Tree)} {g : List Tree→Ps.Pp β} (hp : ParAt P E vSl f all h p m L k) (hT : T=Ps.bind p g E.f k) (hn : T ≠ .out) (hE : E.Ok m) (hb : Bad Q E T m0 L0) (hm : m0 ≤ m) (hL : L0.Sublist L)
  (ho : o.op = .call ⟨.value FF,⟨args⟩,ats⟩) (hd : o.dst=some d) (hN : Nat.blt d N=true)
  (hF : ev ρ FF=some (.func (.func f) ⟨first⟩ ⟨cap⟩)) (ha : evs ρ args=some vs) (hall : fl (first++(vs++cap))=some all) (hg : Goes P f)
  (hK : ∀ (x : Sl) m' a k',T=g a E.f k' → m0 ≤ m' → E.Ok m' → m ≤ m' → k' ≤ E.toks.length→SlRep rTree m' x a→a.length ≤ 20001→K ((d,x.v) :: ρ) m' (E.I k' h :: L)) : OT P N o ρ [] m (E.I k h :: L) Q K :=
 OT.parGA ho hd hN hF ha hall hg hp hT hn hb hm hL fun v m' a k' xs h1 h2 h3 h4=>by
  obtain ⟨x,rfl,rfl,h5,h6⟩:=h4
  exact hK x m' a k' h1 (bn hm h2) (hE.mono h2) h2 h3 h5 h6
end
section
variable {mb : Mem} {E : PE} {h : Int}
theorem inside_at {f : FuncId} {first cap all : List Value} {X : Ps.Pp Tree} {m : Mem} {L : List Item} {k : Nat} (hall : fl (first++([]++cap))=some all) (hg : Goes Tryz.prog f) (hE : E.Ok m)
  (hX : ∀ b,ParAt Tryz.prog E vTree f all 0 X m (.cells b 0 [.int .i64 0,strV [], .int .i64 0, .slice none 0 0] :: L) k) :
  ParAt Tryz.prog E vTree 206 [E.v, .func (.func f) ⟨first⟩ ⟨cap⟩] h X m L k:=by
 refine ParAt.enter Tryz.func206 rfl 21 rfl fun T hT hn => ?_
 have hm : m ≤ m:=bm _
 rw [← Ps.bind_ret X] at hT
 refine uA ?_
 refine oA tab (fun b4 => ?_);refine bD (ag _ _ _) ?_
 refine uA ?_
 refine uM ?_
 refine uA ?_
 refine qs rfl (bI (k:=3) tab 0 rfl rfl rfl rfl rfl rfl rfl rfl ?_)
 refine uA ?_
 refine qs rfl (OT.parTA (L0:=L) (hX b4) hT hn hE (by repeat (first|exact cz|refine cA ?_)) hm uS rfl rfl rfl rfl rfl hall hg (fun x m2 a k2 hT hm hE hle hk hrx => ?_))
 refine uA ?_
 refine oA tab (fun b6 => ?_);refine bD (ag _ _ _) ?_
 refine uA ?_
 refine uT ?_
 refine uA ?_
 refine qs rfl (bI (k:=3) tab 0 rfl rfl rfl rfl rfl rfl rfl rfl ?_)
 refine uA ?_
 refine uM ?_
 refine uA ?_
 refine qs rfl (bJ tab 2 rfl rfl rfl rfl rfl rfl rfl rfl ?_)
 refine uA ?_
 refine ci tab 2 rfl rfl rfl rfl (L':=E.I k2 h :: L) uS ⟨_,k2,[],hT,hm,hk,⟨x,rfl,rfl,hrx⟩,rfl⟩
theorem insideS_at {f : FuncId} {first cap all : List Value} {X : Ps.Pp (List Tree)} {m : Mem} {L : List Item} {k : Nat} (hall : fl (first++([]++cap))=some all) (hg : Goes Tryz.prog f) (hE : E.Ok m)
  (hX : ParAt Tryz.prog E vSl f all 0 X m L k) :
  ParAt Tryz.prog E vSl 211 [E.v, .func (.func f) ⟨first⟩ ⟨cap⟩] h X m L k:=by
 refine ParAt.enter Tryz.func211 rfl 21 rfl fun T hT hn => ?_
 have hm : m ≤ m:=bm _
 rw [← Ps.bind_ret X] at hT
 refine uA ?_
 refine uM ?_
 refine uA ?_
 refine qs rfl (bI (k:=3) tab 0 rfl rfl rfl rfl rfl rfl rfl rfl ?_)
 refine uA ?_
 refine qs rfl (OT.parSA (L0:=L) hX hT hn hE (by repeat (first|exact cz|refine cA ?_)) hm uS rfl rfl rfl rfl rfl hall hg (fun x m2 a k2 hT hm hE hle hk hrx hlx => ?_))
 refine uA ?_
 refine qs rfl (bI (k:=3) tab 0 rfl rfl rfl rfl rfl rfl rfl rfl ?_)
 refine uA ?_
 refine bu rfl (L':=E.I k2 h :: L) uS ⟨_,k2,[],hT,hm,hk,⟨x,rfl,rfl,hrx,hlx⟩,rfl⟩
theorem exprs_par {Y : Ps.Pp Tree} (hY : Par Tryz.prog mb E vTree 191 [E.v] h Y) (e : Str) :
  Par Tryz.prog mb E vSl 210 [E.v,strV e] h (Ps.exprsP E.N e Y):=by
 refine cy Tryz.func210 rfl 17 rfl fun m L k T hm0 hE hk hT hn => ?_
 replace hY:=hY.up hm0
 have hm : m ≤ m:=bm _
 unfold Ps.exprsP Ps.inP at hT
 refine uA ?_
 refine qs rfl (cD hT hE hk rfl rfl rfl rfl rfl rfl (fun hT hk => ?_) (fun hT => ?_))
 ·refine uA ?_
  refine bu rfl (L':=E.I (k + 1) h :: L) uS ⟨[],k + 1,[],hT,hm,hk,⟨⟨none,0,0⟩,rfl,rfl,bN _ _,by simp⟩,rfl⟩
 ·refine uA ?_
  refine qs rfl (OT.parL (L0:=L) (list1_par (first:=[E.v]) (cap:=[]) rfl goes191 hY) hm hT hn hE hk (by repeat (first|exact cz|refine cA ?_)) hm uS rfl rfl rfl rfl rfl rfl goes146 (fun x m2 a k2 hT hm hE hlex hk hrx hox hlx => ?_))
  refine uA ?_
  refine qs rfl (OT.needP (L0:=L) hT hE hk (by repeat (first|exact cz|refine cA ?_)) hm uS rfl rfl rfl rfl rfl rfl (fun hT hk => ?_))
  refine uA ?_
  refine bu rfl (L':=E.I (k2 + 1) h :: L) uS ⟨a,k2 + 1,[],hT,hm,hk,⟨x,rfl,rfl,hrx,hlx⟩,rfl⟩
theorem index_par {Y : Ps.Pp Tree} (hY : Par Tryz.prog mb E vTree 191 [E.v] 0 Y) (x : HTree) (n : Tree) (hr : TreeRep mb x n) :
  Par Tryz.prog mb E vTree 208 [E.v,treeV x] 0 (Ps.indexP Y n):=by
 refine cy Tryz.func208 rfl 42 rfl fun m L k T hm0 hE hk hT hn => ?_
 replace hY:=hY.up hm0
 replace hr:=hr.mono hm0
 have hm : m ≤ m:=bm _
 unfold Ps.indexP at hT
 refine uA ?_
 refine oB (fun b3 => ?_);refine bD (ag _ _ _) ?_
 refine oA tab (fun b4 => ?_);refine bD (ag _ _ _) ?_
 refine uA ?_
 refine uM ?_
 refine qs rfl (cq tab rTree (hs:=[x]) (l:=[n]) ⟨rTree_iff.2 hr,trivial⟩ rfl rfl rfl rfl rfl (by decide) (fun s m1 hle1 hs ho hc => ?_))
 replace hm:=hle1
 replace hE:=hE.mono hle1
 refine TO.tokFo hc ho 4 ?_
 refine bD (ag _ _ _) ?_
 refine uA ?_
 refine oA tab (fun b6 => ?_);refine bD (ag _ _ _) ?_
 refine uA ?_
 refine uT ?_
 refine TO.nil ?_
 refine thenQ_n ?_
 refine TC.cut (ι:=Int × Sl × Mem × List Tree × Nat) [0,4,6] rfl (fun i=>[(5,i.2.1.v)]) (fun i=>i.2.2.1) (fun i=>E.I i.2.2.2.2 0 :: .cells b6 0 [.int .i64 50,strV [], .int .i64 i.1, .slice none 0 0] :: tok i.2.1 4 :: .cells b4 0 [.int .i64 0,strV [], .int .i64 0, .slice none 0 0] :: L) (fun i=>m ≤ i.2.2.1∧E.Ok i.2.2.1∧i.2.2.2.2 ≤ E.toks.length∧SlRep rTree i.2.2.1 i.2.1 i.2.2.2.1∧Own i.2.1∧i.2.2.2.1.length ≤ 2∧0 ≤ i.1∧i.1 ≤ 1∧T=Ps.cutP Y i.1 i.2.2.2.1 E.f i.2.2.2.2) ?_ ?_
 ·refine uA ?_
  refine qs rfl (OT.peekP hT hE hk rfl rfl rfl rfl rfl rfl (fun hT => ?_) (fun hT => ?_))
  ·refine uA ?_
   exact ⟨(0,s,m1,[n],k),uH,uH,rfl,rfl,uS,hm,hE,hk,hs,ho,by simp,by simp only;omega,by simp only;omega,hT⟩
  ·refine uA ?_
   refine qs rfl (cC (L0:=L) (hY) hm hT hn hE hk (by repeat (first|exact cz|refine cA ?_)) hm uS rfl rfl rfl rfl rfl rfl goes191 (fun y m2 e k2 hT hm hE hley hk hry => ?_))
   refine qs rfl (cq tab rTree (hs:=[y]) (l:=[e]) ⟨rTree_iff.2 hry,trivial⟩ rfl rfl rfl rfl rfl (by decide) (fun s2 m3 hle3 hs2 ho2 hc2 => ?_))
   refine qs rfl (bP tab rTree 2 (hs.mono (bn hley hle3)) ho hs2 rfl rfl rfl rfl rfl rfl rfl (by simp only [ab,ae,rTree,mkR];omega) (fun s3 m4 hle4 hs3 ho3 => ?_))
   replace hm:=bn hm (bn hle3 hle4)
   replace hE:=hE.mono (bn hle3 hle4)
   refine uA ?_
   refine qs rfl (cD hT hE hk rfl rfl rfl rfl rfl rfl (fun hT hk => ?_) (fun hT => ?_))
   ·refine uA ?_
    refine qs rfl (bJ tab 3 rfl rfl rfl rfl rfl rfl rfl rfl ?_)
    refine uA ?_
    refine ci tab 3 rfl rfl rfl rfl (L':=E.I (k2 + 1) 0 :: L) uS ⟨_,k2 + 1,[],hT,hm,hk,⟨⟨49,[],0,s3⟩,rfl,rfl,⟨rfl,rfl,rfl,hs3⟩⟩,rfl⟩
   ·refine uA ?_
    refine qs rfl (bI (k:=2) tab 1 rfl rfl rfl rfl rfl rfl rfl rfl ?_)
    refine uA ?_
    exact ⟨(1,s3,m4,[n]++[e],k2),uH,uH,rfl,rfl,uS,hm,hE,hk,hs3,ho3,by simp,by simp only;omega,by simp only;omega,hT⟩
 ·rintro ⟨num,s,m1,ks,k⟩ ⟨hm,hE,hk,hs,ho,hl,hn0,hn1,hT⟩
  simp only at hm hE hk hs ho hl hn0 hn1 hT
  unfold Ps.cutP at hT
  refine uA ?_
  refine qs rfl (OT.needP (L0:=L) hT hE hk (by repeat (first|exact cz|refine cA ?_)) hm uS rfl rfl rfl rfl rfl rfl (fun hT hk => ?_))
  refine uA ?_
  refine qs rfl (cD hT hE hk rfl rfl rfl rfl rfl rfl (fun hT hk => ?_) (fun hT => ?_))
  ·refine uA ?_
   refine qs rfl (bI (k:=3) tab 1 rfl rfl rfl rfl rfl rfl rfl rfl ?_)
   refine uA ?_
   refine uM ?_
   refine uA ?_
   refine qs rfl (bJ tab 3 rfl rfl rfl rfl rfl rfl rfl rfl ?_)
   refine uA ?_
   refine ci tab 3 rfl rfl rfl rfl (L':=E.I (k + 1 + 1) 0 :: L) uS ⟨_,k + 1 + 1,[],hT,hm,hk,⟨⟨50,[],num,s⟩,rfl,rfl,⟨rfl,rfl,rfl,hs⟩⟩,rfl⟩
  ·refine uA ?_
   refine qs rfl (cC (L0:=L) (hY) hm hT hn hE hk (by repeat (first|exact cz|refine cA ?_)) hm uS rfl rfl rfl rfl rfl rfl goes191 (fun y m2 e k2 hT hm hE hley hk hry => ?_))
   refine qs rfl (cq tab rTree (hs:=[y]) (l:=[e]) ⟨rTree_iff.2 hry,trivial⟩ rfl rfl rfl rfl rfl (by decide) (fun s2 m3 hle3 hs2 ho2 hc2 => ?_))
   refine qs rfl (bP tab rTree 2 (hs.mono (bn hley hle3)) ho hs2 rfl rfl rfl rfl rfl rfl rfl (by simp only [ab,ae,rTree,mkR];omega) (fun s3 m4 hle4 hs3 ho3 => ?_))
   replace hm:=bn hm (bn hle3 hle4)
   replace hE:=hE.mono (bn hle3 hle4)
   refine uA ?_
   refine uM ?_
   refine qs rfl (bK (r':=num + 2) rfl rfl rfl rfl rfl rfl rfl (by omega) ?_)
   refine uA ?_
   refine qs rfl (bI (k:=2) tab 1 rfl rfl rfl rfl rfl rfl rfl rfl ?_)
   refine uA ?_
   refine qs rfl (OT.needP (L0:=L) hT hE hk (by repeat (first|exact cz|refine cA ?_)) hm uS rfl rfl rfl rfl rfl rfl (fun hT hk => ?_))
   refine uA ?_
   refine qs rfl (bI (k:=3) tab 1 rfl rfl rfl rfl rfl rfl rfl rfl ?_)
   refine uA ?_
   refine uM ?_
   refine uA ?_
   refine qs rfl (bJ tab 3 rfl rfl rfl rfl rfl rfl rfl rfl ?_)
   refine uA ?_
   refine ci tab 3 rfl rfl rfl rfl (L':=E.I (k2 + 1) 0 :: L) uS ⟨_,k2 + 1,[],hT,hm,hk,⟨⟨50,[],num + 2,s3⟩,rfl,rfl,⟨rfl,rfl,rfl,hs3⟩⟩,rfl⟩
end
end Go.Sep


/- PsW12 -/
namespace Go.Sep
open Go.Proofs
attribute [local irreducible] TC TO OT TCallX TCall DO DOt thenQ blockQ retQ At
section
variable {mb : Mem} {E : PE} {h : Int}
theorem post1_at {Y : Ps.Pp Tree} (hY : Par Tryz.prog mb E vTree 191 [E.v] 0 Y) {m : Mem} {L : List Item} {k : Nat} {it : Item} {b1 b3 : Nat} {x : HTree} {n : Tree} (hm0 : mb ≤ m) (hE : E.Ok m) (hk : k ≤ E.toks.length) (hA : At m b1 0 [E.v]) (hr : TreeRep m x n) :
  ParAt Tryz.prog E vTree 207 [.pointer (some ⟨b1,0,none⟩), .pointer (some ⟨b3,0,none⟩)] 0 (Ps.indexP Y n) m (it :: .cells b3 0 (treeC x) :: L) k:=by
 refine ParAt.enter Tryz.func207 rfl 6 rfl fun T hT hn => ?_
 have hm : m ≤ m:=bm _
 rw [← Ps.bind_ret (Ps.indexP Y n)] at hT
 refine uA ?_
 refine oA tab (fun b2 => ?_);refine bD (ag _ _ _) ?_
 refine uA ?_
 (refine oL tab hA ?_)
 refine uM ?_
 refine qs rfl (cC (L0:=it :: .cells b3 0 (treeC x) :: L) (index_par (hY.up hm0) x n hr) hm hT hn hE hk (by repeat (first|exact cz|refine cA ?_)) hm uS rfl rfl rfl rfl rfl rfl goes208 (fun x m2 a k2 hT hm hE hle hk hrx => ?_))
 refine uA ?_
 refine uT ?_
 refine uA ?_
 refine ci tab 1 rfl rfl rfl rfl (L':=E.I k2 0 :: it :: .cells b3 0 _ :: L) uS ⟨_,k2,[],hT,hm,hk,⟨x,rfl,rfl,hrx⟩,rfl⟩
theorem post2_at {Y : Ps.Pp Tree} (hY : Par Tryz.prog mb E vTree 191 [E.v] 0 Y) {m : Mem} {L : List Item} {k : Nat} {it : Item} {b1 b3 : Nat} {x : HTree} {n : Tree} (hm0 : mb ≤ m) (hE : E.Ok m) (hk : k ≤ E.toks.length) (hA : At m b1 0 [E.v]) (hr : TreeRep m x n) :
  ParAt Tryz.prog E vTree 209 [.pointer (some ⟨b3,0,none⟩), .pointer (some ⟨b1,0,none⟩)] 0 (Ps.bind (Ps.exprsP E.N [41] Y) fun l=>Ps.ret (.mk 51 [] 0 (n :: l))) m (it :: .cells b3 0 (treeC x) :: L) k:=by
 refine ParAt.enter Tryz.func209 rfl 9 rfl fun T hT hn => ?_
 have hm : m ≤ m:=bm _
 replace hY:=hY.up hm0
 refine uA ?_
 refine oA tab (fun b2 => ?_);refine bD (ag _ _ _) ?_
 refine uA ?_
 refine bQ [6] cr 7 rfl [.cells b3 0 (treeC x), .cells b2 0 [.int .i64 0,strV [], .int .i64 0, .slice none 0 0]] (E.I k 0 :: it :: L) ((ah pfr3 (ai _ pfr1))) ?_
 refine bW (k:=0) tab 0 0 uC uK uK rfl rfl rfl rfl rfl rfl rfl rfl ?_
 refine bX (k:=0) tab 2 hA uC uK uK rfl rfl rfl rfl rfl rfl rfl ?_
 refine DO.fork 1 [3] uK ⟨⟨_,rfl,rfl,rfl, ?_⟩,⟨_,rfl,rfl,rfl, ?_⟩,trivial⟩
 ·skip
  refine cq tab rTree (hs:=[x]) (l:=[n]) ⟨rTree_iff.2 hr,trivial⟩ rfl rfl rfl rfl rfl (by decide) (fun s mB hleB hs ho hc => ?_)
  replace hm:=bn hm hleB
  replace hE:=hE.mono hleB
  refine ⟨hleB,_,af _, ?_⟩
  refine bZ 3 rfl rfl uK rfl ?_
  refine ce (L':=E.I k 0 :: .cells b2 0 [.int .i64 0,strV [], .int .i64 0, .slice none 0 0] :: it :: .cells b3 0 (treeC x) :: L) ((ah pfr2 (ai _ (ah pfr1 (ai _ pfr1))))) (OT.parS (L0:=it :: .cells b3 0 (treeC x) :: L) (exprs_par hY [41]) hm hT hn hE hk (by repeat (first|exact cz|refine cA ?_)) hm uS rfl rfl rfl rfl rfl rfl goes210 (fun y mA l k2 hT hm hE hleA hk hry hly => ?_))
  refine ⟨hleA,E.I k2 0 :: it :: L,((ah pfr3 (ai _ pfr1))), ?_⟩
  have hsB:=hs.mono hleA
  have hrB:=hry
  refine bZ 4 rfl rfl uK rfl ?_
  refine OT.tokFo hc ho 4 (bP tab rTree 0 hsB ho hrB rfl rfl rfl rfl rfl rfl rfl (by simp only [ab,ae,rTree,mkR];omega) (fun s3 mC hleC hs3 ho3 => ?_))
  refine ⟨hleC,tok s3 4 :: E.I k2 0 :: it :: L,perm_mid (l:=[_,_]), ?_⟩
  refine bV tab uC uK [5] uK rfl ?_
  refine DO.tail ?_
  refine DOt.run 6 rfl rfl uK rfl ?_
  refine bJ tab 1 rfl rfl rfl rfl rfl rfl rfl rfl ?_
  refine DOt.perm (L':=E.I k2 0 :: .cells b2 0 [.int .i64 51,strV [], .int .i64 0,s3.v] :: tok s3 4 :: it :: .cells b3 0 (treeC x) :: L) ((ah pfr3 (ai _ (ah pfr1 (ai _ (ah pfr1 (ai _ pfr1))))))) ?_
  refine DOt.nil uK ?_
  refine uA ?_
  refine ci tab 1 rfl rfl rfl rfl (L':=E.I k2 0 :: it :: .cells b3 0 (treeC x) :: L) uS ⟨_,k2,[],hT,bn hm hleC,hk,⟨⟨51,[],0,s3⟩,rfl,rfl,⟨rfl,rfl,rfl,hs3⟩⟩,rfl⟩
 ·skip
  refine ce (L':=E.I k 0 :: .cells b2 0 [.int .i64 0,strV [], .int .i64 0, .slice none 0 0] :: it :: .cells b3 0 (treeC x) :: L) ((ah pfr2 (ai _ (ah pfr1 (ai _ pfr1))))) (OT.parS (L0:=it :: .cells b3 0 (treeC x) :: L) (exprs_par hY [41]) hm hT hn hE hk (by repeat (first|exact cz|refine cA ?_)) hm uS rfl rfl rfl rfl rfl rfl goes210 (fun y mA l k2 hT hm hE hleA hk hry hly => ?_))
  refine ⟨hleA,E.I k2 0 :: it :: L,((ah pfr3 (ai _ pfr1))), ?_⟩
  refine bZ 1 rfl rfl uK rfl ?_
  refine cq tab rTree (hs:=[x]) (l:=[n]) ⟨rTree_iff.2 (hr.mono hleA),trivial⟩ rfl rfl rfl rfl rfl (by decide) (fun s mB hleB hs ho hc => ?_)
  replace hm:=bn hm hleB
  replace hE:=hE.mono hleB
  refine ⟨hleB,_,af _, ?_⟩
  have hsB:=hs
  have hrB:=hry.mono hleB
  refine bZ 4 rfl rfl uK rfl ?_
  refine OT.tokFo hc ho 4 (bP tab rTree 0 hsB ho hrB rfl rfl rfl rfl rfl rfl rfl (by simp only [ab,ae,rTree,mkR];omega) (fun s3 mC hleC hs3 ho3 => ?_))
  refine ⟨hleC,tok s3 4 :: E.I k2 0 :: it :: L,perm_mid (l:=[_,_]), ?_⟩
  refine bV tab uC uK [5] uK rfl ?_
  refine DO.tail ?_
  refine DOt.run 6 rfl rfl uK rfl ?_
  refine bJ tab 1 rfl rfl rfl rfl rfl rfl rfl rfl ?_
  refine DOt.perm (L':=E.I k2 0 :: .cells b2 0 [.int .i64 51,strV [], .int .i64 0,s3.v] :: tok s3 4 :: it :: .cells b3 0 (treeC x) :: L) ((ah pfr3 (ai _ (ah pfr1 (ai _ (ah pfr1 (ai _ pfr1))))))) ?_
  refine DOt.nil uK ?_
  refine uA ?_
  refine ci tab 1 rfl rfl rfl rfl (L':=E.I k2 0 :: it :: .cells b3 0 (treeC x) :: L) uS ⟨_,k2,[],hT,bn hm hleC,hk,⟨⟨51,[],0,s3⟩,rfl,rfl,⟨rfl,rfl,rfl,hs3⟩⟩,rfl⟩
end
end Go.Sep


/- PsW13 -/
namespace Go.Ps
theorem tkn_t {α : Type} {c : Int} {A : Tk→Pp α} {B : Pp α} {f : F} {k : Nat} {t : Tk} (h : f k=some t) (hk : isK c f k=true) : tkn c A B f k=A t f (k + 1):=by
 unfold isK at hk
 rw [h] at hk
 simp only at hk
 unfold tkn;rw [h];simp only [hk,bh]
theorem tkn_f {α : Type} {c : Int} {A : Tk→Pp α} {B : Pp α} {f : F} {k : Nat} (hk : isK c f k=false) : tkn c A B f k=B f k:=by
 unfold isK at hk
 unfold tkn
 cases h : f k with
 | none=>rfl
 | some t=>rw [h] at hk;simp only at hk;simp only [hk,bg]
end Go.Ps
namespace Go.Sep
open Go.Proofs
attribute [local irreducible] TC TO OT TCallX TCall DO DOt thenQ blockQ retQ At
section
variable {mb : Mem} {E : PE} {h : Int}
theorem primary1_par {Y : Ps.Pp Tree} (hY : Par Tryz.prog mb E vTree 191 [E.v] h Y) (b1 : Nat) (hA : At mb b1 0 [E.v]) :
  Par Tryz.prog mb E vSl 212 [.pointer (some ⟨b1,0,none⟩)] h (Ps.exprsP E.N [125] Y):=by
 refine cy Tryz.func212 rfl 4 rfl fun m L k T hm0 hE hk hT hn => ?_
 replace hY:=hY.up hm0
 replace hA:=hA.mono hm0
 have hm : m ≤ m:=bm _
 rw [← Ps.bind_ret (Ps.exprsP E.N [125] Y)] at hT
 refine uA ?_
 (refine oL tab hA ?_)
 refine uA ?_
 refine qs rfl (OT.parS (L0:=L) (exprs_par hY [125]) hm hT hn hE hk (by repeat (first|exact cz|refine cA ?_)) hm uS rfl rfl rfl rfl rfl rfl goes210 (fun x m2 a k2 hT hm hE hlex hk hrx hlx => ?_))
 refine uA ?_
 refine bu rfl (L':=E.I k2 h :: L) uS ⟨a,k2,[],hT,hm,hk,⟨x,rfl,rfl,hrx,hlx⟩,rfl⟩
theorem primary_par {X Y Z : Ps.Pp Tree} (hd : Bool) (hX : Par Tryz.prog mb E vTree 143 [E.v] (bif hd then 1 else 0) X) (hY : Par Tryz.prog mb E vTree 191 [E.v] 0 Y) (hZ : Par Tryz.prog mb E vTree 115 [E.v] (bif hd then 1 else 0) Z) :
  Par Tryz.prog mb E vTree 205 [E.v] (bif hd then 1 else 0) (Ps.primP E.N X Z Y hd):=by
 refine cy Tryz.func205 rfl 119 rfl fun m L k T hm0 hE hk hT hn => ?_
 have hm : m ≤ m:=bm _
 have hrows:=hE.rows
 unfold Ps.primP at hT
 generalize hh : (bif hd then (1 : Int) else 0)=h at hX hZ ⊢
 refine uA ?_
 refine oB (fun b1 => ?_)
 refine cc fun m1 hle1 hA => ?_
 replace hm : m ≤ m1:=hle1
 replace hE:=hE.mono hle1
 replace hX:=hX.up (bn hm0 hle1)
 replace hY:=hY.up (bn hm0 hle1)
 replace hZ:=hZ.up (bn hm0 hle1)
 have hmm : m1 ≤ m1:=bm _
 have hlen:=hE.rep.len
 have hfew:=hE.few
 refine uA ?_
 refine oA tab (fun b2 => ?_);refine bD (ag _ _ _) ?_
 refine uA ?_
 (refine oL tab hA ?_)
 refine uA ?_
 refine oC goes145 ((is_law 2 hE hk).x ?_);
 rintro _ _ _ ⟨rfl,rfl,rfl⟩
 refine uA ?_
 cases hb : Ps.isK 2 E.f k with
 | true =>
  have hlt:=PE.isK_lt hb
  have hx : E.toks[k]? = some E.toks[k]:=ak hlt
  rw [Ps.tkn_t (PE.f_some hlt) hb] at hT
  refine uA ?_
  (refine oL tab hA ?_)
  refine uA ?_
  refine uM ?_
  refine qs rfl (bK (r':=((k + 1 : Nat) : Int)) rfl rfl rfl rfl rfl rfl rfl (by omega) ?_)
  refine uA ?_
  refine qs rfl (bI (k:=2) tab 0 rfl rfl rfl rfl rfl rfl rfl rfl ?_)
  refine uA ?_
  refine bQ [13] cr 14 rfl [E.I (k + 1) h, .cells b2 0 [.int .i64 0,strV [], .int .i64 0, .slice none 0 0]] L uP ?_
  (refine bX (k:=0) tab 0 hA uC uK uK rfl rfl rfl rfl rfl rfl rfl ?_)
  refine bV tab uC uK [1,2] uK rfl ?_
  (refine bW tab 3 0 uC uK uK rfl rfl rfl rfl rfl rfl rfl rfl ?_)
  (refine bX (k:=0) tab 4 hA uC uK uK rfl rfl rfl rfl rfl rfl rfl ?_)
  refine bV tab uC uK [5,6] uK rfl ?_
  (refine bW tab 7 0 uC uK uK rfl rfl rfl rfl rfl rfl rfl rfl ?_)
  refine DO.arith 8 (r':=((k : Nat) : Int)) uC uK uK rfl rfl rfl rfl rfl rfl rfl rfl (by first | rfl | omega | (simp only;omega)) (by omega) ?_
  refine bY tab rTok 9 k hE.rep uC uK uK rfl rfl rfl rfl rfl rfl rfl (by first | rfl | omega) rfl hx ?_
  rintro b i hd hr hA2;obtain rfl:=(show hd=E.toks[k] from hr)
  refine bV tab uC uK [10] uK rfl ?_
  (refine bX tab 11 hA2 uC uK uK rfl rfl rfl rfl rfl rfl rfl ?_)
  refine bV tab uC uK [12] uK rfl ?_
  refine DO.tail ?_
  refine DOt.run 13 rfl rfl uK rfl ?_
  refine bJ tab 1 rfl rfl rfl rfl rfl rfl rfl rfl ?_
  refine DOt.nil uK ?_
  rotate_left 1
  refine uA ?_
  refine ci tab 1 rfl rfl rfl rfl (L':=E.I (k + 1) h :: L) uS ⟨_,k + 1,[],hT,hm,hlt,⟨⟨40,[],(E.toks[k]).num,⟨none,0,0⟩⟩,rfl,rfl,⟨rfl,rfl,rfl,bN _ _⟩⟩,rfl⟩
 | false =>
 rw [Ps.tkn_f hb] at hT
 refine uA ?_
 (refine oL tab hA ?_)
 refine uA ?_
 refine oC goes145 ((is_law 3 hE hk).x ?_);
 rintro _ _ _ ⟨rfl,rfl,rfl⟩
 refine uA ?_
 cases hb : Ps.isK 3 E.f k with
 | true =>
  have hlt:=PE.isK_lt hb
  have hx : E.toks[k]? = some E.toks[k]:=ak hlt
  rw [Ps.tkn_t (PE.f_some hlt) hb] at hT
  refine uA ?_
  (refine oL tab hA ?_)
  refine uA ?_
  refine uM ?_
  refine qs rfl (bK (r':=((k + 1 : Nat) : Int)) rfl rfl rfl rfl rfl rfl rfl (by omega) ?_)
  refine uA ?_
  refine qs rfl (bI (k:=2) tab 0 rfl rfl rfl rfl rfl rfl rfl rfl ?_)
  refine uA ?_
  refine bQ [13] cr 14 rfl [E.I (k + 1) h, .cells b2 0 [.int .i64 0,strV [], .int .i64 0, .slice none 0 0]] L uP ?_
  (refine bX (k:=0) tab 0 hA uC uK uK rfl rfl rfl rfl rfl rfl rfl ?_)
  refine bV tab uC uK [1,2] uK rfl ?_
  (refine bW tab 3 0 uC uK uK rfl rfl rfl rfl rfl rfl rfl rfl ?_)
  (refine bX (k:=0) tab 4 hA uC uK uK rfl rfl rfl rfl rfl rfl rfl ?_)
  refine bV tab uC uK [5,6] uK rfl ?_
  (refine bW tab 7 0 uC uK uK rfl rfl rfl rfl rfl rfl rfl rfl ?_)
  refine DO.arith 8 (r':=((k : Nat) : Int)) uC uK uK rfl rfl rfl rfl rfl rfl rfl rfl (by first | rfl | omega | (simp only;omega)) (by omega) ?_
  refine bY tab rTok 9 k hE.rep uC uK uK rfl rfl rfl rfl rfl rfl rfl (by first | rfl | omega) rfl hx ?_
  rintro b i hd hr hA2;obtain rfl:=(show hd=E.toks[k] from hr)
  refine bV tab uC uK [10] uK rfl ?_
  (refine bX tab 11 hA2 uC uK uK rfl rfl rfl rfl rfl rfl rfl ?_)
  refine bV tab uC uK [12] uK rfl ?_
  refine DO.tail ?_
  refine DOt.run 13 rfl rfl uK rfl ?_
  refine bJ tab 1 rfl rfl rfl rfl rfl rfl rfl rfl ?_
  refine DOt.nil uK ?_
  rotate_left 1
  refine uA ?_
  refine ci tab 1 rfl rfl rfl rfl (L':=E.I (k + 1) h :: L) uS ⟨_,k + 1,[],hT,hm,hlt,⟨⟨41,(E.toks[k]).text,0,⟨none,0,0⟩⟩,rfl,rfl,⟨rfl,rfl,rfl,bN _ _⟩⟩,rfl⟩
 | false =>
 rw [Ps.tkn_f hb] at hT
 refine uA ?_
 (refine oL tab hA ?_)
 refine uA ?_
 refine qs rfl (cD hT hE hk rfl rfl rfl rfl rfl rfl (fun hT hk => ?_) (fun hT => ?_))
 ·refine uA ?_
  refine uT ?_
  refine uA ?_
  refine ci tab 1 rfl rfl rfl rfl (L':=E.I (k + 1) h :: L) uS ⟨_,k + 1,[],hT,hm,hk,⟨⟨42,[],1,⟨none,0,0⟩⟩,rfl,rfl,⟨rfl,rfl,rfl,bN _ _⟩⟩,rfl⟩
 refine uA ?_
 (refine oL tab hA ?_)
 refine uA ?_
 refine qs rfl (cD hT hE hk rfl rfl rfl rfl rfl rfl (fun hT hk => ?_) (fun hT => ?_))
 ·refine uA ?_
  refine uT ?_
  refine uA ?_
  refine ci tab 1 rfl rfl rfl rfl (L':=E.I (k + 1) h :: L) uS ⟨_,k + 1,[],hT,hm,hk,⟨⟨42,[],0,⟨none,0,0⟩⟩,rfl,rfl,⟨rfl,rfl,rfl,bN _ _⟩⟩,rfl⟩
 refine uA ?_
 (refine oL tab hA ?_)
 refine uA ?_
 refine qs rfl (cD hT hE hk rfl rfl rfl rfl rfl rfl (fun hT hk => ?_) (fun hT => ?_))
 ·refine uA ?_
  refine uT ?_
  refine uA ?_
  refine ci tab 1 rfl rfl rfl rfl (L':=E.I (k + 1) h :: L) uS ⟨_,k + 1,[],hT,hm,hk,⟨⟨43,[],0,⟨none,0,0⟩⟩,rfl,rfl,⟨rfl,rfl,rfl,bN _ _⟩⟩,rfl⟩
 refine uA ?_
 (refine oL tab hA ?_)
 refine uA ?_
 refine qs rfl (cD hT hE hk rfl rfl rfl rfl rfl rfl (fun hT hk => ?_) (fun hT => ?_))
 ·refine uA ?_
  (refine oL tab hA ?_)
  (refine oL tab hA ?_)
  refine uA ?_
  refine qs rfl (OT.parTA (L0:=L) (inside_at (first:=[E.v]) (cap:=[]) rfl goes191 hE (fun b=>hY.at _ hmm hE hk)) hT hn hE (by repeat (first|exact cz|refine cA ?_|refine cB ?_)) hm uS rfl rfl rfl rfl rfl rfl goes206 (fun x m2 a k2 hT hm hE hle hk hrx => ?_))
  replace hA:=hA.mono hle
  refine uA ?_
  refine oA tab (fun b3 => ?_);refine bD (ag _ _ _) ?_
  refine uA ?_
  refine uT ?_
  refine uA ?_
  (refine oL tab hA ?_)
  refine uA ?_
  refine qs rfl (OT.needP (L0:=L) hT hE hk (by repeat (first|exact cz|refine cA ?_|refine cB ?_)) hm uS rfl rfl rfl rfl rfl rfl (fun hT hk => ?_))
  refine uA ?_
  refine uM ?_
  refine uA ?_
  refine qs rfl (bJ tab 2 rfl rfl rfl rfl rfl rfl rfl rfl ?_)
  refine uA ?_
  refine ci tab 2 rfl rfl rfl rfl (L':=E.I (k2 + 1) h :: L) uS ⟨_,k2 + 1,[],hT,hm,hk,⟨x,rfl,rfl,hrx⟩,rfl⟩
 refine uA ?_
 (refine oL tab hA ?_)
 refine uA ?_
 refine qs rfl (cD hT hE hk rfl rfl rfl rfl rfl rfl (fun hT hk => ?_) (fun hT => ?_))
 ·refine uA ?_
  (refine oL tab hA ?_)
  refine uA ?_
  refine qs rfl (OT.needP (L0:=L) hT hE hk (by repeat (first|exact cz|refine cA ?_|refine cB ?_)) hm uS rfl rfl rfl rfl rfl rfl (fun hT hk => ?_))
  refine uA ?_
  (refine oL tab hA ?_)
  refine uA ?_
  refine qs rfl (cC (L0:=L) hX hmm hT hn hE hk (by repeat (first|exact cz|refine cA ?_|refine cB ?_)) hm uS rfl rfl rfl rfl rfl rfl goes143 (fun x m2 a k2 hT hm hE hle hk hrx => ?_))
  refine qs rfl (cq tab rTree (hs:=[x]) (l:=[a]) ⟨rTree_iff.2 hrx,trivial⟩ rfl rfl rfl rfl rfl (by decide) (fun s m3 hle3 hs ho hc => ?_))
  replace hA:=hA.mono (bn hle hle3)
  replace hm:=bn hm hle3
  replace hE:=hE.mono hle3
  replace hY:=hY.up (bn hle hle3)
  refine TO.tokFo hc ho 4 ?_
  refine bD (ag _ _ _) ?_
  refine uA ?_
  refine oA tab (fun b4 => ?_);refine bD (ag _ _ _) ?_
  refine uA ?_
  refine uT ?_
  refine uA ?_
  (refine oL tab hA ?_)
  refine uA ?_
  refine qs rfl (OT.needP (L0:=L) hT hE hk (by repeat (first|exact cz|refine cA ?_|refine cB ?_)) hm uS rfl rfl rfl rfl rfl rfl (fun hT hk => ?_))
  refine uA ?_
  refine bQ [7] cr 8 rfl [.cells b4 0 [.int .i64 46,strV [], .int .i64 0,s.v]] (E.I (k2 + 1) h :: tok s 4 :: .cells b2 0 [.int .i64 0,strV [], .int .i64 0, .slice none 0 0] :: L) (ag _ _ _) ?_
  refine bV tab uC uK [0] uK rfl ?_
  (refine bW tab 1 0 uC uK uK rfl rfl rfl rfl rfl rfl rfl rfl ?_)
  (refine bX (k:=0) tab 2 hA uC uK uK rfl rfl rfl rfl rfl rfl rfl ?_)
  refine bV tab uC uK [3] uK rfl ?_
  refine bZ 4 rfl rfl uK rfl ?_
  refine ce (ag _ _ _) (OT.parSA (L0:=L) (insideS_at (first:=[]) (cap:=[.pointer (some ⟨b1,0,none⟩)]) rfl goes212 hE ((primary1_par hY b1 hA).at _ (bm _) hE hk)) hT hn hE (by repeat (first|exact cz|refine cA ?_|refine cB ?_)) hm uS rfl rfl rfl rfl rfl rfl goes211 (fun y mA l k3 hT hm hE hleA hk hry hly => ?_));refine ⟨hleA,E.I k3 h :: tok s 4 :: .cells b2 0 [.int .i64 0,strV [], .int .i64 0, .slice none 0 0] :: L,ag _ _ _, ?_⟩
  refine bZ 5 rfl rfl uK rfl ?_
  refine bP tab rTree 2 (hs.mono hleA) ho hry rfl rfl rfl rfl rfl rfl rfl (by simp only [ab,ae,rTree,mkR];omega) (fun s3 mC hleC hs3 ho3 => ?_);refine ⟨hleC,E.I k3 h :: tok s3 4 :: .cells b2 0 [.int .i64 0,strV [], .int .i64 0, .slice none 0 0] :: L,af _, ?_⟩
  refine bV tab uC uK [6] uK rfl ?_
  refine DO.tail ?_
  refine DOt.run 7 rfl rfl uK rfl ?_
  refine bI (k:=3) tab 0 rfl rfl rfl rfl rfl rfl rfl rfl ?_;refine DOt.perm (ag _ _ _) ?_
  refine DOt.nil uK ?_
  rotate_left 1
  refine uA ?_
  refine uM ?_
  refine uA ?_
  refine qs rfl (bJ tab 3 rfl rfl rfl rfl rfl rfl rfl rfl ?_)
  refine uA ?_
  refine ci tab 3 rfl rfl rfl rfl (L':=E.I k3 h :: L) uS ⟨_,k3,[],hT,bn hm hleC,hk,⟨⟨46,[],0,s3⟩,rfl,rfl,⟨rfl,rfl,rfl,hs3⟩⟩,rfl⟩
 refine uA ?_
 (refine oL tab hA ?_)
 refine uA ?_
 refine qs rfl (cD hT hE hk rfl rfl rfl rfl rfl rfl (fun hT hk => ?_) (fun hT => ?_))
 ·refine uA ?_
  refine bQ [6] cr 7 rfl [.cells b2 0 [.int .i64 0,strV [], .int .i64 0, .slice none 0 0]] (E.I (k + 1) h :: L) (ag _ _ _) ?_
  (refine bX (k:=0) tab 0 hA uC uK uK rfl rfl rfl rfl rfl rfl rfl ?_)
  (refine bX (k:=0) tab 2 hA uC uK uK rfl rfl rfl rfl rfl rfl rfl ?_)
  refine bZ 1 rfl rfl uK rfl ?_
  refine ce (ag _ _ _) (cC (L0:=L) (psig_par hX) hmm hT hn hE hk (by repeat (first|exact cz|refine cA ?_|refine cB ?_)) hm uS rfl rfl rfl rfl rfl rfl goes114 (fun x mA a k2 hT hm hE hleA hk hrx => ?_));refine ⟨hleA,E.I k2 h :: L,ag _ _ _, ?_⟩
  refine bZ 3 rfl rfl uK rfl ?_
  refine ce (ag _ _ _) (cC (L0:=L) hZ hleA hT hn hE hk (by repeat (first|exact cz|refine cA ?_|refine cB ?_)) hm uS rfl rfl rfl rfl rfl rfl goes115 (fun y mB b k3 hT hm hE hleB hk hry => ?_));refine ⟨hleB,E.I k3 h :: L,ag _ _ _, ?_⟩
  refine bZ 4 rfl rfl uK rfl ?_
  refine cq tab rTree (hs:=[x,y]) (l:=[a,b]) ⟨rTree_iff.2 (hrx.mono hleB),rTree_iff.2 hry,trivial⟩ rfl rfl rfl rfl rfl (by decide) (fun s mC hleC hs ho hc => ?_);refine ⟨hleC,_,af _, ?_⟩
  refine bV tab uC uK [5] uK rfl ?_
  refine DO.tail ?_
  refine DOt.run 6 rfl rfl uK rfl ?_
  refine bJ tab 0 rfl rfl rfl rfl rfl rfl rfl rfl ?_;refine DOt.perm (ag _ _ _) ?_
  refine DOt.nil uK ?_
  rotate_left 1
  refine uA ?_
  refine ci tab 1 rfl rfl rfl rfl (L':=E.I k3 h :: L) uS ⟨_,k3,[],hT,bn hm hleC,hk,⟨⟨47,[],0,s⟩,rfl,rfl,⟨rfl,rfl,rfl,hs⟩⟩,rfl⟩
 refine uA ?_
 (refine oL tab hA ?_)
 refine uA ?_
 refine qs rfl (OT.nameP (L0:=L) hT hE hk (by repeat (first|exact cz|refine cA ?_)) hm uS rfl rfl rfl rfl rfl rfl (fun nm hT hk => ?_))
 refine uA ?_
 (refine oL tab hA ?_)
 refine uA ?_
 refine uM ?_
 cases hd with
 | true =>
  obtain rfl:=(show (1 : Int)=h from hh)
  refine uA ?_
  refine uT ?_
  refine uA ?_
  refine ci tab 1 rfl rfl rfl rfl (L':=E.I (k + 1) 1 :: L) uS ⟨_,k + 1,[],hT,hm,hk,⟨⟨44,nm,0,⟨none,0,0⟩⟩,rfl,rfl,⟨rfl,rfl,rfl,bN _ _⟩⟩,rfl⟩
 | false =>
  obtain rfl:=(show (0 : Int)=h from hh)
  replace hT : T=Ps.tok [123] (Ps.bind (Ps.exprsP E.N [125] Y) fun l=>Ps.ret (.mk 45 nm 0 l)) (Ps.ret (Ps.leaf 44 nm)) E.f (k + 1):=hT
  refine uA ?_
  (refine oL tab hA ?_)
  refine uA ?_
  refine qs rfl (cD hT hE hk rfl rfl rfl rfl rfl rfl (fun hT hk => ?_) (fun hT => ?_))
  ·refine uA ?_
   (refine oL tab hA ?_)
   refine uA ?_
   refine qs rfl (OT.parS (L0:=L) (exprs_par hY [125]) hmm hT hn hE hk (by repeat (first|exact cz|refine cA ?_)) hm uS rfl rfl rfl rfl rfl rfl goes210 (fun y mA l k3 hT hm hE hleA hk hry hly => ?_))
   refine uA ?_
   refine uT ?_
   refine uA ?_
   refine ci tab 1 rfl rfl rfl rfl (L':=E.I k3 0 :: L) uS ⟨_,k3,[],hT,hm,hk,⟨⟨45,nm,0,y⟩,rfl,rfl,⟨rfl,rfl,rfl,hry⟩⟩,rfl⟩
  ·refine uA ?_
   refine uT ?_
   refine uA ?_
   refine ci tab 1 rfl rfl rfl rfl (L':=E.I (k + 1) 0 :: L) uS ⟨_,k + 1,[],hT,hm,hk,⟨⟨44,nm,0,⟨none,0,0⟩⟩,rfl,rfl,⟨rfl,rfl,rfl,bN _ _⟩⟩,rfl⟩
end
end Go.Sep


/- PsW14 -/
namespace Go.Sep
open Go.Proofs
attribute [local irreducible] TC TO OT TCallX TCall DO DOt thenQ blockQ retQ At
section
variable {mb : Mem} {E : PE} {h : Int}
theorem post_par {X Y : Ps.Pp Tree} (hX : Par Tryz.prog mb E vTree 205 [E.v] h X) (hY : Par Tryz.prog mb E vTree 191 [E.v] 0 Y) :
  Par Tryz.prog mb E vTree 204 [E.v] h (Ps.bind X (Ps.postP E.N Y E.N)):=by
 refine cy Tryz.func204 rfl 27 rfl fun m L k T hm0 hE hk hT hn => ?_
 have hm : m ≤ m:=bm _
 have hrows:=hE.rows
 refine uA ?_
 refine oB (fun b1 => ?_)
 refine cc fun m1 hle1 hA => ?_
 replace hm : m ≤ m1:=hle1
 replace hE:=hE.mono hle1
 replace hX:=hX.up (bn hm0 hle1)
 replace hY:=hY.up (bn hm0 hle1)
 refine uA ?_
 refine oA tab (fun b2 => ?_);refine bD (ag _ _ _) ?_
 refine uA ?_
 (refine oL tab hA ?_)
 refine uA ?_
 refine qs rfl (cC (L0:=L) hX (bm _) hT hn hE hk (by repeat (first|exact cz|refine cA ?_)) hm uS rfl rfl rfl rfl rfl rfl goes205 (fun x m2 a k2 hT hm hE hle2 hk hrx => ?_))
 refine uA ?_
 refine oA tab (fun b3 => ?_);refine bD (ag _ _ _) ?_
 refine uA ?_
 refine uT ?_
 refine uA ?_
 refine br (ι:=HTree × Mem × Tree × Nat × Nat) [0,1,2,3] rfl (fun _=>[]) (fun x=>x.2.1) (fun x=>E.I x.2.2.2.1 h :: .cells b3 0 (treeC x.1) :: .cells b2 0 [.int .i64 0,strV [], .int .i64 0, .slice none 0 0] :: L) (fun x=>m2 ≤ x.2.1∧x.2.2.2.1 ≤ E.toks.length∧TreeRep x.2.1 x.1 x.2.2.1∧T=Ps.postP E.N Y x.2.2.2.2 x.2.2.1 E.f x.2.2.2.1) (fun x=>x.2.2.2.2) (x,m2,a,k2,E.N) uH rfl uS ⟨bm _,hk,hrx,hT⟩ ?_
 rintro ⟨x,m3,n,k,N⟩ ⟨hm3,hk,hrx,hT⟩
 simp only at hm3 hk hrx hT
 show TC _ _ _ _ _ m3 (E.I k h :: .cells b3 0 (treeC x) :: .cells b2 0 [.int .i64 0,strV [], .int .i64 0, .slice none 0 0] :: L) _
 replace hm:=bn hm hm3
 replace hE:=hE.mono hm3
 replace hA:=hA.mono (bn hle2 hm3)
 replace hY:=hY.up (bn hle2 hm3)
 have hmm : m3 ≤ m3:=bm _
 cases N with
 | zero=>exact absurd hT hn
 | succ N =>
  replace hT : T=Ps.tok [46] (Ps.name fun s=>Ps.postP E.N Y N (.mk 48 s 0 [n])) (Ps.tok [91] (Ps.bind (Ps.indexP Y n) fun t=>Ps.postP E.N Y N t) (Ps.tok [40] (Ps.bind (Ps.exprsP E.N [41] Y) fun l=>Ps.postP E.N Y N (.mk 51 [] 0 (n :: l))) (Ps.ret n))) E.f k:=hT
  refine uA ?_
  (refine oL tab hA ?_)
  refine uA ?_
  refine qs rfl (cD hT hE hk rfl rfl rfl rfl rfl rfl (fun hT hk => ?_) (fun hT => ?_))
  ·refine uA ?_
   refine bQ [5] cr 6 rfl [.cells b3 0 (treeC x)] (E.I (k + 1) h :: .cells b2 0 [.int .i64 0,strV [], .int .i64 0, .slice none 0 0] :: L) (ag _ _ _) ?_
   refine bX (k:=0) tab 0 hA uC uK uK rfl rfl rfl rfl rfl rfl rfl ?_
   refine bW (k:=0) tab 2 0 uC uK uK rfl rfl rfl rfl rfl rfl rfl rfl ?_
   refine DO.fork 1 [3] uK ⟨⟨_,rfl,rfl,rfl, ?_⟩,⟨_,rfl,rfl,rfl, ?_⟩,trivial⟩
   ·skip
    refine ce (ag _ _ _) (OT.nameP (L0:=L) hT hE hk (by repeat (first|exact cz|refine cA ?_|refine cB ?_)) hm uS rfl rfl rfl rfl rfl rfl (fun t hT hk => ?_))
    refine ⟨bm _,E.I (k + 1 + 1) h :: .cells b2 0 [.int .i64 0,strV [], .int .i64 0, .slice none 0 0] :: L,ag _ _ _, ?_⟩
    refine bZ 3 rfl rfl uK rfl ?_
    refine cq tab rTree (hs:=[x]) (l:=[n]) ⟨rTree_iff.2 hrx,trivial⟩ rfl rfl rfl rfl rfl (by decide) (fun s mB hleB hs ho hc => ?_)
    replace hm:=bn hm hleB
    replace hE:=hE.mono hleB
    refine ⟨hleB,_,af _, ?_⟩
    refine bV tab uC uK [4] uK rfl ?_
    refine DO.tail ?_
    refine DOt.run 5 rfl rfl uK rfl ?_
    refine bJ tab 0 rfl rfl rfl rfl rfl rfl rfl rfl ?_
    refine DOt.perm (ag _ _ _) ?_
    refine DOt.nil uK ?_
    refine uA ?_
    exact ⟨(⟨48,t,0,s⟩,mB, .mk 48 t 0 [n],k + 1 + 1,N),uH,uH,rfl,rfl,uS,⟨bn hm3 hleB,hk,⟨rfl,rfl,rfl,hs⟩,hT⟩,by simp only;omega⟩
   ·skip
    refine cq tab rTree (hs:=[x]) (l:=[n]) ⟨rTree_iff.2 hrx,trivial⟩ rfl rfl rfl rfl rfl (by decide) (fun s mB hleB hs ho hc => ?_)
    replace hm:=bn hm hleB
    replace hE:=hE.mono hleB
    refine ⟨hleB,_,af _, ?_⟩
    refine bZ 1 rfl rfl uK rfl ?_
    refine ce (ag _ _ _) (OT.nameP (L0:=L) hT hE hk (by repeat (first|exact cz|refine cA ?_|refine cB ?_)) hm uS rfl rfl rfl rfl rfl rfl (fun t hT hk => ?_))
    refine ⟨bm _,E.I (k + 1 + 1) h :: .cells b2 0 [.int .i64 0,strV [], .int .i64 0, .slice none 0 0] :: L,ag _ _ _, ?_⟩
    refine bV tab uC uK [4] uK rfl ?_
    refine DO.tail ?_
    refine DOt.run 5 rfl rfl uK rfl ?_
    refine bJ tab 0 rfl rfl rfl rfl rfl rfl rfl rfl ?_
    refine DOt.perm (ag _ _ _) ?_
    refine DOt.nil uK ?_
    refine uA ?_
    exact ⟨(⟨48,t,0,s⟩,mB, .mk 48 t 0 [n],k + 1 + 1,N),uH,uH,rfl,rfl,uS,⟨bn hm3 hleB,hk,⟨rfl,rfl,rfl,hs⟩,hT⟩,by simp only;omega⟩
  refine uA ?_
  (refine oL tab hA ?_)
  refine uA ?_
  refine qs rfl (cD hT hE hk rfl rfl rfl rfl rfl rfl (fun hT hk => ?_) (fun hT => ?_))
  ·refine uA ?_
   (refine oL tab hA ?_)
   refine uA ?_
   refine qs rfl (OT.parTA (L0:=L) (inside_at (first:=[]) (cap:=[.pointer (some ⟨b1,0,none⟩), .pointer (some ⟨b3,0,none⟩)]) rfl goes207 hE (fun b=>post1_at hY hmm hE hk hA hrx)) hT hn hE (by repeat (first|exact cz|refine cA ?_|refine cB ?_)) hm uS rfl rfl rfl rfl rfl rfl goes206 (fun y mB e k3 hT hm hE hleB hk hry => ?_))
   refine uA ?_
   refine qs rfl (bJ tab 1 rfl rfl rfl rfl rfl rfl rfl rfl ?_)
   refine uA ?_
   exact ⟨(y,mB,e,k3,N),uH,uH,rfl,rfl,uS,⟨bn hm3 hleB,hk,hry,hT⟩,by simp only;omega⟩
  refine uA ?_
  (refine oL tab hA ?_)
  refine uA ?_
  refine qs rfl (cD hT hE hk rfl rfl rfl rfl rfl rfl (fun hT hk => ?_) (fun hT => ?_))
  ·replace hT : T=Ps.bind (Ps.bind (Ps.exprsP E.N [41] Y) fun l=>Ps.ret (.mk 51 [] 0 (n :: l))) (Ps.postP E.N Y N) E.f (k + 1):=by rw [Ps.bind_assoc];exact hT
   refine uA ?_
   (refine oL tab hA ?_)
   refine uA ?_
   refine qs rfl (OT.parTA (L0:=L) (inside_at (first:=[]) (cap:=[.pointer (some ⟨b3,0,none⟩), .pointer (some ⟨b1,0,none⟩)]) rfl goes209 hE (fun b=>post2_at hY hmm hE hk hA hrx)) hT hn hE (by repeat (first|exact cz|refine cA ?_|refine cB ?_)) hm uS rfl rfl rfl rfl rfl rfl goes206 (fun y mB e k3 hT hm hE hleB hk hry => ?_))
   refine uA ?_
   refine qs rfl (bJ tab 1 rfl rfl rfl rfl rfl rfl rfl rfl ?_)
   refine uA ?_
   exact ⟨(y,mB,e,k3,N),uH,uH,rfl,rfl,uS,⟨bn hm3 hleB,hk,hry,hT⟩,by simp only;omega⟩
  ·refine uA ?_
   refine uM ?_
   refine uA ?_
   refine qs rfl (bJ tab 2 rfl rfl rfl rfl rfl rfl rfl rfl ?_)
   refine uA ?_
   refine ci tab 2 rfl rfl rfl rfl (L':=E.I k h :: L) uS ⟨_,k,[],hT,hm,hk,⟨x,rfl,rfl,hrx⟩,rfl⟩
structure GW (mb : Mem) (E : PE) (g : Ps.Gr) : Prop where
 typ : ∀ h,Par Tryz.prog mb E vTree 143 [E.v] h g.typ
 block : ∀ h,Par Tryz.prog mb E vTree 115 [E.v] h g.block
 stmt : Par Tryz.prog mb E vTree 149 [E.v] 0 g.stmt
 branch : Par Tryz.prog mb E vTree 176 [E.v] 0 g.branch
 expr : ∀ b,Par Tryz.prog mb E vTree 191 [E.v] (bif b then 1 else 0) (g.expr b)
 unary : ∀ b,Par Tryz.prog mb E vTree 203 [E.v] (bif b then 1 else 0) (g.unary b)
theorem Par.dry {f : FuncId} {args : List Value} {V : RV Tree} : Par Tryz.prog mb E V f args h Ps.dry:=fun _ _ _ _ _ _ hn=>absurd rfl hn
theorem gw : ∀ n,GW mb E (Ps.gr E.N n)
 | 0=>⟨fun _=>Par.dry,fun _=>Par.dry,Par.dry,Par.dry,fun _=>Par.dry,fun _=>Par.dry⟩
 | n + 1=>by
  have g:=gw n
  refine ⟨fun h=>typ_par (g.typ h),fun h=>block_par g.stmt,stmt_par (g.expr true) (g.block 0) g.branch (simple_par (g.typ 0) (g.expr false)),branch_par (g.expr true) (g.block 0) g.branch,fun b=>expr_par (g.unary b),fun b => ?_⟩
  exact unary_par (g.unary b) (post_par (primary_par b (g.typ _) (g.expr false) (g.block _)) (g.expr false))
end
end Go.Sep


/- PsW15 -/
namespace Go.Sep
open Go.Proofs
attribute [local irreducible] TC TO OT TCallX TCall DO DOt thenQ blockQ retQ At
section
variable {mb : Mem} {E : PE}
theorem program_par {X : Ps.Pp Tree} (hX : Par Tryz.prog mb E vTree 61 [E.v] 0 X) :
  Par Tryz.prog mb E vTree 31 [E.v] 0 (Ps.bind (Ps.progL X E.N) fun l=>Ps.ret (.mk 1 [] 0 l)):=by
 refine cy Tryz.func31 rfl 23 rfl fun m L k T hm0 hE hk hT hn => ?_
 replace hX:=hX.up hm0
 have hm : m ≤ m:=bm _
 have hrows:=hE.rows
 rw [Ps.decls_start] at hT
 refine uA ?_
 refine oA tab (fun b2 => ?_);refine bD (ag _ _ _) ?_
 refine uA ?_
 refine oA tab (fun b3 => ?_);refine bD (ag _ _ _) ?_
 refine uA ?_
 refine uT ?_
 refine TO.grow0 (size:=4) ?_
 refine bD (L':=E.I k 0 :: .cells b3 0 [.int .i64 1,strV [], .int .i64 0, .slice none 0 0] :: tok ⟨none,0,0⟩ 4 :: .cells b2 0 [.int .i64 0,strV [], .int .i64 0, .slice none 0 0] :: L) (ah (ag _ _ _) (ai _ (ag _ _ _))) ?_
 refine uA ?_
 refine br (ι:=Sl × Mem × List Tree × Nat × Nat) [0,2,3] rfl (fun x=>[]) (fun x=>x.2.1) (fun x=>E.I x.2.2.2.1 0 :: .cells b3 0 [.int .i64 1,strV [], .int .i64 0,x.1.v] :: tok x.1 4 :: .cells b2 0 [.int .i64 0,strV [], .int .i64 0, .slice none 0 0] :: L) (fun x=>m ≤ x.2.1∧E.Ok x.2.1∧x.2.2.2.1 ≤ E.toks.length∧SlRep rTree x.2.1 x.1 x.2.2.1∧Own x.1∧x.2.2.1.length + x.2.2.2.2=E.N∧T=Ps.bind (Ps.decls X x.2.2.2.2 x.2.2.1) (fun l=>Ps.ret (.mk 1 [] 0 l)) E.f x.2.2.2.1) (fun x=>x.2.2.2.2) (⟨none,0,0⟩,m,[],k,E.N) uH rfl uS ⟨hm,hE,hk,bN _ _,Own.nil,by simp,hT⟩ ?_
 rintro ⟨s,m1,acc,k,j⟩ ⟨hm,hE,hk,hs,ho,hlen,hT⟩
 simp only at hm hE hk hs ho hlen hT
 show TC _ _ _ _ _ m1 (E.I k 0 :: .cells b3 0 [.int .i64 1,strV [], .int .i64 0,s.v] :: tok s 4 :: .cells b2 0 [.int .i64 0,strV [], .int .i64 0, .slice none 0 0] :: L) _
 have hll:=hE.rep.len
 have hfew:=hE.few
 cases j with
 | zero=>exact absurd hT hn
 | succ j =>
  refine uA ?_
  refine bR [] cr 10 rfl ?_
  refine bV tab uC uK [0,1,2] uK rfl ?_
  (refine bW tab 3 0 uC uK uK rfl rfl rfl rfl rfl rfl rfl rfl ?_)
  refine bV tab uC uK [4,5,6] uK rfl ?_
  (refine bW tab 7 0 uC uK uK rfl rfl rfl rfl rfl rfl rfl rfl ?_)
  refine bV tab uC uK [8,9] uK rfl ?_
  (refine ca uK ?_)
  rotate_left 1
  refine uA ?_
  refine bq rfl (fun hc => ?_) (fun hc => ?_)
  ·have hlt : k < E.toks.length:=by omega
   have hT : T=Ps.bind X (fun a=>Ps.bind (Ps.decls X j (acc++[a])) fun l=>Ps.ret (.mk 1 [] 0 l)) E.f k:=by
    rw [← Ps.bind_assoc,hT]
    show Ps.bind _ _ E.f k=Ps.bind _ _ E.f k
    unfold Ps.bind
    rw [Ps.decls_some (by rw [PE.f_some hlt];exact fun h=>by cases h)]
    rfl
   refine uA ?_
   refine bQ [7] cr 8 rfl [.cells b3 0 [.int .i64 1,strV [], .int .i64 0,s.v]] (E.I k 0 :: tok s 4 :: .cells b2 0 [.int .i64 0,strV [], .int .i64 0, .slice none 0 0] :: L) (ag _ _ _) ?_
   refine bV tab uC uK [0] uK rfl ?_
   (refine bW tab 1 0 uC uK uK rfl rfl rfl rfl rfl rfl rfl rfl ?_)
   refine bV tab uC uK [2] uK rfl ?_
   refine bZ 3 rfl rfl uK rfl ?_
   refine ce (ag _ _ _) (cC (L0:=L) (hX) hm hT hn hE hk (by repeat (first|exact cz|refine cA ?_|refine cB ?_)) hm uS rfl rfl rfl rfl rfl rfl goes61 (fun x mA a k2 hT hm hE hleA hk hr => ?_));refine ⟨hleA,E.I k2 0 :: tok s 4 :: .cells b2 0 [.int .i64 0,strV [], .int .i64 0, .slice none 0 0] :: L,ag _ _ _, ?_⟩
   refine bZ 4 rfl rfl uK rfl ?_
   refine cq tab rTree (hs:=[x]) (l:=[a]) ⟨rTree_iff.2 hr,trivial⟩ rfl rfl rfl rfl rfl (by decide) (fun sB mB hleB hsB hoB hcB => ?_);refine ⟨hleB,_,af _, ?_⟩
   refine bZ 5 rfl rfl uK rfl ?_
   refine bP tab rTree 2 (hs.mono (bn hleA hleB)) ho hsB rfl rfl rfl rfl rfl rfl rfl (by simp only [aa,ab,ae,rTree,mkR];omega) (fun s3 mC hleC hs3 ho3 => ?_);refine ⟨hleC,E.I k2 0 :: tok s3 4 :: .cells b2 0 [.int .i64 0,strV [], .int .i64 0, .slice none 0 0] :: L,af _, ?_⟩
   refine bV tab uC uK [6] uK rfl ?_
   refine DO.tail ?_
   refine DOt.run 7 rfl rfl uK rfl ?_
   refine bI (k:=3) tab 0 rfl rfl rfl rfl rfl rfl rfl rfl ?_;refine DOt.perm (ag _ _ _) ?_
   refine DOt.nil uK ?_
   rotate_left 1
   replace hm:=bn hm (bn hleB hleC)
   replace hE:=hE.mono (bn hleB hleC)
   refine uA ?_
   exact ⟨(s3,mC,acc++[a],k2,j),uH,uH,rfl,rfl,uS,⟨hm,hE,hk,hs3,ho3,by simp only [aa,ab,ae];omega,hT⟩,by simp only;omega⟩
  ·have hT : T = .ok (.mk 1 [] 0 acc) k:=by
    rw [hT]
    unfold Ps.bind
    rw [Ps.decls_none (PE.f_none (by omega))]
    rfl
   refine uA ?_
   refine uM ?_
   refine uA ?_
   refine qs rfl (bJ tab 3 rfl rfl rfl rfl rfl rfl rfl rfl ?_)
   refine uA ?_
   refine ci tab 3 rfl rfl rfl rfl (L':=E.I k 0 :: L) uS ⟨_,k,[],hT,hm,hk,⟨⟨1,[],0,s⟩,rfl,rfl,⟨rfl,rfl,rfl,hs⟩⟩,rfl⟩
end
def FitR (bl : Nat) (L : List Item) (m : Mem) (a : Tree) (d left : Int) : Value→Mem→List Item→Prop :=
 fun r m' L'=>m' = m∧((r = .bool true∧(a.size : Int) ≤ left∧d + (a.deep : Int) ≤ 101∧L' = .cells bl 0 [.int .i64 (left - a.size)] :: L) ∨ (r = .bool false ∧ ¬ ((a.size : Int) ≤ left∧d + (a.deep : Int) ≤ 101) ∧ ∃ n,L' = .cells bl 0 [.int .i64 n] :: L))
theorem fits_law (a : Tree) : ∀ (m : Mem) (L : List Item) (h : HTree) (bl : Nat) (d left : Int),TreeRep m h a→0 ≤ left→left ≤ 20000→0 ≤ d→d ≤ 101 →
  TCall Tryz.prog 32 ⟨[treeV h, .int .i64 d, .pointer (some ⟨bl,0,none⟩)]⟩ m (.cells bl 0 [.int .i64 left] :: L) (FitR bl L m a d left):=by
 induction a using Tree.ind with
 | h a ih =>
 intro m L h bl d left hr hl0 hl1 hd0 hd1
 have hr':=hr
 obtain ⟨h1,h2,h3,h4⟩:=hr
 have hlen:=h4.len
 have hsm:=h4.small rfl
 have hsz:=size_kids a
 have hdp:=deep_kids a
 unfold TCall
 refine bw Tryz.func32 rfl 36 rfl ?_
 refine uA ?_
 refine oB (fun b3 => ?_)
 refine uA ?_
 refine uM ?_
 refine qs rfl (bK (r':=left - 1) rfl rfl rfl rfl rfl rfl rfl (by omega) ?_)
 refine uA ?_
 refine qs rfl (bJ tab 1 rfl rfl rfl rfl rfl rfl rfl rfl ?_)
 refine uA ?_
 refine uM ?_
 refine uA ?_
 (refine bB rfl rfl (fun hneg => ?_) (fun hneg => ?_))
 ·refine uA ?_
  refine bu rfl (L' := .cells bl 0 [.int .i64 (left - 1)] :: L) uS ⟨rfl, .inr ⟨rfl,by omega,_,rfl⟩⟩
 refine uA ?_
 refine bq rfl (fun hdd => ?_) (fun hdd => ?_)
 ·refine uA ?_
  refine bu rfl (L' := .cells bl 0 [.int .i64 (left - 1)] :: L) uS ⟨rfl, .inr ⟨rfl,by omega,_,rfl⟩⟩
 refine uA ?_
 refine uM ?_
 refine uA ?_
 refine br (ι:=Nat) [0,1,2,23,24] rfl (fun i=>[(25, .int .i64 (i : Int))]) (fun _=>m) (fun i => .cells bl 0 [.int .i64 (left - 1 - (sizeL (a.kids.take i) : Int))] :: L) (fun i=>i ≤ a.kids.length∧(sizeL (a.kids.take i) : Int) ≤ left - 1∧d + (deepL (a.kids.take i) : Int) ≤ 100) (fun i=>a.kids.length - i) 0 uH rfl (by rw [show left - 1 - (sizeL (a.kids.take 0) : Int)=left - 1 by simp [sizeL]];exact aO _ (aP _)) ⟨aU _,by simp [sizeL];omega,by simp [deepL];omega⟩ ?_
 rintro i ⟨hi,hI1,hI2⟩
 refine uA ?_
 refine bq rfl (fun hc => ?_) (fun hc => ?_)
 ·have hlt : i < a.kids.length:=by omega
  have hx : a.kids[i]? = some a.kids[i]:=ak hlt
  have e1:=sizeL_next a.kids i hlt
  have e2:=deepL_next a.kids i hlt
  have e3:=sizeL_take a.kids (i + 1)
  have e4:=deepL_take a.kids (i + 1)
  refine uA ?_
  refine qs rfl (bO tab rTree i h4 rfl rfl rfl rfl rfl (by first | rfl | omega | (simp only;omega)) rfl hx ?_)
  rintro bx ix hx' hrx hAx
  refine uA ?_
  (refine oL tab hAx ?_)
  refine uA ?_
  refine oA tab (fun b8 => ?_)
  refine uA ?_
  refine uT ?_
  refine uA ?_
  refine uM ?_
  refine uA ?_
  refine qs rfl (bK (r':=d + 1) rfl rfl rfl rfl rfl rfl rfl (by omega) ?_)
  refine uA ?_
  refine bD (ag _ _ _) ?_
  refine oC goes32 ((ih a.kids[i] (aB hlt) _ _ hx' bl (d + 1) (left - 1 - (sizeL (a.kids.take i) : Int)) (rTree_iff.1 hrx) (by omega) (by omega) (by omega) (by omega)).x ?_);
  rintro _ _ _ ⟨rfl,⟨rfl,k1,k2,rfl⟩ | ⟨rfl,k1,n,rfl⟩⟩
  ·refine uA ?_
   refine qs rfl (bK (r':=((i + 1 : Nat) : Int)) rfl rfl rfl rfl rfl rfl rfl (by omega) ?_)
   refine uA ?_
   refine ⟨i + 1,uH,uH,rfl,rfl, ?_,⟨hlt,by omega,by omega⟩,by omega⟩
   rw [show left - 1 - (sizeL (a.kids.take (i + 1)) : Int)=left - 1 - (sizeL (a.kids.take i) : Int) - (a.kids[i].size : Int) by omega]
   exact uS
  ·refine uA ?_
   refine bu rfl (L' := .cells bl 0 [.int .i64 n] :: L) uS ⟨rfl, .inr ⟨rfl,by omega,_,rfl⟩⟩
 ·rw [aT (by omega)] at hI1 hI2
  rw [aT (show a.kids.length ≤ i by omega)]
  refine uA ?_
  refine bu rfl (L' := .cells bl 0 [.int .i64 (left - a.size)] :: L) ?_ ⟨rfl, .inl ⟨rfl,by omega,by omega,rfl⟩⟩
  rw [show left - (a.size : Int)=left - 1 - (sizeL a.kids : Int) by omega]
  exact uS
end Go.Sep


/- PsSnd4 -/
namespace Go.Sep
open Go.Proofs
attribute [local irreducible] TC TO OT TCallX TCall DO DOt thenQ blockQ retQ At
theorem deepL_mem : ∀ {l : List Tree} {t : Tree},t ∈ l→t.deep ≤ deepL l
 | x :: xs,t,h=>by
  rcases List.mem_cons.1 h with rfl | h
  ·simp only [deepL];omega
  ·have:=deepL_mem h;simp only [deepL];omega
theorem deep_kid {a t : Tree} (h : t ∈ a.kids) : t.deep < a.deep:=by
 obtain ⟨k,n,u,ks⟩:=a
 have:=deepL_mem h
 simp only [Tree.kids,Tree.deep] at *
 omega
structure SgT (n : Nat) (a : Tree) (m : Mem) (L : List Item) (h : HTree) : Prop where
 expr : TCall Tryz.prog 152 ⟨[treeV h]⟩ m L (Ret (.bool ((sg n).expr a)) m L)
 stmt : TCall Tryz.prog 123 ⟨[treeV h]⟩ m L (Ret (.bool ((sg n).stmt a)) m L)
 block : TCall Tryz.prog 75 ⟨[treeV h]⟩ m L (Ret (.bool ((sg n).block a)) m L)
theorem sg_tellers : ∀ (n : Nat) (a : Tree),a.deep ≤ n→a.wide ≤ 140737488355328 → ∀ (m : Mem) (L : List Item) (h : HTree),TreeRep m h a→SgT n a m L h
 | 0,a,hd,hB,m,L,h,hr=>by
  obtain ⟨k,nm,u,ks⟩:=a
  simp only [Tree.deep] at hd
  omega
 | n + 1,a,hd,hB,m,L,h,hr=>by
  have ih : ∀ b ∈ a.kids, ∀ (m : Mem) (L : List Item) (h : HTree),TreeRep m h b→SgT n b m L h:=fun b hb m L h hr =>
   sg_tellers n b (by have:=deep_kid hb;omega) (aw ((wide_kid hb)) hB) m L h hr
  have hE : IsPred 152 (sg n).expr a.kids:=⟨goes152,fun m L h b hb hr=>(ih b hb m L h hr).expr⟩
  have hS : IsPred 123 (sg n).stmt a.kids:=⟨goes123,fun m L h b hb hr=>(ih b hb m L h hr).stmt⟩
  have hK : IsPred 75 (sg n).block a.kids:=⟨goes75,fun m L h b hb hr=>(ih b hb m L h hr).block⟩
  exact ⟨expr_teller _ a m L h hr hB hE hK,stmt_teller _ a m L h hr hB hE hK hS,block_teller _ a m L h hr hS⟩
theorem fieldT_teller (a : Tree) (m : Mem) (L : List Item) (h : HTree) (hr : TreeRep m h a) (hB : a.wide ≤ 140737488355328) :
  TCall Tryz.prog 73 ⟨[treeV h]⟩ m L (Ret (.bool (fieldS Tree.isType a)) m L):=by
 have hT : IsPred 34 Tree.isType a.kids:=kidPred goes34 hB fun b m L h hr hB=>type_law b m L h hr hB
 refine cg ?_
 unfold TCall fieldS
 refine bw Tryz.func73 rfl 10 rfl ?_
 refine uA ?_
 refine oB (fun b => ?_)
 refine uL ?_
 refine oC goes62 ((of_law _ _ h a hr hB 6).x ?_);
 rintro _ _ _ ⟨rfl,rfl,rfl⟩
 refine uA ?_
 refine bA rfl rfl (fun h7 => ?_) (fun h7 => ?_)
 ·refine uL ?_
  refine qs rfl (cq tab rFn (hs:=[34]) (l:=[34]) ⟨rfl,trivial⟩ rfl rfl rfl rfl rfl (by decide) (fun s1 m1 hm1 hs1 _ _ => ?_))
  refine uA ?_
  refine oC goes63 ((cx m1 _ h a (hr.mono hm1) s1 [(34,Tree.isType)] none hs1 (pr1 hT) po0).x ?_);
  rintro _ _ _ ⟨rfl,rfl,rfl⟩
  refine uA ?_
  refine bu rfl uS ⟨hm1,rfl, ?_⟩
  rw [h7];rfl
 ·refine uA ?_
  refine bu rfl uS ⟨bm _,rfl, ?_⟩
  rw [h7];rfl
theorem fieldG_teller (a : Tree) (m : Mem) (L : List Item) (h : HTree) (hr : TreeRep m h a) (hB : a.wide ≤ 140737488355328) :
  TCall Tryz.prog 74 ⟨[treeV h]⟩ m L (Ret (.bool (fieldS Tree.isSig a)) m L):=by
 have hT : IsPred 35 Tree.isSig a.kids:=kidPred goes35 hB fun b m L h hr hB=>sig_law b m L h hr hB
 refine cg ?_
 unfold TCall fieldS
 refine bw Tryz.func74 rfl 10 rfl ?_
 refine uA ?_
 refine oB (fun b => ?_)
 refine uL ?_
 refine oC goes62 ((of_law _ _ h a hr hB 6).x ?_);
 rintro _ _ _ ⟨rfl,rfl,rfl⟩
 refine uA ?_
 refine bA rfl rfl (fun h7 => ?_) (fun h7 => ?_)
 ·refine uL ?_
  refine qs rfl (cq tab rFn (hs:=[35]) (l:=[35]) ⟨rfl,trivial⟩ rfl rfl rfl rfl rfl (by decide) (fun s1 m1 hm1 hs1 _ _ => ?_))
  refine uA ?_
  refine oC goes63 ((cx m1 _ h a (hr.mono hm1) s1 [(35,Tree.isSig)] none hs1 (pr1 hT) po0).x ?_);
  rintro _ _ _ ⟨rfl,rfl,rfl⟩
  refine uA ?_
  refine bu rfl uS ⟨hm1,rfl, ?_⟩
  rw [h7];rfl
 ·refine uA ?_
  refine bu rfl uS ⟨bm _,rfl, ?_⟩
  rw [h7];rfl
theorem isParam_kid {a : Tree} (h : a.isParam=true) : ∃ k,a.kids=[k]∧k.isType=true:=by
 unfold Tree.isParam at h
 simp only [aj,ao,List.all_eq_true] at h
 obtain ⟨h1,_,_,h2,h3⟩:=h
 match hk : a.kids with
 | []=>rw [hk] at h2;cases h2
 | [k]=>exact ⟨k,rfl,h3 k (by rw [hk];simp)⟩
 | _ :: _ :: _=>rw [hk] at h2;simp at h2
theorem isType_kid {a : Tree} (h : a.isType=true) (h11 : a.kind=11) : ∃ k,a.kids=[k]:=by
 rw [isType_eq,if_neg (by omega),if_pos (.inl h11)] at h
 simp only [aj,ao] at h
 match hk : a.kids with
 | []=>rw [hk] at h;simp at h
 | [k]=>exact ⟨k,rfl⟩
 | _ :: _ :: _=>rw [hk] at h;simp at h
theorem recv_teller (a : Tree) (m : Mem) (L : List Item) (h : HTree) (hr : TreeRep m h a) (hB : a.wide ≤ 140737488355328) :
  TCall Tryz.prog 76 ⟨[treeV h]⟩ m L (Ret (.bool (recvS a)) m L):=by
 have hr':=hr
 obtain ⟨h1,h2,h3,h4⟩:=hr
 have hl:=h4.len
 unfold TCall recvS
 refine bw Tryz.func76 rfl 24 rfl ?_
 refine uA ?_
 refine oB (fun b => ?_)
 refine uL ?_
 refine oC goes64 ((param_law a _ _ h hr' hB).x ?_);
 rintro _ _ _ ⟨rfl,rfl,rfl⟩
 refine uA ?_
 refine bA rfl rfl (fun h7 => ?_) (fun h7 => ?_)
 ·obtain ⟨k0,hk0,ht0⟩:=isParam_kid h7
  have e0 : kid0 a=k0:=by unfold kid0;rw [hk0];rfl
  have hx : a.kids[0]? = some k0:=by rw [hk0];rfl
  rw [h7,e0]
  refine uL ?_
  refine qs rfl (bO tab rTree 0 h4 rfl rfl rfl rfl rfl (by first | rfl | omega | (simp only;omega)) rfl hx ?_)
  rintro b' i hd hrd hA
  obtain ⟨g1,g2,g3,g4⟩:=rTree_iff.1 hrd
  refine uL ?_
  (refine qs rfl (OT.loadA tab hA rfl rfl rfl rfl rfl ?_))
  refine uA ?_
  (refine bB rfl rfl (fun e1 => ?_) (fun e1 => ?_))
  ·obtain ⟨k1,hk1⟩:=isType_kid ht0 (g1.symm.trans e1)
   have e2 : kid0 k0=k1:=by unfold kid0;rw [hk1];rfl
   have hx1 : k0.kids[0]? = some k1:=by rw [hk1];rfl
   rw [e2,aH (g1.symm.trans e1)]
   refine uL ?_
   refine qs rfl (bO tab rTree 0 h4 rfl rfl rfl rfl rfl (by first | rfl | omega | (simp only;omega)) rfl hx ?_)
   rintro b2 i2 hd2 hrd2 hA2
   obtain ⟨f1,f2,f3,f4⟩:=rTree_iff.1 hrd2
   refine uL ?_
   (refine qs rfl (OT.loadA tab hA2 rfl rfl rfl rfl rfl ?_))
   refine uL ?_
   refine qs rfl (bO tab rTree 0 f4 rfl rfl rfl rfl rfl (by first | rfl | omega | (simp only;omega)) rfl hx1 ?_)
   rintro b3 i3 hd3 hrd3 hA3
   obtain ⟨d1,d2,d3,d4⟩:=rTree_iff.1 hrd3
   refine uL ?_
   (refine qs rfl (OT.loadA tab hA3 rfl rfl rfl rfl rfl ?_))
   refine uA ?_
   refine bu rfl uS ⟨rfl,rfl, ?_⟩
   rw [d1];rfl
  ·refine uA ?_
   refine bu rfl uS ⟨rfl,rfl, ?_⟩
   rw [aI (fun e=>e1 (g1.trans e))];rfl
 ·refine uA ?_
  refine bu rfl uS ⟨rfl,rfl, ?_⟩
  rw [h7];rfl
theorem decl_teller (g : Sg) (a : Tree) (m : Mem) (L : List Item) (h : HTree) (hr : TreeRep m h a) (hB : a.wide ≤ 140737488355328) (hK : IsPred 75 g.block a.kids) :
  TCall Tryz.prog 41 ⟨[treeV h]⟩ m L (Ret (.bool (declS g a)) m L):=by
 have hSg : IsPred 35 Tree.isSig a.kids:=kidPred goes35 hB fun b m L h hr hB=>sig_law b m L h hr hB
 have hF1 : IsPred 73 (fieldS Tree.isType) a.kids:=kidPred goes73 hB fun b m L h hr hB=>fieldT_teller b m L h hr hB
 have hF2 : IsPred 74 (fieldS Tree.isSig) a.kids:=kidPred goes74 hB fun b m L h hr hB=>fieldG_teller b m L h hr hB
 have hR : IsPred 76 recvS a.kids:=kidPred goes76 hB fun b m L h hr hB=>recv_teller b m L h hr hB
 have hr':=hr
 obtain ⟨h1,h2,h3,h4⟩:=hr
 have hl:=h4.len
 refine cg ?_
 unfold declS TCall
 refine bw Tryz.func41 rfl 49 rfl ?_
 by_cases hk : a.kind=2
 ·skip
  rw [if_pos hk]
  obtain ⟨k,n,u,s⟩:=h
  obtain rfl : k=2:=h1.trans hk
  simp only at h2 h3 h4 hl
  subst h2
  subst h3
  refine uA ?_
  refine oB (fun b => ?_)
  refine uL ?_
  refine oC goes62 ((of_law _ _ ⟨2,a.name,a.num,s⟩ a hr' hB 2).x ?_);
  rintro _ _ _ ⟨rfl,rfl,rfl⟩
  refine uA ?_
  refine bA rfl rfl (fun h7 => ?_) (fun h7 => ?_)
  ·refine uL ?_
   refine oC goes40 ((pall_law _ _ s a.kids h4 73 (fieldS Tree.isType) hF1).x ?_);
   rintro _ _ _ ⟨rfl,rfl,rfl⟩
   refine uA ?_
   refine bu rfl uS ⟨bm _,rfl, ?_⟩
   rw [h7];rfl
  ·skip
   refine uA ?_
   refine bu rfl uS ⟨bm _,rfl, ?_⟩
   rw [h7];rfl
 rw [if_neg hk]
 have hk2:=hk
 clear hk
 by_cases hk : a.kind=3
 ·skip
  rw [if_pos hk]
  obtain ⟨k,n,u,s⟩:=h
  obtain rfl : k=3:=h1.trans hk
  simp only at h2 h3 h4 hl
  subst h2
  subst h3
  refine uA ?_
  refine oB (fun b => ?_)
  refine uL ?_
  refine oC goes62 ((of_law _ _ ⟨3,a.name,a.num,s⟩ a hr' hB 3).x ?_);
  rintro _ _ _ ⟨rfl,rfl,rfl⟩
  refine uA ?_
  refine bA rfl rfl (fun h7 => ?_) (fun h7 => ?_)
  ·refine uL ?_
   refine oC goes40 ((pall_law _ _ s a.kids h4 74 (fieldS Tree.isSig) hF2).x ?_);
   rintro _ _ _ ⟨rfl,rfl,rfl⟩
   refine uA ?_
   refine bu rfl uS ⟨bm _,rfl, ?_⟩
   rw [h7];rfl
  ·skip
   refine uA ?_
   refine bu rfl uS ⟨bm _,rfl, ?_⟩
   rw [h7];rfl
 rw [if_neg hk]
 have hk3:=hk
 clear hk
 by_cases hk : a.kind=4
 ·skip
  rw [if_pos hk]
  obtain ⟨k,n,u,s⟩:=h
  obtain rfl : k=4:=h1.trans hk
  simp only at h2 h3 h4 hl
  subst h2
  subst h3
  refine uA ?_
  refine oB (fun b => ?_)
  refine uL ?_
  refine oC goes62 ((of_law _ _ ⟨4,a.name,a.num,s⟩ a hr' hB 4).x ?_);
  rintro _ _ _ ⟨rfl,rfl,rfl⟩
  refine uA ?_
  refine bA rfl rfl (fun h7 => ?_) (fun h7 => ?_)
  ·refine uL ?_
   refine qs rfl (cq tab rFn (hs:=[35,75]) (l:=[35,75]) ⟨rfl,rfl,trivial⟩ rfl rfl rfl rfl rfl (by decide) (fun s1 m1 hm1 hs1 _ _ => ?_))
   refine uA ?_
   refine oC goes63 ((cx m1 _ ⟨4,a.name,a.num,s⟩ a (hr'.mono hm1) s1 [(35,Tree.isSig),(75,g.block)] none hs1 (pr2 hSg hK) po0).x ?_);
   rintro _ _ _ ⟨rfl,rfl,rfl⟩
   refine uA ?_
   refine bu rfl uS ⟨hm1,rfl, ?_⟩
   rw [h7];rfl
  ·skip
   refine uA ?_
   refine bu rfl uS ⟨bm _,rfl, ?_⟩
   rw [h7];rfl
 rw [if_neg hk]
 have hk4:=hk
 clear hk
 by_cases hk : a.kind=5
 ·skip
  rw [if_pos hk]
  obtain ⟨k,n,u,s⟩:=h
  obtain rfl : k=5:=h1.trans hk
  simp only at h2 h3 h4 hl
  subst h2
  subst h3
  refine uA ?_
  refine oB (fun b => ?_)
  refine uL ?_
  refine oC goes62 ((of_law _ _ ⟨5,a.name,a.num,s⟩ a hr' hB 5).x ?_);
  rintro _ _ _ ⟨rfl,rfl,rfl⟩
  refine uA ?_
  refine bA rfl rfl (fun h7 => ?_) (fun h7 => ?_)
  ·refine uL ?_
   refine qs rfl (cq tab rFn (hs:=[76,35,75]) (l:=[76,35,75]) ⟨rfl,rfl,rfl,trivial⟩ rfl rfl rfl rfl rfl (by decide) (fun s1 m1 hm1 hs1 _ _ => ?_))
   refine uA ?_
   refine oC goes63 ((cx m1 _ ⟨5,a.name,a.num,s⟩ a (hr'.mono hm1) s1 [(76,recvS),(35,Tree.isSig),(75,g.block)] none hs1 (pr3 hR hSg hK) po0).x ?_);
   rintro _ _ _ ⟨rfl,rfl,rfl⟩
   refine uA ?_
   refine bu rfl uS ⟨hm1,rfl, ?_⟩
   rw [h7];rfl
  ·skip
   refine uA ?_
   refine bu rfl uS ⟨bm _,rfl, ?_⟩
   rw [h7];rfl
 rw [if_neg hk]
 refine uA ?_
 refine oB (fun b => ?_)
 refine uL ?_
 refine bq rfl (fun h5 => ?_) (fun h5 => ?_)
 ·omega
 refine uA ?_
 refine bq rfl (fun h5 => ?_) (fun h5 => ?_)
 ·omega
 refine uA ?_
 refine bq rfl (fun h5 => ?_) (fun h5 => ?_)
 ·omega
 refine uA ?_
 refine bq rfl (fun h5 => ?_) (fun h5 => ?_)
 ·omega
 refine uA ?_
 exact bu rfl uS ⟨bm _,rfl,rfl⟩
theorem sound_law (a : Tree) (m : Mem) (L : List Item) (h : HTree) (hr : TreeRep m h a) (hB : a.wide ≤ 140737488355328) :
  TCall Tryz.prog 18 ⟨[treeV h]⟩ m L (Ret (.bool (soundB a)) m L):=by
 have hr':=hr
 obtain ⟨h1,h2,h3,h4⟩:=hr
 unfold TCall
 refine bw Tryz.func18 rfl 18 rfl ?_
 refine uA ?_
 refine oB (fun b => ?_)
 refine uA ?_
 refine oA tab (fun b3 => ?_)
 refine uA ?_
 refine uT ?_
 refine uA ?_
 refine qs rfl (OT.loadL0 tab 1 rfl rfl rfl rfl rfl rfl ?_)
 refine uA ?_
 refine oC goes32 ((fits_law a m _ h b3 1 20000 hr' (by decide) (by decide) (by decide) (by decide)).x ?_);
 rintro _ _ _ ⟨rfl,⟨rfl,k1,k2,rfl⟩ | ⟨rfl,k1,n,rfl⟩⟩
 ·have e1 : (decide (a.size ≤ 20000) && decide (a.deep ≤ 100))=true:=by rw [aH (by omega),aH (by omega)];rfl
  unfold soundB
  rw [e1,aF,← h1]
  have hD : IsPred 41 (declS (sg 100)) a.kids:=by
   refine ⟨goes41,fun m L x c hc hrc => ?_⟩
   have hBc:=aw ((wide_kid hc)) hB
   refine decl_teller _ c m L x hrc hBc ⟨goes75,fun m L y d hd hrd => ?_⟩
   exact (sg_tellers 100 d (by have:=deep_kid hc;have:=deep_kid hd;omega) (aw ((wide_kid hd)) hBc) m L y hrd).block
  refine uA ?_
  refine qs rfl (OT.loadL0 tab 1 rfl rfl rfl rfl rfl rfl ?_)
  refine uL ?_
  refine oC goes39 ((bare_law _ _ h a hr' (decide (h.kind=1)) false false).x ?_);
  rintro _ _ _ ⟨rfl,rfl,rfl⟩
  refine uA ?_
  refine bA rfl rfl (fun h7 => ?_) (fun h7 => ?_)
  ·refine uL ?_
   refine oC goes40 ((pall_law _ _ h.kids a.kids h4 41 (declS (sg 100)) hD).x ?_);
   rintro _ _ _ ⟨rfl,rfl,rfl⟩
   refine uA ?_
   refine bu rfl uS ⟨rfl,rfl, ?_⟩
   rw [h7];rfl
  ·refine uA ?_
   refine bu rfl uS ⟨rfl,rfl, ?_⟩
   rw [h7];rfl
 ·have e1 : (decide (a.size ≤ 20000) && decide (a.deep ≤ 100))=false:=by
   rw [← Bool.decide_and,aI (fun hh=>k1 ⟨by omega,by omega⟩)]
  unfold soundB
  rw [e1]
  refine uA ?_
  refine bu rfl uS ⟨rfl,rfl, ?_⟩
  rfl
end Go.Sep


/- PtDeW -/
namespace Go.Sep
open Go.Proofs
attribute [local irreducible] TC TO OT TCallX TCall DO DOt thenQ blockQ retQ At
theorem semis_cut (ks : List Tree) (i : Nat) (h : i < ks.length) : Pt.semis (ks.map Pt.toks)=Pt.semis ((ks.take i).map Pt.toks)++(Pt.toks ks[i]++([Pt.mk [59]]++Pt.semis ((ks.drop (i + 1)).map Pt.toks))):=by
 have e : ks=ks.take i++(ks[i] :: ks.drop (i + 1)):=by rw [← aJ h,aV]
 conv=>lhs;rw [e]
 unfold Pt.semis
 rw [aZ,aZ,List.flatten_append,ax,ax,List.flatten_cons,am]
theorem semis_next (ks : List Tree) (i : Nat) (h : i < ks.length) : Pt.semis ((ks.take (i + 1)).map Pt.toks)=Pt.semis ((ks.take i).map Pt.toks)++(Pt.toks ks[i]++[Pt.mk [59]]):=by
 unfold Pt.semis
 rw [aX h,aZ,aZ,List.flatten_append];simp
section
variable {Tb : Mem→Prop}
theorem decl_w (hTb : TbOk Tb) (hI : ∀ (m : Mem) (L : List Item) (n : Int),Tb m→0 ≤ n→n < 9223372036854775808→TCall Tryz.prog 86 ⟨[.int .i64 n]⟩ m L (Made m L fun r _=>r=strV (Pt.digN n.toNat))) (a : Tree) (hnum : Pt.numB2 a=true) (hd0 : declS lim a=true) : Pw Tb 37 a:=by
 have ih : ∀ k ∈ a.kids,PT Tb k:=fun k _=>pt_all hTb hI k
 intro m L bd q s x0 h hT0 hB hr hl
 obtain ⟨h1,h2,h3,h4⟩:=hr
 have hlen:=h4.len
 have hsm:=h4.small rfl
 have hm:=bm m
 have hT : TbM Tb m:=⟨fun h=>hTb.mono hT0 h⟩
 obtain ⟨k,n0,u0,ks⟩:=a
 obtain ⟨hk,hn,hu,hks⟩:=h
 simp only [Tree.kind,Tree.name,Tree.num,Tree.kids] at h1 h2 h3 h4 hlen hsm ih
 subst h1 h2 h3
 by_cases e : hk=2
 ·subst e
  have hf : (ofB (.mk 2 hn hu ks) 2 && ks.all (fieldS Tree.isType))=true:=hd0
  rw [aj] at hf
  have et : Pt.toks (.mk 2 hn hu ks)=[Pt.wd [116,121,112,101],Pt.nm hn,Pt.wd [115,116,114,117,99,116],Pt.mk [123]]++(Pt.semis (ks.map Pt.toks)++[Pt.mk [125]]):=by rw [Pt.toks_eq];rfl
  rw [et] at hl
  try simp only [cv,aa] at hl
  unfold TCall
  refine bw Tryz.func37 rfl 104 rfl ?_
  refine uA ?_
  refine oB (fun b => ?_)
  refine bD pq3 ?_
  refine uL ?_
  refine qs rfl (cq tab rStr (hs:=[[116,121,112,101],hn,[115,116,114,117,99,116],[123]]) (l:=[[116,121,112,101],hn,[115,116,114,117,99,116],[123]]) ⟨rfl,rfl,rfl,rfl,trivial⟩ rfl rfl rfl rfl rfl (by decide) (fun sl ma hma hsl _ _ => ?_))
  replace hm:=bn hm hma
  replace hB:=hB.mono hma
  refine uA ?_
  refine oC ct ((cw _ _ bd q s _ hB sl [Pt.wd [116,121,112,101],Pt.nm hn,Pt.wd [115,116,114,117,99,116],Pt.mk [123]] hsl (by first | omega | (simp only [aa];omega))).x ?_);
  rintro _ m1 _ ⟨hm1,s,q,rfl,hB⟩
  replace hm:=bn hm hm1
  clear hm1 hma hsl
  refine uL ?_
  refine br (ι:=PS) [0,3,5,61,62] rfl (fun g=>[(63, .int .i64 (g.i : Int))]) (fun g=>g.m) (fun g=>bdL bd g.q g.s (.cells b 0 (treeC ⟨2,hn,hu,hks⟩) :: L)) (fun g=>m ≤ g.m∧g.i ≤ ks.length∧BOk g.m bd g.q g.s (x0++putT [Pt.wd [116,121,112,101],Pt.nm hn,Pt.wd [115,116,114,117,99,116],Pt.mk [123]]++putT (Pt.semis ((ks.take g.i).map Pt.toks)))) (fun g=>ks.length - g.i) ⟨m1,q,s,0⟩ uH rfl uS ⟨hm,aU _,hB.cast (by simp [Pt.semis,putT_nil])⟩ ?_
  rintro ⟨m1,q,s,i⟩ ⟨hm,hi,hB⟩
  simp only at hm hi hB
  refine uA ?_
  refine bq rfl (fun h1 => ?_) (fun h1 => ?_)
  ·simp only at h1
   have hlt : i < ks.length:=by omega
   have hxi : ks[i]? = some ks[i]:=ak hlt
   have hc:=congrArg (fun l=>(putT l).length) (semis_cut ks i hlt)
   obtain ⟨fs,ft,hfe,hft⟩:=Pt.field_f (List.all_eq_true.1 hf.2 ks[i] (aB hlt))
   have hnx:=semis_next ks i hlt
   generalize ks[i]=fld at *
   subst hfe
   have etf : Pt.toks (.mk 6 fs 0 [ft])=[Pt.nm fs]++Pt.toks ft:=by rw [Pt.toks_eq];rfl
   rw [etf] at hc hnx
   simp only [cv,aa] at hc
   have px:=typ_w hTb ft hft
   have h4c:=h4.mono hm
   refine uA ?_
   refine qs rfl (bO tab rTree i h4c rfl rfl rfl rfl rfl (by first | rfl | omega | (simp only;omega)) rfl hxi ?_)
   rintro b8 i8 h8 hr8 hA8
   (refine oL tab hA8 ?_)
   refine oA tab (fun b5 => ?_)
   refine uA ?_
   refine uT ?_
   refine bD pq3 ?_
   obtain ⟨e1,e2,e3,e4⟩:=rTree_iff.1 hr8
   have e2' : h8.name=fs:=e2
   have e4' : SlRep rTree m1 h8.kids [ft]:=e4
   have hfi : [ft][0]? = some ft:=rfl
   refine uL ?_
   rw [e2']
   refine qs rfl (cq tab rStr (hs:=[fs]) (l:=[fs]) ⟨rfl,trivial⟩ rfl rfl rfl rfl rfl (by decide) (fun sl ma hma hsl _ _ => ?_))
   replace hm:=bn hm hma
   replace hB:=hB.mono hma
   replace e4':=e4'.mono hma
   refine uA ?_
   refine oC ct ((cw _ _ bd q s _ hB sl [Pt.nm fs] hsl (by first | omega | (simp only [aa];omega))).x ?_);
   rintro _ m1 _ ⟨hm1,s,q,rfl,hB⟩
   replace hm:=bn hm hm1
   replace e4':=e4'.mono hm1
   clear hm1 hma hsl
   refine uL ?_
   refine qs rfl (bO tab rTree 0 e4' rfl rfl rfl rfl rfl (by first | rfl | omega | (simp only;omega)) rfl hfi ?_)
   rintro b7 i7 h7 hr7 hA7
   (refine oL tab hA7 ?_)
   refine uA ?_
   refine oC goes65 ((px _ _ bd q s _ h7 (hT.mono hm) hB (rTree_iff.1 hr7) (by first | omega | (simp only [aa];omega))).x ?_);
   rintro _ m1 _ ⟨hm1,s,q,rfl,hB⟩
   replace hm:=bn hm hm1
   refine uA ?_
   refine qs rfl (cq tab rStr (hs:=[[59]]) (l:=[[59]]) ⟨rfl,trivial⟩ rfl rfl rfl rfl rfl (by decide) (fun sl ma hma hsl _ _ => ?_))
   replace hm:=bn hm hma
   replace hB:=hB.mono hma
   refine uA ?_
   refine oC ct ((cw _ _ bd q s _ hB sl [Pt.mk [59]] hsl (by first | omega | (simp only [aa];omega))).x ?_);
   rintro _ m1 _ ⟨hm1,s,q,rfl,hB⟩
   replace hm:=bn hm hm1
   clear hm1 hma hsl
   refine uA ?_
   refine qs rfl (bK (r':=((i + 1 : Nat) : Int)) rfl rfl rfl rfl rfl rfl rfl (by omega) ?_)
   refine uA ?_
   refine ⟨⟨m1,q,s,i + 1⟩,uH,uH,rfl,rfl,uS,⟨hm,by simp only;omega,hB.cast ?_⟩,by simp only;omega⟩
   rw [hnx];simp only [cv,am]
  ·simp only at h1
   rw [aT (by omega)] at hB
   refine uA ?_
   refine qs rfl (cq tab rStr (hs:=[[125]]) (l:=[[125]]) ⟨rfl,trivial⟩ rfl rfl rfl rfl rfl (by decide) (fun sl ma hma hsl _ _ => ?_))
   replace hm:=bn hm hma
   replace hB:=hB.mono hma
   refine uA ?_
   refine oC ct ((cw _ _ bd q s _ hB sl [Pt.mk [125]] hsl (by first | omega | (simp only [aa];omega))).x ?_);
   rintro _ m1 _ ⟨hm1,s,q,rfl,hB⟩
   replace hm:=bn hm hm1
   clear hm1 hma hsl
   refine uA ?_
   refine bv rfl uS ⟨hm,s,q,rfl,hB.cast ?_⟩
   rw [et];try simp only [cv,am]
 by_cases e : hk=3
 ·subst e
  have hf : (ofB (.mk 3 hn hu ks) 3 && ks.all (fieldS Tree.isSig))=true:=hd0
  rw [aj] at hf
  have et : Pt.toks (.mk 3 hn hu ks)=[Pt.wd [116,121,112,101],Pt.nm hn,Pt.wd [105,110,116,101,114,102,97,99,101],Pt.mk [123]]++(Pt.semis (ks.map Pt.toks)++[Pt.mk [125]]):=by rw [Pt.toks_eq];rfl
  rw [et] at hl
  try simp only [cv,aa] at hl
  unfold TCall
  refine bw Tryz.func37 rfl 104 rfl ?_
  refine uA ?_
  refine oB (fun b => ?_)
  refine bD pq3 ?_
  refine uL ?_
  refine qs rfl (cq tab rStr (hs:=[[116,121,112,101],hn,[105,110,116,101,114,102,97,99,101],[123]]) (l:=[[116,121,112,101],hn,[105,110,116,101,114,102,97,99,101],[123]]) ⟨rfl,rfl,rfl,rfl,trivial⟩ rfl rfl rfl rfl rfl (by decide) (fun sl ma hma hsl _ _ => ?_))
  replace hm:=bn hm hma
  replace hB:=hB.mono hma
  refine uA ?_
  refine oC ct ((cw _ _ bd q s _ hB sl [Pt.wd [116,121,112,101],Pt.nm hn,Pt.wd [105,110,116,101,114,102,97,99,101],Pt.mk [123]] hsl (by first | omega | (simp only [aa];omega))).x ?_);
  rintro _ m1 _ ⟨hm1,s,q,rfl,hB⟩
  replace hm:=bn hm hm1
  clear hm1 hma hsl
  refine uL ?_
  refine br (ι:=PS) [0,3,5,61,62] rfl (fun g=>[(63, .int .i64 (g.i : Int))]) (fun g=>g.m) (fun g=>bdL bd g.q g.s (.cells b 0 (treeC ⟨3,hn,hu,hks⟩) :: L)) (fun g=>m ≤ g.m∧g.i ≤ ks.length∧BOk g.m bd g.q g.s (x0++putT [Pt.wd [116,121,112,101],Pt.nm hn,Pt.wd [105,110,116,101,114,102,97,99,101],Pt.mk [123]]++putT (Pt.semis ((ks.take g.i).map Pt.toks)))) (fun g=>ks.length - g.i) ⟨m1,q,s,0⟩ uH rfl uS ⟨hm,aU _,hB.cast (by simp [Pt.semis,putT_nil])⟩ ?_
  rintro ⟨m1,q,s,i⟩ ⟨hm,hi,hB⟩
  simp only at hm hi hB
  refine uA ?_
  refine bq rfl (fun h1 => ?_) (fun h1 => ?_)
  ·simp only at h1
   have hlt : i < ks.length:=by omega
   have hxi : ks[i]? = some ks[i]:=ak hlt
   have hc:=congrArg (fun l=>(putT l).length) (semis_cut ks i hlt)
   obtain ⟨fs,ft,hfe,hft⟩:=Pt.field_f (List.all_eq_true.1 hf.2 ks[i] (aB hlt))
   have hnx:=semis_next ks i hlt
   generalize ks[i]=fld at *
   subst hfe
   have etf : Pt.toks (.mk 6 fs 0 [ft])=[Pt.nm fs]++Pt.toks ft:=by rw [Pt.toks_eq];rfl
   rw [etf] at hc hnx
   simp only [cv,aa] at hc
   have px:=sig_w hTb ft hft
   have h4c:=h4.mono hm
   refine uA ?_
   refine qs rfl (bO tab rTree i h4c rfl rfl rfl rfl rfl (by first | rfl | omega | (simp only;omega)) rfl hxi ?_)
   rintro b8 i8 h8 hr8 hA8
   (refine oL tab hA8 ?_)
   refine oA tab (fun b5 => ?_)
   refine uA ?_
   refine uT ?_
   refine bD pq3 ?_
   obtain ⟨e1,e2,e3,e4⟩:=rTree_iff.1 hr8
   have e2' : h8.name=fs:=e2
   have e4' : SlRep rTree m1 h8.kids [ft]:=e4
   have hfi : [ft][0]? = some ft:=rfl
   refine uL ?_
   rw [e2']
   refine qs rfl (cq tab rStr (hs:=[fs]) (l:=[fs]) ⟨rfl,trivial⟩ rfl rfl rfl rfl rfl (by decide) (fun sl ma hma hsl _ _ => ?_))
   replace hm:=bn hm hma
   replace hB:=hB.mono hma
   replace e4':=e4'.mono hma
   refine uA ?_
   refine oC ct ((cw _ _ bd q s _ hB sl [Pt.nm fs] hsl (by first | omega | (simp only [aa];omega))).x ?_);
   rintro _ m1 _ ⟨hm1,s,q,rfl,hB⟩
   replace hm:=bn hm hm1
   replace e4':=e4'.mono hm1
   clear hm1 hma hsl
   refine uL ?_
   refine qs rfl (bO tab rTree 0 e4' rfl rfl rfl rfl rfl (by first | rfl | omega | (simp only;omega)) rfl hfi ?_)
   rintro b7 i7 h7 hr7 hA7
   (refine oL tab hA7 ?_)
   refine uA ?_
   refine oC goes66 ((px _ _ bd q s _ h7 (hT.mono hm) hB (rTree_iff.1 hr7) (by first | omega | (simp only [aa];omega))).x ?_);
   rintro _ m1 _ ⟨hm1,s,q,rfl,hB⟩
   replace hm:=bn hm hm1
   refine uA ?_
   refine qs rfl (cq tab rStr (hs:=[[59]]) (l:=[[59]]) ⟨rfl,trivial⟩ rfl rfl rfl rfl rfl (by decide) (fun sl ma hma hsl _ _ => ?_))
   replace hm:=bn hm hma
   replace hB:=hB.mono hma
   refine uA ?_
   refine oC ct ((cw _ _ bd q s _ hB sl [Pt.mk [59]] hsl (by first | omega | (simp only [aa];omega))).x ?_);
   rintro _ m1 _ ⟨hm1,s,q,rfl,hB⟩
   replace hm:=bn hm hm1
   clear hm1 hma hsl
   refine uA ?_
   refine qs rfl (bK (r':=((i + 1 : Nat) : Int)) rfl rfl rfl rfl rfl rfl rfl (by omega) ?_)
   refine uA ?_
   refine ⟨⟨m1,q,s,i + 1⟩,uH,uH,rfl,rfl,uS,⟨hm,by simp only;omega,hB.cast ?_⟩,by simp only;omega⟩
   rw [hnx];simp only [cv,am]
  ·simp only at h1
   rw [aT (by omega)] at hB
   refine uA ?_
   refine qs rfl (cq tab rStr (hs:=[[125]]) (l:=[[125]]) ⟨rfl,trivial⟩ rfl rfl rfl rfl rfl (by decide) (fun sl ma hma hsl _ _ => ?_))
   replace hm:=bn hm hma
   replace hB:=hB.mono hma
   refine uA ?_
   refine oC ct ((cw _ _ bd q s _ hB sl [Pt.mk [125]] hsl (by first | omega | (simp only [aa];omega))).x ?_);
   rintro _ m1 _ ⟨hm1,s,q,rfl,hB⟩
   replace hm:=bn hm hm1
   clear hm1 hma hsl
   refine uA ?_
   refine bv rfl uS ⟨hm,s,q,rfl,hB.cast ?_⟩
   rw [et];try simp only [cv,am]
 by_cases e : hk=4
 ·subst e
  have hf : (ofB (.mk 4 hn hu ks) 4 && kidsR [Tree.isSig,lim.block] none ks)=true:=hd0
  rw [aj] at hf
  obtain ⟨x,y,rfl,hx,hy⟩:=Pt.kids2 hf.2
  have px:=sig_w hTb x hx
  have py:=(ih y (by simp)).block (Pt.num_kid hnum (by simp [Tree.kids])) hy
  have hxi : [x,y][0]? = some x:=rfl
  have hyi : [x,y][1]? = some y:=rfl
  have et : Pt.toks (.mk 4 hn hu [x,y])=[Pt.wd [102,117,110,99],Pt.nm hn]++(Pt.toks x++Pt.toks y):=by rw [Pt.toks_eq];rfl
  rw [et] at hl
  try simp only [cv,aa] at hl
  unfold TCall
  refine bw Tryz.func37 rfl 104 rfl ?_
  refine uA ?_
  refine oB (fun b => ?_)
  refine bD pq3 ?_
  refine uL ?_
  refine qs rfl (cq tab rStr (hs:=[[102,117,110,99],hn]) (l:=[[102,117,110,99],hn]) ⟨rfl,rfl,trivial⟩ rfl rfl rfl rfl rfl (by decide) (fun sl ma hma hsl _ _ => ?_))
  replace hm:=bn hm hma
  replace hB:=hB.mono hma
  refine uA ?_
  refine oC ct ((cw _ _ bd q s _ hB sl [Pt.wd [102,117,110,99],Pt.nm hn] hsl (by first | omega | (simp only [aa];omega))).x ?_);
  rintro _ m1 _ ⟨hm1,s,q,rfl,hB⟩
  replace hm:=bn hm hm1
  clear hm1 hma hsl
  refine uL ?_
  have h4c:=h4.mono hm
  refine qs rfl (bO tab rTree 0 h4c rfl rfl rfl rfl rfl (by first | rfl | omega | (simp only;omega)) rfl hxi ?_)
  rintro b7 i7 h7 hr7 hA7
  (refine oL tab hA7 ?_)
  refine uA ?_
  refine oC goes66 ((px _ _ bd q s _ h7 (hT.mono hm) hB (rTree_iff.1 hr7) (by first | omega | (simp only [aa];omega))).x ?_);
  rintro _ m1 _ ⟨hm1,s,q,rfl,hB⟩
  replace hm:=bn hm hm1
  clear hm1 h4c hr7 hA7
  refine uL ?_
  have h4c:=h4.mono hm
  refine qs rfl (bO tab rTree 1 h4c rfl rfl rfl rfl rfl (by first | rfl | omega | (simp only;omega)) rfl hyi ?_)
  rintro b7 i7 h7 hr7 hA7
  (refine oL tab hA7 ?_)
  refine uA ?_
  refine oC goes68 ((py _ _ bd q s _ h7 (hT.mono hm) hB (rTree_iff.1 hr7) (by first | omega | (simp only [aa];omega))).x ?_);
  rintro _ m1 _ ⟨hm1,s,q,rfl,hB⟩
  replace hm:=bn hm hm1
  clear hm1 h4c hr7 hA7
  refine uA ?_
  refine bv rfl uS ⟨hm,s,q,rfl,hB.cast ?_⟩
  rw [et];try simp only [cv,am]
 by_cases e : hk=5
 ·subst e
  have hf : (ofB (.mk 5 hn hu ks) 5 && kidsR [recvS,Tree.isSig,lim.block] none ks)=true:=hd0
  rw [aj] at hf
  obtain ⟨r,x,y,rfl,hr0,hx,hy⟩:=Pt.kids3 hf.2
  have hrp : ∃ rn ty,r = .mk 8 rn 0 [ty]∧ty.isType=true:=by
   unfold recvS at hr0
   rw [aj] at hr0
   have hp:=hr0.1
   unfold Tree.isParam at hp
   simp only [aj,ao] at hp
   obtain ⟨p1,p2,p3,p4,p5⟩:=hp
   obtain ⟨rk,rn,ru,rks⟩:=r
   obtain rfl : rk=8:=p1
   obtain rfl : ru=0:=p2
   obtain ⟨ty,rfl⟩:=List.length_eq_one_iff.1 p4
   exact ⟨rn,ty,rfl,List.all_eq_true.1 p5 ty (by simp [Tree.kids])⟩
  obtain ⟨rn,ty,rfl,hty⟩:=hrp
  have pt:=typ_w hTb ty hty
  have px:=sig_w hTb x hx
  have py:=(ih y (by simp)).block (Pt.num_kid hnum (by simp [Tree.kids])) hy
  have hri : [Tree.mk 8 rn 0 [ty],x,y][0]? = some (.mk 8 rn 0 [ty]):=rfl
  have hxi : [Tree.mk 8 rn 0 [ty],x,y][1]? = some x:=rfl
  have hyi : [Tree.mk 8 rn 0 [ty],x,y][2]? = some y:=rfl
  have hti : [ty][0]? = some ty:=rfl
  have et : Pt.toks (.mk 5 hn hu [.mk 8 rn 0 [ty],x,y])=[Pt.wd [102,117,110,99],Pt.mk [40],Pt.nm rn]++(Pt.toks ty++([Pt.mk [41],Pt.nm hn]++(Pt.toks x++Pt.toks y))):=by rw [Pt.toks_eq];rfl
  rw [et] at hl
  try simp only [cv,aa] at hl
  unfold TCall
  refine bw Tryz.func37 rfl 104 rfl ?_
  refine uA ?_
  refine oB (fun b => ?_)
  refine bD pq3 ?_
  refine uL ?_
  have h4c:=h4.mono hm
  refine qs rfl (bO tab rTree 0 h4c rfl rfl rfl rfl rfl (by first | rfl | omega | (simp only;omega)) rfl hri ?_)
  rintro b8 i8 h8 hr8 hA8
  obtain ⟨e1,e2,e3,e4⟩:=rTree_iff.1 hr8
  have e2' : h8.name=rn:=e2
  refine uA ?_
  (refine qs rfl (OT.loadA tab hA8 rfl rfl rfl rfl rfl ?_))
  rw [e2']
  refine qs rfl (cq tab rStr (hs:=[[102,117,110,99],[40],rn]) (l:=[[102,117,110,99],[40],rn]) ⟨rfl,rfl,rfl,trivial⟩ rfl rfl rfl rfl rfl (by decide) (fun sl ma hma hsl _ _ => ?_))
  replace hm:=bn hm hma
  replace hB:=hB.mono hma
  refine uA ?_
  refine oC ct ((cw _ _ bd q s _ hB sl [Pt.wd [102,117,110,99],Pt.mk [40],Pt.nm rn] hsl (by first | omega | (simp only [aa];omega))).x ?_);
  rintro _ m1 _ ⟨hm1,s,q,rfl,hB⟩
  replace hm:=bn hm hm1
  clear hm1 hma hsl
  refine uL ?_
  have h4c:=h4.mono hm
  refine qs rfl (bO tab rTree 0 h4c rfl rfl rfl rfl rfl (by first | rfl | omega | (simp only;omega)) rfl hri ?_)
  rintro b8 i8 h8 hr8 hA8
  obtain ⟨e1,e2,e3,e4⟩:=rTree_iff.1 hr8
  have e4' : SlRep rTree _ h8.kids [ty]:=e4
  refine uA ?_
  (refine qs rfl (OT.loadA tab hA8 rfl rfl rfl rfl rfl ?_))
  refine uA ?_
  refine qs rfl (bO tab rTree 0 e4' rfl rfl rfl rfl rfl (by first | rfl | omega | (simp only;omega)) rfl hti ?_)
  rintro b7 i7 h7 hr7 hA7
  (refine oL tab hA7 ?_)
  refine uA ?_
  refine oC goes65 ((pt _ _ bd q s _ h7 (hT.mono hm) hB (rTree_iff.1 hr7) (by first | omega | (simp only [aa];omega))).x ?_);
  rintro _ m1 _ ⟨hm1,s,q,rfl,hB⟩
  replace hm:=bn hm hm1
  refine uL ?_
  refine qs rfl (cq tab rStr (hs:=[[41],hn]) (l:=[[41],hn]) ⟨rfl,rfl,trivial⟩ rfl rfl rfl rfl rfl (by decide) (fun sl ma hma hsl _ _ => ?_))
  replace hm:=bn hm hma
  replace hB:=hB.mono hma
  refine uA ?_
  refine oC ct ((cw _ _ bd q s _ hB sl [Pt.mk [41],Pt.nm hn] hsl (by first | omega | (simp only [aa];omega))).x ?_);
  rintro _ m1 _ ⟨hm1,s,q,rfl,hB⟩
  replace hm:=bn hm hm1
  clear hm1 hma hsl
  refine uL ?_
  have h4c:=h4.mono hm
  refine qs rfl (bO tab rTree 1 h4c rfl rfl rfl rfl rfl (by first | rfl | omega | (simp only;omega)) rfl hxi ?_)
  rintro b7 i7 h7 hr7 hA7
  (refine oL tab hA7 ?_)
  refine uA ?_
  refine oC goes66 ((px _ _ bd q s _ h7 (hT.mono hm) hB (rTree_iff.1 hr7) (by first | omega | (simp only [aa];omega))).x ?_);
  rintro _ m1 _ ⟨hm1,s,q,rfl,hB⟩
  replace hm:=bn hm hm1
  clear hm1 h4c hr7 hA7
  refine uL ?_
  have h4c:=h4.mono hm
  refine qs rfl (bO tab rTree 2 h4c rfl rfl rfl rfl rfl (by first | rfl | omega | (simp only;omega)) rfl hyi ?_)
  rintro b7 i7 h7 hr7 hA7
  (refine oL tab hA7 ?_)
  refine uA ?_
  refine oC goes68 ((py _ _ bd q s _ h7 (hT.mono hm) hB (rTree_iff.1 hr7) (by first | omega | (simp only [aa];omega))).x ?_);
  rintro _ m1 _ ⟨hm1,s,q,rfl,hB⟩
  replace hm:=bn hm hm1
  clear hm1 h4c hr7 hA7
  refine uA ?_
  refine bv rfl uS ⟨hm,s,q,rfl,hB.cast ?_⟩
  rw [et];try simp only [cv,am]
 exfalso
 unfold declS at hd0
 simp only [Tree.kind] at hd0
 simp [*] at hd0
end
end Go.Sep


/- PtItoaW -/
namespace Go.Sep
open Go.Proofs Go.RowKit
attribute [local irreducible] TC TO OT TCallX TCall DO DOt thenQ blockQ retQ At
theorem St.below {m : Mem} {w w' : World} {L : List Item} (h : St m w L) (hb : Below w.heap.size w w') : St m w' L:=by
 have hc : ∀ (b i : Nat) (v : Value),w.cell? ⟨b,i,none⟩ = some v→w'.cell? ⟨b,i,none⟩ = some v∧w'.frozen? ⟨b,i,none⟩ = w.frozen? ⟨b,i,none⟩:=fun b i v hv=>by
  have hlt:=World.block_lt_of_cell? _ _ hv
  have e:=hb.block b hlt
  exact ⟨by rw [World.cell?_of_block e];exact hv,World.frozen?_of_block e⟩
 refine ⟨hb.os.trans h.os,hb.tape.trans h.tape,hb.output.trans h.output,aw h.size hb.size,fun b hlt=>(hb.block b (aR hlt h.size)).trans (h.pin b hlt),fun b i v hv=>(hc b i v (h.c b i v hv)).1,fun b x hx => ?_,fun b x hx => ?_,fun x hx => ?_,h.free,h.disj⟩
 ·obtain ⟨h1,h2⟩:=h.o b x hx
  have hlt : b < w.heap.size:=(Array.getElem?_eq_some_iff.1 h1).1
  exact ⟨(hb.block b hlt).trans h1,h2⟩
 ·obtain ⟨arr,fr,h1,h2⟩:=h.t b x hx
  have hlt : b < w.heap.size:=(Array.getElem?_eq_some_iff.1 h1).1
  exact ⟨arr,fr,(hb.block b hlt).trans h1,h2⟩
 ·have hi:=h.items x hx
  have hc2 : ∀ (b i : Nat) (v : Value),w.cell? ⟨b,i,none⟩ = some v→w'.cell? ⟨b,i,none⟩ = some v ∧ ∀ j,w'.frozen? ⟨b,j,none⟩ = w.frozen? ⟨b,j,none⟩:=fun b i v hv=>by
   have e:=hb.block b (World.block_lt_of_cell? _ _ hv)
   exact ⟨by rw [World.cell?_of_block e];exact hv,fun j=>World.frozen?_of_block e⟩
  cases x with
  | cells b off vs =>
   intro j v hj
   obtain ⟨h1,h2⟩:=hi j v hj
   obtain ⟨h3,h4⟩:=hc2 _ _ _ h1
   exact ⟨h3,fun i=>(h4 i).trans (h2 i)⟩
  | room b off n =>
   intro j hj
   obtain ⟨v,h1,h2⟩:=hi j hj
   obtain ⟨h3,h4⟩:=hc2 _ _ _ h1
   exact ⟨v,h3,fun i=>(h4 i).trans (h2 i)⟩
  | obj b o =>
   obtain ⟨h1,h2⟩:=hi
   have hlt : b < w.heap.size:=(Array.getElem?_eq_some_iff.1 h1).1
   exact ⟨(hb.block b hlt).trans h1,h2⟩
def Tb (m : Mem) : Prop:=Lib.TabIs Tryz.prog m.pin "internal/strconv.uint64pow10" .u64 Lib.pow10Tab∧3 < m.pin.heap.size
theorem tbOk : TbOk Tb:=⟨fun h hm=>by unfold Tb;rw [hm.pin];exact h⟩
theorem dec_dig : ∀ (f n : Nat),1 ≤ f→n < 10 ^ f→Lib.decDigits n=Pt.digF f n
 | 0,n,h,_=>by omega
 | f + 1,n,_,hn=>by
  rw [Lib.decDigits,Pt.digF]
  by_cases h : n < 10
  ·rw [if_pos h,dif_pos h]
  ·rw [if_neg h,dif_neg h]
   have hf : 1 ≤ f:=by
    rcases Nat.eq_zero_or_pos f with rfl | h1
    ·simp at hn;omega
    ·exact h1
   rw [dec_dig f (n / 10) hf (by rw [Nat.pow_succ] at hn;omega)]
theorem itoa_law (m : Mem) (L : List Item) (n : Int) (hT : Tb m) (h0 : 0 ≤ n) (h1 : n < 9223372036854775808) : TCall Tryz.prog 86 ⟨[.int .i64 n]⟩ m L (Made m L fun r _=>r=strV (Pt.digN n.toNat)):=by
 unfold TCall TCallX
 intro w hw
 have hg : Tryz.prog.globalNamed "internal/strconv.uint64pow10" = some 3:=by kernel_rfl
 have htab : Lib.TabIs Tryz.prog w "internal/strconv.uint64pow10" .u64 Lib.pow10Tab:=by
  have h2:=hT.1
  unfold Lib.TabIs World.var? at h2 ⊢
  rw [hg] at h2 ⊢
  simp only [Option.bind_some] at h2 ⊢
  rw [hw.pin 3 hT.2]
  exact h2
 refine (Tryz.strconv_Itoa n (by omega) (by omega) w htab).mono fun e w' ⟨he,k,os,hww⟩ => ?_
 subst he
 have hst : St m w' L:=hw.below (by
  subst hww
  exact ⟨rfl,rfl,rfl,by simp [Go.Sort.grow,World.drewN],fun b hb=>by simp only [Go.Sort.grow];rw [Array.getElem?_append_left (by simpa [World.drewN] using hb)];rfl⟩)
 refine ⟨m,L,hst,bm _,rfl, ?_⟩
 have hd : Lib.itoa n=Pt.digN n.toNat:=by
  unfold Lib.itoa Pt.digN
  rw [if_neg (by omega),dec_dig 20 n.toNat (by decide) (by omega)]
 rw [hd]
end Go.Sep


/- PrSize -/
namespace Go.Sep
open Go.Proofs
attribute [local irreducible] TC TO OT TCallX TCall DO DOt thenQ blockQ retQ At
theorem sizeL_mem : ∀ {l : List Tree} {t : Tree},t ∈ l→t.size ≤ sizeL l
 | x :: xs,t,h=>by
  rcases List.mem_cons.1 h with rfl | h
  ·simp only [sizeL];omega
  ·have:=sizeL_mem h;simp only [sizeL];omega
theorem size_kid {a t : Tree} (h : t ∈ a.kids) : t.size ≤ a.size:=by
 obtain ⟨k,n,u,ks⟩:=a
 have:=sizeL_mem h
 simp only [Tree.kids,Tree.size] at *
 omega
theorem size_ref (a : Tree) : ∀ (m : Mem) (L : List Item) (h : HTree) (hr : TreeRep m h a) (hB : a.size ≤ 1048576),TCall Tryz.prog 124 ⟨[treeV h]⟩ m L (Ret (.tuple ⟨[.int .i64 (a.size : Int), .int .i64 (a.deep : Int)]⟩) m L):=by
 induction a using Tree.ind with
 | h a ih =>
 intro m L h hr hB
 obtain ⟨h1,h2,h3,h4⟩:=hr
 have hl:=h4.len
 have hsm:=h4.small rfl
 have hbl:=len_sizeL a.kids
 have hbk:=size_kids a
 unfold TCall
 refine bw Tryz.func124 rfl 35 rfl ?_
 refine uA ?_
 refine oB (fun b => ?_)
 refine uA ?_
 refine br (ι:=Nat) [1] rfl (fun k=>[(6, .int .i64 (k : Int)),(4, .int .i64 ((1 + sizeL (a.kids.take k) : Nat) : Int)),(5, .int .i64 ((deepL (a.kids.take k) : Nat) : Int))]) (fun _=>m) (fun _ => .cells b 0 (treeC h) :: L) (fun k=>k ≤ a.kids.length) (fun k=>a.kids.length - k) 0 uH rfl uS (aU _) ?_
 rintro k hk
 refine uL ?_
 refine bq rfl (fun h => ?_) (fun h => ?_)
 ·have hlt : k < a.kids.length:=by omega
  have hx : a.kids[k]? = some a.kids[k]:=by simp [hlt]
  have hmem:=aB hlt
  refine uL ?_
  refine qs rfl (bO tab rTree k h4 rfl rfl rfl rfl rfl (by first | rfl | omega | (simp only;omega)) rfl hx ?_)
  rintro b' i hd hrd hA
  (first | refine qs rfl (OT.loadA tab hA rfl rfl rfl rfl rfl ?_) | refine oL tab hA ?_)
  refine uL ?_
  refine oC goes124 ((ih _ hmem _ _ hd (rTree_iff.1 hrd) (aw (size_kid hmem) hB)).x ?_);
  rintro _ _ _ ⟨rfl,rfl,rfl⟩
  have e1:=sizeL_next a.kids k hlt
  have e2:=deepL_next a.kids k hlt
  have e3 : sizeL (a.kids.take (k + 1)) ≤ 1048576:=by
   have:=size_kids a
   have:=sizeL_take a.kids (k + 1)
   omega
  refine uA ?_
  refine qs rfl (bK (r':=((1 + sizeL (a.kids.take (k + 1)) : Nat) : Int)) rfl rfl rfl rfl rfl rfl (by rw [e1];omega) (by omega) ?_)
  refine uA ?_
  refine bq rfl (fun h6 => ?_) (fun h6 => ?_)
  ·refine uA ?_
   refine qs rfl (bK (r':=((k + 1 : Nat) : Int)) rfl rfl rfl rfl rfl rfl rfl (by omega) ?_)
   refine uA ?_
   have e4 : deepL (a.kids.take (k + 1))=a.kids[k].deep:=by omega
   exact ⟨k + 1,by simp only [e4];exact uH,uH,rfl,rfl,uS,by omega,by omega⟩
  ·refine uA ?_
   refine qs rfl (bK (r':=((k + 1 : Nat) : Int)) rfl rfl rfl rfl rfl rfl rfl (by omega) ?_)
   refine uA ?_
   have e4 : deepL (a.kids.take (k + 1))=deepL (a.kids.take k):=by omega
   exact ⟨k + 1,by simp only [e4];exact uH,uH,rfl,rfl,uS,by omega,by omega⟩
 ·have hd : deepL a.kids ≤ 1048576:=by
   have:=deep_size a
   obtain ⟨_,_,_,ks⟩:=a
   simp only [Tree.deep,Tree.kids] at *
   omega
  refine uA ?_
  rw [aT (by omega)]
  refine qs rfl (bK (r':=((deepL a.kids + 1 : Nat) : Int)) rfl rfl rfl rfl rfl rfl (by omega) (by omega) ?_)
  refine uA ?_
  refine bu rfl uS ⟨rfl,rfl, ?_⟩
  obtain ⟨_,_,_,ks⟩:=a
  rfl
end Go.Sep


/- PrTel -/
namespace Go.Sep
open Go.Proofs
attribute [local irreducible] TC TO OT TCallX TCall DO DOt thenQ blockQ retQ At
def withinB (a : Tree) (x y : Int) : Bool:=decide ((a.size : Int) + x ≤ 20000) && decide ((a.deep : Int) + y ≤ 100)
theorem withinB_eq (a : Tree) (x y : Int) : withinB a x y=(decide ((a.size : Int) + x ≤ 20000) && decide ((a.deep : Int) + y ≤ 100)):=rfl
attribute [irreducible] withinB
theorem within_ref (a : Tree) (m : Mem) (L : List Item) (h : HTree) (hr : TreeRep m h a) (hB : a.bulk ≤ 1048576) (x y : Int) (hx : 0 ≤ x∧x ≤ 100) (hy : 0 ≤ y∧y ≤ 100) :
  TCall Tryz.prog 77 ⟨[treeV h, .int .i64 x, .int .i64 y]⟩ m L (Ret (.bool (withinB a x y)) m L):=by
 have h5:=size_bulk a
 have h6:=deep_size a
 unfold TCall
 refine bw Tryz.func77 rfl 24 rfl ?_
 refine uA ?_
 refine oB (fun b => ?_)
 refine uL ?_
 refine oC goes124 ((size_ref a _ _ h hr (aw (size_bulk a) hB)).x ?_);
 rintro _ _ _ ⟨rfl,rfl,rfl⟩
 refine uA ?_
 refine qs rfl (bK (r':=(a.size : Int) + x) rfl rfl rfl rfl rfl rfl rfl (by omega) ?_)
 refine uA ?_
 (refine bB rfl rfl (fun h7 => ?_) (fun h7 => ?_))
 ·refine uA ?_
  refine qs rfl (bK (r':=(a.deep : Int) + y) rfl rfl rfl rfl rfl rfl rfl (by omega) ?_)
  refine uA ?_
  refine bu rfl uS ⟨rfl,rfl, ?_⟩
  rw [withinB_eq,aH h7];rfl
 ·refine uA ?_
  refine bu rfl uS ⟨rfl,rfl, ?_⟩
  rw [withinB_eq,aI h7];rfl
def numB (k : Int) : Bool:=decide (k=7 ∨ k=13 ∨ k=22 ∨ k=23 ∨ k=40 ∨ k=42 ∨ k=50)
theorem num_ref (m : Mem) (L : List Item) (k : Int) : TCall Tryz.prog 126 ⟨[.int .i64 k]⟩ m L (Ret (.bool (numB k)) m L):=by
 unfold TCall
 refine bw Tryz.func126 rfl 12 rfl ?_
 by_cases h : k=7 ∨ k=13 ∨ k=22 ∨ k=23 ∨ k=40 ∨ k=42 ∨ k=50
 ·rw [numB,aH h]
  rcases h with rfl | rfl | rfl | rfl | rfl | rfl | rfl
  all_goals
   refine uA ?_
   refine bu rfl uS ⟨rfl,rfl, ?_⟩
   rfl
 ·rw [numB,aI h]
  refine uA ?_
  refine bq rfl (fun h1 => ?_) (fun h1 => ?_)
  ·omega
  refine uA ?_
  refine bq rfl (fun h1 => ?_) (fun h1 => ?_)
  ·omega
  refine uA ?_
  refine bq rfl (fun h1 => ?_) (fun h1 => ?_)
  ·omega
  refine uA ?_
  refine bq rfl (fun h1 => ?_) (fun h1 => ?_)
  ·omega
  refine uA ?_
  refine bq rfl (fun h1 => ?_) (fun h1 => ?_)
  ·omega
  refine uA ?_
  refine bq rfl (fun h1 => ?_) (fun h1 => ?_)
  ·omega
  refine uA ?_
  refine bq rfl (fun h1 => ?_) (fun h1 => ?_)
  ·omega
  refine uA ?_
  refine bu rfl uS ⟨rfl,rfl, ?_⟩
  rfl
theorem repeat_ref (m : Mem) (L : List Item) (c n : Int) : TCall Tryz.prog 157 ⟨[.int .i64 c, .int .i64 n]⟩ m L
  (Made m L fun r m' => ∃ s : Sl,r=s.v∧SlRep rInt m' s (List.replicate (min n.toNat 20001) c)):=by
 unfold TCall
 refine bw Tryz.func157 rfl 22 rfl ?_
 refine uB ?_
 refine qs rfl (cd tab rfl rfl rfl rfl (fun b => ?_))
 refine TO.growL b 1 ?_
 refine uA ?_
 refine br (ι:=Grow) [0,1] rfl (fun g=>[(5,g.s.v),(6, .int .i64 (g.k : Int))]) (fun g=>g.m) (fun g=>tok g.s 1 :: L) (fun g=>g.k ≤ min n.toNat 20001∧SlRep rInt g.m g.s (List.replicate g.k c)∧Own g.s∧m ≤ g.m) (fun g=>20001 - g.k) ⟨0,⟨some ⟨b,0,none⟩,0,0⟩,m⟩ uH rfl uS ⟨aU _,SlRep.lit0 _ _ _,Own.lit _ _ _,bm _⟩ ?_
 rintro ⟨k,s,m1⟩ ⟨hk,hs,hown,hm1⟩
 simp only at hk hs hown hm1
 refine uA ?_
 (refine bB rfl rfl (fun h => ?_) (fun h => ?_))
 ·refine uN ?_
  refine bq rfl (fun h2 => ?_) (fun h2 => ?_)
  ·simp only at h h2
   refine uA ?_
   refine qs rfl (cd tab rfl rfl rfl rfl (fun b2 => ?_))
   refine qs rfl (OT.append1 tab rInt 0 (hd':=c) (a:=c) hs hown rfl rfl rfl rfl rfl rfl rfl rfl (by simp only [rInt,aK];omega) (fun s2 m2 hm2 hs2 hown2 => ?_))
   refine uA ?_
   refine qs rfl (bK (r':=((k + 1 : Nat) : Int)) rfl rfl rfl rfl rfl rfl rfl (by omega) ?_)
   refine uA ?_
   refine ⟨⟨k + 1,s2,m2⟩,uH,uH,rfl,rfl,uS,⟨by simp only;omega, ?_,hown2,bn hm1 hm2⟩,by simp only;omega⟩
   rw [List.replicate_succ'];exact hs2
  ·simp only at h h2
   refine uN ?_
   refine bu rfl uS ⟨hm1,rfl,s,rfl, ?_⟩
   rw [show min n.toNat 20001=k by omega];exact hs
 ·simp only at h
  refine uA ?_
  refine bu rfl uS ⟨hm1,rfl,s,rfl, ?_⟩
  rw [show min n.toNat 20001=k by omega];exact hs
structure Shape where
 ks : List Int
 rest : Int
 text : Int
 ok : Bool
def ShapeIs (m : Mem) (L : List Item) (x : Shape) : Value→Mem→List Item→Prop:=Made m L fun r m' => ∃ s : Sl,r = .tuple ⟨[s.v, .int .i64 x.rest, .int .i64 x.text, .bool x.ok]⟩ ∧ SlRep rInt m' s x.ks
def allS (p : Int→Tree→Bool) : List Int→Int→List Tree→Bool
 | _,_,[]=>true
 | [],r,t :: ts=>p r t && allS p [] r ts
 | k :: ks,r,t :: ts=>p k t && allS p ks r ts
def want (x : Shape) (i : Nat) : Int:=x.ks[i]?.getD x.rest
theorem allS_step (p : Int→Tree→Bool) (x : Shape) (l : List Tree) (i : Nat) (h : i < l.length) :
  allS p (x.ks.drop i) x.rest (l.drop i)=(p (want x i) l[i] && allS p (x.ks.drop (i + 1)) x.rest (l.drop (i + 1))):=by
 rw [aJ h]
 by_cases h2 : i < x.ks.length
 ·rw [aJ h2,allS,want,ak h2];rfl
 ·rw [aS (show x.ks.length ≤ i by omega),aS (show x.ks.length ≤ i + 1 by omega),allS,want,au (by omega)];rfl
def textB (x : Shape) (a : Tree) : Bool := !((decide (x.text=0) && !decide (a.name=[])) || (decide (x.text=1) && !isName a.name))
def fitB (x : Shape) (a : Tree) : Bool:=x.ok && (decide (x.ks.length ≤ a.kids.length) && ((!decide (x.rest=0) || decide (a.kids.length ≤ x.ks.length)) && (decide (a.num=0) || numB a.kind)))
theorem is_walk (k : Int) (a : Tree) (m : Mem) (L : List Item) (h : HTree) (hr : TreeRep m h a) (hB : a.bulk ≤ 1048576) (x : Shape)
  (hx : ∀ (m : Mem) (L : List Item),TreeRep m h a→TCall Tryz.prog 125 ⟨[treeV h, .int .i64 k]⟩ m L (ShapeIs m L x)) (htext : x.text=0 ∨ x.text=1 ∨ x.text=2) (p : Int→Tree→Bool)
  (hp : fitB x a=true → ∀ (i : Nat) (hi : i < a.kids.length) (m : Mem) (L : List Item) (h' : HTree),TreeRep m h' a.kids[i]→TCall Tryz.prog 78 ⟨[treeV h', .int .i64 (want x i)]⟩ m L (Ret (.bool (p (want x i) a.kids[i])) m L)) :
  TCall Tryz.prog 78 ⟨[treeV h, .int .i64 k]⟩ m L (Ret (.bool (fitB x a && (textB x a && allS p x.ks x.rest a.kids))) m L):=by
 have hr':=hr
 obtain ⟨h1,h2,h3,h4⟩:=hr
 have hl:=h4.len
 have hsm:=h4.small rfl
 have hnl:=bulk_name a
 refine cg ?_
 unfold TCall
 refine bw Tryz.func78 rfl 93 rfl ?_
 refine uA ?_
 refine oB (fun b => ?_)
 refine uL ?_
 refine oC goes125 ((hx _ _ hr').x ?_);
 rintro _ m1 _ ⟨hm1,rfl,s,rfl,hs⟩
 have hsl:=hs.len
 have hr1:=hr'.mono hm1
 have h41:=h4.mono hm1
 refine uA ?_
 have out : ∀ {v : Value} {m' : Mem},m1 ≤ m' → v = .bool (fitB x a && (textB x a && allS p x.ks x.rest a.kids))→Made m L (fun r _=>r = .bool (fitB x a && (textB x a && allS p x.ks x.rest a.kids))) v m' L:=fun h1 h2=>⟨bn hm1 h1,rfl,h2⟩
 have bad : ∀ {m' : Mem},m1 ≤ m' → fitB x a=false→Made m L (fun r _=>r = .bool (fitB x a && (textB x a && allS p x.ks x.rest a.kids))) (.bool false) m' L:=fun h1 h2=>out h1 (by rw [h2];rfl)
 refine bA (b := !x.ok) rfl rfl (fun hok => ?_) (fun hok => ?_)
 ·refine uA ?_
  exact bu rfl uS (bad (bm _) (by unfold fitB;simp_all))
 have hok2 : x.ok=true:=by simpa using hok
 refine uL ?_
 (refine bB rfl rfl (fun hlt => ?_) (fun hlt => ?_))
 ·refine uA ?_
  exact bu rfl uS (bad (bm _) (by unfold fitB;rw [aI (show ¬ x.ks.length ≤ a.kids.length by omega)];simp))
 refine uL ?_
 (refine bB rfl rfl (fun hrest => ?_) (fun hrest => ?_))
 ·refine uL ?_
  (refine bB rfl rfl (fun hgt => ?_) (fun hgt => ?_))
  ·refine uA ?_
   exact bu rfl uS (bad (bm _) (by unfold fitB;rw [aH hrest,aI (show ¬ a.kids.length ≤ x.ks.length by omega)];simp))
  have hcnt : (!decide (x.rest=0) || decide (a.kids.length ≤ x.ks.length))=true:=by rw [aH (show a.kids.length ≤ x.ks.length by omega),Bool.or_true]
  have hcnt0 : x.rest=0→a.kids.length ≤ x.ks.length:=fun h0=>by simpa [h0] using hcnt
  have hcnt2 : decide (x.ks.length ≤ a.kids.length)=true:=aH (by omega)
  refine uL ?_
  (refine bC rfl rfl (fun hnum => ?_) (fun hnum => ?_))
  ·refine uL ?_
   refine oC goes126 ((num_ref _ _ h.kind).x ?_);
   rintro _ _ _ ⟨rfl,rfl,rfl⟩
   refine uA ?_
   refine bo (t := !numB h.kind) rfl (fun hn => ?_) (fun hn => ?_)
   ·refine uA ?_
    exact bu rfl uS (bad (bm _) (by unfold fitB;rw [← h3,← h1,aI hnum];simp_all))
   have hfit : fitB x a=true:=by unfold fitB;rw [hok2,hcnt2,hcnt,← h1,show numB h.kind=true by simpa using hn];simp
   rcases htext with ht | ht | ht
   ·rw [ht]
    refine uL ?_
    (refine bC rfl rfl (fun hnm => ?_) (fun hnm => ?_))
    ·refine uA ?_
     refine bu rfl uS (out (bm _) ?_)
     have : textB x a=false:=by unfold textB;rw [ht,← h2,aI hnm];rfl
     rw [this,Bool.false_and,Bool.and_false]
    ·have htxt : textB x a=true:=by unfold textB;rw [ht,← h2,aH hnm];rfl
     refine uA ?_
     refine br (ι:=Nat) [2,5,6] rfl (fun i=>[(9, .int .i64 (i : Int))]) (fun _=>m1) (fun _ => .cells b 0 (treeC h) :: L) (fun i=>i ≤ a.kids.length∧allS p x.ks x.rest a.kids=allS p (x.ks.drop i) x.rest (a.kids.drop i)) (fun i=>a.kids.length - i) 0 uH rfl uS ⟨aU _,rfl⟩ ?_
     rintro i ⟨hi,hI⟩
     refine uL ?_
     refine bq rfl (fun hik => ?_) (fun hik => ?_)
     ·have hilt : i < a.kids.length:=by omega
      have hxi : a.kids[i]? = some a.kids[i]:=by simp [hilt]
      rw [allS_step p x a.kids i hilt] at hI
      have hpi:=hp hfit i hilt
      refine uA ?_
      refine bq rfl (fun hiks => ?_) (fun hiks => ?_)
      ·have hks : i < x.ks.length:=by omega
       have hxs : x.ks[i]? = some x.ks[i]:=by simp [hks]
       have hw : want x i=x.ks[i]:=by rw [want,hxs];rfl
       rw [hw] at hpi hI
       refine uA ?_
       refine qs rfl (bO tab rInt i hs rfl rfl rfl rfl rfl (by first | rfl | omega | (simp only;omega)) rfl hxs ?_)
       rintro b3 i3 v3 hv3 hA3
       obtain rfl : v3=x.ks[i]:=hv3
       (refine oL tab hA3 ?_)
       refine uL ?_
       refine qs rfl (bO tab rTree i h41 rfl rfl rfl rfl rfl (by first | rfl | omega | (simp only;omega)) rfl hxi ?_)
       rintro b4 i4 h' hr4 hA4
       (refine oL tab hA4 ?_)
       refine uA ?_
       refine oC goes78 ((hpi _ _ h' (rTree_iff.1 hr4)).x ?_)
       rintro _ _ _ ⟨rfl,rfl,rfl⟩
       refine uA ?_
       refine bo rfl (fun hpb => ?_) (fun hpb => ?_)
       ·refine uA ?_
        refine bu rfl uS (out (bm _) ?_)
        rw [Bool.not_eq_true'] at hpb
        rw [hfit,htxt,hI,hpb];rfl
       ·refine uA ?_
        refine qs rfl (bK (r':=((i + 1 : Nat) : Int)) rfl rfl rfl rfl rfl rfl rfl (by omega) ?_)
        refine uA ?_
        rw [Bool.not_eq_false'] at hpb
        exact ⟨i + 1,uH,uH,rfl,rfl,uS,⟨by omega,by rw [hI,hpb,aF]⟩,by omega⟩
      ·have hw : want x i=x.rest:=by rw [want,au (by omega)];rfl
       rw [hw] at hpi hI
       refine uL ?_
       refine qs rfl (bO tab rTree i h41 rfl rfl rfl rfl rfl (by first | rfl | omega | (simp only;omega)) rfl hxi ?_)
       rintro b4 i4 h' hr4 hA4
       (refine oL tab hA4 ?_)
       refine uA ?_
       refine oC goes78 ((hpi _ _ h' (rTree_iff.1 hr4)).x ?_)
       rintro _ _ _ ⟨rfl,rfl,rfl⟩
       refine uA ?_
       refine bo rfl (fun hpb => ?_) (fun hpb => ?_)
       ·refine uA ?_
        refine bu rfl uS (out (bm _) ?_)
        rw [Bool.not_eq_true'] at hpb
        rw [hfit,htxt,hI,hpb];rfl
       ·refine uA ?_
        refine qs rfl (bK (r':=((i + 1 : Nat) : Int)) rfl rfl rfl rfl rfl rfl rfl (by omega) ?_)
        refine uA ?_
        rw [Bool.not_eq_false'] at hpb
        exact ⟨i + 1,uH,uH,rfl,rfl,uS,⟨by omega,by rw [hI,hpb,aF]⟩,by omega⟩
     ·refine uA ?_
      refine bu rfl uS (out (bm _) ?_)
      rw [hfit,htxt,hI,show a.kids.drop i=[] from aS (by omega)]
      cases x.ks.drop i <;> rfl
   ·rw [ht]
    refine uL ?_
    refine oC goes127 ((name_ref _ _ h.name (by rw [h2];omega)).x ?_);
    rintro _ _ _ ⟨rfl,rfl,rfl⟩
    refine uA ?_
    refine bo (t := !isName h.name) rfl (fun hnm => ?_) (fun hnm => ?_)
    ·refine uA ?_
     refine bu rfl uS (out (bm _) ?_)
     have : textB x a=false:=by unfold textB;rw [ht,← h2,hnm];rfl
     rw [this,Bool.false_and,Bool.and_false]
    ·have htxt : textB x a=true:=by unfold textB;rw [ht,← h2,hnm];rfl
     refine uA ?_
     refine br (ι:=Nat) [2,5,6] rfl (fun i=>[(9, .int .i64 (i : Int))]) (fun _=>m1) (fun _ => .cells b 0 (treeC h) :: L) (fun i=>i ≤ a.kids.length∧allS p x.ks x.rest a.kids=allS p (x.ks.drop i) x.rest (a.kids.drop i)) (fun i=>a.kids.length - i) 0 uH rfl uS ⟨aU _,rfl⟩ ?_
     rintro i ⟨hi,hI⟩
     refine uL ?_
     refine bq rfl (fun hik => ?_) (fun hik => ?_)
     ·have hilt : i < a.kids.length:=by omega
      have hxi : a.kids[i]? = some a.kids[i]:=by simp [hilt]
      rw [allS_step p x a.kids i hilt] at hI
      have hpi:=hp hfit i hilt
      refine uA ?_
      refine bq rfl (fun hiks => ?_) (fun hiks => ?_)
      ·have hks : i < x.ks.length:=by omega
       have hxs : x.ks[i]? = some x.ks[i]:=by simp [hks]
       have hw : want x i=x.ks[i]:=by rw [want,hxs];rfl
       rw [hw] at hpi hI
       refine uA ?_
       refine qs rfl (bO tab rInt i hs rfl rfl rfl rfl rfl (by first | rfl | omega | (simp only;omega)) rfl hxs ?_)
       rintro b3 i3 v3 hv3 hA3
       obtain rfl : v3=x.ks[i]:=hv3
       (refine oL tab hA3 ?_)
       refine uL ?_
       refine qs rfl (bO tab rTree i h41 rfl rfl rfl rfl rfl (by first | rfl | omega | (simp only;omega)) rfl hxi ?_)
       rintro b4 i4 h' hr4 hA4
       (refine oL tab hA4 ?_)
       refine uA ?_
       refine oC goes78 ((hpi _ _ h' (rTree_iff.1 hr4)).x ?_)
       rintro _ _ _ ⟨rfl,rfl,rfl⟩
       refine uA ?_
       refine bo rfl (fun hpb => ?_) (fun hpb => ?_)
       ·refine uA ?_
        refine bu rfl uS (out (bm _) ?_)
        rw [Bool.not_eq_true'] at hpb
        rw [hfit,htxt,hI,hpb];rfl
       ·refine uA ?_
        refine qs rfl (bK (r':=((i + 1 : Nat) : Int)) rfl rfl rfl rfl rfl rfl rfl (by omega) ?_)
        refine uA ?_
        rw [Bool.not_eq_false'] at hpb
        exact ⟨i + 1,uH,uH,rfl,rfl,uS,⟨by omega,by rw [hI,hpb,aF]⟩,by omega⟩
      ·have hw : want x i=x.rest:=by rw [want,au (by omega)];rfl
       rw [hw] at hpi hI
       refine uL ?_
       refine qs rfl (bO tab rTree i h41 rfl rfl rfl rfl rfl (by first | rfl | omega | (simp only;omega)) rfl hxi ?_)
       rintro b4 i4 h' hr4 hA4
       (refine oL tab hA4 ?_)
       refine uA ?_
       refine oC goes78 ((hpi _ _ h' (rTree_iff.1 hr4)).x ?_)
       rintro _ _ _ ⟨rfl,rfl,rfl⟩
       refine uA ?_
       refine bo rfl (fun hpb => ?_) (fun hpb => ?_)
       ·refine uA ?_
        refine bu rfl uS (out (bm _) ?_)
        rw [Bool.not_eq_true'] at hpb
        rw [hfit,htxt,hI,hpb];rfl
       ·refine uA ?_
        refine qs rfl (bK (r':=((i + 1 : Nat) : Int)) rfl rfl rfl rfl rfl rfl rfl (by omega) ?_)
        refine uA ?_
        rw [Bool.not_eq_false'] at hpb
        exact ⟨i + 1,uH,uH,rfl,rfl,uS,⟨by omega,by rw [hI,hpb,aF]⟩,by omega⟩
     ·refine uA ?_
      refine bu rfl uS (out (bm _) ?_)
      rw [hfit,htxt,hI,show a.kids.drop i=[] from aS (by omega)]
      cases x.ks.drop i <;> rfl
   ·rw [ht]
    have htxt : textB x a=true:=by unfold textB;rw [ht];rfl
    refine uA ?_
    refine br (ι:=Nat) [2,5,6] rfl (fun i=>[(9, .int .i64 (i : Int))]) (fun _=>m1) (fun _ => .cells b 0 (treeC h) :: L) (fun i=>i ≤ a.kids.length∧allS p x.ks x.rest a.kids=allS p (x.ks.drop i) x.rest (a.kids.drop i)) (fun i=>a.kids.length - i) 0 uH rfl uS ⟨aU _,rfl⟩ ?_
    rintro i ⟨hi,hI⟩
    refine uL ?_
    refine bq rfl (fun hik => ?_) (fun hik => ?_)
    ·have hilt : i < a.kids.length:=by omega
     have hxi : a.kids[i]? = some a.kids[i]:=by simp [hilt]
     rw [allS_step p x a.kids i hilt] at hI
     have hpi:=hp hfit i hilt
     refine uA ?_
     refine bq rfl (fun hiks => ?_) (fun hiks => ?_)
     ·have hks : i < x.ks.length:=by omega
      have hxs : x.ks[i]? = some x.ks[i]:=by simp [hks]
      have hw : want x i=x.ks[i]:=by rw [want,hxs];rfl
      rw [hw] at hpi hI
      refine uA ?_
      refine qs rfl (bO tab rInt i hs rfl rfl rfl rfl rfl (by first | rfl | omega | (simp only;omega)) rfl hxs ?_)
      rintro b3 i3 v3 hv3 hA3
      obtain rfl : v3=x.ks[i]:=hv3
      (refine oL tab hA3 ?_)
      refine uL ?_
      refine qs rfl (bO tab rTree i h41 rfl rfl rfl rfl rfl (by first | rfl | omega | (simp only;omega)) rfl hxi ?_)
      rintro b4 i4 h' hr4 hA4
      (refine oL tab hA4 ?_)
      refine uA ?_
      refine oC goes78 ((hpi _ _ h' (rTree_iff.1 hr4)).x ?_)
      rintro _ _ _ ⟨rfl,rfl,rfl⟩
      refine uA ?_
      refine bo rfl (fun hpb => ?_) (fun hpb => ?_)
      ·refine uA ?_
       refine bu rfl uS (out (bm _) ?_)
       rw [Bool.not_eq_true'] at hpb
       rw [hfit,htxt,hI,hpb];rfl
      ·refine uA ?_
       refine qs rfl (bK (r':=((i + 1 : Nat) : Int)) rfl rfl rfl rfl rfl rfl rfl (by omega) ?_)
       refine uA ?_
       rw [Bool.not_eq_false'] at hpb
       exact ⟨i + 1,uH,uH,rfl,rfl,uS,⟨by omega,by rw [hI,hpb,aF]⟩,by omega⟩
     ·have hw : want x i=x.rest:=by rw [want,au (by omega)];rfl
      rw [hw] at hpi hI
      refine uL ?_
      refine qs rfl (bO tab rTree i h41 rfl rfl rfl rfl rfl (by first | rfl | omega | (simp only;omega)) rfl hxi ?_)
      rintro b4 i4 h' hr4 hA4
      (refine oL tab hA4 ?_)
      refine uA ?_
      refine oC goes78 ((hpi _ _ h' (rTree_iff.1 hr4)).x ?_)
      rintro _ _ _ ⟨rfl,rfl,rfl⟩
      refine uA ?_
      refine bo rfl (fun hpb => ?_) (fun hpb => ?_)
      ·refine uA ?_
       refine bu rfl uS (out (bm _) ?_)
       rw [Bool.not_eq_true'] at hpb
       rw [hfit,htxt,hI,hpb];rfl
      ·refine uA ?_
       refine qs rfl (bK (r':=((i + 1 : Nat) : Int)) rfl rfl rfl rfl rfl rfl rfl (by omega) ?_)
       refine uA ?_
       rw [Bool.not_eq_false'] at hpb
       exact ⟨i + 1,uH,uH,rfl,rfl,uS,⟨by omega,by rw [hI,hpb,aF]⟩,by omega⟩
    ·refine uA ?_
     refine bu rfl uS (out (bm _) ?_)
     rw [hfit,htxt,hI,show a.kids.drop i=[] from aS (by omega)]
     cases x.ks.drop i <;> rfl
  ·have hfit : fitB x a=true:=by unfold fitB;rw [hok2,hcnt2,hcnt,← h3,aH hnum];rfl
   refine uA ?_
   rcases htext with ht | ht | ht
   ·rw [ht]
    refine uL ?_
    (refine bC rfl rfl (fun hnm => ?_) (fun hnm => ?_))
    ·refine uA ?_
     refine bu rfl uS (out (bm _) ?_)
     have : textB x a=false:=by unfold textB;rw [ht,← h2,aI hnm];rfl
     rw [this,Bool.false_and,Bool.and_false]
    ·have htxt : textB x a=true:=by unfold textB;rw [ht,← h2,aH hnm];rfl
     refine uA ?_
     refine br (ι:=Nat) [2,5,6] rfl (fun i=>[(9, .int .i64 (i : Int))]) (fun _=>m1) (fun _ => .cells b 0 (treeC h) :: L) (fun i=>i ≤ a.kids.length∧allS p x.ks x.rest a.kids=allS p (x.ks.drop i) x.rest (a.kids.drop i)) (fun i=>a.kids.length - i) 0 uH rfl uS ⟨aU _,rfl⟩ ?_
     rintro i ⟨hi,hI⟩
     refine uL ?_
     refine bq rfl (fun hik => ?_) (fun hik => ?_)
     ·have hilt : i < a.kids.length:=by omega
      have hxi : a.kids[i]? = some a.kids[i]:=by simp [hilt]
      rw [allS_step p x a.kids i hilt] at hI
      have hpi:=hp hfit i hilt
      refine uA ?_
      refine bq rfl (fun hiks => ?_) (fun hiks => ?_)
      ·have hks : i < x.ks.length:=by omega
       have hxs : x.ks[i]? = some x.ks[i]:=by simp [hks]
       have hw : want x i=x.ks[i]:=by rw [want,hxs];rfl
       rw [hw] at hpi hI
       refine uA ?_
       refine qs rfl (bO tab rInt i hs rfl rfl rfl rfl rfl (by first | rfl | omega | (simp only;omega)) rfl hxs ?_)
       rintro b3 i3 v3 hv3 hA3
       obtain rfl : v3=x.ks[i]:=hv3
       (refine oL tab hA3 ?_)
       refine uL ?_
       refine qs rfl (bO tab rTree i h41 rfl rfl rfl rfl rfl (by first | rfl | omega | (simp only;omega)) rfl hxi ?_)
       rintro b4 i4 h' hr4 hA4
       (refine oL tab hA4 ?_)
       refine uA ?_
       refine oC goes78 ((hpi _ _ h' (rTree_iff.1 hr4)).x ?_)
       rintro _ _ _ ⟨rfl,rfl,rfl⟩
       refine uA ?_
       refine bo rfl (fun hpb => ?_) (fun hpb => ?_)
       ·refine uA ?_
        refine bu rfl uS (out (bm _) ?_)
        rw [Bool.not_eq_true'] at hpb
        rw [hfit,htxt,hI,hpb];rfl
       ·refine uA ?_
        refine qs rfl (bK (r':=((i + 1 : Nat) : Int)) rfl rfl rfl rfl rfl rfl rfl (by omega) ?_)
        refine uA ?_
        rw [Bool.not_eq_false'] at hpb
        exact ⟨i + 1,uH,uH,rfl,rfl,uS,⟨by omega,by rw [hI,hpb,aF]⟩,by omega⟩
      ·have hw : want x i=x.rest:=by rw [want,au (by omega)];rfl
       rw [hw] at hpi hI
       refine uL ?_
       refine qs rfl (bO tab rTree i h41 rfl rfl rfl rfl rfl (by first | rfl | omega | (simp only;omega)) rfl hxi ?_)
       rintro b4 i4 h' hr4 hA4
       (refine oL tab hA4 ?_)
       refine uA ?_
       refine oC goes78 ((hpi _ _ h' (rTree_iff.1 hr4)).x ?_)
       rintro _ _ _ ⟨rfl,rfl,rfl⟩
       refine uA ?_
       refine bo rfl (fun hpb => ?_) (fun hpb => ?_)
       ·refine uA ?_
        refine bu rfl uS (out (bm _) ?_)
        rw [Bool.not_eq_true'] at hpb
        rw [hfit,htxt,hI,hpb];rfl
       ·refine uA ?_
        refine qs rfl (bK (r':=((i + 1 : Nat) : Int)) rfl rfl rfl rfl rfl rfl rfl (by omega) ?_)
        refine uA ?_
        rw [Bool.not_eq_false'] at hpb
        exact ⟨i + 1,uH,uH,rfl,rfl,uS,⟨by omega,by rw [hI,hpb,aF]⟩,by omega⟩
     ·refine uA ?_
      refine bu rfl uS (out (bm _) ?_)
      rw [hfit,htxt,hI,show a.kids.drop i=[] from aS (by omega)]
      cases x.ks.drop i <;> rfl
   ·rw [ht]
    refine uL ?_
    refine oC goes127 ((name_ref _ _ h.name (by rw [h2];omega)).x ?_);
    rintro _ _ _ ⟨rfl,rfl,rfl⟩
    refine uA ?_
    refine bo (t := !isName h.name) rfl (fun hnm => ?_) (fun hnm => ?_)
    ·refine uA ?_
     refine bu rfl uS (out (bm _) ?_)
     have : textB x a=false:=by unfold textB;rw [ht,← h2,hnm];rfl
     rw [this,Bool.false_and,Bool.and_false]
    ·have htxt : textB x a=true:=by unfold textB;rw [ht,← h2,hnm];rfl
     refine uA ?_
     refine br (ι:=Nat) [2,5,6] rfl (fun i=>[(9, .int .i64 (i : Int))]) (fun _=>m1) (fun _ => .cells b 0 (treeC h) :: L) (fun i=>i ≤ a.kids.length∧allS p x.ks x.rest a.kids=allS p (x.ks.drop i) x.rest (a.kids.drop i)) (fun i=>a.kids.length - i) 0 uH rfl uS ⟨aU _,rfl⟩ ?_
     rintro i ⟨hi,hI⟩
     refine uL ?_
     refine bq rfl (fun hik => ?_) (fun hik => ?_)
     ·have hilt : i < a.kids.length:=by omega
      have hxi : a.kids[i]? = some a.kids[i]:=by simp [hilt]
      rw [allS_step p x a.kids i hilt] at hI
      have hpi:=hp hfit i hilt
      refine uA ?_
      refine bq rfl (fun hiks => ?_) (fun hiks => ?_)
      ·have hks : i < x.ks.length:=by omega
       have hxs : x.ks[i]? = some x.ks[i]:=by simp [hks]
       have hw : want x i=x.ks[i]:=by rw [want,hxs];rfl
       rw [hw] at hpi hI
       refine uA ?_
       refine qs rfl (bO tab rInt i hs rfl rfl rfl rfl rfl (by first | rfl | omega | (simp only;omega)) rfl hxs ?_)
       rintro b3 i3 v3 hv3 hA3
       obtain rfl : v3=x.ks[i]:=hv3
       (refine oL tab hA3 ?_)
       refine uL ?_
       refine qs rfl (bO tab rTree i h41 rfl rfl rfl rfl rfl (by first | rfl | omega | (simp only;omega)) rfl hxi ?_)
       rintro b4 i4 h' hr4 hA4
       (refine oL tab hA4 ?_)
       refine uA ?_
       refine oC goes78 ((hpi _ _ h' (rTree_iff.1 hr4)).x ?_)
       rintro _ _ _ ⟨rfl,rfl,rfl⟩
       refine uA ?_
       refine bo rfl (fun hpb => ?_) (fun hpb => ?_)
       ·refine uA ?_
        refine bu rfl uS (out (bm _) ?_)
        rw [Bool.not_eq_true'] at hpb
        rw [hfit,htxt,hI,hpb];rfl
       ·refine uA ?_
        refine qs rfl (bK (r':=((i + 1 : Nat) : Int)) rfl rfl rfl rfl rfl rfl rfl (by omega) ?_)
        refine uA ?_
        rw [Bool.not_eq_false'] at hpb
        exact ⟨i + 1,uH,uH,rfl,rfl,uS,⟨by omega,by rw [hI,hpb,aF]⟩,by omega⟩
      ·have hw : want x i=x.rest:=by rw [want,au (by omega)];rfl
       rw [hw] at hpi hI
       refine uL ?_
       refine qs rfl (bO tab rTree i h41 rfl rfl rfl rfl rfl (by first | rfl | omega | (simp only;omega)) rfl hxi ?_)
       rintro b4 i4 h' hr4 hA4
       (refine oL tab hA4 ?_)
       refine uA ?_
       refine oC goes78 ((hpi _ _ h' (rTree_iff.1 hr4)).x ?_)
       rintro _ _ _ ⟨rfl,rfl,rfl⟩
       refine uA ?_
       refine bo rfl (fun hpb => ?_) (fun hpb => ?_)
       ·refine uA ?_
        refine bu rfl uS (out (bm _) ?_)
        rw [Bool.not_eq_true'] at hpb
        rw [hfit,htxt,hI,hpb];rfl
       ·refine uA ?_
        refine qs rfl (bK (r':=((i + 1 : Nat) : Int)) rfl rfl rfl rfl rfl rfl rfl (by omega) ?_)
        refine uA ?_
        rw [Bool.not_eq_false'] at hpb
        exact ⟨i + 1,uH,uH,rfl,rfl,uS,⟨by omega,by rw [hI,hpb,aF]⟩,by omega⟩
     ·refine uA ?_
      refine bu rfl uS (out (bm _) ?_)
      rw [hfit,htxt,hI,show a.kids.drop i=[] from aS (by omega)]
      cases x.ks.drop i <;> rfl
   ·rw [ht]
    have htxt : textB x a=true:=by unfold textB;rw [ht];rfl
    refine uA ?_
    refine br (ι:=Nat) [2,5,6] rfl (fun i=>[(9, .int .i64 (i : Int))]) (fun _=>m1) (fun _ => .cells b 0 (treeC h) :: L) (fun i=>i ≤ a.kids.length∧allS p x.ks x.rest a.kids=allS p (x.ks.drop i) x.rest (a.kids.drop i)) (fun i=>a.kids.length - i) 0 uH rfl uS ⟨aU _,rfl⟩ ?_
    rintro i ⟨hi,hI⟩
    refine uL ?_
    refine bq rfl (fun hik => ?_) (fun hik => ?_)
    ·have hilt : i < a.kids.length:=by omega
     have hxi : a.kids[i]? = some a.kids[i]:=by simp [hilt]
     rw [allS_step p x a.kids i hilt] at hI
     have hpi:=hp hfit i hilt
     refine uA ?_
     refine bq rfl (fun hiks => ?_) (fun hiks => ?_)
     ·have hks : i < x.ks.length:=by omega
      have hxs : x.ks[i]? = some x.ks[i]:=by simp [hks]
      have hw : want x i=x.ks[i]:=by rw [want,hxs];rfl
      rw [hw] at hpi hI
      refine uA ?_
      refine qs rfl (bO tab rInt i hs rfl rfl rfl rfl rfl (by first | rfl | omega | (simp only;omega)) rfl hxs ?_)
      rintro b3 i3 v3 hv3 hA3
      obtain rfl : v3=x.ks[i]:=hv3
      (refine oL tab hA3 ?_)
      refine uL ?_
      refine qs rfl (bO tab rTree i h41 rfl rfl rfl rfl rfl (by first | rfl | omega | (simp only;omega)) rfl hxi ?_)
      rintro b4 i4 h' hr4 hA4
      (refine oL tab hA4 ?_)
      refine uA ?_
      refine oC goes78 ((hpi _ _ h' (rTree_iff.1 hr4)).x ?_)
      rintro _ _ _ ⟨rfl,rfl,rfl⟩
      refine uA ?_
      refine bo rfl (fun hpb => ?_) (fun hpb => ?_)
      ·refine uA ?_
       refine bu rfl uS (out (bm _) ?_)
       rw [Bool.not_eq_true'] at hpb
       rw [hfit,htxt,hI,hpb];rfl
      ·refine uA ?_
       refine qs rfl (bK (r':=((i + 1 : Nat) : Int)) rfl rfl rfl rfl rfl rfl rfl (by omega) ?_)
       refine uA ?_
       rw [Bool.not_eq_false'] at hpb
       exact ⟨i + 1,uH,uH,rfl,rfl,uS,⟨by omega,by rw [hI,hpb,aF]⟩,by omega⟩
     ·have hw : want x i=x.rest:=by rw [want,au (by omega)];rfl
      rw [hw] at hpi hI
      refine uL ?_
      refine qs rfl (bO tab rTree i h41 rfl rfl rfl rfl rfl (by first | rfl | omega | (simp only;omega)) rfl hxi ?_)
      rintro b4 i4 h' hr4 hA4
      (refine oL tab hA4 ?_)
      refine uA ?_
      refine oC goes78 ((hpi _ _ h' (rTree_iff.1 hr4)).x ?_)
      rintro _ _ _ ⟨rfl,rfl,rfl⟩
      refine uA ?_
      refine bo rfl (fun hpb => ?_) (fun hpb => ?_)
      ·refine uA ?_
       refine bu rfl uS (out (bm _) ?_)
       rw [Bool.not_eq_true'] at hpb
       rw [hfit,htxt,hI,hpb];rfl
      ·refine uA ?_
       refine qs rfl (bK (r':=((i + 1 : Nat) : Int)) rfl rfl rfl rfl rfl rfl rfl (by omega) ?_)
       refine uA ?_
       rw [Bool.not_eq_false'] at hpb
       exact ⟨i + 1,uH,uH,rfl,rfl,uS,⟨by omega,by rw [hI,hpb,aF]⟩,by omega⟩
    ·refine uA ?_
     refine bu rfl uS (out (bm _) ?_)
     rw [hfit,htxt,hI,show a.kids.drop i=[] from aS (by omega)]
     cases x.ks.drop i <;> rfl
 ·have hcnt : (!decide (x.rest=0) || decide (a.kids.length ≤ x.ks.length))=true:=by rw [aI hrest];rfl
  have hcnt0 : x.rest=0→a.kids.length ≤ x.ks.length:=fun h0=>by simpa [h0] using hcnt
  have hcnt2 : decide (x.ks.length ≤ a.kids.length)=true:=aH (by omega)
  refine uL ?_
  (refine bC rfl rfl (fun hnum => ?_) (fun hnum => ?_))
  ·refine uL ?_
   refine oC goes126 ((num_ref _ _ h.kind).x ?_);
   rintro _ _ _ ⟨rfl,rfl,rfl⟩
   refine uA ?_
   refine bo (t := !numB h.kind) rfl (fun hn => ?_) (fun hn => ?_)
   ·refine uA ?_
    exact bu rfl uS (bad (bm _) (by unfold fitB;rw [← h3,← h1,aI hnum];simp_all))
   have hfit : fitB x a=true:=by unfold fitB;rw [hok2,hcnt2,hcnt,← h1,show numB h.kind=true by simpa using hn];simp
   rcases htext with ht | ht | ht
   ·rw [ht]
    refine uL ?_
    (refine bC rfl rfl (fun hnm => ?_) (fun hnm => ?_))
    ·refine uA ?_
     refine bu rfl uS (out (bm _) ?_)
     have : textB x a=false:=by unfold textB;rw [ht,← h2,aI hnm];rfl
     rw [this,Bool.false_and,Bool.and_false]
    ·have htxt : textB x a=true:=by unfold textB;rw [ht,← h2,aH hnm];rfl
     refine uA ?_
     refine br (ι:=Nat) [2,5,6] rfl (fun i=>[(9, .int .i64 (i : Int))]) (fun _=>m1) (fun _ => .cells b 0 (treeC h) :: L) (fun i=>i ≤ a.kids.length∧allS p x.ks x.rest a.kids=allS p (x.ks.drop i) x.rest (a.kids.drop i)) (fun i=>a.kids.length - i) 0 uH rfl uS ⟨aU _,rfl⟩ ?_
     rintro i ⟨hi,hI⟩
     refine uL ?_
     refine bq rfl (fun hik => ?_) (fun hik => ?_)
     ·have hilt : i < a.kids.length:=by omega
      have hxi : a.kids[i]? = some a.kids[i]:=by simp [hilt]
      rw [allS_step p x a.kids i hilt] at hI
      have hpi:=hp hfit i hilt
      refine uA ?_
      refine bq rfl (fun hiks => ?_) (fun hiks => ?_)
      ·have hks : i < x.ks.length:=by omega
       have hxs : x.ks[i]? = some x.ks[i]:=by simp [hks]
       have hw : want x i=x.ks[i]:=by rw [want,hxs];rfl
       rw [hw] at hpi hI
       refine uA ?_
       refine qs rfl (bO tab rInt i hs rfl rfl rfl rfl rfl (by first | rfl | omega | (simp only;omega)) rfl hxs ?_)
       rintro b3 i3 v3 hv3 hA3
       obtain rfl : v3=x.ks[i]:=hv3
       (refine oL tab hA3 ?_)
       refine uL ?_
       refine qs rfl (bO tab rTree i h41 rfl rfl rfl rfl rfl (by first | rfl | omega | (simp only;omega)) rfl hxi ?_)
       rintro b4 i4 h' hr4 hA4
       (refine oL tab hA4 ?_)
       refine uA ?_
       refine oC goes78 ((hpi _ _ h' (rTree_iff.1 hr4)).x ?_)
       rintro _ _ _ ⟨rfl,rfl,rfl⟩
       refine uA ?_
       refine bo rfl (fun hpb => ?_) (fun hpb => ?_)
       ·refine uA ?_
        refine bu rfl uS (out (bm _) ?_)
        rw [Bool.not_eq_true'] at hpb
        rw [hfit,htxt,hI,hpb];rfl
       ·refine uA ?_
        refine qs rfl (bK (r':=((i + 1 : Nat) : Int)) rfl rfl rfl rfl rfl rfl rfl (by omega) ?_)
        refine uA ?_
        rw [Bool.not_eq_false'] at hpb
        exact ⟨i + 1,uH,uH,rfl,rfl,uS,⟨by omega,by rw [hI,hpb,aF]⟩,by omega⟩
      ·have hw : want x i=x.rest:=by rw [want,au (by omega)];rfl
       rw [hw] at hpi hI
       refine uL ?_
       refine qs rfl (bO tab rTree i h41 rfl rfl rfl rfl rfl (by first | rfl | omega | (simp only;omega)) rfl hxi ?_)
       rintro b4 i4 h' hr4 hA4
       (refine oL tab hA4 ?_)
       refine uA ?_
       refine oC goes78 ((hpi _ _ h' (rTree_iff.1 hr4)).x ?_)
       rintro _ _ _ ⟨rfl,rfl,rfl⟩
       refine uA ?_
       refine bo rfl (fun hpb => ?_) (fun hpb => ?_)
       ·refine uA ?_
        refine bu rfl uS (out (bm _) ?_)
        rw [Bool.not_eq_true'] at hpb
        rw [hfit,htxt,hI,hpb];rfl
       ·refine uA ?_
        refine qs rfl (bK (r':=((i + 1 : Nat) : Int)) rfl rfl rfl rfl rfl rfl rfl (by omega) ?_)
        refine uA ?_
        rw [Bool.not_eq_false'] at hpb
        exact ⟨i + 1,uH,uH,rfl,rfl,uS,⟨by omega,by rw [hI,hpb,aF]⟩,by omega⟩
     ·refine uA ?_
      refine bu rfl uS (out (bm _) ?_)
      rw [hfit,htxt,hI,show a.kids.drop i=[] from aS (by omega)]
      cases x.ks.drop i <;> rfl
   ·rw [ht]
    refine uL ?_
    refine oC goes127 ((name_ref _ _ h.name (by rw [h2];omega)).x ?_);
    rintro _ _ _ ⟨rfl,rfl,rfl⟩
    refine uA ?_
    refine bo (t := !isName h.name) rfl (fun hnm => ?_) (fun hnm => ?_)
    ·refine uA ?_
     refine bu rfl uS (out (bm _) ?_)
     have : textB x a=false:=by unfold textB;rw [ht,← h2,hnm];rfl
     rw [this,Bool.false_and,Bool.and_false]
    ·have htxt : textB x a=true:=by unfold textB;rw [ht,← h2,hnm];rfl
     refine uA ?_
     refine br (ι:=Nat) [2,5,6] rfl (fun i=>[(9, .int .i64 (i : Int))]) (fun _=>m1) (fun _ => .cells b 0 (treeC h) :: L) (fun i=>i ≤ a.kids.length∧allS p x.ks x.rest a.kids=allS p (x.ks.drop i) x.rest (a.kids.drop i)) (fun i=>a.kids.length - i) 0 uH rfl uS ⟨aU _,rfl⟩ ?_
     rintro i ⟨hi,hI⟩
     refine uL ?_
     refine bq rfl (fun hik => ?_) (fun hik => ?_)
     ·have hilt : i < a.kids.length:=by omega
      have hxi : a.kids[i]? = some a.kids[i]:=by simp [hilt]
      rw [allS_step p x a.kids i hilt] at hI
      have hpi:=hp hfit i hilt
      refine uA ?_
      refine bq rfl (fun hiks => ?_) (fun hiks => ?_)
      ·have hks : i < x.ks.length:=by omega
       have hxs : x.ks[i]? = some x.ks[i]:=by simp [hks]
       have hw : want x i=x.ks[i]:=by rw [want,hxs];rfl
       rw [hw] at hpi hI
       refine uA ?_
       refine qs rfl (bO tab rInt i hs rfl rfl rfl rfl rfl (by first | rfl | omega | (simp only;omega)) rfl hxs ?_)
       rintro b3 i3 v3 hv3 hA3
       obtain rfl : v3=x.ks[i]:=hv3
       (refine oL tab hA3 ?_)
       refine uL ?_
       refine qs rfl (bO tab rTree i h41 rfl rfl rfl rfl rfl (by first | rfl | omega | (simp only;omega)) rfl hxi ?_)
       rintro b4 i4 h' hr4 hA4
       (refine oL tab hA4 ?_)
       refine uA ?_
       refine oC goes78 ((hpi _ _ h' (rTree_iff.1 hr4)).x ?_)
       rintro _ _ _ ⟨rfl,rfl,rfl⟩
       refine uA ?_
       refine bo rfl (fun hpb => ?_) (fun hpb => ?_)
       ·refine uA ?_
        refine bu rfl uS (out (bm _) ?_)
        rw [Bool.not_eq_true'] at hpb
        rw [hfit,htxt,hI,hpb];rfl
       ·refine uA ?_
        refine qs rfl (bK (r':=((i + 1 : Nat) : Int)) rfl rfl rfl rfl rfl rfl rfl (by omega) ?_)
        refine uA ?_
        rw [Bool.not_eq_false'] at hpb
        exact ⟨i + 1,uH,uH,rfl,rfl,uS,⟨by omega,by rw [hI,hpb,aF]⟩,by omega⟩
      ·have hw : want x i=x.rest:=by rw [want,au (by omega)];rfl
       rw [hw] at hpi hI
       refine uL ?_
       refine qs rfl (bO tab rTree i h41 rfl rfl rfl rfl rfl (by first | rfl | omega | (simp only;omega)) rfl hxi ?_)
       rintro b4 i4 h' hr4 hA4
       (refine oL tab hA4 ?_)
       refine uA ?_
       refine oC goes78 ((hpi _ _ h' (rTree_iff.1 hr4)).x ?_)
       rintro _ _ _ ⟨rfl,rfl,rfl⟩
       refine uA ?_
       refine bo rfl (fun hpb => ?_) (fun hpb => ?_)
       ·refine uA ?_
        refine bu rfl uS (out (bm _) ?_)
        rw [Bool.not_eq_true'] at hpb
        rw [hfit,htxt,hI,hpb];rfl
       ·refine uA ?_
        refine qs rfl (bK (r':=((i + 1 : Nat) : Int)) rfl rfl rfl rfl rfl rfl rfl (by omega) ?_)
        refine uA ?_
        rw [Bool.not_eq_false'] at hpb
        exact ⟨i + 1,uH,uH,rfl,rfl,uS,⟨by omega,by rw [hI,hpb,aF]⟩,by omega⟩
     ·refine uA ?_
      refine bu rfl uS (out (bm _) ?_)
      rw [hfit,htxt,hI,show a.kids.drop i=[] from aS (by omega)]
      cases x.ks.drop i <;> rfl
   ·rw [ht]
    have htxt : textB x a=true:=by unfold textB;rw [ht];rfl
    refine uA ?_
    refine br (ι:=Nat) [2,5,6] rfl (fun i=>[(9, .int .i64 (i : Int))]) (fun _=>m1) (fun _ => .cells b 0 (treeC h) :: L) (fun i=>i ≤ a.kids.length∧allS p x.ks x.rest a.kids=allS p (x.ks.drop i) x.rest (a.kids.drop i)) (fun i=>a.kids.length - i) 0 uH rfl uS ⟨aU _,rfl⟩ ?_
    rintro i ⟨hi,hI⟩
    refine uL ?_
    refine bq rfl (fun hik => ?_) (fun hik => ?_)
    ·have hilt : i < a.kids.length:=by omega
     have hxi : a.kids[i]? = some a.kids[i]:=by simp [hilt]
     rw [allS_step p x a.kids i hilt] at hI
     have hpi:=hp hfit i hilt
     refine uA ?_
     refine bq rfl (fun hiks => ?_) (fun hiks => ?_)
     ·have hks : i < x.ks.length:=by omega
      have hxs : x.ks[i]? = some x.ks[i]:=by simp [hks]
      have hw : want x i=x.ks[i]:=by rw [want,hxs];rfl
      rw [hw] at hpi hI
      refine uA ?_
      refine qs rfl (bO tab rInt i hs rfl rfl rfl rfl rfl (by first | rfl | omega | (simp only;omega)) rfl hxs ?_)
      rintro b3 i3 v3 hv3 hA3
      obtain rfl : v3=x.ks[i]:=hv3
      (refine oL tab hA3 ?_)
      refine uL ?_
      refine qs rfl (bO tab rTree i h41 rfl rfl rfl rfl rfl (by first | rfl | omega | (simp only;omega)) rfl hxi ?_)
      rintro b4 i4 h' hr4 hA4
      (refine oL tab hA4 ?_)
      refine uA ?_
      refine oC goes78 ((hpi _ _ h' (rTree_iff.1 hr4)).x ?_)
      rintro _ _ _ ⟨rfl,rfl,rfl⟩
      refine uA ?_
      refine bo rfl (fun hpb => ?_) (fun hpb => ?_)
      ·refine uA ?_
       refine bu rfl uS (out (bm _) ?_)
       rw [Bool.not_eq_true'] at hpb
       rw [hfit,htxt,hI,hpb];rfl
      ·refine uA ?_
       refine qs rfl (bK (r':=((i + 1 : Nat) : Int)) rfl rfl rfl rfl rfl rfl rfl (by omega) ?_)
       refine uA ?_
       rw [Bool.not_eq_false'] at hpb
       exact ⟨i + 1,uH,uH,rfl,rfl,uS,⟨by omega,by rw [hI,hpb,aF]⟩,by omega⟩
     ·have hw : want x i=x.rest:=by rw [want,au (by omega)];rfl
      rw [hw] at hpi hI
      refine uL ?_
      refine qs rfl (bO tab rTree i h41 rfl rfl rfl rfl rfl (by first | rfl | omega | (simp only;omega)) rfl hxi ?_)
      rintro b4 i4 h' hr4 hA4
      (refine oL tab hA4 ?_)
      refine uA ?_
      refine oC goes78 ((hpi _ _ h' (rTree_iff.1 hr4)).x ?_)
      rintro _ _ _ ⟨rfl,rfl,rfl⟩
      refine uA ?_
      refine bo rfl (fun hpb => ?_) (fun hpb => ?_)
      ·refine uA ?_
       refine bu rfl uS (out (bm _) ?_)
       rw [Bool.not_eq_true'] at hpb
       rw [hfit,htxt,hI,hpb];rfl
      ·refine uA ?_
       refine qs rfl (bK (r':=((i + 1 : Nat) : Int)) rfl rfl rfl rfl rfl rfl rfl (by omega) ?_)
       refine uA ?_
       rw [Bool.not_eq_false'] at hpb
       exact ⟨i + 1,uH,uH,rfl,rfl,uS,⟨by omega,by rw [hI,hpb,aF]⟩,by omega⟩
    ·refine uA ?_
     refine bu rfl uS (out (bm _) ?_)
     rw [hfit,htxt,hI,show a.kids.drop i=[] from aS (by omega)]
     cases x.ks.drop i <;> rfl
  ·have hfit : fitB x a=true:=by unfold fitB;rw [hok2,hcnt2,hcnt,← h3,aH hnum];rfl
   refine uA ?_
   rcases htext with ht | ht | ht
   ·rw [ht]
    refine uL ?_
    (refine bC rfl rfl (fun hnm => ?_) (fun hnm => ?_))
    ·refine uA ?_
     refine bu rfl uS (out (bm _) ?_)
     have : textB x a=false:=by unfold textB;rw [ht,← h2,aI hnm];rfl
     rw [this,Bool.false_and,Bool.and_false]
    ·have htxt : textB x a=true:=by unfold textB;rw [ht,← h2,aH hnm];rfl
     refine uA ?_
     refine br (ι:=Nat) [2,5,6] rfl (fun i=>[(9, .int .i64 (i : Int))]) (fun _=>m1) (fun _ => .cells b 0 (treeC h) :: L) (fun i=>i ≤ a.kids.length∧allS p x.ks x.rest a.kids=allS p (x.ks.drop i) x.rest (a.kids.drop i)) (fun i=>a.kids.length - i) 0 uH rfl uS ⟨aU _,rfl⟩ ?_
     rintro i ⟨hi,hI⟩
     refine uL ?_
     refine bq rfl (fun hik => ?_) (fun hik => ?_)
     ·have hilt : i < a.kids.length:=by omega
      have hxi : a.kids[i]? = some a.kids[i]:=by simp [hilt]
      rw [allS_step p x a.kids i hilt] at hI
      have hpi:=hp hfit i hilt
      refine uA ?_
      refine bq rfl (fun hiks => ?_) (fun hiks => ?_)
      ·have hks : i < x.ks.length:=by omega
       have hxs : x.ks[i]? = some x.ks[i]:=by simp [hks]
       have hw : want x i=x.ks[i]:=by rw [want,hxs];rfl
       rw [hw] at hpi hI
       refine uA ?_
       refine qs rfl (bO tab rInt i hs rfl rfl rfl rfl rfl (by first | rfl | omega | (simp only;omega)) rfl hxs ?_)
       rintro b3 i3 v3 hv3 hA3
       obtain rfl : v3=x.ks[i]:=hv3
       (refine oL tab hA3 ?_)
       refine uL ?_
       refine qs rfl (bO tab rTree i h41 rfl rfl rfl rfl rfl (by first | rfl | omega | (simp only;omega)) rfl hxi ?_)
       rintro b4 i4 h' hr4 hA4
       (refine oL tab hA4 ?_)
       refine uA ?_
       refine oC goes78 ((hpi _ _ h' (rTree_iff.1 hr4)).x ?_)
       rintro _ _ _ ⟨rfl,rfl,rfl⟩
       refine uA ?_
       refine bo rfl (fun hpb => ?_) (fun hpb => ?_)
       ·refine uA ?_
        refine bu rfl uS (out (bm _) ?_)
        rw [Bool.not_eq_true'] at hpb
        rw [hfit,htxt,hI,hpb];rfl
       ·refine uA ?_
        refine qs rfl (bK (r':=((i + 1 : Nat) : Int)) rfl rfl rfl rfl rfl rfl rfl (by omega) ?_)
        refine uA ?_
        rw [Bool.not_eq_false'] at hpb
        exact ⟨i + 1,uH,uH,rfl,rfl,uS,⟨by omega,by rw [hI,hpb,aF]⟩,by omega⟩
      ·have hw : want x i=x.rest:=by rw [want,au (by omega)];rfl
       rw [hw] at hpi hI
       refine uL ?_
       refine qs rfl (bO tab rTree i h41 rfl rfl rfl rfl rfl (by first | rfl | omega | (simp only;omega)) rfl hxi ?_)
       rintro b4 i4 h' hr4 hA4
       (refine oL tab hA4 ?_)
       refine uA ?_
       refine oC goes78 ((hpi _ _ h' (rTree_iff.1 hr4)).x ?_)
       rintro _ _ _ ⟨rfl,rfl,rfl⟩
       refine uA ?_
       refine bo rfl (fun hpb => ?_) (fun hpb => ?_)
       ·refine uA ?_
        refine bu rfl uS (out (bm _) ?_)
        rw [Bool.not_eq_true'] at hpb
        rw [hfit,htxt,hI,hpb];rfl
       ·refine uA ?_
        refine qs rfl (bK (r':=((i + 1 : Nat) : Int)) rfl rfl rfl rfl rfl rfl rfl (by omega) ?_)
        refine uA ?_
        rw [Bool.not_eq_false'] at hpb
        exact ⟨i + 1,uH,uH,rfl,rfl,uS,⟨by omega,by rw [hI,hpb,aF]⟩,by omega⟩
     ·refine uA ?_
      refine bu rfl uS (out (bm _) ?_)
      rw [hfit,htxt,hI,show a.kids.drop i=[] from aS (by omega)]
      cases x.ks.drop i <;> rfl
   ·rw [ht]
    refine uL ?_
    refine oC goes127 ((name_ref _ _ h.name (by rw [h2];omega)).x ?_);
    rintro _ _ _ ⟨rfl,rfl,rfl⟩
    refine uA ?_
    refine bo (t := !isName h.name) rfl (fun hnm => ?_) (fun hnm => ?_)
    ·refine uA ?_
     refine bu rfl uS (out (bm _) ?_)
     have : textB x a=false:=by unfold textB;rw [ht,← h2,hnm];rfl
     rw [this,Bool.false_and,Bool.and_false]
    ·have htxt : textB x a=true:=by unfold textB;rw [ht,← h2,hnm];rfl
     refine uA ?_
     refine br (ι:=Nat) [2,5,6] rfl (fun i=>[(9, .int .i64 (i : Int))]) (fun _=>m1) (fun _ => .cells b 0 (treeC h) :: L) (fun i=>i ≤ a.kids.length∧allS p x.ks x.rest a.kids=allS p (x.ks.drop i) x.rest (a.kids.drop i)) (fun i=>a.kids.length - i) 0 uH rfl uS ⟨aU _,rfl⟩ ?_
     rintro i ⟨hi,hI⟩
     refine uL ?_
     refine bq rfl (fun hik => ?_) (fun hik => ?_)
     ·have hilt : i < a.kids.length:=by omega
      have hxi : a.kids[i]? = some a.kids[i]:=by simp [hilt]
      rw [allS_step p x a.kids i hilt] at hI
      have hpi:=hp hfit i hilt
      refine uA ?_
      refine bq rfl (fun hiks => ?_) (fun hiks => ?_)
      ·have hks : i < x.ks.length:=by omega
       have hxs : x.ks[i]? = some x.ks[i]:=by simp [hks]
       have hw : want x i=x.ks[i]:=by rw [want,hxs];rfl
       rw [hw] at hpi hI
       refine uA ?_
       refine qs rfl (bO tab rInt i hs rfl rfl rfl rfl rfl (by first | rfl | omega | (simp only;omega)) rfl hxs ?_)
       rintro b3 i3 v3 hv3 hA3
       obtain rfl : v3=x.ks[i]:=hv3
       (refine oL tab hA3 ?_)
       refine uL ?_
       refine qs rfl (bO tab rTree i h41 rfl rfl rfl rfl rfl (by first | rfl | omega | (simp only;omega)) rfl hxi ?_)
       rintro b4 i4 h' hr4 hA4
       (refine oL tab hA4 ?_)
       refine uA ?_
       refine oC goes78 ((hpi _ _ h' (rTree_iff.1 hr4)).x ?_)
       rintro _ _ _ ⟨rfl,rfl,rfl⟩
       refine uA ?_
       refine bo rfl (fun hpb => ?_) (fun hpb => ?_)
       ·refine uA ?_
        refine bu rfl uS (out (bm _) ?_)
        rw [Bool.not_eq_true'] at hpb
        rw [hfit,htxt,hI,hpb];rfl
       ·refine uA ?_
        refine qs rfl (bK (r':=((i + 1 : Nat) : Int)) rfl rfl rfl rfl rfl rfl rfl (by omega) ?_)
        refine uA ?_
        rw [Bool.not_eq_false'] at hpb
        exact ⟨i + 1,uH,uH,rfl,rfl,uS,⟨by omega,by rw [hI,hpb,aF]⟩,by omega⟩
      ·have hw : want x i=x.rest:=by rw [want,au (by omega)];rfl
       rw [hw] at hpi hI
       refine uL ?_
       refine qs rfl (bO tab rTree i h41 rfl rfl rfl rfl rfl (by first | rfl | omega | (simp only;omega)) rfl hxi ?_)
       rintro b4 i4 h' hr4 hA4
       (refine oL tab hA4 ?_)
       refine uA ?_
       refine oC goes78 ((hpi _ _ h' (rTree_iff.1 hr4)).x ?_)
       rintro _ _ _ ⟨rfl,rfl,rfl⟩
       refine uA ?_
       refine bo rfl (fun hpb => ?_) (fun hpb => ?_)
       ·refine uA ?_
        refine bu rfl uS (out (bm _) ?_)
        rw [Bool.not_eq_true'] at hpb
        rw [hfit,htxt,hI,hpb];rfl
       ·refine uA ?_
        refine qs rfl (bK (r':=((i + 1 : Nat) : Int)) rfl rfl rfl rfl rfl rfl rfl (by omega) ?_)
        refine uA ?_
        rw [Bool.not_eq_false'] at hpb
        exact ⟨i + 1,uH,uH,rfl,rfl,uS,⟨by omega,by rw [hI,hpb,aF]⟩,by omega⟩
     ·refine uA ?_
      refine bu rfl uS (out (bm _) ?_)
      rw [hfit,htxt,hI,show a.kids.drop i=[] from aS (by omega)]
      cases x.ks.drop i <;> rfl
   ·rw [ht]
    have htxt : textB x a=true:=by unfold textB;rw [ht];rfl
    refine uA ?_
    refine br (ι:=Nat) [2,5,6] rfl (fun i=>[(9, .int .i64 (i : Int))]) (fun _=>m1) (fun _ => .cells b 0 (treeC h) :: L) (fun i=>i ≤ a.kids.length∧allS p x.ks x.rest a.kids=allS p (x.ks.drop i) x.rest (a.kids.drop i)) (fun i=>a.kids.length - i) 0 uH rfl uS ⟨aU _,rfl⟩ ?_
    rintro i ⟨hi,hI⟩
    refine uL ?_
    refine bq rfl (fun hik => ?_) (fun hik => ?_)
    ·have hilt : i < a.kids.length:=by omega
     have hxi : a.kids[i]? = some a.kids[i]:=by simp [hilt]
     rw [allS_step p x a.kids i hilt] at hI
     have hpi:=hp hfit i hilt
     refine uA ?_
     refine bq rfl (fun hiks => ?_) (fun hiks => ?_)
     ·have hks : i < x.ks.length:=by omega
      have hxs : x.ks[i]? = some x.ks[i]:=by simp [hks]
      have hw : want x i=x.ks[i]:=by rw [want,hxs];rfl
      rw [hw] at hpi hI
      refine uA ?_
      refine qs rfl (bO tab rInt i hs rfl rfl rfl rfl rfl (by first | rfl | omega | (simp only;omega)) rfl hxs ?_)
      rintro b3 i3 v3 hv3 hA3
      obtain rfl : v3=x.ks[i]:=hv3
      (refine oL tab hA3 ?_)
      refine uL ?_
      refine qs rfl (bO tab rTree i h41 rfl rfl rfl rfl rfl (by first | rfl | omega | (simp only;omega)) rfl hxi ?_)
      rintro b4 i4 h' hr4 hA4
      (refine oL tab hA4 ?_)
      refine uA ?_
      refine oC goes78 ((hpi _ _ h' (rTree_iff.1 hr4)).x ?_)
      rintro _ _ _ ⟨rfl,rfl,rfl⟩
      refine uA ?_
      refine bo rfl (fun hpb => ?_) (fun hpb => ?_)
      ·refine uA ?_
       refine bu rfl uS (out (bm _) ?_)
       rw [Bool.not_eq_true'] at hpb
       rw [hfit,htxt,hI,hpb];rfl
      ·refine uA ?_
       refine qs rfl (bK (r':=((i + 1 : Nat) : Int)) rfl rfl rfl rfl rfl rfl rfl (by omega) ?_)
       refine uA ?_
       rw [Bool.not_eq_false'] at hpb
       exact ⟨i + 1,uH,uH,rfl,rfl,uS,⟨by omega,by rw [hI,hpb,aF]⟩,by omega⟩
     ·have hw : want x i=x.rest:=by rw [want,au (by omega)];rfl
      rw [hw] at hpi hI
      refine uL ?_
      refine qs rfl (bO tab rTree i h41 rfl rfl rfl rfl rfl (by first | rfl | omega | (simp only;omega)) rfl hxi ?_)
      rintro b4 i4 h' hr4 hA4
      (refine oL tab hA4 ?_)
      refine uA ?_
      refine oC goes78 ((hpi _ _ h' (rTree_iff.1 hr4)).x ?_)
      rintro _ _ _ ⟨rfl,rfl,rfl⟩
      refine uA ?_
      refine bo rfl (fun hpb => ?_) (fun hpb => ?_)
      ·refine uA ?_
       refine bu rfl uS (out (bm _) ?_)
       rw [Bool.not_eq_true'] at hpb
       rw [hfit,htxt,hI,hpb];rfl
      ·refine uA ?_
       refine qs rfl (bK (r':=((i + 1 : Nat) : Int)) rfl rfl rfl rfl rfl rfl rfl (by omega) ?_)
       refine uA ?_
       rw [Bool.not_eq_false'] at hpb
       exact ⟨i + 1,uH,uH,rfl,rfl,uS,⟨by omega,by rw [hI,hpb,aF]⟩,by omega⟩
    ·refine uA ?_
     refine bu rfl uS (out (bm _) ?_)
     rw [hfit,htxt,hI,show a.kids.drop i=[] from aS (by omega)]
     cases x.ks.drop i <;> rfl
end Go.Sep

