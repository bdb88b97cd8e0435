/-
  Part 10 of the proof: library, walks and plain laws.
-/
import Derived.Test.YthemafgjfddgbaaGreatDoorB9
set_option linter.unusedVariables false
set_option linter.unusedSimpArgs false
set_option maxHeartbeats 6400000
namespace Go.Sep
open Go.Proofs
attribute [local irreducible] TC TO OT TCallX TCall DO DOt thenQ blockQ retQ At
section
variable {mb:Mem} {E:PE} {h:Int}
theorem list1_par {f:FuncId} {first cap all:List Value} {X:Ps.Pp Tree} (hall:fl (first++([]++cap))=some all) (hg:Goes Tryz.prog f) (hX:Par Tryz.prog mb E vTree f all h X) :
  Par Tryz.prog mb E vList 148 [E.v,.func (.func f) ⟨first⟩ ⟨cap⟩] h (Ps.commas E.N X):=by
 refine dm Tryz.func148 rfl 17 rfl fun m L k T hm0 hE hk hT hn=>?_;replace hX:=hX.up hm0;have hrows:=hE.rows;have hm:m≤m:=cB _;obtain⟨j,hj⟩:∃ j,E.N=j+1:=by
  cases hN:E.N with
  | zero=>rw[hN]at hT;exact absurd hT hn
  | succ j=>exact⟨j,rfl⟩
 rw[hj,Ps.commas_start]at hT;refine uA ?_;refine qs rfl (dr (L0:=L) hX hm hT hn hE hk oz hm uS rfl rfl rfl rfl rfl hall hg (fun x m2 a k2 hT hm hE hle hk hr=>?_));refine uA ?_;refine aj (hs:=[x]) (l:=[a]) tab rTree ⟨rTree_iff.2 hr,trivial⟩ uH ov (fun s m3 hle3 hs ho hc=>?_);refine mQ ?_;refine cG (ι:=Sl×Mem×List Tree×Nat×Nat) [0,1] rfl (fun x=>[(5,x.1.v)]) (fun x=>x.2.1) (fun x=>E.I x.2.2.2.1 h::tok x.1 4::L) (fun x=>m≤x.2.1∧E.Ok x.2.1∧x.2.2.2.1≤E.toks.length∧SlRep rTree x.2.1 x.1 x.2.2.1∧Own x.1∧x.2.2.1.length+x.2.2.2.2=j+1∧T=Ps.more x.2.2.2.2 X x.2.2.1 E.f x.2.2.2.1) (fun x=>x.2.2.2.2) (s,m3,[a],k2,j) uH rfl uS ⟨cC hm hle3,hE.mono hle3,hk,hs,ho,by simp only[be,bg];omega,hT⟩ ?_;rintro⟨s,m3,acc,k,j2⟩ ⟨hm,hE,hk,hs,ho,hlen,hT⟩;simp only at hm hE hk hs ho hlen hT;cases j2 with
 | zero =>
  rw[Ps.more_zero]at hT;refine uA ?_;refine qs rfl (dt hT hE hk rfl rfl rfl rfl rfl rfl (fun hT hk=>?_) (fun hT=>?_))
  ·exact absurd hT hn
  ·exact ia
 | succ j2 =>
  rw[Ps.more_succ]at hT;refine uA ?_;refine qs rfl (dt hT hE hk rfl rfl rfl rfl rfl rfl (fun hT hk=>?_) (fun hT=>?_))
  ·refine uA ?_;refine qs rfl (dr (L0:=L) hX hm hT hn hE hk oF hm uS rfl rfl rfl rfl rfl hall hg (fun x m2 a k2 hT hm hE hle hk hr=>?_));refine uA ?_;refine aj (hs:=[x]) (l:=[a]) tab rTree ⟨rTree_iff.2 hr,trivial⟩ uH ov (fun s2 m3 hle3 hs2 ho2 hc2=>?_);refine qs rfl (cS tab rTree 1 (hs.mono (cC hle hle3)) ho hs2 rfl rfl rfl rfl rfl rfl rfl oO (fun s3 m4 hle4 hs3 ho3=>?_));refine uA ?_;exact⟨(s3,m4,acc++[a],k2,j2),uH,uH,rfl,rfl,uS,⟨cC hm (cC hle3 hle4),hE.mono (cC hle3 hle4),hk,hs3,ho3,by simp only[ba,be,bg];omega,hT⟩,by simp only;omega⟩
  ·exact ia
theorem begins_law {m:Mem} {L:List Item} {k:Nat} (hE:E.Ok m) (hk:k≤E.toks.length):TCall Tryz.prog 178 ⟨[E.v]⟩ m (E.I k h::L) (Ret (.bool (Ps.begins E.f k)) m (E.I k h::L)):=by
 unfold TCall Ps.begins;refine ag Tryz.func178 17 ?_;refine au goes147 (is_law 1 hE hk) ?_;cases h1:Ps.isK 1 E.f k with
 | true => 
  refine uA ?_;exact fc
 | false =>
  refine uA ?_;refine au goes144 (peek_law [42] hE hk) ?_;cases h2:Ps.isM [42] E.f k with
  | true => 
   refine uA ?_;exact fc
  | false =>
   refine uA ?_;refine au goes144 (peek_law [91] hE hk) ?_;cases h3:Ps.isM [91] E.f k with
   | true => 
    refine uA ?_;exact fc
   | false =>
    refine uA ?_;refine au goes144 (peek_law [102,117,110,99] hE hk) ?_;refine kh ?_;cases Ps.isM [102,117,110,99] E.f k<;>rfl
theorem results_par {X:Ps.Pp Tree} (hX:Par Tryz.prog mb E vTree 145 [E.v] h X) :
  Par Tryz.prog mb E vSl 150 [E.v] h (Ps.resultsP E.N X):=by
 refine dm Tryz.func150 rfl 18 rfl fun m L k T hm0 hE hk hT hn=>?_;replace hX:=hX.up hm0;have hm:m≤m:=cB _;unfold Ps.resultsP at hT;refine uA ?_;refine qs rfl (dt hT hE hk rfl rfl rfl rfl rfl rfl (fun hT hk=>?_) (fun hT=>?_))
 ·refine uA ?_;refine qs rfl (OT.parL (L0:=L) (list1_par (first:=[E.v]) (cap:=[]) rfl goes145 hX) hm hT hn hE hk oz hm uS rfl rfl rfl rfl rfl rfl goes148 (fun x m2 a k2 hT hm hE hlex hk hrx hox hlx=>?_));exact f0
 ·refine uA ?_;refine au goes178 (begins_law hE hk) ?_;cases hb:Ps.begins E.f k with
  | true =>
   rw[Ps.peek_t' hb]at hT;refine uA ?_;refine qs rfl (dr (L0:=L) (hX) hm hT hn hE hk oz hm uS rfl rfl rfl rfl rfl rfl goes145 (fun x m2 a k2 hT hm hE hlex hk hrx=>?_));refine uA ?_;refine aj (hs:=[x]) (l:=[a]) tab rTree ⟨rTree_iff.2 hrx,trivial⟩ uH ov (fun s m3 hle3 hs ho hc=>?_);refine uA ?_;refine cH rfl (L':=E.I k2 h::L) uS ⟨[a],k2,[],hT,cC hm hle3,hk,⟨s,rfl,rfl,hs,by simp⟩,rfl⟩
  | false =>
   rw[Ps.peek_f' hb]at hT;refine uA ?_;refine cH rfl (L':=E.I k h::L) uS ⟨[],k,[],hT,hm,hk,⟨⟨none,0,0⟩,rfl,rfl,cR _ _,by simp⟩,rfl⟩
end
end Go.Sep
namespace Go.Sep
open Go.Proofs
attribute [local irreducible] TC TO OT TCallX TCall DO DOt thenQ blockQ retQ At
section
variable {mb:Mem} {E:PE} {h:Int}
theorem typ_par {X:Ps.Pp Tree} (hX:Par Tryz.prog mb E vTree 145 [E.v] h X) :
  Par Tryz.prog mb E vTree 145 [E.v] h (Ps.typP E.N X):=by
 refine dm Tryz.func145 rfl 50 rfl fun m L k T hm0 hE hk hT hn=>?_;replace hX:=hX.up hm0;have hm:m≤m:=cB _;unfold Ps.typP at hT;refine uA ?_;refine oA tab (fun b2=>?_);refine cL (bm _ _ _) ?_;refine uA ?_;refine qs rfl (dt hT hE hk rfl rfl rfl rfl rfl rfl (fun hT hk=>?_) (fun hT=>?_))
 ·refine uA ?_;refine qs rfl (dr (L0:=L) (hX) hm hT hn hE hk oF hm uS rfl rfl rfl rfl rfl rfl goes145 (fun x m2 a k2 hT hm hE hlex hk hrx=>?_));refine uA ?_;refine aj (hs:=[x]) (l:=[a]) tab rTree ⟨rTree_iff.2 hrx,trivial⟩ uH ov (fun s m3 hle3 hs ho hc=>?_);refine kx ?_;refine aw (L':=E.I k2 h::L) 1 ⟨_,k2,[],hT,cC hm hle3,hk,⟨⟨11,[],0,s⟩,rfl,rfl,⟨rfl,rfl,rfl,hs⟩⟩,rfl⟩
 refine uA ?_;refine qs rfl (dt hT hE hk rfl rfl rfl rfl rfl rfl (fun hT hk=>?_) (fun hT=>?_))
 ·refine uA ?_;refine qs rfl (OT.needP (L0:=L) hT hE hk oF hm uS rfl rfl rfl rfl rfl rfl (fun hT hk=>?_));refine uA ?_;refine qs rfl (dr (L0:=L) (hX) hm hT hn hE hk oF hm uS rfl rfl rfl rfl rfl rfl goes145 (fun x m2 a k2 hT hm hE hlex hk hrx=>?_));refine uA ?_;refine aj (hs:=[x]) (l:=[a]) tab rTree ⟨rTree_iff.2 hrx,trivial⟩ uH ov (fun s m3 hle3 hs ho hc=>?_);refine kx ?_;refine aw (L':=E.I k2 h::L) 1 ⟨_,k2,[],hT,cC hm hle3,hk,⟨⟨12,[],0,s⟩,rfl,rfl,⟨rfl,rfl,rfl,hs⟩⟩,rfl⟩
 refine uA ?_;refine qs rfl (dt hT hE hk rfl rfl rfl rfl rfl rfl (fun hT hk=>?_) (fun hT=>?_))
 ·refine uA ?_;refine oA tab (fun b3=>?_);refine cL (bm _ _ _) ?_;refine kx ?_;refine qs rfl (OT.needP (L0:=L) hT hE hk oF hm uS rfl rfl rfl rfl rfl rfl (fun hT hk=>?_));unfold Ps.inP at hT;simp only[Ps.tok_bind,Ps.ret_bind,Ps.bind_assoc,Ps.need_bind]at hT;refine ot ?_;refine TC.cut (ι:=Sl×Mem×List Tree×Nat) [0,2,3] rfl (fun _=>[]) (fun i=>i.2.1) (fun i=>E.I i.2.2.2 h::.cells b3 0 [.int .i64 13,strV [],.int .i64 0,i.1.v]::tok i.1 4::.cells b2 0 [.int .i64 0,strV [],.int .i64 0,.slice none 0 0]::L) (fun i=>m≤i.2.1∧E.Ok i.2.1∧i.2.2.2≤E.toks.length∧SlRep rTree i.2.1 i.1 i.2.2.1∧Own i.1∧i.2.2.1.length≤20001∧T=(Ps.bind (Ps.resultsP E.N X) fun rs=>Ps.ret (Tree.mk 13 [] (i.2.2.1.length:Int) (i.2.2.1++rs))) E.f i.2.2.2) ?_ ?_
  ·refine uA ?_;refine qs rfl (dt hT hE hk rfl rfl rfl rfl rfl rfl (fun hT hk=>?_) (fun hT=>?_))
   ·refine TO.grow0 (size:=4) ?_;refine aN (L':=E.I (k+1+1+1) h::.cells b3 0 [.int .i64 13,strV [],.int .i64 0,.slice none 0 0]::tok ⟨none,0,0⟩ 4::.cells b2 0 [.int .i64 0,strV [],.int .i64 0,.slice none 0 0]::L) (bo (bm _ _ _) (br _ (bm _ _ _))) ?_;exact⟨(⟨none,0,0⟩,m,[],k+1+1+1),uH,uH,rfl,rfl,uS,hm,hE,hk,cR _ _,cX,by simp,hT⟩
   ·refine uA ?_;refine qs rfl (OT.parL (L0:=L) (list1_par (first:=[E.v]) (cap:=[]) rfl goes145 hX) hm hT hn hE hk oF hm uS rfl rfl rfl rfl rfl rfl goes148 (fun x m2 a k2 hT hm hE hlex hk hrx hox hlx=>?_));refine aN (L':=E.I k2 h::.cells b3 0 [.int .i64 13,strV [],.int .i64 0,.slice none 0 0]::tok x 4::.cells b2 0 [.int .i64 0,strV [],.int .i64 0,.slice none 0 0]::L) (br _ (bm _ _ _)) ?_;refine am (k:=3) 1 ?_;refine qs rfl (OT.needP (L0:=L) hT hE hk oF hm uS rfl rfl rfl rfl rfl rfl (fun hT hk=>?_));refine uA ?_;exact⟨(x,m2,a,k2+1),uH,uH,rfl,rfl,uS,hm,hE,hk,hrx,hox,hlx,hT⟩
  ·rintro⟨s,m1,l,k1⟩ ⟨hm,hE,hk,hs,ho,hl,hT⟩;simp only at hm hE hk hs ho hl hT;have hsl:=hs.len;refine kA ?_;refine am (k:=2) 1 ?_;refine aO [6] dc 7 [.cells b3 0 [.int .i64 13,strV [],.int .i64 (s.len:Int),s.v]] (E.I k1 h::tok s 4::.cells b2 0 [.int .i64 0,strV [],.int .i64 0,.slice none 0 0]::L) (bm _ _ _) ?_;refine kB ?_;refine cY (bm _ _ _) (OT.parS (L0:=L) (results_par hX) hm hT hn hE hk oF hm uS rfl rfl rfl rfl rfl rfl goes150 (fun x m2 a k2 hT hm hE hle hk hr hla=>?_));refine⟨hle,E.I k2 h::tok s 4::.cells b2 0 [.int .i64 0,strV [],.int .i64 0,.slice none 0 0]::L,bm _ _ _,?_⟩;refine af 4 ?_;refine cS tab rTree 2 (hs.mono hle) ho hr rfl rfl rfl rfl rfl rfl rfl qu (fun s3 m4 hle4 hs3 ho3=>?_);refine⟨hle4,E.I k2 h::tok s3 4::.cells b2 0 [.int .i64 0,strV [],.int .i64 0,.slice none 0 0]::L,bj _,?_⟩;refine ol ?_;refine ar (k:=3) 0 ?_;refine aL ?_
   rotate_left 1
   refine nF ?_;refine retQ_ret_c1 tab 3 rfl rfl rfl rfl (L':=E.I k2 h::L) uS ⟨_,k2,[],hT,cC hm hle4,hk,⟨⟨13,[],(s.len:Int),s3⟩,rfl,rfl,⟨rfl,rfl,by show(s.len:Int)=_;rw[hsl];rfl,hs3⟩⟩,rfl⟩
 ·refine uA ?_;refine qs rfl (OT.nameP (L0:=L) hT hE hk oz hm uS rfl rfl rfl rfl rfl rfl (fun t hT hk=>?_));refine kx ?_;refine aw (L':=E.I (k+1) h::L) 1 ⟨_,k+1,[],hT,hm,hk,⟨⟨10,t,0,⟨none,0,0⟩⟩,rfl,rfl,⟨rfl,rfl,rfl,cR _ _⟩⟩,rfl⟩
end
end Go.Sep
namespace Go.Sep
open Go.Proofs
attribute [local irreducible] TC TO OT TCallX TCall DO DOt thenQ blockQ retQ At
section
variable {mb:Mem} {E:PE} {h:Int}
theorem param_par {X:Ps.Pp Tree} (hX:Par Tryz.prog mb E vTree 145 [E.v] h X) (b1:Nat) (hA:At mb b1 0 [E.v]) :
  Par Tryz.prog mb E vTree 149 [.pointer (some ⟨b1,0,none⟩)] h (Ps.paramP X):=by
 refine dm Tryz.func149 rfl 10 rfl fun m L k T hm0 hE hk hT hn=>?_;replace hX:=hX.up hm0;replace hA:=hA.mono hm0;have hm:m≤m:=cB _;unfold Ps.paramP at hT;refine uA ?_;refine oA tab (fun b2=>?_);refine cL (bm _ _ _) ?_;refine kJ ?_;refine qs rfl (OT.nameP (L0:=L) hT hE hk oz hm uS rfl rfl rfl rfl rfl rfl (fun t hT hk=>?_));refine kJ ?_;refine qs rfl (dr (L0:=L) (hX) hm hT hn hE hk oz hm uS rfl rfl rfl rfl rfl rfl goes145 (fun x m2 a k2 hT hm hE hlex hk hrx=>?_));refine uA ?_;refine aj (hs:=[x]) (l:=[a]) tab rTree ⟨rTree_iff.2 hrx,trivial⟩ uH ov (fun s m3 hle3 hs ho hc=>?_);refine kx ?_;refine aw (L':=E.I k2 h::L) 1 ⟨_,k2,[],hT,cC hm hle3,hk,⟨⟨8,t,0,s⟩,rfl,rfl,⟨rfl,rfl,rfl,hs⟩⟩,rfl⟩
theorem psig_par {X:Ps.Pp Tree} (hX:Par Tryz.prog mb E vTree 145 [E.v] h X) :
  Par Tryz.prog mb E vTree 113 [E.v] h (Ps.sigP E.N X):=by
 refine dm Tryz.func113 rfl 27 rfl fun m L k T hm0 hE hk hT hn=>?_;unfold Ps.sigP Ps.sigLike at hT;refine uA ?_;refine oB (fun b1=>?_);refine cV fun m1 hle1 hA=>?_;replace hm:m≤m1:=hle1;replace hE:=hE.mono hle1;replace hX:=hX.up (cC hm0 hle1);refine uA ?_;refine oA tab (fun b2=>?_);refine cL (bm _ _ _) ?_;refine uA ?_;refine oA tab (fun b3=>?_);refine cL (bm _ _ _) ?_;refine kx ?_;refine lg ?_;refine qs rfl (OT.needP (L0:=L) hT hE hk oz hm uS rfl rfl rfl rfl rfl rfl (fun hT hk=>?_));unfold Ps.inP at hT;simp only[Ps.tok_bind,Ps.ret_bind,Ps.bind_assoc,Ps.need_bind]at hT;refine ot ?_;refine TC.cut (ι:=Sl×Mem×List Tree×Nat) [1,2,3] rfl (fun _=>[]) (fun i=>i.2.1) (fun i=>E.I i.2.2.2 h::.cells b3 0 [.int .i64 7,strV [],.int .i64 0,i.1.v]::tok i.1 4::.cells b2 0 [.int .i64 0,strV [],.int .i64 0,.slice none 0 0]::L) (fun i=>m1≤i.2.1∧E.Ok i.2.1∧i.2.2.2≤E.toks.length∧SlRep rTree i.2.1 i.1 i.2.2.1∧Own i.1∧i.2.2.1.length≤20001∧T=(Ps.bind (Ps.resultsP E.N X) fun rs=>Ps.ret (Tree.mk 7 [] (i.2.2.1.length:Int) (i.2.2.1++rs))) E.f i.2.2.2) ?_ ?_
 ·refine uA ?_;refine lg ?_;refine qs rfl (dt hT hE hk rfl rfl rfl rfl rfl rfl (fun hT hk=>?_) (fun hT=>?_))
  ·refine TO.grow0 (size:=4) ?_;refine aN (L':=E.I (k+1+1) h::.cells b3 0 [.int .i64 7,strV [],.int .i64 0,.slice none 0 0]::tok ⟨none,0,0⟩ 4::.cells b2 0 [.int .i64 0,strV [],.int .i64 0,.slice none 0 0]::L) (bo (bm _ _ _) (br _ (bm _ _ _))) ?_;exact⟨(⟨none,0,0⟩,m1,[],k+1+1),uH,uH,rfl,rfl,uS,cB _,hE,hk,cR _ _,cX,by simp,hT⟩
  ·refine uA ?_;refine lg ?_;refine qs rfl (OT.parL (L0:=L) (list1_par (first:=[]) (cap:=[.pointer (some ⟨b1,0,none⟩)]) rfl goes149 (param_par hX b1 hA)) (cB _) hT hn hE hk oz hm uS rfl rfl rfl rfl rfl rfl goes148 (fun x m2 a k2 hT hm hE hle2 hk hrx hox hlx=>?_));refine aN (L':=E.I k2 h::.cells b3 0 [.int .i64 7,strV [],.int .i64 0,.slice none 0 0]::tok x 4::.cells b2 0 [.int .i64 0,strV [],.int .i64 0,.slice none 0 0]::L) (br _ (bm _ _ _)) ?_;refine am (k:=3) 1 ?_;have hA2:=hA.mono hle2;refine an tab hA2 ?_;refine qs rfl (OT.needP (L0:=L) hT hE hk oz hm uS rfl rfl rfl rfl rfl rfl (fun hT hk=>?_));refine uA ?_;exact⟨(x,m2,a,k2+1),uH,uH,rfl,rfl,uS,hle2,hE,hk,hrx,hox,hlx,hT⟩
 ·rintro⟨s,m2,l,k1⟩ ⟨hm12,hE,hk,hs,ho,hl,hT⟩;simp only at hm12 hE hk hs ho hl hT;have hsl:=hs.len;replace hA:=hA.mono hm12;replace hX:=hX.up hm12;replace hm:m≤m2:=cC hm hm12;refine kA ?_;refine am (k:=2) 1 ?_;refine aO [6] dc 7 [.cells b3 0 [.int .i64 7,strV [],.int .i64 (s.len:Int),s.v]] (E.I k1 h::tok s 4::.cells b2 0 [.int .i64 0,strV [],.int .i64 0,.slice none 0 0]::L) (bm _ _ _) ?_;refine lT ?_;refine ae 1 0 ?_;refine ak (k:=0) 2 hA ?_;refine af 3 ?_;refine cY (bm _ _ _) (OT.parS (L0:=L) (results_par hX) (cB _) hT hn hE hk oz hm uS rfl rfl rfl rfl rfl rfl goes150 (fun x m3 a k2 hT hm hE hle hk hr hla=>?_));refine⟨hle,E.I k2 h::tok s 4::.cells b2 0 [.int .i64 0,strV [],.int .i64 0,.slice none 0 0]::L,bm _ _ _,?_⟩;refine af 4 ?_;refine cS tab rTree 2 (hs.mono hle) ho hr rfl rfl rfl rfl rfl rfl rfl qu (fun s3 m4 hle4 hs3 ho3=>?_);refine⟨hle4,E.I k2 h::tok s3 4::.cells b2 0 [.int .i64 0,strV [],.int .i64 0,.slice none 0 0]::L,bj _,?_⟩;refine ol ?_;refine ar (k:=3) 0 ?_;refine aL ?_
  rotate_left 1
  refine nF ?_;refine retQ_ret_c1 tab 3 rfl rfl rfl rfl (L':=E.I k2 h::L) uS ⟨_,k2,[],hT,cC hm hle4,hk,⟨⟨7,[],(s.len:Int),s3⟩,rfl,rfl,⟨rfl,rfl,by show(s.len:Int)=_;rw[hsl];rfl,hs3⟩⟩,rfl⟩
end
end Go.Sep
namespace Go.Sep
open Go.Proofs
attribute [local irreducible] TC TO OT TCallX TCall DO DOt thenQ blockQ retQ At
section
variable {mb:Mem} {E:PE} {h:Int}
theorem block_par {X:Ps.Pp Tree} (hX:Par Tryz.prog mb E vTree 151 [E.v] 0 X) :
  Par Tryz.prog mb E vTree 114 [E.v] h (Ps.blockP E.N X):=by
 refine dm Tryz.func114 rfl 30 rfl fun m L k T hm0 hE hk hT hn=>?_;replace hX:=hX.up hm0;have hm:m≤m:=cB _;have hrows:=hE.rows;unfold Ps.blockP at hT;rw[Ps.rest_start]at hT;refine uA ?_;refine oA tab (fun b2=>?_);refine cL (bm _ _ _) ?_;refine kA ?_;refine oc ?_;refine qs rfl (OT.needP (L0:=L) hT hE hk (by repeat (first | exact dn | refine dp ?_ | refine dq ?_)) hm uS rfl rfl rfl rfl rfl rfl (fun hT hk=>?_));refine uA ?_;refine oA tab (fun b4=>?_);refine cL (bm _ _ _) ?_;refine lW ?_;refine TO.grow0 (size:=4) ?_;refine aN (L':=E.I (k+1) 0::.cells b4 0 [.int .i64 20,strV [],.int .i64 0,.slice none 0 0]::tok ⟨none,0,0⟩ 4::.cells b2 0 [.int .i64 0,strV [],.int .i64 0,.slice none 0 0]::L) (bo (bm _ _ _) (br _ (bm _ _ _))) ?_;refine cG (ι:=Sl×Mem×List Tree×Nat×Nat) [0,2,3,4] rfl (fun x=>[]) (fun x=>x.2.1) (fun x=>E.I x.2.2.2.1 0::.cells b4 0 [.int .i64 20,strV [],.int .i64 0,x.1.v]::tok x.1 4::.cells b2 0 [.int .i64 0,strV [],.int .i64 0,.slice none 0 0]::L) (fun x=>m≤x.2.1∧E.Ok x.2.1∧x.2.2.2.1≤E.toks.length∧SlRep rTree x.2.1 x.1 x.2.2.1∧Own x.1∧x.2.2.1.length+x.2.2.2.2=E.N∧T=Ps.bind (Ps.rest x.2.2.2.2 [125] X x.2.2.1) (fun l=>Ps.ret (.mk 20 [] 0 l)) E.f x.2.2.2.1) (fun x=>x.2.2.2.2) (⟨none,0,0⟩,m,[],k+1,E.N) uH rfl uS ⟨hm,hE,hk,cR _ _,cX,by simp,hT⟩ ?_;rintro⟨s,m1,acc,k,j⟩ ⟨hm,hE,hk,hs,ho,hlen,hT⟩;simp only at hm hE hk hs ho hlen hT;cases j with
 | zero=>rw[Ps.rest_zero,Ps.dry_bind]at hT;exact absurd hT hn
 | succ j =>
  rw[Ps.rest_succ,Ps.tok_bind,Ps.bind_assoc,Ps.ret_bind]at hT;refine uA ?_;refine qs rfl (dt hT hE hk rfl rfl rfl rfl rfl rfl (fun hT hk=>?_) (fun hT=>?_))
  ·refine uA ?_;refine oc ?_;refine ly ?_;refine av 3 ?_;refine aw (L':=E.I (k+1) h::L) 3 ⟨_,k+1,[],hT,hm,hk,⟨⟨20,[],0,s⟩,rfl,rfl,⟨rfl,rfl,rfl,hs⟩⟩,rfl⟩
  ·refine uA ?_;refine aO [7] dc 8 [.cells b4 0 [.int .i64 20,strV [],.int .i64 0,s.v]] (E.I k 0::tok s 4::.cells b2 0 [.int .i64 0,strV [],.int .i64 0,.slice none 0 0]::L) (bm _ _ _) ?_;refine lT ?_
   (first | refine DO.loadL tab 1 0 uC uK uK rfl rfl rfl rfl rfl rfl rfl rfl ?_ | refine DO.loadL tab 1 1 uC uK uK rfl rfl rfl rfl rfl rfl rfl rfl ?_ | refine DO.loadL tab 1 2 uC uK uK rfl rfl rfl rfl rfl rfl rfl rfl ?_ | refine DO.loadL tab 1 3 uC uK uK rfl rfl rfl rfl rfl rfl rfl rfl ?_ | refine DO.loadL tab 1 4 uC uK uK rfl rfl rfl rfl rfl rfl rfl rfl ?_ | refine DO.loadL tab 1 5 uC uK uK rfl rfl rfl rfl rfl rfl rfl rfl ?_ | refine DO.loadL (k:=0) tab 1 0 uC uK uK rfl rfl rfl rfl rfl rfl rfl rfl ?_ | refine DO.loadL (k:=0) tab 1 1 uC uK uK rfl rfl rfl rfl rfl rfl rfl rfl ?_ | refine DO.loadL (k:=0) tab 1 2 uC uK uK rfl rfl rfl rfl rfl rfl rfl rfl ?_ | refine DO.loadL (k:=0) tab 1 3 uC uK uK rfl rfl rfl rfl rfl rfl rfl rfl ?_ | refine DO.loadL (k:=0) tab 1 4 uC uK uK rfl rfl rfl rfl rfl rfl rfl rfl ?_ | refine DO.loadL (k:=0) tab 1 5 uC uK uK rfl rfl rfl rfl rfl rfl rfl rfl ?_)
   refine cT tab uC uK [2] uK rfl ?_;refine af 3 ?_;refine cY (bm _ _ _) (dr (L0:=L) (hX) hm hT hn hE hk (by repeat (first | exact dn | refine dp ?_ | refine dq ?_)) hm uS rfl rfl rfl rfl rfl rfl goes151 (fun x mA a k2 hT hm hE hleA hk hr=>?_));refine⟨hleA,E.I k2 0::tok s 4::.cells b2 0 [.int .i64 0,strV [],.int .i64 0,.slice none 0 0]::L,bm _ _ _,?_⟩;exact el
end
end Go.Sep
namespace Go.Sep
open Go.Proofs
attribute [local irreducible] TC TO OT TCallX TCall DO DOt thenQ blockQ retQ At
section
variable {mb:Mem} {E:PE} {h:Int}
theorem typeDecl_par {X:Ps.Pp Tree} (hX:Par Tryz.prog mb E vTree 145 [E.v] h X) :
  Par Tryz.prog mb E vTree 110 [E.v] h (Ps.typeDeclP E.N X):=by
 refine dm Tryz.func110 rfl 38 rfl fun m L k T hm0 hE hk hT hn=>?_;replace hX:=hX.up hm0;have hm:m≤m:=cB _;have hrows:=hE.rows;unfold Ps.typeDeclP at hT;refine uA ?_;refine oA tab (fun b2=>?_);refine cL (bm _ _ _) ?_;refine uA ?_;refine qs rfl (OT.nameP (L0:=L) hT hE hk oz hm uS rfl rfl rfl rfl rfl rfl (fun nm hT hk=>?_));refine uA ?_;refine oA tab (fun b3=>?_);refine cL (bm _ _ _) ?_;refine lW ?_;refine lA ?_;refine TC.region ?_
 repeat (refine TO.pureP tab rfl rfl ?_)
 refine ot ?_;refine TC.cut (ι:=Int×FuncId×Ps.Pp Tree×Nat) [0,2,3] rfl (fun i=>[(4,.func (.func i.2.1) ⟨[E.v]⟩ ⟨[]⟩)]) (fun i=>m) (fun i=>E.I i.2.2.2 h::.cells b3 0 [.int .i64 i.1,strV nm,.int .i64 0,.slice none 0 0]::.cells b2 0 [.int .i64 0,strV [],.int .i64 0,.slice none 0 0]::L) (fun i=>i.2.2.2≤E.toks.length∧Goes Tryz.prog i.2.1∧Par Tryz.prog m E vTree i.2.1 [E.v] h i.2.2.1∧T=Ps.bodyP E.N i.1 nm i.2.2.1 E.f i.2.2.2) ?_ ?_
 ·refine uA ?_;refine qs rfl (dt hT hE hk rfl rfl rfl rfl rfl rfl (fun hT hk=>?_) (fun hT=>?_))
  ·refine uA ?_;refine av 1 ?_;exact⟨(3,113,Ps.sigP E.N X,k+1+1),uH,uH,rfl,rfl,uS,hk,goes113,psig_par hX,hT⟩
  ·refine uA ?_;refine qs rfl (OT.needP (L0:=L) hT hE hk oz hm uS rfl rfl rfl rfl rfl rfl (fun hT hk=>?_));refine uA ?_;exact⟨(2,145,X,k+1+1),uH,uH,rfl,rfl,uS,hk,goes145,hX,hT⟩
 rintro⟨kd,ff,Y,k⟩ ⟨hk,hgo,hY,hT⟩;simp only at hk hgo hY hT;unfold Ps.bodyP at hT;rw[Ps.rest_start]at hT;refine uA ?_;refine qs rfl (OT.needP (L0:=L) hT hE hk oz hm uS rfl rfl rfl rfl rfl rfl (fun hT hk=>?_));refine TO.grow0 (size:=4) ?_;refine aN (L':=E.I (k+1) h::.cells b3 0 [.int .i64 kd,strV nm,.int .i64 0,.slice none 0 0]::tok ⟨none,0,0⟩ 4::.cells b2 0 [.int .i64 0,strV [],.int .i64 0,.slice none 0 0]::L) (bo (bm _ _ _) (br _ (bm _ _ _))) ?_;refine cG (ι:=Sl×Mem×List Tree×Nat×Nat) [0,2,3,4] rfl (fun x=>[]) (fun x=>x.2.1) (fun x=>E.I x.2.2.2.1 h::.cells b3 0 [.int .i64 kd,strV nm,.int .i64 0,x.1.v]::tok x.1 4::.cells b2 0 [.int .i64 0,strV [],.int .i64 0,.slice none 0 0]::L) (fun x=>m≤x.2.1∧E.Ok x.2.1∧x.2.2.2.1≤E.toks.length∧SlRep rTree x.2.1 x.1 x.2.2.1∧Own x.1∧x.2.2.1.length+x.2.2.2.2=E.N∧T=Ps.bind (Ps.rest x.2.2.2.2 [125] (Ps.fieldP Y) x.2.2.1) (fun l=>Ps.ret (.mk kd nm 0 l)) E.f x.2.2.2.1) (fun x=>x.2.2.2.2) (⟨none,0,0⟩,m,[],k+1,E.N) uH rfl uS ⟨hm,hE,hk,cR _ _,cX,by simp,hT⟩ ?_;rintro⟨s,m1,acc,k,j⟩ ⟨hm,hE,hk,hs,ho,hlen,hT⟩;simp only at hm hE hk hs ho hlen hT;cases j with
 | zero=>rw[Ps.rest_zero,Ps.dry_bind]at hT;exact absurd hT hn
 | succ j =>
  rw[Ps.rest_succ,Ps.tok_bind,Ps.bind_assoc,Ps.ret_bind]at hT;refine uA ?_;refine qs rfl (dt hT hE hk rfl rfl rfl rfl rfl rfl (fun hT hk=>?_) (fun hT=>?_))
  ·refine uA ?_;refine ly ?_;refine av 3 ?_;refine aw (L':=E.I (k+1) h::L) 3 ⟨_,k+1,[],hT,hm,hk,⟨⟨kd,nm,0,s⟩,rfl,rfl,⟨rfl,rfl,rfl,hs⟩⟩,rfl⟩
  ·unfold Ps.fieldP at hT;simp only[Ps.name_bind,Ps.bind_assoc,Ps.need_bind,Ps.ret_bind]at hT;refine uA ?_;refine qs rfl (OT.nameP (L0:=L) hT hE hk oF hm uS rfl rfl rfl rfl rfl rfl (fun t hT hk=>?_));refine uA ?_;refine aO [10] dc 11 [.cells b3 0 [.int .i64 kd,strV nm,.int .i64 0,s.v]] (E.I (k+1) h::tok s 4::.cells b2 0 [.int .i64 0,strV [],.int .i64 0,.slice none 0 0]::L) (bm _ _ _) ?_;refine lT ?_;refine ae 1 0 ?_;refine cT tab uC uK [2,3] uK rfl ?_;refine af 4 ?_;refine cY (bm _ _ _) (dr (L0:=L) hY hm hT hn hE hk oF hm uS rfl rfl rfl rfl rfl rfl hgo (fun x m3 a k2 hT hm hE hle hk hr=>?_));refine⟨hle,E.I k2 h::tok s 4::.cells b2 0 [.int .i64 0,strV [],.int .i64 0,.slice none 0 0]::L,bm _ _ _,?_⟩;refine af 5 ?_;refine db tab rTree (hs:=[x]) (l:=[a]) ⟨rTree_iff.2 hr,trivial⟩ rfl rfl rfl rfl rfl ov (fun s2 m4 hle2 hs2 ho2 hc2=>?_);refine⟨hle2,_,bj _,?_⟩;refine nY ?_;refine af 7 ?_;refine db tab rTree (hs:=[⟨6,t,0,s2⟩]) (l:=[.mk 6 t 0 [a]]) ⟨rTree_iff.2 ⟨rfl,rfl,rfl,hs2⟩,trivial⟩ rfl rfl rfl rfl rfl ov (fun s3 m5 hle3 hs3 ho3 hc3=>?_);refine⟨hle3,_,bj _,?_⟩;refine af 8 ?_;refine cS tab rTree 2 (hs.mono (cC hle (cC hle2 hle3))) ho hs3 rfl rfl rfl rfl rfl rfl rfl oO (fun s4 m6 hle6 hs4 ho4=>?_);refine⟨hle6,E.I k2 h::tok s4 4::.cells b2 0 [.int .i64 0,strV [],.int .i64 0,.slice none 0 0]::L,bj _,?_⟩;refine cT tab uC uK [9] uK rfl ?_;refine cU ?_;refine aC 10 ?_;refine cN (k:=3) tab 0 rfl rfl rfl rfl rfl rfl rfl rfl ?_;refine DOt.perm (bm _ _ _) ?_;refine aL ?_
   rotate_left 1
   replace hm:=cC hm (cC hle2 (cC hle3 hle6));replace hE:=hE.mono (cC hle2 (cC hle3 hle6));refine uA ?_;refine qs rfl (OT.needP (L0:=L) hT hE hk oF hm uS rfl rfl rfl rfl rfl rfl (fun hT hk=>?_));refine uA ?_;exact⟨(s4,m6,acc++[Tree.mk 6 t 0 [a]],k2+1,j),uH,uH,rfl,rfl,uS,⟨hm,hE,hk,hs4,ho4,by simp only[ba,be,bg];omega,hT⟩,by simp only;omega⟩
theorem decl_par {X Y:Ps.Pp Tree} (hX:Par Tryz.prog mb E vTree 145 [E.v] h X) (hY:Par Tryz.prog mb E vTree 114 [E.v] h Y) :
  Par Tryz.prog mb E vTree 57 [E.v] h (Ps.declP E.N X Y):=by
 refine dm Tryz.func57 rfl 49 rfl fun m L k T hm0 hE hk hT hn=>?_;replace hX:=hX.up hm0;replace hY:=hY.up hm0;have hm:m≤m:=cB _;unfold Ps.declP at hT;refine uA ?_;refine oA tab (fun b2=>?_);refine cL (bm _ _ _) ?_;refine uA ?_;refine qs rfl (dt hT hE hk rfl rfl rfl rfl rfl rfl (fun hT hk=>?_) (fun hT=>?_))
 ·refine uA ?_;rw[←Ps.bind_ret (Ps.typeDeclP E.N X)]at hT;refine qs rfl (dr (L0:=L) (typeDecl_par hX) hm hT hn hE hk oz hm uS rfl rfl rfl rfl rfl rfl goes110 (fun x m2 a k2 hT hm hE hlex hk hrx=>?_));exact fu
 refine uA ?_;refine qs rfl (OT.needP (L0:=L) hT hE hk oz hm uS rfl rfl rfl rfl rfl rfl (fun hT hk=>?_));refine uA ?_;refine qs rfl (dt hT hE hk rfl rfl rfl rfl rfl rfl (fun hT hk=>?_) (fun hT=>?_))
 ·refine uA ?_;refine qs rfl (OT.nameP (L0:=L) hT hE hk oz hm uS rfl rfl rfl rfl rfl rfl (fun recv hT hk=>?_));refine uA ?_;refine qs rfl (OT.needP (L0:=L) hT hE hk oz hm uS rfl rfl rfl rfl rfl rfl (fun hT hk=>?_));refine uA ?_;refine qs rfl (OT.nameP (L0:=L) hT hE hk oz hm uS rfl rfl rfl rfl rfl rfl (fun of hT hk=>?_));refine uA ?_;refine aj (hs:=[⟨10,of,0,⟨none,0,0⟩⟩]) (l:=[Ps.leaf 10 of]) tab rTree ⟨rTree_iff.2 ⟨rfl,rfl,rfl,cR _ _⟩,trivial⟩ uH ov (fun s m2 hle hs ho hc=>?_);replace hm:=hle;replace hE:=hE.mono hle;refine uA ?_;refine oA tab (fun b5=>?_);refine cL (bm _ _ _) ?_;refine kx ?_;refine qs rfl (OT.needP (L0:=L) hT hE hk oz hm uS rfl rfl rfl rfl rfl rfl (fun hT hk=>?_));refine uA ?_;refine qs rfl (OT.nameP (L0:=L) hT hE hk oz hm uS rfl rfl rfl rfl rfl rfl (fun nm hT hk=>?_));refine uA ?_;refine aO [11] dc 12 [.cells b5 0 [.int .i64 11,strV [],.int .i64 0,s.v],.cells b2 0 [.int .i64 0,strV [],.int .i64 0,.slice none 0 0]] (E.I (k+1+1+1+1+1+1+1) h::L) (bo (bm _ _ _) (br _ (bm _ _ _))) ?_;refine cT tab uC uK [0,1,5,7] uK rfl ?_;refine ae (k:=0) 2 0 ?_;refine a8 3 [6] ⟨⟨_,rfl,rfl,rfl,?_⟩,⟨_,rfl,rfl,rfl,?_⟩,trivial⟩
  ·skip;refine aR (hs:=[⟨11,[],0,s⟩]) (l:=[.mk 11 [] 0 [Ps.leaf 10 of]]) tab rTree ⟨rTree_iff.2 ⟨rfl,rfl,rfl,hs⟩,trivial⟩ uH ov (fun s1 m1 hle1 hs1 ho1 hc1=>?_);replace hm:=cC hm hle1;replace hE:=hE.mono hle1;refine nt ?_;refine af 6 ?_;refine cY List.perm_middle (dr (L0:=L) (psig_par hX) hm hT hn hE hk oz hm uS rfl rfl rfl rfl rfl rfl goes113 (fun x m3 a k2 hT hm hE hle2 hk hrx=>?_));refine⟨hle2,E.I k2 h::L,cZ (l:=[_,_]),?_⟩;refine af 8 ?_;refine cY List.perm_middle (dr (L0:=L) hY hm hT hn hE hk oz hm uS rfl rfl rfl rfl rfl rfl goes114 (fun y m4 b k3 hT hm hE hle3 hk hry=>?_));refine⟨hle3,E.I k3 h::L,cZ (l:=[_,_]),?_⟩;have hz1:=hrx.mono hle3;have hz2:=hry;have hz3:=hs1.mono (cC hle2 hle3);exact d7
  ·skip;refine cY List.perm_middle (dr (L0:=L) (psig_par hX) hm hT hn hE hk oz hm uS rfl rfl rfl rfl rfl rfl goes113 (fun x m3 a k2 hT hm hE hle2 hk hrx=>?_));refine⟨hle2,E.I k2 h::L,cZ (l:=[_,_]),?_⟩;refine a8 3 [8] ⟨⟨_,rfl,rfl,rfl,?_⟩,⟨_,rfl,rfl,rfl,?_⟩,trivial⟩
   ·skip;refine aR (hs:=[⟨11,[],0,s⟩]) (l:=[.mk 11 [] 0 [Ps.leaf 10 of]]) tab rTree ⟨rTree_iff.2 ⟨rfl,rfl,rfl,(hs.mono hle2)⟩,trivial⟩ uH ov (fun s1 m1 hle1 hs1 ho1 hc1=>?_);replace hm:=cC hm hle1;replace hE:=hE.mono hle1;refine nt ?_;refine af 8 ?_;refine cY List.perm_middle (dr (L0:=L) hY hm hT hn hE hk oz hm uS rfl rfl rfl rfl rfl rfl goes114 (fun y m4 b k3 hT hm hE hle3 hk hry=>?_));refine⟨hle3,E.I k3 h::L,cZ (l:=[_,_]),?_⟩;have hz1:=hrx.mono (cC hle1 hle3);have hz2:=hry;have hz3:=hs1.mono hle3;exact d7
   ·skip;refine cY List.perm_middle (dr (L0:=L) hY hm hT hn hE hk oz hm uS rfl rfl rfl rfl rfl rfl goes114 (fun y m4 b k3 hT hm hE hle3 hk hry=>?_));refine⟨hle3,E.I k3 h::L,cZ (l:=[_,_]),?_⟩;refine af 3 ?_;refine aR (hs:=[⟨11,[],0,s⟩]) (l:=[.mk 11 [] 0 [Ps.leaf 10 of]]) tab rTree ⟨rTree_iff.2 ⟨rfl,rfl,rfl,(hs.mono (cC hle2 hle3))⟩,trivial⟩ uH ov (fun s1 m1 hle1 hs1 ho1 hc1=>?_);replace hm:=cC hm hle1;replace hE:=hE.mono hle1;refine nt ?_;have hz1:=hrx.mono (cC hle3 hle1);have hz2:=hry.mono hle1;have hz3:=hs1;exact d7
 ·refine uA ?_;refine qs rfl (OT.nameP (L0:=L) hT hE hk oz hm uS rfl rfl rfl rfl rfl rfl (fun nm hT hk=>?_));refine uA ?_;refine qs rfl (dr (L0:=L) (psig_par hX) hm hT hn hE hk oz hm uS rfl rfl rfl rfl rfl rfl goes113 (fun x m2 a k2 hT hm hE hlex hk hrx=>?_));refine uA ?_;refine qs rfl (dr (L0:=L) (hY) hm hT hn hE hk oz hm uS rfl rfl rfl rfl rfl rfl goes114 (fun y m3 b k3 hT hm hE hley hk hry=>?_));refine uA ?_;refine aj (hs:=[x,y]) (l:=[a,b]) tab rTree ⟨rTree_iff.2 (hrx.mono hley),rTree_iff.2 hry,trivial⟩ uH ov (fun s m4 hle hs ho hc=>?_);refine kx ?_;refine aw (L':=E.I k3 h::L) 1 ⟨_,k3,[],hT,cC hm hle,hk,⟨⟨4,nm,0,s⟩,rfl,rfl,⟨rfl,rfl,rfl,hs⟩⟩,rfl⟩
end
end Go.Sep
namespace Go.Sep
open Go.Proofs
attribute [local irreducible] TC TO OT TCallX TCall DO DOt thenQ blockQ retQ At
section
variable {mb:Mem} {E:PE}
theorem cond_par {X:Ps.Pp Tree} (hX:Par Tryz.prog mb E vTree 199 [E.v] 1 X) :
  Par Tryz.prog mb E vTree 180 [E.v] 0 X:=by
 refine dm Tryz.func180 rfl 13 rfl fun m L k T hm0 hE hk hT hn=>?_;replace hX:=hX.up hm0;have hm:m≤m:=cB _;rw[←Ps.bind_ret X]at hT;refine uA ?_;refine oA tab (fun b2=>?_);refine cL (bm _ _ _) ?_;refine uA ?_;refine oc ?_;refine qs rfl (dr (L0:=L) (hX) hm hT hn hE hk oz hm uS rfl rfl rfl rfl rfl rfl goes199 (fun x m2 a k2 hT hm hE hlex hk hrx=>?_));refine uA ?_;refine oA tab (fun b3=>?_);refine cL (bm _ _ _) ?_;refine kx ?_;refine oc ?_;refine ly ?_;refine av 2 ?_;refine aw (L':=E.I k2 0::L) 2 ⟨_,k2,[],hT,hm,hk,⟨x,rfl,rfl,hrx⟩,rfl⟩
theorem branch_par {X Y Z:Ps.Pp Tree} (hX:Par Tryz.prog mb E vTree 199 [E.v] 1 X) (hY:Par Tryz.prog mb E vTree 114 [E.v] 0 Y) (hZ:Par Tryz.prog mb E vTree 179 [E.v] 0 Z) :
  Par Tryz.prog mb E vTree 179 [E.v] 0 (Ps.branchP X Y Z):=by
 refine dm Tryz.func179 rfl 36 rfl fun m L k T hm0 hE hk hT hn=>?_;replace hX:=hX.up hm0;replace hY:=hY.up hm0;replace hZ:=hZ.up hm0;have hm:m≤m:=cB _;unfold Ps.branchP at hT;refine uA ?_;refine oA tab (fun b2=>?_);refine cL (bm _ _ _) ?_;refine uA ?_;refine qs rfl (OT.needP (L0:=L) hT hE hk oz hm uS rfl rfl rfl rfl rfl rfl (fun hT hk=>?_));refine uA ?_;refine qs rfl (dr (L0:=L) (cond_par hX) hm hT hn hE hk oz hm uS rfl rfl rfl rfl rfl rfl goes180 (fun x m2 c k2 hT hm hE hlex hk hrx=>?_));refine uA ?_;refine aj (hs:=[x]) (l:=[c]) tab rTree ⟨rTree_iff.2 hrx,trivial⟩ uH ov (fun s m3 hle3 hs ho hc=>?_);replace hm:=cC hm hle3;replace hE:=hE.mono hle3;refine mQ ?_;refine oA tab (fun b3=>?_);refine cL (bm _ _ _) ?_;refine kx ?_;refine aO [7] dc 8 [.cells b3 0 [.int .i64 25,strV [],.int .i64 0,s.v]] (E.I k2 0::tok s 4::.cells b2 0 [.int .i64 0,strV [],.int .i64 0,.slice none 0 0]::L) (bm _ _ _) ?_;refine kB ?_;refine cY (bm _ _ _) (dr (L0:=L) (hY) hm hT hn hE hk oz hm uS rfl rfl rfl rfl rfl rfl goes114 (fun x3 mA a3 k3 hT hm hE hleA hk hr3=>?_));refine⟨hleA,E.I k3 0::tok s 4::.cells b2 0 [.int .i64 0,strV [],.int .i64 0,.slice none 0 0]::L,bm _ _ _,?_⟩;refine af 4 ?_;refine db tab rTree (hs:=[x3]) (l:=[a3]) ⟨rTree_iff.2 hr3,trivial⟩ rfl rfl rfl rfl rfl ov (fun sB mB hleB hsB hoB hcB=>?_);refine⟨hleB,_,bj _,?_⟩;refine af 5 ?_;refine cS tab rTree 2 (hs.mono (cC hleA hleB)) ho hsB rfl rfl rfl rfl rfl rfl rfl oO (fun s3 mC hleC hs3 ho3=>?_);refine⟨hleC,E.I k3 0::tok s3 4::.cells b2 0 [.int .i64 0,strV [],.int .i64 0,.slice none 0 0]::L,bj _,?_⟩;refine kS ?_;refine cN (k:=3) tab 0 rfl rfl rfl rfl rfl rfl rfl rfl ?_;refine DOt.perm (bm _ _ _) ?_;refine aL ?_
 rotate_left 1
 replace hm:=cC hm (cC hleB hleC);replace hE:=hE.mono (cC hleB hleC);refine uA ?_;refine qs rfl (dt hT hE hk rfl rfl rfl rfl rfl rfl (fun hT hk=>?_) (fun hT=>?_))
 ·refine uA ?_;refine qs rfl (OT.peekP hT hE hk rfl rfl rfl rfl rfl rfl (fun hT=>?_) (fun hT=>?_))
  ·refine uA ?_;refine l5 ?_;refine kB ?_;refine cY (bm _ _ _) (dr (L0:=L) (hZ) hm hT hn hE hk oz hm uS rfl rfl rfl rfl rfl rfl goes179 (fun x4 mA a4 k4 hT hm hE hleA hk hr4=>?_));refine⟨hleA,E.I k4 0::tok s3 4::.cells b2 0 [.int .i64 0,strV [],.int .i64 0,.slice none 0 0]::L,bm _ _ _,?_⟩;exact eg
  ·refine uA ?_;refine l5 ?_;refine kB ?_;refine cY (bm _ _ _) (dr (L0:=L) (hY) hm hT hn hE hk oz hm uS rfl rfl rfl rfl rfl rfl goes114 (fun x4 mA a4 k4 hT hm hE hleA hk hr4=>?_));refine⟨hleA,E.I k4 0::tok s3 4::.cells b2 0 [.int .i64 0,strV [],.int .i64 0,.slice none 0 0]::L,bm _ _ _,?_⟩;exact eg
 ·refine uA ?_;refine ly ?_;refine av 3 ?_;refine aw (L':=E.I k3 0::L) 3 ⟨_,k3,[],hT,hm,hk,⟨⟨25,[],0,s3⟩,rfl,rfl,⟨rfl,rfl,rfl,hs3⟩⟩,rfl⟩
theorem stmt_par {X Y Z S:Ps.Pp Tree} (hX:Par Tryz.prog mb E vTree 199 [E.v] 1 X) (hY:Par Tryz.prog mb E vTree 114 [E.v] 0 Y) (hZ:Par Tryz.prog mb E vTree 179 [E.v] 0 Z)
  (hS:Par Tryz.prog mb E vTree 181 [E.v] 0 S) :
  Par Tryz.prog mb E vTree 151 [E.v] 0 (Ps.peek (Ps.isM [123]) Y (Ps.peek (Ps.isM [105,102]) Z (Ps.tok [102,111,114] (Ps.forP X Y) (Ps.bind S fun s=>Ps.need [59] (Ps.ret s))))):=by
 refine dm Tryz.func151 rfl 42 rfl fun m L k T hm0 hE hk hT hn=>?_;replace hX:=hX.up hm0;replace hY:=hY.up hm0;replace hZ:=hZ.up hm0;replace hS:=hS.up hm0;have hm:m≤m:=cB _;refine uA ?_;refine oA tab (fun b2=>?_);refine cL (bm _ _ _) ?_;refine uA ?_;refine qs rfl (OT.peekP hT hE hk rfl rfl rfl rfl rfl rfl (fun hT=>?_) (fun hT=>?_))
 ·rw[←Ps.bind_ret Y]at hT;refine uA ?_;refine qs rfl (dr (L0:=L) (hY) hm hT hn hE hk oF hm uS rfl rfl rfl rfl rfl rfl goes114 (fun x m2 a k2 hT hm hE hlex hk hrx=>?_));exact iz
 refine uA ?_;refine qs rfl (OT.peekP hT hE hk rfl rfl rfl rfl rfl rfl (fun hT=>?_) (fun hT=>?_))
 ·rw[←Ps.bind_ret Z]at hT;refine uA ?_;refine qs rfl (dr (L0:=L) (hZ) hm hT hn hE hk oF hm uS rfl rfl rfl rfl rfl rfl goes179 (fun x m2 a k2 hT hm hE hlex hk hrx=>?_));exact iz
 refine uA ?_;refine qs rfl (dt hT hE hk rfl rfl rfl rfl rfl rfl (fun hT hk=>?_) (fun hT=>?_))
 ·unfold Ps.forP at hT;refine uA ?_;refine oA tab (fun b3=>?_);refine cL (bm _ _ _) ?_;refine lW ?_;refine TO.grow0 (size:=4) ?_;refine cL (L':=E.I (k+1) 0::.cells b3 0 [.int .i64 26,strV [],.int .i64 0,.slice none 0 0]::tok ⟨none,0,0⟩ 4::.cells b2 0 [.int .i64 0,strV [],.int .i64 0,.slice none 0 0]::L) (bo (bm _ _ _) (br _ (bm _ _ _))) ?_;obtain⟨s,hse⟩:∃ s:Sl,s=⟨none,0,0⟩:=⟨_,rfl⟩
  have hs:SlRep rTree m s []:=by rw[hse];exact cR _ _
  have ho:Own s:=by rw[hse];exact cX
  rw[show Value.slice none 0 0=(⟨none,0,0⟩:Sl).v from rfl,←hse];refine uA ?_;refine qs rfl (OT.peekP hT hE hk rfl rfl rfl rfl rfl rfl (fun hT=>?_) (fun hT=>?_))
  ·refine uA ?_;refine mi ?_;refine kB ?_;refine cY (bm _ _ _) (dr (L0:=L) (hY) hm hT hn hE hk oF hm uS rfl rfl rfl rfl rfl rfl goes114 (fun x4 mA a4 k4 hT hm hE hleA hk hr4=>?_));refine⟨hleA,E.I k4 0::tok s 4::.cells b2 0 [.int .i64 0,strV [],.int .i64 0,s.v]::L,bm _ _ _,?_⟩;refine af 4 ?_;refine db tab rTree (hs:=[x4]) (l:=[a4]) ⟨rTree_iff.2 hr4,trivial⟩ rfl rfl rfl rfl rfl ov (fun sB mB hleB hsB hoB hcB=>?_);refine⟨hleB,_,bj _,?_⟩;refine af 5 ?_;refine cS tab rTree 2 (hs.mono (cC hleA hleB)) ho hsB rfl rfl rfl rfl rfl rfl rfl oO (fun s4 mC hleC hs4 ho4=>?_);refine⟨hleC,E.I k4 0::tok s4 4::.cells b2 0 [.int .i64 0,strV [],.int .i64 0,s.v]::L,bj _,?_⟩;exact fe
  ·refine uA ?_;refine mi ?_;refine kB ?_;refine cY (bm _ _ _) (dr (L0:=L) (cond_par hX) hm hT hn hE hk oF hm uS rfl rfl rfl rfl rfl rfl goes180 (fun x3 mA a3 k3 hT hm hE hleA hk hr3=>?_));refine⟨hleA,E.I k3 0::tok s 4::.cells b2 0 [.int .i64 0,strV [],.int .i64 0,s.v]::L,bm _ _ _,?_⟩;refine af 4 ?_;refine db tab rTree (hs:=[x3]) (l:=[a3]) ⟨rTree_iff.2 hr3,trivial⟩ rfl rfl rfl rfl rfl ov (fun sB mB hleB hsB hoB hcB=>?_);refine⟨hleB,_,bj _,?_⟩;refine af 5 ?_;refine cS tab rTree 2 (hs.mono (cC hleA hleB)) ho hsB rfl rfl rfl rfl rfl rfl rfl oO (fun s3 mC hleC hs3 ho3=>?_);refine⟨hleC,E.I k3 0::tok s3 4::.cells b2 0 [.int .i64 0,strV [],.int .i64 0,s.v]::L,bj _,?_⟩;refine kS ?_;refine cN (k:=3) tab 0 rfl rfl rfl rfl rfl rfl rfl rfl ?_;refine DOt.perm (bm _ _ _) ?_;refine aL ?_
   rotate_left 1
   replace hm:=cC hm (cC hleB hleC);replace hE:=hE.mono (cC hleB hleC);refine uA ?_;refine aO [7] dc 8 [.cells b3 0 [.int .i64 26,strV [],.int .i64 0,s3.v]] (E.I k3 0::tok s3 4::.cells b2 0 [.int .i64 0,strV [],.int .i64 0,s.v]::L) (bm _ _ _) ?_;refine kB ?_;refine cY (bm _ _ _) (dr (L0:=L) (hY) hm hT hn hE hk oF hm uS rfl rfl rfl rfl rfl rfl goes114 (fun x4 mA a4 k4 hT hm hE hleA hk hr4=>?_));refine⟨hleA,E.I k4 0::tok s3 4::.cells b2 0 [.int .i64 0,strV [],.int .i64 0,s.v]::L,bm _ _ _,?_⟩;refine af 4 ?_;refine db tab rTree (hs:=[x4]) (l:=[a4]) ⟨rTree_iff.2 hr4,trivial⟩ rfl rfl rfl rfl rfl ov (fun sB mB hleB hsB hoB hcB=>?_);refine⟨hleB,_,bj _,?_⟩;refine af 5 ?_;refine cS tab rTree 2 (hs3.mono (cC hleA hleB)) ho3 hsB rfl rfl rfl rfl rfl rfl rfl (by simp only[ba,be,bg,rTree,mkR];omega) (fun s4 mC hleC hs4 ho4=>?_);refine⟨hleC,E.I k4 0::tok s4 4::.cells b2 0 [.int .i64 0,strV [],.int .i64 0,s.v]::L,bj _,?_⟩;exact fe
 refine uA ?_;refine qs rfl (dr (L0:=L) (hS) hm hT hn hE hk oz hm uS rfl rfl rfl rfl rfl rfl goes181 (fun x m2 a k2 hT hm hE hlex hk hrx=>?_));refine uA ?_;refine oA tab (fun b4=>?_);refine cL (bm _ _ _) ?_;refine kx ?_;refine qs rfl (OT.needP (L0:=L) hT hE hk oz hm uS rfl rfl rfl rfl rfl rfl (fun hT hk=>?_));refine kA ?_;refine av 2 ?_;refine aw (L':=E.I (k2+1) 0::L) 2 ⟨_,k2+1,[],hT,hm,hk,⟨x,rfl,rfl,hrx⟩,rfl⟩
end
end Go.Sep
namespace Go.Ps
theorem tokIf_eq {α:Type} (c:Bool) (s:Sep.Str) (A B:Pp α) (f:F) (k:Nat):tokIf c s A B f k=bif (isM s f k&&c)then A f (k+1)else B f k:=by
 unfold tokIf tok;cases c<;>cases h:isM s f k<;>simp[h]
end Go.Ps
namespace Go.Sep
open Go.Proofs
attribute [local irreducible] TC TO OT TCallX TCall DO DOt thenQ blockQ retQ At
section
variable {mb:Mem} {E:PE}
theorem perm_simple {α:Type} {e t n s b:α} {l:List α}:(e::t::n::s::b::l).Perm ([n]++(e::s::b::t::l)):=by
 refine bo (br _ (bm _ _ _)) (bo (bm _ _ _) (br _ (br _ ?_)));exact bo (bm _ _ _) (br _ (bm _ _ _))
def Tells (fn:FuncId) (p:Tree→Bool):Prop:=Goes Tryz.prog fn∧∀(m:Mem) (L:List Item) (h:HTree) (a:Tree),TreeRep m h a→TCall Tryz.prog fn ⟨[treeV h]⟩ m L (Ret (.bool (p a)) m L)
theorem isNm_tells : Tells 201 Ps.isNm:=by
 refine⟨goes201,fun m L h a hr=>?_⟩;obtain⟨h1,h2,h3,h4⟩:=hr;unfold TCall;refine ag Tryz.func201 6 ?_;refine ay (fun b=>?_);refine kh ?_;unfold Ps.isNm;rw[h1]
theorem isPl_tells : Tells 190 Ps.isPl:=by
 refine⟨goes190,fun m L h a hr=>?_⟩;obtain⟨h1,h2,h3,h4⟩:=hr;unfold TCall;refine ag Tryz.func190 26 ?_;refine oB (fun b=>?_)
 repeat' (first|(first|refine q1 ?_|refine q3 ?_|refine q4 tab rfl rfl ?_|refine q5 ?_|refine q6 ?_|refine q15 ?_)|(refine qs rfl (ql tab 0 rfl rfl rfl rfl rfl rfl ?_))|(refine TO.splitP rfl rfl (fun hb=>?_) (fun hb=>?_)))
 all_goals
  refine kh ?_;refine mT ?_;unfold Ps.isPl;rw[←h1,←h2]
  simp_all
theorem all_law (m:Mem) (L:List Item) (s:Sl) (l:List Tree) (hs:SlRep rTree m s l) (b5:Nat) (hA:At m b5 0 [s.v]) (fn:FuncId) (p:Tree→Bool) (hp:Tells fn p) :
  TCall Tryz.prog 200 ⟨[.func (.func fn) ⟨[]⟩ ⟨[]⟩,.pointer (some ⟨b5,0,none⟩)]⟩ m L (Ret (.bool (l.all p)) m L):=by
 have hlen:=hs.len;have hsm:=hs.small rfl;unfold TCall;refine ag Tryz.func200 17 ?_;refine lg ?_;refine cG (ι:=Nat) [0,1,6,7] rfl (fun k=>[(8,.int .i64 (k:Int))]) (fun _=>m) (fun _=>L) (fun k=>k≤l.length∧(l.take k).all p=true) (fun k=>l.length-k) 0 uH rfl uS ⟨cm _,by simp⟩ ?_;rintro k ⟨hk,hI⟩;refine uA ?_;refine ap (fun hc=>?_) (fun hc=>?_)
 ·have hlt:k<l.length:=ou;have hx:l[k]? = some l[k]:=bw hlt;refine l7 ?_;rintro bx ix hx' hrx hAx;refine uA ?_;refine an tab hAx ?_;refine aB tab (fun b9=>?_);refine kc ?_;refine uM ?_;refine qs rfl (cQ (all:=[treeV hx']) rfl rfl rfl rfl rfl pc hp.1 ((hp.2 _ _ hx' l[k] (rTree_iff.1 hrx)).x ?_));refine lz ?_;refine uA ?_;cases hb:p l[k]with
  | true =>
   refine nE ?_;exact⟨k+1,uH,uH,rfl,rfl,uS,⟨hlt,by rw[cp hlt,List.all_append,hI];simp[hb]⟩,by omega⟩
  | false =>
   refine kP ?_;refine mT ?_
   symm
   rw[List.all_eq_false];exact⟨l[k],bN hlt,by simp[hb]⟩
 ·refine uA ?_;refine kh ?_;rw[cl ou]at hI;rw[hI]
theorem simple_par {X Y:Ps.Pp Tree} (hX:Par Tryz.prog mb E vTree 145 [E.v] 0 X) (hY:Par Tryz.prog mb E vTree 199 [E.v] 0 Y) :
  Par Tryz.prog mb E vTree 181 [E.v] 0 (Ps.simpleP E.N X Y):=by
 refine dm Tryz.func181 rfl 109 rfl fun m L k T hm0 hE hk hT hn=>?_;replace hX:=hX.up hm0;replace hY:=hY.up hm0;have hm:m≤m:=cB _;unfold Ps.simpleP at hT;refine uA ?_;refine oA tab (fun b2=>?_);refine cL (bm _ _ _) ?_;refine uA ?_;refine qs rfl (dt hT hE hk rfl rfl rfl rfl rfl rfl (fun hT hk=>?_) (fun hT=>?_))
 ·refine uA ?_;refine qs rfl (OT.nameP (L0:=L) hT hE hk oF hm uS rfl rfl rfl rfl rfl rfl (fun nm hT hk=>?_));refine uA ?_;refine oA tab (fun b3=>?_);refine cL (bm _ _ _) ?_;refine kx ?_;refine qs rfl (dr (L0:=L) (hX) hm hT hn hE hk oF hm uS rfl rfl rfl rfl rfl rfl goes145 (fun t m2 tt k2 hT hm hE hlet hk hrt=>?_));refine uA ?_;refine aj (hs:=[t]) (l:=[tt]) tab rTree ⟨rTree_iff.2 hrt,trivial⟩ uH ov (fun s m3 hle3 hs ho hc=>?_);replace hm:=cC hm hle3;replace hE:=hE.mono hle3;refine TO.tokFo hc ho 4 ?_;refine aN (bo (bm _ _ _) (br _ (bm _ _ _))) ?_;refine am (k:=3) 1 ?_;refine qs rfl (dt hT hE hk rfl rfl rfl rfl rfl rfl (fun hT hk=>?_) (fun hT=>?_))
  ·refine uA ?_;refine aO [7] dc 8 [.cells b3 0 [.int .i64 21,strV nm,.int .i64 0,s.v]] (E.I (k2+1) 0::tok s 4::.cells b2 0 [.int .i64 0,strV [],.int .i64 0,.slice none 0 0]::L) (bm _ _ _) ?_;refine kB ?_;refine cY (bm _ _ _) (dr (L0:=L) (hY) hm hT hn hE hk oF hm uS rfl rfl rfl rfl rfl rfl goes199 (fun x4 mA a4 k4 hT hm hE hleA hk hr4=>?_));refine⟨hleA,E.I k4 0::tok s 4::.cells b2 0 [.int .i64 0,strV [],.int .i64 0,.slice none 0 0]::L,bm _ _ _,?_⟩;refine af 4 ?_;refine db tab rTree (hs:=[x4]) (l:=[a4]) ⟨rTree_iff.2 hr4,trivial⟩ rfl rfl rfl rfl rfl ov (fun sB mB hleB hsB hoB hcB=>?_);refine⟨hleB,_,bj _,?_⟩;refine af 5 ?_;refine cS tab rTree 2 (hs.mono (cC hleA hleB)) ho hsB rfl rfl rfl rfl rfl rfl rfl oO (fun s4 mC hleC hs4 ho4=>?_);refine⟨hleC,E.I k4 0::tok s4 4::.cells b2 0 [.int .i64 0,strV [],.int .i64 0,.slice none 0 0]::L,bj _,?_⟩;refine kS ?_;refine cN (k:=3) tab 0 rfl rfl rfl rfl rfl rfl rfl rfl ?_;refine DOt.perm (bm _ _ _) ?_;refine aL ?_
   rotate_left 1
   replace hm:=cC hm (cC hleB hleC);replace hE:=hE.mono (cC hleB hleC);refine nF ?_;refine aw (L':=E.I k4 0::L) 3 ⟨_,k4,[],hT,hm,hk,⟨⟨21,nm,0,s4⟩,rfl,rfl,⟨rfl,rfl,rfl,hs4⟩⟩,rfl⟩
  ·refine uA ?_;refine ly ?_;refine av 3 ?_;refine aw (L':=E.I k2 0::L) 3 ⟨_,k2,[],hT,hm,hk,⟨⟨21,nm,0,s⟩,rfl,rfl,⟨rfl,rfl,rfl,hs⟩⟩,rfl⟩
 refine uA ?_;refine qs rfl (dt hT hE hk rfl rfl rfl rfl rfl rfl (fun hT hk=>?_) (fun hT=>?_))
 ·refine uA ?_;refine oA tab (fun b4=>?_);refine cL (bm _ _ _) ?_;refine kx ?_;refine qs rfl (OT.peekP hT hE hk rfl rfl rfl rfl rfl rfl (fun hT=>?_) (fun hT=>?_))
  ·refine uA ?_;refine ly ?_;refine av 2 ?_;refine aw (L':=E.I (k+1) 0::L) 2 ⟨_,k+1,[],hT,hm,hk,⟨⟨27,[],0,⟨none,0,0⟩⟩,rfl,rfl,⟨rfl,rfl,rfl,cR _ _⟩⟩,rfl⟩
  ·refine uA ?_;refine qs rfl (OT.parL (L0:=L) (list1_par (first:=[E.v]) (cap:=[]) rfl goes199 hY) hm hT hn hE hk oF hm uS rfl rfl rfl rfl rfl rfl goes148 (fun x m2 l k2 hT hm hE hlex hk hrx hox hlx=>?_));refine aN (L':=E.I k2 0::.cells b4 0 [.int .i64 27,strV [],.int .i64 0,.slice none 0 0]::tok x 4::.cells b2 0 [.int .i64 0,strV [],.int .i64 0,.slice none 0 0]::L) (br _ (bm _ _ _)) ?_;refine mX ?_;refine aw (L':=E.I k2 0::L) 3 ⟨_,k2,[],hT,hm,hk,⟨⟨27,[],0,x⟩,rfl,rfl,⟨rfl,rfl,rfl,hrx⟩⟩,rfl⟩
 refine uA ?_;refine qs rfl (dt hT hE hk rfl rfl rfl rfl rfl rfl (fun hT hk=>?_) (fun hT=>?_))
 ·refine uA ?_;refine kc ?_;refine aw (L':=E.I (k+1) 0::L) 1 ⟨_,k+1,[],hT,hm,hk,⟨⟨28,[],0,⟨none,0,0⟩⟩,rfl,rfl,⟨rfl,rfl,rfl,cR _ _⟩⟩,rfl⟩
 refine uA ?_;refine qs rfl (dt hT hE hk rfl rfl rfl rfl rfl rfl (fun hT hk=>?_) (fun hT=>?_))
 ·refine uA ?_;refine kc ?_;refine aw (L':=E.I (k+1) 0::L) 1 ⟨_,k+1,[],hT,hm,hk,⟨⟨29,[],0,⟨none,0,0⟩⟩,rfl,rfl,⟨rfl,rfl,rfl,cR _ _⟩⟩,rfl⟩
 refine uA ?_;refine qs rfl (OT.parL (L0:=L) (list1_par (first:=[E.v]) (cap:=[]) rfl goes199 hY) hm hT hn hE hk oz hm uS rfl rfl rfl rfl rfl rfl goes148 (fun s m2 l k1 hT hm hE hles hk hrs hos hls=>?_));have hs:=hrs;have ho:=hos;have hl:=hls;have hlen:=hs.len;refine uA ?_;refine aB tab (fun b5=>?_);refine uT ?_;refine cV fun m3 hle3 hA=>?_;replace hm:=cC hm hle3;replace hE:=hE.mono hle3;replace hs:=hs.mono hle3;refine uA ?_;refine cL (L':=E.I k1 0::tok s 4::.cells b2 0 [.int .i64 0,strV [],.int .i64 0,.slice none 0 0]::L) (bj _) ?_;refine oA tab (fun b7=>?_);refine cL (bm _ _ _) ?_;refine lW ?_;unfold Ps.assignP at hT;simp only[Ps.tokIf_eq]at hT;refine ot ?_;refine TC.cut (ι:=Int) [0,2,5,7] rfl (fun _=>[]) (fun i=>m3) (fun i=>E.I k1 0::.cells b7 0 [.int .i64 i,strV [],.int .i64 0,.slice none 0 0]::tok s 4::.cells b2 0 [.int .i64 0,strV [],.int .i64 0,.slice none 0 0]::L) (fun i=>k1+1≤E.toks.length∧T=(Ps.bind (Ps.commas E.N Y) fun l2=>Ps.ret (Tree.mk i [] (l.length:Int) (l++l2))) E.f (k1+1)) ?_ ?_
 ·skip;refine uA ?_;refine au goes144 (peek_law [58,61] hE hk) ?_;cases hb1:Ps.isM [58,61] E.f k1 with
  | false =>
   rw[hb1,Bool.false_and]at hT;simp only[cx]at hT;refine uA ?_;refine au goes144 (peek_law [61] hE hk) ?_;cases hb2:Ps.isM [61] E.f k1 with
   | false =>
    rw[hb2,Bool.false_and]at hT;exact dI
   | true =>
    refine uA ?_;refine oR goes200 (all_law m3 _ s l hs b5 hA _ Ps.isPl isPl_tells) ?_;cases ha2:l.all Ps.isPl with
    | true =>
     exact gZ
    | false =>
     rw[ha2,Bool.and_false]at hT;exact dI
  | true =>
   refine uA ?_;refine oR goes200 (all_law m3 _ s l hs b5 hA _ Ps.isNm isNm_tells) ?_;cases ha1:l.all Ps.isNm with
   | true =>
    rw[hb1,ha1]at hT;simp only[Bool.and_true,cy]at hT;refine uA ?_;refine av 1 ?_;exact⟨22,uH,uH,rfl,rfl,uS,PE.isM_lt hb1,hT⟩
   | false =>
    rw[ha1,Bool.and_false]at hT;simp only[cx]at hT;refine uA ?_;refine au goes144 (peek_law [61] hE hk) ?_;cases hb2:Ps.isM [61] E.f k1 with
    | false =>
     rw[hb2,Bool.false_and]at hT;exact dI
    | true =>
     refine uA ?_;refine oR goes200 (all_law m3 _ s l hs b5 hA _ Ps.isPl isPl_tells) ?_;cases ha2:l.all Ps.isPl with
     | true =>
      exact gZ
     | false =>
      rw[ha2,Bool.and_false]at hT;exact dI
 ·rintro kd ⟨hk,hT⟩;have hfew:=hE.few;refine mP ?_;refine aa (r':=((k1+1:Nat):Int)) uH ou ?_;refine am (k:=2) 0 ?_;refine lg ?_;refine am (k:=2) 1 ?_;refine aO [7] dc 8 [.cells b7 0 [.int .i64 kd,strV [],.int .i64 (s.len:Int),.slice none 0 0]] (E.I (k1+1) 0::tok s 4::.cells b2 0 [.int .i64 0,strV [],.int .i64 0,.slice none 0 0]::L) (bm _ _ _) ?_;refine ak (k:=0) 0 hA ?_;refine cT tab uC uK [1,2,3] uK rfl ?_;refine af 4 ?_;refine cY (bm _ _ _) (OT.parL (L0:=L) (list1_par (first:=[E.v]) (cap:=[]) rfl goes199 hY) hm hT hn hE hk oz hm uS rfl rfl rfl rfl rfl rfl goes148 (fun x mA l2 k2 hT hm hE hleA hk hrx hox hlx=>?_));refine⟨hleA,E.I k2 0::tok s 4::.cells b2 0 [.int .i64 0,strV [],.int .i64 0,.slice none 0 0]::tok x 4::L,perm_simple,?_⟩;refine af 5 ?_;refine cS tab rTree 2 (hs.mono hleA) ho hrx rfl rfl rfl rfl rfl rfl rfl qu (fun s3 mC hleC hs3 ho3=>?_);refine⟨hleC,E.I k2 0::tok s3 4::.cells b2 0 [.int .i64 0,strV [],.int .i64 0,.slice none 0 0]::tok x 4::L,bj _,?_⟩;refine kS ?_;refine cN (k:=3) tab 0 rfl rfl rfl rfl rfl rfl rfl rfl ?_;refine DOt.perm (bm _ _ _) ?_;refine aL ?_
  rotate_left 1
  refine nF ?_;refine retQ_ret_c1 tab 3 rfl rfl rfl rfl (L':=E.I k2 0::L) uS ⟨_,k2,[],hT,cC hm hleC,hk,⟨⟨kd,[],(s.len:Int),s3⟩,rfl,rfl,⟨rfl,rfl,by show(s.len:Int)=_;rw[hlen];rfl,hs3⟩⟩,rfl⟩
end
end Go.Sep
namespace Go.Ps
theorem oneOf_some {α:Type} {ops:List Sep.Str} {A:Sep.Str→Pp α} {B:Pp α} {f:F} {k:Nat} {s:Sep.Str} (h:ops.find? (fun s=>isM s f k)=some s):oneOf ops A B f k=A s f (k+1):=by unfold oneOf;rw[h]
theorem oneOf_none {α:Type} {ops:List Sep.Str} {A:Sep.Str→Pp α} {B:Pp α} {f:F} {k:Nat} (h:ops.find? (fun s=>isM s f k)=none):oneOf ops A B f k=B f k:=by unfold oneOf;rw[h]
theorem find_at {p:Sep.Str→Bool} {l:List Sep.Str} {i:Nat} (hi:i<l.length) (h1:(l.take i).all (fun s=>!p s)=true) (h2:p l[i]=true):l.find? p=some l[i]:=by
 have e:l=l.take i++l[i]::l.drop (i+1):=by rw[List.getElem_cons_drop,cn]
 rw[List.find?_eq_some_iff_append];exact⟨h2,l.take i,l.drop (i+1),e,fun a ha=>by simpa using List.all_eq_true.1 h1 a ha⟩
theorem find_no {p:Sep.Str→Bool} {l:List Sep.Str} (h1:l.all (fun s=>!p s)=true):l.find? p=none:=by
 rw[List.find?_eq_none];intro a ha;simpa using List.all_eq_true.1 h1 a ha
end Go.Ps
namespace Go.Sep
open Go.Proofs
attribute [local irreducible] TC TO OT TCallX TCall DO DOt thenQ blockQ retQ At
section
variable {mb:Mem} {E:PE} {h:Int}
theorem levels_law (m:Mem) (L:List Item):TCall Tryz.prog 189 ⟨[]⟩ m L (Made m L fun r m'=>∃ s:Sl,r=s.v∧SlRep (rSl rStr) m' s Ps.levels):=by
 unfold TCall;refine ag Tryz.func189 7 ?_;refine aj (hs:=[[124,124]]) (l:=[[124,124]]) tab rStr ⟨rfl,trivial⟩ uH ov (fun s1 m1 h1 hs1 _ _=>?_);refine aj (hs:=[[38,38]]) (l:=[[38,38]]) tab rStr ⟨rfl,trivial⟩ uH ov (fun s2 m2 h2 hs2 _ _=>?_);refine aj (hs:=[[61,61],[33,61],[60],[60,61],[62],[62,61]]) (l:=[[61,61],[33,61],[60],[60,61],[62],[62,61]]) tab rStr ⟨rfl,rfl,rfl,rfl,rfl,rfl,trivial⟩ uH ov (fun s3 m3 h3 hs3 _ _=>?_);refine aj (hs:=[[43],[45]]) (l:=[[43],[45]]) tab rStr ⟨rfl,rfl,trivial⟩ uH ov (fun s4 m4 h4 hs4 _ _=>?_);refine aj (hs:=[[42],[47],[37]]) (l:=[[42],[47],[37]]) tab rStr ⟨rfl,rfl,rfl,trivial⟩ uH ov (fun s5 m5 h5 hs5 _ _=>?_);have k45:=h5;have k35:=cC h4 k45;have k25:=cC h3 k35;have k15:=cC h2 k25;refine aj (hs:=[s1,s2,s3,s4,s5]) (l:=Ps.levels) tab (rSl rStr) ⟨hs1.mono k15,hs2.mono k25,hs3.mono k35,hs4.mono k45,hs5,trivial⟩ uH ov (fun s m6 h6 hs _ _=>?_);refine uA ?_;refine ah ⟨cC h1 (cC k15 h6),rfl,s,rfl,hs⟩
theorem levels_ne {ops:List Str} (ho:ops∈Ps.levels) {s:Str} (hs:s∈ops):s≠[]:=by
 have:∀ ops∈Ps.levels,∀ s∈ops,s≠[]:=ov;exact this ops ho s hs
theorem binary_par {U:Ps.Pp Tree} (hU:Par Tryz.prog mb E vTree 220 [E.v] h U) :
  ∀ d j:Nat,j+d=5→Par Tryz.prog mb E vTree 214 [E.v,.int .i64 (j:Int)] h (Ps.binL E.N U (Ps.levels.drop j)):=by
 intro d
 induction d with
 | zero =>
  intro j hj;refine dm Tryz.func214 rfl 46 rfl fun m L k T hm0 hE hk hT hn=>?_;replace hU:=hU.up hm0;obtain rfl:j=5:=ou;replace hT:T=Ps.bind U Ps.ret E.f k:=by rw[Ps.bind_ret];exact hT
  refine uA ?_;refine oA tab (fun b4=>?_);refine cL (bm _ _ _) ?_;refine uA ?_;refine oC goes189 ((levels_law _ _).x ?_);rintro _ m1 _ ⟨hm1,rfl,s,rfl,hs⟩;have hlen:=hs.len;replace hm:=hm1;replace hE:=hE.mono hm1;refine uA ?_;refine ap (fun hc=>?_) (fun hc=>?_)
  ·refine uA ?_;refine qs rfl (dr (L0:=L) (hU) hm hT hn hE hk oz hm uS rfl rfl rfl rfl rfl rfl goes220 (fun x m2 a k2 hT hm hE hlex hk hrx=>?_));exact fu
  ·exact absurd (by rw[hlen];rfl) hc
 | succ d ih =>
  intro j hj;have ihj:=ih (j+1) ou;have hjl:j<Ps.levels.length:=by show j<5;omega
  have hops:Ps.levels.drop j=Ps.levels[j]::Ps.levels.drop (j+1):=bV hjl;have hne:∀ s∈Ps.levels[j],s≠[]:=fun s hs=>levels_ne (bN hjl) hs;have hget:Ps.levels[j]? = some Ps.levels[j]:=bw hjl;generalize Ps.levels[j]=ops at hops hne hget;generalize hXe:Ps.binL E.N U (Ps.levels.drop (j+1))=X at ihj;have hspec:Ps.binL E.N U (Ps.levels.drop j)=Ps.bind X (Ps.loopB E.N ops X):=by rw[hops,←hXe];rfl
  rw[hspec];clear hspec hXe hops;refine dm Tryz.func214 rfl 46 rfl fun m L k T hm0 hE hk hT hn=>?_;replace ihj:=ihj.up hm0;refine uA ?_;refine oA tab (fun b4=>?_);refine cL (bm _ _ _) ?_;refine uA ?_;refine oC goes189 ((levels_law _ _).x ?_);rintro _ m1 _ ⟨hm1,rfl,s,rfl,hs⟩;have hlen:=hs.len;replace hm:=hm1;replace hE:=hE.mono hm1;refine uA ?_;refine ap (fun hc=>?_) (fun hc=>?_)
  ·have:s.len=5:=by rw[hlen];rfl
   omega
  refine uA ?_;refine qs rfl (OT.arith (r':=((j+1:Nat):Int)) rfl rfl rfl rfl rfl rfl rfl ou ?_);refine qs rfl (dr (L0:=L) (ihj) hm hT hn hE hk oz hm uS rfl rfl rfl rfl rfl rfl goes214 (fun x m2 a k2 hT hm hE hlex hk hrx=>?_));replace hs:=hs.mono hlex;have hlex':m≤m2:=hm;refine uA ?_;refine oA tab (fun b6=>?_);refine cL (bm _ _ _) ?_;refine kx ?_;refine cG (ι:=HTree×Mem×Tree×Nat×Nat) [0,1,4,5,6] rfl (fun _=>[]) (fun x=>x.2.1) (fun x=>E.I x.2.2.2.1 h::.cells b6 0 (treeC x.1)::.cells b4 0 [.int .i64 0,strV [],.int .i64 0,.slice none 0 0]::L) (fun x=>m2≤x.2.1∧x.2.2.2.1≤E.toks.length∧TreeRep x.2.1 x.1 x.2.2.1∧T=Ps.loopB x.2.2.2.2 ops X x.2.2.1 E.f x.2.2.2.1) (fun x=>x.2.2.2.2) (x,m2,a,k2,E.N) uH rfl uS ⟨cB _,hk,hrx,hT⟩ ?_;rintro⟨x,m3,a,k3,N⟩ ⟨hm3,hk,hrx,hT⟩;simp only at hm3 hk hrx hT;replace hm:=cC hm hm3;replace hE:=hE.mono hm3;replace hs:=hs.mono hm3;cases N with
  | zero=>exact absurd hT hn
  | succ N =>
   replace hT:T=Ps.oneOf ops (fun op=>Ps.bind X fun m=>Ps.loopB N ops X (Ps.binT op a m)) (Ps.ret a) E.f k3:=hT;refine q2 ?_;refine q1 ?_;refine q3 ?_;refine q4 tab rfl rfl ?_;refine q5 ?_;refine q6 ?_;refine TC.cut (ι:=Str×Nat) [0,1,4,5,6] rfl (fun i=>[(7,strV i.1)]) (fun _=>m3) (fun i=>E.I i.2 h::.cells b6 0 (treeC x)::.cells b4 0 [.int .i64 0,strV [],.int .i64 0,.slice none 0 0]::L) (fun i=>(i.1=[]∧i.2=k3∧ops.find? (fun s=>Ps.isM s E.f k3)=none)∨(i.1≠[]∧i.2=k3+1∧k3+1≤E.toks.length∧ops.find? (fun s=>Ps.isM s E.f k3)=some i.1)) ?_ ?_
   ·refine uA ?_;refine qs rfl (OT.index tab (rSl rStr) j hs rfl rfl rfl rfl rfl rfl rfl hget ?_);intro bi ii row hrow hAr;have hrow':SlRep rStr m3 row ops:=hrow;have hlr:=hrow'.len;have hsm:=hrow'.small rfl;refine uA ?_;refine an tab hAr ?_;refine cG (ι:=Nat) [0,1,4,5,6,7,24,25] rfl (fun i=>[(26,.int .i64 (i:Int))]) (fun _=>m3) (fun i=>E.I k3 h::.cells b6 0 (treeC x)::.cells b4 0 [.int .i64 0,strV [],.int .i64 0,.slice none 0 0]::L) (fun i=>i≤ops.length∧(ops.take i).all (fun s=>!Ps.isM s E.f k3)=true) (fun i=>ops.length-i) 0 uH rfl uS ⟨cm _,by simp⟩ ?_;rintro i ⟨hi,hI⟩;refine uA ?_;refine ap (fun hc2=>?_) (fun hc2=>?_)
    ·have hlt:i<ops.length:=ou;have hx:ops[i]? = some ops[i]:=bw hlt;refine uA ?_;refine al tab rStr i hrow' uH oy rfl hx ?_;rintro bs is' sv hsv hAs;obtain rfl:=(show sv=ops[i] from hsv)
     refine uA ?_;refine an tab hAs ?_;refine oR goes109 (take_law ops[i] hE hk) ?_;unfold PE.step;cases hb:Ps.isM ops[i] E.f k3 with
     | true =>
      refine uA ?_;exact⟨(ops[i],k3+1),uH,uH,rfl,rfl,uS,.inr ⟨hne _ (bN hlt),rfl,PE.isM_lt hb,Ps.find_at hlt hI hb⟩⟩
     | false =>
      exact gE
    ·rw[cl ou]at hI;refine uA ?_;exact⟨([],k3),uH,uH,rfl,rfl,uS,.inl ⟨rfl,rfl,Ps.find_no hI⟩⟩
   ·rintro⟨found,k4⟩ hI;simp only at hI;refine uA ?_;refine ap (fun hf=>?_) (fun hf=>?_)
    ·rcases hI with ⟨rfl,rfl,hI⟩ | ⟨h1,_⟩
     ·rw[Ps.oneOf_none hI]at hT;refine kA ?_;refine av 2 ?_;refine aw (L':=E.I k4 h::L) 2 ⟨_,k4,[],hT,hm,hk,⟨x,rfl,rfl,hrx⟩,rfl⟩
     ·exact absurd hf h1
    ·rcases hI with ⟨h1,_⟩ | ⟨_,rfl,hk,hI⟩
     ·exact absurd h1 hf
     rw[Ps.oneOf_some hI]at hT;refine uA ?_;refine aO [8] dc 9 [.cells b6 0 (treeC x)] (E.I (k3+1) h::.cells b4 0 [.int .i64 0,strV [],.int .i64 0,.slice none 0 0]::L) (bm _ _ _) ?_;refine lT ?_;refine ae (k:=0) 1 0 ?_;refine cT tab uC uK [2,3] uK rfl ?_;refine DO.arith 4 (r':=((j+1:Nat):Int)) uC uK uK rfl rfl rfl rfl rfl rfl rfl rfl oy ou ?_;refine af 5 ?_;refine cY (bm _ _ _) (dr (L0:=L) ihj (cC hlex' hm3) hT hn hE hk oF hm uS rfl rfl rfl rfl rfl rfl goes214 (fun y m5 b k5 hT hm hE hle5 hk hry=>?_));refine⟨hle5,E.I k5 h::.cells b4 0 [.int .i64 0,strV [],.int .i64 0,.slice none 0 0]::L,bm _ _ _,?_⟩;refine af 6 ?_;refine db tab rTree (hs:=[x,y]) (l:=[a,b]) ⟨rTree_iff.2 (hrx.mono hle5),rTree_iff.2 hry,trivial⟩ rfl rfl rfl rfl rfl ov (fun s9 m6 hle6 hs9 ho9 hc9=>?_);refine⟨hle6,_,bj _,?_⟩;refine cT tab uC uK [7] uK rfl ?_;refine cU ?_;refine aC 8 ?_;refine cO tab 0 rfl rfl rfl rfl rfl rfl rfl rfl ?_;refine DOt.perm (bm _ _ _) ?_;refine aL ?_
     rotate_left 1
     refine uA ?_;exact⟨(⟨53,found,0,s9⟩,m6,Ps.binT found a b,k5,N),uH,uH,rfl,rfl,uS,⟨cC hm3 (cC hle5 hle6),hk,⟨rfl,rfl,rfl,hs9⟩,hT⟩,by simp only;omega⟩
theorem expr_par {U:Ps.Pp Tree} (hU:Par Tryz.prog mb E vTree 220 [E.v] h U) :
  Par Tryz.prog mb E vTree 199 [E.v] h (Ps.binL E.N U Ps.levels):=by
 refine dm Tryz.func199 rfl 5 rfl fun m L k T hm0 hE hk hT hn=>?_;have hB:=(binary_par hU 5 0 rfl).up hm0;have hm:m≤m:=cB _;replace hT:T=Ps.bind (Ps.binL E.N U Ps.levels) Ps.ret E.f k:=by rw[Ps.bind_ret];exact hT
 refine uA ?_;refine oA tab (fun b2=>?_);refine cL (bm _ _ _) ?_;refine uA ?_;refine qs rfl (dr (L0:=L) (hB) hm hT hn hE hk oz hm uS rfl rfl rfl rfl rfl rfl goes214 (fun x m2 a k2 hT hm hE hlex hk hrx=>?_));exact fu
theorem unary_par {X Y:Ps.Pp Tree} (hX:Par Tryz.prog mb E vTree 220 [E.v] h X) (hY:Par Tryz.prog mb E vTree 227 [E.v] h Y) :
  Par Tryz.prog mb E vTree 220 [E.v] h (Ps.oneOf [[45],[33],[38],[42]] (fun op=>Ps.bind X fun t=>Ps.ret (.mk 52 op 0 [t])) Y):=by
 refine dm Tryz.func220 rfl 22 rfl fun m L k T hm0 hE hk hT hn=>?_;replace hX:=hX.up hm0;replace hY:=hY.up hm0;generalize hops:([[45],[33],[38],[42]]:List Str)=ops at hT;refine uA ?_;refine oA tab (fun b2=>?_);refine cL (bm _ _ _) ?_;refine uA ?_;refine qs rfl (db tab rStr (hs:=[[45],[33],[38],[42]]) (l:=ops) (by rw[←hops];exact⟨rfl,rfl,rfl,rfl,trivial⟩) rfl rfl rfl rfl (by rw[←hops];rfl) ov (fun s m1 hm1 hs _ _=>?_));have hlen:=hs.len;have hsm:=hs.small rfl;replace hm:=hm1;replace hE:=hE.mono hm1;refine uA ?_;refine cG (ι:=Nat) [0,2,5,6] rfl (fun i=>[(7,.int .i64 (i:Int))]) (fun _=>m1) (fun i=>E.I k h::.cells b2 0 [.int .i64 0,strV [],.int .i64 0,.slice none 0 0]::L) (fun i=>i≤ops.length∧(ops.take i).all (fun s=>!Ps.isM s E.f k)=true) (fun i=>ops.length-i) 0 uH rfl uS ⟨cm _,by simp⟩ ?_;rintro i ⟨hi,hI⟩;refine uA ?_;refine ap (fun hc2=>?_) (fun hc2=>?_)
 ·have hlt:i<ops.length:=ou;have hx:ops[i]? = some ops[i]:=bw hlt;refine uA ?_;refine al tab rStr i hs uH oy rfl hx ?_;rintro bs is' sv hsv hAs;obtain rfl:=(show sv=ops[i] from hsv)
  refine uA ?_;refine an tab hAs ?_;refine oR goes109 (take_law ops[i] hE hk) ?_;unfold PE.step;cases hb:Ps.isM ops[i] E.f k with
  | true =>
   replace hk:=PE.isM_lt hb;rw[Ps.oneOf_some (Ps.find_at hlt hI hb)]at hT;refine uA ?_;refine qs rfl (dr (L0:=L) (hX) hm hT hn hE hk oF hm uS rfl rfl rfl rfl rfl rfl goes220 (fun x m2 a k2 hT hm hE hlex hk hrx=>?_));refine uA ?_;refine aj (hs:=[x]) (l:=[a]) tab rTree ⟨rTree_iff.2 hrx,trivial⟩ uH ov (fun s m3 hle3 hs ho hc=>?_);refine kx ?_;refine aw (L':=E.I k2 h::L) 1 ⟨_,k2,[],hT,cC hm hle3,hk,⟨⟨52,ops[i],0,s⟩,rfl,rfl,⟨rfl,rfl,rfl,hs⟩⟩,rfl⟩
  | false =>
   exact gE
 ·rw[cl ou]at hI;rw[Ps.oneOf_none (Ps.find_no hI),←Ps.bind_ret Y]at hT;refine uA ?_;refine qs rfl (dr (L0:=L) (hY) hm hT hn hE hk oz hm uS rfl rfl rfl rfl rfl rfl goes227 (fun x m2 a k2 hT hm hE hlex hk hrx=>?_));exact fu
end
end Go.Sep
namespace Go.Sep
open Go.Proofs
attribute [local irreducible] TC TO OT TCallX TCall DO DOt thenQ blockQ retQ At
theorem kidPred {fn:FuncId} {p:Tree→Bool} {a:Tree} (hg:Goes Tryz.prog fn) (hB:a.wide≤140737488355328) (h:∀(b:Tree) (m:Mem) (L:List Item) (h:HTree),TreeRep m h b→b.wide≤140737488355328→TCall Tryz.prog fn ⟨[treeV h]⟩ m L (Ret (.bool (p b)) m L)):IsPred fn p a.kids :=
 ⟨hg,fun m L x k hk hr=>h k m L x hr (bJ ((dg hk)) hB)⟩
theorem pr0 {l:List Tree}:∀ q∈([]:List (FuncId×(Tree→Bool))),IsPred q.1 q.2 l:=fun _ h=>by cases h
theorem pr1 {l:List Tree} {f:FuncId} {p:Tree→Bool} (h:IsPred f p l):∀ q∈[(f,p)],IsPred q.1 q.2 l:=fun q hq=>by
 rw[List.mem_singleton.1 hq];exact h
theorem pr2 {l:List Tree} {f f2:FuncId} {p p2:Tree→Bool} (h:IsPred f p l) (h2:IsPred f2 p2 l):∀ q∈[(f,p),(f2,p2)],IsPred q.1 q.2 l:=fun q hq=>by
 rcases List.mem_cons.1 hq with e | hq
 ·rw[e];exact h
 ·exact pr1 h2 q hq
theorem pr3 {l:List Tree} {f f2 f3:FuncId} {p p2 p3:Tree→Bool} (h:IsPred f p l) (h2:IsPred f2 p2 l) (h3:IsPred f3 p3 l):∀ q∈[(f,p),(f2,p2),(f3,p3)],IsPred q.1 q.2 l:=fun q hq=>by
 rcases List.mem_cons.1 hq with e | hq
 ·rw[e];exact h
 ·exact pr2 h2 h3 q hq
theorem po0 {l:List Tree}:∀ q:FuncId×(Tree→Bool),none=some q→IsPred q.1 q.2 l:=fun _ h=>by cases h
theorem po1 {l:List Tree} {f:FuncId} {p:Tree→Bool} (h:IsPred f p l):∀ q:FuncId×(Tree→Bool),some (f,p)=some q→IsPred q.1 q.2 l:=fun q e=>by
 cases e;exact h
theorem expr_teller (g:Sg) (a:Tree) (m:Mem) (L:List Item) (h:HTree) (hr:TreeRep m h a) (hB:a.wide≤140737488355328) (hE:IsPred 161 g.expr a.kids) (hK:IsPred 74 g.block a.kids) :
  TCall Tryz.prog 161 ⟨[treeV h]⟩ m L (Ret (.bool (exprS g a)) m L):=by
 have hT:IsPred 71 Tree.isType a.kids:=kidPred goes71 hB fun b m L h hr hB=>type_law b m L h hr hB;have hSg:IsPred 73 Tree.isSig a.kids:=kidPred goes73 hB fun b m L h hr hB=>sig_law b m L h hr hB;have hr':=hr;obtain⟨h1,h2,h3,h4⟩:=hr;have hl:=h4.len;refine mR ?_;unfold exprS TCall;refine cJ Tryz.func161 rfl 170 rfl ?_;by_cases hk40:a.kind=40
 ·rw[if_pos hk40];obtain⟨k,n,u,s⟩:=h;obtain rfl:k=40:=h1.trans hk40;simp only at h2 h3 h4 hl;subst h2;subst h3;refine uA ?_;refine ay (fun b=>?_);refine au goes33 (bare_law _ _ ⟨40,a.name,a.num,s⟩ a hr' (decide (0≤a.num)) false true) ?_;refine aF (fun h7=>?_) (fun h7=>?_)
  ·refine uL ?_;have hm1:=cB m;refine au goes70 (dl m _ ⟨40,a.name,a.num,s⟩ a hr' ⟨none,0,0⟩ [] none (cR _ _) pr0 po0) ?_;exact eR
  ·exact ee
 rw[if_neg hk40];by_cases hk41:a.kind=41
 ·rw[if_pos hk41];obtain⟨k,n,u,s⟩:=h;obtain rfl:k=41:=h1.trans hk41;simp only at h2 h3 h4 hl;subst h2;subst h3;refine uA ?_;refine ay (fun b=>?_);refine au goes33 (bare_law _ _ ⟨41,a.name,a.num,s⟩ a hr' (decide ((a.name.length:Int)≤1024)) true false) ?_;refine aF (fun h7=>?_) (fun h7=>?_)
  ·refine uL ?_;have hm1:=cB m;refine au goes70 (dl m _ ⟨41,a.name,a.num,s⟩ a hr' ⟨none,0,0⟩ [] none (cR _ _) pr0 po0) ?_;exact eR
  ·exact ee
 rw[if_neg hk41];by_cases hk42:a.kind=42
 ·rw[if_pos hk42];obtain⟨k,n,u,s⟩:=h;obtain rfl:k=42:=h1.trans hk42;simp only at h2 h3 h4 hl;subst h2;subst h3;refine uA ?_;refine ay (fun b=>?_);refine nv ?_;refine uA ?_;refine au goes33 (bare_law _ _ ⟨42,a.name,a.num,s⟩ a hr' (decide (a.num / 2=0)) false true) ?_;refine aF (fun h7=>?_) (fun h7=>?_)
  ·refine uL ?_;have hm1:=cB m;refine au goes70 (dl m _ ⟨42,a.name,a.num,s⟩ a hr' ⟨none,0,0⟩ [] none (cR _ _) pr0 po0) ?_;exact eR
  ·exact ee
 rw[if_neg hk42];by_cases hk43:a.kind=43
 ·rw[if_pos hk43];obtain⟨k,n,u,s⟩:=h;obtain rfl:k=43:=h1.trans hk43;simp only at h2 h3 h4 hl;subst h2;subst h3;refine uA ?_;refine ay (fun b=>?_);refine au goes33 (bare_law _ _ ⟨43,a.name,a.num,s⟩ a hr' true false false) ?_;refine aF (fun h7=>?_) (fun h7=>?_)
  ·refine uL ?_;have hm1:=cB m;refine au goes70 (dl m _ ⟨43,a.name,a.num,s⟩ a hr' ⟨none,0,0⟩ [] none (cR _ _) pr0 po0) ?_;exact eR
  ·exact ee
 rw[if_neg hk43];by_cases hk44:a.kind=44
 ·rw[if_pos hk44];obtain⟨k,n,u,s⟩:=h;obtain rfl:k=44:=h1.trans hk44;simp only at h2 h3 h4 hl;subst h2;subst h3;refine uA ?_;refine ay (fun b=>?_);refine au goes68 (of_law _ _ ⟨44,a.name,a.num,s⟩ a hr' hB 44) ?_;refine aF (fun h7=>?_) (fun h7=>?_)
  ·refine uL ?_;have hm1:=cB m;refine au goes70 (dl m _ ⟨44,a.name,a.num,s⟩ a hr' ⟨none,0,0⟩ [] none (cR _ _) pr0 po0) ?_;exact eR
  ·exact ee
 rw[if_neg hk44];by_cases hk45:a.kind=45
 ·rw[if_pos hk45];obtain⟨k,n,u,s⟩:=h;obtain rfl:k=45:=h1.trans hk45;simp only at h2 h3 h4 hl;subst h2;subst h3;refine uA ?_;refine ay (fun b=>?_);refine au goes68 (of_law _ _ ⟨45,a.name,a.num,s⟩ a hr' hB 45) ?_;refine aF (fun h7=>?_) (fun h7=>?_)
  ·refine uL ?_;have hm1:=cB m;refine nD ?_;exact eR
  ·exact ee
 rw[if_neg hk45];by_cases hk46:a.kind=46
 ·rw[if_pos hk46];obtain⟨k,n,u,s⟩:=h;obtain rfl:k=46:=h1.trans hk46;simp only at h2 h3 h4 hl;subst h2;subst h3;refine uA ?_;refine ay (fun b=>?_);refine au goes33 (bare_law _ _ ⟨46,a.name,a.num,s⟩ a hr' true false false) ?_;refine aF (fun h7=>?_) (fun h7=>?_)
  ·refine uL ?_;refine aj (hs:=[71]) (l:=[71]) tab rFn ⟨rfl,trivial⟩ uH ov (fun s1 m1 hm1 hs1 _ _=>?_);refine uA ?_;refine au goes70 (dl m1 _ ⟨46,a.name,a.num,s⟩ a (hr'.mono hm1) s1 [(71,Tree.isType)] (some (161,g.expr)) hs1 (pr1 hT) (po1 hE)) ?_;exact eR
  ·exact ee
 rw[if_neg hk46];by_cases hk47:a.kind=47
 ·rw[if_pos hk47];obtain⟨k,n,u,s⟩:=h;obtain rfl:k=47:=h1.trans hk47;simp only at h2 h3 h4 hl;subst h2;subst h3;refine uA ?_;refine ay (fun b=>?_);refine au goes33 (bare_law _ _ ⟨47,a.name,a.num,s⟩ a hr' true false false) ?_;refine aF (fun h7=>?_) (fun h7=>?_)
  ·refine uL ?_;refine aj (hs:=[73,74]) (l:=[73,74]) tab rFn ⟨rfl,rfl,trivial⟩ uH ov (fun s1 m1 hm1 hs1 _ _=>?_);refine uA ?_;refine au goes70 (dl m1 _ ⟨47,a.name,a.num,s⟩ a (hr'.mono hm1) s1 [(73,Tree.isSig),(74,g.block)] none hs1 (pr2 hSg hK) po0) ?_;exact eR
  ·exact ee
 rw[if_neg hk47];by_cases hk48:a.kind=48
 ·rw[if_pos hk48];obtain⟨k,n,u,s⟩:=h;obtain rfl:k=48:=h1.trans hk48;simp only at h2 h3 h4 hl;subst h2;subst h3;refine uA ?_;refine ay (fun b=>?_);refine au goes68 (of_law _ _ ⟨48,a.name,a.num,s⟩ a hr' hB 48) ?_;refine aF (fun h7=>?_) (fun h7=>?_)
  ·refine uL ?_;refine aj (hs:=[161]) (l:=[161]) tab rFn ⟨rfl,trivial⟩ uH ov (fun s1 m1 hm1 hs1 _ _=>?_);refine uA ?_;refine au goes70 (dl m1 _ ⟨48,a.name,a.num,s⟩ a (hr'.mono hm1) s1 [(161,g.expr)] none hs1 (pr1 hE) po0) ?_;exact eR
  ·exact ee
 rw[if_neg hk48];by_cases hk49:a.kind=49
 ·rw[if_pos hk49];obtain⟨k,n,u,s⟩:=h;obtain rfl:k=49:=h1.trans hk49;simp only at h2 h3 h4 hl;subst h2;subst h3;refine uA ?_;refine ay (fun b=>?_);refine au goes33 (bare_law _ _ ⟨49,a.name,a.num,s⟩ a hr' true false false) ?_;refine aF (fun h7=>?_) (fun h7=>?_)
  ·refine uL ?_;refine aj (hs:=[161,161]) (l:=[161,161]) tab rFn ⟨rfl,rfl,trivial⟩ uH ov (fun s1 m1 hm1 hs1 _ _=>?_);refine uA ?_;refine au goes70 (dl m1 _ ⟨49,a.name,a.num,s⟩ a (hr'.mono hm1) s1 [(161,g.expr),(161,g.expr)] none hs1 (pr2 hE hE) po0) ?_;exact eR
  ·exact ee
 rw[if_neg hk49];by_cases hk50:a.kind=50
 ·rw[if_pos hk50];obtain⟨k,n,u,s⟩:=h;obtain rfl:k=50:=h1.trans hk50;simp only at h2 h3 h4 hl;subst h2;subst h3;refine uA ?_;refine ay (fun b=>?_);refine qs rfl (OT.shK (r:=a.num / 4) rfl (.inr rfl) rfl rfl rfl rfl ov (by show Int.fdiv a.num 4=a.num / 4;exact Int.fdiv_eq_ediv_of_nonneg _ ov) ?_);refine uA ?_;refine az (fun e4=>?_) (fun e4=>?_)
  ·have hlv:a.num=0∨a.num=1∨a.num=2∨a.num=3:=ou;have hand:∀ w,(Op.intBits .and .i64 a.num 1).run Tryz.prog w = .ok (.int .i64 (a.num % 2)) w:=by
    rcases hlv with e | e | e | e<;>(intro w;rw[e];rfl)
   have hlv2:lvl a=decide ((s.len:Int)=1+a.num % 2+a.num / 2):=by
    unfold lvl;rw[bS (show 0≤a.num by omega),bS (show a.num≤3 by omega),hl];rfl
   rw[hlv2];refine uL ?_;refine qs rfl (OT.andK (r:=a.num % 2) rfl rfl rfl rfl rfl hand ?_);refine qs rfl (OT.arith (r':=1+a.num % 2) rfl rfl rfl rfl rfl rfl ou ou ?_);refine uL ?_;refine nv ?_;refine aZ (r':=1+a.num % 2+a.num / 2) uH ou ou ?_;refine au goes33 (bare_law _ _ ⟨50,a.name,a.num,s⟩ a hr' (decide ((s.len:Int)=1+a.num % 2+a.num / 2)) false true) ?_;refine aF (fun h7=>?_) (fun h7=>?_)
   ·refine uL ?_;refine nD ?_;exact er
   ·exact ee
  ·have hlv2:lvl a=false:=by
    unfold lvl;by_cases h5:0≤a.num
    ·rw[bU (show ¬a.num≤3 by omega),Bool.false_and,Bool.and_false]
    ·rw[bU h5];rfl
   rw[hlv2];refine uL ?_;refine au goes33 (bare_law _ _ ⟨50,a.name,a.num,s⟩ a hr' false false true) ?_;exact cH rfl uS ⟨cB _,rfl,rfl⟩
 rw[if_neg hk50];by_cases hk51:a.kind=51
 ·rw[if_pos hk51];obtain⟨k,n,u,s⟩:=h;obtain rfl:k=51:=h1.trans hk51;simp only at h2 h3 h4 hl;subst h2;subst h3;refine uA ?_;refine ay (fun b=>?_);refine au goes33 (bare_law _ _ ⟨51,a.name,a.num,s⟩ a hr' true false false) ?_;refine aF (fun h7=>?_) (fun h7=>?_)
  ·refine uL ?_;refine aj (hs:=[161]) (l:=[161]) tab rFn ⟨rfl,trivial⟩ uH ov (fun s1 m1 hm1 hs1 _ _=>?_);refine uA ?_;refine au goes70 (dl m1 _ ⟨51,a.name,a.num,s⟩ a (hr'.mono hm1) s1 [(161,g.expr)] (some (161,g.expr)) hs1 (pr1 hE) (po1 hE)) ?_;exact eR
  ·exact ee
 rw[if_neg hk51];by_cases hk52:a.kind=52
 ·rw[if_pos hk52];obtain⟨k,n,u,s⟩:=h;obtain rfl:k=52:=h1.trans hk52;simp only at h2 h3 h4 hl;subst h2;subst h3;refine uA ?_;refine ay (fun b=>?_);refine TC.draw [] dc 12 rfl [.cells b 0 [.int .i64 52,strV a.name,.int .i64 a.num,s.v]] L uP ?_;refine ae (k:=0) 0 0 ?_;refine cT tab uC uK [2] uK rfl ?_;refine ae 3 0 ?_;refine af 1 ?_;refine db tab rStr (hs:=[[45],[33],[38],[42]]) (l:=[[45],[33],[38],[42]]) ⟨rfl,rfl,rfl,rfl,trivial⟩ rfl rfl rfl rfl rfl ov (fun s1 m1 hm1 hs1 _ _=>?_);refine⟨hm1,_,bj _,?_⟩;refine af 4 (cQ rfl rfl rfl rfl rfl rfl goes104 ((contains_str _ _ s1 ops4 a.name hs1).x ?_));rintro _ _ _ ⟨rfl,rfl,rfl⟩;refine⟨cB _,_,bj _,?_⟩;refine af 5 (cQ rfl rfl rfl rfl rfl rfl goes33 ((bare_law _ _ ⟨52,a.name,a.num,s⟩ a (hr'.mono hm1) (decide (a.name∈ops4)) true false).x ?_));rintro _ _ _ ⟨rfl,rfl,rfl⟩;refine⟨cB _,_,bj _,?_⟩;refine nY ?_;refine DO.split (d:=151) rfl (fun h7=>?_) (fun h7=>?_);refine ae (k:=0) 7 0 ?_;refine af 8 ?_;refine db tab rFn (hs:=[161]) (l:=[161]) ⟨rfl,trivial⟩ rfl rfl rfl rfl rfl ov (fun s2 m2 hm2 hs2 _ _=>?_);refine⟨hm2,_,bj _,?_⟩;refine af 9 (cQ rfl rfl rfl rfl rfl rfl goes70 ((dl m2 _ ⟨52,a.name,a.num,s⟩ a (hr'.mono (cC hm1 hm2)) s2 [(161,g.expr)] none hs2 (pr1 hE) po0).x ?_));rintro _ _ _ ⟨rfl,rfl,rfl⟩;refine⟨cB _,_,bj _,?_⟩;refine mM ?_;refine aX ?_
  rotate_left 1
  refine cT tab uC uK [7,8,9,10,11] uK rfl ?_;refine aX ?_
  rotate_left 1
  ·refine uA ?_;refine ah ⟨cC hm1 hm2,rfl,?_⟩;rw[h7];rfl
  ·refine uA ?_;exact eR
 rw[if_neg hk52];by_cases hk53:a.kind=53
 ·rw[if_pos hk53];obtain⟨k,n,u,s⟩:=h;obtain rfl:k=53:=h1.trans hk53;simp only at h2 h3 h4 hl;subst h2;subst h3;refine uA ?_;refine ay (fun b=>?_);refine TC.draw [] dc 13 rfl [.cells b 0 [.int .i64 53,strV a.name,.int .i64 a.num,s.v]] L uP ?_;refine ae (k:=0) 0 0 ?_;refine cT tab uC uK [3] uK rfl ?_;refine ae 4 0 ?_;refine af 1 (cQ rfl rfl rfl rfl rfl rfl goes189 ((levels_law _ _).x ?_));rintro _ m0 _ ⟨hm0,rfl,s0,rfl,hs0⟩;refine⟨hm0,_,bj _,?_⟩;refine DO.run 2 rfl rfl uK rfl (cQ rfl rfl rfl rfl rfl rfl goes188 ((concatS_law m0 _ s0 Ps.levels hs0 ov).x ?_));rintro _ m1 _ ⟨hm1,rfl,s1,rfl,hs1⟩;refine⟨hm1,_,bj _,?_⟩;refine af 5 (cQ rfl rfl rfl rfl rfl rfl goes104 ((contains_str _ _ s1 Ps.levels.flatten a.name hs1).x ?_));rintro _ _ _ ⟨rfl,rfl,rfl⟩;refine⟨cB _,_,bj _,?_⟩;refine af 6 (cQ rfl rfl rfl rfl rfl rfl goes33 ((bare_law _ _ ⟨53,a.name,a.num,s⟩ a (hr'.mono (cC hm0 hm1)) (decide (a.name∈Ps.levels.flatten)) true false).x ?_));rintro _ _ _ ⟨rfl,rfl,rfl⟩;refine⟨cB _,_,bj _,?_⟩;refine cT tab uC uK [7] uK rfl ?_;refine DO.split (d:=165) rfl (fun h7=>?_) (fun h7=>?_);refine ae (k:=0) 8 0 ?_;refine af 9 ?_;refine db tab rFn (hs:=[161,161]) (l:=[161,161]) ⟨rfl,rfl,trivial⟩ rfl rfl rfl rfl rfl ov (fun s2 m2 hm2 hs2 _ _=>?_);refine⟨hm2,_,bj _,?_⟩;refine af 10 (cQ rfl rfl rfl rfl rfl rfl goes70 ((dl m2 _ ⟨53,a.name,a.num,s⟩ a (hr'.mono (cC (cC hm0 hm1) hm2)) s2 [(161,g.expr),(161,g.expr)] none hs2 (pr2 hE hE) po0).x ?_));rintro _ _ _ ⟨rfl,rfl,rfl⟩;refine⟨cB _,_,bj _,?_⟩;refine mr ?_;refine aX ?_
  rotate_left 1
  refine cT tab uC uK [8,9,10,11,12] uK rfl ?_;refine aX ?_
  rotate_left 1
  ·refine uA ?_;refine ah ⟨cC (cC hm0 hm1) hm2,rfl,?_⟩;rw[h7];rfl
  ·refine uA ?_;refine ah ⟨cC hm0 hm1,rfl,?_⟩;rw[h7];rfl
 rw[if_neg hk53];refine uA ?_;refine ay (fun b=>?_);refine ap (fun h5=>?_) (fun h5=>?_)
 ·omega
 refine uA ?_;refine ap (fun h5=>?_) (fun h5=>?_)
 ·omega
 refine uA ?_;refine ap (fun h5=>?_) (fun h5=>?_)
 ·omega
 refine uA ?_;refine ap (fun h5=>?_) (fun h5=>?_)
 ·omega
 refine uA ?_;refine ap (fun h5=>?_) (fun h5=>?_)
 ·omega
 refine uA ?_;refine ap (fun h5=>?_) (fun h5=>?_)
 ·omega
 refine uA ?_;refine ap (fun h5=>?_) (fun h5=>?_)
 ·omega
 refine uA ?_;refine ap (fun h5=>?_) (fun h5=>?_)
 ·omega
 refine uA ?_;refine ap (fun h5=>?_) (fun h5=>?_)
 ·omega
 refine uA ?_;refine ap (fun h5=>?_) (fun h5=>?_)
 ·omega
 refine uA ?_;exact eP
end Go.Sep
namespace Go.Sep
open Go.Proofs
attribute [local irreducible] TC TO OT TCallX TCall DO DOt thenQ blockQ retQ At
theorem block_teller (g:Sg) (a:Tree) (m:Mem) (L:List Item) (h:HTree) (hr:TreeRep m h a) (hS:IsPred 125 g.stmt a.kids) :
  TCall Tryz.prog 74 ⟨[treeV h]⟩ m L (Ret (.bool (blockS g a)) m L):=by
 have hr':=hr;obtain⟨h1,h2,h3,h4⟩:=hr;unfold TCall;refine ag Tryz.func74 13 ?_;refine ay (fun b=>?_);refine oR goes33 (bare_law _ _ h a hr' (decide (h.kind=20)) false false) ?_;unfold blockS;rw[←h1];refine uA ?_;refine aF (fun h7=>?_) (fun h7=>?_)
 ·refine uL ?_;refine au goes34 (pall_law _ _ h.kids a.kids h4 125 g.stmt hS) ?_;exact fW
 ·refine uA ?_;exact fW
theorem nm_pred {g:Sg} {l:List Tree} (hE:IsPred 161 g.expr l):IsPred 163 (nmS g) l:=by
 refine⟨goes163,fun m L h a ha hr=>?_⟩;have hr':=hr;obtain⟨h1,h2,h3,h4⟩:=hr;unfold TCall;refine ag Tryz.func163 10 ?_;refine ay (fun b=>?_);unfold nmS;rw[←h1];refine az (fun e1=>?_) (fun e1=>?_)
 ·refine uL ?_;refine au hE.1 (hE.2 _ _ h a ha hr') ?_;exact gI
 ·exact fN
theorem call_pred {g:Sg} {l:List Tree} (hE:IsPred 161 g.expr l):IsPred 164 (callS g) l:=by
 refine⟨goes164,fun m L h a ha hr=>?_⟩;have hr':=hr;obtain⟨h1,h2,h3,h4⟩:=hr;unfold TCall;refine ag Tryz.func164 10 ?_;refine ay (fun b=>?_);unfold callS;rw[←h1];refine az (fun e1=>?_) (fun e1=>?_)
 ·refine uL ?_;refine au hE.1 (hE.2 _ _ h a ha hr') ?_;exact gI
 ·exact fN
theorem pl_pred {g:Sg} {l:List Tree} (hE:IsPred 161 g.expr l):IsPred 162 (plS g) l:=by
 refine⟨goes162,fun m L h a ha hr=>?_⟩;have hr':=hr;obtain⟨h1,h2,h3,h4⟩:=hr;unfold TCall;refine ag Tryz.func162 9 ?_;refine ay (fun b=>?_);refine oR isPl_tells.1 (isPl_tells.2 _ _ h a hr') ?_;unfold plS;refine uA ?_;refine aF (fun h7=>?_) (fun h7=>?_)
 ·refine uL ?_;refine au hE.1 (hE.2 _ _ h a ha hr') ?_;exact fW
 ·refine uA ?_;exact fW
theorem other_pred {g:Sg} {l:List Tree} (hK:IsPred 74 g.block l) (hS:IsPred 125 g.stmt l):IsPred 165 (otherS g) l:=by
 refine⟨goes165,fun m L h a ha hr=>?_⟩;have hr':=hr;obtain⟨h1,h2,h3,h4⟩:=hr;unfold TCall;refine ag Tryz.func165 14 ?_;refine ay (fun b=>?_);refine oR hK.1 (hK.2 _ _ h a ha hr') ?_;unfold otherS;rw[←h1];refine uA ?_;refine aF (fun h7=>?_) (fun h7=>?_)
 ·refine uA ?_;exact fW
 ·refine uL ?_;refine az (fun e1=>?_) (fun e1=>?_)
  ·refine uL ?_;refine au hS.1 (hS.2 _ _ h a ha hr') ?_;refine kh ?_;rw[h7,bS e1];rfl
  ·refine uA ?_;refine kh ?_;rw[h7,bU e1];rfl
theorem stmtS_no {g:Sg} {a:Tree} (h:headS a=false):stmtS g a=false:=by unfold stmtS;rw[if_pos h]
theorem stmt_teller (g:Sg) (a:Tree) (m:Mem) (L:List Item) (h:HTree) (hr:TreeRep m h a) (hB:a.wide≤140737488355328) (hE:IsPred 161 g.expr a.kids) (hK:IsPred 74 g.block a.kids) (hS:IsPred 125 g.stmt a.kids) :
  TCall Tryz.prog 125 ⟨[treeV h]⟩ m L (Ret (.bool (stmtS g a)) m L):=by
 have hT:IsPred 71 Tree.isType a.kids:=kidPred goes71 hB fun b m L h hr hB=>type_law b m L h hr hB;have hC:=call_pred hE;have hO:=other_pred hK hS;have hr':=hr;obtain⟨h1,h2,h3,h4⟩:=hr;have hl:=h4.len;refine mR ?_;unfold TCall;refine cJ Tryz.func125 rfl 121 rfl ?_;by_cases hk20:a.kind=20
 ·obtain⟨k,n,u,s⟩:=h;obtain rfl:k=20:=h1.trans hk20;simp only at h2 h3 h4 hl;subst h2;subst h3;refine uA ?_;refine ay (fun b=>?_);refine cK rfl rfl (fun e1=>?_) (fun e1=>?_)
  ·refine uA ?_;refine kI ?_;rw[stmtS_no (show headS a=false by unfold headS;rw[hk20,bU e1];rfl)]
  refine uL ?_;refine a7 (fun e2=>?_) (fun e2=>?_)
  ·simp only at e2;refine mf ?_;rw[stmtS_no (show headS a=false by unfold headS;rw[hk20,bU e2];simp)]
  simp only at e2;refine uL ?_;have hh:headS a=true:=by unfold headS;rw[hk20,bS e1,bS e2];simp
  have hspec:stmtS g a=blockS g a:=by unfold stmtS;rw[if_neg o8];simp[hk20]
  refine nH ?_;refine au goes74 (block_teller g a _ _ ⟨20,a.name,a.num,s⟩ hr' hS) ?_;refine kI ?_;rfl
 by_cases hk21:a.kind=21
 ·obtain⟨k,n,u,s⟩:=h;obtain rfl:k=21:=h1.trans hk21;simp only at h2 h3 h4 hl;subst h2;subst h3;refine uA ?_;refine ay (fun b=>?_);refine a7 (fun e2=>?_) (fun e2=>?_)
  ·simp only at e2;refine mf ?_;rw[stmtS_no (show headS a=false by unfold headS;rw[hk21,bU e2];simp)]
  simp only at e2;refine uL ?_;have hh:headS a=true:=by unfold headS;rw[hk21,bS e2];simp
  have hspec:stmtS g a=(isName a.name&&(kidsR [Tree.isType] none a.kids||kidsR [Tree.isType,g.expr] none a.kids)):=by unfold stmtS;rw[if_neg o8];simp[hk21]
  refine nH ?_;refine au goes123 (named_law _ _ ⟨21,a.name,a.num,s⟩ a hr' hB) ?_;refine aF (fun h7=>?_) (fun h7=>?_)
  ·refine uL ?_;refine aj (hs:=[71]) (l:=[71]) tab rFn ⟨rfl,trivial⟩ uH ov (fun s1 m1 hm1 hs1 _ _=>?_);refine uA ?_;refine au goes70 (dl m1 _ ⟨21,a.name,a.num,s⟩ a (hr'.mono hm1) s1 [(71,Tree.isType)] none hs1 (pr1 hT) po0) ?_;refine aF (fun h8=>?_) (fun h8=>?_)
   ·skip;refine nq ?_;rw[h7,show kidsR [Tree.isType] none a.kids=true from h8];rfl
   ·refine uL ?_;refine aj (hs:=[71,161]) (l:=[71,161]) tab rFn ⟨rfl,rfl,trivial⟩ uH ov (fun s2 m2 hm2 hs2 _ _=>?_);refine uA ?_;refine au goes70 (dl m2 _ ⟨21,a.name,a.num,s⟩ a (hr'.mono (cC hm1 hm2)) s2 [(71,Tree.isType),(161,g.expr)] none hs2 (pr2 hT hE) po0) ?_;refine ah ⟨(cC hm1 hm2),rfl,?_⟩;rw[h7,show kidsR [Tree.isType] none a.kids=false from h8];rfl
  ·skip;exact ee
 by_cases hk22:a.kind=22
 ·obtain⟨k,n,u,s⟩:=h;obtain rfl:k=22:=h1.trans hk22;simp only at h2 h3 h4 hl;subst h2;subst h3;refine uA ?_;refine ay (fun b=>?_);refine cK rfl rfl (fun e1=>?_) (fun e1=>?_)
  ·refine uA ?_;refine kI ?_;rw[stmtS_no (show headS a=false by unfold headS;rw[hk22,bU e1];rfl)]
  refine uL ?_;have hh:headS a=true:=by unfold headS;rw[hk22,bS e1];simp
  have hspec:stmtS g a=asgS g (nmS g) a:=by unfold stmtS;rw[if_neg o8];simp[hk22]
  rw[hspec];unfold asgS;have hp1:IsPred 161 g.expr (a.kids.drop a.num.toNat):=⟨hE.1,fun m L x b hb=>hE.2 m L x b (List.mem_of_mem_drop hb)⟩
  have hp2':=nm_pred hE;have hp2:IsPred 163 (nmS g) (a.kids.take a.num.toNat):=⟨hp2'.1,fun m L x b hb=>hp2'.2 m L x b (cu hb)⟩
  refine uL ?_;refine az (fun e3=>?_) (fun e3=>?_)
  ·simp only at e3;refine uL ?_;refine az (fun e4=>?_) (fun e4=>?_)
   ·simp only at e4;have hnum:a.num=((a.num.toNat:Nat):Int):=ou;rw[bS e3,bS (show a.num<(a.kids.length:Int) by omega),bR,bR];refine uL ?_;refine qs rfl (OT.cut tab rTree 0 a.num.toNat h4 rfl rfl rfl rfl rfl rfl rfl (.inl ⟨rfl,rfl⟩) (.inr (by rw[←hnum])) (cm _) ou (fun s1 hs1=>?_));rw[cA]at hs1;refine uA ?_;refine au goes34 (pall_law _ _ s1 _ hs1 163 (nmS g) hp2) ?_;exact fa
   ·exact gR
  ·exact jA
 by_cases hk23:a.kind=23
 ·obtain⟨k,n,u,s⟩:=h;obtain rfl:k=23:=h1.trans hk23;simp only at h2 h3 h4 hl;subst h2;subst h3;refine uA ?_;refine ay (fun b=>?_);refine cK rfl rfl (fun e1=>?_) (fun e1=>?_)
  ·refine uA ?_;refine kI ?_;rw[stmtS_no (show headS a=false by unfold headS;rw[hk23,bU e1];rfl)]
  refine uL ?_;have hh:headS a=true:=by unfold headS;rw[hk23,bS e1];simp
  have hspec:stmtS g a=asgS g (plS g) a:=by unfold stmtS;rw[if_neg o8];simp[hk23]
  rw[hspec];unfold asgS;have hp1:IsPred 161 g.expr (a.kids.drop a.num.toNat):=⟨hE.1,fun m L x b hb=>hE.2 m L x b (List.mem_of_mem_drop hb)⟩
  have hp2':=pl_pred hE;have hp2:IsPred 162 (plS g) (a.kids.take a.num.toNat):=⟨hp2'.1,fun m L x b hb=>hp2'.2 m L x b (cu hb)⟩
  refine uL ?_;refine az (fun e3=>?_) (fun e3=>?_)
  ·simp only at e3;refine uL ?_;refine az (fun e4=>?_) (fun e4=>?_)
   ·simp only at e4;have hnum:a.num=((a.num.toNat:Nat):Int):=ou;rw[bS e3,bS (show a.num<(a.kids.length:Int) by omega),bR,bR];refine uL ?_;refine qs rfl (OT.cut tab rTree 0 a.num.toNat h4 rfl rfl rfl rfl rfl rfl rfl (.inl ⟨rfl,rfl⟩) (.inr (by rw[←hnum])) (cm _) ou (fun s1 hs1=>?_));rw[cA]at hs1;refine uA ?_;refine au goes34 (pall_law _ _ s1 _ hs1 162 (plS g) hp2) ?_;exact fa
   ·exact gR
  ·exact jA
 by_cases hk24:a.kind=24
 ·obtain⟨k,n,u,s⟩:=h;obtain rfl:k=24:=h1.trans hk24;simp only at h2 h3 h4 hl;subst h2;subst h3;refine uA ?_;refine ay (fun b=>?_);refine cK rfl rfl (fun e1=>?_) (fun e1=>?_)
  ·refine uA ?_;refine kI ?_;rw[stmtS_no (show headS a=false by unfold headS;rw[hk24,bU e1];rfl)]
  refine uL ?_;refine a7 (fun e2=>?_) (fun e2=>?_)
  ·simp only at e2;refine mf ?_;rw[stmtS_no (show headS a=false by unfold headS;rw[hk24,bU e2];simp)]
  simp only at e2;refine uL ?_;have hh:headS a=true:=by unfold headS;rw[hk24,bS e1,bS e2];simp
  have hspec:stmtS g a=kidsR [callS g] none a.kids:=by unfold stmtS;rw[if_neg o8];simp[hk24]
  refine nH ?_;refine aj (hs:=[164]) (l:=[164]) tab rFn ⟨rfl,trivial⟩ uH ov (fun s1 m1 hm1 hs1 _ _=>?_);refine uA ?_;refine au goes70 (dl m1 _ ⟨24,a.name,a.num,s⟩ a (hr'.mono hm1) s1 [(164,callS g)] none hs1 (pr1 hC) po0) ?_;refine lk ?_;rfl
 by_cases hk25:a.kind=25
 ·obtain⟨k,n,u,s⟩:=h;obtain rfl:k=25:=h1.trans hk25;simp only at h2 h3 h4 hl;subst h2;subst h3;refine uA ?_;refine ay (fun b=>?_);refine cK rfl rfl (fun e1=>?_) (fun e1=>?_)
  ·refine uA ?_;refine kI ?_;rw[stmtS_no (show headS a=false by unfold headS;rw[hk25,bU e1];rfl)]
  refine uL ?_;refine a7 (fun e2=>?_) (fun e2=>?_)
  ·simp only at e2;refine mf ?_;rw[stmtS_no (show headS a=false by unfold headS;rw[hk25,bU e2];simp)]
  simp only at e2;refine uL ?_;have hh:headS a=true:=by unfold headS;rw[hk25,bS e1,bS e2];simp
  have hspec:stmtS g a=(kidsR [g.expr,g.block] none a.kids||kidsR [g.expr,g.block,otherS g] none a.kids):=by unfold stmtS;rw[if_neg o8];simp[hk25]
  refine nH ?_;refine aj (hs:=[161,74]) (l:=[161,74]) tab rFn ⟨rfl,rfl,trivial⟩ uH ov (fun s1 m1 hm1 hs1 _ _=>?_);refine uA ?_;refine au goes70 (dl m1 _ ⟨25,a.name,a.num,s⟩ a (hr'.mono hm1) s1 [(161,g.expr),(74,g.block)] none hs1 (pr2 hE hK) po0) ?_;refine aF (fun h8=>?_) (fun h8=>?_)
  ·skip;refine nq ?_;rw[show kidsR [g.expr,g.block] none a.kids=true from h8];rfl
  ·refine uL ?_;refine aj (hs:=[161,74,165]) (l:=[161,74,165]) tab rFn ⟨rfl,rfl,rfl,trivial⟩ uH ov (fun s2 m2 hm2 hs2 _ _=>?_);refine uA ?_;refine au goes70 (dl m2 _ ⟨25,a.name,a.num,s⟩ a (hr'.mono (cC hm1 hm2)) s2 [(161,g.expr),(74,g.block),(165,otherS g)] none hs2 (pr3 hE hK hO) po0) ?_;refine ah ⟨(cC hm1 hm2),rfl,?_⟩;rw[show kidsR [g.expr,g.block] none a.kids=false from h8];rfl
 by_cases hk26:a.kind=26
 ·obtain⟨k,n,u,s⟩:=h;obtain rfl:k=26:=h1.trans hk26;simp only at h2 h3 h4 hl;subst h2;subst h3;refine uA ?_;refine ay (fun b=>?_);refine cK rfl rfl (fun e1=>?_) (fun e1=>?_)
  ·refine uA ?_;refine kI ?_;rw[stmtS_no (show headS a=false by unfold headS;rw[hk26,bU e1];rfl)]
  refine uL ?_;refine a7 (fun e2=>?_) (fun e2=>?_)
  ·simp only at e2;refine mf ?_;rw[stmtS_no (show headS a=false by unfold headS;rw[hk26,bU e2];simp)]
  simp only at e2;refine uL ?_;have hh:headS a=true:=by unfold headS;rw[hk26,bS e1,bS e2];simp
  have hspec:stmtS g a=(kidsR [g.block] none a.kids||kidsR [g.expr,g.block] none a.kids):=by unfold stmtS;rw[if_neg o8];simp[hk26]
  refine nH ?_;refine aj (hs:=[74]) (l:=[74]) tab rFn ⟨rfl,trivial⟩ uH ov (fun s1 m1 hm1 hs1 _ _=>?_);refine uA ?_;refine au goes70 (dl m1 _ ⟨26,a.name,a.num,s⟩ a (hr'.mono hm1) s1 [(74,g.block)] none hs1 (pr1 hK) po0) ?_;refine aF (fun h8=>?_) (fun h8=>?_)
  ·skip;refine nq ?_;rw[show kidsR [g.block] none a.kids=true from h8];rfl
  ·refine uL ?_;refine aj (hs:=[161,74]) (l:=[161,74]) tab rFn ⟨rfl,rfl,trivial⟩ uH ov (fun s2 m2 hm2 hs2 _ _=>?_);refine uA ?_;refine au goes70 (dl m2 _ ⟨26,a.name,a.num,s⟩ a (hr'.mono (cC hm1 hm2)) s2 [(161,g.expr),(74,g.block)] none hs2 (pr2 hE hK) po0) ?_;refine ah ⟨(cC hm1 hm2),rfl,?_⟩;rw[show kidsR [g.block] none a.kids=false from h8];rfl
 by_cases hk27:a.kind=27
 ·obtain⟨k,n,u,s⟩:=h;obtain rfl:k=27:=h1.trans hk27;simp only at h2 h3 h4 hl;subst h2;subst h3;refine uA ?_;refine ay (fun b=>?_);refine cK rfl rfl (fun e1=>?_) (fun e1=>?_)
  ·refine uA ?_;refine kI ?_;rw[stmtS_no (show headS a=false by unfold headS;rw[hk27,bU e1];rfl)]
  refine uL ?_;refine a7 (fun e2=>?_) (fun e2=>?_)
  ·simp only at e2;refine mf ?_;rw[stmtS_no (show headS a=false by unfold headS;rw[hk27,bU e2];simp)]
  simp only at e2;refine uL ?_;have hh:headS a=true:=by unfold headS;rw[hk27,bS e1,bS e2];simp
  have hspec:stmtS g a=a.kids.all g.expr:=by unfold stmtS;rw[if_neg o8];simp[hk27]
  refine nH ?_;refine nD ?_;refine kI ?_;rfl
 by_cases hk28:a.kind=28
 ·obtain⟨k,n,u,s⟩:=h;obtain rfl:k=28:=h1.trans hk28;simp only at h2 h3 h4 hl;subst h2;subst h3;refine uA ?_;refine ay (fun b=>?_);refine cK rfl rfl (fun e1=>?_) (fun e1=>?_)
  ·refine uA ?_;refine kI ?_;rw[stmtS_no (show headS a=false by unfold headS;rw[hk28,bU e1];rfl)]
  refine uL ?_;refine a7 (fun e2=>?_) (fun e2=>?_)
  ·simp only at e2;refine mf ?_;rw[stmtS_no (show headS a=false by unfold headS;rw[hk28,bU e2];simp)]
  simp only at e2;refine uL ?_;have hh:headS a=true:=by unfold headS;rw[hk28,bS e1,bS e2];simp
  have hspec:stmtS g a=kidsR [] none a.kids:=by unfold stmtS;rw[if_neg o8];simp[hk28]
  refine nH ?_;refine au goes70 (dl m _ ⟨28,a.name,a.num,s⟩ a hr' ⟨none,0,0⟩ [] none (cR _ _) pr0 po0) ?_;refine ah ⟨(cB _),rfl,?_⟩;rfl
 by_cases hk29:a.kind=29
 ·obtain⟨k,n,u,s⟩:=h;obtain rfl:k=29:=h1.trans hk29;simp only at h2 h3 h4 hl;subst h2;subst h3;refine uA ?_;refine ay (fun b=>?_);refine cK rfl rfl (fun e1=>?_) (fun e1=>?_)
  ·refine uA ?_;refine kI ?_;rw[stmtS_no (show headS a=false by unfold headS;rw[hk29,bU e1];rfl)]
  refine uL ?_;refine a7 (fun e2=>?_) (fun e2=>?_)
  ·simp only at e2;refine mf ?_;rw[stmtS_no (show headS a=false by unfold headS;rw[hk29,bU e2];simp)]
  simp only at e2;refine uL ?_;have hh:headS a=true:=by unfold headS;rw[hk29,bS e1,bS e2];simp
  have hspec:stmtS g a=kidsR [] none a.kids:=by unfold stmtS;rw[if_neg o8];simp[hk29]
  refine nH ?_;refine au goes70 (dl m _ ⟨29,a.name,a.num,s⟩ a hr' ⟨none,0,0⟩ [] none (cR _ _) pr0 po0) ?_;refine ah ⟨(cB _),rfl,?_⟩;rfl
 have hspec:stmtS g a=false:=by
  unfold stmtS;split
  ·rfl
  ·simp[hk28,hk29]
 rw[hspec];refine uA ?_;refine oB (fun b=>?_)
 repeat' (first|(first|refine q1 ?_|refine q2 ?_|refine q3 ?_|refine q4 tab rfl rfl ?_|refine q5 ?_|refine q6 ?_|refine q8 ?_|refine q13 ?_|refine q15 ?_|refine q16 rfl ?_|refine q17 rfl ?_)|(refine qs rfl (ql tab 0 rfl rfl rfl rfl rfl rfl ?_))|(first|refine TO.splitP rfl rfl (fun hb=>?_) (fun hb=>?_)|refine cK rfl rfl (fun hb=>?_) (fun hb=>?_)))
 all_goals try omega
 all_goals first | exact cH rfl uS ⟨cB _,rfl,rfl⟩ | skip
 all_goals
  repeat' (first|(first|refine q1 ?_|refine q2 ?_|refine q3 ?_|refine q4 tab rfl rfl ?_|refine q5 ?_|refine q6 ?_|refine q7 ?_|refine q8 ?_|refine q13 ?_|refine q15 ?_)|refine uM ?_|(refine TC.condP rfl (fun h5=>ou) (fun h5=>?_))|(refine TC.condN rfl (fun h5=>?_) (fun h5=>?_)))
 all_goals first | exact cH rfl uS ⟨cB _,rfl,rfl⟩ | omega
end Go.Sep
namespace Go.Sep
open Go.Proofs
attribute [local irreducible] TC TO OT TCallX TCall DO DOt thenQ blockQ retQ At
def ParAt {α:Type} (P:Program) (E:PE) (V:RV α) (f:FuncId) (args:List Value) (h:Int) (X:Ps.Pp α) (m:Mem) (L:List Item) (k:Nat):Prop :=
 X E.f k≠.out→TCallX P f ⟨args⟩ m (E.I k h::L) (pR E V (X E.f k) m L h) (pX E (X E.f k) m L)
theorem ParAt.enter {α:Type} {P:Program} {E:PE} {V:RV α} {f:FuncId} {args:List Value} {h:Int} {X:Ps.Pp α} {m:Mem} {L:List Item} {k:Nat} {fn:Func} {c:Code} (hf:P.funcs[f]? = some fn) (hb:fn.body=some c) (N:Nat) (hN:Nat.ble N fn.ntmps=true)
  (hK:∀(T:Ps.Res α),T=X E.f k→T≠.out→TC P N c (argEnv args 0) [] m (E.I k h::L) (retQ P fn (pR E V T m L h) (pX E T m L))):ParAt P E V f args h X m L k :=
 fun h3=>cJ hf hb N hN (hK _ rfl h3)
theorem Par.at {α:Type} {P:Program} {mb:Mem} {E:PE} {V:RV α} {f:FuncId} {args:List Value} {h:Int} {X:Ps.Pp α} (hp:Par P mb E V f args h X) {m:Mem} (L:List Item) {k:Nat} (hm:mb≤m) (hE:E.Ok m) (hk:k≤E.toks.length):ParAt P E V f args h X m L k:=hp m L k hm hE hk
section
variable {P:Program} {N:Nat} {ρ:Env} {m:Mem} {L:List Item} {Q:EPost} {o:Oper} {K:Env→Mem→List Item→Prop} {E:PE} {α β:Type}
theorem OT.parGA {V:RV α} {FF:Operand} {args:List Operand} {ats:Array TypeId} {f:FuncId} {first cap vs all:List Value} {d:Nat} {h:Int} {p:Ps.Pp α} {g:α→Ps.Pp β} {T:Ps.Res β} {k:Nat} {m0:Mem} {L0:List Item}
  (ho:o.op = .call ⟨.value FF,⟨args⟩,ats⟩) (hd:o.dst=some d) (hN:Nat.blt d N=true)
  (hF:ev ρ FF=some (.func (.func f) ⟨first⟩ ⟨cap⟩)) (ha:evs ρ args=some vs) (hall:fl (first++(vs++cap))=some all) (hg:Goes P f)
  (hp:ParAt P E V f all h p m L k) (hT:T=Ps.bind p g E.f k) (hn:T≠.out) (hb:Bad Q E T m0 L0) (hm:m0≤m) (hL:L0.Sublist L)
  (hK:∀ v m' a k' xs,T=g a E.f k'→m≤m'→k'≤E.toks.length→V m' v xs a→K ((d,v)::ρ) m' (E.I k' h::(xs++L))):OT P N o ρ [] m (E.I k h::L) Q K:=by
 refine cQ ho hd hN hF ha hall hg (cD (hp (bind_out' hT hn)) ?_ ?_)
 ·exact iH
 ·exact il
variable {FF:Operand} {args:List Operand} {ats:Array TypeId} {f:FuncId} {first cap vs all:List Value} {d:Nat} {h:Int} {T:Ps.Res β} {k:Nat} {m0:Mem} {L0:List Item}
theorem OT.parTA {p:Ps.Pp Tree} {g:Tree→Ps.Pp β} (hp:ParAt P E vTree f all h p m L k) (hT:T=Ps.bind p g E.f k) (hn:T≠.out) (hE:E.Ok m) (hb:Bad Q E T m0 L0) (hm:m0≤m) (hL:L0.Sublist L)
  (ho:o.op = .call ⟨.value FF,⟨args⟩,ats⟩) (hd:o.dst=some d) (hN:Nat.blt d N=true)
  (hF:ev ρ FF=some (.func (.func f) ⟨first⟩ ⟨cap⟩)) (ha:evs ρ args=some vs) (hall:fl (first++(vs++cap))=some all) (hg:Goes P f)
  (hK:∀ x m' a k',T=g a E.f k'→m0≤m'→E.Ok m'→m≤m'→k'≤E.toks.length→TreeRep m' x a→K ((d,treeV x)::ρ) m' (E.I k' h::L)):OT P N o ρ [] m (E.I k h::L) Q K :=
 OT.parGA ho hd hN hF ha hall hg hp hT hn hb hm hL fun v m' a k' xs h1 h2 h3 h4=>by
  exact je
theorem OT.parSA {p:Ps.Pp (List Tree)} {g:List Tree→Ps.Pp β} (hp:ParAt P E vSl f all h p m L k) (hT:T=Ps.bind p g E.f k) (hn:T≠.out) (hE:E.Ok m) (hb:Bad Q E T m0 L0) (hm:m0≤m) (hL:L0.Sublist L)
  (ho:o.op = .call ⟨.value FF,⟨args⟩,ats⟩) (hd:o.dst=some d) (hN:Nat.blt d N=true)
  (hF:ev ρ FF=some (.func (.func f) ⟨first⟩ ⟨cap⟩)) (ha:evs ρ args=some vs) (hall:fl (first++(vs++cap))=some all) (hg:Goes P f)
  (hK:∀(x:Sl) m' a k',T=g a E.f k'→m0≤m'→E.Ok m'→m≤m'→k'≤E.toks.length→SlRep rTree m' x a→a.length≤20001→K ((d,x.v)::ρ) m' (E.I k' h::L)):OT P N o ρ [] m (E.I k h::L) Q K :=
 OT.parGA ho hd hN hF ha hall hg hp hT hn hb hm hL fun v m' a k' xs h1 h2 h3 h4=>by
  exact iZ
end
section
variable {mb:Mem} {E:PE} {h:Int}
theorem inside_at {f:FuncId} {first cap all:List Value} {X:Ps.Pp Tree} {m:Mem} {L:List Item} {k:Nat} (hall:fl (first++([]++cap))=some all) (hg:Goes Tryz.prog f) (hE:E.Ok m)
  (hX:∀ b,ParAt Tryz.prog E vTree f all 0 X m (.cells b 0 [.int .i64 0,strV [],.int .i64 0,.slice none 0 0]::L) k) :
  ParAt Tryz.prog E vTree 234 [E.v,.func (.func f) ⟨first⟩ ⟨cap⟩] h X m L k:=by
 refine ParAt.enter Tryz.func234 rfl 21 rfl fun T hT hn=>?_;have hm:m≤m:=cB _;rw[←Ps.bind_ret X]at hT;refine uA ?_;refine oA tab (fun b4=>?_);refine cL (bm _ _ _) ?_;refine kA ?_;refine oc ?_;refine qs rfl (OT.parTA (L0:=L) (hX b4) hT hn hE oz hm uS rfl rfl rfl rfl rfl hall hg (fun x m2 a k2 hT hm hE hle hk hrx=>?_));refine uA ?_;refine oA tab (fun b6=>?_);refine cL (bm _ _ _) ?_;refine kx ?_;refine oc ?_;refine ly ?_;refine av 2 ?_;refine aw (L':=E.I k2 h::L) 2 ⟨_,k2,[],hT,hm,hk,⟨x,rfl,rfl,hrx⟩,rfl⟩
theorem insideS_at {f:FuncId} {first cap all:List Value} {X:Ps.Pp (List Tree)} {m:Mem} {L:List Item} {k:Nat} (hall:fl (first++([]++cap))=some all) (hg:Goes Tryz.prog f) (hE:E.Ok m)
  (hX:ParAt Tryz.prog E vSl f all 0 X m L k) :
  ParAt Tryz.prog E vSl 241 [E.v,.func (.func f) ⟨first⟩ ⟨cap⟩] h X m L k:=by
 refine ParAt.enter Tryz.func241 rfl 21 rfl fun T hT hn=>?_;have hm:m≤m:=cB _;rw[←Ps.bind_ret X]at hT;refine kA ?_;refine oc ?_;refine qs rfl (OT.parSA (L0:=L) hX hT hn hE oz hm uS rfl rfl rfl rfl rfl hall hg (fun x m2 a k2 hT hm hE hle hk hrx hlx=>?_));refine uA ?_;refine oc ?_;refine ah (L':=E.I k2 h::L) ⟨_,k2,[],hT,hm,hk,⟨x,rfl,rfl,hrx,hlx⟩,rfl⟩
theorem exprs_par {Y:Ps.Pp Tree} (hY:Par Tryz.prog mb E vTree 199 [E.v] h Y) (e:Str) :
  Par Tryz.prog mb E vSl 238 [E.v,strV e] h (Ps.exprsP E.N e Y):=by
 refine dm Tryz.func238 rfl 17 rfl fun m L k T hm0 hE hk hT hn=>?_;replace hY:=hY.up hm0;have hm:m≤m:=cB _;unfold Ps.exprsP Ps.inP at hT;refine uA ?_;refine qs rfl (dt hT hE hk rfl rfl rfl rfl rfl rfl (fun hT hk=>?_) (fun hT=>?_))
 ·refine uA ?_;refine cH rfl (L':=E.I (k+1) h::L) uS ⟨[],k+1,[],hT,hm,hk,⟨⟨none,0,0⟩,rfl,rfl,cR _ _,by simp⟩,rfl⟩
 ·refine uA ?_;refine qs rfl (OT.parL (L0:=L) (list1_par (first:=[E.v]) (cap:=[]) rfl goes199 hY) hm hT hn hE hk oz hm uS rfl rfl rfl rfl rfl rfl goes148 (fun x m2 a k2 hT hm hE hlex hk hrx hox hlx=>?_));exact f0
theorem index_par {Y:Ps.Pp Tree} (hY:Par Tryz.prog mb E vTree 199 [E.v] 0 Y) (x:HTree) (n:Tree) (hr:TreeRep mb x n) :
  Par Tryz.prog mb E vTree 236 [E.v,treeV x] 0 (Ps.indexP Y n):=by
 refine dm Tryz.func236 rfl 42 rfl fun m L k T hm0 hE hk hT hn=>?_;replace hY:=hY.up hm0;replace hr:=hr.mono hm0;unfold Ps.indexP at hT;refine uA ?_;refine oB (fun b3=>?_);refine cL (bm _ _ _) ?_;refine oA tab (fun b4=>?_);refine cL (bm _ _ _) ?_;refine mP ?_;refine aj (hs:=[x]) (l:=[n]) tab rTree ⟨rTree_iff.2 hr,trivial⟩ uH ov (fun s m1 hle1 hs ho hc=>?_);replace hm:=hle1;replace hE:=hE.mono hle1;refine mQ ?_;refine oA tab (fun b6=>?_);refine cL (bm _ _ _) ?_;refine lW ?_;refine ot ?_;refine TC.cut (ι:=Int×Sl×Mem×List Tree×Nat) [0,4,6] rfl (fun i=>[(5,i.2.1.v)]) (fun i=>i.2.2.1) (fun i=>E.I i.2.2.2.2 0::.cells b6 0 [.int .i64 50,strV [],.int .i64 i.1,.slice none 0 0]::tok i.2.1 4::.cells b4 0 [.int .i64 0,strV [],.int .i64 0,.slice none 0 0]::L) (fun i=>m≤i.2.2.1∧E.Ok i.2.2.1∧i.2.2.2.2≤E.toks.length∧SlRep rTree i.2.2.1 i.2.1 i.2.2.2.1∧Own i.2.1∧i.2.2.2.1.length≤2∧0≤i.1∧i.1≤1∧T=Ps.cutP Y i.1 i.2.2.2.1 E.f i.2.2.2.2) ?_ ?_
 ·refine uA ?_;refine qs rfl (OT.peekP hT hE hk rfl rfl rfl rfl rfl rfl (fun hT=>?_) (fun hT=>?_))
  ·refine uA ?_;exact⟨(0,s,m1,[n],k),uH,uH,rfl,rfl,uS,hm,hE,hk,hs,ho,by simp,by simp only;omega,by simp only;omega,hT⟩
  ·refine uA ?_;refine qs rfl (dr (L0:=L) (hY) hm hT hn hE hk oz hm uS rfl rfl rfl rfl rfl rfl goes199 (fun y m2 e k2 hT hm hE hley hk hry=>?_));refine aj (hs:=[y]) (l:=[e]) tab rTree ⟨rTree_iff.2 hry,trivial⟩ uH ov (fun s2 m3 hle3 hs2 ho2 hc2=>?_);refine qs rfl (cS tab rTree 2 (hs.mono (cC hley hle3)) ho hs2 rfl rfl rfl rfl rfl rfl rfl oO (fun s3 m4 hle4 hs3 ho3=>?_));replace hm:=cC hm (cC hle3 hle4);replace hE:=hE.mono (cC hle3 hle4);refine uA ?_;refine qs rfl (dt hT hE hk rfl rfl rfl rfl rfl rfl (fun hT hk=>?_) (fun hT=>?_))
   ·refine uA ?_;refine av 3 ?_;refine aw (L':=E.I (k2+1) 0::L) 3 ⟨_,k2+1,[],hT,hm,hk,⟨⟨49,[],0,s3⟩,rfl,rfl,⟨rfl,rfl,rfl,hs3⟩⟩,rfl⟩
   ·refine uA ?_;refine am (k:=2) 1 ?_;exact⟨(1,s3,m4,[n]++[e],k2),uH,uH,rfl,rfl,uS,hm,hE,hk,hs3,ho3,by simp,by simp only;omega,by simp only;omega,hT⟩
 ·rintro⟨num,s,m1,ks,k⟩ ⟨hm,hE,hk,hs,ho,hl,hn0,hn1,hT⟩;simp only at hm hE hk hs ho hl hn0 hn1 hT;unfold Ps.cutP at hT;refine uA ?_;refine qs rfl (OT.needP (L0:=L) hT hE hk oz hm uS rfl rfl rfl rfl rfl rfl (fun hT hk=>?_));refine uA ?_;refine qs rfl (dt hT hE hk rfl rfl rfl rfl rfl rfl (fun hT hk=>?_) (fun hT=>?_))
  ·refine uA ?_;refine mX ?_;refine aw (L':=E.I (k+1+1) 0::L) 3 ⟨_,k+1+1,[],hT,hm,hk,⟨⟨50,[],num,s⟩,rfl,rfl,⟨rfl,rfl,rfl,hs⟩⟩,rfl⟩
  ·refine uA ?_;refine qs rfl (dr (L0:=L) (hY) hm hT hn hE hk oz hm uS rfl rfl rfl rfl rfl rfl goes199 (fun y m2 e k2 hT hm hE hley hk hry=>?_));refine aj (hs:=[y]) (l:=[e]) tab rTree ⟨rTree_iff.2 hry,trivial⟩ uH ov (fun s2 m3 hle3 hs2 ho2 hc2=>?_);refine qs rfl (cS tab rTree 2 (hs.mono (cC hley hle3)) ho hs2 rfl rfl rfl rfl rfl rfl rfl oO (fun s3 m4 hle4 hs3 ho3=>?_));replace hm:=cC hm (cC hle3 hle4);replace hE:=hE.mono (cC hle3 hle4);refine mP ?_;refine aa (r':=num+2) uH ou ?_;refine am (k:=2) 1 ?_;refine qs rfl (OT.needP (L0:=L) hT hE hk oz hm uS rfl rfl rfl rfl rfl rfl (fun hT hk=>?_));refine uA ?_;refine mX ?_;refine aw (L':=E.I (k2+1) 0::L) 3 ⟨_,k2+1,[],hT,hm,hk,⟨⟨50,[],num+2,s3⟩,rfl,rfl,⟨rfl,rfl,rfl,hs3⟩⟩,rfl⟩
end
end Go.Sep
namespace Go.Sep
open Go.Proofs
attribute [local irreducible] TC TO OT TCallX TCall DO DOt thenQ blockQ retQ At
section
variable {mb:Mem} {E:PE} {h:Int}
theorem post1_at {Y:Ps.Pp Tree} (hY:Par Tryz.prog mb E vTree 199 [E.v] 0 Y) {m:Mem} {L:List Item} {k:Nat} {it:Item} {b1 b3:Nat} {x:HTree} {n:Tree} (hm0:mb≤m) (hE:E.Ok m) (hk:k≤E.toks.length) (hA:At m b1 0 [E.v]) (hr:TreeRep m x n) :
  ParAt Tryz.prog E vTree 235 [.pointer (some ⟨b1,0,none⟩),.pointer (some ⟨b3,0,none⟩)] 0 (Ps.indexP Y n) m (it::.cells b3 0 (treeC x)::L) k:=by
 refine ParAt.enter Tryz.func235 rfl 6 rfl fun T hT hn=>?_;have hm:m≤m:=cB _;rw[←Ps.bind_ret (Ps.indexP Y n)]at hT;refine uA ?_;refine oA tab (fun b2=>?_);refine cL (bm _ _ _) ?_;refine uA ?_;refine oL tab hA ?_;refine uM ?_;refine qs rfl (dr (L0:=it::.cells b3 0 (treeC x)::L) (index_par (hY.up hm0) x n hr) hm hT hn hE hk oz hm uS rfl rfl rfl rfl rfl rfl goes236 (fun x m2 a k2 hT hm hE hle hk hrx=>?_));refine kx ?_;refine aw (L':=E.I k2 0::it::.cells b3 0 _::L) 1 ⟨_,k2,[],hT,hm,hk,⟨x,rfl,rfl,hrx⟩,rfl⟩
theorem post2_at {Y:Ps.Pp Tree} (hY:Par Tryz.prog mb E vTree 199 [E.v] 0 Y) {m:Mem} {L:List Item} {k:Nat} {it:Item} {b1 b3:Nat} {x:HTree} {n:Tree} (hm0:mb≤m) (hE:E.Ok m) (hk:k≤E.toks.length) (hA:At m b1 0 [E.v]) (hr:TreeRep m x n) :
  ParAt Tryz.prog E vTree 237 [.pointer (some ⟨b3,0,none⟩),.pointer (some ⟨b1,0,none⟩)] 0 (Ps.bind (Ps.exprsP E.N [41] Y) fun l=>Ps.ret (.mk 51 [] 0 (n::l))) m (it::.cells b3 0 (treeC x)::L) k:=by
 refine ParAt.enter Tryz.func237 rfl 9 rfl fun T hT hn=>?_;have hm:m≤m:=cB _;replace hY:=hY.up hm0;refine uA ?_;refine oA tab (fun b2=>?_);refine cL (bm _ _ _) ?_;refine uA ?_;refine aO [6] dc 7 [.cells b3 0 (treeC x),.cells b2 0 [.int .i64 0,strV [],.int .i64 0,.slice none 0 0]] (E.I k 0::it::L) ((bo pfr3 (br _ pfr1))) ?_;refine ae (k:=0) 0 0 ?_;refine ak (k:=0) 2 hA ?_;refine a8 1 [3] ⟨⟨_,rfl,rfl,rfl,?_⟩,⟨_,rfl,rfl,rfl,?_⟩,trivial⟩
 ·skip;refine aR (hs:=[x]) (l:=[n]) tab rTree ⟨rTree_iff.2 hr,trivial⟩ uH ov (fun s mB hleB hs ho hc=>?_);replace hm:=cC hm hleB;replace hE:=hE.mono hleB;refine⟨hleB,_,bj _,?_⟩;refine af 3 ?_;refine cY (L':=E.I k 0::.cells b2 0 [.int .i64 0,strV [],.int .i64 0,.slice none 0 0]::it::.cells b3 0 (treeC x)::L) ((bo pfr2 (br _ (bo pfr1 (br _ pfr1))))) (OT.parS (L0:=it::.cells b3 0 (treeC x)::L) (exprs_par hY [41]) hm hT hn hE hk oz hm uS rfl rfl rfl rfl rfl rfl goes238 (fun y mA l k2 hT hm hE hleA hk hry hly=>?_));refine⟨hleA,E.I k2 0::it::L,((bo pfr3 (br _ pfr1))),?_⟩;have hsB:=hs.mono hleA;have hrB:=hry;exact ez
 ·skip;refine cY (L':=E.I k 0::.cells b2 0 [.int .i64 0,strV [],.int .i64 0,.slice none 0 0]::it::.cells b3 0 (treeC x)::L) ((bo pfr2 (br _ (bo pfr1 (br _ pfr1))))) (OT.parS (L0:=it::.cells b3 0 (treeC x)::L) (exprs_par hY [41]) hm hT hn hE hk oz hm uS rfl rfl rfl rfl rfl rfl goes238 (fun y mA l k2 hT hm hE hleA hk hry hly=>?_));refine⟨hleA,E.I k2 0::it::L,((bo pfr3 (br _ pfr1))),?_⟩;refine af 1 ?_;refine aR (hs:=[x]) (l:=[n]) tab rTree ⟨rTree_iff.2 (hr.mono hleA),trivial⟩ uH ov (fun s mB hleB hs ho hc=>?_);replace hm:=cC hm hleB;replace hE:=hE.mono hleB;refine⟨hleB,_,bj _,?_⟩;have hsB:=hs;have hrB:=hry.mono hleB;exact ez
end
end Go.Sep
namespace Go.Ps
theorem tkn_t {α:Type} {c:Int} {A:Tk→Pp α} {B:Pp α} {f:F} {k:Nat} {t:Tk} (h:f k=some t) (hk:isK c f k=true):tkn c A B f k=A t f (k+1):=by
 unfold isK at hk;rw[h]at hk;simp only at hk;unfold tkn;rw[h];simp only[hk,cy]
theorem tkn_f {α:Type} {c:Int} {A:Tk→Pp α} {B:Pp α} {f:F} {k:Nat} (hk:isK c f k=false):tkn c A B f k=B f k:=by
 unfold isK at hk;unfold tkn;cases h:f k with
 | none=>rfl
 | some t=>rw[h]at hk;simp only at hk;simp only[hk,cx]
end Go.Ps
namespace Go.Sep
open Go.Proofs
attribute [local irreducible] TC TO OT TCallX TCall DO DOt thenQ blockQ retQ At
section
variable {mb:Mem} {E:PE} {h:Int}
theorem primary1_par {Y:Ps.Pp Tree} (hY:Par Tryz.prog mb E vTree 199 [E.v] h Y) (b1:Nat) (hA:At mb b1 0 [E.v]) :
  Par Tryz.prog mb E vSl 242 [.pointer (some ⟨b1,0,none⟩)] h (Ps.exprsP E.N [125] Y):=by
 refine dm Tryz.func242 rfl 4 rfl fun m L k T hm0 hE hk hT hn=>?_;replace hY:=hY.up hm0;replace hA:=hA.mono hm0;have hm:m≤m:=cB _;rw[←Ps.bind_ret (Ps.exprsP E.N [125] Y)]at hT;refine kJ ?_;refine qs rfl (OT.parS (L0:=L) (exprs_par hY [125]) hm hT hn hE hk oz hm uS rfl rfl rfl rfl rfl rfl goes238 (fun x m2 a k2 hT hm hE hlex hk hrx hlx=>?_));refine uA ?_;refine ah (L':=E.I k2 h::L) ⟨a,k2,[],hT,hm,hk,⟨x,rfl,rfl,hrx,hlx⟩,rfl⟩
theorem primary_par {X Y Z:Ps.Pp Tree} (hd:Bool) (hX:Par Tryz.prog mb E vTree 145 [E.v] (bif hd then 1 else 0) X) (hY:Par Tryz.prog mb E vTree 199 [E.v] 0 Y) (hZ:Par Tryz.prog mb E vTree 114 [E.v] (bif hd then 1 else 0) Z) :
  Par Tryz.prog mb E vTree 233 [E.v] (bif hd then 1 else 0) (Ps.primP E.N X Z Y hd):=by
 refine dm Tryz.func233 rfl 119 rfl fun m L k T hm0 hE hk hT hn=>?_;have hrows:=hE.rows;unfold Ps.primP at hT;generalize hh:(bif hd then (1:Int)else 0)=h at hX hZ ⊢;refine uA ?_;refine oB (fun b1=>?_);refine cV fun m1 hle1 hA=>?_;replace hm:m≤m1:=hle1;replace hE:=hE.mono hle1;replace hX:=hX.up (cC hm0 hle1);replace hY:=hY.up (cC hm0 hle1);replace hZ:=hZ.up (cC hm0 hle1);have hmm:m1≤m1:=cB _;have hlen:=hE.rep.len;have hfew:=hE.few;refine uA ?_;refine oA tab (fun b2=>?_);refine cL (bm _ _ _) ?_;refine kJ ?_;refine au goes147 (is_law 2 hE hk) ?_;cases hb:Ps.isK 2 E.f k with
 | true =>
  have hlt:=PE.isK_lt hb;have hx:E.toks[k]? = some E.toks[k]:=bw hlt;rw[Ps.tkn_t (PE.f_some hlt) hb]at hT;refine kJ ?_;refine uM ?_;refine kq ?_;refine kK ?_;rintro b i hd hr hA2;obtain rfl:=(show hd=E.toks[k] from hr)
  refine mj ?_
  rotate_left 1
  refine uA ?_;refine aw (L':=E.I (k+1) h::L) 1 ⟨_,k+1,[],hT,hm,hlt,⟨⟨40,[],(E.toks[k]).num,⟨none,0,0⟩⟩,rfl,rfl,⟨rfl,rfl,rfl,cR _ _⟩⟩,rfl⟩
 | false =>
 rw[Ps.tkn_f hb]at hT;refine kJ ?_;refine au goes147 (is_law 3 hE hk) ?_;cases hb:Ps.isK 3 E.f k with
 | true =>
  have hlt:=PE.isK_lt hb;have hx:E.toks[k]? = some E.toks[k]:=bw hlt;rw[Ps.tkn_t (PE.f_some hlt) hb]at hT;refine kJ ?_;refine uM ?_;refine kq ?_;refine kK ?_;rintro b i hd hr hA2;obtain rfl:=(show hd=E.toks[k] from hr)
  refine mj ?_
  rotate_left 1
  refine uA ?_;refine aw (L':=E.I (k+1) h::L) 1 ⟨_,k+1,[],hT,hm,hlt,⟨⟨41,(E.toks[k]).text,0,⟨none,0,0⟩⟩,rfl,rfl,⟨rfl,rfl,rfl,cR _ _⟩⟩,rfl⟩
 | false =>
 rw[Ps.tkn_f hb]at hT;refine kJ ?_;refine qs rfl (dt hT hE hk rfl rfl rfl rfl rfl rfl (fun hT hk=>?_) (fun hT=>?_))
 ·refine uA ?_;refine kc ?_;refine aw (L':=E.I (k+1) h::L) 1 ⟨_,k+1,[],hT,hm,hk,⟨⟨42,[],1,⟨none,0,0⟩⟩,rfl,rfl,⟨rfl,rfl,rfl,cR _ _⟩⟩,rfl⟩
 refine kJ ?_;refine qs rfl (dt hT hE hk rfl rfl rfl rfl rfl rfl (fun hT hk=>?_) (fun hT=>?_))
 ·refine uA ?_;refine kc ?_;refine aw (L':=E.I (k+1) h::L) 1 ⟨_,k+1,[],hT,hm,hk,⟨⟨42,[],0,⟨none,0,0⟩⟩,rfl,rfl,⟨rfl,rfl,rfl,cR _ _⟩⟩,rfl⟩
 refine kJ ?_;refine qs rfl (dt hT hE hk rfl rfl rfl rfl rfl rfl (fun hT hk=>?_) (fun hT=>?_))
 ·refine uA ?_;refine kc ?_;refine aw (L':=E.I (k+1) h::L) 1 ⟨_,k+1,[],hT,hm,hk,⟨⟨43,[],0,⟨none,0,0⟩⟩,rfl,rfl,⟨rfl,rfl,rfl,cR _ _⟩⟩,rfl⟩
 refine kJ ?_;refine qs rfl (dt hT hE hk rfl rfl rfl rfl rfl rfl (fun hT hk=>?_) (fun hT=>?_))
 ·refine uA ?_;refine oL tab hA ?_;refine lg ?_;refine qs rfl (OT.parTA (L0:=L) (inside_at (first:=[E.v]) (cap:=[]) rfl goes199 hE (fun b=>hY.at _ hmm hE hk)) hT hn hE oF hm uS rfl rfl rfl rfl rfl rfl goes234 (fun x m2 a k2 hT hm hE hle hk hrx=>?_));replace hA:=hA.mono hle;refine uA ?_;refine oA tab (fun b3=>?_);refine cL (bm _ _ _) ?_;refine kx ?_;refine lg ?_;refine qs rfl (OT.needP (L0:=L) hT hE hk oF hm uS rfl rfl rfl rfl rfl rfl (fun hT hk=>?_));refine kA ?_;refine av 2 ?_;refine aw (L':=E.I (k2+1) h::L) 2 ⟨_,k2+1,[],hT,hm,hk,⟨x,rfl,rfl,hrx⟩,rfl⟩
 refine kJ ?_;refine qs rfl (dt hT hE hk rfl rfl rfl rfl rfl rfl (fun hT hk=>?_) (fun hT=>?_))
 ·refine uA ?_;refine lg ?_;refine qs rfl (OT.needP (L0:=L) hT hE hk oF hm uS rfl rfl rfl rfl rfl rfl (fun hT hk=>?_));refine kJ ?_;refine qs rfl (dr (L0:=L) hX hmm hT hn hE hk oF hm uS rfl rfl rfl rfl rfl rfl goes145 (fun x m2 a k2 hT hm hE hle hk hrx=>?_));refine aj (hs:=[x]) (l:=[a]) tab rTree ⟨rTree_iff.2 hrx,trivial⟩ uH ov (fun s m3 hle3 hs ho hc=>?_);replace hA:=hA.mono (cC hle hle3);replace hm:=cC hm hle3;replace hE:=hE.mono hle3;replace hY:=hY.up (cC hle hle3);refine mQ ?_;refine oA tab (fun b4=>?_);refine cL (bm _ _ _) ?_;refine kx ?_;refine lg ?_;refine qs rfl (OT.needP (L0:=L) hT hE hk oF hm uS rfl rfl rfl rfl rfl rfl (fun hT hk=>?_));refine uA ?_;refine aO [7] dc 8 [.cells b4 0 [.int .i64 46,strV [],.int .i64 0,s.v]] (E.I (k2+1) h::tok s 4::.cells b2 0 [.int .i64 0,strV [],.int .i64 0,.slice none 0 0]::L) (bm _ _ _) ?_;refine lT ?_;refine ae 1 0 ?_;refine ak (k:=0) 2 hA ?_;refine cT tab uC uK [3] uK rfl ?_;refine af 4 ?_;refine cY (bm _ _ _) (OT.parSA (L0:=L) (insideS_at (first:=[]) (cap:=[.pointer (some ⟨b1,0,none⟩)]) rfl goes242 hE ((primary1_par hY b1 hA).at _ (cB _) hE hk)) hT hn hE oF hm uS rfl rfl rfl rfl rfl rfl goes241 (fun y mA l k3 hT hm hE hleA hk hry hly=>?_));refine⟨hleA,E.I k3 h::tok s 4::.cells b2 0 [.int .i64 0,strV [],.int .i64 0,.slice none 0 0]::L,bm _ _ _,?_⟩;refine af 5 ?_;refine cS tab rTree 2 (hs.mono hleA) ho hry rfl rfl rfl rfl rfl rfl rfl oO (fun s3 mC hleC hs3 ho3=>?_);refine⟨hleC,E.I k3 h::tok s3 4::.cells b2 0 [.int .i64 0,strV [],.int .i64 0,.slice none 0 0]::L,bj _,?_⟩;refine kS ?_;refine cN (k:=3) tab 0 rfl rfl rfl rfl rfl rfl rfl rfl ?_;refine DOt.perm (bm _ _ _) ?_;refine aL ?_
  rotate_left 1
  refine nF ?_;refine aw (L':=E.I k3 h::L) 3 ⟨_,k3,[],hT,cC hm hleC,hk,⟨⟨46,[],0,s3⟩,rfl,rfl,⟨rfl,rfl,rfl,hs3⟩⟩,rfl⟩
 refine kJ ?_;refine qs rfl (dt hT hE hk rfl rfl rfl rfl rfl rfl (fun hT hk=>?_) (fun hT=>?_))
 ·refine uA ?_;refine aO [6] dc 7 [.cells b2 0 [.int .i64 0,strV [],.int .i64 0,.slice none 0 0]] (E.I (k+1) h::L) (bm _ _ _) ?_;refine ak (k:=0) 0 hA ?_;refine ak (k:=0) 2 hA ?_;refine af 1 ?_;refine cY (bm _ _ _) (dr (L0:=L) (psig_par hX) hmm hT hn hE hk oF hm uS rfl rfl rfl rfl rfl rfl goes113 (fun x mA a k2 hT hm hE hleA hk hrx=>?_));refine⟨hleA,E.I k2 h::L,bm _ _ _,?_⟩;refine af 3 ?_;refine cY (bm _ _ _) (dr (L0:=L) hZ hleA hT hn hE hk oF hm uS rfl rfl rfl rfl rfl rfl goes114 (fun y mB b k3 hT hm hE hleB hk hry=>?_));refine⟨hleB,E.I k3 h::L,bm _ _ _,?_⟩;refine af 4 ?_;refine db tab rTree (hs:=[x,y]) (l:=[a,b]) ⟨rTree_iff.2 (hrx.mono hleB),rTree_iff.2 hry,trivial⟩ rfl rfl rfl rfl rfl ov (fun s mC hleC hs ho hc=>?_);refine⟨hleC,_,bj _,?_⟩;refine ol ?_;refine cO tab 0 rfl rfl rfl rfl rfl rfl rfl rfl ?_;refine DOt.perm (bm _ _ _) ?_;refine aL ?_
  rotate_left 1
  refine uA ?_;refine aw (L':=E.I k3 h::L) 1 ⟨_,k3,[],hT,cC hm hleC,hk,⟨⟨47,[],0,s⟩,rfl,rfl,⟨rfl,rfl,rfl,hs⟩⟩,rfl⟩
 refine kJ ?_;refine qs rfl (OT.nameP (L0:=L) hT hE hk oz hm uS rfl rfl rfl rfl rfl rfl (fun nm hT hk=>?_));refine kJ ?_;refine uM ?_;cases hd with
 | true =>
  obtain rfl:=(show(1:Int)=h from hh)
  refine kx ?_;refine aw (L':=E.I (k+1) 1::L) 1 ⟨_,k+1,[],hT,hm,hk,⟨⟨44,nm,0,⟨none,0,0⟩⟩,rfl,rfl,⟨rfl,rfl,rfl,cR _ _⟩⟩,rfl⟩
 | false =>
  obtain rfl:=(show(0:Int)=h from hh)
  replace hT:T=Ps.tok [123] (Ps.bind (Ps.exprsP E.N [125] Y) fun l=>Ps.ret (.mk 45 nm 0 l)) (Ps.ret (Ps.leaf 44 nm)) E.f (k+1):=hT;refine kJ ?_;refine qs rfl (dt hT hE hk rfl rfl rfl rfl rfl rfl (fun hT hk=>?_) (fun hT=>?_))
  ·refine uA ?_;refine lg ?_;refine qs rfl (OT.parS (L0:=L) (exprs_par hY [125]) hmm hT hn hE hk oz hm uS rfl rfl rfl rfl rfl rfl goes238 (fun y mA l k3 hT hm hE hleA hk hry hly=>?_));refine kx ?_;refine aw (L':=E.I k3 0::L) 1 ⟨_,k3,[],hT,hm,hk,⟨⟨45,nm,0,y⟩,rfl,rfl,⟨rfl,rfl,rfl,hry⟩⟩,rfl⟩
  ·refine uA ?_;refine kc ?_;refine aw (L':=E.I (k+1) 0::L) 1 ⟨_,k+1,[],hT,hm,hk,⟨⟨44,nm,0,⟨none,0,0⟩⟩,rfl,rfl,⟨rfl,rfl,rfl,cR _ _⟩⟩,rfl⟩
end
end Go.Sep
namespace Go.Sep
open Go.Proofs
attribute [local irreducible] TC TO OT TCallX TCall DO DOt thenQ blockQ retQ At
section
variable {mb:Mem} {E:PE} {h:Int}
theorem post_par {X Y:Ps.Pp Tree} (hX:Par Tryz.prog mb E vTree 233 [E.v] h X) (hY:Par Tryz.prog mb E vTree 199 [E.v] 0 Y) :
  Par Tryz.prog mb E vTree 227 [E.v] h (Ps.bind X (Ps.postP E.N Y E.N)):=by
 refine dm Tryz.func227 rfl 27 rfl fun m L k T hm0 hE hk hT hn=>?_;refine uA ?_;refine oB (fun b1=>?_);refine cV fun m1 hle1 hA=>?_;replace hm:m≤m1:=hle1;replace hE:=hE.mono hle1;replace hX:=hX.up (cC hm0 hle1);replace hY:=hY.up (cC hm0 hle1);refine uA ?_;refine oA tab (fun b2=>?_);refine cL (bm _ _ _) ?_;refine kJ ?_;refine qs rfl (dr (L0:=L) hX (cB _) hT hn hE hk oz hm uS rfl rfl rfl rfl rfl rfl goes233 (fun x m2 a k2 hT hm hE hle2 hk hrx=>?_));refine uA ?_;refine oA tab (fun b3=>?_);refine cL (bm _ _ _) ?_;refine kx ?_;refine cG (ι:=HTree×Mem×Tree×Nat×Nat) [0,1,2,3] rfl (fun _=>[]) (fun x=>x.2.1) (fun x=>E.I x.2.2.2.1 h::.cells b3 0 (treeC x.1)::.cells b2 0 [.int .i64 0,strV [],.int .i64 0,.slice none 0 0]::L) (fun x=>m2≤x.2.1∧x.2.2.2.1≤E.toks.length∧TreeRep x.2.1 x.1 x.2.2.1∧T=Ps.postP E.N Y x.2.2.2.2 x.2.2.1 E.f x.2.2.2.1) (fun x=>x.2.2.2.2) (x,m2,a,k2,E.N) uH rfl uS ⟨cB _,hk,hrx,hT⟩ ?_;rintro⟨x,m3,n,k,N⟩ ⟨hm3,hk,hrx,hT⟩;simp only at hm3 hk hrx hT;show TC _ _ _ _ _ m3 (E.I k h::.cells b3 0 (treeC x)::.cells b2 0 [.int .i64 0,strV [],.int .i64 0,.slice none 0 0]::L) _;replace hm:=cC hm hm3;replace hE:=hE.mono hm3;replace hA:=hA.mono (cC hle2 hm3);replace hY:=hY.up (cC hle2 hm3);have hmm:m3≤m3:=cB _;cases N with
 | zero=>exact absurd hT hn
 | succ N =>
  replace hT:T=Ps.tok [46] (Ps.name fun s=>Ps.postP E.N Y N (.mk 48 s 0 [n])) (Ps.tok [91] (Ps.bind (Ps.indexP Y n) fun t=>Ps.postP E.N Y N t) (Ps.tok [40] (Ps.bind (Ps.exprsP E.N [41] Y) fun l=>Ps.postP E.N Y N (.mk 51 [] 0 (n::l))) (Ps.ret n))) E.f k:=hT;refine kJ ?_;refine qs rfl (dt hT hE hk rfl rfl rfl rfl rfl rfl (fun hT hk=>?_) (fun hT=>?_))
  ·refine uA ?_;refine aO [5] dc 6 [.cells b3 0 (treeC x)] (E.I (k+1) h::.cells b2 0 [.int .i64 0,strV [],.int .i64 0,.slice none 0 0]::L) (bm _ _ _) ?_;refine ak (k:=0) 0 hA ?_;refine ae (k:=0) 2 0 ?_;refine a8 1 [3] ⟨⟨_,rfl,rfl,rfl,?_⟩,⟨_,rfl,rfl,rfl,?_⟩,trivial⟩
   ·skip;refine cY (bm _ _ _) (OT.nameP (L0:=L) hT hE hk oF hm uS rfl rfl rfl rfl rfl rfl (fun t hT hk=>?_));refine nn ?_;refine af 3 ?_;refine aR (hs:=[x]) (l:=[n]) tab rTree ⟨rTree_iff.2 hrx,trivial⟩ uH ov (fun s mB hleB hs ho hc=>?_);replace hm:=cC hm hleB;replace hE:=hE.mono hleB;refine⟨hleB,_,bj _,?_⟩;exact fH
   ·skip;refine aR (hs:=[x]) (l:=[n]) tab rTree ⟨rTree_iff.2 hrx,trivial⟩ uH ov (fun s mB hleB hs ho hc=>?_);replace hm:=cC hm hleB;replace hE:=hE.mono hleB;refine⟨hleB,_,bj _,?_⟩;refine af 1 ?_;refine cY (bm _ _ _) (OT.nameP (L0:=L) hT hE hk oF hm uS rfl rfl rfl rfl rfl rfl (fun t hT hk=>?_));refine nn ?_;exact fH
  refine kJ ?_;refine qs rfl (dt hT hE hk rfl rfl rfl rfl rfl rfl (fun hT hk=>?_) (fun hT=>?_))
  ·refine uA ?_;refine lg ?_;refine qs rfl (OT.parTA (L0:=L) (inside_at (first:=[]) (cap:=[.pointer (some ⟨b1,0,none⟩),.pointer (some ⟨b3,0,none⟩)]) rfl goes235 hE (fun b=>post1_at hY hmm hE hk hA hrx)) hT hn hE oF hm uS rfl rfl rfl rfl rfl rfl goes234 (fun y mB e k3 hT hm hE hleB hk hry=>?_));exact iD
  refine kJ ?_;refine qs rfl (dt hT hE hk rfl rfl rfl rfl rfl rfl (fun hT hk=>?_) (fun hT=>?_))
  ·replace hT:T=Ps.bind (Ps.bind (Ps.exprsP E.N [41] Y) fun l=>Ps.ret (.mk 51 [] 0 (n::l))) (Ps.postP E.N Y N) E.f (k+1):=by rw[Ps.bind_assoc];exact hT
   refine kJ ?_;refine qs rfl (OT.parTA (L0:=L) (inside_at (first:=[]) (cap:=[.pointer (some ⟨b3,0,none⟩),.pointer (some ⟨b1,0,none⟩)]) rfl goes237 hE (fun b=>post2_at hY hmm hE hk hA hrx)) hT hn hE oF hm uS rfl rfl rfl rfl rfl rfl goes234 (fun y mB e k3 hT hm hE hleB hk hry=>?_));exact iD
  ·refine uA ?_;refine ly ?_;refine av 2 ?_;refine aw (L':=E.I k h::L) 2 ⟨_,k,[],hT,hm,hk,⟨x,rfl,rfl,hrx⟩,rfl⟩
structure GW (mb:Mem) (E:PE) (g:Ps.Gr):Prop where
 typ:∀ h,Par Tryz.prog mb E vTree 145 [E.v] h g.typ
 block:∀ h,Par Tryz.prog mb E vTree 114 [E.v] h g.block
 stmt:Par Tryz.prog mb E vTree 151 [E.v] 0 g.stmt
 branch:Par Tryz.prog mb E vTree 179 [E.v] 0 g.branch
 expr:∀ b,Par Tryz.prog mb E vTree 199 [E.v] (bif b then 1 else 0) (g.expr b)
 unary:∀ b,Par Tryz.prog mb E vTree 220 [E.v] (bif b then 1 else 0) (g.unary b)
theorem Par.dry {f:FuncId} {args:List Value} {V:RV Tree}:Par Tryz.prog mb E V f args h Ps.dry:=fun _ _ _ _ _ _ hn=>absurd rfl hn
theorem gw : ∀ n,GW mb E (Ps.gr E.N n)
 | 0=>⟨fun _=>Par.dry,fun _=>Par.dry,Par.dry,Par.dry,fun _=>Par.dry,fun _=>Par.dry⟩
 | n+1=>by
  have g:=gw n;refine⟨fun h=>typ_par (g.typ h),fun h=>block_par g.stmt,stmt_par (g.expr true) (g.block 0) g.branch (simple_par (g.typ 0) (g.expr false)),branch_par (g.expr true) (g.block 0) g.branch,fun b=>expr_par (g.unary b),fun b=>?_⟩;exact unary_par (g.unary b) (post_par (primary_par b (g.typ _) (g.expr false) (g.block _)) (g.expr false))
end
end Go.Sep
namespace Go.Sep
open Go.Proofs
attribute [local irreducible] TC TO OT TCallX TCall DO DOt thenQ blockQ retQ At
section
variable {mb:Mem} {E:PE}
theorem program_par {X:Ps.Pp Tree} (hX:Par Tryz.prog mb E vTree 57 [E.v] 0 X) :
  Par Tryz.prog mb E vTree 30 [E.v] 0 (Ps.bind (Ps.progL X E.N) fun l=>Ps.ret (.mk 1 [] 0 l)):=by
 refine dm Tryz.func30 rfl 23 rfl fun m L k T hm0 hE hk hT hn=>?_;replace hX:=hX.up hm0;have hm:m≤m:=cB _;have hrows:=hE.rows;rw[Ps.decls_start]at hT;refine uA ?_;refine oA tab (fun b2=>?_);refine cL (bm _ _ _) ?_;refine uA ?_;refine oA tab (fun b3=>?_);refine cL (bm _ _ _) ?_;refine lW ?_;refine TO.grow0 (size:=4) ?_;refine aN (L':=E.I k 0::.cells b3 0 [.int .i64 1,strV [],.int .i64 0,.slice none 0 0]::tok ⟨none,0,0⟩ 4::.cells b2 0 [.int .i64 0,strV [],.int .i64 0,.slice none 0 0]::L) (bo (bm _ _ _) (br _ (bm _ _ _))) ?_;refine cG (ι:=Sl×Mem×List Tree×Nat×Nat) [0,2,3] rfl (fun x=>[]) (fun x=>x.2.1) (fun x=>E.I x.2.2.2.1 0::.cells b3 0 [.int .i64 1,strV [],.int .i64 0,x.1.v]::tok x.1 4::.cells b2 0 [.int .i64 0,strV [],.int .i64 0,.slice none 0 0]::L) (fun x=>m≤x.2.1∧E.Ok x.2.1∧x.2.2.2.1≤E.toks.length∧SlRep rTree x.2.1 x.1 x.2.2.1∧Own x.1∧x.2.2.1.length+x.2.2.2.2=E.N∧T=Ps.bind (Ps.decls X x.2.2.2.2 x.2.2.1) (fun l=>Ps.ret (.mk 1 [] 0 l)) E.f x.2.2.2.1) (fun x=>x.2.2.2.2) (⟨none,0,0⟩,m,[],k,E.N) uH rfl uS ⟨hm,hE,hk,cR _ _,cX,by simp,hT⟩ ?_;rintro⟨s,m1,acc,k,j⟩ ⟨hm,hE,hk,hs,ho,hlen,hT⟩;simp only at hm hE hk hs ho hlen hT;show TC _ _ _ _ _ m1 (E.I k 0::.cells b3 0 [.int .i64 1,strV [],.int .i64 0,s.v]::tok s 4::.cells b2 0 [.int .i64 0,strV [],.int .i64 0,.slice none 0 0]::L) _;have hll:=hE.rep.len;cases j with
 | zero=>exact absurd hT hn
 | succ j =>
  refine uA ?_;refine aW [] dc 10 ?_;refine kC ?_;refine lh ?_;refine aS ?_
  rotate_left 1
  refine uA ?_;refine ap (fun hc=>?_) (fun hc=>?_)
  ·have hlt:k<E.toks.length:=ou;have hT:T=Ps.bind X (fun a=>Ps.bind (Ps.decls X j (acc++[a])) fun l=>Ps.ret (.mk 1 [] 0 l)) E.f k:=by
    rw[←Ps.bind_assoc,hT];show Ps.bind _ _ E.f k=Ps.bind _ _ E.f k;unfold Ps.bind;rw[Ps.decls_some (by rw[PE.f_some hlt];exact fun h=>by cases h)];rfl
   refine uA ?_;refine aO [7] dc 8 [.cells b3 0 [.int .i64 1,strV [],.int .i64 0,s.v]] (E.I k 0::tok s 4::.cells b2 0 [.int .i64 0,strV [],.int .i64 0,.slice none 0 0]::L) (bm _ _ _) ?_;refine kB ?_;refine cY (bm _ _ _) (dr (L0:=L) (hX) hm hT hn hE hk oF hm uS rfl rfl rfl rfl rfl rfl goes57 (fun x mA a k2 hT hm hE hleA hk hr=>?_));refine⟨hleA,E.I k2 0::tok s 4::.cells b2 0 [.int .i64 0,strV [],.int .i64 0,.slice none 0 0]::L,bm _ _ _,?_⟩;exact el
  ·have hT:T = .ok (.mk 1 [] 0 acc) k:=by
    rw[hT];unfold Ps.bind;rw[Ps.decls_none (PE.f_none ou)];rfl
   refine nF ?_;refine aw (L':=E.I k 0::L) 3 ⟨_,k,[],hT,hm,hk,⟨⟨1,[],0,s⟩,rfl,rfl,⟨rfl,rfl,rfl,hs⟩⟩,rfl⟩
end
def FitR (bl:Nat) (L:List Item) (m:Mem) (a:Tree) (d left:Int):Value→Mem→List Item→Prop :=
 fun r m' L'=>m'=m∧((r = .bool true∧(a.size:Int)≤left∧d+(a.deep:Int)≤101∧L' = .cells bl 0 [.int .i64 (left-a.size)]::L)∨(r = .bool false∧¬((a.size:Int)≤left∧d+(a.deep:Int)≤101)∧∃ n,L' = .cells bl 0 [.int .i64 n]::L))
theorem fits_law (a:Tree):∀(m:Mem) (L:List Item) (h:HTree) (bl:Nat) (d left:Int),TreeRep m h a→0≤left→left≤20000→0≤d→d≤101 →
  TCall Tryz.prog 31 ⟨[treeV h,.int .i64 d,.pointer (some ⟨bl,0,none⟩)]⟩ m (.cells bl 0 [.int .i64 left]::L) (FitR bl L m a d left):=by
 induction a using Tree.ind with
 | h a ih =>
 intro m L h bl d left hr hl0 hl1 hd0 hd1;have hr':=hr;obtain⟨h1,h2,h3,h4⟩:=hr;have hlen:=h4.len;have hsm:=h4.small rfl;have hsz:=size_kids a;have hdp:=deep_kids a;unfold TCall;refine ag Tryz.func31 36 ?_;refine oB (fun b3=>?_);refine mP ?_;refine aa (r':=left-1) uH ou ?_;refine av 1 ?_;refine ly ?_;refine az (fun hneg=>?_) (fun hneg=>?_)
 ·exact iy
 refine uA ?_;refine ap (fun hdd=>?_) (fun hdd=>?_)
 ·exact iy
 refine kA ?_;refine cG (ι:=Nat) [0,1,2,23,24] rfl (fun i=>[(25,.int .i64 (i:Int))]) (fun _=>m) (fun i=>.cells bl 0 [.int .i64 (left-1-(sizeL (a.kids.take i):Int))]::L) (fun i=>i≤a.kids.length∧(sizeL (a.kids.take i):Int)≤left-1∧d+(deepL (a.kids.take i):Int)≤100) (fun i=>a.kids.length-i) 0 uH rfl (by rw[show left-1-(sizeL (a.kids.take 0):Int)=left-1 by simp[sizeL]];exact bZ _ (ce _)) ⟨cm _,by simp[sizeL];omega,by simp[deepL];omega⟩ ?_;rintro i ⟨hi,hI1,hI2⟩;refine uA ?_;refine ap (fun hc=>?_) (fun hc=>?_)
 ·have hlt:i<a.kids.length:=ou;have hx:a.kids[i]? = some a.kids[i]:=bw hlt;have e1:=sizeL_next a.kids i hlt;have e2:=deepL_next a.kids i hlt;have e3:=sizeL_take a.kids (i+1);have e4:=deepL_take a.kids (i+1);refine uA ?_;refine al tab rTree i h4 uH oy rfl hx ?_;rintro bx ix hx' hrx hAx;refine uA ?_;refine an tab hAx ?_;refine aB tab (fun b8=>?_);refine kc ?_;refine ly ?_;refine aa (r':=d+1) uH ou ?_;refine cL (bm _ _ _) ?_;refine oC goes31 ((ih a.kids[i] (bN hlt) _ _ hx' bl (d+1) (left-1-(sizeL (a.kids.take i):Int)) (rTree_iff.1 hrx) ou ou ou ou).x ?_);rintro _ _ _ ⟨rfl,⟨rfl,k1,k2,rfl⟩ | ⟨rfl,k1,n,rfl⟩⟩
  ·refine uA ?_;refine kg ?_;refine⟨i+1,uH,uH,rfl,rfl,?_,⟨hlt,by omega,by omega⟩,by omega⟩;rw[show left-1-(sizeL (a.kids.take (i+1)):Int)=left-1-(sizeL (a.kids.take i):Int)-(a.kids[i].size:Int) by omega];exact uS
  ·refine uA ?_;refine cH rfl (L':=.cells bl 0 [.int .i64 n]::L) uS ⟨rfl,.inr ⟨rfl,by omega,_,rfl⟩⟩
 ·rw[cl ou]at hI1 hI2;rw[cl (show a.kids.length≤i by omega)];refine uA ?_;refine cH rfl (L':=.cells bl 0 [.int .i64 (left-a.size)]::L) ?_ ⟨rfl,.inl ⟨rfl,by omega,by omega,rfl⟩⟩;rw[show left-(a.size:Int)=left-1-(sizeL a.kids:Int) by omega];exact uS
end Go.Sep
namespace Go.Sep
open Go.Proofs
attribute [local irreducible] TC TO OT TCallX TCall DO DOt thenQ blockQ retQ At
theorem deepL_mem : ∀ {l:List Tree} {t:Tree},t∈l→t.deep≤deepL l
 | x::xs,t,h=>by
  rcases List.mem_cons.1 h with rfl | h
  ·simp only[deepL];omega
  ·have:=deepL_mem h;simp only[deepL];omega
theorem deep_kid {a t:Tree} (h:t∈a.kids):t.deep<a.deep:=by
 obtain⟨k,n,u,ks⟩:=a;have:=deepL_mem h;simp only[Tree.kids,Tree.deep]at *;omega
structure SgT (n:Nat) (a:Tree) (m:Mem) (L:List Item) (h:HTree):Prop where
 expr:TCall Tryz.prog 161 ⟨[treeV h]⟩ m L (Ret (.bool ((sg n).expr a)) m L)
 stmt:TCall Tryz.prog 125 ⟨[treeV h]⟩ m L (Ret (.bool ((sg n).stmt a)) m L)
 block:TCall Tryz.prog 74 ⟨[treeV h]⟩ m L (Ret (.bool ((sg n).block a)) m L)
theorem sg_tellers : ∀(n:Nat) (a:Tree),a.deep≤n→a.wide≤140737488355328→∀(m:Mem) (L:List Item) (h:HTree),TreeRep m h a→SgT n a m L h
 | 0,a,hd,hB,m,L,h,hr=>by
  obtain⟨k,nm,u,ks⟩:=a;simp only[Tree.deep]at hd;omega
 | n+1,a,hd,hB,m,L,h,hr=>by
  have ih:∀ b∈a.kids,∀(m:Mem) (L:List Item) (h:HTree),TreeRep m h b→SgT n b m L h:=fun b hb m L h hr =>
   sg_tellers n b (by have:=deep_kid hb;omega) (bJ ((dg hb)) hB) m L h hr
  have hE:IsPred 161 (sg n).expr a.kids:=⟨goes161,fun m L h b hb hr=>(ih b hb m L h hr).expr⟩
  have hS:IsPred 125 (sg n).stmt a.kids:=⟨goes125,fun m L h b hb hr=>(ih b hb m L h hr).stmt⟩
  have hK:IsPred 74 (sg n).block a.kids:=⟨goes74,fun m L h b hb hr=>(ih b hb m L h hr).block⟩
  exact⟨expr_teller _ a m L h hr hB hE hK,stmt_teller _ a m L h hr hB hE hK hS,block_teller _ a m L h hr hS⟩
theorem fieldT_teller (a:Tree) (m:Mem) (L:List Item) (h:HTree) (hr:TreeRep m h a) (hB:a.wide≤140737488355328) :
  TCall Tryz.prog 69 ⟨[treeV h]⟩ m L (Ret (.bool (fieldS Tree.isType a)) m L):=by
 have hT:IsPred 71 Tree.isType a.kids:=kidPred goes71 hB fun b m L h hr hB=>type_law b m L h hr hB;refine mR ?_;unfold TCall fieldS;refine ag Tryz.func69 10 ?_;refine ay (fun b=>?_);refine au goes68 (of_law _ _ h a hr hB 6) ?_;refine aF (fun h7=>?_) (fun h7=>?_)
 ·refine uL ?_;refine aj (hs:=[71]) (l:=[71]) tab rFn ⟨rfl,trivial⟩ uH ov (fun s1 m1 hm1 hs1 _ _=>?_);refine uA ?_;refine au goes70 (dl m1 _ h a (hr.mono hm1) s1 [(71,Tree.isType)] none hs1 (pr1 hT) po0) ?_;exact eR
 ·exact ee
theorem fieldG_teller (a:Tree) (m:Mem) (L:List Item) (h:HTree) (hr:TreeRep m h a) (hB:a.wide≤140737488355328) :
  TCall Tryz.prog 72 ⟨[treeV h]⟩ m L (Ret (.bool (fieldS Tree.isSig a)) m L):=by
 have hT:IsPred 73 Tree.isSig a.kids:=kidPred goes73 hB fun b m L h hr hB=>sig_law b m L h hr hB;refine mR ?_;unfold TCall fieldS;refine ag Tryz.func72 10 ?_;refine ay (fun b=>?_);refine au goes68 (of_law _ _ h a hr hB 6) ?_;refine aF (fun h7=>?_) (fun h7=>?_)
 ·refine uL ?_;refine aj (hs:=[73]) (l:=[73]) tab rFn ⟨rfl,trivial⟩ uH ov (fun s1 m1 hm1 hs1 _ _=>?_);refine uA ?_;refine au goes70 (dl m1 _ h a (hr.mono hm1) s1 [(73,Tree.isSig)] none hs1 (pr1 hT) po0) ?_;exact eR
 ·exact ee
theorem isParam_kid {a:Tree} (h:a.isParam=true):∃ k,a.kids=[k]∧k.isType=true:=by
 unfold Tree.isParam at h;simp only[bu,bE,bQ]at h;obtain⟨h1,_,_,h2,h3⟩:=h
 match hk:a.kids with
 | []=>rw[hk]at h2;cases h2
 | [k]=>exact⟨k,rfl,h3 k pw⟩
 | _::_::_=>rw[hk]at h2;simp at h2
theorem isType_kid {a:Tree} (h:a.isType=true) (h11:a.kind=11):∃ k,a.kids=[k]:=by
 rw[isType_eq,if_neg ou,if_pos (.inl h11)]at h;simp only[bu,bE]at h
 match hk:a.kids with
 | []=>rw[hk]at h;simp at h
 | [k]=>exact⟨k,rfl⟩
 | _::_::_=>rw[hk]at h;simp at h
theorem recv_teller (a:Tree) (m:Mem) (L:List Item) (h:HTree) (hr:TreeRep m h a) (hB:a.wide≤140737488355328) :
  TCall Tryz.prog 75 ⟨[treeV h]⟩ m L (Ret (.bool (recvS a)) m L):=by
 have hr':=hr;obtain⟨h1,h2,h3,h4⟩:=hr;unfold TCall recvS;refine ag Tryz.func75 24 ?_;refine ay (fun b=>?_);refine au goes124 (param_law a _ _ h hr' hB) ?_;refine aF (fun h7=>?_) (fun h7=>?_)
 ·obtain⟨k0,hk0,ht0⟩:=isParam_kid h7;have e0:kid0 a=k0:=by unfold kid0;rw[hk0];rfl
  have hx:a.kids[0]? = some k0:=by rw[hk0];rfl
  rw[h7,e0];refine uL ?_;refine my ?_;rintro b' i hd hrd hA;obtain⟨g1,g2,g3,g4⟩:=rTree_iff.1 hrd;refine uL ?_;refine ai hA ?_;refine az (fun e1=>?_) (fun e1=>?_)
  ·obtain⟨k1,hk1⟩:=isType_kid ht0 (g1.symm.trans e1);have e2:kid0 k0=k1:=by unfold kid0;rw[hk1];rfl
   have hx1:k0.kids[0]? = some k1:=by rw[hk1];rfl
   rw[e2,bS (g1.symm.trans e1)];refine uL ?_;refine my ?_;rintro b2 i2 hd2 hrd2 hA2;obtain⟨f1,f2,f3,f4⟩:=rTree_iff.1 hrd2;refine uL ?_;refine qs rfl (OT.loadA tab hA2 rfl rfl rfl rfl rfl ?_);refine uL ?_;refine al tab rTree 0 f4 uH oy rfl hx1 ?_;rintro b3 i3 hd3 hrd3 hA3;obtain⟨d1,d2,d3,d4⟩:=rTree_iff.1 hrd3;refine uL ?_;refine ai hA3 ?_;refine kh ?_;rw[d1];rfl
  ·refine uA ?_;refine kh ?_;rw[bU (fun e=>e1 (g1.trans e))];rfl
 ·refine uA ?_;exact fW
theorem decl_teller (g:Sg) (a:Tree) (m:Mem) (L:List Item) (h:HTree) (hr:TreeRep m h a) (hB:a.wide≤140737488355328) (hK:IsPred 74 g.block a.kids) :
  TCall Tryz.prog 35 ⟨[treeV h]⟩ m L (Ret (.bool (declS g a)) m L):=by
 have hSg:IsPred 73 Tree.isSig a.kids:=kidPred goes73 hB fun b m L h hr hB=>sig_law b m L h hr hB;have hF1:IsPred 69 (fieldS Tree.isType) a.kids:=kidPred goes69 hB fun b m L h hr hB=>fieldT_teller b m L h hr hB;have hF2:IsPred 72 (fieldS Tree.isSig) a.kids:=kidPred goes72 hB fun b m L h hr hB=>fieldG_teller b m L h hr hB;have hR:IsPred 75 recvS a.kids:=kidPred goes75 hB fun b m L h hr hB=>recv_teller b m L h hr hB;have hr':=hr;obtain⟨h1,h2,h3,h4⟩:=hr;have hl:=h4.len;refine mR ?_;unfold declS TCall;refine cJ Tryz.func35 rfl 49 rfl ?_;by_cases hk:a.kind=2
 ·skip;rw[if_pos hk];obtain⟨k,n,u,s⟩:=h;obtain rfl:k=2:=h1.trans hk;simp only at h2 h3 h4 hl;subst h2;subst h3;refine uA ?_;refine ay (fun b=>?_);refine au goes68 (of_law _ _ ⟨2,a.name,a.num,s⟩ a hr' hB 2) ?_;refine aF (fun h7=>?_) (fun h7=>?_)
  ·refine uL ?_;refine au goes34 (pall_law _ _ s a.kids h4 69 (fieldS Tree.isType) hF1) ?_;exact er
  ·skip;exact ee
 rw[if_neg hk];have hk2:=hk;clear hk;by_cases hk:a.kind=3
 ·skip;rw[if_pos hk];obtain⟨k,n,u,s⟩:=h;obtain rfl:k=3:=h1.trans hk;simp only at h2 h3 h4 hl;subst h2;subst h3;refine uA ?_;refine ay (fun b=>?_);refine au goes68 (of_law _ _ ⟨3,a.name,a.num,s⟩ a hr' hB 3) ?_;refine aF (fun h7=>?_) (fun h7=>?_)
  ·refine uL ?_;refine au goes34 (pall_law _ _ s a.kids h4 72 (fieldS Tree.isSig) hF2) ?_;exact er
  ·skip;exact ee
 rw[if_neg hk];have hk3:=hk;clear hk;by_cases hk:a.kind=4
 ·skip;rw[if_pos hk];obtain⟨k,n,u,s⟩:=h;obtain rfl:k=4:=h1.trans hk;simp only at h2 h3 h4 hl;subst h2;subst h3;refine uA ?_;refine ay (fun b=>?_);refine au goes68 (of_law _ _ ⟨4,a.name,a.num,s⟩ a hr' hB 4) ?_;refine aF (fun h7=>?_) (fun h7=>?_)
  ·refine uL ?_;refine aj (hs:=[73,74]) (l:=[73,74]) tab rFn ⟨rfl,rfl,trivial⟩ uH ov (fun s1 m1 hm1 hs1 _ _=>?_);refine uA ?_;refine au goes70 (dl m1 _ ⟨4,a.name,a.num,s⟩ a (hr'.mono hm1) s1 [(73,Tree.isSig),(74,g.block)] none hs1 (pr2 hSg hK) po0) ?_;exact eR
  ·skip;exact ee
 rw[if_neg hk];have hk4:=hk;clear hk;by_cases hk:a.kind=5
 ·skip;rw[if_pos hk];obtain⟨k,n,u,s⟩:=h;obtain rfl:k=5:=h1.trans hk;simp only at h2 h3 h4 hl;subst h2;subst h3;refine uA ?_;refine ay (fun b=>?_);refine au goes68 (of_law _ _ ⟨5,a.name,a.num,s⟩ a hr' hB 5) ?_;refine aF (fun h7=>?_) (fun h7=>?_)
  ·refine uL ?_;refine aj (hs:=[75,73,74]) (l:=[75,73,74]) tab rFn ⟨rfl,rfl,rfl,trivial⟩ uH ov (fun s1 m1 hm1 hs1 _ _=>?_);refine uA ?_;refine au goes70 (dl m1 _ ⟨5,a.name,a.num,s⟩ a (hr'.mono hm1) s1 [(75,recvS),(73,Tree.isSig),(74,g.block)] none hs1 (pr3 hR hSg hK) po0) ?_;exact eR
  ·skip;exact ee
 rw[if_neg hk];refine uA ?_;refine ay (fun b=>?_);exact eP
theorem sound_law (a:Tree) (m:Mem) (L:List Item) (h:HTree) (hr:TreeRep m h a) (hB:a.wide≤140737488355328) :
  TCall Tryz.prog 16 ⟨[treeV h]⟩ m L (Ret (.bool (soundB a)) m L):=by
 have hr':=hr;obtain⟨h1,h2,h3,h4⟩:=hr;unfold TCall;refine ag Tryz.func16 18 ?_;refine oB (fun b=>?_);refine uA ?_;refine aB tab (fun b3=>?_);refine kc ?_;refine qs rfl (OT.loadL0 tab 1 rfl rfl rfl rfl rfl rfl ?_);refine uA ?_;refine oC goes31 ((fits_law a m _ h b3 1 20000 hr' ov ov ov ov).x ?_);rintro _ _ _ ⟨rfl,⟨rfl,k1,k2,rfl⟩ | ⟨rfl,k1,n,rfl⟩⟩
 ·have e1:(decide (a.size≤20000)&&decide (a.deep≤100))=true:=by rw[bS ou,bS ou];rfl
  unfold soundB;rw[e1,bR,←h1];have hD:IsPred 35 (declS (sg 100)) a.kids:=by
   refine⟨goes35,fun m L x c hc hrc=>?_⟩;have hBc:=bJ ((dg hc)) hB;refine decl_teller _ c m L x hrc hBc ⟨goes74,fun m L y d hd hrd=>?_⟩;exact(sg_tellers 100 d (by have:=deep_kid hc;have:=deep_kid hd;omega) (bJ ((dg hd)) hBc) m L y hrd).block
  refine uA ?_;refine qs rfl (OT.loadL0 tab 1 rfl rfl rfl rfl rfl rfl ?_);refine uL ?_;refine au goes33 (bare_law _ _ h a hr' (decide (h.kind=1)) false false) ?_;refine aF (fun h7=>?_) (fun h7=>?_)
  ·refine uL ?_;refine au goes34 (pall_law _ _ h.kids a.kids h4 35 (declS (sg 100)) hD) ?_;exact fW
  ·refine uA ?_;exact fW
 ·have e1:(decide (a.size≤20000)&&decide (a.deep≤100))=false:=by
   rw[←Bool.decide_and,bU (fun hh=>k1 ⟨by omega,by omega⟩)]
  unfold soundB;rw[e1];refine uA ?_;exact fc
end Go.Sep
namespace Go.Sep
open Go.Proofs
attribute [local irreducible] TC TO OT TCallX TCall DO DOt thenQ blockQ retQ At
theorem semis_cut (ks:List Tree) (i:Nat) (h:i<ks.length):Pt.semis (ks.map Pt.toks)=Pt.semis ((ks.take i).map Pt.toks)++(Pt.toks ks[i]++([Pt.mk [59]]++Pt.semis ((ks.drop (i+1)).map Pt.toks))):=by
 have e:ks=ks.take i++(ks[i]::ks.drop (i+1)):=by rw[←bV h,cn]
 conv=>lhs;rw[e]
 unfold Pt.semis;rw[cr,cr,List.flatten_append,bK,bK,List.flatten_cons,bz]
theorem semis_next (ks:List Tree) (i:Nat) (h:i<ks.length):Pt.semis ((ks.take (i+1)).map Pt.toks)=Pt.semis ((ks.take i).map Pt.toks)++(Pt.toks ks[i]++[Pt.mk [59]]):=by
 unfold Pt.semis;rw[cp h,cr,cr,List.flatten_append];simp
section
variable {Tb:Mem→Prop}
theorem decl_w (hTb:TbOk Tb) (hI:∀(m:Mem) (L:List Item) (n:Int),Tb m→0≤n→n<9223372036854775808→TCall Tryz.prog 192 ⟨[.int .i64 n]⟩ m L (Made m L fun r _=>r=strV (Pt.digN n.toNat))) (a:Tree) (hnum:Pt.numB2 a=true) (hd0:declS lim a=true):Pw Tb 36 a:=by
 have ih:∀ k∈a.kids,PT Tb k:=fun k _=>pt_all hTb hI k;intro m L bd q s x0 h hT0 hB hr hl;obtain⟨h1,h2,h3,h4⟩:=hr;have hlen:=h4.len;have hsm:=h4.small rfl;have hm:=cB m;have hT:TbM Tb m:=⟨fun h=>hTb.mono hT0 h⟩
 obtain⟨k,n0,u0,ks⟩:=a;obtain⟨hk,hn,hu,hks⟩:=h;simp only[Tree.kind,Tree.name,Tree.num,Tree.kids]at h1 h2 h3 h4 hlen hsm ih;subst h1 h2 h3;by_cases e:hk=2
 ·subst e;have hf:(ofB (.mk 2 hn hu ks) 2&&ks.all (fieldS Tree.isType))=true:=hd0;rw[bu]at hf;have et:Pt.toks (.mk 2 hn hu ks)=[Pt.wd [116,121,112,101],Pt.nm hn,Pt.wd [115,116,114,117,99,116],Pt.mk [123]]++(Pt.semis (ks.map Pt.toks)++[Pt.mk [125]]):=oE;rw[et]at hl
  try simp only[dj,ba]at hl
  unfold TCall;refine ag Tryz.func36 104 ?_;refine oB (fun b=>?_);refine mg ?_;refine aj (hs:=[[116,121,112,101],hn,[115,116,114,117,99,116],[123]]) (l:=[[116,121,112,101],hn,[115,116,114,117,99,116],[123]]) tab rStr ⟨rfl,rfl,rfl,rfl,trivial⟩ uH ov (fun sl ma hma hsl _ _=>?_);replace hm:=cC hm hma;replace hB:=hB.mono hma;refine uA ?_;refine oC de ((dk _ _ bd q s _ hB sl [Pt.wd [116,121,112,101],Pt.nm hn,Pt.wd [115,116,114,117,99,116],Pt.mk [123]] hsl oH).x ?_);rintro _ m1 _ ⟨hm1,s,q,rfl,hB⟩;replace hm:=cC hm hm1;clear hm1 hma hsl;refine uL ?_;refine cG (ι:=PS) [0,3,5,61,62] rfl (fun g=>[(63,.int .i64 (g.i:Int))]) (fun g=>g.m) (fun g=>bdL bd g.q g.s (.cells b 0 (treeC ⟨2,hn,hu,hks⟩)::L)) (fun g=>m≤g.m∧g.i≤ks.length∧BOk g.m bd g.q g.s (x0++putT [Pt.wd [116,121,112,101],Pt.nm hn,Pt.wd [115,116,114,117,99,116],Pt.mk [123]]++putT (Pt.semis ((ks.take g.i).map Pt.toks)))) (fun g=>ks.length-g.i) ⟨m1,q,s,0⟩ uH rfl uS ⟨hm,cm _,hB.cast (by simp[Pt.semis,putT_nil])⟩ ?_;rintro⟨m1,q,s,i⟩ ⟨hm,hi,hB⟩;simp only at hm hi hB;refine uA ?_;refine ap (fun h1=>?_) (fun h1=>?_)
  ·simp only at h1;have hlt:i<ks.length:=ou;have hxi:ks[i]? = some ks[i]:=bw hlt;have hc:=congrArg (fun l=>(putT l).length) (semis_cut ks i hlt);obtain⟨fs,ft,hfe,hft⟩:=Pt.field_f (List.all_eq_true.1 hf.2 ks[i] (bN hlt));have hnx:=semis_next ks i hlt;generalize ks[i]=fld at *;subst hfe;have etf:Pt.toks (.mk 6 fs 0 [ft])=[Pt.nm fs]++Pt.toks ft:=oE;rw[etf]at hc hnx;simp only[dj,ba]at hc;have px:=typ_w hTb ft hft;have h4c:=h4.mono hm;refine lB ?_;rintro b8 i8 h8 hr8 hA8;refine oL tab hA8 ?_;refine aB tab (fun b5=>?_);refine uT ?_;refine cL pq3 ?_;obtain⟨e1,e2,e3,e4⟩:=rTree_iff.1 hr8;have e2':h8.name=fs:=e2;have e4':SlRep rTree m1 h8.kids [ft]:=e4;have hfi:[ft][0]? = some ft:=rfl;refine uL ?_;rw[e2'];refine aj (hs:=[fs]) (l:=[fs]) tab rStr ⟨rfl,trivial⟩ uH ov (fun sl ma hma hsl _ _=>?_);replace hm:=cC hm hma;replace hB:=hB.mono hma;replace e4':=e4'.mono hma;refine nr ?_;rintro _ m1 _ ⟨hm1,s,q,rfl,hB⟩;replace hm:=cC hm hm1;replace e4':=e4'.mono hm1;clear hm1 hma hsl;refine nQ ?_;rintro b7 i7 h7 hr7 hA7;refine kU ?_;exact eF
  ·simp only at h1;rw[cl ou]at hB;refine uA ?_;refine aj (hs:=[[125]]) (l:=[[125]]) tab rStr ⟨rfl,trivial⟩ uH ov (fun sl ma hma hsl _ _=>?_);replace hm:=cC hm hma;replace hB:=hB.mono hma;refine ll ?_;exact dO
 by_cases e:hk=3
 ·subst e;have hf:(ofB (.mk 3 hn hu ks) 3&&ks.all (fieldS Tree.isSig))=true:=hd0;rw[bu]at hf;have et:Pt.toks (.mk 3 hn hu ks)=[Pt.wd [116,121,112,101],Pt.nm hn,Pt.wd [105,110,116,101,114,102,97,99,101],Pt.mk [123]]++(Pt.semis (ks.map Pt.toks)++[Pt.mk [125]]):=oE;rw[et]at hl
  try simp only[dj,ba]at hl
  unfold TCall;refine ag Tryz.func36 104 ?_;refine oB (fun b=>?_);refine mg ?_;refine aj (hs:=[[116,121,112,101],hn,[105,110,116,101,114,102,97,99,101],[123]]) (l:=[[116,121,112,101],hn,[105,110,116,101,114,102,97,99,101],[123]]) tab rStr ⟨rfl,rfl,rfl,rfl,trivial⟩ uH ov (fun sl ma hma hsl _ _=>?_);replace hm:=cC hm hma;replace hB:=hB.mono hma;refine uA ?_;refine oC de ((dk _ _ bd q s _ hB sl [Pt.wd [116,121,112,101],Pt.nm hn,Pt.wd [105,110,116,101,114,102,97,99,101],Pt.mk [123]] hsl oH).x ?_);rintro _ m1 _ ⟨hm1,s,q,rfl,hB⟩;replace hm:=cC hm hm1;clear hm1 hma hsl;refine uL ?_;refine cG (ι:=PS) [0,3,5,61,62] rfl (fun g=>[(63,.int .i64 (g.i:Int))]) (fun g=>g.m) (fun g=>bdL bd g.q g.s (.cells b 0 (treeC ⟨3,hn,hu,hks⟩)::L)) (fun g=>m≤g.m∧g.i≤ks.length∧BOk g.m bd g.q g.s (x0++putT [Pt.wd [116,121,112,101],Pt.nm hn,Pt.wd [105,110,116,101,114,102,97,99,101],Pt.mk [123]]++putT (Pt.semis ((ks.take g.i).map Pt.toks)))) (fun g=>ks.length-g.i) ⟨m1,q,s,0⟩ uH rfl uS ⟨hm,cm _,hB.cast (by simp[Pt.semis,putT_nil])⟩ ?_;rintro⟨m1,q,s,i⟩ ⟨hm,hi,hB⟩;simp only at hm hi hB;refine uA ?_;refine ap (fun h1=>?_) (fun h1=>?_)
  ·simp only at h1;have hlt:i<ks.length:=ou;have hxi:ks[i]? = some ks[i]:=bw hlt;have hc:=congrArg (fun l=>(putT l).length) (semis_cut ks i hlt);obtain⟨fs,ft,hfe,hft⟩:=Pt.field_f (List.all_eq_true.1 hf.2 ks[i] (bN hlt));have hnx:=semis_next ks i hlt;generalize ks[i]=fld at *;subst hfe;have etf:Pt.toks (.mk 6 fs 0 [ft])=[Pt.nm fs]++Pt.toks ft:=oE;rw[etf]at hc hnx;simp only[dj,ba]at hc;have px:=sig_w hTb ft hft;have h4c:=h4.mono hm;refine lB ?_;rintro b8 i8 h8 hr8 hA8;refine oL tab hA8 ?_;refine aB tab (fun b5=>?_);refine uT ?_;refine cL pq3 ?_;obtain⟨e1,e2,e3,e4⟩:=rTree_iff.1 hr8;have e2':h8.name=fs:=e2;have e4':SlRep rTree m1 h8.kids [ft]:=e4;have hfi:[ft][0]? = some ft:=rfl;refine uL ?_;rw[e2'];refine aj (hs:=[fs]) (l:=[fs]) tab rStr ⟨rfl,trivial⟩ uH ov (fun sl ma hma hsl _ _=>?_);replace hm:=cC hm hma;replace hB:=hB.mono hma;replace e4':=e4'.mono hma;refine nr ?_;rintro _ m1 _ ⟨hm1,s,q,rfl,hB⟩;replace hm:=cC hm hm1;replace e4':=e4'.mono hm1;clear hm1 hma hsl;refine nQ ?_;rintro b7 i7 h7 hr7 hA7;refine kV ?_;exact eF
  ·simp only at h1;rw[cl ou]at hB;refine uA ?_;refine aj (hs:=[[125]]) (l:=[[125]]) tab rStr ⟨rfl,trivial⟩ uH ov (fun sl ma hma hsl _ _=>?_);replace hm:=cC hm hma;replace hB:=hB.mono hma;refine ll ?_;exact dO
 by_cases e:hk=4
 ·subst e;have hf:(ofB (.mk 4 hn hu ks) 4&&kidsR [Tree.isSig,lim.block] none ks)=true:=hd0;rw[bu]at hf;obtain⟨x,y,rfl,hx,hy⟩:=Pt.kids2 hf.2;have px:=sig_w hTb x hx;have py:=(ih y ow).block (Pt.num_kid hnum oD) hy;have hxi:[x,y][0]? = some x:=rfl;have hyi:[x,y][1]? = some y:=rfl;have et:Pt.toks (.mk 4 hn hu [x,y])=[Pt.wd [102,117,110,99],Pt.nm hn]++(Pt.toks x++Pt.toks y):=oE;rw[et]at hl
  try simp only[dj,ba]at hl
  unfold TCall;refine ag Tryz.func36 104 ?_;refine oB (fun b=>?_);refine mg ?_;refine aj (hs:=[[102,117,110,99],hn]) (l:=[[102,117,110,99],hn]) tab rStr ⟨rfl,rfl,trivial⟩ uH ov (fun sl ma hma hsl _ _=>?_);replace hm:=cC hm hma;replace hB:=hB.mono hma;refine uA ?_;refine oC de ((dk _ _ bd q s _ hB sl [Pt.wd [102,117,110,99],Pt.nm hn] hsl oH).x ?_);rintro _ m1 _ ⟨hm1,s,q,rfl,hB⟩;replace hm:=cC hm hm1;clear hm1 hma hsl;refine uL ?_;have h4c:=h4.mono hm;refine km ?_;rintro b7 i7 h7 hr7 hA7;refine kV ?_;rintro _ m1 _ ⟨hm1,s,q,rfl,hB⟩;replace hm:=cC hm hm1;clear hm1 h4c hr7 hA7;refine uL ?_;have h4c:=h4.mono hm;refine kD ?_;rintro b7 i7 h7 hr7 hA7;refine kG ?_;rintro _ m1 _ ⟨hm1,s,q,rfl,hB⟩;replace hm:=cC hm hm1;clear hm1 h4c hr7 hA7;exact dS
 by_cases e:hk=5
 ·subst e;have hf:(ofB (.mk 5 hn hu ks) 5&&kidsR [recvS,Tree.isSig,lim.block] none ks)=true:=hd0;rw[bu]at hf;obtain⟨r,x,y,rfl,hr0,hx,hy⟩:=Pt.kids3 hf.2;have hrp:∃ rn ty,r = .mk 8 rn 0 [ty]∧ty.isType=true:=by
   unfold recvS at hr0;rw[bu]at hr0;have hp:=hr0.1;unfold Tree.isParam at hp;simp only[bu,bE]at hp;obtain⟨p1,p2,p3,p4,p5⟩:=hp;obtain⟨rk,rn,ru,rks⟩:=r;obtain rfl:rk=8:=p1;obtain rfl:ru=0:=p2;obtain⟨ty,rfl⟩:=List.length_eq_one_iff.1 p4;exact⟨rn,ty,rfl,List.all_eq_true.1 p5 ty oD⟩
  obtain⟨rn,ty,rfl,hty⟩:=hrp;have pt:=typ_w hTb ty hty;have px:=sig_w hTb x hx;have py:=(ih y ow).block (Pt.num_kid hnum oD) hy;have hri:[Tree.mk 8 rn 0 [ty],x,y][0]? = some (.mk 8 rn 0 [ty]):=rfl;have hxi:[Tree.mk 8 rn 0 [ty],x,y][1]? = some x:=rfl;have hyi:[Tree.mk 8 rn 0 [ty],x,y][2]? = some y:=rfl;have hti:[ty][0]? = some ty:=rfl;have et:Pt.toks (.mk 5 hn hu [.mk 8 rn 0 [ty],x,y])=[Pt.wd [102,117,110,99],Pt.mk [40],Pt.nm rn]++(Pt.toks ty++([Pt.mk [41],Pt.nm hn]++(Pt.toks x++Pt.toks y))):=oE;rw[et]at hl
  try simp only[dj,ba]at hl
  unfold TCall;refine ag Tryz.func36 104 ?_;refine oB (fun b=>?_);refine mg ?_;have h4c:=h4.mono hm;refine al tab rTree 0 h4c uH oy rfl hri ?_;rintro b8 i8 h8 hr8 hA8;obtain⟨e1,e2,e3,e4⟩:=rTree_iff.1 hr8;have e2':h8.name=rn:=e2;refine uA ?_;refine qs rfl (OT.loadA tab hA8 rfl rfl rfl rfl rfl ?_);rw[e2'];refine aj (hs:=[[102,117,110,99],[40],rn]) (l:=[[102,117,110,99],[40],rn]) tab rStr ⟨rfl,rfl,rfl,trivial⟩ uH ov (fun sl ma hma hsl _ _=>?_);replace hm:=cC hm hma;replace hB:=hB.mono hma;refine uA ?_;refine oC de ((dk _ _ bd q s _ hB sl [Pt.wd [102,117,110,99],Pt.mk [40],Pt.nm rn] hsl oH).x ?_);rintro _ m1 _ ⟨hm1,s,q,rfl,hB⟩;replace hm:=cC hm hm1;clear hm1 hma hsl;refine uL ?_;have h4c:=h4.mono hm;refine al tab rTree 0 h4c uH oy rfl hri ?_;rintro b8 i8 h8 hr8 hA8;obtain⟨e1,e2,e3,e4⟩:=rTree_iff.1 hr8;have e4':SlRep rTree _ h8.kids [ty]:=e4;refine uA ?_;refine ai hA8 ?_;refine al tab rTree 0 e4' uH oy rfl hti ?_;rintro b7 i7 h7 hr7 hA7;refine an tab hA7 ?_;refine oC goes76 ((pt _ _ bd q s _ h7 (hT.mono hm) hB (rTree_iff.1 hr7) oH).x ?_);rintro _ m1 _ ⟨hm1,s,q,rfl,hB⟩;replace hm:=cC hm hm1;refine uL ?_;refine aj (hs:=[[41],hn]) (l:=[[41],hn]) tab rStr ⟨rfl,rfl,trivial⟩ uH ov (fun sl ma hma hsl _ _=>?_);replace hm:=cC hm hma;replace hB:=hB.mono hma;refine uA ?_;refine oC de ((dk _ _ bd q s _ hB sl [Pt.mk [41],Pt.nm hn] hsl oH).x ?_);rintro _ m1 _ ⟨hm1,s,q,rfl,hB⟩;replace hm:=cC hm hm1;clear hm1 hma hsl;refine uL ?_;have h4c:=h4.mono hm;refine al tab rTree 1 h4c uH oy rfl hxi ?_;rintro b7 i7 h7 hr7 hA7;refine kV ?_;rintro _ m1 _ ⟨hm1,s,q,rfl,hB⟩;replace hm:=cC hm hm1;clear hm1 h4c hr7 hA7;refine uL ?_;have h4c:=h4.mono hm;refine al tab rTree 2 h4c uH oy rfl hyi ?_;rintro b7 i7 h7 hr7 hA7;refine kG ?_;rintro _ m1 _ ⟨hm1,s,q,rfl,hB⟩;replace hm:=cC hm hm1;clear hm1 h4c hr7 hA7
  exact dS
 exfalso;unfold declS at hd0;simp only[Tree.kind]at hd0;simp[*]at hd0
end
end Go.Sep
namespace Go.Sep
open Go.Proofs Go.RowKit
attribute [local irreducible] TC TO OT TCallX TCall DO DOt thenQ blockQ retQ At
theorem St.below {m:Mem} {w w':World} {L:List Item} (h:St m w L) (hb:Below w.heap.size w w'):St m w' L:=by
 have hc:∀(b i:Nat) (v:Value),w.cell? ⟨b,i,none⟩=some v→w'.cell? ⟨b,i,none⟩=some v∧w'.frozen? ⟨b,i,none⟩=w.frozen? ⟨b,i,none⟩:=fun b i v hv=>by
  have hlt:=World.block_lt_of_cell? _ _ hv;have e:=hb.block b hlt;exact⟨by rw[World.cell?_of_block e];exact hv,World.frozen?_of_block e⟩
 refine⟨hb.os.trans h.os,hb.tape.trans h.tape,hb.output.trans h.output,bJ h.size hb.size,fun b hlt=>(hb.block b (ci hlt h.size)).trans (h.pin b hlt),fun b i v hv=>(hc b i v (h.c b i v hv)).1,fun b x hx=>?_,fun b x hx=>?_,fun x hx=>?_,h.free,h.disj⟩
 ·obtain⟨h1,h2⟩:=h.o b x hx;exact iQ
 ·obtain⟨arr,fr,h1,h2⟩:=h.t b x hx;have hlt:b<w.heap.size:=(Array.getElem?_eq_some_iff.1 h1).1;exact⟨arr,fr,(hb.block b hlt).trans h1,h2⟩
 ·have hi:=h.items x hx;have hc2:∀(b i:Nat) (v:Value),w.cell? ⟨b,i,none⟩=some v→w'.cell? ⟨b,i,none⟩=some v∧∀ j,w'.frozen? ⟨b,j,none⟩=w.frozen? ⟨b,j,none⟩:=fun b i v hv=>by
   have e:=hb.block b (World.block_lt_of_cell? _ _ hv);exact⟨by rw[World.cell?_of_block e];exact hv,fun j=>World.frozen?_of_block e⟩
  cases x with
  | cells b off vs =>
   intro j v hj;obtain⟨h1,h2⟩:=hi j v hj;obtain⟨h3,h4⟩:=hc2 _ _ _ h1;exact⟨h3,fun i=>(h4 i).trans (h2 i)⟩
  | room b off n =>
   intro j hj;obtain⟨v,h1,h2⟩:=hi j hj;obtain⟨h3,h4⟩:=hc2 _ _ _ h1;exact⟨v,h3,fun i=>(h4 i).trans (h2 i)⟩
  | obj b o =>
   obtain⟨h1,h2⟩:=hi;exact iQ
def Tb (m:Mem):Prop:=Lib.TabIs Tryz.prog m.pin "internal/strconv.uint64pow10" .u64 Lib.pow10Tab∧3<m.pin.heap.size
theorem tbOk : TbOk Tb:=⟨fun h hm=>by unfold Tb;rw[hm.pin];exact h⟩
theorem dec_dig : ∀(f n:Nat),1≤f→n<10 ^ f→Lib.decDigits n=Pt.digF f n
 | 0,n,h,_=>by omega
 | f+1,n,_,hn=>by
  rw[Lib.decDigits,Pt.digF];by_cases h:n<10
  ·rw[if_pos h,dif_pos h]
  ·rw[if_neg h,dif_neg h];have hf:1≤f:=by
    exact jz
   rw[dec_dig f (n / 10) hf (by rw[Nat.pow_succ]at hn;omega)]
theorem itoa_law (m:Mem) (L:List Item) (n:Int) (hT:Tb m) (h0:0≤n) (h1:n<9223372036854775808):TCall Tryz.prog 192 ⟨[.int .i64 n]⟩ m L (Made m L fun r _=>r=strV (Pt.digN n.toNat)):=by
 unfold TCall TCallX;intro w hw;have hg:Tryz.prog.globalNamed "internal/strconv.uint64pow10" = some 3:=uK;have htab:Lib.TabIs Tryz.prog w "internal/strconv.uint64pow10" .u64 Lib.pow10Tab:=by
  have h2:=hT.1;unfold Lib.TabIs World.var? at h2 ⊢;rw[hg]at h2 ⊢;simp only[Option.bind_some]at h2 ⊢;rw[hw.pin 3 hT.2];exact h2
 refine(Tryz.strconv_Itoa n ou ou w htab).mono fun e w' ⟨he,k,os,hww⟩=>?_;subst he;have hst:St m w' L:=hw.below (by
  subst hww;exact⟨rfl,rfl,rfl,by simp[Go.Sort.grow,World.drewN],fun b hb=>by simp only[Go.Sort.grow];rw[Array.getElem?_append_left (by simpa[World.drewN]using hb)];rfl⟩)
 refine⟨m,L,hst,cB _,rfl,?_⟩;have hd:Lib.itoa n=Pt.digN n.toNat:=by
  unfold Lib.itoa Pt.digN;rw[if_neg ou,dec_dig 20 n.toNat ov ou]
 rw[hd]
end Go.Sep
namespace Go.Pt
open Go.Sep Go.Ps
variable {α β:Type}
def FN (f:F):Prop:=∀ i t,f i=some t→t.kind=2→t.num<9223372036854775808
def Sn (w:α→Prop) (p:Pp α):Prop:=∀ f,FN f→∀ k a k',p f k = .ok a k'→w a
theorem Sn.ret {w:α→Prop} {a:α} (h:w a):Sn w (ret a):=fun f _ k b k' e=>by injection e with e1 e2;subst e1;exact h
theorem Sn.fail {w:α→Prop}:Sn w (fail:Pp α):=fun f _ k a k' e=>by cases e
theorem Sn.dry {w:α→Prop}:Sn w (dry:Pp α):=fun f _ k a k' e=>by cases e
theorem Sn.bind {w1:α→Prop} {w:β→Prop} {p:Pp α} {g:α→Pp β} (hp:Sn w1 p) (hg:∀ a,w1 a→Sn w (g a)):Sn w (Ps.bind p g):=fun f hf k b k' e=>by
 exact gi
theorem Sn.tok {w:α→Prop} {s:Str} {A B:Pp α} (hA:Sn w A) (hB:Sn w B):Sn w (Ps.tok s A B):=fun f hf k a k' e=>by
 exact gH
theorem Sn.need {w:α→Prop} {s:Str} {A:Pp α} (hA:Sn w A):Sn w (need s A):=Sn.tok hA Sn.fail
theorem Sn.tkn {w:α→Prop} {n:Int} {A:Tk→Pp α} {B:Pp α} (hA:∀ t:Tk,(t.kind=2→t.num<9223372036854775808)→t.kind=n→Sn w (A t)) (hB:Sn w B):Sn w (tkn n A B):=fun f hf k a k' e=>by
 exact fB
theorem Sn.name {w:α→Prop} {A:Str→Pp α} (hA:∀ t,Sn w (A t)):Sn w (name A):=Sn.tkn (fun t ht hk=>hA t.text) Sn.fail
theorem Sn.oneOf {w:α→Prop} {ops:List Str} {A:Str→Pp α} {B:Pp α} (hA:∀ t,Sn w (A t)) (hB:Sn w B):Sn w (oneOf ops A B):=fun f hf k a k' e=>by
 unfold Ps.oneOf at e;cases hx:ops.find? (fun s=>isM s f k)with
 | none=>simp only[hx]at e;exact hB f hf k a k' e
 | some t=>simp only[hx]at e;exact hA t f hf _ a k' e
theorem Sn.peek {w:α→Prop} {q:F→Nat→Bool} {A B:Pp α} (hA:Sn w A) (hB:Sn w B):Sn w (peek q A B):=fun f hf k a k' e=>by
 exact fz
theorem Sn.tokIf {w:α→Prop} {x:Bool} {s:Str} {A B:Pp α} (hA:Sn w A) (hB:Sn w B):Sn w (tokIf x s A B):=by
 cases x with
 | true=>exact Sn.tok hA hB
 | false=>exact hB
@[reducible] def Nu (a:Tree):Prop:=numB2 a=true
def Nl (l:List Tree):Prop:=∀ a∈l,Nu a
theorem Nl.nil : Nl []:=fun _ h=>by cases h
theorem Nl.cons {a:Tree} {l:List Tree} (h:Nu a) (hl:Nl l):Nl (a::l):=fun b hb=>by
 exact jH
theorem Nl.app {l r:List Tree} (hl:Nl l) (hr:Nl r):Nl (l++r):=fun b hb=>by
 rcases List.mem_append.1 hb with hb | hb
 ·exact hl b hb
 ·exact hr b hb
theorem nl_of : ∀ {l:List Tree},Nl l→numL l=true
 | [],_=>rfl
 | a::l,h=>by rw[numL,show numB2 a=true from h a ow,nl_of fun x hx=>h x pb];rfl
theorem nu {k:Int} {n:Str} {u:Int} {ks:List Tree} (h:k≠40∨u<9223372036854775808) (hk:Nl ks):Nu (.mk k n u ks):=by
 show numB2 _=true;rw[numB2,nl_of hk,Bool.and_true];rcases h with h | h
 ·rw[bU h];rfl
 ·rw[bS h,Bool.or_true]
theorem commas_n {X:Pp Tree} (h:Sn Nu X):∀ j,Sn Nl (commas j X)
 | 0=>Sn.dry
 | j+1=>Sn.bind h fun a ha=>Sn.tok (Sn.bind (commas_n h j) fun l hl=>Sn.ret (hl.cons ha)) (Sn.ret (Nl.nil.cons ha))
theorem upto_n {X:Pp Tree} {s:Str} (h:Sn Nu X):∀ j,Sn Nl (upto j s X)
 | 0=>Sn.dry
 | j+1=>Sn.tok (Sn.ret Nl.nil) (Sn.bind h fun a ha=>Sn.bind (upto_n h j) fun l hl=>Sn.ret (hl.cons ha))
section
variable {N:Nat}
theorem inP_n {s:Str} {X:Pp Tree} (h:Sn Nu X):Sn Nl (inP N s X):=Sn.tok (Sn.ret Nl.nil) (Sn.bind (commas_n h N) fun l hl=>Sn.need (Sn.ret hl))
theorem results_n {typ:Pp Tree} (h:Sn Nu typ):Sn Nl (resultsP N typ):=Sn.tok (Sn.bind (commas_n h N) fun l hl=>Sn.need (Sn.ret hl)) (Sn.peek (Sn.bind h fun t ht=>Sn.ret (Nl.nil.cons ht)) (Sn.ret Nl.nil))
theorem one {k:Int} {n:Str} {u:Int} {t:Tree} (h:k≠40) (ht:Nu t):Nu (.mk k n u [t]):=nu (.inl h) (Nl.nil.cons ht)
theorem two {k:Int} {n:Str} {u:Int} {t r:Tree} (h:k≠40) (ht:Nu t) (hr:Nu r):Nu (.mk k n u [t,r]):=nu (.inl h) ((Nl.nil.cons hr).cons ht)
theorem three {k:Int} {n:Str} {u:Int} {t r s:Tree} (h:k≠40) (ht:Nu t) (hr:Nu r) (hs:Nu s):Nu (.mk k n u [t,r,s]):=nu (.inl h) (((Nl.nil.cons hs).cons hr).cons ht)
theorem lf {k:Int} {n:Str} (h:k≠40):Nu (leaf k n):=nu (.inl h) Nl.nil
theorem param_n {typ:Pp Tree} (h:Sn Nu typ):Sn Nu (paramP typ):=Sn.name fun s=>Sn.bind h fun t ht=>Sn.ret (one ov ht)
theorem sl_n {kind:Int} (hk:kind≠40) {X typ:Pp Tree} (hX:Sn Nu X) (h:Sn Nu typ):Sn Nu (sigLike N kind X typ):=Sn.need (Sn.bind (inP_n hX) fun ps hps=>Sn.bind (results_n h) fun rs hrs=>Sn.ret (nu (.inl hk) (hps.app hrs)))
theorem sig_n {typ:Pp Tree} (h:Sn Nu typ):Sn Nu (sigP N typ):=sl_n ov (param_n h) h
theorem typ_n {typ:Pp Tree} (h:Sn Nu typ):Sn Nu (typP N typ) :=
 Sn.tok (Sn.bind h fun t ht=>Sn.ret (one ov ht)) (Sn.tok (Sn.need (Sn.bind h fun t ht=>Sn.ret (one ov ht))) (Sn.tok (sl_n ov h h) (Sn.name fun s=>Sn.ret (lf ov))))
theorem field_n {m:Pp Tree} (h:Sn Nu m):Sn Nu (fieldP m):=Sn.name fun s=>Sn.bind h fun t ht=>Sn.need (Sn.ret (one ov ht))
theorem body_n {kind:Int} (hk:kind≠40) {n:Str} {m:Pp Tree} (h:Sn Nu m):Sn Nu (bodyP N kind n m):=Sn.need (Sn.bind (upto_n (field_n h) N) fun l hl=>Sn.ret (nu (.inl hk) hl))
theorem typeDecl_n {typ:Pp Tree} (h:Sn Nu typ):Sn Nu (typeDeclP N typ):=Sn.name fun s=>Sn.tok (body_n ov (sig_n h)) (Sn.need (body_n ov h))
theorem decl_n {typ block:Pp Tree} (h:Sn Nu typ) (hb:Sn Nu block):Sn Nu (declP N typ block) :=
 Sn.tok (typeDecl_n h) (Sn.need (Sn.tok (Sn.name fun r=>Sn.need (Sn.name fun o=>Sn.need (Sn.name fun n=>Sn.bind (sig_n h) fun s hs=>Sn.bind hb fun b hb=>Sn.ret (three ov (one ov (one ov (lf ov))) hs hb))))
  (Sn.name fun n=>Sn.bind (sig_n h) fun s hs=>Sn.bind hb fun b hb=>Sn.ret (two ov hs hb))))
theorem block_n {stmt:Pp Tree} (h:Sn Nu stmt):Sn Nu (blockP N stmt):=Sn.need (Sn.bind (upto_n h N) fun l hl=>Sn.ret (nu (.inl ov) hl))
theorem branch_n {expr block branch:Pp Tree} (he:Sn Nu expr) (hb:Sn Nu block) (hr:Sn Nu branch):Sn Nu (branchP expr block branch) :=
 Sn.need (Sn.bind he fun c hc=>Sn.bind hb fun b hb1=>Sn.tok (Sn.peek (Sn.bind hr fun e he=>Sn.ret (three ov hc hb1 he)) (Sn.bind hb fun e he=>Sn.ret (three ov hc hb1 he))) (Sn.ret (two ov hc hb1)))
theorem for_n {expr block:Pp Tree} (he:Sn Nu expr) (hb:Sn Nu block):Sn Nu (forP expr block):=Sn.peek (Sn.bind hb fun b hb=>Sn.ret (one ov hb)) (Sn.bind he fun c hc=>Sn.bind hb fun b hb=>Sn.ret (two ov hc hb))
theorem assign_n {expr:Pp Tree} {left:List Tree} (he:Sn Nu expr) (hl:Nl left):Sn Nu (assignP N expr left):=by
 refine Sn.tokIf (Sn.bind (commas_n he N) fun l hr=>Sn.ret (nu (.inl ov) (hl.app hr))) (Sn.tokIf (Sn.bind (commas_n he N) fun l hr=>Sn.ret (nu (.inl ov) (hl.app hr))) ?_);cases isC1 left with
 | true=>exact Sn.peek (Sn.ret (nu (.inl ov) hl)) Sn.fail
 | false=>exact Sn.fail
theorem simple_n {typ expr:Pp Tree} (h:Sn Nu typ) (he:Sn Nu expr):Sn Nu (simpleP N typ expr) :=
 Sn.tok (Sn.name fun s=>Sn.bind h fun t ht=>Sn.tok (Sn.bind he fun e he1=>Sn.ret (two ov ht he1)) (Sn.ret (one ov ht)))
  (Sn.tok (Sn.peek (Sn.ret (lf ov)) (Sn.bind (commas_n he N) fun l hl=>Sn.ret (nu (.inl ov) hl)))
   (Sn.tok (Sn.ret (lf ov)) (Sn.tok (Sn.ret (lf ov)) (Sn.bind (commas_n he N) fun l hl=>assign_n he hl))))
theorem cut_n {expr:Pp Tree} {u:Int} {ks:List Tree} (he:Sn Nu expr) (hk:Nl ks):Sn Nu (cutP expr u ks) :=
 Sn.need (Sn.tok (Sn.ret (nu (.inl ov) hk)) (Sn.bind he fun e he1=>Sn.need (Sn.ret (nu (.inl ov) (hk.app (Nl.nil.cons he1))))))
theorem index_n {expr:Pp Tree} {n:Tree} (he:Sn Nu expr) (hn:Nu n):Sn Nu (indexP expr n) :=
 Sn.peek (cut_n he (Nl.nil.cons hn)) (Sn.bind he fun e he1=>Sn.tok (Sn.ret (two ov hn he1)) (cut_n he ((Nl.nil.cons he1).cons hn)))
theorem post_n {expr:Pp Tree} (he:Sn Nu expr):∀(j:Nat) (n:Tree),Nu n→Sn Nu (postP N expr j n)
 | 0,_,_=>Sn.dry
 | j+1,n,hn=>Sn.tok (Sn.name fun s=>post_n he j _ (one ov hn)) (Sn.tok (Sn.bind (index_n he hn) fun t ht=>post_n he j _ ht) (Sn.tok (Sn.bind (inP_n he) fun l hl=>post_n he j _ (nu (.inl ov) (hl.cons hn))) (Sn.ret hn)))
theorem prim_n {typ block expr:Pp Tree} {h:Bool} (gt:Sn Nu typ) (hb:Sn Nu block) (he:Sn Nu expr):Sn Nu (primP N typ block expr h):=by
 refine Sn.tkn (fun t ht hk=>Sn.ret (nu (.inr (ht hk)) Nl.nil)) (Sn.tkn (fun t _ _=>Sn.ret (lf ov)) (Sn.tok (Sn.ret (nu (.inl ov) Nl.nil)) (Sn.tok (Sn.ret (lf ov)) (Sn.tok (Sn.ret (lf ov)) ?_))));refine Sn.tok (Sn.bind he fun t ht=>Sn.need (Sn.ret ht)) (Sn.tok (Sn.need (Sn.bind gt fun t ht=>Sn.need (Sn.bind (inP_n he) fun l hl=>Sn.ret (nu (.inl ov) (hl.cons ht))))) (Sn.tok (Sn.bind (sig_n gt) fun s hs=>Sn.bind hb fun b hb1=>Sn.ret (two ov hs hb1)) (Sn.name fun s=>?_)));cases h with
 | true=>exact Sn.ret (lf ov)
 | false=>exact Sn.tok (Sn.bind (inP_n he) fun l hl=>Sn.ret (nu (.inl ov) hl)) (Sn.ret (lf ov))
theorem loopB_n {X:Pp Tree} {ops:List Str} (h:Sn Nu X):∀(j:Nat) (n:Tree),Nu n→Sn Nu (loopB j ops X n)
 | 0,_,_=>Sn.dry
 | j+1,n,hn=>Sn.oneOf (fun op=>Sn.bind h fun m hm=>loopB_n h j _ (two ov hn hm)) (Sn.ret hn)
theorem binL_n {U:Pp Tree} (hU:Sn Nu U):∀ l,Sn Nu (binL N U l)
 | []=>hU
 | ops::rest=>Sn.bind (binL_n hU rest) fun n hn=>loopB_n (binL_n hU rest) N n hn
structure GN (g:Gr):Prop where
 typ:Sn Nu g.typ
 block:Sn Nu g.block
 stmt:Sn Nu g.stmt
 branch:Sn Nu g.branch
 expr:∀ b,Sn Nu (g.expr b)
 unary:∀ b,Sn Nu (g.unary b)
theorem gn : ∀ n,GN (gr N n)
 | 0=>⟨Sn.dry,Sn.dry,Sn.dry,Sn.dry,fun _=>Sn.dry,fun _=>Sn.dry⟩
 | n+1=>by
  have IH:=gn n;refine⟨typ_n IH.typ,block_n IH.stmt,Sn.peek IH.block (Sn.peek IH.branch (Sn.tok (for_n (IH.expr _) IH.block) (Sn.bind (simple_n IH.typ (IH.expr _)) fun s hs=>Sn.need (Sn.ret hs)))),branch_n (IH.expr _) IH.block IH.branch,fun b=>binL_n (IH.unary b) _,fun b=>?_⟩;exact Sn.oneOf (fun op=>Sn.bind (IH.unary b) fun t ht=>Sn.ret (one ov ht)) (Sn.bind (prim_n IH.typ IH.block (IH.expr _)) fun t ht=>post_n (IH.expr _) N t ht)
theorem progL_n {decl:Pp Tree} (h:Sn Nu decl):∀ j,Sn Nl (progL decl j)
 | 0=>Sn.dry
 | j+1=>fun f hf k a k' e=>by
  have hr:Sn Nl (Ps.bind decl fun a=>Ps.bind (Ps.progL decl j) fun l=>Ps.ret (a::l)):=Sn.bind h fun a ha=>Sn.bind (progL_n h j) fun l hl=>Sn.ret (hl.cons ha);unfold progL at e;cases hb:(f k).isNone with
  | true=>simp only[hb,cy]at e;injection e with e1 e2;subst e1;exact Nl.nil
  | false=>simp only[hb,cx]at e;exact hr f hf k a k' e
end
theorem numOf_lt {s:Str} {v:Nat} (h:numOf s=some v):v<9223372036854775808:=by
 unfold numOf at h;split at h
 ·split at h
  ·cases h;assumption
  ·cases h
 ·cases h
theorem tokD_num2 {s:Str} {t:Tok} {n:Nat} (h:tokD s=some (t,n)) (hk:t.kind=2):t.num<9223372036854775808:=by
 cases s with
 | nil=>cases h
 | cons c r =>
  rw[tokD]at h;by_cases h1:ltr c=true
  ·rw[if_pos h1]at h;split at h
   ·cases h
   ·cases h
    revert hk
    show(if _ then (5:Int)else 1)=2→_;split<;>intro e<;>cases e
  ·rw[if_neg h1]at h;by_cases h2:dgt c=true
   ·rw[if_pos h2]at h;split at h
    ·cases h
    ·rename_i v hv;split at h
     ·cases h
     ·cases h;have:=numOf_lt hv;show((v:Nat):Int)<_;omega
   ·rw[if_neg h2]at h;by_cases h3:c.toNat=34
    ·rw[if_pos h3]at h;split at h
     ·cases h
     ·exact ka
    ·rw[if_neg h3]at h;exact ka
theorem cutF_nums : ∀(f:Nat) (r:Str) (at_ k:Nat) (l:List Tok),cutF f r at_ k = .ok l→∀ t∈l,t.kind=2→t.num<9223372036854775808
 | 0,r,at_,k,l,h=>by cases h
 | f+1,r,at_,k,l,h=>by
  rw[cutF]at h;split at h
  ·cases h;intro t ht;cases ht
  ·split at h
   ·cases h
   ·split at h
    ·cases h
    ·rename_i t0 n0 ht0;split at h
     ·cases h
     ·rename_i l0 hl0;cases h;intro t ht hk;rcases List.mem_cons.1 ht with rfl | ht
      ·exact tokD_num2 (t:=t0) ht0 hk
      ·exact cutF_nums f _ _ _ l0 hl0 t ht hk
theorem scan_nums {s:Str} (h:(scanD s).e=0):∀ t∈(scanD s).list,t.kind=2→t.num<9223372036854775808:=cutF_nums _ _ _ _ _ (scanD_ok h).2
theorem parse_nums {s:Str} {ds:List Tree} {k:Nat} (h:(scanD s).e=0) (hp:Ps.program (scanD s).list.length (tkF (scanD s).list) 0 = .ok ds k):numB2 (.mk 1 [] 0 ds)=true:=by
 have hf:FN (tkF (scanD s).list):=fun i t ht hk=>by
  unfold tkF at ht;split at ht
  ·rename_i t0 h0;cases ht;exact scan_nums h t0 (List.mem_of_getElem? h0) hk
  ·cases ht
 exact nu (.inl ov) (progL_n (decl_n (gn _).typ (gn _).block) _ _ hf 0 ds k hp)
end Go.Pt
namespace Go.Sep
open Go.Proofs
attribute [local irreducible] TC TO OT TCallX TCall DO DOt thenQ blockQ retQ At
def outD (x:Str):Str×Int:=if 65536<(trimD x [32]).length then ([],4)else (trimD x [32],0)
theorem text_w (m:Mem) (L:List Item) (bd:Nat) (q:Option Addr) (s:Sl) (x:Str) (hB:BOk m bd q s x) (hl:x.length≤140737488355328) :
  TCall Tryz.prog 37 ⟨[bdV bd]⟩ m (bdL bd q s L) (Ret (.tuple ⟨[strV (outD x).1,.int .i64 (outD x).2]⟩) m L):=by
 unfold TCall;refine ag Tryz.func37 14 ?_;refine au goes81 (string_law _ _ bd q s x hB) ?_;refine au goes80 (trim_law _ _ x [32] hl) ?_;refine ap (fun h1=>?_) (fun h1=>?_)
 ·refine uA ?_;refine kh ?_;unfold outD;rw[if_pos ou]
 ·refine uA ?_;refine kh ?_;unfold outD;rw[if_neg ou]
def textD (a:Tree):Str×Int:=if soundB a=true then outD (putT (Pt.toks a))else ([],2)
theorem putT_len {n:Nat} {l:List Ps.Tk} (h:Pt.AllV n l):(putT l).length≤4200*n:=by
 have h1:∀ t,Pt.TkV t→(putS (Pt.txt t)).length≤4200:=fun t ht=>by
  have h2:(Pt.txt t).length≤4100:=by
   rcases ht with ⟨a,b,_⟩ | ⟨a,b,c,d⟩ | ⟨a,b,_⟩ | ⟨a,b,_⟩ | ⟨a,b,_⟩
   ·obtain⟨_,_,_,_,_,h64,_⟩:=Pt.name_head b;exact hH
   ·unfold Pt.txt;rw[if_pos a];have:∀(f n:Nat),(Pt.digF f n).length≤f:=by
     intro f
     induction f with
     | zero=>intro n;simp[Pt.digF]
     | succ f ih =>
      intro n;unfold Pt.digF;split
      ·simp
      ·have:=ih (n / 10);simp;omega
    have:=this 20 t.num.toNat;unfold Pt.digN;omega
   ·unfold Pt.txt;rw[if_neg ou,if_pos a,quoteD_len];have:=quoteB_len t.text;omega
   ·have:∀ m∈markL,m.length≤2:=ov;have:=this _ b;exact hH
   ·have:∀ m∈wordL,m.length≤20:=ov;have:=this _ b;exact hH
  unfold putS;simp;omega
 have h3:∀ l:List Ps.Tk,(∀ t∈l,Pt.TkV t)→(putT l).length≤4200*l.length:=by
  intro l
  induction l with
  | nil=>intro _;simp[putT_nil]
  | cons t l ih =>
   intro hl;rw[putT_cons,ba];have:=ih fun x hx=>hl x pb;have:=h1 t (hl t ow);simp only[be];omega
 have:=h3 l h.v;have:=h.len;omega
theorem flat_le (ks:List Tree) (i:Nat):(putT ((ks.take i).map Pt.toks).flatten).length≤(putT (ks.map Pt.toks).flatten).length:=by
 conv=>rhs;rw[←cn i ks]
 rw[cr,List.flatten_append,dj,ba];omega
theorem Text_law (m:Mem) (L:List Item) (a:Tree) (h:HTree) (hT:Tb m) (hr:TreeRep m h a) (hB0:a.wide≤140737488355328) (hnum:Pt.numB2 a=true) :
  TCall Tryz.prog 18 ⟨[treeV h]⟩ m L (Made m L fun r _=>r = .tuple ⟨[strV (textD a).1,.int .i64 (textD a).2]⟩):=by
 have hr':=hr;unfold TCall;refine ag Tryz.func18 27 ?_;refine ay (fun b=>?_);refine au goes16 (sound_law a _ _ h hr' hB0) ?_;refine aQ (t:=!soundB a) (fun hs=>?_) (fun hs=>?_)
 ·refine uA ?_;refine kI ?_;rw[textD,if_neg (by simpa using hs)]
 ·have hs':soundB a=true:=by simpa using hs
  obtain⟨ds,rfl,g1,g2,g3⟩:=Pt.soundB_f hs';have hv:=Pt.v_prog hnum hs';have hlen0:(putT (ds.map Pt.toks).flatten).length≤140737488355328:=by
   have:=putT_len hv;have:=size_kids (.mk 1 [] 0 ds);simp only[Tree.kids]at this;omega
  have et:Pt.toks (.mk 1 [] 0 ds)=(ds.map Pt.toks).flatten:=oE;obtain⟨h1,h2,h3,h4⟩:=hr;have hlen:=h4.len;have hsm:=h4.small rfl;have hm:=cB m;have hTm:TbM Tb m:=⟨fun h=>tbOk.mono hT h⟩
  refine uA ?_;refine qs rfl (OT.boxT rfl rfl rfl rfl rfl (fun bd ma hma hty=>?_));refine TO.grow0 (size:=1) ?_;refine cL (bm _ _ _) ?_;have hB:BOk ma bd none ⟨none,0,0⟩ []:=⟨⟨_,hty,by kernel_rfl⟩,.inl rfl,cR _ _,cX,fun b o e=>oT,fun _=>rfl⟩
  replace hm:=cC hm hma;refine uA ?_;refine aq 2 ?_;refine cG (ι:=PS) [1,4,13,14] rfl (fun g=>[(15,.int .i64 (g.i:Int))]) (fun g=>g.m) (fun g=>bdL bd g.q g.s (.cells b 0 (treeC h)::L)) (fun g=>m≤g.m∧g.i≤ds.length∧BOk g.m bd g.q g.s (putT ((ds.take g.i).map Pt.toks).flatten)) (fun g=>ds.length-g.i) ⟨ma,none,⟨none,0,0⟩,0⟩ uH rfl uS ⟨hm,cm _,hB.cast (by simp[putT_nil])⟩ ?_;rintro⟨m1,q,s,i⟩ ⟨hm,hi,hB⟩;simp only at hm hi hB;simp only[Tree.kids]at hlen hsm;refine uA ?_;refine ap (fun h5=>?_) (fun h5=>?_)
  ·simp only at h5;have hlt:i<ds.length:=ou;have hxi:ds[i]? = some ds[i]:=bw hlt;have hc:=flat_next ds i hlt;have hle:=flat_le ds (i+1);rw[hc,dj,ba]at hle;have h4c:=h4.mono hm;refine lB ?_;rintro b7 i7 h7 hr7 hA7
   (first | refine qs rfl (OT.loadA tab hA7 rfl rfl rfl rfl rfl ?_) | refine oL tab hA7 ?_)
   refine aB tab (fun b5=>?_);refine uT ?_;refine aN pq3 ?_;refine ly ?_;refine oC goes36 ((decl_w tbOk itoa_law ds[i] (Pt.num_kid hnum (bN hlt)) (g3 _ (bN hlt)) _ _ bd q s _ h7 (hTm.mono hm) hB (rTree_iff.1 hr7) ou).x ?_);rintro _ m2 _ ⟨hm2,s,q,rfl,hB⟩;refine kW ?_;refine⟨⟨m2,q,s,i+1⟩,uH,uH,rfl,rfl,uS,⟨cC hm hm2,by simp only;omega,hB.cast ?_⟩,by simp only;omega⟩;rw[hc,dj]
  ·simp only at h5;rw[cl ou]at hB;refine uA ?_;refine au goes37 (text_w _ _ bd q s _ hB hlen0) ?_;refine nd ?_;rw[textD,if_pos hs',et]
end Go.Sep
namespace Go.Sep
open Go.Proofs
attribute [local irreducible] TC TO OT TCallX TCall DO DOt thenQ blockQ retQ At
theorem start_ok {P:Program} {vs:List Value} {m:Mem} {L:List Item} {w:World} {n N:Nat} (hN:N≤n) (hs:St m w L):Ok N (argEnv vs 0) [] m L { tmps:=⟨vs⟩++Array.replicate (n-(⟨vs⟩:Array Value).size) undef,defers:=[] } w:=by
 refine⟨?_,?_,rfl,hs⟩
 ·simp;omega
 ·exact eS
theorem rec_idle (a b c:Nat) (m:Mem) (L:List Item) (w:World) (hs:St m w L) :
  CallsD Tryz.prog 29 ⟨[.pointer (some ⟨a,0,none⟩),.pointer (some ⟨b,0,none⟩),.pointer (some ⟨c,0,none⟩)]⟩ .returning w fun e u' w'=>∃ v,e = .returned v∧u' = .returning∧St m w' L:=by
 refine callsD_of_wpS Tryz.func29 rfl fun c₀ cs hu=>?_;have h0:=start_ok (P:=Tryz.prog) (vs:=[.pointer (some ⟨a,0,none⟩),.pointer (some ⟨b,0,none⟩),.pointer (some ⟨c,0,none⟩)]) (n:=20) (N:=20) (bI _) hs;have hrp:recPair (c₀::cs)=(.nilIface,c₀::cs):=qv;have hc:({ c₀ with mode:=.returning }:Frame)=c₀:=by rw[←hu]
 apply wpS_seq;refine nM ?_;show Code.wpS _ _ _ _ _ _;rw[←hc];refine wpS_TC (R:=Ret (.tuple ⟨[]⟩) m L) ?_ ((h0.put (d:=6) rfl .nilIface).put (d:=3) rfl .nilIface) ?_
 ·exact jL
 ·exact gx
theorem rec_fault (a b c:Nat) (m:Mem) (L:List Item) (w:World) (x:Int) (va vb vc:List Value) (ha:va.length=4) (hb:vb.length=1) (hcl:vc.length=1) (hs:St m w (.cells a 0 va::.cells b 0 vb::.cells c 0 vc::L)) :
  CallsD Tryz.prog 29 ⟨[.pointer (some ⟨a,0,none⟩),.pointer (some ⟨b,0,none⟩),.pointer (some ⟨c,0,none⟩)]⟩ (.panicking [{ v:=.iface 60 (.agg ⟨[.int .i64 x]⟩),recovered:=false }]) w fun e u' w' =>
   ∃ v,e = .returned v∧u' = .panicking [{ v:=.iface 60 (.agg ⟨[.int .i64 x]⟩),recovered:=true }]∧St m w' (.cells a 0 [.int .i64 0,strV [],.int .i64 0,.slice none 0 0]::.cells b 0 [.int .i64 x]::.cells c 0 [.int .i64 3]::L):=by
 refine callsD_of_wpS Tryz.func29 rfl fun c₀ cs hu=>?_;have h0:=start_ok (P:=Tryz.prog) (vs:=[.pointer (some ⟨a,0,none⟩),.pointer (some ⟨b,0,none⟩),.pointer (some ⟨c,0,none⟩)]) (n:=20) (N:=20) (bI _) hs;have hrp:recPair (c₀::cs)=(.iface 60 (.agg ⟨[.int .i64 x]⟩),{ c₀ with mode:=.panicking [{ v:=.iface 60 (.agg ⟨[.int .i64 x]⟩),recovered:=true }] }::cs):=qv
 apply wpS_seq;refine nM ?_;show Code.wpS _ _ _ _ _ _;obtain⟨v0,v1,v2,v3,rfl⟩:∃ v0 v1 v2 v3,va=[v0,v1,v2,v3]:=by
  match va,ha with
  | [v0,v1,v2,v3],_=>exact⟨_,_,_,_,rfl⟩
 obtain⟨vb,rfl⟩:=List.length_eq_one_iff.1 hb;obtain⟨vc,rfl⟩:=List.length_eq_one_iff.1 hcl;refine wpS_TC (R:=fun r m' L'=>r = .tuple ⟨[]⟩∧m'=m∧L' = .cells a 0 [.int .i64 0,strV [],.int .i64 0,.slice none 0 0]::.cells b 0 [.int .i64 x]::.cells c 0 [.int .i64 3]::L) ?_ ((h0.put (d:=6) rfl _).put (d:=3) rfl _) ?_
 ·refine uA ?_;refine mK ?_;refine qs rfl (OT.assertOk tab rfl rfl rfl rfl rfl ?_);refine uA ?_;refine aB tab (fun b4=>?_);refine kc ?_;refine aO [] dc 6 [] (.cells b4 0 [.int .i64 x]::.cells a 0 [v0,v1,v2,v3]::.cells b 0 [vb]::.cells c 0 [vc]::L) (bj _) ?_;refine cT tab uC uK [0,1] uK rfl ?_;refine a8 2 [3] ⟨⟨_,rfl,rfl,rfl,?_⟩,⟨_,rfl,rfl,rfl,?_⟩,trivial⟩
  ·refine OT.loadL0 tab 0 rfl rfl rfl rfl rfl rfl ?_;refine ko ?_;refine af 3 ?_;refine aE 1 ?_;exact fx
  ·refine aE 1 ?_;refine ko ?_;refine af 2 ?_;refine OT.loadL0 tab 0 rfl rfl rfl rfl rfl rfl ?_;exact fx
 ·exact gx
end Go.Sep
namespace Go.Sep
open Go.Proofs
attribute [local irreducible] TC TO OT TCallX TCall DO DOt thenQ blockQ retQ At
def ParseE (a:PA) (m:Mem) (L:List Item):Ending→World→Prop
 | .returned v,w'=>∃ m' L',St m' w' L'∧Made m L (ParseR a) v m' L'
 | .panicked _,_=>False
 | .outgrown,_=>False
theorem parseE_end {P:Program} {fn:Func} {a:PA} {m m':Mem} {L:List Item} {ρ:Env} {tmps:Array Value} {w:World} {b2 b3 b4:Nat} {x:HTree} {L':List Item} (T:Tab P) {t2 t3 t4:TypeId}
  (hres:fn.results=⟨[.cell 2 t2,.cell 3 t3,.cell 4 t4]⟩) (hA:∀ i v,look ρ i=some v→tmps[i]? = some v) (h2:look ρ 2=some (.pointer (some ⟨b2,0,none⟩))) (h3:look ρ 3=some (.pointer (some ⟨b3,0,none⟩))) (h4:look ρ 4=some (.pointer (some ⟨b4,0,none⟩)))
  (l2:T.load t2 (treeC x) 0=some (treeV x)) (l3:T.load t3 [.int .i64 a.at_] 0=some (.int .i64 a.at_)) (l4:T.load t4 [.int .i64 a.e] 0=some (.int .i64 a.e))
  (hst:St m' w (.cells b2 0 (treeC x)::.cells b3 0 [.int .i64 a.at_]::.cells b4 0 [.int .i64 a.e]::L')) (hsub:L.Sublist L') (hm:m≤m') (hr:TreeRep m' x a.tree):Leaves P fn tmps (ParseE a m L) [] .returning w:=by
 refine⟨.tuple ⟨[treeV x,.int .i64 a.at_,.int .i64 a.e]⟩,?_,m',L,hst.sub ?_,hm,rfl,x,rfl,hr⟩
 ·have g2:=run_loadVar (P:=P) T (k:=0) (hst.cells (i:=0) rfl) l2;have g3:=run_loadVar (P:=P) T (k:=0) (hst.cells (i:=1) rfl) l3;have g4:=run_loadVar (P:=P) T (k:=0) (hst.cells (i:=2) rfl) l4;have e2:=hA 2 _ h2;have e3:=hA 3 _ h3;have e4:=hA 4 _ h4;unfold results;rw[hres,Array.mapM_eq_mapM_toList];simp[Sem.run_bind,Sem.run_map,e2,e3,e4,asAddr,g2,g3,g4]
 ·exact bZ _ (bZ _ (bZ _ hsub))
theorem parse_law (hout:∀ l:List Tok,Ps.program l.length (tkF l) 0≠.out) (m:Mem) (L:List Item) (s:Str) (hE:Errs m):TCall Tryz.prog 14 ⟨[strV s]⟩ m L (Made m L (ParseR (parseD s))):=by
 have key:∀ w,St m w L→Calls Tryz.prog 14 ⟨[strV s]⟩ w (ParseE (parseD s) m L):=by
  intro w hst;have hll:=scanD_len s;refine calls_enterD Tryz.func14 rfl 31 rfl hst ?_;refine uA ?_;refine oA tab (fun b2=>?_);refine oA tab (fun b3=>?_);refine aB tab (fun b4=>?_);refine oC goes28 ((scan_law _ _ s hE).x ?_);rintro _ m1 _ ⟨hm1,rfl,sl,rfl,hsl⟩;refine uA ?_;refine av 1 ?_;refine av 0 ?_;refine ly ?_;refine a7 (fun he=>?_) (fun he=>?_)
  ·have hD:parseD s=⟨emptyT,((scanD s).at_:Int),(scanD s).e⟩:=by rw[parseD,if_neg he]
   refine TC.quiet ?_;refine aO [5] dc 6 [.cells b4 0 [.int .i64 (scanD s).e]] (.cells b3 0 [.int .i64 ((scanD s).at_:Int)]::.cells b2 0 [.int .i64 0,strV [],.int .i64 0,.slice none 0 0]::L) (bj _) ?_;refine lT ?_;refine ae (k:=0) 2 0 ?_;refine a8 1 [3] ⟨⟨_,rfl,rfl,rfl,?_⟩,⟨_,rfl,rfl,rfl,?_⟩,trivial⟩
   ·refine OT.loadL0 tab 1 rfl rfl rfl rfl rfl rfl ?_;refine ko ?_;refine af 3 ?_;refine aE 2 ?_;exact fk
   ·refine aE 2 ?_;refine ko ?_;refine af 1 ?_;refine OT.loadL0 tab 1 rfl rfl rfl rfl rfl rfl ?_;exact fk
  ·have hD:parseD s=parseL s (scanD s).list:=by rw[parseD,if_pos he]
   rw[hD];generalize (scanD s).list=l at hsl hll;refine uA ?_;refine oB (fun bp=>?_);refine uA ?_;refine TO.defer rfl rfl rfl rfl rfl ?_;refine uA ?_;have hEk:(⟨s,sl,l,bp,l.length+1⟩:PE).Ok m1:=⟨hsl,hll,by show l.length+1≤_;omega,by show 1≤l.length+1;omega⟩
   have hG:=gw (mb:=m1) (E:=⟨s,sl,l,bp,l.length+1⟩) (3*l.length+4);have hP:=program_par (decl_par (hG.typ 0) (hG.block 0)) m1 (.cells b4 0 [.int .i64 (scanD s).e]::.cells b3 0 [.int .i64 ((scanD s).at_:Int)]::.cells b2 0 [.int .i64 0,strV [],.int .i64 0,.slice none 0 0]::L) 0 (cB _) hEk (cm _);have hpe:Ps.program l.length (tkF l) 0=Ps.progL (Ps.declP (l.length+1) (Ps.gr (l.length+1) (3*l.length+4)).typ (Ps.gr (l.length+1) (3*l.length+4)).block) (l.length+1) (PE.f ⟨s,sl,l,bp,l.length+1⟩) 0:=rfl;have hn:=hout l;rw[hpe]at hn;refine oC goes30 (cD (hP ?_) ?_ ?_)
   ·intro hb;unfold Ps.bind at hb;split at hb
    ·cases hb
    ·cases hb
    ·rename_i he';exact hn he'
   ·rintro v m2 L2 ⟨a,k',xs,h1,hm2,hk',⟨x,rfl,rfl,hrx⟩,rfl⟩;obtain⟨ds,hds,rfl⟩:∃ ds,Ps.program l.length (tkF l) 0 = .ok ds k'∧a = .mk 1 [] 0 ds:=by
     rw[hpe];unfold Ps.bind at h1;split at h1
     ·rename_i ds k'' he';injection h1 with h1 h2
      subst h2;exact⟨ds,he',h1.symm⟩
     ·cases h1
     ·cases h1
    replace hm1:=cC hm1 hm2;refine uA ?_;refine av 3 ?_;refine aB tab (fun bl=>?_);refine kc ?_;refine qs rfl (OT.loadL0 tab 4 rfl rfl rfl rfl rfl rfl ?_);refine uA ?_;refine oC goes31 ((fits_law (.mk 1 [] 0 ds) m2 _ x bl 1 20000 hrx ov ov ov ov).x ?_);rintro _ _ _ ⟨rfl,⟨rfl,k1,k2,rfl⟩ | ⟨rfl,k1,n,rfl⟩⟩
    ·have hA2:parseL s l=⟨.mk 1 [] 0 ds,0,0⟩:=by
      rw[parseL,hds];exact if_pos ⟨by omega,by omega⟩
     refine uA ?_;refine qs rfl (OT.loadL0 tab 4 rfl rfl rfl rfl rfl rfl ?_);refine lF ?_;intro tmps w' hA hst';refine nw ?_;refine(rec_idle b2 b3 b4 _ _ w' hst').mono ?_;rintro e u' w2 ⟨v,rfl,rfl,hst2⟩;exact parseE_end (x:=x) tab rfl hA rfl rfl rfl rfl rfl rfl (hst2.perm (bo pfr4 (br _ (bo pfr3 (br _ pfr2))))) (bZ _ (bZ _ (ce _))) hm1 hrx
    ·have hA2:parseL s l=⟨emptyT,0,4⟩:=by
      rw[parseL,hds];exact if_neg fun h=>k1 ⟨by omega,by omega⟩
     refine lF ?_;refine thenQ_r ?_;intro tmps w' hA hst';refine nw ?_;refine(rec_idle b2 b3 b4 _ _ w' hst').mono ?_;rintro e u' w2 ⟨v,rfl,rfl,hst2⟩;exact parseE_end (x:=⟨0,[],0,⟨none,0,0⟩⟩) tab rfl hA rfl rfl rfl rfl rfl rfl (hst2.perm (bo pfr4 (br _ (bo pfr3 (br _ pfr2))))) (bZ _ (bZ _ (ce _))) hm1 (emptyT_rep _)
   ·rintro ch m2 L2 ⟨k',h',h1,hm2,hk',rfl,rfl⟩;have hA2:parseL s l=⟨emptyT,placeD s l k',3⟩:=by
     have:Ps.program l.length (tkF l) 0 = .bad k':=by
      rw[hpe];unfold Ps.bind at h1;split at h1
      ·cases h1
      ·rename_i he';injection h1 with h1
       rw[←h1];exact he'
      ·cases h1
     rw[parseL,this]
    replace hm1:=cC hm1 hm2
    repeat (first | refine thenQ_p ?_ | refine blockQ_p ?_)
    intro tmps w' hA hst';refine nw ?_;refine(rec_fault b2 b3 b4 m2 _ w' (placeD s l k') _ _ _ rfl rfl rfl (hst'.perm (bo pfr3 (br _ (bo pfr2 (br _ pfr1)))))).mono ?_;rintro e u' w2 ⟨v,rfl,rfl,hst2⟩;exact parseE_end (x:=⟨0,[],0,⟨none,0,0⟩⟩) tab rfl hA rfl rfl rfl rfl rfl rfl hst2 (bZ _ (ce _)) hm1 (emptyT_rep _)
 exact gD
end Go.Sep
namespace Go.Ps
open Go.Sep (Tree Str)
variable {α β:Type}
section
variable {N:Nat}
end
structure GGood (g:Gr):Prop where
 typ:Good g.typ
 typ2:Takes begins g.typ
 block:Good g.block
 block2:Stops g.block
 stmt:Good g.stmt
 branch:Good g.branch
 expr:∀ b,Good (g.expr b)
 expr2:∀ b,Stops (g.expr b)
 unary:∀ b,Good (g.unary b)
 unary2:∀ b,Stops (g.unary b)
end Go.Ps
namespace Go.Sep
theorem placeD_range {s:Str} (h:(scanD s).e=0) (k:Nat):0≤placeD s (scanD s).list k∧placeD s (scanD s).list k≤s.length:=by
 unfold placeD;cases hx:(scanD s).list[k]? with
 | none=>exact⟨by simp only;omega,by simp only;omega⟩
 | some t =>
  have hm:=List.mem_of_getElem? hx;rcases scanD_cases s with ⟨_,e⟩ | ⟨_,l,e,_,_,h2,_⟩ | ⟨_,a,e',e,_⟩
  ·rw[e]at hm;cases hm
  ·rw[e]at hm;have:=h2 t hm;simp only;omega
  ·rw[e]at hm;cases hm
theorem parseD_cases (s:Str) :
  (∃ ds k,(scanD s).e=0∧Ps.program (scanD s).list.length (tkF (scanD s).list) 0 = .ok ds k∧(Tree.mk 1 [] 0 ds).size≤20000∧(Tree.mk 1 [] 0 ds).deep≤100∧parseD s=⟨.mk 1 [] 0 ds,0,0⟩) ∨
  (∃ a e,(e=4∨e=13)∧0≤a∧a≤(s.length:Int)∧parseD s=⟨emptyT,a,e⟩) ∨
  (∃ a,(scanD s).e≠0∧0≤a∧a≤(s.length:Int)∧parseD s=⟨emptyT,a,3⟩) ∨
  (∃ k,(scanD s).e=0∧Ps.program (scanD s).list.length (tkF (scanD s).list) 0 = .bad k∧parseD s=⟨emptyT,placeD s (scanD s).list k,3⟩):=by
 by_cases he:(scanD s).e=0
 ·rw[show parseD s=parseL s (scanD s).list by rw[parseD,if_pos he]];have hn:=program_ne (scanD s).list;rw[parseL];cases hp:Ps.program (scanD s).list.length (tkF (scanD s).list) 0 with
  | ok ds k =>
   simp only;by_cases hc:(Tree.mk 1 [] 0 ds).size≤20000∧(Tree.mk 1 [] 0 ds).deep≤100
   ·rw[if_pos hc];exact .inl ⟨ds,k,he,rfl,hc.1,hc.2,rfl⟩
   ·rw[if_neg hc];exact .inr (.inl ⟨0,4,.inl rfl,by omega,by omega,rfl⟩)
  | bad k=>exact .inr (.inr (.inr ⟨k,he,rfl,rfl⟩))
  | out=>exact absurd hp hn
 ·rw[show parseD s=⟨emptyT,((scanD s).at_:Int),(scanD s).e⟩ by rw[parseD,if_neg he]];rcases scanD_cases s with ⟨_,e⟩ | ⟨_,l,e,_⟩ | ⟨_,a,e',e,h1,h2⟩
  ·rw[e];exact .inr (.inl ⟨0,13,.inr rfl,by omega,by omega,rfl⟩)
  ·rw[e]at he;exact absurd rfl he
  ·rw[e];rcases h2 with rfl | ⟨rfl,_⟩
   ·exact .inr (.inl ⟨a,4,.inl rfl,by omega,by omega,rfl⟩)
   ·exact .inr (.inr (.inl ⟨a,by show(3:Int)≠0;decide,by omega,by omega,rfl⟩))
end Go.Sep
namespace Go.Sep
open Go.Proofs
attribute [local irreducible] TC TO OT TCallX TCall DO DOt thenQ blockQ retQ At
theorem block_last {a:Tree} (h:lim.block a=true):∃ l,Pt.toks a=l++[Pt.mk [125]]:=by
 obtain⟨k,n,u,ks⟩:=a;obtain rfl:k=20:=(Pt.block_f h).1;exact⟨Pt.mk [123]::(ks.map Pt.toks).flatten,by rw[Pt.toks_eq];rfl⟩
theorem decl_last {a:Tree} (h:declS lim a=true):∃ l,Pt.toks a=l++[Pt.mk [125]]:=by
 obtain⟨k,n0,u,ks⟩:=a;by_cases e:k=2
 ·subst e;exact⟨Ps.Tk.mk 5 [116,121,112,101] 0::Pt.nm n0::Pt.wd [115,116,114,117,99,116]::Pt.mk [123]::Pt.semis (ks.map Pt.toks),by rw[Pt.toks_eq];rfl⟩
 by_cases e:k=3
 ·subst e;exact⟨Pt.wd [116,121,112,101]::Pt.nm n0::Pt.wd [105,110,116,101,114,102,97,99,101]::Pt.mk [123]::Pt.semis (ks.map Pt.toks),by rw[Pt.toks_eq];rfl⟩
 by_cases e:k=4
 ·subst e;have hf:(ofB (.mk 4 n0 u ks) 4&&kidsR [Tree.isSig,lim.block] none ks)=true:=h;rw[bu]at hf;obtain⟨s,b,rfl,hs,hb⟩:=Pt.kids2 hf.2;obtain⟨l,hl⟩:=block_last hb;exact⟨Pt.wd [102,117,110,99]::Pt.nm n0::(Pt.toks s++l),by rw[Pt.toks_eq];show Pt.wd _::Pt.nm n0::(Pt.toks s++Pt.toks b)=_;rw[hl];simp⟩
 by_cases e:k=5
 ·subst e;have hf:(ofB (.mk 5 n0 u ks) 5&&kidsR [recvS,Tree.isSig,lim.block] none ks)=true:=h;rw[bu]at hf;obtain⟨r,s,b,rfl,hr,hs,hb⟩:=Pt.kids3 hf.2;obtain⟨l,hl⟩:=block_last hb;exact⟨Pt.wd [102,117,110,99]::Pt.mk [40]::(Pt.toks r++Pt.mk [41]::Pt.nm n0::(Pt.toks s++l)),by rw[Pt.toks_eq];show Pt.wd _::Pt.mk _::(Pt.toks r++Pt.mk _::Pt.nm n0::(Pt.toks s++Pt.toks b))=_;rw[hl];simp⟩
 exact jD
theorem flat_last : ∀ {ds:List Tree},ds≠[]→(∀ d∈ds,declS lim d=true)→∃ l,(ds.map Pt.toks).flatten=l++[Pt.mk [125]]
 | [d],_,h=>by
  obtain⟨l,hl⟩:=decl_last (h d ow);exact⟨l,by simp[hl]⟩
 | d::e::ds,_,h=>by
  obtain⟨l,hl⟩:=flat_last (ds:=e::ds) ow (fun x hx=>h x (by simp at hx ⊢;exact .inr hx));exact⟨Pt.toks d++l,by rw[bK,List.flatten_cons,hl];simp⟩
theorem trim_prog {ds:List Tree} (h:∀ d∈ds,declS lim d=true):trimD (putT (ds.map Pt.toks).flatten) [32]=putT (ds.map Pt.toks).flatten:=by
 by_cases h0:ds=[]
 ·subst h0;rfl
 ·obtain⟨l,hl⟩:=flat_last h0 h;rw[hl,dj];unfold trimD;rw[if_neg];have e:putT [Pt.mk [125]]=[125]++[10]:=rfl;rw[e];unfold suffixB;rw[bu,bE,bE];rintro⟨h1,h2⟩;have e3:(putT l++([125]++[10])).length-([32]:Str).length=(putT l).length+1:=ow;rw[e3,show putT l++([125]++[10])=(putT l++[125])++[10] by simp,List.drop_left' ow]at h2;cases h2
def pcs (l:List Ps.Tk):List (Ps.Tk×Str):=l.map fun t=>(t,[lastB (Pt.txt t)])
theorem pcs_fst (l:List Ps.Tk):(pcs l).map Prod.fst=l:=by unfold pcs;rw[List.map_map];exact List.map_id' l
theorem pcs_lay : ∀ l:List Ps.Tk,Pt.lay (pcs l)=putT l
 | []=>rfl
 | t::l=>by
  show Pt.txt t++([lastB (Pt.txt t)]++Pt.lay (pcs l))=_;rw[pcs_lay l,putT_cons,putS,bz]
theorem last_two (t:Str):lastB t=10∨lastB t=32:=by unfold lastB;split;exact .inl rfl;exact .inr rfl
theorem pcs_ok : ∀ {l:List Ps.Tk},(∀ t∈l,Pt.TkV t)→Pt.OkL (pcs l)
 | [],_=>trivial
 | t::l,h=>by
  refine⟨?_,?_,pcs_ok fun x hx=>h x pb⟩
  ·show Pt.Nx t ([lastB (Pt.txt t)]++Pt.lay (pcs l));refine Pt.Nx.of (h t ow) ?_ _;exact jO
  ·exact jO
theorem text_back {ds:List Tree} (hnum:Pt.numB2 (.mk 1 [] 0 ds)=true) (hs:soundB (.mk 1 [] 0 ds)=true) :
  textD (.mk 1 [] 0 ds)=([],4)∨∃ t,textD (.mk 1 [] 0 ds)=(t,0)∧(parseD t=⟨.mk 1 [] 0 ds,0,0⟩∨∃ a:Nat,0<a∧parseD t=⟨emptyT,a,4⟩):=by
 obtain⟨ds',e,g1,g2,g3⟩:=Pt.soundB_f hs;injection e with _ _ _ e
 subst e;have et:Pt.toks (.mk 1 [] 0 ds)=(ds.map Pt.toks).flatten:=oE;unfold textD outD;rw[if_pos hs,et,trim_prog g3];by_cases hl:65536<(putT (ds.map Pt.toks).flatten).length
 ·rw[if_pos hl];exact .inl rfl
 ·rw[if_neg hl];refine .inr ⟨_,rfl,?_⟩;have:=Pt.parse_lay (ps:=pcs (ds.map Pt.toks).flatten) hs (pcs_fst _) (pcs_ok (Pt.v_prog hnum hs).v) (by rw[pcs_lay];omega)
  rwa [pcs_lay]at this
end Go.Sep
namespace Go.Sep
mutual
def teq : Tree→Tree→Bool
 | .mk k n u ks,.mk k' n' u' ks'=>decide (k=k')&&(decide (n=n')&&(decide (u=u')&&teqL ks ks'))
def teqL : List Tree→List Tree→Bool
 | [],[]=>true
 | t::ts,s::ss=>teq t s&&teqL ts ss
 | [],_::_=>false
 | _::_,[]=>false
end
mutual
theorem teq_iff : ∀ a b:Tree,teq a b=true↔a=b
 | .mk k n u ks,.mk k' n' u' ks'=>by
  have:=teqL_iff ks ks';simp only[teq,bu,bE,this,Tree.mk.injEq]
theorem teqL_iff : ∀ l r:List Tree,teqL l r=true↔l=r
 | [],[]=>by simp[teqL]
 | t::ts,s::ss=>by
  have h1:=teq_iff t s;have h2:=teqL_iff ts ss;simp only[teqL,bu,h1,h2,List.cons.injEq]
 | [],_::_=>by simp[teqL]
 | _::_,[]=>by simp[teqL]
end
theorem teq_refl (a:Tree):teq a a=true:=(teq_iff a a).2 rfl
theorem teq_eq (a b:Tree):teq a b=(decide (a.kind=b.kind)&&(decide (a.name=b.name)&&(decide (a.num=b.num)&&teqL a.kids b.kids))):=by
 obtain⟨_,_,_,_⟩:=a;obtain⟨_,_,_,_⟩:=b;rfl
theorem teqL_len {l r:List Tree} (h:l.length≠r.length):teqL l r=false:=by
 cases hc:teqL l r with
 | false=>rfl
 | true=>exact absurd (congrArg List.length ((teqL_iff l r).1 hc)) h
theorem teqL_step (l r:List Tree) (k:Nat) (h1:k<l.length) (h2:k<r.length):teqL (l.drop k) (r.drop k)=(teq l[k] r[k]&&teqL (l.drop (k+1)) (r.drop (k+1))):=by
 rw[bV h1,bV h2,teqL]
end Go.Sep
