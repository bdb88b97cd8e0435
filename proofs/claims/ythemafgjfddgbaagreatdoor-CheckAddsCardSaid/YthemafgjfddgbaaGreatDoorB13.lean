/-
  Part 13 of the proof: library, walks and plain laws.
-/
import Derived.KernelRfl
import Derived.Test.YthemafgjfddgbaaGreatDoorB12
set_option linter.unusedVariables false
set_option linter.unusedSimpArgs false
set_option maxHeartbeats 6400000
namespace Go.Sep
open Go.Proofs Go.Ck
attribute [local irreducible] TC TO OT TCallX TCall DO DOt thenQ blockQ retQ At
theorem soundE_nodup {l : List Decl} (h : soundE l=0) : (l.map Decl.name).Nodup:=by
 unfold soundE at h;split at h
 ·omega
 split at h
 ·omega
 split at h
 ·omega
 ·rename_i h3;unfold typeB at h3;simp only [bD,not_or,Bool.not_eq_true,Bool.not_eq_false',bu,Bool.not_eq_eq_eq_not,Bool.not_false,Bool.not_true,decide_eq_false_iff_not,Decidable.not_not] at h3;exact h3.1
theorem bhA {α : Type} {c o p b3 b2 b1 : α} {L : List α} : (c :: o :: p :: b3 :: b2 :: b1 :: L).Perm (p :: c :: o :: b3 :: b2 :: b1 :: L):=lQ
theorem bhB {α : Type} {p2 p3 c o b3 b2 b1 : α} {L : List α} : (p2 :: p3 :: c :: o :: b3 :: b2 :: b1 :: L).Perm (c :: p2 :: p3 :: o :: b3 :: b2 :: b1 :: L):=lQ
theorem bhC {α : Type} {p2 p3 c o b3 b2 b1 : α} {L : List α} : (c :: p2 :: p3 :: o :: b3 :: b2 :: b1 :: L).Perm (b1 :: o :: p2 :: b2 :: b3 :: c :: p3 :: L):=lQ
@[reducible] def hdR (h : HTree) (b1 b2 b3 bc bp : Nat) (L : List Item) : List Item := .cells b1 0 (treeC h) :: .cells b2 0 [ptr bp] :: .cells b3 0 [.int .i64 0] :: .cells bc 3 [.pointer none, .int .i64 0] :: .cells bp 3 [.pointer none] :: L
theorem bhD {α : Type} {a o p tf tb b1 b2 : α} {F R : List α} : (a :: tb :: tf :: o :: p :: (F++(b1 :: b2 :: R))).Perm ([a,b2,p]++(o :: tf :: tb :: (F++(b1 :: R)))):=lQ
theorem bhF {α : Type} {b8 b2 p2 bf o tf tb b1 : α} {F R : List α} : ([b8,b2,p2]++(bf :: o :: tf :: tb :: (F++(b1 :: R)))).Perm (bf :: b8 :: o :: p2 :: tf :: tb :: (F++(b1 :: b2 :: R))):=lQ
theorem bhH {α : Type} {b8 o p tf tb b1 b2 : α} {F R : List α} : (b8 :: o :: p :: tf :: tb :: (F++(b1 :: b2 :: R))).Perm ([b8,b2,p]++(o :: tf :: tb :: (F++(b1 :: R)))):=lQ
theorem bhI {α : Type} {b10 bf b8 o : α} {X : List α} : (b10 :: bf :: b8 :: o :: X).Perm ([bf]++(o :: b10 :: b8 :: X)):=lQ
theorem bhJ {α : Type} {t b2 b7 b9 o b10 b8 : α} {X : List α} : (t :: b2 :: b7 :: b9 :: o :: b10 :: b8 :: X).Perm (b9 :: b2 :: t :: b7 :: o :: b10 :: b8 :: X):=lQ
theorem bhK {α : Type} {k o b10 b8 p2 tf tb b1 b2 : α} {T V F R : List α} (h : T.Perm (V++(k :: o :: b10 :: b8 :: p2 :: tf :: tb :: (F++(b1 :: b2 :: R))))) : T.Perm ([b2,p2]++(tf :: o :: tb :: b8 :: b10 :: (F++(k :: (V++(b1 :: R)))))):=mj
theorem bhL {α : Type} {k o b10 b8 p2 tf tb b1 b2 : α} {V F R : List α} : ([b2,p2]++(tf :: o :: tb :: b8 :: b10 :: (F++(k :: (V++(b1 :: R)))))).Perm (b10 :: o :: p2 :: tf :: tb :: b8 :: (F++(k :: (V++(b1 :: b2 :: R))))):=lQ
theorem bhM {α : Type} {b1 o p2 b2 b3 c p3 t1 t4 : α} {L : List α} : (t1 :: t4 :: b1 :: o :: p2 :: b2 :: b3 :: c :: p3 :: L).Perm (o :: p2 :: t1 :: t4 :: ([]++(b1 :: b2 :: b3 :: c :: p3 :: L))):=lQ
theorem bhN {α : Type} {bf o b10 b8 p2 tf tb b1 b2 b3 c3 p3 : α} {F L : List α} : ([bf]++(o :: b10 :: b8 :: p2 :: tf :: tb :: (F++(b1 :: b2 :: b3 :: c3 :: p3 :: L)))).Perm (([bf,o,b10,b8,p2,tf,tb]++F++[b1,c3,p3])++(b2 :: b3 :: L)):=lQ
theorem bhO {α : Type} {bf o b10 b8 p2 tf tb b1 b2 b3 c3 p3 : α} {F L : List α} : (bf :: o :: b10 :: b8 :: p2 :: tf :: tb :: (F++(b1 :: b2 :: b3 :: c3 :: p3 :: L))).Perm (([bf,o,b10,b8,p2,tf,tb]++F++[b1,c3,p3])++(b2 :: b3 :: L)):=lQ
theorem bhP {α : Type} {a b c : α} {X : List α} : (a :: b :: c :: X).Perm ([c,b]++(a :: X)):=lQ
theorem bhQ {α : Type} {b8 bf bv b10 : α} {X : List α} : ([b8,bf]++(bv :: b10 :: X)).Perm (bv :: bf :: b8 :: b10 :: X):=lQ
theorem bhR {α : Type} {b2 b7 b9 rm b8 b10 o : α} {X : List α} : (b2 :: b7 :: b9 :: rm :: b8 :: b10 :: o :: X).Perm (b9 :: b2 :: b7 :: rm :: o :: b10 :: b8 :: X):=lQ
theorem bhS {V X : List Item} {rm b7 : Item} : (V++(b7 :: rm :: X)).Perm ((rm :: V)++(b7 :: X)):=lQ
theorem bhT {α : Type} {bf rm o b10 b8 p2 tf tb b1 b2 b3 c3 p3 : α} {F L : List α} : (bf :: rm :: o :: b10 :: b8 :: p2 :: tf :: tb :: (F++(b1 :: b2 :: b3 :: c3 :: p3 :: L))).Perm (([bf,rm,o,b10,b8,p2,tf,tb]++F++[b1,c3,p3])++(b2 :: b3 :: L)):=lQ
theorem bhU {α : Type} {p2 tf tb b1 b2 b3 c3 p3 : α} {F L : List α} : (p2 :: tf :: tb :: (F++(b1 :: b2 :: b3 :: c3 :: p3 :: L))).Perm (tb :: b1 :: b2 :: p2 :: tf :: c3 :: (F++(b3 :: p3 :: L))):=lQ
theorem bhV {α : Type} {p2 tf b2 b3 c3 p3 : α} {F L : List α} : (b2 :: p2 :: tf :: c3 :: (F++(b3 :: p3 :: L))).Perm (c3 :: p2 :: tf :: ([]++([]++(F++(b2 :: b3 :: p3 :: L))))):=lQ
theorem bhW {α : Type} {b2 b3 p3 : α} {F L : List α} : (F++(b2 :: b3 :: p3 :: L)).Perm ((F++[p3])++(b2 :: b3 :: L)):=lQ
theorem bhX {α : Type} {b2 b3 p3 : α} {T M L : List α} (h : T.Perm (M++(b2 :: b3 :: p3 :: L))) : T.Perm (b2 :: b3 :: p3 :: (M++L)):=mj
theorem bhY {α : Type} {b2 b3 p3 : α} {M L : List α} : (b2 :: b3 :: p3 :: (M++L)).Perm ((p3 :: M)++(b2 :: b3 :: L)):=lQ
theorem Build_law (p : Tree) (hw : p.wide ≤ 140737488355328) (m : Mem) (L : List Item) (h : HTree) (hr : TreeRep m h p) :
  TCall Tryz.prog 32 ⟨[treeV h]⟩ m L (Made m L fun r _ => ∃ pv,r = .tuple ⟨[pv, .int .i64 (chkT p)]⟩):=by
 generalize hc : chkT p=c;have key : ∀ w,St m w L→Calls Tryz.prog 32 ⟨[treeV h]⟩ w (BuildE c m L):=by
  intro w hst;refine calls_enterD Tryz.func32 rfl 198 rfl hst ?_;refine uA ?_;refine oB (fun b1 => ?_);refine uA ?_;refine oA tab (fun b2 => ?_);refine oA tab (fun b3 => ?_);refine uL ?_;refine oC goes8 ((Table_law p hw _ _ h hr).x ?_);rintro r m1 _ ⟨hm1,rfl,hT⟩;cases htab : tabD p with
  | error c' =>
   rw [htab] at hT;obtain rfl : r=_:=hT;have hcc:=chkT_err htab;have hc0:=tabD_err htab;obtain rfl : c=c':=by rw [← hc,hcc]
   refine uA ?_;refine aj (k:=0) 0 ?_;refine am (k:=0) 0 ?_;refine aY (fun e1 => ?_) (fun e1 => ?_)
   ·refine uA ?_;refine TC.drawK (d2:=2) (d3:=3) cZ rfl rfl uK [] 3 rfl [] _ (a9 _) ?_;refine DO.fork 0 [1] uK ⟨⟨_,rfl,rfl,rfl, ?_⟩,⟨_,rfl,rfl,rfl, ?_⟩,trivial⟩
    ·refine OT.loadL (k:=0) tab 0 rfl rfl rfl rfl rfl rfl ?_;refine i9 ?_;refine af 1 ?_;refine ap (k:=0) 1 ?_;exact eR
    ·refine ap (k:=0) 1 ?_;refine i9 ?_;refine af 0 ?_;refine OT.loadL (k:=0) tab 0 rfl rfl rfl rfl rfl rfl ?_;exact eR
   ·exact absurd e1 hc0
  | ok l =>
   rw [htab] at hT;obtain ⟨s,rfl,hS⟩:=hT;obtain ⟨hsd,htb,hcZ⟩:=chkT_ok htab;rw [hc] at hcZ;have hp:=snd_of hsd;obtain ⟨hgood,hs0⟩:=table_good hp hw htb;generalize hZ : buildO l p=Z at hcZ;replace hZ:=hZ.symm;refine uA ?_;refine aj (k:=0) 0 ?_;refine am (k:=0) 0 ?_;refine oC goes58 ((newTable_law _ _ s l hS).x ?_);rintro _ m2 _ ⟨hm2,rfl,bt,es0,cc0,rfl,hbt,hTA⟩;refine uA ?_;refine oB (fun bp => ?_);refine uA ?_;refine aj (k:=0) 2 ?_;refine aQ (k:=0) 2 ?_;refine qs rfl (OT.makeMap kStr rfl rfl rfl (fun fm => ?_));refine uA ?_;refine oB (fun bc => ?_);refine uA ?_;refine TO.defer rfl rfl rfl rfl rfl ?_;refine cI bhA ?_;refine TO.splitC (b:=bp) (off:=0) [.map (some bt)] [s.v, .slice none 0 0, .pointer none] ?_;refine cS fun m3 hm3 hAp => ?_;refine TO.splitC (b:=bp) (off:=1) [s.v] [.slice none 0 0, .pointer none] ?_;refine TO.drop (List.sublist_cons_self _ _) ?_;refine TO.splitC (b:=bp) (off:=2) [.slice none 0 0] [.pointer none] ?_;refine cI bhB ?_;refine TO.splitC (b:=bc) (off:=0) [ptr bp, .map (some fm)] [.pointer none, .pointer none, .int .i64 0] ?_;refine cS fun m4 hm4 hAc => ?_;refine TO.splitC (b:=bc) (off:=2) [.pointer none] [.pointer none, .int .i64 0] ?_;refine TO.drop (List.sublist_cons_self _ _) ?_;refine cI bhC ?_;have hm24:=cz hm3 hm4;have hm04:=cz hm1 (cz hm2 hm24);have hE0 : CE.Tbl ⟨bp,bt,cc0,es0,l,fm,0,[],[]⟩ m4:=⟨hAp.mono hm4,hm24.o _ _ hbt,(hTA.rep (soundE_nodup hs0)).mono hm24,fun n=>⟨(theD_good hgood n).1,fun f hf=>(theD_good hgood n).2 f hf⟩⟩
   refine uA ?_;refine qs rfl (OT.loadL (k:=3) tab 0 rfl rfl rfl rfl rfl rfl ?_);refine jn ?_;have hr4:=(hr.kids).mono hm04;have hlen:=hr4.len;have hpl:=kids_le p;have hps:=hp.size;unfold buildO at hZ;generalize hG : (fun r : Names × List (Tree × Names × Tree)=>(bodiesO ⟨l,r.1⟩ r.2).bind fun _=>Ck.want (mainOk r.1))=G at hZ;refine cT (size:=4) ?_;refine cT (size:=1) ?_;refine TC.perm (L' := .obj fm (mapO kStr [] 0) :: .cells bp 2 [nilS.v] :: tok nilS 1 :: tok nilS 4 :: (FunsI []++hdR h b1 b2 b3 bc bp L)) bhM ?_;refine cD (ι:=Nat × List GFun × Ents Str × Nat × Names × Sl × Sl × Mem) [2,3,5,32,33] rfl (fun y=>[(34, .int .i64 (y.1 : Int)),(6,y.2.2.2.2.2.2.1.v)]) (fun y=>y.2.2.2.2.2.2.2) (fun y => .obj fm (mapO kStr y.2.2.1 y.2.2.2.1) :: .cells bp 2 [y.2.2.2.2.2.1.v] :: tok y.2.2.2.2.2.1 1 :: tok y.2.2.2.2.2.2.1 4 :: (FunsI y.2.1++hdR h b1 b2 b3 bc bp L)) (fun y=>y.1 ≤ p.kids.length∧m4 ≤ y.2.2.2.2.2.2.2∧(∀ f ∈ y.2.1,FunAt y.2.2.2.2.2.2.2 f)∧SlRep rGF y.2.2.2.2.2.2.2 y.2.2.2.2.2.1 (y.2.1.map GFun.gf)∧Own y.2.2.2.2.2.1∧SlRep rTree y.2.2.2.2.2.2.2 y.2.2.2.2.2.2.1 (y.2.1.map GFun.body)∧Own y.2.2.2.2.2.2.1∧FnsAt y.2.2.2.2.2.2.2 y.2.2.1 y.2.2.2.2.1∧y.2.1.length ≤ y.1∧Z=(headsC l y.2.2.2.2.1 (y.2.1.map GFun.tri) (p.kids.drop y.1)).bind G) (fun y=>p.kids.length - y.1) (0,[],[],0,[],nilS,nilS,m4) uH rfl uS ⟨ci _,cy _,(fun f hf=>by cases hf),cO _ _,cU,cO _ _,cU,(fun n=>rfl),bE _,hZ⟩ ?_;rintro ⟨i,fl,es,ec,fns,fs,sb,m5⟩ ⟨hi,hm45,hfl,hfs,hfo,hsb,hso,hfns,hfll,hZ⟩;simp only at hi hm45 hfl hfs hfo hsb hso hfns hfll hZ;have hm05:=cz hm04 hm45;have hcc:=hAc.mono hm45;have hr5:=hr4.mono hm45;refine uA ?_;refine an (fun hltI => ?_) (fun hltI => ?_)
   ·have hlt0 : (i : Int) < (h.kids.len : Int):=hltI;have hlt : i < p.kids.length:=lM;have hx : p.kids[i]? = some p.kids[i]:=lU;have hmem:=bK hlt;have hdk:=hp.kids _ hmem;rw [bR hlt,headsC] at hZ;generalize hne : p.kids[i]=n at hx hmem hdk hZ;have hdn:=dc hmem;have hdp:=hp.deep;have hfll2:=hfs.len;rw [bM] at hfll2;have hsll2:=hsb.len;rw [bM] at hsll2;refine jk ?_;rintro b' i' h9 hrd9 hA9;have hrn:=rTree_iff.1 hrd9;have hkk:=hrn.kind;have hn9:=hrn.name;have hrk:=hrn.kids;refine kL ?_;refine aD tab (fun b8 => ?_);refine je ?_;refine cH rfl rfl (fun e1 => ?_) (fun e1 => ?_)
    ·have e1 : ¬ h9.kind=4:=e1;rw [if_neg lM] at hZ;refine uL ?_;refine aY (fun e2 => ?_) (fun e2 => ?_)
     ·have e2 : ¬ h9.kind=5:=e2;rw [if_neg lM] at hZ;refine jN ?_;exact ⟨(i + 1,fl,es,ec,fns,fs,sb,m5),uH,uH,rfl,rfl,uS,⟨by omega,hm45,hfl,hfs,hfo,hsb,hso,hfns,by simp only;omega,hZ⟩,by simp only;omega⟩
     ·have e2 : h9.kind=5:=e2;rw [if_pos lM] at hZ;obtain ⟨hnm,r,t,bd,y,ys,z,zs,hnk,hrk2,hyk,hsg,hbl, -, -⟩:=decl_method hdk lM;have ft:=fit_kids hp hw hmem (t:=t) l8 l8;have fb:=fit_kids hp hw hmem (t:=bd) l8 l8;have ek0 : kid n 0=r:=mq;have ek1 : kid n 1=t:=mq;have ek2 : kid n 2=bd:=mq;have ek3 : kid r 0=y:=by unfold kid;rw [hrk2];rfl
      have ek4 : kid y 0=z:=by unfold kid;rw [hyk];rfl
      have hrv : recvD n=z.name:=by unfold recvD;rw [ek0,ek3,ek4]
      rw [ek0,ek1,ek2,hrv] at hZ;rw [hnk] at hrk;have hkl : h9.kids.len=3:=hrk.len;refine jh ?_;refine OT.box rfl rfl rfl rfl rfl (fun bf => ?_);refine jT ?_;refine aW (r':=((1 : Nat) : Int)) uH mU lM ?_;refine aC tab rTree 1 hrk uH lS uH ?_;rintro b0 i0 h10 hrd10 hA10;refine aq tab hA10 ?_;refine aD tab (fun b10 => ?_);refine iS ?_;refine am (k:=0) 2 ?_;refine an (fun _ => ?_) (fun e5=>absurd e2 e5);refine uA ?_;refine am (k:=3) 2 ?_;refine aC tab rTree 0 hrk uH lS uH ?_;rintro bA iA hA' hrdA hAA;have hr7:=(rTree_iff.1 hrdA).kids;rw [hrk2] at hr7;refine uA ?_;refine ah (k:=3) hAA ?_;refine aC tab rTree 0 hr7 uH lS uH ?_;rintro bB iB hB' hrdB hAB;have hr8:=(rTree_iff.1 hrdB).kids;rw [hyk] at hr8;refine uA ?_;refine ah (k:=3) hAB ?_;refine aC tab rTree 0 hr8 uH lS uH ?_;rintro bC iC hC hrdC hAC;have hnC:=(rTree_iff.1 hrdC).name;refine uA ?_;refine ah (k:=1) hAC ?_;refine aj (k:=1) 1 ?_;refine TC.drawK (d2:=2) (d3:=3) cZ rfl rfl uK [18] 19 rfl [.cells b8 0 (treeC h9), .cells bf 0 [strV h9.name,strV hC.name, .int .i64 0,strV [], .int .i64 0, .slice none 0 0, .slice none 0 0, .pointer none, .pointer none, .slice none 0 0, .int .i64 (fs.len : Int)]] _ bhP ?_;refine cQ tab dw uK [0,1] uK rfl ?_;refine aX (k:=3) 2 0 dw ?_;refine DO.index tab rTree 3 0 hrk dw uK uK rfl rfl rfl rfl rfl rfl rfl l6 rfl rfl ?_;rintro b4 i4 h4 hrd4 hA4;have hn4:=(rTree_iff.1 hrd4).name;refine cQ tab dw uK [4] uK rfl ?_;refine DO.loadA (k:=1) tab 5 hA4 dw uK uK rfl rfl rfl rfl rfl rfl rfl ?_;refine cQ tab dw uK [6,7,8] uK rfl ?_;refine aX (k:=1) 9 1 dw ?_;refine cQ tab dw uK [10,12] uK rfl ?_;refine af 11 ?_;refine cN rfl rfl rfl rfl rfl rfl goes60 ((pointer_law (.mk 4 hC.name 0 []) _ _ ⟨4,hC.name,0,nilS⟩ (de _ _ _ _)).x ?_);rintro _ mA _ ⟨hmA,rfl,g,rfl,hg⟩;refine ⟨hmA,_,a9 _, ?_⟩;refine cQ tab dw uK [13] uK rfl ?_
      refine af 14 ?_;refine OT.box rfl rfl rfl rfl rfl (fun bv => ?_);refine kM ?_;refine af 15 ?_;refine aO (hs:=[bv]) (l:=[bv]) tab rPtr ⟨rfl,trivial⟩ uH lO (fun sP mB hmB hsP hoP hcP => ?_);refine ⟨hmB,_,a9 _, ?_⟩;refine cQ tab dw uK [16,17] uK rfl ?_;refine cR ?_;refine aB 18 ?_;refine ap (k:=6) 1 ?_;refine aI ?_;refine forgetQ_n ?_;refine cB ?_;refine TC.perm bhQ ?_;refine TC.splitC (b:=bv) (off:=0) [strV h4.name, .int .i64 g.kind,strV g.name, .int .i64 g.num,g.kids.v,ptr bf] [.bool false, .bool false] ?_;refine TC.freeze fun mC hmC hAv => ?_;refine TC.toRoom ?_;refine TC.perm (ba _ _ _) ?_;refine TC.fnBlock _ _ _ _ _ _ _ _ _ _ _ fun m7 hm7 hA0 hA8 => ?_;have hm57 : m5 ≤ m7:=cz hmA (cz hmB (cz hmC hm7));refine TC.perm bhR ?_;refine TC.drop (List.sublist_cons_self _ _) ?_;rw [← hn4,← hnC] at hZ;have hVar : VarAt m7 ⟨bv,h4.name, .mk 5 [] 0 [.mk 4 hC.name 0 []],bf⟩:=⟨g,hg.mono (cz hmB (cz hmC hm7)),hAv.mono hm7⟩
      have hpsG : SlRep rGV m7 sP [⟨bv,h4.name, .mk 5 [] 0 [.mk 4 hC.name 0 []],bf⟩]:=slGV1 (v:=⟨bv,h4.name, .mk 5 [] 0 [.mk 4 hC.name 0 []],bf⟩) (hsP.mono (cz hmC hm7)) hVar;have htgv : tg (.mk 5 [] 0 [.mk 4 hC.name 0 []])=true:=tg_mk _ _ _ _ (fun _=>rfl) (fun e=>by omega) (fun x hx=>by rw [List.mem_singleton.1 hx];exact tg_leaf _ _ _ lM);refine uA ?_;refine TO.tokFo hcP hoP 1 ?_;refine cI (ba _ _ _) ?_;have hm07:=cz hm05 hm57;have hE7:=hE0.mono (cz hm45 hm57);have hcc7:=hcc.mono hm57;refine uA ?_;refine aQ (k:=0) 5 ?_;refine oC goes63 (cA (sig_ck ⟨bp,bt,cc0,es0,l,fm,0,[],[]⟩ bc bf hE7 (hcc7.pre (xs:=[ptr bp])) ((rTree_iff.1 hrd10).mono hm57) hsg ft.size ft.deep ft.wide ([⟨bv,h4.name, .mk 5 [] 0 [.mk 4 hC.name 0 []],bf⟩] : List GV) sP hpsG hoP (bE _) (fun v hv=>by rw [List.mem_singleton.1 hv];exact ⟨rfl,htgv⟩) _) ?_ ?_)
      ·rintro v m8 T8 ⟨tt,vs,ht,ps,hsig,hm8,hA2,hht,htg,ht7,hps,hpo,hT8⟩;replace hsig : sigC l (([⟨bv,h4.name, .mk 5 [] 0 [.mk 4 hC.name 0 []],bf⟩] : List GV).map GV.pair) t=some (tt,((([⟨bv,h4.name, .mk 5 [] 0 [.mk 4 hC.name 0 []],bf⟩] : List GV)++vs).map GV.pair).reverse):=hsig;rw [show sigC l [(h4.name, .mk 5 [] 0 [.mk 4 hC.name 0 []])] t=some (tt,((([⟨bv,h4.name, .mk 5 [] 0 [.mk 4 hC.name 0 []],bf⟩] : List GV)++vs).map GV.pair).reverse) from hsig] at hZ;replace hZ : Z=(headsC l (fns) (fl.map GFun.tri++[(tt,((([⟨bv,h4.name, .mk 5 [] 0 [.mk 4 hC.name 0 []],bf⟩] : List GV)++vs).map GV.pair).reverse,bd)]) (p.kids.drop (i + 1))).bind G:=hZ;have hm58:=cz hm57 hm8;have hT9 : T8.Perm ((([⟨bv,h4.name, .mk 5 [] 0 [.mk 4 hC.name 0 []],bf⟩] : List GV)++vs).map flagI++(.cells bf 7 [.pointer none] :: .obj fm (mapO kStr (es) (ec)) :: .cells b10 0 (treeC h10) :: .cells b8 0 (treeC h9) :: .cells bp 2 [fs.v] :: tok fs 1 :: tok sb 4 :: (FunsI fl++hdR h b1 b2 b3 bc bp L))):=(hT8.trans bhS)
       refine jx ?_;refine aO (hs:=[bf]) (l:=[⟨bf,h9.name,hC.name⟩]) tab rGF ⟨⟨rfl,hA0.mono hm8⟩,trivial⟩ uH lO (fun sA m9 hm9 hsA _ _ => ?_);refine ⟨hm9,_,a9 _, ?_⟩;refine af 7 ?_;refine cP tab rGF 2 ((hfs.mono hm58).mono hm9) hfo hsA rfl rfl rfl rfl rfl rfl rfl (by simp only [a6,a7,a8,bM,rGF];omega) (fun fs' m10 hm10 hfs' hfo' => ?_);refine jC ?_;have hm510:=cz hm58 (cz hm9 hm10);have hm810:=cz hm9 hm10;have hrkX:=hrk.mono hm510;refine uA ?_;refine am (k:=3) 4 ?_;refine am (k:=3) 4 ?_;refine aW (r':=((2 : Nat) : Int)) uH mU lM ?_;refine aC tab rTree 2 hrkX uH lS uH ?_;rintro bb ib hb9 hrdb hAb;refine aq tab hAb ?_;refine aw (hs:=[hb9]) (l:=[bd]) tab rTree ⟨hrdb,trivial⟩ uH lO (fun sB m11 hm11 hsB _ _ => ?_);refine qs rfl (cP tab rTree 3 ((hsb.mono hm510).mono hm11) hso hsB rfl rfl rfl rfl rfl rfl rfl (by simp only [a6,a7,a8,bM,rTree,mkR];omega) (fun sb' m12 hm12 hsb' hso' => ?_));have hm1012:=cz hm11 hm12;have hm512:=cz hm510 hm1012;have hm812:=cz hm810 hm1012;refine jN ?_;refine ⟨(i + 1,fl++[⟨⟨bf,h9.name,hC.name⟩,tt,([⟨bv,h4.name, .mk 5 [] 0 [.mk 4 hC.name 0 []],bf⟩] : List GV)++vs,bd⟩],es,ec,fns,fs',sb',m12),uH,uH,rfl,rfl, ?_,⟨by omega,cz hm45 hm512,fun f hf => ?_,by rw [co];exact hfs'.mono hm1012,hfo',by rw [co];exact hsb',hso',(hfns.mono hm512),by simp only [a6,a7,a8];omega,by rw [co];exact hZ⟩,by simp only;omega⟩
       ·exact gc
       ·exact fz
      ·rintro ch m8 T8 ⟨g1,g2,rfl,g4⟩;have hZn : Z=none:=by
        rw [hZ];rw [show sigC l [(h4.name, .mk 5 [] 0 [.mk 4 hC.name 0 []])] t=none from g1];rfl
       repeat (first|refine thenQ_p ?_|refine blockQ_p ?_)
       obtain rfl : c=5:=mx;exact build_bad (v2:=ptr bp) (v3 := .int .i64 0) rfl rfl (cz hm07 g2) (Hs.trans ⟨_,bhT⟩ g4)
    ·have e1 : h9.kind=4:=e1;rw [if_pos lM] at hZ;obtain ⟨hnm,t,bd,hnk,hsg,hbl⟩:=decl_func hdk lM;have ft:=fit_kids hp hw hmem (t:=t) l8 l8;have fb:=fit_kids hp hw hmem (t:=bd) l8 l8;have ek0 : kid n 0=t:=mq;have ek1 : kid n 1=bd:=mq;rw [ek0,ek1] at hZ;rw [hnk] at hrk;have hkl : h9.kids.len=2:=hrk.len;refine jh ?_;refine OT.box rfl rfl rfl rfl rfl (fun bf => ?_);refine jT ?_;refine aW (r':=((0 : Nat) : Int)) uH mU lM ?_;refine aC tab rTree 0 hrk uH lS uH ?_;rintro b0 i0 h10 hrd10 hA10;refine aq tab hA10 ?_;refine aD tab (fun b10 => ?_);refine iS ?_;refine am (k:=0) 2 ?_;refine an (fun e5 => ?_) (fun e5 => ?_)
     ·exfalso;have e5 : h9.kind=5:=e5;omega
     refine uA ?_;refine TC.drawK (d2:=2) (d3:=3) cZ rfl rfl uK [] 19 rfl [.cells bf 0 [strV h9.name,strV [], .int .i64 0,strV [], .int .i64 0, .slice none 0 0, .slice none 0 0, .pointer none, .pointer none, .slice none 0 0, .int .i64 (fs.len : Int)]] _ bhI ?_;refine cQ tab dw uK [0,1,2,4,5,6] uK rfl ?_;refine DO.loadA (k:=1) tab 3 hcc dw uK uK rfl rfl rfl rfl rfl rfl rfl ?_;refine aX (k:=0) 7 0 dw ?_;refine af 8 ?_;refine OT.lookup0 tab kStr 1 h9.name rfl rfl rfl rfl rfl rfl rfl rfl ?_;refine i9 ?_;have hfn:=hfns h9.name;cases hgn : getN fns h9.name with
     | some tt =>
      rw [hgn] at hfn;obtain ⟨-,bq,hq,hmg, -, -⟩:=hfn;have hZn : Z=none:=by rw [hZ,if_pos (.inl (by rw [← hn9,hgn];rfl))];rfl
      refine DO.convV (v':=ptr bq) ?_ mV;refine af 9 ?_;refine OT.ptrNil (e:=114) tab rfl rfl rfl rfl rfl rfl ?_;refine i9 ?_;refine cQ tab dw uK [10,11,12,13,14,15,16,17] uK rfl ?_;refine af 18 ?_;refine cN rfl rfl rfl rfl rfl rfl goes61 (cA (want_law false _ _) ?_ ?_)
      ·rintro _ _ _ ⟨e, -⟩;cases e
      ·rintro _ _ _ ⟨-,rfl,rfl,rfl⟩
       repeat (first|refine forgetQ_p ?_|refine thenQ_p ?_|refine blockQ_p ?_)
       obtain rfl : c=5:=mx;exact build_bad (v2:=ptr bp) (v3 := .int .i64 0) rfl rfl hm05 ⟨_,bhN⟩
     | none =>
      rw [hgn] at hfn;have hmg : mget es h9.name=none:=hfn;refine DO.convV (v' := .pointer none) ?_ mV;refine af 9 ?_;refine OT.ptrNil (e:=114) tab rfl rfl rfl rfl rfl rfl ?_;refine i9 ?_;refine cQ tab dw uK [10,11,12,13] uK rfl ?_;refine aX (k:=0) 14 0 dw ?_;refine af 15 ?_;refine cN rfl rfl rfl rfl rfl rfl goes62 ((builtin_law h9.name _ _).x ?_);rintro _ m6 _ ⟨hm6,rfl,rfl⟩;refine ⟨hm6,_,a9 _, ?_⟩;refine cQ tab dw uK [16,17] uK rfl ?_;refine af 18 ?_;refine cN rfl rfl rfl rfl rfl rfl goes61 (cA (want_law (decide (builtinD h9.name ≤ 0)) _ _) ?_ ?_)
      ·rintro _ _ _ ⟨e,rfl,rfl,rfl⟩;replace e:=of_decide_eq_true e;refine i9 ?_;refine aU ?_;refine forgetQ_n ?_;refine cB ?_;have hno : ¬ ((getN fns n.name).isSome=true ∨ 0 < builtinD n.name):=by
        rw [← hn9,hgn];rintro (hh | hh)
        ·cases hh
        ·omega
       rw [if_neg hno] at hZ;have hcc6:=hcc.mono hm6;refine TC.drawK (d2:=2) (d3:=3) cZ rfl rfl uK [9] 10 rfl [.cells bf 0 [strV h9.name,strV [], .int .i64 0,strV [], .int .i64 0, .slice none 0 0, .slice none 0 0, .pointer none, .pointer none, .slice none 0 0, .int .i64 (fs.len : Int)]] _ (a9 _) ?_;refine cQ tab dw uK [0,1,2,4,5,6,8] uK rfl ?_;refine DO.loadA (k:=1) tab 3 hcc6 dw uK uK rfl rfl rfl rfl rfl rfl rfl ?_;refine aX (k:=0) 7 0 dw ?_;refine cR ?_;refine aB 9 ?_;refine OT.mapSet tab kStr 1 h9.name rfl rfl rfl rfl rfl rfl rfl ?_;refine aI ?_;refine forgetQ_n ?_;refine cB ?_;refine TC.fnBlock _ _ _ _ _ _ _ _ _ _ _ fun m7 hm7 hA0 hA8 => ?_;have hm57:=cz hm6 hm7;refine cT (size:=1) ?_;refine TC.perm bhJ ?_;refine TC.drop (List.sublist_cons_self _ _) ?_;have hfa : ∀ (tt : Tree) (m8 : Mem),m7 ≤ m8→tg tt=true→(∃ ht,TreeRep m8 ht tt∧At m8 bf 2 (treeC ht))→FnsAt m8 (mset es h9.name (ptr bf) ec) ((n.name,tt) :: fns):=fun tt m8 hm8 htg hA x=>by
        rw [mget_mset];unfold getN;rw [List.find?_cons];by_cases hxn : h9.name=x
        ·rw [if_pos hxn,bP (by rw [← hn9];exact hxn)];obtain ⟨ht,h1,h2⟩:=hA;exact ⟨htg,bf,ht,rfl,h1,h2⟩
        ·rw [if_neg hxn,bQ (by rw [← hn9];exact hxn)];exact (hfns.mono (cz hm57 hm8)) x
       have hm07:=cz hm05 hm57;have hE7:=hE0.mono (cz hm45 hm57);have hcc7:=hcc.mono hm57;refine uA ?_;refine aQ (k:=0) 4 ?_;refine oC goes63 (cA (sig_ck ⟨bp,bt,cc0,es0,l,fm,0,[],[]⟩ bc bf hE7 (hcc7.pre (xs:=[ptr bp])) ((rTree_iff.1 hrd10).mono hm57) hsg ft.size ft.deep ft.wide ([] : List GV) nilS (cO _ _) cU (ci _) (fun v hv=>by cases hv) _) ?_ ?_)
       ·rintro v m8 T8 ⟨tt,vs,ht,ps,hsig,hm8,hA2,hht,htg,ht7,hps,hpo,hT8⟩;replace hsig : sigC l (([] : List GV).map GV.pair) t=some (tt,((([] : List GV)++vs).map GV.pair).reverse):=hsig;rw [show sigC l [] t=some (tt,((([] : List GV)++vs).map GV.pair).reverse) from hsig] at hZ;replace hZ : Z=(headsC l (((n.name,tt) :: fns)) (fl.map GFun.tri++[(tt,((([] : List GV)++vs).map GV.pair).reverse,bd)]) (p.kids.drop (i + 1))).bind G:=hZ;have hm58:=cz hm57 hm8;have hT9 : T8.Perm ((([] : List GV)++vs).map flagI++(.cells bf 7 [.pointer none] :: .obj fm (mapO kStr ((mset es h9.name (ptr bf) ec)) ((mclock es h9.name ec))) :: .cells b10 0 (treeC h10) :: .cells b8 0 (treeC h9) :: .cells bp 2 [fs.v] :: tok fs 1 :: tok sb 4 :: (FunsI fl++hdR h b1 b2 b3 bc bp L))):=hT8;refine jx ?_;refine aO (hs:=[bf]) (l:=[⟨bf,h9.name,[]⟩]) tab rGF ⟨⟨rfl,hA0.mono hm8⟩,trivial⟩ uH lO (fun sA m9 hm9 hsA _ _ => ?_);refine ⟨hm9,_,a9 _, ?_⟩;refine af 7 ?_;refine cP tab rGF 2 ((hfs.mono hm58).mono hm9) hfo hsA rfl rfl rfl rfl rfl rfl rfl (by simp only [a6,a7,a8,bM,rGF];omega) (fun fs' m10 hm10 hfs' hfo' => ?_);refine jC ?_;have hm510:=cz hm58 (cz hm9 hm10);have hm810:=cz hm9 hm10;have hrkX:=hrk.mono hm510;refine uA ?_;refine am (k:=3) 4 ?_;refine am (k:=3) 4 ?_;refine aW (r':=((1 : Nat) : Int)) uH mU lM ?_;refine aC tab rTree 1 hrkX uH lS uH ?_;rintro bb ib hb9 hrdb hAb;refine aq tab hAb ?_;refine aw (hs:=[hb9]) (l:=[bd]) tab rTree ⟨hrdb,trivial⟩ uH lO (fun sB m11 hm11 hsB _ _ => ?_);refine qs rfl (cP tab rTree 3 ((hsb.mono hm510).mono hm11) hso hsB rfl rfl rfl rfl rfl rfl rfl (by simp only [a6,a7,a8,bM,rTree,mkR];omega) (fun sb' m12 hm12 hsb' hso' => ?_));have hm1012:=cz hm11 hm12;have hm512:=cz hm510 hm1012;have hm812:=cz hm810 hm1012;refine jN ?_;refine ⟨(i + 1,fl++[⟨⟨bf,h9.name,[]⟩,tt,([] : List GV)++vs,bd⟩],(mset es h9.name (ptr bf) ec),(mclock es h9.name ec),((n.name,tt) :: fns),fs',sb',m12),uH,uH,rfl,rfl, ?_,⟨by omega,cz hm45 hm512,fun f hf => ?_,by rw [co];exact hfs'.mono hm1012,hfo',by rw [co];exact hsb',hso',(hfa tt m12 (cz hm8 hm812) htg ⟨ht,hht.mono hm812,(hA2.mono hm812).pre (xs:=treeC ht) (ys:=[ps.v])⟩),by simp only [a6,a7,a8];omega,by rw [co];exact hZ⟩,by simp only;omega⟩
        ·exact gc
        ·exact fz
       ·rintro ch m8 T8 ⟨g1,g2,rfl,g4⟩;have hZn : Z=none:=by
         rw [hZ];rw [show sigC l [] t=none from g1];rfl
        repeat (first|refine thenQ_p ?_|refine blockQ_p ?_)
        obtain rfl : c=5:=mx;exact build_bad (v2:=ptr bp) (v3 := .int .i64 0) rfl rfl (cz hm07 g2) (Hs.trans ⟨_,bhO⟩ g4)
      ·rintro _ _ _ ⟨e,rfl,rfl,rfl⟩;replace e:=of_decide_eq_false e;have hZn : Z=none:=by rw [hZ,if_pos (.inr (by rw [← hn9];omega))];rfl
       repeat (first|refine forgetQ_p ?_|refine thenQ_p ?_|refine blockQ_p ?_)
       obtain rfl : c=5:=mx;exact build_bad (v2:=ptr bp) (v3 := .int .i64 0) rfl rfl (cz hm05 hm6) ⟨_,bhN⟩
   ·have hlt0 : ¬ (i : Int) < (h.kids.len : Int):=hltI;have hie : i=p.kids.length:=lM;rw [hie,List.drop_length] at hZ;replace hZ : Z=G (fns,fl.map GFun.tri):=hZ;subst hG;replace hZ : Z=(bodiesO ⟨l,fns⟩ (fl.map GFun.tri)).bind fun _=>Ck.want (mainOk fns):=hZ;refine TC.freezeO fun m6 hm6 hfm => ?_;refine TC.perm bhU ?_;refine TC.drop (L' := .cells b2 0 [ptr bp] :: .cells bp 2 [fs.v] :: tok fs 1 :: .cells bc 3 [.pointer none, .int .i64 0] :: (FunsI fl++(.cells b3 0 [.int .i64 0] :: .cells bp 3 [.pointer none] :: L))) ((List.sublist_cons_self _ _).trans (List.sublist_cons_self _ _)) ?_;refine uA ?_;refine am (k:=0) 0 ?_;refine aQ (k:=0) 1 ?_;refine oC goes64 ((cloneF_law fs (fl.map GFun.gf) _ _ (hfs.mono hm6)).x ?_);rintro _ m7 _ ⟨hm7,rfl,scl,rfl,hscl⟩;have hm57:=cz hm6 hm7;have hm07:=cz hm05 hm57;have hE7:=hE0.mono (cz hm45 hm57);have hE8 : CE.Tbl ⟨bp,bt,cc0,es0,l,fm,ec,es,fns⟩ m7:=⟨hE7.prog,hE7.tb,hE7.tr,hE7.good⟩
    have hfm7:=hm7.o _ _ hfm;have hfns7:=hfns.mono hm57;have hcc7:=hcc.mono hm57;have hsb7:=hsb.mono hm57;have hfl7 : ∀ f ∈ fl,FunAt m7 f:=fun f hf=>(hfl f hf).mono hm57;have hscl2:=hscl.len;rw [bM] at hscl2;have hbud : fl.length + cstL (fl.map GFun.body) ≤ lim40:=by
     have:=cstL_le (k:=40000) (fl.map GFun.body) (fun x hx=>by
      obtain ⟨f,hf,rfl⟩:=List.mem_map.1 hx;have h1:=cst_le f.body;have h2:=(hfl f hf).fit.size;omega)
     rw [bM] at this;unfold lim40;omega
    have hBun : Bun ⟨bp,bt,cc0,es0,l,fm,ec,es,fns⟩ ⟨bc,[],0,zeroT⟩ [] 0 (cstL (fl.map GFun.body)) m7 (.cells b2 0 [ptr bp] :: .cells bp 2 [fs.v] :: tok fs 1 :: .cells bc 3 [.pointer none, .int .i64 0] :: (FunsI fl++(.cells b3 0 [.int .i64 0] :: .cells bp 3 [.pointer none] :: L))) (FunsI fl++(.cells b2 0 [ptr bp] :: .cells b3 0 [.int .i64 0] :: .cells bp 3 [.pointer none] :: L)) :=
     ⟨fs,fl.map GFun.gf,[],[],hfs.mono hm57,hfo,by rw [bM];exact hbud,rfl,rfl,bhV⟩
    generalize hT0 : (Item.cells b2 0 [ptr bp] :: .cells bp 2 [fs.v] :: tok fs 1 :: .cells bc 3 [.pointer none, .int .i64 0] :: (FunsI fl++(.cells b3 0 [.int .i64 0] :: .cells bp 3 [.pointer none] :: L)))=T0 at hBun;refine jn ?_;refine cD (ι:=Nat × Mem × List Item) [2,3,5,6,156,157] rfl (fun y=>[(158, .int .i64 (y.1 : Int))]) (fun y=>y.2.1) (fun y=>y.2.2) (fun y=>y.1 ≤ fl.length∧m7 ≤ y.2.1∧Bun ⟨bp,bt,cc0,es0,l,fm,ec,es,fns⟩ ⟨bc,[],0,zeroT⟩ [] 0 (cstL ((fl.drop y.1).map GFun.body)) y.2.1 y.2.2 (FunsI (fl.drop y.1)++(.cells b2 0 [ptr bp] :: .cells b3 0 [.int .i64 0] :: .cells bp 3 [.pointer none] :: L))∧Z=(bodiesO ⟨l,fns⟩ ((fl.drop y.1).map GFun.tri)).bind fun _=>Ck.want (mainOk fns)) (fun y=>fl.length - y.1) (0,m7,T0) uH rfl (bX _) ⟨ci _,cy _,hBun,hZ⟩ ?_;clear hZ hBun;rintro ⟨j,m8,T8⟩ ⟨hj,hm78,hB,hZ⟩;simp only at hj hm78 hB hZ;have hm08:=cz hm07 hm78;refine uA ?_;refine an (fun hltJ => ?_) (fun hltJ => ?_)
    ·have hlt1 : (j : Int) < (scl.len : Int):=hltJ;have hlj : j < fl.length:=lM;have hxj : (fl.map GFun.gf)[j]? = some fl[j].gf:=by simp [hlj]
     have hxb : (fl.map GFun.body)[j]? = some fl[j].body:=by simp [hlj]
     have hfj:=(hfl7 _ (bK hlj)).mono hm78;rw [bR hlj,bG,bodiesO] at hZ;rw [bR hlj,funsI_cons,bG,cstL] at hB;generalize hfe : fl[j]=f at hxj hxb hfj hZ hB;have hsc8:=hscl.mono hm78;have hsb8:=hsb7.mono hm78;obtain ⟨ht,ps,hht,hps,hA2⟩:=hfj.a2;refine uA ?_;refine au tab rGF j hsc8 uH lS rfl hxj ?_;rintro b0 i0 h0 ⟨rfl, -⟩ hA0;refine aq tab hA0 ?_;refine au tab rTree j hsb8 uH lS rfl hxb ?_;rintro b4 i4 h4 hrd4 hA4;refine aq tab hA4 ?_;refine oC goes65 (cA (body_ck (E:=⟨bp,bt,cc0,es0,l,fm,ec,es,fns⟩) (F:=⟨bc,[],f.gf.b,f.ft⟩) (sc:=[]) (w:=0) (lv:=Ck.lvl ⟨l,fns⟩ 200) (m:=m8) (hE8.mono hm78) (hm78.o _ _ hfm7) (hfns7.mono hm78) (hcc7.mono hm78) ⟨⟨_,hfj.a0.c0⟩,(fun g hg=>by cases hg),trivial⟩ trivial hht hfj.tg.1 hfj.tg.2 hps hfj.own hA2 (rTree_iff.1 hrd4) ((lvl_ok ⟨bp,bt,cc0,es0,l,fm,ec,es,fns⟩ 200).2 f.body (by have:=hfj.fit.deep;omega) hfj.fit (block_stmt hfj.bl)) hfj.bl hfj.fit.size hfj.fit.deep hfj.fit.wide (u := .pointer none) _ (FunsI (fl.drop (j + 1))++(.cells b2 0 [ptr bp] :: .cells b3 0 [.int .i64 0] :: .cells bp 3 [.pointer none] :: L)) (cstL ((fl.drop (j + 1)).map GFun.body)) ((hB.mono (cy _) lM).toF rfl rfl)) ?_ ?_)
     ·rintro v m9 T9 ⟨a,hbody,hm9,hB9⟩;replace hbody : bodyC (Ck.lvl ⟨l,fns⟩ 200) f.tri.1 f.tri.2.1 [] f.tri.2.2=some a:=hbody;rw [hbody] at hZ;refine uA ?_;refine jQ ?_;exact ⟨(j + 1,m9,T9),uH,uH,rfl,rfl,bX _,⟨by omega,cz hm78 hm9,hB9.toF rfl rfl,hZ⟩,by simp only;omega⟩
     ·rintro ch m9 T9 ⟨g1,g2,rfl,g4⟩;have hZn : Z=none:=by
       rw [hZ,show bodyC (Ck.lvl ⟨l,fns⟩ 200) f.tri.1 f.tri.2.1 [] f.tri.2.2=none from g1];rfl
      repeat (first|refine thenQ_p ?_|refine blockQ_p ?_)
      obtain rfl : c=5:=mx;exact build_bad (v2:=ptr bp) (v3 := .int .i64 0) rfl rfl (cz hm08 g2) (Hs.trans ⟨_,bhW⟩ g4)
    ·have hlt1 : ¬ (j : Int) < (scl.len : Int):=hltJ;have hje : j=fl.length:=lM;rw [hje,List.drop_length] at hZ hB;replace hZ : Z=Ck.want (mainOk fns):=hZ;obtain ⟨M,hM⟩:=hB.hs;replace hM : T8.Perm (M++(.cells b2 0 [ptr bp] :: .cells b3 0 [.int .i64 0] :: .cells bp 3 [.pointer none] :: L)):=hM;have hcc8:=hcc7.mono hm78;have hfm8:=hm78.o _ _ hfm7;have hmn:=(hfns7.mono hm78) [109,97,105,110]
     refine aJ (bhX hM) ?_;refine TC.drawK (d2:=2) (d3:=3) cZ rfl rfl uK [8] 9 rfl [.cells b2 0 [ptr bp]] (.cells b3 0 [.int .i64 0] :: .cells bp 3 [.pointer none] :: (M++L)) (a9 _) ?_;refine aX (k:=0) 0 0 dw ?_;refine cQ tab dw uK [1,2,3] uK rfl ?_;refine DO.loadA (k:=1) tab 4 hcc8 dw uK uK rfl rfl rfl rfl rfl rfl rfl ?_;refine af 5 ?_;refine OT.lookupP tab kStr [109,97,105,110] rfl rfl rfl rfl rfl rfl rfl hfm8 ?_;refine i9 ?_;cases hgn : getN fns [109,97,105,110] with
     | none =>
      rw [hgn] at hmn;have hmg : mget es [109,97,105,110]=none:=hmn;have hmo : mainOk fns=false:=by unfold mainOk;rw [hgn]
      rw [hmo] at hZ;have hZn : Z=none:=hZ;refine DO.convV (v' := .pointer none) ?_ mV;refine jL ?_;refine oC goes61 (cA (want_law false _ _) ?_ ?_)
      ·rintro _ _ _ ⟨e, -⟩;cases e
      ·rintro _ _ _ ⟨-,rfl,rfl,rfl⟩;exact fX
     | some tt =>
      rw [hgn] at hmn;obtain ⟨htg,bq,hq,hmg,hrq,hAq⟩:=hmn;have hkq:=hrq.kids.len;have hmo : mainOk fns=decide ((hq.kids.len : Int)=0):=by
       unfold mainOk;rw [hgn];show tt.kids.isEmpty=_;rw [Bool.eq_iff_iff,List.isEmpty_iff_length_eq_zero,bu];omega
      rw [hmo] at hZ;refine DO.convV (v':=ptr bq) ?_ mV;refine jL ?_;refine am (k:=0) 0 ?_;refine am (k:=0) 2 ?_;refine ah (k:=3) hAq ?_;refine oC goes61 (cA (want_law (decide ((hq.kids.len : Int)=0)) _ _) ?_ ?_)
      ·rintro _ _ _ ⟨e,rfl,rfl,rfl⟩;rw [e] at hZ;replace hZ : Z=some ():=hZ;obtain rfl : c=0:=by rw [hcZ,hZ];rfl
       refine uA ?_;refine am (k:=0) 0 ?_;refine aj (k:=0) 0 ?_;refine aj (k:=0) 1 ?_;intro tmps w' hA hst';refine leaves_cons lN (invoke_goes goes59) ?_;refine (bRec_idle b2 b3 _ _ w' hst').mono ?_;rintro e u' w2 ⟨v,rfl,rfl,hst2⟩;exact buildE_end (pv:=ptr bp) tab rfl hA rfl rfl rfl rfl hst2 ⟨_ :: M,a9 _⟩ hm08
      ·rintro _ _ _ ⟨e,rfl,rfl,rfl⟩;rw [e] at hZ;have hZn : Z=none:=hZ;exact fX
 exact fL
end Go.Sep
namespace Go.Sep
open Go.Proofs Go.Ck
attribute [local irreducible] TC TO OT TCallX TCall DO DOt thenQ blockQ retQ At
theorem Check_law (p : Tree) (hw : p.wide ≤ 140737488355328) (m : Mem) (L : List Item) (h : HTree) (hr : TreeRep m h p) :
  TCall Tryz.prog 15 ⟨[treeV h]⟩ m L (Made m L fun r _=>r = .int .i64 (chkT p)):=by
 unfold TCall;refine ak Tryz.func15 11 ?_;refine az (fun b1 => ?_);refine oC goes32 ((Build_law p hw _ _ h hr).x ?_);rintro _ m1 _ ⟨hm1,rfl,pv,rfl⟩;generalize chkT p=c;cases pv with
 | pointer q =>
  exact gF
 | _ =>
  exact gF
end Go.Sep
namespace Go.Sep
theorem blk_take : ∀ (b : Bool) (r : Str) (j : Nat),blk b r ≤ j→blk b (r.take j)=blk b r
 | _,[],j,_=>by simp [blk]
 | true,c :: r,0,h=>by
  rw [blk] at h;split at h <;> omega
 | true,c :: r,j + 1,h=>by
  rw [List.take_succ_cons,blk,blk];rw [blk] at h;split at h
  ·exact ik
  ·rename_i hc;rw [if_neg hc,if_neg hc,blk_take true r j lM]
 | false,c :: r,0,h=>by
  have : blk false (c :: r)=0:=lM;rw [this];rfl
 | false,c :: r,j + 1,h=>by
  rw [List.take_succ_cons,blk,blk];rw [blk] at h;split at h
  ·exact ik
  ·rename_i hc;rw [if_neg hc,if_neg hc];split at h
   ·rename_i h2;have hj : 1 ≤ j:=by
     cases r with
     | nil=>cases h2.2
     | cons x r =>
      have hx : x=47:=by have:=h2.2;simpa using this
      subst hx;rw [blk,if_neg lO] at h;omega
    have hh : (r.take j).head? = r.head?:=by
     cases r with
     | nil=>simp
     | cons x r =>
      obtain ⟨i,rfl⟩ : ∃ i,j=i + 1:=⟨j - 1,by omega⟩
      simp
    rw [hh,if_pos h2,if_pos h2,blk_take true r j lM]
   ·rename_i h2;rw [if_neg h2,if_neg];rintro ⟨h3,h4⟩;refine h2 ⟨h3, ?_⟩;cases j with
    | zero=>simp at h4
    | succ i =>
     cases r with
     | nil=>simp at h4
     | cons x r=>simpa using h4
theorem takeWhile_take (p : UInt8→Bool) : ∀ (s : Str) (j : Nat),(s.takeWhile p).length ≤ j→((s.take j).takeWhile p).length=(s.takeWhile p).length
 | [],j,_=>by simp
 | c :: r,0,h=>by
  rw [List.takeWhile_cons] at h ⊢;split at h
  ·simp at h
  ·rename_i hc;rw [if_neg hc];rfl
 | c :: r,j + 1,h=>by
  rw [List.take_succ_cons,List.takeWhile_cons,List.takeWhile_cons];rw [List.takeWhile_cons] at h;split
  ·rename_i hc;rw [if_pos hc] at h;simp only [a7] at h ⊢;rw [takeWhile_take p r j lM]
  ·rfl
theorem span_take {p : UInt8→Bool} {s : Str} {j : Nat} (h : spanOf p s ≤ j) : spanOf p (s.take j)=spanOf p s:=takeWhile_take p s j h
theorem escX_take {r : Str} {b : UInt8} {n j : Nat} (h : escX r=some (b,n)) (hj : n ≤ j + 1) : escX (r.take j)=some (b,n):=by
 match r,h with
 | x :: y :: r',h =>
  have h' : (hexB x y).map (fun z=>(z,3))=some (b,n):=h;have hn : n=3:=by
   cases hx : hexB x y with
   | none=>rw [hx] at h';cases h'
   | some z=>rw [hx] at h';cases h';rfl
  obtain ⟨i,rfl⟩ : ∃ i,j=i + 2:=⟨j - 2,by omega⟩
  exact h
theorem escB_take {r : Str} {b : UInt8} {n j : Nat} (h : escB r=some (b,n)) (hj : n ≤ j) : escB (r.take j)=some (b,n):=by
 have hp:=escB_pos h;cases r with
 | nil=>cases h
 | cons c r =>
  obtain ⟨i,rfl⟩ : ∃ i,j=i + 1:=⟨j - 1,by omega⟩
  rw [List.take_succ_cons];rw [escB] at h ⊢;by_cases h1 : c.toNat=110
  ·rw [if_pos h1] at h ⊢;exact h
  ·rw [if_neg h1] at h ⊢;by_cases h2 : c.toNat=116
   ·rw [if_pos h2] at h ⊢;exact h
   ·rw [if_neg h2] at h ⊢;by_cases h3 : c.toNat=34 ∨ c.toNat=92
    ·rw [if_pos h3] at h ⊢;exact h
    ·rw [if_neg h3] at h ⊢;by_cases h4 : c.toNat=120
     ·rw [if_pos h4] at h ⊢;exact escX_take h hj
     ·rw [if_neg h4] at h;cases h
theorem lit_take : ∀ (N : Nat) (r t : Str) (n j : Nat),r.length < N→lit r=some (t,n)→n ≤ j→lit (r.take j)=some (t,n)
 | 0,_,_,_,_,h,_,_=>by omega
 | N + 1,[],_,_,_,_,h,_=>by cases h
 | N + 1,c :: r,t,n,j,hN,h,hj=>by
  have hp:=lit_le h;simp only [a7] at hN;obtain ⟨i,rfl⟩ : ∃ i,j=i + 1:=⟨j - 1,by omega⟩
  rw [List.take_succ_cons];by_cases h1 : c.toNat=34
  ·rw [lit_quote h1] at h ⊢;exact h
  by_cases h2 : c.toNat=10
  ·rw [lit_nl h2] at h;cases h
  by_cases h3 : c.toNat=92
  ·cases he : escB r with
   | none=>rw [lit_esc_none h3 he] at h;cases h
   | some p =>
    obtain ⟨b,k⟩:=p;rw [lit_esc_some h3 he] at h;cases hl : lit (r.drop k) with
    | none=>rw [hl] at h;cases h
    | some q =>
     obtain ⟨t',n'⟩:=q;rw [hl] at h;simp only [cq,br,Prod.mk.injEq] at h;have hk:=escB_pos he;have he':=escB_take (j:=i) he lM;rw [lit_esc_some h3 he',List.drop_take,lit_take N (r.drop k) t' n' (i - k) mL hl lM];simp only [cq,br,Prod.mk.injEq];exact h
  ·cases hl : lit r with
   | none=>rw [lit_one h1 h2 h3,hl] at h;cases h
   | some q =>
    obtain ⟨t',n'⟩:=q;rw [lit_one h1 h2 h3,hl] at h;simp only [cq,br,Prod.mk.injEq] at h;rw [lit_one h1 h2 h3,lit_take N r t' n' i lM hl lM];simp only [cq,br,Prod.mk.injEq];exact h
theorem prefixB_iff {p s : Str} : prefixB p s=true ↔ p.length ≤ s.length∧s.take p.length=p:=by
 unfold prefixB;rw [bj,decide_eq_true_iff,decide_eq_true_iff]
theorem find_take {s p : Str} {j : Nat} (hj : p.length ≤ j) : ∀ l : List Str,l.find? (fun q=>prefixB q s)=some p→l.find? (fun q=>prefixB q (s.take j))=some p
 | [],h=>by cases h
 | q :: l,h=>by
  by_cases hq : prefixB q s=true
  ·rw [List.find?_cons_of_pos (p:=fun q=>prefixB q s) hq] at h;cases h;refine List.find?_cons_of_pos (p:=fun q=>prefixB q (s.take j)) (prefixB_iff.2 ?_);obtain ⟨h1,h2⟩:=prefixB_iff.1 hq;refine ⟨by rw [bS];omega, ?_⟩;rw [List.take_take,Nat.min_eq_left hj];exact h2
  ·rw [List.find?_cons_of_neg (p:=fun q=>prefixB q s) hq] at h;rw [List.find?_cons_of_neg (p:=fun q=>prefixB q (s.take j))]
   ·exact find_take hj l h
   ·intro h3;obtain ⟨h1,h2⟩:=prefixB_iff.1 h3;rw [bS] at h1;rw [List.take_take,Nat.min_eq_left lM] at h2;exact hq (prefixB_iff.2 ⟨by omega,h2⟩)
theorem tokD_take {s : Str} {t : Tok} {n j : Nat} (h : tokD s=some (t,n)) (hj : n ≤ j) : tokD (s.take j)=some (t,n):=by
 have hp:=tokD_le h;cases s with
 | nil=>cases h
 | cons c r =>
  obtain ⟨i,rfl⟩ : ∃ i,j=i + 1:=⟨j - 1,by omega⟩
  have hts : (c :: r).take (i + 1)=c :: r.take i:=rfl;by_cases h1 : ltr c=true
  ·have hn : n=spanOf lod (c :: r):=by
    rw [tokD,if_pos h1] at h;exact iR
   have hsp : spanOf lod ((c :: r).take (i + 1))=spanOf lod (c :: r):=span_take lM;have htt : ((c :: r).take (i + 1)).take (spanOf lod (c :: r))=(c :: r).take (spanOf lod (c :: r)):=by rw [List.take_take,Nat.min_eq_left lM]
   rw [hts] at hsp htt ⊢;rw [tokD,if_pos h1] at h ⊢;rw [hsp,htt];exact h
  ·by_cases h2 : dgt c=true
   ·have hn : n=spanOf lod (c :: r)∧spanOf dgt (c :: r)=spanOf lod (c :: r):=by
     rw [tokD,if_neg h1,if_pos h2] at h;split at h
     ·cases h
     ·split at h
      ·cases h
      ·rename_i h3;cases h;exact ⟨rfl,by omega⟩
    have hsp : spanOf lod ((c :: r).take (i + 1))=spanOf lod (c :: r):=span_take lM;have hsd : spanOf dgt ((c :: r).take (i + 1))=spanOf dgt (c :: r):=span_take lM;have htt : ((c :: r).take (i + 1)).take (spanOf lod (c :: r))=(c :: r).take (spanOf lod (c :: r)):=by rw [List.take_take,Nat.min_eq_left lM]
    rw [hts] at hsp hsd htt ⊢;rw [tokD,if_neg h1,if_pos h2] at h ⊢;rw [hsp,hsd,htt];exact h
   ·by_cases h3 : c.toNat=34
    ·rw [hts];rw [tokD,if_neg h1,if_neg h2,if_pos h3] at h ⊢;cases hl : lit r with
     | none=>rw [hl] at h;cases h
     | some q =>
      obtain ⟨t',n'⟩:=q;rw [hl] at h;simp only at h;have hn : n=n' + 1:=by
       exact iR
      rw [lit_take (r.length + 1) r t' n' i lM hl lM];exact h
    ·rw [tokD,if_neg h1,if_neg h2,if_neg h3] at h;cases hf : markL.find? (fun p=>prefixB p (c :: r)) with
     | none=>rw [hf] at h;cases h
     | some p =>
      rw [hf] at h;have hn : n=p.length:=by cases h;rfl
      have:=find_take (s:=c :: r) (p:=p) (j:=i + 1) lM markL hf;rw [hts] at this ⊢;rw [tokD,if_neg h1,if_neg h2,if_neg h3,this];exact h
theorem cutF_take : ∀ (f : Nat) (r : Str) (at_ k a : Nat),cutF f r at_ k = .error (a,3)→r.length < f→at_ ≤ a∧a - at_ < r.length ∧ ∀ g,a - at_ < g → ∃ l,cutF g (r.take (a - at_)) at_ k = .ok l
 | 0,r,at_,k,a,h,hf=>by omega
 | f + 1,r,at_,k,a,h,hf=>by
  have hb:=blk_le false r;rw [cutF] at h;by_cases h1 : r.drop (blk false r)=[]
  ·rw [if_pos h1] at h;cases h
  ·rw [if_neg h1] at h;have hlt : blk false r < r.length:=by
    refine Nat.lt_of_not_le fun hge=>h1 (ce hge)
   by_cases h2 : k=20000
   ·rw [if_pos h2] at h;cases h
   ·rw [if_neg h2] at h;cases ht : tokD (r.drop (blk false r)) with
    | none =>
     rw [ht] at h;simp only [Except.error.injEq,Prod.mk.injEq,and_true] at h;subst h;refine ⟨by omega,by omega,fun g hg => ?_⟩;rw [show at_ + blk false r - at_=blk false r by omega];cases g with
     | zero=>omega
     | succ g =>
      refine ⟨[], ?_⟩;rw [cutF,blk_take false r _ (bE _),ce mz,if_pos rfl]
    | some p =>
     obtain ⟨t,n⟩:=p;rw [ht] at h;simp only at h;have hn:=tokD_le ht;rw [bU] at hn;cases hc : cutF f ((r.drop (blk false r)).drop n) (at_ + blk false r + n) (k + 1) with
     | ok l=>rw [hc] at h;cases h
     | error e =>
      rw [hc] at h;simp only [Except.error.injEq] at h;subst h;obtain ⟨g1,g2,g3⟩:=cutF_take f _ _ _ _ hc nB;rw [bU,bU] at g2;refine ⟨by omega,by omega,fun g hg => ?_⟩;cases g with
      | zero=>omega
      | succ g =>
       have hd : (r.take (a - at_)).drop (blk false r)=(r.drop (blk false r)).take (a - at_ - blk false r):=List.drop_take ..;obtain ⟨l,hl⟩:=g3 g lM;have ht':=tokD_take (j:=a - at_ - blk false r) ht lM;refine ⟨⟨t.kind,t.text,t.num,((at_ + blk false r : Nat) : Int)⟩ :: l, ?_⟩;rw [cutF,blk_take false r _ lM,hd,if_neg,if_neg h2,ht']
       ·simp only;rw [List.drop_take,show a - at_ - blk false r - n=a - (at_ + blk false r + n) by omega,hl]
       ·intro e;rw [e] at ht';cases ht'
end Go.Sep
namespace Go.Sep
theorem cutF_ok : ∀ (f : Nat) (r : Str) (at_ k : Nat) (l : List Tok),cutF f r at_ k = .ok l→r.length < f→k ≤ 20000→l.length + k ≤ 20000∧(∀ t ∈ l,(at_ : Int) ≤ t.at_∧t.at_ < at_ + r.length)∧l.Pairwise (fun a b=>a.at_ < b.at_)
 | 0,r,at_,k,l,h,hf,hk=>by omega
 | f + 1,r,at_,k,l,h,hf,hk=>by
  have hb:=blk_le false r;rw [cutF] at h;by_cases h1 : r.drop (blk false r)=[]
  ·rw [if_pos h1] at h;cases h;exact ⟨by simpa using hk,by simp,List.Pairwise.nil⟩
  ·rw [if_neg h1] at h;have hlt : blk false r < r.length:=Nat.lt_of_not_le fun hge=>h1 (ce hge);by_cases h2 : k=20000
   ·rw [if_pos h2] at h;cases h
   ·rw [if_neg h2] at h;cases ht : tokD (r.drop (blk false r)) with
    | none=>rw [ht] at h;cases h
    | some p =>
     obtain ⟨t,n⟩:=p;rw [ht] at h;simp only at h;have hn:=tokD_le ht;rw [bU] at hn;cases hc : cutF f ((r.drop (blk false r)).drop n) (at_ + blk false r + n) (k + 1) with
     | error e=>rw [hc] at h;cases h
     | ok l' =>
      rw [hc] at h;cases h;obtain ⟨g1,g2,g3⟩:=cutF_ok f _ _ _ _ hc nB lM;have g2' : ∀ t ∈ l',((at_ + blk false r + n : Nat) : Int) ≤ t.at_∧t.at_ < at_ + r.length:=fun t ht=>by
       have:=g2 t ht;rw [bU,bU] at this;omega
      refine ⟨by simp only [a7];omega,fun t' ht' => ?_,List.pairwise_cons.2 ⟨fun t' ht' => ?_,g3⟩⟩
      ·rcases List.mem_cons.1 ht' with rfl | ht'
       ·simp only;omega
       ·have:=g2' t' ht';omega
      ·have:=g2' t' ht';simp only;omega
theorem cutF_err : ∀ (f : Nat) (r : Str) (at_ k a : Nat) (e : Int),cutF f r at_ k = .error (a,e)→r.length < f→at_ ≤ a∧a < at_ + r.length∧(e=3 ∨ e=4)
 | 0,r,at_,k,a,e,h,hf=>by omega
 | f + 1,r,at_,k,a,e,h,hf=>by
  have hb:=blk_le false r;rw [cutF] at h;by_cases h1 : r.drop (blk false r)=[]
  ·rw [if_pos h1] at h;cases h
  ·rw [if_neg h1] at h;have hlt : blk false r < r.length:=Nat.lt_of_not_le fun hge=>h1 (ce hge);by_cases h2 : k=20000
   ·rw [if_pos h2] at h;exact iz
   ·rw [if_neg h2] at h;cases ht : tokD (r.drop (blk false r)) with
    | none =>
     rw [ht] at h;exact iz
    | some p =>
     obtain ⟨t,n⟩:=p;rw [ht] at h;simp only at h;have hn:=tokD_le ht;rw [bU] at hn;cases hc : cutF f ((r.drop (blk false r)).drop n) (at_ + blk false r + n) (k + 1) with
     | ok l=>rw [hc] at h;cases h
     | error e' =>
      rw [hc] at h;simp only [Except.error.injEq] at h;subst h;have:=cutF_err f _ _ _ _ _ hc nB;rw [bU,bU] at this;omega
theorem scanD_cases (s : Str) : (65536 < s.length∧scanD s = ⟨[],0,13⟩) ∨
  (s.length ≤ 65536 ∧ ∃ l : List Tok,scanD s = ⟨l,0,0⟩ ∧ cutF (s.length + 1) s 0 0 = .ok l∧l.length ≤ 20000∧(∀ t ∈ l,0 ≤ t.at_∧t.at_ < s.length)∧l.Pairwise (fun a b=>a.at_ < b.at_)) ∨
  (s.length ≤ 65536 ∧ ∃ a e,scanD s = ⟨[],a,e⟩ ∧ a < s.length∧(e=4 ∨ (e=3∧(scanD (s.take a)).e=0))):=by
 by_cases hl : 65536 < s.length
 ·exact .inl ⟨hl,by rw [scanD,if_pos hl]⟩
 ·refine .inr ?_;have hs : scanD s = .of (cutF (s.length + 1) s 0 0):=by rw [scanD,if_neg hl]
  cases hc : cutF (s.length + 1) s 0 0 with
  | ok l =>
   obtain ⟨h1,h2,h3⟩:=cutF_ok _ _ _ _ _ hc lM lM;refine .inl ⟨by omega,l,by rw [hs,hc];rfl,rfl,by omega,fun t ht => ?_,h3⟩;have:=h2 t ht;omega
  | error x =>
   obtain ⟨a,e⟩:=x;obtain ⟨h1,h2,h3⟩:=cutF_err _ _ _ _ _ _ hc lM;refine .inr ⟨by omega,a,e,by rw [hs,hc];rfl,by omega, ?_⟩;rcases h3 with rfl | rfl
   ·refine .inr ⟨rfl, ?_⟩;obtain ⟨_,_,h4⟩:=cutF_take _ _ _ _ _ hc lM;obtain ⟨l,hl2⟩:=h4 (a + 1) lM;rw [Nat.sub_zero] at hl2;rw [scanD,if_neg mz,show (s.take a).length=a by rw [bS];omega,hl2];rfl
   ·exact .inl rfl
theorem scanD_len (s : Str) : (scanD s).list.length ≤ 20000:=by
 rcases scanD_cases s with ⟨_,h⟩ | ⟨_,l,h,_,h2,_⟩ | ⟨_,a,e,h,_⟩
 ·rw [h];exact ci _
 ·rw [h];exact h2
 ·rw [h];exact ci _
end Go.Sep
namespace Go.Sep
def tkF (l : List Tok) : Ps.F:=fun i=>match l[i]? with
 | some t=>some ⟨t.kind,t.text,t.num⟩
 | none=>none
def placeD (s : Str) (l : List Tok) (k : Nat) : Int:=match l[k]? with
 | some t=>t.at_
 | none=>(s.length : Int)
structure PA where
 tree : Tree
 at_ : Int
 e : Int
def emptyT : Tree := .mk 0 [] 0 []
def parseL (s : Str) (l : List Tok) : PA :=
 match Ps.program l.length (tkF l) 0 with
 | .ok ds _=>if (Tree.mk 1 [] 0 ds).size ≤ 20000∧(Tree.mk 1 [] 0 ds).deep ≤ 100 then ⟨.mk 1 [] 0 ds,0,0⟩ else ⟨emptyT,0,4⟩
 | .bad k=>⟨emptyT,placeD s l k,3⟩
 | .out=>⟨emptyT,0,0⟩
def parseD (s : Str) : PA:=if (scanD s).e=0 then parseL s (scanD s).list else ⟨emptyT,((scanD s).at_ : Int),(scanD s).e⟩
def ParseR (a : PA) (r : Value) (m' : Mem) : Prop := ∃ x,r = .tuple ⟨[treeV x, .int .i64 a.at_, .int .i64 a.e]⟩ ∧ TreeRep m' x a.tree
theorem emptyT_rep (m : Mem) : TreeRep m ⟨0,[],0,⟨none,0,0⟩⟩ emptyT:=⟨rfl,rfl,rfl,cO _ _⟩
end Go.Sep
namespace Go.Ck
open Go.Sep
def sA : Str:=[102,117,110,99,32,109,97,105,110,40,41,123,112,114,105,110,116,40,49,41,59,125]
def sB : Str:=[102,117,110,99,32,109,97,105,110,40,41,123,112,114,105,110,116,40,110,105,108,41,59,125]
end Go.Ck
namespace Go.Sep
open Go.Proofs
attribute [local irreducible] TC TO OT TCallX TCall DO DOt thenQ blockQ retQ At
theorem start_ok {P : Program} {vs : List Value} {m : Mem} {L : List Item} {w : World} {n N : Nat} (hN : N ≤ n) (hs : St m w L) : Ok N (argEnv vs 0) [] m L { tmps:=⟨vs⟩ ++ Array.replicate (n - (⟨vs⟩ : Array Value).size) undef,defers:=[] } w:=by
 refine ⟨?_, ?_,rfl,hs⟩
 ·simp;omega
 ·exact eC
theorem rec_idle (a b c : Nat) (m : Mem) (L : List Item) (w : World) (hs : St m w L) :
  CallsD Tryz.prog 29 ⟨[.pointer (some ⟨a,0,none⟩), .pointer (some ⟨b,0,none⟩), .pointer (some ⟨c,0,none⟩)]⟩ .returning w fun e u' w' => ∃ v,e = .returned v∧u' = .returning∧St m w' L:=by
 refine callsD_of_wpS Tryz.func29 rfl fun c₀ cs hu => ?_;have h0:=start_ok (P:=Tryz.prog) (vs:=[.pointer (some ⟨a,0,none⟩), .pointer (some ⟨b,0,none⟩), .pointer (some ⟨c,0,none⟩)]) (n:=20) (N:=20) (bE _) hs;have hrp : recPair (c₀ :: cs)=(.nilIface,c₀ :: cs):=nA;have hc : ({ c₀ with mode := .returning } : Frame)=c₀:=by rw [← hu]
 apply wpS_seq;refine ln ?_;show Code.wpS _ _ _ _ _ _;rw [← hc];refine wpS_TC (R:=Ret (.tuple ⟨[]⟩) m L) ?_ ((h0.put (d:=6) rfl .nilIface).put (d:=3) rfl .nilIface) ?_
 ·exact ij
 ·exact fH
theorem rec_fault (a b c : Nat) (m : Mem) (L : List Item) (w : World) (x : Int) (va vb vc : List Value) (ha : va.length=4) (hb : vb.length=1) (hcl : vc.length=1) (hs : St m w (.cells a 0 va :: .cells b 0 vb :: .cells c 0 vc :: L)) :
  CallsD Tryz.prog 29 ⟨[.pointer (some ⟨a,0,none⟩), .pointer (some ⟨b,0,none⟩), .pointer (some ⟨c,0,none⟩)]⟩ (.panicking [{ v := .iface 60 (.agg ⟨[.int .i64 x]⟩),recovered:=false }]) w fun e u' w' =>
   ∃ v,e = .returned v∧u' = .panicking [{ v := .iface 60 (.agg ⟨[.int .i64 x]⟩),recovered:=true }]∧St m w' (.cells a 0 [.int .i64 0,strV [], .int .i64 0, .slice none 0 0] :: .cells b 0 [.int .i64 x] :: .cells c 0 [.int .i64 3] :: L):=by
 refine callsD_of_wpS Tryz.func29 rfl fun c₀ cs hu => ?_;have h0:=start_ok (P:=Tryz.prog) (vs:=[.pointer (some ⟨a,0,none⟩), .pointer (some ⟨b,0,none⟩), .pointer (some ⟨c,0,none⟩)]) (n:=20) (N:=20) (bE _) hs;have hrp : recPair (c₀ :: cs)=(.iface 60 (.agg ⟨[.int .i64 x]⟩),{ c₀ with mode := .panicking [{ v := .iface 60 (.agg ⟨[.int .i64 x]⟩),recovered:=true }] } :: cs):=nA
 apply wpS_seq;refine ln ?_;show Code.wpS _ _ _ _ _ _;obtain ⟨v0,v1,v2,v3,rfl⟩ : ∃ v0 v1 v2 v3,va=[v0,v1,v2,v3]:=by
  match va,ha with
  | [v0,v1,v2,v3],_=>exact ⟨_,_,_,_,rfl⟩
 obtain ⟨vb,rfl⟩:=List.length_eq_one_iff.1 hb;obtain ⟨vc,rfl⟩:=List.length_eq_one_iff.1 hcl;refine wpS_TC (R:=fun r m' L'=>r = .tuple ⟨[]⟩ ∧ m' = m∧L' = .cells a 0 [.int .i64 0,strV [], .int .i64 0, .slice none 0 0] :: .cells b 0 [.int .i64 x] :: .cells c 0 [.int .i64 3] :: L) ?_ ((h0.put (d:=6) rfl _).put (d:=3) rfl _) ?_
 ·refine uA ?_;refine kA ?_;refine qs rfl (OT.assertOk tab rfl rfl rfl rfl rfl ?_);refine uA ?_;refine aD tab (fun b4 => ?_);refine iS ?_;refine aK [] cZ 6 [] (.cells b4 0 [.int .i64 x] :: .cells a 0 [v0,v1,v2,v3] :: .cells b 0 [vb] :: .cells c 0 [vc] :: L) (a9 _) ?_;refine cQ tab uC uK [0,1] uK rfl ?_;refine DO.fork 2 [3] uK ⟨⟨_,rfl,rfl,rfl, ?_⟩,⟨_,rfl,rfl,rfl, ?_⟩,trivial⟩
  ·refine OT.loadL0 tab 0 rfl rfl rfl rfl rfl rfl ?_;refine i9 ?_;refine af 3 ?_;refine aE 1 ?_;exact eU
  ·refine aE 1 ?_;refine i9 ?_;refine af 2 ?_;refine OT.loadL0 tab 0 rfl rfl rfl rfl rfl rfl ?_;exact eU
 ·exact fH
end Go.Sep
namespace Go.Sep
open Go.Proofs
attribute [local irreducible] TC TO OT TCallX TCall DO DOt thenQ blockQ retQ At
def ParseE (a : PA) (m : Mem) (L : List Item) : Ending→World→Prop
 | .returned v,w' => ∃ m' L',St m' w' L' ∧ Made m L (ParseR a) v m' L'
 | .panicked _,_=>False
 | .outgrown,_=>False
theorem parseE_end {P : Program} {fn : Func} {a : PA} {m m' : Mem} {L : List Item} {ρ : Env} {tmps : Array Value} {w : World} {b2 b3 b4 : Nat} {x : HTree} {L' : List Item} (T : Tab P) {t2 t3 t4 : TypeId}
  (hres : fn.results = ⟨[.cell 2 t2, .cell 3 t3, .cell 4 t4]⟩) (hA : ∀ i v,look ρ i=some v→tmps[i]? = some v) (h2 : look ρ 2=some (.pointer (some ⟨b2,0,none⟩))) (h3 : look ρ 3=some (.pointer (some ⟨b3,0,none⟩))) (h4 : look ρ 4=some (.pointer (some ⟨b4,0,none⟩)))
  (l2 : T.load t2 (treeC x) 0=some (treeV x)) (l3 : T.load t3 [.int .i64 a.at_] 0=some (.int .i64 a.at_)) (l4 : T.load t4 [.int .i64 a.e] 0=some (.int .i64 a.e))
  (hst : St m' w (.cells b2 0 (treeC x) :: .cells b3 0 [.int .i64 a.at_] :: .cells b4 0 [.int .i64 a.e] :: L')) (hsub : L.Sublist L') (hm : m ≤ m') (hr : TreeRep m' x a.tree) : Leaves P fn tmps (ParseE a m L) [] .returning w:=by
 refine ⟨.tuple ⟨[treeV x, .int .i64 a.at_, .int .i64 a.e]⟩, ?_,m',L,hst.sub ?_,hm,rfl,x,rfl,hr⟩
 ·have g2:=run_loadVar (P:=P) T (k:=0) (hst.cells (i:=0) rfl) l2;have g3:=run_loadVar (P:=P) T (k:=0) (hst.cells (i:=1) rfl) l3;have g4:=run_loadVar (P:=P) T (k:=0) (hst.cells (i:=2) rfl) l4;have e2:=hA 2 _ h2;have e3:=hA 3 _ h3;have e4:=hA 4 _ h4;unfold results;rw [hres,Array.mapM_eq_mapM_toList];simp [Sem.run_bind,Sem.run_map,e2,e3,e4,asAddr,g2,g3,g4]
 ·exact bW _ (bW _ (bW _ hsub))
theorem parse_law (hout : ∀ l : List Tok,Ps.program l.length (tkF l) 0 ≠ .out) (m : Mem) (L : List Item) (s : Str) (hE : Errs m) : TCall Tryz.prog 14 ⟨[strV s]⟩ m L (Made m L (ParseR (parseD s))):=by
 have key : ∀ w,St m w L→Calls Tryz.prog 14 ⟨[strV s]⟩ w (ParseE (parseD s) m L):=by
  intro w hst;have hll:=scanD_len s;refine calls_enterD Tryz.func14 rfl 31 rfl hst ?_;refine uA ?_;refine oA tab (fun b2 => ?_);refine oA tab (fun b3 => ?_);refine aD tab (fun b4 => ?_);refine oC goes28 ((scan_law _ _ s hE).x ?_);rintro _ m1 _ ⟨hm1,rfl,sl,rfl,hsl⟩;refine uA ?_;refine av 1 ?_;refine av 0 ?_;refine jy ?_;refine aY (fun he => ?_) (fun he => ?_)
  ·have hD : parseD s = ⟨emptyT,((scanD s).at_ : Int),(scanD s).e⟩:=by rw [parseD,if_neg he]
   refine TC.quiet ?_;refine aK [5] cZ 6 [.cells b4 0 [.int .i64 (scanD s).e]] (.cells b3 0 [.int .i64 ((scanD s).at_ : Int)] :: .cells b2 0 [.int .i64 0,strV [], .int .i64 0, .slice none 0 0] :: L) (a9 _) ?_;refine j3 ?_;refine ae (k:=0) 2 0 ?_;refine DO.fork 1 [3] uK ⟨⟨_,rfl,rfl,rfl, ?_⟩,⟨_,rfl,rfl,rfl, ?_⟩,trivial⟩
   ·refine OT.loadL0 tab 1 rfl rfl rfl rfl rfl rfl ?_;refine i9 ?_;refine af 3 ?_;refine aE 2 ?_;exact eQ
   ·refine aE 2 ?_;refine i9 ?_;refine af 1 ?_;refine OT.loadL0 tab 1 rfl rfl rfl rfl rfl rfl ?_;exact eQ
  ·have hD : parseD s=parseL s (scanD s).list:=by rw [parseD,if_pos he]
   rw [hD];generalize (scanD s).list=l at hsl hll;refine uA ?_;refine oB (fun bp => ?_);refine uA ?_;refine TO.defer rfl rfl rfl rfl rfl ?_;refine uA ?_;have hEk : (⟨s,sl,l,bp,l.length + 1⟩ : PE).Ok m1:=⟨hsl,hll,by show l.length + 1 ≤ _;omega,by show 1 ≤ l.length + 1;omega⟩
   have hG:=gw (mb:=m1) (E:=⟨s,sl,l,bp,l.length + 1⟩) (3 * l.length + 4);have hP:=program_par (decl_par (hG.typ 0) (hG.block 0)) m1 (.cells b4 0 [.int .i64 (scanD s).e] :: .cells b3 0 [.int .i64 ((scanD s).at_ : Int)] :: .cells b2 0 [.int .i64 0,strV [], .int .i64 0, .slice none 0 0] :: L) 0 (cy _) hEk (ci _);have hpe : Ps.program l.length (tkF l) 0=Ps.progL (Ps.declP (l.length + 1) (Ps.gr (l.length + 1) (3 * l.length + 4)).typ (Ps.gr (l.length + 1) (3 * l.length + 4)).block) (l.length + 1) (PE.f ⟨s,sl,l,bp,l.length + 1⟩) 0:=rfl;have hn:=hout l;rw [hpe] at hn;refine oC goes30 (cA (hP ?_) ?_ ?_)
   ·intro hb;unfold Ps.bind at hb;split at hb
    ·cases hb
    ·cases hb
    ·rename_i he';exact hn he'
   ·rintro v m2 L2 ⟨a,k',xs,h1,hm2,hk',⟨x,rfl,rfl,hrx⟩,rfl⟩;obtain ⟨ds,hds,rfl⟩ : ∃ ds,Ps.program l.length (tkF l) 0 = .ok ds k' ∧ a = .mk 1 [] 0 ds:=by
     rw [hpe];unfold Ps.bind at h1;split at h1
     ·rename_i ds k'' he';injection h1 with h1 h2
      subst h2;exact ⟨ds,he',h1.symm⟩
     ·cases h1
     ·cases h1
    replace hm1:=cz hm1 hm2;refine uA ?_;refine av 3 ?_;refine aD tab (fun bl => ?_);refine iS ?_;refine qs rfl (OT.loadL0 tab 4 rfl rfl rfl rfl rfl rfl ?_);refine uA ?_;refine oC goes31 ((fits_law (.mk 1 [] 0 ds) m2 _ x bl 1 20000 hrx lO lO lO lO).x ?_);rintro _ _ _ ⟨rfl,⟨rfl,k1,k2,rfl⟩ | ⟨rfl,k1,n,rfl⟩⟩
    ·have hA2 : parseL s l = ⟨.mk 1 [] 0 ds,0,0⟩:=by
      rw [parseL,hds];exact if_pos ⟨by omega,by omega⟩
     refine uA ?_;refine qs rfl (OT.loadL0 tab 4 rfl rfl rfl rfl rfl rfl ?_);refine jE ?_;intro tmps w' hA hst';refine kS ?_;refine (rec_idle b2 b3 b4 _ _ w' hst').mono ?_;rintro e u' w2 ⟨v,rfl,rfl,hst2⟩;exact parseE_end (x:=x) tab rfl hA rfl rfl rfl rfl rfl rfl (hst2.perm (be pfr4 (bg _ (be pfr3 (bg _ pfr2))))) (bW _ (bW _ (bX _))) hm1 hrx
    ·have hA2 : parseL s l = ⟨emptyT,0,4⟩:=by
      rw [parseL,hds];exact if_neg fun h=>k1 ⟨by omega,by omega⟩
     refine jE ?_;refine thenQ_r ?_;intro tmps w' hA hst';refine kS ?_;refine (rec_idle b2 b3 b4 _ _ w' hst').mono ?_;rintro e u' w2 ⟨v,rfl,rfl,hst2⟩;exact parseE_end (x:=⟨0,[],0,⟨none,0,0⟩⟩) tab rfl hA rfl rfl rfl rfl rfl rfl (hst2.perm (be pfr4 (bg _ (be pfr3 (bg _ pfr2))))) (bW _ (bW _ (bX _))) hm1 (emptyT_rep _)
   ·rintro ch m2 L2 ⟨k',h',h1,hm2,hk',rfl,rfl⟩;have hA2 : parseL s l = ⟨emptyT,placeD s l k',3⟩:=by
     have : Ps.program l.length (tkF l) 0 = .bad k':=by
      rw [hpe];unfold Ps.bind at h1;split at h1
      ·cases h1
      ·rename_i he';injection h1 with h1
       rw [← h1];exact he'
      ·cases h1
     rw [parseL,this]
    replace hm1:=cz hm1 hm2
    repeat (first | refine thenQ_p ?_ | refine blockQ_p ?_)
    intro tmps w' hA hst';refine kS ?_;refine (rec_fault b2 b3 b4 m2 _ w' (placeD s l k') _ _ _ rfl rfl rfl (hst'.perm (be pfr3 (bg _ (be pfr2 (bg _ pfr1)))))).mono ?_;rintro e u' w2 ⟨v,rfl,rfl,hst2⟩;exact parseE_end (x:=⟨0,[],0,⟨none,0,0⟩⟩) tab rfl hA rfl rfl rfl rfl rfl rfl hst2 (bW _ (bX _)) hm1 (emptyT_rep _)
 exact fL
end Go.Sep
namespace Go.Ps
open Go.Sep (Tree Str)
variable {α β : Type}
section
variable (M : Nat) (f : F)
structure Run (st : Bool) (k0 : Nat) (p : Pp α) : Prop where
 out : ∀ k,k0 ≤ k→k ≤ M→p f k ≠ .out
 ok : ∀ k,k0 ≤ k→k ≤ M → ∀ a k',p f k = .ok a k' → k ≤ k' ∧ k' ≤ M∧(st=true→k < k')
end
section
variable {M : Nat} {f : F}
theorem Run.vac {st : Bool} {k0 : Nat} {p : Pp α} (h : M < k0) : Run M f st k0 p:=⟨fun k h1 h2=>lM,fun k h1 h2=>lM⟩
theorem Run.up {st : Bool} {k0 k1 : Nat} {p : Pp α} (h : Run M f st k0 p) (hk : k0 ≤ k1) : Run M f st k1 p:=⟨fun k h1 h2=>h.out k lM h2,fun k h1 h2=>h.ok k lM h2⟩
theorem Run.lax {st : Bool} {k0 : Nat} {p : Pp α} (h : Run M f st k0 p) : Run M f false k0 p:=⟨h.out,fun k h1 h2 a k' h3=>⟨(h.ok k h1 h2 a k' h3).1,(h.ok k h1 h2 a k' h3).2.1,fun e=>mD⟩⟩
theorem Run.ret {k0 : Nat} (a : α) : Run M f false k0 (ret a):=⟨fun k _ _ h=>(by cases h),fun k h1 h2 a k' h=>(by injection h with _ h;subst h;exact ⟨bE _,h2,fun e=>mD⟩)⟩
theorem Run.fail {st : Bool} {k0 : Nat} : Run M f st k0 (fail : Pp α):=⟨fun k _ _ h=>(by cases h),fun k h1 h2 a k' h=>(by cases h)⟩
theorem Run.bind {s1 s2 : Bool} {k0 : Nat} {p : Pp α} {g : α → Pp β} (hp : Run M f s1 k0 p) (hg : ∀ a,Run M f s2 (bif s1 then k0 + 1 else k0) (g a)) : Run M f (s1 || s2) k0 (bind p g):=by
 have hb : ∀ k,k0 ≤ k→k ≤ M → ∀ a k1,p f k = .ok a k1→(bif s1 then k0 + 1 else k0) ≤ k1:=fun k h1 h2 a k1 hx=>by
  have:=hp.ok k h1 h2 a k1 hx;cases s1 with
  | true=>have:=this.2.2 rfl;show k0 + 1 ≤ k1;omega
  | false=>show k0 ≤ k1;omega
 refine ⟨fun k h1 h2 h => ?_,fun k h1 h2 b k' h => ?_⟩
 ·unfold Ps.bind at h;cases hx : p f k with
  | ok a k1 =>
   simp only [hx] at h;exact (hg a).out k1 (hb k h1 h2 a k1 hx) (hp.ok k h1 h2 a k1 hx).2.1 h
  | bad k1=>simp only [hx] at h;cases h
  | out=>exact hp.out k h1 h2 hx
 ·unfold Ps.bind at h;cases hx : p f k with
  | ok a k1 =>
   simp only [hx] at h;have q1:=hp.ok k h1 h2 a k1 hx;have q2:=(hg a).ok k1 (hb k h1 h2 a k1 hx) q1.2.1 b k' h;refine ⟨by omega,q2.2.1,fun e => ?_⟩;cases s1 with
   | true=>have:=q1.2.2 rfl;omega
   | false=>have:=q2.2.2 e;omega
  | bad k1=>simp only [hx] at h;cases h
  | out=>simp only [hx] at h;cases h
theorem Run.step {st : Bool} {k0 : Nat} {A : Pp α} {k : Nat} (h : Run M f st (k0 + 1) A) (h1 : k0 ≤ k) (hlt : k < M) : A f (k + 1) ≠ .out ∧ ∀ a k',A f (k + 1) = .ok a k' → k < k' ∧ k' ≤ M :=
 ⟨h.out _ lM lM,fun a k' hx=>(by have:=h.ok _ lM lM a k' hx;omega)⟩
theorem isM_some {s : Str} {k : Nat} (h : isM s f k=true) : f k ≠ none:=fun e=>by unfold isM at h;rw [e] at h;cases h
variable (hf : ∀ i,M ≤ i→f i=none)
include hf
theorem at_lt {k : Nat} (h : f k ≠ none) : k < M:=by
 rcases Nat.lt_or_ge k M with h1 | h1
 ·exact h1
 ·exact absurd (hf k h1) h
theorem Run.tok {s1 st : Bool} {k0 : Nat} {s : Str} {A B : Pp α} (hA : Run M f s1 (k0 + 1) A) (hB : Run M f st k0 B) : Run M f st k0 (tok s A B):=by
 refine ⟨fun k h1 h2 h => ?_,fun k h1 h2 a k' h => ?_⟩
 ·unfold Ps.tok at h;cases hb : isM s f k with
  | true=>simp only [hb,cv] at h;exact (hA.step h1 (at_lt hf (isM_some hb))).1 h
  | false=>simp only [hb,cu] at h;exact hB.out k h1 h2 h
 ·unfold Ps.tok at h;cases hb : isM s f k with
  | true =>
   simp only [hb,cv] at h;have:=(hA.step h1 (at_lt hf (isM_some hb))).2 a k' h;exact gY
  | false=>simp only [hb,cu] at h;exact hB.ok k h1 h2 a k' h
theorem Run.need {s1 st : Bool} {k0 : Nat} {s : Str} {A : Pp α} (hA : Run M f s1 (k0 + 1) A) : Run M f st k0 (need s A):=Run.tok hf hA Run.fail
theorem Run.tkn {s1 st : Bool} {k0 : Nat} {c : Int} {A : Tk→Pp α} {B : Pp α} (hA : ∀ t,Run M f s1 (k0 + 1) (A t)) (hB : Run M f st k0 B) : Run M f st k0 (tkn c A B):=by
 refine ⟨fun k h1 h2 h => ?_,fun k h1 h2 a k' h => ?_⟩
 ·unfold Ps.tkn at h;cases hx : f k with
  | none=>simp only [hx] at h;exact hB.out k h1 h2 h
  | some t =>
   cases hb : decide (t.kind=c) with
   | true=>simp only [hx,hb,cv] at h;exact ((hA t).step h1 (at_lt hf (by rw [hx];exact fun e=>mD))).1 h
   | false=>simp only [hx,hb,cu] at h;exact hB.out k h1 h2 h
 ·unfold Ps.tkn at h;cases hx : f k with
  | none=>simp only [hx] at h;exact hB.ok k h1 h2 a k' h
  | some t =>
   cases hb : decide (t.kind=c) with
   | true =>
    simp only [hx,hb,cv] at h;have:=((hA t).step h1 (at_lt hf (by rw [hx];exact fun e=>mD))).2 a k' h;exact gY
   | false=>simp only [hx,hb,cu] at h;exact hB.ok k h1 h2 a k' h
theorem Run.name {s1 st : Bool} {k0 : Nat} {A : Str→Pp α} (hA : ∀ t,Run M f s1 (k0 + 1) (A t)) : Run M f st k0 (name A):=Run.tkn hf (fun t=>hA t.text) Run.fail
theorem Run.oneOf {s1 st : Bool} {k0 : Nat} {ops : List Str} {A : Str→Pp α} {B : Pp α} (hA : ∀ t,Run M f s1 (k0 + 1) (A t)) (hB : Run M f st k0 B) : Run M f st k0 (oneOf ops A B):=by
 refine ⟨fun k h1 h2 h => ?_,fun k h1 h2 a k' h => ?_⟩
 ·unfold Ps.oneOf at h;cases hx : ops.find? (fun s=>isM s f k) with
  | none=>simp only [hx] at h;exact hB.out k h1 h2 h
  | some t=>simp only [hx] at h;exact ((hA t).step h1 (at_lt hf (isM_some (List.find?_some (p:=fun s=>isM s f k) hx)))).1 h
 ·unfold Ps.oneOf at h;cases hx : ops.find? (fun s=>isM s f k) with
  | none=>simp only [hx] at h;exact hB.ok k h1 h2 a k' h
  | some t =>
   simp only [hx] at h;have:=((hA t).step h1 (at_lt hf (isM_some (List.find?_some (p:=fun s=>isM s f k) hx)))).2 a k' h;exact gY
omit hf
theorem Run.peek {st : Bool} {k0 : Nat} {q : F→Nat→Bool} {A B : Pp α} (hA : Run M f st k0 A) (hB : Run M f st k0 B) : Run M f st k0 (peek q A B):=by
 refine ⟨fun k h1 h2 h => ?_,fun k h1 h2 a k' h => ?_⟩
 ·unfold Ps.peek at h;cases hb : q f k with
  | true=>simp only [hb,cv] at h;exact hA.out k h1 h2 h
  | false=>simp only [hb,cu] at h;exact hB.out k h1 h2 h
 ·unfold Ps.peek at h;cases hb : q f k with
  | true=>simp only [hb,cv] at h;exact hA.ok k h1 h2 a k' h
  | false=>simp only [hb,cu] at h;exact hB.ok k h1 h2 a k' h
include hf
theorem Run.commas {X : Pp α} : ∀ (j k0 : Nat),M + 1 ≤ j + k0→Run M f true k0 X→Run M f true k0 (commas j X)
 | 0,k0,h,hX=>Run.vac lM
 | j + 1,k0,h,hX=>by
  refine Run.bind (s2:=false) hX fun a=>Run.tok hf (s1:=true) ?_ (Run.ret _);exact Run.bind (s2:=false) (Run.commas j _ (by show M + 1 ≤ j + (k0 + 1 + 1);omega) (hX.up (by show k0 ≤ k0 + 1 + 1;omega))) fun l=>Run.ret _
theorem Run.upto {X : Pp α} {s : Str} : ∀ (j k0 : Nat),M + 1 ≤ j + k0→Run M f true k0 X→Run M f true k0 (upto j s X)
 | 0,k0,h,hX=>Run.vac lM
 | j + 1,k0,h,hX=>by
  refine Run.tok hf (Run.ret _) (Run.bind (s2:=false) hX fun a => ?_);exact (Run.bind (s2:=false) (Run.upto j _ (by show M + 1 ≤ j + (k0 + 1);omega) (hX.up (by show k0 ≤ k0 + 1;omega))) fun l=>Run.ret _).lax
theorem Run.loopB {X : Pp Tree} {ops : List Str} : ∀ (j k0 : Nat) (n : Tree),M + 1 ≤ j + k0→Run M f true k0 X→Run M f false k0 (loopB j ops X n)
 | 0,k0,n,h,hX=>Run.vac lM
 | j + 1,k0,n,h,hX=>by
  refine Run.oneOf hf (s1:=true) (fun op => ?_) (Run.ret _);exact Run.bind (s2:=false) (hX.up lM) fun m=>Run.loopB j _ _ (by show M + 1 ≤ j + (k0 + 1 + 1);omega) (hX.up (by show k0 ≤ k0 + 1 + 1;omega))
theorem Run.binL {N : Nat} {U : Pp Tree} {k0 : Nat} (hN : M + 1 ≤ N) (hU : Run M f true k0 U) : ∀ l,Run M f true k0 (binL N U l)
 | []=>hU
 | ops :: rest=>Run.bind (s2:=false) (Run.binL hN hU rest) fun n=>Run.loopB hf N _ n (by show M + 1 ≤ N + (k0 + 1);omega) ((Run.binL hN hU rest).up (by show k0 ≤ k0 + 1;omega))
theorem Run.inP {N : Nat} {s : Str} {X : Pp α} {k0 : Nat} (hN : M + 1 ≤ N) (hX : Run M f true k0 X) : Run M f true k0 (inP N s X):=by
 refine Run.tok hf (Run.ret _) (Run.bind (s2:=true) (Run.commas hf N k0 lM hX) fun l=>Run.need hf (Run.ret _))
theorem Run.results {N : Nat} {typ : Pp Tree} {k0 : Nat} (hN : M + 1 ≤ N) (h : Run M f true k0 typ) : Run M f false k0 (resultsP N typ):=by
 refine Run.tok hf (s1:=true) (Run.bind (s2:=true) (Run.commas hf N _ lM (h.up lM)) fun l=>Run.need hf (Run.ret _)) (Run.peek (Run.bind (s2:=false) h fun t=>Run.ret _).lax (Run.ret _))
theorem Run.sigLike {N : Nat} {kind : Int} {X typ : Pp Tree} {k0 : Nat} (hN : M + 1 ≤ N) (hX : Run M f true (k0 + 1) X) (h : Run M f true (k0 + 1) typ) : Run M f true k0 (sigLike N kind X typ) :=
 Run.need hf (s1:=true) (Run.bind (s2:=false) (Run.inP hf hN hX) fun ps=>Run.bind (s2:=false) (Run.results hf hN (h.up (by show k0 + 1 ≤ k0 + 1 + 1;omega))) fun rs=>Run.ret _)
theorem Run.param {typ : Pp Tree} {k0 : Nat} (h : Run M f true (k0 + 1) typ) : Run M f true k0 (paramP typ):=Run.name hf (s1:=true) fun s=>Run.bind (s2:=false) h fun t=>Run.ret _
theorem Run.sig {N : Nat} {typ : Pp Tree} {k0 : Nat} (hN : M + 1 ≤ N) (h : Run M f true (k0 + 1) typ) : Run M f true k0 (sigP N typ):=Run.sigLike hf hN (Run.param hf (h.up lM)) h
structure GRun (g : Gr) (n k0 : Nat) : Prop where
 typ : 3 * M + 1 ≤ n + 3 * k0→Run M f true k0 g.typ
 block : 3 * M + 1 ≤ n + 3 * k0→Run M f true k0 g.block
 branch : 3 * M + 1 ≤ n + 3 * k0→Run M f true k0 g.branch
 unary : ∀ b,3 * M + 1 ≤ n + 3 * k0→Run M f true k0 (g.unary b)
 expr : ∀ b,3 * M + 2 ≤ n + 3 * k0→Run M f true k0 (g.expr b)
 stmt : 3 * M + 3 ≤ n + 3 * k0→Run M f true k0 g.stmt
omit hf
theorem Run.bret {s1 : Bool} {k0 : Nat} {p : Pp α} (g : α → β) (hp : Run M f s1 k0 p) : Run M f s1 k0 (Ps.bind p fun a=>Ps.ret (g a)):=by
 have:=Run.bind (s2:=false) hp fun a=>Run.ret (g a)
 rwa [Bool.or_false] at this
theorem Run.bind1 {k0 : Nat} {p : Pp α} {g : α → Pp β} (hp : Run M f true k0 p) (hg : ∀ a,Run M f false (k0 + 1) (g a)) : Run M f true k0 (Ps.bind p g):=Run.bind hp hg
include hf
theorem Run.tokIf {s1 st c : Bool} {k0 : Nat} {s : Str} {A B : Pp α} (hA : Run M f s1 (k0 + 1) A) (hB : Run M f st k0 B) : Run M f st k0 (tokIf c s A B):=by
 cases c with
 | true=>exact Run.tok hf hA hB
 | false=>exact hB
section
variable {N : Nat} (hN : M + 1 ≤ N)
include hN
theorem Run.typP {typ : Pp Tree} {k0 : Nat} (h : Run M f true (k0 + 1) typ) : Run M f true k0 (typP N typ) :=
 Run.tok hf (Run.bret _ h) (Run.tok hf (s1:=true) (Run.need hf (Run.bret _ (h.up lM))) (Run.tok hf (Run.sigLike hf hN (h.up lM) (h.up lM)) (Run.name hf fun s=>Run.ret _)))
omit hN in
theorem Run.fieldP {mb : Pp Tree} {k0 : Nat} (h : Run M f true (k0 + 1) mb) : Run M f true k0 (fieldP mb) :=
 Run.name hf (s1:=true) fun s=>Run.bind1 h fun t=>Run.need hf (s1:=false) (Run.ret _)
theorem Run.bodyP {kind : Int} {nm : Str} {mb : Pp Tree} {k0 : Nat} (h : Run M f true (k0 + 1) mb) : Run M f true k0 (bodyP N kind nm mb) :=
 Run.need hf (s1:=true) (Run.bret _ (Run.upto hf N _ lM (Run.fieldP hf (h.up lM))))
theorem Run.typeDeclP {typ : Pp Tree} {k0 : Nat} (h : Run M f true (k0 + 1) typ) : Run M f true k0 (typeDeclP N typ) :=
 Run.name hf (s1:=true) fun nm=>Run.tok hf (Run.bodyP hf hN (Run.sig hf hN (h.up lM))) (Run.need hf (Run.bodyP hf hN (h.up lM)))
theorem Run.declP {typ block : Pp Tree} {k0 : Nat} (h : Run M f true (k0 + 1) typ) (hb : Run M f true (k0 + 1) block) : Run M f true k0 (declP N typ block):=by
 refine Run.tok hf (Run.typeDeclP hf hN (h.up lM)) (Run.need hf (s1:=true) (Run.tok hf (s1:=true) ?_ ?_))
 ·refine Run.name hf (s1:=true) fun recv=>Run.need hf (s1:=true) (Run.name hf (s1:=true) fun of=>Run.need hf (s1:=true) (Run.name hf (s1:=true) fun nm => ?_));exact gI
 ·refine Run.name hf (s1:=true) fun nm => ?_;exact gI
theorem Run.blockP {stmt : Pp Tree} {k0 : Nat} (h : Run M f true (k0 + 1) stmt) : Run M f true k0 (blockP N stmt) :=
 Run.need hf (s1:=true) (Run.bret _ (Run.upto hf N _ lM h))
omit hN in
theorem Run.branchP {expr block branch : Pp Tree} {k0 : Nat} (he : Run M f true (k0 + 1) expr) (hb : Run M f true (k0 + 1) block) (hr : Run M f true (k0 + 1) branch) : Run M f true k0 (branchP expr block branch):=by
 refine Run.need hf (s1:=true) (Run.bind1 he fun c=>Run.lax (Run.bind1 (hb.up lM) fun b=>Run.tok hf (s1:=true) (Run.peek ?_ ?_) (Run.ret _)))
 ·exact Run.bret _ (hr.up lM)
 ·exact Run.bret _ (hb.up lM)
omit hf hN in
theorem Run.forP {expr block : Pp Tree} {k0 : Nat} (he : Run M f true k0 expr) (hb : Run M f true k0 block) : Run M f true k0 (forP expr block) :=
 Run.peek (Run.bret _ hb) (Run.bind1 he fun c=>(Run.bret _ (hb.up lM)).lax)
theorem Run.assignP {expr : Pp Tree} {left : List Tree} {k0 : Nat} (he : Run M f true (k0 + 1) expr) : Run M f false k0 (assignP N expr left):=by
 refine Run.tokIf hf (Run.bret _ (Run.commas hf N _ lM he)) (Run.tokIf hf (Run.bret _ (Run.commas hf N _ lM he)) ?_);cases isC1 left with
 | true=>exact Run.peek (Run.ret _) Run.fail
 | false=>exact Run.fail
theorem Run.simpleP {typ expr : Pp Tree} {k0 : Nat} (h : Run M f true (k0 + 1) typ) (he : Run M f true k0 expr) : Run M f true k0 (simpleP N typ expr):=by
 refine Run.tok hf (s1:=true) (Run.name hf (s1:=true) fun s=>Run.bind1 (h.up lM) fun t=>Run.tok hf (Run.bret _ (he.up lM)) (Run.ret _)) ?_;refine Run.tok hf (s1:=false) (Run.peek (Run.ret _) (Run.bret _ (Run.commas hf N _ lM (he.up lM))).lax) ?_;refine Run.tok hf (Run.ret _) (Run.tok hf (Run.ret _) ?_);exact Run.bind1 (Run.commas hf N _ lM he) fun l=>Run.assignP hf hN (he.up lM)
theorem Run.exprsP {s : Str} {expr : Pp Tree} {k0 : Nat} (he : Run M f true k0 expr) : Run M f true k0 (exprsP N s expr):=Run.inP hf hN he
omit hN
theorem Run.cutP {expr : Pp Tree} {num : Int} {ks : List Tree} {k0 : Nat} (he : Run M f true (k0 + 1) expr) : Run M f true k0 (cutP expr num ks) :=
 Run.need hf (s1:=true) (Run.tok hf (Run.ret _) (Run.bind1 he fun e=>Run.need hf (Run.ret _)))
theorem Run.indexP {expr : Pp Tree} {n : Tree} {k0 : Nat} (he : Run M f true k0 expr) : Run M f true k0 (indexP expr n) :=
 Run.peek (Run.cutP hf (he.up lM)) (Run.bind1 he fun e=>Run.tok hf (Run.ret _) (Run.cutP hf (he.up lM)).lax)
include hN
theorem Run.postP {expr : Pp Tree} : ∀ (j k0 : Nat) (n : Tree),M + 1 ≤ j + k0→Run M f true (k0 + 1) expr→Run M f false k0 (postP N expr j n)
 | 0,k0,n,h,he=>Run.vac lM
 | j + 1,k0,n,h,he=>by
  refine Run.tok hf (s1:=true) (Run.name hf fun s=>Run.postP j _ _ lM (he.up lM)) ?_;refine Run.tok hf (s1:=true) (Run.bind1 (Run.indexP hf he) fun t=>Run.postP j _ _ lM (he.up lM)) ?_;exact Run.tok hf (s1:=true) (Run.bind1 (Run.exprsP hf hN he) fun l=>Run.postP j _ _ lM (he.up lM)) (Run.ret _)
theorem Run.primP {typ block expr : Pp Tree} {h : Bool} {k0 : Nat} (ht : Run M f true (k0 + 1) typ) (hb : Run M f true (k0 + 1) block) (he : Run M f true (k0 + 1) expr) : Run M f true k0 (primP N typ block expr h):=by
 refine Run.tkn hf (fun t=>Run.ret _) (Run.tkn hf (fun t=>Run.ret _) (Run.tok hf (Run.ret _) (Run.tok hf (Run.ret _) (Run.tok hf (Run.ret _) ?_))));refine Run.tok hf (Run.bind1 he fun t=>Run.need hf (Run.ret _)) ?_;refine Run.tok hf (s1:=true) (Run.need hf (s1:=true) (Run.bind1 (ht.up lM) fun t=>Run.need hf (s1:=true) (Run.bret _ (Run.exprsP hf hN (he.up lM))))) ?_;refine Run.tok hf (s1:=true) (Run.bind1 (Run.sig hf hN (ht.up lM)) fun s=>(Run.bret _ (hb.up lM)).lax) ?_;refine Run.name hf (s1:=false) fun s => ?_;cases h with
 | true=>exact Run.ret _
 | false=>exact Run.tok hf (Run.bret _ (Run.exprsP hf hN (he.up lM))) (Run.ret _)
theorem GRun.all : ∀ (n k0 : Nat),GRun (M:=M) (f:=f) (gr N n) n k0
 | 0,k0=>⟨fun h=>Run.vac lM,fun h=>Run.vac lM,fun h=>Run.vac lM,fun b h=>Run.vac lM,fun b h=>Run.vac lM,fun h=>Run.vac lM⟩
 | n + 1,k0=>by
  have IH:=GRun.all n;refine ⟨fun h => ?_,fun h => ?_,fun h => ?_,fun b h => ?_,fun b h => ?_,fun h => ?_⟩
  ·exact Run.typP hf hN ((IH (k0 + 1)).typ lM)
  ·exact Run.blockP hf hN ((IH (k0 + 1)).stmt lM)
  ·exact Run.branchP hf ((IH (k0 + 1)).expr _ lM) ((IH (k0 + 1)).block lM) ((IH (k0 + 1)).branch lM)
  ·refine Run.oneOf hf (fun op=>Run.bret _ ((IH (k0 + 1)).unary b lM)) ?_;exact Run.bind1 (Run.primP hf hN ((IH (k0 + 1)).typ lM) ((IH (k0 + 1)).block lM) ((IH (k0 + 1)).expr _ lM)) fun t=>Run.postP hf hN N _ _ lM ((IH (k0 + 1 + 1)).expr _ lM)
  ·exact Run.binL hf hN ((IH k0).unary b lM) _
  ·refine Run.peek ((IH k0).block lM) (Run.peek ((IH k0).branch lM) (Run.tok hf (Run.forP ((IH (k0 + 1)).expr _ lM) ((IH (k0 + 1)).block lM)) ?_));exact Run.bind1 (Run.simpleP hf hN ((IH (k0 + 1)).typ lM) ((IH k0).expr _ lM)) fun s=>Run.need hf (Run.ret _)
theorem Run.declG {n k0 : Nat} (h : 3 * M + 1 ≤ n + 3 * (k0 + 1)) : Run M f true k0 (declG N n) :=
 Run.declP hf hN ((GRun.all hf hN n (k0 + 1)).typ h) ((GRun.all hf hN n (k0 + 1)).block h)
end
omit hf in
theorem Run.progL {decl : Pp Tree} : ∀ (j k0 : Nat),M + 1 ≤ j + k0→Run M f true k0 decl→Run M f false k0 (progL decl j)
 | 0,k0,h,hd=>Run.vac lM
 | j + 1,k0,h,hd=>by
  have hr : Run M f false k0 (Ps.bind decl fun a=>Ps.bind (Ps.progL decl j) fun l=>Ps.ret (a :: l)):=(Run.bind1 hd fun a=>Run.bret _ (Run.progL j (k0 + 1) lM (hd.up lM))).lax;refine ⟨fun k h1 h2 h => ?_,fun k h1 h2 a k' h => ?_⟩
  ·unfold Ps.progL at h;cases hb : (f k).isNone with
   | true=>simp only [hb,cv] at h;cases h
   | false=>simp only [hb,cu] at h;exact hr.out k h1 h2 h
  ·unfold Ps.progL at h;cases hb : (f k).isNone with
   | true=>simp only [hb,cv] at h;injection h with _ h;subst h;exact ⟨bE _,h2,fun e=>mD⟩
   | false=>simp only [hb,cu] at h;exact hr.ok k h1 h2 a k' h
theorem Run.program : Run M f false 0 (program M):=Run.progL (M + 1) 0 lM (Run.declG hf (bE _) lM)
end
end Go.Ps
namespace Go.Sep
theorem tkF_none (l : List Tok) : ∀ i,l.length ≤ i→tkF l i=none:=fun i h=>by unfold tkF;rw [List.getElem?_eq_none h]
theorem program_ne (l : List Tok) : Ps.program l.length (tkF l) 0 ≠ .out:=(Ps.Run.program (tkF_none l)).out 0 (bE _) (ci _)
end Go.Sep
namespace Go.Sep
open Go.Proofs Go.Ck
attribute [local irreducible] TC TO OT TCallX TCall DO DOt thenQ blockQ retQ At
def awT (x : Tree) : Tree := .mk 1 [] 0 [.mk 4 [109,97,105,110] 0 [.mk 7 [] 0 [], .mk 20 [] 0 [.mk 24 [] 0 [.mk 51 [] 0 [.mk 44 [112,114,105,110,116] 0 [],x]]]]]
def aT : Tree:=awT (.mk 40 [] 1 [])
def bT : Tree:=awT (.mk 43 [] 0 [])
theorem parse_sA : parseD sA = ⟨aT,0,0⟩:=uK
theorem parse_sB : parseD sB = ⟨bT,0,0⟩:=uK
theorem chk_aT : chkT aT=0:=uK
theorem chk_bT : chkT bT=5:=uK
theorem ends_aT : endsO aT=false:=uK
theorem wide_aT : aT.wide ≤ 140737488355328:=by decide
theorem wide_bT : bT.wide ≤ 140737488355328:=by decide
theorem awake5_law (m : Mem) (L : List Item) (hE : Errs m) : TCall Tryz.prog 10 ⟨[]⟩ m L (Made m L fun r _=>r = .bool true):=by
 unfold TCall;refine ak Tryz.func10 38 ?_;refine oC goes14 ((parse_law program_ne _ _ sA hE).x ?_);rw [parse_sA];rintro _ m1 _ ⟨hm1,rfl,x,rfl,hx⟩;replace hx : TreeRep m1 x aT:=hx;refine uA ?_;refine aD tab (fun b1 => ?_);refine iS ?_;refine oC goes14 ((parse_law program_ne _ _ sB (hE.mono hm1)).x ?_);rw [parse_sB];rintro _ m2 _ ⟨hm2,rfl,y,rfl,hy⟩;replace hy : TreeRep m2 y bT:=hy;refine uA ?_;refine aD tab (fun b4 => ?_);refine je ?_;refine oC goes15 ((Check_law aT wide_aT _ _ x (hx.mono hm2)).x ?_);rw [chk_aT];rintro _ m3 _ ⟨hm3,rfl,rfl⟩;refine uL ?_;refine oC goes15 ((Check_law bT wide_bT _ _ y (hy.mono hm3)).x ?_);rw [chk_bT];rintro _ m4 _ ⟨hm4,rfl,rfl⟩;refine uL ?_;refine oC goes12 ((Ends_law aT _ _ x ((hx.mono hm2).mono (cz hm3 hm4)) wide_aT).x ?_);rw [ends_aT];rintro _ m5 _ ⟨hm5,rfl,rfl⟩;refine uA ?_;refine ag (L':=L) ⟨cz hm1 (cz hm2 (cz hm3 (cz hm4 hm5))),rfl,rfl⟩
end Go.Sep
namespace Go.Ck
open Go.Sep
def bodyOf (tbl : List Decl) (n : Tree) : Option (Tree × Names × Tree) :=
 if n.kind=4 then (sigC tbl [] (kid n 0)).map fun s=>(s.1,s.2,kid n 1)
 else if n.kind=5 then (sigC tbl [((kid n 0).name, .mk 5 [] 0 [.mk 4 (recvD n) 0 []])] (kid n 1)).map fun s=>(s.1,s.2,kid n 2)
 else none
def isFn (n : Tree) : Bool:=decide (n.kind=4) || decide (n.kind=5)
structure Heads (tbl : List Decl) (fns : Names) (l : List Tree) : Prop where
 ok : ∀ n ∈ l,isFn n=true→(bodyOf tbl n).isSome=true
 blt : ∀ n ∈ l,n.kind=4 → ¬ 0 < builtinD n.name
 nod : ((l.filter fun n=>decide (n.kind=4)).map Tree.name).Nodup
 new : ∀ n ∈ l,n.kind=4→getN fns n.name=none
theorem getN_cons (p : Str × Tree) (l : Names) (x : Str) : getN (p :: l) x=if p.1=x then some p.2 else getN l x:=by
 unfold getN;rw [List.find?_cons];by_cases h : p.1=x
 ·rw [if_pos h,bP h];rfl
 ·rw [if_neg h,bQ h]
theorem Heads.perm {tbl : List Decl} {l l' : List Tree} (hp : l.Perm l') (h : Heads tbl [] l) : Heads tbl [] l' :=
 ⟨fun n hn=>h.ok n (hp.mem_iff.2 hn),fun n hn=>h.blt n (hp.mem_iff.2 hn),((hp.filter _).map _).nodup_iff.1 h.nod,fun n hn=>h.new n (hp.mem_iff.2 hn)⟩
theorem getN_mem {l : Names} {x : Str} {t : Tree} (h : getN l x=some t) : (x,t) ∈ l:=by
 unfold getN at h;cases hf : l.find? (fun p=>decide (p.1=x)) with
 | none=>rw [hf] at h;cases h
 | some p =>
  rw [hf] at h;obtain rfl : p.2=t:=l5;have h1:=List.find?_some hf;have h2:=List.mem_of_find?_eq_some hf;have h3 : p.1=x:=of_decide_eq_true h1;rw [← h3];exact h2
theorem methodsC_filter : ∀ (l : List Tree) (ds : List Decl),methodsC ds l=methodsC ds (l.filter fun n=>decide (n.kind=5))
 | [],_=>rfl
 | n :: l,ds=>by
  rw [methodsC,List.filter_cons];by_cases h5 : n.kind=5
  ·rw [if_pos h5,if_pos (by rw [bP h5]),methodsC,if_pos h5]
   congr 1
   funext l'
   exact methodsC_filter l l'
  ·rw [if_neg h5,if_neg (by simp [h5])];exact methodsC_filter l ds
end Go.Ck
namespace Go.Ck
open Go.Sep
mutual
def namedB (n : Str) : Tree→Bool
 | .mk _ x _ ks=>decide (x=n) || namedBL n ks
def namedBL (n : Str) : List Tree→Bool
 | []=>false
 | t :: ts=>namedB n t || namedBL n ts
end
theorem namedB_eq (n : Str) (a : Tree) : namedB n a=(decide (a.name=n) || namedBL n a.kids):=by
 obtain ⟨_,_,_,_⟩:=a;rfl
theorem namedBL_eq (n : Str) : ∀ l : List Tree,namedBL n l=l.any (namedB n)
 | []=>rfl
 | t :: ts=>by rw [namedBL,namedBL_eq n ts,List.any_cons]
def No (n : Str) (a : Tree) : Prop:=namedB n a=false
theorem No.name {n : Str} {a : Tree} (h : No n a) : ¬ a.name=n:=by
 unfold No at h;rw [namedB_eq,Bool.or_eq_false_iff] at h;exact of_decide_eq_false h.1
theorem No.kids {n : Str} {a : Tree} (h : No n a) : ∀ k ∈ a.kids,No n k:=by
 unfold No at h;rw [namedB_eq,Bool.or_eq_false_iff,namedBL_eq] at h;exact fun k hk=>by simpa [No] using List.any_eq_false.1 h.2 k hk
theorem No.mk {n x : Str} {k u : Int} {ks : List Tree} (h1 : ¬ x=n) (h2 : ∀ t ∈ ks,No n t) : No n (.mk k x u ks):=by
 unfold No;rw [namedB,bQ h1,namedBL_eq];exact List.any_eq_false.2 fun t ht=>by simpa [No] using h2 t ht
def xS : Str:=[85,110,117,115,101,100,84,121,112,101]
def yS : Str:=[117,110,117,115,101,100,70,117,110,99,116,105,111,110]
abbrev Tc (t : Tree) : Prop:=No xS t
structure Cl (t : Tree) : Prop where
 x : No xS t
 y : No yS t
theorem Cl.kids {a : Tree} (h : Cl a) {k : Tree} (hk : k ∈ a.kids) : Cl k:=⟨h.x.kids k hk,h.y.kids k hk⟩
theorem xS_ne : ¬ ([] : Str)=xS:=by decide
theorem yS_ne : ¬ ([] : Str)=yS:=by decide
theorem tk_tc (k : Int) : Tc (tk k):=No.mk xS_ne fun _ h=>by cases h
theorem zero_cl : Cl zeroT:=⟨No.mk xS_ne (fun _ h=>by cases h),No.mk yS_ne fun _ h=>by cases h⟩
theorem kid_cl {a : Tree} (h : Cl a) (i : Nat) : Cl (kid a i):=by
 unfold kid;cases hk : a.kids[i]? with
 | none=>exact zero_cl
 | some k=>exact h.kids (List.mem_of_getElem? hk)
theorem head_cl {l : List Tree} (h : ∀ k ∈ l,Cl k) : Cl (l.headD zeroT):=by
 cases l with
 | nil=>exact zero_cl
 | cons k r=>exact h k lN
theorem kid0_tc {a : Tree} (h : Tc a) : Tc (kid0 a):=by
 unfold kid0;cases hk : a.kids with
 | nil=>exact No.mk xS_ne fun _ h=>by cases h
 | cons k r=>exact h.kids k mu
mutual
theorem ofT_tc : ∀ a : Tree,No xS a→Tc a.ofT
 | .mk k n u ks,h=>by
  have hn:=h.name;have hk:=h.kids;simp only [Tree.name] at hn;simp only [Tree.kids] at hk;rw [Tree.ofT];split
  ·split
   ·exact No.mk hn fun _ h=>by cases h
   ·exact No.mk xS_ne fun _ h=>by cases h
  ·split
   ·exact ofHead_tc ks hk
   ·exact No.mk xS_ne (ofL_tc ks hk)
theorem ofL_tc : ∀ l : List Tree,(∀ t ∈ l,No xS t) → ∀ t ∈ ofL l,Tc t
 | [],_,t,ht=>by cases ht
 | a :: l,h,t,ht=>by
  rw [ofL] at ht;rcases List.mem_cons.1 ht with rfl | ht
  ·exact ofT_tc a (h a lN)
  ·exact ofL_tc l (fun t ht=>h t (by simp [ht])) t ht
theorem ofHead_tc : ∀ l : List Tree,(∀ t ∈ l,No xS t)→Tc (ofHead l)
 | [],_=>No.mk xS_ne fun _ h=>by cases h
 | a :: l,h=>by rw [ofHead];exact ofT_tc a (h a lN)
end
theorem ofRes_tc {a : Tree} (h : Cl a) : Tc (ofRes a).1:=by
 unfold ofRes;split
 ·exact ofT_tc a h.x
 ·exact No.mk xS_ne fun _ h=>by cases h
def xD : Decl:=⟨xS,false,[⟨[117,110,117,115,101,100,70,105,101,108,100], .mk 5 [] 0 [.mk 4 xS 0 []]⟩],[]⟩
section
variable {l : List Decl}
theorem more_has {n : Str} (h : ¬ n=xS) : hasD (l++[xD]) n=hasD l n:=by
 rw [has_snoc,bQ (show ¬ xD.name=n from fun e=>h e.symm),Bool.or_false]
theorem more_the {n : Str} (h : ¬ n=xS) : theD (l++[xD]) n=theD l n:=by
 rw [theD,find_snoc,if_neg (show ¬ xD.name=n from fun e=>h e.symm),Option.or_none];rfl
mutual
theorem more_known (l : List Decl) : ∀ a : Tree,Tc a→tknown (hasD (l++[xD])) a=tknown (hasD l) a
 | .mk k n u ks,h=>by
  have hn : ¬ n=xS:=h.name;have hk : ∀ t ∈ ks,Tc t:=h.kids;rw [tknown,tknown,more_knownL l ks hk,more_has hn]
theorem more_knownL (l : List Decl) : ∀ ks : List Tree,(∀ t ∈ ks,Tc t)→tknownL (hasD (l++[xD])) ks=tknownL (hasD l) ks
 | [],_=>rfl
 | t :: ts,h=>by
  rw [tknownL,tknownL,more_known l t (h t lN),more_knownL l ts fun t ht=>h t (by simp [ht])]
end
theorem more_struct {a : Tree} (h : ¬ a.name=xS) : isStructD (l++[xD]) a=isStructD l a:=by rw [isStructD,isStructD,more_has h,more_the h]
theorem more_iface {a : Tree} (h : ¬ a.name=xS) : isIfaceD (l++[xD]) a=isIfaceD l a:=by rw [isIfaceD,isIfaceD,more_has h,more_the h]
theorem more_nilable {a : Tree} (h : ¬ a.name=xS) : nilableD (l++[xD]) a=nilableD l a:=by rw [nilableD,nilableD,more_iface h]
theorem more_toStruct {a : Tree} (h : Tc a) : toStructD (l++[xD]) a=toStructD l a:=by
 rw [toStructD,toStructD];have:=h.kids;cases hk : a.kids with
 | nil=>rfl
 | cons k ks =>
  rw [hk] at this;simp only;rw [more_struct (this k lN).name]
theorem more_assign {a b : Tree} (ha : Tc a) (hb : Tc b) : tassignB (l++[xD]) a b=tassignB l a b:=by
 have nb:=hb.name;rw [tassignB,tassignB,more_known l b hb,more_nilable nb,more_iface nb,more_toStruct ha,hasMD,hasMD,more_the nb,more_the (kid0_tc ha).name]
theorem more_comp {a b : Tree} (ha : Tc a) (hb : Tc b) : tcompB (l++[xD]) a b=tcompB l a b:=by
 rw [tcompB,tcompB,more_known l a ha,more_known l b hb,more_nilable hb.name,more_nilable ha.name,simpleD,simpleD,more_iface ha.name]
theorem more_methods {a : Tree} (ha : Tc a) : methodsD (l++[xD]) a=methodsD l a:=by
 have h1 : ofD (l++[xD]) a=ofD l a:=by rw [ofD,ofD,more_toStruct ha]
 have h2 : Tc (ofD l a):=by
  unfold ofD;split
  ·exact kid0_tc ha
  ·exact ha
 rw [methodsD,methodsD,h1,more_has h2.name,more_the h2.name]
theorem ofK_tc {a : Tree} (ha : Tc a) : Tc (ofK a):=by
 unfold ofK;split
 ·exact kid0_tc ha
 ·exact ha
theorem more_fields {a : Tree} (ha : Tc a) : fieldsD (l++[xD]) a=fieldsD l a:=by
 have h2:=ofK_tc ha;rw [fieldsD,fieldsD,more_struct h2.name,more_the h2.name]
end
structure DOk (d : Decl) : Prop where
 name : ¬ d.name=xS
 fields : ∀ f ∈ d.fields,Tc f.type
 methods : ∀ f ∈ d.methods,Tc f.type
theorem DOk.all {d : Decl} (h : DOk d) : ∀ f ∈ d.all,Tc f.type:=fun f hf=>by
 rcases List.mem_append.1 hf with hf | hf
 ·exact h.fields f hf
 ·exact h.methods f hf
abbrev TOk (l : List Decl) : Prop := ∀ d ∈ l,DOk d
theorem the_ok {l : List Decl} (h : TOk l) (n : Str) : DOk (theD l n):=by
 unfold theD findD;cases hf : l.find? (fun d=>decide (d.name=n)) with
 | none=>exact ⟨xS_ne,(fun _ h=>by cases h),fun _ h=>by cases h⟩
 | some d=>exact h d (List.mem_of_find?_eq_some hf)
theorem methods_tc {l : List Decl} (h : TOk l) (a : Tree) : ∀ f ∈ methodsD l a,Tc f.type:=by
 unfold methodsD;split
 ·exact (the_ok h _).methods
 ·exact fun _ h=>by cases h
theorem fields_tc {l : List Decl} (h : TOk l) (a : Tree) : ∀ f ∈ (fieldsD l a).getD [],Tc f.type:=by
 unfold fieldsD;split
 ·exact (the_ok h _).fields
 ·exact fun _ h=>by cases h
theorem memF_tc {l : List Fld} (h : ∀ f ∈ l,Tc f.type) {x : Str} {f : Fld} (hf : memF l x=some f) : Tc f.type:=h f (List.mem_of_find?_eq_some hf)
theorem lastF_tc {l : List Fld} (h : ∀ f ∈ l,Tc f.type) {x : Str} {t : Tree} (hf : lastF l x=some t) : Tc t:=by
 unfold lastF at hf;cases hm : memF l.reverse x with
 | none=>rw [hm] at hf;cases hf
 | some f =>
  rw [hm] at hf;obtain rfl : f.type=t:=by simpa using hf
  exact memF_tc (fun f hf=>h f (List.mem_reverse.1 hf)) hm
def Eqv {α : Type} (P : α → Prop) (a' a : Option α) : Prop:=a' = a ∧ ∀ r,a=some r→P r
section
variable {α β : Type} {P : α → Prop} {Q : β → Prop}
theorem Eqv.bind {a' a : Option α} {f' f : α → Option β} (h : Eqv P a' a) (hf : ∀ r,P r→Eqv Q (f' r) (f r)) : Eqv Q (a'.bind f') (a.bind f):=by
 obtain ⟨rfl,h2⟩:=h;cases a' with
 | none=>exact ⟨rfl,fun r h=>by cases h⟩
 | some x=>exact hf x (h2 x rfl)
theorem Eqv.map {a' a : Option α} {f' f : α → β} (h : Eqv P a' a) (hf : ∀ r,P r→f' r=f r∧Q (f r)) : Eqv Q (a'.map f') (a.map f):=by
 obtain ⟨rfl,h2⟩:=h;cases a' with
 | none=>exact ⟨rfl,fun r h=>by cases h⟩
 | some x =>
  obtain ⟨e,h3⟩:=hf x (h2 x rfl);refine ⟨congrArg some e,fun r hr => ?_⟩;have hr : f x=r:=mH;rw [← hr];exact h3
theorem eqv_some {x : α} (h : P x) : Eqv P (some x) (some x):=⟨rfl,fun r hr=>by cases hr;exact h⟩
theorem eqv_none : Eqv P none none:=⟨rfl,fun r hr=>by cases hr⟩
theorem eqv_want {b' b : Bool} (h : b' = b) : Eqv (fun _=>True) (want b') (want b):=⟨by rw [h],fun _ _=>trivial⟩
theorem Eqv.ite {c : Prop} [Decidable c] {a' a b' b : Option α} (h1 : c→Eqv P a' a) (h2 : ¬ c→Eqv P b' b) : Eqv P (if c then a' else b') (if c then a else b):=by
 split
 ·exact h1 ‹_›
 ·exact h2 ‹_›
theorem Eqv.mapM {γ : Type} {f' f : γ → Option α} : ∀ {l : List γ},(∀ n ∈ l,Eqv P (f' n) (f n))→Eqv (fun r => ∀ t ∈ r,P t) (l.mapM f') (l.mapM f)
 | [],_=>⟨rfl,fun r hr t ht=>by
  obtain rfl : ([] : List α)=r:=mH;cases ht⟩
 | n :: l,h=>by
  rw [List.mapM_cons,List.mapM_cons];refine Eqv.bind (h n lN) fun x hx => ?_;refine Eqv.bind (Eqv.mapM fun n hn=>h n (by simp [hn])) fun r hr => ?_;refine ⟨rfl,fun q hq t ht => ?_⟩;obtain rfl : x :: r=q:=by simpa using hq
  rcases List.mem_cons.1 ht with rfl | ht
  ·exact hx
  ·exact hr t ht
end
abbrev XT (x : X) : Prop:=Tc x.type
def NTc (s : Names) : Prop := ∀ p ∈ s,Tc p.2
def STc (sc : Sc) : Prop := ∀ s ∈ sc,NTc s
theorem getN_tc {s : Names} (h : NTc s) {x : Str} {t : Tree} (hg : getN s x=some t) : Tc t:=h _ (getN_mem hg)
theorem lookS_tc {sc : Sc} (h : STc sc) {x : Str} {t : Tree} (hg : lookS sc x=some t) : Tc t:=by
 obtain ⟨s,hs,h1⟩:=List.exists_of_findSome?_eq_some hg;exact getN_tc (h s hs) h1
theorem NTc.cons {s : Names} {x : Str} {t : Tree} (h : NTc s) (ht : Tc t) : NTc ((x,t) :: s):=fun p hp=>by
 rcases List.mem_cons.1 hp with rfl | hp
 ·exact ht
 ·exact h p hp
theorem STc.cons {sc : Sc} {s : Names} (h : STc sc) (hs : NTc s) : STc (s :: sc):=fun p hp=>by
 rcases List.mem_cons.1 hp with rfl | hp
 ·exact hs
 ·exact h p hp
theorem NTc.nil : NTc []:=fun _ h=>by cases h
theorem declC_ok {sc : Sc} {x : Str} {t : Tree} (h : STc sc) (ht : Tc t) : Eqv STc (declC sc x t) (declC sc x t):=⟨rfl,fun r hr=>by
 cases sc with
 | nil=>cases hr
 | cons s sc =>
  unfold declC at hr;simp only at hr;split at hr
  ·cases hr
  ·cases hr;exact STc.cons (fun p hp=>h p (by simp [hp])) (NTc.cons (h s lN) ht)⟩
end Go.Ck
namespace Go.Ck
open Go.Sep
theorem all_cg {α : Type} {p q : α → Bool} : ∀ {l : List α},(∀ x ∈ l,p x=q x)→l.all p=l.all q
 | [],_=>rfl
 | x :: l,h=>by rw [cn,cn,h x lN,all_cg fun y hy=>h y mo]
abbrev AllTc (l : List Tree) : Prop := ∀ t ∈ l,Tc t
abbrev AllCl (l : List Tree) : Prop := ∀ t ∈ l,Cl t
theorem Cl.all {a : Tree} (h : Cl a) : AllCl a.kids:=fun k hk=>h.kids hk
theorem AllCl.drop {l : List Tree} (h : AllCl l) (i : Nat) : AllCl (l.drop i):=fun t ht=>h t (List.mem_of_mem_drop ht)
theorem AllCl.take {l : List Tree} (h : AllCl l) (i : Nat) : AllCl (l.take i):=fun t ht=>h t (cp ht)
theorem AllTc.drop {l : List Tree} (h : AllTc l) (i : Nat) : AllTc (l.drop i):=fun t ht=>h t (List.mem_of_mem_drop ht)
theorem AllTc.one {t : Tree} (h : Tc t) : AllTc [t]:=fun x hx=>by rw [List.mem_singleton.1 hx];exact h
theorem typ_ok {tbl : List Decl} {n : Tree} (h : Cl n) : Eqv Tc (typC (tbl++[xD]) n) (typC tbl n):=by
 unfold typC;rw [more_known tbl _ (ofRes_tc h)];exact Eqv.ite (fun _=>eqv_some (ofRes_tc h)) fun _=>eqv_none
section
variable {tbl : List Decl} {ex' ex : Sc→Tree→Option X} (hT : TOk tbl) (hex : ∀ sc n,STc sc→Cl n→Eqv XT (ex' sc n) (ex sc n)) {sc : Sc} (hsc : STc sc)
include hex hsc
theorem val_ok {n : Tree} (hn : Cl n) : Eqv XT (valC ex' sc n) (valC ex sc n) :=
 (hex sc n hsc hn).bind fun x hx=>Eqv.ite (fun _=>eqv_none) fun _=>eqv_some hx
theorem of_ok (k : Int) {n : Tree} (hn : Cl n) : Eqv XT (ofC ex' k sc n) (ofC ex k sc n) :=
 (val_ok hex hsc hn).bind fun x hx=>Eqv.ite (fun _=>eqv_some hx) fun _=>eqv_none
theorem values_ok {l : List Tree} (hl : AllCl l) (many : Nat) : Eqv AllTc (valuesC ex' sc l many) (valuesC ex sc l many) :=
 Eqv.ite (fun _=>(hex sc _ hsc (head_cl hl)).bind fun x hx=>Eqv.ite (fun _=>eqv_some hx.kids) fun _=>eqv_none)
  fun _=>Eqv.ite (fun _=>Eqv.mapM fun n hn=>(val_ok hex hsc (hl n hn)).map fun r hr=>⟨rfl,hr⟩) fun _=>eqv_none
theorem assign_ok {l to : List Tree} (hl : AllCl l) (ht : AllTc to) : Eqv (fun _=>True) (assignC (tbl++[xD]) ex' sc l to) (assignC tbl ex sc l to) :=
 (values_ok hex hsc hl _).bind fun fr hfr=>eqv_want (all_cg fun p hp=>more_assign (hfr _ (List.of_mem_zip (a:=p.1) (b:=p.2) hp).1) (ht _ (List.of_mem_zip (a:=p.1) (b:=p.2) hp).2))
theorem each_ok : ∀ {l to : List Tree},AllCl l→AllTc to→Eqv (fun _=>True) (eachC (tbl++[xD]) ex' sc l to) (eachC tbl ex sc l to)
 | [],_,_,_=>⟨rfl,fun _ _=>trivial⟩
 | _ :: _,[],_,_=>⟨rfl,fun _ _=>trivial⟩
 | a :: r,t :: ts,hl,ht=>by
  rw [eachC,eachC];exact (assign_ok hex hsc (fun x hx=>hl x (by rw [List.mem_singleton.1 hx];simp)) (AllTc.one (ht t lN))).bind fun _ _=>each_ok (fun x hx=>hl x mn) fun x hx=>ht x mn
theorem built_ok (how : Int) {args : List Tree} (ha : AllCl args) : Eqv XT (builtC (tbl++[xD]) ex' sc how args) (builtC tbl ex sc how args):=by
 have h0:=head_cl ha;refine Eqv.ite (fun _ => ?_) fun _=>Eqv.ite (fun _ => ?_) fun _=>Eqv.ite (fun _ => ?_) fun _ => ?_
 ·exact (eqv_want rfl).bind fun _ _=>(val_ok hex hsc h0).bind fun x hx=>(eqv_want rfl).map fun _ _=>⟨rfl,tk_tc 7⟩
 ·exact (eqv_want rfl).bind fun _ _=>(of_ok hex hsc 1 h0).map fun _ _=>⟨rfl,tk_tc 7⟩
 ·exact (eqv_want rfl).bind fun _ _=>(val_ok hex hsc h0).bind fun x hx=>(eqv_want rfl).map fun _ _=>⟨rfl,tk_tc 1⟩
 ·exact (eqv_want rfl).bind fun _ _=>(of_ok hex hsc 6 h0).bind fun s hs=>(assign_ok hex hsc (ha.drop 1) hs.kids).map fun _ _=>⟨rfl,hs⟩
include hT
theorem callee_ok {f : Tree} (hf : Cl f) : Eqv (fun c : Tree × Int=>Tc c.1) (calleeC (tbl++[xD]) ex' sc f) (calleeC tbl ex sc f):=by
 refine Eqv.ite (fun _ => ?_) fun _=>(val_ok hex hsc hf).map fun r hr=>⟨rfl,hr⟩
 refine (val_ok hex hsc (kid_cl hf 0)).bind fun r hr => ?_;have hr : Tc r.type:=hr;rw [more_methods hr,more_fields hr,more_struct hr.name,more_iface hr.name];cases hm : memF (methodsD tbl r.type) f.name with
 | some m=>exact (eqv_want rfl).map fun _ _=>⟨rfl,memF_tc (methods_tc hT _) hm⟩
 | none =>
  refine Eqv.map (P:=Tc) ⟨rfl,fun t ht=>lastF_tc (fields_tc hT _) ht⟩ fun t ht=>⟨rfl,ht⟩
theorem call_ok {n : Tree} (hn : Cl n) : Eqv XT (callC (tbl++[xD]) ex' sc n) (callC tbl ex sc n):=by
 refine Eqv.ite (fun _=>built_ok hex hsc _ (hn.all.drop 1)) fun _ => ?_;refine (callee_ok hT hex hsc (kid_cl hn 0)).bind fun c hc=>(eqv_want rfl).bind fun _ _ => ?_;refine (each_ok hex hsc (hn.all.drop 1) hc.kids).map fun _ _=>⟨rfl, ?_⟩
 have hd : AllTc (c.1.kids.drop c.1.num.toNat):=AllTc.drop hc.kids _
 match c.1.kids.drop c.1.num.toNat,hd with
 | [],hd=>exact No.mk xS_ne hd
 | [t],hd=>exact hd t lN
 | a :: b :: r,hd=>exact No.mk xS_ne hd
omit hT in
theorem unary_ok {n : Tree} (hn : Cl n) : Eqv XT (unaryC ex' sc n) (unaryC ex sc n):=by
 refine (val_ok hex hsc (kid_cl hn 0)).bind fun k hk => ?_;refine Eqv.ite (fun _=>(eqv_want rfl).map fun _ _=>⟨rfl,hk⟩) fun _=>Eqv.ite (fun _=>(eqv_want rfl).map fun _ _=>⟨rfl,hk⟩) fun _ =>
  Eqv.ite (fun _=>(eqv_want rfl).map fun _ _=>⟨rfl,kid0_tc hk⟩) fun _=>(eqv_want rfl).map fun _ _=>⟨rfl,No.mk xS_ne (AllTc.one hk)⟩
omit hT in
theorem binary_ok {n : Tree} (hn : Cl n) : Eqv XT (binaryC (tbl++[xD]) ex' sc n) (binaryC tbl ex sc n):=by
 refine (val_ok hex hsc (kid_cl hn 0)).bind fun a ha=>(val_ok hex hsc (kid_cl hn 1)).bind fun b hb => ?_;refine Eqv.ite (fun _=>(eqv_want (more_comp ha hb)).map fun _ _=>⟨rfl,tk_tc 2⟩) fun _=>Eqv.ite (fun _=>(eqv_want rfl).map fun _ _=>⟨rfl,tk_tc 2⟩) fun _ =>
  Eqv.ite (fun _=>(eqv_want rfl).map fun _ _=>⟨rfl,tk_tc 2⟩) fun _=>(eqv_want rfl).map fun _ _=>⟨rfl,ha⟩
theorem oper_ok {n : Tree} (hn : Cl n) : Eqv XT (operC (tbl++[xD]) ex' sc n) (operC tbl ex sc n):=by
 refine Eqv.ite (fun _ => ?_) fun _=>Eqv.ite (fun _ => ?_) fun _=>Eqv.ite (fun _ => ?_) fun _=>Eqv.ite (fun _=>unary_ok hex hsc hn) fun _=>binary_ok hex hsc hn
 ·refine (val_ok hex hsc (kid_cl hn 0)).bind fun k hk => ?_;have hk : Tc k.type:=hk;rw [more_fields hk];exact Eqv.map (P:=Tc) ⟨rfl,fun t ht=>lastF_tc (fields_tc hT _) ht⟩ fun t ht=>⟨rfl,ht⟩
 ·refine (val_ok hex hsc (kid_cl hn 0)).bind fun k hk=>(of_ok hex hsc 1 (kid_cl hn 1)).bind fun _ _ => ?_;exact Eqv.ite (fun _=>eqv_some (kid0_tc hk)) fun _=>Eqv.ite (fun _=>eqv_some (tk_tc 1)) fun _=>eqv_none
 ·refine (val_ok hex hsc (kid_cl hn 0)).bind fun k hk=>(Eqv.mapM (P:=XT) fun m hm=>of_ok hex hsc 1 (hn.all.drop 1 m hm)).bind fun _ _ => ?_;exact (eqv_want rfl).map fun _ _=>⟨rfl,hk⟩
end
theorem params_tc : ∀ {l : List (Str × Tree)} {s r : Names},NTc s→NTc l→paramsC s l=some r→NTc r
 | [],s,r,hs,_,h=>by
  rw [paramsC] at h;injection h with h
  rw [← h];exact hs
 | p :: l,s,r,hs,hl,h=>by
  rw [paramsC] at h;split at h
  ·cases h
  ·exact params_tc (s:=p :: s) (fun q hq=>by
    rcases List.mem_cons.1 hq with rfl | hq
    ·exact hl _ lN
    ·exact hs q hq) (fun q hq=>hl q (by simp [hq])) h
theorem sig_ok {tbl : List Decl} {recv : Names} (hr : NTc recv) {n : Tree} (hn : Cl n) : Eqv (fun s : Tree × Names=>Tc s.1∧NTc s.2) (sigC (tbl++[xD]) recv n) (sigC tbl recv n) :=
 (typ_ok hn).bind fun t ht=>Eqv.map (P:=NTc) ⟨rfl,fun r hr'=>params_tc NTc.nil (fun p hp=>by
  rcases List.mem_append.1 hp with hp | hp
  ·exact hr p hp
  ·exact ht.kids _ (List.of_mem_zip (a:=p.1) (b:=p.2) hp).2) hr'⟩ fun ps hps=>⟨rfl,ht,hps⟩
structure LvOk (lv' lv : Lv) : Prop where
 ex : ∀ sc n,STc sc→Cl n→Eqv XT (lv'.ex sc n) (lv.ex sc n)
 st : ∀ res w sc n,AllTc res→STc sc→Cl n→Eqv STc (lv'.st res w sc n) (lv.st res w sc n)
section
variable {tbl : List Decl} {fns' fns : Names} (hT : TOk tbl) (hF : NTc fns) (hG : ∀ x, ¬ x=yS→getN fns' x=getN fns x) {lv' lv : Lv} (hlv : LvOk lv' lv)
include hlv
theorem body_ok {t : Tree} {ps : Names} {sc : Sc} {n : Tree} (ht : Tc t) (hps : NTc ps) (hsc : STc sc) (hn : Cl n) : Eqv (fun _=>True) (bodyC lv' t ps sc n) (bodyC lv t ps sc n) :=
 (hlv.st _ 0 _ n (AllTc.drop ht.kids _) (hsc.cons hps) hn).bind fun _ _=>eqv_want rfl
include hT hF hG
theorem expr_ok {sc : Sc} (hsc : STc sc) {n : Tree} (hn : Cl n) : Eqv XT (exprC ⟨tbl++[xD],fns'⟩ lv' sc n) (exprC ⟨tbl,fns⟩ lv sc n):=by
 unfold exprC;refine Eqv.ite (fun _=>eqv_some (tk_tc 1)) fun _=>Eqv.ite (fun _=>eqv_some (tk_tc 3)) fun _=>Eqv.ite (fun _=>eqv_some (tk_tc 2)) fun _=>Eqv.ite (fun _=>eqv_some (tk_tc 8)) fun _ =>
  Eqv.ite (fun _ => ?_) fun _=>Eqv.ite (fun _ => ?_) fun _=>Eqv.ite (fun _ => ?_) fun _=>Eqv.ite (fun _ => ?_) fun _=>Eqv.ite (fun _=>call_ok hT hlv.ex hsc hn) fun _=>oper_ok hT hlv.ex hsc hn
 ·simp only;rw [hG _ hn.y.name];cases hl : lookS sc n.name with
  | some t=>exact eqv_some (lookS_tc hsc hl)
  | none=>exact Eqv.map (P:=Tc) ⟨rfl,fun t ht=>getN_tc hF ht⟩ fun t ht=>⟨rfl,ht⟩
 ·have hs : isStructD (tbl++[xD]) (.mk 4 n.name 0 [])=isStructD tbl (.mk 4 n.name 0 []):=more_struct (a := .mk 4 n.name 0 []) hn.x.name;simp only;rw [hs,more_the hn.x.name];refine (eqv_want rfl).bind fun _ _=>(eqv_want rfl).bind fun _ _=>(each_ok hlv.ex hsc hn.all fun t ht => ?_).map fun _ _=>⟨rfl,No.mk hn.x.name fun _ h=>by cases h⟩
  obtain ⟨f,hf,rfl⟩:=List.mem_map.1 ht;exact (the_ok hT _).fields f hf
 ·refine (typ_ok (kid_cl hn 0)).bind fun t ht=>(each_ok hlv.ex hsc (hn.all.drop 1) fun x hx => ?_).map fun _ _=>⟨rfl,No.mk xS_ne (AllTc.one ht)⟩
  obtain ⟨_,_,rfl⟩:=List.mem_map.1 hx;exact ht
 ·refine (sig_ok NTc.nil (kid_cl hn 0)).bind fun s hs => ?_;refine Eqv.bind (P:=Cl) ⟨rfl,fun b hb=>hn.kids (List.mem_of_getElem? hb)⟩ fun b hb => ?_;exact (body_ok hlv hs.1 hs.2 hsc hb).map fun _ _=>⟨rfl,hs.1⟩
omit hT hF hG hlv in
theorem declAll_ok : ∀ {l : List (Str × Tree)} {sc : Sc},STc sc→NTc l→Eqv STc (declAll sc l) (declAll sc l)
 | [],sc,h,_=>by rw [declAll];exact eqv_some h
 | p :: l,sc,h,hl=>by
  rw [declAll];exact (declC_ok h (hl p lN)).bind fun sc' h'=>declAll_ok h' fun q hq=>hl q (by simp [hq])
omit hT hF hG hlv in
theorem stmts_ok {st' st : Sc→Tree→Option Sc} (h : ∀ sc n,STc sc→Cl n→Eqv STc (st' sc n) (st sc n)) : ∀ {l : List Tree} {sc : Sc},STc sc→AllCl l→Eqv STc (stmtsC st' sc l) (stmtsC st sc l)
 | [],sc,hs,_=>by rw [stmtsC,stmtsC];exact eqv_some hs
 | n :: l,sc,hs,hl=>by
  rw [stmtsC,stmtsC];exact (h sc n hs (hl n lN)).bind fun sc' hs'=>stmts_ok h hs' fun q hq=>hl q (by simp [hq])
omit hT hF hG in
theorem stmt_ok {res : List Tree} (hres : AllTc res) (w : Nat) {sc : Sc} (hsc : STc sc) {n : Tree} (hn : Cl n) : Eqv STc (stmtC ⟨tbl++[xD],fns'⟩ lv' res w sc n) (stmtC ⟨tbl,fns⟩ lv res w sc n):=by
 unfold stmtC;have hex:=hlv.ex;refine Eqv.ite (fun _ => ?_) fun _=>Eqv.ite (fun _ => ?_) fun _=>Eqv.ite (fun _ => ?_) fun _=>Eqv.ite (fun _ => ?_) fun _=>Eqv.ite (fun _ => ?_) fun _=>Eqv.ite (fun _ => ?_) fun _=>Eqv.ite (fun _ => ?_) fun _=>Eqv.ite (fun _ => ?_) fun _=>(eqv_want rfl).map fun _ _=>⟨rfl,hsc⟩
 ·exact (stmts_ok (fun sc n h1 h2=>hlv.st res w sc n hres h1 h2) (hsc.cons NTc.nil) hn.all).map fun _ _=>⟨rfl,hsc⟩
 ·refine (typ_ok (kid_cl hn 0)).bind fun t ht => ?_;refine Eqv.bind (P:=fun _=>True) (Eqv.ite (fun _=>assign_ok hex hsc (hn.all.drop 1) (AllTc.one ht)) fun _=>eqv_some trivial) fun _ _=>declC_ok hsc ht
 ·refine (values_ok hex hsc (hn.all.drop _) _).bind fun ts hts=>declAll_ok hsc fun p hp=>hts _ (List.of_mem_zip (a:=p.1) (b:=p.2) hp).2
 ·refine Eqv.bind (P:=AllTc) (Eqv.mapM fun p hp=>(val_ok hex hsc (hn.all.take _ p hp)).bind fun x hx=>(eqv_want rfl).map fun _ _=>⟨rfl,hx⟩) fun ts hts => ?_;exact (assign_ok hex hsc (hn.all.drop _) hts).map fun _ _=>⟨rfl,hsc⟩
 ·exact (hex sc _ hsc (kid_cl hn 0)).bind fun x hx=>(eqv_want rfl).map fun _ _=>⟨rfl,hsc⟩
 ·exact (assign_ok hex hsc hn.all hres).map fun _ _=>⟨rfl,hsc⟩
 ·refine (of_ok hex hsc 2 (kid_cl hn 0)).bind fun _ _ => ?_;exact (stmts_ok (fun sc n h1 h2=>hlv.st res w sc n hres h1 h2) hsc (hn.all.drop 1)).map fun _ _=>⟨rfl,hsc⟩
 ·refine Eqv.bind (P:=fun _=>True) (Eqv.ite (fun _=>(of_ok hex hsc 2 (kid_cl hn 0)).map fun _ _=>⟨rfl,trivial⟩) fun _=>eqv_some trivial) fun _ _ => ?_;refine Eqv.bind (P:=Cl) ⟨rfl,fun b hb=>hn.kids (List.mem_of_getLast? hb)⟩ fun b hb => ?_;exact (hlv.st res (w + 1) sc b hres hsc hb).map fun _ _=>⟨rfl,hsc⟩
end
theorem lvl_blind {tbl : List Decl} {fns' fns : Names} (hT : TOk tbl) (hF : NTc fns) (hG : ∀ x, ¬ x=yS→getN fns' x=getN fns x) : ∀ n,LvOk (lvl ⟨tbl++[xD],fns'⟩ n) (lvl ⟨tbl,fns⟩ n)
 | 0=>⟨fun _ _ _ _=>eqv_none,fun _ _ _ _ _ _ _=>eqv_none⟩
 | n + 1=>⟨fun sc k hsc hk=>expr_ok hT hF hG (lvl_blind hT hF hG n) hsc hk,fun res w sc k hr hsc hk=>stmt_ok (lvl_blind hT hF hG n) hr w hsc hk⟩
end Go.Ck
namespace Go.Ck
open Go.Sep
def xT : Tree := .mk 2 xS 0 [.mk 6 [117,110,117,115,101,100,70,105,101,108,100] 0 [.mk 11 [] 0 [.mk 10 xS 0 []]]]
def intN : Tree := .mk 10 [105,110,116] 0 []
def ySig : Tree := .mk 7 [] 1 [.mk 8 [97] 0 [intN],intN]
def yBlk : Tree := .mk 20 [] 0 [.mk 27 [] 0 [.mk 44 [97] 0 []]]
def yT : Tree := .mk 4 yS 0 [ySig,yBlk]
def addS : Str:=[116,121,112,101,32,85,110,117,115,101,100,84,121,112,101,32,115,116,114,117,99,116,32,123,32,117,110,117,115,101,100,70,105,101,108,100,32,42,85,110,117,115,101,100,84,121,112,101,59,32,125,32,102,117,110,99,32,117,110,117,115,101,100,70,117,110,99,116,105,111,110,40,97,32,105,110,116,41,32,105,110,116,32,123,32,114,101,116,117,114,110,32,97,59,32,125]
theorem declOf_x : declOf xT=xD:=uK
def yTy : Tree := .mk 7 [] 1 [tk 1,tk 1]
theorem y_of : (ofRes ySig).1=yTy:=uK
theorem y_known (has : Str→Bool) : tknown has yTy=true:=by
 simp [yTy,tk,tknown,tknownL]
theorem y_sig (tbl : List Decl) : sigC tbl [] ySig=some (yTy,[([97],tk 1)]):=by
 unfold sigC typC;rw [y_of,y_known];rfl
theorem y_int (has : Str→Bool) : tknown has (tk 1)=true:=by simp [tk,tknown,tknownL]
theorem y_assign (tbl : List Decl) : tassignB tbl (tk 1) (tk 1)=true:=by
 rw [tassignB,y_int,if_neg lO];have : teq (tk 1) (tk 1)=true:=lO;rw [this];rfl
theorem y_body (e : Env) (n : Nat) : bodyC (lvl e (n + 3)) yTy [([97],tk 1)] [] yBlk=some ():=by
 have h1 : ∀ lv : Lv,assignC e.tbl (exprC e lv) [[],[([97],tk 1)]] [.mk 44 [97] 0 []] [tk 1]=some ():=fun lv=>by
  have h0 : valuesC (exprC e lv) [[],[([97],tk 1)]] [.mk 44 [97] 0 []] 1=some [tk 1]:=rfl;rw [assignC];show (valuesC (exprC e lv) [[],[([97],tk 1)]] [.mk 44 [97] 0 []] 1).bind _=_;rw [h0];simp only [Option.bind_some,List.zip_cons_cons,List.zip_nil_right,cn,List.all_nil,y_assign];rfl
 have h2 : (lvl e (n + 3)).st (yTy.kids.drop yTy.num.toNat) 0 [[([97],tk 1)]] yBlk=some [[([97],tk 1)]]:=by
  show ((((assignC e.tbl (exprC e (lvl e n)) [[],[([97],tk 1)]] [.mk 44 [97] 0 []] [tk 1]).map fun _=>([[],[([97],tk 1)]] : Sc)).bind (fun sc'=>some sc')).map (fun _=>([[([97],tk 1)]] : Sc)))=_;rw [h1];rfl
 rw [bodyC,h2];have h3 : endsD 200 yBlk=true:=uK;simp only [Option.bind_some,h3,cr];rfl
theorem anyI_cg {α : Type} {p q : Nat → α → Bool} : ∀ {l : List α} {k : Nat},(∀ x ∈ l, ∀ j,p j x=q j x)→anyI p l k=anyI q l k
 | [],_,_=>rfl
 | x :: l,k,h=>by rw [anyI,anyI,h x lN,anyI_cg fun y hy=>h y mo]
theorem any_cg {α : Type} {p q : α → Bool} : ∀ {l : List α},(∀ x ∈ l,p x=q x)→l.any p=l.any q
 | [],_=>rfl
 | x :: l,h=>by rw [List.any_cons,List.any_cons,h x lN,any_cg fun y hy=>h y mo]
theorem xD_form : formD xD=false:=uK
theorem typeD_x (l : List Decl) : typeD (l++[xD]) xD=false:=by
 rw [typeD];have h1 : (xD.all.map Fld.name).Nodup:=lO;have h2 : hasD (l++[xD]) xS=true:=by
  rw [has_snoc,bP (show xD.name=xS from rfl),cr]
 have h3 : tknown (hasD (l++[xD])) (.mk 5 [] 0 [.mk 4 xS 0 []])=true:=by
  simp [tknown,tknownL,h2]
 rw [bP h1];refine (Bool.or_eq_false_iff).2 ⟨rfl,anyI_no fun j f hf => ?_⟩;have hx : f = ⟨[117,110,117,115,101,100,70,105,101,108,100], .mk 5 [] 0 [.mk 4 xS 0 []]⟩:=by
  match j,hf with
  | 0,hf=>exact (Option.some.inj hf).symm
  | j + 1,hf=>exact absurd hf (by simp [xD,Decl.all])
 rw [hx,badK,h3];simp [isStructD,Tree.kind]
theorem soundE_more {l : List Decl} (h : TOk l) : soundE (l++[xD])=4 ∨ soundE (l++[xD])=soundE l:=by
 by_cases hL : largeB (l++[xD])=true
 ·exact .inl (soundE_large hL)
 ·right;have hl : largeB l=false:=by
   rw [Bool.not_eq_true] at hL;rw [largeB,Bool.or_eq_false_iff] at hL ⊢;have:=of_decide_eq_false hL.1;rw [a6] at this;refine ⟨bQ (by simp only [a7,a8] at this;omega), ?_⟩;have h2:=hL.2;rw [List.any_append,Bool.or_eq_false_iff] at h2;exact h2.1
  have hf : (l++[xD]).any formD=l.any formD:=by
   rw [List.any_append,List.any_cons,xD_form,List.any_nil];simp
  have ht : typeB (l++[xD])=typeB l:=by
   rw [typeB,typeB]
   congr 1
   ·congr 1
    rw [Bool.eq_iff_iff,bu,bu,co,List.nodup_append];constructor
    ·exact fun h=>h.1
    ·refine fun hn=>⟨hn,by simp,fun a ha b hb e => ?_⟩
     obtain ⟨d,hd,rfl⟩:=List.mem_map.1 ha;have hb : b=xD.name:=by simpa using hb
     exact (h d hd).name (e.trans hb)
   ·rw [List.any_append,List.any_cons,typeD_x,List.any_nil,Bool.or_false,Bool.or_false];refine any_cg fun d hd => ?_;rw [typeD,typeD]
    congr 1
    refine anyI_cg fun f hf j => ?_;have hc:=(h d hd).all f hf;rw [badK,badK,more_known l _ hc,more_struct hc.name]
  rw [Bool.not_eq_true] at hL;unfold soundE;rw [hL,hl,hf,ht]
theorem addM_snoc (x : Str) (f : Fld) (hx : ¬ x=xS) : ∀ l : List Decl,addM (l++[xD]) x f=(addM l x f).map (· ++ [xD])
 | []=>by
  show addM [xD] x f=none;rw [addM,if_neg (fun h=>hx h.1.symm)];rfl
 | d :: l=>by
  show addM (d :: (l++[xD])) x f=_;rw [addM,addM,addM_snoc x f hx l];split
  ·rfl
  ·cases addM l x f <;> rfl
theorem fld_tc {n : Str} {t : Tree} (h : Tc t) : Tc (Fld.mk n t).type:=h
theorem addM_ok {x n0 : Str} {t0 : Tree} (hf : Tc t0) : ∀ {l r : List Decl},TOk l→addM l x ⟨n0,t0⟩ = some r→TOk r
 | [],r,_,h=>by cases h
 | d :: l,r,hl,h=>by
  rw [addM] at h;split at h
  ·cases h;intro e he;rcases List.mem_cons.1 he with rfl | he
   ·have hd:=hl d lN;refine ⟨hd.name,hd.fields,fun g hg => ?_⟩;rcases List.mem_append.1 hg with hg | hg
    ·exact hd.methods g hg
    ·rw [List.mem_singleton.1 hg];exact hf
   ·exact hl e (by simp [he])
  ·cases hr : addM l x ⟨n0,t0⟩ with
   | none=>rw [hr] at h;cases h
   | some q =>
    rw [hr] at h;obtain rfl : d :: q=r:=l5;intro e he;rcases List.mem_cons.1 he with rfl | he
    ·exact hl _ lN
    ·exact addM_ok hf (fun e he=>hl e (by simp [he])) hr e he
theorem methodsC_snoc : ∀ (ks : List Tree) (l : List Decl),AllCl ks→TOk l→methodsC (l++[xD]) ks=(methodsC l ks).map (· ++ [xD]) ∧ ∀ r,methodsC l ks=some r→TOk r
 | [],l,_,hl=>by
  refine ⟨rfl,fun r h => ?_⟩;cases h;exact hl
 | n :: ks,l,hk,hl=>by
  have hks : AllCl ks:=fun x hx=>hk x mn;have hn:=hk n lN;rw [methodsC,methodsC];split
  ·have hx : ¬ recvD n=xS:=(kid_cl (kid_cl (kid_cl hn 0) 0) 0).x.name;have hf:=ofRes_tc (kid_cl hn 1);rw [addM_snoc _ _ hx];cases hr : addM l (recvD n) ⟨n.name,(ofRes (kid n 1)).1⟩ with
   | none=>exact ⟨rfl,fun r h=>by cases h⟩
   | some q=>exact methodsC_snoc ks q hks (addM_ok hf hl hr)
  ·exact methodsC_snoc ks l hks hl
theorem declOf_ok {n : Tree} (h : Cl n) : DOk (declOf n):=by
 unfold declOf;have hm : ∀ f ∈ n.kids.map fldOf,Tc f.type:=fun f hf=>by
  obtain ⟨k,hk,rfl⟩:=List.mem_map.1 hf;exact fld_tc (ofRes_tc (kid_cl (h.kids hk) 0))
 split
 ·exact ⟨h.x.name,(fun _ h=>by cases h),hm⟩
 ·exact ⟨h.x.name,hm,fun _ h=>by cases h⟩
theorem table_adds {ds : List Tree} (hds : AllCl ds) (k k' u u' : Int) (n n' : Str) :
  tableD (.mk k' n' u' (ds++[xT,yT])) = .error 4 ∨ (∃ c,tableD (.mk k n u ds) = .error c∧tableD (.mk k' n' u' (ds++[xT,yT])) = .error c) ∨
   ∃ tbl,TOk tbl∧tableD (.mk k n u ds) = .ok tbl∧tableD (.mk k' n' u' (ds++[xT,yT])) = .ok (tbl++[xD]):=by
 have e1 : ((ds++[xT,yT]).filter fun n=>decide (n.kind=2) || decide (n.kind=3))=(ds.filter fun n=>decide (n.kind=2) || decide (n.kind=3))++[xT]:=by
  rw [List.filter_append];rfl
 have e2 : methodsC (((ds.filter fun n=>decide (n.kind=2) || decide (n.kind=3)).map declOf)++[xD]) (ds++[xT,yT])=methodsC (((ds.filter fun n=>decide (n.kind=2) || decide (n.kind=3)).map declOf)++[xD]) ds:=by
  rw [methodsC_filter (ds++[xT,yT]),methodsC_filter ds,List.filter_append];have : ([xT,yT].filter fun n=>decide (n.kind=5))=[]:=rfl;rw [this,bY]
 have hl0 : TOk ((ds.filter fun n=>decide (n.kind=2) || decide (n.kind=3)).map declOf):=fun d hd=>by
  obtain ⟨t,ht,rfl⟩:=List.mem_map.1 hd;exact declOf_ok (hds t (List.mem_filter.1 ht).1)
 obtain ⟨h1,h2⟩:=methodsC_snoc ds _ hds hl0;unfold tableD;simp only [Tree.kids];rw [e1,co,bG,bH,declOf_x,e2,h1];cases hm : methodsC ((ds.filter fun n=>decide (n.kind=2) || decide (n.kind=3)).map declOf) ds with
 | none=>exact .inr (.inl ⟨5,rfl,rfl⟩)
 | some l =>
  have hl:=h2 l hm;simp only [cq];rcases soundE_more hl with h4 | h4
  ·left;rw [h4];rfl
  ·rw [h4];by_cases h0 : soundE l=0
   ·right;right;exact ⟨l,hl,by rw [if_pos h0],by rw [if_pos h0]⟩
   ·right;left;exact ⟨if soundE l=2 then 5 else soundE l,by rw [if_neg h0],by rw [if_neg h0]⟩
structure HOk (q : Names × List (Tree × Names × Tree)) : Prop where
 tc : NTc q.1
 ne : ∀ p ∈ q.1, ¬ p.1=yS
 bs : ∀ b ∈ q.2,Tc b.1∧NTc b.2.1∧Cl b.2.2
theorem heads_ok {tbl : List Decl} : ∀ (ds : List Tree) (fns : Names) (bs : List (Tree × Names × Tree)),AllCl ds→HOk (fns,bs)→Eqv HOk (headsC (tbl++[xD]) fns bs ds) (headsC tbl fns bs ds)
 | [],fns,bs,_,h=>by rw [headsC,headsC];exact eqv_some h
 | n :: ds,fns,bs,hd,h=>by
  have hds : AllCl ds:=fun x hx=>hd x mn;have hn:=hd n lN;have hsn : ∀ {l : List (Tree × Names × Tree)} {b : Tree × Names × Tree},(∀ b ∈ l,Tc b.1∧NTc b.2.1∧Cl b.2.2)→Tc b.1∧NTc b.2.1∧Cl b.2.2 → ∀ x ∈ l++[b],Tc x.1∧NTc x.2.1∧Cl x.2.2:=fun h1 h2 x hx=>by
   rcases List.mem_append.1 hx with hx | hx
   ·exact h1 x hx
   ·rw [List.mem_singleton.1 hx];exact h2
  rw [headsC,headsC];refine Eqv.ite (fun _=>Eqv.ite (fun _=>eqv_none) fun _ => ?_) fun _=>Eqv.ite (fun _ => ?_) fun _=>heads_ok ds fns bs hds h
  ·refine (sig_ok NTc.nil (kid_cl hn 0)).bind fun s hs=>heads_ok ds _ _ hds ⟨NTc.cons h.tc hs.1,fun p hp => ?_,hsn h.bs ⟨hs.1,hs.2,kid_cl hn 1⟩⟩;rcases List.mem_cons.1 hp with rfl | hp
   ·exact hn.y.name
   ·exact h.ne p hp
  ·refine (sig_ok (recv:=[((kid n 0).name, .mk 5 [] 0 [.mk 4 (recvD n) 0 []])]) (fun p hp => ?_) (kid_cl hn 1)).bind fun s hs=>heads_ok ds _ _ hds ⟨h.tc,h.ne,hsn h.bs ⟨hs.1,hs.2,kid_cl hn 2⟩⟩;rw [List.mem_singleton.1 hp];exact No.mk xS_ne (AllTc.one (No.mk (kid_cl (kid_cl (kid_cl hn 0) 0) 0).x.name fun _ h=>by cases h))
theorem headsC_append (tbl : List Decl) (r : List Tree) : ∀ (l : List Tree) (fns : Names) (bs : List (Tree × Names × Tree)),headsC tbl fns bs (l++r)=(headsC tbl fns bs l).bind fun q=>headsC tbl q.1 q.2 r
 | [],fns,bs=>rfl
 | n :: l,fns,bs=>by
  show headsC tbl fns bs (n :: (l++r))=_;rw [headsC,headsC];split
  ·split
   ·rfl
   ·cases sigC tbl [] (kid n 0) with
    | none=>rfl
    | some s=>exact headsC_append tbl r l _ _
  ·split
   ·cases sigC tbl [((kid n 0).name, .mk 5 [] 0 [.mk 4 (recvD n) 0 []])] (kid n 1) with
    | none=>rfl
    | some s=>exact headsC_append tbl r l _ _
   ·exact headsC_append tbl r l _ _
theorem heads_xy (tbl : List Decl) {fns : Names} (hf : getN fns yS=none) (bs : List (Tree × Names × Tree)) : headsC tbl fns bs [xT,yT]=some ((yS,yTy) :: fns,bs++[(yTy,[([97],tk 1)],yBlk)]):=by
 have h1 : ¬ ((getN fns yT.name).isSome=true ∨ 0 < builtinD yT.name):=by
  have hb : builtinD yT.name = -1:=uK;rw [hb,show yT.name=yS from rfl,hf];simp
 rw [headsC,if_neg (show ¬ xT.kind=4 by decide),if_neg (show ¬ xT.kind=5 by decide),headsC,if_pos (show yT.kind=4 by decide),if_neg h1];show (sigC tbl [] ySig).bind _=_;rw [y_sig];rfl
theorem adds_chk {ds : List Tree} (hds : AllCl ds) (k k' u u' : Int) (n n' : Str) :
  chkD (.mk k' n' u' (ds++[xT,yT]))=chkD (.mk k n u ds) ∨ chkD (.mk k' n' u' (ds++[xT,yT]))=4:=by
 unfold chkD;rcases table_adds hds k k' u u' n n' with h | ⟨c,h1,h2⟩ | ⟨tbl,hT,h1,h2⟩
 ·right;rw [h]
 ·left;rw [h1,h2]
 ·left;rw [h1,h2];simp only [Tree.kids];rw [headsC_append];obtain ⟨e,hP⟩:=heads_ok (tbl:=tbl) ds [] [] hds ⟨NTc.nil,(fun _ h=>by cases h),fun _ h=>by cases h⟩;rw [e];cases hh : headsC tbl [] [] ds with
  | none=>rfl
  | some q =>
   obtain ⟨fns,bs⟩:=q;have hq:=hP _ hh;have hy : getN fns yS=none:=by
    cases hg : getN fns yS with
    | none=>rfl
    | some t=>exact absurd rfl (hq.ne _ (getN_mem hg))
   refine la ?_;rw [heads_xy _ hy];have hG : ∀ x, ¬ x=yS→getN ((yS,yTy) :: fns) x=getN fns x:=fun x hx=>by
    rw [getN_cons,if_neg fun e=>hx e.symm]
   have hB : (bs++[(yTy,[(([97] : Str),tk 1)],yBlk)]).all (fun b=>(bodyC (lvl ⟨tbl++[xD],(yS,yTy) :: fns⟩ 200) b.1 b.2.1 [] b.2.2).isSome)=bs.all fun b=>(bodyC (lvl ⟨tbl,fns⟩ 200) b.1 b.2.1 [] b.2.2).isSome:=by
    have h1 : (bodyC (lvl ⟨tbl++[xD],(yS,yTy) :: fns⟩ 200) yTy [(([97] : Str),tk 1)] [] yBlk).isSome=true:=by
     rw [y_body _ 197];rfl
    rw [List.all_append,cn,h1];rw [show ([] : List (Tree × Names × Tree)).all (fun b=>(bodyC (lvl ⟨tbl++[xD],(yS,yTy) :: fns⟩ 200) b.1 b.2.1 [] b.2.2).isSome)=true from rfl,Bool.and_true,Bool.and_true];refine all_cg fun b hb => ?_;obtain ⟨b1,b2,b3⟩:=hq.bs b hb;rw [(body_ok (lvl_blind hT hq.tc hG 200) b1 b2 (fun _ h=>by cases h) b3).1]
   simp only;rw [hB,hG [109,97,105,110] lO]
end Go.Ck
namespace Go.Sep
open Go.Proofs Go.Ck
attribute [local irreducible] TC TO OT TCallX TCall DO DOt thenQ blockQ retQ At
theorem names_law (n : Str) (a : Tree) : ∀ (m : Mem) (L : List Item) (h : HTree) (hr : TreeRep m h a),TCall Tryz.prog 17 ⟨[treeV h,strV n]⟩ m L (Ret (.bool (namedB n a)) m L):=by
 induction a using Tree.ind with
 | h a ih =>
 intro m L h hr;obtain ⟨h1,h2,h3,h4⟩:=hr;have hl:=h4.len;have hsm:=h4.small rfl;rw [namedB_eq,namedBL_eq,← h2];unfold TCall;refine ak Tryz.func17 24 ?_;refine az (fun b => ?_);refine an (fun e1 => ?_) (fun e1 => ?_)
 ·refine uA ?_;exact fE
 ·refine uA ?_;refine cD (ι:=Nat) [1,2] rfl (fun k=>[(5, .int .i64 (k : Int))]) (fun _=>m) (fun _ => .cells b 0 (treeC h) :: L) (fun k=>k ≤ a.kids.length∧(a.kids.take k).any (namedB n)=false) (fun k=>a.kids.length - k) 0 uH rfl uS ⟨ci _,rfl⟩ ?_;rintro k ⟨hk,hI⟩;refine uL ?_;refine an (fun hlt' => ?_) (fun hlt' => ?_)
  ·have hlt : k < a.kids.length:=lM;have hx : a.kids[k]? = some a.kids[k]:=lU;have hmem:=bK hlt;refine uL ?_;refine jr ?_;rintro b' i' h' hrd hA
   (first | refine qs rfl (OT.loadA tab hA rfl rfl rfl rfl rfl ?_) | refine oL tab hA ?_)
   refine uA ?_;refine ar goes17 (ih _ hmem _ _ h' (rTree_iff.1 hrd)) ?_;refine aN (t:=namedB n a.kids[k]) (fun e9 => ?_) (fun e9 => ?_)
   ·refine uA ?_;refine iT ?_;rw [any_hit hlt e9,cr]
   ·refine uA ?_;refine iV ?_;exact ⟨k + 1,uH,uH,rfl,rfl,uS,⟨by omega,any_take hlt hI e9⟩,by omega⟩
  ·rw [cg lM] at hI;refine jo ?_;rw [bQ e1,hI];rfl
def addT : Tree := .mk 1 [] 0 [xT,yT]
theorem parse_add : parseD addS = ⟨addT,0,0⟩:=uK
theorem add_wide : wideL [xT,yT] ≤ 140737488355328:=by decide
theorem wideL_append {l r : List Tree} {B : Nat} (h1 : wideL l ≤ B) (h2 : wideL r ≤ B) : wideL (l++r) ≤ B:=by
 induction l with
 | nil=>exact h2
 | cons x l ih =>
  simp only [bI,wideL] at h1 ⊢;have:=ih lM;omega
theorem addA {α : Type} {a b c : α} {L : List α} : (a :: b :: c :: L).Perm (b :: c :: a :: L):=lQ
theorem addC {α : Type} {a b c d : α} {L : List α} : (a :: b :: c :: d :: L).Perm (b :: c :: d :: a :: L):=lQ
theorem checkAdds_walk (m : Mem) (L : List Item) (a : Tree) (h : HTree) (hE : Errs m) (hr : TreeRep m h a) (hw : a.wide ≤ 140737488355328) :
  TCall Tryz.prog 6 ⟨[treeV h]⟩ m L (Made m L fun r _=>r = .bool true):=by
 unfold TCall;refine cG Tryz.func6 rfl 56 rfl ?_;have hr0:=hr;obtain ⟨h1,h2,h3,h4⟩:=hr;have hlen:=h4.len;refine uA ?_;refine oB (fun b1 => ?_);refine uA ?_;refine oC goes14 ((parse_law program_ne _ _ addS hE).x ?_);rw [parse_add];rintro _ m1 _ ⟨hm1,rfl,x,rfl,hx⟩;replace hx : TreeRep m1 x addT:=hx;refine uA ?_;refine aD tab (fun b3 => ?_);refine iS ?_;refine oC goes10 ((awake5_law _ _ (hE.mono hm1)).x ?_);rintro _ m2 _ ⟨hm2,rfl,rfl⟩;have hm12:=cz hm1 hm2;refine uL ?_;refine ar goes16 (sound_law a _ _ _ (hr0.mono hm12) hw) ?_;refine aF (b := !soundB a) (fun e1 => ?_) (fun e1 => ?_)
 ·exact eT
 have hsd : soundB a=true:=by simpa using e1
 have hp:=snd_of hsd;have hkl:=kids_le a;have hps:=hp.size;refine uL ?_;refine ar goes17 (names_law xS a _ _ _ (hr0.mono hm12)) ?_;refine aF (b:=namedB xS a) (fun e2 => ?_) (fun e2 => ?_)
 ·exact eT
 refine uL ?_;refine ar goes17 (names_law yS a _ _ _ (hr0.mono hm12)) ?_;refine aN (t:=namedB yS a) (fun e3 => ?_) (fun e3 => ?_)
 ·exact eT
 have hcl : AllCl a.kids:=(Cl.mk e2 e3).all;refine uB ?_;have hk : SlRep rTree m2 h.kids a.kids:=h4.mono hm12;have hy : SlRep rTree m2 x.kids [xT,yT]:=hx.kids.mono hm2;refine TC.cutT (ι:=Nat × Sl × Mem) [1] rfl (fun y=>[(6, .pointer (some ⟨y.1,0,none⟩))]) (fun y=>y.2.2) (fun y => .cells b1 0 (treeC h) :: .cells y.1 0 (treeC ⟨1,[],0,y.2.1⟩) :: L) (fun y=>m2 ≤ y.2.2∧SlRep rTree y.2.2 y.2.1 (a.kids++[xT,yT])) ?_ (fun y hy => ?_)
 ·refine aK [9] cZ 10 [.cells b3 0 (treeC x), .cells b1 0 (treeC h)] L (a9 _) ?_;refine cQ tab uC uK [1,4] uK rfl ?_;refine ae (k:=3) 2 1 ?_;refine ae (k:=3) 5 0 ?_;refine DO.fork 0 [8] uK ⟨⟨_,rfl,rfl,rfl, ?_⟩,⟨_,rfl,rfl,rfl, ?_⟩,trivial⟩
  ·skip;refine cY tab rTree (hs:=[]) (l:=[]) trivial rfl rfl rfl rfl rfl lO (fun s0 m3 hm3 hs0 ho0 hc0 => ?_);refine ⟨hm3,_,a9 _, ?_⟩;refine DO.fork 3 [8] uK ⟨⟨_,rfl,rfl,rfl, ?_⟩,⟨_,rfl,rfl,rfl, ?_⟩,trivial⟩
   ·skip;refine OT.tokFo hc0 ho0 4 (cP tab rTree 0 hs0 ho0 (hk.mono hm3) rfl rfl rfl rfl rfl rfl rfl nC (fun s1 m4 hm4 hs1 ho1 => ?_));refine ⟨hm4,(tok s1 4 :: L),addA, ?_⟩;refine DO.fork 6 [8] uK ⟨⟨_,rfl,rfl,rfl, ?_⟩,⟨_,rfl,rfl,rfl, ?_⟩,trivial⟩
    ·skip;refine cP tab rTree 2 hs1 ho1 ((hy.mono hm3).mono hm4) rfl rfl rfl rfl rfl rfl rfl lX (fun s2 m5 hm5 hs2 ho2 => ?_);refine ⟨hm5,(tok s2 4 :: L),a9 _, ?_⟩;refine lD ?_;refine af 8 ?_;refine OT.alloc tab rfl rfl rfl rfl (fun b6 => ?_);refine ⟨cy _, .cells b6 0 [.int .i64 0,strV [], .int .i64 0, .slice none 0 0] :: tok s2 4 :: L,addA, ?_⟩;refine cR ?_;refine aB 9 ?_;refine aE 2 ?_;refine aI ?_;refine cB ?_;exact ⟨(b6,s2,m5),uH,uH,rfl,rfl,uS,cz hm3 (cz hm4 hm5),by rw [bJ] at hs2;exact hs2⟩
    ·skip;refine OT.alloc tab rfl rfl rfl rfl (fun b6 => ?_);refine ⟨cy _, .cells b6 0 [.int .i64 0,strV [], .int .i64 0, .slice none 0 0] :: tok s1 4 :: L,addA, ?_⟩;exact dR
   ·skip;refine OT.alloc tab rfl rfl rfl rfl (fun b6 => ?_);refine ⟨cy _, .cells b6 0 [.int .i64 0,strV [], .int .i64 0, .slice none 0 0] :: L,addA, ?_⟩;refine af 3 ?_;refine OT.tokFo hc0 ho0 4 (cP tab rTree 0 hs0 ho0 (hk.mono hm3) rfl rfl rfl rfl rfl rfl rfl nC (fun s1 m4 hm4 hs1 ho1 => ?_));refine ⟨hm4,(.cells b6 0 [.int .i64 0,strV [], .int .i64 0, .slice none 0 0] :: tok s1 4 :: L),addC, ?_⟩;exact dR
  ·skip;refine OT.alloc tab rfl rfl rfl rfl (fun b6 => ?_);refine ⟨cy _, .cells b6 0 [.int .i64 0,strV [], .int .i64 0, .slice none 0 0] :: L,addA, ?_⟩;refine af 0 ?_;refine cY tab rTree (hs:=[]) (l:=[]) trivial rfl rfl rfl rfl rfl lO (fun s0 m3 hm3 hs0 ho0 hc0 => ?_);refine ⟨hm3,_,a9 _, ?_⟩;refine af 3 ?_;refine OT.tokFo hc0 ho0 4 (cP tab rTree 0 hs0 ho0 (hk.mono hm3) rfl rfl rfl rfl rfl rfl rfl nC (fun s1 m4 hm4 hs1 ho1 => ?_));refine ⟨hm4,(.cells b6 0 [.int .i64 0,strV [], .int .i64 0, .slice none 0 0] :: tok s1 4 :: L),addC, ?_⟩;exact dR
 obtain ⟨b6,s2,m5⟩:=y;obtain ⟨hm5,hs⟩:=hy;simp only at hm5 hs;have hm05:=cz hm12 hm5;have hwk : (Tree.mk 1 [] 0 (a.kids++[xT,yT])).wide ≤ 140737488355328:=by
  have h5 : wideL a.kids ≤ 140737488355328:=by
   have : a.wide=max a.name.length (wideL a.kids):=by obtain ⟨_,_,_,_⟩:=a;rfl
   omega
  have:=wideL_append h5 add_wide;simp only [Tree.wide,a8];omega
 have ha : a = .mk 1 [] 0 a.kids:=by
  obtain ⟨k,n,u,ks⟩:=a;obtain ⟨g1,g2,g3⟩:=hp.one;simp only [Tree.kind,Tree.name,Tree.num] at g1 g2 g3;subst g1 g2 g3;rfl
 have hM : TreeRep m5 ⟨1,[],0,s2⟩ (.mk 1 [] 0 (a.kids++[xT,yT])):=⟨rfl,rfl,rfl,hs⟩
 have hadd : soundB (.mk 1 [] 0 (a.kids++[xT,yT]))=true → ∃ c d,chkT a=c∧chkT (.mk 1 [] 0 (a.kids++[xT,yT]))=d∧(c=d ∨ d=4):=fun hM=>by
  refine ⟨_,_,rfl,rfl, ?_⟩;unfold chkT;rw [if_pos hM,if_pos hsd];rcases adds_chk hcl 1 1 0 0 [] [] with e | e
  ·left;rw [e,← ha]
  ·exact .inr e
 generalize hMt : (Tree.mk 1 [] 0 (a.kids++[xT,yT]))=M at hwk hM hadd;refine uL ?_;refine ar goes16 (sound_law M _ _ ⟨1,[],0,s2⟩ hM hwk) ?_;refine aN (t := !soundB M) (fun e4 => ?_) (fun e4 => ?_)
 ·refine uA ?_;exact cE rfl (L':=L) uS ⟨hm05,rfl,rfl⟩
 obtain ⟨c,d,hc,hd,hcd⟩:=hadd (by simpa using e4);refine uB ?_;refine aK [] cZ 6 [.cells b1 0 (treeC h), .cells b6 0 (treeC ⟨1,[],0,s2⟩)] L (a9 _) ?_;refine ae (k:=0) 0 0 ?_;refine ae (k:=0) 2 1 ?_;refine af 1 ?_;refine cN rfl rfl rfl rfl rfl rfl goes15 ((Check_law a hw _ _ h (hr0.mono hm05)).x ?_);rw [hc];rintro _ m6 _ ⟨hm6,rfl,rfl⟩;refine ⟨hm6,_,a9 _, ?_⟩;refine af 3 ?_;refine cN rfl rfl rfl rfl rfl rfl goes15 ((Check_law M hwk _ _ ⟨1,[],0,s2⟩ (hM.mono hm6)).x ?_);rw [hd];rintro _ m7 _ ⟨hm7,rfl,rfl⟩;refine ⟨hm7,_,a9 _, ?_⟩;refine kI ?_;refine aU ?_;refine aR ?_;refine aF (b:=decide (c=d)) (fun e5 => ?_) (fun e5 => ?_)
 ·refine uA ?_;refine ag (L':=L) ⟨cz hm05 (cz hm6 hm7),rfl,rfl⟩
 ·have e6 : d=4:=hcd.resolve_left (by simpa using e5);refine uA ?_;refine ag (L':=L) ⟨cz hm05 (cz hm6 hm7),rfl, ?_⟩;rw [e6];rfl
end Go.Sep
