/-
  Part 12 of the proof: library, walks and plain laws.
-/
import Derived.KernelRfl
import Derived.Test.YthemafgjfddgbaaGreatDoorB11
set_option linter.unusedVariables false
set_option linter.unusedSimpArgs false
set_option maxHeartbeats 6400000
namespace Go.Sep
open Go.Proofs Go.Ck
attribute [local irreducible] TC TO OT TCallX TCall DO DOt thenQ blockQ retQ At
theorem plB {α:Type} {a b c d:α} {L:List α}:(a::d::c::b::L).Perm (a::b::c::d::L):=mJ
section
variable {E:CE} {F:CF} {sc:List GS} {w:Nat} {lv:Lv}
theorem exLit_ck {m:Mem} (hC:CkOk E F sc m) {nm:Str} {u:Int} {ks:List Tree} {h:HTree} (hr:TreeRep m h (.mk 45 nm u ks)) (hks:∀ k∈ks,ExOk E lv.ex k) (hnum:0≤u) :
  KtE Tryz.prog 159 [ptr F.c,treeV h] E F sc w (cst (.mk 45 nm u ks)) m (exprC ⟨E.tbl,E.fns⟩ lv (plain sc) (.mk 45 nm u ks)) (vEx sc):=by
 have hex:=hks;clear hks;refine dt Tryz.func159 rfl 280 rfl fun T L q Z hZ hB=>?_;obtain⟨hr1,hr2,hr3,hr4⟩:=hr;obtain⟨hk,hn,hu,hks⟩:=h;simp only[Tree.kind,Tree.name,Tree.num,Tree.kids]at hr1 hr2 hr3 hr4;subst hr1 hr2 hr3;replace hZ:Z=(Ck.want (isStructD E.tbl (.mk 4 hn 0 []))).bind fun _ =>
  (Ck.want (decide (ks.length=(theD E.tbl hn).fields.length))).bind fun _ =>
  (eachC E.tbl lv.ex (plain sc) ks ((theD E.tbl hn).fields.map Fld.type)).map fun _=>⟨45,.mk 4 hn 0 [],false,0,false⟩:=hZ
 have hcst:cst (Tree.mk 45 hn hu ks)=2+cstL ks:=rfl;have hlen:=hr4.len;have hme:=hC.me;have hpr:=hC.tbl.prog;refine uA ?_;refine ay (fun b3=>?_);refine ay (fun bx=>?_);refine jx ?_;refine aU [] df 13 ?_;refine jD ?_;refine ae 10 0 ?_;refine af 11 (cR rfl rfl rfl rfl rfl rfl goes89 ((tstruct_law (.mk 4 hn 0 []) E.bt E.cc E.es E.tbl _ _ ⟨4,hn,0,⟨none,0,0⟩⟩ (dk _ _ _ _) hC.tbl.tb hC.tbl.tr).x ?_));rintro _ _ _ ⟨rfl,rfl,rfl⟩;refine⟨cC _,_,a9 _,?_⟩;refine af 12 ?_;refine du (L0:=L) my (cC _) (Hs.nil ((hB.hs.cons _).cons _)) hZ rfl rfl rfl rfl rfl rfl (fun e hZ=>?_);refine⟨cC _,_,a9 _,?_⟩;refine aN ?_
 rotate_left 1
 obtain⟨hd,hhd,hrd⟩:=hC.tbl.tr.look hn;have hfs:=hrd.fields;have hfl:=hfs.len;have hff:hd.fields.len*72≤140737488355328:=hfs.fit;refine uA ?_;refine aU [] df 13 ?_;refine kc ?_;refine ai 3 hme ?_;refine lW ?_;refine ai 6 hpr ?_;refine cV tab uC uK [7] uK rfl ?_;refine ae 8 1 ?_;refine cV tab uC uK [12] uK rfl ?_;refine af 9 ?_;refine OT.lookupP tab kStr hn rfl rfl rfl rfl rfl rfl rfl hC.tbl.tb ?_;refine⟨cC _,_,a9 _,?_⟩;refine DO.convV ?_ hhd;refine ll ?_;refine aN ?_
 rotate_left 1
 refine jS ?_;refine cY (size:=4) ?_;generalize hfd:(theD E.tbl hn).fields=fl at hfs hfl hZ;refine cH (ι:=Nat×Sl×List Tree×Mem) [0,3,5,134,135] rfl (fun y=>[(136,.int .i64 (y.1:Int)),(6,y.2.1.v)]) (fun y=>y.2.2.2) (fun y=>tok y.2.1 4::.cells bx 0 (exC 45 ⟨4,hn,0,nilS⟩ hn hu nilS 0 none none)::.cells b3 0 (treeC ⟨45,hn,hu,hks⟩)::T) (fun y=>y.1≤fl.length∧m≤y.2.2.2∧SlRep rTree y.2.2.2 y.2.1 y.2.2.1∧Own y.2.1∧y.2.2.1=(fl.take y.1).map Fld.type) (fun y=>fl.length-y.1) (0,nilS,[],m) uH rfl uS ⟨cn _,cC _,cS _ _,cZ,rfl⟩ ?_;rintro⟨i,s,ts,m1⟩ ⟨hi,hm,hs,ho,hts⟩;simp only at hi hm hs ho hts;have htl:ts.length=i:=by rw[hts,bN,bV];omega
 refine uA ?_;refine am (fun hlt=>?_) (fun hlt=>?_)
 ·have hlt':i<fl.length:=mv;have hx:fl[i]? = some fl[i]:=mL;have hfs1:=hfs.mono hm;refine uA ?_;refine ar tab rField i hfs1 uH mD rfl hx ?_;rintro b' i' h9 hrd9 hA9;refine lB ?_;refine aC tab (fun b8=>?_);refine jK ?_;refine av (hs:=[h9.type]) (l:=[fl[i].type]) tab rTree ⟨rTree_iff.2 hrd9.type,trivial⟩ uH mw (fun sA m2 hm2 hsA _ _=>?_);refine uA ?_;refine qs rfl (cU tab rTree 1 (hs.mono hm2) ho hsA rfl rfl rfl rfl rfl rfl rfl mI (fun s' m3 hm3 hs' ho'=>?_));refine kh ?_;exact⟨(i+1,s',ts++[fl[i].type],m3),uH,uH,rfl,rfl,uS,⟨by omega,cD hm (cD hm2 hm3),hs',ho',by rw[hts,cq hlt',cu];rfl⟩,by simp only;omega⟩
 ·have hi':i=fl.length:=mv;subst hi';rw[List.take_length]at hts;rw[←hts]at hZ;have hsl:=hs.len;have htg:∀ t∈ts,tg t=true:=fun t ht=>by
   rw[hts]at ht;obtain⟨f,hf,rfl⟩:=List.mem_map.1 ht;exact(hC.tbl.good hn).1 f (by rw[hfd];exact hf)
  replace hC:=hC.mono hm;replace hr4:=hr4.mono hm;replace hB:=hB.mono hm (bF _);refine uL ?_;refine qs rfl (du (b:=decide ((hks.len:Int)=(s.len:Int))) (L0:=L) my hm (dm [_,_,_] hB.hs) (hZ.trans (by rw[show decide (ks.length=fl.length)=decide ((hks.len:Int)=(s.len:Int)) from decide_eq_decide.2 mv])) rfl rfl rfl rfl rfl rfl (fun e hZ=>?_));have e2:ks.length=ts.length:=mW;clear e;generalize hG:(fun _:Unit=>(⟨45,.mk 4 hn 0 [],false,0,false⟩:X))=G at hZ;refine lr ?_;refine lA ?_;refine TC.perm (L':=tok nilS 1::.cells b3 0 (treeC ⟨45,hn,hu,hks⟩)::.cells bx 0 (exC 45 ⟨4,hn,0,nilS⟩ hn hu nilS 0 none none)::tok s 4::T) plB ?_;refine cH (ι:=Nat×Sl×List Nat×Mem×List Item) [0,3,5,6,154,155] rfl (fun y=>[(156,.int .i64 (y.1:Int))]) (fun y=>y.2.2.2.1) (fun y=>tok y.2.1 1::.cells b3 0 (treeC ⟨45,hn,hu,hks⟩)::.cells bx 0 (exC 45 ⟨4,hn,0,nilS⟩ hn hu y.2.1 0 none none)::y.2.2.2.2) (fun y=>y.1≤ks.length∧m1≤y.2.2.2.1∧SlRep rPtr y.2.2.2.1 y.2.1 y.2.2.1∧Own y.2.1∧y.2.2.1.length≤y.1∧Bun E F sc w (q+2+cstL (ks.drop y.1)) y.2.2.2.1 y.2.2.2.2 L∧Z=(eachC E.tbl lv.ex (plain sc) (ks.drop y.1) (ts.drop y.1)).map G) (fun y=>ks.length-y.1) (0,nilS,[],m1,T) uH rfl uS ⟨cn _,cC _,cS _ _,cZ,cn _,hB.mono (cC _) (by rw[hcst,cB];omega),hZ⟩ ?_;rintro⟨i,sk,l,m3,T3⟩ ⟨hi,hm3,hsk,hok,hl,hB,hZ⟩;simp only at hi hm3 hsk hok hl hB hZ;refine uA ?_;refine am (fun hlt=>?_) (fun hlt=>?_)
  ·have hlt0:(i:Int)<(hks.len:Int):=hlt;have hlt':i<ks.length:=mv;have hlt2:i<ts.length:=mv;have hx:ks[i]? = some ks[i]:=mL;rw[bU hlt',bU hlt2,eachC]at hZ;rw[cstL_drop hx]at hB;have hr5:=hr4.mono hm3;have hts3:=hs.mono hm3;refine jP ?_;rintro b' i' h9 hrd9 hA9;refine lB ?_;refine aC tab (fun b10=>?_);refine jx ?_;refine aL [17] df 18 [.cells b10 0 (treeC h9),.cells b3 0 (treeC ⟨45,hn,hu,hks⟩),.cells bx 0 (exC 45 ⟨4,hn,0,nilS⟩ hn hu sk 0 none none)] (tok sk 1::T3) pfH ?_;refine cV tab uC uK [0,1,2,3,5,8,9,10] uK rfl ?_;refine ae (k:=7) 4 2 ?_;refine ae (k:=0) 6 0 ?_;refine DO.arith 11 (r':=((i+1:Nat):Int)) uC uK uK rfl rfl rfl rfl rfl rfl rfl rfl mD mv ?_;refine DO.cutS tab rTree 12 i (i+1) hts3 uC uK uK rfl rfl rfl rfl rfl rfl rfl rfl rfl (.inr rfl) (.inr rfl) (Nat.le_succ _) hlt2 (fun s1 hs1=>?_);replace hs1:SlRep rTree m3 s1 [ts[i]]:=by
    rw[take_drop_one hlt2]at hs1;exact hs1
   refine af 7 ?_;refine aM (hs:=[h9]) (l:=[ks[i]]) tab rTree ⟨hrd9,trivial⟩ uH mw (fun sA m4 hm4 hsA _ _=>?_);refine⟨hm4,_,a9 _,?_⟩;refine af 13 ?_;refine OT.ck (L0:=L) [_,_,_,_] (q+2+cstL (ks.drop (i+1))) (assign_ck ((hC.mono hm3).mono hm4) hsA (fun x hx=>by rw[List.mem_singleton.1 hx];exact hex _ (bL hlt')) (hs1.mono hm4)) (hB.mono hm4 (bF _)) my (cD (cD hm hm3) hm4) (dl _) (g:=fun _=>(eachC E.tbl lv.ex (plain sc) (ks.drop (i+1)) (ts.drop (i+1))).map G) (hZ.trans (by cases assignC E.tbl lv.ex (plain sc) [ks[i]] [ts[i]]<;>rfl)) nC rfl rfl rfl rfl rfl rfl goes154 (fun v m5 u T4 hZ hm5 hm' hV hB=>?_);obtain⟨sB,xs,rfl,hsB,hxs⟩:=hV;simp only[a7,a8]at hxs;refine⟨hm5,tok sk 1::T4,a9 _,?_⟩;refine af 14 ?_;refine cU tab rPtr 3 ((hsk.mono hm4).mono hm5) hok hsB rfl rfl rfl rfl rfl rfl rfl od (fun s' m6 hm6 hs' ho'=>?_);refine⟨hm6,tok s' 1::T4,a9 _,?_⟩;refine cV tab uC uK [15,16] uK rfl ?_;refine cW ?_;refine aB 17 ?_;refine an (k:=7) 2 ?_;refine aH ?_;have hmm:m3≤m6:=cD (cD hm4 hm5) hm6;refine kV ?_;refine aI (L':=tok s' 1::.cells b3 0 (treeC ⟨45,hn,hu,hks⟩)::.cells bx 0 (exC 45 ⟨4,hn,0,nilS⟩ hn hu s' 0 none none)::.cells b10 0 (treeC h9)::T4) pfI ?_;exact ey
  ·have hlt0:¬(i:Int)<(hks.len:Int):=hlt;have hi':i=ks.length:=mv;subst hi';rw[List.drop_length]at hZ;replace hZ:Z=some (G ()):=hZ;subst hG;replace hm:=cD hm hm3;refine TC.freezeAt 2 rfl fun m4 hm4 hA=>?_;refine uA ?_;refine cI rfl (L':=T3) uS ⟨_,hZ,cD hm hm4,⟨bx,rfl,dr (vs:=inV sc) (m:=m4) (x:=⟨45,.mk 4 hn 0 [],false,0,false⟩) (h:=⟨4,hn,0,nilS⟩) (txt:=hn) (num:=hu) (how:=0) (kids:=sk) (var:=none) (fn:=none) (dk _ _ _ _) (tg_leaf _ _ _ mv) ⟨fun e=>by omega,fun e=>by cases e⟩ mx mx mx mx mx mx (fun _ _=>rfl) m4 (cC _) hA⟩,hB.mono hm4 mv⟩
end
end Go.Sep
namespace Go.Sep
open Go.Proofs Go.Ck
attribute [local irreducible] TC TO OT TCallX TCall DO DOt thenQ blockQ retQ At
theorem plC {α:Type} {a b c d t:α} {L:List α}:(a::b::c::d::t::L).Perm (t::b::c::d::a::L):=mJ
theorem plD {α:Type} {a b c d t:α} {L:List α}:(a::t::b::c::d::L).Perm ([a,b,c,d]++(t::L)):=mF
section
variable {E:CE} {F:CF} {sc:List GS} {w:Nat} {lv:Lv}
theorem exList_ck {m:Mem} (hC:CkOk E F sc m) {nm:Str} {u:Int} {ty:Tree} {es:List Tree} {h:HTree} (hr:TreeRep m h (.mk 46 nm u (ty::es))) (hks:∀ k∈es,ExOk E lv.ex k) (hw:ty.wide≤140737488355328) (hnum:0≤u) :
  KtE Tryz.prog 159 [ptr F.c,treeV h] E F sc w (cst (.mk 46 nm u (ty::es))) m (exprC ⟨E.tbl,E.fns⟩ lv (plain sc) (.mk 46 nm u (ty::es))) (vEx sc):=by
 have hex:∀ k∈es,ExOk E lv.ex k:=hks;clear hks;refine dt Tryz.func159 rfl 280 rfl fun T L q Z hZ hB=>?_;obtain⟨hr1,hr2,hr3,hr4⟩:=hr;obtain⟨hk,hn,hu,hks⟩:=h;simp only[Tree.kind,Tree.name,Tree.num,Tree.kids]at hr1 hr2 hr3 hr4;subst hr1 hr2 hr3;replace hZ:Z=(typC E.tbl ty).bind fun t=>(eachC E.tbl lv.ex (plain sc) es (es.map fun _=>t)).map fun _=>⟨46,.mk 6 [] 0 [t],false,0,false⟩:=hZ;have hcst:cst (Tree.mk 46 hn hu (ty::es))=2+(cst ty+cstL es):=rfl;have hlen:=hr4.len;have hfit:hks.len*56≤140737488355328:=hr4.fit;simp only[a7]at hlen;have hme:=hC.me;refine uA ?_;refine ay (fun b3=>?_);refine ay (fun bx=>?_);refine jI ?_;rintro b' i' h' hrd hA;refine jV ?_;refine qs rfl (OT.kp (L0:=L) (typ_law E F.c ty hw m h' (rTree_iff.1 hrd) hC.tbl (hme.pre (xs:=[ptr E.p]))) my (cC _) ((hB.hs.cons _).cons _) hZ rfl rfl rfl rfl rfl rfl goes117 (fun v m1 t hZ hm _ hV=>?_));obtain⟨-,hV⟩:=hV;obtain⟨htg,ht,rfl,hht⟩:=hV;replace hr4:=hr4.mono hm;replace hC:=hC.mono hm;replace hB:=hB.mono hm (bF _);refine uA ?_;refine aC tab (fun b11=>?_);refine jK ?_;refine qs rfl (OT.cut tab rTree 1 (1+es.length) hr4 rfl rfl rfl rfl rfl rfl rfl (.inr rfl) (.inl ⟨rfl,show 1+es.length=hks.len by omega⟩) mv mV (fun sz hsz=>?_));replace hsz:SlRep rTree m1 sz es:=by
  have e:(List.take (1+es.length) (ty::es)).drop 1=es:=oe;rw[e]at hsz;exact hsz
 have hzl:=hsz.len;generalize hG:(fun _:Unit=>(⟨46,.mk 6 [] 0 [t],false,0,false⟩:X))=G at hZ;refine lA ?_;refine cH (ι:=Nat×Sl×List Nat×Mem×List Item) [0,3,5,11,189,190] rfl (fun y=>[(191,.int .i64 (y.1:Int))]) (fun y=>y.2.2.2.1) (fun y=>tok y.2.1 1::.cells b11 0 (treeC ht)::.cells bx 0 (exC 46 zH hn hu y.2.1 0 none none)::.cells b3 0 (treeC ⟨46,hn,hu,hks⟩)::y.2.2.2.2) (fun y=>y.1≤es.length∧m1≤y.2.2.2.1∧SlRep rPtr y.2.2.2.1 y.2.1 y.2.2.1∧Own y.2.1∧y.2.2.1.length≤y.1∧Bun E F sc w (q+cstL (es.drop y.1)) y.2.2.2.1 y.2.2.2.2 L∧Z=(eachC E.tbl lv.ex (plain sc) (es.drop y.1) ((es.drop y.1).map fun _=>t)).map G) (fun y=>es.length-y.1) (0,nilS,[],m1,T) uH rfl uS ⟨cn _,cC _,cS _ _,cZ,cn _,hB.mono (cC _) (by rw[hcst,cB];omega),hZ⟩ ?_;rintro⟨i,sk,l,m3,T3⟩ ⟨hi,hm3,hsk,hok,hl,hB,hZ⟩;simp only at hi hm3 hsk hok hl hB hZ;refine uA ?_;refine am (fun hlt=>?_) (fun hlt=>?_)
 ·have hlt':i<es.length:=mv;have hx:es[i]? = some es[i]:=mL;rw[bU hlt',bH,eachC]at hZ;rw[cstL_drop hx]at hB;have hr5:=hsz.mono hm3;have hht3:=hht.mono hm3;have hC3:=hC.mono hm3;refine jP ?_;rintro b' i' h9 hrd9 hA9;refine lB ?_;refine aC tab (fun b13=>?_);refine jx ?_;refine aL [14] df 15 [.cells b13 0 (treeC h9),.cells b11 0 (treeC ht),.cells bx 0 (exC 46 zH hn hu sk 0 none none),.cells b3 0 (treeC ⟨46,hn,hu,hks⟩)] (tok sk 1::T3) plD ?_;refine cV tab uC uK [0,1,2,3,5] uK rfl ?_;refine ae (k:=7) 4 2 ?_;refine ae (k:=0) 6 0 ?_;refine ae (k:=0) 8 1 ?_;refine DO.fork 7 [9] uK ⟨⟨_,rfl,rfl,rfl,?_⟩,⟨_,rfl,rfl,rfl,?_⟩,trivial⟩
  ·skip;refine aM (hs:=[h9]) (l:=[es[i]]) tab rTree ⟨hrd9,trivial⟩ uH mw (fun sA m4 hm4 hsA _ _=>?_);refine⟨hm4,_,a9 _,?_⟩;refine af 9 ?_;refine aM (hs:=[ht]) (l:=[t]) tab rTree ⟨(rTree_iff.2 (hht3.mono hm4)),trivial⟩ uH mw (fun sT m4b hm4b hsT _ _=>?_);refine⟨hm4b,_,a9 _,?_⟩;refine af 10 ?_;refine OT.ck (L0:=L) [_,_,_,_,_] (q+cstL (es.drop (i+1))) (assign_ck (hC3.mono (cD hm4 hm4b)) (hsA.mono hm4b) (fun x hx=>by rw[List.mem_singleton.1 hx];exact hex _ (bL hlt')) hsT) (hB.mono (cD hm4 hm4b) (bF _)) my (cD (cD hm hm3) (cD hm4 hm4b)) (dl _) (g:=fun _=>(eachC E.tbl lv.ex (plain sc) (es.drop (i+1)) ((es.drop (i+1)).map fun _=>t)).map G) (hZ.trans (by cases assignC E.tbl lv.ex (plain sc) [es[i]] [t]<;>rfl)) nC rfl rfl rfl rfl rfl rfl goes154 (fun v m5 u T4 hZ hm5 hm' hV hB=>?_);exact d9
  ·skip;refine aM (hs:=[ht]) (l:=[t]) tab rTree ⟨(rTree_iff.2 hht3),trivial⟩ uH mw (fun sT m4 hm4 hsT _ _=>?_);refine⟨hm4,_,a9 _,?_⟩;refine af 7 ?_;refine aM (hs:=[h9]) (l:=[es[i]]) tab rTree ⟨(rTree.mono hm4 hrd9),trivial⟩ uH mw (fun sA m4b hm4b hsA _ _=>?_);refine⟨hm4b,_,a9 _,?_⟩;refine af 10 ?_;refine OT.ck (L0:=L) [_,_,_,_,_] (q+cstL (es.drop (i+1))) (assign_ck (hC3.mono (cD hm4 hm4b)) hsA (fun x hx=>by rw[List.mem_singleton.1 hx];exact hex _ (bL hlt')) (hsT.mono hm4b)) (hB.mono (cD hm4 hm4b) (bF _)) my (cD (cD hm hm3) (cD hm4 hm4b)) (dl _) (g:=fun _=>(eachC E.tbl lv.ex (plain sc) (es.drop (i+1)) ((es.drop (i+1)).map fun _=>t)).map G) (hZ.trans (by cases assignC E.tbl lv.ex (plain sc) [es[i]] [t]<;>rfl)) nC rfl rfl rfl rfl rfl rfl goes154 (fun v m5 u T4 hZ hm5 hm' hV hB=>?_);exact d9
 ·have hlt0:¬(i:Int)<(sz.len:Int):=hlt;have hi':i=es.length:=mv;subst hi';rw[List.drop_length]at hZ;replace hZ:Z=some (G ()):=hZ;subst hG;replace hm:=cD hm hm3;replace hht:=hht.mono hm3;refine uA ?_;refine aP (k:=0) 1 ?_;refine av (hs:=[ht]) (l:=[t]) tab rTree ⟨rTree_iff.2 hht,trivial⟩ uH mw (fun sT m4 hm4 hsT _ _=>?_);refine kE ?_;refine db 2 rfl fun m5 hm5 hA=>?_;refine uA ?_;refine cI rfl (L':=T3) uS ⟨_,hZ,cD hm (cD hm4 hm5),⟨bx,rfl,dr (vs:=inV sc) (m:=m4) (x:=⟨46,.mk 6 [] 0 [t],false,0,false⟩) (h:=⟨6,[],0,sT⟩) (txt:=hn) (num:=hu) (how:=0) (kids:=sk) (var:=none) (fn:=none) ⟨rfl,rfl,rfl,hsT⟩ (tg_mk _ _ _ _ (fun _=>rfl) (fun e=>by cases e) (fun x hx=>by rw[List.mem_singleton.1 hx];exact htg)) ⟨fun e=>by omega,fun e=>by cases e⟩ mx mx mx mx mx mx (fun _ _=>rfl) m5 hm5 hA⟩,hB.mono (cD hm4 hm5) mv⟩
end
end Go.Sep
namespace Go.Sep
open Go.Proofs Go.Ck
theorem Bun.fns2 {E:CE} {F:CF} {sc:List GS} {w q:Nat} {m:Mem} {T L:List Item} (h:Bun E F sc w q m T L):∃ fs fl T',SlRep rGF m fs fl∧Own fs∧fl.length+q≤lim40∧T.Perm (.cells E.p 2 [fs.v]::tok fs 1::T') ∧
  ∀(fs':Sl) (fl':List GF) (q':Nat) (m':Mem),m≤m'→q'≤q→SlRep rGF m' fs' fl'→Own fs'→fl'.length+q'≤lim40→Bun E F sc w q' m' (.cells E.p 2 [fs'.v]::tok fs' 1::T') L:=by
 obtain⟨fs,fl,X,Y,h1,h2,h3,h4,h5,h6⟩:=h;exact⟨fs,fl,_,h1,h2,h3,h6.trans blA,fun fs' fl' q' m' hm hq g1 g2 g3=>⟨fs',fl',X,Y,g1,g2,g3,h4,h5.mono hm hq,blA.symm⟩⟩
where blA {α:Type} {c p t:α} {M:List α}:(c::p::t::M).Perm (p::t::c::M):=mJ
theorem blB {α:Type} {c p t k o:α} {X Y L T:List α} (hT:T.Perm (c::p::t::(X++(Y++L)))):(k::o::T).Perm (c::p::t::(X++((k::o::Y)++L))):=(by classical exact List.perm_iff_count.2 (fun pa=>by have pz0:=List.Perm.count_eq hT pa;simp only[List.count_append,List.count_cons]at pz0 ⊢;omega))
theorem Bun.lit {E:CE} {F:CF} {sc:List GS} {w q:Nat} {m:Mem} {T L:List Item} (h:Bun E F sc w q m T L) (bf:Nat) (t:Tree) :
  Bun E { F with lits:=bf::F.lits,ft:=t } sc w q m (.cells bf 9 [.slice none 0 0]::tok ⟨none,0,0⟩ 1::T) L:=by
 obtain⟨fs,fl,X,Y,h1,h2,h3,h4,h5,h6⟩:=h;exact⟨fs,fl,X,_,h1,h2,h3,h4,⟨⟨none,0,0⟩,[],Y,cS _ _,cZ,by simp only[a8];omega,(fun x hx=>by cases hx),h5,rfl⟩,blB h6⟩
theorem blC {α:Type} {c p t k o:α} {X Y L T:List α} (hT:T.Perm (c::p::t::(X++((k::o::Y)++L)))):T.Perm ([k,o]++(c::p::t::(X++(Y++L)))):=(by classical exact List.perm_iff_count.2 (fun pa=>by have pz0:=List.Perm.count_eq hT pa;simp only[List.count_append,List.count_cons,List.count_nil]at pz0 ⊢;omega))
theorem Bun.unlit {E:CE} {F:CF} {sc:List GS} {w q:Nat} {m:Mem} {T L:List Item} {bf:Nat} {t:Tree} (h:Bun E { F with lits:=bf::F.lits,ft:=t } sc w q m T L) :
  ∃ M T2,T.Perm (M++T2)∧Bun E F sc w q m T2 L:=by
 obtain⟨fs,fl,X,Y,h1,h2,h3,h4,⟨s,l,Y2,g1,g2,g3,g4,g5,rfl⟩,h6⟩:=h;exact⟨_,_,blC h6,fs,fl,X,Y2,h1,h2,h3,h4,g5,a9 _⟩
theorem ScAt.more {m:Mem} {ch:List Nat} (f:Nat):∀ {l:List GS},ScAt m ch l→ScAt m (f::ch) l
 | [],_=>trivial
 | _::r,h=>⟨h.1,fun v hv=>⟨(h.2.1 v hv).1,List.mem_cons_of_mem _ (h.2.1 v hv).2.1,(h.2.1 v hv).2.2⟩,ScAt.more f h.2.2⟩
section
variable {P:Program} {N:Nat} {ρ:Env} {D:List Deferred} {m:Mem} {L:List Item} {Q:EPost}
theorem lfC {α:Type} {a b c:α} {L:List α}:(a::b::c::L).Perm (b::a::c::L):=mJ
theorem lfD {α:Type} {a b c d:α} {L:List α}:(a::b::c::d::L).Perm (b::d::c::a::L):=mJ
theorem TC.fnBlock {c:Code} {bf:Nat} (nm rc a1 a2 a3 a4 a5 bd out ct nb:Value) (h:∀ m',m≤m'→At m' bf 0 [nm,rc]→At m' bf 8 [out]→TC P N c ρ D m' (.cells bf 2 [a1,a2,a3,a4,a5]::.cells bf 7 [bd]::.cells bf 9 [ct]::L) Q) :
  TC P N c ρ D m (.cells bf 0 [nm,rc,a1,a2,a3,a4,a5,bd,out,ct,nb]::L) Q:=by
 refine TC.splitC (b:=bf) (off:=0) [nm,rc] [a1,a2,a3,a4,a5,bd,out,ct,nb] ?_;refine TC.freeze fun m1 h1 hA=>?_;refine TC.splitC (b:=bf) (off:=2) [a1,a2,a3,a4,a5] [bd,out,ct,nb] ?_;refine TC.perm (ba _ _ _) ?_;refine TC.splitC (b:=bf) (off:=7) [bd] [out,ct,nb] ?_;refine TC.perm lfC ?_;refine TC.splitC (b:=bf) (off:=8) [out] [ct,nb] ?_;refine TC.freeze fun m2 h2 hB=>?_;refine TC.splitC (b:=bf) (off:=9) [ct] [nb] ?_;refine TC.perm lfD ?_;refine TC.drop (bY _ (bZ _)) ?_;exact h m2 (cD h1 h2) (hA.mono h2) hB
end
attribute [local irreducible] TC TO OT TCallX TCall DO DOt thenQ blockQ retQ At
theorem lfE {α:Type} {p a b f:α} {L:List α}:([p,a,b]++(f::L)).Perm (f::p::a::b::L):=mF
theorem lfF {α:Type} {f2 f7 f9 p a b t:α} {L:List α}:(f2::f7::f9::p::a::b::t::L).Perm ([p]++(t::f2::f7::f9::a::b::L)):=mF
theorem lfG {α:Type} {f2 f7 f9 p a b t:α} {L:List α}:([p]++(t::f2::f7::f9::a::b::L)).Perm (f2::b::a::f7::f9::p::t::L):=mF
theorem lfH {α:Type} {k f2 b a:α} {L:List α}:(k::f2::b::a::L).Perm (b::f2::k::a::L):=mJ
theorem lfI {α:Type} {k f2 b:α} {L:List α}:(b::f2::k::L).Perm (f2::k::b::L):=mJ
theorem lfJ {α:Type} {k a b f7 f9:α} {T V L:List α} (h:T.Perm (V++(b::a::f7::f9::L))):(k::T).Perm (b::a::f7::(V++(f9::k::L))):=ot
theorem lfK {α:Type} {a b f7:α} {V L:List α}:(([b,a,f7]++V)++L).Perm (f7::(V++(b::a::L))):=mF
theorem chain_head (F:CF):F.chain.head? = some F.fn:=by
 unfold CF.fn CF.chain;cases F.lits<;>rfl
theorem lfA {α:Type} {p t a b:α} {T T':List α} (h:T.Perm (p::t::T')):(a::b::T).Perm ([p,a,b]++(t::T')):=nD
section
variable {E:CE} {F:CF} {sc:List GS} {w:Nat} {lv:Lv}
theorem exFunc_ck {m:Mem} (hC:CkOk E F sc m) {nm:Str} {u:Int} {sg bd:Tree} {h:HTree} (hr:TreeRep m h (.mk 47 nm u [sg,bd])) (hsg:sg.isSig=true) (hbl:lim.block bd=true) (hst:StOk E lv.st bd)
  (hs1:sg.size+3≤20000) (hs2:sg.deep+2≤100) (hs3:sg.wide≤140737488355328) (hb1:bd.size+3≤20000) (hb2:bd.deep+2≤100) (hb3:bd.wide≤140737488355328) (hnum:0≤u) :
  KtE Tryz.prog 159 [ptr F.c,treeV h] E F sc w (cst (.mk 47 nm u [sg,bd])) m (exprC ⟨E.tbl,E.fns⟩ lv (plain sc) (.mk 47 nm u [sg,bd])) (vEx sc):=by
 refine dt Tryz.func159 rfl 280 rfl fun T L q Z hZ hB=>?_;obtain⟨hr1,hr2,hr3,hr4⟩:=hr;obtain⟨hk,hn,hu,hks⟩:=h;simp only[Tree.kind,Tree.name,Tree.num,Tree.kids]at hr1 hr2 hr3 hr4;subst hr1 hr2 hr3;replace hZ:Z=(sigC E.tbl [] sg).bind fun s=>(bodyC lv s.1 s.2 (plain sc) bd).map fun _=>⟨47,s.1,false,0,false⟩:=hZ;have hcst:cst (Tree.mk 47 hn hu [sg,bd])=2+(cst sg+(cst bd+0)):=rfl;have hme:=hC.me;obtain⟨fs,fl,T1,hfs,hof,hfl,hT1,hnew⟩:=hB.fns2;have hfll:=hfs.len;refine uA ?_;refine ay (fun b3=>?_);refine ay (fun bx=>?_);refine aL [] df 15 _ _ (lfA hT1) ?_;refine cV tab uC uK [0,1,2,4,5,6] uK rfl ?_;refine ai (k:=2) 3 hme ?_;refine ai (k:=0) 7 hme ?_;refine jW ?_;refine ae (k:=0) 10 0 ?_;refine kT ?_;refine af 13 ?_;refine OT.box rfl rfl rfl rfl rfl (fun bf=>?_);refine lC ?_;refine cV tab uC uK [14] uK rfl ?_;refine aV ?_;refine cF ?_;refine TC.perm (L':=.cells bf 0 [strV [],strV [],.int .i64 0,strV [],.int .i64 0,.slice none 0 0,.slice none 0 0,.pointer none,ptr F.fn,.slice none 0 0,.int .i64 (fs.len:Int)]::.cells E.p 2 [fs.v]::.cells bx 0 (exC 47 zH hn hu nilS 0 none none)::.cells b3 0 (treeC ⟨47,hn,hu,hks⟩)::tok fs 1::T1) lfE ?_;refine TC.fnBlock _ _ _ _ _ _ _ _ _ _ _ fun m1 hm1 hA0 hA8=>?_;have hme1:=hme.mono hm1;have hfs1:=hfs.mono hm1;have hbl2:fl.length+1+(q+(cst sg+(cst bd+0)))≤lim40:=mv;refine uA ?_;refine aL [16] df 17 [.cells E.p 2 [fs.v]] (tok fs 1::.cells bf 2 [.int .i64 0,strV [],.int .i64 0,.slice none 0 0,.slice none 0 0]::.cells bf 7 [.pointer none]::.cells bf 9 [.slice none 0 0]::.cells bx 0 (exC 47 zH hn hu nilS 0 none none)::.cells b3 0 (treeC ⟨47,hn,hu,hks⟩)::T1) lfF ?_;refine cV tab uC uK [0,1,2,4,5,6,11] uK rfl ?_;refine ai (k:=0) 3 hme1 ?_;refine ai (k:=0) 7 hme1 ?_;refine jW ?_;refine ae (k:=0) 10 0 ?_
 refine af 12 ?_;refine aM (hs:=[bf]) (l:=[⟨bf,[],[]⟩]) tab rGF ⟨⟨rfl,hA0⟩,trivial⟩ uH mw (fun sB m2 hm2 hsB _ _=>?_);refine⟨hm2,_,a9 _,?_⟩;refine af 13 ?_;refine cU tab rGF 1 (hfs1.mono hm2) hof hsB rfl rfl rfl rfl rfl rfl rfl (by simp only[a7,a8,rGF,lim40]at hbl2 ⊢;omega) (fun fs' m3 hm3 hfs' hof'=>?_);refine⟨hm3,_,a9 _,?_⟩;refine cV tab uC uK [14,15] uK rfl ?_;refine cW ?_;refine aB 16 ?_;refine an (k:=0) 0 ?_;refine aH ?_;refine cF ?_;have hm:m≤m3:=cD hm1 (cD hm2 hm3);have hB2:=hnew fs' (fl++[⟨bf,[],[]⟩]) (q+(cst sg+(cst bd+0))) m3 hm mv hfs' hof' ou;generalize hT2:(Item.cells E.p 2 [fs'.v]::tok fs' 1::T1)=T2 at hB2;refine TC.perm (L':=.cells bf 2 [.int .i64 0,strV [],.int .i64 0,.slice none 0 0,.slice none 0 0]::.cells b3 0 (treeC ⟨47,hn,hu,hks⟩)::.cells bx 0 (exC 47 zH hn hu nilS 0 none none)::.cells bf 7 [.pointer none]::.cells bf 9 [.slice none 0 0]::T2) (by rw[←hT2];exact lfG) ?_;refine cY (size:=1) ?_;refine TC.perm (L':=.cells b3 0 (treeC ⟨47,hn,hu,hks⟩)::.cells bf 2 [.int .i64 0,strV [],.int .i64 0,.slice none 0 0,.slice none 0 0]::tok ⟨none,0,0⟩ 1::.cells bx 0 (exC 47 zH hn hu nilS 0 none none)::.cells bf 7 [.pointer none]::.cells bf 9 [.slice none 0 0]::T2) lfH ?_;replace hr4:=hr4.mono hm;replace hC:=hC.mono hm;have hA8':=hA8.mono (cD hm2 hm3);have hA0':=hA0.mono (cD hm2 hm3);refine uL ?_;refine jI ?_;rintro b' i' sh hrd hA;refine jV ?_;refine cM (L':=.cells bf 2 [.int .i64 0,strV [],.int .i64 0,.slice none 0 0,.slice none 0 0]::tok ⟨none,0,0⟩ 1::(.cells b3 0 (treeC ⟨47,hn,hu,hks⟩)::.cells bx 0 (exC 47 zH hn hu nilS 0 none none)::.cells bf 7 [.pointer none]::.cells bf 9 [.slice none 0 0]::T2)) lfI ?_;refine oC goes63 (cE (sig_ck E F.c bf hC.tbl (hC.me.pre (xs:=[ptr E.p])) (rTree_iff.1 hrd) hsg hs1 hs2 hs3 [] ⟨none,0,0⟩ (cS _ _) cZ (cn _) (fun v hv=>by cases hv) _) ?_ ?_)
 ·rintro v m4 T4 ⟨t,vs,ht,ps,hsig,hm4,hA2,hht,htg,ht7,hps,hpo,hT4⟩;rw[bK]at hsig hps hpo;replace hsig:sigC E.tbl [] sg=some (t,(vs.map GV.pair).reverse):=hsig;rw[hsig]at hZ;replace hZ:Z=(bodyC lv t (vs.map GV.pair).reverse (plain sc) bd).map fun _=>⟨47,t,false,0,false⟩:=hZ;replace hr4:=hr4.mono hm4;replace hC:=hC.mono hm4;replace hm:=cD hm hm4;have hB3:=(((hB2.mono hm4 (bF _)).lit bf t).more ([.cells b3 0 (treeC ⟨47,hn,hu,hks⟩),.cells bx 0 (exC 47 zH hn hu nilS 0 none none),.cells bf 7 [.pointer none]]++vs.map flagI))
  refine TO.grow0 (size:=1) ?_;refine cM (L':=.cells b3 0 (treeC ⟨47,hn,hu,hks⟩)::.cells bx 0 (exC 47 zH hn hu nilS 0 none none)::.cells bf 7 [.pointer none]::(vs.map flagI++(.cells bf 9 [.slice none 0 0]::tok ⟨none,0,0⟩ 1::T2))) (lfJ hT4) ?_;refine uL ?_;refine aA tab rTree 1 hr4 uH mD uH ?_;rintro b5 i5 bh hrd5 hA5;refine ap tab hA5 ?_;have hchain:ChainAt m4 (bf::F.chain):=⟨⟨_,(hA0'.mono hm4).c0⟩,fun g hg=>by
   rw[chain_head]at hg;injection hg with hg
   rw[←hg];exact hA8'.mono hm4,hC.chain⟩
  refine oC goes65 (cE (body_ck (F:={ F with lits:=bf::F.lits,ft:=t }) (sc:=sc) (w:=w) (lv:=lv) (m:=m4) hC.tbl hC.fm hC.fns (hC.me.pre (xs:=[ptr E.p,.map (some E.fm)])) hchain (hC.sc.more bf) hht htg ht7 hps hpo hA2 (rTree_iff.1 hrd5) hst hbl hb1 hb2 hb3 (u:=.pointer none) _ (.cells b3 0 (treeC ⟨47,hn,hu,hks⟩)::.cells bx 0 (exC 47 zH hn hu nilS 0 none none)::L) (q+cst sg) ((hB3.mono (cC _) mv).perm (a9 _) lfK)) ?_ ?_)
  ·rintro v m5 T5 ⟨a,hbody,hm5,hB5⟩;rw[hbody]at hZ;replace hZ:Z=some ⟨47,t,false,0,false⟩:=hZ;obtain⟨T6,hB6,hT6⟩:=Bun.less [.cells b3 0 (treeC ⟨47,hn,hu,hks⟩),.cells bx 0 (exC 47 zH hn hu nilS 0 none none)] hB5;obtain⟨M,T7,hT7,hB7⟩:=hB6.unlit;refine cM (L':=.cells b3 0 (treeC ⟨47,hn,hu,hks⟩)::.cells bx 0 (exC 47 zH hn hu nilS 0 none none)::(M++T7)) (hT6.trans ((hT7.cons _).cons _)) ?_;refine TO.drop (L':=.cells b3 0 (treeC ⟨47,hn,hu,hks⟩)::.cells bx 0 (exC 47 zH hn hu nilS 0 none none)::T7) (((List.sublist_append_right _ _).cons_cons _).cons_cons _) ?_;have hA2':=hA2.mono hm5;have hht':=hht.mono hm5;refine uA ?_;refine ap tab hA2' ?_;refine aj (k:=10) 1 ?_;refine qs rfl (cO (k:=1) tab 1 rfl rfl rfl rfl rfl rfl rfl rfl ?_);refine db 1 rfl fun m6 hm6 hAx=>?_;refine uA ?_;refine cI rfl (L':=T7) uS ⟨_,hZ,cD hm (cD hm5 hm6),⟨bx,rfl,dr (vs:=inV sc) (m:=m5) (x:=⟨47,t,false,0,false⟩) (h:=ht) (txt:=hn) (num:=hu) (how:=0) (kids:=nilS) (var:=none) (fn:=some bf) hht' htg ⟨fun e=>by omega,fun e=>by cases e⟩ mx mx mx mx mx mx (fun _ _=>rfl) m6 hm6 hAx⟩,hB7.mono hm6 (Nat.le_add_right _ _)⟩
  ·rintro ch m5 T5 ⟨g1,g2,rfl,g4⟩;exact(show Bk _ (Z=none) m L from my) _ _ _ (by rw[hZ];show Option.map _ (bodyC lv t _ _ bd)=none;rw[g1];rfl) (cD hm g2) (Hs.trans (((dl L).cons _).cons _) g4)
 ·rintro ch m4 T4 ⟨g1,g2,rfl,g4⟩;exact(show Bk _ (Z=none) m L from my) _ _ _ (by rw[hZ];show Option.bind (sigC E.tbl [] sg) _=none;rw[show sigC E.tbl [] sg=none from g1];rfl) (cD hm g2) (Hs.trans ((((hB2.hs.cons _).cons _).cons _).cons _) g4)
end
end Go.Sep
namespace Go.Sep
open Go.Proofs Go.Ck
attribute [local irreducible] TC TO OT TCallX TCall DO DOt thenQ blockQ retQ At
def OpOk (E:CE) (ex:Sc→Tree→Option X) (n:Tree):Prop:=∀(F:CF) (sc:List GS) (w:Nat) (m:Mem) (h:HTree),TreeRep m h n→CkOk E F sc m→∀ b,
 KtX Tryz.prog 187 [ptr F.c,ptr b,treeV h] E F sc w (cstL n.kids) m b (exC n.kind zH n.name n.num nilS 0 none none) (operC E.tbl ex (plain sc) n)
section
variable {E:CE} {F:CF} {sc:List GS} {w:Nat} {lv:Lv} {m:Mem} {nm:Str} {u:Int} {ks:List Tree} {h:HTree}
set_option maxHeartbeats 1000000
theorem exSel_ck (hC:CkOk E F sc m) (hr:TreeRep m h (.mk 48 nm u ks)) (hop:OpOk E lv.ex (.mk 48 nm u ks)) :
  KtE Tryz.prog 159 [ptr F.c,treeV h] E F sc w (cst (.mk 48 nm u ks)) m (exprC ⟨E.tbl,E.fns⟩ lv (plain sc) (.mk 48 nm u ks)) (vEx sc):=by
 refine dt Tryz.func159 rfl 280 rfl fun T L q Z hZ hB=>?_;have hr0:=hr;obtain⟨hr1,hr2,hr3,hr4⟩:=hr;obtain⟨hk,hn,hu,hks⟩:=h;simp only[Tree.kind,Tree.name,Tree.num,Tree.kids]at hr1 hr2 hr3 hr4;subst hr1 hr2 hr3;have hcst:cst (Tree.mk 48 hn hu ks)=2+cstL ks:=rfl;replace hZ:Z=operC E.tbl lv.ex (plain sc) (.mk 48 hn hu ks):=hZ;refine uA ?_;refine ay (fun b3=>?_);refine ay (fun bx=>?_);refine qs rfl (OT.ckX (L0:=L) [_] q (hop F sc w m ⟨48,hn,hu,hks⟩ hr0 hC bx) hB my (cC _) (dl _) (g:=some) (by rw[hZ];cases operC E.tbl lv.ex (plain sc) (.mk 48 hn hu ks)<;>rfl) nx rfl rfl rfl rfl rfl rfl goes187 (fun v m1 a cs' T1 hZ hm _ hX hB=>?_));exact el
theorem exIdx_ck (hC:CkOk E F sc m) (hr:TreeRep m h (.mk 49 nm u ks)) (hop:OpOk E lv.ex (.mk 49 nm u ks)) :
  KtE Tryz.prog 159 [ptr F.c,treeV h] E F sc w (cst (.mk 49 nm u ks)) m (exprC ⟨E.tbl,E.fns⟩ lv (plain sc) (.mk 49 nm u ks)) (vEx sc):=by
 refine dt Tryz.func159 rfl 280 rfl fun T L q Z hZ hB=>?_;have hr0:=hr;obtain⟨hr1,hr2,hr3,hr4⟩:=hr;obtain⟨hk,hn,hu,hks⟩:=h;simp only[Tree.kind,Tree.name,Tree.num,Tree.kids]at hr1 hr2 hr3 hr4;subst hr1 hr2 hr3;have hcst:cst (Tree.mk 49 hn hu ks)=2+cstL ks:=rfl;replace hZ:Z=operC E.tbl lv.ex (plain sc) (.mk 49 hn hu ks):=hZ;refine uA ?_;refine ay (fun b3=>?_);refine ay (fun bx=>?_);refine qs rfl (OT.ckX (L0:=L) [_] q (hop F sc w m ⟨49,hn,hu,hks⟩ hr0 hC bx) hB my (cC _) (dl _) (g:=some) (by rw[hZ];cases operC E.tbl lv.ex (plain sc) (.mk 49 hn hu ks)<;>rfl) nx rfl rfl rfl rfl rfl rfl goes187 (fun v m1 a cs' T1 hZ hm _ hX hB=>?_));exact el
theorem exCut_ck (hC:CkOk E F sc m) (hr:TreeRep m h (.mk 50 nm u ks)) (hop:OpOk E lv.ex (.mk 50 nm u ks)) :
  KtE Tryz.prog 159 [ptr F.c,treeV h] E F sc w (cst (.mk 50 nm u ks)) m (exprC ⟨E.tbl,E.fns⟩ lv (plain sc) (.mk 50 nm u ks)) (vEx sc):=by
 refine dt Tryz.func159 rfl 280 rfl fun T L q Z hZ hB=>?_;have hr0:=hr;obtain⟨hr1,hr2,hr3,hr4⟩:=hr;obtain⟨hk,hn,hu,hks⟩:=h;simp only[Tree.kind,Tree.name,Tree.num,Tree.kids]at hr1 hr2 hr3 hr4;subst hr1 hr2 hr3;have hcst:cst (Tree.mk 50 hn hu ks)=2+cstL ks:=rfl;replace hZ:Z=operC E.tbl lv.ex (plain sc) (.mk 50 hn hu ks):=hZ;refine uA ?_;refine ay (fun b3=>?_);refine ay (fun bx=>?_);refine qs rfl (OT.ckX (L0:=L) [_] q (hop F sc w m ⟨50,hn,hu,hks⟩ hr0 hC bx) hB my (cC _) (dl _) (g:=some) (by rw[hZ];cases operC E.tbl lv.ex (plain sc) (.mk 50 hn hu ks)<;>rfl) nx rfl rfl rfl rfl rfl rfl goes187 (fun v m1 a cs' T1 hZ hm _ hX hB=>?_));exact el
theorem exUn_ck (hC:CkOk E F sc m) (hr:TreeRep m h (.mk 52 nm u ks)) (hop:OpOk E lv.ex (.mk 52 nm u ks)) :
  KtE Tryz.prog 159 [ptr F.c,treeV h] E F sc w (cst (.mk 52 nm u ks)) m (exprC ⟨E.tbl,E.fns⟩ lv (plain sc) (.mk 52 nm u ks)) (vEx sc):=by
 refine dt Tryz.func159 rfl 280 rfl fun T L q Z hZ hB=>?_;have hr0:=hr;obtain⟨hr1,hr2,hr3,hr4⟩:=hr;obtain⟨hk,hn,hu,hks⟩:=h;simp only[Tree.kind,Tree.name,Tree.num,Tree.kids]at hr1 hr2 hr3 hr4;subst hr1 hr2 hr3;have hcst:cst (Tree.mk 52 hn hu ks)=2+cstL ks:=rfl;replace hZ:Z=operC E.tbl lv.ex (plain sc) (.mk 52 hn hu ks):=hZ;refine uA ?_;refine ay (fun b3=>?_);refine ay (fun bx=>?_);refine qs rfl (OT.ckX (L0:=L) [_] q (hop F sc w m ⟨52,hn,hu,hks⟩ hr0 hC bx) hB my (cC _) (dl _) (g:=some) (by rw[hZ];cases operC E.tbl lv.ex (plain sc) (.mk 52 hn hu ks)<;>rfl) nx rfl rfl rfl rfl rfl rfl goes187 (fun v m1 a cs' T1 hZ hm _ hX hB=>?_));exact el
theorem exBin_ck (hC:CkOk E F sc m) (hr:TreeRep m h (.mk 53 nm u ks)) (hop:OpOk E lv.ex (.mk 53 nm u ks)) :
  KtE Tryz.prog 159 [ptr F.c,treeV h] E F sc w (cst (.mk 53 nm u ks)) m (exprC ⟨E.tbl,E.fns⟩ lv (plain sc) (.mk 53 nm u ks)) (vEx sc):=by
 refine dt Tryz.func159 rfl 280 rfl fun T L q Z hZ hB=>?_;have hr0:=hr;obtain⟨hr1,hr2,hr3,hr4⟩:=hr;obtain⟨hk,hn,hu,hks⟩:=h;simp only[Tree.kind,Tree.name,Tree.num,Tree.kids]at hr1 hr2 hr3 hr4;subst hr1 hr2 hr3;have hcst:cst (Tree.mk 53 hn hu ks)=2+cstL ks:=rfl;replace hZ:Z=operC E.tbl lv.ex (plain sc) (.mk 53 hn hu ks):=hZ;refine uA ?_;refine ay (fun b3=>?_);refine ay (fun bx=>?_);refine qs rfl (OT.ckX (L0:=L) [_] q (hop F sc w m ⟨53,hn,hu,hks⟩ hr0 hC bx) hB my (cC _) (dl _) (g:=some) (by rw[hZ];cases operC E.tbl lv.ex (plain sc) (.mk 53 hn hu ks)<;>rfl) nx rfl rfl rfl rfl rfl rfl goes187 (fun v m1 a cs' T1 hZ hm _ hX hB=>?_));exact el
theorem exCall_ck (hC:CkOk E F sc m) {f:Tree} {args:List Tree} (hr:TreeRep m h (.mk 51 nm u (f::args))) (hf:ExOk E lv.ex f) (hargs:∀ a∈args,ExOk E lv.ex a) (hf48:f.kind=48→∃ y,f.kids=[y]∧ExOk E lv.ex y) (hnum:0≤u) :
  KtE Tryz.prog 159 [ptr F.c,treeV h] E F sc w (cst (.mk 51 nm u (f::args))) m (exprC ⟨E.tbl,E.fns⟩ lv (plain sc) (.mk 51 nm u (f::args))) (vEx sc):=by
 refine dt Tryz.func159 rfl 280 rfl fun T L q Z hZ hB=>?_;have hr0:=hr;obtain⟨hr1,hr2,hr3,hr4⟩:=hr;obtain⟨hk,hn,hu,hks⟩:=h;simp only[Tree.kind,Tree.name,Tree.num,Tree.kids]at hr1 hr2 hr3 hr4;subst hr1 hr2 hr3;have hcst:cst (Tree.mk 51 hn hu (f::args))=2+(cst f+cstL args):=rfl;replace hZ:Z=callC E.tbl lv.ex (plain sc) (.mk 51 hn hu (f::args)):=hZ;refine uA ?_;refine ay (fun b3=>?_);refine ay (fun bx=>?_);refine qs rfl (OT.ckX (L0:=L) [_] q (call_ck hC hr0 rfl hf hargs hf48 hnum bx) hB my (cC _) (dl _) (g:=some) (by rw[hZ];cases callC E.tbl lv.ex (plain sc) (.mk 51 hn hu (f::args))<;>rfl) mv rfl rfl rfl rfl rfl rfl goes186 (fun v m1 a cs' T1 hZ hm _ hX hB=>?_));exact el
end
end Go.Sep
namespace Go.Sep
open Go.Proofs Go.Ck
theorem bpA {α:Type} {c p t k o:α} {X Y L:List α}:(k::o::(p::t::(X++(Y++L)))).Perm (k::p::t::((o::X)++(Y++L))):=nr
theorem Bun.push {E:CE} {F:CF} {sc:List GS} {w q:Nat} {m:Mem} {T L:List Item} (h:Bun E F sc w q m T L):∃ T',T.Perm (.cells F.c 3 [scP sc,.int .i64 (w:Int)]::T') ∧
  ∀(sb mb cc:Nat) (m':Mem),m≤m'→Bun E F (⟨sb,mb,[]⟩::sc) w q m' (.cells F.c 3 [ptr sb,.int .i64 (w:Int)]::.obj mb (mapO kStr [] cc)::T') L:=by
 obtain⟨fs,fl,X,Y,h1,h2,h3,h4,h5,h6⟩:=h;exact⟨_,h6,fun sb mb cc m' hm=>⟨fs,fl,.obj mb (mapO kStr [] cc)::X,Y,h1.mono hm,h2,h3,⟨[],cc,X,fun n=>rfl,h4,by simp⟩,h5.mono hm (bF _),bpA (c:=Item.obj mb (mapO kStr [] cc))⟩⟩
theorem bpB {α:Type} {k p t o:α} {V X Y L T:List α} (h:T.Perm (k::p::t::((o::(V++X))++(Y++L)))):T.Perm (k::((o::V)++(p::t::(X++(Y++L))))):=ot
theorem Bun.pop {E:CE} {F:CF} {s:GS} {sc:List GS} {w q:Nat} {m:Mem} {T L:List Item} (h:Bun E F (s::sc) w q m T L) :
  ∃ M T2,T.Perm (.cells F.c 3 [ptr s.sb,.int .i64 (w:Int)]::(M++T2))∧∀(w' q':Nat),q'≤q→Bun E F sc w' q' m (.cells F.c 3 [scP sc,.int .i64 (w':Int)]::T2) L:=by
 obtain⟨fs,fl,X,Y,h1,h2,h3,⟨es,c,X2,h7,h8,rfl⟩,h5,h6⟩:=h;exact⟨_,_,bpB h6,fun w' q' hq=>⟨fs,fl,X2,Y,h1,h2,by omega,h8,h5.mono (cC _) hq,a9 _⟩⟩
theorem bpC {α:Type} {o b5 b3 c:α} {T:List α}:(o::b5::b3::c::T).Perm (b5::c::o::b3::T):=mJ
theorem bpD {α:Type} {o b5 b3 c:α} {T:List α}:(b3::b5::c::o::T).Perm (b5::c::o::b3::T):=mJ
attribute [local irreducible] TC TO OT TCallX TCall DO DOt thenQ blockQ retQ At
@[reducible] def stC (k:Int) (vs ls es ts th:Sl):List Value:=[.int .i64 k,vs.v,ls.v,es.v,ts.v,th.v]
theorem bpF {α:Type} {a b t:α} {L:List α}:(a::t::b::L).Perm ([a,b]++(t::L)):=mF
theorem bpE {α:Type} {a b t:α} {L:List α}:(a::b::t::L).Perm (t::b::a::L):=mJ
theorem block_ck {E:CE} {F:CF} {s:GS} {r:List GS} {w:Nat} {st:List Tree→Nat→Sc→Tree→Option Sc} {m:Mem} (hC:CkOk E F (s::r) m) {a:Tree} {h:HTree} (hr:TreeRep m h a) (hks:∀ k∈a.kids,StOk E st k) (hw:w+a.deep≤200) :
  KtS Tryz.prog 153 [ptr F.c,treeV h] E F s r w (cstL a.kids) m ((stmtsC (st (F.ft.kids.drop F.ft.num.toNat) w) ([]::plain (s::r)) a.kids).map fun _=>plain (s::r)) (fun m v=>∃ b,v=ptr b):=by
 refine KtS.enter Tryz.func153 rfl 51 rfl fun T L q Z hZ hB=>?_;generalize hR:F.ft.kids.drop F.ft.num.toNat=R at hZ;obtain⟨hr1,hr2,hr3,hr4⟩:=hr;have hlen:=hr4.len;have hfit:h.kids.len*56≤140737488355328:=hr4.fit;generalize hG:(fun _:Sc=>plain (s::r))=G at hZ;obtain⟨T1,hT1,hpush⟩:=hB.push;refine aI hT1 ?_;refine oB (fun b3=>?_);refine uA ?_;refine oB (fun b5=>?_);refine uA ?_;refine qs rfl (OT.makeMap kStr rfl rfl rfl (fun mb=>?_));refine uA ?_;refine al (k:=0) 3 ?_;refine oB (fun sb=>?_);refine uA ?_;refine db 0 rfl fun m1 hm1 hAs=>?_;refine qs rfl (cO (k:=0) tab 3 rfl rfl rfl rfl rfl rfl rfl rfl ?_);refine cM bpC ?_;have hB2:=hpush sb mb 0 m1 hm1;generalize hT2:(Item.cells F.c 3 [ptr sb,.int .i64 (w:Int)]::.obj mb (mapO kStr [] 0)::T1)=T2 at hB2;refine cM (L':=.cells b3 0 (treeC h)::.cells b5 0 (stC 20 nilS nilS nilS nilS nilS)::T2) (by rw[←hT2];exact bpD.symm) ?_;refine lr ?_;refine lA ?_;refine cH (ι:=Nat×List GV×Sl×List Nat×Mem×List Item) [0,5,21,22] rfl (fun y=>[(23,.int .i64 (y.1:Int))]) (fun y=>y.2.2.2.2.1) (fun y=>tok y.2.2.1 1::.cells b5 0 (stC 20 nilS nilS nilS nilS y.2.2.1)::y.2.2.2.2.2) (fun y=>y.1≤a.kids.length∧m1≤y.2.2.2.2.1∧SlRep rPtr y.2.2.2.2.1 y.2.2.1 y.2.2.2.1∧Own y.2.2.1∧y.2.2.2.1.length≤y.1∧ScAt y.2.2.2.2.1 F.chain (⟨sb,mb,y.2.1⟩::s::r)∧Bun E F (⟨sb,mb,y.2.1⟩::s::r) w (q+cstL (a.kids.drop y.1)) y.2.2.2.2.1 y.2.2.2.2.2 L∧Z=(stmtsC (st R w) (plain (⟨sb,mb,y.2.1⟩::s::r)) (a.kids.drop y.1)).map G) (fun y=>a.kids.length-y.1) (0,[],nilS,[],m1,T2) uH rfl uS ⟨cn _,cC _,cS _ _,cZ,cn _,⟨hAs,(fun v hv=>by cases hv),hC.sc.mono hm1⟩,hB2,hZ⟩ ?_;rintro⟨i,vs,sl,l,m2,T3⟩ ⟨hi,hm2,hsl,hol,hl,hsc,hB,hZ⟩;simp only at hi hm2 hsl hol hl hsc hB hZ;have hm:=cD hm1 hm2;have hC2:CkOk E F (⟨sb,mb,vs⟩::s::r) m2:={ hC.mono hm with sc:=hsc }
 refine uA ?_;refine am (fun hlt=>?_) (fun hlt=>?_)
 ·have hlt':i<a.kids.length:=mv;have hx:a.kids[i]? = some a.kids[i]:=mL;have hdp:=dj (bL hlt');rw[bU hlt',stmtsC]at hZ;rw[cstL_drop hx]at hB;have hr5:=hr4.mono hm;refine jP ?_;rintro b' i' h9 hrd9 hA9;refine lB ?_;refine aC tab (fun b7=>?_);refine jx ?_;refine aL [12] df 13 [.cells b7 0 (treeC h9),.cells b5 0 (stC 20 nilS nilS nilS nilS sl)] (tok sl 1::T3) bpF ?_;refine lb ?_;refine OT.ckS (L0:=L) [_,_,_] (q+cstL (a.kids.drop (i+1))) (hks _ (bL hlt') F ⟨sb,mb,vs⟩ (s::r) w m2 h9 (rTree_iff.1 hrd9) hC2 mv) hB my hm (dl _) (g:=fun sc'=>(stmtsC (st R w) sc' (a.kids.drop (i+1))).map G) (hZ.trans (by rw[hR];cases st R w (plain (⟨sb,mb,vs⟩::s::r)) a.kids[i]<;>rfl)) mv rfl rfl rfl rfl rfl rfl goes120 (fun v m3 vs' T4 hZ hm3 hm' hsc hV hB=>?_);obtain⟨bs,rfl⟩:=hV;refine⟨hm3,tok sl 1::T4,a9 _,?_⟩;refine af 8 ?_;refine de tab rPtr (hs:=[bs]) (l:=[bs]) ⟨rfl,trivial⟩ rfl rfl rfl rfl rfl mw (fun sB m4 hm4 hsB _ _=>?_);refine⟨hm4,_,a9 _,?_⟩;refine af 9 ?_;refine cU tab rPtr 2 ((hsl.mono hm3).mono hm4) hol hsB rfl rfl rfl rfl rfl rfl rfl mU (fun sl' m5 hm5 hsl' hol'=>?_);refine⟨hm5,tok sl' 1::T4,a9 _,?_⟩;refine ll ?_;refine cW ?_;refine aB 12 ?_;refine an (k:=5) 1 ?_;refine aH ?_
  rotate_left 1
  refine kV ?_;refine aI bpE ?_;exact fx
 ·have hi':i=a.kids.length:=mv;subst hi';rw[List.drop_length]at hZ;replace hZ:Z=some (G (plain (⟨sb,mb,vs⟩::s::r))):=hZ;subst hG;obtain⟨M,T4,hT4,hpop⟩:=hB.pop;refine TC.drop (L':=T3) uS ?_;refine TC.perm hT4 ?_;have hA2:=hAs.mono hm2;refine uA ?_;refine al (k:=0) 0 ?_;refine ah hA2 ?_;refine qs rfl (cO (k:=0) tab 0 rfl rfl rfl rfl rfl rfl rfl rfl ?_);refine TO.drop (L':=.cells F.c 3 [scP (s::r),.int .i64 (w:Int)]::T4) ((List.sublist_append_right _ _).cons_cons _) ?_;refine uA ?_;exact cI rfl (bZ _) ⟨_,hZ,hm,s.vs,rfl,hC.sc.mono hm,⟨b5,rfl⟩,hpop w q (Nat.le_add_right _ _)⟩
end Go.Sep
namespace Go.Sep
open Go.Proofs Go.Ck
attribute [local irreducible] TC TO OT TCallX TCall DO DOt thenQ blockQ retQ At
theorem bindS {α:Type} (o:Option α):o=o.bind some:=by cases o<;>rfl
theorem bqB {α:Type} {a b c:α} {L:List α}:(a::b::c::L).Perm ([c,b,a]++L):=mF
section
variable {E:CE} {F:CF} {s:GS} {r:List GS} {w:Nat} {lv:Lv} {m:Mem}
theorem stBlock_ck (hC:CkOk E F (s::r) m) {nm:Str} {u:Int} {ks:List Tree} {h:HTree} (hr:TreeRep m h (.mk 20 nm u ks)) (hks:∀ k∈ks,StOk E lv.st k) (hw:w+(Tree.mk 20 nm u ks).deep≤200) :
  KtS Tryz.prog 120 [ptr F.c,treeV h] E F s r w (cst (.mk 20 nm u ks)) m (stmtC ⟨E.tbl,E.fns⟩ lv (F.ft.kids.drop F.ft.num.toNat) w (plain (s::r)) (.mk 20 nm u ks)) (fun m v=>∃ b,v=ptr b):=by
 have hst:=hks;clear hks;refine KtS.enter Tryz.func120 rfl 287 rfl fun T L q Z hZ hB=>?_;have hr0:=hr;obtain⟨hr1,hr2,hr3,hr4⟩:=hr;obtain⟨hk,hn,hu,hks⟩:=h;simp only[Tree.kind,Tree.name,Tree.num,Tree.kids]at hr1 hr2 hr3 hr4;subst hr1 hr2 hr3;have hcst:cst (Tree.mk 20 hn hu ks)=2+cstL ks:=rfl;replace hZ:Z=(stmtsC (lv.st (F.ft.kids.drop F.ft.num.toNat) w) ([]::plain (s::r)) ks).map fun _=>plain (s::r):=hZ;refine uA ?_;refine ay (fun b3=>?_);refine ay (fun b5=>?_);refine qs rfl (OT.ckS (L0:=L) [_,_] q (block_ck (a:=.mk 20 hn hu ks) hC hr0 hst hw) hB my (cC _) (dl _) (g:=some) (hZ.trans (bindS _)) nx rfl rfl rfl rfl rfl rfl goes153 (fun v m1 vs' T1 hZ hm _ hsc hV hB=>?_));obtain⟨bs,rfl⟩:=hV;refine uA ?_;exact cI rfl (L':=T1) uS ⟨_,hZ,hm,vs',rfl,hsc,⟨bs,rfl⟩,hB⟩
theorem stVar_ck (hC:CkOk E F (s::r) m) {nm:Str} {u:Int} {y:Tree} {zs:List Tree} {h:HTree} (hr:TreeRep m h (.mk 21 nm u (y::zs))) (hy:y.wide≤140737488355328) (hex:∀ z∈zs,ExOk E lv.ex z) :
  KtS Tryz.prog 120 [ptr F.c,treeV h] E F s r w (cst (.mk 21 nm u (y::zs))) m (stmtC ⟨E.tbl,E.fns⟩ lv (F.ft.kids.drop F.ft.num.toNat) w (plain (s::r)) (.mk 21 nm u (y::zs))) (fun m v=>∃ b,v=ptr b):=by
 refine KtS.enter Tryz.func120 rfl 287 rfl fun T L q Z hZ hB=>?_;have hr0:=hr;obtain⟨hr1,hr2,hr3,hr4⟩:=hr;obtain⟨hk,hn,hu,hks⟩:=h;simp only[Tree.kind,Tree.name,Tree.num,Tree.kids]at hr1 hr2 hr3 hr4;subst hr1 hr2 hr3;have hcst:cst (Tree.mk 21 hn hu (y::zs))=2+(cst y+cstL zs):=rfl;replace hZ:Z=(typC E.tbl y).bind fun t=>(if 1<(y::zs).length then assignC E.tbl lv.ex (plain (s::r)) zs [t]else some ()).bind fun _=>Ck.declC (plain (s::r)) hn t:=hZ;have hlen:=hr4.len;have hfit:hks.len*56≤140737488355328:=hr4.fit;simp only[a7]at hlen;have hme:=hC.me;refine uA ?_;refine ay (fun b3=>?_);refine ay (fun b5=>?_);refine jI ?_;rintro b' i' h' hrd hA;refine jV ?_;refine qs rfl (OT.kp (L0:=L) (typ_law E F.c y hy m h' (rTree_iff.1 hrd) hC.tbl (hme.pre (xs:=[ptr E.p]))) my (cC _) ((hB.hs.cons _).cons _) hZ rfl rfl rfl rfl rfl rfl goes117 (fun v m1 t hZ hm _ hV=>?_));obtain⟨-,hV⟩:=hV;obtain⟨htg,ht,rfl,hht⟩:=hV;replace hr4:=hr4.mono hm;replace hC:=hC.mono hm;replace hB:=hB.mono hm (bF _);refine uA ?_;refine aC tab (fun b6=>?_);refine jK ?_;refine am (fun e1=>?_) (fun e1=>?_)
 ·have e0:(1:Int)<(hks.len:Int):=e1;have e1:1<(y::zs).length:=mV;rw[if_pos e1]at hZ;simp only[a7]at e1;refine uA ?_;refine aL [10] df 11 [.cells b3 0 (treeC ⟨21,hn,hu,hks⟩),.cells b5 0 (stC 21 nilS nilS nilS nilS nilS),.cells b6 0 (treeC ht)] T bqB ?_;refine kc ?_;refine ae (k:=3) 3 0 ?_;refine ae (k:=0) 5 2 ?_;refine DO.cutS tab rTree 4 1 (1+zs.length) hr4 uC uK uK rfl rfl rfl rfl rfl rfl rfl rfl rfl (.inr rfl) (.inl ⟨rfl,show 1+zs.length=hks.len by omega⟩) mv mV (fun sz hsz=>?_);replace hsz:SlRep rTree m1 sz zs:=by
   exact fC
  refine af 6 ?_;refine aM (hs:=[ht]) (l:=[t]) tab rTree ⟨rTree_iff.2 hht,trivial⟩ uH mw (fun sT m2 hm2 hsT _ _=>?_);refine⟨hm2,_,a9 _,?_⟩;refine af 7 ?_;refine OT.ck (L0:=L) [_,_,_] q (assign_ck (hC.mono hm2) (hsz.mono hm2) hex hsT) (hB.mono hm2 (bF _)) my (cD hm hm2) (dl _) hZ mv rfl rfl rfl rfl rfl rfl goes154 (fun v m3 u T4 hZ hm3 hm' hV hB=>?_);obtain⟨sE,xs,rfl,hsE,hxs⟩:=hV;refine⟨hm3,T4,a9 _,?_⟩;refine jW ?_;refine cW ?_;refine aB 10 ?_;refine an (k:=3) 1 ?_;refine aH ?_;have hm12:=cD hm2 hm3;replace hC:=hC.mono hm12;replace hht:=hht.mono hm12;have hm:=hm';exact eE
 ·have e0:¬(1:Int)<(hks.len:Int):=e1;have e1:¬1<(y::zs).length:=mV;rw[if_neg e1]at hZ;replace hZ:Z=Ck.declC (plain (s::r)) hn t:=hZ;exact eE
end
end Go.Sep
namespace Go.Sep
open Go.Proofs Go.Ck
attribute [local irreducible] TC TO OT TCallX TCall DO DOt thenQ blockQ retQ At
theorem bqC {α:Type} {a b:α} {L:List α}:(a::b::L).Perm ([b,a]++L):=mF
theorem bqD {α:Type} {a b t:α} {L:List α}:(a::t::b::L).Perm ([b,a]++(t::L)):=mF
theorem bqE {α:Type} {a b t:α} {L:List α}:(b::a::t::L).Perm (t::b::a::L):=mJ
section
variable {E:CE} {F:CF} {s:GS} {r:List GS} {w:Nat} {lv:Lv} {m:Mem}
theorem stDefine_ck (hC:CkOk E F (s::r) m) {nm:Str} {k:Nat} {ks:List Tree} {h:HTree} (hr:TreeRep m h (.mk 22 nm (k:Int) ks)) (hk:k≤ks.length) (hex:∀ z∈ks.drop k,ExOk E lv.ex z) :
  KtS Tryz.prog 120 [ptr F.c,treeV h] E F s r w (cst (.mk 22 nm (k:Int) ks)) m (stmtC ⟨E.tbl,E.fns⟩ lv (F.ft.kids.drop F.ft.num.toNat) w (plain (s::r)) (.mk 22 nm (k:Int) ks)) (fun m v=>∃ b,v=ptr b):=by
 have hkl:=hk;clear hk;refine KtS.enter Tryz.func120 rfl 287 rfl fun T L q Z hZ hB=>?_;have hr0:=hr;obtain⟨hr1,hr2,hr3,hr4⟩:=hr;obtain⟨hk,hn,hu,hks⟩:=h;simp only[Tree.kind,Tree.name,Tree.num,Tree.kids]at hr1 hr2 hr3 hr4;subst hr1 hr2 hr3;have hcst:cst (Tree.mk 22 hn (k:Int) ks)=2+cstL ks:=rfl;have hspl:=cstL_split ks k;replace hZ:Z=(valuesC lv.ex (plain (s::r)) (ks.drop k) k).bind fun ts=>declAll (plain (s::r)) (((ks.take k).map Tree.name).zip ts):=hZ;have hlen:=hr4.len;have hfit:hks.len*56≤140737488355328:=hr4.fit;refine uA ?_;refine ay (fun b3=>?_);refine ay (fun b5=>?_);refine aL [15,16] df 17 [.cells b3 0 (treeC ⟨22,hn,(k:Int),hks⟩),.cells b5 0 (stC 22 nilS nilS nilS nilS nilS)] T bqC ?_;refine cV tab uC uK [0,1,2,4,7] uK rfl ?_;refine ae (k:=3) 3 0 ?_;refine ae (k:=2) 5 0 ?_;refine ae (k:=2) 8 0 ?_;refine DO.cutS tab rTree 6 k ks.length hr4 uC uK uK rfl rfl rfl rfl rfl rfl rfl rfl rfl (.inr rfl) (.inl ⟨rfl,hlen.symm⟩) hkl (bF _) (fun sz hsz=>?_);rw[List.take_length]at hsz;refine af 9 ?_;refine OT.ck (L0:=L) [_,_] q (values_ck hC hsz hex k) hB my (cC _) (dl _) hZ mv rfl rfl rfl rfl rfl rfl goes156 (fun v m1 ts T1 hZ hm _ hV hB=>?_);obtain⟨hts,s1,s2,xs,rfl,hs1,hxs,hs2,htg⟩:=hV;refine⟨hm,T1,a9 _,?_⟩;refine cV tab uC uK [10,11,12,13,14] uK rfl ?_;refine cW ?_;refine aB 15 ?_;refine an (k:=3) 1 ?_;refine aB 16 ?_;refine OT.pureC tab rfl rfl rfl rfl ?_;refine aH ?_;refine cF ?_;replace hr4:=hr4.mono hm;have hts2:=hs2.len;refine uA ?_;refine al (k:=3) 0 ?_;refine aP (k:=2) 0 ?_;refine qs rfl (OT.cut tab rTree 0 k hr4 rfl rfl rfl rfl rfl rfl rfl (.inl ⟨rfl,rfl⟩) (.inr rfl) (cn _) hkl (fun sn hsn=>?_));rw[cB]at hsn;have hsnl:=hsn.len;have htl:(ks.take k).length=k:=nv;refine lA ?_;refine cH (ι:=Nat×List GV×Sl×List Nat×Mem×List Item) [0,5,7,86,87] rfl (fun y=>[(88,.int .i64 (y.1:Int))]) (fun y=>y.2.2.2.2.1) (fun y=>tok y.2.2.1 1::.cells b5 0 (stC 22 y.2.2.1 nilS s1 nilS nilS)::y.2.2.2.2.2) (fun y=>y.1≤k∧m1≤y.2.2.2.2.1∧SlRep rPtr y.2.2.2.2.1 y.2.2.1 y.2.2.2.1∧Own y.2.2.1∧y.2.2.2.1.length≤y.1∧ScAt y.2.2.2.2.1 F.chain (s.set y.2.1::r)∧Bun E F (s.set y.2.1::r) w q y.2.2.2.2.1 y.2.2.2.2.2 L∧Z=declAll (plain (s.set y.2.1::r)) ((((ks.take k).drop y.1).map Tree.name).zip (ts.drop y.1))) (fun y=>k-y.1) (0,s.vs,nilS,[],m1,T1) uH rfl uS ⟨cn _,cC _,cS _ _,cZ,cn _,hC.sc.mono hm,hB,(by rw[cB,cB];exact hZ)⟩ ?_
 rintro⟨i,vs,sl,l,m2,T3⟩ ⟨hi,hm2,hsl,hol,hl,hsc,hB,hZ⟩;simp only at hi hm2 hsl hol hl hsc hB hZ;have hmm:=cD hm hm2;have hC2:CkOk E F (s.set vs::r) m2:={ hC.mono hmm with sc:=hsc }
 refine uA ?_;refine am (fun hlt=>?_) (fun hlt=>?_)
 ·have hlt0:(i:Int)<(sn.len:Int):=hlt;have hlt':i<(ks.take k).length:=mv;have hlt2:i<ts.length:=mv;have hx:(ks.take k)[i]? = some (ks.take k)[i]:=bm hlt';have hx2:ts[i]? = some ts[i]:=ni;rw[bU hlt',bU hlt2,bH,List.zip_cons_cons,declAll]at hZ;have hsn2:=hsn.mono hm2;have hs22:=hs2.mono hm2;have htgi:=htg _ (bL hlt2);refine l6 ?_;rintro b' i' h9 hrd9 hA9;have hn9:=(rTree_iff.1 hrd9).name;refine lB ?_;refine aC tab (fun b9=>?_);refine jx ?_;refine aL [17] df 18 [.cells b5 0 (stC 22 sl nilS s1 nilS nilS),.cells b9 0 (treeC h9)] (tok sl 1::T3) bqD ?_;refine cV tab uC uK [0,1,2,3] uK rfl ?_;refine ae (k:=1) 4 0 ?_;refine cV tab uC uK [5,6] uK rfl ?_;refine ae (k:=1) 7 1 ?_;refine jW ?_;refine DO.index tab rTree 10 i hs22 uC uK uK rfl rfl rfl rfl rfl rfl rfl mR rfl hx2 ?_;rintro b8 i8 h8 hrd8 hA8;refine ai (k:=0) 11 hA8 ?_;refine af 12 ?_;refine OT.ckS (L0:=L) [_,_,_] q (declare_ck hC2 h9.name (rTree_iff.1 hrd8) htgi) hB my hmm (dl _) (g:=fun sc'=>declAll sc' ((((ks.take k).drop (i+1)).map Tree.name).zip (ts.drop (i+1)))) (hZ.trans (by rw[hn9])) (bF _) rfl rfl rfl rfl rfl rfl goes155 (fun v m3 vs' T4 hZ hm3 hm' hsc hV hB=>?_);obtain⟨bs,rfl⟩:=hV;refine⟨hm3,tok sl 1::T4,a9 _,?_⟩;refine af 13 ?_;refine de tab rPtr (hs:=[bs]) (l:=[bs]) ⟨rfl,trivial⟩ rfl rfl rfl rfl rfl mw (fun sB m4 hm4 hsB _ _=>?_);refine⟨hm4,_,a9 _,?_⟩;refine af 14 ?_;refine cU tab rPtr 2 ((hsl.mono hm3).mono hm4) hol hsB rfl rfl rfl rfl rfl rfl rfl mU (fun sl' m5 hm5 hsl' hol'=>?_);refine⟨hm5,tok sl' 1::T4,a9 _,?_⟩;refine cV tab uC uK [15,16] uK rfl ?_;refine cW ?_;refine aB 17 ?_;refine an (k:=1) 0 ?_;refine aH ?_
  rotate_left 1
  refine kV ?_;refine aI bqE ?_;exact fx
 ·have hlt0:¬(i:Int)<(sn.len:Int):=hlt;have hi':i=k:=mv;rw[hi',ci mv]at hZ;replace hZ:Z=some (plain (s.set vs::r)):=hZ;refine uA ?_;exact cI rfl (L':=T3) uS ⟨_,hZ,hmm,vs,rfl,hsc,⟨b5,rfl⟩,hB⟩
end
end Go.Sep
namespace Go.Sep
open Go.Proofs Go.Ck
attribute [local irreducible] TC TO OT TCallX TCall DO DOt thenQ blockQ retQ At
theorem bqF {α:Type} {a t u b:α} {L:List α}:(a::t::u::b::L).Perm ([b]++(a::t::u::L)):=mF
theorem bqG {α:Type} {a t u b c:α} {L:List α}:(b::a::t::u::c::L).Perm (t::u::b::c::a::L):=mJ
def plcC (ex:Sc→Tree→Option X) (sc:Sc) (p:Tree):Option Tree:=(valC ex sc p).bind fun x=>(Ck.want x.place).map fun _=>x.type
section
variable {E:CE} {F:CF} {s:GS} {r:List GS} {w:Nat} {lv:Lv} {m:Mem}
theorem stAssign_ck (hC:CkOk E F (s::r) m) {nm:Str} {k:Nat} {ks:List Tree} {h:HTree} (hr:TreeRep m h (.mk 23 nm (k:Int) ks)) (hk:k≤ks.length) (hex:∀ z∈ks,ExOk E lv.ex z) :
  KtS Tryz.prog 120 [ptr F.c,treeV h] E F s r w (cst (.mk 23 nm (k:Int) ks)) m (stmtC ⟨E.tbl,E.fns⟩ lv (F.ft.kids.drop F.ft.num.toNat) w (plain (s::r)) (.mk 23 nm (k:Int) ks)) (fun m v=>∃ b,v=ptr b):=by
 have hkl:=hk;clear hk;refine KtS.enter Tryz.func120 rfl 287 rfl fun T L q Z hZ hB=>?_;have hr0:=hr;obtain⟨hr1,hr2,hr3,hr4⟩:=hr;obtain⟨hk,hn,hu,hks⟩:=h;simp only[Tree.kind,Tree.name,Tree.num,Tree.kids]at hr1 hr2 hr3 hr4;subst hr1 hr2 hr3;have hcst:cst (Tree.mk 23 hn (k:Int) ks)=2+cstL ks:=rfl;have hspl:=cstL_split ks k;replace hZ:Z=((ks.take k).mapM (plcC lv.ex (plain (s::r)))).bind fun ts=>(assignC E.tbl lv.ex (plain (s::r)) (ks.drop k) ts).map fun _=>plain (s::r):=hZ;generalize hG:(fun ts=>(assignC E.tbl lv.ex (plain (s::r)) (ks.drop k) ts).map fun _=>plain (s::r))=G at hZ;have hlen:=hr4.len;have hfit:hks.len*56≤140737488355328:=hr4.fit;refine uA ?_;refine ay (fun b3=>?_);refine ay (fun b5=>?_);refine qs rfl (OT.cut tab rTree 0 k hr4 rfl rfl rfl rfl rfl rfl rfl (.inl ⟨rfl,rfl⟩) (.inr rfl) (cn _) hkl (fun sn hsn=>?_));rw[cB]at hsn;have hsnl:=hsn.len;have htl:(ks.take k).length=k:=nv;refine lA ?_;refine cY (size:=4) ?_;refine cH (ι:=Nat×Sl×Sl×List Nat×List Tree×Mem×List Item) [0,3,5,117,118] rfl (fun y=>[(119,.int .i64 (y.1:Int)),(10,y.2.2.1.v)]) (fun y=>y.2.2.2.2.2.1) (fun y=>tok y.2.2.1 4::tok y.2.1 1::.cells b5 0 (stC 23 nilS y.2.1 nilS nilS nilS)::.cells b3 0 (treeC ⟨23,hn,(k:Int),hks⟩)::y.2.2.2.2.2.2) (fun y=>y.1≤k∧m≤y.2.2.2.2.2.1∧SlRep rPtr y.2.2.2.2.2.1 y.2.1 y.2.2.2.1∧Own y.2.1∧y.2.2.2.1.length=y.1∧SlRep rTree y.2.2.2.2.2.1 y.2.2.1 y.2.2.2.2.1∧Own y.2.2.1∧y.2.2.2.2.1.length=y.1∧Bun E F (s::r) w (q+cstL (ks.drop k)+cstL ((ks.take k).drop y.1)) y.2.2.2.2.2.1 y.2.2.2.2.2.2 L∧Z=(((ks.take k).drop y.1).mapM (plcC lv.ex (plain (s::r)))).bind fun r=>G (y.2.2.2.2.1++r)) (fun y=>k-y.1) (0,nilS,nilS,[],[],m,T) uH rfl uS ⟨cn _,cC _,cS _ _,cZ,rfl,cS _ _,cZ,rfl,hB.mono (cC _) (by rw[cB];omega),(by rw[cB];exact hZ)⟩ ?_
 rintro⟨i,s1,s2,xs,ts,m2,T3⟩ ⟨hi,hm2,hs1,ho1,hx1,hs2,ho2,hx2,hB,hZ⟩;simp only at hi hm2 hs1 ho1 hx1 hs2 ho2 hx2 hB hZ;have hC2:=hC.mono hm2;have hr5:=hr4.mono hm2;refine uA ?_;refine am (fun hlt=>?_) (fun hlt=>?_)
 ·have hlt0:(i:Int)<(sn.len:Int):=hlt;have hlt':i<(ks.take k).length:=mv;have hx:(ks.take k)[i]? = some (ks.take k)[i]:=bm hlt';have hmem:(ks.take k)[i]∈ks:=cv (bL hlt');generalize hee:(ks.take k)[i]=e at hx hmem;rw[bU hlt',mapM_cons',hee]at hZ;rw[cstL_drop hx]at hB;have hsn2:=hsn.mono hm2;refine l6 ?_;rintro b' i' h9 hrd9 hA9;refine lB ?_;refine aC tab (fun b12=>?_);refine jK ?_;refine qs rfl (OT.ck (L0:=L) [_,_,_,_,_] (q+cstL (ks.drop k)+cstL ((ks.take k).drop (i+1))) (value_ck (hex _ hmem F (s::r) w m2 h9 (rTree_iff.1 hrd9) hC2)) hB my hm2 (dl _) (g:=fun x=>(Ck.want x.place).bind fun _=>(((ks.take k).drop (i+1)).mapM (plcC lv.ex (plain (s::r)))).bind fun r=>G (ts++[x.type]++r)) (hZ.trans (by
   unfold plcC;cases valC lv.ex (plain (s::r)) e with
   | none=>rfl
   | some x =>
    refine lj ?_;cases x.place with
    | false=>rfl
    | true =>
     show Option.bind (Option.bind (some x.type) _) _=_;refine lj ?_;show _=Option.bind _ _;cases List.mapM (fun p=>(valC lv.ex (plain (s::r)) p).bind fun x=>(Ck.want x.place).map fun _=>x.type) ((ks.take k).drop (i+1))with
     | none=>rfl
     | some r=>simp;rfl)) mv rfl rfl rfl rfl rfl rfl goes157 (fun v m3 x T4 hZ hm3 hm' hV hB=>?_))
  obtain⟨-,b,rfl,hX⟩:=hV;obtain⟨t3,k3,v3,f3,⟨⟨g3,num3,how3,hr3,hA3,-⟩,hg3⟩⟩:=hX.eb;replace hs1:=hs1.mono hm3;replace hs2:=hs2.mono hm3;have hsm1:=hs1.small rfl;refine uA ?_;refine au goes158 (cplace_law _ F.c _ _ b x hX) ?_;refine qs rfl (du (b:=x.place) (L0:=L) my hm' (dm [_,_,_,_,_] hB.hs) hZ rfl rfl rfl rfl rfl rfl (fun ew hZ=>?_));refine uA ?_;refine aL [17,18] df 19 [.cells b5 0 (stC 23 nilS s1 nilS nilS nilS)] _ bqF ?_;refine cV tab uC uK [0,1,2,3,5,8,9,10,11] uK rfl ?_;refine ae (k:=2) 4 0 ?_;refine ai (k:=1) 12 hA3 ?_;refine DO.fork 6 [13] uK ⟨⟨_,rfl,rfl,rfl,?_⟩,⟨_,rfl,rfl,rfl,?_⟩,trivial⟩
  ·refine de tab rPtr (hs:=[b]) (l:=[b]) ⟨rfl,trivial⟩ rfl rfl rfl rfl rfl mw (fun sA m4 h4 hsA _ _=>?_);refine⟨h4,_,a9 _,?_⟩;refine DO.fork 7 [13] uK ⟨⟨_,rfl,rfl,rfl,?_⟩,⟨_,rfl,rfl,rfl,?_⟩,trivial⟩
   ·refine cU tab rPtr 3 (hs1.mono h4) ho1 hsA rfl rfl rfl rfl rfl rfl rfl mU (fun s1' m5 h5 hs1' ho1'=>?_);refine⟨h5,_,a9 _,?_⟩;refine af 13 ?_;refine de tab rTree (hs:=[g3]) (l:=[x.type]) ⟨rTree_iff.2 (((hr3.mono h4).mono h5)),trivial⟩ rfl rfl rfl rfl rfl mw (fun sB m6 h6 hsB _ _=>?_);refine⟨h6,_,a9 _,?_⟩;refine af 14 ?_;refine cU tab rTree 2 (((hs2.mono h4).mono h5).mono h6) ho2 hsB rfl rfl rfl rfl rfl rfl rfl mI (fun s2' m7 h7 hs2' ho2'=>?_);refine⟨h7,_,a9 _,?_⟩;have hm36:m2≤m7:=cD hm3 (cD (cD h4 h5) (cD h6 h7));refine kj ?_;refine jz ?_;exact⟨(i+1,s1',s2',xs++[b],ts++[x.type],m7,T4),uH,uH,rfl,rfl,uS,⟨by omega,cD hm2 hm36,((hs1'.mono h6).mono h7),ho1',by simp only[a6,a7,a8];omega,hs2',ho2',by simp only[a6,a7,a8];omega,hB.mono (cD (cD h4 h5) (cD h6 h7)) (bF _),hZ⟩,by simp only;omega⟩
   ·refine de tab rTree (hs:=[g3]) (l:=[x.type]) ⟨rTree_iff.2 ((hr3.mono h4)),trivial⟩ rfl rfl rfl rfl rfl mw (fun sB m5 h5 hsB _ _=>?_);refine⟨h5,_,a9 _,?_⟩;refine af 7 ?_;refine cU tab rPtr 3 ((hs1.mono h4).mono h5) ho1 (hsA.mono h5) rfl rfl rfl rfl rfl rfl rfl mU (fun s1' m6 h6 hs1' ho1'=>?_);refine⟨h6,_,a9 _,?_⟩;refine af 14 ?_;refine cU tab rTree 2 (((hs2.mono h4).mono h5).mono h6) ho2 (hsB.mono h6) rfl rfl rfl rfl rfl rfl rfl mI (fun s2' m7 h7 hs2' ho2'=>?_);refine⟨h7,_,a9 _,?_⟩;exact eD
  ·refine de tab rTree (hs:=[g3]) (l:=[x.type]) ⟨rTree_iff.2 (hr3),trivial⟩ rfl rfl rfl rfl rfl mw (fun sB m4 h4 hsB _ _=>?_);refine⟨h4,_,a9 _,?_⟩;refine af 6 ?_;refine de tab rPtr (hs:=[b]) (l:=[b]) ⟨rfl,trivial⟩ rfl rfl rfl rfl rfl mw (fun sA m5 h5 hsA _ _=>?_);refine⟨h5,_,a9 _,?_⟩;refine af 7 ?_;refine cU tab rPtr 3 ((hs1.mono h4).mono h5) ho1 hsA rfl rfl rfl rfl rfl rfl rfl mU (fun s1' m6 h6 hs1' ho1'=>?_);refine⟨h6,_,a9 _,?_⟩;refine af 14 ?_;refine cU tab rTree 2 (((hs2.mono h4).mono h5).mono h6) ho2 ((hsB.mono h5).mono h6) rfl rfl rfl rfl rfl rfl rfl mI (fun s2' m7 h7 hs2' ho2'=>?_);refine⟨h7,_,a9 _,?_⟩;exact eD
 ·have hlt0:¬(i:Int)<(sn.len:Int):=hlt;have hi':i=k:=mv;have hdn:(ks.take k).drop k=[]:=ci mv;rw[hi',hdn]at hZ hB;replace hZ:Z=G ts:=by rw[hZ];simp
  subst hG;refine uA ?_;refine al (k:=3) 3 ?_;refine aP (k:=2) 3 ?_;refine qs rfl (OT.cut tab rTree k ks.length hr5 rfl rfl rfl rfl rfl rfl rfl (.inr rfl) (.inl ⟨rfl,hlen.symm⟩) hkl (bF _) (fun sz hsz=>?_));rw[List.take_length]at hsz;refine uA ?_;refine qs rfl (OT.ck (L0:=L) [_,_,_,_] q (assign_ck hC2 hsz (fun z hz=>hex z (List.mem_of_mem_drop hz)) hs2) hB my hm2 (dl _) (g:=fun _=>some (plain (s::r))) (hZ.trans (mapB _ _)) (Nat.le_add_right _ _) rfl rfl rfl rfl rfl rfl goes154 (fun v m3 u T4 hZ hm3 hm' hV hB=>?_));obtain⟨sE,ys,rfl,hsE,hys⟩:=hV;refine uA ?_;refine aj (k:=3) 2 ?_;exact cI rfl (L':=T4) uS ⟨_,hZ,hm',s.vs,rfl,hC.sc.mono hm',⟨b5,rfl⟩,hB⟩
end
end Go.Sep
namespace Go.Sep
open Go.Proofs Go.Ck
section
variable {P:Program} {N:Nat} {ρ:Env} {m:Mem} {T:List Item} {Q:EPost} {o:Oper} {K:Env→Mem→List Item→Prop} {β:Type}
theorem OT.ckSx {V:Mem→Value→Prop} {FF:Operand} {args:List Operand} {ats:Array TypeId} {f:FuncId} {first cap vs all:List Value} {d:Nat} {E:CE} {F:CF} {s:GS} {r:List GS} {w c q':Nat} {L:List Item} {X:Option Sc} {m0:Mem} {L0:List Item} {Z:Option β} {g:Sc→Option β}
  (xs:List Item) (q:Nat) (hp:KtS P f all E F s r w c m X V) (hB:Bun E F (s::r) w q' m T L) (hb:Bk Q (Z=none) m0 L0) (hm:m0≤m) (hL:Hs L0 L) (hZ:Z=X.bind g) (hq:q+c≤q')
  (ho:o.op = .call ⟨.value FF,⟨args⟩,ats⟩) (hd:o.dst=some d) (hN:Nat.blt d N=true)
  (hF:ev ρ FF=some (.func (.func f) ⟨first⟩ ⟨cap⟩)) (ha:evs ρ args=some vs) (hall:fl (first++(vs++cap))=some all) (hg:Goes P f)
  (hK:∀ v m' vs' T',X=some (plain (s.set vs'::r))→Z=g (plain (s.set vs'::r))→m≤m'→m0≤m'→ScAt m' F.chain (s.set vs'::r)→V m' v→Bun E F (s.set vs'::r) w q m' T' L→K ((d,v)::ρ) m' (xs++T')):OT P N o ρ [] m (xs++T) Q K :=
 OT.ktG (R:=fun a m' v T'=>X=some a∧∃ vs',a=plain (s.set vs'::r)∧ScAt m' F.chain (s.set vs'::r)∧V m' v∧Bun E F (s.set vs'::r) w q m' T' (xs++L)) (R2:=fun a m' v T'=>X=some a∧∃ vs',a=plain (s.set vs'::r)∧ScAt m' F.chain (s.set vs'::r)∧V m' v∧Bun E F (s.set vs'::r) w q m' T' L) xs
  (cE (hp _ _ q ((hB.more xs).mono (cC _) hq)) (fun v m' T' h=>by obtain⟨a,h1,h2,h3⟩:=h;exact⟨a,h1,h2,h1,h3⟩) (fun _ _ _ h=>h))
  (fun a m' v T' h=>by
   obtain⟨e0,vs',e1,e2,e3,h⟩:=h;obtain⟨T2,h5,h6⟩:=h.less xs;exact⟨T2,h6,e0,vs',e1,e2,e3,h5⟩) hb hm hL hZ ho hd hN hF ha hall hg fun v m' a T' h1 h2 h3 h4=>by
    obtain⟨e0,vs',rfl,e2,e3,h4⟩:=h4;exact hK v m' vs' T' e0 h1 h2 h3 e2 e3 h4
end
attribute [local irreducible] TC TO OT TCallX TCall DO DOt thenQ blockQ retQ At
def Keeps (st:List Tree→Nat→Sc→Tree→Option Sc) (n:Tree):Prop:=∀ R w sc sc',st R w sc n=some sc'→sc'=sc
section
variable {E:CE} {F:CF} {s:GS} {r:List GS} {w:Nat} {lv:Lv} {m:Mem}
theorem stExpr_ck (hC:CkOk E F (s::r) m) {nm:Str} {u:Int} {y:Tree} {h:HTree} (hr:TreeRep m h (.mk 24 nm u [y])) (hex:ExOk E lv.ex y) :
  KtS Tryz.prog 120 [ptr F.c,treeV h] E F s r w (cst (.mk 24 nm u [y])) m (stmtC ⟨E.tbl,E.fns⟩ lv (F.ft.kids.drop F.ft.num.toNat) w (plain (s::r)) (.mk 24 nm u [y])) (fun m v=>∃ b,v=ptr b):=by
 refine KtS.enter Tryz.func120 rfl 287 rfl fun T L q Z hZ hB=>?_;have hr0:=hr;obtain⟨hr1,hr2,hr3,hr4⟩:=hr;obtain⟨hk,hn,hu,hks⟩:=h;simp only[Tree.kind,Tree.name,Tree.num,Tree.kids]at hr1 hr2 hr3 hr4;subst hr1 hr2 hr3;have hcst:cst (Tree.mk 24 hn hu [y])=2+(cst y+0):=rfl;replace hZ:Z=(lv.ex (plain (s::r)) y).bind fun x=>(Ck.want (!decide (x.how=3)&&!decide (x.how=4))).map fun _=>plain (s::r):=hZ;refine uA ?_;refine ay (fun b3=>?_);refine ay (fun b5=>?_);refine jI ?_;rintro b' i' h' hrd hA;refine jV ?_;refine qs rfl (OT.ck (L0:=L) [_,_] q (hex F (s::r) w m h' (rTree_iff.1 hrd) hC) hB my (cC _) (dl _) hZ mv rfl rfl rfl rfl rfl rfl goes159 (fun v m1 x T1 hZ hm _ hV hB=>?_));obtain⟨b,rfl,hX⟩:=hV;obtain⟨t3,k3,v3,f3,⟨⟨g3,num3,how3,hr3,hA3,-,hw3,hw4⟩,hg3⟩⟩:=hX.eb;refine uA ?_;refine ah (k:=8) hA3 ?_;refine cL rfl rfl (fun e1=>?_) (fun e1=>?_)
 ·have e1':¬x.how=3:=fun e=>e1 (hw3.2 e);refine uA ?_;refine ah (k:=8) hA3 ?_;refine qs rfl (du (L0:=L) my hm (dm [_,_] hB.hs) (hZ.trans (by
   rw[mapB];exact congrArg (fun b=>Option.bind (Ck.want b) _) (by rw[bR e1',Bool.not_false,bP] ;by_cases e4:how3=4<;>simp[e4,(show(x.how=4↔how3=4) from hw4.symm)]))) rfl rfl rfl rfl rfl rfl (fun e hZ=>?_))
  exact fA
 ·have e1':x.how=3:=hw3.1 mv;refine uA ?_;refine qs rfl (du (L0:=L) my hm (dm [_,_] hB.hs) (hZ.trans (by
   rw[mapB];exact congrArg (fun b=>Option.bind (Ck.want b) _) (by rw[bQ e1'] ;rfl))) rfl rfl rfl rfl rfl rfl (fun e hZ=>?_))
  exact fA
theorem stReturn_ck (hC:CkOk E F (s::r) m) {nm:Str} {u:Int} {ks:List Tree} {h:HTree} (hr:TreeRep m h (.mk 27 nm u ks)) (hex:∀ z∈ks,ExOk E lv.ex z) :
  KtS Tryz.prog 120 [ptr F.c,treeV h] E F s r w (cst (.mk 27 nm u ks)) m (stmtC ⟨E.tbl,E.fns⟩ lv (F.ft.kids.drop F.ft.num.toNat) w (plain (s::r)) (.mk 27 nm u ks)) (fun m v=>∃ b,v=ptr b):=by
 refine KtS.enter Tryz.func120 rfl 287 rfl fun T L q Z hZ hB=>?_;have hr0:=hr;obtain⟨hr1,hr2,hr3,hr4⟩:=hr;obtain⟨hk,hn,hu,hks⟩:=h;simp only[Tree.kind,Tree.name,Tree.num,Tree.kids]at hr1 hr2 hr3 hr4;subst hr1 hr2 hr3;have hcst:cst (Tree.mk 27 hn hu ks)=2+cstL ks:=rfl;replace hZ:Z=(assignC E.tbl lv.ex (plain (s::r)) ks (F.ft.kids.drop F.ft.num.toNat)).map fun _=>plain (s::r):=hZ;have hme:=hC.me;obtain⟨ht,hht,hfA⟩:=hC.ft;obtain⟨g1,g2⟩:=tg_fn hC.ftg.1 hC.ftg.2;refine uA ?_;refine ay (fun b3=>?_);refine ay (fun b5=>?_);refine ah (k:=2) hme ?_;refine ap tab hfA ?_;refine oC goes121 ((cresults_law F.ft g1 g2 _ _ ht hht).x ?_);rintro _ _ _ ⟨rfl,rfl,sr,rfl,hsr⟩;refine uA ?_;refine aj (k:=4) 0 ?_;refine aL [11] df 12 [.cells b3 0 (treeC ⟨27,hn,hu,hks⟩),.cells b5 0 (stC 27 nilS nilS nilS sr nilS)] T bqC ?_;refine cV tab uC uK [0,1,2,4,5,6] uK rfl ?_;refine ae (k:=3) 3 0 ?_;refine ae (k:=4) 7 1 ?_;refine af 8 ?_;refine OT.ck (L0:=L) [_,_] q (assign_ck hC hr4 hex hsr) hB my (cC _) (dl _) (g:=fun _=>some (plain (s::r))) (hZ.trans (mapB _ _)) mv rfl rfl rfl rfl rfl rfl goes154 (fun v m1 u T1 hZ hm _ hV hB=>?_);obtain⟨sE,ys,rfl,hsE,hys⟩:=hV;refine⟨hm,T1,a9 _,?_⟩;refine cV tab uC uK [9,10] uK rfl ?_;refine cW ?_;refine aB 11 ?_;refine an (k:=3) 1 ?_;refine DOt.nil uK ?_;refine uA ?_;exact cI rfl (L':=T1) uS ⟨_,hZ,hm,s.vs,rfl,hC.sc.mono hm,⟨b5,rfl⟩,hB⟩
theorem stBreak_ck (hC:CkOk E F (s::r) m) {k:Int} (hk:k=28∨k=29) {nm:Str} {u:Int} {ks:List Tree} {h:HTree} (hr:TreeRep m h (.mk k nm u ks)) :
  KtS Tryz.prog 120 [ptr F.c,treeV h] E F s r w (cst (.mk k nm u ks)) m (stmtC ⟨E.tbl,E.fns⟩ lv (F.ft.kids.drop F.ft.num.toNat) w (plain (s::r)) (.mk k nm u ks)) (fun m v=>∃ b,v=ptr b):=by
 rcases hk with rfl | rfl
 all_goals
  refine KtS.enter Tryz.func120 rfl 287 rfl fun T L q Z hZ hB=>?_;have hr0:=hr;obtain⟨hr1,hr2,hr3,hr4⟩:=hr;obtain⟨hk,hn,hu,hks⟩:=h;simp only[Tree.kind,Tree.name,Tree.num,Tree.kids]at hr1 hr2 hr3 hr4;subst hr1 hr2 hr3;replace hZ:Z=(Ck.want (decide (0<w))).map fun _=>plain (s::r):=hZ;obtain⟨T1,hT1,hT1b⟩:=hB.head;refine aI hT1 ?_;refine ay (fun b3=>?_);refine ay (fun b5=>?_);refine al (k:=1) 2 ?_;refine qs rfl (du (b:=decide ((0:Int)<(w:Int))) (L0:=L) my (cC _) (dm [_,_] ((hT1b w q m (cC _) mv).hs)) (hZ.trans (by
   rw[mapB];exact congrArg (fun b=>Option.bind (Ck.want b) _) (decide_eq_decide.2 mv))) rfl rfl rfl rfl rfl rfl (fun e hZ=>?_))
  refine uA ?_;exact cI rfl (L':=.cells F.c 3 [scP (s::r),.int .i64 (w:Int)]::T1) uS ⟨_,hZ,cC _,s.vs,rfl,hC.sc,⟨b5,rfl⟩,hT1b w q m (cC _) mv⟩
end
end Go.Sep
namespace Go.Sep
open Go.Proofs Go.Ck
attribute [local irreducible] TC TO OT TCallX TCall DO DOt thenQ blockQ retQ At
theorem bqH {α:Type} {a b:α} {T:List α} {T':List α} {c:α} (h:T.Perm (c::T')):(a::b::T).Perm ([a,b]++(c::T')):=nD
section
variable {E:CE} {F:CF} {s:GS} {r:List GS} {w:Nat} {lv:Lv} {m:Mem}
theorem stIf_ck (hC:CkOk E F (s::r) m) {nm:Str} {u:Int} {y:Tree} {zs:List Tree} {h:HTree} (hr:TreeRep m h (.mk 25 nm u (y::zs))) (hex:ExOk E lv.ex y) (hst:∀ z∈zs,StOk E lv.st z∧Keeps lv.st z) (hw:w+(Tree.mk 25 nm u (y::zs)).deep≤200) :
  KtS Tryz.prog 120 [ptr F.c,treeV h] E F s r w (cst (.mk 25 nm u (y::zs))) m (stmtC ⟨E.tbl,E.fns⟩ lv (F.ft.kids.drop F.ft.num.toNat) w (plain (s::r)) (.mk 25 nm u (y::zs))) (fun m v=>∃ b,v=ptr b):=by
 refine KtS.enter Tryz.func120 rfl 287 rfl fun T L q Z hZ hB=>?_;have hr0:=hr;obtain⟨hr1,hr2,hr3,hr4⟩:=hr;obtain⟨hk,hn,hu,hks⟩:=h;simp only[Tree.kind,Tree.name,Tree.num,Tree.kids]at hr1 hr2 hr3 hr4;subst hr1 hr2 hr3;have hcst:cst (Tree.mk 25 hn hu (y::zs))=2+(cst y+cstL zs):=rfl;replace hZ:Z=(ofC lv.ex 2 (plain (s::r)) y).bind fun _=>(stmtsC (lv.st (F.ft.kids.drop F.ft.num.toNat) w) (plain (s::r)) zs).map fun _=>plain (s::r):=hZ;generalize hR:F.ft.kids.drop F.ft.num.toNat=R at hZ;generalize hG:(fun _:Sc=>plain (s::r))=G at hZ;have hlen:=hr4.len;have hfit:hks.len*56≤140737488355328:=hr4.fit;simp only[a7]at hlen;have hdz:∀ z∈zs,z.deep<(Tree.mk 25 hn hu (y::zs)).deep:=fun z hz=>dj (a:=.mk 25 hn hu (y::zs)) (List.mem_cons_of_mem _ hz);refine uA ?_;refine ay (fun b3=>?_);refine ay (fun b5=>?_);refine jI ?_;rintro b' i' h' hrd hA;refine jV ?_;refine qs rfl (OT.ck (L0:=L) [_,_] (q+cstL zs) (typed_ck 2 (hex F (s::r) w m h' (rTree_iff.1 hrd) hC)) hB my (cC _) (dl _) hZ mv rfl rfl rfl rfl rfl rfl goes160 (fun v m1 x T1 hZ hm _ hV hB=>?_));obtain⟨-,-,b,rfl,hX⟩:=hV;refine uA ?_;refine av (hs:=[b]) (l:=[b]) tab rPtr ⟨rfl,trivial⟩ uH mw (fun sA m2 hm2 hsA _ _=>?_);replace hm:=cD hm hm2;replace hC:=hC.mono hm;replace hr4:=hr4.mono hm;replace hB:=hB.mono hm2 (bF _);refine uA ?_;refine qs rfl (cO (k:=3) tab 0 rfl rfl rfl rfl rfl rfl rfl rfl ?_);refine uL ?_;refine qs rfl (OT.cut tab rTree 1 (1+zs.length) hr4 rfl rfl rfl rfl rfl rfl rfl (.inr rfl) (.inl ⟨rfl,show 1+zs.length=hks.len by omega⟩) mv mV (fun sz hsz=>?_));replace hsz:SlRep rTree m2 sz zs:=by
  exact fC
 have hzl:=hsz.len;refine lA ?_;refine cH (ι:=Nat×List GV×Sl×List Nat×Mem×List Item) [0,5,223,224] rfl (fun y=>[(225,.int .i64 (y.1:Int))]) (fun y=>y.2.2.2.2.1) (fun y=>tok y.2.2.1 1::.cells b5 0 (stC 25 nilS nilS sA nilS y.2.2.1)::y.2.2.2.2.2) (fun y=>y.1≤zs.length∧m2≤y.2.2.2.2.1∧SlRep rPtr y.2.2.2.2.1 y.2.2.1 y.2.2.2.1∧Own y.2.2.1∧y.2.2.2.1.length≤y.1∧ScAt y.2.2.2.2.1 F.chain (s.set y.2.1::r)∧plain (s.set y.2.1::r)=plain (s::r)∧Bun E F (s.set y.2.1::r) w (q+cstL (zs.drop y.1)) y.2.2.2.2.1 y.2.2.2.2.2 L∧Z=(stmtsC (lv.st R w) (plain (s.set y.2.1::r)) (zs.drop y.1)).map G) (fun y=>zs.length-y.1) (0,s.vs,nilS,[],m2,T1) uH rfl uS ⟨cn _,cC _,cS _ _,cZ,cn _,hC.sc,rfl,hB,hZ⟩ ?_;rintro⟨i,vs,sl,l,m3,T3⟩ ⟨hi,hm3,hsl,hol,hl,hsc,hpl,hB,hZ⟩;simp only at hi hm3 hsl hol hl hsc hpl hB hZ;have hmm:=cD hm hm3;have hC2:CkOk E F (s.set vs::r) m3:={ hC.mono hm3 with sc:=hsc }
 refine uA ?_;refine am (fun hlt=>?_) (fun hlt=>?_)
 ·have hlt0:(i:Int)<(sz.len:Int):=hlt;have hlt':i<zs.length:=mv;have hx:zs[i]? = some zs[i]:=mL;have hmem:=bL hlt';have hdp:=hdz _ hmem;obtain⟨hsti,hkp⟩:=hst _ hmem;generalize hee:zs[i]=e at hx hmem hdp hsti hkp;rw[bU hlt',stmtsC,hee]at hZ;rw[cstL_drop hx]at hB;have hr5:=hsz.mono hm3;refine jP ?_;rintro b' i' h9 hrd9 hA9;refine lB ?_;refine aC tab (fun b16=>?_);refine jx ?_;refine aL [12] df 13 [.cells b16 0 (treeC h9),.cells b5 0 (stC 25 nilS nilS sA nilS sl)] (tok sl 1::T3) bpF ?_;refine lb ?_;refine OT.ckSx (L0:=L) [_,_,_] (q+cstL (zs.drop (i+1))) (hsti F (s.set vs) r w m3 h9 (rTree_iff.1 hrd9) hC2 mv) hB my hmm (dl _) (g:=fun sc'=>(stmtsC (lv.st R w) sc' (zs.drop (i+1))).map G) (hZ.trans (by rw[hR];cases lv.st R w (plain (s.set vs::r)) e<;>rfl)) mv rfl rfl rfl rfl rfl rfl goes120 (fun v m4 vs' T4 hX hZ hm4 hm' hsc hV hB=>?_);obtain⟨bs,rfl⟩:=hV;refine⟨hm4,tok sl 1::T4,a9 _,?_⟩;refine af 8 ?_;refine de tab rPtr (hs:=[bs]) (l:=[bs]) ⟨rfl,trivial⟩ rfl rfl rfl rfl rfl mw (fun sB m5 hm5 hsB _ _=>?_);refine⟨hm5,_,a9 _,?_⟩;refine af 9 ?_;refine cU tab rPtr 2 ((hsl.mono hm4).mono hm5) hol hsB rfl rfl rfl rfl rfl rfl rfl mU (fun sl' m6 hm6 hsl' hol'=>?_);refine⟨hm6,tok sl' 1::T4,a9 _,?_⟩;refine ll ?_;refine cW ?_;refine aB 12 ?_;refine an (k:=5) 1 ?_;refine aH ?_
  rotate_left 1
  refine kV ?_;refine aI bpE ?_;refine jz ?_;exact⟨(i+1,vs',sl',l++[bs],m6,T4),uH,uH,rfl,rfl,uS,⟨by omega,cD hm3 (cD hm4 (cD hm5 hm6)),hsl',hol',by simp only[a6,a7,a8];omega,hsc.mono (cD hm5 hm6),(hkp _ _ _ _ hX).trans hpl,hB.mono (cD hm5 hm6) (bF _),hZ⟩,by simp only;omega⟩
 ·have hlt0:¬(i:Int)<(sz.len:Int):=hlt;have hi':i=zs.length:=mv;rw[hi',List.drop_length]at hZ;replace hZ:Z=some (G (plain (s.set vs::r))):=hZ;subst hG;refine uA ?_;exact cI rfl (L':=T3) uS ⟨_,hZ,hmm,vs,hpl.symm,hsc,⟨b5,rfl⟩,hB.mono (cC _) (Nat.le_add_right _ _)⟩
theorem stFor1_ck (hC:CkOk E F (s::r) m) {nm:Str} {u:Int} {bd:Tree} {h:HTree} (hr:TreeRep m h (.mk 26 nm u [bd])) (hst:StOk E lv.st bd) (hkp:Keeps lv.st bd) (hw:w+(Tree.mk 26 nm u [bd]).deep≤200) :
  KtS Tryz.prog 120 [ptr F.c,treeV h] E F s r w (cst (.mk 26 nm u [bd])) m (stmtC ⟨E.tbl,E.fns⟩ lv (F.ft.kids.drop F.ft.num.toNat) w (plain (s::r)) (.mk 26 nm u [bd])) (fun m v=>∃ b,v=ptr b):=by
 refine KtS.enter Tryz.func120 rfl 287 rfl fun T L q Z hZ hB=>?_;have hr0:=hr;obtain⟨hr1,hr2,hr3,hr4⟩:=hr;obtain⟨hk,hn,hu,hks⟩:=h;simp only[Tree.kind,Tree.name,Tree.num,Tree.kids]at hr1 hr2 hr3 hr4;subst hr1 hr2 hr3;have hcst:cst (Tree.mk 26 hn hu [bd])=2+(cst bd+0):=rfl;replace hZ:Z=(lv.st (F.ft.kids.drop F.ft.num.toNat) (w+1) (plain (s::r)) bd).map fun _=>plain (s::r):=hZ;have hlen:hks.len=1:=hr4.len;have hdz:bd.deep<(Tree.mk 26 hn hu [bd]).deep:=dj (a:=.mk 26 hn hu [bd]) ov;have hm:=cC m;refine uA ?_;refine ay (fun b3=>?_);refine ay (fun b5=>?_);refine am (fun e1=>?_) (fun e1=>?_)
 ·exfalso;have e0:(1:Int)<(hks.len:Int):=e1;omega
 refine uA ?_;obtain⟨T2,hT2,hT2b⟩:=hB.head;refine cM (bqH hT2) ?_;replace hB:=hT2b (w+1) (q+cst bd) _ (cC _) mv;refine kR ?_;refine aQ (r':=((0:Nat):Int)) uH nA mv ?_;refine jI ?_;exact ee
theorem stFor2_ck (hC:CkOk E F (s::r) m) {nm:Str} {u:Int} {y bd:Tree} {h:HTree} (hr:TreeRep m h (.mk 26 nm u [y,bd])) (hex:ExOk E lv.ex y) (hst:StOk E lv.st bd) (hkp:Keeps lv.st bd) (hw:w+(Tree.mk 26 nm u [y,bd]).deep≤200) :
  KtS Tryz.prog 120 [ptr F.c,treeV h] E F s r w (cst (.mk 26 nm u [y,bd])) m (stmtC ⟨E.tbl,E.fns⟩ lv (F.ft.kids.drop F.ft.num.toNat) w (plain (s::r)) (.mk 26 nm u [y,bd])) (fun m v=>∃ b,v=ptr b):=by
 refine KtS.enter Tryz.func120 rfl 287 rfl fun T L q Z hZ hB=>?_;have hr0:=hr;obtain⟨hr1,hr2,hr3,hr4⟩:=hr;obtain⟨hk,hn,hu,hks⟩:=h;simp only[Tree.kind,Tree.name,Tree.num,Tree.kids]at hr1 hr2 hr3 hr4;subst hr1 hr2 hr3;have hcst:cst (Tree.mk 26 hn hu [y,bd])=2+(cst y+(cst bd+0)):=rfl;replace hZ:Z=(ofC lv.ex 2 (plain (s::r)) y).bind fun _=>(lv.st (F.ft.kids.drop F.ft.num.toNat) (w+1) (plain (s::r)) bd).map fun _=>plain (s::r):=by
  rw[hZ];show Option.bind (Option.map (fun _=>()) (ofC lv.ex 2 (plain (s::r)) y)) (fun _=>(lv.st (F.ft.kids.drop F.ft.num.toNat) (w+1) (plain (s::r)) bd).map fun _=>plain (s::r))=_;cases ofC lv.ex 2 (plain (s::r)) y<;>rfl
 have hlen:hks.len=2:=hr4.len;have hdz:bd.deep<(Tree.mk 26 hn hu [y,bd]).deep:=dj (a:=.mk 26 hn hu [y,bd]) ov;refine uA ?_;refine ay (fun b3=>?_);refine ay (fun b5=>?_);refine am (fun e1=>?_) (fun e1=>?_)
 ·refine uL ?_;refine jI ?_;rintro b' i' h' hrd hA;refine jV ?_;refine qs rfl (OT.ck (L0:=L) [_,_] (q+cst bd) (typed_ck 2 (hex F (s::r) w m h' (rTree_iff.1 hrd) hC)) hB my (cC _) (dl _) hZ mv rfl rfl rfl rfl rfl rfl goes160 (fun v m1 x T1 hZ hm _ hV hB=>?_));obtain⟨-,-,b,rfl,hX⟩:=hV;refine uA ?_;refine av (hs:=[b]) (l:=[b]) tab rPtr ⟨rfl,trivial⟩ uH mw (fun sA m2 hm2 hsA _ _=>?_);replace hm:=cD hm hm2;replace hC:=hC.mono hm;replace hr4:=hr4.mono hm;replace hB:=hB.mono hm2 (bF _);refine uA ?_;refine mn ?_;obtain⟨T2,hT2,hT2b⟩:=hB.head;refine cM (bqH hT2) ?_;replace hB:=hT2b (w+1) (q+cst bd) _ (cC _) mv;refine kR ?_;refine aQ (r':=((1:Nat):Int)) uH nA mv ?_;refine aA tab rTree 1 hr4 uH mD uH ?_;exact ee
 ·exfalso;have e0:¬(1:Int)<(hks.len:Int):=e1;omega
end
end Go.Sep
namespace Go.Sep
open Go.Proofs Go.Ck
theorem ckSizeL : ∀ {l:List Tree} {t:Tree},t∈l→t.size≤sizeL l
 | x::xs,t,h=>by
  rcases List.mem_cons.1 h with rfl | h
  ·simp only[sizeL];omega
  ·have:=ckSizeL h;simp only[sizeL];omega
theorem ckSize {a t:Tree} (h:t∈a.kids):t.size≤a.size:=by
 obtain⟨k,n,u,ks⟩:=a;have:=ckSizeL h;simp only[Tree.kids,Tree.size]at *;omega
structure FitT (a:Tree):Prop where
 size:a.size+3≤20000
 deep:a.deep+2≤100
 wide:a.wide≤140737488355328
theorem FitT.kid {a t:Tree} (h:FitT a) (ht:t∈a.kids):FitT t :=
 ⟨by have:=ckSize ht;have:=h.size;omega,by have:=dj ht;have:=h.deep;omega,by have:=dh ht;have:=h.wide;omega⟩
theorem bare_num {a:Tree} {k t u:Bool} (h:bareB a k t u=true) (hu:u=false):0≤a.num:=by
 unfold bareB at h;simp only[bj,bE,bw,hu]at h;rcases h.2.2 with h | h
 ·cases h
 ·omega
theorem of_num {a:Tree} {k:Int} (h:ofB a k=true):0≤a.num:=by
 unfold ofB at h;simp only[bj,bw]at h;omega
theorem kidsR_one {p:Tree→Bool} {q:Option (Tree→Bool)} {l:List Tree} (h:kidsR [p] q l=true):∃ x xs,l=x::xs∧p x=true∧kidsR [] q xs=true:=by
 match l,h with
 | x::xs,h=>rw[kidsR,bj]at h;exact⟨x,xs,rfl,h⟩
theorem st_keeps {e:Ck.Env} {lv:Lv} {a:Tree} (h:a.kind=20∨a.kind=25):Keeps (stmtC e lv) a:=by
 intro R w sc sc' h1;unfold stmtC at h1;rcases h with h | h
 ·rw[if_pos h]at h1;cases h2:stmtsC (lv.st R w) ([]::sc) a.kids with
  | none=>rw[h2]at h1;cases h1
  | some x=>rw[h2]at h1;injection h1 with h1;exact h1.symm
 ·rw[if_neg mv,if_neg mv,if_neg mv,if_neg mv,if_neg mv,if_neg mv,if_pos h]at h1;cases h2:ofC lv.ex 2 sc (kid a 0)with
  | none=>rw[h2]at h1;cases h1
  | some x =>
   rw[h2]at h1;cases h3:stmtsC (lv.st R w) sc (a.kids.drop 1)with
   | none=>simp only[Option.bind_some]at h1;rw[h3]at h1;cases h1
   | some x=>simp only[Option.bind_some]at h1;rw[h3]at h1;injection h1 with h1;exact h1.symm
theorem lvl_keeps {e:Ck.Env} {a:Tree} (h:a.kind=20∨a.kind=25):∀ N,Keeps (Ck.lvl e N).st a
 | 0=>fun R w sc sc' h1=>by cases h1
 | N+1=>st_keeps h
section
variable {E:CE} {N:Nat}
theorem ex_step (ihE:∀ a:Tree,a.deep≤N→FitT a→lim.expr a=true→ExOk E (Ck.lvl ⟨E.tbl,E.fns⟩ N).ex a) (ihS:∀ a:Tree,a.deep≤N→FitT a→lim.stmt a=true→StOk E (Ck.lvl ⟨E.tbl,E.fns⟩ N).st a)
  (a:Tree) (hd:a.deep≤N+1) (hf:FitT a) (hl:lim.expr a=true):ExOk E (Ck.lvl ⟨E.tbl,E.fns⟩ (N+1)).ex a:=by
 have ke:∀ k∈a.kids,lim.expr k=true→ExOk E (Ck.lvl ⟨E.tbl,E.fns⟩ N).ex k:=fun k hk h=>ihE k nw (hf.kid hk) h;have ks:∀ k∈a.kids,lim.stmt k=true→StOk E (Ck.lvl ⟨E.tbl,E.fns⟩ N).st k:=fun k hk h=>ihS k nw (hf.kid hk) h;have kf:∀ k∈a.kids,FitT k:=fun k hk=>hf.kid hk;have kd:∀ k∈a.kids,∀ y∈k.kids,lim.expr y=true→ExOk E (Ck.lvl ⟨E.tbl,E.fns⟩ N).ex y:=fun k hk y hy h=>ihE y (by have:=dj hk;have:=dj hy;omega) ((hf.kid hk).kid hy) h;rw[(lim_fix a).1]at hl;unfold exprS at hl;show ExOk E (exprC ⟨E.tbl,E.fns⟩ (Ck.lvl ⟨E.tbl,E.fns⟩ N)) a;generalize Ck.lvl ⟨E.tbl,E.fns⟩ N=lv at ke ks kd;by_cases e40:a.kind=40
 ·rw[if_pos e40,bj]at hl;unfold bareB at hl;simp only[bj,bw]at hl;obtain⟨k,nm,u,kl⟩:=a;obtain rfl:k=40:=e40;simp only[Tree.num,Tree.name,Tree.kids]at hl ke ks kf;intro F sc w m h hr hC;exact exInt_ck hr hl.1.1
 rw[if_neg e40]at hl;by_cases e41:a.kind=41
 ·rw[if_pos e41,bj]at hl;obtain⟨k,nm,u,kl⟩:=a;obtain rfl:k=41:=e41;simp only[Tree.name,Tree.kids]at hl ke ks kf;intro F sc w m h hr hC;exact exStr_ck hr (bare_num hl.1 rfl)
 rw[if_neg e41]at hl;by_cases e42:a.kind=42
 ·rw[if_pos e42,bj]at hl;unfold bareB at hl;simp only[bj,bw]at hl;obtain⟨k,nm,u,kl⟩:=a;obtain rfl:k=42:=e42;simp only[Tree.num,Tree.name,Tree.kids]at hl ke ks kf;have hn:0≤u:=by have:=hl.1.1;omega
  intro F sc w m h hr hC;exact exBool_ck hr hn
 rw[if_neg e42]at hl;by_cases e43:a.kind=43
 ·rw[if_pos e43,bj]at hl;obtain⟨k,nm,u,kl⟩:=a;obtain rfl:k=43:=e43;simp only[Tree.kids]at hl ke ks kf;intro F sc w m h hr hC;exact exNil_ck hr (bare_num hl.1 rfl)
 rw[if_neg e43]at hl;by_cases e44:a.kind=44
 ·rw[if_pos e44,bj]at hl;obtain⟨k,nm,u,kl⟩:=a;obtain rfl:k=44:=e44;simp only[Tree.kids]at hl ke ks kf;intro F sc w m h hr hC;exact exName_ck hC hr (of_num hl.1)
 rw[if_neg e44]at hl;by_cases e45:a.kind=45
 ·rw[if_pos e45,bj]at hl;obtain⟨k,nm,u,kl⟩:=a;obtain rfl:k=45:=e45;simp only[Tree.kids]at hl ke ks kf;intro F sc w m h hr hC;exact exLit_ck hC hr (fun k hk=>ke k hk (List.all_eq_true.1 hl.2 k hk)) (of_num hl.1)
 rw[if_neg e45]at hl;by_cases e46:a.kind=46
 ·rw[if_pos e46,bj]at hl;obtain⟨k,nm,u,kl⟩:=a;obtain rfl:k=46:=e46;simp only[Tree.kids]at hl ke ks kf;obtain⟨y,zs,rfl,hy,hz⟩:=kidsR_one hl.2;intro F sc w m h hr hC;exact exList_ck hC hr (fun k hk=>ke k (List.mem_cons_of_mem _ hk) (List.all_eq_true.1 hz k hk)) (kf y mx).wide (bare_num hl.1 rfl)
 rw[if_neg e46]at hl;by_cases e47:a.kind=47
 ·rw[if_pos e47,bj]at hl;obtain⟨k,nm,u,kl⟩:=a;obtain rfl:k=47:=e47;simp only[Tree.kids]at hl ke ks kf;obtain⟨y,z,rfl,hy,hz⟩:=Pt.kids2 hl.2;have f1:=kf y mx;have f2:=kf z mx;intro F sc w m h hr hC;exact exFunc_ck hC hr hy hz (ks z mx (block_stmt hz)) f1.size f1.deep f1.wide f2.size f2.deep f2.wide (bare_num hl.1 rfl)
 rw[if_neg e47]at hl;by_cases e48:a.kind=48
 ·rw[if_pos e48,bj]at hl;obtain⟨k,nm,u,kl⟩:=a;obtain rfl:k=48:=e48;simp only[Tree.kids]at hl ke ks kf;obtain⟨y,rfl,hy⟩:=Pt.kids1 hl.2;intro F sc w m h hr hC;exact exSel_ck hC hr fun F sc w m h hr hC b=>opSel_ck hC hr rfl rfl (ke y mx hy) b
 rw[if_neg e48]at hl;by_cases e49:a.kind=49
 ·rw[if_pos e49,bj]at hl;obtain⟨k,nm,u,kl⟩:=a;obtain rfl:k=49:=e49;simp only[Tree.kids]at hl ke ks kf;obtain⟨y,z,rfl,hy,hz⟩:=Pt.kids2 hl.2;intro F sc w m h hr hC;exact exIdx_ck hC hr fun F sc w m h hr hC b=>opIdx_ck hC hr rfl rfl (ke y mx hy) (ke z mx hz) (bare_num hl.1 rfl) b
 rw[if_neg e49]at hl;by_cases e50:a.kind=50
 ·rw[if_pos e50,bj]at hl;unfold bareB Go.Sep.lvl at hl;simp only[bj,bw]at hl;obtain⟨k,nm,u,kl⟩:=a;obtain rfl:k=50:=e50;simp only[Tree.num,Tree.name,Tree.kids]at hl ke ks kf;have hn:0≤u:=hl.1.1.1;have hlen:1≤kl.length:=by have:=hl.1.1.2.2;omega
  match kl,hlen,hl,ke with
  | y::zs,_,hl,ke =>
   intro F sc w m h hr hC;exact exCut_ck hC hr fun F sc w m h hr hC b=>opCut_ck hC hr rfl rfl (ke y mx (List.all_eq_true.1 hl.2 y mx)) (fun z hz=>ke z (by simp[hz]) (List.all_eq_true.1 hl.2 z (by simp[hz]))) hn b
 rw[if_neg e50]at hl;by_cases e51:a.kind=51
 ·rw[if_pos e51,bj]at hl;obtain⟨k,nm,u,kl⟩:=a;obtain rfl:k=51:=e51;simp only[Tree.kids]at hl ke ks kf;obtain⟨y,zs,rfl,hy,hz⟩:=kidsR_one hl.2;intro F sc w m h hr hC;refine exCall_ck hC hr (ke y mx hy) (fun k hk=>ke k (List.mem_cons_of_mem _ hk) (List.all_eq_true.1 hz k hk)) (fun e48=>?_) (bare_num hl.1 rfl);rw[(lim_fix y).1]at hy;unfold exprS at hy;rw[if_neg mv,if_neg mv,if_neg mv,if_neg mv,if_neg mv,if_neg mv,if_neg mv,if_neg mv,if_pos e48,bj]at hy;obtain⟨x,hx,hxe⟩:=Pt.kids1 hy.2;exact⟨x,hx,kd y ov x (by rw[hx];simp) hxe⟩
 rw[if_neg e51]at hl;by_cases e52:a.kind=52
 ·rw[if_pos e52,bj]at hl;obtain⟨k,nm,u,kl⟩:=a;obtain rfl:k=52:=e52;simp only[Tree.name,Tree.kids]at hl ke ks kf;obtain⟨y,rfl,hy⟩:=Pt.kids1 hl.2;intro F sc w m h hr hC;exact exUn_ck hC hr fun F sc w m h hr hC b=>opUn_ck hC hr rfl rfl (ke y mx hy) (bare_num hl.1 rfl) b
 rw[if_neg e52]at hl;by_cases e53:a.kind=53
 ·rw[if_pos e53,bj]at hl;obtain⟨k,nm,u,kl⟩:=a;obtain rfl:k=53:=e53;simp only[Tree.name,Tree.kids]at hl ke ks kf;obtain⟨y,z,rfl,hy,hz⟩:=Pt.kids2 hl.2;intro F sc w m h hr hC;exact exBin_ck hC hr fun F sc w m h hr hC b=>opBin_ck hC hr rfl rfl (ke y mx hy) (ke z mx hz) (bare_num hl.1 rfl) b
 rw[if_neg e53]at hl;cases hl
theorem st_step (ihE:∀ a:Tree,a.deep≤N→FitT a→lim.expr a=true→ExOk E (Ck.lvl ⟨E.tbl,E.fns⟩ N).ex a) (ihS:∀ a:Tree,a.deep≤N→FitT a→lim.stmt a=true→StOk E (Ck.lvl ⟨E.tbl,E.fns⟩ N).st a)
  (a:Tree) (hd:a.deep≤N+1) (hf:FitT a) (hl:lim.stmt a=true):StOk E (Ck.lvl ⟨E.tbl,E.fns⟩ (N+1)).st a:=by
 have ke:∀ k∈a.kids,lim.expr k=true→ExOk E (Ck.lvl ⟨E.tbl,E.fns⟩ N).ex k:=fun k hk h=>ihE k nw (hf.kid hk) h;have ks:∀ k∈a.kids,lim.stmt k=true→StOk E (Ck.lvl ⟨E.tbl,E.fns⟩ N).st k:=fun k hk h=>ihS k nw (hf.kid hk) h;have kf:∀ k∈a.kids,FitT k:=fun k hk=>hf.kid hk;have kk:∀ k:Tree,k.kind=20∨k.kind=25→Keeps (Ck.lvl ⟨E.tbl,E.fns⟩ N).st k:=fun k h=>lvl_keeps h N;rw[(lim_fix a).2.1,Pt.stmtS_head,bj]at hl;obtain⟨-,hl⟩:=hl;show StOk E (stmtC ⟨E.tbl,E.fns⟩ (Ck.lvl ⟨E.tbl,E.fns⟩ N)) a;generalize Ck.lvl ⟨E.tbl,E.fns⟩ N=lv at ke ks kk;by_cases e20:a.kind=20
 ·rw[if_pos e20]at hl;obtain⟨k,nm,u,kl⟩:=a;obtain rfl:k=20:=e20;simp only[Tree.kids]at hl ke ks kf;unfold blockS at hl;rw[bj]at hl;intro F s r w m h hr hC hw;exact stBlock_ck hC hr (fun k hk=>ks k hk (List.all_eq_true.1 hl.2 k hk)) hw
 rw[if_neg e20]at hl;by_cases e21:a.kind=21
 ·rw[if_pos e21,bj,bE]at hl;obtain⟨k,nm,u,kl⟩:=a;obtain rfl:k=21:=e21;simp only[Tree.name,Tree.kids]at hl ke ks kf;intro F s r w m h hr hC hw;rcases hl.2 with hl | hl
  ·obtain⟨y,rfl,hy⟩:=Pt.kids1 hl;exact stVar_ck hC hr (kf y mx).wide (fun z hz=>by cases hz)
  ·obtain⟨y,z,rfl,hy,hz⟩:=Pt.kids2 hl;exact stVar_ck hC hr (kf y mx).wide (fun x hx=>by rw[List.mem_singleton.1 hx];exact ke z mx hz)
 rw[if_neg e21]at hl;by_cases e22:a.kind=22
 ·rw[if_pos e22]at hl;unfold asgS at hl;simp only[bj,bw]at hl;obtain⟨k,nm,u,kl⟩:=a;obtain rfl:k=22:=e22;simp only[Tree.num,Tree.kids]at hl ke ks kf;obtain⟨h1,h2,h3,h4⟩:=hl;obtain⟨c,rfl⟩:=Int.eq_ofNat_of_zero_le (show 0≤u by omega);intro F s r w m h hr hC hw;exact stDefine_ck hC hr mv (fun z hz=>ke z (List.mem_of_mem_drop hz) (List.all_eq_true.1 h4 z hz))
 rw[if_neg e22]at hl;by_cases e23:a.kind=23
 ·rw[if_pos e23]at hl;unfold asgS at hl;simp only[bj,bw]at hl;obtain⟨k,nm,u,kl⟩:=a;obtain rfl:k=23:=e23;simp only[Tree.num,Tree.kids]at hl ke ks kf;obtain⟨h1,h2,h3,h4⟩:=hl;obtain⟨c,rfl⟩:=Int.eq_ofNat_of_zero_le (show 0≤u by omega);intro F s r w m h hr hC hw;refine stAssign_ck hC hr mv (fun z hz=>ke z hz ?_);rw[←co ((c:Int).toNat) kl]at hz;rcases List.mem_append.1 hz with hz | hz
  ·have:=List.all_eq_true.1 h3 z hz;unfold plS at this;rw[bj]at this;exact this.2
  ·exact List.all_eq_true.1 h4 z hz
 rw[if_neg e23]at hl;by_cases e24:a.kind=24
 ·rw[if_pos e24]at hl;obtain⟨k,nm,u,kl⟩:=a;obtain rfl:k=24:=e24;simp only[Tree.kids]at hl ke ks kf;obtain⟨y,rfl,hy⟩:=Pt.kids1 hl;unfold callS at hy;rw[bj]at hy;intro F s r w m h hr hC hw;exact stExpr_ck hC hr (ke y mx hy.2)
 rw[if_neg e24]at hl;by_cases e25:a.kind=25
 ·rw[if_pos e25,bE]at hl;obtain⟨k,nm,u,kl⟩:=a;obtain rfl:k=25:=e25;simp only[Tree.kids]at hl ke ks kf;intro F s r w m h hr hC hw;rcases hl with hl | hl
  ·obtain⟨y,z,rfl,hy,hz⟩:=Pt.kids2 hl;exact stIf_ck hC hr (ke y mx hy) (fun x hx=>by rw[List.mem_singleton.1 hx];exact⟨ks z mx (block_stmt hz),kk z (.inl (kind_of_block hz).1)⟩) hw
  ·obtain⟨y,z,x,rfl,hy,hz,hx⟩:=Pt.kids3 hl;refine stIf_ck hC hr (ke y mx hy) (fun v hv=>?_) hw;rcases List.mem_cons.1 hv with rfl | hv
   ·exact⟨ks v mx (block_stmt hz),kk v (.inl (kind_of_block hz).1)⟩
   ·rw[List.mem_singleton.1 hv];unfold otherS at hx;rw[bE,bj,bw]at hx;rcases hx with hx | hx
    ·exact⟨ks x mx (block_stmt hx),kk x (.inl (kind_of_block hx).1)⟩
    ·exact⟨ks x mx hx.2,kk x (.inr hx.1)⟩
 rw[if_neg e25]at hl;by_cases e26:a.kind=26
 ·rw[if_pos e26,bE]at hl;obtain⟨k,nm,u,kl⟩:=a;obtain rfl:k=26:=e26;simp only[Tree.kids]at hl ke ks kf;intro F s r w m h hr hC hw;rcases hl with hl | hl
  ·obtain⟨y,rfl,hy⟩:=Pt.kids1 hl;exact stFor1_ck hC hr (ks y mx (block_stmt hy)) (kk y (.inl (kind_of_block hy).1)) hw
  ·obtain⟨y,z,rfl,hy,hz⟩:=Pt.kids2 hl;exact stFor2_ck hC hr (ke y mx hy) (ks z mx (block_stmt hz)) (kk z (.inl (kind_of_block hz).1)) hw
 rw[if_neg e26]at hl;by_cases e27:a.kind=27
 ·rw[if_pos e27]at hl;obtain⟨k,nm,u,kl⟩:=a;obtain rfl:k=27:=e27;simp only[Tree.kids]at hl ke ks kf;intro F s r w m h hr hC hw;exact stReturn_ck hC hr (fun k hk=>ke k hk (List.all_eq_true.1 hl k hk))
 rw[if_neg e27]at hl;by_cases e28:a.kind=28∨a.kind=29
 ·obtain⟨k,nm,u,kl⟩:=a;intro F s r w m h hr hC hw;exact stBreak_ck hC e28 hr
 rw[if_neg e28]at hl;cases hl
theorem lvl_ok (E:CE):∀(N:Nat),(∀ a:Tree,a.deep≤N→FitT a→lim.expr a=true→ExOk E (Ck.lvl ⟨E.tbl,E.fns⟩ N).ex a)∧(∀ a:Tree,a.deep≤N→FitT a→lim.stmt a=true→StOk E (Ck.lvl ⟨E.tbl,E.fns⟩ N).st a)
 | 0=>⟨fun a h=>by obtain⟨_,_,_,_⟩:=a;unfold Tree.deep at h;omega,fun a h=>by obtain⟨_,_,_,_⟩:=a;unfold Tree.deep at h;omega⟩
 | N+1=>⟨ex_step (lvl_ok E N).1 (lvl_ok E N).2,st_step (lvl_ok E N).1 (lvl_ok E N).2⟩
end
end Go.Sep
namespace Go.Sep
def bufI (s:Sl) (cs:List Value):Item :=
 match s.a with
 | none=>.room 0 0 0
 | some a=>.cells a.block a.off cs
def Own0 (s:Sl):Prop:=s=⟨none,0,0⟩∨∃ b,s.a=some ⟨b,0,none⟩
theorem Own0.nil : Own0 ⟨none,0,0⟩:=.inl rfl
section
variable {P:Program} {N:Nat} {ρ:Env} {D:List Deferred} {m:Mem} {L:List Item} {Q:EPost} {full:List Oper} {o:Oper} {K:Env→Mem→List Item→Prop}
theorem run_appendB (T : Tab P) {t t2 e e2 ty : TypeId} {ei ei2 : TI} {w : World} {s s2 : Sl} {xs news : List Value} (he : T.elem t=some (e,ei)) (he2 : T.elem t2=some (e2,ei2))
  (hw : St m w (bufI s xs :: tok s ei.size :: L)) (ho : Own0 s) (hx : xs.length=s.len * ei.size) (hy : Src w s2 ei.size news) (h1 : allOne news=true) (hzs : ei.zero.cells.size=ei.size) (hcap : s.len ≤ s.cap)
  (hb : 0 < ei.bytes) (hfit : (s.len + s2.len) * ei.bytes ≤ 140737488355328) :
  ∃ s' w',(Builtin.append_ #[t,t2] ty #[s.v,s2.v]).run P w = .ok s'.v w' ∧ St m w' (bufI s' (xs++news) :: tok s' ei.size :: L)∧Own0 s' ∧ s'.len=s.len + s2.len∧s'.len ≤ s'.cap:=by
 obtain ⟨ti,h4,h5,h6⟩:=elem_get he
 obtain ⟨ti2,k4,k5,k6⟩:=elem_get he2
 obtain ⟨_,_,hu,_⟩:=T.ok t ti h4
 rw [h5] at hu
 obtain ⟨_,_,hu2,_⟩:=T.ok t2 ti2 k4
 rw [k5] at hu2
 obtain ⟨info,q1,q2,q3,q4,q5⟩:=T.ok e ei h6
 have hnew:=run_first (P:=P) hy
 have hbound : s.len + s2.len ≤ 140737488355328:=bG (Nat.le_mul_of_pos_right _ hb) hfit
 have hxs : Src w s ei.size xs:=by
  refine ⟨hx, ?_⟩
  rcases ho with h0 | ⟨b,ha⟩
  ·left;rw [h0]
  ·right
   refine ⟨b,0,ha, ?_⟩
   have : (bufI s xs :: tok s ei.size :: L)[0]? = some (.cells b 0 xs):=by unfold bufI;rw [ha];rfl
   exact hw.cells this
 by_cases hroom : s.len + s2.len ≤ s.cap
 ·rcases ho with hnil | ⟨b,ha⟩
  ·subst hnil
   simp only at hroom hx
   have hz : s2.len=0:=by omega
   have hxs : xs=[]:=List.eq_nil_of_length_eq_zero (by simpa using hx)
   have hns : news=[]:=List.eq_nil_of_length_eq_zero (by have:=hy.1;rw [hz] at this;simpa using this)
   subst hxs;subst hns
   refine ⟨⟨none,0,0⟩,w, ?_,hw, .inl rfl,by simp [hz],by simp⟩
   have hnew' : (Builtin.firstCells ei.size 0 s2.v).run P w = .ok (⟨[]⟩ : Array Value) w:=by rw [← hz];exact hnew
   simp only [Sl.v] at hnew'
   simp [Builtin.append_,run_underlying hu,run_underlying hu2,sizeOf,typeInfo,q1,q3,Builtin.lenOf,hz,hnew']
  ·obtain ⟨a,n,c⟩:=s
   simp only at ha hroom hcap hbound hfit hx
   subst ha
   have hst:=hw.perm (ba _ _ _)
   simp only [tok,bufI] at hst
   obtain ⟨vs,hvl,hst⟩:=hst.ofRoom
   have hnl : news.length ≤ vs.length:=by
    rw [hvl,hy.1];exact Nat.mul_le_mul_right _ (by omega)
   obtain ⟨w',hr,hst'⟩:=run_storeCells (P:=P) news vs 0 0 w hst h1 (by omega)
   rw [putAt_zero hnl] at hst'
   have hst2:=hst'.split
   have hst3:=(hst2.perm (be (ba _ _ _) (bg _ (ba _ _ _)))).toRoom
   have hst4:=(hst3.perm (be (ba _ _ _) (bg _ (ba _ _ _)))).join (by rw [hx])
   refine ⟨⟨some ⟨b,0,none⟩,n + s2.len,c⟩,w', ?_, ?_, .inr ⟨b,rfl⟩,rfl,hroom⟩
   ·have hr' : (storeCells ((⟨b,0,none⟩ : Addr).add (n * ei.size)) news).run P w = .ok () w':=by rw [addr_add];exact hr
    simp only [Sl.v] at hnew
    simp [Builtin.append_,run_underlying hu,run_underlying hu2,sizeOf,typeInfo,q1,q3,Builtin.lenOf,hroom,hnew,hr']
   ·have e1 : Item.room b (0 + n * ei.size + news.length) (List.drop news.length vs).length=tok ⟨some ⟨b,0,none⟩,n + s2.len,c⟩ ei.size:=by
     simp only [tok,bW,hvl,hy.1]
     congr 1
     ·rw [Nat.add_mul];omega
     ·rw [← Nat.sub_mul];congr 1;omega
    rw [← e1]
    exact hst4
 ·have hlt : s.cap < s.len + s2.len:=by omega
  have h48 : ¬ (Builtin.nextslicecap (s.len + s2.len) s.cap * ei.bytes > 281474976710656):=by
   have:=growslice_fits hlt hfit
   omega
  have hold:=run_first (P:=P) (hxs.drew)
  have hnew':=run_first (P:=P) (hy.drew)
  obtain ⟨nc,hnc,hge⟩ : ∃ nc,nc=(Question.appendCap (s.len + s2.len) s.cap e).cut (w.tape w.drawn (.appendCap (s.len + s2.len) s.cap e))∧s.len + s2.len ≤ nc:=⟨_,rfl,by simp [Question.cut]⟩
  have hst:=hw.drew.allocCells ((⟨xs⟩ : Array Value)++(⟨news⟩ : Array Value)++Builtin.zeroCells ei.zero.cells (nc - (s.len + s2.len))) e
  have hl1 : ((⟨xs⟩ : Array Value)++(⟨news⟩ : Array Value)++Builtin.zeroCells ei.zero.cells (nc - (s.len + s2.len))).toList=(xs++news)++(Builtin.zeroCells ei.zero.cells (nc - (s.len + s2.len))).toList:=by simp
  rw [hl1] at hst
  have g4:=(hst.split.perm (ba _ _ _)).toRoom
  have hxl : (xs++news).length=(s.len + s2.len) * ei.size:=by rw [a6,hx,hy.1,Nat.add_mul]
  refine ⟨⟨some ⟨w.heap.size,0,none⟩,s.len + s2.len,nc⟩,w.drew.alloc (.cells ((⟨xs⟩ : Array Value)++(⟨news⟩ : Array Value)++Builtin.zeroCells ei.zero.cells (nc - (s.len + s2.len))) e), ?_, ?_, .inr ⟨_,rfl⟩,rfl,hge⟩
  ·simp only [Sl.v] at hold hnew'
   have hb0 : ei.bytes ≠ 0:=by omega
   have hmax : ¬ (9223372036854775807 < (s.len : Int) + (s2.len : Int)):=by omega
   simp [Builtin.append_,run_underlying hu,run_underlying hu2,sizeOf,typeInfo,zeroValue,q1,q3,q4,q5,Builtin.lenOf,hroom,hold,hnew',h48,hmax,Question.forced,newRow,← hnc,IntKind.max,IntKind.signed,IntKind.bits,hb0]
   congr 2
   apply Array.ext'
   simp
  ·have e1 : Item.room w.heap.size (0 + (xs++news).length) (Builtin.zeroCells ei.zero.cells (nc - (s.len + s2.len))).toList.length=tok ⟨some ⟨w.heap.size,0,none⟩,s.len + s2.len,nc⟩ ei.size:=by
    simp only [tok,hxl,Array.length_toList,size_zeroCells,hzs]
   rw [← e1]
   exact (g4.perm (ba _ _ _)).sub (bX _ (bX _ (bY _ (List.sublist_cons_self _ _))))
theorem OT.appendB {H α:Type} (T:Tab P) (r:R H α) {s s2:Sl} {hs:List H} {l2:List α} {x y:Operand} {t t2:TypeId} {d:Nat} (hown:Own0 s) (hlen:hs.length=s.len) (hcap:s.len≤s.cap) (hs2:SlRep r m s2 l2)
  (ho:o.op = .call ⟨.builtin .append,⟨[x,y]⟩,⟨[t,t2]⟩⟩) (hd:o.dst=some d) (hN:Nat.blt d N=true) (hx:ev ρ x=some s.v) (hy:ev ρ y=some s2.v) (hT:T.okElem t t2 r.size r.bytes=true)
  (hfit:(hs.length+l2.length)*r.bytes≤140737488355328)
  (hK:∀(s':Sl) (hs2:List H),All2 (r.rep m) hs2 l2→(hs++hs2).length=s'.len→s'.len≤s'.cap→Own0 s'→K ((d,s'.v)::ρ) m (bufI s' (encs r (hs++hs2))::tok s' r.size::L)):OT P N o ρ D m (bufI s (encs r hs)::tok s r.size::L) Q K:=by
 obtain⟨e,e2,ei,ei2,q1,q2,q3,q4,q5,q6⟩:=okElem_get hT;intro a w ha;obtain⟨hl2,k1,k2,k3,k4⟩:=hs2.src ha.st;have hb:0<ei.bytes:=mv;obtain⟨s',w',hr,g2,g3,g4,g5⟩:=run_appendB (P:=P) (ty:=o.type) T q1 q2 (by rw[q3];exact ha.st) hown (by rw[q3,encs_len,hlen]) n8 (encs_one r hl2) q6 hcap hb
  (by rw[←hlen,hs2.len,q4];exact hfit)
 have he:(execOp a.eval o).run P w = .ok (.value s'.v) w':=by
  exact eI
 simp only[Oper.wp,he,Oper.upon];rw[hd];have hp:=ha.put hN s'.v;rw[q3,←encs_append]at g2;exact⟨_,_,_,⟨hp.size,hp.env,hp.defers,g2⟩,hK s' hl2 k1 (by rw[g4,a6,hlen,k1.length,hs2.len]) g5 g3⟩
theorem TC.buf0 {c:Code} (size:Nat) (h:TC P N c ρ D m (bufI ⟨none,0,0⟩ []::tok ⟨none,0,0⟩ size::L) Q):TC P N c ρ D m L Q:=by
 refine cY (size:=size) ?_;exact cY (size:=0) h
theorem TO.freezeB {H α:Type} {l:List Oper} (r:R H α) {s:Sl} {hs:List H} {as1:List α} (hown:Own0 s) (hlen:hs.length=s.len) (hcap:s.len≤s.cap) (hr:All2 (r.rep m) hs as1) (hfit:as1.length*r.bytes≤140737488355328)
  (h:∀ m',m≤m'→SlRep r m' s as1→TO P N ⟨full⟩ l ρ D m' L Q):TO P N ⟨full⟩ l ρ D m (bufI s (encs r hs)::L) Q:=by
 rcases hown with h0 | ⟨b,ha⟩
 ·subst h0;have e:hs=[]:=List.eq_nil_of_length_eq_zero hlen;subst e;have e2:as1=[]:=List.eq_nil_of_length_eq_zero (by rw[←hr.length];rfl);subst e2;exact TO.drop (List.sublist_cons_self _ _) (h m (cC _) (cS _ _))
 ·have e:bufI s (encs r hs) = .cells b 0 (encs r hs):=by unfold bufI;rw[ha]
  rw[e];refine cX fun m' hm hA=>h m' hm ?_;have e2:s.len=as1.length:=by rw[←hlen,hr.length]
  exact⟨e2,hcap,by rw[e2];exact hfit,hs,hr.mono fun _ _=>r.mono hm,.inr ⟨b,0,ha,hA⟩⟩
end
end Go.Sep
namespace Go.Sep
open Go.Proofs Go.Ck
attribute [local irreducible] TC TO OT TCallX TCall DO DOt thenQ blockQ retQ At
theorem ofT_wide (a:Tree):a.ofT.wide≤a.wide:=by
 induction a using Tree.ind with
 | h a ih =>
 rw[ofT_eq];have hn:=wide_name a;split
 ·split
  ·simp only[Tree.wide,wideL];omega
  ·simp only[Tree.wide,wideL,a8];omega
 ·split
  ·match hk:a.kids with
   | []=>simp[ofHead,Tree.wide,wideL]
   | x::r =>
    have h1:=ih x nn;have h2:=dh (a:=a) (t:=x) nn;show x.ofT.wide≤_;omega
  ·have hl:∀ l:List Tree,(∀ x∈l,x∈a.kids)→wideL (l.map Tree.ofT)≤a.wide:=by
    intro l
    induction l with
    | nil=>intro _;simp[wideL]
    | cons x l ihl =>
     intro hl;have h1:=ih x (hl x mx);have h2:=dh (hl x mx);have h3:=ihl fun y hy=>hl y np;simp only[bH,wideL];omega
   have:=hl a.kids fun _ h=>h;simp only[Tree.wide,a8];omega
theorem ofRes_wide (a:Tree):(ofRes a).1.wide≤a.wide:=by
 unfold ofRes;split
 ·exact ofT_wide a
 ·simp[Tree.wide,wideL]
def isM (x:Str) (d:Decl):Bool:=decide (d.name=x)&&!d.iface
theorem addM_idx (x:Str) (f:Fld):∀(l:List Decl) (k:Nat),(idxP l (isM x) k = -1∧addM l x f=none)∨∃ j d,l[j]? = some d∧idxP l (isM x) k=((k+j:Nat):Int)∧addM l x f=some (l.set j { d with methods:=d.methods++[f] })
 | [],k=>.inl ⟨rfl,rfl⟩
 | d::l,k=>by
  by_cases h:d.name=x∧d.iface=false
  ·refine .inr ⟨0,d,rfl,?_,?_⟩
   ·rw[idxP,if_pos (by unfold isM;rw[bQ h.1,h.2];rfl)];rfl
   ·rw[addM,if_pos h];rfl
  ·have hf:¬isM x d=true:=by
    unfold isM;rw[bj,bw,Bool.not_eq_true'];exact h
   rw[idxP,if_neg hf,addM,if_neg h];rcases addM_idx x f l (k+1)with ⟨h1,h2⟩ | ⟨j,d',h1,h2,h3⟩
   ·exact .inl ⟨h1,by rw[h2];rfl⟩
   ·exact .inr ⟨j+1,d',h1,by rw[h2];congr 1;omega,by rw[h3];rfl⟩
theorem table1_law (b:Nat) (x:Str) (m:Mem) (L:List Item) (h:HDecl) (hb:At m b 0 [strV x]):TCall Tryz.prog 40 ⟨[declV h,ptr b]⟩ m L (Ret (.bool (decide (h.name=x)&&!h.iface)) m L):=by
 unfold TCall;refine ak Tryz.func40 13 ?_;refine ay (fun b2=>?_)
 (first | refine qs rfl (OT.loadA tab hb rfl rfl rfl rfl rfl ?_) | refine oL tab hb ?_)
 refine uA ?_
 (first | refine TO.splitP rfl rfl (fun e1=>?_) (fun e1=>?_) | refine cL rfl rfl (fun e1=>?_) (fun e1=>?_) | refine TO.split rfl rfl (fun e1=>?_) (fun e1=>?_))
 ·refine uL ?_;exact fZ
 ·refine uL ?_;refine jy ?_;rw[bR e1];rfl
theorem permEq {α:Type} {L L':List α} (h:L=L'):L.Perm L':=h▸a9 _
theorem bufI_some {s:Sl} {b:Nat} {cs:List Value} (h:s.a=some ⟨b,0,none⟩):bufI s cs = .cells b 0 cs:=by unfold bufI;rw[h]
theorem indexFunc_decl (m:Mem) (L:List Item) (s:Sl) (hs:List HDecl) (l:List Decl) (p:Decl→Bool) (fn:FuncId) (cap:List Value) (hg:Goes Tryz.prog fn) (hown:Own0 s) (hlen:hs.length=s.len) (hr:All2 (rDecl.rep m) hs l) (hsm:l.length≤1048576)
  (hp:∀(h:HDecl) (a:Decl) (L:List Item),rDecl.rep m h a→TCall Tryz.prog fn ⟨declV h::cap⟩ m L (Ret (.bool (p a)) m L)) :
  TCall Tryz.prog 39 ⟨[s.v,.func (.func fn) ⟨[]⟩ ⟨cap⟩]⟩ m (bufI s (encs rDecl hs)::L) (Ret (.int .i64 (idxP l p 0)) m (bufI s (encs rDecl hs)::L)):=by
 unfold TCall;refine cK Tryz.func39 rfl 19 rfl ?_;have hl:=hr.length;refine uA ?_;refine cH (ι:=Nat) [0,1,7] rfl (fun k=>[(8,.int .i64 (k:Int))]) (fun _=>m) (fun _=>bufI s (encs rDecl hs)::L) (fun k=>k≤l.length∧idxP l p 0=idxP (l.drop k) p k) (fun k=>l.length-k) 0 uH rfl uS ⟨cn _,rfl⟩ ?_;rintro k ⟨hk,hI⟩;refine uA ?_;refine am (fun h=>?_) (fun h=>?_)
 ·have hlt:k<l.length:=mv;have hx:l[k]? = some l[k]:=mG;obtain⟨hd,hx2,hrd⟩:=hr.get hx;obtain⟨b,hb⟩:∃ b,s.a=some ⟨b,0,none⟩:=by
   rcases hown with h0 | h0
   ·subst h0;simp only at hlen;omega
   ·exact h0
  obtain⟨sa,sn,sc⟩:=s;simp only at hb hlen;subst hb;refine uA ?_;refine qs rfl (OT.indexP tab k rfl rfl rfl rfl rfl rfl rfl (show k<sn by omega) ?_);refine cM (L':=.cells b 0 (encs rDecl hs)::L) (permEq (by rw[bufI_some rfl])) ?_;refine qs rfl (OT.loadE (j:=0) tab 0 rDecl hx2 (show 0+k*4=k*4+0 by omega) (fun _=>rfl) rfl rfl rfl rfl rfl ?_);refine uA ?_;refine qs rfl (cR (all:=declV hd::cap) rfl rfl rfl rfl rfl nh hg ((hp hd l[k] _ hrd).x ?_));refine ka ?_;refine cM (L':=bufI ⟨some ⟨b,0,none⟩,sn,sc⟩ (encs rDecl hs)::L) (permEq (by rw[bufI_some rfl])) ?_;exact ed
 ·exact fz
end Go.Sep
namespace Go.Sep
open Go.Proofs Go.Ck
structure SndP (p:Tree):Prop where
 size:p.size≤20000
 deep:p.deep≤100
 one:p.kind=1∧p.name=[]∧p.num=0
 kids:∀ n∈p.kids,declS lim n=true
theorem snd_of {p:Tree} (h:soundB p=true):SndP p:=by
 unfold soundB at h;simp only[bj,bw]at h;obtain⟨⟨h1,h2⟩,h3,h4⟩:=h;unfold bareB at h3;simp only[bj,bw,bE]at h3;refine⟨h1,h2,⟨h3.1,h3.2.1.resolve_left mx,h3.2.2.resolve_left mx⟩,fun n hn=>?_⟩;have hd:=dj hn;rw[←declS_lim mv];exact List.all_eq_true.1 h4 n hn
theorem of_name {a:Tree} {k:Int} (h:ofB a k=true):isName a.name=true∧a.num=0:=by
 unfold ofB at h;simp only[bj,bw]at h;exact⟨h.2.2,h.2.1⟩
theorem name_len {x:Str} (h:isName x=true):x.length≤64:=by
 unfold isName at h;simp only[bj,bw]at h;exact h.2.1
theorem decl_fields {n:Tree} (h:declS lim n=true) (hk:n.kind=2∨n.kind=3):isName n.name=true∧∀ f∈n.kids,isName f.name=true∧∃ y,f.kids=[y]:=by
 unfold declS at h;rcases hk with hk | hk
 ·rw[if_pos hk,bj]at h;exact fN
 ·rw[if_neg mv,if_pos hk,bj]at h;exact fN
theorem decl_method {n:Tree} (h:declS lim n=true) (hk:n.kind=5):isName n.name=true∧∃ r t b y ys z zs,n.kids=[r,t,b]∧r.kids=y::ys∧y.kids=z::zs∧t.isSig=true∧lim.block b=true∧z.kind=10∧y.kind=11:=by
 unfold declS at h;rw[if_neg mv,if_neg mv,if_neg mv,if_pos hk,bj]at h;obtain⟨r,t,b,hkk,hr,ht,hb⟩:=Pt.kids3 h.2;unfold recvS at hr;simp only[bj,bw]at hr;obtain⟨-,h1,h2⟩:=hr;have e1:∃ y ys,r.kids=y::ys:=by
  match hq:r.kids with
  | []=>unfold kid0 at h1;rw[hq]at h1;simp[Tree.kind]at h1
  | y::ys=>exact⟨y,ys,rfl⟩
 obtain⟨y,ys,hy⟩:=e1;have h3:kid0 r=y:=by unfold kid0;rw[hy];rfl
 rw[h3]at h1 h2;have e2:∃ z zs,y.kids=z::zs:=by
  match hq:y.kids with
  | []=>unfold kid0 at h2;rw[hq]at h2;simp[Tree.kind]at h2
  | z::zs=>exact⟨z,zs,rfl⟩
 obtain⟨z,zs,hz⟩:=e2;have h4:kid0 y=z:=by unfold kid0;rw[hz];rfl
 rw[h4]at h2;exact⟨(of_name h.1).1,r,t,b,y,ys,z,zs,hkk,hy,hz,ht,hb,h2,h1⟩
theorem decl_func {n:Tree} (h:declS lim n=true) (hk:n.kind=4):isName n.name=true∧∃ t b,n.kids=[t,b]∧t.isSig=true∧lim.block b=true:=by
 unfold declS at h;rw[if_neg mv,if_neg mv,if_pos hk,bj]at h;obtain⟨t,b,hkk,ht,hb⟩:=Pt.kids2 h.2;exact⟨(of_name h.1).1,t,b,hkk,ht,hb⟩
def rHD : R HDecl HDecl where
 size:=4
 bytes:=72
 enc:=declC
 rep _ h a:=h=a
 enc_len _:=rfl
 one _:=rfl
 mono _ h:=h
theorem all2_eq {m:Mem}:∀ {hs l:List HDecl},All2 (rHD.rep m) hs l→hs=l
 | [],[],_=>rfl
 | _::_,_::_,h=>by rw[show _=_ from h.1,all2_eq h.2]
 | [],_::_,h=>h.elim
 | _::_,[],h=>h.elim
def TabR (m:Mem) (r:Value):Except Int (List Decl)→Prop
 | .error c=>r = .tuple ⟨[.slice none 0 0,.int .i64 c]⟩
 | .ok l=>∃ s:Sl,r = .tuple ⟨[s.v,.int .i64 0]⟩∧SlRep rDecl m s l
structure SmD (q:Nat) (d:Decl):Prop where
 name:d.name.length≤64
 fields:d.fields.length≤20000
 methods:d.methods.length≤q
 all:∀ f∈d.all,f.name.length≤64∧f.type.wide≤140737488355328
theorem SmD.small {q:Nat} {d:Decl} (h:SmD q d) (hq:q≤40000):d.small:=⟨by have:=h.name;omega,by have:=h.fields;omega,by have:=h.methods;omega,fun f hf=>⟨by have:=(h.all f hf).1;omega,(h.all f hf).2⟩⟩
theorem SmD.mono {q q':Nat} {d:Decl} (h:SmD q d) (hq:q≤q'):SmD q' d:=⟨h.name,h.fields,bG h.methods hq,h.all⟩
theorem kids_le (a:Tree):a.kids.length≤a.size:=by
 have:=size_kids a;have:=len_sizeL a.kids;omega
theorem fld_type (a:Str) (t:Tree):(Fld.mk a t).type=t:=rfl
theorem declOf_sm {p n:Tree} (hp:SndP p) (hw:p.wide≤140737488355328) (hn:n∈p.kids) (hk:n.kind=2∨n.kind=3):SmD 20000 (declOf n):=by
 obtain⟨h1,h2⟩:=decl_fields (hp.kids n hn) hk;have hl:=kids_le n;have hs:=ckSize hn;have hps:=hp.size;have hkw:=dh hn;have hff:∀ f∈n.kids.map fldOf,f.name.length≤64∧f.type.wide≤140737488355328:=fun f hf=>by
  obtain⟨x,hx,rfl⟩:=List.mem_map.1 hf;obtain⟨h3,y,hy⟩:=h2 x hx;refine⟨name_len h3,?_⟩;have e1:=ofRes_wide (kid x 0);have e2:=dh hx;have e3:kid x 0=y:=nE;have e4:=dh (a:=x) (t:=y) nM;have e5:(kid x 0).wide≤x.wide:=by rw[e3];exact e4
  have e6:(ofRes (kid x 0)).1.wide≤p.wide:=bG e1 (bG e5 (bG e2 hkw));have e7:=bG e6 hw;rw[fldOf,fld_type];exact e7
 unfold declOf;split
 ·exact⟨name_len h1,by simp,by simp only[bN];omega,fun f hf=>hff f (by simpa[Decl.all]using hf)⟩
 ·exact⟨name_len h1,by simp only[bN];omega,by simp,fun f hf=>hff f (by simpa[Decl.all]using hf)⟩
theorem All2.snoc {H α:Type} {r:H→α→Prop} {hs:List H} {l:List α} {h:H} {a:α} (h1:All2 r hs l) (h2:r h a):All2 r (hs++[h]) (l++[a]):=h1.append ⟨h2,trivial⟩
end Go.Sep
namespace Go.Sep
open Go.Proofs
attribute [local irreducible] TC TO OT TCallX TCall DO DOt thenQ blockQ retQ At
abbrev rSlF:=rSl rField
theorem grow_law (m:Mem) (L:List Item) (n:Nat) (hB:n*72≤140737488355328):TCall Tryz.prog 133 ⟨[.slice none 0 0,.int .i64 (n:Int)]⟩ m L (fun r m' L'=>m=m'∧∃ s:Sl,r=s.v∧Own s∧SlRep rField m s []∧L'=tok s 5::L):=by
 unfold TCall;refine ak Tryz.func133 27 ?_;refine kC ?_;refine am (fun e2=>?_) (fun e2=>?_)
 ·refine uA ?_;refine ko ?_;refine qs rfl (OT.growNil tab (z:=n) mv rfl rfl rfl rfl rfl rfl rfl rfl rfl (sz:=5) rfl rfl hB (fun b c hc=>?_));refine lh ?_;refine cI rfl (L':=.room b 0 (c*5)::L) uS ⟨rfl,⟨some ⟨b,0,none⟩,0,c⟩,?_,.inr ⟨b,0,rfl⟩,⟨rfl,cn _,by simp,[],trivial,.inl ⟨rfl,fun e=>by cases e⟩⟩,by simp[tok]⟩;exact iM
 ·refine cY (size:=5) ?_;refine uA ?_;exact cI rfl (L':=tok ⟨none,0,0⟩ 5::L) uS ⟨rfl,⟨none,0,0⟩,rfl,.inl rfl,cS _ _,rfl⟩
theorem concat_law (m:Mem) (L:List Item) (s:Sl) (ls:List (List Fld)) (hs:SlRep (rSl rField) m s ls) (hB:(ls.map List.length).sum*72≤140737488355328):TCall Tryz.prog 86 ⟨[s.v]⟩ m L (Made m L fun r m'=>∃ t:Sl,r=t.v∧SlRep rField m' t ls.flatten):=by
 have hl:=hs.len;have hsm:=hs.small rfl;have hpre:∀ k,((ls.take k).map List.length).sum≤(ls.map List.length).sum:=fun k=>by
  conv=>rhs;rw[←co k ls]
  rw[cu,List.sum_append];omega
 unfold TCall;refine ak Tryz.func86 36 ?_;refine kw ?_;rintro k hk;refine uA ?_;refine am (fun h=>?_) (fun h=>?_)
 ·have hlt:k<ls.length:=mv;have hx:ls[k]? = some ls[k]:=mG;have hp1:=hpre (k+1);have hp0:((ls.take (k+1)).map List.length).sum=((ls.take k).map List.length).sum+ls[k].length:=by
   exact fq
  refine uA ?_;refine ar tab rSlF k hs uH mD rfl hx ?_;rintro b' i' s' hrd hA;have hl':s'.len=ls[k].length:=hrd.len;refine jO ?_;exact fJ
 ·have hpk:=hpre k;refine uA ?_;refine oC goes133 ((grow_law m _ ((ls.take k).map List.length).sum mv).x ?_);rintro _ _ _ ⟨rfl,t,rfl,ho,hr,rfl⟩;refine uA ?_;refine cH (ι:=Nat×Sl×Mem) [0,25,26] rfl (fun x=>[(27,.int .i64 (x.1:Int)),(6,x.2.1.v)]) (fun x=>x.2.2) (fun x=>tok x.2.1 5::L) (fun x=>x.1≤ls.length∧m≤x.2.2∧Own x.2.1∧SlRep rField x.2.2 x.2.1 (ls.take x.1).flatten) (fun x=>ls.length-x.1) (0,t,m) uH rfl uS ⟨cn _,cC _,ho,hr⟩ ?_;rintro⟨j,u,m1⟩ ⟨hj,hm1,ho1,hr1⟩;simp only at hj hm1 ho1 hr1 ⊢;have hs1:=hs.mono hm1;refine uA ?_;refine am (fun h2=>?_) (fun h2=>?_)
  ·have hlt:j<ls.length:=mv;have hx:ls[j]? = some ls[j]:=mG;have hp1:=hpre (j+1);have hp0:((ls.take (j+1)).map List.length).sum=((ls.take j).map List.length).sum+ls[j].length:=by
    exact fq
   have hfl:(ls.take j).flatten.length=((ls.take j).map List.length).sum:=List.length_flatten;refine uA ?_;refine ar tab rSlF j hs1 uH mD rfl hx ?_;rintro b' i' s' hrd hA;refine jV ?_;refine qs rfl (cU tab rField 0 hr1 ho1 hrd rfl rfl rfl rfl rfl rfl rfl (by simp only[rField];omega) (fun s' m' hm' hs' ho'=>?_));exact fG
  ·exact iu
theorem soundE_large {tbl:List Decl} (h:largeB tbl=true):soundE tbl=4:=if_pos h
theorem soundE_form {tbl:List Decl} (h:largeB tbl=false) (h2:tbl.any formD=true):soundE tbl=2:=by rw[soundE,if_neg (by rw[h];simp),if_pos h2]
theorem soundE_type {tbl:List Decl} (h:largeB tbl=false) (h2:tbl.any formD=false) (h3:typeB tbl=true):soundE tbl=5:=by rw[soundE,if_neg (by rw[h];simp),if_neg (by rw[h2];simp),if_pos h3]
theorem soundE_ok {tbl:List Decl} (h:largeB tbl=false) (h2:tbl.any formD=false) (h3:typeB tbl=false):soundE tbl=0:=by rw[soundE,if_neg (by rw[h];simp),if_neg (by rw[h2];simp),if_neg (by rw[h3];simp)]
def bigD (d:Decl):Bool:=decide (64<d.fields.length)||decide (64<d.methods.length)
theorem largeB_len {tbl:List Decl} (h:1024<tbl.length):largeB tbl=true:=by rw[largeB,bQ h];rfl
theorem largeB_any {tbl:List Decl} (h:tbl.any bigD=true):largeB tbl=true:=by rw[largeB,show(tbl.any fun d=>decide (64<d.fields.length)||decide (64<d.methods.length))=tbl.any bigD from rfl,h,Bool.or_true]
theorem largeB_no {tbl:List Decl} (h:¬1024<tbl.length) (h2:tbl.any bigD=false):largeB tbl=false:=by rw[largeB,bR h,show(tbl.any fun d=>decide (64<d.fields.length)||decide (64<d.methods.length))=tbl.any bigD from rfl,h2];rfl
theorem any_hit {α:Type} {l:List α} {p:α→Bool} {k:Nat} (hk:k<l.length) (h:p l[k]=true):l.any p=true:=List.any_eq_true.2 ⟨_,bL hk,h⟩
theorem any_take {α:Type} {l:List α} {p:α→Bool} {k:Nat} (hk:k<l.length) (h:(l.take k).any p=false) (h2:p l[k]=false):(l.take (k+1)).any p=false:=by
 rw[cq hk,List.any_append,h,List.any_cons,h2];rfl
def NoI {α:Type} (p:Nat→α→Bool) (l:List α) (k:Nat):Prop:=∀ j x,j<k→l[j]? = some x→p j x=false
theorem NoI.step {α:Type} {p:Nat→α→Bool} {l:List α} {k:Nat} (h:NoI p l k) (hk:k<l.length) (h2:p k l[k]=false):NoI p l (k+1):=fun j x hj hx=>by
 by_cases e:j=k
 ·subst e;rw[bm hk]at hx;cases hx;exact h2
 ·exact h j x mv hx
theorem NoI.all {α:Type} {p:Nat→α→Bool} {l:List α} {k:Nat} (h:NoI p l k) (hk:l.length≤k):anyI p l 0=false:=anyI_no fun j x hx=>h j x (by have:=(List.getElem?_eq_some_iff.1 hx).1;omega) hx
theorem two_rep {m:Mem} {b:Nat} {s t:Sl} {l r:List Fld} (hA:At m b 0 [s.v,t.v]) (hs:SlRep rField m s l) (ht:SlRep rField m t r):SlRep (rSl rField) m ⟨some ⟨b,0,none⟩,2,2⟩ [l,r] :=
 ⟨rfl,bF _,(by decide:2*24≤140737488355328),[s,t],⟨hs,ht,trivial⟩,.inr ⟨b,0,rfl,hA⟩⟩
theorem all_two (d:Decl):[d.fields,d.methods].flatten=d.all:=by simp[Decl.all]
theorem fnames_snoc (l:List Fld) (k:Nat) (h:k<l.length):((l.take (k+1)).map Fld.name).Nodup↔((l.take k).map Fld.name).Nodup∧l[k].name∉(l.take k).map Fld.name:=by
 rw[cq h,cu,List.nodup_append];simp only[bH,bI,List.nodup_cons,List.not_mem_nil,not_false_eq_true,List.nodup_nil,true_and,and_true,cm,and_congr_right_iff];intro _;constructor
 ·intro hh hc;exact hh _ hc _ rfl rfl
 ·rintro hh x hx _ rfl rfl;exact hh hx
theorem fnames_twice {l:List Fld} {k:Nat} (h:k<l.length) (hm:l[k].name∈(l.take k).map Fld.name):¬(l.map Fld.name).Nodup:=fun hc=>by
 have h1:((l.take (k+1)).map Fld.name).Nodup:=hc.sublist ((List.take_sublist _ _).map _);exact((fnames_snoc l k h).1 h1).2 hm
structure Seen (es:Ents Str) (ns:List Str):Prop where
 has:∀ x,mhas es x=decide (x∈ns)
 val:∀ x,(mget es x).getD (.agg ⟨[]⟩) = .agg ⟨[]⟩
theorem Seen.nil : Seen [] []:=⟨fun _=>rfl,fun _=>rfl⟩
theorem Seen.add {es:Ents Str} {ns:List Str} (h:Seen es ns) (x:Str) (c:Nat):Seen (mset es x (.agg ⟨[]⟩) c) (ns++[x]):=⟨fun y=>by
 rw[mhas_mget,mget_mset];by_cases e:x=y
 ·rw[if_pos e,e];simp
 ·rw[if_neg e,←mhas_mget,h.has];have e':¬y=x:=fun q=>e q.symm;simp[e'],fun y=>by
 rw[mget_mset];by_cases e:x=y
 ·rw[if_pos e];rfl
 ·rw[if_neg e];exact h.val y⟩
theorem sound_tbl (m:Mem) (L:List Item) (s:Sl) (l:List Decl) (hs:SlRep rDecl m s l) (hB:TblS l):TCall Tryz.prog 41 ⟨[s.v]⟩ m L (Ret (.int .i64 (soundE l)) m L):=by
 refine lD ?_;have hl:=hs.len;have hsm:=hs.small rfl;unfold TCall;refine ak Tryz.func41 166 ?_;refine am (fun eL=>?_) (fun eL=>?_)
 ·refine uA ?_;refine jL ?_;rw[soundE_large (largeB_len mv)]
 ·refine uA ?_;refine cH (ι:=Nat) [0,20,21] rfl (fun k=>[(22,.int .i64 (k:Int))]) (fun _=>m) (fun _=>L) (fun k=>k≤l.length∧(l.take k).any bigD=false) (fun k=>l.length-k) 0 uH rfl uS ⟨cn _,rfl⟩ ?_;rintro k ⟨hk,hI⟩;refine uA ?_;refine am (fun h=>?_) (fun h=>?_)
  ·have hlt:k<l.length:=mv;have hx:l[k]? = some l[k]:=mG;refine mg ?_;rintro b' i' hd hrd hA;have hf1:=hrd.fields.len;have hm1:=hrd.methods.len;refine jV ?_;refine aC tab (fun b4=>?_);refine jK ?_;refine az (fun e1=>?_) (fun e1=>?_)
   ·refine uA ?_;refine jL ?_;rw[soundE_large (largeB_any (any_hit hlt (by rw[bigD,bQ (show 64<l[k].fields.length by omega)];rfl)))]
   ·refine uL ?_;refine am (fun e2=>?_) (fun e2=>?_)
    ·refine uA ?_;refine jL ?_;rw[soundE_large (largeB_any (any_hit hlt (by rw[bigD,bQ (show 64<l[k].methods.length by omega),Bool.or_true])))]
    ·refine uA ?_;refine jA ?_;exact⟨k+1,uH,uH,rfl,rfl,uS,⟨by omega,any_take hlt hI (by rw[bigD,bR (show ¬64<l[k].fields.length by omega),bR (show ¬64<l[k].methods.length by omega)];rfl)⟩,by omega⟩
  ·rw[cj mv]at hI;have hbig:largeB l=false:=largeB_no mv hI;have hsml:∀ d∈l,d.fields.length≤64∧d.methods.length≤64:=fun d hd=>by
    have:=List.any_eq_false.1 hI d hd;simp only[bigD,bE,bw]at this;omega
   clear hI h hk;refine uA ?_;refine cH (ι:=Nat×Mem) [0,37,38] rfl (fun x=>[(39,.int .i64 (x.1:Int))]) (fun x=>x.2) (fun _=>L) (fun x=>x.1≤l.length∧m≤x.2∧(l.take x.1).any formD=false) (fun x=>l.length-x.1) (0,m) uH rfl uS ⟨cn _,cC _,rfl⟩ ?_;rintro⟨k,m1⟩ ⟨hk,hm1,hI⟩;simp only at hk hm1 hI ⊢;refine uA ?_;refine am (fun h=>?_) (fun h=>?_)
   ·have hlt:k<l.length:=mv;have hx:l[k]? = some l[k]:=mG;have hmem:=bL hlt;have hdS:=hB _ hmem;have hd64:=hsml _ hmem;have hs1:=hs.mono hm1;refine uA ?_;refine ar tab rDecl k hs1 uH mD rfl hx ?_;rintro b' i' hd hrd hA;have hn1:=hrd.name;have hi1:=hrd.iface;have hf1:=hrd.fields.len;have hm1':=hrd.methods.len;have hnl:=hdS.name;refine jV ?_;refine aC tab (fun b6=>?_);refine uT ?_;refine j6 ?_;refine TC.seq ?_;refine TC.cutT (ι:=Bool) [0,6,37,38,39] rfl (fun v=>[(62,.bool v)]) (fun _=>m1) (fun _=>.cells b6 0 (declC hd)::L) (fun v=>v=headD l[k]) ?_ (fun v hv=>?_)
    ·refine uL ?_;refine oR goes84 (name_law _ _ hd.name (by rw[hn1];omega)) ?_;refine uA ?_;refine aE (b:=!isName hd.name) (fun e1=>?_) (fun e1=>?_)
     ·refine uA ?_;exact⟨true,uH,uH,rfl,rfl,uS,by rw[headD,←hn1,e1];rfl⟩
     ·refine uL ?_;refine au goes85 (basic_law _ _ hd.name) ?_;refine cL rfl rfl (fun e2=>?_) (fun e2=>?_)
      ·refine uA ?_;exact⟨true,uH,uH,rfl,rfl,uS,by rw[headD,←hn1,e1,bR e2];rfl⟩
      ·refine uL ?_;refine aE (b:=hd.iface) (fun e3=>?_) (fun e3=>?_)
       ·refine uL ?_;refine⟨decide ((0:Int)<(hd.fields.len:Int)),uH,uH,rfl,rfl,uS,?_⟩;rw[headD,←hn1,e1,bQ e2,←hi1,e3,hf1];simp
       ·refine uA ?_;exact⟨false,uH,uH,rfl,rfl,uS,by rw[headD,←hn1,e1,bQ e2,←hi1,e3];rfl⟩
    ·refine aO (t:=v) (fun e=>?_) (fun e=>?_)
     ·subst e;refine lF ?_;rw[soundE_form hbig (any_hit hlt (by rw[formD,←hv];rfl))]
     ·subst e;refine uL ?_;refine qs rfl (OT.lit tab rfl rfl rfl rfl (fun bl=>?_));refine cX fun m2 hm2 hbl=>?_;refine uA ?_;have hm02:=cD hm1 hm2;refine oC goes86 ((concat_law m2 _ ⟨some ⟨bl,0,none⟩,2,2⟩ [l[k].fields,l[k].methods] (two_rep (s:=hd.fields) (t:=hd.methods) hbl (hrd.fields.mono hm2) (hrd.methods.mono hm2)) (by simp only[bH,bI,List.sum_cons,List.sum_nil];omega)).x ?_);rintro _ m3 _ ⟨hm3,rfl,u,rfl,hu⟩;rw[all_two]at hu;have hul:=hu.len;have hus:=hu.small rfl;have hm03:=cD hm02 hm3;refine uA ?_;refine cH (ι:=Nat) [0,6,37,38,39,68,69] rfl (fun j=>[(70,.int .i64 (j:Int))]) (fun _=>m3) (fun _=>.cells b6 0 (declC hd)::L) (fun j=>j≤l[k].all.length∧NoI (badF l[k].fields.length) l[k].all j) (fun j=>l[k].all.length-j) 0 uH rfl uS ⟨cn _,fun j x hj=>by omega⟩ ?_;rintro j ⟨hj,hJ⟩;refine uA ?_;refine am (fun h2=>?_) (fun h2=>?_)
      ·have hjl:j<l[k].all.length:=mv;have hxj:l[k].all[j]? = some l[k].all[j]:=by simp[hjl]
       have hfS:=hdS.all _ (bL hjl);refine l7 ?_;rintro b2 i2 hf hrf hA2;have hfn:=hrf.name;have hft:=hrf.type;have hfk:=hft.kind;refine ap tab hA2 ?_;refine aC tab (fun b8=>?_);refine uT ?_;refine j6 ?_;refine TC.cutT (ι:=Bool) [0,6,37,38,39,68,69,70] rfl (fun v=>[(103,.bool v)]) (fun _=>m3) (fun _=>.cells b6 0 (declC hd)::L) (fun v=>v=badF l[k].fields.length j l[k].all[j]) ?_ (fun v hv=>?_)
       ·refine uL ?_;refine oR goes84 (name_law _ _ hf.name (by rw[hfn];omega)) ?_;refine uA ?_;refine aE (b:=!isName hf.name) (fun e1=>?_) (fun e1=>?_)
        ·refine uA ?_;exact⟨true,uH,uH,rfl,rfl,uS,by rw[badF,←hfn,e1];rfl⟩
        ·refine uL ?_;refine oR goes87 (isSound_law _ _ _ hf.type hft mv) ?_;refine uA ?_;refine aE (b:=!l[k].all[j].type.sound) (fun e2=>?_) (fun e2=>?_)
         ·refine uA ?_;exact⟨true,uH,uH,rfl,rfl,uS,by rw[badF,←hfn,e1,e2];rfl⟩
         ·refine uA ?_;refine al (k:=1) 0 ?_;refine az (fun e3=>?_) (fun e3=>?_)
          ·refine uA ?_;exact⟨true,uH,uH,rfl,rfl,uS,by rw[badF,←hfn,e1,e2,←hfk,bQ e3];rfl⟩
          ·refine uL ?_;refine az (fun e4=>?_) (fun e4=>?_)
           ·refine uA ?_;refine al (k:=1) 0 ?_;refine⟨!decide (hf.type.kind=7),uH,uH,rfl,rfl,uS,?_⟩;rw[badF,←hfn,e1,e2,←hfk,bR e3,bQ (show l[k].fields.length≤j by omega)];rfl
           ·refine uA ?_;refine⟨false,uH,uH,rfl,rfl,uS,?_⟩;rw[badF,←hfn,e1,e2,←hfk,bR e3,bR (show ¬l[k].fields.length≤j by omega)];rfl
       ·refine aO (t:=v) (fun e=>?_) (fun e=>?_)
        ·subst e;refine uA ?_;refine ag ⟨hm03,rfl,?_⟩;rw[soundE_form hbig (any_hit hlt (by rw[formD,anyI_yes hxj hv.symm,Bool.or_true]))]
        ·subst e;refine uA ?_;refine kA ?_;exact⟨j+1,uH,uH,rfl,rfl,uS,⟨by omega,hJ.step hjl hv.symm⟩,by omega⟩
      ·refine uA ?_;refine jA ?_;exact⟨(k+1,m3),uH,uH,rfl,rfl,uS,⟨by simp only;omega,hm03,any_take hlt hI (by rw[formD,←hv,hJ.all mv];rfl)⟩,by simp only;omega⟩
   ·rw[cj mv]at hI;have hform:l.any formD=false:=hI;have hfin:∀ d∈l,∀ f∈d.all,f.type.sound=true:=fun d hd f hf=>by
     have h1:=List.any_eq_false.1 hform d hd;simp only[formD,bE,not_or,Bool.not_eq_true]at h1;obtain⟨j,hj,rfl⟩:=List.getElem_of_mem hf;cases hc:d.all[j].type.sound with
     | true=>rfl
     | false =>
      have:=anyI_yes (p:=badF d.fields.length) (l:=d.all) (j:=j) (x:=d.all[j]) (by simp[hj]) (by rw[badF,hc];simp);rw[h1.2]at this;cases this
    clear hI h hk;have hs1:=hs.mono hm1;refine uA ?_;refine oC goes58 ((newTable_law m1 _ s l hs1).x ?_);rintro _ m2 _ ⟨hm2,rfl,bt,es,c,rfl,ho,hT⟩;have hm02:=cD hm1 hm2;refine uA ?_;refine qs rfl (OT.mapLenP tab kStr rfl rfl rfl rfl rfl ho ?_);refine uA ?_;refine aY (fun e5=>?_) (fun e5=>?_)
    ·refine uA ?_;refine ag ⟨hm02,rfl,?_⟩;have:¬(l.map Decl.name).Nodup:=fun hc=>e5 (by have:=hT.len.2 hc;omega);rw[soundE_type hbig hform (by rw[typeB,bR this];rfl)]
    ·have hnd:(l.map Decl.name).Nodup:=hT.len.1 mv;have hTR:=hT.rep hnd;have hhas:mhas es=hasD l:=hTR.hasF;have hs2:=hs.mono hm02;refine uA ?_;refine cH (ι:=Nat×Mem) [0,9,113,114] rfl (fun x=>[(115,.int .i64 (x.1:Int))]) (fun x=>x.2) (fun _=>L) (fun x=>x.1≤l.length∧m2≤x.2∧(l.take x.1).any (typeD l)=false) (fun x=>l.length-x.1) (0,m2) uH rfl uS ⟨cn _,cC _,rfl⟩ ?_;rintro⟨k,m3⟩ ⟨hk,hm3,hI⟩;simp only at hk hm3 hI ⊢;refine uA ?_;refine am (fun h=>?_) (fun h=>?_)
     ·have hlt:k<l.length:=mv;have hx:l[k]? = some l[k]:=mG;have hmem:=bL hlt;have hdS:=hB _ hmem;have hd64:=hsml _ hmem;have hs3:=hs2.mono hm3;refine uA ?_;refine ar tab rDecl k hs3 uH mD rfl hx ?_;rintro b' i' hd hrd hA;have hf1:=hrd.fields.len;refine jV ?_;refine aC tab (fun b11=>?_);refine jx ?_;refine qs rfl (OT.makeMap kStr rfl rfl rfl (fun bn=>?_));refine uL ?_;refine qs rfl (OT.lit tab rfl rfl rfl rfl (fun bl=>?_));refine cX fun m4 hm4 hbl=>?_;refine uA ?_;refine oC goes86 ((concat_law m4 _ ⟨some ⟨bl,0,none⟩,2,2⟩ [l[k].fields,l[k].methods] (two_rep (s:=hd.fields) (t:=hd.methods) hbl (hrd.fields.mono hm4) (hrd.methods.mono hm4)) (by simp only[bH,bI,List.sum_cons,List.sum_nil];omega)).x ?_);rintro _ m5 _ ⟨hm5,rfl,u,rfl,hu⟩;rw[all_two]at hu;have hul:=hu.len;have hus:=hu.small rfl;have hm35:=cD hm3 (cD hm4 hm5);have hm05:=cD hm02 hm35;have ho5:=hm35.o _ _ ho;have hT5:=hTR.mono hm35;refine uA ?_;refine cH (ι:=Nat×Ents Str×Nat) [0,9,11,12,113,114,115,125,126] rfl (fun x=>[(127,.int .i64 (x.1:Int))]) (fun _=>m5) (fun x=>.obj bn (mapO kStr x.2.1 x.2.2)::.cells b11 0 (declC hd)::L) (fun x=>x.1≤l[k].all.length∧Seen x.2.1 ((l[k].all.take x.1).map Fld.name)∧((l[k].all.take x.1).map Fld.name).Nodup∧NoI (badK l l[k].fields.length) l[k].all x.1) (fun x=>l[k].all.length-x.1) (0,[],0) uH rfl uS ⟨cn _,Seen.nil,List.nodup_nil,fun j x hj=>by omega⟩ ?_;rintro⟨j,es2,c2⟩ ⟨hj,hS,hN,hJ⟩;simp only at hj hS hN hJ ⊢;refine uA ?_;refine am (fun h2=>?_) (fun h2=>?_)
      ·have hjl:j<l[k].all.length:=mv;have hxj:l[k].all[j]? = some l[k].all[j]:=by simp[hjl]
       refine l7 ?_;rintro b2 i2 hf hrf hA2;have hfn:=hrf.name;have hft:=hrf.type;have hval:=hS.val hf.name;refine ap tab hA2 ?_;refine aC tab (fun b14=>?_);refine jK ?_;refine qs rfl (OT.lookupOk tab kStr 1 hf.name rfl rfl rfl rfl rfl rfl rfl rfl ?_);refine TO.conv ?_ (congrArg (fun z=>Value.tuple ⟨[z,.bool (mhas es2 hf.name)]⟩) hval);refine uA ?_;refine aC tab (fun b15=>?_);refine uT ?_;refine TO.pureP tab rfl rfl ?_;refine j6 ?_;refine TC.cutT (ι:=Bool) [0,9,11,12,14,113,114,115,125,126,127] rfl (fun v=>[(159,.bool v)]) (fun _=>m5) (fun _=>.cells b14 0 (fieldC hf)::.obj bn (mapO kStr es2 c2)::.cells b11 0 (declC hd)::L) (fun v=>v=(mhas es2 hf.name||badK l l[k].fields.length j l[k].all[j])) ?_ (fun v hv=>?_)
       ·refine uA ?_;refine aE (b:=mhas es2 hf.name) (fun e1=>?_) (fun e1=>?_)
        ·refine uA ?_;exact⟨true,uH,uH,rfl,rfl,uS,by rw[e1];rfl⟩
        ·refine uL ?_;refine oR goes88 (tknown_law bt c es hT5.ok l[k].all[j].type _ _ hf.type hft ho5) ?_;rw[hhas];refine uA ?_;refine aE (b:=!tknown (hasD l) l[k].all[j].type) (fun e2=>?_) (fun e2=>?_)
         ·refine uA ?_;exact⟨true,uH,uH,rfl,rfl,uS,by rw[e1,badK,e2];rfl⟩
         ·refine uL ?_;refine az (fun e3=>?_) (fun e3=>?_)
          ·refine uL ?_;refine au goes89 (tstruct_law l[k].all[j].type bt c es l _ _ hf.type hft ho5 hT5) ?_;exact⟨isStructD l l[k].all[j].type,uH,uH,rfl,rfl,uS,by rw[e1,badK,e2,bQ (show j<l[k].fields.length by omega)];rfl⟩
          ·refine uA ?_;exact⟨false,uH,uH,rfl,rfl,uS,by rw[e1,badK,e2,bR (show ¬j<l[k].fields.length by omega)];rfl⟩
       ·rw[hS.has,hfn]at hv;refine aO (t:=v) (fun e=>?_) (fun e=>?_)
        ·subst e;refine uA ?_;refine ag ⟨hm05,rfl,?_⟩;rw[soundE_type hbig hform];rw[typeB,any_hit hlt,Bool.or_true];rw[typeD];have hv:=hv.symm;rw[bE]at hv;rcases hv with hv | hv
         ·rw[bR (fnames_twice hjl (of_decide_eq_true hv))];rfl
         ·rw[anyI_yes hxj hv,Bool.or_true]
        ·subst e;have hv:=hv.symm;rw[Bool.or_eq_false_iff]at hv;obtain⟨g1,g2⟩:=hv;have hsn:(l[k].all.take (j+1)).map Fld.name=(l[k].all.take j).map Fld.name++[hf.name]:=by
          rw[cq hjl,cu,hfn];rfl
         refine uL ?_;refine qs rfl (OT.mapSet tab kStr 1 hf.name rfl rfl rfl rfl rfl rfl rfl ?_);refine uA ?_;refine kA ?_;exact⟨(j+1,mset es2 hf.name (.agg ⟨[]⟩) c2,mclock es2 hf.name c2),uH,uH,rfl,rfl,uS,⟨by simp only;omega,by simp only[hsn];exact hS.add _ _,(fnames_snoc _ j hjl).2 ⟨hN,of_decide_eq_false g1⟩,hJ.step hjl g2⟩,by simp only;omega⟩
      ·rw[cj mv]at hN;refine lQ ?_;exact⟨(k+1,m5),uH,uH,rfl,rfl,uS,⟨by simp only;omega,hm35,any_take hlt hI (by rw[typeD,bQ hN,hJ.all mv];rfl)⟩,by simp only;omega⟩
     ·rw[cj mv]at hI;refine uA ?_;refine ag ⟨cD hm02 hm3,rfl,?_⟩;rw[soundE_ok hbig hform (by rw[typeB,bQ hnd,hI];rfl)]
end Go.Sep
namespace Go.Sep
open Go.Proofs Go.Ck
attribute [local irreducible] TC TO OT TCallX TCall DO DOt thenQ blockQ retQ At
theorem bt2 {α:Type} {f g c7 c6 b t d:α} {X L:List α}:(f::g::c7::c6::b::t::(X++(d::L))).Perm (c7::c6::f::b::t::(X++(g::d::L))):=nr
theorem toks_snoc (l:List Sl) (s:Sl) (n:Nat) (L:List Item):toks l n++(tok s n::L)=toks (l++[s]) n++L:=by simp[toks]
theorem bt3 {α:Type} {b t o:α} {X L:List α}:(b::t::(X++(o::L))).Perm (o::b::t::(X++L)):=nr
theorem bt4 {α:Type} {x b c d k:α} {X Y:List α} (h:x=b) (hX:X.Perm (k::Y)):(d::c::x::X).Perm ([b,c,d]++(k::Y)):=by subst h;exact oh
theorem bt5 {α:Type} {x b c d k:α} {X Y:List α} (h:x=b) (hX:(k::Y).Perm X):([b,c,d]++(k::Y)).Perm (c::d::x::X):=by subst h;exact oh
def isDf : Tree→Bool:=fun n=>decide (n.kind=2)||decide (n.kind=3)
theorem take_filter_yes {l:List Tree} {i:Nat} (h:i<l.length) (hd:isDf l[i]=true):((l.take (i+1)).filter isDf).map declOf=((l.take i).filter isDf).map declOf++[declOf l[i]]:=by
 rw[cq h,List.filter_append,cu];simp[hd]
theorem take_filter_no {l:List Tree} {i:Nat} (h:i<l.length) (hd:isDf l[i]=false):((l.take (i+1)).filter isDf).map declOf=((l.take i).filter isDf).map declOf:=by
 rw[cq h,List.filter_append];simp[hd]
def tabE (o:Option (List Decl)):Except Int (List Decl) :=
 match o with
 | none=>.error 5
 | some l=>if soundE l=0 then .ok l else .error (if soundE l=2 then 5 else soundE l)
theorem tableD_tab (p:Tree):tableD p=tabE (methodsC ((p.kids.filter isDf).map declOf) p.kids):=rfl
theorem All2.set2 {H α:Type} {r:H→α→Prop}:∀ {hs:List H} {l:List α} (k:Nat) {h:H} {a:α},All2 r hs l→r h a→All2 r (hs.set k h) (l.set k a)
 | [],[],k,h,a,_,_=>by cases k<;>exact trivial
 | x::xs,y::ys,0,h,a,hh,hr=>⟨hr,hh.2⟩
 | x::xs,y::ys,k+1,h,a,hh,hr=>⟨hh.1,All2.set2 k hh.2 hr⟩
 | [],_::_,_,_,_,hh,_=>hh.elim
 | _::_,[],_,_,_,hh,_=>hh.elim
theorem fldRep_mk {m:Mem} {a b:Str} {t:HTree} {u:Tree} (h:a=b) (hr:TreeRep m t u):FldRep m ⟨a,t⟩ ⟨b,u⟩:=⟨h,hr⟩
theorem filter_le (l:List Tree) (p:Tree→Bool):(l.filter p).length≤l.length:=List.length_filter_le _ _
theorem table_law (p:Tree) (hsd:soundB p=true) (hw:p.wide≤140737488355328) (m:Mem) (L:List Item) (h:HTree) (hr:TreeRep m h p) :
  TCall Tryz.prog 20 ⟨[treeV h]⟩ m L (Made m L fun r m'=>TabR m' r (tableD p)):=by
 have hp:=snd_of hsd;have hpl:=kids_le p;have hps:=hp.size;obtain⟨hr1,hr2,hr3,hr4⟩:=hr;have hlen:=hr4.len;unfold TCall;refine ak Tryz.func20 139 ?_;refine oB (fun b1=>?_);refine lr ?_;refine jS ?_;refine TC.buf0 4 ?_;refine cH (ι:=Nat×Sl×List HDecl×Mem) [1,20,21] rfl (fun y=>[(22,.int .i64 (y.1:Int)),(4,y.2.1.v)]) (fun y=>y.2.2.2) (fun y=>bufI y.2.1 (encs rHD y.2.2.1)::tok y.2.1 4::(toks (y.2.2.1.map HDecl.methods) 5++(.cells b1 0 (treeC h)::L))) (fun y=>y.1≤p.kids.length∧m≤y.2.2.2∧Own0 y.2.1∧y.2.2.1.length=y.2.1.len∧y.2.1.len≤y.2.1.cap∧All2 (rDecl.rep y.2.2.2) y.2.2.1 (((p.kids.take y.1).filter isDf).map declOf)∧(∀ h∈y.2.2.1,Own h.methods)∧y.2.2.1.length≤y.1) (fun y=>p.kids.length-y.1) (0,nilS,[],m) uH rfl uS ⟨cn _,cC _,Own0.nil,rfl,bF _,trivial,(fun _ h=>by cases h),bF _⟩ ?_;rintro⟨i,s,hs,m1⟩ ⟨hi,hm,hso,hsl,hsc,hall,hom0,hle⟩;simp only at hi hm hso hsl hsc hall hom0 hle;refine uA ?_;refine am (fun hltI=>?_) (fun hltI=>?_)
 ·have hlt0:(i:Int)<(h.kids.len:Int):=hltI;have hlt:i<p.kids.length:=mv;have hx:p.kids[i]? = some p.kids[i]:=mG;have hmem:=bL hlt;have hdk:=hp.kids _ hmem;have hr5:=hr4.mono hm;refine jP ?_;rintro b' i' h9 hrd9 hA9;have hrn:=rTree_iff.1 hrd9;have hkk:=hrn.kind;refine lB ?_;refine aC tab (fun b6=>?_);refine jK ?_;refine cL rfl rfl (fun e1=>?_) (fun e1=>?_)
  ·have e1:¬h9.kind=2:=e1;refine uL ?_;refine aY (fun e2=>?_) (fun e2=>?_)
   ·have e2:¬h9.kind=3:=e2;have hdf:isDf p.kids[i]=false:=by
     unfold isDf;rw[bR mv,bR mv];rfl
    refine kh ?_;exact⟨(i+1,s,hs,m1),uH,uH,rfl,rfl,uS,⟨by omega,hm,hso,hsl,hsc,by rw[take_filter_no hlt hdf];exact hall,hom0,by simp only;omega⟩,by simp only;omega⟩
   ·have e2:h9.kind=3:=e2;have hk23:p.kids[i].kind=2∨p.kids[i].kind=3:=mv;have hdf:isDf p.kids[i]=true:=by
     unfold isDf;rw[bR mv,bQ mv];rfl
    generalize hne:p.kids[i]=n at hx hmem hdk hrn hk23 hkk;obtain⟨hnm,hfk⟩:=decl_fields hdk hk23;have hnl:=kids_le n;have hns:=ckSize hmem;have hnw:=dh hmem;have hr4:=hrn.kids;have hrl:=hr4.len;have hn9:=hrn.name;refine uL ?_;refine aC tab (fun b7=>?_);refine jC ?_;rintro⟨j,sf,sm,lf,lm,m2⟩ ⟨hj,hm2,hsf,hof,hsm,hom,hlf,hlm⟩;simp only at hj hm2 hsf hof hsm hom hlf hlm;refine uA ?_;refine am (fun hlt2=>?_) (fun hlt2=>?_)
    ·have hlt3:(j:Int)<(h9.kids.len:Int):=hlt2;have hlj:j<n.kids.length:=mv;exact dN
    ·exact dR
  ·have e1:h9.kind=2:=e1;have hk23:p.kids[i].kind=2∨p.kids[i].kind=3:=mv;have hdf:isDf p.kids[i]=true:=by
    unfold isDf;rw[bQ mv];rfl
   generalize hne:p.kids[i]=n at hx hmem hdk hrn hk23 hkk;refine uA ?_;obtain⟨hnm,hfk⟩:=decl_fields hdk hk23;have hnl:=kids_le n;have hns:=ckSize hmem;have hnw:=dh hmem;have hr4:=hrn.kids;have hrl:=hr4.len;have hn9:=hrn.name;refine uL ?_;refine aC tab (fun b7=>?_);refine jC ?_;rintro⟨j,sf,sm,lf,lm,m2⟩ ⟨hj,hm2,hsf,hof,hsm,hom,hlf,hlm⟩;simp only at hj hm2 hsf hof hsm hom hlf hlm;refine uA ?_;refine am (fun hlt2=>?_) (fun hlt2=>?_)
   ·have hlt3:(j:Int)<(h9.kids.len:Int):=hlt2;have hlj:j<n.kids.length:=mv;exact dN
   ·exact dR
 ·have hlt0:¬(i:Int)<(h.kids.len:Int):=hltI;have hie:i=p.kids.length:=mv;subst hie;rw[List.take_length]at hall;generalize hl0:(p.kids.filter isDf).map declOf=l0 at hall;have htab:tableD p=tabE (methodsC l0 p.kids):=by rw[tableD_tab,hl0]
  have hl0l:l0.length≤20000:=by
   have:=filter_le p.kids isDf;rw[←hl0,bN];omega
  have hsm0:∀ d∈l0,SmD 20000 d:=fun d hd=>by
   rw[←hl0]at hd;obtain⟨n,hn,rfl⟩:=List.mem_map.1 hd;obtain⟨hn1,hn2⟩:=List.mem_filter.1 hn;unfold isDf at hn2;simp only[bE,bw]at hn2;exact declOf_sm hp hw hn1 hn2
  have hdcap:=hsc;refine uA ?_;refine cM bt3 ?_;refine qs rfl (OT.loadL (k:=3) tab 0 rfl rfl rfl rfl rfl rfl ?_);refine jS ?_;refine cH (ι:=Nat×List HDecl×List Decl×Mem) [4,82,83] rfl (fun y=>[(84,.int .i64 (y.1:Int))]) (fun y=>y.2.2.2) (fun y=>bufI s (encs rHD y.2.1)::(toks (y.2.1.map HDecl.methods) 5++L)) (fun y=>y.1≤p.kids.length∧m≤y.2.2.2∧y.2.1.length=s.len∧All2 (rDecl.rep y.2.2.2) y.2.1 y.2.2.1∧(∀ h∈y.2.1,Own h.methods)∧(∀ d∈y.2.2.1,SmD (20000+y.1) d)∧y.2.2.1.length=l0.length∧methodsC l0 p.kids=methodsC y.2.2.1 (p.kids.drop y.1)) (fun y=>p.kids.length-y.1) (0,hs,l0,m1) uH rfl ((bX _ (List.sublist_cons_self _ _)).trans (List.sublist_cons_self _ _)) ⟨cn _,hm,hsl,hall,hom0,hsm0,rfl,rfl⟩ ?_;clear hsl hall hom0 hm hle hsm0;rintro⟨i,hs,l,m2⟩ ⟨hi,hm,hsl,hall,hom0,hsm,hll,hmc⟩;simp only at hi hm hsl hall hom0 hsm hll hmc;have hr5:=hr4.mono hm;have hal:=hall.length;refine uA ?_;refine am (fun hltJ=>?_) (fun hltJ=>?_)
  ·have hlt0:(i:Int)<(h.kids.len:Int):=hltJ;have hlt:i<p.kids.length:=mv;have hx:p.kids[i]? = some p.kids[i]:=mG;have hmem:=bL hlt;have hdk:=hp.kids _ hmem;rw[bU hlt,methodsC]at hmc;generalize hne:p.kids[i]=n at hx hmem hdk hmc;refine jP ?_;rintro b' i' h9 hrd9 hA9;have hrn:=rTree_iff.1 hrd9;have hkk:=hrn.kind;refine lB ?_;refine aC tab (fun b13=>?_);refine jK ?_;refine aY (fun e1=>?_) (fun e1=>?_)
   ·have e1:¬h9.kind=5:=e1;rw[if_neg mv]at hmc;refine kh ?_;exact⟨(i+1,hs,l,m2),uH,uH,rfl,rfl,uS,⟨by omega,hm,hsl,hall,hom0,fun d hd=>(hsm d hd).mono nA,hll,hmc⟩,by simp only;omega⟩
   ·have e1:h9.kind=5:=e1;rw[if_pos mv]at hmc;obtain⟨hnm,r,t,bd,y,ys,z,zs,hnk,hrk,hyk,-,-,-,-⟩:=decl_method hdk mv;have hrv:recvD n=z.name:=by
     have e2:kid n 0=r:=nd;have e3:kid r 0=y:=by unfold kid;rw[hrk];rfl
     have e4:kid y 0=z:=by unfold kid;rw[hyk];rfl
     unfold recvD;rw[e2,e3,e4]
    have htk:kid n 1=t:=nd;have htw:=dh (a:=n) (t:=t) mS;have hnw:=dh hmem;rw[hrv,htk]at hmc;have hn9:=hrn.name;have hr6:=hrn.kids;rw[hnk]at hr6;refine uL ?_;refine aA tab rTree 0 hr6 uH mD uH ?_;rintro b2 i2 h2 hrd2 hA2;have hr7:=(rTree_iff.1 hrd2).kids;rw[hrk]at hr7;refine uA ?_;refine ah (k:=3) hA2 ?_;refine aA tab rTree 0 hr7 uH mD uH ?_;rintro b3 i3 h3 hrd3 hA3;have hr8:=(rTree_iff.1 hrd3).kids;rw[hyk]at hr8;refine uA ?_;refine ah (k:=3) hA3 ?_;refine aA tab rTree 0 hr8 uH mD uH ?_;rintro b4 i4 h4 hrd4 hA4;have hn4:=(rTree_iff.1 hrd4).name;refine uA ?_;refine ah (k:=1) hA4 ?_;refine aC tab (fun b14=>?_);refine jx ?_;refine db 0 rfl fun m3 hm3 hA14=>?_;replace hA14:At m3 b14 0 [strV h4.name]:=hA14;refine cM (L':=bufI s (encs rDecl hs)::.cells b13 0 (treeC h9)::(toks (hs.map HDecl.methods) 5++L)) (ba _ _ _) ?_;replace hall:All2 (rDecl.rep m3) hs l:=hall.mono fun _ _=>rDecl.mono hm3;have hpr:∀(h:HDecl) (a:Decl) (L:List Item),rDecl.rep m3 h a→TCall Tryz.prog 40 ⟨declV h::[ptr b14]⟩ m3 L (Ret (.bool (isM z.name a)) m3 L):=fun h a L hh=>by
     have:=table1_law b14 h4.name m3 L h hA14;rw[hh.name,hh.iface,hn4]at this;exact this
    refine oR goes39 (indexFunc_decl m3 _ s hs l (isM z.name) 40 [ptr b14] goes40 hso hsl hall mv hpr) ?_;rcases addM_idx z.name ⟨n.name,(ofRes t).1⟩ l 0 with ⟨g1,g2⟩ | ⟨j,d,g0,g1,g2⟩
    ·rw[g2]at hmc;refine TO.conv (v':=.int .i64 (-1)) ?_ (by rw[g1]);refine uA ?_;refine cI rfl (L':=L) (((List.sublist_append_right _ _).cons _).cons _) ⟨cD hm hm3,rfl,?_⟩;rw[htab,hmc];rfl
    ·rw[g2]at hmc;replace hmc:methodsC l0 p.kids=methodsC (l.set j { d with methods:=d.methods++[⟨n.name,(ofRes t).1⟩] }) (p.kids.drop (i+1)):=hmc;refine TO.conv (v':=.int .i64 (j:Int)) ?_ (by rw[g1,cp]);have hjl:=(List.getElem?_eq_some_iff.1 g0).1;refine uA ?_;replace hr6:=hr6.mono hm3;refine cM (ba _ _ _) ?_;refine uL ?_;refine aA tab rTree 1 hr6 uH mD uH ?_;rintro b5 i5 h5 hrd5 hA5;refine ap tab hA5 ?_;refine oC goes38 ((of_own t _ _ h5 (rTree_iff.1 hrd5) mv).x ?_);rintro _ m4 _ ⟨hm4,rfl,hx4,rfl,hhx⟩;have hwt:=bG (ofRes_wide t) (bG htw (bG hnw hw));obtain⟨tt,htt⟩:∃ tt,(ofRes t).1=tt:=⟨_,rfl⟩
     rw[htt]at hmc hhx hwt;replace hall:All2 (rDecl.rep m4) hs l:=hall.mono fun _ _=>rDecl.mono hm4;obtain⟨hd,hgj,hdr⟩:=hall.get g0;have hod:=hom0 hd (List.mem_of_getElem? hgj);have hsd:=hsm d (List.mem_of_getElem? g0);have hmm:=hdr.methods;obtain⟨b,hb⟩:∃ b,s.a=some ⟨b,0,none⟩:=by
      rcases hso with h0 | h0
      ·subst h0;simp only at hsl;omega
      ·exact h0
     obtain⟨sa,sn,sc⟩:=s;simp only at hb hsl;subst hb;have hgm:(hs.map HDecl.methods)[j]? = some hd.methods:=by rw[List.getElem?_map,hgj];rfl
     have hjs:j<(hs.map HDecl.methods).length:=(List.getElem?_eq_some_iff.1 hgm).1;refine uA ?_;refine aC tab (fun b16=>?_);refine jx ?_;refine aL [15] df 16 [.cells b 0 (encs rHD hs),.cells b13 0 (treeC h9),.cells b16 0 (treeC hx4)] (tok hd.methods 5::(toks ((hs.map HDecl.methods).eraseIdx j) 5++L)) (bt4 (bufI_some rfl) (toks_out L hgm)) ?_;refine cV tab uC uK [0,1,2,3,7] uK rfl ?_;refine DO.indexP tab 4 j uC uK uK rfl rfl rfl rfl rfl rfl rfl rfl rfl (show j<sn by omega) ?_;refine cV tab uC uK [5] uK rfl ?_;refine DO.loadE (jj:=3) tab 6 0 rHD hgj (show 0+j*4+3=j*4+3 by omega) (fun _=>rfl) uC uK uK rfl rfl rfl rfl rfl rfl rfl ?_;refine ae (k:=1) 8 1 ?_;refine ae (k:=0) 9 2 ?_;refine cV tab uC uK [10] uK rfl ?_;refine af 11 ?_;have hf4:FldRep m4 ⟨h9.name,hx4⟩ ⟨n.name,tt⟩:=fldRep_mk hn9 hhx;refine aM (hs:=[⟨h9.name,hx4⟩]) (l:=[⟨n.name,tt⟩]) tab rField ⟨hf4,trivial⟩ uH mw (fun sA m5 hm5 hsA _ _=>?_);refine⟨hm5,_,a9 _,?_⟩;refine af 12 ?_;refine cU tab rField 3 (hmm.mono hm5) hod hsA rfl rfl rfl rfl rfl rfl rfl (by have:=hsd.methods;simp only[a7,a8,rField];omega) (fun s' m6 hm6 hs' ho'=>?_);refine⟨hm6,tok s' 5::(toks ((hs.map HDecl.methods).eraseIdx j) 5++L),a9 _,?_⟩;refine DO.indexP tab 13 j uC uK uK rfl rfl rfl rfl rfl rfl rfl rfl rfl (show j<sn by omega) ?_;refine cV tab uC uK [14] uK rfl ?_;refine cW ?_;refine aB 15 ?_;refine OT.storeE (j:=3) (cs:=[s'.v]) (h2:={ hd with methods:=s' }) tab 0 rHD hgj (show 0+j*4+3=j*4+3 by omega) (fun _=>rfl) (show 3+1≤4 by omega) rfl rfl rfl rfl rfl rfl rfl ?_;refine aH ?_;refine kV ?_;refine TC.perm (L':=.cells b13 0 (treeC h9)::.cells b16 0 (treeC hx4)::bufI ⟨some ⟨b,0,none⟩,sn,sc⟩ (encs rHD (hs.set j { hd with methods:=s' }))::(toks ((hs.set j { hd with methods:=s' }).map HDecl.methods) 5++L)) (bt5 (bufI_some rfl) (by rw[List.map_set];exact toks_in L hjs)) ?_
     refine kh ?_;have hm46:=cD hm5 hm6;have hall':All2 (rDecl.rep m6) (hs.set j { hd with methods:=s' }) (l.set j { d with methods:=d.methods++[⟨n.name,tt⟩] }):=All2.set2 (r:=rDecl.rep m6) j (hall.mono fun _ _=>rDecl.mono hm46) ⟨hdr.name,hdr.iface,hdr.fields.mono hm46,hs'⟩
     exact⟨(i+1,hs.set j { hd with methods:=s' },l.set j { d with methods:=d.methods++[⟨n.name,tt⟩] },m6),uH,uH,rfl,rfl,uS,⟨by omega,cD (cD hm hm3) (cD hm4 hm46),by rw[List.length_set];exact hsl,hall',fun x hx=>by
      rcases List.mem_or_eq_of_mem_set hx with hx | rfl
      ·exact hom0 x hx
      ·exact ho',fun x hx=>by
      rcases List.mem_or_eq_of_mem_set hx with hx | rfl
      ·exact(hsm x hx).mono nA
      ·refine⟨hsd.name,hsd.fields,by have:=hsd.methods;simp only[a6,a7,a8];omega,fun f hf=>?_⟩;unfold Decl.all at hf;rcases List.mem_append.1 hf with hf | hf
       ·exact hsd.all f (List.mem_append.2 (.inl hf))
       ·rcases List.mem_append.1 hf with hf | hf
        ·exact hsd.all f (List.mem_append.2 (.inr hf))
        ·rw[List.mem_singleton.1 hf];exact⟨name_len hnm,hwt⟩,by rw[List.length_set];exact hll,hmc⟩,by simp only;omega⟩
  ·have hlt0:¬(i:Int)<(h.kids.len:Int):=hltJ;have hie:i=p.kids.length:=mv;rw[hie,List.drop_length]at hmc;replace hmc:methodsC l0 p.kids=some l:=hmc;rw[hmc]at htab;rw[tabE]at htab;rw[htab];refine uA ?_;refine TO.freezeB rDecl hso hsl hdcap hall (by simp only[rDecl];omega) fun m3 hm3 hS=>?_;refine oR goes41 (sound_tbl _ _ s l hS (fun d hd=>(hsm d hd).small mv)) ?_;have hmm:=cD hm hm3;refine uA ?_;refine am (fun e6=>?_) (fun e6=>?_)
   ·have e6:soundE l=2:=e6;refine kU ?_;rw[if_neg mv,if_pos e6];rfl
   ·have e6:¬soundE l=2:=e6;refine uA ?_;refine aY (fun e7=>?_) (fun e7=>?_)
    ·have e7:¬soundE l=0:=e7;refine kU ?_;rw[if_neg e7,if_neg e6];rfl
    ·have e7:soundE l=0:=e7;refine kU ?_;rw[if_pos e7];exact⟨s,rfl,hS⟩
end Go.Sep
namespace Go.Sep
open Go.Proofs Go.Ck
attribute [local irreducible] TC TO OT TCallX TCall DO DOt thenQ blockQ retQ At
theorem ckStart_ok {P:Program} {vs:List Value} {m:Mem} {L:List Item} {w:World} {n N:Nat} (hN:N≤n) (hs:St m w L):Ok N (argEnv vs 0) [] m L { tmps:=⟨vs⟩++Array.replicate (n-(⟨vs⟩:Array Value).size) undef,defers:=[] } w:=by
 refine⟨?_,?_,rfl,hs⟩
 ·simp;omega
 ·exact eJ
theorem bRec_idle (a b:Nat) (m:Mem) (L:List Item) (w:World) (hs:St m w L) :
  CallsD Tryz.prog 59 ⟨[ptr a,ptr b]⟩ .returning w fun e u' w'=>∃ v,e = .returned v∧u' = .returning∧St m w' L:=by
 refine callsD_of_wpS Tryz.func59 rfl fun c₀ cs hu=>?_;have h0:=ckStart_ok (P:=Tryz.prog) (vs:=[ptr a,ptr b]) (n:=16) (N:=16) (bF _) hs;have hrp:recPair (c₀::cs)=(.nilIface,c₀::cs):=ow;have hc:({ c₀ with mode:=.returning }:Frame)=c₀:=by rw[←hu]
 apply wpS_seq;refine lY ?_;show Code.wpS _ _ _ _ _ _;rw[←hc];refine wpS_TC (R:=Ret (.tuple ⟨[]⟩) m L) ?_ ((h0.put (d:=5) rfl .nilIface).put (d:=2) rfl .nilIface) ?_
 ·exact iT
 ·exact fO
theorem bRec_fault (a b:Nat) (m:Mem) (L:List Item) (w:World) (va vb:Value) (hs:St m w (.cells a 0 [va]::.cells b 0 [vb]::L)) :
  CallsD Tryz.prog 59 ⟨[ptr a,ptr b]⟩ (.panicking brk) w fun e u' w' =>
   ∃ v,e = .returned v∧u' = .panicking [{ v:=.iface 109 (.agg ⟨[]⟩),recovered:=true }]∧St m w' (.cells a 0 [.pointer none]::.cells b 0 [.int .i64 5]::L):=by
 refine callsD_of_wpS Tryz.func59 rfl fun c₀ cs hu=>?_;have h0:=ckStart_ok (P:=Tryz.prog) (vs:=[ptr a,ptr b]) (n:=16) (N:=16) (bF _) hs;have hrp:recPair (c₀::cs)=(.iface 109 (.agg ⟨[]⟩),{ c₀ with mode:=.panicking [{ v:=.iface 109 (.agg ⟨[]⟩),recovered:=true }] }::cs):=by simp[recPair,recoverD,hu,brk]
 apply wpS_seq;refine lY ?_;show Code.wpS _ _ _ _ _ _;refine wpS_TC (R:=fun r m' L'=>r = .tuple ⟨[]⟩∧m'=m∧L' = .cells a 0 [.pointer none]::.cells b 0 [.int .i64 5]::L) ?_ ((h0.put (d:=5) rfl _).put (d:=2) rfl _) ?_
 ·refine uA ?_;refine lk ?_;refine qs rfl (OT.assertOk tab rfl rfl rfl rfl rfl ?_);refine uA ?_;refine aC tab (fun b4=>?_);refine jx ?_;refine aj (k:=0) 1 ?_;refine aj (k:=0) 2 ?_;refine cJ rfl (L':=.cells a 0 [.pointer none]::.cells b 0 [.int .i64 5]::L) uS ⟨rfl,rfl,rfl⟩
 ·exact fO
def tabD (p:Tree):Except Int (List Decl):=if soundB p=true then tableD p else .error 2
theorem Table_law (p:Tree) (hw:p.wide≤140737488355328) (m:Mem) (L:List Item) (h:HTree) (hr:TreeRep m h p) :
  TCall Tryz.prog 8 ⟨[treeV h]⟩ m L (Made m L fun r m'=>TabR m' r (tabD p)):=by
 unfold TCall;refine ak Tryz.func8 11 ?_;refine ay (fun b1=>?_);refine au goes16 (sound_law p _ _ _ hr hw) ?_;refine aO (t:=!soundB p) (fun e=>?_) (fun e=>?_)
 ·rw[Bool.not_eq_true']at e;refine uA ?_;refine ag (L':=L) ⟨cC _,rfl,?_⟩;unfold tabD;rw[e];rfl
 ·rw[Bool.not_eq_false']at e;refine uL ?_;refine oC goes20 ((table_law p e hw _ _ _ hr).x ?_);rintro r m1 _ ⟨hm1,rfl,hT⟩;unfold tabD;rw[if_pos e];generalize tableD p=t at hT;cases t with
  | error c =>
   obtain rfl:r=_:=hT;exact hH
  | ok l =>
   obtain⟨s,rfl,hS⟩:=hT;refine uA ?_;exact cI rfl (L':=L) uS ⟨hm1,rfl,s,rfl,hS⟩
theorem cloneF_law (s:Sl) (l:List GF) (m:Mem) (L:List Item) (hs:SlRep rGF m s l):TCall Tryz.prog 64 ⟨[s.v]⟩ m L (Made m L fun r m'=>∃ s':Sl,r=s'.v∧SlRep rGF m' s' l):=by
 unfold TCall;refine ak Tryz.func64 8 ?_;refine qs rfl (OT.nilSlice tab rfl rfl rfl rfl rfl rfl ?_);refine uA ?_;refine am (fun e=>?_) (fun e=>?_)
 ·have hz:l=[]:=by
   rcases hs.cells with ⟨hh,h1,⟨h2,-⟩ | ⟨b,o,h2,-⟩⟩
   ·exact h2
   ·rw[e]at h2;cases h2
  subst hz;refine uA ?_;exact cI rfl (L':=L) (bZ _) ⟨cC _,rfl,nilS,rfl,cS _ _⟩
 ·refine uA ?_;refine av (hs:=[]) (l:=[]) tab rGF trivial uH mw (fun sA m1 hm1 hsA hoA hcA=>?_);refine TO.tokFo hcA hoA 1 ?_;have hs1:=hs.mono hm1;have hf:=hs1.fit;have hl:=hs1.len;refine uA ?_;refine qs rfl (cU tab rGF 0 hsA hoA hs1 rfl rfl rfl rfl rfl rfl rfl (by rw[←hl];simpa using hf) (fun s' m2 hm2 hs' ho'=>?_));refine uA ?_;exact cI rfl (L':=L) uS ⟨cD hm1 hm2,rfl,s',rfl,hs'⟩
def mainOk (fns:Names):Bool:=match getN fns [109,97,105,110]with
 | some t=>t.kids.isEmpty
 | none=>false
def bodiesO (e:Ck.Env):List (Tree×Names×Tree)→Option Unit
 | []=>some ()
 | b::r=>(bodyC (Ck.lvl e 200) b.1 b.2.1 [] b.2.2).bind fun _=>bodiesO e r
def buildO (tbl:List Decl) (p:Tree):Option Unit:=(headsC tbl [] [] p.kids).bind fun r=>(bodiesO ⟨tbl,r.1⟩ r.2).bind fun _=>Ck.want (mainOk r.1)
theorem bodiesO_all (e:Ck.Env):∀ bs,(bodiesO e bs).isSome=bs.all fun b=>(bodyC (Ck.lvl e 200) b.1 b.2.1 [] b.2.2).isSome
 | []=>rfl
 | b::r=>by
  rw[bodiesO,cr,←bodiesO_all e r];cases bodyC (Ck.lvl e 200) b.1 b.2.1 [] b.2.2<;>rfl
theorem chk_build (p:Tree):chkD p=match tableD p with
  | .error c=>c
  | .ok tbl=>if (buildO tbl p).isSome then 0 else 5:=by
 unfold chkD;cases tableD p with
 | error c=>rfl
 | ok tbl =>
  simp only;unfold buildO;cases headsC tbl [] [] p.kids with
  | none=>rfl
  | some r =>
   obtain⟨fns,bs⟩:=r;refine lj ?_;rw[←bodiesO_all];show(if ((bodiesO ⟨tbl,fns⟩ bs).isSome&&mainOk fns)=true then (0:Int)else 5)=if (Option.bind (bodiesO ⟨tbl,fns⟩ bs) fun _=>Ck.want (mainOk fns)).isSome then 0 else 5
   cases bodiesO ⟨tbl,fns⟩ bs<;>cases mainOk fns<;>rfl
end Go.Sep
namespace Go.Sep
open Go.Proofs Go.Ck
attribute [local irreducible] TC TO OT TCallX TCall DO DOt thenQ blockQ retQ At
structure GFun where
 gf:GF
 ft:Tree
 vs:List GV
 body:Tree
def GFun.tri (f:GFun):Tree×Names×Tree:=(f.ft,(f.vs.map GV.pair).reverse,f.body)
structure FunAt (m:Mem) (f:GFun):Prop where
 a0:At m f.gf.b 0 [strV f.gf.name,strV f.gf.recv]
 a2:∃ ht ps,TreeRep m ht f.ft∧SlRep rGV m ps f.vs∧At m f.gf.b 2 [.int .i64 ht.kind,strV ht.name,.int .i64 ht.num,ht.kids.v,ps.v]
 tg:tg f.ft=true∧f.ft.kind=7
 own:∀ v∈f.vs,v.own=f.gf.b∧Go.Sep.tg v.type=true
 bl:lim.block f.body=true
 fit:FitT f.body
theorem FunAt.mono {m m':Mem} {f:GFun} (h:FunAt m f) (hm:m≤m'):FunAt m' f :=
 ⟨h.a0.mono hm,by obtain⟨a,b,h1,h2,h3⟩:=h.a2;exact⟨a,b,h1.mono hm,h2.mono hm,h3.mono hm⟩,h.tg,h.own,h.bl,h.fit⟩
def FunI (f:GFun):List Item:=.cells f.gf.b 7 [.pointer none]::f.vs.map flagI
def FunsI (fl:List GFun):List Item:=fl.flatMap FunI
theorem funsI_snoc (fl:List GFun) (f:GFun) (L:List Item):FunsI (fl++[f])++L=FunsI fl++(.cells f.gf.b 7 [.pointer none]::(f.vs.map flagI++L)):=by
 simp[FunsI,FunI]
theorem funsI_cons (f:GFun) (fl:List GFun) (L:List Item):FunsI (f::fl)++L = .cells f.gf.b 7 [.pointer none]::(f.vs.map flagI++(FunsI fl++L)):=by
 simp[FunsI,FunI]
def BuildE (c:Int) (m:Mem) (L:List Item):Ending→World→Prop
 | .returned v,w'=>∃ m' L',St m' w' L'∧Made m L (fun r _=>∃ pv,r = .tuple ⟨[pv,.int .i64 c]⟩) v m' L'
 | .panicked _,_=>False
 | .outgrown,_=>False
theorem buildE_end {P:Program} {fn:Func} {m m':Mem} {L:List Item} {ρ:Env} {tmps:Array Value} {w:World} {b2 b3:Nat} {pv:Value} {c:Int} {L':List Item} (T:Tab P) {t2 t3:TypeId}
  (hres:fn.results=⟨[.cell 2 t2,.cell 3 t3]⟩) (hA:∀ i v,look ρ i=some v→tmps[i]? = some v) (h2:look ρ 2=some (ptr b2)) (h3:look ρ 3=some (ptr b3))
  (l2:T.load t2 [pv] 0=some pv) (l3:T.load t3 [.int .i64 c] 0=some (.int .i64 c))
  (hst:St m' w (.cells b2 0 [pv]::.cells b3 0 [.int .i64 c]::L')) (hsub:Hs L L') (hm:m≤m'):Leaves P fn tmps (BuildE c m L) [] .returning w:=by
 obtain⟨M,hM⟩:=hsub;refine⟨.tuple ⟨[pv,.int .i64 c]⟩,?_,m',L,((hst.sub (bY _ (List.sublist_cons_self _ _))).perm hM).sub (List.sublist_append_right _ _),hm,rfl,pv,rfl⟩;have g2:=run_loadVar (P:=P) T (k:=0) (hst.cells (i:=0) rfl) l2;have g3:=run_loadVar (P:=P) T (k:=0) (hst.cells (i:=1) rfl) l3;have e2:=hA 2 _ h2;have e3:=hA 3 _ h3;unfold results;rw[hres,Array.mapM_eq_mapM_toList];simp[Sem.run_bind,Sem.run_map,e2,e3,asAddr,g2,g3]
@[reducible] def recD (b2 b3:Nat):Deferred:={ target:=.fn (.func 59) ⟨[ptr b2,ptr b3]⟩,args:=⟨[]⟩ }
theorem bbA {α:Type} {a b:α} {M L T:List α} (h:T.Perm (M++(a::b::L))):T.Perm (a::b::(M++L)):=ot
theorem build_bad {m m':Mem} {L T:List Item} {ρ:Env} {b2 b3:Nat} {v2 v3:Value} (h2:look ρ 2=some (ptr b2)) (h3:look ρ 3=some (ptr b3)) (hm:m≤m') (hs:Hs (.cells b2 0 [v2]::.cells b3 0 [v3]::L) T) :
  retD Tryz.prog Tryz.f32 (BuildE 5 m L) (.panic brk) ρ [recD b2 b3] m' T:=by
 obtain⟨M,hM⟩:=hs;intro tmps w' hA hst';refine leaves_cons mx (invoke_goes goes59) ?_;refine(bRec_fault b2 b3 m' (M++L) w' v2 v3 (hst'.perm (bbA hM))).mono ?_;rintro e u' w2 ⟨v,rfl,rfl,hst2⟩;exact buildE_end (pv:=.pointer none) tab rfl hA h2 h3 rfl rfl hst2 ⟨M,a9 _⟩ hm
theorem cst_le : ∀(a:Tree),cst a≤2*a.size:=by
 intro a
 induction a using Tree.ind with
 | h a ih =>
 rw[cst_eq,size_kids];have:∀ l:List Tree,(∀ x∈l,cst x≤2*x.size)→cstL l≤2*sizeL l:=by
  intro l
  induction l with
  | nil=>intro _;simp[cstL]
  | cons x l ihl =>
   intro h;have h1:=h x mx;have h2:=ihl fun y hy=>h y np;simp only[cstL,sizeL];omega
 have:=this a.kids ih;omega
theorem cstL_le {k:Nat}:∀ l:List Tree,(∀ x∈l,cst x≤k)→cstL l≤k*l.length
 | [],_=>by simp[cstL]
 | x::l,h=>by
  have h1:=h x mx;have h2:=cstL_le l fun y hy=>h y np;simp only[cstL,a7,Nat.mul_succ];omega
theorem slGV1 {m:Mem} {s:Sl} {v:GV} (h:SlRep rPtr m s [v.b]) (hv:VarAt m v):SlRep rGV m s [v]:=by
 obtain⟨hs,h1,h2⟩:=h.cells;refine⟨h.len,h.cap,h.fit,hs,?_,?_⟩
 ·match hs,h1 with
  | [x],h1=>exact⟨⟨h1.1,hv⟩,trivial⟩
 ·rcases h2 with ⟨h2,-⟩ | h2
  ·cases h2
  ·exact .inr h2
theorem Bun.toF {E:CE} {F F':CF} {sc:List GS} {w q:Nat} {m:Mem} {T L:List Item} (h:Bun E F sc w q m T L) (h1:F'.c=F.c) (h2:F'.lits=F.lits):Bun E F' sc w q m T L:=by
 unfold Bun at h ⊢;rw[h1,h2];exact h
end Go.Sep
namespace Go.Sep
open Go.Proofs Go.Ck
theorem ckPos (a:Tree):1≤a.size:=by rw[size_kids];omega
theorem fit_kids {p n t:Tree} (hp:SndP p) (hw:p.wide≤140737488355328) (hn:n∈p.kids) (ht:t∈n.kids) (h2:2≤n.kids.length):FitT t:=by
 have d1:=dj hn;have d2:=dj ht;have w1:=dh hn;have w2:=dh ht;have s1:=size_kids p;have s2:=size_kids n;have s3:=ckSizeL hn;have s4:t.size+1≤sizeL n.kids:=by
  obtain⟨k,x,u,ks⟩:=n;simp only[Tree.kids]at ht h2 ⊢
  match ks,ht,h2 with
  | a::b::r,ht,_ =>
   have p1:=ckPos a;have p2:=ckPos b;simp only[sizeL];rcases List.mem_cons.1 ht with rfl | ht
   ·omega
   ·have:=ckSizeL ht;simp only[sizeL]at this;omega
 have s5:=hp.size;have s6:=hp.deep;exact⟨by omega,by omega,bG w2 (bG w1 hw)⟩
def GoodM (f:Fld):Prop:=tg f.type=true∧f.type.kind=7
def GoodD (d:Decl):Prop:=(∀ f∈d.fields,tg f.type=true)∧∀ f∈d.methods,GoodM f
theorem addM_good {l l':List Decl} {x:Str} {f:Fld} (h:addM l x f=some l') (hl:∀ d∈l,GoodD d) (hf:GoodM f):∀ d∈l',GoodD d:=by
 rcases addM_idx x f l 0 with ⟨-,h2⟩ | ⟨j,d,h1,-,h3⟩
 ·rw[h2]at h;cases h
 ·rw[h3]at h;injection h with h
  subst h;intro y hy;rcases List.mem_or_eq_of_mem_set hy with hy | rfl
  ·exact hl y hy
  ·have hd:=hl d (List.mem_of_getElem? h1);refine⟨hd.1,fun g hg=>?_⟩;rcases List.mem_append.1 hg with hg | hg
   ·exact hd.2 g hg
   ·rw[List.mem_singleton.1 hg];exact hf
theorem methodsC_good : ∀(r:List Tree) (l l':List Decl),methodsC l r=some l'→(∀ d∈l,GoodD d)→(∀ n∈r,n.kind=5→GoodM ⟨n.name,(ofRes (kid n 1)).1⟩)→∀ d∈l',GoodD d
 | [],l,l',h,hl,_=>by injection h with h;subst h;exact hl
 | n::r,l,l',h,hl,hr=>by
  rw[methodsC]at h;by_cases hk:n.kind=5
  ·rw[if_pos hk]at h;cases h2:addM l (recvD n) ⟨n.name,(ofRes (kid n 1)).1⟩with
   | none=>rw[h2]at h;cases h
   | some l2 =>
    rw[h2]at h;exact methodsC_good r l2 l' h (addM_good h2 hl (hr n mx hk)) fun x hx=>hr x (by simp[hx])
  ·rw[if_neg hk]at h;exact methodsC_good r l l' h hl fun x hx=>hr x (by simp[hx])
theorem fldOf_tg (f:Tree):tg (fldOf f).type=true:=by
 rw[fldOf,fld_type];exact ofRes_tg _
theorem fldOf_sig {f:Tree} (h:(kid f 0).isSig=true) (h1:(kid f 0).size+3≤20000) (h2:(kid f 0).deep+2≤100):(fldOf f).type.kind=7:=by
 rw[fldOf,fld_type];exact(sig_of h h1 h2).1
theorem goodM_of {n:Str} {t:Tree} (h:tg t=true) (h2:t.kind=7):GoodM ⟨n,t⟩:=⟨h,h2⟩
theorem goodM_mk {n:Tree} (h:(kid n 1).isSig=true) (h1:(kid n 1).size+3≤20000) (h2:(kid n 1).deep+2≤100):GoodM ⟨n.name,(ofRes (kid n 1)).1⟩:=goodM_of (ofRes_tg _) (sig_of h h1 h2).1
theorem declOf_good {p n:Tree} (hp:SndP p) (hn:n∈p.kids) (hk:n.kind=2∨n.kind=3):GoodD (declOf n):=by
 unfold declOf;split
 ·rename_i h3;refine⟨(fun f hf=>by cases hf),fun f hf=>?_⟩;obtain⟨x,hx,rfl⟩:=List.mem_map.1 hf;refine⟨fldOf_tg x,?_⟩;have hd:=hp.kids n hn;unfold declS at hd;rw[if_neg mv,if_pos h3,bj]at hd;have:=List.all_eq_true.1 hd.2 x hx;unfold fieldS at this;rw[bj]at this;obtain⟨y,hy,hsg⟩:=Pt.kids1 this.2;have e:kid x 0=y:=nE;have d1:=dj hn;have d2:=dj hx;have d3:=dj (a:=x) (t:=y) nM;have s1:=size_kids p;have s2:=size_kids n;have s3:=size_kids x;have s4:=ckSizeL hn;have s5:=ckSizeL hx;have s6:=ckSizeL (l:=x.kids) (t:=y) nM;have s7:=hp.size;have s8:=hp.deep;exact fldOf_sig (by rw[e];exact hsg) (by rw[e];omega) (by rw[e];omega)
 ·refine⟨fun f hf=>?_,(fun f hf=>by cases hf)⟩;obtain⟨x,hx,rfl⟩:=List.mem_map.1 hf;exact fldOf_tg x
theorem table_good {p:Tree} (hp:SndP p) (hw:p.wide≤140737488355328) {l:List Decl} (h:tableD p = .ok l):(∀ d∈l,GoodD d)∧soundE l=0:=by
 rw[tableD_tab]at h;cases hm:methodsC ((p.kids.filter isDf).map declOf) p.kids with
 | none=>rw[hm]at h;cases h
 | some l2 =>
  rw[hm,tabE]at h;by_cases hs:soundE l2=0
  ·rw[if_pos hs]at h;injection h with h
   subst h;refine⟨methodsC_good _ _ _ hm (fun d hd=>?_) (fun n hn hk=>?_),hs⟩
   ·obtain⟨n,hn,rfl⟩:=List.mem_map.1 hd;obtain⟨hn1,hn2⟩:=List.mem_filter.1 hn;unfold isDf at hn2;simp only[bE,bw]at hn2;exact declOf_good hp hn1 hn2
   ·obtain⟨-,r,t,b,y,ys,z,zs,hnk,-,-,ht,-⟩:=decl_method (hp.kids n hn) hk;have e:kid n 1=t:=nd;have hf:=fit_kids hp hw hn (t:=t) mS mS;exact goodM_mk (by rw[e];exact ht) (by rw[e];exact hf.size) (by rw[e];exact hf.deep)
  ·rw[if_neg hs]at h;cases h
theorem tabD_err {p:Tree} {c:Int} (h:tabD p = .error c):c≠0:=by
 unfold tabD at h;split at h
 ·rw[tableD_tab]at h;cases hm:methodsC ((p.kids.filter isDf).map declOf) p.kids with
  | none=>rw[hm,tabE]at h;injection h with h;omega
  | some l2 =>
   rw[hm,tabE]at h;by_cases hs:soundE l2=0
   ·rw[if_pos hs]at h;cases h
   ·rw[if_neg hs]at h;injection h with h
    rw[←h];split<;>omega
 ·injection h with h;omega
theorem theD_good {l:List Decl} (h:∀ d∈l,GoodD d) (n:Str):GoodD (theD l n):=by
 unfold theD;cases hf:findD l n with
 | none=>exact⟨(fun f hf=>by cases hf),(fun f hf=>by cases hf)⟩
 | some d=>exact h d (List.mem_of_find?_eq_some hf)
def chkT (p:Tree):Int:=if soundB p=true then chkD p else 2
theorem chkT_err {p:Tree} {c:Int} (h:tabD p = .error c):chkT p=c:=by
 unfold tabD at h;unfold chkT;split at h
 ·rename_i hs;rw[if_pos hs,chk_build,h]
 ·rename_i hs;rw[if_neg hs];injection h
theorem chkT_ok {p:Tree} {l:List Decl} (h:tabD p = .ok l):soundB p=true∧tableD p = .ok l∧chkT p=if (buildO l p).isSome then 0 else 5:=by
 unfold tabD at h;unfold chkT;split at h
 ·rename_i hs;exact⟨hs,h,by rw[if_pos hs,chk_build,h]⟩
 ·cases h
end Go.Sep
namespace Go.Sep
section
variable {P:Program} {ops:Array Oper} {Q Q':Exit→Act→World→Prop} {Inv:Act→Prop} {md:Region.Mode}
theorem wpOp_keep {i:Nat} {a:Act} {w:World} {K:Act→World→Prop} (hinv:Inv a) (hput:∀ o,ops[i]? = some o→∀ a v,Inv a→Inv (a.put o.dst v)) (hdef:∀ a ds,Inv a→Inv { a with defers:=ds })
  (hQ:∀ e a w,Inv a→Q e a w→Q' e a w) (hL:LetsOut Q→LetsOut Q') (h:wpOp P ops Q i K a w):wpOp P ops Q' i (fun a w=>K a w∧Inv a) a w:=by
 unfold wpOp at *;split
 ·exact⟨by simpa[*]using h,hinv⟩
 ·rename_i o ho;simp only[ho]at h;split
  ·rename_i hw;simp only[hw,if_true]at h;refine h.imp (fun hh=>?_) (fun hh=>⟨hh.1,hL hh.2⟩);unfold Oper.wp at *;generalize (execOp a.eval o).run P w=r at *;cases r with
   | ok n w' =>
    cases n with
    | value v=>exact⟨hh,hput o ho a v hinv⟩
    | skip=>exact⟨hh,hput o ho a _ hinv⟩
    | defer d=>exact⟨hh,hput o ho _ _ (hdef a _ hinv)⟩
    | enter f args =>
     exact Calls.mono hh (fun e w'' he=>by
      cases e with
      | returned v=>exact⟨he,hput o ho a v hinv⟩
      | panicked c=>exact hQ _ _ _ hinv he
      | outgrown=>exact hL he)
    | row r args=>exact Rows.mono hh (fun v _ he=>⟨he,hput o ho a v hinv⟩)
    | _=>exact hh.elim
   | halt x w'=>cases x<;>simp only[Oper.upon]at hh ⊢ <;> first | exact hh.elim | exact hQ _ _ _ hinv hh
  ·rename_i hw;simp only[hw]at h;exact⟨h,hput o ho a _ hinv⟩
theorem wpAny_keep (hput:∀(i:Nat) (o:Oper),ops[i]? = some o→∀ a v,Inv a→Inv (a.put o.dst v)) (hdef:∀ a ds,Inv a→Inv { a with defers:=ds }) (hQ:∀ e a w,Inv a→Q e a w→Q' e a w) (hL:LetsOut Q→LetsOut Q') :
  ∀(fuel:Nat) (listed:Array Bool) (a:Act) (w:World),Inv a→wpAny P md ops Q fuel listed a w→wpAny P md ops Q' fuel listed a w
 | 0,_,_,_,hi,h=>⟨h.1,hQ _ _ _ hi h.2⟩
 | fuel+1,_,_,_,hi,h=>⟨fun h0=>hQ _ _ _ hi (h.1 h0),fun i hr=>wpOp_mono (fun a' w' h'=>wpAny_keep hput hdef hQ hL fuel _ a' w' h'.2 h'.1) (wpOp_keep hi (hput i) hdef hQ hL (h.2 i hr))⟩
end
def forgetQ (ρ0:Env) (Q:EPost):EPost
 | .panic c,_,D,m,L=>Q (.panic c) ρ0 D m L
 | e,ρ,D,m,L=>Q e ρ D m L
theorem Calm.forget {ρ0:Env} {Q:EPost}:Calm (forgetQ ρ0 Q):=fun _ _ _ _ _ h=>h
theorem forgetQ_n {ρ0 ρ:Env} {D:List Deferred} {m:Mem} {L:List Item} {Q:EPost} (h:Q .normal ρ D m L):forgetQ ρ0 Q .normal ρ D m L:=h
theorem forgetQ_p {ρ0 ρ:Env} {D:List Deferred} {m:Mem} {L:List Item} {Q:EPost} {c:List PanicEntry} (h:Q (.panic c) ρ0 D m L):forgetQ ρ0 Q (.panic c) ρ D m L:=h
section
variable {P:Program} {N:Nat} {ρ:Env} {D:List Deferred} {m:Mem} {L:List Item} {Q:EPost} {ops:List Oper}
theorem TC.drawK {id:Nat} {d2 d3:Nat} {v2 v3:Value} (hm:P.follows .mixedOrders=true) (h2:look ρ d2=some v2) (h3:look ρ d3=some v3) (hd:(ops.all fun o=>!(o.dst==some d2)&&!(o.dst==some d3))=true) (ts:List Nat) (n:Nat) (hn:ops.length=n) (Ls Lp:List Item) (hL:L.Perm (Ls++Lp))
  (h:DO P N ops ts n (List.replicate n false) ρ D m Ls Lp (forgetQ [(d2,v2),(d3,v3)] Q)):TC P N (.region id ⟨ops⟩ true) ρ D m L Q:=by
 subst hn;intro a w ha;refine wp_region_any hm ?_;have ha':Ok N ρ D m (Ls++Lp) a w.drew:=⟨ha.size,ha.env,ha.defers,(ha.st.perm hL).drew⟩
 have:=wpAny_of_T _ _ _ _ (h a _ ha');have e:(Array.replicate (⟨ops⟩:Array Oper).size false)=⟨List.replicate ops.length false⟩:=by
  apply Array.ext';simp
 rw[e];refine wpAny_keep (Inv:=fun a=>a.tmps[d2]? = some v2∧a.tmps[d3]? = some v3) (fun i o ho a v hi=>?_) (fun a ds hi=>hi) (fun e a w hi hq=>?_) (fun hq=>?_) _ _ _ _ ⟨ha.env _ _ h2,ha.env _ _ h3⟩ this
 ·have hmem:o∈ops:=by
   have:ops[i]? = some o:=by simpa using ho
   exact List.mem_of_getElem? this
  have:=List.all_eq_true.1 hd o hmem;simp only[bj,Bool.not_eq_true',beq_eq_false_iff_ne,ne_eq]at this;cases hdst:o.dst with
  | none=>simpa[Act.put]using hi
  | some d =>
   rw[hdst]at this;have n2:d≠d2:=fun e=>this.1 (by rw[e]);have n3:d≠d3:=fun e=>this.2 (by rw[e]);simp only[Act.put];refine⟨?_,?_⟩
   ·rw[←hi.1];simp[n2]
   ·rw[←hi.2];simp[n3]
 ·obtain⟨ρ',D',m',L',h1,h4⟩:=hq;cases e with
  | panic c =>
   refine⟨[(d2,v2),(d3,v3)],D',m',L',⟨h1.size,fun i u hu=>?_,h1.defers,h1.st⟩,h4⟩;unfold look at hu;cases hb:Nat.beq d2 i with
   | true =>
    rw[hb]at hu;have:=Nat.eq_of_beq_eq_true hb;subst this;simp only[cz,bu]at hu;rw[←hu];exact hi.1
   | false =>
    rw[hb]at hu;simp only[cy]at hu;unfold look at hu;cases hb3:Nat.beq d3 i with
    | true =>
     rw[hb3]at hu;have:=Nat.eq_of_beq_eq_true hb3;subst this;simp only[cz,bu]at hu;rw[←hu];exact hi.2
    | false =>
     rw[hb3]at hu;simp only[cy]at hu;cases hu
  | _=>exact⟨ρ',D',m',L',h1,h4⟩
 ·obtain⟨a,w,ρ',D',m',L',h1,h4⟩:=hq;exact⟨a,w,ρ',D',m',L',h1,h4⟩
end
end Go.Sep
namespace Go
abbrev dD := @Sep.Calm.forget
end Go
namespace Go.Sep
open Go.Proofs Go.Ck
attribute [local irreducible] TC TO OT TCallX TCall DO DOt thenQ blockQ retQ At
theorem soundE_nodup {l:List Decl} (h:soundE l=0):(l.map Decl.name).Nodup:=by
 unfold soundE at h;split at h
 ·omega
 split at h
 ·omega
 split at h
 ·omega
 ·rename_i h3;unfold typeB at h3;simp only[bE,not_or,Bool.not_eq_true,Bool.not_eq_false',bw,Bool.not_eq_eq_eq_not,Bool.not_false,Bool.not_true,decide_eq_false_iff_not,Decidable.not_not]at h3;exact h3.1
theorem bhA {α:Type} {c o p b3 b2 b1:α} {L:List α}:(c::o::p::b3::b2::b1::L).Perm (p::c::o::b3::b2::b1::L):=mF
theorem bhB {α:Type} {p2 p3 c o b3 b2 b1:α} {L:List α}:(p2::p3::c::o::b3::b2::b1::L).Perm (c::p2::p3::o::b3::b2::b1::L):=mF
theorem bhC {α:Type} {p2 p3 c o b3 b2 b1:α} {L:List α}:(c::p2::p3::o::b3::b2::b1::L).Perm (b1::o::p2::b2::b3::c::p3::L):=mF
@[reducible] def hdR (h:HTree) (b1 b2 b3 bc bp:Nat) (L:List Item):List Item:=.cells b1 0 (treeC h)::.cells b2 0 [ptr bp]::.cells b3 0 [.int .i64 0]::.cells bc 3 [.pointer none,.int .i64 0]::.cells bp 3 [.pointer none]::L
theorem bhD {α:Type} {a o p tf tb b1 b2:α} {F R:List α}:(a::tb::tf::o::p::(F++(b1::b2::R))).Perm ([a,b2,p]++(o::tf::tb::(F++(b1::R)))):=mF
theorem bhF {α:Type} {b8 b2 p2 bf o tf tb b1:α} {F R:List α}:([b8,b2,p2]++(bf::o::tf::tb::(F++(b1::R)))).Perm (bf::b8::o::p2::tf::tb::(F++(b1::b2::R))):=mF
theorem bhH {α:Type} {b8 o p tf tb b1 b2:α} {F R:List α}:(b8::o::p::tf::tb::(F++(b1::b2::R))).Perm ([b8,b2,p]++(o::tf::tb::(F++(b1::R)))):=mF
theorem bhI {α:Type} {b10 bf b8 o:α} {X:List α}:(b10::bf::b8::o::X).Perm ([bf]++(o::b10::b8::X)):=mF
theorem bhJ {α:Type} {t b2 b7 b9 o b10 b8:α} {X:List α}:(t::b2::b7::b9::o::b10::b8::X).Perm (b9::b2::t::b7::o::b10::b8::X):=mF
theorem bhK {α:Type} {k o b10 b8 p2 tf tb b1 b2:α} {T V F R:List α} (h:T.Perm (V++(k::o::b10::b8::p2::tf::tb::(F++(b1::b2::R))))):T.Perm ([b2,p2]++(tf::o::tb::b8::b10::(F++(k::(V++(b1::R)))))):=nD
theorem bhL {α:Type} {k o b10 b8 p2 tf tb b1 b2:α} {V F R:List α}:([b2,p2]++(tf::o::tb::b8::b10::(F++(k::(V++(b1::R)))))).Perm (b10::o::p2::tf::tb::b8::(F++(k::(V++(b1::b2::R))))):=mF
theorem bhM {α:Type} {b1 o p2 b2 b3 c p3 t1 t4:α} {L:List α}:(t1::t4::b1::o::p2::b2::b3::c::p3::L).Perm (o::p2::t1::t4::([]++(b1::b2::b3::c::p3::L))):=mF
theorem bhN {α:Type} {bf o b10 b8 p2 tf tb b1 b2 b3 c3 p3:α} {F L:List α}:([bf]++(o::b10::b8::p2::tf::tb::(F++(b1::b2::b3::c3::p3::L)))).Perm (([bf,o,b10,b8,p2,tf,tb]++F++[b1,c3,p3])++(b2::b3::L)):=mF
theorem bhO {α:Type} {bf o b10 b8 p2 tf tb b1 b2 b3 c3 p3:α} {F L:List α}:(bf::o::b10::b8::p2::tf::tb::(F++(b1::b2::b3::c3::p3::L))).Perm (([bf,o,b10,b8,p2,tf,tb]++F++[b1,c3,p3])++(b2::b3::L)):=mF
theorem bhP {α:Type} {a b c:α} {X:List α}:(a::b::c::X).Perm ([c,b]++(a::X)):=mF
theorem bhQ {α:Type} {b8 bf bv b10:α} {X:List α}:([b8,bf]++(bv::b10::X)).Perm (bv::bf::b8::b10::X):=mF
theorem bhR {α:Type} {b2 b7 b9 rm b8 b10 o:α} {X:List α}:(b2::b7::b9::rm::b8::b10::o::X).Perm (b9::b2::b7::rm::o::b10::b8::X):=mF
theorem bhS {V X:List Item} {rm b7:Item}:(V++(b7::rm::X)).Perm ((rm::V)++(b7::X)):=mF
theorem bhT {α:Type} {bf rm o b10 b8 p2 tf tb b1 b2 b3 c3 p3:α} {F L:List α}:(bf::rm::o::b10::b8::p2::tf::tb::(F++(b1::b2::b3::c3::p3::L))).Perm (([bf,rm,o,b10,b8,p2,tf,tb]++F++[b1,c3,p3])++(b2::b3::L)):=mF
theorem bhU {α:Type} {p2 tf tb b1 b2 b3 c3 p3:α} {F L:List α}:(p2::tf::tb::(F++(b1::b2::b3::c3::p3::L))).Perm (tb::b1::b2::p2::tf::c3::(F++(b3::p3::L))):=mF
theorem bhV {α:Type} {p2 tf b2 b3 c3 p3:α} {F L:List α}:(b2::p2::tf::c3::(F++(b3::p3::L))).Perm (c3::p2::tf::([]++([]++(F++(b2::b3::p3::L))))):=mF
theorem bhW {α:Type} {b2 b3 p3:α} {F L:List α}:(F++(b2::b3::p3::L)).Perm ((F++[p3])++(b2::b3::L)):=mF
theorem bhX {α:Type} {b2 b3 p3:α} {T M L:List α} (h:T.Perm (M++(b2::b3::p3::L))):T.Perm (b2::b3::p3::(M++L)):=nD
theorem bhY {α:Type} {b2 b3 p3:α} {M L:List α}:(b2::b3::p3::(M++L)).Perm ((p3::M)++(b2::b3::L)):=mF
theorem Build_law (p:Tree) (hw:p.wide≤140737488355328) (m:Mem) (L:List Item) (h:HTree) (hr:TreeRep m h p) :
  TCall Tryz.prog 32 ⟨[treeV h]⟩ m L (Made m L fun r _=>∃ pv,r = .tuple ⟨[pv,.int .i64 (chkT p)]⟩):=by
 generalize hc:chkT p=c;have key:∀ w,St m w L→Calls Tryz.prog 32 ⟨[treeV h]⟩ w (BuildE c m L):=by
  intro w hst;refine calls_enterD Tryz.func32 rfl 198 rfl hst ?_;refine uA ?_;refine oB (fun b1=>?_);refine uA ?_;refine oA tab (fun b2=>?_);refine oA tab (fun b3=>?_);refine uL ?_;refine oC goes8 ((Table_law p hw _ _ h hr).x ?_);rintro r m1 _ ⟨hm1,rfl,hT⟩;cases htab:tabD p with
  | error c' =>
   rw[htab]at hT;obtain rfl:r=_:=hT;have hcc:=chkT_err htab;have hc0:=tabD_err htab;obtain rfl:c=c':=by rw[←hc,hcc]
   refine uA ?_;refine aj (k:=0) 0 ?_;refine al (k:=0) 0 ?_;refine aY (fun e1=>?_) (fun e1=>?_)
   ·refine uA ?_;refine TC.drawK (d2:=2) (d3:=3) df rfl rfl uK [] 3 rfl [] _ (a9 _) ?_;refine DO.fork 0 [1] uK ⟨⟨_,rfl,rfl,rfl,?_⟩,⟨_,rfl,rfl,rfl,?_⟩,trivial⟩
    ·refine OT.loadL (k:=0) tab 0 rfl rfl rfl rfl rfl rfl ?_;refine jF ?_;refine af 1 ?_;refine an (k:=0) 1 ?_;exact eY
    ·refine an (k:=0) 1 ?_;refine jF ?_;refine af 0 ?_;refine OT.loadL (k:=0) tab 0 rfl rfl rfl rfl rfl rfl ?_;exact eY
   ·exact absurd e1 hc0
  | ok l =>
   rw[htab]at hT;obtain⟨s,rfl,hS⟩:=hT;obtain⟨hsd,htb,hcZ⟩:=chkT_ok htab;rw[hc]at hcZ;have hp:=snd_of hsd;obtain⟨hgood,hs0⟩:=table_good hp hw htb;generalize hZ:buildO l p=Z at hcZ;replace hZ:=hZ.symm;refine uA ?_;refine aj (k:=0) 0 ?_;refine al (k:=0) 0 ?_;refine oC goes58 ((newTable_law _ _ s l hS).x ?_);rintro _ m2 _ ⟨hm2,rfl,bt,es0,cc0,rfl,hbt,hTA⟩;refine uA ?_;refine oB (fun bp=>?_);refine uA ?_;refine aj (k:=0) 2 ?_;refine aP (k:=0) 2 ?_;refine qs rfl (OT.makeMap kStr rfl rfl rfl (fun fm=>?_));refine uA ?_;refine oB (fun bc=>?_);refine uA ?_;refine TO.defer rfl rfl rfl rfl rfl ?_;refine cM bhA ?_;refine TO.splitC (b:=bp) (off:=0) [.map (some bt)] [s.v,.slice none 0 0,.pointer none] ?_;refine cX fun m3 hm3 hAp=>?_;refine TO.splitC (b:=bp) (off:=1) [s.v] [.slice none 0 0,.pointer none] ?_;refine TO.drop (List.sublist_cons_self _ _) ?_;refine TO.splitC (b:=bp) (off:=2) [.slice none 0 0] [.pointer none] ?_;refine cM bhB ?_;refine TO.splitC (b:=bc) (off:=0) [ptr bp,.map (some fm)] [.pointer none,.pointer none,.int .i64 0] ?_;refine cX fun m4 hm4 hAc=>?_;refine TO.splitC (b:=bc) (off:=2) [.pointer none] [.pointer none,.int .i64 0] ?_;refine TO.drop (List.sublist_cons_self _ _) ?_;refine cM bhC ?_;have hm24:=cD hm3 hm4;have hm04:=cD hm1 (cD hm2 hm24);have hE0:CE.Tbl ⟨bp,bt,cc0,es0,l,fm,0,[],[]⟩ m4:=⟨hAp.mono hm4,hm24.o _ _ hbt,(hTA.rep (soundE_nodup hs0)).mono hm24,fun n=>⟨(theD_good hgood n).1,fun f hf=>(theD_good hgood n).2 f hf⟩⟩
   refine uA ?_;refine qs rfl (OT.loadL (k:=3) tab 0 rfl rfl rfl rfl rfl rfl ?_);refine jS ?_;have hr4:=(hr.kids).mono hm04;have hlen:=hr4.len;have hpl:=kids_le p;have hps:=hp.size;unfold buildO at hZ;generalize hG:(fun r:Names×List (Tree×Names×Tree)=>(bodiesO ⟨l,r.1⟩ r.2).bind fun _=>Ck.want (mainOk r.1))=G at hZ;refine cY (size:=4) ?_;refine cY (size:=1) ?_;refine TC.perm (L':=.obj fm (mapO kStr [] 0)::.cells bp 2 [nilS.v]::tok nilS 1::tok nilS 4::(FunsI []++hdR h b1 b2 b3 bc bp L)) bhM ?_;refine cH (ι:=Nat×List GFun×Ents Str×Nat×Names×Sl×Sl×Mem) [2,3,5,32,33] rfl (fun y=>[(34,.int .i64 (y.1:Int)),(6,y.2.2.2.2.2.2.1.v)]) (fun y=>y.2.2.2.2.2.2.2) (fun y=>.obj fm (mapO kStr y.2.2.1 y.2.2.2.1)::.cells bp 2 [y.2.2.2.2.2.1.v]::tok y.2.2.2.2.2.1 1::tok y.2.2.2.2.2.2.1 4::(FunsI y.2.1++hdR h b1 b2 b3 bc bp L)) (fun y=>y.1≤p.kids.length∧m4≤y.2.2.2.2.2.2.2∧(∀ f∈y.2.1,FunAt y.2.2.2.2.2.2.2 f)∧SlRep rGF y.2.2.2.2.2.2.2 y.2.2.2.2.2.1 (y.2.1.map GFun.gf)∧Own y.2.2.2.2.2.1∧SlRep rTree y.2.2.2.2.2.2.2 y.2.2.2.2.2.2.1 (y.2.1.map GFun.body)∧Own y.2.2.2.2.2.2.1∧FnsAt y.2.2.2.2.2.2.2 y.2.2.1 y.2.2.2.2.1∧y.2.1.length≤y.1∧Z=(headsC l y.2.2.2.2.1 (y.2.1.map GFun.tri) (p.kids.drop y.1)).bind G) (fun y=>p.kids.length-y.1) (0,[],[],0,[],nilS,nilS,m4) uH rfl uS ⟨cn _,cC _,(fun f hf=>by cases hf),cS _ _,cZ,cS _ _,cZ,(fun n=>rfl),bF _,hZ⟩ ?_;rintro⟨i,fl,es,ec,fns,fs,sb,m5⟩ ⟨hi,hm45,hfl,hfs,hfo,hsb,hso,hfns,hfll,hZ⟩;simp only at hi hm45 hfl hfs hfo hsb hso hfns hfll hZ;have hm05:=cD hm04 hm45;have hcc:=hAc.mono hm45;have hr5:=hr4.mono hm45;refine uA ?_;refine am (fun hltI=>?_) (fun hltI=>?_)
   ·have hlt0:(i:Int)<(h.kids.len:Int):=hltI;have hlt:i<p.kids.length:=mv;have hx:p.kids[i]? = some p.kids[i]:=mG;have hmem:=bL hlt;have hdk:=hp.kids _ hmem;rw[bU hlt,headsC]at hZ;generalize hne:p.kids[i]=n at hx hmem hdk hZ;have hdn:=dj hmem;have hdp:=hp.deep;have hfll2:=hfs.len;rw[bN]at hfll2;have hsll2:=hsb.len;rw[bN]at hsll2;refine jP ?_;rintro b' i' h9 hrd9 hA9;have hrn:=rTree_iff.1 hrd9;have hkk:=hrn.kind;have hn9:=hrn.name;have hrk:=hrn.kids;refine lB ?_;refine aC tab (fun b8=>?_);refine jK ?_;refine cL rfl rfl (fun e1=>?_) (fun e1=>?_)
    ·have e1:¬h9.kind=4:=e1;rw[if_neg mv]at hZ;refine uL ?_;refine aY (fun e2=>?_) (fun e2=>?_)
     ·have e2:¬h9.kind=5:=e2;rw[if_neg mv]at hZ;refine kh ?_;exact⟨(i+1,fl,es,ec,fns,fs,sb,m5),uH,uH,rfl,rfl,uS,⟨by omega,hm45,hfl,hfs,hfo,hsb,hso,hfns,by simp only;omega,hZ⟩,by simp only;omega⟩
     ·have e2:h9.kind=5:=e2;rw[if_pos mv]at hZ;obtain⟨hnm,r,t,bd,y,ys,z,zs,hnk,hrk2,hyk,hsg,hbl,-,-⟩:=decl_method hdk mv;have ft:=fit_kids hp hw hmem (t:=t) mS mS;have fb:=fit_kids hp hw hmem (t:=bd) mS mS;have ek0:kid n 0=r:=nd;have ek1:kid n 1=t:=nd;have ek2:kid n 2=bd:=nd;have ek3:kid r 0=y:=by unfold kid;rw[hrk2];rfl
      have ek4:kid y 0=z:=by unfold kid;rw[hyk];rfl
      have hrv:recvD n=z.name:=by unfold recvD;rw[ek0,ek3,ek4]
      rw[ek0,ek1,ek2,hrv]at hZ;rw[hnk]at hrk;have hkl:h9.kids.len=3:=hrk.len;refine jN ?_;refine OT.box rfl rfl rfl rfl rfl (fun bf=>?_);refine kD ?_;refine aQ (r':=((1:Nat):Int)) uH nO mv ?_;refine aA tab rTree 1 hrk uH mD uH ?_;rintro b0 i0 h10 hrd10 hA10;refine ap tab hA10 ?_;refine aC tab (fun b10=>?_);refine jx ?_;refine al (k:=0) 2 ?_;refine am (fun _=>?_) (fun e5=>absurd e2 e5);refine uA ?_;refine al (k:=3) 2 ?_;refine aA tab rTree 0 hrk uH mD uH ?_;rintro bA iA hA' hrdA hAA;have hr7:=(rTree_iff.1 hrdA).kids;rw[hrk2]at hr7;refine uA ?_;refine ah (k:=3) hAA ?_;refine aA tab rTree 0 hr7 uH mD uH ?_;rintro bB iB hB' hrdB hAB;have hr8:=(rTree_iff.1 hrdB).kids;rw[hyk]at hr8;refine uA ?_;refine ah (k:=3) hAB ?_;refine aA tab rTree 0 hr8 uH mD uH ?_;rintro bC iC hC hrdC hAC;have hnC:=(rTree_iff.1 hrdC).name;refine uA ?_;refine ah (k:=1) hAC ?_;refine aj (k:=1) 1 ?_;refine TC.drawK (d2:=2) (d3:=3) df rfl rfl uK [18] 19 rfl [.cells b8 0 (treeC h9),.cells bf 0 [strV h9.name,strV hC.name,.int .i64 0,strV [],.int .i64 0,.slice none 0 0,.slice none 0 0,.pointer none,.pointer none,.slice none 0 0,.int .i64 (fs.len:Int)]] _ bhP ?_;refine cV tab dD uK [0,1] uK rfl ?_;refine aX (k:=3) 2 0 dD ?_;refine DO.index tab rTree 3 0 hrk dD uK uK rfl rfl rfl rfl rfl rfl rfl mR rfl rfl ?_;rintro b4 i4 h4 hrd4 hA4;have hn4:=(rTree_iff.1 hrd4).name;refine cV tab dD uK [4] uK rfl ?_;refine DO.loadA (k:=1) tab 5 hA4 dD uK uK rfl rfl rfl rfl rfl rfl rfl ?_;refine cV tab dD uK [6,7,8] uK rfl ?_;refine aX (k:=1) 9 1 dD ?_;refine cV tab dD uK [10,12] uK rfl ?_;refine af 11 ?_;refine cR rfl rfl rfl rfl rfl rfl goes60 ((pointer_law (.mk 4 hC.name 0 []) _ _ ⟨4,hC.name,0,nilS⟩ (dk _ _ _ _)).x ?_);rintro _ mA _ ⟨hmA,rfl,g,rfl,hg⟩;refine⟨hmA,_,a9 _,?_⟩;refine cV tab dD uK [13] uK rfl ?_
      refine af 14 ?_;refine OT.box rfl rfl rfl rfl rfl (fun bv=>?_);refine lC ?_;refine af 15 ?_;refine aM (hs:=[bv]) (l:=[bv]) tab rPtr ⟨rfl,trivial⟩ uH mw (fun sP mB hmB hsP hoP hcP=>?_);refine⟨hmB,_,a9 _,?_⟩;refine cV tab dD uK [16,17] uK rfl ?_;refine cW ?_;refine aB 18 ?_;refine an (k:=6) 1 ?_;refine aH ?_;refine forgetQ_n ?_;refine cF ?_;refine TC.perm bhQ ?_;refine TC.splitC (b:=bv) (off:=0) [strV h4.name,.int .i64 g.kind,strV g.name,.int .i64 g.num,g.kids.v,ptr bf] [.bool false,.bool false] ?_;refine TC.freeze fun mC hmC hAv=>?_;refine TC.toRoom ?_;refine TC.perm (ba _ _ _) ?_;refine TC.fnBlock _ _ _ _ _ _ _ _ _ _ _ fun m7 hm7 hA0 hA8=>?_;have hm57:m5≤m7:=cD hmA (cD hmB (cD hmC hm7));refine TC.perm bhR ?_;refine TC.drop (List.sublist_cons_self _ _) ?_;rw[←hn4,←hnC]at hZ;have hVar:VarAt m7 ⟨bv,h4.name,.mk 5 [] 0 [.mk 4 hC.name 0 []],bf⟩:=⟨g,hg.mono (cD hmB (cD hmC hm7)),hAv.mono hm7⟩
      have hpsG:SlRep rGV m7 sP [⟨bv,h4.name,.mk 5 [] 0 [.mk 4 hC.name 0 []],bf⟩]:=slGV1 (v:=⟨bv,h4.name,.mk 5 [] 0 [.mk 4 hC.name 0 []],bf⟩) (hsP.mono (cD hmC hm7)) hVar;have htgv:tg (.mk 5 [] 0 [.mk 4 hC.name 0 []])=true:=tg_mk _ _ _ _ (fun _=>rfl) (fun e=>by omega) (fun x hx=>by rw[List.mem_singleton.1 hx];exact tg_leaf _ _ _ mv);refine uA ?_;refine TO.tokFo hcP hoP 1 ?_;refine cM (ba _ _ _) ?_;have hm07:=cD hm05 hm57;have hE7:=hE0.mono (cD hm45 hm57);have hcc7:=hcc.mono hm57;refine uA ?_;refine aP (k:=0) 5 ?_;refine oC goes63 (cE (sig_ck ⟨bp,bt,cc0,es0,l,fm,0,[],[]⟩ bc bf hE7 (hcc7.pre (xs:=[ptr bp])) ((rTree_iff.1 hrd10).mono hm57) hsg ft.size ft.deep ft.wide ([⟨bv,h4.name,.mk 5 [] 0 [.mk 4 hC.name 0 []],bf⟩]:List GV) sP hpsG hoP (bF _) (fun v hv=>by rw[List.mem_singleton.1 hv];exact⟨rfl,htgv⟩) _) ?_ ?_)
      ·rintro v m8 T8 ⟨tt,vs,ht,ps,hsig,hm8,hA2,hht,htg,ht7,hps,hpo,hT8⟩;replace hsig:sigC l (([⟨bv,h4.name,.mk 5 [] 0 [.mk 4 hC.name 0 []],bf⟩]:List GV).map GV.pair) t=some (tt,((([⟨bv,h4.name,.mk 5 [] 0 [.mk 4 hC.name 0 []],bf⟩]:List GV)++vs).map GV.pair).reverse):=hsig;rw[show sigC l [(h4.name,.mk 5 [] 0 [.mk 4 hC.name 0 []])] t=some (tt,((([⟨bv,h4.name,.mk 5 [] 0 [.mk 4 hC.name 0 []],bf⟩]:List GV)++vs).map GV.pair).reverse) from hsig]at hZ;replace hZ:Z=(headsC l (fns) (fl.map GFun.tri++[(tt,((([⟨bv,h4.name,.mk 5 [] 0 [.mk 4 hC.name 0 []],bf⟩]:List GV)++vs).map GV.pair).reverse,bd)]) (p.kids.drop (i+1))).bind G:=hZ;have hm58:=cD hm57 hm8;have hT9:T8.Perm ((([⟨bv,h4.name,.mk 5 [] 0 [.mk 4 hC.name 0 []],bf⟩]:List GV)++vs).map flagI++(.cells bf 7 [.pointer none]::.obj fm (mapO kStr (es) (ec))::.cells b10 0 (treeC h10)::.cells b8 0 (treeC h9)::.cells bp 2 [fs.v]::tok fs 1::tok sb 4::(FunsI fl++hdR h b1 b2 b3 bc bp L))):=(hT8.trans bhS)
       refine j4 ?_;refine aM (hs:=[bf]) (l:=[⟨bf,h9.name,hC.name⟩]) tab rGF ⟨⟨rfl,hA0.mono hm8⟩,trivial⟩ uH mw (fun sA m9 hm9 hsA _ _=>?_);refine⟨hm9,_,a9 _,?_⟩;refine af 7 ?_;refine cU tab rGF 2 ((hfs.mono hm58).mono hm9) hfo hsA rfl rfl rfl rfl rfl rfl rfl (by simp only[a6,a7,a8,bN,rGF];omega) (fun fs' m10 hm10 hfs' hfo'=>?_);refine j9 ?_;have hm510:=cD hm58 (cD hm9 hm10);have hm810:=cD hm9 hm10;have hrkX:=hrk.mono hm510;refine uA ?_;refine al (k:=3) 4 ?_;refine al (k:=3) 4 ?_;refine aQ (r':=((2:Nat):Int)) uH nO mv ?_;refine aA tab rTree 2 hrkX uH mD uH ?_;rintro bb ib hb9 hrdb hAb;refine ap tab hAb ?_;refine av (hs:=[hb9]) (l:=[bd]) tab rTree ⟨hrdb,trivial⟩ uH mw (fun sB m11 hm11 hsB _ _=>?_);refine qs rfl (cU tab rTree 3 ((hsb.mono hm510).mono hm11) hso hsB rfl rfl rfl rfl rfl rfl rfl (by simp only[a6,a7,a8,bN,rTree,mkR];omega) (fun sb' m12 hm12 hsb' hso'=>?_));have hm1012:=cD hm11 hm12;have hm512:=cD hm510 hm1012;have hm812:=cD hm810 hm1012;refine kh ?_;refine⟨(i+1,fl++[⟨⟨bf,h9.name,hC.name⟩,tt,([⟨bv,h4.name,.mk 5 [] 0 [.mk 4 hC.name 0 []],bf⟩]:List GV)++vs,bd⟩],es,ec,fns,fs',sb',m12),uH,uH,rfl,rfl,?_,⟨by omega,cD hm45 hm512,fun f hf=>?_,by rw[cu];exact hfs'.mono hm1012,hfo',by rw[cu];exact hsb',hso',(hfns.mono hm512),by simp only[a6,a7,a8];omega,by rw[cu];exact hZ⟩,by simp only;omega⟩
       ·exact gz
       ·exact fH
      ·rintro ch m8 T8 ⟨g1,g2,rfl,g4⟩;have hZn:Z=none:=by
        rw[hZ];rw[show sigC l [(h4.name,.mk 5 [] 0 [.mk 4 hC.name 0 []])] t=none from g1];rfl
       repeat (first|refine thenQ_p ?_|refine blockQ_p ?_)
       obtain rfl:c=5:=nk;exact build_bad (v2:=ptr bp) (v3:=.int .i64 0) rfl rfl (cD hm07 g2) (Hs.trans ⟨_,bhT⟩ g4)
    ·have e1:h9.kind=4:=e1;rw[if_pos mv]at hZ;obtain⟨hnm,t,bd,hnk,hsg,hbl⟩:=decl_func hdk mv;have ft:=fit_kids hp hw hmem (t:=t) mS mS;have fb:=fit_kids hp hw hmem (t:=bd) mS mS;have ek0:kid n 0=t:=nd;have ek1:kid n 1=bd:=nd;rw[ek0,ek1]at hZ;rw[hnk]at hrk;have hkl:h9.kids.len=2:=hrk.len;refine jN ?_;refine OT.box rfl rfl rfl rfl rfl (fun bf=>?_);refine kD ?_;refine aQ (r':=((0:Nat):Int)) uH nO mv ?_;refine aA tab rTree 0 hrk uH mD uH ?_;rintro b0 i0 h10 hrd10 hA10;refine ap tab hA10 ?_;refine aC tab (fun b10=>?_);refine jx ?_;refine al (k:=0) 2 ?_;refine am (fun e5=>?_) (fun e5=>?_)
     ·exfalso;have e5:h9.kind=5:=e5;omega
     refine uA ?_;refine TC.drawK (d2:=2) (d3:=3) df rfl rfl uK [] 19 rfl [.cells bf 0 [strV h9.name,strV [],.int .i64 0,strV [],.int .i64 0,.slice none 0 0,.slice none 0 0,.pointer none,.pointer none,.slice none 0 0,.int .i64 (fs.len:Int)]] _ bhI ?_;refine cV tab dD uK [0,1,2,4,5,6] uK rfl ?_;refine DO.loadA (k:=1) tab 3 hcc dD uK uK rfl rfl rfl rfl rfl rfl rfl ?_;refine aX (k:=0) 7 0 dD ?_;refine af 8 ?_;refine OT.lookup0 tab kStr 1 h9.name rfl rfl rfl rfl rfl rfl rfl rfl ?_;refine jF ?_;have hfn:=hfns h9.name;cases hgn:getN fns h9.name with
     | some tt =>
      rw[hgn]at hfn;obtain⟨-,bq,hq,hmg,-,-⟩:=hfn;have hZn:Z=none:=by rw[hZ,if_pos (.inl (by rw[←hn9,hgn];rfl))];rfl
      refine DO.convV (v':=ptr bq) ?_ nP;refine af 9 ?_;refine OT.ptrNil (e:=114) tab rfl rfl rfl rfl rfl rfl ?_;refine jF ?_;refine cV tab dD uK [10,11,12,13,14,15,16,17] uK rfl ?_;refine af 18 ?_;refine cR rfl rfl rfl rfl rfl rfl goes61 (cE (want_law false _ _) ?_ ?_)
      ·rintro _ _ _ ⟨e,-⟩;cases e
      ·rintro _ _ _ ⟨-,rfl,rfl,rfl⟩
       repeat (first|refine forgetQ_p ?_|refine thenQ_p ?_|refine blockQ_p ?_)
       obtain rfl:c=5:=nk;exact build_bad (v2:=ptr bp) (v3:=.int .i64 0) rfl rfl hm05 ⟨_,bhN⟩
     | none =>
      rw[hgn]at hfn;have hmg:mget es h9.name=none:=hfn;refine DO.convV (v':=.pointer none) ?_ nP;refine af 9 ?_;refine OT.ptrNil (e:=114) tab rfl rfl rfl rfl rfl rfl ?_;refine jF ?_;refine cV tab dD uK [10,11,12,13] uK rfl ?_;refine aX (k:=0) 14 0 dD ?_;refine af 15 ?_;refine cR rfl rfl rfl rfl rfl rfl goes62 ((builtin_law h9.name _ _).x ?_);rintro _ m6 _ ⟨hm6,rfl,rfl⟩;refine⟨hm6,_,a9 _,?_⟩;refine cV tab dD uK [16,17] uK rfl ?_;refine af 18 ?_;refine cR rfl rfl rfl rfl rfl rfl goes61 (cE (want_law (decide (builtinD h9.name≤0)) _ _) ?_ ?_)
      ·rintro _ _ _ ⟨e,rfl,rfl,rfl⟩;replace e:=of_decide_eq_true e;refine jF ?_;refine aV ?_;refine forgetQ_n ?_;refine cF ?_;have hno:¬((getN fns n.name).isSome=true∨0<builtinD n.name):=by
        rw[←hn9,hgn];rintro(hh | hh)
        ·cases hh
        ·omega
       rw[if_neg hno]at hZ;have hcc6:=hcc.mono hm6;refine TC.drawK (d2:=2) (d3:=3) df rfl rfl uK [9] 10 rfl [.cells bf 0 [strV h9.name,strV [],.int .i64 0,strV [],.int .i64 0,.slice none 0 0,.slice none 0 0,.pointer none,.pointer none,.slice none 0 0,.int .i64 (fs.len:Int)]] _ (a9 _) ?_;refine cV tab dD uK [0,1,2,4,5,6,8] uK rfl ?_;refine DO.loadA (k:=1) tab 3 hcc6 dD uK uK rfl rfl rfl rfl rfl rfl rfl ?_;refine aX (k:=0) 7 0 dD ?_;refine cW ?_;refine aB 9 ?_;refine OT.mapSet tab kStr 1 h9.name rfl rfl rfl rfl rfl rfl rfl ?_;refine aH ?_;refine forgetQ_n ?_;refine cF ?_;refine TC.fnBlock _ _ _ _ _ _ _ _ _ _ _ fun m7 hm7 hA0 hA8=>?_;have hm57:=cD hm6 hm7;refine cY (size:=1) ?_;refine TC.perm bhJ ?_;refine TC.drop (List.sublist_cons_self _ _) ?_;have hfa:∀(tt:Tree) (m8:Mem),m7≤m8→tg tt=true→(∃ ht,TreeRep m8 ht tt∧At m8 bf 2 (treeC ht))→FnsAt m8 (mset es h9.name (ptr bf) ec) ((n.name,tt)::fns):=fun tt m8 hm8 htg hA x=>by
        rw[mget_mset];unfold getN;rw[List.find?_cons];by_cases hxn:h9.name=x
        ·rw[if_pos hxn,bQ (by rw[←hn9];exact hxn)];obtain⟨ht,h1,h2⟩:=hA;exact⟨htg,bf,ht,rfl,h1,h2⟩
        ·rw[if_neg hxn,bR (by rw[←hn9];exact hxn)];exact(hfns.mono (cD hm57 hm8)) x
       have hm07:=cD hm05 hm57;have hE7:=hE0.mono (cD hm45 hm57);have hcc7:=hcc.mono hm57;refine uA ?_;refine aP (k:=0) 4 ?_;refine oC goes63 (cE (sig_ck ⟨bp,bt,cc0,es0,l,fm,0,[],[]⟩ bc bf hE7 (hcc7.pre (xs:=[ptr bp])) ((rTree_iff.1 hrd10).mono hm57) hsg ft.size ft.deep ft.wide ([]:List GV) nilS (cS _ _) cZ (cn _) (fun v hv=>by cases hv) _) ?_ ?_)
       ·rintro v m8 T8 ⟨tt,vs,ht,ps,hsig,hm8,hA2,hht,htg,ht7,hps,hpo,hT8⟩;replace hsig:sigC l (([]:List GV).map GV.pair) t=some (tt,((([]:List GV)++vs).map GV.pair).reverse):=hsig;rw[show sigC l [] t=some (tt,((([]:List GV)++vs).map GV.pair).reverse) from hsig]at hZ;replace hZ:Z=(headsC l (((n.name,tt)::fns)) (fl.map GFun.tri++[(tt,((([]:List GV)++vs).map GV.pair).reverse,bd)]) (p.kids.drop (i+1))).bind G:=hZ;have hm58:=cD hm57 hm8;have hT9:T8.Perm ((([]:List GV)++vs).map flagI++(.cells bf 7 [.pointer none]::.obj fm (mapO kStr ((mset es h9.name (ptr bf) ec)) ((mclock es h9.name ec)))::.cells b10 0 (treeC h10)::.cells b8 0 (treeC h9)::.cells bp 2 [fs.v]::tok fs 1::tok sb 4::(FunsI fl++hdR h b1 b2 b3 bc bp L))):=hT8;refine j4 ?_;refine aM (hs:=[bf]) (l:=[⟨bf,h9.name,[]⟩]) tab rGF ⟨⟨rfl,hA0.mono hm8⟩,trivial⟩ uH mw (fun sA m9 hm9 hsA _ _=>?_);refine⟨hm9,_,a9 _,?_⟩;refine af 7 ?_;refine cU tab rGF 2 ((hfs.mono hm58).mono hm9) hfo hsA rfl rfl rfl rfl rfl rfl rfl (by simp only[a6,a7,a8,bN,rGF];omega) (fun fs' m10 hm10 hfs' hfo'=>?_);refine j9 ?_;have hm510:=cD hm58 (cD hm9 hm10);have hm810:=cD hm9 hm10;have hrkX:=hrk.mono hm510;refine uA ?_;refine al (k:=3) 4 ?_;refine al (k:=3) 4 ?_;refine aQ (r':=((1:Nat):Int)) uH nO mv ?_;refine aA tab rTree 1 hrkX uH mD uH ?_;rintro bb ib hb9 hrdb hAb;refine ap tab hAb ?_;refine av (hs:=[hb9]) (l:=[bd]) tab rTree ⟨hrdb,trivial⟩ uH mw (fun sB m11 hm11 hsB _ _=>?_);refine qs rfl (cU tab rTree 3 ((hsb.mono hm510).mono hm11) hso hsB rfl rfl rfl rfl rfl rfl rfl (by simp only[a6,a7,a8,bN,rTree,mkR];omega) (fun sb' m12 hm12 hsb' hso'=>?_));have hm1012:=cD hm11 hm12;have hm512:=cD hm510 hm1012;have hm812:=cD hm810 hm1012;refine kh ?_;refine⟨(i+1,fl++[⟨⟨bf,h9.name,[]⟩,tt,([]:List GV)++vs,bd⟩],(mset es h9.name (ptr bf) ec),(mclock es h9.name ec),((n.name,tt)::fns),fs',sb',m12),uH,uH,rfl,rfl,?_,⟨by omega,cD hm45 hm512,fun f hf=>?_,by rw[cu];exact hfs'.mono hm1012,hfo',by rw[cu];exact hsb',hso',(hfa tt m12 (cD hm8 hm812) htg ⟨ht,hht.mono hm812,(hA2.mono hm812).pre (xs:=treeC ht) (ys:=[ps.v])⟩),by simp only[a6,a7,a8];omega,by rw[cu];exact hZ⟩,by simp only;omega⟩
        ·exact gz
        ·exact fH
       ·rintro ch m8 T8 ⟨g1,g2,rfl,g4⟩;have hZn:Z=none:=by
         rw[hZ];rw[show sigC l [] t=none from g1];rfl
        repeat (first|refine thenQ_p ?_|refine blockQ_p ?_)
        obtain rfl:c=5:=nk;exact build_bad (v2:=ptr bp) (v3:=.int .i64 0) rfl rfl (cD hm07 g2) (Hs.trans ⟨_,bhO⟩ g4)
      ·rintro _ _ _ ⟨e,rfl,rfl,rfl⟩;replace e:=of_decide_eq_false e;have hZn:Z=none:=by rw[hZ,if_pos (.inr (by rw[←hn9];omega))];rfl
       repeat (first|refine forgetQ_p ?_|refine thenQ_p ?_|refine blockQ_p ?_)
       obtain rfl:c=5:=nk;exact build_bad (v2:=ptr bp) (v3:=.int .i64 0) rfl rfl (cD hm05 hm6) ⟨_,bhN⟩
   ·have hlt0:¬(i:Int)<(h.kids.len:Int):=hltI;have hie:i=p.kids.length:=mv;rw[hie,List.drop_length]at hZ;replace hZ:Z=G (fns,fl.map GFun.tri):=hZ;subst hG;replace hZ:Z=(bodiesO ⟨l,fns⟩ (fl.map GFun.tri)).bind fun _=>Ck.want (mainOk fns):=hZ;refine TC.freezeO fun m6 hm6 hfm=>?_;refine TC.perm bhU ?_;refine TC.drop (L':=.cells b2 0 [ptr bp]::.cells bp 2 [fs.v]::tok fs 1::.cells bc 3 [.pointer none,.int .i64 0]::(FunsI fl++(.cells b3 0 [.int .i64 0]::.cells bp 3 [.pointer none]::L))) ((List.sublist_cons_self _ _).trans (List.sublist_cons_self _ _)) ?_;refine uA ?_;refine al (k:=0) 0 ?_;refine aP (k:=0) 1 ?_;refine oC goes64 ((cloneF_law fs (fl.map GFun.gf) _ _ (hfs.mono hm6)).x ?_);rintro _ m7 _ ⟨hm7,rfl,scl,rfl,hscl⟩;have hm57:=cD hm6 hm7;have hm07:=cD hm05 hm57;have hE7:=hE0.mono (cD hm45 hm57);have hE8:CE.Tbl ⟨bp,bt,cc0,es0,l,fm,ec,es,fns⟩ m7:=⟨hE7.prog,hE7.tb,hE7.tr,hE7.good⟩
    have hfm7:=hm7.o _ _ hfm;have hfns7:=hfns.mono hm57;have hcc7:=hcc.mono hm57;have hsb7:=hsb.mono hm57;have hfl7:∀ f∈fl,FunAt m7 f:=fun f hf=>(hfl f hf).mono hm57;have hscl2:=hscl.len;rw[bN]at hscl2;have hbud:fl.length+cstL (fl.map GFun.body)≤lim40:=by
     have:=cstL_le (k:=40000) (fl.map GFun.body) (fun x hx=>by
      obtain⟨f,hf,rfl⟩:=List.mem_map.1 hx;have h1:=cst_le f.body;have h2:=(hfl f hf).fit.size;omega)
     rw[bN]at this;unfold lim40;omega
    have hBun:Bun ⟨bp,bt,cc0,es0,l,fm,ec,es,fns⟩ ⟨bc,[],0,zeroT⟩ [] 0 (cstL (fl.map GFun.body)) m7 (.cells b2 0 [ptr bp]::.cells bp 2 [fs.v]::tok fs 1::.cells bc 3 [.pointer none,.int .i64 0]::(FunsI fl++(.cells b3 0 [.int .i64 0]::.cells bp 3 [.pointer none]::L))) (FunsI fl++(.cells b2 0 [ptr bp]::.cells b3 0 [.int .i64 0]::.cells bp 3 [.pointer none]::L)) :=
     ⟨fs,fl.map GFun.gf,[],[],hfs.mono hm57,hfo,by rw[bN];exact hbud,rfl,rfl,bhV⟩
    generalize hT0:(Item.cells b2 0 [ptr bp]::.cells bp 2 [fs.v]::tok fs 1::.cells bc 3 [.pointer none,.int .i64 0]::(FunsI fl++(.cells b3 0 [.int .i64 0]::.cells bp 3 [.pointer none]::L)))=T0 at hBun;refine jS ?_;refine cH (ι:=Nat×Mem×List Item) [2,3,5,6,156,157] rfl (fun y=>[(158,.int .i64 (y.1:Int))]) (fun y=>y.2.1) (fun y=>y.2.2) (fun y=>y.1≤fl.length∧m7≤y.2.1∧Bun ⟨bp,bt,cc0,es0,l,fm,ec,es,fns⟩ ⟨bc,[],0,zeroT⟩ [] 0 (cstL ((fl.drop y.1).map GFun.body)) y.2.1 y.2.2 (FunsI (fl.drop y.1)++(.cells b2 0 [ptr bp]::.cells b3 0 [.int .i64 0]::.cells bp 3 [.pointer none]::L))∧Z=(bodiesO ⟨l,fns⟩ ((fl.drop y.1).map GFun.tri)).bind fun _=>Ck.want (mainOk fns)) (fun y=>fl.length-y.1) (0,m7,T0) uH rfl (bZ _) ⟨cn _,cC _,hBun,hZ⟩ ?_;clear hZ hBun;rintro⟨j,m8,T8⟩ ⟨hj,hm78,hB,hZ⟩;simp only at hj hm78 hB hZ;have hm08:=cD hm07 hm78;refine uA ?_;refine am (fun hltJ=>?_) (fun hltJ=>?_)
    ·have hlt1:(j:Int)<(scl.len:Int):=hltJ;have hlj:j<fl.length:=mv;have hxj:(fl.map GFun.gf)[j]? = some fl[j].gf:=by simp[hlj]
     have hxb:(fl.map GFun.body)[j]? = some fl[j].body:=by simp[hlj]
     have hfj:=(hfl7 _ (bL hlj)).mono hm78;rw[bU hlj,bH,bodiesO]at hZ;rw[bU hlj,funsI_cons,bH,cstL]at hB;generalize hfe:fl[j]=f at hxj hxb hfj hZ hB;have hsc8:=hscl.mono hm78;have hsb8:=hsb7.mono hm78;obtain⟨ht,ps,hht,hps,hA2⟩:=hfj.a2;refine uA ?_;refine ar tab rGF j hsc8 uH mD rfl hxj ?_;rintro b0 i0 h0 ⟨rfl,-⟩ hA0;refine ap tab hA0 ?_;refine ar tab rTree j hsb8 uH mD rfl hxb ?_;rintro b4 i4 h4 hrd4 hA4;refine ap tab hA4 ?_;refine oC goes65 (cE (body_ck (E:=⟨bp,bt,cc0,es0,l,fm,ec,es,fns⟩) (F:=⟨bc,[],f.gf.b,f.ft⟩) (sc:=[]) (w:=0) (lv:=Ck.lvl ⟨l,fns⟩ 200) (m:=m8) (hE8.mono hm78) (hm78.o _ _ hfm7) (hfns7.mono hm78) (hcc7.mono hm78) ⟨⟨_,hfj.a0.c0⟩,(fun g hg=>by cases hg),trivial⟩ trivial hht hfj.tg.1 hfj.tg.2 hps hfj.own hA2 (rTree_iff.1 hrd4) ((lvl_ok ⟨bp,bt,cc0,es0,l,fm,ec,es,fns⟩ 200).2 f.body (by have:=hfj.fit.deep;omega) hfj.fit (block_stmt hfj.bl)) hfj.bl hfj.fit.size hfj.fit.deep hfj.fit.wide (u:=.pointer none) _ (FunsI (fl.drop (j+1))++(.cells b2 0 [ptr bp]::.cells b3 0 [.int .i64 0]::.cells bp 3 [.pointer none]::L)) (cstL ((fl.drop (j+1)).map GFun.body)) ((hB.mono (cC _) mv).toF rfl rfl)) ?_ ?_)
     ·rintro v m9 T9 ⟨a,hbody,hm9,hB9⟩;replace hbody:bodyC (Ck.lvl ⟨l,fns⟩ 200) f.tri.1 f.tri.2.1 [] f.tri.2.2=some a:=hbody;rw[hbody]at hZ;refine uA ?_;refine kA ?_;exact⟨(j+1,m9,T9),uH,uH,rfl,rfl,bZ _,⟨by omega,cD hm78 hm9,hB9.toF rfl rfl,hZ⟩,by simp only;omega⟩
     ·rintro ch m9 T9 ⟨g1,g2,rfl,g4⟩;have hZn:Z=none:=by
       rw[hZ,show bodyC (Ck.lvl ⟨l,fns⟩ 200) f.tri.1 f.tri.2.1 [] f.tri.2.2=none from g1];rfl
      repeat (first|refine thenQ_p ?_|refine blockQ_p ?_)
      obtain rfl:c=5:=nk;exact build_bad (v2:=ptr bp) (v3:=.int .i64 0) rfl rfl (cD hm08 g2) (Hs.trans ⟨_,bhW⟩ g4)
    ·have hlt1:¬(j:Int)<(scl.len:Int):=hltJ;have hje:j=fl.length:=mv;rw[hje,List.drop_length]at hZ hB;replace hZ:Z=Ck.want (mainOk fns):=hZ;obtain⟨M,hM⟩:=hB.hs;replace hM:T8.Perm (M++(.cells b2 0 [ptr bp]::.cells b3 0 [.int .i64 0]::.cells bp 3 [.pointer none]::L)):=hM;have hcc8:=hcc7.mono hm78;have hfm8:=hm78.o _ _ hfm7;have hmn:=(hfns7.mono hm78) [109,97,105,110]
     refine aI (bhX hM) ?_;refine TC.drawK (d2:=2) (d3:=3) df rfl rfl uK [8] 9 rfl [.cells b2 0 [ptr bp]] (.cells b3 0 [.int .i64 0]::.cells bp 3 [.pointer none]::(M++L)) (a9 _) ?_;refine aX (k:=0) 0 0 dD ?_;refine cV tab dD uK [1,2,3] uK rfl ?_;refine DO.loadA (k:=1) tab 4 hcc8 dD uK uK rfl rfl rfl rfl rfl rfl rfl ?_;refine af 5 ?_;refine OT.lookupP tab kStr [109,97,105,110] rfl rfl rfl rfl rfl rfl rfl hfm8 ?_;refine jF ?_;cases hgn:getN fns [109,97,105,110]with
     | none =>
      rw[hgn]at hmn;have hmg:mget es [109,97,105,110]=none:=hmn;have hmo:mainOk fns=false:=by unfold mainOk;rw[hgn]
      rw[hmo]at hZ;have hZn:Z=none:=hZ;refine DO.convV (v':=.pointer none) ?_ nP;refine kr ?_;refine oC goes61 (cE (want_law false _ _) ?_ ?_)
      ·rintro _ _ _ ⟨e,-⟩;cases e
      ·rintro _ _ _ ⟨-,rfl,rfl,rfl⟩;exact gi
     | some tt =>
      rw[hgn]at hmn;obtain⟨htg,bq,hq,hmg,hrq,hAq⟩:=hmn;have hkq:=hrq.kids.len;have hmo:mainOk fns=decide ((hq.kids.len:Int)=0):=by
       unfold mainOk;rw[hgn];show tt.kids.isEmpty=_;rw[Bool.eq_iff_iff,List.isEmpty_iff_length_eq_zero,bw];omega
      rw[hmo]at hZ;refine DO.convV (v':=ptr bq) ?_ nP;refine kr ?_;refine al (k:=0) 0 ?_;refine al (k:=0) 2 ?_;refine ah (k:=3) hAq ?_;refine oC goes61 (cE (want_law (decide ((hq.kids.len:Int)=0)) _ _) ?_ ?_)
      ·rintro _ _ _ ⟨e,rfl,rfl,rfl⟩;rw[e]at hZ;replace hZ:Z=some ():=hZ;obtain rfl:c=0:=by rw[hcZ,hZ];rfl
       refine uA ?_;refine al (k:=0) 0 ?_;refine aj (k:=0) 0 ?_;refine aj (k:=0) 1 ?_;intro tmps w' hA hst';refine leaves_cons mx (invoke_goes goes59) ?_;refine(bRec_idle b2 b3 _ _ w' hst').mono ?_;rintro e u' w2 ⟨v,rfl,rfl,hst2⟩;exact buildE_end (pv:=ptr bp) tab rfl hA rfl rfl rfl rfl hst2 ⟨_::M,a9 _⟩ hm08
      ·rintro _ _ _ ⟨e,rfl,rfl,rfl⟩;rw[e]at hZ;have hZn:Z=none:=hZ;exact gi
 exact fW
end Go.Sep
namespace Go.Sep
open Go.Proofs Go.Ck
attribute [local irreducible] TC TO OT TCallX TCall DO DOt thenQ blockQ retQ At
theorem Check_law (p:Tree) (hw:p.wide≤140737488355328) (m:Mem) (L:List Item) (h:HTree) (hr:TreeRep m h p) :
  TCall Tryz.prog 15 ⟨[treeV h]⟩ m L (Made m L fun r _=>r = .int .i64 (chkT p)):=by
 unfold TCall;refine ak Tryz.func15 11 ?_;refine ay (fun b1=>?_);refine oC goes32 ((Build_law p hw _ _ h hr).x ?_);rintro _ m1 _ ⟨hm1,rfl,pv,rfl⟩;generalize chkT p=c;cases pv with
 | pointer q =>
  exact hH
 | _ =>
  exact hH
end Go.Sep
namespace Go.Sep
theorem blk_take : ∀(b:Bool) (r:Str) (j:Nat),blk b r≤j→blk b (r.take j)=blk b r
 | _,[],j,_=>by simp[blk]
 | true,c::r,0,h=>by
  rw[blk]at h;split at h<;>omega
 | true,c::r,j+1,h=>by
  rw[List.take_succ_cons,blk,blk];rw[blk]at h;split at h
  ·exact iU
  ·rename_i hc;rw[if_neg hc,if_neg hc,blk_take true r j mv]
 | false,c::r,0,h=>by
  have:blk false (c::r)=0:=mv;rw[this];rfl
 | false,c::r,j+1,h=>by
  rw[List.take_succ_cons,blk,blk];rw[blk]at h;split at h
  ·exact iU
  ·rename_i hc;rw[if_neg hc,if_neg hc];split at h
   ·rename_i h2;have hj:1≤j:=by
     cases r with
     | nil=>cases h2.2
     | cons x r =>
      have hx:x=47:=by have:=h2.2;simpa using this
      subst hx;rw[blk,if_neg mw]at h;omega
    have hh:(r.take j).head? = r.head?:=by
     cases r with
     | nil=>simp
     | cons x r =>
      obtain⟨i,rfl⟩:∃ i,j=i+1:=⟨j-1,by omega⟩
      simp
    rw[hh,if_pos h2,if_pos h2,blk_take true r j mv]
   ·rename_i h2;rw[if_neg h2,if_neg];rintro⟨h3,h4⟩;refine h2 ⟨h3,?_⟩;cases j with
    | zero=>simp at h4
    | succ i =>
     cases r with
     | nil=>simp at h4
     | cons x r=>simpa using h4
theorem takeWhile_take (p:UInt8→Bool):∀(s:Str) (j:Nat),(s.takeWhile p).length≤j→((s.take j).takeWhile p).length=(s.takeWhile p).length
 | [],j,_=>by simp
 | c::r,0,h=>by
  rw[List.takeWhile_cons]at h ⊢;split at h
  ·simp at h
  ·rename_i hc;rw[if_neg hc];rfl
 | c::r,j+1,h=>by
  rw[List.take_succ_cons,List.takeWhile_cons,List.takeWhile_cons];rw[List.takeWhile_cons]at h;split
  ·rename_i hc;rw[if_pos hc]at h;simp only[a7]at h ⊢;rw[takeWhile_take p r j mv]
  ·rfl
theorem span_take {p:UInt8→Bool} {s:Str} {j:Nat} (h:spanOf p s≤j):spanOf p (s.take j)=spanOf p s:=takeWhile_take p s j h
theorem escX_take {r:Str} {b:UInt8} {n j:Nat} (h:escX r=some (b,n)) (hj:n≤j+1):escX (r.take j)=some (b,n):=by
 match r,h with
 | x::y::r',h =>
  have h':(hexB x y).map (fun z=>(z,3))=some (b,n):=h;have hn:n=3:=by
   cases hx:hexB x y with
   | none=>rw[hx]at h';cases h'
   | some z=>rw[hx]at h';cases h';rfl
  obtain⟨i,rfl⟩:∃ i,j=i+2:=⟨j-2,by omega⟩
  exact h
theorem escB_take {r:Str} {b:UInt8} {n j:Nat} (h:escB r=some (b,n)) (hj:n≤j):escB (r.take j)=some (b,n):=by
 have hp:=escB_pos h;cases r with
 | nil=>cases h
 | cons c r =>
  obtain⟨i,rfl⟩:∃ i,j=i+1:=⟨j-1,by omega⟩
  rw[List.take_succ_cons];rw[escB]at h ⊢;by_cases h1:c.toNat=110
  ·rw[if_pos h1]at h ⊢;exact h
  ·rw[if_neg h1]at h ⊢;by_cases h2:c.toNat=116
   ·exact je
   ·rw[if_neg h2]at h ⊢;by_cases h3:c.toNat=34∨c.toNat=92
    ·rw[if_pos h3]at h ⊢;exact h
    ·rw[if_neg h3]at h ⊢;by_cases h4:c.toNat=120
     ·rw[if_pos h4]at h ⊢;exact escX_take h hj
     ·exact iy
theorem lit_take : ∀(N:Nat) (r t:Str) (n j:Nat),r.length<N→lit r=some (t,n)→n≤j→lit (r.take j)=some (t,n)
 | 0,_,_,_,_,h,_,_=>by omega
 | N+1,[],_,_,_,_,h,_=>by cases h
 | N+1,c::r,t,n,j,hN,h,hj=>by
  have hp:=lit_le h;simp only[a7]at hN;obtain⟨i,rfl⟩:∃ i,j=i+1:=⟨j-1,by omega⟩
  rw[List.take_succ_cons];by_cases h1:c.toNat=34
  ·rw[lit_quote h1]at h ⊢;exact h
  by_cases h2:c.toNat=10
  ·rw[lit_nl h2]at h;cases h
  by_cases h3:c.toNat=92
  ·cases he:escB r with
   | none=>rw[lit_esc_none h3 he]at h;cases h
   | some p =>
    obtain⟨b,k⟩:=p;rw[lit_esc_some h3 he]at h;cases hl:lit (r.drop k)with
    | none=>rw[hl]at h;cases h
    | some q =>
     obtain⟨t',n'⟩:=q;rw[hl]at h;simp only[cw,bu,Prod.mk.injEq]at h;have hk:=escB_pos he;have he':=escB_take (j:=i) he mv;rw[lit_esc_some h3 he',List.drop_take,lit_take N (r.drop k) t' n' (i-k) ng hl mv];simp only[cw,bu,Prod.mk.injEq];exact h
  ·cases hl:lit r with
   | none=>rw[lit_one h1 h2 h3,hl]at h;cases h
   | some q =>
    obtain⟨t',n'⟩:=q;rw[lit_one h1 h2 h3,hl]at h;simp only[cw,bu,Prod.mk.injEq]at h;rw[lit_one h1 h2 h3,lit_take N r t' n' i mv hl mv];simp only[cw,bu,Prod.mk.injEq];exact h
theorem prefixB_iff {p s:Str}:prefixB p s=true↔p.length≤s.length∧s.take p.length=p:=by
 unfold prefixB;rw[bj,decide_eq_true_iff,decide_eq_true_iff]
theorem find_take {s p:Str} {j:Nat} (hj:p.length≤j):∀ l:List Str,l.find? (fun q=>prefixB q s)=some p→l.find? (fun q=>prefixB q (s.take j))=some p
 | [],h=>by cases h
 | q::l,h=>by
  by_cases hq:prefixB q s=true
  ·rw[List.find?_cons_of_pos (p:=fun q=>prefixB q s) hq]at h;cases h;refine List.find?_cons_of_pos (p:=fun q=>prefixB q (s.take j)) (prefixB_iff.2 ?_);obtain⟨h1,h2⟩:=prefixB_iff.1 hq;refine⟨by rw[bV];omega,?_⟩;rw[List.take_take,Nat.min_eq_left hj];exact h2
  ·rw[List.find?_cons_of_neg (p:=fun q=>prefixB q s) hq]at h;rw[List.find?_cons_of_neg (p:=fun q=>prefixB q (s.take j))]
   ·exact find_take hj l h
   ·intro h3;obtain⟨h1,h2⟩:=prefixB_iff.1 h3;rw[bV]at h1;rw[List.take_take,Nat.min_eq_left mv]at h2;exact hq (prefixB_iff.2 ⟨by omega,h2⟩)
theorem tokD_take {s:Str} {t:Tok} {n j:Nat} (h:tokD s=some (t,n)) (hj:n≤j):tokD (s.take j)=some (t,n):=by
 have hp:=tokD_le h;cases s with
 | nil=>cases h
 | cons c r =>
  obtain⟨i,rfl⟩:∃ i,j=i+1:=⟨j-1,by omega⟩
  have hts:(c::r).take (i+1)=c::r.take i:=rfl;by_cases h1:ltr c=true
  ·have hn:n=spanOf lod (c::r):=by
    rw[tokD,if_pos h1]at h;exact jw
   have hsp:spanOf lod ((c::r).take (i+1))=spanOf lod (c::r):=span_take mv;have htt:((c::r).take (i+1)).take (spanOf lod (c::r))=(c::r).take (spanOf lod (c::r)):=by rw[List.take_take,Nat.min_eq_left mv]
   rw[hts]at hsp htt ⊢;rw[tokD,if_pos h1]at h ⊢;rw[hsp,htt];exact h
  ·by_cases h2:dgt c=true
   ·have hn:n=spanOf lod (c::r)∧spanOf dgt (c::r)=spanOf lod (c::r):=by
     rw[tokD,if_neg h1,if_pos h2]at h;split at h
     ·cases h
     ·split at h
      ·cases h
      ·rename_i h3;cases h;exact⟨rfl,by omega⟩
    have hsp:spanOf lod ((c::r).take (i+1))=spanOf lod (c::r):=span_take mv;have hsd:spanOf dgt ((c::r).take (i+1))=spanOf dgt (c::r):=span_take mv;have htt:((c::r).take (i+1)).take (spanOf lod (c::r))=(c::r).take (spanOf lod (c::r)):=by rw[List.take_take,Nat.min_eq_left mv]
    rw[hts]at hsp hsd htt ⊢;rw[tokD,if_neg h1,if_pos h2]at h ⊢;rw[hsp,hsd,htt];exact h
   ·by_cases h3:c.toNat=34
    ·rw[hts];rw[tokD,if_neg h1,if_neg h2,if_pos h3]at h ⊢;cases hl:lit r with
     | none=>rw[hl]at h;cases h
     | some q =>
      obtain⟨t',n'⟩:=q;rw[hl]at h;simp only at h;have hn:n=n'+1:=by
       exact jw
      rw[lit_take (r.length+1) r t' n' i mv hl mv];exact h
    ·rw[tokD,if_neg h1,if_neg h2,if_neg h3]at h;cases hf:markL.find? (fun p=>prefixB p (c::r))with
     | none=>rw[hf]at h;cases h
     | some p =>
      rw[hf]at h;have hn:n=p.length:=by cases h;rfl
      have:=find_take (s:=c::r) (p:=p) (j:=i+1) mv markL hf;rw[hts]at this ⊢;rw[tokD,if_neg h1,if_neg h2,if_neg h3,this];exact h
theorem cutF_take : ∀(f:Nat) (r:Str) (at_ k a:Nat),cutF f r at_ k = .error (a,3)→r.length<f→at_≤a∧a-at_<r.length∧∀ g,a-at_<g→∃ l,cutF g (r.take (a-at_)) at_ k = .ok l
 | 0,r,at_,k,a,h,hf=>by omega
 | f+1,r,at_,k,a,h,hf=>by
  have hb:=blk_le false r;rw[cutF]at h;by_cases h1:r.drop (blk false r)=[]
  ·rw[if_pos h1]at h;cases h
  ·rw[if_neg h1]at h;have hlt:blk false r<r.length:=by
    exact il
   by_cases h2:k=20000
   ·rw[if_pos h2]at h;cases h
   ·rw[if_neg h2]at h;cases ht:tokD (r.drop (blk false r))with
    | none =>
     rw[ht]at h;simp only[Except.error.injEq,Prod.mk.injEq,and_true]at h;subst h;refine⟨by omega,by omega,fun g hg=>?_⟩;rw[show at_+blk false r-at_=blk false r by omega];cases g with
     | zero=>omega
     | succ g =>
      refine⟨[],?_⟩;rw[cutF,blk_take false r _ (bF _),ci nv,if_pos rfl]
    | some p =>
     obtain⟨t,n⟩:=p;rw[ht]at h;simp only at h;have hn:=tokD_le ht;rw[bW]at hn;cases hc:cutF f ((r.drop (blk false r)).drop n) (at_+blk false r+n) (k+1)with
     | ok l=>rw[hc]at h;cases h
     | error e =>
      rw[hc]at h;simp only[Except.error.injEq]at h;subst h;obtain⟨g1,g2,g3⟩:=cutF_take f _ _ _ _ hc mY;rw[bW,bW]at g2;refine⟨by omega,by omega,fun g hg=>?_⟩;cases g with
      | zero=>omega
      | succ g =>
       have hd:(r.take (a-at_)).drop (blk false r)=(r.drop (blk false r)).take (a-at_-blk false r):=List.drop_take ..;obtain⟨l,hl⟩:=g3 g mv;have ht':=tokD_take (j:=a-at_-blk false r) ht mv;refine⟨⟨t.kind,t.text,t.num,((at_+blk false r:Nat):Int)⟩::l,?_⟩;rw[cutF,blk_take false r _ mv,hd,if_neg,if_neg h2,ht']
       ·simp only;rw[List.drop_take,show a-at_-blk false r-n=a-(at_+blk false r+n) by omega,hl]
       ·intro e;rw[e]at ht';cases ht'
end Go.Sep
namespace Go.Sep
theorem cutF_ok : ∀(f:Nat) (r:Str) (at_ k:Nat) (l:List Tok),cutF f r at_ k = .ok l→r.length<f→k≤20000→l.length+k≤20000∧(∀ t∈l,(at_:Int)≤t.at_∧t.at_<at_+r.length)∧l.Pairwise (fun a b=>a.at_<b.at_)
 | 0,r,at_,k,l,h,hf,hk=>by omega
 | f+1,r,at_,k,l,h,hf,hk=>by
  have hb:=blk_le false r;rw[cutF]at h;by_cases h1:r.drop (blk false r)=[]
  ·rw[if_pos h1]at h;cases h;exact⟨by simpa using hk,by simp,List.Pairwise.nil⟩
  ·rw[if_neg h1]at h;have hlt:blk false r<r.length:=Nat.lt_of_not_le fun hge=>h1 (ci hge);by_cases h2:k=20000
   ·exact fV
   ·rw[if_neg h2]at h;cases ht:tokD (r.drop (blk false r))with
    | none=>rw[ht]at h;cases h
    | some p =>
     obtain⟨t,n⟩:=p;rw[ht]at h;simp only at h;have hn:=tokD_le ht;rw[bW]at hn;cases hc:cutF f ((r.drop (blk false r)).drop n) (at_+blk false r+n) (k+1)with
     | error e=>rw[hc]at h;cases h
     | ok l' =>
      rw[hc]at h;cases h;obtain⟨g1,g2,g3⟩:=cutF_ok f _ _ _ _ hc mY mv;have g2':∀ t∈l',((at_+blk false r+n:Nat):Int)≤t.at_∧t.at_<at_+r.length:=fun t ht=>by
       have:=g2 t ht;rw[bW,bW]at this;omega
      refine⟨by simp only[a7];omega,fun t' ht'=>?_,List.pairwise_cons.2 ⟨fun t' ht'=>?_,g3⟩⟩
      ·rcases List.mem_cons.1 ht' with rfl | ht'
       ·simp only;omega
       ·have:=g2' t' ht';omega
      ·have:=g2' t' ht';simp only;omega
theorem cutF_err : ∀(f:Nat) (r:Str) (at_ k a:Nat) (e:Int),cutF f r at_ k = .error (a,e)→r.length<f→at_≤a∧a<at_+r.length∧(e=3∨e=4)
 | 0,r,at_,k,a,e,h,hf=>by omega
 | f+1,r,at_,k,a,e,h,hf=>by
  have hb:=blk_le false r;rw[cutF]at h;by_cases h1:r.drop (blk false r)=[]
  ·rw[if_pos h1]at h;cases h
  ·rw[if_neg h1]at h;have hlt:blk false r<r.length:=Nat.lt_of_not_le fun hge=>h1 (ci hge);by_cases h2:k=20000
   ·rw[if_pos h2]at h;exact jf
   ·rw[if_neg h2]at h;cases ht:tokD (r.drop (blk false r))with
    | none =>
     rw[ht]at h;exact jf
    | some p =>
     obtain⟨t,n⟩:=p;rw[ht]at h;simp only at h;have hn:=tokD_le ht;rw[bW]at hn;cases hc:cutF f ((r.drop (blk false r)).drop n) (at_+blk false r+n) (k+1)with
     | ok l=>rw[hc]at h;cases h
     | error e' =>
      rw[hc]at h;simp only[Except.error.injEq]at h;subst h;have:=cutF_err f _ _ _ _ _ hc mY;rw[bW,bW]at this;omega
theorem scanD_cases (s:Str):(65536<s.length∧scanD s=⟨[],0,13⟩) ∨
  (s.length≤65536∧∃ l:List Tok,scanD s=⟨l,0,0⟩∧cutF (s.length+1) s 0 0 = .ok l∧l.length≤20000∧(∀ t∈l,0≤t.at_∧t.at_<s.length)∧l.Pairwise (fun a b=>a.at_<b.at_)) ∨
  (s.length≤65536∧∃ a e,scanD s=⟨[],a,e⟩∧a<s.length∧(e=4∨(e=3∧(scanD (s.take a)).e=0))):=by
 by_cases hl:65536<s.length
 ·exact .inl ⟨hl,by rw[scanD,if_pos hl]⟩
 ·refine .inr ?_;have hs:scanD s = .of (cutF (s.length+1) s 0 0):=by rw[scanD,if_neg hl]
  cases hc:cutF (s.length+1) s 0 0 with
  | ok l =>
   obtain⟨h1,h2,h3⟩:=cutF_ok _ _ _ _ _ hc mv mv;refine .inl ⟨by omega,l,by rw[hs,hc];rfl,rfl,by omega,fun t ht=>?_,h3⟩;have:=h2 t ht;omega
  | error x =>
   obtain⟨a,e⟩:=x;obtain⟨h1,h2,h3⟩:=cutF_err _ _ _ _ _ _ hc mv;refine .inr ⟨by omega,a,e,by rw[hs,hc];rfl,by omega,?_⟩;rcases h3 with rfl | rfl
   ·refine .inr ⟨rfl,?_⟩;obtain⟨_,_,h4⟩:=cutF_take _ _ _ _ _ hc mv;obtain⟨l,hl2⟩:=h4 (a+1) mv;rw[Nat.sub_zero]at hl2;rw[scanD,if_neg nv,show(s.take a).length=a by rw[bV];omega,hl2];rfl
   ·exact .inl rfl
theorem scanD_len (s:Str):(scanD s).list.length≤20000:=by
 rcases scanD_cases s with ⟨_,h⟩ | ⟨_,l,h,_,h2,_⟩ | ⟨_,a,e,h,_⟩
 ·rw[h];exact cn _
 ·rw[h];exact h2
 ·rw[h];exact cn _
end Go.Sep
namespace Go.Sep
def tkF (l:List Tok):Ps.F:=fun i=>match l[i]? with
 | some t=>some ⟨t.kind,t.text,t.num⟩
 | none=>none
def placeD (s:Str) (l:List Tok) (k:Nat):Int:=match l[k]? with
 | some t=>t.at_
 | none=>(s.length:Int)
structure PA where
 tree:Tree
 at_:Int
 e:Int
def emptyT : Tree:=.mk 0 [] 0 []
def parseL (s:Str) (l:List Tok):PA :=
 match Ps.program l.length (tkF l) 0 with
 | .ok ds _=>if (Tree.mk 1 [] 0 ds).size≤20000∧(Tree.mk 1 [] 0 ds).deep≤100 then ⟨.mk 1 [] 0 ds,0,0⟩else ⟨emptyT,0,4⟩
 | .bad k=>⟨emptyT,placeD s l k,3⟩
 | .out=>⟨emptyT,0,0⟩
def parseD (s:Str):PA:=if (scanD s).e=0 then parseL s (scanD s).list else ⟨emptyT,((scanD s).at_:Int),(scanD s).e⟩
def ParseR (a:PA) (r:Value) (m':Mem):Prop:=∃ x,r = .tuple ⟨[treeV x,.int .i64 a.at_,.int .i64 a.e]⟩∧TreeRep m' x a.tree
theorem emptyT_rep (m:Mem):TreeRep m ⟨0,[],0,⟨none,0,0⟩⟩ emptyT:=⟨rfl,rfl,rfl,cS _ _⟩
end Go.Sep
namespace Go.Ck
open Go.Sep
def sA : Str:=[102,117,110,99,32,109,97,105,110,40,41,123,112,114,105,110,116,40,49,41,59,125]
def sB : Str:=[102,117,110,99,32,109,97,105,110,40,41,123,112,114,105,110,116,40,110,105,108,41,59,125]
end Go.Ck
