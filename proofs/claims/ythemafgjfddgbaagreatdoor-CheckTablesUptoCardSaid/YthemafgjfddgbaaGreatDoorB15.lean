/-
  Part 15 of the proof: library, walks and plain laws.
-/
import Derived.Deep.Slices
import Derived.Deep.CondSized
import Derived.ChangeStays
import Derived.Lib.SmallJoins
import Derived.Test.YthemafgjfddgbaaGreatDoorB14
set_option linter.unusedVariables false
set_option linter.unusedSimpArgs false
set_option maxHeartbeats 6400000
namespace Go.Sep
open Go.Proofs Go.ChangeShapes Go.WideShapes Go.Proofs.YthemafgjfddgbaaGreatDoor
theorem St.same {W w':World} {m':Mem} {L':List Item} (h:St m' w' L') (hm:memOf W≤m') {p:MemPlace} (hlt:p.block<W.heap.size):W.sameAt w' p:=by
 have hp:m'.pin=W:=hm.pin;have hpin:=h.pin;rw[hp]at hpin;cases p with
 | cell b off=>exact World.cell?_of_block (hpin b hlt)
 | map b=>exact hpin b hlt
theorem build2 {H α:Type} {Q:Nat→H→α→Prop}:∀ n:Nat,(∀ i,i<n→∃ h a,Q i h a)→∃(hs:List H) (al:List α),hs.length=n∧al.length=n∧∀ i,i<n→∃ h a,hs[i]? = some h∧al[i]? = some a∧Q i h a
 | 0,_=>⟨[],[],rfl,rfl,fun i hi=>by omega⟩
 | n+1,hq=>by
  obtain⟨hs,al,h1,h2,h3⟩:=build2 n (fun i hi=>hq i oM);obtain⟨h,a,hQ⟩:=hq n oM;refine⟨hs++[h],al++[a],by simp[h1],by simp[h2],fun i hi=>?_⟩;by_cases e:i=n
  ·subst e;exact⟨h,a,by simp[←h1],by simp[←h2],hQ⟩
  ·obtain⟨h',a',q1,q2,q3⟩:=h3 i oM;exact⟨h',a',by rw[bJ oM];exact q1,by rw[bJ oM];exact q2,q3⟩
theorem all2_of {H α:Type} {r:H→α→Prop}:∀(hs:List H) (al:List α),hs.length=al.length→(∀(i:Nat) (h:H) (a:α),hs[i]? = some h→al[i]? = some a→r h a)→All2 r hs al
 | [],[],_,_=>trivial
 | h::hs,a::al,hl,hr=>⟨hr 0 h a rfl rfl,all2_of hs al (by simpa using hl) fun i h' a' h1 h2=>hr (i+1) h' a' (by simpa using h1) (by simpa using h2)⟩
theorem at_encs {H α:Type} (r:R H α) {m:Mem} {b:Nat}:∀(hs:List H) (o:Nat),(∀ i h,hs[i]? = some h→At m b (o+i*r.size) (r.enc h))→At m b o (encs r hs)
 | [],o,_=>At.nil _ _ _
 | h::hs,o,hA=>by
  have h0:=hA 0 h rfl;rw[Nat.zero_mul,Nat.add_zero]at h0;have ih:=at_encs r hs (o+r.size) fun i h' hi=>by
   have:=hA (i+1) h' pc
   rwa [show o+(i+1)*r.size=o+r.size+i*r.size by rw[Nat.add_mul];omega]at this
  refine At.append h0 ?_;rw[r.enc_len];exact ih
theorem weights_mem_all {HH:Type} {P:Program} {e:TypeId}:∀ {ds:List (DataW HH)} {d:DataW HH},d∈ds→∀ n∈d.weights P e,n∈DataW.weightsAll P e ds
 | d0::ds,d,hd,n,hn=>by
  rw[DataW.weightsAll,List.mem_append];rcases List.mem_cons.1 hd with rfl | hd
  ·exact .inl hn
  ·exact .inr (weights_mem_all hd n hn)
 | [],d,hd,n,hn=>by cases hd
theorem four {cs:List Value} (h:cs.length=4):∃ a b c d,cs=[a,b,c,d] :=
 match cs,h with
 | [a,b,c,d],_=>⟨a,b,c,d,rfl⟩
theorem bulk_part {HH:Type} {d:DataW HH} {l:List (DataW HH)} (h:d∈l):Rows.uptoBulk d≤Rows.uptoBulkAll l:=by
 induction l with
 | nil=>cases h
 | cons x r ih =>
  simp only[Rows.uptoBulkAll];cases List.mem_cons.1 h with
  | inl e=>subst e;omega
  | inr e=>have:=ih e;omega
theorem bulk_one {HH:Type} (d:DataW HH):1≤Rows.uptoBulk d:=by
 cases d with
 | lit l=>cases l<;>simp[Rows.uptoBulk]
 | _=>simp[Rows.uptoBulk]
theorem bulk_list {HH:Type} (D:Nat→DataW HH):∀(n:Nat) (al:List Tree),al.length=n→(∀ i a,al[i]? = some a→a.bulk≤Rows.uptoBulk (D i))→bulkL al≤Rows.uptoBulkAll ((List.range n).map D)
 | 0,al,hl,_=>by rw[List.length_eq_zero_iff.1 hl];simp[bulkL,Rows.uptoBulkAll]
 | n+1,al,hl,h=>by
  obtain⟨al',x,rfl⟩:∃ al' x,al=al'++[x]:=⟨al.take n,al[n],by rw[←cz oM,cu oM]⟩
  have hl':al'.length=n:=by simpa using hl
  have ih:=bulk_list D n al' hl' (fun i a hi=>h i a (by rw[bJ (List.getElem?_eq_some_iff.1 hi).1];exact hi));have hx:=h n x (by rw[←hl'];simp);have e1:∀ l r:List Tree,bulkL (l++r)=bulkL l+bulkL r:=by
   intro l r
   induction l with
   | nil=>simp[bulkL]
   | cons t ts ih=>simp only[bR,bulkL,ih];omega
  have e2:∀ l r:List (DataW HH),Rows.uptoBulkAll (l++r)=Rows.uptoBulkAll l+Rows.uptoBulkAll r:=by
   intro l r
   induction l with
   | nil=>simp[Rows.uptoBulkAll]
   | cons t ts ih=>simp only[bR,Rows.uptoBulkAll,ih];omega
  rw[List.range_succ,cB,e1,e2];simp only[bulkL,bP,bQ,Rows.uptoBulkAll];omega
section
variable {HH:Type} {enc:TypeId×Value→HH} {W:World}
theorem reads_tree24 : ∀(N:Nat) (fuel:Nat) (cs:List Value) (x:DataW HH×List MemPlace),Rows.uptoBulk x.1≤N→DataW.trod enc Tryz.prog W 0 (fun _=>true) true fuel 24 cs=some x→(∀ n∈x.1.weights Tryz.prog 24,n≤reachBytes) →
  ∃ h a,cs=treeC h∧TreeRep (memOf W) h a∧a.bulk≤Rows.uptoBulk x.1∧a.inR=true:=by
 intro N
 induction N with
 | zero=>intro fuel cs x hN h hw;have:=bulk_one x.1;omega
 | succ N ih =>
  intro fuel cs x hN h hw;obtain⟨y0,y1,y2,y3,n,rfl,hl,t0,t1,t2,t3⟩:=Go.Joins.trod_struct4 Tryz.underlying24 h;have c:Tryz.prog.cellsOf 24=4:=uK;have c3:Tryz.prog.cellsOf 3=1:=uK;have c9:Tryz.prog.cellsOf 9=1:=uK;have ck:Tryz.prog.cellsOf 22=1:=uK;have bt:Tryz.prog.bytesOf 24=56:=uK;rw[c]at hl;obtain⟨v0,v1,v2,v3,rfl⟩:=four hl;simp only[c3,c9,ck,List.drop,List.take]at t0 t1 t2 t3;simp only[DataW.weights,Tryz.underlying24,bP,bQ,DataW.weightsEach]at hw;simp only[Rows.uptoBulk,Rows.uptoBulkAll]at hN ⊢;obtain⟨n0,e0,_,_⟩:=DataW.trod_int Tryz.underlying3 t0;obtain⟨s,e1,d1,_⟩:=DataW.trod_string Tryz.underlying9 t1;obtain⟨n2,e2,_,wf2⟩:=DataW.trod_int Tryz.underlying3 t2;simp only[List.cons.injEq,and_true]at e0 e1 e2;subst e0 e1 e2;have hs:s.data.toList.length+1≤Rows.uptoBulk y1.1:=by
   rw[d1];simp[Rows.uptoBulk]
  have hi2:-9223372036854775808≤n2∧n2≤9223372036854775807:=by
   have:=wf2;simp only[Lit.wf,bE,bI]at this;exact this
  have hs2:s.data.toList.length≤140737488355328:=by
   have h1:=hw s.data.toList.length (by rw[d1];simp[DataW.weights]);exact ka
  rcases Deep.open_slice Tryz.underlying22 t3 with ⟨e3,hx⟩ | ⟨a,len,cap,mm,n',D,Pl,e3,_,hlc,_,hmm,hx,hel⟩
  ·simp only[List.cons.injEq,and_true]at e3;subst e3;refine⟨⟨n0,s.data.toList,n2,⟨none,0,0⟩⟩,.mk n0 s.data.toList n2 [],rfl,dw _ _ _ _,?_,inR_mk hs2 hi2 (fun _ h=>by cases h)⟩;have:=bulk_one y0.1;simp only[Tree.bulk,bulkL];omega
  ·simp only[List.cons.injEq,and_true]at e3;subst e3;simp only[if_true]at hmm;subst hmm;subst hx;have hw3:∀ w∈DataW.weights Tryz.prog 22 (.slice ((List.range len).map D) ((List.range (mm-len)).map fun j=>D (len+j))),w≤reachBytes:=fun w hwm=>hw w (by simp[hwm]);simp only[DataW.weights,Tryz.underlying22]at hw3;have hfit:len*56≤140737488355328:=by
    have:=hw3 _ (List.mem_cons_self ..);rw[bt]at this;simp only[bV,List.length_range]at this;have h2:len*56≤(len+(mm-len))*56:=Nat.mul_le_mul_right _ oM;exact ka
   simp only[Rows.uptoBulk]at hN ⊢;have hDi:∀ i,i<len→Rows.uptoBulk (D i)≤Rows.uptoBulkAll ((List.range len).map D):=fun i hi=>bulk_part (List.mem_map.2 ⟨i,by simpa using hi,rfl⟩);have hel2:∀ i,i<len→∃(h:HTree) (a':Tree),W.cells? 0 (a.add (i*4)) 4=some (treeC h)∧TreeRep (memOf W) h a'∧a'.bulk≤Rows.uptoBulk (D i)∧a'.inR=true:=fun i hi=>by
    obtain⟨cs',h1,h2⟩:=hel i oM;rw[c]at h1;have hd:=hDi i hi;have h0:=bulk_one y0.1;obtain⟨h',a',rfl,h4,h5⟩:=ih n' cs' _ pm h2 (fun w hwm=>hw3 w (List.mem_cons_of_mem _ (List.mem_append_left _ (weights_mem_all (d:=D i) (List.mem_map.2 ⟨i,by simpa using hi,rfl⟩) w hwm))));exact⟨h',a',h1,h4,h5⟩
   obtain⟨hs',al,l1,l2,l3⟩:=build2 len hel2;have hbl:=bulk_list D len al l2 (fun i a' hi=>by
    obtain⟨h2,a2,p1,p2,_,_,p5⟩:=l3 i (by have:=(List.getElem?_eq_some_iff.1 hi).1;omega);rw[p2]at hi;simp only[bH]at hi;subst hi;exact p5.1)
   refine⟨⟨n0,s.data.toList,n2,⟨some a,len,mm⟩⟩,.mk n0 s.data.toList n2 al,rfl,⟨rfl,rfl,rfl,l2.symm,hlc,hfit,hs',?_,?_⟩,?_,inR_mk hs2 hi2 (fun t ht=>by
    obtain⟨i,hi,rfl⟩:=List.getElem_of_mem ht;obtain⟨h2,a2,p1,p2,_,_,p5⟩:=l3 i oM;rw[bF hi]at p2;simp only[bH]at p2;rw[p2];exact p5.2)⟩
   ·refine all2_of hs' al oM fun i h' a' q1 q2=>?_;obtain⟨h2,a2,p1,p2,_,p4,_⟩:=l3 i (by have:=(List.getElem?_eq_some_iff.1 q1).1;omega);rw[p1]at q1;rw[p2]at q2;simp only[bH]at q1 q2;subst q1;subst q2;exact rTree_iff.2 p4
   ·by_cases hl0:len=0
    ·left;exact⟨List.eq_nil_of_length_eq_zero (by simp only[Tree.kids];omega),fun e=>by cases e⟩
    ·right;obtain⟨b,o,spot⟩:=a;have hspot:spot=none:=by
      obtain⟨h2,a2,_,_,p3,_⟩:=l3 0 oM;obtain⟨_,q2,q3⟩:=World.cells?_some p3;have:=q3 0 oM;have hlen:0<(treeC h2).length:=by simp[treeC]
      rw[bF hlen]at this;have hs:=World.cell?_spot this;simpa[Addr.add]using hs
     subst hspot;refine⟨b,o,rfl,at_encs rTree hs' o fun i h' hi=>?_⟩;have hil:=(List.getElem?_eq_some_iff.1 hi).1;obtain⟨h2,a2,p1,_,p3,_⟩:=l3 i oM;rw[p1]at hi;simp only[bH]at hi;subst hi;obtain⟨_,q2,q3⟩:=World.cells?_some p3;intro j v hv;have hj:=(List.getElem?_eq_some_iff.1 hv).1;have hj4:j<4:=by have e4:(rTree.enc h2).length=4:=rTree.enc_len h2;omega
     have:=q3 j hj4;rw[show(treeC h2)[j]? = some v from hv,addr_add,addr_add]at this;exact this
   ·simp only[Tree.bulk];omega
end
end Go.Sep
namespace Go.Proofs.YthemafgjfddgbaaGreatDoor
open Go.ChangeShapes Go.WideShapes Go.ChangeAt Go.RowKit Go.Sep
theorem kids : Kids Tryz.prog (· < Tryz.prog.types.size):=kids_rows uK uK
theorem full : ∀ t e,t<Tryz.prog.types.size→Tryz.prog.underlying t=some (.slice e)→0<Tryz.prog.cellsOf e:=slices_full_of Tryz.prog uK
theorem in24 :(24:TypeId)<Tryz.prog.types.size:=of_decide_eq_true uK
theorem stays {H:Type} {enc:TypeId×Value→H} {W w':World} {m':Mem} {L':List Sep.Item} (h:St m' w' L') (hm:memOf W≤m') {t:TypeId} (ht:t<Tryz.prog.types.size) {v:Value} {d:DataW H} {ps:List MemPlace}
  (hd:DataW.Trod enc Tryz.prog W 0 (fun _=>true) true t v d ps) (hlt:∀ p∈ps,p.block<W.heap.size) {sp':Nat→Bool} (hs:∀ p∈ps,sp' p.block=true):DataW.Trod enc Tryz.prog w' 0 sp' true t v d ps:=by
 obtain⟨n,hn⟩:=hd;exact⟨n,DataW.trod_stays kids (fun h1 h2=>full _ _ h1 h2) (fun e=>by cases e) ht hn (fun p hp=>h.same hm (hlt p hp)) hs⟩
set_option maxRecDepth 100000 in
theorem lawN {f:FuncId} {fn:Func} {s:ChangeSpec} (hvars:s.vars=[]) (hpar:fn.params = #[24]) (hres:fn.resultTypes = #[4])
  (hfn:∀(H:Type) (d:DataW H),s.fn H [d] = { results:=[.lit (.bool true)],args:=[d] })
  (ok:Tree→Prop) (hT:∀(m:Mem) (L:List Sep.Item) (h:HTree) (a:Tree),Errs m→TreeRep m h a→ok a→TCall Tryz.prog f ⟨[treeV h]⟩ m L (Made m L fun r _=>r = .bool true))
  {fresh handsOn:Bool} (H:Type) (enc:TypeId×Value→H) (W:World) (base:Nat) (args:Array Value) (ds gs:List (DataW H)) (before:List MemPlace)
  (hval:∀(j:Nat) t v,fn.params[j]? = some t→args[j]? = some v→Value.okWide Tryz.prog W .any base t v)
  (hW:DataW.Whole enc Tryz.prog fn.params.toList s.vars false W args.toList ds gs before) (hok:∀(d:DataW H) (a:Tree),ds++gs=[d]→a.bulk≤Rows.uptoBulk d→a.inR=true→ok a) (hL:laidMetH Tryz.prog laidL W)
  (hsz:(DataW.weightsEach Tryz.prog (fn.params.toList++s.plain.varTypes Tryz.prog) (ds++gs)).all (·≤reachBytes)=true) :
  Calls Tryz.prog f args W fun e W'=>∃ v,e = .returned v∧s.post enc Tryz.prog fn false fresh handsOn false W args v W':=by
 have hlt:∀ p∈before,p.block<W.heap.size:=fun p hp=>hW.lt p hp;have hW':=hW;obtain⟨p,q,hA0,hV,rfl,hfz,hnd⟩:=hW;rw[hvars]at hV;obtain⟨rfl,rfl⟩:=trodVars_none hV;rw[hpar]at hA0 hval hsz;obtain⟨v,d,rfl,rfl,h0⟩:=trodAll_one hA0;simp only[cp]at hW' hlt hsz;have hv:=hval 0 24 v rfl rfl;obtain⟨n,hn⟩:=h0;have hwts:∀ w∈d.weights Tryz.prog 24,w≤reachBytes:=fun w hw=>by
  have:=List.all_eq_true.1 hsz w (DataW.weights_mem_each (j:=0) (t:=24) (d:=d) rfl rfl w hw);simpa using this
 obtain⟨h,a,he,hr,hB,hR⟩:=reads_tree24 _ n _ _ (bN _) hn hwts;have hv24:v=treeV h:=by
  unfold Value.okWide at hv;rw[Tryz.underlying24]at hv;obtain⟨cs,rfl,_,_⟩:=hv;have:cs.toList=treeC h:=he;exact congrArg Value.agg (Array.ext' this)
 subst hv24;refine(hT (memOf W) [] h a (errs_of hL) hr (hok _ _ rfl hB hR) W (St.start W)).mono fun e W' hX=>?_;cases e with
 | returned r =>
  obtain⟨m',L',hst,hle,_,rfl⟩:=hX;refine⟨_,rfl,post_old (pa:=p) (pv:=[]) hW' (fun _ _ _=>?_) (fun sp hsp=>?_) (fun _ _=>?_) (hst.kept hle)⟩
  ·rw[hres,show([d]++[]:List (DataW H))=[d] from rfl,hfn];exact trodAll_mk1 (shut_bool Tryz.underlying4 _)
  ·rw[hpar,show([d]++[]:List (DataW H))=[d] from rfl,hfn];exact trodAll_mk1 (stays hst hle in24 ⟨n,hn⟩ hlt hsp)
  ·rw[hvars,show([d]++[]:List (DataW H))=[d] from rfl,hfn];rfl
 | panicked ch =>
  obtain⟨_,_,_,hf⟩:=hX;exact hf.elim
 | outgrown=>exact hX.elim
end Go.Proofs.YthemafgjfddgbaaGreatDoor
