/-
  Part 13 of the proof: library, walks and plain laws.
-/
import Derived.Test.YthemafgjfddgbaaGreatDoorB12
set_option linter.unusedVariables false
set_option linter.unusedSimpArgs false
set_option maxHeartbeats 6400000
namespace Go.Sep
open Go.Proofs
attribute [local irreducible] TC TO OT TCallX TCall DO DOt thenQ blockQ retQ At
theorem start_ok {P:Program} {vs:List Value} {m:Mem} {L:List Item} {w:World} {n N:Nat} (hN:N≤n) (hs:St m w L):Ok N (argEnv vs 0) [] m L { tmps:=⟨vs⟩++Array.replicate (n-(⟨vs⟩:Array Value).size) undef,defers:=[] } w:=by
 refine⟨?_,?_,rfl,hs⟩
 ·simp;omega
 ·exact eJ
theorem rec_idle (a b c:Nat) (m:Mem) (L:List Item) (w:World) (hs:St m w L) :
  CallsD Tryz.prog 29 ⟨[.pointer (some ⟨a,0,none⟩),.pointer (some ⟨b,0,none⟩),.pointer (some ⟨c,0,none⟩)]⟩ .returning w fun e u' w'=>∃ v,e = .returned v∧u' = .returning∧St m w' L:=by
 refine callsD_of_wpS Tryz.func29 rfl fun c₀ cs hu=>?_;have h0:=start_ok (P:=Tryz.prog) (vs:=[.pointer (some ⟨a,0,none⟩),.pointer (some ⟨b,0,none⟩),.pointer (some ⟨c,0,none⟩)]) (n:=20) (N:=20) (bF _) hs;have hrp:recPair (c₀::cs)=(.nilIface,c₀::cs):=ow;have hc:({ c₀ with mode:=.returning }:Frame)=c₀:=by rw[←hu]
 apply wpS_seq;refine lZ ?_;show Code.wpS _ _ _ _ _ _;rw[←hc];refine wpS_TC (R:=Ret (.tuple ⟨[]⟩) m L) ?_ ((h0.put (d:=6) rfl .nilIface).put (d:=3) rfl .nilIface) ?_
 ·exact iT
 ·exact fO
theorem rec_fault (a b c:Nat) (m:Mem) (L:List Item) (w:World) (x:Int) (va vb vc:List Value) (ha:va.length=4) (hb:vb.length=1) (hcl:vc.length=1) (hs:St m w (.cells a 0 va::.cells b 0 vb::.cells c 0 vc::L)) :
  CallsD Tryz.prog 29 ⟨[.pointer (some ⟨a,0,none⟩),.pointer (some ⟨b,0,none⟩),.pointer (some ⟨c,0,none⟩)]⟩ (.panicking [{ v:=.iface 60 (.agg ⟨[.int .i64 x]⟩),recovered:=false }]) w fun e u' w' =>
   ∃ v,e = .returned v∧u' = .panicking [{ v:=.iface 60 (.agg ⟨[.int .i64 x]⟩),recovered:=true }]∧St m w' (.cells a 0 [.int .i64 0,strV [],.int .i64 0,.slice none 0 0]::.cells b 0 [.int .i64 x]::.cells c 0 [.int .i64 3]::L):=by
 refine callsD_of_wpS Tryz.func29 rfl fun c₀ cs hu=>?_;have h0:=start_ok (P:=Tryz.prog) (vs:=[.pointer (some ⟨a,0,none⟩),.pointer (some ⟨b,0,none⟩),.pointer (some ⟨c,0,none⟩)]) (n:=20) (N:=20) (bF _) hs;have hrp:recPair (c₀::cs)=(.iface 60 (.agg ⟨[.int .i64 x]⟩),{ c₀ with mode:=.panicking [{ v:=.iface 60 (.agg ⟨[.int .i64 x]⟩),recovered:=true }] }::cs):=ow
 apply wpS_seq;refine lZ ?_;show Code.wpS _ _ _ _ _ _;obtain⟨v0,v1,v2,v3,rfl⟩:∃ v0 v1 v2 v3,va=[v0,v1,v2,v3]:=by
  match va,ha with
  | [v0,v1,v2,v3],_=>exact⟨_,_,_,_,rfl⟩
 obtain⟨vb,rfl⟩:=List.length_eq_one_iff.1 hb;obtain⟨vc,rfl⟩:=List.length_eq_one_iff.1 hcl;refine wpS_TC (R:=fun r m' L'=>r = .tuple ⟨[]⟩∧m'=m∧L' = .cells a 0 [.int .i64 0,strV [],.int .i64 0,.slice none 0 0]::.cells b 0 [.int .i64 x]::.cells c 0 [.int .i64 3]::L) ?_ ((h0.put (d:=6) rfl _).put (d:=3) rfl _) ?_
 ·refine uA ?_;refine lk ?_;refine qs rfl (OT.assertOk tab rfl rfl rfl rfl rfl ?_);refine uA ?_;refine aC tab (fun b4=>?_);refine jx ?_;refine aL [] df 6 [] (.cells b4 0 [.int .i64 x]::.cells a 0 [v0,v1,v2,v3]::.cells b 0 [vb]::.cells c 0 [vc]::L) (a9 _) ?_;refine cV tab uC uK [0,1] uK rfl ?_;refine DO.fork 2 [3] uK ⟨⟨_,rfl,rfl,rfl,?_⟩,⟨_,rfl,rfl,rfl,?_⟩,trivial⟩
  ·refine OT.loadL0 tab 0 rfl rfl rfl rfl rfl rfl ?_;refine jF ?_;refine af 3 ?_;refine aD 1 ?_;exact fc
  ·refine aD 1 ?_;refine jF ?_;refine af 2 ?_;refine OT.loadL0 tab 0 rfl rfl rfl rfl rfl rfl ?_;exact fc
 ·exact fO
end Go.Sep
namespace Go.Sep
open Go.Proofs
attribute [local irreducible] TC TO OT TCallX TCall DO DOt thenQ blockQ retQ At
def ParseE (a:PA) (m:Mem) (L:List Item):Ending→World→Prop
 | .returned v,w'=>∃ m' L',St m' w' L'∧Made m L (ParseR a) v m' L'
 | .panicked _,_=>False
 | .outgrown,_=>False
theorem parseE_end {P:Program} {fn:Func} {a:PA} {m m':Mem} {L:List Item} {ρ:Env} {tmps:Array Value} {w:World} {b2 b3 b4:Nat} {x:HTree} {L':List Item} (T:Tab P) {t2 t3 t4:TypeId}
  (hres:fn.results=⟨[.cell 2 t2,.cell 3 t3,.cell 4 t4]⟩) (hA:∀ i v,look ρ i=some v→tmps[i]? = some v) (h2:look ρ 2=some (.pointer (some ⟨b2,0,none⟩))) (h3:look ρ 3=some (.pointer (some ⟨b3,0,none⟩))) (h4:look ρ 4=some (.pointer (some ⟨b4,0,none⟩)))
  (l2:T.load t2 (treeC x) 0=some (treeV x)) (l3:T.load t3 [.int .i64 a.at_] 0=some (.int .i64 a.at_)) (l4:T.load t4 [.int .i64 a.e] 0=some (.int .i64 a.e))
  (hst:St m' w (.cells b2 0 (treeC x)::.cells b3 0 [.int .i64 a.at_]::.cells b4 0 [.int .i64 a.e]::L')) (hsub:L.Sublist L') (hm:m≤m') (hr:TreeRep m' x a.tree):Leaves P fn tmps (ParseE a m L) [] .returning w:=by
 refine⟨.tuple ⟨[treeV x,.int .i64 a.at_,.int .i64 a.e]⟩,?_,m',L,hst.sub ?_,hm,rfl,x,rfl,hr⟩
 ·have g2:=run_loadVar (P:=P) T (k:=0) (hst.cells (i:=0) rfl) l2;have g3:=run_loadVar (P:=P) T (k:=0) (hst.cells (i:=1) rfl) l3;have g4:=run_loadVar (P:=P) T (k:=0) (hst.cells (i:=2) rfl) l4;have e2:=hA 2 _ h2;have e3:=hA 3 _ h3;have e4:=hA 4 _ h4;unfold results;rw[hres,Array.mapM_eq_mapM_toList];simp[Sem.run_bind,Sem.run_map,e2,e3,e4,asAddr,g2,g3,g4]
 ·exact bY _ (bY _ (bY _ hsub))
theorem parse_law (hout:∀ l:List Tok,Ps.program l.length (tkF l) 0≠.out) (m:Mem) (L:List Item) (s:Str) (hE:Errs m):TCall Tryz.prog 14 ⟨[strV s]⟩ m L (Made m L (ParseR (parseD s))):=by
 have key:∀ w,St m w L→Calls Tryz.prog 14 ⟨[strV s]⟩ w (ParseE (parseD s) m L):=by
  intro w hst;have hll:=scanD_len s;refine calls_enterD Tryz.func14 rfl 31 rfl hst ?_;refine uA ?_;refine oA tab (fun b2=>?_);refine oA tab (fun b3=>?_);refine aC tab (fun b4=>?_);refine oC goes28 ((scan_law _ _ s hE).x ?_);rintro _ m1 _ ⟨hm1,rfl,sl,rfl,hsl⟩;refine uA ?_;refine aq 1 ?_;refine aq 0 ?_;refine j5 ?_;refine aY (fun he=>?_) (fun he=>?_)
  ·have hD:parseD s=⟨emptyT,((scanD s).at_:Int),(scanD s).e⟩:=by rw[parseD,if_neg he]
   refine TC.quiet ?_;refine aL [5] df 6 [.cells b4 0 [.int .i64 (scanD s).e]] (.cells b3 0 [.int .i64 ((scanD s).at_:Int)]::.cells b2 0 [.int .i64 0,strV [],.int .i64 0,.slice none 0 0]::L) (a9 _) ?_;refine kM ?_;refine ae (k:=0) 2 0 ?_;refine DO.fork 1 [3] uK ⟨⟨_,rfl,rfl,rfl,?_⟩,⟨_,rfl,rfl,rfl,?_⟩,trivial⟩
   ·refine OT.loadL0 tab 1 rfl rfl rfl rfl rfl rfl ?_;refine jF ?_;refine af 3 ?_;refine aD 2 ?_;exact eX
   ·refine aD 2 ?_;refine jF ?_;refine af 1 ?_;refine OT.loadL0 tab 1 rfl rfl rfl rfl rfl rfl ?_;exact eX
  ·have hD:parseD s=parseL s (scanD s).list:=by rw[parseD,if_pos he]
   rw[hD];generalize (scanD s).list=l at hsl hll;refine uA ?_;refine oB (fun bp=>?_);refine uA ?_;refine TO.defer rfl rfl rfl rfl rfl ?_;refine uA ?_;have hEk:(⟨s,sl,l,bp,l.length+1⟩:PE).Ok m1:=⟨hsl,hll,by show l.length+1≤_;omega,by show 1≤l.length+1;omega⟩
   have hG:=gw (mb:=m1) (E:=⟨s,sl,l,bp,l.length+1⟩) (3*l.length+4);have hP:=program_par (decl_par (hG.typ 0) (hG.block 0)) m1 (.cells b4 0 [.int .i64 (scanD s).e]::.cells b3 0 [.int .i64 ((scanD s).at_:Int)]::.cells b2 0 [.int .i64 0,strV [],.int .i64 0,.slice none 0 0]::L) 0 (cC _) hEk (cn _);have hpe:Ps.program l.length (tkF l) 0=Ps.progL (Ps.declP (l.length+1) (Ps.gr (l.length+1) (3*l.length+4)).typ (Ps.gr (l.length+1) (3*l.length+4)).block) (l.length+1) (PE.f ⟨s,sl,l,bp,l.length+1⟩) 0:=rfl;have hn:=hout l;rw[hpe]at hn;refine oC goes30 (cE (hP ?_) ?_ ?_)
   ·intro hb;unfold Ps.bind at hb;split at hb
    ·cases hb
    ·cases hb
    ·rename_i he';exact hn he'
   ·rintro v m2 L2 ⟨a,k',xs,h1,hm2,hk',⟨x,rfl,rfl,hrx⟩,rfl⟩;obtain⟨ds,hds,rfl⟩:∃ ds,Ps.program l.length (tkF l) 0 = .ok ds k'∧a = .mk 1 [] 0 ds:=by
     rw[hpe];unfold Ps.bind at h1;split at h1
     ·rename_i ds k'' he';injection h1 with h1 h2
      subst h2;exact⟨ds,he',h1.symm⟩
     ·cases h1
     ·cases h1
    replace hm1:=cD hm1 hm2;refine uA ?_;refine aq 3 ?_;refine aC tab (fun bl=>?_);refine jx ?_;refine qs rfl (OT.loadL0 tab 4 rfl rfl rfl rfl rfl rfl ?_);refine uA ?_;refine oC goes31 ((fits_law (.mk 1 [] 0 ds) m2 _ x bl 1 20000 hrx mw mw mw mw).x ?_);rintro _ _ _ ⟨rfl,⟨rfl,k1,k2,rfl⟩ | ⟨rfl,k1,n,rfl⟩⟩
    ·have hA2:parseL s l=⟨.mk 1 [] 0 ds,0,0⟩:=by
      rw[parseL,hds];exact if_pos ⟨by omega,by omega⟩
     refine uA ?_;refine qs rfl (OT.loadL0 tab 4 rfl rfl rfl rfl rfl rfl ?_);refine kb ?_;intro tmps w' hA hst';refine lI ?_;refine(rec_idle b2 b3 b4 _ _ w' hst').mono ?_;rintro e u' w2 ⟨v,rfl,rfl,hst2⟩;exact parseE_end (x:=x) tab rfl hA rfl rfl rfl rfl rfl rfl (hst2.perm (be pfr4 (bg _ (be pfr3 (bg _ pfr2))))) (bY _ (bY _ (bZ _))) hm1 hrx
    ·have hA2:parseL s l=⟨emptyT,0,4⟩:=by
      rw[parseL,hds];exact if_neg fun h=>k1 ⟨by omega,by omega⟩
     refine kb ?_;refine thenQ_r ?_;intro tmps w' hA hst';refine lI ?_;refine(rec_idle b2 b3 b4 _ _ w' hst').mono ?_;rintro e u' w2 ⟨v,rfl,rfl,hst2⟩;exact parseE_end (x:=⟨0,[],0,⟨none,0,0⟩⟩) tab rfl hA rfl rfl rfl rfl rfl rfl (hst2.perm (be pfr4 (bg _ (be pfr3 (bg _ pfr2))))) (bY _ (bY _ (bZ _))) hm1 (emptyT_rep _)
   ·rintro ch m2 L2 ⟨k',h',h1,hm2,hk',rfl,rfl⟩;have hA2:parseL s l=⟨emptyT,placeD s l k',3⟩:=by
     have:Ps.program l.length (tkF l) 0 = .bad k':=by
      rw[hpe];unfold Ps.bind at h1;split at h1
      ·cases h1
      ·rename_i he';injection h1 with h1
       rw[←h1];exact he'
      ·cases h1
     rw[parseL,this]
    replace hm1:=cD hm1 hm2
    repeat (first | refine thenQ_p ?_ | refine blockQ_p ?_)
    intro tmps w' hA hst';refine lI ?_;refine(rec_fault b2 b3 b4 m2 _ w' (placeD s l k') _ _ _ rfl rfl rfl (hst'.perm (be pfr3 (bg _ (be pfr2 (bg _ pfr1)))))).mono ?_;rintro e u' w2 ⟨v,rfl,rfl,hst2⟩;exact parseE_end (x:=⟨0,[],0,⟨none,0,0⟩⟩) tab rfl hA rfl rfl rfl rfl rfl rfl hst2 (bY _ (bZ _)) hm1 (emptyT_rep _)
 exact fW
end Go.Sep
namespace Go.Ps
open Go.Sep (Tree Str)
variable {α β:Type}
section
variable (M:Nat) (f:F)
structure Run (st:Bool) (k0:Nat) (p:Pp α):Prop where
 out:∀ k,k0≤k→k≤M→p f k≠.out
 ok:∀ k,k0≤k→k≤M→∀ a k',p f k = .ok a k'→k≤k'∧k'≤M∧(st=true→k<k')
end
section
variable {M:Nat} {f:F}
theorem Run.vac {st:Bool} {k0:Nat} {p:Pp α} (h:M<k0):Run M f st k0 p:=⟨fun k h1 h2=>mv,fun k h1 h2=>mv⟩
theorem Run.up {st:Bool} {k0 k1:Nat} {p:Pp α} (h:Run M f st k0 p) (hk:k0≤k1):Run M f st k1 p:=⟨fun k h1 h2=>h.out k mv h2,fun k h1 h2=>h.ok k mv h2⟩
theorem Run.lax {st:Bool} {k0:Nat} {p:Pp α} (h:Run M f st k0 p):Run M f false k0 p:=⟨h.out,fun k h1 h2 a k' h3=>⟨(h.ok k h1 h2 a k' h3).1,(h.ok k h1 h2 a k' h3).2.1,fun e=>mM⟩⟩
theorem Run.ret {k0:Nat} (a:α):Run M f false k0 (ret a):=⟨fun k _ _ h=>(by cases h),fun k h1 h2 a k' h=>(by injection h with _ h;subst h;exact⟨bF _,h2,fun e=>mM⟩)⟩
theorem Run.fail {st:Bool} {k0:Nat}:Run M f st k0 (fail:Pp α):=⟨fun k _ _ h=>(by cases h),fun k h1 h2 a k' h=>(by cases h)⟩
theorem Run.bind {s1 s2:Bool} {k0:Nat} {p:Pp α} {g:α→Pp β} (hp:Run M f s1 k0 p) (hg:∀ a,Run M f s2 (bif s1 then k0+1 else k0) (g a)):Run M f (s1||s2) k0 (bind p g):=by
 have hb:∀ k,k0≤k→k≤M→∀ a k1,p f k = .ok a k1→(bif s1 then k0+1 else k0)≤k1:=fun k h1 h2 a k1 hx=>by
  have:=hp.ok k h1 h2 a k1 hx;cases s1 with
  | true=>have:=this.2.2 rfl;show k0+1≤k1;omega
  | false=>show k0≤k1;omega
 refine⟨fun k h1 h2 h=>?_,fun k h1 h2 b k' h=>?_⟩
 ·unfold Ps.bind at h;cases hx:p f k with
  | ok a k1 =>
   simp only[hx]at h;exact(hg a).out k1 (hb k h1 h2 a k1 hx) (hp.ok k h1 h2 a k1 hx).2.1 h
  | bad k1=>simp only[hx]at h;cases h
  | out=>exact hp.out k h1 h2 hx
 ·unfold Ps.bind at h;cases hx:p f k with
  | ok a k1 =>
   simp only[hx]at h;have q1:=hp.ok k h1 h2 a k1 hx;have q2:=(hg a).ok k1 (hb k h1 h2 a k1 hx) q1.2.1 b k' h;refine⟨by omega,q2.2.1,fun e=>?_⟩;cases s1 with
   | true=>have:=q1.2.2 rfl;omega
   | false=>have:=q2.2.2 e;omega
  | bad k1=>simp only[hx]at h;cases h
  | out=>simp only[hx]at h;cases h
theorem Run.step {st:Bool} {k0:Nat} {A:Pp α} {k:Nat} (h:Run M f st (k0+1) A) (h1:k0≤k) (hlt:k<M):A f (k+1)≠.out∧∀ a k',A f (k+1) = .ok a k'→k<k'∧k'≤M :=
 ⟨h.out _ mv mv,fun a k' hx=>(by have:=h.ok _ mv mv a k' hx;omega)⟩
theorem isM_some {s:Str} {k:Nat} (h:isM s f k=true):f k≠none:=fun e=>by unfold isM at h;rw[e]at h;cases h
variable (hf:∀ i,M≤i→f i=none)
include hf
theorem at_lt {k:Nat} (h:f k≠none):k<M:=by
 rcases Nat.lt_or_ge k M with h1 | h1
 ·exact h1
 ·exact absurd (hf k h1) h
theorem Run.tok {s1 st:Bool} {k0:Nat} {s:Str} {A B:Pp α} (hA:Run M f s1 (k0+1) A) (hB:Run M f st k0 B):Run M f st k0 (tok s A B):=by
 refine⟨fun k h1 h2 h=>?_,fun k h1 h2 a k' h=>?_⟩
 ·unfold Ps.tok at h;cases hb:isM s f k with
  | true=>simp only[hb,cz]at h;exact(hA.step h1 (at_lt hf (isM_some hb))).1 h
  | false=>simp only[hb,cy]at h;exact hB.out k h1 h2 h
 ·unfold Ps.tok at h;cases hb:isM s f k with
  | true =>
   simp only[hb,cz]at h;have:=(hA.step h1 (at_lt hf (isM_some hb))).2 a k' h;exact iJ
  | false=>simp only[hb,cy]at h;exact hB.ok k h1 h2 a k' h
theorem Run.need {s1 st:Bool} {k0:Nat} {s:Str} {A:Pp α} (hA:Run M f s1 (k0+1) A):Run M f st k0 (need s A):=Run.tok hf hA Run.fail
theorem Run.tkn {s1 st:Bool} {k0:Nat} {c:Int} {A:Tk→Pp α} {B:Pp α} (hA:∀ t,Run M f s1 (k0+1) (A t)) (hB:Run M f st k0 B):Run M f st k0 (tkn c A B):=by
 refine⟨fun k h1 h2 h=>?_,fun k h1 h2 a k' h=>?_⟩
 ·unfold Ps.tkn at h;cases hx:f k with
  | none=>simp only[hx]at h;exact hB.out k h1 h2 h
  | some t =>
   cases hb:decide (t.kind=c)with
   | true=>simp only[hx,hb,cz]at h;exact((hA t).step h1 (at_lt hf (by rw[hx];exact fun e=>mM))).1 h
   | false=>simp only[hx,hb,cy]at h;exact hB.out k h1 h2 h
 ·unfold Ps.tkn at h;cases hx:f k with
  | none=>simp only[hx]at h;exact hB.ok k h1 h2 a k' h
  | some t =>
   cases hb:decide (t.kind=c)with
   | true =>
    simp only[hx,hb,cz]at h;have:=((hA t).step h1 (at_lt hf (by rw[hx];exact fun e=>mM))).2 a k' h;exact iJ
   | false=>simp only[hx,hb,cy]at h;exact hB.ok k h1 h2 a k' h
theorem Run.name {s1 st:Bool} {k0:Nat} {A:Str→Pp α} (hA:∀ t,Run M f s1 (k0+1) (A t)):Run M f st k0 (name A):=Run.tkn hf (fun t=>hA t.text) Run.fail
theorem Run.oneOf {s1 st:Bool} {k0:Nat} {ops:List Str} {A:Str→Pp α} {B:Pp α} (hA:∀ t,Run M f s1 (k0+1) (A t)) (hB:Run M f st k0 B):Run M f st k0 (oneOf ops A B):=by
 refine⟨fun k h1 h2 h=>?_,fun k h1 h2 a k' h=>?_⟩
 ·unfold Ps.oneOf at h;cases hx:ops.find? (fun s=>isM s f k)with
  | none=>simp only[hx]at h;exact hB.out k h1 h2 h
  | some t=>simp only[hx]at h;exact((hA t).step h1 (at_lt hf (isM_some (List.find?_some (p:=fun s=>isM s f k) hx)))).1 h
 ·unfold Ps.oneOf at h;cases hx:ops.find? (fun s=>isM s f k)with
  | none=>simp only[hx]at h;exact hB.ok k h1 h2 a k' h
  | some t =>
   simp only[hx]at h;have:=((hA t).step h1 (at_lt hf (isM_some (List.find?_some (p:=fun s=>isM s f k) hx)))).2 a k' h;exact iJ
omit hf
theorem Run.peek {st:Bool} {k0:Nat} {q:F→Nat→Bool} {A B:Pp α} (hA:Run M f st k0 A) (hB:Run M f st k0 B):Run M f st k0 (peek q A B):=by
 refine⟨fun k h1 h2 h=>?_,fun k h1 h2 a k' h=>?_⟩
 ·unfold Ps.peek at h;cases hb:q f k with
  | true=>simp only[hb,cz]at h;exact hA.out k h1 h2 h
  | false=>simp only[hb,cy]at h;exact hB.out k h1 h2 h
 ·unfold Ps.peek at h;cases hb:q f k with
  | true=>simp only[hb,cz]at h;exact hA.ok k h1 h2 a k' h
  | false=>simp only[hb,cy]at h;exact hB.ok k h1 h2 a k' h
include hf
theorem Run.commas {X:Pp α}:∀(j k0:Nat),M+1≤j+k0→Run M f true k0 X→Run M f true k0 (commas j X)
 | 0,k0,h,hX=>Run.vac mv
 | j+1,k0,h,hX=>by
  refine Run.bind (s2:=false) hX fun a=>Run.tok hf (s1:=true) ?_ (Run.ret _);exact Run.bind (s2:=false) (Run.commas j _ (by show M+1≤j+(k0+1+1);omega) (hX.up (by show k0≤k0+1+1;omega))) fun l=>Run.ret _
theorem Run.upto {X:Pp α} {s:Str}:∀(j k0:Nat),M+1≤j+k0→Run M f true k0 X→Run M f true k0 (upto j s X)
 | 0,k0,h,hX=>Run.vac mv
 | j+1,k0,h,hX=>by
  refine Run.tok hf (Run.ret _) (Run.bind (s2:=false) hX fun a=>?_);exact(Run.bind (s2:=false) (Run.upto j _ (by show M+1≤j+(k0+1);omega) (hX.up (by show k0≤k0+1;omega))) fun l=>Run.ret _).lax
theorem Run.loopB {X:Pp Tree} {ops:List Str}:∀(j k0:Nat) (n:Tree),M+1≤j+k0→Run M f true k0 X→Run M f false k0 (loopB j ops X n)
 | 0,k0,n,h,hX=>Run.vac mv
 | j+1,k0,n,h,hX=>by
  refine Run.oneOf hf (s1:=true) (fun op=>?_) (Run.ret _);exact Run.bind (s2:=false) (hX.up mv) fun m=>Run.loopB j _ _ (by show M+1≤j+(k0+1+1);omega) (hX.up (by show k0≤k0+1+1;omega))
theorem Run.binL {N:Nat} {U:Pp Tree} {k0:Nat} (hN:M+1≤N) (hU:Run M f true k0 U):∀ l,Run M f true k0 (binL N U l)
 | []=>hU
 | ops::rest=>Run.bind (s2:=false) (Run.binL hN hU rest) fun n=>Run.loopB hf N _ n (by show M+1≤N+(k0+1);omega) ((Run.binL hN hU rest).up (by show k0≤k0+1;omega))
theorem Run.inP {N:Nat} {s:Str} {X:Pp α} {k0:Nat} (hN:M+1≤N) (hX:Run M f true k0 X):Run M f true k0 (inP N s X):=by
 refine Run.tok hf (Run.ret _) (Run.bind (s2:=true) (Run.commas hf N k0 mv hX) fun l=>Run.need hf (Run.ret _))
theorem Run.results {N:Nat} {typ:Pp Tree} {k0:Nat} (hN:M+1≤N) (h:Run M f true k0 typ):Run M f false k0 (resultsP N typ):=by
 refine Run.tok hf (s1:=true) (Run.bind (s2:=true) (Run.commas hf N _ mv (h.up mv)) fun l=>Run.need hf (Run.ret _)) (Run.peek (Run.bind (s2:=false) h fun t=>Run.ret _).lax (Run.ret _))
theorem Run.sigLike {N:Nat} {kind:Int} {X typ:Pp Tree} {k0:Nat} (hN:M+1≤N) (hX:Run M f true (k0+1) X) (h:Run M f true (k0+1) typ):Run M f true k0 (sigLike N kind X typ) :=
 Run.need hf (s1:=true) (Run.bind (s2:=false) (Run.inP hf hN hX) fun ps=>Run.bind (s2:=false) (Run.results hf hN (h.up (by show k0+1≤k0+1+1;omega))) fun rs=>Run.ret _)
theorem Run.param {typ:Pp Tree} {k0:Nat} (h:Run M f true (k0+1) typ):Run M f true k0 (paramP typ):=Run.name hf (s1:=true) fun s=>Run.bind (s2:=false) h fun t=>Run.ret _
theorem Run.sig {N:Nat} {typ:Pp Tree} {k0:Nat} (hN:M+1≤N) (h:Run M f true (k0+1) typ):Run M f true k0 (sigP N typ):=Run.sigLike hf hN (Run.param hf (h.up mv)) h
structure GRun (g:Gr) (n k0:Nat):Prop where
 typ:3*M+1≤n+3*k0→Run M f true k0 g.typ
 block:3*M+1≤n+3*k0→Run M f true k0 g.block
 branch:3*M+1≤n+3*k0→Run M f true k0 g.branch
 unary:∀ b,3*M+1≤n+3*k0→Run M f true k0 (g.unary b)
 expr:∀ b,3*M+2≤n+3*k0→Run M f true k0 (g.expr b)
 stmt:3*M+3≤n+3*k0→Run M f true k0 g.stmt
omit hf
theorem Run.bret {s1:Bool} {k0:Nat} {p:Pp α} (g:α→β) (hp:Run M f s1 k0 p):Run M f s1 k0 (Ps.bind p fun a=>Ps.ret (g a)):=by
 have:=Run.bind (s2:=false) hp fun a=>Run.ret (g a)
 rwa [Bool.or_false]at this
theorem Run.bind1 {k0:Nat} {p:Pp α} {g:α→Pp β} (hp:Run M f true k0 p) (hg:∀ a,Run M f false (k0+1) (g a)):Run M f true k0 (Ps.bind p g):=Run.bind hp hg
include hf
theorem Run.tokIf {s1 st c:Bool} {k0:Nat} {s:Str} {A B:Pp α} (hA:Run M f s1 (k0+1) A) (hB:Run M f st k0 B):Run M f st k0 (tokIf c s A B):=by
 cases c with
 | true=>exact Run.tok hf hA hB
 | false=>exact hB
section
variable {N:Nat} (hN:M+1≤N)
include hN
theorem Run.typP {typ:Pp Tree} {k0:Nat} (h:Run M f true (k0+1) typ):Run M f true k0 (typP N typ) :=
 Run.tok hf (Run.bret _ h) (Run.tok hf (s1:=true) (Run.need hf (Run.bret _ (h.up mv))) (Run.tok hf (Run.sigLike hf hN (h.up mv) (h.up mv)) (Run.name hf fun s=>Run.ret _)))
omit hN in
theorem Run.fieldP {mb:Pp Tree} {k0:Nat} (h:Run M f true (k0+1) mb):Run M f true k0 (fieldP mb) :=
 Run.name hf (s1:=true) fun s=>Run.bind1 h fun t=>Run.need hf (s1:=false) (Run.ret _)
theorem Run.bodyP {kind:Int} {nm:Str} {mb:Pp Tree} {k0:Nat} (h:Run M f true (k0+1) mb):Run M f true k0 (bodyP N kind nm mb) :=
 Run.need hf (s1:=true) (Run.bret _ (Run.upto hf N _ mv (Run.fieldP hf (h.up mv))))
theorem Run.typeDeclP {typ:Pp Tree} {k0:Nat} (h:Run M f true (k0+1) typ):Run M f true k0 (typeDeclP N typ) :=
 Run.name hf (s1:=true) fun nm=>Run.tok hf (Run.bodyP hf hN (Run.sig hf hN (h.up mv))) (Run.need hf (Run.bodyP hf hN (h.up mv)))
theorem Run.declP {typ block:Pp Tree} {k0:Nat} (h:Run M f true (k0+1) typ) (hb:Run M f true (k0+1) block):Run M f true k0 (declP N typ block):=by
 refine Run.tok hf (Run.typeDeclP hf hN (h.up mv)) (Run.need hf (s1:=true) (Run.tok hf (s1:=true) ?_ ?_))
 ·refine Run.name hf (s1:=true) fun recv=>Run.need hf (s1:=true) (Run.name hf (s1:=true) fun of=>Run.need hf (s1:=true) (Run.name hf (s1:=true) fun nm=>?_));exact ie
 ·refine Run.name hf (s1:=true) fun nm=>?_;exact ie
theorem Run.blockP {stmt:Pp Tree} {k0:Nat} (h:Run M f true (k0+1) stmt):Run M f true k0 (blockP N stmt) :=
 Run.need hf (s1:=true) (Run.bret _ (Run.upto hf N _ mv h))
omit hN in
theorem Run.branchP {expr block branch:Pp Tree} {k0:Nat} (he:Run M f true (k0+1) expr) (hb:Run M f true (k0+1) block) (hr:Run M f true (k0+1) branch):Run M f true k0 (branchP expr block branch):=by
 refine Run.need hf (s1:=true) (Run.bind1 he fun c=>Run.lax (Run.bind1 (hb.up mv) fun b=>Run.tok hf (s1:=true) (Run.peek ?_ ?_) (Run.ret _)))
 ·exact Run.bret _ (hr.up mv)
 ·exact Run.bret _ (hb.up mv)
omit hf hN in
theorem Run.forP {expr block:Pp Tree} {k0:Nat} (he:Run M f true k0 expr) (hb:Run M f true k0 block):Run M f true k0 (forP expr block) :=
 Run.peek (Run.bret _ hb) (Run.bind1 he fun c=>(Run.bret _ (hb.up mv)).lax)
theorem Run.assignP {expr:Pp Tree} {left:List Tree} {k0:Nat} (he:Run M f true (k0+1) expr):Run M f false k0 (assignP N expr left):=by
 refine Run.tokIf hf (Run.bret _ (Run.commas hf N _ mv he)) (Run.tokIf hf (Run.bret _ (Run.commas hf N _ mv he)) ?_);cases isC1 left with
 | true=>exact Run.peek (Run.ret _) Run.fail
 | false=>exact Run.fail
theorem Run.simpleP {typ expr:Pp Tree} {k0:Nat} (h:Run M f true (k0+1) typ) (he:Run M f true k0 expr):Run M f true k0 (simpleP N typ expr):=by
 refine Run.tok hf (s1:=true) (Run.name hf (s1:=true) fun s=>Run.bind1 (h.up mv) fun t=>Run.tok hf (Run.bret _ (he.up mv)) (Run.ret _)) ?_;refine Run.tok hf (s1:=false) (Run.peek (Run.ret _) (Run.bret _ (Run.commas hf N _ mv (he.up mv))).lax) ?_;refine Run.tok hf (Run.ret _) (Run.tok hf (Run.ret _) ?_);exact Run.bind1 (Run.commas hf N _ mv he) fun l=>Run.assignP hf hN (he.up mv)
theorem Run.exprsP {s:Str} {expr:Pp Tree} {k0:Nat} (he:Run M f true k0 expr):Run M f true k0 (exprsP N s expr):=Run.inP hf hN he
omit hN
theorem Run.cutP {expr:Pp Tree} {num:Int} {ks:List Tree} {k0:Nat} (he:Run M f true (k0+1) expr):Run M f true k0 (cutP expr num ks) :=
 Run.need hf (s1:=true) (Run.tok hf (Run.ret _) (Run.bind1 he fun e=>Run.need hf (Run.ret _)))
theorem Run.indexP {expr:Pp Tree} {n:Tree} {k0:Nat} (he:Run M f true k0 expr):Run M f true k0 (indexP expr n) :=
 Run.peek (Run.cutP hf (he.up mv)) (Run.bind1 he fun e=>Run.tok hf (Run.ret _) (Run.cutP hf (he.up mv)).lax)
include hN
theorem Run.postP {expr:Pp Tree}:∀(j k0:Nat) (n:Tree),M+1≤j+k0→Run M f true (k0+1) expr→Run M f false k0 (postP N expr j n)
 | 0,k0,n,h,he=>Run.vac mv
 | j+1,k0,n,h,he=>by
  refine Run.tok hf (s1:=true) (Run.name hf fun s=>Run.postP j _ _ mv (he.up mv)) ?_;refine Run.tok hf (s1:=true) (Run.bind1 (Run.indexP hf he) fun t=>Run.postP j _ _ mv (he.up mv)) ?_;exact Run.tok hf (s1:=true) (Run.bind1 (Run.exprsP hf hN he) fun l=>Run.postP j _ _ mv (he.up mv)) (Run.ret _)
theorem Run.primP {typ block expr:Pp Tree} {h:Bool} {k0:Nat} (ht:Run M f true (k0+1) typ) (hb:Run M f true (k0+1) block) (he:Run M f true (k0+1) expr):Run M f true k0 (primP N typ block expr h):=by
 refine Run.tkn hf (fun t=>Run.ret _) (Run.tkn hf (fun t=>Run.ret _) (Run.tok hf (Run.ret _) (Run.tok hf (Run.ret _) (Run.tok hf (Run.ret _) ?_))));refine Run.tok hf (Run.bind1 he fun t=>Run.need hf (Run.ret _)) ?_;refine Run.tok hf (s1:=true) (Run.need hf (s1:=true) (Run.bind1 (ht.up mv) fun t=>Run.need hf (s1:=true) (Run.bret _ (Run.exprsP hf hN (he.up mv))))) ?_;refine Run.tok hf (s1:=true) (Run.bind1 (Run.sig hf hN (ht.up mv)) fun s=>(Run.bret _ (hb.up mv)).lax) ?_;refine Run.name hf (s1:=false) fun s=>?_;cases h with
 | true=>exact Run.ret _
 | false=>exact Run.tok hf (Run.bret _ (Run.exprsP hf hN (he.up mv))) (Run.ret _)
theorem GRun.all : ∀(n k0:Nat),GRun (M:=M) (f:=f) (gr N n) n k0
 | 0,k0=>⟨fun h=>Run.vac mv,fun h=>Run.vac mv,fun h=>Run.vac mv,fun b h=>Run.vac mv,fun b h=>Run.vac mv,fun h=>Run.vac mv⟩
 | n+1,k0=>by
  have IH:=GRun.all n;refine⟨fun h=>?_,fun h=>?_,fun h=>?_,fun b h=>?_,fun b h=>?_,fun h=>?_⟩
  ·exact Run.typP hf hN ((IH (k0+1)).typ mv)
  ·exact Run.blockP hf hN ((IH (k0+1)).stmt mv)
  ·exact Run.branchP hf ((IH (k0+1)).expr _ mv) ((IH (k0+1)).block mv) ((IH (k0+1)).branch mv)
  ·refine Run.oneOf hf (fun op=>Run.bret _ ((IH (k0+1)).unary b mv)) ?_;exact Run.bind1 (Run.primP hf hN ((IH (k0+1)).typ mv) ((IH (k0+1)).block mv) ((IH (k0+1)).expr _ mv)) fun t=>Run.postP hf hN N _ _ mv ((IH (k0+1+1)).expr _ mv)
  ·exact Run.binL hf hN ((IH k0).unary b mv) _
  ·refine Run.peek ((IH k0).block mv) (Run.peek ((IH k0).branch mv) (Run.tok hf (Run.forP ((IH (k0+1)).expr _ mv) ((IH (k0+1)).block mv)) ?_));exact Run.bind1 (Run.simpleP hf hN ((IH (k0+1)).typ mv) ((IH k0).expr _ mv)) fun s=>Run.need hf (Run.ret _)
theorem Run.declG {n k0:Nat} (h:3*M+1≤n+3*(k0+1)):Run M f true k0 (declG N n) :=
 Run.declP hf hN ((GRun.all hf hN n (k0+1)).typ h) ((GRun.all hf hN n (k0+1)).block h)
end
omit hf in
theorem Run.progL {decl:Pp Tree}:∀(j k0:Nat),M+1≤j+k0→Run M f true k0 decl→Run M f false k0 (progL decl j)
 | 0,k0,h,hd=>Run.vac mv
 | j+1,k0,h,hd=>by
  have hr:Run M f false k0 (Ps.bind decl fun a=>Ps.bind (Ps.progL decl j) fun l=>Ps.ret (a::l)):=(Run.bind1 hd fun a=>Run.bret _ (Run.progL j (k0+1) mv (hd.up mv))).lax;refine⟨fun k h1 h2 h=>?_,fun k h1 h2 a k' h=>?_⟩
  ·unfold Ps.progL at h;cases hb:(f k).isNone with
   | true=>simp only[hb,cz]at h;cases h
   | false=>simp only[hb,cy]at h;exact hr.out k h1 h2 h
  ·unfold Ps.progL at h;cases hb:(f k).isNone with
   | true=>simp only[hb,cz]at h;injection h with _ h;subst h;exact⟨bF _,h2,fun e=>mM⟩
   | false=>simp only[hb,cy]at h;exact hr.ok k h1 h2 a k' h
theorem Run.program : Run M f false 0 (program M):=Run.progL (M+1) 0 mv (Run.declG hf (bF _) mv)
end
end Go.Ps
namespace Go.Sep
theorem tkF_none (l:List Tok):∀ i,l.length≤i→tkF l i=none:=fun i h=>by unfold tkF;rw[List.getElem?_eq_none h]
theorem program_ne (l:List Tok):Ps.program l.length (tkF l) 0≠.out:=(Ps.Run.program (tkF_none l)).out 0 (bF _) (cn _)
end Go.Sep
namespace Go.Sep
open Go.Proofs Go.Ck
attribute [local irreducible] TC TO OT TCallX TCall DO DOt thenQ blockQ retQ At
def awT (x:Tree):Tree:=.mk 1 [] 0 [.mk 4 [109,97,105,110] 0 [.mk 7 [] 0 [],.mk 20 [] 0 [.mk 24 [] 0 [.mk 51 [] 0 [.mk 44 [112,114,105,110,116] 0 [],x]]]]]
def aT : Tree:=awT (.mk 40 [] 1 [])
def bT : Tree:=awT (.mk 43 [] 0 [])
theorem parse_sA : parseD sA=⟨aT,0,0⟩:=uK
theorem parse_sB : parseD sB=⟨bT,0,0⟩:=uK
theorem chk_aT : chkT aT=0:=uK
theorem chk_bT : chkT bT=5:=uK
theorem ends_aT : endsO aT=false:=uK
theorem wide_aT : aT.wide≤140737488355328:=by decide
theorem wide_bT : bT.wide≤140737488355328:=by decide
theorem awake5_law (m:Mem) (L:List Item) (hE:Errs m):TCall Tryz.prog 10 ⟨[]⟩ m L (Made m L fun r _=>r = .bool true):=by
 unfold TCall;refine ak Tryz.func10 38 ?_;refine oC goes14 ((parse_law program_ne _ _ sA hE).x ?_);rw[parse_sA];rintro _ m1 _ ⟨hm1,rfl,x,rfl,hx⟩;replace hx:TreeRep m1 x aT:=hx;refine uA ?_;refine aC tab (fun b1=>?_);refine jx ?_;refine oC goes14 ((parse_law program_ne _ _ sB (hE.mono hm1)).x ?_);rw[parse_sB];rintro _ m2 _ ⟨hm2,rfl,y,rfl,hy⟩;replace hy:TreeRep m2 y bT:=hy;refine uA ?_;refine aC tab (fun b4=>?_);refine jK ?_;refine oC goes15 ((Check_law aT wide_aT _ _ x (hx.mono hm2)).x ?_);rw[chk_aT];rintro _ m3 _ ⟨hm3,rfl,rfl⟩;refine uL ?_;refine oC goes15 ((Check_law bT wide_bT _ _ y (hy.mono hm3)).x ?_);rw[chk_bT];rintro _ m4 _ ⟨hm4,rfl,rfl⟩;refine uL ?_;refine oC goes12 ((Ends_law aT _ _ x ((hx.mono hm2).mono (cD hm3 hm4)) wide_aT).x ?_);rw[ends_aT];rintro _ m5 _ ⟨hm5,rfl,rfl⟩;refine uA ?_;refine ag (L':=L) ⟨cD hm1 (cD hm2 (cD hm3 (cD hm4 hm5))),rfl,rfl⟩
end Go.Sep
namespace Go.Ps
open Go.Sep (Tree Str)
variable {α β:Type}
theorem Good.bret {p:Pp α} {g:α→β} (hp:Good p):Good (Ps.bind p fun a=>Ps.ret (g a)):=hp.bind fun _=>Good.ret _
theorem Takes.bind {q:F→Nat→Bool} {p:Pp α} {g:α→Pp β} (hp:Takes q p) (hg:∀ a,Good (g a)):Takes q (Ps.bind p g):=fun f k hk=>by
 refine⟨fun b k' h=>?_,fun k' h=>?_⟩
 ·obtain⟨a,k1,h1,h2⟩:=bind_ok_iff h;have:=(hp f k hk).1 a k1 h1;have:=(hg a).le h2;omega
 ·rcases bind_bad_iff h with h | ⟨a,k1,h1,h2⟩
  ·exact(hp f k hk).2 k' h
  ·have:=(hp f k hk).1 a k1 h1;have:=(hg a).leb h2;omega
section
variable {N:Nat}
theorem Good.results {typ:Pp Tree} (h:Good typ) (ht:Takes begins typ):Good (resultsP N typ) :=
 Good.tok ((Good.commas h N).bind fun l=>Good.need (Good.ret _)) (Good.peek Loc.begins (Good.bret h) (Good.ret _) (.inr (ht.bind fun _=>Good.ret _)))
theorem Good.param {typ:Pp Tree} (h:Good typ):Good (paramP typ):=Good.name fun s=>Good.bret h
theorem Good.sigLike {kind:Int} {X typ:Pp Tree} (hX:Good X) (h:Good typ) (ht:Takes begins typ):Good (sigLike N kind X typ):=Good.need ((Good.inP hX).bind fun ps=>Good.bret (Good.results h ht))
theorem Good.sig {typ:Pp Tree} (h:Good typ) (ht:Takes begins typ):Good (sigP N typ):=Good.sigLike (Good.param h) h ht
theorem Good.typP {typ:Pp Tree} (h:Good typ) (ht:Takes begins typ):Good (typP N typ) :=
 Good.tok (Good.bret h) (Good.tok (Good.need (Good.bret h)) (Good.tok (Good.sigLike h h ht) (Good.name fun s=>Good.ret _)))
theorem Takes.typP {typ:Pp Tree} (h:Good typ) (ht:Takes begins typ):Takes begins (typP N typ):=fun f k hk=>by
 unfold Ps.typP;cases h1:isM [42] f k with
 | true=>exact Takes.tok (Good.bret h) f k h1
 | false =>
  rw[show Ps.tok [42] (Ps.bind typ fun t=>Ps.ret (.mk 11 [] 0 [t])) (Ps.tok [91] (Ps.need [93] (Ps.bind typ fun t=>Ps.ret (.mk 12 [] 0 [t]))) (Ps.tok [102,117,110,99] (Ps.sigLike N 13 typ typ) (Ps.name fun s=>Ps.ret (leaf 10 s)))) f k=Ps.tok [91] (Ps.need [93] (Ps.bind typ fun t=>Ps.ret (.mk 12 [] 0 [t]))) (Ps.tok [102,117,110,99] (Ps.sigLike N 13 typ typ) (Ps.name fun s=>Ps.ret (leaf 10 s))) f k by unfold Ps.tok;rw[h1];rfl];cases h2:isM [91] f k with
  | true=>exact Takes.tok (Good.need (Good.bret h)) f k h2
  | false =>
   rw[show Ps.tok [91] (Ps.need [93] (Ps.bind typ fun t=>Ps.ret (.mk 12 [] 0 [t]))) (Ps.tok [102,117,110,99] (Ps.sigLike N 13 typ typ) (Ps.name fun s=>Ps.ret (leaf 10 s))) f k=Ps.tok [102,117,110,99] (Ps.sigLike N 13 typ typ) (Ps.name fun s=>Ps.ret (leaf 10 s)) f k by unfold Ps.tok;rw[h2];rfl];cases h3:isM [102,117,110,99] f k with
   | true=>exact Takes.tok (Good.sigLike h h ht) f k h3
   | false =>
    rw[show Ps.tok [102,117,110,99] (Ps.sigLike N 13 typ typ) (Ps.name fun s=>Ps.ret (leaf 10 s)) f k=Ps.name (fun s=>Ps.ret (leaf 10 s)) f k by unfold Ps.tok;rw[h3];rfl];have h4:isK 1 f k=true:=by
     unfold Ps.begins at hk;rw[h1,h2,h3,Bool.or_false,Bool.or_false,Bool.or_false]at hk;exact hk
    unfold isK at h4;unfold Ps.name Ps.tkn;cases hx:f k with
    | none=>rw[hx]at h4;cases h4
    | some t =>
     rw[hx]at h4;simp only at h4;simp only[h4,cz];exact⟨fun a k' e=>by injection e with _ e;omega,fun k' e=>by cases e⟩
theorem Good.field {mb:Pp Tree} (h:Good mb):Good (fieldP mb):=Good.name fun s=>h.bind fun t=>Good.need (Good.ret _)
theorem Good.body {kind:Int} {nm:Str} {mb:Pp Tree} (h:Good mb):Good (bodyP N kind nm mb):=Good.need (Good.bret (Good.upto (Good.field h) N))
theorem Good.typeDecl {typ:Pp Tree} (h:Good typ) (ht:Takes begins typ):Good (typeDeclP N typ):=Good.name fun nm=>Good.tok (Good.body (Good.sig h ht)) (Good.need (Good.body h))
theorem Good.declP {typ block:Pp Tree} (h:Good typ) (ht:Takes begins typ) (hb:Good block):Good (declP N typ block) :=
 Good.tok (Good.typeDecl h ht) (Good.need (Good.tok
  (Good.name fun recv=>Good.need (Good.name fun of=>Good.need (Good.name fun nm=>(Good.sig h ht).bind fun s=>Good.bret hb)))
  (Good.name fun nm=>(Good.sig h ht).bind fun s=>Good.bret hb)))
theorem Good.blockP {stmt:Pp Tree} (h:Good stmt):Good (blockP N stmt):=Good.need (Good.bret (Good.upto h N))
theorem Good.branchP {expr block branch:Pp Tree} (he:Good expr) (hb:Good block) (hr:Good branch) (sb:Stops block):Good (branchP expr block branch) :=
 Good.need (he.bind fun c=>hb.bind fun b=>Good.tok (Good.peek (Loc.isM _) (Good.bret hr) (Good.bret hb) (.inl (Stops.bind sb))) (Good.ret _))
theorem Good.forP {expr block:Pp Tree} (he:Good expr) (hb:Good block) (se:Stops expr):Good (forP expr block) :=
 Good.peek (Loc.isM _) (Good.bret hb) (he.bind fun c=>Good.bret hb) (.inl (Stops.bind se))
theorem Good.assignP {expr:Pp Tree} {left:List Tree} (he:Good expr):Good (assignP N expr left):=by
 refine Good.tokIf (Good.bret (Good.commas he N)) (Good.tokIf (Good.bret (Good.commas he N)) ?_);cases isC1 left with
 | true=>exact Good.peek (Loc.isM _) (Good.ret _) Good.fail (.inl Stops.fail)
 | false=>exact Good.fail
theorem Good.simpleP {typ expr:Pp Tree} (h:Good typ) (he:Good expr) (se:Stops expr):Good (simpleP N typ expr) :=
 Good.tok (Good.name fun s=>h.bind fun t=>Good.tok (Good.bret he) (Good.ret _)) (Good.tok (Good.peek (Loc.isM _) (Good.ret _) (Good.bret (Good.commas he N)) (.inl (Stops.bind (Stops.commas se N))))
  (Good.tok (Good.ret _) (Good.tok (Good.ret _) ((Good.commas he N).bind fun l=>Good.assignP he))))
theorem Stops.simpleP {typ expr:Pp Tree} (se:Stops expr):Stops (simpleP N typ expr):=Stops.tok (Stops.tok (Stops.tok (Stops.tok (Stops.bind (Stops.commas se N)))))
theorem Good.exprsP {s:Str} {expr:Pp Tree} (he:Good expr):Good (exprsP N s expr):=Good.inP he
theorem Good.cutP {expr:Pp Tree} {num:Int} {ks:List Tree} (he:Good expr):Good (cutP expr num ks):=Good.need (Good.tok (Good.ret _) (he.bind fun e=>Good.need (Good.ret _)))
theorem Good.indexP {expr:Pp Tree} {n:Tree} (he:Good expr) (se:Stops expr):Good (indexP expr n) :=
 Good.peek (Loc.isM _) (Good.cutP he) (he.bind fun e=>Good.tok (Good.ret _) (Good.cutP he)) (.inl (Stops.bind se))
theorem Good.postP {expr:Pp Tree} (he:Good expr) (se:Stops expr):∀(j:Nat) (n:Tree),Good (postP N expr j n)
 | 0,_=>Good.dry
 | j+1,n=>Good.tok (Good.name fun s=>Good.postP he se j _) (Good.tok ((Good.indexP he se).bind fun t=>Good.postP he se j _) (Good.tok ((Good.exprsP he).bind fun l=>Good.postP he se j _) (Good.ret _)))
theorem Good.primP {typ block expr:Pp Tree} {h:Bool} (gt:Good typ) (ht:Takes begins typ) (hb:Good block) (he:Good expr):Good (primP N typ block expr h):=by
 refine Good.tkn (fun t=>Good.ret _) (Good.tkn (fun t=>Good.ret _) (Good.tok (Good.ret _) (Good.tok (Good.ret _) (Good.tok (Good.ret _) ?_))));refine Good.tok (he.bind fun t=>Good.need (Good.ret _)) (Good.tok (Good.need (gt.bind fun t=>Good.need (Good.bret (Good.exprsP he)))) (Good.tok ((Good.sig gt ht).bind fun s=>Good.bret hb) (Good.name fun s=>?_)));cases h with
 | true=>exact Good.ret _
 | false=>exact Good.tok (Good.bret (Good.exprsP he)) (Good.ret _)
theorem Stops.primP {typ block expr:Pp Tree} {h:Bool}:Stops (primP N typ block expr h):=Stops.tkn (Stops.tkn (Stops.tok (Stops.tok (Stops.tok (Stops.tok (Stops.tok (Stops.tok Stops.name)))))))
theorem Good.loopB {X:Pp Tree} {ops:List Str} (h:Good X):∀(j:Nat) (n:Tree),Good (loopB j ops X n)
 | 0,_=>Good.dry
 | j+1,n=>Good.oneOf (fun op=>h.bind fun m=>Good.loopB h j _) (Good.ret _)
theorem Good.binL {U:Pp Tree} (hU:Good U):∀ l,Good (binL N U l)
 | []=>hU
 | ops::rest=>(Good.binL hU rest).bind fun n=>Good.loopB (Good.binL hU rest) N n
end
structure GGood (g:Gr):Prop where
 typ:Good g.typ
 typ2:Takes begins g.typ
 block:Good g.block
 block2:Stops g.block
 stmt:Good g.stmt
 branch:Good g.branch
 expr:∀ b,Good (g.expr b)
 expr2:∀ b,Stops (g.expr b)
 unary:∀ b,Good (g.unary b)
 unary2:∀ b,Stops (g.unary b)
theorem ggood (N:Nat):∀ n,GGood (gr N n)
 | 0=>⟨Good.dry,fun f k h=>⟨fun a k' e=>mM,fun k' e=>mM⟩,Good.dry,Stops.dry,Good.dry,Good.dry,fun _=>Good.dry,fun _=>Stops.dry,fun _=>Good.dry,fun _=>Stops.dry⟩
 | n+1=>by
  have IH:=ggood N n;have hu:∀ b,Good (unaryP N (gr N n) b):=fun b=>Good.oneOf (fun op=>Good.bret (IH.unary b)) ((Good.primP IH.typ IH.typ2 IH.block (IH.expr _)).bind fun t=>Good.postP (IH.expr _) (IH.expr2 _) N t);have su:∀ b,Stops (unaryP N (gr N n) b):=fun b=>Stops.oneOf (Stops.bind Stops.primP);refine⟨Good.typP IH.typ IH.typ2,Takes.typP IH.typ IH.typ2,Good.blockP IH.stmt,Stops.need,?_,Good.branchP (IH.expr _) IH.block IH.branch IH.block2,fun b=>Good.binL (IH.unary b) _,fun b=>Stops.binL (IH.unary2 b) _,hu,su⟩;have hs:Good (Ps.tok [102,111,114] (forP ((gr N n).expr true) (gr N n).block) (Ps.bind (Ps.simpleP N (gr N n).typ ((gr N n).expr false)) fun s=>Ps.need [59] (Ps.ret s))) :=
   Good.tok (Good.forP (IH.expr _) IH.block (IH.expr2 _)) ((Good.simpleP IH.typ (IH.expr _) (IH.expr2 _)).bind fun s=>Good.need (Good.ret _))
  have ss:Stops (Ps.tok [102,111,114] (forP ((gr N n).expr true) (gr N n).block) (Ps.bind (Ps.simpleP N (gr N n).typ ((gr N n).expr false)) fun s=>Ps.need [59] (Ps.ret s))):=Stops.tok (Stops.bind (Stops.simpleP (IH.expr2 _)));exact Good.peek (Loc.isM _) IH.block (Good.peek (Loc.isM _) IH.branch hs (.inl ss)) (.inl (Stops.peek (Loc.isM _) ss))
theorem Good.declG (N n:Nat):Good (declG N n):=Good.declP (ggood N n).typ (ggood N n).typ2 (ggood N n).block
end Go.Ps
namespace Go.Ps
open Go.Sep (Tree Str)
variable {α β:Type}
def Fn0 (f:F) (j:Nat):Prop:=f j≠none∧(isM [102,117,110,99] f j=true→isK 1 f (j+1)=false)
def Nf (p:Pp α):Prop:=∀(f:F) (k:Nat) (a:α) (k':Nat),p f k = .ok a k'→k≤k'∧∀ j,k≤j→j<k'→Fn0 f j
theorem Nf.ret (a:α):Nf (ret a):=fun f k b k' e=>by
 injection e with e1 e2
 subst e2;exact⟨bF _,fun j h1 h2=>by omega⟩
theorem Nf.fail : Nf (fail:Pp α):=fun f k b k' e=>by cases e
theorem Nf.dry : Nf (dry:Pp α):=fun f k b k' e=>by cases e
theorem Nf.bind {p:Pp α} {g:α→Pp β} (hp:Nf p) (hg:∀ a,Nf (g a)):Nf (Ps.bind p g):=fun f k b k' e=>by
 obtain⟨a,k1,h1,h2⟩:=bind_ok_iff e;obtain⟨h3,h4⟩:=hp f k a k1 h1;obtain⟨h5,h6⟩:=hg a f k1 b k' h2;refine⟨by omega,fun j hj1 hj2=>?_⟩;by_cases h:j<k1
 ·exact h4 j hj1 h
 ·exact h6 j mv hj2
theorem isM_text {s:Str} {f:F} {k:Nat} (h:isM s f k=true):∃ t,f k=some t∧t.text=s∧(t.kind=4∨t.kind=5):=by
 unfold isM at h;cases hf:f k with
 | none=>rw[hf]at h;cases h
 | some t =>
  rw[hf]at h;simp only[bj,bE,bw]at h;exact⟨t,rfl,h.2,h.1⟩
theorem fn_of {s:Str} (hs:s≠[102,117,110,99]) {f:F} {k:Nat} (h:isM s f k=true):Fn0 f k:=by
 obtain⟨t,h1,h2,-⟩:=isM_text h;refine⟨by rw[h1];simp,fun h3=>?_⟩;obtain⟨t',h4,h5,-⟩:=isM_text h3;rw[h1]at h4;injection h4 with h4
 exact absurd (h2.symm.trans ((congrArg Tk.text h4).trans h5)) hs
theorem Nf.step {A:Pp α} (hA:Nf A) {f:F} {k:Nat} {a:α} {k':Nat} (h0:Fn0 f k) (e:A f (k+1) = .ok a k'):k≤k'∧∀ j,k≤j→j<k'→Fn0 f j:=by
 obtain⟨h1,h2⟩:=hA f _ a k' e;refine⟨by omega,fun j hj1 hj2=>?_⟩;by_cases h:j=k
 ·subst h;exact h0
 ·exact h2 j mv hj2
theorem Nf.tok {s:Str} (hs:s≠[102,117,110,99]) {A B:Pp α} (hA:Nf A) (hB:Nf B):Nf (tok s A B):=fun f k a k' e=>by
 unfold Ps.tok at e;cases hb:isM s f k with
 | true=>simp only[hb,cz]at e;exact hA.step (fn_of hs hb) e
 | false=>simp only[hb,cy]at e;exact hB f k a k' e
theorem Nf.func {A B:Pp α} (hA:Nf A) (hA1:∀ f k a k',A f k = .ok a k'→isM [40] f k=true) (hB:Nf B):Nf (Ps.tok [102,117,110,99] A B):=fun f k a k' e=>by
 unfold Ps.tok at e;cases hb:isM [102,117,110,99] f k with
 | true =>
  simp only[hb,cz]at e;obtain⟨t,h1,-,-⟩:=isM_text hb;obtain⟨u,h2,-,h3⟩:=isM_text (hA1 _ _ _ _ e);refine hA.step ⟨by rw[h1];simp,fun _=>?_⟩ e;unfold isK;rw[h2];simp only[decide_eq_false_iff_not];omega
 | false=>simp only[hb,cy]at e;exact hB f k a k' e
theorem Nf.need {s:Str} (hs:s≠[102,117,110,99]) {A:Pp α} (hA:Nf A):Nf (need s A):=Nf.tok hs hA Nf.fail
theorem Nf.tkn {c:Int} (h4:c≠4) (h5:c≠5) {A:Tk→Pp α} {B:Pp α} (hA:∀ t,Nf (A t)) (hB:Nf B):Nf (tkn c A B):=fun f k a k' e=>by
 unfold Ps.tkn at e;cases hx:f k with
 | none=>simp only[hx]at e;exact hB f k a k' e
 | some t =>
  cases hb:decide (t.kind=c)with
  | true =>
   simp only[hx,hb,cz]at e;refine(hA t).step ⟨by rw[hx];simp,fun h3=>?_⟩ e;obtain⟨t',g1,-,g3⟩:=isM_text h3;rw[hx]at g1;injection g1 with g1
   subst g1;have:=of_decide_eq_true hb;omega
  | false=>simp only[hx,hb,cy]at e;exact hB f k a k' e
theorem Nf.name {A:Str→Pp α} (hA:∀ s,Nf (A s)):Nf (name A):=Nf.tkn mw mw (fun t=>hA t.text) Nf.fail
theorem Nf.oneOf {ops:List Str} (ho:[102,117,110,99]∉ops) {A:Str→Pp α} {B:Pp α} (hA:∀ s,Nf (A s)) (hB:Nf B):Nf (oneOf ops A B):=fun f k a k' e=>by
 unfold Ps.oneOf at e;cases hf:ops.find? (fun s=>isM s f k)with
 | none=>simp only[hf]at e;exact hB f k a k' e
 | some s =>
  simp only[hf]at e;have h1:=List.find?_some hf;have h2:=List.mem_of_find?_eq_some hf;exact(hA s).step (fn_of (fun h=>ho (h▸h2)) h1) e
theorem Nf.peek {q:F→Nat→Bool} {A B:Pp α} (hA:Nf A) (hB:Nf B):Nf (peek q A B):=fun f k a k' e=>by
 unfold Ps.peek at e;cases hq:q f k with
 | true=>simp only[hq,cz]at e;exact hA f k a k' e
 | false=>simp only[hq,cy]at e;exact hB f k a k' e
theorem Nf.tokIf {c:Bool} {s:Str} (hs:s≠[102,117,110,99]) {A B:Pp α} (hA:Nf A) (hB:Nf B):Nf (tokIf c s A B):=by
 unfold Ps.tokIf;cases c
 ·exact hB
 ·exact Nf.tok hs hA hB
theorem Nf.commas {X:Pp α} (hX:Nf X):∀ j,Nf (commas j X)
 | 0=>Nf.dry
 | j+1=>hX.bind fun a=>Nf.tok mw ((Nf.commas hX j).bind fun l=>Nf.ret _) (Nf.ret _)
theorem Nf.upto {s:Str} (hs:s≠[102,117,110,99]) {X:Pp α} (hX:Nf X):∀ j,Nf (upto j s X)
 | 0=>Nf.dry
 | j+1=>Nf.tok hs (Nf.ret _) (hX.bind fun a=>(Nf.upto hs hX j).bind fun l=>Nf.ret _)
section
variable {N:Nat}
theorem Nf.bret {p:Pp α} {g:α→β} (hp:Nf p):Nf (Ps.bind p fun a=>Ps.ret (g a)):=hp.bind fun _=>Nf.ret _
theorem Nf.inP {s:Str} (hs:s≠[102,117,110,99]) {X:Pp α} (hX:Nf X):Nf (inP N s X):=Nf.tok hs (Nf.ret _) ((Nf.commas hX N).bind fun l=>Nf.need hs (Nf.ret _))
theorem Nf.results {typ:Pp Tree} (h:Nf typ):Nf (resultsP N typ) :=
 Nf.tok mw ((Nf.commas h N).bind fun l=>Nf.need mw (Nf.ret _)) (Nf.peek (Nf.bret h) (Nf.ret _))
theorem Nf.param {typ:Pp Tree} (h:Nf typ):Nf (paramP typ):=Nf.name fun s=>Nf.bret h
theorem Nf.sigLike {kind:Int} {X typ:Pp Tree} (hX:Nf X) (h:Nf typ):Nf (sigLike N kind X typ):=Nf.need mw ((Nf.inP mw hX).bind fun ps=>Nf.bret (Nf.results h))
theorem sigLike_open {kind:Int} {X typ:Pp Tree} {f:F} {k:Nat} {a:Tree} {k':Nat} (e:sigLike N kind X typ f k = .ok a k'):isM [40] f k=true:=by
 unfold sigLike Ps.need Ps.tok at e;cases hb:isM [40] f k with
 | true=>rfl
 | false=>simp only[hb,cy]at e;cases e
theorem Nf.sig {typ:Pp Tree} (h:Nf typ):Nf (sigP N typ):=Nf.sigLike (Nf.param h) h
theorem Nf.typP {typ:Pp Tree} (h:Nf typ):Nf (typP N typ) :=
 Nf.tok mw (Nf.bret h) (Nf.tok mw (Nf.need mw (Nf.bret h)) (Nf.func (Nf.sigLike h h) (fun _ _ _ _ e=>sigLike_open e) (Nf.name fun s=>Nf.ret _)))
theorem Nf.field {mb:Pp Tree} (h:Nf mb):Nf (fieldP mb):=Nf.name fun s=>h.bind fun t=>Nf.need mw (Nf.ret _)
theorem Nf.body {kind:Int} {nm:Str} {mb:Pp Tree} (h:Nf mb):Nf (bodyP N kind nm mb):=Nf.need mw (Nf.bret (Nf.upto mw (Nf.field h) N))
theorem Nf.typeDecl {typ:Pp Tree} (h:Nf typ):Nf (typeDeclP N typ):=Nf.name fun nm=>Nf.tok mw (Nf.body (Nf.sig h)) (Nf.need mw (Nf.body h))
theorem Nf.blockP {stmt:Pp Tree} (h:Nf stmt):Nf (blockP N stmt):=Nf.need mw (Nf.bret (Nf.upto mw h N))
theorem Nf.branchP {expr block branch:Pp Tree} (he:Nf expr) (hb:Nf block) (hr:Nf branch):Nf (branchP expr block branch) :=
 Nf.need mw (he.bind fun c=>hb.bind fun b=>Nf.tok mw (Nf.peek (Nf.bret hr) (Nf.bret hb)) (Nf.ret _))
theorem Nf.forP {expr block:Pp Tree} (he:Nf expr) (hb:Nf block):Nf (forP expr block):=Nf.peek (Nf.bret hb) (he.bind fun c=>Nf.bret hb)
theorem Nf.assignP {expr:Pp Tree} {left:List Tree} (he:Nf expr):Nf (assignP N expr left):=by
 refine Nf.tokIf mw (Nf.bret (Nf.commas he N)) (Nf.tokIf mw (Nf.bret (Nf.commas he N)) ?_);cases isC1 left
 ·exact Nf.fail
 ·exact Nf.peek (Nf.ret _) Nf.fail
theorem Nf.simpleP {typ expr:Pp Tree} (h:Nf typ) (he:Nf expr):Nf (simpleP N typ expr) :=
 Nf.tok mw (Nf.name fun s=>h.bind fun t=>Nf.tok mw (Nf.bret he) (Nf.ret _))
  (Nf.tok mw (Nf.peek (Nf.ret _) (Nf.bret (Nf.commas he N)))
   (Nf.tok mw (Nf.ret _) (Nf.tok mw (Nf.ret _) ((Nf.commas he N).bind fun l=>Nf.assignP he))))
theorem Nf.cutP {expr:Pp Tree} {num:Int} {ks:List Tree} (he:Nf expr):Nf (cutP expr num ks):=Nf.need mw (Nf.tok mw (Nf.ret _) (he.bind fun e=>Nf.need mw (Nf.ret _)))
theorem Nf.indexP {expr:Pp Tree} {n:Tree} (he:Nf expr):Nf (indexP expr n):=Nf.peek (Nf.cutP he) (he.bind fun e=>Nf.tok mw (Nf.ret _) (Nf.cutP he))
theorem Nf.postP {expr:Pp Tree} (he:Nf expr):∀(j:Nat) (n:Tree),Nf (postP N expr j n)
 | 0,_=>Nf.dry
 | j+1,n=>Nf.tok mw (Nf.name fun s=>Nf.postP he j _) (Nf.tok mw ((Nf.indexP he).bind fun t=>Nf.postP he j t)
   (Nf.tok mw ((Nf.inP mw he).bind fun l=>Nf.postP he j _) (Nf.ret _)))
theorem Nf.primP {typ block expr:Pp Tree} {h:Bool} (ht:Nf typ) (hb:Nf block) (he:Nf expr):Nf (primP N typ block expr h):=by
 refine Nf.tkn mw mw (fun t=>Nf.ret _) (Nf.tkn mw mw (fun t=>Nf.ret _) (Nf.tok mw (Nf.ret _) (Nf.tok mw (Nf.ret _) (Nf.tok mw (Nf.ret _)
  (Nf.tok mw (he.bind fun t=>Nf.need mw (Nf.ret _)) (Nf.tok mw (Nf.need mw (ht.bind fun t=>Nf.need mw (Nf.bret (Nf.inP mw he))))
   (Nf.func ((Nf.sig ht).bind fun s=>Nf.bret hb) (fun f k a k' e=>?_) (Nf.name fun s=>?_))))))))
 ·obtain⟨a1,k1,h1,-⟩:=bind_ok_iff e;exact sigLike_open h1
 ·cases h
  ·exact Nf.tok mw (Nf.bret (Nf.inP mw he)) (Nf.ret _)
  ·exact Nf.ret _
theorem Nf.loopB {X:Pp Tree} {ops:List Str} (ho:[102,117,110,99]∉ops) (h:Nf X):∀(j:Nat) (n:Tree),Nf (loopB j ops X n)
 | 0,_=>Nf.dry
 | j+1,n=>Nf.oneOf ho (fun op=>h.bind fun m=>Nf.loopB ho h j _) (Nf.ret _)
theorem Nf.binL {U:Pp Tree} (hU:Nf U):∀ l:List (List Str),(∀ ops∈l,[102,117,110,99]∉ops)→Nf (binL N U l)
 | [],_=>hU
 | ops::rest,h=>(Nf.binL hU rest fun o ho=>h o nq).bind fun n=>Nf.loopB (h ops mx) (Nf.binL hU rest fun o ho=>h o nq) N n
end
structure GNf (g:Gr):Prop where
 typ:Nf g.typ
 block:Nf g.block
 stmt:Nf g.stmt
 branch:Nf g.branch
 expr:∀ b,Nf (g.expr b)
 unary:∀ b,Nf (g.unary b)
theorem gnf (N:Nat):∀ n,GNf (gr N n)
 | 0=>⟨Nf.dry,Nf.dry,Nf.dry,Nf.dry,fun _=>Nf.dry,fun _=>Nf.dry⟩
 | n+1=>by
  have IH:=gnf N n;refine⟨Nf.typP IH.typ,Nf.blockP IH.stmt,?_,Nf.branchP (IH.expr _) IH.block IH.branch,fun b=>Nf.binL (IH.unary b) _ mw,fun b=>?_⟩
  ·exact Nf.peek IH.block (Nf.peek IH.branch (Nf.tok mw (Nf.forP (IH.expr _) IH.block) ((Nf.simpleP IH.typ (IH.expr _)).bind fun s=>Nf.need mw (Nf.ret _))))
  ·exact Nf.oneOf mw (fun op=>Nf.bret (IH.unary b)) ((Nf.primP IH.typ IH.block (IH.expr _)).bind fun t=>Nf.postP (IH.expr _) N t)
theorem decl_nf {N n:Nat} {f:F} {k:Nat} {a:Tree} {k':Nat} (e:declG N n f k = .ok a k'):k<k'∧f k≠none∧∀ j,k<j→j<k'→Fn0 f j:=by
 have G:=gnf N n;unfold declG declP Ps.tok at e;have go:∀ {A:Pp Tree},Nf A→A f (k+1) = .ok a k'→f k≠none→k<k'∧f k≠none∧∀ j,k<j→j<k'→Fn0 f j:=fun hA h h0=>by
  obtain⟨h1,h2⟩:=hA f _ a k' h;exact⟨by omega,h0,fun j hj1 hj2=>h2 j mv hj2⟩
 cases hb:isM [116,121,112,101] f k with
 | true =>
  simp only[hb,cz]at e;obtain⟨t,h1,-⟩:=isM_text hb;exact go (Nf.typeDecl G.typ) e (by rw[h1];simp)
 | false =>
  simp only[hb,cy]at e;unfold Ps.need Ps.tok at e;cases hc:isM [102,117,110,99] f k with
  | true =>
   simp only[hc,cz]at e;obtain⟨t,h1,-⟩:=isM_text hc;refine go (A:=Ps.tok [40] _ _) (Nf.tok mw ?_ ?_) e (by rw[h1];simp)
   ·exact Nf.name fun recv=>Nf.need mw (Nf.name fun of=>Nf.need mw (Nf.name fun nm=>(Nf.sig G.typ).bind fun s=>Nf.bret G.block))
   ·exact Nf.name fun nm=>(Nf.sig G.typ).bind fun s=>Nf.bret G.block
  | false=>simp only[hc,cy]at e;cases e
end Go.Ps
namespace Go.Ps
open Go.Sep (Tree Str)
variable {α β:Type}
def Le (p p':Pp α):Prop:=∀ f k,p f k≠.out→p' f k=p f k
theorem Le.refl (p:Pp α):Le p p:=fun _ _ _=>rfl
theorem Le.dry {p:Pp α}:Le dry p:=fun _ _ h=>absurd rfl h
theorem Le.bind {p p':Pp α} {g g':α→Pp β} (hp:Le p p') (hg:∀ a,Le (g a) (g' a)):Le (bind p g) (bind p' g'):=fun f k h=>by
 unfold Ps.bind at h ⊢;cases hx:p f k with
 | ok a k1 =>
  simp only[hx]at h;rw[hp f k (by rw[hx];exact fun e=>by cases e),hx];exact hg a f k1 h
 | bad k1=>rw[hp f k (by rw[hx];exact fun e=>by cases e),hx]
 | out=>simp only[hx]at h;exact absurd rfl h
theorem Le.bret {p p':Pp α} {g:α→Pp β} (hp:Le p p'):Le (Ps.bind p g) (Ps.bind p' g):=Le.bind hp fun a=>Le.refl _
theorem Le.tok {s:Str} {A A' B B':Pp α} (hA:Le A A') (hB:Le B B'):Le (tok s A B) (tok s A' B'):=fun f k h=>by
 unfold Ps.tok at h ⊢;cases hb:isM s f k with
 | true=>simp only[hb,cz]at h ⊢;exact hA f _ h
 | false=>simp only[hb,cy]at h ⊢;exact hB f _ h
theorem Le.need {s:Str} {A A':Pp α} (hA:Le A A'):Le (need s A) (need s A'):=Le.tok hA (Le.refl _)
theorem Le.tkn {n:Int} {A A':Tk→Pp α} {B B':Pp α} (hA:∀ t,Le (A t) (A' t)) (hB:Le B B'):Le (tkn n A B) (tkn n A' B'):=fun f k h=>by
 unfold Ps.tkn at h ⊢;cases hx:f k with
 | none=>simp only[hx]at h ⊢;exact hB f k h
 | some t =>
  cases hb:decide (t.kind=n)with
  | true=>simp only[hx,hb,cz]at h ⊢;exact hA t f _ h
  | false=>simp only[hx,hb,cy]at h ⊢;exact hB f k h
theorem Le.name {A A':Str→Pp α} (hA:∀ t,Le (A t) (A' t)):Le (name A) (name A'):=Le.tkn (fun t=>hA t.text) (Le.refl _)
theorem Le.oneOf {ops:List Str} {A A':Str→Pp α} {B B':Pp α} (hA:∀ t,Le (A t) (A' t)) (hB:Le B B'):Le (oneOf ops A B) (oneOf ops A' B'):=fun f k h=>by
 unfold Ps.oneOf at h ⊢;cases hx:ops.find? (fun s=>isM s f k)with
 | none=>simp only[hx]at h ⊢;exact hB f k h
 | some t=>simp only[hx]at h ⊢;exact hA t f _ h
theorem Le.peek {q:F→Nat→Bool} {A A' B B':Pp α} (hA:Le A A') (hB:Le B B'):Le (peek q A B) (peek q A' B'):=fun f k h=>by
 unfold Ps.peek at h ⊢;cases hb:q f k with
 | true=>simp only[hb,cz]at h ⊢;exact hA f _ h
 | false=>simp only[hb,cy]at h ⊢;exact hB f _ h
theorem Le.tokIf {c:Bool} {s:Str} {A A' B B':Pp α} (hA:Le A A') (hB:Le B B'):Le (tokIf c s A B) (tokIf c s A' B'):=by
 cases c with
 | true=>exact Le.tok hA hB
 | false=>exact hB
theorem Le.commas {X X':Pp α} (h:Le X X'):∀ {j j':Nat},j≤j'→Le (commas j X) (commas j' X')
 | 0,_,_=>Le.dry
 | j+1,j'+1,hj=>Le.bind h fun a=>Le.tok (Le.bret (Le.commas h (Nat.le_of_succ_le_succ hj))) (Le.refl _)
theorem Le.upto {X X':Pp α} {s:Str} (h:Le X X'):∀ {j j':Nat},j≤j'→Le (upto j s X) (upto j' s X')
 | 0,_,_=>Le.dry
 | j+1,j'+1,hj=>Le.tok (Le.refl _) (Le.bind h fun a=>Le.bret (Le.upto h (Nat.le_of_succ_le_succ hj)))
section
variable {N N':Nat} (hN:N≤N')
include hN
theorem Le.inP {s:Str} {X X':Pp α} (h:Le X X'):Le (inP N s X) (inP N' s X'):=Le.tok (Le.refl _) (Le.bret (Le.commas h hN))
theorem Le.results {typ typ':Pp Tree} (h:Le typ typ'):Le (resultsP N typ) (resultsP N' typ'):=Le.tok (Le.bret (Le.commas h hN)) (Le.peek (Le.bret h) (Le.refl _))
omit hN in
theorem Le.param {typ typ':Pp Tree} (h:Le typ typ'):Le (paramP typ) (paramP typ'):=Le.name fun s=>Le.bret h
theorem Le.sigLike {kind:Int} {X X' typ typ':Pp Tree} (hX:Le X X') (h:Le typ typ'):Le (sigLike N kind X typ) (sigLike N' kind X' typ'):=Le.need (Le.bind (Le.inP hN hX) fun ps=>Le.bret (Le.results hN h))
theorem Le.sig {typ typ':Pp Tree} (h:Le typ typ'):Le (sigP N typ) (sigP N' typ'):=Le.sigLike hN (Le.param h) h
theorem Le.typP {typ typ':Pp Tree} (h:Le typ typ'):Le (typP N typ) (typP N' typ'):=Le.tok (Le.bret h) (Le.tok (Le.need (Le.bret h)) (Le.tok (Le.sigLike hN h h) (Le.refl _)))
omit hN in
theorem Le.field {mb mb':Pp Tree} (h:Le mb mb'):Le (fieldP mb) (fieldP mb'):=Le.name fun s=>Le.bret h
theorem Le.body {kind:Int} {nm:Str} {mb mb':Pp Tree} (h:Le mb mb'):Le (bodyP N kind nm mb) (bodyP N' kind nm mb'):=Le.need (Le.bret (Le.upto (Le.field h) hN))
theorem Le.typeDecl {typ typ':Pp Tree} (h:Le typ typ'):Le (typeDeclP N typ) (typeDeclP N' typ'):=Le.name fun nm=>Le.tok (Le.body hN (Le.sig hN h)) (Le.need (Le.body hN h))
theorem Le.declP {typ typ' block block':Pp Tree} (h:Le typ typ') (hb:Le block block'):Le (declP N typ block) (declP N' typ' block') :=
 Le.tok (Le.typeDecl hN h) (Le.need (Le.tok
  (Le.name fun recv=>Le.need (Le.name fun of=>Le.need (Le.name fun nm=>Le.bind (Le.sig hN h) fun s=>Le.bret hb)))
  (Le.name fun nm=>Le.bind (Le.sig hN h) fun s=>Le.bret hb)))
theorem Le.blockP {stmt stmt':Pp Tree} (h:Le stmt stmt'):Le (blockP N stmt) (blockP N' stmt'):=Le.need (Le.bret (Le.upto h hN))
omit hN in
theorem Le.branchP {expr expr' block block' branch branch':Pp Tree} (he:Le expr expr') (hb:Le block block') (hr:Le branch branch'):Le (branchP expr block branch) (branchP expr' block' branch') :=
 Le.need (Le.bind he fun c=>Le.bind hb fun b=>Le.tok (Le.peek (Le.bret hr) (Le.bret hb)) (Le.refl _))
omit hN in
theorem Le.forP {expr expr' block block':Pp Tree} (he:Le expr expr') (hb:Le block block'):Le (forP expr block) (forP expr' block'):=Le.peek (Le.bret hb) (Le.bind he fun c=>Le.bret hb)
theorem Le.assignP {expr expr':Pp Tree} {left:List Tree} (he:Le expr expr'):Le (assignP N expr left) (assignP N' expr' left) :=
 Le.tokIf (Le.bret (Le.commas he hN)) (Le.tokIf (Le.bret (Le.commas he hN)) (Le.refl _))
theorem Le.simpleP {typ typ' expr expr':Pp Tree} (h:Le typ typ') (he:Le expr expr'):Le (simpleP N typ expr) (simpleP N' typ' expr') :=
 Le.tok (Le.name fun s=>Le.bind h fun t=>Le.tok (Le.bret he) (Le.refl _)) (Le.tok (Le.peek (Le.refl _) (Le.bret (Le.commas he hN))) (Le.tok (Le.refl _) (Le.tok (Le.refl _) (Le.bind (Le.commas he hN) fun l=>Le.assignP hN he))))
theorem Le.exprsP {s:Str} {expr expr':Pp Tree} (he:Le expr expr'):Le (exprsP N s expr) (exprsP N' s expr'):=Le.inP hN he
omit hN in
theorem Le.cutP {expr expr':Pp Tree} {num:Int} {ks:List Tree} (he:Le expr expr'):Le (cutP expr num ks) (cutP expr' num ks):=Le.need (Le.tok (Le.refl _) (Le.bret he))
omit hN in
theorem Le.indexP {expr expr':Pp Tree} {n:Tree} (he:Le expr expr'):Le (indexP expr n) (indexP expr' n):=Le.peek (Le.cutP he) (Le.bind he fun e=>Le.tok (Le.refl _) (Le.cutP he))
theorem Le.postP {expr expr':Pp Tree} (he:Le expr expr'):∀ {j j':Nat} (n:Tree),j≤j'→Le (postP N expr j n) (postP N' expr' j' n)
 | 0,_,_,_=>Le.dry
 | j+1,j'+1,n,hj=>Le.tok (Le.name fun s=>Le.postP he _ (Nat.le_of_succ_le_succ hj)) (Le.tok (Le.bind (Le.indexP he) fun t=>Le.postP he _ (Nat.le_of_succ_le_succ hj)) (Le.tok (Le.bind (Le.exprsP hN he) fun l=>Le.postP he _ (Nat.le_of_succ_le_succ hj)) (Le.refl _)))
theorem Le.primP {typ typ' block block' expr expr':Pp Tree} {h:Bool} (ht:Le typ typ') (hb:Le block block') (he:Le expr expr'):Le (primP N typ block expr h) (primP N' typ' block' expr' h):=by
 refine Le.tkn (fun t=>Le.refl _) (Le.tkn (fun t=>Le.refl _) (Le.tok (Le.refl _) (Le.tok (Le.refl _) (Le.tok (Le.refl _) ?_))));refine Le.tok (Le.bret he) (Le.tok (Le.need (Le.bind ht fun t=>Le.need (Le.bret (Le.exprsP hN he)))) (Le.tok (Le.bind (Le.sig hN ht) fun s=>Le.bret hb) (Le.name fun s=>?_)));cases h with
 | true=>exact Le.refl _
 | false=>exact Le.tok (Le.bret (Le.exprsP hN he)) (Le.refl _)
omit hN in
theorem Le.loopB {X X':Pp Tree} {ops:List Str} (h:Le X X'):∀ {j j':Nat} (n:Tree),j≤j'→Le (loopB j ops X n) (loopB j' ops X' n)
 | 0,_,_,_=>Le.dry
 | j+1,j'+1,n,hj=>Le.oneOf (fun op=>Le.bind h fun m=>Le.loopB h _ (Nat.le_of_succ_le_succ hj)) (Le.refl _)
theorem Le.binL {U U':Pp Tree} (hU:Le U U'):∀ l,Le (binL N U l) (binL N' U' l)
 | []=>hU
 | ops::rest=>Le.bind (Le.binL hU rest) fun n=>Le.loopB (Le.binL hU rest) n hN
end
structure GLe (g g':Gr):Prop where
 typ:Le g.typ g'.typ
 block:Le g.block g'.block
 stmt:Le g.stmt g'.stmt
 branch:Le g.branch g'.branch
 expr:∀ b,Le (g.expr b) (g'.expr b)
 unary:∀ b,Le (g.unary b) (g'.unary b)
theorem gle {N N':Nat} (hN:N≤N'):∀ {n n':Nat},n≤n'→GLe (gr N n) (gr N' n')
 | 0,_,_=>⟨Le.dry,Le.dry,Le.dry,Le.dry,fun _=>Le.dry,fun _=>Le.dry⟩
 | n+1,n'+1,hn=>by
  have IH:=gle hN (Nat.le_of_succ_le_succ hn);refine⟨Le.typP hN IH.typ,Le.blockP hN IH.stmt,?_,Le.branchP (IH.expr _) IH.block IH.branch,fun b=>Le.binL hN (IH.unary b) _,fun b=>?_⟩
  ·exact Le.peek IH.block (Le.peek IH.branch (Le.tok (Le.forP (IH.expr _) IH.block) (Le.bret (Le.simpleP hN IH.typ (IH.expr _)))))
  ·exact Le.oneOf (fun op=>Le.bret (IH.unary b)) (Le.bind (Le.primP hN IH.typ IH.block (IH.expr _)) fun t=>Le.postP hN (IH.expr _) t hN)
theorem Le.declG {N N' n n':Nat} (hN:N≤N') (hn:n≤n'):Le (declG N n) (declG N' n'):=Le.declP hN (gle hN hn).typ (gle hN hn).block
end Go.Ps
namespace Go.Sep
theorem scanD_ok {s:Str} (h:(scanD s).e=0):s.length≤65536∧cutF (s.length+1) s 0 0 = .ok (scanD s).list:=by
 by_cases h1:65536<s.length
 ·rw[scanD,if_pos h1]at h;cases h
 have hD:scanD s = .of (cutF (s.length+1) s 0 0):=by rw[scanD,if_neg h1]
 refine⟨by omega,?_⟩;rw[hD]at h ⊢;cases hc:cutF (s.length+1) s 0 0 with
 | ok l=>rfl
 | error e =>
  obtain⟨a,e⟩:=e;rw[hc]at h;replace h:e=0:=h;have:=(cutF_err _ _ _ _ _ _ hc mv).2.2;omega
end Go.Sep
namespace Go.Sep
theorem placeD_range {s:Str} (h:(scanD s).e=0) (k:Nat):0≤placeD s (scanD s).list k∧placeD s (scanD s).list k≤s.length:=by
 unfold placeD;cases hx:(scanD s).list[k]? with
 | none=>exact⟨by simp only;omega,by simp only;omega⟩
 | some t =>
  have hm:=List.mem_of_getElem? hx;rcases scanD_cases s with ⟨_,e⟩ | ⟨_,l,e,_,_,h2,_⟩ | ⟨_,a,e',e,_⟩
  ·rw[e]at hm;cases hm
  ·rw[e]at hm;have:=h2 t hm;simp only;omega
  ·rw[e]at hm;cases hm
theorem parseD_cases (s:Str) :
  (∃ ds k,(scanD s).e=0∧Ps.program (scanD s).list.length (tkF (scanD s).list) 0 = .ok ds k∧(Tree.mk 1 [] 0 ds).size≤20000∧(Tree.mk 1 [] 0 ds).deep≤100∧parseD s=⟨.mk 1 [] 0 ds,0,0⟩) ∨
  (∃ a e,(e=4∨e=13)∧0≤a∧a≤(s.length:Int)∧parseD s=⟨emptyT,a,e⟩) ∨
  (∃ a,(scanD s).e≠0∧0≤a∧a≤(s.length:Int)∧parseD s=⟨emptyT,a,3⟩) ∨
  (∃ k,(scanD s).e=0∧Ps.program (scanD s).list.length (tkF (scanD s).list) 0 = .bad k∧parseD s=⟨emptyT,placeD s (scanD s).list k,3⟩):=by
 by_cases he:(scanD s).e=0
 ·rw[show parseD s=parseL s (scanD s).list by rw[parseD,if_pos he]];have hn:=program_ne (scanD s).list;rw[parseL];cases hp:Ps.program (scanD s).list.length (tkF (scanD s).list) 0 with
  | ok ds k =>
   simp only;by_cases hc:(Tree.mk 1 [] 0 ds).size≤20000∧(Tree.mk 1 [] 0 ds).deep≤100
   ·rw[if_pos hc];exact .inl ⟨ds,k,he,rfl,hc.1,hc.2,rfl⟩
   ·rw[if_neg hc];exact .inr (.inl ⟨0,4,.inl rfl,by omega,by omega,rfl⟩)
  | bad k=>exact .inr (.inr (.inr ⟨k,he,rfl,rfl⟩))
  | out=>exact absurd hp hn
 ·rw[show parseD s=⟨emptyT,((scanD s).at_:Int),(scanD s).e⟩ by rw[parseD,if_neg he]];rcases scanD_cases s with ⟨_,e⟩ | ⟨_,l,e,_⟩ | ⟨_,a,e',e,h1,h2⟩
  ·rw[e];exact .inr (.inl ⟨0,13,.inr rfl,by omega,by omega,rfl⟩)
  ·rw[e]at he;exact absurd rfl he
  ·rw[e];rcases h2 with rfl | ⟨rfl,_⟩
   ·exact .inr (.inl ⟨a,4,.inl rfl,by omega,by omega,rfl⟩)
   ·exact .inr (.inr (.inl ⟨a,by show(3:Int)≠0;decide,by omega,by omega,rfl⟩))
end Go.Sep
namespace Go.Sep
def valN : Str→Nat→Nat
 | [],a=>a
 | c::r,a=>valN r (a*10+(c.toNat-48))
structure Dec (s:Str) (n:Nat):Prop where
 pos:s≠[]
 dig:s.all dgt=true
 val:valN s 0=n
 lead:s.head?≠some 48∨s.length=1
structure DecAt (s:Str) (k n:Nat):Prop where
 dig:s.all dgt=true
 val:k*10 ^ s.length+valN s 0=n
 lead:k=0→s≠[]→s.head?≠some 48∨s.length=1
end Go.Sep
namespace Go.Sep
theorem blk_close : ∀(b:Bool) (r y:Str),blk b r=r.length→blk b (r++10::y)=r.length+1+blk false y
 | true,[],y,_=>by
  rw[bK,blk,if_pos mw];simp
 | false,[],y,_=>by
  rw[bK,blk,if_pos mw];simp
 | true,c::r,y,h=>by
  rw[blk]at h;rw[bJ,blk];simp only[a7]at h ⊢;split
  ·rename_i hc;rw[if_pos hc]at h;rw[blk_close false r y mv];omega
  ·rename_i hc;rw[if_neg hc]at h;rw[blk_close true r y mv];omega
 | false,c::r,y,h=>by
  rw[blk]at h;rw[bJ,blk];simp only[a7]at h ⊢;by_cases h1:isSp c=true
  ·rw[if_pos h1]at h ⊢;rw[blk_close false r y mv];omega
  ·rw[if_neg h1]at h ⊢;by_cases h2:c.toNat=47∧r.head? = some 47
   ·rw[if_pos h2]at h;have hh:(r++10::y).head? = some 47:=by
     exact jc
    rw[if_pos ⟨h2.1,hh⟩,blk_close true r y mv];omega
   ·rw[if_neg h2]at h;omega
theorem takeWhile_stop {p:UInt8→Bool} {c:UInt8} (hc:p c=false):∀(w y:Str),((w++c::y).takeWhile p).length=(w.takeWhile p).length
 | [],y=>by rw[bK,List.takeWhile_cons,if_neg (by rw[hc];decide)];rfl
 | x::w,y=>by
  rw[bJ,List.takeWhile_cons,List.takeWhile_cons];split
  ·simp[takeWhile_stop hc w y]
  ·rfl
theorem span_nl {p:UInt8→Bool} (hp:p 10=false) (w y:Str):spanOf p (w++10::y)=spanOf p w:=takeWhile_stop hp w y
theorem escX_app {r:Str} {b:UInt8} {n:Nat} (y:Str) (h:escX r=some (b,n)):escX (r++y)=some (b,n):=by
 match r,h with
 | x::z::r',h=>exact h
theorem escB_app {r:Str} {b:UInt8} {n:Nat} (y:Str) (h:escB r=some (b,n)):escB (r++y)=some (b,n):=by
 cases r with
 | nil=>cases h
 | cons c r =>
  rw[bJ];rw[escB]at h ⊢;by_cases h1:c.toNat=110
  ·rw[if_pos h1]at h ⊢;exact h
  ·rw[if_neg h1]at h ⊢;by_cases h2:c.toNat=116
   ·exact je
   ·rw[if_neg h2]at h ⊢;by_cases h3:c.toNat=34∨c.toNat=92
    ·rw[if_pos h3]at h ⊢;exact h
    ·rw[if_neg h3]at h ⊢;by_cases h4:c.toNat=120
     ·rw[if_pos h4]at h ⊢;exact escX_app y h
     ·exact iy
theorem lit_app (y:Str):∀(N:Nat) (r t:Str) (n:Nat),r.length<N→lit r=some (t,n)→lit (r++y)=some (t,n)
 | 0,_,_,_,h,_=>by omega
 | N+1,[],_,_,_,h=>by cases h
 | N+1,c::r,t,n,hN,h=>by
  simp only[a7]at hN;rw[bJ];by_cases h1:c.toNat=34
  ·rw[lit_quote h1]at h ⊢;exact h
  by_cases h2:c.toNat=10
  ·rw[lit_nl h2]at h;cases h
  by_cases h3:c.toNat=92
  ·cases he:escB r with
   | none=>rw[lit_esc_none h3 he]at h;cases h
   | some p =>
    obtain⟨b,k⟩:=p;rw[lit_esc_some h3 he]at h;cases hl:lit (r.drop k)with
    | none=>rw[hl]at h;cases h
    | some q =>
     obtain⟨t',n'⟩:=q;rw[hl]at h;have hk:=escB_pos he;rw[lit_esc_some h3 (escB_app y he),List.drop_append_of_le_length mv,lit_app y N (r.drop k) t' n' ng hl];exact h
  ·cases hl:lit r with
   | none=>rw[lit_one h1 h2 h3,hl]at h;cases h
   | some q =>
    obtain⟨t',n'⟩:=q;rw[lit_one h1 h2 h3,hl]at h;rw[lit_one h1 h2 h3,lit_app y N r t' n' mv hl];exact h
theorem mark_no10 : ∀ p∈markL,(10:UInt8)∉p:=by decide
theorem find_app {w p y:Str}:∀ l:List Str,(∀ q∈l,(10:UInt8)∉q)→l.find? (fun q=>prefixB q w)=some p→l.find? (fun q=>prefixB q (w++10::y))=some p
 | [],_,h=>by cases h
 | q::l,hl,h=>by
  by_cases hq:prefixB q w=true
  ·rw[List.find?_cons_of_pos (p:=fun q=>prefixB q w) hq]at h;cases h;refine List.find?_cons_of_pos (p:=fun q=>prefixB q (w++10::y)) (prefixB_iff.2 ?_);obtain⟨h1,h2⟩:=prefixB_iff.1 hq;exact⟨by rw[a6];omega,by rw[List.take_append_of_le_length h1];exact h2⟩
  ·rw[List.find?_cons_of_neg (p:=fun q=>prefixB q w) hq]at h;rw[List.find?_cons_of_neg (p:=fun q=>prefixB q (w++10::y))]
   ·exact find_app l (fun q h=>hl q (by simp[h])) h
   ·intro h3;obtain⟨h1,h2⟩:=prefixB_iff.1 h3;by_cases hle:q.length≤w.length
    ·rw[List.take_append_of_le_length hle]at h2;exact hq (prefixB_iff.2 ⟨hle,h2⟩)
    ·refine hl q mx ?_;rw[←h2];refine List.mem_of_getElem? (i:=w.length) ?_;rw[List.getElem?_take_of_lt mv,bD (bF _),Nat.sub_self];rfl
theorem tokD_app {w y:Str} {t:Tok} {n:Nat} (h:tokD w=some (t,n)):tokD (w++10::y)=some (t,n):=by
 have hle:=tokD_le h;cases w with
 | nil=>cases h
 | cons c r =>
  have hsl:spanOf lod (c::(r++10::y))=spanOf lod (c::r):=span_nl mw (c::r) y;have hsd:spanOf dgt (c::(r++10::y))=spanOf dgt (c::r):=span_nl mw (c::r) y;have htk:(c::(r++10::y)).take (spanOf lod (c::r))=(c::r).take (spanOf lod (c::r)):=by
   rw[←bJ,List.take_append_of_le_length (span_le lod _)]
  rw[bJ];by_cases h1:ltr c=true
  ·rw[tokD,if_pos h1]at h ⊢;rw[hsl,htk];exact h
  ·by_cases h2:dgt c=true
   ·rw[tokD,if_neg h1,if_pos h2]at h ⊢;rw[hsl,hsd,htk];exact h
   ·by_cases h3:c.toNat=34
    ·rw[tokD,if_neg h1,if_neg h2,if_pos h3]at h ⊢;cases hl:lit r with
     | none=>rw[hl]at h;cases h
     | some q =>
      obtain⟨t',n'⟩:=q;rw[hl]at h;rw[lit_app (10::y) (r.length+1) r t' n' mv hl];exact h
    ·rw[tokD,if_neg h1,if_neg h2,if_neg h3]at h ⊢;cases hf:markL.find? (fun p=>prefixB p (c::r))with
     | none=>rw[hf]at h;cases h
     | some p =>
      rw[hf]at h;have:=find_app (w:=c::r) (p:=p) (y:=y) markL mark_no10 hf;rw[bJ]at this;rw[this];exact h
structure Own1 (w:Str) (t:Tok) (n:Nat):Prop where
 tok:tokD w=some (t,n)
 blk:blk false w=0
 tail:Sep.blk false (w.drop n)=w.length-n
end Go.Sep
namespace Go.Sep
theorem blk_open : ∀(b:Bool) (r y:Str),blk b r<r.length→blk b (r++10::y)=blk b r
 | true,[],y,h=>by simp at h
 | false,[],y,h=>by simp at h
 | true,c::r,y,h=>by
  rw[blk]at h ⊢;rw[bJ,blk];simp only[a7]at h;split
  ·rename_i hc;rw[if_pos hc]at h;rw[blk_open false r y mv]
  ·rename_i hc;rw[if_neg hc]at h;rw[blk_open true r y mv]
 | false,c::r,y,h=>by
  rw[blk]at h ⊢;rw[bJ,blk];simp only[a7]at h;by_cases h1:isSp c=true
  ·rw[if_pos h1]at h ⊢;rw[if_pos h1,blk_open false r y mv]
  ·rw[if_neg h1]at h ⊢;rw[if_neg h1];by_cases h2:c.toNat=47∧r.head? = some 47
   ·rw[if_pos h2]at h;have hh:(r++10::y).head? = some 47:=by
     exact jc
    rw[if_pos ⟨h2.1,hh⟩,if_pos h2,blk_open true r y mv]
   ·rw[if_neg h2,if_neg];rintro⟨h3,h4⟩;cases r with
    | nil=>simp at h4
    | cons x r=>exact h2 ⟨h3,by simpa using h4⟩
def Tok.move (d:Nat) (t:Tok):Tok:=⟨t.kind,t.text,t.num,t.at_+d⟩
theorem cutF_move : ∀(f:Nat) (r:Str) (a0 k0:Nat) (l:List Tok),cutF f r a0 k0 = .ok l→∀(d k g:Nat),r.length<g→k≤20000→(k+l.length≤20000→cutF g r (a0+d) k = .ok (l.map (Tok.move d)))∧(20000<k+l.length→∃ a,cutF g r (a0+d) k = .error (a,4))
 | 0,r,a0,k0,l,h,_,_,_,_,_=>by cases h
 | f+1,r,a0,k0,l,h,d,k,0,hg,hk=>by omega
 | f+1,r,a0,k0,l,h,d,k,g+1,hg,hk=>by
  rw[cutF]at h;rw[cutF];by_cases h1:r.drop (blk false r)=[]
  ·rw[if_pos h1]at h ⊢;injection h with h
   subst h;exact⟨fun _=>rfl,fun hx=>by simp at hx;omega⟩
  rw[if_neg h1]at h ⊢;by_cases h2:k0=20000
  ·exact fV
  rw[if_neg h2]at h;cases ht:tokD (r.drop (blk false r))with
  | none=>rw[ht]at h;cases h
  | some p =>
   obtain⟨u,n⟩:=p;rw[ht]at h;simp only at h;have hn:=tokD_le ht;rw[bW]at hn;cases hc:cutF f ((r.drop (blk false r)).drop n) (a0+blk false r+n) (k0+1)with
   | error e=>rw[hc]at h;cases h
   | ok l' =>
    rw[hc]at h;simp only[Except.ok.injEq]at h;subst h;by_cases h3:k=20000
    ·rw[if_pos h3];exact⟨fun hx=>by simp at hx;omega,fun _=>⟨_,rfl⟩⟩
    rw[if_neg h3];obtain⟨g1,g2⟩:=cutF_move f _ _ _ _ hc d (k+1) g mY mv;rw[show a0+blk false r+n+d=a0+d+blk false r+n by omega]at g1 g2;simp only[a7];refine⟨fun hx=>?_,fun hx=>?_⟩
    ·rw[g1 mv];simp only[bH,Tok.move];rw[show((a0+d+blk false r:Nat):Int)=((a0+blk false r:Nat):Int)+(d:Int) by omega]
    ·exact jo
theorem cutF_join : ∀(f:Nat) (r:Str) (at_ k:Nat) (l:List Tok),cutF f r at_ k = .ok l→r.length<f→∀(y:Str) (l':List Tok) (k0 fy:Nat),cutF fy y 0 k0 = .ok l'→∀ g,(r++10::y).length<g→k≤20000 →
  (k+l.length+l'.length≤20000→cutF g (r++10::y) at_ k = .ok (l++l'.map (Tok.move (at_+r.length+1))))∧(20000<k+l.length+l'.length→∃ a,cutF g (r++10::y) at_ k = .error (a,4))
 | 0,r,at_,k,l,h,hf,y,l',k0,fy,hy,g,hg,hk=>by omega
 | f+1,r,at_,k,l,h,hf,y,l',k0,fy,hy,0,hg,hk=>by omega
 | f+1,r,at_,k,l,h,hf,y,l',k0,fy,hy,g+1,hg,hk=>by
  have hb:=blk_le false r;rw[a6,a7]at hg;rw[cutF]at h;by_cases h1:r.drop (blk false r)=[]
  ·rw[if_pos h1]at h;injection h with h
   subst h;have hbl:blk false r=r.length:=by
    have:=congrArg List.length h1;rw[bW]at this;simp at this;omega
   have hbc:=blk_close false r y hbl;have hd:(r++10::y).drop (r.length+1+blk false y)=y.drop (blk false y):=by
    exact gj
   have hm:=cutF_move fy y 0 k0 l' hy (at_+r.length+1) k (g+1) mv hk;have he:cutF (g+1) (r++10::y) at_ k=cutF (g+1) y (0+(at_+r.length+1)) k:=by
    rw[cutF,cutF,hbc,hd,show at_+(r.length+1+blk false y)=0+(at_+r.length+1)+blk false y by omega]
   rw[he];simpa using hm
  rw[if_neg h1]at h;have hlt:blk false r<r.length:=by
   exact il
  have hbo:=blk_open false r y hlt;have hd:(r++10::y).drop (blk false r)=r.drop (blk false r)++10::y:=by
   exact ig
  by_cases h2:k=20000
  ·exact fV
  rw[if_neg h2]at h;rw[cutF,hbo,hd,if_neg mx,if_neg h2];cases ht:tokD (r.drop (blk false r))with
  | none=>rw[ht]at h;cases h
  | some p =>
   obtain⟨u,n⟩:=p;rw[ht]at h;rw[tokD_app ht];simp only at h ⊢;have hn:=tokD_le ht;rw[bW]at hn;have hd2:(r.drop (blk false r)++10::y).drop n=(r.drop (blk false r)).drop n++10::y:=by
    exact gT
   rw[hd2];cases hc:cutF f ((r.drop (blk false r)).drop n) (at_+blk false r+n) (k+1)with
   | error e=>rw[hc]at h;cases h
   | ok l1 =>
    rw[hc]at h;simp only[Except.ok.injEq]at h;subst h;obtain⟨g1,g2⟩:=cutF_join f _ _ _ _ hc mY y l' k0 fy hy g (by rw[a6,bW,bW,a7];omega) mv;rw[bW,bW,show at_+blk false r+n+(r.length-blk false r-n)+1=at_+r.length+1 by omega]at g1;simp only[a7];refine⟨fun hx=>?_,fun hx=>?_⟩
    ·rw[g1 mv];rfl
    ·exact jo
end Go.Sep
namespace Go.Ps
open Go.Sep (Tree Str)
variable {α β:Type}
def Cl0 (p:Pp α):Prop:=∀(f f':F) (k:Nat) (a:α) (k':Nat),p f k = .ok a k'→(∀ i,i<k'→f' i=f i)→k≤k'∧p f' k = .ok a k'
def Cl1 (p:Pp α):Prop:=∀(f f':F) (k:Nat) (a:α) (k':Nat),p f k = .ok a k'→(∀ i,i<k'→f' i=f i)→k<k'∧p f' k = .ok a k'
theorem Cl0.ret (a:α):Cl0 (ret a):=fun f f' k b k' e hf=>by
 injection e with e1 e2
 subst e1 e2;exact⟨bF _,rfl⟩
theorem Cl1.dry : Cl1 (dry:Pp α):=fun f f' k b k' e hf=>by cases e
theorem Cl1.bind {p:Pp α} {g:α→Pp β} (hp:Good p) (hg:∀ a,Cl1 (g a)):Cl1 (Ps.bind p g):=fun f f' k b k' e hf=>by
 obtain⟨a,k1,h1,h2⟩:=bind_ok_iff e;obtain⟨h3,h4⟩:=hg a f f' k1 b k' h2 hf;refine⟨by have:=hp.le h1;omega,?_⟩;have h5:p f' k = .ok a k1:=hp.agree (q:=k1+1) (fun i hi=>hf i mv) h1 mv;rw[bind_ok h5,h4]
theorem Cl1.bret {p:Pp α} {g:α→β} (hp:Cl1 p):Cl1 (Ps.bind p fun a=>Ps.ret (g a)):=fun f f' k b k' e hf=>by
 obtain⟨a,k1,h1,h2⟩:=bind_ok_iff e;injection h2 with h2 h3
 subst h2 h3;obtain⟨h3,h4⟩:=hp f f' k a k1 h1 hf;exact⟨h3,by rw[bind_ok h4];rfl⟩
theorem isM_same {s:Str} {f f':F} {k:Nat} (h:f' k=f k):isM s f' k=isM s f k:=by unfold isM;rw[h]
theorem Cl1.tok {s:Str} {A B:Pp α} (hA:Cl0 A) (hB:Cl1 B):Cl1 (tok s A B):=fun f f' k a k' e hf=>by
 unfold Ps.tok at e ⊢;cases hb:isM s f k with
 | true =>
  simp only[hb,cz]at e;obtain⟨h1,h2⟩:=hA f f' _ a k' e hf;rw[isM_same (hf k mv),hb];exact⟨by omega,h2⟩
 | false =>
  simp only[hb,cy]at e;obtain⟨h1,h2⟩:=hB f f' _ a k' e hf;rw[isM_same (hf k mv),hb];exact⟨h1,h2⟩
theorem Cl1.upto {X:Pp α} {s:Str} (hX:Good X):∀ j,Cl1 (upto j s X)
 | 0=>Cl1.dry
 | j+1=>Cl1.tok (Cl0.ret _) (Cl1.bind hX fun a=>Cl1.bret (Cl1.upto hX j))
variable {N:Nat}
def Steps (d:Pp Tree) (f:F):Nat→List Tree→Nat→Prop
 | k,[],e=>k=e
 | k,a::l,e=>f k≠none∧∃ k1,d f k = .ok a k1∧Steps d f k1 l e
theorem steps_of {d:Pp Tree} {f:F}:∀(j k:Nat) (ds:List Tree) (e:Nat),progL d j f k = .ok ds e→Steps d f k ds e∧f e=none
 | 0,k,ds,e,h=>by cases h
 | j+1,k,ds,e,h=>by
  unfold progL at h;cases hx:f k with
  | none =>
   simp only[hx,Option.isNone_none,cz]at h;injection h with h1 h2
   subst h1 h2;exact⟨rfl,hx⟩
  | some t =>
   simp only[hx,Option.isNone_some,cy]at h;obtain⟨a,k1,h1,h2⟩:=bind_ok_iff h;obtain⟨l,k2,h3,h4⟩:=bind_ok_iff h2;injection h4 with h4 h5
   subst h4 h5;obtain⟨h6,h7⟩:=steps_of j k1 l k2 h3;exact⟨⟨by rw[hx];exact fun e=>mM,k1,h1,h6⟩,h7⟩
theorem Steps.run {d:Pp Tree} {f:F}:∀ {ds:List Tree} {k e:Nat} (j:Nat),Steps d f k ds e→f e=none→progL d j f k = .out∨progL d j f k = .ok ds e
 | _,_,_,0,_,_=>.inl rfl
 | [],k,e,j+1,h,he=>by
  obtain rfl:k=e:=h;unfold progL;rw[he];exact .inr rfl
 | a::l,k,e,j+1,⟨h1,k1,h2,h3⟩,he=>by
  have hn:(f k).isNone=false:=by cases hx:f k with
   | none=>exact absurd hx h1
   | some t=>rfl
  unfold progL;rw[hn];show(Ps.bind d fun a=>Ps.bind (progL d j) fun l=>Ps.ret (a::l)) f k = .out∨(Ps.bind d fun a=>Ps.bind (progL d j) fun l=>Ps.ret (a::l)) f k = .ok (a::l) e;rw[bind_ok h2];rcases Steps.run j h3 he with h | h
  ·exact .inl (bind_out h)
  ·exact .inr (by rw[bind_ok h];rfl)
end Go.Ps
namespace Go.Sep
end Go.Sep
namespace Go.Ps
open Go.Sep (Tree Str)
theorem tokB_t {α:Type} {s:Str} {A B:Pp α} {f:F} {k:Nat} (h:isM s f k=true):tok s A B f k=A f (k+1):=by unfold tok;rw[h];rfl
theorem tokB_f {α:Type} {s:Str} {A B:Pp α} {f:F} {k:Nat} (h:isM s f k=false):tok s A B f k=B f k:=by unfold tok;rw[h];rfl
def sig0 : Tree:=.mk 7 [] 0 []
def blk0 (ks:List Tree):Tree:=.mk 20 [] 0 ks
structure Head (f:F) (k:Nat) (t:Tk):Prop where
 ty:isM [116,121,112,101] f k=false
 fn:isM [102,117,110,99] f k=true
 nm:f (k+1)=some t
 kd:t.kind=1
 op:isM [40] f (k+2)=true
 cl:isM [41] f (k+3)=true
 br:isM [123] f (k+4)=true
theorem isM_two {s u:Str} (hs:s≠u) {f:F} {k:Nat} (h:isM s f k=true):isM u f k=false:=by
 obtain⟨t,h1,h2,-⟩:=isM_text h;unfold isM;rw[h1];simp only[Bool.and_eq_false_iff,decide_eq_false_iff_not];right;rw[h2];exact hs
theorem isK_one {s:Str} {f:F} {k:Nat} (h:isM s f k=true):isK 1 f k=false:=by
 obtain⟨t,h1,-,h3⟩:=isM_text h;unfold isK;rw[h1];simp only[decide_eq_false_iff_not];omega
theorem isM_name {s:Str} {f:F} {k:Nat} {t:Tk} (h:f k=some t) (hk:t.kind=1):isM s f k=false:=by
 unfold isM;rw[h];simp only[Bool.and_eq_false_iff,Bool.or_eq_false_iff,decide_eq_false_iff_not];left;omega
theorem head_decl {N n:Nat} {f:F} {k:Nat} {t:Tk} (h:Head f k t) :
  declG N (n+1) f k=bind (upto N [125] (gr N n).stmt) (fun l=>ret (.mk 4 t.text 0 [sig0,blk0 l])) f (k+5):=by
 unfold declG declP;rw[tokB_f h.ty,need,tokB_t h.fn,tokB_f (isM_name h.nm h.kd),name,tkn];simp only[h.nm,bQ h.kd,cz];have hs:sigP N (gr N (n+1)).typ f (k+2) = .ok sig0 (k+4):=by
  unfold sigP sigLike;rw[need,tokB_t h.op];have h1:inP N [41] (paramP (gr N (n+1)).typ) f (k+3) = .ok [] (k+4):=by
   unfold inP;rw[tokB_t h.cl];rfl
  rw[bind_ok h1];have h2:resultsP N (gr N (n+1)).typ f (k+4) = .ok [] (k+4):=by
   unfold resultsP;rw[tokB_f (isM_two mw h.br),peek_f]
   ·rfl
   ·unfold begins;rw[isK_one h.br,isM_two mw h.br,isM_two mw h.br,isM_two mw h.br];rfl
  rw[bind_ok h2];rfl
 rw[bind_ok hs];have hb:(gr N (n+1)).block f (k+4)=bind (upto N [125] (gr N n).stmt) (fun l=>ret (blk0 l)) f (k+5):=by
  show blockP N (gr N n).stmt f (k+4)=_;unfold blockP;rw[need,tokB_t h.br];rfl
 unfold bind;rw[hb];unfold bind;cases upto N [125] (gr N n).stmt f (k+5)<;>rfl
theorem two_heads {M:Nat} {f:F} {pm:Nat} {t u:Tk} (h0:Head f 0 t) (h1:Head f pm u) (hpm:0<pm) (hs:∀ j,j<pm+6→f j≠none) {a0 a1:Tree} {e:Nat} (hp:program M f 0 = .ok [a0,a1] e) :
  ∃ ks,a0 = .mk 4 t.text 0 [sig0,blk0 ks]∧upto (M+1) [125] (gr (M+1) (3*M+3)).stmt f 5 = .ok ks pm∧declG (M+1) (3*M+4) f pm = .ok a1 e∧f e=none:=by
 obtain⟨⟨g0,k1,g1,g2,k2,g3,g4⟩,g5⟩:=steps_of _ _ _ _ hp;replace g4:k2=e:=g4;subst g4;obtain⟨d1,-,d2⟩:=decl_nf g1;obtain⟨d3,-,d4⟩:=decl_nf g3;have hbad:Fn0 f pm→False:=fun hf=>by
  have:=hf.2 h1.fn;unfold isK at this;rw[h1.nm]at this;exact absurd h1.kd (of_decide_eq_false this)
 have e2:pm+6≤k2:=Nat.le_of_not_lt fun h=>hs _ h g5;have e1:k1=pm:=by
  rcases Nat.lt_trichotomy k1 pm with h | h | h
  ·exact(hbad (d4 pm h mv)).elim
  ·exact h
  ·exact(hbad (d2 pm hpm h)).elim
 subst e1;rw[show 3*M+4=3*M+3+1 by omega,head_decl h0]at g1;obtain⟨ks,k3,g6,g7⟩:=bind_ok_iff g1;injection g7 with g7 g8
 subst g8;exact⟨ks,g7.symm,g6,g3,g5⟩
theorem wrap_step {M:Nat} {f f':F} {pm:Nat} {t u:Tk} {ks:List Tree} {a1:Tree} {e:Nat} (h0:Head f' 0 t) (hu:upto (M+1) [125] (gr (M+1) (3*M+3)).stmt f 5 = .ok ks pm) (h1:declG (M+1) (3*M+4) f pm = .ok a1 e) (he:f e=none) (h5:5≤pm)
  (b5:isM [123] f' 5=true) (mid:∀ i,5≤i→i<pm→f' (i+1)=f i) (bc:isM [125] f' (pm+1)=true) (tl:∀ i,pm≤i→f' (i+2)=f i) (hn:f' 0≠none) (hn2:f' (pm+2)≠none) :
  upto (M+3) [125] (gr (M+3) (3*(M+2)+3)).stmt f' 5 = .ok [blk0 ks] (pm+2)∧declG (M+3) (3*(M+2)+4) f' (pm+2) = .ok a1 (e+2)∧f' (e+2)=none ∧
   (program (M+2) f' 0 = .out∨program (M+2) f' 0 = .ok [.mk 4 t.text 0 [sig0,blk0 [blk0 ks]],a1] (e+2)):=by
 have gU:Good (upto (M+3) [125] (gr (M+3) (3*M+7)).stmt):=Good.upto (ggood _ _).stmt _;have hu2:upto (M+3) [125] (gr (M+3) (3*M+7)).stmt f 5 = .ok ks pm:=by
  have:=Le.upto (s:=[125]) (gle (show M+1≤M+3 by omega) (show 3*M+3≤3*M+7 by omega)).stmt (show M+1≤M+3 by omega);rw[this f 5 (by rw[hu];simp),hu]
 have hin:upto (M+3) [125] (gr (M+3) (3*M+7)).stmt f' 6 = .ok ks (pm+1):=by
  have s1:=gU.shift f 5 0;have s2:=gU.shift f' 6 0;rw[cp]at s1 s2;rw[hu2]at s1;cases hr:upto (M+3) [125] (gr (M+3) (3*M+7)).stmt (fun i=>f (i+5)) 0 with
  | bad k=>rw[hr]at s1;cases s1
  | out=>rw[hr]at s1;cases s1
  | ok l k =>
   rw[hr]at s1;replace s1:Res.ok ks pm=Res.ok l (k+5):=s1;injection s1 with s1 s3
   subst s1;have hc:=(Cl1.upto (s:=[125]) (ggood (M+3) (3*M+7)).stmt (M+3) (fun i=>f (i+5)) (fun i=>f' (i+6)) 0 ks k hr (fun i hi=>mid (i+5) mv mv)).2;rw[hc]at s2;rw[s2];show Res.ok ks (k+6)=_
   congr 1
   omega
 have hst:(gr (M+3) (3*(M+2)+3)).stmt f' 5 = .ok (blk0 ks) (pm+1):=by
  rw[show 3*(M+2)+3=3*M+7+1+1 by omega];show stmtP (M+3) (gr (M+3) (3*M+7+1)) f' 5=_;unfold stmtP;rw[peek_t b5];show blockP (M+3) (gr (M+3) (3*M+7)).stmt f' 5=_;unfold blockP;rw[need,tokB_t b5,bind_ok hin];rfl
 have hout:upto (M+3) [125] (gr (M+3) (3*(M+2)+3)).stmt f' 5 = .ok [blk0 ks] (pm+2):=by
  show upto (M+2+1) _ _ _ _=_;rw[upto,tokB_f (isM_two mw b5),bind_ok hst];have:upto (M+2) [125] (gr (M+3) (3*(M+2)+3)).stmt f' (pm+1) = .ok [] (pm+2):=by
   show upto (M+1+1) _ _ _ _=_;rw[upto,tokB_t bc];rfl
  rw[bind_ok this];rfl
 have hd:declG (M+3) (3*(M+2)+4) f' (pm+2) = .ok a1 (e+2):=by
  have hl:=Le.declG (show M+1≤M+3 by omega) (show 3*M+4≤3*(M+2)+4 by omega);have h2:declG (M+3) (3*(M+2)+4) f pm = .ok a1 e:=by rw[hl f pm (by rw[h1];simp),h1]
  have gD:=Good.declG (M+3) (3*(M+2)+4);have s1:=gD.shift f pm 0;have s2:=gD.shift f' (pm+2) 0;rw[cp]at s1 s2;have hfe:(fun i=>f' (i+(pm+2)))=fun i=>f (i+pm):=funext fun i=>by
   rw[show i+(pm+2)=i+pm+2 by omega,tl _ mv]
  rw[h2]at s1;rw[s2,hfe];cases hr:declG (M+3) (3*(M+2)+4) (fun i=>f (i+pm)) 0 with
  | bad k=>rw[hr]at s1;cases s1
  | out=>rw[hr]at s1;cases s1
  | ok l k =>
   rw[hr]at s1;replace s1:Res.ok a1 e=Res.ok l (k+pm):=s1;injection s1 with s1 s3
   subst s1;show Res.ok a1 (k+(pm+2))=_
   congr 1
   omega
 have hpe:pm≤e:=(Good.declG _ _).le h1;have hne:f' (e+2)=none:=by rw[tl _ hpe,he]
 refine⟨hout,hd,hne,?_⟩;have hd0:declG (M+3) (3*(M+2)+4) f' 0 = .ok (.mk 4 t.text 0 [sig0,blk0 [blk0 ks]]) (pm+2):=by
  rw[show 3*(M+2)+4=3*(M+2)+3+1 by omega,head_decl h0];show bind _ _ f' 5=_;rw[bind_ok hout];rfl
 exact Steps.run _ ⟨hn,_,hd0,hn2,_,hd,rfl⟩ hne
end Go.Ps
namespace Go.Sep
def tkOf (t:Tok):Ps.Tk:=⟨t.kind,t.text,t.num⟩
theorem hex_nl (a b:UInt8):hexB 10 b=none∧hexB a 10=none:=by
 have h1:∀ x:Fin 256,hexB 10 (UInt8.ofNat x.val)=none:=nN;have h2:∀ x:Fin 256,hexB (UInt8.ofNat x.val) 10=none:=nN;have e1:=h1 ⟨b.toNat,b.toNat_lt⟩;have e2:=h2 ⟨a.toNat,a.toNat_lt⟩;simp only[UInt8.ofNat_toNat]at e1 e2;exact⟨e1,e2⟩
theorem ne_nl {c:UInt8} (h:¬c.toNat=10):(10:UInt8)≠c:=fun e=>h (by rw[←e];rfl)
theorem escB_nl {r:Str} {b:UInt8} {n:Nat} (h:escB r=some (b,n)):(10:UInt8)∉r.take n:=by
 cases r with
 | nil=>cases h
 | cons c r =>
  rw[escB]at h;have one:∀ {k:Nat},c.toNat=k→k≠10→(10:UInt8)∉(c::r).take 1:=fun h1 h2=>by
   exact iN
  by_cases h1:c.toNat=110
  ·rw[if_pos h1]at h;cases h;exact one h1 mw
  ·rw[if_neg h1]at h;by_cases h2:c.toNat=116
   ·rw[if_pos h2]at h;cases h;exact one h2 mw
   ·rw[if_neg h2]at h;by_cases h3:c.toNat=34∨c.toNat=92
    ·rw[if_pos h3]at h;cases h;rcases h3 with h3 | h3
     ·exact one h3 mw
     ·exact one h3 mw
    ·rw[if_neg h3]at h;by_cases h4:c.toNat=120
     ·rw[if_pos h4]at h
      match r,h with
      | a::b'::r',h =>
       replace h:(hexB a b').map (fun x=>(x,3))=some (b,n):=h;cases hx:hexB a b' with
       | none=>rw[hx]at h;cases h
       | some x =>
        rw[hx]at h;cases h;simp only[List.take_succ_cons,List.take_zero,List.mem_cons,List.not_mem_nil,or_false,not_or];refine⟨ne_nl mv,fun e=>?_,fun e=>?_⟩
        ·rw[←e,(hex_nl 0 b').1]at hx;cases hx
        ·rw[←e,(hex_nl a 0).2]at hx;cases hx
     ·exact iy
theorem litF_nl : ∀(f:Nat) (r t:Str) (n:Nat),litF f r=some (t,n)→(10:UInt8)∉r.take n
 | 0,_,_,_,h=>by cases h
 | f+1,[],_,_,h=>by cases h
 | f+1,c::r,t,n,h=>by
  rw[litF]at h;by_cases h1:c.toNat=34
  ·rw[if_pos h1]at h;cases h;exact iN
  rw[if_neg h1]at h;by_cases h2:c.toNat=10
  ·exact fV
  rw[if_neg h2]at h;by_cases h3:c.toNat=92
  ·rw[if_pos h3]at h;cases he:escB r with
   | none=>rw[he]at h;cases h
   | some p =>
    obtain⟨b,n1⟩:=p;rw[he]at h;cases hl:litF f (r.drop n1)with
    | none=>simp only[hl]at h;cases h
    | some q =>
     obtain⟨t2,n2⟩:=q;simp only[hl,cw,bu,Prod.mk.injEq]at h;obtain⟨-,rfl⟩:=h;have i1:=escB_nl he;have i2:=litF_nl f _ _ _ hl;rw[show n2+1+n1=(n1+n2)+1 by omega,List.take_succ_cons,List.take_add];simp only[List.mem_cons,List.mem_append,not_or];exact⟨ne_nl h2,i1,i2⟩
  ·rw[if_neg h3]at h;cases hl:litF f r with
   | none=>rw[hl]at h;cases h
   | some q =>
    obtain⟨t2,n2⟩:=q;rw[hl]at h;simp only[cw,bu,Prod.mk.injEq]at h;obtain⟨-,rfl⟩:=h;have i2:=litF_nl f _ _ _ hl;rw[List.take_succ_cons];simp only[List.mem_cons,not_or];exact⟨ne_nl h2,i2⟩
theorem spn_nl : ∀ s:Str,(10:UInt8)∉s.take (spanOf lod s)
 | []=>by simp
 | c::r=>by
  unfold spanOf;by_cases h:lod c=true
  ·have ih:=spn_nl r;rw[List.takeWhile_cons_of_pos h,a7,List.take_succ_cons];simp only[List.mem_cons,not_or];exact⟨fun e=>absurd (e▸h) mw,ih⟩
  ·rw[List.takeWhile_cons_of_neg h];simp
theorem cutF_same : ∀(f g:Nat) (r:Str) (a k:Nat),r.length<f→r.length<g→cutF f r a k=cutF g r a k
 | 0,g,r,a,k,h,_=>by omega
 | f+1,0,r,a,k,_,h=>by omega
 | f+1,g+1,r,a,k,h1,h2=>by
  rw[cutF,cutF];cases ht:tokD (r.drop (blk false r))with
  | none=>rfl
  | some p =>
   obtain⟨u,n⟩:=p;have hn:=tokD_le ht;rw[bW]at hn;simp only;rw[cutF_same f g _ _ _ mY mY]
theorem mark_nl : ∀ p∈markL,(10:UInt8)∉p:=by decide
theorem tokD_nl {s:Str} {t:Tok} {n:Nat} (h:tokD s=some (t,n)):(10:UInt8)∉s.take n:=by
 cases s with
 | nil=>cases h
 | cons c r =>
  have hs:=spn_nl (c::r);rw[tokD]at h;by_cases h1:ltr c=true
  ·rw[if_pos h1]at h;exact jv
  ·rw[if_neg h1]at h;by_cases h2:dgt c=true
   ·rw[if_pos h2]at h;split at h
    ·cases h
    ·exact jv
   ·rw[if_neg h2]at h;by_cases h3:c.toNat=34
    ·rw[if_pos h3]at h;cases hl:lit r with
     | none=>rw[hl]at h;cases h
     | some p =>
      obtain⟨t',n'⟩:=p;rw[hl]at h;simp only at h;split at h
      ·cases h
      ·cases h;rw[List.take_succ_cons];simp only[List.mem_cons,not_or];exact⟨ne_nl mv,litF_nl _ _ _ _ hl⟩
    ·rw[if_neg h3]at h;cases hf:markL.find? (fun p=>prefixB p (c::r))with
     | none=>rw[hf]at h;cases h
     | some p =>
      rw[hf]at h;cases h;have:=prefixB_len (p:=p) (s:=c::r) (List.find?_some (p:=fun p=>prefixB p (c::r)) hf);rw[this.2];exact mark_nl p (List.mem_of_find?_eq_some hf)
theorem tokD_cut {w y:Str} {t:Tok} {n:Nat} (h:tokD (w++10::y)=some (t,n)):n≤w.length∧tokD w=some (t,n):=by
 have hn:n≤w.length:=by
  refine Nat.le_of_not_lt fun hlt=>tokD_nl h ?_;rw[List.mem_take_iff_getElem];refine⟨w.length,by simp only[a6,a7];omega,by simp⟩
 have:=tokD_take h hn;rw[List.take_left]at this;exact⟨hn,this⟩
theorem cutF_any : ∀(f:Nat) (r:Str) (a k:Nat) (l:List Tok),cutF f r a k = .ok l→∀ a0 k0 g,k0≤k→k≤20000→r.length<g→∃ l0,cutF g r a0 k0 = .ok l0∧l0.map tkOf=l.map tkOf
 | 0,r,a,k,l,h,_,_,_,_,_,_=>by cases h
 | f+1,r,a,k,l,h,a0,k0,0,hk,hk2,hg=>by omega
 | f+1,r,a,k,l,h,a0,k0,g+1,hk,hk2,hg=>by
  rw[cutF]at h;rw[cutF];by_cases h1:r.drop (blk false r)=[]
  ·rw[if_pos h1]at h ⊢;injection h with h
   subst h;exact⟨[],rfl,rfl⟩
  rw[if_neg h1]at h ⊢;by_cases h2:k=20000
  ·exact fV
  rw[if_neg h2]at h;by_cases h3:k0=20000
  ·exfalso;omega
  rw[if_neg h3];cases ht:tokD (r.drop (blk false r))with
  | none=>rw[ht]at h;cases h
  | some p =>
   obtain⟨u,n⟩:=p;rw[ht]at h;simp only at h ⊢;have hn:=tokD_le ht;rw[bW]at hn;cases hc:cutF f ((r.drop (blk false r)).drop n) (a+blk false r+n) (k+1)with
   | error e=>rw[hc]at h;cases h
   | ok l1 =>
    rw[hc]at h;simp only[Except.ok.injEq]at h;subst h;obtain⟨l0,e1,e2⟩:=cutF_any f _ _ _ _ hc (a0+blk false r+n) (k0+1) g mv mv mY;rw[e1];exact⟨_,rfl,by simp only[bH,e2];rfl⟩
theorem cutF_split : ∀(g:Nat) (r y:Str) (at_ k:Nat) (l:List Tok),cutF g (r++10::y) at_ k = .ok l→(r++10::y).length<g→k≤20000→∃ l1 l2 a2 k2,cutF (r.length+1) r at_ k = .ok l1∧k2≤20000∧cutF (y.length+1) y a2 k2 = .ok l2∧l.map tkOf=l1.map tkOf++l2.map tkOf∧l.length=l1.length+l2.length
 | 0,r,y,at_,k,l,h,_,_=>by cases h
 | g+1,r,y,at_,k,l,h,hg,hk=>by
  have hb:=blk_le false r;rw[a6,a7]at hg;rw[cutF]at h;by_cases hbl:blk false r=r.length
  ·have hbc:=blk_close false r y hbl;have hd:(r++10::y).drop (r.length+1+blk false y)=y.drop (blk false y):=by
    exact gj
   rw[hbc,hd]at h;refine⟨[],l,at_+r.length+1,k,?_,hk,?_,by simp,by simp⟩
   ·rw[cutF,if_pos (by rw[hbl];simp)]
   ·rw[cutF_same (y.length+1) (g+1) y _ _ mv mv,cutF];rw[show at_+(r.length+1+blk false y)=at_+r.length+1+blk false y by omega]at h;exact h
  ·have hlt:blk false r<r.length:=mv;have hbo:=blk_open false r y hlt;have hd:(r++10::y).drop (blk false r)=r.drop (blk false r)++10::y:=by
    exact ig
   rw[hbo,hd,if_neg mx]at h;by_cases h2:k=20000
   ·exact fV
   rw[if_neg h2]at h;have h1:¬r.drop (blk false r)=[]:=fun e=>by
    have:=congrArg List.length e;rw[bW]at this;simp at this;omega
   cases ht:tokD (r.drop (blk false r)++10::y)with
   | none=>rw[ht]at h;cases h
   | some p =>
    obtain⟨u,n⟩:=p;rw[ht]at h;simp only at h;obtain⟨hn,ht2⟩:=tokD_cut ht;rw[bW]at hn;have hn1:=(tokD_le ht2).1;have hd2:(r.drop (blk false r)++10::y).drop n=(r.drop (blk false r)).drop n++10::y:=by
     exact gT
    rw[hd2]at h;cases hc:cutF g ((r.drop (blk false r)).drop n++10::y) (at_+blk false r+n) (k+1)with
    | error e=>rw[hc]at h;cases h
    | ok l0 =>
     rw[hc]at h;simp only[Except.ok.injEq]at h;subst h;obtain⟨l1,l2,a2,k2,g1,g2,g3,g4,g5⟩:=cutF_split g _ _ _ _ _ hc (by rw[a6,a7,bW,bW];omega) mv;have hlen:((r.drop (blk false r)).drop n).length+1≤r.length:=mY;have g1':cutF r.length ((r.drop (blk false r)).drop n) (at_+blk false r+n) (k+1) = .ok l1:=by
      rw[←g1];exact cutF_same _ _ _ _ _ mv mv
     refine⟨⟨u.kind,u.text,u.num,((at_+blk false r:Nat):Int)⟩::l1,l2,a2,k2,?_,g2,g3,?_,?_⟩
     ·rw[cutF,if_neg h1,if_neg h2,ht2];simp only;rw[g1']
     ·simp only[bH,bJ,g4]
     ·simp only[a7,g5];omega
theorem cutF_large : ∀(f:Nat) (r:Str) (at_ k a:Nat),cutF f r at_ k = .error (a,4)→r.length<f→∀(y:Str) (g:Nat),(r++10::y).length<g→cutF g (r++10::y) at_ k = .error (a,4)
 | 0,r,at_,k,a,h,hf,y,g,hg=>by omega
 | f+1,r,at_,k,a,h,hf,y,0,hg=>by omega
 | f+1,r,at_,k,a,h,hf,y,g+1,hg=>by
  have hb:=blk_le false r;rw[a6,a7]at hg;rw[cutF]at h;by_cases h1:r.drop (blk false r)=[]
  ·rw[if_pos h1]at h;cases h
  rw[if_neg h1]at h;have hlt:blk false r<r.length:=by
   exact il
  have hbo:=blk_open false r y hlt;have hd:(r++10::y).drop (blk false r)=r.drop (blk false r)++10::y:=by
   exact ig
  rw[cutF,hbo,hd,if_neg mx];by_cases h2:k=20000
  ·exact je
  rw[if_neg h2]at h ⊢;cases ht:tokD (r.drop (blk false r))with
  | none =>
   rw[ht]at h;simp only[Except.error.injEq,Prod.mk.injEq]at h;exact absurd h.2 mw
  | some p =>
   obtain⟨u,n⟩:=p;rw[ht]at h;rw[tokD_app ht];simp only at h ⊢;have hn:=tokD_le ht;rw[bW]at hn;have hd2:(r.drop (blk false r)++10::y).drop n=(r.drop (blk false r)).drop n++10::y:=by
    exact gT
   rw[hd2];cases hc:cutF f ((r.drop (blk false r)).drop n) (at_+blk false r+n) (k+1)with
   | ok l=>rw[hc]at h;cases h
   | error e =>
    rw[hc]at h;simp only[Except.error.injEq]at h;subst h;rw[cutF_large f _ _ _ _ hc mY y g (by rw[a6,bW,bW,a7];omega)]
abbrev tks (s:Str):List Ps.Tk:=(scanD s).list.map tkOf
theorem scan_of {s:Str} {l:List Tok} (hs:s.length≤65536) (h:cutF (s.length+1) s 0 0 = .ok l):(scanD s).e=0∧tks s=l.map tkOf∧(scanD s).list.length=l.length:=by
 have e:scanD s = .of (.ok l):=by rw[scanD,if_neg mv,h]
 rw[tks,e];exact⟨rfl,rfl,rfl⟩
theorem scan_split {r y:Str} (h:(scanD (r++10::y)).e=0):(scanD r).e=0∧(scanD y).e=0∧tks (r++10::y)=tks r++tks y:=by
 obtain⟨h1,h2⟩:=scanD_ok h;rw[a6,a7]at h1;obtain⟨l1,l2,a2,k2,g1,g2,g3,g4,-⟩:=cutF_split _ _ _ _ _ _ h2 mv mv;obtain⟨l3,g5,g6⟩:=cutF_any _ _ _ _ _ g3 0 0 (y.length+1) mv g2 mv;obtain⟨e1,e2,-⟩:=scan_of mv g1;obtain⟨e3,e4,-⟩:=scan_of mv g5;exact⟨e1,e3,by rw[tks,g4,e2,e4,g6]⟩
theorem move_tk (d:Nat) (l:List Tok):(l.map (Tok.move d)).map tkOf=l.map tkOf:=by
 rw[List.map_map];rfl
theorem scan_two {r y:Str} (h1:(scanD r).e=0) (h2:(scanD y).e=0) (hl:r.length+y.length<65536) :
  ((tks r).length+(tks y).length≤20000→(scanD (r++10::y)).e=0∧tks (r++10::y)=tks r++tks y)∧(20000<(tks r).length+(tks y).length→(scanD (r++10::y)).e=4):=by
 obtain⟨a1,a2⟩:=scanD_ok h1;obtain⟨b1,b2⟩:=scanD_ok h2;obtain⟨g1,g2⟩:=cutF_join _ _ _ _ _ a2 mv y _ _ _ b2 ((r++10::y).length+1) mv mv;have hlen:(r++10::y).length≤65536:=by rw[a6,a7];omega
 simp only[tks,bN];refine⟨fun hx=>?_,fun hx=>?_⟩
 ·obtain⟨e1,e2,-⟩:=scan_of hlen (g1 mv);refine⟨e1,?_⟩;rw[show(scanD (r++10::y)).list.map tkOf=_ from e2,cu,move_tk]
 ·obtain⟨a,ha⟩:=g2 mv;rw[scanD,if_neg mv,ha];rfl
theorem scan_large {r y:Str} (h:(scanD r).e=4) (hr:r.length+y.length<65536):(scanD (r++10::y)).e=4:=by
 have hD:scanD r = .of (cutF (r.length+1) r 0 0):=by rw[scanD,if_neg mv]
 rw[hD]at h;cases hc:cutF (r.length+1) r 0 0 with
 | ok l=>rw[hc]at h;cases h
 | error e =>
  obtain⟨a,e⟩:=e;rw[hc]at h;replace h:e=4:=h;subst h;have:=cutF_large _ _ _ _ _ hc mv y ((r++10::y).length+1) mv;rw[scanD,if_neg (by rw[a6,a7];omega),this];rfl
end Go.Sep
namespace Go.Ck
open Go.Sep
theorem mapM_congr {α β:Type} {f g:α→Option β}:∀ {l:List α},(∀ x∈l,f x=g x)→l.mapM f=l.mapM g
 | [],_=>rfl
 | x::l,h=>by
  rw[List.mapM_cons,List.mapM_cons,h x mx,mapM_congr fun y hy=>h y np]
def Ag (ex ex':Sc→Tree→Option X) (d:Nat):Prop:=∀ sc t,t.deep<d∨t=zeroT→ex sc t=ex' sc t
theorem kid_deep2 (n:Tree) (i:Nat) {d:Nat} (h:n.deep≤d):(kid n i).deep<d∨kid n i=zeroT:=by
 unfold kid;cases hq:n.kids[i]? with
 | none=>exact .inr rfl
 | some t=>exact .inl (cg (dj (List.mem_of_getElem? hq)) h)
theorem low {n t:Tree} (hm:t∈n.kids) {d:Nat} (h:n.deep≤d):t.deep<d∨t=zeroT:=.inl (cg (dj hm) h)
theorem headD_ag {d:Nat} {l:List Tree} (hl:∀ t∈l,t.deep<d∨t=zeroT):(l.headD zeroT).deep<d∨l.headD zeroT=zeroT:=by
 cases l with
 | nil=>exact .inr rfl
 | cons a l=>exact hl a mx
section
variable {tbl:List Decl} {ex ex':Sc→Tree→Option X} {d:Nat} (h:Ag ex ex' d)
include h
theorem val_ag {sc:Sc} {t:Tree} (ht:t.deep<d∨t=zeroT):valC ex sc t=valC ex' sc t:=by unfold valC;rw[h sc t ht]
theorem of_ag {k:Int} {sc:Sc} {t:Tree} (ht:t.deep<d∨t=zeroT):ofC ex k sc t=ofC ex' k sc t:=by unfold ofC;rw[val_ag h ht]
theorem values_ag {sc:Sc} {l:List Tree} {m:Nat} (hl:∀ t∈l,t.deep<d∨t=zeroT):valuesC ex sc l m=valuesC ex' sc l m:=by
 unfold valuesC;rw[h sc _ (headD_ag hl),mapM_congr (g:=fun n=>(valC ex' sc n).map X.type) fun t ht=>by rw[val_ag h (hl t ht)]]
theorem assign_ag {sc:Sc} {l to:List Tree} (hl:∀ t∈l,t.deep<d∨t=zeroT):assignC tbl ex sc l to=assignC tbl ex' sc l to:=by
 unfold assignC;rw[values_ag h hl]
theorem each_ag {sc:Sc}:∀ {l to:List Tree},(∀ t∈l,t.deep<d∨t=zeroT)→eachC tbl ex sc l to=eachC tbl ex' sc l to
 | [],_,_=>by unfold eachC;rfl
 | a::l,[],_=>by unfold eachC;rfl
 | a::l,t::ts,hl=>by
  rw[eachC,eachC,assign_ag h (l:=[a]) (fun x hx=>by rw[List.mem_singleton.1 hx];exact hl a mx),each_ag fun x hx=>hl x (by simp[hx])]
theorem built_ag {sc:Sc} {k:Int} {l:List Tree} (hl:∀ t∈l,t.deep<d∨t=zeroT):builtC tbl ex sc k l=builtC tbl ex' sc k l:=by
 unfold builtC;rw[val_ag h (headD_ag hl),of_ag h (headD_ag hl),of_ag h (headD_ag hl)];have:∀ to,assignC tbl ex sc (l.drop 1) to=assignC tbl ex' sc (l.drop 1) to:=fun to=>assign_ag h fun t ht=>hl t (List.mem_of_mem_drop ht);simp only[this]
theorem callee_ag {sc:Sc} {f:Tree} (hf:f.deep<d∨f=zeroT):calleeC tbl ex sc f=calleeC tbl ex' sc f:=by
 unfold calleeC;have hk:(kid f 0).deep<d∨kid f 0=zeroT:=by
  rcases hf with hf | rfl
  ·exact(kid_deep2 f 0 (bF _)).imp (fun q=>Nat.lt_trans q hf) id
  ·exact .inr rfl
 rw[val_ag h hk,val_ag h hf]
theorem call_ag {sc:Sc} {n:Tree} (hn:n.deep≤d):callC tbl ex sc n=callC tbl ex' sc n:=by
 have hl:∀ t∈n.kids.drop 1,t.deep<d∨t=zeroT:=fun t ht=>low (List.mem_of_mem_drop ht) hn;have he:∀ to,eachC tbl ex sc (n.kids.drop 1) to=eachC tbl ex' sc (n.kids.drop 1) to:=fun to=>each_ag h hl;unfold callC;rw[built_ag h hl,callee_ag h (kid_deep2 n 0 hn)];simp only[he]
theorem oper_ag {sc:Sc} {n:Tree} (hn:n.deep≤d):operC tbl ex sc n=operC tbl ex' sc n:=by
 have h0:=kid_deep2 n 0 hn;have h1:=kid_deep2 n 1 hn;unfold operC unaryC binaryC;simp only[val_ag h h0,val_ag h h1,of_ag h h1];rw[mapM_congr (g:=ofC ex' 1 sc) fun t ht=>of_ag h (low (List.mem_of_mem_drop ht) hn)]
end
def AgL (lv lv':Lv) (d:Nat):Prop:=Ag lv.ex lv'.ex d∧∀ res w sc t,t.deep<d→lv.st res w sc t=lv'.st res w sc t
theorem stmts_ag {st st':Sc→Tree→Option Sc}:∀ {l:List Tree} {sc:Sc},(∀ t∈l,∀ sc,st sc t=st' sc t)→stmtsC st sc l=stmtsC st' sc l
 | [],_,_=>rfl
 | n::l,sc,h=>by
  rw[stmtsC,stmtsC,h n mx]
  congr 1
  funext sc'
  exact stmts_ag fun t ht=>h t (by simp[ht])
section
variable {e:Env} {lv lv':Lv} {d:Nat} (h:AgL lv lv' d)
include h
theorem expr_ag {sc:Sc} {n:Tree} (hn:n.deep≤d):exprC e lv sc n=exprC e lv' sc n:=by
 have hl:∀ t∈n.kids,t.deep<d∨t=zeroT:=fun t ht=>low ht hn;have hl1:∀ t∈n.kids.drop 1,t.deep<d∨t=zeroT:=fun t ht=>low (List.mem_of_mem_drop ht) hn;have e1:∀ to,eachC e.tbl lv.ex sc n.kids to=eachC e.tbl lv'.ex sc n.kids to:=fun to=>each_ag h.1 hl;have e2:∀ to,eachC e.tbl lv.ex sc (n.kids.drop 1) to=eachC e.tbl lv'.ex sc (n.kids.drop 1) to:=fun to=>each_ag h.1 hl1;have e3:∀(t:Tree) (ps:Names),(n.kids[1]?.bind fun b=>(bodyC lv t ps sc b).map fun _=>(⟨47,t,false,0,false⟩:X))=n.kids[1]?.bind fun b=>(bodyC lv' t ps sc b).map fun _=>(⟨47,t,false,0,false⟩:X):=fun t ps=>by
  cases hq:n.kids[1]? with
  | none=>rfl
  | some b =>
   have hb:b∈n.kids:=List.mem_of_getElem? hq;refine lj ?_;unfold bodyC;rw[h.2 _ _ _ _ (cg (dj hb) hn)]
 unfold exprC;rw[call_ag h.1 hn,oper_ag h.1 hn];simp only[e1,e2,e3]
theorem stmt_ag {res:List Tree} {w:Nat} {sc:Sc} {n:Tree} (hn:n.deep≤d):stmtC e lv res w sc n=stmtC e lv' res w sc n:=by
 have h0:=kid_deep2 n 0 hn;have hd:∀ k,∀ t∈n.kids.drop k,t.deep<d∨t=zeroT:=fun k t ht=>low (List.mem_of_mem_drop ht) hn;have e1:∀ k to,assignC e.tbl lv.ex sc (n.kids.drop k) to=assignC e.tbl lv'.ex sc (n.kids.drop k) to:=fun k to=>assign_ag h.1 (hd k);have e2:∀ to,assignC e.tbl lv.ex sc n.kids to=assignC e.tbl lv'.ex sc n.kids to:=fun to=>assign_ag h.1 fun t ht=>low ht hn;have e3:∀ k m,valuesC lv.ex sc (n.kids.drop k) m=valuesC lv'.ex sc (n.kids.drop k) m:=fun k m=>values_ag h.1 (hd k);have e4:∀ k,((n.kids.take k).mapM fun p=>(valC lv.ex sc p).bind fun x=>(want x.place).map fun _=>x.type)=(n.kids.take k).mapM fun p=>(valC lv'.ex sc p).bind fun x=>(want x.place).map fun _=>x.type:=fun k=>mapM_congr fun t ht=>by rw[val_ag h.1 (low (cv ht) hn)]
 have lt:∀ t∈n.kids,t.deep<d:=fun t ht=>cg (dj ht) hn;have e5:∀ sc,stmtsC (lv.st res w) sc n.kids=stmtsC (lv'.st res w) sc n.kids:=fun sc=>stmts_ag fun t ht sc=>h.2 _ _ _ _ (lt t ht);have e6:∀ k sc,stmtsC (lv.st res w) sc (n.kids.drop k)=stmtsC (lv'.st res w) sc (n.kids.drop k):=fun k sc=>stmts_ag fun t ht sc=>h.2 _ _ _ _ (lt t (List.mem_of_mem_drop ht));have e7:(n.kids.getLast?.bind fun b=>(lv.st res (w+1) sc b).map fun _=>sc)=n.kids.getLast?.bind fun b=>(lv'.st res (w+1) sc b).map fun _=>sc:=by
  cases hq:n.kids.getLast? with
  | none=>rfl
  | some b =>
   have hb:b∈n.kids:=List.mem_of_getLast? hq;refine lj ?_;rw[h.2 _ _ _ _ (lt b hb)]
 unfold stmtC;simp only[e1,e2,e3,e4,e5,e6,e7,of_ag h.1 h0,h.1 sc _ h0]
end
theorem ex_zero (e:Env):∀ n sc,(lvl e n).ex sc zeroT=none
 | 0,_=>rfl
 | n+1,sc=>by
  show exprC e (lvl e n) sc zeroT=none;have h0:valC (lvl e n).ex sc (kid zeroT 0)=none:=by
   show((lvl e n).ex sc zeroT).bind _=none;rw[ex_zero e n sc];rfl
  show binaryC e.tbl (lvl e n).ex sc zeroT=none;unfold binaryC;rw[h0];rfl
theorem lvl_fuel (e:Env):∀ n m,n≤m→AgL (lvl e n) (lvl e m) (n+1)
 | 0,m,_=>⟨fun sc t ht=>by
   rcases ht with ht | rfl
   ·have:=deep_pos t;omega
   ·rw[ex_zero,ex_zero],fun _ _ _ t ht=>by have:=deep_pos t;omega⟩
 | n+1,m+1,h=>by
  have ih:=lvl_fuel e n m mv;refine⟨fun sc t ht=>?_,fun res w sc t ht=>?_⟩
  ·rcases ht with ht | rfl
   ·exact expr_ag ih mv
   ·rw[ex_zero,ex_zero]
  ·exact stmt_ag ih mv
 | n+1,0,h=>by omega
end Go.Ck
namespace Go.Ck
open Go.Sep
inductive Sim : Sc→Sc→Prop
 | refl (s:Sc):Sim s s
 | cons (x:Names) {s s':Sc}:Sim s s'→Sim (x::s) (x::s')
 | ins {s s':Sc}:Sim s s'→Sim s ([]::s')
theorem Sim.look {s s':Sc} (h:Sim s s') (x:Str):lookS s x=lookS s' x:=by
 induction h with
 | refl s=>rfl
 | cons y h ih =>
  unfold lookS at ih ⊢;rw[List.findSome?_cons,List.findSome?_cons,ih]
 | ins h ih =>
  unfold lookS at ih ⊢;rw[List.findSome?_cons,ih];rfl
section
variable {tbl:List Decl} {ex:Sc→Tree→Option X} {sc sc':Sc} (h:∀ t,ex sc t=ex sc' t)
include h
theorem val_sim (t:Tree):valC ex sc t=valC ex sc' t:=by unfold valC;rw[h]
theorem of_sim (k:Int) (t:Tree):ofC ex k sc t=ofC ex k sc' t:=by unfold ofC;rw[val_sim h]
theorem values_sim (l:List Tree) (m:Nat):valuesC ex sc l m=valuesC ex sc' l m:=by
 unfold valuesC;simp only[h,val_sim h]
theorem assign_sim (l to:List Tree):assignC tbl ex sc l to=assignC tbl ex sc' l to:=by unfold assignC;rw[values_sim h]
theorem each_sim : ∀ l to:List Tree,eachC tbl ex sc l to=eachC tbl ex sc' l to
 | [],_=>by unfold eachC;rfl
 | a::l,[]=>by unfold eachC;rfl
 | a::l,t::ts=>by rw[eachC,eachC,assign_sim h,each_sim l ts]
theorem built_sim (k:Int) (l:List Tree):builtC tbl ex sc k l=builtC tbl ex sc' k l:=by
 unfold builtC;simp only[val_sim h,of_sim h,assign_sim (tbl:=tbl) h]
theorem callee_sim (f:Tree):calleeC tbl ex sc f=calleeC tbl ex sc' f:=by
 unfold calleeC;simp only[val_sim h]
theorem call_sim (hl:∀ x,lookS sc x=lookS sc' x) (n:Tree):callC tbl ex sc n=callC tbl ex sc' n:=by
 unfold callC;simp only[hl,built_sim (tbl:=tbl) h,callee_sim (tbl:=tbl) h,each_sim (tbl:=tbl) h]
theorem oper_sim (n:Tree):operC tbl ex sc n=operC tbl ex sc' n:=by
 have ho:ofC ex 1 sc=ofC ex 1 sc':=funext (of_sim h 1);unfold operC unaryC binaryC;simp only[val_sim h,of_sim h,ho]
end
def Rs (s s':Sc) (a b:Option Sc):Prop:=(a=none∧b=none)∨∃ y,a=some (y::s)∧b=some (y::s')
def SimL (lv:Lv):Prop:=(∀ sc sc' t,Sim sc sc'→lv.ex sc t=lv.ex sc' t)∧∀ res w x s s' t,Sim s s'→Rs s s' (lv.st res w (x::s) t) (lv.st res w (x::s') t)
theorem Rs.map {s s':Sc} {a b:Option Sc} (h:Rs s s' a b) {β:Type} (v:β):(a.map fun _=>v)=b.map fun _=>v:=by
 rcases h with ⟨rfl,rfl⟩ | ⟨y,rfl,rfl⟩<;>rfl
theorem decl_rs {s s':Sc} (x:Names) (n:Str) (t:Tree):Rs s s' (declC (x::s) n t) (declC (x::s') n t):=by
 unfold declC;by_cases h:((getN x n).isSome||decide (t.kind=8))=true
 ·simp only[h,if_true];exact .inl ⟨rfl,rfl⟩
 ·simp only[h,if_false];exact .inr ⟨_,rfl,rfl⟩
theorem declAll_rs {s s':Sc}:∀(l:List (Str×Tree)) (x:Names),Rs s s' (declAll (x::s) l) (declAll (x::s') l)
 | [],x=>.inr ⟨x,rfl,rfl⟩
 | p::l,x=>by
  rw[declAll,declAll];rcases decl_rs (s:=s) (s':=s') x p.1 p.2 with ⟨h1,h2⟩ | ⟨y,h1,h2⟩
  ·exact gp
  ·rw[h1,h2];exact declAll_rs l y
theorem stmts_rs {s s':Sc} {st:Sc→Tree→Option Sc} (h:∀ x t,Rs s s' (st (x::s) t) (st (x::s') t)):∀(l:List Tree) (x:Names),Rs s s' (stmtsC st (x::s) l) (stmtsC st (x::s') l)
 | [],x=>.inr ⟨x,rfl,rfl⟩
 | t::l,x=>by
  rw[stmtsC,stmtsC];rcases h x t with ⟨h1,h2⟩ | ⟨y,h1,h2⟩
  ·exact gp
  ·rw[h1,h2];exact stmts_rs h l y
theorem keep_rs {s s':Sc} {β:Type} (x:Names) (o:Option β):Rs s s' (o.map fun _=>x::s) (o.map fun _=>x::s'):=by
 cases o with
 | none=>exact .inl ⟨rfl,rfl⟩
 | some v=>exact .inr ⟨x,rfl,rfl⟩
theorem bind_rs {s s':Sc} {β:Type} (o:Option β) {f g:β→Option Sc} (h:∀ v,Rs s s' (f v) (g v)):Rs s s' (o.bind f) (o.bind g):=by
 cases o with
 | none=>exact .inl ⟨rfl,rfl⟩
 | some v=>exact h v
theorem lvl_sim (e:Env):∀ n,SimL (lvl e n)
 | 0=>⟨fun _ _ _ _=>rfl,fun _ _ _ _ _ _ _=>.inl ⟨rfl,rfl⟩⟩
 | n+1=>by
  have ih:=lvl_sim e n;refine⟨fun sc sc' t hs=>?_,fun res w x s s' t hs=>?_⟩
  ·have h:∀ t,(lvl e n).ex sc t=(lvl e n).ex sc' t:=fun t=>ih.1 sc sc' t hs;have hb:∀(a:Tree) (ps:Names) (b:Tree),bodyC (lvl e n) a ps sc b=bodyC (lvl e n) a ps sc' b:=fun a ps b=>by
    unfold bodyC;rcases ih.2 (a.kids.drop a.num.toNat) 0 ps sc sc' b hs with ⟨h1,h2⟩ | ⟨y,h1,h2⟩<;>rw[h1,h2]<;>rfl
   show exprC e (lvl e n) sc t=exprC e (lvl e n) sc' t;unfold exprC;simp only[hs.look,hb,each_sim (tbl:=e.tbl) h,call_sim (tbl:=e.tbl) h hs.look,oper_sim (tbl:=e.tbl) h]
  ·have h:∀ t,(lvl e n).ex (x::s) t=(lvl e n).ex (x::s') t:=fun t=>ih.1 _ _ t (.cons x hs);show Rs s s' (stmtC e (lvl e n) res w (x::s) t) (stmtC e (lvl e n) res w (x::s') t);unfold stmtC;simp only[assign_sim (tbl:=e.tbl) h,values_sim h,val_sim h,of_sim h,h];split
   ·have:=stmts_rs (s:=x::s) (s':=x::s') (st:=(lvl e n).st res w) (fun y t=>ih.2 res w y _ _ t (.cons x hs)) t.kids [];rcases this with ⟨h1,h2⟩ | ⟨y,h1,h2⟩
    ·exact gp
    ·exact iV
   split
   ·exact bind_rs _ fun v=>bind_rs _ fun _=>decl_rs x _ _
   split
   ·exact bind_rs _ fun v=>declAll_rs _ x
   split
   ·exact bind_rs _ fun v=>keep_rs x _
   split
   ·exact bind_rs _ fun v=>keep_rs x _
   split
   ·exact keep_rs x _
   split
   ·refine bind_rs _ fun v=>?_;have:=stmts_rs (s:=s) (s':=s') (st:=(lvl e n).st res w) (fun y t=>ih.2 res w y _ _ t hs) (t.kids.drop 1) x;rcases this with ⟨h1,h2⟩ | ⟨y,h1,h2⟩
    ·exact gp
    ·exact iV
   split
   ·refine bind_rs _ fun v=>bind_rs _ fun b=>?_;rcases ih.2 res (w+1) x s s' b hs with ⟨h1,h2⟩ | ⟨y,h1,h2⟩
    ·exact gp
    ·exact iV
   ·exact keep_rs x _
def blk (ks:List Tree):Tree:=.mk 20 [] 0 ks
theorem st_blk (e:Env) (N:Nat) (res:List Tree) (w:Nat) (sc:Sc) (ks:List Tree):(lvl e (N+1)).st res w sc (blk ks)=(stmtsC ((lvl e N).st res w) ([]::sc) ks).map fun _=>sc:=by
 show stmtC e (lvl e N) res w sc (blk ks)=_;unfold stmtC;rw[if_pos (show(blk ks).kind=20 from rfl)];rfl
theorem blk_wrap (e:Env) {N:Nat} (res:List Tree) (w:Nat) (sc:Sc) {ks:List Tree} (h:∀ t∈ks,t.deep≤N) :
  (lvl e (N+2)).st res w sc (blk [blk ks])=(lvl e (N+2)).st res w sc (blk ks):=by
 rw[st_blk,st_blk,stmtsC,st_blk];have hf:=lvl_fuel e N (N+1) mv;have h1:stmtsC ((lvl e N).st res w) ([]::[]::sc) ks=stmtsC ((lvl e (N+1)).st res w) ([]::[]::sc) ks:=stmts_ag fun t ht sc=>hf.2 _ _ _ _ (by have:=h t ht;omega);rw[h1];have hs:=stmts_rs (s:=sc) (s':=[]::sc) (st:=(lvl e (N+1)).st res w) (fun y t=>(lvl_sim e (N+1)).2 res w y _ _ t (.ins (.refl sc))) ks [];rcases hs with ⟨q1,q2⟩ | ⟨y,q1,q2⟩
 ·rw[q1,q2];rfl
 ·rw[q1,q2];rfl
end Go.Ck
namespace Go.Pb
open Go.Ps
open Go.Sep (Tree Str bulkL)
variable {α β:Type}
def FS (f:F):Prop:=∀ i t,f i=some t→t.text.length≤1024
def Wt (c:Nat) (w:α→Nat) (p:Pp α):Prop:=∀ f,FS f→∀ k a k',p f k = .ok a k'→w a+1025*k≤1025*k'+c
theorem Wt.up {c c':Nat} {w:α→Nat} {p:Pp α} (h:Wt c w p) (hc:c≤c'):Wt c' w p:=fun f hf k a k' e=>by have:=h f hf k a k' e;omega
theorem Wt.ret {c:Nat} {w:α→Nat} {a:α} (h:w a≤c):Wt c w (ret a):=fun f hf k b k' e=>by injection e with e1 e2;subst e1;subst e2;omega
theorem Wt.fail {c:Nat} {w:α→Nat}:Wt c w (fail:Pp α):=fun f hf k a k' e=>by cases e
theorem Wt.dry {c:Nat} {w:α→Nat}:Wt c w (dry:Pp α):=fun f hf k a k' e=>by cases e
theorem Wt.bind {c c1:Nat} {w1:α→Nat} {w:β→Nat} {p:Pp α} {g:α→Pp β} (hp:Wt c1 w1 p) (hg:∀ a,∃ d,d≤c+w1 a-c1∧c1≤c+w1 a∧Wt d w (g a)):Wt c w (bind p g):=fun f hf k b k' e=>by
 unfold Ps.bind at e;cases hx:p f k with
 | ok a k1 =>
  simp only[hx]at e;obtain⟨d,h1,h2,h3⟩:=hg a;have h4:=hp f hf k a k1 hx;have h5:=h3 f hf k1 b k' e;omega
 | bad k1=>simp only[hx]at e;cases e
 | out=>simp only[hx]at e;cases e
theorem Wt.bind0 {c:Nat} {w1:α→Nat} {w:β→Nat} {p:Pp α} {g:α→Pp β} (hp:Wt 0 w1 p) (hg:∀ a,Wt (c+w1 a) w (g a)):Wt c w (Ps.bind p g):=Wt.bind hp fun a=>⟨_,bF _,cn _,hg a⟩
theorem Wt.tok {c:Nat} {w:α→Nat} {s:Str} {A B:Pp α} (hA:Wt (c+1025) w A) (hB:Wt c w B):Wt c w (tok s A B):=fun f hf k a k' e=>by
 unfold Ps.tok at e;cases hb:isM s f k with
 | true=>simp only[hb,cz]at e;have:=hA f hf _ a k' e;omega
 | false=>simp only[hb,cy]at e;exact hB f hf k a k' e
theorem Wt.need {c:Nat} {w:α→Nat} {s:Str} {A:Pp α} (hA:Wt (c+1025) w A):Wt c w (need s A):=Wt.tok hA Wt.fail
theorem Wt.tkn {c:Nat} {w:α→Nat} {n:Int} {A:Tk→Pp α} {B:Pp α} (hA:∀ t,t.text.length≤1024→Wt (c+1025) w (A t)) (hB:Wt c w B):Wt c w (tkn n A B):=fun f hf k a k' e=>by
 unfold Ps.tkn at e;cases hx:f k with
 | none=>simp only[hx]at e;exact hB f hf k a k' e
 | some t =>
  cases hb:decide (t.kind=n)with
  | true=>simp only[hx,hb,cz]at e;have:=hA t (hf k t hx) f hf _ a k' e;omega
  | false=>simp only[hx,hb,cy]at e;exact hB f hf k a k' e
theorem Wt.name {c:Nat} {w:α→Nat} {A:Str→Pp α} (hA:∀ t,t.length≤1024→Wt (c+1025) w (A t)):Wt c w (name A):=Wt.tkn (fun t ht=>hA t.text ht) Wt.fail
theorem Wt.oneOf {c:Nat} {w:α→Nat} {ops:List Str} {A:Str→Pp α} {B:Pp α} (hA:∀ t∈ops,Wt (c+1025) w (A t)) (hB:Wt c w B):Wt c w (oneOf ops A B):=fun f hf k a k' e=>by
 unfold Ps.oneOf at e;cases hx:ops.find? (fun s=>isM s f k)with
 | none=>simp only[hx]at e;exact hB f hf k a k' e
 | some t=>simp only[hx]at e;have:=hA t (List.mem_of_find?_eq_some hx) f hf _ a k' e;omega
theorem Wt.peek {c:Nat} {w:α→Nat} {q:F→Nat→Bool} {A B:Pp α} (hA:Wt c w A) (hB:Wt c w B):Wt c w (peek q A B):=fun f hf k a k' e=>by
 exact f0
theorem Wt.tokIf {c:Nat} {w:α→Nat} {x:Bool} {s:Str} {A B:Pp α} (hA:Wt (c+1025) w A) (hB:Wt c w B):Wt c w (tokIf x s A B):=by
 cases x with
 | true=>exact Wt.tok hA hB
 | false=>exact hB
@[reducible] def T0 (p:Pp Tree):Prop:=Wt 0 Tree.bulk p
@[reducible] def L0 (p:Pp (List Tree)):Prop:=Wt 0 bulkL p
theorem szL_app (a b:List Tree):bulkL (a++b)=bulkL a+bulkL b:=by
 induction a with
 | nil=>simp[bulkL]
 | cons x l ih=>simp only[bJ,bulkL,ih];omega
theorem sz_mk (k:Int) (s:Str) (n:Int) (ks:List Tree):(Tree.mk k s n ks).bulk=1+s.length+bulkL ks:=by simp only[Tree.bulk]
theorem sz_leaf (k:Int) (s:Str):(leaf k s).bulk=1+s.length:=by simp only[leaf,Tree.bulk,bulkL];omega
theorem commas_wt {X:Pp Tree} (h:T0 X):∀ j,L0 (commas j X)
 | 0=>Wt.dry
 | j+1=>Wt.bind0 h fun a=>Wt.tok (Wt.bind0 (commas_wt h j) fun l=>Wt.ret mZ) (Wt.ret mZ)
theorem upto_wt {X:Pp Tree} {s:Str} (h:T0 X):∀ j,L0 (upto j s X)
 | 0=>Wt.dry
 | j+1=>Wt.tok (Wt.ret mZ) (Wt.bind0 h fun a=>Wt.bind0 (upto_wt h j) fun l=>Wt.ret mZ)
variable {N:Nat}
theorem inP_wt {s:Str} {X:Pp Tree} (h:T0 X):L0 (inP N s X):=Wt.tok (Wt.ret mZ) (Wt.bind0 (commas_wt h N) fun l=>Wt.need (Wt.ret mv))
theorem results_wt {typ:Pp Tree} (h:T0 typ):L0 (resultsP N typ) :=
 Wt.tok (Wt.bind0 (commas_wt h N) fun l=>Wt.need (Wt.ret mv)) (Wt.peek (Wt.bind0 h fun t=>Wt.ret mZ) (Wt.ret mZ))
theorem param_wt {typ:Pp Tree} (h:T0 typ):T0 (paramP typ):=Wt.name fun s hs_=>Wt.bind0 h fun t=>Wt.ret ny
theorem sigLike_wt {kind:Int} {X typ:Pp Tree} (hX:T0 X) (h:T0 typ):T0 (sigLike N kind X typ) :=
 Wt.need (Wt.bind0 (inP_wt hX) fun ps=>Wt.bind0 (results_wt h) fun rs=>Wt.ret ox)
theorem sig_wt {typ:Pp Tree} (h:T0 typ):T0 (sigP N typ):=sigLike_wt (param_wt h) h
theorem typP_wt {typ:Pp Tree} (h:T0 typ):T0 (typP N typ) :=
 Wt.tok (Wt.bind0 h fun t=>Wt.ret mO) (Wt.tok (Wt.need (Wt.bind0 h fun t=>Wt.ret mO)) (Wt.tok ((sigLike_wt h h).up mv) (Wt.name fun s hs_=>Wt.ret nQ)))
theorem field_wt {mb:Pp Tree} (h:T0 mb):T0 (fieldP mb):=Wt.name fun s hs_=>Wt.bind0 h fun t=>Wt.need (Wt.ret ny)
theorem body_wt {kind:Int} {nm:Str} {mb:Pp Tree} (hnm:nm.length≤1024) (h:T0 mb):T0 (bodyP N kind nm mb):=Wt.need (Wt.bind0 (upto_wt (field_wt h) N) fun l=>Wt.ret (by(simp only[sz_mk];omega)))
theorem typeDecl_wt {typ:Pp Tree} (h:T0 typ):T0 (typeDeclP N typ):=Wt.name fun nm hnm_=>Wt.tok ((body_wt hnm_ (sig_wt h)).up mv) (Wt.need ((body_wt hnm_ h).up mv))
theorem decl_wt {typ block:Pp Tree} (h:T0 typ) (hb:T0 block):T0 (declP N typ block):=by
 refine Wt.tok ((typeDecl_wt h).up mv) (Wt.need (Wt.tok ?_ ?_))
 ·exact Wt.name fun recv hrecv_=>Wt.need (Wt.name fun of hof_=>Wt.need (Wt.name fun nm hnm_=>Wt.bind0 (sig_wt h) fun s=>Wt.bind0 hb fun b=>Wt.ret (by simp only[sz_mk,bulkL,recvT,sz_leaf,a8];omega)))
 ·exact Wt.name fun nm hnm_=>Wt.bind0 (sig_wt h) fun s=>Wt.bind0 hb fun b=>Wt.ret ny
theorem block_wt {stmt:Pp Tree} (h:T0 stmt):T0 (blockP N stmt):=Wt.need (Wt.bind0 (upto_wt h N) fun l=>Wt.ret nR)
theorem branch_wt {expr block branch:Pp Tree} (he:T0 expr) (hb:T0 block) (hr:T0 branch):T0 (branchP expr block branch) :=
 Wt.need (Wt.bind0 he fun c=>Wt.bind0 hb fun b=>Wt.tok (Wt.peek (Wt.bind0 hr fun e=>Wt.ret mO) (Wt.bind0 hb fun e=>Wt.ret mO)) (Wt.ret mO))
theorem for_wt {expr block:Pp Tree} (he:T0 expr) (hb:T0 block):Wt 1025 Tree.bulk (forP expr block) :=
 Wt.peek (Wt.bind0 hb fun b=>Wt.ret mO) (Wt.bind0 he fun c=>Wt.bind0 hb fun b=>Wt.ret mO)
theorem assign_wt {expr:Pp Tree} {left:List Tree} (he:T0 expr):Wt (bulkL left+1025) Tree.bulk (assignP N expr left):=by
 refine Wt.tokIf (Wt.bind0 (commas_wt he N) fun l=>Wt.ret ox) (Wt.tokIf (Wt.bind0 (commas_wt he N) fun l=>Wt.ret ox) ?_);cases isC1 left with
 | true=>exact Wt.peek (Wt.ret nR) Wt.fail
 | false=>exact Wt.fail
theorem simple_wt {typ expr:Pp Tree} (h:T0 typ) (he:T0 expr):Wt 1025 Tree.bulk (simpleP N typ expr):=by
 refine Wt.tok (Wt.name fun s hs_=>Wt.bind0 h fun t=>Wt.tok (Wt.bind0 he fun e=>Wt.ret ny) (Wt.ret ny)) ?_;refine Wt.tok (Wt.peek (Wt.ret nF) (Wt.bind0 (commas_wt he N) fun l=>Wt.ret nR)) ?_;refine Wt.tok (Wt.ret nF) (Wt.tok (Wt.ret nF) ?_);exact Wt.bind0 (commas_wt he N) fun l=>(assign_wt he).up mv
theorem exprs_wt {s:Str} {expr:Pp Tree} (he:T0 expr):L0 (exprsP N s expr):=inP_wt he
theorem cut_wt {expr:Pp Tree} {num:Int} {ks:List Tree} {c:Nat} (he:T0 expr) (hc:bulkL ks≤c):Wt c Tree.bulk (cutP expr num ks) :=
 Wt.need (Wt.tok (Wt.ret nR) (Wt.bind0 he fun e=>Wt.need (Wt.ret (by(simp only[sz_mk,bulkL,szL_app,a8];omega)))))
theorem index_wt {expr:Pp Tree} {n:Tree} (he:T0 expr):Wt n.bulk Tree.bulk (indexP expr n) :=
 Wt.peek (cut_wt he mZ) (Wt.bind0 he fun e=>Wt.tok (Wt.ret mO) (cut_wt he mZ))
theorem post_wt {expr:Pp Tree} (he:T0 expr):∀(j:Nat) (n:Tree),Wt n.bulk Tree.bulk (postP N expr j n)
 | 0,n=>Wt.dry
 | j+1,n=>by
  refine Wt.tok (Wt.name fun s hs_=>(post_wt he j _).up ny) (Wt.tok (Wt.bind (index_wt he) fun t=>⟨_,?_,?_,post_wt he j t⟩) (Wt.tok (Wt.bind0 (exprs_wt he) fun l=>(post_wt he j _).up mO) (Wt.ret (bF _))))
  ·omega
  ·omega
theorem prim_wt {typ block expr:Pp Tree} {h:Bool} (ht:T0 typ) (hb:T0 block) (he:T0 expr):T0 (primP N typ block expr h):=by
 refine Wt.tkn (fun t ht_=>Wt.ret mO) (Wt.tkn (fun t ht_=>Wt.ret nQ) (Wt.tok (Wt.ret mO) (Wt.tok (Wt.ret nF) (Wt.tok (Wt.ret nF) ?_))));refine Wt.tok (Wt.bind0 he fun t=>Wt.need (Wt.ret mv)) ?_;refine Wt.tok (Wt.need (Wt.bind0 ht fun t=>Wt.need (Wt.bind0 (exprs_wt he) fun l=>Wt.ret mO))) ?_;refine Wt.tok (Wt.bind0 (sig_wt ht) fun s=>Wt.bind0 hb fun b=>Wt.ret mO) (Wt.name fun s hs_=>?_);cases h with
 | true=>exact Wt.ret nQ
 | false=>exact Wt.tok (Wt.bind0 (exprs_wt he) fun l=>Wt.ret (by(simp only[sz_mk];omega))) (Wt.ret nQ)
theorem loopB_wt {X:Pp Tree} {ops:List Str} (h:T0 X) (ho:∀ s∈ops,s.length≤1024):∀(j:Nat) (n:Tree),Wt n.bulk Tree.bulk (loopB j ops X n)
 | 0,n=>Wt.dry
 | j+1,n=>Wt.oneOf (fun op hop=>Wt.bind0 h fun m=>(loopB_wt h ho j _).up (by have:=ho op hop;simp only[binT,sz_mk,bulkL];omega)) (Wt.ret (bF _))
theorem binL_wt {U:Pp Tree} (hU:T0 U):∀ l:List (List Str),(∀ ops∈l,∀ s∈ops,s.length≤1024)→T0 (binL N U l)
 | [],_=>hU
 | ops::rest,hl=>Wt.bind0 (binL_wt hU rest fun o ho=>hl o nq) fun n=>(loopB_wt (binL_wt hU rest fun o ho=>hl o nq) (hl ops mx) N n).up mv
theorem levels_short : ∀ ops∈levels,∀ s∈ops,s.length≤1024:=by decide
theorem ops_short : ∀ s∈([[45],[33],[38],[42]]:List Str),s.length≤1024:=by decide
theorem semi_wt {p:Pp Tree} (h:Wt 1025 Tree.bulk p):T0 (Ps.bind p fun s=>Ps.need [59] (Ps.ret s)):=fun f hf k b k' e=>by
 unfold Ps.bind at e;cases hx:p f k with
 | ok a k1 =>
  simp only[hx]at e;have h4:=h f hf k a k1 hx;unfold Ps.need Ps.tok at e;cases hb:isM [59] f k1 with
  | true =>
   simp only[hb,cz]at e;injection e with e1 e2
   subst e1 e2;omega
  | false=>simp only[hb,cy]at e;cases e
 | bad k1=>simp only[hx]at e;cases e
 | out=>simp only[hx]at e;cases e
structure GWt (g:Gr):Prop where
 typ:T0 g.typ
 block:T0 g.block
 stmt:T0 g.stmt
 branch:T0 g.branch
 expr:∀ b,T0 (g.expr b)
 unary:∀ b,T0 (g.unary b)
theorem gwt : ∀ n,GWt (gr N n)
 | 0=>⟨Wt.dry,Wt.dry,Wt.dry,Wt.dry,fun _=>Wt.dry,fun _=>Wt.dry⟩
 | n+1=>by
  have IH:=gwt n;refine⟨typP_wt IH.typ,block_wt IH.stmt,?_,branch_wt (IH.expr _) IH.block IH.branch,fun b=>binL_wt (IH.unary b) _ levels_short,fun b=>?_⟩
  ·exact Wt.peek IH.block (Wt.peek IH.branch (Wt.tok (for_wt (IH.expr _) IH.block) (semi_wt (simple_wt IH.typ (IH.expr _)))))
  ·exact Wt.oneOf (fun op hop=>Wt.bind0 (IH.unary b) fun t=>Wt.ret (by have:=ops_short op hop;(simp only[sz_mk,bulkL];omega))) (Wt.bind0 (prim_wt IH.typ IH.block (IH.expr _)) fun t=>(post_wt (IH.expr _) N t).up mv)
theorem declG_wt (n:Nat):T0 (declG N n):=decl_wt (gwt n).typ (gwt n).block
theorem progL_wt {decl:Pp Tree} (h:T0 decl):∀ j,L0 (progL decl j)
 | 0=>Wt.dry
 | j+1=>fun f hf k a k' e=>by
  have hr:L0 (bind decl fun a=>bind (progL decl j) fun l=>ret (a::l)):=Wt.bind0 h fun a=>Wt.bind0 (progL_wt h j) fun l=>Wt.ret mZ;unfold progL at e;cases hb:(f k).isNone with
  | true=>simp only[hb,cz]at e;injection e with e1 e2;subst e1;subst e2;simp only[bulkL];omega
  | false=>simp only[hb,cy]at e;exact hr f hf k a k' e
theorem program_wt (M:Nat):L0 (Ps.program M):=progL_wt (declG_wt _) _
end Go.Pb
namespace Go.Sep
structure TOk (t:Tok):Prop where
 name:t.kind=1→isName t.text=true
 num:t.kind=2→0≤t.num
 short:t.text.length≤1024
theorem take_span (p:UInt8→Bool) (s:Str):s.take (spanOf p s)=s.takeWhile p:=(List.prefix_iff_eq_take.1 (List.takeWhile_prefix p)).symm
theorem tokD_ok {s:Str} {t:Tok} {n:Nat} (h:tokD s=some (t,n)):TOk t:=by
 cases s with
 | nil=>cases h
 | cons c r =>
  rw[tokD]at h;by_cases h1:ltr c=true
  ·rw[if_pos h1]at h;by_cases h64:64<spanOf lod (c::r)
   ·rw[if_pos h64]at h;cases h
   rw[if_neg h64,take_span]at h;have hlen:((c::r).takeWhile lod).length≤64:=by unfold spanOf at h64;omega
   have hc:lod c=true:=by unfold lod;rw[h1];rfl
   by_cases hw:(c::r).takeWhile lod∈wordL
   ·rw[if_pos hw]at h;cases h;exact⟨fun e=>mM,fun e=>mM,by show((c::r).takeWhile lod).length≤1024;omega⟩
   ·rw[if_neg hw]at h;cases h;refine⟨fun _=>?_,fun e=>mM,by show((c::r).takeWhile lod).length≤1024;omega⟩;show isName ((c::r).takeWhile lod)=true;have hall:((c::r).takeWhile lod).all lod=true:=List.all_takeWhile;have e:(c::r).takeWhile lod=c::r.takeWhile lod:=List.takeWhile_cons_of_pos hc;rw[isName_eq (by rw[e];simp),bQ hlen,hall,bR hw];simp only[e,List.getElem_cons_zero,h1];rfl
  ·rw[if_neg h1]at h;by_cases h2:dgt c=true
   ·rw[if_pos h2]at h;split at h
    ·cases h
    ·split at h
     ·cases h
     ·cases h;exact⟨fun e=>mM,fun _=>Int.natCast_nonneg _,cn _⟩
   ·rw[if_neg h2]at h;by_cases h3:c.toNat=34
    ·rw[if_pos h3]at h;cases hl:lit r with
     | none=>rw[hl]at h;cases h
     | some p =>
      obtain⟨t',n'⟩:=p;rw[hl]at h;simp only at h;split at h
      ·cases h
      ·cases h;exact⟨fun e=>mM,fun e=>mM,by show t'.length≤1024;omega⟩
    ·rw[if_neg h3]at h;cases hf:markL.find? (fun p=>prefixB p (c::r))with
     | none=>rw[hf]at h;cases h
     | some p =>
      rw[hf]at h;cases h;have hm:∀ p∈markL,p.length≤1024:=mw;exact⟨fun e=>mM,fun e=>mM,hm p (List.mem_of_find?_eq_some hf)⟩
theorem cutF_toks : ∀(f:Nat) (r:Str) (at_ k:Nat) (l:List Tok),cutF f r at_ k = .ok l→∀ t∈l,TOk t
 | 0,r,at_,k,l,h=>by cases h
 | f+1,r,at_,k,l,h=>by
  rw[cutF]at h;by_cases h1:r.drop (blk false r)=[]
  ·rw[if_pos h1]at h;injection h with h
   subst h;intro t ht;cases ht
  rw[if_neg h1]at h;by_cases h2:k=20000
  ·exact fV
  rw[if_neg h2]at h;cases ht:tokD (r.drop (blk false r))with
  | none=>rw[ht]at h;cases h
  | some p =>
   obtain⟨u,n⟩:=p;rw[ht]at h;simp only at h;cases hc:cutF f ((r.drop (blk false r)).drop n) (at_+blk false r+n) (k+1)with
   | error e=>rw[hc]at h;cases h
   | ok l' =>
    rw[hc]at h;simp only[Except.ok.injEq]at h;subst h;intro t hm;rcases List.mem_cons.1 hm with rfl | hm
    ·have:=tokD_ok ht;exact⟨this.name,this.num,this.short⟩
    ·exact cutF_toks f _ _ _ _ hc t hm
theorem toks_ok {s:Str} (h:(scanD s).e=0):∀ t∈(scanD s).list,TOk t:=cutF_toks _ _ _ _ _ (scanD_ok h).2
theorem tkF_tok {l:List Tok} {i:Nat} {t:Ps.Tk} (h:tkF l i=some t):∃ u∈l,t=⟨u.kind,u.text,u.num⟩:=by
 unfold tkF at h;cases hx:l[i]? with
 | none=>rw[hx]at h;cases h
 | some u =>
  rw[hx]at h;simp only[bu]at h;exact⟨u,List.mem_of_getElem? hx,h.symm⟩
theorem fok_of {s:Str} (h:(scanD s).e=0):Ps.FOk (tkF (scanD s).list):=fun i t ht=>by
 obtain⟨u,hu,rfl⟩:=tkF_tok ht;have:=toks_ok h u hu;exact⟨this.name,this.num,fun _=>this.short⟩
theorem fs_of {s:Str} (h:(scanD s).e=0):Pb.FS (tkF (scanD s).list):=fun i t ht=>by
 obtain⟨u,hu,rfl⟩:=tkF_tok ht;exact(toks_ok h u hu).short
theorem parse_sound {s:Str} {ds:List Tree} {k:Nat} (h:(scanD s).e=0) (hp:Ps.program (scanD s).list.length (tkF (scanD s).list) 0 = .ok ds k) (h1:(Tree.mk 1 [] 0 ds).size≤20000) (h2:(Tree.mk 1 [] 0 ds).deep≤100) :
  soundB (.mk 1 [] 0 ds)=true∧(Tree.mk 1 [] 0 ds).bulk≤140737488355328:=by
 refine⟨Ps.program_sound (fok_of h) hp h1 h2,?_⟩;have e1:=Pb.program_wt _ _ (fs_of h) 0 ds k hp;have e2:=((Ps.Run.program (tkF_none _)).ok 0 (bF _) (cn _) ds k hp).2.1;have e3:=scanD_len s;simp only[Tree.bulk,a8];omega
end Go.Sep
namespace Go.Ck
open Go.Sep
open Ps (Tk sig0 blk0 Head)
def aS : Str:=[102,117,110,99,32,102,48,40,41,32,123]
def bS : Str:=[125,32,102,117,110,99,32,109,97,105,110,40,41,32,123,32,125]
def oneS (x:Str):Str:=(aS++10::x)++10::bS
def wrapS (x:Str):Str:=([123]++10::x)++10::[125]
def wS : Nat→Str→Str
 | 0,x=>x
 | n+1,x=>wrapS (wS n x)
def oT : Tk:=⟨4,[123],0⟩
def cT : Tk:=⟨4,[125],0⟩
def fT : Tk:=⟨5,[102,117,110,99],0⟩
def nT (s:Str):Tk:=⟨1,s,0⟩
def mT (c:UInt8):Tk:=⟨4,[c],0⟩
def TA : List Tk:=[fT,nT [102,48],mT 40,mT 41,oT]
def TB : List Tk:=[cT,fT,nT [109,97,105,110],mT 40,mT 41,oT,cT]
theorem scA :(scanD aS).e=0∧tks aS=TA:=⟨by kernel_rfl,by kernel_rfl⟩
theorem scB :(scanD bS).e=0∧tks bS=TB:=⟨by kernel_rfl,by kernel_rfl⟩
theorem scO :(scanD [123]).e=0∧tks [123]=[oT]:=⟨by kernel_rfl,by kernel_rfl⟩
theorem scC :(scanD [125]).e=0∧tks [125]=[cT]:=⟨by kernel_rfl,by kernel_rfl⟩
theorem wS_len (x:Str):∀ n,(wS n x).length=x.length+4*n
 | 0=>rfl
 | n+1=>by
  have:=wS_len x n;simp only[wS,wrapS,a6,a7,a8,this];omega
def Ww : Nat→List Tk→List Tk
 | 0,S=>S
 | n+1,S=>oT::(Ww n S++[cT])
theorem Ww_len (S:List Tk):∀ n,(Ww n S).length=S.length+2*n
 | 0=>rfl
 | n+1=>by
  have:=Ww_len S n;simp only[Ww,a6,a7,a8,this];omega
theorem wrap_scan {x:Str} (h:(scanD x).e=0) (hl:(tks x).length+2≤20000) (hx:x.length+10<65536):(scanD (wrapS x)).e=0∧tks (wrapS x)=oT::(tks x++[cT]):=by
 have h1:=(scan_two (r:=[123]) (y:=x) scO.1 h nS).1 (by rw[scO.2];simp only[a7,a8];omega);rw[scO.2]at h1;have h2:=(scan_two (r:=[123]++10::x) (y:=[125]) h1.1 scC.1 ou).1 (by rw[h1.2,scC.2];simp only[a6,a7,a8];omega);refine⟨h2.1,?_⟩;show tks (([123]++10::x)++10::[125])=_;rw[h2.2,h1.2,scC.2];rfl
theorem wS_scan {x:Str} (h:(scanD x).e=0) (hx:x.length≤20000):∀ n,(tks x).length+2*n≤20000→n≤100→(scanD (wS n x)).e=0∧tks (wS n x)=Ww n (tks x)
 | 0,_,_=>⟨h,rfl⟩
 | n+1,hn,h100=>by
  obtain⟨h1,h2⟩:=wS_scan h hx n mv mv;have hl:=wS_len x n;have:=wrap_scan h1 (by rw[h2,Ww_len];omega) mv;rw[h2]at this;exact this
theorem one_scan {x:Str} (h:(scanD x).e=0) (hx:x.length≤60000):((scanD (oneS x)).e=0∧tks (oneS x)=TA++(tks x++TB))∨(scanD (oneS x)).e=4:=by
 have ha:aS.length=11:=rfl;have hb:bS.length=17:=rfl;obtain⟨g1,g2⟩:=scan_two (r:=aS) (y:=x) scA.1 h mv;rcases Nat.lt_or_ge 20000 ((tks aS).length+(tks x).length)with hx1 | hx1
 ·exact .inr (scan_large (g2 hx1) (by simp only[a6,a7];omega))
 ·obtain⟨e1,e2⟩:=g1 hx1;obtain⟨q1,q2⟩:=scan_two (r:=aS++10::x) (y:=bS) e1 scB.1 (by simp only[a6,a7];omega);rcases Nat.lt_or_ge 20000 ((tks (aS++10::x)).length+(tks bS).length)with hx2 | hx2
  ·exact .inr (q2 hx2)
  ·obtain⟨e3,e4⟩:=q1 hx2;refine .inl ⟨e3,?_⟩;show tks ((aS++10::x)++10::bS)=_;rw[e4,e2,scA.2,scB.2,bo]
theorem one_split {s:Str} (h:(scanD (oneS s)).e=0):(scanD s).e=0∧tks (oneS s)=TA++(tks s++TB)∧(tks s).length≤19988:=by
 obtain⟨h1,-,h3⟩:=scan_split (r:=aS++10::s) (y:=bS) h;obtain⟨-,h5,h6⟩:=scan_split (r:=aS) (y:=s) h1;have e:tks (oneS s)=TA++(tks s++TB):=by
  show tks ((aS++10::s)++10::bS)=_;rw[h3,h6,scA.2,scB.2,bo]
 refine⟨h5,e,?_⟩;have hl:=scanD_len (oneS s);have:(tks (oneS s)).length≤20000:=by rw[tks,bN];exact hl
 rw[e]at this;simp only[a6,TA,TB,a7,a8]at this;omega
def Fl (ts:List Tk):Ps.F:=fun i=>ts[i]?
theorem tkF_Fl (l:List Tok):tkF l=Fl (l.map tkOf):=by
 funext i
 unfold tkF Fl;rw[List.getElem?_map];cases l[i]? <;> rfl
def full (S:List Tk):List Tk:=TA++(S++TB)
theorem full_len (S:List Tk):(full S).length=S.length+12:=by
 simp only[full,a6,TA,TB,a7,a8];omega
theorem fl_mid (S:List Tk) (i:Nat) (h:i<S.length):Fl (full S) (5+i)=S[i]?:=by
 unfold Fl full;rw[bD (by simp[TA])];rw[bz oy]
 congr 1
 simp[TA]
theorem fl_end (S:List Tk) (j:Nat):Fl (full S) (5+S.length+j)=TB[j]?:=by
 unfold Fl full;rw[bD oy];rw[bD oy]
 congr 1
 simp[TA];omega
theorem isM_at {s:Str} {f:Ps.F} {k:Nat} {t:Tk} (h:f k=some t):Ps.isM s f k=((decide (t.kind=4)||decide (t.kind=5))&&decide (t.text=s)):=by
 unfold Ps.isM;rw[h]
theorem headA (S:List Tk):Head (Fl (full S)) 0 (nT [102,48]) where
 ty:=(isM_at (t:=fT) rfl).trans mw
 fn:=(isM_at (t:=fT) rfl).trans mw
 nm:=rfl
 kd:=rfl
 op:=(isM_at (t:=mT 40) rfl).trans mw
 cl:=(isM_at (t:=mT 41) rfl).trans mw
 br:=(isM_at (t:=oT) rfl).trans mw
theorem headB (S:List Tk):Head (Fl (full S)) (6+S.length) (nT [109,97,105,110]) where
 ty:=(isM_at (t:=fT) (by rw[show 6+S.length=5+S.length+1 by omega,fl_end];rfl)).trans mw
 fn:=(isM_at (t:=fT) (by rw[show 6+S.length=5+S.length+1 by omega,fl_end];rfl)).trans mw
 nm:=by rw[show 6+S.length+1=5+S.length+2 by omega,fl_end];rfl
 kd:=rfl
 op:=(isM_at (t:=mT 40) (by rw[show 6+S.length+2=5+S.length+3 by omega,fl_end];rfl)).trans mw
 cl:=(isM_at (t:=mT 41) (by rw[show 6+S.length+3=5+S.length+4 by omega,fl_end];rfl)).trans mw
 br:=(isM_at (t:=oT) (by rw[show 6+S.length+4=5+S.length+5 by omega,fl_end];rfl)).trans mw
def ksW : Nat→List Tree→List Tree
 | 0,ks=>ks
 | n+1,ks=>[blk0 (ksW n ks)]
def mainT : Tree:=.mk 4 [109,97,105,110] 0 [sig0,blk0 []]
def f0T (ks:List Tree):Tree:=.mk 4 [102,48] 0 [sig0,blk0 ks]
structure Rd (S:List Tk) (ks:List Tree) (e:Nat):Prop where
 up:Ps.upto (S.length+12+1) [125] (Ps.gr (S.length+12+1) (3*(S.length+12)+3)).stmt (Fl (full S)) 5 = .ok ks (6+S.length)
 dc:Ps.declG (S.length+12+1) (3*(S.length+12)+4) (Fl (full S)) (6+S.length) = .ok mainT e
 en:Fl (full S) e=none
theorem rd_step {S:List Tk} {ks:List Tree} {e:Nat} (h:Rd S ks e):Rd (oT::(S++[cT])) [blk0 ks] (e+2) ∧
  (Ps.program (S.length+14) (Fl (full (oT::(S++[cT])))) 0 = .out∨Ps.program (S.length+14) (Fl (full (oT::(S++[cT])))) 0 = .ok [f0T [blk0 ks],mainT] (e+2)):=by
 have hl:(oT::(S++[cT])).length=S.length+2:=mx;have hmid:∀ i,5≤i→i<6+S.length→Fl (full (oT::(S++[cT]))) (i+1)=Fl (full S) i:=fun i h5 hi=>by
  obtain⟨q,rfl⟩:∃ q,i=5+q:=⟨i-5,by omega⟩
  rw[show 5+q+1=5+(q+1) by omega,fl_mid _ _ (by rw[hl];omega),List.getElem?_cons_succ];by_cases hq:q<S.length
  ·rw[fl_mid S q hq,bz hq]
  ·have hq2:q=S.length:=mv;subst hq2;rw[show 5+S.length=5+S.length+0 by omega,fl_end,bD (bF _)];simp[TB]
 have htl:∀ i,6+S.length≤i→Fl (full (oT::(S++[cT]))) (i+2)=Fl (full S) i:=fun i hi=>by
  obtain⟨q,rfl⟩:∃ q,i=5+S.length+q:=⟨i-5-S.length,by omega⟩
  rw[fl_end];have:=fl_end (oT::(S++[cT])) q;rw[hl]at this;rw[show 5+S.length+q+2=5+(S.length+2)+q by omega,this]
 have b5:Fl (full (oT::(S++[cT]))) 5=some oT:=by
  have:=fl_mid (oT::(S++[cT])) 0 (by rw[hl];omega);exact this
 have bc:Fl (full (oT::(S++[cT]))) (6+S.length+1)=some cT:=by
  have:=fl_end (oT::(S++[cT])) 0;rw[hl]at this;rw[show 6+S.length+1=5+(S.length+2)+0 by omega,this];rfl
 have hn2:Fl (full (oT::(S++[cT]))) (6+S.length+2)≠none:=by
  have:=fl_end (oT::(S++[cT])) 1;rw[hl]at this;rw[show 6+S.length+2=5+(S.length+2)+1 by omega,this];simp[TB]
 obtain⟨g1,g2,g3,g4⟩:=Ps.wrap_step (M:=S.length+12) (u:=oT) (headA _) h.up h.dc h.en mv ((isM_at b5).trans mw) hmid ((isM_at bc).trans mw) htl (by intro q;cases q) hn2;refine⟨⟨?_,?_,g3⟩,g4⟩
 ·rw[hl,show 6+(S.length+2)=6+S.length+2 by omega];exact g1
 ·rw[hl,show 6+(S.length+2)=6+S.length+2 by omega];exact g2
theorem rd_all {S:List Tk} {ks:List Tree} {e:Nat} (h:Rd S ks e):∀ n,Rd (Ww n S) (ksW n ks) (e+2*n)
 | 0=>h
 | n+1=>(rd_step (rd_all h n)).1
theorem rd_prog {S:List Tk} {ks:List Tree} {e:Nat} (h:Rd S ks e) (n:Nat) :
  Ps.program (full (Ww (n+1) S)).length (Fl (full (Ww (n+1) S))) 0 = .out∨Ps.program (full (Ww (n+1) S)).length (Fl (full (Ww (n+1) S))) 0 = .ok [f0T (ksW (n+1) ks),mainT] (e+2*n+2):=by
 have:=(rd_step (rd_all h n)).2;rw[show(full (Ww (n+1) S)).length=(Ww n S).length+14 by rw[full_len,Ww_len,Ww_len];omega];exact this
theorem rd_of {S:List Tk} {ds:List Tree} {e:Nat} (hd:ds.length=2) (hp:Ps.program (full S).length (Fl (full S)) 0 = .ok ds e):∃ ks,ds=[f0T ks,mainT]∧Rd S ks e:=by
 match ds,hd with
 | [a0,a1],_ =>
 rw[full_len]at hp;obtain⟨ks,h1,h2,h3,h4⟩:=Ps.two_heads (headA S) (headB S) mv (fun j hj=>by
  intro hn;unfold Fl at hn;rw[List.getElem?_eq_none_iff,full_len]at hn;omega) hp
 have hm:a1=mainT:=by
  rw[show 3*(S.length+12)+4=3*(S.length+12)+3+1 by omega,Ps.head_decl (headB S)]at h3;have hu:Ps.upto (S.length+12+1) [125] (Ps.gr (S.length+12+1) (3*(S.length+12)+3)).stmt (Fl (full S)) (6+S.length+5) = .ok [] (6+S.length+6):=by
   rw[Ps.upto,Ps.tokB_t]
   ·rfl
   ·refine(isM_at (t:=cT) ?_).trans mw;rw[show 6+S.length+5=5+S.length+6 by omega,fl_end];rfl
  rw[Ps.bind_ok hu]at h3;injection h3 with h3 _
  exact h3.symm
 subst hm;exact⟨ks,by rw[h1];rfl,⟨h2,h3,h4⟩⟩
theorem braces_read {s:Str} {ds:List Tree} {a:Int} (hs:parseD (oneS s)=⟨.mk 1 [] 0 ds,a,0⟩) (he:(scanD (oneS s)).e=0) {k0:Nat} (hp:Ps.program (scanD (oneS s)).list.length (tkF (scanD (oneS s)).list) 0 = .ok ds k0) (hd:ds.length=2) (hl:s.length≤20000) (n:Nat) (hn:n<5) :
  (parseD (oneS (wS (n+1) s))).e=4∨∃ ks k1,ds=[f0T ks,mainT]∧(scanD (oneS (wS (n+1) s))).e=0∧Ps.program (scanD (oneS (wS (n+1) s))).list.length (tkF (scanD (oneS (wS (n+1) s))).list) 0 = .ok [f0T (ksW (n+1) ks),mainT] k1 ∧
   (Tree.mk 1 [] 0 [f0T (ksW (n+1) ks),mainT]).size≤20000∧(Tree.mk 1 [] 0 [f0T (ksW (n+1) ks),mainT]).deep≤100∧parseD (oneS (wS (n+1) s))=⟨.mk 1 [] 0 [f0T (ksW (n+1) ks),mainT],0,0⟩:=by
 obtain⟨h1,h2,h3⟩:=one_split he;rw[tkF_Fl,show(scanD (oneS s)).list.map tkOf=full (tks s) from h2,show(scanD (oneS s)).list.length=(full (tks s)).length by have:=congrArg List.length h2;rw[tks,bN]at this;exact this]at hp;obtain⟨ks,e1,hR⟩:=rd_of hd hp;obtain⟨g1,g2⟩:=wS_scan h1 hl (n+1) mv mv;have hwl:=wS_len s (n+1);rcases one_scan g1 mv with ⟨q1,q2⟩ | q1
 ·rw[g2]at q2;replace q2:tks (oneS (wS (n+1) s))=full (Ww (n+1) (tks s)):=q2;have hpp:Ps.program (scanD (oneS (wS (n+1) s))).list.length (tkF (scanD (oneS (wS (n+1) s))).list) 0 = .ok [f0T (ksW (n+1) ks),mainT] (k0+2*n+2):=by
   have hne:=program_ne (scanD (oneS (wS (n+1) s))).list;rw[tkF_Fl,show(scanD (oneS (wS (n+1) s))).list.map tkOf=full (Ww (n+1) (tks s)) from q2,show(scanD (oneS (wS (n+1) s))).list.length=(full (Ww (n+1) (tks s))).length by have:=congrArg List.length q2;rw[tks,bN]at this;exact this]at hne ⊢;exact(rd_prog hR n).resolve_left hne
  rcases parseD_cases (oneS (wS (n+1) s))with ⟨ds',k,f1,f2,f3,f4,f5⟩ | ⟨a',e',f1,-,-,f5⟩ | ⟨a',f1,-,-,f5⟩ | ⟨k,f1,f2,f5⟩
  ·rw[hpp]at f2;injection f2 with f2 _
   subst f2;exact .inr ⟨ks,_,e1,q1,hpp,f3,f4,f5⟩
  ·rcases f1 with rfl | rfl
   ·left;rw[f5]
   ·exfalso;have:parseD (oneS (wS (n+1) s))=parseL (oneS (wS (n+1) s)) (scanD (oneS (wS (n+1) s))).list:=by rw[parseD,if_pos q1]
    rw[this,parseL,hpp]at f5;simp only at f5;split at f5
    ·injection f5 with _ _ f6;cases f6
    ·injection f5 with _ _ f6;cases f6
  ·exact absurd q1 f1
  ·rw[hpp]at f2;cases f2
 ·left;rw[parseD,if_neg (by rw[q1];decide)];exact q1
end Go.Ck
namespace Go.Ck
open Go.Sep
open Ps (sig0 blk0)
theorem blk_all (e:Env) (res:List Tree) (w:Nat) (sc:Sc) (ks:List Tree):∀ n,(blk0 (ksW n ks)).deep≤100→(lvl e 200).st res w sc (blk0 (ksW n ks))=(lvl e 200).st res w sc (blk0 ks)
 | 0,_=>rfl
 | n+1,hd=>by
  have h1:(blk0 (ksW n ks)).deep<(blk0 (ksW (n+1) ks)).deep:=dj (a:=blk0 (ksW (n+1) ks)) (by show _∈[blk0 (ksW n ks)];simp);have h2:∀ t∈ksW n ks,t.deep≤198:=fun t ht=>by
   have:=dj (a:=blk0 (ksW n ks)) (t:=t) ht;omega
  exact(blk_wrap e (N:=198) res w sc h2).trans (blk_all e res w sc ks n mv)
def ty0 : Tree:=.mk 7 [] 0 []
theorem sigC0 : sigC [] [] sig0=some (ty0,[]):=uK
theorem table0 (ks:List Tree):tableD (.mk 1 [] 0 [f0T ks,mainT]) = .ok []:=rfl
theorem heads0 (ks:List Tree):headsC [] [] [] [f0T ks,mainT]=some ([([109,97,105,110],ty0),([102,48],ty0)],[(ty0,[],blk0 ks),(ty0,[],blk0 [])]):=by
 have h1:builtinD [102,48] = -1:=uK;have h2:builtinD [109,97,105,110] = -1:=uK;have n1:¬((getN [] (f0T ks).name).isSome=true∨0<builtinD (f0T ks).name):=by
  show ¬((getN [] [102,48]).isSome=true∨0<builtinD [102,48]);rw[h1];simp[getN]
 have n2:¬((getN [([102,48],ty0)] mainT.name).isSome=true∨0<builtinD mainT.name):=by
  show ¬((getN [([102,48],ty0)] [109,97,105,110]).isSome=true∨0<builtinD [109,97,105,110]);rw[h2];simp[getN]
 rw[headsC,if_pos (show(f0T ks).kind=4 from rfl),if_neg n1];show(sigC [] [] sig0).bind _=_;rw[sigC0];refine lj ?_;show headsC [] [([102,48],ty0)] [(ty0,[],blk0 ks)] [mainT]=_;rw[headsC,if_pos (show mainT.kind=4 from rfl),if_neg n2];show(sigC [] [] sig0).bind _=_;rw[sigC0];rfl
theorem braces_chk {n:Nat} {ks:List Tree} (hd:(Tree.mk 1 [] 0 [f0T (ksW n ks),mainT]).deep≤100):chkD (.mk 1 [] 0 [f0T (ksW n ks),mainT])=chkD (.mk 1 [] 0 [f0T ks,mainT]):=by
 have h1:(f0T (ksW n ks)).deep<(Tree.mk 1 [] 0 [f0T (ksW n ks),mainT]).deep:=dj (a:=Tree.mk 1 [] 0 [f0T (ksW n ks),mainT]) (by show _∈[f0T (ksW n ks),mainT];simp);have h2:(blk0 (ksW n ks)).deep<(f0T (ksW n ks)).deep:=dj (a:=f0T (ksW n ks)) (by show _∈[sig0,blk0 (ksW n ks)];simp);have hb:∀ e:Env,bodyC (lvl e 200) ty0 [] [] (blk0 (ksW n ks))=(bodyC (lvl e 200) ty0 [] [] (blk0 ks)).map fun _=>():=fun e=>by
  unfold bodyC;rw[blk_all e _ _ _ ks n mv];show((lvl e 200).st [] 0 [[]] (blk0 ks)).bind (fun _=>want (([]:List Tree).isEmpty||endsD 200 (blk0 (ksW n ks))))=(((lvl e 200).st [] 0 [[]] (blk0 ks)).bind (fun _=>want (([]:List Tree).isEmpty||endsD 200 (blk0 ks)))).map _;cases (lvl e 200).st [] 0 [[]] (blk0 ks)<;>rfl
 unfold chkD;rw[table0,table0];simp only[Tree.kids];rw[heads0,heads0];simp only[cr,hb,Option.isSome_map]<;>rfl
end Go.Ck
namespace Go.Sep
open Go.Proofs Go.Ck
attribute [local irreducible] TC TO OT TCallX TCall DO DOt thenQ blockQ retQ At
attribute [local irreducible] parseD scanD chkT chkD soundB
theorem braces_all {s:Str} (he:(parseD (oneS s)).e=0) (hk:(parseD (oneS s)).tree.kids.length=2) (hl:s.length≤20000) (n:Nat) (hn:n<5) :
  (parseD (oneS (wS (n+1) s))).e=4∨(parseD (oneS (wS (n+1) s))).e=0∧∃ c,chkT (parseD (oneS s)).tree=c∧chkT (parseD (oneS (wS (n+1) s))).tree=c∧(parseD (oneS s)).tree.wide≤140737488355328∧(parseD (oneS (wS (n+1) s))).tree.wide≤140737488355328:=by
 rcases parseD_cases (oneS s)with ⟨ds,k,f1,f2,f3,f4,f5⟩ | ⟨a',e',f1,-,-,f5⟩ | ⟨a',f1,-,-,f5⟩ | ⟨k,f1,f2,f5⟩
 ·rw[f5]at hk;replace hk:ds.length=2:=hk;rcases braces_read f5 f1 f2 hk hl n hn with h | ⟨ks,k1,rfl,g1,g2,g3,g4,g5⟩
  ·exact .inl h
  ·right;obtain⟨s1,b1⟩:=parse_sound f1 f2 f3 f4;obtain⟨s2,b2⟩:=parse_sound g1 g2 g3 g4;rw[f5,g5];refine⟨rfl,_,rfl,?_,bG (wide_bulk _) b1,bG (wide_bulk _) b2⟩;show chkT (.mk 1 [] 0 [f0T (ksW (n+1) ks),mainT])=chkT (.mk 1 [] 0 [f0T ks,mainT]);unfold chkT;rw[if_pos s1,if_pos s2];exact braces_chk g4
 ·rw[f5]at he;replace he:e'=0:=he;omega
 ·rw[f5]at he;cases he
 ·rw[f5]at he;cases he
theorem text_eq (s:Str):([102,117,110,99,32,102,48,40,41,32,123,10]++s)++[10,125,32,102,117,110,99,32,109,97,105,110,40,41,32,123,32,125]=oneS s:=by
 simp[oneS,aS,bS]
theorem wrap_eq (x:Str):([123,10]++x)++[10,125]=wrapS x:=by
 simp[wrapS]
theorem tmod5 (n:Nat):((n:Int)).tmod 5=((n % 5:Nat):Int):=by
 rw[Int.tmod_eq_emod_of_nonneg mv];omega
theorem checkBraces_walk (m:Mem) (L:List Item) (s:Str) (n:Nat) (hn:n<256) (hs:s.length≤140737488355328) (hE:Errs m) :
  TCall Tryz.prog 4 ⟨[strV s,.int .u8 (n:Int)]⟩ m L (Made m L fun r _=>r = .bool true):=by
 unfold TCall;refine ak Tryz.func4 70 ?_;refine qs rfl (OT.concat (s:=[102,117,110,99,32,102,48,40,41,32,123,10]) (u:=s) rfl rfl rfl rfl rfl nS ?_);refine kK ?_;refine oC goes14 ((parse_law program_ne _ _ (oneS s) hE).x ?_);rintro _ m1 _ ⟨hm1,rfl,x,rfl,hx⟩;refine uA ?_;refine aC tab (fun b5=>?_);refine jx ?_;refine oC goes10 ((awake5_law _ _ (hE.mono hm1)).x ?_);rintro _ m2 _ ⟨hm2,rfl,rfl⟩;have hm12:=cD hm1 hm2;have hxl:=hx.kids.len;refine uA ?_
 (first | refine TO.splitP rfl rfl (fun c1=>?_) (fun c1=>?_) | refine cL rfl rfl (fun c1=>?_) (fun c1=>?_) | refine TO.split rfl rfl (fun c1=>?_) (fun c1=>?_))
 ·exact fa
 refine uL ?_
 (first | refine TO.splitP rfl rfl (fun c2=>?_) (fun c2=>?_) | refine cL rfl rfl (fun c2=>?_) (fun c2=>?_) | refine TO.split rfl rfl (fun c2=>?_) (fun c2=>?_))
 ·exact fa
 refine uA ?_;refine am (fun c3=>?_) (fun c3=>?_)
 ·exact fa
 have hsl:s.length≤20000:=by
  have c3:¬(20000:Int)<(s.length:Int):=c3;omega
 have hk2:(parseD (oneS s)).tree.kids.length=2:=by
  have c2:(x.kids.len:Int)=2:=c2;omega
 have hall:=braces_all c1 hk2 hsl;refine jS ?_;refine cH (ι:=Nat) [0,1,5] rfl (fun i=>[(9,.int .i64 (i:Int)),(8,strV (wS i s))]) (fun _=>m2) (fun _=>.cells b5 0 (treeC x)::L) (fun i=>i≤n % 5+1) (fun i=>n % 5+1-i) 0 uH rfl uS (cn _) ?_;rintro i hi;have hn5:n % 5<5:=Nat.mod_lt _ mw;have hwl:=wS_len s i;refine uA ?_;refine qs rfl (OT.remK (r:=((n % 5:Nat):Int)) rfl rfl rfl rfl rfl mw (tmod5 n) ?_);refine qs rfl (OT.conv (r:=((n % 5:Nat):Int)) tab rfl rfl rfl rfl rfl rfl (wrap64_in mv mv) ?_);refine aQ (r':=((n % 5+1:Nat):Int)) uH mv mv ?_;refine am (fun hlt=>?_) (fun hlt=>?_)
 ·have hlt0:(i:Int)<((n % 5+1:Nat):Int):=hlt;refine uA ?_;refine qs rfl (OT.concat (s:=[123,10]) (u:=wS i s) rfl rfl rfl rfl rfl nS ?_);refine qs rfl (OT.concat (u:=[10,125]) rfl rfl rfl rfl rfl ou ?_);rw[wrap_eq];refine kh ?_;exact⟨i+1,uH,uH,rfl,rfl,uS,by omega,by omega⟩
 have hlt0:¬(i:Int)<((n % 5+1:Nat):Int):=hlt;have hie:i=n % 5+1:=mv;subst hie;refine uA ?_;refine qs rfl (OT.concat (s:=[102,117,110,99,32,102,48,40,41,32,123,10]) (u:=wS (n % 5+1) s) rfl rfl rfl rfl rfl nS ?_);refine kK ?_;refine oC goes14 ((parse_law program_ne _ _ (oneS (wS (n % 5+1) s)) (hE.mono hm12)).x ?_);rintro _ m3 _ ⟨hm3,rfl,y,rfl,hy⟩;have hm13:=cD hm12 hm3;have hx3:=(hx.mono hm2).mono hm3;refine uA ?_;refine aC tab (fun b10=>?_);refine jx ?_;rcases hall (n % 5) hn5 with h4 | ⟨h0,c,hc1,hc2,hw1,hw2⟩
 ·refine am (fun c4=>?_) (fun c4=>?_)
  ·refine uA ?_;exact cI rfl (L':=L) uS ⟨hm13,rfl,rfl⟩
  ·exact absurd h4 c4
 refine am (fun c4=>?_) (fun c4=>?_)
 ·have c4:(parseD (oneS (wS (n % 5+1) s))).e=4:=c4;omega
 generalize hP:parseD (oneS (wS (n % 5+1) s))=pb at h0 hc2 hw2 hy;generalize hP1:parseD (oneS s)=pa at hc1 hw1 hx3;refine uB ?_;refine aL [] df 10 [.cells b10 0 (treeC y),.cells b5 0 (treeC x)] L (a9 _) ?_;refine kc ?_;refine DO.splitP (d:=63) rfl (fun hz=>?_) (fun hz=>?_)
 ·refine ae (k:=0) 3 1 ?_;refine ae (k:=0) 5 0 ?_;refine af 4 ?_;refine cR rfl rfl rfl rfl rfl rfl goes15 ((Check_law pa.tree hw1 _ _ x hx3).x ?_);rw[hc1];rintro _ m4 _ ⟨hm4,rfl,rfl⟩;refine⟨hm4,_,a9 _,?_⟩;refine af 6 ?_;refine cR rfl rfl rfl rfl rfl rfl goes15 ((Check_law pb.tree hw2 _ _ y (hy.mono hm4)).x ?_);rw[hc2];rintro _ m5 _ ⟨hm5,rfl,rfl⟩;refine⟨hm5,_,a9 _,?_⟩;refine cV tab uC uK [7,8,9] uK rfl ?_;refine aV ?_;refine aR ?_;refine ag (L':=L) ⟨cD hm13 (cD hm4 hm5),rfl,?_⟩;rw[bQ rfl]
 ·exact absurd h0 hz
end Go.Sep
