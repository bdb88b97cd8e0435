/-
  Part 13 of the proof: library, walks and plain laws.
-/
import Derived.Test.YthemafgjfddgbaaGreatDoorB12
set_option linter.unusedVariables false
set_option linter.unusedSimpArgs false
set_option maxHeartbeats 6400000
namespace Go.Sep
open Go.Proofs
attribute [local irreducible] TC TO OT TCallX TCall DO DOt thenQ blockQ retQ At
def ParseE (a:PA) (m:Mem) (L:List Item):Ending→World→Prop
 | .returned v,w'=>∃ m' L',St m' w' L'∧Made m L (ParseR a) v m' L'
 | .panicked _,_=>False
 | .outgrown,_=>False
theorem parseE_end {P:Program} {fn:Func} {a:PA} {m m':Mem} {L:List Item} {ρ:Env} {tmps:Array Value} {w:World} {b2 b3 b4:Nat} {x:HTree} {L':List Item} (T:Tab P) {t2 t3 t4:TypeId}
  (hres:fn.results=⟨[.cell 2 t2,.cell 3 t3,.cell 4 t4]⟩) (hA:∀ i v,look ρ i=some v→tmps[i]? = some v) (h2:look ρ 2=some (.pointer (some ⟨b2,0,none⟩))) (h3:look ρ 3=some (.pointer (some ⟨b3,0,none⟩))) (h4:look ρ 4=some (.pointer (some ⟨b4,0,none⟩)))
  (l2:T.load t2 (treeC x) 0=some (treeV x)) (l3:T.load t3 [.int .i64 a.at_] 0=some (.int .i64 a.at_)) (l4:T.load t4 [.int .i64 a.e] 0=some (.int .i64 a.e))
  (hst:St m' w (.cells b2 0 (treeC x)::.cells b3 0 [.int .i64 a.at_]::.cells b4 0 [.int .i64 a.e]::L')) (hsub:L.Sublist L') (hm:m≤m') (hr:TreeRep m' x a.tree):Leaves P fn tmps (ParseE a m L) [] .returning w:=by
 refine⟨.tuple ⟨[treeV x,.int .i64 a.at_,.int .i64 a.e]⟩,?_,m',L,hst.sub ?_,hm,rfl,x,rfl,hr⟩
 ·have g2:=run_loadVar (P:=P) T (k:=0) (hst.cells (i:=0) rfl) l2;have g3:=run_loadVar (P:=P) T (k:=0) (hst.cells (i:=1) rfl) l3;have g4:=run_loadVar (P:=P) T (k:=0) (hst.cells (i:=2) rfl) l4;have e2:=hA 2 _ h2;have e3:=hA 3 _ h3;have e4:=hA 4 _ h4;unfold results;rw[hres,Array.mapM_eq_mapM_toList];simp[Sem.run_bind,Sem.run_map,e2,e3,e4,asAddr,g2,g3,g4]
 ·exact cn _ (cn _ (cn _ hsub))
theorem parse_law (hout:∀ l:List Tok,Ps.program l.length (tkF l) 0≠.out) (m:Mem) (L:List Item) (s:Str) (hE:Errs m):TCall Tryz.prog 14 ⟨[strV s]⟩ m L (Made m L (ParseR (parseD s))):=by
 have key:∀ w,St m w L→Calls Tryz.prog 14 ⟨[strV s]⟩ w (ParseE (parseD s) m L):=by
  intro w hst;have hll:=scanD_len s;refine calls_enterD Tryz.func14 rfl 31 rfl hst ?_;refine uA ?_;refine oA tab (fun b2=>?_);refine oA tab (fun b3=>?_);refine aD tab (fun b4=>?_);refine oC goes28 ((scan_law _ _ s hE).x ?_);rintro _ m1 _ ⟨hm1,rfl,sl,rfl,hsl⟩;refine uA ?_;refine ax 1 ?_;refine ax 0 ?_;refine lI ?_;refine aR (fun he=>?_) (fun he=>?_)
  ·have hD:parseD s=⟨emptyT,((scanD s).at_:Int),(scanD s).e⟩:=by rw[parseD,if_neg he]
   refine TC.quiet ?_;refine aN [5] dp 6 [.cells b4 0 [.int .i64 (scanD s).e]] (.cells b3 0 [.int .i64 ((scanD s).at_:Int)]::.cells b2 0 [.int .i64 0,strV [],.int .i64 0,.slice none 0 0]::L) (bu _) ?_;refine nk ?_;refine ae (k:=0) 2 0 ?_;refine DO.fork 1 [3] uK ⟨⟨_,rfl,rfl,rfl,?_⟩,⟨_,rfl,rfl,rfl,?_⟩,trivial⟩
   ·refine OT.loadL0 tab 1 rfl rfl rfl rfl rfl rfl ?_;refine oa ?_;exact fM
   ·refine aE 2 ?_;refine kK ?_;refine ag 1 ?_;refine OT.loadL0 tab 1 rfl rfl rfl rfl rfl rfl ?_;exact fM
  ·have hD:parseD s=parseL s (scanD s).list:=by rw[parseD,if_pos he]
   rw[hD];generalize (scanD s).list=l at hsl hll;refine uA ?_;refine aZ (fun bp=>?_);refine TO.defer rfl rfl rfl rfl rfl ?_;refine uA ?_;have hEk:(⟨s,sl,l,bp,l.length+1⟩:PE).Ok m1:=⟨hsl,hll,by show l.length+1≤_;omega,by show 1≤l.length+1;omega⟩
   have hG:=gw (mb:=m1) (E:=⟨s,sl,l,bp,l.length+1⟩) (3*l.length+4);have hP:=program_par (decl_par (hG.typ 0) (hG.block 0)) m1 (.cells b4 0 [.int .i64 (scanD s).e]::.cells b3 0 [.int .i64 ((scanD s).at_:Int)]::.cells b2 0 [.int .i64 0,strV [],.int .i64 0,.slice none 0 0]::L) 0 (cM _) hEk (cw _);have hpe:Ps.program l.length (tkF l) 0=Ps.progL (Ps.declP (l.length+1) (Ps.gr (l.length+1) (3*l.length+4)).typ (Ps.gr (l.length+1) (3*l.length+4)).block) (l.length+1) (PE.f ⟨s,sl,l,bp,l.length+1⟩) 0:=rfl;have hn:=hout l;rw[hpe]at hn;refine oC goes30 (cO (hP ?_) ?_ ?_)
   ·intro hb;unfold Ps.bind at hb;split at hb
    ·cases hb
    ·cases hb
    ·rename_i he';exact hn he'
   ·rintro v m2 L2 ⟨a,k',xs,h1,hm2,hk',⟨x,rfl,rfl,hrx⟩,rfl⟩;obtain⟨ds,hds,rfl⟩:∃ ds,Ps.program l.length (tkF l) 0 = .ok ds k'∧a = .mk 1 [] 0 ds:=by
     rw[hpe];unfold Ps.bind at h1;split at h1
     ·rename_i ds k'' he';injection h1 with h1 h2
      subst h2;exact⟨ds,he',h1.symm⟩
     ·cases h1
     ·cases h1
    replace hm1:=cN hm1 hm2;refine uA ?_;refine ax 3 ?_;refine aD tab (fun bl=>?_);refine kH ?_;refine qs rfl (OT.loadL0 tab 4 rfl rfl rfl rfl rfl rfl ?_);refine uA ?_;refine oC goes31 ((fits_law (.mk 1 [] 0 ds) m2 _ x bl 1 20000 hrx oO oO oO oO).x ?_);rintro _ _ _ ⟨rfl,⟨rfl,k1,k2,rfl⟩ | ⟨rfl,k1,n,rfl⟩⟩
    ·have hA2:parseL s l=⟨.mk 1 [] 0 ds,0,0⟩:=by
      rw[parseL,hds];exact if_pos ⟨by omega,by omega⟩
     refine uA ?_;refine qs rfl (OT.loadL0 tab 4 rfl rfl rfl rfl rfl rfl ?_);refine lM ?_;intro tmps w' hA hst';refine nM ?_;refine(rec_idle b2 b3 b4 _ _ w' hst').mono ?_;rintro e u' w2 ⟨v,rfl,rfl,hst2⟩;exact parseE_end (x:=x) tab rfl hA rfl rfl rfl rfl rfl rfl (hst2.perm (bz pfr4 (bD _ (bz pfr3 (bD _ pfr2))))) (cn _ (cn _ (co _))) hm1 hrx
    ·have hA2:parseL s l=⟨emptyT,0,4⟩:=by
      rw[parseL,hds];exact if_neg fun h=>k1 ⟨by omega,by omega⟩
     refine lM ?_;refine thenQ_r ?_;intro tmps w' hA hst';refine nM ?_;refine(rec_idle b2 b3 b4 _ _ w' hst').mono ?_;rintro e u' w2 ⟨v,rfl,rfl,hst2⟩;exact parseE_end (x:=⟨0,[],0,⟨none,0,0⟩⟩) tab rfl hA rfl rfl rfl rfl rfl rfl (hst2.perm (bz pfr4 (bD _ (bz pfr3 (bD _ pfr2))))) (cn _ (cn _ (co _))) hm1 (emptyT_rep _)
   ·rintro ch m2 L2 ⟨k',h',h1,hm2,hk',rfl,rfl⟩;have hA2:parseL s l=⟨emptyT,placeD s l k',3⟩:=by
     have:Ps.program l.length (tkF l) 0 = .bad k':=by
      rw[hpe];unfold Ps.bind at h1;split at h1
      ·cases h1
      ·rename_i he';injection h1 with h1
       rw[←h1];exact he'
      ·cases h1
     rw[parseL,this]
    replace hm1:=cN hm1 hm2
    repeat (first | refine thenQ_p ?_ | refine blockQ_p ?_)
    intro tmps w' hA hst';refine nM ?_;refine(rec_fault b2 b3 b4 m2 _ w' (placeD s l k') _ _ _ rfl rfl rfl (hst'.perm (bz pfr3 (bD _ (bz pfr2 (bD _ pfr1)))))).mono ?_;rintro e u' w2 ⟨v,rfl,rfl,hst2⟩;exact parseE_end (x:=⟨0,[],0,⟨none,0,0⟩⟩) tab rfl hA rfl rfl rfl rfl rfl rfl hst2 (cn _ (co _)) hm1 (emptyT_rep _)
 exact gP
end Go.Sep
namespace Go.Ps
open Go.Sep (Tree Str)
variable {α β:Type}
section
variable (M:Nat) (f:F)
structure Run (st:Bool) (k0:Nat) (p:Pp α):Prop where
 out:∀ k,k0≤k→k≤M→p f k≠.out
 ok:∀ k,k0≤k→k≤M→∀ a k',p f k = .ok a k'→k≤k'∧k'≤M∧(st=true→k<k')
end
section
variable {M:Nat} {f:F}
theorem Run.vac {st:Bool} {k0:Nat} {p:Pp α} (h:M<k0):Run M f st k0 p:=⟨fun k h1 h2=>oM,fun k h1 h2=>oM⟩
theorem Run.up {st:Bool} {k0 k1:Nat} {p:Pp α} (h:Run M f st k0 p) (hk:k0≤k1):Run M f st k1 p:=⟨fun k h1 h2=>h.out k oM h2,fun k h1 h2=>h.ok k oM h2⟩
theorem Run.lax {st:Bool} {k0:Nat} {p:Pp α} (h:Run M f st k0 p):Run M f false k0 p:=⟨h.out,fun k h1 h2 a k' h3=>⟨(h.ok k h1 h2 a k' h3).1,(h.ok k h1 h2 a k' h3).2.1,fun e=>pB⟩⟩
theorem Run.ret {k0:Nat} (a:α):Run M f false k0 (ret a):=⟨fun k _ _ h=>(by cases h),fun k h1 h2 a k' h=>(by injection h with _ h;subst h;exact⟨bN _,h2,fun e=>pB⟩)⟩
theorem Run.fail {st:Bool} {k0:Nat}:Run M f st k0 (fail:Pp α):=⟨fun k _ _ h=>(by cases h),fun k h1 h2 a k' h=>(by cases h)⟩
theorem Run.bind {s1 s2:Bool} {k0:Nat} {p:Pp α} {g:α→Pp β} (hp:Run M f s1 k0 p) (hg:∀ a,Run M f s2 (bif s1 then k0+1 else k0) (g a)):Run M f (s1||s2) k0 (bind p g):=by
 have hb:∀ k,k0≤k→k≤M→∀ a k1,p f k = .ok a k1→(bif s1 then k0+1 else k0)≤k1:=fun k h1 h2 a k1 hx=>by
  have:=hp.ok k h1 h2 a k1 hx;cases s1 with
  | true=>have:=this.2.2 rfl;show k0+1≤k1;omega
  | false=>show k0≤k1;omega
 refine⟨fun k h1 h2 h=>?_,fun k h1 h2 b k' h=>?_⟩
 ·unfold Ps.bind at h;cases hx:p f k with
  | ok a k1 =>
   simp only[hx]at h;exact(hg a).out k1 (hb k h1 h2 a k1 hx) (hp.ok k h1 h2 a k1 hx).2.1 h
  | bad k1=>simp only[hx]at h;cases h
  | out=>exact hp.out k h1 h2 hx
 ·unfold Ps.bind at h;cases hx:p f k with
  | ok a k1 =>
   simp only[hx]at h;have q1:=hp.ok k h1 h2 a k1 hx;have q2:=(hg a).ok k1 (hb k h1 h2 a k1 hx) q1.2.1 b k' h;refine⟨by omega,q2.2.1,fun e=>?_⟩;cases s1 with
   | true=>have:=q1.2.2 rfl;omega
   | false=>have:=q2.2.2 e;omega
  | bad k1=>simp only[hx]at h;cases h
  | out=>simp only[hx]at h;cases h
theorem Run.step {st:Bool} {k0:Nat} {A:Pp α} {k:Nat} (h:Run M f st (k0+1) A) (h1:k0≤k) (hlt:k<M):A f (k+1)≠.out∧∀ a k',A f (k+1) = .ok a k'→k<k'∧k'≤M :=
 ⟨h.out _ oM oM,fun a k' hx=>(by have:=h.ok _ oM oM a k' hx;omega)⟩
theorem isM_some {s:Str} {k:Nat} (h:isM s f k=true):f k≠none:=fun e=>by unfold isM at h;rw[e]at h;cases h
variable (hf:∀ i,M≤i→f i=none)
include hf
theorem at_lt {k:Nat} (h:f k≠none):k<M:=by
 rcases Nat.lt_or_ge k M with h1 | h1
 ·exact h1
 ·exact absurd (hf k h1) h
theorem Run.tok {s1 st:Bool} {k0:Nat} {s:Str} {A B:Pp α} (hA:Run M f s1 (k0+1) A) (hB:Run M f st k0 B):Run M f st k0 (tok s A B):=by
 refine⟨fun k h1 h2 h=>?_,fun k h1 h2 a k' h=>?_⟩
 ·unfold Ps.tok at h;cases hb:isM s f k with
  | true=>simp only[hb,cJ]at h;exact(hA.step h1 (at_lt hf (isM_some hb))).1 h
  | false=>simp only[hb,cI]at h;exact hB.out k h1 h2 h
 ·unfold Ps.tok at h;cases hb:isM s f k with
  | true =>
   simp only[hb,cJ]at h;have:=(hA.step h1 (at_lt hf (isM_some hb))).2 a k' h;exact jF
  | false=>simp only[hb,cI]at h;exact hB.ok k h1 h2 a k' h
theorem Run.need {s1 st:Bool} {k0:Nat} {s:Str} {A:Pp α} (hA:Run M f s1 (k0+1) A):Run M f st k0 (need s A):=Run.tok hf hA Run.fail
theorem Run.tkn {s1 st:Bool} {k0:Nat} {c:Int} {A:Tk→Pp α} {B:Pp α} (hA:∀ t,Run M f s1 (k0+1) (A t)) (hB:Run M f st k0 B):Run M f st k0 (tkn c A B):=by
 refine⟨fun k h1 h2 h=>?_,fun k h1 h2 a k' h=>?_⟩
 ·unfold Ps.tkn at h;cases hx:f k with
  | none=>simp only[hx]at h;exact hB.out k h1 h2 h
  | some t =>
   cases hb:decide (t.kind=c)with
   | true=>simp only[hx,hb,cJ]at h;exact((hA t).step h1 (at_lt hf (by rw[hx];exact fun e=>pB))).1 h
   | false=>simp only[hx,hb,cI]at h;exact hB.out k h1 h2 h
 ·unfold Ps.tkn at h;cases hx:f k with
  | none=>simp only[hx]at h;exact hB.ok k h1 h2 a k' h
  | some t =>
   cases hb:decide (t.kind=c)with
   | true =>
    simp only[hx,hb,cJ]at h;have:=((hA t).step h1 (at_lt hf (by rw[hx];exact fun e=>pB))).2 a k' h;exact jF
   | false=>simp only[hx,hb,cI]at h;exact hB.ok k h1 h2 a k' h
theorem Run.name {s1 st:Bool} {k0:Nat} {A:Str→Pp α} (hA:∀ t,Run M f s1 (k0+1) (A t)):Run M f st k0 (name A):=Run.tkn hf (fun t=>hA t.text) Run.fail
theorem Run.oneOf {s1 st:Bool} {k0:Nat} {ops:List Str} {A:Str→Pp α} {B:Pp α} (hA:∀ t,Run M f s1 (k0+1) (A t)) (hB:Run M f st k0 B):Run M f st k0 (oneOf ops A B):=by
 refine⟨fun k h1 h2 h=>?_,fun k h1 h2 a k' h=>?_⟩
 ·unfold Ps.oneOf at h;cases hx:ops.find? (fun s=>isM s f k)with
  | none=>simp only[hx]at h;exact hB.out k h1 h2 h
  | some t=>simp only[hx]at h;exact((hA t).step h1 (at_lt hf (isM_some (List.find?_some (p:=fun s=>isM s f k) hx)))).1 h
 ·unfold Ps.oneOf at h;cases hx:ops.find? (fun s=>isM s f k)with
  | none=>simp only[hx]at h;exact hB.ok k h1 h2 a k' h
  | some t =>
   simp only[hx]at h;have:=((hA t).step h1 (at_lt hf (isM_some (List.find?_some (p:=fun s=>isM s f k) hx)))).2 a k' h;exact jF
omit hf
theorem Run.peek {st:Bool} {k0:Nat} {q:F→Nat→Bool} {A B:Pp α} (hA:Run M f st k0 A) (hB:Run M f st k0 B):Run M f st k0 (peek q A B):=by
 refine⟨fun k h1 h2 h=>?_,fun k h1 h2 a k' h=>?_⟩
 ·unfold Ps.peek at h;cases hb:q f k with
  | true=>simp only[hb,cJ]at h;exact hA.out k h1 h2 h
  | false=>simp only[hb,cI]at h;exact hB.out k h1 h2 h
 ·unfold Ps.peek at h;cases hb:q f k with
  | true=>simp only[hb,cJ]at h;exact hA.ok k h1 h2 a k' h
  | false=>simp only[hb,cI]at h;exact hB.ok k h1 h2 a k' h
include hf
theorem Run.commas {X:Pp α}:∀(j k0:Nat),M+1≤j+k0→Run M f true k0 X→Run M f true k0 (commas j X)
 | 0,k0,h,hX=>Run.vac oM
 | j+1,k0,h,hX=>by
  refine Run.bind (s2:=false) hX fun a=>Run.tok hf (s1:=true) ?_ (Run.ret _);exact Run.bind (s2:=false) (Run.commas j _ (by show M+1≤j+(k0+1+1);omega) (hX.up (by show k0≤k0+1+1;omega))) fun l=>Run.ret _
theorem Run.upto {X:Pp α} {s:Str}:∀(j k0:Nat),M+1≤j+k0→Run M f true k0 X→Run M f true k0 (upto j s X)
 | 0,k0,h,hX=>Run.vac oM
 | j+1,k0,h,hX=>by
  refine Run.tok hf (Run.ret _) (Run.bind (s2:=false) hX fun a=>?_);exact(Run.bind (s2:=false) (Run.upto j _ (by show M+1≤j+(k0+1);omega) (hX.up (by show k0≤k0+1;omega))) fun l=>Run.ret _).lax
theorem Run.loopB {X:Pp Tree} {ops:List Str}:∀(j k0:Nat) (n:Tree),M+1≤j+k0→Run M f true k0 X→Run M f false k0 (loopB j ops X n)
 | 0,k0,n,h,hX=>Run.vac oM
 | j+1,k0,n,h,hX=>by
  refine Run.oneOf hf (s1:=true) (fun op=>?_) (Run.ret _);exact Run.bind (s2:=false) (hX.up oM) fun m=>Run.loopB j _ _ (by show M+1≤j+(k0+1+1);omega) (hX.up (by show k0≤k0+1+1;omega))
theorem Run.binL {N:Nat} {U:Pp Tree} {k0:Nat} (hN:M+1≤N) (hU:Run M f true k0 U):∀ l,Run M f true k0 (binL N U l)
 | []=>hU
 | ops::rest=>Run.bind (s2:=false) (Run.binL hN hU rest) fun n=>Run.loopB hf N _ n (by show M+1≤N+(k0+1);omega) ((Run.binL hN hU rest).up (by show k0≤k0+1;omega))
theorem Run.inP {N:Nat} {s:Str} {X:Pp α} {k0:Nat} (hN:M+1≤N) (hX:Run M f true k0 X):Run M f true k0 (inP N s X):=by
 refine Run.tok hf (Run.ret _) (Run.bind (s2:=true) (Run.commas hf N k0 oM hX) fun l=>Run.need hf (Run.ret _))
theorem Run.results {N:Nat} {typ:Pp Tree} {k0:Nat} (hN:M+1≤N) (h:Run M f true k0 typ):Run M f false k0 (resultsP N typ):=by
 refine Run.tok hf (s1:=true) (Run.bind (s2:=true) (Run.commas hf N _ oM (h.up oM)) fun l=>Run.need hf (Run.ret _)) (Run.peek (Run.bind (s2:=false) h fun t=>Run.ret _).lax (Run.ret _))
theorem Run.sigLike {N:Nat} {kind:Int} {X typ:Pp Tree} {k0:Nat} (hN:M+1≤N) (hX:Run M f true (k0+1) X) (h:Run M f true (k0+1) typ):Run M f true k0 (sigLike N kind X typ) :=
 Run.need hf (s1:=true) (Run.bind (s2:=false) (Run.inP hf hN hX) fun ps=>Run.bind (s2:=false) (Run.results hf hN (h.up (by show k0+1≤k0+1+1;omega))) fun rs=>Run.ret _)
theorem Run.param {typ:Pp Tree} {k0:Nat} (h:Run M f true (k0+1) typ):Run M f true k0 (paramP typ):=Run.name hf (s1:=true) fun s=>Run.bind (s2:=false) h fun t=>Run.ret _
theorem Run.sig {N:Nat} {typ:Pp Tree} {k0:Nat} (hN:M+1≤N) (h:Run M f true (k0+1) typ):Run M f true k0 (sigP N typ):=Run.sigLike hf hN (Run.param hf (h.up oM)) h
structure GRun (g:Gr) (n k0:Nat):Prop where
 typ:3*M+1≤n+3*k0→Run M f true k0 g.typ
 block:3*M+1≤n+3*k0→Run M f true k0 g.block
 branch:3*M+1≤n+3*k0→Run M f true k0 g.branch
 unary:∀ b,3*M+1≤n+3*k0→Run M f true k0 (g.unary b)
 expr:∀ b,3*M+2≤n+3*k0→Run M f true k0 (g.expr b)
 stmt:3*M+3≤n+3*k0→Run M f true k0 g.stmt
omit hf
theorem Run.bret {s1:Bool} {k0:Nat} {p:Pp α} (g:α→β) (hp:Run M f s1 k0 p):Run M f s1 k0 (Ps.bind p fun a=>Ps.ret (g a)):=by
 have:=Run.bind (s2:=false) hp fun a=>Run.ret (g a)
 rwa [cF]at this
theorem Run.bind1 {k0:Nat} {p:Pp α} {g:α→Pp β} (hp:Run M f true k0 p) (hg:∀ a,Run M f false (k0+1) (g a)):Run M f true k0 (Ps.bind p g):=Run.bind hp hg
include hf
theorem Run.tokIf {s1 st c:Bool} {k0:Nat} {s:Str} {A B:Pp α} (hA:Run M f s1 (k0+1) A) (hB:Run M f st k0 B):Run M f st k0 (tokIf c s A B):=by
 cases c with
 | true=>exact Run.tok hf hA hB
 | false=>exact hB
section
variable {N:Nat} (hN:M+1≤N)
include hN
theorem Run.typP {typ:Pp Tree} {k0:Nat} (h:Run M f true (k0+1) typ):Run M f true k0 (typP N typ) :=
 Run.tok hf (Run.bret _ h) (Run.tok hf (s1:=true) (Run.need hf (Run.bret _ (h.up oM))) (Run.tok hf (Run.sigLike hf hN (h.up oM) (h.up oM)) (Run.name hf fun s=>Run.ret _)))
omit hN in
theorem Run.fieldP {mb:Pp Tree} {k0:Nat} (h:Run M f true (k0+1) mb):Run M f true k0 (fieldP mb) :=
 Run.name hf (s1:=true) fun s=>Run.bind1 h fun t=>Run.need hf (s1:=false) (Run.ret _)
theorem Run.bodyP {kind:Int} {nm:Str} {mb:Pp Tree} {k0:Nat} (h:Run M f true (k0+1) mb):Run M f true k0 (bodyP N kind nm mb) :=
 Run.need hf (s1:=true) (Run.bret _ (Run.upto hf N _ oM (Run.fieldP hf (h.up oM))))
theorem Run.typeDeclP {typ:Pp Tree} {k0:Nat} (h:Run M f true (k0+1) typ):Run M f true k0 (typeDeclP N typ) :=
 Run.name hf (s1:=true) fun nm=>Run.tok hf (Run.bodyP hf hN (Run.sig hf hN (h.up oM))) (Run.need hf (Run.bodyP hf hN (h.up oM)))
theorem Run.declP {typ block:Pp Tree} {k0:Nat} (h:Run M f true (k0+1) typ) (hb:Run M f true (k0+1) block):Run M f true k0 (declP N typ block):=by
 refine Run.tok hf (Run.typeDeclP hf hN (h.up oM)) (Run.need hf (s1:=true) (Run.tok hf (s1:=true) ?_ ?_))
 ·refine Run.name hf (s1:=true) fun recv=>Run.need hf (s1:=true) (Run.name hf (s1:=true) fun of=>Run.need hf (s1:=true) (Run.name hf (s1:=true) fun nm=>?_));exact jf
 ·refine Run.name hf (s1:=true) fun nm=>?_;exact jf
theorem Run.blockP {stmt:Pp Tree} {k0:Nat} (h:Run M f true (k0+1) stmt):Run M f true k0 (blockP N stmt) :=
 Run.need hf (s1:=true) (Run.bret _ (Run.upto hf N _ oM h))
omit hN in
theorem Run.branchP {expr block branch:Pp Tree} {k0:Nat} (he:Run M f true (k0+1) expr) (hb:Run M f true (k0+1) block) (hr:Run M f true (k0+1) branch):Run M f true k0 (branchP expr block branch):=by
 refine Run.need hf (s1:=true) (Run.bind1 he fun c=>Run.lax (Run.bind1 (hb.up oM) fun b=>Run.tok hf (s1:=true) (Run.peek ?_ ?_) (Run.ret _)))
 ·exact Run.bret _ (hr.up oM)
 ·exact Run.bret _ (hb.up oM)
omit hf hN in
theorem Run.forP {expr block:Pp Tree} {k0:Nat} (he:Run M f true k0 expr) (hb:Run M f true k0 block):Run M f true k0 (forP expr block) :=
 Run.peek (Run.bret _ hb) (Run.bind1 he fun c=>(Run.bret _ (hb.up oM)).lax)
theorem Run.assignP {expr:Pp Tree} {left:List Tree} {k0:Nat} (he:Run M f true (k0+1) expr):Run M f false k0 (assignP N expr left):=by
 refine Run.tokIf hf (Run.bret _ (Run.commas hf N _ oM he)) (Run.tokIf hf (Run.bret _ (Run.commas hf N _ oM he)) ?_);cases isC1 left with
 | true=>exact Run.peek (Run.ret _) Run.fail
 | false=>exact Run.fail
theorem Run.simpleP {typ expr:Pp Tree} {k0:Nat} (h:Run M f true (k0+1) typ) (he:Run M f true k0 expr):Run M f true k0 (simpleP N typ expr):=by
 refine Run.tok hf (s1:=true) (Run.name hf (s1:=true) fun s=>Run.bind1 (h.up oM) fun t=>Run.tok hf (Run.bret _ (he.up oM)) (Run.ret _)) ?_;refine Run.tok hf (s1:=false) (Run.peek (Run.ret _) (Run.bret _ (Run.commas hf N _ oM (he.up oM))).lax) ?_;refine Run.tok hf (Run.ret _) (Run.tok hf (Run.ret _) ?_);exact Run.bind1 (Run.commas hf N _ oM he) fun l=>Run.assignP hf hN (he.up oM)
theorem Run.exprsP {s:Str} {expr:Pp Tree} {k0:Nat} (he:Run M f true k0 expr):Run M f true k0 (exprsP N s expr):=Run.inP hf hN he
omit hN
theorem Run.cutP {expr:Pp Tree} {num:Int} {ks:List Tree} {k0:Nat} (he:Run M f true (k0+1) expr):Run M f true k0 (cutP expr num ks) :=
 Run.need hf (s1:=true) (Run.tok hf (Run.ret _) (Run.bind1 he fun e=>Run.need hf (Run.ret _)))
theorem Run.indexP {expr:Pp Tree} {n:Tree} {k0:Nat} (he:Run M f true k0 expr):Run M f true k0 (indexP expr n) :=
 Run.peek (Run.cutP hf (he.up oM)) (Run.bind1 he fun e=>Run.tok hf (Run.ret _) (Run.cutP hf (he.up oM)).lax)
include hN
theorem Run.postP {expr:Pp Tree}:∀(j k0:Nat) (n:Tree),M+1≤j+k0→Run M f true (k0+1) expr→Run M f false k0 (postP N expr j n)
 | 0,k0,n,h,he=>Run.vac oM
 | j+1,k0,n,h,he=>by
  refine Run.tok hf (s1:=true) (Run.name hf fun s=>Run.postP j _ _ oM (he.up oM)) ?_;refine Run.tok hf (s1:=true) (Run.bind1 (Run.indexP hf he) fun t=>Run.postP j _ _ oM (he.up oM)) ?_;exact Run.tok hf (s1:=true) (Run.bind1 (Run.exprsP hf hN he) fun l=>Run.postP j _ _ oM (he.up oM)) (Run.ret _)
theorem Run.primP {typ block expr:Pp Tree} {h:Bool} {k0:Nat} (ht:Run M f true (k0+1) typ) (hb:Run M f true (k0+1) block) (he:Run M f true (k0+1) expr):Run M f true k0 (primP N typ block expr h):=by
 refine Run.tkn hf (fun t=>Run.ret _) (Run.tkn hf (fun t=>Run.ret _) (Run.tok hf (Run.ret _) (Run.tok hf (Run.ret _) (Run.tok hf (Run.ret _) ?_))));refine Run.tok hf (Run.bind1 he fun t=>Run.need hf (Run.ret _)) ?_;refine Run.tok hf (s1:=true) (Run.need hf (s1:=true) (Run.bind1 (ht.up oM) fun t=>Run.need hf (s1:=true) (Run.bret _ (Run.exprsP hf hN (he.up oM))))) ?_;refine Run.tok hf (s1:=true) (Run.bind1 (Run.sig hf hN (ht.up oM)) fun s=>(Run.bret _ (hb.up oM)).lax) ?_;refine Run.name hf (s1:=false) fun s=>?_;cases h with
 | true=>exact Run.ret _
 | false=>exact Run.tok hf (Run.bret _ (Run.exprsP hf hN (he.up oM))) (Run.ret _)
theorem GRun.all : ∀(n k0:Nat),GRun (M:=M) (f:=f) (gr N n) n k0
 | 0,k0=>⟨fun h=>Run.vac oM,fun h=>Run.vac oM,fun h=>Run.vac oM,fun b h=>Run.vac oM,fun b h=>Run.vac oM,fun h=>Run.vac oM⟩
 | n+1,k0=>by
  have IH:=GRun.all n;refine⟨fun h=>?_,fun h=>?_,fun h=>?_,fun b h=>?_,fun b h=>?_,fun h=>?_⟩
  ·exact Run.typP hf hN ((IH (k0+1)).typ oM)
  ·exact Run.blockP hf hN ((IH (k0+1)).stmt oM)
  ·exact Run.branchP hf ((IH (k0+1)).expr _ oM) ((IH (k0+1)).block oM) ((IH (k0+1)).branch oM)
  ·refine Run.oneOf hf (fun op=>Run.bret _ ((IH (k0+1)).unary b oM)) ?_;exact Run.bind1 (Run.primP hf hN ((IH (k0+1)).typ oM) ((IH (k0+1)).block oM) ((IH (k0+1)).expr _ oM)) fun t=>Run.postP hf hN N _ _ oM ((IH (k0+1+1)).expr _ oM)
  ·exact Run.binL hf hN ((IH k0).unary b oM) _
  ·refine Run.peek ((IH k0).block oM) (Run.peek ((IH k0).branch oM) (Run.tok hf (Run.forP ((IH (k0+1)).expr _ oM) ((IH (k0+1)).block oM)) ?_));exact Run.bind1 (Run.simpleP hf hN ((IH (k0+1)).typ oM) ((IH k0).expr _ oM)) fun s=>Run.need hf (Run.ret _)
theorem Run.declG {n k0:Nat} (h:3*M+1≤n+3*(k0+1)):Run M f true k0 (declG N n) :=
 Run.declP hf hN ((GRun.all hf hN n (k0+1)).typ h) ((GRun.all hf hN n (k0+1)).block h)
end
omit hf in
theorem Run.progL {decl:Pp Tree}:∀(j k0:Nat),M+1≤j+k0→Run M f true k0 decl→Run M f false k0 (progL decl j)
 | 0,k0,h,hd=>Run.vac oM
 | j+1,k0,h,hd=>by
  have hr:Run M f false k0 (Ps.bind decl fun a=>Ps.bind (Ps.progL decl j) fun l=>Ps.ret (a::l)):=(Run.bind1 hd fun a=>Run.bret _ (Run.progL j (k0+1) oM (hd.up oM))).lax;refine⟨fun k h1 h2 h=>?_,fun k h1 h2 a k' h=>?_⟩
  ·unfold Ps.progL at h;cases hb:(f k).isNone with
   | true=>simp only[hb,cJ]at h;cases h
   | false=>simp only[hb,cI]at h;exact hr.out k h1 h2 h
  ·unfold Ps.progL at h;cases hb:(f k).isNone with
   | true=>simp only[hb,cJ]at h;injection h with _ h;subst h;exact⟨bN _,h2,fun e=>pB⟩
   | false=>simp only[hb,cI]at h;exact hr.ok k h1 h2 a k' h
theorem Run.program : Run M f false 0 (program M):=Run.progL (M+1) 0 oM (Run.declG hf (bN _) oM)
end
end Go.Ps
namespace Go.Sep
theorem tkF_none (l:List Tok):∀ i,l.length≤i→tkF l i=none:=fun i h=>by unfold tkF;rw[bM h]
theorem program_ne (l:List Tok):Ps.program l.length (tkF l) 0≠.out:=(Ps.Run.program (tkF_none l)).out 0 (bN _) (cw _)
end Go.Sep
namespace Go.Sep
open Go.Proofs Go.Ck
attribute [local irreducible] TC TO OT TCallX TCall DO DOt thenQ blockQ retQ At
def awT (x:Tree):Tree:=.mk 1 [] 0 [.mk 4 [109,97,105,110] 0 [.mk 7 [] 0 [],.mk 20 [] 0 [.mk 24 [] 0 [.mk 51 [] 0 [.mk 44 [112,114,105,110,116] 0 [],x]]]]]
def aT : Tree:=awT (.mk 40 [] 1 [])
def bT : Tree:=awT (.mk 43 [] 0 [])
theorem parse_sA : parseD sA=⟨aT,0,0⟩:=uK
theorem parse_sB : parseD sB=⟨bT,0,0⟩:=uK
theorem chk_aT : chkT aT=0:=uK
theorem chk_bT : chkT bT=5:=uK
theorem ends_aT : endsO aT=false:=uK
theorem wide_aT : aT.wide≤140737488355328:=by decide
theorem wide_bT : bT.wide≤140737488355328:=by decide
theorem awake5_law (m:Mem) (L:List Item) (hE:Errs m):TCall Tryz.prog 10 ⟨[]⟩ m L (Made m L fun r _=>r = .bool true):=by
 unfold TCall;refine am Tryz.func10 38 ?_;refine oC goes14 ((parse_law program_ne _ _ sA hE).x ?_);rw[parse_sA];rintro _ m1 _ ⟨hm1,rfl,x,rfl,hx⟩;replace hx:TreeRep m1 x aT:=hx;refine uA ?_;refine aD tab (fun b1=>?_);refine kH ?_;refine oC goes14 ((parse_law program_ne _ _ sB (hE.mono hm1)).x ?_);rw[parse_sB];rintro _ m2 _ ⟨hm2,rfl,y,rfl,hy⟩;replace hy:TreeRep m2 y bT:=hy;refine uA ?_;refine aD tab (fun b4=>?_);refine kR ?_;refine oC goes15 ((Check_law aT wide_aT _ _ x (hx.mono hm2)).x ?_);rw[chk_aT];rintro _ m3 _ ⟨hm3,rfl,rfl⟩;refine uL ?_;refine oC goes15 ((Check_law bT wide_bT _ _ y (hy.mono hm3)).x ?_);rw[chk_bT];rintro _ m4 _ ⟨hm4,rfl,rfl⟩;refine uL ?_;refine oC goes12 ((Ends_law aT _ _ x ((hx.mono hm2).mono (cN hm3 hm4)) wide_aT).x ?_);rw[ends_aT];rintro _ m5 _ ⟨hm5,rfl,rfl⟩;refine uA ?_;refine af (L':=L) ⟨cN hm1 (cN hm2 (cN hm3 (cN hm4 hm5))),rfl,rfl⟩
end Go.Sep
namespace Go.Sep
open Go.Proofs
attribute [local irreducible] TC TO OT TCallX TCall DO DOt thenQ blockQ retQ At
theorem basic_ref (m:Mem) (L:List Item) (s:Str):TCall Tryz.prog 44 ⟨[strV s]⟩ m L (Ret (.int .i64 (basicOf s)) m L):=by
 unfold TCall;refine am Tryz.func44 10 ?_;exact fA
theorem rot3' {α:Type} {a b c:α} {L:List α}:(b::c::a::L).Perm (a::b::c::L):=rot3.symm
theorem t_ref (m:Mem) (L:List Item) (k:Int) (s:Sl):TCall Tryz.prog 45 ⟨[.int .i64 k,s.v]⟩ m L (Ret (treeV ⟨k,[],0,s⟩) m L):=by
 unfold TCall;refine am Tryz.func45 8 ?_;refine aD tab (fun b=>?_);refine kH ?_;exact retQ_ret_c1 tab 0 rfl rfl rfl rfl uS ⟨rfl,rfl,rfl⟩
theorem from_ref (a:Tree):∀(hn:okNode a=true) (m:Mem) (L:List Item) (h:HTree) (hr:TreeRep m h a) (hB:a.bulk≤1048576),TCall Tryz.prog 22 ⟨[treeV h]⟩ m L (MadeT m L a.ofT):=by
 induction a using Tree.ind with
 | h a ih =>
 intro hn m L h hr hB;have hr':=hr;obtain⟨h1,h2,h3,h4⟩:=hr;have hl:=h4.len;have hsm:=h4.small rfl;have hbl:=bulk_len a.kids;have hkb:bulkL a.kids<a.bulk:=by obtain⟨_,_,_,ks⟩:=a;simp only[Tree.bulk,Tree.kids];omega
 rw[ofT_eq];unfold TCall;refine aU Tryz.func22 58 ?_;rcases okNode_facts hn with ⟨h10,hu,hks⟩ | ⟨h11,hu,hkn⟩ | ⟨h13,hkn⟩ | ⟨h8,k,hks,hkn⟩
 ·rw[if_pos h10];obtain⟨k,n,u,s⟩:=h;obtain rfl:k=10:=h1.trans h10;simp only at h2 h3;refine uA ?_;refine aZ (fun b=>?_);refine oA tab (fun b2=>?_);refine uL ?_;refine aD tab (fun b3=>?_);refine kR ?_;refine ap goes44 (basic_ref _ _ n) ?_;refine ak (fun h0=>?_) (fun h0=>?_)
  ·rw[if_neg (by rw[←h2];omega)];refine uL ?_;refine ap goes44 (basic_ref _ _ n) ?_;refine ap goes45 (t_ref _ _ (basicOf n) ⟨none,0,0⟩) ?_;refine kH ?_;exact retQ_ret_c1 tab 1 rfl rfl rfl rfl uS ⟨cM _,rfl,⟨basicOf n,[],0,⟨none,0,0⟩⟩,rfl,by rw[←h2];exact dw _ _ _ _⟩
  ·have hb:0≤basicOf n:=by unfold basicOf;repeat' split<;>omega
   rw[if_pos (by rw[←h2];omega)];refine nW ?_;exact retQ_ret_c1 tab 1 rfl rfl rfl rfl uS ⟨cM _,rfl,⟨4,n,0,⟨none,0,0⟩⟩,rfl,by rw[←h2];exact dw _ _ _ _⟩
 ·have h10:¬a.kind=10:=oM;have h8:¬a.kind=8:=oM;rw[if_neg h10,if_neg h8];have h12:h.kind=11∨h.kind=12:=qn;obtain⟨k,n,u,s⟩:=h;rcases h12 with h12 | h12
  ·simp only at h12;subst h12;rw[if_pos (show a.kind=11 from h1.symm)];refine uA ?_;refine aZ (fun b=>?_);refine oA tab (fun b2=>?_);refine uL ?_;refine aD tab (fun b3=>?_);refine mu ?_;refine cS (ι:=Grow) [1,2,3] rfl (fun g=>[(4,.int .i64 (g.k:Int))]) (fun g=>g.m) (fun g=>tok g.s 4::.cells b3 0 [.int .i64 5,strV [],.int .i64 0,g.s.v]::.cells b2 0 (treeC ⟨0,[],0,⟨none,0,0⟩⟩)::.cells b 0 (treeC ⟨11,n,u,s⟩)::L) (fun g=>g.k≤a.kids.length∧SlRep rTree g.m g.s ((a.kids.take g.k).map Tree.ofT)∧Own g.s∧m≤g.m) (fun g=>a.kids.length-g.k) ⟨0,⟨none,0,0⟩,m⟩ uH rfl uS ⟨cw _,db _ _,di,cM _⟩ ?_;rintro⟨k,t,m1⟩ ⟨hk,ht,hown,hm1⟩;simp only at hk ht hown hm1 ⊢;have h41:=h4.mono hm1;simp only at hl hsm;refine uL ?_;refine ak (fun hlt'=>?_) (fun hlt'=>?_)
   ·exact dP
   ·exact gW
  ·simp only at h12;subst h12;rw[if_neg (show ¬a.kind=11 from fun e=>by rw[e]at h1;cases h1),if_pos (show a.kind=12 from h1.symm)];refine uA ?_;refine aZ (fun b=>?_);refine oA tab (fun b2=>?_);refine uL ?_;refine aD tab (fun b3=>?_);refine mu ?_;refine cS (ι:=Grow) [1,2,3] rfl (fun g=>[(4,.int .i64 (g.k:Int))]) (fun g=>g.m) (fun g=>tok g.s 4::.cells b3 0 [.int .i64 6,strV [],.int .i64 0,g.s.v]::.cells b2 0 (treeC ⟨0,[],0,⟨none,0,0⟩⟩)::.cells b 0 (treeC ⟨12,n,u,s⟩)::L) (fun g=>g.k≤a.kids.length∧SlRep rTree g.m g.s ((a.kids.take g.k).map Tree.ofT)∧Own g.s∧m≤g.m) (fun g=>a.kids.length-g.k) ⟨0,⟨none,0,0⟩,m⟩ uH rfl uS ⟨cw _,db _ _,di,cM _⟩ ?_;rintro⟨k,t,m1⟩ ⟨hk,ht,hown,hm1⟩;simp only at hk ht hown hm1 ⊢;have h41:=h4.mono hm1;simp only at hl hsm;refine uL ?_;refine ak (fun hlt'=>?_) (fun hlt'=>?_)
   ·exact dP
   ·exact gW
 ·have h10:¬a.kind=10:=oM;have h8:¬a.kind=8:=oM;rw[if_neg h10,if_neg h8,if_neg oM,if_neg oM];have h12:h.kind=13∨h.kind=7:=by rw[h1];exact h13
  obtain⟨k,n,u,s⟩:=h;rcases h12 with h12 | h12
  ·simp only at h12;subst h12;refine uA ?_;refine aZ (fun b=>?_);refine oA tab (fun b2=>?_);refine uL ?_;refine aD tab (fun b3=>?_);refine kR ?_;refine ng ?_;refine DO.fork 1 [3] uK ⟨⟨_,rfl,rfl,rfl,?_⟩,⟨_,rfl,rfl,rfl,?_⟩,trivial⟩
   ·refine OT.loadL tab 1 rfl rfl rfl rfl rfl rfl ?_;refine oa ?_;refine kK ?_;refine de tab pH uK [4] uK rfl ?_;refine ld ?_;rintro⟨k,t,m1⟩ ⟨hk,ht,hown,hm1⟩;simp only at hk ht hown hm1 ⊢;have h41:=h4.mono hm1;simp only at hl hsm;refine uL ?_;refine ak (fun hlt'=>?_) (fun hlt'=>?_)
    ·exact dP
    ·simp only at hlt';exact eB
   ·refine aE 2 ?_;refine np ?_;refine kK ?_;refine de tab pH uK [4] uK rfl ?_;refine ld ?_;rintro⟨k,t,m1⟩ ⟨hk,ht,hown,hm1⟩;simp only at hk ht hown hm1 ⊢;have h41:=h4.mono hm1;simp only at hl hsm;refine uL ?_;refine ak (fun hlt'=>?_) (fun hlt'=>?_)
    ·exact dP
    ·simp only at hlt';exact eB
  ·simp only at h12;subst h12;refine uA ?_;refine aZ (fun b=>?_);refine oA tab (fun b2=>?_);refine uL ?_;refine aD tab (fun b3=>?_);refine kR ?_;refine ng ?_;refine DO.fork 1 [3] uK ⟨⟨_,rfl,rfl,rfl,?_⟩,⟨_,rfl,rfl,rfl,?_⟩,trivial⟩
   ·refine OT.loadL tab 1 rfl rfl rfl rfl rfl rfl ?_;refine oa ?_;refine kK ?_;refine de tab pH uK [4] uK rfl ?_;refine lg ?_;rintro⟨k,t,m1⟩ ⟨hk,ht,hown,hm1⟩;simp only at hk ht hown hm1 ⊢;have h41:=h4.mono hm1;simp only at hl hsm;refine uL ?_;refine ak (fun hlt'=>?_) (fun hlt'=>?_)
    ·exact dP
    ·simp only at hlt';exact eB
   ·refine aE 2 ?_;refine np ?_;refine kK ?_;refine de tab pH uK [4] uK rfl ?_;refine lg ?_;rintro⟨k,t,m1⟩ ⟨hk,ht,hown,hm1⟩;simp only at hk ht hown hm1 ⊢;have h41:=h4.mono hm1;simp only at hl hsm;refine uL ?_;refine ak (fun hlt'=>?_) (fun hlt'=>?_)
    ·exact dP
    ·simp only at hlt';exact eB
 ·rw[if_neg oM,if_pos h8,hks];have hmem:k∈a.kids:=by rw[hks];simp
  obtain⟨k',n,u,s⟩:=h;obtain rfl:k'=8:=h1.trans h8;have hx:a.kids[0]? = some k:=by rw[hks];rfl
  refine uA ?_;refine aZ (fun b=>?_);refine oA tab (fun b2=>?_);refine uL ?_;refine aD tab (fun b3=>?_);refine kR ?_;refine ll ?_;rintro b' i' h' hrd hA;refine lb ?_;refine oC goes22 ((ih k hmem hkn _ _ h' (rTree_iff.1 hrd) (bO (Nat.le_of_lt (bulk_kid hmem)) hB)).x ?_);exact ie
end Go.Sep
namespace Go.Sep
open Go.Proofs
attribute [local irreducible] TC TO OT TCallX TCall DO DOt thenQ blockQ retQ At
theorem find_ref (m:Mem) (L:List Item) (s:Sl) (l:List Decl) (n:Str) (hs:SlRep rDecl m s l):TCall Tryz.prog 49 ⟨[s.v,strV n]⟩ m L (Ret (.int .i64 (idxD l n)) m L):=by
 unfold TCall;refine aU Tryz.func49 20 ?_;have hl:=hs.len;have hsm:=hs.small rfl;unfold idxD;refine uA ?_;refine cS (ι:=Nat) [0,1] rfl (fun k=>[(5,.int .i64 (k:Int))]) (fun _=>m) (fun _=>L) (fun k=>k≤l.length∧idxP l (fun d=>decide (d.name=n)) 0=idxP (l.drop k) (fun d=>decide (d.name=n)) k) (fun k=>l.length-k) 0 uH rfl uS ⟨cw _,rfl⟩ ?_;rintro k ⟨hk,hI⟩;refine uA ?_;refine ak (fun h=>?_) (fun h=>?_)
 ·have hlt:k<l.length:=oM;have hx:l[k]? = some l[k]:=oT;refine uA ?_;refine lK ?_;rintro b i hd hr hA;have hn:hd.name=l[k].name:=hr.name;refine mq ?_;refine ak (fun h2=>?_) (fun h2=>?_)
  ·refine uA ?_;refine kG ?_;rw[hI,ci hlt,idxP,if_pos (by rw[←hn];exact ce h2)]
  ·refine uA ?_;refine kJ ?_;exact⟨k+1,uH,uH,rfl,rfl,uS,⟨by omega,by rw[hI,ci hlt,idxP,if_neg (by rw[←hn];simp[h2])]⟩,by omega⟩
 ·exact fT
theorem all_ref (a:Tree):∀(m:Mem) (L:List Item) (s:Sl) (l:List Decl) (hs:SlRep rDecl m s l) (h:HTree) (hr:TreeRep m h a),TCall Tryz.prog 50 ⟨[s.v,treeV h]⟩ m L (Ret (.bool (allB (hasD l) a)) m L):=by
 induction a using Tree.ind with
 | h a ih =>
 intro m L s l hs h hr;obtain⟨h1,h2,h3,h4⟩:=hr;have hl:=h4.len;have hsm:=h4.small rfl;rw[allB_eq,allBL_eq,←h1,←h2];unfold TCall;refine am Tryz.func50 31 ?_;refine aw (fun b=>?_);refine az (fun e1=>?_) (fun e1=>?_)
 ·refine uL ?_;refine ap goes49 (find_ref _ _ s l h.name hs) ?_;refine ak (fun e3=>?_) (fun e3=>?_)
  ·refine uA ?_;refine kG ?_;have:=idxD_lt l h.name;rw[ce e3]at this;rw[ce e1];cases hh:hasD l h.name with
   | false=>rfl
   | true=>rw[hh]at this;cases this
  ·refine uA ?_;have:=idxD_lt l h.name;rw[cg e3]at this;have hh:hasD l h.name=true:=by
    cases hh:hasD l h.name with
    | true=>rfl
    | false=>rw[hh]at this;cases this
   refine lU ?_;rintro k ⟨hk,hI⟩;refine uL ?_;refine ak (fun hlt'=>?_) (fun hlt'=>?_)
   ·exact eO
   ·rw[cu oM]at hI;refine kZ ?_;rw[hI];rw[ce e1,hh];rfl
 ·refine uA ?_;refine lU ?_;rintro k ⟨hk,hI⟩;refine uL ?_;refine ak (fun hlt'=>?_) (fun hlt'=>?_)
  ·exact eO
  ·rw[cu oM]at hI;refine kZ ?_;rw[hI];rw[cg e1];rfl
theorem isStruct_ref (a:Tree) (m:Mem) (L:List Item) (s:Sl) (l:List Decl) (hs:SlRep rDecl m s l) (h:HTree) (hr:TreeRep m h a):TCall Tryz.prog 51 ⟨[s.v,treeV h]⟩ m L (Ret (.bool (isStructD l a)) m L):=by
 obtain⟨h1,h2,h3,h4⟩:=hr;unfold TCall;refine aU Tryz.func51 23 ?_;unfold isStructD;rw[←h1,←h2];refine uA ?_;refine aw (fun b=>?_);refine aR (fun e1=>?_) (fun e1=>?_)
 ·exact fW
 ·refine uL ?_;refine ap goes49 (find_ref _ _ s l h.name hs) ?_;have hge:=idxD_ge l h.name;refine az (fun e3=>?_) (fun e3=>?_)
  ·rw[ce e3]at hge;obtain⟨j,q1,q2,q3⟩:=idxD_get hge.symm;refine uA ?_;refine aj tab rDecl j hs uH oQ rfl q2 ?_;rintro b' i' h' hrd hA;have hif:h'.iface=(theD l h.name).iface:=hrd.iface;refine mq ?_;refine kG ?_;rw[ce e1,←hge,hif];rfl
  ·rw[cg e3]at hge;refine kZ ?_;rw[ce e1,←hge];rfl
theorem members_ref (m:Mem) (L:List Item) (h:HDecl) (d:Decl) (hr:DeclRep m h d) (hB:d.small):TCall Tryz.prog 47 ⟨[declV h]⟩ m L (Made m L fun r m'=>∃ t:Sl,r=t.v∧SlRep rField m' t d.all):=by
 obtain⟨h1,h2,h3,h4⟩:=hr;have b1:=hB.fields;have b2:=hB.methods;unfold TCall;refine am Tryz.func47 12 ?_;refine aZ (fun b=>?_);refine qs rfl (OT.lit tab rfl rfl rfl rfl (fun bl=>?_));refine uA ?_;refine TO.drop (L':=.cells b 0 (declC h)::L) (List.sublist_cons_self _ _) ?_;refine lI ?_;refine TO.growL (size:=rField.size) bl ?_;refine qs rfl (dc tab rField 0 (SlRep.lit0 rField _ bl) (Own.lit bl 0 0) h3 rfl rfl rfl rfl rfl rfl rfl (by simp only[br,rField];omega) (fun s' m' hm' hs' ho'=>?_));refine uA ?_;refine av 1 ?_;refine qs rfl (dc tab rField 0 hs' ho' (h4.mono hm') rfl rfl rfl rfl rfl rfl rfl (by simp only[List.nil_append,rField];omega) (fun s2 m2 hm2 hs2 ho2=>?_));refine uA ?_;refine af (L':=L) ⟨cN hm' hm2,rfl,s2,rfl,?_⟩;rw[List.nil_append]at hs2;exact hs2
end Go.Sep
namespace Go.Sep
open Go.Proofs
attribute [local irreducible] TC TO OT TCallX TCall DO DOt thenQ blockQ retQ At
theorem size_type (a:Tree):∀(m:Mem) (L:List Item) (h:HTree) (hr:TreeRep m h a) (hB:a.bulk≤1048576),TCall Tryz.prog 96 ⟨[treeV h]⟩ m L (Ret (.tuple ⟨[.int .i64 (a.size:Int),.int .i64 (a.deep:Int)]⟩) m L):=by
 induction a using Tree.ind with
 | h a ih =>
 intro m L h hr hB;obtain⟨h1,h2,h3,h4⟩:=hr;have hl:=h4.len;have hsm:=h4.small rfl;have hbl:=bulk_len a.kids;unfold TCall;refine am Tryz.func96 35 ?_;refine aZ (fun b=>?_);refine lJ ?_;rintro k hk;refine uL ?_;refine ak (fun h=>?_) (fun h=>?_)
 ·have hlt:k<a.kids.length:=oM;have hx:a.kids[k]? = some a.kids[k]:=oT;have hmem:=bS hlt;refine uL ?_;refine kS ?_;rintro b' i hd hrd hA;refine oL tab hA ?_;refine uL ?_;refine oR goes96 (ih _ hmem _ _ hd (rTree_iff.1 hrd) (bO (Nat.le_of_lt (bulk_kid hmem)) hB)) ?_;have e1:=sizeL_next a.kids k hlt;have e2:=deepL_next a.kids k hlt;have e3:sizeL (a.kids.take (k+1))≤1048576:=by
   have:=size_bulk a;exact j9
  exact eZ
 ·have hd:deepL a.kids≤1048576:=by
   have:=deep_size a;have:=size_bulk a;exact j0
  exact gR
theorem formed_ref (a:Tree):∀(m:Mem) (L:List Item) (h:HTree) (hr:TreeRep m h a) (hB:a.bulk≤1048576),TCall Tryz.prog 97 ⟨[treeV h]⟩ m L (Ret (.bool a.formed) m L):=by
 induction a using Tree.ind with
 | h a ih =>
 intro m L h hr hB;obtain⟨h1,h2,h3,h4⟩:=hr;have hl:=h4.len;have hsm:=h4.small rfl;have hnl:=bulk_name a;rw[formed_eq];unfold TCall;refine am Tryz.func97 93 ?_;refine aZ (fun b=>?_);refine cS (ι:=Nat) [1] rfl (fun k=>[(3,.int .i64 (k:Int))]) (fun _=>m) (fun _=>.cells b 0 (treeC h)::L) (fun k=>k≤a.kids.length∧formedL (a.kids.take k)=true) (fun k=>a.kids.length-k) 0 uH rfl uS ⟨cw _,rfl⟩ ?_;rintro k ⟨hk,hI⟩;refine uL ?_;refine ak (fun hlt'=>?_) (fun hlt'=>?_)
 ·have hlt:k<a.kids.length:=oM;have hx:a.kids[k]? = some a.kids[k]:=oT;have hmem:=bS hlt;have hnx:=formedL_next a.kids k hlt;refine uL ?_;refine kS ?_;rintro b' i' h' hrd hA;have hk':=(rTree_iff.1 hrd).kind;refine mq ?_;refine az (fun e8=>?_) (fun e8=>?_)
  ·refine uA ?_;refine kG ?_;rw[formedL_false hmem (by rw[ce (show a.kids[k].kind=8 by omega)];rfl)];rfl
  refine uL ?_;refine kS ?_;rintro b'' i'' h'' hrd' hA';refine oL tab hA' ?_;refine uL ?_;refine ap goes97 (ih _ hmem _ _ h'' (rTree_iff.1 hrd') (bO (Nat.le_of_lt (bulk_kid hmem)) hB)) ?_;refine aG (t:=!a.kids[k].formed) (fun e5=>?_) (fun e5=>?_)
  ·rw[Bool.not_eq_true']at e5;refine kZ ?_;rw[formedL_false hmem (by rw[e5];simp)];rfl
  ·rw[Bool.not_eq_false']at e5;refine mc ?_;exact⟨k+1,uH,uH,rfl,rfl,uS,⟨by omega,by rw[hnx,hI,e5,cg (show ¬a.kids[k].kind=8 by omega)];rfl⟩,by omega⟩
 have hf:formedL a.kids=true:=by rw[cu oM]at hI;exact hI
 rw[hf,bY];obtain⟨q,n,u,s⟩:=h;simp only at h1 h2 h3 hl;by_cases hA:a.kind=1∨a.kind=2∨a.kind=3∨a.kind=8
 ·rw[kindB_leaf hA];rcases hA with hA | hA | hA | hA
  ·obtain rfl:q=1:=h1.trans hA;exact dZ
  ·obtain rfl:q=2:=h1.trans hA;exact dZ
  ·obtain rfl:q=3:=h1.trans hA;exact dZ
  ·obtain rfl:q=8:=h1.trans hA;exact dZ
 by_cases hB4:a.kind=4
 ·rw[kindB_4 hB4];obtain rfl:q=4:=h1.trans hB4;refine uL ?_;refine aR (fun e2=>?_) (fun e2=>?_)
  ·refine uA ?_;refine kG ?_;unfold headB;rw[←h3,cg e2,cg (show ¬a.kind=7 by omega)];simp
  have hhd:headB a=true:=by unfold headB;rw[←h3,ce hB4,ce e2];simp
  rw[hhd,bY];refine uL ?_;refine az (fun e3=>?_) (fun e3=>?_)
  ·simp only at e3;refine uL ?_;refine oR goes46 (name_ref _ _ n (by rw[h2];omega)) ?_;refine uA ?_;refine aF (b:=isName n) (fun e4=>?_) (fun e4=>?_)
   ·refine uL ?_;refine ap goes44 (basic_ref _ _ n) ?_;refine kG ?_;rw[←h2,e4,ce (show a.kids.length=0 by omega)];rfl
   ·refine uA ?_;refine kG ?_;rw[←h2,e4];simp
  ·simp only at e3;refine kZ ?_;rw[cg (show ¬a.kids.length=0 by omega)];rfl
 by_cases hC:a.kind=5∨a.kind=6
 ·rw[kindB_5 hC];rcases hC with hC | hC
  ·obtain rfl:q=5:=h1.trans hC;exact dZ
  ·obtain rfl:q=6:=h1.trans hC;exact dZ
 by_cases hD:a.kind=7
 ·rw[kindB_7 hD];obtain rfl:q=7:=h1.trans hD;refine uL ?_;refine aP (fun e1=>?_) (fun e1=>?_)
  ·refine uA ?_;refine kG ?_;unfold headB;rw[←h2,cg e1,cg hB4];rfl
  have hhd:headB a=true:=by unfold headB;rw[←h2,ce e1,ce hD];simp
  rw[hhd,bY];refine uL ?_;refine az (fun e3=>?_) (fun e3=>?_)
  ·simp only at e3;refine uL ?_;refine kG ?_;rw[ce (show 0≤a.num by omega),bY];refine congrArg Value.bool ?_
   congr 1
   exact fx
  ·simp only at e3;refine kZ ?_;rw[cg (show ¬0≤a.num by omega)];rfl
 rw[kindB_no hA hB4 hC hD,Bool.and_false];refine uL ?_;refine aP (fun e0=>?_) (fun e0=>?_)
 ·refine uL ?_;refine aP (fun e1=>?_) (fun e1=>?_)
  ·exact ej
  refine uL ?_;refine aP (fun e3=>?_) (fun e3=>?_)
  ·refine uL ?_;refine aR (fun e2=>?_) (fun e2=>?_)
   ·exact ej
   refine uL ?_;refine ak (fun e5=>?_) (fun e5=>?_)
   ·simp only at e5;omega
   refine uA ?_;refine ak (fun e5=>?_) (fun e5=>?_)
   ·simp only at e5;omega
   refine uA ?_;refine ak (fun e5=>?_) (fun e5=>?_)
   ·simp only at e5;omega
   refine uA ?_;refine ak (fun e5=>?_) (fun e5=>?_)
   ·simp only at e5;omega
   refine uA ?_;refine ak (fun e5=>?_) (fun e5=>?_)
   ·simp only at e5;omega
   refine uA ?_;refine ak (fun e5=>?_) (fun e5=>?_)
   ·simp only at e5;omega
   refine uA ?_;refine ak (fun e5=>?_) (fun e5=>?_)
   ·simp only at e5;omega
   refine uA ?_;refine ak (fun e5=>?_) (fun e5=>?_)
   ·simp only at e5;omega
   exact ej
  ·simp only at e3;omega
 ·simp only at e0;omega
theorem isSound_ref (a:Tree) (m:Mem) (L:List Item) (h:HTree) (hr:TreeRep m h a) (hB:a.bulk≤1048576):TCall Tryz.prog 48 ⟨[treeV h]⟩ m L (Ret (.bool a.sound) m L):=by
 unfold TCall;refine am Tryz.func48 20 ?_;refine aw (fun b=>?_);refine ap goes96 (size_type a _ _ h hr hB) ?_;refine az (fun e1=>?_) (fun e1=>?_)
 ·refine uA ?_;refine az (fun e2=>?_) (fun e2=>?_)
  ·refine uL ?_;refine ap goes97 (formed_ref a _ _ h hr hB) ?_;refine kG ?_;rw[Tree.sound,ce oM];rfl
  ·exact jO
 ·exact jO
end Go.Sep
namespace Go.Sep
open Go.Proofs
attribute [local irreducible] TC TO OT TCallX TCall DO DOt thenQ blockQ retQ At
theorem basicOf_pos (s:Str):decide (0<basicOf s) = !decide (basicOf s=0):=by
 unfold basicOf
 repeat' split
 all_goals rfl
theorem idxP_hit {α:Type}:∀(l r:List α) (p:α→Bool) (k:Nat),l.any p=true→idxP (l++r) p k=idxP l p k
 | [],r,p,k,h=>by simp at h
 | x::xs,r,p,k,h=>by
  by_cases e:p x=true
  ·simp[idxP,e]
  ·simp only[bR,idxP,if_neg e];exact idxP_hit xs r p (k+1) (by simpa[e]using h)
theorem idxP_miss {α:Type}:∀(l r:List α) (p:α→Bool) (k:Nat),l.any p=false→idxP (l++r) p k=idxP r p (k+l.length)
 | [],r,p,k,h=>by simp
 | x::xs,r,p,k,h=>by
  have e:¬p x=true:=by
   intro e;simp[e]at h
  simp only[bR,idxP,if_neg e];rw[idxP_miss xs r p (k+1) (by simpa[e]using h),bo]
  congr 1;omega
theorem idxD_dup {l:List Decl} {k:Nat} (h:k<l.length):decide (idxD l l[k].name<(k:Int))=hasD (l.take k) l[k].name:=by
 have hsp:l=l.take k++l[k]::l.drop (k+1):=by rw[←ci h,cx]
 have hlen:(l.take k).length=k:=oY;generalize hn:l[k].name=n;have hc:=congrArg (fun z=>idxP z (fun d:Decl=>decide (d.name=n)) 0) hsp;cases hh:hasD (l.take k) n with
 | true =>
  have e:idxD l n=idxD (l.take k) n:=hc.trans (idxP_hit _ _ _ _ hh);obtain⟨j,h1,h2,_⟩:=idxD_get hh;have:=(List.getElem?_eq_some_iff.1 h2).1;rw[e,h1];exact ce oM
 | false =>
  have e:idxD l n=(k:Int):=by
   refine hc.trans ?_;rw[idxP_miss _ _ _ _ hh,idxP,if_pos (by simp[hn]),hlen,cy]
  rw[e];exact cg oM
theorem names_twice {l:List Decl} {k:Nat} (h:k<l.length) (hm:hasD (l.take k) l[k].name=true):¬(l.map Decl.name).Nodup:=fun hc=>by
 have h1:((l.take (k+1)).map Decl.name).Nodup:=hc.sublist ((List.take_sublist _ _).map _);rw[((names_snoc l k h).1 h1).2]at hm;cases hm
theorem sound_def (m:Mem) (L:List Item) (s:Sl) (l:List Decl) (hs:SlRep rDecl m s l) (hB:TblS l) (hB2:∀ d∈l,∀ f∈d.all,f.type.bulk≤1048576):TCall Tryz.prog 23 ⟨[s.v]⟩ m L (Ret (.int .i64 (soundE l)) m L):=by
 refine dl ?_;have hl:=hs.len;have hsm:=hs.small rfl;unfold TCall;refine am Tryz.func23 179 ?_;refine ak (fun eL=>?_) (fun eL=>?_)
 ·exact jy
 ·refine uA ?_;refine cS (ι:=Nat) [0] rfl (fun k=>[(3,.int .i64 (k:Int))]) (fun _=>m) (fun _=>L) (fun k=>k≤l.length∧(l.take k).any bigD=false) (fun k=>l.length-k) 0 uH rfl uS ⟨cw _,rfl⟩ ?_;rintro k ⟨hk,hI⟩;refine uA ?_;refine ak (fun h=>?_) (fun h=>?_)
  ·have hlt:k<l.length:=oM;have hx:l[k]? = some l[k]:=oT;refine uA ?_;refine lK ?_;rintro b' i' hd hrd hA;have hf1:=hrd.fields.len;refine mq ?_;refine az (fun e1=>?_) (fun e1=>?_)
   ·exact hH
   ·refine uA ?_;refine lK ?_;rintro b2 i2 hd2 hrd2 hA2;have hm1:=hrd2.methods.len;refine mi ?_;exact fD
  ·rw[cu oM]at hI;have hbig:largeB l=false:=largeB_no oM hI;have hsml:∀ d∈l,d.fields.length≤64∧d.methods.length≤64:=fun d hd=>by
    exact jN
   clear hI h hk;refine uA ?_;refine cS (ι:=Nat×Mem) [0] rfl (fun x=>[(4,.int .i64 (x.1:Int))]) (fun x=>x.2) (fun _=>L) (fun x=>x.1≤l.length∧m≤x.2∧(l.take x.1).any formD=false) (fun x=>l.length-x.1) (0,m) uH rfl uS ⟨cw _,cM _,rfl⟩ ?_;rintro⟨k,m1⟩ ⟨hk,hm1,hI⟩;simp only at hk hm1 hI ⊢;refine uA ?_;refine ak (fun h=>?_) (fun h=>?_)
   ·have hlt:k<l.length:=oM;have hx:l[k]? = some l[k]:=oT;have hmem:=bS hlt;have hdS:=hB _ hmem;have hdB:=hB2 _ hmem;have hd64:=hsml _ hmem;have hs1:=hs.mono hm1;refine oo ?_;rintro b' i' hd hrd hA;have hn1:=hrd.name;have hi1:=hrd.iface;have hf1:=hrd.fields.len;have hm1':=hrd.methods.len;have hnl:=hdS.name;refine lb ?_;refine aD tab (fun b6=>?_);refine uT ?_;refine lz ?_;refine TC.seq ?_;refine TC.cutT (ι:=Bool) [0,4,5] rfl (fun v=>[(67,.bool v)]) (fun _=>m1) (fun _=>.cells b6 0 (declC hd)::L) (fun v=>v=headD l[k]) ?_ (fun v hv=>?_)
    ·refine uL ?_;refine oR goes46 (name_ref _ _ hd.name (by rw[hn1];omega)) ?_;refine uA ?_;refine aF (b:=!isName hd.name) (fun e1=>?_) (fun e1=>?_)
     ·exact jQ
     ·refine uL ?_;refine ap goes44 (basic_ref _ _ hd.name) ?_;refine az (fun e2=>?_) (fun e2=>?_)
      ·refine uA ?_;exact⟨true,uH,uH,rfl,rfl,uS,by rw[headD,←hn1,e1,←basicOf_pos,ce e2];rfl⟩
      ·refine uL ?_;refine aF (b:=hd.iface) (fun e3=>?_) (fun e3=>?_)
       ·refine uL ?_;refine⟨decide ((0:Int)<(hd.fields.len:Int)),uH,uH,rfl,rfl,uS,?_⟩;rw[headD,←hn1,e1,←basicOf_pos,cg e2,←hi1,e3,hf1];simp
       ·refine uA ?_;exact⟨false,uH,uH,rfl,rfl,uS,by rw[headD,←hn1,e1,←basicOf_pos,cg e2,←hi1,e3];rfl⟩
    ·refine aG (t:=v) (fun e=>?_) (fun e=>?_)
     ·exact iW
     ·subst e;refine uL ?_;refine oC goes47 ((members_ref _ _ hd l[k] hrd hdS).x ?_);rintro _ m3 _ ⟨hm3,rfl,u,rfl,hu⟩;have hul:=hu.len;have hus:=hu.small rfl;have hm03:=cN hm1 hm3;refine uA ?_;refine cS (ι:=Nat) [0,4,5,6] rfl (fun j=>[(7,.int .i64 (j:Int))]) (fun _=>m3) (fun _=>.cells b6 0 (declC hd)::L) (fun j=>j≤l[k].all.length∧NoI (badF l[k].fields.length) l[k].all j) (fun j=>l[k].all.length-j) 0 uH rfl uS ⟨cw _,fun j x hj=>by omega⟩ ?_;rintro j ⟨hj,hJ⟩;refine uA ?_;refine ak (fun h2=>?_) (fun h2=>?_)
      ·have hjl:j<l[k].all.length:=oM;have hxj:l[k].all[j]? = some l[k].all[j]:=pT;have hfS:=hdS.all _ (bS hjl);refine uA ?_;refine l7 ?_;rintro b2 i2 hf hrf hA2;have hft:=hrf.type;have hfk:=hft.kind;refine mi ?_;refine aD tab (fun b8=>?_);refine uT ?_;refine lz ?_;refine TC.cutT (ι:=Bool) [0,4,5,6,7,8] rfl (fun v=>[(109,.bool v)]) (fun _=>m3) (fun _=>.cells b6 0 (declC hd)::L) (fun v=>v=badF l[k].fields.length j l[k].all[j]) ?_ (fun v hv=>?_)
       ·refine uA ?_;refine l7 ?_;rintro b3 i3 hf3 hrf3 hA3;have hfn:=hrf3.name;refine uA ?_;refine ah hA3 ?_;refine oR goes46 (name_ref _ _ hf3.name (by rw[hfn];omega)) ?_;refine uA ?_;refine aF (b:=!isName hf3.name) (fun e1=>?_) (fun e1=>?_)
        ·exact jS
        ·refine uL ?_;refine ap goes48 (isSound_ref _ _ _ hf.type hft (hdB _ (bS _))) ?_;refine aF (b:=!l[k].all[j].type.sound) (fun e2=>?_) (fun e2=>?_)
         ·exact jK
         ·refine uL ?_;refine az (fun e3=>?_) (fun e3=>?_)
          ·exact jp
          ·refine uL ?_;refine az (fun e4=>?_) (fun e4=>?_)
           ·refine uL ?_;exact ip
           ·exact iw
       ·exact fR
      ·exact gy
   ·rw[cu oM]at hI;have hform:l.any formD=false:=hI;have hfin:∀ d∈l,∀(j:Nat) (hj:j<d.all.length),badF d.fields.length j d.all[j]=false:=fun d hd j hj=>by
     have h1:=List.any_eq_false.1 hform d hd;simp only[formD,bL,not_or,Bool.not_eq_true]at h1;cases hc:badF d.fields.length j d.all[j]with
     | false=>rfl
     | true =>
      have:=anyI_yes (p:=badF d.fields.length) (l:=d.all) (j:=j) (x:=d.all[j]) (by simp[hj]) hc;rw[h1.2]at this;cases this
    clear hI h hk;refine uA ?_;refine cS (ι:=Nat×Mem) [0] rfl (fun x=>[(9,.int .i64 (x.1:Int))]) (fun x=>x.2) (fun _=>L) (fun x=>x.1≤l.length∧m≤x.2∧((l.take x.1).map Decl.name).Nodup∧(l.take x.1).any (typeD l)=false) (fun x=>l.length-x.1) (0,m1) uH rfl uS ⟨cw _,hm1,List.nodup_nil,rfl⟩ ?_;rintro⟨k,m3⟩ ⟨hk,hm3,hN,hI⟩;simp only at hk hm3 hN hI ⊢;refine uA ?_;refine ak (fun h=>?_) (fun h=>?_)
    ·have hlt:k<l.length:=oM;have hx:l[k]? = some l[k]:=oT;have hmem:=bS hlt;have hdS:=hB _ hmem;have hs3:=hs.mono hm3;have hdup:=idxD_dup hlt;refine my ?_;rintro b' i' hd hrd hA;have hn1:=hrd.name;refine mq ?_;refine oR goes49 (find_ref _ _ s l hd.name hs3) ?_;rw[hn1];refine uA ?_;refine ak (fun e1=>?_) (fun e1=>?_)
     ·rw[ce e1]at hdup;refine uA ?_;refine af ⟨hm3,rfl,?_⟩;rw[soundE_type hbig hform (by rw[typeB,cg (names_twice hlt hdup.symm)];rfl)]
     ·rw[cg e1]at hdup;refine my ?_;rintro b2 i2 hd2 hrd2 hA2;refine ar tab hA2 ?_;refine oC goes47 ((members_ref _ _ hd2 l[k] hrd2 hdS).x ?_);rintro _ m5 _ ⟨hm5,rfl,u,rfl,hu⟩;have hul:=hu.len;have hus:=hu.small rfl;have hm05:=cN hm3 hm5;have hs5:=hs.mono hm05;refine uA ?_;refine cS (ι:=Nat) [0,9,10] rfl (fun j=>[(11,.int .i64 (j:Int))]) (fun _=>m5) (fun _=>L) (fun j=>j≤l[k].all.length∧((l[k].all.take j).map Fld.name).Nodup∧NoI (badK l l[k].fields.length) l[k].all j) (fun j=>l[k].all.length-j) 0 uH rfl uS ⟨cw _,List.nodup_nil,fun j x hj=>by omega⟩ ?_;rintro j ⟨hj,hNj,hJ⟩;refine uA ?_;refine ak (fun h2=>?_) (fun h2=>?_)
      ·have hjl:j<l[k].all.length:=oM;have hxj:l[k].all[j]? = some l[k].all[j]:=pT;have hfS:=hdS.all _ (bS hjl);have hgood:=hfin _ hmem j hjl;have hkn:tknown (hasD l) l[k].all[j].type=allB (hasD l) l[k].all[j].type:=by
        simp only[badF,Bool.or_eq_false_iff,Bool.not_eq_false']at hgood;rw[tknown_all _ _ (sound_formed hgood.2.1),hgood.2.2.1];rfl
       refine uA ?_;refine cS (ι:=Nat) [0,9,10,11] rfl (fun i=>[(12,.int .i64 (i:Int))]) (fun _=>m5) (fun _=>L) (fun i=>i≤j∧l[k].all[j].name∉(l[k].all.take i).map Fld.name) (fun i=>j-i) 0 uH rfl uS ⟨cw _,by simp⟩ ?_;rintro i ⟨hi,hnot⟩;refine uA ?_;refine ak (fun h3=>?_) (fun h3=>?_)
       ·have hil:i<l[k].all.length:=oM;have hxi:l[k].all[i]? = some l[k].all[i]:=by simp[hil]
        refine uA ?_;refine aM [] dp 11 ?_;refine nw ?_;refine ba tab rField 2 i hu uC uK uK uH oW rfl hxi ?_;rintro b3 i3 hf3 hrf3 hA3;refine mH ?_;refine ai 4 hA3 ?_;refine nx ?_;refine ba tab rField 7 j hu uC uK uK uH oW rfl hxj ?_;rintro b4 i4 hf4 hrf4 hA4;refine oy ?_;refine ai 9 hA4 ?_;refine nD ?_;refine aH ?_
        rotate_left 1
        refine cP ?_;have hfn3:=hrf3.name;have hfn4:=hrf4.name;refine uA ?_;refine ak (fun e5=>?_) (fun e5=>?_)
        ·refine uA ?_;refine af ⟨hm05,rfl,?_⟩;have:l[k].all[j].name∈(l[k].all.take j).map Fld.name:=List.mem_map.2 ⟨l[k].all[i],List.mem_take_iff_getElem.2 ⟨i,by omega,rfl⟩,by rw[←hfn3,←hfn4,e5]⟩;rw[soundE_type hbig hform (by rw[typeB,any_hit hlt (by rw[typeD,cg (fnames_twice hjl this)];rfl),cE])]
        ·refine uA ?_;refine kI ?_;exact⟨i+1,uH,uH,rfl,rfl,uS,⟨by omega,by
          rw[cz hil,cB,List.mem_append,not_or];refine⟨hnot,?_⟩;simp only[bP,bQ,cv];rw[←hfn3,←hfn4];exact fun q=>e5 q.symm⟩,by omega⟩
       ·have hij:i=j:=oM;subst hij;refine uA ?_;refine aj tab rField i hu uH oQ rfl hxj ?_;rintro b3 i3 hf3 hrf3 hA3;have hft3:=hrf3.type;refine uA ?_;refine ah hA3 ?_;refine oR goes50 (all_ref _ _ _ s l hs5 hf3.type hft3) ?_;rw[←hkn];refine uA ?_;refine aF (b:=!tknown (hasD l) l[k].all[i].type) (fun e6=>?_) (fun e6=>?_)
        ·refine uA ?_;refine af ⟨hm05,rfl,?_⟩;rw[soundE_type hbig hform (by rw[typeB,any_hit hlt (by rw[typeD,anyI_yes hxj (by rw[badK,e6];rfl),cE]),cE])]
        ·refine uA ?_;refine aj tab rDecl k hs5 uH oQ rfl hx ?_;rintro b4 i4 hd4 hrd4 hA4;have hf4:=hrd4.fields.len;refine uA ?_;refine ah hA4 ?_;refine az (fun e7=>?_) (fun e7=>?_)
         ·refine uA ?_;refine aj tab rField i hu uH oQ rfl hxj ?_;rintro b5 i5 hf5 hrf5 hA5;refine mO ?_;refine ap goes51 (isStruct_ref _ _ _ s l hs5 hf5.type hrf5.type) ?_;refine aG (t:=isStructD l l[k].all[i].type) (fun e8=>?_) (fun e8=>?_)
          ·refine uA ?_;refine af ⟨hm05,rfl,?_⟩;rw[soundE_type hbig hform (by rw[typeB,any_hit hlt (by rw[typeD,anyI_yes hxj (by rw[badK,e6,e8,ce (show i<l[k].fields.length by omega)];rfl),cE]),cE])]
          ·refine uA ?_;refine kI ?_;exact⟨i+1,uH,uH,rfl,rfl,uS,⟨by omega,(fnames_snoc _ i hjl).2 ⟨hNj,hnot⟩,hJ.step hjl (by rw[badK,e6,e8,Bool.and_false];rfl)⟩,by omega⟩
         ·refine uA ?_;refine kI ?_;exact⟨i+1,uH,uH,rfl,rfl,uS,⟨by omega,(fnames_snoc _ i hjl).2 ⟨hNj,hnot⟩,hJ.step hjl (by rw[badK,e6,cg (show ¬i<l[k].fields.length by omega)];rfl)⟩,by omega⟩
      ·rw[cu oM]at hNj;refine mc ?_;exact⟨(k+1,m5),uH,uH,rfl,rfl,uS,⟨by simp only;omega,hm05,(names_snoc l k hlt).2 ⟨hN,hdup.symm⟩,any_take hlt hI (by rw[typeD,ce hNj,hJ.all oM];rfl)⟩,by simp only;omega⟩
    ·rw[cu oM]at hI hN;refine uA ?_;refine af ⟨hm3,rfl,?_⟩;rw[soundE_ok hbig hform (by rw[typeB,ce hN,hI];rfl)]
end Go.Sep
namespace Go.Sep
open Go.Proofs
attribute [local irreducible] TC TO OT TCallX TCall DO DOt thenQ blockQ retQ At
theorem sizeL_mem : ∀ {l:List Tree} {t:Tree},t∈l→t.size≤sizeL l
 | x::xs,t,h=>by
  rcases List.mem_cons.1 h with rfl | h
  ·simp only[sizeL];omega
  ·have:=sizeL_mem h;simp only[sizeL];omega
theorem size_kid {a t:Tree} (h:t∈a.kids):t.size≤a.size:=by
 obtain⟨k,n,u,ks⟩:=a;have:=sizeL_mem h;simp only[Tree.kids,Tree.size]at *;omega
theorem size_ref (a:Tree):∀(m:Mem) (L:List Item) (h:HTree) (hr:TreeRep m h a) (hB:a.size≤1048576),TCall Tryz.prog 90 ⟨[treeV h]⟩ m L (Ret (.tuple ⟨[.int .i64 (a.size:Int),.int .i64 (a.deep:Int)]⟩) m L):=by
 induction a using Tree.ind with
 | h a ih =>
 intro m L h hr hB;obtain⟨h1,h2,h3,h4⟩:=hr;have hl:=h4.len;have hsm:=h4.small rfl;have hbl:=len_sizeL a.kids;have hbk:=size_kids a;unfold TCall;refine am Tryz.func90 35 ?_;refine aZ (fun b=>?_);refine lJ ?_;rintro k hk;refine uL ?_;refine ak (fun h=>?_) (fun h=>?_)
 ·have hlt:k<a.kids.length:=oM;have hx:a.kids[k]? = some a.kids[k]:=oT;have hmem:=bS hlt;refine uL ?_;refine kS ?_;rintro b' i hd hrd hA
  (first | refine qs rfl (OT.loadA tab hA rfl rfl rfl rfl rfl ?_) | refine oL tab hA ?_)
  refine uL ?_;refine oR goes90 (ih _ hmem _ _ hd (rTree_iff.1 hrd) (bO (size_kid hmem) hB)) ?_;have e1:=sizeL_next a.kids k hlt;have e2:=deepL_next a.kids k hlt;have e3:sizeL (a.kids.take (k+1))≤1048576:=by
   exact j9
  exact eZ
 ·have hd:deepL a.kids≤1048576:=by
   have:=deep_size a;exact j0
  exact gR
end Go.Sep
namespace Go.Sep
open Go.Proofs
attribute [local irreducible] TC TO OT TCallX TCall DO DOt thenQ blockQ retQ At
attribute [local irreducible] withinB
theorem within_ref (a:Tree) (m:Mem) (L:List Item) (h:HTree) (hr:TreeRep m h a) (hB:a.bulk≤1048576) (x y:Int) (hx:0≤x∧x≤100) (hy:0≤y∧y≤100) :
  TCall Tryz.prog 42 ⟨[treeV h,.int .i64 x,.int .i64 y]⟩ m L (Ret (.bool (withinB a x y)) m L):=by
 have h5:=size_bulk a;have h6:=deep_size a;unfold TCall;refine am Tryz.func42 24 ?_;refine aw (fun b=>?_);refine ap goes90 (size_ref a _ _ h hr (bO (size_bulk a) hB)) ?_;refine aa (r':=(a.size:Int)+x) uH oM ?_;refine az (fun h7=>?_) (fun h7=>?_)
 ·refine uA ?_;refine aa (r':=(a.deep:Int)+y) uH oM ?_;refine kG ?_;rw[withinB_eq,ce h7];rfl
 ·refine uA ?_;refine kG ?_;rw[withinB_eq,cg h7];rfl
def numB (k:Int):Bool:=decide (k=7∨k=13∨k=22∨k=23∨k=40∨k=42∨k=50)
theorem num_ref (m:Mem) (L:List Item) (k:Int):TCall Tryz.prog 92 ⟨[.int .i64 k]⟩ m L (Ret (.bool (numB k)) m L):=by
 unfold TCall;refine aU Tryz.func92 12 ?_;by_cases h:k=7∨k=13∨k=22∨k=23∨k=40∨k=42∨k=50
 ·rw[numB,ce h];rcases h with rfl | rfl | rfl | rfl | rfl | rfl | rfl
  all_goals
   exact ej
 ·rw[numB,cg h];refine uA ?_;refine ak (fun h1=>?_) (fun h1=>?_)
  ·omega
  refine uA ?_;refine ak (fun h1=>?_) (fun h1=>?_)
  ·omega
  refine uA ?_;refine ak (fun h1=>?_) (fun h1=>?_)
  ·omega
  refine uA ?_;refine ak (fun h1=>?_) (fun h1=>?_)
  ·omega
  refine uA ?_;refine ak (fun h1=>?_) (fun h1=>?_)
  ·omega
  refine uA ?_;refine ak (fun h1=>?_) (fun h1=>?_)
  ·omega
  refine uA ?_;refine ak (fun h1=>?_) (fun h1=>?_)
  ·omega
  exact ej
theorem repeat_ref (m:Mem) (L:List Item) (c n:Int):TCall Tryz.prog 135 ⟨[.int .i64 c,.int .i64 n]⟩ m L
  (Made m L fun r m'=>∃ s:Sl,r=s.v∧SlRep rInt m' s (List.replicate (min n.toNat 20001) c)):=by
 unfold TCall;refine cV Tryz.func135 rfl 22 rfl ?_;refine uB ?_;refine qs rfl (OT.lit tab rfl rfl rfl rfl (fun b=>?_));refine TO.growL b 1 ?_;refine uA ?_;refine cS (ι:=Grow) [0,1] rfl (fun g=>[(5,g.s.v),(6,.int .i64 (g.k:Int))]) (fun g=>g.m) (fun g=>tok g.s 1::L) (fun g=>g.k≤min n.toNat 20001∧SlRep rInt g.m g.s (List.replicate g.k c)∧Own g.s∧m≤g.m) (fun g=>20001-g.k) ⟨0,⟨some ⟨b,0,none⟩,0,0⟩,m⟩ uH rfl uS ⟨cw _,SlRep.lit0 _ _ _,Own.lit _ _ _,cM _⟩ ?_;rintro⟨k,s,m1⟩ ⟨hk,hs,hown,hm1⟩;simp only at hk hs hown hm1;refine uA ?_;refine az (fun h=>?_) (fun h=>?_)
 ·refine uN ?_;refine ak (fun h2=>?_) (fun h2=>?_)
  ·simp only at h h2;refine uA ?_;refine qs rfl (OT.lit tab rfl rfl rfl rfl (fun b2=>?_));refine qs rfl (OT.append1 tab rInt 0 (hd':=c) (a:=c) hs hown rfl rfl rfl rfl rfl rfl rfl rfl (by simp only[rInt,List.length_replicate];omega) (fun s2 m2 hm2 hs2 hown2=>?_));refine mc ?_;refine⟨⟨k+1,s2,m2⟩,uH,uH,rfl,rfl,uS,⟨by simp only;omega,?_,hown2,cN hm1 hm2⟩,by simp only;omega⟩;rw[List.replicate_succ'];exact hs2
  ·simp only at h h2;refine uN ?_;exact jB
 ·simp only at h;refine uA ?_;exact jB
structure Shape where
 ks:List Int
 rest:Int
 text:Int
 ok:Bool
def ShapeIs (m:Mem) (L:List Item) (x:Shape):Value→Mem→List Item→Prop:=Made m L fun r m'=>∃ s:Sl,r = .tuple ⟨[s.v,.int .i64 x.rest,.int .i64 x.text,.bool x.ok]⟩∧SlRep rInt m' s x.ks
def allS (p:Int→Tree→Bool):List Int→Int→List Tree→Bool
 | _,_,[]=>true
 | [],r,t::ts=>p r t&&allS p [] r ts
 | k::ks,r,t::ts=>p k t&&allS p ks r ts
def want (x:Shape) (i:Nat):Int:=x.ks[i]?.getD x.rest
theorem allS_step (p:Int→Tree→Bool) (x:Shape) (l:List Tree) (i:Nat) (h:i<l.length) :
  allS p (x.ks.drop i) x.rest (l.drop i)=(p (want x i) l[i]&&allS p (x.ks.drop (i+1)) x.rest (l.drop (i+1))):=by
 rw[ci h];by_cases h2:i<x.ks.length
 ·rw[ci h2,allS,want,bF h2];rfl
 ·rw[cr (show x.ks.length≤i by omega),cr (show x.ks.length≤i+1 by omega),allS,want,bM oM];rfl
def textB (x:Shape) (a:Tree):Bool:=!((decide (x.text=0)&&!decide (a.name=[]))||(decide (x.text=1)&&!isName a.name))
def fitB (x:Shape) (a:Tree):Bool:=x.ok&&(decide (x.ks.length≤a.kids.length)&&((!decide (x.rest=0)||decide (a.kids.length≤x.ks.length))&&(decide (a.num=0)||numB a.kind)))
theorem is_walk (k:Int) (a:Tree) (m:Mem) (L:List Item) (h:HTree) (hr:TreeRep m h a) (hB:a.bulk≤1048576) (x:Shape)
  (hx:∀(m:Mem) (L:List Item),TreeRep m h a→TCall Tryz.prog 91 ⟨[treeV h,.int .i64 k]⟩ m L (ShapeIs m L x)) (htext:x.text=0∨x.text=1∨x.text=2) (p:Int→Tree→Bool)
  (hp:fitB x a=true→∀(i:Nat) (hi:i<a.kids.length) (m:Mem) (L:List Item) (h':HTree),TreeRep m h' a.kids[i]→TCall Tryz.prog 43 ⟨[treeV h',.int .i64 (want x i)]⟩ m L (Ret (.bool (p (want x i) a.kids[i])) m L)) :
  TCall Tryz.prog 43 ⟨[treeV h,.int .i64 k]⟩ m L (Ret (.bool (fitB x a&&(textB x a&&allS p x.ks x.rest a.kids))) m L):=by
 have hr':=hr;obtain⟨h1,h2,h3,h4⟩:=hr;have hl:=h4.len;have hsm:=h4.small rfl;have hnl:=bulk_name a;refine dl ?_;unfold TCall;refine am Tryz.func43 93 ?_;refine aw (fun b=>?_);refine oC goes91 ((hx _ _ hr').x ?_);rintro _ m1 _ ⟨hm1,rfl,s,rfl,hs⟩;have hsl:=hs.len;have hr1:=hr'.mono hm1;have h41:=h4.mono hm1;refine uA ?_;have out:∀ {v:Value} {m':Mem},m1≤m'→v = .bool (fitB x a&&(textB x a&&allS p x.ks x.rest a.kids))→Made m L (fun r _=>r = .bool (fitB x a&&(textB x a&&allS p x.ks x.rest a.kids))) v m' L:=fun h1 h2=>⟨cN hm1 h1,rfl,h2⟩
 have bad:∀ {m':Mem},m1≤m'→fitB x a=false→Made m L (fun r _=>r = .bool (fitB x a&&(textB x a&&allS p x.ks x.rest a.kids))) (.bool false) m' L:=fun h1 h2=>out h1 (by rw[h2];rfl);refine aF (b:=!x.ok) (fun hok=>?_) (fun hok=>?_)
 ·refine uA ?_;exact cT rfl uS (bad (cM _) (by unfold fitB;simp_all))
 have hok2:x.ok=true:=by simpa using hok
 refine uL ?_;refine az (fun hlt=>?_) (fun hlt=>?_)
 ·refine uA ?_;exact cT rfl uS (bad (cM _) (by unfold fitB;rw[cg (show ¬x.ks.length≤a.kids.length by omega)];simp))
 refine uL ?_;refine az (fun hrest=>?_) (fun hrest=>?_)
 ·refine uL ?_;refine az (fun hgt=>?_) (fun hgt=>?_)
  ·refine uA ?_;exact cT rfl uS (bad (cM _) (by unfold fitB;rw[ce hrest,cg (show ¬a.kids.length≤x.ks.length by omega)];simp))
  have hcnt:(!decide (x.rest=0)||decide (a.kids.length≤x.ks.length))=true:=by rw[ce (show a.kids.length≤x.ks.length by omega),cE]
  have hcnt0:x.rest=0→a.kids.length≤x.ks.length:=fun h0=>by simpa[h0]using hcnt
  have hcnt2:decide (x.ks.length≤a.kids.length)=true:=ce oM;refine uL ?_;refine aP (fun hnum=>?_) (fun hnum=>?_)
  ·refine uL ?_;refine ap goes92 (num_ref _ _ h.kind) ?_;refine aG (t:=!numB h.kind) (fun hn=>?_) (fun hn=>?_)
   ·exact jh
   have hfit:fitB x a=true:=by unfold fitB;rw[hok2,hcnt2,hcnt,←h1,show numB h.kind=true by simpa using hn];simp
   rcases htext with ht | ht | ht
   ·rw[ht];refine uL ?_;refine aP (fun hnm=>?_) (fun hnm=>?_)
    ·exact fE
    ·have htxt:textB x a=true:=pY;exact dO
   ·rw[ht];refine lS ?_;refine aG (t:=!isName h.name) (fun hnm=>?_) (fun hnm=>?_)
    ·exact fG
    ·have htxt:textB x a=true:=pG;exact dO
   ·rw[ht];have htxt:textB x a=true:=pZ;exact dO
  ·have hfit:fitB x a=true:=by unfold fitB;rw[hok2,hcnt2,hcnt,←h3,ce hnum];rfl
   refine uA ?_;rcases htext with ht | ht | ht
   ·rw[ht];refine uL ?_;refine aP (fun hnm=>?_) (fun hnm=>?_)
    ·exact fE
    ·have htxt:textB x a=true:=pY;exact dO
   ·rw[ht];refine lS ?_;refine aG (t:=!isName h.name) (fun hnm=>?_) (fun hnm=>?_)
    ·exact fG
    ·have htxt:textB x a=true:=pG;exact dO
   ·rw[ht];have htxt:textB x a=true:=pZ;exact dO
 ·have hcnt:(!decide (x.rest=0)||decide (a.kids.length≤x.ks.length))=true:=by rw[cg hrest];rfl
  have hcnt0:x.rest=0→a.kids.length≤x.ks.length:=fun h0=>by simpa[h0]using hcnt
  have hcnt2:decide (x.ks.length≤a.kids.length)=true:=ce oM;refine uL ?_;refine aP (fun hnum=>?_) (fun hnum=>?_)
  ·refine uL ?_;refine ap goes92 (num_ref _ _ h.kind) ?_;refine aG (t:=!numB h.kind) (fun hn=>?_) (fun hn=>?_)
   ·exact jh
   have hfit:fitB x a=true:=by unfold fitB;rw[hok2,hcnt2,hcnt,←h1,show numB h.kind=true by simpa using hn];simp
   rcases htext with ht | ht | ht
   ·rw[ht];refine uL ?_;refine aP (fun hnm=>?_) (fun hnm=>?_)
    ·exact fE
    ·have htxt:textB x a=true:=pY;exact dO
   ·rw[ht];refine lS ?_;refine aG (t:=!isName h.name) (fun hnm=>?_) (fun hnm=>?_)
    ·exact fG
    ·have htxt:textB x a=true:=pG;exact dO
   ·rw[ht];have htxt:textB x a=true:=pZ;exact dO
  ·have hfit:fitB x a=true:=by unfold fitB;rw[hok2,hcnt2,hcnt,←h3,ce hnum];rfl
   refine uA ?_;rcases htext with ht | ht | ht
   ·rw[ht];refine uL ?_;refine aP (fun hnm=>?_) (fun hnm=>?_)
    ·exact fE
    ·have htxt:textB x a=true:=pY;exact dO
   ·rw[ht];refine lS ?_;refine aG (t:=!isName h.name) (fun hnm=>?_) (fun hnm=>?_)
    ·exact fG
    ·have htxt:textB x a=true:=pG;exact dO
   ·rw[ht];have htxt:textB x a=true:=pZ;exact dO
end Go.Sep
namespace Go.Sep
def rep (c:Int) (a:Tree):List Int:=List.replicate (min a.num.toNat 20001) c
def shStmt (lv:Str→Nat) (a:Tree):Shape :=
 if a.kind=20 then ⟨[],6,0,true⟩
 else if a.kind=21 then (if a.kids.length=1 then ⟨[2],0,1,true⟩else ⟨[2,7],0,1,true⟩)
 else if a.kind=22 then ⟨rep 11 a,7,0,decide (1≤a.num)&&decide (a.num<(a.kids.length:Int))⟩
 else if a.kind=23 then ⟨rep 10 a,7,0,decide (1≤a.num)&&decide (a.num<(a.kids.length:Int))⟩
 else if a.kind=24 then ⟨[12],0,0,true⟩
 else if a.kind=25 then (if a.kids.length=2 then ⟨[7,5],0,0,true⟩else ⟨[7,5,13],0,0,true⟩)
 else if a.kind=26 then (if a.kids.length=1 then ⟨[5],0,0,true⟩else ⟨[7,5],0,0,true⟩)
 else if a.kind=27 then ⟨[],7,0,true⟩
 else if a.kind=28∨a.kind=29 then ⟨[],0,0,true⟩
 else ⟨[],0,0,false⟩
def shExpr (lv:Str→Nat) (a:Tree):Shape :=
 if a.kind=40 then ⟨[],0,0,decide (0≤a.num)⟩
 else if a.kind=41 then ⟨[],0,2,decide ((a.name.length:Int)≤1024)⟩
 else if a.kind=42 then ⟨[],0,0,decide (a.num=0)||decide (a.num=1)⟩
 else if a.kind=43 then ⟨[],0,0,true⟩
 else if a.kind=44 then ⟨[],0,1,true⟩
 else if a.kind=45 then ⟨[],7,1,true⟩
 else if a.kind=46 then ⟨[2],7,0,true⟩
 else if a.kind=47 then ⟨[3,5],0,0,true⟩
 else if a.kind=48 then ⟨[7],0,1,true⟩
 else if a.kind=49 then ⟨[7,7],0,0,true⟩
 else if a.kind=50 then (if a.num=0 then ⟨[7],0,0,true⟩else if a.num=1∨a.num=2 then ⟨[7,7],0,0,true⟩else if a.num=3 then ⟨[7,7,7],0,0,true⟩else ⟨[],0,0,false⟩)
 else if a.kind=51 then ⟨[7],7,0,true⟩
 else if a.kind=52 then ⟨[7],0,2,decide (a.name=[45])||(decide (a.name=[33])||(decide (a.name=[38])||decide (a.name=[42])))⟩
 else if a.kind=53 then ⟨[7,7],0,2,decide (0<(lv a.name:Int))⟩
 else ⟨[],0,0,false⟩
def kd0 (a:Tree):Tree:=a.kids.headD (.mk 0 [] 0 [])
def shDecl (a:Tree):Shape :=
 if a.kind=2 then ⟨[],8,1,true⟩else if a.kind=3 then ⟨[],9,1,true⟩
 else if a.kind=4 then ⟨[3,5],0,1,true⟩else if a.kind=5 then ⟨[14,3,5],0,1,true⟩else ⟨[],0,0,false⟩
def shTyp (a:Tree):Shape :=
 if a.kind=10 then ⟨[],0,1,true⟩else if a.kind=11∨a.kind=12 then ⟨[2],0,0,true⟩
 else if a.kind=13 then ⟨[],2,0,decide (0≤a.num)&&decide (a.num≤(a.kids.length:Int))⟩else ⟨[],0,0,false⟩
def shSig (a:Tree):Shape:=⟨rep 4 a,2,0,decide (a.kind=7)&&(decide (0≤a.num)&&decide (a.num≤(a.kids.length:Int)))⟩
def Shape.but (x:Shape) (c:Bool):Shape:=⟨x.ks,x.rest,x.text,c&&x.ok⟩
def shapeR (lv:Str→Nat) (k:Int) (a:Tree):Shape :=
 if k=10 then (shExpr lv a).but (Ps.isPl a)
 else if k=11 then ⟨[],0,1,decide (a.kind=44)⟩
 else if k=12 then (shExpr lv a).but (decide (a.kind=51))
 else if k=13 then (if a.kind=25 then shStmt lv a else ⟨[],6,0,decide (a.kind=20)⟩)
 else if k=14 then ⟨[2],0,1,((decide (a.kids.length=1)&&decide ((kd0 a).kind=11))&&(decide ((kd0 a).kids.length=1)&&decide ((kd0 (kd0 a)).kind=10)))&&decide (a.kind=8)⟩
 else if k=8 then ⟨[2],0,1,decide (a.kind=6)⟩
 else if k=9 then ⟨[3],0,1,decide (a.kind=6)⟩
 else if k=4 then ⟨[2],0,1,decide (a.kind=8)⟩
 else if k=5 then ⟨[],6,0,decide (a.kind=20)⟩
 else if k=3 then shSig a
 else if k=1 then shDecl a
 else if k=2 then shTyp a
 else if k=6 then shStmt lv a
 else if k=7 then shExpr lv a
 else ⟨[],0,0,false⟩
def isD (lv:Str→Nat):Nat→Int→Tree→Bool
 | 0,_,_=>false
 | n+1,k,a=>fitB (shapeR lv k a) a&&(textB (shapeR lv k a) a&&allS (isD lv n) (shapeR lv k a).ks (shapeR lv k a).rest a.kids)
end Go.Sep
namespace Go.Sep
open Go.Proofs
attribute [local irreducible] TC TO OT TCallX TCall DO DOt thenQ blockQ retQ At
theorem statement_ref (lv : Str→Nat) (a : Tree) (m : Mem) (L : List Item) (h : HTree) (hr : TreeRep m h a) :
  TCall Tryz.prog 136 ⟨[treeV h]⟩ m L (ShapeIs m L (shStmt lv a)):=by
 have hr':=hr
 obtain ⟨h1,h2,h3,h4⟩:=hr
 have hl:=h4.len
 have hsm:=h4.small rfl
 unfold shStmt TCall
 refine cV Tryz.func136 rfl 68 rfl ?_
 by_cases hk20 : a.kind=20
 ·rw [if_pos hk20]
  obtain ⟨k,n,u,s⟩:=h
  obtain rfl : k=20:=h1.trans hk20
  simp only at h2 h3 h4 hl
  subst h2
  subst h3
  refine uA ?_
  refine oB (fun b => ?_)
  refine uL ?_
  exact cT rfl uS ⟨cM _,rfl,⟨none,0,0⟩,rfl,db _ _⟩
 rw [if_neg hk20]
 by_cases hk21 : a.kind=21
 ·rw [if_pos hk21]
  obtain ⟨k,n,u,s⟩:=h
  obtain rfl : k=21:=h1.trans hk21
  simp only at h2 h3 h4 hl
  subst h2
  subst h3
  refine uA ?_
  refine oB (fun b => ?_)
  refine uL ?_
  refine TC.condP rfl (fun h5 => ?_) (fun h5 => ?_)
  ·simp only at h5
   rw [if_pos (show a.kids.length=1 by omega)]
   refine uL ?_
   refine qs rfl (dn tab rInt (hs:=[2]) (l:=[2]) ⟨rfl,trivial⟩ rfl rfl rfl rfl rfl (by decide) (fun s1 m1 hm1 hs1 _ _ => ?_))
   refine uA ?_
   exact cT rfl uS ⟨hm1,rfl,s1,rfl,hs1⟩
  ·simp only at h5
   rw [if_neg (show ¬ a.kids.length=1 by omega)]
   refine uL ?_
   refine qs rfl (dn tab rInt (hs:=[2,7]) (l:=[2,7]) ⟨rfl,rfl,trivial⟩ rfl rfl rfl rfl rfl (by decide) (fun s1 m1 hm1 hs1 _ _ => ?_))
   refine uA ?_
   exact cT rfl uS ⟨hm1,rfl,s1,rfl,hs1⟩
 rw [if_neg hk21]
 by_cases hk22 : a.kind=22
 ·rw [if_pos hk22]
  obtain ⟨k,n,u,s⟩:=h
  obtain rfl : k=22:=h1.trans hk22
  simp only at h2 h3 h4 hl
  subst h2
  subst h3
  refine uA ?_
  refine oB (fun b => ?_)
  refine uL ?_
  refine TC.draw0 [] dp 16 rfl ?_
  refine de tab uC uK [0] uK rfl ?_
  refine DO.loadL tab 1 0 uC uK uK rfl rfl rfl rfl rfl rfl rfl rfl ?_
  refine de tab uC uK [3] uK rfl ?_
  refine DO.loadL tab 4 0 uC uK uK rfl rfl rfl rfl rfl rfl rfl rfl ?_
  refine de tab uC uK [5] uK rfl ?_
  refine DO.run 2 rfl rfl uK rfl (da rfl rfl rfl rfl rfl rfl goes135 ((repeat_ref _ _ 11 a.num).x ?_))
  rintro _ m1 _ ⟨hm1,rfl,s1,rfl,hs1⟩;refine ⟨hm1,_,bu _, ?_⟩
  refine de tab uC uK [6] uK rfl ?_
  refine DO.splitP (d:=28) rfl (fun hg6 => ?_) (fun hg6 => ?_)
  refine de tab uC uK [7] uK rfl ?_
  refine DO.loadL tab 8 0 uC uK uK rfl rfl rfl rfl rfl rfl rfl rfl ?_
  refine de tab uC uK [9,10,11,12,13,14,15] uK rfl ?_
  refine DO.nil0 uK ?_
  rotate_left 1
  refine de tab uC uK [7,8,9,10,11,12,13,14,15] uK rfl ?_
  refine DO.nil0 uK ?_
  rotate_left 1
  ·refine uA ?_
   refine cT rfl uS ⟨hm1,rfl,s1, ?_,hs1⟩
   rw [← hl,ce hg6];rfl
  ·refine uA ?_
   refine cT rfl uS ⟨hm1,rfl,s1, ?_,hs1⟩
   rw [← hl,cg hg6];rfl
 rw [if_neg hk22]
 by_cases hk23 : a.kind=23
 ·rw [if_pos hk23]
  obtain ⟨k,n,u,s⟩:=h
  obtain rfl : k=23:=h1.trans hk23
  simp only at h2 h3 h4 hl
  subst h2
  subst h3
  refine uA ?_
  refine oB (fun b => ?_)
  refine uL ?_
  refine TC.draw0 [] dp 16 rfl ?_
  refine de tab uC uK [0] uK rfl ?_
  refine DO.loadL tab 1 0 uC uK uK rfl rfl rfl rfl rfl rfl rfl rfl ?_
  refine de tab uC uK [3] uK rfl ?_
  refine DO.loadL tab 4 0 uC uK uK rfl rfl rfl rfl rfl rfl rfl rfl ?_
  refine de tab uC uK [5] uK rfl ?_
  refine DO.run 2 rfl rfl uK rfl (da rfl rfl rfl rfl rfl rfl goes135 ((repeat_ref _ _ 10 a.num).x ?_))
  rintro _ m1 _ ⟨hm1,rfl,s1,rfl,hs1⟩;refine ⟨hm1,_,bu _, ?_⟩
  refine de tab uC uK [6] uK rfl ?_
  refine DO.splitP (d:=42) rfl (fun hg6 => ?_) (fun hg6 => ?_)
  refine de tab uC uK [7] uK rfl ?_
  refine DO.loadL tab 8 0 uC uK uK rfl rfl rfl rfl rfl rfl rfl rfl ?_
  refine de tab uC uK [9,10,11,12,13,14,15] uK rfl ?_
  refine DO.nil0 uK ?_
  rotate_left 1
  refine de tab uC uK [7,8,9,10,11,12,13,14,15] uK rfl ?_
  refine DO.nil0 uK ?_
  rotate_left 1
  ·refine uA ?_
   refine cT rfl uS ⟨hm1,rfl,s1, ?_,hs1⟩
   rw [← hl,ce hg6];rfl
  ·refine uA ?_
   refine cT rfl uS ⟨hm1,rfl,s1, ?_,hs1⟩
   rw [← hl,cg hg6];rfl
 rw [if_neg hk23]
 by_cases hk24 : a.kind=24
 ·rw [if_pos hk24]
  obtain ⟨k,n,u,s⟩:=h
  obtain rfl : k=24:=h1.trans hk24
  simp only at h2 h3 h4 hl
  subst h2
  subst h3
  refine uA ?_
  refine oB (fun b => ?_)
  refine uL ?_
  refine qs rfl (dn tab rInt (hs:=[12]) (l:=[12]) ⟨rfl,trivial⟩ rfl rfl rfl rfl rfl (by decide) (fun s1 m1 hm1 hs1 _ _ => ?_))
  refine uA ?_
  exact cT rfl uS ⟨hm1,rfl,s1,rfl,hs1⟩
 rw [if_neg hk24]
 by_cases hk25 : a.kind=25
 ·rw [if_pos hk25]
  obtain ⟨k,n,u,s⟩:=h
  obtain rfl : k=25:=h1.trans hk25
  simp only at h2 h3 h4 hl
  subst h2
  subst h3
  refine uA ?_
  refine oB (fun b => ?_)
  refine uL ?_
  refine TC.condP rfl (fun h5 => ?_) (fun h5 => ?_)
  ·simp only at h5
   rw [if_pos (show a.kids.length=2 by omega)]
   refine uL ?_
   refine qs rfl (dn tab rInt (hs:=[7,5]) (l:=[7,5]) ⟨rfl,rfl,trivial⟩ rfl rfl rfl rfl rfl (by decide) (fun s1 m1 hm1 hs1 _ _ => ?_))
   refine uA ?_
   exact cT rfl uS ⟨hm1,rfl,s1,rfl,hs1⟩
  ·simp only at h5
   rw [if_neg (show ¬ a.kids.length=2 by omega)]
   refine uL ?_
   refine qs rfl (dn tab rInt (hs:=[7,5,13]) (l:=[7,5,13]) ⟨rfl,rfl,rfl,trivial⟩ rfl rfl rfl rfl rfl (by decide) (fun s1 m1 hm1 hs1 _ _ => ?_))
   refine uA ?_
   exact cT rfl uS ⟨hm1,rfl,s1,rfl,hs1⟩
 rw [if_neg hk25]
 by_cases hk26 : a.kind=26
 ·rw [if_pos hk26]
  obtain ⟨k,n,u,s⟩:=h
  obtain rfl : k=26:=h1.trans hk26
  simp only at h2 h3 h4 hl
  subst h2
  subst h3
  refine uA ?_
  refine oB (fun b => ?_)
  refine uL ?_
  refine TC.condP rfl (fun h5 => ?_) (fun h5 => ?_)
  ·simp only at h5
   rw [if_pos (show a.kids.length=1 by omega)]
   refine uL ?_
   refine qs rfl (dn tab rInt (hs:=[5]) (l:=[5]) ⟨rfl,trivial⟩ rfl rfl rfl rfl rfl (by decide) (fun s1 m1 hm1 hs1 _ _ => ?_))
   refine uA ?_
   exact cT rfl uS ⟨hm1,rfl,s1,rfl,hs1⟩
  ·simp only at h5
   rw [if_neg (show ¬ a.kids.length=1 by omega)]
   refine uL ?_
   refine qs rfl (dn tab rInt (hs:=[7,5]) (l:=[7,5]) ⟨rfl,rfl,trivial⟩ rfl rfl rfl rfl rfl (by decide) (fun s1 m1 hm1 hs1 _ _ => ?_))
   refine uA ?_
   exact cT rfl uS ⟨hm1,rfl,s1,rfl,hs1⟩
 rw [if_neg hk26]
 by_cases hk27 : a.kind=27
 ·rw [if_pos hk27]
  obtain ⟨k,n,u,s⟩:=h
  obtain rfl : k=27:=h1.trans hk27
  simp only at h2 h3 h4 hl
  subst h2
  subst h3
  refine uA ?_
  refine oB (fun b => ?_)
  refine uL ?_
  exact cT rfl uS ⟨cM _,rfl,⟨none,0,0⟩,rfl,db _ _⟩
 rw [if_neg hk27]
 by_cases hk28 : a.kind=28 ∨ a.kind=29
 ·rw [if_pos hk28]
  obtain ⟨k,n,u,s⟩:=h
  rcases hk28 with hk | hk
  all_goals
   obtain rfl:=h1.trans hk
   refine uA ?_
   refine oB (fun b => ?_)
   refine uL ?_
   exact cT rfl uS ⟨cM _,rfl,⟨none,0,0⟩,rfl,db _ _⟩
 rw [if_neg hk28]
 refine uA ?_
 refine oB (fun b => ?_)
 refine uL ?_
 refine TC.condP rfl (fun h5 => ?_) (fun h5 => ?_)
 ·omega
 refine uA ?_
 refine TC.condP rfl (fun h5 => ?_) (fun h5 => ?_)
 ·omega
 refine uA ?_
 refine TC.condP rfl (fun h5 => ?_) (fun h5 => ?_)
 ·omega
 refine uA ?_
 refine TC.condP rfl (fun h5 => ?_) (fun h5 => ?_)
 ·omega
 refine uA ?_
 refine TC.condP rfl (fun h5 => ?_) (fun h5 => ?_)
 ·omega
 refine uA ?_
 refine TC.condP rfl (fun h5 => ?_) (fun h5 => ?_)
 ·omega
 refine uA ?_
 refine TC.condP rfl (fun h5 => ?_) (fun h5 => ?_)
 ·omega
 refine uA ?_
 refine TC.condP rfl (fun h5 => ?_) (fun h5 => ?_)
 ·omega
 refine uA ?_
 refine TC.condP rfl (fun h5 => ?_) (fun h5 => ?_)
 ·omega
 refine uA ?_
 refine TC.condP rfl (fun h5 => ?_) (fun h5 => ?_)
 ·omega
 refine uA ?_
 exact cT rfl uS ⟨cM _,rfl,⟨none,0,0⟩,rfl,db _ _⟩
end Go.Sep
namespace Go.Sep
open Go.Proofs
attribute [local irreducible] TC TO OT TCallX TCall DO DOt thenQ blockQ retQ At
theorem expression_ref (lv:Str→Nat) (hlv:∀(m:Mem) (L:List Item) (s:Str),TCall Tryz.prog 170 ⟨[strV s]⟩ m L (Ret (.int .i64 (lv s:Int)) m L)) (a:Tree) (m:Mem) (L:List Item) (h:HTree) (hr:TreeRep m h a) :
  TCall Tryz.prog 137 ⟨[treeV h]⟩ m L (ShapeIs m L (shExpr lv a)):=by
 have hr':=hr;obtain⟨h1,h2,h3,h4⟩:=hr;have hl:=h4.len;have hsm:=h4.small rfl;unfold shExpr TCall;refine aU Tryz.func137 92 ?_;by_cases hk40:a.kind=40
 ·rw[if_pos hk40];obtain⟨k,n,u,s⟩:=h;obtain rfl:k=40:=h1.trans hk40;simp only at h2 h3 h4 hl;subst h2;subst h3;refine uA ?_;refine aw (fun b=>?_);refine ne ?_
  rotate_left 1
  ·refine uA ?_;exact eJ
 rw[if_neg hk40];by_cases hk41:a.kind=41
 ·rw[if_pos hk41];obtain⟨k,n,u,s⟩:=h;obtain rfl:k=41:=h1.trans hk41;simp only at h2 h3 h4 hl;subst h2;subst h3;refine uA ?_;refine aw (fun b=>?_);refine aM [] dp 8 ?_;refine kP ?_;refine de tab uC uK [2,3,4,5,6,7] uK rfl ?_;refine aH ?_
  rotate_left 1
  ·refine uA ?_;exact eJ
 rw[if_neg hk41];by_cases hk42:a.kind=42
 ·rw[if_pos hk42];obtain⟨k,n,u,s⟩:=h;obtain rfl:k=42:=h1.trans hk42;simp only at h2 h3 h4 hl;subst h2;subst h3;refine uA ?_;refine aw (fun b=>?_);refine aM [] dp 12 ?_;refine kP ?_;refine de tab uC uK [2,3] uK rfl ?_;refine DO.splitP (d:=24) rfl (fun hg3=>?_) (fun hg3=>?_);refine de tab uC uK [4,5,6,7,8,9,10,11] uK rfl ?_;refine aH ?_
  rotate_left 1
  refine mF ?_;refine ae 5 0 ?_;refine de tab uC uK [6,7,8,9,10,11] uK rfl ?_;refine aH ?_
  rotate_left 1
  ·refine uA ?_;refine af ⟨cM _,rfl,⟨none,0,0⟩,?_,db _ _⟩;rw[ce hg3];rfl
  ·refine uA ?_;refine af ⟨cM _,rfl,⟨none,0,0⟩,?_,db _ _⟩;rw[cg hg3];rfl
 rw[if_neg hk42];by_cases hk43:a.kind=43
 ·rw[if_pos hk43];obtain⟨k,n,u,s⟩:=h;obtain rfl:k=43:=h1.trans hk43;simp only at h2 h3 h4 hl;subst h2;subst h3;refine uA ?_;refine aw (fun b=>?_);exact eJ
 rw[if_neg hk43];by_cases hk44:a.kind=44
 ·rw[if_pos hk44];obtain⟨k,n,u,s⟩:=h;obtain rfl:k=44:=h1.trans hk44;simp only at h2 h3 h4 hl;subst h2;subst h3;refine uA ?_;refine aw (fun b=>?_);exact eJ
 rw[if_neg hk44];by_cases hk45:a.kind=45
 ·rw[if_pos hk45];obtain⟨k,n,u,s⟩:=h;obtain rfl:k=45:=h1.trans hk45;simp only at h2 h3 h4 hl;subst h2;subst h3;refine uA ?_;refine aw (fun b=>?_);exact eJ
 rw[if_neg hk45];by_cases hk46:a.kind=46
 ·rw[if_pos hk46];obtain⟨k,n,u,s⟩:=h;obtain rfl:k=46:=h1.trans hk46;simp only at h2 h3 h4 hl;subst h2;subst h3;refine uA ?_;refine aw (fun b=>?_);refine au (hs:=[2]) (l:=[2]) tab rInt ⟨rfl,trivial⟩ uH oO (fun s1 m1 hm1 hs1 _ _=>?_);exact eo
 rw[if_neg hk46];by_cases hk47:a.kind=47
 ·rw[if_pos hk47];obtain⟨k,n,u,s⟩:=h;obtain rfl:k=47:=h1.trans hk47;simp only at h2 h3 h4 hl;subst h2;subst h3;refine uA ?_;refine aw (fun b=>?_);refine au (hs:=[3,5]) (l:=[3,5]) tab rInt ⟨rfl,rfl,trivial⟩ uH oO (fun s1 m1 hm1 hs1 _ _=>?_);exact eo
 rw[if_neg hk47];by_cases hk48:a.kind=48
 ·rw[if_pos hk48];obtain⟨k,n,u,s⟩:=h;obtain rfl:k=48:=h1.trans hk48;simp only at h2 h3 h4 hl;subst h2;subst h3;refine uA ?_;refine aw (fun b=>?_);refine au (hs:=[7]) (l:=[7]) tab rInt ⟨rfl,trivial⟩ uH oO (fun s1 m1 hm1 hs1 _ _=>?_);exact eo
 rw[if_neg hk48];by_cases hk49:a.kind=49
 ·rw[if_pos hk49];obtain⟨k,n,u,s⟩:=h;obtain rfl:k=49:=h1.trans hk49;simp only at h2 h3 h4 hl;subst h2;subst h3;refine uA ?_;refine aw (fun b=>?_);refine au (hs:=[7,7]) (l:=[7,7]) tab rInt ⟨rfl,rfl,trivial⟩ uH oO (fun s1 m1 hm1 hs1 _ _=>?_);exact eo
 rw[if_neg hk49];by_cases hk50:a.kind=50
 ·rw[if_pos hk50];obtain⟨k,n,u,s⟩:=h;obtain rfl:k=50:=h1.trans hk50;simp only at h2 h3 h4 hl;by_cases n0:a.num=0
  ·rw[if_pos n0];obtain rfl:u=0:=h3.trans n0;refine uA ?_;refine aw (fun b=>?_);refine au (hs:=[7]) (l:=[7]) tab rInt ⟨rfl,trivial⟩ uH oO (fun s1 m1 hm1 hs1 _ _=>?_);exact eo
  rw[if_neg n0];by_cases n1:a.num=1∨a.num=2
  ·rw[if_pos n1];rcases n1 with n1 | n1
   all_goals
    obtain rfl:=h3.trans n1;refine uA ?_;refine aw (fun b=>?_);refine au (hs:=[7,7]) (l:=[7,7]) tab rInt ⟨rfl,rfl,trivial⟩ uH oO (fun s1 m1 hm1 hs1 _ _=>?_);exact eo
  rw[if_neg n1];by_cases n3:a.num=3
  ·rw[if_pos n3];obtain rfl:u=3:=h3.trans n3;refine uA ?_;refine aw (fun b=>?_);refine au (hs:=[7,7,7]) (l:=[7,7,7]) tab rInt ⟨rfl,rfl,rfl,trivial⟩ uH oO (fun s1 m1 hm1 hs1 _ _=>?_);exact eo
  rw[if_neg n3];refine uA ?_;refine aw (fun b=>?_);refine ak (fun h5=>?_) (fun h5=>?_)
  ·simp only at h5;omega
  refine uA ?_;refine ak (fun h5=>?_) (fun h5=>?_)
  ·simp only at h5;omega
  refine uA ?_;refine ak (fun h5=>?_) (fun h5=>?_)
  ·simp only at h5;omega
  refine uA ?_;refine ak (fun h5=>?_) (fun h5=>?_)
  ·simp only at h5;omega
  refine uA ?_;exact eJ
 rw[if_neg hk50];by_cases hk51:a.kind=51
 ·rw[if_pos hk51];obtain⟨k,n,u,s⟩:=h;obtain rfl:k=51:=h1.trans hk51;simp only at h2 h3 h4 hl;subst h2;subst h3;refine uA ?_;refine aw (fun b=>?_);refine au (hs:=[7]) (l:=[7]) tab rInt ⟨rfl,trivial⟩ uH oO (fun s1 m1 hm1 hs1 _ _=>?_);exact eo
 rw[if_neg hk51];by_cases hk52:a.kind=52
 ·rw[if_pos hk52];obtain⟨k,n,u,s⟩:=h;obtain rfl:k=52:=h1.trans hk52;simp only at h2 h3 h4 hl;subst h2;subst h3;refine uA ?_;refine aw (fun b=>?_);refine aM [] dp 23 ?_;refine de tab uC uK [1] uK rfl ?_;refine ae 2 0 ?_;refine de tab uC uK [3,4] uK rfl ?_;refine DO.splitP (d:=70) rfl (fun hg4=>?_) (fun hg4=>?_);refine de tab uC uK [5,6,7,8,9,10,11,12,13,14,15,16,17,18] uK rfl ?_;refine ag 0 ?_;refine dn tab rInt (hs:=[7]) (l:=[7]) ⟨rfl,trivial⟩ rfl rfl rfl rfl rfl oO (fun s1 m1 hm1 hs1 _ _=>?_);refine⟨hm1,_,bu _,?_⟩;refine mW ?_
  rotate_left 1
  refine lB ?_;refine ae 6 0 ?_;refine de tab uC uK [7,8,9] uK rfl ?_;refine DO.splitP (d:=75) rfl (fun hg9=>?_) (fun hg9=>?_);refine de tab uC uK [10,11,12,13,14,15,16,17,18] uK rfl ?_;refine ag 0 ?_;refine dn tab rInt (hs:=[7]) (l:=[7]) ⟨rfl,trivial⟩ rfl rfl rfl rfl rfl oO (fun s1 m1 hm1 hs1 _ _=>?_);refine⟨hm1,_,bu _,?_⟩;refine mW ?_
  rotate_left 1
  refine nD ?_;refine ae 11 0 ?_;refine de tab uC uK [12,13,14] uK rfl ?_;refine DO.splitP (d:=80) rfl (fun hg14=>?_) (fun hg14=>?_);refine de tab uC uK [15,16,17,18] uK rfl ?_;refine ag 0 ?_;refine dn tab rInt (hs:=[7]) (l:=[7]) ⟨rfl,trivial⟩ rfl rfl rfl rfl rfl oO (fun s1 m1 hm1 hs1 _ _=>?_);refine⟨hm1,_,bu _,?_⟩;refine mW ?_
  rotate_left 1
  refine og ?_;refine ae 16 0 ?_;refine de tab uC uK [17,18] uK rfl ?_;refine ag 0 ?_;refine dn tab rInt (hs:=[7]) (l:=[7]) ⟨rfl,trivial⟩ rfl rfl rfl rfl rfl oO (fun s1 m1 hm1 hs1 _ _=>?_);refine⟨hm1,_,bu _,?_⟩;refine mW ?_
  rotate_left 1
  all_goals
   refine uA ?_;refine af ⟨hm1,rfl,s1,?_,hs1⟩
   simp_all
 rw[if_neg hk52];by_cases hk53:a.kind=53
 ·rw[if_pos hk53];obtain⟨k,n,u,s⟩:=h;obtain rfl:k=53:=h1.trans hk53;simp only at h2 h3 h4 hl;subst h2;subst h3;refine uA ?_;refine aw (fun b=>?_);refine au (hs:=[7,7]) (l:=[7,7]) tab rInt ⟨rfl,rfl,trivial⟩ uH oO (fun s1 m1 hm1 hs1 _ _=>?_);refine uL ?_;refine ap goes170 (hlv _ _ a.name) ?_;exact cT rfl uS ⟨hm1,rfl,s1,rfl,hs1⟩
 rw[if_neg hk53];refine uA ?_;refine aw (fun b=>?_);refine ak (fun h5=>?_) (fun h5=>?_)
 ·omega
 refine uA ?_;refine ak (fun h5=>?_) (fun h5=>?_)
 ·omega
 refine uA ?_;refine ak (fun h5=>?_) (fun h5=>?_)
 ·omega
 refine uA ?_;refine ak (fun h5=>?_) (fun h5=>?_)
 ·omega
 refine uA ?_;refine ak (fun h5=>?_) (fun h5=>?_)
 ·omega
 refine uA ?_;refine ak (fun h5=>?_) (fun h5=>?_)
 ·omega
 refine uA ?_;refine ak (fun h5=>?_) (fun h5=>?_)
 ·omega
 refine uA ?_;refine ak (fun h5=>?_) (fun h5=>?_)
 ·omega
 refine uA ?_;refine ak (fun h5=>?_) (fun h5=>?_)
 ·omega
 refine uA ?_;refine ak (fun h5=>?_) (fun h5=>?_)
 ·omega
 refine uA ?_;exact eC
end Go.Sep
namespace Go.Sep
open Go.Proofs
attribute [local irreducible] TC TO OT TCallX TCall DO DOt thenQ blockQ retQ At
theorem shape_k4 (a:Tree) (m:Mem) (L:List Item) (h:HTree) (hr:TreeRep m h a):TCall Tryz.prog 91 ⟨[treeV h,.int .i64 4]⟩ m L (ShapeIs m L ⟨[2],0,1,decide (a.kind=8)⟩):=by
 obtain⟨h1,h2,h3,h4⟩:=hr;rw[←h1];unfold TCall;refine mK ?_;refine aZ (fun b=>?_);refine lR ?_;refine dn tab rInt (hs:=[2]) (l:=[2]) ⟨rfl,trivial⟩ rfl rfl rfl rfl rfl oO (fun s1 m1 hm1 hs1 _ _=>?_);refine⟨hm1,_,bu _,?_⟩;refine ox ?_
 rotate_left 1
 ·exact eo
theorem shape_k8 (a:Tree) (m:Mem) (L:List Item) (h:HTree) (hr:TreeRep m h a):TCall Tryz.prog 91 ⟨[treeV h,.int .i64 8]⟩ m L (ShapeIs m L ⟨[2],0,1,decide (a.kind=6)⟩):=by
 obtain⟨h1,h2,h3,h4⟩:=hr;rw[←h1];unfold TCall;refine mK ?_;refine aZ (fun b=>?_);refine lR ?_;refine dn tab rInt (hs:=[2]) (l:=[2]) ⟨rfl,trivial⟩ rfl rfl rfl rfl rfl oO (fun s1 m1 hm1 hs1 _ _=>?_);refine⟨hm1,_,bu _,?_⟩;refine ox ?_
 rotate_left 1
 ·exact eo
theorem shape_k9 (a:Tree) (m:Mem) (L:List Item) (h:HTree) (hr:TreeRep m h a):TCall Tryz.prog 91 ⟨[treeV h,.int .i64 9]⟩ m L (ShapeIs m L ⟨[3],0,1,decide (a.kind=6)⟩):=by
 obtain⟨h1,h2,h3,h4⟩:=hr;rw[←h1];unfold TCall;refine mK ?_;refine aZ (fun b=>?_);refine lR ?_;refine dn tab rInt (hs:=[3]) (l:=[3]) ⟨rfl,trivial⟩ rfl rfl rfl rfl rfl oO (fun s1 m1 hm1 hs1 _ _=>?_);refine⟨hm1,_,bu _,?_⟩;refine ox ?_
 rotate_left 1
 ·exact eo
theorem shape_k5 (a:Tree) (m:Mem) (L:List Item) (h:HTree) (hr:TreeRep m h a):TCall Tryz.prog 91 ⟨[treeV h,.int .i64 5]⟩ m L (ShapeIs m L ⟨[],6,0,decide (a.kind=20)⟩):=by
 obtain⟨h1,h2,h3,h4⟩:=hr;rw[←h1];unfold TCall;refine mK ?_;refine aZ (fun b=>?_);refine ne ?_
 rotate_left 1
 ·refine uA ?_;exact eJ
theorem shape_k11 (a:Tree) (m:Mem) (L:List Item) (h:HTree) (hr:TreeRep m h a):TCall Tryz.prog 91 ⟨[treeV h,.int .i64 11]⟩ m L (ShapeIs m L ⟨[],0,1,decide (a.kind=44)⟩):=by
 obtain⟨h1,h2,h3,h4⟩:=hr;rw[←h1];unfold TCall;refine mK ?_;refine aZ (fun b=>?_);refine ne ?_
 rotate_left 1
 ·refine uA ?_;exact eJ
section
variable (lv:Str→Nat) (hlv:∀(m:Mem) (L:List Item) (s:Str),TCall Tryz.prog 170 ⟨[strV s]⟩ m L (Ret (.int .i64 (lv s:Int)) m L))
theorem shape_stmt (a:Tree) (m:Mem) (L:List Item) (h:HTree) (hr:TreeRep m h a):TCall Tryz.prog 91 ⟨[treeV h,.int .i64 6]⟩ m L (ShapeIs m L (shStmt lv a)):=by
 unfold TCall;refine mK ?_;refine aw (fun b=>?_);refine oC goes136 ((statement_ref lv a _ _ h hr).x ?_);exact gt
theorem shape_k13 (a:Tree) (m:Mem) (L:List Item) (h:HTree) (hr:TreeRep m h a):TCall Tryz.prog 91 ⟨[treeV h,.int .i64 13]⟩ m L (ShapeIs m L (if a.kind=25 then shStmt lv a else ⟨[],6,0,decide (a.kind=20)⟩)):=by
 have h1:=hr.1;unfold TCall;refine mK ?_;refine aw (fun b=>?_);refine ak (fun h5=>?_) (fun h5=>?_)
 ·rw[if_pos (h1.symm.trans h5)];refine uL ?_;refine oC goes91 ((shape_stmt lv a _ _ h hr).x ?_);exact gt
 ·rw[if_neg (fun e=>h5 (h1.trans e))];refine uL ?_;refine oC goes91 ((shape_k5 a _ _ h hr).x ?_);exact gt
include hlv in
theorem shape_expr (a:Tree) (m:Mem) (L:List Item) (h:HTree) (hr:TreeRep m h a):TCall Tryz.prog 91 ⟨[treeV h,.int .i64 7]⟩ m L (ShapeIs m L (shExpr lv a)):=by
 unfold TCall;refine mK ?_;refine aw (fun b=>?_);refine oC goes137 ((expression_ref lv hlv a _ _ h hr).x ?_);exact gt
end
end Go.Sep
namespace Go.Ps
open Go.Sep (Tree Str)
variable {β:Type}
def opsAt (l:Nat):List Str:=(levels[l]?).getD []
end Go.Ps
namespace Go.Sep
open Go.Proofs
attribute [local irreducible] TC TO OT TCallX TCall DO DOt thenQ blockQ retQ At
def levelD (s:Str):Nat :=
 if s=[124,124]then 1 else if s=[38,38]then 2
 else if s=[61,61]∨s=[33,61]∨s=[60]∨s=[60,61]∨s=[62]∨s=[62,61]then 3
 else if s=[43]∨s=[45]then 4
 else if s=[42]∨s=[47]∨s=[37]then 5 else 0
theorem levelD_pos {s:Str} (h:levelD s≠0):∃ l,l<5∧levelD s=l+1∧s∈Ps.opsAt l:=by
 unfold levelD at h ⊢;by_cases h1:s=[124,124]
 ·exact⟨0,by decide,by rw[if_pos h1],by rw[h1];decide⟩
 rw[if_neg h1]at h ⊢;by_cases h2:s=[38,38]
 ·exact⟨1,by decide,by rw[if_pos h2],by rw[h2];decide⟩
 rw[if_neg h2]at h ⊢;by_cases h3:s=[61,61]∨s=[33,61]∨s=[60]∨s=[60,61]∨s=[62]∨s=[62,61]
 ·refine⟨2,by decide,by rw[if_pos h3],?_⟩;rcases h3 with h | h | h | h | h | h<;>(rw[h];decide)
 rw[if_neg h3]at h ⊢;by_cases h4:s=[43]∨s=[45]
 ·refine⟨3,by decide,by rw[if_pos h4],?_⟩;rcases h4 with h | h<;>(rw[h];decide)
 rw[if_neg h4]at h ⊢;by_cases h5:s=[42]∨s=[47]∨s=[37]
 ·refine⟨4,by decide,by rw[if_pos h5],?_⟩;rcases h5 with h | h | h<;>(rw[h];decide)
 ·rw[if_neg h5]at h;exact absurd rfl h
theorem level_law (m:Mem) (L:List Item) (s:Str):TCall Tryz.prog 170 ⟨[strV s]⟩ m L (Ret (.int .i64 (levelD s:Int)) m L):=by
 unfold TCall levelD;refine am Tryz.func170 22 ?_;refine ak (fun a1=>?_) (fun a1=>?_)
 ·skip;subst a1;exact ej
 refine uA ?_;refine ak (fun a2=>?_) (fun a2=>?_)
 ·skip;subst a2;exact ej
 refine uA ?_;refine ak (fun a3=>?_) (fun a3=>?_)
 ·skip;subst a3;exact ej
 refine uA ?_;refine ak (fun a4=>?_) (fun a4=>?_)
 ·skip;subst a4;exact ej
 refine uA ?_;refine ak (fun a5=>?_) (fun a5=>?_)
 ·skip;subst a5;exact ej
 refine uA ?_;refine ak (fun a6=>?_) (fun a6=>?_)
 ·skip;subst a6;exact ej
 refine uA ?_;refine ak (fun a7=>?_) (fun a7=>?_)
 ·skip;subst a7;exact ej
 refine uA ?_;refine ak (fun a8=>?_) (fun a8=>?_)
 ·skip;subst a8;exact ej
 refine uA ?_;refine ak (fun a9=>?_) (fun a9=>?_)
 ·skip;subst a9;exact ej
 refine uA ?_;refine ak (fun a10=>?_) (fun a10=>?_)
 ·skip;subst a10;exact ej
 refine uA ?_;refine ak (fun a11=>?_) (fun a11=>?_)
 ·skip;subst a11;exact ej
 refine uA ?_;refine ak (fun a12=>?_) (fun a12=>?_)
 ·skip;subst a12;exact ej
 refine uA ?_;refine ak (fun a13=>?_) (fun a13=>?_)
 ·skip;subst a13;exact ej
 refine kZ ?_;simp[a1,a2,a3,a4,a5,a6,a7,a8,a9,a10,a11,a12,a13]
end Go.Sep
namespace Go.Sep
theorem level_iff (s:Str):decide (0<(levelD s:Int))=decide (s∈Ps.levels.flatten):=by
 refine decide_eq_decide.2 ⟨fun h=>?_,fun h=>?_⟩
 ·obtain⟨l,h1,h2,h3⟩:=levelD_pos (s:=s) oM;exact List.mem_flatten.2 ⟨Ps.opsAt l,by
   have:∀ l:Fin 5,Ps.opsAt l.val∈Ps.levels:=oO;exact this ⟨l,h1⟩,h3⟩
 ·have:∀ s∈Ps.levels.flatten,0<levelD s:=oO;have:=this s h;omega
def isK (g:Sg) (k:Int):Tree→Bool :=
 if k=7 then g.expr else if k=6 then g.stmt else if k=5 then g.block else if k=2 then Tree.isType else if k=3 then Tree.isSig else if k=4 then Tree.isParam
 else if k=8 then fieldS Tree.isType else if k=9 then fieldS Tree.isSig else if k=10 then plS g else if k=11 then nmS g else if k=12 then callS g else if k=13 then otherS g
 else if k=14 then recvS else if k=1 then declS g else fun _=>false
@[reducible] def Srt (k:Int):Prop:=1≤k∧k≤14
structure SortsOk (x:Shape):Prop where
 ks:∀ k∈x.ks,Srt k
 rest:x.rest=0∨Srt x.rest
theorem want_ok {x:Shape} {a:Tree} (h:SortsOk x) (hf:fitB x a=true) {i:Nat} (hi:i<a.kids.length):Srt (want x i):=by
 unfold want;by_cases h1:i<x.ks.length
 ·rw[bF h1];exact h.ks _ (bS h1)
 ·rw[bM oM];rcases h.rest with h2 | h2
  ·unfold fitB at hf;rw[h2]at hf;simp only[bE,bI,bL,Bool.not_eq_true',decide_eq_false_iff_not,not_true_eq_false,false_or]at hf;omega
  ·exact h2
theorem rep_ok {c:Int} {a:Tree} (h:Srt c):∀ k∈rep c a,Srt k:=fun k hk=>by rw[List.eq_of_mem_replicate hk];exact h
theorem ok_lit {ks:List Int} {r t:Int} {o:Bool} (h:ks.all (fun k=>decide (1≤k∧k≤14))=true) (hr:r=0∨Srt r):SortsOk ⟨ks,r,t,o⟩ :=
 ⟨fun k hk=>by have:=List.all_eq_true.1 h k hk;exact of_decide_eq_true this,hr⟩
theorem rest_ok {r:Int} (h:decide (r=0∨1≤r∧r≤14)=true):r=0∨Srt r:=of_decide_eq_true h
theorem ok_rep {c r t:Int} {o:Bool} {a:Tree} (h:Srt c) (hr:r=0∨Srt r):SortsOk ⟨rep c a,r,t,o⟩:=⟨rep_ok h,hr⟩
theorem ok_if {c:Prop} [Decidable c] {x y:Shape} (hx:SortsOk x) (hy:SortsOk y):SortsOk (if c then x else y):=by
 by_cases h:c
 ·rw[if_pos h];exact hx
 ·rw[if_neg h];exact hy
theorem SortsOk.but {x:Shape} (h:SortsOk x) (c:Bool):SortsOk (x.but c):=⟨h.ks,h.rest⟩
theorem shStmt_ok (lv:Str→Nat) (a:Tree):SortsOk (shStmt lv a):=by
 unfold shStmt
 repeat' first
  | refine ok_if ?_ ?_
  | exact ok_lit rfl (rest_ok oO)
  | exact ok_rep (c:=11) ⟨by decide,by decide⟩ (rest_ok oO)
  | exact ok_rep (c:=10) ⟨by decide,by decide⟩ (rest_ok oO)
theorem shExpr_ok (lv:Str→Nat) (a:Tree):SortsOk (shExpr lv a):=by
 unfold shExpr;exact gT
theorem shDecl_ok (a:Tree):SortsOk (shDecl a):=by
 unfold shDecl;exact gT
theorem shTyp_ok (a:Tree):SortsOk (shTyp a):=by
 unfold shTyp;exact gT
theorem shSig_ok (a:Tree):SortsOk (shSig a):=ok_rep (c:=4) ⟨by decide,by decide⟩ (rest_ok oO)
theorem shapeR_ok (lv:Str→Nat) (k:Int) (a:Tree):SortsOk (shapeR lv k a):=by
 unfold shapeR
 repeat' first
  | exact(shExpr_ok lv a).but _
  | exact shExpr_ok lv a
  | exact shStmt_ok lv a
  | exact shDecl_ok a
  | exact shTyp_ok a
  | exact shSig_ok a
  | refine ok_if ?_ ?_
  | exact ok_lit rfl (rest_ok oO)
theorem size_of_kid {a t:Tree} (h:t∈a.kids):t.size<a.size:=by
 exact io
theorem all_get {p q:Int→Tree→Bool}:∀(ks:List Int) (r:Int) (l:List Tree),(∀(i:Nat) (hi:i<l.length),p (ks[i]?.getD r) l[i]=q (ks[i]?.getD r) l[i])→allS p ks r l=allS q ks r l
 | [],r,[],_=>rfl
 | _::_,r,[],_=>rfl
 | [],r,t::ts,h=>by
  rw[allS,allS,all_get [] r ts fun i hi=>h (i+1) pc];have:=h 0 oN;simp only[List.getElem?_nil,Option.getD_none,List.getElem_cons_zero]at this;rw[this]
 | k::ks,r,t::ts,h=>by
  rw[allS,allS,all_get ks r ts fun i hi=>by have:=h (i+1) pc;simpa using this];have:=h 0 oN;simp only[List.getElem?_cons_zero,Option.getD_some,List.getElem_cons_zero]at this;rw[this]
def restO (p:Int→Tree→Bool) (r:Int):Option (Tree→Bool):=if r=0 then none else some (p r)
theorem allS_kids (p : Int→Tree→Bool) : ∀ (ks : List Int) (r : Int) (l : List Tree),(decide (ks.length ≤ l.length) && ((!decide (r=0) || decide (l.length ≤ ks.length)) && allS p ks r l))=kidsR (ks.map p) (restO p r) l
 | [],r,[]=>by unfold restO;split <;> simp [kidsR,allS, *]
 | k :: ks,r,[]=>by simp [kidsR]
 | [],r,t :: ts=>by
  unfold restO
  split
  ·next h=>simp [kidsR,h]
  ·next h =>
   have:=allS_kids p [] r ts
   unfold restO at this
   rw [if_neg h] at this
   simp only [bQ,kidsR] at this
   simp only [bQ,kidsR,cA,← this,allS]
   simp [h]
 | k :: ks,r,t :: ts=>by
  have:=allS_kids p ks r ts
  simp only [bP,kidsR,← this,allS,bo,Nat.add_le_add_iff_right]
  cases p k t <;> simp
theorem allS_take (p:Int→Tree→Bool) (c r:Int) (n:Nat):∀ l:List Tree,n≤l.length→allS p (List.replicate n c) r l=((l.take n).all (p c)&&(l.drop n).all (p r)):=by
 induction n with
 | zero=>intro l _;induction l with
  | nil=>rfl
  | cons t ts ih=>simp only[List.replicate_zero]at *;rw[allS,ih (cw _)];simp
 | succ n ih =>
  intro l hl;cases l with
  | nil=>simp at hl
  | cons t ts =>
   rw[List.replicate_succ,allS,ih ts (by simpa using hl),List.take_succ_cons,cA,List.drop_succ_cons,cH]
theorem is_eq (x:Shape) (a:Tree) (p:Int→Tree→Bool):(fitB x a&&(textB x a&&allS p x.ks x.rest a.kids)) =
  ((x.ok&&(decide (a.num=0)||numB a.kind))&&(textB x a&&kidsR (x.ks.map p) (restO p x.rest) a.kids)):=by
 rw[←allS_kids];unfold fitB;cases x.ok<;>cases textB x a<;>cases decide (x.ks.length≤a.kids.length)<;>cases decide (a.num=0)<;>cases numB a.kind<;>cases decide (x.rest=0)<;>cases decide (a.kids.length≤x.ks.length)<;>cases allS p x.ks x.rest a.kids<;>rfl
theorem kidsR2 (p q:Tree→Bool) (l:List Tree):kidsR [p,q] none l=true→l.length=2:=by
 match l with
 | []=>simp[kidsR]
 | [_]=>simp[kidsR]
 | [_,_]=>simp
 | _::_::_::_=>simp[kidsR]
theorem kidsR3 (p q r:Tree→Bool) (l:List Tree):kidsR [p,q,r] none l=true→l.length=3:=by
 match l with
 | []=>simp[kidsR]
 | [_]=>simp[kidsR]
 | [_,_]=>simp[kidsR]
 | [_,_,_]=>simp
 | _::_::_::_::_=>simp[kidsR]
theorem kidsR_same : ∀(n:Nat) (p:Tree→Bool) (l:List Tree),kidsR (List.replicate n p) none l=(decide (l.length=n)&&l.all p)
 | 0,p,[]=>by simp[kidsR]
 | 0,p,_::_=>by simp[kidsR]
 | n+1,p,[]=>by simp[kidsR,List.replicate_succ]
 | n+1,p,x::l=>by
  rw[List.replicate_succ,kidsR,kidsR_same n p l];simp only[bo,Nat.add_right_cancel_iff,cA];cases p x<;>simp
theorem asg_eq (g:Sg) (c:Int) (a:Tree) (hs:a.kids.length≤20000) : 
  ((decide (1≤a.num)&&decide (a.num<(a.kids.length:Int)))&&kidsR ((rep c a).map (isK g)) (restO (isK g) 7) a.kids)=asgS g (isK g c) a:=by
 unfold asgS;by_cases h1:1≤a.num
 ·by_cases h2:a.num<(a.kids.length:Int)
  ·rw[ce h1,ce h2,←allS_kids];have h3:rep c a=List.replicate a.num.toNat c:=by unfold rep;rw[show min a.num.toNat 20001=a.num.toNat by omega]
   rw[h3,allS_take (isK g) c 7 a.num.toNat a.kids oM,List.length_replicate,ce (show a.num.toNat≤a.kids.length by omega)];rfl
  ·rw[cg h2,ce h1];rfl
 ·rw[cg h1];rfl
def shB (p:Int→Tree→Bool) (x:Shape) (a:Tree):Bool:=(x.ok&&(decide (a.num=0)||numB a.kind))&&(textB x a&&kidsR (x.ks.map p) (restO p x.rest) a.kids)
theorem text0 {ks:List Int} {r:Int} {o:Bool} (a:Tree):textB ⟨ks,r,0,o⟩ a=decide (a.name=[]):=by unfold textB;cases decide (a.name=[])<;>rfl
theorem text1 {ks:List Int} {r:Int} {o:Bool} (a:Tree):textB ⟨ks,r,1,o⟩ a=isName a.name:=by unfold textB;cases isName a.name<;>rfl
theorem text2 {ks:List Int} {r:Int} {o:Bool} (a:Tree):textB ⟨ks,r,2,o⟩ a=true:=rfl
theorem num_y {k:Int} (a:Tree) (h:a.kind=k) (hk:numB k=true):(decide (a.num=0)||numB a.kind)=true:=by rw[h,hk,cE]
theorem num_n {k:Int} (a:Tree) (h:a.kind=k) (hk:numB k=false):(decide (a.num=0)||numB a.kind)=decide (a.num=0):=by rw[h,hk,cF]
theorem bareB_eq (a:Tree) (k t u:Bool):bareB a k t u=(k&&((t||decide (a.name=[]))&&(u||decide (a.num=0)))):=rfl
section
variable (g:Sg) (a:Tree)
theorem shY {x:Shape} {k:Int} {o:Bool} {ps:List (Tree→Bool)} {r:Option (Tree→Bool)} (hk:a.kind=k) (hn:numB k=true) (ho:x.ok=o) (hp:x.ks.map (isK g)=ps) (hr:restO (isK g) x.rest=r):shB (isK g) x a=(o&&(textB x a&&kidsR ps r a.kids)):=by
 unfold shB;rw[num_y a hk hn,hp,hr,ho,bX]
theorem shN {x:Shape} {k:Int} {o:Bool} {ps:List (Tree→Bool)} {r:Option (Tree→Bool)} (hk:a.kind=k) (hn:numB k=false) (ho:x.ok=o) (hp:x.ks.map (isK g)=ps) (hr:restO (isK g) x.rest=r):shB (isK g) x a=((o&&decide (a.num=0))&&(textB x a&&kidsR ps r a.kids)):=by
 unfold shB;rw[num_n a hk hn,hp,hr,ho]
theorem ofB_eq {k:Int} (h:a.kind=k):ofB a k=(decide (a.num=0)&&isName a.name):=by unfold ofB;rw[ce h,bY]
theorem kidsR_nil (p:Tree→Bool) (l:List Tree):kidsR [] (some p) l=l.all p:=rfl
theorem kidsR_two (p:Tree→Bool) (l:List Tree):kidsR [p,p] none l=(decide (l.length=2)&&l.all p):=kidsR_same 2 p l
theorem kidsR_three (p:Tree→Bool) (l:List Tree):kidsR [p,p,p] none l=(decide (l.length=3)&&l.all p):=kidsR_same 3 p l
theorem sh_expr : shB (isK g) (shExpr levelD a) a=exprS g a:=by
 unfold shExpr exprS;by_cases h:a.kind=40
 ·rw[if_pos h,if_pos h,shY g a h rfl rfl (ps:=[]) (r:=none) rfl rfl];refine la ?_;exact d7
 rw[if_neg h,if_neg h];clear h;by_cases h:a.kind=41
 ·rw[if_pos h,if_pos h,shN g a h rfl rfl (ps:=[]) (r:=none) rfl rfl];refine la ?_;exact d7
 rw[if_neg h,if_neg h];clear h;by_cases h:a.kind=42
 ·rw[if_pos h,if_pos h,shY g a h rfl rfl (ps:=[]) (r:=none) rfl rfl,text0,bareB_eq];rw[show(decide (a.num=0)||decide (a.num=1))=decide (a.num / 2=0) by rw[←Bool.decide_or];exact decide_eq_decide.2 oM];exact d7
 rw[if_neg h,if_neg h];clear h;by_cases h:a.kind=43
 ·rw[if_pos h,if_pos h,shN g a h rfl rfl (ps:=[]) (r:=none) rfl rfl];refine la ?_;exact d7
 rw[if_neg h,if_neg h];clear h;by_cases h:a.kind=44
 ·rw[if_pos h,if_pos h,shN g a h rfl rfl (ps:=[]) (r:=none) rfl rfl];refine la ?_;exact d7
 rw[if_neg h,if_neg h];clear h;by_cases h:a.kind=45
 ·rw[if_pos h,if_pos h,shN g a h rfl rfl (ps:=[]) (r:=(some g.expr)) rfl rfl];refine la ?_;exact d7
 rw[if_neg h,if_neg h];clear h;by_cases h:a.kind=46
 ·rw[if_pos h,if_pos h,shN g a h rfl rfl (ps:=[Tree.isType]) (r:=(some g.expr)) rfl rfl];refine la ?_;exact d7
 rw[if_neg h,if_neg h];clear h;by_cases h:a.kind=47
 ·rw[if_pos h,if_pos h,shN g a h rfl rfl (ps:=[Tree.isSig,g.block]) (r:=none) rfl rfl];refine la ?_;exact d7
 rw[if_neg h,if_neg h];clear h;by_cases h:a.kind=48
 ·rw[if_pos h,if_pos h,shN g a h rfl rfl (ps:=[g.expr]) (r:=none) rfl rfl];refine la ?_;exact d7
 rw[if_neg h,if_neg h];clear h;by_cases h:a.kind=49
 ·rw[if_pos h,if_pos h,shN g a h rfl rfl (ps:=[g.expr,g.expr]) (r:=none) rfl rfl];refine la ?_;exact d7
 rw[if_neg h,if_neg h];clear h;by_cases h:a.kind=50
 ·rw[if_pos h,if_pos h];unfold lvl;by_cases n0:a.num=0
  ·rw[if_pos n0,shY g a h rfl rfl (ps:=[g.expr]) (r:=none) rfl rfl,text0,bareB_eq,kidsR1,n0];rw[show decide ((a.kids.length:Int)=1+0 % 2+0 / 2)=decide (a.kids.length=1) from decide_eq_decide.2 oM];exact d7
  rw[if_neg n0];by_cases n1:a.num=1∨a.num=2
  ·rw[if_pos n1,shY g a h rfl rfl (ps:=[g.expr,g.expr]) (r:=none) rfl rfl,text0,bareB_eq,kidsR_two];rcases n1 with n1 | n1
   ·rw[n1,show decide ((a.kids.length:Int)=1+1 % 2+1 / 2)=decide (a.kids.length=2) from decide_eq_decide.2 oM];exact d7
   ·rw[n1,show decide ((a.kids.length:Int)=1+2 % 2+2 / 2)=decide (a.kids.length=2) from decide_eq_decide.2 oM];exact d7
  rw[if_neg n1];by_cases n3:a.num=3
  ·rw[if_pos n3,shY g a h rfl rfl (ps:=[g.expr,g.expr,g.expr]) (r:=none) rfl rfl,text0,bareB_eq,kidsR_three,n3];rw[show decide ((a.kids.length:Int)=1+3 % 2+3 / 2)=decide (a.kids.length=3) from decide_eq_decide.2 oM];exact d7
  rw[if_neg n3,shY g a h rfl rfl (ps:=[]) (r:=none) rfl rfl,bareB_eq,Bool.false_and];by_cases n4:0≤a.num
  ·rw[cg (show ¬a.num≤3 by omega),Bool.false_and,Bool.and_false,Bool.false_and,Bool.false_and]
  ·rw[cg n4,Bool.false_and,Bool.false_and,Bool.false_and]
 rw[if_neg h,if_neg h];clear h;by_cases h:a.kind=51
 ·rw[if_pos h,if_pos h,shN g a h rfl rfl (ps:=[g.expr]) (r:=(some g.expr)) rfl rfl];refine la ?_;exact d7
 rw[if_neg h,if_neg h];clear h;by_cases h:a.kind=52
 ·rw[if_pos h,if_pos h,shN g a h rfl rfl (ps:=[g.expr]) (r:=none) rfl rfl,text2,bareB_eq];rw[show(decide (a.name=[45])||(decide (a.name=[33])||(decide (a.name=[38])||decide (a.name=[42]))))=decide (a.name∈ops4) by rw[←Bool.decide_or,←Bool.decide_or,←Bool.decide_or];exact decide_eq_decide.2 (by simp[ops4])];exact d7
 rw[if_neg h,if_neg h];clear h;by_cases h:a.kind=53
 ·rw[if_pos h,if_pos h,shN g a h rfl rfl (ps:=[g.expr,g.expr]) (r:=none) rfl rfl,text2,bareB_eq,level_iff];exact d7
 exact ik
theorem headS_y {a:Tree} {k:Int} (h:a.kind=k) (h1:k=21):headS a=decide (a.num=0):=by
 unfold headS;rw[h,h1];rfl
theorem headS_a {a:Tree} {k:Int} (h:a.kind=k) (h1:k=22∨k=23):headS a=decide (a.name=[]):=by
 exact kc
theorem headS_n {a:Tree} {k:Int} (h:a.kind=k) (h1:k≠21∧k≠22∧k≠23):headS a=(decide (a.name=[])&&decide (a.num=0)):=by
 unfold headS;rw[h,cg h1.1,cg h1.2.1,cg h1.2.2];rfl
theorem stmtS_head : stmtS g a=(headS a&&(if a.kind=20 then blockS g a
 else if a.kind=21 then isName a.name&&(kidsR [Tree.isType] none a.kids||kidsR [Tree.isType,g.expr] none a.kids)
 else if a.kind=22 then asgS g (nmS g) a
 else if a.kind=23 then asgS g (plS g) a
 else if a.kind=24 then kidsR [callS g] none a.kids
 else if a.kind=25 then kidsR [g.expr,g.block] none a.kids||kidsR [g.expr,g.block,otherS g] none a.kids
 else if a.kind=26 then kidsR [g.block] none a.kids||kidsR [g.expr,g.block] none a.kids
 else if a.kind=27 then a.kids.all g.expr
 else if a.kind=28∨a.kind=29 then kidsR [] none a.kids
 else false)):=by
 unfold stmtS;cases headS a<;>simp
theorem or_len {A B:Bool} {l:List Tree} {n:Nat} (hA:A=true→l.length=n) (hB:B=true→l.length≠n):(A||B)=if l.length=n then A else B:=by
 cases A with
 | true=>rw[if_pos (hA rfl)];rfl
 | false =>
  cases B with
  | true=>rw[if_neg (hB rfl)];rfl
  | false=>split<;>rfl
theorem kidsR1_len (p:Tree→Bool) (l:List Tree) (h:kidsR [p] none l=true):l.length=1:=by
 rw[kidsR1,bE]at h;exact of_decide_eq_true h.1
theorem sh_stmt (hs:a.kids.length≤20000):shB (isK g) (shStmt levelD a) a=stmtS g a:=by
 rw[stmtS_head];unfold shStmt;by_cases h:a.kind=20
 ·rw[if_pos h,if_pos h,shN g a h rfl rfl (ps:=[]) (r:=some g.stmt) rfl rfl,text0,headS_n h oO,kidsR_nil,blockS,bareB_eq,ce h];simp only[bY,bX,cG,Bool.true_or,cF,bZ,bareB_eq,cH];cases decide (a.name=[])<;>cases decide (a.num=0)<;>rfl
 rw[if_neg h,if_neg h];clear h;by_cases h:a.kind=21
 ·rw[if_pos h,if_pos h,headS_y h rfl,or_len (kidsR1_len _ _) (fun h=>by have:=kidsR2 _ _ _ h;omega)];by_cases h2:a.kids.length=1
  ·rw[if_pos h2,if_pos h2,shN g a h rfl rfl (ps:=[Tree.isType]) (r:=none) rfl rfl,text1];exact d7
  ·rw[if_neg h2,if_neg h2,shN g a h rfl rfl (ps:=[Tree.isType,g.expr]) (r:=none) rfl rfl,text1];exact d7
 rw[if_neg h,if_neg h];clear h;by_cases h:a.kind=22
 ·rw[if_pos h,if_pos h,headS_a h (.inl rfl),shY g a h rfl rfl rfl rfl,text0,←show isK g 11=nmS g from rfl,←asg_eq g 11 a hs];exact d7
 rw[if_neg h,if_neg h];clear h;by_cases h:a.kind=23
 ·rw[if_pos h,if_pos h,headS_a h (.inr rfl),shY g a h rfl rfl rfl rfl,text0,←show isK g 10=plS g from rfl,←asg_eq g 10 a hs];exact d7
 rw[if_neg h,if_neg h];clear h;by_cases h:a.kind=24
 ·rw[if_pos h,if_pos h,headS_n h oO,shN g a h rfl rfl (ps:=[callS g]) (r:=none) rfl rfl,text0];exact d7
 rw[if_neg h,if_neg h];clear h;by_cases h:a.kind=25
 ·rw[if_pos h,if_pos h,headS_n h oO,or_len (kidsR2 _ _ _) (fun h=>by have:=kidsR3 _ _ _ _ h;omega)];by_cases h2:a.kids.length=2
  ·rw[if_pos h2,if_pos h2,shN g a h rfl rfl (ps:=[g.expr,g.block]) (r:=none) rfl rfl,text0];exact d7
  ·rw[if_neg h2,if_neg h2,shN g a h rfl rfl (ps:=[g.expr,g.block,otherS g]) (r:=none) rfl rfl,text0];exact d7
 rw[if_neg h,if_neg h];clear h;by_cases h:a.kind=26
 ·rw[if_pos h,if_pos h,headS_n h oO,or_len (kidsR1_len _ _) (fun h=>by have:=kidsR2 _ _ _ h;omega)];by_cases h2:a.kids.length=1
  ·rw[if_pos h2,if_pos h2,shN g a h rfl rfl (ps:=[g.block]) (r:=none) rfl rfl,text0];exact d7
  ·rw[if_neg h2,if_neg h2,shN g a h rfl rfl (ps:=[g.expr,g.block]) (r:=none) rfl rfl,text0];exact d7
 rw[if_neg h,if_neg h];clear h;by_cases h:a.kind=27
 ·rw[if_pos h,if_pos h,headS_n h oO,shN g a h rfl rfl (ps:=[]) (r:=some g.expr) rfl rfl,text0,kidsR_nil];exact d7
 rw[if_neg h,if_neg h];clear h;by_cases h:a.kind=28∨a.kind=29
 ·rw[if_pos h,if_pos h];rcases h with h | h
  ·rw[headS_n h oO,shN g a h rfl rfl (ps:=[]) (r:=none) rfl rfl,text0];exact d7
  ·rw[headS_n h oO,shN g a h rfl rfl (ps:=[]) (r:=none) rfl rfl,text0];exact d7
 exact ik
theorem sh_but (p:Int→Tree→Bool) (x:Shape) (c:Bool):shB p (x.but c) a=(c&&shB p x a):=by
 unfold shB Shape.but;cases c<;>rfl
theorem sh_block (g:Sg):shB (isK g) ⟨[],6,0,decide (a.kind=20)⟩ a=blockS g a:=by
 by_cases h:a.kind=20
 ·rw[shN g a h rfl rfl (ps:=[]) (r:=some g.stmt) rfl rfl,text0,kidsR_nil,blockS];exact d7
 ·unfold shB blockS;simp only[bareB_eq,cg h,Bool.false_and]
theorem sh_typ : shB (isK g) (shTyp a) a=a.isType:=by
 rw[isType_eq];unfold shTyp;by_cases h:a.kind=10
 ·rw[if_pos h,if_pos h,shN g a h rfl rfl (ps:=[]) (r:=none) rfl rfl,text1,kidsR0];exact d7
 rw[if_neg h,if_neg h];clear h;by_cases h:a.kind=11∨a.kind=12
 ·rw[if_pos h,if_pos h];rcases h with h | h
  ·rw[shN g a h rfl rfl (ps:=[Tree.isType]) (r:=none) rfl rfl,text0,kidsR1];exact d7
  ·rw[shN g a h rfl rfl (ps:=[Tree.isType]) (r:=none) rfl rfl,text0,kidsR1];exact d7
 rw[if_neg h,if_neg h];clear h;by_cases h:a.kind=13
 ·rw[if_pos h,if_pos h,shY g a h rfl rfl (ps:=[]) (r:=some Tree.isType) rfl rfl,text0,kidsR_nil];exact d7
 exact ik
theorem sh_param : shB (isK g) ⟨[2],0,1,decide (a.kind=8)⟩ a=a.isParam:=by
 unfold Tree.isParam;by_cases h:a.kind=8
 ·rw[shN g a h rfl rfl (ps:=[Tree.isType]) (r:=none) rfl rfl,text1,kidsR1];exact d7
 ·exact jm
theorem sh_field (p:Tree→Bool) (k:Int) (hp:[k].map (isK g)=[p]):shB (isK g) ⟨[k],0,1,decide (a.kind=6)⟩ a=fieldS p a:=by
 unfold fieldS;by_cases h:a.kind=6
 ·rw[shN g a h rfl rfl (ps:=[p]) (r:=none) hp rfl,text1,ofB_eq a h,ce h];exact d7
 ·unfold shB ofB;simp only[cg h,Bool.false_and]
theorem sh_sig (hs:a.kids.length≤20000):shB (isK g) (shSig a) a=a.isSig:=by
 unfold shSig Tree.isSig;by_cases h:a.kind=7
 ·rw[shY g a h rfl rfl rfl rfl,text0,ce h];by_cases h1:0≤a.num
  ·by_cases h2:a.num≤(a.kids.length:Int)
   ·rw[←allS_kids];have h3:rep 4 a=List.replicate a.num.toNat 4:=by unfold rep;rw[show min a.num.toNat 20001=a.num.toNat by omega]
    rw[h3,allS_take (isK g) 4 2 a.num.toNat a.kids oM,List.length_replicate,ce (show a.num.toNat≤a.kids.length by omega),ce h1,ce h2,←show isK g 4=Tree.isParam from rfl,←show isK g 2=Tree.isType from rfl];simp only[show decide ((2:Int)=0)=false from rfl,Bool.not_false,Bool.true_or,bY]
   ·simp only[cg h2,Bool.and_false,Bool.false_and]
  ·simp only[cg h1,Bool.and_false,Bool.false_and]
 ·exact jm
theorem sh_decl : shB (isK g) (shDecl a) a=declS g a:=by
 unfold shDecl declS;by_cases h:a.kind=2
 ·rw[if_pos h,if_pos h,shN g a h rfl rfl (ps:=[]) (r:=(some (fieldS Tree.isType))) rfl rfl];refine la ?_;exact d7
 rw[if_neg h,if_neg h];clear h;by_cases h:a.kind=3
 ·rw[if_pos h,if_pos h,shN g a h rfl rfl (ps:=[]) (r:=(some (fieldS Tree.isSig))) rfl rfl];refine la ?_;exact d7
 rw[if_neg h,if_neg h];clear h;by_cases h:a.kind=4
 ·rw[if_pos h,if_pos h,shN g a h rfl rfl (ps:=[Tree.isSig,g.block]) (r:=none) rfl rfl];refine la ?_;exact d7
 rw[if_neg h,if_neg h];clear h;by_cases h:a.kind=5
 ·rw[if_pos h,if_pos h,shN g a h rfl rfl (ps:=[recvS,Tree.isSig,g.block]) (r:=none) rfl rfl];refine la ?_;exact d7
 exact ik
end
theorem kid0_eq (a:Tree):kd0 a=kid0 a:=rfl
theorem sh_recv (g:Sg) (a:Tree):shB (isK g) ⟨[2],0,1,((decide (a.kids.length=1)&&decide ((kd0 a).kind=11))&&(decide ((kd0 a).kids.length=1)&&decide ((kd0 (kd0 a)).kind=10)))&&decide (a.kind=8)⟩ a=recvS a:=by
 unfold recvS;rw[←sh_param g a,kid0_eq,kid0_eq];by_cases h:a.kind=8
 ·rw[shN g a h rfl rfl (ps:=[Tree.isType]) (r:=none) rfl rfl,shN g a h rfl rfl (ps:=[Tree.isType]) (r:=none) rfl rfl,text1,text1,kidsR1,ce h];cases hx:decide (a.kids.length=1)with
  | false=>simp only[Bool.false_and,Bool.and_false]
  | true =>
   have h1:a.kids.length=1:=of_decide_eq_true hx;cases hk:decide ((kid0 a).kind=11)with
   | false=>simp only[Bool.false_and,Bool.and_false]
   | true =>
    have h2:(kid0 a).kind=11:=of_decide_eq_true hk;have h3:a.kids.all Tree.isType=(kid0 a).isType:=by
     obtain⟨x,hx⟩:=List.length_eq_one_iff.1 h1;unfold kid0;rw[hx];simp
    rw[h3,isType_eq (kid0 a),if_neg oM,if_pos (.inl h2)];exact d7
 ·unfold shB;simp only[cg h,Bool.false_and,Bool.and_false]
theorem sh_all (k:Int) (hk:Srt k) (a:Tree) (hs:a.kids.length≤20000):shB (isK lim) (shapeR levelD k a) a=isK lim k a:=by
 obtain⟨l1,l2,l3⟩:=lim_fix a;have hk:k=1∨k=2∨k=3∨k=4∨k=5∨k=6∨k=7∨k=8∨k=9∨k=10∨k=11∨k=12∨k=13∨k=14:=by
  obtain⟨h1,h2⟩:=hk;omega
 rcases hk with rfl | rfl | rfl | rfl | rfl | rfl | rfl | rfl | rfl | rfl | rfl | rfl | rfl | rfl
 ·exact sh_decl lim a
 ·exact sh_typ lim a
 ·exact sh_sig lim a hs
 ·exact sh_param lim a
 ·exact(sh_block a lim).trans l3.symm
 ·exact(sh_stmt lim a hs).trans l2.symm
 ·exact(sh_expr lim a).trans l1.symm
 ·exact sh_field lim a Tree.isType 2 rfl
 ·exact sh_field lim a Tree.isSig 3 rfl
 ·show shB (isK lim) ((shExpr levelD a).but (Ps.isPl a)) a=(Ps.isPl a&&lim.expr a)
  rw[sh_but,sh_expr,l1]
 ·show shB (isK lim) ⟨[],0,1,decide (a.kind=44)⟩ a=(decide (a.kind=44)&&lim.expr a)
  rw[l1];by_cases h:a.kind=44
  ·rw[←sh_expr lim a,ce h];unfold shExpr;simp only[h];rfl
  ·exact jm
 ·show shB (isK lim) ((shExpr levelD a).but (decide (a.kind=51))) a=(decide (a.kind=51)&&lim.expr a)
  rw[sh_but,sh_expr,l1]
 ·show shB (isK lim) (if a.kind=25 then shStmt levelD a else ⟨[],6,0,decide (a.kind=20)⟩) a=(lim.block a||(decide (a.kind=25)&&lim.stmt a))
  by_cases h:a.kind=25
  ·rw[if_pos h,sh_stmt lim a hs,←l2,ce h,l3];unfold blockS;simp only[bareB_eq,cg (show ¬a.kind=20 by omega),Bool.false_and,cG,bY]
  ·rw[if_neg h,sh_block,cg h,Bool.false_and,cF,l3]
 ·exact sh_recv lim a
theorem isD_eq : ∀(n:Nat) (k:Int) (a:Tree),Srt k→a.deep≤n→a.size≤20000→isD levelD n k a=isK lim k a
 | 0,k,a,_,hd,_=>by have:=deep_pos a;omega
 | n+1,k,a,hk,hd,hs=>by
  have hl:a.kids.length≤20000:=by have:=len_sizeL a.kids;have:=size_kids a;omega
  rw[←sh_all k hk a hl,isD];unfold shB;rw[←is_eq];cases hf:fitB (shapeR levelD k a) a with
  | false=>rfl
  | true =>
   rw[all_get (q:=isK lim) _ _ _ fun i hi=>isD_eq n _ a.kids[i] (want_ok (shapeR_ok levelD k a) hf hi) (by have:=du (bS hi);omega) (by have:=size_of_kid (bS hi);omega)]
def rsoundB (a:Tree):Bool:=decide (a.kind=1)&&(decide (a.name=[])&&(decide (a.num=0)&&(withinB a 0 0&&a.kids.all (isD levelD 100 1))))
theorem rsound_eq (a:Tree):rsoundB a=soundB a:=by
 unfold rsoundB soundB;rw[withinB_eq,bareB_eq];by_cases h1:a.size≤20000
 ·by_cases h2:a.deep≤100
  ·have h3:a.kids.all (isD levelD 100 1)=a.kids.all (declS (sg 100)):=all_congr fun x hx=>by
    have:=du hx;rw[isD_eq 100 1 x ⟨by decide,by decide⟩ oM (by have:=size_of_kid hx;omega),declS_lim oM];rfl
   rw[h3,ce h1,ce h2,ce (show(a.size:Int)+0≤20000 by omega),ce (show(a.deep:Int)+0≤100 by omega)];exact d7
  ·rw[cg h2,cg (show ¬(a.deep:Int)+0≤100 by omega)];simp only[Bool.false_and,Bool.and_false]
 ·rw[cg h1,cg (show ¬(a.size:Int)+0≤20000 by omega)];simp only[Bool.false_and,Bool.and_false]
end Go.Sep
namespace Go.Sep
open Go.Proofs
attribute [local irreducible] TC TO OT TCallX TCall DO DOt thenQ blockQ retQ At
section
variable (lv:Str→Nat) (hlv:∀(m:Mem) (L:List Item) (s:Str),TCall Tryz.prog 170 ⟨[strV s]⟩ m L (Ret (.int .i64 (lv s:Int)) m L))
include hlv in
theorem shape_k10 (a:Tree) (m:Mem) (L:List Item) (h:HTree) (hr:TreeRep m h a):TCall Tryz.prog 91 ⟨[treeV h,.int .i64 10]⟩ m L (ShapeIs m L ((shExpr lv a).but (Ps.isPl a))):=by
 have hr':=hr;obtain⟨h1,h2,h3,h4⟩:=hr;unfold TCall;refine aU Tryz.func91 236 ?_;have hpl:Ps.isPl a=(decide (a.kind=44)||(decide (a.kind=48)||(decide (a.kind=49)||(decide (a.kind=52)&&decide (a.name=[42]))))):=rfl;have hk:a.kind=44∨a.kind=48∨a.kind=49∨a.kind=52∨(a.kind≠44∧a.kind≠48∧a.kind≠49∧a.kind≠52):=oM;obtain⟨k,n,u,s⟩:=h;rcases hk with hk | hk | hk | hk | hk
 ·obtain rfl:k=44:=h1.trans hk;exact fz
 ·obtain rfl:k=48:=h1.trans hk;exact fz
 ·obtain rfl:k=49:=h1.trans hk;exact fz
 ·obtain rfl:k=52:=h1.trans hk;obtain rfl:n=a.name:=h2;have hp:Ps.isPl a=decide (a.name=[42]):=by rw[hpl,hk];rfl
  refine uA ?_;refine aw (fun b=>?_);refine ou ?_;rintro _ m1 _ ⟨hm1,rfl,s,rfl,hs⟩;refine uA ?_;refine az (fun c1=>?_) (fun c1=>?_)
  ·refine uA ?_;refine af ⟨hm1,rfl,s,?_,hs⟩;rw[hp,ce c1];rfl
  ·refine uA ?_;refine af ⟨hm1,rfl,s,?_,hs⟩;rw[hp,cg c1];rfl
 ·obtain⟨k1,k2,k3,k4⟩:=hk;have hp:Ps.isPl a=false:=by rw[hpl,cg k1,cg k2,cg k3,cg k4];rfl
  obtain rfl:k=a.kind:=h1;refine uA ?_;refine aw (fun b=>?_);refine az (fun c1=>?_) (fun c1=>?_)
  ·exact absurd c1 k1
  refine uL ?_;refine az (fun c2=>?_) (fun c2=>?_)
  ·exact absurd c2 k2
  refine uL ?_;refine az (fun c3=>?_) (fun c3=>?_)
  ·exact absurd c3 k3
  refine uL ?_;refine az (fun c4=>?_) (fun c4=>?_)
  ·exact absurd c4 k4
  refine uL ?_;refine ou ?_;rintro _ m1 _ ⟨hm1,rfl,s,rfl,hs⟩;refine uA ?_;refine af ⟨hm1,rfl,s,?_,hs⟩;rw[hp];rfl
include hlv in
theorem shape_k12 (a:Tree) (m:Mem) (L:List Item) (h:HTree) (hr:TreeRep m h a):TCall Tryz.prog 91 ⟨[treeV h,.int .i64 12]⟩ m L (ShapeIs m L ((shExpr lv a).but (decide (a.kind=51)))):=by
 have h1:=hr.1;unfold TCall;refine mK ?_;refine aw (fun b=>?_);refine oC goes91 ((shape_expr lv hlv a _ _ h hr).x ?_);rintro _ m1 _ ⟨hm1,rfl,s,rfl,hs⟩;refine uA ?_;refine aM [] dp 13 ?_;refine de tab uC uK [0,1,2,3,4] uK rfl ?_;refine DO.split (d:=76) rfl (fun hg4=>?_) (fun hg4=>?_);refine lB ?_;refine ae 6 0 ?_;refine de tab uC uK [7,8,9,10,11,12] uK rfl ?_;refine aH ?_
 rotate_left 1
 refine de tab uC uK [5,6,7,8,9,10,11,12] uK rfl ?_;refine aH ?_
 rotate_left 1
 ·refine uA ?_;refine af ⟨hm1,rfl,s,?_,hs⟩;rw[←h1,show((shExpr lv a).but (decide (h.kind=51))).ok=(decide (h.kind=51)&&(shExpr lv a).ok) from rfl,hg4,bX];rfl
 ·refine uA ?_;refine af ⟨hm1,rfl,s,?_,hs⟩;rw[←h1,show((shExpr lv a).but (decide (h.kind=51))).ok=(decide (h.kind=51)&&(shExpr lv a).ok) from rfl,show(shExpr lv a).ok=false by simpa using hg4,Bool.and_false];rfl
end
def recvB (a:Tree):Bool:=(decide (a.kids.length=1)&&decide ((kd0 a).kind=11))&&(decide ((kd0 a).kids.length=1)&&decide ((kd0 (kd0 a)).kind=10))
theorem recvB_eq (a:Tree):recvB a=((decide (a.kids.length=1)&&decide ((kd0 a).kind=11))&&(decide ((kd0 a).kids.length=1)&&decide ((kd0 (kd0 a)).kind=10))):=rfl
theorem kd0_get {a:Tree} (h:a.kids.length=1):a.kids[0]? = some (kd0 a):=by
 unfold kd0;cases hk:a.kids with
 | nil=>rw[hk]at h;simp at h
 | cons x xs=>rfl
theorem shape_k14 (a:Tree) (m:Mem) (L:List Item) (h:HTree) (hr:TreeRep m h a):TCall Tryz.prog 91 ⟨[treeV h,.int .i64 14]⟩ m L (ShapeIs m L ⟨[2],0,1,recvB a&&decide (a.kind=8)⟩):=by
 obtain⟨h1,h2,h3,h4⟩:=hr;have hl:=h4.len;rw[←h1];unfold TCall;refine mK ?_;refine aw (fun b=>?_);refine az (fun c1=>?_) (fun c1=>?_)
 ·have c1':a.kids.length=1:=oM;have hx:=kd0_get c1';refine uL ?_;refine ll ?_;rintro b4 i4 h' hr4 hA4;have hr5:=rTree_iff.1 hr4;obtain⟨g1,g2,g3,g4⟩:=hr5;have gl:=g4.len;refine uA ?_;refine ah hA4 ?_;refine az (fun c2=>?_) (fun c2=>?_)
  ·have c2':(kd0 a).kind=11:=oM;refine uL ?_;refine ll ?_;rintro b5 i5 h5 hr5 hA5;have hr6:=rTree_iff.1 hr5;obtain⟨e1,e2,e3,e4⟩:=hr6;have el:=e4.len;refine mO ?_;refine az (fun c3=>?_) (fun c3=>?_)
   ·have c3':(kd0 a).kids.length=1:=oM;have hy:=kd0_get c3';refine uL ?_;refine ll ?_;rintro b6 i6 h6 hr6 hA6;have hr7:=rTree_iff.1 hr6;obtain⟨d1,d2,d3,d4⟩:=hr7;refine uA ?_;refine ah hA6 ?_;refine aj tab rTree 0 d4 uH oQ rfl hy ?_;rintro b7 i7 h7 hr7 hA7;have hr8:=rTree_iff.1 hr7;obtain⟨f1,f2,f3,f4⟩:=hr8;refine uA ?_;refine ah hA7 ?_;by_cases c4:(kd0 (kd0 a)).kind=10
    ·obtain⟨k7,n7,u7,s7⟩:=h7;obtain rfl:k7=10:=f1.trans c4;refine uL ?_;refine aM [] dp 11 ?_;refine de tab uC uK [1,2,3] uK rfl ?_;refine ae 4 0 ?_;refine nx ?_;refine ag 0 ?_;refine dn tab rInt (hs:=[2]) (l:=[2]) ⟨rfl,trivial⟩ rfl rfl rfl rfl rfl oO (fun s1 m1 hm1 hs1 _ _=>?_);refine⟨hm1,_,bu _,?_⟩;refine de tab uC uK [7,8,9,10] uK rfl ?_;refine aH ?_
     rotate_left 1
     refine uA ?_;refine af ⟨hm1,rfl,s1,?_,hs1⟩;rw[show recvB a=true by rw[recvB_eq];simp[*]];rfl
    ·rw[show decide (h7.kind=10)=false from cg oM];exact en
   ·have c3':¬(kd0 a).kids.length=1:=oM;exact en
  ·have c2':¬(kd0 a).kind=11:=oM;exact en
 ·have c1':¬a.kids.length=1:=oM;exact en
theorem shape_k3 (a:Tree) (m:Mem) (L:List Item) (h:HTree) (hr:TreeRep m h a):TCall Tryz.prog 91 ⟨[treeV h,.int .i64 3]⟩ m L (ShapeIs m L (shSig a)):=by
 have hr':=hr;obtain⟨h1,h2,h3,h4⟩:=hr;have hl:=h4.len;have hsm:=h4.small rfl;unfold TCall;unfold shSig;rw[←h1];refine mK ?_;refine aZ (fun b=>?_);refine aM [] dp 23 ?_;refine kP ?_;refine mH ?_;refine ae 4 0 ?_;refine lB ?_;refine ag 2 (da rfl rfl rfl rfl rfl rfl goes135 ((repeat_ref _ _ 4 h.num).x ?_));rintro _ m1 _ ⟨hm1,rfl,s1,rfl,hs1⟩;refine⟨hm1,_,bu _,?_⟩;refine mG ?_;refine DO.splitP (d:=170) rfl (fun hg6=>?_) (fun hg6=>?_);refine nK ?_;refine ae 8 0 ?_;refine de tab uC uK [9,10,11] uK rfl ?_;refine DO.splitP (d:=175) rfl (fun hg11=>?_) (fun hg11=>?_);refine de tab uC uK [12] uK rfl ?_;refine ae 13 0 ?_;refine nE ?_;refine ae 15 0 ?_;refine de tab uC uK [16,17,18,19,20,21,22] uK rfl ?_;refine aH ?_
 rotate_left 1
 refine de tab uC uK [12,13,14,15,16,17,18,19,20,21,22] uK rfl ?_;refine aH ?_
 rotate_left 1
 refine de tab uC uK [7,8,9,10,11,12,13,14,15,16,17,18,19,20,21,22] uK rfl ?_;refine aH ?_
 rotate_left 1
 all_goals
  refine uA ?_;refine cT rfl uS ⟨hm1,rfl,s1,?_,by unfold rep;rw[←h3];exact hs1⟩;rw[←hl,←h3]
  first | (simp_all;done) | (simp_all;omega)
theorem shape_k1 (a:Tree) (m:Mem) (L:List Item) (h:HTree) (hr:TreeRep m h a):TCall Tryz.prog 91 ⟨[treeV h,.int .i64 1]⟩ m L (ShapeIs m L (shDecl a)):=by
 have hr':=hr;obtain⟨h1,h2,h3,h4⟩:=hr;have hl:=h4.len;have hsm:=h4.small rfl;unfold TCall;unfold shDecl;refine aU Tryz.func91 236 ?_;by_cases hk2:a.kind=2
 ·rw[if_pos hk2];obtain⟨k,n,u,s⟩:=h;obtain rfl:k=2:=h1.trans hk2;refine uA ?_;refine aw (fun b=>?_);exact eJ
 rw[if_neg hk2];by_cases hk3:a.kind=3
 ·rw[if_pos hk3];obtain⟨k,n,u,s⟩:=h;obtain rfl:k=3:=h1.trans hk3;refine uA ?_;refine aw (fun b=>?_);exact eJ
 rw[if_neg hk3];by_cases hk4:a.kind=4
 ·rw[if_pos hk4];obtain⟨k,n,u,s⟩:=h;obtain rfl:k=4:=h1.trans hk4;refine uA ?_;refine aw (fun b=>?_);refine au (hs:=[3,5]) (l:=[3,5]) tab rInt ⟨rfl,rfl,trivial⟩ uH oO (fun s1 m1 hm1 hs1 _ _=>?_);exact eo
 rw[if_neg hk4];by_cases hk5:a.kind=5
 ·rw[if_pos hk5];obtain⟨k,n,u,s⟩:=h;obtain rfl:k=5:=h1.trans hk5;refine uA ?_;refine aw (fun b=>?_);refine au (hs:=[14,3,5]) (l:=[14,3,5]) tab rInt ⟨rfl,rfl,rfl,trivial⟩ uH oO (fun s1 m1 hm1 hs1 _ _=>?_);exact eo
 rw[if_neg hk5];refine uA ?_;refine aw (fun b=>?_);exact eC
theorem shape_k2 (a:Tree) (m:Mem) (L:List Item) (h:HTree) (hr:TreeRep m h a):TCall Tryz.prog 91 ⟨[treeV h,.int .i64 2]⟩ m L (ShapeIs m L (shTyp a)):=by
 have hr':=hr;obtain⟨h1,h2,h3,h4⟩:=hr;have hl:=h4.len;have hsm:=h4.small rfl;unfold TCall;unfold shTyp;refine aU Tryz.func91 236 ?_;by_cases hk10:a.kind=10
 ·rw[if_pos hk10];obtain⟨k,n,u,s⟩:=h;obtain rfl:k=10:=h1.trans hk10;refine uA ?_;refine aw (fun b=>?_);exact eJ
 rw[if_neg hk10];by_cases hk:a.kind=11∨a.kind=12
 ·rw[if_pos hk];obtain⟨k,n,u,s⟩:=h;rcases hk with hk | hk
  ·obtain rfl:k=11:=h1.trans hk;refine uA ?_;refine aw (fun b=>?_);refine au (hs:=[2]) (l:=[2]) tab rInt ⟨rfl,trivial⟩ uH oO (fun s1 m1 hm1 hs1 _ _=>?_);exact eo
  ·obtain rfl:k=12:=h1.trans hk;refine uA ?_;refine aw (fun b=>?_);refine au (hs:=[2]) (l:=[2]) tab rInt ⟨rfl,trivial⟩ uH oO (fun s1 m1 hm1 hs1 _ _=>?_);exact eo
 rw[if_neg hk];by_cases hk13:a.kind=13
 ·rw[if_pos hk13];obtain⟨k,n,u,s⟩:=h;obtain rfl:k=13:=h1.trans hk13;simp only at h2 h3 h4 hl;subst h3;refine uA ?_;refine aw (fun b=>?_);refine aM [] dp 15 ?_;refine kP ?_;refine de tab uC uK [2,3] uK rfl ?_;refine DO.splitP (d:=212) rfl (fun hg3=>?_) (fun hg3=>?_);refine mF ?_;refine ae 5 0 ?_;refine mG ?_;refine ae 7 0 ?_;refine de tab uC uK [8,9,10,11,12,13,14] uK rfl ?_;refine aH ?_
  rotate_left 1
  refine de tab uC uK [4,5,6,7,8,9,10,11,12,13,14] uK rfl ?_;refine aH ?_
  rotate_left 1
  ·refine uA ?_;refine af ⟨cM _,rfl,⟨none,0,0⟩,?_,db _ _⟩;rw[←hl,ce hg3];rfl
  ·refine uA ?_;refine af ⟨cM _,rfl,⟨none,0,0⟩,?_,db _ _⟩;rw[←hl,cg hg3];rfl
 rw[if_neg hk13];refine uA ?_;refine aw (fun b=>?_);exact eC
end Go.Sep
namespace Go.Sep
open Go.Proofs
attribute [local irreducible] TC TO OT TCallX TCall DO DOt thenQ blockQ retQ At
theorem shape_law (k:Int) (hk:Srt k) (a:Tree) (m:Mem) (L:List Item) (h:HTree) (hr:TreeRep m h a):TCall Tryz.prog 91 ⟨[treeV h,.int .i64 k]⟩ m L (ShapeIs m L (shapeR levelD k a)):=by
 have hk:k=1∨k=2∨k=3∨k=4∨k=5∨k=6∨k=7∨k=8∨k=9∨k=10∨k=11∨k=12∨k=13∨k=14:=by
  obtain⟨h1,h2⟩:=hk;omega
 rcases hk with rfl | rfl | rfl | rfl | rfl | rfl | rfl | rfl | rfl | rfl | rfl | rfl | rfl | rfl
 ·exact shape_k1 a m L h hr
 ·exact shape_k2 a m L h hr
 ·exact shape_k3 a m L h hr
 ·exact shape_k4 a m L h hr
 ·exact shape_k5 a m L h hr
 ·exact shape_stmt levelD a m L h hr
 ·exact shape_expr levelD level_law a m L h hr
 ·exact shape_k8 a m L h hr
 ·exact shape_k9 a m L h hr
 ·exact shape_k10 levelD level_law a m L h hr
 ·exact shape_k11 a m L h hr
 ·exact shape_k12 levelD level_law a m L h hr
 ·exact shape_k13 levelD a m L h hr
 ·exact shape_k14 a m L h hr
theorem text_ok (lv:Str→Nat) (k:Int) (a:Tree):(shapeR lv k a).text=0∨(shapeR lv k a).text=1∨(shapeR lv k a).text=2:=by
 have t_if:∀ {c:Prop} [Decidable c] {x y:Shape},(x.text=0∨x.text=1∨x.text=2)→(y.text=0∨y.text=1∨y.text=2)→((if c then x else y).text=0∨(if c then x else y).text=1∨(if c then x else y).text=2):=fun {c} _ {x y} h1 h2=>by
  by_cases h:c
  ·rw[if_pos h];exact h1
  ·rw[if_neg h];exact h2
 have he:(shExpr lv a).text=0∨(shExpr lv a).text=1∨(shExpr lv a).text=2:=by
  unfold shExpr;exact f0
 have hs:(shStmt lv a).text=0∨(shStmt lv a).text=1∨(shStmt lv a).text=2:=by
  unfold shStmt;exact f0
 have hd:(shDecl a).text=0∨(shDecl a).text=1∨(shDecl a).text=2:=by
  unfold shDecl;exact f0
 have ht:(shTyp a).text=0∨(shTyp a).text=1∨(shTyp a).text=2:=by
  unfold shTyp;exact f0
 unfold shapeR
 repeat' first | exact he | exact hs | exact hd | exact ht | refine t_if ?_ ?_ | exact .inl rfl | exact .inr (.inl rfl) | exact .inr (.inr rfl)
theorem isn_law : ∀(n:Nat) (k:Int) (a:Tree),Srt k→a.deep≤n→a.bulk≤1048576→∀(m:Mem) (L:List Item) (h:HTree),TreeRep m h a→TCall Tryz.prog 43 ⟨[treeV h,.int .i64 k]⟩ m L (Ret (.bool (isD levelD n k a)) m L)
 | 0,k,a,_,hd,_,m,L,h,hr=>by have:=deep_pos a;omega
 | n+1,k,a,hk,hd,hB,m,L,h,hr=>is_walk k a m L h hr hB (shapeR levelD k a) (fun m L hr=>shape_law k hk a m L h hr) (text_ok levelD k a) (isD levelD n) fun hf i hi m L h' hr' =>
   isn_law n _ a.kids[i] (want_ok (shapeR_ok levelD k a) hf hi) (by have:=du (bS hi);omega) (bO (Nat.le_of_lt (bulk_kid (bS hi))) hB) m L h' hr'
theorem rsound_law (a:Tree) (m:Mem) (L:List Item) (h:HTree) (hr:TreeRep m h a) (hB:a.bulk≤1048576):TCall Tryz.prog 21 ⟨[treeV h]⟩ m L (Ret (.bool (soundB a)) m L):=by
 rw[←rsound_eq];have hr':=hr;obtain⟨h1,h2,h3,h4⟩:=hr;have hl:=h4.len;have hsm:=h4.small rfl;refine dl ?_;unfold TCall rsoundB;rw[←h1,←h2,←h3];refine am Tryz.func21 36 ?_;refine aw (fun b=>?_);refine aP (fun c1=>?_) (fun c1=>?_)
 ·exact gU
 refine uL ?_;refine aP (fun c2=>?_) (fun c2=>?_)
 ·exact gU
 refine uL ?_;refine aP (fun c3=>?_) (fun c3=>?_)
 ·exact gU
 refine uL ?_;refine oR goes42 (within_ref a _ _ h hr' hB 0 0 oO oO) ?_;refine uA ?_;refine aG (t:=!withinB a 0 0) (fun c4=>?_) (fun c4=>?_)
 ·exact gU
 ·have c4':withinB a 0 0=true:=by simpa using c4
  have hd:a.deep≤100:=by rw[withinB_eq]at c4';simp only[bE,bI]at c4';omega
  rw[ce c1,ce c2,ce c3,c4'];refine uA ?_;refine cS (ι:=Nat) [1] rfl (fun i=>[(3,.int .i64 (i:Int))]) (fun _=>m) (fun _=>.cells b 0 (treeC h)::L) (fun i=>i≤a.kids.length∧a.kids.all (isD levelD 100 1)=(a.kids.drop i).all (isD levelD 100 1)) (fun i=>a.kids.length-i) 0 uH rfl uS ⟨cw _,rfl⟩ ?_;rintro i ⟨hi,hI⟩;refine uL ?_;refine ak (fun hik=>?_) (fun hik=>?_)
  ·have hilt:i<a.kids.length:=oM;have hxi:a.kids[i]? = some a.kids[i]:=by simp[hilt]
   rw[ci hilt,cA]at hI;refine uL ?_;refine aj tab rTree i h4 uH oQ rfl hxi ?_;rintro b4 i4 h' hr4 hA4;refine ar tab hA4 ?_;refine oR goes43 (isn_law 100 1 a.kids[i] ⟨by decide,by decide⟩ (by have:=du (bS hilt);omega) (bO (Nat.le_of_lt (bulk_kid (bS hilt))) hB) _ _ h' (rTree_iff.1 hr4)) ?_;refine uA ?_;refine aG (t:=!isD levelD 100 1 a.kids[i]) (fun hpb=>?_) (fun hpb=>?_)
   ·refine uA ?_;refine kU ?_;rw[hI,show isD levelD 100 1 a.kids[i]=false by simpa using hpb];rfl
   ·refine uA ?_;refine kI ?_;exact⟨i+1,uH,uH,rfl,rfl,uS,⟨by omega,by rw[hI,show isD levelD 100 1 a.kids[i]=true by simpa using hpb,bY]⟩,by omega⟩
  ·refine uA ?_;refine kU ?_;rw[hI,cr oM];rfl
end Go.Sep
namespace Go.Sep
open Go.Proofs Go.Ck
attribute [local irreducible] TC TO OT TCallX TCall DO DOt thenQ blockQ retQ At
theorem okT_field {p n f y:Tree} (hp:SndP p) (hn:n∈p.kids) (hk:n.kind=2∨n.kind=3) (hf:f∈n.kids) (hy:f.kids=[y]):okT y=true:=by
 have hd:=hp.kids n hn;have hps:=hp.size;have hpd:=hp.deep;have s1:=size_of_kid hn;have s2:=size_of_kid hf;have s3:=size_of_kid (a:=f) (t:=y) pp;have d1:=du hn;have d2:=du hf;have d3:=du (a:=f) (t:=y) pp;unfold okT okType okSig;rw[withinB_eq,withinB_eq,ce (show(y.size:Int)+3≤20000 by omega),ce (show(y.deep:Int)+3≤100 by omega),ce (show(y.deep:Int)+2≤100 by omega)];unfold declS at hd;rcases hk with hk | hk
 ·rw[if_pos hk,bE]at hd;have:=List.all_eq_true.1 hd.2 f hf;unfold fieldS at this;rw[bE,hy]at this;have h2:(y.isType&&true)=true:=this.2;rw[bX]at h2;rw[h2];rfl
 ·rw[if_neg oM,if_pos hk,bE]at hd;have:=List.all_eq_true.1 hd.2 f hf;unfold fieldS at this;rw[bE,hy]at this;have h2:(y.isSig&&true)=true:=this.2;rw[bX]at h2;rw[h2];simp
theorem okT_method {p n r t b:Tree} (hp:SndP p) (hn:n∈p.kids) (hk:n.kids=[r,t,b]) (ht:t.isSig=true):okT t=true:=by
 have hps:=hp.size;have hpd:=hp.deep;have s1:=size_of_kid hn;have s2:=size_kids n;have d1:=du hn;have d2:=du (a:=n) (t:=t) pu;rw[hk]at s2;simp only[sizeL]at s2;have s3:=size_pos r;unfold okT okType okSig;rw[withinB_eq,withinB_eq,ht,ce (show(t.size:Int)+3≤20000 by omega),ce (show(t.deep:Int)+2≤100 by omega)];simp
theorem ofRes_t {a:Tree} (h:okT a=true):(ofRes a).1=a.ofT:=by
 unfold ofRes;rw[if_pos h]
mutual
theorem ofT_bulk : ∀ a:Tree,a.ofT.bulk≤a.bulk
 | .mk k n u ks=>by
  have h1:=ofL_bulk ks;have h2:=ofHead_bulk ks;rw[Tree.ofT];split
  ·split<;>simp only[Tree.bulk,bulkL,br]<;>omega
  ·split
   ·simp only[Tree.bulk];omega
   ·simp only[Tree.bulk,br];omega
theorem ofL_bulk : ∀ l:List Tree,bulkL (ofL l)≤bulkL l
 | []=>bN _
 | a::l=>by
  have h1:=ofT_bulk a;have h2:=ofL_bulk l;rw[ofL];simp only[bulkL];omega
theorem ofHead_bulk : ∀ l:List Tree,(ofHead l).bulk≤bulkL l+1
 | []=>by rw[ofHead];simp[Tree.bulk,bulkL]
 | a::l=>by
  have h1:=ofT_bulk a;rw[ofHead];simp only[bulkL];omega
end
abbrev BkD (d:Decl):Prop:=∀ f∈d.all,f.type.bulk≤1048576
theorem declOf_bk {p n:Tree} (hp:SndP p) (hB:p.bulk≤1048576) (hn:n∈p.kids) (hk:n.kind=2∨n.kind=3):BkD (declOf n):=by
 obtain⟨-,h2⟩:=decl_fields (hp.kids n hn) hk;have hff:∀ f∈n.kids.map fldOf,f.type.bulk≤1048576:=fun f hf=>by
  obtain⟨x,hx,rfl⟩:=List.mem_map.1 hf;obtain⟨-,y,hy⟩:=h2 x hx;have e3:kid x 0=y:=pk;have e1:=ofT_bulk y;have e2:=bulk_kid hn;have e4:=bulk_kid hx;have e5:=bulk_kid (a:=x) (t:=y) pp;have e6:=ofRes_t (okT_field hp hn hk hx hy);rw[fldOf,fld_type,e3,e6];omega
 unfold declOf;split
 ·exact kh
 ·exact kh
end Go.Sep
namespace Go.Sep
open Go.Proofs Go.Ck
attribute [local irreducible] TC TO OT TCallX TCall DO DOt thenQ blockQ retQ At
theorem ct1 {α:Type} {a b c d:α} {L:List α}:(a::b::c::d::L).Perm (d::a::b::c::L):=oU
theorem ct2 {α:Type} {f g c7 c6 b t d:α} {X L:List α}:(c6::f::g::c7::b::t::(X++(d::L))).Perm (c7::c6::f::b::t::(X++(g::d::L))):=oU
theorem ct3 {α:Type} {a b:α} {L:List α}:(a::b::L).Perm (b::a::L):=bw _ _ _
theorem ct4 {α:Type} {x b c d:α} {X:List α} (h:x=b):(d::c::x::X).Perm ([b,c,d]++X):=by subst h;exact oU
theorem ct5 {α:Type} {x b c d:α} {X:List α} (h:x=b):(b::c::d::X).Perm (d::c::x::X):=by subst h;exact oU
theorem bt3i {α:Type} {b t o:α} {X L:List α}:(o::b::t::(X++L)).Perm (b::t::(X++(o::L))):=oU
theorem table_ref (p:Tree) (hsd:soundB p=true) (hB:p.bulk≤1048576) (m:Mem) (L:List Item) (h:HTree) (hr:TreeRep m h p) :
  TCall Tryz.prog 9 ⟨[treeV h]⟩ m L (Made m L fun r m'=>TabR m' r (tableD p)):=by
 have hp:=snd_of hsd;have hpl:=kids_le p;have hps:=hp.size;have hw:p.wide≤140737488355328:=bO (wide_bulk _) oM;have hr0:=hr;obtain⟨hr1,hr2,hr3,hr4⟩:=hr;have hlen:=hr4.len;unfold TCall;refine am Tryz.func9 166 ?_;refine aw (fun b1=>?_);refine oC goes21 ((rsound_law p _ _ h hr0 hB).x ?_);rw[hsd];refine lA ?_;refine uA ?_;refine qs rfl (OT.lit tab rfl rfl rfl rfl (fun b4=>?_));refine TO.tokFo (s:=⟨some ⟨b4,0,none⟩,0,0⟩) rfl (.inr ⟨b4,0,rfl⟩) 4 ?_;refine cW ct3 ?_;refine li ?_;refine cS (ι:=Nat×Sl×List HDecl×Mem) [1] rfl (fun y=>[(5,.int .i64 (y.1:Int)),(4,y.2.1.v)]) (fun y=>y.2.2.2) (fun y=>bufI y.2.1 (encs rHD y.2.2.1)::tok y.2.1 4::(toks (y.2.2.1.map HDecl.methods) 5++(.cells b1 0 (treeC h)::L))) (fun y=>y.1≤p.kids.length∧m≤y.2.2.2∧Own0 y.2.1∧y.2.2.1.length=y.2.1.len∧y.2.1.len≤y.2.1.cap∧All2 (rDecl.rep y.2.2.2) y.2.2.1 (((p.kids.take y.1).filter isDf).map declOf)∧(∀ h∈y.2.2.1,Own h.methods)∧y.2.2.1.length≤y.1) (fun y=>p.kids.length-y.1) (0,⟨some ⟨b4,0,none⟩,0,0⟩,[],m) uH rfl uS ⟨cw _,cM _,.inr ⟨b4,rfl⟩,rfl,bN _,trivial,(fun _ h=>by cases h),bN _⟩ ?_;rintro⟨i,s,hs,m1⟩ ⟨hi,hm,hso,hsl,hsc,hall,hom0,hle⟩;simp only at hi hm hso hsl hsc hall hom0 hle;refine uA ?_;refine cW bt3 ?_;refine uL ?_;refine ak (fun hltI=>?_) (fun hltI=>?_)
 ·have hlt0:(i:Int)<(h.kids.len:Int):=hltI;have hlt:i<p.kids.length:=oM;have hx:p.kids[i]? = some p.kids[i]:=oT;have hmem:=bS hlt;have hdk:=hp.kids _ hmem;have hr5:=hr4.mono hm;refine uL ?_;refine kY ?_;rintro b' i' h9 hrd9 hA9;have hrn:=rTree_iff.1 hrd9;have hkk:=hrn.kind
  (first | refine qs rfl (OT.loadA tab hA9 rfl rfl rfl rfl rfl ?_) | refine oL tab hA9 ?_)
  refine aS bt3i ?_;refine aD tab (fun b6=>?_);refine kR ?_
  (first | refine TO.splitP rfl rfl (fun e1=>?_) (fun e1=>?_) | refine TO.splitN rfl rfl (fun e1=>?_) (fun e1=>?_) | refine TO.split rfl rfl (fun e1=>?_) (fun e1=>?_))
  ·have e1:¬h9.kind=2:=e1;refine uL ?_;refine aR (fun e2=>?_) (fun e2=>?_)
   ·exact fO
   ·have e2:h9.kind=3:=e2;have hk23:p.kids[i].kind=2∨p.kids[i].kind=3:=oM;have hdf:isDf p.kids[i]=true:=by
     exact ku
    generalize hne:p.kids[i]=n at hx hmem hdk hrn hk23 hkk;obtain⟨hnm,hfk⟩:=decl_fields hdk hk23;have hnl:=kids_le n;have hns:=ckSize hmem;have hnw:=dr hmem;have hnB:=bulk_kid hmem;have hr4:=hrn.kids;have hrl:=hr4.len;have hk9:=hrn.kind;have hn9:=hrn.name;refine uL ?_;refine aD tab (fun b7=>?_);refine kM ?_;rintro⟨j,sf,sm,lf,lm,m2⟩ ⟨hj,hm2,hsf,hof,hsm,hom,hlf,hlm⟩;simp only at hj hm2 hsf hof hsm hom hlf hlm;refine uL ?_;refine ak (fun hlt2=>?_) (fun hlt2=>?_)
    ·have hlt3:(j:Int)<(h9.kids.len:Int):=hlt2;have hlj:j<n.kids.length:=oM;have hxj:n.kids[j]? = some n.kids[j]:=pF;have hmj:=bS hlj;obtain⟨hfn,y,hfy⟩:=hfk _ hmj;have hokT:=okT_field hp hmem hk23 hmj hfy;have hfB:=bulk_kid hmj;generalize hfe:n.kids[j]=f at hxj hmj hfn hfy hokT hfB;have hlfj:lf.length≤j∧lm.length≤j:=by
      rw[hlf,hlm];split<;>simp<;>omega
     have htk:(n.kids.take (j+1)).map fldOf=(n.kids.take j).map fldOf++[fldOf f]:=qh;have hr5:=hr4.mono hm2;have hyB:=bulk_kid (a:=f) (t:=y) (by rw[hfy];simp);refine uG ?_;refine TC.cutT (ι:=Nat×HTree×Mem×Str) [1,4,5,6,7,8] rfl (fun z=>[(9,.pointer (some ⟨z.1,0,none⟩))]) (fun z=>z.2.2.1) (fun z=>.cells b6 0 (treeC h9)::.cells z.1 0 (fieldC ⟨z.2.2.2,z.2.1⟩)::tok sf 5::tok sm 5::.cells b7 0 (declC ⟨h9.name,decide (h9.kind=3),sf,sm⟩)::bufI s (encs rHD hs)::tok s 4::(toks (hs.map HDecl.methods) 5++(.cells b1 0 (treeC h)::L))) (fun z=>m2≤z.2.2.1∧FldRep z.2.2.1 ⟨z.2.2.2,z.2.1⟩ (fldOf f)) ?_ (fun z hz=>?_)
     ·exact d8
     exact eg
    ·have hlt3:¬(j:Int)<(h9.kids.len:Int):=hlt2;have hje:j=n.kids.length:=oM;subst hje;rw[List.take_length]at hlf hlm;have hdr:rDecl.rep m2 ⟨h9.name,decide (h9.kind=3),sf,sm⟩ (declOf n):=by
      exact fc
     refine uA ?_;refine aQ (k:=0) 3 ?_;refine au (hs:=[(⟨h9.name,decide (h9.kind=3),sf,sm⟩:HDecl)]) (l:=[(⟨h9.name,decide (h9.kind=3),sf,sm⟩:HDecl)]) tab rHD ⟨rfl,trivial⟩ uH oO (fun sA m4 hm4 hsA _ _=>?_);refine cW ct2 ?_;refine lu ?_;refine qs rfl (OT.appendB tab rHD hso hsl hsc hsA rfl rfl rfl rfl rfl rfl (by simp only[bm,bo,br,rHD];omega) (fun s' hs2 ha2 hl2 hc2 ho2=>?_));exact d9
  ·have e1:h9.kind=2:=e1;have hk23:p.kids[i].kind=2∨p.kids[i].kind=3:=oM;have hdf:isDf p.kids[i]=true:=by
    unfold isDf;rw[ce oM];rfl
   generalize hne:p.kids[i]=n at hx hmem hdk hrn hk23 hkk;refine uA ?_;obtain⟨hnm,hfk⟩:=decl_fields hdk hk23;have hnl:=kids_le n;have hns:=ckSize hmem;have hnw:=dr hmem;have hnB:=bulk_kid hmem;have hr4:=hrn.kids;have hrl:=hr4.len;have hk9:=hrn.kind;have hn9:=hrn.name;refine uL ?_;refine aD tab (fun b7=>?_);refine kM ?_;rintro⟨j,sf,sm,lf,lm,m2⟩ ⟨hj,hm2,hsf,hof,hsm,hom,hlf,hlm⟩;simp only at hj hm2 hsf hof hsm hom hlf hlm;refine uL ?_;refine ak (fun hlt2=>?_) (fun hlt2=>?_)
   ·have hlt3:(j:Int)<(h9.kids.len:Int):=hlt2;have hlj:j<n.kids.length:=oM;have hxj:n.kids[j]? = some n.kids[j]:=pF;have hmj:=bS hlj;obtain⟨hfn,y,hfy⟩:=hfk _ hmj;have hokT:=okT_field hp hmem hk23 hmj hfy;have hfB:=bulk_kid hmj;generalize hfe:n.kids[j]=f at hxj hmj hfn hfy hokT hfB;have hlfj:lf.length≤j∧lm.length≤j:=by
     rw[hlf,hlm];split<;>simp<;>omega
    have htk:(n.kids.take (j+1)).map fldOf=(n.kids.take j).map fldOf++[fldOf f]:=qh;have hr5:=hr4.mono hm2;have hyB:=bulk_kid (a:=f) (t:=y) (by rw[hfy];simp);refine uG ?_;refine TC.cutT (ι:=Nat×HTree×Mem×Str) [1,4,5,6,7,8] rfl (fun z=>[(9,.pointer (some ⟨z.1,0,none⟩))]) (fun z=>z.2.2.1) (fun z=>.cells b6 0 (treeC h9)::.cells z.1 0 (fieldC ⟨z.2.2.2,z.2.1⟩)::tok sf 5::tok sm 5::.cells b7 0 (declC ⟨h9.name,decide (h9.kind=3),sf,sm⟩)::bufI s (encs rHD hs)::tok s 4::(toks (hs.map HDecl.methods) 5++(.cells b1 0 (treeC h)::L))) (fun z=>m2≤z.2.2.1∧FldRep z.2.2.1 ⟨z.2.2.2,z.2.1⟩ (fldOf f)) ?_ (fun z hz=>?_)
    ·exact d8
    exact eg
   ·have hlt3:¬(j:Int)<(h9.kids.len:Int):=hlt2;have hje:j=n.kids.length:=oM;subst hje;rw[List.take_length]at hlf hlm;have hdr:rDecl.rep m2 ⟨h9.name,decide (h9.kind=3),sf,sm⟩ (declOf n):=by
     exact fc
    refine uA ?_;refine aQ (k:=0) 3 ?_;refine au (hs:=[(⟨h9.name,decide (h9.kind=3),sf,sm⟩:HDecl)]) (l:=[(⟨h9.name,decide (h9.kind=3),sf,sm⟩:HDecl)]) tab rHD ⟨rfl,trivial⟩ uH oO (fun sA m4 hm4 hsA _ _=>?_);refine cW ct2 ?_;refine lu ?_;refine qs rfl (OT.appendB tab rHD hso hsl hsc hsA rfl rfl rfl rfl rfl rfl (by simp only[bm,bo,br,rHD];omega) (fun s' hs2 ha2 hl2 hc2 ho2=>?_));exact d9
 ·have hlt0:¬(i:Int)<(h.kids.len:Int):=hltI;have hie:i=p.kids.length:=oM;subst hie;rw[List.take_length]at hall;generalize hl0:(p.kids.filter isDf).map declOf=l0 at hall;have htab:tableD p=tabE (methodsC l0 p.kids):=by rw[tableD_tab,hl0]
  have hl0l:l0.length≤20000:=by
   exact kw
  have hin:∀ d∈l0,∃ n∈p.kids,(n.kind=2∨n.kind=3)∧declOf n=d:=fun d hd=>by
   rw[←hl0]at hd;obtain⟨n,hn,rfl⟩:=List.mem_map.1 hd;obtain⟨hn1,hn2⟩:=List.mem_filter.1 hn;unfold isDf at hn2;simp only[bL,bI]at hn2;exact⟨n,hn1,hn2,rfl⟩
  have hsm0:∀ d∈l0,SmD 20000 d∧BkD d:=fun d hd=>by
   obtain⟨n,h1,h2,rfl⟩:=hin d hd;exact⟨declOf_sm hp hw h1 h2,declOf_bk hp hB h1 h2⟩
  clear hin;have hdcap:=hsc;refine li ?_;refine cS (ι:=Nat×List HDecl×List Decl×Mem) [1,4] rfl (fun y=>[(10,.int .i64 (y.1:Int))]) (fun y=>y.2.2.2) (fun y=>.cells b1 0 (treeC h)::bufI s (encs rHD y.2.1)::(toks (y.2.1.map HDecl.methods) 5++L)) (fun y=>y.1≤p.kids.length∧m≤y.2.2.2∧y.2.1.length=s.len∧All2 (rDecl.rep y.2.2.2) y.2.1 y.2.2.1∧(∀ h∈y.2.1,Own h.methods)∧(∀ d∈y.2.2.1,SmD (20000+y.1) d∧BkD d)∧y.2.2.1.length=l0.length∧methodsC l0 p.kids=methodsC y.2.2.1 (p.kids.drop y.1)) (fun y=>p.kids.length-y.1) (0,hs,l0,m1) uH rfl (cm _ (cm _ (List.sublist_cons_self _ _))) ⟨cw _,hm,hsl,hall,hom0,hsm0,rfl,rfl⟩ ?_;clear hsl hall hom0 hm hle hsm0;rintro⟨i,hs,l,m2⟩ ⟨hi,hm,hsl,hall,hom0,hsm,hll,hmc⟩;simp only at hi hm hsl hall hom0 hsm hll hmc;have hr5:=hr4.mono hm;have hal:=hall.length;refine uL ?_;refine ak (fun hltJ=>?_) (fun hltJ=>?_)
  ·have hlt0:(i:Int)<(h.kids.len:Int):=hltJ;have hlt:i<p.kids.length:=oM;have hx:p.kids[i]? = some p.kids[i]:=oT;have hmem:=bS hlt;have hdk:=hp.kids _ hmem;have hnB:=bulk_kid hmem;rw[ci hlt,methodsC]at hmc;generalize hne:p.kids[i]=n at hx hmem hdk hmc hnB;refine uL ?_;refine kY ?_;rintro b' i' h9 hrd9 hA9;have hrn:=rTree_iff.1 hrd9;have hkk:=hrn.kind
   (first | refine qs rfl (OT.loadA tab hA9 rfl rfl rfl rfl rfl ?_) | refine oL tab hA9 ?_)
   refine uA ?_;refine aD tab (fun b11=>?_);refine kR ?_;refine aR (fun e1=>?_) (fun e1=>?_)
   ·have e1:¬h9.kind=5:=e1;rw[if_neg oM]at hmc;refine lQ ?_;exact⟨(i+1,hs,l,m2),uH,uH,rfl,rfl,uS,⟨by omega,hm,hsl,hall,hom0,fun d hd=>⟨(hsm d hd).1.mono pm,(hsm d hd).2⟩,hll,hmc⟩,by simp only;omega⟩
   ·have e1:h9.kind=5:=e1;rw[if_pos oM]at hmc;obtain⟨hnm,r,t,bd,y,ys,z,zs,hnk,hrk,hyk,htS,-,-,-⟩:=decl_method hdk oM;have hokT:=okT_method hp hmem hnk htS;have hrv:recvD n=z.name:=by
     exact gK
    have htk:kid n 1=t:=ph;have htB:=bulk_kid (a:=n) (t:=t) pb;rw[hrv,htk,ofRes_t hokT]at hmc;have hn9:=hrn.name;have hr6:=hrn.kids;rw[hnk]at hr6;refine li ?_;refine cS (ι:=Nat×Int) [1,4,10,11] rfl (fun y=>[(13,.int .i64 (y.1:Int)),(12,.int .i64 y.2)]) (fun _=>m2) (fun _=>.cells b11 0 (treeC h9)::.cells b1 0 (treeC h)::bufI s (encs rHD hs)::(toks (hs.map HDecl.methods) 5++L)) (fun y=>y.1≤l.length∧y.2=idxP (l.take y.1) (isM z.name) 0) (fun y=>l.length-y.1) (0,-1) uH rfl uS ⟨cw _,rfl⟩ ?_;rintro⟨k,q⟩ ⟨hk,hq⟩;simp only at hk hq;refine uA ?_;refine ak (fun hltK=>?_) (fun hltK=>?_)
    ·have hltK0:(k:Int)<(s.len:Int):=hltK;have hkl:k<l.length:=oM;have hxk:l[k]? = some l[k]:=by simp[hkl]
     obtain⟨hd,hgk,hdr⟩:=hall.get hxk;obtain⟨b,hb⟩:∃ b,s.a=some ⟨b,0,none⟩:=by
      exact ir
     have hnx:idxP (l.take (k+1)) (isM z.name) 0=if q<0∧isM z.name l[k]=true then (k:Int)else q:=by
      rw[cz hkl];by_cases hq0:q<0
      ·have hno:(l.take k).any (isM z.name)=false:=by
        have:=idxP_ge (l.take k) (isM z.name);rw[←hq,cg oM]at this;exact this.symm
       rw[idxP_miss _ _ _ _ hno,cj,Nat.min_eq_left oM,cy];have hq1:q = -1:=by
        rcases idxP_find (l.take k) (isM z.name) 0 with ⟨-,g⟩ | ⟨j,d,-,-,g⟩
        ·rw[hq,g]
        ·rw[hq,g]at hq0;omega
       by_cases hM:isM z.name l[k]=true
       ·rw[if_pos ⟨hq0,hM⟩,idxP,if_pos hM]
       ·rw[if_neg (fun e=>hM e.2),idxP,if_neg hM,idxP,hq1]
      ·have hyes:(l.take k).any (isM z.name)=true:=by
        have:=idxP_ge (l.take k) (isM z.name);rw[←hq,ce oM]at this;exact this.symm
       rw[idxP_hit _ _ _ _ hyes,if_neg (fun e=>hq0 e.1),hq]
     refine uG ?_;refine TC.cutT (ι:=Bool) [1,4,10,11,12,13] rfl (fun v=>[(135,.bool v)]) (fun _=>m2) (fun _=>.cells b 0 (encs rHD hs)::.cells b1 0 (treeC h)::.cells b11 0 (treeC h9)::(toks (hs.map HDecl.methods) 5++L)) (fun v=>v=(decide (q<0)&&isM z.name l[k])) ?_ (fun v hv=>?_)
     ·obtain⟨sa,sn,sc⟩:=s;simp only at hb hsl hltK0;subst hb;refine aN [] dp 29 [.cells b 0 (encs rHD hs),.cells b1 0 (treeC h),.cells b11 0 (treeC h9)] (toks (hs.map HDecl.methods) 5++L) (ct4 (bufI_some rfl)) ?_;refine lN ?_;refine DO.splitP (d:=109) rfl (fun hq0=>?_) (fun hq0=>?_)
      ·have hq0:q<0:=hq0;refine de tab uC uK [3,4] uK rfl ?_;refine DO.indexP tab 5 k uC uK uK rfl rfl rfl rfl rfl rfl rfl rfl rfl (show k<sn by omega) ?_;refine mG ?_;refine DO.loadE (jj:=0) tab 7 0 rHD hgk (show 0+k*4+0=k*4+0 by omega) (fun _=>rfl) uC uK uK rfl rfl rfl rfl rfl rfl rfl ?_;refine oy ?_;refine ae (k:=3) 9 2 ?_;refine DO.index tab rTree 10 0 hr6 uC uK uK rfl rfl rfl rfl rfl rfl rfl rfl rfl rfl ?_;rintro b2 i2 h2 hrd2 hA2;have hr7:=(rTree_iff.1 hrd2).kids;rw[hrk]at hr7;refine na ?_;refine ai (k:=3) 12 hA2 ?_;refine DO.index tab rTree 13 0 hr7 uC uK uK rfl rfl rfl rfl rfl rfl rfl rfl rfl rfl ?_;rintro b3 i3 h3 hrd3 hA3;have hr8:=(rTree_iff.1 hrd3).kids;rw[hyk]at hr8;refine nE ?_;refine ai (k:=3) 15 hA3 ?_;refine DO.index tab rTree 16 0 hr8 uC uK uK rfl rfl rfl rfl rfl rfl rfl rfl rfl rfl ?_;rintro b4 i4 h4 hrd4 hA4;have hn4:=(rTree_iff.1 hrd4).name;refine de tab uC uK [17] uK rfl ?_;refine ai (k:=1) 18 hA4 ?_;refine de tab uC uK [19,20,21] uK rfl ?_;refine DO.splitP (d:=128) rfl (fun hnm0=>?_) (fun hnm0=>?_)
       ·have hnm1:l[k].name=z.name:=hdr.name.symm.trans (hnm0.trans hn4);refine de tab uC uK [22,23] uK rfl ?_;refine DO.indexP tab 24 k uC uK uK rfl rfl rfl rfl rfl rfl rfl rfl rfl (show k<sn by omega) ?_;refine de tab uC uK [25] uK rfl ?_;refine DO.loadE (jj:=1) tab 26 0 rHD hgk (show 0+k*4+1=k*4+1 by omega) (fun _=>rfl) uC uK uK rfl rfl rfl rfl rfl rfl rfl ?_;refine de tab uC uK [27,28] uK rfl ?_;refine nH ?_;exact⟨!hd.iface,uH,uH,rfl,rfl,uS,by unfold isM;rw[ce hq0,ce hnm1,hdr.iface];rfl⟩
       ·have hnm1:¬l[k].name=z.name:=fun e=>hnm0 (hdr.name.trans (e.trans hn4.symm));refine de tab uC uK [22,23,24,25,26,27,28] uK rfl ?_;refine nH ?_;exact⟨false,uH,uH,rfl,rfl,uS,by unfold isM;rw[ce hq0,cg hnm1];rfl⟩
      ·have hq0:¬q<0:=hq0;refine de tab uC uK [3,4,5,6,7,8,9,10,11,12,13,14,15,16,17,18,19,20,21,22,23,24,25,26,27,28] uK rfl ?_;refine nH ?_;exact⟨false,uH,uH,rfl,rfl,uS,by rw[cg hq0];rfl⟩
     refine cR (ct5 (bufI_some hb)) ?_;refine aG (t:=v) (fun e9=>?_) (fun e9=>?_)
     ·rw[e9]at hv;have hv2:q<0∧isM z.name l[k]=true:=by simpa using hv.symm
      refine mc ?_;exact⟨(k+1,(k:Int)),uH,uH,rfl,rfl,uS,⟨by omega,by simp only;rw[hnx,if_pos hv2]⟩,by simp only;omega⟩
     ·rw[e9]at hv;have hv2:¬(q<0∧isM z.name l[k]=true):=fun e=>by rw[ce e.1,e.2]at hv;cases hv
      refine mc ?_;exact⟨(k+1,q),uH,uH,rfl,rfl,uS,⟨by omega,by simp only;rw[hnx,if_neg hv2]⟩,by simp only;omega⟩
    ·have hltK0:¬(k:Int)<(s.len:Int):=hltK;rw[cu oM]at hq;rcases addM_idx z.name ⟨n.name,t.ofT⟩ l 0 with ⟨g1,g2⟩ | ⟨j,d,g0,g1,g2⟩
     ·rw[g2]at hmc;have hq1:q = -1:=hq.trans g1;subst hq1;refine uA ?_;refine cT rfl (L':=L) (((List.sublist_append_right _ _).cons _).cons _ |>.cons _) ⟨hm,rfl,?_⟩;rw[htab,hmc];rfl
     ·rw[g2]at hmc;replace hmc:methodsC l0 p.kids=methodsC (l.set j { d with methods:=d.methods++[⟨n.name,t.ofT⟩] }) (p.kids.drop (i+1)):=hmc;have hq1:q=(j:Int):=by rw[hq,g1,cy]
      subst hq1;have hjl:=(List.getElem?_eq_some_iff.1 g0).1;refine uB ?_;obtain⟨hd,hgj,hdr⟩:=hall.get g0;have hod:=hom0 hd (List.mem_of_getElem? hgj);have hsd:=(hsm d (List.mem_of_getElem? g0)).1;have hsb:=(hsm d (List.mem_of_getElem? g0)).2;have hmm:=hdr.methods;have hnw:=dr hmem;have htw:=dr (a:=n) (t:=t) pb;have hwt:t.ofT.wide≤140737488355328:=by
       have:=ofRes_wide t;rw[ofRes_t hokT]at this;omega
      have hbt:=ofT_bulk t;obtain⟨tt,htt⟩:∃ tt,t.ofT=tt:=⟨_,rfl⟩
      rw[htt]at hmc hwt hbt;obtain⟨b,hb⟩:∃ b,s.a=some ⟨b,0,none⟩:=by
       exact ir
      obtain⟨sa,sn,sc⟩:=s;simp only at hb hsl;subst hb;have hgm:(hs.map HDecl.methods)[j]? = some hd.methods:=by rw[List.getElem?_map,hgj];rfl
      have hjs:j<(hs.map HDecl.methods).length:=(List.getElem?_eq_some_iff.1 hgm).1;refine aN [19] dp 20 [.cells b 0 (encs rHD hs),.cells b1 0 (treeC h),.cells b11 0 (treeC h9)] (tok hd.methods 5::(toks ((hs.map HDecl.methods).eraseIdx j) 5++L)) (bt4 (bufI_some rfl) (toks_out L hgm)) ?_;refine de tab uC uK [0,1,2,3,7,9] uK rfl ?_;refine l8 ?_;refine ae (k:=1) 8 2 ?_;refine ae (k:=3) 10 2 ?_;refine DO.index tab rTree 11 1 hr6 uC uK uK rfl rfl rfl rfl rfl rfl rfl rfl rfl rfl ?_;rintro b5 i5 h5 hrd5 hA5;refine ai (k:=0) 12 hA5 ?_;refine ag 13 ?_;refine da rfl rfl rfl rfl rfl rfl goes22 ((from_ref t (okT_node hokT) _ _ h5 (rTree_iff.1 hrd5) oM).x ?_);rw[htt];rintro _ m4 _ ⟨hm4,rfl,hx4,rfl,hhx⟩;refine⟨hm4,_,bu _,?_⟩;refine nE ?_;refine ag 15 ?_;have hf4:FldRep m4 ⟨h9.name,hx4⟩ ⟨n.name,tt⟩:=fldRep_mk hn9 hhx;refine aW (hs:=[⟨h9.name,hx4⟩]) (l:=[⟨n.name,tt⟩]) tab rField ⟨hf4,trivial⟩ uH oO (fun sA m5 hm5 hsA _ _=>?_);refine⟨hm5,_,bu _,?_⟩;refine ag 16 ?_;refine dc tab rField 3 ((hmm.mono hm4).mono hm5) hod hsA rfl rfl rfl rfl rfl rfl rfl (by have:=hsd.methods;simp only[bm,bo,br,rField];omega) (fun s' m6 hm6 hs' ho'=>?_);refine⟨hm6,tok s' 5::(toks ((hs.map HDecl.methods).eraseIdx j) 5++L),bu _,?_⟩;refine DO.indexP tab 17 j uC uK uK rfl rfl rfl rfl rfl rfl rfl rfl rfl (show j<sn by omega) ?_;refine de tab uC uK [18] uK rfl ?_;refine df ?_;refine aC 19 ?_;refine lT ?_;refine cR (L':=.cells b1 0 (treeC h)::.cells b11 0 (treeC h9)::bufI ⟨some ⟨b,0,none⟩,sn,sc⟩ (encs rHD (hs.set j { hd with methods:=s' }))::(toks ((hs.set j { hd with methods:=s' }).map HDecl.methods) 5++L)) (bt5 (bufI_some rfl) (by rw[List.map_set];exact toks_in L hjs)) ?_;refine lQ ?_;have hm46:=cN hm4 (cN hm5 hm6);have hall':All2 (rDecl.rep m6) (hs.set j { hd with methods:=s' }) (l.set j { d with methods:=d.methods++[⟨n.name,tt⟩] }):=All2.set2 (r:=rDecl.rep m6) j (hall.mono fun _ _=>rDecl.mono hm46) ⟨hdr.name,hdr.iface,hdr.fields.mono hm46,hs'⟩
      exact⟨(i+1,hs.set j { hd with methods:=s' },l.set j { d with methods:=d.methods++[⟨n.name,tt⟩] },m6),uH,uH,rfl,rfl,uS,⟨by omega,cN hm hm46,by rw[List.length_set];exact hsl,hall',fun x hx=>by
       rcases List.mem_or_eq_of_mem_set hx with hx | rfl
       ·exact hom0 x hx
       ·exact ho',fun x hx=>by
       rcases List.mem_or_eq_of_mem_set hx with hx | rfl
       ·exact⟨(hsm x hx).1.mono pm,(hsm x hx).2⟩
       ·refine⟨⟨hsd.name,hsd.fields,by have:=hsd.methods;simp only[bm,bo,br];omega,fun f hf=>?_⟩,fun f hf=>?_⟩
        ·unfold Decl.all at hf;rcases List.mem_append.1 hf with hf | hf
         ·exact hsd.all f (List.mem_append.2 (.inl hf))
         ·rcases List.mem_append.1 hf with hf | hf
          ·exact hsd.all f (List.mem_append.2 (.inr hf))
          ·rw[List.mem_singleton.1 hf];exact⟨name_len hnm,hwt⟩
        ·unfold Decl.all at hf;rcases List.mem_append.1 hf with hf | hf
         ·exact hsb f (List.mem_append.2 (.inl hf))
         ·rcases List.mem_append.1 hf with hf | hf
          ·exact hsb f (List.mem_append.2 (.inr hf))
          ·rw[List.mem_singleton.1 hf];show tt.bulk≤1048576;omega,by rw[List.length_set];exact hll,hmc⟩,by simp only;omega⟩
  ·have hlt0:¬(i:Int)<(h.kids.len:Int):=hltJ;have hie:i=p.kids.length:=oM;rw[hie,List.drop_length]at hmc;replace hmc:methodsC l0 p.kids=some l:=hmc;rw[hmc]at htab;rw[tabE]at htab;rw[htab];refine uA ?_;refine cW ct3 ?_;refine TO.freezeB rDecl hso hsl hdcap hall (by simp only[rDecl];omega) fun m3 hm3 hS=>?_;refine oR goes23 (sound_def _ _ s l hS (fun d hd=>(hsm d hd).1.small oM) (fun d hd=>(hsm d hd).2)) ?_;have hmm:=cN hm hm3;refine uA ?_;refine ak (fun e6=>?_) (fun e6=>?_)
   ·have e6:soundE l=2:=e6;refine mI ?_;rw[if_neg oM,if_pos e6];rfl
   ·have e6:¬soundE l=2:=e6;refine uA ?_;refine aR (fun e7=>?_) (fun e7=>?_)
    ·have e7:¬soundE l=0:=e7;refine mI ?_;rw[if_neg e7,if_neg e6];rfl
    ·have e7:soundE l=0:=e7;refine mI ?_;rw[if_pos e7];exact⟨s,rfl,hS⟩
end Go.Sep
namespace Go.Sep
open Go.Proofs
attribute [local irreducible] TC TO OT TCallX TCall DO DOt thenQ blockQ retQ At
theorem sameFields_ref (m:Mem) (L:List Item) (s t:Sl) (l:List Fld) (hs:SlRep rField m s l) (ht:SlRep rField m t l):TCall Tryz.prog 24 ⟨[s.v,t.v]⟩ m L (Ret (.bool true) m L):=by
 have hl:=hs.len;have hl2:=ht.len;have hsm:=hs.small rfl;unfold TCall;refine am Tryz.func24 42 ?_;refine aR (fun e0=>?_) (fun e0=>?_)
 ·omega
 ·refine uA ?_;refine mU ?_;rintro k hk;refine uA ?_;refine ak (fun h=>?_) (fun h=>?_)
  ·have hlt:k<l.length:=oM;have hx:l[k]? = some l[k]:=oT;refine uA ?_;refine aM [] dp 25 ?_;refine nw ?_;refine ba tab rField 2 k hs uC uK uK uH oW rfl hx ?_;rintro b1 i1 f1 r1 A1;refine mH ?_;refine ai 4 A1 ?_;refine nx ?_;refine ba tab rField 7 k ht uC uK uK uH oW rfl hx ?_;rintro b2 i2 f2 r2 A2;refine oy ?_;refine ai 9 A2 ?_;refine mw ?_;refine DO.splitN (d:=28) rfl (fun hg11=>?_) (fun hg11=>?_);refine de tab uC uK [12,13,14,15,16,17,18,19,20,21,22,23,24] uK rfl ?_;refine aH ?_
   rotate_left 1
   refine de tab uC uK [12,13] uK rfl ?_;refine ba tab rField 14 k hs uC uK uK uH oW rfl hx ?_;rintro b3 i3 f3 r3 A3;refine og ?_;refine ai 16 A3 ?_;refine de tab uC uK [17,18] uK rfl ?_;refine ba tab rField 19 k ht uC uK uK uH oW rfl hx ?_;rintro b4 i4 f4 r4 A4;refine de tab uC uK [20] uK rfl ?_;refine ai 21 A4 ?_;refine ag 22 (da rfl rfl rfl rfl rfl rfl goes52 ((equal_ref _ _ _ _ f3.type f4.type r3.type r4.type).x ?_));rintro _ _ _ ⟨rfl,rfl,rfl⟩;refine⟨cM _,_,bu _,?_⟩;refine de tab uC uK [23,24] uK rfl ?_;refine aH ?_
   rotate_left 1
   ·exact absurd (r1.name.trans r2.name.symm) hg11
   ·refine cP ?_;rw[teq_refl];refine uA ?_;exact fV
  ·exact ej
end Go.Sep
namespace Go.Sep
open Go.Proofs
attribute [local irreducible] TC TO OT TCallX TCall DO DOt thenQ blockQ retQ At
theorem sameDecls_ref (m:Mem) (L:List Item) (s t:Sl) (l:List Decl) (hs:SlRep rDecl m s l) (ht:SlRep rDecl m t l):TCall Tryz.prog 11 ⟨[s.v,t.v]⟩ m L (Ret (.bool true) m L):=by
 have hl:=hs.len;have hl2:=ht.len;have hsm:=hs.small rfl;unfold TCall;refine am Tryz.func11 69 ?_;refine aR (fun e0=>?_) (fun e0=>?_)
 ·omega
 ·refine uA ?_;refine mU ?_;rintro k hk;refine uA ?_;refine ak (fun h=>?_) (fun h=>?_)
  ·have hlt:k<l.length:=oM;have hx:l[k]? = some l[k]:=oT;refine uA ?_;refine aM [] dp 52 ?_;refine nw ?_;refine ba tab rDecl 2 k hs uC uK uK uH oW rfl hx ?_;rintro b1 i1 f1 r1 A1;refine mH ?_;refine ai 4 A1 ?_;refine nx ?_;refine ba tab rDecl 7 k ht uC uK uK uH oW rfl hx ?_;rintro b2 i2 f2 r2 A2;refine oy ?_;refine ai 9 A2 ?_;refine mw ?_;refine DO.splitN (d:=28) rfl (fun hg11=>?_) (fun hg11=>?_);refine de tab uC uK [12,13,14,15,16,17,18,19,20,21,22,23,24,25,26,27,28,29,30,31,32,33,34,35,36,37,38,39,40,41,42,43,44,45,46,47,48,49,50,51] uK rfl ?_;refine aH ?_
   rotate_left 1
   refine de tab uC uK [12,13] uK rfl ?_;refine ba tab rDecl 14 k hs uC uK uK uH oW rfl hx ?_;rintro b3 i3 f3 r3 A3;refine og ?_;refine ai 16 A3 ?_;refine de tab uC uK [17,18] uK rfl ?_;refine ba tab rDecl 19 k ht uC uK uK uH oW rfl hx ?_;rintro b4 i4 f4 r4 A4;refine de tab uC uK [20] uK rfl ?_;refine ai 21 A4 ?_;refine DO.run 22 rfl rfl uK rfl ?_;refine OT.neqBool tab rfl rfl rfl rfl rfl rfl ?_;rw[show f3.iface=f4.iface from r3.iface.trans r4.iface.symm,beq_self_eq_true,Bool.not_true];refine⟨cM _,_,bu _,?_⟩;refine de tab uC uK [23,24] uK rfl ?_;refine DO.split (d:=41) rfl (fun hg24=>?_) (fun hg24=>?_);refine de tab uC uK [25,26,27,28,29,30,31,32,33,34,35,36,37,38,39,40,41,42,43,44,45,46,47,48,49,50,51] uK rfl ?_;refine aH ?_
   rotate_left 1
   refine de tab uC uK [25,26] uK rfl ?_;refine ba tab rDecl 27 k hs uC uK uK uH oW rfl hx ?_;rintro b5 i5 f5 r5 A5;refine de tab uC uK [28] uK rfl ?_;refine ai 29 A5 ?_;refine de tab uC uK [30,31] uK rfl ?_;refine ba tab rDecl 32 k ht uC uK uK uH oW rfl hx ?_;rintro b6 i6 f6 r6 A6;refine de tab uC uK [33] uK rfl ?_;refine ai 34 A6 ?_;refine ag 35 (da rfl rfl rfl rfl rfl rfl goes24 ((sameFields_ref _ _ f5.fields f6.fields l[k].fields r5.fields r6.fields).x ?_));rintro _ _ _ ⟨rfl,rfl,rfl⟩;refine⟨cM _,_,bu _,?_⟩;refine de tab uC uK [36,37,38] uK rfl ?_;refine DO.split (d:=55) rfl (fun hg38=>?_) (fun hg38=>?_);refine de tab uC uK [39,40,41,42,43,44,45,46,47,48,49,50,51] uK rfl ?_;refine aH ?_
   rotate_left 1
   refine de tab uC uK [39,40] uK rfl ?_;refine ba tab rDecl 41 k hs uC uK uK uH oW rfl hx ?_;rintro b7 i7 f7 r7 A7;refine de tab uC uK [42] uK rfl ?_;refine ai 43 A7 ?_;refine de tab uC uK [44,45] uK rfl ?_;refine ba tab rDecl 46 k ht uC uK uK uH oW rfl hx ?_;rintro b8 i8 f8 r8 A8;refine de tab uC uK [47] uK rfl ?_;refine ai 48 A8 ?_;refine ag 49 (da rfl rfl rfl rfl rfl rfl goes24 ((sameFields_ref _ _ f7.methods f8.methods l[k].methods r7.methods r8.methods).x ?_));rintro _ _ _ ⟨rfl,rfl,rfl⟩;refine⟨cM _,_,bu _,?_⟩;refine de tab uC uK [50,51] uK rfl ?_;refine aH ?_
   rotate_left 1
   ·exact absurd (r1.name.trans r2.name.symm) hg11
   ·exact absurd hg24 oN
   ·exact absurd hg38 oN
   ·refine aX ?_;exact fV
  ·exact ej
end Go.Sep
namespace Go.Sep
open Go.Proofs Go.Ck
attribute [local irreducible] TC TO OT TCallX TCall DO DOt thenQ blockQ retQ At
theorem breaks_ref : ∀(f:Nat) (a:Tree),a.deep≤f→∀(m:Mem) (L:List Item) (h:HTree),TreeRep m h a→TCall Tryz.prog 54 ⟨[treeV h]⟩ m L (Ret (.bool (breaksD f a)) m L)
 | 0,a,hd,m,L,h,hr=>by
  exact g8
 | f+1,a,hd,m,L,h,hr=>by
  obtain⟨h1,h2,h3,h4⟩:=hr;have hl:=h4.len;have hsm:=h4.small rfl;have ih:∀ k∈a.kids,∀(m:Mem) (L:List Item) (h:HTree),TreeRep m h k→TCall Tryz.prog 54 ⟨[treeV h]⟩ m L (Ret (.bool (breaksD f k)) m L):=fun k hk=>breaks_ref f k po;unfold TCall;refine aU Tryz.func54 30 ?_;rw[breaksD,←h1];refine uA ?_;refine aw (fun b=>?_);refine ak (fun e1=>?_) (fun e1=>?_)
  ·refine uA ?_;exact gF
  refine uA ?_;refine cS (ι:=Nat) [1] rfl (fun k=>[(3,.int .i64 (k:Int))]) (fun _=>m) (fun _=>.cells b 0 (treeC h)::L) (fun k=>k≤a.kids.length∧(a.kids.take k).any (breaksD f)=false) (fun k=>a.kids.length-k) 0 uH rfl uS ⟨cw _,rfl⟩ ?_;rintro k ⟨hk,hI⟩;refine uL ?_;refine az (fun hlt'=>?_) (fun hlt'=>?_)
  ·refine uL ?_;refine az (fun e20=>?_) (fun e20=>?_)
   ·refine uA ?_;have hlt:k<a.kids.length:=oM;have hx:a.kids[k]? = some a.kids[k]:=oT;have hmem:=bS hlt;refine uL ?_;refine kS ?_;rintro b' i' h' hrd hA;refine lb ?_;refine ap goes54 (ih _ hmem _ _ h' (rTree_iff.1 hrd)) ?_;refine aG (t:=breaksD f a.kids[k]) (fun e9=>?_) (fun e9=>?_)
    ·refine uA ?_;refine kG ?_;rw[any_hit hlt e9,cg e1];simp[e20]
    ·exact il
   ·refine uL ?_;refine ak (fun e25=>?_) (fun e25=>?_)
    ·skip;have hlt:k<a.kids.length:=oM;have hx:a.kids[k]? = some a.kids[k]:=oT;have hmem:=bS hlt;refine uL ?_;refine kS ?_;rintro b' i' h' hrd hA;refine lb ?_;refine ap goes54 (ih _ hmem _ _ h' (rTree_iff.1 hrd)) ?_;refine aG (t:=breaksD f a.kids[k]) (fun e9=>?_) (fun e9=>?_)
     ·refine uA ?_;refine kG ?_;rw[any_hit hlt e9,cg e1];simp[e20,e25]
     ·exact il
    ·refine uA ?_;refine kG ?_;rw[cg e1,cg e20,cg e25];rfl
  ·rw[cu oM]at hI;refine kZ ?_;rw[cg e1,hI];simp
theorem ends_ref : ∀(f:Nat) (a:Tree),a.deep≤f→lim.stmt a=true→∀(m:Mem) (L:List Item) (h:HTree),TreeRep m h a→TCall Tryz.prog 27 ⟨[treeV h]⟩ m L (Ret (.bool (endsD f a)) m L)
 | 0,a,hd,hst,m,L,h,hr=>by
  exact g8
 | f+1,a,hd,hst,m,L,h,hr=>by
  obtain⟨h1,h2,h3,h4⟩:=hr;have hlen:=h4.len;have hsm:=h4.small rfl;have ih:∀ k∈a.kids,lim.stmt k=true→∀(m:Mem) (L:List Item) (h:HTree),TreeRep m h k→TCall Tryz.prog 27 ⟨[treeV h]⟩ m L (Ret (.bool (endsD f k)) m L):=fun k hk=>ends_ref f k po;have hs2:=hst;rw[(lim_fix a).2.1,Pt.stmtS_head,bE]at hs2;obtain⟨-,hs2⟩:=hs2;unfold TCall;refine aU Tryz.func27 73 ?_;rw[endsD,←h1];refine uA ?_;refine aw (fun b1=>?_);refine ak (fun e1=>?_) (fun e1=>?_)
  ·have hall:a.kids.all lim.stmt=true:=by
    exact jA
   rw[if_pos e1];refine uL ?_;refine az (fun e2=>?_) (fun e2=>?_)
   ·have hpos:0<a.kids.length:=oM;have hx:a.kids[a.kids.length-1]? = some (a.kids[a.kids.length-1]'oM):=oN;have hgl:a.kids.getLast? = some (a.kids[a.kids.length-1]'oM):=by rw[List.getLast?_eq_getElem?];exact hx
    refine ml ?_;rintro b' i' h' hrd hA;refine lb ?_;refine oR goes27 (ih _ (bS oM) (List.all_eq_true.1 hall _ (bS oM)) _ _ h' (rTree_iff.1 hrd)) ?_;exact kB
   ·exact iU
  rw[if_neg e1];refine uA ?_;refine ak (fun e2=>?_) (fun e2=>?_)
  ·rw[if_pos e2];exact ej
  rw[if_neg e2];refine uA ?_;refine ak (fun e3=>?_) (fun e3=>?_)
  ·rw[if_pos e3];rw[if_neg oM,if_neg oM,if_neg oM,if_neg oM,if_pos oM]at hs2;obtain⟨y,hy,hcy⟩:=Pt.kids1 hs2;unfold callS at hcy;rw[bE,bI,(lim_fix y).1]at hcy;obtain⟨hy51,hcy⟩:=hcy;have hyk:∃ z zs,y.kids=z::zs:=by
    exact fw
   obtain⟨z,zs,hz⟩:=hyk;rw[hy]at h4;have hkk:kid (kid a 0) 0=z:=by unfold kid;rw[hy];show(y.kids[0]?).getD _=z;rw[hz];rfl
   rw[hkk];refine uL ?_;refine lL ?_;rintro b' i' h' hrd hA;have hr5:=(rTree_iff.1 hrd).kids;rw[hz]at hr5;refine nC ?_;rintro b6 i6 h6 hrd6 hA6;have hr6:=rTree_iff.1 hrd6;refine uA ?_;refine ah (k:=0) hA6 ?_;rw[←hr6.kind];refine az (fun e4=>?_) (fun e4=>?_)
   ·refine uA ?_;refine lL ?_;rintro b7 i7 h7 hrd7 hA7;have hr8:=(rTree_iff.1 hrd7).kids;rw[hz]at hr8;refine uA ?_;refine ah (k:=3) hA7 ?_;refine mZ ?_;rintro b8 i8 h8 hrd8 hA8;refine uA ?_;refine ah (k:=1) hA8 ?_;refine kG ?_;rw[ce e4,←(rTree_iff.1 hrd8).name];rfl
   ·exact ko
  rw[if_neg e3];refine uA ?_;refine ak (fun e4=>?_) (fun e4=>?_)
  ·rw[if_pos e4];rw[if_neg oM,if_neg oM,if_neg oM,if_neg oM,if_neg oM,if_pos oM,bL]at hs2;refine uL ?_;rcases hs2 with hs2 | hs2
   ·exact gH
   ·obtain⟨y,z,u,hy,hy1,hz1,hu1⟩:=Pt.kids3 hs2;rw[hy]at hlen h4 ih;simp only[bo,br]at hlen;have hk1:kid a 1=z:=pk;have hk2:kid a 2=u:=pk;rw[hk1,hk2,hy];have hus:lim.stmt u=true:=by
     exact jb
    refine az (fun e5=>?_) (fun e5=>?_)
    ·refine uL ?_;refine aA tab rTree 1 h4 uH oQ uH ?_;rintro b' i' h' hrd hA;refine lb ?_;refine oR goes27 (ih z oN (block_stmt hz1) _ _ h' (rTree_iff.1 hrd)) ?_;refine uA ?_;refine aF (b:=endsD f z) (fun e6=>?_) (fun e6=>?_)
     ·refine uL ?_;refine aA tab rTree 2 h4 uH oQ uH ?_;rintro b6 i6 h6 hrd6 hA6;refine ar tab hA6 ?_;refine oR goes27 (ih u oN hus _ _ h6 (rTree_iff.1 hrd6)) ?_;exact g9
     ·exact g9
    ·exfalso;omega
  rw[if_neg e4];refine uA ?_;refine ak (fun e5=>?_) (fun e5=>?_)
  ·rw[if_pos e5];refine uL ?_;refine az (fun e6=>?_) (fun e6=>?_)
   ·have hl1:a.kids.length=1:=oM;obtain⟨y,hy⟩:=List.length_eq_one_iff.1 hl1;have hdy:=du (a:=a) (t:=y) pp;rw[hy]at h4;have hk0:kid a 0=y:=pk;rw[hk0,ce hl1,bY];refine uL ?_;refine lL ?_;rintro b' i' h' hrd hA;refine lb ?_;refine oR goes54 (breaks_ref f y oM _ _ h' (rTree_iff.1 hrd)) ?_;exact ej
   ·exact js
  rw[if_neg e5];exact ej
theorem ends_made (a:Tree):(withinB a 3 2&&lim.block a)=soundB (madeE a):=by
 rw[Bool.eq_iff_iff,bE,withinB_eq,bE,bI,bI];constructor
 ·rintro⟨⟨h1,h2⟩,h3⟩;exact block_made h3 oM oM
 ·intro h;obtain⟨h1,h2⟩:=made_block h;refine⟨⟨?_,by omega⟩,h1⟩;unfold soundB at h;simp only[bE,bI]at h;have e1:(madeE a).size=a.size+3:=by
   exact kA
  omega
attribute [local irreducible] withinB isD soundB madeE endsD
theorem isBlock_ref (a:Tree) (m:Mem) (L:List Item) (h:HTree) (hr:TreeRep m h a) (hB:a.bulk≤1048576):TCall Tryz.prog 26 ⟨[treeV h]⟩ m L (Ret (.bool (soundB (madeE a))) m L):=by
 rw[←ends_made];unfold TCall;refine am Tryz.func26 9 ?_;refine aw (fun b=>?_);refine oR goes42 (within_ref a _ _ h hr hB 3 2 oO oO) ?_;refine uA ?_;refine aF (b:=withinB a 3 2) (fun e1=>?_) (fun e1=>?_)
 ·have hw:=e1;rw[withinB_eq]at hw;simp only[bE,bI]at hw;refine uL ?_;refine oR goes43 (isn_law 100 5 a ⟨by decide,by decide⟩ oM hB _ _ h hr) ?_;refine kZ ?_;rw[e1,isD_eq 100 5 a ⟨by decide,by decide⟩ oM oM];rfl
 ·exact gY
theorem Ends_ref (a:Tree) (m:Mem) (L:List Item) (h:HTree) (hr:TreeRep m h a) (hB:a.bulk≤1048576):TCall Tryz.prog 13 ⟨[treeV h]⟩ m L (Ret (.bool (endsO a)) m L):=by
 unfold TCall endsO;refine am Tryz.func13 9 ?_;refine aw (fun b=>?_);refine ap goes26 (isBlock_ref a _ _ h hr hB) ?_;refine aF (b:=soundB (madeE a)) (fun e1=>?_) (fun e1=>?_)
 ·obtain⟨hb,hd⟩:=made_block e1;refine uL ?_;refine oR goes27 (ends_ref 200 a oM (block_stmt hb) _ _ h hr) ?_;exact gY
 ·exact gY
end Go.Sep
namespace Go.Sep
open Go.Proofs Go.Ck
attribute [local irreducible] TC TO OT TCallX TCall DO DOt thenQ blockQ retQ At
def tcode : Except Int (List Decl)→Int
 | .error c=>c
 | .ok _=>0
def tlist : Except Int (List Decl)→List Decl
 | .error _=>[]
 | .ok l=>l
theorem tab_parts {m:Mem} {r:Value}:∀ {x:Except Int (List Decl)},TabR m r x→∃ s:Sl,r = .tuple ⟨[s.v,.int .i64 (tcode x)]⟩∧SlRep rDecl m s (tlist x)
 | .error c,h=>⟨nilS,h,db _ _⟩
 | .ok l,h=>by
  obtain⟨s,h1,h2⟩:=h;exact⟨s,h1,h2⟩
theorem Table_ref (p:Tree) (hB:p.bulk≤1048576) (m:Mem) (L:List Item) (h:HTree) (hr:TreeRep m h p) :
  TCall Tryz.prog 9 ⟨[treeV h]⟩ m L (Made m L fun r m'=>TabR m' r (tabD p)):=by
 by_cases hsd:soundB p=true
 ·unfold tabD;rw[if_pos hsd];exact table_ref p hsd hB m L h hr
 ·rw[Bool.not_eq_true]at hsd;unfold TCall tabD;rw[hsd];refine am Tryz.func9 166 ?_;refine aw (fun b1=>?_);refine oC goes21 ((rsound_law p _ _ h hr hB).x ?_);rw[hsd];refine lA ?_;refine uA ?_;exact cT rfl (L':=L) uS ⟨cM _,rfl,rfl⟩
theorem checkTables_walk (m:Mem) (L:List Item) (a:Tree) (h:HTree) (hE:Errs m) (hr:TreeRep m h a) (hB:a.bulk≤1048576) :
  TCall Tryz.prog 3 ⟨[treeV h]⟩ m L (Made m L fun r _=>r = .bool true):=by
 have hw:a.wide≤140737488355328:=bO (wide_bulk _) oM;have hr4:=hr.kids;have hlen:=hr4.len;have hsm:=hr4.small rfl;unfold TCall;refine am Tryz.func3 78 ?_;refine aw (fun b1=>?_);refine oC goes8 ((Table_law a hw _ _ h hr).x ?_);rintro r m1 _ ⟨hm1,rfl,hT1⟩;obtain⟨s,rfl,hs⟩:=tab_parts hT1;clear hT1;refine uL ?_;refine oC goes9 ((Table_ref a hB _ _ h (hr.mono hm1)).x ?_);rintro r m2 _ ⟨hm2,rfl,hT2⟩;obtain⟨t,rfl,ht⟩:=tab_parts hT2;clear hT2;generalize tcode (tabD a)=c;generalize tlist (tabD a)=l at hs ht;have hm12:=cN hm1 hm2;obtain⟨e,he⟩:∃ e,endsO a=e:=⟨_,rfl⟩
 refine uB ?_;refine aN [] dp 20 [.cells b1 0 (treeC h)] L (bu _) ?_;refine ag 0 ?_;refine da rfl rfl rfl rfl rfl rfl goes10 ((awake5_law _ _ (hE.mono hm12)).x ?_);rintro _ m3 _ ⟨hm3,rfl,rfl⟩;refine nv ?_;have hm13:=cN hm12 hm3;refine de tab uC uK [1,2,3,4,5,6,7] uK rfl ?_;refine DO.splitN (d:=26) (p:=c=c) rfl (fun hx=>?_) (fun hx=>?_)
 ·exact absurd rfl hx
 refine lw ?_;refine ag 10 ?_;refine da rfl rfl rfl rfl rfl rfl goes11 ((sameDecls_ref _ _ s t l ((hs.mono hm2).mono hm3) (ht.mono hm3)).x ?_);refine lA ?_;refine kK ?_;refine de tab uC uK [11,12,13] uK rfl ?_;refine ae (k:=0) 14 0 ?_;refine ae (k:=0) 16 0 ?_;refine ag 15 ?_;refine da rfl rfl rfl rfl rfl rfl goes12 ((Ends_law a _ _ h (hr.mono hm13) hw).x ?_);rw[he];rintro _ m4 _ ⟨hm4,rfl,rfl⟩;refine⟨hm4,_,bu _,?_⟩;refine ag 17 ?_;refine da rfl rfl rfl rfl rfl rfl goes13 ((Ends_ref a _ _ h ((hr.mono hm13).mono hm4) hB).x ?_);rw[he];refine lA ?_;refine kK ?_;refine ag 18 ?_;refine OT.neqBool tab rfl rfl rfl rfl rfl rfl ?_;rw[beq_self_eq_true,Bool.not_true];refine kK ?_;refine de tab uC uK [19] uK rfl ?_;refine nH ?_;have hm14:=cN hm13 hm4;clear hs ht;refine li ?_;refine cS (ι:=Nat×Mem) [1] rfl (fun y=>[(7,.int .i64 (y.1:Int))]) (fun y=>y.2) (fun _=>.cells b1 0 (treeC h)::L) (fun y=>y.1≤a.kids.length∧m≤y.2) (fun y=>a.kids.length-y.1) (0,m4) uH rfl uS ⟨cw _,hm14⟩ ?_;rintro⟨i,m5⟩ ⟨hi,hm5⟩;simp only at hi hm5;refine uL ?_;refine ak (fun hltI=>?_) (fun hltI=>?_)
 ·have hlt0:(i:Int)<(h.kids.len:Int):=hltI;have hlt:i<a.kids.length:=oM;have hx:a.kids[i]? = some a.kids[i]:=oT;have hmem:=bS hlt;have hnB:=bulk_kid hmem;generalize a.kids[i]=n at hx hmem hnB;refine li ?_;refine li ?_;refine cS (ι:=Nat×Mem) [1,7] rfl (fun y=>[(8,.int .i64 (y.1:Int))]) (fun y=>y.2) (fun _=>.cells b1 0 (treeC h)::L) (fun y=>y.1≤n.kids.length∧m≤y.2) (fun y=>n.kids.length-y.1) (0,m5) uH rfl uS ⟨cw _,hm5⟩ ?_;rintro⟨k,m6⟩ ⟨hk,hm6⟩;simp only at hk hm6;have hr5:=hr4.mono hm6;refine uL ?_;refine kY ?_;rintro b2 i2 h2 hrd2 hA2;have hr6:=(rTree_iff.1 hrd2).kids;have hl6:=hr6.len;have hsm6:=hr6.small rfl;refine uA ?_;refine ah (k:=3) hA2 ?_;refine ak (fun hltK=>?_) (fun hltK=>?_)
  ·have hlt1:(k:Int)<(h2.kids.len:Int):=hltK;have hlk:k<n.kids.length:=oM;have hxk:n.kids[k]? = some n.kids[k]:=by simp[hlk]
   have hmk:=bS hlk;have hkB:=bulk_kid hmk;have hkw:n.kids[k].wide≤140737488355328:=bO (wide_bulk _) oM;obtain⟨e,he⟩:∃ e,endsO n.kids[k]=e:=⟨_,rfl⟩
   refine uA ?_;refine aN [] dp 21 [.cells b1 0 (treeC h)] L (bu _) ?_;refine de tab uC uK [0,2,6,10,12,16] uK rfl ?_;refine ae (k:=3) 1 0 ?_;refine ae (k:=3) 11 0 ?_;refine DO.index tab rTree 3 i hr5 uC uK uK rfl rfl rfl rfl rfl rfl rfl rfl rfl hx ?_;rintro b3 i3 h3 hrd3 hA3;refine DO.index tab rTree 13 i hr5 uC uK uK rfl rfl rfl rfl rfl rfl rfl rfl rfl hx ?_;rintro b4 i4 h4 hrd4 hA4;refine de tab uC uK [4,14] uK rfl ?_;refine ai (k:=3) 5 hA3 ?_;refine ai (k:=3) 15 hA4 ?_;refine DO.index tab rTree 7 k (rTree_iff.1 hrd3).kids uC uK uK rfl rfl rfl rfl rfl rfl rfl rfl rfl hxk ?_;rintro b5 i5 h5 hrd5 hA5;refine DO.index tab rTree 17 k (rTree_iff.1 hrd4).kids uC uK uK rfl rfl rfl rfl rfl rfl rfl rfl rfl hxk ?_;rintro b6 i6 h6 hrd6 hA6;refine ai (k:=0) 8 hA5 ?_;refine ai (k:=0) 18 hA6 ?_;refine ag 9 ?_;refine da rfl rfl rfl rfl rfl rfl goes12 ((Ends_law n.kids[k] _ _ h5 (rTree_iff.1 hrd5) hkw).x ?_);rw[he];rintro _ m7 _ ⟨hm7,rfl,rfl⟩;refine⟨hm7,_,bu _,?_⟩;refine ag 19 ?_;refine da rfl rfl rfl rfl rfl rfl goes13 ((Ends_ref n.kids[k] _ _ h6 ((rTree_iff.1 hrd6).mono hm7) oM).x ?_);rw[he];refine lA ?_;refine kK ?_;refine ag 20 ?_;refine OT.neqBool tab rfl rfl rfl rfl rfl rfl ?_;rw[beq_self_eq_true,Bool.not_true];refine kK ?_;refine be ?_;refine aX ?_;refine kJ ?_;exact⟨(k+1,m7),uH,uH,rfl,rfl,uS,⟨by omega,cN hm6 hm7⟩,by simp only;omega⟩
  ·refine uA ?_;refine kI ?_;exact⟨(i+1,m6),uH,uH,rfl,rfl,uS,⟨by omega,hm6⟩,by simp only;omega⟩
 ·refine uA ?_;exact cT rfl (L':=L) uS ⟨hm5,rfl,rfl⟩
end Go.Sep
