/-
  Part 0 of the proof: library, walks and plain laws.
-/
import Derived.KernelRfl
set_option linter.unusedVariables false
set_option linter.unusedSimpArgs false
set_option maxHeartbeats 6400000
namespace Go
abbrev bm := @List.length_append
abbrev bo := @List.length_cons
abbrev br := @List.length_nil
abbrev bu := @List.Perm.refl
abbrev bw := @List.Perm.swap
abbrev bz := @List.Perm.trans
abbrev bD := @List.Perm.cons
abbrev bE := @Bool.and_eq_true
abbrev bF := @List.getElem?_eq_getElem
abbrev bG := @List.append_assoc
abbrev bH := @Option.some.injEq
abbrev bI := @decide_eq_true_eq
abbrev bJ := @List.getElem?_append_left
abbrev bK := @List.getElem?_append_right
abbrev bL := @Bool.or_eq_true
abbrev bM := @List.getElem?_eq_none
abbrev bN := @Nat.le_refl
abbrev bO := @Nat.le_trans
abbrev bP := @List.map_cons
abbrev bQ := @List.map_nil
abbrev bR := @List.cons_append
abbrev bS := @List.getElem_mem
abbrev bU := @Int.toNat_natCast
abbrev bV := @List.length_map
abbrev bW := @List.all_eq_true
abbrev bX := @Bool.and_true
abbrev bY := @Bool.true_and
abbrev bZ := @decide_true
abbrev ce := @decide_eq_true
abbrev cg := @decide_eq_false
abbrev ci := @List.drop_eq_getElem_cons
abbrev cj := @List.length_take
abbrev cl := @List.length_drop
abbrev cm := @List.Sublist.cons_cons
abbrev cn := @List.Sublist.cons
abbrev co := @List.Sublist.refl
abbrev cp := @List.append_nil
abbrev cq := @Nat.lt_of_lt_of_le
abbrev cr := @List.drop_eq_nil_of_le
abbrev cu := @List.take_of_length_le
abbrev cv := @List.mem_singleton
abbrev cw := @Nat.zero_le
abbrev cx := @List.take_append_drop
abbrev cy := @Nat.zero_add
abbrev cz := @List.take_succ_eq_append_getElem
abbrev cA := @List.all_cons
abbrev cB := @List.map_append
abbrev cC := @List.mem_of_mem_take
abbrev cD := @Option.map_some
abbrev cE := @Bool.or_true
abbrev cF := @Bool.or_false
abbrev cG := @Bool.false_or
abbrev cH := @Bool.and_assoc
abbrev cI := @cond_false
abbrev cJ := @cond_true
abbrev cK := @Nat.add_assoc
abbrev cL := @List.drop_zero
theorem uK {p : Prop} (h : p:=by kernel_rfl) : p:=h
structure Wz (p : Prop) : Prop where
 h : p
variable {p q : Prop}
theorem oM (h:p:=by omega):p:=h
theorem oN (h:p:=by simp):p:=h
theorem oO (h:p:=by decide):p:=h
theorem oP (h:p:=by repeat (first|exact dz|refine dA ?_|refine dB ?_)):p:=h
theorem oQ (h:p:=by first | rfl | omega | (simp only;omega)):p:=h
theorem oS (h:p:=by repeat (first|exact dG|refine dH ?_)):p:=h
theorem oT (h:p:=by simp[hlt]):p:=h
theorem oU (h:p:=by classical exact List.perm_iff_count.2 (fun pa=>by simp only[List.count_append,List.count_cons,List.count_nil];omega)):p:=h
theorem oV (h:p:=by repeat (first|exact dG|refine dH ?_|refine dI ?_)):p:=h
theorem oW (h:p:=by first | rfl | omega):p:=h
theorem oX (h:p:=by repeat (first|exact dz|refine dA ?_)):p:=h
theorem oY (h:p:=by simp;omega):p:=h
theorem oZ (h:p:=by simp only[bo,br,rTree,mkR];omega):p:=h
theorem o5 (h:p:=by classical exact List.perm_iff_count.2 (fun pa=>by simp only[List.count_cons];omega)):p:=h
theorem o6 (h:p:=by simp[hlt']):p:=h
theorem o7 (h:p:=by repeat (first|exact dz|refine dB ?_)):p:=h
theorem o8 (h:p:=by simpa using h):p:=h
theorem o9 (h:p:=by simp[eqGuard]):p:=h
theorem pb (h:p:=by rw[hnk];simp):p:=h
theorem pc (h:p:=by simpa using hi):p:=h
theorem pd (h:p:=by simp only[bo,br,rPtr];omega):p:=h
theorem pe (h:p:=by simp only[bo];omega):p:=h
theorem pf (h:p:=by have:=of_decide_eq_true e;omega):p:=h
theorem pg (h:p:=by rw[hh];decide):p:=h
theorem ph (h:p:=by unfold kid;rw[hnk];rfl):p:=h
theorem pj (h:p:=by unfold kid;rw[hk];rfl):p:=h
theorem pk (h:p:=by unfold kid;rw[hy];rfl):p:=h
theorem pm (h:p:=by simp only;omega):p:=h
theorem pn (h:p:=by simp[hlt2]):p:=h
theorem po (h:p:=by have:=du hk;omega):p:=h
theorem pp (h:p:=by rw[hy];simp):p:=h
theorem pq (h:p:=by rw[fl_eq];rfl):p:=h
theorem pu (h:p:=by rw[hk];simp):p:=h
theorem pw (h:p:=by simpa using o3):p:=h
theorem px (h:p:=by rw[hcZ,hZn];rfl):p:=h
theorem py (h:p:=by classical exact List.perm_iff_count.2 (fun pa=>by simp only[List.count_append,List.count_cons];omega)):p:=h
theorem pz (h:p:=by simp[cstL]):p:=h
theorem pA (h:p:=by rw[cj];omega):p:=h
theorem pB (h:p:=by cases e):p:=h
theorem pC (h:p:=by show q+cstL ks≤_;omega):p:=h
theorem pD (h:p:=by simp only[Item.len];omega):p:=h
theorem pE (h:p:=by rw[bV];omega):p:=h
theorem pF (h:p:=by simp[hlj]):p:=h
theorem pG (h:p:=by unfold textB;rw[ht,←h2,hnm];rfl):p:=h
theorem pH (h:p:=by repeat (first|exact Calm.ret|refine Calm.then ?_|refine Calm.block ?_)):p:=h
theorem pI (h:p:=by simp[hy]):p:=h
theorem pJ (h:p:=by simp[cstL];omega):p:=h
theorem pK (h:p:=by classical exact List.perm_iff_count.2 (fun pa=>by have pz0:=List.Perm.count_eq h pa;simp only[List.count_append,List.count_cons,List.count_nil]at pz0 ⊢;omega)):p:=h
theorem pL (h:p:=by rw[cl];omega):p:=h
theorem pM (h:p:=by rw[h]at hr;cases hr):p:=h
theorem pN (h:p:=by rw[←hnm];exact e9):p:=h
theorem pO (h:p:=by rw[hf k (by omega)];exact hx):p:=h
theorem pP (h:p:=by rw[hq.same f' f k k (hf k (by omega))];exact hx):p:=h
theorem pQ (h:p:=by rw[hZ,e];rfl):p:=h
theorem pS (h:p:=by rw[hes,hg];rfl):p:=h
theorem pT (h:p:=by simp[hjl]):p:=h
theorem pV (h:p:=by first | omega | (simp only;omega)):p:=h
theorem pW (h:p:=by rw[hmg];rfl):p:=h
theorem pY (h:p:=by unfold textB;rw[ht,←h2,ce hnm];rfl):p:=h
theorem pZ (h:p:=by unfold textB;rw[ht];rfl):p:=h
theorem p0 (h:p:=by simp[Item.len]at hl ⊢;omega):p:=h
theorem p6 (h:p:=by simp[Item.len]at hj ⊢;omega):p:=h
theorem p7 (h:p:=by apply Array.ext';simp):p:=h
theorem p8 (h:p:=by simpa[Nat.blt_eq]using hb):p:=h
theorem p9 (h:p:=by have:=hy.1;rw[hz]at this;simpa using this):p:=h
theorem qa (h:p:=by rw[addr_add];exact hr):p:=h
theorem qb (h:p:=by rw[q3];exact hi):p:=h
theorem qc (h:p:=by rw[q3];exact h2):p:=h
theorem qd (h:p:=by rw[q3];exact k2):p:=h
theorem qe (h:p:=by rw[hr]at h0;cases h0):p:=h
theorem qf (h:p:=by rw[cy];exact hx):p:=h
theorem qg (h:p:=by unfold Lib.bytesWorld World.freeze;split<;>rfl):p:=h
theorem qh (h:p:=by rw[cz hlj,cB,hfe];rfl):p:=h
theorem qi (h:p:=by unfold kid;rw[hfy];rfl):p:=h
theorem qj (h:p:=by simp only[rPtr];omega):p:=h
theorem qk (h:p:=by rw[cu (by simp only[bo];omega)];rfl):p:=h
theorem qm (h:p:=by simpa[Decl.all]using hf):p:=h
theorem qn (h:p:=by rw[h1];exact h11):p:=h
theorem qo (h:p:=by have:=deep_of_kid hx;omega):p:=h
theorem qp (h:p:=by classical exact List.perm_iff_count.2 (fun pa=>by have pz0:=List.Perm.count_eq hX pa;simp only[List.count_append,List.count_cons,List.count_nil]at pz0 ⊢;omega)):p:=h
theorem qq (h:p:=by rw[one_kid h1];rfl):p:=h
theorem qr (h:p:=by rw[show decide (l.length=1)=decide ((sl.len:Int)=1) from decide_eq_decide.2 (by omega)]):p:=h
theorem qt (h:p:=by simp only[rTree,mkR];omega):p:=h
theorem qu (h:p:=by classical exact List.perm_iff_count.2 (fun pa=>by have pz0:=List.Perm.count_eq h pa;simp only[List.count_append,List.count_cons]at pz0 ⊢;omega)):p:=h
theorem qv (h:p:=by simp[Tree.kids]):p:=h
theorem qw (h:p:=by simp[recPair,recoverD,hu]):p:=h
theorem qx (h:p:=by rw[cl,cl];omega):p:=h
theorem kG (h:q) (e:Wz q→p:=by(intro zz;refine af ⟨rfl,rfl,?_⟩;exact zz.h)):p:=e ⟨h⟩
theorem kH (h:q) (e:Wz q→p:=by(intro zz;refine uT ?_;refine uA ?_;exact zz.h)):p:=e ⟨h⟩
theorem kI (h:q) (e:Wz q→p:=by(intro zz;refine aa (r':=((i+1:Nat):Int)) uH (by omega) ?_;exact zz.h)):p:=e ⟨h⟩
theorem kJ (h:q) (e:Wz q→p:=by(intro zz;refine aa (r':=((k+1:Nat):Int)) uH (by omega) ?_;exact zz.h)):p:=e ⟨h⟩
theorem kK (h:q) (e:Wz q→p:=by(intro zz;refine⟨cM _,_,bu _,?_⟩;exact zz.h)):p:=e ⟨h⟩
theorem kL (h:q) (e:Wz q→p:=by(intro zz;refine uB ?_;refine cQ ?_;refine dh (size:=1) ?_;refine dh (size:=4) ?_;refine cS (ι:=Nat×Sl×Sl×List Nat×List Tree×Mem×List Item) [0,1,66,67] rfl (fun y=>[(68,.int .i64 (y.1:Int)),(9,y.2.1.v),(10,y.2.2.1.v)]) (fun y=>y.2.2.2.2.2.1) (fun y=>tok y.2.2.1 4::tok y.2.1 1::y.2.2.2.2.2.2) (fun y=>y.1≤l.length∧m≤y.2.2.2.2.2.1∧SlRep rPtr y.2.2.2.2.2.1 y.2.1 y.2.2.2.1∧Own y.2.1∧y.2.2.2.1.length=y.1∧SlRep rTree y.2.2.2.2.2.1 y.2.2.1 y.2.2.2.2.1∧Own y.2.2.1∧y.2.2.2.2.1.length=y.1∧(∀ t∈y.2.2.2.2.1,tg t=true)∧Bun E F sc w (q+cstL (l.drop y.1)) y.2.2.2.2.2.1 y.2.2.2.2.2.2 L∧Z=((l.drop y.1).mapM fun n=>(valC ex (plain sc) n).map X.type).bind fun r=>some (y.2.2.2.2.1++r)) (fun y=>l.length-y.1) (0,⟨none,0,0⟩,⟨none,0,0⟩,[],[],m,T) uH rfl uS ⟨cw _,cM _,db _ _,di,rfl,db _ _,di,rfl,(fun _ h=>by cases h),hB,(by rw[hZ];show _=Option.bind (List.mapM _ (l.drop 0)) _;rw[cL];cases List.mapM (fun n=>(valC ex (plain sc) n).map X.type) l<;>rfl)⟩ ?_;exact zz.h)):p:=e ⟨h⟩
theorem kM (h:q) (e:Wz q→p:=by(intro zz;refine uT ?_;refine uB ?_;refine cQ ?_;refine dh (size:=5) ?_;refine dh (size:=5) ?_;refine cR ct1 ?_;refine cS (ι:=Nat×Sl×Sl×List Fld×List Fld×Mem) [1,4,5,6,7] rfl (fun y=>[(8,.int .i64 (y.1:Int))]) (fun y=>y.2.2.2.2.2) (fun y=>.cells b6 0 (treeC h9)::tok y.2.1 5::tok y.2.2.1 5::.cells b7 0 (declC ⟨h9.name,decide (h9.kind=3),y.2.1,y.2.2.1⟩)::bufI s (encs rHD hs)::tok s 4::(toks (hs.map HDecl.methods) 5++(.cells b1 0 (treeC h)::L))) (fun y=>y.1≤n.kids.length∧m1≤y.2.2.2.2.2∧SlRep rField y.2.2.2.2.2 y.2.1 y.2.2.2.1∧Own y.2.1∧SlRep rField y.2.2.2.2.2 y.2.2.1 y.2.2.2.2.1∧Own y.2.2.1∧y.2.2.2.1=(if n.kind=3 then []else (n.kids.take y.1).map fldOf)∧y.2.2.2.2.1=(if n.kind=3 then (n.kids.take y.1).map fldOf else [])) (fun y=>n.kids.length-y.1) (0,nilS,nilS,[],[],m1) uH rfl uS ⟨cw _,cM _,db _ _,di,db _ _,di,by split<;>rfl,by split<;>rfl⟩ ?_;exact zz.h)):p:=e ⟨h⟩
theorem kN (h:q) (e:Wz q→p:=by(intro zz;refine uT ?_;refine uA ?_;refine uM ?_;refine uB ?_;refine cQ ?_;refine dh (size:=5) ?_;refine dh (size:=5) ?_;refine cS (ι:=Nat×Sl×Sl×List Fld×List Fld×Mem) [1,4,6,7,20,21,22,41,42] rfl (fun y=>[(43,.int .i64 (y.1:Int))]) (fun y=>y.2.2.2.2.2) (fun y=>tok y.2.1 5::tok y.2.2.1 5::.cells b7 0 (declC ⟨h9.name,decide (h9.kind=3),y.2.1,y.2.2.1⟩)::.cells b6 0 (treeC h9)::bufI s (encs rHD hs)::tok s 4::(toks (hs.map HDecl.methods) 5++(.cells b1 0 (treeC h)::L))) (fun y=>y.1≤n.kids.length∧m1≤y.2.2.2.2.2∧SlRep rField y.2.2.2.2.2 y.2.1 y.2.2.2.1∧Own y.2.1∧SlRep rField y.2.2.2.2.2 y.2.2.1 y.2.2.2.2.1∧Own y.2.2.1∧y.2.2.2.1=(if n.kind=3 then []else (n.kids.take y.1).map fldOf)∧y.2.2.2.2.1=(if n.kind=3 then (n.kids.take y.1).map fldOf else [])) (fun y=>n.kids.length-y.1) (0,nilS,nilS,[],[],m1) uH rfl uS ⟨cw _,cM _,db _ _,di,db _ _,di,by split<;>rfl,by split<;>rfl⟩ ?_;exact zz.h)):p:=e ⟨h⟩
theorem kO (h:q) (e:Wz q→p:=by(intro zz;refine de tab uC uK [0,1,2] uK rfl ?_;refine ai 3 hme ?_;refine de tab uC uK [4,5] uK rfl ?_;refine ai 6 hpr ?_;refine de tab uC uK [7,8,9] uK rfl ?_;exact zz.h)):p:=e ⟨h⟩
theorem kP (h:q) (e:Wz q→p:=by(intro zz;refine de tab uC uK [0] uK rfl ?_;refine ae 1 0 ?_;exact zz.h)):p:=e ⟨h⟩
theorem kQ (h:q) (e:Wz q→p:=by(intro zz;refine uA ?_;refine uT ?_;refine uA ?_;exact zz.h)):p:=e ⟨h⟩
theorem kR (h:q) (e:Wz q→p:=by(intro zz;refine uT ?_;refine uL ?_;exact zz.h)):p:=e ⟨h⟩
theorem kS (h:q) (e:Wz q→p:=by(intro zz;refine aj tab rTree k h4 uH (by first | rfl | omega | (simp only;omega)) rfl hx ?_;exact zz.h)):p:=e ⟨h⟩
theorem kT (h:q) (e:Wz q→p:=by(intro zz;refine de tab uC uK [0,1,2] uK rfl ?_;refine ae 3 0 ?_;refine de tab uC uK [4,5,6] uK rfl ?_;refine ae 7 0 ?_;exact zz.h)):p:=e ⟨h⟩
theorem kU (h:q) (e:Wz q→p:=by(intro zz;refine af ⟨cM _,rfl,?_⟩;exact zz.h)):p:=e ⟨h⟩
theorem kV (h:q) (e:Wz q→p:=by(intro zz;refine aA tab rTree 0 hr4 uH (by first | rfl | omega | (simp only;omega)) uH ?_;exact zz.h)):p:=e ⟨h⟩
theorem kW (h:q) (e:Wz q→p:=by(intro zz;refine uA ?_;refine uM ?_;refine uA ?_;exact zz.h)):p:=e ⟨h⟩
theorem kY (h:q) (e:Wz q→p:=by(intro zz;refine aj tab rTree i hr5 uH (by first | rfl | omega | (simp only;omega)) rfl hx ?_;exact zz.h)):p:=e ⟨h⟩
theorem kZ (h:q) (e:Wz q→p:=by(intro zz;refine uA ?_;refine af ⟨rfl,rfl,?_⟩;exact zz.h)):p:=e ⟨h⟩
theorem la (h:q) (e:Wz q→p:=by(intro zz;simp only[text0,text1,text2,bareB_eq,kidsR_nil,ofB_eq a h];exact zz.h)):p:=e ⟨h⟩
theorem lb (h:q) (e:Wz q→p:=by(intro zz;refine ar tab hA ?_;exact zz.h)):p:=e ⟨h⟩
theorem lc (h:q) (e:Wz q→p:=by(intro zz;refine uA ?_;refine TC.drawK (d2:=2) (d3:=3) dp rfl rfl uK [] 10 rfl [.cells b8 0 (treeC h9),.cells b2 0 [ptr bp],.cells bp 2 [fs.v]] (.obj fm (mapO kStr es ec)::tok fs 1::tok sb 4::(FunsI fl++(.cells b1 0 (treeC h)::.cells b3 0 [.int .i64 0]::.cells bc 3 [.pointer none,.int .i64 0]::.cells bp 3 [.pointer none]::L))) bhH ?_;refine de tab dN uK [0] uK rfl ?_;refine bj (k:=1) 1 0 dN ?_;refine bj (k:=0) 2 1 dN ?_;refine de tab dN uK [3,4] uK rfl ?_;refine bj (k:=0) 5 2 dN ?_;refine de tab dN uK [6,7] uK rfl ?_;refine ag 8 ?_;exact zz.h)):p:=e ⟨h⟩
theorem ld (h:q) (e:Wz q→p:=by(intro zz;refine ag 5 ?_;refine aq 2 ?_;refine⟨cM _,_,bu _,?_⟩;refine aY ?_;refine cR rot3' ?_;refine dh (size:=4) ?_;refine cS (ι:=Grow) [1,2,3] rfl (fun g=>[(4,.int .i64 (g.k:Int))]) (fun g=>g.m) (fun g=>tok g.s 4::.cells b3 0 [.int .i64 7,strV [],.int .i64 u,g.s.v]::.cells b2 0 (treeC ⟨0,[],0,⟨none,0,0⟩⟩)::.cells b 0 (treeC ⟨13,n,u,s⟩)::L) (fun g=>g.k≤a.kids.length∧SlRep rTree g.m g.s ((a.kids.take g.k).map Tree.ofT)∧Own g.s∧m≤g.m) (fun g=>a.kids.length-g.k) ⟨0,⟨none,0,0⟩,m⟩ uH rfl uS ⟨cw _,db _ _,di,cM _⟩ ?_;exact zz.h)):p:=e ⟨h⟩
theorem lg (h:q) (e:Wz q→p:=by(intro zz;refine ag 5 ?_;refine aq 2 ?_;refine⟨cM _,_,bu _,?_⟩;refine aY ?_;refine cR rot3' ?_;refine dh (size:=4) ?_;refine cS (ι:=Grow) [1,2,3] rfl (fun g=>[(4,.int .i64 (g.k:Int))]) (fun g=>g.m) (fun g=>tok g.s 4::.cells b3 0 [.int .i64 7,strV [],.int .i64 u,g.s.v]::.cells b2 0 (treeC ⟨0,[],0,⟨none,0,0⟩⟩)::.cells b 0 (treeC ⟨7,n,u,s⟩)::L) (fun g=>g.k≤a.kids.length∧SlRep rTree g.m g.s ((a.kids.take g.k).map Tree.ofT)∧Own g.s∧m≤g.m) (fun g=>a.kids.length-g.k) ⟨0,⟨none,0,0⟩,m⟩ uH rfl uS ⟨cw _,db _ _,di,cM _⟩ ?_;exact zz.h)):p:=e ⟨h⟩
theorem lh (h:q) (e:Wz q→p:=by(intro zz;refine an (k:=2) 0 ?_;refine TC.draw [13] dp 14 rfl [E.I (k+1) h,.cells b2 0 [.int .i64 0,strV [],.int .i64 0,.slice none 0 0]] L uP ?_;refine ai (k:=0) 0 hA ?_;refine de tab uC uK [1,2] uK rfl ?_;refine ae 3 0 ?_;refine ai (k:=0) 4 hA ?_;refine de tab uC uK [5,6] uK rfl ?_;refine ae 7 0 ?_;refine DO.arith 8 (r':=((k:Nat):Int)) uC uK uK rfl rfl rfl rfl rfl rfl rfl rfl (by first | rfl | omega | (simp only;omega)) (by omega) ?_;refine ba tab rTok 9 k hE.rep uC uK uK uH (by first | rfl | omega) rfl hx ?_;exact zz.h)):p:=e ⟨h⟩
theorem li (h:q) (e:Wz q→p:=by(intro zz;refine uB ?_;refine cQ ?_;exact zz.h)):p:=e ⟨h⟩
theorem lj (h:q) (e:Wz q→p:=by(intro zz;refine cS (ι:=Nat×Int×HTree) [3,4,10,65,66] rfl (fun y=>[(67,.int .i64 (y.1:Int))]) (fun _=>m4) (fun y=>.cells b10 0 (exC 48 y.2.2 n.name y.2.1 sA 0 none none)::.cells b4 0 (treeC zH) ::   .cells b3 0 [.int .i64 h.kind,strV n.name,.int .i64 h.num,h.kids.v]::T1) (fun y=>y.1≤fl.length∧Found m4 (fl.take y.1) n.name y.2.1 y.2.2) (fun y=>fl.length-y.1) (0,-2,zH) uH rfl uS ⟨cw _,.inl ⟨by rw[List.take_zero];rfl,rfl,rfl⟩⟩ ?_;exact zz.h)):p:=e ⟨h⟩
theorem lk (h:q) (e:Wz q→p:=by(intro zz;refine de tab uC uK [6] uK rfl ?_;refine df ?_;refine aC 7 ?_;exact zz.h)):p:=e ⟨h⟩
theorem ll (h:q) (e:Wz q→p:=by(intro zz;refine aj tab rTree 0 h4 uH (by first | rfl | omega | (simp only;omega)) rfl hx ?_;exact zz.h)):p:=e ⟨h⟩
theorem ln (h:q) (e:Wz q→p:=by(intro zz;refine de tab uC uK [0] uK rfl ?_;refine ae 1 0 ?_;refine de tab uC uK [2] uK rfl ?_;refine ag 3 ?_;exact zz.h)):p:=e ⟨h⟩
theorem lq (h:q) (e:Wz q→p:=by(intro zz;refine cS (ι:=Nat) [0,1,7] rfl (fun k=>[(8,.int .i64 (k:Int))]) (fun _=>m) (fun _=>L) (fun k=>k≤l.length∧idxP l p 0=idxP (l.drop k) p k) (fun k=>l.length-k) 0 uH rfl uS ⟨cw _,rfl⟩ ?_;exact zz.h)):p:=e ⟨h⟩
theorem lr (h:q) (e:Wz q→p:=by(intro zz;refine uA ?_;refine ar tab hA ?_;exact zz.h)):p:=e ⟨h⟩
theorem lu (h:q) (e:Wz q→p:=by(intro zz;refine TO.drop (L':=bufI s (encs rHD hs)::tok s 4::(toks (hs.map HDecl.methods) 5++(tok sm 5::.cells b1 0 (treeC h)::L))) uS ?_;exact zz.h)):p:=e ⟨h⟩
theorem lw (h:q) (e:Wz q→p:=by(intro zz;refine de tab uC uK [8,9] uK rfl ?_;exact zz.h)):p:=e ⟨h⟩
theorem ly (h:q) (e:Wz q→p:=by(intro zz;refine af ⟨hm1,rfl,?_⟩;exact zz.h)):p:=e ⟨h⟩
theorem lz (h:q) (e:Wz q→p:=by(intro zz;refine TO.nil ?_;refine cP ?_;refine TC.seq ?_;exact zz.h)):p:=e ⟨h⟩
theorem lA (h:q) (e:Wz q→p:=by(intro zz;rintro _ _ _ ⟨rfl,rfl,rfl⟩;exact zz.h)):p:=e ⟨h⟩
theorem lB (h:q) (e:Wz q→p:=by(intro zz;refine de tab uC uK [5] uK rfl ?_;exact zz.h)):p:=e ⟨h⟩
theorem lC (h:q) (e:Wz q→p:=by(intro zz;refine ah hA ?_;refine aA tab rPtr 0 hk uH (by first | rfl | omega | (simp only;omega)) uH ?_;exact zz.h)):p:=e ⟨h⟩
theorem lD (h:q) (e:Wz q→p:=by(intro zz;refine uA ?_;refine aA tab rTree 0 hS uH (by first | rfl | omega | (simp only;omega)) uH ?_;exact zz.h)):p:=e ⟨h⟩
theorem lE (h:q) (e:Wz q→p:=by(intro zz;refine qs rfl (OT.mkIface tab rfl rfl rfl rfl rfl ?_);refine qs rfl (OT.errEq tab (info:=Tryz.t197) (.inl rfl) rfl rfl rfl rfl rfl rfl uK rfl rfl ?_);refine uA ?_;exact zz.h)):p:=e ⟨h⟩
theorem lF (h:q) (e:Wz q→p:=by(intro zz;refine uA ?_;refine TC.drawK (d2:=2) (d3:=3) dp rfl rfl uK [10] 11 rfl [.cells b2 0 [ptr bp],.cells bp 2 [fs.v]] _ (bhK hT9) ?_;refine bj (k:=0) 0 0 dN ?_;refine bj (k:=0) 1 0 dN ?_;refine de tab dN uK [2,3] uK rfl ?_;refine bj (k:=0) 4 1 dN ?_;refine de tab dN uK [5] uK rfl ?_;refine ag 6 ?_;exact zz.h)):p:=e ⟨h⟩
theorem lG (h:q) (e:Wz q→p:=by(intro zz;refine qs rfl (OT.sidx tab 0 rfl rfl rfl rfl rfl rfl rfl hx ?_);exact zz.h)):p:=e ⟨h⟩
theorem lH (h:q) (e:Wz q→p:=by(intro zz;refine aa (r':=((j+1:Nat):Int)) uH (by omega) ?_;exact zz.h)):p:=e ⟨h⟩
theorem lI (h:q) (e:Wz q→p:=by(intro zz;refine uM ?_;refine uA ?_;exact zz.h)):p:=e ⟨h⟩
theorem lJ (h:q) (e:Wz q→p:=by(intro zz;refine cS (ι:=Nat) [1] rfl (fun k=>[(6,.int .i64 (k:Int)),(4,.int .i64 ((1+sizeL (a.kids.take k):Nat):Int)),(5,.int .i64 ((deepL (a.kids.take k):Nat):Int))]) (fun _=>m) (fun _=>.cells b 0 (treeC h)::L) (fun k=>k≤a.kids.length) (fun k=>a.kids.length-k) 0 uH rfl uS (cw _) ?_;exact zz.h)):p:=e ⟨h⟩
theorem lK (h:q) (e:Wz q→p:=by(intro zz;refine aj tab rDecl k hs uH (by first | rfl | omega | (simp only;omega)) rfl hx ?_;exact zz.h)):p:=e ⟨h⟩
theorem lL (h:q) (e:Wz q→p:=by(intro zz;refine aA tab rTree 0 h4 uH (by first | rfl | omega | (simp only;omega)) uH ?_;exact zz.h)):p:=e ⟨h⟩
theorem lM (h:q) (e:Wz q→p:=by(intro zz;refine uA ?_;refine qs rfl (cZ tab 4 rfl rfl rfl rfl rfl rfl rfl rfl ?_);refine qs rfl (cZ tab 3 rfl rfl rfl rfl rfl rfl rfl rfl ?_);refine qs rfl (cZ tab 2 rfl rfl rfl rfl rfl rfl rfl rfl ?_);refine TO.nil ?_;refine cP ?_;refine TC.ret ?_;exact zz.h)):p:=e ⟨h⟩
theorem lN (h:q) (e:Wz q→p:=by(intro zz;refine de tab uC uK [0,1,2] uK rfl ?_;exact zz.h)):p:=e ⟨h⟩
theorem lO (h:q) (e:Wz q→p:=by(intro zz;refine⟨hm10,_,bu _,?_⟩;refine de tab dN uK [8,9] uK rfl ?_;refine df ?_;refine aC 10 ?_;refine aq (k:=0) 1 ?_;refine aK ?_;refine forgetQ_n ?_;refine cP ?_;refine cR bhL ?_;refine TC.drop (List.sublist_cons_self _ _) ?_;exact zz.h)):p:=e ⟨h⟩
theorem lP (h:q) (e:Wz q→p:=by(intro zz;refine qs rfl (OT.arithK rfl rfl rfl rfl rfl rfl (r':=63) rfl ?_);refine qs rfl (OT.conv tab rfl rfl rfl rfl rfl rfl (r:=63) rfl ?_);refine qs rfl (OT.shK rfl (.inl rfl) rfl rfl rfl rfl (by decide) (r:=9223372036854775808) (by rfl) ?_);refine uA ?_;exact zz.h)):p:=e ⟨h⟩
theorem lQ (h:q) (e:Wz q→p:=by(intro zz;refine uA ?_;refine aa (r':=((i+1:Nat):Int)) uH (by omega) ?_;exact zz.h)):p:=e ⟨h⟩
theorem lR (h:q) (e:Wz q→p:=by(intro zz;refine aM [] dp 8 ?_;refine de tab uC uK [1] uK rfl ?_;refine ae 2 0 ?_;refine de tab uC uK [3] uK rfl ?_;refine ag 0 ?_;exact zz.h)):p:=e ⟨h⟩
theorem lS (h:q) (e:Wz q→p:=by(intro zz;refine uL ?_;refine oR goes46 (name_ref _ _ h.name (by rw[h2];omega)) ?_;refine uA ?_;exact zz.h)):p:=e ⟨h⟩
theorem lT (h:q) (e:Wz q→p:=by(intro zz;refine OT.storeE (j:=3) (cs:=[s'.v]) (h2:={ hd with methods:=s' }) tab 0 rHD hgj (show 0+j*4+3=j*4+3 by omega) (fun _=>rfl) (show 3+1≤4 by omega) rfl rfl rfl rfl rfl rfl rfl ?_;refine aK ?_;refine blockQ_n ?_;refine cP ?_;exact zz.h)):p:=e ⟨h⟩
theorem lU (h:q) (e:Wz q→p:=by(intro zz;refine cS (ι:=Nat) [0,3] rfl (fun k=>[(5,.int .i64 (k:Int))]) (fun _=>m) (fun _=>.cells b 0 (treeC h)::L) (fun k=>k≤a.kids.length∧(a.kids.take k).all (allB (hasD l))=true) (fun k=>a.kids.length-k) 0 uH rfl uS ⟨cw _,rfl⟩ ?_;exact zz.h)):p:=e ⟨h⟩
theorem lV (h:q) (e:Wz q→p:=by(intro zz;refine de tab uC uK [15,16] uK rfl ?_;refine df ?_;refine aC 17 ?_;refine aq (k:=2) 0 ?_;refine aC 18 ?_;refine OT.pureC tab rfl rfl rfl rfl ?_;refine aK ?_;refine blockQ_n ?_;refine cP ?_;refine aO bqG ?_;exact zz.h)):p:=e ⟨h⟩
theorem lW (h:q) (e:Wz q→p:=by(intro zz;refine qs rfl (OT.sub tab 0 (spanOf lod (c::r)) rfl rfl rfl rfl rfl rfl rfl (.inl ⟨rfl,rfl⟩) (.inr rfl) (cw _) hsl ?_);exact zz.h)):p:=e ⟨h⟩
theorem lX (h:q) (e:Wz q→p:=by(intro zz;refine qs rfl (OT.cap (s:=⟨none,0,0⟩) tab rfl rfl rfl rfl rfl ?_);refine uA ?_;refine qs rfl (OT.cutS tab 0 0 (s:=⟨none,0,0⟩) rfl rfl rfl rfl rfl rfl rfl (.inl ⟨rfl,rfl⟩) (.inr rfl) (bN _) (bN _) ?_);refine uA ?_;exact zz.h)):p:=e ⟨h⟩
theorem lY (h:q) (e:Wz q→p:=by(intro zz;refine ai 10 hA5 ?_;refine de tab uC uK [11,12,13] uK rfl ?_;refine ai 14 hA6 ?_;refine ag 15 (da rfl rfl rfl rfl rfl rfl goes211 ((tcomp_law k.type k2.type E.bt E.cc E.es E.tbl _ _ g5 g6 hr5 hr6 hC.tbl.tb hC.tbl.tr).x ?_));exact zz.h)):p:=e ⟨h⟩
theorem lZ (h:q) (e:Wz q→p:=by(intro zz;refine de tab dN uK [6,7] uK rfl ?_;refine df ?_;refine aC 8 ?_;refine aq (k:=0) 2 ?_;refine aK ?_;refine forgetQ_n ?_;refine aX ?_;refine av (k:=0) 0 ?_;refine aQ (k:=0) 2 ?_;refine bg (e:=114) ?_;exact zz.h)):p:=e ⟨h⟩
theorem l5 (h:q) (e:Wz q→p:=by(intro zz;refine TC.draw [10] dp 11 rfl [.cells bx 0 (exC 44 zH hn hu nilS 0 none none),.cells b3 0 (treeC ⟨44,hn,hu,hks⟩)] T1 uP ?_;refine de tab uC uK [0,1,2,3] uK rfl ?_;refine ai 4 hme ?_;refine de tab uC uK [5] uK rfl ?_;refine ae 6 1 ?_;refine ag 7 ?_;exact zz.h)):p:=e ⟨h⟩
theorem l6 (h:q) (e:Wz q→p:=by(intro zz;refine ap goes195 (dq _ _ s[k]) ?_;refine qs rfl (OT.arithK rfl rfl rfl rfl rfl rfl (u8_in (by omega) (by omega)) ?_);refine aJ (r':=((lowerN s[k]-97+10:Nat):Int)) uH (by rw[u8_in (by omega) (by omega)];omega) ?_;exact zz.h)):p:=e ⟨h⟩
theorem l7 (h:q) (e:Wz q→p:=by(intro zz;refine aj tab rField j hu uH (by first | rfl | omega | (simp only;omega)) rfl hxj ?_;exact zz.h)):p:=e ⟨h⟩
theorem l8 (h:q) (e:Wz q→p:=by(intro zz;refine DO.indexP tab 4 j uC uK uK rfl rfl rfl rfl rfl rfl rfl rfl rfl (show j<sn by omega) ?_;refine de tab uC uK [5] uK rfl ?_;refine DO.loadE (jj:=3) tab 6 0 rHD hgj (show 0+j*4+3=j*4+3 by omega) (fun _=>rfl) uC uK uK rfl rfl rfl rfl rfl rfl rfl ?_;exact zz.h)):p:=e ⟨h⟩
theorem mc (h:q) (e:Wz q→p:=by(intro zz;refine uA ?_;refine aa (r':=((k+1:Nat):Int)) uH (by omega) ?_;exact zz.h)):p:=e ⟨h⟩
theorem mf (h:q) (e:Wz q→p:=by(intro zz;refine cS (ι:=Nat) [0,9,10] rfl (fun k=>[(11,.int .i64 (k:Int)),(3,.int .i64 ((((ls.take k).map List.length).sum:Nat):Int))]) (fun _=>m) (fun _=>L) (fun k=>k≤ls.length) (fun k=>ls.length-k) 0 uH rfl uS (cw _) ?_;exact zz.h)):p:=e ⟨h⟩
theorem mg (h:q) (e:Wz q→p:=by(intro zz;refine cS (ι:=Nat) [0,29,30] rfl (fun k=>[(31,.int .i64 (k:Int))]) (fun _=>m) (fun _=>L) (fun k=>k≤a.kids.length∧(a.kids.take k).all (tknown (mhas es))=true) (fun k=>a.kids.length-k) 0 uH rfl uS ⟨cw _,rfl⟩ ?_;exact zz.h)):p:=e ⟨h⟩
theorem mh (h:q) (e:Wz q→p:=by(intro zz;refine uA ?_;refine af ⟨cM _,rfl,?_⟩;exact zz.h)):p:=e ⟨h⟩
theorem mi (h:q) (e:Wz q→p:=by(intro zz;refine uA ?_;refine ah hA2 ?_;exact zz.h)):p:=e ⟨h⟩
theorem mj (h:q) (e:Wz q→p:=by(intro zz;refine uA ?_;refine qs rfl (OT.ptrNil (e:=118) tab rfl rfl rfl rfl rfl rfl ?_);exact zz.h)):p:=e ⟨h⟩
theorem ml (h:q) (e:Wz q→p:=by(intro zz;refine uL ?_;refine aL (r':=((a.kids.length-1:Nat):Int)) uH (by omega) (by omega) ?_;refine aj tab rTree (a.kids.length-1) h4 uH (by first | rfl | omega | (simp only;omega)) rfl hx ?_;exact zz.h)):p:=e ⟨h⟩
theorem mn (h:q) (e:Wz q→p:=by(intro zz;refine qs rfl (OT.cap (s:=⟨none,0,0⟩) tab rfl rfl rfl rfl rfl ?_);refine uA ?_;refine aa (r':=((0:Nat):Int)) uH (by omega) ?_;refine aL (r':=(n:Int)) uH (by simp) (by omega) ?_;exact zz.h)):p:=e ⟨h⟩
theorem mo (h:q) (e:Wz q→p:=by(intro zz;refine⟨cM _,_,dk,?_⟩;refine de tab dN uK [9] uK rfl ?_;refine be ?_;refine forgetQ_n ?_;refine cP ?_;refine aO bhF ?_;refine av (k:=3) 1 ?_;refine av (k:=3) 1 ?_;exact zz.h)):p:=e ⟨h⟩
theorem mq (h:q) (e:Wz q→p:=by(intro zz;refine uA ?_;refine ah hA ?_;exact zz.h)):p:=e ⟨h⟩
theorem mr (h:q) (e:Wz q→p:=by(intro zz;refine uA ?_;refine uT ?_;exact zz.h)):p:=e ⟨h⟩
theorem mt (h:q) (e:Wz q→p:=by(intro zz;refine af ⟨rfl,rfl,?_⟩;refine congrArg Value.bool ?_;exact zz.h)):p:=e ⟨h⟩
theorem mu (h:q) (e:Wz q→p:=by(intro zz;refine uT ?_;refine uL ?_;refine uT ?_;refine uL ?_;refine dh (size:=4) ?_;exact zz.h)):p:=e ⟨h⟩
theorem mv (h:q) (e:Wz q→p:=by(intro zz;refine qs rfl (OT.arithK rfl rfl rfl rfl rfl rfl (r':=9223372036854775807) rfl ?_);refine qs rfl (OT.conv tab rfl rfl rfl rfl rfl rfl (r:=9223372036854775807) rfl ?_);refine aB ?_;refine af ⟨hm1,rfl,?_⟩;exact zz.h)):p:=e ⟨h⟩
theorem mw (h:q) (e:Wz q→p:=by(intro zz;refine de tab uC uK [10,11] uK rfl ?_;exact zz.h)):p:=e ⟨h⟩
theorem mx (h:q) (e:Wz q→p:=by(intro zz;refine aN [7] dp 8 [.cells b3 0 [.int .i64 25,strV [],.int .i64 0,s3.v]] (E.I (k3+1) 0::tok s3 4::.cells b2 0 [.int .i64 0,strV [],.int .i64 0,.slice none 0 0]::L) (bw _ _ _) ?_;exact zz.h)):p:=e ⟨h⟩
theorem my (h:q) (e:Wz q→p:=by(intro zz;refine uA ?_;refine aj tab rDecl k hs3 uH (by first | rfl | omega | (simp only;omega)) rfl hx ?_;exact zz.h)):p:=e ⟨h⟩
theorem mz (h:q) (e:Wz q→p:=by(intro zz;refine uA ?_;refine aj tab rTree k hs uH (by first | rfl | omega | (simp only;omega)) rfl hx ?_;exact zz.h)):p:=e ⟨h⟩
theorem mD (h:q) (e:Wz q→p:=by(intro zz;refine ai 10 hA2 ?_;refine ag 11 (da rfl rfl rfl rfl rfl rfl goes209 ((tfields_law k.type (fun e=>tg_one hg2 (.inl e)) E.bt E.cc E.es E.tbl _ _ g2 hr5 hC.tbl.tb hC.tbl.tr).x ?_));exact zz.h)):p:=e ⟨h⟩
theorem mE (h:q) (e:Wz q→p:=by(intro zz;refine uL ?_;refine af (good ?_);rw[hkb];exact zz.h)):p:=e ⟨h⟩
theorem mF (h:q) (e:Wz q→p:=by(intro zz;refine de tab uC uK [4] uK rfl ?_;exact zz.h)):p:=e ⟨h⟩
theorem mG (h:q) (e:Wz q→p:=by(intro zz;refine de tab uC uK [6] uK rfl ?_;exact zz.h)):p:=e ⟨h⟩
theorem mH (h:q) (e:Wz q→p:=by(intro zz;refine de tab uC uK [3] uK rfl ?_;exact zz.h)):p:=e ⟨h⟩
theorem mI (h:q) (e:Wz q→p:=by(intro zz;refine uA ?_;refine cT rfl (L':=L) ((List.sublist_append_right _ _).cons _) ⟨hmm,rfl,?_⟩;exact zz.h)):p:=e ⟨h⟩
theorem mJ (h:q) (e:Wz q→p:=by(intro zz;refine qs rfl (OT.loadL0 tab (i+1) rfl rfl rfl rfl hi rfl ?_);refine aa (r':=z-1) uH (by omega) ?_;refine qs rfl (cZ tab (i+1) rfl rfl rfl rfl rfl rfl hi rfl ?_);exact zz.h)):p:=e ⟨h⟩
theorem mK (h:q) (e:Wz q→p:=by(intro zz;refine am Tryz.func91 236 ?_;exact zz.h)):p:=e ⟨h⟩
theorem mL (h:q) (e:Wz q→p:=by(intro zz;refine aN [7] dp 8 [.cells b3 0 [.int .i64 26,strV [],.int .i64 0,s.v]] (E.I (k+1) 0::tok s 4::.cells b2 0 [.int .i64 0,strV [],.int .i64 0,s.v]::L) (bw _ _ _) ?_;exact zz.h)):p:=e ⟨h⟩
theorem mM (h:q) (e:Wz q→p:=by(intro zz;refine de tab uC uK [10] uK rfl ?_;refine ai 11 hA2 ?_;refine de tab uC uK [12] uK rfl ?_;refine df ?_;refine aC 13 ?_;refine aE 1 ?_;refine aK ?_;exact zz.h)):p:=e ⟨h⟩
theorem mN (h:q) (e:Wz q→p:=by(intro zz;refine av (k:=1) 2 ?_;refine aa (r':=((w+1:Nat):Int)) uH (by omega) ?_;refine qs rfl (cY (k:=1) tab 2 rfl rfl rfl rfl rfl rfl rfl rfl ?_);refine uL ?_;exact zz.h)):p:=e ⟨h⟩
theorem mO (h:q) (e:Wz q→p:=by(intro zz;refine uA ?_;refine ah hA5 ?_;exact zz.h)):p:=e ⟨h⟩
theorem mP (h:q) (e:Wz q→p:=by(intro zz;refine aj tab rTree 0 h4 uH (by first | rfl | omega | (simp only;omega)) rfl (hx0 e5) ?_;exact zz.h)):p:=e ⟨h⟩
theorem mQ (h:q) (e:Wz q→p:=by(intro zz;refine de tab uC uK [11,12] uK rfl ?_;exact zz.h)):p:=e ⟨h⟩
theorem mR (h:q) (e:Wz q→p:=by(intro zz;refine uA ?_;refine cT rfl (L':=L) (List.sublist_append_right _ _) ⟨hmm,rfl,?_⟩;exact zz.h)):p:=e ⟨h⟩
theorem mS (h:q) (e:Wz q→p:=by(intro zz;refine qs rfl (da (all:=[treeV hd]) rfl rfl rfl rfl rfl (by rw[fl_eq];rfl) hpp.1 ((hpp.2 _ _ hd a.kids[k] (bS hlt) (rTree_iff.1 hrd)).x ?_));rintro _ _ _ ⟨rfl,rfl,rfl⟩;refine uA ?_;exact zz.h)):p:=e ⟨h⟩
theorem mT (h:q) (e:Wz q→p:=by(intro zz;refine aj tab rTree 0 hr6 uH (by first | rfl | omega | (simp only;omega)) rfl hx0 ?_;exact zz.h)):p:=e ⟨h⟩
theorem mU (h:q) (e:Wz q→p:=by(intro zz;refine cS (ι:=Nat) [0,1] rfl (fun k=>[(5,.int .i64 (k:Int))]) (fun _=>m) (fun _=>L) (fun k=>k≤l.length) (fun k=>l.length-k) 0 uH rfl uS (cw _) ?_;exact zz.h)):p:=e ⟨h⟩
theorem mV (h:q) (e:Wz q→p:=by(intro zz;refine uA ?_;refine oR goes101 (span_law m1 _ (c::r) (by omega) lod 140 _ ⟨goes140,fun b=>either_cl m1 _ b e1 e2 hA1 hA2⟩) ?_;refine uA ?_;exact zz.h)):p:=e ⟨h⟩
theorem mW (h:q) (e:Wz q→p:=by(intro zz;refine de tab uC uK [19,20,21,22] uK rfl ?_;refine aH ?_;exact zz.h)):p:=e ⟨h⟩
theorem mX (h:q) (e:Wz q→p:=by(intro zz;refine uA ?_;refine aB ?_;refine af ⟨hm1,rfl,?_⟩;exact zz.h)):p:=e ⟨h⟩
theorem mY (h:q) (e:Wz q→p:=by(intro zz;refine qs rfl (OT.sub tab n s.length rfl rfl rfl rfl rfl rfl rfl (.inr rfl) (.inl ⟨rfl,rfl⟩) (by omega) (by omega) ?_);rw[List.take_length];exact zz.h)):p:=e ⟨h⟩
theorem mZ (h:q) (e:Wz q→p:=by(intro zz;refine aA tab rTree 0 hr8 uH (by first | rfl | omega | (simp only;omega)) uH ?_;exact zz.h)):p:=e ⟨h⟩
theorem na (h:q) (e:Wz q→p:=by(intro zz;refine de tab uC uK [11] uK rfl ?_;exact zz.h)):p:=e ⟨h⟩
theorem nd (h:q) (e:Wz q→p:=by(intro zz;refine aA tab rPtr 0 hsA uH (by first | rfl | omega | (simp only;omega)) uH ?_;exact zz.h)):p:=e ⟨h⟩
theorem ne (h:q) (e:Wz q→p:=by(intro zz;refine aM [] dp 7 ?_;refine de tab uC uK [0] uK rfl ?_;refine ae 1 0 ?_;refine de tab uC uK [2,3,4,5,6] uK rfl ?_;refine aH ?_;exact zz.h)):p:=e ⟨h⟩
theorem ng (h:q) (e:Wz q→p:=by(intro zz;refine aN [] dp 6 [_,_] (_::L) rot3 ?_;refine de tab uC uK [0,2] uK rfl ?_;exact zz.h)):p:=e ⟨h⟩
theorem nh (h:q) (e:Wz q→p:=by(intro zz;refine uA ?_;refine qs rfl (OT.cutP tab 0 0 rfl rfl rfl rfl rfl rfl rfl (.inl ⟨rfl,rfl⟩) (.inr rfl) (bN _) (cw _) ?_);refine uA ?_;exact zz.h)):p:=e ⟨h⟩
theorem ni (h:q) (e:Wz q→p:=by(intro zz;refine blockQ_n ?_;refine cP ?_;exact zz.h)):p:=e ⟨h⟩
theorem nj (h:q) (e:Wz q→p:=by(intro zz;refine uA ?_;refine aa (r':=(((i+1)+1:Nat):Int)) uH (by omega) ?_;exact zz.h)):p:=e ⟨h⟩
theorem nk (h:q) (e:Wz q→p:=by(intro zz;refine de tab uC uK [0] uK rfl ?_;exact zz.h)):p:=e ⟨h⟩
theorem nn (h:q) (e:Wz q→p:=by(intro zz;refine aV (.inr ⟨_,_,rfl⟩) ?_;exact zz.h)):p:=e ⟨h⟩
theorem np (h:q) (e:Wz q→p:=by(intro zz;refine⟨cM _,_,bu _,?_⟩;refine ag 1 ?_;refine OT.loadL tab 1 rfl rfl rfl rfl rfl rfl ?_;exact zz.h)):p:=e ⟨h⟩
theorem nq (h:q) (e:Wz q→p:=by(intro zz;refine ae 3 0 ?_;refine de tab uC uK [5,6,7] uK rfl ?_;refine ae 8 0 ?_;refine de tab uC uK [9] uK rfl ?_;refine ag 4 ?_;exact zz.h)):p:=e ⟨h⟩
theorem nr (h:q) (e:Wz q→p:=by(intro zz;refine ap goes66 (containsFunc_node _ _ h.kids a.kids (breaksD f) 53 [] goes53 h4 (fun x k hk hx=>ih k hk _ _ x (rTree_iff.1 hx))) ?_;refine af ⟨rfl,rfl,?_⟩;exact zz.h)):p:=e ⟨h⟩
theorem nt (h:q) (e:Wz q→p:=by(intro zz;refine TO.tokFo hc ho 4 ?_;refine aS (bw _ _ _) ?_;exact zz.h)):p:=e ⟨h⟩
theorem nv (h:q) (e:Wz q→p:=by(intro zz;refine⟨hm3,_,bu _,?_⟩;exact zz.h)):p:=e ⟨h⟩
theorem nw (h:q) (e:Wz q→p:=by(intro zz;refine de tab uC uK [0,1] uK rfl ?_;exact zz.h)):p:=e ⟨h⟩
theorem nx (h:q) (e:Wz q→p:=by(intro zz;refine de tab uC uK [5,6] uK rfl ?_;exact zz.h)):p:=e ⟨h⟩
theorem ny (h:q) (e:Wz q→p:=by(intro zz;refine an (k:=3) 1 ?_;refine uM ?_;refine uA ?_;refine ax 3 ?_;exact zz.h)):p:=e ⟨h⟩
theorem nz (h:q) (e:Wz q→p:=by(intro zz;refine uB ?_;refine cQ ?_;refine dh (size:=1) ?_;exact zz.h)):p:=e ⟨h⟩
theorem nA (h:q) (e:Wz q→p:=by(intro zz;refine ar tab hA9 ?_;exact zz.h)):p:=e ⟨h⟩
theorem nB (h:q) (e:Wz q→p:=by(intro zz;refine⟨cM _,_,dk,?_⟩;exact zz.h)):p:=e ⟨h⟩
theorem nC (h:q) (e:Wz q→p:=by(intro zz;refine uA ?_;refine ah (k:=3) hA ?_;refine aA tab rTree 0 hr5 uH (by first | rfl | omega | (simp only;omega)) uH ?_;exact zz.h)):p:=e ⟨h⟩
theorem nD (h:q) (e:Wz q→p:=by(intro zz;refine de tab uC uK [10] uK rfl ?_;exact zz.h)):p:=e ⟨h⟩
theorem nE (h:q) (e:Wz q→p:=by(intro zz;refine de tab uC uK [14] uK rfl ?_;exact zz.h)):p:=e ⟨h⟩
theorem nF (h:q) (e:Wz q→p:=by(intro zz;refine de tab uC uK [0,1,2,3] uK rfl ?_;exact zz.h)):p:=e ⟨h⟩
theorem nG (h:q) (e:Wz q→p:=by(intro zz;refine⟨cM _,E.I (k+1+1) h::.cells b2 0 [.int .i64 0,strV [],.int .i64 0,.slice none 0 0]::L,bw _ _ _,?_⟩;exact zz.h)):p:=e ⟨h⟩
theorem nH (h:q) (e:Wz q→p:=by(intro zz;refine be ?_;refine cP ?_;exact zz.h)):p:=e ⟨h⟩
theorem nI (h:q) (e:Wz q→p:=by(intro zz;refine uA ?_;refine af ⟨hm1,rfl,?_⟩;exact zz.h)):p:=e ⟨h⟩
theorem nJ (h:q) (e:Wz q→p:=by(intro zz;refine TC.cond_t rfl ?_;refine uN ?_;exact zz.h)):p:=e ⟨h⟩
theorem nK (h:q) (e:Wz q→p:=by(intro zz;refine de tab uC uK [7] uK rfl ?_;exact zz.h)):p:=e ⟨h⟩
theorem nL (h:q) (e:Wz q→p:=by(intro zz;refine qs rfl (OT.half (r:=a.num / 2) rfl rfl rfl rfl rfl (by decide) (Int.fdiv_eq_ediv_of_nonneg _ (by decide)) ?_);exact zz.h)):p:=e ⟨h⟩
theorem nM (h:q) (e:Wz q→p:=by(intro zz;rw[hA2];refine leaves_cons (by simp) (invoke_goes goes29) ?_;exact zz.h)):p:=e ⟨h⟩
theorem nN (h:q) (e:Wz q→p:=by(intro zz;refine da rfl rfl rfl rfl rfl rfl goes22 ((from_ref y (okT_node hokT) _ _ hy9 (rTree_iff.1 hrdy) (by omega)).x ?_);exact zz.h)):p:=e ⟨h⟩
theorem nO (h:q) (e:Wz q→p:=by(intro zz;refine qs rfl (OT.sidx tab k rfl rfl rfl rfl rfl rfl rfl hx ?_);exact zz.h)):p:=e ⟨h⟩
theorem nP (h:q) (e:Wz q→p:=by(intro zz;refine uL ?_;refine oR goes88 (tknown_law bt cc es hT.ok a _ _ h hr ho) ?_;rw[hT.hasF];refine uA ?_;exact zz.h)):p:=e ⟨h⟩
theorem nQ (h:q) (e:Wz q→p:=by(intro zz;refine aM [] dp 16 ?_;refine de tab uC uK [0,1,2,3,4,5,6,7,8,9,10,11,12,13,14,15] uK rfl ?_;refine aH ?_;exact zz.h)):p:=e ⟨h⟩
theorem nR (h:q) (e:Wz q→p:=by(intro zz;refine aI (L':=L) 0 ⟨hm1,rfl,?_⟩;exact zz.h)):p:=e ⟨h⟩
theorem nS (h:q) (e:Wz q→p:=by(intro zz;refine uA ?_;refine uT ?_;refine uA ?_;refine aI (L':=L) 0 ⟨hm12,rfl,?_⟩;exact zz.h)):p:=e ⟨h⟩
theorem nT (h:q) (e:Wz q→p:=by(intro zz;refine af ⟨hm,rfl,?_⟩;exact zz.h)):p:=e ⟨h⟩
theorem nU (h:q) (e:Wz q→p:=by(intro zz;refine ap goes34 (pall_law _ _ s a.kids h4 161 g.expr hE) ?_;exact zz.h)):p:=e ⟨h⟩
theorem nV (h:q) (e:Wz q→p:=by(intro zz;refine uA ?_;refine uM ?_;refine uA ?_;refine ax 3 ?_;exact zz.h)):p:=e ⟨h⟩
theorem nW (h:q) (e:Wz q→p:=by(intro zz;refine uL ?_;refine uT ?_;refine uA ?_;exact zz.h)):p:=e ⟨h⟩
theorem nX (h:q) (e:Wz q→p:=by(intro zz;rw[hspec];refine uL ?_;exact zz.h)):p:=e ⟨h⟩
theorem nY (h:q) (e:Wz q→p:=by(intro zz;refine uA ?_;refine qs rfl (OT.sidx tab (i+1) rfl rfl rfl rfl rfl rfl rfl hx2 ?_);refine uA ?_;exact zz.h)):p:=e ⟨h⟩
theorem nZ (h:q) (e:Wz q→p:=by(intro zz;refine de tab uC uK [4,5] uK rfl ?_;exact zz.h)):p:=e ⟨h⟩
theorem n5 (h:q) (e:Wz q→p:=by(intro zz;refine uB ?_;refine cQ ?_;refine uB ?_;refine aj tab rByte k hsb uH (by first | rfl | omega | (simp only;omega)) rfl hx ?_;exact zz.h)):p:=e ⟨h⟩
theorem n6 (h:q) (e:Wz q→p:=by(intro zz;refine uA ?_;refine uM ?_;exact zz.h)):p:=e ⟨h⟩
theorem n8 (h:q) (e:Wz q→p:=by(intro zz;refine wpS_rec (d0:=5) (d1:=2) rfl rfl rfl rfl rfl rfl (cq (by decide:5<16) h0.size) ?_;rw[hrp];exact zz.h)):p:=e ⟨h⟩
theorem n9 (h:q) (e:Wz q→p:=by(intro zz;refine wpS_rec (d0:=6) (d1:=3) rfl rfl rfl rfl rfl rfl (cq (by decide:6<20) h0.size) ?_;rw[hrp];exact zz.h)):p:=e ⟨h⟩
theorem oa (h:q) (e:Wz q→p:=by(intro zz;refine⟨cM _,_,bu _,?_⟩;refine ag 3 ?_;refine aE 2 ?_;exact zz.h)):p:=e ⟨h⟩
theorem oc (h:q) (e:Wz q→p:=by(intro zz;refine uL ?_;refine aj tab rTree i h41 uH (by first | rfl | omega | (simp only;omega)) rfl hxi ?_;exact zz.h)):p:=e ⟨h⟩
theorem od (h:q) (e:Wz q→p:=by(intro zz;refine uA ?_;refine aj tab rField i hsf uH (by first | rfl | omega | (simp only;omega)) rfl hx ?_;exact zz.h)):p:=e ⟨h⟩
theorem oe (h:q) (e:Wz q→p:=by(intro zz;refine uA ?_;refine aj tab rTree i hsn2 uH (by first | rfl | omega | (simp only;omega)) rfl hx ?_;exact zz.h)):p:=e ⟨h⟩
theorem og (h:q) (e:Wz q→p:=by(intro zz;refine de tab uC uK [15] uK rfl ?_;exact zz.h)):p:=e ⟨h⟩
theorem oh (h:q) (e:Wz q→p:=by(intro zz;refine uA ?_;refine aj tab rTree i hS1 uH (by first | rfl | omega | (simp only;omega)) rfl hx ?_;exact zz.h)):p:=e ⟨h⟩
theorem ol (h:q) (e:Wz q→p:=by(intro zz;refine qs rfl (OT.conv tab rfl rfl rfl rfl rfl rfl (r:=(d:Int)) (u64_in (by omega) (by omega)) ?_);exact zz.h)):p:=e ⟨h⟩
theorem oo (h:q) (e:Wz q→p:=by(intro zz;refine uA ?_;refine aj tab rDecl k hs1 uH (by first | rfl | omega | (simp only;omega)) rfl hx ?_;exact zz.h)):p:=e ⟨h⟩
theorem oq (h:q) (e:Wz q→p:=by(intro zz;refine aL (r':=((((ls.take (k+1)).map List.length).sum:Nat):Int)) uH (by omega) (by omega) ?_;exact zz.h)):p:=e ⟨h⟩
theorem ot (h:q) (e:Wz q→p:=by(intro zz;refine uA ?_;refine aN [] dp 11 [] _ (bu _) ?_;refine de tab uC uK [0,1,2,3,5,6] uK rfl ?_;exact zz.h)):p:=e ⟨h⟩
theorem ou (h:q) (e:Wz q→p:=by(intro zz;refine oC goes91 ((shape_expr lv hlv a _ _ _ hr').x ?_);exact zz.h)):p:=e ⟨h⟩
theorem ov (h:q) (e:Wz q→p:=by(intro zz;refine uA ?_;refine aj tab rStr k hw uH (by first | rfl | omega | (simp only;omega)) rfl hx ?_;exact zz.h)):p:=e ⟨h⟩
theorem ow (h:q) (e:Wz q→p:=by(intro zz;refine uA ?_;refine aj tab rFn k hf uH (by first | rfl | omega | (simp only;omega)) rfl hx2 ?_;exact zz.h)):p:=e ⟨h⟩
theorem ox (h:q) (e:Wz q→p:=by(intro zz;refine de tab uC uK [4,5,6,7] uK rfl ?_;refine aH ?_;exact zz.h)):p:=e ⟨h⟩
theorem oy (h:q) (e:Wz q→p:=by(intro zz;refine de tab uC uK [8] uK rfl ?_;exact zz.h)):p:=e ⟨h⟩
theorem oz (h:q) (e:Wz q→p:=by(intro zz;refine oR goes88 (tknown_law bt cc es hT.ok c _ _ g gr ho) ?_;rw[hT.hasF];refine uA ?_;exact zz.h)):p:=e ⟨h⟩
theorem oD (h:q) (e:Wz q→p:=by(intro zz;refine an (k:=3) 0 ?_;exact zz.h)):p:=e ⟨h⟩
theorem oE (h:q) (e:Wz q→p:=by(intro zz;refine uL ?_;refine qs rfl (OT.lookupP tab kStr x.name rfl rfl rfl rfl rfl rfl rfl ho ?_);exact zz.h)):p:=e ⟨h⟩
theorem oF (h:q) (e:Wz q→p:=by(intro zz;simp only[Option.bind_some];exact zz.h)):p:=e ⟨h⟩
theorem oG (h:q) (e:Wz q→p:=by(intro zz;refine uL ?_;refine oC goes83 ((ofN_law a (okT_node hok) _ _ h hr (okT_size hok)).x ?_);exact zz.h)):p:=e ⟨h⟩
theorem oH (h:q) (e:Wz q→p:=by(intro zz;refine de tab uC uK [5] uK rfl ?_;refine df ?_;refine aC 6 ?_;exact zz.h)):p:=e ⟨h⟩
theorem oI (h:q) (e:Wz q→p:=by(intro zz;refine ag 18 ?_;refine aE 2 ?_;refine⟨cM _,_,bu _,?_⟩;refine de tab uC uK [19] uK rfl ?_;refine be ?_;exact zz.h)):p:=e ⟨h⟩
theorem oJ (h:q) (e:Wz q→p:=by(intro zz;refine⟨cM _,_,bu _,?_⟩;refine ag 4 ?_;refine OT.loadL (k:=1) tab 0 rfl rfl rfl rfl rfl rfl ?_;refine⟨cM _,_,bu _,?_⟩;refine de tab uC uK [8,9] uK rfl ?_;refine ag 10 ?_;exact zz.h)):p:=e ⟨h⟩
theorem oK (h:q) (e:Wz q→p:=by(intro zz;refine TO.nil ?_;refine cP ?_;exact zz.h)):p:=e ⟨h⟩
theorem dO (h:p:=by
 refine uA ?_;refine cS (ι:=Nat) [2,5,6] rfl (fun i=>[(9,.int .i64 (i:Int))]) (fun _=>m1) (fun _=>.cells b 0 (treeC h)::L) (fun i=>i≤a.kids.length∧allS p x.ks x.rest a.kids=allS p (x.ks.drop i) x.rest (a.kids.drop i)) (fun i=>a.kids.length-i) 0 uH rfl uS ⟨cw _,rfl⟩ ?_;rintro i ⟨hi,hI⟩;refine uL ?_;refine ak (fun hik=>?_) (fun hik=>?_)
 ·have hilt:i<a.kids.length:=oM;have hxi:a.kids[i]? = some a.kids[i]:=by simp[hilt]
  rw[allS_step p x a.kids i hilt]at hI;have hpi:=hp hfit i hilt;refine uA ?_;refine ak (fun hiks=>?_) (fun hiks=>?_)
  ·have hks:i<x.ks.length:=oM;have hxs:x.ks[i]? = some x.ks[i]:=by simp[hks]
   have hw:want x i=x.ks[i]:=by rw[want,hxs];rfl
   rw[hw]at hpi hI;refine uA ?_;refine aj tab rInt i hs uH oQ rfl hxs ?_;rintro b3 i3 v3 hv3 hA3;obtain rfl:v3=x.ks[i]:=hv3;refine oL tab hA3 ?_;refine oc ?_;rintro b4 i4 h' hr4 hA4;refine ar tab hA4 ?_;refine ap goes43 (hpi _ _ h' (rTree_iff.1 hr4)) ?_;refine aG (fun hpb=>?_) (fun hpb=>?_)
   ·refine uA ?_;refine af (out (cM _) ?_);rw[Bool.not_eq_true']at hpb;rw[hfit,htxt,hI,hpb];rfl
   ·refine uA ?_;refine kI ?_;rw[Bool.not_eq_false']at hpb;exact⟨i+1,uH,uH,rfl,rfl,uS,⟨by omega,by rw[hI,hpb,bY]⟩,by omega⟩
  ·have hw:want x i=x.rest:=by rw[want,bM oM];rfl
   rw[hw]at hpi hI;refine oc ?_;rintro b4 i4 h' hr4 hA4;refine ar tab hA4 ?_;refine ap goes43 (hpi _ _ h' (rTree_iff.1 hr4)) ?_;refine aG (fun hpb=>?_) (fun hpb=>?_)
   ·refine uA ?_;refine af (out (cM _) ?_);rw[Bool.not_eq_true']at hpb;rw[hfit,htxt,hI,hpb];rfl
   ·refine uA ?_;refine kI ?_;rw[Bool.not_eq_false']at hpb;exact⟨i+1,uH,uH,rfl,rfl,uS,⟨by omega,by rw[hI,hpb,bY]⟩,by omega⟩
 ·refine uA ?_;refine af (out (cM _) ?_);rw[hfit,htxt,hI,show a.kids.drop i=[] from cr oM];cases x.ks.drop i<;>rfl):p:=h
theorem dP (h:p:=by
 simp only at hlt';have hlt:k<a.kids.length:=oM;have hx:a.kids[k]? = some a.kids[k]:=oT;have hmem:=bS hlt;refine uA ?_;generalize hcx:a.kids[k]=c at *;refine aN [11] dp 12 (_::_::_::L) [tok t 4] perm_last ?_;refine kP ?_;refine de tab uC uK [2] uK rfl ?_;refine ae 3 2 ?_;refine mF ?_;refine ba tab rTree 5 k h41 uC uK uK uH oW rfl hx ?_;rintro b' i' h' hrd hA;refine ai (k:=0) 6 hA ?_;refine ag 7 (da rfl rfl rfl rfl rfl rfl goes22 ((ih c hmem (hkn c hmem) _ _ h' (rTree_iff.1 hrd) (bO (Nat.le_of_lt (bulk_kid hmem)) hB)).x ?_));rintro _ m2 _ ⟨hm2,rfl,ht2,rfl,hrt⟩;refine⟨hm2,_,bu _,?_⟩;refine ag 8 ?_;refine OT.lit tab rfl rfl rfl rfl (fun bl=>?_);refine⟨cM _,_,dk,?_⟩;refine ag 9 ?_;refine dj List.perm_append_comm (OT.append1 tab rTree 0 (hd':=ht2) (a:=c.ofT) (ht.mono hm2) hown (rTree_iff.2 hrt) rfl rfl rfl rfl rfl rfl rfl (by simp only[rTree,mkR,bV,cj];omega) (fun t' m3 hm3 ht' hown'=>?_));refine⟨hm3,_,perm_last,?_⟩;refine nD ?_;refine df ?_;refine aC 11 ?_;refine aq 0 ?_;refine aK ?_
 rotate_left 1
 refine uA ?_;refine cW perm_f3 ?_;refine kJ ?_;refine⟨⟨k+1,t',m3⟩,uH,uH,rfl,rfl,uS,⟨by simp only;omega,?_,hown',cN hm1 (cN hm2 hm3)⟩,by simp only;omega⟩;simp only;rw[cz hlt,hcx,cB];exact ht'):p:=h
theorem dQ (h:p:=by
 skip;refine uA ?_;refine az (fun h4=>?_) (fun h4=>?_)
 ·refine uA ?_;refine ak (fun h6=>?_) (fun h6=>?_)
  ·refine uA ?_;refine aJ (r':=((s[k].toNat-48:Nat):Int)) uH (by rw[u8_in oM oM];omega) ?_;exact⟨s[k].toNat-48,uH,uH,rfl,rfl,uS,dv_dig oM oM⟩
  ·have h0:¬(48≤s[k].toNat∧s[k].toNat≤57):=oM;refine uA ?_;refine ap goes195 (dq _ _ s[k]) ?_;refine az (fun h5=>?_) (fun h5=>?_)
   ·refine uA ?_;refine ap goes195 (dq _ _ s[k]) ?_;refine ak (fun h6=>?_) (fun h6=>?_)
    ·refine uA ?_;refine l6 ?_;exact⟨lowerN s[k]-97+10,uH,uH,rfl,rfl,uS,dv_low h0 oM oM⟩
    ·skip;refine mX ?_;exact .inr ⟨hI.trans (pU_none hlt (dv_none h0 oM)),_,2,.inr rfl,rfl⟩
   ·skip;refine mX ?_;exact .inr ⟨hI.trans (pU_none hlt (dv_none h0 oM)),_,2,.inr rfl,rfl⟩
 ·have h0:¬(48≤s[k].toNat∧s[k].toNat≤57):=oM;refine uA ?_;refine ap goes195 (dq _ _ s[k]) ?_;refine az (fun h5=>?_) (fun h5=>?_)
  ·refine uA ?_;refine ap goes195 (dq _ _ s[k]) ?_;refine ak (fun h6=>?_) (fun h6=>?_)
   ·refine uA ?_;refine l6 ?_;exact⟨lowerN s[k]-97+10,uH,uH,rfl,rfl,uS,dv_low h0 oM oM⟩
   ·skip;refine mX ?_;exact .inr ⟨hI.trans (pU_none hlt (dv_none h0 oM)),_,2,.inr rfl,rfl⟩
  ·skip;refine mX ?_;exact .inr ⟨hI.trans (pU_none hlt (dv_none h0 oM)),_,2,.inr rfl,rfl⟩):p:=h
theorem dR (h:p:=by
 simp only[cI]at hT;refine uA ?_;refine ap goes144 (peek_law [59] hE hk) ?_;cases hb3:Ps.isM [59] E.f k1 with
 | false =>
  refine uA ?_;have hT:T = .bad k1:=by
   rw[hT];cases Ps.isC1 l
   ·rfl
   ·exact Ps.peek_f' hb3
  refine qs rfl (OT.stopP (L0:=L) hT hE hk oV hm uS rfl rfl rfl rfl rfl rfl)
 | true =>
  refine lr ?_;refine aF (b:=decide (((s.len:Nat):Int)=1)) (fun h1=>?_) (fun h1=>?_)
  ·have h1':l.length=1:=by have:=of_decide_eq_true h1;omega
   obtain⟨t0,rfl⟩:=List.length_eq_one_iff.1 h1';refine lr ?_;refine aj tab rTree 0 hs uH oQ rfl (by rfl) ?_;rintro bx ix hx' hrx hAx;have hrx':=rTree_iff.1 hrx;refine uA ?_;refine ah hAx ?_;rw[hrx'.kind];refine ak (fun h2=>?_) (fun h2=>?_)
   ·have hT:T = .ok (Tree.mk 24 [] 0 [t0]) k1:=by
     rw[hT,show Ps.isC1 [t0]=true from ce h2];exact Ps.peek_t' hb3
    refine lr ?_;refine ny ?_;refine ay (L':=E.I k1 0::L) 3 ⟨_,k1,[],hT,hm,hk,⟨⟨24,[],0,s⟩,rfl,rfl,⟨rfl,rfl,rfl,hs⟩⟩,rfl⟩
   ·have hT:T = .bad k1:=by
     rw[hT,show Ps.isC1 [t0]=false from cg h2];rfl
    refine uA ?_;refine qs rfl (OT.stopP (L0:=L) hT hE hk oV hm uS rfl rfl rfl rfl rfl rfl)
  ·have hT:T = .bad k1:=by
    rw[hT];have h1':¬l.length=1:=by have:=of_decide_eq_false h1;omega
    have:Ps.isC1 l=false:=by
     unfold Ps.isC1;split
     ·exact absurd rfl h1'
     ·rfl
    rw[this];rfl
   refine uA ?_;refine qs rfl (OT.stopP (L0:=L) hT hE hk oV hm uS rfl rfl rfl rfl rfl rfl)):p:=h
theorem dS (h:p:=by
 rintro⟨k,t,m1⟩ ⟨hk,ht,hown,hm1⟩;simp only at hk ht hown hm1 ⊢;have h41:=h4.mono hm1;simp only at hl hsm;refine uA ?_;refine ak (fun hlt'=>?_) (fun hlt'=>?_)
 ·have hlt:k<a.kids.length:=oM;have hx:a.kids[k]? = some a.kids[k]:=oT;have hmem:=bS hlt;refine uA ?_;refine aj tab rTree k h41 uH oQ rfl hx ?_;rintro b' i' h' hrd hA;refine lb ?_;refine aD tab (fun b5=>?_);refine kH ?_;generalize hcx:a.kids[k]=c at *;refine cR (bw _ _ _) ?_;refine aN [7] dp 8 (_::_::_::_::L) [tok t 4] perm_last ?_;refine nk ?_;refine ae 1 1 ?_;refine ae (k:=0) 2 0 ?_;refine ag 3 (da rfl rfl rfl rfl rfl rfl goes83 ((ih c hmem (hkn c hmem) _ _ h' (rTree_iff.1 hrd) (bO (Nat.le_of_lt (Pt.kid_size hmem)) hB)).x ?_));rintro _ m2 _ ⟨hm2,rfl,ht2,rfl,hrt⟩;refine⟨hm2,_,bu _,?_⟩;refine ag 4 ?_;refine OT.lit tab rfl rfl rfl rfl (fun bl=>?_);refine⟨cM _,_,dk,?_⟩;refine ag 5 ?_;refine dj List.perm_append_comm (OT.append1 tab rTree 0 (hd':=ht2) (a:=c.ofT) (ht.mono hm2) hown (rTree_iff.2 hrt) rfl rfl rfl rfl rfl rfl rfl (by simp only[rTree,mkR,bV,cj];omega) (fun t' m3 hm3 ht' hown'=>?_));refine⟨hm3,_,perm_last,?_⟩;refine lk ?_;refine aq 1 ?_;refine aK ?_
  rotate_left 1
  refine uA ?_;refine cW perm_f4 ?_;refine kJ ?_;refine⟨⟨k+1,t',m3⟩,uH,uH,rfl,rfl,uS,⟨by simp only;omega,?_,hown',cN hm1 (cN hm2 hm3)⟩,by simp only;omega⟩;simp only;rw[cz hlt,hcx,cB];exact ht'
 ·refine uL ?_;refine kH ?_;refine ay 2 ⟨hm1,rfl,⟨_,[],u,t⟩,rfl,rfl,rfl,h3,?_⟩;rw[cu oM]at ht;exact ht):p:=h
theorem dT (h:p:=by
 refine uA ?_;refine az (fun es=>?_) (fun es=>?_)
 ·rw[ce es]at hZ;refine mO ?_;refine az (fun e12=>?_) (fun e12=>?_)
  ·rw[ce e12]at hZ;refine uA ?_;refine qs rfl (dE (b:=true) (L0:=L) o7 hm (dy [_,_] hB.hs) (hZ.trans (mapB _ _)) rfl rfl rfl rfl rfl rfl (fun e hZ=>?_));refine uA ?_;refine cU rfl (L':=.cells b 0 (exC 53 hB2 n.name n.num sA 0 none none)::T2) uS ⟨_,_,T2,hZ,hm,dC (x:=⟨53,tk 2,false,0,false⟩) hrB (tg_leaf _ _ _ oM) ⟨fun e=>by omega,fun e=>by cases e⟩ oN oN oN oN oN oN (fun _ _=>rfl),rfl,hB⟩
  ·rw[cg e12]at hZ;refine mO ?_;refine qs rfl (dE (b:=(decide (g5.kind=3))) (L0:=L) o7 hm (dy [_,_] hB.hs) (hZ.trans (mapB _ _)) rfl rfl rfl rfl rfl rfl (fun e hZ=>?_));refine uA ?_;refine cU rfl (L':=.cells b 0 (exC 53 hB2 n.name n.num sA 0 none none)::T2) uS ⟨_,_,T2,hZ,hm,dC (x:=⟨53,tk 2,false,0,false⟩) hrB (tg_leaf _ _ _ oM) ⟨fun e=>by omega,fun e=>by cases e⟩ oN oN oN oN oN oN (fun _ _=>rfl),rfl,hB⟩
 ·rw[cg es]at hZ;refine uA ?_;refine qs rfl (dE (b:=false) (L0:=L) o7 hm (dy [_,_] hB.hs) (hZ.trans (mapB _ _)) rfl rfl rfl rfl rfl rfl (fun e hZ=>?_));cases e):p:=h
theorem dU (h:p:=by
 obtain⟨-,b,rfl,hX⟩:=hV;obtain⟨t3,k3,v3,f3,⟨⟨g3,num3,how3,hr3,hA3,-⟩,hg3⟩⟩:=hX.eb;replace hs1:=hs1.mono hm2;replace hs2:=hs2.mono hm2;replace hS1:=hS1.mono hm2;refine uA ?_;refine aN [] dp 13 [] _ (bu _) ?_;refine de tab uC uK [0,1,4,5,6,7] uK rfl ?_;refine ai (k:=1) 8 hA3 ?_;refine DO.fork 2 [9] uK ⟨⟨_,rfl,rfl,rfl,?_⟩,⟨_,rfl,rfl,rfl,?_⟩,trivial⟩
 ·refine dn tab rPtr (hs:=[b]) (l:=[b]) ⟨rfl,trivial⟩ rfl rfl rfl rfl rfl oO (fun sA m3 h3 hsA _ _=>?_);refine⟨h3,_,bu _,?_⟩;refine DO.fork 3 [9] uK ⟨⟨_,rfl,rfl,rfl,?_⟩,⟨_,rfl,rfl,rfl,?_⟩,trivial⟩
  ·refine dc tab rPtr 2 (hs1.mono h3) ho1 hsA rfl rfl rfl rfl rfl rfl rfl pd (fun s1' m4 h4 hs1' ho1'=>?_);refine⟨h4,_,bu _,?_⟩;refine ag 9 ?_;refine dn tab rTree (hs:=[g3]) (l:=[x.type]) ⟨rTree_iff.2 (((hr3.mono h3).mono h4)),trivial⟩ rfl rfl rfl rfl rfl oO (fun sB m5 h5 hsB _ _=>?_);refine⟨h5,_,bu _,?_⟩;refine ag 10 ?_;refine dc tab rTree 1 (((hs2.mono h3).mono h4).mono h5) ho2 hsB rfl rfl rfl rfl rfl rfl rfl oZ (fun s2' m6 h6 hs2' ho2'=>?_);refine⟨h6,_,bu _,?_⟩;refine mQ ?_;refine be ?_;have hmm:m2≤m6:=cN (cN h3 h4) (cN h5 h6);refine lQ ?_;exact⟨(i+1,s1',s2',xs++[b],ts++[x.type],m6,T2),uH,uH,rfl,rfl,uS,⟨by omega,cN hm' hmm,((hs1'.mono h5).mono h6),ho1',by simp only[bm,bo,br];omega,hs2',ho2',by simp only[bm,bo,br];omega,(fun t ht=>by
    rcases List.mem_append.1 ht with ht | ht
    ·exact htg t ht
    ·rw[List.mem_singleton.1 ht];exact hg3),hB.mono hmm (bN _),hZ⟩,by simp only;omega⟩
  ·refine dn tab rTree (hs:=[g3]) (l:=[x.type]) ⟨rTree_iff.2 ((hr3.mono h3)),trivial⟩ rfl rfl rfl rfl rfl oO (fun sB m4 h4 hsB _ _=>?_);refine⟨h4,_,bu _,?_⟩;refine ag 3 ?_;refine dc tab rPtr 2 ((hs1.mono h3).mono h4) ho1 (hsA.mono h4) rfl rfl rfl rfl rfl rfl rfl pd (fun s1' m5 h5 hs1' ho1'=>?_);refine⟨h5,_,bu _,?_⟩;refine ag 10 ?_;refine dc tab rTree 1 (((hs2.mono h3).mono h4).mono h5) ho2 (hsB.mono h5) rfl rfl rfl rfl rfl rfl rfl oZ (fun s2' m6 h6 hs2' ho2'=>?_);refine⟨h6,_,bu _,?_⟩;refine mQ ?_;refine be ?_;have hmm:m2≤m6:=cN (cN h3 h4) (cN h5 h6);refine lQ ?_;exact⟨(i+1,s1',s2',xs++[b],ts++[x.type],m6,T2),uH,uH,rfl,rfl,uS,⟨by omega,cN hm' hmm,(hs1'.mono h6),ho1',by simp only[bm,bo,br];omega,hs2',ho2',by simp only[bm,bo,br];omega,(fun t ht=>by
    rcases List.mem_append.1 ht with ht | ht
    ·exact htg t ht
    ·rw[List.mem_singleton.1 ht];exact hg3),hB.mono hmm (bN _),hZ⟩,by simp only;omega⟩
 ·refine dn tab rTree (hs:=[g3]) (l:=[x.type]) ⟨rTree_iff.2 (hr3),trivial⟩ rfl rfl rfl rfl rfl oO (fun sB m3 h3 hsB _ _=>?_);refine⟨h3,_,bu _,?_⟩;refine ag 2 ?_;refine dn tab rPtr (hs:=[b]) (l:=[b]) ⟨rfl,trivial⟩ rfl rfl rfl rfl rfl oO (fun sA m4 h4 hsA _ _=>?_);refine⟨h4,_,bu _,?_⟩;refine ag 3 ?_;refine dc tab rPtr 2 ((hs1.mono h3).mono h4) ho1 hsA rfl rfl rfl rfl rfl rfl rfl pd (fun s1' m5 h5 hs1' ho1'=>?_);refine⟨h5,_,bu _,?_⟩;refine ag 10 ?_;refine dc tab rTree 1 (((hs2.mono h3).mono h4).mono h5) ho2 ((hsB.mono h4).mono h5) rfl rfl rfl rfl rfl rfl rfl oZ (fun s2' m6 h6 hs2' ho2'=>?_);refine⟨h6,_,bu _,?_⟩;refine mQ ?_;refine be ?_;have hmm:m2≤m6:=cN (cN h3 h4) (cN h5 h6);refine lQ ?_;exact⟨(i+1,s1',s2',xs++[b],ts++[x.type],m6,T2),uH,uH,rfl,rfl,uS,⟨by omega,cN hm' hmm,(hs1'.mono h6),ho1',by simp only[bm,bo,br];omega,hs2',ho2',by simp only[bm,bo,br];omega,(fun t ht=>by
   rcases List.mem_append.1 ht with ht | ht
   ·exact htg t ht
   ·rw[List.mem_singleton.1 ht];exact hg3),hB.mono hmm (bN _),hZ⟩,by simp only;omega⟩):p:=h
theorem dV (h:p:=by
 have hlt:k<a.kids.length:=oM;have hx:a.kids[k]? = some a.kids[k]:=oT;have hmem:=bS hlt;have e1':=sizeL_next a.kids k hlt;have e2':=deepL_next a.kids k hlt;have e3':=sizeL_take a.kids (k+1);have e4':=deepL_take a.kids (k+1);have hnx:=formedL_next a.kids k hlt;refine uA ?_;refine kS ?_;rintro b' i' h' hrd hA;have hk':=(rTree_iff.1 hrd).kind;refine lb ?_;refine aD tab (fun b2=>?_);refine kR ?_;refine az (fun e8=>?_) (fun e8=>?_)
 ·refine uA ?_;exact cT rfl uS (bad3 (formedL_false hmem (by rw[ce (show a.kids[k].kind=8 by omega)];rfl)))
 refine uL ?_;refine aa (r':=d+1) uH oM ?_;refine oC goes134 ((ih _ hmem _ _ h' (rTree_iff.1 hrd) (bO (dr hmem) hB) (d+1) y (i+2) bl (hset y) oM oM).x ?_);rintro _ _ L3 ⟨rfl,rfl,y',hL,hy'⟩;have hL2:∀(x1 x2:Item),(x1::x2::L.set i (cellI bl y)).set (i+2) (cellI bl y')=x1::x2::L.set i (cellI bl y'):=fun x1 x2=>by simp[List.set_set]
 replace hL:=hL.trans (hL2 (.cells b2 0 (treeC h')) _);subst hL;refine uA ?_;refine aG (t:=!(fitsB a.kids[k] y (d+1)&&a.kids[k].formed)) (fun e9=>?_) (fun e9=>?_)
 ·rw[Bool.not_eq_true',Bool.and_eq_false_iff]at e9;refine uA ?_;rcases e9 with e9 | e9
  ·exact cT rfl uS (bad1 (fun hc=>(of_decide_eq_false e9) oM))
  ·exact cT rfl uS (bad3 (formedL_false hmem (by rw[e9];simp)))
 ·rw[Bool.not_eq_false']at e9;have hyy:=hy' e9;rw[bE]at e9;have hfit:=of_decide_eq_true e9.1;refine mc ?_;exact⟨(k+1,y'),uH,uH,rfl,rfl,uS,⟨by simp only;omega,by simp only;omega,by simp only;omega,by simp only;omega,by simp only;rw[hnx,hI,e9.2,cg (show ¬a.kids[k].kind=8 by omega)];rfl⟩,by simp only;omega⟩):p:=h
theorem dW (h:p:=by
 refine uA ?_;refine cU rfl (L':=.cells b 0 (exC 53 hB2 n.name n.num sA 0 none none)::T2) uS ⟨_,_,T2,hZ,hm,dC (x:=⟨53,tk 2,false,0,false⟩) hrB (tg_leaf _ _ _ oM) ⟨fun e=>by omega,fun e=>by cases e⟩ oN oN oN oN oN oN (fun _ _=>rfl),rfl,hB⟩):p:=h
theorem dX (h:p:=by
 have hxj:n.kids[j]? = some n.kids[j]:=pF;have hmj:=bS hlj;obtain⟨hfn,y,hfy⟩:=hfk _ hmj;have hwf:=dr hmj;generalize hfe:n.kids[j]=f at hxj hmj hfn hfy hwf;have hlfj:lf.length≤j∧lm.length≤j:=by
  rw[hlf,hlm];split<;>simp<;>omega
 have htk:(n.kids.take (j+1)).map fldOf=(n.kids.take j).map fldOf++[fldOf f]:=qh;have hr5:=hr4.mono hm2;refine uA ?_;refine aj tab rTree j hr5 uH oQ rfl hxj ?_;rintro b' i' hf9 hrdf hAf;have hrf:=rTree_iff.1 hrdf;have hr6:=hrf.kids;have hnf:=hrf.name;rw[hfy]at hr6;refine ar tab hAf ?_;refine aD tab (fun b9=>?_);refine kR ?_;refine aA tab rTree 0 hr6 uH oQ uH ?_;rintro b'' i'' hy9 hrdy hAy;refine ar tab hAy ?_;have hyw:=dr (a:=f) (t:=y) (by rw[hfy];simp);refine oC goes38 ((of_own y _ _ hy9 (rTree_iff.1 hrdy) oM).x ?_);rintro _ m3 _ ⟨hm3,rfl,hx,rfl,hhx⟩;have hfl:FldRep m3 ⟨hf9.name,hx⟩ (fldOf f):=⟨hnf,by
  have e:kid f 0=y:=qi;show TreeRep m3 hx (fldOf f).type;rw[fldOf,fld_type,e];exact hhx⟩
 refine uA ?_;refine aD tab (fun b10=>?_);refine kH ?_;refine av (k:=1) 4 ?_;refine ak (fun e3=>?_) (fun e3=>?_)
 ·have e3:h9.kind=3:=e3;refine uA ?_;refine av (k:=3) 4 ?_;refine av (k:=1) 1 ?_;refine av (k:=0) 0 ?_;refine au (hs:=[⟨hf9.name,hx⟩]) (l:=[fldOf f]) tab rField ⟨hfl,trivial⟩ uH oO (fun sA m4 hm4 hsA _ _=>?_);refine qs rfl (dc tab rField 3 ((hsm.mono hm3).mono hm4) hom hsA rfl rfl rfl rfl rfl rfl rfl (by simp only[bo,br,rField];omega) (fun s' m5 hm5 hs' ho'=>?_));refine uA ?_;refine an (k:=3) 4 ?_;refine lH ?_;exact⟨(j+1,sf,s',lf,lm++[fldOf f],m5),uH,uH,rfl,rfl,uS,⟨by omega,cN hm2 (cN hm3 (cN hm4 hm5)),hsf.mono (cN hm3 (cN hm4 hm5)),hof,hs',ho',by rw[hlf,if_pos oM,if_pos oM],by rw[hlm,if_pos oM,if_pos oM,htk]⟩,by simp only;omega⟩
 ·have e3:¬h9.kind=3:=e3;refine uA ?_;refine av (k:=2) 4 ?_;refine av (k:=1) 1 ?_;refine av (k:=0) 0 ?_;refine au (hs:=[⟨hf9.name,hx⟩]) (l:=[fldOf f]) tab rField ⟨hfl,trivial⟩ uH oO (fun sA m4 hm4 hsA _ _=>?_);refine qs rfl (dc tab rField 2 ((hsf.mono hm3).mono hm4) hof hsA rfl rfl rfl rfl rfl rfl rfl (by simp only[bo,br,rField];omega) (fun s' m5 hm5 hs' ho'=>?_));refine uA ?_;refine an (k:=2) 4 ?_;refine lH ?_;exact⟨(j+1,s',sm,lf++[fldOf f],lm,m5),uH,uH,rfl,rfl,uS,⟨by omega,cN hm2 (cN hm3 (cN hm4 hm5)),hs',ho',hsm.mono (cN hm3 (cN hm4 hm5)),hom,by rw[hlf,if_neg oM,if_neg oM,htk],by rw[hlm,if_neg oM,if_neg oM]⟩,by simp only;omega⟩):p:=h
theorem dY (h:p:=by
 have hck:=fun e=>k.check P w e kt ki.u x h4 huk;have hfk:=run_findKey (P:=P) k h4 huk x es;have hzv:=T.run_zero w hz;simp only[execOp,ho,ha.env.eval hm,ha.env.eval hk,Sem.run_bind,Instr.lookup,hu,Result.andThen_ok,run_getObj hobj rfl,mapO,Sem.run_pure,hck,hfk];by_cases hh:mhas es x=true
 ·have hg:∃ v,mget es x=some v:=by
   have hx:∃ e∈es,decide (e.1=x)=true:=by simpa[mhas,List.any_eq_true]using hh
   obtain⟨e,he,hx⟩:=hx;cases hf:es.find? (fun e=>decide (e.1=x))with
   | none=>exact absurd hx (by simpa using List.find?_eq_none.1 hf e he)
   | some u=>exact⟨u.2.1,by simp[mget,hf]⟩
  obtain⟨v,hv⟩:=hg;simp[hh,hv]
 ·have hf:mhas es x=false:=by simpa using hh
  have hv:mget es x=none:=by
   have:es.find? (fun e=>decide (e.1=x))=none:=List.find?_eq_none.2 fun e he hx=>by
    rw[mhas,List.any_eq_false]at hf;exact hf e he hx
   simp[mget,this]
  simp[hf,hv,hzv]):p:=h
theorem dZ (h:p:=by
 refine uL ?_;refine aP (fun e1=>?_) (fun e1=>?_)
 ·refine uA ?_;refine kG ?_;unfold headB;rw[←h2,cg e1,cg (show ¬a.kind=4 by omega)];rfl
 refine uL ?_;refine aR (fun e2=>?_) (fun e2=>?_)
 ·refine uA ?_;refine kG ?_;unfold headB;rw[←h3,cg e2,cg (show ¬a.kind=7 by omega)];simp
 have hhd:headB a=true:=by unfold headB;rw[←h2,←h3,ce e1,ce e2];simp
 rw[hhd,bY];refine uL ?_;refine mt ?_
 congr 1
 apply propext
 (try simp only)
 omega):p:=h
theorem d7 (h:p:=by
 simp only[bY,bX,cG,Bool.true_or,cF,bZ,bareB_eq,cH];try ac_rfl):p:=h
theorem d8 (h:p:=by
 refine aN [17] dp 18 [.cells b6 0 (treeC h9)] (tok sf 5::tok sm 5::.cells b7 0 (declC ⟨h9.name,decide (h9.kind=3),sf,sm⟩)::bufI s (encs rHD hs)::tok s 4::(toks (hs.map HDecl.methods) 5++(.cells b1 0 (treeC h)::L))) (bu _) ?_;refine de tab uC uK [0,2,6,8] uK rfl ?_;refine ae (k:=3) 1 0 ?_;refine ae (k:=3) 7 0 ?_;refine DO.index tab rTree 3 j hr5 uC uK uK rfl rfl rfl rfl rfl rfl rfl rfl rfl hxj ?_;rintro bA iA hf9 hrdf hAf;have hrf:=rTree_iff.1 hrdf;have hnf:=hrf.name;refine DO.index tab rTree 9 j hr5 uC uK uK rfl rfl rfl rfl rfl rfl rfl rfl rfl hxj ?_;rintro bB iB hg9 hrdg hAg;have hr6:=(rTree_iff.1 hrdg).kids;rw[hfy]at hr6;refine de tab uC uK [4,10] uK rfl ?_;refine ai (k:=1) 5 hAf ?_;refine ai (k:=3) 11 hAg ?_;refine DO.index tab rTree 12 0 hr6 uC uK uK rfl rfl rfl rfl rfl rfl rfl rfl rfl rfl ?_;rintro bC iC hy9 hrdy hAy;refine ai (k:=0) 13 hAy ?_;refine DO.fork 14 [16] uK ⟨⟨_,rfl,rfl,rfl,?_⟩,⟨_,rfl,rfl,rfl,?_⟩,trivial⟩
 ·skip;refine nN ?_;rintro _ m3 _ ⟨hm3,rfl,hx,rfl,hhx⟩;have hfl:FldRep m3 ⟨hf9.name,hx⟩ (fldOf f):=⟨hnf,by
   have e:kid f 0=y:=qi;show TreeRep m3 hx (fldOf f).type;rw[fldOf,fld_type,e,ofRes_t hokT];exact hhx⟩
  refine nv ?_;refine og ?_;refine ag 16 ?_;refine OT.alloc tab rfl rfl rfl rfl (fun b9=>?_);refine⟨cM _,.cells b9 0 [strV [],.int .i64 0,strV [],.int .i64 0,.slice none 0 0]::_,ct3,?_⟩;refine df ?_;refine aC 17 ?_;refine aE 1 ?_;refine aK ?_;refine cP ?_;exact⟨(b9,hx,m3,hf9.name),uH,uH,rfl,rfl,uS,hm3,hfl⟩
 ·skip;refine OT.alloc tab rfl rfl rfl rfl (fun b9=>?_);refine⟨cM _,.cells b9 0 [strV [],.int .i64 0,strV [],.int .i64 0,.slice none 0 0]::_,ct3,?_⟩;refine ag 14 ?_;refine nN ?_;rintro _ m3 _ ⟨hm3,rfl,hx,rfl,hhx⟩;have hfl:FldRep m3 ⟨hf9.name,hx⟩ (fldOf f):=⟨hnf,by
   have e:kid f 0=y:=qi;show TreeRep m3 hx (fldOf f).type;rw[fldOf,fld_type,e,ofRes_t hokT];exact hhx⟩
  refine nv ?_;refine og ?_;refine df ?_;refine aC 17 ?_;refine aE 1 ?_;refine aK ?_;refine cP ?_;exact⟨(b9,hx,m3,hf9.name),uH,uH,rfl,rfl,uS,hm3,hfl⟩):p:=h
theorem d9 (h:p:=by
 obtain rfl:=all2_eq ha2;refine cW (L':=bufI s' (encs rHD (hs++[(⟨h9.name,decide (h9.kind=3),sf,sm⟩:HDecl)]))::tok s' 4::(toks ((hs++[(⟨h9.name,decide (h9.kind=3),sf,sm⟩:HDecl)]).map HDecl.methods) 5++(.cells b1 0 (treeC h)::L))) (permEq (by rw[toks_snoc,cB];rfl)) ?_;refine lQ ?_;exact⟨(i+1,s',hs++[(⟨h9.name,decide (h9.kind=3),sf,sm⟩:HDecl)],m4),uH,uH,rfl,rfl,uS,⟨by omega,cN hm (cN hm2 hm4),ho2,hl2,hc2,by rw[take_filter_yes hlt hdf,hne];exact(hall.mono fun _ _=>rDecl.mono (cN hm2 hm4)).snoc (rDecl.mono hm4 hdr),fun x hx=>by
  rcases List.mem_append.1 hx with hx | hx
  ·exact hom0 x hx
  ·rw[List.mem_singleton.1 hx];exact hom,by simp only[bm,bo,br];omega⟩,by simp only;omega⟩):p:=h
theorem ed (h:p:=by
 have hlt':i<fl.length:=oM;have hx:fl[i]? = some fl[i]:=o6;have htk:fl.take (i+1)=fl.take i++[fl[i]]:=cz hlt';refine od ?_;rintro b' i' h9 hrd9 hA9;refine nA ?_;refine aD tab (fun b9=>?_);refine kR ?_;have hnm:h9.name=fl[i].name:=hrd9.name;refine ak (fun e9=>?_) (fun e9=>?_)
 ·have hF2:Found m4 (fl.take (i+1)) n.name (i:Int) h9.type:=by
   rw[htk];unfold Found;rw[lastF_snoc,if_pos pN];exact .inr ⟨_,rfl,by omega,by omega,hrd9.type⟩
  refine ot ?_;refine DO.fork 4 [7] uK ⟨⟨_,rfl,rfl,rfl,?_⟩,⟨_,rfl,rfl,rfl,?_⟩,trivial⟩
  ·refine OT.loadL (k:=1) tab 0 rfl rfl rfl rfl rfl rfl ?_;refine kK ?_;refine ag 7 ?_;refine aq (k:=6) 1 ?_;refine kK ?_;refine lw ?_;refine ag 10 ?_;refine aq (k:=1) 1 ?_;refine kK ?_;refine aY ?_;refine kI ?_;exact⟨(i+1,(i:Int),h9.type),uH,uH,rfl,rfl,uS,⟨by omega,hF2⟩,by simp only;omega⟩
  ·refine aq (k:=6) 1 ?_;refine oJ ?_;refine aq (k:=1) 1 ?_;refine kK ?_;refine aY ?_;refine kI ?_;exact⟨(i+1,(i:Int),h9.type),uH,uH,rfl,rfl,uS,⟨by omega,hF2⟩,by simp only;omega⟩
 ·refine uA ?_;refine kI ?_;exact⟨(i+1,nu,hty),uH,uH,rfl,rfl,uS,⟨by omega,by rw[htk];unfold Found;rw[lastF_snoc,if_neg pN];exact hF⟩,by simp only;omega⟩):p:=h
theorem ee (h:p:=by
 rw[hmf]at hZ;have hht':TreeRep m2 ht f.type:=by rw[memT,hmf]at hht;exact hht
 have hft:tg f.type=true:=by
  have hmem:f∈methodsD E.tbl k.type:=List.mem_of_find?_eq_some hmf;rw[methodsD_kind]at hmem;split at hmem
  ·exact((hC.tbl.good _).2 f hmem).1
  ·cases hmem
 replace hZ:Z=(Ck.want (!isStructD E.tbl k.type||k.place)).map fun _=>(k,some f.type):=hZ;refine uA ?_;refine aM [] dp 12 ?_;refine kO ?_;refine ai 10 hA2 ?_;refine ag 11 (da rfl rfl rfl rfl rfl rfl goes89 ((tstruct_law k.type E.bt E.cc E.es E.tbl _ _ g2 hr5 hC.tbl.tb hC.tbl.tr).x ?_));rintro _ _ _ ⟨rfl,rfl,rfl⟩;refine⟨cM _,_,bu _,?_⟩;refine aH ?_
 rotate_left 1
 refine uA ?_;refine aG (t:=isStructD E.tbl k.type) (fun e6=>?_) (fun e6=>?_)
 ·rw[e6]at hZ;refine uA ?_;refine ap goes158 (cplace_law _ F.c _ _ bk k hX) ?_;refine qs rfl (dE (b:=k.place) (L0:=L) oX hm (dy [_,_,_] hB.hs) (hZ.trans (mapB _ _)) rfl rfl rfl rfl rfl rfl (fun e7 hZ=>?_));refine uA ?_;refine qs rfl (OT.ck (L0:=L) [_,_,_] q (take_ck hX (.inl e7)) hB oX hm (dx _) (g:=fun _=>Z) rfl (bN _) rfl rfl rfl rfl rfl rfl goes218 (fun v m3 _ T2 _ hm3 hm' hV hB=>?_));refine nW ?_;refine cretQ_ret_c3 tab 0 rfl rfl rfl rfl rfl rfl (L':=T2) uS ⟨(k,some f.type),hZ,hm',⟨bk,ht,(hX.mono hm3),rfl,(hht'.mono hm3),fun t e=>by injection e with e;rw[←e];exact hft⟩,hB⟩
 ·rw[e6]at hZ;replace hZ:Z=some (k,some f.type):=hZ;refine nW ?_;refine cretQ_ret_c3 tab 0 rfl rfl rfl rfl rfl rfl (L':=T1) uS ⟨(k,some f.type),hZ,hm,⟨bk,ht,hX,rfl,hht',fun t e=>by injection e with e;rw[←e];exact hft⟩,hB⟩):p:=h
theorem ef (h:p:=by
 refine ag 4 ?_;refine da rfl rfl rfl rfl rfl rfl goes104 ((contains_str m2 _ w wordL _ hw).x ?_);refine lA ?_;refine kK ?_;refine aH ?_;refine cP ?_;refine(fun(hm12:m≤m2)=>?_) (cN hm1 hm2);refine uA ?_;refine ak (fun k1=>?_) (fun k1=>?_)
 ·refine uA ?_;refine ak (fun k2=>?_) (fun k2=>?_)
  ·skip;refine nS ?_;refine⟨⟨0,[],0,0⟩,0,rfl,.inr ⟨?_,rfl⟩⟩;rw[tokD,if_pos c1,if_pos oM]
  ·refine uA ?_;refine lW ?_;refine nS ?_;refine⟨⟨5,(c::r).take (spanOf lod (c::r)),0,0⟩,spanOf lod (c::r),rfl,.inl ?_⟩;rw[cL]at k1;rw[tokD,if_pos c1,if_neg oM,if_pos k1]
 ·refine uA ?_;refine ak (fun k2=>?_) (fun k2=>?_)
  ·skip;refine nS ?_;refine⟨⟨0,[],0,0⟩,0,rfl,.inr ⟨?_,rfl⟩⟩;rw[tokD,if_pos c1,if_pos oM]
  ·refine uA ?_;refine lW ?_;refine nS ?_;refine⟨⟨1,(c::r).take (spanOf lod (c::r)),0,0⟩,spanOf lod (c::r),rfl,.inl ?_⟩;rw[cL]at k1;rw[tokD,if_pos c1,if_neg oM,if_neg k1]):p:=h
theorem eg (h:p:=by
 obtain⟨b9,hx,m3,nm9⟩:=z;obtain⟨hm3,hfl⟩:=hz;simp only at hm3 hfl;refine uL ?_;refine ak (fun e3=>?_) (fun e3=>?_)
 ·have e3:h9.kind=3:=e3;refine uL ?_;refine au (hs:=[⟨nm9,hx⟩]) (l:=[fldOf f]) tab rField ⟨hfl,trivial⟩ uH oO (fun sA m4 hm4 hsA _ _=>?_);refine qs rfl (dc tab rField 3 ((hsm.mono hm3).mono hm4) hom hsA rfl rfl rfl rfl rfl rfl rfl (by simp only[bm,bo,br,rField];omega) (fun s' m5 hm5 hs' ho'=>?_));refine uA ?_;refine an (k:=3) 4 ?_;refine lH ?_;exact⟨(j+1,sf,s',lf,lm++[fldOf f],m5),uH,uH,rfl,rfl,uS,⟨by omega,cN hm2 (cN hm3 (cN hm4 hm5)),hsf.mono (cN hm3 (cN hm4 hm5)),hof,hs',ho',by rw[hlf,if_pos oM,if_pos oM],by rw[hlm,if_pos oM,if_pos oM,htk]⟩,by simp only;omega⟩
 ·have e3:¬h9.kind=3:=e3;refine uL ?_;refine au (hs:=[⟨nm9,hx⟩]) (l:=[fldOf f]) tab rField ⟨hfl,trivial⟩ uH oO (fun sA m4 hm4 hsA _ _=>?_);refine qs rfl (dc tab rField 2 ((hsf.mono hm3).mono hm4) hof hsA rfl rfl rfl rfl rfl rfl rfl (by simp only[bm,bo,br,rField];omega) (fun s' m5 hm5 hs' ho'=>?_));refine uA ?_;refine an (k:=2) 4 ?_;refine lH ?_;exact⟨(j+1,s',sm,lf++[fldOf f],lm,m5),uH,uH,rfl,rfl,uS,⟨by omega,cN hm2 (cN hm3 (cN hm4 hm5)),hs',ho',hsm.mono (cN hm3 (cN hm4 hm5)),hom,by rw[hlf,if_neg oM,if_neg oM,htk],by rw[hlm,if_neg oM,if_neg oM]⟩,by simp only;omega⟩):p:=h
theorem eh (h:p:=by
 have hsB':=hsB sm hsm.symm;clear hsm hsB;subst hv;subst hL;refine uA ?_;refine aF (b:=!sm) (fun h1=>?_) (fun h1=>?_)
 ·rw[Bool.not_eq_true']at h1;have hbad:=hsB'.2 h1;refine kQ ?_;refine aI 1 ⟨cM _,rfl,⟨0,[],0,⟨none,0,0⟩⟩,?_⟩;rw[ofRes,hbad];exact⟨rfl,TreeRep.leaf _ _ _ _⟩
 rw[Bool.not_eq_false']at h1;refine uL ?_;refine ap goes71 (type_law a _ _ h hr hB) ?_;refine aF (b:=!a.isType) (fun h2=>?_) (fun h2=>?_)
 ·rw[Bool.not_eq_true']at h2;refine uL ?_;refine ap goes73 (sig_law a _ _ h hr hB) ?_;refine aG (t:=!a.isSig) (fun h3=>?_) (fun h3=>?_)
  ·rw[Bool.not_eq_true']at h3;have hbad:=hno h2 h3;refine kQ ?_;refine aI 1 ⟨cM _,rfl,⟨0,[],0,⟨none,0,0⟩⟩,?_⟩;rw[ofRes,hbad];exact⟨rfl,TreeRep.leaf _ _ _ _⟩
  ·rw[Bool.not_eq_false']at h3;have hok:=hsB'.1 h1 (.inr h3);refine oG ?_;rintro _ m1 _ ⟨hm1,rfl,h',rfl,hr'⟩;refine kQ ?_;refine aI 1 ⟨hm1,rfl,h',?_⟩;rw[ofRes,hok];exact⟨rfl,hr'⟩
 ·rw[Bool.not_eq_false']at h2;have hok:=hsB'.1 h1 (.inl h2);refine oG ?_;rintro _ m1 _ ⟨hm1,rfl,h',rfl,hr'⟩;refine kQ ?_;refine aI 1 ⟨hm1,rfl,h',?_⟩;rw[ofRes,hok];exact⟨rfl,hr'⟩):p:=h
theorem ej (h:p:=by
 refine kZ ?_;rfl):p:=h
theorem ek (h:p:=by
 have hi':i=fl.length:=oM;subst hi';rw[List.take_length]at hF;refine kW ?_;rcases hF with ⟨f1,f2,f3⟩ | ⟨t,f1,f2,f3,f4⟩
 ·refine qs rfl (dE (b:=decide (0≤nu)) (L0:=L) (g:=fun _=>Z) oX hm (dy [_,_,_] hB.hs) (hZ.trans (by rw[f1,cg (show ¬0≤nu by omega)];rfl)) rfl rfl rfl rfl rfl rfl (fun e hZ=>by have:=of_decide_eq_true e;omega))
 ·rw[f1]at hZ;refine qs rfl (dE (b:=decide (0≤nu)) (L0:=L) (g:=fun _=>Z) oX hm (dy [_,_,_] hB.hs) (by rw[ce (show 0≤nu by omega)];rfl) rfl rfl rfl rfl rfl rfl (fun e _=>?_));have htg:tg t=true:=by
   obtain⟨f,hf,rfl⟩:=lastF_mem f1;exact fields_tg hC.tbl k.type f (by rw[hfl];exact hf)
  have hxc:=exC_sel (vs:=inV sc) (m:=m4) (b:=b10) (x:=⟨48,t,false,0,decide (k.type.kind=5)||k.place⟩) (txt:=n.name) (num:=nu) (how:=0) (var:=none) (fn:=none) f4 htg ⟨fun e=>by omega,fun e=>by cases e⟩ oN oN rfl hsA hX rfl;refine dg fun m5 hm5 hA5=>?_;refine kQ ?_;refine cretQ_ret_c3 tab 0 rfl rfl rfl rfl rfl rfl (L':=T1) uS ⟨(⟨48,t,false,0,decide (k.type.kind=5)||k.place⟩,none),hZ,cN hm hm5,⟨b10,zH,hxc m5 hm5 hA5,rfl,dw _ _ _ _,fun t e=>by cases e⟩,hB.mono hm5 (bN _)⟩):p:=h
theorem en (h:p:=by
 refine uL ?_;refine aM [] dp 11 ?_;refine de tab uC uK [1,2,3,4,5,6] uK rfl ?_;refine ag 0 ?_;refine dn tab rInt (hs:=[2]) (l:=[2]) ⟨rfl,trivial⟩ rfl rfl rfl rfl rfl oO (fun s1 m1 hm1 hs1 _ _=>?_);refine⟨hm1,_,bu _,?_⟩;refine de tab uC uK [7,8,9,10] uK rfl ?_;refine aH ?_
 rotate_left 1
 refine uA ?_;refine af ⟨hm1,rfl,s1,?_,hs1⟩;rw[show recvB a=false by rw[recvB_eq];simp[*]];rfl):p:=h
theorem eo (h:p:=by
 refine uA ?_;exact cT rfl uS ⟨hm1,rfl,s1,rfl,hs1⟩):p:=h
theorem ep (h:p:=by
 rw[cg es]at hZ;refine uA ?_;refine qs rfl (dE (b:=false) (L0:=L) o7 hm (dy [_,_] hB.hs) (hZ.trans (mapB _ _)) rfl rfl rfl rfl rfl rfl (fun e hZ=>?_));cases e):p:=h
theorem er (h:p:=by
 refine kG ?_;rfl):p:=h
theorem et (h:p:=by
 refine ag 9 ?_;refine aW (hs:=[⟨8,recv,0,s1⟩,x,y]) (l:=[.mk 8 recv 0 [.mk 11 [] 0 [Ps.leaf 10 of]],a,b]) tab rTree ⟨rTree_iff.2 ⟨rfl,rfl,rfl,hz3⟩,rTree_iff.2 hz1,rTree_iff.2 hz2,trivial⟩ uH oO (fun s9 m9 hle9 hs9 ho9 hc9=>?_);refine⟨hle9,_,bu _,?_⟩;refine nD ?_;refine df ?_;refine aC 11 ?_;refine aE 1 ?_;refine DOt.nil uK ?_;refine uA ?_;refine ay (L':=E.I k3 h::L) 1 ⟨_,k3,[],hT,cN hm hle9,hk,⟨⟨5,nm,0,s9⟩,rfl,rfl,⟨rfl,rfl,rfl,hs9⟩⟩,rfl⟩):p:=h
theorem eu (h:p:=by
 refine mO ?_;refine kH ?_;refine cU rfl (L':=.cells b 0 (exC 53 g5 n.name n.num sA 0 none none)::T2) uS ⟨_,_,T2,hZ,hm,dC (x:=⟨53,k.type,false,0,false⟩) hr5 hg5 ⟨fun e=>by omega,fun e=>by cases e⟩ oN oN oN oN oN oN (fun _ _=>rfl),rfl,hB⟩):p:=h
theorem ey (h:p:=by
 have hlt:k<a.kids.length:=oM;have hx:a.kids[k]? = some a.kids[k]:=oT;have hmem:=bS hlt;refine uA ?_;refine kS ?_;rintro b' i' h' hrd hA
 (first | refine qs rfl (OT.loadA tab hA rfl rfl rfl rfl rfl ?_) | refine oL tab hA ?_)
 refine uA ?_;refine aD tab (fun b8=>?_);refine kR ?_;refine ap goes88 (ih _ hmem _ _ h' (rTree_iff.1 hrd) ho) ?_;refine aG (t:=!tknown (mhas es) a.kids[k]) (fun e9=>?_) (fun e9=>?_)
 ·rw[Bool.not_eq_true']at e9;refine kZ ?_;have:a.kids.all (tknown (mhas es))=false:=List.all_eq_false.2 ⟨_,hmem,by rw[e9];simp⟩;rw[tknownL_eq,this];simp
 ·rw[Bool.not_eq_false']at e9;refine mc ?_;exact⟨k+1,uH,uH,rfl,rfl,uS,⟨by omega,by rw[cz hlt,List.all_append,hI,cA,e9];rfl⟩,by omega⟩):p:=h
theorem ez (h:p:=by
 refine kK ?_;refine aY ?_;refine kI ?_;exact⟨(i+1,(i:Int),h9.type),uH,uH,rfl,rfl,uS,⟨by omega,hF2⟩,by simp only;omega⟩):p:=h
theorem eA (h:p:=by
 refine mh ?_;rw[h7];rfl):p:=h
theorem eB (h:p:=by
 refine nW ?_;refine ay 2 ⟨hm1,rfl,⟨_,[],u,t⟩,rfl,rfl,rfl,h3,?_⟩;rw[cu oM]at ht;exact ht):p:=h
theorem eC (h:p:=by
 refine ak (fun h5=>?_) (fun h5=>?_)
 ·omega
 refine uA ?_;refine ak (fun h5=>?_) (fun h5=>?_)
 ·omega
 refine uA ?_;refine ak (fun h5=>?_) (fun h5=>?_)
 ·omega
 refine uA ?_;refine ak (fun h5=>?_) (fun h5=>?_)
 ·omega
 refine uA ?_;exact cT rfl uS ⟨cM _,rfl,⟨none,0,0⟩,rfl,db _ _⟩):p:=h
theorem eD (h:p:=by
 refine ag 4 ?_;refine dn tab rTree (hs:=[x4]) (l:=[a4]) ⟨rTree_iff.2 hr4,trivial⟩ rfl rfl rfl rfl rfl oO (fun sB mB hleB hsB hoB hcB=>?_);refine⟨hleB,_,bu _,?_⟩;refine ag 5 ?_;refine dc tab rTree 2 (hs3.mono (cN hleA hleB)) ho3 hsB rfl rfl rfl rfl rfl rfl rfl (by simp only[bm,bo,br,rTree,mkR];omega) (fun s4 mC hleC hs4 ho4=>?_);refine⟨hleC,E.I k4 0::tok s4 4::.cells b2 0 [.int .i64 0,strV [],.int .i64 0,.slice none 0 0]::L,bu _,?_⟩;refine lk ?_;refine cY (k:=3) tab 0 rfl rfl rfl rfl rfl rfl rfl rfl ?_;refine DOt.perm (bw _ _ _) ?_;refine aK ?_
 rotate_left 1
 replace hm:=cN hm (cN hleB hleC);replace hE:=hE.mono (cN hleB hleC);refine nV ?_;refine ay (L':=E.I k4 0::L) 3 ⟨_,k4,[],hT,hm,hk,⟨⟨25,[],0,s4⟩,rfl,rfl,⟨rfl,rfl,rfl,hs4⟩⟩,rfl⟩):p:=h
theorem eE (h:p:=by
 obtain⟨sB,xs,rfl,hsB,hxs⟩:=hV;simp only[bo,br]at hxs;refine⟨hm5,tok sk 1::T4,bu _,?_⟩;refine ag 11 ?_;refine dc tab rPtr 4 ((hsk.mono (cN hm4 hm4b)).mono hm5) hok hsB rfl rfl rfl rfl rfl rfl rfl qj (fun s' m6 hm6 hs' ho'=>?_);refine⟨hm6,tok s' 1::T4,bu _,?_⟩;refine de tab uC uK [12,13] uK rfl ?_;refine df ?_;refine aC 14 ?_;refine aq (k:=7) 2 ?_;refine aK ?_;have hmm:m3≤m6:=cN (cN (cN hm4 hm4b) hm5) hm6;refine ni ?_;refine aO (L':=tok s' 1::.cells b11 0 (treeC ht)::.cells bx 0 (exC 46 zH hn hu s' 0 none none)::.cells b3 0 (treeC ⟨46,hn,hu,hks⟩)::.cells b13 0 (treeC h9)::T4) plC ?_;refine kI ?_;exact⟨(i+1,s',l++xs,m6,T4),uH,uH,rfl,rfl,uS,⟨by omega,cN hm3 hmm,hs',ho',by simp only[bm];omega,hB.mono hm6 (bN _),hZ⟩,by simp only;omega⟩):p:=h
theorem eF (h:p:=by
 refine uA ?_;refine aG (fun h=>?_) (fun h=>?_)
 ·refine uA ?_;refine kG ?_;rw[hI,ci hlt,idxP,if_pos h]
 ·refine uA ?_;refine kJ ?_;exact⟨k+1,uH,uH,rfl,rfl,uS,⟨by omega,by rw[hI,ci hlt,idxP,if_neg (by simp[h])]⟩,by omega⟩):p:=h
theorem eG (h:p:=by
 rintro b2 i2 h2 hrd2 hA2;refine ar tab hA2 ?_;refine qs rfl (OT.ckSx (L0:=L) [_,_] q (hst F s r (w+1) _ h2 (rTree_iff.1 hrd2) hC oM) hB oP hm (dx _) (g:=fun _=>some (plain (s::r))) (hZ.trans (mapB _ _)) (bN _) rfl rfl rfl rfl rfl rfl goes120 (fun v m4 vs' T4 hX hZ hm4 hm' hsc hV hB=>?_));obtain⟨bs,rfl⟩:=hV;have hpl:=hkp _ _ _ _ hX;refine uA ?_;refine au (hs:=[bs]) (l:=[bs]) tab rPtr ⟨rfl,trivial⟩ uH oO (fun sB m5 hm5 hsB _ _=>?_);refine uA ?_;refine qs rfl (cY (k:=5) tab 0 rfl rfl rfl rfl rfl rfl rfl rfl ?_);obtain⟨T5,hT5,hT5b⟩:=hB.head;refine aS (bqH hT5) ?_;refine aQ (k:=1) 2 ?_;refine aL (r':=((w:Nat):Int)) uH oM oM ?_;refine an (k:=1) 2 ?_;exact cT rfl uS ⟨_,hZ,cN hm' hm5,vs',hpl.symm,hsc.mono hm5,⟨b5,rfl⟩,hT5b w q m5 hm5 (bN _)⟩):p:=h
theorem eH (h:p:=by
 refine ag 4 ?_;refine dn tab rTree (hs:=[x]) (l:=[a]) ⟨rTree_iff.2 hr,trivial⟩ rfl rfl rfl rfl rfl oO (fun sB mB hleB hsB hoB hcB=>?_);refine⟨hleB,_,bu _,?_⟩;refine ag 5 ?_;refine dc tab rTree 2 (hs.mono (cN hleA hleB)) ho hsB rfl rfl rfl rfl rfl rfl rfl oZ (fun s3 mC hleC hs3 ho3=>?_);refine⟨hleC,E.I k2 0::tok s3 4::.cells b2 0 [.int .i64 0,strV [],.int .i64 0,.slice none 0 0]::L,bu _,?_⟩;refine lk ?_;refine cY (k:=3) tab 0 rfl rfl rfl rfl rfl rfl rfl rfl ?_;refine DOt.perm (bw _ _ _) ?_;refine aK ?_
 rotate_left 1
 replace hm:=cN hm (cN hleB hleC);replace hE:=hE.mono (cN hleB hleC);refine uA ?_;exact⟨(s3,mC,acc++[a],k2,j),uH,uH,rfl,rfl,uS,⟨hm,hE,hk,hs3,ho3,by simp only[bm,bo,br];omega,hT⟩,by simp only;omega⟩):p:=h
theorem eI (h:p:=by
 refine de tab uC uK [14,15] uK rfl ?_;refine ag 16 ?_;refine aq (k:=7) 4 ?_;refine kK ?_;refine ag 17 ?_;refine OT.tokFo hcA hoA 1 ?_;refine aq (k:=0) 3 ?_;refine⟨cM _,_,pfD,?_⟩;refine aY ?_;exact⟨(fh.name,sA,6,none,ht9,(t,6),m3,T2,[bk]),uH,uH,rfl,rfl,uS,⟨cN hm2 hm3,hsA,hoA,bN _,hht9.mono hm3,htg,(show(6:Int)≠3 by decide),(show(6:Int)≠4 by decide),by simp,by simp,hB.mono hm3 (bN _),hZ⟩⟩):p:=h
theorem eJ (h:p:=by
 exact cT rfl uS ⟨cM _,rfl,⟨none,0,0⟩,rfl,db _ _⟩):p:=h
theorem eK (h:p:=by
 refine kQ ?_;refine kH ?_;refine cU rfl (L':=.cells b 0 (exC 51 ⟨7,[],0,nilS⟩ txt (-1) sA how none none)::T1) uS ⟨_,_,T1,hZ,hm,dC (x:=⟨51,tk 7,true,1,false⟩) (dw _ _ _ _) (tg_mk _ _ _ _ (fun e=>by omega) (fun _=>⟨by decide,by decide⟩) (fun x hx=>by cases hx)) oN oY oY oN oN oN oN (fun _ _=>rfl),rfl,hB⟩):p:=h
theorem eM (h:p:=by
 simp only[Sl.v]at hold hnew';have hb0:ei.bytes≠0:=oM;have hmax:¬(9223372036854775807<(s.len:Int)+(s2.len:Int)):=oM;simp[Builtin.append_,run_underlying hu,run_underlying hu2,sizeOf,typeInfo,zeroValue,q1,q3,q4,q5,Builtin.lenOf,hroom,hold,hnew',h48,hmax,Question.forced,newRow,←hnc,IntKind.max,IntKind.signed,IntKind.bits,hb0]
 congr 2
 apply Array.ext';simp):p:=h
theorem eN (h:p:=by
 refine kU ?_;rw[h7];rfl):p:=h
theorem eO (h:p:=by
 have hlt:k<a.kids.length:=oM;have hx:a.kids[k]? = some a.kids[k]:=oT;have hmem:=bS hlt;refine uL ?_;refine kS ?_;rintro b' i' h' hrd hA;refine lb ?_;refine ap goes50 (ih _ hmem _ _ s l hs h' (rTree_iff.1 hrd)) ?_;refine aG (t:=!allB (hasD l) a.kids[k]) (fun e9=>?_) (fun e9=>?_)
 ·rw[Bool.not_eq_true']at e9;refine kZ ?_;have:a.kids.all (allB (hasD l))=false:=List.all_eq_false.2 ⟨_,hmem,by rw[e9];simp⟩;rw[this];simp
 ·rw[Bool.not_eq_false']at e9;refine mc ?_;exact⟨k+1,uH,uH,rfl,rfl,uS,⟨by omega,by rw[cz hlt,List.all_append,hI,cA,e9];rfl⟩,by omega⟩):p:=h
theorem eP (h:p:=by
 have hm':=hm;refine dm 0 rfl fun m2 hm2 hA=>?_;refine uA ?_;refine af (L':=T1) ⟨a,hZ,cN hm' hm2,⟨bx,rfl,hX m2 hm2 hA⟩,hB.mono hm2 (bN _)⟩):p:=h
theorem eQ (h:p:=by
 intro r hrr;subst hrr;unfold okT okType okSig;rw[withinB_eq,withinB_eq];refine⟨fun hd ht=>?_,fun hd=>?_⟩
 ·have hd:=of_decide_eq_true hd;rcases ht with ht | ht
  ·have:=type_not7 ht;rw[ht,ce (show(a.size:Int)+3≤20000 by omega),ce (show(a.deep:Int)+3≤100 by omega)];rfl
  ·have:=(isSig_facts ht).1;rw[ht,ce (show(a.size:Int)+3≤20000 by omega),ce (show(a.deep:Int)+2≤100 by omega)];simp
 ·have hd:=of_decide_eq_false hd;rw[Bool.or_eq_false_iff];refine⟨Bool.eq_false_iff.2 fun hc=>?_,Bool.eq_false_iff.2 fun hc=>?_⟩
  ·simp only[bE,bI]at hc;have:=type_not7 hc.2;omega
  ·simp only[bE,bI]at hc;have:=(isSig_facts hc.2).1;omega):p:=h
theorem eR (h:p:=by
 refine ag 4 ?_;refine OT.tokFo hc ho 4 (dc tab rTree 0 hsB ho hrB rfl rfl rfl rfl rfl rfl rfl oZ (fun s3 mC hleC hs3 ho3=>?_));refine⟨hleC,tok s3 4::E.I k2 0::it::L,dk (l:=[_,_]),?_⟩;refine oH ?_;refine aE 1 ?_;refine DOt.perm (L':=E.I k2 0::.cells b2 0 [.int .i64 51,strV [],.int .i64 0,s3.v]::tok s3 4::it::.cells b3 0 (treeC x)::L) ((bz pfr3 (bD _ (bz pfr1 (bD _ (bz pfr1 (bD _ pfr1))))))) ?_;refine DOt.nil uK ?_;refine uA ?_;refine ay (L':=E.I k2 0::it::.cells b3 0 (treeC x)::L) 1 ⟨_,k2,[],hT,cN hm hleC,hk,⟨⟨51,[],0,s3⟩,rfl,rfl,⟨rfl,rfl,rfl,hs3⟩⟩,rfl⟩):p:=h
theorem eS (h:p:=by
 replace hA2:=hA2.mono hm3;replace hr5:=hr5.mono hm3;refine mi ?_;refine oC goes60 ((pointer_law k.type _ _ g2 hr5).x ?_);rintro _ m4 _ ⟨hm4,rfl,g6,rfl,hr6⟩;refine kQ ?_;refine cU rfl (L':=.cells b 0 (exC 52 g6 n.name n.num sA 0 none none)::T2) uS ⟨_,_,T2,hZ,cN hm' hm4,dC (x:=⟨52,.mk 5 [] 0 [k.type],false,0,false⟩) hr6 (tg_mk _ _ _ _ (fun _=>rfl) (fun e=>by cases e) (fun x hx=>by rw[List.mem_singleton.1 hx];exact hg2)) ⟨fun e=>by omega,fun e=>by cases e⟩ oN oN oN oN oN (fun _=>by rw[hpl]) (fun _ _=>rfl),rfl,hB.mono hm4 (bN _)⟩):p:=h
theorem eT (h:p:=by
 refine mX ?_;exact .inr ⟨hI.trans (pU_big hlt hd oM),_,1,.inl ⟨rfl,rfl⟩,rfl⟩):p:=h
theorem eU (h:p:=by
 have e1:Item.room w.heap.size (0+(xs++news).length) (Builtin.zeroCells ei.zero.cells (nc-(s.len+s2.len))).toList.length=tok ⟨some ⟨w.heap.size,0,none⟩,s.len+s2.len,nc⟩ ei.size:=by
  simp only[tok,hxl,Array.length_toList,size_zeroCells,hzs]
 rw[←e1];have hsub:(Item.room w.heap.size (0+(xs++news).length) (Builtin.zeroCells ei.zero.cells (nc-(s.len+s2.len))).toList.length::L.eraseIdx i).Sublist (Item.room w.heap.size (0+(xs++news).length) (Builtin.zeroCells ei.zero.cells (nc-(s.len+s2.len))).toList.length::L) :=
  cm _ (List.eraseIdx_sublist L i)
 exact St.back hi (g4.sub hsub)):p:=h
theorem eV (h:p:=by
 refine kI ?_;exact⟨(i+1,s',l++xs,m6,T4),uH,uH,rfl,rfl,uS,⟨by omega,cN hm3 hmm,hs',ho',by simp only[bm];omega,hB.mono hm6 (bN _),hZ⟩,by simp only;omega⟩):p:=h
theorem eW (h:p:=by
 skip;refine uA ?_;refine oR goes101 (span_law _ _ (c::r) oM dgt 103 [] ⟨goes103,fun b=>digit_law _ _ b⟩) ?_;refine uA ?_;refine aR (fun c4=>?_) (fun c4=>?_)
 ·skip;refine kQ ?_;refine aI (L':=L) 0 ⟨(cN hm1 hm2),rfl,?_⟩;refine⟨⟨0,[],0,0⟩,0,rfl,.inr ⟨?_,rfl⟩⟩;rw[tokD,if_neg c1',if_pos c2,e1];simp only;rw[if_pos (.inr oM)]
 ·refine uA ?_;refine kH ?_;refine aI (L':=L) 0 ⟨cN hm1 hm2,rfl,?_⟩;refine⟨⟨2,[],v,0⟩,spanOf lod (c::r),rfl,.inl ?_⟩;rw[tokD,if_neg c1',if_pos c2,e1];simp only;rw[if_neg oM]):p:=h
theorem eX (h:p:=by
 rw[←h1,←h2,←hhas,←hif];refine uA ?_;refine aw (fun b=>?_);refine qs rfl (OT.lookupOkP tab kStr h.name rfl rfl rfl rfl rfl rfl rfl ho ?_);refine TO.conv ?_ (congrArg (fun z=>Value.tuple ⟨[z,.bool (mhas es h.name)]⟩) hhd);refine uA ?_;refine aD tab (fun b5=>?_);refine kR ?_;refine az (fun e1=>?_) (fun e1=>?_)
 ·refine uA ?_;refine aF (b:=mhas es h.name) (fun e2=>?_) (fun e2=>?_)
  ·refine uL ?_;refine kG ?_;rw[ce e1,e2];rfl
  ·refine uA ?_;refine kG ?_;rw[ce e1,e2];rfl
 ·refine uA ?_;refine kG ?_;rw[cg e1];rfl):p:=h
theorem eY (h:p:=by
 refine nY ?_;refine oC goes130 ((writeByte_law _ _ bd q sl acc s[i+1] hB oM).x ?_);rintro _ m2 _ ⟨hm2,sl2,q2,rfl,hB2⟩;refine nj ?_;exact⟨⟨m2,q2,sl2,(i+1)+1,acc++[s[i+1]]⟩,uH,uH,rfl,rfl,uS,⟨cN hm hm2,by show _≤(i+1)+1;omega,by show(i+1)+1≤_;omega,hB2,by show(acc++[_]).length≤(i+1)+1;rw[bm];simp only[bo,br];omega,(hI.esc hi1 hlt oM he)⟩,by show s.length-((i+1)+1)<s.length-i;omega⟩):p:=h
theorem eZ (h:p:=by
 refine uA ?_;refine aL (r':=((1+sizeL (a.kids.take (k+1)):Nat):Int)) uH (by rw[e1];omega) oM ?_;refine ak (fun h6=>?_) (fun h6=>?_)
 ·refine uA ?_;refine kJ ?_;have e4:deepL (a.kids.take (k+1))=a.kids[k].deep:=oM;exact⟨k+1,by simp only[e4];exact uH,uH,rfl,rfl,uS,by omega,by omega⟩
 ·refine uA ?_;refine kJ ?_;have e4:deepL (a.kids.take (k+1))=deepL (a.kids.take k):=oM;exact⟨k+1,by simp only[e4];exact uH,uH,rfl,rfl,uS,by omega,by omega⟩):p:=h
theorem fa (h:p:=by
 refine⟨hm4,tok s' 1::T2,pfB,?_⟩;refine de tab uC uK [13,14] uK rfl ?_;refine df ?_;refine aC 15 ?_;refine aq (k:=7) 0 ?_;refine aK ?_;have hA6:=hA5.mono (cN (cN hm2 hm3) hm4);have hr6:=hr5.mono (cN (cN hm2 hm3) hm4);refine uA ?_;refine ah hA6 ?_;refine kH ?_;refine cT rfl (L':=.cells b 0 (exC 51 g5 txt num s' how none none)::T2) uS ⟨_,_,T2,hZ,cN hm' hm4,dC (x:=⟨51,k.type,false,4,false⟩) hr6 hg5 ⟨fun e=>by omega,fun e=>by cases e⟩ oY oY oN oN oN oN (fun _ _=>rfl),rfl,hB.mono hm4 (bN _)⟩):p:=h
theorem fc (h:p:=by
 unfold declOf;by_cases e3:n.kind=3
 ·rw[if_pos e3]at hlf hlm ⊢;exact⟨hn9,ce oM,hlf▸hsf,hlm▸hsm⟩
 ·rw[if_neg e3]at hlf hlm ⊢;exact⟨hn9,cg oM,hlf▸hsf,hlm▸hsm⟩):p:=h
theorem fe (h:p:=by
 have hm36:m2≤m7:=cN hm3 (cN (cN h4 h5) (cN h6 h7));refine lV ?_;refine kI ?_;exact⟨(i+1,s1',s2',xs++[b],ts++[x.type],m7,T4),uH,uH,rfl,rfl,uS,⟨by omega,cN hm2 hm36,(hs1'.mono h7),ho1',by simp only[bm,bo,br];omega,hs2',ho2',by simp only[bm,bo,br];omega,hB.mono (cN (cN h4 h5) (cN h6 h7)) (bN _),hZ⟩,by simp only;omega⟩):p:=h
theorem fg (h:p:=by
 refine uL ?_;refine qs rfl (OT.ckS (L0:=L) [_,_,_] q (declare_ck hC hn hht htg) (hB.mono (cM _) (show q≤_ by omega)) oP hm (dx _) (g:=some) (hZ.trans (bindS _)) (bN _) rfl rfl rfl rfl rfl rfl goes155 (fun v m2 vs' T2 hZ hm2 hm' hsc hV hB=>?_));obtain⟨bv,rfl⟩:=hV;refine uA ?_;refine au (hs:=[bv]) (l:=[bv]) tab rPtr ⟨rfl,trivial⟩ uH oO (fun sA m3 hm3 hsA _ _=>?_);refine uA ?_;refine an (k:=1) 1 ?_;exact cT rfl (L':=T2) uS ⟨_,hZ,cN hm' hm3,vs',rfl,hsc.mono hm3,⟨b5,rfl⟩,hB.mono hm3 (bN _)⟩):p:=h
theorem fi (h:p:=by
 refine ak (fun h5=>?_) (fun h5=>?_)
 ·omega
 refine uA ?_;refine ak (fun h5=>?_) (fun h5=>?_)
 ·omega
 refine uA ?_;refine ak (fun h5=>?_) (fun h5=>?_)
 ·omega
 refine uA ?_;refine ak (fun h5=>?_) (fun h5=>?_)
 ·omega
 refine uA ?_;exact cT rfl uS ⟨cM _,rfl,rfl⟩):p:=h
theorem fj (h:p:=by
 simp only[execOp,ho,ha.env.eval hx,ha.env.eval hy,Sem.run_bind,e2,Result.andThen_ok,e1,h,Sem.run_pure];rfl):p:=h
theorem fk (h:p:=by
 refine ly ?_;rw[h7];rfl):p:=h
theorem fp (h:p:=by
 simp only[execOp,ho,resolve,invoke,builtin,Sem.run_bind,Sem.run_pure,Result.andThen_ok,List.map_toArray,bP,bQ,ha.env.eval hx,ha.env.eval hy];simp only[hr,Result.andThen_ok]):p:=h
theorem fq (h:p:=by
 intro i v hv;have:=(look_argEnv vs 0 i v hv).2;have hi:i<vs.length:=by have:=(List.getElem?_eq_some_iff.1 this).1;simpa using this
 have h2:vs[i]? = some v:=by simpa using this
 rw[Array.getElem?_append_left pc];simpa using h2):p:=h
theorem fu (h:p:=by
 rw[List.getElem_map]at hst;refine mS ?_;refine aG (t:=!ps[k].2 a.kids[k]) (fun h6=>?_) (fun h6=>?_)
 ·refine uA ?_;refine kG ?_;rw[hI,hst]
  simp_all
 ·refine uA ?_;refine kJ ?_;exact⟨k+1,uH,uH,rfl,rfl,uS,⟨by omega,by rw[hI,hst];simp_all⟩,by omega⟩):p:=h
theorem fv (h:p:=by
 have hnew':(Builtin.firstCells ei.size 0 s2.v).run P w = .ok (⟨[]⟩:Array Value) w:=by rw[←hz];exact hnew
 simp only[Sl.v]at hnew';simp[Builtin.append_,run_underlying hu,run_underlying hu2,sizeOf,typeInfo,q1,q3,Builtin.lenOf,hz,hnew']):p:=h
theorem fw (h:p:=by
 unfold exprS at hcy;rw[hy51]at hcy;simp only[if_false,if_true,bE,show ¬(51:Int)=40 by decide,show ¬(51:Int)=41 by decide,show ¬(51:Int)=42 by decide,show ¬(51:Int)=43 by decide,show ¬(51:Int)=44 by decide,show ¬(51:Int)=45 by decide,show ¬(51:Int)=46 by decide,show ¬(51:Int)=47 by decide,show ¬(51:Int)=48 by decide,show ¬(51:Int)=49 by decide,show ¬(51:Int)=50 by decide]at hcy
 match hq:y.kids,hcy.2 with
 | z::zs,_=>exact⟨z,zs,rfl⟩):p:=h
theorem fx (h:p:=by
 apply propext
 (try simp only)
 omega):p:=h
theorem fy (h:p:=by
 refine⟨by rw[g4,hs.len,hs2.len];simp,g5,by rw[g4,hs.len,hs2.len];exact hfit,hl++hl2,(h1.mono fun _ _=>r.mono g1).append (k1.mono fun _ _=>r.mono g1),?_⟩;rcases g6 with ⟨e1,e2,e3⟩ | ⟨b,off,e1,e2⟩
 ·left;have hz:s'.len=0:=by
   rcases g3 with e | ⟨b,off,e⟩
   ·rw[e]
   ·rw[e1]at e;cases e
  refine⟨List.eq_nil_of_length_eq_zero ?_,fun _=>e3⟩;have j1:=hs.len;have j2:=hs2.len;rw[bm];omega
 ·right;exact⟨b,off,e1,by rw[encs_append];exact e2⟩):p:=h
theorem fz (h:p:=by
 have hp:Ps.isPl a=true:=by rw[hpl,hk];rfl
 refine uA ?_;refine aw (fun b=>?_);refine ou ?_;rintro _ m1 _ ⟨hm1,rfl,s,rfl,hs⟩;refine uA ?_;refine af ⟨hm1,rfl,s,?_,hs⟩;rw[hp];rfl):p:=h
theorem fA (h:p:=by
 refine ak (fun h1=>?_) (fun h1=>?_)
 ·refine uA ?_;refine kG ?_;rw[basicOf,if_pos h1]
 refine uA ?_;refine ak (fun h2=>?_) (fun h2=>?_)
 ·refine uA ?_;refine kG ?_;rw[basicOf,if_neg h1,if_pos h2]
 refine uA ?_;refine ak (fun h3=>?_) (fun h3=>?_)
 ·refine uA ?_;refine kG ?_;rw[basicOf,if_neg h1,if_neg h2,if_pos h3]
 ·refine uA ?_;refine kG ?_;rw[basicOf,if_neg h1,if_neg h2,if_neg h3]):p:=h
theorem fB (h:p:=by
 refine aM [] dp 7 ?_;refine nw ?_;refine ai (k:=0) 3 hA ?_;refine ag 2 (da rfl rfl rfl rfl rfl rfl goes197 ((clone_str _ _ s hs).x ?_));rintro _ _ _ ⟨rfl,rfl,rfl⟩;refine⟨cM _,_,bu _,?_⟩;refine mF ?_;refine ag 5 ?_;refine OT.box rfl rfl rfl rfl rfl (fun b=>?_);refine⟨cM _,[_],dk,?_⟩;refine mG ?_;refine be ?_
 rotate_left 1
 refine aX ?_;refine af (L':=L) ⟨cM _,rfl,b,rfl⟩):p:=h
theorem fC (h:p:=by
 refine uA ?_;refine oC goes184 ((ckind_law 1 _ _).x ?_);rintro _ m4 _ ⟨hm4,rfl,h7,rfl,hr7⟩;refine kQ ?_;refine cT rfl (L':=.cells b 0 (exC 51 h7 txt num sA how none none)::T1) uS ⟨_,_,T1,hZ,cN hm hm4,dC (x:=⟨51,tk 1,false,3,false⟩) hr7 (tg_leaf _ _ _ oM) ⟨fun e=>by omega,fun e=>by cases e⟩ oY oY oN oN oN oN (fun _ _=>rfl),rfl,hB.mono hm4 (bN _)⟩):p:=h
theorem fD (h:p:=by
 refine ak (fun e2=>?_) (fun e2=>?_)
 ·refine uA ?_;refine kU ?_;rw[soundE_large (largeB_any (any_hit hlt (by rw[bigD,ce (show 64<l[k].methods.length by omega),cE])))]
 ·refine uA ?_;refine kJ ?_;exact⟨k+1,uH,uH,rfl,rfl,uS,⟨by omega,any_take hlt hI (by rw[bigD,cg (show ¬64<l[k].fields.length by omega),cg (show ¬64<l[k].methods.length by omega)];rfl)⟩,by omega⟩):p:=h
theorem fE (h:p:=by
 refine uA ?_;refine af (out (cM _) ?_);have:textB x a=false:=by unfold textB;rw[ht,←h2,cg hnm];rfl
 rw[this,Bool.false_and,Bool.and_false]):p:=h
theorem fF (h:p:=by
 refine aF (fun h10=>?_) (fun h10=>?_)
 ·refine uL ?_;refine qs rfl (OT.cut tab rTree a.num.toNat s.len h4 rfl rfl rfl rfl rfl rfl rfl (.inr (by rw[←hnum])) (.inl ⟨rfl,rfl⟩) oM oM (fun s2 hs2=>?_));rw[cu oM]at hs2;refine uA ?_;refine ap goes34 (pall_law _ _ s2 _ hs2 161 g.expr hp1) ?_;refine kU ?_;rw[h10];rfl
 ·skip;refine mh ?_;rw[h10];rfl):p:=h
theorem fG (h:p:=by
 refine uA ?_;refine af (out (cM _) ?_);have:textB x a=false:=pG;rw[this,Bool.false_and,Bool.and_false]):p:=h
theorem fH (h:p:=by
 refine lk ?_;refine cY (k:=3) tab 0 rfl rfl rfl rfl rfl rfl rfl rfl ?_;refine DOt.perm (bw _ _ _) ?_;refine aK ?_
 rotate_left 1
 replace hm:=cN hm (cN hleB hleC);replace hE:=hE.mono (cN hleB hleC);refine nV ?_;refine ay (L':=E.I k4 0::L) 3 ⟨_,k4,[],hT,hm,hk,⟨⟨26,[],0,s4⟩,rfl,rfl,⟨rfl,rfl,rfl,hs4⟩⟩,rfl⟩):p:=h
theorem fI (h:p:=by
 refine uA ?_;refine au (hs:=[bk]) (l:=[bk]) tab rPtr ⟨rfl,trivial⟩ uH oO (fun sA m3 hm3 hsA hoA hcA=>?_);refine TO.tokFo hcA hoA 1 ?_;refine uA ?_;refine an (k:=7) 6 ?_;exact⟨(n.name,sA,0,none,g2,(k.type,0),m3,T2,[bk]),uH,uH,rfl,rfl,uS,⟨cN hm2 hm3,hsA,hoA,bN _,hr5.mono hm3,hg2,(show(0:Int)≠3 by decide),(show(0:Int)≠4 by decide),by simp,by simp,hB.mono hm3 (bN _),hZ⟩⟩):p:=h
theorem fJ (h:p:=by
 refine kK ?_;refine de tab pH uK [4] uK rfl ?_;refine ag 5 ?_;refine aq 2 ?_;refine kK ?_;refine nH ?_;refine nW ?_;exact retQ_ret_c1 tab 0 rfl rfl rfl rfl uS ⟨cM _,rfl,⟨4,n,u,⟨none,0,0⟩⟩,rfl,by rw[h3,hu];exact TreeRep.leaf _ _ _ _⟩):p:=h
theorem fK (h:p:=by
 refine nK ?_;refine ae 8 0 ?_;refine de tab uC uK [9,10,11,12,13,14,15] uK rfl ?_;refine aH ?_
 rotate_left 1
 refine de tab uC uK [7,8,9,10,11,12,13,14,15] uK rfl ?_;refine aH ?_
 rotate_left 1
 ·refine uA ?_;refine af ⟨hm1,rfl,s1,?_,hs1⟩;rw[←hl,ce hg6];rfl
 ·refine uA ?_;refine af ⟨hm1,rfl,s1,?_,hs1⟩;rw[←hl,cg hg6];rfl):p:=h
theorem fL (h:p:=by
 simp only[Op.equalIn,Sem.run_bind,hu,Result.andThen_ok,Sem.run_pure]):p:=h
theorem fM (h:p:=by
 refine kK ?_;refine ag 4 ?_;refine aE 1 ?_;refine kK ?_;refine df ?_;refine aC 5 ?_;refine aE 0 ?_;refine aK ?_;refine TC.ret ?_;refine thenQ_r ?_;intro tmps w' hA hst';rw[hD];exact parseE_end (x:=⟨0,[],0,⟨none,0,0⟩⟩) (L':=L) tab rfl hA rfl rfl rfl rfl rfl rfl (hst'.perm (bz pfr2 (bD _ pfr1))) (co _) hm1 (emptyT_rep _)):p:=h
theorem fN (h:p:=by
 refine kK ?_;refine ag 2 ?_;refine aq (k:=0) 0 ?_;refine kK ?_;refine be ?_;refine forgetQ_n ?_;refine cP ?_;refine TC.ret ?_;refine thenQ_r ?_;intro tmps w' hA hst';exact buildE_end (pv:=.pointer none) (L':=.cells b1 0 (treeC h)::L) tab rfl hA rfl rfl rfl rfl (hst'.perm (bw _ _ _)) ((dx L).cons _) hm1):p:=h
theorem fO (h:p:=by
 have e2:¬h9.kind=3:=e2;have hdf:isDf p.kids[i]=false:=by
  unfold isDf;rw[cg oM,cg oM];rfl
 refine lQ ?_;exact⟨(i+1,s,hs,m1),uH,uH,rfl,rfl,uS,⟨by omega,hm,hso,hsl,hsc,by rw[take_filter_no hlt hdf];exact hall,hom0,by simp only;omega⟩,by simp only;omega⟩):p:=h
theorem fQ (h:p:=by
 refine kQ ?_;refine ay (L':=E.I k2 h::L) 1 ⟨_,k2,[],hT,hm,hk,⟨x,rfl,rfl,hrx⟩,rfl⟩):p:=h
theorem fR (h:p:=by
 refine aG (t:=v) (fun e=>?_) (fun e=>?_)
 ·subst e;refine uA ?_;refine af ⟨hm03,rfl,?_⟩;rw[soundE_form hbig (any_hit hlt (by rw[formD,anyI_yes hxj hv.symm,cE]))]
 ·subst e;refine uA ?_;refine lH ?_;exact⟨j+1,uH,uH,rfl,rfl,uS,⟨by omega,hJ.step hjl hv.symm⟩,by omega⟩):p:=h
theorem fT (h:p:=by
 refine kZ ?_;rw[hI,cr oM];rfl):p:=h
theorem fU (h:p:=by
 refine kK ?_;refine ag 4 ?_;refine aE 2 ?_;refine kK ?_;refine ag 5 ?_;refine aE 3 ?_;refine kK ?_;refine be ?_;refine cU rfl (L':=.cells a 0 [.int .i64 0,strV [],.int .i64 0,.slice none 0 0]::.cells b 0 [.int .i64 x]::.cells c 0 [.int .i64 3]::L) uS ⟨rfl,rfl,rfl⟩):p:=h
theorem fV (h:p:=by
 refine kJ ?_;exact⟨k+1,uH,uH,rfl,rfl,uS,by omega,by omega⟩):p:=h
theorem fW (h:p:=by
 refine kZ ?_;rw[cg e1];rfl):p:=h
theorem fX (h:p:=by
 refine uA ?_;refine cU rfl (L':=.cells b 0 (exC 50 g5 n.name n.num s 0 none none)::T1) uS ⟨_,_,T1,hZ,hm,dC (x:=⟨50,k.type,false,0,false⟩) hr5 hg5 ⟨fun e=>by omega,fun e=>by cases e⟩ oN oN oN oN oN oN (fun _ _=>rfl),rfl,hB.mono (cM _) (Nat.le_add_right _ _)⟩):p:=h
theorem fY (h:p:=by
 rintro _ m2 _ ⟨hm2,rfl,u,w,rfl⟩;refine uA ?_;refine af ⟨cN hm1 hm2,rfl,?_⟩;exact .inr ⟨e1,_,_,_,rfl⟩):p:=h
theorem fZ (h:p:=by
 refine kZ ?_;refine congrArg Value.bool ?_;have h3:¬(97≤b.toNat∧b.toNat≤122):=fun h=>by have:=hlow.2 (.inl h);omega
 have h4:¬(65≤b.toNat∧b.toNat≤90):=fun h=>by have:=hlow.2 (.inr h);omega
 unfold ltr;rw[cg h3,cg h4];simp only[cG]
 congr 1
 apply propext;omega):p:=h
theorem f0 (h:p:=by
 repeat' first | refine t_if ?_ ?_ | exact .inl rfl | exact .inr (.inl rfl) | exact .inr (.inr rfl)):p:=h
theorem ga (h:p:=by
 simp only[Sl.v]at hnew;simp[Builtin.append_,run_underlying hu,run_underlying hu2,sizeOf,typeInfo,q1,q3,Builtin.lenOf,hroom,hnew,hr']):p:=h
theorem gb (h:p:=by
 refine mF ?_;refine df ?_;refine aC 5 ?_;refine aE 0 ?_;refine DOt.perm (bw _ _ _) ?_;refine DOt.nil uK ?_;refine uA ?_;exact⟨(⟨48,t,0,s⟩,mB,.mk 48 t 0 [n],k+1+1,N),uH,uH,rfl,rfl,uS,⟨cN hm3 hleB,hk,⟨rfl,rfl,rfl,hs⟩,hT⟩,by simp only;omega⟩):p:=h
theorem gc (h:p:=by
 rw[cz hlt,cB,List.sum_append];simp only[bP,bQ,List.sum_cons,List.sum_nil,Nat.add_zero]):p:=h
theorem gd (h:p:=by
 have e1:Item.room b (o+n*ei.size+news.length) (List.drop news.length vs).length=tok ⟨some ⟨b,o,none⟩,n+s2.len,c⟩ ei.size:=by
  simp only[tok,cl,hvl,hy.1]
  congr 1
  ·rw[Nat.add_mul];omega
  ·rw[←Nat.sub_mul];congr 1;omega
 rw[←e1];exact St.back hi g4):p:=h
theorem ge (h:p:=by
 refine lw ?_;refine ag 10 ?_;refine aq (k:=7) 4 ?_;refine kK ?_;refine ag 11 ?_;refine OT.tokFo hcA hoA 1 ?_;refine aq (k:=0) 2 ?_;refine⟨cM _,_,pfE,?_⟩;refine nH ?_;exact⟨(sA,m3),uH,uH,rfl,rfl,uS,⟨hm3,hsA,hoA⟩⟩):p:=h
theorem gg (h:p:=by
 have q1:(A++(B++(C++D))).Perm (B++(A++(C++D))):=by rw[←bG A B,←bG B A];exact List.perm_append_comm.append_right _
 have q2:(A++(C++D)).Perm (C++(A++D)):=by rw[←bG A C,←bG C A];exact List.perm_append_comm.append_right _
 exact q1.trans (q2.append_left B)):p:=h
theorem gh (h:p:=by
 refine kI ?_;exact⟨(i+1,vs',sl',l++[bs],m5,T4),uH,uH,rfl,rfl,uS,⟨by omega,cN hm2 (cN hm3 (cN hm4 hm5)),hsl',hol',by simp only[bm,bo,br];omega,hsc.mono (cN hm4 hm5),hB.mono (cN hm4 hm5) (bN _),hZ⟩,by simp only;omega⟩):p:=h
theorem gi (h:p:=by
 refine az (fun h1=>?_) (fun h1=>?_)
 ·refine uA ?_;refine mt ?_;unfold dgt
  congr 1
  apply propext;omega
 ·refine uA ?_;refine mt ?_;unfold dgt
  symm
  apply cg;omega):p:=h
theorem gj (h:p:=by
 refine uA ?_;refine au (hs:=[b]) (l:=[b]) tab rPtr ⟨rfl,trivial⟩ uH oO (fun sA m2 hm2 hsA _ _=>?_);refine uA ?_;refine oD ?_;exact cT rfl (L':=T1) uS ⟨_,hZ,cN hm hm2,s.vs,rfl,hC.sc.mono (cN hm hm2),⟨b5,rfl⟩,hB.mono hm2 (bN _)⟩):p:=h
theorem gm (h:p:=by
 refine kG ?_;rw[h7];rfl):p:=h
theorem gn (h:p:=by
 have e:(List.take (1+zs.length) (y::zs)).drop 1=zs:=qk;rw[e]at hsz;exact hsz):p:=h
theorem gp (h:p:=by
 have hi':i=l.length:=oM;subst hi';rw[List.drop_length]at hZ;replace hZ:Z=some ts:=by rw[hZ];simp
 refine uA ?_;refine cT rfl (L':=T1) uS ⟨ts,hZ,hm,⟨by omega,s1,s2,xs,rfl,hs1,by omega,hs2,htg⟩,hB.mono (cM _) (Nat.le_add_right _ _)⟩):p:=h
theorem gq (h:p:=by
 refine uA ?_;refine qs rfl (OT.needP (L0:=L) hT hE hk oS hm uS rfl rfl rfl rfl rfl rfl (fun hT hk=>?_));refine uA ?_;refine af (L':=E.I (k2+1) h::L) ⟨a,k2+1,[],hT,hm,hk,⟨x,rfl,rfl,hrx,hlx⟩,rfl⟩):p:=h
theorem gt (h:p:=by
 rintro _ m1 _ ⟨hm1,rfl,s,rfl,hs⟩;refine uA ?_;exact cT rfl uS ⟨hm1,rfl,s,rfl,hs⟩):p:=h
theorem gu (h:p:=by
 rintro a' w' ⟨ρ',m',L',h1,h2,Lp',h3,h4⟩;have h5:Ok N ρ' D m' (Ls++Lp') a' w':=h1.perm h3;refine⟨fun _=>⟨m',Lp',h2,h5.st⟩,?_⟩;rw[e];refine wpAnyT_strong ?_ _ _ _ _ (h4 a' w' h5);rintro w2 ⟨m2,L2,g1,g2⟩;exact⟨m2,L2,cN h2 g1,g2⟩):p:=h
theorem gx (h:p:=by
 refine uA ?_;refine lH ?_;exact⟨(j+1,s',m'),uH,uH,rfl,rfl,uS,⟨by simp only;omega,cN hm1 hm',ho',by rw[cz hlt,List.flatten_append];simpa using hs'⟩,by simp only;omega⟩):p:=h
theorem gy (h:p:=by
 refine mc ?_;exact⟨(k+1,m3),uH,uH,rfl,rfl,uS,⟨by simp only;omega,hm03,any_take hlt hI (by rw[formD,←hv,hJ.all oM];rfl)⟩,by simp only;omega⟩):p:=h
theorem gz (h:p:=by
 simp only[execOp,ho,ha.env.eval hx,ha.env.eval hy,Sem.run_bind,e2,Result.andThen_ok,e1,h,Sem.run_pure]):p:=h
theorem gB (h:p:=by
 rcases List.mem_append.1 hf with hf | hf
 ·exact(hfl f hf).mono hm512
 ·rw[List.mem_singleton.1 hf];exact⟨hA0.mono (cN hm8 hm812),⟨ht,ps,hht.mono hm812,hps.mono hm812,hA2.mono hm812⟩,⟨htg,ht7⟩,hpo,hbl,fb⟩):p:=h
theorem gC (h:p:=by
 obtain⟨i,h1,h2,h3,h4,h5,h6⟩:=(show ∃ i,Has ρ' (sρ i)∧Has ρ' ρc∧_ from h)
 subst h3;subst h4;exact(show TC P N y ρ' D' (sm i) L' Q from fun a w ha=>hy i h6 a w ((ha.sub (h1.append h2).sub).sublist h5))):p:=h
theorem gD (h:p:=by
 have h1:=hall e he hb;have h0:=(mem_ready.1 hr).1;rw[heq]at h1;rcases Nat.lt_or_ge i listed.size with h' | h'
 ·simp[h']at h0 h1;rw[h0]at h1;cases h1
 ·simp[Array.getElem?_eq_none h']at h1):p:=h
theorem gE (h:p:=by
 refine uN ?_;refine qs rfl (OT.arith (r':=((k+1:Nat):Int)) rfl rfl rfl rfl rfl rfl rfl oM ?_);refine uN ?_;exact⟨k+1,uH,uH,rfl,rfl,uS,step (by unfold lod;simp_all),by omega⟩):p:=h
theorem gF (h:p:=by
 refine kG ?_;rw[ce e1];rfl):p:=h
theorem gG (h:p:=by
 intro a w ha;obtain⟨h1,h2,h3⟩:=ha.st.freeze;exact h _ h1 h2 a w ⟨ha.size,ha.env,ha.defers,h3⟩):p:=h
theorem gH (h:p:=by
 obtain⟨y,z,hy,hy1,hz1⟩:=Pt.kids2 hs2;rw[hy]at hlen;simp only[bo,br]at hlen;refine az (fun e5=>?_) (fun e5=>?_)
 ·exfalso;omega
 ·refine uA ?_;refine kG ?_;rw[hy];rfl):p:=h
theorem gI (h:p:=by
 refine⟨(of_name h.1).1,fun f hf=>?_⟩;have:=List.all_eq_true.1 h.2 f hf;unfold fieldS at this;rw[bE]at this;obtain⟨y,hy,-⟩:=Pt.kids1 this.2;exact⟨(of_name this.1).1,y,hy⟩):p:=h
theorem gJ (h:p:=by
 rintro v m' L' w' ⟨rfl,rfl,rfl⟩ hst;exact⟨_,rfl,rfl,hst⟩):p:=h
theorem gK (h:p:=by
 have e2:kid n 0=r:=ph;have e3:kid r 0=y:=by unfold kid;rw[hrk];rfl
 have e4:kid y 0=z:=by unfold kid;rw[hyk];rfl
 unfold recvD;rw[e2,e3,e4]):p:=h
theorem gL (h:p:=by
 exact h.free y (List.mem_cons_of_mem _ hy)):p:=h
theorem gM (h:p:=by
 rw[Bool.not_eq_false']at e5;refine mc ?_;exact⟨k+1,uH,uH,rfl,rfl,uS,⟨by omega,by rw[hI,e5];rfl⟩,by omega⟩):p:=h
theorem gN (h:p:=by
 simp only[Oper.wp,hr,Oper.upon,hd];have hp:=ha.put hN (.pointer (some ⟨w.heap.size,0,none⟩));exact⟨_,_,_,⟨hp.size,hp.env,hp.defers,ha.st.allocCells ⟨cs⟩ t⟩,hK _⟩):p:=h
theorem gO (h:p:=by
 cases fuel with
 | zero=>exact⟨hr,hq⟩
 | succ n=>exact⟨fun _=>hq,by rw[hr];simp⟩):p:=h
theorem gP (h:p:=by
 unfold TCall TCallX;intro w hst;refine(key w hst).mono fun e w' he=>?_;cases e with
 | returned v=>exact he
 | panicked ch=>exact he.elim
 | outgrown=>exact he):p:=h
theorem gQ (h:p:=by
 refine lQ ?_;exact⟨i+1,uH,uH,rfl,rfl,uS,⟨hlt,by rw[cz hlt,List.all_append,hI];simp[hb]⟩,by omega⟩):p:=h
theorem gR (h:p:=by
 refine uA ?_;rw[cu oM];refine aL (r':=((deepL a.kids+1:Nat):Int)) uH oM oM ?_;refine kG ?_;obtain⟨_,_,_,ks⟩:=a;rfl):p:=h
theorem gS (h:p:=by
 refine lQ ?_;exact⟨(i+1,fn),uH,uH,rfl,rfl,uS,(show i+1≤fl.length by omega),by simp only;omega⟩):p:=h
theorem gT (h:p:=by
 repeat' first
  | refine ok_if ?_ ?_
  | exact ok_lit rfl (rest_ok oO)):p:=h
theorem gU (h:p:=by
 skip;refine mh ?_
 simp_all):p:=h
theorem gV (h:p:=by
 refine mq ?_;refine ak (fun e4=>?_) (fun e4=>?_)
 ·exfalso;omega
 ·refine uA ?_;refine cU rfl (L':=T) (co _) ⟨(),hZ,cM _,rfl,hB⟩):p:=h
theorem gW (h:p:=by
 simp only at hlt';refine nW ?_;refine ay 2 ⟨hm1,rfl,⟨_,[],0,t⟩,rfl,rfl,rfl,hu.symm,?_⟩;rw[cu oM]at ht;exact ht):p:=h
theorem gX (h:p:=by
 simp only[execOp,ho,Instr.alloc,newVar,newRow,cellsF_eq hv,Sem.run_bind,Sem.run_pure,run_newObj,Result.andThen_ok,World.alloc_eq,T.run_zero w hi]):p:=h
theorem gY (h:p:=by
 refine kZ ?_;rw[e1];rfl):p:=h
theorem gZ (h:p:=by
 refine cU rfl (L':=T) (co _) ⟨(),hZ,cM _,rfl,hB⟩):p:=h
theorem g8 (h:p:=by
 obtain⟨_,_,_,_⟩:=a;unfold Tree.deep at hd;omega):p:=h
theorem g9 (h:p:=by
 refine kZ ?_;rw[e6];rfl):p:=h
theorem hH (h:p:=by
 refine mh ?_;rw[soundE_large (largeB_any (any_hit hlt (by rw[bigD,ce (show 64<l[k].fields.length by omega)];rfl)))]):p:=h
theorem ia (h:p:=by
 have:=hd.1 y hy;simpa[Item.Disj,Item.len,Item.blk,Item.off]using this):p:=h
theorem ic (h:p:=by
 simp only[Oper.wp,he,Oper.upon];rw[hd];have hp:=ha.put hN s'.v;rw[q3]at g2;exact⟨_,_,_,⟨hp.size,hp.env,hp.defers,g2⟩,hK s' m' g1 hrep g3⟩):p:=h
theorem ie (h:p:=by
 rintro _ m2 _ ⟨hm2,rfl,ht2,rfl,hrt⟩;refine kQ ?_;exact retQ_ret_c1 tab 1 rfl rfl rfl rfl uS ⟨hm2,rfl,ht2,rfl,hrt⟩):p:=h
theorem ig (h:p:=by
 simp only at e4;refine mh ?_;rw[cg (show ¬a.num<(a.kids.length:Int) by omega),Bool.false_and,Bool.and_false]):p:=h
theorem ij (h:p:=by
 have e:(⟨listed⟩:Array Bool).setIfInBounds i true=⟨listed.set i true⟩:=by
  apply Array.ext';simp
 rw[e,hd];exact h _ _ (ha.put hN v)):p:=h
theorem ik (h:p:=by
 rw[if_neg h,if_neg h];clear h;unfold shB;simp):p:=h
theorem il (h:p:=by
 refine mc ?_;exact⟨k+1,uH,uH,rfl,rfl,uS,⟨by omega,any_take hlt hI e9⟩,by omega⟩):p:=h
theorem io (h:p:=by
 obtain⟨i,hi,rfl⟩:=List.getElem_of_mem h;have h1:=sizeL_next a.kids i hi;have h2:=sizeL_drop a.kids (i+1);have h3:=size_kids a;omega):p:=h
theorem ip (h:p:=by
 refine⟨!decide (hf.type.kind=7),uH,uH,rfl,rfl,uS,?_⟩;rw[badF,←hfn,e1,e2,←hfk,cg e3,ce (show l[k].fields.length≤j by omega)];rfl):p:=h
theorem iq (h:p:=by
 repeat (refine thenQ_p ?_)
 obtain rfl:c=5:=px;exact build_bad (v2:=ptr bp) (v3:=.int .i64 0) rfl rfl hm08 ⟨_,bhY⟩):p:=h
theorem ir (h:p:=by
 rcases hso with h0 | h0
 ·subst h0;simp only at hsl;omega
 ·exact h0):p:=h
theorem iu (h:p:=by
 simp only[execOp,ho,ha.env.eval he,ha.env.evalO h1,ha.env.evalO h2,Option.map_none,Sem.run_bind,hr,Result.andThen_ok,Sem.run_pure]):p:=h
theorem iw (h:p:=by
 refine uA ?_;refine⟨false,uH,uH,rfl,rfl,uS,?_⟩;rw[badF,←hfn,e1,e2,←hfk,cg e3,cg (show ¬l[k].fields.length≤j by omega)];rfl):p:=h
theorem iy (h:p:=by
 refine uA ?_;refine cT rfl (L':=E.I k h::tok s 4::L) uS ⟨acc,k,[tok s 4],hT,hm,hk,⟨s,rfl,rfl,hs,ho,by omega⟩,rfl⟩):p:=h
theorem iz (h:p:=by
 refine hfree k ok hk hki ?_ hno;by_cases hjk:j=k
 ·subst hjk;exact hjun
 ·rw[getD_set_ne true hjk]at hun;exact hun):p:=h
theorem iD (h:p:=by
 refine mX ?_;exact .inr ⟨hI.trans (pU_big hlt hd oM),_,2,.inr rfl,rfl⟩):p:=h
theorem iE (h:p:=by
 obtain⟨hD,v,L2,hv,hs2,hr⟩:=h2;exact⟨h1.defers.trans hD,u,rfl,v,hv _ _ h1.env h1.st,hR _ _ _ _ hr (h1.st.sub hs2)⟩):p:=h
theorem iF (h:p:=by
 rw[hb2,ha2]at hT;simp only[bX,cJ]at hT;refine uA ?_;refine ax 1 ?_;exact⟨23,uH,uH,rfl,rfl,uS,PE.isM_lt hb2,hT⟩):p:=h
theorem iG (h:p:=by
 simp only;rw[funsI_snoc];exact(((List.sublist_cons_self _ _).cons_cons _).cons_cons _).cons_cons _ |>.cons_cons _):p:=h
theorem iH (h:p:=by
 simp only[PR.go.injEq]at h;obtain⟨rfl,rfl⟩:=h;exact k):p:=h
theorem iI (h:p:=by
 rintro ch m' L' ⟨k',h',h1,h2,h3,rfl,rfl⟩;exact hb _ _ _ _ _ (cN hm h2) h3 (by rw[hT];unfold Ps.bind;rw[h1]) hL):p:=h
theorem iJ (h:p:=by
 intro a w ha;cases b with
 | true=>exact h1 rfl a w (ha.setKnown hl)
 | false=>exact h2 rfl a w (ha.setKnown hl)):p:=h
theorem iK (h:p:=by
 have:(0:Int)≤(lo:Int)∧(lo:Int)≤(y:Int):=⟨by omega,by omega⟩
 simp[Instr.sliceBound,asIntOf,this]):p:=h
theorem iL (h:p:=by
 have:(0:Int)≤(hi:Int)∧(hi:Int)≤(y:Int):=⟨by omega,by omega⟩
 simp[Instr.sliceBound,asIntOf,this]):p:=h
theorem iM (h:p:=by
 refine uA ?_;refine cT rfl (L':=.cells bl 0 [.int .i64 (left-1)]::L) uS ⟨rfl,.inr ⟨rfl,by omega,_,rfl⟩⟩):p:=h
theorem iN (h:p:=by
 refine kQ ?_;refine ay (L':=E.I k2 0::L) 1 ⟨_,k2,[],hT,hm,hk,⟨x,rfl,rfl,hrx⟩,rfl⟩):p:=h
theorem iO (h:p:=by
 refine uA ?_;refine ax 1 ?_;exact⟨(y,mB,e,k3,N),uH,uH,rfl,rfl,uS,⟨cN hm3 hleB,hk,hry,hT⟩,by simp only;omega⟩):p:=h
theorem iP (h:p:=by
 show ret (acc++(a::l))=ret (acc++[a]++l);rw[bG];rfl):p:=h
theorem iQ (h:p:=by
 rw[hrow,e3,hfill];simp only[newRow,Sem.run_bind,run_newObj,Result.andThen_ok,Sem.run_pure,World.alloc_eq]):p:=h
theorem iR (h:p:=by
 simp only[execOp,ho,ha.env.eval hx,ha.env.eval hy,Sem.run_bind,g2,Result.andThen_ok,g1,h,Sem.run_pure];rfl):p:=h
theorem iS (h:p:=by
 rintro v m' L' ⟨a,k',xs,h1,h2,h3,h4,rfl⟩;exact hK v m' a k' xs (by rw[hT];unfold Ps.bind;rw[h1]) h2 h3 h4):p:=h
theorem iT (h:p:=by
 rw[hvl,hy.1];exact Nat.mul_le_mul_right _ oM):p:=h
theorem iU (h:p:=by
 have hz:a.kids=[]:=List.length_eq_zero_iff.1 oM;refine kZ ?_;rw[hz];rfl):p:=h
theorem iV (h:p:=by
 rintro ch m' T1 ⟨h1,h2,rfl,h4⟩;exact hb _ _ _ (by rw[hZ,h1];rfl) (cN hm h2) (Hs.trans hL (h4.of_app xs))):p:=h
theorem iW (h:p:=by
 subst e;refine nI ?_;rw[soundE_form hbig (any_hit hlt (by rw[formD,←hv];rfl))]):p:=h
theorem iX (h:p:=by
 unfold fitsB;rw[formed_eq,hI,hhd,ce oM];rfl):p:=h
theorem iY (h:p:=by
 obtain⟨hD,v,L2,hv,hs2,hR⟩:=h2;exact⟨h1.defers.trans hD,v,hv _ _ h1.env h1.st,m',L2,h1.st.sub hs2,hR⟩):p:=h
theorem iZ (h:p:=by
 by_cases hk:k<n
 ·rw[hq.same f' f k k (hc.lo k hk)];exact hx
 ·exact hq.no _ _ (hc.hi k oM)):p:=h
theorem i9 (h:p:=by
 simp only[IntKind.wrap,IntKind.signed,IntKind.bits,Bool.false_and,Bool.false_eq_true,if_false];omega):p:=h
theorem ja (h:p:=by
 refine uA ?_;exact cT rfl (L':=L) uS ⟨hm1,rfl,rfl⟩):p:=h
theorem jb (h:p:=by
 unfold otherS at hu1;rw[bL,bE]at hu1;rcases hu1 with hu1 | hu1
 ·exact block_stmt hu1
 ·exact hu1.2):p:=h
theorem jc (h:p:=by
 split at h
 ·exact⟨_,by assumption,rfl⟩
 ·cases h):p:=h
theorem jd (h:p:=by
 exact⟨(World.cell?_of_block e).trans hv,fun i=>World.frozen?_of_block (a:=⟨a.block,i,none⟩) e⟩):p:=h
theorem je (h:p:=by
 refine kZ ?_;rw[hI,kidsR_end _ _ _ _ pE oM]):p:=h
theorem jf (h:p:=by
 exact Run.bind1 (Run.sig hf hN (h.up oM)) fun s=>(Run.bret _ (hb.up oM)).lax):p:=h
theorem jg (h:p:=by
 rw[bo,show k+(l.length+1)=k+1+l.length by omega]at h2 ⊢;exact h f (k+1) h1.2 h2):p:=h
theorem jh (h:p:=by
 refine uA ?_;exact cT rfl uS (bad (cM _) (by unfold fitB;rw[←h3,←h1,cg hnum];simp_all))):p:=h
theorem ji (h:p:=by
 refine nI ?_;refine .inl ⟨n,hn,?_,rfl⟩;rw[hI,cr oM];rfl):p:=h
theorem jk (h:p:=by
 exact h.items y (List.mem_cons_of_mem _ hy)):p:=h
theorem jl (h:p:=by
 obtain⟨x,rfl,rfl,h5,h6⟩:=h4;exact hK x m' a k' h1 (cN hm h2) (hE.mono h2) h2 h3 h5 h6):p:=h
theorem jm (h:p:=by
 unfold shB;simp only[cg h,Bool.false_and]):p:=h
theorem jn (h:p:=by
 rintro _ m1 _ ⟨hm1,rfl,b,rfl⟩;refine uA ?_;refine aB ?_;refine af ⟨hm1,rfl,_,_,rfl⟩):p:=h
theorem jo (h:p:=by
 refine uN ?_;refine nJ ?_;exact cT rfl uS (bad1 oM)):p:=h
theorem jp (h:p:=by
 refine uA ?_;exact⟨true,uH,uH,rfl,rfl,uS,by rw[badF,←hfn,e1,e2,←hfk,ce e3];rfl⟩):p:=h
theorem jq (h:p:=by
 rw[cu oM]at hr1;refine uA ?_;exact cT rfl (L':=L) uS ⟨hm1,rfl,u,rfl,hr1⟩):p:=h
theorem jr (h:p:=by
 refine uA ?_;refine aV (.inl rfl) ?_;refine ly ?_;exact .inl ⟨v,e1,rfl⟩):p:=h
theorem js (h:p:=by
 refine kZ ?_;rw[cg (show ¬a.kids.length=1 by omega)];rfl):p:=h
theorem jt (h:p:=by
 rw[Bool.not_eq_true']at e5;refine kZ ?_;rw[hI,e5];rfl):p:=h
theorem ju (h:p:=by
 obtain⟨x,rfl,rfl,h5⟩:=h4;exact hK x m' a k' h1 (cN hm h2) (hE.mono h2) h2 h3 h5):p:=h
theorem jv (h:p:=by
 by_cases hk:k<q
 ·rw[hc.lo k hk];exact hx
 ·rw[hc.hi k oM];exact hd):p:=h
theorem jw (h:p:=by
 refine uA ?_;exact cT rfl uS (bad2 (by unfold headB;rw[←h2,cg e1,cg k4];rfl))):p:=h
theorem jx (h:p:=by
 simp only[Function.comp,bG,List.singleton_append,Prod.mk.injEq,true_and];omega):p:=h
theorem jy (h:p:=by
 refine mh ?_;rw[soundE_large (largeB_len oM)]):p:=h
theorem jz (h:p:=by
 refine kZ ?_;rw[kidsR_short _ _ _ pE]):p:=h
theorem jA (h:p:=by
 rw[if_pos oM]at hs2;unfold blockS at hs2;rw[bE]at hs2;exact hs2.2):p:=h
theorem jB (h:p:=by
 refine af ⟨hm1,rfl,s,rfl,?_⟩;rw[show min n.toNat 20001=k by omega];exact hs):p:=h
theorem jC (h:p:=by
 refine kG ?_;unfold bareB at hb;unfold ofB;rw[h1]at hb
 simp_all):p:=h
theorem jD (h:p:=by
 refine kZ ?_;rw[hI,cr oM,cr oM];rfl):p:=h
theorem jE (h:p:=by
 obtain⟨y,hy,rfl⟩:=List.mem_map.1 hx;exact hkid y hy (isType_node (h3 y hy))):p:=h
theorem jF (h:p:=by
 exact⟨by omega,this.2,fun _=>this.1⟩):p:=h
theorem jG (h:p:=by
 have:=World.block_lt_of_cell? _ _ (h.c _ _ _ hc);simp only at this;omega):p:=h
theorem jH (h:p:=by
 exact .inr (.inr (.inr (.inl (by simp only[Item.len,Item.off];omega))))):p:=h
theorem jI (h:p:=by
 simp only[Nat.sub_self,Nat.sub_zero,Nat.zero_mul,Nat.add_zero,ite_self]):p:=h
theorem jJ (h:p:=by
 rename_i hl;rw[hy _ hl];simp only[bH]at h;subst h;cases want<;>rfl):p:=h
theorem jK (h:p:=by
 refine uA ?_;exact⟨true,uH,uH,rfl,rfl,uS,by rw[badF,←hfn,e1,e2];rfl⟩):p:=h
theorem jL (h:p:=by
 have:=growslice_fits hlt hfit;omega):p:=h
theorem jM (h:p:=by
 refine kG ?_;rw[e3];rfl):p:=h
theorem jN (h:p:=by
 have:=List.any_eq_false.1 hI d hd;simp only[bigD,bL,bI]at this;omega):p:=h
theorem jO (h:p:=by
 refine kZ ?_;rw[Tree.sound,cg oM];rfl):p:=h
theorem jP (h:p:=by
 rename_i hc;rw[fo_eq]at h;simp[execOp,hA.eval h,hA.eval hc,asBool]):p:=h
theorem jQ (h:p:=by
 refine uA ?_;exact⟨true,uH,uH,rfl,rfl,uS,by rw[headD,←hn1,e1];rfl⟩):p:=h
theorem jR (h:p:=by
 simp only at e3;refine mh ?_;rw[cg e3];rfl):p:=h
theorem jS (h:p:=by
 refine uA ?_;exact⟨true,uH,uH,rfl,rfl,uS,by rw[badF,←hfn,e1];rfl⟩):p:=h
theorem jT (h:p:=by
 refine uA ?_;refine aV (.inl rfl) ?_;refine cU rfl uS ⟨rfl,rfl,rfl⟩):p:=h
theorem jU (h:p:=by
 rename_i hc;rw[if_pos hc,if_pos hc,blk_take false r j oM]):p:=h
theorem jV (h:p:=by
 subst hji;exact hy.wpOp hi trivial ⟨fun hu=>hS (hu.unset hTi),H⟩):p:=h
theorem jW (h:p:=by
 have:=cell_arr g1 q1;rw[g2]at this;simpa[Item.off]using this):p:=h
theorem jX (h:p:=by
 exact cT rfl uS (bad oM)):p:=h
theorem jY (h:p:=by
 refine kZ ?_;rw[ce e1,ce e2,cg e3];rfl):p:=h
theorem jZ (h:p:=by
 refine uA ?_;refine af (L':=L) ⟨cN hm1 hm2,rfl,?_⟩;rw[e1];rfl):p:=h
theorem j0 (h:p:=by
 obtain⟨_,_,_,ks⟩:=a;simp only[Tree.deep,Tree.kids]at *;omega):p:=h
theorem j3 (h:p:=by
 exact fun c a' w' h'=>hc.put h'):p:=h
theorem j4 (h:p:=by
 exact tg_leaf _ _ _ oM):p:=h
theorem j5 (h:p:=by
 refine((hAt b o rfl).mono g1).append ?_;rw[hx.1];exact g2):p:=h
theorem j6 (h:p:=by
 exact⟨⟨none,0,0⟩,rfl,db _ _⟩):p:=h
theorem j7 (h:p:=by
 refine kZ ?_;rw[ce e1,cg e2];rfl):p:=h
theorem j8 (h:p:=by
 simp only[Except.error.injEq,Prod.mk.injEq]at h;omega):p:=h
theorem j9 (h:p:=by
 have:=size_kids a;have:=sizeL_take a.kids (k+1);omega):p:=h
theorem ka (h:p:=by
 have h3:reachBytes≤140737488355328:=oO;omega):p:=h
theorem kb (h:p:=by
 cases ob<;>first | rfl | (simp[isCells]at hc;done)):p:=h
theorem kc (h:p:=by
 unfold headS;rw[h];rcases h1 with rfl | rfl<;>simp):p:=h
theorem kg (h:p:=by
 exact retQ_p (L':=E.I k h::L) uS ⟨rfl,rfl,rfl,rfl⟩):p:=h
theorem kh (h:p:=by
 exact fun f hf=>hff f qm):p:=h
theorem kj (h:p:=by
 have:=ready_mono hj hji;rw[H.1]at this;cases this):p:=h
theorem km (h:p:=by
 rw[if_neg oM,if_neg oM]at e;omega):p:=h
theorem ko (h:p:=by
 refine kZ ?_;rw[cg e4];rfl):p:=h
theorem kq (h:p:=by
 rw[Array.setIfInBounds_comm _ _ hji];exact h3.2.2):p:=h
theorem kr (h:p:=by
 refine kG ?_;rw[cg e1,cg e2,cg e3];rfl):p:=h
theorem ku (h:p:=by
 unfold isDf;rw[cg oM,ce oM];rfl):p:=h
theorem kw (h:p:=by
 have:=filter_le p.kids isDf;rw[←hl0,bV];omega):p:=h
theorem kx (h:p:=by
 refine kG ?_;unfold lod;rw[h3];rfl):p:=h
theorem kA (h:p:=by
 unfold madeE;simp only[Tree.size,sizeL];omega):p:=h
theorem kB (h:p:=by
 refine kZ ?_;rw[hgl]):p:=h
theorem kC (h:p:=by
 rw[g1]at h1;cases h1;simp[isCells]at h2):p:=h
theorem kD (h:p:=by
 refine kG ?_;rw[cg e2,e3];rfl):p:=h
theorem kE (h:p:=by
 refine kG ?_;rw[pre,h10];rfl):p:=h
theorem kF (h:p:=by
 split at h
 ·cases h
 ·cases h;rfl):p:=h
end Go
