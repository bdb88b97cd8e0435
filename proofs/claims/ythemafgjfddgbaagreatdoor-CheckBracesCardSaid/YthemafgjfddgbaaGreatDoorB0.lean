/-
  Part 0 of the proof: library, walks and plain laws.
-/
import Derived.KernelRfl
set_option linter.unusedVariables false
set_option linter.unusedSimpArgs false
set_option maxHeartbeats 6400000
namespace Go
abbrev a6 := @List.length_append
abbrev a7 := @List.length_cons
abbrev a8 := @List.length_nil
abbrev a9 := @List.Perm.refl
abbrev ba := @List.Perm.swap
abbrev be := @List.Perm.trans
abbrev bg := @List.Perm.cons
abbrev bj := @Bool.and_eq_true
abbrev bm := @List.getElem?_eq_getElem
abbrev bo := @List.append_assoc
abbrev bu := @Option.some.injEq
abbrev bw := @decide_eq_true_eq
abbrev bz := @List.getElem?_append_left
abbrev bD := @List.getElem?_append_right
abbrev bE := @Bool.or_eq_true
abbrev bF := @Nat.le_refl
abbrev bG := @Nat.le_trans
abbrev bH := @List.map_cons
abbrev bI := @List.map_nil
abbrev bJ := @List.cons_append
abbrev bK := @List.nil_append
abbrev bL := @List.getElem_mem
abbrev bM := @Int.toNat_natCast
abbrev bN := @List.length_map
abbrev bO := @List.all_eq_true
abbrev bP := @Bool.true_and
abbrev bQ := @decide_eq_true
abbrev bR := @decide_eq_false
abbrev bU := @List.drop_eq_getElem_cons
abbrev bV := @List.length_take
abbrev bW := @List.length_drop
abbrev bX := @List.Sublist.cons_cons
abbrev bY := @List.Sublist.cons
abbrev bZ := @List.Sublist.refl
abbrev ce := @List.append_nil
abbrev cg := @Nat.lt_of_lt_of_le
abbrev ci := @List.drop_eq_nil_of_le
abbrev cj := @List.take_of_length_le
abbrev cm := @List.mem_singleton
abbrev cn := @Nat.zero_le
abbrev co := @List.take_append_drop
abbrev cp := @Nat.zero_add
abbrev cq := @List.take_succ_eq_append_getElem
abbrev cr := @List.all_cons
abbrev cu := @List.map_append
abbrev cv := @List.mem_of_mem_take
abbrev cw := @Option.map_some
abbrev cx := @Bool.false_or
abbrev cy := @cond_false
abbrev cz := @cond_true
abbrev cA := @Nat.add_assoc
abbrev cB := @List.drop_zero
theorem uK {p : Prop} (h : p:=by kernel_rfl) : p:=h
structure Wz (p : Prop) : Prop where
 h : p
variable {p q : Prop}
theorem mv (h:p:=by omega):p:=h
theorem mw (h:p:=by decide):p:=h
theorem mx (h:p:=by simp):p:=h
theorem my (h:p:=by repeat (first|exact dn|refine dp ?_|refine dq ?_)):p:=h
theorem mz (h:p:=by repeat (first|exact dx|refine dy ?_)):p:=h
theorem mD (h:p:=by first | rfl | omega | (simp only;omega)):p:=h
theorem mE (h:p:=by repeat (first|exact dx|refine dy ?_|refine dz ?_)):p:=h
theorem mF (h:p:=by classical exact List.perm_iff_count.2 (fun pa=>by simp only[List.count_append,List.count_cons,List.count_nil];omega)):p:=h
theorem mG (h:p:=by simp[hlt]):p:=h
theorem mH (h:p:=by repeat (first|exact dn|refine dp ?_)):p:=h
theorem mI (h:p:=by simp only[a7,a8,rTree,mkR];omega):p:=h
theorem mJ (h:p:=by classical exact List.perm_iff_count.2 (fun pa=>by simp only[List.count_cons];omega)):p:=h
theorem mK (h:p:=by simp;omega):p:=h
theorem mL (h:p:=by simp[hlt']):p:=h
theorem mM (h:p:=by cases e):p:=h
theorem mN (h:p:=by repeat (first|exact dn|refine dq ?_)):p:=h
theorem mO (h:p:=by(simp only[sz_mk,bulkL,a8];omega)):p:=h
theorem mP (h:p:=by simpa using h):p:=h
theorem mQ (h:p:=by simp[eqGuard]):p:=h
theorem mR (h:p:=by first | rfl | omega):p:=h
theorem mS (h:p:=by rw[hnk];simp):p:=h
theorem mU (h:p:=by simp only[a7,a8,rPtr];omega):p:=h
theorem mV (h:p:=by simp only[a7];omega):p:=h
theorem mW (h:p:=by have:=of_decide_eq_true e;omega):p:=h
theorem mX (h:p:=by rw[hh];decide):p:=h
theorem mY (h:p:=by rw[bW,bW];omega):p:=h
theorem mZ (h:p:=by(simp only[bulkL];omega)):p:=h
theorem na (h:p:=by unfold kid;rw[hk];rfl):p:=h
theorem nd (h:p:=by unfold kid;rw[hnk];rfl):p:=h
theorem ne (h:p:=by simpa using hi):p:=h
theorem ng (h:p:=by rw[bW];omega):p:=h
theorem nh (h:p:=by rw[fl_eq];rfl):p:=h
theorem ni (h:p:=by simp[hlt2]):p:=h
theorem nj (h:p:=by simpa using o3):p:=h
theorem nk (h:p:=by rw[hcZ,hZn];rfl):p:=h
theorem nn (h:p:=by rw[hk];simp):p:=h
theorem np (h:p:=by simp[hy]):p:=h
theorem nq (h:p:=by simp[ho]):p:=h
theorem nr (h:p:=by classical exact List.perm_iff_count.2 (fun pa=>by simp only[List.count_append,List.count_cons];omega)):p:=h
theorem nt (h:p:=by simp[cstL]):p:=h
theorem nv (h:p:=by rw[bV];omega):p:=h
theorem nw (h:p:=by have:=dj hk;omega):p:=h
theorem nx (h:p:=by show q+cstL ks≤_;omega):p:=h
theorem ny (h:p:=by(simp only[sz_mk,bulkL];omega)):p:=h
theorem nz (h:p:=by simp only[Item.len];omega):p:=h
theorem nA (h:p:=by simp only;omega):p:=h
theorem nB (h:p:=by rw[bN];omega):p:=h
theorem nC (h:p:=by simp[cstL];omega):p:=h
theorem nD (h:p:=by classical exact List.perm_iff_count.2 (fun pa=>by have pz0:=List.Perm.count_eq h pa;simp only[List.count_append,List.count_cons,List.count_nil]at pz0 ⊢;omega)):p:=h
theorem nE (h:p:=by unfold kid;rw[hy];rfl):p:=h
theorem nF (h:p:=by(simp only[sz_leaf,a8];omega)):p:=h
theorem nG (h:p:=by rw[h]at hr;cases hr):p:=h
theorem nH (h:p:=by rw[←hnm];exact e9):p:=h
theorem nI (h:p:=by rw[hf k (by omega)];exact hx):p:=h
theorem nJ (h:p:=by rw[hq.same f' f k k (hf k (by omega))];exact hx):p:=h
theorem nK (h:p:=by rw[hZ,e];rfl):p:=h
theorem nL (h:p:=by rw[hes,hg];rfl):p:=h
theorem nM (h:p:=by rw[hy];simp):p:=h
theorem nN (h:p:=by decide +kernel):p:=h
theorem nO (h:p:=by first | omega | (simp only;omega)):p:=h
theorem nP (h:p:=by rw[hmg];rfl):p:=h
theorem nQ (h:p:=by(simp only[sz_leaf];omega)):p:=h
theorem nR (h:p:=by(simp only[sz_mk,a8];omega)):p:=h
theorem nS (h:p:=by simp only[a7,a8];omega):p:=h
theorem nU (h:p:=by simp[Item.len]at hl ⊢;omega):p:=h
theorem nV (h:p:=by simp[Item.len]at hj ⊢;omega):p:=h
theorem nW (h:p:=by apply Array.ext';simp):p:=h
theorem nX (h:p:=by simpa[Nat.blt_eq]using hb):p:=h
theorem nY (h:p:=by have:=hy.1;rw[hz]at this;simpa using this):p:=h
theorem nZ (h:p:=by rw[addr_add];exact hr):p:=h
theorem n5 (h:p:=by rw[q3];exact hi):p:=h
theorem n6 (h:p:=by rw[q3];exact h2):p:=h
theorem n8 (h:p:=by rw[q3];exact k2):p:=h
theorem n9 (h:p:=by rw[hr]at h0;cases h0):p:=h
theorem oa (h:p:=by rw[cp];exact hx):p:=h
theorem oc (h:p:=by unfold Lib.bytesWorld World.freeze;split<;>rfl):p:=h
theorem od (h:p:=by simp only[rPtr];omega):p:=h
theorem oe (h:p:=by rw[cj (by simp only[a7];omega)];rfl):p:=h
theorem og (h:p:=by have:=deep_of_kid hx;omega):p:=h
theorem oh (h:p:=by classical exact List.perm_iff_count.2 (fun pa=>by have pz0:=List.Perm.count_eq hX pa;simp only[List.count_append,List.count_cons,List.count_nil]at pz0 ⊢;omega)):p:=h
theorem ol (h:p:=by rw[one_kid h1];rfl):p:=h
theorem oo (h:p:=by rw[show decide (l.length=1)=decide ((sl.len:Int)=1) from decide_eq_decide.2 (by omega)]):p:=h
theorem oq (h:p:=by simp only[rTree,mkR];omega):p:=h
theorem ot (h:p:=by classical exact List.perm_iff_count.2 (fun pa=>by have pz0:=List.Perm.count_eq h pa;simp only[List.count_append,List.count_cons]at pz0 ⊢;omega)):p:=h
theorem ou (h:p:=by simp only[a6,a7,a8];omega):p:=h
theorem ov (h:p:=by simp[Tree.kids]):p:=h
theorem ow (h:p:=by simp[recPair,recoverD,hu]):p:=h
theorem ox (h:p:=by(simp only[sz_mk,szL_app,a8];omega)):p:=h
theorem oy (h:p:=by simp[TA];omega):p:=h
theorem jx (h:q) (e:Wz q→p:=by(intro zz;refine uT ?_;refine uA ?_;exact zz.h)):p:=e ⟨h⟩
theorem jy (h:q) (e:Wz q→p:=by(intro zz;refine ag ⟨rfl,rfl,?_⟩;exact zz.h)):p:=e ⟨h⟩
theorem jz (h:q) (e:Wz q→p:=by(intro zz;refine aa (r':=((i+1:Nat):Int)) uH (by omega) ?_;exact zz.h)):p:=e ⟨h⟩
theorem jA (h:q) (e:Wz q→p:=by(intro zz;refine aa (r':=((k+1:Nat):Int)) uH (by omega) ?_;exact zz.h)):p:=e ⟨h⟩
theorem jB (h:q) (e:Wz q→p:=by(intro zz;refine uB ?_;refine cG ?_;refine cY (size:=1) ?_;refine cY (size:=4) ?_;refine cH (ι:=Nat×Sl×Sl×List Nat×List Tree×Mem×List Item) [0,1,66,67] rfl (fun y=>[(68,.int .i64 (y.1:Int)),(9,y.2.1.v),(10,y.2.2.1.v)]) (fun y=>y.2.2.2.2.2.1) (fun y=>tok y.2.2.1 4::tok y.2.1 1::y.2.2.2.2.2.2) (fun y=>y.1≤l.length∧m≤y.2.2.2.2.2.1∧SlRep rPtr y.2.2.2.2.2.1 y.2.1 y.2.2.2.1∧Own y.2.1∧y.2.2.2.1.length=y.1∧SlRep rTree y.2.2.2.2.2.1 y.2.2.1 y.2.2.2.2.1∧Own y.2.2.1∧y.2.2.2.2.1.length=y.1∧(∀ t∈y.2.2.2.2.1,tg t=true)∧Bun E F sc w (q+cstL (l.drop y.1)) y.2.2.2.2.2.1 y.2.2.2.2.2.2 L∧Z=((l.drop y.1).mapM fun n=>(valC ex (plain sc) n).map X.type).bind fun r=>some (y.2.2.2.2.1++r)) (fun y=>l.length-y.1) (0,⟨none,0,0⟩,⟨none,0,0⟩,[],[],m,T) uH rfl uS ⟨cn _,cC _,cS _ _,cZ,rfl,cS _ _,cZ,rfl,(fun _ h=>by cases h),hB,(by rw[hZ];show _=Option.bind (List.mapM _ (l.drop 0)) _;rw[cB];cases List.mapM (fun n=>(valC ex (plain sc) n).map X.type) l<;>rfl)⟩ ?_;exact zz.h)):p:=e ⟨h⟩
theorem jC (h:q) (e:Wz q→p:=by(intro zz;refine uT ?_;refine uA ?_;refine uM ?_;refine uB ?_;refine cG ?_;refine cY (size:=5) ?_;refine cY (size:=5) ?_;refine cH (ι:=Nat×Sl×Sl×List Fld×List Fld×Mem) [1,4,6,7,20,21,22,41,42] rfl (fun y=>[(43,.int .i64 (y.1:Int))]) (fun y=>y.2.2.2.2.2) (fun y=>tok y.2.1 5::tok y.2.2.1 5::.cells b7 0 (declC ⟨h9.name,decide (h9.kind=3),y.2.1,y.2.2.1⟩)::.cells b6 0 (treeC h9)::bufI s (encs rHD hs)::tok s 4::(toks (hs.map HDecl.methods) 5++(.cells b1 0 (treeC h)::L))) (fun y=>y.1≤n.kids.length∧m1≤y.2.2.2.2.2∧SlRep rField y.2.2.2.2.2 y.2.1 y.2.2.2.1∧Own y.2.1∧SlRep rField y.2.2.2.2.2 y.2.2.1 y.2.2.2.2.1∧Own y.2.2.1∧y.2.2.2.1=(if n.kind=3 then []else (n.kids.take y.1).map fldOf)∧y.2.2.2.2.1=(if n.kind=3 then (n.kids.take y.1).map fldOf else [])) (fun y=>n.kids.length-y.1) (0,nilS,nilS,[],[],m1) uH rfl uS ⟨cn _,cC _,cS _ _,cZ,cS _ _,cZ,by split<;>rfl,by split<;>rfl⟩ ?_;exact zz.h)):p:=e ⟨h⟩
theorem jD (h:q) (e:Wz q→p:=by(intro zz;refine cV tab uC uK [0,1,2] uK rfl ?_;refine ai 3 hme ?_;refine cV tab uC uK [4,5] uK rfl ?_;refine ai 6 hpr ?_;refine cV tab uC uK [7,8,9] uK rfl ?_;exact zz.h)):p:=e ⟨h⟩
theorem jE (h:q) (e:Wz q→p:=by(intro zz;refine uA ?_;refine uT ?_;refine uA ?_;exact zz.h)):p:=e ⟨h⟩
theorem jF (h:q) (e:Wz q→p:=by(intro zz;refine⟨cC _,_,a9 _,?_⟩;exact zz.h)):p:=e ⟨h⟩
theorem jG (h:q) (e:Wz q→p:=by(intro zz;refine cV tab uC uK [0] uK rfl ?_;refine ae 1 0 ?_;refine cV tab uC uK [2] uK rfl ?_;refine af 3 ?_;exact zz.h)):p:=e ⟨h⟩
theorem jH (h:q) (e:Wz q→p:=by(intro zz;refine cV tab uC uK [0,1,2] uK rfl ?_;refine ae 3 0 ?_;refine cV tab uC uK [4,5,6] uK rfl ?_;refine ae 7 0 ?_;exact zz.h)):p:=e ⟨h⟩
theorem jI (h:q) (e:Wz q→p:=by(intro zz;refine aA tab rTree 0 hr4 uH (by first | rfl | omega | (simp only;omega)) uH ?_;exact zz.h)):p:=e ⟨h⟩
theorem jJ (h:q) (e:Wz q→p:=by(intro zz;refine uA ?_;refine uM ?_;refine uA ?_;exact zz.h)):p:=e ⟨h⟩
theorem jK (h:q) (e:Wz q→p:=by(intro zz;refine uT ?_;refine uL ?_;exact zz.h)):p:=e ⟨h⟩
theorem jL (h:q) (e:Wz q→p:=by(intro zz;refine ag ⟨cC _,rfl,?_⟩;exact zz.h)):p:=e ⟨h⟩
theorem jM (h:q) (e:Wz q→p:=by(intro zz;refine aj (k:=2) 0 ?_;refine TC.draw [13] df 14 rfl [E.I (k+1) h,.cells b2 0 [.int .i64 0,strV [],.int .i64 0,.slice none 0 0]] L uP ?_;refine ai (k:=0) 0 hA ?_;refine cV tab uC uK [1,2] uK rfl ?_;refine ae 3 0 ?_;refine ai (k:=0) 4 hA ?_;refine cV tab uC uK [5,6] uK rfl ?_;refine ae 7 0 ?_;refine DO.arith 8 (r':=((k:Nat):Int)) uC uK uK rfl rfl rfl rfl rfl rfl rfl rfl (by first | rfl | omega | (simp only;omega)) (by omega) ?_;refine DO.index tab rTok 9 k hE.rep uC uK uK rfl rfl rfl rfl rfl rfl rfl (by first | rfl | omega) rfl hx ?_;exact zz.h)):p:=e ⟨h⟩
theorem jN (h:q) (e:Wz q→p:=by(intro zz;refine uA ?_;refine TC.drawK (d2:=2) (d3:=3) df rfl rfl uK [] 10 rfl [.cells b8 0 (treeC h9),.cells b2 0 [ptr bp],.cells bp 2 [fs.v]] (.obj fm (mapO kStr es ec)::tok fs 1::tok sb 4::(FunsI fl++(.cells b1 0 (treeC h)::.cells b3 0 [.int .i64 0]::.cells bc 3 [.pointer none,.int .i64 0]::.cells bp 3 [.pointer none]::L))) bhH ?_;refine cV tab dD uK [0] uK rfl ?_;refine aX (k:=1) 1 0 dD ?_;refine aX (k:=0) 2 1 dD ?_;refine cV tab dD uK [3,4] uK rfl ?_;refine aX (k:=0) 5 2 dD ?_;refine cV tab dD uK [6,7] uK rfl ?_;refine af 8 ?_;exact zz.h)):p:=e ⟨h⟩
theorem jO (h:q) (e:Wz q→p:=by(intro zz;refine uA ?_;refine ap tab hA ?_;exact zz.h)):p:=e ⟨h⟩
theorem jP (h:q) (e:Wz q→p:=by(intro zz;refine uA ?_;refine ar tab rTree i hr5 uH (by first | rfl | omega | (simp only;omega)) rfl hx ?_;exact zz.h)):p:=e ⟨h⟩
theorem jQ (h:q) (e:Wz q→p:=by(intro zz;refine cH (ι:=Nat×Int×HTree) [3,4,10,65,66] rfl (fun y=>[(67,.int .i64 (y.1:Int))]) (fun _=>m4) (fun y=>.cells b10 0 (exC 48 y.2.2 n.name y.2.1 sA 0 none none)::.cells b4 0 (treeC zH) ::   .cells b3 0 [.int .i64 h.kind,strV n.name,.int .i64 h.num,h.kids.v]::T1) (fun y=>y.1≤fl.length∧Found m4 (fl.take y.1) n.name y.2.1 y.2.2) (fun y=>fl.length-y.1) (0,-2,zH) uH rfl uS ⟨cn _,.inl ⟨by rw[List.take_zero];rfl,rfl,rfl⟩⟩ ?_;exact zz.h)):p:=e ⟨h⟩
theorem jR (h:q) (e:Wz q→p:=by(intro zz;refine cV tab uC uK [6] uK rfl ?_;refine cW ?_;refine aB 7 ?_;exact zz.h)):p:=e ⟨h⟩
theorem jS (h:q) (e:Wz q→p:=by(intro zz;refine uB ?_;refine cG ?_;exact zz.h)):p:=e ⟨h⟩
theorem jT (h:q) (e:Wz q→p:=by(intro zz;refine uA ?_;refine ag ⟨rfl,rfl,?_⟩;exact zz.h)):p:=e ⟨h⟩
theorem jU (h:q) (e:Wz q→p:=by(intro zz;refine cH (ι:=Nat) [0,1,7] rfl (fun k=>[(8,.int .i64 (k:Int))]) (fun _=>m) (fun _=>L) (fun k=>k≤l.length∧idxP l p 0=idxP (l.drop k) p k) (fun k=>l.length-k) 0 uH rfl uS ⟨cn _,rfl⟩ ?_;exact zz.h)):p:=e ⟨h⟩
theorem jV (h:q) (e:Wz q→p:=by(intro zz;refine ap tab hA ?_;exact zz.h)):p:=e ⟨h⟩
theorem jW (h:q) (e:Wz q→p:=by(intro zz;refine cV tab uC uK [8,9] uK rfl ?_;exact zz.h)):p:=e ⟨h⟩
theorem jX (h:q) (e:Wz q→p:=by(intro zz;refine uA ?_;refine ar tab rTree k h4 uH (by first | rfl | omega | (simp only;omega)) rfl hx ?_;exact zz.h)):p:=e ⟨h⟩
theorem jY (h:q) (e:Wz q→p:=by(intro zz;refine ah hA ?_;refine aA tab rPtr 0 hk uH (by first | rfl | omega | (simp only;omega)) uH ?_;exact zz.h)):p:=e ⟨h⟩
theorem jZ (h:q) (e:Wz q→p:=by(intro zz;refine ag ⟨hm1,rfl,?_⟩;exact zz.h)):p:=e ⟨h⟩
theorem j0 (h:q) (e:Wz q→p:=by(intro zz;refine uA ?_;refine aA tab rTree 0 hS uH (by first | rfl | omega | (simp only;omega)) uH ?_;exact zz.h)):p:=e ⟨h⟩
theorem j3 (h:q) (e:Wz q→p:=by(intro zz;refine qs rfl (OT.mkIface tab rfl rfl rfl rfl rfl ?_);refine qs rfl (OT.errEq tab (info:=Tryz.t197) (.inl rfl) rfl rfl rfl rfl rfl rfl uK rfl rfl ?_);refine uA ?_;exact zz.h)):p:=e ⟨h⟩
theorem j4 (h:q) (e:Wz q→p:=by(intro zz;refine uA ?_;refine TC.drawK (d2:=2) (d3:=3) df rfl rfl uK [10] 11 rfl [.cells b2 0 [ptr bp],.cells bp 2 [fs.v]] _ (bhK hT9) ?_;refine aX (k:=0) 0 0 dD ?_;refine aX (k:=0) 1 0 dD ?_;refine cV tab dD uK [2,3] uK rfl ?_;refine aX (k:=0) 4 1 dD ?_;refine cV tab dD uK [5] uK rfl ?_;refine af 6 ?_;exact zz.h)):p:=e ⟨h⟩
theorem j5 (h:q) (e:Wz q→p:=by(intro zz;refine uM ?_;refine uA ?_;exact zz.h)):p:=e ⟨h⟩
theorem j6 (h:q) (e:Wz q→p:=by(intro zz;refine TO.nil ?_;refine cF ?_;refine TC.seq ?_;exact zz.h)):p:=e ⟨h⟩
theorem j7 (h:q) (e:Wz q→p:=by(intro zz;refine TC.draw [10] df 11 rfl [.cells bx 0 (exC 44 zH hn hu nilS 0 none none),.cells b3 0 (treeC ⟨44,hn,hu,hks⟩)] T1 uP ?_;refine cV tab uC uK [0,1,2,3] uK rfl ?_;refine ai 4 hme ?_;refine cV tab uC uK [5] uK rfl ?_;refine ae 6 1 ?_;refine af 7 ?_;exact zz.h)):p:=e ⟨h⟩
theorem j8 (h:q) (e:Wz q→p:=by(intro zz;refine qs rfl (OT.sidx tab 0 rfl rfl rfl rfl rfl rfl rfl hx ?_);exact zz.h)):p:=e ⟨h⟩
theorem j9 (h:q) (e:Wz q→p:=by(intro zz;refine⟨hm10,_,a9 _,?_⟩;refine cV tab dD uK [8,9] uK rfl ?_;refine cW ?_;refine aB 10 ?_;refine an (k:=0) 1 ?_;refine aH ?_;refine forgetQ_n ?_;refine cF ?_;refine TC.perm bhL ?_;refine TC.drop (List.sublist_cons_self _ _) ?_;exact zz.h)):p:=e ⟨h⟩
theorem ka (h:q) (e:Wz q→p:=by(intro zz;rintro _ _ _ ⟨rfl,rfl,rfl⟩;exact zz.h)):p:=e ⟨h⟩
theorem kb (h:q) (e:Wz q→p:=by(intro zz;refine uA ?_;refine qs rfl (cP tab 4 rfl rfl rfl rfl rfl rfl rfl rfl ?_);refine qs rfl (cP tab 3 rfl rfl rfl rfl rfl rfl rfl rfl ?_);refine qs rfl (cP tab 2 rfl rfl rfl rfl rfl rfl rfl rfl ?_);refine TO.nil ?_;refine cF ?_;refine TC.ret ?_;exact zz.h)):p:=e ⟨h⟩
theorem kc (h:q) (e:Wz q→p:=by(intro zz;refine cV tab uC uK [0,1,2] uK rfl ?_;exact zz.h)):p:=e ⟨h⟩
theorem kg (h:q) (e:Wz q→p:=by(intro zz;refine qs rfl (OT.arithK rfl rfl rfl rfl rfl rfl (r':=63) rfl ?_);refine qs rfl (OT.conv tab rfl rfl rfl rfl rfl rfl (r:=63) rfl ?_);refine qs rfl (OT.shK rfl (.inl rfl) rfl rfl rfl rfl (by decide) (r:=9223372036854775808) (by rfl) ?_);refine uA ?_;exact zz.h)):p:=e ⟨h⟩
theorem kh (h:q) (e:Wz q→p:=by(intro zz;refine uA ?_;refine aa (r':=((i+1:Nat):Int)) uH (by omega) ?_;exact zz.h)):p:=e ⟨h⟩
theorem kj (h:q) (e:Wz q→p:=by(intro zz;refine cV tab uC uK [15,16] uK rfl ?_;refine cW ?_;refine aB 17 ?_;refine an (k:=2) 0 ?_;refine aB 18 ?_;refine OT.pureC tab rfl rfl rfl rfl ?_;refine aH ?_;refine blockQ_n ?_;refine cF ?_;refine aI bqG ?_;exact zz.h)):p:=e ⟨h⟩
theorem km (h:q) (e:Wz q→p:=by(intro zz;refine qs rfl (OT.sub tab 0 (spanOf lod (c::r)) rfl rfl rfl rfl rfl rfl rfl (.inl ⟨rfl,rfl⟩) (.inr rfl) (cn _) hsl ?_);exact zz.h)):p:=e ⟨h⟩
theorem ko (h:q) (e:Wz q→p:=by(intro zz;refine qs rfl (OT.cap (s:=⟨none,0,0⟩) tab rfl rfl rfl rfl rfl ?_);refine uA ?_;refine qs rfl (OT.cutS tab 0 0 (s:=⟨none,0,0⟩) rfl rfl rfl rfl rfl rfl rfl (.inl ⟨rfl,rfl⟩) (.inr rfl) (bF _) (bF _) ?_);refine uA ?_;exact zz.h)):p:=e ⟨h⟩
theorem kq (h:q) (e:Wz q→p:=by(intro zz;refine ai 10 hA5 ?_;refine cV tab uC uK [11,12,13] uK rfl ?_;refine ai 14 hA6 ?_;refine af 15 (cR rfl rfl rfl rfl rfl rfl goes211 ((tcomp_law k.type k2.type E.bt E.cc E.es E.tbl _ _ g5 g6 hr5 hr6 hC.tbl.tb hC.tbl.tr).x ?_));exact zz.h)):p:=e ⟨h⟩
theorem kr (h:q) (e:Wz q→p:=by(intro zz;refine cV tab dD uK [6,7] uK rfl ?_;refine cW ?_;refine aB 8 ?_;refine an (k:=0) 2 ?_;refine aH ?_;refine forgetQ_n ?_;refine aR ?_;refine al (k:=0) 0 ?_;refine aP (k:=0) 2 ?_;refine aW (e:=114) ?_;exact zz.h)):p:=e ⟨h⟩
theorem ku (h:q) (e:Wz q→p:=by(intro zz;refine au goes195 (dg _ _ s[k]) ?_;refine qs rfl (OT.arithK rfl rfl rfl rfl rfl rfl (u8_in (by omega) (by omega)) ?_);refine aG (r':=((lowerN s[k]-97+10:Nat):Int)) uH (by rw[u8_in (by omega) (by omega)];omega) ?_;exact zz.h)):p:=e ⟨h⟩
theorem kw (h:q) (e:Wz q→p:=by(intro zz;refine cH (ι:=Nat) [0,9,10] rfl (fun k=>[(11,.int .i64 (k:Int)),(3,.int .i64 ((((ls.take k).map List.length).sum:Nat):Int))]) (fun _=>m) (fun _=>L) (fun k=>k≤ls.length) (fun k=>ls.length-k) 0 uH rfl uS (cn _) ?_;exact zz.h)):p:=e ⟨h⟩
theorem kx (h:q) (e:Wz q→p:=by(intro zz;refine cH (ι:=Nat) [0,29,30] rfl (fun k=>[(31,.int .i64 (k:Int))]) (fun _=>m) (fun _=>L) (fun k=>k≤a.kids.length∧(a.kids.take k).all (tknown (mhas es))=true) (fun k=>a.kids.length-k) 0 uH rfl uS ⟨cn _,rfl⟩ ?_;exact zz.h)):p:=e ⟨h⟩
theorem kA (h:q) (e:Wz q→p:=by(intro zz;refine aa (r':=((j+1:Nat):Int)) uH (by omega) ?_;exact zz.h)):p:=e ⟨h⟩
theorem kB (h:q) (e:Wz q→p:=by(intro zz;refine uA ?_;refine qs rfl (OT.ptrNil (e:=118) tab rfl rfl rfl rfl rfl rfl ?_);exact zz.h)):p:=e ⟨h⟩
theorem kC (h:q) (e:Wz q→p:=by(intro zz;refine qs rfl (OT.cap (s:=⟨none,0,0⟩) tab rfl rfl rfl rfl rfl ?_);refine uA ?_;refine aa (r':=((0:Nat):Int)) uH (by omega) ?_;refine aQ (r':=(n:Int)) uH (by simp) (by omega) ?_;exact zz.h)):p:=e ⟨h⟩
theorem kD (h:q) (e:Wz q→p:=by(intro zz;refine⟨cC _,_,da,?_⟩;refine cV tab dD uK [9] uK rfl ?_;refine aV ?_;refine forgetQ_n ?_;refine cF ?_;refine aI bhF ?_;refine al (k:=3) 1 ?_;refine al (k:=3) 1 ?_;exact zz.h)):p:=e ⟨h⟩
theorem kE (h:q) (e:Wz q→p:=by(intro zz;refine uA ?_;refine uT ?_;exact zz.h)):p:=e ⟨h⟩
theorem kF (h:q) (e:Wz q→p:=by(intro zz;refine uA ?_;refine qs rfl (OT.loadL0 tab (i+1) rfl rfl rfl rfl hi rfl ?_);refine aa (r':=z-1) uH (by omega) ?_;refine qs rfl (cP tab (i+1) rfl rfl rfl rfl rfl rfl hi rfl ?_);exact zz.h)):p:=e ⟨h⟩
theorem kG (h:q) (e:Wz q→p:=by(intro zz;refine qs rfl (OT.arithK rfl rfl rfl rfl rfl rfl (r':=9223372036854775807) rfl ?_);refine qs rfl (OT.conv tab rfl rfl rfl rfl rfl rfl (r:=9223372036854775807) rfl ?_);refine ax ?_;refine ag ⟨hm1,rfl,?_⟩;exact zz.h)):p:=e ⟨h⟩
theorem kH (h:q) (e:Wz q→p:=by(intro zz;refine aL [7] df 8 [.cells b3 0 [.int .i64 25,strV [],.int .i64 0,s3.v]] (E.I (k3+1) 0::tok s3 4::.cells b2 0 [.int .i64 0,strV [],.int .i64 0,.slice none 0 0]::L) (ba _ _ _) ?_;exact zz.h)):p:=e ⟨h⟩
theorem kI (h:q) (e:Wz q→p:=by(intro zz;refine uA ?_;refine ah hA2 ?_;exact zz.h)):p:=e ⟨h⟩
theorem kJ (h:q) (e:Wz q→p:=by(intro zz;refine uA ?_;refine ar tab rTree k hs uH (by first | rfl | omega | (simp only;omega)) rfl hx ?_;exact zz.h)):p:=e ⟨h⟩
theorem kK (h:q) (e:Wz q→p:=by(intro zz;refine qs rfl (OT.concat (u:=[10,125,32,102,117,110,99,32,109,97,105,110,40,41,32,123,32,125]) rfl rfl rfl rfl rfl (by simp only[a6,a7,a8];omega) ?_);rw[text_eq];refine uA ?_;exact zz.h)):p:=e ⟨h⟩
theorem kL (h:q) (e:Wz q→p:=by(intro zz;refine ai 10 hA2 ?_;refine af 11 (cR rfl rfl rfl rfl rfl rfl goes209 ((tfields_law k.type (fun e=>tg_one hg2 (.inl e)) E.bt E.cc E.es E.tbl _ _ g2 hr5 hC.tbl.tb hC.tbl.tr).x ?_));exact zz.h)):p:=e ⟨h⟩
theorem kM (h:q) (e:Wz q→p:=by(intro zz;refine cV tab uC uK [0] uK rfl ?_;exact zz.h)):p:=e ⟨h⟩
theorem kN (h:q) (e:Wz q→p:=by(intro zz;refine uA ?_;refine ag ⟨cC _,rfl,?_⟩;exact zz.h)):p:=e ⟨h⟩
theorem kO (h:q) (e:Wz q→p:=by(intro zz;refine cV tab uC uK [5] uK rfl ?_;refine cW ?_;refine aB 6 ?_;exact zz.h)):p:=e ⟨h⟩
theorem kP (h:q) (e:Wz q→p:=by(intro zz;refine aL [7] df 8 [.cells b3 0 [.int .i64 26,strV [],.int .i64 0,s.v]] (E.I (k+1) 0::tok s 4::.cells b2 0 [.int .i64 0,strV [],.int .i64 0,s.v]::L) (ba _ _ _) ?_;exact zz.h)):p:=e ⟨h⟩
theorem kQ (h:q) (e:Wz q→p:=by(intro zz;refine cV tab uC uK [10] uK rfl ?_;refine ai 11 hA2 ?_;refine cV tab uC uK [12] uK rfl ?_;refine cW ?_;refine aB 13 ?_;refine aD 1 ?_;refine aH ?_;exact zz.h)):p:=e ⟨h⟩
theorem kR (h:q) (e:Wz q→p:=by(intro zz;refine al (k:=1) 2 ?_;refine aa (r':=((w+1:Nat):Int)) uH (by omega) ?_;refine qs rfl (cO (k:=1) tab 2 rfl rfl rfl rfl rfl rfl rfl rfl ?_);refine uL ?_;exact zz.h)):p:=e ⟨h⟩
theorem kS (h:q) (e:Wz q→p:=by(intro zz;refine ar tab rTree 0 h4 uH (by first | rfl | omega | (simp only;omega)) rfl (hx0 e5) ?_;exact zz.h)):p:=e ⟨h⟩
theorem kT (h:q) (e:Wz q→p:=by(intro zz;refine cV tab uC uK [11,12] uK rfl ?_;exact zz.h)):p:=e ⟨h⟩
theorem kU (h:q) (e:Wz q→p:=by(intro zz;refine uA ?_;refine cI rfl (L':=L) (List.sublist_append_right _ _) ⟨hmm,rfl,?_⟩;exact zz.h)):p:=e ⟨h⟩
theorem kV (h:q) (e:Wz q→p:=by(intro zz;refine blockQ_n ?_;refine cF ?_;exact zz.h)):p:=e ⟨h⟩
theorem kW (h:q) (e:Wz q→p:=by(intro zz;refine qs rfl (cR (all:=[treeV hd]) rfl rfl rfl rfl rfl (by rw[fl_eq];rfl) hpp.1 ((hpp.2 _ _ hd a.kids[k] (bL hlt) (rTree_iff.1 hrd)).x ?_));rintro _ _ _ ⟨rfl,rfl,rfl⟩;refine uA ?_;exact zz.h)):p:=e ⟨h⟩
theorem kY (h:q) (e:Wz q→p:=by(intro zz;refine ar tab rTree 0 hr6 uH (by first | rfl | omega | (simp only;omega)) rfl hx0 ?_;exact zz.h)):p:=e ⟨h⟩
theorem kZ (h:q) (e:Wz q→p:=by(intro zz;refine ar tab rTree 0 h4 uH (by first | rfl | omega | (simp only;omega)) rfl hx ?_;exact zz.h)):p:=e ⟨h⟩
theorem la (h:q) (e:Wz q→p:=by(intro zz;refine uA ?_;refine oR goes101 (span_law m1 _ (c::r) (by omega) lod 140 _ ⟨goes140,fun b=>either_cl m1 _ b e1 e2 hA1 hA2⟩) ?_;refine uA ?_;exact zz.h)):p:=e ⟨h⟩
theorem lb (h:q) (e:Wz q→p:=by(intro zz;refine cV tab uC uK [0,1,2,3] uK rfl ?_;refine ae (k:=5) 4 1 ?_;refine cV tab uC uK [5] uK rfl ?_;refine ae (k:=0) 6 0 ?_;refine af 7 ?_;exact zz.h)):p:=e ⟨h⟩
theorem lc (h:q) (e:Wz q→p:=by(intro zz;refine uA ?_;refine ax ?_;refine ag ⟨hm1,rfl,?_⟩;exact zz.h)):p:=e ⟨h⟩
theorem ld (h:q) (e:Wz q→p:=by(intro zz;refine qs rfl (OT.sub tab n s.length rfl rfl rfl rfl rfl rfl rfl (.inr rfl) (.inl ⟨rfl,rfl⟩) (by omega) (by omega) ?_);rw[List.take_length];exact zz.h)):p:=e ⟨h⟩
theorem lg (h:q) (e:Wz q→p:=by(intro zz;refine aA tab rPtr 0 hsA uH (by first | rfl | omega | (simp only;omega)) uH ?_;exact zz.h)):p:=e ⟨h⟩
theorem lh (h:q) (e:Wz q→p:=by(intro zz;refine uA ?_;refine qs rfl (OT.cutP tab 0 0 rfl rfl rfl rfl rfl rfl rfl (.inl ⟨rfl,rfl⟩) (.inr rfl) (bF _) (cn _) ?_);refine uA ?_;exact zz.h)):p:=e ⟨h⟩
theorem li (h:q) (e:Wz q→p:=by(intro zz;refine uA ?_;refine aa (r':=(((i+1)+1:Nat):Int)) uH (by omega) ?_;exact zz.h)):p:=e ⟨h⟩
theorem lj (h:q) (e:Wz q→p:=by(intro zz;simp only[Option.bind_some];exact zz.h)):p:=e ⟨h⟩
theorem lk (h:q) (e:Wz q→p:=by(intro zz;refine aK (.inr ⟨_,_,rfl⟩) ?_;exact zz.h)):p:=e ⟨h⟩
theorem ll (h:q) (e:Wz q→p:=by(intro zz;refine cV tab uC uK [10,11] uK rfl ?_;exact zz.h)):p:=e ⟨h⟩
theorem ln (h:q) (e:Wz q→p:=by(intro zz;refine ae 3 0 ?_;refine cV tab uC uK [5,6,7] uK rfl ?_;refine ae 8 0 ?_;refine cV tab uC uK [9] uK rfl ?_;refine af 4 ?_;exact zz.h)):p:=e ⟨h⟩
theorem lq (h:q) (e:Wz q→p:=by(intro zz;refine au goes66 (containsFunc_node _ _ h.kids a.kids (breaksD f) 53 [] goes53 h4 (fun x k hk hx=>ih k hk _ _ x (rTree_iff.1 hx))) ?_;refine ag ⟨rfl,rfl,?_⟩;exact zz.h)):p:=e ⟨h⟩
theorem lr (h:q) (e:Wz q→p:=by(intro zz;refine uA ?_;refine uM ?_;exact zz.h)):p:=e ⟨h⟩
theorem lu (h:q) (e:Wz q→p:=by(intro zz;refine TO.tokFo hc ho 4 ?_;refine aJ (ba _ _ _) ?_;exact zz.h)):p:=e ⟨h⟩
theorem lw (h:q) (e:Wz q→p:=by(intro zz;refine congrArg Value.bool ?_;exact zz.h)):p:=e ⟨h⟩
theorem ly (h:q) (e:Wz q→p:=by(intro zz;refine uA ?_;refine ah hA5 ?_;exact zz.h)):p:=e ⟨h⟩
theorem lz (h:q) (e:Wz q→p:=by(intro zz;refine aj (k:=3) 1 ?_;refine uM ?_;refine uA ?_;refine aq 3 ?_;exact zz.h)):p:=e ⟨h⟩
theorem lA (h:q) (e:Wz q→p:=by(intro zz;refine uB ?_;refine cG ?_;refine cY (size:=1) ?_;exact zz.h)):p:=e ⟨h⟩
theorem lB (h:q) (e:Wz q→p:=by(intro zz;refine ap tab hA9 ?_;exact zz.h)):p:=e ⟨h⟩
theorem lC (h:q) (e:Wz q→p:=by(intro zz;refine⟨cC _,_,da,?_⟩;exact zz.h)):p:=e ⟨h⟩
theorem lD (h:q) (e:Wz q→p:=by(intro zz;refine TCall.forget ?_;exact zz.h)):p:=e ⟨h⟩
theorem lE (h:q) (e:Wz q→p:=by(intro zz;refine⟨cC _,E.I (k+1+1) h::.cells b2 0 [.int .i64 0,strV [],.int .i64 0,.slice none 0 0]::L,ba _ _ _,?_⟩;exact zz.h)):p:=e ⟨h⟩
theorem lF (h:q) (e:Wz q→p:=by(intro zz;refine uA ?_;refine ag ⟨hm1,rfl,?_⟩;exact zz.h)):p:=e ⟨h⟩
theorem lG (h:q) (e:Wz q→p:=by(intro zz;refine⟨hle1,_,a9 _,?_⟩;refine cV tab uC uK [4] uK rfl ?_;exact zz.h)):p:=e ⟨h⟩
theorem lH (h:q) (e:Wz q→p:=by(intro zz;refine qs rfl (OT.half (r:=a.num / 2) rfl rfl rfl rfl rfl (by decide) (Int.fdiv_eq_ediv_of_nonneg _ (by decide)) ?_);exact zz.h)):p:=e ⟨h⟩
theorem lI (h:q) (e:Wz q→p:=by(intro zz;rw[hA2];refine leaves_cons (by simp) (invoke_goes goes29) ?_;exact zz.h)):p:=e ⟨h⟩
theorem lJ (h:q) (e:Wz q→p:=by(intro zz;refine uL ?_;refine oR goes88 (tknown_law bt cc es hT.ok a _ _ h hr ho) ?_;rw[hT.hasF];refine uA ?_;exact zz.h)):p:=e ⟨h⟩
theorem lK (h:q) (e:Wz q→p:=by(intro zz;refine aU [] df 16 ?_;refine cV tab uC uK [0,1,2,3,4,5,6,7,8,9,10,11,12,13,14,15] uK rfl ?_;refine aN ?_;exact zz.h)):p:=e ⟨h⟩
theorem lL (h:q) (e:Wz q→p:=by(intro zz;refine aF (L':=L) 0 ⟨hm1,rfl,?_⟩;exact zz.h)):p:=e ⟨h⟩
theorem lM (h:q) (e:Wz q→p:=by(intro zz;refine uA ?_;refine uT ?_;refine uA ?_;refine aF (L':=L) 0 ⟨hm12,rfl,?_⟩;exact zz.h)):p:=e ⟨h⟩
theorem lN (h:q) (e:Wz q→p:=by(intro zz;refine uT ?_;refine uL ?_;refine uT ?_;refine uL ?_;refine cY (size:=4) ?_;exact zz.h)):p:=e ⟨h⟩
theorem lO (h:q) (e:Wz q→p:=by(intro zz;refine ag ⟨hm,rfl,?_⟩;exact zz.h)):p:=e ⟨h⟩
theorem lP (h:q) (e:Wz q→p:=by(intro zz;refine au goes34 (pall_law _ _ s a.kids h4 161 g.expr hE) ?_;exact zz.h)):p:=e ⟨h⟩
theorem lQ (h:q) (e:Wz q→p:=by(intro zz;refine uA ?_;refine aa (r':=((k+1:Nat):Int)) uH (by omega) ?_;exact zz.h)):p:=e ⟨h⟩
theorem lR (h:q) (e:Wz q→p:=by(intro zz;refine uA ?_;refine uM ?_;refine uA ?_;refine aq 3 ?_;exact zz.h)):p:=e ⟨h⟩
theorem lS (h:q) (e:Wz q→p:=by(intro zz;refine DO.index tab rTok 8 k hE.rep uC uK uK rfl rfl rfl rfl rfl rfl rfl (by first | rfl | omega) rfl hx ?_;exact zz.h)):p:=e ⟨h⟩
theorem lT (h:q) (e:Wz q→p:=by(intro zz;rw[hspec];refine uL ?_;exact zz.h)):p:=e ⟨h⟩
theorem lU (h:q) (e:Wz q→p:=by(intro zz;refine uA ?_;refine qs rfl (OT.sidx tab (i+1) rfl rfl rfl rfl rfl rfl rfl hx2 ?_);refine uA ?_;exact zz.h)):p:=e ⟨h⟩
theorem lV (h:q) (e:Wz q→p:=by(intro zz;refine uA ?_;refine ah hA ?_;exact zz.h)):p:=e ⟨h⟩
theorem lW (h:q) (e:Wz q→p:=by(intro zz;refine cV tab uC uK [4,5] uK rfl ?_;exact zz.h)):p:=e ⟨h⟩
theorem lX (h:q) (e:Wz q→p:=by(intro zz;refine uB ?_;refine cG ?_;refine uB ?_;refine ar tab rByte k hsb uH (by first | rfl | omega | (simp only;omega)) rfl hx ?_;exact zz.h)):p:=e ⟨h⟩
theorem lY (h:q) (e:Wz q→p:=by(intro zz;refine wpS_rec (d0:=5) (d1:=2) rfl rfl rfl rfl rfl rfl (cg (by decide:5<16) h0.size) ?_;rw[hrp];exact zz.h)):p:=e ⟨h⟩
theorem lZ (h:q) (e:Wz q→p:=by(intro zz;refine wpS_rec (d0:=6) (d1:=3) rfl rfl rfl rfl rfl rfl (cg (by decide:6<20) h0.size) ?_;rw[hrp];exact zz.h)):p:=e ⟨h⟩
theorem l5 (h:q) (e:Wz q→p:=by(intro zz;refine uA ?_;refine ar tab rField i hsf uH (by first | rfl | omega | (simp only;omega)) rfl hx ?_;exact zz.h)):p:=e ⟨h⟩
theorem l6 (h:q) (e:Wz q→p:=by(intro zz;refine uA ?_;refine ar tab rTree i hsn2 uH (by first | rfl | omega | (simp only;omega)) rfl hx ?_;exact zz.h)):p:=e ⟨h⟩
theorem l7 (h:q) (e:Wz q→p:=by(intro zz;refine uA ?_;refine ar tab rField j hu uH (by first | rfl | omega | (simp only;omega)) rfl hxj ?_;exact zz.h)):p:=e ⟨h⟩
theorem l8 (h:q) (e:Wz q→p:=by(intro zz;refine uA ?_;refine ar tab rTree i hS1 uH (by first | rfl | omega | (simp only;omega)) rfl hx ?_;exact zz.h)):p:=e ⟨h⟩
theorem mc (h:q) (e:Wz q→p:=by(intro zz;refine cV tab uC uK [11] uK rfl ?_;exact zz.h)):p:=e ⟨h⟩
theorem mf (h:q) (e:Wz q→p:=by(intro zz;refine qs rfl (OT.conv tab rfl rfl rfl rfl rfl rfl (r:=(d:Int)) (u64_in (by omega) (by omega)) ?_);exact zz.h)):p:=e ⟨h⟩
theorem mg (h:q) (e:Wz q→p:=by(intro zz;refine uA ?_;refine ar tab rDecl k hs uH (by first | rfl | omega | (simp only;omega)) rfl hx ?_;exact zz.h)):p:=e ⟨h⟩
theorem mh (h:q) (e:Wz q→p:=by(intro zz;refine uA ?_;refine aL [] df 11 [] _ (a9 _) ?_;refine cV tab uC uK [0,1,2,3,5,6] uK rfl ?_;exact zz.h)):p:=e ⟨h⟩
theorem mi (h:q) (e:Wz q→p:=by(intro zz;refine uA ?_;refine ar tab rFn k hf uH (by first | rfl | omega | (simp only;omega)) rfl hx2 ?_;exact zz.h)):p:=e ⟨h⟩
theorem mj (h:q) (e:Wz q→p:=by(intro zz;rw[(lim_fix _).1];exact zz.h)):p:=e ⟨h⟩
theorem ml (h:q) (e:Wz q→p:=by(intro zz;refine oR goes88 (tknown_law bt cc es hT.ok c _ _ g gr ho) ?_;rw[hT.hasF];refine uA ?_;exact zz.h)):p:=e ⟨h⟩
theorem mm (h:q) (e:Wz q→p:=by(intro zz;refine uL ?_;refine aA tab rTree 0 h4 uH (by first | rfl | omega | (simp only;omega)) uH ?_;exact zz.h)):p:=e ⟨h⟩
theorem mn (h:q) (e:Wz q→p:=by(intro zz;refine aj (k:=3) 0 ?_;exact zz.h)):p:=e ⟨h⟩
theorem mo (h:q) (e:Wz q→p:=by(intro zz;refine uL ?_;refine qs rfl (OT.lookupP tab kStr x.name rfl rfl rfl rfl rfl rfl rfl ho ?_);exact zz.h)):p:=e ⟨h⟩
theorem mq (h:q) (e:Wz q→p:=by(intro zz;refine uL ?_;refine oC goes83 ((ofN_law a (okT_node hok) _ _ h hr (okT_size hok)).x ?_);exact zz.h)):p:=e ⟨h⟩
theorem mr (h:q) (e:Wz q→p:=by(intro zz;refine af 18 ?_;refine aD 2 ?_;refine⟨cC _,_,a9 _,?_⟩;refine cV tab uC uK [19] uK rfl ?_;refine aV ?_;exact zz.h)):p:=e ⟨h⟩
theorem mt (h:q) (e:Wz q→p:=by(intro zz;refine⟨cC _,_,a9 _,?_⟩;refine af 4 ?_;refine OT.loadL (k:=1) tab 0 rfl rfl rfl rfl rfl rfl ?_;refine⟨cC _,_,a9 _,?_⟩;refine cV tab uC uK [8,9] uK rfl ?_;refine af 10 ?_;exact zz.h)):p:=e ⟨h⟩
theorem mu (h:q) (e:Wz q→p:=by(intro zz;refine TO.nil ?_;refine cF ?_;exact zz.h)):p:=e ⟨h⟩
theorem dE (h:p:=by
 skip;refine uA ?_;refine az (fun h4=>?_) (fun h4=>?_)
 ·refine uA ?_;refine am (fun h6=>?_) (fun h6=>?_)
  ·refine uA ?_;refine aG (r':=((s[k].toNat-48:Nat):Int)) uH (by rw[u8_in mv mv];omega) ?_;exact⟨s[k].toNat-48,uH,uH,rfl,rfl,uS,dv_dig mv mv⟩
  ·have h0:¬(48≤s[k].toNat∧s[k].toNat≤57):=mv;refine uA ?_;refine au goes195 (dg _ _ s[k]) ?_;refine az (fun h5=>?_) (fun h5=>?_)
   ·refine uA ?_;refine au goes195 (dg _ _ s[k]) ?_;refine am (fun h6=>?_) (fun h6=>?_)
    ·refine uA ?_;refine ku ?_;exact⟨lowerN s[k]-97+10,uH,uH,rfl,rfl,uS,dv_low h0 mv mv⟩
    ·skip;refine lc ?_;exact .inr ⟨hI.trans (pU_none hlt (dv_none h0 mv)),_,2,.inr rfl,rfl⟩
   ·skip;refine lc ?_;exact .inr ⟨hI.trans (pU_none hlt (dv_none h0 mv)),_,2,.inr rfl,rfl⟩
 ·have h0:¬(48≤s[k].toNat∧s[k].toNat≤57):=mv;refine uA ?_;refine au goes195 (dg _ _ s[k]) ?_;refine az (fun h5=>?_) (fun h5=>?_)
  ·refine uA ?_;refine au goes195 (dg _ _ s[k]) ?_;refine am (fun h6=>?_) (fun h6=>?_)
   ·refine uA ?_;refine ku ?_;exact⟨lowerN s[k]-97+10,uH,uH,rfl,rfl,uS,dv_low h0 mv mv⟩
   ·skip;refine lc ?_;exact .inr ⟨hI.trans (pU_none hlt (dv_none h0 mv)),_,2,.inr rfl,rfl⟩
  ·skip;refine lc ?_;exact .inr ⟨hI.trans (pU_none hlt (dv_none h0 mv)),_,2,.inr rfl,rfl⟩):p:=h
theorem dF (h:p:=by
 simp only[cy]at hT;refine uA ?_;refine au goes144 (peek_law [59] hE hk) ?_;cases hb3:Ps.isM [59] E.f k1 with
 | false =>
  refine uA ?_;have hT:T = .bad k1:=by
   rw[hT];cases Ps.isC1 l
   ·rfl
   ·exact Ps.peek_f' hb3
  refine qs rfl (OT.stopP (L0:=L) hT hE hk mE hm uS rfl rfl rfl rfl rfl rfl)
 | true =>
  refine jO ?_;refine aE (b:=decide (((s.len:Nat):Int)=1)) (fun h1=>?_) (fun h1=>?_)
  ·have h1':l.length=1:=by have:=of_decide_eq_true h1;omega
   obtain⟨t0,rfl⟩:=List.length_eq_one_iff.1 h1';refine jO ?_;refine ar tab rTree 0 hs uH mD rfl (by rfl) ?_;rintro bx ix hx' hrx hAx;have hrx':=rTree_iff.1 hrx;refine uA ?_;refine ah hAx ?_;rw[hrx'.kind];refine am (fun h2=>?_) (fun h2=>?_)
   ·have hT:T = .ok (Tree.mk 24 [] 0 [t0]) k1:=by
     rw[hT,show Ps.isC1 [t0]=true from bQ h2];exact Ps.peek_t' hb3
    refine jO ?_;refine lz ?_;refine aw (L':=E.I k1 0::L) 3 ⟨_,k1,[],hT,hm,hk,⟨⟨24,[],0,s⟩,rfl,rfl,⟨rfl,rfl,rfl,hs⟩⟩,rfl⟩
   ·have hT:T = .bad k1:=by
     rw[hT,show Ps.isC1 [t0]=false from bR h2];rfl
    refine uA ?_;refine qs rfl (OT.stopP (L0:=L) hT hE hk mE hm uS rfl rfl rfl rfl rfl rfl)
  ·have hT:T = .bad k1:=by
    rw[hT];have h1':¬l.length=1:=by have:=of_decide_eq_false h1;omega
    have:Ps.isC1 l=false:=by
     unfold Ps.isC1;split
     ·exact absurd rfl h1'
     ·rfl
    rw[this];rfl
   refine uA ?_;refine qs rfl (OT.stopP (L0:=L) hT hE hk mE hm uS rfl rfl rfl rfl rfl rfl)):p:=h
theorem dG (h:p:=by
 rintro⟨k,t,m1⟩ ⟨hk,ht,hown,hm1⟩;simp only at hk ht hown hm1 ⊢;have h41:=h4.mono hm1;simp only at hl hsm;refine uA ?_;refine am (fun hlt'=>?_) (fun hlt'=>?_)
 ·have hlt:k<a.kids.length:=mv;have hx:a.kids[k]? = some a.kids[k]:=mG;have hmem:=bL hlt;refine uA ?_;refine ar tab rTree k h41 uH mD rfl hx ?_;rintro b' i' h' hrd hA;refine jV ?_;refine aC tab (fun b5=>?_);refine jx ?_;generalize hcx:a.kids[k]=c at *;refine TC.perm (ba _ _ _) ?_;refine aL [7] df 8 (_::_::_::_::L) [tok t 4] perm_last ?_;refine kM ?_;refine ae 1 1 ?_;refine ae (k:=0) 2 0 ?_;refine af 3 (cR rfl rfl rfl rfl rfl rfl goes83 ((ih c hmem (hkn c hmem) _ _ h' (rTree_iff.1 hrd) (bG (Nat.le_of_lt (Pt.kid_size hmem)) hB)).x ?_));rintro _ m2 _ ⟨hm2,rfl,ht2,rfl,hrt⟩;refine⟨hm2,_,a9 _,?_⟩;refine af 4 ?_;refine OT.lit tab rfl rfl rfl rfl (fun bl=>?_);refine⟨cC _,_,da,?_⟩;refine af 5 ?_;refine c8 List.perm_append_comm (OT.append1 tab rTree 0 (hd':=ht2) (a:=c.ofT) (ht.mono hm2) hown (rTree_iff.2 hrt) rfl rfl rfl rfl rfl rfl rfl (by simp only[rTree,mkR,bN,bV];omega) (fun t' m3 hm3 ht' hown'=>?_));refine⟨hm3,_,perm_last,?_⟩;refine jR ?_;refine an 1 ?_;refine aH ?_
  rotate_left 1
  refine uA ?_;refine cM perm_f4 ?_;refine jA ?_;refine⟨⟨k+1,t',m3⟩,uH,uH,rfl,rfl,uS,⟨by simp only;omega,?_,hown',cD hm1 (cD hm2 hm3)⟩,by simp only;omega⟩;simp only;rw[cq hlt,hcx,cu];exact ht'
 ·refine uL ?_;refine jx ?_;refine aw 2 ⟨hm1,rfl,⟨_,[],u,t⟩,rfl,rfl,rfl,h3,?_⟩;rw[cj mv]at ht;exact ht):p:=h
theorem dH (h:p:=by
 refine uA ?_;refine az (fun es=>?_) (fun es=>?_)
 ·rw[bQ es]at hZ;refine ly ?_;refine az (fun e12=>?_) (fun e12=>?_)
  ·rw[bQ e12]at hZ;refine uA ?_;refine qs rfl (du (b:=true) (L0:=L) mN hm (dm [_,_] hB.hs) (hZ.trans (mapB _ _)) rfl rfl rfl rfl rfl rfl (fun e hZ=>?_));refine uA ?_;refine cJ rfl (L':=.cells b 0 (exC 53 hB2 n.name n.num sA 0 none none)::T2) uS ⟨_,_,T2,hZ,hm,dr (x:=⟨53,tk 2,false,0,false⟩) hrB (tg_leaf _ _ _ mv) ⟨fun e=>by omega,fun e=>by cases e⟩ mx mx mx mx mx mx (fun _ _=>rfl),rfl,hB⟩
  ·rw[bR e12]at hZ;refine ly ?_;refine qs rfl (du (b:=(decide (g5.kind=3))) (L0:=L) mN hm (dm [_,_] hB.hs) (hZ.trans (mapB _ _)) rfl rfl rfl rfl rfl rfl (fun e hZ=>?_));refine uA ?_;refine cJ rfl (L':=.cells b 0 (exC 53 hB2 n.name n.num sA 0 none none)::T2) uS ⟨_,_,T2,hZ,hm,dr (x:=⟨53,tk 2,false,0,false⟩) hrB (tg_leaf _ _ _ mv) ⟨fun e=>by omega,fun e=>by cases e⟩ mx mx mx mx mx mx (fun _ _=>rfl),rfl,hB⟩
 ·rw[bR es]at hZ;refine uA ?_;refine qs rfl (du (b:=false) (L0:=L) mN hm (dm [_,_] hB.hs) (hZ.trans (mapB _ _)) rfl rfl rfl rfl rfl rfl (fun e hZ=>?_));cases e):p:=h
theorem dI (h:p:=by
 obtain⟨-,b,rfl,hX⟩:=hV;obtain⟨t3,k3,v3,f3,⟨⟨g3,num3,how3,hr3,hA3,-⟩,hg3⟩⟩:=hX.eb;replace hs1:=hs1.mono hm2;replace hs2:=hs2.mono hm2;replace hS1:=hS1.mono hm2;refine uA ?_;refine aL [] df 13 [] _ (a9 _) ?_;refine cV tab uC uK [0,1,4,5,6,7] uK rfl ?_;refine ai (k:=1) 8 hA3 ?_;refine DO.fork 2 [9] uK ⟨⟨_,rfl,rfl,rfl,?_⟩,⟨_,rfl,rfl,rfl,?_⟩,trivial⟩
 ·refine de tab rPtr (hs:=[b]) (l:=[b]) ⟨rfl,trivial⟩ rfl rfl rfl rfl rfl mw (fun sA m3 h3 hsA _ _=>?_);refine⟨h3,_,a9 _,?_⟩;refine DO.fork 3 [9] uK ⟨⟨_,rfl,rfl,rfl,?_⟩,⟨_,rfl,rfl,rfl,?_⟩,trivial⟩
  ·refine cU tab rPtr 2 (hs1.mono h3) ho1 hsA rfl rfl rfl rfl rfl rfl rfl mU (fun s1' m4 h4 hs1' ho1'=>?_);refine⟨h4,_,a9 _,?_⟩;refine af 9 ?_;refine de tab rTree (hs:=[g3]) (l:=[x.type]) ⟨rTree_iff.2 (((hr3.mono h3).mono h4)),trivial⟩ rfl rfl rfl rfl rfl mw (fun sB m5 h5 hsB _ _=>?_);refine⟨h5,_,a9 _,?_⟩;refine af 10 ?_;refine cU tab rTree 1 (((hs2.mono h3).mono h4).mono h5) ho2 hsB rfl rfl rfl rfl rfl rfl rfl mI (fun s2' m6 h6 hs2' ho2'=>?_);refine⟨h6,_,a9 _,?_⟩;refine kT ?_;refine aV ?_;have hmm:m2≤m6:=cD (cD h3 h4) (cD h5 h6);refine kh ?_;exact⟨(i+1,s1',s2',xs++[b],ts++[x.type],m6,T2),uH,uH,rfl,rfl,uS,⟨by omega,cD hm' hmm,((hs1'.mono h5).mono h6),ho1',by simp only[a6,a7,a8];omega,hs2',ho2',by simp only[a6,a7,a8];omega,(fun t ht=>by
    rcases List.mem_append.1 ht with ht | ht
    ·exact htg t ht
    ·rw[List.mem_singleton.1 ht];exact hg3),hB.mono hmm (bF _),hZ⟩,by simp only;omega⟩
  ·refine de tab rTree (hs:=[g3]) (l:=[x.type]) ⟨rTree_iff.2 ((hr3.mono h3)),trivial⟩ rfl rfl rfl rfl rfl mw (fun sB m4 h4 hsB _ _=>?_);refine⟨h4,_,a9 _,?_⟩;refine af 3 ?_;refine cU tab rPtr 2 ((hs1.mono h3).mono h4) ho1 (hsA.mono h4) rfl rfl rfl rfl rfl rfl rfl mU (fun s1' m5 h5 hs1' ho1'=>?_);refine⟨h5,_,a9 _,?_⟩;refine af 10 ?_;refine cU tab rTree 1 (((hs2.mono h3).mono h4).mono h5) ho2 (hsB.mono h5) rfl rfl rfl rfl rfl rfl rfl mI (fun s2' m6 h6 hs2' ho2'=>?_);refine⟨h6,_,a9 _,?_⟩;refine kT ?_;refine aV ?_;have hmm:m2≤m6:=cD (cD h3 h4) (cD h5 h6);refine kh ?_;exact⟨(i+1,s1',s2',xs++[b],ts++[x.type],m6,T2),uH,uH,rfl,rfl,uS,⟨by omega,cD hm' hmm,(hs1'.mono h6),ho1',by simp only[a6,a7,a8];omega,hs2',ho2',by simp only[a6,a7,a8];omega,(fun t ht=>by
    rcases List.mem_append.1 ht with ht | ht
    ·exact htg t ht
    ·rw[List.mem_singleton.1 ht];exact hg3),hB.mono hmm (bF _),hZ⟩,by simp only;omega⟩
 ·refine de tab rTree (hs:=[g3]) (l:=[x.type]) ⟨rTree_iff.2 (hr3),trivial⟩ rfl rfl rfl rfl rfl mw (fun sB m3 h3 hsB _ _=>?_);refine⟨h3,_,a9 _,?_⟩;refine af 2 ?_;refine de tab rPtr (hs:=[b]) (l:=[b]) ⟨rfl,trivial⟩ rfl rfl rfl rfl rfl mw (fun sA m4 h4 hsA _ _=>?_);refine⟨h4,_,a9 _,?_⟩;refine af 3 ?_;refine cU tab rPtr 2 ((hs1.mono h3).mono h4) ho1 hsA rfl rfl rfl rfl rfl rfl rfl mU (fun s1' m5 h5 hs1' ho1'=>?_);refine⟨h5,_,a9 _,?_⟩;refine af 10 ?_;refine cU tab rTree 1 (((hs2.mono h3).mono h4).mono h5) ho2 ((hsB.mono h4).mono h5) rfl rfl rfl rfl rfl rfl rfl mI (fun s2' m6 h6 hs2' ho2'=>?_);refine⟨h6,_,a9 _,?_⟩;refine kT ?_;refine aV ?_;have hmm:m2≤m6:=cD (cD h3 h4) (cD h5 h6);refine kh ?_;exact⟨(i+1,s1',s2',xs++[b],ts++[x.type],m6,T2),uH,uH,rfl,rfl,uS,⟨by omega,cD hm' hmm,(hs1'.mono h6),ho1',by simp only[a6,a7,a8];omega,hs2',ho2',by simp only[a6,a7,a8];omega,(fun t ht=>by
   rcases List.mem_append.1 ht with ht | ht
   ·exact htg t ht
   ·rw[List.mem_singleton.1 ht];exact hg3),hB.mono hmm (bF _),hZ⟩,by simp only;omega⟩):p:=h
theorem dJ (h:p:=by
 have hlt:k<a.kids.length:=mv;have hx:a.kids[k]? = some a.kids[k]:=mG;have hmem:=bL hlt;have e1':=sizeL_next a.kids k hlt;have e2':=deepL_next a.kids k hlt;have e3':=sizeL_take a.kids (k+1);have e4':=deepL_take a.kids (k+1);have hnx:=formedL_next a.kids k hlt;refine jX ?_;rintro b' i' h' hrd hA;have hk':=(rTree_iff.1 hrd).kind;refine jV ?_;refine aC tab (fun b2=>?_);refine jK ?_;refine az (fun e8=>?_) (fun e8=>?_)
 ·refine uA ?_;exact cI rfl uS (bad3 (formedL_false hmem (by rw[bQ (show a.kids[k].kind=8 by omega)];rfl)))
 refine uL ?_;refine aa (r':=d+1) uH mv ?_;refine oC goes134 ((ih _ hmem _ _ h' (rTree_iff.1 hrd) (bG (dh hmem) hB) (d+1) y (i+2) bl (hset y) mv mv).x ?_);rintro _ _ L3 ⟨rfl,rfl,y',hL,hy'⟩;have hL2:∀(x1 x2:Item),(x1::x2::L.set i (cellI bl y)).set (i+2) (cellI bl y')=x1::x2::L.set i (cellI bl y'):=fun x1 x2=>by simp[List.set_set]
 replace hL:=hL.trans (hL2 (.cells b2 0 (treeC h')) _);subst hL;refine uA ?_;refine aO (t:=!(fitsB a.kids[k] y (d+1)&&a.kids[k].formed)) (fun e9=>?_) (fun e9=>?_)
 ·rw[Bool.not_eq_true',Bool.and_eq_false_iff]at e9;refine uA ?_;rcases e9 with e9 | e9
  ·exact cI rfl uS (bad1 (fun hc=>(of_decide_eq_false e9) mv))
  ·exact cI rfl uS (bad3 (formedL_false hmem (by rw[e9];simp)))
 ·rw[Bool.not_eq_false']at e9;have hyy:=hy' e9;rw[bj]at e9;have hfit:=of_decide_eq_true e9.1;refine lQ ?_;exact⟨(k+1,y'),uH,uH,rfl,rfl,uS,⟨by simp only;omega,by simp only;omega,by simp only;omega,by simp only;omega,by simp only;rw[hnx,hI,e9.2,bR (show ¬a.kids[k].kind=8 by omega)];rfl⟩,by simp only;omega⟩):p:=h
theorem dL (h:p:=by
 refine uA ?_;refine cJ rfl (L':=.cells b 0 (exC 53 hB2 n.name n.num sA 0 none none)::T2) uS ⟨_,_,T2,hZ,hm,dr (x:=⟨53,tk 2,false,0,false⟩) hrB (tg_leaf _ _ _ mv) ⟨fun e=>by omega,fun e=>by cases e⟩ mx mx mx mx mx mx (fun _ _=>rfl),rfl,hB⟩):p:=h
theorem dN (h:p:=by
 have hxj:n.kids[j]? = some n.kids[j]:=by simp[hlj]
 have hmj:=bL hlj;obtain⟨hfn,y,hfy⟩:=hfk _ hmj;have hwf:=dh hmj;generalize hfe:n.kids[j]=f at hxj hmj hfn hfy hwf;have hlfj:lf.length≤j∧lm.length≤j:=by
  rw[hlf,hlm];split<;>simp<;>omega
 have htk:(n.kids.take (j+1)).map fldOf=(n.kids.take j).map fldOf++[fldOf f]:=by rw[cq hlj,cu,hfe];rfl
 have hr5:=hr4.mono hm2;refine uA ?_;refine ar tab rTree j hr5 uH mD rfl hxj ?_;rintro b' i' hf9 hrdf hAf;have hrf:=rTree_iff.1 hrdf;have hr6:=hrf.kids;have hnf:=hrf.name;rw[hfy]at hr6;refine ap tab hAf ?_;refine aC tab (fun b9=>?_);refine jK ?_;refine aA tab rTree 0 hr6 uH mD uH ?_;rintro b'' i'' hy9 hrdy hAy;refine ap tab hAy ?_;have hyw:=dh (a:=f) (t:=y) (by rw[hfy];simp);refine oC goes38 ((of_own y _ _ hy9 (rTree_iff.1 hrdy) mv).x ?_);rintro _ m3 _ ⟨hm3,rfl,hx,rfl,hhx⟩;have hfl:FldRep m3 ⟨hf9.name,hx⟩ (fldOf f):=⟨hnf,by
  have e:kid f 0=y:=by unfold kid;rw[hfy];rfl
  show TreeRep m3 hx (fldOf f).type;rw[fldOf,fld_type,e];exact hhx⟩
 refine uA ?_;refine aC tab (fun b10=>?_);refine jx ?_;refine al (k:=1) 4 ?_;refine am (fun e3=>?_) (fun e3=>?_)
 ·have e3:h9.kind=3:=e3;refine uA ?_;refine al (k:=3) 4 ?_;refine al (k:=1) 1 ?_;refine al (k:=0) 0 ?_;refine av (hs:=[⟨hf9.name,hx⟩]) (l:=[fldOf f]) tab rField ⟨hfl,trivial⟩ uH mw (fun sA m4 hm4 hsA _ _=>?_);refine qs rfl (cU tab rField 3 ((hsm.mono hm3).mono hm4) hom hsA rfl rfl rfl rfl rfl rfl rfl (by simp only[a7,a8,rField];omega) (fun s' m5 hm5 hs' ho'=>?_));refine uA ?_;refine aj (k:=3) 4 ?_;refine kA ?_;exact⟨(j+1,sf,s',lf,lm++[fldOf f],m5),uH,uH,rfl,rfl,uS,⟨by omega,cD hm2 (cD hm3 (cD hm4 hm5)),hsf.mono (cD hm3 (cD hm4 hm5)),hof,hs',ho',by rw[hlf,if_pos mv,if_pos mv],by rw[hlm,if_pos mv,if_pos mv,htk]⟩,by simp only;omega⟩
 ·have e3:¬h9.kind=3:=e3;refine uA ?_;refine al (k:=2) 4 ?_;refine al (k:=1) 1 ?_;refine al (k:=0) 0 ?_;refine av (hs:=[⟨hf9.name,hx⟩]) (l:=[fldOf f]) tab rField ⟨hfl,trivial⟩ uH mw (fun sA m4 hm4 hsA _ _=>?_);refine qs rfl (cU tab rField 2 ((hsf.mono hm3).mono hm4) hof hsA rfl rfl rfl rfl rfl rfl rfl (by simp only[a7,a8,rField];omega) (fun s' m5 hm5 hs' ho'=>?_));refine uA ?_;refine aj (k:=2) 4 ?_;refine kA ?_;exact⟨(j+1,s',sm,lf++[fldOf f],lm,m5),uH,uH,rfl,rfl,uS,⟨by omega,cD hm2 (cD hm3 (cD hm4 hm5)),hs',ho',hsm.mono (cD hm3 (cD hm4 hm5)),hom,by rw[hlf,if_neg mv,if_neg mv,htk],by rw[hlm,if_neg mv,if_neg mv]⟩,by simp only;omega⟩):p:=h
theorem dO (h:p:=by
 have hck:=fun e=>k.check P w e kt ki.u x h4 huk;have hfk:=run_findKey (P:=P) k h4 huk x es;have hzv:=T.run_zero w hz;simp only[execOp,ho,ha.env.eval hm,ha.env.eval hk,Sem.run_bind,Instr.lookup,hu,Result.andThen_ok,run_getObj hobj rfl,mapO,Sem.run_pure,hck,hfk];by_cases hh:mhas es x=true
 ·have hg:∃ v,mget es x=some v:=by
   have hx:∃ e∈es,decide (e.1=x)=true:=by simpa[mhas,List.any_eq_true]using hh
   obtain⟨e,he,hx⟩:=hx;cases hf:es.find? (fun e=>decide (e.1=x))with
   | none=>exact absurd hx (by simpa using List.find?_eq_none.1 hf e he)
   | some u=>exact⟨u.2.1,by simp[mget,hf]⟩
  obtain⟨v,hv⟩:=hg;simp[hh,hv]
 ·have hf:mhas es x=false:=by simpa using hh
  have hv:mget es x=none:=by
   have:es.find? (fun e=>decide (e.1=x))=none:=List.find?_eq_none.2 fun e he hx=>by
    rw[mhas,List.any_eq_false]at hf;exact hf e he hx
   simp[mget,this]
  simp[hf,hv,hzv]):p:=h
theorem dP (h:p:=by
 have hlt':i<fl.length:=mv;have hx:fl[i]? = some fl[i]:=mL;have htk:fl.take (i+1)=fl.take i++[fl[i]]:=cq hlt';refine l5 ?_;rintro b' i' h9 hrd9 hA9;refine lB ?_;refine aC tab (fun b9=>?_);refine jK ?_;have hnm:h9.name=fl[i].name:=hrd9.name;refine am (fun e9=>?_) (fun e9=>?_)
 ·have hF2:Found m4 (fl.take (i+1)) n.name (i:Int) h9.type:=by
   rw[htk];unfold Found;rw[lastF_snoc,if_pos nH];exact .inr ⟨_,rfl,by omega,by omega,hrd9.type⟩
  refine mh ?_;refine DO.fork 4 [7] uK ⟨⟨_,rfl,rfl,rfl,?_⟩,⟨_,rfl,rfl,rfl,?_⟩,trivial⟩
  ·refine OT.loadL (k:=1) tab 0 rfl rfl rfl rfl rfl rfl ?_;refine jF ?_;refine af 7 ?_;refine an (k:=6) 1 ?_;refine jF ?_;refine jW ?_;refine af 10 ?_;refine an (k:=1) 1 ?_;refine jF ?_;refine aZ ?_;refine jz ?_;exact⟨(i+1,(i:Int),h9.type),uH,uH,rfl,rfl,uS,⟨by omega,hF2⟩,by simp only;omega⟩
  ·refine an (k:=6) 1 ?_;refine mt ?_;refine an (k:=1) 1 ?_;refine jF ?_;refine aZ ?_;refine jz ?_;exact⟨(i+1,(i:Int),h9.type),uH,uH,rfl,rfl,uS,⟨by omega,hF2⟩,by simp only;omega⟩
 ·refine uA ?_;refine jz ?_;exact⟨(i+1,nu,hty),uH,uH,rfl,rfl,uS,⟨by omega,by rw[htk];unfold Found;rw[lastF_snoc,if_neg nH];exact hF⟩,by simp only;omega⟩):p:=h
theorem dQ (h:p:=by
 rw[hmf]at hZ;have hht':TreeRep m2 ht f.type:=by rw[memT,hmf]at hht;exact hht
 have hft:tg f.type=true:=by
  have hmem:f∈methodsD E.tbl k.type:=List.mem_of_find?_eq_some hmf;rw[methodsD_kind]at hmem;split at hmem
  ·exact((hC.tbl.good _).2 f hmem).1
  ·cases hmem
 replace hZ:Z=(Ck.want (!isStructD E.tbl k.type||k.place)).map fun _=>(k,some f.type):=hZ;refine uA ?_;refine aU [] df 12 ?_;refine jD ?_;refine ai 10 hA2 ?_;refine af 11 (cR rfl rfl rfl rfl rfl rfl goes89 ((tstruct_law k.type E.bt E.cc E.es E.tbl _ _ g2 hr5 hC.tbl.tb hC.tbl.tr).x ?_));rintro _ _ _ ⟨rfl,rfl,rfl⟩;refine⟨cC _,_,a9 _,?_⟩;refine aN ?_
 rotate_left 1
 refine uA ?_;refine aO (t:=isStructD E.tbl k.type) (fun e6=>?_) (fun e6=>?_)
 ·rw[e6]at hZ;refine uA ?_;refine au goes158 (cplace_law _ F.c _ _ bk k hX) ?_;refine qs rfl (du (b:=k.place) (L0:=L) mH hm (dm [_,_,_] hB.hs) (hZ.trans (mapB _ _)) rfl rfl rfl rfl rfl rfl (fun e7 hZ=>?_));refine uA ?_;refine qs rfl (OT.ck (L0:=L) [_,_,_] q (take_ck hX (.inl e7)) hB mH hm (dl _) (g:=fun _=>Z) rfl (bF _) rfl rfl rfl rfl rfl rfl goes218 (fun v m3 _ T2 _ hm3 hm' hV hB=>?_));refine uL ?_;refine jx ?_;refine cretQ_ret_c3 tab 0 rfl rfl rfl rfl rfl rfl (L':=T2) uS ⟨(k,some f.type),hZ,hm',⟨bk,ht,(hX.mono hm3),rfl,(hht'.mono hm3),fun t e=>by injection e with e;rw[←e];exact hft⟩,hB⟩
 ·rw[e6]at hZ;replace hZ:Z=some (k,some f.type):=hZ;refine uL ?_;refine jx ?_;refine cretQ_ret_c3 tab 0 rfl rfl rfl rfl rfl rfl (L':=T1) uS ⟨(k,some f.type),hZ,hm,⟨bk,ht,hX,rfl,hht',fun t e=>by injection e with e;rw[←e];exact hft⟩,hB⟩):p:=h
theorem dR (h:p:=by
 have hlt3:¬(j:Int)<(h9.kids.len:Int):=hlt2;have hje:j=n.kids.length:=mv;subst hje;rw[List.take_length]at hlf hlm;have hdr:rDecl.rep m2 ⟨h9.name,decide (h9.kind=3),sf,sm⟩ (declOf n):=by
  unfold declOf;by_cases e3:n.kind=3
  ·rw[if_pos e3]at hlf hlm ⊢;exact⟨hn9,bQ mv,hlf▸hsf,hlm▸hsm⟩
  ·rw[if_neg e3]at hlf hlm ⊢;exact⟨hn9,bR mv,hlf▸hsf,hlm▸hsm⟩
 refine uA ?_;refine aP (k:=0) 2 ?_;refine av (hs:=[(⟨h9.name,decide (h9.kind=3),sf,sm⟩:HDecl)]) (l:=[(⟨h9.name,decide (h9.kind=3),sf,sm⟩:HDecl)]) tab rHD ⟨rfl,trivial⟩ uH mw (fun sA m4 hm4 hsA _ _=>?_);refine cM bt2 ?_;refine TO.drop (L':=bufI s (encs rHD hs)::tok s 4::(toks (hs.map HDecl.methods) 5++(tok sm 5::.cells b1 0 (treeC h)::L))) uS ?_;refine qs rfl (OT.appendB tab rHD hso hsl hsc hsA rfl rfl rfl rfl rfl rfl (by simp only[a7,a8,rHD];omega) (fun s' hs2 ha2 hl2 hc2 ho2=>?_));obtain rfl:=all2_eq ha2;refine cM (L':=bufI s' (encs rHD (hs++[(⟨h9.name,decide (h9.kind=3),sf,sm⟩:HDecl)]))::tok s' 4::(toks ((hs++[(⟨h9.name,decide (h9.kind=3),sf,sm⟩:HDecl)]).map HDecl.methods) 5++(.cells b1 0 (treeC h)::L))) (permEq (by rw[toks_snoc,cu];rfl)) ?_;refine kh ?_;exact⟨(i+1,s',hs++[(⟨h9.name,decide (h9.kind=3),sf,sm⟩:HDecl)],m4),uH,uH,rfl,rfl,uS,⟨by omega,cD hm (cD hm2 hm4),ho2,hl2,hc2,by rw[take_filter_yes hlt hdf,hne];exact(hall.mono fun _ _=>rDecl.mono (cD hm2 hm4)).snoc (rDecl.mono hm4 hdr),fun x hx=>by
  rcases List.mem_append.1 hx with hx | hx
  ·exact hom0 x hx
  ·rw[List.mem_singleton.1 hx];exact hom,by simp only[a6,a7,a8];omega⟩,by simp only;omega⟩):p:=h
theorem dS (h:p:=by
 refine af 4 ?_;refine cR rfl rfl rfl rfl rfl rfl goes104 ((contains_str m2 _ w wordL _ hw).x ?_);refine ka ?_;refine jF ?_;refine aN ?_;refine cF ?_;refine(fun(hm12:m≤m2)=>?_) (cD hm1 hm2);refine uA ?_;refine am (fun k1=>?_) (fun k1=>?_)
 ·refine uA ?_;refine am (fun k2=>?_) (fun k2=>?_)
  ·skip;refine lM ?_;refine⟨⟨0,[],0,0⟩,0,rfl,.inr ⟨?_,rfl⟩⟩;rw[tokD,if_pos c1,if_pos mv]
  ·refine uA ?_;refine km ?_;refine lM ?_;refine⟨⟨5,(c::r).take (spanOf lod (c::r)),0,0⟩,spanOf lod (c::r),rfl,.inl ?_⟩;rw[cB]at k1;rw[tokD,if_pos c1,if_neg mv,if_pos k1]
 ·refine uA ?_;refine am (fun k2=>?_) (fun k2=>?_)
  ·skip;refine lM ?_;refine⟨⟨0,[],0,0⟩,0,rfl,.inr ⟨?_,rfl⟩⟩;rw[tokD,if_pos c1,if_pos mv]
  ·refine uA ?_;refine km ?_;refine lM ?_;refine⟨⟨1,(c::r).take (spanOf lod (c::r)),0,0⟩,spanOf lod (c::r),rfl,.inl ?_⟩;rw[cB]at k1;rw[tokD,if_pos c1,if_neg mv,if_neg k1]):p:=h
theorem dT (h:p:=by
 have hsB':=hsB sm hsm.symm;clear hsm hsB;subst hv;subst hL;refine uA ?_;refine aE (b:=!sm) (fun h1=>?_) (fun h1=>?_)
 ·rw[Bool.not_eq_true']at h1;have hbad:=hsB'.2 h1;refine jE ?_;refine aF 1 ⟨cC _,rfl,⟨0,[],0,⟨none,0,0⟩⟩,?_⟩;rw[ofRes,hbad];exact⟨rfl,TreeRep.leaf _ _ _ _⟩
 rw[Bool.not_eq_false']at h1;refine uL ?_;refine au goes71 (type_law a _ _ h hr hB) ?_;refine aE (b:=!a.isType) (fun h2=>?_) (fun h2=>?_)
 ·rw[Bool.not_eq_true']at h2;refine uL ?_;refine au goes73 (sig_law a _ _ h hr hB) ?_;refine aO (t:=!a.isSig) (fun h3=>?_) (fun h3=>?_)
  ·rw[Bool.not_eq_true']at h3;have hbad:=hno h2 h3;refine jE ?_;refine aF 1 ⟨cC _,rfl,⟨0,[],0,⟨none,0,0⟩⟩,?_⟩;rw[ofRes,hbad];exact⟨rfl,TreeRep.leaf _ _ _ _⟩
  ·rw[Bool.not_eq_false']at h3;have hok:=hsB'.1 h1 (.inr h3);refine mq ?_;rintro _ m1 _ ⟨hm1,rfl,h',rfl,hr'⟩;refine jE ?_;refine aF 1 ⟨hm1,rfl,h',?_⟩;rw[ofRes,hok];exact⟨rfl,hr'⟩
 ·rw[Bool.not_eq_false']at h2;have hok:=hsB'.1 h1 (.inl h2);refine mq ?_;rintro _ m1 _ ⟨hm1,rfl,h',rfl,hr'⟩;refine jE ?_;refine aF 1 ⟨hm1,rfl,h',?_⟩;rw[ofRes,hok];exact⟨rfl,hr'⟩):p:=h
theorem dU (h:p:=by
 have hi':i=fl.length:=mv;subst hi';rw[List.take_length]at hF;refine jJ ?_;rcases hF with ⟨f1,f2,f3⟩ | ⟨t,f1,f2,f3,f4⟩
 ·refine qs rfl (du (b:=decide (0≤nu)) (L0:=L) (g:=fun _=>Z) mH hm (dm [_,_,_] hB.hs) (hZ.trans (by rw[f1,bR (show ¬0≤nu by omega)];rfl)) rfl rfl rfl rfl rfl rfl (fun e hZ=>by have:=of_decide_eq_true e;omega))
 ·rw[f1]at hZ;refine qs rfl (du (b:=decide (0≤nu)) (L0:=L) (g:=fun _=>Z) mH hm (dm [_,_,_] hB.hs) (by rw[bQ (show 0≤nu by omega)];rfl) rfl rfl rfl rfl rfl rfl (fun e _=>?_));have htg:tg t=true:=by
   obtain⟨f,hf,rfl⟩:=lastF_mem f1;exact fields_tg hC.tbl k.type f (by rw[hfl];exact hf)
  have hxc:=exC_sel (vs:=inV sc) (m:=m4) (b:=b10) (x:=⟨48,t,false,0,decide (k.type.kind=5)||k.place⟩) (txt:=n.name) (num:=nu) (how:=0) (var:=none) (fn:=none) f4 htg ⟨fun e=>by omega,fun e=>by cases e⟩ mx mx rfl hsA hX rfl;refine cX fun m5 hm5 hA5=>?_;refine jE ?_;refine cretQ_ret_c3 tab 0 rfl rfl rfl rfl rfl rfl (L':=T1) uS ⟨(⟨48,t,false,0,decide (k.type.kind=5)||k.place⟩,none),hZ,cD hm hm5,⟨b10,zH,hxc m5 hm5 hA5,rfl,dk _ _ _ _,fun t e=>by cases e⟩,hB.mono hm5 (bF _)⟩):p:=h
theorem dV (h:p:=by
 rw[bR es]at hZ;refine uA ?_;refine qs rfl (du (b:=false) (L0:=L) mN hm (dm [_,_] hB.hs) (hZ.trans (mapB _ _)) rfl rfl rfl rfl rfl rfl (fun e hZ=>?_));cases e):p:=h
theorem dW (h:p:=by
 refine af 9 ?_;refine aM (hs:=[⟨8,recv,0,s1⟩,x,y]) (l:=[.mk 8 recv 0 [.mk 11 [] 0 [Ps.leaf 10 of]],a,b]) tab rTree ⟨rTree_iff.2 ⟨rfl,rfl,rfl,hz3⟩,rTree_iff.2 hz1,rTree_iff.2 hz2,trivial⟩ uH mw (fun s9 m9 hle9 hs9 ho9 hc9=>?_);refine⟨hle9,_,a9 _,?_⟩;refine cV tab uC uK [10] uK rfl ?_;refine cW ?_;refine aB 11 ?_;refine aD 1 ?_;refine DOt.nil uK ?_;refine uA ?_;refine aw (L':=E.I k3 h::L) 1 ⟨_,k3,[],hT,cD hm hle9,hk,⟨⟨5,nm,0,s9⟩,rfl,rfl,⟨rfl,rfl,rfl,hs9⟩⟩,rfl⟩):p:=h
theorem dX (h:p:=by
 refine ly ?_;refine jx ?_;refine cJ rfl (L':=.cells b 0 (exC 53 g5 n.name n.num sA 0 none none)::T2) uS ⟨_,_,T2,hZ,hm,dr (x:=⟨53,k.type,false,0,false⟩) hr5 hg5 ⟨fun e=>by omega,fun e=>by cases e⟩ mx mx mx mx mx mx (fun _ _=>rfl),rfl,hB⟩):p:=h
theorem dY (h:p:=by
 have hlt:k<a.kids.length:=mv;have hx:a.kids[k]? = some a.kids[k]:=mG;have hmem:=bL hlt;refine jX ?_;rintro b' i' h' hrd hA
 (first | refine qs rfl (OT.loadA tab hA rfl rfl rfl rfl rfl ?_) | refine oL tab hA ?_)
 refine uA ?_;refine aC tab (fun b8=>?_);refine jK ?_;refine au goes88 (ih _ hmem _ _ h' (rTree_iff.1 hrd) ho) ?_;refine aO (t:=!tknown (mhas es) a.kids[k]) (fun e9=>?_) (fun e9=>?_)
 ·rw[Bool.not_eq_true']at e9;refine jT ?_;have:a.kids.all (tknown (mhas es))=false:=List.all_eq_false.2 ⟨_,hmem,by rw[e9];simp⟩;rw[tknownL_eq,this];simp
 ·rw[Bool.not_eq_false']at e9;refine lQ ?_;exact⟨k+1,uH,uH,rfl,rfl,uS,⟨by omega,by rw[cq hlt,List.all_append,hI,cr,e9];rfl⟩,by omega⟩):p:=h
theorem dZ (h:p:=by
 refine jF ?_;refine aZ ?_;refine jz ?_;exact⟨(i+1,(i:Int),h9.type),uH,uH,rfl,rfl,uS,⟨by omega,hF2⟩,by simp only;omega⟩):p:=h
theorem d7 (h:p:=by
 refine kN ?_;rw[h7];rfl):p:=h
theorem d8 (h:p:=by
 refine af 4 ?_;refine de tab rTree (hs:=[x4]) (l:=[a4]) ⟨rTree_iff.2 hr4,trivial⟩ rfl rfl rfl rfl rfl mw (fun sB mB hleB hsB hoB hcB=>?_);refine⟨hleB,_,a9 _,?_⟩;refine af 5 ?_;refine cU tab rTree 2 (hs3.mono (cD hleA hleB)) ho3 hsB rfl rfl rfl rfl rfl rfl rfl (by simp only[a6,a7,a8,rTree,mkR];omega) (fun s4 mC hleC hs4 ho4=>?_);refine⟨hleC,E.I k4 0::tok s4 4::.cells b2 0 [.int .i64 0,strV [],.int .i64 0,.slice none 0 0]::L,a9 _,?_⟩;refine jR ?_;refine cO (k:=3) tab 0 rfl rfl rfl rfl rfl rfl rfl rfl ?_;refine DOt.perm (ba _ _ _) ?_;refine aH ?_
 rotate_left 1
 replace hm:=cD hm (cD hleB hleC);replace hE:=hE.mono (cD hleB hleC);refine lR ?_;refine aw (L':=E.I k4 0::L) 3 ⟨_,k4,[],hT,hm,hk,⟨⟨25,[],0,s4⟩,rfl,rfl,⟨rfl,rfl,rfl,hs4⟩⟩,rfl⟩):p:=h
theorem d9 (h:p:=by
 obtain⟨sB,xs,rfl,hsB,hxs⟩:=hV;simp only[a7,a8]at hxs;refine⟨hm5,tok sk 1::T4,a9 _,?_⟩;refine af 11 ?_;refine cU tab rPtr 4 ((hsk.mono (cD hm4 hm4b)).mono hm5) hok hsB rfl rfl rfl rfl rfl rfl rfl od (fun s' m6 hm6 hs' ho'=>?_);refine⟨hm6,tok s' 1::T4,a9 _,?_⟩;refine cV tab uC uK [12,13] uK rfl ?_;refine cW ?_;refine aB 14 ?_;refine an (k:=7) 2 ?_;refine aH ?_;have hmm:m3≤m6:=cD (cD (cD hm4 hm4b) hm5) hm6;refine kV ?_;refine aI (L':=tok s' 1::.cells b11 0 (treeC ht)::.cells bx 0 (exC 46 zH hn hu s' 0 none none)::.cells b3 0 (treeC ⟨46,hn,hu,hks⟩)::.cells b13 0 (treeC h9)::T4) plC ?_;refine jz ?_;exact⟨(i+1,s',l++xs,m6,T4),uH,uH,rfl,rfl,uS,⟨by omega,cD hm3 hmm,hs',ho',by simp only[a6];omega,hB.mono hm6 (bF _),hZ⟩,by simp only;omega⟩):p:=h
theorem ed (h:p:=by
 refine uA ?_;refine aO (fun h=>?_) (fun h=>?_)
 ·refine uA ?_;refine jy ?_;rw[hI,bU hlt,idxP,if_pos h]
 ·refine uA ?_;refine jA ?_;exact⟨k+1,uH,uH,rfl,rfl,uS,⟨by omega,by rw[hI,bU hlt,idxP,if_neg (by simp[h])]⟩,by omega⟩):p:=h
theorem ee (h:p:=by
 rintro b2 i2 h2 hrd2 hA2;refine ap tab hA2 ?_;refine qs rfl (OT.ckSx (L0:=L) [_,_] q (hst F s r (w+1) _ h2 (rTree_iff.1 hrd2) hC mv) hB my hm (dl _) (g:=fun _=>some (plain (s::r))) (hZ.trans (mapB _ _)) (bF _) rfl rfl rfl rfl rfl rfl goes120 (fun v m4 vs' T4 hX hZ hm4 hm' hsc hV hB=>?_));obtain⟨bs,rfl⟩:=hV;have hpl:=hkp _ _ _ _ hX;refine uA ?_;refine av (hs:=[bs]) (l:=[bs]) tab rPtr ⟨rfl,trivial⟩ uH mw (fun sB m5 hm5 hsB _ _=>?_);refine uA ?_;refine qs rfl (cO (k:=5) tab 0 rfl rfl rfl rfl rfl rfl rfl rfl ?_);obtain⟨T5,hT5,hT5b⟩:=hB.head;refine aJ (bqH hT5) ?_;refine aP (k:=1) 2 ?_;refine aQ (r':=((w:Nat):Int)) uH mv mv ?_;refine aj (k:=1) 2 ?_;exact cI rfl uS ⟨_,hZ,cD hm' hm5,vs',hpl.symm,hsc.mono hm5,⟨b5,rfl⟩,hT5b w q m5 hm5 (bF _)⟩):p:=h
theorem ef (h:p:=by
 refine af 4 ?_;refine de tab rTree (hs:=[x]) (l:=[a]) ⟨rTree_iff.2 hr,trivial⟩ rfl rfl rfl rfl rfl mw (fun sB mB hleB hsB hoB hcB=>?_);refine⟨hleB,_,a9 _,?_⟩;refine af 5 ?_;refine cU tab rTree 2 (hs.mono (cD hleA hleB)) ho hsB rfl rfl rfl rfl rfl rfl rfl mI (fun s3 mC hleC hs3 ho3=>?_);refine⟨hleC,E.I k2 0::tok s3 4::.cells b2 0 [.int .i64 0,strV [],.int .i64 0,.slice none 0 0]::L,a9 _,?_⟩;refine jR ?_;refine cO (k:=3) tab 0 rfl rfl rfl rfl rfl rfl rfl rfl ?_;refine DOt.perm (ba _ _ _) ?_;refine aH ?_
 rotate_left 1
 replace hm:=cD hm (cD hleB hleC);replace hE:=hE.mono (cD hleB hleC);refine uA ?_;exact⟨(s3,mC,acc++[a],k2,j),uH,uH,rfl,rfl,uS,⟨hm,hE,hk,hs3,ho3,by simp only[a6,a7,a8];omega,hT⟩,by simp only;omega⟩):p:=h
theorem eg (h:p:=by
 refine cV tab uC uK [14,15] uK rfl ?_;refine af 16 ?_;refine an (k:=7) 4 ?_;refine jF ?_;refine af 17 ?_;refine OT.tokFo hcA hoA 1 ?_;refine an (k:=0) 3 ?_;refine⟨cC _,_,pfD,?_⟩;refine aZ ?_;exact⟨(fh.name,sA,6,none,ht9,(t,6),m3,T2,[bk]),uH,uH,rfl,rfl,uS,⟨cD hm2 hm3,hsA,hoA,bF _,hht9.mono hm3,htg,(show(6:Int)≠3 by decide),(show(6:Int)≠4 by decide),by simp,by simp,hB.mono hm3 (bF _),hZ⟩⟩):p:=h
theorem eh (h:p:=by
 refine jE ?_;refine jx ?_;refine cJ rfl (L':=.cells b 0 (exC 51 ⟨7,[],0,nilS⟩ txt (-1) sA how none none)::T1) uS ⟨_,_,T1,hZ,hm,dr (x:=⟨51,tk 7,true,1,false⟩) (dk _ _ _ _) (tg_mk _ _ _ _ (fun e=>by omega) (fun _=>⟨by decide,by decide⟩) (fun x hx=>by cases hx)) mx mK mK mx mx mx mx (fun _ _=>rfl),rfl,hB⟩):p:=h
theorem ej (h:p:=by
 simp only[Sl.v]at hold hnew';have hb0:ei.bytes≠0:=mv;have hmax:¬(9223372036854775807<(s.len:Int)+(s2.len:Int)):=mv;simp[Builtin.append_,run_underlying hu,run_underlying hu2,sizeOf,typeInfo,zeroValue,q1,q3,q4,q5,Builtin.lenOf,hroom,hold,hnew',h48,hmax,Question.forced,newRow,←hnc,IntKind.max,IntKind.signed,IntKind.bits,hb0]
 congr 2
 apply Array.ext';simp):p:=h
theorem ek (h:p:=by
 refine jL ?_;rw[h7];rfl):p:=h
theorem el (h:p:=by
 have hm':=hm;refine db 0 rfl fun m2 hm2 hA=>?_;refine uA ?_;refine ag (L':=T1) ⟨a,hZ,cD hm' hm2,⟨bx,rfl,hX m2 hm2 hA⟩,hB.mono hm2 (bF _)⟩):p:=h
theorem eo (h:p:=by
 intro r hrr;subst hrr;unfold okT okType okSig;rw[withinB_eq,withinB_eq];refine⟨fun hd ht=>?_,fun hd=>?_⟩
 ·have hd:=of_decide_eq_true hd;rcases ht with ht | ht
  ·have:=type_not7 ht;rw[ht,bQ (show(a.size:Int)+3≤20000 by omega),bQ (show(a.deep:Int)+3≤100 by omega)];rfl
  ·have:=(isSig_facts ht).1;rw[ht,bQ (show(a.size:Int)+3≤20000 by omega),bQ (show(a.deep:Int)+2≤100 by omega)];simp
 ·have hd:=of_decide_eq_false hd;rw[Bool.or_eq_false_iff];refine⟨Bool.eq_false_iff.2 fun hc=>?_,Bool.eq_false_iff.2 fun hc=>?_⟩
  ·simp only[bj,bw]at hc;have:=type_not7 hc.2;omega
  ·simp only[bj,bw]at hc;have:=(isSig_facts hc.2).1;omega):p:=h
theorem ep (h:p:=by
 refine af 4 ?_;refine OT.tokFo hc ho 4 (cU tab rTree 0 hsB ho hrB rfl rfl rfl rfl rfl rfl rfl mI (fun s3 mC hleC hs3 ho3=>?_));refine⟨hleC,tok s3 4::E.I k2 0::it::L,da (l:=[_,_]),?_⟩;refine kO ?_;refine aD 1 ?_;refine DOt.perm (L':=E.I k2 0::.cells b2 0 [.int .i64 51,strV [],.int .i64 0,s3.v]::tok s3 4::it::.cells b3 0 (treeC x)::L) ((be pfr3 (bg _ (be pfr1 (bg _ (be pfr1 (bg _ pfr1))))))) ?_;refine DOt.nil uK ?_;refine uA ?_;refine aw (L':=E.I k2 0::it::.cells b3 0 (treeC x)::L) 1 ⟨_,k2,[],hT,cD hm hleC,hk,⟨⟨51,[],0,s3⟩,rfl,rfl,⟨rfl,rfl,rfl,hs3⟩⟩,rfl⟩):p:=h
theorem er (h:p:=by
 replace hA2:=hA2.mono hm3;replace hr5:=hr5.mono hm3;refine kI ?_;refine oC goes60 ((pointer_law k.type _ _ g2 hr5).x ?_);rintro _ m4 _ ⟨hm4,rfl,g6,rfl,hr6⟩;refine jE ?_;refine cJ rfl (L':=.cells b 0 (exC 52 g6 n.name n.num sA 0 none none)::T2) uS ⟨_,_,T2,hZ,cD hm' hm4,dr (x:=⟨52,.mk 5 [] 0 [k.type],false,0,false⟩) hr6 (tg_mk _ _ _ _ (fun _=>rfl) (fun e=>by cases e) (fun x hx=>by rw[List.mem_singleton.1 hx];exact hg2)) ⟨fun e=>by omega,fun e=>by cases e⟩ mx mx mx mx mx (fun _=>by rw[hpl]) (fun _ _=>rfl),rfl,hB.mono hm4 (bF _)⟩):p:=h
theorem et (h:p:=by
 refine lc ?_;exact .inr ⟨hI.trans (pU_big hlt hd mv),_,1,.inl ⟨rfl,rfl⟩,rfl⟩):p:=h
theorem eu (h:p:=by
 have e1:Item.room w.heap.size (0+(xs++news).length) (Builtin.zeroCells ei.zero.cells (nc-(s.len+s2.len))).toList.length=tok ⟨some ⟨w.heap.size,0,none⟩,s.len+s2.len,nc⟩ ei.size:=by
  simp only[tok,hxl,Array.length_toList,size_zeroCells,hzs]
 rw[←e1];have hsub:(Item.room w.heap.size (0+(xs++news).length) (Builtin.zeroCells ei.zero.cells (nc-(s.len+s2.len))).toList.length::L.eraseIdx i).Sublist (Item.room w.heap.size (0+(xs++news).length) (Builtin.zeroCells ei.zero.cells (nc-(s.len+s2.len))).toList.length::L) :=
  bX _ (List.eraseIdx_sublist L i)
 exact St.back hi (g4.sub hsub)):p:=h
theorem ey (h:p:=by
 refine jz ?_;exact⟨(i+1,s',l++xs,m6,T4),uH,uH,rfl,rfl,uS,⟨by omega,cD hm3 hmm,hs',ho',by simp only[a6];omega,hB.mono hm6 (bF _),hZ⟩,by simp only;omega⟩):p:=h
theorem ez (h:p:=by
 skip;refine uA ?_;refine oR goes101 (span_law _ _ (c::r) mv dgt 103 [] ⟨goes103,fun b=>digit_law _ _ b⟩) ?_;refine uA ?_;refine aY (fun c4=>?_) (fun c4=>?_)
 ·skip;refine jE ?_;refine aF (L':=L) 0 ⟨(cD hm1 hm2),rfl,?_⟩;refine⟨⟨0,[],0,0⟩,0,rfl,.inr ⟨?_,rfl⟩⟩;rw[tokD,if_neg c1',if_pos c2,e1];simp only;rw[if_pos (.inr mv)]
 ·refine uA ?_;refine jx ?_;refine aF (L':=L) 0 ⟨cD hm1 hm2,rfl,?_⟩;refine⟨⟨2,[],v,0⟩,spanOf lod (c::r),rfl,.inl ?_⟩;rw[tokD,if_neg c1',if_pos c2,e1];simp only;rw[if_neg mv]):p:=h
theorem eA (h:p:=by
 rw[←h1,←h2,←hhas,←hif];refine uA ?_;refine ay (fun b=>?_);refine qs rfl (OT.lookupOkP tab kStr h.name rfl rfl rfl rfl rfl rfl rfl ho ?_);refine TO.conv ?_ (congrArg (fun z=>Value.tuple ⟨[z,.bool (mhas es h.name)]⟩) hhd);refine uA ?_;refine aC tab (fun b5=>?_);refine jK ?_;refine az (fun e1=>?_) (fun e1=>?_)
 ·refine uA ?_;refine aE (b:=mhas es h.name) (fun e2=>?_) (fun e2=>?_)
  ·refine uL ?_;refine jy ?_;rw[bQ e1,e2];rfl
  ·refine uA ?_;refine jy ?_;rw[bQ e1,e2];rfl
 ·refine uA ?_;refine jy ?_;rw[bR e1];rfl):p:=h
theorem eB (h:p:=by
 refine lU ?_;refine oC goes130 ((writeByte_law _ _ bd q sl acc s[i+1] hB mv).x ?_);rintro _ m2 _ ⟨hm2,sl2,q2,rfl,hB2⟩;refine li ?_;exact⟨⟨m2,q2,sl2,(i+1)+1,acc++[s[i+1]]⟩,uH,uH,rfl,rfl,uS,⟨cD hm hm2,by show _≤(i+1)+1;omega,by show(i+1)+1≤_;omega,hB2,by show(acc++[_]).length≤(i+1)+1;rw[a6];simp only[a7,a8];omega,(hI.esc hi1 hlt mv he)⟩,by show s.length-((i+1)+1)<s.length-i;omega⟩):p:=h
theorem eC (h:p:=by
 refine⟨hm4,tok s' 1::T2,pfB,?_⟩;refine cV tab uC uK [13,14] uK rfl ?_;refine cW ?_;refine aB 15 ?_;refine an (k:=7) 0 ?_;refine aH ?_;have hA6:=hA5.mono (cD (cD hm2 hm3) hm4);have hr6:=hr5.mono (cD (cD hm2 hm3) hm4);refine uA ?_;refine ah hA6 ?_;refine jx ?_;refine cI rfl (L':=.cells b 0 (exC 51 g5 txt num s' how none none)::T2) uS ⟨_,_,T2,hZ,cD hm' hm4,dr (x:=⟨51,k.type,false,4,false⟩) hr6 hg5 ⟨fun e=>by omega,fun e=>by cases e⟩ mK mK mx mx mx mx (fun _ _=>rfl),rfl,hB.mono hm4 (bF _)⟩):p:=h
theorem eD (h:p:=by
 have hm36:m2≤m7:=cD hm3 (cD (cD h4 h5) (cD h6 h7));refine kj ?_;refine jz ?_;exact⟨(i+1,s1',s2',xs++[b],ts++[x.type],m7,T4),uH,uH,rfl,rfl,uS,⟨by omega,cD hm2 hm36,(hs1'.mono h7),ho1',by simp only[a6,a7,a8];omega,hs2',ho2',by simp only[a6,a7,a8];omega,hB.mono (cD (cD h4 h5) (cD h6 h7)) (bF _),hZ⟩,by simp only;omega⟩):p:=h
theorem eE (h:p:=by
 refine uL ?_;refine qs rfl (OT.ckS (L0:=L) [_,_,_] q (declare_ck hC hn hht htg) (hB.mono (cC _) (show q≤_ by omega)) my hm (dl _) (g:=some) (hZ.trans (bindS _)) (bF _) rfl rfl rfl rfl rfl rfl goes155 (fun v m2 vs' T2 hZ hm2 hm' hsc hV hB=>?_));obtain⟨bv,rfl⟩:=hV;refine uA ?_;refine av (hs:=[bv]) (l:=[bv]) tab rPtr ⟨rfl,trivial⟩ uH mw (fun sA m3 hm3 hsA _ _=>?_);refine uA ?_;refine aj (k:=1) 1 ?_;exact cI rfl (L':=T2) uS ⟨_,hZ,cD hm' hm3,vs',rfl,hsc.mono hm3,⟨b5,rfl⟩,hB.mono hm3 (bF _)⟩):p:=h
theorem eF (h:p:=by
 refine am (fun h5=>?_) (fun h5=>?_)
 ·omega
 refine uA ?_;refine am (fun h5=>?_) (fun h5=>?_)
 ·omega
 refine uA ?_;refine am (fun h5=>?_) (fun h5=>?_)
 ·omega
 refine uA ?_;refine am (fun h5=>?_) (fun h5=>?_)
 ·omega
 refine uA ?_;exact cI rfl uS ⟨cC _,rfl,rfl⟩):p:=h
theorem eG (h:p:=by
 simp only[execOp,ho,ha.env.eval hx,ha.env.eval hy,Sem.run_bind,e2,Result.andThen_ok,e1,h,Sem.run_pure];rfl):p:=h
theorem eH (h:p:=by
 refine jZ ?_;rw[h7];rfl):p:=h
theorem eI (h:p:=by
 simp only[execOp,ho,resolve,invoke,builtin,Sem.run_bind,Sem.run_pure,Result.andThen_ok,List.map_toArray,bH,bI,ha.env.eval hx,ha.env.eval hy];simp only[hr,Result.andThen_ok]):p:=h
theorem eJ (h:p:=by
 intro i v hv;have:=(look_argEnv vs 0 i v hv).2;have hi:i<vs.length:=by have:=(List.getElem?_eq_some_iff.1 this).1;simpa using this
 have h2:vs[i]? = some v:=by simpa using this
 rw[Array.getElem?_append_left ne];simpa using h2):p:=h
theorem eK (h:p:=by
 rw[List.getElem_map]at hst;refine kW ?_;refine aO (t:=!ps[k].2 a.kids[k]) (fun h6=>?_) (fun h6=>?_)
 ·refine uA ?_;refine jy ?_;rw[hI,hst]
  simp_all
 ·refine uA ?_;refine jA ?_;exact⟨k+1,uH,uH,rfl,rfl,uS,⟨by omega,by rw[hI,hst];simp_all⟩,by omega⟩):p:=h
theorem eM (h:p:=by
 have hnew':(Builtin.firstCells ei.size 0 s2.v).run P w = .ok (⟨[]⟩:Array Value) w:=by rw[←hz];exact hnew
 simp only[Sl.v]at hnew';simp[Builtin.append_,run_underlying hu,run_underlying hu2,sizeOf,typeInfo,q1,q3,Builtin.lenOf,hz,hnew']):p:=h
theorem eN (h:p:=by
 refine⟨by rw[g4,hs.len,hs2.len];simp,g5,by rw[g4,hs.len,hs2.len];exact hfit,hl++hl2,(h1.mono fun _ _=>r.mono g1).append (k1.mono fun _ _=>r.mono g1),?_⟩;rcases g6 with ⟨e1,e2,e3⟩ | ⟨b,off,e1,e2⟩
 ·left;have hz:s'.len=0:=by
   rcases g3 with e | ⟨b,off,e⟩
   ·rw[e]
   ·rw[e1]at e;cases e
  refine⟨List.eq_nil_of_length_eq_zero ?_,fun _=>e3⟩;have j1:=hs.len;have j2:=hs2.len;rw[a6];omega
 ·right;exact⟨b,off,e1,by rw[encs_append];exact e2⟩):p:=h
theorem eO (h:p:=by
 refine aU [] df 7 ?_;refine cV tab uC uK [0,1] uK rfl ?_;refine ai (k:=0) 3 hA ?_;refine af 2 (cR rfl rfl rfl rfl rfl rfl goes197 ((clone_str _ _ s hs).x ?_));rintro _ _ _ ⟨rfl,rfl,rfl⟩;refine⟨cC _,_,a9 _,?_⟩;refine cV tab uC uK [4] uK rfl ?_;refine af 5 ?_;refine OT.box rfl rfl rfl rfl rfl (fun b=>?_);refine⟨cC _,[_],da,?_⟩;refine cV tab uC uK [6] uK rfl ?_;refine aV ?_
 rotate_left 1
 refine aR ?_;refine ag (L':=L) ⟨cC _,rfl,b,rfl⟩):p:=h
theorem eP (h:p:=by
 refine uA ?_;refine oC goes184 ((ckind_law 1 _ _).x ?_);rintro _ m4 _ ⟨hm4,rfl,h7,rfl,hr7⟩;refine jE ?_;refine cI rfl (L':=.cells b 0 (exC 51 h7 txt num sA how none none)::T1) uS ⟨_,_,T1,hZ,cD hm hm4,dr (x:=⟨51,tk 1,false,3,false⟩) hr7 (tg_leaf _ _ _ mv) ⟨fun e=>by omega,fun e=>by cases e⟩ mK mK mx mx mx mx (fun _ _=>rfl),rfl,hB.mono hm4 (bF _)⟩):p:=h
theorem eQ (h:p:=by
 refine uL ?_;refine ag (good ?_);rw[hkb]
 congr 1
 apply propext
 (try simp only)
 omega):p:=h
theorem eR (h:p:=by
 refine aE (fun h10=>?_) (fun h10=>?_)
 ·refine uL ?_;refine qs rfl (OT.cut tab rTree a.num.toNat s.len h4 rfl rfl rfl rfl rfl rfl rfl (.inr (by rw[←hnum])) (.inl ⟨rfl,rfl⟩) mv mv (fun s2 hs2=>?_));rw[cj mv]at hs2;refine uA ?_;refine au goes34 (pall_law _ _ s2 _ hs2 161 g.expr hp1) ?_;refine jL ?_;rw[h10];rfl
 ·skip;refine kN ?_;rw[h10];rfl):p:=h
theorem eS (h:p:=by
 refine jT ?_;rfl):p:=h
theorem eT (h:p:=by
 refine jR ?_;refine cO (k:=3) tab 0 rfl rfl rfl rfl rfl rfl rfl rfl ?_;refine DOt.perm (ba _ _ _) ?_;refine aH ?_
 rotate_left 1
 replace hm:=cD hm (cD hleB hleC);replace hE:=hE.mono (cD hleB hleC);refine lR ?_;refine aw (L':=E.I k4 0::L) 3 ⟨_,k4,[],hT,hm,hk,⟨⟨26,[],0,s4⟩,rfl,rfl,⟨rfl,rfl,rfl,hs4⟩⟩,rfl⟩):p:=h
theorem eU (h:p:=by
 refine uA ?_;refine av (hs:=[bk]) (l:=[bk]) tab rPtr ⟨rfl,trivial⟩ uH mw (fun sA m3 hm3 hsA hoA hcA=>?_);refine TO.tokFo hcA hoA 1 ?_;refine uA ?_;refine aj (k:=7) 6 ?_;exact⟨(n.name,sA,0,none,g2,(k.type,0),m3,T2,[bk]),uH,uH,rfl,rfl,uS,⟨cD hm2 hm3,hsA,hoA,bF _,hr5.mono hm3,hg2,(show(0:Int)≠3 by decide),(show(0:Int)≠4 by decide),by simp,by simp,hB.mono hm3 (bF _),hZ⟩⟩):p:=h
theorem eV (h:p:=by
 refine jy ?_;rfl):p:=h
theorem eW (h:p:=by
 refine jF ?_;refine cV tab (by repeat (first|exact Calm.ret|refine Calm.then ?_|refine Calm.block ?_)) uK [4] uK rfl ?_;refine af 5 ?_;refine an 2 ?_;refine jF ?_;refine aV ?_;refine cF ?_;refine uL ?_;refine jx ?_;exact retQ_ret_c1 tab 0 rfl rfl rfl rfl uS ⟨cC _,rfl,⟨4,n,u,⟨none,0,0⟩⟩,rfl,by rw[h3,hu];exact TreeRep.leaf _ _ _ _⟩):p:=h
theorem eX (h:p:=by
 refine jF ?_;refine af 4 ?_;refine aD 1 ?_;refine jF ?_;refine cW ?_;refine aB 5 ?_;refine aD 0 ?_;refine aH ?_;refine TC.ret ?_;refine thenQ_r ?_;intro tmps w' hA hst';rw[hD];exact parseE_end (x:=⟨0,[],0,⟨none,0,0⟩⟩) (L':=L) tab rfl hA rfl rfl rfl rfl rfl rfl (hst'.perm (be pfr2 (bg _ pfr1))) (bZ _) hm1 (emptyT_rep _)):p:=h
theorem eY (h:p:=by
 refine jF ?_;refine af 2 ?_;refine an (k:=0) 0 ?_;refine jF ?_;refine aV ?_;refine forgetQ_n ?_;refine cF ?_;refine TC.ret ?_;refine thenQ_r ?_;intro tmps w' hA hst';exact buildE_end (pv:=.pointer none) (L':=.cells b1 0 (treeC h)::L) tab rfl hA rfl rfl rfl rfl (hst'.perm (ba _ _ _)) ((dl L).cons _) hm1):p:=h
theorem eZ (h:p:=by
 refine jE ?_;refine aw (L':=E.I k2 h::L) 1 ⟨_,k2,[],hT,hm,hk,⟨x,rfl,rfl,hrx⟩,rfl⟩):p:=h
theorem fa (h:p:=by
 skip;refine uA ?_;refine oC goes10 ((awake5_law _ _ (hE.mono hm12)).x ?_);rintro _ m3 _ ⟨hm3,rfl,rfl⟩;refine uA ?_;exact cI rfl (L':=L) uS ⟨cD hm12 hm3,rfl,rfl⟩):p:=h
theorem fc (h:p:=by
 refine jF ?_;refine af 4 ?_;refine aD 2 ?_;refine jF ?_;refine af 5 ?_;refine aD 3 ?_;refine jF ?_;refine aV ?_;refine cJ rfl (L':=.cells a 0 [.int .i64 0,strV [],.int .i64 0,.slice none 0 0]::.cells b 0 [.int .i64 x]::.cells c 0 [.int .i64 3]::L) uS ⟨rfl,rfl,rfl⟩):p:=h
theorem fe (h:p:=by
 refine uA ?_;refine cJ rfl (L':=.cells b 0 (exC 50 g5 n.name n.num s 0 none none)::T1) uS ⟨_,_,T1,hZ,hm,dr (x:=⟨50,k.type,false,0,false⟩) hr5 hg5 ⟨fun e=>by omega,fun e=>by cases e⟩ mx mx mx mx mx mx (fun _ _=>rfl),rfl,hB.mono (cC _) (Nat.le_add_right _ _)⟩):p:=h
theorem fg (h:p:=by
 rintro _ m2 _ ⟨hm2,rfl,u,w,rfl⟩;refine uA ?_;refine ag ⟨cD hm1 hm2,rfl,?_⟩;exact .inr ⟨e1,_,_,_,rfl⟩):p:=h
theorem fi (h:p:=by
 refine jT ?_;refine lw ?_;have h3:¬(97≤b.toNat∧b.toNat≤122):=fun h=>by have:=hlow.2 (.inl h);omega
 have h4:¬(65≤b.toNat∧b.toNat≤90):=fun h=>by have:=hlow.2 (.inr h);omega
 unfold ltr;rw[bR h3,bR h4];simp only[cx]
 congr 1
 apply propext;omega):p:=h
theorem fj (h:p:=by
 simp only[Op.equalIn,Sem.run_bind,hu,Result.andThen_ok,Sem.run_pure]):p:=h
theorem fk (h:p:=by
 simp only[Sl.v]at hnew;simp[Builtin.append_,run_underlying hu,run_underlying hu2,sizeOf,typeInfo,q1,q3,Builtin.lenOf,hroom,hnew,hr']):p:=h
theorem fp (h:p:=by
 refine cV tab uC uK [4] uK rfl ?_;refine cW ?_;refine aB 5 ?_;refine aD 0 ?_;refine DOt.perm (ba _ _ _) ?_;refine DOt.nil uK ?_;refine uA ?_;exact⟨(⟨48,t,0,s⟩,mB,.mk 48 t 0 [n],k+1+1,N),uH,uH,rfl,rfl,uS,⟨cD hm3 hleB,hk,⟨rfl,rfl,rfl,hs⟩,hT⟩,by simp only;omega⟩):p:=h
theorem fq (h:p:=by
 rw[cq hlt,cu,List.sum_append];simp only[bH,bI,List.sum_cons,List.sum_nil,Nat.add_zero]):p:=h
theorem fu (h:p:=by
 have e1:Item.room b (o+n*ei.size+news.length) (List.drop news.length vs).length=tok ⟨some ⟨b,o,none⟩,n+s2.len,c⟩ ei.size:=by
  simp only[tok,bW,hvl,hy.1]
  congr 1
  ·rw[Nat.add_mul];omega
  ·rw[←Nat.sub_mul];congr 1;omega
 rw[←e1];exact St.back hi g4):p:=h
theorem fv (h:p:=by
 refine jW ?_;refine af 10 ?_;refine an (k:=7) 4 ?_;refine jF ?_;refine af 11 ?_;refine OT.tokFo hcA hoA 1 ?_;refine an (k:=0) 2 ?_;refine⟨cC _,_,pfE,?_⟩;refine aV ?_;refine cF ?_;exact⟨(sA,m3),uH,uH,rfl,rfl,uS,⟨hm3,hsA,hoA⟩⟩):p:=h
theorem fw (h:p:=by
 have q1:(A++(B++(C++D))).Perm (B++(A++(C++D))):=by rw[←bo A B,←bo B A];exact List.perm_append_comm.append_right _
 have q2:(A++(C++D)).Perm (C++(A++D)):=by rw[←bo A C,←bo C A];exact List.perm_append_comm.append_right _
 exact q1.trans (q2.append_left B)):p:=h
theorem fx (h:p:=by
 refine jz ?_;exact⟨(i+1,vs',sl',l++[bs],m5,T4),uH,uH,rfl,rfl,uS,⟨by omega,cD hm2 (cD hm3 (cD hm4 hm5)),hsl',hol',by simp only[a6,a7,a8];omega,hsc.mono (cD hm4 hm5),hB.mono (cD hm4 hm5) (bF _),hZ⟩,by simp only;omega⟩):p:=h
theorem fz (h:p:=by
 refine jT ?_;rw[hI,ci mv];rfl):p:=h
theorem fA (h:p:=by
 refine uA ?_;refine av (hs:=[b]) (l:=[b]) tab rPtr ⟨rfl,trivial⟩ uH mw (fun sA m2 hm2 hsA _ _=>?_);refine uA ?_;refine mn ?_;exact cI rfl (L':=T1) uS ⟨_,hZ,cD hm hm2,s.vs,rfl,hC.sc.mono (cD hm hm2),⟨b5,rfl⟩,hB.mono hm2 (bF _)⟩):p:=h
theorem fB (h:p:=by
 refine jy ?_;rw[h7];rfl):p:=h
theorem fC (h:p:=by
 have e:(List.take (1+zs.length) (y::zs)).drop 1=zs:=oe;rw[e]at hsz;exact hsz):p:=h
theorem fD (h:p:=by
 have hi':i=l.length:=mv;subst hi';rw[List.drop_length]at hZ;replace hZ:Z=some ts:=by rw[hZ];simp
 refine uA ?_;refine cI rfl (L':=T1) uS ⟨ts,hZ,hm,⟨by omega,s1,s2,xs,rfl,hs1,by omega,hs2,htg⟩,hB.mono (cC _) (Nat.le_add_right _ _)⟩):p:=h
theorem fE (h:p:=by
 refine uA ?_;refine qs rfl (OT.needP (L0:=L) hT hE hk mz hm uS rfl rfl rfl rfl rfl rfl (fun hT hk=>?_));refine uA ?_;refine ag (L':=E.I (k2+1) h::L) ⟨a,k2+1,[],hT,hm,hk,⟨x,rfl,rfl,hrx,hlx⟩,rfl⟩):p:=h
theorem fF (h:p:=by
 rintro a' w' ⟨ρ',m',L',h1,h2,Lp',h3,h4⟩;have h5:Ok N ρ' D m' (Ls++Lp') a' w':=h1.perm h3;refine⟨fun _=>⟨m',Lp',h2,h5.st⟩,?_⟩;rw[e];refine wpAnyT_strong ?_ _ _ _ _ (h4 a' w' h5);rintro w2 ⟨m2,L2,g1,g2⟩;exact⟨m2,L2,cD h2 g1,g2⟩):p:=h
theorem fG (h:p:=by
 refine uA ?_;refine kA ?_;exact⟨(j+1,s',m'),uH,uH,rfl,rfl,uS,⟨by simp only;omega,cD hm1 hm',ho',by rw[cq hlt,List.flatten_append];simpa using hs'⟩,by simp only;omega⟩):p:=h
theorem fH (h:p:=by
 rcases List.mem_append.1 hf with hf | hf
 ·exact(hfl f hf).mono hm512
 ·rw[List.mem_singleton.1 hf];exact⟨hA0.mono (cD hm8 hm812),⟨ht,ps,hht.mono hm812,hps.mono hm812,hA2.mono hm812⟩,⟨htg,ht7⟩,hpo,hbl,fb⟩):p:=h
theorem fI (h:p:=by
 refine jT ?_;rw[bR e1];rfl):p:=h
theorem fJ (h:p:=by
 refine aQ (r':=((((ls.take (k+1)).map List.length).sum:Nat):Int)) uH mv mv ?_;refine jA ?_;exact⟨k+1,uH,uH,rfl,rfl,uS,by omega,by omega⟩):p:=h
theorem fK (h:p:=by
 obtain⟨i,h1,h2,h3,h4,h5,h6⟩:=(show ∃ i,Has ρ' (sρ i)∧Has ρ' ρc∧_ from h)
 subst h3;subst h4;exact(show TC P N y ρ' D' (sm i) L' Q from fun a w ha=>hy i h6 a w ((ha.sub (h1.append h2).sub).sublist h5))):p:=h
theorem fL (h:p:=by
 have h1:=hall e he hb;have h0:=(mem_ready.1 hr).1;rw[heq]at h1;rcases Nat.lt_or_ge i listed.size with h' | h'
 ·simp[h']at h0 h1;rw[h0]at h1;cases h1
 ·simp[Array.getElem?_eq_none h']at h1):p:=h
theorem fM (h:p:=by
 intro a w ha;obtain⟨h1,h2,h3⟩:=ha.st.freeze;exact h _ h1 h2 a w ⟨ha.size,ha.env,ha.defers,h3⟩):p:=h
theorem fN (h:p:=by
 refine⟨(of_name h.1).1,fun f hf=>?_⟩;have:=List.all_eq_true.1 h.2 f hf;unfold fieldS at this;rw[bj]at this;obtain⟨y,hy,-⟩:=Pt.kids1 this.2;exact⟨(of_name this.1).1,y,hy⟩):p:=h
theorem fO (h:p:=by
 rintro v m' L' w' ⟨rfl,rfl,rfl⟩ hst;exact⟨_,rfl,rfl,hst⟩):p:=h
theorem fQ (h:p:=by
 exact h.free y (List.mem_cons_of_mem _ hy)):p:=h
theorem fR (h:p:=by
 simp only[Oper.wp,hr,Oper.upon,hd];have hp:=ha.put hN (.pointer (some ⟨w.heap.size,0,none⟩));exact⟨_,_,_,⟨hp.size,hp.env,hp.defers,ha.st.allocCells ⟨cs⟩ t⟩,hK _⟩):p:=h
theorem fU (h:p:=by
 cases fuel with
 | zero=>exact⟨hr,hq⟩
 | succ n=>exact⟨fun _=>hq,by rw[hr];simp⟩):p:=h
theorem fV (h:p:=by
 rw[if_pos h2]at h;cases h):p:=h
theorem fW (h:p:=by
 unfold TCall TCallX;intro w hst;refine(key w hst).mono fun e w' he=>?_;cases e with
 | returned v=>exact he
 | panicked ch=>exact he.elim
 | outgrown=>exact he):p:=h
theorem fX (h:p:=by
 refine kh ?_;exact⟨i+1,uH,uH,rfl,rfl,uS,⟨hlt,by rw[cq hlt,List.all_append,hI];simp[hb]⟩,by omega⟩):p:=h
theorem fY (h:p:=by
 refine kh ?_;exact⟨(i+1,fn),uH,uH,rfl,rfl,uS,(show i+1≤fl.length by omega),by simp only;omega⟩):p:=h
theorem fZ (h:p:=by
 refine jy ?_;rw[bQ e1];rfl):p:=h
theorem f0 (h:p:=by
 unfold Ps.peek at e;cases hb:q f k with
 | true=>simp only[hb,cz]at e;exact hA f hf k a k' e
 | false=>simp only[hb,cy]at e;exact hB f hf k a k' e):p:=h
theorem f8 (h:p:=by
 refine lV ?_;refine am (fun e4=>?_) (fun e4=>?_)
 ·exfalso;omega
 ·refine uA ?_;refine cJ rfl (L':=T) (bZ _) ⟨(),hZ,cC _,rfl,hB⟩):p:=h
theorem ga (h:p:=by
 simp only[execOp,ho,Instr.alloc,newVar,newRow,cellsF_eq hv,Sem.run_bind,Sem.run_pure,run_newObj,Result.andThen_ok,World.alloc_eq,T.run_zero w hi]):p:=h
theorem gb (h:p:=by
 rw[(lim_fix _).2.1];simp[stmtS,headS,kidsR,Tree.kind,Tree.num,Tree.name,Tree.kids,show lim.expr c=true from hc,show lim.block b=true from hb1]):p:=h
theorem gc (h:p:=by
 refine cJ rfl (L':=T) (bZ _) ⟨(),hZ,cC _,rfl,hB⟩):p:=h
theorem gd (h:p:=by
 have:=hd.1 y hy;simpa[Item.Disj,Item.len,Item.blk,Item.off]using this):p:=h
theorem ge (h:p:=by
 simp only[Oper.wp,he,Oper.upon];rw[hd];have hp:=ha.put hN s'.v;rw[q3]at g2;exact⟨_,_,_,⟨hp.size,hp.env,hp.defers,g2⟩,hK s' m' g1 hrep g3⟩):p:=h
theorem gg (h:p:=by
 simp only at e4;refine kN ?_;rw[bR (show ¬a.num<(a.kids.length:Int) by omega),Bool.false_and,Bool.and_false]):p:=h
theorem gh (h:p:=by
 have e:(⟨listed⟩:Array Bool).setIfInBounds i true=⟨listed.set i true⟩:=by
  apply Array.ext';simp
 rw[e,hd];exact h _ _ (ha.put hN v)):p:=h
theorem gi (h:p:=by
 repeat (refine thenQ_p ?_)
 obtain rfl:c=5:=nk;exact build_bad (v2:=ptr bp) (v3:=.int .i64 0) rfl rfl hm08 ⟨_,bhY⟩):p:=h
theorem gj (h:p:=by
 rw[show r.length+1+blk false y=(r++[10]).length+blk false y by simp,show r++10::y=(r++[10])++y by simp,List.drop_append];simp):p:=h
theorem gm (h:p:=by
 simp only[execOp,ho,ha.env.eval he,ha.env.evalO h1,ha.env.evalO h2,Option.map_none,Sem.run_bind,hr,Result.andThen_ok,Sem.run_pure]):p:=h
theorem gn (h:p:=by
 rw[hb2,ha2]at hT;simp only[Bool.and_true,cz]at hT;refine uA ?_;refine aq 1 ?_;exact⟨23,uH,uH,rfl,rfl,uS,PE.isM_lt hb2,hT⟩):p:=h
theorem gp (h:p:=by
 rw[h1,h2];exact .inl ⟨rfl,rfl⟩):p:=h
theorem gq (h:p:=by
 refine uA ?_;refine cI rfl (L':=E.I k h::tok s 4::L) uS ⟨acc,k,[tok s 4],hT,hm,hk,⟨s,rfl,rfl,hs,ho,by omega⟩,rfl⟩):p:=h
theorem gu (h:p:=by
 refine hfree k ok hk hki ?_ hno;by_cases hjk:j=k
 ·subst hjk;exact hjun
 ·rw[getD_set_ne true hjk]at hun;exact hun):p:=h
theorem gx (h:p:=by
 refine lc ?_;exact .inr ⟨hI.trans (pU_big hlt hd mv),_,2,.inr rfl,rfl⟩):p:=h
theorem gy (h:p:=by
 obtain⟨hD,v,L2,hv,hs2,hr⟩:=h2;exact⟨h1.defers.trans hD,u,rfl,v,hv _ _ h1.env h1.st,hR _ _ _ _ hr (h1.st.sub hs2)⟩):p:=h
theorem gz (h:p:=by
 simp only;rw[funsI_snoc];exact(((List.sublist_cons_self _ _).cons_cons _).cons_cons _).cons_cons _ |>.cons_cons _):p:=h
theorem gB (h:p:=by
 simp only[PR.go.injEq]at h;obtain⟨rfl,rfl⟩:=h;exact k):p:=h
theorem gC (h:p:=by
 rintro ch m' L' ⟨k',h',h1,h2,h3,rfl,rfl⟩;exact hb _ _ _ _ _ (cD hm h2) h3 (by rw[hT];unfold Ps.bind;rw[h1]) hL):p:=h
theorem gE (h:p:=by
 show Tree.isType _=true;rw[isType_eq];simp[Tree.kind,Tree.num,Tree.name,Tree.kids,show t.isType=true from ht]):p:=h
theorem gF (h:p:=by
 intro a w ha;cases b with
 | true=>exact h1 rfl a w (ha.setKnown hl)
 | false=>exact h2 rfl a w (ha.setKnown hl)):p:=h
theorem gG (h:p:=by
 have:(0:Int)≤(lo:Int)∧(lo:Int)≤(y:Int):=⟨by omega,by omega⟩
 simp[Instr.sliceBound,asIntOf,this]):p:=h
theorem gH (h:p:=by
 have:(0:Int)≤(hi:Int)∧(hi:Int)≤(y:Int):=⟨by omega,by omega⟩
 simp[Instr.sliceBound,asIntOf,this]):p:=h
theorem gI (h:p:=by
 show declS _ _=true;simp only[declS,Tree.kind];simp[ofB,Tree.kind,Tree.num,Tree.name,Tree.kids,hnm];exact hl):p:=h
theorem gJ (h:p:=by
 show lim.stmt _=true;rw[(lim_fix _).2.1];simp[stmtS,headS,leaf,kidsR,Tree.kind,Tree.num,Tree.name,Tree.kids]):p:=h
theorem gK (h:p:=by
 refine uA ?_;refine cI rfl (L':=.cells bl 0 [.int .i64 (left-1)]::L) uS ⟨rfl,.inr ⟨rfl,by omega,_,rfl⟩⟩):p:=h
theorem gL (h:p:=by
 refine jE ?_;refine aw (L':=E.I k2 0::L) 1 ⟨_,k2,[],hT,hm,hk,⟨x,rfl,rfl,hrx⟩,rfl⟩):p:=h
theorem gM (h:p:=by
 refine uA ?_;refine aq 1 ?_;exact⟨(y,mB,e,k3,N),uH,uH,rfl,rfl,uS,⟨cD hm3 hleB,hk,hry,hT⟩,by simp only;omega⟩):p:=h
theorem gN (h:p:=by
 show lim.expr _=true;refine mj ?_;simp[exprS,leaf,bareB,kidsR,Tree.kind,Tree.num,Tree.name,Tree.kids]):p:=h
theorem gO (h:p:=by
 show ret (acc++(a::l))=ret (acc++[a]++l);rw[bo];rfl):p:=h
theorem gP (h:p:=by
 rw[hrow,e3,hfill];simp only[newRow,Sem.run_bind,run_newObj,Result.andThen_ok,Sem.run_pure,World.alloc_eq]):p:=h
theorem gQ (h:p:=by
 simp only[execOp,ho,ha.env.eval hx,ha.env.eval hy,Sem.run_bind,g2,Result.andThen_ok,g1,h,Sem.run_pure];rfl):p:=h
theorem gR (h:p:=by
 rintro v m' L' ⟨a,k',xs,h1,h2,h3,h4,rfl⟩;exact hK v m' a k' xs (by rw[hT];unfold Ps.bind;rw[h1]) h2 h3 h4):p:=h
theorem gS (h:p:=by
 rw[hvl,hy.1];exact Nat.mul_le_mul_right _ mv):p:=h
theorem gT (h:p:=by
 rw[List.drop_append_of_le_length ng]):p:=h
theorem gV (h:p:=by
 rintro ch m' T1 ⟨h1,h2,rfl,h4⟩;exact hb _ _ _ (by rw[hZ,h1];rfl) (cD hm h2) (Hs.trans hL (h4.of_app xs))):p:=h
theorem gW (h:p:=by
 unfold fitsB;rw[formed_eq,hI,hhd,bQ mv];rfl):p:=h
theorem gX (h:p:=by
 simp only[execOp,ho,ha.env.eval hx,ha.env.eval hy,Sem.run_bind,e2,Result.andThen_ok,e1,h,Sem.run_pure]):p:=h
theorem gY (h:p:=by
 obtain⟨hD,v,L2,hv,hs2,hR⟩:=h2;exact⟨h1.defers.trans hD,v,hv _ _ h1.env h1.st,m',L2,h1.st.sub hs2,hR⟩):p:=h
theorem gZ (h:p:=by
 by_cases hk:k<n
 ·rw[hq.same f' f k k (hc.lo k hk)];exact hx
 ·exact hq.no _ _ (hc.hi k mv)):p:=h
theorem g9 (h:p:=by
 simp only[IntKind.wrap,IntKind.signed,IntKind.bits,Bool.false_and,Bool.false_eq_true,if_false];omega):p:=h
theorem hH (h:p:=by
 refine uA ?_;exact cI rfl (L':=L) uS ⟨hm1,rfl,rfl⟩):p:=h
theorem ia (h:p:=by
 exact⟨(World.cell?_of_block e).trans hv,fun i=>World.frozen?_of_block (a:=⟨a.block,i,none⟩) e⟩):p:=h
theorem ic (h:p:=by
 refine jT ?_;rw[hI,kidsR_end _ _ _ _ nB mv]):p:=h
theorem ie (h:p:=by
 exact Run.bind1 (Run.sig hf hN (h.up mv)) fun s=>(Run.bret _ (hb.up mv)).lax):p:=h
theorem ig (h:p:=by
 rw[List.drop_append_of_le_length mv]):p:=h
theorem ij (h:p:=by
 rw[show lim.expr x=true from hl.1 x hx1,Bool.and_true];exact List.all_eq_true.1 hx x hx1):p:=h
theorem ik (h:p:=by
 refine lF ?_;refine .inl ⟨n,hn,?_,rfl⟩;rw[hI,ci mv];rfl):p:=h
theorem il (h:p:=by
 refine Nat.lt_of_not_le fun hge=>h1 (ci hge)):p:=h
theorem io (h:p:=by
 exact h.items y (List.mem_cons_of_mem _ hy)):p:=h
theorem ip (h:p:=by
 obtain⟨x,rfl,rfl,h5,h6⟩:=h4;exact hK x m' a k' h1 (cD hm h2) (hE.mono h2) h2 h3 h5 h6):p:=h
theorem iq (h:p:=by
 rintro _ m1 _ ⟨hm1,rfl,b,rfl⟩;refine uA ?_;refine ax ?_;refine ag ⟨hm1,rfl,_,_,rfl⟩):p:=h
theorem ir (h:p:=by
 refine uN ?_;refine TC.cond_t rfl ?_;refine uN ?_;exact cI rfl uS (bad1 mv)):p:=h
theorem iu (h:p:=by
 rw[cj mv]at hr1;refine uA ?_;exact cI rfl (L':=L) uS ⟨hm1,rfl,u,rfl,hr1⟩):p:=h
theorem iw (h:p:=by
 refine uA ?_;refine aK (.inl rfl) ?_;refine jZ ?_;exact .inl ⟨v,e1,rfl⟩):p:=h
theorem iy (h:p:=by
 rw[if_neg h4]at h;cases h):p:=h
theorem iz (h:p:=by
 obtain⟨x,rfl,rfl,h5⟩:=h4;exact hK x m' a k' h1 (cD hm h2) (hE.mono h2) h2 h3 h5):p:=h
theorem iD (h:p:=by
 by_cases hk:k<q
 ·rw[hc.lo k hk];exact hx
 ·rw[hc.hi k mv];exact hd):p:=h
theorem iE (h:p:=by
 refine uA ?_;exact cI rfl uS (bad2 (by unfold headB;rw[←h2,bR e1,bR k4];rfl))):p:=h
theorem iF (h:p:=by
 simp only[Function.comp,bo,List.singleton_append,Prod.mk.injEq,true_and];omega):p:=h
theorem iG (h:p:=by
 refine jT ?_;rw[kidsR_short _ _ _ nB]):p:=h
theorem iH (h:p:=by
 refine jy ?_;unfold bareB at hb;unfold ofB;rw[h1]at hb
 simp_all):p:=h
theorem iI (h:p:=by
 obtain⟨y,hy,rfl⟩:=List.mem_map.1 hx;exact hkid y hy (isType_node (h3 y hy))):p:=h
theorem iJ (h:p:=by
 exact⟨by omega,this.2,fun _=>this.1⟩):p:=h
theorem iK (h:p:=by
 have:=World.block_lt_of_cell? _ _ (h.c _ _ _ hc);simp only at this;omega):p:=h
theorem iL (h:p:=by
 exact .inr (.inr (.inr (.inl (by simp only[Item.len,Item.off];omega))))):p:=h
theorem iM (h:p:=by
 simp only[Nat.sub_self,Nat.sub_zero,Nat.zero_mul,Nat.add_zero,ite_self]):p:=h
theorem iN (h:p:=by
 simp only[List.take_succ_cons,List.take_zero,cm];exact ne_nl mv):p:=h
theorem iO (h:p:=by
 rename_i hl;rw[hy _ hl];simp only[bu]at h;subst h;cases want<;>rfl):p:=h
theorem iP (h:p:=by
 have:=growslice_fits hlt hfit;omega):p:=h
theorem iQ (h:p:=by
 refine jy ?_;rw[e3];rfl):p:=h
theorem iR (h:p:=by
 rename_i hc;rw[fo_eq]at h;simp[execOp,hA.eval h,hA.eval hc,asBool]):p:=h
theorem iS (h:p:=by
 simp only at e3;refine kN ?_;rw[bR e3];rfl):p:=h
theorem iT (h:p:=by
 refine uA ?_;refine aK (.inl rfl) ?_;refine cJ rfl uS ⟨rfl,rfl,rfl⟩):p:=h
theorem iU (h:p:=by
 rename_i hc;rw[if_pos hc,if_pos hc,blk_take false r j mv]):p:=h
theorem iV (h:p:=by
 rw[h1,h2];exact .inr ⟨x,rfl,rfl⟩):p:=h
theorem iW (h:p:=by
 subst hji;exact hy.wpOp hi trivial ⟨fun hu=>hS (hu.unset hTi),H⟩):p:=h
theorem iX (h:p:=by
 have:=cell_arr g1 q1;rw[g2]at this;simpa[Item.off]using this):p:=h
theorem iY (h:p:=by
 exact cI rfl uS (bad mv)):p:=h
theorem iZ (h:p:=by
 refine uA ?_;refine ag (L':=L) ⟨cD hm1 hm2,rfl,?_⟩;rw[e1];rfl):p:=h
theorem i9 (h:p:=by
 exact fun c a' w' h'=>hc.put h'):p:=h
theorem ja (h:p:=by
 exact tg_leaf _ _ _ mv):p:=h
theorem jb (h:p:=by
 refine((hAt b o rfl).mono g1).append ?_;rw[hx.1];exact g2):p:=h
theorem jc (h:p:=by
 cases r with
 | nil=>simp at h2
 | cons x r=>simpa using h2.2):p:=h
theorem jd (h:p:=by
 exact⟨⟨none,0,0⟩,rfl,cS _ _⟩):p:=h
theorem je (h:p:=by
 rw[if_pos h2]at h ⊢;exact h):p:=h
theorem jf (h:p:=by
 simp only[Except.error.injEq,Prod.mk.injEq]at h;omega):p:=h
theorem jg (h:p:=by
 cases ob<;>first | rfl | (simp[isCells]at hc;done)):p:=h
theorem jh (h:p:=by
 exact⟨_,by assumption,rfl⟩):p:=h
theorem ji (h:p:=by
 exact retQ_p (L':=E.I k h::L) uS ⟨rfl,rfl,rfl,rfl⟩):p:=h
theorem jk (h:p:=by
 have:=ready_mono hj hji;rw[H.1]at this;cases this):p:=h
theorem jl (h:p:=by
 rw[if_neg mv,if_neg mv]at e;omega):p:=h
theorem jm (h:p:=by
 rw[Array.setIfInBounds_comm _ _ hji];exact h3.2.2):p:=h
theorem jn (h:p:=by
 refine jy ?_;rw[bR e1,bR e2,bR e3];rfl):p:=h
theorem jo (h:p:=by
 obtain⟨a,ha⟩:=g2 mv;rw[ha];exact⟨a,rfl⟩):p:=h
theorem jp (h:p:=by
 obtain⟨_,_,_,_⟩:=a;unfold Tree.deep at hd;omega):p:=h
theorem jq (h:p:=by
 refine jT ?_;rw[e6];rfl):p:=h
theorem jr (h:p:=by
 refine jy ?_;unfold lod;rw[h3];rfl):p:=h
theorem js (h:p:=by
 rw[g1]at h1;cases h1;simp[isCells]at h2):p:=h
theorem jt (h:p:=by
 refine jy ?_;rw[bR e2,e3];rfl):p:=h
theorem ju (h:p:=by
 refine jy ?_;rw[pre,h10];rfl):p:=h
theorem jv (h:p:=by
 split at h
 ·cases h
 ·cases h;exact hs):p:=h
theorem jw (h:p:=by
 split at h
 ·cases h
 ·cases h;rfl):p:=h
end Go
