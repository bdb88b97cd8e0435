/-
  Part 0 of the proof: library, walks and plain laws.
-/
import Derived.KernelRfl
set_option linter.unusedVariables false
set_option linter.unusedSimpArgs false
set_option maxHeartbeats 6400000
namespace Go
abbrev aS := @List.length_append
abbrev aU := @List.length_cons
abbrev aV := @List.length_nil
abbrev aW := @List.Perm.refl
abbrev aX := @List.Perm.swap
abbrev aY := @List.Perm.trans
abbrev aZ := @List.Perm.cons
abbrev a6 := @Bool.and_eq_true
abbrev a7 := @List.getElem?_eq_getElem
abbrev a8 := @List.append_assoc
abbrev a9 := @Option.some.injEq
abbrev ba := @decide_eq_true_eq
abbrev be := @List.getElem?_append_left
abbrev bg := @List.getElem?_append_right
abbrev bj := @Bool.or_eq_true
abbrev bm := @Nat.le_refl
abbrev bo := @Nat.le_trans
abbrev br := @List.map_cons
abbrev bu := @List.map_nil
abbrev bw := @List.cons_append
abbrev bz := @List.getElem_mem
abbrev bD := @Int.toNat_natCast
abbrev bE := @List.length_map
abbrev bF := @List.all_eq_true
abbrev bG := @Bool.true_and
abbrev bH := @decide_eq_true
abbrev bI := @decide_eq_false
abbrev bJ := @List.drop_eq_getElem_cons
abbrev bK := @List.length_take
abbrev bL := @List.length_drop
abbrev bM := @List.Sublist.cons_cons
abbrev bN := @List.Sublist.cons
abbrev bO := @List.Sublist.refl
abbrev bP := @List.append_nil
abbrev bQ := @Nat.lt_of_lt_of_le
abbrev bR := @List.drop_eq_nil_of_le
abbrev bS := @List.take_of_length_le
abbrev bU := @Nat.zero_le
abbrev bV := @List.take_append_drop
abbrev bW := @Nat.zero_add
abbrev bX := @List.take_succ_eq_append_getElem
abbrev bY := @List.all_cons
abbrev bZ := @List.map_append
abbrev ce := @List.mem_of_mem_take
abbrev cg := @Option.map_some
abbrev ci := @cond_false
abbrev cj := @cond_true
abbrev cl := @Nat.add_assoc
abbrev cm := @List.drop_zero
theorem uK {p : Prop} (h : p:=by kernel_rfl) : p:=h
structure Wz (p : Prop) : Prop where
 h : p
theorem kT {p : Prop} (h : p:=by omega) : p:=h
theorem kU {p : Prop} (h : p:=by simp) : p:=h
theorem kV {p : Prop} (h : p:=by decide) : p:=h
theorem kW {p : Prop} (h : p:=by repeat (first|exact dc|refine de ?_|refine df ?_)) : p:=h
theorem kY {p : Prop} (h : p:=by classical exact List.perm_iff_count.2 (fun pa=>by simp only [List.count_append,List.count_cons,List.count_nil];omega)) : p:=h
theorem kZ {p : Prop} (h : p:=by repeat (first|exact dk|refine dl ?_)) : p:=h
theorem la {p : Prop} (h : p:=by first | rfl | omega | (simp only;omega)) : p:=h
theorem lb {p : Prop} (h : p:=by repeat (first|exact dk|refine dl ?_|refine dm ?_)) : p:=h
theorem lc {p : Prop} (h : p:=by simp [hlt]) : p:=h
theorem ld {p : Prop} (h : p:=by repeat (first|exact dc|refine de ?_)) : p:=h
theorem lg {p : Prop} (h : p:=by simp [hlt']) : p:=h
theorem lh {p : Prop} (h : p:=by simp;omega) : p:=h
theorem li {p : Prop} (h : p:=by repeat (first|exact dc|refine df ?_)) : p:=h
theorem lj {p : Prop} (h : p:=by simp only [aS,aU,aV,rTree,mkR];omega) : p:=h
theorem lk {p : Prop} (h : p:=by simpa using h) : p:=h
theorem ll {p : Prop} (h : p:=by simp [eqGuard]) : p:=h
theorem ln {p : Prop} (h : p:=by simp [hx]) : p:=h
theorem lq {p : Prop} (h : p:=by first | rfl | omega) : p:=h
theorem lr {p : Prop} (h : p:=by rw [hnk];simp) : p:=h
theorem lu {p : Prop} (h : p:=by simp only [aS,aU,aV,rPtr];omega) : p:=h
theorem lw {p : Prop} (h : p:=by simp only [aU];omega) : p:=h
theorem ly {p : Prop} (h : p:=by have:=of_decide_eq_true e;omega) : p:=h
theorem lz {p : Prop} (h : p:=by rw [hh];decide) : p:=h
theorem lA {p : Prop} (h : p:=by unfold kid;rw [hk];rfl) : p:=h
theorem lB {p : Prop} (h : p:=by classical exact List.perm_iff_count.2 (fun pa=>by have pz0:=List.Perm.count_eq h pa;simp only [List.count_append,List.count_cons,List.count_nil] at pz0 ⊢;omega)) : p:=h
theorem lC {p : Prop} (h : p:=by simpa using hi) : p:=h
theorem lD {p : Prop} (h : p:=by unfold kid;rw [hnk];rfl) : p:=h
theorem lE {p : Prop} (h : p:=by simp only [aU,aV,rTree,mkR];omega) : p:=h
theorem lF {p : Prop} (h : p:=by rw [fl_eq];rfl) : p:=h
theorem lG {p : Prop} (h : p:=by simp [hlt2]) : p:=h
theorem lH {p : Prop} (h : p:=by rw [bL];omega) : p:=h
theorem lI {p : Prop} (h : p:=by simpa using o3) : p:=h
theorem lJ {p : Prop} (h : p:=by simp only;omega) : p:=h
theorem lK {p : Prop} (h : p:=by rw [hcZ,hZn];rfl) : p:=h
theorem lL {p : Prop} (h : p:=by rw [hk];simp) : p:=h
theorem lM {p : Prop} (h : p:=by rw [bK];omega) : p:=h
theorem lN {p : Prop} (h : p:=by have:=cZ hk;omega) : p:=h
theorem lO {p : Prop} (h : p:=by show q + cstL ks ≤ _;omega) : p:=h
theorem lP {p : Prop} (h : p:=by simp only [Item.len];omega) : p:=h
theorem lQ {p : Prop} (h : p:=by simp [cstL];omega) : p:=h
theorem lR {p : Prop} (h : p:=by unfold kid;rw [hy];rfl) : p:=h
theorem lS {p : Prop} (h : p:=by rw [h] at hr;cases hr) : p:=h
theorem lT {p : Prop} (h : p:=by rw [← hnm];exact e9) : p:=h
theorem lU {p : Prop} (h : p:=by rw [hf k (by omega)];exact hx) : p:=h
theorem lV {p : Prop} (h : p:=by rw [hq.same f' f k k (hf k (by omega))];exact hx) : p:=h
theorem lW {p : Prop} (h : p:=by first | omega | (simp only;omega)) : p:=h
theorem lX {p : Prop} (h : p:=by simp [Item.len] at hl ⊢;omega) : p:=h
theorem lY {p : Prop} (h : p:=by simp [Item.len] at hj ⊢;omega) : p:=h
theorem lZ {p : Prop} (h : p:=by have:=hy.1;rw [hz] at this;simpa using this) : p:=h
theorem l5 {p : Prop} (h : p:=by unfold Lib.bytesWorld World.freeze;split <;> rfl) : p:=h
theorem l6 {p : Prop} (h : p:=by rw [bS (by simp only [aU];omega)];rfl) : p:=h
theorem l7 {p : Prop} (h : p:=by classical exact List.perm_iff_count.2 (fun pa=>by have pz0:=List.Perm.count_eq hX pa;simp only [List.count_append,List.count_cons,List.count_nil] at pz0 ⊢;omega)) : p:=h
theorem l8 {p : Prop} (h : p:=by rw [show decide (l.length=1)=decide ((sl.len : Int)=1) from decide_eq_decide.2 (by omega)]) : p:=h
theorem mc {p : Prop} (h : p:=by classical exact List.perm_iff_count.2 (fun pa=>by have pz0:=List.Perm.count_eq hT pa;simp only [List.count_append,List.count_cons,List.count_nil] at pz0 ⊢;omega)) : p:=h
theorem ic {p q : Prop} (h : q) (e : Wz q→p:=by (intro zz;rintro _ _ _ ⟨rfl,rfl,rfl⟩;refine uA ?_;exact zz.h)) : p:=e ⟨h⟩
theorem ie {p q : Prop} (h : q) (e : Wz q→p:=by (intro zz;refine uA ?_;refine uT ?_;refine uA ?_;exact zz.h)) : p:=e ⟨h⟩
theorem ig {p q : Prop} (h : q) (e : Wz q→p:=by (intro zz;refine af ⟨rfl,rfl, ?_⟩;exact zz.h)) : p:=e ⟨h⟩
theorem ij {p q : Prop} (h : q) (e : Wz q→p:=by (intro zz;refine aa (r':=((i + 1 : Nat) : Int)) uH (by omega) ?_;exact zz.h)) : p:=e ⟨h⟩
theorem ik {p q : Prop} (h : q) (e : Wz q→p:=by (intro zz;refine uA ?_;refine uT ?_;refine uL ?_;exact zz.h)) : p:=e ⟨h⟩
theorem il {p q : Prop} (h : q) (e : Wz q→p:=by (intro zz;refine aa (r':=((k + 1 : Nat) : Int)) uH (by omega) ?_;exact zz.h)) : p:=e ⟨h⟩
theorem io {p q : Prop} (h : q) (e : Wz q→p:=by (intro zz;refine uB ?_;refine cr ?_;refine cP (size:=1) ?_;refine cP (size:=4) ?_;refine cu (ι:=Nat × Sl × Sl × List Nat × List Tree × Mem × List Item) [0,1,66,67] rfl (fun y=>[(68, .int .i64 (y.1 : Int)),(9,y.2.1.v),(10,y.2.2.1.v)]) (fun y=>y.2.2.2.2.2.1) (fun y=>tok y.2.2.1 4 :: tok y.2.1 1 :: y.2.2.2.2.2.2) (fun y=>y.1 ≤ l.length∧m ≤ y.2.2.2.2.2.1∧SlRep rPtr y.2.2.2.2.2.1 y.2.1 y.2.2.2.1∧Own y.2.1∧y.2.2.2.1.length=y.1∧SlRep rTree y.2.2.2.2.2.1 y.2.2.1 y.2.2.2.2.1∧Own y.2.2.1∧y.2.2.2.2.1.length=y.1∧(∀ t ∈ y.2.2.2.2.1,tg t=true)∧Bun E F sc w (q + cstL (l.drop y.1)) y.2.2.2.2.2.1 y.2.2.2.2.2.2 L∧Z=((l.drop y.1).mapM fun n=>(valC ex (plain sc) n).map X.type).bind fun r=>some (y.2.2.2.2.1++r)) (fun y=>l.length - y.1) (0,⟨none,0,0⟩,⟨none,0,0⟩,[],[],m,T) uH rfl uS ⟨bU _,cn _,cH _ _,cQ,rfl,cH _ _,cQ,rfl,(fun _ h=>by cases h),hB,(by rw [hZ];show _=Option.bind (List.mapM _ (l.drop 0)) _;rw [cm];cases List.mapM (fun n=>(valC ex (plain sc) n).map X.type) l <;> rfl)⟩ ?_;exact zz.h)) : p:=e ⟨h⟩
theorem ip {p q : Prop} (h : q) (e : Wz q→p:=by (intro zz;refine uM ?_;refine uB ?_;refine cr ?_;refine cP (size:=5) ?_;refine cP (size:=5) ?_;refine cu (ι:=Nat × Sl × Sl × List Fld × List Fld × Mem) [1,4,6,7,20,21,22,41,42] rfl (fun y=>[(43, .int .i64 (y.1 : Int))]) (fun y=>y.2.2.2.2.2) (fun y=>tok y.2.1 5 :: tok y.2.2.1 5 :: .cells b7 0 (declC ⟨h9.name,decide (h9.kind=3),y.2.1,y.2.2.1⟩) :: .cells b6 0 (treeC h9) :: bufI s (encs rHD hs) :: tok s 4 :: (toks (hs.map HDecl.methods) 5++(.cells b1 0 (treeC h) :: L))) (fun y=>y.1 ≤ n.kids.length∧m1 ≤ y.2.2.2.2.2∧SlRep rField y.2.2.2.2.2 y.2.1 y.2.2.2.1∧Own y.2.1∧SlRep rField y.2.2.2.2.2 y.2.2.1 y.2.2.2.2.1∧Own y.2.2.1∧y.2.2.2.1=(if n.kind=3 then [] else (n.kids.take y.1).map fldOf)∧y.2.2.2.2.1=(if n.kind=3 then (n.kids.take y.1).map fldOf else [])) (fun y=>n.kids.length - y.1) (0,nilS,nilS,[],[],m1) uH rfl uS ⟨bU _,cn _,cH _ _,cQ,cH _ _,cQ,by split <;> rfl,by split <;> rfl⟩ ?_;exact zz.h)) : p:=e ⟨h⟩
theorem iq {p q : Prop} (h : q) (e : Wz q→p:=by (intro zz;rintro _ _ _ ⟨rfl,rfl,rfl⟩;exact zz.h)) : p:=e ⟨h⟩
theorem ir {p q : Prop} (h : q) (e : Wz q→p:=by (intro zz;refine ⟨cn _,_,aW _, ?_⟩;exact zz.h)) : p:=e ⟨h⟩
theorem iu {p q : Prop} (h : q) (e : Wz q→p:=by (intro zz;refine av tab rTree 0 hr4 uH (by first | rfl | omega | (simp only;omega)) uH ?_;exact zz.h)) : p:=e ⟨h⟩
theorem iw {p q : Prop} (h : q) (e : Wz q→p:=by (intro zz;refine uA ?_;refine uM ?_;refine uA ?_;exact zz.h)) : p:=e ⟨h⟩
theorem iy {p q : Prop} (h : q) (e : Wz q→p:=by (intro zz;refine am tab rTree i hr5 uH (by first | rfl | omega | (simp only;omega)) rfl hx ?_;exact zz.h)) : p:=e ⟨h⟩
theorem iz {p q : Prop} (h : q) (e : Wz q→p:=by (intro zz;refine cJ tab uC uK [0,1,2] uK rfl ?_;exact zz.h)) : p:=e ⟨h⟩
theorem iD {p q : Prop} (h : q) (e : Wz q→p:=by (intro zz;refine af ⟨cn _,rfl, ?_⟩;exact zz.h)) : p:=e ⟨h⟩
theorem iE {p q : Prop} (h : q) (e : Wz q→p:=by (intro zz;refine uA ?_;refine TC.drawK (d2:=2) (d3:=3) cV rfl rfl uK [] 10 rfl [.cells b8 0 (treeC h9), .cells b2 0 [ptr bp], .cells bp 2 [fs.v]] (.obj fm (mapO kStr es ec) :: tok fs 1 :: tok sb 4 :: (FunsI fl++(.cells b1 0 (treeC h) :: .cells b3 0 [.int .i64 0] :: .cells bc 3 [.pointer none, .int .i64 0] :: .cells bp 3 [.pointer none] :: L))) bhH ?_;refine cJ tab dq uK [0] uK rfl ?_;refine aP (k:=1) 1 0 dq ?_;refine aP (k:=0) 2 1 dq ?_;refine cJ tab dq uK [3,4] uK rfl ?_;refine aP (k:=0) 5 2 dq ?_;refine cJ tab dq uK [6,7] uK rfl ?_;refine ae 8 ?_;exact zz.h)) : p:=e ⟨h⟩
theorem iF {p q : Prop} (h : q) (e : Wz q→p:=by (intro zz;refine DO.arith 8 (r':=((k : Nat) : Int)) uC uK uK rfl rfl rfl rfl rfl rfl rfl rfl (by first | rfl | omega | (simp only;omega)) (by omega) ?_;refine DO.index tab rTok 9 k hE.rep uC uK uK rfl rfl rfl rfl rfl rfl rfl (by first | rfl | omega) rfl hx ?_;exact zz.h)) : p:=e ⟨h⟩
theorem iG {p q : Prop} (h : q) (e : Wz q→p:=by (intro zz;refine uA ?_;refine af ⟨rfl,rfl, ?_⟩;exact zz.h)) : p:=e ⟨h⟩
theorem iH {p q : Prop} (h : q) (e : Wz q→p:=by (intro zz;refine cu (ι:=Nat × Int × HTree) [3,4,10,65,66] rfl (fun y=>[(67, .int .i64 (y.1 : Int))]) (fun _=>m4) (fun y => .cells b10 0 (exC 48 y.2.2 n.name y.2.1 sA 0 none none) :: .cells b4 0 (treeC zH) ::   .cells b3 0 [.int .i64 h.kind,strV n.name, .int .i64 h.num,h.kids.v] :: T1) (fun y=>y.1 ≤ fl.length∧Found m4 (fl.take y.1) n.name y.2.1 y.2.2) (fun y=>fl.length - y.1) (0, -2,zH) uH rfl uS ⟨bU _, .inl ⟨by rw [List.take_zero];rfl,rfl,rfl⟩⟩ ?_;exact zz.h)) : p:=e ⟨h⟩
theorem iI {p q : Prop} (h : q) (e : Wz q→p:=by (intro zz;refine uB ?_;refine cr ?_;exact zz.h)) : p:=e ⟨h⟩
theorem iJ {p q : Prop} (h : q) (e : Wz q→p:=by (intro zz;refine cJ tab uC uK [6] uK rfl ?_;refine cM ?_;refine aw 7 ?_;exact zz.h)) : p:=e ⟨h⟩
theorem iK {p q : Prop} (h : q) (e : Wz q→p:=by (intro zz;refine cu (ι:=Nat) [0,1,7] rfl (fun k=>[(8, .int .i64 (k : Int))]) (fun _=>m) (fun _=>L) (fun k=>k ≤ l.length∧idxP l p 0=idxP (l.drop k) p k) (fun k=>l.length - k) 0 uH rfl uS ⟨bU _,rfl⟩ ?_;exact zz.h)) : p:=e ⟨h⟩
theorem iL {p q : Prop} (h : q) (e : Wz q→p:=by (intro zz;refine cJ tab uC uK [0] uK rfl ?_;exact zz.h)) : p:=e ⟨h⟩
theorem iM {p q : Prop} (h : q) (e : Wz q→p:=by (intro zz;refine cJ tab uC uK [8,9] uK rfl ?_;exact zz.h)) : p:=e ⟨h⟩
theorem iN {p q : Prop} (h : q) (e : Wz q→p:=by (intro zz;refine cJ tab uC uK [2] uK rfl ?_;refine ae 3 ?_;exact zz.h)) : p:=e ⟨h⟩
theorem iO {p q : Prop} (h : q) (e : Wz q→p:=by (intro zz;refine uA ?_;refine am tab rTree k h4 uH (by first | rfl | omega | (simp only;omega)) rfl hx ?_;exact zz.h)) : p:=e ⟨h⟩
theorem iP {p q : Prop} (h : q) (e : Wz q→p:=by (intro zz;refine uT ?_;refine uA ?_;exact zz.h)) : p:=e ⟨h⟩
theorem iQ {p q : Prop} (h : q) (e : Wz q→p:=by (intro zz;refine uA ?_;refine av tab rTree 0 hS uH (by first | rfl | omega | (simp only;omega)) uH ?_;exact zz.h)) : p:=e ⟨h⟩
theorem iR {p q : Prop} (h : q) (e : Wz q→p:=by (intro zz;refine uA ?_;refine av tab rPtr 0 hk uH (by first | rfl | omega | (simp only;omega)) uH ?_;exact zz.h)) : p:=e ⟨h⟩
theorem iS {p q : Prop} (h : q) (e : Wz q→p:=by (intro zz;refine af ⟨hm1,rfl, ?_⟩;exact zz.h)) : p:=e ⟨h⟩
theorem iT {p q : Prop} (h : q) (e : Wz q→p:=by (intro zz;refine qs rfl (OT.mkIface tab rfl rfl rfl rfl rfl ?_);refine qs rfl (OT.errEq tab (info:=Tryz.t197) (.inl rfl) rfl rfl rfl rfl rfl rfl uK rfl rfl ?_);refine uA ?_;exact zz.h)) : p:=e ⟨h⟩
theorem iU {p q : Prop} (h : q) (e : Wz q→p:=by (intro zz;refine uA ?_;refine TC.drawK (d2:=2) (d3:=3) cV rfl rfl uK [10] 11 rfl [.cells b2 0 [ptr bp], .cells bp 2 [fs.v]] _ (bhK hT9) ?_;refine aP (k:=0) 0 0 dq ?_;refine aP (k:=0) 1 0 dq ?_;refine cJ tab dq uK [2,3] uK rfl ?_;refine aP (k:=0) 4 1 dq ?_;refine cJ tab dq uK [5] uK rfl ?_;refine ae 6 ?_;exact zz.h)) : p:=e ⟨h⟩
theorem iV {p q : Prop} (h : q) (e : Wz q→p:=by (intro zz;refine uA ?_;refine uT ?_;exact zz.h)) : p:=e ⟨h⟩
theorem iW {p q : Prop} (h : q) (e : Wz q→p:=by (intro zz;refine uM ?_;refine uA ?_;exact zz.h)) : p:=e ⟨h⟩
theorem iX {p q : Prop} (h : q) (e : Wz q→p:=by (intro zz;refine TO.nil ?_;refine cq ?_;refine TC.seq ?_;exact zz.h)) : p:=e ⟨h⟩
theorem iY {p q : Prop} (h : q) (e : Wz q→p:=by (intro zz;refine qs rfl (OT.sidx tab 0 rfl rfl rfl rfl rfl rfl rfl hx ?_);exact zz.h)) : p:=e ⟨h⟩
theorem iZ {p q : Prop} (h : q) (e : Wz q→p:=by (intro zz;refine ⟨hm10,_,aW _, ?_⟩;refine cJ tab dq uK [8,9] uK rfl ?_;refine cM ?_;refine aw 10 ?_;refine ak (k:=0) 1 ?_;refine aC ?_;refine forgetQ_n ?_;refine cq ?_;refine TC.perm bhL ?_;refine TC.drop (List.sublist_cons_self _ _) ?_;exact zz.h)) : p:=e ⟨h⟩
theorem i9 {p q : Prop} (h : q) (e : Wz q→p:=by (intro zz;refine cJ tab uC uK [4,5] uK rfl ?_;exact zz.h)) : p:=e ⟨h⟩
theorem ja {p q : Prop} (h : q) (e : Wz q→p:=by (intro zz;refine aa (r':=((j + 1 : Nat) : Int)) uH (by omega) ?_;exact zz.h)) : p:=e ⟨h⟩
theorem jb {p q : Prop} (h : q) (e : Wz q→p:=by (intro zz;refine uA ?_;refine qs rfl (cE tab 4 rfl rfl rfl rfl rfl rfl rfl rfl ?_);refine qs rfl (cE tab 3 rfl rfl rfl rfl rfl rfl rfl rfl ?_);refine qs rfl (cE tab 2 rfl rfl rfl rfl rfl rfl rfl rfl ?_);refine TO.nil ?_;refine cq ?_;refine TC.ret ?_;exact zz.h)) : p:=e ⟨h⟩
theorem jc {p q : Prop} (h : q) (e : Wz q→p:=by (intro zz;refine qs rfl (OT.arithK rfl rfl rfl rfl rfl rfl (r':=63) rfl ?_);refine qs rfl (OT.conv tab rfl rfl rfl rfl rfl rfl (r:=63) rfl ?_);refine qs rfl (OT.shK rfl (.inl rfl) rfl rfl rfl rfl (by decide) (r:=9223372036854775808) (by rfl) ?_);refine uA ?_;exact zz.h)) : p:=e ⟨h⟩
theorem jd {p q : Prop} (h : q) (e : Wz q→p:=by (intro zz;refine uA ?_;refine aa (r':=((i + 1 : Nat) : Int)) uH (by omega) ?_;exact zz.h)) : p:=e ⟨h⟩
theorem je {p q : Prop} (h : q) (e : Wz q→p:=by (intro zz;refine cJ tab uC uK [15,16] uK rfl ?_;refine cM ?_;refine aw 17 ?_;refine ak (k:=2) 0 ?_;refine aw 18 ?_;refine OT.pureC tab rfl rfl rfl rfl ?_;refine aC ?_;refine blockQ_n ?_;refine cq ?_;refine aD bqG ?_;exact zz.h)) : p:=e ⟨h⟩
theorem jf {p q : Prop} (h : q) (e : Wz q→p:=by (intro zz;refine qs rfl (OT.sub tab 0 (spanOf lod (c :: r)) rfl rfl rfl rfl rfl rfl rfl (.inl ⟨rfl,rfl⟩) (.inr rfl) (bU _) hsl ?_);exact zz.h)) : p:=e ⟨h⟩
theorem jg {p q : Prop} (h : q) (e : Wz q→p:=by (intro zz;refine qs rfl (OT.cap (s:=⟨none,0,0⟩) tab rfl rfl rfl rfl rfl ?_);refine uA ?_;refine qs rfl (OT.cutS tab 0 0 (s:=⟨none,0,0⟩) rfl rfl rfl rfl rfl rfl rfl (.inl ⟨rfl,rfl⟩) (.inr rfl) (bm _) (bm _) ?_);refine uA ?_;exact zz.h)) : p:=e ⟨h⟩
theorem jh {p q : Prop} (h : q) (e : Wz q→p:=by (intro zz;refine cJ tab dq uK [6,7] uK rfl ?_;refine cM ?_;refine aw 8 ?_;refine ak (k:=0) 2 ?_;refine aC ?_;refine forgetQ_n ?_;refine aM ?_;refine ai (k:=0) 0 ?_;refine aG (k:=0) 2 ?_;refine aN (e:=114) ?_;exact zz.h)) : p:=e ⟨h⟩
theorem ji {p q : Prop} (h : q) (e : Wz q→p:=by (intro zz;refine cu (ι:=Nat) [0,9,10] rfl (fun k=>[(11, .int .i64 (k : Int)),(3, .int .i64 ((((ls.take k).map List.length).sum : Nat) : Int))]) (fun _=>m) (fun _=>L) (fun k=>k ≤ ls.length) (fun k=>ls.length - k) 0 uH rfl uS (bU _) ?_;exact zz.h)) : p:=e ⟨h⟩
theorem jk {p q : Prop} (h : q) (e : Wz q→p:=by (intro zz;refine cu (ι:=Nat) [0,29,30] rfl (fun k=>[(31, .int .i64 (k : Int))]) (fun _=>m) (fun _=>L) (fun k=>k ≤ a.kids.length∧(a.kids.take k).all (tknown (mhas es))=true) (fun k=>a.kids.length - k) 0 uH rfl uS ⟨bU _,rfl⟩ ?_;exact zz.h)) : p:=e ⟨h⟩
theorem jl {p q : Prop} (h : q) (e : Wz q→p:=by (intro zz;refine uA ?_;refine qs rfl (OT.ptrNil (e:=118) tab rfl rfl rfl rfl rfl rfl ?_);exact zz.h)) : p:=e ⟨h⟩
theorem jm {p q : Prop} (h : q) (e : Wz q→p:=by (intro zz;refine cJ tab uC uK [7,8,9] uK rfl ?_;exact zz.h)) : p:=e ⟨h⟩
theorem jn {p q : Prop} (h : q) (e : Wz q→p:=by (intro zz;refine cJ tab uC uK [4,5,6] uK rfl ?_;exact zz.h)) : p:=e ⟨h⟩
theorem jo {p q : Prop} (h : q) (e : Wz q→p:=by (intro zz;refine ⟨cn _,_,cS, ?_⟩;refine cJ tab dq uK [9] uK rfl ?_;refine DO.nil uK ?_;refine forgetQ_n ?_;refine cq ?_;refine aD bhF ?_;refine ai (k:=3) 1 ?_;refine ai (k:=3) 1 ?_;exact zz.h)) : p:=e ⟨h⟩
theorem jp {p q : Prop} (h : q) (e : Wz q→p:=by (intro zz;refine cJ tab uC uK [5] uK rfl ?_;exact zz.h)) : p:=e ⟨h⟩
theorem jq {p q : Prop} (h : q) (e : Wz q→p:=by (intro zz;refine qs rfl (OT.cap (s:=⟨none,0,0⟩) tab rfl rfl rfl rfl rfl ?_);refine uA ?_;refine aa (r':=((0 : Nat) : Int)) uH (by omega) ?_;refine aK (r':=(n : Int)) uH (by simp) (by omega) ?_;exact zz.h)) : p:=e ⟨h⟩
theorem jr {p q : Prop} (h : q) (e : Wz q→p:=by (intro zz;refine uA ?_;refine qs rfl (OT.loadL0 tab (i + 1) rfl rfl rfl rfl hi rfl ?_);refine aa (r':=z - 1) uH (by omega) ?_;refine qs rfl (cE tab (i + 1) rfl rfl rfl rfl rfl rfl hi rfl ?_);exact zz.h)) : p:=e ⟨h⟩
theorem js {p q : Prop} (h : q) (e : Wz q→p:=by (intro zz;refine qs rfl (OT.arithK rfl rfl rfl rfl rfl rfl (r':=9223372036854775807) rfl ?_);refine qs rfl (OT.conv tab rfl rfl rfl rfl rfl rfl (r:=9223372036854775807) rfl ?_);refine ar ?_;refine af ⟨hm1,rfl, ?_⟩;exact zz.h)) : p:=e ⟨h⟩
theorem jt {p q : Prop} (h : q) (e : Wz q→p:=by (intro zz;refine aH [7] cV 8 [.cells b3 0 [.int .i64 25,strV [], .int .i64 0,s3.v]] (E.I (k3+1) 0 :: tok s3 4 :: .cells b2 0 [.int .i64 0,strV [], .int .i64 0, .slice none 0 0] :: L) (aX _ _ _) ?_;exact zz.h)) : p:=e ⟨h⟩
theorem ju {p q : Prop} (h : q) (e : Wz q→p:=by (intro zz;refine uA ?_;refine am tab rTree k hs uH (by first | rfl | omega | (simp only;omega)) rfl hx ?_;exact zz.h)) : p:=e ⟨h⟩
theorem jv {p q : Prop} (h : q) (e : Wz q→p:=by (intro zz;refine uA ?_;refine uM ?_;exact zz.h)) : p:=e ⟨h⟩
theorem jw {p q : Prop} (h : q) (e : Wz q→p:=by (intro zz;rintro _ _ _ ⟨rfl,rfl,rfl⟩;refine uA ?_;refine af ⟨rfl,rfl, ?_⟩;exact zz.h)) : p:=e ⟨h⟩
theorem jx {p q : Prop} (h : q) (e : Wz q→p:=by (intro zz;refine cJ tab uC uK [0,1,2,3] uK rfl ?_;exact zz.h)) : p:=e ⟨h⟩
theorem jy {p q : Prop} (h : q) (e : Wz q→p:=by (intro zz;refine aH [7] cV 8 [.cells b3 0 [.int .i64 26,strV [], .int .i64 0,s.v]] (E.I (k+1) 0 :: tok s 4 :: .cells b2 0 [.int .i64 0,strV [], .int .i64 0,s.v] :: L) (aX _ _ _) ?_;exact zz.h)) : p:=e ⟨h⟩
theorem jz {p q : Prop} (h : q) (e : Wz q→p:=by (intro zz;refine ai (k:=1) 2 ?_;refine aa (r':=((w + 1 : Nat) : Int)) uH (by omega) ?_;refine qs rfl (cD (k:=1) tab 2 rfl rfl rfl rfl rfl rfl rfl rfl ?_);refine uL ?_;exact zz.h)) : p:=e ⟨h⟩
theorem jA {p q : Prop} (h : q) (e : Wz q→p:=by (intro zz;refine am tab rTree 0 h4 uH (by first | rfl | omega | (simp only;omega)) rfl (hx0 e5) ?_;exact zz.h)) : p:=e ⟨h⟩
theorem jB {p q : Prop} (h : q) (e : Wz q→p:=by (intro zz;refine uA ?_;refine af ⟨cn _,rfl, ?_⟩;exact zz.h)) : p:=e ⟨h⟩
theorem jC {p q : Prop} (h : q) (e : Wz q→p:=by (intro zz;refine cJ tab uC uK [11,12] uK rfl ?_;exact zz.h)) : p:=e ⟨h⟩
theorem jD {p q : Prop} (h : q) (e : Wz q→p:=by (intro zz;refine uA ?_;refine cv rfl (L':=L) (List.sublist_append_right _ _) ⟨hmm,rfl, ?_⟩;exact zz.h)) : p:=e ⟨h⟩
theorem jE {p q : Prop} (h : q) (e : Wz q→p:=by (intro zz;refine blockQ_n ?_;refine cq ?_;exact zz.h)) : p:=e ⟨h⟩
theorem jF {p q : Prop} (h : q) (e : Wz q→p:=by (intro zz;refine ae 11 (cG rfl rfl rfl rfl rfl rfl goes209 ((tfields_law k.type (fun e=>tg_one hg2 (.inl e)) E.bt E.cc E.es E.tbl _ _ g2 hr5 hC.tbl.tb hC.tbl.tr).x ?_));exact zz.h)) : p:=e ⟨h⟩
theorem jG {p q : Prop} (h : q) (e : Wz q→p:=by (intro zz;refine uA ?_;refine uT ?_;refine uL ?_;refine uT ?_;refine uL ?_;refine cP (size:=4) ?_;exact zz.h)) : p:=e ⟨h⟩
theorem jH {p q : Prop} (h : q) (e : Wz q→p:=by (intro zz;refine am tab rTree 0 hr6 uH (by first | rfl | omega | (simp only;omega)) rfl hx0 ?_;exact zz.h)) : p:=e ⟨h⟩
theorem jI {p q : Prop} (h : q) (e : Wz q→p:=by (intro zz;refine am tab rTree 0 h4 uH (by first | rfl | omega | (simp only;omega)) rfl hx ?_;exact zz.h)) : p:=e ⟨h⟩
theorem jJ {p q : Prop} (h : q) (e : Wz q→p:=by (intro zz;refine qs rfl (OT.sub tab n s.length rfl rfl rfl rfl rfl rfl rfl (.inr rfl) (.inl ⟨rfl,rfl⟩) (by omega) (by omega) ?_);rw [List.take_length];exact zz.h)) : p:=e ⟨h⟩
theorem jK {p q : Prop} (h : q) (e : Wz q→p:=by (intro zz;refine av tab rPtr 0 hsA uH (by first | rfl | omega | (simp only;omega)) uH ?_;exact zz.h)) : p:=e ⟨h⟩
theorem jL {p q : Prop} (h : q) (e : Wz q→p:=by (intro zz;refine ag (k:=2) 0 ?_;refine TC.draw [13] cV 14 rfl [E.I (k + 1) h, .cells b2 0 [.int .i64 0,strV [], .int .i64 0, .slice none 0 0]] L uP ?_;exact zz.h)) : p:=e ⟨h⟩
theorem jM {p q : Prop} (h : q) (e : Wz q→p:=by (intro zz;refine ae 15 (cG rfl rfl rfl rfl rfl rfl goes211 ((tcomp_law k.type k2.type E.bt E.cc E.es E.tbl _ _ g5 g6 hr5 hr6 hC.tbl.tb hC.tbl.tr).x ?_));exact zz.h)) : p:=e ⟨h⟩
theorem jN {p q : Prop} (h : q) (e : Wz q→p:=by (intro zz;refine uA ?_;refine qs rfl (OT.cutP tab 0 0 rfl rfl rfl rfl rfl rfl rfl (.inl ⟨rfl,rfl⟩) (.inr rfl) (bm _) (bU _) ?_);refine uA ?_;exact zz.h)) : p:=e ⟨h⟩
theorem jO {p q : Prop} (h : q) (e : Wz q→p:=by (intro zz;refine qs rfl (cG (all:=[treeV hd]) rfl rfl rfl rfl rfl (by rw [fl_eq];rfl) hpp.1 ((hpp.2 _ _ hd a.kids[k] (bz hlt) (rTree_iff.1 hrd)).x ?_));exact zz.h)) : p:=e ⟨h⟩
theorem jP {p q : Prop} (h : q) (e : Wz q→p:=by (intro zz;refine uA ?_;refine aa (r':=(((i + 1) + 1 : Nat) : Int)) uH (by omega) ?_;exact zz.h)) : p:=e ⟨h⟩
theorem jQ {p q : Prop} (h : q) (e : Wz q→p:=by (intro zz;refine uA ?_;refine oC goes101 ((span_law m1 _ (c :: r) (by omega) lod 140 _ ⟨goes140,fun b=>either_cl m1 _ b e1 e2 hA1 hA2⟩).x ?_);exact zz.h)) : p:=e ⟨h⟩
theorem jR {p q : Prop} (h : q) (e : Wz q→p:=by (intro zz;refine aF (.inr ⟨_,_,rfl⟩) ?_;exact zz.h)) : p:=e ⟨h⟩
theorem jS {p q : Prop} (h : q) (e : Wz q→p:=by (intro zz;refine cJ tab uC uK [10,11] uK rfl ?_;exact zz.h)) : p:=e ⟨h⟩
theorem jT {p q : Prop} (h : q) (e : Wz q→p:=by (intro zz;refine oC goes66 ((containsFunc_node _ _ h.kids a.kids (breaksD f) 53 [] goes53 h4 (fun x k hk hx=>ih k hk _ _ x (rTree_iff.1 hx))).x ?_);exact zz.h)) : p:=e ⟨h⟩
theorem jU {p q : Prop} (h : q) (e : Wz q→p:=by (intro zz;refine TO.tokFo hc ho 4 ?_;refine aE (aX _ _ _) ?_;exact zz.h)) : p:=e ⟨h⟩
theorem jV {p q : Prop} (h : q) (e : Wz q→p:=by (intro zz;refine uL ?_;refine qs rfl (OT.half (r:=a.num / 2) rfl rfl rfl rfl rfl (by decide) (Int.fdiv_eq_ediv_of_nonneg _ (by decide)) ?_);exact zz.h)) : p:=e ⟨h⟩
theorem jW {p q : Prop} (h : q) (e : Wz q→p:=by (intro zz;refine congrArg Value.bool ?_;exact zz.h)) : p:=e ⟨h⟩
theorem jX {p q : Prop} (h : q) (e : Wz q→p:=by (intro zz;refine TC.draw [10] cV 11 rfl [.cells bx 0 (exC 44 zH hn hu nilS 0 none none), .cells b3 0 (treeC ⟨44,hn,hu,hks⟩)] T1 uP ?_;exact zz.h)) : p:=e ⟨h⟩
theorem jY {p q : Prop} (h : q) (e : Wz q→p:=by (intro zz;refine ag (k:=3) 1 ?_;refine uM ?_;refine uA ?_;refine an 3 ?_;exact zz.h)) : p:=e ⟨h⟩
theorem jZ {p q : Prop} (h : q) (e : Wz q→p:=by (intro zz;refine uB ?_;refine cr ?_;refine cP (size:=1) ?_;exact zz.h)) : p:=e ⟨h⟩
theorem j0 {p q : Prop} (h : q) (e : Wz q→p:=by (intro zz;simp only [Option.bind_some];exact zz.h)) : p:=e ⟨h⟩
theorem j3 {p q : Prop} (h : q) (e : Wz q→p:=by (intro zz;refine ⟨cn _,_,cS, ?_⟩;exact zz.h)) : p:=e ⟨h⟩
theorem j4 {p q : Prop} (h : q) (e : Wz q→p:=by (intro zz;refine TCall.forget ?_;exact zz.h)) : p:=e ⟨h⟩
theorem j5 {p q : Prop} (h : q) (e : Wz q→p:=by (intro zz;refine ⟨cn _,E.I (k + 1 + 1) h :: .cells b2 0 [.int .i64 0,strV [], .int .i64 0, .slice none 0 0] :: L,aX _ _ _, ?_⟩;exact zz.h)) : p:=e ⟨h⟩
theorem j6 {p q : Prop} (h : q) (e : Wz q→p:=by (intro zz;refine ⟨hle1,_,aW _, ?_⟩;refine cJ tab uC uK [4] uK rfl ?_;exact zz.h)) : p:=e ⟨h⟩
theorem j7 {p q : Prop} (h : q) (e : Wz q→p:=by (intro zz;refine oC goes34 ((pall_law _ _ s a.kids h4 161 g.expr hE).x ?_);exact zz.h)) : p:=e ⟨h⟩
theorem j8 {p q : Prop} (h : q) (e : Wz q→p:=by (intro zz;rw [hA2];refine leaves_cons (by simp) (invoke_goes goes29) ?_;exact zz.h)) : p:=e ⟨h⟩
theorem j9 {p q : Prop} (h : q) (e : Wz q→p:=by (intro zz;refine uL ?_;refine oC goes88 ((tknown_law bt cc es hT.ok a _ _ h hr ho).x ?_);rintro _ _ _ ⟨rfl,rfl,rfl⟩;rw [hT.hasF];refine uA ?_;exact zz.h)) : p:=e ⟨h⟩
theorem ka {p q : Prop} (h : q) (e : Wz q→p:=by (intro zz;refine az (L':=L) 0 ⟨hm1,rfl, ?_⟩;exact zz.h)) : p:=e ⟨h⟩
theorem kb {p q : Prop} (h : q) (e : Wz q→p:=by (intro zz;refine uA ?_;refine uT ?_;refine uA ?_;refine az (L':=L) 0 ⟨hm12,rfl, ?_⟩;exact zz.h)) : p:=e ⟨h⟩
theorem kc {p q : Prop} (h : q) (e : Wz q→p:=by (intro zz;refine af ⟨hm,rfl, ?_⟩;exact zz.h)) : p:=e ⟨h⟩
theorem kg {p q : Prop} (h : q) (e : Wz q→p:=by (intro zz;refine uA ?_;refine ai (k:=3) 2 ?_;exact zz.h)) : p:=e ⟨h⟩
theorem kh {p q : Prop} (h : q) (e : Wz q→p:=by (intro zz;refine uA ?_;refine aL [] cV 17 ?_;refine cJ tab uC uK [0,1,2] uK rfl ?_;exact zz.h)) : p:=e ⟨h⟩
theorem kj {p q : Prop} (h : q) (e : Wz q→p:=by (intro zz;refine uA ?_;refine aa (r':=((k + 1 : Nat) : Int)) uH (by omega) ?_;exact zz.h)) : p:=e ⟨h⟩
theorem km {p q : Prop} (h : q) (e : Wz q→p:=by (intro zz;refine uA ?_;refine uM ?_;refine uA ?_;refine an 3 ?_;exact zz.h)) : p:=e ⟨h⟩
theorem ko {p q : Prop} (h : q) (e : Wz q→p:=by (intro zz;refine DO.index tab rTok 8 k hE.rep uC uK uK rfl rfl rfl rfl rfl rfl rfl (by first | rfl | omega) rfl hx ?_;exact zz.h)) : p:=e ⟨h⟩
theorem kq {p q : Prop} (h : q) (e : Wz q→p:=by (intro zz;refine cJ tab uC uK [12] uK rfl ?_;refine cM ?_;refine aw 13 ?_;refine ax 1 ?_;refine aC ?_;exact zz.h)) : p:=e ⟨h⟩
theorem kr {p q : Prop} (h : q) (e : Wz q→p:=by (intro zz;rw [hspec];refine uL ?_;exact zz.h)) : p:=e ⟨h⟩
theorem ku {p q : Prop} (h : q) (e : Wz q→p:=by (intro zz;refine uA ?_;refine qs rfl (OT.sidx tab (i + 1) rfl rfl rfl rfl rfl rfl rfl hx2 ?_);refine uA ?_;exact zz.h)) : p:=e ⟨h⟩
theorem kw {p q : Prop} (h : q) (e : Wz q→p:=by (intro zz;refine uB ?_;refine cr ?_;refine uB ?_;refine am tab rByte k hsb uH (by first | rfl | omega | (simp only;omega)) rfl hx ?_;exact zz.h)) : p:=e ⟨h⟩
theorem kx {p q : Prop} (h : q) (e : Wz q→p:=by (intro zz;refine wpS_rec (d0:=5) (d1:=2) rfl rfl rfl rfl rfl rfl (bQ (by decide : 5 < 16) h0.size) ?_;rw [hrp];exact zz.h)) : p:=e ⟨h⟩
theorem kA {p q : Prop} (h : q) (e : Wz q→p:=by (intro zz;refine wpS_rec (d0:=6) (d1:=3) rfl rfl rfl rfl rfl rfl (bQ (by decide : 6 < 20) h0.size) ?_;rw [hrp];exact zz.h)) : p:=e ⟨h⟩
theorem kB {p q : Prop} (h : q) (e : Wz q→p:=by (intro zz;refine uA ?_;refine am tab rField i hsf uH (by first | rfl | omega | (simp only;omega)) rfl hx ?_;exact zz.h)) : p:=e ⟨h⟩
theorem kC {p q : Prop} (h : q) (e : Wz q→p:=by (intro zz;refine uA ?_;refine am tab rTree i hsn2 uH (by first | rfl | omega | (simp only;omega)) rfl hx ?_;exact zz.h)) : p:=e ⟨h⟩
theorem kD {p q : Prop} (h : q) (e : Wz q→p:=by (intro zz;refine uA ?_;refine am tab rField j hu uH (by first | rfl | omega | (simp only;omega)) rfl hxj ?_;exact zz.h)) : p:=e ⟨h⟩
theorem kE {p q : Prop} (h : q) (e : Wz q→p:=by (intro zz;refine cJ tab uC uK [10] uK rfl ?_;exact zz.h)) : p:=e ⟨h⟩
theorem kF {p q : Prop} (h : q) (e : Wz q→p:=by (intro zz;refine uA ?_;refine am tab rTree i hS1 uH (by first | rfl | omega | (simp only;omega)) rfl hx ?_;exact zz.h)) : p:=e ⟨h⟩
theorem kG {p q : Prop} (h : q) (e : Wz q→p:=by (intro zz;refine cJ tab uC uK [11] uK rfl ?_;exact zz.h)) : p:=e ⟨h⟩
theorem kH {p q : Prop} (h : q) (e : Wz q→p:=by (intro zz;refine qs rfl (OT.conv tab rfl rfl rfl rfl rfl rfl (r:=(d : Int)) (u64_in (by omega) (by omega)) ?_);exact zz.h)) : p:=e ⟨h⟩
theorem kI {p q : Prop} (h : q) (e : Wz q→p:=by (intro zz;refine uA ?_;refine am tab rDecl k hs uH (by first | rfl | omega | (simp only;omega)) rfl hx ?_;exact zz.h)) : p:=e ⟨h⟩
theorem kJ {p q : Prop} (h : q) (e : Wz q→p:=by (intro zz;refine uA ?_;refine aH [] cV 11 [] _ (aW _) ?_;refine cJ tab uC uK [0,1,2,3,5,6] uK rfl ?_;exact zz.h)) : p:=e ⟨h⟩
theorem kK {p q : Prop} (h : q) (e : Wz q→p:=by (intro zz;refine uA ?_;refine am tab rFn k hf uH (by first | rfl | omega | (simp only;omega)) rfl hx2 ?_;exact zz.h)) : p:=e ⟨h⟩
theorem kL {p q : Prop} (h : q) (e : Wz q→p:=by (intro zz;refine oC goes88 ((tknown_law bt cc es hT.ok c _ _ g gr ho).x ?_);rintro _ _ _ ⟨rfl,rfl,rfl⟩;rw [hT.hasF];refine uA ?_;exact zz.h)) : p:=e ⟨h⟩
theorem kM {p q : Prop} (h : q) (e : Wz q→p:=by (intro zz;refine ae 18 ?_;refine ax 2 ?_;refine ⟨cn _,_,aW _, ?_⟩;refine cJ tab uC uK [19] uK rfl ?_;refine DO.nil uK ?_;exact zz.h)) : p:=e ⟨h⟩
theorem kN {p q : Prop} (h : q) (e : Wz q→p:=by (intro zz;refine cJ tab uC uK [9] uK rfl ?_;exact zz.h)) : p:=e ⟨h⟩
theorem kO {p q : Prop} (h : q) (e : Wz q→p:=by (intro zz;refine uL ?_;refine qs rfl (OT.lookupOkP tab kStr h.name rfl rfl rfl rfl rfl rfl rfl ho ?_);exact zz.h)) : p:=e ⟨h⟩
theorem kP {p q : Prop} (h : q) (e : Wz q→p:=by (intro zz;refine aL [] cV 16 ?_;refine cJ tab uC uK [0,1,2,3,4,5,6,7,8,9,10,11,12,13,14,15] uK rfl ?_;exact zz.h)) : p:=e ⟨h⟩
theorem kQ {p q : Prop} (h : q) (e : Wz q→p:=by (intro zz;refine uL ?_;refine av tab rTree 0 h4 uH (by first | rfl | omega | (simp only;omega)) uH ?_;exact zz.h)) : p:=e ⟨h⟩
theorem kR {p q : Prop} (h : q) (e : Wz q→p:=by (intro zz;refine ag (k:=3) 0 ?_;exact zz.h)) : p:=e ⟨h⟩
theorem kS {p q : Prop} (h : q) (e : Wz q→p:=by (intro zz;refine uL ?_;refine qs rfl (OT.lookupP tab kStr x.name rfl rfl rfl rfl rfl rfl rfl ho ?_);exact zz.h)) : p:=e ⟨h⟩
theorem dr {p : Prop} (h : p:=by
 have h0 : ¬ (48 ≤ s[k].toNat∧s[k].toNat ≤ 57):=kT
 refine uA ?_
 refine oC goes195 ((cW _ _ s[k]).x ?_);
 refine ic ?_
 (refine cy rfl rfl (fun h5 => ?_) (fun h5 => ?_))
 ·refine uA ?_
  refine oC goes195 ((cW _ _ s[k]).x ?_);
  refine ic ?_
  refine aj (fun h6 => ?_) (fun h6 => ?_)
  ·refine uA ?_
   refine oC goes195 ((cW _ _ s[k]).x ?_);
   refine ic ?_
   refine qs rfl (OT.arithK rfl rfl rfl rfl rfl rfl (u8_in kT kT) ?_)
   refine aA (r':=((lowerN s[k] - 97 + 10 : Nat) : Int)) uH (by rw [u8_in kT kT];omega) ?_
   exact ⟨lowerN s[k] - 97 + 10,uH,uH,rfl,rfl,uS,dv_low h0 kT kT⟩
  ·skip
   refine uA ?_
   refine ar ?_
   refine iS ?_
   exact .inr ⟨hI.trans (pU_none hlt (dv_none h0 kT)),_,2, .inr rfl,rfl⟩
 ·skip
  refine uA ?_
  refine ar ?_
  refine iS ?_
  exact .inr ⟨hI.trans (pU_none hlt (dv_none h0 kT)),_,2, .inr rfl,rfl⟩) : p:=h
theorem dt {p : Prop} (h : p:=by
 simp only [ci] at hT
 refine uA ?_
 refine oC goes144 ((peek_law [59] hE hk).x ?_);
 refine ic ?_
 cases hb3 : Ps.isM [59] E.f k1 with
 | false =>
  refine uA ?_
  have hT : T = .bad k1:=by
   rw [hT]
   cases Ps.isC1 l
   ·rfl
   ·exact Ps.peek_f' hb3
  refine qs rfl (OT.stopP (L0:=L) hT hE hk lb hm uS rfl rfl rfl rfl rfl rfl)
 | true =>
  refine uA ?_
  (refine oL tab hA ?_)
  refine uA ?_
  refine ay (b:=decide (((s.len : Nat) : Int)=1)) (fun h1 => ?_) (fun h1 => ?_)
  ·have h1' : l.length=1:=by have:=of_decide_eq_true h1;omega
   obtain ⟨t0,rfl⟩:=List.length_eq_one_iff.1 h1'
   refine uA ?_
   (refine oL tab hA ?_)
   refine uA ?_
   refine am tab rTree 0 hs uH la rfl (by rfl) ?_
   rintro bx ix hx' hrx hAx
   have hrx':=rTree_iff.1 hrx
   refine uA ?_
   (refine qs rfl (cC tab hAx rfl rfl rfl rfl rfl ?_))
   refine uA ?_
   rw [hrx'.kind]
   refine aj (fun h2 => ?_) (fun h2 => ?_)
   ·have hT : T = .ok (Tree.mk 24 [] 0 [t0]) k1:=by
     rw [hT,show Ps.isC1 [t0]=true from bH h2]
     exact Ps.peek_t' hb3
    refine uA ?_
    (refine oL tab hA ?_)
    refine uA ?_
    refine jY ?_
    refine aq (L':=E.I k1 0 :: L) 3 ⟨_,k1,[],hT,hm,hk,⟨⟨24,[],0,s⟩,rfl,rfl,⟨rfl,rfl,rfl,hs⟩⟩,rfl⟩
   ·have hT : T = .bad k1:=by
     rw [hT,show Ps.isC1 [t0]=false from bI h2]
     rfl
    refine uA ?_
    refine qs rfl (OT.stopP (L0:=L) hT hE hk lb hm uS rfl rfl rfl rfl rfl rfl)
  ·have hT : T = .bad k1:=by
    rw [hT]
    have h1' : ¬ l.length=1:=by have:=of_decide_eq_false h1;omega
    have : Ps.isC1 l=false:=by
     unfold Ps.isC1
     split
     ·exact absurd rfl h1'
     ·rfl
    rw [this]
    rfl
   refine uA ?_
   refine qs rfl (OT.stopP (L0:=L) hT hE hk lb hm uS rfl rfl rfl rfl rfl rfl)) : p:=h
theorem du {p : Prop} (h : p:=by
 rintro ⟨k,t,m1⟩ ⟨hk,ht,hown,hm1⟩
 simp only at hk ht hown hm1 ⊢
 have h41:=h4.mono hm1
 simp only at hl hsm
 refine uA ?_
 refine aj (fun hlt' => ?_) (fun hlt' => ?_)
 ·have hlt : k < a.kids.length:=kT
  have hx : a.kids[k]? = some a.kids[k]:=lc
  have hmem:=bz hlt
  refine uA ?_
  refine am tab rTree k h41 uH la rfl hx ?_
  rintro b' i' h' hrd hA
  (refine oL tab hA ?_)
  refine uA ?_
  refine oA tab (fun b5 => ?_)
  refine ie ?_
  generalize hcx : a.kids[k]=c at *
  refine TC.perm (aX _ _ _) ?_
  refine aH [7] cV 8 (_::_::_::_::L) [tok t 4] perm_last ?_
  refine iL ?_
  (refine cK tab 1 1 uC uK uK rfl rfl rfl rfl rfl rfl rfl rfl ?_)
  (refine cK (k:=0) tab 2 0 uC uK uK rfl rfl rfl rfl rfl rfl rfl rfl ?_)
  refine ae 3 (cG rfl rfl rfl rfl rfl rfl goes83 ((ih c hmem (hkn c hmem) _ _ h' (rTree_iff.1 hrd) (bo (Nat.le_of_lt (Pt.kid_size hmem)) hB)).x ?_))
  rintro _ m2 _ ⟨hm2,rfl,ht2,rfl,hrt⟩;refine ⟨hm2,_,aW _, ?_⟩
  refine ae 4 ?_
  refine OT.lit tab rfl rfl rfl rfl (fun bl => ?_);refine ⟨cn _,_,cS, ?_⟩
  refine ae 5 ?_
  refine cR List.perm_append_comm (OT.append1 tab rTree 0 (hd':=ht2) (a:=c.ofT) (ht.mono hm2) hown (rTree_iff.2 hrt) rfl rfl rfl rfl rfl rfl rfl (by simp only [rTree,mkR,bE,bK];omega) (fun t' m3 hm3 ht' hown' => ?_));refine ⟨hm3,_,perm_last, ?_⟩
  refine iJ ?_
  refine ak 1 ?_
  refine aC ?_
  rotate_left 1
  refine uA ?_
  refine cA perm_f4 ?_
  refine il ?_
  refine ⟨⟨k + 1,t',m3⟩,uH,uH,rfl,rfl,uS,⟨by simp only;omega, ?_,hown',co hm1 (co hm2 hm3)⟩,by simp only;omega⟩
  simp only
  rw [bX hlt,hcx,bZ]
  exact ht'
 ·refine uL ?_
  refine iP ?_
  refine aq 2 ⟨hm1,rfl,⟨_,[],u,t⟩,rfl,rfl,rfl,h3, ?_⟩
  rw [bS kT] at ht
  exact ht) : p:=h
theorem dw {p : Prop} (h : p:=by
 refine uA ?_
 (refine cy rfl rfl (fun es => ?_) (fun es => ?_))
 ·rw [bH es] at hZ
  refine uA ?_
  (refine qs rfl (cC tab hA5 rfl rfl rfl rfl rfl ?_))
  refine uA ?_
  (refine cy rfl rfl (fun e12 => ?_) (fun e12 => ?_))
  ·rw [bH e12] at hZ
   refine uA ?_
   refine qs rfl (di (b:=true) (L0:=L) li hm (db [_,_] hB.hs) (hZ.trans (mapB _ _)) rfl rfl rfl rfl rfl rfl (fun e hZ => ?_))
   refine uA ?_
   refine cw rfl (L' := .cells b 0 (exC 53 hB2 n.name n.num sA 0 none none) :: T2) uS ⟨_,_,T2,hZ,hm,dg (x:=⟨53,tk 2,false,0,false⟩) hrB (tg_leaf _ _ _ kT) ⟨fun e=>by omega,fun e=>by cases e⟩ kU kU kU kU kU kU (fun _ _=>rfl),rfl,hB⟩
  ·rw [bI e12] at hZ
   refine uA ?_
   (refine qs rfl (cC tab hA5 rfl rfl rfl rfl rfl ?_))
   refine uA ?_
   refine qs rfl (di (b:=(decide (g5.kind=3))) (L0:=L) li hm (db [_,_] hB.hs) (hZ.trans (mapB _ _)) rfl rfl rfl rfl rfl rfl (fun e hZ => ?_))
   refine uA ?_
   refine cw rfl (L' := .cells b 0 (exC 53 hB2 n.name n.num sA 0 none none) :: T2) uS ⟨_,_,T2,hZ,hm,dg (x:=⟨53,tk 2,false,0,false⟩) hrB (tg_leaf _ _ _ kT) ⟨fun e=>by omega,fun e=>by cases e⟩ kU kU kU kU kU kU (fun _ _=>rfl),rfl,hB⟩
 ·rw [bI es] at hZ
  refine uA ?_
  refine qs rfl (di (b:=false) (L0:=L) li hm (db [_,_] hB.hs) (hZ.trans (mapB _ _)) rfl rfl rfl rfl rfl rfl (fun e hZ => ?_))
  cases e) : p:=h
theorem dx {p : Prop} (h : p:=by
 obtain ⟨-,b,rfl,hX⟩:=hV
 obtain ⟨t3,k3,v3,f3,⟨⟨g3,num3,how3,hr3,hA3, -⟩,hg3⟩⟩:=hX.eb
 replace hs1:=hs1.mono hm2
 replace hs2:=hs2.mono hm2
 replace hS1:=hS1.mono hm2
 have hsm1:=hS1.small rfl
 refine uA ?_
 refine aH [] cV 13 [] _ (aW _) ?_
 refine cJ tab uC uK [0,1,4,5,6,7] uK rfl ?_
 refine aO (k:=1) 8 hA3 ?_
 refine DO.fork 2 [9] uK ⟨⟨_,rfl,rfl,rfl, ?_⟩,⟨_,rfl,rfl,rfl, ?_⟩,trivial⟩
 ·refine cU tab rPtr (hs:=[b]) (l:=[b]) ⟨rfl,trivial⟩ rfl rfl rfl rfl rfl kV (fun sA m3 h3 hsA _ _ => ?_);refine ⟨h3,_,aW _, ?_⟩
  refine DO.fork 3 [9] uK ⟨⟨_,rfl,rfl,rfl, ?_⟩,⟨_,rfl,rfl,rfl, ?_⟩,trivial⟩
  ·refine cI tab rPtr 2 (hs1.mono h3) ho1 hsA rfl rfl rfl rfl rfl rfl rfl lu (fun s1' m4 h4 hs1' ho1' => ?_);refine ⟨h4,_,aW _, ?_⟩
   refine ae 9 ?_
   refine cU tab rTree (hs:=[g3]) (l:=[x.type]) ⟨rTree_iff.2 (((hr3.mono h3).mono h4)),trivial⟩ rfl rfl rfl rfl rfl kV (fun sB m5 h5 hsB _ _ => ?_);refine ⟨h5,_,aW _, ?_⟩
   refine ae 10 ?_
   refine cI tab rTree 1 (((hs2.mono h3).mono h4).mono h5) ho2 hsB rfl rfl rfl rfl rfl rfl rfl lj (fun s2' m6 h6 hs2' ho2' => ?_);refine ⟨h6,_,aW _, ?_⟩
   refine jC ?_
   refine DO.nil uK ?_
   have hmm : m2 ≤ m6:=co (co h3 h4) (co h5 h6)
   refine jd ?_
   exact ⟨(i + 1,s1',s2',xs++[b],ts++[x.type],m6,T2),uH,uH,rfl,rfl,uS,⟨by omega,co hm' hmm,((hs1'.mono h5).mono h6),ho1',by simp only [aS,aU,aV];omega,hs2',ho2',by simp only [aS,aU,aV];omega,(fun t ht=>by
    rcases List.mem_append.1 ht with ht | ht
    ·exact htg t ht
    ·rw [List.mem_singleton.1 ht];exact hg3),hB.mono hmm (bm _),hZ⟩,by simp only;omega⟩
  ·refine cU tab rTree (hs:=[g3]) (l:=[x.type]) ⟨rTree_iff.2 ((hr3.mono h3)),trivial⟩ rfl rfl rfl rfl rfl kV (fun sB m4 h4 hsB _ _ => ?_);refine ⟨h4,_,aW _, ?_⟩
   refine ae 3 ?_
   refine cI tab rPtr 2 ((hs1.mono h3).mono h4) ho1 (hsA.mono h4) rfl rfl rfl rfl rfl rfl rfl lu (fun s1' m5 h5 hs1' ho1' => ?_);refine ⟨h5,_,aW _, ?_⟩
   refine ae 10 ?_
   refine cI tab rTree 1 (((hs2.mono h3).mono h4).mono h5) ho2 (hsB.mono h5) rfl rfl rfl rfl rfl rfl rfl lj (fun s2' m6 h6 hs2' ho2' => ?_);refine ⟨h6,_,aW _, ?_⟩
   refine jC ?_
   refine DO.nil uK ?_
   have hmm : m2 ≤ m6:=co (co h3 h4) (co h5 h6)
   refine jd ?_
   exact ⟨(i + 1,s1',s2',xs++[b],ts++[x.type],m6,T2),uH,uH,rfl,rfl,uS,⟨by omega,co hm' hmm,(hs1'.mono h6),ho1',by simp only [aS,aU,aV];omega,hs2',ho2',by simp only [aS,aU,aV];omega,(fun t ht=>by
    rcases List.mem_append.1 ht with ht | ht
    ·exact htg t ht
    ·rw [List.mem_singleton.1 ht];exact hg3),hB.mono hmm (bm _),hZ⟩,by simp only;omega⟩
 ·refine cU tab rTree (hs:=[g3]) (l:=[x.type]) ⟨rTree_iff.2 (hr3),trivial⟩ rfl rfl rfl rfl rfl kV (fun sB m3 h3 hsB _ _ => ?_);refine ⟨h3,_,aW _, ?_⟩
  refine ae 2 ?_
  refine cU tab rPtr (hs:=[b]) (l:=[b]) ⟨rfl,trivial⟩ rfl rfl rfl rfl rfl kV (fun sA m4 h4 hsA _ _ => ?_);refine ⟨h4,_,aW _, ?_⟩
  refine ae 3 ?_
  refine cI tab rPtr 2 ((hs1.mono h3).mono h4) ho1 hsA rfl rfl rfl rfl rfl rfl rfl lu (fun s1' m5 h5 hs1' ho1' => ?_);refine ⟨h5,_,aW _, ?_⟩
  refine ae 10 ?_
  refine cI tab rTree 1 (((hs2.mono h3).mono h4).mono h5) ho2 ((hsB.mono h4).mono h5) rfl rfl rfl rfl rfl rfl rfl lj (fun s2' m6 h6 hs2' ho2' => ?_);refine ⟨h6,_,aW _, ?_⟩
  refine jC ?_
  refine DO.nil uK ?_
  have hmm : m2 ≤ m6:=co (co h3 h4) (co h5 h6)
  refine jd ?_
  exact ⟨(i + 1,s1',s2',xs++[b],ts++[x.type],m6,T2),uH,uH,rfl,rfl,uS,⟨by omega,co hm' hmm,(hs1'.mono h6),ho1',by simp only [aS,aU,aV];omega,hs2',ho2',by simp only [aS,aU,aV];omega,(fun t ht=>by
   rcases List.mem_append.1 ht with ht | ht
   ·exact htg t ht
   ·rw [List.mem_singleton.1 ht];exact hg3),hB.mono hmm (bm _),hZ⟩,by simp only;omega⟩) : p:=h
theorem dy {p : Prop} (h : p:=by
 have hlt : k < a.kids.length:=kT
 have hx : a.kids[k]? = some a.kids[k]:=lc
 have hmem:=bz hlt
 have e1':=sizeL_next a.kids k hlt
 have e2':=deepL_next a.kids k hlt
 have e3':=sizeL_take a.kids (k + 1)
 have e4':=deepL_take a.kids (k + 1)
 have hnx:=formedL_next a.kids k hlt
 refine iO ?_
 rintro b' i' h' hrd hA
 have hk':=(rTree_iff.1 hrd).kind
 (refine oL tab hA ?_)
 refine uA ?_
 refine oA tab (fun b2 => ?_)
 refine ik ?_
 (refine cy rfl rfl (fun e8 => ?_) (fun e8 => ?_))
 ·refine uA ?_
  exact cv rfl uS (bad3 (formedL_false hmem (by rw [bH (show a.kids[k].kind=8 by omega)];rfl)))
 refine uL ?_
 refine aa (r':=d + 1) uH kT ?_
 refine oC goes134 ((ih _ hmem _ _ h' (rTree_iff.1 hrd) (bo (cX hmem) hB) (d + 1) y (i + 2) bl (hset y) kT kT).x ?_);
 rintro _ _ L3 ⟨rfl,rfl,y',hL,hy'⟩
 have hL2 : ∀ (x1 x2 : Item),(x1 :: x2 :: L.set i (cellI bl y)).set (i + 2) (cellI bl y')=x1 :: x2 :: L.set i (cellI bl y'):=fun x1 x2=>by simp [List.set_set]
 replace hL:=hL.trans (hL2 (.cells b2 0 (treeC h')) _)
 subst hL
 refine uA ?_
 refine aJ (t := !(fitsB a.kids[k] y (d + 1) && a.kids[k].formed)) (fun e9 => ?_) (fun e9 => ?_)
 ·rw [Bool.not_eq_true',Bool.and_eq_false_iff] at e9
  refine uA ?_
  rcases e9 with e9 | e9
  ·exact cv rfl uS (bad1 (fun hc=>(of_decide_eq_false e9) kT))
  ·exact cv rfl uS (bad3 (formedL_false hmem (by rw [e9];simp)))
 ·rw [Bool.not_eq_false'] at e9
  have hyy:=hy' e9
  rw [a6] at e9
  have hfit:=of_decide_eq_true e9.1
  refine kj ?_
  exact ⟨(k + 1,y'),uH,uH,rfl,rfl,uS,⟨by simp only;omega,by simp only;omega,by simp only;omega,by simp only;omega,by simp only;rw [hnx,hI,e9.2,bI (show ¬ a.kids[k].kind=8 by omega)];rfl⟩,by simp only;omega⟩) : p:=h
theorem dz {p : Prop} (h : p:=by
 refine uA ?_
 refine cw rfl (L' := .cells b 0 (exC 53 hB2 n.name n.num sA 0 none none) :: T2) uS ⟨_,_,T2,hZ,hm,dg (x:=⟨53,tk 2,false,0,false⟩) hrB (tg_leaf _ _ _ kT) ⟨fun e=>by omega,fun e=>by cases e⟩ kU kU kU kU kU kU (fun _ _=>rfl),rfl,hB⟩) : p:=h
theorem dA {p : Prop} (h : p:=by
 have hck:=fun e=>k.check P w e kt ki.u x h4 huk
 have hfk:=run_findKey (P:=P) k h4 huk x es
 have hzv:=T.run_zero w hz
 simp only [execOp,ho,ha.env.eval hm,ha.env.eval hk,Sem.run_bind,Instr.lookup,hu,Result.andThen_ok,run_getObj hobj rfl,mapO,Sem.run_pure,hck,hfk]
 by_cases hh : mhas es x=true
 ·have hg : ∃ v,mget es x=some v:=by
   have hx : ∃ e ∈ es,decide (e.1=x)=true:=by simpa [mhas,List.any_eq_true] using hh
   obtain ⟨e,he,hx⟩:=hx
   cases hf : es.find? (fun e=>decide (e.1=x)) with
   | none=>exact absurd hx (by simpa using List.find?_eq_none.1 hf e he)
   | some u=>exact ⟨u.2.1,by simp [mget,hf]⟩
  obtain ⟨v,hv⟩:=hg
  simp [hh,hv]
 ·have hf : mhas es x=false:=by simpa using hh
  have hv : mget es x=none:=by
   have : es.find? (fun e=>decide (e.1=x))=none:=List.find?_eq_none.2 fun e he hx=>by
    rw [mhas,List.any_eq_false] at hf
    exact hf e he hx
   simp [mget,this]
  simp [hf,hv,hzv]) : p:=h
theorem dB {p : Prop} (h : p:=by
 have hlfj : lf.length ≤ j∧lm.length ≤ j:=by
  rw [hlf,hlm]
  split <;> simp <;> omega
 have htk : (n.kids.take (j + 1)).map fldOf=(n.kids.take j).map fldOf++[fldOf f]:=by rw [bX hlj,bZ,hfe];rfl
 have hr5:=hr4.mono hm2
 refine uA ?_
 refine am tab rTree j hr5 uH la rfl hxj ?_
 rintro b' i' hf9 hrdf hAf
 have hrf:=rTree_iff.1 hrdf
 have hr6:=hrf.kids
 have hnf:=hrf.name
 rw [hfy] at hr6
 (refine oL tab hAf ?_)
 refine uA ?_
 refine oA tab (fun b9 => ?_)
 refine ik ?_
 refine av tab rTree 0 hr6 uH la uH ?_
 rintro b'' i'' hy9 hrdy hAy
 (refine oL tab hAy ?_)
 refine uA ?_
 have hyw:=cX (a:=f) (t:=y) (by rw [hfy];simp)
 refine oC goes38 ((of_own y _ _ hy9 (rTree_iff.1 hrdy) kT).x ?_);
 rintro _ m3 _ ⟨hm3,rfl,hx,rfl,hhx⟩
 have hfl : FldRep m3 ⟨hf9.name,hx⟩ (fldOf f):=⟨hnf,by
  have e : kid f 0=y:=by unfold kid;rw [hfy];rfl
  show TreeRep m3 hx (fldOf f).type
  rw [fldOf,fld_type,e]
  exact hhx⟩
 refine uA ?_
 refine oA tab (fun b10 => ?_)
 refine ie ?_
 refine ai (k:=1) 4 ?_
 refine aj (fun e3 => ?_) (fun e3 => ?_)
 ·have e3 : h9.kind=3:=e3
  refine uA ?_
  refine ai (k:=3) 4 ?_
  refine ai (k:=1) 1 ?_
  refine ai (k:=0) 0 ?_
  refine ap (hs:=[⟨hf9.name,hx⟩]) (l:=[fldOf f]) tab rField ⟨hfl,trivial⟩ uH kV (fun sA m4 hm4 hsA _ _ => ?_)
  refine qs rfl (cI tab rField 3 ((hsm.mono hm3).mono hm4) hom hsA rfl rfl rfl rfl rfl rfl rfl (by simp only [aS,aU,aV,rField];omega) (fun s' m5 hm5 hs' ho' => ?_))
  refine uA ?_
  refine ag (k:=3) 4 ?_
  refine ja ?_
  exact ⟨(j + 1,sf,s',lf,lm++[fldOf f],m5),uH,uH,rfl,rfl,uS,⟨by omega,co hm2 (co hm3 (co hm4 hm5)),hsf.mono (co hm3 (co hm4 hm5)),hof,hs',ho',by rw [hlf,if_pos kT,if_pos kT],by rw [hlm,if_pos kT,if_pos kT,htk]⟩,by simp only;omega⟩
 ·have e3 : ¬ h9.kind=3:=e3
  refine uA ?_
  refine ai (k:=2) 4 ?_
  refine ai (k:=1) 1 ?_
  refine ai (k:=0) 0 ?_
  refine ap (hs:=[⟨hf9.name,hx⟩]) (l:=[fldOf f]) tab rField ⟨hfl,trivial⟩ uH kV (fun sA m4 hm4 hsA _ _ => ?_)
  refine qs rfl (cI tab rField 2 ((hsf.mono hm3).mono hm4) hof hsA rfl rfl rfl rfl rfl rfl rfl (by simp only [aS,aU,aV,rField];omega) (fun s' m5 hm5 hs' ho' => ?_))
  refine uA ?_
  refine ag (k:=2) 4 ?_
  refine ja ?_
  exact ⟨(j + 1,s',sm,lf++[fldOf f],lm,m5),uH,uH,rfl,rfl,uS,⟨by omega,co hm2 (co hm3 (co hm4 hm5)),hs',ho',hsm.mono (co hm3 (co hm4 hm5)),hom,by rw [hlf,if_neg kT,if_neg kT,htk],by rw [hlm,if_neg kT,if_neg kT]⟩,by simp only;omega⟩) : p:=h
theorem dC {p : Prop} (h : p:=by
 rw [hmf] at hZ
 have hht' : TreeRep m2 ht f.type:=by rw [memT,hmf] at hht;exact hht
 have hft : tg f.type=true:=by
  have hmem : f ∈ methodsD E.tbl k.type:=List.mem_of_find?_eq_some hmf
  rw [methodsD_kind] at hmem
  split at hmem
  ·exact ((hC.tbl.good _).2 f hmem).1
  ·cases hmem
 replace hZ : Z=(Ck.want (!isStructD E.tbl k.type || k.place)).map fun _=>(k,some f.type):=hZ
 refine uA ?_
 refine aL [] cV 12 ?_
 refine iz ?_
 (refine cL tab 3 hme uC uK uK rfl rfl rfl rfl rfl rfl rfl ?_)
 refine i9 ?_
 (refine cL tab 6 hpr uC uK uK rfl rfl rfl rfl rfl rfl rfl ?_)
 refine jm ?_
 (refine cL tab 10 hA2 uC uK uK rfl rfl rfl rfl rfl rfl rfl ?_)
 refine ae 11 (cG rfl rfl rfl rfl rfl rfl goes89 ((tstruct_law k.type E.bt E.cc E.es E.tbl _ _ g2 hr5 hC.tbl.tb hC.tbl.tr).x ?_))
 rintro _ _ _ ⟨rfl,rfl,rfl⟩;refine ⟨cn _,_,aW _, ?_⟩
 (refine cN uK ?_)
 rotate_left 1
 refine uA ?_
 refine aJ (t:=isStructD E.tbl k.type) (fun e6 => ?_) (fun e6 => ?_)
 ·rw [e6] at hZ
  refine uA ?_
  refine oC goes158 ((cplace_law _ F.c _ _ bk k hX).x ?_);
  refine ic ?_
  refine qs rfl (di (b:=k.place) (L0:=L) ld hm (db [_,_,_] hB.hs) (hZ.trans (mapB _ _)) rfl rfl rfl rfl rfl rfl (fun e7 hZ => ?_))
  refine uA ?_
  refine qs rfl (OT.ck (L0:=L) [_,_,_] q (take_ck hX (.inl e7)) hB ld hm (da _) (g:=fun _=>Z) rfl (bm _) rfl rfl rfl rfl rfl rfl goes218 (fun v m3 _ T2 _ hm3 hm' hV hB => ?_))
  refine uL ?_
  refine iP ?_
  refine cretQ_ret_c3 tab 0 rfl rfl rfl rfl rfl rfl (L':=T2) uS ⟨(k,some f.type),hZ,hm',⟨bk,ht,(hX.mono hm3),rfl,(hht'.mono hm3),fun t e=>by injection e with e;rw [← e];exact hft⟩,hB⟩
 ·rw [e6] at hZ
  replace hZ : Z=some (k,some f.type):=hZ
  refine uL ?_
  refine iP ?_
  refine cretQ_ret_c3 tab 0 rfl rfl rfl rfl rfl rfl (L':=T1) uS ⟨(k,some f.type),hZ,hm,⟨bk,ht,hX,rfl,hht',fun t e=>by injection e with e;rw [← e];exact hft⟩,hB⟩) : p:=h
theorem dD {p : Prop} (h : p:=by
 have hlt' : i < fl.length:=kT
 have hx : fl[i]? = some fl[i]:=lg
 have htk : fl.take (i + 1)=fl.take i++[fl[i]]:=bX hlt'
 refine kB ?_
 rintro b' i' h9 hrd9 hA9
 (refine oL tab hA9 ?_)
 refine uA ?_
 refine oA tab (fun b9 => ?_)
 refine ik ?_
 have hnm : h9.name=fl[i].name:=hrd9.name
 refine aj (fun e9 => ?_) (fun e9 => ?_)
 ·have hF2 : Found m4 (fl.take (i + 1)) n.name (i : Int) h9.type:=by
   rw [htk];unfold Found;rw [lastF_snoc,if_pos lT]
   exact .inr ⟨_,rfl,by omega,by omega,hrd9.type⟩
  refine kJ ?_
  refine DO.fork 4 [7] uK ⟨⟨_,rfl,rfl,rfl, ?_⟩,⟨_,rfl,rfl,rfl, ?_⟩,trivial⟩
  ·refine OT.loadL (k:=1) tab 0 rfl rfl rfl rfl rfl rfl ?_
   refine ir ?_
   refine ae 7 ?_
   refine ak (k:=6) 1 ?_
   refine ir ?_
   refine iM ?_
   refine ae 10 ?_
   refine ak (k:=1) 1 ?_
   refine ir ?_
   refine aR ?_
   refine ij ?_
   exact ⟨(i + 1,(i : Int),h9.type),uH,uH,rfl,rfl,uS,⟨by omega,hF2⟩,by simp only;omega⟩
  ·refine ak (k:=6) 1 ?_
   refine ir ?_
   refine ae 4 ?_
   refine OT.loadL (k:=1) tab 0 rfl rfl rfl rfl rfl rfl ?_
   refine ir ?_
   refine iM ?_
   refine ae 10 ?_
   refine ak (k:=1) 1 ?_
   refine ir ?_
   refine aR ?_
   refine ij ?_
   exact ⟨(i + 1,(i : Int),h9.type),uH,uH,rfl,rfl,uS,⟨by omega,hF2⟩,by simp only;omega⟩
 ·refine uA ?_
  refine ij ?_
  exact ⟨(i + 1,nu,hty),uH,uH,rfl,rfl,uS,⟨by omega,by rw [htk];unfold Found;rw [lastF_snoc,if_neg lT];exact hF⟩,by simp only;omega⟩) : p:=h
theorem dE {p : Prop} (h : p:=by
 have hlt3 : ¬ (j : Int) < (h9.kids.len : Int):=hlt2
 have hje : j=n.kids.length:=kT
 subst hje
 rw [List.take_length] at hlf hlm
 have hdr : rDecl.rep m2 ⟨h9.name,decide (h9.kind=3),sf,sm⟩ (declOf n):=by
  unfold declOf
  by_cases e3 : n.kind=3
  ·rw [if_pos e3] at hlf hlm ⊢
   exact ⟨hn9,bH kT,hlf ▸ hsf,hlm ▸ hsm⟩
  ·rw [if_neg e3] at hlf hlm ⊢
   exact ⟨hn9,bI kT,hlf ▸ hsf,hlm ▸ hsm⟩
 refine uA ?_
 refine aG (k:=0) 2 ?_
 refine ap (hs:=[(⟨h9.name,decide (h9.kind=3),sf,sm⟩ : HDecl)]) (l:=[(⟨h9.name,decide (h9.kind=3),sf,sm⟩ : HDecl)]) tab rHD ⟨rfl,trivial⟩ uH kV (fun sA m4 hm4 hsA _ _ => ?_)
 refine cA bt2 ?_
 refine TO.drop (L':=bufI s (encs rHD hs) :: tok s 4 :: (toks (hs.map HDecl.methods) 5++(tok sm 5 :: .cells b1 0 (treeC h) :: L))) uS ?_
 refine qs rfl (OT.appendB tab rHD hso hsl hsc hsA rfl rfl rfl rfl rfl rfl (by simp only [aS,aU,aV,rHD];omega) (fun s' hs2 ha2 hl2 hc2 ho2 => ?_))
 obtain rfl:=all2_eq ha2
 refine cA (L':=bufI s' (encs rHD (hs++[(⟨h9.name,decide (h9.kind=3),sf,sm⟩ : HDecl)])) :: tok s' 4 :: (toks ((hs++[(⟨h9.name,decide (h9.kind=3),sf,sm⟩ : HDecl)]).map HDecl.methods) 5++(.cells b1 0 (treeC h) :: L))) (permEq (by rw [toks_snoc,bZ];rfl)) ?_
 refine jd ?_
 exact ⟨(i + 1,s',hs++[(⟨h9.name,decide (h9.kind=3),sf,sm⟩ : HDecl)],m4),uH,uH,rfl,rfl,uS,⟨by omega,co hm (co hm2 hm4),ho2,hl2,hc2,by rw [take_filter_yes hlt hdf,hne];exact (hall.mono fun _ _=>rDecl.mono (co hm2 hm4)).snoc (rDecl.mono hm4 hdr),fun x hx=>by
  rcases List.mem_append.1 hx with hx | hx
  ·exact hom0 x hx
  ·rw [List.mem_singleton.1 hx];exact hom,by simp only [aS,aU,aV];omega⟩,by simp only;omega⟩) : p:=h
theorem dF {p : Prop} (h : p:=by
 have hsB':=hsB sm hsm.symm
 clear hsm hsB
 subst hv
 subst hL
 refine uA ?_
 refine ay (b := !sm) (fun h1 => ?_) (fun h1 => ?_)
 ·rw [Bool.not_eq_true'] at h1
  have hbad:=hsB'.2 h1
  refine ie ?_
  refine az 1 ⟨cn _,rfl,⟨0,[],0,⟨none,0,0⟩⟩, ?_⟩
  rw [ofRes,hbad]
  exact ⟨rfl,TreeRep.leaf _ _ _ _⟩
 rw [Bool.not_eq_false'] at h1
 refine uL ?_
 refine oC goes71 ((type_law a _ _ h hr hB).x ?_);
 refine ic ?_
 refine ay (b := !a.isType) (fun h2 => ?_) (fun h2 => ?_)
 ·rw [Bool.not_eq_true'] at h2
  refine uL ?_
  refine oC goes73 ((sig_law a _ _ h hr hB).x ?_);
  refine ic ?_
  refine aJ (t := !a.isSig) (fun h3 => ?_) (fun h3 => ?_)
  ·rw [Bool.not_eq_true'] at h3
   have hbad:=hno h2 h3
   refine ie ?_
   refine az 1 ⟨cn _,rfl,⟨0,[],0,⟨none,0,0⟩⟩, ?_⟩
   rw [ofRes,hbad]
   exact ⟨rfl,TreeRep.leaf _ _ _ _⟩
  ·rw [Bool.not_eq_false'] at h3
   have hok:=hsB'.1 h1 (.inr h3)
   refine uL ?_
   refine oC goes83 ((ofN_law a (okT_node hok) _ _ h hr (okT_size hok)).x ?_);
   rintro _ m1 _ ⟨hm1,rfl,h',rfl,hr'⟩
   refine ie ?_
   refine az 1 ⟨hm1,rfl,h', ?_⟩
   rw [ofRes,hok]
   exact ⟨rfl,hr'⟩
 ·rw [Bool.not_eq_false'] at h2
  have hok:=hsB'.1 h1 (.inl h2)
  refine uL ?_
  refine oC goes83 ((ofN_law a (okT_node hok) _ _ h hr (okT_size hok)).x ?_);
  rintro _ m1 _ ⟨hm1,rfl,h',rfl,hr'⟩
  refine ie ?_
  refine az 1 ⟨hm1,rfl,h', ?_⟩
  rw [ofRes,hok]
  exact ⟨rfl,hr'⟩) : p:=h
theorem dG {p : Prop} (h : p:=by
 refine ae 4 ?_
 refine cG rfl rfl rfl rfl rfl rfl goes104 ((contains_str m2 _ w wordL _ hw).x ?_)
 refine iq ?_
 refine ir ?_
 refine cN uK ?_
 refine cq ?_
 refine (fun (hm12 : m ≤ m2) => ?_) (co hm1 hm2)
 refine uA ?_
 refine aj (fun k1 => ?_) (fun k1 => ?_)
 ·refine uA ?_
  refine aj (fun k2 => ?_) (fun k2 => ?_)
  ·skip
   refine kb ?_
   refine ⟨⟨0,[],0,0⟩,0,rfl, .inr ⟨?_,rfl⟩⟩
   rw [tokD,if_pos c1,if_pos kT]
  ·refine uA ?_
   refine jf ?_
   refine kb ?_
   refine ⟨⟨5,(c :: r).take (spanOf lod (c :: r)),0,0⟩,spanOf lod (c :: r),rfl, .inl ?_⟩
   rw [cm] at k1
   rw [tokD,if_pos c1,if_neg kT,if_pos k1]
 ·refine uA ?_
  refine aj (fun k2 => ?_) (fun k2 => ?_)
  ·skip
   refine kb ?_
   refine ⟨⟨0,[],0,0⟩,0,rfl, .inr ⟨?_,rfl⟩⟩
   rw [tokD,if_pos c1,if_pos kT]
  ·refine uA ?_
   refine jf ?_
   refine kb ?_
   refine ⟨⟨1,(c :: r).take (spanOf lod (c :: r)),0,0⟩,spanOf lod (c :: r),rfl, .inl ?_⟩
   rw [cm] at k1
   rw [tokD,if_pos c1,if_neg kT,if_neg k1]) : p:=h
theorem dH {p : Prop} (h : p:=by
 have hi' : i=fl.length:=kT
 subst hi'
 rw [List.take_length] at hF
 refine iw ?_
 rcases hF with ⟨f1,f2,f3⟩ | ⟨t,f1,f2,f3,f4⟩
 ·refine qs rfl (di (b:=decide (0 ≤ nu)) (L0:=L) (g:=fun _=>Z) ld hm (db [_,_,_] hB.hs) (hZ.trans (by rw [f1,bI (show ¬ 0 ≤ nu by omega)];rfl)) rfl rfl rfl rfl rfl rfl (fun e hZ=>by have:=of_decide_eq_true e;omega))
 ·rw [f1] at hZ
  refine qs rfl (di (b:=decide (0 ≤ nu)) (L0:=L) (g:=fun _=>Z) ld hm (db [_,_,_] hB.hs) (by rw [bH (show 0 ≤ nu by omega)];rfl) rfl rfl rfl rfl rfl rfl (fun e _ => ?_))
  have htg : tg t=true:=by
   obtain ⟨f,hf,rfl⟩:=lastF_mem f1
   exact fields_tg hC.tbl k.type f (by rw [hfl];exact hf)
  have hxc:=exC_sel (vs:=inV sc) (m:=m4) (b:=b10) (x:=⟨48,t,false,0,decide (k.type.kind=5) || k.place⟩) (txt:=n.name) (num:=nu) (how:=0) (var:=none) (fn:=none) f4 htg ⟨fun e=>by omega,fun e=>by cases e⟩ kU kU rfl hsA hX rfl
  refine cO fun m5 hm5 hA5 => ?_
  refine ie ?_
  refine cretQ_ret_c3 tab 0 rfl rfl rfl rfl rfl rfl (L':=T1) uS ⟨(⟨48,t,false,0,decide (k.type.kind=5) || k.place⟩,none),hZ,co hm hm5,⟨b10,zH,hxc m5 hm5 hA5,rfl,c8 _ _ _ _,fun t e=>by cases e⟩,hB.mono hm5 (bm _)⟩) : p:=h
theorem dI {p : Prop} (h : p:=by
 refine uA ?_
 (refine qs rfl (cC tab hA5 rfl rfl rfl rfl rfl ?_))
 refine ie ?_
 refine cw rfl (L' := .cells b 0 (exC 53 g5 n.name n.num sA 0 none none) :: T2) uS ⟨_,_,T2,hZ,hm,dg (x:=⟨53,k.type,false,0,false⟩) hr5 hg5 ⟨fun e=>by omega,fun e=>by cases e⟩ kU kU kU kU kU kU (fun _ _=>rfl),rfl,hB⟩) : p:=h
theorem dJ {p : Prop} (h : p:=by
 refine ic ?_
 refine iS ?_
 rw [h7];rfl) : p:=h
theorem dK {p : Prop} (h : p:=by
 refine jB ?_
 rw [h7];rfl) : p:=h
theorem dL {p : Prop} (h : p:=by
 rw [bI es] at hZ
 refine uA ?_
 refine qs rfl (di (b:=false) (L0:=L) li hm (db [_,_] hB.hs) (hZ.trans (mapB _ _)) rfl rfl rfl rfl rfl rfl (fun e hZ => ?_))
 cases e) : p:=h
theorem dN {p : Prop} (h : p:=by
 refine ae 9 ?_
 refine aI (hs:=[⟨8,recv,0,s1⟩,x,y]) (l:=[.mk 8 recv 0 [.mk 11 [] 0 [Ps.leaf 10 of]],a,b]) tab rTree ⟨rTree_iff.2 ⟨rfl,rfl,rfl,hz3⟩,rTree_iff.2 hz1,rTree_iff.2 hz2,trivial⟩ uH kV (fun s9 m9 hle9 hs9 ho9 hc9 => ?_)
 refine ⟨hle9,_,aW _, ?_⟩
 refine kE ?_
 refine cM ?_
 refine aw 11 ?_
 refine ax 1 ?_
 refine DOt.nil uK ?_
 refine uA ?_
 refine aq (L':=E.I k3 h :: L) 1 ⟨_,k3,[],hT,co hm hle9,hk,⟨⟨5,nm,0,s9⟩,rfl,rfl,⟨rfl,rfl,rfl,hs9⟩⟩,rfl⟩) : p:=h
theorem dO {p : Prop} (h : p:=by
 have hlt : k < a.kids.length:=kT
 have hx : a.kids[k]? = some a.kids[k]:=lc
 have hmem:=bz hlt
 refine iO ?_
 rintro b' i' h' hrd hA
 (first | refine qs rfl (cC tab hA rfl rfl rfl rfl rfl ?_) | refine oL tab hA ?_)
 refine uA ?_
 refine oA tab (fun b8 => ?_)
 refine ik ?_
 refine oC goes88 ((ih _ hmem _ _ h' (rTree_iff.1 hrd) ho).x ?_);
 refine ic ?_
 refine aJ (t := !tknown (mhas es) a.kids[k]) (fun e9 => ?_) (fun e9 => ?_)
 ·rw [Bool.not_eq_true'] at e9
  refine iG ?_
  have : a.kids.all (tknown (mhas es))=false:=List.all_eq_false.2 ⟨_,hmem,by rw [e9];simp⟩
  rw [tknownL_eq,this];simp
 ·rw [Bool.not_eq_false'] at e9
  refine kj ?_
  exact ⟨k + 1,uH,uH,rfl,rfl,uS,⟨by omega,by rw [bX hlt,List.all_append,hI,bY,e9];rfl⟩,by omega⟩) : p:=h
theorem dP {p : Prop} (h : p:=by
 refine ir ?_
 refine aR ?_
 refine ij ?_
 exact ⟨(i + 1,(i : Int),h9.type),uH,uH,rfl,rfl,uS,⟨by omega,hF2⟩,by simp only;omega⟩) : p:=h
theorem dQ {p : Prop} (h : p:=by
 obtain ⟨sB,xs,rfl,hsB,hxs⟩:=hV
 simp only [aU,aV] at hxs
 refine ⟨hm5,tok sk 1 :: T4,aW _, ?_⟩
 refine ae 11 ?_
 refine cI tab rPtr 4 ((hsk.mono (co hm4 hm4b)).mono hm5) hok hsB rfl rfl rfl rfl rfl rfl rfl (by simp only [aS,rPtr];omega) (fun s' m6 hm6 hs' ho' => ?_)
 refine ⟨hm6,tok s' 1 :: T4,aW _, ?_⟩
 refine cJ tab uC uK [12,13] uK rfl ?_
 refine cM ?_
 refine aw 14 ?_
 refine ak (k:=7) 2 ?_
 refine aC ?_
 have hmm : m3 ≤ m6:=co (co (co hm4 hm4b) hm5) hm6
 refine jE ?_
 refine aD (L':=tok s' 1 :: .cells b11 0 (treeC ht) :: .cells bx 0 (exC 46 zH hn hu s' 0 none none) :: .cells b3 0 (treeC ⟨46,hn,hu,hks⟩) :: .cells b13 0 (treeC h9) :: T4) plC ?_
 refine ij ?_
 exact ⟨(i + 1,s',l++xs,m6,T4),uH,uH,rfl,rfl,uS,⟨by omega,co hm3 hmm,hs',ho',by simp only [aS];omega,hB.mono hm6 (bm _),hZ⟩,by simp only;omega⟩) : p:=h
theorem dR {p : Prop} (h : p:=by
 rintro b2 i2 h2 hrd2 hA2
 (refine oL tab hA2 ?_)
 refine uA ?_
 refine qs rfl (OT.ckSx (L0:=L) [_,_] q (hst F s r (w + 1) _ h2 (rTree_iff.1 hrd2) hC kT) hB kW hm (da _) (g:=fun _=>some (plain (s :: r))) (hZ.trans (mapB _ _)) (bm _) rfl rfl rfl rfl rfl rfl goes120 (fun v m4 vs' T4 hX hZ hm4 hm' hsc hV hB => ?_))
 obtain ⟨bs,rfl⟩:=hV
 have hpl:=hkp _ _ _ _ hX
 refine uA ?_
 refine ap (hs:=[bs]) (l:=[bs]) tab rPtr ⟨rfl,trivial⟩ uH kV (fun sB m5 hm5 hsB _ _ => ?_)
 refine uA ?_
 refine qs rfl (cD (k:=5) tab 0 rfl rfl rfl rfl rfl rfl rfl rfl ?_)
 obtain ⟨T5,hT5,hT5b⟩:=hB.head
 refine aE (bqH hT5) ?_
 refine aG (k:=1) 2 ?_
 refine aK (r':=((w : Nat) : Int)) uH kT kT ?_
 refine ag (k:=1) 2 ?_
 exact cv rfl uS ⟨_,hZ,co hm' hm5,vs',hpl.symm,hsc.mono hm5,⟨b5,rfl⟩,hT5b w q m5 hm5 (bm _)⟩) : p:=h
theorem dS {p : Prop} (h : p:=by
 refine ae 4 ?_
 refine cU tab rTree (hs:=[x4]) (l:=[a4]) ⟨rTree_iff.2 hr4,trivial⟩ rfl rfl rfl rfl rfl kV (fun sB mB hleB hsB hoB hcB => ?_);refine ⟨hleB,_,aW _, ?_⟩
 refine ae 5 ?_
 refine cI tab rTree 2 (hs3.mono (co hleA hleB)) ho3 hsB rfl rfl rfl rfl rfl rfl rfl lj (fun s4 mC hleC hs4 ho4 => ?_);refine ⟨hleC,E.I k4 0 :: tok s4 4 :: .cells b2 0 [.int .i64 0,strV [], .int .i64 0, .slice none 0 0] :: L,aW _, ?_⟩
 refine iJ ?_
 refine cD (k:=3) tab 0 rfl rfl rfl rfl rfl rfl rfl rfl ?_;refine DOt.perm (aX _ _ _) ?_
 refine aC ?_
 rotate_left 1
 replace hm:=co hm (co hleB hleC)
 replace hE:=hE.mono (co hleB hleC)
 refine km ?_
 refine aq (L':=E.I k4 0 :: L) 3 ⟨_,k4,[],hT,hm,hk,⟨⟨25,[],0,s4⟩,rfl,rfl,⟨rfl,rfl,rfl,hs4⟩⟩,rfl⟩) : p:=h
theorem dT {p : Prop} (h : p:=by
 refine uA ?_
 refine aJ (fun h => ?_) (fun h => ?_)
 ·refine uA ?_
  refine ig ?_
  rw [hI,bJ hlt,idxP,if_pos h]
 ·refine uA ?_
  refine il ?_
  exact ⟨k + 1,uH,uH,rfl,rfl,uS,⟨by omega,by rw [hI,bJ hlt,idxP,if_neg (by simp [h])]⟩,by omega⟩) : p:=h
theorem dU {p : Prop} (h : p:=by
 refine ae 4 ?_
 refine cU tab rTree (hs:=[x]) (l:=[a]) ⟨rTree_iff.2 hr,trivial⟩ rfl rfl rfl rfl rfl kV (fun sB mB hleB hsB hoB hcB => ?_);refine ⟨hleB,_,aW _, ?_⟩
 refine ae 5 ?_
 refine cI tab rTree 2 (hs.mono (co hleA hleB)) ho hsB rfl rfl rfl rfl rfl rfl rfl lj (fun s3 mC hleC hs3 ho3 => ?_);refine ⟨hleC,E.I k2 0 :: tok s3 4 :: .cells b2 0 [.int .i64 0,strV [], .int .i64 0, .slice none 0 0] :: L,aW _, ?_⟩
 refine iJ ?_
 refine cD (k:=3) tab 0 rfl rfl rfl rfl rfl rfl rfl rfl ?_;refine DOt.perm (aX _ _ _) ?_
 refine aC ?_
 rotate_left 1
 replace hm:=co hm (co hleB hleC)
 replace hE:=hE.mono (co hleB hleC)
 refine uA ?_
 exact ⟨(s3,mC,acc++[a],k2,j),uH,uH,rfl,rfl,uS,⟨hm,hE,hk,hs3,ho3,by simp only [aS,aU,aV];omega,hT⟩,by simp only;omega⟩) : p:=h
theorem dV {p : Prop} (h : p:=by
 refine cJ tab uC uK [14,15] uK rfl ?_
 refine ae 16 ?_
 refine ak (k:=7) 4 ?_
 refine ir ?_
 refine ae 17 ?_
 refine OT.tokFo hcA hoA 1 ?_
 refine ak (k:=0) 3 ?_
 refine ⟨cn _,_,pfD, ?_⟩
 refine aR ?_
 exact ⟨(fh.name,sA,6,none,ht9,(t,6),m3,T2,[bk]),uH,uH,rfl,rfl,uS,⟨co hm2 hm3,hsA,hoA,bm _,hht9.mono hm3,htg,(show (6 : Int) ≠ 3 by decide),(show (6 : Int) ≠ 4 by decide),by simp,by simp,hB.mono hm3 (bm _),hZ⟩⟩) : p:=h
theorem dW {p : Prop} (h : p:=by
 refine ie ?_
 refine iP ?_
 refine cw rfl (L' := .cells b 0 (exC 51 ⟨7,[],0,nilS⟩ txt (-1) sA how none none) :: T1) uS ⟨_,_,T1,hZ,hm,dg (x:=⟨51,tk 7,true,1,false⟩) (c8 _ _ _ _) (tg_mk _ _ _ _ (fun e=>by omega) (fun _=>⟨by decide,by decide⟩) (fun x hx=>by cases hx)) kU lh lh kU kU kU kU (fun _ _=>rfl),rfl,hB⟩) : p:=h
theorem dX {p : Prop} (h : p:=by
 simp only [Sl.v] at hold hnew'
 have hb0 : ei.bytes ≠ 0:=kT
 have hmax : ¬ (9223372036854775807 < (s.len : Int) + (s2.len : Int)):=kT
 simp [Builtin.append_,run_underlying hu,run_underlying hu2,sizeOf,typeInfo,zeroValue,q1,q3,q4,q5,Builtin.lenOf,hroom,hold,hnew',h48,hmax,Question.forced,newRow,← hnc,IntKind.max,IntKind.signed,IntKind.bits,hb0]
 congr 2
 apply Array.ext'
 simp) : p:=h
theorem dY {p : Prop} (h : p:=by
 have hm':=hm
 refine cT 0 rfl fun m2 hm2 hA => ?_
 refine uA ?_
 refine af (L':=T1) ⟨a,hZ,co hm' hm2,⟨bx,rfl,hX m2 hm2 hA⟩,hB.mono hm2 (bm _)⟩) : p:=h
theorem dZ {p : Prop} (h : p:=by
 simp only [execOp,ho,resolve,invoke,builtin,Sem.run_bind,Sem.run_pure,Result.andThen_ok,List.map_toArray,br,bu,ha.env.eval hx,ha.env.eval hy]
 simp only [List.map_toArray,br,bu,ha.env.eval hx,ha.env.eval hy,hr,Result.andThen_ok]) : p:=h
theorem d7 {p : Prop} (h : p:=by
 intro r hrr
 subst hrr
 unfold okT okType okSig
 rw [withinB_eq,withinB_eq]
 refine ⟨fun hd ht => ?_,fun hd => ?_⟩
 ·have hd:=of_decide_eq_true hd
  rcases ht with ht | ht
  ·have:=type_not7 ht
   rw [ht,bH (show (a.size : Int) + 3 ≤ 20000 by omega),bH (show (a.deep : Int) + 3 ≤ 100 by omega)];rfl
  ·have:=(isSig_facts ht).1
   rw [ht,bH (show (a.size : Int) + 3 ≤ 20000 by omega),bH (show (a.deep : Int) + 2 ≤ 100 by omega)];simp
 ·have hd:=of_decide_eq_false hd
  rw [Bool.or_eq_false_iff]
  refine ⟨Bool.eq_false_iff.2 fun hc => ?_,Bool.eq_false_iff.2 fun hc => ?_⟩
  ·simp only [a6,ba] at hc
   have:=type_not7 hc.2
   omega
  ·simp only [a6,ba] at hc
   have:=(isSig_facts hc.2).1
   omega) : p:=h
theorem d8 {p : Prop} (h : p:=by
 refine ae 4 ?_
 refine OT.tokFo hc ho 4 (cI tab rTree 0 hsB ho hrB rfl rfl rfl rfl rfl rfl rfl lE (fun s3 mC hleC hs3 ho3 => ?_))
 refine ⟨hleC,tok s3 4 :: E.I k2 0 :: it :: L,cS (l:=[_,_]), ?_⟩
 refine jp ?_
 refine cM ?_
 refine aw 6 ?_
 refine ax 1 ?_
 refine DOt.perm (L':=E.I k2 0 :: .cells b2 0 [.int .i64 51,strV [], .int .i64 0,s3.v] :: tok s3 4 :: it :: .cells b3 0 (treeC x) :: L) ((aY pfr3 (aZ _ (aY pfr1 (aZ _ (aY pfr1 (aZ _ pfr1))))))) ?_
 refine DOt.nil uK ?_
 refine uA ?_
 refine aq (L':=E.I k2 0 :: it :: .cells b3 0 (treeC x) :: L) 1 ⟨_,k2,[],hT,co hm hleC,hk,⟨⟨51,[],0,s3⟩,rfl,rfl,⟨rfl,rfl,rfl,hs3⟩⟩,rfl⟩) : p:=h
theorem d9 {p : Prop} (h : p:=by
 replace hA2:=hA2.mono hm3
 replace hr5:=hr5.mono hm3
 refine uA ?_
 (refine qs rfl (cC tab hA2 rfl rfl rfl rfl rfl ?_))
 refine uA ?_
 refine oC goes60 ((pointer_law k.type _ _ g2 hr5).x ?_);
 rintro _ m4 _ ⟨hm4,rfl,g6,rfl,hr6⟩
 refine ie ?_
 refine cw rfl (L' := .cells b 0 (exC 52 g6 n.name n.num sA 0 none none) :: T2) uS ⟨_,_,T2,hZ,co hm' hm4,dg (x:=⟨52, .mk 5 [] 0 [k.type],false,0,false⟩) hr6 (tg_mk _ _ _ _ (fun _=>rfl) (fun e=>by cases e) (fun x hx=>by rw [List.mem_singleton.1 hx];exact hg2)) ⟨fun e=>by omega,fun e=>by cases e⟩ kU kU kU kU kU (fun _=>by rw [hpl]) (fun _ _=>rfl),rfl,hB.mono hm4 (bm _)⟩) : p:=h
theorem ed {p : Prop} (h : p:=by
 rw [← h1,← h2,← hhas,← hif]
 refine uA ?_
 refine oB (fun b => ?_)
 refine kO ?_
 refine TO.conv ?_ (congrArg (fun z=>Value.tuple ⟨[z, .bool (mhas es h.name)]⟩) hhd)
 refine uA ?_
 refine oA tab (fun b5 => ?_)
 refine ik ?_
 (refine cy rfl rfl (fun e1 => ?_) (fun e1 => ?_))
 ·refine uA ?_
  refine ay (b:=mhas es h.name) (fun e2 => ?_) (fun e2 => ?_)
  ·refine uL ?_
   refine ig ?_
   rw [bH e1,e2];rfl
  ·refine uA ?_
   refine ig ?_
   rw [bH e1,e2];rfl
 ·refine uA ?_
  refine ig ?_
  rw [bI e1];rfl) : p:=h
theorem ee {p : Prop} (h : p:=by
 skip
 refine uA ?_
 refine oC goes101 ((span_law _ _ (c :: r) kT dgt 103 [] ⟨goes103,fun b=>digit_law _ _ b⟩).x ?_);
 refine ic ?_
 refine aQ (fun c4 => ?_) (fun c4 => ?_)
 ·skip
  refine ie ?_
  refine az (L':=L) 0 ⟨(co hm1 hm2),rfl, ?_⟩
  refine ⟨⟨0,[],0,0⟩,0,rfl, .inr ⟨?_,rfl⟩⟩
  rw [tokD,if_neg c1',if_pos c2,e1]
  simp only
  rw [if_pos (.inr kT)]
 ·refine uA ?_
  refine iP ?_
  refine az (L':=L) 0 ⟨co hm1 hm2,rfl, ?_⟩
  refine ⟨⟨2,[],v,0⟩,spanOf lod (c :: r),rfl, .inl ?_⟩
  rw [tokD,if_neg c1',if_pos c2,e1]
  simp only
  rw [if_neg kT]) : p:=h
theorem ef {p : Prop} (h : p:=by
 refine ⟨hm4,tok s' 1 :: T2,pfB, ?_⟩
 refine cJ tab uC uK [13,14] uK rfl ?_
 refine cM ?_
 refine aw 15 ?_
 refine ak (k:=7) 0 ?_
 refine aC ?_
 have hA6:=hA5.mono (co (co hm2 hm3) hm4)
 have hr6:=hr5.mono (co (co hm2 hm3) hm4)
 refine uA ?_
 (refine qs rfl (cC tab hA6 rfl rfl rfl rfl rfl ?_))
 refine ie ?_
 refine cv rfl (L' := .cells b 0 (exC 51 g5 txt num s' how none none) :: T2) uS ⟨_,_,T2,hZ,co hm' hm4,dg (x:=⟨51,k.type,false,4,false⟩) hr6 hg5 ⟨fun e=>by omega,fun e=>by cases e⟩ lh lh kU kU kU kU (fun _ _=>rfl),rfl,hB.mono hm4 (bm _)⟩) : p:=h
theorem eg {p : Prop} (h : p:=by
 refine uA ?_
 refine ar ?_
 refine iS ?_
 exact .inr ⟨hI.trans (pU_big hlt hd kT),_,1, .inl ⟨rfl,rfl⟩,rfl⟩) : p:=h
theorem eh {p : Prop} (h : p:=by
 have e1 : Item.room w.heap.size (0 + (xs++news).length) (Builtin.zeroCells ei.zero.cells (nc - (s.len + s2.len))).toList.length=tok ⟨some ⟨w.heap.size,0,none⟩,s.len + s2.len,nc⟩ ei.size:=by
  simp only [tok,hxl,Array.length_toList,size_zeroCells,hzs]
 rw [← e1]
 have hsub : (Item.room w.heap.size (0 + (xs++news).length) (Builtin.zeroCells ei.zero.cells (nc - (s.len + s2.len))).toList.length :: L.eraseIdx i).Sublist (Item.room w.heap.size (0 + (xs++news).length) (Builtin.zeroCells ei.zero.cells (nc - (s.len + s2.len))).toList.length :: L) :=
  bM _ (List.eraseIdx_sublist L i)
 exact St.back hi (g4.sub hsub)) : p:=h
theorem ej {p : Prop} (h : p:=by
 refine ij ?_
 exact ⟨(i + 1,s',l++xs,m6,T4),uH,uH,rfl,rfl,uS,⟨by omega,co hm3 hmm,hs',ho',by simp only [aS];omega,hB.mono hm6 (bm _),hZ⟩,by simp only;omega⟩) : p:=h
theorem ek {p : Prop} (h : p:=by
 refine ku ?_
 refine oC goes130 ((writeByte_law _ _ bd q sl acc s[i + 1] hB kT).x ?_);
 rintro _ m2 _ ⟨hm2,sl2,q2,rfl,hB2⟩
 refine jP ?_
 exact ⟨⟨m2,q2,sl2,(i + 1) + 1,acc++[s[i + 1]]⟩,uH,uH,rfl,rfl,uS,⟨co hm hm2,by show _ ≤ (i + 1) + 1;omega,by show (i + 1) + 1 ≤ _;omega,hB2,by show (acc++[_]).length ≤ (i + 1) + 1;rw [aS];simp only [aU,aV];omega,(hI.esc hi1 hlt kT he)⟩,by show s.length - ((i + 1) + 1) < s.length - i;omega⟩) : p:=h
theorem el {p : Prop} (h : p:=by
 have hm36 : m2 ≤ m7:=co hm3 (co (co h4 h5) (co h6 h7))
 refine je ?_
 refine ij ?_
 exact ⟨(i + 1,s1',s2',xs++[b],ts++[x.type],m7,T4),uH,uH,rfl,rfl,uS,⟨by omega,co hm2 hm36,(hs1'.mono h7),ho1',by simp only [aS,aU,aV];omega,hs2',ho2',by simp only [aS,aU,aV];omega,hB.mono (co (co h4 h5) (co h6 h7)) (bm _),hZ⟩,by simp only;omega⟩) : p:=h
theorem en {p : Prop} (h : p:=by
 refine uL ?_
 refine qs rfl (OT.ckS (L0:=L) [_,_,_] q (declare_ck hC hn hht htg) (hB.mono (cn _) (show q ≤ _ by omega)) kW hm (da _) (g:=some) (hZ.trans (bindS _)) (bm _) rfl rfl rfl rfl rfl rfl goes155 (fun v m2 vs' T2 hZ hm2 hm' hsc hV hB => ?_))
 obtain ⟨bv,rfl⟩:=hV
 refine uA ?_
 refine ap (hs:=[bv]) (l:=[bv]) tab rPtr ⟨rfl,trivial⟩ uH kV (fun sA m3 hm3 hsA _ _ => ?_)
 refine uA ?_
 refine ag (k:=1) 1 ?_
 exact cv rfl (L':=T2) uS ⟨_,hZ,co hm' hm3,vs',rfl,hsc.mono hm3,⟨b5,rfl⟩,hB.mono hm3 (bm _)⟩) : p:=h
theorem eo {p : Prop} (h : p:=by
 refine aj (fun h5 => ?_) (fun h5 => ?_)
 ·omega
 refine uA ?_
 refine aj (fun h5 => ?_) (fun h5 => ?_)
 ·omega
 refine uA ?_
 refine aj (fun h5 => ?_) (fun h5 => ?_)
 ·omega
 refine uA ?_
 refine aj (fun h5 => ?_) (fun h5 => ?_)
 ·omega
 refine uA ?_
 exact cv rfl uS ⟨cn _,rfl,rfl⟩) : p:=h
theorem ep {p : Prop} (h : p:=by
 refine uA ?_
 refine aA (r':=((s[k].toNat - 48 : Nat) : Int)) uH (by rw [u8_in kT kT];omega) ?_
 exact ⟨s[k].toNat - 48,uH,uH,rfl,rfl,uS,dv_dig kT kT⟩) : p:=h
theorem er {p : Prop} (h : p:=by
 simp only [execOp,ho,ha.env.eval hx,ha.env.eval hy,Sem.run_bind,e2,Result.andThen_ok,e1,h,Sem.run_pure];rfl) : p:=h
theorem et {p : Prop} (h : p:=by
 refine iG ?_
 rfl) : p:=h
theorem eu {p : Prop} (h : p:=by
 refine ic ?_
 refine ay (fun h10 => ?_) (fun h10 => ?_)
 ·refine uL ?_
  refine qs rfl (OT.cut tab rTree a.num.toNat s.len h4 rfl rfl rfl rfl rfl rfl rfl (.inr (by rw [← hnum])) (.inl ⟨rfl,rfl⟩) kT kT (fun s2 hs2 => ?_))
  rw [bS kT] at hs2
  refine uA ?_
  refine oC goes34 ((pall_law _ _ s2 _ hs2 161 g.expr hp1).x ?_);
  refine ic ?_
  refine iD ?_
  rw [h10];rfl
 ·skip
  refine jB ?_
  rw [h10];rfl) : p:=h
theorem ey {p : Prop} (h : p:=by
 intro i v hv
 have:=(look_argEnv vs 0 i v hv).2
 have hi : i < vs.length:=by have:=(List.getElem?_eq_some_iff.1 this).1;simpa using this
 have h2 : vs[i]? = some v:=by simpa using this
 rw [Array.getElem?_append_left lC]
 simpa using h2) : p:=h
theorem ez {p : Prop} (h : p:=by
 refine aL [] cV 7 ?_
 refine cJ tab uC uK [0,1] uK rfl ?_
 (refine cL (k:=0) tab 3 hA uC uK uK rfl rfl rfl rfl rfl rfl rfl ?_)
 refine ae 2 (cG rfl rfl rfl rfl rfl rfl goes197 ((clone_str _ _ s hs).x ?_))
 rintro _ _ _ ⟨rfl,rfl,rfl⟩;refine ⟨cn _,_,aW _, ?_⟩
 refine cJ tab uC uK [4] uK rfl ?_
 refine ae 5 ?_
 refine OT.box rfl rfl rfl rfl rfl (fun b => ?_);refine ⟨cn _,[_],cS, ?_⟩
 refine cJ tab uC uK [6] uK rfl ?_
 (refine DO.nil uK ?_)
 rotate_left 1
 refine aM ?_
 refine af (L':=L) ⟨cn _,rfl,b,rfl⟩) : p:=h
theorem eA {p : Prop} (h : p:=by
 rw [List.getElem_map] at hst
 refine jO ?_
 refine ic ?_
 refine aJ (t := !ps[k].2 a.kids[k]) (fun h6 => ?_) (fun h6 => ?_)
 ·refine uA ?_
  refine ig ?_
  rw [hI,hst]
  simp_all
 ·refine uA ?_
  refine il ?_
  exact ⟨k + 1,uH,uH,rfl,rfl,uS,⟨by omega,by rw [hI,hst];simp_all⟩,by omega⟩) : p:=h
theorem eB {p : Prop} (h : p:=by
 have hnew' : (Builtin.firstCells ei.size 0 s2.v).run P w = .ok (⟨[]⟩ : Array Value) w:=by rw [← hz];exact hnew
 simp only [Sl.v] at hnew'
 simp [Builtin.append_,run_underlying hu,run_underlying hu2,sizeOf,typeInfo,q1,q3,Builtin.lenOf,hz,hnew']) : p:=h
theorem eC {p : Prop} (h : p:=by
 refine ⟨by rw [g4,hs.len,hs2.len];simp,g5,by rw [g4,hs.len,hs2.len];exact hfit,hl++hl2,(h1.mono fun _ _=>r.mono g1).append (k1.mono fun _ _=>r.mono g1), ?_⟩
 rcases g6 with ⟨e1,e2,e3⟩ | ⟨b,off,e1,e2⟩
 ·left
  have hz : s'.len=0:=by
   rcases g3 with e | ⟨b,off,e⟩
   ·rw [e]
   ·rw [e1] at e;cases e
  refine ⟨List.eq_nil_of_length_eq_zero ?_,fun _=>e3⟩
  have j1:=hs.len
  have j2:=hs2.len
  rw [aS];omega
 ·right
  exact ⟨b,off,e1,by rw [encs_append];exact e2⟩) : p:=h
theorem eD {p : Prop} (h : p:=by
 refine uA ?_
 refine oC goes184 ((ckind_law 1 _ _).x ?_);
 rintro _ m4 _ ⟨hm4,rfl,h7,rfl,hr7⟩
 refine ie ?_
 refine cv rfl (L' := .cells b 0 (exC 51 h7 txt num sA how none none) :: T1) uS ⟨_,_,T1,hZ,co hm hm4,dg (x:=⟨51,tk 1,false,3,false⟩) hr7 (tg_leaf _ _ _ kT) ⟨fun e=>by omega,fun e=>by cases e⟩ lh lh kU kU kU kU (fun _ _=>rfl),rfl,hB.mono hm4 (bm _)⟩) : p:=h
theorem eE {p : Prop} (h : p:=by
 refine uL ?_
 refine af (good ?_)
 rw [hkb]
 congr 1
 apply propext
 (try simp only)
 omega) : p:=h
theorem eF {p : Prop} (h : p:=by
 refine iJ ?_
 refine cD (k:=3) tab 0 rfl rfl rfl rfl rfl rfl rfl rfl ?_;refine DOt.perm (aX _ _ _) ?_
 refine aC ?_
 rotate_left 1
 replace hm:=co hm (co hleB hleC)
 replace hE:=hE.mono (co hleB hleC)
 refine km ?_
 refine aq (L':=E.I k4 0 :: L) 3 ⟨_,k4,[],hT,hm,hk,⟨⟨26,[],0,s4⟩,rfl,rfl,⟨rfl,rfl,rfl,hs4⟩⟩,rfl⟩) : p:=h
theorem eG {p : Prop} (h : p:=by
 refine uA ?_
 refine ap (hs:=[bk]) (l:=[bk]) tab rPtr ⟨rfl,trivial⟩ uH kV (fun sA m3 hm3 hsA hoA hcA => ?_)
 refine TO.tokFo hcA hoA 1 ?_
 refine uA ?_
 refine ag (k:=7) 6 ?_
 exact ⟨(n.name,sA,0,none,g2,(k.type,0),m3,T2,[bk]),uH,uH,rfl,rfl,uS,⟨co hm2 hm3,hsA,hoA,bm _,hr5.mono hm3,hg2,(show (0 : Int) ≠ 3 by decide),(show (0 : Int) ≠ 4 by decide),by simp,by simp,hB.mono hm3 (bm _),hZ⟩⟩) : p:=h
theorem eH {p : Prop} (h : p:=by
 refine ir ?_
 refine cJ tab (by repeat (first|exact Calm.ret|refine Calm.then ?_|refine Calm.block ?_)) uK [4] uK rfl ?_
 refine ae 5 ?_
 refine ak 2 ?_
 refine ir ?_
 refine DO.nil uK ?_
 refine cq ?_
 refine uL ?_
 refine iP ?_
 exact retQ_ret_c1 tab 0 rfl rfl rfl rfl uS ⟨cn _,rfl,⟨4,n,u,⟨none,0,0⟩⟩,rfl,by rw [h3,hu];exact TreeRep.leaf _ _ _ _⟩) : p:=h
theorem eI {p : Prop} (h : p:=by
 refine ir ?_
 refine ae 4 ?_
 refine ax 1 ?_
 refine ir ?_
 refine cM ?_
 refine aw 5 ?_
 refine ax 0 ?_
 refine aC ?_
 refine TC.ret ?_
 refine thenQ_r ?_
 intro tmps w' hA hst'
 rw [hD]
 exact parseE_end (x:=⟨0,[],0,⟨none,0,0⟩⟩) (L':=L) tab rfl hA rfl rfl rfl rfl rfl rfl (hst'.perm (aY pfr2 (aZ _ pfr1))) (bO _) hm1 (emptyT_rep _)) : p:=h
theorem eJ {p : Prop} (h : p:=by
 refine ir ?_
 refine ae 2 ?_
 refine ak (k:=0) 0 ?_
 refine ir ?_
 refine DO.nil uK ?_
 refine forgetQ_n ?_
 refine cq ?_
 refine TC.ret ?_
 refine thenQ_r ?_
 intro tmps w' hA hst'
 exact buildE_end (pv := .pointer none) (L' := .cells b1 0 (treeC h) :: L) tab rfl hA rfl rfl rfl rfl (hst'.perm (aX _ _ _)) ((da L).cons _) hm1) : p:=h
theorem eK {p : Prop} (h : p:=by
 refine iG ?_
 rw [h7];rfl) : p:=h
theorem eM {p : Prop} (h : p:=by
 refine ie ?_
 refine aq (L':=E.I k2 h :: L) 1 ⟨_,k2,[],hT,hm,hk,⟨x,rfl,rfl,hrx⟩,rfl⟩) : p:=h
theorem eN {p : Prop} (h : p:=by
 refine ir ?_
 refine ae 4 ?_
 refine ax 2 ?_
 refine ir ?_
 refine ae 5 ?_
 refine ax 3 ?_
 refine ir ?_
 refine DO.nil uK ?_
 refine cw rfl (L' := .cells a 0 [.int .i64 0,strV [], .int .i64 0, .slice none 0 0] :: .cells b 0 [.int .i64 x] :: .cells c 0 [.int .i64 3] :: L) uS ⟨rfl,rfl,rfl⟩) : p:=h
theorem eO {p : Prop} (h : p:=by
 refine iG ?_
 refine jW ?_
 have h3 : ¬ (97 ≤ b.toNat∧b.toNat ≤ 122):=fun h=>by have:=hlow.2 (.inl h);omega
 have h4 : ¬ (65 ≤ b.toNat∧b.toNat ≤ 90):=fun h=>by have:=hlow.2 (.inr h);omega
 unfold ltr
 rw [bI h3,bI h4]
 simp only [Bool.false_or]
 congr 1
 apply propext
 omega) : p:=h
theorem eP {p : Prop} (h : p:=by
 refine uA ?_
 refine cw rfl (L' := .cells b 0 (exC 50 g5 n.name n.num s 0 none none) :: T1) uS ⟨_,_,T1,hZ,hm,dg (x:=⟨50,k.type,false,0,false⟩) hr5 hg5 ⟨fun e=>by omega,fun e=>by cases e⟩ kU kU kU kU kU kU (fun _ _=>rfl),rfl,hB.mono (cn _) (Nat.le_add_right _ _)⟩) : p:=h
theorem eQ {p : Prop} (h : p:=by
 rintro _ m2 _ ⟨hm2,rfl,u,w,rfl⟩
 refine uA ?_
 refine af ⟨co hm1 hm2,rfl, ?_⟩
 exact .inr ⟨e1,_,_,_,rfl⟩) : p:=h
theorem eR {p : Prop} (h : p:=by
 simp only [Op.equalIn,Sem.run_bind,hu,Result.andThen_ok,Sem.run_pure]) : p:=h
theorem eS {p : Prop} (h : p:=by
 simp only [Sl.v] at hnew
 simp [Builtin.append_,run_underlying hu,run_underlying hu2,sizeOf,typeInfo,q1,q3,Builtin.lenOf,hroom,hnew,hr']) : p:=h
theorem eT {p : Prop} (h : p:=by
 refine iM ?_
 refine ae 10 ?_
 refine ak (k:=7) 4 ?_
 refine ir ?_
 refine ae 11 ?_
 refine OT.tokFo hcA hoA 1 ?_
 refine ak (k:=0) 2 ?_
 refine ⟨cn _,_,pfE, ?_⟩
 refine DO.nil uK ?_
 refine cq ?_
 exact ⟨(sA,m3),uH,uH,rfl,rfl,uS,⟨hm3,hsA,hoA⟩⟩) : p:=h
theorem eU {p : Prop} (h : p:=by
 refine cJ tab uC uK [4] uK rfl ?_
 refine cM ?_
 refine aw 5 ?_
 refine ax 0 ?_
 refine DOt.perm (aX _ _ _) ?_
 refine DOt.nil uK ?_
 refine uA ?_
 exact ⟨(⟨48,t,0,s⟩,mB, .mk 48 t 0 [n],k + 1 + 1,N),uH,uH,rfl,rfl,uS,⟨co hm3 hleB,hk,⟨rfl,rfl,rfl,hs⟩,hT⟩,by simp only;omega⟩) : p:=h
theorem eV {p : Prop} (h : p:=by
 rw [bX hlt,bZ,List.sum_append];simp only [br,bu,List.sum_cons,List.sum_nil,Nat.add_zero]) : p:=h
theorem eW {p : Prop} (h : p:=by
 have e1 : Item.room b (o + n * ei.size + news.length) (List.drop news.length vs).length=tok ⟨some ⟨b,o,none⟩,n + s2.len,c⟩ ei.size:=by
  simp only [tok,bL,hvl,hy.1]
  congr 1
  ·rw [Nat.add_mul];omega
  ·rw [← Nat.sub_mul];congr 1;omega
 rw [← e1]
 exact St.back hi g4) : p:=h
theorem eX {p : Prop} (h : p:=by
 have q1 : (A++(B++(C++D))).Perm (B++(A++(C++D))):=by rw [← a8 A B,← a8 B A];exact List.perm_append_comm.append_right _
 have q2 : (A++(C++D)).Perm (C++(A++D)):=by rw [← a8 A C,← a8 C A];exact List.perm_append_comm.append_right _
 exact q1.trans (q2.append_left B)) : p:=h
theorem eY {p : Prop} (h : p:=by
 refine ij ?_
 exact ⟨(i + 1,vs',sl',l++[bs],m5,T4),uH,uH,rfl,rfl,uS,⟨by omega,co hm2 (co hm3 (co hm4 hm5)),hsl',hol',by simp only [aS,aU,aV];omega,hsc.mono (co hm4 hm5),hB.mono (co hm4 hm5) (bm _),hZ⟩,by simp only;omega⟩) : p:=h
theorem eZ {p : Prop} (h : p:=by
 rw [← h1]
 (refine cy rfl rfl (fun e1 => ?_) (fun e1 => ?_))
 ·refine uL ?_
  refine oC hE.1 ((hE.2 _ _ h a ha hr').x ?_);
  refine jw ?_
  rw [bH e1];rfl
 ·refine uA ?_
  refine ig ?_
  rw [bI e1];rfl) : p:=h
theorem fa {p : Prop} (h : p:=by
 refine iG ?_
 rw [hI,bR kT]
 rfl) : p:=h
theorem fc {p : Prop} (h : p:=by
 refine uA ?_
 refine ap (hs:=[b]) (l:=[b]) tab rPtr ⟨rfl,trivial⟩ uH kV (fun sA m2 hm2 hsA _ _ => ?_)
 refine uA ?_
 refine kR ?_
 exact cv rfl (L':=T1) uS ⟨_,hZ,co hm hm2,s.vs,rfl,hC.sc.mono (co hm hm2),⟨b5,rfl⟩,hB.mono hm2 (bm _)⟩) : p:=h
theorem fe {p : Prop} (h : p:=by
 have e : (List.take (1 + zs.length) (y :: zs)).drop 1=zs:=l6
 rw [e] at hsz;exact hsz) : p:=h
theorem fi {p : Prop} (h : p:=by
 have hi' : i=l.length:=kT
 subst hi'
 rw [List.drop_length] at hZ
 replace hZ : Z=some ts:=by rw [hZ];simp
 refine uA ?_
 refine cv rfl (L':=T1) uS ⟨ts,hZ,hm,⟨by omega,s1,s2,xs,rfl,hs1,by omega,hs2,htg⟩,hB.mono (cn _) (Nat.le_add_right _ _)⟩) : p:=h
theorem fj {p : Prop} (h : p:=by
 refine uA ?_
 refine qs rfl (OT.needP (L0:=L) hT hE hk kZ hm uS rfl rfl rfl rfl rfl rfl (fun hT hk => ?_))
 refine uA ?_
 refine af (L':=E.I (k2 + 1) h :: L) ⟨a,k2 + 1,[],hT,hm,hk,⟨x,rfl,rfl,hrx,hlx⟩,rfl⟩) : p:=h
theorem fk {p : Prop} (h : p:=by
 rintro a' w' ⟨ρ',m',L',h1,h2,Lp',h3,h4⟩
 have h5 : Ok N ρ' D m' (Ls++Lp') a' w':=h1.perm h3
 refine ⟨fun _=>⟨m',Lp',h2,h5.st⟩, ?_⟩
 rw [e]
 refine wpAnyT_strong ?_ _ _ _ _ (h4 a' w' h5)
 rintro w2 ⟨m2,L2,g1,g2⟩
 exact ⟨m2,L2,co h2 g1,g2⟩) : p:=h
theorem fp {p : Prop} (h : p:=by
 refine uA ?_
 refine aK (r':=((((ls.take (k + 1)).map List.length).sum : Nat) : Int)) uH kT kT ?_
 refine il ?_
 exact ⟨k + 1,uH,uH,rfl,rfl,uS,by omega,by omega⟩) : p:=h
theorem fq {p : Prop} (h : p:=by
 refine uA ?_
 refine ja ?_
 exact ⟨(j + 1,s',m'),uH,uH,rfl,rfl,uS,⟨by simp only;omega,co hm1 hm',ho',by rw [bX hlt,List.flatten_append];simpa using hs'⟩,by simp only;omega⟩) : p:=h
theorem fu {p : Prop} (h : p:=by
 rcases List.mem_append.1 hf with hf | hf
 ·exact (hfl f hf).mono hm512
 ·rw [List.mem_singleton.1 hf]
  exact ⟨hA0.mono (co hm8 hm812),⟨ht,ps,hht.mono hm812,hps.mono hm812,hA2.mono hm812⟩,⟨htg,ht7⟩,hpo,hbl,fb⟩) : p:=h
theorem fv {p : Prop} (h : p:=by
 obtain ⟨i,h1,h2,h3,h4,h5,h6⟩:=(show ∃ i,Has ρ' (sρ i)∧Has ρ' ρc∧_ from h)
 subst h3;subst h4
 exact (show TC P N y ρ' D' (sm i) L' Q from fun a w ha=>hy i h6 a w ((ha.sub (h1.append h2).sub).sublist h5))) : p:=h
theorem fw {p : Prop} (h : p:=by
 refine uA ?_
 (refine qs rfl (cC tab hA rfl rfl rfl rfl rfl ?_))
 refine uA ?_
 refine aj (fun e4 => ?_) (fun e4 => ?_)
 ·exfalso;omega
 ·refine uA ?_
  refine cw rfl (L':=T) (bO _) ⟨(),hZ,cn _,rfl,hB⟩) : p:=h
theorem fx {p : Prop} (h : p:=by
 have h1:=hall e he hb
 have h0:=(mem_ready.1 hr).1
 rw [heq] at h1
 rcases Nat.lt_or_ge i listed.size with h' | h'
 ·simp [h'] at h0 h1;rw [h0] at h1;cases h1
 ·simp [Array.getElem?_eq_none h'] at h1) : p:=h
theorem fy {p : Prop} (h : p:=by
 intro a w ha
 obtain ⟨h1,h2,h3⟩:=ha.st.freeze
 exact h _ h1 h2 a w ⟨ha.size,ha.env,ha.defers,h3⟩) : p:=h
theorem fz {p : Prop} (h : p:=by
 refine ⟨(of_name h.1).1,fun f hf => ?_⟩
 have:=List.all_eq_true.1 h.2 f hf
 unfold fieldS at this
 rw [a6] at this
 obtain ⟨y,hy, -⟩:=Pt.kids1 this.2
 exact ⟨(of_name this.1).1,y,hy⟩) : p:=h
theorem fA {p : Prop} (h : p:=by
 rintro v m' L' w' ⟨rfl,rfl,rfl⟩ hst
 exact ⟨_,rfl,rfl,hst⟩) : p:=h
theorem fB {p : Prop} (h : p:=by
 exact h.free y (List.mem_cons_of_mem _ hy)) : p:=h
theorem fC {p : Prop} (h : p:=by
 simp only [Oper.wp,hr,Oper.upon,hd]
 have hp:=ha.put hN (.pointer (some ⟨w.heap.size,0,none⟩))
 exact ⟨_,_,_,⟨hp.size,hp.env,hp.defers,ha.st.allocCells ⟨cs⟩ t⟩,hK _⟩) : p:=h
theorem fD {p : Prop} (h : p:=by
 cases fuel with
 | zero=>exact ⟨hr,hq⟩
 | succ n=>exact ⟨fun _=>hq,by rw [hr];simp⟩) : p:=h
theorem fE {p : Prop} (h : p:=by
 unfold TCall TCallX
 intro w hst
 refine (key w hst).mono fun e w' he => ?_
 cases e with
 | returned v=>exact he
 | panicked ch=>exact he.elim
 | outgrown=>exact he) : p:=h
theorem fF {p : Prop} (h : p:=by
 refine jd ?_
 exact ⟨i + 1,uH,uH,rfl,rfl,uS,⟨hlt,by rw [bX hlt,List.all_append,hI];simp [hb]⟩,by omega⟩) : p:=h
theorem fG {p : Prop} (h : p:=by
 refine jd ?_
 exact ⟨(i + 1,fn),uH,uH,rfl,rfl,uS,(show i + 1 ≤ fl.length by omega),by simp only;omega⟩) : p:=h
theorem fH {p : Prop} (h : p:=by
 refine uA ?_
 refine oC goes10 ((awake5_law _ _ (hE.mono hm1)).x ?_);
 rintro _ m2 _ ⟨hm2,rfl,rfl⟩
 refine uA ?_
 exact cv rfl (L':=L) uS ⟨co hm1 hm2,rfl,rfl⟩) : p:=h
theorem fI {p : Prop} (h : p:=by
 refine ig ?_
 rw [bH e1];rfl) : p:=h
theorem fJ {p : Prop} (h : p:=by
 simp only [execOp,ho,Instr.alloc,newVar,newRow,cellsF_eq hv,Sem.run_bind,Sem.run_pure,run_newObj,Result.andThen_ok,World.alloc_eq,T.run_zero w hi]) : p:=h
theorem fK {p : Prop} (h : p:=by
 have:=hd.1 y hy
 simpa [Item.Disj,Item.len,Item.blk,Item.off] using this) : p:=h
theorem fL {p : Prop} (h : p:=by
 simp only [Oper.wp,he,Oper.upon]
 rw [hd]
 have hp:=ha.put hN s'.v
 rw [q3] at g2
 exact ⟨_,_,_,⟨hp.size,hp.env,hp.defers,g2⟩,hK s' m' g1 hrep g3⟩) : p:=h
theorem fM {p : Prop} (h : p:=by
 simp only at e4
 refine jB ?_
 rw [bI (show ¬ a.num < (a.kids.length : Int) by omega),Bool.false_and,Bool.and_false]) : p:=h
theorem fN {p : Prop} (h : p:=by
 have e : (⟨listed⟩ : Array Bool).setIfInBounds i true = ⟨listed.set i true⟩:=by
  apply Array.ext';simp
 rw [e,hd]
 exact h _ _ (ha.put hN v)) : p:=h
theorem fO {p : Prop} (h : p:=by
 repeat (refine thenQ_p ?_)
 obtain rfl : c=5:=lK
 exact build_bad (v2:=ptr bp) (v3 := .int .i64 0) rfl rfl hm08 ⟨_,bhY⟩) : p:=h
theorem fQ {p : Prop} (h : p:=by
 simp only [execOp,ho,ha.env.eval he,ha.env.evalO h1,ha.env.evalO h2,Option.map_none,Sem.run_bind,hr,Result.andThen_ok,Sem.run_pure]) : p:=h
theorem fR {p : Prop} (h : p:=by
 rw [hb2,ha2] at hT
 simp only [Bool.and_true,cj] at hT
 refine uA ?_
 refine an 1 ?_
 exact ⟨23,uH,uH,rfl,rfl,uS,PE.isM_lt hb2,hT⟩) : p:=h
theorem fT {p : Prop} (h : p:=by
 refine uA ?_
 refine cv rfl (L':=E.I k h :: tok s 4 :: L) uS ⟨acc,k,[tok s 4],hT,hm,hk,⟨s,rfl,rfl,hs,ho,by omega⟩,rfl⟩) : p:=h
theorem fU {p : Prop} (h : p:=by
 refine hfree k ok hk hki ?_ hno
 by_cases hjk : j=k
 ·subst hjk;exact hjun
 ·rw [getD_set_ne true hjk] at hun;exact hun) : p:=h
theorem fV {p : Prop} (h : p:=by
 refine uA ?_
 refine ar ?_
 refine iS ?_
 exact .inr ⟨hI.trans (pU_big hlt hd kT),_,2, .inr rfl,rfl⟩) : p:=h
theorem fW {p : Prop} (h : p:=by
 obtain ⟨hD,v,L2,hv,hs2,hr⟩:=h2
 exact ⟨h1.defers.trans hD,u,rfl,v,hv _ _ h1.env h1.st,hR _ _ _ _ hr (h1.st.sub hs2)⟩) : p:=h
theorem fX {p : Prop} (h : p:=by
 simp only
 rw [funsI_snoc]
 exact (((List.sublist_cons_self _ _).cons_cons _).cons_cons _).cons_cons _ |>.cons_cons _) : p:=h
theorem fY {p : Prop} (h : p:=by
 simp only [PR.go.injEq] at h;obtain ⟨rfl,rfl⟩:=h;exact k) : p:=h
theorem fZ {p : Prop} (h : p:=by
 rintro ch m' L' ⟨k',h',h1,h2,h3,rfl,rfl⟩
 exact hb _ _ _ _ _ (co hm h2) h3 (by rw [hT];unfold Ps.bind;rw [h1]) hL) : p:=h
theorem f0 {p : Prop} (h : p:=by
 intro a w ha
 cases b with
 | true=>exact h1 rfl a w (ha.setKnown hl)
 | false=>exact h2 rfl a w (ha.setKnown hl)) : p:=h
theorem f8 {p : Prop} (h : p:=by
 have : (0 : Int) ≤ (lo : Int)∧(lo : Int) ≤ (y : Int):=⟨by omega,by omega⟩
 simp [Instr.sliceBound,asIntOf,this]) : p:=h
theorem ga {p : Prop} (h : p:=by
 have : (0 : Int) ≤ (hi : Int)∧(hi : Int) ≤ (y : Int):=⟨by omega,by omega⟩
 simp [Instr.sliceBound,asIntOf,this]) : p:=h
theorem gb {p : Prop} (h : p:=by
 refine uA ?_
 refine cv rfl (L' := .cells bl 0 [.int .i64 (left - 1)] :: L) uS ⟨rfl, .inr ⟨rfl,by omega,_,rfl⟩⟩) : p:=h
theorem gc {p : Prop} (h : p:=by
 refine ie ?_
 refine aq (L':=E.I k2 0 :: L) 1 ⟨_,k2,[],hT,hm,hk,⟨x,rfl,rfl,hrx⟩,rfl⟩) : p:=h
theorem gd {p : Prop} (h : p:=by
 refine uA ?_
 refine an 1 ?_
 exact ⟨(y,mB,e,k3,N),uH,uH,rfl,rfl,uS,⟨co hm3 hleB,hk,hry,hT⟩,by simp only;omega⟩) : p:=h
theorem ge {p : Prop} (h : p:=by
 show ret (acc++(a :: l))=ret (acc++[a]++l)
 rw [a8];rfl) : p:=h
theorem gg {p : Prop} (h : p:=by
 rw [hrow,e3,hfill]
 simp only [newRow,Sem.run_bind,run_newObj,Result.andThen_ok,Sem.run_pure,World.alloc_eq]) : p:=h
theorem gh {p : Prop} (h : p:=by
 simp only [execOp,ho,ha.env.eval hx,ha.env.eval hy,Sem.run_bind,g2,Result.andThen_ok,g1,h,Sem.run_pure]
 rfl) : p:=h
theorem gi {p : Prop} (h : p:=by
 rintro v m' L' ⟨a,k',xs,h1,h2,h3,h4,rfl⟩
 exact hK v m' a k' xs (by rw [hT];unfold Ps.bind;rw [h1]) h2 h3 h4) : p:=h
theorem gj {p : Prop} (h : p:=by
 rw [hvl,hy.1];exact Nat.mul_le_mul_right _ kT) : p:=h
theorem gm {p : Prop} (h : p:=by
 rintro ch m' T1 ⟨h1,h2,rfl,h4⟩
 exact hb _ _ _ (by rw [hZ,h1];rfl) (co hm h2) (Hs.trans hL (h4.of_app xs))) : p:=h
theorem gn {p : Prop} (h : p:=by
 unfold fitsB
 rw [formed_eq,hI,hhd,bH kT];rfl) : p:=h
theorem gp {p : Prop} (h : p:=by
 simp only [execOp,ho,ha.env.eval hx,ha.env.eval hy,Sem.run_bind,e2,Result.andThen_ok,e1,h,Sem.run_pure]) : p:=h
theorem gq {p : Prop} (h : p:=by
 obtain ⟨hD,v,L2,hv,hs2,hR⟩:=h2
 exact ⟨h1.defers.trans hD,v,hv _ _ h1.env h1.st,m',L2,h1.st.sub hs2,hR⟩) : p:=h
theorem gt {p : Prop} (h : p:=by
 by_cases hk : k < n
 ·rw [hq.same f' f k k (hc.lo k hk)];exact hx
 ·exact hq.no _ _ (hc.hi k kT)) : p:=h
theorem gu {p : Prop} (h : p:=by
 simp only [IntKind.wrap,IntKind.signed,IntKind.bits,Bool.false_and,Bool.false_eq_true,if_false]
 omega) : p:=h
theorem gx {p : Prop} (h : p:=by
 refine uA ?_
 exact cv rfl (L':=L) uS ⟨hm1,rfl,rfl⟩) : p:=h
theorem gy {p : Prop} (h : p:=by
 refine iG ?_
 rw [e3];rfl) : p:=h
theorem gz {p : Prop} (h : p:=by
 exact ⟨(World.cell?_of_block e).trans hv,fun i=>World.frozen?_of_block (a:=⟨a.block,i,none⟩) e⟩) : p:=h
theorem gB {p : Prop} (h : p:=by
 refine iG ?_
 rw [hI,kidsR_end _ _ _ _ (by rw [bE];omega) kT]) : p:=h
theorem gC {p : Prop} (h : p:=by
 exact Run.bind1 (Run.sig hf hN (h.up kT)) fun s=>(Run.bret _ (hb.up kT)).lax) : p:=h
theorem gD {p : Prop} (h : p:=by
 refine iG ?_
 unfold bareB at hb
 unfold ofB
 rw [h1] at hb
 simp_all) : p:=h
theorem gE {p : Prop} (h : p:=by
 refine uA ?_
 refine iS ?_
 refine .inl ⟨n,hn, ?_,rfl⟩
 rw [hI,bR kT];rfl) : p:=h
theorem gF {p : Prop} (h : p:=by
 exact h.items y (List.mem_cons_of_mem _ hy)) : p:=h
theorem gG {p : Prop} (h : p:=by
 obtain ⟨x,rfl,rfl,h5,h6⟩:=h4
 exact hK x m' a k' h1 (co hm h2) (hE.mono h2) h2 h3 h5 h6) : p:=h
theorem gH {p : Prop} (h : p:=by
 rintro _ m1 _ ⟨hm1,rfl,b,rfl⟩
 refine uA ?_
 refine ar ?_
 refine af ⟨hm1,rfl,_,_,rfl⟩) : p:=h
theorem gI {p : Prop} (h : p:=by
 refine uN ?_
 refine TC.cond_t rfl ?_
 refine uN ?_
 exact cv rfl uS (bad1 kT)) : p:=h
theorem gJ {p : Prop} (h : p:=by
 rw [bS kT] at hr1
 refine uA ?_
 exact cv rfl (L':=L) uS ⟨hm1,rfl,u,rfl,hr1⟩) : p:=h
theorem gK {p : Prop} (h : p:=by
 refine uA ?_
 refine aF (.inl rfl) ?_
 refine iS ?_
 exact .inl ⟨v,e1,rfl⟩) : p:=h
theorem gL {p : Prop} (h : p:=by
 obtain ⟨x,rfl,rfl,h5⟩:=h4
 exact hK x m' a k' h1 (co hm h2) (hE.mono h2) h2 h3 h5) : p:=h
theorem gM {p : Prop} (h : p:=by
 by_cases hk : k < q
 ·rw [hc.lo k hk];exact hx
 ·rw [hc.hi k kT];exact hd) : p:=h
theorem gN {p : Prop} (h : p:=by
 refine uA ?_
 exact cv rfl uS (bad2 (by unfold headB;rw [← h2,bI e1,bI k4];rfl))) : p:=h
theorem gO {p : Prop} (h : p:=by
 simp only [Function.comp,a8,List.singleton_append,Prod.mk.injEq,true_and]
 omega) : p:=h
theorem gP {p : Prop} (h : p:=by
 refine iG ?_
 rw [kidsR_short _ _ _ (by rw [bE];omega)]) : p:=h
theorem gQ {p : Prop} (h : p:=by
 refine jw ?_
 rw [idxP_ge]) : p:=h
theorem gR {p : Prop} (h : p:=by
 obtain ⟨y,hy,rfl⟩:=List.mem_map.1 hx
 exact hkid y hy (isType_node (h3 y hy))) : p:=h
theorem gS {p : Prop} (h : p:=by
 have:=World.block_lt_of_cell? _ _ (h.c _ _ _ hc)
 simp only at this
 omega) : p:=h
theorem gT {p : Prop} (h : p:=by
 exact .inr (.inr (.inr (.inl (by simp only [Item.len,Item.off];omega))))) : p:=h
theorem gU {p : Prop} (h : p:=by
 refine ic ?_
 refine af ⟨(cn _),rfl, ?_⟩
 rfl) : p:=h
theorem gV {p : Prop} (h : p:=by
 refine ic ?_
 refine iD ?_
 rfl) : p:=h
theorem gW {p : Prop} (h : p:=by
 simp only at e3
 refine jB ?_
 rw [bI e3];rfl) : p:=h
theorem gX {p : Prop} (h : p:=by
 refine uA ?_
 refine aF (.inl rfl) ?_
 refine cw rfl uS ⟨rfl,rfl,rfl⟩) : p:=h
theorem gY {p : Prop} (h : p:=by
 have:=cell_arr g1 q1
 rw [g2] at this
 simpa [Item.off] using this) : p:=h
theorem gZ {p : Prop} (h : p:=by
 refine iG ?_
 rw [bI e1,bI e2,bI e3];rfl) : p:=h
theorem g8 {p : Prop} (h : p:=by
 refine uA ?_
 refine af (L':=L) ⟨co hm1 hm2,rfl, ?_⟩
 rw [e1];rfl) : p:=h
theorem g9 {p : Prop} (h : p:=by
 refine ((hAt b o rfl).mono g1).append ?_
 rw [hx.1]
 exact g2) : p:=h
theorem hH {p : Prop} (h : p:=by
 refine iG ?_
 rw [pre,h10];rfl) : p:=h
theorem ia {p : Prop} (h : p:=by
 refine iG ?_
 rw [e6];rfl) : p:=h
end Go
