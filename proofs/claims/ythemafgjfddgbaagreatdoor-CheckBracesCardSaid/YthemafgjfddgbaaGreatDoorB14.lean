/-
  Part 14 of the proof: library, walks and plain laws.
-/
import Derived.Test.YthemafgjfddgbaaGreatDoorCards
import Derived.Test.YthemafgjfddgbaaGreatDoorTie
import Derived.Deep.DeepHandedRow
import Derived.Deep.DeepWitnessRowRef
import Derived.Stop.LaidErr
import Derived.SizedLaws
import Derived.ChangeSame
import Derived.RowKit3
import Derived.ProofKit
import Derived.OpenShut
import Derived.JoinedCond
import Derived.LaidLaws
import Derived.Test.YthemafgjfddgbaaGreatDoorB13
set_option linter.unusedVariables false
set_option linter.unusedSimpArgs false
set_option maxHeartbeats 6400000
namespace Go.Sep
open Go.Proofs Go.ChangeShapes Go.WideShapes Go.Proofs.YthemafgjfddgbaaGreatDoor
def memOf (W:World):Mem:=⟨W,fun b i=>W.cell? ⟨b,i,none⟩,fun _=>none,fun _=>none⟩
theorem St.start (W:World):St (memOf W) W [] where
 os:=rfl
 tape:=rfl
 output:=rfl
 size:=bF _
 pin:=fun _ _=>rfl
 c:=fun _ _ _ h=>h
 o:=fun _ _ h=>by cases h
 t:=fun _ _ h=>by cases h
 items:=fun _ h=>by cases h
 free:=fun _ h=>by cases h
 disj:=List.Pairwise.nil
theorem St.kept {W w':World} {m':Mem} {L':List Item} (h:St m' w' L') (hm:memOf W≤m'):W.keptBut w' (fun _=>False):=by
 have hp:m'.pin=W:=hm.pin;have hsz:=h.size;have hpin:=h.pin;rw[hp]at hsz hpin;refine⟨by rw[h.os,hp],by rw[h.output,hp],fun i hi=>?_⟩;rw[hpin i hi];split
 ·rename_i c t fr c' t' fr' h1 h2;rw[h1]at h2;simp only[bu,Obj.cells.injEq]at h2;obtain⟨rfl,rfl,rfl⟩:=h2;exact⟨rfl,rfl,rfl,fun _ _=>rfl⟩
 ·rename_i es c es' c' h1 h2;rw[h1]at h2;simp only[bu,Obj.map.injEq]at h2;obtain⟨rfl,rfl⟩:=h2;exact .inr ⟨rfl,rfl⟩
 ·rfl
end Go.Sep
namespace Go.Proofs.YthemafgjfddgbaaGreatDoor
open Go.ChangeShapes Go.WideShapes Go.ChangeAt Go.RowKit Go.Sep
open Go.ChangeMaps (open_string shut_string)
theorem own : ownKnob Tryz.prog.godebug=none:=uK
theorem cells227 : Tryz.prog.cellsOf 227=1:=uK
theorem cells9 : Tryz.prog.cellsOf 9=1:=uK
theorem star : "*" ++ "errors.errorString" = "*errors.errorString":=by decide
theorem row225 (u:TypeId) (h:Tryz.prog.typeName? 3 u=some "*errors.errorString"):u=225 :=
 typeName_ptr_named (nm := "errors.errorString") (by rw[star];kernel_rfl) uK mw u (by rw[star];exact h)
theorem gSyn : Tryz.prog.globalNamed "strconv.ErrSyntax" = some 1:=uK
theorem gSynT :(Tryz.prog.globals[1]?).map (·.type)=some 148:=uK
theorem gRng : Tryz.prog.globalNamed "strconv.ErrRange" = some 2:=uK
theorem gRngT :(Tryz.prog.globals[2]?).map (·.type)=some 148:=uK
def laidL : List (String×DataW Unit):=[("math/bits.deBruijn32tab",Rows.laid_math_bits_deBruijn32tab),("math/bits.deBruijn64tab",Rows.laid_math_bits_deBruijn64tab),("internal/strconv.uint64pow10",Rows.laid_internal_strconv_uint64pow10),("strconv.ErrRange",Rows.laid_strconv_ErrRange),("strconv.ErrSyntax",Rows.laid_strconv_ErrSyntax)]
theorem errs_of {W:World} (h:laidMetH Tryz.prog laidL W):Errs (memOf W):=by
 have hL:laidMet Tryz.prog laidL W:=h;obtain⟨a0,s0,hv0,-,-,-⟩:=laid_sentinel hL.tail.tail.tail gRng gRngT Tryz.underlying148 row225 Tryz.underlying225 Tryz.underlying227 rfl rfl Tryz.underlying9 cells227 cells9;obtain⟨a1,s1,hv1,-,-,-⟩:=laid_sentinel hL.tail.tail.tail.tail gSyn gSynT Tryz.underlying148 row225 Tryz.underlying225 Tryz.underlying227 rfl rfl Tryz.underlying9 cells227 cells9;have c0:W.cell? ⟨2,0,none⟩=some (.iface 225 (.pointer (some a0))):=by simpa using World.var?_cell gRng hv0 0
 have c1:W.cell? ⟨1,0,none⟩=some (.iface 225 (.pointer (some a1))):=by simpa using World.var?_cell gSyn hv1 0
 refine⟨⟨225,.pointer (some a1),fun j v hj=>?_⟩,⟨225,.pointer (some a0),fun j v hj=>?_⟩⟩
 ·cases j with
  | zero=>cases hj;exact c1
  | succ j=>simp at hj
 ·cases j with
  | zero=>cases hj;exact c0
  | succ j=>simp at hj
abbrev synS : ByteArray:={ data:=#[105,110,118,97,108,105,100,32,115,121,110,116,97,120] }
abbrev rngS : ByteArray:={ data:=#[118,97,108,117,101,32,111,117,116,32,111,102,32,114,97,110,103,101] }
noncomputable def low : Nat:=(World.holding Tryz.prog default ⟨#[],#[],[]⟩).heap.size
noncomputable def laidWorld (os:Os):World :=
 let w0:=World.holding Tryz.prog os ⟨#[.cells #[.string synS] 227,.cells #[.string rngS] 227],#[],[]⟩
 let put (g:Nat) (vs:Array Value) (h:Array Obj):Array Obj:=h.modify g fun
   | .cells _ t frozen=>.cells vs t frozen
   | o=>o
 {w0 with heap:=put 5 #[.int .u8 0,.int .u8 1,.int .u8 56,.int .u8 2,.int .u8 57,.int .u8 49,.int .u8 28,.int .u8 3,.int .u8 61,.int .u8 58,.int .u8 42,.int .u8 50,.int .u8 38,.int .u8 29,.int .u8 17,.int .u8 4,.int .u8 62,.int .u8 47,.int .u8 59,.int .u8 36,.int .u8 45,.int .u8 43,.int .u8 51,.int .u8 22,.int .u8 53,.int .u8 39,.int .u8 33,.int .u8 30,.int .u8 24,.int .u8 18,.int .u8 12,.int .u8 5,.int .u8 63,.int .u8 55,.int .u8 48,.int .u8 27,.int .u8 60,.int .u8 41,.int .u8 37,.int .u8 16,.int .u8 46,.int .u8 35,.int .u8 44,.int .u8 21,.int .u8 52,.int .u8 32,.int .u8 23,.int .u8 11,.int .u8 54,.int .u8 26,.int .u8 40,.int .u8 15,.int .u8 34,.int .u8 20,.int .u8 31,.int .u8 10,.int .u8 25,.int .u8 14,.int .u8 19,.int .u8 9,.int .u8 13,.int .u8 8,.int .u8 7,.int .u8 6] (put 4 #[.int .u8 0,.int .u8 1,.int .u8 28,.int .u8 2,.int .u8 29,.int .u8 14,.int .u8 24,.int .u8 3,.int .u8 30,.int .u8 22,.int .u8 20,.int .u8 15,.int .u8 25,.int .u8 17,.int .u8 4,.int .u8 8,.int .u8 31,.int .u8 27,.int .u8 13,.int .u8 23,.int .u8 21,.int .u8 19,.int .u8 16,.int .u8 7,.int .u8 26,.int .u8 12,.int .u8 18,.int .u8 6,.int .u8 11,.int .u8 5,.int .u8 10,.int .u8 9] (put 3 #[.int .u64 1,.int .u64 10,.int .u64 100,.int .u64 1000,.int .u64 10000,.int .u64 100000,.int .u64 1000000,.int .u64 10000000,.int .u64 100000000,.int .u64 1000000000,.int .u64 10000000000,.int .u64 100000000000,.int .u64 1000000000000,.int .u64 10000000000000,.int .u64 100000000000000,.int .u64 1000000000000000,.int .u64 10000000000000000,.int .u64 100000000000000000,.int .u64 1000000000000000000,.int .u64 10000000000000000000] (put 2 #[.iface 225 (.pointer (some ⟨low+1,0,none⟩))] (put 1 #[.iface 225 (.pointer (some ⟨low,0,none⟩))] w0.heap)))) }
theorem laid_met (os:Os) (args:Array Value):laidMet Tryz.prog laidL ((laidWorld os).forCall (fun _ _=>0) ⟨#[],args,[]⟩).memory :=
 laidMet_of_run' 8 uK uK
theorem post_old {H:Type} {enc:TypeId×Value→H} {f:Func} {s:ChangeSpec} {apart fresh handsOn:Bool} {W W':World} {args:Array Value} {v:Value} {ds gs:List (DataW H)} {before pa pv:List MemPlace}
  (hW:DataW.Whole enc Tryz.prog f.params.toList s.vars apart W args.toList ds gs before)
  (hres:∀(b:Nat) (sp:Nat→Bool) (hd:Bool),DataW.TrodAll enc Tryz.prog W' b sp hd f.resultTypes.toList (v.resultList f.resultTypes.size) (s.fn H (ds++gs)).results [])
  (hargs:∀ sp:Nat→Bool,(∀ p∈before,sp p.block=true)→DataW.TrodAll enc Tryz.prog W' 0 sp true f.params.toList args.toList (s.fn H (ds++gs)).args pa)
  (hvars:∀ sp:Nat→Bool,(∀ p∈before,sp p.block=true)→DataW.TrodVars enc Tryz.prog W' sp s.vars (s.fn H (ds++gs)).vars pv)
  (hk:W.keptBut W' (fun _=>False)):s.post enc Tryz.prog f apart fresh handsOn false W args v W':=by
 have hold:∀ p∈before,(fun b=>decide (b<W.heap.size)) p.block=true:=fun p hp=>by simpa using hW.lt p hp
 exact⟨ds,gs,before,[],pa,pv,hW,hres _ _ _,hargs _ hold,hvars _ hold,World.keptBut_mono (fun _ hp=>hp.elim) hk,fun h=>by cases h⟩
end Go.Proofs.YthemafgjfddgbaaGreatDoor
namespace Go.Proofs.YthemafgjfddgbaaGreatDoor
open Go.ChangeShapes Go.WideShapes Go.ChangeAt Go.RowKit Go.Sep
open Go.ChangeMaps (open_string shut_string)
set_option maxRecDepth 100000 in
theorem lawSB {f:FuncId} {fn:Func} {s:ChangeSpec} (hvars:s.vars=[]) (hpar:fn.params = #[9,5]) (hres:fn.resultTypes = #[4])
  (hfn:∀(H:Type) (d e:DataW H),s.fn H [d,e] = { results:=[.lit (.bool true)],args:=[d,e] })
  (hT:∀(m:Mem) (L:List Sep.Item) (t:Str) (c:Nat),c<256→t.length≤140737488355328→Errs m→TCall Tryz.prog f ⟨[strV t,.int .u8 (c:Int)]⟩ m L (Made m L fun r _=>r = .bool true))
  {fresh handsOn:Bool} (H:Type) (enc:TypeId×Value→H) (W:World) (base:Nat) (args:Array Value) (ds gs:List (DataW H)) (before:List MemPlace)
  (hval:∀(j:Nat) t v,fn.params[j]? = some t→args[j]? = some v→Value.okWide Tryz.prog W .any base t v)
  (hW:DataW.Whole enc Tryz.prog fn.params.toList s.vars false W args.toList ds gs before) (hL:laidMetH Tryz.prog laidL W)
  (hsz:(DataW.weightsEach Tryz.prog (fn.params.toList++s.plain.varTypes Tryz.prog) (ds++gs)).all (·≤reachBytes)=true) :
  Calls Tryz.prog f args W fun e W'=>∃ v,e = .returned v∧s.post enc Tryz.prog fn false fresh handsOn false W args v W':=by
 have hW':=hW;obtain⟨p,q,hA0,hV,rfl,hfz,hnd⟩:=hW;rw[hvars]at hV;obtain⟨rfl,rfl⟩:=trodVars_none hV;rw[hpar]at hA0 hval hsz;obtain⟨v,v1,d,d1,p0,p1,rfl,rfl,rfl,h0,h1⟩:=trodAll_two hA0;obtain⟨t,rfl,rfl,rfl,hz⟩:=open_string Tryz.underlying9 (hval 0 9 v rfl rfl) h0;obtain⟨z,rfl,rfl,rfl,hy⟩:=open_int Tryz.underlying5 (hval 1 5 v1 rfl rfl) h1;obtain⟨c,hc,rfl⟩:∃ c:Nat,c<256∧z=(c:Int):=by
  have h1:=hy;have e1:IntKind.u8.min=0:=mw;have e2:IntKind.u8.max=255:=mw;simp only[Lit.wf,bj,bw,e1,e2]at h1;exact⟨z.toNat,by omega,by omega⟩
 have hz2:t.data.toList.length≤140737488355328:=by
  have h2:=List.all_eq_true.1 hsz t.data.toList.length (DataW.weights_mem_each (j:=0) (t:=9) (d:=.lit (.string t.data.toList)) rfl rfl _ (by simp[DataW.weights]));have h3:reachBytes≤140737488355328:=mw;have h4:t.data.toList.length≤reachBytes:=by simpa using h2
  omega
 simp only[ce]at hW';refine(hT (memOf W) [] t.data.toList c hc hz2 (errs_of hL) W (St.start W)).mono fun e W' hX=>?_;cases e with
 | returned r =>
  obtain⟨m',L',hst,hle,_,rfl⟩:=hX;refine⟨_,rfl,post_old (pa:=[]) (pv:=[]) hW' (fun _ _ _=>?_) (fun sp hsp=>?_) (fun _ _=>?_) (hst.kept hle)⟩
  ·rw[hres,show([.lit (.string t.data.toList),.lit (.int .u8 (c:Int))]++[]:List (DataW H))=[.lit (.string t.data.toList),.lit (.int .u8 (c:Int))] from rfl,hfn];exact trodAll_mk1 (shut_bool Tryz.underlying4 _)
  ·rw[hpar,show([.lit (.string t.data.toList),.lit (.int .u8 (c:Int))]++[]:List (DataW H))=[.lit (.string t.data.toList),.lit (.int .u8 (c:Int))] from rfl,hfn];exact trodAll_mk2 (shut_string Tryz.underlying9 hz) (shut_int Tryz.underlying5 hy)
  ·rw[hvars,show([.lit (.string t.data.toList),.lit (.int .u8 (c:Int))]++[]:List (DataW H))=[.lit (.string t.data.toList),.lit (.int .u8 (c:Int))] from rfl,hfn];rfl
 | panicked ch =>
  obtain⟨_,_,_,hf⟩:=hX;exact hf.elim
 | outgrown=>exact hX.elim
end Go.Proofs.YthemafgjfddgbaaGreatDoor
