/- TqJoin -/
import Derived.Shelf.Strings.OnBuilder
import Derived.Test.YtinmchaljlekgaaGreatDoorProg
import Derived.KernelRfl
import Derived.Test.YtinmchaljlekgaaGreatDoorB10
namespace Go.Proofs
open Go.Shelf
set_option linter.unusedVariables false
def Tryz.lays156_ren : Ren where
 f:=fun x=>match x with
  | 156=>49
  | 165=>90
  | 166=>91
  | 169=>70
  | 240=>131
  | 241=>132
  | 276=>164
  | 277=>165
  | n=>n
 t:=fun x=>match x with
  | 31=>72
  | 9=>9
  | 3=>3
  | 4=>4
  | 0=>0
  | 20=>20
  | 72=>64
  | 76=>114
  | 70=>61
  | 37=>62
  | 75=>113
  | 127=>137
  | 164=>159
  | 5=>5
  | 80=>100
  | n=>n
 g:=fun n=>n
theorem Tryz.lays156 : Lays.n156 Tryz.prog Tryz.lays156_ren where
 mixed:=rfl
 f156:=Tryz.func49.trans (congrArg some (by kernel_rfl))
 f165:=Tryz.func90.trans (congrArg some (by kernel_rfl))
 f166:=Tryz.func91.trans (congrArg some (by kernel_rfl))
 f169:=Tryz.func70.trans (congrArg some (by kernel_rfl))
 f240:=Tryz.func131.trans (congrArg some (by kernel_rfl))
 f241:=Tryz.func132.trans (congrArg some (by kernel_rfl))
 f276:=Tryz.func164.trans (congrArg some (by kernel_rfl))
 f277:=Tryz.func165.trans (congrArg some (by kernel_rfl))
 t0:=Tryz.underlying0
 a0:=Tryz.isAgg0
 z0:=Tryz.sizeOf0
 v0:=Tryz.zeroValue0
 t3:=Tryz.underlying3
 a3:=Tryz.isAgg3
 z3:=Tryz.sizeOf3
 v3:=Tryz.zeroValue3
 t4:=Tryz.underlying4
 a4:=Tryz.isAgg4
 z4:=Tryz.sizeOf4
 v4:=Tryz.zeroValue4
 t9:=Tryz.underlying9
 a9:=Tryz.isAgg9
 z9:=Tryz.sizeOf9
 v9:=Tryz.zeroValue9
 t20:=Tryz.underlying20
 a20:=Tryz.isAgg20
 z20:=Tryz.sizeOf20
 v20:=Tryz.zeroValue20
 t31:=Tryz.underlying72
 a31:=Tryz.isAgg72
 z31:=Tryz.sizeOf72
 v31:=Tryz.zeroValue72
 t37:=Tryz.underlying62
 a37:=Tryz.isAgg62
 z37:=Tryz.sizeOf62
 v37:=Tryz.zeroValue62
 t70:=Tryz.underlying61
 a70:=Tryz.isAgg61
 z70:=Tryz.sizeOf61
 v70:=Tryz.zeroValue61
 t72:=Tryz.underlying64
 a72:=Tryz.isAgg64
 z72:=Tryz.sizeOf64
 v72:=Tryz.zeroValue64
 t75:=Tryz.underlying113
 a75:=Tryz.isAgg113
 z75:=Tryz.sizeOf113
 v75:=Tryz.zeroValue113
 t76:=Tryz.underlying114
 a76:=Tryz.isAgg114
 z76:=Tryz.sizeOf114
 v76:=Tryz.zeroValue114
 t127:=Tryz.underlying137
 a127:=Tryz.isAgg137
 z127:=Tryz.sizeOf137
 v127:=Tryz.zeroValue137
 t164:=Tryz.underlying159
 a164:=Tryz.isAgg159
 z164:=Tryz.sizeOf159
 v164:=Tryz.zeroValue159
theorem Tryz.Builder_Extra_156 : Builder.Extra Tryz.prog Tryz.lays156_ren where
 sizeBuilder:=by kernel_rfl
 liesBuilder:=by kernel_rfl
 t5:=Tryz.underlying5
 a5:=Tryz.isAgg5
 z5:=Tryz.sizeOf5
 v5:=Tryz.zeroValue5
 infoByte:=by kernel_rfl
 cellsByte:=by kernel_rfl
 sizeByte:=by kernel_rfl
 neB5:=by decide
open Go.RowKit in
theorem Tryz.strings_Join (bk o c : Nat) (xs : List ByteArray) (sep : ByteArray) (w : World)
  (hcells : ∀ (j : Nat) x,xs[j]? = some x→w.cell? ⟨bk,o + j,none⟩ = some (.string x)) (hbk : bk < w.heap.size) (hN : xs.length ≤ 140737488355328) (hcap : xs.length ≤ c)
  (hlen : (Lib.join (xs.map (·.data.toList)) sep.data.toList).length ≤ 140737488355328) :
  Calls Tryz.prog 49 #[.slice (some ⟨bk,o,none⟩) xs.length c, .string sep] w fun e w'=>e = .returned (.string ⟨(Lib.join (xs.map (·.data.toList)) sep.data.toList).toArray⟩)∧Below w.heap.size w w':=Any.strings_Join Tryz.lays156 Tryz.Builder_Extra_156 bk o c xs sep w hcells hbk hN hcap hlen
open Go.RowKit in
theorem Tryz.strings_Join_none (a : Option Addr) (c : Nat) (sep : ByteArray) (w : World) :
  Calls Tryz.prog 49 #[.slice a 0 c, .string sep] w fun e w'=>e = .returned (.string ⟨#[]⟩)∧w' = w:=Any.strings_Join_none Tryz.lays156 Tryz.Builder_Extra_156 a c sep w
end Go.Proofs


/- TqShow -/
set_option linter.unusedVariables false
set_option linter.unusedSimpArgs false
namespace Go.Sep
open Go.Proofs
attribute [local irreducible] TC TO OT TCallX TCall DO DOt thenQ blockQ retQ At
open Go.Proofs Go.RowKit
theorem St.below4 {m : Mem} {w w' : World} {L : List Item} (h : St m w L) (hb : Below w.heap.size w w') : St m w' L:=by
 have hc : ∀ (b i : Nat) (v : Value),w.cell? ⟨b,i,none⟩ = some v→w'.cell? ⟨b,i,none⟩ = some v∧w'.frozen? ⟨b,i,none⟩ = w.frozen? ⟨b,i,none⟩:=fun b i v hv=>by
  have hlt:=World.block_lt_of_cell? _ _ hv
  have e:=hb.block b hlt
  exact ⟨by rw [World.cell?_of_block e];exact hv,World.frozen?_of_block e⟩
 refine ⟨hb.os.trans h.os,hb.tape.trans h.tape,hb.output.trans h.output,Nat.le_trans h.size hb.size,fun b hlt=>(hb.block b (Nat.lt_of_lt_of_le hlt h.size)).trans (h.pin b hlt),fun b i v hv=>(hc b i v (h.c b i v hv)).1,fun b x hx => ?_,fun b x hx => ?_,fun x hx => ?_,h.free,h.disj⟩
 ·obtain ⟨h1,h2⟩:=h.o b x hx
  have hlt : b < w.heap.size:=(Array.getElem?_eq_some_iff.1 h1).1
  exact ⟨(hb.block b hlt).trans h1,h2⟩
 ·obtain ⟨arr,fr,h1,h2⟩:=h.t b x hx
  have hlt : b < w.heap.size:=(Array.getElem?_eq_some_iff.1 h1).1
  exact ⟨arr,fr,(hb.block b hlt).trans h1,h2⟩
 ·have hi:=h.items x hx
  have hc2 : ∀ (b i : Nat) (v : Value),w.cell? ⟨b,i,none⟩ = some v→w'.cell? ⟨b,i,none⟩ = some v ∧ ∀ j,w'.frozen? ⟨b,j,none⟩ = w.frozen? ⟨b,j,none⟩:=fun b i v hv=>by
   have e:=hb.block b (World.block_lt_of_cell? _ _ hv)
   exact ⟨by rw [World.cell?_of_block e];exact hv,fun j=>World.frozen?_of_block e⟩
  cases x with
  | cells b off vs =>
   intro j v hj
   obtain ⟨h1,h2⟩:=hi j v hj
   obtain ⟨h3,h4⟩:=hc2 _ _ _ h1
   exact ⟨h3,fun i=>(h4 i).trans (h2 i)⟩
  | room b off n =>
   intro j hj
   obtain ⟨v,h1,h2⟩:=hi j hj
   obtain ⟨h3,h4⟩:=hc2 _ _ _ h1
   exact ⟨v,h3,fun i=>(h4 i).trans (h2 i)⟩
  | obj b o =>
   obtain ⟨h1,h2⟩:=hi
   have hlt : b < w.heap.size:=(Array.getElem?_eq_some_iff.1 h1).1
   exact ⟨(hb.block b hlt).trans h1,h2⟩
theorem all2_eq {m : Mem} : ∀ {hs l : List Str},All2 (rStr.rep m) hs l→hs=l
 | [],[],_=>rfl
 | h :: hs,a :: l,hh=>by rw [show h=a from hh.1,all2_eq hh.2]
 | [],_ :: _,hh=>hh.elim
 | _ :: _,[],hh=>hh.elim
theorem encs_str : ∀ xs : List Str,encs rStr xs=xs.map strV
 | []=>rfl
 | x :: xs=>by rw [List.map_cons,← encs_str xs];rfl
theorem tjoin_law (m : Mem) (L : List Item) (s : Sl) (xs : List Str) (hs : SlRep rStr m s xs) (sep : Str) (hlen : (joinS xs sep).length ≤ 140737488355328) :
  TCall Tryz.prog 49 ⟨[s.v,strV sep]⟩ m L (Ret (strV (joinS xs sep)) m L):=by
 unfold TCall TCallX
 intro w hw
 obtain ⟨hs',h1,h2⟩:=hs.cells
 have hl:=hs.len
 have hsm:=hs.small rfl
 have hcap:=hs.cap
 rcases h2 with ⟨h0,_⟩ | ⟨b,o,ha,hA⟩
 ·obtain ⟨a,n,c⟩:=s
  subst h0
  obtain rfl : n=0:=hl
  refine (Tryz.strings_Join_none a c ⟨⟨sep⟩⟩ w).mono fun e w' ⟨he,hww⟩ => ?_
  subst he;subst hww
  exact ⟨m,L,hw,rfl,rfl,rfl⟩
 ·by_cases hx0 : xs=[]
  ·obtain ⟨a,n,c⟩:=s
   subst hx0
   obtain rfl : n=0:=hl
   refine (Tryz.strings_Join_none a c ⟨⟨sep⟩⟩ w).mono fun e w' ⟨he,hww⟩ => ?_
   subst he;subst hww
   exact ⟨m,L,hw,rfl,rfl,rfl⟩
  have hxs : hs' = xs:=all2_eq h1
  subst hxs
  obtain ⟨a,n,c⟩:=s
  simp only at ha hl hcap
  subst ha
  have hmm : (hs'.map fun s=>(⟨⟨s⟩⟩ : ByteArray)).map (fun x=>x.data.toList)=hs':=by rw [List.map_map];exact List.map_id _
  have hcells : ∀ (j : Nat) (x : ByteArray),(hs'.map fun s=>(⟨⟨s⟩⟩ : ByteArray))[j]? = some x→w.cell? ⟨b,o + j,none⟩ = some (.string x):=fun j x hj=>by
   rw [List.getElem?_map] at hj
   cases hq : hs'[j]? with
   | none=>rw [hq] at hj;cases hj
   | some y =>
    rw [hq] at hj
    simp only [Option.map_some,Option.some.injEq] at hj
    subst hj
    exact hw.at_cells hA j _ (by rw [encs_str,List.getElem?_map,hq];rfl)
  have hlt : b < w.heap.size:=by
   have hpos : 0 < hs'.length:=List.length_pos_iff.2 hx0
   have h3:=hcells 0 ⟨⟨hs'[0]⟩⟩ (by rw [List.getElem?_map,List.getElem?_eq_getElem hpos];rfl)
   exact World.block_lt_of_cell? _ _ h3
  have hJ:=Tryz.strings_Join b o c (hs'.map fun s=>(⟨⟨s⟩⟩ : ByteArray)) ⟨⟨sep⟩⟩ w hcells hlt (by rw [List.length_map];omega) (by rw [List.length_map];omega) (by rw [hmm];exact hlen)
  rw [List.length_map,← hl,hmm] at hJ
  refine hJ.mono fun e w' ⟨he,hww⟩ => ?_
  subst he
  exact ⟨m,L,hw.below4 hww,rfl,rfl,rfl⟩
theorem headD_show {l : List Tree} (h : 0 < l.length) : (l.map Tree.show).headD []=l[0].show:=by
 cases l with
 | nil=>cases h
 | cons x r=>rfl
theorem map_take_drop (l : List Tree) (k : Nat) : (l.take k).map Tree.show=(l.map Tree.show).take k∧(l.drop k).map Tree.show=(l.map Tree.show).drop k:=by
 exact ⟨List.map_take ..,List.map_drop ..⟩
set_option maxHeartbeats 6400000 in
theorem show_law (a : Tree) : ∀ (hf : a.formed=true) (m : Mem) (L : List Item) (h : HTree) (hr : TreeRep m h a) (hB : a.bulk ≤ 16777216),TCall Tryz.prog 24 ⟨[treeV h]⟩ m L (Ret (strV a.show) m L):=by
 induction a using Tree.ind with
 | h a ih =>
 intro hf m L h hr hB
 obtain ⟨h1,h2,h3,h4⟩:=hr
 have hl:=h4.len
 have hsm:=h4.small rfl
 obtain ⟨hkf,hkinds⟩:=formed_kinds hf
 have hsl:=showL_len a.kids
 have hkb : bulkL a.kids < a.bulk:=by obtain ⟨_,_,_,ks⟩:=a;simp only [Tree.bulk,Tree.kids];omega
 rw [showL_eq] at hsl
 obtain ⟨q,n,u,s⟩:=h
 simp only at h1 h2 h3 h4 hl
 rw [show_eq]
 refine TCall.forget ?_
 unfold TCall
 refine TCallX.enter Tryz.func24 rfl 81 rfl ?_
 rcases hkinds with hA | ⟨hC,hlen⟩ | ⟨hD,hn0,hn1⟩
 ·rcases hA with hA | hA | hA | hA | hA
  ·obtain rfl : q=1:=h1.trans hA
   rw [if_pos hA]
   refine uA ?_
   refine TO.step rfl (OT.box rfl rfl rfl rfl rfl (fun b => ?_))
   refine uL ?_
   exact retQ_ret rfl uS ⟨Mem.le_refl _,rfl,rfl⟩
  ·obtain rfl : q=2:=h1.trans hA
   rw [if_neg (by omega),if_pos hA]
   refine uA ?_
   refine TO.step rfl (OT.box rfl rfl rfl rfl rfl (fun b => ?_))
   refine uL ?_
   exact retQ_ret rfl uS ⟨Mem.le_refl _,rfl,rfl⟩
  ·obtain rfl : q=3:=h1.trans hA
   rw [if_neg (by omega),if_neg (by omega),if_pos hA]
   refine uA ?_
   refine TO.step rfl (OT.box rfl rfl rfl rfl rfl (fun b => ?_))
   refine uL ?_
   exact retQ_ret rfl uS ⟨Mem.le_refl _,rfl,rfl⟩
  ·obtain rfl : q=8:=h1.trans hA
   rw [if_neg (by omega),if_neg (by omega),if_neg (by omega),if_pos hA]
   refine uA ?_
   refine TO.step rfl (OT.box rfl rfl rfl rfl rfl (fun b => ?_))
   refine uL ?_
   exact retQ_ret rfl uS ⟨Mem.le_refl _,rfl,rfl⟩
  ·obtain rfl : q=4:=h1.trans hA
   rw [if_neg (by omega),if_neg (by omega),if_neg (by omega),if_neg (by omega),if_pos hA,← h2]
   refine uA ?_
   refine TO.step rfl (OT.box rfl rfl rfl rfl rfl (fun b => ?_))
   refine uL ?_
   exact retQ_ret rfl uS ⟨Mem.le_refl _,rfl,rfl⟩
 ·have hlt : 0 < a.kids.length:=by omega
  have hx : a.kids[0]? = some a.kids[0]:=by simp [hlt]
  have hmem:=List.getElem_mem hlt
  have hhd : (a.kids.map Tree.show).headD []=a.kids[0].show:=headD_show hlt
  have hkl:=show_len a.kids[0]
  have hkk:=bulk_kid hmem
  rw [hhd,if_neg (by omega),if_neg (by omega),if_neg (by omega),if_neg (by omega),if_neg (by omega)]
  rcases hC with hC | hC
  ·obtain rfl : q=5:=h1.trans hC
   rw [if_pos hC]
   refine uA ?_
   refine TO.step rfl (OT.box rfl rfl rfl rfl rfl (fun b => ?_))
   refine uL ?_
   refine TO.step rfl (OT.index tab rTree 0 h4 rfl rfl rfl rfl rfl (by first | rfl | omega | (simp only;omega)) rfl hx ?_)
   rintro b' i' h' hrd hA
   (refine TO.step rfl (OT.loadA0 tab hA rfl rfl rfl rfl rfl ?_))
   refine uA ?_
   refine TO.step rfl (OT.call rfl rfl rfl rfl rfl rfl goes24 ((ih _ hmem (hkf _ hmem) _ _ h' (rTree_iff.1 hrd) (Nat.le_trans (Nat.le_of_lt hkk) hB)).x ?_));
   rintro _ _ _ ⟨rfl,rfl,rfl⟩
   refine TO.step rfl (OT.concat rfl rfl rfl rfl rfl (by simp only [List.length_cons,List.length_nil];omega) ?_)
   refine uA ?_
   exact retQ_ret rfl uS ⟨Mem.le_refl _,rfl,rfl⟩
  ·obtain rfl : q=6:=h1.trans hC
   rw [if_neg (by omega),if_pos hC]
   refine uA ?_
   refine TO.step rfl (OT.box rfl rfl rfl rfl rfl (fun b => ?_))
   refine uL ?_
   refine TO.step rfl (OT.index tab rTree 0 h4 rfl rfl rfl rfl rfl (by first | rfl | omega | (simp only;omega)) rfl hx ?_)
   rintro b' i' h' hrd hA
   (refine TO.step rfl (OT.loadA0 tab hA rfl rfl rfl rfl rfl ?_))
   refine uA ?_
   refine TO.step rfl (OT.call rfl rfl rfl rfl rfl rfl goes24 ((ih _ hmem (hkf _ hmem) _ _ h' (rTree_iff.1 hrd) (Nat.le_trans (Nat.le_of_lt hkk) hB)).x ?_));
   rintro _ _ _ ⟨rfl,rfl,rfl⟩
   refine TO.step rfl (OT.concat rfl rfl rfl rfl rfl (by simp only [List.length_cons,List.length_nil];omega) ?_)
   refine uA ?_
   exact retQ_ret rfl uS ⟨Mem.le_refl _,rfl,rfl⟩
 ·obtain rfl : q=7:=h1.trans hD
  rw [if_neg (by omega),if_neg (by omega),if_neg (by omega),if_neg (by omega),if_neg (by omega),if_neg (by omega),if_neg (by omega)]
  have hnum : u=((a.num.toNat : Nat) : Int):=by omega
  have hnl : a.num.toNat ≤ a.kids.length:=by omega
  obtain ⟨mt,md⟩:=map_take_drop a.kids a.num.toNat
  have htd:=lens_append ((a.kids.map Tree.show).take a.num.toNat) ((a.kids.map Tree.show).drop a.num.toNat)
  rw [List.take_append_drop] at htd
  have hj1:=joinS_le ((a.kids.map Tree.show).take a.num.toNat)
  have hj2:=joinS_le ((a.kids.map Tree.show).drop a.num.toNat)
  rw [List.length_take,List.length_map] at hj1
  rw [List.length_drop,List.length_map] at hj2
  refine uA ?_
  refine TO.step rfl (OT.box rfl rfl rfl rfl rfl (fun b => ?_))
  refine uL ?_
  refine TC.grow0 (size:=1) ?_
  refine TC.loopK (ι:=Grow) [1,39,40] rfl (fun g=>[(3,g.s.v),(41, .int .i64 (g.k : Int))]) (fun g=>g.m) (fun g=>tok g.s 1 :: .cells b 0 (treeC ⟨7,n,u,s⟩) :: L) (fun g=>g.k ≤ a.kids.length∧SlRep rStr g.m g.s ((a.kids.map Tree.show).take g.k)∧Own g.s∧m ≤ g.m) (fun g=>a.kids.length - g.k) ⟨0,⟨none,0,0⟩,m⟩ uH rfl uS ⟨Nat.zero_le _,SlRep.nil _ _,Own.nil,Mem.le_refl _⟩ ?_
  rintro ⟨k,t,m1⟩ ⟨hk,ht,hown,hm1⟩
  simp only at hk ht hown hm1 ⊢
  have h41:=h4.mono hm1
  refine uA ?_
  refine TC.condP rfl (fun hlt' => ?_) (fun hlt' => ?_)
  ·have hlt : k < a.kids.length:=by omega
   have hx : a.kids[k]? = some a.kids[k]:=by simp [hlt]
   have hmem:=List.getElem_mem hlt
   refine uA ?_
   refine TO.step rfl (OT.index tab rTree k h41 rfl rfl rfl rfl rfl (by first | rfl | omega | (simp only;omega)) rfl hx ?_)
   rintro b' i' h' hrd hA
   (refine TO.step rfl (OT.loadA0 tab hA rfl rfl rfl rfl rfl ?_))
   refine uA ?_
   refine TO.step rfl (OT.alloc tab rfl rfl rfl rfl (fun b5 => ?_))
   refine uA ?_
   refine uT ?_
   refine uL ?_
   refine TO.step rfl (OT.call rfl rfl rfl rfl rfl rfl goes24 ((ih _ hmem (hkf _ hmem) _ _ h' (rTree_iff.1 hrd) (Nat.le_trans (Nat.le_of_lt (bulk_kid hmem)) hB)).x ?_));
   rintro _ _ _ ⟨rfl,rfl,rfl⟩
   refine TO.step rfl (OT.lit tab rfl rfl rfl rfl (fun bl => ?_))
   refine TO.step rfl (OT.append1 tab rStr 1 (hd':=a.kids[k].show) (a:=a.kids[k].show) ht hown rfl rfl rfl rfl rfl rfl rfl rfl (by simp only [rStr,List.length_take,List.length_map];omega) (fun t' m3 hm3 ht' hown' => ?_))
   refine uA ?_
   refine TO.step rfl (OT.arith (r':=((k + 1 : Nat) : Int)) rfl rfl rfl rfl rfl rfl rfl (by omega) ?_)
   refine uA ?_
   refine ⟨⟨k + 1,t',m3⟩,uH,uH,rfl,rfl,uS,⟨by simp only;omega, ?_,hown',Mem.le_trans hm1 hm3⟩,by simp only;omega⟩
   simp only
   rw [List.take_succ_eq_append_getElem (by rw [List.length_map];exact hlt),List.getElem_map]
   exact ht'
  rw [List.take_of_length_le (by rw [List.length_map];omega)] at ht
  have htl:=ht.len
  rw [List.length_map] at htl
  refine uL ?_
  refine TO.step rfl (OT.cut tab rStr 0 a.num.toNat ht rfl rfl rfl rfl rfl rfl rfl (.inl ⟨rfl,rfl⟩) (.inr (by rw [← hnum])) (Nat.zero_le _) (by rw [List.length_map];exact hnl) (fun s1 hs1 => ?_))
  rw [List.drop_zero] at hs1
  refine uA ?_
  refine TO.step rfl (OT.call rfl rfl rfl rfl rfl rfl goes49 ((tjoin_law _ _ s1 _ hs1 commaS (by omega)).x ?_));
  rintro _ _ _ ⟨rfl,rfl,rfl⟩
  refine TO.step rfl (OT.concat rfl rfl rfl rfl rfl (by simp only [List.length_cons,List.length_nil];omega) ?_)
  refine TO.step rfl (OT.concat rfl rfl rfl rfl rfl (by simp only [List.length_append,List.length_cons,List.length_nil];omega) ?_)
  refine uL ?_
  refine TO.step rfl (OT.cut tab rStr a.num.toNat t.len ht rfl rfl rfl rfl rfl rfl rfl (.inr (by rw [← hnum])) (.inl ⟨rfl,rfl⟩) (by omega) (by rw [List.length_map];omega) (fun s2 hs2 => ?_))
  rw [List.take_of_length_le (by rw [List.length_map];omega)] at hs2
  have hdl : ((a.kids.map Tree.show).drop a.num.toNat).length=a.kids.length - a.num.toNat:=by rw [List.length_drop,List.length_map]
  have hs2l:=hs2.len
  rw [hdl] at hs2l
  refine uA ?_
  refine TC.condP rfl (fun e0 => ?_) (fun e0 => ?_)
  ·refine uL ?_
   refine retQ_ret rfl uS ⟨hm1,rfl, ?_⟩
   unfold restS
   rw [if_pos (by omega),List.append_nil]
  refine uA ?_
  refine TC.condP rfl (fun e1 => ?_) (fun e1 => ?_)
  ·have hlt : a.num.toNat < a.kids.length:=by omega
   have hmem:=List.getElem_mem hlt
   have hkl:=show_len a.kids[a.num.toNat]
   have hkk:=bulk_kid hmem
   have hdr : (a.kids.map Tree.show).drop a.num.toNat=a.kids[a.num.toNat].show :: (a.kids.map Tree.show).drop (a.num.toNat + 1):=by
    rw [List.drop_eq_getElem_cons (by rw [List.length_map];exact hlt),List.getElem_map]
   have hrest : restS ((a.kids.map Tree.show).drop a.num.toNat)=[32]++a.kids[a.num.toNat].show:=by
    unfold restS
    rw [if_neg (by omega),if_pos (by omega),hdr,List.headD_cons]
   have hx : ((a.kids.map Tree.show).drop a.num.toNat)[0]? = some a.kids[a.num.toNat].show:=by rw [hdr];rfl
   refine uA ?_
   refine TO.step rfl (OT.concat rfl rfl rfl rfl rfl (by simp only [List.length_append,List.length_cons,List.length_nil];omega) ?_)
   refine uA ?_
   refine TO.step rfl (OT.index tab rStr 0 hs2 rfl rfl rfl rfl rfl rfl rfl hx ?_)
   rintro b' i' s' hs' hA
   obtain rfl : s' = _:=hs'
   (refine TO.step rfl (OT.loadA0 tab hA rfl rfl rfl rfl rfl ?_))
   refine uA ?_
   refine TO.step rfl (OT.concat rfl rfl rfl rfl rfl (by simp only [List.length_append,List.length_cons,List.length_nil];omega) ?_)
   refine uA ?_
   refine retQ_ret rfl uS ⟨hm1,rfl, ?_⟩
   rw [hrest]
   simp only [List.append_assoc]
  ·have hrest : restS ((a.kids.map Tree.show).drop a.num.toNat)=[32,40]++joinS ((a.kids.map Tree.show).drop a.num.toNat) commaS++[41]:=by
    unfold restS
    rw [if_neg (by omega),if_neg (by omega)]
   refine uA ?_
   refine TO.step rfl (OT.concat rfl rfl rfl rfl rfl (by simp only [List.length_append,List.length_cons,List.length_nil];omega) ?_)
   refine uA ?_
   refine TO.step rfl (OT.call rfl rfl rfl rfl rfl rfl goes49 ((tjoin_law _ _ s2 _ hs2 commaS (by omega)).x ?_));
   rintro _ _ _ ⟨rfl,rfl,rfl⟩
   refine TO.step rfl (OT.concat rfl rfl rfl rfl rfl (by simp only [List.length_append,List.length_cons,List.length_nil];omega) ?_)
   refine TO.step rfl (OT.concat rfl rfl rfl rfl rfl (by simp only [List.length_append,List.length_cons,List.length_nil];omega) ?_)
   refine uA ?_
   refine retQ_ret rfl uS ⟨hm1,rfl, ?_⟩
   rw [hrest]
   simp only [List.append_assoc]
def textS (a : Tree) : Str:=if a.sound=true then a.show else []
theorem formed_bulk (a : Tree) : a.formed=true→a.bulk ≤ 65 * a.size:=by
 induction a using Tree.ind with
 | h a ih =>
 intro hf
 obtain ⟨hkf, -⟩:=formed_kinds hf
 have hf2:=hf
 rw [formed_eq,Bool.and_eq_true,Bool.and_eq_true] at hf2
 have hn : a.name.length ≤ 64:=by
  by_cases h4 : a.kind=4
  ·have f3:=hf2.2.2
   unfold kindB at f3
   rw [if_neg (by omega),if_pos h4] at f3
   simp only [Bool.and_eq_true,decide_eq_true_eq] at f3
   have:=f3.2.1
   unfold isName at this
   simp only [Bool.and_eq_true,decide_eq_true_eq] at this
   exact this.2.1
  ·have f2:=hf2.2.1
   unfold headB at f2
   simp only [Bool.and_eq_true,Bool.or_eq_true,decide_eq_true_eq] at f2
   rw [f2.1.resolve_left h4];simp
 have hk : ∀ l : List Tree,(∀ t ∈ l,t.bulk ≤ 65 * t.size)→bulkL l ≤ 65 * sizeL l:=by
  intro l
  induction l with
  | nil=>intro _;simp [bulkL,sizeL]
  | cons t l ihl =>
   intro hl
   have h1:=hl t (by simp)
   have h2:=ihl fun x hx=>hl x (by simp [hx])
   simp only [bulkL,sizeL];omega
 have:=hk a.kids fun t ht=>ih t ht (hkf t ht)
 obtain ⟨k,n,u,ks⟩:=a
 simp only [Tree.name,Tree.kids] at hn this
 simp only [Tree.bulk,Tree.size];omega
theorem sound_bulk {a : Tree} (h : a.sound=true) : a.bulk ≤ 16777216:=by
 unfold Tree.sound at h
 rw [Bool.and_eq_true,decide_eq_true_eq] at h
 have:=formed_bulk a h.2
 omega
theorem sound_formed {a : Tree} (h : a.sound=true) : a.formed=true:=by
 unfold Tree.sound at h
 rw [Bool.and_eq_true] at h
 exact h.2
attribute [local irreducible] Tree.sound
set_option maxHeartbeats 800000 in
theorem ttext_law (a : Tree) (m : Mem) (L : List Item) (h : HTree) (hr : TreeRep m h a) (hB : a.wide ≤ 140737488355328) : TCall Tryz.prog 9 ⟨[treeV h]⟩ m L (Ret (strV (textS a)) m L):=by
 unfold TCall
 refine TCallX.enter Tryz.func9 rfl 8 rfl ?_
 refine uA ?_
 refine TO.step rfl (OT.box rfl rfl rfl rfl rfl (fun b => ?_))
 refine uL ?_
 refine TO.step rfl (OT.call rfl rfl rfl rfl rfl rfl goes23 ((isSound_law a _ _ h hr hB).x ?_));
 rintro _ _ _ ⟨rfl,rfl,rfl⟩
 refine uA ?_
 refine TC.cond (t := !a.sound) rfl (fun e1 => ?_) (fun e1 => ?_)
 ·rw [Bool.not_eq_true'] at e1
  refine uA ?_
  refine retQ_ret rfl uS ⟨rfl,rfl, ?_⟩
  rw [textS,e1];rfl
 ·rw [Bool.not_eq_false'] at e1
  refine uL ?_
  refine TO.step rfl (OT.call rfl rfl rfl rfl rfl rfl goes24 ((show_law a (sound_formed e1) _ _ h hr (sound_bulk e1)).x ?_));
  rintro _ _ _ ⟨rfl,rfl,rfl⟩
  refine uA ?_
  refine retQ_ret rfl uS ⟨rfl,rfl, ?_⟩
  rw [textS,e1];rfl
end Go.Sep


/- TqNil -/
set_option linter.unusedVariables false
set_option linter.unusedSimpArgs false
namespace Go.Sep
open Go.Proofs
attribute [local irreducible] TC TO OT TCallX TCall DO DOt thenQ blockQ retQ At
set_option maxHeartbeats 400000 in
theorem indexFunc_type (m : Mem) (L : List Item) (s : Sl) (l : List Tree) (p : Tree→Bool) (fn : FuncId) (cap : List Value) (hg : Goes Tryz.prog fn) (hs : SlRep rTree m s l)
  (hp : ∀ (h : HTree) (a : Tree),a ∈ l→rTree.rep m h a→TCall Tryz.prog fn ⟨treeV h :: cap⟩ m L (Ret (.bool (p a)) m L)) :
  TCall Tryz.prog 133 ⟨[s.v, .func (.func fn) ⟨[]⟩ ⟨cap⟩]⟩ m L (Ret (.int .i64 (idxP l p 0)) m L):=by
 unfold TCall
 refine TCallX.enter Tryz.func133 rfl 19 rfl ?_
 refine uA ?_
 refine TC.loopK (ι:=Nat) [0,1,7] rfl (fun k=>[(8, .int .i64 (k : Int))]) (fun _=>m) (fun _=>L) (fun k=>k ≤ l.length∧idxP l p 0=idxP (l.drop k) p k) (fun k=>l.length - k) 0 uH rfl uS ⟨Nat.zero_le _,rfl⟩ ?_
 rintro k ⟨hk,hI⟩
 have hl:=hs.len
 have hsm:=hs.small rfl
 refine uA ?_
 refine TC.condP rfl (fun h => ?_) (fun h => ?_)
 ·have hlt : k < l.length:=by omega
  have hx : l[k]? = some l[k]:=by simp [hlt]
  refine uA ?_
  refine TO.step rfl (OT.index tab rTree k hs rfl rfl rfl rfl rfl (by first | rfl | omega | (simp only;omega)) rfl hx ?_)
  rintro b i hd hr hA
  (refine TO.step rfl (OT.loadA0 tab hA rfl rfl rfl rfl rfl ?_))
  refine uA ?_
  refine TO.step rfl (OT.call (all:=treeV hd :: cap) rfl rfl rfl rfl rfl (by rw [fl_eq];rfl) hg ((hp hd l[k] (List.getElem_mem hlt) hr).x ?_))
  rintro _ _ _ ⟨rfl,rfl,rfl⟩
  refine uA ?_
  refine TC.cond rfl (fun h => ?_) (fun h => ?_)
  ·refine uA ?_
   refine retQ_ret rfl uS ⟨rfl,rfl, ?_⟩
   rw [hI,List.drop_eq_getElem_cons hlt,idxP,if_pos h]
  ·refine uA ?_
   refine TO.step rfl (OT.arith (r':=((k + 1 : Nat) : Int)) rfl rfl rfl rfl rfl rfl rfl (by omega) ?_)
   refine uA ?_
   exact ⟨k + 1,uH,uH,rfl,rfl,uS,⟨by omega,by rw [hI,List.drop_eq_getElem_cons hlt,idxP,if_neg (by simp [h])]⟩,by omega⟩
 ·refine uA ?_
  refine retQ_ret rfl uS ⟨rfl,rfl, ?_⟩
  rw [hI,List.drop_eq_nil_of_le (by omega)]
  rfl
set_option maxHeartbeats 400000 in
theorem containsFunc_type (m : Mem) (L : List Item) (s : Sl) (l : List Tree) (p : Tree→Bool) (fn : FuncId) (cap : List Value) (hg : Goes Tryz.prog fn) (hs : SlRep rTree m s l)
  (hp : ∀ (h : HTree) (a : Tree),a ∈ l→rTree.rep m h a→TCall Tryz.prog fn ⟨treeV h :: cap⟩ m L (Ret (.bool (p a)) m L)) :
  TCall Tryz.prog 93 ⟨[s.v, .func (.func fn) ⟨[]⟩ ⟨cap⟩]⟩ m L (Ret (.bool (l.any p)) m L):=by
 unfold TCall
 refine TCallX.enter Tryz.func93 rfl 9 rfl ?_
 refine uA ?_
 refine TO.step rfl (OT.call rfl rfl rfl rfl rfl rfl goes133 ((indexFunc_type m L s l p fn cap hg hs hp).x ?_));
 rintro _ _ _ ⟨rfl,rfl,rfl⟩
 refine uA ?_
 refine retQ_ret rfl uS ⟨rfl,rfl, ?_⟩
 rw [idxP_ge]
open Go.Proofs Go.RowKit
theorem newTable_nil (m : Mem) (L : List Item) : TCall Tryz.prog 56 ⟨[.slice none 0 0]⟩ m L (Made m L fun r m' => ∃ b,r = .map (some b)∧m'.o b=some (mapO kStr [] 0)):=by
 unfold TCall
 refine TCallX.enter Tryz.func56 rfl 19 rfl ?_
 refine uA ?_
 refine TO.step rfl (OT.makeMap kStr rfl rfl rfl (fun b => ?_))
 refine TO.freezeO fun m1 hm1 ho => ?_
 refine uA ?_
 refine TC.loopK (ι:=Unit) [3,8] rfl (fun _=>[(9, .int .i64 0)]) (fun _=>m1) (fun _=>L) (fun _=>True) (fun _=>0) () uH rfl uS trivial ?_
 rintro _ _
 refine uA ?_
 exact retQ_ret rfl uS ⟨hm1,rfl,b,rfl,ho⟩
set_option maxHeartbeats 1600000 in
theorem sound_nil (m : Mem) (L : List Item) : TCall Tryz.prog 27 ⟨[.slice none 0 0]⟩ m L (Ret (.int .i64 0) m L):=by
 refine TCall.forget ?_
 unfold TCall
 refine TCallX.enter Tryz.func27 rfl 166 rfl ?_
 refine uA ?_
 refine TC.loopK (ι:=Unit) [0,21] rfl (fun _=>[(22, .int .i64 0)]) (fun _=>m) (fun _=>L) (fun _=>True) (fun _=>0) () uH rfl uS trivial ?_
 rintro _ _
 refine uA ?_
 refine TC.loopK (ι:=Unit) [0,38] rfl (fun _=>[(39, .int .i64 0)]) (fun _=>m) (fun _=>L) (fun _=>True) (fun _=>0) () uH rfl uS trivial ?_
 rintro _ _
 refine uA ?_
 refine TO.step rfl (OT.call rfl rfl rfl rfl rfl rfl goes56 ((newTable_nil m L).x ?_));
 rintro _ m1 _ ⟨hm1,rfl,b,rfl,ho⟩
 refine uA ?_
 refine TO.step rfl (OT.mapLenP tab kStr rfl rfl rfl rfl rfl ho ?_)
 refine uA ?_
 refine TC.loopK (ι:=Unit) [0,114] rfl (fun _=>[(115, .int .i64 0)]) (fun _=>m1) (fun _=>L) (fun _=>True) (fun _=>0) () uH rfl uS trivial ?_
 rintro _ _
 refine uA ?_
 exact retQ_ret rfl uS ⟨hm1,rfl,rfl⟩
theorem not_sound (m : Mem) (L : List Item) (h : HTree) (a : Tree) (hr : TreeRep m h a) (hB : a.wide ≤ 140737488355328) : TCall Tryz.prog 94 ⟨[treeV h]⟩ m L (Ret (.bool (!a.sound)) m L):=by
 unfold TCall
 refine TCallX.enter Tryz.func94 rfl 6 rfl ?_
 refine uA ?_
 refine TO.step rfl (OT.box rfl rfl rfl rfl rfl (fun b => ?_))
 refine uL ?_
 refine TO.step rfl (OT.call rfl rfl rfl rfl rfl rfl goes23 ((isSound_law a _ _ h hr hB).x ?_));
 rintro _ _ _ ⟨rfl,rfl,rfl⟩
 refine uA ?_
 refine retQ_ret rfl uS ⟨rfl,rfl, ?_⟩
 rfl
set_option maxHeartbeats 800000 in
theorem open_nil (m : Mem) (L : List Item) (s : Sl) (l : List Tree) (hs : SlRep rTree m s l) (hB : ∀ a ∈ l,a.wide ≤ 140737488355328∧a.sound=true) : TCall Tryz.prog 51 ⟨[.slice none 0 0,s.v]⟩ m L (Made m L fun r m' => ∃ b,r = .map (some b)∧m'.o b=some (mapO kStr [] 0)):=by
 have hno : l.any (fun a => !a.sound)=false:=List.any_eq_false.2 fun a ha=>by rw [(hB a ha).2];simp
 unfold TCall
 refine TCallX.enter Tryz.func51 rfl 14 rfl ?_
 refine uA ?_
 refine TO.step rfl (OT.call rfl rfl rfl rfl rfl rfl goes27 ((sound_nil m L).x ?_));
 rintro _ _ _ ⟨rfl,rfl,rfl⟩
 refine uA ?_
 refine TO.step rfl (OT.call rfl rfl rfl rfl rfl rfl goes93 ((containsFunc_type m L s l (fun a => !a.sound) 94 [] goes94 hs (fun h a ha hr=>not_sound m L h a (rTree_iff.1 hr) (hB a ha).1)).x ?_));
 rintro _ _ _ ⟨rfl,rfl,rfl⟩
 rw [hno]
 refine uA ?_
 refine TO.step rfl (OT.call rfl rfl rfl rfl rfl rfl goes56 ((newTable_nil m L).x ?_));
 rintro _ m1 _ ⟨hm1,rfl,b,rfl,ho⟩
 refine uA ?_
 exact retQ_ret rfl uS ⟨hm1,rfl,b,rfl,ho⟩
open Go.Proofs Go.RowKit
structure HDecl where
 name : Str
 iface : Bool
 fields : Sl
 methods : Sl
@[reducible] def declV (h : HDecl) : Value := .agg ⟨[strV h.name, .bool h.iface,h.fields.v,h.methods.v]⟩
def declZ : HDecl:=⟨[],false,⟨none,0,0⟩,⟨none,0,0⟩⟩
def EntsOk (es : Ents Str) : Prop := ∀ x, ∃ h : HDecl,(mget es x).getD (declV declZ)=declV h
theorem EntsOk.nil : EntsOk []:=fun x=>⟨declZ,rfl⟩
mutual
def tknown (has : Str→Bool) : Tree→Bool
 | .mk k n u ks=>(!decide (k=4) || has n) && (!decide (k=8) && tknownL has ks)
def tknownL (has : Str→Bool) : List Tree→Bool
 | []=>true
 | t :: ts=>tknown has t && tknownL has ts
end
theorem tknown_eq (has : Str→Bool) (a : Tree) : tknown has a=((!decide (a.kind=4) || has a.name) && (!decide (a.kind=8) && tknownL has a.kids)):=by
 obtain ⟨_,_,_,_⟩:=a
 rfl
theorem tknownL_eq (has : Str→Bool) : ∀ l : List Tree,tknownL has l=l.all (tknown has)
 | []=>rfl
 | t :: ts=>by rw [tknownL,tknownL_eq has ts,List.all_cons]
set_option maxHeartbeats 1600000 in
theorem tknown_law (bt c : Nat) (es : Ents Str) (hok : EntsOk es) (a : Tree) : ∀ (m : Mem) (L : List Item) (h : HTree) (hr : TreeRep m h a) (ho : m.o bt=some (mapO kStr es c)),
  TCall Tryz.prog 52 ⟨[.map (some bt),treeV h]⟩ m L (Ret (.bool (tknown (mhas es) a)) m L):=by
 induction a using Tree.ind with
 | h a ih =>
 intro m L h hr ho
 obtain ⟨h1,h2,h3,h4⟩:=hr
 have hl:=h4.len
 have hsm:=h4.small rfl
 rw [tknown_eq,← h1,← h2]
 unfold TCall
 refine TCallX.enter Tryz.func52 rfl 40 rfl ?_
 obtain ⟨hd,hhd⟩:=hok h.name
 refine uA ?_
 refine TO.step rfl (OT.box rfl rfl rfl rfl rfl (fun b => ?_))
 refine uL ?_
 refine TO.step rfl (OT.lookupOkP tab kStr h.name rfl rfl rfl rfl rfl rfl rfl ho ?_)
 refine TO.conv ?_ (congrArg (fun z=>Value.tuple ⟨[z, .bool (mhas es h.name)]⟩) hhd)
 refine uA ?_
 refine TO.step rfl (OT.alloc tab rfl rfl rfl rfl (fun b5 => ?_))
 refine uA ?_
 refine uT ?_
 refine uL ?_
 (refine TO.splitP rfl rfl (fun e1 => ?_) (fun e1 => ?_))
 ·refine uA ?_
  refine TO.split (b := !mhas es h.name) rfl rfl (fun e2 => ?_) (fun e2 => ?_)
  ·rw [Bool.not_eq_true'] at e2
   refine uA ?_
   refine retQ_ret rfl uS ⟨rfl,rfl, ?_⟩
   rw [decide_eq_true e1,e2];rfl
  ·rw [Bool.not_eq_false'] at e2
   refine uL ?_
   refine TC.condP rfl (fun e3 => ?_) (fun e3 => ?_)
   ·omega
   ·refine uL ?_
    refine TC.loopK (ι:=Nat) [0,29,30] rfl (fun k=>[(31, .int .i64 (k : Int))]) (fun _=>m) (fun _=>L) (fun k=>k ≤ a.kids.length∧(a.kids.take k).all (tknown (mhas es))=true) (fun k=>a.kids.length - k) 0 uH rfl uS ⟨Nat.zero_le _,rfl⟩ ?_
    rintro k ⟨hk,hI⟩
    refine uA ?_
    refine TC.condP rfl (fun hlt' => ?_) (fun hlt' => ?_)
    ·have hlt : k < a.kids.length:=by omega
     have hx : a.kids[k]? = some a.kids[k]:=by simp [hlt]
     have hmem:=List.getElem_mem hlt
     refine uA ?_
     refine TO.step rfl (OT.index tab rTree k h4 rfl rfl rfl rfl rfl (by first | rfl | omega | (simp only;omega)) rfl hx ?_)
     rintro b' i' h' hrd hA
     (refine TO.step rfl (OT.loadA0 tab hA rfl rfl rfl rfl rfl ?_))
     refine uA ?_
     refine TO.step rfl (OT.alloc tab rfl rfl rfl rfl (fun b8 => ?_))
     refine uA ?_
     refine uT ?_
     refine uL ?_
     refine TO.step rfl (OT.call rfl rfl rfl rfl rfl rfl goes52 ((ih _ hmem _ _ h' (rTree_iff.1 hrd) ho).x ?_));
     rintro _ _ _ ⟨rfl,rfl,rfl⟩
     refine uA ?_
     refine TC.cond (t := !tknown (mhas es) a.kids[k]) rfl (fun e9 => ?_) (fun e9 => ?_)
     ·rw [Bool.not_eq_true'] at e9
      refine uA ?_
      refine retQ_ret rfl uS ⟨rfl,rfl, ?_⟩
      have : a.kids.all (tknown (mhas es))=false:=List.all_eq_false.2 ⟨_,hmem,by rw [e9];simp⟩
      rw [tknownL_eq,this];simp
     ·rw [Bool.not_eq_false'] at e9
      refine uA ?_
      refine TO.step rfl (OT.arith (r':=((k + 1 : Nat) : Int)) rfl rfl rfl rfl rfl rfl rfl (by omega) ?_)
      refine uA ?_
      exact ⟨k + 1,uH,uH,rfl,rfl,uS,⟨by omega,by rw [List.take_succ_eq_append_getElem hlt,List.all_append,hI,List.all_cons,e9];rfl⟩,by omega⟩
    ·rw [List.take_of_length_le (by omega)] at hI
     refine uA ?_
     refine retQ_ret rfl uS ⟨rfl,rfl, ?_⟩
     rw [tknownL_eq,hI]
     (rw [decide_eq_true e1,e2,decide_eq_false e3];rfl)
 ·refine uL ?_
  refine TC.condP rfl (fun e3 => ?_) (fun e3 => ?_)
  ·refine uA ?_
   refine retQ_ret rfl uS ⟨rfl,rfl, ?_⟩
   rw [decide_eq_true e3];simp
  ·refine uL ?_
   refine TC.loopK (ι:=Nat) [0,29,30] rfl (fun k=>[(31, .int .i64 (k : Int))]) (fun _=>m) (fun _=>L) (fun k=>k ≤ a.kids.length∧(a.kids.take k).all (tknown (mhas es))=true) (fun k=>a.kids.length - k) 0 uH rfl uS ⟨Nat.zero_le _,rfl⟩ ?_
   rintro k ⟨hk,hI⟩
   refine uA ?_
   refine TC.condP rfl (fun hlt' => ?_) (fun hlt' => ?_)
   ·have hlt : k < a.kids.length:=by omega
    have hx : a.kids[k]? = some a.kids[k]:=by simp [hlt]
    have hmem:=List.getElem_mem hlt
    refine uA ?_
    refine TO.step rfl (OT.index tab rTree k h4 rfl rfl rfl rfl rfl (by first | rfl | omega | (simp only;omega)) rfl hx ?_)
    rintro b' i' h' hrd hA
    (refine TO.step rfl (OT.loadA0 tab hA rfl rfl rfl rfl rfl ?_))
    refine uA ?_
    refine TO.step rfl (OT.alloc tab rfl rfl rfl rfl (fun b8 => ?_))
    refine uA ?_
    refine uT ?_
    refine uL ?_
    refine TO.step rfl (OT.call rfl rfl rfl rfl rfl rfl goes52 ((ih _ hmem _ _ h' (rTree_iff.1 hrd) ho).x ?_));
    rintro _ _ _ ⟨rfl,rfl,rfl⟩
    refine uA ?_
    refine TC.cond (t := !tknown (mhas es) a.kids[k]) rfl (fun e9 => ?_) (fun e9 => ?_)
    ·rw [Bool.not_eq_true'] at e9
     refine uA ?_
     refine retQ_ret rfl uS ⟨rfl,rfl, ?_⟩
     have : a.kids.all (tknown (mhas es))=false:=List.all_eq_false.2 ⟨_,hmem,by rw [e9];simp⟩
     rw [tknownL_eq,this];simp
    ·rw [Bool.not_eq_false'] at e9
     refine uA ?_
     refine TO.step rfl (OT.arith (r':=((k + 1 : Nat) : Int)) rfl rfl rfl rfl rfl rfl rfl (by omega) ?_)
     refine uA ?_
     exact ⟨k + 1,uH,uH,rfl,rfl,uS,⟨by omega,by rw [List.take_succ_eq_append_getElem hlt,List.all_append,hI,List.all_cons,e9];rfl⟩,by omega⟩
   ·rw [List.take_of_length_le (by omega)] at hI
    refine uA ?_
    refine retQ_ret rfl uS ⟨rfl,rfl, ?_⟩
    rw [tknownL_eq,hI]
    (rw [decide_eq_false e1,decide_eq_false e3];rfl)
open Go.Proofs Go.RowKit
def ptrInt : Tree := .mk 5 [] 0 [.mk 1 [] 0 []]
def ptrNode : Tree := .mk 11 [] 0 [.mk 10 [105,110,116] 0 []]
theorem ptr_of : ofRes ptrNode=(ptrInt,0):=by
 have h : okT ptrNode=true:=by unfold okT okType;rw [withinB_eq];decide +kernel
 rw [ofRes,if_pos h]
 rfl
theorem ptr_sound : ptrInt.sound=true:=by decide +kernel
theorem ptr_text : textS ptrInt=[42,105,110,116]:=by rw [textS,if_pos ptr_sound];rfl
theorem ptr_same : sameB ptrInt ptrInt=true:=by rw [sameB,ptr_sound,teq_refl];rfl
theorem ptr_known : tknown (mhas []) ptrInt=true:=by decide +kernel
theorem ptr_bulk : ptrInt.wide ≤ 140737488355328:=by decide
theorem ptrNode_bulk : ptrNode.wide ≤ 140737488355328:=by decide
theorem slT1 {m : Mem} {b : Nat} {h : HTree} {a : Tree} (hA : At m b 0 (treeC h)) (hr : TreeRep m h a) : SlRep rTree m ⟨some ⟨b,0,none⟩,1,1⟩ [a]:=SlRep.one (r:=rTree) (h:=h) hA (rTree_iff.2 hr) (by decide)
theorem slT2 {m : Mem} {b : Nat} {h h' : HTree} {a a' : Tree} (hA : At m b 0 (treeC h++treeC h')) (hr : TreeRep m h a) (hr' : TreeRep m h' a') : SlRep rTree m ⟨some ⟨b,0,none⟩,2,2⟩ [a,a'] :=
 ⟨rfl,Nat.le_refl _,(by show 2 * 56 ≤ _;decide),[h,h'],⟨rTree_iff.2 hr,rTree_iff.2 hr',trivial⟩, .inr ⟨b,0,rfl,hA⟩⟩
set_option maxHeartbeats 800000 in
theorem known_nil (m : Mem) (L : List Item) (h : HTree) (hr : TreeRep m h ptrInt) : TCall Tryz.prog 26 ⟨[.slice none 0 0,treeV h]⟩ m L (Ret (.bool true) m L):=by
 refine TCall.forget ?_
 unfold TCall
 refine TCallX.enter Tryz.func26 rfl 17 rfl ?_
 refine uA ?_
 refine TO.step rfl (OT.box rfl rfl rfl rfl rfl (fun b => ?_))
 refine uL ?_
 refine TO.step rfl (OT.lit tab rfl rfl rfl rfl (fun b2 => ?_))
 refine TO.freeze fun m1 hm1 hA1 => ?_
 refine uA ?_
 refine TO.step rfl (OT.call rfl rfl rfl rfl rfl rfl goes51 ((open_nil m1 _ _ [ptrInt] (slT1 (h:=h) hA1 (hr.mono hm1)) (fun a ha=>by rw [List.mem_singleton.1 ha];exact ⟨ptr_bulk,ptr_sound⟩)).x ?_));
 rintro _ m2 _ ⟨hm2,rfl,bt,rfl,ho⟩
 refine uA ?_
 refine TO.step rfl (OT.mapNe tab kStr (r:=some bt) rfl rfl rfl rfl rfl rfl ?_)
 refine uL ?_
 refine TO.step rfl (OT.call rfl rfl rfl rfl rfl rfl goes52 ((tknown_law bt 0 [] EntsOk.nil ptrInt m2 _ h ((hr.mono hm1).mono hm2) ho).x ?_));
 rintro _ _ _ ⟨rfl,rfl,rfl⟩
 rw [ptr_known]
 refine uA ?_
 exact retQ_ret rfl uS ⟨Mem.le_trans hm1 hm2,rfl,rfl⟩
set_option maxHeartbeats 800000 in
theorem tassign_same (bt : Nat) (m : Mem) (L : List Item) (h : HTree) (hr : TreeRep m h ptrInt) (ho : m.o bt=some (mapO kStr [] 0)) : TCall Tryz.prog 58 ⟨[.map (some bt),treeV h,treeV h]⟩ m L (Ret (.bool true) m L):=by
 have hk:=hr.kind
 obtain ⟨q,n,u,s⟩:=h
 obtain rfl : q=5:=hk
 unfold TCall
 refine TCallX.enter Tryz.func58 rfl 50 rfl ?_
 refine uA ?_
 refine TO.step rfl (OT.box rfl rfl rfl rfl rfl (fun b => ?_))
 refine uA ?_
 refine TO.step rfl (OT.box rfl rfl rfl rfl rfl (fun b2 => ?_))
 refine uL ?_
 refine TO.step rfl (OT.call rfl rfl rfl rfl rfl rfl goes52 ((tknown_law bt 0 [] EntsOk.nil ptrInt m _ _ hr ho).x ?_));
 rintro _ _ _ ⟨rfl,rfl,rfl⟩
 rw [ptr_known]
 refine uL ?_
 refine TO.step rfl (OT.call rfl rfl rfl rfl rfl rfl goes50 ((equal_law ptrInt ptrInt m _ _ _ hr hr).x ?_));
 rintro _ _ _ ⟨rfl,rfl,rfl⟩
 rw [teq_refl]
 refine uA ?_
 refine retQ_ret rfl uS ⟨rfl,rfl, ?_⟩
 rfl
set_option maxHeartbeats 800000 in
theorem assign_nil (m : Mem) (L : List Item) (h : HTree) (hr : TreeRep m h ptrInt) : TCall Tryz.prog 28 ⟨[.slice none 0 0,treeV h,treeV h]⟩ m L (Ret (.bool true) m L):=by
 have hk:=hr.kind
 obtain ⟨q,n,u,s⟩:=h
 obtain rfl : q=5:=hk
 refine TCall.forget ?_
 unfold TCall
 refine TCallX.enter Tryz.func28 rfl 31 rfl ?_
 refine uA ?_
 refine TO.step rfl (OT.box rfl rfl rfl rfl rfl (fun b => ?_))
 refine uA ?_
 refine TO.step rfl (OT.box rfl rfl rfl rfl rfl (fun b2 => ?_))
 refine uL ?_
 refine TO.step rfl (OT.lit tab rfl rfl rfl rfl (fun b3 => ?_))
 refine TO.freeze fun m1 hm1 hA1 => ?_
 refine uA ?_
 have hall : ∀ a ∈ [ptrInt,ptrInt],a.wide ≤ 140737488355328∧a.sound=true:=fun a ha=>by
  obtain rfl : a=ptrInt:=by simpa using ha
  exact ⟨ptr_bulk,ptr_sound⟩
 refine TO.step rfl (OT.call rfl rfl rfl rfl rfl rfl goes51 ((open_nil m1 _ _ [ptrInt,ptrInt] (slT2 (h:=⟨5,n,u,s⟩) (h':=⟨5,n,u,s⟩) hA1 (hr.mono hm1) (hr.mono hm1)) hall).x ?_));
 rintro _ m2 _ ⟨hm2,rfl,bt,rfl,ho⟩
 refine uA ?_
 refine TO.step rfl (OT.mapNe tab kStr (r:=some bt) rfl rfl rfl rfl rfl rfl ?_)
 refine uL ?_
 refine TO.step rfl (OT.call rfl rfl rfl rfl rfl rfl goes58 ((tassign_same bt m2 _ _ ((hr.mono hm1).mono hm2) ho).x ?_));
 rintro _ _ _ ⟨rfl,rfl,rfl⟩
 refine uL ?_
 refine TO.step rfl (OT.call rfl rfl rfl rfl rfl rfl goes52 ((tknown_law bt 0 [] EntsOk.nil ptrInt m2 _ _ ((hr.mono hm1).mono hm2) ho).x ?_));
 rintro _ _ _ ⟨rfl,rfl,rfl⟩
 rw [ptr_known]
 refine uA ?_
 exact retQ_ret rfl uS ⟨Mem.le_trans hm1 hm2,rfl,rfl⟩
set_option maxHeartbeats 1600000 in
theorem awake4_law (m : Mem) (L : List Item) : TCall Tryz.prog 10 ⟨[]⟩ m L (Ret (.bool true) m L):=by
 refine TCall.forget ?_
 unfold TCall
 refine TCallX.enter Tryz.func10 rfl 35 rfl ?_
 refine uA ?_
 refine TO.step rfl (OT.lit tab rfl rfl rfl rfl (fun b => ?_))
 refine TO.freeze fun m1 hm1 hA1 => ?_
 have hs1 : SlRep rTree m1 ⟨some ⟨b,0,none⟩,1,1⟩ ptrNode.kids:=slT1 (h:=⟨10,[105,110,116],0,⟨none,0,0⟩⟩) hA1 (TreeRep.leaf _ _ _ _)
 have hr1 : TreeRep m1 ⟨11,[],0,⟨some ⟨b,0,none⟩,1,1⟩⟩ ptrNode:=⟨rfl,rfl,rfl,hs1⟩
 refine uA ?_
 refine TO.step rfl (OT.call rfl rfl rfl rfl rfl rfl goes12 ((of_own ptrNode m1 _ _ hr1 ptrNode_bulk).x ?_));
 rw [ptr_of]
 rintro _ m2 _ ⟨hm2,rfl,h,rfl,hr⟩
 simp only at hr
 refine uA ?_
 refine TO.step rfl (OT.alloc tab rfl rfl rfl rfl (fun b2 => ?_))
 refine uA ?_
 refine uT ?_
 refine uL ?_
 refine TO.step rfl (OT.call rfl rfl rfl rfl rfl rfl goes9 ((ttext_law ptrInt m2 _ h hr ptr_bulk).x ?_));
 rintro _ _ _ ⟨rfl,rfl,rfl⟩
 rw [ptr_text]
 refine uL ?_
 refine TO.step rfl (OT.call rfl rfl rfl rfl rfl rfl goes25 ((tsame_law ptrInt ptrInt m2 _ h h hr hr ptr_bulk ptr_bulk).x ?_));
 rintro _ _ _ ⟨rfl,rfl,rfl⟩
 rw [ptr_same]
 refine uL ?_
 refine TO.step rfl (OT.call rfl rfl rfl rfl rfl rfl goes26 ((known_nil m2 _ h hr).x ?_));
 rintro _ _ _ ⟨rfl,rfl,rfl⟩
 refine uA ?_
 refine TO.step rfl (OT.call rfl rfl rfl rfl rfl rfl goes27 ((sound_nil m2 _).x ?_));
 rintro _ _ _ ⟨rfl,rfl,rfl⟩
 refine uL ?_
 refine TO.step rfl (OT.call rfl rfl rfl rfl rfl rfl goes28 ((assign_nil m2 _ h hr).x ?_));
 rintro _ _ _ ⟨rfl,rfl,rfl⟩
 refine uA ?_
 exact retQ_ret rfl uS ⟨Mem.le_trans hm1 hm2,rfl,rfl⟩
end Go.Sep


/- PrSame -/
set_option linter.unusedVariables false
set_option linter.unusedSimpArgs false
namespace Go.Sep
open Go.Proofs
attribute [local irreducible] TC TO OT TCallX TCall DO DOt thenQ blockQ retQ At
set_option maxHeartbeats 1600000 in
theorem same_ref (a : Tree) : ∀ (c : Tree) (m : Mem) (L : List Item) (h g : HTree) (hr : TreeRep m h a) (gr : TreeRep m g c),TCall Tryz.prog 15 ⟨[treeV h,treeV g]⟩ m L (Ret (.bool (teq a c)) m L):=by
 induction a using Tree.ind with
 | h a ih =>
 intro c m L h g hr gr
 obtain ⟨h1,h2,h3,h4⟩:=hr
 obtain ⟨g1,g2,g3,g4⟩:=gr
 have hl:=h4.len
 have gl:=g4.len
 have hsm:=h4.small rfl
 have gsm:=g4.small rfl
 rw [teq_eq,← h1,← g1,← h2,← g2,← h3,← g3]
 unfold TCall
 refine TCallX.enter Tryz.func15 rfl 53 rfl ?_
 refine uA ?_
 refine TO.step rfl (OT.box rfl rfl rfl rfl rfl (fun b => ?_))
 refine uA ?_
 refine TO.step rfl (OT.box rfl rfl rfl rfl rfl (fun b2 => ?_))
 refine uL ?_
 (refine TO.splitN rfl rfl (fun e1 => ?_) (fun e1 => ?_))
 ·refine uA ?_
  refine retQ_ret rfl uS ⟨rfl,rfl, ?_⟩
  rw [decide_eq_false e1];rfl
 refine uL ?_
 (refine TO.splitN rfl rfl (fun e2 => ?_) (fun e2 => ?_))
 ·refine uA ?_
  refine retQ_ret rfl uS ⟨rfl,rfl, ?_⟩
  rw [decide_eq_true e1,decide_eq_false e2];rfl
 refine uL ?_
 (refine TO.splitN rfl rfl (fun e3 => ?_) (fun e3 => ?_))
 ·refine uA ?_
  refine retQ_ret rfl uS ⟨rfl,rfl, ?_⟩
  rw [decide_eq_true e1,decide_eq_true e2,decide_eq_false e3];rfl
 refine uL ?_
 refine TC.condN rfl (fun e4 => ?_) (fun e4 => ?_)
 ·refine uA ?_
  refine retQ_ret rfl uS ⟨rfl,rfl, ?_⟩
  rw [teqL_len (by omega)];simp
 rw [decide_eq_true e1,decide_eq_true e2,decide_eq_true e3,Bool.true_and,Bool.true_and,Bool.true_and]
 have hlen : a.kids.length=c.kids.length:=by omega
 refine uA ?_
 refine TC.loopK (ι:=Nat) [2,3] rfl (fun k=>[(5, .int .i64 (k : Int))]) (fun _=>m) (fun _ => .cells b2 0 (treeC g) :: .cells b 0 (treeC h) :: L) (fun k=>k ≤ a.kids.length∧teqL a.kids c.kids=teqL (a.kids.drop k) (c.kids.drop k)) (fun k=>a.kids.length - k) 0 uH rfl uS ⟨Nat.zero_le _,rfl⟩ ?_
 rintro k ⟨hk,hI⟩
 refine uL ?_
 refine TC.condP rfl (fun hlt' => ?_) (fun hlt' => ?_)
 ·have hlt : k < a.kids.length:=by omega
  have hlt2 : k < c.kids.length:=by omega
  have hx : a.kids[k]? = some a.kids[k]:=by simp [hlt]
  have hx2 : c.kids[k]? = some c.kids[k]:=by simp [hlt2]
  rw [teqL_step _ _ k hlt hlt2] at hI
  refine uA ?_
  refine TC.draw0 [] mixed 12 rfl ?_
  refine DO.pure tab uC (by kernel_rfl) [0] (by kernel_rfl) rfl ?_
  (refine DO.loadL tab 1 1 uC (by kernel_rfl) (by kernel_rfl) rfl rfl rfl rfl rfl rfl rfl rfl ?_)
  refine DO.pure tab uC (by kernel_rfl) [2] (by kernel_rfl) rfl ?_
  refine DO.index tab rTree 3 k h4 uC (by kernel_rfl) (by kernel_rfl) rfl rfl rfl rfl rfl rfl rfl (by first | rfl | omega) rfl hx ?_
  rintro b' i' h' hrd hA
  (refine DO.loadA (k:=0) tab 4 hA uC (by kernel_rfl) (by kernel_rfl) rfl rfl rfl rfl rfl rfl rfl ?_)
  refine DO.pure tab uC (by kernel_rfl) [5] (by kernel_rfl) rfl ?_
  (refine DO.loadL tab 6 0 uC (by kernel_rfl) (by kernel_rfl) rfl rfl rfl rfl rfl rfl rfl rfl ?_)
  refine DO.pure tab uC (by kernel_rfl) [7] (by kernel_rfl) rfl ?_
  refine DO.index tab rTree 8 k g4 uC (by kernel_rfl) (by kernel_rfl) rfl rfl rfl rfl rfl rfl rfl (by first | rfl | omega) rfl hx2 ?_
  rintro b'' i'' g' grd gA
  (refine DO.loadA (k:=0) tab 9 gA uC (by kernel_rfl) (by kernel_rfl) rfl rfl rfl rfl rfl rfl rfl ?_)
  refine DO.run 10 rfl rfl (by kernel_rfl) rfl (OT.call rfl rfl rfl rfl rfl rfl goes15 ((ih _ (List.getElem_mem hlt) c.kids[k] _ _ h' g' (rTree_iff.1 hrd) (rTree_iff.1 grd)).x ?_))
  rintro _ _ _ ⟨rfl,rfl,rfl⟩;refine ⟨Mem.le_refl _,_,List.Perm.refl _, ?_⟩
  refine DO.pure tab uC (by kernel_rfl) [11] (by kernel_rfl) rfl ?_
  (refine DO.nil0 (by kernel_rfl) ?_)
  rotate_left 1
  refine thenQ_n ?_
  refine uA ?_
  refine TC.cond (t := !teq a.kids[k] c.kids[k]) rfl (fun e5 => ?_) (fun e5 => ?_)
  ·rw [Bool.not_eq_true'] at e5
   refine uA ?_
   refine retQ_ret rfl uS ⟨rfl,rfl, ?_⟩
   rw [hI,e5];rfl
  ·rw [Bool.not_eq_false'] at e5
   refine uA ?_
   refine TO.step rfl (OT.arith (r':=((k + 1 : Nat) : Int)) rfl rfl rfl rfl rfl rfl rfl (by omega) ?_)
   refine uA ?_
   exact ⟨k + 1,uH,uH,rfl,rfl,uS,⟨by omega,by rw [hI,e5];rfl⟩,by omega⟩
 ·refine uA ?_
  refine retQ_ret rfl uS ⟨rfl,rfl, ?_⟩
  rw [hI,List.drop_eq_nil_of_le (by omega),List.drop_eq_nil_of_le (by omega)];rfl
end Go.Sep


/- PtBack -/
set_option linter.unusedVariables false
set_option linter.unusedSimpArgs false
namespace Go.Sep
open Go.Proofs
attribute [local irreducible] TC TO OT TCallX TCall DO DOt thenQ blockQ retQ At
attribute [local irreducible] parseD scanD textD soundB
end Go.Sep


/- PtExprW -/
set_option linter.unusedVariables false
set_option linter.unusedSimpArgs false
namespace Go.Sep
open Go.Proofs
attribute [local irreducible] TC TO OT TCallX TCall DO DOt thenQ blockQ retQ At
def atT : Tree→List Int→Tree
 | a,[]=>a
 | a,w :: ws=>match a.kids[w.toNat]? with
  | some k=>atT k ws
  | none=>emptyT
theorem atT_step (a : Tree) (l : List Int) (i : Nat) (c : Tree) (h : i < l.length) (hc : atT a l=atT c (l.drop i)) : atT a l=match c.kids[l[i].toNat]? with | some k=>atT k (l.drop (i + 1)) | none=>emptyT:=by
 rw [hc,List.drop_eq_getElem_cons h,atT]
structure AtS where
 i : Nat
 c : Tree
 y : HTree
end Go.Sep


/- PtTyW -/
set_option linter.unusedVariables false
set_option linter.unusedSimpArgs false
namespace Go.Sep
open Go.Proofs
open Go.Pt (lay)
attribute [local irreducible] TC TO OT TCallX TCall DO DOt thenQ blockQ retQ At
set_option maxHeartbeats 1600000 in
theorem at4_law (m : Mem) (L : List Item) (a : Tree) (h : HTree) (hr : TreeRep m h a) (s : Sl) (l : List Int) (hs : SlRep rInt m s l) (hl : ∀ x ∈ l,0 ≤ x) :
  TCall Tryz.prog 13 ⟨[treeV h,s.v]⟩ m L (Made m L fun r m' => ∃ y,r=treeV y∧TreeRep m' y (atT a l)):=by
 have hlen:=hs.len
 have hsm:=hs.small rfl
 unfold TCall
 refine TCallX.enter Tryz.func13 rfl 30 rfl ?_
 refine uA ?_
 refine TO.step rfl (OT.box rfl rfl rfl rfl rfl (fun b => ?_))
 refine uA ?_
 refine TO.step rfl (OT.alloc tab rfl rfl rfl rfl (fun b2 => ?_))
 refine uA ?_
 refine TC.loopK (ι:=AtS) [1,2,4] rfl (fun g=>[(5, .int .i64 (g.i : Int))]) (fun _=>m) (fun g => .cells b2 0 (treeC ⟨0,[],0,⟨none,0,0⟩⟩) :: .cells b 0 (treeC g.y) :: L) (fun g=>g.i ≤ l.length∧TreeRep m g.y g.c∧atT a l=atT g.c (l.drop g.i)) (fun g=>l.length - g.i) ⟨0,a,h⟩ uH rfl uS ⟨Nat.zero_le _,hr,rfl⟩ ?_
 rintro ⟨i,c,y⟩ ⟨hi,hrc,hI⟩
 simp only at hi hrc hI
 have hrc':=hrc
 obtain ⟨g1,g2,g3,g4⟩:=hrc
 have hkl:=g4.len
 have hks:=g4.small rfl
 refine uA ?_
 refine TC.condP rfl (fun h1 => ?_) (fun h1 => ?_)
 ·simp only at h1
  have hlt : i < l.length:=by omega
  have hxi : l[i]? = some l[i]:=List.getElem?_eq_getElem hlt
  have hx0:=hl l[i] (List.getElem_mem hlt)
  have hst:=atT_step a l i c hlt hI
  refine uA ?_
  refine TC.draw [] mixed 8 rfl [.cells b2 0 (treeC ⟨0,[],0,⟨none,0,0⟩⟩), .cells b 0 (treeC y)] L uP ?_
  refine DO.pure tab uC (by kernel_rfl) [0,1] (by kernel_rfl) rfl ?_
  refine DO.index tab rInt 2 i hs uC (by kernel_rfl) (by kernel_rfl) rfl rfl rfl rfl rfl rfl rfl (by first | rfl | omega) rfl hxi ?_
  rintro b3 i3 w3 hw3 hA3
  (refine DO.loadA (k:=0) tab 3 hA3 uC (by kernel_rfl) (by kernel_rfl) rfl rfl rfl rfl rfl rfl rfl ?_)
  refine DO.pure tab uC (by kernel_rfl) [4] (by kernel_rfl) rfl ?_
  (refine DO.loadL tab 5 1 uC (by kernel_rfl) (by kernel_rfl) rfl rfl rfl rfl rfl rfl rfl rfl ?_)
  refine DO.pure tab uC (by kernel_rfl) [6,7] (by kernel_rfl) rfl ?_
  (refine DO.nil (by kernel_rfl) ?_)
  rotate_left 1
  obtain rfl : w3=l[i]:=hw3
  refine uA ?_
  refine TC.condP rfl (fun h4 => ?_) (fun h4 => ?_)
  ·refine uA ?_
   refine uT ?_
   refine uA ?_
   have hnone : c.kids[l[i].toNat]? = none:=List.getElem?_eq_none (by omega)
   rw [hnone] at hst
   refine retQ_ret_c1 tab 0 rfl rfl rfl rfl (L':=L) uS ⟨Mem.le_refl _,rfl,⟨0,[],0,⟨none,0,0⟩⟩,rfl, ?_⟩
   rw [hst]
   exact ⟨rfl,rfl,rfl,SlRep.nil _ _⟩
  ·have hlt2 : l[i].toNat < c.kids.length:=by omega
   have hxk : c.kids[l[i].toNat]? = some c.kids[l[i].toNat]:=List.getElem?_eq_getElem hlt2
   refine uA ?_
   refine TC.draw [8] mixed 9 rfl [.cells b2 0 (treeC ⟨0,[],0,⟨none,0,0⟩⟩), .cells b 0 (treeC y)] L uP ?_
   refine DO.pure tab uC (by kernel_rfl) [0] (by kernel_rfl) rfl ?_
   (refine DO.loadL tab 1 1 uC (by kernel_rfl) (by kernel_rfl) rfl rfl rfl rfl rfl rfl rfl rfl ?_)
   refine DO.pure tab uC (by kernel_rfl) [2,3] (by kernel_rfl) rfl ?_
   refine DO.index tab rInt 4 i hs uC (by kernel_rfl) (by kernel_rfl) rfl rfl rfl rfl rfl rfl rfl (by first | rfl | omega) rfl hxi ?_
   rintro b3 i3 w3 hw3 hA3;obtain rfl : w3=l[i]:=hw3
   (refine DO.loadA (k:=0) tab 5 hA3 uC (by kernel_rfl) (by kernel_rfl) rfl rfl rfl rfl rfl rfl rfl ?_)
   refine DO.index tab rTree 6 (l[i].toNat) g4 uC (by kernel_rfl) (by kernel_rfl) rfl rfl rfl rfl rfl rfl rfl (by first | rfl | omega) rfl hxk ?_
   rintro b5 i5 y5 hy5 hA5
   (refine DO.loadA (k:=0) tab 7 hA5 uC (by kernel_rfl) (by kernel_rfl) rfl rfl rfl rfl rfl rfl rfl ?_)
   refine DO.tail ?_
   refine DOt.run 8 rfl rfl (by kernel_rfl) rfl ?_
   (refine OT.storeL0 tab 1 rfl rfl rfl rfl rfl rfl rfl rfl ?_)
   refine DOt.nil (by kernel_rfl) ?_
   rotate_left 1
   rw [hxk] at hst
   refine uA ?_
   refine TO.step rfl (OT.arith (r':=((i + 1 : Nat) : Int)) rfl rfl rfl rfl rfl rfl rfl (by omega) ?_)
   refine uA ?_
   exact ⟨⟨i + 1,c.kids[l[i].toNat],y5⟩,uH,uH,rfl,rfl,uS,⟨by simp only;omega,rTree_iff.1 hy5,hst⟩,by simp only;omega⟩
 ·simp only at h1
  rw [List.drop_eq_nil_of_le (by omega)] at hI
  refine uL ?_
  refine uT ?_
  refine uA ?_
  refine retQ_ret_c1 tab 0 rfl rfl rfl rfl (L':=L) uS ⟨Mem.le_refl _,rfl,y,rfl, ?_⟩
  rw [hI]
  exact hrc'
theorem of_ok {b : Tree} (hb : b.isType=true) (h1 : b.size + 3 ≤ 20000) (h2 : b.deep + 3 ≤ 100) : ofRes b=(b.ofT,0):=by
 have h : okT b=true:=by
  unfold okT okType
  rw [withinB_eq,hb,Bool.and_true,decide_eq_true (by omega),decide_eq_true (by omega)];rfl
 rw [ofRes,if_pos h]
theorem type_wide (b : Tree) : b.isType=true→b.wide ≤ 64:=by
 induction b using Tree.ind with
 | h b ih =>
 intro hb
 have hc:=type_cases hb
 obtain ⟨k,n,u,ks⟩:=b
 simp only [Tree.kind,Tree.name,Tree.num,Tree.kids] at hc ih
 have hL : ∀ l : List Tree,(∀ t ∈ l,t.wide ≤ 64)→wideL l ≤ 64:=by
  intro l
  induction l with
  | nil=>intro _;simp [wideL]
  | cons t l ihl =>
   intro hl
   have h1:=hl t (by simp)
   have h2:=ihl fun x hx=>hl x (by simp [hx])
   simp only [wideL];omega
 have key : n.length ≤ 64→wideL ks ≤ 64→(Tree.mk k n u ks).wide ≤ 64:=fun h1 h2=>by simp only [Tree.wide];omega
 rcases hc with ⟨_,_,hn,rfl⟩ | ⟨_,rfl,_,_,ha⟩ | ⟨_,rfl,_,_,ha⟩
 ·refine key ?_ (by simp [wideL])
  unfold isName at hn
  simp only [Bool.and_eq_true,decide_eq_true_eq] at hn
  exact hn.2.1
 ·exact key (by simp) (hL _ fun t ht=>ih t ht (ha t ht))
 ·exact key (by simp) (hL _ fun t ht=>ih t ht (ha t ht))
theorem at_prog (b : Tree) : atT (progT b) [0,0,0]=b:=rfl
attribute [local irreducible] parseD scanD Tree.sound textS ofRes
end Go.Sep


/- PtTyX -/
set_option linter.unusedVariables false
set_option linter.unusedSimpArgs false
namespace Go.Sep
open Go.Proofs
open Go.Pt (lay)
theorem at_kids {m : Mem} {b i : Nat} {h : HTree} (hA : At m b i (treeC h)) : At m b (i + 3) [h.kids.v]:=fun j v hv=>by
 cases j with
 | zero=>exact hA 3 v hv
 | succ j=>simp at hv
attribute [local irreducible] TC TO OT TCallX TCall DO DOt thenQ blockQ retQ At
theorem parse_ok {s : Str} (h : (parseD s).e=0) : s.length ≤ 65536 ∧ ∃ ds,ds.length ≤ 20000∧parseD s = ⟨.mk 1 [] 0 ds,0,0⟩:=by
 rcases parseD_cases s with ⟨ds,k,g1,g2,g3,g4,g5⟩ | ⟨a,e,he,_,_,g5⟩ | ⟨_,_,_,_,g5⟩ | ⟨_,_,_,g5⟩
 ·have:=len_sizeL ds
  simp only [Tree.size] at g3
  exact ⟨(scanD_ok g1).1,ds,by omega,g5⟩
 ·rw [g5] at h
  replace h : e=0:=h
  omega
 ·rw [g5] at h;cases h
 ·rw [g5] at h;cases h
theorem tree_plain {s : Str} {d : Tree} (h : parseD ([116,121,112,101,32,83,32,115,116,114,117,99,116,32,123,32,102,32]++s) = ⟨.mk 1 [] 0 [d],0,0⟩) (h2 : d.kids.length=1) :
  ∃ b,d=structT b∧b.isType=true∧b.size + 3 ≤ 20000∧b.deep + 3 ≤ 100∧(psT b).length ≤ 20000:=by
 rcases parseD_cases ([116,121,112,101,32,83,32,115,116,114,117,99,116,32,123,32,102,32]++s) with ⟨ds,k,g1,g2,g3,g4,g5⟩ | ⟨a,e,he,_,_,g5⟩ | ⟨_,_,_,_,g5⟩ | ⟨_,_,_,g5⟩
 ·rw [g5] at h
  injection h with h _ _
  injection h with _ _ _ h
  subst h
  obtain ⟨r,hr⟩:=scan_struct g1
  have hlen:=scanD_len ([116,121,112,101,32,83,32,115,116,114,117,99,116,32,123,32,102,32]++s)
  have hsd:=(parse_sound g1 g2 g3 g4).1
  rw [Pt.tkF_bare,hr] at g2
  obtain ⟨b,l,ds',e1,e2⟩:=Ps.struct_inv rfl rfl rfl rfl rfl g2
  injection e1 with e1 _
  subst e1
  have hl : l=[]:=by
   simp only [Tree.kids,List.length_cons] at h2
   exact List.length_eq_zero_iff.1 (by omega)
  subst hl
  obtain ⟨k2,e3,t,e4⟩:=e2 rfl
  have hkl:=(List.getElem?_eq_some_iff.1 e4).1
  rw [← hr,List.length_map] at hkl
  obtain ⟨ds2,e5,_,_,e6⟩:=Pt.soundB_f hsd
  injection e5 with _ _ _ e5
  subst e5
  have e7:=e6 (.mk 2 [83] 0 [.mk 6 [102] 0 [b]]) (by simp)
  unfold declS at e7
  rw [if_pos (show (Tree.mk 2 [83] 0 [.mk 6 [102] 0 [b]]).kind=2 from rfl),Bool.and_eq_true,List.all_eq_true] at e7
  have e8:=e7.2 (.mk 6 [102] 0 [b]) (by simp [Tree.kids])
  unfold fieldS at e8
  rw [Bool.and_eq_true] at e8
  obtain ⟨x,e9,hb⟩:=Pt.kids1 e8.2
  have e9' : [b]=[x]:=e9
  injection e9' with e9' _
  subst e9'
  refine ⟨b,rfl,hb, ?_, ?_, ?_⟩
  ·have:=progT_size b
   unfold progT structT at this
   omega
  ·have:=progT_deep b
   unfold progT structT at this
   omega
  ·have h1 : ((psT b).map Prod.fst).length=(Pt.toks (structT b)).length:=by rw [psT_fst hb]
   rw [List.length_map] at h1
   have h3 : (psT b).length=5 + ((tpc b).length + 2):=by simp [psT,preT,endA];omega
   have h4 : (tpc b).length=Ps.tl b:=by unfold Ps.tl;rw [← tpc_fst b hb,List.length_map]
   omega
 ·rw [g5] at h
  injection h with _ _ h
  omega
 ·rw [g5] at h;cases h
 ·rw [g5] at h;cases h
theorem of_sound {b : Tree} (hb : b.isType=true) (h1 : b.size + 3 ≤ 20000) (h2 : b.deep + 3 ≤ 100) : b.ofT.sound=true:=by
 have h:=of_node b hb
 unfold Tree.sound
 rw [h.form,h.size,h.deep,Bool.and_true,decide_eq_true_eq]
 omega
theorem tree_again {b : Tree} (hb : b.isType=true) (h1 : b.size + 3 ≤ 20000) (h2 : b.deep + 3 ≤ 100) (h3 : (psT b).length ≤ 20000) :
  parseD ([116,121,112,101,32,83,32,115,116,114,117,99,116,32,123,32,102,32]++b.ofT.show++[59,32,125]) = ⟨progT b,0,0⟩ ∨ parseD ([116,121,112,101,32,83,32,115,116,114,117,99,116,32,123,32,102,32]++b.ofT.show++[59,32,125]) = ⟨emptyT,0,13⟩:=by
 have hf:=of_node b hb
 have hn:=node_ok b.ofT hf.form hf.kind
 have hlay : lay (psT b)=[116,121,112,101,32,83,32,115,116,114,117,99,116,32,123,32,102,32]++b.ofT.show++[59,32,125]:=by
  have:=hn.text
  rw [hf.back] at this
  rw [psT_lay,this]
 rw [← hlay]
 rcases Nat.lt_or_ge 65536 (lay (psT b)).length with hl | hl
 ·right
  unfold parseD
  have e : scanD (lay (psT b)) = ⟨[],0,13⟩:=by rw [scanD,if_pos hl]
  rw [e];rfl
 ·left
  rcases struct_back hb (by omega) (by omega) hl with ⟨_,_,_,hp⟩ | ⟨hc,_⟩
  ·exact hp
  ·omega
attribute [local irreducible] parseD scanD Tree.sound textS ofRes
set_option maxHeartbeats 3000000 in
theorem typesTree_walk (m : Mem) (L : List Item) (s : Str) (hE : Errs m) (hsl : s.length ≤ 140737488355328) : TCall Tryz.prog 4 ⟨[strV s]⟩ m L (Made m L fun r _=>r = .bool true):=by
 have n1 : ([116,121,112,101,32,83,32,115,116,114,117,99,116,32,123,32,102,32] : Str).length=18:=rfl
 have n2 : ([59,32,125] : Str).length=3:=rfl
 unfold TCall
 refine TCallX.enter Tryz.func4 rfl 70 rfl ?_
 refine uA ?_
 refine TO.step rfl (OT.concat (s:=[116,121,112,101,32,83,32,115,116,114,117,99,116,32,123,32,102,32]) (u:=s) rfl rfl rfl rfl rfl (by omega) ?_)
 refine TO.step rfl (OT.concat (s:=[116,121,112,101,32,83,32,115,116,114,117,99,116,32,123,32,102,32]++s) (u:=[59,32,125]) rfl rfl rfl rfl rfl (by rw [List.length_append];omega) ?_)
 rw [List.append_assoc]
 refine uA ?_
 refine TO.step rfl (OT.call rfl rfl rfl rfl rfl rfl goes11 ((parse_law program_ne _ _ ([116,121,112,101,32,83,32,115,116,114,117,99,116,32,123,32,102,32]++(s++[59,32,125])) hE).x ?_));
 rintro _ m1 _ ⟨hm1,rfl,x,rfl,hx⟩
 refine uA ?_
 refine TO.step rfl (OT.alloc tab rfl rfl rfl rfl (fun b => ?_))
 refine uA ?_
 refine uT ?_
 refine uA ?_
 refine TO.step rfl (OT.call rfl rfl rfl rfl rfl rfl goes10 ((awake4_law _ _).x ?_));
 rintro _ _ _ ⟨rfl,rfl,rfl⟩
 refine uA ?_
 (first | refine TO.splitP rfl rfl (fun c1 => ?_) (fun c1 => ?_) | refine TO.splitN rfl rfl (fun c1 => ?_) (fun c1 => ?_) | refine TO.split rfl rfl (fun c1 => ?_) (fun c1 => ?_))
 ·skip
  refine uA ?_
  refine TO.step rfl (OT.call rfl rfl rfl rfl rfl rfl goes10 ((awake4_law _ _).x ?_));
  rintro _ _ _ ⟨rfl,rfl,rfl⟩
  refine uA ?_
  exact retQ_ret rfl uS ⟨hm1,rfl,rfl⟩
 obtain ⟨hls,ds,hdl,hps⟩:=parse_ok (s:=[116,121,112,101,32,83,32,115,116,114,117,99,116,32,123,32,102,32]++(s++[59,32,125])) c1
 rw [hps] at hx
 have hx0:=hx
 obtain ⟨x1,x2,x3,x4⟩:=hx
 have x5:=x4.len
 have x6 : ds.length=x.kids.len:=x5.symm
 refine uL ?_
 (first | refine TO.splitP rfl rfl (fun c2 => ?_) (fun c2 => ?_) | refine TO.splitN rfl rfl (fun c2 => ?_) (fun c2 => ?_) | refine TO.split rfl rfl (fun c2 => ?_) (fun c2 => ?_))
 ·skip
  refine uA ?_
  refine TO.step rfl (OT.call rfl rfl rfl rfl rfl rfl goes10 ((awake4_law _ _).x ?_));
  rintro _ _ _ ⟨rfl,rfl,rfl⟩
  refine uA ?_
  exact retQ_ret rfl uS ⟨hm1,rfl,rfl⟩
 obtain ⟨d,rfl⟩ : ∃ d,ds=[d]:=List.length_eq_one_iff.1 (by omega)
 refine uL ?_
 refine TO.step rfl (OT.index tab rTree 0 x4 rfl rfl rfl rfl rfl (by first | rfl | omega | (simp only;omega)) rfl rfl ?_)
 rintro b' i' h' hrd hA
 have hrd':=rTree_iff.1 hrd
 obtain ⟨y1,y2,y3,y4⟩:=hrd'
 have y5:=y4.len
 have hA3 : At m1 b' (i' + 3) [h'.kids.v]:=at_kids hA
 refine uL ?_
 (first | refine TO.step rfl (OT.loadA tab hA3 rfl rfl rfl rfl rfl ?_) | refine TO.step rfl (OT.loadA0 tab hA3 rfl rfl rfl rfl rfl ?_))
 refine uA ?_
 refine TC.cond rfl (fun c3 => ?_) (fun c3 => ?_)
 ·skip
  refine uA ?_
  refine TO.step rfl (OT.call rfl rfl rfl rfl rfl rfl goes10 ((awake4_law _ _).x ?_));
  rintro _ _ _ ⟨rfl,rfl,rfl⟩
  refine uA ?_
  exact retQ_ret rfl uS ⟨hm1,rfl,rfl⟩
 have c4 : (h'.kids.len : Int)=1:=by simpa using c3
 obtain ⟨t,ht,hb,g1,g2,g3⟩:=tree_plain (d:=d) hps (by omega)
 subst ht
 replace hx0 : TreeRep m1 x (progT t):=hx0
 refine uL ?_
 refine TO.step rfl (OT.litR tab rInt (hs:=[0,0,0]) (l:=[0,0,0]) ⟨rfl,rfl,rfl,trivial⟩ rfl rfl rfl rfl rfl (by decide) (fun s5 m5 hm5 hs5 _ _ => ?_))
 refine uA ?_
 refine TO.step rfl (OT.call rfl rfl rfl rfl rfl rfl goes13 ((at4_law _ _ (progT t) x (hx0.mono hm5) s5 [0,0,0] hs5 (by decide)).x ?_));
 rintro _ m6 _ ⟨hm6,rfl,z,rfl,hz⟩
 rw [at_prog] at hz
 refine uA ?_
 refine TO.step rfl (OT.call rfl rfl rfl rfl rfl rfl goes12 ((of_own t _ _ z hz (Nat.le_trans (type_wide _ hb) (by decide))).x ?_));
 rw [of_ok hb g1 g2]
 rintro _ m7 _ ⟨hm7,rfl,y,rfl,hy⟩
 simp only at hy
 refine uA ?_
 refine TO.step rfl (OT.alloc tab rfl rfl rfl rfl (fun b3 => ?_))
 refine uA ?_
 refine uT ?_
 have hm57:=Mem.le_trans hm5 (Mem.le_trans hm6 hm7)
 have hm17:=Mem.le_trans hm1 hm57
 have hsd:=of_sound hb g1 g2
 have hbk:=sound_bulk hsd
 have hshl:=show_len t.ofT
 refine uL ?_
 refine TO.step rfl (OT.call rfl rfl rfl rfl rfl rfl goes9 ((ttext_law t.ofT _ _ y hy (Nat.le_trans (wide_bulk _) (by omega))).x ?_));
 rintro _ _ _ ⟨rfl,rfl,rfl⟩
 rw [show textS t.ofT=t.ofT.show by rw [textS,if_pos hsd]]
 refine TO.step rfl (OT.concat (s:=[116,121,112,101,32,83,32,115,116,114,117,99,116,32,123,32,102,32]) (u:=t.ofT.show) rfl rfl rfl rfl rfl (by omega) ?_)
 refine TO.step rfl (OT.concat (s:=[116,121,112,101,32,83,32,115,116,114,117,99,116,32,123,32,102,32]++t.ofT.show) (u:=[59,32,125]) rfl rfl rfl rfl rfl (by rw [List.length_append];omega) ?_)
 refine uA ?_
 refine TO.step rfl (OT.call rfl rfl rfl rfl rfl rfl goes11 ((parse_law program_ne _ _ ([116,121,112,101,32,83,32,115,116,114,117,99,116,32,123,32,102,32]++t.ofT.show++[59,32,125]) (hE.mono hm17)).x ?_));
 rintro _ m8 _ ⟨hm8,rfl,w,rfl,hw⟩
 have hm18:=Mem.le_trans hm17 hm8
 refine uA ?_
 refine TO.step rfl (OT.alloc tab rfl rfl rfl rfl (fun b4 => ?_))
 refine uA ?_
 refine uT ?_
 rcases tree_again hb g1 g2 g3 with hp | hp
 ·rw [hp] at hw ⊢
  refine uL ?_
  refine TO.step rfl (OT.call rfl rfl rfl rfl rfl rfl goes15 ((same_ref (progT t) (progT t) _ _ x w (hx0.mono (Mem.le_trans hm57 hm8)) hw).x ?_));
  rw [teq_refl]
  rintro _ _ _ ⟨rfl,rfl,rfl⟩
  refine uA ?_
  exact retQ_ret rfl uS ⟨hm18,rfl,rfl⟩
 ·rw [hp] at hw ⊢
  refine uA ?_
  exact retQ_ret rfl uS ⟨hm18,rfl,rfl⟩
end Go.Sep

