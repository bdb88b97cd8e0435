/-
  Part 11 of the proof: library, walks and plain laws.
-/
import Derived.Test.YthemafgjfddgbaaGreatDoorB10
set_option linter.unusedVariables false
set_option linter.unusedSimpArgs false
set_option maxHeartbeats 6400000
namespace Go.Sep
open Go.Proofs
attribute [local irreducible] TC TO OT TCallX TCall DO DOt thenQ blockQ retQ At
theorem prefix_2 (l:Str):prefixB [47,47] l=true↔∃ r,l=47::47::r:=by
 constructor
 ·intro h;obtain⟨h1,h2⟩:=prefixB_len h
  match l,h1,h2 with
  | a::b::r,_,h2 =>
   simp at h2;exact⟨r,by rw[h2.1,h2.2]⟩
  | [a],h1,_=>simp at h1
  | [],h1,_=>simp at h1
 ·rintro⟨r,rfl⟩;rfl
theorem blank_law (m:Mem) (L:List Item) (s:Str) (hl:s.length≤70000):TCall Tryz.prog 55 ⟨[strV s]⟩ m L (Ret (.int .i64 ((blk false s:Nat):Int)) m L):=by
 unfold TCall;refine ak Tryz.func55 35 ?_;refine cH (ι:=Nat) [0] rfl (fun n=>[(3,.int .i64 (n:Int))]) (fun _=>m) (fun _=>L) (fun n=>n≤s.length∧blk false s=n+blk false (s.drop n)) (fun n=>s.length-n) 0 uH rfl uS ⟨cn _,by simp⟩ ?_;rintro n ⟨hn,hI⟩;refine uA ?_;refine am (fun g1=>?_) (fun g1=>?_)
 ·have hlt:n<s.length:=mv;have hx:s[n]? = some s[n]:=mG;have hd:=bU hlt;refine uA ?_;refine qs rfl (OT.sidx tab n rfl rfl rfl rfl rfl rfl rfl hx ?_);refine au goes98 (indexByte_law _ _ [9,10,13,32] s[n]) ?_;rw[isSp_ix];refine aO (fun c1=>?_) (fun c1=>?_)
  ·refine uA ?_;refine aa (r':=((n+1:Nat):Int)) uH mv ?_;exact⟨n+1,uH,uH,rfl,rfl,uS,⟨by omega,by rw[hI,hd,blk,if_pos c1];omega⟩,by omega⟩
  ·refine uA ?_;refine ld ?_;refine au goes99 (prefix_law _ _ (s.drop n) [47,47]) ?_;refine aO (fun c2=>?_) (fun c2=>?_)
   ·obtain⟨r,hr⟩:=(prefix_2 _).1 c2;have hb:blk false (s.drop n)=blk true (s.drop n):=by rw[hr];exact blk_rem rfl rfl
    refine uA ?_;refine ld ?_;refine oR goes98 (indexByte_law _ _ (s.drop n) 10) ?_;rcases blk_line (s.drop n)with ⟨k1,k2⟩ | ⟨k,k0,k1,k2,k3⟩
    ·rw[k1];refine jT ?_;rw[hI,hb,k2,bW]
     congr 1;omega
    ·rw[k1];have hk:k≠0:=fun e=>by rw[e,hr]at k3;simp at k3
     rw[bW]at k0;refine uA ?_;refine aa (r':=((n+k:Nat):Int)) uH mv ?_;exact⟨n+k,uH,uH,rfl,rfl,uS,⟨by omega,by rw[hI,hb,k2,List.drop_drop];omega⟩,by omega⟩
   ·refine uA ?_;refine jy ?_;have hb:blk false (s.drop n)=0:=by
     rw[hd,blk,if_neg (by rw[c1];decide),if_neg];rintro⟨h1,h2⟩;refine Bool.eq_false_iff.1 c2 ((prefix_2 _).2 ?_);rw[hd];have h3:s[n]=47:=UInt8.toNat_inj.1 h1;cases hr:s.drop (n+1)with
     | nil=>rw[hr]at h2;cases h2
     | cons x r =>
      rw[hr]at h2;simp at h2;exact⟨r,by rw[h3,h2]⟩
    rw[hI,hb];rfl
 ·refine uA ?_;refine jy ?_;rw[hI,ci mv,blk]
  congr 1
theorem marks_rep {m:Mem} {b:Nat} (h:At m b 0 (encs rStr markL)):SlRep rStr m ⟨some ⟨b,0,none⟩,27,27⟩ markL :=
 ⟨rfl,bF _,(by show 27*16≤_;decide),markL,all_refl2 markL,.inr ⟨b,0,rfl,h⟩⟩
theorem marks_law (m:Mem) (L:List Item):TCall Tryz.prog 108 ⟨[]⟩ m L (Made m L fun r m'=>∃ s:Sl,r=s.v∧SlRep rStr m' s markL):=by
 unfold TCall;refine cK Tryz.func108 rfl 2 rfl ?_;refine uB ?_;refine qs rfl (OT.lit tab rfl rfl rfl rfl (fun b=>?_));refine cX fun m1 hm1 hA1=>?_;refine uA ?_;exact cI rfl uS ⟨hm1,rfl,_,rfl,marks_rep hA1⟩
end Go.Sep
namespace Go.Sep
open Go.Proofs
attribute [local irreducible] TC TO OT TCallX TCall DO DOt thenQ blockQ retQ At
def tokC (t:Tok):List Value:=[.int .i64 t.kind,strV t.text,.int .i64 t.num,.int .i64 t.at_]
@[reducible] def tokV (t:Tok):Value:=.agg ⟨tokC t⟩
def NextR (o:Option (Tok×Nat)) (r:Value):Prop:=∃ t n,r = .tuple ⟨[tokV t,.int .i64 ((n:Nat):Int)]⟩∧(o=some (t,n)∨(o=none∧n=0))
theorem next_law (m:Mem) (L:List Item) (s:Str) (h0:0<s.length) (hl:s.length≤70000) (hE:Errs m):TCall Tryz.prog 56 ⟨[strV s]⟩ m L (Made m L fun r _=>NextR (tokD s) r):=by
 obtain⟨c,r,rfl⟩:∃ c r,s=c::r:=by
  cases s with
  | nil=>simp at h0
  | cons c r=>exact⟨c,r,rfl⟩
 have hx:(c::r)[0]? = some c:=rfl;have hsl:=span_le lod (c::r);unfold TCall;refine ak Tryz.func56 99 ?_;refine aC tab (fun b2=>?_);refine j8 ?_;refine au goes100 (letter_law _ _ c) ?_;refine aO (fun c1=>?_) (fun c1=>?_)
 ·refine uA ?_;refine oC goes102 ((either_law _ _).x ?_);rintro _ m1 _ ⟨hm1,rfl,e1,e2,rfl,hA1,hA2⟩;refine la ?_;refine aU [] df 5 ?_;refine cV tab uC uK [1,2] uK rfl ?_;refine DO.fork 0 [3] uK ⟨⟨_,rfl,rfl,rfl,?_⟩,⟨_,rfl,rfl,rfl,?_⟩,trivial⟩
  ·refine cR rfl rfl rfl rfl rfl rfl goes105 ((words_law _ _).x ?_);rintro _ m2 _ ⟨hm2,rfl,w,rfl,hw⟩;refine⟨hm2,_,a9 _,?_⟩;refine af 3 ?_;refine OT.sub tab 0 (spanOf lod (c::r)) rfl rfl rfl rfl rfl rfl rfl (.inl ⟨rfl,rfl⟩) (.inr rfl) (cn _) hsl ?_;refine jF ?_;exact dS
  ·refine OT.sub tab 0 (spanOf lod (c::r)) rfl rfl rfl rfl rfl rfl rfl (.inl ⟨rfl,rfl⟩) (.inr rfl) (cn _) hsl ?_;refine jF ?_;refine af 0 ?_;refine cR rfl rfl rfl rfl rfl rfl goes105 ((words_law _ _).x ?_);rintro _ m2 _ ⟨hm2,rfl,w,rfl,hw⟩;refine⟨hm2,_,a9 _,?_⟩;exact dS
 ·refine uA ?_;refine j8 ?_;refine au goes103 (digit_law _ _ c) ?_;refine aO (fun c2=>?_) (fun c2=>?_)
  ·refine uA ?_;refine oC goes102 ((either_law _ _).x ?_);rintro _ m1 _ ⟨hm1,rfl,e1,e2,rfl,hA1,hA2⟩;refine la ?_;refine km ?_;have hp:0<spanOf lod (c::r):=span_pos (by unfold lod;rw[c2];simp);have htk:(c::r).take (spanOf lod (c::r))=c::r.take (spanOf lod (c::r)-1):=by
    obtain⟨k,hk⟩:∃ k,spanOf lod (c::r)=k+1:=⟨spanOf lod (c::r)-1,by omega⟩
    rw[hk];rfl
   rw[cB];have c1':¬ltr c=true:=by rw[c1];decide
   refine oC goes106 ((parseInt_law _ _ ((c::r).take (spanOf lod (c::r))) (by rw[htk];simp) (fun x hx=>by rw[htk]at hx;cases hx;exact c2) nv (hE.mono hm1)).x ?_);rintro _ m2 _ ⟨hm2,rfl,⟨v,e1,rfl⟩ | ⟨e1,v,a,b,rfl⟩⟩
   ·refine uA ?_;refine aK (.inl rfl) ?_;refine j8 ?_;refine uA ?_
    (first | refine TO.splitP rfl rfl (fun c3=>?_) (fun c3=>?_) | refine cL rfl rfl (fun c3=>?_) (fun c3=>?_) | refine TO.split rfl rfl (fun c3=>?_) (fun c3=>?_))
    ·refine uA ?_
     (first | refine TO.splitP rfl rfl (fun c5=>?_) (fun c5=>?_) | refine cL rfl rfl (fun c5=>?_) (fun c5=>?_) | refine TO.split rfl rfl (fun c5=>?_) (fun c5=>?_))
     ·skip;refine jE ?_;refine aF (L':=L) 0 ⟨(cD hm1 hm2),rfl,?_⟩;refine⟨⟨0,[],0,0⟩,0,rfl,.inr ⟨?_,rfl⟩⟩;rw[tokD,if_neg c1',if_pos c2,e1];simp only;rw[if_pos (.inl mv)]
     ·exact ez
    ·exact ez
   ·refine uA ?_;refine lk ?_;refine jx ?_;refine aF (L':=L) 0 ⟨(cD hm1 hm2),rfl,?_⟩;refine⟨⟨0,[],0,0⟩,0,rfl,.inr ⟨?_,rfl⟩⟩;rw[tokD,if_neg c1',if_pos c2,e1]
  ·refine uA ?_;refine j8 ?_;refine uA ?_;have c1':¬ltr c=true:=by rw[c1];decide
   have c2':¬dgt c=true:=by rw[c2];decide
   refine am (fun c3=>?_) (fun c3=>?_)
   ·refine uA ?_;refine oC goes107 ((literal_law _ _ (c::r) h0 hl hE).x ?_);rintro _ m1 _ ⟨hm1,rfl,rfl⟩;show TO _ _ _ _ ((_,litR (lit r))::_) _ _ _ _;have hD:tokD (c::r)=(match lit r with
     | none=>none
     | some (t,n)=>if 1024<t.length then none else some (⟨3,t,0,0⟩,n+1)):=by
     rw[tokD,if_neg c1',if_neg c2',if_pos mv]
     try rfl
    rcases hlit:lit r with _ | ⟨t,n⟩
    ·rw[hlit]at hD;show TO _ _ _ _ ((_,.tuple ⟨[strV [],.int .i64 0]⟩)::_) _ _ _ _;refine jE ?_;refine lL ?_;refine⟨⟨3,[],0,0⟩,0,rfl,.inr ⟨?_,rfl⟩⟩;rw[hD]
    ·rw[hlit]at hD;show TO _ _ _ _ ((_,.tuple ⟨[strV t,.int .i64 ((n+1:Nat):Int)]⟩)::_) _ _ _ _;refine uA ?_;refine am (fun c4=>?_) (fun c4=>?_)
     ·refine uA ?_;refine jx ?_;refine lL ?_;refine⟨⟨3,t,0,0⟩,0,rfl,.inr ⟨?_,rfl⟩⟩;rw[hD];simp only;rw[if_pos mv]
     ·refine uA ?_;refine jx ?_;refine lL ?_;refine⟨⟨3,t,0,0⟩,n+1,rfl,.inl ?_⟩;rw[hD];simp only;rw[if_neg mv]
   ·refine uA ?_;refine oC goes108 ((marks_law _ _).x ?_);rintro _ m1 _ ⟨hm1,rfl,w,rfl,hw⟩;refine uA ?_;have hwl:w.len=27:=hw.len;rw[hwl];have hD:tokD (c::r)=(match markL.find? (fun p=>prefixB p (c::r))with
     | none=>none
     | some p=>some (⟨4,p,0,0⟩,p.length)):=by
     rw[tokD,if_neg c1',if_neg c2',if_neg mv]
     try rfl
    refine cH (ι:=Nat) [0,2,84,85] rfl (fun k=>[(86,.int .i64 (k:Int))]) (fun _=>m1) (fun _=>.cells b2 0 (tokC ⟨0,[],0,0⟩)::L) (fun k=>k≤27∧markL.find? (fun p=>prefixB p (c::r))=(markL.drop k).find? (fun p=>prefixB p (c::r))) (fun k=>27-k) 0 uH rfl uS ⟨cn _,rfl⟩ ?_;rintro k ⟨hk,hI⟩;have hml:markL.length=27:=rfl;refine uA ?_;refine am (fun g1=>?_) (fun g1=>?_)
    ·have hlt:k<markL.length:=mv;have hx:markL[k]? = some markL[k]:=mG;refine uA ?_;refine ar tab rStr k hw uH mD rfl hx ?_;rintro b i hd rfl hA
     (first | refine qs rfl (OT.loadA tab hA rfl rfl rfl rfl rfl ?_) | refine oL tab hA ?_)
     refine uA ?_;refine au goes99 (prefix_law _ _ (c::r) markL[k]) ?_;refine aO (fun g2=>?_) (fun g2=>?_)
     ·refine uA ?_;refine jx ?_;refine lL ?_;refine⟨⟨4,markL[k],0,0⟩,markL[k].length,rfl,.inl ?_⟩;rw[hD,hI,bU hlt,List.find?_cons_of_pos (p:=fun p=>prefixB p (c::r)) g2]
     ·refine uA ?_;refine jA ?_;exact⟨k+1,uH,uH,rfl,rfl,uS,⟨by omega,by rw[hI,bU hlt,List.find?_cons_of_neg (p:=fun p=>prefixB p (c::r)) (by show ¬prefixB markL[k] (c::r)=true;rw[g2];decide)]⟩,by omega⟩
    ·skip;refine jE ?_;refine lL ?_;refine⟨⟨0,[],0,0⟩,0,rfl,.inr ⟨?_,rfl⟩⟩;rw[hD,hI,ci mv];rfl
end Go.Sep
namespace Go.Sep
open Go.Proofs
attribute [local irreducible] TC TO OT TCallX TCall DO DOt thenQ blockQ retQ At
def rTok : R Tok Tok where
 size:=4
 bytes:=40
 enc t:=tokC t
 rep _ h a:=h=a
 enc_len _:=rfl
 one _:=rfl
 mono _ h:=h
def joinE (l:List Tok):Except (Nat×Int) (List Tok)→Except (Nat×Int) (List Tok)
 | .error e=>.error e
 | .ok l'=>.ok (l++l')
def CutAt (s:Str) (at_:Nat) (l:List Tok) (res:Except (Nat×Int) (List Tok)):Prop:=∃ f,s.length<at_+f∧res=joinE l (cutF f (s.drop at_) at_ l.length)
theorem CutAt.start (s:Str):CutAt s 0 [] (cutF (s.length+1) s 0 0):=by
 refine⟨s.length+1,by omega,?_⟩;rw[cB];show _=joinE [] (cutF (s.length+1) s 0 0);cases cutF (s.length+1) s 0 0<;>rfl
section
variable {s:Str} {a:Nat} {l:List Tok} {res:Except (Nat×Int) (List Tok)}
theorem CutAt.pos (h:CutAt s a l res) (ha:a≤s.length):∃ f,s.length<a+(f+1)∧res=joinE l (cutF (f+1) (s.drop a) a l.length):=by
 obtain⟨f,h1,h2⟩:=h;cases f with
 | zero=>omega
 | succ f=>exact⟨f,h1,h2⟩
theorem CutAt.end_ (h:CutAt s a l res) (ha:a≤s.length) (hb:a+blk false (s.drop a)=s.length):res = .ok l:=by
 obtain⟨f,h1,h2⟩:=h.pos ha;rw[h2,cutF,List.drop_drop,ci mv,if_pos rfl];simp[joinE]
theorem drop_ne {s:Str} {k:Nat} (h:k<s.length):s.drop k≠[]:=fun e=>by
 have:=congrArg List.length e;simp at this;omega
theorem CutAt.large (h:CutAt s a l res) (ha:a≤s.length) (hb:a+blk false (s.drop a)<s.length) (hl:l.length=20000):res = .error (a+blk false (s.drop a),4):=by
 obtain⟨f,h1,h2⟩:=h.pos ha;rw[h2,cutF,List.drop_drop,if_neg (drop_ne hb),if_pos hl];rfl
theorem CutAt.text (h:CutAt s a l res) (ha:a≤s.length) (hb:a+blk false (s.drop a)<s.length) (hl:l.length≠20000) (ht:tokD (s.drop (a+blk false (s.drop a)))=none):res = .error (a+blk false (s.drop a),3):=by
 obtain⟨f,h1,h2⟩:=h.pos ha;rw[h2,cutF,List.drop_drop,if_neg (drop_ne hb),if_neg hl,ht];rfl
theorem CutAt.go (h:CutAt s a l res) (ha:a≤s.length) (hb:a+blk false (s.drop a)<s.length) (hl:l.length≠20000) {t:Tok} {n:Nat} (ht:tokD (s.drop (a+blk false (s.drop a)))=some (t,n)) :
  CutAt s (a+blk false (s.drop a)+n) (l++[⟨t.kind,t.text,t.num,((a+blk false (s.drop a):Nat):Int)⟩]) res:=by
 obtain⟨f,h1,h2⟩:=h.pos ha;have hn:=(tokD_le ht).1;refine⟨f,by omega,?_⟩;rw[h2,cutF,List.drop_drop,if_neg (drop_ne hb),if_neg hl,ht];simp only[List.drop_drop,a6,a7,a8];cases cutF f (s.drop (a+blk false (s.drop a)+n)) (a+blk false (s.drop a)+n) (l.length+1)with
 | error e=>rfl
 | ok l'=>simp[joinE]
end
structure ScanS where
 m:Mem
 sl:Sl
 l:List Tok
 a:Nat
def ScanR (c:Cut) (r:Value) (m':Mem):Prop:=∃ sl:Sl,r = .tuple ⟨[sl.v,.int .i64 ((c.at_:Nat):Int),.int .i64 c.e]⟩∧SlRep rTok m' sl c.list
theorem scan_law (m:Mem) (L:List Item) (s:Str) (hE:Errs m):TCall Tryz.prog 28 ⟨[strV s]⟩ m L (Made m L fun r m'=>ScanR (scanD s) r m'):=by
 unfold TCall;refine ak Tryz.func28 44 ?_;refine am (fun c0=>?_) (fun c0=>?_)
 ·refine uA ?_;refine jL ?_;rw[scanD,if_pos mv];exact jd
 have hD:scanD s = .of (cutF (s.length+1) s 0 0):=by rw[scanD,if_neg mv]
 refine uA ?_;refine cY (size:=4) ?_;refine cH (ι:=ScanS) [0] rfl (fun x=>[(2,x.sl.v),(3,.int .i64 (x.a:Int))]) (fun x=>x.m) (fun x=>tok x.sl 4::L) (fun x=>m≤x.m∧x.a≤s.length∧SlRep rTok x.m x.sl x.l∧Own x.sl∧x.l.length≤20000∧CutAt s x.a x.l (cutF (s.length+1) s 0 0)) (fun x=>s.length-x.a) ⟨m,⟨none,0,0⟩,[],0⟩ uH rfl uS ⟨cC _,cn _,cS _ _,cZ,cn _,CutAt.start s⟩ ?_;rintro⟨m1,sl,l,a⟩ ⟨hm,ha,hsl,hown,hll,hI⟩;replace hm:m≤m1:=hm;replace ha:a≤s.length:=ha;replace hsl:SlRep rTok m1 sl l:=hsl;replace hown:Own sl:=hown;replace hll:l.length≤20000:=hll;replace hI:CutAt s a l (cutF (s.length+1) s 0 0):=hI;show TC _ _ _ ((2,sl.v)::(3,.int .i64 (a:Int))::_) _ m1 (tok sl 4::L) _;have hlen:=hsl.len;have hb:=blk_le false (s.drop a);rw[bW]at hb;refine uA ?_;refine qs rfl (OT.sub tab a s.length rfl rfl rfl rfl rfl rfl rfl (.inr rfl) (.inl ⟨rfl,rfl⟩) mv mv ?_);rw[List.take_length];refine oR goes55 (blank_law _ _ (s.drop a) ng) ?_;refine uA ?_;refine aa (r':=((a+blk false (s.drop a):Nat):Int)) uH mv ?_;refine am (fun c1=>?_) (fun c1=>?_)
 ·refine uA ?_;refine lO ?_;rw[hD,hI.end_ ha mv];exact⟨sl,rfl,hsl⟩
 refine uA ?_;refine am (fun c2=>?_) (fun c2=>?_)
 ·refine uA ?_;refine lO ?_;rw[hD,hI.large ha mv mv];exact jd
 refine uA ?_;refine qs rfl (OT.sub tab (a+blk false (s.drop a)) s.length rfl rfl rfl rfl rfl rfl rfl (.inr rfl) (.inl ⟨rfl,rfl⟩) mv mv ?_);rw[List.take_length];refine oC goes56 ((next_law _ _ (s.drop (a+blk false (s.drop a))) ng ng (hE.mono hm)).x ?_);rintro _ m2 _ ⟨hm2,rfl,t,n,rfl,hn⟩;refine uA ?_;refine aC tab (fun b5=>?_);refine jx ?_;rcases hn with hn | ⟨hn,rfl⟩
 ·have hnl:=tokD_le hn;rw[bW]at hnl;refine am (fun c3=>?_) (fun c3=>?_)
  ·omega
  refine jE ?_;refine j5 ?_;refine qs rfl (OT.lit tab rfl rfl rfl rfl (fun b=>?_));refine qs rfl (OT.append1 tab rTok 1 (hd':=⟨t.kind,t.text,t.num,((a+blk false (s.drop a):Nat):Int)⟩) (a:=⟨t.kind,t.text,t.num,((a+blk false (s.drop a):Nat):Int)⟩) (hsl.mono hm2) hown rfl rfl rfl rfl rfl rfl rfl rfl (by show(l.length+1)*40≤_;omega) (fun s' m3 hm3 hs3 ho3=>?_));refine uA ?_;refine aa (r':=((a+blk false (s.drop a)+n:Nat):Int)) uH mv ?_;exact⟨⟨m3,s',l++[⟨t.kind,t.text,t.num,((a+blk false (s.drop a):Nat):Int)⟩],a+blk false (s.drop a)+n⟩,uH,uH,rfl,rfl,uS,⟨cD hm (cD hm2 hm3),by show _+n≤_;omega,hs3,ho3,by show(l++[_]).length≤_;rw[a6];simp only[a7,a8];omega,hI.go ha mv mv hn⟩,by show s.length-(_+n)<s.length-a;omega⟩
 ·refine uA ?_;refine ag ⟨cD hm hm2,rfl,?_⟩;rw[hD,hI.text ha mv mv hn];exact jd
end Go.Sep
namespace Go.Sep
attribute [local irreducible] TC TO OT TCallX TCall DO DOt thenQ blockQ retQ At
theorem pfr1 {α:Type} {a0 a1:α} {l:List α}:(a0::a1::l).Perm (a1::a0::l):=ba _ _ _
theorem pfr2 {α:Type} {a0 a1 a2:α} {l:List α}:(a0::a1::a2::l).Perm (a2::a0::a1::l):=be (bg _ pfr1) (ba _ _ _)
theorem pfr3 {α:Type} {a0 a1 a2 a3:α} {l:List α}:(a0::a1::a2::a3::l).Perm (a3::a0::a1::a2::l):=be (bg _ pfr2) (ba _ _ _)
theorem pfr4 {α:Type} {a0 a1 a2 a3 a4:α} {l:List α}:(a0::a1::a2::a3::a4::l).Perm (a4::a0::a1::a2::a3::l):=be (bg _ pfr3) (ba _ _ _)
structure PE where
 src:Str
 list:Sl
 toks:List Tok
 p:Nat
 N:Nat
def PE.f (E:PE):Ps.F:=fun i=>match E.toks[i]? with
 | some t=>some ⟨t.kind,t.text,t.num⟩
 | none=>none
structure PE.Ok (E:PE) (m:Mem):Prop where
 rep:SlRep rTok m E.list E.toks
 few:E.toks.length≤20000
 rows:E.N≤20001
 pos:1≤E.N
theorem PE.Ok.mono {E:PE} {m m':Mem} (h:E.Ok m) (hm:m≤m'):E.Ok m':=⟨h.rep.mono hm,h.few,h.rows,h.pos⟩
@[reducible] def PE.I (E:PE) (k:Nat) (h:Int):Item:=.cells E.p 0 [strV E.src,E.list.v,.int .i64 (k:Int),.int .i64 h]
@[reducible] def PE.v (E:PE):Value:=.pointer (some ⟨E.p,0,none⟩)
def PE.place (E:PE) (k:Nat):Int:=match E.toks[k]? with
 | some t=>t.at_
 | none=>(E.src.length:Int)
def PE.flt (E:PE) (k:Nat):List PanicEntry:=[{ v:=.iface 60 (.agg ⟨[.int .i64 (E.place k)]⟩),recovered:=false }]
abbrev RV (α:Type):=Mem→Value→List Item→α→Prop
def vTree : RV Tree:=fun m v X t=>∃ h,v=treeV h∧X=[]∧TreeRep m h t
def vList : RV (List Tree):=fun m v X l=>∃ s,v=s.v∧X=[tok s 4]∧SlRep rTree m s l∧Own s∧l.length≤20001
def vSl : RV (List Tree):=fun m v X l=>∃ s,v=s.v∧X=[]∧SlRep rTree m s l∧l.length≤20001
def pR {α:Type} (E:PE) (V:RV α) (T:Ps.Res α) (m:Mem) (L:List Item) (h:Int):Value→Mem→List Item→Prop :=
 fun v m' L'=>∃ a k' xs,T = .ok a k'∧m≤m'∧k'≤E.toks.length∧V m' v xs a∧L'=E.I k' h::(xs++L)
def pX {α:Type} (E:PE) (T:Ps.Res α) (m:Mem) (L:List Item):List PanicEntry→Mem→List Item→Prop :=
 fun ch m' L'=>∃ k' h',T = .bad k'∧m≤m'∧k'≤E.toks.length∧ch=E.flt k'∧L'=E.I k' h'::L
def Par {α:Type} (P:Program) (mb:Mem) (E:PE) (V:RV α) (f:FuncId) (args:List Value) (h:Int) (X:Ps.Pp α):Prop :=
 ∀(m:Mem) (L:List Item) (k:Nat),mb≤m→E.Ok m→k≤E.toks.length→X E.f k≠.out→TCallX P f ⟨args⟩ m (E.I k h::L) (pR E V (X E.f k) m L h) (pX E (X E.f k) m L)
theorem Par.enter {α:Type} {P:Program} {mb:Mem} {E:PE} {V:RV α} {f:FuncId} {args:List Value} {h:Int} {X:Ps.Pp α} {fn:Func} {c:Code} (hf:P.funcs[f]? = some fn) (hb:fn.body=some c) (N:Nat) (hN:Nat.ble N fn.ntmps=true)
  (hK:∀(m:Mem) (L:List Item) (k:Nat) (T:Ps.Res α),mb≤m→E.Ok m→k≤E.toks.length→T=X E.f k→T≠.out→TC P N c (argEnv args 0) [] m (E.I k h::L) (retQ P fn (pR E V T m L h) (pX E T m L))):Par P mb E V f args h X :=
 fun m L k h0 h1 h2 h3=>cK hf hb N hN (hK m L k _ h0 h1 h2 rfl h3)
theorem Par.up {α:Type} {P:Program} {mb mb':Mem} {E:PE} {V:RV α} {f:FuncId} {args:List Value} {h:Int} {X:Ps.Pp α} (hp:Par P mb E V f args h X) (hm:mb≤mb'):Par P mb' E V f args h X:=fun m L k h0=>hp m L k (cD hm h0)
def Bad {β:Type} (Q:EPost) (E:PE) (T:Ps.Res β) (m:Mem) (L:List Item):Prop:=∀ ρ m' k h L',m≤m'→k≤E.toks.length→T = .bad k→L.Sublist L'→Q (.panic (E.flt k)) ρ [] m' (E.I k h::L')
theorem Bad.ret {β:Type} {P:Program} {fn:Func} {R:Value→Mem→List Item→Prop} {E:PE} {T:Ps.Res β} {m:Mem} {L:List Item}:Bad (retQ P fn R (pX E T m L)) E T m L :=
 fun ρ m' k h L' h1 h2 h3 h4=>retQ_p (L':=E.I k h::L) (bX _ h4) ⟨k,h,h3,h1,h2,rfl,rfl⟩
theorem Bad.then {β:Type} {Q:EPost} {K:Env→List Deferred→Mem→List Item→Prop} {E:PE} {T:Ps.Res β} {m:Mem} {L:List Item} (h:Bad Q E T m L):Bad (thenQ K Q) E T m L:=fun ρ m' k hd L' h1 h2 h3 h4=>thenQ_p (h ρ m' k hd L' h1 h2 h3 h4)
theorem Bad.block {β:Type} {Q:EPost} {i:Nat} {E:PE} {T:Ps.Res β} {m:Mem} {L:List Item} (h:Bad Q E T m L):Bad (blockQ i Q) E T m L:=fun ρ m' k hd L' h1 h2 h3 h4=>blockQ_p (h ρ m' k hd L' h1 h2 h3 h4)
theorem bind_out' {α β:Type} {p:Ps.Pp α} {g:α→Ps.Pp β} {f:Ps.F} {k:Nat} {T:Ps.Res β} (hT:T=Ps.bind p g f k) (hn:T≠.out):p f k≠.out:=fun h=>hn (by rw[hT];unfold Ps.bind;rw[h])
section
variable {P:Program} {N:Nat} {ρ:Env} {m:Mem} {L:List Item} {Q:EPost} {o:Oper} {K:Env→Mem→List Item→Prop} {E:PE} {α β:Type}
theorem OT.parG {V:RV α} {FF:Operand} {args:List Operand} {ats:Array TypeId} {f:FuncId} {first cap vs all:List Value} {d:Nat} {h:Int} {p:Ps.Pp α} {g:α→Ps.Pp β} {T:Ps.Res β} {k:Nat} {m0 mb:Mem} {L0:List Item}
  (ho:o.op = .call ⟨.value FF,⟨args⟩,ats⟩) (hd:o.dst=some d) (hN:Nat.blt d N=true)
  (hF:ev ρ FF=some (.func (.func f) ⟨first⟩ ⟨cap⟩)) (ha:evs ρ args=some vs) (hall:fl (first++(vs++cap))=some all) (hg:Goes P f)
  (hp:Par P mb E V f all h p) (hq:mb≤m) (hT:T=Ps.bind p g E.f k) (hn:T≠.out) (hE:E.Ok m) (hk:k≤E.toks.length) (hb:Bad Q E T m0 L0) (hm:m0≤m) (hL:L0.Sublist L)
  (hK:∀ v m' a k' xs,T=g a E.f k'→m≤m'→k'≤E.toks.length→V m' v xs a→K ((d,v)::ρ) m' (E.I k' h::(xs++L))):OT P N o ρ [] m (E.I k h::L) Q K:=by
 refine cR ho hd hN hF ha hall hg (cE (hp m L k hq hE hk (bind_out' hT hn)) ?_ ?_)
 ·exact gR
 ·exact gC
section
variable {FF:Operand} {args:List Operand} {ats:Array TypeId} {f:FuncId} {first cap vs all:List Value} {d:Nat} {h:Int} {T:Ps.Res β} {k:Nat} {m0 mb:Mem} {L0:List Item}
theorem OT.parT {p:Ps.Pp Tree} {g:Tree→Ps.Pp β} (hp:Par P mb E vTree f all h p) (hq:mb≤m) (hT:T=Ps.bind p g E.f k) (hn:T≠.out) (hE:E.Ok m) (hk:k≤E.toks.length) (hb:Bad Q E T m0 L0) (hm:m0≤m) (hL:L0.Sublist L)
  (ho:o.op = .call ⟨.value FF,⟨args⟩,ats⟩) (hd:o.dst=some d) (hN:Nat.blt d N=true)
  (hF:ev ρ FF=some (.func (.func f) ⟨first⟩ ⟨cap⟩)) (ha:evs ρ args=some vs) (hall:fl (first++(vs++cap))=some all) (hg:Goes P f)
  (hK:∀ x m' a k',T=g a E.f k'→m0≤m'→E.Ok m'→m≤m'→k'≤E.toks.length→TreeRep m' x a→K ((d,treeV x)::ρ) m' (E.I k' h::L)):OT P N o ρ [] m (E.I k h::L) Q K :=
 OT.parG ho hd hN hF ha hall hg hp hq hT hn hE hk hb hm hL fun v m' a k' xs h1 h2 h3 h4=>by
  exact iz
theorem OT.parL {p:Ps.Pp (List Tree)} {g:List Tree→Ps.Pp β} (hp:Par P mb E vList f all h p) (hq:mb≤m) (hT:T=Ps.bind p g E.f k) (hn:T≠.out) (hE:E.Ok m) (hk:k≤E.toks.length) (hb:Bad Q E T m0 L0) (hm:m0≤m) (hL:L0.Sublist L)
  (ho:o.op = .call ⟨.value FF,⟨args⟩,ats⟩) (hd:o.dst=some d) (hN:Nat.blt d N=true)
  (hF:ev ρ FF=some (.func (.func f) ⟨first⟩ ⟨cap⟩)) (ha:evs ρ args=some vs) (hall:fl (first++(vs++cap))=some all) (hg:Goes P f)
  (hK:∀(x:Sl) m' a k',T=g a E.f k'→m0≤m'→E.Ok m'→m≤m'→k'≤E.toks.length→SlRep rTree m' x a→Own x→a.length≤20001→K ((d,x.v)::ρ) m' (E.I k' h::tok x 4::L)):OT P N o ρ [] m (E.I k h::L) Q K :=
 OT.parG ho hd hN hF ha hall hg hp hq hT hn hE hk hb hm hL fun v m' a k' xs h1 h2 h3 h4=>by
  obtain⟨x,rfl,rfl,h5,h6,h7⟩:=h4;exact hK x m' a k' h1 (cD hm h2) (hE.mono h2) h2 h3 h5 h6 h7
theorem OT.parS {p:Ps.Pp (List Tree)} {g:List Tree→Ps.Pp β} (hp:Par P mb E vSl f all h p) (hq:mb≤m) (hT:T=Ps.bind p g E.f k) (hn:T≠.out) (hE:E.Ok m) (hk:k≤E.toks.length) (hb:Bad Q E T m0 L0) (hm:m0≤m) (hL:L0.Sublist L)
  (ho:o.op = .call ⟨.value FF,⟨args⟩,ats⟩) (hd:o.dst=some d) (hN:Nat.blt d N=true)
  (hF:ev ρ FF=some (.func (.func f) ⟨first⟩ ⟨cap⟩)) (ha:evs ρ args=some vs) (hall:fl (first++(vs++cap))=some all) (hg:Goes P f)
  (hK:∀(x:Sl) m' a k',T=g a E.f k'→m0≤m'→E.Ok m'→m≤m'→k'≤E.toks.length→SlRep rTree m' x a→a.length≤20001→K ((d,x.v)::ρ) m' (E.I k' h::L)):OT P N o ρ [] m (E.I k h::L) Q K :=
 OT.parG ho hd hN hF ha hall hg hp hq hT hn hE hk hb hm hL fun v m' a k' xs h1 h2 h3 h4=>by
  exact ip
end
theorem DOt.perm {ops:List Oper} {ts:List Nat} {fuel:Nat} {listed:List Bool} {D:List Deferred} {L':List Item} (hp:L.Perm L') (h:DOt P N ops ts fuel listed ρ D m L' Q):DOt P N ops ts fuel listed ρ D m L Q:=by
 unfold DOt at h ⊢;exact fun a w ha=>h a w (ha.perm hp)
end
end Go.Sep
namespace Go
abbrev dw := @Sep.Par.enter
abbrev dx := @Sep.Bad.ret
abbrev dy := @Sep.Bad.then
abbrev dz := @Sep.Bad.block
abbrev dA := @Sep.OT.parT
end Go
namespace Go.Sep
open Go.Proofs
attribute [local irreducible] TC TO OT TCallX TCall DO DOt thenQ blockQ retQ At
theorem PE.f_some {E:PE} {k:Nat} (h:k<E.toks.length):E.f k=some ⟨(E.toks[k]).kind,(E.toks[k]).text,(E.toks[k]).num⟩:=by
 unfold PE.f;rw[bm h]
theorem PE.f_none {E:PE} {k:Nat} (h:E.toks.length≤k):E.f k=none:=by
 unfold PE.f;rw[List.getElem?_eq_none h]
theorem PE.isM {E:PE} {k:Nat} (h:k<E.toks.length) (s:Str):Ps.isM s E.f k=((decide ((E.toks[k]).kind=4)||decide ((E.toks[k]).kind=5))&&decide ((E.toks[k]).text=s)):=by
 unfold Ps.isM;rw[PE.f_some h]
theorem PE.isM_no {E:PE} {k:Nat} (h:E.toks.length≤k) (s:Str):Ps.isM s E.f k=false:=by
 unfold Ps.isM;rw[PE.f_none h]
theorem PE.isK {E:PE} {k:Nat} (h:k<E.toks.length) (c:Int):Ps.isK c E.f k=decide ((E.toks[k]).kind=c):=by
 unfold Ps.isK;rw[PE.f_some h]
theorem PE.isK_no {E:PE} {k:Nat} (h:E.toks.length≤k) (c:Int):Ps.isK c E.f k=false:=by
 unfold Ps.isK;rw[PE.f_none h]
section
variable {E:PE} {m:Mem} {L:List Item} {k:Nat} {h:Int}
theorem peek_law (s:Str) (hE:E.Ok m) (hk:k≤E.toks.length):TCall Tryz.prog 144 ⟨[E.v,strV s]⟩ m (E.I k h::L) (Ret (.bool (Ps.isM s E.f k)) m (E.I k h::L)):=by
 have hlen:=hE.rep.len;unfold TCall;refine ak Tryz.func144 40 ?_;refine aU [] df 10 ?_;refine jH ?_;refine jW ?_;refine aN ?_
 rotate_left 1
 refine uA ?_;refine am (fun c0=>?_) (fun c0=>?_)
 ·refine uA ?_;refine jy ?_;rw[PE.isM_no mv]
 have hlt:k<E.toks.length:=mv;have hx:E.toks[k]? = some E.toks[k]:=bm hlt;refine uA ?_;refine TC.draw [11] df 12 rfl [E.I k h] L uP ?_;refine jH ?_;refine lS ?_;rintro b i hd hr hA;obtain rfl:=(show hd=E.toks[k] from hr)
 refine ai (k:=0) 9 hA ?_;refine af 10 ?_;refine OT.alloc tab rfl rfl rfl rfl (fun bx=>?_);refine⟨cC _,.cells bx 0 [.int .i64 0,.string ⟨#[]⟩,.int .i64 0,.int .i64 0]::L,ba _ _ _,?_⟩;refine cW ?_;refine aB 11 ?_;refine aD 1 ?_;refine aH ?_
 rotate_left 1
 repeat' (first|(first|refine q1 ?_|refine q3 ?_|refine q4 tab rfl rfl ?_|refine q5 ?_|refine q6 ?_|refine q15 ?_)|(refine qs rfl (ql tab 1 rfl rfl rfl rfl rfl rfl ?_))|(refine TO.splitP rfl rfl (fun hb=>?_) (fun hb=>?_)))
 all_goals
  refine jy ?_;rw[PE.isM hlt]
  simp_all []
@[reducible] def PE.step (E:PE) (s:Str) (k:Nat):Nat:=bif Ps.isM s E.f k then k+1 else k
theorem PE.isM_lt {s:Str} (h:Ps.isM s E.f k=true):k<E.toks.length:=by
 rcases Nat.lt_or_ge k E.toks.length with hl | hl
 ·exact hl
 ·rw[PE.isM_no hl]at h;cases h
theorem PE.isK_lt {c:Int} (h:Ps.isK c E.f k=true):k<E.toks.length:=by
 rcases Nat.lt_or_ge k E.toks.length with hl | hl
 ·exact hl
 ·rw[PE.isK_no hl]at h;cases h
theorem take_law (s:Str) (hE:E.Ok m) (hk:k≤E.toks.length):TCall Tryz.prog 109 ⟨[E.v,strV s]⟩ m (E.I k h::L) (Ret (.bool (Ps.isM s E.f k)) m (E.I (E.step s k) h::L)):=by
 have hfew:=hE.few;unfold TCall;refine ak Tryz.func109 15 ?_;refine au goes144 (peek_law s hE hk) ?_;unfold PE.step;cases hb:Ps.isM s E.f k with
 | true =>
  refine lr ?_;refine jA ?_;refine aj (k:=2) 0 ?_;refine ag (L':=E.I (k+1) h::L) ⟨rfl,rfl,rfl⟩
 | false =>
  refine uA ?_;refine ag (L':=E.I k h::L) ⟨rfl,rfl,rfl⟩
theorem place_law (hE:E.Ok m) (hk:k≤E.toks.length):TCall Tryz.prog 177 ⟨[E.v]⟩ m (E.I k h::L) (Ret (.int .i64 (E.place k)) m (E.I k h::L)):=by
 have hlen:=hE.rep.len;unfold TCall;refine ak Tryz.func177 29 ?_;refine aU [] df 10 ?_;refine jH ?_;refine jW ?_;refine aN ?_
 rotate_left 1
 refine uA ?_;refine am (fun c0=>?_) (fun c0=>?_)
 ·have hlt:k<E.toks.length:=mv;have hx:E.toks[k]? = some E.toks[k]:=bm hlt;refine uA ?_;refine aU [] df 12 ?_;refine jH ?_;refine lS ?_;rintro b i hd hr hA;obtain rfl:=(show hd=E.toks[k] from hr)
  refine cV tab uC uK [9] uK rfl ?_;refine ai 10 hA ?_;refine mc ?_;refine aN ?_
  rotate_left 1
  refine jT ?_;unfold PE.place;rw[hx]
 ·refine uA ?_;refine uM ?_;refine jT ?_;unfold PE.place;rw[List.getElem?_eq_none mv]
theorem stop_law (hE:E.Ok m) (hk:k≤E.toks.length):TCallX Tryz.prog 146 ⟨[E.v]⟩ m (E.I k h::L) (fun _ _ _=>False) (fun ch m' L'=>m'=m∧ch=E.flt k∧L'=E.I k h::L):=by
 refine ak Tryz.func146 6 ?_;refine au goes177 (place_law hE hk) ?_;refine ax ?_;refine qs rfl (OT.panic rfl rfl ?_);exact retQ_p (L':=E.I k h::L) uS ⟨rfl,rfl,rfl⟩
theorem is_law (c:Int) (hE:E.Ok m) (hk:k≤E.toks.length):TCall Tryz.prog 147 ⟨[E.v,.int .i64 c]⟩ m (E.I k h::L) (Ret (.bool (Ps.isK c E.f k)) m (E.I k h::L)):=by
 have hlen:=hE.rep.len;unfold TCall;refine ak Tryz.func147 30 ?_;rcases Nat.lt_or_ge k E.toks.length with hlt | hge
 ·have hx:E.toks[k]? = some E.toks[k]:=bm hlt;refine aU [] df 26 ?_;refine jH ?_;refine cV tab uC uK [8,9,10] uK rfl ?_;refine DO.splitP (d:=15) rfl (fun hg10=>?_) (fun hg10=>?_);refine cV tab uC uK [11,12,13] uK rfl ?_;refine ae 14 0 ?_;refine cV tab uC uK [15,16,17] uK rfl ?_;refine ae 18 0 ?_;refine DO.index tab rTok 19 k hE.rep uC uK uK rfl rfl rfl rfl rfl rfl rfl mR rfl hx ?_;rintro b i hd hr hA;obtain rfl:=(show hd=E.toks[k] from hr)
  refine cV tab uC uK [20] uK rfl ?_;refine ai 21 hA ?_;refine cV tab uC uK [22,23,24,25] uK rfl ?_;refine aN ?_
  rotate_left 1
  ·first | (exfalso;omega) | exact absurd rfl hg10 | exact absurd (by assumption) hg10 | contradiction
  refine jT ?_;rw[PE.isK hlt]
 ·refine aU [] df 26 ?_;refine jH ?_;refine cV tab uC uK [8,9,10] uK rfl ?_;refine DO.splitP (d:=15) rfl (fun hg10=>?_) (fun hg10=>?_)
  ·first | (exfalso;omega) | exact absurd rfl hg10 | exact absurd (by assumption) hg10 | contradiction
  refine cV tab uC uK [11,12,13,14,15,16,17,18,19,20,21,22,23,24,25] uK rfl ?_;refine aN ?_
  rotate_left 1
  refine jT ?_;rw[PE.isK_no hge]
end
end Go.Sep
namespace Go.Ps
variable {α β:Type}
theorem tok_t {s:Sep.Str} {A B:Pp α} {f:F} {k:Nat} (h:isM s f k=true):tok s A B f k=A f (k+1):=by unfold tok;rw[h];rfl
theorem tok_f {s:Sep.Str} {A B:Pp α} {f:F} {k:Nat} (h:isM s f k=false):tok s A B f k=B f k:=by unfold tok;rw[h];rfl
theorem peek_t' {q:F→Nat→Bool} {A B:Pp α} {f:F} {k:Nat} (h:q f k=true):peek q A B f k=A f k:=by unfold peek;rw[h];rfl
theorem peek_f' {q:F→Nat→Bool} {A B:Pp α} {f:F} {k:Nat} (h:q f k=false):peek q A B f k=B f k:=by unfold peek;rw[h];rfl
theorem name_t {A:Sep.Str→Pp α} {f:F} {k:Nat} {t:Tk} (h:f k=some t) (hk:t.kind=1):name A f k=A t.text f (k+1):=by
 unfold name tkn;rw[h];simp only[hk];rfl
theorem name_f {A:Sep.Str→Pp α} {f:F} {k:Nat} (h:isK 1 f k=false):name A f k = .bad k:=by
 unfold isK at h;unfold name tkn;cases hf:f k with
 | none=>rfl
 | some t=>rw[hf]at h;simp only at h;simp only[h];rfl
end Go.Ps
namespace Go.Sep
open Go.Proofs
attribute [local irreducible] TC TO OT TCallX TCall DO DOt thenQ blockQ retQ At
section
variable {E:PE} {m:Mem} {L:List Item} {k:Nat} {h:Int}
theorem need_law (s : Str) (hE : E.Ok m) (hk : k ≤ E.toks.length) : TCallX Tryz.prog 111 ⟨[E.v,strV s]⟩ m (E.I k h :: L)
  (fun v m' L'=>m' = m∧v = .tuple ⟨[]⟩ ∧ Ps.isM s E.f k=true∧L' = E.I (k + 1) h :: L) (fun ch m' L'=>m' = m∧Ps.isM s E.f k=false∧ch=E.flt k∧L' = E.I k h :: L):=by
 refine cK Tryz.func111 rfl 10 rfl ?_
 refine uA ?_
 refine oC goes109 ((take_law s hE hk).x ?_);
 rintro _ _ _ ⟨rfl,rfl,rfl⟩
 refine uA ?_
 unfold PE.step
 cases hb : Ps.isM s E.f k with
 | true =>
  refine uA ?_
  refine cJ rfl (L':=E.I (k + 1) h :: L) uS ⟨rfl,rfl,rfl,rfl⟩
 | false =>
  refine uA ?_
  refine oC goes146 (cE (stop_law hE hk) (fun _ _ _ hf=>hf.elim) ?_)
  rintro _ _ _ ⟨rfl,rfl,rfl⟩
  skip
  exact retQ_p (L':=E.I k h :: L) uS ⟨rfl,rfl,rfl,rfl⟩
theorem pname_law (hE : E.Ok m) (hk : k ≤ E.toks.length) : TCallX Tryz.prog 112 ⟨[E.v]⟩ m (E.I k h :: L)
  (fun v m' L'=>m' = m ∧ ∃ t,E.f k=some t∧t.kind=1∧v=strV t.text∧k + 1 ≤ E.toks.length∧L' = E.I (k + 1) h :: L) (fun ch m' L'=>m' = m∧Ps.isK 1 E.f k=false∧ch=E.flt k∧L' = E.I k h :: L):=by
 refine cK Tryz.func112 rfl 27 rfl ?_
 have hlen:=hE.rep.len
 have hfew:=hE.few
 refine uA ?_
 refine oC goes147 ((is_law 1 hE hk).x ?_);
 rintro _ _ _ ⟨rfl,rfl,rfl⟩
 refine uA ?_
 cases hb : Ps.isK 1 E.f k with
 | true =>
  have hlt:=PE.isK_lt hb
  have hx : E.toks[k]? = some E.toks[k]:=bm hlt
  have hkind : E.toks[k].kind=1:=by rw [PE.isK hlt] at hb;simpa using hb
  refine uA ?_
  refine uM ?_
  refine qs rfl (OT.arith (r':=((k + 1 : Nat) : Int)) rfl rfl rfl rfl rfl rfl rfl (by omega) ?_)
  refine uA ?_
  refine qs rfl (cO (k:=2) tab 0 rfl rfl rfl rfl rfl rfl rfl rfl ?_)
  refine uA ?_
  refine TC.draw0 [] df 13 rfl ?_
  refine cV tab uC uK [0,1,2] uK rfl ?_
  refine DO.loadL tab 3 0 uC uK uK rfl rfl rfl rfl rfl rfl rfl rfl ?_
  refine cV tab uC uK [4,5,6] uK rfl ?_
  refine DO.loadL tab 7 0 uC uK uK rfl rfl rfl rfl rfl rfl rfl rfl ?_
  refine DO.arith 8 (r':=((k : Nat) : Int)) uC uK uK rfl rfl rfl rfl rfl rfl rfl rfl (by first | rfl | omega | (simp only;omega)) (by omega) ?_
  refine DO.index tab rTok 9 k hE.rep uC uK uK rfl rfl rfl rfl rfl rfl rfl (by first | rfl | omega) rfl hx ?_
  rintro b i hd hr hA;obtain rfl:=(show hd=E.toks[k] from hr)
  refine cV tab uC uK [10] uK rfl ?_
  refine DO.loadA tab 11 hA uC uK uK rfl rfl rfl rfl rfl rfl rfl ?_
  refine cV tab uC uK [12] uK rfl ?_
  refine DO.nil0 uK ?_
  rotate_left 1
  refine uA ?_
  refine cI rfl (L':=E.I (k + 1) h :: L) uS ⟨rfl,_,PE.f_some hlt,hkind,rfl,hlt,rfl⟩
 | false =>
  refine uA ?_
  refine oC goes146 (cE (stop_law hE hk) (fun _ _ _ hf=>hf.elim) ?_)
  rintro _ _ _ ⟨rfl,rfl,rfl⟩
  repeat (refine thenQ_p ?_)
  exact retQ_p (L':=E.I k h :: L) uS ⟨rfl,rfl,rfl,rfl⟩
end
section
variable {P:Program} {N:Nat} {ρ:Env} {m:Mem} {L:List Item} {Q:EPost} {o:Oper} {K:Env→Mem→List Item→Prop} {E:PE} {α β:Type}
 {FF:Operand} {args:List Operand} {ats:Array TypeId} {first cap vs:List Value} {d:Nat} {h:Int} {T:Ps.Res β} {k:Nat} {m0:Mem} {L0:List Item} {s:Str} {A B:Ps.Pp β}
theorem OT.takeP {D:List Deferred} (hT:T=Ps.tok s A B E.f k) (hE:E.Ok m) (hk:k≤E.toks.length)
  (ho:o.op = .call ⟨.value FF,⟨args⟩,ats⟩) (hd:o.dst=some d) (hN:Nat.blt d N=true)
  (hF:ev ρ FF=some (.func (.func 109) ⟨first⟩ ⟨cap⟩)) (ha:evs ρ args=some vs) (hall:fl (first++(vs++cap))=some [E.v,strV s])
  (h1:T=A E.f (k+1)→k+1≤E.toks.length→K ((d,.bool true)::ρ) m (E.I (k+1) h::L)) (h2:T=B E.f k→K ((d,.bool false)::ρ) m (E.I k h::L)):OT Tryz.prog N o ρ D m (E.I k h::L) Q K:=by
 refine cR ho hd hN hF ha hall goes109 ((take_law s hE hk).x ?_);refine ka ?_;unfold PE.step;cases hb:Ps.isM s E.f k with
 | true=>exact h1 (hT.trans (Ps.tok_t hb)) (PE.isM_lt hb)
 | false=>exact h2 (hT.trans (Ps.tok_f hb))
theorem OT.peekP {D:List Deferred} (hT:T=Ps.peek (Ps.isM s) A B E.f k) (hE:E.Ok m) (hk:k≤E.toks.length)
  (ho:o.op = .call ⟨.value FF,⟨args⟩,ats⟩) (hd:o.dst=some d) (hN:Nat.blt d N=true)
  (hF:ev ρ FF=some (.func (.func 144) ⟨first⟩ ⟨cap⟩)) (ha:evs ρ args=some vs) (hall:fl (first++(vs++cap))=some [E.v,strV s])
  (h1:T=A E.f k→K ((d,.bool true)::ρ) m (E.I k h::L)) (h2:T=B E.f k→K ((d,.bool false)::ρ) m (E.I k h::L)):OT Tryz.prog N o ρ D m (E.I k h::L) Q K:=by
 refine cR ho hd hN hF ha hall goes144 ((peek_law s hE hk).x ?_);refine ka ?_;cases hb:Ps.isM s E.f k with
 | true=>exact h1 (hT.trans (Ps.peek_t' hb))
 | false=>exact h2 (hT.trans (Ps.peek_f' hb))
theorem OT.needP (hT:T=Ps.need s A E.f k) (hE:E.Ok m) (hk:k≤E.toks.length) (hb:Bad Q E T m0 L0) (hm:m0≤m) (hL:L0.Sublist L)
  (ho:o.op = .call ⟨.value FF,⟨args⟩,ats⟩) (hd:o.dst=some d) (hN:Nat.blt d N=true)
  (hF:ev ρ FF=some (.func (.func 111) ⟨first⟩ ⟨cap⟩)) (ha:evs ρ args=some vs) (hall:fl (first++(vs++cap))=some [E.v,strV s])
  (hK:T=A E.f (k+1)→k+1≤E.toks.length→K ((d,.tuple ⟨[]⟩)::ρ) m (E.I (k+1) h::L)):OT Tryz.prog N o ρ [] m (E.I k h::L) Q K:=by
 refine cR ho hd hN hF ha hall goes111 (cE (need_law s hE hk) ?_ ?_)
 ·rintro _ _ _ ⟨rfl,rfl,h1,rfl⟩;exact hK (hT.trans (Ps.tok_t h1)) (PE.isM_lt h1)
 ·rintro _ _ _ ⟨rfl,h1,rfl,rfl⟩;exact hb _ _ _ _ _ hm hk (hT.trans (Ps.tok_f h1)) hL
theorem OT.stopP (hT : T = .bad k) (hE : E.Ok m) (hk : k ≤ E.toks.length) (hb : Bad Q E T m0 L0) (hm : m0 ≤ m) (hL : L0.Sublist L)
  (ho : o.op = .call ⟨.value FF,⟨args⟩,ats⟩) (hd : o.dst=some d) (hN : Nat.blt d N=true)
  (hF : ev ρ FF=some (.func (.func 146) ⟨first⟩ ⟨cap⟩)) (ha : evs ρ args=some vs) (hall : fl (first++(vs++cap))=some [E.v]) : OT Tryz.prog N o ρ [] m (E.I k h :: L) Q K:=by
 refine cR ho hd hN hF ha hall goes146 (cE (stop_law hE hk) (fun _ _ _ hf=>hf.elim) ?_)
 rintro _ _ _ ⟨rfl,rfl,rfl⟩
 exact hb _ _ _ _ _ hm hk hT hL
theorem OT.nameP {A:Str→Ps.Pp β} (hT:T=Ps.name A E.f k) (hE:E.Ok m) (hk:k≤E.toks.length) (hb:Bad Q E T m0 L0) (hm:m0≤m) (hL:L0.Sublist L)
  (ho:o.op = .call ⟨.value FF,⟨args⟩,ats⟩) (hd:o.dst=some d) (hN:Nat.blt d N=true)
  (hF:ev ρ FF=some (.func (.func 112) ⟨first⟩ ⟨cap⟩)) (ha:evs ρ args=some vs) (hall:fl (first++(vs++cap))=some [E.v])
  (hK:∀ t:Str,T=A t E.f (k+1)→k+1≤E.toks.length→K ((d,strV t)::ρ) m (E.I (k+1) h::L)):OT Tryz.prog N o ρ [] m (E.I k h::L) Q K:=by
 refine cR ho hd hN hF ha hall goes112 (cE (pname_law hE hk) ?_ ?_)
 ·rintro _ _ _ ⟨rfl,t,h1,h2,rfl,h3,rfl⟩;exact hK _ (hT.trans (Ps.name_t h1 h2)) h3
 ·rintro _ _ _ ⟨rfl,h1,rfl,rfl⟩;exact hb _ _ _ _ _ hm hk (hT.trans (Ps.name_f h1)) hL
end
end Go.Sep
namespace Go
abbrev dC := @Sep.OT.takeP
end Go
namespace Go.Ps
open Go.Sep (Tree Str)
variable {α β γ:Type}
theorem bind_assoc (p:Pp α) (g:α→Pp β) (h:β→Pp γ):bind (bind p g) h=bind p fun a=>bind (g a) h:=by
 funext f k;unfold bind
 cases p f k<;>rfl
theorem ret_bind (a:α) (g:α→Pp β):bind (ret a) g=g a:=rfl
theorem bind_ret (p:Pp α):bind p ret=p:=by
 funext f k;unfold bind
 cases p f k<;>rfl
theorem dry_bind (g:α→Pp β):bind dry g=dry:=rfl
theorem tok_bind (s:Str) (A B:Pp α) (g:α→Pp β):bind (tok s A B) g=tok s (bind A g) (bind B g):=by
 funext f k;unfold tok bind
 cases h:isM s f k<;>simp only[h,cz,cy]
theorem need_bind (s:Str) (A:Pp α) (g:α→Pp β):bind (need s A) g=need s (bind A g):=by
 unfold need;rw[tok_bind];rfl
theorem tkn_bind (c:Int) (A:Tk→Pp α) (B:Pp α) (g:α→Pp β):bind (tkn c A B) g=tkn c (fun t=>bind (A t) g) (bind B g):=by
 funext f k;unfold tkn bind;simp only[]
 cases f k with
 | none=>rfl
 | some t=>cases h:decide (t.kind=c)<;>simp only[h,cz,cy]
theorem name_bind (A:Str→Pp α) (g:α→Pp β):bind (name A) g=name fun s=>bind (A s) g:=by
 unfold name;rw[tkn_bind];rfl
def more (j:Nat) (X:Pp α) (acc:List α):Pp (List α):=tok [44] (bind (commas j X) fun l=>ret (acc++l)) (ret acc)
theorem commas_acc (j:Nat) (X:Pp α) (acc:List α):(bind (commas (j+1) X) fun l=>ret (acc++l))=bind X fun a=>more j X (acc++[a]):=by
 show bind (bind X _) _=_;rw[bind_assoc]
 congr 1;funext a
 rw[tok_bind,bind_assoc];unfold more
 congr 1
 congr 1;funext l
 exact gO
theorem commas_start (j:Nat) (X:Pp α):commas (j+1) X=bind X fun a=>more j X [a]:=by
 have h:=commas_acc j X ([]:List α);simp only[bK]at h;rw[←h,bind_ret]
theorem more_zero (X:Pp α) (acc:List α):more 0 X acc=tok [44] dry (ret acc):=rfl
theorem more_succ (j:Nat) (X:Pp α) (acc:List α):more (j+1) X acc=tok [44] (bind X fun a=>more j X (acc++[a])) (ret acc):=by
 rw[←commas_acc];rfl
def rest (j:Nat) (s:Str) (X:Pp α) (acc:List α):Pp (List α):=bind (upto j s X) fun l=>ret (acc++l)
theorem rest_start (j:Nat) (s:Str) (X:Pp α):upto j s X=rest j s X []:=by unfold rest;exact(bind_ret _).symm
theorem rest_zero (s:Str) (X:Pp α) (acc:List α):rest 0 s X acc=dry:=rfl
theorem rest_succ (j:Nat) (s:Str) (X:Pp α) (acc:List α):rest (j+1) s X acc=tok s (ret acc) (bind X fun a=>rest j s X (acc++[a])):=by
 unfold rest;show bind (tok s (ret []) _) _=_;rw[tok_bind,bind_assoc,ret_bind,ce]
 congr 1
 congr 1;funext a
 rw[bind_assoc]
 congr 1;funext l
 exact gO
def decls (decl:Pp Tree) (j:Nat) (acc:List Tree):Pp (List Tree):=bind (progL decl j) fun l=>ret (acc++l)
theorem decls_start (decl:Pp Tree) (j:Nat):progL decl j=decls decl j []:=by unfold decls;exact(bind_ret _).symm
theorem decls_none {decl:Pp Tree} {j:Nat} {acc:List Tree} {f:F} {k:Nat} (h:f k=none):decls decl (j+1) acc f k = .ok acc k:=by
 have:progL decl (j+1) f k = .ok [] k:=by unfold progL;rw[h];rfl
 unfold decls bind;rw[this];show Res.ok (acc++[]) k=_;rw[ce]
theorem decls_some {decl:Pp Tree} {j:Nat} {acc:List Tree} {f:F} {k:Nat} (h:f k≠none):decls decl (j+1) acc f k=(bind decl fun a=>decls decl j (acc++[a])) f k:=by
 have:progL decl (j+1) f k=(bind decl fun a=>bind (progL decl j) fun l=>ret (a::l)) f k:=by
  show(bif (f k).isNone then _ else _)=_;cases hf:f k with
  | none=>exact absurd hf h
  | some t=>rfl
 have e:decls decl (j+1) acc f k=bind (bind decl fun a=>bind (progL decl j) fun l=>ret (a::l)) (fun l=>ret (acc++l)) f k:=by
  unfold decls;unfold bind at this ⊢;simp only[]at this ⊢;rw[this]
 rw[e,bind_assoc]
 congr 1;congr 1;funext a
 rw[bind_assoc];unfold decls
 congr 1;funext l
 exact gO
end Go.Ps
namespace Go.Sep
open Go.Proofs
attribute [local irreducible] TC TO OT TCallX TCall DO DOt thenQ blockQ retQ At
section
variable {mb:Mem} {E:PE} {h:Int}
theorem list1_par {f:FuncId} {first cap all:List Value} {X:Ps.Pp Tree} (hall:fl (first++([]++cap))=some all) (hg:Goes Tryz.prog f) (hX:Par Tryz.prog mb E vTree f all h X) :
  Par Tryz.prog mb E vList 148 [E.v,.func (.func f) ⟨first⟩ ⟨cap⟩] h (Ps.commas E.N X):=by
 refine dw Tryz.func148 rfl 17 rfl fun m L k T hm0 hE hk hT hn=>?_;replace hX:=hX.up hm0;have hrows:=hE.rows;have hm:m≤m:=cC _;obtain⟨j,hj⟩:∃ j,E.N=j+1:=by
  cases hN:E.N with
  | zero=>rw[hN]at hT;exact absurd hT hn
  | succ j=>exact⟨j,rfl⟩
 rw[hj,Ps.commas_start]at hT;refine uA ?_;refine qs rfl (dA (L0:=L) hX hm hT hn hE hk mz hm uS rfl rfl rfl rfl rfl hall hg (fun x m2 a k2 hT hm hE hle hk hr=>?_));refine uA ?_;refine av (hs:=[x]) (l:=[a]) tab rTree ⟨rTree_iff.2 hr,trivial⟩ uH mw (fun s m3 hle3 hs ho hc=>?_);refine lu ?_;refine cH (ι:=Sl×Mem×List Tree×Nat×Nat) [0,1] rfl (fun x=>[(5,x.1.v)]) (fun x=>x.2.1) (fun x=>E.I x.2.2.2.1 h::tok x.1 4::L) (fun x=>m≤x.2.1∧E.Ok x.2.1∧x.2.2.2.1≤E.toks.length∧SlRep rTree x.2.1 x.1 x.2.2.1∧Own x.1∧x.2.2.1.length+x.2.2.2.2=j+1∧T=Ps.more x.2.2.2.2 X x.2.2.1 E.f x.2.2.2.1) (fun x=>x.2.2.2.2) (s,m3,[a],k2,j) uH rfl uS ⟨cD hm hle3,hE.mono hle3,hk,hs,ho,by simp only[a7,a8];omega,hT⟩ ?_;rintro⟨s,m3,acc,k,j2⟩ ⟨hm,hE,hk,hs,ho,hlen,hT⟩;simp only at hm hE hk hs ho hlen hT;cases j2 with
 | zero =>
  rw[Ps.more_zero]at hT;refine uA ?_;refine qs rfl (dC hT hE hk rfl rfl rfl rfl rfl rfl (fun hT hk=>?_) (fun hT=>?_))
  ·exact absurd hT hn
  ·exact gq
 | succ j2 =>
  rw[Ps.more_succ]at hT;refine uA ?_;refine qs rfl (dC hT hE hk rfl rfl rfl rfl rfl rfl (fun hT hk=>?_) (fun hT=>?_))
  ·refine uA ?_;refine qs rfl (dA (L0:=L) hX hm hT hn hE hk mE hm uS rfl rfl rfl rfl rfl hall hg (fun x m2 a k2 hT hm hE hle hk hr=>?_));refine uA ?_;refine av (hs:=[x]) (l:=[a]) tab rTree ⟨rTree_iff.2 hr,trivial⟩ uH mw (fun s2 m3 hle3 hs2 ho2 hc2=>?_);refine qs rfl (cU tab rTree 1 (hs.mono (cD hle hle3)) ho hs2 rfl rfl rfl rfl rfl rfl rfl mI (fun s3 m4 hle4 hs3 ho3=>?_));refine uA ?_;exact⟨(s3,m4,acc++[a],k2,j2),uH,uH,rfl,rfl,uS,⟨cD hm (cD hle3 hle4),hE.mono (cD hle3 hle4),hk,hs3,ho3,by simp only[a6,a7,a8];omega,hT⟩,by simp only;omega⟩
  ·exact gq
theorem begins_law {m:Mem} {L:List Item} {k:Nat} (hE:E.Ok m) (hk:k≤E.toks.length):TCall Tryz.prog 178 ⟨[E.v]⟩ m (E.I k h::L) (Ret (.bool (Ps.begins E.f k)) m (E.I k h::L)):=by
 unfold TCall Ps.begins;refine ak Tryz.func178 17 ?_;refine au goes147 (is_law 1 hE hk) ?_;cases h1:Ps.isK 1 E.f k with
 | true => 
  exact eS
 | false =>
  refine uA ?_;refine au goes144 (peek_law [42] hE hk) ?_;cases h2:Ps.isM [42] E.f k with
  | true => 
   exact eS
  | false =>
   refine uA ?_;refine au goes144 (peek_law [91] hE hk) ?_;cases h3:Ps.isM [91] E.f k with
   | true => 
    exact eS
   | false =>
    refine uA ?_;refine au goes144 (peek_law [102,117,110,99] hE hk) ?_;refine jy ?_;cases Ps.isM [102,117,110,99] E.f k<;>rfl
theorem results_par {X:Ps.Pp Tree} (hX:Par Tryz.prog mb E vTree 145 [E.v] h X) :
  Par Tryz.prog mb E vSl 150 [E.v] h (Ps.resultsP E.N X):=by
 refine dw Tryz.func150 rfl 18 rfl fun m L k T hm0 hE hk hT hn=>?_;replace hX:=hX.up hm0;have hm:m≤m:=cC _;unfold Ps.resultsP at hT;refine uA ?_;refine qs rfl (dC hT hE hk rfl rfl rfl rfl rfl rfl (fun hT hk=>?_) (fun hT=>?_))
 ·refine uA ?_;refine qs rfl (OT.parL (L0:=L) (list1_par (first:=[E.v]) (cap:=[]) rfl goes145 hX) hm hT hn hE hk mz hm uS rfl rfl rfl rfl rfl rfl goes148 (fun x m2 a k2 hT hm hE hlex hk hrx hox hlx=>?_));exact fE
 ·refine uA ?_;refine au goes178 (begins_law hE hk) ?_;cases hb:Ps.begins E.f k with
  | true =>
   rw[Ps.peek_t' hb]at hT;refine uA ?_;refine qs rfl (dA (L0:=L) (hX) hm hT hn hE hk mz hm uS rfl rfl rfl rfl rfl rfl goes145 (fun x m2 a k2 hT hm hE hlex hk hrx=>?_));refine uA ?_;refine av (hs:=[x]) (l:=[a]) tab rTree ⟨rTree_iff.2 hrx,trivial⟩ uH mw (fun s m3 hle3 hs ho hc=>?_);refine uA ?_;refine cI rfl (L':=E.I k2 h::L) uS ⟨[a],k2,[],hT,cD hm hle3,hk,⟨s,rfl,rfl,hs,by simp⟩,rfl⟩
  | false =>
   rw[Ps.peek_f' hb]at hT;refine uA ?_;refine cI rfl (L':=E.I k h::L) uS ⟨[],k,[],hT,hm,hk,⟨⟨none,0,0⟩,rfl,rfl,cS _ _,by simp⟩,rfl⟩
end
end Go.Sep
namespace Go.Sep
open Go.Proofs
attribute [local irreducible] TC TO OT TCallX TCall DO DOt thenQ blockQ retQ At
section
variable {mb:Mem} {E:PE} {h:Int}
theorem typ_par {X:Ps.Pp Tree} (hX:Par Tryz.prog mb E vTree 145 [E.v] h X) :
  Par Tryz.prog mb E vTree 145 [E.v] h (Ps.typP E.N X):=by
 refine dw Tryz.func145 rfl 50 rfl fun m L k T hm0 hE hk hT hn=>?_;replace hX:=hX.up hm0;have hm:m≤m:=cC _;unfold Ps.typP at hT;refine uA ?_;refine oA tab (fun b2=>?_);refine cM (ba _ _ _) ?_;refine uA ?_;refine qs rfl (dC hT hE hk rfl rfl rfl rfl rfl rfl (fun hT hk=>?_) (fun hT=>?_))
 ·refine uA ?_;refine qs rfl (dA (L0:=L) (hX) hm hT hn hE hk mE hm uS rfl rfl rfl rfl rfl rfl goes145 (fun x m2 a k2 hT hm hE hlex hk hrx=>?_));refine uA ?_;refine av (hs:=[x]) (l:=[a]) tab rTree ⟨rTree_iff.2 hrx,trivial⟩ uH mw (fun s m3 hle3 hs ho hc=>?_);refine jE ?_;refine aw (L':=E.I k2 h::L) 1 ⟨_,k2,[],hT,cD hm hle3,hk,⟨⟨11,[],0,s⟩,rfl,rfl,⟨rfl,rfl,rfl,hs⟩⟩,rfl⟩
 refine uA ?_;refine qs rfl (dC hT hE hk rfl rfl rfl rfl rfl rfl (fun hT hk=>?_) (fun hT=>?_))
 ·refine uA ?_;refine qs rfl (OT.needP (L0:=L) hT hE hk mE hm uS rfl rfl rfl rfl rfl rfl (fun hT hk=>?_));refine uA ?_;refine qs rfl (dA (L0:=L) (hX) hm hT hn hE hk mE hm uS rfl rfl rfl rfl rfl rfl goes145 (fun x m2 a k2 hT hm hE hlex hk hrx=>?_));refine uA ?_;refine av (hs:=[x]) (l:=[a]) tab rTree ⟨rTree_iff.2 hrx,trivial⟩ uH mw (fun s m3 hle3 hs ho hc=>?_);refine jE ?_;refine aw (L':=E.I k2 h::L) 1 ⟨_,k2,[],hT,cD hm hle3,hk,⟨⟨12,[],0,s⟩,rfl,rfl,⟨rfl,rfl,rfl,hs⟩⟩,rfl⟩
 refine uA ?_;refine qs rfl (dC hT hE hk rfl rfl rfl rfl rfl rfl (fun hT hk=>?_) (fun hT=>?_))
 ·refine uA ?_;refine oA tab (fun b3=>?_);refine cM (ba _ _ _) ?_;refine jE ?_;refine qs rfl (OT.needP (L0:=L) hT hE hk mE hm uS rfl rfl rfl rfl rfl rfl (fun hT hk=>?_));unfold Ps.inP at hT;simp only[Ps.tok_bind,Ps.ret_bind,Ps.bind_assoc,Ps.need_bind]at hT;refine mu ?_;refine TC.cut (ι:=Sl×Mem×List Tree×Nat) [0,2,3] rfl (fun _=>[]) (fun i=>i.2.1) (fun i=>E.I i.2.2.2 h::.cells b3 0 [.int .i64 13,strV [],.int .i64 0,i.1.v]::tok i.1 4::.cells b2 0 [.int .i64 0,strV [],.int .i64 0,.slice none 0 0]::L) (fun i=>m≤i.2.1∧E.Ok i.2.1∧i.2.2.2≤E.toks.length∧SlRep rTree i.2.1 i.1 i.2.2.1∧Own i.1∧i.2.2.1.length≤20001∧T=(Ps.bind (Ps.resultsP E.N X) fun rs=>Ps.ret (Tree.mk 13 [] (i.2.2.1.length:Int) (i.2.2.1++rs))) E.f i.2.2.2) ?_ ?_
  ·refine uA ?_;refine qs rfl (dC hT hE hk rfl rfl rfl rfl rfl rfl (fun hT hk=>?_) (fun hT=>?_))
   ·refine TO.grow0 (size:=4) ?_;refine aJ (L':=E.I (k+1+1+1) h::.cells b3 0 [.int .i64 13,strV [],.int .i64 0,.slice none 0 0]::tok ⟨none,0,0⟩ 4::.cells b2 0 [.int .i64 0,strV [],.int .i64 0,.slice none 0 0]::L) (be (ba _ _ _) (bg _ (ba _ _ _))) ?_;exact⟨(⟨none,0,0⟩,m,[],k+1+1+1),uH,uH,rfl,rfl,uS,hm,hE,hk,cS _ _,cZ,by simp,hT⟩
   ·refine uA ?_;refine qs rfl (OT.parL (L0:=L) (list1_par (first:=[E.v]) (cap:=[]) rfl goes145 hX) hm hT hn hE hk mE hm uS rfl rfl rfl rfl rfl rfl goes148 (fun x m2 a k2 hT hm hE hlex hk hrx hox hlx=>?_));refine aJ (L':=E.I k2 h::.cells b3 0 [.int .i64 13,strV [],.int .i64 0,.slice none 0 0]::tok x 4::.cells b2 0 [.int .i64 0,strV [],.int .i64 0,.slice none 0 0]::L) (bg _ (ba _ _ _)) ?_;refine aj (k:=3) 1 ?_;refine qs rfl (OT.needP (L0:=L) hT hE hk mE hm uS rfl rfl rfl rfl rfl rfl (fun hT hk=>?_));refine uA ?_;exact⟨(x,m2,a,k2+1),uH,uH,rfl,rfl,uS,hm,hE,hk,hrx,hox,hlx,hT⟩
  ·rintro⟨s,m1,l,k1⟩ ⟨hm,hE,hk,hs,ho,hl,hT⟩;simp only at hm hE hk hs ho hl hT;have hsl:=hs.len;refine jJ ?_;refine aj (k:=2) 1 ?_;refine aL [6] df 7 [.cells b3 0 [.int .i64 13,strV [],.int .i64 (s.len:Int),s.v]] (E.I k1 h::tok s 4::.cells b2 0 [.int .i64 0,strV [],.int .i64 0,.slice none 0 0]::L) (ba _ _ _) ?_;refine jG ?_;refine c8 (ba _ _ _) (OT.parS (L0:=L) (results_par hX) hm hT hn hE hk mE hm uS rfl rfl rfl rfl rfl rfl goes150 (fun x m2 a k2 hT hm hE hle hk hr hla=>?_));refine⟨hle,E.I k2 h::tok s 4::.cells b2 0 [.int .i64 0,strV [],.int .i64 0,.slice none 0 0]::L,ba _ _ _,?_⟩;refine af 4 ?_;refine cU tab rTree 2 (hs.mono hle) ho hr rfl rfl rfl rfl rfl rfl rfl oq (fun s3 m4 hle4 hs3 ho3=>?_);refine⟨hle4,E.I k2 h::tok s3 4::.cells b2 0 [.int .i64 0,strV [],.int .i64 0,.slice none 0 0]::L,a9 _,?_⟩;refine kO ?_;refine an (k:=3) 0 ?_;refine aH ?_
   rotate_left 1
   refine lR ?_;refine retQ_ret_c1 tab 3 rfl rfl rfl rfl (L':=E.I k2 h::L) uS ⟨_,k2,[],hT,cD hm hle4,hk,⟨⟨13,[],(s.len:Int),s3⟩,rfl,rfl,⟨rfl,rfl,by show(s.len:Int)=_;rw[hsl];rfl,hs3⟩⟩,rfl⟩
 ·refine uA ?_;refine qs rfl (OT.nameP (L0:=L) hT hE hk mz hm uS rfl rfl rfl rfl rfl rfl (fun t hT hk=>?_));refine jE ?_;refine aw (L':=E.I (k+1) h::L) 1 ⟨_,k+1,[],hT,hm,hk,⟨⟨10,t,0,⟨none,0,0⟩⟩,rfl,rfl,⟨rfl,rfl,rfl,cS _ _⟩⟩,rfl⟩
end
end Go.Sep
namespace Go.Sep
open Go.Proofs
attribute [local irreducible] TC TO OT TCallX TCall DO DOt thenQ blockQ retQ At
section
variable {mb:Mem} {E:PE} {h:Int}
theorem param_par {X:Ps.Pp Tree} (hX:Par Tryz.prog mb E vTree 145 [E.v] h X) (b1:Nat) (hA:At mb b1 0 [E.v]) :
  Par Tryz.prog mb E vTree 149 [.pointer (some ⟨b1,0,none⟩)] h (Ps.paramP X):=by
 refine dw Tryz.func149 rfl 10 rfl fun m L k T hm0 hE hk hT hn=>?_;replace hX:=hX.up hm0;replace hA:=hA.mono hm0;have hm:m≤m:=cC _;unfold Ps.paramP at hT;refine uA ?_;refine oA tab (fun b2=>?_);refine cM (ba _ _ _) ?_;refine jO ?_;refine qs rfl (OT.nameP (L0:=L) hT hE hk mz hm uS rfl rfl rfl rfl rfl rfl (fun t hT hk=>?_));refine jO ?_;refine qs rfl (dA (L0:=L) (hX) hm hT hn hE hk mz hm uS rfl rfl rfl rfl rfl rfl goes145 (fun x m2 a k2 hT hm hE hlex hk hrx=>?_));refine uA ?_;refine av (hs:=[x]) (l:=[a]) tab rTree ⟨rTree_iff.2 hrx,trivial⟩ uH mw (fun s m3 hle3 hs ho hc=>?_);refine jE ?_;refine aw (L':=E.I k2 h::L) 1 ⟨_,k2,[],hT,cD hm hle3,hk,⟨⟨8,t,0,s⟩,rfl,rfl,⟨rfl,rfl,rfl,hs⟩⟩,rfl⟩
theorem psig_par {X:Ps.Pp Tree} (hX:Par Tryz.prog mb E vTree 145 [E.v] h X) :
  Par Tryz.prog mb E vTree 113 [E.v] h (Ps.sigP E.N X):=by
 refine dw Tryz.func113 rfl 27 rfl fun m L k T hm0 hE hk hT hn=>?_;unfold Ps.sigP Ps.sigLike at hT;refine uA ?_;refine oB (fun b1=>?_);refine cX fun m1 hle1 hA=>?_;replace hm:m≤m1:=hle1;replace hE:=hE.mono hle1;replace hX:=hX.up (cD hm0 hle1);refine uA ?_;refine oA tab (fun b2=>?_);refine cM (ba _ _ _) ?_;refine uA ?_;refine oA tab (fun b3=>?_);refine cM (ba _ _ _) ?_;refine jE ?_;refine jV ?_;refine qs rfl (OT.needP (L0:=L) hT hE hk mz hm uS rfl rfl rfl rfl rfl rfl (fun hT hk=>?_));unfold Ps.inP at hT;simp only[Ps.tok_bind,Ps.ret_bind,Ps.bind_assoc,Ps.need_bind]at hT;refine mu ?_;refine TC.cut (ι:=Sl×Mem×List Tree×Nat) [1,2,3] rfl (fun _=>[]) (fun i=>i.2.1) (fun i=>E.I i.2.2.2 h::.cells b3 0 [.int .i64 7,strV [],.int .i64 0,i.1.v]::tok i.1 4::.cells b2 0 [.int .i64 0,strV [],.int .i64 0,.slice none 0 0]::L) (fun i=>m1≤i.2.1∧E.Ok i.2.1∧i.2.2.2≤E.toks.length∧SlRep rTree i.2.1 i.1 i.2.2.1∧Own i.1∧i.2.2.1.length≤20001∧T=(Ps.bind (Ps.resultsP E.N X) fun rs=>Ps.ret (Tree.mk 7 [] (i.2.2.1.length:Int) (i.2.2.1++rs))) E.f i.2.2.2) ?_ ?_
 ·refine uA ?_;refine jV ?_;refine qs rfl (dC hT hE hk rfl rfl rfl rfl rfl rfl (fun hT hk=>?_) (fun hT=>?_))
  ·refine TO.grow0 (size:=4) ?_;refine aJ (L':=E.I (k+1+1) h::.cells b3 0 [.int .i64 7,strV [],.int .i64 0,.slice none 0 0]::tok ⟨none,0,0⟩ 4::.cells b2 0 [.int .i64 0,strV [],.int .i64 0,.slice none 0 0]::L) (be (ba _ _ _) (bg _ (ba _ _ _))) ?_;exact⟨(⟨none,0,0⟩,m1,[],k+1+1),uH,uH,rfl,rfl,uS,cC _,hE,hk,cS _ _,cZ,by simp,hT⟩
  ·refine uA ?_;refine jV ?_;refine qs rfl (OT.parL (L0:=L) (list1_par (first:=[]) (cap:=[.pointer (some ⟨b1,0,none⟩)]) rfl goes149 (param_par hX b1 hA)) (cC _) hT hn hE hk mz hm uS rfl rfl rfl rfl rfl rfl goes148 (fun x m2 a k2 hT hm hE hle2 hk hrx hox hlx=>?_));refine aJ (L':=E.I k2 h::.cells b3 0 [.int .i64 7,strV [],.int .i64 0,.slice none 0 0]::tok x 4::.cells b2 0 [.int .i64 0,strV [],.int .i64 0,.slice none 0 0]::L) (bg _ (ba _ _ _)) ?_;refine aj (k:=3) 1 ?_;have hA2:=hA.mono hle2;refine ap tab hA2 ?_;refine qs rfl (OT.needP (L0:=L) hT hE hk mz hm uS rfl rfl rfl rfl rfl rfl (fun hT hk=>?_));refine uA ?_;exact⟨(x,m2,a,k2+1),uH,uH,rfl,rfl,uS,hle2,hE,hk,hrx,hox,hlx,hT⟩
 ·rintro⟨s,m2,l,k1⟩ ⟨hm12,hE,hk,hs,ho,hl,hT⟩;simp only at hm12 hE hk hs ho hl hT;have hsl:=hs.len;replace hA:=hA.mono hm12;replace hX:=hX.up hm12;replace hm:m≤m2:=cD hm hm12;refine jJ ?_;refine aj (k:=2) 1 ?_;refine aL [6] df 7 [.cells b3 0 [.int .i64 7,strV [],.int .i64 (s.len:Int),s.v]] (E.I k1 h::tok s 4::.cells b2 0 [.int .i64 0,strV [],.int .i64 0,.slice none 0 0]::L) (ba _ _ _) ?_;refine kM ?_;refine ae 1 0 ?_;refine ai (k:=0) 2 hA ?_;refine af 3 ?_;refine c8 (ba _ _ _) (OT.parS (L0:=L) (results_par hX) (cC _) hT hn hE hk mz hm uS rfl rfl rfl rfl rfl rfl goes150 (fun x m3 a k2 hT hm hE hle hk hr hla=>?_));refine⟨hle,E.I k2 h::tok s 4::.cells b2 0 [.int .i64 0,strV [],.int .i64 0,.slice none 0 0]::L,ba _ _ _,?_⟩;refine af 4 ?_;refine cU tab rTree 2 (hs.mono hle) ho hr rfl rfl rfl rfl rfl rfl rfl oq (fun s3 m4 hle4 hs3 ho3=>?_);refine⟨hle4,E.I k2 h::tok s3 4::.cells b2 0 [.int .i64 0,strV [],.int .i64 0,.slice none 0 0]::L,a9 _,?_⟩;refine kO ?_;refine an (k:=3) 0 ?_;refine aH ?_
  rotate_left 1
  refine lR ?_;refine retQ_ret_c1 tab 3 rfl rfl rfl rfl (L':=E.I k2 h::L) uS ⟨_,k2,[],hT,cD hm hle4,hk,⟨⟨7,[],(s.len:Int),s3⟩,rfl,rfl,⟨rfl,rfl,by show(s.len:Int)=_;rw[hsl];rfl,hs3⟩⟩,rfl⟩
end
end Go.Sep
namespace Go.Sep
open Go.Proofs
attribute [local irreducible] TC TO OT TCallX TCall DO DOt thenQ blockQ retQ At
section
variable {mb:Mem} {E:PE} {h:Int}
theorem block_par {X:Ps.Pp Tree} (hX:Par Tryz.prog mb E vTree 151 [E.v] 0 X) :
  Par Tryz.prog mb E vTree 114 [E.v] h (Ps.blockP E.N X):=by
 refine dw Tryz.func114 rfl 30 rfl fun m L k T hm0 hE hk hT hn=>?_;replace hX:=hX.up hm0;have hm:m≤m:=cC _;have hrows:=hE.rows;unfold Ps.blockP at hT;rw[Ps.rest_start]at hT;refine uA ?_;refine oA tab (fun b2=>?_);refine cM (ba _ _ _) ?_;refine jJ ?_;refine mn ?_;refine qs rfl (OT.needP (L0:=L) hT hE hk (by repeat (first | exact dx | refine dy ?_ | refine dz ?_)) hm uS rfl rfl rfl rfl rfl rfl (fun hT hk=>?_));refine uA ?_;refine oA tab (fun b4=>?_);refine cM (ba _ _ _) ?_;refine kE ?_;refine TO.grow0 (size:=4) ?_;refine aJ (L':=E.I (k+1) 0::.cells b4 0 [.int .i64 20,strV [],.int .i64 0,.slice none 0 0]::tok ⟨none,0,0⟩ 4::.cells b2 0 [.int .i64 0,strV [],.int .i64 0,.slice none 0 0]::L) (be (ba _ _ _) (bg _ (ba _ _ _))) ?_;refine cH (ι:=Sl×Mem×List Tree×Nat×Nat) [0,2,3,4] rfl (fun x=>[]) (fun x=>x.2.1) (fun x=>E.I x.2.2.2.1 0::.cells b4 0 [.int .i64 20,strV [],.int .i64 0,x.1.v]::tok x.1 4::.cells b2 0 [.int .i64 0,strV [],.int .i64 0,.slice none 0 0]::L) (fun x=>m≤x.2.1∧E.Ok x.2.1∧x.2.2.2.1≤E.toks.length∧SlRep rTree x.2.1 x.1 x.2.2.1∧Own x.1∧x.2.2.1.length+x.2.2.2.2=E.N∧T=Ps.bind (Ps.rest x.2.2.2.2 [125] X x.2.2.1) (fun l=>Ps.ret (.mk 20 [] 0 l)) E.f x.2.2.2.1) (fun x=>x.2.2.2.2) (⟨none,0,0⟩,m,[],k+1,E.N) uH rfl uS ⟨hm,hE,hk,cS _ _,cZ,by simp,hT⟩ ?_;rintro⟨s,m1,acc,k,j⟩ ⟨hm,hE,hk,hs,ho,hlen,hT⟩;simp only at hm hE hk hs ho hlen hT;cases j with
 | zero=>rw[Ps.rest_zero,Ps.dry_bind]at hT;exact absurd hT hn
 | succ j =>
  rw[Ps.rest_succ,Ps.tok_bind,Ps.bind_assoc,Ps.ret_bind]at hT;refine uA ?_;refine qs rfl (dC hT hE hk rfl rfl rfl rfl rfl rfl (fun hT hk=>?_) (fun hT=>?_))
  ·refine uA ?_;refine mn ?_;refine j5 ?_;refine aq 3 ?_;refine aw (L':=E.I (k+1) h::L) 3 ⟨_,k+1,[],hT,hm,hk,⟨⟨20,[],0,s⟩,rfl,rfl,⟨rfl,rfl,rfl,hs⟩⟩,rfl⟩
  ·refine uA ?_;refine aL [7] df 8 [.cells b4 0 [.int .i64 20,strV [],.int .i64 0,s.v]] (E.I k 0::tok s 4::.cells b2 0 [.int .i64 0,strV [],.int .i64 0,.slice none 0 0]::L) (ba _ _ _) ?_;refine kM ?_
   (first | refine DO.loadL tab 1 0 uC uK uK rfl rfl rfl rfl rfl rfl rfl rfl ?_ | refine DO.loadL tab 1 1 uC uK uK rfl rfl rfl rfl rfl rfl rfl rfl ?_ | refine DO.loadL tab 1 2 uC uK uK rfl rfl rfl rfl rfl rfl rfl rfl ?_ | refine DO.loadL tab 1 3 uC uK uK rfl rfl rfl rfl rfl rfl rfl rfl ?_ | refine DO.loadL tab 1 4 uC uK uK rfl rfl rfl rfl rfl rfl rfl rfl ?_ | refine DO.loadL tab 1 5 uC uK uK rfl rfl rfl rfl rfl rfl rfl rfl ?_ | refine DO.loadL (k:=0) tab 1 0 uC uK uK rfl rfl rfl rfl rfl rfl rfl rfl ?_ | refine DO.loadL (k:=0) tab 1 1 uC uK uK rfl rfl rfl rfl rfl rfl rfl rfl ?_ | refine DO.loadL (k:=0) tab 1 2 uC uK uK rfl rfl rfl rfl rfl rfl rfl rfl ?_ | refine DO.loadL (k:=0) tab 1 3 uC uK uK rfl rfl rfl rfl rfl rfl rfl rfl ?_ | refine DO.loadL (k:=0) tab 1 4 uC uK uK rfl rfl rfl rfl rfl rfl rfl rfl ?_ | refine DO.loadL (k:=0) tab 1 5 uC uK uK rfl rfl rfl rfl rfl rfl rfl rfl ?_)
   refine cV tab uC uK [2] uK rfl ?_;refine af 3 ?_;refine c8 (ba _ _ _) (dA (L0:=L) (hX) hm hT hn hE hk (by repeat (first | exact dx | refine dy ?_ | refine dz ?_)) hm uS rfl rfl rfl rfl rfl rfl goes151 (fun x mA a k2 hT hm hE hleA hk hr=>?_));refine⟨hleA,E.I k2 0::tok s 4::.cells b2 0 [.int .i64 0,strV [],.int .i64 0,.slice none 0 0]::L,ba _ _ _,?_⟩;exact ef
end
end Go.Sep
namespace Go.Sep
open Go.Proofs
attribute [local irreducible] TC TO OT TCallX TCall DO DOt thenQ blockQ retQ At
section
variable {mb:Mem} {E:PE} {h:Int}
theorem typeDecl_par {X:Ps.Pp Tree} (hX:Par Tryz.prog mb E vTree 145 [E.v] h X) :
  Par Tryz.prog mb E vTree 110 [E.v] h (Ps.typeDeclP E.N X):=by
 refine dw Tryz.func110 rfl 38 rfl fun m L k T hm0 hE hk hT hn=>?_;replace hX:=hX.up hm0;have hm:m≤m:=cC _;have hrows:=hE.rows;unfold Ps.typeDeclP at hT;refine uA ?_;refine oA tab (fun b2=>?_);refine cM (ba _ _ _) ?_;refine uA ?_;refine qs rfl (OT.nameP (L0:=L) hT hE hk mz hm uS rfl rfl rfl rfl rfl rfl (fun nm hT hk=>?_));refine uA ?_;refine oA tab (fun b3=>?_);refine cM (ba _ _ _) ?_;refine kE ?_;refine j6 ?_;refine TC.region ?_
 repeat (refine TO.pureP tab rfl rfl ?_)
 refine mu ?_;refine TC.cut (ι:=Int×FuncId×Ps.Pp Tree×Nat) [0,2,3] rfl (fun i=>[(4,.func (.func i.2.1) ⟨[E.v]⟩ ⟨[]⟩)]) (fun i=>m) (fun i=>E.I i.2.2.2 h::.cells b3 0 [.int .i64 i.1,strV nm,.int .i64 0,.slice none 0 0]::.cells b2 0 [.int .i64 0,strV [],.int .i64 0,.slice none 0 0]::L) (fun i=>i.2.2.2≤E.toks.length∧Goes Tryz.prog i.2.1∧Par Tryz.prog m E vTree i.2.1 [E.v] h i.2.2.1∧T=Ps.bodyP E.N i.1 nm i.2.2.1 E.f i.2.2.2) ?_ ?_
 ·refine uA ?_;refine qs rfl (dC hT hE hk rfl rfl rfl rfl rfl rfl (fun hT hk=>?_) (fun hT=>?_))
  ·refine uA ?_;refine aq 1 ?_;exact⟨(3,113,Ps.sigP E.N X,k+1+1),uH,uH,rfl,rfl,uS,hk,goes113,psig_par hX,hT⟩
  ·refine uA ?_;refine qs rfl (OT.needP (L0:=L) hT hE hk mz hm uS rfl rfl rfl rfl rfl rfl (fun hT hk=>?_));refine uA ?_;exact⟨(2,145,X,k+1+1),uH,uH,rfl,rfl,uS,hk,goes145,hX,hT⟩
 rintro⟨kd,ff,Y,k⟩ ⟨hk,hgo,hY,hT⟩;simp only at hk hgo hY hT;unfold Ps.bodyP at hT;rw[Ps.rest_start]at hT;refine uA ?_;refine qs rfl (OT.needP (L0:=L) hT hE hk mz hm uS rfl rfl rfl rfl rfl rfl (fun hT hk=>?_));refine TO.grow0 (size:=4) ?_;refine aJ (L':=E.I (k+1) h::.cells b3 0 [.int .i64 kd,strV nm,.int .i64 0,.slice none 0 0]::tok ⟨none,0,0⟩ 4::.cells b2 0 [.int .i64 0,strV [],.int .i64 0,.slice none 0 0]::L) (be (ba _ _ _) (bg _ (ba _ _ _))) ?_;refine cH (ι:=Sl×Mem×List Tree×Nat×Nat) [0,2,3,4] rfl (fun x=>[]) (fun x=>x.2.1) (fun x=>E.I x.2.2.2.1 h::.cells b3 0 [.int .i64 kd,strV nm,.int .i64 0,x.1.v]::tok x.1 4::.cells b2 0 [.int .i64 0,strV [],.int .i64 0,.slice none 0 0]::L) (fun x=>m≤x.2.1∧E.Ok x.2.1∧x.2.2.2.1≤E.toks.length∧SlRep rTree x.2.1 x.1 x.2.2.1∧Own x.1∧x.2.2.1.length+x.2.2.2.2=E.N∧T=Ps.bind (Ps.rest x.2.2.2.2 [125] (Ps.fieldP Y) x.2.2.1) (fun l=>Ps.ret (.mk kd nm 0 l)) E.f x.2.2.2.1) (fun x=>x.2.2.2.2) (⟨none,0,0⟩,m,[],k+1,E.N) uH rfl uS ⟨hm,hE,hk,cS _ _,cZ,by simp,hT⟩ ?_;rintro⟨s,m1,acc,k,j⟩ ⟨hm,hE,hk,hs,ho,hlen,hT⟩;simp only at hm hE hk hs ho hlen hT;cases j with
 | zero=>rw[Ps.rest_zero,Ps.dry_bind]at hT;exact absurd hT hn
 | succ j =>
  rw[Ps.rest_succ,Ps.tok_bind,Ps.bind_assoc,Ps.ret_bind]at hT;refine uA ?_;refine qs rfl (dC hT hE hk rfl rfl rfl rfl rfl rfl (fun hT hk=>?_) (fun hT=>?_))
  ·refine uA ?_;refine j5 ?_;refine aq 3 ?_;refine aw (L':=E.I (k+1) h::L) 3 ⟨_,k+1,[],hT,hm,hk,⟨⟨kd,nm,0,s⟩,rfl,rfl,⟨rfl,rfl,rfl,hs⟩⟩,rfl⟩
  ·unfold Ps.fieldP at hT;simp only[Ps.name_bind,Ps.bind_assoc,Ps.need_bind,Ps.ret_bind]at hT;refine uA ?_;refine qs rfl (OT.nameP (L0:=L) hT hE hk mE hm uS rfl rfl rfl rfl rfl rfl (fun t hT hk=>?_));refine uA ?_;refine aL [10] df 11 [.cells b3 0 [.int .i64 kd,strV nm,.int .i64 0,s.v]] (E.I (k+1) h::tok s 4::.cells b2 0 [.int .i64 0,strV [],.int .i64 0,.slice none 0 0]::L) (ba _ _ _) ?_;refine kM ?_;refine ae 1 0 ?_;refine cV tab uC uK [2,3] uK rfl ?_;refine af 4 ?_;refine c8 (ba _ _ _) (dA (L0:=L) hY hm hT hn hE hk mE hm uS rfl rfl rfl rfl rfl rfl hgo (fun x m3 a k2 hT hm hE hle hk hr=>?_));refine⟨hle,E.I k2 h::tok s 4::.cells b2 0 [.int .i64 0,strV [],.int .i64 0,.slice none 0 0]::L,ba _ _ _,?_⟩;refine af 5 ?_;refine de tab rTree (hs:=[x]) (l:=[a]) ⟨rTree_iff.2 hr,trivial⟩ rfl rfl rfl rfl rfl mw (fun s2 m4 hle2 hs2 ho2 hc2=>?_);refine⟨hle2,_,a9 _,?_⟩;refine cV tab uC uK [6] uK rfl ?_;refine af 7 ?_;refine de tab rTree (hs:=[⟨6,t,0,s2⟩]) (l:=[.mk 6 t 0 [a]]) ⟨rTree_iff.2 ⟨rfl,rfl,rfl,hs2⟩,trivial⟩ rfl rfl rfl rfl rfl mw (fun s3 m5 hle3 hs3 ho3 hc3=>?_);refine⟨hle3,_,a9 _,?_⟩;refine af 8 ?_;refine cU tab rTree 2 (hs.mono (cD hle (cD hle2 hle3))) ho hs3 rfl rfl rfl rfl rfl rfl rfl mI (fun s4 m6 hle6 hs4 ho4=>?_);refine⟨hle6,E.I k2 h::tok s4 4::.cells b2 0 [.int .i64 0,strV [],.int .i64 0,.slice none 0 0]::L,a9 _,?_⟩;refine cV tab uC uK [9] uK rfl ?_;refine cW ?_;refine aB 10 ?_;refine cO (k:=3) tab 0 rfl rfl rfl rfl rfl rfl rfl rfl ?_;refine DOt.perm (ba _ _ _) ?_;refine aH ?_
   rotate_left 1
   replace hm:=cD hm (cD hle2 (cD hle3 hle6));replace hE:=hE.mono (cD hle2 (cD hle3 hle6));refine uA ?_;refine qs rfl (OT.needP (L0:=L) hT hE hk mE hm uS rfl rfl rfl rfl rfl rfl (fun hT hk=>?_));refine uA ?_;exact⟨(s4,m6,acc++[Tree.mk 6 t 0 [a]],k2+1,j),uH,uH,rfl,rfl,uS,⟨hm,hE,hk,hs4,ho4,by simp only[a6,a7,a8];omega,hT⟩,by simp only;omega⟩
theorem decl_par {X Y:Ps.Pp Tree} (hX:Par Tryz.prog mb E vTree 145 [E.v] h X) (hY:Par Tryz.prog mb E vTree 114 [E.v] h Y) :
  Par Tryz.prog mb E vTree 57 [E.v] h (Ps.declP E.N X Y):=by
 refine dw Tryz.func57 rfl 49 rfl fun m L k T hm0 hE hk hT hn=>?_;replace hX:=hX.up hm0;replace hY:=hY.up hm0;have hm:m≤m:=cC _;unfold Ps.declP at hT;refine uA ?_;refine oA tab (fun b2=>?_);refine cM (ba _ _ _) ?_;refine uA ?_;refine qs rfl (dC hT hE hk rfl rfl rfl rfl rfl rfl (fun hT hk=>?_) (fun hT=>?_))
 ·refine uA ?_;rw[←Ps.bind_ret (Ps.typeDeclP E.N X)]at hT;refine qs rfl (dA (L0:=L) (typeDecl_par hX) hm hT hn hE hk mz hm uS rfl rfl rfl rfl rfl rfl goes110 (fun x m2 a k2 hT hm hE hlex hk hrx=>?_));exact eZ
 refine uA ?_;refine qs rfl (OT.needP (L0:=L) hT hE hk mz hm uS rfl rfl rfl rfl rfl rfl (fun hT hk=>?_));refine uA ?_;refine qs rfl (dC hT hE hk rfl rfl rfl rfl rfl rfl (fun hT hk=>?_) (fun hT=>?_))
 ·refine uA ?_;refine qs rfl (OT.nameP (L0:=L) hT hE hk mz hm uS rfl rfl rfl rfl rfl rfl (fun recv hT hk=>?_));refine uA ?_;refine qs rfl (OT.needP (L0:=L) hT hE hk mz hm uS rfl rfl rfl rfl rfl rfl (fun hT hk=>?_));refine uA ?_;refine qs rfl (OT.nameP (L0:=L) hT hE hk mz hm uS rfl rfl rfl rfl rfl rfl (fun of hT hk=>?_));refine uA ?_;refine av (hs:=[⟨10,of,0,⟨none,0,0⟩⟩]) (l:=[Ps.leaf 10 of]) tab rTree ⟨rTree_iff.2 ⟨rfl,rfl,rfl,cS _ _⟩,trivial⟩ uH mw (fun s m2 hle hs ho hc=>?_);replace hm:=hle;replace hE:=hE.mono hle;refine uA ?_;refine oA tab (fun b5=>?_);refine cM (ba _ _ _) ?_;refine jE ?_;refine qs rfl (OT.needP (L0:=L) hT hE hk mz hm uS rfl rfl rfl rfl rfl rfl (fun hT hk=>?_));refine uA ?_;refine qs rfl (OT.nameP (L0:=L) hT hE hk mz hm uS rfl rfl rfl rfl rfl rfl (fun nm hT hk=>?_));refine uA ?_;refine aL [11] df 12 [.cells b5 0 [.int .i64 11,strV [],.int .i64 0,s.v],.cells b2 0 [.int .i64 0,strV [],.int .i64 0,.slice none 0 0]] (E.I (k+1+1+1+1+1+1+1) h::L) (be (ba _ _ _) (bg _ (ba _ _ _))) ?_;refine cV tab uC uK [0,1,5,7] uK rfl ?_;refine ae (k:=0) 2 0 ?_;refine DO.fork 3 [6] uK ⟨⟨_,rfl,rfl,rfl,?_⟩,⟨_,rfl,rfl,rfl,?_⟩,trivial⟩
  ·skip;refine aM (hs:=[⟨11,[],0,s⟩]) (l:=[.mk 11 [] 0 [Ps.leaf 10 of]]) tab rTree ⟨rTree_iff.2 ⟨rfl,rfl,rfl,hs⟩,trivial⟩ uH mw (fun s1 m1 hle1 hs1 ho1 hc1=>?_);replace hm:=cD hm hle1;replace hE:=hE.mono hle1;refine lG ?_;refine af 6 ?_;refine c8 List.perm_middle (dA (L0:=L) (psig_par hX) hm hT hn hE hk mz hm uS rfl rfl rfl rfl rfl rfl goes113 (fun x m3 a k2 hT hm hE hle2 hk hrx=>?_));refine⟨hle2,E.I k2 h::L,da (l:=[_,_]),?_⟩;refine af 8 ?_;refine c8 List.perm_middle (dA (L0:=L) hY hm hT hn hE hk mz hm uS rfl rfl rfl rfl rfl rfl goes114 (fun y m4 b k3 hT hm hE hle3 hk hry=>?_));refine⟨hle3,E.I k3 h::L,da (l:=[_,_]),?_⟩;have hz1:=hrx.mono hle3;have hz2:=hry;have hz3:=hs1.mono (cD hle2 hle3);exact dW
  ·skip;refine c8 List.perm_middle (dA (L0:=L) (psig_par hX) hm hT hn hE hk mz hm uS rfl rfl rfl rfl rfl rfl goes113 (fun x m3 a k2 hT hm hE hle2 hk hrx=>?_));refine⟨hle2,E.I k2 h::L,da (l:=[_,_]),?_⟩;refine DO.fork 3 [8] uK ⟨⟨_,rfl,rfl,rfl,?_⟩,⟨_,rfl,rfl,rfl,?_⟩,trivial⟩
   ·skip;refine aM (hs:=[⟨11,[],0,s⟩]) (l:=[.mk 11 [] 0 [Ps.leaf 10 of]]) tab rTree ⟨rTree_iff.2 ⟨rfl,rfl,rfl,(hs.mono hle2)⟩,trivial⟩ uH mw (fun s1 m1 hle1 hs1 ho1 hc1=>?_);replace hm:=cD hm hle1;replace hE:=hE.mono hle1;refine lG ?_;refine af 8 ?_;refine c8 List.perm_middle (dA (L0:=L) hY hm hT hn hE hk mz hm uS rfl rfl rfl rfl rfl rfl goes114 (fun y m4 b k3 hT hm hE hle3 hk hry=>?_));refine⟨hle3,E.I k3 h::L,da (l:=[_,_]),?_⟩;have hz1:=hrx.mono (cD hle1 hle3);have hz2:=hry;have hz3:=hs1.mono hle3;exact dW
   ·skip;refine c8 List.perm_middle (dA (L0:=L) hY hm hT hn hE hk mz hm uS rfl rfl rfl rfl rfl rfl goes114 (fun y m4 b k3 hT hm hE hle3 hk hry=>?_));refine⟨hle3,E.I k3 h::L,da (l:=[_,_]),?_⟩;refine af 3 ?_;refine aM (hs:=[⟨11,[],0,s⟩]) (l:=[.mk 11 [] 0 [Ps.leaf 10 of]]) tab rTree ⟨rTree_iff.2 ⟨rfl,rfl,rfl,(hs.mono (cD hle2 hle3))⟩,trivial⟩ uH mw (fun s1 m1 hle1 hs1 ho1 hc1=>?_);replace hm:=cD hm hle1;replace hE:=hE.mono hle1;refine lG ?_;have hz1:=hrx.mono (cD hle3 hle1);have hz2:=hry.mono hle1;have hz3:=hs1;exact dW
 ·refine uA ?_;refine qs rfl (OT.nameP (L0:=L) hT hE hk mz hm uS rfl rfl rfl rfl rfl rfl (fun nm hT hk=>?_));refine uA ?_;refine qs rfl (dA (L0:=L) (psig_par hX) hm hT hn hE hk mz hm uS rfl rfl rfl rfl rfl rfl goes113 (fun x m2 a k2 hT hm hE hlex hk hrx=>?_));refine uA ?_;refine qs rfl (dA (L0:=L) (hY) hm hT hn hE hk mz hm uS rfl rfl rfl rfl rfl rfl goes114 (fun y m3 b k3 hT hm hE hley hk hry=>?_));refine uA ?_;refine av (hs:=[x,y]) (l:=[a,b]) tab rTree ⟨rTree_iff.2 (hrx.mono hley),rTree_iff.2 hry,trivial⟩ uH mw (fun s m4 hle hs ho hc=>?_);refine jE ?_;refine aw (L':=E.I k3 h::L) 1 ⟨_,k3,[],hT,cD hm hle,hk,⟨⟨4,nm,0,s⟩,rfl,rfl,⟨rfl,rfl,rfl,hs⟩⟩,rfl⟩
end
end Go.Sep
namespace Go.Sep
open Go.Proofs
attribute [local irreducible] TC TO OT TCallX TCall DO DOt thenQ blockQ retQ At
section
variable {mb:Mem} {E:PE}
theorem cond_par {X:Ps.Pp Tree} (hX:Par Tryz.prog mb E vTree 199 [E.v] 1 X) :
  Par Tryz.prog mb E vTree 180 [E.v] 0 X:=by
 refine dw Tryz.func180 rfl 13 rfl fun m L k T hm0 hE hk hT hn=>?_;replace hX:=hX.up hm0;have hm:m≤m:=cC _;rw[←Ps.bind_ret X]at hT;refine uA ?_;refine oA tab (fun b2=>?_);refine cM (ba _ _ _) ?_;refine uA ?_;refine mn ?_;refine qs rfl (dA (L0:=L) (hX) hm hT hn hE hk mz hm uS rfl rfl rfl rfl rfl rfl goes199 (fun x m2 a k2 hT hm hE hlex hk hrx=>?_));refine uA ?_;refine oA tab (fun b3=>?_);refine cM (ba _ _ _) ?_;refine jE ?_;refine mn ?_;refine j5 ?_;refine aq 2 ?_;refine aw (L':=E.I k2 0::L) 2 ⟨_,k2,[],hT,hm,hk,⟨x,rfl,rfl,hrx⟩,rfl⟩
theorem branch_par {X Y Z:Ps.Pp Tree} (hX:Par Tryz.prog mb E vTree 199 [E.v] 1 X) (hY:Par Tryz.prog mb E vTree 114 [E.v] 0 Y) (hZ:Par Tryz.prog mb E vTree 179 [E.v] 0 Z) :
  Par Tryz.prog mb E vTree 179 [E.v] 0 (Ps.branchP X Y Z):=by
 refine dw Tryz.func179 rfl 36 rfl fun m L k T hm0 hE hk hT hn=>?_;replace hX:=hX.up hm0;replace hY:=hY.up hm0;replace hZ:=hZ.up hm0;have hm:m≤m:=cC _;unfold Ps.branchP at hT;refine uA ?_;refine oA tab (fun b2=>?_);refine cM (ba _ _ _) ?_;refine uA ?_;refine qs rfl (OT.needP (L0:=L) hT hE hk mz hm uS rfl rfl rfl rfl rfl rfl (fun hT hk=>?_));refine uA ?_;refine qs rfl (dA (L0:=L) (cond_par hX) hm hT hn hE hk mz hm uS rfl rfl rfl rfl rfl rfl goes180 (fun x m2 c k2 hT hm hE hlex hk hrx=>?_));refine uA ?_;refine av (hs:=[x]) (l:=[c]) tab rTree ⟨rTree_iff.2 hrx,trivial⟩ uH mw (fun s m3 hle3 hs ho hc=>?_);replace hm:=cD hm hle3;replace hE:=hE.mono hle3;refine lu ?_;refine oA tab (fun b3=>?_);refine cM (ba _ _ _) ?_;refine jE ?_;refine aL [7] df 8 [.cells b3 0 [.int .i64 25,strV [],.int .i64 0,s.v]] (E.I k2 0::tok s 4::.cells b2 0 [.int .i64 0,strV [],.int .i64 0,.slice none 0 0]::L) (ba _ _ _) ?_;refine jG ?_;refine c8 (ba _ _ _) (dA (L0:=L) (hY) hm hT hn hE hk mz hm uS rfl rfl rfl rfl rfl rfl goes114 (fun x3 mA a3 k3 hT hm hE hleA hk hr3=>?_));refine⟨hleA,E.I k3 0::tok s 4::.cells b2 0 [.int .i64 0,strV [],.int .i64 0,.slice none 0 0]::L,ba _ _ _,?_⟩;refine af 4 ?_;refine de tab rTree (hs:=[x3]) (l:=[a3]) ⟨rTree_iff.2 hr3,trivial⟩ rfl rfl rfl rfl rfl mw (fun sB mB hleB hsB hoB hcB=>?_);refine⟨hleB,_,a9 _,?_⟩;refine af 5 ?_;refine cU tab rTree 2 (hs.mono (cD hleA hleB)) ho hsB rfl rfl rfl rfl rfl rfl rfl mI (fun s3 mC hleC hs3 ho3=>?_);refine⟨hleC,E.I k3 0::tok s3 4::.cells b2 0 [.int .i64 0,strV [],.int .i64 0,.slice none 0 0]::L,a9 _,?_⟩;refine jR ?_;refine cO (k:=3) tab 0 rfl rfl rfl rfl rfl rfl rfl rfl ?_;refine DOt.perm (ba _ _ _) ?_;refine aH ?_
 rotate_left 1
 replace hm:=cD hm (cD hleB hleC);replace hE:=hE.mono (cD hleB hleC);refine uA ?_;refine qs rfl (dC hT hE hk rfl rfl rfl rfl rfl rfl (fun hT hk=>?_) (fun hT=>?_))
 ·refine uA ?_;refine qs rfl (OT.peekP hT hE hk rfl rfl rfl rfl rfl rfl (fun hT=>?_) (fun hT=>?_))
  ·refine uA ?_;refine kH ?_;refine jG ?_;refine c8 (ba _ _ _) (dA (L0:=L) (hZ) hm hT hn hE hk mz hm uS rfl rfl rfl rfl rfl rfl goes179 (fun x4 mA a4 k4 hT hm hE hleA hk hr4=>?_));refine⟨hleA,E.I k4 0::tok s3 4::.cells b2 0 [.int .i64 0,strV [],.int .i64 0,.slice none 0 0]::L,ba _ _ _,?_⟩;exact d8
  ·refine uA ?_;refine kH ?_;refine jG ?_;refine c8 (ba _ _ _) (dA (L0:=L) (hY) hm hT hn hE hk mz hm uS rfl rfl rfl rfl rfl rfl goes114 (fun x4 mA a4 k4 hT hm hE hleA hk hr4=>?_));refine⟨hleA,E.I k4 0::tok s3 4::.cells b2 0 [.int .i64 0,strV [],.int .i64 0,.slice none 0 0]::L,ba _ _ _,?_⟩;exact d8
 ·refine uA ?_;refine j5 ?_;refine aq 3 ?_;refine aw (L':=E.I k3 0::L) 3 ⟨_,k3,[],hT,hm,hk,⟨⟨25,[],0,s3⟩,rfl,rfl,⟨rfl,rfl,rfl,hs3⟩⟩,rfl⟩
theorem stmt_par {X Y Z S:Ps.Pp Tree} (hX:Par Tryz.prog mb E vTree 199 [E.v] 1 X) (hY:Par Tryz.prog mb E vTree 114 [E.v] 0 Y) (hZ:Par Tryz.prog mb E vTree 179 [E.v] 0 Z)
  (hS:Par Tryz.prog mb E vTree 181 [E.v] 0 S) :
  Par Tryz.prog mb E vTree 151 [E.v] 0 (Ps.peek (Ps.isM [123]) Y (Ps.peek (Ps.isM [105,102]) Z (Ps.tok [102,111,114] (Ps.forP X Y) (Ps.bind S fun s=>Ps.need [59] (Ps.ret s))))):=by
 refine dw Tryz.func151 rfl 42 rfl fun m L k T hm0 hE hk hT hn=>?_;replace hX:=hX.up hm0;replace hY:=hY.up hm0;replace hZ:=hZ.up hm0;replace hS:=hS.up hm0;have hm:m≤m:=cC _;refine uA ?_;refine oA tab (fun b2=>?_);refine cM (ba _ _ _) ?_;refine uA ?_;refine qs rfl (OT.peekP hT hE hk rfl rfl rfl rfl rfl rfl (fun hT=>?_) (fun hT=>?_))
 ·rw[←Ps.bind_ret Y]at hT;refine uA ?_;refine qs rfl (dA (L0:=L) (hY) hm hT hn hE hk mE hm uS rfl rfl rfl rfl rfl rfl goes114 (fun x m2 a k2 hT hm hE hlex hk hrx=>?_));exact gL
 refine uA ?_;refine qs rfl (OT.peekP hT hE hk rfl rfl rfl rfl rfl rfl (fun hT=>?_) (fun hT=>?_))
 ·rw[←Ps.bind_ret Z]at hT;refine uA ?_;refine qs rfl (dA (L0:=L) (hZ) hm hT hn hE hk mE hm uS rfl rfl rfl rfl rfl rfl goes179 (fun x m2 a k2 hT hm hE hlex hk hrx=>?_));exact gL
 refine uA ?_;refine qs rfl (dC hT hE hk rfl rfl rfl rfl rfl rfl (fun hT hk=>?_) (fun hT=>?_))
 ·unfold Ps.forP at hT;refine uA ?_;refine oA tab (fun b3=>?_);refine cM (ba _ _ _) ?_;refine kE ?_;refine TO.grow0 (size:=4) ?_;refine cM (L':=E.I (k+1) 0::.cells b3 0 [.int .i64 26,strV [],.int .i64 0,.slice none 0 0]::tok ⟨none,0,0⟩ 4::.cells b2 0 [.int .i64 0,strV [],.int .i64 0,.slice none 0 0]::L) (be (ba _ _ _) (bg _ (ba _ _ _))) ?_;obtain⟨s,hse⟩:∃ s:Sl,s=⟨none,0,0⟩:=⟨_,rfl⟩
  have hs:SlRep rTree m s []:=by rw[hse];exact cS _ _
  have ho:Own s:=by rw[hse];exact cZ
  rw[show Value.slice none 0 0=(⟨none,0,0⟩:Sl).v from rfl,←hse];refine uA ?_;refine qs rfl (OT.peekP hT hE hk rfl rfl rfl rfl rfl rfl (fun hT=>?_) (fun hT=>?_))
  ·refine uA ?_;refine kP ?_;refine jG ?_;refine c8 (ba _ _ _) (dA (L0:=L) (hY) hm hT hn hE hk mE hm uS rfl rfl rfl rfl rfl rfl goes114 (fun x4 mA a4 k4 hT hm hE hleA hk hr4=>?_));refine⟨hleA,E.I k4 0::tok s 4::.cells b2 0 [.int .i64 0,strV [],.int .i64 0,s.v]::L,ba _ _ _,?_⟩;refine af 4 ?_;refine de tab rTree (hs:=[x4]) (l:=[a4]) ⟨rTree_iff.2 hr4,trivial⟩ rfl rfl rfl rfl rfl mw (fun sB mB hleB hsB hoB hcB=>?_);refine⟨hleB,_,a9 _,?_⟩;refine af 5 ?_;refine cU tab rTree 2 (hs.mono (cD hleA hleB)) ho hsB rfl rfl rfl rfl rfl rfl rfl mI (fun s4 mC hleC hs4 ho4=>?_);refine⟨hleC,E.I k4 0::tok s4 4::.cells b2 0 [.int .i64 0,strV [],.int .i64 0,s.v]::L,a9 _,?_⟩;exact eT
  ·refine uA ?_;refine kP ?_;refine jG ?_;refine c8 (ba _ _ _) (dA (L0:=L) (cond_par hX) hm hT hn hE hk mE hm uS rfl rfl rfl rfl rfl rfl goes180 (fun x3 mA a3 k3 hT hm hE hleA hk hr3=>?_));refine⟨hleA,E.I k3 0::tok s 4::.cells b2 0 [.int .i64 0,strV [],.int .i64 0,s.v]::L,ba _ _ _,?_⟩;refine af 4 ?_;refine de tab rTree (hs:=[x3]) (l:=[a3]) ⟨rTree_iff.2 hr3,trivial⟩ rfl rfl rfl rfl rfl mw (fun sB mB hleB hsB hoB hcB=>?_);refine⟨hleB,_,a9 _,?_⟩;refine af 5 ?_;refine cU tab rTree 2 (hs.mono (cD hleA hleB)) ho hsB rfl rfl rfl rfl rfl rfl rfl mI (fun s3 mC hleC hs3 ho3=>?_);refine⟨hleC,E.I k3 0::tok s3 4::.cells b2 0 [.int .i64 0,strV [],.int .i64 0,s.v]::L,a9 _,?_⟩;refine jR ?_;refine cO (k:=3) tab 0 rfl rfl rfl rfl rfl rfl rfl rfl ?_;refine DOt.perm (ba _ _ _) ?_;refine aH ?_
   rotate_left 1
   replace hm:=cD hm (cD hleB hleC);replace hE:=hE.mono (cD hleB hleC);refine uA ?_;refine aL [7] df 8 [.cells b3 0 [.int .i64 26,strV [],.int .i64 0,s3.v]] (E.I k3 0::tok s3 4::.cells b2 0 [.int .i64 0,strV [],.int .i64 0,s.v]::L) (ba _ _ _) ?_;refine jG ?_;refine c8 (ba _ _ _) (dA (L0:=L) (hY) hm hT hn hE hk mE hm uS rfl rfl rfl rfl rfl rfl goes114 (fun x4 mA a4 k4 hT hm hE hleA hk hr4=>?_));refine⟨hleA,E.I k4 0::tok s3 4::.cells b2 0 [.int .i64 0,strV [],.int .i64 0,s.v]::L,ba _ _ _,?_⟩;refine af 4 ?_;refine de tab rTree (hs:=[x4]) (l:=[a4]) ⟨rTree_iff.2 hr4,trivial⟩ rfl rfl rfl rfl rfl mw (fun sB mB hleB hsB hoB hcB=>?_);refine⟨hleB,_,a9 _,?_⟩;refine af 5 ?_;refine cU tab rTree 2 (hs3.mono (cD hleA hleB)) ho3 hsB rfl rfl rfl rfl rfl rfl rfl (by simp only[a6,a7,a8,rTree,mkR];omega) (fun s4 mC hleC hs4 ho4=>?_);refine⟨hleC,E.I k4 0::tok s4 4::.cells b2 0 [.int .i64 0,strV [],.int .i64 0,s.v]::L,a9 _,?_⟩;exact eT
 refine uA ?_;refine qs rfl (dA (L0:=L) (hS) hm hT hn hE hk mz hm uS rfl rfl rfl rfl rfl rfl goes181 (fun x m2 a k2 hT hm hE hlex hk hrx=>?_));refine uA ?_;refine oA tab (fun b4=>?_);refine cM (ba _ _ _) ?_;refine jE ?_;refine qs rfl (OT.needP (L0:=L) hT hE hk mz hm uS rfl rfl rfl rfl rfl rfl (fun hT hk=>?_));refine jJ ?_;refine aq 2 ?_;refine aw (L':=E.I (k2+1) 0::L) 2 ⟨_,k2+1,[],hT,hm,hk,⟨x,rfl,rfl,hrx⟩,rfl⟩
end
end Go.Sep
namespace Go.Ps
theorem tokIf_eq {α:Type} (c:Bool) (s:Sep.Str) (A B:Pp α) (f:F) (k:Nat):tokIf c s A B f k=bif (isM s f k&&c)then A f (k+1)else B f k:=by
 unfold tokIf tok;cases c<;>cases h:isM s f k<;>simp[h]
end Go.Ps
namespace Go.Sep
open Go.Proofs
attribute [local irreducible] TC TO OT TCallX TCall DO DOt thenQ blockQ retQ At
section
variable {mb:Mem} {E:PE}
theorem perm_simple {α:Type} {e t n s b:α} {l:List α}:(e::t::n::s::b::l).Perm ([n]++(e::s::b::t::l)):=by
 refine be (bg _ (ba _ _ _)) (be (ba _ _ _) (bg _ (bg _ ?_)));exact be (ba _ _ _) (bg _ (ba _ _ _))
def Tells (fn:FuncId) (p:Tree→Bool):Prop:=Goes Tryz.prog fn∧∀(m:Mem) (L:List Item) (h:HTree) (a:Tree),TreeRep m h a→TCall Tryz.prog fn ⟨[treeV h]⟩ m L (Ret (.bool (p a)) m L)
theorem isNm_tells : Tells 201 Ps.isNm:=by
 refine⟨goes201,fun m L h a hr=>?_⟩;obtain⟨h1,h2,h3,h4⟩:=hr;unfold TCall;refine ak Tryz.func201 6 ?_;refine ay (fun b=>?_);refine jy ?_;unfold Ps.isNm;rw[h1]
theorem isPl_tells : Tells 190 Ps.isPl:=by
 refine⟨goes190,fun m L h a hr=>?_⟩;obtain⟨h1,h2,h3,h4⟩:=hr;unfold TCall;refine ak Tryz.func190 26 ?_;refine oB (fun b=>?_)
 repeat' (first|(first|refine q1 ?_|refine q3 ?_|refine q4 tab rfl rfl ?_|refine q5 ?_|refine q6 ?_|refine q15 ?_)|(refine qs rfl (ql tab 0 rfl rfl rfl rfl rfl rfl ?_))|(refine TO.splitP rfl rfl (fun hb=>?_) (fun hb=>?_)))
 all_goals
  refine jy ?_;refine lw ?_;unfold Ps.isPl;rw[←h1,←h2]
  simp_all
theorem all_law (m:Mem) (L:List Item) (s:Sl) (l:List Tree) (hs:SlRep rTree m s l) (b5:Nat) (hA:At m b5 0 [s.v]) (fn:FuncId) (p:Tree→Bool) (hp:Tells fn p) :
  TCall Tryz.prog 200 ⟨[.func (.func fn) ⟨[]⟩ ⟨[]⟩,.pointer (some ⟨b5,0,none⟩)]⟩ m L (Ret (.bool (l.all p)) m L):=by
 have hlen:=hs.len;have hsm:=hs.small rfl;unfold TCall;refine ak Tryz.func200 17 ?_;refine jV ?_;refine cH (ι:=Nat) [0,1,6,7] rfl (fun k=>[(8,.int .i64 (k:Int))]) (fun _=>m) (fun _=>L) (fun k=>k≤l.length∧(l.take k).all p=true) (fun k=>l.length-k) 0 uH rfl uS ⟨cn _,by simp⟩ ?_;rintro k ⟨hk,hI⟩;refine uA ?_;refine am (fun hc=>?_) (fun hc=>?_)
 ·have hlt:k<l.length:=mv;have hx:l[k]? = some l[k]:=bm hlt;refine kJ ?_;rintro bx ix hx' hrx hAx;refine uA ?_;refine ap tab hAx ?_;refine aC tab (fun b9=>?_);refine jx ?_;refine uM ?_;refine qs rfl (cR (all:=[treeV hx']) rfl rfl rfl rfl rfl nh hp.1 ((hp.2 _ _ hx' l[k] (rTree_iff.1 hrx)).x ?_));refine ka ?_;refine uA ?_;cases hb:p l[k]with
  | true =>
   refine lQ ?_;exact⟨k+1,uH,uH,rfl,rfl,uS,⟨hlt,by rw[cq hlt,List.all_append,hI];simp[hb]⟩,by omega⟩
  | false =>
   refine jT ?_;refine lw ?_
   symm
   rw[List.all_eq_false];exact⟨l[k],bL hlt,by simp[hb]⟩
 ·refine uA ?_;refine jy ?_;rw[cj mv]at hI;rw[hI]
theorem simple_par {X Y:Ps.Pp Tree} (hX:Par Tryz.prog mb E vTree 145 [E.v] 0 X) (hY:Par Tryz.prog mb E vTree 199 [E.v] 0 Y) :
  Par Tryz.prog mb E vTree 181 [E.v] 0 (Ps.simpleP E.N X Y):=by
 refine dw Tryz.func181 rfl 109 rfl fun m L k T hm0 hE hk hT hn=>?_;replace hX:=hX.up hm0;replace hY:=hY.up hm0;have hm:m≤m:=cC _;unfold Ps.simpleP at hT;refine uA ?_;refine oA tab (fun b2=>?_);refine cM (ba _ _ _) ?_;refine uA ?_;refine qs rfl (dC hT hE hk rfl rfl rfl rfl rfl rfl (fun hT hk=>?_) (fun hT=>?_))
 ·refine uA ?_;refine qs rfl (OT.nameP (L0:=L) hT hE hk mE hm uS rfl rfl rfl rfl rfl rfl (fun nm hT hk=>?_));refine uA ?_;refine oA tab (fun b3=>?_);refine cM (ba _ _ _) ?_;refine jE ?_;refine qs rfl (dA (L0:=L) (hX) hm hT hn hE hk mE hm uS rfl rfl rfl rfl rfl rfl goes145 (fun t m2 tt k2 hT hm hE hlet hk hrt=>?_));refine uA ?_;refine av (hs:=[t]) (l:=[tt]) tab rTree ⟨rTree_iff.2 hrt,trivial⟩ uH mw (fun s m3 hle3 hs ho hc=>?_);replace hm:=cD hm hle3;replace hE:=hE.mono hle3;refine TO.tokFo hc ho 4 ?_;refine aJ (be (ba _ _ _) (bg _ (ba _ _ _))) ?_;refine aj (k:=3) 1 ?_;refine qs rfl (dC hT hE hk rfl rfl rfl rfl rfl rfl (fun hT hk=>?_) (fun hT=>?_))
  ·refine uA ?_;refine aL [7] df 8 [.cells b3 0 [.int .i64 21,strV nm,.int .i64 0,s.v]] (E.I (k2+1) 0::tok s 4::.cells b2 0 [.int .i64 0,strV [],.int .i64 0,.slice none 0 0]::L) (ba _ _ _) ?_;refine jG ?_;refine c8 (ba _ _ _) (dA (L0:=L) (hY) hm hT hn hE hk mE hm uS rfl rfl rfl rfl rfl rfl goes199 (fun x4 mA a4 k4 hT hm hE hleA hk hr4=>?_));refine⟨hleA,E.I k4 0::tok s 4::.cells b2 0 [.int .i64 0,strV [],.int .i64 0,.slice none 0 0]::L,ba _ _ _,?_⟩;refine af 4 ?_;refine de tab rTree (hs:=[x4]) (l:=[a4]) ⟨rTree_iff.2 hr4,trivial⟩ rfl rfl rfl rfl rfl mw (fun sB mB hleB hsB hoB hcB=>?_);refine⟨hleB,_,a9 _,?_⟩;refine af 5 ?_;refine cU tab rTree 2 (hs.mono (cD hleA hleB)) ho hsB rfl rfl rfl rfl rfl rfl rfl mI (fun s4 mC hleC hs4 ho4=>?_);refine⟨hleC,E.I k4 0::tok s4 4::.cells b2 0 [.int .i64 0,strV [],.int .i64 0,.slice none 0 0]::L,a9 _,?_⟩;refine jR ?_;refine cO (k:=3) tab 0 rfl rfl rfl rfl rfl rfl rfl rfl ?_;refine DOt.perm (ba _ _ _) ?_;refine aH ?_
   rotate_left 1
   replace hm:=cD hm (cD hleB hleC);replace hE:=hE.mono (cD hleB hleC);refine lR ?_;refine aw (L':=E.I k4 0::L) 3 ⟨_,k4,[],hT,hm,hk,⟨⟨21,nm,0,s4⟩,rfl,rfl,⟨rfl,rfl,rfl,hs4⟩⟩,rfl⟩
  ·refine uA ?_;refine j5 ?_;refine aq 3 ?_;refine aw (L':=E.I k2 0::L) 3 ⟨_,k2,[],hT,hm,hk,⟨⟨21,nm,0,s⟩,rfl,rfl,⟨rfl,rfl,rfl,hs⟩⟩,rfl⟩
 refine uA ?_;refine qs rfl (dC hT hE hk rfl rfl rfl rfl rfl rfl (fun hT hk=>?_) (fun hT=>?_))
 ·refine uA ?_;refine oA tab (fun b4=>?_);refine cM (ba _ _ _) ?_;refine jE ?_;refine qs rfl (OT.peekP hT hE hk rfl rfl rfl rfl rfl rfl (fun hT=>?_) (fun hT=>?_))
  ·refine uA ?_;refine j5 ?_;refine aq 2 ?_;refine aw (L':=E.I (k+1) 0::L) 2 ⟨_,k+1,[],hT,hm,hk,⟨⟨27,[],0,⟨none,0,0⟩⟩,rfl,rfl,⟨rfl,rfl,rfl,cS _ _⟩⟩,rfl⟩
  ·refine uA ?_;refine qs rfl (OT.parL (L0:=L) (list1_par (first:=[E.v]) (cap:=[]) rfl goes199 hY) hm hT hn hE hk mE hm uS rfl rfl rfl rfl rfl rfl goes148 (fun x m2 l k2 hT hm hE hlex hk hrx hox hlx=>?_));refine aJ (L':=E.I k2 0::.cells b4 0 [.int .i64 27,strV [],.int .i64 0,.slice none 0 0]::tok x 4::.cells b2 0 [.int .i64 0,strV [],.int .i64 0,.slice none 0 0]::L) (bg _ (ba _ _ _)) ?_;refine lz ?_;refine aw (L':=E.I k2 0::L) 3 ⟨_,k2,[],hT,hm,hk,⟨⟨27,[],0,x⟩,rfl,rfl,⟨rfl,rfl,rfl,hrx⟩⟩,rfl⟩
 refine uA ?_;refine qs rfl (dC hT hE hk rfl rfl rfl rfl rfl rfl (fun hT hk=>?_) (fun hT=>?_))
 ·refine uA ?_;refine jx ?_;refine aw (L':=E.I (k+1) 0::L) 1 ⟨_,k+1,[],hT,hm,hk,⟨⟨28,[],0,⟨none,0,0⟩⟩,rfl,rfl,⟨rfl,rfl,rfl,cS _ _⟩⟩,rfl⟩
 refine uA ?_;refine qs rfl (dC hT hE hk rfl rfl rfl rfl rfl rfl (fun hT hk=>?_) (fun hT=>?_))
 ·refine uA ?_;refine jx ?_;refine aw (L':=E.I (k+1) 0::L) 1 ⟨_,k+1,[],hT,hm,hk,⟨⟨29,[],0,⟨none,0,0⟩⟩,rfl,rfl,⟨rfl,rfl,rfl,cS _ _⟩⟩,rfl⟩
 refine uA ?_;refine qs rfl (OT.parL (L0:=L) (list1_par (first:=[E.v]) (cap:=[]) rfl goes199 hY) hm hT hn hE hk mz hm uS rfl rfl rfl rfl rfl rfl goes148 (fun s m2 l k1 hT hm hE hles hk hrs hos hls=>?_));have hs:=hrs;have ho:=hos;have hl:=hls;have hlen:=hs.len;refine uA ?_;refine aC tab (fun b5=>?_);refine uT ?_;refine cX fun m3 hle3 hA=>?_;replace hm:=cD hm hle3;replace hE:=hE.mono hle3;replace hs:=hs.mono hle3;refine uA ?_;refine cM (L':=E.I k1 0::tok s 4::.cells b2 0 [.int .i64 0,strV [],.int .i64 0,.slice none 0 0]::L) (a9 _) ?_;refine oA tab (fun b7=>?_);refine cM (ba _ _ _) ?_;refine kE ?_;unfold Ps.assignP at hT;simp only[Ps.tokIf_eq]at hT;refine mu ?_;refine TC.cut (ι:=Int) [0,2,5,7] rfl (fun _=>[]) (fun i=>m3) (fun i=>E.I k1 0::.cells b7 0 [.int .i64 i,strV [],.int .i64 0,.slice none 0 0]::tok s 4::.cells b2 0 [.int .i64 0,strV [],.int .i64 0,.slice none 0 0]::L) (fun i=>k1+1≤E.toks.length∧T=(Ps.bind (Ps.commas E.N Y) fun l2=>Ps.ret (Tree.mk i [] (l.length:Int) (l++l2))) E.f (k1+1)) ?_ ?_
 ·skip;refine uA ?_;refine au goes144 (peek_law [58,61] hE hk) ?_;cases hb1:Ps.isM [58,61] E.f k1 with
  | false =>
   rw[hb1,Bool.false_and]at hT;simp only[cy]at hT;refine uA ?_;refine au goes144 (peek_law [61] hE hk) ?_;cases hb2:Ps.isM [61] E.f k1 with
   | false =>
    rw[hb2,Bool.false_and]at hT;exact dF
   | true =>
    refine uA ?_;refine oR goes200 (all_law m3 _ s l hs b5 hA _ Ps.isPl isPl_tells) ?_;cases ha2:l.all Ps.isPl with
    | true =>
     exact gn
    | false =>
     rw[ha2,Bool.and_false]at hT;exact dF
  | true =>
   refine uA ?_;refine oR goes200 (all_law m3 _ s l hs b5 hA _ Ps.isNm isNm_tells) ?_;cases ha1:l.all Ps.isNm with
   | true =>
    rw[hb1,ha1]at hT;simp only[Bool.and_true,cz]at hT;refine uA ?_;refine aq 1 ?_;exact⟨22,uH,uH,rfl,rfl,uS,PE.isM_lt hb1,hT⟩
   | false =>
    rw[ha1,Bool.and_false]at hT;simp only[cy]at hT;refine uA ?_;refine au goes144 (peek_law [61] hE hk) ?_;cases hb2:Ps.isM [61] E.f k1 with
    | false =>
     rw[hb2,Bool.false_and]at hT;exact dF
    | true =>
     refine uA ?_;refine oR goes200 (all_law m3 _ s l hs b5 hA _ Ps.isPl isPl_tells) ?_;cases ha2:l.all Ps.isPl with
     | true =>
      exact gn
     | false =>
      rw[ha2,Bool.and_false]at hT;exact dF
 ·rintro kd ⟨hk,hT⟩;have hfew:=hE.few;refine lr ?_;refine aa (r':=((k1+1:Nat):Int)) uH mv ?_;refine aj (k:=2) 0 ?_;refine jV ?_;refine aj (k:=2) 1 ?_;refine aL [7] df 8 [.cells b7 0 [.int .i64 kd,strV [],.int .i64 (s.len:Int),.slice none 0 0]] (E.I (k1+1) 0::tok s 4::.cells b2 0 [.int .i64 0,strV [],.int .i64 0,.slice none 0 0]::L) (ba _ _ _) ?_;refine ai (k:=0) 0 hA ?_;refine cV tab uC uK [1,2,3] uK rfl ?_;refine af 4 ?_;refine c8 (ba _ _ _) (OT.parL (L0:=L) (list1_par (first:=[E.v]) (cap:=[]) rfl goes199 hY) hm hT hn hE hk mz hm uS rfl rfl rfl rfl rfl rfl goes148 (fun x mA l2 k2 hT hm hE hleA hk hrx hox hlx=>?_));refine⟨hleA,E.I k2 0::tok s 4::.cells b2 0 [.int .i64 0,strV [],.int .i64 0,.slice none 0 0]::tok x 4::L,perm_simple,?_⟩;refine af 5 ?_;refine cU tab rTree 2 (hs.mono hleA) ho hrx rfl rfl rfl rfl rfl rfl rfl oq (fun s3 mC hleC hs3 ho3=>?_);refine⟨hleC,E.I k2 0::tok s3 4::.cells b2 0 [.int .i64 0,strV [],.int .i64 0,.slice none 0 0]::tok x 4::L,a9 _,?_⟩;refine jR ?_;refine cO (k:=3) tab 0 rfl rfl rfl rfl rfl rfl rfl rfl ?_;refine DOt.perm (ba _ _ _) ?_;refine aH ?_
  rotate_left 1
  refine lR ?_;refine retQ_ret_c1 tab 3 rfl rfl rfl rfl (L':=E.I k2 0::L) uS ⟨_,k2,[],hT,cD hm hleC,hk,⟨⟨kd,[],(s.len:Int),s3⟩,rfl,rfl,⟨rfl,rfl,by show(s.len:Int)=_;rw[hlen];rfl,hs3⟩⟩,rfl⟩
end
end Go.Sep
namespace Go.Ps
theorem oneOf_some {α:Type} {ops:List Sep.Str} {A:Sep.Str→Pp α} {B:Pp α} {f:F} {k:Nat} {s:Sep.Str} (h:ops.find? (fun s=>isM s f k)=some s):oneOf ops A B f k=A s f (k+1):=by unfold oneOf;rw[h]
theorem oneOf_none {α:Type} {ops:List Sep.Str} {A:Sep.Str→Pp α} {B:Pp α} {f:F} {k:Nat} (h:ops.find? (fun s=>isM s f k)=none):oneOf ops A B f k=B f k:=by unfold oneOf;rw[h]
theorem find_at {p:Sep.Str→Bool} {l:List Sep.Str} {i:Nat} (hi:i<l.length) (h1:(l.take i).all (fun s=>!p s)=true) (h2:p l[i]=true):l.find? p=some l[i]:=by
 have e:l=l.take i++l[i]::l.drop (i+1):=by rw[List.getElem_cons_drop,co]
 rw[List.find?_eq_some_iff_append];exact⟨h2,l.take i,l.drop (i+1),e,fun a ha=>by simpa using List.all_eq_true.1 h1 a ha⟩
theorem find_no {p:Sep.Str→Bool} {l:List Sep.Str} (h1:l.all (fun s=>!p s)=true):l.find? p=none:=by
 rw[List.find?_eq_none];intro a ha;simpa using List.all_eq_true.1 h1 a ha
end Go.Ps
namespace Go.Sep
open Go.Proofs
attribute [local irreducible] TC TO OT TCallX TCall DO DOt thenQ blockQ retQ At
section
variable {mb:Mem} {E:PE} {h:Int}
theorem levels_law (m:Mem) (L:List Item):TCall Tryz.prog 189 ⟨[]⟩ m L (Made m L fun r m'=>∃ s:Sl,r=s.v∧SlRep (rSl rStr) m' s Ps.levels):=by
 unfold TCall;refine ak Tryz.func189 7 ?_;refine av (hs:=[[124,124]]) (l:=[[124,124]]) tab rStr ⟨rfl,trivial⟩ uH mw (fun s1 m1 h1 hs1 _ _=>?_);refine av (hs:=[[38,38]]) (l:=[[38,38]]) tab rStr ⟨rfl,trivial⟩ uH mw (fun s2 m2 h2 hs2 _ _=>?_);refine av (hs:=[[61,61],[33,61],[60],[60,61],[62],[62,61]]) (l:=[[61,61],[33,61],[60],[60,61],[62],[62,61]]) tab rStr ⟨rfl,rfl,rfl,rfl,rfl,rfl,trivial⟩ uH mw (fun s3 m3 h3 hs3 _ _=>?_);refine av (hs:=[[43],[45]]) (l:=[[43],[45]]) tab rStr ⟨rfl,rfl,trivial⟩ uH mw (fun s4 m4 h4 hs4 _ _=>?_);refine av (hs:=[[42],[47],[37]]) (l:=[[42],[47],[37]]) tab rStr ⟨rfl,rfl,rfl,trivial⟩ uH mw (fun s5 m5 h5 hs5 _ _=>?_);have k45:=h5;have k35:=cD h4 k45;have k25:=cD h3 k35;have k15:=cD h2 k25;refine av (hs:=[s1,s2,s3,s4,s5]) (l:=Ps.levels) tab (rSl rStr) ⟨hs1.mono k15,hs2.mono k25,hs3.mono k35,hs4.mono k45,hs5,trivial⟩ uH mw (fun s m6 h6 hs _ _=>?_);refine uA ?_;refine ag ⟨cD h1 (cD k15 h6),rfl,s,rfl,hs⟩
theorem levels_ne {ops:List Str} (ho:ops∈Ps.levels) {s:Str} (hs:s∈ops):s≠[]:=by
 have:∀ ops∈Ps.levels,∀ s∈ops,s≠[]:=mw;exact this ops ho s hs
theorem binary_par {U:Ps.Pp Tree} (hU:Par Tryz.prog mb E vTree 220 [E.v] h U) :
  ∀ d j:Nat,j+d=5→Par Tryz.prog mb E vTree 214 [E.v,.int .i64 (j:Int)] h (Ps.binL E.N U (Ps.levels.drop j)):=by
 intro d
 induction d with
 | zero =>
  intro j hj;refine dw Tryz.func214 rfl 46 rfl fun m L k T hm0 hE hk hT hn=>?_;replace hU:=hU.up hm0;obtain rfl:j=5:=mv;replace hT:T=Ps.bind U Ps.ret E.f k:=by rw[Ps.bind_ret];exact hT
  refine uA ?_;refine oA tab (fun b4=>?_);refine cM (ba _ _ _) ?_;refine uA ?_;refine oC goes189 ((levels_law _ _).x ?_);rintro _ m1 _ ⟨hm1,rfl,s,rfl,hs⟩;have hlen:=hs.len;replace hm:=hm1;replace hE:=hE.mono hm1;refine uA ?_;refine am (fun hc=>?_) (fun hc=>?_)
  ·refine uA ?_;refine qs rfl (dA (L0:=L) (hU) hm hT hn hE hk mz hm uS rfl rfl rfl rfl rfl rfl goes220 (fun x m2 a k2 hT hm hE hlex hk hrx=>?_));exact eZ
  ·exact absurd (by rw[hlen];rfl) hc
 | succ d ih =>
  intro j hj;have ihj:=ih (j+1) mv;have hjl:j<Ps.levels.length:=by show j<5;omega
  have hops:Ps.levels.drop j=Ps.levels[j]::Ps.levels.drop (j+1):=bU hjl;have hne:∀ s∈Ps.levels[j],s≠[]:=fun s hs=>levels_ne (bL hjl) hs;have hget:Ps.levels[j]? = some Ps.levels[j]:=bm hjl;generalize Ps.levels[j]=ops at hops hne hget;generalize hXe:Ps.binL E.N U (Ps.levels.drop (j+1))=X at ihj;have hspec:Ps.binL E.N U (Ps.levels.drop j)=Ps.bind X (Ps.loopB E.N ops X):=by rw[hops,←hXe];rfl
  rw[hspec];clear hspec hXe hops;refine dw Tryz.func214 rfl 46 rfl fun m L k T hm0 hE hk hT hn=>?_;replace ihj:=ihj.up hm0;refine uA ?_;refine oA tab (fun b4=>?_);refine cM (ba _ _ _) ?_;refine uA ?_;refine oC goes189 ((levels_law _ _).x ?_);rintro _ m1 _ ⟨hm1,rfl,s,rfl,hs⟩;have hlen:=hs.len;replace hm:=hm1;replace hE:=hE.mono hm1;refine uA ?_;refine am (fun hc=>?_) (fun hc=>?_)
  ·have:s.len=5:=by rw[hlen];rfl
   omega
  refine uA ?_;refine qs rfl (OT.arith (r':=((j+1:Nat):Int)) rfl rfl rfl rfl rfl rfl rfl mv ?_);refine qs rfl (dA (L0:=L) (ihj) hm hT hn hE hk mz hm uS rfl rfl rfl rfl rfl rfl goes214 (fun x m2 a k2 hT hm hE hlex hk hrx=>?_));replace hs:=hs.mono hlex;have hlex':m≤m2:=hm;refine uA ?_;refine oA tab (fun b6=>?_);refine cM (ba _ _ _) ?_;refine jE ?_;refine cH (ι:=HTree×Mem×Tree×Nat×Nat) [0,1,4,5,6] rfl (fun _=>[]) (fun x=>x.2.1) (fun x=>E.I x.2.2.2.1 h::.cells b6 0 (treeC x.1)::.cells b4 0 [.int .i64 0,strV [],.int .i64 0,.slice none 0 0]::L) (fun x=>m2≤x.2.1∧x.2.2.2.1≤E.toks.length∧TreeRep x.2.1 x.1 x.2.2.1∧T=Ps.loopB x.2.2.2.2 ops X x.2.2.1 E.f x.2.2.2.1) (fun x=>x.2.2.2.2) (x,m2,a,k2,E.N) uH rfl uS ⟨cC _,hk,hrx,hT⟩ ?_;rintro⟨x,m3,a,k3,N⟩ ⟨hm3,hk,hrx,hT⟩;simp only at hm3 hk hrx hT;replace hm:=cD hm hm3;replace hE:=hE.mono hm3;replace hs:=hs.mono hm3;cases N with
  | zero=>exact absurd hT hn
  | succ N =>
   replace hT:T=Ps.oneOf ops (fun op=>Ps.bind X fun m=>Ps.loopB N ops X (Ps.binT op a m)) (Ps.ret a) E.f k3:=hT;refine q2 ?_;refine q1 ?_;refine q3 ?_;refine q4 tab rfl rfl ?_;refine q5 ?_;refine q6 ?_;refine TC.cut (ι:=Str×Nat) [0,1,4,5,6] rfl (fun i=>[(7,strV i.1)]) (fun _=>m3) (fun i=>E.I i.2 h::.cells b6 0 (treeC x)::.cells b4 0 [.int .i64 0,strV [],.int .i64 0,.slice none 0 0]::L) (fun i=>(i.1=[]∧i.2=k3∧ops.find? (fun s=>Ps.isM s E.f k3)=none)∨(i.1≠[]∧i.2=k3+1∧k3+1≤E.toks.length∧ops.find? (fun s=>Ps.isM s E.f k3)=some i.1)) ?_ ?_
   ·refine uA ?_;refine qs rfl (OT.index tab (rSl rStr) j hs rfl rfl rfl rfl rfl rfl rfl hget ?_);intro bi ii row hrow hAr;have hrow':SlRep rStr m3 row ops:=hrow;have hlr:=hrow'.len;have hsm:=hrow'.small rfl;refine uA ?_;refine ap tab hAr ?_;refine cH (ι:=Nat) [0,1,4,5,6,7,24,25] rfl (fun i=>[(26,.int .i64 (i:Int))]) (fun _=>m3) (fun i=>E.I k3 h::.cells b6 0 (treeC x)::.cells b4 0 [.int .i64 0,strV [],.int .i64 0,.slice none 0 0]::L) (fun i=>i≤ops.length∧(ops.take i).all (fun s=>!Ps.isM s E.f k3)=true) (fun i=>ops.length-i) 0 uH rfl uS ⟨cn _,by simp⟩ ?_;rintro i ⟨hi,hI⟩;refine uA ?_;refine am (fun hc2=>?_) (fun hc2=>?_)
    ·have hlt:i<ops.length:=mv;have hx:ops[i]? = some ops[i]:=bm hlt;refine uA ?_;refine ar tab rStr i hrow' uH mD rfl hx ?_;rintro bs is' sv hsv hAs;obtain rfl:=(show sv=ops[i] from hsv)
     refine uA ?_;refine ap tab hAs ?_;refine oR goes109 (take_law ops[i] hE hk) ?_;unfold PE.step;cases hb:Ps.isM ops[i] E.f k3 with
     | true =>
      refine uA ?_;exact⟨(ops[i],k3+1),uH,uH,rfl,rfl,uS,.inr ⟨hne _ (bL hlt),rfl,PE.isM_lt hb,Ps.find_at hlt hI hb⟩⟩
     | false =>
      exact fX
    ·rw[cj mv]at hI;refine uA ?_;exact⟨([],k3),uH,uH,rfl,rfl,uS,.inl ⟨rfl,rfl,Ps.find_no hI⟩⟩
   ·rintro⟨found,k4⟩ hI;simp only at hI;refine uA ?_;refine am (fun hf=>?_) (fun hf=>?_)
    ·rcases hI with ⟨rfl,rfl,hI⟩ | ⟨h1,_⟩
     ·rw[Ps.oneOf_none hI]at hT;refine jJ ?_;refine aq 2 ?_;refine aw (L':=E.I k4 h::L) 2 ⟨_,k4,[],hT,hm,hk,⟨x,rfl,rfl,hrx⟩,rfl⟩
     ·exact absurd hf h1
    ·rcases hI with ⟨h1,_⟩ | ⟨_,rfl,hk,hI⟩
     ·exact absurd h1 hf
     rw[Ps.oneOf_some hI]at hT;refine uA ?_;refine aL [8] df 9 [.cells b6 0 (treeC x)] (E.I (k3+1) h::.cells b4 0 [.int .i64 0,strV [],.int .i64 0,.slice none 0 0]::L) (ba _ _ _) ?_;refine kM ?_;refine ae (k:=0) 1 0 ?_;refine cV tab uC uK [2,3] uK rfl ?_;refine DO.arith 4 (r':=((j+1:Nat):Int)) uC uK uK rfl rfl rfl rfl rfl rfl rfl rfl mD mv ?_;refine af 5 ?_;refine c8 (ba _ _ _) (dA (L0:=L) ihj (cD hlex' hm3) hT hn hE hk mE hm uS rfl rfl rfl rfl rfl rfl goes214 (fun y m5 b k5 hT hm hE hle5 hk hry=>?_));refine⟨hle5,E.I k5 h::.cells b4 0 [.int .i64 0,strV [],.int .i64 0,.slice none 0 0]::L,ba _ _ _,?_⟩;refine af 6 ?_;refine de tab rTree (hs:=[x,y]) (l:=[a,b]) ⟨rTree_iff.2 (hrx.mono hle5),rTree_iff.2 hry,trivial⟩ rfl rfl rfl rfl rfl mw (fun s9 m6 hle6 hs9 ho9 hc9=>?_);refine⟨hle6,_,a9 _,?_⟩;refine cV tab uC uK [7] uK rfl ?_;refine cW ?_;refine aB 8 ?_;refine cP tab 0 rfl rfl rfl rfl rfl rfl rfl rfl ?_;refine DOt.perm (ba _ _ _) ?_;refine aH ?_
     rotate_left 1
     refine uA ?_;exact⟨(⟨53,found,0,s9⟩,m6,Ps.binT found a b,k5,N),uH,uH,rfl,rfl,uS,⟨cD hm3 (cD hle5 hle6),hk,⟨rfl,rfl,rfl,hs9⟩,hT⟩,by simp only;omega⟩
theorem expr_par {U:Ps.Pp Tree} (hU:Par Tryz.prog mb E vTree 220 [E.v] h U) :
  Par Tryz.prog mb E vTree 199 [E.v] h (Ps.binL E.N U Ps.levels):=by
 refine dw Tryz.func199 rfl 5 rfl fun m L k T hm0 hE hk hT hn=>?_;have hB:=(binary_par hU 5 0 rfl).up hm0;have hm:m≤m:=cC _;replace hT:T=Ps.bind (Ps.binL E.N U Ps.levels) Ps.ret E.f k:=by rw[Ps.bind_ret];exact hT
 refine uA ?_;refine oA tab (fun b2=>?_);refine cM (ba _ _ _) ?_;refine uA ?_;refine qs rfl (dA (L0:=L) (hB) hm hT hn hE hk mz hm uS rfl rfl rfl rfl rfl rfl goes214 (fun x m2 a k2 hT hm hE hlex hk hrx=>?_));exact eZ
theorem unary_par {X Y:Ps.Pp Tree} (hX:Par Tryz.prog mb E vTree 220 [E.v] h X) (hY:Par Tryz.prog mb E vTree 227 [E.v] h Y) :
  Par Tryz.prog mb E vTree 220 [E.v] h (Ps.oneOf [[45],[33],[38],[42]] (fun op=>Ps.bind X fun t=>Ps.ret (.mk 52 op 0 [t])) Y):=by
 refine dw Tryz.func220 rfl 22 rfl fun m L k T hm0 hE hk hT hn=>?_;replace hX:=hX.up hm0;replace hY:=hY.up hm0;generalize hops:([[45],[33],[38],[42]]:List Str)=ops at hT;refine uA ?_;refine oA tab (fun b2=>?_);refine cM (ba _ _ _) ?_;refine uA ?_;refine qs rfl (de tab rStr (hs:=[[45],[33],[38],[42]]) (l:=ops) (by rw[←hops];exact⟨rfl,rfl,rfl,rfl,trivial⟩) rfl rfl rfl rfl (by rw[←hops];rfl) mw (fun s m1 hm1 hs _ _=>?_));have hlen:=hs.len;have hsm:=hs.small rfl;replace hm:=hm1;replace hE:=hE.mono hm1;refine uA ?_;refine cH (ι:=Nat) [0,2,5,6] rfl (fun i=>[(7,.int .i64 (i:Int))]) (fun _=>m1) (fun i=>E.I k h::.cells b2 0 [.int .i64 0,strV [],.int .i64 0,.slice none 0 0]::L) (fun i=>i≤ops.length∧(ops.take i).all (fun s=>!Ps.isM s E.f k)=true) (fun i=>ops.length-i) 0 uH rfl uS ⟨cn _,by simp⟩ ?_;rintro i ⟨hi,hI⟩;refine uA ?_;refine am (fun hc2=>?_) (fun hc2=>?_)
 ·have hlt:i<ops.length:=mv;have hx:ops[i]? = some ops[i]:=bm hlt;refine uA ?_;refine ar tab rStr i hs uH mD rfl hx ?_;rintro bs is' sv hsv hAs;obtain rfl:=(show sv=ops[i] from hsv)
  refine uA ?_;refine ap tab hAs ?_;refine oR goes109 (take_law ops[i] hE hk) ?_;unfold PE.step;cases hb:Ps.isM ops[i] E.f k with
  | true =>
   replace hk:=PE.isM_lt hb;rw[Ps.oneOf_some (Ps.find_at hlt hI hb)]at hT;refine uA ?_;refine qs rfl (dA (L0:=L) (hX) hm hT hn hE hk mE hm uS rfl rfl rfl rfl rfl rfl goes220 (fun x m2 a k2 hT hm hE hlex hk hrx=>?_));refine uA ?_;refine av (hs:=[x]) (l:=[a]) tab rTree ⟨rTree_iff.2 hrx,trivial⟩ uH mw (fun s m3 hle3 hs ho hc=>?_);refine jE ?_;refine aw (L':=E.I k2 h::L) 1 ⟨_,k2,[],hT,cD hm hle3,hk,⟨⟨52,ops[i],0,s⟩,rfl,rfl,⟨rfl,rfl,rfl,hs⟩⟩,rfl⟩
  | false =>
   exact fX
 ·rw[cj mv]at hI;rw[Ps.oneOf_none (Ps.find_no hI),←Ps.bind_ret Y]at hT;refine uA ?_;refine qs rfl (dA (L0:=L) (hY) hm hT hn hE hk mz hm uS rfl rfl rfl rfl rfl rfl goes227 (fun x m2 a k2 hT hm hE hlex hk hrx=>?_));exact eZ
end
end Go.Sep
namespace Go.Sep
open Go.Proofs
attribute [local irreducible] TC TO OT TCallX TCall DO DOt thenQ blockQ retQ At
theorem kidPred {fn:FuncId} {p:Tree→Bool} {a:Tree} (hg:Goes Tryz.prog fn) (hB:a.wide≤140737488355328) (h:∀(b:Tree) (m:Mem) (L:List Item) (h:HTree),TreeRep m h b→b.wide≤140737488355328→TCall Tryz.prog fn ⟨[treeV h]⟩ m L (Ret (.bool (p b)) m L)):IsPred fn p a.kids :=
 ⟨hg,fun m L x k hk hr=>h k m L x hr (bG ((dh hk)) hB)⟩
theorem pr0 {l:List Tree}:∀ q∈([]:List (FuncId×(Tree→Bool))),IsPred q.1 q.2 l:=fun _ h=>by cases h
theorem pr1 {l:List Tree} {f:FuncId} {p:Tree→Bool} (h:IsPred f p l):∀ q∈[(f,p)],IsPred q.1 q.2 l:=fun q hq=>by
 rw[List.mem_singleton.1 hq];exact h
theorem pr2 {l:List Tree} {f f2:FuncId} {p p2:Tree→Bool} (h:IsPred f p l) (h2:IsPred f2 p2 l):∀ q∈[(f,p),(f2,p2)],IsPred q.1 q.2 l:=fun q hq=>by
 rcases List.mem_cons.1 hq with e | hq
 ·rw[e];exact h
 ·exact pr1 h2 q hq
theorem pr3 {l:List Tree} {f f2 f3:FuncId} {p p2 p3:Tree→Bool} (h:IsPred f p l) (h2:IsPred f2 p2 l) (h3:IsPred f3 p3 l):∀ q∈[(f,p),(f2,p2),(f3,p3)],IsPred q.1 q.2 l:=fun q hq=>by
 rcases List.mem_cons.1 hq with e | hq
 ·rw[e];exact h
 ·exact pr2 h2 h3 q hq
theorem po0 {l:List Tree}:∀ q:FuncId×(Tree→Bool),none=some q→IsPred q.1 q.2 l:=fun _ h=>by cases h
theorem po1 {l:List Tree} {f:FuncId} {p:Tree→Bool} (h:IsPred f p l):∀ q:FuncId×(Tree→Bool),some (f,p)=some q→IsPred q.1 q.2 l:=fun q e=>by
 cases e;exact h
theorem expr_teller (g:Sg) (a:Tree) (m:Mem) (L:List Item) (h:HTree) (hr:TreeRep m h a) (hB:a.wide≤140737488355328) (hE:IsPred 161 g.expr a.kids) (hK:IsPred 74 g.block a.kids) :
  TCall Tryz.prog 161 ⟨[treeV h]⟩ m L (Ret (.bool (exprS g a)) m L):=by
 have hT:IsPred 71 Tree.isType a.kids:=kidPred goes71 hB fun b m L h hr hB=>type_law b m L h hr hB;have hSg:IsPred 73 Tree.isSig a.kids:=kidPred goes73 hB fun b m L h hr hB=>sig_law b m L h hr hB;have hr':=hr;obtain⟨h1,h2,h3,h4⟩:=hr;have hl:=h4.len;refine lD ?_;unfold exprS TCall;refine cK Tryz.func161 rfl 170 rfl ?_;by_cases hk40:a.kind=40
 ·rw[if_pos hk40];obtain⟨k,n,u,s⟩:=h;obtain rfl:k=40:=h1.trans hk40;simp only at h2 h3 h4 hl;subst h2;subst h3;refine uA ?_;refine ay (fun b=>?_);refine au goes33 (bare_law _ _ ⟨40,a.name,a.num,s⟩ a hr' (decide (0≤a.num)) false true) ?_;refine aE (fun h7=>?_) (fun h7=>?_)
  ·refine uL ?_;have hm1:=cC m;refine au goes70 (di m _ ⟨40,a.name,a.num,s⟩ a hr' ⟨none,0,0⟩ [] none (cS _ _) pr0 po0) ?_;exact eH
  ·exact d7
 rw[if_neg hk40];by_cases hk41:a.kind=41
 ·rw[if_pos hk41];obtain⟨k,n,u,s⟩:=h;obtain rfl:k=41:=h1.trans hk41;simp only at h2 h3 h4 hl;subst h2;subst h3;refine uA ?_;refine ay (fun b=>?_);refine au goes33 (bare_law _ _ ⟨41,a.name,a.num,s⟩ a hr' (decide ((a.name.length:Int)≤1024)) true false) ?_;refine aE (fun h7=>?_) (fun h7=>?_)
  ·refine uL ?_;have hm1:=cC m;refine au goes70 (di m _ ⟨41,a.name,a.num,s⟩ a hr' ⟨none,0,0⟩ [] none (cS _ _) pr0 po0) ?_;exact eH
  ·exact d7
 rw[if_neg hk41];by_cases hk42:a.kind=42
 ·rw[if_pos hk42];obtain⟨k,n,u,s⟩:=h;obtain rfl:k=42:=h1.trans hk42;simp only at h2 h3 h4 hl;subst h2;subst h3;refine uA ?_;refine ay (fun b=>?_);refine lH ?_;refine uA ?_;refine au goes33 (bare_law _ _ ⟨42,a.name,a.num,s⟩ a hr' (decide (a.num / 2=0)) false true) ?_;refine aE (fun h7=>?_) (fun h7=>?_)
  ·refine uL ?_;have hm1:=cC m;refine au goes70 (di m _ ⟨42,a.name,a.num,s⟩ a hr' ⟨none,0,0⟩ [] none (cS _ _) pr0 po0) ?_;exact eH
  ·exact d7
 rw[if_neg hk42];by_cases hk43:a.kind=43
 ·rw[if_pos hk43];obtain⟨k,n,u,s⟩:=h;obtain rfl:k=43:=h1.trans hk43;simp only at h2 h3 h4 hl;subst h2;subst h3;refine uA ?_;refine ay (fun b=>?_);refine au goes33 (bare_law _ _ ⟨43,a.name,a.num,s⟩ a hr' true false false) ?_;refine aE (fun h7=>?_) (fun h7=>?_)
  ·refine uL ?_;have hm1:=cC m;refine au goes70 (di m _ ⟨43,a.name,a.num,s⟩ a hr' ⟨none,0,0⟩ [] none (cS _ _) pr0 po0) ?_;exact eH
  ·exact d7
 rw[if_neg hk43];by_cases hk44:a.kind=44
 ·rw[if_pos hk44];obtain⟨k,n,u,s⟩:=h;obtain rfl:k=44:=h1.trans hk44;simp only at h2 h3 h4 hl;subst h2;subst h3;refine uA ?_;refine ay (fun b=>?_);refine au goes68 (of_law _ _ ⟨44,a.name,a.num,s⟩ a hr' hB 44) ?_;refine aE (fun h7=>?_) (fun h7=>?_)
  ·refine uL ?_;have hm1:=cC m;refine au goes70 (di m _ ⟨44,a.name,a.num,s⟩ a hr' ⟨none,0,0⟩ [] none (cS _ _) pr0 po0) ?_;exact eH
  ·exact d7
 rw[if_neg hk44];by_cases hk45:a.kind=45
 ·rw[if_pos hk45];obtain⟨k,n,u,s⟩:=h;obtain rfl:k=45:=h1.trans hk45;simp only at h2 h3 h4 hl;subst h2;subst h3;refine uA ?_;refine ay (fun b=>?_);refine au goes68 (of_law _ _ ⟨45,a.name,a.num,s⟩ a hr' hB 45) ?_;refine aE (fun h7=>?_) (fun h7=>?_)
  ·refine uL ?_;have hm1:=cC m;refine lP ?_;exact eH
  ·exact d7
 rw[if_neg hk45];by_cases hk46:a.kind=46
 ·rw[if_pos hk46];obtain⟨k,n,u,s⟩:=h;obtain rfl:k=46:=h1.trans hk46;simp only at h2 h3 h4 hl;subst h2;subst h3;refine uA ?_;refine ay (fun b=>?_);refine au goes33 (bare_law _ _ ⟨46,a.name,a.num,s⟩ a hr' true false false) ?_;refine aE (fun h7=>?_) (fun h7=>?_)
  ·refine uL ?_;refine av (hs:=[71]) (l:=[71]) tab rFn ⟨rfl,trivial⟩ uH mw (fun s1 m1 hm1 hs1 _ _=>?_);refine uA ?_;refine au goes70 (di m1 _ ⟨46,a.name,a.num,s⟩ a (hr'.mono hm1) s1 [(71,Tree.isType)] (some (161,g.expr)) hs1 (pr1 hT) (po1 hE)) ?_;exact eH
  ·exact d7
 rw[if_neg hk46];by_cases hk47:a.kind=47
 ·rw[if_pos hk47];obtain⟨k,n,u,s⟩:=h;obtain rfl:k=47:=h1.trans hk47;simp only at h2 h3 h4 hl;subst h2;subst h3;refine uA ?_;refine ay (fun b=>?_);refine au goes33 (bare_law _ _ ⟨47,a.name,a.num,s⟩ a hr' true false false) ?_;refine aE (fun h7=>?_) (fun h7=>?_)
  ·refine uL ?_;refine av (hs:=[73,74]) (l:=[73,74]) tab rFn ⟨rfl,rfl,trivial⟩ uH mw (fun s1 m1 hm1 hs1 _ _=>?_);refine uA ?_;refine au goes70 (di m1 _ ⟨47,a.name,a.num,s⟩ a (hr'.mono hm1) s1 [(73,Tree.isSig),(74,g.block)] none hs1 (pr2 hSg hK) po0) ?_;exact eH
  ·exact d7
 rw[if_neg hk47];by_cases hk48:a.kind=48
 ·rw[if_pos hk48];obtain⟨k,n,u,s⟩:=h;obtain rfl:k=48:=h1.trans hk48;simp only at h2 h3 h4 hl;subst h2;subst h3;refine uA ?_;refine ay (fun b=>?_);refine au goes68 (of_law _ _ ⟨48,a.name,a.num,s⟩ a hr' hB 48) ?_;refine aE (fun h7=>?_) (fun h7=>?_)
  ·refine uL ?_;refine av (hs:=[161]) (l:=[161]) tab rFn ⟨rfl,trivial⟩ uH mw (fun s1 m1 hm1 hs1 _ _=>?_);refine uA ?_;refine au goes70 (di m1 _ ⟨48,a.name,a.num,s⟩ a (hr'.mono hm1) s1 [(161,g.expr)] none hs1 (pr1 hE) po0) ?_;exact eH
  ·exact d7
 rw[if_neg hk48];by_cases hk49:a.kind=49
 ·rw[if_pos hk49];obtain⟨k,n,u,s⟩:=h;obtain rfl:k=49:=h1.trans hk49;simp only at h2 h3 h4 hl;subst h2;subst h3;refine uA ?_;refine ay (fun b=>?_);refine au goes33 (bare_law _ _ ⟨49,a.name,a.num,s⟩ a hr' true false false) ?_;refine aE (fun h7=>?_) (fun h7=>?_)
  ·refine uL ?_;refine av (hs:=[161,161]) (l:=[161,161]) tab rFn ⟨rfl,rfl,trivial⟩ uH mw (fun s1 m1 hm1 hs1 _ _=>?_);refine uA ?_;refine au goes70 (di m1 _ ⟨49,a.name,a.num,s⟩ a (hr'.mono hm1) s1 [(161,g.expr),(161,g.expr)] none hs1 (pr2 hE hE) po0) ?_;exact eH
  ·exact d7
 rw[if_neg hk49];by_cases hk50:a.kind=50
 ·rw[if_pos hk50];obtain⟨k,n,u,s⟩:=h;obtain rfl:k=50:=h1.trans hk50;simp only at h2 h3 h4 hl;subst h2;subst h3;refine uA ?_;refine ay (fun b=>?_);refine qs rfl (OT.shK (r:=a.num / 4) rfl (.inr rfl) rfl rfl rfl rfl mw (by show Int.fdiv a.num 4=a.num / 4;exact Int.fdiv_eq_ediv_of_nonneg _ mw) ?_);refine uA ?_;refine az (fun e4=>?_) (fun e4=>?_)
  ·have hlv:a.num=0∨a.num=1∨a.num=2∨a.num=3:=mv;have hand:∀ w,(Op.intBits .and .i64 a.num 1).run Tryz.prog w = .ok (.int .i64 (a.num % 2)) w:=by
    rcases hlv with e | e | e | e<;>(intro w;rw[e];rfl)
   have hlv2:lvl a=decide ((s.len:Int)=1+a.num % 2+a.num / 2):=by
    unfold lvl;rw[bQ (show 0≤a.num by omega),bQ (show a.num≤3 by omega),hl];rfl
   rw[hlv2];refine uL ?_;refine qs rfl (OT.andK (r:=a.num % 2) rfl rfl rfl rfl rfl hand ?_);refine qs rfl (OT.arith (r':=1+a.num % 2) rfl rfl rfl rfl rfl rfl mv mv ?_);refine uL ?_;refine lH ?_;refine aQ (r':=1+a.num % 2+a.num / 2) uH mv mv ?_;refine au goes33 (bare_law _ _ ⟨50,a.name,a.num,s⟩ a hr' (decide ((s.len:Int)=1+a.num % 2+a.num / 2)) false true) ?_;refine aE (fun h7=>?_) (fun h7=>?_)
   ·refine uL ?_;refine lP ?_;exact ek
   ·exact d7
  ·have hlv2:lvl a=false:=by
    unfold lvl;by_cases h5:0≤a.num
    ·rw[bR (show ¬a.num≤3 by omega),Bool.false_and,Bool.and_false]
    ·rw[bR h5];rfl
   rw[hlv2];refine uL ?_;refine au goes33 (bare_law _ _ ⟨50,a.name,a.num,s⟩ a hr' false false true) ?_;exact cI rfl uS ⟨cC _,rfl,rfl⟩
 rw[if_neg hk50];by_cases hk51:a.kind=51
 ·rw[if_pos hk51];obtain⟨k,n,u,s⟩:=h;obtain rfl:k=51:=h1.trans hk51;simp only at h2 h3 h4 hl;subst h2;subst h3;refine uA ?_;refine ay (fun b=>?_);refine au goes33 (bare_law _ _ ⟨51,a.name,a.num,s⟩ a hr' true false false) ?_;refine aE (fun h7=>?_) (fun h7=>?_)
  ·refine uL ?_;refine av (hs:=[161]) (l:=[161]) tab rFn ⟨rfl,trivial⟩ uH mw (fun s1 m1 hm1 hs1 _ _=>?_);refine uA ?_;refine au goes70 (di m1 _ ⟨51,a.name,a.num,s⟩ a (hr'.mono hm1) s1 [(161,g.expr)] (some (161,g.expr)) hs1 (pr1 hE) (po1 hE)) ?_;exact eH
  ·exact d7
 rw[if_neg hk51];by_cases hk52:a.kind=52
 ·rw[if_pos hk52];obtain⟨k,n,u,s⟩:=h;obtain rfl:k=52:=h1.trans hk52;simp only at h2 h3 h4 hl;subst h2;subst h3;refine uA ?_;refine ay (fun b=>?_);refine TC.draw [] df 12 rfl [.cells b 0 [.int .i64 52,strV a.name,.int .i64 a.num,s.v]] L uP ?_;refine ae (k:=0) 0 0 ?_;refine cV tab uC uK [2] uK rfl ?_;refine ae 3 0 ?_;refine af 1 ?_;refine de tab rStr (hs:=[[45],[33],[38],[42]]) (l:=[[45],[33],[38],[42]]) ⟨rfl,rfl,rfl,rfl,trivial⟩ rfl rfl rfl rfl rfl mw (fun s1 m1 hm1 hs1 _ _=>?_);refine⟨hm1,_,a9 _,?_⟩;refine af 4 (cR rfl rfl rfl rfl rfl rfl goes104 ((contains_str _ _ s1 ops4 a.name hs1).x ?_));rintro _ _ _ ⟨rfl,rfl,rfl⟩;refine⟨cC _,_,a9 _,?_⟩;refine af 5 (cR rfl rfl rfl rfl rfl rfl goes33 ((bare_law _ _ ⟨52,a.name,a.num,s⟩ a (hr'.mono hm1) (decide (a.name∈ops4)) true false).x ?_));rintro _ _ _ ⟨rfl,rfl,rfl⟩;refine⟨cC _,_,a9 _,?_⟩;refine cV tab uC uK [6] uK rfl ?_;refine DO.split (d:=151) rfl (fun h7=>?_) (fun h7=>?_);refine ae (k:=0) 7 0 ?_;refine af 8 ?_;refine de tab rFn (hs:=[161]) (l:=[161]) ⟨rfl,trivial⟩ rfl rfl rfl rfl rfl mw (fun s2 m2 hm2 hs2 _ _=>?_);refine⟨hm2,_,a9 _,?_⟩;refine af 9 (cR rfl rfl rfl rfl rfl rfl goes70 ((di m2 _ ⟨52,a.name,a.num,s⟩ a (hr'.mono (cD hm1 hm2)) s2 [(161,g.expr)] none hs2 (pr1 hE) po0).x ?_));rintro _ _ _ ⟨rfl,rfl,rfl⟩;refine⟨cC _,_,a9 _,?_⟩;refine ll ?_;refine aV ?_
  rotate_left 1
  refine cV tab uC uK [7,8,9,10,11] uK rfl ?_;refine aV ?_
  rotate_left 1
  ·refine uA ?_;refine ag ⟨cD hm1 hm2,rfl,?_⟩;rw[h7];rfl
  ·refine uA ?_;exact eH
 rw[if_neg hk52];by_cases hk53:a.kind=53
 ·rw[if_pos hk53];obtain⟨k,n,u,s⟩:=h;obtain rfl:k=53:=h1.trans hk53;simp only at h2 h3 h4 hl;subst h2;subst h3;refine uA ?_;refine ay (fun b=>?_);refine TC.draw [] df 13 rfl [.cells b 0 [.int .i64 53,strV a.name,.int .i64 a.num,s.v]] L uP ?_;refine ae (k:=0) 0 0 ?_;refine cV tab uC uK [3] uK rfl ?_;refine ae 4 0 ?_;refine af 1 (cR rfl rfl rfl rfl rfl rfl goes189 ((levels_law _ _).x ?_));rintro _ m0 _ ⟨hm0,rfl,s0,rfl,hs0⟩;refine⟨hm0,_,a9 _,?_⟩;refine DO.run 2 rfl rfl uK rfl (cR rfl rfl rfl rfl rfl rfl goes188 ((concatS_law m0 _ s0 Ps.levels hs0 mw).x ?_));rintro _ m1 _ ⟨hm1,rfl,s1,rfl,hs1⟩;refine⟨hm1,_,a9 _,?_⟩;refine af 5 (cR rfl rfl rfl rfl rfl rfl goes104 ((contains_str _ _ s1 Ps.levels.flatten a.name hs1).x ?_));rintro _ _ _ ⟨rfl,rfl,rfl⟩;refine⟨cC _,_,a9 _,?_⟩;refine af 6 (cR rfl rfl rfl rfl rfl rfl goes33 ((bare_law _ _ ⟨53,a.name,a.num,s⟩ a (hr'.mono (cD hm0 hm1)) (decide (a.name∈Ps.levels.flatten)) true false).x ?_));rintro _ _ _ ⟨rfl,rfl,rfl⟩;refine⟨cC _,_,a9 _,?_⟩;refine cV tab uC uK [7] uK rfl ?_;refine DO.split (d:=165) rfl (fun h7=>?_) (fun h7=>?_);refine ae (k:=0) 8 0 ?_;refine af 9 ?_;refine de tab rFn (hs:=[161,161]) (l:=[161,161]) ⟨rfl,rfl,trivial⟩ rfl rfl rfl rfl rfl mw (fun s2 m2 hm2 hs2 _ _=>?_);refine⟨hm2,_,a9 _,?_⟩;refine af 10 (cR rfl rfl rfl rfl rfl rfl goes70 ((di m2 _ ⟨53,a.name,a.num,s⟩ a (hr'.mono (cD (cD hm0 hm1) hm2)) s2 [(161,g.expr),(161,g.expr)] none hs2 (pr2 hE hE) po0).x ?_));rintro _ _ _ ⟨rfl,rfl,rfl⟩;refine⟨cC _,_,a9 _,?_⟩;refine kT ?_;refine aV ?_
  rotate_left 1
  refine cV tab uC uK [8,9,10,11,12] uK rfl ?_;refine aV ?_
  rotate_left 1
  ·refine uA ?_;refine ag ⟨cD (cD hm0 hm1) hm2,rfl,?_⟩;rw[h7];rfl
  ·refine uA ?_;refine ag ⟨cD hm0 hm1,rfl,?_⟩;rw[h7];rfl
 rw[if_neg hk53];refine uA ?_;refine ay (fun b=>?_);refine am (fun h5=>?_) (fun h5=>?_)
 ·omega
 refine uA ?_;refine am (fun h5=>?_) (fun h5=>?_)
 ·omega
 refine uA ?_;refine am (fun h5=>?_) (fun h5=>?_)
 ·omega
 refine uA ?_;refine am (fun h5=>?_) (fun h5=>?_)
 ·omega
 refine uA ?_;refine am (fun h5=>?_) (fun h5=>?_)
 ·omega
 refine uA ?_;refine am (fun h5=>?_) (fun h5=>?_)
 ·omega
 refine uA ?_;refine am (fun h5=>?_) (fun h5=>?_)
 ·omega
 refine uA ?_;refine am (fun h5=>?_) (fun h5=>?_)
 ·omega
 refine uA ?_;refine am (fun h5=>?_) (fun h5=>?_)
 ·omega
 refine uA ?_;refine am (fun h5=>?_) (fun h5=>?_)
 ·omega
 refine uA ?_;exact eF
end Go.Sep
namespace Go.Sep
open Go.Proofs
attribute [local irreducible] TC TO OT TCallX TCall DO DOt thenQ blockQ retQ At
theorem block_teller (g:Sg) (a:Tree) (m:Mem) (L:List Item) (h:HTree) (hr:TreeRep m h a) (hS:IsPred 125 g.stmt a.kids) :
  TCall Tryz.prog 74 ⟨[treeV h]⟩ m L (Ret (.bool (blockS g a)) m L):=by
 have hr':=hr;obtain⟨h1,h2,h3,h4⟩:=hr;unfold TCall;refine ak Tryz.func74 13 ?_;refine ay (fun b=>?_);refine oR goes33 (bare_law _ _ h a hr' (decide (h.kind=20)) false false) ?_;unfold blockS;rw[←h1];refine uA ?_;refine aE (fun h7=>?_) (fun h7=>?_)
 ·refine uL ?_;refine au goes34 (pall_law _ _ h.kids a.kids h4 125 g.stmt hS) ?_;exact fB
 ·refine uA ?_;exact fB
theorem nm_pred {g:Sg} {l:List Tree} (hE:IsPred 161 g.expr l):IsPred 163 (nmS g) l:=by
 refine⟨goes163,fun m L h a ha hr=>?_⟩;have hr':=hr;obtain⟨h1,h2,h3,h4⟩:=hr;unfold TCall;refine ak Tryz.func163 10 ?_;refine ay (fun b=>?_);unfold nmS;rw[←h1];refine az (fun e1=>?_) (fun e1=>?_)
 ·refine uL ?_;refine au hE.1 (hE.2 _ _ h a ha hr') ?_;exact fZ
 ·exact fI
theorem call_pred {g:Sg} {l:List Tree} (hE:IsPred 161 g.expr l):IsPred 164 (callS g) l:=by
 refine⟨goes164,fun m L h a ha hr=>?_⟩;have hr':=hr;obtain⟨h1,h2,h3,h4⟩:=hr;unfold TCall;refine ak Tryz.func164 10 ?_;refine ay (fun b=>?_);unfold callS;rw[←h1];refine az (fun e1=>?_) (fun e1=>?_)
 ·refine uL ?_;refine au hE.1 (hE.2 _ _ h a ha hr') ?_;exact fZ
 ·exact fI
theorem pl_pred {g:Sg} {l:List Tree} (hE:IsPred 161 g.expr l):IsPred 162 (plS g) l:=by
 refine⟨goes162,fun m L h a ha hr=>?_⟩;have hr':=hr;obtain⟨h1,h2,h3,h4⟩:=hr;unfold TCall;refine ak Tryz.func162 9 ?_;refine ay (fun b=>?_);refine oR isPl_tells.1 (isPl_tells.2 _ _ h a hr') ?_;unfold plS;refine uA ?_;refine aE (fun h7=>?_) (fun h7=>?_)
 ·refine uL ?_;refine au hE.1 (hE.2 _ _ h a ha hr') ?_;exact fB
 ·refine uA ?_;exact fB
theorem other_pred {g:Sg} {l:List Tree} (hK:IsPred 74 g.block l) (hS:IsPred 125 g.stmt l):IsPred 165 (otherS g) l:=by
 refine⟨goes165,fun m L h a ha hr=>?_⟩;have hr':=hr;obtain⟨h1,h2,h3,h4⟩:=hr;unfold TCall;refine ak Tryz.func165 14 ?_;refine ay (fun b=>?_);refine oR hK.1 (hK.2 _ _ h a ha hr') ?_;unfold otherS;rw[←h1];refine uA ?_;refine aE (fun h7=>?_) (fun h7=>?_)
 ·refine uA ?_;exact fB
 ·refine uL ?_;refine az (fun e1=>?_) (fun e1=>?_)
  ·refine uL ?_;refine au hS.1 (hS.2 _ _ h a ha hr') ?_;refine jy ?_;rw[h7,bQ e1];rfl
  ·refine uA ?_;refine jy ?_;rw[h7,bR e1];rfl
theorem stmtS_no {g:Sg} {a:Tree} (h:headS a=false):stmtS g a=false:=by unfold stmtS;rw[if_pos h]
theorem stmt_teller (g:Sg) (a:Tree) (m:Mem) (L:List Item) (h:HTree) (hr:TreeRep m h a) (hB:a.wide≤140737488355328) (hE:IsPred 161 g.expr a.kids) (hK:IsPred 74 g.block a.kids) (hS:IsPred 125 g.stmt a.kids) :
  TCall Tryz.prog 125 ⟨[treeV h]⟩ m L (Ret (.bool (stmtS g a)) m L):=by
 have hT:IsPred 71 Tree.isType a.kids:=kidPred goes71 hB fun b m L h hr hB=>type_law b m L h hr hB;have hC:=call_pred hE;have hO:=other_pred hK hS;have hr':=hr;obtain⟨h1,h2,h3,h4⟩:=hr;have hl:=h4.len;refine lD ?_;unfold TCall;refine cK Tryz.func125 rfl 121 rfl ?_;by_cases hk20:a.kind=20
 ·obtain⟨k,n,u,s⟩:=h;obtain rfl:k=20:=h1.trans hk20;simp only at h2 h3 h4 hl;subst h2;subst h3;refine uA ?_;refine ay (fun b=>?_);refine cL rfl rfl (fun e1=>?_) (fun e1=>?_)
  ·refine uA ?_;refine jL ?_;rw[stmtS_no (show headS a=false by unfold headS;rw[hk20,bR e1];rfl)]
  refine uL ?_;refine aY (fun e2=>?_) (fun e2=>?_)
  ·simp only at e2;refine kN ?_;rw[stmtS_no (show headS a=false by unfold headS;rw[hk20,bR e2];simp)]
  simp only at e2;refine uL ?_;have hh:headS a=true:=by unfold headS;rw[hk20,bQ e1,bQ e2];simp
  have hspec:stmtS g a=blockS g a:=by unfold stmtS;rw[if_neg mX];simp[hk20]
  refine lT ?_;refine au goes74 (block_teller g a _ _ ⟨20,a.name,a.num,s⟩ hr' hS) ?_;refine jL ?_;rfl
 by_cases hk21:a.kind=21
 ·obtain⟨k,n,u,s⟩:=h;obtain rfl:k=21:=h1.trans hk21;simp only at h2 h3 h4 hl;subst h2;subst h3;refine uA ?_;refine ay (fun b=>?_);refine aY (fun e2=>?_) (fun e2=>?_)
  ·simp only at e2;refine kN ?_;rw[stmtS_no (show headS a=false by unfold headS;rw[hk21,bR e2];simp)]
  simp only at e2;refine uL ?_;have hh:headS a=true:=by unfold headS;rw[hk21,bQ e2];simp
  have hspec:stmtS g a=(isName a.name&&(kidsR [Tree.isType] none a.kids||kidsR [Tree.isType,g.expr] none a.kids)):=by unfold stmtS;rw[if_neg mX];simp[hk21]
  refine lT ?_;refine au goes123 (named_law _ _ ⟨21,a.name,a.num,s⟩ a hr' hB) ?_;refine aE (fun h7=>?_) (fun h7=>?_)
  ·refine uL ?_;refine av (hs:=[71]) (l:=[71]) tab rFn ⟨rfl,trivial⟩ uH mw (fun s1 m1 hm1 hs1 _ _=>?_);refine uA ?_;refine au goes70 (di m1 _ ⟨21,a.name,a.num,s⟩ a (hr'.mono hm1) s1 [(71,Tree.isType)] none hs1 (pr1 hT) po0) ?_;refine aE (fun h8=>?_) (fun h8=>?_)
   ·skip;refine lF ?_;rw[h7,show kidsR [Tree.isType] none a.kids=true from h8];rfl
   ·refine uL ?_;refine av (hs:=[71,161]) (l:=[71,161]) tab rFn ⟨rfl,rfl,trivial⟩ uH mw (fun s2 m2 hm2 hs2 _ _=>?_);refine uA ?_;refine au goes70 (di m2 _ ⟨21,a.name,a.num,s⟩ a (hr'.mono (cD hm1 hm2)) s2 [(71,Tree.isType),(161,g.expr)] none hs2 (pr2 hT hE) po0) ?_;refine ag ⟨(cD hm1 hm2),rfl,?_⟩;rw[h7,show kidsR [Tree.isType] none a.kids=false from h8];rfl
  ·skip;exact d7
 by_cases hk22:a.kind=22
 ·obtain⟨k,n,u,s⟩:=h;obtain rfl:k=22:=h1.trans hk22;simp only at h2 h3 h4 hl;subst h2;subst h3;refine uA ?_;refine ay (fun b=>?_);refine cL rfl rfl (fun e1=>?_) (fun e1=>?_)
  ·refine uA ?_;refine jL ?_;rw[stmtS_no (show headS a=false by unfold headS;rw[hk22,bR e1];rfl)]
  refine uL ?_;have hh:headS a=true:=by unfold headS;rw[hk22,bQ e1];simp
  have hspec:stmtS g a=asgS g (nmS g) a:=by unfold stmtS;rw[if_neg mX];simp[hk22]
  rw[hspec];unfold asgS;have hp1:IsPred 161 g.expr (a.kids.drop a.num.toNat):=⟨hE.1,fun m L x b hb=>hE.2 m L x b (List.mem_of_mem_drop hb)⟩
  have hp2':=nm_pred hE;have hp2:IsPred 163 (nmS g) (a.kids.take a.num.toNat):=⟨hp2'.1,fun m L x b hb=>hp2'.2 m L x b (cv hb)⟩
  refine uL ?_;refine az (fun e3=>?_) (fun e3=>?_)
  ·simp only at e3;refine uL ?_;refine az (fun e4=>?_) (fun e4=>?_)
   ·simp only at e4;have hnum:a.num=((a.num.toNat:Nat):Int):=mv;rw[bQ e3,bQ (show a.num<(a.kids.length:Int) by omega),bP,bP];refine uL ?_;refine qs rfl (OT.cut tab rTree 0 a.num.toNat h4 rfl rfl rfl rfl rfl rfl rfl (.inl ⟨rfl,rfl⟩) (.inr (by rw[←hnum])) (cn _) mv (fun s1 hs1=>?_));rw[cB]at hs1;refine uA ?_;refine au goes34 (pall_law _ _ s1 _ hs1 163 (nmS g) hp2) ?_;exact eR
   ·exact gg
  ·exact iS
 by_cases hk23:a.kind=23
 ·obtain⟨k,n,u,s⟩:=h;obtain rfl:k=23:=h1.trans hk23;simp only at h2 h3 h4 hl;subst h2;subst h3;refine uA ?_;refine ay (fun b=>?_);refine cL rfl rfl (fun e1=>?_) (fun e1=>?_)
  ·refine uA ?_;refine jL ?_;rw[stmtS_no (show headS a=false by unfold headS;rw[hk23,bR e1];rfl)]
  refine uL ?_;have hh:headS a=true:=by unfold headS;rw[hk23,bQ e1];simp
  have hspec:stmtS g a=asgS g (plS g) a:=by unfold stmtS;rw[if_neg mX];simp[hk23]
  rw[hspec];unfold asgS;have hp1:IsPred 161 g.expr (a.kids.drop a.num.toNat):=⟨hE.1,fun m L x b hb=>hE.2 m L x b (List.mem_of_mem_drop hb)⟩
  have hp2':=pl_pred hE;have hp2:IsPred 162 (plS g) (a.kids.take a.num.toNat):=⟨hp2'.1,fun m L x b hb=>hp2'.2 m L x b (cv hb)⟩
  refine uL ?_;refine az (fun e3=>?_) (fun e3=>?_)
  ·simp only at e3;refine uL ?_;refine az (fun e4=>?_) (fun e4=>?_)
   ·simp only at e4;have hnum:a.num=((a.num.toNat:Nat):Int):=mv;rw[bQ e3,bQ (show a.num<(a.kids.length:Int) by omega),bP,bP];refine uL ?_;refine qs rfl (OT.cut tab rTree 0 a.num.toNat h4 rfl rfl rfl rfl rfl rfl rfl (.inl ⟨rfl,rfl⟩) (.inr (by rw[←hnum])) (cn _) mv (fun s1 hs1=>?_));rw[cB]at hs1;refine uA ?_;refine au goes34 (pall_law _ _ s1 _ hs1 162 (plS g) hp2) ?_;exact eR
   ·exact gg
  ·exact iS
 by_cases hk24:a.kind=24
 ·obtain⟨k,n,u,s⟩:=h;obtain rfl:k=24:=h1.trans hk24;simp only at h2 h3 h4 hl;subst h2;subst h3;refine uA ?_;refine ay (fun b=>?_);refine cL rfl rfl (fun e1=>?_) (fun e1=>?_)
  ·refine uA ?_;refine jL ?_;rw[stmtS_no (show headS a=false by unfold headS;rw[hk24,bR e1];rfl)]
  refine uL ?_;refine aY (fun e2=>?_) (fun e2=>?_)
  ·simp only at e2;refine kN ?_;rw[stmtS_no (show headS a=false by unfold headS;rw[hk24,bR e2];simp)]
  simp only at e2;refine uL ?_;have hh:headS a=true:=by unfold headS;rw[hk24,bQ e1,bQ e2];simp
  have hspec:stmtS g a=kidsR [callS g] none a.kids:=by unfold stmtS;rw[if_neg mX];simp[hk24]
  refine lT ?_;refine av (hs:=[164]) (l:=[164]) tab rFn ⟨rfl,trivial⟩ uH mw (fun s1 m1 hm1 hs1 _ _=>?_);refine uA ?_;refine au goes70 (di m1 _ ⟨24,a.name,a.num,s⟩ a (hr'.mono hm1) s1 [(164,callS g)] none hs1 (pr1 hC) po0) ?_;refine jZ ?_;rfl
 by_cases hk25:a.kind=25
 ·obtain⟨k,n,u,s⟩:=h;obtain rfl:k=25:=h1.trans hk25;simp only at h2 h3 h4 hl;subst h2;subst h3;refine uA ?_;refine ay (fun b=>?_);refine cL rfl rfl (fun e1=>?_) (fun e1=>?_)
  ·refine uA ?_;refine jL ?_;rw[stmtS_no (show headS a=false by unfold headS;rw[hk25,bR e1];rfl)]
  refine uL ?_;refine aY (fun e2=>?_) (fun e2=>?_)
  ·simp only at e2;refine kN ?_;rw[stmtS_no (show headS a=false by unfold headS;rw[hk25,bR e2];simp)]
  simp only at e2;refine uL ?_;have hh:headS a=true:=by unfold headS;rw[hk25,bQ e1,bQ e2];simp
  have hspec:stmtS g a=(kidsR [g.expr,g.block] none a.kids||kidsR [g.expr,g.block,otherS g] none a.kids):=by unfold stmtS;rw[if_neg mX];simp[hk25]
  refine lT ?_;refine av (hs:=[161,74]) (l:=[161,74]) tab rFn ⟨rfl,rfl,trivial⟩ uH mw (fun s1 m1 hm1 hs1 _ _=>?_);refine uA ?_;refine au goes70 (di m1 _ ⟨25,a.name,a.num,s⟩ a (hr'.mono hm1) s1 [(161,g.expr),(74,g.block)] none hs1 (pr2 hE hK) po0) ?_;refine aE (fun h8=>?_) (fun h8=>?_)
  ·skip;refine lF ?_;rw[show kidsR [g.expr,g.block] none a.kids=true from h8];rfl
  ·refine uL ?_;refine av (hs:=[161,74,165]) (l:=[161,74,165]) tab rFn ⟨rfl,rfl,rfl,trivial⟩ uH mw (fun s2 m2 hm2 hs2 _ _=>?_);refine uA ?_;refine au goes70 (di m2 _ ⟨25,a.name,a.num,s⟩ a (hr'.mono (cD hm1 hm2)) s2 [(161,g.expr),(74,g.block),(165,otherS g)] none hs2 (pr3 hE hK hO) po0) ?_;refine ag ⟨(cD hm1 hm2),rfl,?_⟩;rw[show kidsR [g.expr,g.block] none a.kids=false from h8];rfl
 by_cases hk26:a.kind=26
 ·obtain⟨k,n,u,s⟩:=h;obtain rfl:k=26:=h1.trans hk26;simp only at h2 h3 h4 hl;subst h2;subst h3;refine uA ?_;refine ay (fun b=>?_);refine cL rfl rfl (fun e1=>?_) (fun e1=>?_)
  ·refine uA ?_;refine jL ?_;rw[stmtS_no (show headS a=false by unfold headS;rw[hk26,bR e1];rfl)]
  refine uL ?_;refine aY (fun e2=>?_) (fun e2=>?_)
  ·simp only at e2;refine kN ?_;rw[stmtS_no (show headS a=false by unfold headS;rw[hk26,bR e2];simp)]
  simp only at e2;refine uL ?_;have hh:headS a=true:=by unfold headS;rw[hk26,bQ e1,bQ e2];simp
  have hspec:stmtS g a=(kidsR [g.block] none a.kids||kidsR [g.expr,g.block] none a.kids):=by unfold stmtS;rw[if_neg mX];simp[hk26]
  refine lT ?_;refine av (hs:=[74]) (l:=[74]) tab rFn ⟨rfl,trivial⟩ uH mw (fun s1 m1 hm1 hs1 _ _=>?_);refine uA ?_;refine au goes70 (di m1 _ ⟨26,a.name,a.num,s⟩ a (hr'.mono hm1) s1 [(74,g.block)] none hs1 (pr1 hK) po0) ?_;refine aE (fun h8=>?_) (fun h8=>?_)
  ·skip;refine lF ?_;rw[show kidsR [g.block] none a.kids=true from h8];rfl
  ·refine uL ?_;refine av (hs:=[161,74]) (l:=[161,74]) tab rFn ⟨rfl,rfl,trivial⟩ uH mw (fun s2 m2 hm2 hs2 _ _=>?_);refine uA ?_;refine au goes70 (di m2 _ ⟨26,a.name,a.num,s⟩ a (hr'.mono (cD hm1 hm2)) s2 [(161,g.expr),(74,g.block)] none hs2 (pr2 hE hK) po0) ?_;refine ag ⟨(cD hm1 hm2),rfl,?_⟩;rw[show kidsR [g.block] none a.kids=false from h8];rfl
 by_cases hk27:a.kind=27
 ·obtain⟨k,n,u,s⟩:=h;obtain rfl:k=27:=h1.trans hk27;simp only at h2 h3 h4 hl;subst h2;subst h3;refine uA ?_;refine ay (fun b=>?_);refine cL rfl rfl (fun e1=>?_) (fun e1=>?_)
  ·refine uA ?_;refine jL ?_;rw[stmtS_no (show headS a=false by unfold headS;rw[hk27,bR e1];rfl)]
  refine uL ?_;refine aY (fun e2=>?_) (fun e2=>?_)
  ·simp only at e2;refine kN ?_;rw[stmtS_no (show headS a=false by unfold headS;rw[hk27,bR e2];simp)]
  simp only at e2;refine uL ?_;have hh:headS a=true:=by unfold headS;rw[hk27,bQ e1,bQ e2];simp
  have hspec:stmtS g a=a.kids.all g.expr:=by unfold stmtS;rw[if_neg mX];simp[hk27]
  refine lT ?_;refine lP ?_;refine jL ?_;rfl
 by_cases hk28:a.kind=28
 ·obtain⟨k,n,u,s⟩:=h;obtain rfl:k=28:=h1.trans hk28;simp only at h2 h3 h4 hl;subst h2;subst h3;refine uA ?_;refine ay (fun b=>?_);refine cL rfl rfl (fun e1=>?_) (fun e1=>?_)
  ·refine uA ?_;refine jL ?_;rw[stmtS_no (show headS a=false by unfold headS;rw[hk28,bR e1];rfl)]
  refine uL ?_;refine aY (fun e2=>?_) (fun e2=>?_)
  ·simp only at e2;refine kN ?_;rw[stmtS_no (show headS a=false by unfold headS;rw[hk28,bR e2];simp)]
  simp only at e2;refine uL ?_;have hh:headS a=true:=by unfold headS;rw[hk28,bQ e1,bQ e2];simp
  have hspec:stmtS g a=kidsR [] none a.kids:=by unfold stmtS;rw[if_neg mX];simp[hk28]
  refine lT ?_;refine au goes70 (di m _ ⟨28,a.name,a.num,s⟩ a hr' ⟨none,0,0⟩ [] none (cS _ _) pr0 po0) ?_;refine ag ⟨(cC _),rfl,?_⟩;rfl
 by_cases hk29:a.kind=29
 ·obtain⟨k,n,u,s⟩:=h;obtain rfl:k=29:=h1.trans hk29;simp only at h2 h3 h4 hl;subst h2;subst h3;refine uA ?_;refine ay (fun b=>?_);refine cL rfl rfl (fun e1=>?_) (fun e1=>?_)
  ·refine uA ?_;refine jL ?_;rw[stmtS_no (show headS a=false by unfold headS;rw[hk29,bR e1];rfl)]
  refine uL ?_;refine aY (fun e2=>?_) (fun e2=>?_)
  ·simp only at e2;refine kN ?_;rw[stmtS_no (show headS a=false by unfold headS;rw[hk29,bR e2];simp)]
  simp only at e2;refine uL ?_;have hh:headS a=true:=by unfold headS;rw[hk29,bQ e1,bQ e2];simp
  have hspec:stmtS g a=kidsR [] none a.kids:=by unfold stmtS;rw[if_neg mX];simp[hk29]
  refine lT ?_;refine au goes70 (di m _ ⟨29,a.name,a.num,s⟩ a hr' ⟨none,0,0⟩ [] none (cS _ _) pr0 po0) ?_;refine ag ⟨(cC _),rfl,?_⟩;rfl
 have hspec:stmtS g a=false:=by
  unfold stmtS;split
  ·rfl
  ·simp[hk28,hk29]
 rw[hspec];refine uA ?_;refine oB (fun b=>?_)
 repeat' (first|(first|refine q1 ?_|refine q2 ?_|refine q3 ?_|refine q4 tab rfl rfl ?_|refine q5 ?_|refine q6 ?_|refine q8 ?_|refine q13 ?_|refine q15 ?_|refine q16 rfl ?_|refine q17 rfl ?_)|(refine qs rfl (ql tab 0 rfl rfl rfl rfl rfl rfl ?_))|(first|refine TO.splitP rfl rfl (fun hb=>?_) (fun hb=>?_)|refine cL rfl rfl (fun hb=>?_) (fun hb=>?_)))
 all_goals try omega
 all_goals first | exact cI rfl uS ⟨cC _,rfl,rfl⟩ | skip
 all_goals
  repeat' (first|(first|refine q1 ?_|refine q2 ?_|refine q3 ?_|refine q4 tab rfl rfl ?_|refine q5 ?_|refine q6 ?_|refine q7 ?_|refine q8 ?_|refine q13 ?_|refine q15 ?_)|refine uM ?_|(refine TC.condP rfl (fun h5=>mv) (fun h5=>?_))|(refine TC.condN rfl (fun h5=>?_) (fun h5=>?_)))
 all_goals first | exact cI rfl uS ⟨cC _,rfl,rfl⟩ | omega
end Go.Sep
namespace Go.Sep
open Go.Proofs
attribute [local irreducible] TC TO OT TCallX TCall DO DOt thenQ blockQ retQ At
def ParAt {α:Type} (P:Program) (E:PE) (V:RV α) (f:FuncId) (args:List Value) (h:Int) (X:Ps.Pp α) (m:Mem) (L:List Item) (k:Nat):Prop :=
 X E.f k≠.out→TCallX P f ⟨args⟩ m (E.I k h::L) (pR E V (X E.f k) m L h) (pX E (X E.f k) m L)
theorem ParAt.enter {α:Type} {P:Program} {E:PE} {V:RV α} {f:FuncId} {args:List Value} {h:Int} {X:Ps.Pp α} {m:Mem} {L:List Item} {k:Nat} {fn:Func} {c:Code} (hf:P.funcs[f]? = some fn) (hb:fn.body=some c) (N:Nat) (hN:Nat.ble N fn.ntmps=true)
  (hK:∀(T:Ps.Res α),T=X E.f k→T≠.out→TC P N c (argEnv args 0) [] m (E.I k h::L) (retQ P fn (pR E V T m L h) (pX E T m L))):ParAt P E V f args h X m L k :=
 fun h3=>cK hf hb N hN (hK _ rfl h3)
theorem Par.at {α:Type} {P:Program} {mb:Mem} {E:PE} {V:RV α} {f:FuncId} {args:List Value} {h:Int} {X:Ps.Pp α} (hp:Par P mb E V f args h X) {m:Mem} (L:List Item) {k:Nat} (hm:mb≤m) (hE:E.Ok m) (hk:k≤E.toks.length):ParAt P E V f args h X m L k:=hp m L k hm hE hk
section
variable {P:Program} {N:Nat} {ρ:Env} {m:Mem} {L:List Item} {Q:EPost} {o:Oper} {K:Env→Mem→List Item→Prop} {E:PE} {α β:Type}
theorem OT.parGA {V:RV α} {FF:Operand} {args:List Operand} {ats:Array TypeId} {f:FuncId} {first cap vs all:List Value} {d:Nat} {h:Int} {p:Ps.Pp α} {g:α→Ps.Pp β} {T:Ps.Res β} {k:Nat} {m0:Mem} {L0:List Item}
  (ho:o.op = .call ⟨.value FF,⟨args⟩,ats⟩) (hd:o.dst=some d) (hN:Nat.blt d N=true)
  (hF:ev ρ FF=some (.func (.func f) ⟨first⟩ ⟨cap⟩)) (ha:evs ρ args=some vs) (hall:fl (first++(vs++cap))=some all) (hg:Goes P f)
  (hp:ParAt P E V f all h p m L k) (hT:T=Ps.bind p g E.f k) (hn:T≠.out) (hb:Bad Q E T m0 L0) (hm:m0≤m) (hL:L0.Sublist L)
  (hK:∀ v m' a k' xs,T=g a E.f k'→m≤m'→k'≤E.toks.length→V m' v xs a→K ((d,v)::ρ) m' (E.I k' h::(xs++L))):OT P N o ρ [] m (E.I k h::L) Q K:=by
 refine cR ho hd hN hF ha hall hg (cE (hp (bind_out' hT hn)) ?_ ?_)
 ·exact gR
 ·exact gC
variable {FF:Operand} {args:List Operand} {ats:Array TypeId} {f:FuncId} {first cap vs all:List Value} {d:Nat} {h:Int} {T:Ps.Res β} {k:Nat} {m0:Mem} {L0:List Item}
theorem OT.parTA {p:Ps.Pp Tree} {g:Tree→Ps.Pp β} (hp:ParAt P E vTree f all h p m L k) (hT:T=Ps.bind p g E.f k) (hn:T≠.out) (hE:E.Ok m) (hb:Bad Q E T m0 L0) (hm:m0≤m) (hL:L0.Sublist L)
  (ho:o.op = .call ⟨.value FF,⟨args⟩,ats⟩) (hd:o.dst=some d) (hN:Nat.blt d N=true)
  (hF:ev ρ FF=some (.func (.func f) ⟨first⟩ ⟨cap⟩)) (ha:evs ρ args=some vs) (hall:fl (first++(vs++cap))=some all) (hg:Goes P f)
  (hK:∀ x m' a k',T=g a E.f k'→m0≤m'→E.Ok m'→m≤m'→k'≤E.toks.length→TreeRep m' x a→K ((d,treeV x)::ρ) m' (E.I k' h::L)):OT P N o ρ [] m (E.I k h::L) Q K :=
 OT.parGA ho hd hN hF ha hall hg hp hT hn hb hm hL fun v m' a k' xs h1 h2 h3 h4=>by
  exact iz
theorem OT.parSA {p:Ps.Pp (List Tree)} {g:List Tree→Ps.Pp β} (hp:ParAt P E vSl f all h p m L k) (hT:T=Ps.bind p g E.f k) (hn:T≠.out) (hE:E.Ok m) (hb:Bad Q E T m0 L0) (hm:m0≤m) (hL:L0.Sublist L)
  (ho:o.op = .call ⟨.value FF,⟨args⟩,ats⟩) (hd:o.dst=some d) (hN:Nat.blt d N=true)
  (hF:ev ρ FF=some (.func (.func f) ⟨first⟩ ⟨cap⟩)) (ha:evs ρ args=some vs) (hall:fl (first++(vs++cap))=some all) (hg:Goes P f)
  (hK:∀(x:Sl) m' a k',T=g a E.f k'→m0≤m'→E.Ok m'→m≤m'→k'≤E.toks.length→SlRep rTree m' x a→a.length≤20001→K ((d,x.v)::ρ) m' (E.I k' h::L)):OT P N o ρ [] m (E.I k h::L) Q K :=
 OT.parGA ho hd hN hF ha hall hg hp hT hn hb hm hL fun v m' a k' xs h1 h2 h3 h4=>by
  exact ip
end
section
variable {mb:Mem} {E:PE} {h:Int}
theorem inside_at {f:FuncId} {first cap all:List Value} {X:Ps.Pp Tree} {m:Mem} {L:List Item} {k:Nat} (hall:fl (first++([]++cap))=some all) (hg:Goes Tryz.prog f) (hE:E.Ok m)
  (hX:∀ b,ParAt Tryz.prog E vTree f all 0 X m (.cells b 0 [.int .i64 0,strV [],.int .i64 0,.slice none 0 0]::L) k) :
  ParAt Tryz.prog E vTree 234 [E.v,.func (.func f) ⟨first⟩ ⟨cap⟩] h X m L k:=by
 refine ParAt.enter Tryz.func234 rfl 21 rfl fun T hT hn=>?_;have hm:m≤m:=cC _;rw[←Ps.bind_ret X]at hT;refine uA ?_;refine oA tab (fun b4=>?_);refine cM (ba _ _ _) ?_;refine jJ ?_;refine mn ?_;refine qs rfl (OT.parTA (L0:=L) (hX b4) hT hn hE mz hm uS rfl rfl rfl rfl rfl hall hg (fun x m2 a k2 hT hm hE hle hk hrx=>?_));refine uA ?_;refine oA tab (fun b6=>?_);refine cM (ba _ _ _) ?_;refine jE ?_;refine mn ?_;refine j5 ?_;refine aq 2 ?_;refine aw (L':=E.I k2 h::L) 2 ⟨_,k2,[],hT,hm,hk,⟨x,rfl,rfl,hrx⟩,rfl⟩
theorem insideS_at {f:FuncId} {first cap all:List Value} {X:Ps.Pp (List Tree)} {m:Mem} {L:List Item} {k:Nat} (hall:fl (first++([]++cap))=some all) (hg:Goes Tryz.prog f) (hE:E.Ok m)
  (hX:ParAt Tryz.prog E vSl f all 0 X m L k) :
  ParAt Tryz.prog E vSl 241 [E.v,.func (.func f) ⟨first⟩ ⟨cap⟩] h X m L k:=by
 refine ParAt.enter Tryz.func241 rfl 21 rfl fun T hT hn=>?_;have hm:m≤m:=cC _;rw[←Ps.bind_ret X]at hT;refine jJ ?_;refine mn ?_;refine qs rfl (OT.parSA (L0:=L) hX hT hn hE mz hm uS rfl rfl rfl rfl rfl hall hg (fun x m2 a k2 hT hm hE hle hk hrx hlx=>?_));refine uA ?_;refine mn ?_;refine ag (L':=E.I k2 h::L) ⟨_,k2,[],hT,hm,hk,⟨x,rfl,rfl,hrx,hlx⟩,rfl⟩
theorem exprs_par {Y:Ps.Pp Tree} (hY:Par Tryz.prog mb E vTree 199 [E.v] h Y) (e:Str) :
  Par Tryz.prog mb E vSl 238 [E.v,strV e] h (Ps.exprsP E.N e Y):=by
 refine dw Tryz.func238 rfl 17 rfl fun m L k T hm0 hE hk hT hn=>?_;replace hY:=hY.up hm0;have hm:m≤m:=cC _;unfold Ps.exprsP Ps.inP at hT;refine uA ?_;refine qs rfl (dC hT hE hk rfl rfl rfl rfl rfl rfl (fun hT hk=>?_) (fun hT=>?_))
 ·refine uA ?_;refine cI rfl (L':=E.I (k+1) h::L) uS ⟨[],k+1,[],hT,hm,hk,⟨⟨none,0,0⟩,rfl,rfl,cS _ _,by simp⟩,rfl⟩
 ·refine uA ?_;refine qs rfl (OT.parL (L0:=L) (list1_par (first:=[E.v]) (cap:=[]) rfl goes199 hY) hm hT hn hE hk mz hm uS rfl rfl rfl rfl rfl rfl goes148 (fun x m2 a k2 hT hm hE hlex hk hrx hox hlx=>?_));exact fE
theorem index_par {Y:Ps.Pp Tree} (hY:Par Tryz.prog mb E vTree 199 [E.v] 0 Y) (x:HTree) (n:Tree) (hr:TreeRep mb x n) :
  Par Tryz.prog mb E vTree 236 [E.v,treeV x] 0 (Ps.indexP Y n):=by
 refine dw Tryz.func236 rfl 42 rfl fun m L k T hm0 hE hk hT hn=>?_;replace hY:=hY.up hm0;replace hr:=hr.mono hm0;unfold Ps.indexP at hT;refine uA ?_;refine oB (fun b3=>?_);refine cM (ba _ _ _) ?_;refine oA tab (fun b4=>?_);refine cM (ba _ _ _) ?_;refine lr ?_;refine av (hs:=[x]) (l:=[n]) tab rTree ⟨rTree_iff.2 hr,trivial⟩ uH mw (fun s m1 hle1 hs ho hc=>?_);replace hm:=hle1;replace hE:=hE.mono hle1;refine lu ?_;refine oA tab (fun b6=>?_);refine cM (ba _ _ _) ?_;refine kE ?_;refine mu ?_;refine TC.cut (ι:=Int×Sl×Mem×List Tree×Nat) [0,4,6] rfl (fun i=>[(5,i.2.1.v)]) (fun i=>i.2.2.1) (fun i=>E.I i.2.2.2.2 0::.cells b6 0 [.int .i64 50,strV [],.int .i64 i.1,.slice none 0 0]::tok i.2.1 4::.cells b4 0 [.int .i64 0,strV [],.int .i64 0,.slice none 0 0]::L) (fun i=>m≤i.2.2.1∧E.Ok i.2.2.1∧i.2.2.2.2≤E.toks.length∧SlRep rTree i.2.2.1 i.2.1 i.2.2.2.1∧Own i.2.1∧i.2.2.2.1.length≤2∧0≤i.1∧i.1≤1∧T=Ps.cutP Y i.1 i.2.2.2.1 E.f i.2.2.2.2) ?_ ?_
 ·refine uA ?_;refine qs rfl (OT.peekP hT hE hk rfl rfl rfl rfl rfl rfl (fun hT=>?_) (fun hT=>?_))
  ·refine uA ?_;exact⟨(0,s,m1,[n],k),uH,uH,rfl,rfl,uS,hm,hE,hk,hs,ho,by simp,by simp only;omega,by simp only;omega,hT⟩
  ·refine uA ?_;refine qs rfl (dA (L0:=L) (hY) hm hT hn hE hk mz hm uS rfl rfl rfl rfl rfl rfl goes199 (fun y m2 e k2 hT hm hE hley hk hry=>?_));refine av (hs:=[y]) (l:=[e]) tab rTree ⟨rTree_iff.2 hry,trivial⟩ uH mw (fun s2 m3 hle3 hs2 ho2 hc2=>?_);refine qs rfl (cU tab rTree 2 (hs.mono (cD hley hle3)) ho hs2 rfl rfl rfl rfl rfl rfl rfl mI (fun s3 m4 hle4 hs3 ho3=>?_));replace hm:=cD hm (cD hle3 hle4);replace hE:=hE.mono (cD hle3 hle4);refine uA ?_;refine qs rfl (dC hT hE hk rfl rfl rfl rfl rfl rfl (fun hT hk=>?_) (fun hT=>?_))
   ·refine uA ?_;refine aq 3 ?_;refine aw (L':=E.I (k2+1) 0::L) 3 ⟨_,k2+1,[],hT,hm,hk,⟨⟨49,[],0,s3⟩,rfl,rfl,⟨rfl,rfl,rfl,hs3⟩⟩,rfl⟩
   ·refine uA ?_;refine aj (k:=2) 1 ?_;exact⟨(1,s3,m4,[n]++[e],k2),uH,uH,rfl,rfl,uS,hm,hE,hk,hs3,ho3,by simp,by simp only;omega,by simp only;omega,hT⟩
 ·rintro⟨num,s,m1,ks,k⟩ ⟨hm,hE,hk,hs,ho,hl,hn0,hn1,hT⟩;simp only at hm hE hk hs ho hl hn0 hn1 hT;unfold Ps.cutP at hT;refine uA ?_;refine qs rfl (OT.needP (L0:=L) hT hE hk mz hm uS rfl rfl rfl rfl rfl rfl (fun hT hk=>?_));refine uA ?_;refine qs rfl (dC hT hE hk rfl rfl rfl rfl rfl rfl (fun hT hk=>?_) (fun hT=>?_))
  ·refine uA ?_;refine lz ?_;refine aw (L':=E.I (k+1+1) 0::L) 3 ⟨_,k+1+1,[],hT,hm,hk,⟨⟨50,[],num,s⟩,rfl,rfl,⟨rfl,rfl,rfl,hs⟩⟩,rfl⟩
  ·refine uA ?_;refine qs rfl (dA (L0:=L) (hY) hm hT hn hE hk mz hm uS rfl rfl rfl rfl rfl rfl goes199 (fun y m2 e k2 hT hm hE hley hk hry=>?_));refine av (hs:=[y]) (l:=[e]) tab rTree ⟨rTree_iff.2 hry,trivial⟩ uH mw (fun s2 m3 hle3 hs2 ho2 hc2=>?_);refine qs rfl (cU tab rTree 2 (hs.mono (cD hley hle3)) ho hs2 rfl rfl rfl rfl rfl rfl rfl mI (fun s3 m4 hle4 hs3 ho3=>?_));replace hm:=cD hm (cD hle3 hle4);replace hE:=hE.mono (cD hle3 hle4);refine lr ?_;refine aa (r':=num+2) uH mv ?_;refine aj (k:=2) 1 ?_;refine qs rfl (OT.needP (L0:=L) hT hE hk mz hm uS rfl rfl rfl rfl rfl rfl (fun hT hk=>?_));refine uA ?_;refine lz ?_;refine aw (L':=E.I (k2+1) 0::L) 3 ⟨_,k2+1,[],hT,hm,hk,⟨⟨50,[],num+2,s3⟩,rfl,rfl,⟨rfl,rfl,rfl,hs3⟩⟩,rfl⟩
end
end Go.Sep
namespace Go.Sep
open Go.Proofs
attribute [local irreducible] TC TO OT TCallX TCall DO DOt thenQ blockQ retQ At
section
variable {mb:Mem} {E:PE} {h:Int}
theorem post1_at {Y:Ps.Pp Tree} (hY:Par Tryz.prog mb E vTree 199 [E.v] 0 Y) {m:Mem} {L:List Item} {k:Nat} {it:Item} {b1 b3:Nat} {x:HTree} {n:Tree} (hm0:mb≤m) (hE:E.Ok m) (hk:k≤E.toks.length) (hA:At m b1 0 [E.v]) (hr:TreeRep m x n) :
  ParAt Tryz.prog E vTree 235 [.pointer (some ⟨b1,0,none⟩),.pointer (some ⟨b3,0,none⟩)] 0 (Ps.indexP Y n) m (it::.cells b3 0 (treeC x)::L) k:=by
 refine ParAt.enter Tryz.func235 rfl 6 rfl fun T hT hn=>?_;have hm:m≤m:=cC _;rw[←Ps.bind_ret (Ps.indexP Y n)]at hT;refine uA ?_;refine oA tab (fun b2=>?_);refine cM (ba _ _ _) ?_;refine uA ?_;refine oL tab hA ?_;refine uM ?_;refine qs rfl (dA (L0:=it::.cells b3 0 (treeC x)::L) (index_par (hY.up hm0) x n hr) hm hT hn hE hk mz hm uS rfl rfl rfl rfl rfl rfl goes236 (fun x m2 a k2 hT hm hE hle hk hrx=>?_));refine jE ?_;refine aw (L':=E.I k2 0::it::.cells b3 0 _::L) 1 ⟨_,k2,[],hT,hm,hk,⟨x,rfl,rfl,hrx⟩,rfl⟩
theorem post2_at {Y:Ps.Pp Tree} (hY:Par Tryz.prog mb E vTree 199 [E.v] 0 Y) {m:Mem} {L:List Item} {k:Nat} {it:Item} {b1 b3:Nat} {x:HTree} {n:Tree} (hm0:mb≤m) (hE:E.Ok m) (hk:k≤E.toks.length) (hA:At m b1 0 [E.v]) (hr:TreeRep m x n) :
  ParAt Tryz.prog E vTree 237 [.pointer (some ⟨b3,0,none⟩),.pointer (some ⟨b1,0,none⟩)] 0 (Ps.bind (Ps.exprsP E.N [41] Y) fun l=>Ps.ret (.mk 51 [] 0 (n::l))) m (it::.cells b3 0 (treeC x)::L) k:=by
 refine ParAt.enter Tryz.func237 rfl 9 rfl fun T hT hn=>?_;have hm:m≤m:=cC _;replace hY:=hY.up hm0;refine uA ?_;refine oA tab (fun b2=>?_);refine cM (ba _ _ _) ?_;refine uA ?_;refine aL [6] df 7 [.cells b3 0 (treeC x),.cells b2 0 [.int .i64 0,strV [],.int .i64 0,.slice none 0 0]] (E.I k 0::it::L) ((be pfr3 (bg _ pfr1))) ?_;refine ae (k:=0) 0 0 ?_;refine ai (k:=0) 2 hA ?_;refine DO.fork 1 [3] uK ⟨⟨_,rfl,rfl,rfl,?_⟩,⟨_,rfl,rfl,rfl,?_⟩,trivial⟩
 ·skip;refine aM (hs:=[x]) (l:=[n]) tab rTree ⟨rTree_iff.2 hr,trivial⟩ uH mw (fun s mB hleB hs ho hc=>?_);replace hm:=cD hm hleB;replace hE:=hE.mono hleB;refine⟨hleB,_,a9 _,?_⟩;refine af 3 ?_;refine c8 (L':=E.I k 0::.cells b2 0 [.int .i64 0,strV [],.int .i64 0,.slice none 0 0]::it::.cells b3 0 (treeC x)::L) ((be pfr2 (bg _ (be pfr1 (bg _ pfr1))))) (OT.parS (L0:=it::.cells b3 0 (treeC x)::L) (exprs_par hY [41]) hm hT hn hE hk mz hm uS rfl rfl rfl rfl rfl rfl goes238 (fun y mA l k2 hT hm hE hleA hk hry hly=>?_));refine⟨hleA,E.I k2 0::it::L,((be pfr3 (bg _ pfr1))),?_⟩;have hsB:=hs.mono hleA;have hrB:=hry;exact ep
 ·skip;refine c8 (L':=E.I k 0::.cells b2 0 [.int .i64 0,strV [],.int .i64 0,.slice none 0 0]::it::.cells b3 0 (treeC x)::L) ((be pfr2 (bg _ (be pfr1 (bg _ pfr1))))) (OT.parS (L0:=it::.cells b3 0 (treeC x)::L) (exprs_par hY [41]) hm hT hn hE hk mz hm uS rfl rfl rfl rfl rfl rfl goes238 (fun y mA l k2 hT hm hE hleA hk hry hly=>?_));refine⟨hleA,E.I k2 0::it::L,((be pfr3 (bg _ pfr1))),?_⟩;refine af 1 ?_;refine aM (hs:=[x]) (l:=[n]) tab rTree ⟨rTree_iff.2 (hr.mono hleA),trivial⟩ uH mw (fun s mB hleB hs ho hc=>?_);replace hm:=cD hm hleB;replace hE:=hE.mono hleB;refine⟨hleB,_,a9 _,?_⟩;have hsB:=hs;have hrB:=hry.mono hleB;exact ep
end
end Go.Sep
namespace Go.Ps
theorem tkn_t {α:Type} {c:Int} {A:Tk→Pp α} {B:Pp α} {f:F} {k:Nat} {t:Tk} (h:f k=some t) (hk:isK c f k=true):tkn c A B f k=A t f (k+1):=by
 unfold isK at hk;rw[h]at hk;simp only at hk;unfold tkn;rw[h];simp only[hk,cz]
theorem tkn_f {α:Type} {c:Int} {A:Tk→Pp α} {B:Pp α} {f:F} {k:Nat} (hk:isK c f k=false):tkn c A B f k=B f k:=by
 unfold isK at hk;unfold tkn;cases h:f k with
 | none=>rfl
 | some t=>rw[h]at hk;simp only at hk;simp only[hk,cy]
end Go.Ps
namespace Go.Sep
open Go.Proofs
attribute [local irreducible] TC TO OT TCallX TCall DO DOt thenQ blockQ retQ At
section
variable {mb:Mem} {E:PE} {h:Int}
theorem primary1_par {Y:Ps.Pp Tree} (hY:Par Tryz.prog mb E vTree 199 [E.v] h Y) (b1:Nat) (hA:At mb b1 0 [E.v]) :
  Par Tryz.prog mb E vSl 242 [.pointer (some ⟨b1,0,none⟩)] h (Ps.exprsP E.N [125] Y):=by
 refine dw Tryz.func242 rfl 4 rfl fun m L k T hm0 hE hk hT hn=>?_;replace hY:=hY.up hm0;replace hA:=hA.mono hm0;have hm:m≤m:=cC _;rw[←Ps.bind_ret (Ps.exprsP E.N [125] Y)]at hT;refine jO ?_;refine qs rfl (OT.parS (L0:=L) (exprs_par hY [125]) hm hT hn hE hk mz hm uS rfl rfl rfl rfl rfl rfl goes238 (fun x m2 a k2 hT hm hE hlex hk hrx hlx=>?_));refine uA ?_;refine ag (L':=E.I k2 h::L) ⟨a,k2,[],hT,hm,hk,⟨x,rfl,rfl,hrx,hlx⟩,rfl⟩
theorem primary_par {X Y Z:Ps.Pp Tree} (hd:Bool) (hX:Par Tryz.prog mb E vTree 145 [E.v] (bif hd then 1 else 0) X) (hY:Par Tryz.prog mb E vTree 199 [E.v] 0 Y) (hZ:Par Tryz.prog mb E vTree 114 [E.v] (bif hd then 1 else 0) Z) :
  Par Tryz.prog mb E vTree 233 [E.v] (bif hd then 1 else 0) (Ps.primP E.N X Z Y hd):=by
 refine dw Tryz.func233 rfl 119 rfl fun m L k T hm0 hE hk hT hn=>?_;have hrows:=hE.rows;unfold Ps.primP at hT;generalize hh:(bif hd then (1:Int)else 0)=h at hX hZ ⊢;refine uA ?_;refine oB (fun b1=>?_);refine cX fun m1 hle1 hA=>?_;replace hm:m≤m1:=hle1;replace hE:=hE.mono hle1;replace hX:=hX.up (cD hm0 hle1);replace hY:=hY.up (cD hm0 hle1);replace hZ:=hZ.up (cD hm0 hle1);have hmm:m1≤m1:=cC _;have hlen:=hE.rep.len;have hfew:=hE.few;refine uA ?_;refine oA tab (fun b2=>?_);refine cM (ba _ _ _) ?_;refine jO ?_;refine au goes147 (is_law 2 hE hk) ?_;cases hb:Ps.isK 2 E.f k with
 | true =>
  have hlt:=PE.isK_lt hb;have hx:E.toks[k]? = some E.toks[k]:=bm hlt;rw[Ps.tkn_t (PE.f_some hlt) hb]at hT;refine jO ?_;refine uM ?_;refine jA ?_;refine jM ?_;rintro b i hd hr hA2;obtain rfl:=(show hd=E.toks[k] from hr)
  refine kQ ?_
  rotate_left 1
  refine uA ?_;refine aw (L':=E.I (k+1) h::L) 1 ⟨_,k+1,[],hT,hm,hlt,⟨⟨40,[],(E.toks[k]).num,⟨none,0,0⟩⟩,rfl,rfl,⟨rfl,rfl,rfl,cS _ _⟩⟩,rfl⟩
 | false =>
 rw[Ps.tkn_f hb]at hT;refine jO ?_;refine au goes147 (is_law 3 hE hk) ?_;cases hb:Ps.isK 3 E.f k with
 | true =>
  have hlt:=PE.isK_lt hb;have hx:E.toks[k]? = some E.toks[k]:=bm hlt;rw[Ps.tkn_t (PE.f_some hlt) hb]at hT;refine jO ?_;refine uM ?_;refine jA ?_;refine jM ?_;rintro b i hd hr hA2;obtain rfl:=(show hd=E.toks[k] from hr)
  refine kQ ?_
  rotate_left 1
  refine uA ?_;refine aw (L':=E.I (k+1) h::L) 1 ⟨_,k+1,[],hT,hm,hlt,⟨⟨41,(E.toks[k]).text,0,⟨none,0,0⟩⟩,rfl,rfl,⟨rfl,rfl,rfl,cS _ _⟩⟩,rfl⟩
 | false =>
 rw[Ps.tkn_f hb]at hT;refine jO ?_;refine qs rfl (dC hT hE hk rfl rfl rfl rfl rfl rfl (fun hT hk=>?_) (fun hT=>?_))
 ·refine uA ?_;refine jx ?_;refine aw (L':=E.I (k+1) h::L) 1 ⟨_,k+1,[],hT,hm,hk,⟨⟨42,[],1,⟨none,0,0⟩⟩,rfl,rfl,⟨rfl,rfl,rfl,cS _ _⟩⟩,rfl⟩
 refine jO ?_;refine qs rfl (dC hT hE hk rfl rfl rfl rfl rfl rfl (fun hT hk=>?_) (fun hT=>?_))
 ·refine uA ?_;refine jx ?_;refine aw (L':=E.I (k+1) h::L) 1 ⟨_,k+1,[],hT,hm,hk,⟨⟨42,[],0,⟨none,0,0⟩⟩,rfl,rfl,⟨rfl,rfl,rfl,cS _ _⟩⟩,rfl⟩
 refine jO ?_;refine qs rfl (dC hT hE hk rfl rfl rfl rfl rfl rfl (fun hT hk=>?_) (fun hT=>?_))
 ·refine uA ?_;refine jx ?_;refine aw (L':=E.I (k+1) h::L) 1 ⟨_,k+1,[],hT,hm,hk,⟨⟨43,[],0,⟨none,0,0⟩⟩,rfl,rfl,⟨rfl,rfl,rfl,cS _ _⟩⟩,rfl⟩
 refine jO ?_;refine qs rfl (dC hT hE hk rfl rfl rfl rfl rfl rfl (fun hT hk=>?_) (fun hT=>?_))
 ·refine uA ?_;refine oL tab hA ?_;refine jV ?_;refine qs rfl (OT.parTA (L0:=L) (inside_at (first:=[E.v]) (cap:=[]) rfl goes199 hE (fun b=>hY.at _ hmm hE hk)) hT hn hE mE hm uS rfl rfl rfl rfl rfl rfl goes234 (fun x m2 a k2 hT hm hE hle hk hrx=>?_));replace hA:=hA.mono hle;refine uA ?_;refine oA tab (fun b3=>?_);refine cM (ba _ _ _) ?_;refine jE ?_;refine jV ?_;refine qs rfl (OT.needP (L0:=L) hT hE hk mE hm uS rfl rfl rfl rfl rfl rfl (fun hT hk=>?_));refine jJ ?_;refine aq 2 ?_;refine aw (L':=E.I (k2+1) h::L) 2 ⟨_,k2+1,[],hT,hm,hk,⟨x,rfl,rfl,hrx⟩,rfl⟩
 refine jO ?_;refine qs rfl (dC hT hE hk rfl rfl rfl rfl rfl rfl (fun hT hk=>?_) (fun hT=>?_))
 ·refine uA ?_;refine jV ?_;refine qs rfl (OT.needP (L0:=L) hT hE hk mE hm uS rfl rfl rfl rfl rfl rfl (fun hT hk=>?_));refine jO ?_;refine qs rfl (dA (L0:=L) hX hmm hT hn hE hk mE hm uS rfl rfl rfl rfl rfl rfl goes145 (fun x m2 a k2 hT hm hE hle hk hrx=>?_));refine av (hs:=[x]) (l:=[a]) tab rTree ⟨rTree_iff.2 hrx,trivial⟩ uH mw (fun s m3 hle3 hs ho hc=>?_);replace hA:=hA.mono (cD hle hle3);replace hm:=cD hm hle3;replace hE:=hE.mono hle3;replace hY:=hY.up (cD hle hle3);refine lu ?_;refine oA tab (fun b4=>?_);refine cM (ba _ _ _) ?_;refine jE ?_;refine jV ?_;refine qs rfl (OT.needP (L0:=L) hT hE hk mE hm uS rfl rfl rfl rfl rfl rfl (fun hT hk=>?_));refine uA ?_;refine aL [7] df 8 [.cells b4 0 [.int .i64 46,strV [],.int .i64 0,s.v]] (E.I (k2+1) h::tok s 4::.cells b2 0 [.int .i64 0,strV [],.int .i64 0,.slice none 0 0]::L) (ba _ _ _) ?_;refine kM ?_;refine ae 1 0 ?_;refine ai (k:=0) 2 hA ?_;refine cV tab uC uK [3] uK rfl ?_;refine af 4 ?_;refine c8 (ba _ _ _) (OT.parSA (L0:=L) (insideS_at (first:=[]) (cap:=[.pointer (some ⟨b1,0,none⟩)]) rfl goes242 hE ((primary1_par hY b1 hA).at _ (cC _) hE hk)) hT hn hE mE hm uS rfl rfl rfl rfl rfl rfl goes241 (fun y mA l k3 hT hm hE hleA hk hry hly=>?_));refine⟨hleA,E.I k3 h::tok s 4::.cells b2 0 [.int .i64 0,strV [],.int .i64 0,.slice none 0 0]::L,ba _ _ _,?_⟩;refine af 5 ?_;refine cU tab rTree 2 (hs.mono hleA) ho hry rfl rfl rfl rfl rfl rfl rfl mI (fun s3 mC hleC hs3 ho3=>?_);refine⟨hleC,E.I k3 h::tok s3 4::.cells b2 0 [.int .i64 0,strV [],.int .i64 0,.slice none 0 0]::L,a9 _,?_⟩;refine jR ?_;refine cO (k:=3) tab 0 rfl rfl rfl rfl rfl rfl rfl rfl ?_;refine DOt.perm (ba _ _ _) ?_;refine aH ?_
  rotate_left 1
  refine lR ?_;refine aw (L':=E.I k3 h::L) 3 ⟨_,k3,[],hT,cD hm hleC,hk,⟨⟨46,[],0,s3⟩,rfl,rfl,⟨rfl,rfl,rfl,hs3⟩⟩,rfl⟩
 refine jO ?_;refine qs rfl (dC hT hE hk rfl rfl rfl rfl rfl rfl (fun hT hk=>?_) (fun hT=>?_))
 ·refine uA ?_;refine aL [6] df 7 [.cells b2 0 [.int .i64 0,strV [],.int .i64 0,.slice none 0 0]] (E.I (k+1) h::L) (ba _ _ _) ?_;refine ai (k:=0) 0 hA ?_;refine ai (k:=0) 2 hA ?_;refine af 1 ?_;refine c8 (ba _ _ _) (dA (L0:=L) (psig_par hX) hmm hT hn hE hk mE hm uS rfl rfl rfl rfl rfl rfl goes113 (fun x mA a k2 hT hm hE hleA hk hrx=>?_));refine⟨hleA,E.I k2 h::L,ba _ _ _,?_⟩;refine af 3 ?_;refine c8 (ba _ _ _) (dA (L0:=L) hZ hleA hT hn hE hk mE hm uS rfl rfl rfl rfl rfl rfl goes114 (fun y mB b k3 hT hm hE hleB hk hry=>?_));refine⟨hleB,E.I k3 h::L,ba _ _ _,?_⟩;refine af 4 ?_;refine de tab rTree (hs:=[x,y]) (l:=[a,b]) ⟨rTree_iff.2 (hrx.mono hleB),rTree_iff.2 hry,trivial⟩ rfl rfl rfl rfl rfl mw (fun s mC hleC hs ho hc=>?_);refine⟨hleC,_,a9 _,?_⟩;refine kO ?_;refine cP tab 0 rfl rfl rfl rfl rfl rfl rfl rfl ?_;refine DOt.perm (ba _ _ _) ?_;refine aH ?_
  rotate_left 1
  refine uA ?_;refine aw (L':=E.I k3 h::L) 1 ⟨_,k3,[],hT,cD hm hleC,hk,⟨⟨47,[],0,s⟩,rfl,rfl,⟨rfl,rfl,rfl,hs⟩⟩,rfl⟩
 refine jO ?_;refine qs rfl (OT.nameP (L0:=L) hT hE hk mz hm uS rfl rfl rfl rfl rfl rfl (fun nm hT hk=>?_));refine jO ?_;refine uM ?_;cases hd with
 | true =>
  obtain rfl:=(show(1:Int)=h from hh)
  refine jE ?_;refine aw (L':=E.I (k+1) 1::L) 1 ⟨_,k+1,[],hT,hm,hk,⟨⟨44,nm,0,⟨none,0,0⟩⟩,rfl,rfl,⟨rfl,rfl,rfl,cS _ _⟩⟩,rfl⟩
 | false =>
  obtain rfl:=(show(0:Int)=h from hh)
  replace hT:T=Ps.tok [123] (Ps.bind (Ps.exprsP E.N [125] Y) fun l=>Ps.ret (.mk 45 nm 0 l)) (Ps.ret (Ps.leaf 44 nm)) E.f (k+1):=hT;refine jO ?_;refine qs rfl (dC hT hE hk rfl rfl rfl rfl rfl rfl (fun hT hk=>?_) (fun hT=>?_))
  ·refine uA ?_;refine jV ?_;refine qs rfl (OT.parS (L0:=L) (exprs_par hY [125]) hmm hT hn hE hk mz hm uS rfl rfl rfl rfl rfl rfl goes238 (fun y mA l k3 hT hm hE hleA hk hry hly=>?_));refine jE ?_;refine aw (L':=E.I k3 0::L) 1 ⟨_,k3,[],hT,hm,hk,⟨⟨45,nm,0,y⟩,rfl,rfl,⟨rfl,rfl,rfl,hry⟩⟩,rfl⟩
  ·refine uA ?_;refine jx ?_;refine aw (L':=E.I (k+1) 0::L) 1 ⟨_,k+1,[],hT,hm,hk,⟨⟨44,nm,0,⟨none,0,0⟩⟩,rfl,rfl,⟨rfl,rfl,rfl,cS _ _⟩⟩,rfl⟩
end
end Go.Sep
namespace Go.Sep
open Go.Proofs
attribute [local irreducible] TC TO OT TCallX TCall DO DOt thenQ blockQ retQ At
section
variable {mb:Mem} {E:PE} {h:Int}
theorem post_par {X Y:Ps.Pp Tree} (hX:Par Tryz.prog mb E vTree 233 [E.v] h X) (hY:Par Tryz.prog mb E vTree 199 [E.v] 0 Y) :
  Par Tryz.prog mb E vTree 227 [E.v] h (Ps.bind X (Ps.postP E.N Y E.N)):=by
 refine dw Tryz.func227 rfl 27 rfl fun m L k T hm0 hE hk hT hn=>?_;refine uA ?_;refine oB (fun b1=>?_);refine cX fun m1 hle1 hA=>?_;replace hm:m≤m1:=hle1;replace hE:=hE.mono hle1;replace hX:=hX.up (cD hm0 hle1);replace hY:=hY.up (cD hm0 hle1);refine uA ?_;refine oA tab (fun b2=>?_);refine cM (ba _ _ _) ?_;refine jO ?_;refine qs rfl (dA (L0:=L) hX (cC _) hT hn hE hk mz hm uS rfl rfl rfl rfl rfl rfl goes233 (fun x m2 a k2 hT hm hE hle2 hk hrx=>?_));refine uA ?_;refine oA tab (fun b3=>?_);refine cM (ba _ _ _) ?_;refine jE ?_;refine cH (ι:=HTree×Mem×Tree×Nat×Nat) [0,1,2,3] rfl (fun _=>[]) (fun x=>x.2.1) (fun x=>E.I x.2.2.2.1 h::.cells b3 0 (treeC x.1)::.cells b2 0 [.int .i64 0,strV [],.int .i64 0,.slice none 0 0]::L) (fun x=>m2≤x.2.1∧x.2.2.2.1≤E.toks.length∧TreeRep x.2.1 x.1 x.2.2.1∧T=Ps.postP E.N Y x.2.2.2.2 x.2.2.1 E.f x.2.2.2.1) (fun x=>x.2.2.2.2) (x,m2,a,k2,E.N) uH rfl uS ⟨cC _,hk,hrx,hT⟩ ?_;rintro⟨x,m3,n,k,N⟩ ⟨hm3,hk,hrx,hT⟩;simp only at hm3 hk hrx hT;show TC _ _ _ _ _ m3 (E.I k h::.cells b3 0 (treeC x)::.cells b2 0 [.int .i64 0,strV [],.int .i64 0,.slice none 0 0]::L) _;replace hm:=cD hm hm3;replace hE:=hE.mono hm3;replace hA:=hA.mono (cD hle2 hm3);replace hY:=hY.up (cD hle2 hm3);have hmm:m3≤m3:=cC _;cases N with
 | zero=>exact absurd hT hn
 | succ N =>
  replace hT:T=Ps.tok [46] (Ps.name fun s=>Ps.postP E.N Y N (.mk 48 s 0 [n])) (Ps.tok [91] (Ps.bind (Ps.indexP Y n) fun t=>Ps.postP E.N Y N t) (Ps.tok [40] (Ps.bind (Ps.exprsP E.N [41] Y) fun l=>Ps.postP E.N Y N (.mk 51 [] 0 (n::l))) (Ps.ret n))) E.f k:=hT;refine jO ?_;refine qs rfl (dC hT hE hk rfl rfl rfl rfl rfl rfl (fun hT hk=>?_) (fun hT=>?_))
  ·refine uA ?_;refine aL [5] df 6 [.cells b3 0 (treeC x)] (E.I (k+1) h::.cells b2 0 [.int .i64 0,strV [],.int .i64 0,.slice none 0 0]::L) (ba _ _ _) ?_;refine ai (k:=0) 0 hA ?_;refine ae (k:=0) 2 0 ?_;refine DO.fork 1 [3] uK ⟨⟨_,rfl,rfl,rfl,?_⟩,⟨_,rfl,rfl,rfl,?_⟩,trivial⟩
   ·skip;refine c8 (ba _ _ _) (OT.nameP (L0:=L) hT hE hk mE hm uS rfl rfl rfl rfl rfl rfl (fun t hT hk=>?_));refine lE ?_;refine af 3 ?_;refine aM (hs:=[x]) (l:=[n]) tab rTree ⟨rTree_iff.2 hrx,trivial⟩ uH mw (fun s mB hleB hs ho hc=>?_);replace hm:=cD hm hleB;replace hE:=hE.mono hleB;refine⟨hleB,_,a9 _,?_⟩;exact fp
   ·skip;refine aM (hs:=[x]) (l:=[n]) tab rTree ⟨rTree_iff.2 hrx,trivial⟩ uH mw (fun s mB hleB hs ho hc=>?_);replace hm:=cD hm hleB;replace hE:=hE.mono hleB;refine⟨hleB,_,a9 _,?_⟩;refine af 1 ?_;refine c8 (ba _ _ _) (OT.nameP (L0:=L) hT hE hk mE hm uS rfl rfl rfl rfl rfl rfl (fun t hT hk=>?_));refine lE ?_;exact fp
  refine jO ?_;refine qs rfl (dC hT hE hk rfl rfl rfl rfl rfl rfl (fun hT hk=>?_) (fun hT=>?_))
  ·refine uA ?_;refine jV ?_;refine qs rfl (OT.parTA (L0:=L) (inside_at (first:=[]) (cap:=[.pointer (some ⟨b1,0,none⟩),.pointer (some ⟨b3,0,none⟩)]) rfl goes235 hE (fun b=>post1_at hY hmm hE hk hA hrx)) hT hn hE mE hm uS rfl rfl rfl rfl rfl rfl goes234 (fun y mB e k3 hT hm hE hleB hk hry=>?_));exact gM
  refine jO ?_;refine qs rfl (dC hT hE hk rfl rfl rfl rfl rfl rfl (fun hT hk=>?_) (fun hT=>?_))
  ·replace hT:T=Ps.bind (Ps.bind (Ps.exprsP E.N [41] Y) fun l=>Ps.ret (.mk 51 [] 0 (n::l))) (Ps.postP E.N Y N) E.f (k+1):=by rw[Ps.bind_assoc];exact hT
   refine jO ?_;refine qs rfl (OT.parTA (L0:=L) (inside_at (first:=[]) (cap:=[.pointer (some ⟨b3,0,none⟩),.pointer (some ⟨b1,0,none⟩)]) rfl goes237 hE (fun b=>post2_at hY hmm hE hk hA hrx)) hT hn hE mE hm uS rfl rfl rfl rfl rfl rfl goes234 (fun y mB e k3 hT hm hE hleB hk hry=>?_));exact gM
  ·refine uA ?_;refine j5 ?_;refine aq 2 ?_;refine aw (L':=E.I k h::L) 2 ⟨_,k,[],hT,hm,hk,⟨x,rfl,rfl,hrx⟩,rfl⟩
structure GW (mb:Mem) (E:PE) (g:Ps.Gr):Prop where
 typ:∀ h,Par Tryz.prog mb E vTree 145 [E.v] h g.typ
 block:∀ h,Par Tryz.prog mb E vTree 114 [E.v] h g.block
 stmt:Par Tryz.prog mb E vTree 151 [E.v] 0 g.stmt
 branch:Par Tryz.prog mb E vTree 179 [E.v] 0 g.branch
 expr:∀ b,Par Tryz.prog mb E vTree 199 [E.v] (bif b then 1 else 0) (g.expr b)
 unary:∀ b,Par Tryz.prog mb E vTree 220 [E.v] (bif b then 1 else 0) (g.unary b)
theorem Par.dry {f:FuncId} {args:List Value} {V:RV Tree}:Par Tryz.prog mb E V f args h Ps.dry:=fun _ _ _ _ _ _ hn=>absurd rfl hn
theorem gw : ∀ n,GW mb E (Ps.gr E.N n)
 | 0=>⟨fun _=>Par.dry,fun _=>Par.dry,Par.dry,Par.dry,fun _=>Par.dry,fun _=>Par.dry⟩
 | n+1=>by
  have g:=gw n;refine⟨fun h=>typ_par (g.typ h),fun h=>block_par g.stmt,stmt_par (g.expr true) (g.block 0) g.branch (simple_par (g.typ 0) (g.expr false)),branch_par (g.expr true) (g.block 0) g.branch,fun b=>expr_par (g.unary b),fun b=>?_⟩;exact unary_par (g.unary b) (post_par (primary_par b (g.typ _) (g.expr false) (g.block _)) (g.expr false))
end
end Go.Sep
namespace Go.Sep
open Go.Proofs
attribute [local irreducible] TC TO OT TCallX TCall DO DOt thenQ blockQ retQ At
section
variable {mb:Mem} {E:PE}
theorem program_par {X:Ps.Pp Tree} (hX:Par Tryz.prog mb E vTree 57 [E.v] 0 X) :
  Par Tryz.prog mb E vTree 30 [E.v] 0 (Ps.bind (Ps.progL X E.N) fun l=>Ps.ret (.mk 1 [] 0 l)):=by
 refine dw Tryz.func30 rfl 23 rfl fun m L k T hm0 hE hk hT hn=>?_;replace hX:=hX.up hm0;have hm:m≤m:=cC _;have hrows:=hE.rows;rw[Ps.decls_start]at hT;refine uA ?_;refine oA tab (fun b2=>?_);refine cM (ba _ _ _) ?_;refine uA ?_;refine oA tab (fun b3=>?_);refine cM (ba _ _ _) ?_;refine kE ?_;refine TO.grow0 (size:=4) ?_;refine aJ (L':=E.I k 0::.cells b3 0 [.int .i64 1,strV [],.int .i64 0,.slice none 0 0]::tok ⟨none,0,0⟩ 4::.cells b2 0 [.int .i64 0,strV [],.int .i64 0,.slice none 0 0]::L) (be (ba _ _ _) (bg _ (ba _ _ _))) ?_;refine cH (ι:=Sl×Mem×List Tree×Nat×Nat) [0,2,3] rfl (fun x=>[]) (fun x=>x.2.1) (fun x=>E.I x.2.2.2.1 0::.cells b3 0 [.int .i64 1,strV [],.int .i64 0,x.1.v]::tok x.1 4::.cells b2 0 [.int .i64 0,strV [],.int .i64 0,.slice none 0 0]::L) (fun x=>m≤x.2.1∧E.Ok x.2.1∧x.2.2.2.1≤E.toks.length∧SlRep rTree x.2.1 x.1 x.2.2.1∧Own x.1∧x.2.2.1.length+x.2.2.2.2=E.N∧T=Ps.bind (Ps.decls X x.2.2.2.2 x.2.2.1) (fun l=>Ps.ret (.mk 1 [] 0 l)) E.f x.2.2.2.1) (fun x=>x.2.2.2.2) (⟨none,0,0⟩,m,[],k,E.N) uH rfl uS ⟨hm,hE,hk,cS _ _,cZ,by simp,hT⟩ ?_;rintro⟨s,m1,acc,k,j⟩ ⟨hm,hE,hk,hs,ho,hlen,hT⟩;simp only at hm hE hk hs ho hlen hT;show TC _ _ _ _ _ m1 (E.I k 0::.cells b3 0 [.int .i64 1,strV [],.int .i64 0,s.v]::tok s 4::.cells b2 0 [.int .i64 0,strV [],.int .i64 0,.slice none 0 0]::L) _;have hll:=hE.rep.len;cases j with
 | zero=>exact absurd hT hn
 | succ j =>
  refine uA ?_;refine aU [] df 10 ?_;refine jH ?_;refine jW ?_;refine aN ?_
  rotate_left 1
  refine uA ?_;refine am (fun hc=>?_) (fun hc=>?_)
  ·have hlt:k<E.toks.length:=mv;have hT:T=Ps.bind X (fun a=>Ps.bind (Ps.decls X j (acc++[a])) fun l=>Ps.ret (.mk 1 [] 0 l)) E.f k:=by
    rw[←Ps.bind_assoc,hT];show Ps.bind _ _ E.f k=Ps.bind _ _ E.f k;unfold Ps.bind;rw[Ps.decls_some (by rw[PE.f_some hlt];exact fun h=>by cases h)];rfl
   refine uA ?_;refine aL [7] df 8 [.cells b3 0 [.int .i64 1,strV [],.int .i64 0,s.v]] (E.I k 0::tok s 4::.cells b2 0 [.int .i64 0,strV [],.int .i64 0,.slice none 0 0]::L) (ba _ _ _) ?_;refine jG ?_;refine c8 (ba _ _ _) (dA (L0:=L) (hX) hm hT hn hE hk mE hm uS rfl rfl rfl rfl rfl rfl goes57 (fun x mA a k2 hT hm hE hleA hk hr=>?_));refine⟨hleA,E.I k2 0::tok s 4::.cells b2 0 [.int .i64 0,strV [],.int .i64 0,.slice none 0 0]::L,ba _ _ _,?_⟩;exact ef
  ·have hT:T = .ok (.mk 1 [] 0 acc) k:=by
    rw[hT];unfold Ps.bind;rw[Ps.decls_none (PE.f_none mv)];rfl
   refine lR ?_;refine aw (L':=E.I k 0::L) 3 ⟨_,k,[],hT,hm,hk,⟨⟨1,[],0,s⟩,rfl,rfl,⟨rfl,rfl,rfl,hs⟩⟩,rfl⟩
end
def FitR (bl:Nat) (L:List Item) (m:Mem) (a:Tree) (d left:Int):Value→Mem→List Item→Prop :=
 fun r m' L'=>m'=m∧((r = .bool true∧(a.size:Int)≤left∧d+(a.deep:Int)≤101∧L' = .cells bl 0 [.int .i64 (left-a.size)]::L)∨(r = .bool false∧¬((a.size:Int)≤left∧d+(a.deep:Int)≤101)∧∃ n,L' = .cells bl 0 [.int .i64 n]::L))
theorem fits_law (a:Tree):∀(m:Mem) (L:List Item) (h:HTree) (bl:Nat) (d left:Int),TreeRep m h a→0≤left→left≤20000→0≤d→d≤101 →
  TCall Tryz.prog 31 ⟨[treeV h,.int .i64 d,.pointer (some ⟨bl,0,none⟩)]⟩ m (.cells bl 0 [.int .i64 left]::L) (FitR bl L m a d left):=by
 induction a using Tree.ind with
 | h a ih =>
 intro m L h bl d left hr hl0 hl1 hd0 hd1;have hr':=hr;obtain⟨h1,h2,h3,h4⟩:=hr;have hlen:=h4.len;have hsm:=h4.small rfl;have hsz:=size_kids a;have hdp:=deep_kids a;unfold TCall;refine ak Tryz.func31 36 ?_;refine oB (fun b3=>?_);refine lr ?_;refine aa (r':=left-1) uH mv ?_;refine aq 1 ?_;refine j5 ?_;refine az (fun hneg=>?_) (fun hneg=>?_)
 ·exact gK
 refine uA ?_;refine am (fun hdd=>?_) (fun hdd=>?_)
 ·exact gK
 refine jJ ?_;refine cH (ι:=Nat) [0,1,2,23,24] rfl (fun i=>[(25,.int .i64 (i:Int))]) (fun _=>m) (fun i=>.cells bl 0 [.int .i64 (left-1-(sizeL (a.kids.take i):Int))]::L) (fun i=>i≤a.kids.length∧(sizeL (a.kids.take i):Int)≤left-1∧d+(deepL (a.kids.take i):Int)≤100) (fun i=>a.kids.length-i) 0 uH rfl (by rw[show left-1-(sizeL (a.kids.take 0):Int)=left-1 by simp[sizeL]];exact bY _ (bZ _)) ⟨cn _,by simp[sizeL];omega,by simp[deepL];omega⟩ ?_;rintro i ⟨hi,hI1,hI2⟩;refine uA ?_;refine am (fun hc=>?_) (fun hc=>?_)
 ·have hlt:i<a.kids.length:=mv;have hx:a.kids[i]? = some a.kids[i]:=bm hlt;have e1:=sizeL_next a.kids i hlt;have e2:=deepL_next a.kids i hlt;have e3:=sizeL_take a.kids (i+1);have e4:=deepL_take a.kids (i+1);refine uA ?_;refine ar tab rTree i h4 uH mD rfl hx ?_;rintro bx ix hx' hrx hAx;refine uA ?_;refine ap tab hAx ?_;refine aC tab (fun b8=>?_);refine jx ?_;refine j5 ?_;refine aa (r':=d+1) uH mv ?_;refine cM (ba _ _ _) ?_;refine oC goes31 ((ih a.kids[i] (bL hlt) _ _ hx' bl (d+1) (left-1-(sizeL (a.kids.take i):Int)) (rTree_iff.1 hrx) mv mv mv mv).x ?_);rintro _ _ _ ⟨rfl,⟨rfl,k1,k2,rfl⟩ | ⟨rfl,k1,n,rfl⟩⟩
  ·refine uA ?_;refine jz ?_;refine⟨i+1,uH,uH,rfl,rfl,?_,⟨hlt,by omega,by omega⟩,by omega⟩;rw[show left-1-(sizeL (a.kids.take (i+1)):Int)=left-1-(sizeL (a.kids.take i):Int)-(a.kids[i].size:Int) by omega];exact uS
  ·refine uA ?_;refine cI rfl (L':=.cells bl 0 [.int .i64 n]::L) uS ⟨rfl,.inr ⟨rfl,by omega,_,rfl⟩⟩
 ·rw[cj mv]at hI1 hI2;rw[cj (show a.kids.length≤i by omega)];refine uA ?_;refine cI rfl (L':=.cells bl 0 [.int .i64 (left-a.size)]::L) ?_ ⟨rfl,.inl ⟨rfl,by omega,by omega,rfl⟩⟩;rw[show left-(a.size:Int)=left-1-(sizeL a.kids:Int) by omega];exact uS
end Go.Sep
namespace Go.Sep
open Go.Proofs
attribute [local irreducible] TC TO OT TCallX TCall DO DOt thenQ blockQ retQ At
theorem deepL_mem : ∀ {l:List Tree} {t:Tree},t∈l→t.deep≤deepL l
 | x::xs,t,h=>by
  rcases List.mem_cons.1 h with rfl | h
  ·simp only[deepL];omega
  ·have:=deepL_mem h;simp only[deepL];omega
theorem deep_kid {a t:Tree} (h:t∈a.kids):t.deep<a.deep:=by
 obtain⟨k,n,u,ks⟩:=a;have:=deepL_mem h;simp only[Tree.kids,Tree.deep]at *;omega
structure SgT (n:Nat) (a:Tree) (m:Mem) (L:List Item) (h:HTree):Prop where
 expr:TCall Tryz.prog 161 ⟨[treeV h]⟩ m L (Ret (.bool ((sg n).expr a)) m L)
 stmt:TCall Tryz.prog 125 ⟨[treeV h]⟩ m L (Ret (.bool ((sg n).stmt a)) m L)
 block:TCall Tryz.prog 74 ⟨[treeV h]⟩ m L (Ret (.bool ((sg n).block a)) m L)
theorem sg_tellers : ∀(n:Nat) (a:Tree),a.deep≤n→a.wide≤140737488355328→∀(m:Mem) (L:List Item) (h:HTree),TreeRep m h a→SgT n a m L h
 | 0,a,hd,hB,m,L,h,hr=>by
  obtain⟨k,nm,u,ks⟩:=a;simp only[Tree.deep]at hd;omega
 | n+1,a,hd,hB,m,L,h,hr=>by
  have ih:∀ b∈a.kids,∀(m:Mem) (L:List Item) (h:HTree),TreeRep m h b→SgT n b m L h:=fun b hb m L h hr =>
   sg_tellers n b (by have:=deep_kid hb;omega) (bG ((dh hb)) hB) m L h hr
  have hE:IsPred 161 (sg n).expr a.kids:=⟨goes161,fun m L h b hb hr=>(ih b hb m L h hr).expr⟩
  have hS:IsPred 125 (sg n).stmt a.kids:=⟨goes125,fun m L h b hb hr=>(ih b hb m L h hr).stmt⟩
  have hK:IsPred 74 (sg n).block a.kids:=⟨goes74,fun m L h b hb hr=>(ih b hb m L h hr).block⟩
  exact⟨expr_teller _ a m L h hr hB hE hK,stmt_teller _ a m L h hr hB hE hK hS,block_teller _ a m L h hr hS⟩
theorem fieldT_teller (a:Tree) (m:Mem) (L:List Item) (h:HTree) (hr:TreeRep m h a) (hB:a.wide≤140737488355328) :
  TCall Tryz.prog 69 ⟨[treeV h]⟩ m L (Ret (.bool (fieldS Tree.isType a)) m L):=by
 have hT:IsPred 71 Tree.isType a.kids:=kidPred goes71 hB fun b m L h hr hB=>type_law b m L h hr hB;refine lD ?_;unfold TCall fieldS;refine ak Tryz.func69 10 ?_;refine ay (fun b=>?_);refine au goes68 (of_law _ _ h a hr hB 6) ?_;refine aE (fun h7=>?_) (fun h7=>?_)
 ·refine uL ?_;refine av (hs:=[71]) (l:=[71]) tab rFn ⟨rfl,trivial⟩ uH mw (fun s1 m1 hm1 hs1 _ _=>?_);refine uA ?_;refine au goes70 (di m1 _ h a (hr.mono hm1) s1 [(71,Tree.isType)] none hs1 (pr1 hT) po0) ?_;exact eH
 ·exact d7
theorem fieldG_teller (a:Tree) (m:Mem) (L:List Item) (h:HTree) (hr:TreeRep m h a) (hB:a.wide≤140737488355328) :
  TCall Tryz.prog 72 ⟨[treeV h]⟩ m L (Ret (.bool (fieldS Tree.isSig a)) m L):=by
 have hT:IsPred 73 Tree.isSig a.kids:=kidPred goes73 hB fun b m L h hr hB=>sig_law b m L h hr hB;refine lD ?_;unfold TCall fieldS;refine ak Tryz.func72 10 ?_;refine ay (fun b=>?_);refine au goes68 (of_law _ _ h a hr hB 6) ?_;refine aE (fun h7=>?_) (fun h7=>?_)
 ·refine uL ?_;refine av (hs:=[73]) (l:=[73]) tab rFn ⟨rfl,trivial⟩ uH mw (fun s1 m1 hm1 hs1 _ _=>?_);refine uA ?_;refine au goes70 (di m1 _ h a (hr.mono hm1) s1 [(73,Tree.isSig)] none hs1 (pr1 hT) po0) ?_;exact eH
 ·exact d7
theorem isParam_kid {a:Tree} (h:a.isParam=true):∃ k,a.kids=[k]∧k.isType=true:=by
 unfold Tree.isParam at h;simp only[bj,bw,bO]at h;obtain⟨h1,_,_,h2,h3⟩:=h
 match hk:a.kids with
 | []=>rw[hk]at h2;cases h2
 | [k]=>exact⟨k,rfl,h3 k nn⟩
 | _::_::_=>rw[hk]at h2;simp at h2
theorem isType_kid {a:Tree} (h:a.isType=true) (h11:a.kind=11):∃ k,a.kids=[k]:=by
 rw[isType_eq,if_neg mv,if_pos (.inl h11)]at h;simp only[bj,bw]at h
 match hk:a.kids with
 | []=>rw[hk]at h;simp at h
 | [k]=>exact⟨k,rfl⟩
 | _::_::_=>rw[hk]at h;simp at h
theorem recv_teller (a:Tree) (m:Mem) (L:List Item) (h:HTree) (hr:TreeRep m h a) (hB:a.wide≤140737488355328) :
  TCall Tryz.prog 75 ⟨[treeV h]⟩ m L (Ret (.bool (recvS a)) m L):=by
 have hr':=hr;obtain⟨h1,h2,h3,h4⟩:=hr;unfold TCall recvS;refine ak Tryz.func75 24 ?_;refine ay (fun b=>?_);refine au goes124 (param_law a _ _ h hr' hB) ?_;refine aE (fun h7=>?_) (fun h7=>?_)
 ·obtain⟨k0,hk0,ht0⟩:=isParam_kid h7;have e0:kid0 a=k0:=by unfold kid0;rw[hk0];rfl
  have hx:a.kids[0]? = some k0:=by rw[hk0];rfl
  rw[h7,e0];refine uL ?_;refine kZ ?_;rintro b' i hd hrd hA;obtain⟨g1,g2,g3,g4⟩:=rTree_iff.1 hrd;refine uL ?_;refine ah hA ?_;refine az (fun e1=>?_) (fun e1=>?_)
  ·obtain⟨k1,hk1⟩:=isType_kid ht0 (g1.symm.trans e1);have e2:kid0 k0=k1:=by unfold kid0;rw[hk1];rfl
   have hx1:k0.kids[0]? = some k1:=by rw[hk1];rfl
   rw[e2,bQ (g1.symm.trans e1)];refine uL ?_;refine kZ ?_;rintro b2 i2 hd2 hrd2 hA2;obtain⟨f1,f2,f3,f4⟩:=rTree_iff.1 hrd2;refine uL ?_;refine qs rfl (OT.loadA tab hA2 rfl rfl rfl rfl rfl ?_);refine uL ?_;refine ar tab rTree 0 f4 uH mD rfl hx1 ?_;rintro b3 i3 hd3 hrd3 hA3;obtain⟨d1,d2,d3,d4⟩:=rTree_iff.1 hrd3;refine uL ?_;refine ah hA3 ?_;refine jy ?_;rw[d1];rfl
  ·refine uA ?_;refine jy ?_;rw[bR (fun e=>e1 (g1.trans e))];rfl
 ·refine uA ?_;exact fB
theorem decl_teller (g:Sg) (a:Tree) (m:Mem) (L:List Item) (h:HTree) (hr:TreeRep m h a) (hB:a.wide≤140737488355328) (hK:IsPred 74 g.block a.kids) :
  TCall Tryz.prog 35 ⟨[treeV h]⟩ m L (Ret (.bool (declS g a)) m L):=by
 have hSg:IsPred 73 Tree.isSig a.kids:=kidPred goes73 hB fun b m L h hr hB=>sig_law b m L h hr hB;have hF1:IsPred 69 (fieldS Tree.isType) a.kids:=kidPred goes69 hB fun b m L h hr hB=>fieldT_teller b m L h hr hB;have hF2:IsPred 72 (fieldS Tree.isSig) a.kids:=kidPred goes72 hB fun b m L h hr hB=>fieldG_teller b m L h hr hB;have hR:IsPred 75 recvS a.kids:=kidPred goes75 hB fun b m L h hr hB=>recv_teller b m L h hr hB;have hr':=hr;obtain⟨h1,h2,h3,h4⟩:=hr;have hl:=h4.len;refine lD ?_;unfold declS TCall;refine cK Tryz.func35 rfl 49 rfl ?_;by_cases hk:a.kind=2
 ·skip;rw[if_pos hk];obtain⟨k,n,u,s⟩:=h;obtain rfl:k=2:=h1.trans hk;simp only at h2 h3 h4 hl;subst h2;subst h3;refine uA ?_;refine ay (fun b=>?_);refine au goes68 (of_law _ _ ⟨2,a.name,a.num,s⟩ a hr' hB 2) ?_;refine aE (fun h7=>?_) (fun h7=>?_)
  ·refine uL ?_;refine au goes34 (pall_law _ _ s a.kids h4 69 (fieldS Tree.isType) hF1) ?_;exact ek
  ·skip;exact d7
 rw[if_neg hk];have hk2:=hk;clear hk;by_cases hk:a.kind=3
 ·skip;rw[if_pos hk];obtain⟨k,n,u,s⟩:=h;obtain rfl:k=3:=h1.trans hk;simp only at h2 h3 h4 hl;subst h2;subst h3;refine uA ?_;refine ay (fun b=>?_);refine au goes68 (of_law _ _ ⟨3,a.name,a.num,s⟩ a hr' hB 3) ?_;refine aE (fun h7=>?_) (fun h7=>?_)
  ·refine uL ?_;refine au goes34 (pall_law _ _ s a.kids h4 72 (fieldS Tree.isSig) hF2) ?_;exact ek
  ·skip;exact d7
 rw[if_neg hk];have hk3:=hk;clear hk;by_cases hk:a.kind=4
 ·skip;rw[if_pos hk];obtain⟨k,n,u,s⟩:=h;obtain rfl:k=4:=h1.trans hk;simp only at h2 h3 h4 hl;subst h2;subst h3;refine uA ?_;refine ay (fun b=>?_);refine au goes68 (of_law _ _ ⟨4,a.name,a.num,s⟩ a hr' hB 4) ?_;refine aE (fun h7=>?_) (fun h7=>?_)
  ·refine uL ?_;refine av (hs:=[73,74]) (l:=[73,74]) tab rFn ⟨rfl,rfl,trivial⟩ uH mw (fun s1 m1 hm1 hs1 _ _=>?_);refine uA ?_;refine au goes70 (di m1 _ ⟨4,a.name,a.num,s⟩ a (hr'.mono hm1) s1 [(73,Tree.isSig),(74,g.block)] none hs1 (pr2 hSg hK) po0) ?_;exact eH
  ·skip;exact d7
 rw[if_neg hk];have hk4:=hk;clear hk;by_cases hk:a.kind=5
 ·skip;rw[if_pos hk];obtain⟨k,n,u,s⟩:=h;obtain rfl:k=5:=h1.trans hk;simp only at h2 h3 h4 hl;subst h2;subst h3;refine uA ?_;refine ay (fun b=>?_);refine au goes68 (of_law _ _ ⟨5,a.name,a.num,s⟩ a hr' hB 5) ?_;refine aE (fun h7=>?_) (fun h7=>?_)
  ·refine uL ?_;refine av (hs:=[75,73,74]) (l:=[75,73,74]) tab rFn ⟨rfl,rfl,rfl,trivial⟩ uH mw (fun s1 m1 hm1 hs1 _ _=>?_);refine uA ?_;refine au goes70 (di m1 _ ⟨5,a.name,a.num,s⟩ a (hr'.mono hm1) s1 [(75,recvS),(73,Tree.isSig),(74,g.block)] none hs1 (pr3 hR hSg hK) po0) ?_;exact eH
  ·skip;exact d7
 rw[if_neg hk];refine uA ?_;refine ay (fun b=>?_);exact eF
theorem sound_law (a:Tree) (m:Mem) (L:List Item) (h:HTree) (hr:TreeRep m h a) (hB:a.wide≤140737488355328) :
  TCall Tryz.prog 16 ⟨[treeV h]⟩ m L (Ret (.bool (soundB a)) m L):=by
 have hr':=hr;obtain⟨h1,h2,h3,h4⟩:=hr;unfold TCall;refine ak Tryz.func16 18 ?_;refine oB (fun b=>?_);refine uA ?_;refine aC tab (fun b3=>?_);refine jx ?_;refine qs rfl (OT.loadL0 tab 1 rfl rfl rfl rfl rfl rfl ?_);refine uA ?_;refine oC goes31 ((fits_law a m _ h b3 1 20000 hr' mw mw mw mw).x ?_);rintro _ _ _ ⟨rfl,⟨rfl,k1,k2,rfl⟩ | ⟨rfl,k1,n,rfl⟩⟩
 ·have e1:(decide (a.size≤20000)&&decide (a.deep≤100))=true:=by rw[bQ mv,bQ mv];rfl
  unfold soundB;rw[e1,bP,←h1];have hD:IsPred 35 (declS (sg 100)) a.kids:=by
   refine⟨goes35,fun m L x c hc hrc=>?_⟩;have hBc:=bG ((dh hc)) hB;refine decl_teller _ c m L x hrc hBc ⟨goes74,fun m L y d hd hrd=>?_⟩;exact(sg_tellers 100 d (by have:=deep_kid hc;have:=deep_kid hd;omega) (bG ((dh hd)) hBc) m L y hrd).block
  refine uA ?_;refine qs rfl (OT.loadL0 tab 1 rfl rfl rfl rfl rfl rfl ?_);refine uL ?_;refine au goes33 (bare_law _ _ h a hr' (decide (h.kind=1)) false false) ?_;refine aE (fun h7=>?_) (fun h7=>?_)
  ·refine uL ?_;refine au goes34 (pall_law _ _ h.kids a.kids h4 35 (declS (sg 100)) hD) ?_;exact fB
  ·refine uA ?_;exact fB
 ·have e1:(decide (a.size≤20000)&&decide (a.deep≤100))=false:=by
   rw[←Bool.decide_and,bR (fun hh=>k1 ⟨by omega,by omega⟩)]
  unfold soundB;rw[e1];exact eS
end Go.Sep
namespace Go.Pt
open Go.Sep Go.Ps
structure PR (N n:Nat) (h:Bool) (a:Tree):Prop where
 ex:∃(lp ls:List Tk) (b:Tree) (m:Nat),toks a=lp++ls∧m<a.size∧Rd (primP N (gr N n).typ (gr N n).block ((gr N n).expr false) h) lp b (fP h)∧(∀ o,hS LE (hd lp o)=true) ∧
  (∀(j:Nat) (f:F) (k:Nat),seg f k ls→postP N ((gr N n).expr false) (j+m) b f k=postP N ((gr N n).expr false) j a f (k+ls.length))∧∀ o,fP h o=true→fP h (hd ls o)=true
section
variable {N:Nat}
theorem PR.hd {n:Nat} {h:Bool} {a:Tree} (hp:PR N n h a) (o:Option Tk):hS LE (hd (toks a) o)=true:=by
 obtain⟨lp,ls,b,m,h1,h2,h3,h4,h5,h6⟩:=hp.ex;rw[h1,hd_app2];exact h4 _
structure RT (N:Nat) (a:Tree):Prop where
 block:lim.block a=true→∀ n,4*a.deep≤n→Rd (gr N n).block (toks a) a yes
 stmt:lim.stmt a=true→∀ n,4*a.deep+1≤n→Rd (gr N n).stmt (toks a) a fS
 branch:lim.stmt a=true→a.kind=25→∀ n,4*a.deep≤n→Rd (gr N n).branch (toks a) a fS
 post:lim.expr a=true→∀ h n,4*a.deep≤n+1→PR N n h a
 hdS:lim.stmt a=true→∀ o,hS LS (hd (toks a) o)=true
section
variable {k0:Int} {n0:Str} {u0:Int} {ks:List Tree} (ih:∀ k∈ks,k.size≤N→RT N k) (hN:(Tree.mk k0 n0 u0 ks).size≤N)
include ih hN
end
end
end Go.Pt
namespace Go.Pt
open Go.Sep Go.Ps
section
variable {N:Nat} {n0:Str} {u0:Int} {ks:List Tree}
theorem kids1 {p:Tree→Bool} {l:List Tree} (h:kidsR [p] none l=true):∃ x,l=[x]∧p x=true:=by
 match l,h with
 | [],h=>cases h
 | [x],h=>exact⟨x,rfl,by simpa[kidsR]using h⟩
 | x::y::l,h=>simp[kidsR]at h
theorem kids2 {p q:Tree→Bool} {l:List Tree} (h:kidsR [p,q] none l=true):∃ x y,l=[x,y]∧p x=true∧q y=true:=by
 match l,h with
 | [],h=>cases h
 | [x],h=>simp[kidsR]at h
 | [x,y],h=>exact⟨x,y,rfl,by simpa[kidsR]using h⟩
 | x::y::z::l,h=>simp[kidsR]at h
theorem kids3 {p q r:Tree→Bool} {l:List Tree} (h:kidsR [p,q,r] none l=true):∃ x y z,l=[x,y,z]∧p x=true∧q y=true∧r z=true:=by
 match l,h with
 | [],h=>cases h
 | [x],h=>simp[kidsR]at h
 | [x,y],h=>simp[kidsR]at h
 | [x,y,z],h=>exact⟨x,y,z,rfl,by simpa[kidsR]using h⟩
 | x::y::z::w::l,h=>simp[kidsR]at h
end
end Go.Pt
namespace Go.Pt
open Go.Sep Go.Ps
theorem headS_n {a:Tree} {k:Int} (h:a.kind=k) (h1:k≠21∧k≠22∧k≠23):headS a=(decide (a.name=[])&&decide (a.num=0)):=by
 unfold headS;rw[h,bR h1.1,bR h1.2.1,bR h1.2.2];rfl
theorem stmtS_head (g:Sg) (a:Tree):stmtS g a=(headS a&&(if a.kind=20 then blockS g a
 else if a.kind=21 then isName a.name&&(kidsR [Tree.isType] none a.kids||kidsR [Tree.isType,g.expr] none a.kids)
 else if a.kind=22 then asgS g (nmS g) a
 else if a.kind=23 then asgS g (plS g) a
 else if a.kind=24 then kidsR [callS g] none a.kids
 else if a.kind=25 then kidsR [g.expr,g.block] none a.kids||kidsR [g.expr,g.block,otherS g] none a.kids
 else if a.kind=26 then kidsR [g.block] none a.kids||kidsR [g.expr,g.block] none a.kids
 else if a.kind=27 then a.kids.all g.expr
 else if a.kind=28∨a.kind=29 then kidsR [] none a.kids
 else false)):=by
 unfold stmtS;cases headS a<;>simp
section
variable {N:Nat}
end
end Go.Pt
namespace Go.Sep
open Go.Proofs Go.Ck
attribute [local irreducible] TC TO OT TCallX TCall DO DOt thenQ blockQ retQ At
theorem kind_of_block {a:Tree} (h:lim.block a=true):a.kind=20∧a.kids.all lim.stmt=true:=by
 rw[(lim_fix a).2.2]at h;unfold blockS bareB at h;simp only[bj,bw]at h;exact⟨h.1.1,h.2⟩
theorem block_stmt {a:Tree} (h:lim.block a=true):lim.stmt a=true:=by
 have h2:=h;rw[(lim_fix a).2.2]at h2;have hk:=(kind_of_block h).1;unfold blockS bareB at h2;simp only[bj,bw,bE]at h2;rw[(lim_fix a).2.1,Pt.stmtS_head,Pt.headS_n (k:=20) hk ⟨by decide,by decide,by decide⟩,if_pos hk];have e:blockS lim a=true:=by rw[←(lim_fix a).2.2];exact h
 rw[e];simp only[bj,bw];exact⟨⟨h2.1.2.1.resolve_left mx,h2.1.2.2.resolve_left mx⟩,trivial⟩
theorem breaks_law : ∀(f:Nat) (a:Tree),a.deep≤f→∀(m:Mem) (L:List Item) (h:HTree),TreeRep m h a→TCall Tryz.prog 53 ⟨[treeV h]⟩ m L (Ret (.bool (breaksD f a)) m L)
 | 0,a,hd,m,L,h,hr=>by
  exact jp
 | f+1,a,hd,m,L,h,hr=>by
  obtain⟨h1,h2,h3,h4⟩:=hr;have ih:∀ k∈a.kids,∀(m:Mem) (L:List Item) (h:HTree),TreeRep m h k→TCall Tryz.prog 53 ⟨[treeV h]⟩ m L (Ret (.bool (breaksD f k)) m L):=fun k hk=>breaks_law f k nw;unfold TCall;refine cK Tryz.func53 rfl 13 rfl ?_;rw[breaksD,←h1];refine uA ?_;refine ay (fun b1=>?_);refine am (fun e1=>?_) (fun e1=>?_)
  ·refine uA ?_;exact fZ
  refine uA ?_;refine am (fun e2=>?_) (fun e2=>?_)
  ·refine uA ?_;refine am (fun _=>?_) (fun h=>absurd e2 h);refine uL ?_;refine lq ?_;rw[bR e1,bQ e2];rfl
  refine uA ?_;refine am (fun e3=>?_) (fun e3=>?_)
  ·refine uL ?_;refine lq ?_;rw[bR e1,bR e2,bQ e3];rfl
  ·refine uA ?_;exact jn
theorem ends_law : ∀(f:Nat) (a:Tree),a.deep≤f→lim.stmt a=true→∀(m:Mem) (L:List Item) (h:HTree),TreeRep m h a→TCall Tryz.prog 25 ⟨[treeV h]⟩ m L (Ret (.bool (endsD f a)) m L)
 | 0,a,hd,hst,m,L,h,hr=>by
  exact jp
 | f+1,a,hd,hst,m,L,h,hr=>by
  obtain⟨h1,h2,h3,h4⟩:=hr;have hlen:=h4.len;have hsm:=h4.small rfl;have ih:∀ k∈a.kids,lim.stmt k=true→∀(m:Mem) (L:List Item) (h:HTree),TreeRep m h k→TCall Tryz.prog 25 ⟨[treeV h]⟩ m L (Ret (.bool (endsD f k)) m L):=fun k hk=>ends_law f k nw;have hs2:=hst;rw[(lim_fix a).2.1,Pt.stmtS_head,bj]at hs2;obtain⟨-,hs2⟩:=hs2;unfold TCall;refine cK Tryz.func25 rfl 76 rfl ?_;rw[endsD,←h1];refine uA ?_;refine ay (fun b1=>?_);refine am (fun e1=>?_) (fun e1=>?_)
  ·have hall:a.kids.all lim.stmt=true:=by
    rw[if_pos mv]at hs2;unfold blockS at hs2;rw[bj]at hs2;exact hs2.2
   rw[if_pos e1];refine uL ?_;refine az (fun e2=>?_) (fun e2=>?_)
   ·have hpos:0<a.kids.length:=mv;have hx:a.kids[a.kids.length-1]? = some (a.kids[a.kids.length-1]'mv):=mx;have hgl:a.kids.getLast? = some (a.kids[a.kids.length-1]'mv):=by rw[List.getLast?_eq_getElem?];exact hx
    refine uL ?_;refine aQ (r':=((a.kids.length-1:Nat):Int)) uH mv mv ?_;refine ar tab rTree (a.kids.length-1) h4 uH mD rfl hx ?_;rintro b' i' h' hrd hA;refine jV ?_;refine oR goes25 (ih _ (bL mv) (List.all_eq_true.1 hall _ (bL mv)) _ _ h' (rTree_iff.1 hrd)) ?_;refine jT ?_;rw[hgl]
   ·have hz:a.kids=[]:=List.length_eq_zero_iff.1 mv;refine jT ?_;rw[hz];rfl
  rw[if_neg e1];refine uA ?_;refine am (fun e2=>?_) (fun e2=>?_)
  ·rw[if_pos e2];exact eS
  rw[if_neg e2];refine uA ?_;refine am (fun e3=>?_) (fun e3=>?_)
  ·rw[if_pos e3];rw[if_neg mv,if_neg mv,if_neg mv,if_neg mv,if_pos mv]at hs2;obtain⟨y,hy,hcy⟩:=Pt.kids1 hs2;unfold callS at hcy;rw[bj,bw,(lim_fix y).1]at hcy;obtain⟨hy51,hcy⟩:=hcy;have hyk:∃ z zs,y.kids=z::zs:=by
    unfold exprS at hcy;rw[hy51]at hcy;simp only[if_false,if_true,bj,show ¬(51:Int)=40 by decide,show ¬(51:Int)=41 by decide,show ¬(51:Int)=42 by decide,show ¬(51:Int)=43 by decide,show ¬(51:Int)=44 by decide,show ¬(51:Int)=45 by decide,show ¬(51:Int)=46 by decide,show ¬(51:Int)=47 by decide,show ¬(51:Int)=48 by decide,show ¬(51:Int)=49 by decide,show ¬(51:Int)=50 by decide]at hcy
    match hq:y.kids,hcy.2 with
    | z::zs,_=>exact⟨z,zs,rfl⟩
   obtain⟨z,zs,hz⟩:=hyk;rw[hy]at h4;have hkk:kid (kid a 0) 0=z:=by unfold kid;rw[hy];show(y.kids[0]?).getD _=z;rw[hz];rfl
   rw[hkk];refine mm ?_;rintro b' i' h' hrd hA;have hr5:=(rTree_iff.1 hrd).kids;rw[hz]at hr5;refine uA ?_;refine ah (k:=3) hA ?_;refine aA tab rTree 0 hr5 uH mD uH ?_;rintro b6 i6 h6 hrd6 hA6;have hr6:=rTree_iff.1 hrd6;refine ap tab hA6 ?_;refine aC tab (fun b3=>?_);refine jK ?_;rw[←hr6.kind,←hr6.name];refine az (fun e4=>?_) (fun e4=>?_)
   ·refine uL ?_;refine jy ?_;rw[bQ e4];rfl
   ·refine uA ?_;refine jy ?_;rw[bR e4];rfl
  rw[if_neg e3];refine uA ?_;refine am (fun e4=>?_) (fun e4=>?_)
  ·rw[if_pos e4];rw[if_neg mv,if_neg mv,if_neg mv,if_neg mv,if_neg mv,if_pos mv,bE]at hs2;refine uL ?_;rcases hs2 with hs2 | hs2
   ·obtain⟨y,z,hy,hy1,hz1⟩:=Pt.kids2 hs2;rw[hy]at hlen;simp only[a7,a8]at hlen;refine az (fun e5=>?_) (fun e5=>?_)
    ·exfalso;omega
    ·refine uA ?_;refine jy ?_;rw[hy];rfl
   ·obtain⟨y,z,u,hy,hy1,hz1,hu1⟩:=Pt.kids3 hs2;rw[hy]at hlen h4 ih;simp only[a7,a8]at hlen;have hk1:kid a 1=z:=nE;have hk2:kid a 2=u:=nE;rw[hk1,hk2,hy];have hus:lim.stmt u=true:=by
     unfold otherS at hu1;rw[bE,bj]at hu1;rcases hu1 with hu1 | hu1
     ·exact block_stmt hu1
     ·exact hu1.2
    refine az (fun e5=>?_) (fun e5=>?_)
    ·refine uL ?_;refine aA tab rTree 1 h4 uH mD uH ?_;rintro b' i' h' hrd hA;refine jV ?_;refine oR goes25 (ih z mx (block_stmt hz1) _ _ h' (rTree_iff.1 hrd)) ?_;refine uA ?_;refine aE (b:=endsD f z) (fun e6=>?_) (fun e6=>?_)
     ·refine uL ?_;refine aA tab rTree 2 h4 uH mD uH ?_;rintro b6 i6 h6 hrd6 hA6;refine ap tab hA6 ?_;refine oR goes25 (ih u mx hus _ _ h6 (rTree_iff.1 hrd6)) ?_;exact jq
     ·exact jq
    ·exfalso;omega
  rw[if_neg e4];refine uA ?_;refine am (fun e5=>?_) (fun e5=>?_)
  ·rw[if_pos e5];refine uL ?_;refine az (fun e6=>?_) (fun e6=>?_)
   ·have hl1:a.kids.length=1:=mv;obtain⟨y,hy⟩:=List.length_eq_one_iff.1 hl1;have hdy:=dj (a:=a) (t:=y) nM;rw[hy]at h4;have hk0:kid a 0=y:=nE;rw[hk0,bQ hl1,bP];refine mm ?_;rintro b' i' h' hrd hA;refine jV ?_;refine oR goes53 (breaks_law f y mv _ _ h' (rTree_iff.1 hrd)) ?_;exact eS
   ·refine uA ?_;refine jy ?_;rw[bR (show ¬a.kids.length=1 by omega)];rfl
  rw[if_neg e5];exact eS
end Go.Sep
namespace Go.Sep
open Go.Proofs Go.Ck
attribute [local irreducible] TC TO OT TCallX TCall DO DOt thenQ blockQ retQ At
def madeE (a:Tree):Tree:=.mk 1 [] 0 [.mk 4 [102] 0 [.mk 7 [] 0 [],a]]
def endsO (a:Tree):Bool:=soundB (madeE a)&&endsD 200 a
theorem made_block {a:Tree} (h:soundB (madeE a)=true):lim.block a=true∧a.deep≤98:=by
 unfold soundB at h;rw[bj,bj,bj]at h;have hd:(madeE a).deep≤100:=of_decide_eq_true h.1.2;have hd2:a.deep≤98:=by
  unfold madeE Tree.deep deepL Tree.deep deepL at hd;simp only[deepL]at hd;omega
 have hk:=List.all_eq_true.1 h.2.2 (.mk 4 [102] 0 [.mk 7 [] 0 [],a]) (by unfold madeE;simp[Tree.kids]);unfold declS at hk;rw[if_neg (show ¬(Tree.mk 4 [102] 0 [.mk 7 [] 0 [],a]).kind=2 by simp[Tree.kind]),if_neg (show ¬(Tree.mk 4 [102] 0 [.mk 7 [] 0 [],a]).kind=3 by simp[Tree.kind]),if_pos (show(Tree.mk 4 [102] 0 [.mk 7 [] 0 [],a]).kind=4 from rfl),bj]at hk;have h2:((Tree.mk 7 [] 0 []).isSig&&((sg 100).block a&&true))=true:=hk.2;simp only[bj]at h2;rw[(sg_lim 100 a mv).2.2]at h2;exact⟨h2.2.1,hd2⟩
theorem block_made {a:Tree} (h:lim.block a=true) (h1:a.size+3≤20000) (h2:a.deep+2≤100):soundB (madeE a)=true:=by
 unfold soundB;have e1:(madeE a).size=a.size+3:=by
  unfold madeE;simp only[Tree.size,sizeL];omega
 have e2:(madeE a).deep≤100:=by
  unfold madeE;simp only[Tree.deep,deepL];omega
 rw[e1,bQ h1,bQ e2];have e3:(madeE a).kids.all (declS (sg 100))=declS (sg 100) (.mk 4 [102] 0 [.mk 7 [] 0 [],a]):=by unfold madeE;simp[Tree.kids]
 rw[e3];unfold declS;rw[if_neg (show ¬(Tree.mk 4 [102] 0 [.mk 7 [] 0 [],a]).kind=2 by simp[Tree.kind]),if_neg (show ¬(Tree.mk 4 [102] 0 [.mk 7 [] 0 [],a]).kind=3 by simp[Tree.kind]),if_pos (show(Tree.mk 4 [102] 0 [.mk 7 [] 0 [],a]).kind=4 from rfl)];have e4:kidsR [Tree.isSig,(sg 100).block] none (Tree.mk 4 [102] 0 [.mk 7 [] 0 [],a]).kids=((Tree.mk 7 [] 0 []).isSig&&((sg 100).block a&&true)):=rfl;have e5:bareB (madeE a) (decide ((madeE a).kind=1)) false false=true:=by unfold bareB madeE;simp[Tree.kind,Tree.name,Tree.num]
 have e6:ofB (Tree.mk 4 [102] 0 [.mk 7 [] 0 [],a]) 4=true:=by
  have e7:isName [102]=true:=nN;unfold ofB;simp only[Tree.kind,Tree.name,Tree.num,e7];rfl
 have e8:(Tree.mk 7 [] 0 []).isSig=true:=nN;rw[e4,(sg_lim 100 a mv).2.2,h,e5,e6,e8];rfl
theorem Ends_law (a:Tree) (m:Mem) (L:List Item) (h:HTree) (hr:TreeRep m h a) (hB:a.wide≤140737488355328):TCall Tryz.prog 12 ⟨[treeV h]⟩ m L (Made m L fun r m'=>r = .bool (endsO a)):=by
 unfold TCall;refine ak Tryz.func12 16 ?_;refine ay (fun b1=>?_);refine av (hs:=[⟨7,[],0,⟨none,0,0⟩⟩,h]) (l:=[.mk 7 [] 0 [],a]) tab rTree ⟨rTree_iff.2 (dk _ _ _ _),rTree_iff.2 hr,trivial⟩ uH mw (fun sA m1 hm1 hsA _ _=>?_);have hr1:TreeRep m1 ⟨4,[102],0,sA⟩ (.mk 4 [102] 0 [.mk 7 [] 0 [],a]):=⟨rfl,rfl,rfl,hsA⟩
 refine uA ?_;refine aC tab (fun b3=>?_);refine jK ?_;refine av (hs:=[⟨4,[102],0,sA⟩]) (l:=[.mk 4 [102] 0 [.mk 7 [] 0 [],a]]) tab rTree ⟨rTree_iff.2 hr1,trivial⟩ uH mw (fun sB m2 hm2 hsB _ _=>?_);have hr2:TreeRep m2 ⟨1,[],0,sB⟩ (madeE a):=⟨rfl,rfl,rfl,hsB⟩
 have hw:(madeE a).wide≤140737488355328:=by
  unfold madeE;simp only[Tree.wide,wideL,a7,a8];omega
 refine uA ?_;refine oR goes16 (sound_law (madeE a) _ _ _ hr2 hw) ?_;unfold endsO;refine uA ?_;refine aE (b:=soundB (madeE a)) (fun e1=>?_) (fun e1=>?_)
 ·obtain⟨hbl,hdp⟩:=made_block e1;refine uL ?_;refine oR goes25 (ends_law 200 a mv (block_stmt hbl) _ _ h (hr.mono (cD hm1 hm2))) ?_;exact iZ
 ·exact iZ
end Go.Sep
namespace Go.Sep
open Go.Proofs Go.Ck
theorem At.pre {m:Mem} {b o:Nat} {xs ys:List Value} (h:At m b o (xs++ys)):At m b o xs:=fun j v hj=>h j v (by rw[bz (List.getElem?_eq_some_iff.1 hj).1];exact hj)
theorem be1 {α:Type} {c p t k o cf:α} {X Y L V V' T:List α} (hT:T.Perm (c::p::t::(X++(Y++(cf::(V++L)))))) (hV:V'.Perm V):(k::o::T).Perm (k::p::t::((o::(V'++X))++(Y++(c::cf::L)))):=(by classical exact List.perm_iff_count.2 (fun pa=>by have pz0:=List.Perm.count_eq hT pa;have pz1:=List.Perm.count_eq hV pa;simp only[List.count_append,List.count_cons]at pz0 pz1 ⊢;omega))
theorem Bun.enter {E:CE} {F:CF} {sc:List GS} {w q:Nat} {m:Mem} {T L:List Item} {f:Nat} {u:Value} {l:List GV} (h:Bun E F sc w q m T (.cells f 7 [u]::(l.map flagI++L))) {es:Ents Str} (hes:MapV es l.reverse) (c' sb mb cc:Nat) :
  Bun E { F with c:=c' } (⟨sb,mb,l.reverse⟩::sc) 0 q m (.cells c' 3 [ptr sb,.int .i64 0]::.obj mb (mapO kStr es cc)::T) (.cells F.c 3 [scP sc,.int .i64 (w:Int)]::.cells f 7 [u]::L):=by
 obtain⟨fs,fl,X,Y,h1,h2,h3,h4,h5,h6⟩:=h;exact⟨fs,fl,.obj mb (mapO kStr es cc)::(l.reverse.map flagI++X),Y,h1,h2,h3,⟨es,cc,X,hes,h4,rfl⟩,h5,be1 h6 ((List.reverse_perm l).map flagI)⟩
theorem be2 {α:Type} {c p t k o:α} {X Y L V T:List α} (hT:T.Perm (k::p::t::((o::(V++X))++(Y++(c::L))))):T.Perm ((k::o::V)++(c::p::t::(X++(Y++L)))):=(by classical exact List.perm_iff_count.2 (fun pa=>by have pz0:=List.Perm.count_eq hT pa;simp only[List.count_append,List.count_cons]at pz0 ⊢;omega))
theorem Bun.leave {E:CE} {F:CF} {s:GS} {sc:List GS} {w w' q c':Nat} {m:Mem} {T L:List Item} (h:Bun E { F with c:=c' } (s::sc) w' q m T (.cells F.c 3 [scP sc,.int .i64 (w:Int)]::L)) :
  ∃ M T2,T.Perm (M++T2)∧Bun E F sc w q m T2 L:=by
 obtain⟨fs,fl,X,Y,h1,h2,h3,⟨es,c,X2,h7,h8,rfl⟩,h5,h6⟩:=h;exact⟨_,_,be2 h6,fs,fl,X2,Y,h1,h2,h3,h8,h5,a9 _⟩
theorem pbC {α:Type} {b f:α} {T T3:List α} (h:T.Perm ([f]++T3)):(b::T).Perm (f::b::T3):=(h.cons b).trans (ba _ _ _)
theorem pbD {α:Type} {b f:α} {M T3 T4:List α} (h:T3.Perm (M++T4)):(f::b::T3).Perm (b::((f::M)++T4)):=(ba _ _ _).trans ((h.cons f).cons b)
theorem fn_chain (F:CF):F.fn∈F.chain:=by
 unfold CF.fn CF.chain;cases F.lits<;>simp
theorem all2_vars {m:Mem}:∀ {hs:List Nat} {l:List GV},All2 (rGV.rep m) hs l→∀ v∈l,VarAt m v
 | [],[],_,v,hv=>by cases hv
 | h::hs,a::l,hr,v,hv=>by
  rcases List.mem_cons.1 hv with rfl | hv
  ·exact hr.1.2
  ·exact all2_vars hr.2 v hv
theorem SlRep.vars {m:Mem} {s:Sl} {l:List GV} (h:SlRep rGV m s l):∀ v∈l,VarAt m v:=by
 obtain⟨hs,h1,-⟩:=h.cells;exact all2_vars h1
attribute [local irreducible] TC TO OT TCallX TCall DO DOt thenQ blockQ retQ At
def StOk (E:CE) (st:List Tree→Nat→Sc→Tree→Option Sc) (n:Tree):Prop:=∀(F:CF) (s:GS) (r:List GS) (w:Nat) (m:Mem) (h:HTree),TreeRep m h n→CkOk E F (s::r) m→w+n.deep≤200 →
 KtS Tryz.prog 120 [ptr F.c,treeV h] E F s r w (cst n) m (st (F.ft.kids.drop F.ft.num.toNat) w (plain (s::r)) n) (fun m v=>∃ b,v=ptr b)
theorem pbA {α:Type} {b c s k o:α} {L:List α}:([b,c]++(k::s::o::L)).Perm (s::k::o::b::c::L):=mF
theorem pbB {α:Type} {b c k o:α} {L:List α}:(k::o::b::c::L).Perm (b::k::o::c::L):=mJ
theorem body_ck {E:CE} {F:CF} {sc:List GS} {w:Nat} {lv:Lv} {m:Mem} (hE:E.Tbl m) (hfm:m.o E.fm=some (mapO kStr E.fes E.fcc)) (hfns:FnsAt m E.fes E.fns) (hc:At m F.c 0 [ptr E.p,.map (some E.fm)]) (hch:ChainAt m F.chain) (hsc:ScAt m F.chain sc)
  {ht:HTree} (hht:TreeRep m ht F.ft) (htg:tg F.ft=true) (ht7:F.ft.kind=7) {ps:Sl} {l:List GV} (hps:SlRep rGV m ps l) (hpo:∀ v∈l,v.own=F.fn∧tg v.type=true) (hfA:At m F.fn 2 [.int .i64 ht.kind,strV ht.name,.int .i64 ht.num,ht.kids.v,ps.v])
  {n:Tree} {h:HTree} (hr:TreeRep m h n) (hst:StOk E lv.st n) (hbl:lim.block n=true) (hsz:n.size+3≤20000) (hdp:n.deep+2≤100) (hw:n.wide≤140737488355328) {u:Value} (T L:List Item) (q:Nat)
  (hB:Bun E F sc w (q+cst n) m T (.cells F.fn 7 [u]::(l.map flagI++L))) :
  TCallX Tryz.prog 65 ⟨[ptr F.c,ptr F.fn,treeV h]⟩ m T (fun v m' T'=>∃ a,bodyC lv F.ft (l.map GV.pair).reverse (plain sc) n=some a∧m≤m'∧Bun E F sc w q m' T' L) (kX (bodyC lv F.ft (l.map GV.pair).reverse (plain sc) n) m L):=by
 refine cK Tryz.func65 rfl 67 rfl ?_;generalize hZ:bodyC lv F.ft (l.map GV.pair).reverse (plain sc) n=Z;unfold bodyC at hZ;replace hZ:=hZ.symm;obtain⟨T1,hT1,hT1b⟩:=hB.head;replace hB:=hT1b w _ m (cC _) (bF _);refine aI hT1 ?_;refine oB (fun b5=>?_);refine uA ?_;refine aL [] df 19 [.cells b5 0 (treeC h),.cells F.c 3 [scP sc,.int .i64 (w:Int)]] T1 (a9 _) ?_;refine cV tab uC uK [0,1,2,4,5,6,8,10,11,12] uK rfl ?_;refine ai (k:=0) 3 hc ?_;refine ai (k:=1) 7 hc ?_;refine ae (k:=0) 13 1 ?_;refine af 9 ?_;refine OT.makeMap kStr rfl rfl rfl (fun mb=>?_);refine lC ?_;refine cV tab uC uK [14] uK rfl ?_;refine af 15 ?_;refine OT.box rfl rfl rfl rfl rfl (fun sb=>?_);refine lC ?_;refine cV tab uC uK [16] uK rfl ?_;refine af 17 ?_;refine OT.box rfl rfl rfl rfl rfl (fun c'=>?_);refine lC ?_;refine cV tab uC uK [18] uK rfl ?_;refine aV ?_;refine cF ?_;refine TC.perm pbA ?_;refine TC.freeze fun m1 hm1 hAs=>?_;refine TC.splitC (b:=c') [ptr E.p,.map (some E.fm),ptr F.fn] [ptr sb,.int .i64 0] ?_;refine TC.freeze fun m2 hm2 hAc=>?_;refine TC.perm pbB ?_;have hm:m≤m2:=cD hm1 hm2;replace hAs:=hAs.mono hm2;replace hps:=hps.mono hm;have hpl:=hps.len;have hpsm:=hps.small rfl;have hfA2:=hfA.mono hm;refine uA ?_;refine qs rfl (OT.loadA (k:=4) tab hfA2 rfl rfl rfl rfl rfl ?_);refine jS ?_;refine cH (ι:=Nat×Ents Str×Nat) [0,1,5,6,30,31] rfl (fun y=>[(32,.int .i64 (y.1:Int))]) (fun _=>m2) (fun y=>.cells b5 0 (treeC h)::.cells c' 3 [ptr sb,.int .i64 0]::.obj mb (mapO kStr y.2.1 y.2.2)::.cells F.c 3 [scP sc,.int .i64 (w:Int)]::T1) (fun y=>y.1≤l.length∧MapV y.2.1 (l.take y.1).reverse) (fun y=>l.length-y.1) (0,[],0) uH rfl uS ⟨cn _,fun n=>rfl⟩ ?_;rintro⟨i,es,cc⟩ ⟨hi,hes⟩;simp only at hi hes;refine uA ?_;refine am (fun hlt=>?_) (fun hlt=>?_)
 ·have hlt':i<l.length:=mv;have hx:l[i]? = some l[i]:=mL;refine uA ?_;refine ar tab rGV i hps uH mD rfl hx ?_;rintro b' i' hv hrdv hAv;obtain⟨rfl,hrv⟩:=(show hv=l[i].b∧VarAt m2 l[i] from hrdv)
  obtain⟨_,-,hvA⟩:=hrv;refine ap tab hAv ?_;refine TC.draw [12] df 13 rfl [.cells b5 0 (treeC h),.cells c' 3 [ptr sb,.int .i64 0]] (.obj mb (mapO kStr es cc)::.cells F.c 3 [scP sc,.int .i64 (w:Int)]::T1) uP ?_;refine kc ?_;refine ae (k:=0) 3 1 ?_;refine lW ?_;refine ai 6 hAs ?_;refine cV tab uC uK [7,8,9] uK rfl ?_;refine ai 10 hvA ?_;refine mc ?_;refine cW ?_;refine aB 12 ?_;refine OT.mapSet tab kStr 2 l[i].name rfl rfl rfl rfl rfl rfl rfl ?_;refine aH ?_
  rotate_left 1
  refine kh ?_;exact⟨(i+1,mset es l[i].name (ptr l[i].b) cc,mclock es l[i].name cc),uH,uH,rfl,rfl,uS,⟨by omega,fun n=>by
   rw[mget_mset,cq hlt',List.reverse_append];show _=(getV (l[i]::(l.take i).reverse) n).map _;unfold getV;rw[List.find?_cons];by_cases hxn:l[i].name=n
   ·rw[if_pos hxn,bQ hxn];rfl
   ·rw[if_neg hxn,bR hxn];exact hes n⟩,by simp only;omega⟩
 ·have hi':i=l.length:=mv;subst hi';rw[List.take_length]at hes;have hB2:=(hB.enter hes c' sb mb cc).mono hm (bF _);have hpo2:∀ v∈l,VarAt m2 v:=hps.vars;have hC2:CkOk E { F with c:=c' } (⟨sb,mb,l.reverse⟩::sc) m2:=⟨hE.mono hm,hm.o _ _ hfm,hfns.mono hm,hAc,hch.mono hm,⟨ht,hht.mono hm,hfA2.pre (xs:=treeC ht) (ys:=[ps.v])⟩,⟨htg,ht7⟩,⟨hAs,fun v hv=>⟨hpo2 v (List.mem_reverse.1 hv),by rw[(hpo v (List.mem_reverse.1 hv)).1];exact fn_chain F,(hpo v (List.mem_reverse.1 hv)).2⟩,hsc.mono hm⟩⟩
  have hnm:plain (⟨sb,mb,l.reverse⟩::sc)=(l.map GV.pair).reverse::plain sc:=by
   show List.map GV.pair l.reverse::plain sc=_;rw[List.map_reverse]
  rw[←hnm]at hZ;refine uL ?_;refine qs rfl (OT.ckS (L0:=L) [_] q (hst { F with c:=c' } ⟨sb,mb,l.reverse⟩ sc 0 m2 h (hr.mono hm) hC2 mv) hB2 mH hm ((dl L).cons _ |>.cons _) hZ (bF _) rfl rfl rfl rfl rfl rfl goes120 (fun v m3 vs' T2 hZ hm3 hm' hsc3 hV hB3=>?_));obtain⟨bs,rfl⟩:=hV;obtain⟨T3,hB4,hT3⟩:=Bun.less [.cells F.fn 7 [u]] (hB3.perm (a9 _) (ba _ _ _));obtain⟨M,T4,hT4,hB5⟩:=hB4.leave;have hfA3:=hfA2.mono hm3;have hht3:=hht.mono hm';refine uA ?_;refine cM (L':=.cells F.fn 7 [u]::.cells b5 0 (treeC h)::T3) (pbC hT3) ?_;refine qs rfl (cO (k:=0) tab 0 rfl rfl rfl rfl rfl rfl rfl rfl ?_);refine aJ (L':=.cells b5 0 (treeC h)::((.cells F.fn 7 [ptr bs]::M)++T4)) (pbD hT4) ?_;refine ap tab hfA3 ?_;obtain⟨g1,g2⟩:=tg_fn htg ht7;refine oC goes121 ((cresults_law F.ft g1 g2 _ _ ht hht3).x ?_);rintro _ _ _ ⟨rfl,rfl,sr,rfl,hsr⟩;have hrl:=hsr.len;have hHs:Hs L (.cells b5 0 (treeC h)::((.cells F.fn 7 [ptr bs]::M)++T4)):=(hB5.hs.app _).cons _;refine uA ?_;refine az (fun e6=>?_) (fun e6=>?_)
  ·have e7:(F.ft.kids.drop F.ft.num.toNat).isEmpty=true:=by rw[List.isEmpty_iff_length_eq_zero];omega
   rw[e7,Bool.true_or]at hZ;refine uA ?_;refine qs rfl (du (b:=true) (L0:=L) (g:=fun _=>Z) (by repeat (exact dn)) hm' hHs rfl rfl rfl rfl rfl rfl rfl (fun e _=>?_));refine TO.drop (L':=T4) ((List.sublist_append_right _ _).cons _) ?_;refine uA ?_;refine cJ rfl (L':=T4) (bZ _) ⟨(),hZ,hm',hB5⟩
  ·have e7:(F.ft.kids.drop F.ft.num.toNat).isEmpty=false:=by
    cases hq:(F.ft.kids.drop F.ft.num.toNat).isEmpty with
    | false=>rfl
    | true=>rw[List.isEmpty_iff_length_eq_zero]at hq;omega
   rw[e7,cx]at hZ;refine uL ?_;refine oC goes12 ((Ends_law n _ _ h (hr.mono hm') hw).x ?_);rintro _ m4 _ ⟨hm4,rfl,rfl⟩;have e8:endsO n=endsD 200 n:=by unfold endsO;rw[block_made hbl hsz hdp,bP]
   refine uA ?_;refine qs rfl (du (b:=endsO n) (L0:=L) (g:=fun _=>some ()) (by repeat (exact dn)) (cD hm' hm4) hHs (hZ.trans (by rw[e8];cases endsD 200 n<;>rfl)) rfl rfl rfl rfl rfl rfl (fun e hZ=>?_));refine TO.drop (L':=T4) ((List.sublist_append_right _ _).cons _) ?_;refine uA ?_;refine cJ rfl (L':=T4) (bZ _) ⟨(),hZ,cD hm' hm4,hB5.mono hm4 (bF _)⟩
end Go.Sep
namespace Go.Sep
open Go.Proofs Go.Ck
attribute [local irreducible] TC TO OT TCallX TCall DO DOt thenQ blockQ retQ At
section
variable {E:CE} {F:CF} {sc:List GS} {w:Nat} {lv:Lv}
theorem exInt_ck {m:Mem} {nm:Str} {u:Int} {ks:List Tree} {h:HTree} (hr:TreeRep m h (.mk 40 nm u ks)) (hnum:0≤u) :
  KtE Tryz.prog 159 [ptr F.c,treeV h] E F sc w (cst (.mk 40 nm u ks)) m (exprC ⟨E.tbl,E.fns⟩ lv (plain sc) (.mk 40 nm u ks)) (vEx sc):=by
 refine dt Tryz.func159 rfl 280 rfl fun T L q Z hZ hB=>?_;obtain⟨hr1,hr2,hr3,hr4⟩:=hr;obtain⟨hk,hn,hu,hks⟩:=h;simp only[Tree.kind,Tree.name,Tree.num,Tree.kids]at hr1 hr2 hr3 hr4;subst hr1 hr2 hr3;replace hZ:Z=some ⟨40,tk 1,false,0,false⟩:=hZ;refine uA ?_;refine ay (fun b3=>?_);refine ay (fun bx=>?_);refine oC goes184 ((ckind_law 1 _ _).x ?_);rintro _ m1 _ ⟨hm1,rfl,ht,rfl,hht⟩;refine kE ?_;refine db 0 rfl fun m2 hm2 hA=>?_;refine uA ?_;refine cI rfl (L':=T) uS ⟨_,hZ,cD hm1 hm2,⟨bx,rfl,dr (vs:=inV sc) (x:=⟨40,tk 1,false,0,false⟩) (txt:=hn) (num:=hu) (how:=0) (kids:=nilS) (var:=none) (fn:=none) hht (tg_leaf _ _ _ mv) ⟨fun e=>by omega,fun e=>by cases e⟩ mx mx mx mx mx mx (fun _ _=>rfl) m2 hm2 hA⟩,hB.mono (cD hm1 hm2) (Nat.le_add_right _ _)⟩
theorem exStr_ck {m:Mem} {nm:Str} {u:Int} {ks:List Tree} {h:HTree} (hr:TreeRep m h (.mk 41 nm u ks)) (hnum:0≤u) :
  KtE Tryz.prog 159 [ptr F.c,treeV h] E F sc w (cst (.mk 41 nm u ks)) m (exprC ⟨E.tbl,E.fns⟩ lv (plain sc) (.mk 41 nm u ks)) (vEx sc):=by
 refine dt Tryz.func159 rfl 280 rfl fun T L q Z hZ hB=>?_;obtain⟨hr1,hr2,hr3,hr4⟩:=hr;obtain⟨hk,hn,hu,hks⟩:=h;simp only[Tree.kind,Tree.name,Tree.num,Tree.kids]at hr1 hr2 hr3 hr4;subst hr1 hr2 hr3;replace hZ:Z=some ⟨41,tk 3,false,0,false⟩:=hZ;refine uA ?_;refine ay (fun b3=>?_);refine ay (fun bx=>?_);refine oC goes184 ((ckind_law 3 _ _).x ?_);rintro _ m1 _ ⟨hm1,rfl,ht,rfl,hht⟩;refine kE ?_;refine db 0 rfl fun m2 hm2 hA=>?_;refine uA ?_;refine cI rfl (L':=T) uS ⟨_,hZ,cD hm1 hm2,⟨bx,rfl,dr (vs:=inV sc) (x:=⟨41,tk 3,false,0,false⟩) (txt:=hn) (num:=hu) (how:=0) (kids:=nilS) (var:=none) (fn:=none) hht (tg_leaf _ _ _ mv) ⟨fun e=>by omega,fun e=>by cases e⟩ mx mx mx mx mx mx (fun _ _=>rfl) m2 hm2 hA⟩,hB.mono (cD hm1 hm2) (Nat.le_add_right _ _)⟩
theorem exBool_ck {m:Mem} {nm:Str} {u:Int} {ks:List Tree} {h:HTree} (hr:TreeRep m h (.mk 42 nm u ks)) (hnum:0≤u) :
  KtE Tryz.prog 159 [ptr F.c,treeV h] E F sc w (cst (.mk 42 nm u ks)) m (exprC ⟨E.tbl,E.fns⟩ lv (plain sc) (.mk 42 nm u ks)) (vEx sc):=by
 refine dt Tryz.func159 rfl 280 rfl fun T L q Z hZ hB=>?_;obtain⟨hr1,hr2,hr3,hr4⟩:=hr;obtain⟨hk,hn,hu,hks⟩:=h;simp only[Tree.kind,Tree.name,Tree.num,Tree.kids]at hr1 hr2 hr3 hr4;subst hr1 hr2 hr3;replace hZ:Z=some ⟨42,tk 2,false,0,false⟩:=hZ;refine uA ?_;refine ay (fun b3=>?_);refine ay (fun bx=>?_);refine oC goes184 ((ckind_law 2 _ _).x ?_);rintro _ m1 _ ⟨hm1,rfl,ht,rfl,hht⟩;refine kE ?_;refine db 0 rfl fun m2 hm2 hA=>?_;refine uA ?_;refine cI rfl (L':=T) uS ⟨_,hZ,cD hm1 hm2,⟨bx,rfl,dr (vs:=inV sc) (x:=⟨42,tk 2,false,0,false⟩) (txt:=hn) (num:=hu) (how:=0) (kids:=nilS) (var:=none) (fn:=none) hht (tg_leaf _ _ _ mv) ⟨fun e=>by omega,fun e=>by cases e⟩ mx mx mx mx mx mx (fun _ _=>rfl) m2 hm2 hA⟩,hB.mono (cD hm1 hm2) (Nat.le_add_right _ _)⟩
theorem exNil_ck {m:Mem} {nm:Str} {u:Int} {ks:List Tree} {h:HTree} (hr:TreeRep m h (.mk 43 nm u ks)) (hnum:0≤u) :
  KtE Tryz.prog 159 [ptr F.c,treeV h] E F sc w (cst (.mk 43 nm u ks)) m (exprC ⟨E.tbl,E.fns⟩ lv (plain sc) (.mk 43 nm u ks)) (vEx sc):=by
 refine dt Tryz.func159 rfl 280 rfl fun T L q Z hZ hB=>?_;obtain⟨hr1,hr2,hr3,hr4⟩:=hr;obtain⟨hk,hn,hu,hks⟩:=h;simp only[Tree.kind,Tree.name,Tree.num,Tree.kids]at hr1 hr2 hr3 hr4;subst hr1 hr2 hr3;replace hZ:Z=some ⟨43,tk 8,false,0,false⟩:=hZ;refine uA ?_;refine ay (fun b3=>?_);refine ay (fun bx=>?_);refine oC goes184 ((ckind_law 8 _ _).x ?_);rintro _ m1 _ ⟨hm1,rfl,ht,rfl,hht⟩;refine kE ?_;refine db 0 rfl fun m2 hm2 hA=>?_;refine uA ?_;refine cI rfl (L':=T) uS ⟨_,hZ,cD hm1 hm2,⟨bx,rfl,dr (vs:=inV sc) (x:=⟨43,tk 8,false,0,false⟩) (txt:=hn) (num:=hu) (how:=0) (kids:=nilS) (var:=none) (fn:=none) hht (tg_leaf _ _ _ mv) ⟨fun e=>by omega,fun e=>by cases e⟩ mx mx mx mx mx mx (fun _ _=>rfl) m2 hm2 hA⟩,hB.mono (cD hm1 hm2) (Nat.le_add_right _ _)⟩
theorem exName_ck {m:Mem} (hC:CkOk E F sc m) {nm:Str} {u:Int} {ks:List Tree} {h:HTree} (hr:TreeRep m h (.mk 44 nm u ks)) (hnum:0≤u) :
  KtE Tryz.prog 159 [ptr F.c,treeV h] E F sc w (cst (.mk 44 nm u ks)) m (exprC ⟨E.tbl,E.fns⟩ lv (plain sc) (.mk 44 nm u ks)) (vEx sc):=by
 refine dt Tryz.func159 rfl 280 rfl fun T L q Z hZ hB=>?_;obtain⟨hr1,hr2,hr3,hr4⟩:=hr;obtain⟨hk,hn,hu,hks⟩:=h;simp only[Tree.kind,Tree.name,Tree.num,Tree.kids]at hr1 hr2 hr3 hr4;subst hr1 hr2 hr3;replace hZ:Z=(match lookS (plain sc) hn with
  | some t=>some ⟨44,t,false,0,true⟩
  | none=>(getN E.fns hn).map fun t=>⟨44,t,false,0,false⟩):=hZ
 have hcst:cst (Tree.mk 44 hn hu ks)=2+cstL ks:=rfl;refine uA ?_;refine ay (fun b3=>?_);refine ay (fun bx=>?_);refine qs rfl (OT.ck (L0:=L) [_,_] q (look_ck hC hn) hB my (cC _) (dl _) (g:=fun _=>Z) rfl mv rfl rfl rfl rfl rfl rfl goes185 (fun v m1 o T1 _ hm _ hV hB=>?_));obtain⟨rfl,ho⟩:=hV;rw[look_plain,←ho]at hZ;cases o with
 | some v =>
  replace hZ:Z=some ⟨44,v.type,false,0,true⟩:=hZ;obtain⟨s,hs,hv⟩:=lookG_mem ho.symm;obtain⟨⟨hv1,hv2,hvA⟩,-,hvg⟩:=(hC.mono hm).sc.get hs hv;refine uA ?_;refine jK ?_;refine qs rfl (OT.ptrNe (e:=118) tab rfl rfl rfl rfl rfl rfl ?_);refine uL ?_;refine ah hvA ?_;refine uT ?_;refine db 0 rfl fun m2 hm2 hA=>?_;refine uA ?_;refine cI rfl (L':=T1) uS ⟨_,hZ,cD hm hm2,⟨bx,rfl,dr (vs:=inV sc) (x:=⟨44,v.type,false,0,true⟩) (txt:=hn) (num:=hu) (how:=0) (kids:=nilS) (var:=some v.b) (fn:=none) hv2 hvg ⟨fun e=>by omega,fun e=>by cases e⟩ mx mx mx mx (fun _=>⟨rfl,fun b hb=>by injection hb with hb;rw[←hb];exact⟨s,hs,v,hv,rfl⟩⟩) mx mx m2 hm2 hA⟩,hB.mono hm2 (bF _)⟩
 | none =>
  replace hZ:Z=(getN E.fns hn).map fun t=>⟨44,t,false,0,false⟩:=hZ;replace hC:=hC.mono hm;have hme:=hC.me;have hf:=hC.fns hn;refine uA ?_;refine jK ?_;refine aW (e:=118) ?_;cases hg:getN E.fns hn with
  | none =>
   rw[hg]at hZ hf;replace hf:mget E.fes hn=none:=hf;refine j7 ?_;refine OT.lookupP tab kStr hn rfl rfl rfl rfl rfl rfl rfl hC.fm ?_;refine⟨cC _,T1,a9 _,?_⟩;refine DO.convV (v':=(.pointer none)) ?_ (by rw[hf];rfl);refine jW ?_;refine cW ?_;refine aB 10 ?_;refine an (k:=10) 0 ?_;refine aH ?_
   rotate_left 1
   refine uA ?_;refine aP (k:=10) 0 ?_;refine aW (e:=114) ?_;refine qs rfl (du (b:=false) (L0:=L) (g:=fun _=>Z) my hm (dm [_,_] hB.hs) hZ rfl rfl rfl rfl rfl rfl (fun e _=>by cases e))
  | some t =>
   rw[hg]at hZ hf;obtain⟨htg,fb,ht,hf,hht,hfA⟩:=(show tg t=true∧∃ b h,mget E.fes hn=some (ptr b)∧TreeRep m1 h t∧At m1 b 2 (treeC h) from hf)
   refine j7 ?_;refine OT.lookupP tab kStr hn rfl rfl rfl rfl rfl rfl rfl hC.fm ?_;refine⟨cC _,T1,a9 _,?_⟩;refine DO.convV (v':=(ptr fb)) ?_ (by rw[hf];rfl);refine jW ?_;refine cW ?_;refine aB 10 ?_;refine an (k:=10) 0 ?_;refine aH ?_
   rotate_left 1
   refine uA ?_;refine aP (k:=10) 0 ?_;refine aW (e:=114) ?_;refine qs rfl (du (b:=true) (L0:=L) (g:=fun _=>Z) my hm (dm [_,_] hB.hs) rfl rfl rfl rfl rfl rfl rfl (fun e _=>?_));refine uA ?_;refine al (k:=10) 0 ?_;refine ap tab hfA ?_;refine uT ?_;refine db 0 rfl fun m2 hm2 hA=>?_;refine uA ?_;refine cI rfl (L':=T1) uS ⟨_,hZ,cD hm hm2,⟨bx,rfl,dr (vs:=inV sc) (x:=⟨44,t,false,0,false⟩) (txt:=hn) (num:=hu) (how:=0) (kids:=nilS) (var:=none) (fn:=some fb) hht htg ⟨fun e=>by omega,fun e=>by cases e⟩ mx mx mx mx (fun _=>⟨rfl,fun b hb=>by cases hb⟩) mx mx m2 hm2 hA⟩,hB.mono hm2 mv⟩
end
end Go.Sep
