/-
  Part 9 of the proof: library, walks and plain laws.
-/
import Derived.Test.YthemafgjfddgbaaGreatDoorB8
set_option linter.unusedVariables false
set_option linter.unusedSimpArgs false
set_option maxHeartbeats 6400000
namespace Go.Sep
open Go.Proofs
attribute [local irreducible] TC TO OT TCallX TCall DO DOt thenQ blockQ retQ At
theorem prefix_2 (l:Str):prefixB [47,47] l=true↔∃ r,l=47::47::r:=by
 constructor
 ·intro h;obtain⟨h1,h2⟩:=prefixB_len h
  match l,h1,h2 with
  | a::b::r,_,h2 =>
   simp at h2;exact⟨r,by rw[h2.1,h2.2]⟩
  | [a],h1,_=>simp at h1
  | [],h1,_=>simp at h1
 ·rintro⟨r,rfl⟩;rfl
theorem blank_law (m:Mem) (L:List Item) (s:Str) (hl:s.length≤70000):TCall Tryz.prog 55 ⟨[strV s]⟩ m L (Ret (.int .i64 ((blk false s:Nat):Int)) m L):=by
 unfold TCall;refine ag Tryz.func55 35 ?_;refine cG (ι:=Nat) [0] rfl (fun n=>[(3,.int .i64 (n:Int))]) (fun _=>m) (fun _=>L) (fun n=>n≤s.length∧blk false s=n+blk false (s.drop n)) (fun n=>s.length-n) 0 uH rfl uS ⟨cm _,by simp⟩ ?_;rintro n ⟨hn,hI⟩;refine uA ?_;refine ap (fun g1=>?_) (fun g1=>?_)
 ·have hlt:n<s.length:=ou;have hx:s[n]? = some s[n]:=oG;have hd:=bV hlt;refine uA ?_;refine qs rfl (OT.sidx tab n rfl rfl rfl rfl rfl rfl rfl hx ?_);refine au goes98 (indexByte_law _ _ [9,10,13,32] s[n]) ?_;rw[isSp_ix];refine aQ (fun c1=>?_) (fun c1=>?_)
  ·refine uA ?_;refine aa (r':=((n+1:Nat):Int)) uH ou ?_;exact⟨n+1,uH,uH,rfl,rfl,uS,⟨by omega,by rw[hI,hd,blk,if_pos c1];omega⟩,by omega⟩
  ·refine uA ?_;refine mD ?_;refine au goes99 (prefix_law _ _ (s.drop n) [47,47]) ?_;refine aQ (fun c2=>?_) (fun c2=>?_)
   ·obtain⟨r,hr⟩:=(prefix_2 _).1 c2;have hb:blk false (s.drop n)=blk true (s.drop n):=by rw[hr];exact blk_rem rfl rfl
    refine uA ?_;refine mD ?_;refine oR goes98 (indexByte_law _ _ (s.drop n) 10) ?_;rcases blk_line (s.drop n)with ⟨k1,k2⟩ | ⟨k,k0,k1,k2,k3⟩
    ·rw[k1];refine kP ?_;rw[hI,hb,k2,bX]
     congr 1;omega
    ·rw[k1];have hk:k≠0:=fun e=>by rw[e,hr]at k3;simp at k3
     rw[bX]at k0;refine uA ?_;refine aa (r':=((n+k:Nat):Int)) uH ou ?_;exact⟨n+k,uH,uH,rfl,rfl,uS,⟨by omega,by rw[hI,hb,k2,List.drop_drop];omega⟩,by omega⟩
   ·refine uA ?_;refine kh ?_;have hb:blk false (s.drop n)=0:=by
     rw[hd,blk,if_neg (by rw[c1];decide),if_neg];rintro⟨h1,h2⟩;refine Bool.eq_false_iff.1 c2 ((prefix_2 _).2 ?_);rw[hd];have h3:s[n]=47:=UInt8.toNat_inj.1 h1;cases hr:s.drop (n+1)with
     | nil=>rw[hr]at h2;cases h2
     | cons x r =>
      rw[hr]at h2;simp at h2;exact⟨r,by rw[h3,h2]⟩
    rw[hI,hb];rfl
 ·refine uA ?_;refine kh ?_;rw[hI,cj ou,blk]
  congr 1
theorem marks_rep {m:Mem} {b:Nat} (h:At m b 0 (encs rStr markL)):SlRep rStr m ⟨some ⟨b,0,none⟩,27,27⟩ markL :=
 ⟨rfl,bI _,(by show 27*16≤_;decide),markL,all_refl2 markL,.inr ⟨b,0,rfl,h⟩⟩
theorem marks_law (m:Mem) (L:List Item):TCall Tryz.prog 108 ⟨[]⟩ m L (Made m L fun r m'=>∃ s:Sl,r=s.v∧SlRep rStr m' s markL):=by
 unfold TCall;refine cJ Tryz.func108 rfl 2 rfl ?_;refine uB ?_;refine qs rfl (OT.lit tab rfl rfl rfl rfl (fun b=>?_));refine cV fun m1 hm1 hA1=>?_;refine uA ?_;exact cH rfl uS ⟨hm1,rfl,_,rfl,marks_rep hA1⟩
end Go.Sep
namespace Go.Sep
open Go.Proofs
attribute [local irreducible] TC TO OT TCallX TCall DO DOt thenQ blockQ retQ At
def tokC (t:Tok):List Value:=[.int .i64 t.kind,strV t.text,.int .i64 t.num,.int .i64 t.at_]
@[reducible] def tokV (t:Tok):Value:=.agg ⟨tokC t⟩
def NextR (o:Option (Tok×Nat)) (r:Value):Prop:=∃ t n,r = .tuple ⟨[tokV t,.int .i64 ((n:Nat):Int)]⟩∧(o=some (t,n)∨(o=none∧n=0))
theorem next_law (m:Mem) (L:List Item) (s:Str) (h0:0<s.length) (hl:s.length≤70000) (hE:Errs m):TCall Tryz.prog 56 ⟨[strV s]⟩ m L (Made m L fun r _=>NextR (tokD s) r):=by
 obtain⟨c,r,rfl⟩:∃ c r,s=c::r:=by
  cases s with
  | nil=>simp at h0
  | cons c r=>exact⟨c,r,rfl⟩
 have hx:(c::r)[0]? = some c:=rfl;have hsl:=span_le lod (c::r);unfold TCall;refine ag Tryz.func56 99 ?_;refine aB tab (fun b2=>?_);refine lD ?_;refine au goes100 (letter_law _ _ c) ?_;refine aQ (fun c1=>?_) (fun c1=>?_)
 ·refine uA ?_;refine oC goes102 ((either_law _ _).x ?_);rintro _ m1 _ ⟨hm1,rfl,e1,e2,rfl,hA1,hA2⟩;refine mx ?_;refine aW [] dc 5 ?_;refine cT tab uC uK [1,2] uK rfl ?_;refine a8 0 [3] ⟨⟨_,rfl,rfl,rfl,?_⟩,⟨_,rfl,rfl,rfl,?_⟩,trivial⟩
  ·refine cQ rfl rfl rfl rfl rfl rfl goes105 ((words_law _ _).x ?_);rintro _ m2 _ ⟨hm2,rfl,w,rfl,hw⟩;refine⟨hm2,_,bj _,?_⟩;refine af 3 ?_;refine OT.sub tab 0 (spanOf lod (c::r)) rfl rfl rfl rfl rfl rfl rfl (.inl ⟨rfl,rfl⟩) (.inr rfl) (cm _) hsl ?_;refine ko ?_;exact dW
  ·refine OT.sub tab 0 (spanOf lod (c::r)) rfl rfl rfl rfl rfl rfl rfl (.inl ⟨rfl,rfl⟩) (.inr rfl) (cm _) hsl ?_;refine ko ?_;refine af 0 ?_;refine cQ rfl rfl rfl rfl rfl rfl goes105 ((words_law _ _).x ?_);rintro _ m2 _ ⟨hm2,rfl,w,rfl,hw⟩;refine⟨hm2,_,bj _,?_⟩;exact dW
 ·refine uA ?_;refine lD ?_;refine au goes103 (digit_law _ _ c) ?_;refine aQ (fun c2=>?_) (fun c2=>?_)
  ·refine uA ?_;refine oC goes102 ((either_law _ _).x ?_);rintro _ m1 _ ⟨hm1,rfl,e1,e2,rfl,hA1,hA2⟩;refine mx ?_;refine lJ ?_;have hp:0<spanOf lod (c::r):=span_pos (by unfold lod;rw[c2];simp);have htk:(c::r).take (spanOf lod (c::r))=c::r.take (spanOf lod (c::r)-1):=by
    obtain⟨k,hk⟩:∃ k,spanOf lod (c::r)=k+1:=⟨spanOf lod (c::r)-1,by omega⟩
    rw[hk];rfl
   rw[cA];have c1':¬ltr c=true:=by rw[c1];decide
   refine oC goes106 ((parseInt_law _ _ ((c::r).take (spanOf lod (c::r))) (by rw[htk];simp) (fun x hx=>by rw[htk]at hx;cases hx;exact c2) pd (hE.mono hm1)).x ?_);rintro _ m2 _ ⟨hm2,rfl,⟨v,e1,rfl⟩ | ⟨e1,v,a,b,rfl⟩⟩
   ·refine uA ?_;refine aP (.inl rfl) ?_;refine lD ?_;refine uA ?_
    (first | refine TO.splitP rfl rfl (fun c3=>?_) (fun c3=>?_) | refine cK rfl rfl (fun c3=>?_) (fun c3=>?_) | refine TO.split rfl rfl (fun c3=>?_) (fun c3=>?_))
    ·refine uA ?_
     (first | refine TO.splitP rfl rfl (fun c5=>?_) (fun c5=>?_) | refine cK rfl rfl (fun c5=>?_) (fun c5=>?_) | refine TO.split rfl rfl (fun c5=>?_) (fun c5=>?_))
     ·skip;refine kx ?_;refine aH (L':=L) 0 ⟨(cC hm1 hm2),rfl,?_⟩;refine⟨⟨0,[],0,0⟩,0,rfl,.inr ⟨?_,rfl⟩⟩;rw[tokD,if_neg c1',if_pos c2,e1];simp only;rw[if_pos (.inl ou)]
     ·exact eH
    ·exact eH
   ·refine uA ?_;refine mK ?_;refine kc ?_;refine aH (L':=L) 0 ⟨(cC hm1 hm2),rfl,?_⟩;refine⟨⟨0,[],0,0⟩,0,rfl,.inr ⟨?_,rfl⟩⟩;rw[tokD,if_neg c1',if_pos c2,e1]
  ·refine uA ?_;refine lD ?_;refine uA ?_;have c1':¬ltr c=true:=by rw[c1];decide
   have c2':¬dgt c=true:=by rw[c2];decide
   refine ap (fun c3=>?_) (fun c3=>?_)
   ·refine uA ?_;refine oC goes107 ((literal_law _ _ (c::r) h0 hl hE).x ?_);rintro _ m1 _ ⟨hm1,rfl,rfl⟩;show TO _ _ _ _ ((_,litR (lit r))::_) _ _ _ _;have hD:tokD (c::r)=(match lit r with
     | none=>none
     | some (t,n)=>if 1024<t.length then none else some (⟨3,t,0,0⟩,n+1)):=by
     rw[tokD,if_neg c1',if_neg c2',if_pos ou]
     try rfl
    rcases hlit:lit r with _ | ⟨t,n⟩
    ·rw[hlit]at hD;show TO _ _ _ _ ((_,.tuple ⟨[strV [],.int .i64 0]⟩)::_) _ _ _ _;refine kx ?_;refine ny ?_;refine⟨⟨3,[],0,0⟩,0,rfl,.inr ⟨?_,rfl⟩⟩;rw[hD]
    ·rw[hlit]at hD;show TO _ _ _ _ ((_,.tuple ⟨[strV t,.int .i64 ((n+1:Nat):Int)]⟩)::_) _ _ _ _;refine uA ?_;refine ap (fun c4=>?_) (fun c4=>?_)
     ·refine uA ?_;refine kc ?_;refine ny ?_;refine⟨⟨3,t,0,0⟩,0,rfl,.inr ⟨?_,rfl⟩⟩;rw[hD];simp only;rw[if_pos ou]
     ·refine uA ?_;refine kc ?_;refine ny ?_;refine⟨⟨3,t,0,0⟩,n+1,rfl,.inl ?_⟩;rw[hD];simp only;rw[if_neg ou]
   ·refine uA ?_;refine oC goes108 ((marks_law _ _).x ?_);rintro _ m1 _ ⟨hm1,rfl,w,rfl,hw⟩;refine uA ?_;have hwl:w.len=27:=hw.len;rw[hwl];have hD:tokD (c::r)=(match markL.find? (fun p=>prefixB p (c::r))with
     | none=>none
     | some p=>some (⟨4,p,0,0⟩,p.length)):=by
     rw[tokD,if_neg c1',if_neg c2',if_neg ou]
     try rfl
    refine cG (ι:=Nat) [0,2,84,85] rfl (fun k=>[(86,.int .i64 (k:Int))]) (fun _=>m1) (fun _=>.cells b2 0 (tokC ⟨0,[],0,0⟩)::L) (fun k=>k≤27∧markL.find? (fun p=>prefixB p (c::r))=(markL.drop k).find? (fun p=>prefixB p (c::r))) (fun k=>27-k) 0 uH rfl uS ⟨cm _,rfl⟩ ?_;rintro k ⟨hk,hI⟩;have hml:markL.length=27:=rfl;refine uA ?_;refine ap (fun g1=>?_) (fun g1=>?_)
    ·have hlt:k<markL.length:=ou;have hx:markL[k]? = some markL[k]:=oG;refine uA ?_;refine al tab rStr k hw uH oy rfl hx ?_;rintro b i hd rfl hA
     (first | refine qs rfl (OT.loadA tab hA rfl rfl rfl rfl rfl ?_) | refine oL tab hA ?_)
     refine uA ?_;refine au goes99 (prefix_law _ _ (c::r) markL[k]) ?_;refine aQ (fun g2=>?_) (fun g2=>?_)
     ·refine uA ?_;refine kc ?_;refine ny ?_;refine⟨⟨4,markL[k],0,0⟩,markL[k].length,rfl,.inl ?_⟩;rw[hD,hI,bV hlt,List.find?_cons_of_pos (p:=fun p=>prefixB p (c::r)) g2]
     ·refine uA ?_;refine kq ?_;exact⟨k+1,uH,uH,rfl,rfl,uS,⟨by omega,by rw[hI,bV hlt,List.find?_cons_of_neg (p:=fun p=>prefixB p (c::r)) (by show ¬prefixB markL[k] (c::r)=true;rw[g2];decide)]⟩,by omega⟩
    ·skip;refine kx ?_;refine ny ?_;refine⟨⟨0,[],0,0⟩,0,rfl,.inr ⟨?_,rfl⟩⟩;rw[hD,hI,cj ou];rfl
end Go.Sep
namespace Go.Sep
open Go.Proofs
attribute [local irreducible] TC TO OT TCallX TCall DO DOt thenQ blockQ retQ At
def rTok : R Tok Tok where
 size:=4
 bytes:=40
 enc t:=tokC t
 rep _ h a:=h=a
 enc_len _:=rfl
 one _:=rfl
 mono _ h:=h
def joinE (l:List Tok):Except (Nat×Int) (List Tok)→Except (Nat×Int) (List Tok)
 | .error e=>.error e
 | .ok l'=>.ok (l++l')
def CutAt (s:Str) (at_:Nat) (l:List Tok) (res:Except (Nat×Int) (List Tok)):Prop:=∃ f,s.length<at_+f∧res=joinE l (cutF f (s.drop at_) at_ l.length)
theorem CutAt.start (s:Str):CutAt s 0 [] (cutF (s.length+1) s 0 0):=by
 refine⟨s.length+1,by omega,?_⟩;rw[cA];show _=joinE [] (cutF (s.length+1) s 0 0);cases cutF (s.length+1) s 0 0<;>rfl
section
variable {s:Str} {a:Nat} {l:List Tok} {res:Except (Nat×Int) (List Tok)}
theorem CutAt.pos (h:CutAt s a l res) (ha:a≤s.length):∃ f,s.length<a+(f+1)∧res=joinE l (cutF (f+1) (s.drop a) a l.length):=by
 obtain⟨f,h1,h2⟩:=h;cases f with
 | zero=>omega
 | succ f=>exact⟨f,h1,h2⟩
theorem CutAt.end_ (h:CutAt s a l res) (ha:a≤s.length) (hb:a+blk false (s.drop a)=s.length):res = .ok l:=by
 obtain⟨f,h1,h2⟩:=h.pos ha;rw[h2,cutF,List.drop_drop,cj ou,if_pos rfl];simp[joinE]
theorem drop_ne {s:Str} {k:Nat} (h:k<s.length):s.drop k≠[]:=fun e=>by
 have:=congrArg List.length e;simp at this;omega
theorem CutAt.large (h:CutAt s a l res) (ha:a≤s.length) (hb:a+blk false (s.drop a)<s.length) (hl:l.length=20000):res = .error (a+blk false (s.drop a),4):=by
 obtain⟨f,h1,h2⟩:=h.pos ha;rw[h2,cutF,List.drop_drop,if_neg (drop_ne hb),if_pos hl];rfl
theorem CutAt.text (h:CutAt s a l res) (ha:a≤s.length) (hb:a+blk false (s.drop a)<s.length) (hl:l.length≠20000) (ht:tokD (s.drop (a+blk false (s.drop a)))=none):res = .error (a+blk false (s.drop a),3):=by
 obtain⟨f,h1,h2⟩:=h.pos ha;rw[h2,cutF,List.drop_drop,if_neg (drop_ne hb),if_neg hl,ht];rfl
theorem CutAt.go (h:CutAt s a l res) (ha:a≤s.length) (hb:a+blk false (s.drop a)<s.length) (hl:l.length≠20000) {t:Tok} {n:Nat} (ht:tokD (s.drop (a+blk false (s.drop a)))=some (t,n)) :
  CutAt s (a+blk false (s.drop a)+n) (l++[⟨t.kind,t.text,t.num,((a+blk false (s.drop a):Nat):Int)⟩]) res:=by
 obtain⟨f,h1,h2⟩:=h.pos ha;have hn:=(tokD_le ht).1;refine⟨f,by omega,?_⟩;rw[h2,cutF,List.drop_drop,if_neg (drop_ne hb),if_neg hl,ht];simp only[List.drop_drop,ba,be,bg];cases cutF f (s.drop (a+blk false (s.drop a)+n)) (a+blk false (s.drop a)+n) (l.length+1)with
 | error e=>rfl
 | ok l'=>simp[joinE]
end
structure ScanS where
 m:Mem
 sl:Sl
 l:List Tok
 a:Nat
def ScanR (c:Cut) (r:Value) (m':Mem):Prop:=∃ sl:Sl,r = .tuple ⟨[sl.v,.int .i64 ((c.at_:Nat):Int),.int .i64 c.e]⟩∧SlRep rTok m' sl c.list
theorem scan_law (m:Mem) (L:List Item) (s:Str) (hE:Errs m):TCall Tryz.prog 28 ⟨[strV s]⟩ m L (Made m L fun r m'=>ScanR (scanD s) r m'):=by
 unfold TCall;refine ag Tryz.func28 44 ?_;refine ap (fun c0=>?_) (fun c0=>?_)
 ·refine uA ?_;refine kI ?_;rw[scanD,if_pos ou];exact jN
 have hD:scanD s = .of (cutF (s.length+1) s 0 0):=by rw[scanD,if_neg ou]
 refine uA ?_;refine cW (size:=4) ?_;refine cG (ι:=ScanS) [0] rfl (fun x=>[(2,x.sl.v),(3,.int .i64 (x.a:Int))]) (fun x=>x.m) (fun x=>tok x.sl 4::L) (fun x=>m≤x.m∧x.a≤s.length∧SlRep rTok x.m x.sl x.l∧Own x.sl∧x.l.length≤20000∧CutAt s x.a x.l (cutF (s.length+1) s 0 0)) (fun x=>s.length-x.a) ⟨m,⟨none,0,0⟩,[],0⟩ uH rfl uS ⟨cB _,cm _,cR _ _,cX,cm _,CutAt.start s⟩ ?_;rintro⟨m1,sl,l,a⟩ ⟨hm,ha,hsl,hown,hll,hI⟩;replace hm:m≤m1:=hm;replace ha:a≤s.length:=ha;replace hsl:SlRep rTok m1 sl l:=hsl;replace hown:Own sl:=hown;replace hll:l.length≤20000:=hll;replace hI:CutAt s a l (cutF (s.length+1) s 0 0):=hI;show TC _ _ _ ((2,sl.v)::(3,.int .i64 (a:Int))::_) _ m1 (tok sl 4::L) _;have hlen:=hsl.len;have hb:=blk_le false (s.drop a);rw[bX]at hb;refine uA ?_;refine qs rfl (OT.sub tab a s.length rfl rfl rfl rfl rfl rfl rfl (.inr rfl) (.inl ⟨rfl,rfl⟩) ou ou ?_);rw[List.take_length];refine oR goes55 (blank_law _ _ (s.drop a) pf) ?_;refine uA ?_;refine aa (r':=((a+blk false (s.drop a):Nat):Int)) uH ou ?_;refine ap (fun c1=>?_) (fun c1=>?_)
 ·refine uA ?_;refine nd ?_;rw[hD,hI.end_ ha ou];exact⟨sl,rfl,hsl⟩
 refine uA ?_;refine ap (fun c2=>?_) (fun c2=>?_)
 ·refine uA ?_;refine nd ?_;rw[hD,hI.large ha ou ou];exact jN
 refine uA ?_;refine qs rfl (OT.sub tab (a+blk false (s.drop a)) s.length rfl rfl rfl rfl rfl rfl rfl (.inr rfl) (.inl ⟨rfl,rfl⟩) ou ou ?_);rw[List.take_length];refine oC goes56 ((next_law _ _ (s.drop (a+blk false (s.drop a))) pf pf (hE.mono hm)).x ?_);rintro _ m2 _ ⟨hm2,rfl,t,n,rfl,hn⟩;refine uA ?_;refine aB tab (fun b5=>?_);refine kc ?_;rcases hn with hn | ⟨hn,rfl⟩
 ·have hnl:=tokD_le hn;rw[bX]at hnl;refine ap (fun c3=>?_) (fun c3=>?_)
  ·omega
  refine kx ?_;refine ly ?_;refine qs rfl (OT.lit tab rfl rfl rfl rfl (fun b=>?_));refine qs rfl (OT.append1 tab rTok 1 (hd':=⟨t.kind,t.text,t.num,((a+blk false (s.drop a):Nat):Int)⟩) (a:=⟨t.kind,t.text,t.num,((a+blk false (s.drop a):Nat):Int)⟩) (hsl.mono hm2) hown rfl rfl rfl rfl rfl rfl rfl rfl (by show(l.length+1)*40≤_;omega) (fun s' m3 hm3 hs3 ho3=>?_));refine uA ?_;refine aa (r':=((a+blk false (s.drop a)+n:Nat):Int)) uH ou ?_;exact⟨⟨m3,s',l++[⟨t.kind,t.text,t.num,((a+blk false (s.drop a):Nat):Int)⟩],a+blk false (s.drop a)+n⟩,uH,uH,rfl,rfl,uS,⟨cC hm (cC hm2 hm3),by show _+n≤_;omega,hs3,ho3,by show(l++[_]).length≤_;rw[ba];simp only[be,bg];omega,hI.go ha ou ou hn⟩,by show s.length-(_+n)<s.length-a;omega⟩
 ·refine uA ?_;refine ah ⟨cC hm hm2,rfl,?_⟩;rw[hD,hI.text ha ou ou hn];exact jN
end Go.Sep
namespace Go.Sep
theorem blk_take : ∀(b:Bool) (r:Str) (j:Nat),blk b r≤j→blk b (r.take j)=blk b r
 | _,[],j,_=>by simp[blk]
 | true,c::r,0,h=>by
  rw[blk]at h;split at h<;>omega
 | true,c::r,j+1,h=>by
  rw[List.take_succ_cons,blk,blk];rw[blk]at h;split at h
  ·exact jC
  ·rename_i hc;rw[if_neg hc,if_neg hc,blk_take true r j ou]
 | false,c::r,0,h=>by
  have:blk false (c::r)=0:=ou;rw[this];rfl
 | false,c::r,j+1,h=>by
  rw[List.take_succ_cons,blk,blk];rw[blk]at h;split at h
  ·exact jC
  ·rename_i hc;rw[if_neg hc,if_neg hc];split at h
   ·rename_i h2;have hj:1≤j:=by
     cases r with
     | nil=>cases h2.2
     | cons x r =>
      have hx:x=47:=by have:=h2.2;simpa using this
      subst hx;rw[blk,if_neg ov]at h;omega
    have hh:(r.take j).head? = r.head?:=by
     cases r with
     | nil=>simp
     | cons x r =>
      obtain⟨i,rfl⟩:∃ i,j=i+1:=⟨j-1,by omega⟩
      simp
    rw[hh,if_pos h2,if_pos h2,blk_take true r j ou]
   ·rename_i h2;rw[if_neg h2,if_neg];rintro⟨h3,h4⟩;refine h2 ⟨h3,?_⟩;cases j with
    | zero=>simp at h4
    | succ i =>
     cases r with
     | nil=>simp at h4
     | cons x r=>simpa using h4
theorem takeWhile_take (p:UInt8→Bool):∀(s:Str) (j:Nat),(s.takeWhile p).length≤j→((s.take j).takeWhile p).length=(s.takeWhile p).length
 | [],j,_=>by simp
 | c::r,0,h=>by
  rw[List.takeWhile_cons]at h ⊢;split at h
  ·simp at h
  ·rename_i hc;rw[if_neg hc];rfl
 | c::r,j+1,h=>by
  rw[List.take_succ_cons,List.takeWhile_cons,List.takeWhile_cons];rw[List.takeWhile_cons]at h;split
  ·rename_i hc;rw[if_pos hc]at h;simp only[be]at h ⊢;rw[takeWhile_take p r j ou]
  ·rfl
theorem span_take {p:UInt8→Bool} {s:Str} {j:Nat} (h:spanOf p s≤j):spanOf p (s.take j)=spanOf p s:=takeWhile_take p s j h
theorem escX_take {r:Str} {b:UInt8} {n j:Nat} (h:escX r=some (b,n)) (hj:n≤j+1):escX (r.take j)=some (b,n):=by
 match r,h with
 | x::y::r',h =>
  have h':(hexB x y).map (fun z=>(z,3))=some (b,n):=h;have hn:n=3:=by
   cases hx:hexB x y with
   | none=>rw[hx]at h';cases h'
   | some z=>rw[hx]at h';cases h';rfl
  obtain⟨i,rfl⟩:∃ i,j=i+2:=⟨j-2,by omega⟩
  exact h
theorem escB_take {r:Str} {b:UInt8} {n j:Nat} (h:escB r=some (b,n)) (hj:n≤j):escB (r.take j)=some (b,n):=by
 have hp:=escB_pos h;cases r with
 | nil=>cases h
 | cons c r =>
  obtain⟨i,rfl⟩:∃ i,j=i+1:=⟨j-1,by omega⟩
  rw[List.take_succ_cons];rw[escB]at h ⊢;by_cases h1:c.toNat=110
  ·rw[if_pos h1]at h ⊢;exact h
  ·rw[if_neg h1]at h ⊢;by_cases h2:c.toNat=116
   ·rw[if_pos h2]at h ⊢;exact h
   ·rw[if_neg h2]at h ⊢;by_cases h3:c.toNat=34∨c.toNat=92
    ·rw[if_pos h3]at h ⊢;exact h
    ·rw[if_neg h3]at h ⊢;by_cases h4:c.toNat=120
     ·rw[if_pos h4]at h ⊢;exact escX_take h hj
     ·rw[if_neg h4]at h;cases h
theorem lit_take : ∀(N:Nat) (r t:Str) (n j:Nat),r.length<N→lit r=some (t,n)→n≤j→lit (r.take j)=some (t,n)
 | 0,_,_,_,_,h,_,_=>by omega
 | N+1,[],_,_,_,_,h,_=>by cases h
 | N+1,c::r,t,n,j,hN,h,hj=>by
  have hp:=lit_le h;simp only[be]at hN;obtain⟨i,rfl⟩:∃ i,j=i+1:=⟨j-1,by omega⟩
  rw[List.take_succ_cons];by_cases h1:c.toNat=34
  ·rw[lit_quote h1]at h ⊢;exact h
  by_cases h2:c.toNat=10
  ·rw[lit_nl h2]at h;cases h
  by_cases h3:c.toNat=92
  ·cases he:escB r with
   | none=>rw[lit_esc_none h3 he]at h;cases h
   | some p =>
    obtain⟨b,k⟩:=p;rw[lit_esc_some h3 he]at h;cases hl:lit (r.drop k)with
    | none=>rw[hl]at h;cases h
    | some q =>
     obtain⟨t',n'⟩:=q;rw[hl]at h;simp only[cv,bD,Prod.mk.injEq]at h;have hk:=escB_pos he;have he':=escB_take (j:=i) he ou;rw[lit_esc_some h3 he',List.drop_take,lit_take N (r.drop k) t' n' (i-k) pf hl ou];simp only[cv,bD,Prod.mk.injEq];exact h
  ·cases hl:lit r with
   | none=>rw[lit_one h1 h2 h3,hl]at h;cases h
   | some q =>
    obtain⟨t',n'⟩:=q;rw[lit_one h1 h2 h3,hl]at h;simp only[cv,bD,Prod.mk.injEq]at h;rw[lit_one h1 h2 h3,lit_take N r t' n' i ou hl ou];simp only[cv,bD,Prod.mk.injEq];exact h
theorem prefixB_iff {p s:Str}:prefixB p s=true↔p.length≤s.length∧s.take p.length=p:=by
 unfold prefixB;rw[bu,decide_eq_true_iff,decide_eq_true_iff]
theorem find_take {s p:Str} {j:Nat} (hj:p.length≤j):∀ l:List Str,l.find? (fun q=>prefixB q s)=some p→l.find? (fun q=>prefixB q (s.take j))=some p
 | [],h=>by cases h
 | q::l,h=>by
  by_cases hq:prefixB q s=true
  ·rw[List.find?_cons_of_pos (p:=fun q=>prefixB q s) hq]at h;cases h;refine List.find?_cons_of_pos (p:=fun q=>prefixB q (s.take j)) (prefixB_iff.2 ?_);obtain⟨h1,h2⟩:=prefixB_iff.1 hq;refine⟨by rw[bW];omega,?_⟩;rw[List.take_take,Nat.min_eq_left hj];exact h2
  ·rw[List.find?_cons_of_neg (p:=fun q=>prefixB q s) hq]at h;rw[List.find?_cons_of_neg (p:=fun q=>prefixB q (s.take j))]
   ·exact find_take hj l h
   ·intro h3;obtain⟨h1,h2⟩:=prefixB_iff.1 h3;rw[bW]at h1;rw[List.take_take,Nat.min_eq_left ou]at h2;exact hq (prefixB_iff.2 ⟨by omega,h2⟩)
theorem tokD_take {s:Str} {t:Tok} {n j:Nat} (h:tokD s=some (t,n)) (hj:n≤j):tokD (s.take j)=some (t,n):=by
 have hp:=tokD_le h;cases s with
 | nil=>cases h
 | cons c r =>
  obtain⟨i,rfl⟩:∃ i,j=i+1:=⟨j-1,by omega⟩
  have hts:(c::r).take (i+1)=c::r.take i:=rfl;by_cases h1:ltr c=true
  ·have hn:n=spanOf lod (c::r):=by
    rw[tokD,if_pos h1]at h;exact kb
   have hsp:spanOf lod ((c::r).take (i+1))=spanOf lod (c::r):=span_take ou;have htt:((c::r).take (i+1)).take (spanOf lod (c::r))=(c::r).take (spanOf lod (c::r)):=by rw[List.take_take,Nat.min_eq_left ou]
   rw[hts]at hsp htt ⊢;rw[tokD,if_pos h1]at h ⊢;rw[hsp,htt];exact h
  ·by_cases h2:dgt c=true
   ·have hn:n=spanOf lod (c::r)∧spanOf dgt (c::r)=spanOf lod (c::r):=by
     rw[tokD,if_neg h1,if_pos h2]at h;split at h
     ·cases h
     ·split at h
      ·cases h
      ·rename_i h3;cases h;exact⟨rfl,by omega⟩
    have hsp:spanOf lod ((c::r).take (i+1))=spanOf lod (c::r):=span_take ou;have hsd:spanOf dgt ((c::r).take (i+1))=spanOf dgt (c::r):=span_take ou;have htt:((c::r).take (i+1)).take (spanOf lod (c::r))=(c::r).take (spanOf lod (c::r)):=by rw[List.take_take,Nat.min_eq_left ou]
    rw[hts]at hsp hsd htt ⊢;rw[tokD,if_neg h1,if_pos h2]at h ⊢;rw[hsp,hsd,htt];exact h
   ·by_cases h3:c.toNat=34
    ·rw[hts];rw[tokD,if_neg h1,if_neg h2,if_pos h3]at h ⊢;cases hl:lit r with
     | none=>rw[hl]at h;cases h
     | some q =>
      obtain⟨t',n'⟩:=q;rw[hl]at h;simp only at h;have hn:n=n'+1:=by
       exact kb
      rw[lit_take (r.length+1) r t' n' i ou hl ou];exact h
    ·rw[tokD,if_neg h1,if_neg h2,if_neg h3]at h;cases hf:markL.find? (fun p=>prefixB p (c::r))with
     | none=>rw[hf]at h;cases h
     | some p =>
      rw[hf]at h;have hn:n=p.length:=by cases h;rfl
      have:=find_take (s:=c::r) (p:=p) (j:=i+1) ou markL hf;rw[hts]at this ⊢;rw[tokD,if_neg h1,if_neg h2,if_neg h3,this];exact h
theorem cutF_take : ∀(f:Nat) (r:Str) (at_ k a:Nat),cutF f r at_ k = .error (a,3)→r.length<f→at_≤a∧a-at_<r.length∧∀ g,a-at_<g→∃ l,cutF g (r.take (a-at_)) at_ k = .ok l
 | 0,r,at_,k,a,h,hf=>by omega
 | f+1,r,at_,k,a,h,hf=>by
  have hb:=blk_le false r;rw[cutF]at h;by_cases h1:r.drop (blk false r)=[]
  ·rw[if_pos h1]at h;cases h
  ·rw[if_neg h1]at h;have hlt:blk false r<r.length:=by
    refine Nat.lt_of_not_le fun hge=>h1 (cj hge)
   by_cases h2:k=20000
   ·rw[if_pos h2]at h;cases h
   ·rw[if_neg h2]at h;cases ht:tokD (r.drop (blk false r))with
    | none =>
     rw[ht]at h;simp only[Except.error.injEq,Prod.mk.injEq,and_true]at h;subst h;refine⟨by omega,by omega,fun g hg=>?_⟩;rw[show at_+blk false r-at_=blk false r by omega];cases g with
     | zero=>omega
     | succ g =>
      refine⟨[],?_⟩;rw[cutF,blk_take false r _ (bI _),cj pd,if_pos rfl]
    | some p =>
     obtain⟨t,n⟩:=p;rw[ht]at h;simp only at h;have hn:=tokD_le ht;rw[bX]at hn;cases hc:cutF f ((r.drop (blk false r)).drop n) (at_+blk false r+n) (k+1)with
     | ok l=>rw[hc]at h;cases h
     | error e =>
      rw[hc]at h;simp only[Except.error.injEq]at h;subst h;obtain⟨g1,g2,g3⟩:=cutF_take f _ _ _ _ hc qq;rw[bX,bX]at g2;refine⟨by omega,by omega,fun g hg=>?_⟩;cases g with
      | zero=>omega
      | succ g =>
       have hd:(r.take (a-at_)).drop (blk false r)=(r.drop (blk false r)).take (a-at_-blk false r):=List.drop_take ..;obtain⟨l,hl⟩:=g3 g ou;have ht':=tokD_take (j:=a-at_-blk false r) ht ou;refine⟨⟨t.kind,t.text,t.num,((at_+blk false r:Nat):Int)⟩::l,?_⟩;rw[cutF,blk_take false r _ ou,hd,if_neg,if_neg h2,ht']
       ·simp only;rw[List.drop_take,show a-at_-blk false r-n=a-(at_+blk false r+n) by omega,hl]
       ·intro e;rw[e]at ht';cases ht'
end Go.Sep
namespace Go.Sep
open Go.Proofs
attribute [local irreducible] TC TO OT TCallX TCall DO DOt thenQ blockQ retQ At
def hexD (n:Nat):UInt8:=UInt8.ofNat (if n<10 then 48+n else 87+n)
def quoteC (c:UInt8):Str :=
 if c.toNat=10 then [92,110]else if c.toNat=9 then [92,116]else if c.toNat=34∨c.toNat=92 then [92,c]
 else if 32≤c.toNat∧c.toNat≤126 then [c]else [92,120,hexD (c.toNat / 16),hexD (c.toNat % 16)]
def quoteB (s:Str):Str:=s.flatMap quoteC
def quoteD (s:Str):Str:=34::(quoteB s++[34])
theorem quoteC_len (c:UInt8):(quoteC c).length≤4:=by
 unfold quoteC
 repeat' split
 all_goals simp
theorem quoteB_len (s:Str):(quoteB s).length≤4*s.length:=by
 induction s with
 | nil=>simp[quoteB]
 | cons c r ih =>
  have:=quoteC_len c;unfold quoteB at ih ⊢;rw[List.flatMap_cons,ba,be];omega
theorem quoteB_take {s:Str} {i:Nat} (h:i<s.length):quoteB (s.take (i+1))=quoteB (s.take i)++quoteC s[i]:=by
 unfold quoteB;rw[cp h,List.flatMap_append];simp
theorem hexS_get {n:Nat} (h:n<16):([48,49,50,51,52,53,54,55,56,57,97,98,99,100,101,102]:Str)[n]? = some (hexD n):=by
 have:=(by decide +kernel:∀ n:Fin 16,([48,49,50,51,52,53,54,55,56,57,97,98,99,100,101,102]:Str)[n.val]? = some (hexD n.val)) ⟨n,h⟩
 exact this
theorem u8_shr4 (n:Nat):(if BinOp.shr = .shl then IntKind.u8.wrap ((n:Int)*2 ^ (min (Int.toNat 4) IntKind.u8.bits))else Int.fdiv (n:Int) (2 ^ (min (Int.toNat 4) IntKind.u8.bits)))=((n / 16:Nat):Int):=by
 have:(min (Int.toNat 4) IntKind.u8.bits)=4:=rfl;rw[this,if_neg ov];rw[Int.fdiv_eq_ediv_of_nonneg _ ov];rfl
theorem qc_nl {c:UInt8} (h:c.toNat=10):quoteC c=[92,110]:=by rw[quoteC,if_pos h]
theorem qc_tab {c:UInt8} (h:c.toNat=9):quoteC c=[92,116]:=by rw[quoteC,if_neg ou,if_pos h]
theorem qc_self {c:UInt8} (h:c.toNat=34∨c.toNat=92):quoteC c=[92,c]:=by rw[quoteC,if_neg ou,if_neg ou,if_pos h]
theorem qc_one {c:UInt8} (h1:c.toNat≠34) (h2:c.toNat≠92) (h3:32≤c.toNat) (h4:c.toNat≤126):quoteC c=[c]:=by rw[quoteC,if_neg ou,if_neg ou,if_neg ou,if_pos ⟨h3,h4⟩]
theorem qc_hex {c:UInt8} (h1:c.toNat≠10) (h2:c.toNat≠9) (h:c.toNat<32∨126<c.toNat):quoteC c=[92,120,hexD (c.toNat / 16),hexD (c.toNat % 16)]:=by rw[quoteC,if_neg h1,if_neg h2,if_neg ou,if_neg ou]
structure QuoS where
 m:Mem
 sl:Sl
 i:Nat
 acc:Str
theorem quote_law (m:Mem) (L:List Item) (s:Str) (hl:s.length≤1099511627776):TCall Tryz.prog 193 ⟨[strV s]⟩ m L (Ret (strV (quoteD s)) m L):=by
 refine mR ?_;unfold TCall;refine ag Tryz.func193 61 ?_;refine qs rfl (OT.lit tab rfl rfl rfl rfl (fun b=>?_));refine cV fun m1 hm1 hA1=>?_;refine TO.tokFull b 1 ?_;refine uA ?_;refine cG (ι:=QuoS) [0,8] rfl (fun x=>[(3,x.sl.v),(9,.int .i64 (x.i:Int))]) (fun x=>x.m) (fun x=>tok x.sl 1::L) (fun x=>m≤x.m∧x.i≤s.length∧SlRep rByte x.m x.sl x.acc∧Own x.sl∧x.acc=34::quoteB (s.take x.i)) (fun x=>s.length-x.i) ⟨m1,⟨some ⟨b,0,none⟩,1,1⟩,0,[34]⟩ uH rfl uS ⟨hm1,cm _,c8 (bs:=[34]) hA1 rfl ov,Own.lit _ _ _,rfl⟩ ?_;rintro⟨m1,sl,i,acc⟩ ⟨hm,hi,hsl,hown,hacc⟩;replace hm:m≤m1:=hm;replace hi:i≤s.length:=hi;replace hsl:SlRep rByte m1 sl acc:=hsl;replace hown:Own sl:=hown;replace hacc:acc=34::quoteB (s.take i):=hacc;have hal:acc.length≤4*i+1:=by
  rw[hacc,be];have:=quoteB_len (s.take i);rw[bW]at this;omega
 show TC _ _ _ ((3,sl.v)::(9,.int .i64 (i:Int))::_) _ m1 (tok sl 1::L) _;refine uA ?_;refine ap (fun g1=>?_) (fun g1=>?_)
 ·have hlt:i<s.length:=ou;have hx:s[i]? = some s[i]:=oG;have hc:s[i].toNat<256:=s[i].toNat_lt;refine uA ?_;refine nx ?_;refine uA ?_;refine ap (fun c1=>?_) (fun c1=>?_)
  ·refine uA ?_;refine qs rfl (OT.appendS tab 0 (bs:=[92,110]) hsl hown rfl rfl rfl rfl rfl rfl rfl rfl rfl rfl rfl (by show acc.length+2≤_;omega) (fun s' m3 hm3 hs' ho'=>?_));refine kW ?_;exact⟨⟨m3,s',i+1,acc++[92,110]⟩,uH,uH,rfl,rfl,uS,⟨cC hm hm3,by show i+1≤_;omega,hs',ho',by show acc++_=_;rw[hacc,bM,quoteB_take hlt,(qc_nl ou)]⟩,by show s.length-(i+1)<s.length-i;omega⟩
  refine uA ?_;refine ap (fun c2=>?_) (fun c2=>?_)
  ·refine uA ?_;refine qs rfl (OT.appendS tab 0 (bs:=[92,116]) hsl hown rfl rfl rfl rfl rfl rfl rfl rfl rfl rfl rfl (by show acc.length+2≤_;omega) (fun s' m3 hm3 hs' ho'=>?_));refine kW ?_;exact⟨⟨m3,s',i+1,acc++[92,116]⟩,uH,uH,rfl,rfl,uS,⟨cC hm hm3,by show i+1≤_;omega,hs',ho',by show acc++_=_;rw[hacc,bM,quoteB_take hlt,(qc_tab ou)]⟩,by show s.length-(i+1)<s.length-i;omega⟩
  refine uA ?_
  (first | refine TO.splitP rfl rfl (fun c3=>?_) (fun c3=>?_) | refine cK rfl rfl (fun c3=>?_) (fun c3=>?_) | refine TO.split rfl rfl (fun c3=>?_) (fun c3=>?_))
  ·exact eJ
  refine uA ?_;refine ap (fun c4=>?_) (fun c4=>?_)
  ·exact eJ
  refine uA ?_
  (first | refine TO.splitP rfl rfl (fun c5=>?_) (fun c5=>?_) | refine cK rfl rfl (fun c5=>?_) (fun c5=>?_) | refine TO.split rfl rfl (fun c5=>?_) (fun c5=>?_))
  ·refine uA ?_;refine ap (fun c6=>?_) (fun c6=>?_)
   ·refine uA ?_;refine qs rfl (OT.lit tab rfl rfl rfl rfl (fun b=>?_));refine cV fun m2 hm2 hA=>?_;refine qs rfl (cS tab rByte 0 (hsl.mono hm2) hown (c8 (bs:=[s[i]]) (n:=1) hA rfl ov) rfl rfl rfl rfl rfl rfl rfl (by show(acc.length+1)*1≤_;omega) (fun s' m3 hm3 hs' ho'=>?_));refine kW ?_;exact⟨⟨m3,s',i+1,acc++[s[i]]⟩,uH,uH,rfl,rfl,uS,⟨cC hm (cC hm2 hm3),by show i+1≤_;omega,hs',ho',by show acc++_=_;rw[hacc,bM,quoteB_take hlt,(qc_one ou ou ou ou)]⟩,by show s.length-(i+1)<s.length-i;omega⟩
   ·refine uA ?_;refine aO [] dc 10 [] (tok sl 1::L) (bj _) ?_;refine cT tab uC uK [0,1,4] uK rfl ?_;refine a8 2 [5] ⟨⟨_,rfl,rfl,rfl,?_⟩,⟨_,rfl,rfl,rfl,?_⟩,trivial⟩
    ·refine OT.shK rfl (.inr rfl) rfl rfl rfl rfl ov (r:=((s[i].toNat / 16:Nat):Int)) (u8_shr4 _) ?_;refine ko ?_;refine a8 3 [5] ⟨⟨_,rfl,rfl,rfl,?_⟩,⟨_,rfl,rfl,rfl,?_⟩,trivial⟩
     ·refine aK tab (s[i].toNat / 16) uH (hexS_get ou) ?_;refine ko ?_;refine af 5 ?_;refine OT.and15 rfl rfl rfl rfl rfl hc ?_;refine kY ?_;exact dG
     ·refine OT.and15 rfl rfl rfl rfl rfl hc ?_;refine ko ?_;refine a8 3 [6] ⟨⟨_,rfl,rfl,rfl,?_⟩,⟨_,rfl,rfl,rfl,?_⟩,trivial⟩
      ·refine aK tab (s[i].toNat / 16) uH (hexS_get ou) ?_;refine kY ?_;exact dG
      ·refine aK tab (s[i].toNat % 16) uH (hexS_get ou) ?_;refine kZ ?_;exact dG
    ·refine OT.and15 rfl rfl rfl rfl rfl hc ?_;refine ko ?_;refine a8 2 [6] ⟨⟨_,rfl,rfl,rfl,?_⟩,⟨_,rfl,rfl,rfl,?_⟩,trivial⟩
     ·refine OT.shK rfl (.inr rfl) rfl rfl rfl rfl ov (r:=((s[i].toNat / 16:Nat):Int)) (u8_shr4 _) ?_;refine ko ?_;refine a8 3 [6] ⟨⟨_,rfl,rfl,rfl,?_⟩,⟨_,rfl,rfl,rfl,?_⟩,trivial⟩
      ·refine aK tab (s[i].toNat / 16) uH (hexS_get ou) ?_;refine kY ?_;exact dG
      ·refine aK tab (s[i].toNat % 16) uH (hexS_get ou) ?_;refine kZ ?_;exact dG
     ·refine aK tab (s[i].toNat % 16) uH (hexS_get ou) ?_;refine mW ?_;refine kZ ?_;exact dG
  ·refine uA ?_;refine aO [] dc 10 [] (tok sl 1::L) (bj _) ?_;refine cT tab uC uK [0,1,4] uK rfl ?_;refine a8 2 [5] ⟨⟨_,rfl,rfl,rfl,?_⟩,⟨_,rfl,rfl,rfl,?_⟩,trivial⟩
   ·refine OT.shK rfl (.inr rfl) rfl rfl rfl rfl ov (r:=((s[i].toNat / 16:Nat):Int)) (u8_shr4 _) ?_;refine ko ?_;refine a8 3 [5] ⟨⟨_,rfl,rfl,rfl,?_⟩,⟨_,rfl,rfl,rfl,?_⟩,trivial⟩
    ·refine aK tab (s[i].toNat / 16) uH (hexS_get ou) ?_;refine ko ?_;refine af 5 ?_;refine OT.and15 rfl rfl rfl rfl rfl hc ?_;refine kY ?_;exact dG
    ·refine OT.and15 rfl rfl rfl rfl rfl hc ?_;refine ko ?_;refine a8 3 [6] ⟨⟨_,rfl,rfl,rfl,?_⟩,⟨_,rfl,rfl,rfl,?_⟩,trivial⟩
     ·refine aK tab (s[i].toNat / 16) uH (hexS_get ou) ?_;refine kY ?_;exact dG
     ·refine aK tab (s[i].toNat % 16) uH (hexS_get ou) ?_;refine kZ ?_;exact dG
   ·refine OT.and15 rfl rfl rfl rfl rfl hc ?_;refine ko ?_;refine a8 2 [6] ⟨⟨_,rfl,rfl,rfl,?_⟩,⟨_,rfl,rfl,rfl,?_⟩,trivial⟩
    ·refine OT.shK rfl (.inr rfl) rfl rfl rfl rfl ov (r:=((s[i].toNat / 16:Nat):Int)) (u8_shr4 _) ?_;refine ko ?_;refine a8 3 [6] ⟨⟨_,rfl,rfl,rfl,?_⟩,⟨_,rfl,rfl,rfl,?_⟩,trivial⟩
     ·refine aK tab (s[i].toNat / 16) uH (hexS_get ou) ?_;refine kY ?_;exact dG
     ·refine aK tab (s[i].toNat % 16) uH (hexS_get ou) ?_;refine kZ ?_;exact dG
    ·refine aK tab (s[i].toNat % 16) uH (hexS_get ou) ?_;refine mW ?_;refine kZ ?_;exact dG
 ·skip;refine uA ?_;refine qs rfl (OT.lit tab rfl rfl rfl rfl (fun b=>?_));refine cV fun m2 hm2 hA=>?_;refine qs rfl (cS tab rByte 0 (hsl.mono hm2) hown (c8 (bs:=[34]) (n:=1) hA rfl ov) rfl rfl rfl rfl rfl rfl rfl (by show(acc.length+1)*1≤_;omega) (fun s' m3 hm3 hs' ho'=>?_));refine qs rfl (OT.bytesStr tab rfl rfl rfl rfl rfl rfl rfl hs' ow ?_);refine uA ?_;refine ah ⟨cC hm (cC hm2 hm3),rfl,?_⟩;rw[hacc,show s.take i=s from cl ou];rfl
end Go.Sep
namespace Go.Sep
theorem hexB_all : ∀ n:Fin 256,hexB (hexD (n.val / 16)) (hexD (n.val % 16))=some (UInt8.ofNat n.val):=by decide +kernel
theorem hexB_hexD (c:UInt8):hexB (hexD (c.toNat / 16)) (hexD (c.toNat % 16))=some c:=by
 have:=hexB_all ⟨c.toNat,c.toNat_lt⟩;simpa using this
theorem lit_quoteC (c:UInt8) (r:Str):lit (quoteC c++r)=(lit r).map fun p=>(c::p.1,p.2+(quoteC c).length):=by
 by_cases h1:c.toNat=10
 ·have hc:c=10:=UInt8.toNat_inj.1 h1;rw[qc_nl h1,hc];exact(lit_esc_some (c:=92) rfl (esc_n (r:=r) rfl))
 by_cases h2:c.toNat=9
 ·have hc:c=9:=UInt8.toNat_inj.1 h2;rw[qc_tab h2,hc];exact(lit_esc_some (c:=92) rfl (esc_t (r:=r) rfl))
 by_cases h3:c.toNat=34∨c.toNat=92
 ·rw[qc_self h3];exact(lit_esc_some (c:=92) rfl (esc_self (r:=r) h3))
 by_cases h4:32≤c.toNat∧c.toNat≤126
 ·rw[qc_one ou ou h4.1 h4.2];exact lit_one ou h1 ou
 ·rw[qc_hex h1 h2 ou];have he:escB (120::hexD (c.toNat / 16)::hexD (c.toNat % 16)::r)=some (c,3):=by rw[esc_x rfl,hexB_hexD];rfl
  exact lit_esc_some (c:=92) rfl he
theorem lit_quoteB : ∀(s r:Str),lit (quoteB s++34::r)=some (s,(quoteB s).length+1)
 | [],r=>by rw[quoteB,List.flatMap_nil,List.nil_append,lit_quote rfl];rfl
 | c::s,r=>by
  have hq:quoteB (c::s)=quoteC c++quoteB s:=by unfold quoteB;rw[List.flatMap_cons]
  rw[hq,bz,lit_quoteC,lit_quoteB s r];simp;omega
theorem tokD_str {r t:Str} {n:Nat} (h:lit r=some (t,n)):tokD (34::r)=if 1024<t.length then none else some (⟨3,t,0,0⟩,n+1):=by
 have h1:¬ltr 34=true:=ov;have h2:¬dgt 34=true:=ov;rw[tokD,if_neg h1,if_neg h2,if_pos ov,h]
theorem quoteD_len (s:Str):(quoteD s).length=(quoteB s).length+2:=by simp[quoteD]
theorem blk_34 (r:Str):blk false (34::r)=0:=by
 rw[blk,if_neg ov,if_neg (by intro h;exact absurd h.1 ov)]
end Go.Sep
namespace Go.Sep
theorem cutF_ok : ∀(f:Nat) (r:Str) (at_ k:Nat) (l:List Tok),cutF f r at_ k = .ok l→r.length<f→k≤20000→l.length+k≤20000∧(∀ t∈l,(at_:Int)≤t.at_∧t.at_<at_+r.length)∧l.Pairwise (fun a b=>a.at_<b.at_)
 | 0,r,at_,k,l,h,hf,hk=>by omega
 | f+1,r,at_,k,l,h,hf,hk=>by
  have hb:=blk_le false r;rw[cutF]at h;by_cases h1:r.drop (blk false r)=[]
  ·rw[if_pos h1]at h;cases h;exact⟨by simpa using hk,by simp,List.Pairwise.nil⟩
  ·rw[if_neg h1]at h;have hlt:blk false r<r.length:=Nat.lt_of_not_le fun hge=>h1 (cj hge);by_cases h2:k=20000
   ·rw[if_pos h2]at h;cases h
   ·rw[if_neg h2]at h;cases ht:tokD (r.drop (blk false r))with
    | none=>rw[ht]at h;cases h
    | some p =>
     obtain⟨t,n⟩:=p;rw[ht]at h;simp only at h;have hn:=tokD_le ht;rw[bX]at hn;cases hc:cutF f ((r.drop (blk false r)).drop n) (at_+blk false r+n) (k+1)with
     | error e=>rw[hc]at h;cases h
     | ok l' =>
      rw[hc]at h;cases h;obtain⟨g1,g2,g3⟩:=cutF_ok f _ _ _ _ hc qq ou;have g2':∀ t∈l',((at_+blk false r+n:Nat):Int)≤t.at_∧t.at_<at_+r.length:=fun t ht=>by
       have:=g2 t ht;rw[bX,bX]at this;omega
      refine⟨by simp only[be];omega,fun t' ht'=>?_,List.pairwise_cons.2 ⟨fun t' ht'=>?_,g3⟩⟩
      ·rcases List.mem_cons.1 ht' with rfl | ht'
       ·simp only;omega
       ·have:=g2' t' ht';omega
      ·have:=g2' t' ht';simp only;omega
theorem cutF_err : ∀(f:Nat) (r:Str) (at_ k a:Nat) (e:Int),cutF f r at_ k = .error (a,e)→r.length<f→at_≤a∧a<at_+r.length∧(e=3∨e=4)
 | 0,r,at_,k,a,e,h,hf=>by omega
 | f+1,r,at_,k,a,e,h,hf=>by
  have hb:=blk_le false r;rw[cutF]at h;by_cases h1:r.drop (blk false r)=[]
  ·rw[if_pos h1]at h;cases h
  ·rw[if_neg h1]at h;have hlt:blk false r<r.length:=Nat.lt_of_not_le fun hge=>h1 (cj hge);by_cases h2:k=20000
   ·rw[if_pos h2]at h;exact jQ
   ·rw[if_neg h2]at h;cases ht:tokD (r.drop (blk false r))with
    | none =>
     rw[ht]at h;exact jQ
    | some p =>
     obtain⟨t,n⟩:=p;rw[ht]at h;simp only at h;have hn:=tokD_le ht;rw[bX]at hn;cases hc:cutF f ((r.drop (blk false r)).drop n) (at_+blk false r+n) (k+1)with
     | ok l=>rw[hc]at h;cases h
     | error e' =>
      rw[hc]at h;simp only[Except.error.injEq]at h;subst h;have:=cutF_err f _ _ _ _ _ hc qq;rw[bX,bX]at this;omega
theorem scanD_cases (s:Str):(65536<s.length∧scanD s=⟨[],0,13⟩) ∨
  (s.length≤65536∧∃ l:List Tok,scanD s=⟨l,0,0⟩∧cutF (s.length+1) s 0 0 = .ok l∧l.length≤20000∧(∀ t∈l,0≤t.at_∧t.at_<s.length)∧l.Pairwise (fun a b=>a.at_<b.at_)) ∨
  (s.length≤65536∧∃ a e,scanD s=⟨[],a,e⟩∧a<s.length∧(e=4∨(e=3∧(scanD (s.take a)).e=0))):=by
 by_cases hl:65536<s.length
 ·exact .inl ⟨hl,by rw[scanD,if_pos hl]⟩
 ·refine .inr ?_;have hs:scanD s = .of (cutF (s.length+1) s 0 0):=by rw[scanD,if_neg hl]
  cases hc:cutF (s.length+1) s 0 0 with
  | ok l =>
   obtain⟨h1,h2,h3⟩:=cutF_ok _ _ _ _ _ hc ou ou;refine .inl ⟨by omega,l,by rw[hs,hc];rfl,rfl,by omega,fun t ht=>?_,h3⟩;have:=h2 t ht;omega
  | error x =>
   obtain⟨a,e⟩:=x;obtain⟨h1,h2,h3⟩:=cutF_err _ _ _ _ _ _ hc ou;refine .inr ⟨by omega,a,e,by rw[hs,hc];rfl,by omega,?_⟩;rcases h3 with rfl | rfl
   ·refine .inr ⟨rfl,?_⟩;obtain⟨_,_,h4⟩:=cutF_take _ _ _ _ _ hc ou;obtain⟨l,hl2⟩:=h4 (a+1) ou;rw[Nat.sub_zero]at hl2;rw[scanD,if_neg pd,show(s.take a).length=a by rw[bW];omega,hl2];rfl
   ·exact .inl rfl
theorem scanD_len (s:Str):(scanD s).list.length≤20000:=by
 rcases scanD_cases s with ⟨_,h⟩ | ⟨_,l,h,_,h2,_⟩ | ⟨_,a,e,h,_⟩
 ·rw[h];exact cm _
 ·rw[h];exact h2
 ·rw[h];exact cm _
end Go.Sep
namespace Go.Sep
def valN : Str→Nat→Nat
 | [],a=>a
 | c::r,a=>valN r (a*10+(c.toNat-48))
theorem valN_ge : ∀(s:Str) (a:Nat),a≤valN s a
 | [],a=>bI _
 | c::r,a=>by
  have:=valN_ge r (a*10+(c.toNat-48));rw[valN];omega
theorem dgt_le {c:UInt8} (h:dgt c=true):48≤c.toNat∧c.toNat≤57:=of_decide_eq_true h
theorem dv_dgt {c:UInt8} (h:dgt c=true):dv c=some (c.toNat-48):=dv_dig (dgt_le h).1 (dgt_le h).2
theorem pU_val : ∀(s:Str) (a:Nat),s.all dgt=true→valN s a≤18446744073709551615→pU 10 18446744073709551615 s a=some (valN s a)
 | [],a,_,_=>rfl
 | c::r,a,h,hv=>by
  rw[cq,bu]at h;have hc:=dgt_le h.1;rw[valN]at hv;have:=valN_ge r (a*10+(c.toNat-48));rw[pU,dv_dgt h.1];simp only;rw[if_pos ⟨by omega,by omega⟩,pU_val r _ h.2 hv,valN]
theorem numOf_val {s:Str} (h:s.all dgt=true) (hv:valN s 0<9223372036854775808):numOf s=some (valN s 0):=by
 rw[numOf,pU_val s 0 h ou];simp only;rw[if_pos hv]
theorem dgt_lod {c:UInt8} (h:dgt c=true):lod c=true:=by unfold lod;rw[h];simp
theorem dgt_nltr {c:UInt8} (h:dgt c=true):¬ltr c=true:=by rw[dgt_ltr,h];simp
theorem all_dgt_lod {s:Str} (h:s.all dgt=true):s.all lod=true:=List.all_eq_true.2 fun x hx=>dgt_lod (List.all_eq_true.1 h x hx)
theorem takeWhile_app {p:UInt8→Bool}:∀(s r:Str),s.all p=true→(s++r).takeWhile p=s++r.takeWhile p
 | [],r,_=>rfl
 | c::s,r,h=>by
  rw[cq,bu]at h;rw[bM,List.takeWhile_cons,if_pos h.1,takeWhile_app s r h.2];rfl
theorem span_app {p:UInt8→Bool} {s r:Str} (h:s.all p=true):spanOf p (s++r)=s.length+spanOf p r:=by
 unfold spanOf;rw[takeWhile_app s r h,ba]
theorem span_stop {p:UInt8→Bool} {c:UInt8} {r:Str} (h:p c=false):spanOf p (c::r)=0:=by
 unfold spanOf;rw[List.takeWhile_cons,if_neg (by rw[h];decide)];rfl
structure Dec (s:Str) (n:Nat):Prop where
 pos:s≠[]
 dig:s.all dgt=true
 val:valN s 0=n
 lead:s.head?≠some 48∨s.length=1
theorem tok_num {s:Str} {n:Nat} {c:UInt8} {r:Str} (h:Dec s n) (hn:n<9223372036854775808) (hc:lod c=false):tokD (s++c::r)=some (⟨2,[],n,0⟩,s.length):=by
 have hd:dgt c=false:=by
  cases hd:dgt c with
  | false=>rfl
  | true=>rw[dgt_lod hd]at hc;cases hc
 have hs1:spanOf lod (s++c::r)=s.length:=by rw[span_app (all_dgt_lod h.dig),span_stop hc];omega
 have hs2:spanOf dgt (s++c::r)=s.length:=by rw[span_app h.dig,span_stop hd];omega
 have ht:(s++c::r).take s.length=s:=ow;have hnum:numOf s=some n:=by rw[numOf_val h.dig (by rw[h.val];exact hn),h.val]
 have hlead:=h.lead;obtain⟨x,s',rfl⟩:∃ x s',s=x::s':=by
  cases s with
  | nil=>exact absurd rfl h.pos
  | cons x s'=>exact⟨x,s',rfl⟩
 have hdx:dgt x=true:=List.all_eq_true.1 h.dig x ow;rw[bM]at hs1 hs2 ht ⊢;rw[tokD,if_neg (dgt_nltr hdx),if_pos hdx,hs1,ht,hnum];simp only;rw[if_neg];rintro(⟨h1,h2⟩ | h3)
 ·rcases hlead with h4 | h4
  ·exact h4 (by rw[List.head?_cons];congr 1;exact UInt8.toNat_inj.1 h1)
  ·omega
 ·exact h3 hs2
theorem blk_dgt {c:UInt8} {r:Str} (h:dgt c=true):blk false (c::r)=0:=by
 have:=dgt_le h;rw[blk,if_neg,if_neg]
 ·rintro⟨h1,_⟩;omega
 ·unfold isSp;simp only[bH,bE];omega
theorem dec_head {s:Str} {n:Nat} (h:Dec s n):∃ x s',s=x::s'∧dgt x=true:=by
 cases hs:s with
 | nil=>exact absurd hs h.pos
 | cons x s'=>exact⟨x,s',rfl,List.all_eq_true.1 h.dig x (by simp[hs])⟩
structure DecAt (s:Str) (k n:Nat):Prop where
 dig:s.all dgt=true
 val:k*10 ^ s.length+valN s 0=n
 lead:k=0→s≠[]→s.head?≠some 48∨s.length=1
end Go.Sep
namespace Go.Pb
open Go.Ps
open Go.Sep (Tree Str bulkL)
variable {α β:Type}
def FS (f:F):Prop:=∀ i t,f i=some t→t.text.length≤1024
def Wt (c:Nat) (w:α→Nat) (p:Pp α):Prop:=∀ f,FS f→∀ k a k',p f k = .ok a k'→w a+1025*k≤1025*k'+c
theorem Wt.up {c c':Nat} {w:α→Nat} {p:Pp α} (h:Wt c w p) (hc:c≤c'):Wt c' w p:=fun f hf k a k' e=>by have:=h f hf k a k' e;omega
theorem Wt.ret {c:Nat} {w:α→Nat} {a:α} (h:w a≤c):Wt c w (ret a):=fun f hf k b k' e=>by injection e with e1 e2;subst e1;subst e2;omega
theorem Wt.fail {c:Nat} {w:α→Nat}:Wt c w (fail:Pp α):=fun f hf k a k' e=>by cases e
theorem Wt.dry {c:Nat} {w:α→Nat}:Wt c w (dry:Pp α):=fun f hf k a k' e=>by cases e
theorem Wt.bind {c c1:Nat} {w1:α→Nat} {w:β→Nat} {p:Pp α} {g:α→Pp β} (hp:Wt c1 w1 p) (hg:∀ a,∃ d,d≤c+w1 a-c1∧c1≤c+w1 a∧Wt d w (g a)):Wt c w (bind p g):=fun f hf k b k' e=>by
 unfold Ps.bind at e;cases hx:p f k with
 | ok a k1 =>
  simp only[hx]at e;obtain⟨d,h1,h2,h3⟩:=hg a;have h4:=hp f hf k a k1 hx;have h5:=h3 f hf k1 b k' e;omega
 | bad k1=>simp only[hx]at e;cases e
 | out=>simp only[hx]at e;cases e
theorem Wt.bind0 {c:Nat} {w1:α→Nat} {w:β→Nat} {p:Pp α} {g:α→Pp β} (hp:Wt 0 w1 p) (hg:∀ a,Wt (c+w1 a) w (g a)):Wt c w (Ps.bind p g):=Wt.bind hp fun a=>⟨_,bI _,cm _,hg a⟩
theorem Wt.tok {c:Nat} {w:α→Nat} {s:Str} {A B:Pp α} (hA:Wt (c+1025) w A) (hB:Wt c w B):Wt c w (tok s A B):=fun f hf k a k' e=>by
 unfold Ps.tok at e;cases hb:isM s f k with
 | true=>simp only[hb,cy]at e;have:=hA f hf _ a k' e;omega
 | false=>simp only[hb,cx]at e;exact hB f hf k a k' e
theorem Wt.need {c:Nat} {w:α→Nat} {s:Str} {A:Pp α} (hA:Wt (c+1025) w A):Wt c w (need s A):=Wt.tok hA Wt.fail
theorem Wt.tkn {c:Nat} {w:α→Nat} {n:Int} {A:Tk→Pp α} {B:Pp α} (hA:∀ t,t.text.length≤1024→Wt (c+1025) w (A t)) (hB:Wt c w B):Wt c w (tkn n A B):=fun f hf k a k' e=>by
 unfold Ps.tkn at e;cases hx:f k with
 | none=>simp only[hx]at e;exact hB f hf k a k' e
 | some t =>
  cases hb:decide (t.kind=n)with
  | true=>simp only[hx,hb,cy]at e;have:=hA t (hf k t hx) f hf _ a k' e;omega
  | false=>simp only[hx,hb,cx]at e;exact hB f hf k a k' e
theorem Wt.name {c:Nat} {w:α→Nat} {A:Str→Pp α} (hA:∀ t,t.length≤1024→Wt (c+1025) w (A t)):Wt c w (name A):=Wt.tkn (fun t ht=>hA t.text ht) Wt.fail
theorem Wt.oneOf {c:Nat} {w:α→Nat} {ops:List Str} {A:Str→Pp α} {B:Pp α} (hA:∀ t∈ops,Wt (c+1025) w (A t)) (hB:Wt c w B):Wt c w (oneOf ops A B):=fun f hf k a k' e=>by
 unfold Ps.oneOf at e;cases hx:ops.find? (fun s=>isM s f k)with
 | none=>simp only[hx]at e;exact hB f hf k a k' e
 | some t=>simp only[hx]at e;have:=hA t (List.mem_of_find?_eq_some hx) f hf _ a k' e;omega
theorem Wt.peek {c:Nat} {w:α→Nat} {q:F→Nat→Bool} {A B:Pp α} (hA:Wt c w A) (hB:Wt c w B):Wt c w (peek q A B):=fun f hf k a k' e=>by
 exact fz
theorem Wt.tokIf {c:Nat} {w:α→Nat} {x:Bool} {s:Str} {A B:Pp α} (hA:Wt (c+1025) w A) (hB:Wt c w B):Wt c w (tokIf x s A B):=by
 cases x with
 | true=>exact Wt.tok hA hB
 | false=>exact hB
@[reducible] def T0 (p:Pp Tree):Prop:=Wt 0 Tree.bulk p
@[reducible] def L0 (p:Pp (List Tree)):Prop:=Wt 0 bulkL p
theorem szL_app (a b:List Tree):bulkL (a++b)=bulkL a+bulkL b:=by
 induction a with
 | nil=>simp[bulkL]
 | cons x l ih=>simp only[bM,bulkL,ih];omega
theorem sz_mk (k:Int) (s:Str) (n:Int) (ks:List Tree):(Tree.mk k s n ks).bulk=1+s.length+bulkL ks:=by simp only[Tree.bulk]
theorem sz_leaf (k:Int) (s:Str):(leaf k s).bulk=1+s.length:=by simp only[leaf,Tree.bulk,bulkL];omega
theorem commas_wt {X:Pp Tree} (h:T0 X):∀ j,L0 (commas j X)
 | 0=>Wt.dry
 | j+1=>Wt.bind0 h fun a=>Wt.tok (Wt.bind0 (commas_wt h j) fun l=>Wt.ret o7) (Wt.ret o7)
theorem upto_wt {X:Pp Tree} {s:Str} (h:T0 X):∀ j,L0 (upto j s X)
 | 0=>Wt.dry
 | j+1=>Wt.tok (Wt.ret o7) (Wt.bind0 h fun a=>Wt.bind0 (upto_wt h j) fun l=>Wt.ret o7)
variable {N:Nat}
theorem inP_wt {s:Str} {X:Pp Tree} (h:T0 X):L0 (inP N s X):=Wt.tok (Wt.ret o7) (Wt.bind0 (commas_wt h N) fun l=>Wt.need (Wt.ret ou))
theorem results_wt {typ:Pp Tree} (h:T0 typ):L0 (resultsP N typ) :=
 Wt.tok (Wt.bind0 (commas_wt h N) fun l=>Wt.need (Wt.ret ou)) (Wt.peek (Wt.bind0 h fun t=>Wt.ret o7) (Wt.ret o7))
theorem param_wt {typ:Pp Tree} (h:T0 typ):T0 (paramP typ):=Wt.name fun s hs_=>Wt.bind0 h fun t=>Wt.ret pu
theorem sigLike_wt {kind:Int} {X typ:Pp Tree} (hX:T0 X) (h:T0 typ):T0 (sigLike N kind X typ) :=
 Wt.need (Wt.bind0 (inP_wt hX) fun ps=>Wt.bind0 (results_wt h) fun rs=>Wt.ret qr)
theorem sig_wt {typ:Pp Tree} (h:T0 typ):T0 (sigP N typ):=sigLike_wt (param_wt h) h
theorem typP_wt {typ:Pp Tree} (h:T0 typ):T0 (typP N typ) :=
 Wt.tok (Wt.bind0 h fun t=>Wt.ret oV) (Wt.tok (Wt.need (Wt.bind0 h fun t=>Wt.ret oV)) (Wt.tok ((sigLike_wt h h).up ou) (Wt.name fun s hs_=>Wt.ret pT)))
theorem field_wt {mb:Pp Tree} (h:T0 mb):T0 (fieldP mb):=Wt.name fun s hs_=>Wt.bind0 h fun t=>Wt.need (Wt.ret pu)
theorem body_wt {kind:Int} {nm:Str} {mb:Pp Tree} (hnm:nm.length≤1024) (h:T0 mb):T0 (bodyP N kind nm mb):=Wt.need (Wt.bind0 (upto_wt (field_wt h) N) fun l=>Wt.ret (by(simp only[sz_mk];omega)))
theorem typeDecl_wt {typ:Pp Tree} (h:T0 typ):T0 (typeDeclP N typ):=Wt.name fun nm hnm_=>Wt.tok ((body_wt hnm_ (sig_wt h)).up ou) (Wt.need ((body_wt hnm_ h).up ou))
theorem decl_wt {typ block:Pp Tree} (h:T0 typ) (hb:T0 block):T0 (declP N typ block):=by
 refine Wt.tok ((typeDecl_wt h).up ou) (Wt.need (Wt.tok ?_ ?_))
 ·exact Wt.name fun recv hrecv_=>Wt.need (Wt.name fun of hof_=>Wt.need (Wt.name fun nm hnm_=>Wt.bind0 (sig_wt h) fun s=>Wt.bind0 hb fun b=>Wt.ret (by simp only[sz_mk,bulkL,recvT,sz_leaf,bg];omega)))
 ·exact Wt.name fun nm hnm_=>Wt.bind0 (sig_wt h) fun s=>Wt.bind0 hb fun b=>Wt.ret pu
theorem block_wt {stmt:Pp Tree} (h:T0 stmt):T0 (blockP N stmt):=Wt.need (Wt.bind0 (upto_wt h N) fun l=>Wt.ret pV)
theorem branch_wt {expr block branch:Pp Tree} (he:T0 expr) (hb:T0 block) (hr:T0 branch):T0 (branchP expr block branch) :=
 Wt.need (Wt.bind0 he fun c=>Wt.bind0 hb fun b=>Wt.tok (Wt.peek (Wt.bind0 hr fun e=>Wt.ret oV) (Wt.bind0 hb fun e=>Wt.ret oV)) (Wt.ret oV))
theorem for_wt {expr block:Pp Tree} (he:T0 expr) (hb:T0 block):Wt 1025 Tree.bulk (forP expr block) :=
 Wt.peek (Wt.bind0 hb fun b=>Wt.ret oV) (Wt.bind0 he fun c=>Wt.bind0 hb fun b=>Wt.ret oV)
theorem assign_wt {expr:Pp Tree} {left:List Tree} (he:T0 expr):Wt (bulkL left+1025) Tree.bulk (assignP N expr left):=by
 refine Wt.tokIf (Wt.bind0 (commas_wt he N) fun l=>Wt.ret qr) (Wt.tokIf (Wt.bind0 (commas_wt he N) fun l=>Wt.ret qr) ?_);cases isC1 left with
 | true=>exact Wt.peek (Wt.ret pV) Wt.fail
 | false=>exact Wt.fail
theorem simple_wt {typ expr:Pp Tree} (h:T0 typ) (he:T0 expr):Wt 1025 Tree.bulk (simpleP N typ expr):=by
 refine Wt.tok (Wt.name fun s hs_=>Wt.bind0 h fun t=>Wt.tok (Wt.bind0 he fun e=>Wt.ret pu) (Wt.ret pu)) ?_;refine Wt.tok (Wt.peek (Wt.ret pI) (Wt.bind0 (commas_wt he N) fun l=>Wt.ret pV)) ?_;refine Wt.tok (Wt.ret pI) (Wt.tok (Wt.ret pI) ?_);exact Wt.bind0 (commas_wt he N) fun l=>(assign_wt he).up ou
theorem exprs_wt {s:Str} {expr:Pp Tree} (he:T0 expr):L0 (exprsP N s expr):=inP_wt he
theorem cut_wt {expr:Pp Tree} {num:Int} {ks:List Tree} {c:Nat} (he:T0 expr) (hc:bulkL ks≤c):Wt c Tree.bulk (cutP expr num ks) :=
 Wt.need (Wt.tok (Wt.ret pV) (Wt.bind0 he fun e=>Wt.need (Wt.ret (by(simp only[sz_mk,bulkL,szL_app,bg];omega)))))
theorem index_wt {expr:Pp Tree} {n:Tree} (he:T0 expr):Wt n.bulk Tree.bulk (indexP expr n) :=
 Wt.peek (cut_wt he o7) (Wt.bind0 he fun e=>Wt.tok (Wt.ret oV) (cut_wt he o7))
theorem post_wt {expr:Pp Tree} (he:T0 expr):∀(j:Nat) (n:Tree),Wt n.bulk Tree.bulk (postP N expr j n)
 | 0,n=>Wt.dry
 | j+1,n=>by
  refine Wt.tok (Wt.name fun s hs_=>(post_wt he j _).up pu) (Wt.tok (Wt.bind (index_wt he) fun t=>⟨_,?_,?_,post_wt he j t⟩) (Wt.tok (Wt.bind0 (exprs_wt he) fun l=>(post_wt he j _).up oV) (Wt.ret (bI _))))
  ·omega
  ·omega
theorem prim_wt {typ block expr:Pp Tree} {h:Bool} (ht:T0 typ) (hb:T0 block) (he:T0 expr):T0 (primP N typ block expr h):=by
 refine Wt.tkn (fun t ht_=>Wt.ret oV) (Wt.tkn (fun t ht_=>Wt.ret pT) (Wt.tok (Wt.ret oV) (Wt.tok (Wt.ret pI) (Wt.tok (Wt.ret pI) ?_))));refine Wt.tok (Wt.bind0 he fun t=>Wt.need (Wt.ret ou)) ?_;refine Wt.tok (Wt.need (Wt.bind0 ht fun t=>Wt.need (Wt.bind0 (exprs_wt he) fun l=>Wt.ret oV))) ?_;refine Wt.tok (Wt.bind0 (sig_wt ht) fun s=>Wt.bind0 hb fun b=>Wt.ret oV) (Wt.name fun s hs_=>?_);cases h with
 | true=>exact Wt.ret pT
 | false=>exact Wt.tok (Wt.bind0 (exprs_wt he) fun l=>Wt.ret (by(simp only[sz_mk];omega))) (Wt.ret pT)
theorem loopB_wt {X:Pp Tree} {ops:List Str} (h:T0 X) (ho:∀ s∈ops,s.length≤1024):∀(j:Nat) (n:Tree),Wt n.bulk Tree.bulk (loopB j ops X n)
 | 0,n=>Wt.dry
 | j+1,n=>Wt.oneOf (fun op hop=>Wt.bind0 h fun m=>(loopB_wt h ho j _).up (by have:=ho op hop;simp only[binT,sz_mk,bulkL];omega)) (Wt.ret (bI _))
theorem binL_wt {U:Pp Tree} (hU:T0 U):∀ l:List (List Str),(∀ ops∈l,∀ s∈ops,s.length≤1024)→T0 (binL N U l)
 | [],_=>hU
 | ops::rest,hl=>Wt.bind0 (binL_wt hU rest fun o ho=>hl o (by simp[ho])) fun n=>(loopB_wt (binL_wt hU rest fun o ho=>hl o (by simp[ho])) (hl ops ow) N n).up ou
theorem levels_short : ∀ ops∈levels,∀ s∈ops,s.length≤1024:=by decide
theorem ops_short : ∀ s∈([[45],[33],[38],[42]]:List Str),s.length≤1024:=by decide
theorem semi_wt {p:Pp Tree} (h:Wt 1025 Tree.bulk p):T0 (Ps.bind p fun s=>Ps.need [59] (Ps.ret s)):=fun f hf k b k' e=>by
 unfold Ps.bind at e;cases hx:p f k with
 | ok a k1 =>
  simp only[hx]at e;have h4:=h f hf k a k1 hx;unfold Ps.need Ps.tok at e;cases hb:isM [59] f k1 with
  | true =>
   simp only[hb,cy]at e;injection e with e1 e2
   subst e1 e2;omega
  | false=>simp only[hb,cx]at e;cases e
 | bad k1=>simp only[hx]at e;cases e
 | out=>simp only[hx]at e;cases e
structure GWt (g:Gr):Prop where
 typ:T0 g.typ
 block:T0 g.block
 stmt:T0 g.stmt
 branch:T0 g.branch
 expr:∀ b,T0 (g.expr b)
 unary:∀ b,T0 (g.unary b)
theorem gwt : ∀ n,GWt (gr N n)
 | 0=>⟨Wt.dry,Wt.dry,Wt.dry,Wt.dry,fun _=>Wt.dry,fun _=>Wt.dry⟩
 | n+1=>by
  have IH:=gwt n;refine⟨typP_wt IH.typ,block_wt IH.stmt,?_,branch_wt (IH.expr _) IH.block IH.branch,fun b=>binL_wt (IH.unary b) _ levels_short,fun b=>?_⟩
  ·exact Wt.peek IH.block (Wt.peek IH.branch (Wt.tok (for_wt (IH.expr _) IH.block) (semi_wt (simple_wt IH.typ (IH.expr _)))))
  ·exact Wt.oneOf (fun op hop=>Wt.bind0 (IH.unary b) fun t=>Wt.ret (by have:=ops_short op hop;(simp only[sz_mk,bulkL];omega))) (Wt.bind0 (prim_wt IH.typ IH.block (IH.expr _)) fun t=>(post_wt (IH.expr _) N t).up ou)
theorem declG_wt (n:Nat):T0 (declG N n):=decl_wt (gwt n).typ (gwt n).block
theorem progL_wt {decl:Pp Tree} (h:T0 decl):∀ j,L0 (progL decl j)
 | 0=>Wt.dry
 | j+1=>fun f hf k a k' e=>by
  have hr:L0 (bind decl fun a=>bind (progL decl j) fun l=>ret (a::l)):=Wt.bind0 h fun a=>Wt.bind0 (progL_wt h j) fun l=>Wt.ret o7;unfold progL at e;cases hb:(f k).isNone with
  | true=>simp only[hb,cy]at e;injection e with e1 e2;subst e1;subst e2;simp only[bulkL];omega
  | false=>simp only[hb,cx]at e;exact hr f hf k a k' e
theorem program_wt (M:Nat):L0 (Ps.program M):=progL_wt (declG_wt _) _
end Go.Pb
namespace Go.Sep
theorem scanD_ok {s:Str} (h:(scanD s).e=0):s.length≤65536∧cutF (s.length+1) s 0 0 = .ok (scanD s).list:=by
 by_cases h1:65536<s.length
 ·rw[scanD,if_pos h1]at h;cases h
 have hD:scanD s = .of (cutF (s.length+1) s 0 0):=by rw[scanD,if_neg h1]
 refine⟨by omega,?_⟩;rw[hD]at h ⊢;cases hc:cutF (s.length+1) s 0 0 with
 | ok l=>rfl
 | error e =>
  obtain⟨a,e⟩:=e;rw[hc]at h;replace h:e=0:=h;have:=(cutF_err _ _ _ _ _ _ hc ou).2.2;omega
end Go.Sep
namespace Go.Sep
def tkF (l:List Tok):Ps.F:=fun i=>match l[i]? with
 | some t=>some ⟨t.kind,t.text,t.num⟩
 | none=>none
def placeD (s:Str) (l:List Tok) (k:Nat):Int:=match l[k]? with
 | some t=>t.at_
 | none=>(s.length:Int)
structure PA where
 tree:Tree
 at_:Int
 e:Int
def emptyT : Tree:=.mk 0 [] 0 []
def parseL (s:Str) (l:List Tok):PA :=
 match Ps.program l.length (tkF l) 0 with
 | .ok ds _=>if (Tree.mk 1 [] 0 ds).size≤20000∧(Tree.mk 1 [] 0 ds).deep≤100 then ⟨.mk 1 [] 0 ds,0,0⟩else ⟨emptyT,0,4⟩
 | .bad k=>⟨emptyT,placeD s l k,3⟩
 | .out=>⟨emptyT,0,0⟩
def parseD (s:Str):PA:=if (scanD s).e=0 then parseL s (scanD s).list else ⟨emptyT,((scanD s).at_:Int),(scanD s).e⟩
def ParseR (a:PA) (r:Value) (m':Mem):Prop:=∃ x,r = .tuple ⟨[treeV x,.int .i64 a.at_,.int .i64 a.e]⟩∧TreeRep m' x a.tree
theorem emptyT_rep (m:Mem):TreeRep m ⟨0,[],0,⟨none,0,0⟩⟩ emptyT:=⟨rfl,rfl,rfl,cR _ _⟩
end Go.Sep
namespace Go.Sep
theorem tkF_none (l:List Tok):∀ i,l.length≤i→tkF l i=none:=fun i h=>by unfold tkF;rw[List.getElem?_eq_none h]
theorem program_ne (l:List Tok):Ps.program l.length (tkF l) 0≠.out:=(Ps.Run.program (tkF_none l)).out 0 (bI _) (cm _)
end Go.Sep
namespace Go.Sep
structure TOk (t:Tok):Prop where
 name:t.kind=1→isName t.text=true
 num:t.kind=2→0≤t.num
 short:t.text.length≤1024
theorem take_span (p:UInt8→Bool) (s:Str):s.take (spanOf p s)=s.takeWhile p:=(List.prefix_iff_eq_take.1 (List.takeWhile_prefix p)).symm
theorem tokD_ok {s:Str} {t:Tok} {n:Nat} (h:tokD s=some (t,n)):TOk t:=by
 cases s with
 | nil=>cases h
 | cons c r =>
  rw[tokD]at h;by_cases h1:ltr c=true
  ·rw[if_pos h1]at h;by_cases h64:64<spanOf lod (c::r)
   ·rw[if_pos h64]at h;cases h
   rw[if_neg h64,take_span]at h;have hlen:((c::r).takeWhile lod).length≤64:=by unfold spanOf at h64;omega
   have hc:lod c=true:=by unfold lod;rw[h1];rfl
   by_cases hw:(c::r).takeWhile lod∈wordL
   ·rw[if_pos hw]at h;cases h;exact⟨fun e=>oT,fun e=>oT,by show((c::r).takeWhile lod).length≤1024;omega⟩
   ·rw[if_neg hw]at h;cases h;refine⟨fun _=>?_,fun e=>oT,by show((c::r).takeWhile lod).length≤1024;omega⟩;show isName ((c::r).takeWhile lod)=true;have hall:((c::r).takeWhile lod).all lod=true:=List.all_takeWhile;have e:(c::r).takeWhile lod=c::r.takeWhile lod:=List.takeWhile_cons_of_pos hc;rw[isName_eq (by rw[e];simp),bS hlen,hall,bU hw];simp only[e,List.getElem_cons_zero,h1];rfl
  ·rw[if_neg h1]at h;by_cases h2:dgt c=true
   ·rw[if_pos h2]at h;split at h
    ·cases h
    ·split at h
     ·cases h
     ·cases h;exact⟨fun e=>oT,fun _=>Int.natCast_nonneg _,cm _⟩
   ·rw[if_neg h2]at h;by_cases h3:c.toNat=34
    ·rw[if_pos h3]at h;cases hl:lit r with
     | none=>rw[hl]at h;cases h
     | some p =>
      obtain⟨t',n'⟩:=p;rw[hl]at h;simp only at h;split at h
      ·cases h
      ·cases h;exact⟨fun e=>oT,fun e=>oT,by show t'.length≤1024;omega⟩
    ·rw[if_neg h3]at h;cases hf:markL.find? (fun p=>prefixB p (c::r))with
     | none=>rw[hf]at h;cases h
     | some p =>
      rw[hf]at h;cases h;have hm:∀ p∈markL,p.length≤1024:=ov;exact⟨fun e=>oT,fun e=>oT,hm p (List.mem_of_find?_eq_some hf)⟩
theorem cutF_toks : ∀(f:Nat) (r:Str) (at_ k:Nat) (l:List Tok),cutF f r at_ k = .ok l→∀ t∈l,TOk t
 | 0,r,at_,k,l,h=>by cases h
 | f+1,r,at_,k,l,h=>by
  rw[cutF]at h;by_cases h1:r.drop (blk false r)=[]
  ·rw[if_pos h1]at h;injection h with h
   subst h;intro t ht;cases ht
  rw[if_neg h1]at h;by_cases h2:k=20000
  ·rw[if_pos h2]at h;cases h
  rw[if_neg h2]at h;cases ht:tokD (r.drop (blk false r))with
  | none=>rw[ht]at h;cases h
  | some p =>
   obtain⟨u,n⟩:=p;rw[ht]at h;simp only at h;cases hc:cutF f ((r.drop (blk false r)).drop n) (at_+blk false r+n) (k+1)with
   | error e=>rw[hc]at h;cases h
   | ok l' =>
    rw[hc]at h;simp only[Except.ok.injEq]at h;subst h;intro t hm;rcases List.mem_cons.1 hm with rfl | hm
    ·have:=tokD_ok ht;exact⟨this.name,this.num,this.short⟩
    ·exact cutF_toks f _ _ _ _ hc t hm
theorem toks_ok {s:Str} (h:(scanD s).e=0):∀ t∈(scanD s).list,TOk t:=cutF_toks _ _ _ _ _ (scanD_ok h).2
theorem tkF_tok {l:List Tok} {i:Nat} {t:Ps.Tk} (h:tkF l i=some t):∃ u∈l,t=⟨u.kind,u.text,u.num⟩:=by
 unfold tkF at h;cases hx:l[i]? with
 | none=>rw[hx]at h;cases h
 | some u =>
  rw[hx]at h;simp only[bD]at h;exact⟨u,List.mem_of_getElem? hx,h.symm⟩
theorem fok_of {s:Str} (h:(scanD s).e=0):Ps.FOk (tkF (scanD s).list):=fun i t ht=>by
 obtain⟨u,hu,rfl⟩:=tkF_tok ht;have:=toks_ok h u hu;exact⟨this.name,this.num,fun _=>this.short⟩
theorem fs_of {s:Str} (h:(scanD s).e=0):Pb.FS (tkF (scanD s).list):=fun i t ht=>by
 obtain⟨u,hu,rfl⟩:=tkF_tok ht;exact(toks_ok h u hu).short
theorem parse_sound {s:Str} {ds:List Tree} {k:Nat} (h:(scanD s).e=0) (hp:Ps.program (scanD s).list.length (tkF (scanD s).list) 0 = .ok ds k) (h1:(Tree.mk 1 [] 0 ds).size≤20000) (h2:(Tree.mk 1 [] 0 ds).deep≤100) :
  soundB (.mk 1 [] 0 ds)=true∧(Tree.mk 1 [] 0 ds).bulk≤140737488355328:=by
 refine⟨Ps.program_sound (fok_of h) hp h1 h2,?_⟩;have e1:=Pb.program_wt _ _ (fs_of h) 0 ds k hp;have e2:=((Ps.Run.program (tkF_none _)).ok 0 (bI _) (cm _) ds k hp).2.1;have e3:=scanD_len s;simp only[Tree.bulk,bg];omega
end Go.Sep
namespace Go.Pt
open Go.Sep Go.Ps
def TkV (t:Tk):Prop :=
 (t.kind=1∧isName t.text=true∧t.num=0)∨(t.kind=2∧t.text=[]∧0≤t.num∧t.num<9223372036854775808)∨(t.kind=3∧t.text.length≤1024∧t.num=0)∨(t.kind=4∧t.text∈markL∧t.num=0)∨(t.kind=5∧t.text∈wordL∧t.num=0)
def txt (t:Tk):Str:=if t.kind=2 then digN t.num.toNat else if t.kind=3 then quoteD t.text else t.text
def stopB (c:UInt8):Bool:=!lod c&&(!decide (c=61)&&(!decide (c=38)&&(!decide (c=124)&&!decide (c=47))))
structure Nx (t:Tk) (R:Str):Prop where
 tk:tokD (txt t++R)=some (⟨t.kind,t.text,t.num,0⟩,(txt t).length)
 bl:blk false (txt t++R)=0
 pos:txt t≠[]
theorem valN_append : ∀(s r:Str) (a:Nat),valN (s++r) a=valN r (valN s a)
 | [],r,a=>rfl
 | c::s,r,a=>by rw[bM,valN,valN,valN_append s r]
theorem digF_dec : ∀(f n:Nat),1≤f→n<10 ^ f→Dec (digF f n) n
 | 0,n,h,_=>by omega
 | f+1,n,_,hn=>by
  have hd:∀ k,k<10→dgt (UInt8.ofNat (48+k))=true∧(UInt8.ofNat (48+k)).toNat-48=k:=by
   intro k hk;have:∀ k:Fin 10,dgt (UInt8.ofNat (48+k.val))=true∧(UInt8.ofNat (48+k.val)).toNat-48=k.val:=ov;exact this ⟨k,hk⟩
  unfold digF;by_cases h:n<10
  ·rw[if_pos h];exact⟨by simp,by rw[cq,(hd n h).1];rfl,by show 0*10+((UInt8.ofNat (48+n)).toNat-48)=n;rw[(hd n h).2];omega,.inr rfl⟩
  ·rw[if_neg h];have hf:1≤f:=by
    exact jz
   have ih:=digF_dec f (n / 10) hf (by rw[Nat.pow_succ]at hn;omega);have hm:=hd (n % 10) ou;refine⟨by simp,?_,?_,.inl ?_⟩
   ·rw[List.all_append,ih.dig,cq,hm.1];rfl
   ·rw[valN_append,ih.val];show n / 10*10+((UInt8.ofNat (48+n % 10)).toNat-48)=n;rw[hm.2];omega
   ·have hp:=ih.pos;obtain⟨x,s,hs⟩:∃ x s,digF f (n / 10)=x::s:=by
     cases hs:digF f (n / 10)with
     | nil=>exact absurd hs hp
     | cons x s=>exact⟨x,s,rfl⟩
    have hl:=ih.lead;have hv:=ih.val;rw[hs]at hl hv ⊢;intro h0;have h0':x=48:=by simpa using h0
    subst h0';rcases hl with h1 | h1
    ·exact h1 rfl
    ·have:s=[]:=by simpa using h1
     subst this;simp[valN]at hv;omega
theorem digN_dec {n:Nat} (h:n<9223372036854775808):Dec (digN n) n:=digF_dec 20 n ov ou
theorem tok_word {x:UInt8} {w:Str} {c:UInt8} {r:Str} (hx:ltr x=true) (hw:(x::w).all lod=true) (hl:(x::w).length≤64) (hc:lod c=false) :
  tokD ((x::w)++c::r)=some (⟨if (x::w)∈wordL then 5 else 1,x::w,0,0⟩,(x::w).length):=by
 have hs:spanOf lod ((x::w)++c::r)=(x::w).length:=by rw[span_app hw,span_stop hc];rfl
 have ht:((x::w)++c::r).take (x::w).length=x::w:=ow;rw[bM]at hs ht ⊢;rw[tokD,if_pos hx,hs,if_neg ou,ht]
theorem blk_one {x:UInt8} {r:Str} (h1:isSp x=false) (h2:x.toNat≠47):blk false (x::r)=0:=by
 rw[blk,if_neg (by rw[h1];decide),if_neg fun h=>h2 h.1]
theorem ltr_blk {x:UInt8} {r:Str} (h:ltr x=true):blk false (x::r)=0:=by
 unfold ltr at h;simp only[bH,bE]at h;refine blk_one ?_ ou;unfold isSp;simp only[Bool.or_eq_false_iff,decide_eq_false_iff_not];omega
theorem name_head {w:Str} (h:isName w=true):∃ x w',w=x::w'∧ltr x=true∧w.all lod=true∧w.length≤64∧w∉wordL:=by
 unfold isName at h;simp only[bu,bE,Bool.not_eq_true']at h;obtain⟨h1,h2,h3,h4,h5⟩:=h;cases w with
 | nil=>simp at h1
 | cons x w' =>
  refine⟨x,w',rfl,?_,h4,h2,by simpa using h5⟩;have:lod x=true:=List.all_eq_true.1 h4 x ow;rw[dgt_ltr,this];simpa using h3
theorem word_head : ∀ w∈wordL,∃ x w',w=x::w'∧ltr x=true∧w.all lod=true∧w.length≤64:=by
 have:∀ w∈wordL,w.head?.any ltr=true∧w.all lod=true∧w.length≤64:=ov;intro w hw;obtain⟨h1,h2,h3⟩:=this w hw;cases w with
 | nil=>simp at h1
 | cons x w'=>exact⟨x,w',rfl,by simpa using h1,h2,h3⟩
theorem prefixB_take (p s:Str) (k:Nat) (h:p.length≤k):prefixB p s=prefixB p (s.take k):=by
 unfold prefixB;rw[List.take_take,show min p.length k=p.length by omega,bW]
 congr 1
 exact decide_eq_decide.2 ou
theorem mark_fin : ∀ m∈markL,∀ c:Fin 256,stopB (UInt8.ofNat c.val)=true→markL.find? (fun p=>prefixB p ((m++[UInt8.ofNat c.val]).take 2))=some m:=by decide +kernel
theorem mark_len : ∀ m∈markL,m.length=1∨m.length=2:=by decide
theorem mark_head : ∀ m∈markL,m.head?.any (fun x=>!ltr x&&(!dgt x&&(!decide (x.toNat=34)&&!isSp x)))=true:=by decide
theorem mark_slash : ∀ m∈markL,m.head? = some 47→m=[47]:=by decide
theorem tok_mark {m:Str} (hm:m∈markL) {c:UInt8} {r:Str} (hc:stopB c=true):tokD (m++c::r)=some (⟨4,m,0,0⟩,m.length)∧blk false (m++c::r)=0:=by
 have h1:=mark_fin m hm ⟨c.toNat,c.toNat_lt⟩ (by simpa using hc);simp only[UInt8.ofNat_toNat]at h1;have h2:(m++c::r).take 2=(m++[c]).take 2:=by
  rcases mark_len m hm with h | h
  ·obtain⟨x,rfl⟩:=List.length_eq_one_iff.1 h;rfl
  ·match m,h with
   | [x,y],_=>rfl
 have h3:markL.find? (fun p=>prefixB p (m++c::r))=some m:=by
  rw[←h1];have e:∀ l:List Str,(∀ p∈l,p.length≤2)→l.find? (fun p=>prefixB p (m++c::r))=l.find? (fun p=>prefixB p ((m++[c]).take 2)):=by
   intro l
   induction l with
   | nil=>intro _;rfl
   | cons p l ih =>
    intro hl;rw[List.find?_cons,List.find?_cons,ih fun q hq=>hl q (by simp[hq]),prefixB_take p (m++c::r) 2 (hl p ow),h2]
  exact e markL ov
 have h4:=mark_head m hm;have h5:=mark_slash m hm;cases m with
 | nil=>simp at h4
 | cons x m' =>
  simp only[List.head?_cons,Option.any_some,bu,Bool.not_eq_true',decide_eq_false_iff_not]at h4;rw[bM]at h3 ⊢;refine⟨by rw[tokD,if_neg (by rw[h4.1];decide),if_neg (by rw[h4.2.1];decide),if_neg h4.2.2.1,h3],?_⟩;by_cases h47:x.toNat=47
  ·have hx:x=47:=UInt8.toNat_inj.1 h47;have:=h5 (by rw[hx];rfl);injection this with _ hm'
   subst hm';rw[blk,if_neg (by rw[h4.2.2.2];decide),if_neg];rintro⟨_,h6⟩;have:c=47:=by simpa using h6
   subst this
   revert hc;decide
  ·exact blk_one h4.2.2.2 h47
theorem Nx.of {t:Tk} (h:TkV t) {c:UInt8} (hc:stopB c=true) (r:Str):Nx t (c::r):=by
 have hl:lod c=false:=by
  unfold stopB at hc;simp only[bu,Bool.not_eq_true']at hc;exact hc.1
 obtain⟨k,w,u⟩:=t;rcases h with ⟨h1,h2,h3⟩ | ⟨h1,h2,h3,h4⟩ | ⟨h1,h2,h3⟩ | ⟨h1,h2,h3⟩ | ⟨h1,h2,h3⟩
 ·obtain rfl:k=1:=h1;obtain rfl:u=0:=h3;have h2':isName w=true:=h2;obtain⟨x,w',rfl,g1,g2,g3,g4⟩:=name_head h2';have ht:=tok_word (r:=r) g1 g2 g3 hl;rw[if_neg g4]at ht;exact⟨ht,ltr_blk g1,by simp[txt]⟩
 ·obtain rfl:k=2:=h1;obtain rfl:w=[]:=h2;have h3':0≤u:=h3;have h4':u<9223372036854775808:=h4;have hd:=digN_dec (n:=u.toNat) ou;have ht:=tok_num (r:=r) hd ou hl;obtain⟨x,s',hs,hx⟩:=dec_head hd;have e:txt ⟨2,[],u⟩=digN u.toNat:=rfl;refine⟨?_,?_,by rw[e];exact hd.pos⟩
  ·rw[e,ht];show some (Tok.mk 2 [] ((u.toNat:Nat):Int) 0,_)=some (Tok.mk 2 [] u 0,_);rw[show((u.toNat:Nat):Int)=u by omega]
  ·rw[e,hs,bM,blk_dgt hx]
 ·obtain rfl:k=3:=h1;obtain rfl:u=0:=h3;have h2':w.length≤1024:=h2;have e:txt ⟨3,w,0⟩=quoteD w:=rfl;refine⟨?_,?_,by rw[e,quoteD];simp⟩
  ·rw[e];have e2:quoteD w++c::r=34::(quoteB w++34::(c::r)):=by rw[quoteD];simp
   rw[e2,tokD_str (lit_quoteB w (c::r)),if_neg ou,quoteD_len]
  ·rw[e,quoteD,bM,blk_34]
 ·obtain rfl:k=4:=h1;obtain rfl:u=0:=h3;have h2':w∈markL:=h2;have:=tok_mark (r:=r) h2' hc;exact⟨this.1,this.2,fun e=>by
   have h4:=mark_head w h2';have e':w=[]:=e;rw[e']at h4;simp at h4⟩
 ·obtain rfl:k=5:=h1;obtain rfl:u=0:=h3;have h2':w∈wordL:=h2;obtain⟨x,w',rfl,g1,g2,g3⟩:=word_head w h2';have ht:=tok_word (r:=r) g1 g2 g3 hl;rw[if_pos h2']at ht;exact⟨ht,ltr_blk g1,by simp[txt]⟩
def lay : List (Tk×Str)→Str
 | []=>[]
 | (t,g)::ps=>txt t++(g++lay ps)
def OkL : List (Tk×Str)→Prop
 | []=>True
 | (t,g)::ps=>Nx t (g++lay ps)∧g.all isSp=true∧OkL ps
theorem lay_blk {ps:List (Tk×Str)} (h:OkL ps):blk false (lay ps)=0:=by
 match ps,h with
 | [],_=>rfl
 | (t,g)::ps,h=>exact h.1.bl
theorem blk_sp : ∀(g r:Str),g.all isSp=true→blk false (g++r)=g.length+blk false r
 | [],r,_=>by simp
 | c::g,r,h=>by
  rw[cq,bu]at h;rw[bM,blk,if_pos h.1,blk_sp g r h.2,be];omega
def bareT (t:Tok):Tk:=⟨t.kind,t.text,t.num⟩
theorem cut_lay : ∀(ps:List (Tk×Str)) (g0:Str) (f at_ k:Nat),OkL ps→g0.all isSp=true→(g0++lay ps).length<f→k≤20000 →
  (k+ps.length≤20000→∃ l,cutF f (g0++lay ps) at_ k = .ok l∧l.map bareT=ps.map Prod.fst)∧(20000<k+ps.length→∃ a,cutF f (g0++lay ps) at_ k = .error (a,4)∧at_+(20000-k)≤a)
 | ps,g0,0,at_,k,_,_,hf,_=>by omega
 | [],g0,f+1,at_,k,_,hg,hf,hk=>by
  have hb:blk false (g0++lay [])=g0.length:=by rw[blk_sp g0 _ hg];rfl
  have hd:(g0++lay []).drop g0.length=[]:=by simp[lay]
  refine⟨fun _=>⟨[],by rw[cutF,hb,hd,if_pos rfl],rfl⟩,fun h=>by simp at h;omega⟩
 | (t,g)::ps,g0,f+1,at_,k,ho,hg,hf,hk=>by
  have hb:blk false (g0++lay ((t,g)::ps))=g0.length:=by rw[blk_sp g0 _ hg,lay_blk ho];omega
  have hd:(g0++lay ((t,g)::ps)).drop g0.length=txt t++(g++lay ps):=by simp[lay]
  have hne:txt t++(g++lay ps)≠[]:=fun e=>ho.1.pos (List.append_eq_nil_iff.1 e).1;have hp:1≤(txt t).length:=List.length_pos_iff.2 ho.1.pos;rw[cutF,hb,hd,if_neg hne];by_cases h20:k=20000
  ·rw[if_pos h20];refine⟨fun h=>by simp at h;omega,fun _=>⟨_,rfl,by omega⟩⟩
  rw[if_neg h20,ho.1.tk];have hd2:(txt t++(g++lay ps)).drop (txt t).length=g++lay ps:=List.drop_left;simp only[hd2];have hlen:(g++lay ps).length<f:=by
   have e:(g0++lay ((t,g)::ps)).length=g0.length+((txt t).length+(g++lay ps).length):=by simp[lay]
   omega
  have ih:=cut_lay ps g f (at_+g0.length+(txt t).length) (k+1) ho.2.2 ho.2.1 hlen ou;refine⟨fun h=>?_,fun h=>?_⟩
  ·obtain⟨l,h1,h2⟩:=ih.1 (by simp at h;omega);rw[h1];exact⟨_,rfl,by rw[bK,bK,h2];rfl⟩
  ·obtain⟨a,h1,h2⟩:=ih.2 (by simp at h;omega);rw[h1];exact⟨a,rfl,by omega⟩
theorem scan_lay {ps:List (Tk×Str)} (h:OkL ps) (hl:(lay ps).length≤65536) :
  (ps.length≤20000→∃ l,scanD (lay ps)=⟨l,0,0⟩∧l.map bareT=ps.map Prod.fst)∧(20000<ps.length→∃ a,scanD (lay ps)=⟨[],a,4⟩∧0<a):=by
 have hc:=cut_lay ps [] ((lay ps).length+1) 0 0 h rfl ow ou;rw[List.nil_append,co]at hc;unfold scanD;rw[if_neg ou];refine⟨fun h1=>?_,fun h1=>?_⟩
 ·obtain⟨l,h2,h3⟩:=hc.1 h1;exact⟨l,by rw[h2];rfl,h3⟩
 ·obtain⟨a,h2,h3⟩:=hc.2 h1;exact⟨a,by rw[h2];rfl,by omega⟩
theorem tkF_bare (l:List Tok):tkF l=fun i=>(l.map bareT)[i]?:=by
 funext i
 unfold tkF;rw[List.getElem?_map];cases l[i]? <;> rfl
theorem parse_lay {ps:List (Tk×Str)} {ds:List Tree} (hs:soundB (.mk 1 [] 0 ds)=true) (ht:ps.map Prod.fst=(ds.map toks).flatten) (h:OkL ps) (hl:(lay ps).length≤65536) :
  parseD (lay ps)=⟨.mk 1 [] 0 ds,0,0⟩∨∃ a:Nat,0<a∧parseD (lay ps)=⟨emptyT,a,4⟩:=by
 have hsc:=scan_lay h hl;rcases Nat.lt_or_ge 20000 ps.length with h1 | h1
 ·obtain⟨a,h2,h3⟩:=hsc.2 h1;refine .inr ⟨a,h3,?_⟩;unfold parseD;rw[h2];rfl
 ·obtain⟨l,h2,h3⟩:=hsc.1 h1;refine .inl ?_;unfold parseD;rw[h2,if_pos rfl];show parseL (lay ps) l=_;have hlen:l.length=(ds.map toks).flatten.length:=by rw[←ht,←h3,bP]
  unfold parseL;rw[tkF_bare,h3,ht,hlen,program_toks hs];obtain⟨ds',e,q1,q2,q3⟩:=soundB_f hs;simp only;rw[if_pos ⟨q1,q2⟩]
end Go.Pt
namespace Go.Sep
open Go.Proofs
attribute [local irreducible] TC TO OT TCallX TCall DO DOt thenQ blockQ retQ At
@[reducible] def bdL (bd:Nat) (q:Option Addr) (s:Sl) (L:List Item):List Item:=.cells bd 0 [.pointer q,s.v]::tok s 1::L
@[reducible] def bdV (bd:Nat):Value:=.pointer (some ⟨bd,0,none⟩)
def Wr (bd:Nat) (m:Mem) (L:List Item) (y:Str):Value→Mem→List Item→Prop:=fun _ m' L'=>m≤m'∧∃ s' q',L'=bdL bd q' s' L∧BOk m' bd q' s' y
theorem writeString_law (m:Mem) (L:List Item) (bd:Nat) (q:Option Addr) (s:Sl) (l bs:Str) (hB:BOk m bd q s l) (hl:l.length+bs.length≤140737488355328) :
  TCall Tryz.prog 129 ⟨[bdV bd,strV bs]⟩ m (bdL bd q s L) (Wr bd m L (l++bs)):=by
 unfold TCall;refine ag Tryz.func129 19 ?_;refine oC goes166 ((copyCheck_law _ _ bd q s.v ⟨_,_,_,rfl⟩ hB.ty hB.q).x ?_);rintro _ _ _ ⟨rfl,rfl⟩;refine kA ?_;refine qs rfl (OT.appendST tab 1 hB.sl hB.own rfl rfl rfl rfl rfl rfl rfl rfl rfl rfl rfl ou hB.row (fun s' m2 hm2 hs2 ho2 hr2 he2=>?_));refine kx ?_;refine cH rfl (ce _) ⟨hm2,s',_,rfl,hB.ty.mono hm2,.inr rfl,hs2,ho2,hr2,fun e=>?_⟩;obtain⟨e1,e2⟩:=List.append_eq_nil_iff.1 e;rw[he2 e2,hB.none e1]
def suffixB (p s:Str):Bool:=decide (p.length≤s.length)&&decide (s.drop (s.length-p.length)=p)
def trimD (s p:Str):Str:=if suffixB p s=true then s.take (s.length-p.length)else s
theorem suffix_lite (m:Mem) (L:List Item) (s p:Str) (hs:s.length≤140737488355328):TCall Tryz.prog 169 ⟨[strV s,strV p]⟩ m L (Ret (.bool (suffixB p s)) m L):=by
 unfold TCall;refine ag Tryz.func169 21 ?_;refine az (fun e1=>?_) (fun e1=>?_)
 ·refine uA ?_;refine aa (r':=(s.length:Int)-(p.length:Int)) uH ou ?_;refine qs rfl (OT.sub tab (s.length-p.length) s.length rfl rfl rfl rfl rfl rfl rfl (.inr (by rw[show(s.length:Int)-(p.length:Int)=((s.length-p.length:Nat):Int) by omega])) (.inl ⟨rfl,rfl⟩) ou (bI _) ?_);refine kP ?_;rw[suffixB,bS (show p.length≤s.length by omega),List.take_length];rfl
 ·refine uA ?_;refine kh ?_;rw[suffixB,bU (show ¬p.length≤s.length by omega)];rfl
theorem trim_lite (m:Mem) (L:List Item) (s p:Str) (hs:s.length≤140737488355328):TCall Tryz.prog 132 ⟨[strV s,strV p]⟩ m L (Ret (strV (trimD s p)) m L):=by
 unfold TCall;refine ag Tryz.func132 16 ?_;refine au goes169 (suffix_lite _ _ s p hs) ?_;refine aQ (t:=suffixB p s) (fun h=>?_) (fun h=>?_)
 ·have hp:p.length≤s.length:=by
   unfold suffixB at h;simp only[bu,bE]at h;exact h.1
  refine uA ?_;refine aa (r':=(s.length:Int)-(p.length:Int)) uH ou ?_;refine qs rfl (OT.sub tab 0 (s.length-p.length) rfl rfl rfl rfl rfl rfl rfl (.inl ⟨rfl,rfl⟩) (.inr (by rw[show(s.length:Int)-(p.length:Int)=((s.length-p.length:Nat):Int) by omega])) (cm _) ou ?_);refine kP ?_;rw[trimD,if_pos h];rfl
 ·refine uA ?_;refine kh ?_;rw[trimD,if_neg (by rw[h];decide)]
theorem trim_law (m:Mem) (L:List Item) (s p:Str) (hs:s.length≤140737488355328):TCall Tryz.prog 80 ⟨[strV s,strV p]⟩ m L (Ret (strV (trimD s p)) m L):=by
 unfold TCall;refine ag Tryz.func80 8 ?_;refine au goes132 (trim_lite _ _ s p hs) ?_;exact fc
def lastB (t:Str):UInt8:=if t=[123]∨t=[125]∨t=[59]then 10 else 32
def putS (t:Str):Str:=t++[lastB t]
def putL (l:List Str):Str:=(l.map putS).flatten
theorem putL_app (l r:List Str):putL (l++r)=putL l++putL r:=by unfold putL;rw[cr,List.flatten_append]
theorem putL_one (t:Str):putL [t]=putS t:=by simp[putL]
def putT (l:List Ps.Tk):Str:=putL (l.map Pt.txt)
theorem putT_app (l r:List Ps.Tk):putT (l++r)=putT l++putT r:=by unfold putT;rw[cr,putL_app]
theorem putT_nil : putT []=[]:=rfl
structure PS where
 m:Mem
 q:Option Addr
 s:Sl
 i:Nat
theorem BOk.cast {m:Mem} {bd:Nat} {q:Option Addr} {s:Sl} {x y:Str} (h:BOk m bd q s x) (e:x=y):BOk m bd q s y:=e▸h
theorem put_law (m:Mem) (L:List Item) (bd:Nat) (q:Option Addr) (s:Sl) (x:Str) (hB:BOk m bd q s x) (sl:Sl) (l:List Ps.Tk) (hs:SlRep rStr m sl (l.map Pt.txt)) (hl:x.length+(putT l).length≤140737488355328) :
  TCall Tryz.prog 78 ⟨[bdV bd,sl.v]⟩ m (bdL bd q s L) (Wr bd m L (x++putT l)):=by
 have hlen:=hs.len;have hsm:=hs.small rfl;unfold TCall;refine ag Tryz.func78 36 ?_;refine cG (ι:=PS) [0,6,7] rfl (fun g=>[(8,.int .i64 (g.i:Int))]) (fun g=>g.m) (fun g=>bdL bd g.q g.s L) (fun g=>m≤g.m∧g.i≤l.length∧BOk g.m bd g.q g.s (x++putT (l.take g.i))) (fun g=>l.length-g.i) ⟨m,q,s,0⟩ uH rfl uS ⟨cB _,cm _,hB.cast (by simp[putT,putL])⟩ ?_;rintro⟨m1,p1,s1,i⟩ ⟨hm1,hi,hB1⟩;simp only at hm1 hi hB1;refine uA ?_;refine ap (fun h1=>?_) (fun h1=>?_)
 ·simp only at h1;have hlt:i<l.length:=by rw[bP]at hlen;omega
  have hxi:(l.map Pt.txt)[i]? = some (Pt.txt l[i]):=by rw[List.getElem?_map,bw hlt];rfl
  have hcut:putT l=putT (l.take i)++(putS (Pt.txt l[i])++putT (l.drop (i+1))):=by
   have e:l=l.take i++([l[i]]++l.drop (i+1)):=by rw[List.singleton_append,←bV hlt,cn]
   conv=>lhs;rw[e]
   rw[putT_app,putT_app];unfold putT;rw[bK,bL,putL_one]
  have htk:putT (l.take (i+1))=putT (l.take i)++putS (Pt.txt l[i]):=by
   rw[cp hlt,putT_app];show _++putL [Pt.txt l[i]]=_;rw[putL_one]
  have hlc:=congrArg List.length hcut;rw[ba,ba]at hlc;generalize ht:Pt.txt l[i]=t at *;have hpl:(putS t).length=t.length+1:=by simp[putS]
  have hs1:=hs.mono hm1;refine uA ?_;refine al tab rStr i hs1 uH oy rfl hxi ?_;rintro b4 i4 v4 hv4 hA4;obtain rfl:v4=t:=hv4;refine an tab hA4 ?_;refine oC goes129 ((writeString_law _ _ bd p1 s1 _ v4 hB1 (by rw[ba];omega)).x ?_);rintro _ m2 _ ⟨hm2,s2,p2,rfl,hB2⟩;refine uA ?_;refine az (fun c1=>?_) (fun c1=>?_)
  ·subst c1;refine lZ ?_;rintro _ m3 _ ⟨hm3,s3,p3,rfl,hB3⟩;refine kW ?_;refine⟨⟨m3,p3,s3,i+1⟩,uH,uH,rfl,rfl,uS,⟨cC hm1 (cC hm2 hm3),by simp only;omega,hB3.cast ?_⟩,by simp only;omega⟩;rw[htk,putS];simp only[bz];rw[show lastB [123]=10 by decide]
  refine uA ?_;refine az (fun c2=>?_) (fun c2=>?_)
  ·subst c2;refine lZ ?_;rintro _ m3 _ ⟨hm3,s3,p3,rfl,hB3⟩;refine kW ?_;refine⟨⟨m3,p3,s3,i+1⟩,uH,uH,rfl,rfl,uS,⟨cC hm1 (cC hm2 hm3),by simp only;omega,hB3.cast ?_⟩,by simp only;omega⟩;rw[htk,putS];simp only[bz];rw[show lastB [125]=10 by decide]
  refine uA ?_;refine aQ (t:=decide (v4=[59])) (fun c3=>?_) (fun c3=>?_)
  ·have c3':=of_decide_eq_true c3;subst c3';refine lZ ?_;rintro _ m3 _ ⟨hm3,s3,p3,rfl,hB3⟩;refine kW ?_;refine⟨⟨m3,p3,s3,i+1⟩,uH,uH,rfl,rfl,uS,⟨cC hm1 (cC hm2 hm3),by simp only;omega,hB3.cast ?_⟩,by simp only;omega⟩;rw[htk,putS];simp only[bz];rw[show lastB [59]=10 by decide]
  ·have c3':=of_decide_eq_false c3;refine uA ?_;refine oC goes130 ((writeByte_law _ _ bd p2 s2 _ 32 hB2 (by rw[ba,ba];omega)).x ?_);rintro _ m3 _ ⟨hm3,s3,p3,rfl,hB3⟩;refine kW ?_;refine⟨⟨m3,p3,s3,i+1⟩,uH,uH,rfl,rfl,uS,⟨cC hm1 (cC hm2 hm3),by simp only;omega,hB3.cast ?_⟩,by simp only;omega⟩;rw[htk,putS];simp only[bz];rw[show lastB v4=32 by(unfold lastB;simp[c1,c2,c3'])]
 ·simp only at h1;refine uA ?_;refine aJ ⟨hm1,s1,p1,rfl,hB1.cast ?_⟩;rw[cl (by rw[bP]at hlen;omega)]
end Go.Sep
namespace Go
abbrev dj := @Sep.putT_app
abbrev dk := @Sep.put_law
end Go
namespace Go.Pt
open Go.Sep Go.Ps
mutual
def numB2 : Tree→Bool
 | .mk k n u ks=>(!decide (k=40)||decide (u<9223372036854775808))&&numL ks
def numL : List Tree→Bool
 | []=>true
 | t::ts=>numB2 t&&numL ts
end
theorem numL_mem : ∀ {l:List Tree} {t:Tree},numL l=true→t∈l→numB2 t=true
 | x::xs,t,h,hm=>by
  rw[numL,bu]at h;rcases List.mem_cons.1 hm with rfl | hm
  ·exact h.1
  ·exact numL_mem h.2 hm
theorem num_kid {a t:Tree} (h:numB2 a=true) (hm:t∈a.kids):numB2 t=true:=by
 obtain⟨k,n,u,ks⟩:=a;rw[numB2,bu]at h;exact numL_mem h.2 hm
theorem num_int {n:Str} {u:Int} {ks:List Tree} (h:numB2 (.mk 40 n u ks)=true):u<9223372036854775808:=by
 rw[numB2,bu]at h;simpa using h.1
structure AllV (n:Nat) (l:List Tk):Prop where
 v:∀ t∈l,TkV t
 len:l.length≤n
theorem AllV.le {n m:Nat} {l:List Tk} (h:AllV n l) (hn:n≤m):AllV m l:=⟨h.v,bJ h.len hn⟩
theorem AllV.nil : AllV 0 []:=⟨fun t h=>(by cases h),bI _⟩
theorem AllV.cons {n:Nat} {t:Tk} {l:List Tk} (h:TkV t) (hl:AllV n l):AllV (n+1) (t::l):=⟨fun x hx=>by
 rcases List.mem_cons.1 hx with rfl | hx
 ·exact h
 ·exact hl.v x hx,Nat.succ_le_succ hl.len⟩
theorem AllV.app {n m:Nat} {l r:List Tk} (hl:AllV n l) (hr:AllV m r):AllV (n+m) (l++r):=⟨fun x hx=>by
 rcases List.mem_append.1 hx with hx | hx
 ·exact hl.v x hx
 ·exact hr.v x hx,by have:=hl.len;have:=hr.len;rw[ba];omega⟩
theorem v_mk {s:Str} (h:s∈markL):TkV (mk s):=.inr (.inr (.inr (.inl ⟨rfl,h,rfl⟩)))
theorem v_wd {s:Str} (h:s∈wordL):TkV (wd s):=.inr (.inr (.inr (.inr ⟨rfl,h,rfl⟩)))
theorem v_nm {s:Str} (h:isName s=true):TkV (nm s):=.inl ⟨rfl,h,rfl⟩
theorem AllV.m {n:Nat} {s:Str} {l:List Tk} (h:s∈markL) (hl:AllV n l):AllV (n+1) (Pt.mk s::l):=AllV.cons (v_mk h) hl
theorem AllV.w {n:Nat} {s:Str} {l:List Tk} (h:s∈wordL) (hl:AllV n l):AllV (n+1) (wd s::l):=AllV.cons (v_wd h) hl
theorem AllV.n {n:Nat} {s:Str} {l:List Tk} (h:isName s=true) (hl:AllV n l):AllV (n+1) (nm s::l):=AllV.cons (v_nm h) hl
def Kv (k:Tree):Prop:=AllV (8*k.size-1) (toks k)
theorem v_flat : ∀ {ks:List Tree},(∀ k∈ks,Kv k)→AllV (8*sizeL ks) (ks.map toks).flatten
 | [],_=>AllV.nil.le (cm _)
 | k::ks,h=>((h k ow).app (v_flat fun x hx=>h x pb)).le qt
theorem v_comma : ∀ {ks:List Tree},(∀ k∈ks,Kv k)→AllV (8*sizeL ks) (commaJ (ks.map toks))
 | [],_=>AllV.nil.le (cm _)
 | [k],h=>(h k ow).le (by simp only[sizeL];omega)
 | k::u::ts,h=>((h k ow).app (AllV.m (s:=[44]) ov (v_comma (ks:=u::ts) fun x hx=>h x (by simp at hx ⊢;exact .inr hx)))).le qt
theorem v_res {ks:List Tree} (h:∀ k∈ks,Kv k):AllV (8*sizeL ks+2) (resJ (ks.map toks)):=by
 unfold resJ;split
 ·exact(v_comma h).le ou
 ·exact(AllV.m ov ((v_comma h).app (AllV.m ov AllV.nil))).le ou
theorem v_semis : ∀ {ks:List Tree},(∀ k∈ks,Kv k)→AllV (8*sizeL ks) (semis (ks.map toks))
 | [],_=>AllV.nil.le (cm _)
 | k::ks,h=>(((h k ow).app (AllV.m (s:=[59]) ov AllV.nil)).app (v_semis fun x hx=>h x pb)).le qt
theorem v_sig {u:Int} {ks:List Tree} (h:∀ k∈ks,Kv k):AllV (8*sizeL ks+4) (sigJ u (ks.map toks)):=by
 unfold sigJ;rw[←List.map_take,←List.map_drop];exact(AllV.m ov ((v_comma fun t ht=>h t (cu ht)).app (AllV.m ov (v_res fun t ht=>h t (List.mem_of_mem_drop ht))))).le (by have:=sizeL_drop ks u.toNat;omega)
theorem sz (k:Int) (n:Str) (u:Int) (ks:List Tree):(Tree.mk k n u ks).size=1+sizeL ks:=rfl
theorem fin {n:Nat} {a:Tree} (h:AllV n (toks a)) (hn:n≤8*a.size-1):Kv a:=h.le hn
theorem fin2 {n:Nat} {a:Tree} {l:List Tk} (e:toks a=l) (h:AllV n l) (hn:n≤8*a.size-1):Kv a:=(show AllV n (toks a) from e▸h).le hn
theorem v_typ (a:Tree):a.isType=true→Kv a:=by
 induction a using Tree.ind with
 | h a ih =>
 intro ht;rw[isType_eq]at ht;by_cases h:a.kind=10
 ·rw[if_pos h]at ht;simp only[bu,bE]at ht;obtain⟨k,n,u,ks⟩:=a;obtain rfl:k=10:=h;exact fin (AllV.n ht.2.1 AllV.nil) oY
 rw[if_neg h]at ht;by_cases h2:a.kind=11∨a.kind=12
 ·rw[if_pos h2]at ht;simp only[bu,bE]at ht;obtain⟨k,n,u,ks⟩:=a;obtain⟨x,rfl⟩:=List.length_eq_one_iff.1 ht.2.2.1;have hx:=ih x oD (List.all_eq_true.1 ht.2.2.2 x oD);rcases h2 with h2 | h2
  ·obtain rfl:k=11:=h2;exact fin (AllV.m ov hx) oM
  ·obtain rfl:k=12:=h2;exact fin (AllV.m ov (AllV.m ov hx)) oM
 rw[if_neg h2]at ht;by_cases h3:a.kind=13
 ·rw[if_pos h3]at ht;simp only[bu,bE]at ht;obtain⟨k,n,u,ks⟩:=a;obtain rfl:k=13:=h3;exact fin2 (toks_eq _) (AllV.w ov (v_sig (fun k hk=>ih k hk (List.all_eq_true.1 ht.2.2.2 k hk)))) po
 rw[if_neg h3]at ht;cases ht
theorem v_param {a:Tree} (ht:a.isParam=true):Kv a:=by
 unfold Tree.isParam at ht;simp only[bu,bE]at ht;obtain⟨k,n,u,ks⟩:=a;obtain rfl:k=8:=ht.1;obtain⟨x,rfl⟩:=List.length_eq_one_iff.1 ht.2.2.2.1;exact fin (AllV.n ht.2.2.1 (v_typ x (List.all_eq_true.1 ht.2.2.2.2 x oD))) oM
theorem v_sigT {a:Tree} (ht:a.isSig=true):Kv a:=by
 unfold Tree.isSig at ht;simp only[bu,bE]at ht;obtain⟨k,n,u,ks⟩:=a;obtain rfl:k=7:=ht.1;refine fin2 (toks_eq _) (v_sig (u:=u) (ks:=ks) fun k hk=>?_) oY;have hk2:k∈ks.take u.toNat++ks.drop u.toNat:=by rw[cn];exact hk
 rcases List.mem_append.1 hk2 with h | h
 ·exact v_param (List.all_eq_true.1 ht.2.2.2.2.1 k h)
 ·exact v_typ k (List.all_eq_true.1 ht.2.2.2.2.2 k h)
theorem lev_mark : ∀ s∈levels.flatten,s∈markL:=by decide
theorem ops_mark : ∀ s∈ops4,s∈markL:=by decide
structure VT (a:Tree):Prop where
 expr:lim.expr a=true→Kv a
 stmt:lim.stmt a=true→Kv a
 block:lim.block a=true→Kv a
theorem v_expr {a:Tree} (ih:∀ k∈a.kids,VT k) (hn:numB2 a=true) (h:lim.expr a=true):Kv a:=by
 have he:exprS lim a=true:=(di a).1.symm.trans h;obtain⟨k,n0,u0,ks⟩:=a;by_cases e:k=40
 ·subst e;have hf:(bareB (.mk 40 n0 u0 ks) (decide (0≤u0)) false true&&kidsR [] none ks)=true:=he;rw[bu]at hf;exact fin (AllV.cons (.inr (.inl ⟨rfl,rfl,of_decide_eq_true (bare_f hf.1).1,num_int hn⟩)) AllV.nil) oY
 by_cases e:k=41
 ·subst e;have hf:(bareB (.mk 41 n0 u0 ks) (decide ((n0.length:Int)≤1024)) true false&&kidsR [] none ks)=true:=he;rw[bu]at hf;exact fin (AllV.cons (.inr (.inr (.inl ⟨rfl,by have:=of_decide_eq_true (bare_f hf.1).1;show n0.length≤1024;omega,rfl⟩))) AllV.nil) oY
 by_cases e:k=42
 ·subst e;have et:toks (.mk 42 n0 u0 ks)=if u0=1 then [wd [116,114,117,101]]else [wd [102,97,108,115,101]]:=oK
  by_cases hu:u0=1
  ·exact fin2 (l:=[wd [116,114,117,101]]) (by rw[et,if_pos hu]) (AllV.w ov AllV.nil) oY
  ·exact fin2 (l:=[wd [102,97,108,115,101]]) (by rw[et,if_neg hu]) (AllV.w ov AllV.nil) oY
 by_cases e:k=43
 ·subst e;exact fin (AllV.w ov AllV.nil) oY
 by_cases e:k=44
 ·subst e;have hf:(ofB (.mk 44 n0 u0 ks) 44&&kidsR [] none ks)=true:=he;rw[bu]at hf;exact fin (AllV.n (of_f hf.1).2.2 AllV.nil) oY
 by_cases e:k=45
 ·subst e;have hf:(ofB (.mk 45 n0 u0 ks) 45&&ks.all lim.expr)=true:=he;rw[bu]at hf;exact fin2 (toks_eq _) (AllV.m ov (AllV.n (of_f hf.1).2.2 (AllV.m ov ((v_comma (fun k hk=>(ih k hk).expr (List.all_eq_true.1 hf.2 k hk))).app (AllV.m ov (AllV.m ov AllV.nil)))))) po
 by_cases e:k=46
 ·subst e;have hf:(bareB (.mk 46 n0 u0 ks) true false false&&kidsR [Tree.isType] (some lim.expr) ks)=true:=he;rw[bu]at hf;obtain⟨x,r,rfl,hx,hr⟩:=kidsS hf.2;have et:toks (.mk 46 n0 u0 (x::r))=mk [91]::mk [93]::(toks x++mk [123]::(commaJ (r.map toks)++[mk [125]])):=oK;exact fin2 et (AllV.m ov (AllV.m ov ((v_typ x hx).app (AllV.m ov ((v_comma (fun k hk=>(ih k (by simp[Tree.kids,hk])).expr (hr k hk))).app (AllV.m ov AllV.nil)))))) oM
 by_cases e:k=47
 ·subst e;have hf:(bareB (.mk 47 n0 u0 ks) true false false&&kidsR [Tree.isSig,lim.block] none ks)=true:=he;rw[bu]at hf;obtain⟨x,y,rfl,hx,hy⟩:=kids2 hf.2;exact fin (AllV.w ov ((v_sigT hx).app ((ih y oD).block hy))) oM
 by_cases e:k=48
 ·subst e;have hf:(ofB (.mk 48 n0 u0 ks) 48&&kidsR [lim.expr] none ks)=true:=he;rw[bu]at hf;obtain⟨x,rfl,hx⟩:=kids1 hf.2;exact fin (((ih x oD).expr hx).app (AllV.m ov (AllV.n (of_f hf.1).2.2 AllV.nil))) oM
 by_cases e:k=49
 ·subst e;have hf:(bareB (.mk 49 n0 u0 ks) true false false&&kidsR [lim.expr,lim.expr] none ks)=true:=he;rw[bu]at hf;obtain⟨x,y,rfl,hx,hy⟩:=kids2 hf.2;exact fin (((ih x oD).expr hx).app (AllV.m ov (((ih y oD).expr hy).app (AllV.m ov AllV.nil)))) oM
 by_cases e:k=50
 ·subst e;have hf:(bareB (.mk 50 n0 u0 ks) (lvl (.mk 50 n0 u0 ks)) false true&&ks.all lim.expr)=true:=he;rw[bu]at hf;have hk:∀ k∈ks,Kv k:=fun k hk=>(ih k hk).expr (List.all_eq_true.1 hf.2 k hk);have hl:(decide (0≤u0)&&(decide (u0≤3)&&decide ((ks.length:Int)=1+u0 % 2+u0 / 2)))=true:=(bare_f hf.1).1;simp only[bu,bE]at hl;have hu:u0=0∨u0=1∨u0=2∨u0=3:=ou;rcases hu with rfl | rfl | rfl | rfl
  ·obtain⟨x,rfl⟩:=List.length_eq_one_iff.1 (show ks.length=1 by omega);exact fin (n:=8*x.size-1+3) (((hk x ow).app (AllV.m (s:=[91]) ov (AllV.m (s:=[58]) ov (AllV.m (s:=[93]) ov AllV.nil))))) oM
  ·obtain⟨x,y,rfl⟩:=len2 (show ks.length=2 by omega);exact fin (((hk x ow).app (AllV.m (s:=[91]) ov ((hk y ow).app (AllV.m (s:=[58]) ov (AllV.m (s:=[93]) ov AllV.nil)))))) oM
  ·obtain⟨x,y,rfl⟩:=len2 (show ks.length=2 by omega);exact fin (((hk x ow).app (AllV.m (s:=[91]) ov (AllV.m (s:=[58]) ov ((hk y ow).app (AllV.m (s:=[93]) ov AllV.nil)))))) oM
  ·obtain⟨x,y,z,rfl⟩:=len3 (show ks.length=3 by omega);exact fin (((hk x ow).app (AllV.m (s:=[91]) ov ((hk y ow).app (AllV.m (s:=[58]) ov ((hk z ow).app (AllV.m (s:=[93]) ov AllV.nil))))))) oM
 by_cases e:k=51
 ·subst e;have hf:(bareB (.mk 51 n0 u0 ks) true false false&&kidsR [lim.expr] (some lim.expr) ks)=true:=he;rw[bu]at hf;obtain⟨x,r,rfl,hx,hr⟩:=kidsS hf.2;have et:toks (.mk 51 n0 u0 (x::r))=toks x++mk [40]::(commaJ (r.map toks)++[mk [41]]):=oK;exact fin2 et (((ih x oD).expr hx).app (AllV.m ov ((v_comma (fun k hk=>(ih k (by simp[Tree.kids,hk])).expr (hr k hk))).app (AllV.m ov AllV.nil)))) oM
 by_cases e:k=52
 ·subst e;have hf:(bareB (.mk 52 n0 u0 ks) (decide (n0∈ops4)) true false&&kidsR [lim.expr] none ks)=true:=he;rw[bu]at hf;obtain⟨x,rfl,hx⟩:=kids1 hf.2;exact fin (AllV.m ov (AllV.m (ops_mark _ (of_decide_eq_true (bare_f hf.1).1)) (((ih x oD).expr hx).app (AllV.m ov AllV.nil)))) oM
 by_cases e:k=53
 ·subst e;have hf:(bareB (.mk 53 n0 u0 ks) (decide (n0∈Ps.levels.flatten)) true false&&kidsR [lim.expr,lim.expr] none ks)=true:=he;rw[bu]at hf;obtain⟨x,y,rfl,hx,hy⟩:=kids2 hf.2;exact fin (AllV.m ov (((ih x oD).expr hx).app (AllV.m (lev_mark _ (of_decide_eq_true (bare_f hf.1).1)) (((ih y oD).expr hy).app (AllV.m ov AllV.nil))))) oM
 exact jy
theorem v_stmt {a:Tree} (ih:∀ k∈a.kids,VT k) (hn:numB2 a=true) (h:lim.stmt a=true):Kv a:=by
 have h1:stmtS lim a=true:=(di _).2.1.symm.trans h;rw[stmtS_head]at h1;obtain⟨k,n0,u0,ks⟩:=a;rw[bu]at h1;obtain⟨-,h1⟩:=h1;by_cases e:k=20
 ·subst e;have h2:blockS lim (.mk 20 n0 u0 ks)=true:=h1;unfold blockS at h2;rw[bu]at h2;exact fin2 (toks_eq _) (AllV.m ov ((v_flat (fun k hk=>(ih k hk).stmt (List.all_eq_true.1 h2.2 k hk))).app (AllV.m ov AllV.nil))) po
 by_cases e:k=21
 ·subst e;have h2:(isName n0&&(kidsR [Tree.isType] none ks||kidsR [Tree.isType,lim.expr] none ks))=true:=h1;simp only[bu,bH]at h2;obtain⟨hn0,h3⟩:=h2;rcases h3 with h3 | h3
  ·obtain⟨t,rfl,ht⟩:=kids1 h3;exact fin (AllV.w ov (AllV.n hn0 ((v_typ t ht).app (AllV.app AllV.nil (AllV.m ov AllV.nil))))) oM
  ·obtain⟨t,x,rfl,ht,hx⟩:=kids2 h3;exact fin (AllV.w ov (AllV.n hn0 ((v_typ t ht).app (AllV.app (AllV.m ov ((ih x oD).expr hx)) (AllV.m ov AllV.nil))))) oM
 by_cases e:k=22∨k=23
 ·have h3:∀ k∈ks,Kv k:=by
   intro x hx;have hx2:x∈ks.take u0.toNat++ks.drop u0.toNat:=by rw[cn];exact hx
   rcases e with rfl | rfl
   ·have h2:asgS lim (nmS lim) (.mk 22 n0 u0 ks)=true:=h1;unfold asgS at h2;simp only[bu]at h2;rcases List.mem_append.1 hx2 with hq | hq
    ·have:=List.all_eq_true.1 h2.2.2.1 x hq;unfold nmS at this;exact j7
    ·exact jR
   ·have h2:asgS lim (plS lim) (.mk 23 n0 u0 ks)=true:=h1;unfold asgS at h2;simp only[bu]at h2;rcases List.mem_append.1 hx2 with hq | hq
    ·have:=List.all_eq_true.1 h2.2.2.1 x hq;unfold plS at this;exact j7
    ·exact jR
  have hs:=sizeL_drop ks u0.toNat;have q1:=v_comma (ks:=ks.take u0.toNat) fun x hx=>h3 x (cu hx);have q2:=v_comma (ks:=ks.drop u0.toNat) fun x hx=>h3 x (List.mem_of_mem_drop hx);rw[List.map_take]at q1;rw[List.map_drop]at q2;rcases e with rfl | rfl
  ·refine fin (n:=8*sizeL (ks.take u0.toNat)+(8*sizeL (ks.drop u0.toNat)+(0+1)+1)) ?_ oY;rw[toks_eq];exact q1.app (AllV.m (s:=[58,61]) ov (q2.app (AllV.m (s:=[59]) ov AllV.nil)))
  ·refine fin (n:=8*sizeL (ks.take u0.toNat)+(8*sizeL (ks.drop u0.toNat)+(0+1)+1)) ?_ oY;rw[toks_eq];exact q1.app (AllV.m (s:=[61]) ov (q2.app (AllV.m (s:=[59]) ov AllV.nil)))
 have e22:¬k=22:=fun h=>e (.inl h);have e23:¬k=23:=fun h=>e (.inr h);by_cases e:k=24
 ·subst e;have h2:kidsR [callS lim] none ks=true:=h1;obtain⟨x,rfl,hx⟩:=kids1 h2;unfold callS at hx;rw[bu]at hx;exact fin (((ih x oD).expr hx.2).app (AllV.m ov AllV.nil)) oM
 by_cases e:k=25
 ·subst e;have h2:(kidsR [lim.expr,lim.block] none ks||kidsR [lim.expr,lim.block,otherS lim] none ks)=true:=h1;rw[bH]at h2;rcases h2 with h3 | h3
  ·obtain⟨c,b,rfl,hc,hb⟩:=kids2 h3;exact fin (AllV.w ov (((ih c oD).expr hc).app (((ih b oD).block hb).app AllV.nil))) oM
  ·obtain⟨c,b,e,rfl,hc,hb,he⟩:=kids3 h3;have he2:Kv e:=by
    unfold otherS at he;rw[bH,bu]at he;rcases he with he | he
    ·exact(ih e oD).block he
    ·exact(ih e oD).stmt he.2
   exact fin (AllV.w ov (((ih c oD).expr hc).app (((ih b oD).block hb).app (AllV.w ov he2)))) oM
 by_cases e:k=26
 ·subst e;have h2:(kidsR [lim.block] none ks||kidsR [lim.expr,lim.block] none ks)=true:=h1;rw[bH]at h2;rcases h2 with h3 | h3
  ·obtain⟨b,rfl,hb⟩:=kids1 h3;exact fin (AllV.w ov (AllV.app AllV.nil ((ih b oD).block hb))) oM
  ·obtain⟨c,b,rfl,hc,hb⟩:=kids2 h3;exact fin (AllV.w ov (((ih c oD).expr hc).app ((ih b oD).block hb))) oM
 by_cases e:k=27
 ·subst e;have h2:ks.all lim.expr=true:=h1;exact fin2 (toks_eq _) (AllV.w ov ((v_comma (fun k hk=>(ih k hk).expr (List.all_eq_true.1 h2 k hk))).app (AllV.m ov AllV.nil))) po
 by_cases e28:k=28
 ·subst e28;exact iY
 by_cases e29:k=29
 ·subst e29;exact iY
 exact jZ
theorem v_all (a:Tree):numB2 a=true→VT a:=by
 induction a using Tree.ind with
 | h a ih =>
 intro hn;have ih':∀ k∈a.kids,VT k:=fun k hk=>ih k hk (num_kid hn hk);refine⟨v_expr ih' hn,v_stmt ih' hn,fun h=>?_⟩;obtain⟨h1,h2,h3,h4⟩:=block_f h;obtain⟨k,n,u,ks⟩:=a;obtain rfl:k=20:=h1;exact fin2 (toks_eq _) (AllV.m ov ((v_flat (fun k hk=>(ih' k hk).stmt (List.all_eq_true.1 h4 k hk))).app (AllV.m ov AllV.nil))) po
theorem v_decl {a:Tree} (hn:numB2 a=true) (h:declS lim a=true):Kv a:=by
 have ih:∀ k∈a.kids,VT k:=fun k hk=>v_all k (num_kid hn hk);obtain⟨k,n0,u0,ks⟩:=a;by_cases e:k=2
 ·subst e;have hf:(ofB (.mk 2 n0 u0 ks) 2&&ks.all (fieldS Tree.isType))=true:=h;rw[bu]at hf;refine fin2 (toks_eq _) (AllV.w ov (AllV.n (of_f hf.1).2.2 (AllV.w ov (AllV.m ov ((v_semis (fun x hx=>?_)).app (AllV.m ov AllV.nil)))))) po;have hx':=List.all_eq_true.1 hf.2 x hx;obtain⟨s,t,rfl,ht⟩:=field_f hx';unfold fieldS at hx';rw[bu]at hx';exact fin (AllV.n (of_f hx'.1).2.2 (v_typ t ht)) oM
 by_cases e:k=3
 ·subst e;have hf:(ofB (.mk 3 n0 u0 ks) 3&&ks.all (fieldS Tree.isSig))=true:=h;rw[bu]at hf;refine fin2 (toks_eq _) (AllV.w ov (AllV.n (of_f hf.1).2.2 (AllV.w ov (AllV.m ov ((v_semis (fun x hx=>?_)).app (AllV.m ov AllV.nil)))))) po;have hx':=List.all_eq_true.1 hf.2 x hx;obtain⟨s,t,rfl,ht⟩:=field_f hx';unfold fieldS at hx';rw[bu]at hx';exact fin (AllV.n (of_f hx'.1).2.2 (v_sigT ht)) oM
 by_cases e:k=4
 ·subst e;have hf:(ofB (.mk 4 n0 u0 ks) 4&&kidsR [Tree.isSig,lim.block] none ks)=true:=h;rw[bu]at hf;obtain⟨s,b,rfl,hs,hb⟩:=kids2 hf.2;exact fin (AllV.w ov (AllV.n (of_f hf.1).2.2 ((v_sigT hs).app ((ih b oD).block hb)))) oM
 by_cases e:k=5
 ·subst e;have hf:(ofB (.mk 5 n0 u0 ks) 5&&kidsR [recvS,Tree.isSig,lim.block] none ks)=true:=h;rw[bu]at hf;obtain⟨r,s,b,rfl,hr,hs,hb⟩:=kids3 hf.2;have hp:r.isParam=true:=by
   unfold recvS at hr;rw[bu]at hr;exact hr.1
  exact fin (AllV.w ov (AllV.m ov ((v_param hp).app (AllV.m ov (AllV.n (of_f hf.1).2.2 ((v_sigT hs).app ((ih b oD).block hb))))))) oM
 exact jD
theorem v_prog {ds:List Tree} (hn:numB2 (.mk 1 [] 0 ds)=true) (h:soundB (.mk 1 [] 0 ds)=true):AllV (8*sizeL ds) (ds.map toks).flatten:=by
 obtain⟨ds',e,q1,q2,q3⟩:=soundB_f h;injection e with _ _ _ e
 subst e;exact v_flat fun d hd=>v_decl (num_kid hn hd) (q3 d hd)
end Go.Pt
namespace Go.Sep
open Go.Proofs Go.Pt
attribute [local irreducible] TC TO OT TCallX TCall DO DOt thenQ blockQ retQ At
theorem pq3 {α:Type} {a0 a1 a2:α} {l:List α}:(a0::a1::a2::l).Perm (a1::a2::a0::l):=bo (bm _ _ _) (br _ (bm _ _ _))
theorem comma_snoc : ∀(l:List (List Ps.Tk)) (t:List Ps.Tk),l≠[]→commaJ (l++[t])=commaJ l++Pt.mk [44]::t
 | [a],t,_=>rfl
 | a::b::l,t,_=>by
  have ih:=comma_snoc (b::l) t ow;show a++Pt.mk _::commaJ ((b::l)++[t])=(a++Pt.mk _::commaJ (b::l))++_;rw[ih,bz];rfl
theorem comma_app : ∀(l r:List (List Ps.Tk)),l≠[]→r≠[]→commaJ (l++r)=commaJ l++Pt.mk [44]::commaJ r
 | [a],b::r,_,_=>rfl
 | a::b::l,r,_,hr=>by
  have ih:=comma_app (b::l) r ow hr;show a++Pt.mk _::commaJ ((b::l)++r)=(a++Pt.mk _::commaJ (b::l))++_;rw[ih,bz];rfl
structure Cbk (mb:Mem) (bd:Nat) (fn:FuncId) (first cap:List Value) (ks:List Tree):Prop where
 goes:Goes Tryz.prog fn
 run:∀ k∈ks,∀(m:Mem) (L:List Item) (q:Option Addr) (s:Sl) (x:Str) (h:HTree),mb≤m→BOk m bd q s x→TreeRep m h k→x.length+(putT (Pt.toks k)).length≤140737488355328 →
  TCall Tryz.prog fn ⟨first++treeV h::cap⟩ m (bdL bd q s L) (Wr bd m L (x++putT (Pt.toks k)))
theorem putT_cons (t:Ps.Tk) (l:List Ps.Tk):putT (t::l)=putS (Pt.txt t)++putT l:=rfl
theorem part_le (l:List Ps.Tk) (r:List Ps.Tk) (t:List Ps.Tk) (h:l++r=t):(putT l).length≤(putT t).length:=by rw[←h,dj,ba];omega
theorem each_law {mb:Mem} {bd:Nat} {fn:FuncId} {first cap:List Value} {ks:List Tree} (hC:Cbk mb bd fn first cap ks) (m:Mem) (L:List Item) (hmb:mb≤m) (q:Option Addr) (s:Sl) (x:Str) (hB:BOk m bd q s x) (sl:Sl) (hs:SlRep rTree m sl ks)
  (hl:x.length+(putT (commaJ (ks.map Pt.toks))).length≤140737488355328) :
  TCall Tryz.prog 126 ⟨[bdV bd,sl.v,.func (.func fn) ⟨first⟩ ⟨cap⟩]⟩ m (bdL bd q s L) (Wr bd m L (x++putT (commaJ (ks.map Pt.toks)))):=by
 have hlen:=hs.len;have hsm:=hs.small rfl;unfold TCall;refine ag Tryz.func126 24 ?_;refine cG (ι:=PS) [0,2,8,9] rfl (fun g=>[(10,.int .i64 (g.i:Int))]) (fun g=>g.m) (fun g=>bdL bd g.q g.s L) (fun g=>m≤g.m∧g.i≤ks.length∧BOk g.m bd g.q g.s (x++putT (commaJ ((ks.take g.i).map Pt.toks)))) (fun g=>ks.length-g.i) ⟨m,q,s,0⟩ uH rfl uS ⟨cB _,cm _,hB.cast (by simp[putT,putL,commaJ])⟩ ?_;rintro⟨m1,p1,s1,i⟩ ⟨hm1,hi,hB1⟩;simp only at hm1 hi hB1;refine uA ?_;refine ap (fun h1=>?_) (fun h1=>?_)
 ·simp only at h1;have hlt:i<ks.length:=ou;have hxi:ks[i]? = some ks[i]:=bw hlt;have hs1:=hs.mono hm1;refine uA ?_;refine al tab rTree i hs1 uH oy rfl hxi ?_;rintro b4 i4 h4 hr4 hA4
  (first | refine qs rfl (OT.loadA tab hA4 rfl rfl rfl rfl rfl ?_) | refine oL tab hA4 ?_)
  refine uA ?_;refine aB tab (fun b5=>?_);refine uT ?_;refine cL pq3 ?_;have hr5:=rTree_iff.1 hr4;have hpart:i+1<ks.length→commaJ ((ks.take (i+1)).map Pt.toks)++Pt.mk [44]::commaJ ((ks.drop (i+1)).map Pt.toks)=commaJ (ks.map Pt.toks):=fun h=>by
   rw[←comma_app _ _ (by simp;exact List.ne_nil_of_length_pos ou) oN,←cr,cn]
  have hbnd:x.length+(putT (commaJ ((ks.take (i+1)).map Pt.toks))).length≤140737488355328:=by
   by_cases h:i+1<ks.length
   ·have:=part_le _ _ _ (hpart h);omega
   ·rw[cl ou];exact hl
  refine uA ?_;refine ap (fun h2=>?_) (fun h2=>?_)
  ·simp only at h2;have htk:commaJ ((ks.take (i+1)).map Pt.toks)=commaJ ((ks.take i).map Pt.toks)++([Pt.mk [44]]++Pt.toks ks[i]):=by
    rw[cp hlt,cr];exact comma_snoc _ _ (by simp;exact⟨by omega,fun e=>by rw[e]at hlt;simp at hlt⟩)
   rw[htk,dj,dj,ba,ba]at hbnd;refine uA ?_;refine aj (hs:=[[44]]) (l:=[[44]]) tab rStr ⟨rfl,trivial⟩ uH ov (fun sl2 ma hma hsl2 _ _=>?_);have hB2:=hB1.mono hma;refine uA ?_;refine oC de ((dk _ _ bd p1 s1 _ hB2 sl2 [Pt.mk [44]] hsl2 (by rw[ba];omega)).x ?_);rintro _ m2 _ ⟨hm2,s2,p2,rfl,hB3⟩;have hm3:m1≤m2:=cC hma hm2;refine kA ?_;refine qs rfl (cQ (all:=first++treeV h4::cap) rfl rfl rfl rfl rfl pc hC.goes ((hC.run ks[i] (bN hlt) _ _ p2 s2 _ h4 (cC hmb (cC hm1 hm3)) hB3 (hr5.mono hm3) (by rw[ba,ba];omega)).x ?_));rintro _ m4 _ ⟨hm4,s4,p4,rfl,hB4⟩;refine kW ?_;refine⟨⟨m4,p4,s4,i+1⟩,uH,uH,rfl,rfl,uS,⟨cC hm1 (cC hm3 hm4),by simp only;omega,hB4.cast ?_⟩,by simp only;omega⟩;rw[htk,dj,dj];simp only[bz]
  ·simp only at h2;have hi0:i=0:=ou;subst hi0;have htk:commaJ ((ks.take (0+1)).map Pt.toks)=Pt.toks ks[0]:=by
    rw[cp hlt];rfl
   rw[htk]at hbnd;refine kA ?_;refine qs rfl (cQ (all:=first++treeV h4::cap) rfl rfl rfl rfl rfl pc hC.goes ((hC.run ks[0] (bN hlt) _ _ p1 s1 _ h4 (cC hmb hm1) hB1 hr5 (by simp[commaJ,putT_nil];omega)).x ?_));rintro _ m4 _ ⟨hm4,s4,p4,rfl,hB4⟩;refine uA ?_;refine aa (r':=((0+1:Nat):Int)) uH ou ?_;refine⟨⟨m4,p4,s4,0+1⟩,uH,uH,rfl,rfl,uS,⟨cC hm1 hm4,by simp only;omega,hB4.cast ?_⟩,by simp only;omega⟩;rw[htk];simp[commaJ,putT_nil]
 ·simp only at h1;refine uA ?_;refine aJ ⟨hm1,s1,p1,rfl,hB1.cast ?_⟩;rw[cl ou]
end Go.Sep
namespace Go.Sep
open Go.Proofs
attribute [local irreducible] TC TO OT TCallX TCall DO DOt thenQ blockQ retQ At
structure TbOk (Tb:Mem→Prop):Prop where
 mono:∀ {m m':Mem},Tb m→m≤m'→Tb m'
section
variable {Tb:Mem→Prop}
def Pw (Tb:Mem→Prop) (fn:FuncId) (a:Tree):Prop:=∀(m:Mem) (L:List Item) (bd:Nat) (q:Option Addr) (s:Sl) (x0:Str) (h:HTree),Tb m→BOk m bd q s x0→TreeRep m h a→x0.length+(putT (Pt.toks a)).length≤140737488355328 →
 TCall Tryz.prog fn ⟨[bdV bd,treeV h]⟩ m (bdL bd q s L) (Wr bd m L (x0++putT (Pt.toks a)))
theorem Cbk.of (hTb:TbOk Tb) {mb:Mem} {bd:Nat} {fn:FuncId} {ks:List Tree} (h:∀ k∈ks,Pw Tb fn k) (hg:Goes Tryz.prog fn) (hT:Tb mb):Cbk mb bd fn [bdV bd] [] ks:=⟨hg,fun k hk m L q s x h' hmb hB hr hl=>h k hk m L bd q s x h' (hTb.mono hT hmb) hB hr hl⟩
structure TbM (Tb:Mem→Prop) (m:Mem):Prop where
 mono:∀ {m':Mem},m≤m'→Tb m'
theorem results_w (hTb:TbOk Tb) (m:Mem) (L:List Item) (bd:Nat) (q:Option Addr) (s:Sl) (x0:Str) (rs:List Tree) (sl0:Sl) (hT:Tb m) (hB:BOk m bd q s x0) (h4:SlRep rTree m sl0 rs) (hp:∀ r∈rs,Pw Tb 76 r)
  (hl:x0.length+(putT (Pt.resJ (rs.map Pt.toks))).length≤140737488355328) :
  TCall Tryz.prog 127 ⟨[bdV bd,sl0.v]⟩ m (bdL bd q s L) (Wr bd m L (x0++putT (Pt.resJ (rs.map Pt.toks)))):=by
 have hlen:=h4.len;have hsm:=h4.small rfl;have hm:=cB m;have hT:∀ {m':Mem},m≤m'→Tb m':=fun h=>hTb.mono hT h;unfold TCall;refine cJ Tryz.func127 rfl 26 rfl ?_
 match rs,hp,hl,h4,hlen,hsm with
 | [],_,hl,h4,hlen,_ =>
  obtain⟨sa,sn,sc⟩:=sl0;obtain rfl:sn=0:=hlen;refine uA ?_;exact cI rfl uS ⟨hm,s,q,rfl,hB.cast (by simp[Pt.resJ,Pt.commaJ,putT,putL])⟩
 | [r],hp,hl,h4,hlen,_ =>
  obtain⟨sa,sn,sc⟩:=sl0;obtain rfl:sn=1:=hlen;refine uA ?_;have h4c:=h4.mono hm;have hx0:[r][0]? = some r:=rfl;refine al tab rTree 0 h4c uH oy rfl hx0 ?_;rintro b7 i7 h7 hr7 hA7;refine an tab hA7 ?_;refine oC goes76 ((hp r ow _ _ bd q s _ h7 (hT hm) hB (rTree_iff.1 hr7) hl).x ?_);rintro _ m1 _ ⟨hm1,s,q,rfl,hB⟩;refine uA ?_;exact cI rfl uS ⟨cC hm hm1,s,q,rfl,hB⟩
 | r::r2::rs,hp,hl,h4,hlen,hsm =>
  have et:Pt.resJ ((r::r2::rs).map Pt.toks)=[Pt.mk [40]]++(Pt.commaJ ((r::r2::rs).map Pt.toks)++[Pt.mk [41]]):=by
   show(if _ then _ else _)=_;rw[if_neg ow];rfl
  rw[et]at hl;simp only[dj,ba]at hl;refine uA ?_;refine ap (fun h1=>?_) (fun h1=>?_)
  ·simp only[be]at h1 hlen;omega
  refine uA ?_;refine ap (fun h2=>?_) (fun h2=>?_)
  ·refine uA ?_;refine aj (hs:=[[40]]) (l:=[[40]]) tab rStr ⟨rfl,trivial⟩ uH ov (fun sl ma hma hsl _ _=>?_);replace hm:=cC hm hma;replace hB:=hB.mono hma;refine lq ?_;rintro _ m1 _ ⟨hm1,s,q,rfl,hB⟩;replace hm:=cC hm hm1;clear hm1 hma hsl;refine uA ?_;have h4c:=h4.mono hm;refine oC goes126 ((each_law (Cbk.of hTb hp goes76 (hT hm)) _ _ (cB _) q s _ hB sl0 h4c oH).x ?_);rintro _ m1 _ ⟨hm1,s,q,rfl,hB⟩;replace hm:=cC hm hm1;refine uA ?_;refine aj (hs:=[[41]]) (l:=[[41]]) tab rStr ⟨rfl,trivial⟩ uH ov (fun sl ma hma hsl _ _=>?_);replace hm:=cC hm hma;replace hB:=hB.mono hma;refine kM ?_;exact dO
  ·simp only[be]at h2 hlen;omega
theorem typ_w (hTb:TbOk Tb) (a:Tree):a.isType=true→Pw Tb 76 a:=by
 induction a using Tree.ind with
 | h a ih =>
 intro ht m L bd q s x0 h hT hB hr hl;have hT0:=hT;rw[isType_eq]at ht;obtain⟨h1,h2,h3,h4⟩:=hr;have hlen:=h4.len;have hsm:=h4.small rfl;have hm:=cB m;obtain⟨k,n0,u0,ks⟩:=a;obtain⟨hk,hn,hu,hks⟩:=h;simp only[Tree.kind,Tree.name,Tree.num,Tree.kids]at h1 h2 h3 h4 hlen hsm ih;subst h1 h2 h3;have hT:TbM Tb m:=⟨fun h=>hTb.mono hT0 h⟩
 by_cases e:hk=10
 ·subst e;have et:Pt.toks (.mk 10 hn hu ks)=[Pt.nm hn]:=oE;rw[et]at hl
  try simp only[dj,ba]at hl
  unfold TCall;refine ag Tryz.func76 57 ?_;refine oB (fun b=>?_);refine mg ?_;refine aj (hs:=[hn]) (l:=[hn]) tab rStr ⟨rfl,trivial⟩ uH ov (fun sl ma hma hsl _ _=>?_);replace hm:=cC hm hma;replace hB:=hB.mono hma;refine lP ?_;exact dO
 rw[if_neg (show ¬(Tree.mk hk hn hu ks).kind=10 from e)]at ht;by_cases e2:hk=11∨hk=12
 ·rw[if_pos (show(Tree.mk hk hn hu ks).kind=11∨(Tree.mk hk hn hu ks).kind=12 from e2)]at ht;simp only[bu,bE]at ht;obtain⟨x,rfl⟩:=List.length_eq_one_iff.1 ht.2.2.1;have hx:=ih x ow (List.all_eq_true.1 ht.2.2.2 x oD);have hxi:[x][0]? = some x:=rfl;rcases e2 with rfl | rfl
  ·skip;have et:Pt.toks (.mk 11 hn hu [x])=[Pt.mk [42]]++Pt.toks x:=oE;rw[et]at hl
   try simp only[dj,ba]at hl
   unfold TCall;refine ag Tryz.func76 57 ?_;refine oB (fun b=>?_);refine mg ?_;refine aj (hs:=[[42]]) (l:=[[42]]) tab rStr ⟨rfl,trivial⟩ uH ov (fun sl ma hma hsl _ _=>?_);replace hm:=cC hm hma;replace hB:=hB.mono hma;refine uA ?_;refine oC de ((dk _ _ bd q s _ hB sl [Pt.mk [42]] hsl oH).x ?_);rintro _ m1 _ ⟨hm1,s,q,rfl,hB⟩;replace hm:=cC hm hm1;clear hm1 hma hsl;refine uL ?_;have h4c:=h4.mono hm;refine km ?_;rintro b7 i7 h7 hr7 hA7;refine mF ?_;rintro _ m1 _ ⟨hm1,s,q,rfl,hB⟩;replace hm:=cC hm hm1;clear hm1 h4c hr7 hA7;exact dS
  ·skip;have et:Pt.toks (.mk 12 hn hu [x])=[Pt.mk [91],Pt.mk [93]]++Pt.toks x:=oE;rw[et]at hl
   try simp only[dj,ba]at hl
   unfold TCall;refine ag Tryz.func76 57 ?_;refine oB (fun b=>?_);refine mg ?_;refine aj (hs:=[[91],[93]]) (l:=[[91],[93]]) tab rStr ⟨rfl,rfl,trivial⟩ uH ov (fun sl ma hma hsl _ _=>?_);replace hm:=cC hm hma;replace hB:=hB.mono hma;refine mS ?_;rintro _ m1 _ ⟨hm1,s,q,rfl,hB⟩;replace hm:=cC hm hm1;clear hm1 hma hsl;refine uL ?_;have h4c:=h4.mono hm;refine km ?_;rintro b7 i7 h7 hr7 hA7;refine mF ?_;rintro _ m1 _ ⟨hm1,s,q,rfl,hB⟩;replace hm:=cC hm hm1;clear hm1 h4c hr7 hA7;exact dS
 rw[if_neg (show ¬((Tree.mk hk hn hu ks).kind=11∨(Tree.mk hk hn hu ks).kind=12) from e2)]at ht;by_cases e3:hk=13
 ·rw[if_pos (show(Tree.mk hk hn hu ks).kind=13 from e3)]at ht;simp only[bu,bE]at ht;have hu0:0≤hu:=ht.2.1;have hu1:hu≤(ks.length:Int):=ht.2.2.1;subst e3;have hp:∀ r∈ks,Pw Tb 76 r:=fun r hr=>ih r hr (List.all_eq_true.1 ht.2.2.2 r hr);have et:Pt.toks (.mk 13 hn hu ks)=[Pt.wd [102,117,110,99],Pt.mk [40]]++(Pt.commaJ ((ks.take hu.toNat).map Pt.toks)++([Pt.mk [41]]++Pt.resJ ((ks.drop hu.toNat).map Pt.toks))):=by rw[Pt.toks_eq,List.map_take,List.map_drop];rfl
  rw[et]at hl
  try simp only[dj,ba]at hl
  unfold TCall;refine ag Tryz.func76 57 ?_;refine oB (fun b=>?_);refine mg ?_;refine aj (hs:=[[102,117,110,99],[40]]) (l:=[[102,117,110,99],[40]]) tab rStr ⟨rfl,rfl,trivial⟩ uH ov (fun sl ma hma hsl _ _=>?_);replace hm:=cC hm hma;replace hB:=hB.mono hma;refine uA ?_;refine oC de ((dk _ _ bd q s _ hB sl [Pt.wd [102,117,110,99],Pt.mk [40]] hsl oH).x ?_);rintro _ m1 _ ⟨hm1,s,q,rfl,hB⟩;replace hm:=cC hm hm1;clear hm1 hma hsl;refine uL ?_;have h4c:=h4.mono hm;refine qs rfl (OT.cut tab rTree 0 hu.toNat h4c rfl rfl rfl rfl rfl rfl rfl (.inl ⟨rfl,rfl⟩) (.inr pk) (cm _) ou (fun slp hslp=>?_));rw[cA]at hslp;refine uA ?_;refine oC goes126 ((each_law (Cbk.of hTb (fun r hr=>hp r (cu hr)) goes76 (hT.mono hm)) _ _ (cB _) q s _ hB slp hslp oH).x ?_);rintro _ m1 _ ⟨hm1,s,q,rfl,hB⟩;replace hm:=cC hm hm1;refine uA ?_;refine aj (hs:=[[41]]) (l:=[[41]]) tab rStr ⟨rfl,trivial⟩ uH ov (fun sl ma hma hsl _ _=>?_);replace hm:=cC hm hma;replace hB:=hB.mono hma;refine kM ?_;rintro _ m1 _ ⟨hm1,s,q,rfl,hB⟩;replace hm:=cC hm hm1;clear hm1 hma hsl;refine uL ?_;have h4d:=h4.mono hm;refine qs rfl (OT.cut tab rTree hu.toNat hks.len h4d rfl rfl rfl rfl rfl rfl rfl (.inr pk) (.inl ⟨rfl,rfl⟩) ou ou (fun slr hslr=>?_));rw[cl ou]at hslr;refine uA ?_;refine oC goes127 ((results_w hTb _ _ bd q s _ _ slr (hT.mono hm) hB hslr (fun r hr=>hp r (List.mem_of_mem_drop hr)) oH).x ?_);rintro _ m1 _ ⟨hm1,s,q,rfl,hB⟩;replace hm:=cC hm hm1;exact dS
 rw[if_neg (show ¬(Tree.mk hk hn hu ks).kind=13 from e3)]at ht;cases ht
theorem param_w (hTb:TbOk Tb) (a:Tree) (ht:a.isParam=true) (m:Mem) (L:List Item) (bd bp:Nat) (q:Option Addr) (s:Sl) (x0:Str) (h:HTree) (hA:At m bp 0 [bdV bd]) (hT0:Tb m) (hB:BOk m bd q s x0) (hr:TreeRep m h a) (hl:x0.length+(putT (Pt.toks a)).length≤140737488355328) :
  TCall Tryz.prog 128 ⟨[treeV h,.pointer (some ⟨bp,0,none⟩)]⟩ m (bdL bd q s L) (Wr bd m L (x0++putT (Pt.toks a))):=by
 unfold Tree.isParam at ht;simp only[bu,bE]at ht;obtain⟨h1,h2,h3,h4⟩:=hr;have hlen:=h4.len;have hsm:=h4.small rfl;have hm:=cB m;obtain⟨k,n0,u0,ks⟩:=a;obtain⟨hk,hn,hu,hks⟩:=h;simp only[Tree.kind,Tree.name,Tree.num,Tree.kids]at h1 h2 h3 h4 ht hlen hsm;subst h1 h2 h3;have hT:TbM Tb m:=⟨fun h=>hTb.mono hT0 h⟩
 obtain⟨rfl,-,-,hone,hall⟩:=ht;obtain⟨x,rfl⟩:=List.length_eq_one_iff.1 hone;have hx:=typ_w hTb x (List.all_eq_true.1 hall x ow);have hxi:[x][0]? = some x:=rfl;have et:Pt.toks (.mk 8 hn hu [x])=[Pt.nm hn]++Pt.toks x:=oE;rw[et]at hl;simp only[dj,ba]at hl;unfold TCall;refine ag Tryz.func128 14 ?_;refine oB (fun b=>?_);refine aN pq3 ?_;refine oL tab hA ?_;refine uL ?_;refine aj (hs:=[hn]) (l:=[hn]) tab rStr ⟨rfl,trivial⟩ uH ov (fun sl ma hma hsl _ _=>?_);replace hm:=cC hm hma;replace hB:=hB.mono hma;refine lP ?_;rintro _ m1 _ ⟨hm1,s,q,rfl,hB⟩;replace hm:=cC hm hm1;clear hm1 hma hsl;refine uA ?_;have hA2:=hA.mono hm;have h4c:=h4.mono hm;refine aO [] dc 6 [.cells b 0 (treeC ⟨8,hn,hu,hks⟩)] (bdL bd q s L) (List.Perm.symm pq3) ?_;refine ak (k:=0) 0 hA2 ?_;refine cT tab uC uK [1] uK rfl ?_;refine ae 2 0 ?_;refine DO.index tab rTree 3 0 h4c uC uK uK rfl rfl rfl rfl rfl rfl rfl oU rfl hxi ?_;rintro b7 i7 h7 hr7 hA7;refine ak (k:=0) 4 hA7 ?_;refine af 5 ?_;refine cY pq3 (cQ rfl rfl rfl rfl rfl rfl goes76 ((hx _ _ bd q s _ h7 (hT.mono hm) hB (rTree_iff.1 hr7) oH).x ?_));rintro _ m1 _ ⟨hm1,s,q,rfl,hB⟩;refine⟨hm1,bdL bd q s L,List.Perm.symm pq3,?_⟩;exact iK
theorem sig_w (hTb:TbOk Tb) (a:Tree) (ht:a.isSig=true):Pw Tb 77 a:=by
 intro m L bd q s x0 h hT0 hB hr hl;unfold Tree.isSig at ht;simp only[bu,bE]at ht;obtain⟨h1,h2,h3,h4⟩:=hr;have hlen:=h4.len;have hsm:=h4.small rfl;have hm:=cB m;obtain⟨k,n0,u0,ks⟩:=a;obtain⟨hk,hn,hu,hks⟩:=h;simp only[Tree.kind,Tree.name,Tree.num,Tree.kids]at h1 h2 h3 h4 ht hlen hsm;subst h1 h2 h3;have hT:TbM Tb m:=⟨fun h=>hTb.mono hT0 h⟩
 obtain⟨rfl,-,hu0,hu1,hpa,hre⟩:=ht;have hp:∀ r∈ks.drop hu.toNat,Pw Tb 76 r:=fun r hr=>typ_w hTb r (List.all_eq_true.1 hre r hr);have et:Pt.toks (.mk 7 hn hu ks)=[Pt.mk [40]]++(Pt.commaJ ((ks.take hu.toNat).map Pt.toks)++([Pt.mk [41]]++Pt.resJ ((ks.drop hu.toNat).map Pt.toks))):=by rw[Pt.toks_eq,List.map_take,List.map_drop];rfl
 rw[et]at hl;simp only[dj,ba]at hl;unfold TCall;refine ag Tryz.func77 25 ?_;refine oB (fun bp=>?_);refine cV fun ma hma hA=>?_;replace hm:=cC hm hma;replace hB:=hB.mono hma;refine uA ?_;refine oB (fun b=>?_);refine aN pq3 ?_;refine lg ?_;refine aj (hs:=[[40]]) (l:=[[40]]) tab rStr ⟨rfl,trivial⟩ uH ov (fun sl ma hma hsl _ _=>?_);replace hm:=cC hm hma;replace hB:=hB.mono hma;replace hA:=hA.mono hma;refine lq ?_;rintro _ m1 _ ⟨hm1,s,q,rfl,hB⟩;replace hm:=cC hm hm1;replace hA:=hA.mono hm1;clear hm1 hma hsl;skip;refine uA ?_;have h4c:=h4.mono hm;refine aO [] dc 8 [.cells b 0 (treeC ⟨7,hn,hu,hks⟩)] (bdL bd q s L) (List.Perm.symm pq3) ?_;refine mH ?_;refine nY ?_;refine af 5 ?_;refine OT.cut tab rTree 0 hu.toNat h4c rfl rfl rfl rfl rfl rfl rfl (.inl ⟨rfl,rfl⟩) (.inr pk) (cm _) ou (fun slp hslp=>?_);rw[cA]at hslp;refine⟨cB _,_,bj _,?_⟩;refine af 7 ?_;refine cY pq3 (cQ rfl rfl rfl rfl rfl rfl goes126 ((each_law (fn:=128) (first:=[]) (cap:=[.pointer (some ⟨bp,0,none⟩)]) (ks:=ks.take hu.toNat) ⟨goes128,fun k hk m2 L q s x h2 hmb hB hr hl=>param_w hTb k (List.all_eq_true.1 hpa k hk) m2 L bd bp q s x h2 (hA.mono hmb) (hT.mono (cC hm hmb)) hB hr hl⟩ _ _ (cB _) q s _ hB slp hslp oH).x ?_));rintro _ m1 _ ⟨hm1,s,q,rfl,hB⟩;refine⟨hm1,bdL bd q s L,List.Perm.symm pq3,?_⟩;refine aX ?_
 rotate_left 1
 replace hm:=cC hm hm1;replace hA:=hA.mono hm1;refine cE (TC.perm pq3 ?_);refine kJ ?_;refine aj (hs:=[[41]]) (l:=[[41]]) tab rStr ⟨rfl,trivial⟩ uH ov (fun sl ma hma hsl _ _=>?_);replace hm:=cC hm hma;replace hB:=hB.mono hma;replace hA:=hA.mono hma;refine kM ?_;rintro _ m1 _ ⟨hm1,s,q,rfl,hB⟩;replace hm:=cC hm hm1;replace hA:=hA.mono hm1;clear hm1 hma hsl;skip;refine uA ?_;have h4d:=h4.mono hm;refine aO [] dc 7 [.cells b 0 (treeC ⟨7,hn,hu,hks⟩)] (bdL bd q s L) (List.Perm.symm pq3) ?_;refine mH ?_;refine af 5 ?_;refine OT.cut tab rTree hu.toNat hks.len h4d rfl rfl rfl rfl rfl rfl rfl (.inr pk) (.inl ⟨rfl,rfl⟩) ou ou (fun slr hslr=>?_);rw[cl ou]at hslr;refine⟨cB _,_,bj _,?_⟩;refine af 6 ?_;refine cY pq3 (cQ rfl rfl rfl rfl rfl rfl goes127 ((results_w hTb _ _ bd q s _ _ slr (hT.mono hm) hB hslr hp oH).x ?_));rintro _ m1 _ ⟨hm1,s,q,rfl,hB⟩;refine⟨hm1,bdL bd q s L,List.Perm.symm pq3,?_⟩;exact iK
end
end Go.Sep
namespace Go.Sep
open Go.Proofs
attribute [local irreducible] TC TO OT TCallX TCall DO DOt thenQ blockQ retQ At
theorem and_0_1 (w:World):(Op.intBits .and .i64 0 1).run Tryz.prog w = .ok (.int .i64 0) w:=by
 exact fF
theorem and_0_2 (w:World):(Op.intBits .and .i64 0 2).run Tryz.prog w = .ok (.int .i64 0) w:=by
 exact fF
theorem and_1_1 (w:World):(Op.intBits .and .i64 1 1).run Tryz.prog w = .ok (.int .i64 1) w:=by
 exact fF
theorem and_1_2 (w:World):(Op.intBits .and .i64 1 2).run Tryz.prog w = .ok (.int .i64 0) w:=by
 exact fF
theorem and_2_1 (w:World):(Op.intBits .and .i64 2 1).run Tryz.prog w = .ok (.int .i64 0) w:=by
 exact fF
theorem and_2_2 (w:World):(Op.intBits .and .i64 2 2).run Tryz.prog w = .ok (.int .i64 2) w:=by
 exact fF
theorem and_3_1 (w:World):(Op.intBits .and .i64 3 1).run Tryz.prog w = .ok (.int .i64 1) w:=by
 exact fF
theorem and_3_2 (w:World):(Op.intBits .and .i64 3 2).run Tryz.prog w = .ok (.int .i64 2) w:=by
 exact fF
section
variable {Tb:Mem→Prop}
structure PT (Tb:Mem→Prop) (a:Tree):Prop where
 expr:Pt.numB2 a=true→lim.expr a=true→Pw Tb 167 a
 stmt:Pt.numB2 a=true→lim.stmt a=true→Pw Tb 131 a
 block:Pt.numB2 a=true→lim.block a=true→Pw Tb 79 a
theorem more_w (hTb:TbOk Tb) (a:Tree) (ih:∀ k∈a.kids,PT Tb k) (hnum:Pt.numB2 a=true) (he:exprS lim a=true) (h48:48≤a.kind):Pw Tb 194 a:=by
 intro m L bd q s x0 h hT0 hB hr hl;obtain⟨h1,h2,h3,h4⟩:=hr;have hlen:=h4.len;have hsm:=h4.small rfl;have hm:=cB m;have hT:TbM Tb m:=⟨fun h=>hTb.mono hT0 h⟩
 obtain⟨k,n0,u0,ks⟩:=a;obtain⟨hk,hn,hu,hks⟩:=h;simp only[Tree.kind,Tree.name,Tree.num,Tree.kids]at h1 h2 h3 h4 hlen hsm ih;subst h1 h2 h3;have hE:∀ x∈ks,lim.expr x=true→Pw Tb 167 x:=fun x hx h=>(ih x hx).expr (Pt.num_kid hnum pn) h;by_cases e:hk=48
 ·subst e;have hf:(ofB (.mk 48 hn hu ks) 48&&kidsR [lim.expr] none ks)=true:=he;rw[bu]at hf;obtain⟨x,rfl,hx⟩:=Pt.kids1 hf.2;have px:=hE x ow hx;have hxi:[x][0]? = some x:=rfl;have et:Pt.toks (.mk 48 hn hu [x])=Pt.toks x++[Pt.mk [46],Pt.nm hn]:=oE;rw[et]at hl
  try simp only[dj,ba]at hl
  unfold TCall;refine mE ?_;refine oB (fun b=>?_);refine mg ?_;have h4c:=h4.mono hm;refine km ?_;rintro b7 i7 h7 hr7 hA7;refine kj ?_;rintro _ m1 _ ⟨hm1,s,q,rfl,hB⟩;replace hm:=cC hm hm1;clear hm1 h4c hr7 hA7;refine uL ?_;refine aj (hs:=[[46],hn]) (l:=[[46],hn]) tab rStr ⟨rfl,rfl,trivial⟩ uH ov (fun sl ma hma hsl _ _=>?_);replace hm:=cC hm hma;replace hB:=hB.mono hma;refine uA ?_;refine oC de ((dk _ _ bd q s _ hB sl [Pt.mk [46],Pt.nm hn] hsl oH).x ?_);exact dO
 by_cases e:hk=49
 ·subst e;have hf:(bareB (.mk 49 hn hu ks) true false false&&kidsR [lim.expr,lim.expr] none ks)=true:=he;rw[bu]at hf;obtain⟨x,y,rfl,hx,hy⟩:=Pt.kids2 hf.2;have px:=hE x ow hx;have py:=hE y ow hy;have hxi:[x,y][0]? = some x:=rfl;have hyi:[x,y][1]? = some y:=rfl;have et:Pt.toks (.mk 49 hn hu [x,y])=Pt.toks x++([Pt.mk [91]]++(Pt.toks y++[Pt.mk [93]])):=oE;rw[et]at hl
  try simp only[dj,ba]at hl
  unfold TCall;refine mE ?_;refine oB (fun b=>?_);refine mg ?_;have h4c:=h4.mono hm;refine km ?_;rintro b7 i7 h7 hr7 hA7;refine kj ?_;rintro _ m1 _ ⟨hm1,s,q,rfl,hB⟩;replace hm:=cC hm hm1;clear hm1 h4c hr7 hA7;refine uL ?_;refine aj (hs:=[[91]]) (l:=[[91]]) tab rStr ⟨rfl,trivial⟩ uH ov (fun sl ma hma hsl _ _=>?_);replace hm:=cC hm hma;replace hB:=hB.mono hma;refine kQ ?_;rintro _ m1 _ ⟨hm1,s,q,rfl,hB⟩;replace hm:=cC hm hm1;clear hm1 hma hsl;refine uL ?_;have h4c:=h4.mono hm;refine kD ?_;rintro b7 i7 h7 hr7 hA7;refine kE ?_;rintro _ m1 _ ⟨hm1,s,q,rfl,hB⟩;replace hm:=cC hm hm1;clear hm1 h4c hr7 hA7;refine uL ?_;refine aj (hs:=[[93]]) (l:=[[93]]) tab rStr ⟨rfl,trivial⟩ uH ov (fun sl ma hma hsl _ _=>?_);replace hm:=cC hm hma;replace hB:=hB.mono hma;refine kR ?_;exact dO
 by_cases e:hk=50
 ·subst e;have hf:(bareB (.mk 50 hn hu ks) (lvl (.mk 50 hn hu ks)) false true&&ks.all lim.expr)=true:=he;rw[bu]at hf;have hlv:(decide (0≤hu)&&(decide (hu≤3)&&decide ((ks.length:Int)=1+hu % 2+hu / 2)))=true:=(Pt.bare_f hf.1).1;simp only[bu,bE]at hlv;have hE2:∀ x∈ks,Pw Tb 167 x:=fun x hx=>hE x hx (List.all_eq_true.1 hf.2 x hx);have hu4:hu=0∨hu=1∨hu=2∨hu=3:=ou;rcases hu4 with rfl | rfl | rfl | rfl
  ·skip;obtain⟨x,rfl⟩:=List.length_eq_one_iff.1 (show ks.length=1 by omega);have px:=hE2 x ow;have hxi:[x][0]? = some x:=rfl;have et:Pt.toks (.mk 50 hn 0 [x])=Pt.toks x++([Pt.mk [91]]++([Pt.mk [58]]++[Pt.mk [93]])):=oE;rw[et]at hl
   try simp only[dj,ba]at hl
   unfold TCall;refine mE ?_;refine oB (fun b=>?_);refine mg ?_;have h4c:=h4.mono hm;refine km ?_;rintro b7 i7 h7 hr7 hA7;refine kj ?_;rintro _ m1 _ ⟨hm1,s,q,rfl,hB⟩;replace hm:=cC hm hm1;clear hm1 h4c hr7 hA7;refine uL ?_;refine aj (hs:=[[91]]) (l:=[[91]]) tab rStr ⟨rfl,trivial⟩ uH ov (fun sl ma hma hsl _ _=>?_);replace hm:=cC hm hma;replace hB:=hB.mono hma;refine kQ ?_;rintro _ m1 _ ⟨hm1,s,q,rfl,hB⟩;replace hm:=cC hm hm1;clear hm1 hma hsl;refine uL ?_;refine qs rfl (OT.andK (r:=0) rfl rfl rfl rfl rfl (fun w=>and_0_1 w) ?_);refine uL ?_;refine aj (hs:=[[58]]) (l:=[[58]]) tab rStr ⟨rfl,trivial⟩ uH ov (fun sl ma hma hsl _ _=>?_);replace hm:=cC hm hma;replace hB:=hB.mono hma;refine lr ?_;rintro _ m1 _ ⟨hm1,s,q,rfl,hB⟩;replace hm:=cC hm hm1;clear hm1 hma hsl;refine uL ?_;refine qs rfl (OT.andK (r:=0) rfl rfl rfl rfl rfl (fun w=>and_0_2 w) ?_);refine uL ?_;refine aj (hs:=[[93]]) (l:=[[93]]) tab rStr ⟨rfl,trivial⟩ uH ov (fun sl ma hma hsl _ _=>?_);replace hm:=cC hm hma;replace hB:=hB.mono hma;refine kR ?_;exact dO
  ·skip;obtain⟨x,y,rfl⟩:=Pt.len2 (show ks.length=2 by omega);obtain⟨sa,sn,sc⟩:=hks;obtain rfl:sn=2:=hlen;have px:=hE2 x ow;have hxi:[x,y][0]? = some x:=rfl;have py:=hE2 y ow;have hyi:[x,y][1]? = some y:=rfl;have et:Pt.toks (.mk 50 hn 1 [x,y])=Pt.toks x++([Pt.mk [91]]++(Pt.toks y++([Pt.mk [58]]++[Pt.mk [93]]))):=oE;rw[et]at hl
   try simp only[dj,ba]at hl
   unfold TCall;refine mE ?_;refine oB (fun b=>?_);refine mg ?_;have h4c:=h4.mono hm;refine km ?_;rintro b7 i7 h7 hr7 hA7;refine kj ?_;rintro _ m1 _ ⟨hm1,s,q,rfl,hB⟩;replace hm:=cC hm hm1;clear hm1 h4c hr7 hA7;refine uL ?_;refine aj (hs:=[[91]]) (l:=[[91]]) tab rStr ⟨rfl,trivial⟩ uH ov (fun sl ma hma hsl _ _=>?_);replace hm:=cC hm hma;replace hB:=hB.mono hma;refine kQ ?_;rintro _ m1 _ ⟨hm1,s,q,rfl,hB⟩;replace hm:=cC hm hm1;clear hm1 hma hsl;refine uL ?_;refine qs rfl (OT.andK (r:=1) rfl rfl rfl rfl rfl (fun w=>and_1_1 w) ?_);refine uL ?_;have h4c:=h4.mono hm;refine kD ?_;rintro b7 i7 h7 hr7 hA7;refine kE ?_;rintro _ m1 _ ⟨hm1,s,q,rfl,hB⟩;replace hm:=cC hm hm1;clear hm1 h4c hr7 hA7;refine uL ?_;refine aj (hs:=[[58]]) (l:=[[58]]) tab rStr ⟨rfl,trivial⟩ uH ov (fun sl ma hma hsl _ _=>?_);replace hm:=cC hm hma;replace hB:=hB.mono hma;refine lr ?_;rintro _ m1 _ ⟨hm1,s,q,rfl,hB⟩;replace hm:=cC hm hm1;clear hm1 hma hsl;refine uL ?_;refine qs rfl (OT.andK (r:=0) rfl rfl rfl rfl rfl (fun w=>and_1_2 w) ?_);refine uL ?_;refine aj (hs:=[[93]]) (l:=[[93]]) tab rStr ⟨rfl,trivial⟩ uH ov (fun sl ma hma hsl _ _=>?_);replace hm:=cC hm hma;replace hB:=hB.mono hma;refine kR ?_;exact dO
  ·skip;obtain⟨x,y,rfl⟩:=Pt.len2 (show ks.length=2 by omega);obtain⟨sa,sn,sc⟩:=hks;obtain rfl:sn=2:=hlen;have px:=hE2 x ow;have hxi:[x,y][0]? = some x:=rfl;have py:=hE2 y ow;have hyi:[x,y][1]? = some y:=rfl;have et:Pt.toks (.mk 50 hn 2 [x,y])=Pt.toks x++([Pt.mk [91]]++([Pt.mk [58]]++(Pt.toks y++[Pt.mk [93]]))):=oE;rw[et]at hl
   try simp only[dj,ba]at hl
   unfold TCall;refine mE ?_;refine oB (fun b=>?_);refine mg ?_;have h4c:=h4.mono hm;refine km ?_;rintro b7 i7 h7 hr7 hA7;refine kj ?_;rintro _ m1 _ ⟨hm1,s,q,rfl,hB⟩;replace hm:=cC hm hm1;clear hm1 h4c hr7 hA7;refine uL ?_;refine aj (hs:=[[91]]) (l:=[[91]]) tab rStr ⟨rfl,trivial⟩ uH ov (fun sl ma hma hsl _ _=>?_);replace hm:=cC hm hma;replace hB:=hB.mono hma;refine kQ ?_;rintro _ m1 _ ⟨hm1,s,q,rfl,hB⟩;replace hm:=cC hm hm1;clear hm1 hma hsl;refine uL ?_;refine qs rfl (OT.andK (r:=0) rfl rfl rfl rfl rfl (fun w=>and_2_1 w) ?_);refine uL ?_;refine aj (hs:=[[58]]) (l:=[[58]]) tab rStr ⟨rfl,trivial⟩ uH ov (fun sl ma hma hsl _ _=>?_);replace hm:=cC hm hma;replace hB:=hB.mono hma;refine lr ?_;rintro _ m1 _ ⟨hm1,s,q,rfl,hB⟩;replace hm:=cC hm hm1;clear hm1 hma hsl;refine uL ?_;refine qs rfl (OT.andK (r:=2) rfl rfl rfl rfl rfl (fun w=>and_2_2 w) ?_);refine uL ?_;refine aa (r':=1) uH ov ?_;have h4c:=h4.mono hm;refine kD ?_;rintro b7 i7 h7 hr7 hA7;refine kE ?_;rintro _ m1 _ ⟨hm1,s,q,rfl,hB⟩;replace hm:=cC hm hm1;clear hm1 h4c hr7 hA7;refine uL ?_;refine aj (hs:=[[93]]) (l:=[[93]]) tab rStr ⟨rfl,trivial⟩ uH ov (fun sl ma hma hsl _ _=>?_);replace hm:=cC hm hma;replace hB:=hB.mono hma;refine kR ?_;exact dO
  ·skip;obtain⟨x,y,z,rfl⟩:=Pt.len3 (show ks.length=3 by omega);obtain⟨sa,sn,sc⟩:=hks;obtain rfl:sn=3:=hlen;have px:=hE2 x ow;have hxi:[x,y,z][0]? = some x:=rfl;have py:=hE2 y ow;have hyi:[x,y,z][1]? = some y:=rfl;have pz:=hE2 z ow;have hzi:[x,y,z][2]? = some z:=rfl;have et:Pt.toks (.mk 50 hn 3 [x,y,z])=Pt.toks x++([Pt.mk [91]]++(Pt.toks y++([Pt.mk [58]]++(Pt.toks z++[Pt.mk [93]])))):=oE;rw[et]at hl
   try simp only[dj,ba]at hl
   unfold TCall;refine mE ?_;refine oB (fun b=>?_);refine mg ?_;have h4c:=h4.mono hm;refine km ?_;rintro b7 i7 h7 hr7 hA7;refine kj ?_;rintro _ m1 _ ⟨hm1,s,q,rfl,hB⟩;replace hm:=cC hm hm1;clear hm1 h4c hr7 hA7;refine uL ?_;refine aj (hs:=[[91]]) (l:=[[91]]) tab rStr ⟨rfl,trivial⟩ uH ov (fun sl ma hma hsl _ _=>?_);replace hm:=cC hm hma;replace hB:=hB.mono hma;refine kQ ?_;rintro _ m1 _ ⟨hm1,s,q,rfl,hB⟩;replace hm:=cC hm hm1;clear hm1 hma hsl;refine uL ?_;refine qs rfl (OT.andK (r:=1) rfl rfl rfl rfl rfl (fun w=>and_3_1 w) ?_);refine uL ?_;have h4c:=h4.mono hm;refine kD ?_;rintro b7 i7 h7 hr7 hA7;refine kE ?_;rintro _ m1 _ ⟨hm1,s,q,rfl,hB⟩;replace hm:=cC hm hm1;clear hm1 h4c hr7 hA7;refine uL ?_;refine aj (hs:=[[58]]) (l:=[[58]]) tab rStr ⟨rfl,trivial⟩ uH ov (fun sl ma hma hsl _ _=>?_);replace hm:=cC hm hma;replace hB:=hB.mono hma;refine lr ?_;rintro _ m1 _ ⟨hm1,s,q,rfl,hB⟩;replace hm:=cC hm hm1;clear hm1 hma hsl;refine uL ?_;refine qs rfl (OT.andK (r:=2) rfl rfl rfl rfl rfl (fun w=>and_3_2 w) ?_);refine uL ?_;refine aa (r':=2) uH ov ?_;have h4c:=h4.mono hm;refine al tab rTree 2 h4c uH oy rfl hzi ?_;rintro b7 i7 h7 hr7 hA7;refine an tab hA7 ?_;refine oC goes167 ((pz _ _ bd q s _ h7 (hT.mono hm) hB (rTree_iff.1 hr7) oH).x ?_);rintro _ m1 _ ⟨hm1,s,q,rfl,hB⟩;replace hm:=cC hm hm1;clear hm1 h4c hr7 hA7;refine uL ?_;refine aj (hs:=[[93]]) (l:=[[93]]) tab rStr ⟨rfl,trivial⟩ uH ov (fun sl ma hma hsl _ _=>?_);replace hm:=cC hm hma;replace hB:=hB.mono hma;refine kR ?_;exact dO
 by_cases e:hk=51
 ·subst e;have hf:(bareB (.mk 51 hn hu ks) true false false&&kidsR [lim.expr] (some lim.expr) ks)=true:=he;rw[bu]at hf;obtain⟨x,r,rfl,hx,hr⟩:=Pt.kidsS hf.2;have px:=hE x ow hx;have hxi:(x::r)[0]? = some x:=rfl;have hpr:∀ k∈r,Pw Tb 167 k:=fun k hk=>hE k (by simp[hk]) (hr k hk);have et:Pt.toks (.mk 51 hn hu (x::r))=Pt.toks x++([Pt.mk [40]]++(Pt.commaJ (r.map Pt.toks)++[Pt.mk [41]])):=oE;rw[et]at hl
  try simp only[dj,ba]at hl
  unfold TCall;refine mE ?_;refine oB (fun b=>?_);refine mg ?_;have h4c:=h4.mono hm;refine km ?_;rintro b7 i7 h7 hr7 hA7;refine kj ?_;rintro _ m1 _ ⟨hm1,s,q,rfl,hB⟩;replace hm:=cC hm hm1;clear hm1 h4c hr7 hA7;refine uL ?_;refine aj (hs:=[[40]]) (l:=[[40]]) tab rStr ⟨rfl,trivial⟩ uH ov (fun sl ma hma hsl _ _=>?_);replace hm:=cC hm hma;replace hB:=hB.mono hma;refine lq ?_;rintro _ m1 _ ⟨hm1,s,q,rfl,hB⟩;replace hm:=cC hm hm1;clear hm1 hma hsl;refine uL ?_;have h4d:=h4.mono hm;refine qs rfl (OT.cut tab rTree 1 hks.len h4d rfl rfl rfl rfl rfl rfl rfl (.inr rfl) (.inl ⟨rfl,rfl⟩) (by simp only[be]at hlen;omega) ou (fun slr hslr=>?_));rw[cl ou,List.drop_succ_cons,cA]at hslr;refine mo ?_;rintro _ m1 _ ⟨hm1,s,q,rfl,hB⟩;replace hm:=cC hm hm1;refine uA ?_;refine aj (hs:=[[41]]) (l:=[[41]]) tab rStr ⟨rfl,trivial⟩ uH ov (fun sl ma hma hsl _ _=>?_);replace hm:=cC hm hma;replace hB:=hB.mono hma;refine kM ?_;exact dO
 by_cases e:hk=52
 ·subst e;have hf:(bareB (.mk 52 hn hu ks) (decide (hn∈ops4)) true false&&kidsR [lim.expr] none ks)=true:=he;rw[bu]at hf;obtain⟨x,rfl,hx⟩:=Pt.kids1 hf.2;have px:=hE x ow hx;have hxi:[x][0]? = some x:=rfl;have et:Pt.toks (.mk 52 hn hu [x])=[Pt.mk [40],Pt.mk hn]++(Pt.toks x++[Pt.mk [41]]):=oE;rw[et]at hl
  try simp only[dj,ba]at hl
  unfold TCall;refine mE ?_;refine oB (fun b=>?_);refine mg ?_;refine aj (hs:=[[40],hn]) (l:=[[40],hn]) tab rStr ⟨rfl,rfl,trivial⟩ uH ov (fun sl ma hma hsl _ _=>?_);replace hm:=cC hm hma;replace hB:=hB.mono hma;refine uA ?_;refine oC de ((dk _ _ bd q s _ hB sl [Pt.mk [40],Pt.mk hn] hsl oH).x ?_);rintro _ m1 _ ⟨hm1,s,q,rfl,hB⟩;replace hm:=cC hm hm1;clear hm1 hma hsl;refine uL ?_;have h4c:=h4.mono hm;refine km ?_;rintro b7 i7 h7 hr7 hA7;refine kj ?_;rintro _ m1 _ ⟨hm1,s,q,rfl,hB⟩;replace hm:=cC hm hm1;clear hm1 h4c hr7 hA7;refine uL ?_;refine aj (hs:=[[41]]) (l:=[[41]]) tab rStr ⟨rfl,trivial⟩ uH ov (fun sl ma hma hsl _ _=>?_);replace hm:=cC hm hma;replace hB:=hB.mono hma;refine kM ?_;exact dO
 by_cases e:hk=53
 ·subst e;have hf:(bareB (.mk 53 hn hu ks) (decide (hn∈Ps.levels.flatten)) true false&&kidsR [lim.expr,lim.expr] none ks)=true:=he;rw[bu]at hf;obtain⟨x,y,rfl,hx,hy⟩:=Pt.kids2 hf.2;have px:=hE x ow hx;have py:=hE y ow hy;have hxi:[x,y][0]? = some x:=rfl;have hyi:[x,y][1]? = some y:=rfl;have et:Pt.toks (.mk 53 hn hu [x,y])=[Pt.mk [40]]++(Pt.toks x++([Pt.mk hn]++(Pt.toks y++[Pt.mk [41]]))):=oE;rw[et]at hl
  try simp only[dj,ba]at hl
  unfold TCall;refine mE ?_;refine oB (fun b=>?_);refine mg ?_;refine aj (hs:=[[40]]) (l:=[[40]]) tab rStr ⟨rfl,trivial⟩ uH ov (fun sl ma hma hsl _ _=>?_);replace hm:=cC hm hma;replace hB:=hB.mono hma;refine lq ?_;rintro _ m1 _ ⟨hm1,s,q,rfl,hB⟩;replace hm:=cC hm hm1;clear hm1 hma hsl;refine uL ?_;have h4c:=h4.mono hm;refine km ?_;rintro b7 i7 h7 hr7 hA7;refine kj ?_;rintro _ m1 _ ⟨hm1,s,q,rfl,hB⟩;replace hm:=cC hm hm1;clear hm1 h4c hr7 hA7;refine uL ?_;refine aj (hs:=[hn]) (l:=[hn]) tab rStr ⟨rfl,trivial⟩ uH ov (fun sl ma hma hsl _ _=>?_);replace hm:=cC hm hma;replace hB:=hB.mono hma;refine uA ?_;refine oC de ((dk _ _ bd q s _ hB sl [Pt.mk hn] hsl oH).x ?_);rintro _ m1 _ ⟨hm1,s,q,rfl,hB⟩;replace hm:=cC hm hm1;clear hm1 hma hsl;refine uL ?_;have h4c:=h4.mono hm;refine kD ?_;rintro b7 i7 h7 hr7 hA7;refine kE ?_;rintro _ m1 _ ⟨hm1,s,q,rfl,hB⟩;replace hm:=cC hm hm1;clear hm1 h4c hr7 hA7;refine uL ?_;refine aj (hs:=[[41]]) (l:=[[41]]) tab rStr ⟨rfl,trivial⟩ uH ov (fun sl ma hma hsl _ _=>?_);replace hm:=cC hm hma;replace hB:=hB.mono hma;refine kM ?_;exact dO
 exfalso;have h48':48≤hk:=h48;unfold exprS at he;simp only[Tree.kind]at he;have n1:¬hk=40:=ou;have n2:¬hk=41:=ou;have n3:¬hk=42:=ou;have n4:¬hk=43:=ou;have n5:¬hk=44:=ou;have n6:¬hk=45:=ou;have n7:¬hk=46:=ou;have n8:¬hk=47:=ou;simp[*]at he
end
end Go.Sep
namespace Go.Sep
open Go.Proofs
attribute [local irreducible] TC TO OT TCallX TCall DO DOt thenQ blockQ retQ At
section
variable {Tb:Mem→Prop}
theorem expr_w (hTb:TbOk Tb) (hI:∀(m:Mem) (L:List Item) (n:Int),Tb m→0≤n→n<9223372036854775808→TCall Tryz.prog 192 ⟨[.int .i64 n]⟩ m L (Made m L fun r _=>r=strV (Pt.digN n.toNat)))
  (a:Tree) (ih:∀ k∈a.kids,PT Tb k) (hnum:Pt.numB2 a=true) (he:exprS lim a=true):Pw Tb 167 a:=by
 have hmore:=more_w hTb a ih hnum he;intro m L bd q s x0 h hT0 hB hr hl;obtain⟨h1,h2,h3,h4⟩:=hr;have hlen:=h4.len;have hsm:=h4.small rfl;have hm:=cB m;have hT:TbM Tb m:=⟨fun h=>hTb.mono hT0 h⟩
 obtain⟨k,n0,u0,ks⟩:=a;obtain⟨hk,hn,hu,hks⟩:=h;simp only[Tree.kind,Tree.name,Tree.num,Tree.kids]at h1 h2 h3 h4 hlen hsm ih;subst h1 h2 h3;have hE:∀ x∈ks,lim.expr x=true→Pw Tb 167 x:=fun x hx h=>(ih x hx).expr (Pt.num_kid hnum pn) h;by_cases e:hk=40
 ·subst e;have hf:(bareB (.mk 40 hn hu ks) (decide (0≤hu)) false true&&kidsR [] none ks)=true:=he;rw[bu]at hf;have hu0:=of_decide_eq_true (Pt.bare_f hf.1).1;have hu1:=Pt.num_int hnum;have et:Pt.toks (.mk 40 hn hu ks)=[⟨2,[],hu⟩]:=oE;rw[et]at hl
  try simp only[dj,ba]at hl
  unfold TCall;refine mm ?_;refine oB (fun b=>?_);refine mg ?_;refine oC goes192 ((hI _ _ hu (hT.mono hm) hu0 hu1).x ?_);rintro _ m1 _ ⟨hm1,rfl,rfl⟩;replace hm:=cC hm hm1;replace hB:=hB.mono hm1;refine uA ?_;refine aj (hs:=[Pt.digN hu.toNat]) (l:=[Pt.digN hu.toNat]) tab rStr ⟨rfl,trivial⟩ uH ov (fun sl ma hma hsl _ _=>?_);replace hm:=cC hm hma;replace hB:=hB.mono hma;refine uA ?_;refine oC de ((dk _ _ bd q s _ hB sl [⟨2,[],hu⟩] hsl oH).x ?_);exact dO
 by_cases e:hk=41
 ·subst e;have hf:(bareB (.mk 41 hn hu ks) (decide ((hn.length:Int)≤1024)) true false&&kidsR [] none ks)=true:=he;rw[bu]at hf;have hl1:=of_decide_eq_true (Pt.bare_f hf.1).1;have et:Pt.toks (.mk 41 hn hu ks)=[⟨3,hn,0⟩]:=oE;rw[et]at hl
  try simp only[dj,ba]at hl
  unfold TCall;refine mm ?_;refine oB (fun b=>?_);refine mg ?_;refine oR goes193 (quote_law _ _ hn ou) ?_;refine uA ?_;refine aj (hs:=[quoteD hn]) (l:=[quoteD hn]) tab rStr ⟨rfl,trivial⟩ uH ov (fun sl ma hma hsl _ _=>?_);replace hm:=cC hm hma;replace hB:=hB.mono hma;refine uA ?_;refine oC de ((dk _ _ bd q s _ hB sl [⟨3,hn,0⟩] hsl oH).x ?_);exact dO
 by_cases e:hk=42
 ·subst e;have hf:(bareB (.mk 42 hn hu ks) (decide (hu / 2=0)) false true&&kidsR [] none ks)=true:=he;rw[bu]at hf;have hu2:=of_decide_eq_true (Pt.bare_f hf.1).1;have hu3:hu=0∨hu=1:=ou;rcases hu3 with rfl | rfl
  ·skip;have et:Pt.toks (.mk 42 hn 0 ks)=[Pt.wd [102,97,108,115,101]]:=oE;rw[et]at hl
   try simp only[dj,ba]at hl
   unfold TCall;refine mm ?_;refine oB (fun b=>?_);refine mg ?_;refine aj (hs:=[[102,97,108,115,101],[116,114,117,101]]) (l:=[[102,97,108,115,101],[116,114,117,101]]) tab rStr ⟨rfl,rfl,trivial⟩ uH ov (fun sl0 ma hma hsl0 _ _=>?_);replace hm:=cC hm hma;replace hB:=hB.mono hma;refine uL ?_;have hbi:([[102,97,108,115,101],[116,114,117,101]]:List Str)[0]? = some [102,97,108,115,101]:=rfl;refine al tab rStr 0 hsl0 uH oy rfl hbi ?_;rintro b7 i7 v7 hv7 hA7;obtain rfl:v7=[102,97,108,115,101]:=hv7;refine an tab hA7 ?_;refine aj (hs:=[[102,97,108,115,101]]) (l:=[[102,97,108,115,101]]) tab rStr ⟨rfl,trivial⟩ uH ov (fun sl ma hma hsl _ _=>?_);replace hm:=cC hm hma;replace hB:=hB.mono hma;refine uA ?_;refine oC de ((dk _ _ bd q s _ hB sl [Pt.wd [102,97,108,115,101]] hsl oH).x ?_);exact dO
  ·skip;have et:Pt.toks (.mk 42 hn 1 ks)=[Pt.wd [116,114,117,101]]:=oE;rw[et]at hl
   try simp only[dj,ba]at hl
   unfold TCall;refine mm ?_;refine oB (fun b=>?_);refine mg ?_;refine aj (hs:=[[102,97,108,115,101],[116,114,117,101]]) (l:=[[102,97,108,115,101],[116,114,117,101]]) tab rStr ⟨rfl,rfl,trivial⟩ uH ov (fun sl0 ma hma hsl0 _ _=>?_);replace hm:=cC hm hma;replace hB:=hB.mono hma;refine uL ?_;have hbi:([[102,97,108,115,101],[116,114,117,101]]:List Str)[1]? = some [116,114,117,101]:=rfl;refine al tab rStr 1 hsl0 uH oy rfl hbi ?_;rintro b7 i7 v7 hv7 hA7;obtain rfl:v7=[116,114,117,101]:=hv7;refine an tab hA7 ?_;refine aj (hs:=[[116,114,117,101]]) (l:=[[116,114,117,101]]) tab rStr ⟨rfl,trivial⟩ uH ov (fun sl ma hma hsl _ _=>?_);replace hm:=cC hm hma;replace hB:=hB.mono hma;refine uA ?_;refine oC de ((dk _ _ bd q s _ hB sl [Pt.wd [116,114,117,101]] hsl oH).x ?_);exact dO
 by_cases e:hk=43
 ·subst e;have et:Pt.toks (.mk 43 hn hu ks)=[Pt.wd [110,105,108]]:=oE;rw[et]at hl
  try simp only[dj,ba]at hl
  unfold TCall;refine mm ?_;refine oB (fun b=>?_);refine mg ?_;refine aj (hs:=[[110,105,108]]) (l:=[[110,105,108]]) tab rStr ⟨rfl,trivial⟩ uH ov (fun sl ma hma hsl _ _=>?_);replace hm:=cC hm hma;replace hB:=hB.mono hma;refine uA ?_;refine oC de ((dk _ _ bd q s _ hB sl [Pt.wd [110,105,108]] hsl oH).x ?_);exact dO
 by_cases e:hk=44
 ·subst e;have et:Pt.toks (.mk 44 hn hu ks)=[Pt.nm hn]:=oE;rw[et]at hl
  try simp only[dj,ba]at hl
  unfold TCall;refine mm ?_;refine oB (fun b=>?_);refine mg ?_;refine aj (hs:=[hn]) (l:=[hn]) tab rStr ⟨rfl,trivial⟩ uH ov (fun sl ma hma hsl _ _=>?_);replace hm:=cC hm hma;replace hB:=hB.mono hma;refine lP ?_;exact dO
 by_cases e:hk=45
 ·subst e;have hf:(ofB (.mk 45 hn hu ks) 45&&ks.all lim.expr)=true:=he;rw[bu]at hf;have hpr:∀ k∈ks,Pw Tb 167 k:=fun k hk=>hE k hk (List.all_eq_true.1 hf.2 k hk);have et:Pt.toks (.mk 45 hn hu ks)=[Pt.mk [40],Pt.nm hn,Pt.mk [123]]++(Pt.commaJ (ks.map Pt.toks)++[Pt.mk [125],Pt.mk [41]]):=oE;rw[et]at hl
  try simp only[dj,ba]at hl
  unfold TCall;refine mm ?_;refine oB (fun b=>?_);refine mg ?_;refine aj (hs:=[[40],hn,[123]]) (l:=[[40],hn,[123]]) tab rStr ⟨rfl,rfl,rfl,trivial⟩ uH ov (fun sl ma hma hsl _ _=>?_);replace hm:=cC hm hma;replace hB:=hB.mono hma;refine uA ?_;refine oC de ((dk _ _ bd q s _ hB sl [Pt.mk [40],Pt.nm hn,Pt.mk [123]] hsl oH).x ?_);rintro _ m1 _ ⟨hm1,s,q,rfl,hB⟩;replace hm:=cC hm hm1;clear hm1 hma hsl;refine uL ?_;have h4d:=h4.mono hm;refine oC goes126 ((each_law (Cbk.of hTb hpr goes167 (hT.mono hm)) _ _ (cB _) q s _ hB hks h4d oH).x ?_);rintro _ m1 _ ⟨hm1,s,q,rfl,hB⟩;replace hm:=cC hm hm1;refine uA ?_;refine aj (hs:=[[125],[41]]) (l:=[[125],[41]]) tab rStr ⟨rfl,rfl,trivial⟩ uH ov (fun sl ma hma hsl _ _=>?_);replace hm:=cC hm hma;replace hB:=hB.mono hma;refine uA ?_;refine oC de ((dk _ _ bd q s _ hB sl [Pt.mk [125],Pt.mk [41]] hsl oH).x ?_);exact dO
 by_cases e:hk=46
 ·subst e;have hf:(bareB (.mk 46 hn hu ks) true false false&&kidsR [Tree.isType] (some lim.expr) ks)=true:=he;rw[bu]at hf;obtain⟨x,r,rfl,hx,hr⟩:=Pt.kidsS hf.2;have px:=typ_w hTb x hx;have hxi:(x::r)[0]? = some x:=rfl;have hpr:∀ k∈r,Pw Tb 167 k:=fun k hk=>hE k (by simp[hk]) (hr k hk);have et:Pt.toks (.mk 46 hn hu (x::r))=[Pt.mk [91],Pt.mk [93]]++(Pt.toks x++([Pt.mk [123]]++(Pt.commaJ (r.map Pt.toks)++[Pt.mk [125]]))):=oE;rw[et]at hl
  try simp only[dj,ba]at hl
  unfold TCall;refine mm ?_;refine oB (fun b=>?_);refine mg ?_;refine aj (hs:=[[91],[93]]) (l:=[[91],[93]]) tab rStr ⟨rfl,rfl,trivial⟩ uH ov (fun sl ma hma hsl _ _=>?_);replace hm:=cC hm hma;replace hB:=hB.mono hma;refine mS ?_;rintro _ m1 _ ⟨hm1,s,q,rfl,hB⟩;replace hm:=cC hm hm1;clear hm1 hma hsl;refine uL ?_;have h4c:=h4.mono hm;refine km ?_;rintro b7 i7 h7 hr7 hA7;refine kU ?_;rintro _ m1 _ ⟨hm1,s,q,rfl,hB⟩;replace hm:=cC hm hm1;clear hm1 h4c hr7 hA7;refine uL ?_;refine aj (hs:=[[123]]) (l:=[[123]]) tab rStr ⟨rfl,trivial⟩ uH ov (fun sl ma hma hsl _ _=>?_);replace hm:=cC hm hma;replace hB:=hB.mono hma;refine ni ?_;rintro _ m1 _ ⟨hm1,s,q,rfl,hB⟩;replace hm:=cC hm hm1;clear hm1 hma hsl;refine uL ?_;have h4d:=h4.mono hm;refine qs rfl (OT.cut tab rTree 1 hks.len h4d rfl rfl rfl rfl rfl rfl rfl (.inr rfl) (.inl ⟨rfl,rfl⟩) (by simp only[be]at hlen;omega) ou (fun slr hslr=>?_));rw[cl ou,List.drop_succ_cons,cA]at hslr;refine mo ?_;rintro _ m1 _ ⟨hm1,s,q,rfl,hB⟩;replace hm:=cC hm hm1;refine uA ?_;refine aj (hs:=[[125]]) (l:=[[125]]) tab rStr ⟨rfl,trivial⟩ uH ov (fun sl ma hma hsl _ _=>?_);replace hm:=cC hm hma;replace hB:=hB.mono hma;refine ll ?_;exact dO
 by_cases e:hk=47
 ·subst e;have hf:(bareB (.mk 47 hn hu ks) true false false&&kidsR [Tree.isSig,lim.block] none ks)=true:=he;rw[bu]at hf;obtain⟨x,y,rfl,hx,hy⟩:=Pt.kids2 hf.2;have px:=sig_w hTb x hx;have py:=(ih y ow).block (Pt.num_kid hnum oD) hy;have hxi:[x,y][0]? = some x:=rfl;have hyi:[x,y][1]? = some y:=rfl;have et:Pt.toks (.mk 47 hn hu [x,y])=[Pt.wd [102,117,110,99]]++(Pt.toks x++Pt.toks y):=oE;rw[et]at hl
  try simp only[dj,ba]at hl
  unfold TCall;refine mm ?_;refine oB (fun b=>?_);refine mg ?_;refine aj (hs:=[[102,117,110,99]]) (l:=[[102,117,110,99]]) tab rStr ⟨rfl,trivial⟩ uH ov (fun sl ma hma hsl _ _=>?_);replace hm:=cC hm hma;replace hB:=hB.mono hma;refine uA ?_;refine oC de ((dk _ _ bd q s _ hB sl [Pt.wd [102,117,110,99]] hsl oH).x ?_);rintro _ m1 _ ⟨hm1,s,q,rfl,hB⟩;replace hm:=cC hm hm1;clear hm1 hma hsl;refine uL ?_;have h4c:=h4.mono hm;refine km ?_;rintro b7 i7 h7 hr7 hA7;refine kV ?_;rintro _ m1 _ ⟨hm1,s,q,rfl,hB⟩;replace hm:=cC hm hm1;clear hm1 h4c hr7 hA7;refine uL ?_;have h4c:=h4.mono hm;refine kD ?_;rintro b7 i7 h7 hr7 hA7;refine kG ?_;rintro _ m1 _ ⟨hm1,s,q,rfl,hB⟩;replace hm:=cC hm hm1;clear hm1 h4c hr7 hA7;exact dS
 have hk48:48≤hk:=by
  unfold exprS at he;simp only[Tree.kind]at he;by_cases h2:48≤hk
  ·exact h2
  exfalso;have n1:¬hk=48:=ou;have n2:¬hk=49:=ou;have n3:¬hk=50:=ou;have n4:¬hk=51:=ou;have n5:¬hk=52:=ou;have n6:¬hk=53:=ou;simp[*]at he
 unfold TCall;refine mm ?_;refine oB (fun b=>?_);refine mg ?_;refine ap (fun c40=>?_) (fun c40=>?_)
 ·exact absurd c40 (show ¬hk=40 by omega)
 refine uL ?_;refine ap (fun c41=>?_) (fun c41=>?_)
 ·exact absurd c41 (show ¬hk=41 by omega)
 refine uL ?_;refine ap (fun c42=>?_) (fun c42=>?_)
 ·exact absurd c42 (show ¬hk=42 by omega)
 refine uL ?_;refine ap (fun c43=>?_) (fun c43=>?_)
 ·exact absurd c43 (show ¬hk=43 by omega)
 refine uL ?_;refine ap (fun c44=>?_) (fun c44=>?_)
 ·exact absurd c44 (show ¬hk=44 by omega)
 refine uL ?_;refine ap (fun c45=>?_) (fun c45=>?_)
 ·exact absurd c45 (show ¬hk=45 by omega)
 refine uL ?_;refine ap (fun c46=>?_) (fun c46=>?_)
 ·exact absurd c46 (show ¬hk=46 by omega)
 refine uL ?_;refine ap (fun c47=>?_) (fun c47=>?_)
 ·exact absurd c47 (show ¬hk=47 by omega)
 refine uL ?_;refine oC goes194 ((hmore hk48 _ _ bd q s _ ⟨hk,hn,hu,hks⟩ hT0 hB ⟨rfl,rfl,rfl,h4⟩ hl).x ?_);exact jm
end
end Go.Sep
namespace Go.Sep
open Go.Proofs
attribute [local irreducible] TC TO OT TCallX TCall DO DOt thenQ blockQ retQ At
theorem flat_cut (ks:List Tree) (i:Nat) (h:i<ks.length):(ks.map Pt.toks).flatten=((ks.take i).map Pt.toks).flatten++(Pt.toks ks[i]++((ks.drop (i+1)).map Pt.toks).flatten):=by
 have e:ks=ks.take i++(ks[i]::ks.drop (i+1)):=by rw[←bV h,cn]
 conv=>lhs;rw[e]
 rw[cr,List.flatten_append,bK,List.flatten_cons]
theorem flat_next (ks:List Tree) (i:Nat) (h:i<ks.length):((ks.take (i+1)).map Pt.toks).flatten=((ks.take i).map Pt.toks).flatten++Pt.toks ks[i]:=by
 rw[cp h,cr,List.flatten_append];simp
section
variable {Tb:Mem→Prop}
def simT (a:Tree):List Ps.Tk:=(Pt.toks a).dropLast
theorem block_w (hTb:TbOk Tb) (a:Tree) (ih:∀ k∈a.kids,PT Tb k) (hnum:Pt.numB2 a=true) (hbl:lim.block a=true):Pw Tb 79 a:=by
 obtain⟨f1,f2,f3,f4⟩:=Pt.block_f hbl;intro m L bd q s x0 h hT0 hB hr hl;obtain⟨h1,h2,h3,h4⟩:=hr;have hlen:=h4.len;have hsm:=h4.small rfl;have hm:=cB m;have hT:TbM Tb m:=⟨fun h=>hTb.mono hT0 h⟩
 obtain⟨k,n0,u0,ks⟩:=a;obtain⟨hk,hn,hu,hks⟩:=h;simp only[Tree.kind,Tree.name,Tree.num,Tree.kids]at h1 h2 h3 h4 hlen hsm ih;subst h1 h2 h3;obtain rfl:hk=20:=f1;have hS:∀ x∈ks,Pw Tb 131 x:=fun x hx=>(ih x hx).stmt (Pt.num_kid hnum pn) (List.all_eq_true.1 f4 x hx);have et:Pt.toks (.mk 20 hn hu ks)=[Pt.mk [123]]++((ks.map Pt.toks).flatten++[Pt.mk [125]]):=oE;rw[et]at hl
 try simp only[dj,ba]at hl
 unfold TCall;refine ag Tryz.func79 23 ?_;refine oB (fun b=>?_);refine mg ?_;refine aj (hs:=[[123]]) (l:=[[123]]) tab rStr ⟨rfl,trivial⟩ uH ov (fun sl ma hma hsl _ _=>?_);replace hm:=cC hm hma;replace hB:=hB.mono hma;refine ni ?_;rintro _ m1 _ ⟨hm1,s,q,rfl,hB⟩;replace hm:=cC hm hm1;clear hm1 hma hsl;refine uL ?_;refine cG (ι:=PS) [0,3,10,11] rfl (fun g=>[(12,.int .i64 (g.i:Int))]) (fun g=>g.m) (fun g=>bdL bd g.q g.s (.cells b 0 (treeC ⟨20,hn,hu,hks⟩)::L)) (fun g=>m≤g.m∧g.i≤ks.length∧BOk g.m bd g.q g.s (x0++putT [Pt.mk [123]]++putT ((ks.take g.i).map Pt.toks).flatten)) (fun g=>ks.length-g.i) ⟨m1,q,s,0⟩ uH rfl uS ⟨hm,cm _,hB.cast (by simp[putT_nil])⟩ ?_;rintro⟨m1,q,s,i⟩ ⟨hm,hi,hB⟩;simp only at hm hi hB;refine uA ?_;refine ap (fun h1=>?_) (fun h1=>?_)
 ·simp only at h1;have hlt:i<ks.length:=ou;have hxi:ks[i]? = some ks[i]:=bw hlt;have hc:=congrArg (fun l=>(putT l).length) (flat_cut ks i hlt);simp only[dj,ba]at hc;have h4c:=h4.mono hm;refine lB ?_;rintro b7 i7 h7 hr7 hA7
  (first | refine qs rfl (OT.loadA tab hA7 rfl rfl rfl rfl rfl ?_) | refine oL tab hA7 ?_)
  refine aB tab (fun b5=>?_);refine uT ?_;refine aN pq3 ?_;refine ly ?_;refine oC goes131 ((hS ks[i] (bN hlt) _ _ bd q s _ h7 (hT.mono hm) hB (rTree_iff.1 hr7) (by simp only[ba];omega)).x ?_);rintro _ m2 _ ⟨hm2,s,q,rfl,hB⟩;refine kW ?_;refine⟨⟨m2,q,s,i+1⟩,uH,uH,rfl,rfl,uS,⟨cC hm hm2,by simp only;omega,hB.cast ?_⟩,by simp only;omega⟩;rw[flat_next ks i hlt,dj,bz,bz]
 ·simp only at h1;rw[cl ou]at hB;refine uA ?_;refine aj (hs:=[[125]]) (l:=[[125]]) tab rStr ⟨rfl,trivial⟩ uH ov (fun sl ma hma hsl _ _=>?_);replace hm:=cC hm hma;replace hB:=hB.mono hma;refine ll ?_;exact dO
end
end Go.Sep
namespace Go.Sep
open Go.Proofs
attribute [local irreducible] TC TO OT TCallX TCall DO DOt thenQ blockQ retQ At
section
variable {Tb:Mem→Prop}
theorem simT_eq {a:Tree} {l:List Ps.Tk} (h:Pt.toks a=l++[Pt.mk [59]]):simT a=l:=by unfold simT;rw[h,List.dropLast_concat]
theorem simple_w (hTb:TbOk Tb) (a:Tree) (ih:∀ k∈a.kids,PT Tb k) (hnum:Pt.numB2 a=true) (hst:lim.stmt a=true) (hkd:a.kind≠20∧a.kind≠25∧a.kind≠26)
  (m:Mem) (L:List Item) (bd:Nat) (q:Option Addr) (s:Sl) (x0:Str) (h:HTree) (hT0:Tb m) (hB:BOk m bd q s x0) (hr:TreeRep m h a) :
  Pt.toks a=simT a++[Pt.mk [59]]∧(x0.length+(putT (simT a)).length≤140737488355328→TCall Tryz.prog 168 ⟨[bdV bd,treeV h]⟩ m (bdL bd q s L) (Wr bd m L (x0++putT (simT a)))):=by
 have hs1:stmtS lim a=true:=(di _).2.1.symm.trans hst;rw[Pt.stmtS_head,bu]at hs1;obtain⟨-,hs1⟩:=hs1;obtain⟨h1,h2,h3,h4⟩:=hr;have hlen:=h4.len;have hsm:=h4.small rfl;have hm:=cB m;have hT:TbM Tb m:=⟨fun h=>hTb.mono hT0 h⟩
 obtain⟨k,n0,u0,ks⟩:=a;obtain⟨hk,hn,hu,hks⟩:=h;simp only[Tree.kind,Tree.name,Tree.num,Tree.kids]at h1 h2 h3 h4 hlen hsm ih;subst h1 h2 h3;have hE:∀ x∈ks,lim.expr x=true→Pw Tb 167 x:=fun x hx h=>(ih x hx).expr (Pt.num_kid hnum pn) h;by_cases e:hk=21
 ·subst e;have h2:(isName hn&&(kidsR [Tree.isType] none ks||kidsR [Tree.isType,lim.expr] none ks))=true:=hs1;simp only[bu,bH]at h2;rcases h2.2 with h3 | h3
  ·skip;obtain⟨x,rfl,hx⟩:=Pt.kids1 h3;obtain⟨sa,sn,sc⟩:=hks;obtain rfl:sn=1:=hlen;have px:=typ_w hTb x hx;have hxi:[x][0]? = some x:=rfl;have et0:Pt.toks (.mk 21 hn hu [x])=([Pt.wd [118,97,114],Pt.nm hn]++Pt.toks x)++[Pt.mk [59]]:=oE;have et:=simT_eq et0;refine⟨by rw[et];exact et0,fun hl=>?_⟩;rw[et]at hl ⊢
   try simp only[dj,ba]at hl
   unfold TCall;refine ne ?_;refine oB (fun b=>?_);refine mg ?_;refine aj (hs:=[[118,97,114],hn]) (l:=[[118,97,114],hn]) tab rStr ⟨rfl,rfl,trivial⟩ uH ov (fun sl ma hma hsl _ _=>?_);replace hm:=cC hm hma;replace hB:=hB.mono hma;refine mL ?_;rintro _ m1 _ ⟨hm1,s,q,rfl,hB⟩;replace hm:=cC hm hm1;clear hm1 hma hsl;refine uL ?_;have h4c:=h4.mono hm;refine km ?_;rintro b7 i7 h7 hr7 hA7;refine kU ?_;rintro _ m1 _ ⟨hm1,s,q,rfl,hB⟩;replace hm:=cC hm hm1;clear hm1 h4c hr7 hA7;refine uL ?_;exact ga
  ·skip;obtain⟨x,y,rfl,hx,hy⟩:=Pt.kids2 h3;obtain⟨sa,sn,sc⟩:=hks;obtain rfl:sn=2:=hlen;have px:=typ_w hTb x hx;have py:=hE y ow hy;have hxi:[x,y][0]? = some x:=rfl;have hyi:[x,y][1]? = some y:=rfl;have et0:Pt.toks (.mk 21 hn hu [x,y])=([Pt.wd [118,97,114],Pt.nm hn]++(Pt.toks x++([Pt.mk [61]]++Pt.toks y)))++[Pt.mk [59]]:=by rw[Pt.toks_eq];show Pt.wd _::Pt.nm hn::(Pt.toks x++((Pt.mk _::Pt.toks y)++[Pt.mk _]))=_;simp
   have et:=simT_eq et0;refine⟨by rw[et];exact et0,fun hl=>?_⟩;rw[et]at hl ⊢
   try simp only[dj,ba]at hl
   unfold TCall;refine ne ?_;refine oB (fun b=>?_);refine mg ?_;refine aj (hs:=[[118,97,114],hn]) (l:=[[118,97,114],hn]) tab rStr ⟨rfl,rfl,trivial⟩ uH ov (fun sl ma hma hsl _ _=>?_);replace hm:=cC hm hma;replace hB:=hB.mono hma;refine mL ?_;rintro _ m1 _ ⟨hm1,s,q,rfl,hB⟩;replace hm:=cC hm hm1;clear hm1 hma hsl;refine uL ?_;have h4c:=h4.mono hm;refine km ?_;rintro b7 i7 h7 hr7 hA7;refine kU ?_;rintro _ m1 _ ⟨hm1,s,q,rfl,hB⟩;replace hm:=cC hm hm1;clear hm1 h4c hr7 hA7;refine uL ?_;refine aj (hs:=[[61]]) (l:=[[61]]) tab rStr ⟨rfl,trivial⟩ uH ov (fun sl ma hma hsl _ _=>?_);replace hm:=cC hm hma;replace hB:=hB.mono hma;refine nk ?_;rintro _ m1 _ ⟨hm1,s,q,rfl,hB⟩;replace hm:=cC hm hm1;clear hm1 hma hsl;refine uL ?_;have h4c:=h4.mono hm;refine kD ?_;rintro b7 i7 h7 hr7 hA7;refine kE ?_;rintro _ m1 _ ⟨hm1,s,q,rfl,hB⟩;replace hm:=cC hm hm1;clear hm1 h4c hr7 hA7;refine uA ?_;exact ga
 by_cases e:hk=22
 ·subst e;have h2:(decide (1≤hu)&&(decide (hu<(ks.length:Int))&&((ks.take hu.toNat).all (nmS lim)&&(ks.drop hu.toNat).all lim.expr)))=true:=hs1;simp only[bu,bE]at h2;obtain⟨hu0,hu1,h5,h6⟩:=h2;have hp1:∀ r∈ks.take hu.toNat,Pw Tb 167 r:=fun r hr=>hE r (cu hr) (by have:=List.all_eq_true.1 h5 r hr;unfold nmS at this;rw[bu]at this;exact this.2);have hp2:∀ r∈ks.drop hu.toNat,Pw Tb 167 r:=fun r hr=>hE r (List.mem_of_mem_drop hr) (List.all_eq_true.1 h6 r hr);have et0:Pt.toks (.mk 22 hn hu ks)=(Pt.commaJ ((ks.take hu.toNat).map Pt.toks)++([Pt.mk [58,61]]++Pt.commaJ ((ks.drop hu.toNat).map Pt.toks)))++[Pt.mk [59]]:=by rw[Pt.toks_eq,List.map_take,List.map_drop];show Pt.commaJ _++Pt.mk _::(Pt.commaJ _++[Pt.mk _])=_;simp[Tree.kids,Tree.num]
  have et:=simT_eq et0;refine⟨by rw[et];exact et0,fun hl=>?_⟩;rw[et]at hl ⊢
  try simp only[dj,ba]at hl
  unfold TCall;refine ne ?_;refine oB (fun b=>?_);refine mg ?_;have h4c:=h4.mono hm;refine qs rfl (OT.cut tab rTree 0 hu.toNat h4c rfl rfl rfl rfl rfl rfl rfl (.inl ⟨rfl,rfl⟩) (.inr pk) (cm _) ou (fun slp hslp=>?_));rw[cA]at hslp;refine mq ?_;rintro _ m1 _ ⟨hm1,s,q,rfl,hB⟩;replace hm:=cC hm hm1;refine uL ?_;refine aj (hs:=[[58,61]]) (l:=[[58,61]]) tab rStr ⟨rfl,trivial⟩ uH ov (fun sl ma hma hsl _ _=>?_);replace hm:=cC hm hma;replace hB:=hB.mono hma;refine uA ?_;refine oC de ((dk _ _ bd q s _ hB sl [Pt.mk [58,61]] hsl oH).x ?_);exact eC
 by_cases e:hk=23
 ·subst e;have h2:(decide (1≤hu)&&(decide (hu<(ks.length:Int))&&((ks.take hu.toNat).all (plS lim)&&(ks.drop hu.toNat).all lim.expr)))=true:=hs1;simp only[bu,bE]at h2;obtain⟨hu0,hu1,h5,h6⟩:=h2;have hp1:∀ r∈ks.take hu.toNat,Pw Tb 167 r:=fun r hr=>hE r (cu hr) (by have:=List.all_eq_true.1 h5 r hr;unfold plS at this;rw[bu]at this;exact this.2);have hp2:∀ r∈ks.drop hu.toNat,Pw Tb 167 r:=fun r hr=>hE r (List.mem_of_mem_drop hr) (List.all_eq_true.1 h6 r hr);have et0:Pt.toks (.mk 23 hn hu ks)=(Pt.commaJ ((ks.take hu.toNat).map Pt.toks)++([Pt.mk [61]]++Pt.commaJ ((ks.drop hu.toNat).map Pt.toks)))++[Pt.mk [59]]:=by rw[Pt.toks_eq,List.map_take,List.map_drop];show Pt.commaJ _++Pt.mk _::(Pt.commaJ _++[Pt.mk _])=_;simp[Tree.kids,Tree.num]
  have et:=simT_eq et0;refine⟨by rw[et];exact et0,fun hl=>?_⟩;rw[et]at hl ⊢
  try simp only[dj,ba]at hl
  unfold TCall;refine ne ?_;refine oB (fun b=>?_);refine mg ?_;have h4c:=h4.mono hm;refine qs rfl (OT.cut tab rTree 0 hu.toNat h4c rfl rfl rfl rfl rfl rfl rfl (.inl ⟨rfl,rfl⟩) (.inr pk) (cm _) ou (fun slp hslp=>?_));rw[cA]at hslp;refine mq ?_;rintro _ m1 _ ⟨hm1,s,q,rfl,hB⟩;replace hm:=cC hm hm1;refine uL ?_;refine aj (hs:=[[61]]) (l:=[[61]]) tab rStr ⟨rfl,trivial⟩ uH ov (fun sl ma hma hsl _ _=>?_);replace hm:=cC hm hma;replace hB:=hB.mono hma;refine nk ?_;exact eC
 by_cases e:hk=24
 ·subst e;have h2:kidsR [callS lim] none ks=true:=hs1;obtain⟨x,rfl,hx⟩:=Pt.kids1 h2;unfold callS at hx;rw[bu]at hx;have px:=hE x ow hx.2;have hxi:[x][0]? = some x:=rfl;have et0:Pt.toks (.mk 24 hn hu [x])=(Pt.toks x)++[Pt.mk [59]]:=oE;have et:=simT_eq et0;refine⟨by rw[et];exact et0,fun hl=>?_⟩;rw[et]at hl ⊢
  try simp only[dj,ba]at hl
  unfold TCall;refine ne ?_;refine oB (fun b=>?_);refine mg ?_;have h4c:=h4.mono hm;refine km ?_;rintro b7 i7 h7 hr7 hA7;refine kj ?_;rintro _ m1 _ ⟨hm1,s,q,rfl,hB⟩;replace hm:=cC hm hm1;clear hm1 h4c hr7 hA7;refine mh ?_
  try simp only[]
 by_cases e:hk=27
 ·subst e;have h2:ks.all lim.expr=true:=hs1;have hp1:∀ r∈ks,Pw Tb 167 r:=fun r hr=>hE r hr (List.all_eq_true.1 h2 r hr);have et0:Pt.toks (.mk 27 hn hu ks)=([Pt.wd [114,101,116,117,114,110]]++Pt.commaJ (ks.map Pt.toks))++[Pt.mk [59]]:=oE;have et:=simT_eq et0;refine⟨by rw[et];exact et0,fun hl=>?_⟩;rw[et]at hl ⊢
  try simp only[dj,ba]at hl
  unfold TCall;refine ne ?_;refine oB (fun b=>?_);refine mg ?_;refine aj (hs:=[[114,101,116,117,114,110]]) (l:=[[114,101,116,117,114,110]]) tab rStr ⟨rfl,trivial⟩ uH ov (fun sl ma hma hsl _ _=>?_);replace hm:=cC hm hma;replace hB:=hB.mono hma;refine uA ?_;refine oC de ((dk _ _ bd q s _ hB sl [Pt.wd [114,101,116,117,114,110]] hsl oH).x ?_);rintro _ m1 _ ⟨hm1,s,q,rfl,hB⟩;replace hm:=cC hm hm1;clear hm1 hma hsl;refine uL ?_;have h4d:=h4.mono hm;refine oC goes126 ((each_law (Cbk.of hTb hp1 goes167 (hT.mono hm)) _ _ (cB _) q s _ hB hks h4d oH).x ?_);rintro _ m1 _ ⟨hm1,s,q,rfl,hB⟩;replace hm:=cC hm hm1;refine uA ?_;exact ga
 by_cases e:hk=28
 ·subst e;have et0:Pt.toks (.mk 28 hn hu ks)=([Pt.wd [98,114,101,97,107]])++[Pt.mk [59]]:=oE;have et:=simT_eq et0;refine⟨by rw[et];exact et0,fun hl=>?_⟩;rw[et]at hl ⊢
  try simp only[dj,ba]at hl
  unfold TCall;refine ne ?_;refine oB (fun b=>?_);refine mg ?_;refine aj (hs:=[[98,114,101,97,107]]) (l:=[[98,114,101,97,107]]) tab rStr ⟨rfl,trivial⟩ uH ov (fun sl ma hma hsl _ _=>?_);replace hm:=cC hm hma;replace hB:=hB.mono hma;refine uA ?_;refine oC de ((dk _ _ bd q s _ hB sl [Pt.wd [98,114,101,97,107]] hsl oH).x ?_);exact gU
 by_cases e:hk=29
 ·subst e;have et0:Pt.toks (.mk 29 hn hu ks)=([Pt.wd [99,111,110,116,105,110,117,101]])++[Pt.mk [59]]:=oE;have et:=simT_eq et0;refine⟨by rw[et];exact et0,fun hl=>?_⟩;rw[et]at hl ⊢
  try simp only[dj,ba]at hl
  unfold TCall;refine ne ?_;refine oB (fun b=>?_);refine mg ?_;refine aj (hs:=[[99,111,110,116,105,110,117,101]]) (l:=[[99,111,110,116,105,110,117,101]]) tab rStr ⟨rfl,trivial⟩ uH ov (fun sl ma hma hsl _ _=>?_);replace hm:=cC hm hma;replace hB:=hB.mono hma;refine uA ?_;refine oC de ((dk _ _ bd q s _ hB sl [Pt.wd [99,111,110,116,105,110,117,101]] hsl oH).x ?_);exact gU
 exfalso;obtain⟨k1,k2,k3⟩:=hkd;have k1:¬hk=20:=k1;have k2:¬hk=25:=k2;have k3:¬hk=26:=k3;simp only[Tree.kind]at hs1;simp[*]at hs1
theorem stmt_w (hTb:TbOk Tb) (a:Tree) (ih:∀ k∈a.kids,PT Tb k) (hnum:Pt.numB2 a=true) (hst:lim.stmt a=true):Pw Tb 131 a:=by
 have hs1:stmtS lim a=true:=(di _).2.1.symm.trans hst;rw[Pt.stmtS_head,bu]at hs1;obtain⟨-,hs1⟩:=hs1;have hbl:=block_w hTb a ih hnum;have hsim:=simple_w hTb a ih hnum hst;intro m L bd q s x0 h hT0 hB hr hl;obtain⟨h1,h2,h3,h4⟩:=hr;have hlen:=h4.len;have hsm:=h4.small rfl;have hm:=cB m;have hT:TbM Tb m:=⟨fun h=>hTb.mono hT0 h⟩
 obtain⟨k,n0,u0,ks⟩:=a;obtain⟨hk,hn,hu,hks⟩:=h;simp only[Tree.kind,Tree.name,Tree.num,Tree.kids]at h1 h2 h3 h4 hlen hsm ih;subst h1 h2 h3;have hE:∀ x∈ks,lim.expr x=true→Pw Tb 167 x:=fun x hx h=>(ih x hx).expr (Pt.num_kid hnum pn) h;have hK:∀ x∈ks,lim.block x=true→Pw Tb 79 x:=fun x hx h=>(ih x hx).block (Pt.num_kid hnum pn) h;by_cases e:hk=20
 ·subst e;have hb:lim.block (.mk 20 hn hu ks)=true:=(di _).2.2.trans hs1;unfold TCall;refine oe ?_;refine oB (fun b=>?_);refine mg ?_;refine oC goes79 ((hbl hb _ _ bd q s _ ⟨20,hn,hu,hks⟩ hT0 hB ⟨rfl,rfl,rfl,h4⟩ hl).x ?_);exact jm
 by_cases e:hk=25
 ·subst e;have h2:(kidsR [lim.expr,lim.block] none ks||kidsR [lim.expr,lim.block,otherS lim] none ks)=true:=hs1;rw[bH]at h2;rcases h2 with h3 | h3
  ·skip;obtain⟨x,y,rfl,hx,hy⟩:=Pt.kids2 h3;obtain⟨sa,sn,sc⟩:=hks;obtain rfl:sn=2:=hlen;have px:=hE x ow hx;have py:=hK y ow hy;have hxi:[x,y][0]? = some x:=rfl;have hyi:[x,y][1]? = some y:=rfl;have et:Pt.toks (.mk 25 hn hu [x,y])=[Pt.wd [105,102]]++(Pt.toks x++(Pt.toks y++[])):=oE;rw[et]at hl
   try simp only[dj,ba]at hl
   unfold TCall;refine oe ?_;refine oB (fun b=>?_);refine mg ?_;refine aj (hs:=[[105,102]]) (l:=[[105,102]]) tab rStr ⟨rfl,trivial⟩ uH ov (fun sl ma hma hsl _ _=>?_);replace hm:=cC hm hma;replace hB:=hB.mono hma;refine mY ?_;rintro _ m1 _ ⟨hm1,s,q,rfl,hB⟩;replace hm:=cC hm hm1;clear hm1 hma hsl;refine uL ?_;have h4c:=h4.mono hm;refine km ?_;rintro b7 i7 h7 hr7 hA7;refine kj ?_;rintro _ m1 _ ⟨hm1,s,q,rfl,hB⟩;replace hm:=cC hm hm1;clear hm1 h4c hr7 hA7;refine uL ?_;have h4c:=h4.mono hm;refine kD ?_;rintro b7 i7 h7 hr7 hA7;refine kG ?_;rintro _ m1 _ ⟨hm1,s,q,rfl,hB⟩;replace hm:=cC hm hm1;clear hm1 h4c hr7 hA7;refine uL ?_;refine aJ ⟨hm,s,q,rfl,hB.cast ?_⟩;rw[et,cg];simp only[dj,bz]
  ·skip;obtain⟨x,y,z,rfl,hx,hy,hz⟩:=Pt.kids3 h3;obtain⟨sa,sn,sc⟩:=hks;obtain rfl:sn=3:=hlen;have px:=hE x ow hx;have py:=hK y ow hy;have hzs:lim.stmt z=true:=by
    unfold otherS at hz;rw[bH,bu]at hz;rcases hz with hz | hz
    ·obtain⟨f1,f2,f3,f4⟩:=Pt.block_f hz;rw[(di z).2.1,Pt.stmtS_head,if_pos f1,←(di z).2.2,hz,Pt.headS_n f1 ov,f2,f3];rfl
    ·exact hz.2
   have pz:=(ih z ow).stmt (Pt.num_kid hnum oD) hzs;have hxi:[x,y,z][0]? = some x:=rfl;have hyi:[x,y,z][1]? = some y:=rfl;have hzi:[x,y,z][2]? = some z:=rfl;have et:Pt.toks (.mk 25 hn hu [x,y,z])=[Pt.wd [105,102]]++(Pt.toks x++(Pt.toks y++([Pt.wd [101,108,115,101]]++Pt.toks z))):=oE;rw[et]at hl
   try simp only[dj,ba]at hl
   unfold TCall;refine oe ?_;refine oB (fun b=>?_);refine mg ?_;refine aj (hs:=[[105,102]]) (l:=[[105,102]]) tab rStr ⟨rfl,trivial⟩ uH ov (fun sl ma hma hsl _ _=>?_);replace hm:=cC hm hma;replace hB:=hB.mono hma;refine mY ?_;rintro _ m1 _ ⟨hm1,s,q,rfl,hB⟩;replace hm:=cC hm hm1;clear hm1 hma hsl;refine uL ?_;have h4c:=h4.mono hm;refine km ?_;rintro b7 i7 h7 hr7 hA7;refine kj ?_;rintro _ m1 _ ⟨hm1,s,q,rfl,hB⟩;replace hm:=cC hm hm1;clear hm1 h4c hr7 hA7;refine uL ?_;have h4c:=h4.mono hm;refine kD ?_;rintro b7 i7 h7 hr7 hA7;refine kG ?_;rintro _ m1 _ ⟨hm1,s,q,rfl,hB⟩;replace hm:=cC hm hm1;clear hm1 h4c hr7 hA7;refine uL ?_;refine aj (hs:=[[101,108,115,101]]) (l:=[[101,108,115,101]]) tab rStr ⟨rfl,trivial⟩ uH ov (fun sl ma hma hsl _ _=>?_);replace hm:=cC hm hma;replace hB:=hB.mono hma;refine uA ?_;refine oC de ((dk _ _ bd q s _ hB sl [Pt.wd [101,108,115,101]] hsl oH).x ?_);rintro _ m1 _ ⟨hm1,s,q,rfl,hB⟩;replace hm:=cC hm hm1;clear hm1 hma hsl;refine uL ?_;have h4c:=h4.mono hm;refine al tab rTree 2 h4c uH oy rfl hzi ?_;rintro b7 i7 h7 hr7 hA7;refine an tab hA7 ?_;refine oC goes131 ((pz _ _ bd q s _ h7 (hT.mono hm) hB (rTree_iff.1 hr7) oH).x ?_);rintro _ m1 _ ⟨hm1,s,q,rfl,hB⟩;replace hm:=cC hm hm1;clear hm1 h4c hr7 hA7;exact dS
 by_cases e:hk=26
 ·subst e;have h2:(kidsR [lim.block] none ks||kidsR [lim.expr,lim.block] none ks)=true:=hs1;rw[bH]at h2;rcases h2 with h3 | h3
  ·skip;obtain⟨x,rfl,hx⟩:=Pt.kids1 h3;obtain⟨sa,sn,sc⟩:=hks;obtain rfl:sn=1:=hlen;have px:=hK x ow hx;have hxi:[x][0]? = some x:=rfl;have et:Pt.toks (.mk 26 hn hu [x])=[Pt.wd [102,111,114]]++Pt.toks x:=oE;rw[et]at hl
   try simp only[dj,ba]at hl
   unfold TCall;refine oe ?_;refine oB (fun b=>?_);refine mg ?_;refine aj (hs:=[[102,111,114]]) (l:=[[102,111,114]]) tab rStr ⟨rfl,trivial⟩ uH ov (fun sl ma hma hsl _ _=>?_);replace hm:=cC hm hma;replace hB:=hB.mono hma;refine mU ?_;rintro _ m1 _ ⟨hm1,s,q,rfl,hB⟩;replace hm:=cC hm hm1;clear hm1 hma hsl;refine uL ?_;refine aa (r':=0) uH ov ?_;have h4c:=h4.mono hm;refine km ?_;rintro b7 i7 h7 hr7 hA7;refine an tab hA7 ?_;refine oC goes79 ((px _ _ bd q s _ h7 (hT.mono hm) hB (rTree_iff.1 hr7) oH).x ?_);rintro _ m1 _ ⟨hm1,s,q,rfl,hB⟩;replace hm:=cC hm hm1;clear hm1 h4c hr7 hA7;exact dS
  ·skip;obtain⟨x,y,rfl,hx,hy⟩:=Pt.kids2 h3;obtain⟨sa,sn,sc⟩:=hks;obtain rfl:sn=2:=hlen;have px:=hE x ow hx;have py:=hK y ow hy;have hxi:[x,y][0]? = some x:=rfl;have hyi:[x,y][1]? = some y:=rfl;have et:Pt.toks (.mk 26 hn hu [x,y])=[Pt.wd [102,111,114]]++(Pt.toks x++Pt.toks y):=oE;rw[et]at hl
   try simp only[dj,ba]at hl
   unfold TCall;refine oe ?_;refine oB (fun b=>?_);refine mg ?_;refine aj (hs:=[[102,111,114]]) (l:=[[102,111,114]]) tab rStr ⟨rfl,trivial⟩ uH ov (fun sl ma hma hsl _ _=>?_);replace hm:=cC hm hma;replace hB:=hB.mono hma;refine mU ?_;rintro _ m1 _ ⟨hm1,s,q,rfl,hB⟩;replace hm:=cC hm hm1;clear hm1 hma hsl;refine uL ?_;have h4c:=h4.mono hm;refine km ?_;rintro b7 i7 h7 hr7 hA7;refine kj ?_;rintro _ m1 _ ⟨hm1,s,q,rfl,hB⟩;replace hm:=cC hm hm1;clear hm1 h4c hr7 hA7;refine uL ?_;refine aa (r':=1) uH ov ?_;have h4c:=h4.mono hm;refine kD ?_;rintro b7 i7 h7 hr7 hA7;refine kG ?_;rintro _ m1 _ ⟨hm1,s,q,rfl,hB⟩;replace hm:=cC hm hm1;clear hm1 h4c hr7 hA7;exact dS
 rename_i n20 n25;have n26:=e;have hk3:hk≠20∧hk≠25∧hk≠26:=⟨n20,n25,n26⟩
 unfold TCall;refine oe ?_;refine oB (fun b=>?_);refine mg ?_;refine ap (fun c1=>?_) (fun c1=>?_)
 ·exact absurd c1 n20
 refine uL ?_;refine ap (fun c2=>?_) (fun c2=>?_)
 ·exact absurd c2 n25
 refine uL ?_;refine ap (fun c3=>?_) (fun c3=>?_)
 ·exact absurd c3 n26
 refine uL ?_;obtain⟨et,hsim⟩:=hsim hk3 m (.cells b 0 (treeC ⟨hk,hn,hu,hks⟩)::L) bd q s x0 ⟨hk,hn,hu,hks⟩ hT0 hB ⟨rfl,rfl,rfl,h4⟩;rw[et]at hl;simp only[dj,ba]at hl;refine oC goes168 ((hsim ou).x ?_);rintro _ m1 _ ⟨hm1,s,q,rfl,hB⟩;replace hm:=cC hm hm1;refine uA ?_;refine aj (hs:=[[59]]) (l:=[[59]]) tab rStr ⟨rfl,trivial⟩ uH ov (fun sl ma hma hsl _ _=>?_);replace hm:=cC hm hma;replace hB:=hB.mono hma;refine nj ?_;exact dO
theorem pt_all (hTb:TbOk Tb) (hI:∀(m:Mem) (L:List Item) (n:Int),Tb m→0≤n→n<9223372036854775808→TCall Tryz.prog 192 ⟨[.int .i64 n]⟩ m L (Made m L fun r _=>r=strV (Pt.digN n.toNat))) (a:Tree):PT Tb a:=by
 induction a using Tree.ind with
 | h a ih=>exact⟨fun hn h=>expr_w hTb hI a ih hn ((di a).1.symm.trans h),fun hn h=>stmt_w hTb a ih hn h,fun hn h=>block_w hTb a ih hn h⟩
end
end Go.Sep
namespace Go.Sep
open Go.Proofs
section
variable {P:Program} {N:Nat} {ρ:Env} {D:List Deferred} {m:Mem} {L:List Item} {Q:EPost} {o:Oper} {K:Env→Mem→List Item→Prop}
theorem equalIn_nilFn2 {t:TypeId} {w:World} {a b c} {f g h} (dd:Nat) (hu:(underlying t).run P w = .ok (.func a b c) w) :
  (Op.equalIn (dd+1) t (.func f g h) .nilFunc).run P w = .ok false w:=by
 exact fD
theorem OT.nilFn2 (T:Tab P) {t t':TypeId} {x y:Operand} {d:Nat} {f g h} (ho:o.op = .binOp .eql t x y t') (hd:o.dst=some d) (hN:Nat.blt d N=true)
  (hx:ev ρ x=some (.func f g h)) (hy:ev ρ y=some .nilFunc) (ht:T.isFunc t=true) (hK:K ((d,.bool false)::ρ) m L):OT P N o ρ D m L Q K:=by
 obtain⟨ti,a,b,c,h1,h2⟩:=isFunc_get ht;refine cM hd hN (fun ac w ha=>⟨w,?_,ha.st⟩) hK;have hu:=T.run_underlying w h1;rw[h2]at hu;have e1:binOp .eql t (.func f g h) .nilFunc=(do pure (.bool (←Op.equalIn (9999+1) t (.func f g h) .nilFunc)):Sem Value):=rfl;have e2:(eqGuard .eql t x y (.func f g h) .nilFunc).run P w = .ok () w:=oX;have h:=equalIn_nilFn2 (P:=P) (f:=f) (g:=g) (h:=h) 9999 hu;exact iN
end
attribute [local irreducible] TC TO OT TCallX TCall DO DOt thenQ blockQ retQ At
theorem indexFunc_node (m:Mem) (L:List Item) (s:Sl) (l:List Tree) (p:Tree→Bool) (fn:FuncId) (cap:List Value) (hg:Goes Tryz.prog fn) (hs:SlRep rTree m s l)
  (hp:∀(h:HTree) (a:Tree),a∈l→rTree.rep m h a→TCall Tryz.prog fn ⟨treeV h::cap⟩ m L (Ret (.bool (p a)) m L)) :
  TCall Tryz.prog 122 ⟨[s.v,.func (.func fn) ⟨[]⟩ ⟨cap⟩]⟩ m L (Ret (.int .i64 (idxP l p 0)) m L):=by
 unfold TCall;refine ag Tryz.func122 19 ?_;refine lc ?_;rintro k ⟨hk,hI⟩;have hl:=hs.len;have hsm:=hs.small rfl;refine uA ?_;refine ap (fun h=>?_) (fun h=>?_)
 ·have hlt:k<l.length:=ou;have hx:l[k]? = some l[k]:=oG;refine l7 ?_;rintro b i hd hr hA;refine lg ?_;refine qs rfl (cQ (all:=treeV hd::cap) rfl rfl rfl rfl rfl pc hg ((hp hd l[k] (bN hlt) hr).x ?_));refine lz ?_;exact ej
 ·exact fO
theorem containsFunc_node (m:Mem) (L:List Item) (s:Sl) (l:List Tree) (p:Tree→Bool) (fn:FuncId) (cap:List Value) (hg:Goes Tryz.prog fn) (hs:SlRep rTree m s l)
  (hp:∀(h:HTree) (a:Tree),a∈l→rTree.rep m h a→TCall Tryz.prog fn ⟨treeV h::cap⟩ m L (Ret (.bool (p a)) m L)) :
  TCall Tryz.prog 66 ⟨[s.v,.func (.func fn) ⟨[]⟩ ⟨cap⟩]⟩ m L (Ret (.bool (l.any p)) m L):=by
 unfold TCall;refine ag Tryz.func66 9 ?_;refine au goes122 (indexFunc_node m L s l p fn cap hg hs hp) ?_;refine kh ?_;rw[idxP_ge]
theorem bare_law (m:Mem) (L:List Item) (h:HTree) (a:Tree) (hr:TreeRep m h a) (k t u:Bool) :
  TCall Tryz.prog 33 ⟨[treeV h,.bool k,.bool t,.bool u]⟩ m L (Ret (.bool (bareB a k t u)) m L):=by
 obtain⟨h1,h2,h3,h4⟩:=hr;unfold TCall;refine ag Tryz.func33 26 ?_;refine oB (fun b=>?_);cases k<;>cases t<;>cases u
 all_goals repeat' (first|(first|refine q1 ?_|refine q3 ?_|refine q4 tab rfl rfl ?_|refine q5 ?_|refine q6 ?_|refine q15 ?_)|(refine qs rfl (ql tab 0 rfl rfl rfl rfl rfl rfl ?_))|(refine TO.splitP rfl rfl (fun hb=>?_) (fun hb=>?_)))
 all_goals
  refine kh ?_;refine mT ?_;unfold bareB
  try rw[←h2]
  try rw[←h3]
  simp_all
theorem named_law (m:Mem) (L:List Item) (h:HTree) (a:Tree) (hr:TreeRep m h a) (hB:a.wide≤140737488355328):TCall Tryz.prog 123 ⟨[treeV h]⟩ m L (Ret (.bool (isName a.name)) m L):=by
 obtain⟨h1,h2,h3,h4⟩:=hr;have hl:=wide_name a;unfold TCall;refine ag Tryz.func123 6 ?_;refine ay (fun b=>?_);refine oR goes84 (name_law _ _ h.name (by rw[h2];omega)) ?_;refine kP ?_;rw[h2]
theorem of_law (m:Mem) (L:List Item) (h:HTree) (a:Tree) (hr:TreeRep m h a) (hB:a.wide≤140737488355328) (k:Int) :
  TCall Tryz.prog 68 ⟨[treeV h,.int .i64 k]⟩ m L (Ret (.bool (ofB a k)) m L):=by
 have hr':=hr;obtain⟨h1,h2,h3,h4⟩:=hr;unfold TCall;refine ag Tryz.func68 15 ?_;refine ay (fun b=>?_);refine au goes33 (bare_law _ _ h a hr' (decide (h.kind=k)) true false) ?_;refine aF (b:=bareB a (decide (h.kind=k)) true false) (fun hb=>?_) (fun hb=>?_)
 ·refine uL ?_;refine au goes123 (named_law _ _ h a hr' hB) ?_;exact jn
 ·refine uA ?_;exact jn
def IsPred (fn:FuncId) (p:Tree→Bool) (l:List Tree):Prop:=Goes Tryz.prog fn∧∀(m:Mem) (L:List Item) (h:HTree) (a:Tree),a∈l→TreeRep m h a→TCall Tryz.prog fn ⟨[treeV h]⟩ m L (Ret (.bool (p a)) m L)
theorem not_law (m:Mem) (L:List Item) (h:HTree) (a:Tree) (hr:TreeRep m h a) (fn:FuncId) (p:Tree→Bool) (l:List Tree) (hp:IsPred fn p l) (ha:a∈l) (b1:Nat) (hA:At m b1 0 [.func (.func fn) ⟨[]⟩ ⟨[]⟩]) :
  TCall Tryz.prog 67 ⟨[treeV h,.pointer (some ⟨b1,0,none⟩)]⟩ m L (Ret (.bool (!p a)) m L):=by
 unfold TCall;refine ag Tryz.func67 8 ?_;refine oB (fun b=>?_);refine uA ?_;refine oL tab hA ?_;refine uL ?_;refine qs rfl (cQ (all:=[treeV h]) rfl rfl rfl rfl rfl pc hp.1 ((hp.2 _ _ h a ha hr).x ?_));refine lz ?_;refine uA ?_;exact fc
theorem pall_law (m:Mem) (L:List Item) (s:Sl) (l:List Tree) (hs:SlRep rTree m s l) (fn:FuncId) (p:Tree→Bool) (hp:IsPred fn p l) :
  TCall Tryz.prog 34 ⟨[s.v,.func (.func fn) ⟨[]⟩ ⟨[]⟩]⟩ m L (Ret (.bool (l.all p)) m L):=by
 refine mR ?_;unfold TCall;refine cJ Tryz.func34 rfl 9 rfl ?_;refine uB ?_;refine oB (fun b=>?_);refine cV fun m1 hm1 hA1=>?_;refine uA ?_;refine au goes66 (containsFunc_node m1 L s l (fun a=>!p a) 67 [.pointer (some ⟨b,0,none⟩)] goes67 (hs.mono hm1) (fun h a ha hr=>not_law m1 L h a (rTree_iff.1 hr) fn p l hp ha b hA1)) ?_;refine lk ?_;rw[List.all_eq_not_any_not]
def rFn : R FuncId FuncId where
 size:=1
 bytes:=8
 enc f:=[.func (.func f) ⟨[]⟩ ⟨[]⟩]
 rep _ f g:=f=g
 enc_len _:=rfl
 one f:=rfl
 mono _ h:=h
def restV : Option (FuncId×(Tree→Bool))→Value
 | none=>.nilFunc
 | some p=>.func (.func p.1) ⟨[]⟩ ⟨[]⟩
def restB : Option (FuncId×(Tree→Bool))→Option (Tree→Bool)
 | none=>none
 | some p=>some p.2
theorem kids_law (m:Mem) (L:List Item) (h:HTree) (a:Tree) (hr:TreeRep m h a) (s:Sl) (ps:List (FuncId×(Tree→Bool))) (rest:Option (FuncId×(Tree→Bool))) (hf:SlRep rFn m s (ps.map Prod.fst)) (hp:∀ p∈ps,IsPred p.1 p.2 a.kids) (hq:∀ p,rest=some p→IsPred p.1 p.2 a.kids) :
  TCall Tryz.prog 70 ⟨[treeV h,restV rest,s.v]⟩ m L (Ret (.bool (kidsR (ps.map Prod.snd) (restB rest) a.kids)) m L):=by
 obtain⟨h1,h2,h3,h4⟩:=hr;have hl:=h4.len;have hsm:=h4.small rfl;have hl2:=hf.len;rw[bP]at hl2;cases rest with
 | none =>
  show TCall _ _ ⟨[treeV h,.nilFunc,s.v]⟩ _ _ _;unfold TCall;refine ag Tryz.func70 50 ?_;refine ay (fun b=>?_);refine az (fun hb=>?_) (fun hb=>?_)
  ·exact jl
  refine uL ?_;refine qs rfl (OT.nilFn tab rfl rfl rfl rfl rfl uK ?_);refine uL ?_;refine ap (fun hb2=>?_) (fun hb2=>?_)
  ·refine uA ?_;refine kh ?_;refine congrArg Value.bool (Eq.symm ?_);exact kidsR_long _ _ pG
  refine uL ?_;refine cG (ι:=Nat) [1,2,29,30] rfl (fun k=>[(31,.int .i64 (k:Int))]) (fun _=>m) (fun _=>L) (fun k=>k≤a.kids.length∧kidsR (ps.map Prod.snd) (restB none) a.kids=kidsR ((ps.map Prod.snd).drop k) (restB none) (a.kids.drop k)) (fun k=>a.kids.length-k) 0 uH rfl uS ⟨cm _,rfl⟩ ?_;rintro k ⟨hk,hI⟩;refine uA ?_;refine ap (fun h=>?_) (fun h=>?_)
  ·have hlt:k<a.kids.length:=ou;have hx:a.kids[k]? = some a.kids[k]:=oG;refine li ?_;rintro b' i hd hrd hA;refine lg ?_;refine aB tab (fun b2=>?_);refine kc ?_;refine ap (fun h5=>?_) (fun h5=>?_)
   ·have hlt2:k<ps.length:=ou;have hx2:(ps.map Prod.fst)[k]? = some ps[k].1:=pg;refine nX ?_;rintro b3 i3 fn hfn hA3;obtain rfl:fn=ps[k].1:=hfn;refine oL tab hA3 ?_;refine uL ?_;have hpp:=hp ps[k] (bN hlt2);have hst:=kidsR_step (ps.map Prod.snd) (restB none) a.kids k (by rw[bP];exact hlt2) hlt;exact eT
   ·skip;omega
  ·exact iU
 | some p =>
  show TCall _ _ ⟨[treeV h,.func (.func p.1) ⟨[]⟩ ⟨[]⟩,s.v]⟩ _ _ _;unfold TCall;refine ag Tryz.func70 50 ?_;refine ay (fun b=>?_);refine az (fun hb=>?_) (fun hb=>?_)
  ·exact jl
  refine uL ?_;refine qs rfl (OT.nilFn2 tab rfl rfl rfl rfl rfl uK ?_);refine uL ?_;refine cG (ι:=Nat) [1,2,29,30] rfl (fun k=>[(31,.int .i64 (k:Int))]) (fun _=>m) (fun _=>L) (fun k=>k≤a.kids.length∧kidsR (ps.map Prod.snd) (restB (some p)) a.kids=kidsR ((ps.map Prod.snd).drop k) (restB (some p)) (a.kids.drop k)) (fun k=>a.kids.length-k) 0 uH rfl uS ⟨cm _,rfl⟩ ?_;rintro k ⟨hk,hI⟩;refine uA ?_;refine ap (fun h=>?_) (fun h=>?_)
  ·have hlt:k<a.kids.length:=ou;have hx:a.kids[k]? = some a.kids[k]:=oG;refine li ?_;rintro b' i hd hrd hA;refine lg ?_;refine aB tab (fun b2=>?_);refine kc ?_;refine ap (fun h5=>?_) (fun h5=>?_)
   ·have hlt2:k<ps.length:=ou;have hx2:(ps.map Prod.fst)[k]? = some ps[k].1:=pg;refine nX ?_;rintro b3 i3 fn hfn hA3;obtain rfl:fn=ps[k].1:=hfn;refine oL tab hA3 ?_;refine uL ?_;have hpp:=hp ps[k] (bN hlt2);have hst:=kidsR_step (ps.map Prod.snd) (restB (some p)) a.kids k (by rw[bP];exact hlt2) hlt;exact eT
   ·skip;have hst:=kidsR_rest (ps.map Prod.snd) p.2 a.kids k pG hlt;have hpp:=hq p rfl;refine kA ?_;refine mv ?_;refine aQ (t:=!p.2 a.kids[k]) (fun h6=>?_) (fun h6=>?_)
    ·refine uA ?_;refine kh ?_;rw[hI];refine mT ?_;refine Eq.symm (hst.trans ?_)
     simp_all
    ·refine uA ?_;refine kq ?_;exact⟨k+1,uH,uH,rfl,rfl,uS,⟨by omega,by rw[hI];refine hst.trans ?_;simp_all [restB]⟩,by omega⟩
  ·exact iU
end Go.Sep
namespace Go
abbrev dl := @Sep.kids_law
end Go
namespace Go.Sep
open Go.Proofs
attribute [local irreducible] TC TO OT TCallX TCall DO DOt thenQ blockQ retQ At
theorem sl1 {m:Mem} {b:Nat} {fn:FuncId} (h:At m b 0 [.func (.func fn) ⟨[]⟩ ⟨[]⟩]):SlRep rFn m ⟨some ⟨b,0,none⟩,1,1⟩ [fn]:=SlRep.one (r:=rFn) (h:=fn) h rfl ov
theorem type_law (a:Tree):∀(m:Mem) (L:List Item) (h:HTree) (hr:TreeRep m h a) (hB:a.wide≤140737488355328),TCall Tryz.prog 71 ⟨[treeV h]⟩ m L (Ret (.bool a.isType) m L):=by
 induction a using Tree.ind with
 | h a ih =>
 intro m L h hr hB;have hp:IsPred 71 Tree.isType a.kids:=⟨goes71,fun m L h k hk hr=>ih k hk m L h hr (bJ ((dg hk)) hB)⟩
 have hr':=hr;obtain⟨h1,h2,h3,h4⟩:=hr;have hl:=h4.len;refine mR ?_;rw[isType_eq];unfold TCall;refine cJ Tryz.func71 rfl 47 rfl ?_;by_cases h10:a.kind=10
 ·rw[if_pos h10];obtain⟨k,n,u,s⟩:=h;obtain rfl:k=10:=h1.trans h10;refine uA ?_;refine ay (fun b=>?_);refine au goes68 (of_law _ _ ⟨10,n,u,s⟩ a hr' hB 10) ?_;refine aF (fun h7=>?_) (fun h7=>?_)
  ·refine uL ?_;refine oR goes70 (dl _ _ ⟨10,n,u,s⟩ a hr' ⟨none,0,0⟩ [] none (cR _ _) (fun _ h=>by cases h) (fun _ h=>by cases h)) ?_;refine mf ?_
   simp_all [kidsR0,ofB,restB]
  ·refine uA ?_;refine kI ?_;unfold ofB at h7;rw[h10,bS rfl,bR]at h7;rw[←Bool.and_assoc,h7];rfl
 rw[if_neg h10];by_cases h11:a.kind=11∨a.kind=12
 ·rw[if_pos h11];have h12:h.kind=11∨h.kind=12:=by rw[h1];exact h11
  obtain⟨k,n,u,s⟩:=h;rcases h12 with h12 | h12
  all_goals
   simp only at h12;subst h12;refine uA ?_;refine ay (fun b=>?_);refine au goes33 (bare_law _ _ ⟨_,n,u,s⟩ a hr' true false false) ?_;refine aF (fun h7=>?_) (fun h7=>?_)
   ·refine uL ?_;refine qs rfl (OT.lit tab rfl rfl rfl rfl (fun b2=>?_));refine cV fun m1 hm1 hA1=>?_;refine uA ?_;refine oR goes70 (dl m1 _ ⟨_,n,u,s⟩ a (hr'.mono hm1) ⟨some ⟨b2,0,none⟩,1,1⟩ [(71,Tree.isType)] none (sl1 hA1) (fun p h=>by rw[List.mem_singleton.1 h];exact hp) (fun _ h=>by cases h)) ?_;refine nq ?_
    simp_all [bareB,kidsR1,restB]
   ·refine uA ?_;refine kI ?_;unfold bareB at h7;simp only[bR,cw]at h7;rw[←Bool.and_assoc,h7];rfl
 rw[if_neg h11];by_cases h13:a.kind=13
 ·rw[if_pos h13];obtain⟨k,n,u,s⟩:=h;obtain rfl:k=13:=h1.trans h13;refine uA ?_;refine ay (fun b=>?_);refine oR goes33 (bare_law _ _ ⟨13,n,u,s⟩ a hr' true false true) ?_;simp only at h2 h3 hl;refine uA ?_;refine aF (fun h7=>?_) (fun h7=>?_)
  ·have hn:a.name=[]:=by unfold bareB at h7;simpa using h7
   refine uL ?_;refine az (fun h8=>?_) (fun h8=>?_)
   ·refine uL ?_;refine az (fun h9=>?_) (fun h9=>?_)
    ·refine uL ?_;refine au goes34 (pall_law _ _ s a.kids h4 71 Tree.isType hp) ?_;refine kI ?_;simp only at h8 h9;rw[bS hn,bS ou,bS ou];rfl
    ·refine uA ?_;refine kI ?_;simp only at h8 h9;rw[bS hn,bS ou,bU ou];rfl
   ·refine uA ?_;refine kI ?_;simp only at h8;rw[bS hn,bU ou];rfl
  ·refine uA ?_;refine kI ?_;have hn:¬a.name=[]:=by unfold bareB at h7;simpa using h7
   rw[bU hn];rfl
 rw[if_neg h13];refine uA ?_;refine ay (fun b=>?_);exact eP
theorem param_law (a:Tree) (m:Mem) (L:List Item) (h:HTree) (hr:TreeRep m h a) (hB:a.wide≤140737488355328):TCall Tryz.prog 124 ⟨[treeV h]⟩ m L (Ret (.bool a.isParam) m L):=by
 have hp:IsPred 71 Tree.isType a.kids:=⟨goes71,fun m L h k hk hr=>type_law k m L h hr (bJ ((dg hk)) hB)⟩
 refine mR ?_;unfold TCall;refine ag Tryz.func124 10 ?_;refine ay (fun b=>?_);refine au goes68 (of_law _ _ h a hr hB 8) ?_;refine aF (fun h7=>?_) (fun h7=>?_)
 ·refine uL ?_;refine qs rfl (OT.lit tab rfl rfl rfl rfl (fun b2=>?_));refine cV fun m1 hm1 hA1=>?_;refine uA ?_;refine oR goes70 (dl m1 _ h a (hr.mono hm1) ⟨some ⟨b2,0,none⟩,1,1⟩ [(71,Tree.isType)] none (sl1 hA1) (fun p h=>by rw[List.mem_singleton.1 h];exact hp) (fun _ h=>by cases h)) ?_;refine nq ?_;unfold Tree.isParam
  simp_all [kidsR1,ofB,restB]
 ·refine uA ?_;refine kI ?_;unfold ofB at h7;unfold Tree.isParam;rw[←Bool.and_assoc,←Bool.and_assoc,Bool.and_assoc (decide (a.kind=8)),h7];rfl
theorem sig_law (a:Tree) (m:Mem) (L:List Item) (h:HTree) (hr:TreeRep m h a) (hB:a.wide≤140737488355328):TCall Tryz.prog 73 ⟨[treeV h]⟩ m L (Ret (.bool a.isSig) m L):=by
 have hp:IsPred 71 Tree.isType (a.kids.drop a.num.toNat):=⟨goes71,fun m L h k hk hr=>type_law k m L h hr (bJ ((dg (List.mem_of_mem_drop hk))) hB)⟩
 have hp2:IsPred 124 Tree.isParam (a.kids.take a.num.toNat):=⟨goes124,fun m L h k hk hr=>param_law k m L h hr (bJ ((dg (cu hk))) hB)⟩
 have hr':=hr;obtain⟨h1,h2,h3,h4⟩:=hr;have hl:=h4.len;unfold TCall;refine ag Tryz.func73 37 ?_;refine ay (fun b=>?_);refine au goes33 (bare_law _ _ h a hr' (decide (h.kind=7)) false true) ?_;refine aF (fun h7=>?_) (fun h7=>?_)
 ·have hn:a.kind=7∧a.name=[]:=by unfold bareB at h7;rw[←h1];simpa using h7
  refine uL ?_;refine az (fun h8=>?_) (fun h8=>?_)
  ·refine uL ?_;refine az (fun h9=>?_) (fun h9=>?_)
   ·refine uL ?_;have hnum:h.num=((a.num.toNat:Nat):Int):=ou;refine qs rfl (OT.cut tab rTree 0 a.num.toNat h4 rfl rfl rfl rfl rfl rfl rfl (.inl ⟨rfl,rfl⟩) (.inr (by rw[hnum])) (cm _) ou (fun s1 hs1=>?_));rw[cA]at hs1;refine uA ?_;refine au goes34 (pall_law _ _ s1 _ hs1 124 Tree.isParam hp2) ?_;have pre:a.isSig=((a.kids.take a.num.toNat).all Tree.isParam&&(a.kids.drop a.num.toNat).all Tree.isType):=by
     unfold Tree.isSig;rw[bS hn.1,bS hn.2,bS (show 0≤a.num by omega),bS (show a.num≤(a.kids.length:Int) by omega)];rfl
    refine aF (fun h10=>?_) (fun h10=>?_)
    ·refine uL ?_;refine qs rfl (OT.cut tab rTree a.num.toNat h.kids.len h4 rfl rfl rfl rfl rfl rfl rfl (.inr (by rw[hnum])) (.inl ⟨rfl,rfl⟩) ou ou (fun s2 hs2=>?_));rw[cl ou]at hs2;refine uA ?_;refine au goes34 (pall_law _ _ s2 _ hs2 71 Tree.isType hp) ?_;exact j9
    ·refine uA ?_;exact j9
   ·refine uA ?_;refine kh ?_;unfold Tree.isSig;rw[bS hn.1,bS hn.2,bS (show 0≤a.num by omega),bU (show ¬a.num≤(a.kids.length:Int) by omega)];rfl
  ·refine uA ?_;refine kh ?_;unfold Tree.isSig;rw[bS hn.1,bS hn.2,bU (show ¬0≤a.num by omega)];rfl
 ·refine uA ?_;refine kh ?_;have hn:¬(a.kind=7∧a.name=[]):=by unfold bareB at h7;rw[←h1];simpa using h7
  unfold Tree.isSig;rw[←Bool.and_assoc,←Bool.decide_and,bU hn];rfl
end Go.Sep
namespace Go.Sep
open Go.Proofs
attribute [local irreducible] TC TO OT TCallX TCall DO DOt thenQ blockQ retQ At
abbrev rSlS:=rSl rStr
theorem growS_law (m:Mem) (L:List Item) (n:Nat) (hB:n*16≤140737488355328):TCall Tryz.prog 212 ⟨[.slice none 0 0,.int .i64 (n:Int)]⟩ m L (fun r m' L'=>m=m'∧∃ s:Sl,r=s.v∧Own s∧SlRep rStr m s []∧L'=tok s 1::L):=by
 unfold TCall;refine ag Tryz.func212 27 ?_;refine lU ?_;refine ap (fun e2=>?_) (fun e2=>?_)
 ·refine uA ?_;refine lK ?_;refine qs rfl (OT.growNil tab (z:=n) ou rfl rfl rfl rfl rfl rfl rfl rfl rfl (sz:=1) rfl rfl hB (fun b c hc=>?_));refine mI ?_;refine cH rfl (L':=.room b 0 (c*1)::L) uS ⟨rfl,⟨some ⟨b,0,none⟩,0,c⟩,?_,.inr ⟨b,0,rfl⟩,⟨rfl,cm _,by simp,[],trivial,.inl ⟨rfl,fun e=>by cases e⟩⟩,by simp[tok]⟩;exact ju
 ·refine cW (size:=1) ?_;refine uA ?_;exact cH rfl (L':=tok ⟨none,0,0⟩ 1::L) uS ⟨rfl,⟨none,0,0⟩,rfl,.inl rfl,cR _ _,rfl⟩
theorem concatS_law (m:Mem) (L:List Item) (s:Sl) (ls:List (List Str)) (hs:SlRep (rSl rStr) m s ls) (hB:(ls.map List.length).sum*16≤140737488355328):TCall Tryz.prog 188 ⟨[s.v]⟩ m L (Made m L fun r m'=>∃ t:Sl,r=t.v∧SlRep rStr m' t ls.flatten):=by
 have hl:=hs.len;have hsm:=hs.small rfl;have hpre:∀ k,((ls.take k).map List.length).sum≤(ls.map List.length).sum:=fun k=>by
  conv=>rhs;rw[←cn k ls]
  rw[cr,List.sum_append];omega
 unfold TCall;refine ag Tryz.func188 36 ?_;refine lO ?_;rintro k hk;refine uA ?_;refine ap (fun h=>?_) (fun h=>?_)
 ·have hlt:k<ls.length:=ou;have hx:ls[k]? = some ls[k]:=oG;have hp1:=hpre (k+1);have hp0:((ls.take (k+1)).map List.length).sum=((ls.take k).map List.length).sum+ls[k].length:=by
   exact fI
  refine uA ?_;refine al tab rSlS k hs uH oy rfl hx ?_;rintro b' i' s' hrd hA;have hl':s'.len=ls[k].length:=hrd.len;refine uA ?_
  (first | refine qs rfl (OT.loadA tab hA rfl rfl rfl rfl rfl ?_) | refine oL tab hA ?_)
  refine uA ?_;exact gd
 ·have hpk:=hpre k;refine uA ?_;refine oC goes212 ((growS_law m _ ((ls.take k).map List.length).sum ou).x ?_);rintro _ _ _ ⟨rfl,t,rfl,ho,hr,rfl⟩;refine uA ?_;refine cG (ι:=Nat×Sl×Mem) [0,25,26] rfl (fun x=>[(27,.int .i64 (x.1:Int)),(6,x.2.1.v)]) (fun x=>x.2.2) (fun x=>tok x.2.1 1::L) (fun x=>x.1≤ls.length∧m≤x.2.2∧Own x.2.1∧SlRep rStr x.2.2 x.2.1 (ls.take x.1).flatten) (fun x=>ls.length-x.1) (0,t,m) uH rfl uS ⟨cm _,cB _,ho,hr⟩ ?_;rintro⟨j,u,m1⟩ ⟨hj,hm1,ho1,hr1⟩;simp only at hj hm1 ho1 hr1 ⊢;have hs1:=hs.mono hm1;refine uA ?_;refine ap (fun h2=>?_) (fun h2=>?_)
  ·have hlt:j<ls.length:=ou;have hx:ls[j]? = some ls[j]:=oG;have hp1:=hpre (j+1);have hp0:((ls.take (j+1)).map List.length).sum=((ls.take j).map List.length).sum+ls[j].length:=by
    exact fI
   have hfl:(ls.take j).flatten.length=((ls.take j).map List.length).sum:=List.length_flatten;refine uA ?_;refine al tab rSlS j hs1 uH oy rfl hx ?_;rintro b' i' s' hrd hA
   (first | refine qs rfl (OT.loadA tab hA rfl rfl rfl rfl rfl ?_) | refine oL tab hA ?_)
   refine uA ?_;refine qs rfl (cS tab rStr 0 hr1 ho1 hrd rfl rfl rfl rfl rfl rfl rfl (by simp only[rStr];omega) (fun s' m' hm' hs' ho'=>?_));exact gb
  ·exact jd
end Go.Sep
namespace Go.Sep
attribute [local irreducible] TC TO OT TCallX TCall DO DOt thenQ blockQ retQ At
theorem pfr1 {α:Type} {a0 a1:α} {l:List α}:(a0::a1::l).Perm (a1::a0::l):=bm _ _ _
theorem pfr2 {α:Type} {a0 a1 a2:α} {l:List α}:(a0::a1::a2::l).Perm (a2::a0::a1::l):=bo (br _ pfr1) (bm _ _ _)
theorem pfr3 {α:Type} {a0 a1 a2 a3:α} {l:List α}:(a0::a1::a2::a3::l).Perm (a3::a0::a1::a2::l):=bo (br _ pfr2) (bm _ _ _)
theorem pfr4 {α:Type} {a0 a1 a2 a3 a4:α} {l:List α}:(a0::a1::a2::a3::a4::l).Perm (a4::a0::a1::a2::a3::l):=bo (br _ pfr3) (bm _ _ _)
structure PE where
 src:Str
 list:Sl
 toks:List Tok
 p:Nat
 N:Nat
def PE.f (E:PE):Ps.F:=fun i=>match E.toks[i]? with
 | some t=>some ⟨t.kind,t.text,t.num⟩
 | none=>none
structure PE.Ok (E:PE) (m:Mem):Prop where
 rep:SlRep rTok m E.list E.toks
 few:E.toks.length≤20000
 rows:E.N≤20001
 pos:1≤E.N
theorem PE.Ok.mono {E:PE} {m m':Mem} (h:E.Ok m) (hm:m≤m'):E.Ok m':=⟨h.rep.mono hm,h.few,h.rows,h.pos⟩
@[reducible] def PE.I (E:PE) (k:Nat) (h:Int):Item:=.cells E.p 0 [strV E.src,E.list.v,.int .i64 (k:Int),.int .i64 h]
@[reducible] def PE.v (E:PE):Value:=.pointer (some ⟨E.p,0,none⟩)
def PE.place (E:PE) (k:Nat):Int:=match E.toks[k]? with
 | some t=>t.at_
 | none=>(E.src.length:Int)
def PE.flt (E:PE) (k:Nat):List PanicEntry:=[{ v:=.iface 60 (.agg ⟨[.int .i64 (E.place k)]⟩),recovered:=false }]
abbrev RV (α:Type):=Mem→Value→List Item→α→Prop
def vTree : RV Tree:=fun m v X t=>∃ h,v=treeV h∧X=[]∧TreeRep m h t
def vList : RV (List Tree):=fun m v X l=>∃ s,v=s.v∧X=[tok s 4]∧SlRep rTree m s l∧Own s∧l.length≤20001
def vSl : RV (List Tree):=fun m v X l=>∃ s,v=s.v∧X=[]∧SlRep rTree m s l∧l.length≤20001
def pR {α:Type} (E:PE) (V:RV α) (T:Ps.Res α) (m:Mem) (L:List Item) (h:Int):Value→Mem→List Item→Prop :=
 fun v m' L'=>∃ a k' xs,T = .ok a k'∧m≤m'∧k'≤E.toks.length∧V m' v xs a∧L'=E.I k' h::(xs++L)
def pX {α:Type} (E:PE) (T:Ps.Res α) (m:Mem) (L:List Item):List PanicEntry→Mem→List Item→Prop :=
 fun ch m' L'=>∃ k' h',T = .bad k'∧m≤m'∧k'≤E.toks.length∧ch=E.flt k'∧L'=E.I k' h'::L
def Par {α:Type} (P:Program) (mb:Mem) (E:PE) (V:RV α) (f:FuncId) (args:List Value) (h:Int) (X:Ps.Pp α):Prop :=
 ∀(m:Mem) (L:List Item) (k:Nat),mb≤m→E.Ok m→k≤E.toks.length→X E.f k≠.out→TCallX P f ⟨args⟩ m (E.I k h::L) (pR E V (X E.f k) m L h) (pX E (X E.f k) m L)
theorem Par.enter {α:Type} {P:Program} {mb:Mem} {E:PE} {V:RV α} {f:FuncId} {args:List Value} {h:Int} {X:Ps.Pp α} {fn:Func} {c:Code} (hf:P.funcs[f]? = some fn) (hb:fn.body=some c) (N:Nat) (hN:Nat.ble N fn.ntmps=true)
  (hK:∀(m:Mem) (L:List Item) (k:Nat) (T:Ps.Res α),mb≤m→E.Ok m→k≤E.toks.length→T=X E.f k→T≠.out→TC P N c (argEnv args 0) [] m (E.I k h::L) (retQ P fn (pR E V T m L h) (pX E T m L))):Par P mb E V f args h X :=
 fun m L k h0 h1 h2 h3=>cJ hf hb N hN (hK m L k _ h0 h1 h2 rfl h3)
theorem Par.up {α:Type} {P:Program} {mb mb':Mem} {E:PE} {V:RV α} {f:FuncId} {args:List Value} {h:Int} {X:Ps.Pp α} (hp:Par P mb E V f args h X) (hm:mb≤mb'):Par P mb' E V f args h X:=fun m L k h0=>hp m L k (cC hm h0)
def Bad {β:Type} (Q:EPost) (E:PE) (T:Ps.Res β) (m:Mem) (L:List Item):Prop:=∀ ρ m' k h L',m≤m'→k≤E.toks.length→T = .bad k→L.Sublist L'→Q (.panic (E.flt k)) ρ [] m' (E.I k h::L')
theorem Bad.ret {β:Type} {P:Program} {fn:Func} {R:Value→Mem→List Item→Prop} {E:PE} {T:Ps.Res β} {m:Mem} {L:List Item}:Bad (retQ P fn R (pX E T m L)) E T m L :=
 fun ρ m' k h L' h1 h2 h3 h4=>retQ_p (L':=E.I k h::L) (bY _ h4) ⟨k,h,h3,h1,h2,rfl,rfl⟩
theorem Bad.then {β:Type} {Q:EPost} {K:Env→List Deferred→Mem→List Item→Prop} {E:PE} {T:Ps.Res β} {m:Mem} {L:List Item} (h:Bad Q E T m L):Bad (thenQ K Q) E T m L:=fun ρ m' k hd L' h1 h2 h3 h4=>thenQ_p (h ρ m' k hd L' h1 h2 h3 h4)
theorem Bad.block {β:Type} {Q:EPost} {i:Nat} {E:PE} {T:Ps.Res β} {m:Mem} {L:List Item} (h:Bad Q E T m L):Bad (blockQ i Q) E T m L:=fun ρ m' k hd L' h1 h2 h3 h4=>blockQ_p (h ρ m' k hd L' h1 h2 h3 h4)
theorem Bad.le {β:Type} {Q:EPost} {E:PE} {T:Ps.Res β} {m m':Mem} {L:List Item} (h:Bad Q E T m L) (hm:m≤m'):Bad Q E T m' L:=fun ρ m2 k hd L' h1 h2 h3 h4=>h ρ m2 k hd L' (cC hm h1) h2 h3 h4
theorem bind_out' {α β:Type} {p:Ps.Pp α} {g:α→Ps.Pp β} {f:Ps.F} {k:Nat} {T:Ps.Res β} (hT:T=Ps.bind p g f k) (hn:T≠.out):p f k≠.out:=fun h=>hn (by rw[hT];unfold Ps.bind;rw[h])
section
variable {P:Program} {N:Nat} {ρ:Env} {m:Mem} {L:List Item} {Q:EPost} {o:Oper} {K:Env→Mem→List Item→Prop} {E:PE} {α β:Type}
theorem OT.parG {V:RV α} {FF:Operand} {args:List Operand} {ats:Array TypeId} {f:FuncId} {first cap vs all:List Value} {d:Nat} {h:Int} {p:Ps.Pp α} {g:α→Ps.Pp β} {T:Ps.Res β} {k:Nat} {m0 mb:Mem} {L0:List Item}
  (ho:o.op = .call ⟨.value FF,⟨args⟩,ats⟩) (hd:o.dst=some d) (hN:Nat.blt d N=true)
  (hF:ev ρ FF=some (.func (.func f) ⟨first⟩ ⟨cap⟩)) (ha:evs ρ args=some vs) (hall:fl (first++(vs++cap))=some all) (hg:Goes P f)
  (hp:Par P mb E V f all h p) (hq:mb≤m) (hT:T=Ps.bind p g E.f k) (hn:T≠.out) (hE:E.Ok m) (hk:k≤E.toks.length) (hb:Bad Q E T m0 L0) (hm:m0≤m) (hL:L0.Sublist L)
  (hK:∀ v m' a k' xs,T=g a E.f k'→m≤m'→k'≤E.toks.length→V m' v xs a→K ((d,v)::ρ) m' (E.I k' h::(xs++L))):OT P N o ρ [] m (E.I k h::L) Q K:=by
 refine cQ ho hd hN hF ha hall hg (cD (hp m L k hq hE hk (bind_out' hT hn)) ?_ ?_)
 ·exact iH
 ·exact il
section
variable {FF:Operand} {args:List Operand} {ats:Array TypeId} {f:FuncId} {first cap vs all:List Value} {d:Nat} {h:Int} {T:Ps.Res β} {k:Nat} {m0 mb:Mem} {L0:List Item}
theorem OT.parT {p:Ps.Pp Tree} {g:Tree→Ps.Pp β} (hp:Par P mb E vTree f all h p) (hq:mb≤m) (hT:T=Ps.bind p g E.f k) (hn:T≠.out) (hE:E.Ok m) (hk:k≤E.toks.length) (hb:Bad Q E T m0 L0) (hm:m0≤m) (hL:L0.Sublist L)
  (ho:o.op = .call ⟨.value FF,⟨args⟩,ats⟩) (hd:o.dst=some d) (hN:Nat.blt d N=true)
  (hF:ev ρ FF=some (.func (.func f) ⟨first⟩ ⟨cap⟩)) (ha:evs ρ args=some vs) (hall:fl (first++(vs++cap))=some all) (hg:Goes P f)
  (hK:∀ x m' a k',T=g a E.f k'→m0≤m'→E.Ok m'→m≤m'→k'≤E.toks.length→TreeRep m' x a→K ((d,treeV x)::ρ) m' (E.I k' h::L)):OT P N o ρ [] m (E.I k h::L) Q K :=
 OT.parG ho hd hN hF ha hall hg hp hq hT hn hE hk hb hm hL fun v m' a k' xs h1 h2 h3 h4=>by
  exact je
theorem OT.parL {p:Ps.Pp (List Tree)} {g:List Tree→Ps.Pp β} (hp:Par P mb E vList f all h p) (hq:mb≤m) (hT:T=Ps.bind p g E.f k) (hn:T≠.out) (hE:E.Ok m) (hk:k≤E.toks.length) (hb:Bad Q E T m0 L0) (hm:m0≤m) (hL:L0.Sublist L)
  (ho:o.op = .call ⟨.value FF,⟨args⟩,ats⟩) (hd:o.dst=some d) (hN:Nat.blt d N=true)
  (hF:ev ρ FF=some (.func (.func f) ⟨first⟩ ⟨cap⟩)) (ha:evs ρ args=some vs) (hall:fl (first++(vs++cap))=some all) (hg:Goes P f)
  (hK:∀(x:Sl) m' a k',T=g a E.f k'→m0≤m'→E.Ok m'→m≤m'→k'≤E.toks.length→SlRep rTree m' x a→Own x→a.length≤20001→K ((d,x.v)::ρ) m' (E.I k' h::tok x 4::L)):OT P N o ρ [] m (E.I k h::L) Q K :=
 OT.parG ho hd hN hF ha hall hg hp hq hT hn hE hk hb hm hL fun v m' a k' xs h1 h2 h3 h4=>by
  obtain⟨x,rfl,rfl,h5,h6,h7⟩:=h4;exact hK x m' a k' h1 (cC hm h2) (hE.mono h2) h2 h3 h5 h6 h7
theorem OT.parS {p:Ps.Pp (List Tree)} {g:List Tree→Ps.Pp β} (hp:Par P mb E vSl f all h p) (hq:mb≤m) (hT:T=Ps.bind p g E.f k) (hn:T≠.out) (hE:E.Ok m) (hk:k≤E.toks.length) (hb:Bad Q E T m0 L0) (hm:m0≤m) (hL:L0.Sublist L)
  (ho:o.op = .call ⟨.value FF,⟨args⟩,ats⟩) (hd:o.dst=some d) (hN:Nat.blt d N=true)
  (hF:ev ρ FF=some (.func (.func f) ⟨first⟩ ⟨cap⟩)) (ha:evs ρ args=some vs) (hall:fl (first++(vs++cap))=some all) (hg:Goes P f)
  (hK:∀(x:Sl) m' a k',T=g a E.f k'→m0≤m'→E.Ok m'→m≤m'→k'≤E.toks.length→SlRep rTree m' x a→a.length≤20001→K ((d,x.v)::ρ) m' (E.I k' h::L)):OT P N o ρ [] m (E.I k h::L) Q K :=
 OT.parG ho hd hN hF ha hall hg hp hq hT hn hE hk hb hm hL fun v m' a k' xs h1 h2 h3 h4=>by
  exact iZ
end
theorem DOt.perm {ops:List Oper} {ts:List Nat} {fuel:Nat} {listed:List Bool} {D:List Deferred} {L':List Item} (hp:L.Perm L') (h:DOt P N ops ts fuel listed ρ D m L' Q):DOt P N ops ts fuel listed ρ D m L Q:=by
 unfold DOt at h ⊢;exact fun a w ha=>h a w (ha.perm hp)
end
end Go.Sep
namespace Go
abbrev dm := @Sep.Par.enter
abbrev dn := @Sep.Bad.ret
abbrev dp := @Sep.Bad.then
abbrev dq := @Sep.Bad.block
abbrev dr := @Sep.OT.parT
end Go
namespace Go.Sep
open Go.Proofs
attribute [local irreducible] TC TO OT TCallX TCall DO DOt thenQ blockQ retQ At
theorem PE.f_some {E:PE} {k:Nat} (h:k<E.toks.length):E.f k=some ⟨(E.toks[k]).kind,(E.toks[k]).text,(E.toks[k]).num⟩:=by
 unfold PE.f;rw[bw h]
theorem PE.f_none {E:PE} {k:Nat} (h:E.toks.length≤k):E.f k=none:=by
 unfold PE.f;rw[List.getElem?_eq_none h]
theorem PE.isM {E:PE} {k:Nat} (h:k<E.toks.length) (s:Str):Ps.isM s E.f k=((decide ((E.toks[k]).kind=4)||decide ((E.toks[k]).kind=5))&&decide ((E.toks[k]).text=s)):=by
 unfold Ps.isM;rw[PE.f_some h]
theorem PE.isM_no {E:PE} {k:Nat} (h:E.toks.length≤k) (s:Str):Ps.isM s E.f k=false:=by
 unfold Ps.isM;rw[PE.f_none h]
theorem PE.isK {E:PE} {k:Nat} (h:k<E.toks.length) (c:Int):Ps.isK c E.f k=decide ((E.toks[k]).kind=c):=by
 unfold Ps.isK;rw[PE.f_some h]
theorem PE.isK_no {E:PE} {k:Nat} (h:E.toks.length≤k) (c:Int):Ps.isK c E.f k=false:=by
 unfold Ps.isK;rw[PE.f_none h]
section
variable {E:PE} {m:Mem} {L:List Item} {k:Nat} {h:Int}
theorem peek_law (s:Str) (hE:E.Ok m) (hk:k≤E.toks.length):TCall Tryz.prog 144 ⟨[E.v,strV s]⟩ m (E.I k h::L) (Ret (.bool (Ps.isM s E.f k)) m (E.I k h::L)):=by
 have hlen:=hE.rep.len;unfold TCall;refine ag Tryz.func144 40 ?_;refine aW [] dc 10 ?_;refine kC ?_;refine lh ?_;refine aS ?_
 rotate_left 1
 refine uA ?_;refine ap (fun c0=>?_) (fun c0=>?_)
 ·refine uA ?_;refine kh ?_;rw[PE.isM_no ou]
 have hlt:k<E.toks.length:=ou;have hx:E.toks[k]? = some E.toks[k]:=bw hlt;refine uA ?_;refine TC.draw [11] dc 12 rfl [E.I k h] L uP ?_;refine kC ?_;refine nG ?_;rintro b i hd hr hA;obtain rfl:=(show hd=E.toks[k] from hr)
 refine ak (k:=0) 9 hA ?_;refine af 10 ?_;refine OT.alloc tab rfl rfl rfl rfl (fun bx=>?_);refine⟨cB _,.cells bx 0 [.int .i64 0,.string ⟨#[]⟩,.int .i64 0,.int .i64 0]::L,bm _ _ _,?_⟩;refine cU ?_;refine aC 11 ?_;refine aE 1 ?_;refine aL ?_
 rotate_left 1
 repeat' (first|(first|refine q1 ?_|refine q3 ?_|refine q4 tab rfl rfl ?_|refine q5 ?_|refine q6 ?_|refine q15 ?_)|(refine qs rfl (ql tab 1 rfl rfl rfl rfl rfl rfl ?_))|(refine TO.splitP rfl rfl (fun hb=>?_) (fun hb=>?_)))
 all_goals
  refine kh ?_;rw[PE.isM hlt]
  simp_all []
@[reducible] def PE.step (E:PE) (s:Str) (k:Nat):Nat:=bif Ps.isM s E.f k then k+1 else k
theorem PE.isM_lt {s:Str} (h:Ps.isM s E.f k=true):k<E.toks.length:=by
 rcases Nat.lt_or_ge k E.toks.length with hl | hl
 ·exact hl
 ·rw[PE.isM_no hl]at h;cases h
theorem PE.isK_lt {c:Int} (h:Ps.isK c E.f k=true):k<E.toks.length:=by
 rcases Nat.lt_or_ge k E.toks.length with hl | hl
 ·exact hl
 ·rw[PE.isK_no hl]at h;cases h
theorem take_law (s:Str) (hE:E.Ok m) (hk:k≤E.toks.length):TCall Tryz.prog 109 ⟨[E.v,strV s]⟩ m (E.I k h::L) (Ret (.bool (Ps.isM s E.f k)) m (E.I (E.step s k) h::L)):=by
 have hfew:=hE.few;unfold TCall;refine ag Tryz.func109 15 ?_;refine au goes144 (peek_law s hE hk) ?_;unfold PE.step;cases hb:Ps.isM s E.f k with
 | true =>
  refine mP ?_;refine kq ?_;refine am (k:=2) 0 ?_;refine ah (L':=E.I (k+1) h::L) ⟨rfl,rfl,rfl⟩
 | false =>
  refine uA ?_;refine ah (L':=E.I k h::L) ⟨rfl,rfl,rfl⟩
theorem place_law (hE:E.Ok m) (hk:k≤E.toks.length):TCall Tryz.prog 177 ⟨[E.v]⟩ m (E.I k h::L) (Ret (.int .i64 (E.place k)) m (E.I k h::L)):=by
 have hlen:=hE.rep.len;unfold TCall;refine ag Tryz.func177 29 ?_;refine aW [] dc 10 ?_;refine kC ?_;refine lh ?_;refine aS ?_
 rotate_left 1
 refine uA ?_;refine ap (fun c0=>?_) (fun c0=>?_)
 ·have hlt:k<E.toks.length:=ou;have hx:E.toks[k]? = some E.toks[k]:=bw hlt;refine uA ?_;refine aW [] dc 12 ?_;refine kC ?_;refine nG ?_;rintro b i hd hr hA;obtain rfl:=(show hd=E.toks[k] from hr)
  refine cT tab uC uK [9] uK rfl ?_;refine ak 10 hA ?_;refine nh ?_;refine aS ?_
  rotate_left 1
  refine kP ?_;unfold PE.place;rw[hx]
 ·refine uA ?_;refine uM ?_;refine kP ?_;unfold PE.place;rw[List.getElem?_eq_none ou]
theorem stop_law (hE:E.Ok m) (hk:k≤E.toks.length):TCallX Tryz.prog 146 ⟨[E.v]⟩ m (E.I k h::L) (fun _ _ _=>False) (fun ch m' L'=>m'=m∧ch=E.flt k∧L'=E.I k h::L):=by
 refine ag Tryz.func146 6 ?_;refine au goes177 (place_law hE hk) ?_;refine ax ?_;refine qs rfl (OT.panic rfl rfl ?_);exact retQ_p (L':=E.I k h::L) uS ⟨rfl,rfl,rfl⟩
theorem is_law (c:Int) (hE:E.Ok m) (hk:k≤E.toks.length):TCall Tryz.prog 147 ⟨[E.v,.int .i64 c]⟩ m (E.I k h::L) (Ret (.bool (Ps.isK c E.f k)) m (E.I k h::L)):=by
 have hlen:=hE.rep.len;unfold TCall;refine ag Tryz.func147 30 ?_;rcases Nat.lt_or_ge k E.toks.length with hlt | hge
 ·have hx:E.toks[k]? = some E.toks[k]:=bw hlt;refine aW [] dc 26 ?_;refine kC ?_;refine cT tab uC uK [8,9,10] uK rfl ?_;refine DO.splitP (d:=15) rfl (fun hg10=>?_) (fun hg10=>?_);refine cT tab uC uK [11,12,13] uK rfl ?_;refine ae 14 0 ?_;refine cT tab uC uK [15,16,17] uK rfl ?_;refine ae 18 0 ?_;refine DO.index tab rTok 19 k hE.rep uC uK uK rfl rfl rfl rfl rfl rfl rfl oU rfl hx ?_;rintro b i hd hr hA;obtain rfl:=(show hd=E.toks[k] from hr)
  refine cT tab uC uK [20] uK rfl ?_;refine ak 21 hA ?_;refine cT tab uC uK [22,23,24,25] uK rfl ?_;refine aS ?_
  rotate_left 1
  ·first | (exfalso;omega) | exact absurd rfl hg10 | exact absurd (by assumption) hg10 | contradiction
  refine kP ?_;rw[PE.isK hlt]
 ·refine aW [] dc 26 ?_;refine kC ?_;refine cT tab uC uK [8,9,10] uK rfl ?_;refine DO.splitP (d:=15) rfl (fun hg10=>?_) (fun hg10=>?_)
  ·first | (exfalso;omega) | exact absurd rfl hg10 | exact absurd (by assumption) hg10 | contradiction
  refine cT tab uC uK [11,12,13,14,15,16,17,18,19,20,21,22,23,24,25] uK rfl ?_;refine aS ?_
  rotate_left 1
  refine kP ?_;rw[PE.isK_no hge]
end
end Go.Sep
namespace Go.Ps
variable {α β:Type}
theorem tok_t {s:Sep.Str} {A B:Pp α} {f:F} {k:Nat} (h:isM s f k=true):tok s A B f k=A f (k+1):=by unfold tok;rw[h];rfl
theorem tok_f {s:Sep.Str} {A B:Pp α} {f:F} {k:Nat} (h:isM s f k=false):tok s A B f k=B f k:=by unfold tok;rw[h];rfl
theorem peek_t' {q:F→Nat→Bool} {A B:Pp α} {f:F} {k:Nat} (h:q f k=true):peek q A B f k=A f k:=by unfold peek;rw[h];rfl
theorem peek_f' {q:F→Nat→Bool} {A B:Pp α} {f:F} {k:Nat} (h:q f k=false):peek q A B f k=B f k:=by unfold peek;rw[h];rfl
theorem name_t {A:Sep.Str→Pp α} {f:F} {k:Nat} {t:Tk} (h:f k=some t) (hk:t.kind=1):name A f k=A t.text f (k+1):=by
 unfold name tkn;rw[h];simp only[hk];rfl
theorem name_f {A:Sep.Str→Pp α} {f:F} {k:Nat} (h:isK 1 f k=false):name A f k = .bad k:=by
 unfold isK at h;unfold name tkn;cases hf:f k with
 | none=>rfl
 | some t=>rw[hf]at h;simp only at h;simp only[h];rfl
end Go.Ps
namespace Go.Sep
open Go.Proofs
attribute [local irreducible] TC TO OT TCallX TCall DO DOt thenQ blockQ retQ At
section
variable {E:PE} {m:Mem} {L:List Item} {k:Nat} {h:Int}
theorem need_law (s : Str) (hE : E.Ok m) (hk : k ≤ E.toks.length) : TCallX Tryz.prog 111 ⟨[E.v,strV s]⟩ m (E.I k h :: L)
  (fun v m' L'=>m' = m∧v = .tuple ⟨[]⟩ ∧ Ps.isM s E.f k=true∧L' = E.I (k + 1) h :: L) (fun ch m' L'=>m' = m∧Ps.isM s E.f k=false∧ch=E.flt k∧L' = E.I k h :: L):=by
 refine cJ Tryz.func111 rfl 10 rfl ?_
 refine uA ?_
 refine oC goes109 ((take_law s hE hk).x ?_);
 rintro _ _ _ ⟨rfl,rfl,rfl⟩
 refine uA ?_
 unfold PE.step
 cases hb : Ps.isM s E.f k with
 | true =>
  refine uA ?_
  refine cI rfl (L':=E.I (k + 1) h :: L) uS ⟨rfl,rfl,rfl,rfl⟩
 | false =>
  refine uA ?_
  refine oC goes146 (cD (stop_law hE hk) (fun _ _ _ hf=>hf.elim) ?_)
  rintro _ _ _ ⟨rfl,rfl,rfl⟩
  skip
  exact retQ_p (L':=E.I k h :: L) uS ⟨rfl,rfl,rfl,rfl⟩
theorem pname_law (hE : E.Ok m) (hk : k ≤ E.toks.length) : TCallX Tryz.prog 112 ⟨[E.v]⟩ m (E.I k h :: L)
  (fun v m' L'=>m' = m ∧ ∃ t,E.f k=some t∧t.kind=1∧v=strV t.text∧k + 1 ≤ E.toks.length∧L' = E.I (k + 1) h :: L) (fun ch m' L'=>m' = m∧Ps.isK 1 E.f k=false∧ch=E.flt k∧L' = E.I k h :: L):=by
 refine cJ Tryz.func112 rfl 27 rfl ?_
 have hlen:=hE.rep.len
 have hfew:=hE.few
 refine uA ?_
 refine oC goes147 ((is_law 1 hE hk).x ?_);
 rintro _ _ _ ⟨rfl,rfl,rfl⟩
 refine uA ?_
 cases hb : Ps.isK 1 E.f k with
 | true =>
  have hlt:=PE.isK_lt hb
  have hx : E.toks[k]? = some E.toks[k]:=bw hlt
  have hkind : E.toks[k].kind=1:=by rw [PE.isK hlt] at hb;simpa using hb
  refine uA ?_
  refine uM ?_
  refine qs rfl (OT.arith (r':=((k + 1 : Nat) : Int)) rfl rfl rfl rfl rfl rfl rfl (by omega) ?_)
  refine uA ?_
  refine qs rfl (cN (k:=2) tab 0 rfl rfl rfl rfl rfl rfl rfl rfl ?_)
  refine uA ?_
  refine TC.draw0 [] dc 13 rfl ?_
  refine cT tab uC uK [0,1,2] uK rfl ?_
  refine DO.loadL tab 3 0 uC uK uK rfl rfl rfl rfl rfl rfl rfl rfl ?_
  refine cT tab uC uK [4,5,6] uK rfl ?_
  refine DO.loadL tab 7 0 uC uK uK rfl rfl rfl rfl rfl rfl rfl rfl ?_
  refine DO.arith 8 (r':=((k : Nat) : Int)) uC uK uK rfl rfl rfl rfl rfl rfl rfl rfl (by first | rfl | omega | (simp only;omega)) (by omega) ?_
  refine DO.index tab rTok 9 k hE.rep uC uK uK rfl rfl rfl rfl rfl rfl rfl (by first | rfl | omega) rfl hx ?_
  rintro b i hd hr hA;obtain rfl:=(show hd=E.toks[k] from hr)
  refine cT tab uC uK [10] uK rfl ?_
  refine DO.loadA tab 11 hA uC uK uK rfl rfl rfl rfl rfl rfl rfl ?_
  refine cT tab uC uK [12] uK rfl ?_
  refine DO.nil0 uK ?_
  rotate_left 1
  refine uA ?_
  refine cH rfl (L':=E.I (k + 1) h :: L) uS ⟨rfl,_,PE.f_some hlt,hkind,rfl,hlt,rfl⟩
 | false =>
  refine uA ?_
  refine oC goes146 (cD (stop_law hE hk) (fun _ _ _ hf=>hf.elim) ?_)
  rintro _ _ _ ⟨rfl,rfl,rfl⟩
  repeat (refine thenQ_p ?_)
  exact retQ_p (L':=E.I k h :: L) uS ⟨rfl,rfl,rfl,rfl⟩
end
section
variable {P:Program} {N:Nat} {ρ:Env} {m:Mem} {L:List Item} {Q:EPost} {o:Oper} {K:Env→Mem→List Item→Prop} {E:PE} {α β:Type}
 {FF:Operand} {args:List Operand} {ats:Array TypeId} {first cap vs:List Value} {d:Nat} {h:Int} {T:Ps.Res β} {k:Nat} {m0:Mem} {L0:List Item} {s:Str} {A B:Ps.Pp β}
theorem OT.takeP {D:List Deferred} (hT:T=Ps.tok s A B E.f k) (hE:E.Ok m) (hk:k≤E.toks.length)
  (ho:o.op = .call ⟨.value FF,⟨args⟩,ats⟩) (hd:o.dst=some d) (hN:Nat.blt d N=true)
  (hF:ev ρ FF=some (.func (.func 109) ⟨first⟩ ⟨cap⟩)) (ha:evs ρ args=some vs) (hall:fl (first++(vs++cap))=some [E.v,strV s])
  (h1:T=A E.f (k+1)→k+1≤E.toks.length→K ((d,.bool true)::ρ) m (E.I (k+1) h::L)) (h2:T=B E.f k→K ((d,.bool false)::ρ) m (E.I k h::L)):OT Tryz.prog N o ρ D m (E.I k h::L) Q K:=by
 refine cQ ho hd hN hF ha hall goes109 ((take_law s hE hk).x ?_);refine lz ?_;unfold PE.step;cases hb:Ps.isM s E.f k with
 | true=>exact h1 (hT.trans (Ps.tok_t hb)) (PE.isM_lt hb)
 | false=>exact h2 (hT.trans (Ps.tok_f hb))
theorem OT.peekP {D:List Deferred} (hT:T=Ps.peek (Ps.isM s) A B E.f k) (hE:E.Ok m) (hk:k≤E.toks.length)
  (ho:o.op = .call ⟨.value FF,⟨args⟩,ats⟩) (hd:o.dst=some d) (hN:Nat.blt d N=true)
  (hF:ev ρ FF=some (.func (.func 144) ⟨first⟩ ⟨cap⟩)) (ha:evs ρ args=some vs) (hall:fl (first++(vs++cap))=some [E.v,strV s])
  (h1:T=A E.f k→K ((d,.bool true)::ρ) m (E.I k h::L)) (h2:T=B E.f k→K ((d,.bool false)::ρ) m (E.I k h::L)):OT Tryz.prog N o ρ D m (E.I k h::L) Q K:=by
 refine cQ ho hd hN hF ha hall goes144 ((peek_law s hE hk).x ?_);refine lz ?_;cases hb:Ps.isM s E.f k with
 | true=>exact h1 (hT.trans (Ps.peek_t' hb))
 | false=>exact h2 (hT.trans (Ps.peek_f' hb))
theorem OT.needP (hT:T=Ps.need s A E.f k) (hE:E.Ok m) (hk:k≤E.toks.length) (hb:Bad Q E T m0 L0) (hm:m0≤m) (hL:L0.Sublist L)
  (ho:o.op = .call ⟨.value FF,⟨args⟩,ats⟩) (hd:o.dst=some d) (hN:Nat.blt d N=true)
  (hF:ev ρ FF=some (.func (.func 111) ⟨first⟩ ⟨cap⟩)) (ha:evs ρ args=some vs) (hall:fl (first++(vs++cap))=some [E.v,strV s])
  (hK:T=A E.f (k+1)→k+1≤E.toks.length→K ((d,.tuple ⟨[]⟩)::ρ) m (E.I (k+1) h::L)):OT Tryz.prog N o ρ [] m (E.I k h::L) Q K:=by
 refine cQ ho hd hN hF ha hall goes111 (cD (need_law s hE hk) ?_ ?_)
 ·rintro _ _ _ ⟨rfl,rfl,h1,rfl⟩;exact hK (hT.trans (Ps.tok_t h1)) (PE.isM_lt h1)
 ·rintro _ _ _ ⟨rfl,h1,rfl,rfl⟩;exact hb _ _ _ _ _ hm hk (hT.trans (Ps.tok_f h1)) hL
theorem OT.stopP (hT : T = .bad k) (hE : E.Ok m) (hk : k ≤ E.toks.length) (hb : Bad Q E T m0 L0) (hm : m0 ≤ m) (hL : L0.Sublist L)
  (ho : o.op = .call ⟨.value FF,⟨args⟩,ats⟩) (hd : o.dst=some d) (hN : Nat.blt d N=true)
  (hF : ev ρ FF=some (.func (.func 146) ⟨first⟩ ⟨cap⟩)) (ha : evs ρ args=some vs) (hall : fl (first++(vs++cap))=some [E.v]) : OT Tryz.prog N o ρ [] m (E.I k h :: L) Q K:=by
 refine cQ ho hd hN hF ha hall goes146 (cD (stop_law hE hk) (fun _ _ _ hf=>hf.elim) ?_)
 rintro _ _ _ ⟨rfl,rfl,rfl⟩
 exact hb _ _ _ _ _ hm hk hT hL
theorem OT.nameP {A:Str→Ps.Pp β} (hT:T=Ps.name A E.f k) (hE:E.Ok m) (hk:k≤E.toks.length) (hb:Bad Q E T m0 L0) (hm:m0≤m) (hL:L0.Sublist L)
  (ho:o.op = .call ⟨.value FF,⟨args⟩,ats⟩) (hd:o.dst=some d) (hN:Nat.blt d N=true)
  (hF:ev ρ FF=some (.func (.func 112) ⟨first⟩ ⟨cap⟩)) (ha:evs ρ args=some vs) (hall:fl (first++(vs++cap))=some [E.v])
  (hK:∀ t:Str,T=A t E.f (k+1)→k+1≤E.toks.length→K ((d,strV t)::ρ) m (E.I (k+1) h::L)):OT Tryz.prog N o ρ [] m (E.I k h::L) Q K:=by
 refine cQ ho hd hN hF ha hall goes112 (cD (pname_law hE hk) ?_ ?_)
 ·rintro _ _ _ ⟨rfl,t,h1,h2,rfl,h3,rfl⟩;exact hK _ (hT.trans (Ps.name_t h1 h2)) h3
 ·rintro _ _ _ ⟨rfl,h1,rfl,rfl⟩;exact hb _ _ _ _ _ hm hk (hT.trans (Ps.name_f h1)) hL
end
end Go.Sep
namespace Go
abbrev dt := @Sep.OT.takeP
end Go
namespace Go.Ps
open Go.Sep (Tree Str)
variable {α β γ:Type}
theorem bind_assoc (p:Pp α) (g:α→Pp β) (h:β→Pp γ):bind (bind p g) h=bind p fun a=>bind (g a) h:=by
 funext f k;unfold bind
 cases p f k<;>rfl
theorem ret_bind (a:α) (g:α→Pp β):bind (ret a) g=g a:=rfl
theorem bind_ret (p:Pp α):bind p ret=p:=by
 funext f k;unfold bind
 cases p f k<;>rfl
theorem dry_bind (g:α→Pp β):bind dry g=dry:=rfl
theorem tok_bind (s:Str) (A B:Pp α) (g:α→Pp β):bind (tok s A B) g=tok s (bind A g) (bind B g):=by
 funext f k;unfold tok bind
 cases h:isM s f k<;>simp only[h,cy,cx]
theorem need_bind (s:Str) (A:Pp α) (g:α→Pp β):bind (need s A) g=need s (bind A g):=by
 unfold need;rw[tok_bind];rfl
theorem tkn_bind (c:Int) (A:Tk→Pp α) (B:Pp α) (g:α→Pp β):bind (tkn c A B) g=tkn c (fun t=>bind (A t) g) (bind B g):=by
 funext f k;unfold tkn bind;simp only[]
 cases f k with
 | none=>rfl
 | some t=>cases h:decide (t.kind=c)<;>simp only[h,cy,cx]
theorem name_bind (A:Str→Pp α) (g:α→Pp β):bind (name A) g=name fun s=>bind (A s) g:=by
 unfold name;rw[tkn_bind];rfl
def more (j:Nat) (X:Pp α) (acc:List α):Pp (List α):=tok [44] (bind (commas j X) fun l=>ret (acc++l)) (ret acc)
theorem commas_acc (j:Nat) (X:Pp α) (acc:List α):(bind (commas (j+1) X) fun l=>ret (acc++l))=bind X fun a=>more j X (acc++[a]):=by
 show bind (bind X _) _=_;rw[bind_assoc]
 congr 1;funext a
 rw[tok_bind,bind_assoc];unfold more
 congr 1
 congr 1;funext l
 exact iF
theorem commas_start (j:Nat) (X:Pp α):commas (j+1) X=bind X fun a=>more j X [a]:=by
 have h:=commas_acc j X ([]:List α);simp only[List.nil_append]at h;rw[←h,bind_ret]
theorem more_zero (X:Pp α) (acc:List α):more 0 X acc=tok [44] dry (ret acc):=rfl
theorem more_succ (j:Nat) (X:Pp α) (acc:List α):more (j+1) X acc=tok [44] (bind X fun a=>more j X (acc++[a])) (ret acc):=by
 rw[←commas_acc];rfl
def rest (j:Nat) (s:Str) (X:Pp α) (acc:List α):Pp (List α):=bind (upto j s X) fun l=>ret (acc++l)
theorem rest_start (j:Nat) (s:Str) (X:Pp α):upto j s X=rest j s X []:=by unfold rest;exact(bind_ret _).symm
theorem rest_zero (s:Str) (X:Pp α) (acc:List α):rest 0 s X acc=dry:=rfl
theorem rest_succ (j:Nat) (s:Str) (X:Pp α) (acc:List α):rest (j+1) s X acc=tok s (ret acc) (bind X fun a=>rest j s X (acc++[a])):=by
 unfold rest;show bind (tok s (ret []) _) _=_;rw[tok_bind,bind_assoc,ret_bind,cg]
 congr 1
 congr 1;funext a
 rw[bind_assoc]
 congr 1;funext l
 exact iF
def decls (decl:Pp Tree) (j:Nat) (acc:List Tree):Pp (List Tree):=bind (progL decl j) fun l=>ret (acc++l)
theorem decls_start (decl:Pp Tree) (j:Nat):progL decl j=decls decl j []:=by unfold decls;exact(bind_ret _).symm
theorem decls_none {decl:Pp Tree} {j:Nat} {acc:List Tree} {f:F} {k:Nat} (h:f k=none):decls decl (j+1) acc f k = .ok acc k:=by
 have:progL decl (j+1) f k = .ok [] k:=by unfold progL;rw[h];rfl
 unfold decls bind;rw[this];show Res.ok (acc++[]) k=_;rw[cg]
theorem decls_some {decl:Pp Tree} {j:Nat} {acc:List Tree} {f:F} {k:Nat} (h:f k≠none):decls decl (j+1) acc f k=(bind decl fun a=>decls decl j (acc++[a])) f k:=by
 have:progL decl (j+1) f k=(bind decl fun a=>bind (progL decl j) fun l=>ret (a::l)) f k:=by
  show(bif (f k).isNone then _ else _)=_;cases hf:f k with
  | none=>exact absurd hf h
  | some t=>rfl
 have e:decls decl (j+1) acc f k=bind (bind decl fun a=>bind (progL decl j) fun l=>ret (a::l)) (fun l=>ret (acc++l)) f k:=by
  unfold decls;unfold bind at this ⊢;simp only[]at this ⊢;rw[this]
 rw[e,bind_assoc]
 congr 1;congr 1;funext a
 rw[bind_assoc];unfold decls
 congr 1;funext l
 exact iF
end Go.Ps
