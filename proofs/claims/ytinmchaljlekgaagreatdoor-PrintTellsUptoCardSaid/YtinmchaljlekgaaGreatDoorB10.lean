/- PtExW -/
import Derived.Test.YtinmchaljlekgaaGreatDoorB9
set_option linter.unusedVariables false
set_option linter.unusedSimpArgs false
set_option maxHeartbeats 6400000
namespace Go.Sep
open Go.Proofs
attribute [local irreducible] TC TO OT TCallX TCall DO DOt thenQ blockQ retQ At
section
variable {Tb : Mem→Prop}
theorem expr_w (hTb : TbOk Tb) (hI : ∀ (m : Mem) (L : List Item) (n : Int),Tb m→0 ≤ n→n < 9223372036854775808→TCall Tryz.prog 86 ⟨[.int .i64 n]⟩ m L (Made m L fun r _=>r=strV (Pt.digN n.toNat)))
  (a : Tree) (ih : ∀ k ∈ a.kids,PT Tb k) (hnum : Pt.numB2 a=true) (he : exprS lim a=true) : Pw Tb 46 a:=by
 have hmore:=more_w hTb a ih hnum he
 intro m L bd q s x0 h hT0 hB hr hl
 obtain ⟨h1,h2,h3,h4⟩:=hr
 have hlen:=h4.len
 have hsm:=h4.small rfl
 have hm:=bm m
 have hT : TbM Tb m:=⟨fun h=>hTb.mono hT0 h⟩
 obtain ⟨k,n0,u0,ks⟩:=a
 obtain ⟨hk,hn,hu,hks⟩:=h
 simp only [Tree.kind,Tree.name,Tree.num,Tree.kids] at h1 h2 h3 h4 hlen hsm ih
 subst h1 h2 h3
 have hE : ∀ x ∈ ks,lim.expr x=true→Pw Tb 46 x:=fun x hx h=>(ih x hx).expr (Pt.num_kid hnum (by simpa [Tree.kids] using hx)) h
 by_cases e : hk=40
 ·subst e
  have hf : (bareB (.mk 40 hn hu ks) (decide (0 ≤ hu)) false true && kidsR [] none ks)=true:=he
  rw [aj] at hf
  have hu0:=of_decide_eq_true (Pt.bare_f hf.1).1
  have hu1:=Pt.num_int hnum
  have et : Pt.toks (.mk 40 hn hu ks)=[⟨2,[],hu⟩]:=by rw [Pt.toks_eq];rfl
  rw [et] at hl
  try simp only [cv,aa] at hl
  unfold TCall
  refine bw Tryz.func46 rfl 104 rfl ?_
  refine uA ?_
  refine oB (fun b => ?_)
  refine bD pq3 ?_
  refine uL ?_
  refine oC goes86 ((hI _ _ hu (hT.mono hm) hu0 hu1).x ?_);
  rintro _ m1 _ ⟨hm1,rfl,rfl⟩
  replace hm:=bn hm hm1
  replace hB:=hB.mono hm1
  refine uA ?_
  refine qs rfl (cq tab rStr (hs:=[Pt.digN hu.toNat]) (l:=[Pt.digN hu.toNat]) ⟨rfl,trivial⟩ rfl rfl rfl rfl rfl (by decide) (fun sl ma hma hsl _ _ => ?_))
  replace hm:=bn hm hma
  replace hB:=hB.mono hma
  refine uA ?_
  refine oC ct ((cw _ _ bd q s _ hB sl [⟨2,[],hu⟩] hsl (by first | omega | (simp only [aa];omega))).x ?_);
  rintro _ m1 _ ⟨hm1,s,q,rfl,hB⟩
  replace hm:=bn hm hm1
  clear hm1 hma hsl
  refine uA ?_
  refine bv rfl uS ⟨hm,s,q,rfl,hB.cast ?_⟩
  rw [et];try simp only [cv,am]
 by_cases e : hk=41
 ·subst e
  have hf : (bareB (.mk 41 hn hu ks) (decide ((hn.length : Int) ≤ 1024)) true false && kidsR [] none ks)=true:=he
  rw [aj] at hf
  have hl1:=of_decide_eq_true (Pt.bare_f hf.1).1
  have et : Pt.toks (.mk 41 hn hu ks)=[⟨3,hn,0⟩]:=by rw [Pt.toks_eq];rfl
  rw [et] at hl
  try simp only [cv,aa] at hl
  unfold TCall
  refine bw Tryz.func46 rfl 104 rfl ?_
  refine uA ?_
  refine oB (fun b => ?_)
  refine bD pq3 ?_
  refine uL ?_
  refine oC goes87 ((quote_law _ _ hn (by omega)).x ?_);
  rintro _ _ _ ⟨rfl,rfl,rfl⟩
  refine uA ?_
  refine qs rfl (cq tab rStr (hs:=[quoteD hn]) (l:=[quoteD hn]) ⟨rfl,trivial⟩ rfl rfl rfl rfl rfl (by decide) (fun sl ma hma hsl _ _ => ?_))
  replace hm:=bn hm hma
  replace hB:=hB.mono hma
  refine uA ?_
  refine oC ct ((cw _ _ bd q s _ hB sl [⟨3,hn,0⟩] hsl (by first | omega | (simp only [aa];omega))).x ?_);
  rintro _ m1 _ ⟨hm1,s,q,rfl,hB⟩
  replace hm:=bn hm hm1
  clear hm1 hma hsl
  refine uA ?_
  refine bv rfl uS ⟨hm,s,q,rfl,hB.cast ?_⟩
  rw [et];try simp only [cv,am]
 by_cases e : hk=42
 ·subst e
  have hf : (bareB (.mk 42 hn hu ks) (decide (hu / 2=0)) false true && kidsR [] none ks)=true:=he
  rw [aj] at hf
  have hu2:=of_decide_eq_true (Pt.bare_f hf.1).1
  have hu3 : hu=0 ∨ hu=1:=by omega
  rcases hu3 with rfl | rfl
  ·skip
   have et : Pt.toks (.mk 42 hn 0 ks)=[Pt.wd [102,97,108,115,101]]:=by rw [Pt.toks_eq];rfl
   rw [et] at hl
   try simp only [cv,aa] at hl
   unfold TCall
   refine bw Tryz.func46 rfl 104 rfl ?_
   refine uA ?_
   refine oB (fun b => ?_)
   refine bD pq3 ?_
   refine uL ?_
   refine qs rfl (cq tab rStr (hs:=[[102,97,108,115,101],[116,114,117,101]]) (l:=[[102,97,108,115,101],[116,114,117,101]]) ⟨rfl,rfl,trivial⟩ rfl rfl rfl rfl rfl (by decide) (fun sl0 ma hma hsl0 _ _ => ?_))
   replace hm:=bn hm hma
   replace hB:=hB.mono hma
   refine uL ?_
   have hbi : ([[102,97,108,115,101],[116,114,117,101]] : List Str)[0]? = some [102,97,108,115,101]:=rfl
   refine qs rfl (bO tab rStr 0 hsl0 rfl rfl rfl rfl rfl (by first | rfl | omega | (simp only;omega)) rfl hbi ?_)
   rintro b7 i7 v7 hv7 hA7
   obtain rfl : v7=[102,97,108,115,101]:=hv7
   (refine oL tab hA7 ?_)
   refine uA ?_
   refine qs rfl (cq tab rStr (hs:=[[102,97,108,115,101]]) (l:=[[102,97,108,115,101]]) ⟨rfl,trivial⟩ rfl rfl rfl rfl rfl (by decide) (fun sl ma hma hsl _ _ => ?_))
   replace hm:=bn hm hma
   replace hB:=hB.mono hma
   refine uA ?_
   refine oC ct ((cw _ _ bd q s _ hB sl [Pt.wd [102,97,108,115,101]] hsl (by first | omega | (simp only [aa];omega))).x ?_);
   rintro _ m1 _ ⟨hm1,s,q,rfl,hB⟩
   replace hm:=bn hm hm1
   clear hm1 hma hsl
   refine uA ?_
   refine bv rfl uS ⟨hm,s,q,rfl,hB.cast ?_⟩
   rw [et];try simp only [cv,am]
  ·skip
   have et : Pt.toks (.mk 42 hn 1 ks)=[Pt.wd [116,114,117,101]]:=by rw [Pt.toks_eq];rfl
   rw [et] at hl
   try simp only [cv,aa] at hl
   unfold TCall
   refine bw Tryz.func46 rfl 104 rfl ?_
   refine uA ?_
   refine oB (fun b => ?_)
   refine bD pq3 ?_
   refine uL ?_
   refine qs rfl (cq tab rStr (hs:=[[102,97,108,115,101],[116,114,117,101]]) (l:=[[102,97,108,115,101],[116,114,117,101]]) ⟨rfl,rfl,trivial⟩ rfl rfl rfl rfl rfl (by decide) (fun sl0 ma hma hsl0 _ _ => ?_))
   replace hm:=bn hm hma
   replace hB:=hB.mono hma
   refine uL ?_
   have hbi : ([[102,97,108,115,101],[116,114,117,101]] : List Str)[1]? = some [116,114,117,101]:=rfl
   refine qs rfl (bO tab rStr 1 hsl0 rfl rfl rfl rfl rfl (by first | rfl | omega | (simp only;omega)) rfl hbi ?_)
   rintro b7 i7 v7 hv7 hA7
   obtain rfl : v7=[116,114,117,101]:=hv7
   (refine oL tab hA7 ?_)
   refine uA ?_
   refine qs rfl (cq tab rStr (hs:=[[116,114,117,101]]) (l:=[[116,114,117,101]]) ⟨rfl,trivial⟩ rfl rfl rfl rfl rfl (by decide) (fun sl ma hma hsl _ _ => ?_))
   replace hm:=bn hm hma
   replace hB:=hB.mono hma
   refine uA ?_
   refine oC ct ((cw _ _ bd q s _ hB sl [Pt.wd [116,114,117,101]] hsl (by first | omega | (simp only [aa];omega))).x ?_);
   rintro _ m1 _ ⟨hm1,s,q,rfl,hB⟩
   replace hm:=bn hm hm1
   clear hm1 hma hsl
   refine uA ?_
   refine bv rfl uS ⟨hm,s,q,rfl,hB.cast ?_⟩
   rw [et];try simp only [cv,am]
 by_cases e : hk=43
 ·subst e
  have et : Pt.toks (.mk 43 hn hu ks)=[Pt.wd [110,105,108]]:=by rw [Pt.toks_eq];rfl
  rw [et] at hl
  try simp only [cv,aa] at hl
  unfold TCall
  refine bw Tryz.func46 rfl 104 rfl ?_
  refine uA ?_
  refine oB (fun b => ?_)
  refine bD pq3 ?_
  refine uL ?_
  refine qs rfl (cq tab rStr (hs:=[[110,105,108]]) (l:=[[110,105,108]]) ⟨rfl,trivial⟩ rfl rfl rfl rfl rfl (by decide) (fun sl ma hma hsl _ _ => ?_))
  replace hm:=bn hm hma
  replace hB:=hB.mono hma
  refine uA ?_
  refine oC ct ((cw _ _ bd q s _ hB sl [Pt.wd [110,105,108]] hsl (by first | omega | (simp only [aa];omega))).x ?_);
  rintro _ m1 _ ⟨hm1,s,q,rfl,hB⟩
  replace hm:=bn hm hm1
  clear hm1 hma hsl
  refine uA ?_
  refine bv rfl uS ⟨hm,s,q,rfl,hB.cast ?_⟩
  rw [et];try simp only [cv,am]
 by_cases e : hk=44
 ·subst e
  have et : Pt.toks (.mk 44 hn hu ks)=[Pt.nm hn]:=by rw [Pt.toks_eq];rfl
  rw [et] at hl
  try simp only [cv,aa] at hl
  unfold TCall
  refine bw Tryz.func46 rfl 104 rfl ?_
  refine uA ?_
  refine oB (fun b => ?_)
  refine bD pq3 ?_
  refine uL ?_
  refine qs rfl (cq tab rStr (hs:=[hn]) (l:=[hn]) ⟨rfl,trivial⟩ rfl rfl rfl rfl rfl (by decide) (fun sl ma hma hsl _ _ => ?_))
  replace hm:=bn hm hma
  replace hB:=hB.mono hma
  refine uA ?_
  refine oC ct ((cw _ _ bd q s _ hB sl [Pt.nm hn] hsl (by first | omega | (simp only [aa];omega))).x ?_);
  rintro _ m1 _ ⟨hm1,s,q,rfl,hB⟩
  replace hm:=bn hm hm1
  clear hm1 hma hsl
  refine uA ?_
  refine bv rfl uS ⟨hm,s,q,rfl,hB.cast ?_⟩
  rw [et];try simp only [cv,am]
 by_cases e : hk=45
 ·subst e
  have hf : (ofB (.mk 45 hn hu ks) 45 && ks.all lim.expr)=true:=he
  rw [aj] at hf
  have hpr : ∀ k ∈ ks,Pw Tb 46 k:=fun k hk=>hE k hk (List.all_eq_true.1 hf.2 k hk)
  have et : Pt.toks (.mk 45 hn hu ks)=[Pt.mk [40],Pt.nm hn,Pt.mk [123]]++(Pt.commaJ (ks.map Pt.toks)++[Pt.mk [125],Pt.mk [41]]):=by rw [Pt.toks_eq];rfl
  rw [et] at hl
  try simp only [cv,aa] at hl
  unfold TCall
  refine bw Tryz.func46 rfl 104 rfl ?_
  refine uA ?_
  refine oB (fun b => ?_)
  refine bD pq3 ?_
  refine uL ?_
  refine qs rfl (cq tab rStr (hs:=[[40],hn,[123]]) (l:=[[40],hn,[123]]) ⟨rfl,rfl,rfl,trivial⟩ rfl rfl rfl rfl rfl (by decide) (fun sl ma hma hsl _ _ => ?_))
  replace hm:=bn hm hma
  replace hB:=hB.mono hma
  refine uA ?_
  refine oC ct ((cw _ _ bd q s _ hB sl [Pt.mk [40],Pt.nm hn,Pt.mk [123]] hsl (by first | omega | (simp only [aa];omega))).x ?_);
  rintro _ m1 _ ⟨hm1,s,q,rfl,hB⟩
  replace hm:=bn hm hm1
  clear hm1 hma hsl
  refine uL ?_
  have h4d:=h4.mono hm
  refine oC goes88 ((each_law (Cbk.of hTb hpr goes46 (hT.mono hm)) _ _ (bm _) q s _ hB hks h4d (by first | omega | (simp only [aa];omega))).x ?_);
  rintro _ m1 _ ⟨hm1,s,q,rfl,hB⟩
  replace hm:=bn hm hm1
  refine uA ?_
  refine qs rfl (cq tab rStr (hs:=[[125],[41]]) (l:=[[125],[41]]) ⟨rfl,rfl,trivial⟩ rfl rfl rfl rfl rfl (by decide) (fun sl ma hma hsl _ _ => ?_))
  replace hm:=bn hm hma
  replace hB:=hB.mono hma
  refine uA ?_
  refine oC ct ((cw _ _ bd q s _ hB sl [Pt.mk [125],Pt.mk [41]] hsl (by first | omega | (simp only [aa];omega))).x ?_);
  rintro _ m1 _ ⟨hm1,s,q,rfl,hB⟩
  replace hm:=bn hm hm1
  clear hm1 hma hsl
  refine uA ?_
  refine bv rfl uS ⟨hm,s,q,rfl,hB.cast ?_⟩
  rw [et];try simp only [cv,am]
 by_cases e : hk=46
 ·subst e
  have hf : (bareB (.mk 46 hn hu ks) true false false && kidsR [Tree.isType] (some lim.expr) ks)=true:=he
  rw [aj] at hf
  obtain ⟨x,r,rfl,hx,hr⟩:=Pt.kidsS hf.2
  have px:=typ_w hTb x hx
  have hxi : (x :: r)[0]? = some x:=rfl
  have hpr : ∀ k ∈ r,Pw Tb 46 k:=fun k hk=>hE k (by simp [hk]) (hr k hk)
  have et : Pt.toks (.mk 46 hn hu (x :: r))=[Pt.mk [91],Pt.mk [93]]++(Pt.toks x++([Pt.mk [123]]++(Pt.commaJ (r.map Pt.toks)++[Pt.mk [125]]))):=by rw [Pt.toks_eq];rfl
  rw [et] at hl
  try simp only [cv,aa] at hl
  unfold TCall
  refine bw Tryz.func46 rfl 104 rfl ?_
  refine uA ?_
  refine oB (fun b => ?_)
  refine bD pq3 ?_
  refine uL ?_
  refine qs rfl (cq tab rStr (hs:=[[91],[93]]) (l:=[[91],[93]]) ⟨rfl,rfl,trivial⟩ rfl rfl rfl rfl rfl (by decide) (fun sl ma hma hsl _ _ => ?_))
  replace hm:=bn hm hma
  replace hB:=hB.mono hma
  refine uA ?_
  refine oC ct ((cw _ _ bd q s _ hB sl [Pt.mk [91],Pt.mk [93]] hsl (by first | omega | (simp only [aa];omega))).x ?_);
  rintro _ m1 _ ⟨hm1,s,q,rfl,hB⟩
  replace hm:=bn hm hm1
  clear hm1 hma hsl
  refine uL ?_
  have h4c:=h4.mono hm
  refine qs rfl (bO tab rTree 0 h4c rfl rfl rfl rfl rfl (by first | rfl | omega | (simp only;omega)) rfl hxi ?_)
  rintro b7 i7 h7 hr7 hA7
  (refine oL tab hA7 ?_)
  refine uA ?_
  refine oC goes65 ((px _ _ bd q s _ h7 (hT.mono hm) hB (rTree_iff.1 hr7) (by first | omega | (simp only [aa];omega))).x ?_);
  rintro _ m1 _ ⟨hm1,s,q,rfl,hB⟩
  replace hm:=bn hm hm1
  clear hm1 h4c hr7 hA7
  refine uL ?_
  refine qs rfl (cq tab rStr (hs:=[[123]]) (l:=[[123]]) ⟨rfl,trivial⟩ rfl rfl rfl rfl rfl (by decide) (fun sl ma hma hsl _ _ => ?_))
  replace hm:=bn hm hma
  replace hB:=hB.mono hma
  refine uA ?_
  refine oC ct ((cw _ _ bd q s _ hB sl [Pt.mk [123]] hsl (by first | omega | (simp only [aa];omega))).x ?_);
  rintro _ m1 _ ⟨hm1,s,q,rfl,hB⟩
  replace hm:=bn hm hm1
  clear hm1 hma hsl
  refine uL ?_
  have h4d:=h4.mono hm
  refine qs rfl (OT.cut tab rTree 1 hks.len h4d rfl rfl rfl rfl rfl rfl rfl (.inr rfl) (.inl ⟨rfl,rfl⟩) (by simp only [ab] at hlen;omega) (by omega) (fun slr hslr => ?_))
  rw [aT (by omega),List.drop_succ_cons,bk] at hslr
  refine uA ?_
  refine oC goes88 ((each_law (Cbk.of hTb hpr goes46 (hT.mono hm)) _ _ (bm _) q s _ hB slr hslr (by first | omega | (simp only [aa];omega))).x ?_);
  rintro _ m1 _ ⟨hm1,s,q,rfl,hB⟩
  replace hm:=bn hm hm1
  refine uA ?_
  refine qs rfl (cq tab rStr (hs:=[[125]]) (l:=[[125]]) ⟨rfl,trivial⟩ rfl rfl rfl rfl rfl (by decide) (fun sl ma hma hsl _ _ => ?_))
  replace hm:=bn hm hma
  replace hB:=hB.mono hma
  refine uA ?_
  refine oC ct ((cw _ _ bd q s _ hB sl [Pt.mk [125]] hsl (by first | omega | (simp only [aa];omega))).x ?_);
  rintro _ m1 _ ⟨hm1,s,q,rfl,hB⟩
  replace hm:=bn hm hm1
  clear hm1 hma hsl
  refine uA ?_
  refine bv rfl uS ⟨hm,s,q,rfl,hB.cast ?_⟩
  rw [et];try simp only [cv,am]
 by_cases e : hk=47
 ·subst e
  have hf : (bareB (.mk 47 hn hu ks) true false false && kidsR [Tree.isSig,lim.block] none ks)=true:=he
  rw [aj] at hf
  obtain ⟨x,y,rfl,hx,hy⟩:=Pt.kids2 hf.2
  have px:=sig_w hTb x hx
  have py:=(ih y (by simp)).block (Pt.num_kid hnum (by simp [Tree.kids])) hy
  have hxi : [x,y][0]? = some x:=rfl
  have hyi : [x,y][1]? = some y:=rfl
  have et : Pt.toks (.mk 47 hn hu [x,y])=[Pt.wd [102,117,110,99]]++(Pt.toks x++Pt.toks y):=by rw [Pt.toks_eq];rfl
  rw [et] at hl
  try simp only [cv,aa] at hl
  unfold TCall
  refine bw Tryz.func46 rfl 104 rfl ?_
  refine uA ?_
  refine oB (fun b => ?_)
  refine bD pq3 ?_
  refine uL ?_
  refine qs rfl (cq tab rStr (hs:=[[102,117,110,99]]) (l:=[[102,117,110,99]]) ⟨rfl,trivial⟩ rfl rfl rfl rfl rfl (by decide) (fun sl ma hma hsl _ _ => ?_))
  replace hm:=bn hm hma
  replace hB:=hB.mono hma
  refine uA ?_
  refine oC ct ((cw _ _ bd q s _ hB sl [Pt.wd [102,117,110,99]] hsl (by first | omega | (simp only [aa];omega))).x ?_);
  rintro _ m1 _ ⟨hm1,s,q,rfl,hB⟩
  replace hm:=bn hm hm1
  clear hm1 hma hsl
  refine uL ?_
  have h4c:=h4.mono hm
  refine qs rfl (bO tab rTree 0 h4c rfl rfl rfl rfl rfl (by first | rfl | omega | (simp only;omega)) rfl hxi ?_)
  rintro b7 i7 h7 hr7 hA7
  (refine oL tab hA7 ?_)
  refine uA ?_
  refine oC goes66 ((px _ _ bd q s _ h7 (hT.mono hm) hB (rTree_iff.1 hr7) (by first | omega | (simp only [aa];omega))).x ?_);
  rintro _ m1 _ ⟨hm1,s,q,rfl,hB⟩
  replace hm:=bn hm hm1
  clear hm1 h4c hr7 hA7
  refine uL ?_
  have h4c:=h4.mono hm
  refine qs rfl (bO tab rTree 1 h4c rfl rfl rfl rfl rfl (by first | rfl | omega | (simp only;omega)) rfl hyi ?_)
  rintro b7 i7 h7 hr7 hA7
  (refine oL tab hA7 ?_)
  refine uA ?_
  refine oC goes68 ((py _ _ bd q s _ h7 (hT.mono hm) hB (rTree_iff.1 hr7) (by first | omega | (simp only [aa];omega))).x ?_);
  rintro _ m1 _ ⟨hm1,s,q,rfl,hB⟩
  replace hm:=bn hm hm1
  clear hm1 h4c hr7 hA7
  refine uA ?_
  refine bv rfl uS ⟨hm,s,q,rfl,hB.cast ?_⟩
  rw [et];try simp only [cv,am]
 have hk48 : 48 ≤ hk:=by
  unfold exprS at he
  simp only [Tree.kind] at he
  by_cases h2 : 48 ≤ hk
  ·exact h2
  exfalso
  have n1 : ¬ hk=48:=by omega
  have n2 : ¬ hk=49:=by omega
  have n3 : ¬ hk=50:=by omega
  have n4 : ¬ hk=51:=by omega
  have n5 : ¬ hk=52:=by omega
  have n6 : ¬ hk=53:=by omega
  simp [*] at he
 unfold TCall
 refine bw Tryz.func46 rfl 104 rfl ?_
 refine uA ?_
 refine oB (fun b => ?_)
 refine bD pq3 ?_
 refine uL ?_
 refine bq rfl (fun c40 => ?_) (fun c40 => ?_)
 ·exact absurd c40 (show ¬ hk=40 by omega)
 refine uL ?_
 refine bq rfl (fun c41 => ?_) (fun c41 => ?_)
 ·exact absurd c41 (show ¬ hk=41 by omega)
 refine uL ?_
 refine bq rfl (fun c42 => ?_) (fun c42 => ?_)
 ·exact absurd c42 (show ¬ hk=42 by omega)
 refine uL ?_
 refine bq rfl (fun c43 => ?_) (fun c43 => ?_)
 ·exact absurd c43 (show ¬ hk=43 by omega)
 refine uL ?_
 refine bq rfl (fun c44 => ?_) (fun c44 => ?_)
 ·exact absurd c44 (show ¬ hk=44 by omega)
 refine uL ?_
 refine bq rfl (fun c45 => ?_) (fun c45 => ?_)
 ·exact absurd c45 (show ¬ hk=45 by omega)
 refine uL ?_
 refine bq rfl (fun c46 => ?_) (fun c46 => ?_)
 ·exact absurd c46 (show ¬ hk=46 by omega)
 refine uL ?_
 refine bq rfl (fun c47 => ?_) (fun c47 => ?_)
 ·exact absurd c47 (show ¬ hk=47 by omega)
 refine uL ?_
 refine oC goes89 ((hmore hk48 _ _ bd q s _ ⟨hk,hn,hu,hks⟩ hT0 hB ⟨rfl,rfl,rfl,h4⟩ hl).x ?_);
 rintro _ m1 _ ⟨hm1,s,q,rfl,hB⟩
 refine uA ?_
 exact bv rfl uS ⟨hm1,s,q,rfl,hB⟩
end
end Go.Sep


/- PtBlW -/
namespace Go.Sep
open Go.Proofs
attribute [local irreducible] TC TO OT TCallX TCall DO DOt thenQ blockQ retQ At
theorem flat_cut (ks : List Tree) (i : Nat) (h : i < ks.length) : (ks.map Pt.toks).flatten=((ks.take i).map Pt.toks).flatten++(Pt.toks ks[i]++((ks.drop (i + 1)).map Pt.toks).flatten):=by
 have e : ks=ks.take i++(ks[i] :: ks.drop (i + 1)):=by rw [← aJ h,aV]
 conv=>lhs;rw [e]
 rw [aZ,List.flatten_append,ax,List.flatten_cons]
theorem flat_next (ks : List Tree) (i : Nat) (h : i < ks.length) : ((ks.take (i + 1)).map Pt.toks).flatten=((ks.take i).map Pt.toks).flatten++Pt.toks ks[i]:=by
 rw [aX h,aZ,List.flatten_append];simp
section
variable {Tb : Mem→Prop}
def simT (a : Tree) : List Ps.Tk:=(Pt.toks a).dropLast
theorem block_w (hTb : TbOk Tb) (a : Tree) (ih : ∀ k ∈ a.kids,PT Tb k) (hnum : Pt.numB2 a=true) (hbl : lim.block a=true) : Pw Tb 68 a:=by
 obtain ⟨f1,f2,f3,f4⟩:=Pt.block_f hbl
 intro m L bd q s x0 h hT0 hB hr hl
 obtain ⟨h1,h2,h3,h4⟩:=hr
 have hlen:=h4.len
 have hsm:=h4.small rfl
 have hm:=bm m
 have hT : TbM Tb m:=⟨fun h=>hTb.mono hT0 h⟩
 obtain ⟨k,n0,u0,ks⟩:=a
 obtain ⟨hk,hn,hu,hks⟩:=h
 simp only [Tree.kind,Tree.name,Tree.num,Tree.kids] at h1 h2 h3 h4 hlen hsm ih
 subst h1 h2 h3
 obtain rfl : hk=20:=f1
 have hS : ∀ x ∈ ks,Pw Tb 120 x:=fun x hx=>(ih x hx).stmt (Pt.num_kid hnum (by simpa [Tree.kids] using hx)) (List.all_eq_true.1 f4 x hx)
 have et : Pt.toks (.mk 20 hn hu ks)=[Pt.mk [123]]++((ks.map Pt.toks).flatten++[Pt.mk [125]]):=by rw [Pt.toks_eq];rfl
 rw [et] at hl
 try simp only [cv,aa] at hl
 unfold TCall
 refine bw Tryz.func68 rfl 23 rfl ?_
 refine uA ?_
 refine oB (fun b => ?_)
 refine bD pq3 ?_
 refine uL ?_
 refine qs rfl (cq tab rStr (hs:=[[123]]) (l:=[[123]]) ⟨rfl,trivial⟩ rfl rfl rfl rfl rfl (by decide) (fun sl ma hma hsl _ _ => ?_))
 replace hm:=bn hm hma
 replace hB:=hB.mono hma
 refine uA ?_
 refine oC ct ((cw _ _ bd q s _ hB sl [Pt.mk [123]] hsl (by first | omega | (simp only [aa];omega))).x ?_);
 rintro _ m1 _ ⟨hm1,s,q,rfl,hB⟩
 replace hm:=bn hm hm1
 clear hm1 hma hsl
 refine uL ?_
 refine br (ι:=PS) [0,3,10,11] rfl (fun g=>[(12, .int .i64 (g.i : Int))]) (fun g=>g.m) (fun g=>bdL bd g.q g.s (.cells b 0 (treeC ⟨20,hn,hu,hks⟩) :: L)) (fun g=>m ≤ g.m∧g.i ≤ ks.length∧BOk g.m bd g.q g.s (x0++putT [Pt.mk [123]]++putT ((ks.take g.i).map Pt.toks).flatten)) (fun g=>ks.length - g.i) ⟨m1,q,s,0⟩ uH rfl uS ⟨hm,aU _,hB.cast (by simp [putT_nil])⟩ ?_
 rintro ⟨m1,q,s,i⟩ ⟨hm,hi,hB⟩
 simp only at hm hi hB
 refine uA ?_
 refine bq rfl (fun h1 => ?_) (fun h1 => ?_)
 ·simp only at h1
  have hlt : i < ks.length:=by omega
  have hxi : ks[i]? = some ks[i]:=ak hlt
  have hc:=congrArg (fun l=>(putT l).length) (flat_cut ks i hlt)
  simp only [cv,aa] at hc
  have h4c:=h4.mono hm
  refine uA ?_
  refine qs rfl (bO tab rTree i h4c rfl rfl rfl rfl rfl (by first | rfl | omega | (simp only;omega)) rfl hxi ?_)
  rintro b7 i7 h7 hr7 hA7
  (first | refine qs rfl (OT.loadA tab hA7 rfl rfl rfl rfl rfl ?_) | refine oL tab hA7 ?_)
  refine oA tab (fun b5 => ?_)
  refine uA ?_
  refine uT ?_
  refine bD pq3 ?_
  refine uA ?_
  refine uM ?_
  refine uA ?_
  refine oC goes120 ((hS ks[i] (aB hlt) _ _ bd q s _ h7 (hT.mono hm) hB (rTree_iff.1 hr7) (by simp only [aa];omega)).x ?_);
  rintro _ m2 _ ⟨hm2,s,q,rfl,hB⟩
  refine uA ?_
  refine qs rfl (bK (r':=((i + 1 : Nat) : Int)) rfl rfl rfl rfl rfl rfl rfl (by omega) ?_)
  refine uA ?_
  refine ⟨⟨m2,q,s,i + 1⟩,uH,uH,rfl,rfl,uS,⟨bn hm hm2,by simp only;omega,hB.cast ?_⟩,by simp only;omega⟩
  rw [flat_next ks i hlt,cv,am,am]
 ·simp only at h1
  rw [aT (by omega)] at hB
  refine uA ?_
  refine qs rfl (cq tab rStr (hs:=[[125]]) (l:=[[125]]) ⟨rfl,trivial⟩ rfl rfl rfl rfl rfl (by decide) (fun sl ma hma hsl _ _ => ?_))
  replace hm:=bn hm hma
  replace hB:=hB.mono hma
  refine uA ?_
  refine oC ct ((cw _ _ bd q s _ hB sl [Pt.mk [125]] hsl (by first | omega | (simp only [aa];omega))).x ?_);
  rintro _ m1 _ ⟨hm1,s,q,rfl,hB⟩
  replace hm:=bn hm hm1
  clear hm1 hma hsl
  refine uA ?_
  refine bv rfl uS ⟨hm,s,q,rfl,hB.cast ?_⟩
  rw [et];try simp only [cv,am]
end
end Go.Sep


/- PtStW -/
namespace Go.Sep
open Go.Proofs
attribute [local irreducible] TC TO OT TCallX TCall DO DOt thenQ blockQ retQ At
section
variable {Tb : Mem→Prop}
theorem simT_eq {a : Tree} {l : List Ps.Tk} (h : Pt.toks a=l++[Pt.mk [59]]) : simT a=l:=by unfold simT;rw [h,List.dropLast_concat]
theorem simple_w (hTb : TbOk Tb) (a : Tree) (ih : ∀ k ∈ a.kids,PT Tb k) (hnum : Pt.numB2 a=true) (hst : lim.stmt a=true) (hkd : a.kind ≠ 20∧a.kind ≠ 25∧a.kind ≠ 26)
  (m : Mem) (L : List Item) (bd : Nat) (q : Option Addr) (s : Sl) (x0 : Str) (h : HTree) (hT0 : Tb m) (hB : BOk m bd q s x0) (hr : TreeRep m h a) :
  Pt.toks a=simT a++[Pt.mk [59]]∧(x0.length + (putT (simT a)).length ≤ 140737488355328→TCall Tryz.prog 150 ⟨[bdV bd,treeV h]⟩ m (bdL bd q s L) (Wr bd m L (x0++putT (simT a)))):=by
 have hs1 : stmtS lim a=true:=(lim_fix _).2.1.symm.trans hst
 rw [Pt.stmtS_head,aj] at hs1
 obtain ⟨-,hs1⟩:=hs1
 obtain ⟨h1,h2,h3,h4⟩:=hr
 have hlen:=h4.len
 have hsm:=h4.small rfl
 have hm:=bm m
 have hT : TbM Tb m:=⟨fun h=>hTb.mono hT0 h⟩
 obtain ⟨k,n0,u0,ks⟩:=a
 obtain ⟨hk,hn,hu,hks⟩:=h
 simp only [Tree.kind,Tree.name,Tree.num,Tree.kids] at h1 h2 h3 h4 hlen hsm ih
 subst h1 h2 h3
 have hE : ∀ x ∈ ks,lim.expr x=true→Pw Tb 46 x:=fun x hx h=>(ih x hx).expr (Pt.num_kid hnum (by simpa [Tree.kids] using hx)) h
 by_cases e : hk=21
 ·subst e
  have h2 : (isName hn && (kidsR [Tree.isType] none ks || kidsR [Tree.isType,lim.expr] none ks))=true:=hs1
  simp only [aj,ar] at h2
  rcases h2.2 with h3 | h3
  ·skip
   obtain ⟨x,rfl,hx⟩:=Pt.kids1 h3
   obtain ⟨sa,sn,sc⟩:=hks
   obtain rfl : sn=1:=hlen
   have px:=typ_w hTb x hx
   have hxi : [x][0]? = some x:=rfl
   have et0 : Pt.toks (.mk 21 hn hu [x])=([Pt.wd [118,97,114],Pt.nm hn]++Pt.toks x)++[Pt.mk [59]]:=by rw [Pt.toks_eq];rfl
   have et:=simT_eq et0
   refine ⟨by rw [et];exact et0,fun hl => ?_⟩
   rw [et] at hl ⊢
   try simp only [cv,aa] at hl
   unfold TCall
   refine bw Tryz.func150 rfl 88 rfl ?_
   refine uA ?_
   refine oB (fun b => ?_)
   refine bD pq3 ?_
   refine uL ?_
   refine qs rfl (cq tab rStr (hs:=[[118,97,114],hn]) (l:=[[118,97,114],hn]) ⟨rfl,rfl,trivial⟩ rfl rfl rfl rfl rfl (by decide) (fun sl ma hma hsl _ _ => ?_))
   replace hm:=bn hm hma
   replace hB:=hB.mono hma
   refine uA ?_
   refine oC ct ((cw _ _ bd q s _ hB sl [Pt.wd [118,97,114],Pt.nm hn] hsl (by first | omega | (simp only [aa];omega))).x ?_);
   rintro _ m1 _ ⟨hm1,s,q,rfl,hB⟩
   replace hm:=bn hm hm1
   clear hm1 hma hsl
   refine uL ?_
   have h4c:=h4.mono hm
   refine qs rfl (bO tab rTree 0 h4c rfl rfl rfl rfl rfl (by first | rfl | omega | (simp only;omega)) rfl hxi ?_)
   rintro b7 i7 h7 hr7 hA7
   (refine oL tab hA7 ?_)
   refine uA ?_
   refine oC goes65 ((px _ _ bd q s _ h7 (hT.mono hm) hB (rTree_iff.1 hr7) (by first | omega | (simp only [aa];omega))).x ?_);
   rintro _ m1 _ ⟨hm1,s,q,rfl,hB⟩
   replace hm:=bn hm hm1
   clear hm1 h4c hr7 hA7
   refine uL ?_
   refine bv rfl uS ⟨hm,s,q,rfl,hB.cast ?_⟩
   try simp only [cv,am]
  ·skip
   obtain ⟨x,y,rfl,hx,hy⟩:=Pt.kids2 h3
   obtain ⟨sa,sn,sc⟩:=hks
   obtain rfl : sn=2:=hlen
   have px:=typ_w hTb x hx
   have py:=hE y (by simp) hy
   have hxi : [x,y][0]? = some x:=rfl
   have hyi : [x,y][1]? = some y:=rfl
   have et0 : Pt.toks (.mk 21 hn hu [x,y])=([Pt.wd [118,97,114],Pt.nm hn]++(Pt.toks x++([Pt.mk [61]]++Pt.toks y)))++[Pt.mk [59]]:=by rw [Pt.toks_eq];show Pt.wd _ :: Pt.nm hn :: (Pt.toks x++((Pt.mk _ :: Pt.toks y)++[Pt.mk _]))=_;simp
   have et:=simT_eq et0
   refine ⟨by rw [et];exact et0,fun hl => ?_⟩
   rw [et] at hl ⊢
   try simp only [cv,aa] at hl
   unfold TCall
   refine bw Tryz.func150 rfl 88 rfl ?_
   refine uA ?_
   refine oB (fun b => ?_)
   refine bD pq3 ?_
   refine uL ?_
   refine qs rfl (cq tab rStr (hs:=[[118,97,114],hn]) (l:=[[118,97,114],hn]) ⟨rfl,rfl,trivial⟩ rfl rfl rfl rfl rfl (by decide) (fun sl ma hma hsl _ _ => ?_))
   replace hm:=bn hm hma
   replace hB:=hB.mono hma
   refine uA ?_
   refine oC ct ((cw _ _ bd q s _ hB sl [Pt.wd [118,97,114],Pt.nm hn] hsl (by first | omega | (simp only [aa];omega))).x ?_);
   rintro _ m1 _ ⟨hm1,s,q,rfl,hB⟩
   replace hm:=bn hm hm1
   clear hm1 hma hsl
   refine uL ?_
   have h4c:=h4.mono hm
   refine qs rfl (bO tab rTree 0 h4c rfl rfl rfl rfl rfl (by first | rfl | omega | (simp only;omega)) rfl hxi ?_)
   rintro b7 i7 h7 hr7 hA7
   (refine oL tab hA7 ?_)
   refine uA ?_
   refine oC goes65 ((px _ _ bd q s _ h7 (hT.mono hm) hB (rTree_iff.1 hr7) (by first | omega | (simp only [aa];omega))).x ?_);
   rintro _ m1 _ ⟨hm1,s,q,rfl,hB⟩
   replace hm:=bn hm hm1
   clear hm1 h4c hr7 hA7
   refine uL ?_
   refine qs rfl (cq tab rStr (hs:=[[61]]) (l:=[[61]]) ⟨rfl,trivial⟩ rfl rfl rfl rfl rfl (by decide) (fun sl ma hma hsl _ _ => ?_))
   replace hm:=bn hm hma
   replace hB:=hB.mono hma
   refine uA ?_
   refine oC ct ((cw _ _ bd q s _ hB sl [Pt.mk [61]] hsl (by first | omega | (simp only [aa];omega))).x ?_);
   rintro _ m1 _ ⟨hm1,s,q,rfl,hB⟩
   replace hm:=bn hm hm1
   clear hm1 hma hsl
   refine uL ?_
   have h4c:=h4.mono hm
   refine qs rfl (bO tab rTree 1 h4c rfl rfl rfl rfl rfl (by first | rfl | omega | (simp only;omega)) rfl hyi ?_)
   rintro b7 i7 h7 hr7 hA7
   (refine oL tab hA7 ?_)
   refine uA ?_
   refine oC goes46 ((py _ _ bd q s _ h7 (hT.mono hm) hB (rTree_iff.1 hr7) (by first | omega | (simp only [aa];omega))).x ?_);
   rintro _ m1 _ ⟨hm1,s,q,rfl,hB⟩
   replace hm:=bn hm hm1
   clear hm1 h4c hr7 hA7
   refine uA ?_
   refine bv rfl uS ⟨hm,s,q,rfl,hB.cast ?_⟩
   try simp only [cv,am]
 by_cases e : hk=22
 ·subst e
  have h2 : (decide (1 ≤ hu) && (decide (hu < (ks.length : Int)) && ((ks.take hu.toNat).all (nmS lim) && (ks.drop hu.toNat).all lim.expr)))=true:=hs1
  simp only [aj,ao] at h2
  obtain ⟨hu0,hu1,h5,h6⟩:=h2
  have hp1 : ∀ r ∈ ks.take hu.toNat,Pw Tb 46 r:=fun r hr=>hE r (ba hr) (by have:=List.all_eq_true.1 h5 r hr;unfold nmS at this;rw [aj] at this;exact this.2)
  have hp2 : ∀ r ∈ ks.drop hu.toNat,Pw Tb 46 r:=fun r hr=>hE r (List.mem_of_mem_drop hr) (List.all_eq_true.1 h6 r hr)
  have et0 : Pt.toks (.mk 22 hn hu ks)=(Pt.commaJ ((ks.take hu.toNat).map Pt.toks)++([Pt.mk [58,61]]++Pt.commaJ ((ks.drop hu.toNat).map Pt.toks)))++[Pt.mk [59]]:=by rw [Pt.toks_eq,List.map_take,List.map_drop];show Pt.commaJ _++Pt.mk _ :: (Pt.commaJ _++[Pt.mk _])=_;simp [Tree.kids,Tree.num]
  have et:=simT_eq et0
  refine ⟨by rw [et];exact et0,fun hl => ?_⟩
  rw [et] at hl ⊢
  try simp only [cv,aa] at hl
  unfold TCall
  refine bw Tryz.func150 rfl 88 rfl ?_
  refine uA ?_
  refine oB (fun b => ?_)
  refine bD pq3 ?_
  refine uL ?_
  have h4c:=h4.mono hm
  refine qs rfl (OT.cut tab rTree 0 hu.toNat h4c rfl rfl rfl rfl rfl rfl rfl (.inl ⟨rfl,rfl⟩) (.inr (by rw [show ((hu.toNat : Nat) : Int)=hu by omega])) (aU _) (by omega) (fun slp hslp => ?_))
  rw [bk] at hslp
  refine uA ?_
  refine oC goes88 ((each_law (Cbk.of hTb hp1 goes46 (hT.mono hm)) _ _ (bm _) q s _ hB slp hslp (by first | omega | (simp only [aa];omega))).x ?_);
  rintro _ m1 _ ⟨hm1,s,q,rfl,hB⟩
  replace hm:=bn hm hm1
  refine uL ?_
  refine qs rfl (cq tab rStr (hs:=[[58,61]]) (l:=[[58,61]]) ⟨rfl,trivial⟩ rfl rfl rfl rfl rfl (by decide) (fun sl ma hma hsl _ _ => ?_))
  replace hm:=bn hm hma
  replace hB:=hB.mono hma
  refine uA ?_
  refine oC ct ((cw _ _ bd q s _ hB sl [Pt.mk [58,61]] hsl (by first | omega | (simp only [aa];omega))).x ?_);
  rintro _ m1 _ ⟨hm1,s,q,rfl,hB⟩
  replace hm:=bn hm hm1
  clear hm1 hma hsl
  refine uL ?_
  have h4d:=h4.mono hm
  refine qs rfl (OT.cut tab rTree hu.toNat hks.len h4d rfl rfl rfl rfl rfl rfl rfl (.inr (by rw [show ((hu.toNat : Nat) : Int)=hu by omega])) (.inl ⟨rfl,rfl⟩) (by omega) (by omega) (fun slr hslr => ?_))
  rw [aT (by omega)] at hslr
  refine uA ?_
  refine oC goes88 ((each_law (Cbk.of hTb hp2 goes46 (hT.mono hm)) _ _ (bm _) q s _ hB slr hslr (by first | omega | (simp only [aa];omega))).x ?_);
  rintro _ m1 _ ⟨hm1,s,q,rfl,hB⟩
  replace hm:=bn hm hm1
  refine uA ?_
  refine bv rfl uS ⟨hm,s,q,rfl,hB.cast ?_⟩
  try simp only [cv,am]
 by_cases e : hk=23
 ·subst e
  have h2 : (decide (1 ≤ hu) && (decide (hu < (ks.length : Int)) && ((ks.take hu.toNat).all (plS lim) && (ks.drop hu.toNat).all lim.expr)))=true:=hs1
  simp only [aj,ao] at h2
  obtain ⟨hu0,hu1,h5,h6⟩:=h2
  have hp1 : ∀ r ∈ ks.take hu.toNat,Pw Tb 46 r:=fun r hr=>hE r (ba hr) (by have:=List.all_eq_true.1 h5 r hr;unfold plS at this;rw [aj] at this;exact this.2)
  have hp2 : ∀ r ∈ ks.drop hu.toNat,Pw Tb 46 r:=fun r hr=>hE r (List.mem_of_mem_drop hr) (List.all_eq_true.1 h6 r hr)
  have et0 : Pt.toks (.mk 23 hn hu ks)=(Pt.commaJ ((ks.take hu.toNat).map Pt.toks)++([Pt.mk [61]]++Pt.commaJ ((ks.drop hu.toNat).map Pt.toks)))++[Pt.mk [59]]:=by rw [Pt.toks_eq,List.map_take,List.map_drop];show Pt.commaJ _++Pt.mk _ :: (Pt.commaJ _++[Pt.mk _])=_;simp [Tree.kids,Tree.num]
  have et:=simT_eq et0
  refine ⟨by rw [et];exact et0,fun hl => ?_⟩
  rw [et] at hl ⊢
  try simp only [cv,aa] at hl
  unfold TCall
  refine bw Tryz.func150 rfl 88 rfl ?_
  refine uA ?_
  refine oB (fun b => ?_)
  refine bD pq3 ?_
  refine uL ?_
  have h4c:=h4.mono hm
  refine qs rfl (OT.cut tab rTree 0 hu.toNat h4c rfl rfl rfl rfl rfl rfl rfl (.inl ⟨rfl,rfl⟩) (.inr (by rw [show ((hu.toNat : Nat) : Int)=hu by omega])) (aU _) (by omega) (fun slp hslp => ?_))
  rw [bk] at hslp
  refine uA ?_
  refine oC goes88 ((each_law (Cbk.of hTb hp1 goes46 (hT.mono hm)) _ _ (bm _) q s _ hB slp hslp (by first | omega | (simp only [aa];omega))).x ?_);
  rintro _ m1 _ ⟨hm1,s,q,rfl,hB⟩
  replace hm:=bn hm hm1
  refine uL ?_
  refine qs rfl (cq tab rStr (hs:=[[61]]) (l:=[[61]]) ⟨rfl,trivial⟩ rfl rfl rfl rfl rfl (by decide) (fun sl ma hma hsl _ _ => ?_))
  replace hm:=bn hm hma
  replace hB:=hB.mono hma
  refine uA ?_
  refine oC ct ((cw _ _ bd q s _ hB sl [Pt.mk [61]] hsl (by first | omega | (simp only [aa];omega))).x ?_);
  rintro _ m1 _ ⟨hm1,s,q,rfl,hB⟩
  replace hm:=bn hm hm1
  clear hm1 hma hsl
  refine uL ?_
  have h4d:=h4.mono hm
  refine qs rfl (OT.cut tab rTree hu.toNat hks.len h4d rfl rfl rfl rfl rfl rfl rfl (.inr (by rw [show ((hu.toNat : Nat) : Int)=hu by omega])) (.inl ⟨rfl,rfl⟩) (by omega) (by omega) (fun slr hslr => ?_))
  rw [aT (by omega)] at hslr
  refine uA ?_
  refine oC goes88 ((each_law (Cbk.of hTb hp2 goes46 (hT.mono hm)) _ _ (bm _) q s _ hB slr hslr (by first | omega | (simp only [aa];omega))).x ?_);
  rintro _ m1 _ ⟨hm1,s,q,rfl,hB⟩
  replace hm:=bn hm hm1
  refine uA ?_
  refine bv rfl uS ⟨hm,s,q,rfl,hB.cast ?_⟩
  try simp only [cv,am]
 by_cases e : hk=24
 ·subst e
  have h2 : kidsR [callS lim] none ks=true:=hs1
  obtain ⟨x,rfl,hx⟩:=Pt.kids1 h2
  unfold callS at hx
  rw [aj] at hx
  have px:=hE x (by simp) hx.2
  have hxi : [x][0]? = some x:=rfl
  have et0 : Pt.toks (.mk 24 hn hu [x])=(Pt.toks x)++[Pt.mk [59]]:=by rw [Pt.toks_eq];rfl
  have et:=simT_eq et0
  refine ⟨by rw [et];exact et0,fun hl => ?_⟩
  rw [et] at hl ⊢
  try simp only [cv,aa] at hl
  unfold TCall
  refine bw Tryz.func150 rfl 88 rfl ?_
  refine uA ?_
  refine oB (fun b => ?_)
  refine bD pq3 ?_
  refine uL ?_
  have h4c:=h4.mono hm
  refine qs rfl (bO tab rTree 0 h4c rfl rfl rfl rfl rfl (by first | rfl | omega | (simp only;omega)) rfl hxi ?_)
  rintro b7 i7 h7 hr7 hA7
  (refine oL tab hA7 ?_)
  refine uA ?_
  refine oC goes46 ((px _ _ bd q s _ h7 (hT.mono hm) hB (rTree_iff.1 hr7) (by first | omega | (simp only [aa];omega))).x ?_);
  rintro _ m1 _ ⟨hm1,s,q,rfl,hB⟩
  replace hm:=bn hm hm1
  clear hm1 h4c hr7 hA7
  refine uA ?_
  refine bv rfl uS ⟨hm,s,q,rfl,hB.cast ?_⟩
  try simp only [cv,am]
 by_cases e : hk=27
 ·subst e
  have h2 : ks.all lim.expr=true:=hs1
  have hp1 : ∀ r ∈ ks,Pw Tb 46 r:=fun r hr=>hE r hr (List.all_eq_true.1 h2 r hr)
  have et0 : Pt.toks (.mk 27 hn hu ks)=([Pt.wd [114,101,116,117,114,110]]++Pt.commaJ (ks.map Pt.toks))++[Pt.mk [59]]:=by rw [Pt.toks_eq];rfl
  have et:=simT_eq et0
  refine ⟨by rw [et];exact et0,fun hl => ?_⟩
  rw [et] at hl ⊢
  try simp only [cv,aa] at hl
  unfold TCall
  refine bw Tryz.func150 rfl 88 rfl ?_
  refine uA ?_
  refine oB (fun b => ?_)
  refine bD pq3 ?_
  refine uL ?_
  refine qs rfl (cq tab rStr (hs:=[[114,101,116,117,114,110]]) (l:=[[114,101,116,117,114,110]]) ⟨rfl,trivial⟩ rfl rfl rfl rfl rfl (by decide) (fun sl ma hma hsl _ _ => ?_))
  replace hm:=bn hm hma
  replace hB:=hB.mono hma
  refine uA ?_
  refine oC ct ((cw _ _ bd q s _ hB sl [Pt.wd [114,101,116,117,114,110]] hsl (by first | omega | (simp only [aa];omega))).x ?_);
  rintro _ m1 _ ⟨hm1,s,q,rfl,hB⟩
  replace hm:=bn hm hm1
  clear hm1 hma hsl
  refine uL ?_
  have h4d:=h4.mono hm
  refine oC goes88 ((each_law (Cbk.of hTb hp1 goes46 (hT.mono hm)) _ _ (bm _) q s _ hB hks h4d (by first | omega | (simp only [aa];omega))).x ?_);
  rintro _ m1 _ ⟨hm1,s,q,rfl,hB⟩
  replace hm:=bn hm hm1
  refine uA ?_
  refine bv rfl uS ⟨hm,s,q,rfl,hB.cast ?_⟩
  try simp only [cv,am]
 by_cases e : hk=28
 ·subst e
  have et0 : Pt.toks (.mk 28 hn hu ks)=([Pt.wd [98,114,101,97,107]])++[Pt.mk [59]]:=by rw [Pt.toks_eq];rfl
  have et:=simT_eq et0
  refine ⟨by rw [et];exact et0,fun hl => ?_⟩
  rw [et] at hl ⊢
  try simp only [cv,aa] at hl
  unfold TCall
  refine bw Tryz.func150 rfl 88 rfl ?_
  refine uA ?_
  refine oB (fun b => ?_)
  refine bD pq3 ?_
  refine uL ?_
  refine qs rfl (cq tab rStr (hs:=[[98,114,101,97,107]]) (l:=[[98,114,101,97,107]]) ⟨rfl,trivial⟩ rfl rfl rfl rfl rfl (by decide) (fun sl ma hma hsl _ _ => ?_))
  replace hm:=bn hm hma
  replace hB:=hB.mono hma
  refine uA ?_
  refine oC ct ((cw _ _ bd q s _ hB sl [Pt.wd [98,114,101,97,107]] hsl (by first | omega | (simp only [aa];omega))).x ?_);
  rintro _ m1 _ ⟨hm1,s,q,rfl,hB⟩
  replace hm:=bn hm hm1
  clear hm1 hma hsl
  refine uA ?_
  refine bv rfl uS ⟨hm,s,q,rfl,hB.cast ?_⟩
  try simp only [cv,am]
 by_cases e : hk=29
 ·subst e
  have et0 : Pt.toks (.mk 29 hn hu ks)=([Pt.wd [99,111,110,116,105,110,117,101]])++[Pt.mk [59]]:=by rw [Pt.toks_eq];rfl
  have et:=simT_eq et0
  refine ⟨by rw [et];exact et0,fun hl => ?_⟩
  rw [et] at hl ⊢
  try simp only [cv,aa] at hl
  unfold TCall
  refine bw Tryz.func150 rfl 88 rfl ?_
  refine uA ?_
  refine oB (fun b => ?_)
  refine bD pq3 ?_
  refine uL ?_
  refine qs rfl (cq tab rStr (hs:=[[99,111,110,116,105,110,117,101]]) (l:=[[99,111,110,116,105,110,117,101]]) ⟨rfl,trivial⟩ rfl rfl rfl rfl rfl (by decide) (fun sl ma hma hsl _ _ => ?_))
  replace hm:=bn hm hma
  replace hB:=hB.mono hma
  refine uA ?_
  refine oC ct ((cw _ _ bd q s _ hB sl [Pt.wd [99,111,110,116,105,110,117,101]] hsl (by first | omega | (simp only [aa];omega))).x ?_);
  rintro _ m1 _ ⟨hm1,s,q,rfl,hB⟩
  replace hm:=bn hm hm1
  clear hm1 hma hsl
  refine uA ?_
  refine bv rfl uS ⟨hm,s,q,rfl,hB.cast ?_⟩
  try simp only [cv,am]
 exfalso
 obtain ⟨k1,k2,k3⟩:=hkd
 have k1 : ¬ hk=20:=k1
 have k2 : ¬ hk=25:=k2
 have k3 : ¬ hk=26:=k3
 simp only [Tree.kind] at hs1
 simp [*] at hs1
theorem stmt_w (hTb : TbOk Tb) (a : Tree) (ih : ∀ k ∈ a.kids,PT Tb k) (hnum : Pt.numB2 a=true) (hst : lim.stmt a=true) : Pw Tb 120 a:=by
 have hs1 : stmtS lim a=true:=(lim_fix _).2.1.symm.trans hst
 rw [Pt.stmtS_head,aj] at hs1
 obtain ⟨-,hs1⟩:=hs1
 have hbl:=block_w hTb a ih hnum
 have hsim:=simple_w hTb a ih hnum hst
 intro m L bd q s x0 h hT0 hB hr hl
 obtain ⟨h1,h2,h3,h4⟩:=hr
 have hlen:=h4.len
 have hsm:=h4.small rfl
 have hm:=bm m
 have hT : TbM Tb m:=⟨fun h=>hTb.mono hT0 h⟩
 obtain ⟨k,n0,u0,ks⟩:=a
 obtain ⟨hk,hn,hu,hks⟩:=h
 simp only [Tree.kind,Tree.name,Tree.num,Tree.kids] at h1 h2 h3 h4 hlen hsm ih
 subst h1 h2 h3
 have hE : ∀ x ∈ ks,lim.expr x=true→Pw Tb 46 x:=fun x hx h=>(ih x hx).expr (Pt.num_kid hnum (by simpa [Tree.kids] using hx)) h
 have hK : ∀ x ∈ ks,lim.block x=true→Pw Tb 68 x:=fun x hx h=>(ih x hx).block (Pt.num_kid hnum (by simpa [Tree.kids] using hx)) h
 by_cases e : hk=20
 ·subst e
  have hb : lim.block (.mk 20 hn hu ks)=true:=(lim_fix _).2.2.trans hs1
  unfold TCall
  refine bw Tryz.func120 rfl 72 rfl ?_
  refine uA ?_
  refine oB (fun b => ?_)
  refine bD pq3 ?_
  refine uL ?_
  refine oC goes68 ((hbl hb _ _ bd q s _ ⟨20,hn,hu,hks⟩ hT0 hB ⟨rfl,rfl,rfl,h4⟩ hl).x ?_);
  rintro _ m1 _ ⟨hm1,s,q,rfl,hB⟩
  refine uA ?_
  exact bv rfl uS ⟨hm1,s,q,rfl,hB⟩
 by_cases e : hk=25
 ·subst e
  have h2 : (kidsR [lim.expr,lim.block] none ks || kidsR [lim.expr,lim.block,otherS lim] none ks)=true:=hs1
  rw [ar] at h2
  rcases h2 with h3 | h3
  ·skip
   obtain ⟨x,y,rfl,hx,hy⟩:=Pt.kids2 h3
   obtain ⟨sa,sn,sc⟩:=hks
   obtain rfl : sn=2:=hlen
   have px:=hE x (by simp) hx
   have py:=hK y (by simp) hy
   have hxi : [x,y][0]? = some x:=rfl
   have hyi : [x,y][1]? = some y:=rfl
   have et : Pt.toks (.mk 25 hn hu [x,y])=[Pt.wd [105,102]]++(Pt.toks x++(Pt.toks y++[])):=by rw [Pt.toks_eq];rfl
   rw [et] at hl
   try simp only [cv,aa] at hl
   unfold TCall
   refine bw Tryz.func120 rfl 72 rfl ?_
   refine uA ?_
   refine oB (fun b => ?_)
   refine bD pq3 ?_
   refine uL ?_
   refine qs rfl (cq tab rStr (hs:=[[105,102]]) (l:=[[105,102]]) ⟨rfl,trivial⟩ rfl rfl rfl rfl rfl (by decide) (fun sl ma hma hsl _ _ => ?_))
   replace hm:=bn hm hma
   replace hB:=hB.mono hma
   refine uA ?_
   refine oC ct ((cw _ _ bd q s _ hB sl [Pt.wd [105,102]] hsl (by first | omega | (simp only [aa];omega))).x ?_);
   rintro _ m1 _ ⟨hm1,s,q,rfl,hB⟩
   replace hm:=bn hm hm1
   clear hm1 hma hsl
   refine uL ?_
   have h4c:=h4.mono hm
   refine qs rfl (bO tab rTree 0 h4c rfl rfl rfl rfl rfl (by first | rfl | omega | (simp only;omega)) rfl hxi ?_)
   rintro b7 i7 h7 hr7 hA7
   (refine oL tab hA7 ?_)
   refine uA ?_
   refine oC goes46 ((px _ _ bd q s _ h7 (hT.mono hm) hB (rTree_iff.1 hr7) (by first | omega | (simp only [aa];omega))).x ?_);
   rintro _ m1 _ ⟨hm1,s,q,rfl,hB⟩
   replace hm:=bn hm hm1
   clear hm1 h4c hr7 hA7
   refine uL ?_
   have h4c:=h4.mono hm
   refine qs rfl (bO tab rTree 1 h4c rfl rfl rfl rfl rfl (by first | rfl | omega | (simp only;omega)) rfl hyi ?_)
   rintro b7 i7 h7 hr7 hA7
   (refine oL tab hA7 ?_)
   refine uA ?_
   refine oC goes68 ((py _ _ bd q s _ h7 (hT.mono hm) hB (rTree_iff.1 hr7) (by first | omega | (simp only [aa];omega))).x ?_);
   rintro _ m1 _ ⟨hm1,s,q,rfl,hB⟩
   replace hm:=bn hm hm1
   clear hm1 h4c hr7 hA7
   refine uL ?_
   refine bv rfl uS ⟨hm,s,q,rfl,hB.cast ?_⟩
   rw [et,aQ];simp only [cv,am]
  ·skip
   obtain ⟨x,y,z,rfl,hx,hy,hz⟩:=Pt.kids3 h3
   obtain ⟨sa,sn,sc⟩:=hks
   obtain rfl : sn=3:=hlen
   have px:=hE x (by simp) hx
   have py:=hK y (by simp) hy
   have hzs : lim.stmt z=true:=by
    unfold otherS at hz
    rw [ar,aj] at hz
    rcases hz with hz | hz
    ·obtain ⟨f1,f2,f3,f4⟩:=Pt.block_f hz
     rw [(lim_fix z).2.1,Pt.stmtS_head,if_pos f1,← (lim_fix z).2.2,hz,Pt.headS_n f1 (by decide),f2,f3];rfl
    ·exact hz.2
   have pz:=(ih z (by simp)).stmt (Pt.num_kid hnum (by simp [Tree.kids])) hzs
   have hxi : [x,y,z][0]? = some x:=rfl
   have hyi : [x,y,z][1]? = some y:=rfl
   have hzi : [x,y,z][2]? = some z:=rfl
   have et : Pt.toks (.mk 25 hn hu [x,y,z])=[Pt.wd [105,102]]++(Pt.toks x++(Pt.toks y++([Pt.wd [101,108,115,101]]++Pt.toks z))):=by rw [Pt.toks_eq];rfl
   rw [et] at hl
   try simp only [cv,aa] at hl
   unfold TCall
   refine bw Tryz.func120 rfl 72 rfl ?_
   refine uA ?_
   refine oB (fun b => ?_)
   refine bD pq3 ?_
   refine uL ?_
   refine qs rfl (cq tab rStr (hs:=[[105,102]]) (l:=[[105,102]]) ⟨rfl,trivial⟩ rfl rfl rfl rfl rfl (by decide) (fun sl ma hma hsl _ _ => ?_))
   replace hm:=bn hm hma
   replace hB:=hB.mono hma
   refine uA ?_
   refine oC ct ((cw _ _ bd q s _ hB sl [Pt.wd [105,102]] hsl (by first | omega | (simp only [aa];omega))).x ?_);
   rintro _ m1 _ ⟨hm1,s,q,rfl,hB⟩
   replace hm:=bn hm hm1
   clear hm1 hma hsl
   refine uL ?_
   have h4c:=h4.mono hm
   refine qs rfl (bO tab rTree 0 h4c rfl rfl rfl rfl rfl (by first | rfl | omega | (simp only;omega)) rfl hxi ?_)
   rintro b7 i7 h7 hr7 hA7
   (refine oL tab hA7 ?_)
   refine uA ?_
   refine oC goes46 ((px _ _ bd q s _ h7 (hT.mono hm) hB (rTree_iff.1 hr7) (by first | omega | (simp only [aa];omega))).x ?_);
   rintro _ m1 _ ⟨hm1,s,q,rfl,hB⟩
   replace hm:=bn hm hm1
   clear hm1 h4c hr7 hA7
   refine uL ?_
   have h4c:=h4.mono hm
   refine qs rfl (bO tab rTree 1 h4c rfl rfl rfl rfl rfl (by first | rfl | omega | (simp only;omega)) rfl hyi ?_)
   rintro b7 i7 h7 hr7 hA7
   (refine oL tab hA7 ?_)
   refine uA ?_
   refine oC goes68 ((py _ _ bd q s _ h7 (hT.mono hm) hB (rTree_iff.1 hr7) (by first | omega | (simp only [aa];omega))).x ?_);
   rintro _ m1 _ ⟨hm1,s,q,rfl,hB⟩
   replace hm:=bn hm hm1
   clear hm1 h4c hr7 hA7
   refine uL ?_
   refine qs rfl (cq tab rStr (hs:=[[101,108,115,101]]) (l:=[[101,108,115,101]]) ⟨rfl,trivial⟩ rfl rfl rfl rfl rfl (by decide) (fun sl ma hma hsl _ _ => ?_))
   replace hm:=bn hm hma
   replace hB:=hB.mono hma
   refine uA ?_
   refine oC ct ((cw _ _ bd q s _ hB sl [Pt.wd [101,108,115,101]] hsl (by first | omega | (simp only [aa];omega))).x ?_);
   rintro _ m1 _ ⟨hm1,s,q,rfl,hB⟩
   replace hm:=bn hm hm1
   clear hm1 hma hsl
   refine uL ?_
   have h4c:=h4.mono hm
   refine qs rfl (bO tab rTree 2 h4c rfl rfl rfl rfl rfl (by first | rfl | omega | (simp only;omega)) rfl hzi ?_)
   rintro b7 i7 h7 hr7 hA7
   (refine oL tab hA7 ?_)
   refine uA ?_
   refine oC goes120 ((pz _ _ bd q s _ h7 (hT.mono hm) hB (rTree_iff.1 hr7) (by first | omega | (simp only [aa];omega))).x ?_);
   rintro _ m1 _ ⟨hm1,s,q,rfl,hB⟩
   replace hm:=bn hm hm1
   clear hm1 h4c hr7 hA7
   refine uA ?_
   refine bv rfl uS ⟨hm,s,q,rfl,hB.cast ?_⟩
   rw [et];try simp only [cv,am]
 by_cases e : hk=26
 ·subst e
  have h2 : (kidsR [lim.block] none ks || kidsR [lim.expr,lim.block] none ks)=true:=hs1
  rw [ar] at h2
  rcases h2 with h3 | h3
  ·skip
   obtain ⟨x,rfl,hx⟩:=Pt.kids1 h3
   obtain ⟨sa,sn,sc⟩:=hks
   obtain rfl : sn=1:=hlen
   have px:=hK x (by simp) hx
   have hxi : [x][0]? = some x:=rfl
   have et : Pt.toks (.mk 26 hn hu [x])=[Pt.wd [102,111,114]]++Pt.toks x:=by rw [Pt.toks_eq];rfl
   rw [et] at hl
   try simp only [cv,aa] at hl
   unfold TCall
   refine bw Tryz.func120 rfl 72 rfl ?_
   refine uA ?_
   refine oB (fun b => ?_)
   refine bD pq3 ?_
   refine uL ?_
   refine qs rfl (cq tab rStr (hs:=[[102,111,114]]) (l:=[[102,111,114]]) ⟨rfl,trivial⟩ rfl rfl rfl rfl rfl (by decide) (fun sl ma hma hsl _ _ => ?_))
   replace hm:=bn hm hma
   replace hB:=hB.mono hma
   refine uA ?_
   refine oC ct ((cw _ _ bd q s _ hB sl [Pt.wd [102,111,114]] hsl (by first | omega | (simp only [aa];omega))).x ?_);
   rintro _ m1 _ ⟨hm1,s,q,rfl,hB⟩
   replace hm:=bn hm hm1
   clear hm1 hma hsl
   refine uL ?_
   refine qs rfl (bK (r':=0) rfl rfl rfl rfl rfl rfl rfl (by decide) ?_)
   refine uA ?_
   have h4c:=h4.mono hm
   refine qs rfl (bO tab rTree 0 h4c rfl rfl rfl rfl rfl (by first | rfl | omega | (simp only;omega)) rfl hxi ?_)
   rintro b7 i7 h7 hr7 hA7
   (refine oL tab hA7 ?_)
   refine uA ?_
   refine oC goes68 ((px _ _ bd q s _ h7 (hT.mono hm) hB (rTree_iff.1 hr7) (by first | omega | (simp only [aa];omega))).x ?_);
   rintro _ m1 _ ⟨hm1,s,q,rfl,hB⟩
   replace hm:=bn hm hm1
   clear hm1 h4c hr7 hA7
   refine uA ?_
   refine bv rfl uS ⟨hm,s,q,rfl,hB.cast ?_⟩
   rw [et];try simp only [cv,am]
  ·skip
   obtain ⟨x,y,rfl,hx,hy⟩:=Pt.kids2 h3
   obtain ⟨sa,sn,sc⟩:=hks
   obtain rfl : sn=2:=hlen
   have px:=hE x (by simp) hx
   have py:=hK y (by simp) hy
   have hxi : [x,y][0]? = some x:=rfl
   have hyi : [x,y][1]? = some y:=rfl
   have et : Pt.toks (.mk 26 hn hu [x,y])=[Pt.wd [102,111,114]]++(Pt.toks x++Pt.toks y):=by rw [Pt.toks_eq];rfl
   rw [et] at hl
   try simp only [cv,aa] at hl
   unfold TCall
   refine bw Tryz.func120 rfl 72 rfl ?_
   refine uA ?_
   refine oB (fun b => ?_)
   refine bD pq3 ?_
   refine uL ?_
   refine qs rfl (cq tab rStr (hs:=[[102,111,114]]) (l:=[[102,111,114]]) ⟨rfl,trivial⟩ rfl rfl rfl rfl rfl (by decide) (fun sl ma hma hsl _ _ => ?_))
   replace hm:=bn hm hma
   replace hB:=hB.mono hma
   refine uA ?_
   refine oC ct ((cw _ _ bd q s _ hB sl [Pt.wd [102,111,114]] hsl (by first | omega | (simp only [aa];omega))).x ?_);
   rintro _ m1 _ ⟨hm1,s,q,rfl,hB⟩
   replace hm:=bn hm hm1
   clear hm1 hma hsl
   refine uL ?_
   have h4c:=h4.mono hm
   refine qs rfl (bO tab rTree 0 h4c rfl rfl rfl rfl rfl (by first | rfl | omega | (simp only;omega)) rfl hxi ?_)
   rintro b7 i7 h7 hr7 hA7
   (refine oL tab hA7 ?_)
   refine uA ?_
   refine oC goes46 ((px _ _ bd q s _ h7 (hT.mono hm) hB (rTree_iff.1 hr7) (by first | omega | (simp only [aa];omega))).x ?_);
   rintro _ m1 _ ⟨hm1,s,q,rfl,hB⟩
   replace hm:=bn hm hm1
   clear hm1 h4c hr7 hA7
   refine uL ?_
   refine qs rfl (bK (r':=1) rfl rfl rfl rfl rfl rfl rfl (by decide) ?_)
   refine uA ?_
   have h4c:=h4.mono hm
   refine qs rfl (bO tab rTree 1 h4c rfl rfl rfl rfl rfl (by first | rfl | omega | (simp only;omega)) rfl hyi ?_)
   rintro b7 i7 h7 hr7 hA7
   (refine oL tab hA7 ?_)
   refine uA ?_
   refine oC goes68 ((py _ _ bd q s _ h7 (hT.mono hm) hB (rTree_iff.1 hr7) (by first | omega | (simp only [aa];omega))).x ?_);
   rintro _ m1 _ ⟨hm1,s,q,rfl,hB⟩
   replace hm:=bn hm hm1
   clear hm1 h4c hr7 hA7
   refine uA ?_
   refine bv rfl uS ⟨hm,s,q,rfl,hB.cast ?_⟩
   rw [et];try simp only [cv,am]
 rename_i n20 n25
 have n26:=e
 have hk3 : hk ≠ 20∧hk ≠ 25∧hk ≠ 26:=⟨n20,n25,n26⟩
 unfold TCall
 refine bw Tryz.func120 rfl 72 rfl ?_
 refine uA ?_
 refine oB (fun b => ?_)
 refine bD pq3 ?_
 refine uL ?_
 refine bq rfl (fun c1 => ?_) (fun c1 => ?_)
 ·exact absurd c1 n20
 refine uL ?_
 refine bq rfl (fun c2 => ?_) (fun c2 => ?_)
 ·exact absurd c2 n25
 refine uL ?_
 refine bq rfl (fun c3 => ?_) (fun c3 => ?_)
 ·exact absurd c3 n26
 refine uL ?_
 obtain ⟨et,hsim⟩:=hsim hk3 m (.cells b 0 (treeC ⟨hk,hn,hu,hks⟩) :: L) bd q s x0 ⟨hk,hn,hu,hks⟩ hT0 hB ⟨rfl,rfl,rfl,h4⟩
 rw [et] at hl
 simp only [cv,aa] at hl
 refine oC goes150 ((hsim (by omega)).x ?_);
 rintro _ m1 _ ⟨hm1,s,q,rfl,hB⟩
 replace hm:=bn hm hm1
 refine uA ?_
 refine qs rfl (cq tab rStr (hs:=[[59]]) (l:=[[59]]) ⟨rfl,trivial⟩ rfl rfl rfl rfl rfl (by decide) (fun sl ma hma hsl _ _ => ?_))
 replace hm:=bn hm hma
 replace hB:=hB.mono hma
 refine uA ?_
 refine oC ct ((cw _ _ bd q s _ hB sl [Pt.mk [59]] hsl (by first | omega | (simp only [aa];omega))).x ?_);
 rintro _ m1 _ ⟨hm1,s,q,rfl,hB⟩
 replace hm:=bn hm hm1
 clear hm1 hma hsl
 refine uA ?_
 refine bv rfl uS ⟨hm,s,q,rfl,hB.cast ?_⟩
 rw [et];try simp only [cv,am]
theorem pt_all (hTb : TbOk Tb) (hI : ∀ (m : Mem) (L : List Item) (n : Int),Tb m→0 ≤ n→n < 9223372036854775808→TCall Tryz.prog 86 ⟨[.int .i64 n]⟩ m L (Made m L fun r _=>r=strV (Pt.digN n.toNat))) (a : Tree) : PT Tb a:=by
 induction a using Tree.ind with
 | h a ih=>exact ⟨fun hn h=>expr_w hTb hI a ih hn ((lim_fix a).1.symm.trans h),fun hn h=>stmt_w hTb a ih hn h,fun hn h=>block_w hTb a ih hn h⟩
end
end Go.Sep


/- PsNode -/
namespace Go.Sep
open Go.Proofs
section
variable {P : Program} {N : Nat} {ρ : Env} {D : List Deferred} {m : Mem} {L : List Item} {Q : EPost} {o : Oper} {K : Env→Mem→List Item→Prop}
theorem equalIn_nilFn2 {t : TypeId} {w : World} {a b c} {f g h} (dd : Nat) (hu : (underlying t).run P w = .ok (.func a b c) w) :
  (Op.equalIn (dd + 1) t (.func f g h) .nilFunc).run P w = .ok false w:=by
 simp only [Op.equalIn,Sem.run_bind,hu,Result.andThen_ok,Sem.run_pure]
theorem OT.nilFn2 (T : Tab P) {t t' : TypeId} {x y : Operand} {d : Nat} {f g h} (ho : o.op = .binOp .eql t x y t') (hd : o.dst=some d) (hN : Nat.blt d N=true)
  (hx : ev ρ x=some (.func f g h)) (hy : ev ρ y=some .nilFunc) (ht : T.isFunc t=true) (hK : K ((d, .bool false) :: ρ) m L) : OT P N o ρ D m L Q K:=by
 obtain ⟨ti,a,b,c,h1,h2⟩:=isFunc_get ht
 refine bE hd hN (fun ac w ha=>⟨w, ?_,ha.st⟩) hK
 have hu:=T.run_underlying w h1
 rw [h2] at hu
 have e1 : binOp .eql t (.func f g h) .nilFunc=(do pure (.bool (← Op.equalIn (9999 + 1) t (.func f g h) .nilFunc)) : Sem Value):=rfl
 have e2 : (eqGuard .eql t x y (.func f g h) .nilFunc).run P w = .ok () w:=by simp [eqGuard]
 have h:=equalIn_nilFn2 (P:=P) (f:=f) (g:=g) (h:=h) 9999 hu
 simp only [execOp,ho,ha.env.eval hx,ha.env.eval hy,Sem.run_bind,e2,Result.andThen_ok,e1,h,Sem.run_pure]
end
attribute [local irreducible] TC TO OT TCallX TCall DO DOt thenQ blockQ retQ At
theorem indexFunc_node (m : Mem) (L : List Item) (s : Sl) (l : List Tree) (p : Tree→Bool) (fn : FuncId) (cap : List Value) (hg : Goes Tryz.prog fn) (hs : SlRep rTree m s l)
  (hp : ∀ (h : HTree) (a : Tree),a ∈ l→rTree.rep m h a→TCall Tryz.prog fn ⟨treeV h :: cap⟩ m L (Ret (.bool (p a)) m L)) :
  TCall Tryz.prog 122 ⟨[s.v, .func (.func fn) ⟨[]⟩ ⟨cap⟩]⟩ m L (Ret (.int .i64 (idxP l p 0)) m L):=by
 unfold TCall
 refine bw Tryz.func122 rfl 19 rfl ?_
 refine uA ?_
 refine br (ι:=Nat) [0,1,7] rfl (fun k=>[(8, .int .i64 (k : Int))]) (fun _=>m) (fun _=>L) (fun k=>k ≤ l.length∧idxP l p 0=idxP (l.drop k) p k) (fun k=>l.length - k) 0 uH rfl uS ⟨aU _,rfl⟩ ?_
 rintro k ⟨hk,hI⟩
 have hl:=hs.len
 have hsm:=hs.small rfl
 refine uA ?_
 refine bq rfl (fun h => ?_) (fun h => ?_)
 ·have hlt : k < l.length:=by omega
  have hx : l[k]? = some l[k]:=by simp [hlt]
  refine uA ?_
  refine qs rfl (bO tab rTree k hs rfl rfl rfl rfl rfl (by first | rfl | omega | (simp only;omega)) rfl hx ?_)
  rintro b i hd hr hA
  (refine oL tab hA ?_)
  refine uA ?_
  refine qs rfl (bM (all:=treeV hd :: cap) rfl rfl rfl rfl rfl (by rw [fl_eq];rfl) hg ((hp hd l[k] (aB hlt) hr).x ?_))
  rintro _ _ _ ⟨rfl,rfl,rfl⟩
  refine uA ?_
  refine bo rfl (fun h => ?_) (fun h => ?_)
  ·refine uA ?_
   refine bu rfl uS ⟨rfl,rfl, ?_⟩
   rw [hI,aJ hlt,idxP,if_pos h]
  ·refine uA ?_
   refine qs rfl (bK (r':=((k + 1 : Nat) : Int)) rfl rfl rfl rfl rfl rfl rfl (by omega) ?_)
   refine uA ?_
   exact ⟨k + 1,uH,uH,rfl,rfl,uS,⟨by omega,by rw [hI,aJ hlt,idxP,if_neg (by simp [h])]⟩,by omega⟩
 ·refine uA ?_
  refine bu rfl uS ⟨rfl,rfl, ?_⟩
  rw [hI,aS (by omega)]
  rfl
theorem containsFunc_node (m : Mem) (L : List Item) (s : Sl) (l : List Tree) (p : Tree→Bool) (fn : FuncId) (cap : List Value) (hg : Goes Tryz.prog fn) (hs : SlRep rTree m s l)
  (hp : ∀ (h : HTree) (a : Tree),a ∈ l→rTree.rep m h a→TCall Tryz.prog fn ⟨treeV h :: cap⟩ m L (Ret (.bool (p a)) m L)) :
  TCall Tryz.prog 71 ⟨[s.v, .func (.func fn) ⟨[]⟩ ⟨cap⟩]⟩ m L (Ret (.bool (l.any p)) m L):=by
 unfold TCall
 refine bw Tryz.func71 rfl 9 rfl ?_
 refine uA ?_
 refine oC goes122 ((indexFunc_node m L s l p fn cap hg hs hp).x ?_);
 rintro _ _ _ ⟨rfl,rfl,rfl⟩
 refine uA ?_
 refine bu rfl uS ⟨rfl,rfl, ?_⟩
 rw [idxP_ge]
theorem bare_law (m : Mem) (L : List Item) (h : HTree) (a : Tree) (hr : TreeRep m h a) (k t u : Bool) :
  TCall Tryz.prog 39 ⟨[treeV h, .bool k, .bool t, .bool u]⟩ m L (Ret (.bool (bareB a k t u)) m L):=by
 obtain ⟨h1,h2,h3,h4⟩:=hr
 unfold TCall
 refine bw Tryz.func39 rfl 26 rfl ?_
 refine uA ?_
 refine oB (fun b => ?_)
 cases k <;> cases t <;> cases u
 all_goals repeat' (first|(first|refine q1 ?_|refine q3 ?_|refine q4 tab rfl rfl ?_|refine q5 ?_|refine q6 ?_|refine q15 ?_)|(refine qs rfl (ql tab 0 rfl rfl rfl rfl rfl rfl ?_))|(refine bB rfl rfl (fun hb => ?_) (fun hb => ?_)))
 all_goals
  refine bu rfl uS ⟨rfl,rfl, ?_⟩
  refine congrArg Value.bool ?_
  unfold bareB
  try rw [← h2]
  try rw [← h3]
  simp_all
theorem named_law (m : Mem) (L : List Item) (h : HTree) (a : Tree) (hr : TreeRep m h a) (hB : a.wide ≤ 140737488355328) : TCall Tryz.prog 116 ⟨[treeV h]⟩ m L (Ret (.bool (isName a.name)) m L):=by
 obtain ⟨h1,h2,h3,h4⟩:=hr
 have hl:=wide_name a
 unfold TCall
 refine bw Tryz.func116 rfl 6 rfl ?_
 refine uA ?_
 refine oB (fun b => ?_)
 refine uL ?_
 refine oC goes53 ((name_law _ _ h.name (by rw [h2];omega)).x ?_);
 rintro _ _ _ ⟨rfl,rfl,rfl⟩
 refine uA ?_
 refine bu rfl uS ⟨rfl,rfl, ?_⟩
 rw [h2]
theorem of_law (m : Mem) (L : List Item) (h : HTree) (a : Tree) (hr : TreeRep m h a) (hB : a.wide ≤ 140737488355328) (k : Int) :
  TCall Tryz.prog 62 ⟨[treeV h, .int .i64 k]⟩ m L (Ret (.bool (ofB a k)) m L):=by
 have hr':=hr
 obtain ⟨h1,h2,h3,h4⟩:=hr
 unfold TCall
 refine bw Tryz.func62 rfl 15 rfl ?_
 refine uA ?_
 refine oB (fun b => ?_)
 refine uL ?_
 refine oC goes39 ((bare_law _ _ h a hr' (decide (h.kind=k)) true false).x ?_);
 rintro _ _ _ ⟨rfl,rfl,rfl⟩
 refine uA ?_
 refine bA (b:=bareB a (decide (h.kind=k)) true false) rfl rfl (fun hb => ?_) (fun hb => ?_)
 ·refine uL ?_
  refine oC goes116 ((named_law _ _ h a hr' hB).x ?_);
  rintro _ _ _ ⟨rfl,rfl,rfl⟩
  refine uA ?_
  refine bu rfl uS ⟨rfl,rfl, ?_⟩
  unfold bareB at hb
  unfold ofB
  rw [h1] at hb
  simp_all
 ·refine uA ?_
  refine bu rfl uS ⟨rfl,rfl, ?_⟩
  unfold bareB at hb
  unfold ofB
  rw [h1] at hb
  simp_all
def IsPred (fn : FuncId) (p : Tree→Bool) (l : List Tree) : Prop:=Goes Tryz.prog fn ∧ ∀ (m : Mem) (L : List Item) (h : HTree) (a : Tree),a ∈ l→TreeRep m h a→TCall Tryz.prog fn ⟨[treeV h]⟩ m L (Ret (.bool (p a)) m L)
theorem not_law (m : Mem) (L : List Item) (h : HTree) (a : Tree) (hr : TreeRep m h a) (fn : FuncId) (p : Tree→Bool) (l : List Tree) (hp : IsPred fn p l) (ha : a ∈ l) (b1 : Nat) (hA : At m b1 0 [.func (.func fn) ⟨[]⟩ ⟨[]⟩]) :
  TCall Tryz.prog 72 ⟨[treeV h, .pointer (some ⟨b1,0,none⟩)]⟩ m L (Ret (.bool (!p a)) m L):=by
 unfold TCall
 refine bw Tryz.func72 rfl 8 rfl ?_
 refine uA ?_
 refine oB (fun b => ?_)
 refine uA ?_
 (refine oL tab hA ?_)
 refine uL ?_
 refine qs rfl (bM (all:=[treeV h]) rfl rfl rfl rfl rfl (by rw [fl_eq];rfl) hp.1 ((hp.2 _ _ h a ha hr).x ?_))
 rintro _ _ _ ⟨rfl,rfl,rfl⟩
 refine uA ?_
 refine bu rfl uS ⟨rfl,rfl, ?_⟩
 rfl
theorem pall_law (m : Mem) (L : List Item) (s : Sl) (l : List Tree) (hs : SlRep rTree m s l) (fn : FuncId) (p : Tree→Bool) (hp : IsPred fn p l) :
  TCall Tryz.prog 40 ⟨[s.v, .func (.func fn) ⟨[]⟩ ⟨[]⟩]⟩ m L (Ret (.bool (l.all p)) m L):=by
 refine cg ?_
 unfold TCall
 refine bw Tryz.func40 rfl 9 rfl ?_
 refine uB ?_
 refine oB (fun b => ?_)
 refine cc fun m1 hm1 hA1 => ?_
 refine uA ?_
 refine oC goes71 ((containsFunc_node m1 L s l (fun a => !p a) 72 [.pointer (some ⟨b,0,none⟩)] goes72 (hs.mono hm1) (fun h a ha hr=>not_law m1 L h a (rTree_iff.1 hr) fn p l hp ha b hA1)).x ?_);
 rintro _ _ _ ⟨rfl,rfl,rfl⟩
 refine uA ?_
 refine bu rfl uS ⟨hm1,rfl, ?_⟩
 rw [List.all_eq_not_any_not]
def rFn : R FuncId FuncId where
 size:=1
 bytes:=8
 enc f:=[.func (.func f) ⟨[]⟩ ⟨[]⟩]
 rep _ f g:=f=g
 enc_len _:=rfl
 one f:=rfl
 mono _ h:=h
def restV : Option (FuncId × (Tree→Bool))→Value
 | none => .nilFunc
 | some p => .func (.func p.1) ⟨[]⟩ ⟨[]⟩
def restB : Option (FuncId × (Tree→Bool))→Option (Tree→Bool)
 | none=>none
 | some p=>some p.2
theorem kids_law (m : Mem) (L : List Item) (h : HTree) (a : Tree) (hr : TreeRep m h a) (s : Sl) (ps : List (FuncId × (Tree→Bool))) (rest : Option (FuncId × (Tree→Bool))) (hf : SlRep rFn m s (ps.map Prod.fst)) (hp : ∀ p ∈ ps,IsPred p.1 p.2 a.kids) (hq : ∀ p,rest=some p→IsPred p.1 p.2 a.kids) :
  TCall Tryz.prog 63 ⟨[treeV h,restV rest,s.v]⟩ m L (Ret (.bool (kidsR (ps.map Prod.snd) (restB rest) a.kids)) m L):=by
 obtain ⟨h1,h2,h3,h4⟩:=hr
 have hl:=h4.len
 have hsm:=h4.small rfl
 have hl2:=hf.len
 rw [aD] at hl2
 cases rest with
 | none =>
  show TCall _ _ ⟨[treeV h, .nilFunc,s.v]⟩ _ _ _
  unfold TCall
  refine bw Tryz.func63 rfl 50 rfl ?_
  refine uA ?_
  refine oB (fun b => ?_)
  refine uL ?_
  (refine bB rfl rfl (fun hb => ?_) (fun hb => ?_))
  ·refine uA ?_
   refine bu rfl uS ⟨rfl,rfl, ?_⟩
   rw [kidsR_short _ _ _ (by rw [aD];omega)]
  refine uL ?_
  refine qs rfl (OT.nilFn tab rfl rfl rfl rfl rfl uK ?_)
  refine uL ?_
  refine bq rfl (fun hb2 => ?_) (fun hb2 => ?_)
  ·refine uA ?_
   refine bu rfl uS ⟨rfl,rfl, ?_⟩
   refine congrArg Value.bool (Eq.symm ?_)
   exact kidsR_long _ _ (by rw [aD];omega)
  refine uL ?_
  refine br (ι:=Nat) [1,2,29,30] rfl (fun k=>[(31, .int .i64 (k : Int))]) (fun _=>m) (fun _=>L) (fun k=>k ≤ a.kids.length∧kidsR (ps.map Prod.snd) (restB none) a.kids=kidsR ((ps.map Prod.snd).drop k) (restB none) (a.kids.drop k)) (fun k=>a.kids.length - k) 0 uH rfl uS ⟨aU _,rfl⟩ ?_
  rintro k ⟨hk,hI⟩
  refine uA ?_
  refine bq rfl (fun h => ?_) (fun h => ?_)
  ·have hlt : k < a.kids.length:=by omega
   have hx : a.kids[k]? = some a.kids[k]:=by simp [hlt]
   refine uA ?_
   refine qs rfl (bO tab rTree k h4 rfl rfl rfl rfl rfl (by first | rfl | omega | (simp only;omega)) rfl hx ?_)
   rintro b' i hd hrd hA
   (refine oL tab hA ?_)
   refine uA ?_
   refine oA tab (fun b2 => ?_)
   refine uA ?_
   refine uT ?_
   refine uA ?_
   refine bq rfl (fun h5 => ?_) (fun h5 => ?_)
   ·have hlt2 : k < ps.length:=by omega
    have hx2 : (ps.map Prod.fst)[k]? = some ps[k].1:=by simp [hlt2]
    refine uA ?_
    refine qs rfl (bO tab rFn k hf rfl rfl rfl rfl rfl (by first | rfl | omega | (simp only;omega)) rfl hx2 ?_)
    rintro b3 i3 fn hfn hA3
    obtain rfl : fn=ps[k].1:=hfn
    (refine oL tab hA3 ?_)
    refine uL ?_
    have hpp:=hp ps[k] (aB hlt2)
    have hst:=kidsR_step (ps.map Prod.snd) (restB none) a.kids k (by rw [aD];exact hlt2) hlt
    rw [List.getElem_map] at hst
    refine qs rfl (bM (all:=[treeV hd]) rfl rfl rfl rfl rfl (by rw [fl_eq];rfl) hpp.1 ((hpp.2 _ _ hd a.kids[k] (aB hlt) (rTree_iff.1 hrd)).x ?_))
    rintro _ _ _ ⟨rfl,rfl,rfl⟩
    refine uA ?_
    refine bo (t := !ps[k].2 a.kids[k]) rfl (fun h6 => ?_) (fun h6 => ?_)
    ·refine uA ?_
     refine bu rfl uS ⟨rfl,rfl, ?_⟩
     rw [hI,hst]
     simp_all
    ·refine uA ?_
     refine qs rfl (bK (r':=((k + 1 : Nat) : Int)) rfl rfl rfl rfl rfl rfl rfl (by omega) ?_)
     refine uA ?_
     exact ⟨k + 1,uH,uH,rfl,rfl,uS,⟨by omega,by rw [hI,hst];simp_all⟩,by omega⟩
   ·skip
    omega
  ·refine uA ?_
   refine bu rfl uS ⟨rfl,rfl, ?_⟩
   rw [hI,kidsR_end _ _ _ _ (by rw [aD];omega) (by omega)]
 | some p =>
  show TCall _ _ ⟨[treeV h, .func (.func p.1) ⟨[]⟩ ⟨[]⟩,s.v]⟩ _ _ _
  unfold TCall
  refine bw Tryz.func63 rfl 50 rfl ?_
  refine uA ?_
  refine oB (fun b => ?_)
  refine uL ?_
  (refine bB rfl rfl (fun hb => ?_) (fun hb => ?_))
  ·refine uA ?_
   refine bu rfl uS ⟨rfl,rfl, ?_⟩
   rw [kidsR_short _ _ _ (by rw [aD];omega)]
  refine uL ?_
  refine qs rfl (OT.nilFn2 tab rfl rfl rfl rfl rfl uK ?_)
  refine uL ?_
  refine br (ι:=Nat) [1,2,29,30] rfl (fun k=>[(31, .int .i64 (k : Int))]) (fun _=>m) (fun _=>L) (fun k=>k ≤ a.kids.length∧kidsR (ps.map Prod.snd) (restB (some p)) a.kids=kidsR ((ps.map Prod.snd).drop k) (restB (some p)) (a.kids.drop k)) (fun k=>a.kids.length - k) 0 uH rfl uS ⟨aU _,rfl⟩ ?_
  rintro k ⟨hk,hI⟩
  refine uA ?_
  refine bq rfl (fun h => ?_) (fun h => ?_)
  ·have hlt : k < a.kids.length:=by omega
   have hx : a.kids[k]? = some a.kids[k]:=by simp [hlt]
   refine uA ?_
   refine qs rfl (bO tab rTree k h4 rfl rfl rfl rfl rfl (by first | rfl | omega | (simp only;omega)) rfl hx ?_)
   rintro b' i hd hrd hA
   (refine oL tab hA ?_)
   refine uA ?_
   refine oA tab (fun b2 => ?_)
   refine uA ?_
   refine uT ?_
   refine uA ?_
   refine bq rfl (fun h5 => ?_) (fun h5 => ?_)
   ·have hlt2 : k < ps.length:=by omega
    have hx2 : (ps.map Prod.fst)[k]? = some ps[k].1:=by simp [hlt2]
    refine uA ?_
    refine qs rfl (bO tab rFn k hf rfl rfl rfl rfl rfl (by first | rfl | omega | (simp only;omega)) rfl hx2 ?_)
    rintro b3 i3 fn hfn hA3
    obtain rfl : fn=ps[k].1:=hfn
    (refine oL tab hA3 ?_)
    refine uL ?_
    have hpp:=hp ps[k] (aB hlt2)
    have hst:=kidsR_step (ps.map Prod.snd) (restB (some p)) a.kids k (by rw [aD];exact hlt2) hlt
    rw [List.getElem_map] at hst
    refine qs rfl (bM (all:=[treeV hd]) rfl rfl rfl rfl rfl (by rw [fl_eq];rfl) hpp.1 ((hpp.2 _ _ hd a.kids[k] (aB hlt) (rTree_iff.1 hrd)).x ?_))
    rintro _ _ _ ⟨rfl,rfl,rfl⟩
    refine uA ?_
    refine bo (t := !ps[k].2 a.kids[k]) rfl (fun h6 => ?_) (fun h6 => ?_)
    ·refine uA ?_
     refine bu rfl uS ⟨rfl,rfl, ?_⟩
     rw [hI,hst]
     simp_all
    ·refine uA ?_
     refine qs rfl (bK (r':=((k + 1 : Nat) : Int)) rfl rfl rfl rfl rfl rfl rfl (by omega) ?_)
     refine uA ?_
     exact ⟨k + 1,uH,uH,rfl,rfl,uS,⟨by omega,by rw [hI,hst];simp_all⟩,by omega⟩
   ·skip
    have hst:=kidsR_rest (ps.map Prod.snd) p.2 a.kids k (by rw [aD];omega) hlt
    have hpp:=hq p rfl
    refine uA ?_
    refine uM ?_
    refine uA ?_
    refine qs rfl (bM (all:=[treeV hd]) rfl rfl rfl rfl rfl (by rw [fl_eq];rfl) hpp.1 ((hpp.2 _ _ hd a.kids[k] (aB hlt) (rTree_iff.1 hrd)).x ?_))
    rintro _ _ _ ⟨rfl,rfl,rfl⟩
    refine uA ?_
    refine bo (t := !p.2 a.kids[k]) rfl (fun h6 => ?_) (fun h6 => ?_)
    ·refine uA ?_
     refine bu rfl uS ⟨rfl,rfl, ?_⟩
     rw [hI]
     refine congrArg Value.bool ?_
     refine Eq.symm (hst.trans ?_)
     simp_all
    ·refine uA ?_
     refine qs rfl (bK (r':=((k + 1 : Nat) : Int)) rfl rfl rfl rfl rfl rfl rfl (by omega) ?_)
     refine uA ?_
     exact ⟨k + 1,uH,uH,rfl,rfl,uS,⟨by omega,by rw [hI];refine hst.trans ?_;simp_all [restB]⟩,by omega⟩
  ·refine uA ?_
   refine bu rfl uS ⟨rfl,rfl, ?_⟩
   rw [hI,kidsR_end _ _ _ _ (by rw [aD];omega) (by omega)]
end Go.Sep
namespace Go
abbrev cx := @Sep.kids_law
end Go

/- PsSnd1 -/
namespace Go.Sep
open Go.Proofs
attribute [local irreducible] TC TO OT TCallX TCall DO DOt thenQ blockQ retQ At
theorem sl1 {m : Mem} {b : Nat} {fn : FuncId} (h : At m b 0 [.func (.func fn) ⟨[]⟩ ⟨[]⟩]) : SlRep rFn m ⟨some ⟨b,0,none⟩,1,1⟩ [fn]:=SlRep.one (r:=rFn) (h:=fn) h rfl (by decide)
theorem type_law (a : Tree) : ∀ (m : Mem) (L : List Item) (h : HTree) (hr : TreeRep m h a) (hB : a.wide ≤ 140737488355328),TCall Tryz.prog 34 ⟨[treeV h]⟩ m L (Ret (.bool a.isType) m L):=by
 induction a using Tree.ind with
 | h a ih =>
 intro m L h hr hB
 have hp : IsPred 34 Tree.isType a.kids:=⟨goes34,fun m L h k hk hr=>ih k hk m L h hr (aw ((wide_kid hk)) hB)⟩
 have hr':=hr
 obtain ⟨h1,h2,h3,h4⟩:=hr
 have hl:=h4.len
 refine cg ?_
 rw [isType_eq]
 unfold TCall
 refine bw Tryz.func34 rfl 47 rfl ?_
 by_cases h10 : a.kind=10
 ·rw [if_pos h10]
  obtain ⟨k,n,u,s⟩:=h
  obtain rfl : k=10:=h1.trans h10
  refine uA ?_
  refine oB (fun b => ?_)
  refine uL ?_
  refine oC goes62 ((of_law _ _ ⟨10,n,u,s⟩ a hr' hB 10).x ?_);
  rintro _ _ _ ⟨rfl,rfl,rfl⟩
  refine uA ?_
  refine bA rfl rfl (fun h7 => ?_) (fun h7 => ?_)
  ·refine uL ?_
   refine oC goes63 ((cx _ _ ⟨10,n,u,s⟩ a hr' ⟨none,0,0⟩ [] none (bN _ _) (fun _ h=>by cases h) (fun _ h=>by cases h)).x ?_);
   rintro _ _ _ ⟨rfl,rfl,rfl⟩
   refine uA ?_
   refine bu rfl uS ⟨bm _,rfl, ?_⟩
   simp_all [kidsR0,kidsR1,ofB,restB]
  ·refine uA ?_
   refine bu rfl uS ⟨bm _,rfl, ?_⟩
   unfold ofB at h7
   rw [h10,aH rfl,aF] at h7
   rw [← bf,h7];rfl
 rw [if_neg h10]
 by_cases h11 : a.kind=11 ∨ a.kind=12
 ·rw [if_pos h11]
  have h12 : h.kind=11 ∨ h.kind=12:=by rw [h1];exact h11
  obtain ⟨k,n,u,s⟩:=h
  rcases h12 with h12 | h12
  all_goals
   simp only at h12
   subst h12
   refine uA ?_
   refine oB (fun b => ?_)
   refine uL ?_
   refine oC goes39 ((bare_law _ _ ⟨_,n,u,s⟩ a hr' true false false).x ?_);
   rintro _ _ _ ⟨rfl,rfl,rfl⟩
   refine uA ?_
   refine bA rfl rfl (fun h7 => ?_) (fun h7 => ?_)
   ·refine uL ?_
    refine qs rfl (cd tab rfl rfl rfl rfl (fun b2 => ?_))
    refine cc fun m1 hm1 hA1 => ?_
    refine uA ?_
    refine oC goes63 ((cx m1 _ ⟨_,n,u,s⟩ a (hr'.mono hm1) ⟨some ⟨b2,0,none⟩,1,1⟩ [(34,Tree.isType)] none (sl1 hA1) (fun p h=>by rw [List.mem_singleton.1 h];exact hp) (fun _ h=>by cases h)).x ?_);
    rintro _ _ _ ⟨rfl,rfl,rfl⟩
    refine uA ?_
    refine bu rfl uS ⟨hm1,rfl, ?_⟩
    simp_all [bareB,kidsR1,restB]
   ·refine uA ?_
    refine bu rfl uS ⟨bm _,rfl, ?_⟩
    unfold bareB at h7
    simp only [aF,be] at h7
    rw [← bf,h7];rfl
 rw [if_neg h11]
 by_cases h13 : a.kind=13
 ·rw [if_pos h13]
  obtain ⟨k,n,u,s⟩:=h
  obtain rfl : k=13:=h1.trans h13
  refine uA ?_
  refine oB (fun b => ?_)
  refine uL ?_
  refine oC goes39 ((bare_law _ _ ⟨13,n,u,s⟩ a hr' true false true).x ?_);
  rintro _ _ _ ⟨rfl,rfl,rfl⟩
  simp only at h2 h3 hl
  refine uA ?_
  refine bA rfl rfl (fun h7 => ?_) (fun h7 => ?_)
  ·have hn : a.name=[]:=by unfold bareB at h7;simpa using h7
   refine uL ?_
   (refine bB rfl rfl (fun h8 => ?_) (fun h8 => ?_))
   ·refine uL ?_
    (refine bB rfl rfl (fun h9 => ?_) (fun h9 => ?_))
    ·refine uL ?_
     refine oC goes40 ((pall_law _ _ s a.kids h4 34 Tree.isType hp).x ?_);
     rintro _ _ _ ⟨rfl,rfl,rfl⟩
     refine uA ?_
     refine bu rfl uS ⟨bm _,rfl, ?_⟩
     simp only at h8 h9
     rw [aH hn,aH (by omega),aH (by omega)];rfl
    ·refine uA ?_
     refine bu rfl uS ⟨bm _,rfl, ?_⟩
     simp only at h8 h9
     rw [aH hn,aH (by omega),aI (by omega)];rfl
   ·refine uA ?_
    refine bu rfl uS ⟨bm _,rfl, ?_⟩
    simp only at h8
    rw [aH hn,aI (by omega)];rfl
  ·refine uA ?_
   refine bu rfl uS ⟨bm _,rfl, ?_⟩
   have hn : ¬ a.name=[]:=by unfold bareB at h7;simpa using h7
   rw [aI hn];rfl
 rw [if_neg h13]
 refine uA ?_
 refine oB (fun b => ?_)
 refine uL ?_
 refine bq rfl (fun h5 => ?_) (fun h5 => ?_)
 ·omega
 refine uA ?_
 refine bq rfl (fun h5 => ?_) (fun h5 => ?_)
 ·omega
 refine uA ?_
 refine bq rfl (fun h5 => ?_) (fun h5 => ?_)
 ·omega
 refine uA ?_
 refine bq rfl (fun h5 => ?_) (fun h5 => ?_)
 ·omega
 refine uA ?_
 exact bu rfl uS ⟨bm _,rfl,rfl⟩
theorem param_law (a : Tree) (m : Mem) (L : List Item) (h : HTree) (hr : TreeRep m h a) (hB : a.wide ≤ 140737488355328) : TCall Tryz.prog 64 ⟨[treeV h]⟩ m L (Ret (.bool a.isParam) m L):=by
 have hp : IsPred 34 Tree.isType a.kids:=⟨goes34,fun m L h k hk hr=>type_law k m L h hr (aw ((wide_kid hk)) hB)⟩
 refine cg ?_
 unfold TCall
 refine bw Tryz.func64 rfl 10 rfl ?_
 refine uA ?_
 refine oB (fun b => ?_)
 refine uL ?_
 refine oC goes62 ((of_law _ _ h a hr hB 8).x ?_);
 rintro _ _ _ ⟨rfl,rfl,rfl⟩
 refine uA ?_
 refine bA rfl rfl (fun h7 => ?_) (fun h7 => ?_)
 ·refine uL ?_
  refine qs rfl (cd tab rfl rfl rfl rfl (fun b2 => ?_))
  refine cc fun m1 hm1 hA1 => ?_
  refine uA ?_
  refine oC goes63 ((cx m1 _ h a (hr.mono hm1) ⟨some ⟨b2,0,none⟩,1,1⟩ [(34,Tree.isType)] none (sl1 hA1) (fun p h=>by rw [List.mem_singleton.1 h];exact hp) (fun _ h=>by cases h)).x ?_);
  rintro _ _ _ ⟨rfl,rfl,rfl⟩
  refine uA ?_
  refine bu rfl uS ⟨hm1,rfl, ?_⟩
  unfold Tree.isParam
  simp_all [kidsR0,kidsR1,ofB,restB]
 ·refine uA ?_
  refine bu rfl uS ⟨bm _,rfl, ?_⟩
  unfold ofB at h7
  unfold Tree.isParam
  rw [← bf,← bf,bf (decide (a.kind=8)),h7];rfl
theorem sig_law (a : Tree) (m : Mem) (L : List Item) (h : HTree) (hr : TreeRep m h a) (hB : a.wide ≤ 140737488355328) : TCall Tryz.prog 35 ⟨[treeV h]⟩ m L (Ret (.bool a.isSig) m L):=by
 have hp : IsPred 34 Tree.isType (a.kids.drop a.num.toNat):=⟨goes34,fun m L h k hk hr=>type_law k m L h hr (aw ((wide_kid (List.mem_of_mem_drop hk))) hB)⟩
 have hp2 : IsPred 64 Tree.isParam (a.kids.take a.num.toNat):=⟨goes64,fun m L h k hk hr=>param_law k m L h hr (aw ((wide_kid (ba hk))) hB)⟩
 have hr':=hr
 obtain ⟨h1,h2,h3,h4⟩:=hr
 have hl:=h4.len
 unfold TCall
 refine bw Tryz.func35 rfl 37 rfl ?_
 refine uA ?_
 refine oB (fun b => ?_)
 refine uL ?_
 refine oC goes39 ((bare_law _ _ h a hr' (decide (h.kind=7)) false true).x ?_);
 rintro _ _ _ ⟨rfl,rfl,rfl⟩
 refine uA ?_
 refine bA rfl rfl (fun h7 => ?_) (fun h7 => ?_)
 ·have hn : a.kind=7∧a.name=[]:=by unfold bareB at h7;rw [← h1];simpa using h7
  refine uL ?_
  (refine bB rfl rfl (fun h8 => ?_) (fun h8 => ?_))
  ·refine uL ?_
   (refine bB rfl rfl (fun h9 => ?_) (fun h9 => ?_))
   ·refine uL ?_
    have hnum : h.num=((a.num.toNat : Nat) : Int):=by omega
    refine qs rfl (OT.cut tab rTree 0 a.num.toNat h4 rfl rfl rfl rfl rfl rfl rfl (.inl ⟨rfl,rfl⟩) (.inr (by rw [hnum])) (aU _) (by omega) (fun s1 hs1 => ?_))
    rw [bk] at hs1
    refine uA ?_
    refine oC goes40 ((pall_law _ _ s1 _ hs1 64 Tree.isParam hp2).x ?_);
    rintro _ _ _ ⟨rfl,rfl,rfl⟩
    refine uA ?_
    have pre : a.isSig=((a.kids.take a.num.toNat).all Tree.isParam && (a.kids.drop a.num.toNat).all Tree.isType):=by
     unfold Tree.isSig
     rw [aH hn.1,aH hn.2,aH (show 0 ≤ a.num by omega),aH (show a.num ≤ (a.kids.length : Int) by omega)];rfl
    refine bA rfl rfl (fun h10 => ?_) (fun h10 => ?_)
    ·refine uL ?_
     refine qs rfl (OT.cut tab rTree a.num.toNat h.kids.len h4 rfl rfl rfl rfl rfl rfl rfl (.inr (by rw [hnum])) (.inl ⟨rfl,rfl⟩) (by omega) (by omega) (fun s2 hs2 => ?_))
     rw [aT (by omega)] at hs2
     refine uA ?_
     refine oC goes40 ((pall_law _ _ s2 _ hs2 34 Tree.isType hp).x ?_);
     rintro _ _ _ ⟨rfl,rfl,rfl⟩
     refine uA ?_
     refine bu rfl uS ⟨rfl,rfl, ?_⟩
     rw [pre,h10];rfl
    ·refine uA ?_
     refine bu rfl uS ⟨rfl,rfl, ?_⟩
     rw [pre,h10];rfl
   ·refine uA ?_
    refine bu rfl uS ⟨rfl,rfl, ?_⟩
    unfold Tree.isSig
    rw [aH hn.1,aH hn.2,aH (show 0 ≤ a.num by omega),aI (show ¬ a.num ≤ (a.kids.length : Int) by omega)];rfl
  ·refine uA ?_
   refine bu rfl uS ⟨rfl,rfl, ?_⟩
   unfold Tree.isSig
   rw [aH hn.1,aH hn.2,aI (show ¬ 0 ≤ a.num by omega)];rfl
 ·refine uA ?_
  refine bu rfl uS ⟨rfl,rfl, ?_⟩
  have hn : ¬ (a.kind=7∧a.name=[]):=by unfold bareB at h7;rw [← h1];simpa using h7
  unfold Tree.isSig
  rw [← bf,← Bool.decide_and,aI hn];rfl
end Go.Sep


/- PsConcat -/
namespace Go.Sep
open Go.Proofs
attribute [local irreducible] TC TO OT TCallX TCall DO DOt thenQ blockQ retQ At
abbrev rSlS:=rSl rStr
theorem growS_law (m : Mem) (L : List Item) (n : Nat) (hB : n * 16 ≤ 140737488355328) : TCall Tryz.prog 194 ⟨[.slice none 0 0, .int .i64 (n : Int)]⟩ m L (fun r m' L'=>m=m' ∧ ∃ s : Sl,r=s.v∧Own s∧SlRep rStr m s []∧L' = tok s 1 :: L):=by
 unfold TCall
 refine bw Tryz.func194 rfl 27 rfl ?_
 refine uA ?_
 refine qs rfl (OT.cap (s:=⟨none,0,0⟩) tab rfl rfl rfl rfl rfl ?_)
 refine uA ?_
 refine qs rfl (bK (r':=((0 : Nat) : Int)) rfl rfl rfl rfl rfl rfl rfl (by omega) ?_)
 refine uA ?_
 refine qs rfl (bK (r':=(n : Int)) rfl rfl rfl rfl rfl rfl (by simp) (by omega) ?_)
 refine uA ?_
 refine bq rfl (fun e2 => ?_) (fun e2 => ?_)
 ·refine uA ?_
  refine qs rfl (OT.cap (s:=⟨none,0,0⟩) tab rfl rfl rfl rfl rfl ?_)
  refine uA ?_
  refine qs rfl (OT.cutS tab 0 0 (s:=⟨none,0,0⟩) rfl rfl rfl rfl rfl rfl rfl (.inl ⟨rfl,rfl⟩) (.inr rfl) (av _) (av _) ?_)
  refine uA ?_
  refine qs rfl (OT.growNil tab (z:=n) (by omega) rfl rfl rfl rfl rfl rfl rfl rfl rfl (sz:=1) rfl rfl hB (fun b c hc => ?_))
  refine uA ?_
  refine qs rfl (OT.cutP tab 0 0 rfl rfl rfl rfl rfl rfl rfl (.inl ⟨rfl,rfl⟩) (.inr rfl) (av _) (aU _) ?_)
  refine uA ?_
  refine bu rfl (L' := .room b 0 (c * 1) :: L) uS ⟨rfl,⟨some ⟨b,0,none⟩,0,c⟩, ?_, .inr ⟨b,0,rfl⟩,⟨rfl,aU _,by simp,[],trivial, .inl ⟨rfl,fun e=>by cases e⟩⟩,by simp [tok]⟩
  simp only [Nat.sub_self,Nat.sub_zero,Nat.zero_mul,Nat.add_zero,ite_self]
 ·refine TC.grow0 (size:=1) ?_
  refine uA ?_
  exact bu rfl (L':=tok ⟨none,0,0⟩ 1 :: L) uS ⟨rfl,⟨none,0,0⟩,rfl, .inl rfl,bN _ _,rfl⟩
theorem concatS_law (m : Mem) (L : List Item) (s : Sl) (ls : List (List Str)) (hs : SlRep (rSl rStr) m s ls) (hB : (ls.map List.length).sum * 16 ≤ 140737488355328) : TCall Tryz.prog 179 ⟨[s.v]⟩ m L (Made m L fun r m' => ∃ t : Sl,r=t.v∧SlRep rStr m' t ls.flatten):=by
 have hl:=hs.len
 have hsm:=hs.small rfl
 have hpre : ∀ k,((ls.take k).map List.length).sum ≤ (ls.map List.length).sum:=fun k=>by
  conv=>rhs;rw [← aV k ls]
  rw [aZ,List.sum_append];omega
 unfold TCall
 refine bw Tryz.func179 rfl 36 rfl ?_
 refine uA ?_
 refine br (ι:=Nat) [0,9,10] rfl (fun k=>[(11, .int .i64 (k : Int)),(3, .int .i64 ((((ls.take k).map List.length).sum : Nat) : Int))]) (fun _=>m) (fun _=>L) (fun k=>k ≤ ls.length) (fun k=>ls.length - k) 0 uH rfl uS (aU _) ?_
 rintro k hk
 refine uA ?_
 refine bq rfl (fun h => ?_) (fun h => ?_)
 ·have hlt : k < ls.length:=by omega
  have hx : ls[k]? = some ls[k]:=by simp [hlt]
  have hp1:=hpre (k + 1)
  have hp0 : ((ls.take (k + 1)).map List.length).sum=((ls.take k).map List.length).sum + ls[k].length:=by
   rw [aX hlt,aZ,List.sum_append];simp only [ax,ay,List.sum_cons,List.sum_nil,Nat.add_zero]
  refine uA ?_
  refine qs rfl (bO tab rSlS k hs rfl rfl rfl rfl rfl (by first | rfl | omega | (simp only;omega)) rfl hx ?_)
  rintro b' i' s' hrd hA
  have hl' : s'.len=ls[k].length:=hrd.len
  refine uA ?_
  (first | refine qs rfl (OT.loadA tab hA rfl rfl rfl rfl rfl ?_) | refine oL tab hA ?_)
  refine uA ?_
  refine qs rfl (bK (r':=((((ls.take (k + 1)).map List.length).sum : Nat) : Int)) rfl rfl rfl rfl rfl rfl (by omega) (by omega) ?_)
  refine uA ?_
  refine qs rfl (bK (r':=((k + 1 : Nat) : Int)) rfl rfl rfl rfl rfl rfl rfl (by omega) ?_)
  refine uA ?_
  exact ⟨k + 1,uH,uH,rfl,rfl,uS,by omega,by omega⟩
 ·have hpk:=hpre k
  refine uA ?_
  refine oC goes194 ((growS_law m _ ((ls.take k).map List.length).sum (by omega)).x ?_);
  rintro _ _ _ ⟨rfl,t,rfl,ho,hr,rfl⟩
  refine uA ?_
  refine br (ι:=Nat × Sl × Mem) [0,25,26] rfl (fun x=>[(27, .int .i64 (x.1 : Int)),(6,x.2.1.v)]) (fun x=>x.2.2) (fun x=>tok x.2.1 1 :: L) (fun x=>x.1 ≤ ls.length∧m ≤ x.2.2∧Own x.2.1∧SlRep rStr x.2.2 x.2.1 (ls.take x.1).flatten) (fun x=>ls.length - x.1) (0,t,m) uH rfl uS ⟨aU _,bm _,ho,hr⟩ ?_
  rintro ⟨j,u,m1⟩ ⟨hj,hm1,ho1,hr1⟩
  simp only at hj hm1 ho1 hr1 ⊢
  have hs1:=hs.mono hm1
  refine uA ?_
  refine bq rfl (fun h2 => ?_) (fun h2 => ?_)
  ·have hlt : j < ls.length:=by omega
   have hx : ls[j]? = some ls[j]:=by simp [hlt]
   have hp1:=hpre (j + 1)
   have hp0 : ((ls.take (j + 1)).map List.length).sum=((ls.take j).map List.length).sum + ls[j].length:=by
    rw [aX hlt,aZ,List.sum_append];simp only [ax,ay,List.sum_cons,List.sum_nil,Nat.add_zero]
   have hfl : (ls.take j).flatten.length=((ls.take j).map List.length).sum:=List.length_flatten
   refine uA ?_
   refine qs rfl (bO tab rSlS j hs1 rfl rfl rfl rfl rfl (by first | rfl | omega | (simp only;omega)) rfl hx ?_)
   rintro b' i' s' hrd hA
   (first | refine qs rfl (OT.loadA tab hA rfl rfl rfl rfl rfl ?_) | refine oL tab hA ?_)
   refine uA ?_
   refine qs rfl (bP tab rStr 0 hr1 ho1 hrd rfl rfl rfl rfl rfl rfl rfl (by simp only [rStr];omega) (fun s' m' hm' hs' ho' => ?_))
   refine uA ?_
   refine qs rfl (bK (r':=((j + 1 : Nat) : Int)) rfl rfl rfl rfl rfl rfl rfl (by omega) ?_)
   refine uA ?_
   exact ⟨(j + 1,s',m'),uH,uH,rfl,rfl,uS,⟨by simp only;omega,bn hm1 hm',ho',by rw [aX hlt,List.flatten_append];simpa using hs'⟩,by simp only;omega⟩
  ·rw [aT (by omega)] at hr1
   refine uA ?_
   exact bu rfl (L':=L) uS ⟨hm1,rfl,u,rfl,hr1⟩
end Go.Sep


/- PsPar -/
namespace Go.Sep
attribute [local irreducible] TC TO OT TCallX TCall DO DOt thenQ blockQ retQ At
theorem pfr1 {α : Type} {a0 a1 : α} {l : List α} : (a0 :: a1 :: l).Perm (a1 :: a0 :: l):=ag _ _ _
theorem pfr2 {α : Type} {a0 a1 a2 : α} {l : List α} : (a0 :: a1 :: a2 :: l).Perm (a2 :: a0 :: a1 :: l):=ah (ai _ pfr1) (ag _ _ _)
theorem pfr3 {α : Type} {a0 a1 a2 a3 : α} {l : List α} : (a0 :: a1 :: a2 :: a3 :: l).Perm (a3 :: a0 :: a1 :: a2 :: l):=ah (ai _ pfr2) (ag _ _ _)
theorem pfr4 {α : Type} {a0 a1 a2 a3 a4 : α} {l : List α} : (a0 :: a1 :: a2 :: a3 :: a4 :: l).Perm (a4 :: a0 :: a1 :: a2 :: a3 :: l):=ah (ai _ pfr3) (ag _ _ _)
structure PE where
 src : Str
 list : Sl
 toks : List Tok
 p : Nat
 N : Nat
def PE.f (E : PE) : Ps.F:=fun i=>match E.toks[i]? with
 | some t=>some ⟨t.kind,t.text,t.num⟩
 | none=>none
structure PE.Ok (E : PE) (m : Mem) : Prop where
 rep : SlRep rTok m E.list E.toks
 few : E.toks.length ≤ 20000
 rows : E.N ≤ 20001
 pos : 1 ≤ E.N
theorem PE.Ok.mono {E : PE} {m m' : Mem} (h : E.Ok m) (hm : m ≤ m') : E.Ok m':=⟨h.rep.mono hm,h.few,h.rows,h.pos⟩
@[reducible] def PE.I (E : PE) (k : Nat) (h : Int) : Item := .cells E.p 0 [strV E.src,E.list.v, .int .i64 (k : Int), .int .i64 h]
@[reducible] def PE.v (E : PE) : Value := .pointer (some ⟨E.p,0,none⟩)
def PE.place (E : PE) (k : Nat) : Int:=match E.toks[k]? with
 | some t=>t.at_
 | none=>(E.src.length : Int)
def PE.flt (E : PE) (k : Nat) : List PanicEntry:=[{ v := .iface 53 (.agg ⟨[.int .i64 (E.place k)]⟩),recovered:=false }]
abbrev RV (α : Type):=Mem→Value→List Item → α → Prop
def vTree : RV Tree:=fun m v X t => ∃ h,v=treeV h∧X=[]∧TreeRep m h t
def vList : RV (List Tree):=fun m v X l => ∃ s,v=s.v∧X=[tok s 4]∧SlRep rTree m s l∧Own s∧l.length ≤ 20001
def vSl : RV (List Tree):=fun m v X l => ∃ s,v=s.v∧X=[]∧SlRep rTree m s l∧l.length ≤ 20001
def pR {α : Type} (E : PE) (V : RV α) (T : Ps.Res α) (m : Mem) (L : List Item) (h : Int) : Value→Mem→List Item→Prop :=
 fun v m' L' => ∃ a k' xs,T = .ok a k' ∧ m ≤ m' ∧ k' ≤ E.toks.length∧V m' v xs a∧L' = E.I k' h :: (xs++L)
def pX {α : Type} (E : PE) (T : Ps.Res α) (m : Mem) (L : List Item) : List PanicEntry→Mem→List Item→Prop :=
 fun ch m' L' => ∃ k' h',T = .bad k' ∧ m ≤ m' ∧ k' ≤ E.toks.length∧ch=E.flt k' ∧ L' = E.I k' h' :: L
def Par {α : Type} (P : Program) (mb : Mem) (E : PE) (V : RV α) (f : FuncId) (args : List Value) (h : Int) (X : Ps.Pp α) : Prop :=
 ∀ (m : Mem) (L : List Item) (k : Nat),mb ≤ m→E.Ok m→k ≤ E.toks.length→X E.f k ≠ .out→TCallX P f ⟨args⟩ m (E.I k h :: L) (pR E V (X E.f k) m L h) (pX E (X E.f k) m L)
theorem Par.enter {α : Type} {P : Program} {mb : Mem} {E : PE} {V : RV α} {f : FuncId} {args : List Value} {h : Int} {X : Ps.Pp α} {fn : Func} {c : Code} (hf : P.funcs[f]? = some fn) (hb : fn.body=some c) (N : Nat) (hN : Nat.ble N fn.ntmps=true)
  (hK : ∀ (m : Mem) (L : List Item) (k : Nat) (T : Ps.Res α),mb ≤ m→E.Ok m→k ≤ E.toks.length→T=X E.f k→T ≠ .out→TC P N c (argEnv args 0) [] m (E.I k h :: L) (retQ P fn (pR E V T m L h) (pX E T m L))) : Par P mb E V f args h X :=
 fun m L k h0 h1 h2 h3=>bw hf hb N hN (hK m L k _ h0 h1 h2 rfl h3)
theorem Par.up {α : Type} {P : Program} {mb mb' : Mem} {E : PE} {V : RV α} {f : FuncId} {args : List Value} {h : Int} {X : Ps.Pp α} (hp : Par P mb E V f args h X) (hm : mb ≤ mb') : Par P mb' E V f args h X:=fun m L k h0=>hp m L k (bn hm h0)
def Bad {β : Type} (Q : EPost) (E : PE) (T : Ps.Res β) (m : Mem) (L : List Item) : Prop := ∀ ρ m' k h L',m ≤ m' → k ≤ E.toks.length→T = .bad k→L.Sublist L' → Q (.panic (E.flt k)) ρ [] m' (E.I k h :: L')
theorem Bad.ret {β : Type} {P : Program} {fn : Func} {R : Value→Mem→List Item→Prop} {E : PE} {T : Ps.Res β} {m : Mem} {L : List Item} : Bad (retQ P fn R (pX E T m L)) E T m L :=
 fun ρ m' k h L' h1 h2 h3 h4=>retQ_p (L':=E.I k h :: L) (aN _ h4) ⟨k,h,h3,h1,h2,rfl,rfl⟩
theorem Bad.then {β : Type} {Q : EPost} {K : Env→List Deferred→Mem→List Item→Prop} {E : PE} {T : Ps.Res β} {m : Mem} {L : List Item} (h : Bad Q E T m L) : Bad (thenQ K Q) E T m L:=fun ρ m' k hd L' h1 h2 h3 h4=>thenQ_p (h ρ m' k hd L' h1 h2 h3 h4)
theorem Bad.block {β : Type} {Q : EPost} {i : Nat} {E : PE} {T : Ps.Res β} {m : Mem} {L : List Item} (h : Bad Q E T m L) : Bad (blockQ i Q) E T m L:=fun ρ m' k hd L' h1 h2 h3 h4=>blockQ_p (h ρ m' k hd L' h1 h2 h3 h4)
theorem Bad.le {β : Type} {Q : EPost} {E : PE} {T : Ps.Res β} {m m' : Mem} {L : List Item} (h : Bad Q E T m L) (hm : m ≤ m') : Bad Q E T m' L:=fun ρ m2 k hd L' h1 h2 h3 h4=>h ρ m2 k hd L' (bn hm h1) h2 h3 h4
theorem bind_out' {α β : Type} {p : Ps.Pp α} {g : α → Ps.Pp β} {f : Ps.F} {k : Nat} {T : Ps.Res β} (hT : T=Ps.bind p g f k) (hn : T ≠ .out) : p f k ≠ .out:=fun h=>hn (by rw [hT];unfold Ps.bind;rw [h])
section
variable {P : Program} {N : Nat} {ρ : Env} {m : Mem} {L : List Item} {Q : EPost} {o : Oper} {K : Env→Mem→List Item→Prop} {E : PE} {α β : Type}
theorem OT.parG {V : RV α} {FF : Operand} {args : List Operand} {ats : Array TypeId} {f : FuncId} {first cap vs all : List Value} {d : Nat} {h : Int} {p : Ps.Pp α} {g : α → Ps.Pp β} {T : Ps.Res β} {k : Nat} {m0 mb : Mem} {L0 : List Item}
  (ho : o.op = .call ⟨.value FF,⟨args⟩,ats⟩) (hd : o.dst=some d) (hN : Nat.blt d N=true)
  (hF : ev ρ FF=some (.func (.func f) ⟨first⟩ ⟨cap⟩)) (ha : evs ρ args=some vs) (hall : fl (first++(vs++cap))=some all) (hg : Goes P f)
  (hp : Par P mb E V f all h p) (hq : mb ≤ m) (hT : T=Ps.bind p g E.f k) (hn : T ≠ .out) (hE : E.Ok m) (hk : k ≤ E.toks.length) (hb : Bad Q E T m0 L0) (hm : m0 ≤ m) (hL : L0.Sublist L)
  (hK : ∀ v m' a k' xs,T=g a E.f k' → m ≤ m' → k' ≤ E.toks.length→V m' v xs a→K ((d,v) :: ρ) m' (E.I k' h :: (xs++L))) : OT P N o ρ [] m (E.I k h :: L) Q K:=by
 refine bM ho hd hN hF ha hall hg (TCallX.mono (hp m L k hq hE hk (bind_out' hT hn)) ?_ ?_)
 ·rintro v m' L' ⟨a,k',xs,h1,h2,h3,h4,rfl⟩
  exact hK v m' a k' xs (by rw [hT];unfold Ps.bind;rw [h1]) h2 h3 h4
 ·rintro ch m' L' ⟨k',h',h1,h2,h3,rfl,rfl⟩
  exact hb _ _ _ _ _ (bn hm h2) h3 (by rw [hT];unfold Ps.bind;rw [h1]) hL
section
variable {FF : Operand} {args : List Operand} {ats : Array TypeId} {f : FuncId} {first cap vs all : List Value} {d : Nat} {h : Int} {T : Ps.Res β} {k : Nat} {m0 mb : Mem} {L0 : List Item}
theorem OT.parT {p : Ps.Pp Tree} {g : Tree→Ps.Pp β} (hp : Par P mb E vTree f all h p) (hq : mb ≤ m) (hT : T=Ps.bind p g E.f k) (hn : T ≠ .out) (hE : E.Ok m) (hk : k ≤ E.toks.length) (hb : Bad Q E T m0 L0) (hm : m0 ≤ m) (hL : L0.Sublist L)
  (ho : o.op = .call ⟨.value FF,⟨args⟩,ats⟩) (hd : o.dst=some d) (hN : Nat.blt d N=true)
  (hF : ev ρ FF=some (.func (.func f) ⟨first⟩ ⟨cap⟩)) (ha : evs ρ args=some vs) (hall : fl (first++(vs++cap))=some all) (hg : Goes P f)
  (hK : ∀ x m' a k',T=g a E.f k' → m0 ≤ m' → E.Ok m' → m ≤ m' → k' ≤ E.toks.length→TreeRep m' x a→K ((d,treeV x) :: ρ) m' (E.I k' h :: L)) : OT P N o ρ [] m (E.I k h :: L) Q K :=
 OT.parG ho hd hN hF ha hall hg hp hq hT hn hE hk hb hm hL fun v m' a k' xs h1 h2 h3 h4=>by
  obtain ⟨x,rfl,rfl,h5⟩:=h4
  exact hK x m' a k' h1 (bn hm h2) (hE.mono h2) h2 h3 h5
theorem OT.parL {p : Ps.Pp (List Tree)} {g : List Tree→Ps.Pp β} (hp : Par P mb E vList f all h p) (hq : mb ≤ m) (hT : T=Ps.bind p g E.f k) (hn : T ≠ .out) (hE : E.Ok m) (hk : k ≤ E.toks.length) (hb : Bad Q E T m0 L0) (hm : m0 ≤ m) (hL : L0.Sublist L)
  (ho : o.op = .call ⟨.value FF,⟨args⟩,ats⟩) (hd : o.dst=some d) (hN : Nat.blt d N=true)
  (hF : ev ρ FF=some (.func (.func f) ⟨first⟩ ⟨cap⟩)) (ha : evs ρ args=some vs) (hall : fl (first++(vs++cap))=some all) (hg : Goes P f)
  (hK : ∀ (x : Sl) m' a k',T=g a E.f k' → m0 ≤ m' → E.Ok m' → m ≤ m' → k' ≤ E.toks.length→SlRep rTree m' x a→Own x→a.length ≤ 20001→K ((d,x.v) :: ρ) m' (E.I k' h :: tok x 4 :: L)) : OT P N o ρ [] m (E.I k h :: L) Q K :=
 OT.parG ho hd hN hF ha hall hg hp hq hT hn hE hk hb hm hL fun v m' a k' xs h1 h2 h3 h4=>by
  obtain ⟨x,rfl,rfl,h5,h6,h7⟩:=h4
  exact hK x m' a k' h1 (bn hm h2) (hE.mono h2) h2 h3 h5 h6 h7
theorem OT.parS {p : Ps.Pp (List Tree)} {g : List Tree→Ps.Pp β} (hp : Par P mb E vSl f all h p) (hq : mb ≤ m) (hT : T=Ps.bind p g E.f k) (hn : T ≠ .out) (hE : E.Ok m) (hk : k ≤ E.toks.length) (hb : Bad Q E T m0 L0) (hm : m0 ≤ m) (hL : L0.Sublist L)
  (ho : o.op = .call ⟨.value FF,⟨args⟩,ats⟩) (hd : o.dst=some d) (hN : Nat.blt d N=true)
  (hF : ev ρ FF=some (.func (.func f) ⟨first⟩ ⟨cap⟩)) (ha : evs ρ args=some vs) (hall : fl (first++(vs++cap))=some all) (hg : Goes P f)
  (hK : ∀ (x : Sl) m' a k',T=g a E.f k' → m0 ≤ m' → E.Ok m' → m ≤ m' → k' ≤ E.toks.length→SlRep rTree m' x a→a.length ≤ 20001→K ((d,x.v) :: ρ) m' (E.I k' h :: L)) : OT P N o ρ [] m (E.I k h :: L) Q K :=
 OT.parG ho hd hN hF ha hall hg hp hq hT hn hE hk hb hm hL fun v m' a k' xs h1 h2 h3 h4=>by
  obtain ⟨x,rfl,rfl,h5,h6⟩:=h4
  exact hK x m' a k' h1 (bn hm h2) (hE.mono h2) h2 h3 h5 h6
end
theorem DOt.perm {ops : List Oper} {ts : List Nat} {fuel : Nat} {listed : List Bool} {D : List Deferred} {L' : List Item} (hp : L.Perm L') (h : DOt P N ops ts fuel listed ρ D m L' Q) : DOt P N ops ts fuel listed ρ D m L Q:=by
 unfold DOt at h ⊢
 exact fun a w ha=>h a w (ha.perm hp)
end
end Go.Sep
namespace Go
abbrev cy := @Sep.Par.enter
abbrev cz := @Sep.Bad.ret
abbrev cA := @Sep.Bad.then
abbrev cB := @Sep.Bad.block
abbrev cC := @Sep.OT.parT
end Go

/- PsW1 -/
namespace Go.Sep
open Go.Proofs
attribute [local irreducible] TC TO OT TCallX TCall DO DOt thenQ blockQ retQ At
theorem PE.f_some {E : PE} {k : Nat} (h : k < E.toks.length) : E.f k=some ⟨(E.toks[k]).kind,(E.toks[k]).text,(E.toks[k]).num⟩:=by
 unfold PE.f;rw [ak h]
theorem PE.f_none {E : PE} {k : Nat} (h : E.toks.length ≤ k) : E.f k=none:=by
 unfold PE.f;rw [au h]
theorem PE.isM {E : PE} {k : Nat} (h : k < E.toks.length) (s : Str) : Ps.isM s E.f k=((decide ((E.toks[k]).kind=4) || decide ((E.toks[k]).kind=5)) && decide ((E.toks[k]).text=s)):=by
 unfold Ps.isM;rw [PE.f_some h]
theorem PE.isM_no {E : PE} {k : Nat} (h : E.toks.length ≤ k) (s : Str) : Ps.isM s E.f k=false:=by
 unfold Ps.isM;rw [PE.f_none h]
theorem PE.isK {E : PE} {k : Nat} (h : k < E.toks.length) (c : Int) : Ps.isK c E.f k=decide ((E.toks[k]).kind=c):=by
 unfold Ps.isK;rw [PE.f_some h]
theorem PE.isK_no {E : PE} {k : Nat} (h : E.toks.length ≤ k) (c : Int) : Ps.isK c E.f k=false:=by
 unfold Ps.isK;rw [PE.f_none h]
section
variable {E : PE} {m : Mem} {L : List Item} {k : Nat} {h : Int}
theorem peek_law (s : Str) (hE : E.Ok m) (hk : k ≤ E.toks.length) : TCall Tryz.prog 142 ⟨[E.v,strV s]⟩ m (E.I k h :: L) (Ret (.bool (Ps.isM s E.f k)) m (E.I k h :: L)):=by
 have hlen:=hE.rep.len
 have hfew:=hE.few
 unfold TCall
 refine bw Tryz.func142 rfl 40 rfl ?_
 refine uA ?_
 refine bR [] cr 10 rfl ?_
 refine bV tab uC uK [0,1,2] uK rfl ?_
 (refine bW tab 3 0 uC uK uK rfl rfl rfl rfl rfl rfl rfl rfl ?_)
 refine bV tab uC uK [4,5,6] uK rfl ?_
 (refine bW tab 7 0 uC uK uK rfl rfl rfl rfl rfl rfl rfl rfl ?_)
 refine bV tab uC uK [8,9] uK rfl ?_
 (refine ca uK ?_)
 rotate_left 1
 refine uA ?_
 refine bq rfl (fun c0 => ?_) (fun c0 => ?_)
 ·refine uA ?_
  refine bu rfl uS ⟨rfl,rfl, ?_⟩
  rw [PE.isM_no (by omega)]
 have hlt : k < E.toks.length:=by omega
 have hx : E.toks[k]? = some E.toks[k]:=ak hlt
 refine uA ?_
 refine bQ [11] cr 12 rfl [E.I k h] L uP ?_
 refine bV tab uC uK [0,1,2] uK rfl ?_
 (refine bW tab 3 0 uC uK uK rfl rfl rfl rfl rfl rfl rfl rfl ?_)
 refine bV tab uC uK [4,5,6] uK rfl ?_
 (refine bW tab 7 0 uC uK uK rfl rfl rfl rfl rfl rfl rfl rfl ?_)
 refine bY tab rTok 8 k hE.rep uC uK uK rfl rfl rfl rfl rfl rfl rfl (by first | rfl | omega) rfl hx ?_
 rintro b i hd hr hA;obtain rfl:=(show hd=E.toks[k] from hr)
 (refine bX (k:=0) tab 9 hA uC uK uK rfl rfl rfl rfl rfl rfl rfl ?_)
 refine bZ 10 rfl rfl uK rfl ?_
 refine bH tab rfl rfl rfl rfl (fun bx => ?_);refine ⟨bm _, .cells bx 0 [.int .i64 0, .string ⟨#[]⟩, .int .i64 0, .int .i64 0] :: L,ag _ _ _, ?_⟩
 refine DO.tail ?_
 refine DOt.run 11 rfl rfl uK rfl ?_
 refine bJ tab 1 rfl rfl rfl rfl rfl rfl rfl rfl ?_
 refine DOt.nil uK ?_
 rotate_left 1
 repeat' (first|(first|refine q1 ?_|refine q3 ?_|refine q4 tab rfl rfl ?_|refine q5 ?_|refine q6 ?_|refine q15 ?_)|(refine qs rfl (ql tab 1 rfl rfl rfl rfl rfl rfl ?_))|(refine bB rfl rfl (fun hb => ?_) (fun hb => ?_)))
 all_goals
  refine bu rfl uS ⟨rfl,rfl, ?_⟩
  rw [PE.isM hlt]
  simp_all [tokC]
@[reducible] def PE.step (E : PE) (s : Str) (k : Nat) : Nat:=bif Ps.isM s E.f k then k + 1 else k
theorem PE.isM_lt {s : Str} (h : Ps.isM s E.f k=true) : k < E.toks.length:=by
 rcases Nat.lt_or_ge k E.toks.length with hl | hl
 ·exact hl
 ·rw [PE.isM_no hl] at h;cases h
theorem PE.isK_lt {c : Int} (h : Ps.isK c E.f k=true) : k < E.toks.length:=by
 rcases Nat.lt_or_ge k E.toks.length with hl | hl
 ·exact hl
 ·rw [PE.isK_no hl] at h;cases h
theorem take_law (s : Str) (hE : E.Ok m) (hk : k ≤ E.toks.length) : TCall Tryz.prog 110 ⟨[E.v,strV s]⟩ m (E.I k h :: L) (Ret (.bool (Ps.isM s E.f k)) m (E.I (E.step s k) h :: L)):=by
 have hfew:=hE.few
 unfold TCall
 refine bw Tryz.func110 rfl 15 rfl ?_
 refine uA ?_
 refine oC goes142 ((peek_law s hE hk).x ?_);
 rintro _ _ _ ⟨rfl,rfl,rfl⟩
 refine uA ?_
 unfold PE.step
 cases hb : Ps.isM s E.f k with
 | true =>
  refine uA ?_
  refine uM ?_
  refine qs rfl (bK (r':=((k + 1 : Nat) : Int)) rfl rfl rfl rfl rfl rfl rfl (by omega) ?_)
  refine uA ?_
  refine qs rfl (bI (k:=2) tab 0 rfl rfl rfl rfl rfl rfl rfl rfl ?_)
  refine uA ?_
  refine bu rfl (L':=E.I (k + 1) h :: L) uS ⟨rfl,rfl,rfl⟩
 | false =>
  refine uA ?_
  refine bu rfl (L':=E.I k h :: L) uS ⟨rfl,rfl,rfl⟩
theorem place_law (hE : E.Ok m) (hk : k ≤ E.toks.length) : TCall Tryz.prog 174 ⟨[E.v]⟩ m (E.I k h :: L) (Ret (.int .i64 (E.place k)) m (E.I k h :: L)):=by
 have hlen:=hE.rep.len
 have hfew:=hE.few
 unfold TCall
 refine bw Tryz.func174 rfl 29 rfl ?_
 refine uA ?_
 refine bR [] cr 10 rfl ?_
 refine bV tab uC uK [0,1,2] uK rfl ?_
 (refine bW tab 3 0 uC uK uK rfl rfl rfl rfl rfl rfl rfl rfl ?_)
 refine bV tab uC uK [4,5,6] uK rfl ?_
 (refine bW tab 7 0 uC uK uK rfl rfl rfl rfl rfl rfl rfl rfl ?_)
 refine bV tab uC uK [8,9] uK rfl ?_
 (refine ca uK ?_)
 rotate_left 1
 refine uA ?_
 refine bq rfl (fun c0 => ?_) (fun c0 => ?_)
 ·have hlt : k < E.toks.length:=by omega
  have hx : E.toks[k]? = some E.toks[k]:=ak hlt
  refine uA ?_
  refine bR [] cr 12 rfl ?_
  refine bV tab uC uK [0,1,2] uK rfl ?_
  (refine bW tab 3 0 uC uK uK rfl rfl rfl rfl rfl rfl rfl rfl ?_)
  refine bV tab uC uK [4,5,6] uK rfl ?_
  (refine bW tab 7 0 uC uK uK rfl rfl rfl rfl rfl rfl rfl rfl ?_)
  refine bY tab rTok 8 k hE.rep uC uK uK rfl rfl rfl rfl rfl rfl rfl (by first | rfl | omega) rfl hx ?_
  rintro b i hd hr hA;obtain rfl:=(show hd=E.toks[k] from hr)
  refine bV tab uC uK [9] uK rfl ?_
  (refine bX tab 10 hA uC uK uK rfl rfl rfl rfl rfl rfl rfl ?_)
  refine bV tab uC uK [11] uK rfl ?_
  (refine ca uK ?_)
  rotate_left 1
  refine uA ?_
  refine bu rfl uS ⟨rfl,rfl, ?_⟩
  unfold PE.place;rw [hx]
 ·refine uA ?_
  refine uM ?_
  refine uA ?_
  refine bu rfl uS ⟨rfl,rfl, ?_⟩
  unfold PE.place;rw [au (by omega)]
theorem stop_law (hE : E.Ok m) (hk : k ≤ E.toks.length) : TCallX Tryz.prog 144 ⟨[E.v]⟩ m (E.I k h :: L) (fun _ _ _=>False) (fun ch m' L'=>m' = m∧ch=E.flt k∧L' = E.I k h :: L):=by
 refine bw Tryz.func144 rfl 6 rfl ?_
 refine uA ?_
 refine oC goes174 ((place_law hE hk).x ?_);
 rintro _ _ _ ⟨rfl,rfl,rfl⟩
 refine uA ?_
 refine qs rfl (cm tab rfl rfl rfl rfl rfl ?_)
 refine uA ?_
 refine qs rfl (OT.panic rfl rfl ?_)
 exact retQ_p (L':=E.I k h :: L) uS ⟨rfl,rfl,rfl⟩
theorem is_law (c : Int) (hE : E.Ok m) (hk : k ≤ E.toks.length) : TCall Tryz.prog 145 ⟨[E.v, .int .i64 c]⟩ m (E.I k h :: L) (Ret (.bool (Ps.isK c E.f k)) m (E.I k h :: L)):=by
 have hlen:=hE.rep.len
 have hfew:=hE.few
 unfold TCall
 refine bw Tryz.func145 rfl 30 rfl ?_
 refine uA ?_
 rcases Nat.lt_or_ge k E.toks.length with hlt | hge
 ·have hx : E.toks[k]? = some E.toks[k]:=ak hlt
  refine bR [] cr 26 rfl ?_
  refine bV tab uC uK [0,1,2] uK rfl ?_
  (refine bW tab 3 0 uC uK uK rfl rfl rfl rfl rfl rfl rfl rfl ?_)
  refine bV tab uC uK [4,5,6] uK rfl ?_
  (refine bW tab 7 0 uC uK uK rfl rfl rfl rfl rfl rfl rfl rfl ?_)
  refine bV tab uC uK [8,9,10] uK rfl ?_
  (refine DO.splitP (d:=15) rfl (fun hg10 => ?_) (fun hg10 => ?_))
  refine bV tab uC uK [11,12,13] uK rfl ?_
  (refine bW tab 14 0 uC uK uK rfl rfl rfl rfl rfl rfl rfl rfl ?_)
  refine bV tab uC uK [15,16,17] uK rfl ?_
  (refine bW tab 18 0 uC uK uK rfl rfl rfl rfl rfl rfl rfl rfl ?_)
  refine bY tab rTok 19 k hE.rep uC uK uK rfl rfl rfl rfl rfl rfl rfl (by first | rfl | omega) rfl hx ?_
  rintro b i hd hr hA;obtain rfl:=(show hd=E.toks[k] from hr)
  refine bV tab uC uK [20] uK rfl ?_
  (refine bX tab 21 hA uC uK uK rfl rfl rfl rfl rfl rfl rfl ?_)
  refine bV tab uC uK [22,23,24,25] uK rfl ?_
  (refine ca uK ?_)
  rotate_left 1
  ·first | (exfalso;omega) | exact absurd rfl hg10 | exact absurd (by assumption) hg10 | contradiction
  refine uA ?_
  refine bu rfl uS ⟨rfl,rfl, ?_⟩
  rw [PE.isK hlt]
 ·refine bR [] cr 26 rfl ?_
  refine bV tab uC uK [0,1,2] uK rfl ?_
  (refine bW tab 3 0 uC uK uK rfl rfl rfl rfl rfl rfl rfl rfl ?_)
  refine bV tab uC uK [4,5,6] uK rfl ?_
  (refine bW tab 7 0 uC uK uK rfl rfl rfl rfl rfl rfl rfl rfl ?_)
  refine bV tab uC uK [8,9,10] uK rfl ?_
  (refine DO.splitP (d:=15) rfl (fun hg10 => ?_) (fun hg10 => ?_))
  ·first | (exfalso;omega) | exact absurd rfl hg10 | exact absurd (by assumption) hg10 | contradiction
  refine bV tab uC uK [11,12,13,14,15,16,17,18,19,20,21,22,23,24,25] uK rfl ?_
  (refine ca uK ?_)
  rotate_left 1
  refine uA ?_
  refine bu rfl uS ⟨rfl,rfl, ?_⟩
  rw [PE.isK_no hge]
end
end Go.Sep


/- PsW2 -/
namespace Go.Ps
variable {α β : Type}
theorem tok_t {s : Sep.Str} {A B : Pp α} {f : F} {k : Nat} (h : isM s f k=true) : tok s A B f k=A f (k + 1):=by unfold tok;rw [h];rfl
theorem tok_f {s : Sep.Str} {A B : Pp α} {f : F} {k : Nat} (h : isM s f k=false) : tok s A B f k=B f k:=by unfold tok;rw [h];rfl
theorem peek_t' {q : F→Nat→Bool} {A B : Pp α} {f : F} {k : Nat} (h : q f k=true) : peek q A B f k=A f k:=by unfold peek;rw [h];rfl
theorem peek_f' {q : F→Nat→Bool} {A B : Pp α} {f : F} {k : Nat} (h : q f k=false) : peek q A B f k=B f k:=by unfold peek;rw [h];rfl
theorem name_t {A : Sep.Str→Pp α} {f : F} {k : Nat} {t : Tk} (h : f k=some t) (hk : t.kind=1) : name A f k=A t.text f (k + 1):=by
 unfold name tkn;rw [h];simp only [hk];rfl
theorem name_f {A : Sep.Str→Pp α} {f : F} {k : Nat} (h : isK 1 f k=false) : name A f k = .bad k:=by
 unfold isK at h
 unfold name tkn
 cases hf : f k with
 | none=>rfl
 | some t=>rw [hf] at h;simp only at h;simp only [h];rfl
end Go.Ps
namespace Go.Sep
open Go.Proofs
attribute [local irreducible] TC TO OT TCallX TCall DO DOt thenQ blockQ retQ At
section
variable {E : PE} {m : Mem} {L : List Item} {k : Nat} {h : Int}
theorem need_law (s : Str) (hE : E.Ok m) (hk : k ≤ E.toks.length) : TCallX Tryz.prog 112 ⟨[E.v,strV s]⟩ m (E.I k h :: L)
  (fun v m' L'=>m' = m∧v = .tuple ⟨[]⟩ ∧ Ps.isM s E.f k=true∧L' = E.I (k + 1) h :: L) (fun ch m' L'=>m' = m∧Ps.isM s E.f k=false∧ch=E.flt k∧L' = E.I k h :: L):=by
 refine bw Tryz.func112 rfl 10 rfl ?_
 refine uA ?_
 refine oC goes110 ((take_law s hE hk).x ?_);
 rintro _ _ _ ⟨rfl,rfl,rfl⟩
 refine uA ?_
 unfold PE.step
 cases hb : Ps.isM s E.f k with
 | true =>
  refine uA ?_
  refine bv rfl (L':=E.I (k + 1) h :: L) uS ⟨rfl,rfl,rfl,rfl⟩
 | false =>
  refine uA ?_
  refine oC goes144 (TCallX.mono (stop_law hE hk) (fun _ _ _ hf=>hf.elim) ?_)
  rintro _ _ _ ⟨rfl,rfl,rfl⟩
  skip
  exact retQ_p (L':=E.I k h :: L) uS ⟨rfl,rfl,rfl,rfl⟩
theorem pname_law (hE : E.Ok m) (hk : k ≤ E.toks.length) : TCallX Tryz.prog 113 ⟨[E.v]⟩ m (E.I k h :: L)
  (fun v m' L'=>m' = m ∧ ∃ t,E.f k=some t∧t.kind=1∧v=strV t.text∧k + 1 ≤ E.toks.length∧L' = E.I (k + 1) h :: L) (fun ch m' L'=>m' = m∧Ps.isK 1 E.f k=false∧ch=E.flt k∧L' = E.I k h :: L):=by
 refine bw Tryz.func113 rfl 27 rfl ?_
 have hlen:=hE.rep.len
 have hfew:=hE.few
 refine uA ?_
 refine oC goes145 ((is_law 1 hE hk).x ?_);
 rintro _ _ _ ⟨rfl,rfl,rfl⟩
 refine uA ?_
 cases hb : Ps.isK 1 E.f k with
 | true =>
  have hlt:=PE.isK_lt hb
  have hx : E.toks[k]? = some E.toks[k]:=ak hlt
  have hkind : E.toks[k].kind=1:=by rw [PE.isK hlt] at hb;simpa using hb
  refine uA ?_
  refine uM ?_
  refine qs rfl (bK (r':=((k + 1 : Nat) : Int)) rfl rfl rfl rfl rfl rfl rfl (by omega) ?_)
  refine uA ?_
  refine qs rfl (bI (k:=2) tab 0 rfl rfl rfl rfl rfl rfl rfl rfl ?_)
  refine uA ?_
  refine bR [] cr 13 rfl ?_
  refine bV tab uC uK [0,1,2] uK rfl ?_
  (refine bW tab 3 0 uC uK uK rfl rfl rfl rfl rfl rfl rfl rfl ?_)
  refine bV tab uC uK [4,5,6] uK rfl ?_
  (refine bW tab 7 0 uC uK uK rfl rfl rfl rfl rfl rfl rfl rfl ?_)
  refine DO.arith 8 (r':=((k : Nat) : Int)) uC uK uK rfl rfl rfl rfl rfl rfl rfl rfl (by first | rfl | omega | (simp only;omega)) (by omega) ?_
  refine bY tab rTok 9 k hE.rep uC uK uK rfl rfl rfl rfl rfl rfl rfl (by first | rfl | omega) rfl hx ?_
  rintro b i hd hr hA;obtain rfl:=(show hd=E.toks[k] from hr)
  refine bV tab uC uK [10] uK rfl ?_
  (refine bX tab 11 hA uC uK uK rfl rfl rfl rfl rfl rfl rfl ?_)
  refine bV tab uC uK [12] uK rfl ?_
  (refine ca uK ?_)
  rotate_left 1
  refine uA ?_
  refine bu rfl (L':=E.I (k + 1) h :: L) uS ⟨rfl,_,PE.f_some hlt,hkind,rfl,hlt,rfl⟩
 | false =>
  refine uA ?_
  refine oC goes144 (TCallX.mono (stop_law hE hk) (fun _ _ _ hf=>hf.elim) ?_)
  rintro _ _ _ ⟨rfl,rfl,rfl⟩
  repeat (refine thenQ_p ?_)
  exact retQ_p (L':=E.I k h :: L) uS ⟨rfl,rfl,rfl,rfl⟩
end
section
variable {P : Program} {N : Nat} {ρ : Env} {m : Mem} {L : List Item} {Q : EPost} {o : Oper} {K : Env→Mem→List Item→Prop} {E : PE} {α β : Type}
 {FF : Operand} {args : List Operand} {ats : Array TypeId} {first cap vs : List Value} {d : Nat} {h : Int} {T : Ps.Res β} {k : Nat} {m0 : Mem} {L0 : List Item} {s : Str} {A B : Ps.Pp β}
theorem OT.takeP {D : List Deferred} (hT : T=Ps.tok s A B E.f k) (hE : E.Ok m) (hk : k ≤ E.toks.length)
  (ho : o.op = .call ⟨.value FF,⟨args⟩,ats⟩) (hd : o.dst=some d) (hN : Nat.blt d N=true)
  (hF : ev ρ FF=some (.func (.func 110) ⟨first⟩ ⟨cap⟩)) (ha : evs ρ args=some vs) (hall : fl (first++(vs++cap))=some [E.v,strV s])
  (h1 : T=A E.f (k + 1)→k + 1 ≤ E.toks.length→K ((d, .bool true) :: ρ) m (E.I (k + 1) h :: L)) (h2 : T=B E.f k→K ((d, .bool false) :: ρ) m (E.I k h :: L)) : OT Tryz.prog N o ρ D m (E.I k h :: L) Q K:=by
 refine bM ho hd hN hF ha hall goes110 ((take_law s hE hk).x ?_)
 rintro _ _ _ ⟨rfl,rfl,rfl⟩
 unfold PE.step
 cases hb : Ps.isM s E.f k with
 | true=>exact h1 (hT.trans (Ps.tok_t hb)) (PE.isM_lt hb)
 | false=>exact h2 (hT.trans (Ps.tok_f hb))
theorem OT.peekP {D : List Deferred} (hT : T=Ps.peek (Ps.isM s) A B E.f k) (hE : E.Ok m) (hk : k ≤ E.toks.length)
  (ho : o.op = .call ⟨.value FF,⟨args⟩,ats⟩) (hd : o.dst=some d) (hN : Nat.blt d N=true)
  (hF : ev ρ FF=some (.func (.func 142) ⟨first⟩ ⟨cap⟩)) (ha : evs ρ args=some vs) (hall : fl (first++(vs++cap))=some [E.v,strV s])
  (h1 : T=A E.f k→K ((d, .bool true) :: ρ) m (E.I k h :: L)) (h2 : T=B E.f k→K ((d, .bool false) :: ρ) m (E.I k h :: L)) : OT Tryz.prog N o ρ D m (E.I k h :: L) Q K:=by
 refine bM ho hd hN hF ha hall goes142 ((peek_law s hE hk).x ?_)
 rintro _ _ _ ⟨rfl,rfl,rfl⟩
 cases hb : Ps.isM s E.f k with
 | true=>exact h1 (hT.trans (Ps.peek_t' hb))
 | false=>exact h2 (hT.trans (Ps.peek_f' hb))
theorem OT.needP (hT : T=Ps.need s A E.f k) (hE : E.Ok m) (hk : k ≤ E.toks.length) (hb : Bad Q E T m0 L0) (hm : m0 ≤ m) (hL : L0.Sublist L)
  (ho : o.op = .call ⟨.value FF,⟨args⟩,ats⟩) (hd : o.dst=some d) (hN : Nat.blt d N=true)
  (hF : ev ρ FF=some (.func (.func 112) ⟨first⟩ ⟨cap⟩)) (ha : evs ρ args=some vs) (hall : fl (first++(vs++cap))=some [E.v,strV s])
  (hK : T=A E.f (k + 1)→k + 1 ≤ E.toks.length→K ((d, .tuple ⟨[]⟩) :: ρ) m (E.I (k + 1) h :: L)) : OT Tryz.prog N o ρ [] m (E.I k h :: L) Q K:=by
 refine bM ho hd hN hF ha hall goes112 (TCallX.mono (need_law s hE hk) ?_ ?_)
 ·rintro _ _ _ ⟨rfl,rfl,h1,rfl⟩
  exact hK (hT.trans (Ps.tok_t h1)) (PE.isM_lt h1)
 ·rintro _ _ _ ⟨rfl,h1,rfl,rfl⟩
  exact hb _ _ _ _ _ hm hk (hT.trans (Ps.tok_f h1)) hL
theorem OT.stopP (hT : T = .bad k) (hE : E.Ok m) (hk : k ≤ E.toks.length) (hb : Bad Q E T m0 L0) (hm : m0 ≤ m) (hL : L0.Sublist L)
  (ho : o.op = .call ⟨.value FF,⟨args⟩,ats⟩) (hd : o.dst=some d) (hN : Nat.blt d N=true)
  (hF : ev ρ FF=some (.func (.func 144) ⟨first⟩ ⟨cap⟩)) (ha : evs ρ args=some vs) (hall : fl (first++(vs++cap))=some [E.v]) : OT Tryz.prog N o ρ [] m (E.I k h :: L) Q K:=by
 refine bM ho hd hN hF ha hall goes144 (TCallX.mono (stop_law hE hk) (fun _ _ _ hf=>hf.elim) ?_)
 rintro _ _ _ ⟨rfl,rfl,rfl⟩
 exact hb _ _ _ _ _ hm hk hT hL
theorem OT.nameP {A : Str→Ps.Pp β} (hT : T=Ps.name A E.f k) (hE : E.Ok m) (hk : k ≤ E.toks.length) (hb : Bad Q E T m0 L0) (hm : m0 ≤ m) (hL : L0.Sublist L)
  (ho : o.op = .call ⟨.value FF,⟨args⟩,ats⟩) (hd : o.dst=some d) (hN : Nat.blt d N=true)
  (hF : ev ρ FF=some (.func (.func 113) ⟨first⟩ ⟨cap⟩)) (ha : evs ρ args=some vs) (hall : fl (first++(vs++cap))=some [E.v])
  (hK : ∀ t : Str,T=A t E.f (k + 1)→k + 1 ≤ E.toks.length→K ((d,strV t) :: ρ) m (E.I (k + 1) h :: L)) : OT Tryz.prog N o ρ [] m (E.I k h :: L) Q K:=by
 refine bM ho hd hN hF ha hall goes113 (TCallX.mono (pname_law hE hk) ?_ ?_)
 ·rintro _ _ _ ⟨rfl,t,h1,h2,rfl,h3,rfl⟩
  exact hK _ (hT.trans (Ps.name_t h1 h2)) h3
 ·rintro _ _ _ ⟨rfl,h1,rfl,rfl⟩
  exact hb _ _ _ _ _ hm hk (hT.trans (Ps.name_f h1)) hL
end
end Go.Sep
namespace Go
abbrev cD := @Sep.OT.takeP
end Go

/- PsRun -/
namespace Go.Ps
open Go.Sep (Tree Str)
variable {α β γ : Type}
theorem bind_assoc (p : Pp α) (g : α → Pp β) (h : β → Pp γ) : bind (bind p g) h=bind p fun a=>bind (g a) h:=by
 funext f k;unfold bind
 cases p f k <;> rfl
theorem ret_bind (a : α) (g : α → Pp β) : bind (ret a) g=g a:=rfl
theorem bind_ret (p : Pp α) : bind p ret=p:=by
 funext f k;unfold bind
 cases p f k <;> rfl
theorem dry_bind (g : α → Pp β) : bind dry g=dry:=rfl
theorem tok_bind (s : Str) (A B : Pp α) (g : α → Pp β) : bind (tok s A B) g=tok s (bind A g) (bind B g):=by
 funext f k;unfold tok bind
 cases h : isM s f k <;> simp only [h,bh,bg]
theorem need_bind (s : Str) (A : Pp α) (g : α → Pp β) : bind (need s A) g=need s (bind A g):=by
 unfold need;rw [tok_bind];rfl
theorem tkn_bind (c : Int) (A : Tk→Pp α) (B : Pp α) (g : α → Pp β) : bind (tkn c A B) g=tkn c (fun t=>bind (A t) g) (bind B g):=by
 funext f k;unfold tkn bind;simp only []
 cases f k with
 | none=>rfl
 | some t=>cases h : decide (t.kind=c) <;> simp only [h,bh,bg]
theorem name_bind (A : Str→Pp α) (g : α → Pp β) : bind (name A) g=name fun s=>bind (A s) g:=by
 unfold name;rw [tkn_bind];rfl
def more (j : Nat) (X : Pp α) (acc : List α) : Pp (List α):=tok [44] (bind (commas j X) fun l=>ret (acc++l)) (ret acc)
theorem commas_acc (j : Nat) (X : Pp α) (acc : List α) : (bind (commas (j + 1) X) fun l=>ret (acc++l))=bind X fun a=>more j X (acc++[a]):=by
 show bind (bind X _) _=_
 rw [bind_assoc]
 congr 1;funext a
 rw [tok_bind,bind_assoc]
 unfold more
 congr 1
 congr 1;funext l
 show ret (acc++(a :: l))=ret (acc++[a]++l)
 rw [am];rfl
theorem commas_start (j : Nat) (X : Pp α) : commas (j + 1) X=bind X fun a=>more j X [a]:=by
 have h:=commas_acc j X ([] : List α)
 simp only [aA] at h
 rw [← h,bind_ret]
theorem more_zero (X : Pp α) (acc : List α) : more 0 X acc=tok [44] dry (ret acc):=rfl
theorem more_succ (j : Nat) (X : Pp α) (acc : List α) : more (j + 1) X acc=tok [44] (bind X fun a=>more j X (acc++[a])) (ret acc):=by
 rw [← commas_acc];rfl
def rest (j : Nat) (s : Str) (X : Pp α) (acc : List α) : Pp (List α):=bind (upto j s X) fun l=>ret (acc++l)
theorem rest_start (j : Nat) (s : Str) (X : Pp α) : upto j s X=rest j s X []:=by unfold rest;exact (bind_ret _).symm
theorem rest_zero (s : Str) (X : Pp α) (acc : List α) : rest 0 s X acc=dry:=rfl
theorem rest_succ (j : Nat) (s : Str) (X : Pp α) (acc : List α) : rest (j + 1) s X acc=tok s (ret acc) (bind X fun a=>rest j s X (acc++[a])):=by
 unfold rest
 show bind (tok s (ret []) _) _=_
 rw [tok_bind,bind_assoc,ret_bind,aQ]
 congr 1
 congr 1;funext a
 rw [bind_assoc]
 congr 1;funext l
 show ret (acc++(a :: l))=ret (acc++[a]++l)
 rw [am];rfl
def decls (decl : Pp Tree) (j : Nat) (acc : List Tree) : Pp (List Tree):=bind (progL decl j) fun l=>ret (acc++l)
theorem decls_start (decl : Pp Tree) (j : Nat) : progL decl j=decls decl j []:=by unfold decls;exact (bind_ret _).symm
theorem decls_none {decl : Pp Tree} {j : Nat} {acc : List Tree} {f : F} {k : Nat} (h : f k=none) : decls decl (j + 1) acc f k = .ok acc k:=by
 have : progL decl (j + 1) f k = .ok [] k:=by unfold progL;rw [h];rfl
 unfold decls bind
 rw [this]
 show Res.ok (acc++[]) k=_
 rw [aQ]
theorem decls_some {decl : Pp Tree} {j : Nat} {acc : List Tree} {f : F} {k : Nat} (h : f k ≠ none) : decls decl (j + 1) acc f k=(bind decl fun a=>decls decl j (acc++[a])) f k:=by
 have : progL decl (j + 1) f k=(bind decl fun a=>bind (progL decl j) fun l=>ret (a :: l)) f k:=by
  show (bif (f k).isNone then _ else _)=_
  cases hf : f k with
  | none=>exact absurd hf h
  | some t=>rfl
 have e : decls decl (j + 1) acc f k=bind (bind decl fun a=>bind (progL decl j) fun l=>ret (a :: l)) (fun l=>ret (acc++l)) f k:=by
  unfold decls
  unfold bind at this ⊢
  simp only [] at this ⊢
  rw [this]
 rw [e,bind_assoc]
 congr 1;congr 1;funext a
 rw [bind_assoc]
 unfold decls
 congr 1;funext l
 show ret (acc++(a :: l))=ret (acc++[a]++l)
 rw [am];rfl
end Go.Ps


/- PsW3 -/
namespace Go.Sep
open Go.Proofs
attribute [local irreducible] TC TO OT TCallX TCall DO DOt thenQ blockQ retQ At
section
variable {mb : Mem} {E : PE} {h : Int}
theorem list1_par {f : FuncId} {first cap all : List Value} {X : Ps.Pp Tree} (hall : fl (first++([]++cap))=some all) (hg : Goes Tryz.prog f) (hX : Par Tryz.prog mb E vTree f all h X) :
  Par Tryz.prog mb E vList 146 [E.v, .func (.func f) ⟨first⟩ ⟨cap⟩] h (Ps.commas E.N X):=by
 refine cy Tryz.func146 rfl 17 rfl fun m L k T hm0 hE hk hT hn => ?_
 replace hX:=hX.up hm0
 have hrows:=hE.rows
 have hm : m ≤ m:=bm _
 obtain ⟨j,hj⟩ : ∃ j,E.N=j + 1:=by
  cases hN : E.N with
  | zero=>rw [hN] at hT;exact absurd hT hn
  | succ j=>exact ⟨j,rfl⟩
 rw [hj,Ps.commas_start] at hT
 refine uA ?_
 refine qs rfl (cC (L0:=L) hX hm hT hn hE hk (by repeat (first|exact cz|refine cA ?_)) hm uS rfl rfl rfl rfl rfl hall hg (fun x m2 a k2 hT hm hE hle hk hr => ?_))
 refine uA ?_
 refine qs rfl (cq tab rTree (hs:=[x]) (l:=[a]) ⟨rTree_iff.2 hr,trivial⟩ rfl rfl rfl rfl rfl (by decide) (fun s m3 hle3 hs ho hc => ?_))
 refine TO.tokFo hc ho 4 ?_
 refine bD (ag _ _ _) ?_
 refine uA ?_
 refine br (ι:=Sl × Mem × List Tree × Nat × Nat) [0,1] rfl (fun x=>[(5,x.1.v)]) (fun x=>x.2.1) (fun x=>E.I x.2.2.2.1 h :: tok x.1 4 :: L) (fun x=>m ≤ x.2.1∧E.Ok x.2.1∧x.2.2.2.1 ≤ E.toks.length∧SlRep rTree x.2.1 x.1 x.2.2.1∧Own x.1∧x.2.2.1.length + x.2.2.2.2=j + 1∧T=Ps.more x.2.2.2.2 X x.2.2.1 E.f x.2.2.2.1) (fun x=>x.2.2.2.2) (s,m3,[a],k2,j) uH rfl uS ⟨bn hm hle3,hE.mono hle3,hk,hs,ho,by simp only [ab,ae];omega,hT⟩ ?_
 rintro ⟨s,m3,acc,k,j2⟩ ⟨hm,hE,hk,hs,ho,hlen,hT⟩
 simp only at hm hE hk hs ho hlen hT
 cases j2 with
 | zero =>
  rw [Ps.more_zero] at hT
  refine uA ?_
  refine qs rfl (cD hT hE hk rfl rfl rfl rfl rfl rfl (fun hT hk => ?_) (fun hT => ?_))
  ·exact absurd hT hn
  ·refine uA ?_
   refine bu rfl (L':=E.I k h :: tok s 4 :: L) uS ⟨acc,k,[tok s 4],hT,hm,hk,⟨s,rfl,rfl,hs,ho,by omega⟩,rfl⟩
 | succ j2 =>
  rw [Ps.more_succ] at hT
  refine uA ?_
  refine qs rfl (cD hT hE hk rfl rfl rfl rfl rfl rfl (fun hT hk => ?_) (fun hT => ?_))
  ·refine uA ?_
   refine qs rfl (cC (L0:=L) hX hm hT hn hE hk (by repeat (first|exact cz|refine cA ?_|refine cB ?_)) hm uS rfl rfl rfl rfl rfl hall hg (fun x m2 a k2 hT hm hE hle hk hr => ?_))
   refine uA ?_
   refine qs rfl (cq tab rTree (hs:=[x]) (l:=[a]) ⟨rTree_iff.2 hr,trivial⟩ rfl rfl rfl rfl rfl (by decide) (fun s2 m3 hle3 hs2 ho2 hc2 => ?_))
   refine qs rfl (bP tab rTree 1 (hs.mono (bn hle hle3)) ho hs2 rfl rfl rfl rfl rfl rfl rfl (by simp only [ab,ae,rTree,mkR];omega) (fun s3 m4 hle4 hs3 ho3 => ?_))
   refine uA ?_
   exact ⟨(s3,m4,acc++[a],k2,j2),uH,uH,rfl,rfl,uS,⟨bn hm (bn hle3 hle4),hE.mono (bn hle3 hle4),hk,hs3,ho3,by simp only [aa,ab,ae];omega,hT⟩,by simp only;omega⟩
  ·refine uA ?_
   refine bu rfl (L':=E.I k h :: tok s 4 :: L) uS ⟨acc,k,[tok s 4],hT,hm,hk,⟨s,rfl,rfl,hs,ho,by omega⟩,rfl⟩
theorem begins_law {m : Mem} {L : List Item} {k : Nat} (hE : E.Ok m) (hk : k ≤ E.toks.length) : TCall Tryz.prog 175 ⟨[E.v]⟩ m (E.I k h :: L) (Ret (.bool (Ps.begins E.f k)) m (E.I k h :: L)):=by
 unfold TCall Ps.begins
 refine bw Tryz.func175 rfl 17 rfl ?_
 refine uA ?_
 refine oC goes145 ((is_law 1 hE hk).x ?_);
 rintro _ _ _ ⟨rfl,rfl,rfl⟩
 refine uA ?_
 cases h1 : Ps.isK 1 E.f k with
 | true => 
  refine uA ?_
  refine bu rfl uS ⟨rfl,rfl, ?_⟩
  rfl
 | false =>
  refine uA ?_
  refine oC goes142 ((peek_law [42] hE hk).x ?_);
  rintro _ _ _ ⟨rfl,rfl,rfl⟩
  refine uA ?_
  cases h2 : Ps.isM [42] E.f k with
  | true => 
   refine uA ?_
   refine bu rfl uS ⟨rfl,rfl, ?_⟩
   rfl
  | false =>
   refine uA ?_
   refine oC goes142 ((peek_law [91] hE hk).x ?_);
   rintro _ _ _ ⟨rfl,rfl,rfl⟩
   refine uA ?_
   cases h3 : Ps.isM [91] E.f k with
   | true => 
    refine uA ?_
    refine bu rfl uS ⟨rfl,rfl, ?_⟩
    rfl
   | false =>
    refine uA ?_
    refine oC goes142 ((peek_law [102,117,110,99] hE hk).x ?_);
    rintro _ _ _ ⟨rfl,rfl,rfl⟩
    refine uA ?_
    refine bu rfl uS ⟨rfl,rfl, ?_⟩
    cases Ps.isM [102,117,110,99] E.f k <;> rfl
theorem results_par {X : Ps.Pp Tree} (hX : Par Tryz.prog mb E vTree 143 [E.v] h X) :
  Par Tryz.prog mb E vSl 148 [E.v] h (Ps.resultsP E.N X):=by
 refine cy Tryz.func148 rfl 18 rfl fun m L k T hm0 hE hk hT hn => ?_
 replace hX:=hX.up hm0
 have hm : m ≤ m:=bm _
 unfold Ps.resultsP at hT
 refine uA ?_
 refine qs rfl (cD hT hE hk rfl rfl rfl rfl rfl rfl (fun hT hk => ?_) (fun hT => ?_))
 ·refine uA ?_
  refine qs rfl (OT.parL (L0:=L) (list1_par (first:=[E.v]) (cap:=[]) rfl goes143 hX) hm hT hn hE hk (by repeat (first|exact cz|refine cA ?_)) hm uS rfl rfl rfl rfl rfl rfl goes146 (fun x m2 a k2 hT hm hE hlex hk hrx hox hlx => ?_))
  refine uA ?_
  refine qs rfl (OT.needP (L0:=L) hT hE hk (by repeat (first|exact cz|refine cA ?_)) hm uS rfl rfl rfl rfl rfl rfl (fun hT hk => ?_))
  refine uA ?_
  refine bu rfl (L':=E.I (k2 + 1) h :: L) uS ⟨a,k2 + 1,[],hT,hm,hk,⟨x,rfl,rfl,hrx,hlx⟩,rfl⟩
 ·refine uA ?_
  refine oC goes175 ((begins_law hE hk).x ?_);
  rintro _ _ _ ⟨rfl,rfl,rfl⟩
  refine uA ?_
  cases hb : Ps.begins E.f k with
  | true =>
   rw [Ps.peek_t' hb] at hT
   refine uA ?_
   refine qs rfl (cC (L0:=L) (hX) hm hT hn hE hk (by repeat (first|exact cz|refine cA ?_)) hm uS rfl rfl rfl rfl rfl rfl goes143 (fun x m2 a k2 hT hm hE hlex hk hrx => ?_))
   refine uA ?_
   refine qs rfl (cq tab rTree (hs:=[x]) (l:=[a]) ⟨rTree_iff.2 hrx,trivial⟩ rfl rfl rfl rfl rfl (by decide) (fun s m3 hle3 hs ho hc => ?_))
   refine uA ?_
   refine bu rfl (L':=E.I k2 h :: L) uS ⟨[a],k2,[],hT,bn hm hle3,hk,⟨s,rfl,rfl,hs,by simp⟩,rfl⟩
  | false =>
   rw [Ps.peek_f' hb] at hT
   refine uA ?_
   refine bu rfl (L':=E.I k h :: L) uS ⟨[],k,[],hT,hm,hk,⟨⟨none,0,0⟩,rfl,rfl,bN _ _,by simp⟩,rfl⟩
end
end Go.Sep


/- PsW4 -/
namespace Go.Sep
open Go.Proofs
attribute [local irreducible] TC TO OT TCallX TCall DO DOt thenQ blockQ retQ At
section
variable {mb : Mem} {E : PE} {h : Int}
theorem typ_par {X : Ps.Pp Tree} (hX : Par Tryz.prog mb E vTree 143 [E.v] h X) :
  Par Tryz.prog mb E vTree 143 [E.v] h (Ps.typP E.N X):=by
 refine cy Tryz.func143 rfl 50 rfl fun m L k T hm0 hE hk hT hn => ?_
 replace hX:=hX.up hm0
 have hm : m ≤ m:=bm _
 have hrows:=hE.rows
 unfold Ps.typP at hT
 refine uA ?_
 refine oA tab (fun b2 => ?_);refine bD (ag _ _ _) ?_
 refine uA ?_
 refine qs rfl (cD hT hE hk rfl rfl rfl rfl rfl rfl (fun hT hk => ?_) (fun hT => ?_))
 ·refine uA ?_
  refine qs rfl (cC (L0:=L) (hX) hm hT hn hE hk (by repeat (first|exact cz|refine cA ?_|refine cB ?_)) hm uS rfl rfl rfl rfl rfl rfl goes143 (fun x m2 a k2 hT hm hE hlex hk hrx => ?_))
  refine uA ?_
  refine qs rfl (cq tab rTree (hs:=[x]) (l:=[a]) ⟨rTree_iff.2 hrx,trivial⟩ rfl rfl rfl rfl rfl (by decide) (fun s m3 hle3 hs ho hc => ?_))
  refine uA ?_
  refine uT ?_
  refine uA ?_
  refine ci tab 1 rfl rfl rfl rfl (L':=E.I k2 h :: L) uS ⟨_,k2,[],hT,bn hm hle3,hk,⟨⟨11,[],0,s⟩,rfl,rfl,⟨rfl,rfl,rfl,hs⟩⟩,rfl⟩
 refine uA ?_
 refine qs rfl (cD hT hE hk rfl rfl rfl rfl rfl rfl (fun hT hk => ?_) (fun hT => ?_))
 ·refine uA ?_
  refine qs rfl (OT.needP (L0:=L) hT hE hk (by repeat (first|exact cz|refine cA ?_|refine cB ?_)) hm uS rfl rfl rfl rfl rfl rfl (fun hT hk => ?_))
  refine uA ?_
  refine qs rfl (cC (L0:=L) (hX) hm hT hn hE hk (by repeat (first|exact cz|refine cA ?_|refine cB ?_)) hm uS rfl rfl rfl rfl rfl rfl goes143 (fun x m2 a k2 hT hm hE hlex hk hrx => ?_))
  refine uA ?_
  refine qs rfl (cq tab rTree (hs:=[x]) (l:=[a]) ⟨rTree_iff.2 hrx,trivial⟩ rfl rfl rfl rfl rfl (by decide) (fun s m3 hle3 hs ho hc => ?_))
  refine uA ?_
  refine uT ?_
  refine uA ?_
  refine ci tab 1 rfl rfl rfl rfl (L':=E.I k2 h :: L) uS ⟨_,k2,[],hT,bn hm hle3,hk,⟨⟨12,[],0,s⟩,rfl,rfl,⟨rfl,rfl,rfl,hs⟩⟩,rfl⟩
 refine uA ?_
 refine qs rfl (cD hT hE hk rfl rfl rfl rfl rfl rfl (fun hT hk => ?_) (fun hT => ?_))
 ·refine uA ?_
  refine oA tab (fun b3 => ?_);refine bD (ag _ _ _) ?_
  refine uA ?_
  refine uT ?_
  refine uA ?_
  refine qs rfl (OT.needP (L0:=L) hT hE hk (by repeat (first|exact cz|refine cA ?_|refine cB ?_)) hm uS rfl rfl rfl rfl rfl rfl (fun hT hk => ?_))
  unfold Ps.inP at hT
  simp only [Ps.tok_bind,Ps.ret_bind,Ps.bind_assoc,Ps.need_bind] at hT
  refine TO.nil ?_
  refine thenQ_n ?_
  refine TC.cut (ι:=Sl × Mem × List Tree × Nat) [0,2,3] rfl (fun _=>[]) (fun i=>i.2.1) (fun i=>E.I i.2.2.2 h :: .cells b3 0 [.int .i64 13,strV [], .int .i64 0,i.1.v] :: tok i.1 4 :: .cells b2 0 [.int .i64 0,strV [], .int .i64 0, .slice none 0 0] :: L) (fun i=>m ≤ i.2.1∧E.Ok i.2.1∧i.2.2.2 ≤ E.toks.length∧SlRep rTree i.2.1 i.1 i.2.2.1∧Own i.1∧i.2.2.1.length ≤ 20001∧T=(Ps.bind (Ps.resultsP E.N X) fun rs=>Ps.ret (Tree.mk 13 [] (i.2.2.1.length : Int) (i.2.2.1++rs))) E.f i.2.2.2) ?_ ?_
  ·refine uA ?_
   refine qs rfl (cD hT hE hk rfl rfl rfl rfl rfl rfl (fun hT hk => ?_) (fun hT => ?_))
   ·refine TO.grow0 (size:=4) ?_
    refine bD (L':=E.I (k + 1 + 1 + 1) h :: .cells b3 0 [.int .i64 13,strV [], .int .i64 0, .slice none 0 0] :: tok ⟨none,0,0⟩ 4 :: .cells b2 0 [.int .i64 0,strV [], .int .i64 0, .slice none 0 0] :: L) (ah (ag _ _ _) (ai _ (ag _ _ _))) ?_
    refine uA ?_
    exact ⟨(⟨none,0,0⟩,m,[],k + 1 + 1 + 1),uH,uH,rfl,rfl,uS,hm,hE,hk,bN _ _,Own.nil,by simp,hT⟩
   ·refine uA ?_
    refine qs rfl (OT.parL (L0:=L) (list1_par (first:=[E.v]) (cap:=[]) rfl goes143 hX) hm hT hn hE hk (by repeat (first|exact cz|refine cA ?_|refine cB ?_)) hm uS rfl rfl rfl rfl rfl rfl goes146 (fun x m2 a k2 hT hm hE hlex hk hrx hox hlx => ?_))
    refine bD (L':=E.I k2 h :: .cells b3 0 [.int .i64 13,strV [], .int .i64 0, .slice none 0 0] :: tok x 4 :: .cells b2 0 [.int .i64 0,strV [], .int .i64 0, .slice none 0 0] :: L) (ai _ (ag _ _ _)) ?_
    refine uA ?_
    refine qs rfl (bI (k:=3) tab 1 rfl rfl rfl rfl rfl rfl rfl rfl ?_)
    refine uA ?_
    refine qs rfl (OT.needP (L0:=L) hT hE hk (by repeat (first|exact cz|refine cA ?_|refine cB ?_)) hm uS rfl rfl rfl rfl rfl rfl (fun hT hk => ?_))
    refine uA ?_
    exact ⟨(x,m2,a,k2 + 1),uH,uH,rfl,rfl,uS,hm,hE,hk,hrx,hox,hlx,hT⟩
  ·rintro ⟨s,m1,l,k1⟩ ⟨hm,hE,hk,hs,ho,hl,hT⟩
   simp only at hm hE hk hs ho hl hT
   have hsl:=hs.len
   refine uA ?_
   refine uM ?_
   refine uA ?_
   refine qs rfl (bI (k:=2) tab 1 rfl rfl rfl rfl rfl rfl rfl rfl ?_)
   refine uA ?_
   refine bQ [6] cr 7 rfl [.cells b3 0 [.int .i64 13,strV [], .int .i64 (s.len : Int),s.v]] (E.I k1 h :: tok s 4 :: .cells b2 0 [.int .i64 0,strV [], .int .i64 0, .slice none 0 0] :: L) (ag _ _ _) ?_
   refine bV tab uC uK [0] uK rfl ?_
   (refine bW tab 1 0 uC uK uK rfl rfl rfl rfl rfl rfl rfl rfl ?_)
   refine bV tab uC uK [2] uK rfl ?_
   refine bZ 3 rfl rfl uK rfl ?_
   refine ce (ag _ _ _) (OT.parS (L0:=L) (results_par hX) hm hT hn hE hk (by repeat (first|exact cz|refine cA ?_|refine cB ?_)) hm uS rfl rfl rfl rfl rfl rfl goes148 (fun x m2 a k2 hT hm hE hle hk hr hla => ?_));refine ⟨hle,E.I k2 h :: tok s 4 :: .cells b2 0 [.int .i64 0,strV [], .int .i64 0, .slice none 0 0] :: L,ag _ _ _, ?_⟩
   refine bZ 4 rfl rfl uK rfl ?_
   refine bP tab rTree 2 (hs.mono hle) ho hr rfl rfl rfl rfl rfl rfl rfl (by simp only [rTree,mkR];omega) (fun s3 m4 hle4 hs3 ho3 => ?_);refine ⟨hle4,E.I k2 h :: tok s3 4 :: .cells b2 0 [.int .i64 0,strV [], .int .i64 0, .slice none 0 0] :: L,af _, ?_⟩
   refine bV tab uC uK [5] uK rfl ?_
   refine DO.tail ?_
   refine DOt.run 6 rfl rfl uK rfl ?_
   refine bI (k:=3) tab 0 rfl rfl rfl rfl rfl rfl rfl rfl ?_
   refine DOt.nil uK ?_
   rotate_left 1
   refine uA ?_
   refine uM ?_
   refine uA ?_
   refine qs rfl (bJ tab 3 rfl rfl rfl rfl rfl rfl rfl rfl ?_)
   refine uA ?_
   refine ci tab 3 rfl rfl rfl rfl (L':=E.I k2 h :: L) uS ⟨_,k2,[],hT,bn hm hle4,hk,⟨⟨13,[],(s.len : Int),s3⟩,rfl,rfl,⟨rfl,rfl,by show (s.len : Int)=_;rw [hsl];rfl,hs3⟩⟩,rfl⟩
 ·refine uA ?_
  refine qs rfl (OT.nameP (L0:=L) hT hE hk (by repeat (first|exact cz|refine cA ?_)) hm uS rfl rfl rfl rfl rfl rfl (fun t hT hk => ?_))
  refine uA ?_
  refine uT ?_
  refine uA ?_
  refine ci tab 1 rfl rfl rfl rfl (L':=E.I (k + 1) h :: L) uS ⟨_,k + 1,[],hT,hm,hk,⟨⟨10,t,0,⟨none,0,0⟩⟩,rfl,rfl,⟨rfl,rfl,rfl,bN _ _⟩⟩,rfl⟩
end
end Go.Sep


/- PsW5 -/
namespace Go.Sep
open Go.Proofs
attribute [local irreducible] TC TO OT TCallX TCall DO DOt thenQ blockQ retQ At
section
variable {mb : Mem} {E : PE} {h : Int}
theorem param_par {X : Ps.Pp Tree} (hX : Par Tryz.prog mb E vTree 143 [E.v] h X) (b1 : Nat) (hA : At mb b1 0 [E.v]) :
  Par Tryz.prog mb E vTree 147 [.pointer (some ⟨b1,0,none⟩)] h (Ps.paramP X):=by
 refine cy Tryz.func147 rfl 10 rfl fun m L k T hm0 hE hk hT hn => ?_
 replace hX:=hX.up hm0
 replace hA:=hA.mono hm0
 have hm : m ≤ m:=bm _
 unfold Ps.paramP at hT
 refine uA ?_
 refine oA tab (fun b2 => ?_);refine bD (ag _ _ _) ?_
 refine uA ?_
 (refine oL tab hA ?_)
 refine uA ?_
 refine qs rfl (OT.nameP (L0:=L) hT hE hk (by repeat (first|exact cz|refine cA ?_)) hm uS rfl rfl rfl rfl rfl rfl (fun t hT hk => ?_))
 refine uA ?_
 (refine oL tab hA ?_)
 refine uA ?_
 refine qs rfl (cC (L0:=L) (hX) hm hT hn hE hk (by repeat (first|exact cz|refine cA ?_)) hm uS rfl rfl rfl rfl rfl rfl goes143 (fun x m2 a k2 hT hm hE hlex hk hrx => ?_))
 refine uA ?_
 refine qs rfl (cq tab rTree (hs:=[x]) (l:=[a]) ⟨rTree_iff.2 hrx,trivial⟩ rfl rfl rfl rfl rfl (by decide) (fun s m3 hle3 hs ho hc => ?_))
 refine uA ?_
 refine uT ?_
 refine uA ?_
 refine ci tab 1 rfl rfl rfl rfl (L':=E.I k2 h :: L) uS ⟨_,k2,[],hT,bn hm hle3,hk,⟨⟨8,t,0,s⟩,rfl,rfl,⟨rfl,rfl,rfl,hs⟩⟩,rfl⟩
theorem psig_par {X : Ps.Pp Tree} (hX : Par Tryz.prog mb E vTree 143 [E.v] h X) :
  Par Tryz.prog mb E vTree 114 [E.v] h (Ps.sigP E.N X):=by
 refine cy Tryz.func114 rfl 27 rfl fun m L k T hm0 hE hk hT hn => ?_
 have hm : m ≤ m:=bm _
 have hrows:=hE.rows
 unfold Ps.sigP Ps.sigLike at hT
 refine uA ?_
 refine oB (fun b1 => ?_)
 refine cc fun m1 hle1 hA => ?_
 replace hm : m ≤ m1:=hle1
 replace hE:=hE.mono hle1
 replace hX:=hX.up (bn hm0 hle1)
 refine uA ?_
 refine oA tab (fun b2 => ?_);refine bD (ag _ _ _) ?_
 refine uA ?_
 refine oA tab (fun b3 => ?_);refine bD (ag _ _ _) ?_
 refine uA ?_
 refine uT ?_
 refine uA ?_
 (refine oL tab hA ?_)
 refine uA ?_
 refine qs rfl (OT.needP (L0:=L) hT hE hk (by repeat (first|exact cz|refine cA ?_)) hm uS rfl rfl rfl rfl rfl rfl (fun hT hk => ?_))
 unfold Ps.inP at hT
 simp only [Ps.tok_bind,Ps.ret_bind,Ps.bind_assoc,Ps.need_bind] at hT
 refine TO.nil ?_
 refine thenQ_n ?_
 refine TC.cut (ι:=Sl × Mem × List Tree × Nat) [1,2,3] rfl (fun _=>[]) (fun i=>i.2.1) (fun i=>E.I i.2.2.2 h :: .cells b3 0 [.int .i64 7,strV [], .int .i64 0,i.1.v] :: tok i.1 4 :: .cells b2 0 [.int .i64 0,strV [], .int .i64 0, .slice none 0 0] :: L) (fun i=>m1 ≤ i.2.1∧E.Ok i.2.1∧i.2.2.2 ≤ E.toks.length∧SlRep rTree i.2.1 i.1 i.2.2.1∧Own i.1∧i.2.2.1.length ≤ 20001∧T=(Ps.bind (Ps.resultsP E.N X) fun rs=>Ps.ret (Tree.mk 7 [] (i.2.2.1.length : Int) (i.2.2.1++rs))) E.f i.2.2.2) ?_ ?_
 ·refine uA ?_
  (refine oL tab hA ?_)
  refine uA ?_
  refine qs rfl (cD hT hE hk rfl rfl rfl rfl rfl rfl (fun hT hk => ?_) (fun hT => ?_))
  ·refine TO.grow0 (size:=4) ?_
   refine bD (L':=E.I (k + 1 + 1) h :: .cells b3 0 [.int .i64 7,strV [], .int .i64 0, .slice none 0 0] :: tok ⟨none,0,0⟩ 4 :: .cells b2 0 [.int .i64 0,strV [], .int .i64 0, .slice none 0 0] :: L) (ah (ag _ _ _) (ai _ (ag _ _ _))) ?_
   refine uA ?_
   exact ⟨(⟨none,0,0⟩,m1,[],k + 1 + 1),uH,uH,rfl,rfl,uS,bm _,hE,hk,bN _ _,Own.nil,by simp,hT⟩
  ·refine uA ?_
   (refine oL tab hA ?_)
   refine uA ?_
   refine qs rfl (OT.parL (L0:=L) (list1_par (first:=[]) (cap:=[.pointer (some ⟨b1,0,none⟩)]) rfl goes147 (param_par hX b1 hA)) (bm _) hT hn hE hk (by repeat (first|exact cz|refine cA ?_)) hm uS rfl rfl rfl rfl rfl rfl goes146 (fun x m2 a k2 hT hm hE hle2 hk hrx hox hlx => ?_))
   refine bD (L':=E.I k2 h :: .cells b3 0 [.int .i64 7,strV [], .int .i64 0, .slice none 0 0] :: tok x 4 :: .cells b2 0 [.int .i64 0,strV [], .int .i64 0, .slice none 0 0] :: L) (ai _ (ag _ _ _)) ?_
   refine uA ?_
   refine qs rfl (bI (k:=3) tab 1 rfl rfl rfl rfl rfl rfl rfl rfl ?_)
   refine uA ?_
   have hA2:=hA.mono hle2
   (refine oL tab hA2 ?_)
   refine uA ?_
   refine qs rfl (OT.needP (L0:=L) hT hE hk (by repeat (first|exact cz|refine cA ?_)) hm uS rfl rfl rfl rfl rfl rfl (fun hT hk => ?_))
   refine uA ?_
   exact ⟨(x,m2,a,k2 + 1),uH,uH,rfl,rfl,uS,hle2,hE,hk,hrx,hox,hlx,hT⟩
 ·rintro ⟨s,m2,l,k1⟩ ⟨hm12,hE,hk,hs,ho,hl,hT⟩
  simp only at hm12 hE hk hs ho hl hT
  have hsl:=hs.len
  replace hA:=hA.mono hm12
  replace hX:=hX.up hm12
  replace hm : m ≤ m2:=bn hm hm12
  refine uA ?_
  refine uM ?_
  refine uA ?_
  refine qs rfl (bI (k:=2) tab 1 rfl rfl rfl rfl rfl rfl rfl rfl ?_)
  refine uA ?_
  refine bQ [6] cr 7 rfl [.cells b3 0 [.int .i64 7,strV [], .int .i64 (s.len : Int),s.v]] (E.I k1 h :: tok s 4 :: .cells b2 0 [.int .i64 0,strV [], .int .i64 0, .slice none 0 0] :: L) (ag _ _ _) ?_
  refine bV tab uC uK [0] uK rfl ?_
  (refine bW tab 1 0 uC uK uK rfl rfl rfl rfl rfl rfl rfl rfl ?_)
  (refine bX (k:=0) tab 2 hA uC uK uK rfl rfl rfl rfl rfl rfl rfl ?_)
  refine bZ 3 rfl rfl uK rfl ?_
  refine ce (ag _ _ _) (OT.parS (L0:=L) (results_par hX) (bm _) hT hn hE hk (by repeat (first|exact cz|refine cA ?_)) hm uS rfl rfl rfl rfl rfl rfl goes148 (fun x m3 a k2 hT hm hE hle hk hr hla => ?_));refine ⟨hle,E.I k2 h :: tok s 4 :: .cells b2 0 [.int .i64 0,strV [], .int .i64 0, .slice none 0 0] :: L,ag _ _ _, ?_⟩
  refine bZ 4 rfl rfl uK rfl ?_
  refine bP tab rTree 2 (hs.mono hle) ho hr rfl rfl rfl rfl rfl rfl rfl (by simp only [rTree,mkR];omega) (fun s3 m4 hle4 hs3 ho3 => ?_);refine ⟨hle4,E.I k2 h :: tok s3 4 :: .cells b2 0 [.int .i64 0,strV [], .int .i64 0, .slice none 0 0] :: L,af _, ?_⟩
  refine bV tab uC uK [5] uK rfl ?_
  refine DO.tail ?_
  refine DOt.run 6 rfl rfl uK rfl ?_
  refine bI (k:=3) tab 0 rfl rfl rfl rfl rfl rfl rfl rfl ?_
  refine DOt.nil uK ?_
  rotate_left 1
  refine uA ?_
  refine uM ?_
  refine uA ?_
  refine qs rfl (bJ tab 3 rfl rfl rfl rfl rfl rfl rfl rfl ?_)
  refine uA ?_
  refine ci tab 3 rfl rfl rfl rfl (L':=E.I k2 h :: L) uS ⟨_,k2,[],hT,bn hm hle4,hk,⟨⟨7,[],(s.len : Int),s3⟩,rfl,rfl,⟨rfl,rfl,by show (s.len : Int)=_;rw [hsl];rfl,hs3⟩⟩,rfl⟩
end
end Go.Sep


/- PsW6 -/
namespace Go.Sep
open Go.Proofs
attribute [local irreducible] TC TO OT TCallX TCall DO DOt thenQ blockQ retQ At
section
variable {mb : Mem} {E : PE} {h : Int}
theorem block_par {X : Ps.Pp Tree} (hX : Par Tryz.prog mb E vTree 149 [E.v] 0 X) :
  Par Tryz.prog mb E vTree 115 [E.v] h (Ps.blockP E.N X):=by
 refine cy Tryz.func115 rfl 30 rfl fun m L k T hm0 hE hk hT hn => ?_
 replace hX:=hX.up hm0
 have hm : m ≤ m:=bm _
 have hrows:=hE.rows
 unfold Ps.blockP at hT
 rw [Ps.rest_start] at hT
 refine uA ?_
 refine oA tab (fun b2 => ?_);refine bD (ag _ _ _) ?_
 refine uA ?_
 refine uM ?_
 refine uA ?_
 refine qs rfl (bI (k:=3) tab 0 rfl rfl rfl rfl rfl rfl rfl rfl ?_)
 refine uA ?_
 refine qs rfl (OT.needP (L0:=L) hT hE hk (by repeat (first | exact cz | refine cA ?_ | refine cB ?_)) hm uS rfl rfl rfl rfl rfl rfl (fun hT hk => ?_))
 refine uA ?_
 refine oA tab (fun b4 => ?_);refine bD (ag _ _ _) ?_
 refine uA ?_
 refine uT ?_
 refine TO.grow0 (size:=4) ?_
 refine bD (L':=E.I (k + 1) 0 :: .cells b4 0 [.int .i64 20,strV [], .int .i64 0, .slice none 0 0] :: tok ⟨none,0,0⟩ 4 :: .cells b2 0 [.int .i64 0,strV [], .int .i64 0, .slice none 0 0] :: L) (ah (ag _ _ _) (ai _ (ag _ _ _))) ?_
 refine uA ?_
 refine br (ι:=Sl × Mem × List Tree × Nat × Nat) [0,2,3,4] rfl (fun x=>[]) (fun x=>x.2.1) (fun x=>E.I x.2.2.2.1 0 :: .cells b4 0 [.int .i64 20,strV [], .int .i64 0,x.1.v] :: tok x.1 4 :: .cells b2 0 [.int .i64 0,strV [], .int .i64 0, .slice none 0 0] :: L) (fun x=>m ≤ x.2.1∧E.Ok x.2.1∧x.2.2.2.1 ≤ E.toks.length∧SlRep rTree x.2.1 x.1 x.2.2.1∧Own x.1∧x.2.2.1.length + x.2.2.2.2=E.N∧T=Ps.bind (Ps.rest x.2.2.2.2 [125] X x.2.2.1) (fun l=>Ps.ret (.mk 20 [] 0 l)) E.f x.2.2.2.1) (fun x=>x.2.2.2.2) (⟨none,0,0⟩,m,[],k + 1,E.N) uH rfl uS ⟨hm,hE,hk,bN _ _,Own.nil,by simp,hT⟩ ?_
 rintro ⟨s,m1,acc,k,j⟩ ⟨hm,hE,hk,hs,ho,hlen,hT⟩
 simp only at hm hE hk hs ho hlen hT
 cases j with
 | zero=>rw [Ps.rest_zero,Ps.dry_bind] at hT;exact absurd hT hn
 | succ j =>
  rw [Ps.rest_succ,Ps.tok_bind,Ps.bind_assoc,Ps.ret_bind] at hT
  refine uA ?_
  refine qs rfl (cD hT hE hk rfl rfl rfl rfl rfl rfl (fun hT hk => ?_) (fun hT => ?_))
  ·refine uA ?_
   refine qs rfl (bI (k:=3) tab 0 rfl rfl rfl rfl rfl rfl rfl rfl ?_)
   refine uA ?_
   refine uM ?_
   refine uA ?_
   refine qs rfl (bJ tab 3 rfl rfl rfl rfl rfl rfl rfl rfl ?_)
   refine uA ?_
   refine ci tab 3 rfl rfl rfl rfl (L':=E.I (k + 1) h :: L) uS ⟨_,k + 1,[],hT,hm,hk,⟨⟨20,[],0,s⟩,rfl,rfl,⟨rfl,rfl,rfl,hs⟩⟩,rfl⟩
  ·refine uA ?_
   refine bQ [7] cr 8 rfl [.cells b4 0 [.int .i64 20,strV [], .int .i64 0,s.v]] (E.I k 0 :: tok s 4 :: .cells b2 0 [.int .i64 0,strV [], .int .i64 0, .slice none 0 0] :: L) (ag _ _ _) ?_
   refine bV tab uC uK [0] uK rfl ?_
   (first | refine bW tab 1 0 uC uK uK rfl rfl rfl rfl rfl rfl rfl rfl ?_ | refine bW tab 1 1 uC uK uK rfl rfl rfl rfl rfl rfl rfl rfl ?_ | refine bW tab 1 2 uC uK uK rfl rfl rfl rfl rfl rfl rfl rfl ?_ | refine bW tab 1 3 uC uK uK rfl rfl rfl rfl rfl rfl rfl rfl ?_ | refine bW tab 1 4 uC uK uK rfl rfl rfl rfl rfl rfl rfl rfl ?_ | refine bW tab 1 5 uC uK uK rfl rfl rfl rfl rfl rfl rfl rfl ?_ | refine bW (k:=0) tab 1 0 uC uK uK rfl rfl rfl rfl rfl rfl rfl rfl ?_ | refine bW (k:=0) tab 1 1 uC uK uK rfl rfl rfl rfl rfl rfl rfl rfl ?_ | refine bW (k:=0) tab 1 2 uC uK uK rfl rfl rfl rfl rfl rfl rfl rfl ?_ | refine bW (k:=0) tab 1 3 uC uK uK rfl rfl rfl rfl rfl rfl rfl rfl ?_ | refine bW (k:=0) tab 1 4 uC uK uK rfl rfl rfl rfl rfl rfl rfl rfl ?_ | refine bW (k:=0) tab 1 5 uC uK uK rfl rfl rfl rfl rfl rfl rfl rfl ?_)
   refine bV tab uC uK [2] uK rfl ?_
   refine bZ 3 rfl rfl uK rfl ?_
   refine ce (ag _ _ _) (cC (L0:=L) (hX) hm hT hn hE hk (by repeat (first | exact cz | refine cA ?_ | refine cB ?_)) hm uS rfl rfl rfl rfl rfl rfl goes149 (fun x mA a k2 hT hm hE hleA hk hr => ?_));refine ⟨hleA,E.I k2 0 :: tok s 4 :: .cells b2 0 [.int .i64 0,strV [], .int .i64 0, .slice none 0 0] :: L,ag _ _ _, ?_⟩
   refine bZ 4 rfl rfl uK rfl ?_
   refine cq tab rTree (hs:=[x]) (l:=[a]) ⟨rTree_iff.2 hr,trivial⟩ rfl rfl rfl rfl rfl (by decide) (fun sB mB hleB hsB hoB hcB => ?_);refine ⟨hleB,_,af _, ?_⟩
   refine bZ 5 rfl rfl uK rfl ?_
   refine bP tab rTree 2 (hs.mono (bn hleA hleB)) ho hsB rfl rfl rfl rfl rfl rfl rfl (by simp only [aa,ab,ae,rTree,mkR];omega) (fun s3 mC hleC hs3 ho3 => ?_);refine ⟨hleC,E.I k2 0 :: tok s3 4 :: .cells b2 0 [.int .i64 0,strV [], .int .i64 0, .slice none 0 0] :: L,af _, ?_⟩
   refine bV tab uC uK [6] uK rfl ?_
   refine DO.tail ?_
   refine DOt.run 7 rfl rfl uK rfl ?_
   refine bI (k:=3) tab 0 rfl rfl rfl rfl rfl rfl rfl rfl ?_;refine DOt.perm (ag _ _ _) ?_
   refine DOt.nil uK ?_
   rotate_left 1
   replace hm:=bn hm (bn hleB hleC)
   replace hE:=hE.mono (bn hleB hleC)
   refine uA ?_
   exact ⟨(s3,mC,acc++[a],k2,j),uH,uH,rfl,rfl,uS,⟨hm,hE,hk,hs3,ho3,by simp only [aa,ab,ae];omega,hT⟩,by simp only;omega⟩
end
end Go.Sep


/- PsW7 -/
namespace Go.Sep
open Go.Proofs
attribute [local irreducible] TC TO OT TCallX TCall DO DOt thenQ blockQ retQ At
section
variable {mb : Mem} {E : PE} {h : Int}
theorem typeDecl_par {X : Ps.Pp Tree} (hX : Par Tryz.prog mb E vTree 143 [E.v] h X) :
  Par Tryz.prog mb E vTree 111 [E.v] h (Ps.typeDeclP E.N X):=by
 refine cy Tryz.func111 rfl 38 rfl fun m L k T hm0 hE hk hT hn => ?_
 replace hX:=hX.up hm0
 have hm : m ≤ m:=bm _
 have hrows:=hE.rows
 unfold Ps.typeDeclP at hT
 refine uA ?_
 refine oA tab (fun b2 => ?_);refine bD (ag _ _ _) ?_
 refine uA ?_
 refine qs rfl (OT.nameP (L0:=L) hT hE hk (by repeat (first|exact cz|refine cA ?_)) hm uS rfl rfl rfl rfl rfl rfl (fun nm hT hk => ?_))
 refine uA ?_
 refine oA tab (fun b3 => ?_);refine bD (ag _ _ _) ?_
 refine uA ?_
 refine uT ?_
 refine TO.nil ?_
 refine thenQ_n ?_
 refine TC.seq ?_
 refine TC.region ?_
 repeat (refine TO.pureP tab rfl rfl ?_)
 refine TO.nil ?_
 refine thenQ_n ?_
 refine TC.cut (ι:=Int × FuncId × Ps.Pp Tree × Nat) [0,2,3] rfl (fun i=>[(4, .func (.func i.2.1) ⟨[E.v]⟩ ⟨[]⟩)]) (fun i=>m) (fun i=>E.I i.2.2.2 h :: .cells b3 0 [.int .i64 i.1,strV nm, .int .i64 0, .slice none 0 0] :: .cells b2 0 [.int .i64 0,strV [], .int .i64 0, .slice none 0 0] :: L) (fun i=>i.2.2.2 ≤ E.toks.length∧Goes Tryz.prog i.2.1∧Par Tryz.prog m E vTree i.2.1 [E.v] h i.2.2.1∧T=Ps.bodyP E.N i.1 nm i.2.2.1 E.f i.2.2.2) ?_ ?_
 ·refine uA ?_
  refine qs rfl (cD hT hE hk rfl rfl rfl rfl rfl rfl (fun hT hk => ?_) (fun hT => ?_))
  ·refine uA ?_
   refine qs rfl (bJ tab 1 rfl rfl rfl rfl rfl rfl rfl rfl ?_)
   refine uA ?_
   exact ⟨(3,114,Ps.sigP E.N X,k + 1 + 1),uH,uH,rfl,rfl,uS,hk,goes114,psig_par hX,hT⟩
  ·refine uA ?_
   refine qs rfl (OT.needP (L0:=L) hT hE hk (by repeat (first|exact cz|refine cA ?_)) hm uS rfl rfl rfl rfl rfl rfl (fun hT hk => ?_))
   refine uA ?_
   exact ⟨(2,143,X,k + 1 + 1),uH,uH,rfl,rfl,uS,hk,goes143,hX,hT⟩
 rintro ⟨kd,ff,Y,k⟩ ⟨hk,hgo,hY,hT⟩
 simp only at hk hgo hY hT
 unfold Ps.bodyP at hT
 rw [Ps.rest_start] at hT
 refine uA ?_
 refine qs rfl (OT.needP (L0:=L) hT hE hk (by repeat (first|exact cz|refine cA ?_)) hm uS rfl rfl rfl rfl rfl rfl (fun hT hk => ?_))
 refine TO.grow0 (size:=4) ?_
 refine bD (L':=E.I (k + 1) h :: .cells b3 0 [.int .i64 kd,strV nm, .int .i64 0, .slice none 0 0] :: tok ⟨none,0,0⟩ 4 :: .cells b2 0 [.int .i64 0,strV [], .int .i64 0, .slice none 0 0] :: L) (ah (ag _ _ _) (ai _ (ag _ _ _))) ?_
 refine uA ?_
 refine br (ι:=Sl × Mem × List Tree × Nat × Nat) [0,2,3,4] rfl (fun x=>[]) (fun x=>x.2.1) (fun x=>E.I x.2.2.2.1 h :: .cells b3 0 [.int .i64 kd,strV nm, .int .i64 0,x.1.v] :: tok x.1 4 :: .cells b2 0 [.int .i64 0,strV [], .int .i64 0, .slice none 0 0] :: L) (fun x=>m ≤ x.2.1∧E.Ok x.2.1∧x.2.2.2.1 ≤ E.toks.length∧SlRep rTree x.2.1 x.1 x.2.2.1∧Own x.1∧x.2.2.1.length + x.2.2.2.2=E.N∧T=Ps.bind (Ps.rest x.2.2.2.2 [125] (Ps.fieldP Y) x.2.2.1) (fun l=>Ps.ret (.mk kd nm 0 l)) E.f x.2.2.2.1) (fun x=>x.2.2.2.2) (⟨none,0,0⟩,m,[],k + 1,E.N) uH rfl uS ⟨hm,hE,hk,bN _ _,Own.nil,by simp,hT⟩ ?_
 rintro ⟨s,m1,acc,k,j⟩ ⟨hm,hE,hk,hs,ho,hlen,hT⟩
 simp only at hm hE hk hs ho hlen hT
 cases j with
 | zero=>rw [Ps.rest_zero,Ps.dry_bind] at hT;exact absurd hT hn
 | succ j =>
  rw [Ps.rest_succ,Ps.tok_bind,Ps.bind_assoc,Ps.ret_bind] at hT
  refine uA ?_
  refine qs rfl (cD hT hE hk rfl rfl rfl rfl rfl rfl (fun hT hk => ?_) (fun hT => ?_))
  ·refine uA ?_
   refine uM ?_
   refine uA ?_
   refine qs rfl (bJ tab 3 rfl rfl rfl rfl rfl rfl rfl rfl ?_)
   refine uA ?_
   refine ci tab 3 rfl rfl rfl rfl (L':=E.I (k + 1) h :: L) uS ⟨_,k + 1,[],hT,hm,hk,⟨⟨kd,nm,0,s⟩,rfl,rfl,⟨rfl,rfl,rfl,hs⟩⟩,rfl⟩
  ·unfold Ps.fieldP at hT
   simp only [Ps.name_bind,Ps.bind_assoc,Ps.need_bind,Ps.ret_bind] at hT
   refine uA ?_
   refine qs rfl (OT.nameP (L0:=L) hT hE hk (by repeat (first|exact cz|refine cA ?_|refine cB ?_)) hm uS rfl rfl rfl rfl rfl rfl (fun t hT hk => ?_))
   refine uA ?_
   refine bQ [10] cr 11 rfl [.cells b3 0 [.int .i64 kd,strV nm, .int .i64 0,s.v]] (E.I (k + 1) h :: tok s 4 :: .cells b2 0 [.int .i64 0,strV [], .int .i64 0, .slice none 0 0] :: L) (ag _ _ _) ?_
   refine bV tab uC uK [0] uK rfl ?_
   (refine bW tab 1 0 uC uK uK rfl rfl rfl rfl rfl rfl rfl rfl ?_)
   refine bV tab uC uK [2,3] uK rfl ?_
   refine bZ 4 rfl rfl uK rfl ?_
   refine ce (ag _ _ _) (cC (L0:=L) hY hm hT hn hE hk (by repeat (first|exact cz|refine cA ?_|refine cB ?_)) hm uS rfl rfl rfl rfl rfl rfl hgo (fun x m3 a k2 hT hm hE hle hk hr => ?_));refine ⟨hle,E.I k2 h :: tok s 4 :: .cells b2 0 [.int .i64 0,strV [], .int .i64 0, .slice none 0 0] :: L,ag _ _ _, ?_⟩
   refine bZ 5 rfl rfl uK rfl ?_
   refine cq tab rTree (hs:=[x]) (l:=[a]) ⟨rTree_iff.2 hr,trivial⟩ rfl rfl rfl rfl rfl (by decide) (fun s2 m4 hle2 hs2 ho2 hc2 => ?_);refine ⟨hle2,_,af _, ?_⟩
   refine bV tab uC uK [6] uK rfl ?_
   refine bZ 7 rfl rfl uK rfl ?_
   refine cq tab rTree (hs:=[⟨6,t,0,s2⟩]) (l:=[.mk 6 t 0 [a]]) ⟨rTree_iff.2 ⟨rfl,rfl,rfl,hs2⟩,trivial⟩ rfl rfl rfl rfl rfl (by decide) (fun s3 m5 hle3 hs3 ho3 hc3 => ?_);refine ⟨hle3,_,af _, ?_⟩
   refine bZ 8 rfl rfl uK rfl ?_
   refine bP tab rTree 2 (hs.mono (bn hle (bn hle2 hle3))) ho hs3 rfl rfl rfl rfl rfl rfl rfl (by simp only [aa,ab,ae,rTree,mkR];omega) (fun s4 m6 hle6 hs4 ho4 => ?_);refine ⟨hle6,E.I k2 h :: tok s4 4 :: .cells b2 0 [.int .i64 0,strV [], .int .i64 0, .slice none 0 0] :: L,af _, ?_⟩
   refine bV tab uC uK [9] uK rfl ?_
   refine DO.tail ?_
   refine DOt.run 10 rfl rfl uK rfl ?_
   refine bI (k:=3) tab 0 rfl rfl rfl rfl rfl rfl rfl rfl ?_;refine DOt.perm (ag _ _ _) ?_
   refine DOt.nil uK ?_
   rotate_left 1
   replace hm:=bn hm (bn hle2 (bn hle3 hle6))
   replace hE:=hE.mono (bn hle2 (bn hle3 hle6))
   refine uA ?_
   refine qs rfl (OT.needP (L0:=L) hT hE hk (by repeat (first|exact cz|refine cA ?_|refine cB ?_)) hm uS rfl rfl rfl rfl rfl rfl (fun hT hk => ?_))
   refine uA ?_
   exact ⟨(s4,m6,acc++[Tree.mk 6 t 0 [a]],k2 + 1,j),uH,uH,rfl,rfl,uS,⟨hm,hE,hk,hs4,ho4,by simp only [aa,ab,ae];omega,hT⟩,by simp only;omega⟩
theorem decl_par {X Y : Ps.Pp Tree} (hX : Par Tryz.prog mb E vTree 143 [E.v] h X) (hY : Par Tryz.prog mb E vTree 115 [E.v] h Y) :
  Par Tryz.prog mb E vTree 61 [E.v] h (Ps.declP E.N X Y):=by
 refine cy Tryz.func61 rfl 49 rfl fun m L k T hm0 hE hk hT hn => ?_
 replace hX:=hX.up hm0
 replace hY:=hY.up hm0
 have hm : m ≤ m:=bm _
 unfold Ps.declP at hT
 refine uA ?_
 refine oA tab (fun b2 => ?_);refine bD (ag _ _ _) ?_
 refine uA ?_
 refine qs rfl (cD hT hE hk rfl rfl rfl rfl rfl rfl (fun hT hk => ?_) (fun hT => ?_))
 ·refine uA ?_
  rw [← Ps.bind_ret (Ps.typeDeclP E.N X)] at hT
  refine qs rfl (cC (L0:=L) (typeDecl_par hX) hm hT hn hE hk (by repeat (first|exact cz|refine cA ?_)) hm uS rfl rfl rfl rfl rfl rfl goes111 (fun x m2 a k2 hT hm hE hlex hk hrx => ?_))
  refine uA ?_
  refine uT ?_
  refine uA ?_
  refine ci tab 1 rfl rfl rfl rfl (L':=E.I k2 h :: L) uS ⟨_,k2,[],hT,hm,hk,⟨x,rfl,rfl,hrx⟩,rfl⟩
 refine uA ?_
 refine qs rfl (OT.needP (L0:=L) hT hE hk (by repeat (first|exact cz|refine cA ?_)) hm uS rfl rfl rfl rfl rfl rfl (fun hT hk => ?_))
 refine uA ?_
 refine qs rfl (cD hT hE hk rfl rfl rfl rfl rfl rfl (fun hT hk => ?_) (fun hT => ?_))
 ·refine uA ?_
  refine qs rfl (OT.nameP (L0:=L) hT hE hk (by repeat (first|exact cz|refine cA ?_)) hm uS rfl rfl rfl rfl rfl rfl (fun recv hT hk => ?_))
  refine uA ?_
  refine qs rfl (OT.needP (L0:=L) hT hE hk (by repeat (first|exact cz|refine cA ?_)) hm uS rfl rfl rfl rfl rfl rfl (fun hT hk => ?_))
  refine uA ?_
  refine qs rfl (OT.nameP (L0:=L) hT hE hk (by repeat (first|exact cz|refine cA ?_)) hm uS rfl rfl rfl rfl rfl rfl (fun of hT hk => ?_))
  refine uA ?_
  refine qs rfl (cq tab rTree (hs:=[⟨10,of,0,⟨none,0,0⟩⟩]) (l:=[Ps.leaf 10 of]) ⟨rTree_iff.2 ⟨rfl,rfl,rfl,bN _ _⟩,trivial⟩ rfl rfl rfl rfl rfl (by decide) (fun s m2 hle hs ho hc => ?_))
  replace hm:=hle
  replace hE:=hE.mono hle
  refine uA ?_
  refine oA tab (fun b5 => ?_);refine bD (ag _ _ _) ?_
  refine uA ?_
  refine uT ?_
  refine uA ?_
  refine qs rfl (OT.needP (L0:=L) hT hE hk (by repeat (first|exact cz|refine cA ?_)) hm uS rfl rfl rfl rfl rfl rfl (fun hT hk => ?_))
  refine uA ?_
  refine qs rfl (OT.nameP (L0:=L) hT hE hk (by repeat (first|exact cz|refine cA ?_)) hm uS rfl rfl rfl rfl rfl rfl (fun nm hT hk => ?_))
  refine uA ?_
  have hs0:=hs
  refine bQ [11] cr 12 rfl [.cells b5 0 [.int .i64 11,strV [], .int .i64 0,s.v], .cells b2 0 [.int .i64 0,strV [], .int .i64 0, .slice none 0 0]] (E.I (k + 1 + 1 + 1 + 1 + 1 + 1 + 1) h :: L) (ah (ag _ _ _) (ai _ (ag _ _ _))) ?_
  refine bV tab uC uK [0,1,5,7] uK rfl ?_
  refine bW (k:=0) tab 2 0 uC uK uK rfl rfl rfl rfl rfl rfl rfl rfl ?_
  refine DO.fork 3 [6] uK ⟨⟨_,rfl,rfl,rfl, ?_⟩,⟨_,rfl,rfl,rfl, ?_⟩,trivial⟩
  ·skip
   refine cq tab rTree (hs:=[⟨11,[],0,s⟩]) (l:=[.mk 11 [] 0 [Ps.leaf 10 of]]) ⟨rTree_iff.2 ⟨rfl,rfl,rfl,hs⟩,trivial⟩ rfl rfl rfl rfl rfl (by decide) (fun s1 m1 hle1 hs1 ho1 hc1 => ?_)
   replace hm:=bn hm hle1
   replace hE:=hE.mono hle1
   refine ⟨hle1,_,af _, ?_⟩
   refine bV tab uC uK [4] uK rfl ?_
   refine bZ 6 rfl rfl uK rfl ?_
   refine ce List.perm_middle (cC (L0:=L) (psig_par hX) hm hT hn hE hk (by repeat (first|exact cz|refine cA ?_)) hm uS rfl rfl rfl rfl rfl rfl goes114 (fun x m3 a k2 hT hm hE hle2 hk hrx => ?_))
   refine ⟨hle2,E.I k2 h :: L,perm_mid (l:=[_,_]), ?_⟩
   refine bZ 8 rfl rfl uK rfl ?_
   refine ce List.perm_middle (cC (L0:=L) hY hm hT hn hE hk (by repeat (first|exact cz|refine cA ?_)) hm uS rfl rfl rfl rfl rfl rfl goes115 (fun y m4 b k3 hT hm hE hle3 hk hry => ?_))
   refine ⟨hle3,E.I k3 h :: L,perm_mid (l:=[_,_]), ?_⟩
   have hz1:=hrx.mono hle3
   have hz2:=hry
   have hz3:=hs1.mono (bn hle2 hle3)
   refine bZ 9 rfl rfl uK rfl ?_
   refine cq tab rTree (hs:=[⟨8,recv,0,s1⟩,x,y]) (l:=[.mk 8 recv 0 [.mk 11 [] 0 [Ps.leaf 10 of]],a,b]) ⟨rTree_iff.2 ⟨rfl,rfl,rfl,hz3⟩,rTree_iff.2 hz1,rTree_iff.2 hz2,trivial⟩ rfl rfl rfl rfl rfl (by decide) (fun s9 m9 hle9 hs9 ho9 hc9 => ?_)
   refine ⟨hle9,_,af _, ?_⟩
   refine bV tab uC uK [10] uK rfl ?_
   refine DO.tail ?_
   refine DOt.run 11 rfl rfl uK rfl ?_
   refine bJ tab 1 rfl rfl rfl rfl rfl rfl rfl rfl ?_
   refine DOt.nil uK ?_
   refine uA ?_
   refine ci tab 1 rfl rfl rfl rfl (L':=E.I k3 h :: L) uS ⟨_,k3,[],hT,bn hm hle9,hk,⟨⟨5,nm,0,s9⟩,rfl,rfl,⟨rfl,rfl,rfl,hs9⟩⟩,rfl⟩
  ·skip
   refine ce List.perm_middle (cC (L0:=L) (psig_par hX) hm hT hn hE hk (by repeat (first|exact cz|refine cA ?_)) hm uS rfl rfl rfl rfl rfl rfl goes114 (fun x m3 a k2 hT hm hE hle2 hk hrx => ?_))
   refine ⟨hle2,E.I k2 h :: L,perm_mid (l:=[_,_]), ?_⟩
   refine DO.fork 3 [8] uK ⟨⟨_,rfl,rfl,rfl, ?_⟩,⟨_,rfl,rfl,rfl, ?_⟩,trivial⟩
   ·skip
    refine cq tab rTree (hs:=[⟨11,[],0,s⟩]) (l:=[.mk 11 [] 0 [Ps.leaf 10 of]]) ⟨rTree_iff.2 ⟨rfl,rfl,rfl,(hs.mono hle2)⟩,trivial⟩ rfl rfl rfl rfl rfl (by decide) (fun s1 m1 hle1 hs1 ho1 hc1 => ?_)
    replace hm:=bn hm hle1
    replace hE:=hE.mono hle1
    refine ⟨hle1,_,af _, ?_⟩
    refine bV tab uC uK [4] uK rfl ?_
    refine bZ 8 rfl rfl uK rfl ?_
    refine ce List.perm_middle (cC (L0:=L) hY hm hT hn hE hk (by repeat (first|exact cz|refine cA ?_)) hm uS rfl rfl rfl rfl rfl rfl goes115 (fun y m4 b k3 hT hm hE hle3 hk hry => ?_))
    refine ⟨hle3,E.I k3 h :: L,perm_mid (l:=[_,_]), ?_⟩
    have hz1:=hrx.mono (bn hle1 hle3)
    have hz2:=hry
    have hz3:=hs1.mono hle3
    refine bZ 9 rfl rfl uK rfl ?_
    refine cq tab rTree (hs:=[⟨8,recv,0,s1⟩,x,y]) (l:=[.mk 8 recv 0 [.mk 11 [] 0 [Ps.leaf 10 of]],a,b]) ⟨rTree_iff.2 ⟨rfl,rfl,rfl,hz3⟩,rTree_iff.2 hz1,rTree_iff.2 hz2,trivial⟩ rfl rfl rfl rfl rfl (by decide) (fun s9 m9 hle9 hs9 ho9 hc9 => ?_)
    refine ⟨hle9,_,af _, ?_⟩
    refine bV tab uC uK [10] uK rfl ?_
    refine DO.tail ?_
    refine DOt.run 11 rfl rfl uK rfl ?_
    refine bJ tab 1 rfl rfl rfl rfl rfl rfl rfl rfl ?_
    refine DOt.nil uK ?_
    refine uA ?_
    refine ci tab 1 rfl rfl rfl rfl (L':=E.I k3 h :: L) uS ⟨_,k3,[],hT,bn hm hle9,hk,⟨⟨5,nm,0,s9⟩,rfl,rfl,⟨rfl,rfl,rfl,hs9⟩⟩,rfl⟩
   ·skip
    refine ce List.perm_middle (cC (L0:=L) hY hm hT hn hE hk (by repeat (first|exact cz|refine cA ?_)) hm uS rfl rfl rfl rfl rfl rfl goes115 (fun y m4 b k3 hT hm hE hle3 hk hry => ?_))
    refine ⟨hle3,E.I k3 h :: L,perm_mid (l:=[_,_]), ?_⟩
    refine bZ 3 rfl rfl uK rfl ?_
    refine cq tab rTree (hs:=[⟨11,[],0,s⟩]) (l:=[.mk 11 [] 0 [Ps.leaf 10 of]]) ⟨rTree_iff.2 ⟨rfl,rfl,rfl,(hs.mono (bn hle2 hle3))⟩,trivial⟩ rfl rfl rfl rfl rfl (by decide) (fun s1 m1 hle1 hs1 ho1 hc1 => ?_)
    replace hm:=bn hm hle1
    replace hE:=hE.mono hle1
    refine ⟨hle1,_,af _, ?_⟩
    refine bV tab uC uK [4] uK rfl ?_
    have hz1:=hrx.mono (bn hle3 hle1)
    have hz2:=hry.mono hle1
    have hz3:=hs1
    refine bZ 9 rfl rfl uK rfl ?_
    refine cq tab rTree (hs:=[⟨8,recv,0,s1⟩,x,y]) (l:=[.mk 8 recv 0 [.mk 11 [] 0 [Ps.leaf 10 of]],a,b]) ⟨rTree_iff.2 ⟨rfl,rfl,rfl,hz3⟩,rTree_iff.2 hz1,rTree_iff.2 hz2,trivial⟩ rfl rfl rfl rfl rfl (by decide) (fun s9 m9 hle9 hs9 ho9 hc9 => ?_)
    refine ⟨hle9,_,af _, ?_⟩
    refine bV tab uC uK [10] uK rfl ?_
    refine DO.tail ?_
    refine DOt.run 11 rfl rfl uK rfl ?_
    refine bJ tab 1 rfl rfl rfl rfl rfl rfl rfl rfl ?_
    refine DOt.nil uK ?_
    refine uA ?_
    refine ci tab 1 rfl rfl rfl rfl (L':=E.I k3 h :: L) uS ⟨_,k3,[],hT,bn hm hle9,hk,⟨⟨5,nm,0,s9⟩,rfl,rfl,⟨rfl,rfl,rfl,hs9⟩⟩,rfl⟩
 ·refine uA ?_
  refine qs rfl (OT.nameP (L0:=L) hT hE hk (by repeat (first|exact cz|refine cA ?_)) hm uS rfl rfl rfl rfl rfl rfl (fun nm hT hk => ?_))
  refine uA ?_
  refine qs rfl (cC (L0:=L) (psig_par hX) hm hT hn hE hk (by repeat (first|exact cz|refine cA ?_)) hm uS rfl rfl rfl rfl rfl rfl goes114 (fun x m2 a k2 hT hm hE hlex hk hrx => ?_))
  refine uA ?_
  refine qs rfl (cC (L0:=L) (hY) hm hT hn hE hk (by repeat (first|exact cz|refine cA ?_)) hm uS rfl rfl rfl rfl rfl rfl goes115 (fun y m3 b k3 hT hm hE hley hk hry => ?_))
  refine uA ?_
  refine qs rfl (cq tab rTree (hs:=[x,y]) (l:=[a,b]) ⟨rTree_iff.2 (hrx.mono hley),rTree_iff.2 hry,trivial⟩ rfl rfl rfl rfl rfl (by decide) (fun s m4 hle hs ho hc => ?_))
  refine uA ?_
  refine uT ?_
  refine uA ?_
  refine ci tab 1 rfl rfl rfl rfl (L':=E.I k3 h :: L) uS ⟨_,k3,[],hT,bn hm hle,hk,⟨⟨4,nm,0,s⟩,rfl,rfl,⟨rfl,rfl,rfl,hs⟩⟩,rfl⟩
end
end Go.Sep


/- PsW8 -/
namespace Go.Sep
open Go.Proofs
attribute [local irreducible] TC TO OT TCallX TCall DO DOt thenQ blockQ retQ At
section
variable {mb : Mem} {E : PE}
theorem cond_par {X : Ps.Pp Tree} (hX : Par Tryz.prog mb E vTree 191 [E.v] 1 X) :
  Par Tryz.prog mb E vTree 177 [E.v] 0 X:=by
 refine cy Tryz.func177 rfl 13 rfl fun m L k T hm0 hE hk hT hn => ?_
 replace hX:=hX.up hm0
 have hm : m ≤ m:=bm _
 rw [← Ps.bind_ret X] at hT
 refine uA ?_
 refine oA tab (fun b2 => ?_);refine bD (ag _ _ _) ?_
 refine uA ?_
 refine qs rfl (bI (k:=3) tab 0 rfl rfl rfl rfl rfl rfl rfl rfl ?_)
 refine uA ?_
 refine qs rfl (cC (L0:=L) (hX) hm hT hn hE hk (by repeat (first|exact cz|refine cA ?_)) hm uS rfl rfl rfl rfl rfl rfl goes191 (fun x m2 a k2 hT hm hE hlex hk hrx => ?_))
 refine uA ?_
 refine oA tab (fun b3 => ?_);refine bD (ag _ _ _) ?_
 refine uA ?_
 refine uT ?_
 refine uA ?_
 refine qs rfl (bI (k:=3) tab 0 rfl rfl rfl rfl rfl rfl rfl rfl ?_)
 refine uA ?_
 refine uM ?_
 refine uA ?_
 refine qs rfl (bJ tab 2 rfl rfl rfl rfl rfl rfl rfl rfl ?_)
 refine uA ?_
 refine ci tab 2 rfl rfl rfl rfl (L':=E.I k2 0 :: L) uS ⟨_,k2,[],hT,hm,hk,⟨x,rfl,rfl,hrx⟩,rfl⟩
theorem branch_par {X Y Z : Ps.Pp Tree} (hX : Par Tryz.prog mb E vTree 191 [E.v] 1 X) (hY : Par Tryz.prog mb E vTree 115 [E.v] 0 Y) (hZ : Par Tryz.prog mb E vTree 176 [E.v] 0 Z) :
  Par Tryz.prog mb E vTree 176 [E.v] 0 (Ps.branchP X Y Z):=by
 refine cy Tryz.func176 rfl 36 rfl fun m L k T hm0 hE hk hT hn => ?_
 replace hX:=hX.up hm0
 replace hY:=hY.up hm0
 replace hZ:=hZ.up hm0
 have hm : m ≤ m:=bm _
 unfold Ps.branchP at hT
 refine uA ?_
 refine oA tab (fun b2 => ?_);refine bD (ag _ _ _) ?_
 refine uA ?_
 refine qs rfl (OT.needP (L0:=L) hT hE hk (by repeat (first|exact cz|refine cA ?_)) hm uS rfl rfl rfl rfl rfl rfl (fun hT hk => ?_))
 refine uA ?_
 refine qs rfl (cC (L0:=L) (cond_par hX) hm hT hn hE hk (by repeat (first|exact cz|refine cA ?_)) hm uS rfl rfl rfl rfl rfl rfl goes177 (fun x m2 c k2 hT hm hE hlex hk hrx => ?_))
 refine uA ?_
 refine qs rfl (cq tab rTree (hs:=[x]) (l:=[c]) ⟨rTree_iff.2 hrx,trivial⟩ rfl rfl rfl rfl rfl (by decide) (fun s m3 hle3 hs ho hc => ?_))
 replace hm:=bn hm hle3
 replace hE:=hE.mono hle3
 refine TO.tokFo hc ho 4 ?_
 refine bD (ag _ _ _) ?_
 refine uA ?_
 refine oA tab (fun b3 => ?_);refine bD (ag _ _ _) ?_
 refine uA ?_
 refine uT ?_
 refine uA ?_
 refine bQ [7] cr 8 rfl [.cells b3 0 [.int .i64 25,strV [], .int .i64 0,s.v]] (E.I k2 0 :: tok s 4 :: .cells b2 0 [.int .i64 0,strV [], .int .i64 0, .slice none 0 0] :: L) (ag _ _ _) ?_
 refine bV tab uC uK [0] uK rfl ?_
 (refine bW tab 1 0 uC uK uK rfl rfl rfl rfl rfl rfl rfl rfl ?_)
 refine bV tab uC uK [2] uK rfl ?_
 refine bZ 3 rfl rfl uK rfl ?_
 refine ce (ag _ _ _) (cC (L0:=L) (hY) hm hT hn hE hk (by repeat (first|exact cz|refine cA ?_)) hm uS rfl rfl rfl rfl rfl rfl goes115 (fun x3 mA a3 k3 hT hm hE hleA hk hr3 => ?_));refine ⟨hleA,E.I k3 0 :: tok s 4 :: .cells b2 0 [.int .i64 0,strV [], .int .i64 0, .slice none 0 0] :: L,ag _ _ _, ?_⟩
 refine bZ 4 rfl rfl uK rfl ?_
 refine cq tab rTree (hs:=[x3]) (l:=[a3]) ⟨rTree_iff.2 hr3,trivial⟩ rfl rfl rfl rfl rfl (by decide) (fun sB mB hleB hsB hoB hcB => ?_);refine ⟨hleB,_,af _, ?_⟩
 refine bZ 5 rfl rfl uK rfl ?_
 refine bP tab rTree 2 (hs.mono (bn hleA hleB)) ho hsB rfl rfl rfl rfl rfl rfl rfl (by simp only [aa,ab,ae,rTree,mkR];omega) (fun s3 mC hleC hs3 ho3 => ?_);refine ⟨hleC,E.I k3 0 :: tok s3 4 :: .cells b2 0 [.int .i64 0,strV [], .int .i64 0, .slice none 0 0] :: L,af _, ?_⟩
 refine bV tab uC uK [6] uK rfl ?_
 refine DO.tail ?_
 refine DOt.run 7 rfl rfl uK rfl ?_
 refine bI (k:=3) tab 0 rfl rfl rfl rfl rfl rfl rfl rfl ?_;refine DOt.perm (ag _ _ _) ?_
 refine DOt.nil uK ?_
 rotate_left 1
 replace hm:=bn hm (bn hleB hleC)
 replace hE:=hE.mono (bn hleB hleC)
 refine uA ?_
 refine qs rfl (cD hT hE hk rfl rfl rfl rfl rfl rfl (fun hT hk => ?_) (fun hT => ?_))
 ·refine uA ?_
  refine qs rfl (OT.peekP hT hE hk rfl rfl rfl rfl rfl rfl (fun hT => ?_) (fun hT => ?_))
  ·refine uA ?_
   refine bQ [7] cr 8 rfl [.cells b3 0 [.int .i64 25,strV [], .int .i64 0,s3.v]] (E.I (k3+1) 0 :: tok s3 4 :: .cells b2 0 [.int .i64 0,strV [], .int .i64 0, .slice none 0 0] :: L) (ag _ _ _) ?_
   refine bV tab uC uK [0] uK rfl ?_
   (refine bW tab 1 0 uC uK uK rfl rfl rfl rfl rfl rfl rfl rfl ?_)
   refine bV tab uC uK [2] uK rfl ?_
   refine bZ 3 rfl rfl uK rfl ?_
   refine ce (ag _ _ _) (cC (L0:=L) (hZ) hm hT hn hE hk (by repeat (first|exact cz|refine cA ?_)) hm uS rfl rfl rfl rfl rfl rfl goes176 (fun x4 mA a4 k4 hT hm hE hleA hk hr4 => ?_));refine ⟨hleA,E.I k4 0 :: tok s3 4 :: .cells b2 0 [.int .i64 0,strV [], .int .i64 0, .slice none 0 0] :: L,ag _ _ _, ?_⟩
   refine bZ 4 rfl rfl uK rfl ?_
   refine cq tab rTree (hs:=[x4]) (l:=[a4]) ⟨rTree_iff.2 hr4,trivial⟩ rfl rfl rfl rfl rfl (by decide) (fun sB mB hleB hsB hoB hcB => ?_);refine ⟨hleB,_,af _, ?_⟩
   refine bZ 5 rfl rfl uK rfl ?_
   refine bP tab rTree 2 (hs3.mono (bn hleA hleB)) ho3 hsB rfl rfl rfl rfl rfl rfl rfl (by simp only [aa,ab,ae,rTree,mkR];omega) (fun s4 mC hleC hs4 ho4 => ?_);refine ⟨hleC,E.I k4 0 :: tok s4 4 :: .cells b2 0 [.int .i64 0,strV [], .int .i64 0, .slice none 0 0] :: L,af _, ?_⟩
   refine bV tab uC uK [6] uK rfl ?_
   refine DO.tail ?_
   refine DOt.run 7 rfl rfl uK rfl ?_
   refine bI (k:=3) tab 0 rfl rfl rfl rfl rfl rfl rfl rfl ?_;refine DOt.perm (ag _ _ _) ?_
   refine DOt.nil uK ?_
   rotate_left 1
   replace hm:=bn hm (bn hleB hleC)
   replace hE:=hE.mono (bn hleB hleC)
   refine uA ?_
   refine uM ?_
   refine uA ?_
   refine qs rfl (bJ tab 3 rfl rfl rfl rfl rfl rfl rfl rfl ?_)
   refine uA ?_
   refine ci tab 3 rfl rfl rfl rfl (L':=E.I k4 0 :: L) uS ⟨_,k4,[],hT,hm,hk,⟨⟨25,[],0,s4⟩,rfl,rfl,⟨rfl,rfl,rfl,hs4⟩⟩,rfl⟩
  ·refine uA ?_
   refine bQ [7] cr 8 rfl [.cells b3 0 [.int .i64 25,strV [], .int .i64 0,s3.v]] (E.I (k3+1) 0 :: tok s3 4 :: .cells b2 0 [.int .i64 0,strV [], .int .i64 0, .slice none 0 0] :: L) (ag _ _ _) ?_
   refine bV tab uC uK [0] uK rfl ?_
   (refine bW tab 1 0 uC uK uK rfl rfl rfl rfl rfl rfl rfl rfl ?_)
   refine bV tab uC uK [2] uK rfl ?_
   refine bZ 3 rfl rfl uK rfl ?_
   refine ce (ag _ _ _) (cC (L0:=L) (hY) hm hT hn hE hk (by repeat (first|exact cz|refine cA ?_)) hm uS rfl rfl rfl rfl rfl rfl goes115 (fun x4 mA a4 k4 hT hm hE hleA hk hr4 => ?_));refine ⟨hleA,E.I k4 0 :: tok s3 4 :: .cells b2 0 [.int .i64 0,strV [], .int .i64 0, .slice none 0 0] :: L,ag _ _ _, ?_⟩
   refine bZ 4 rfl rfl uK rfl ?_
   refine cq tab rTree (hs:=[x4]) (l:=[a4]) ⟨rTree_iff.2 hr4,trivial⟩ rfl rfl rfl rfl rfl (by decide) (fun sB mB hleB hsB hoB hcB => ?_);refine ⟨hleB,_,af _, ?_⟩
   refine bZ 5 rfl rfl uK rfl ?_
   refine bP tab rTree 2 (hs3.mono (bn hleA hleB)) ho3 hsB rfl rfl rfl rfl rfl rfl rfl (by simp only [aa,ab,ae,rTree,mkR];omega) (fun s4 mC hleC hs4 ho4 => ?_);refine ⟨hleC,E.I k4 0 :: tok s4 4 :: .cells b2 0 [.int .i64 0,strV [], .int .i64 0, .slice none 0 0] :: L,af _, ?_⟩
   refine bV tab uC uK [6] uK rfl ?_
   refine DO.tail ?_
   refine DOt.run 7 rfl rfl uK rfl ?_
   refine bI (k:=3) tab 0 rfl rfl rfl rfl rfl rfl rfl rfl ?_;refine DOt.perm (ag _ _ _) ?_
   refine DOt.nil uK ?_
   rotate_left 1
   replace hm:=bn hm (bn hleB hleC)
   replace hE:=hE.mono (bn hleB hleC)
   refine uA ?_
   refine uM ?_
   refine uA ?_
   refine qs rfl (bJ tab 3 rfl rfl rfl rfl rfl rfl rfl rfl ?_)
   refine uA ?_
   refine ci tab 3 rfl rfl rfl rfl (L':=E.I k4 0 :: L) uS ⟨_,k4,[],hT,hm,hk,⟨⟨25,[],0,s4⟩,rfl,rfl,⟨rfl,rfl,rfl,hs4⟩⟩,rfl⟩
 ·refine uA ?_
  refine uM ?_
  refine uA ?_
  refine qs rfl (bJ tab 3 rfl rfl rfl rfl rfl rfl rfl rfl ?_)
  refine uA ?_
  refine ci tab 3 rfl rfl rfl rfl (L':=E.I k3 0 :: L) uS ⟨_,k3,[],hT,hm,hk,⟨⟨25,[],0,s3⟩,rfl,rfl,⟨rfl,rfl,rfl,hs3⟩⟩,rfl⟩
theorem stmt_par {X Y Z S : Ps.Pp Tree} (hX : Par Tryz.prog mb E vTree 191 [E.v] 1 X) (hY : Par Tryz.prog mb E vTree 115 [E.v] 0 Y) (hZ : Par Tryz.prog mb E vTree 176 [E.v] 0 Z)
  (hS : Par Tryz.prog mb E vTree 178 [E.v] 0 S) :
  Par Tryz.prog mb E vTree 149 [E.v] 0 (Ps.peek (Ps.isM [123]) Y (Ps.peek (Ps.isM [105,102]) Z (Ps.tok [102,111,114] (Ps.forP X Y) (Ps.bind S fun s=>Ps.need [59] (Ps.ret s))))):=by
 refine cy Tryz.func149 rfl 42 rfl fun m L k T hm0 hE hk hT hn => ?_
 replace hX:=hX.up hm0
 replace hY:=hY.up hm0
 replace hZ:=hZ.up hm0
 replace hS:=hS.up hm0
 have hm : m ≤ m:=bm _
 refine uA ?_
 refine oA tab (fun b2 => ?_);refine bD (ag _ _ _) ?_
 refine uA ?_
 refine qs rfl (OT.peekP hT hE hk rfl rfl rfl rfl rfl rfl (fun hT => ?_) (fun hT => ?_))
 ·rw [← Ps.bind_ret Y] at hT
  refine uA ?_
  refine qs rfl (cC (L0:=L) (hY) hm hT hn hE hk (by repeat (first|exact cz|refine cA ?_|refine cB ?_)) hm uS rfl rfl rfl rfl rfl rfl goes115 (fun x m2 a k2 hT hm hE hlex hk hrx => ?_))
  refine uA ?_
  refine uT ?_
  refine uA ?_
  refine ci tab 1 rfl rfl rfl rfl (L':=E.I k2 0 :: L) uS ⟨_,k2,[],hT,hm,hk,⟨x,rfl,rfl,hrx⟩,rfl⟩
 refine uA ?_
 refine qs rfl (OT.peekP hT hE hk rfl rfl rfl rfl rfl rfl (fun hT => ?_) (fun hT => ?_))
 ·rw [← Ps.bind_ret Z] at hT
  refine uA ?_
  refine qs rfl (cC (L0:=L) (hZ) hm hT hn hE hk (by repeat (first|exact cz|refine cA ?_|refine cB ?_)) hm uS rfl rfl rfl rfl rfl rfl goes176 (fun x m2 a k2 hT hm hE hlex hk hrx => ?_))
  refine uA ?_
  refine uT ?_
  refine uA ?_
  refine ci tab 1 rfl rfl rfl rfl (L':=E.I k2 0 :: L) uS ⟨_,k2,[],hT,hm,hk,⟨x,rfl,rfl,hrx⟩,rfl⟩
 refine uA ?_
 refine qs rfl (cD hT hE hk rfl rfl rfl rfl rfl rfl (fun hT hk => ?_) (fun hT => ?_))
 ·unfold Ps.forP at hT
  refine uA ?_
  refine oA tab (fun b3 => ?_);refine bD (ag _ _ _) ?_
  refine uA ?_
  refine uT ?_
  refine TO.grow0 (size:=4) ?_
  refine bD (L':=E.I (k + 1) 0 :: .cells b3 0 [.int .i64 26,strV [], .int .i64 0, .slice none 0 0] :: tok ⟨none,0,0⟩ 4 :: .cells b2 0 [.int .i64 0,strV [], .int .i64 0, .slice none 0 0] :: L) (ah (ag _ _ _) (ai _ (ag _ _ _))) ?_
  obtain ⟨s,hse⟩ : ∃ s : Sl,s = ⟨none,0,0⟩:=⟨_,rfl⟩
  have hs : SlRep rTree m s []:=by rw [hse];exact bN _ _
  have ho : Own s:=by rw [hse];exact Own.nil
  rw [show Value.slice none 0 0=(⟨none,0,0⟩ : Sl).v from rfl,← hse]
  refine uA ?_
  refine qs rfl (OT.peekP hT hE hk rfl rfl rfl rfl rfl rfl (fun hT => ?_) (fun hT => ?_))
  ·refine uA ?_
   refine bQ [7] cr 8 rfl [.cells b3 0 [.int .i64 26,strV [], .int .i64 0,s.v]] (E.I (k+1) 0 :: tok s 4 :: .cells b2 0 [.int .i64 0,strV [], .int .i64 0,s.v] :: L) (ag _ _ _) ?_
   refine bV tab uC uK [0] uK rfl ?_
   (refine bW tab 1 0 uC uK uK rfl rfl rfl rfl rfl rfl rfl rfl ?_)
   refine bV tab uC uK [2] uK rfl ?_
   refine bZ 3 rfl rfl uK rfl ?_
   refine ce (ag _ _ _) (cC (L0:=L) (hY) hm hT hn hE hk (by repeat (first|exact cz|refine cA ?_|refine cB ?_)) hm uS rfl rfl rfl rfl rfl rfl goes115 (fun x4 mA a4 k4 hT hm hE hleA hk hr4 => ?_));refine ⟨hleA,E.I k4 0 :: tok s 4 :: .cells b2 0 [.int .i64 0,strV [], .int .i64 0,s.v] :: L,ag _ _ _, ?_⟩
   refine bZ 4 rfl rfl uK rfl ?_
   refine cq tab rTree (hs:=[x4]) (l:=[a4]) ⟨rTree_iff.2 hr4,trivial⟩ rfl rfl rfl rfl rfl (by decide) (fun sB mB hleB hsB hoB hcB => ?_);refine ⟨hleB,_,af _, ?_⟩
   refine bZ 5 rfl rfl uK rfl ?_
   refine bP tab rTree 2 (hs.mono (bn hleA hleB)) ho hsB rfl rfl rfl rfl rfl rfl rfl (by simp only [aa,ab,ae,rTree,mkR];omega) (fun s4 mC hleC hs4 ho4 => ?_);refine ⟨hleC,E.I k4 0 :: tok s4 4 :: .cells b2 0 [.int .i64 0,strV [], .int .i64 0,s.v] :: L,af _, ?_⟩
   refine bV tab uC uK [6] uK rfl ?_
   refine DO.tail ?_
   refine DOt.run 7 rfl rfl uK rfl ?_
   refine bI (k:=3) tab 0 rfl rfl rfl rfl rfl rfl rfl rfl ?_;refine DOt.perm (ag _ _ _) ?_
   refine DOt.nil uK ?_
   rotate_left 1
   replace hm:=bn hm (bn hleB hleC)
   replace hE:=hE.mono (bn hleB hleC)
   refine uA ?_
   refine uM ?_
   refine uA ?_
   refine qs rfl (bJ tab 3 rfl rfl rfl rfl rfl rfl rfl rfl ?_)
   refine uA ?_
   refine ci tab 3 rfl rfl rfl rfl (L':=E.I k4 0 :: L) uS ⟨_,k4,[],hT,hm,hk,⟨⟨26,[],0,s4⟩,rfl,rfl,⟨rfl,rfl,rfl,hs4⟩⟩,rfl⟩
  ·refine uA ?_
   refine bQ [7] cr 8 rfl [.cells b3 0 [.int .i64 26,strV [], .int .i64 0,s.v]] (E.I (k+1) 0 :: tok s 4 :: .cells b2 0 [.int .i64 0,strV [], .int .i64 0,s.v] :: L) (ag _ _ _) ?_
   refine bV tab uC uK [0] uK rfl ?_
   (refine bW tab 1 0 uC uK uK rfl rfl rfl rfl rfl rfl rfl rfl ?_)
   refine bV tab uC uK [2] uK rfl ?_
   refine bZ 3 rfl rfl uK rfl ?_
   refine ce (ag _ _ _) (cC (L0:=L) (cond_par hX) hm hT hn hE hk (by repeat (first|exact cz|refine cA ?_|refine cB ?_)) hm uS rfl rfl rfl rfl rfl rfl goes177 (fun x3 mA a3 k3 hT hm hE hleA hk hr3 => ?_));refine ⟨hleA,E.I k3 0 :: tok s 4 :: .cells b2 0 [.int .i64 0,strV [], .int .i64 0,s.v] :: L,ag _ _ _, ?_⟩
   refine bZ 4 rfl rfl uK rfl ?_
   refine cq tab rTree (hs:=[x3]) (l:=[a3]) ⟨rTree_iff.2 hr3,trivial⟩ rfl rfl rfl rfl rfl (by decide) (fun sB mB hleB hsB hoB hcB => ?_);refine ⟨hleB,_,af _, ?_⟩
   refine bZ 5 rfl rfl uK rfl ?_
   refine bP tab rTree 2 (hs.mono (bn hleA hleB)) ho hsB rfl rfl rfl rfl rfl rfl rfl (by simp only [aa,ab,ae,rTree,mkR];omega) (fun s3 mC hleC hs3 ho3 => ?_);refine ⟨hleC,E.I k3 0 :: tok s3 4 :: .cells b2 0 [.int .i64 0,strV [], .int .i64 0,s.v] :: L,af _, ?_⟩
   refine bV tab uC uK [6] uK rfl ?_
   refine DO.tail ?_
   refine DOt.run 7 rfl rfl uK rfl ?_
   refine bI (k:=3) tab 0 rfl rfl rfl rfl rfl rfl rfl rfl ?_;refine DOt.perm (ag _ _ _) ?_
   refine DOt.nil uK ?_
   rotate_left 1
   replace hm:=bn hm (bn hleB hleC)
   replace hE:=hE.mono (bn hleB hleC)
   refine uA ?_
   refine bQ [7] cr 8 rfl [.cells b3 0 [.int .i64 26,strV [], .int .i64 0,s3.v]] (E.I k3 0 :: tok s3 4 :: .cells b2 0 [.int .i64 0,strV [], .int .i64 0,s.v] :: L) (ag _ _ _) ?_
   refine bV tab uC uK [0] uK rfl ?_
   (refine bW tab 1 0 uC uK uK rfl rfl rfl rfl rfl rfl rfl rfl ?_)
   refine bV tab uC uK [2] uK rfl ?_
   refine bZ 3 rfl rfl uK rfl ?_
   refine ce (ag _ _ _) (cC (L0:=L) (hY) hm hT hn hE hk (by repeat (first|exact cz|refine cA ?_|refine cB ?_)) hm uS rfl rfl rfl rfl rfl rfl goes115 (fun x4 mA a4 k4 hT hm hE hleA hk hr4 => ?_));refine ⟨hleA,E.I k4 0 :: tok s3 4 :: .cells b2 0 [.int .i64 0,strV [], .int .i64 0,s.v] :: L,ag _ _ _, ?_⟩
   refine bZ 4 rfl rfl uK rfl ?_
   refine cq tab rTree (hs:=[x4]) (l:=[a4]) ⟨rTree_iff.2 hr4,trivial⟩ rfl rfl rfl rfl rfl (by decide) (fun sB mB hleB hsB hoB hcB => ?_);refine ⟨hleB,_,af _, ?_⟩
   refine bZ 5 rfl rfl uK rfl ?_
   refine bP tab rTree 2 (hs3.mono (bn hleA hleB)) ho3 hsB rfl rfl rfl rfl rfl rfl rfl (by simp only [aa,ab,ae,rTree,mkR];omega) (fun s4 mC hleC hs4 ho4 => ?_);refine ⟨hleC,E.I k4 0 :: tok s4 4 :: .cells b2 0 [.int .i64 0,strV [], .int .i64 0,s.v] :: L,af _, ?_⟩
   refine bV tab uC uK [6] uK rfl ?_
   refine DO.tail ?_
   refine DOt.run 7 rfl rfl uK rfl ?_
   refine bI (k:=3) tab 0 rfl rfl rfl rfl rfl rfl rfl rfl ?_;refine DOt.perm (ag _ _ _) ?_
   refine DOt.nil uK ?_
   rotate_left 1
   replace hm:=bn hm (bn hleB hleC)
   replace hE:=hE.mono (bn hleB hleC)
   refine uA ?_
   refine uM ?_
   refine uA ?_
   refine qs rfl (bJ tab 3 rfl rfl rfl rfl rfl rfl rfl rfl ?_)
   refine uA ?_
   refine ci tab 3 rfl rfl rfl rfl (L':=E.I k4 0 :: L) uS ⟨_,k4,[],hT,hm,hk,⟨⟨26,[],0,s4⟩,rfl,rfl,⟨rfl,rfl,rfl,hs4⟩⟩,rfl⟩
 refine uA ?_
 refine qs rfl (cC (L0:=L) (hS) hm hT hn hE hk (by repeat (first|exact cz|refine cA ?_)) hm uS rfl rfl rfl rfl rfl rfl goes178 (fun x m2 a k2 hT hm hE hlex hk hrx => ?_))
 refine uA ?_
 refine oA tab (fun b4 => ?_);refine bD (ag _ _ _) ?_
 refine uA ?_
 refine uT ?_
 refine uA ?_
 refine qs rfl (OT.needP (L0:=L) hT hE hk (by repeat (first|exact cz|refine cA ?_)) hm uS rfl rfl rfl rfl rfl rfl (fun hT hk => ?_))
 refine uA ?_
 refine uM ?_
 refine uA ?_
 refine qs rfl (bJ tab 2 rfl rfl rfl rfl rfl rfl rfl rfl ?_)
 refine uA ?_
 refine ci tab 2 rfl rfl rfl rfl (L':=E.I (k2 + 1) 0 :: L) uS ⟨_,k2 + 1,[],hT,hm,hk,⟨x,rfl,rfl,hrx⟩,rfl⟩
end
end Go.Sep


/- PsW9 -/
namespace Go.Ps
theorem tokIf_eq {α : Type} (c : Bool) (s : Sep.Str) (A B : Pp α) (f : F) (k : Nat) : tokIf c s A B f k=bif (isM s f k && c) then A f (k + 1) else B f k:=by
 unfold tokIf tok
 cases c <;> cases h : isM s f k <;> simp [h]
end Go.Ps
namespace Go.Sep
open Go.Proofs
attribute [local irreducible] TC TO OT TCallX TCall DO DOt thenQ blockQ retQ At
section
variable {mb : Mem} {E : PE}
theorem perm_simple {α : Type} {e t n s b : α} {l : List α} : (e :: t :: n :: s :: b :: l).Perm ([n]++(e :: s :: b :: t :: l)):=by
 refine ah (ai _ (ag _ _ _)) (ah (ag _ _ _) (ai _ (ai _ ?_)))
 exact ah (ag _ _ _) (ai _ (ag _ _ _))
def Tells (fn : FuncId) (p : Tree→Bool) : Prop:=Goes Tryz.prog fn ∧ ∀ (m : Mem) (L : List Item) (h : HTree) (a : Tree),TreeRep m h a→TCall Tryz.prog fn ⟨[treeV h]⟩ m L (Ret (.bool (p a)) m L)
theorem isNm_tells : Tells 193 Ps.isNm:=by
 refine ⟨goes193,fun m L h a hr => ?_⟩
 obtain ⟨h1,h2,h3,h4⟩:=hr
 unfold TCall
 refine bw Tryz.func193 rfl 6 rfl ?_
 refine uA ?_
 refine oB (fun b => ?_)
 refine uL ?_
 refine bu rfl uS ⟨rfl,rfl, ?_⟩
 unfold Ps.isNm
 rw [h1]
theorem isPl_tells : Tells 181 Ps.isPl:=by
 refine ⟨goes181,fun m L h a hr => ?_⟩
 obtain ⟨h1,h2,h3,h4⟩:=hr
 unfold TCall
 refine bw Tryz.func181 rfl 26 rfl ?_
 refine uA ?_
 refine oB (fun b => ?_)
 repeat' (first|(first|refine q1 ?_|refine q3 ?_|refine q4 tab rfl rfl ?_|refine q5 ?_|refine q6 ?_|refine q15 ?_)|(refine qs rfl (ql tab 0 rfl rfl rfl rfl rfl rfl ?_))|(refine bB rfl rfl (fun hb => ?_) (fun hb => ?_)))
 all_goals
  refine bu rfl uS ⟨rfl,rfl, ?_⟩
  refine congrArg Value.bool ?_
  unfold Ps.isPl
  rw [← h1,← h2]
  simp_all
theorem all_law (m : Mem) (L : List Item) (s : Sl) (l : List Tree) (hs : SlRep rTree m s l) (b5 : Nat) (hA : At m b5 0 [s.v]) (fn : FuncId) (p : Tree→Bool) (hp : Tells fn p) :
  TCall Tryz.prog 192 ⟨[.func (.func fn) ⟨[]⟩ ⟨[]⟩, .pointer (some ⟨b5,0,none⟩)]⟩ m L (Ret (.bool (l.all p)) m L):=by
 have hlen:=hs.len
 have hsm:=hs.small rfl
 unfold TCall
 refine bw Tryz.func192 rfl 17 rfl ?_
 refine uA ?_
 (refine oL tab hA ?_)
 refine uA ?_
 refine br (ι:=Nat) [0,1,6,7] rfl (fun k=>[(8, .int .i64 (k : Int))]) (fun _=>m) (fun _=>L) (fun k=>k ≤ l.length∧(l.take k).all p=true) (fun k=>l.length - k) 0 uH rfl uS ⟨aU _,by simp⟩ ?_
 rintro k ⟨hk,hI⟩
 refine uA ?_
 refine bq rfl (fun hc => ?_) (fun hc => ?_)
 ·have hlt : k < l.length:=by omega
  have hx : l[k]? = some l[k]:=ak hlt
  refine uA ?_
  refine qs rfl (bO tab rTree k hs rfl rfl rfl rfl rfl (by first | rfl | omega | (simp only;omega)) rfl hx ?_)
  rintro bx ix hx' hrx hAx
  refine uA ?_
  (refine oL tab hAx ?_)
  refine uA ?_
  refine oA tab (fun b9 => ?_)
  refine uA ?_
  refine uT ?_
  refine uA ?_
  refine uM ?_
  refine qs rfl (bM (all:=[treeV hx']) rfl rfl rfl rfl rfl (by rw [fl_eq];rfl) hp.1 ((hp.2 _ _ hx' l[k] (rTree_iff.1 hrx)).x ?_))
  rintro _ _ _ ⟨rfl,rfl,rfl⟩
  refine uA ?_
  cases hb : p l[k] with
  | true =>
   refine uA ?_
   refine qs rfl (bK (r':=((k + 1 : Nat) : Int)) rfl rfl rfl rfl rfl rfl rfl (by omega) ?_)
   refine uA ?_
   exact ⟨k + 1,uH,uH,rfl,rfl,uS,⟨hlt,by rw [aX hlt,List.all_append,hI];simp [hb]⟩,by omega⟩
  | false =>
   refine uA ?_
   refine bu rfl uS ⟨rfl,rfl, ?_⟩
   refine congrArg Value.bool ?_
   symm
   rw [List.all_eq_false]
   exact ⟨l[k],aB hlt,by simp [hb]⟩
 ·refine uA ?_
  refine bu rfl uS ⟨rfl,rfl, ?_⟩
  rw [aT (by omega)] at hI
  rw [hI]
theorem simple_par {X Y : Ps.Pp Tree} (hX : Par Tryz.prog mb E vTree 143 [E.v] 0 X) (hY : Par Tryz.prog mb E vTree 191 [E.v] 0 Y) :
  Par Tryz.prog mb E vTree 178 [E.v] 0 (Ps.simpleP E.N X Y):=by
 refine cy Tryz.func178 rfl 109 rfl fun m L k T hm0 hE hk hT hn => ?_
 replace hX:=hX.up hm0
 replace hY:=hY.up hm0
 have hm : m ≤ m:=bm _
 have hrows:=hE.rows
 unfold Ps.simpleP at hT
 refine uA ?_
 refine oA tab (fun b2 => ?_);refine bD (ag _ _ _) ?_
 refine uA ?_
 refine qs rfl (cD hT hE hk rfl rfl rfl rfl rfl rfl (fun hT hk => ?_) (fun hT => ?_))
 ·refine uA ?_
  refine qs rfl (OT.nameP (L0:=L) hT hE hk (by repeat (first|exact cz|refine cA ?_|refine cB ?_)) hm uS rfl rfl rfl rfl rfl rfl (fun nm hT hk => ?_))
  refine uA ?_
  refine oA tab (fun b3 => ?_);refine bD (ag _ _ _) ?_
  refine uA ?_
  refine uT ?_
  refine uA ?_
  refine qs rfl (cC (L0:=L) (hX) hm hT hn hE hk (by repeat (first|exact cz|refine cA ?_|refine cB ?_)) hm uS rfl rfl rfl rfl rfl rfl goes143 (fun t m2 tt k2 hT hm hE hlet hk hrt => ?_))
  refine uA ?_
  refine qs rfl (cq tab rTree (hs:=[t]) (l:=[tt]) ⟨rTree_iff.2 hrt,trivial⟩ rfl rfl rfl rfl rfl (by decide) (fun s m3 hle3 hs ho hc => ?_))
  replace hm:=bn hm hle3
  replace hE:=hE.mono hle3
  refine TO.tokFo hc ho 4 ?_
  refine bD (ah (ag _ _ _) (ai _ (ag _ _ _))) ?_
  refine uA ?_
  refine qs rfl (bI (k:=3) tab 1 rfl rfl rfl rfl rfl rfl rfl rfl ?_)
  refine uA ?_
  refine qs rfl (cD hT hE hk rfl rfl rfl rfl rfl rfl (fun hT hk => ?_) (fun hT => ?_))
  ·refine uA ?_
   refine bQ [7] cr 8 rfl [.cells b3 0 [.int .i64 21,strV nm, .int .i64 0,s.v]] (E.I (k2+1) 0 :: tok s 4 :: .cells b2 0 [.int .i64 0,strV [], .int .i64 0, .slice none 0 0] :: L) (ag _ _ _) ?_
   refine bV tab uC uK [0] uK rfl ?_
   (refine bW tab 1 0 uC uK uK rfl rfl rfl rfl rfl rfl rfl rfl ?_)
   refine bV tab uC uK [2] uK rfl ?_
   refine bZ 3 rfl rfl uK rfl ?_
   refine ce (ag _ _ _) (cC (L0:=L) (hY) hm hT hn hE hk (by repeat (first|exact cz|refine cA ?_|refine cB ?_)) hm uS rfl rfl rfl rfl rfl rfl goes191 (fun x4 mA a4 k4 hT hm hE hleA hk hr4 => ?_));refine ⟨hleA,E.I k4 0 :: tok s 4 :: .cells b2 0 [.int .i64 0,strV [], .int .i64 0, .slice none 0 0] :: L,ag _ _ _, ?_⟩
   refine bZ 4 rfl rfl uK rfl ?_
   refine cq tab rTree (hs:=[x4]) (l:=[a4]) ⟨rTree_iff.2 hr4,trivial⟩ rfl rfl rfl rfl rfl (by decide) (fun sB mB hleB hsB hoB hcB => ?_);refine ⟨hleB,_,af _, ?_⟩
   refine bZ 5 rfl rfl uK rfl ?_
   refine bP tab rTree 2 (hs.mono (bn hleA hleB)) ho hsB rfl rfl rfl rfl rfl rfl rfl (by simp only [aa,ab,ae,rTree,mkR];omega) (fun s4 mC hleC hs4 ho4 => ?_);refine ⟨hleC,E.I k4 0 :: tok s4 4 :: .cells b2 0 [.int .i64 0,strV [], .int .i64 0, .slice none 0 0] :: L,af _, ?_⟩
   refine bV tab uC uK [6] uK rfl ?_
   refine DO.tail ?_
   refine DOt.run 7 rfl rfl uK rfl ?_
   refine bI (k:=3) tab 0 rfl rfl rfl rfl rfl rfl rfl rfl ?_;refine DOt.perm (ag _ _ _) ?_
   refine DOt.nil uK ?_
   rotate_left 1
   replace hm:=bn hm (bn hleB hleC)
   replace hE:=hE.mono (bn hleB hleC)
   refine uA ?_
   refine uM ?_
   refine uA ?_
   refine qs rfl (bJ tab 3 rfl rfl rfl rfl rfl rfl rfl rfl ?_)
   refine uA ?_
   refine ci tab 3 rfl rfl rfl rfl (L':=E.I k4 0 :: L) uS ⟨_,k4,[],hT,hm,hk,⟨⟨21,nm,0,s4⟩,rfl,rfl,⟨rfl,rfl,rfl,hs4⟩⟩,rfl⟩
  ·refine uA ?_
   refine uM ?_
   refine uA ?_
   refine qs rfl (bJ tab 3 rfl rfl rfl rfl rfl rfl rfl rfl ?_)
   refine uA ?_
   refine ci tab 3 rfl rfl rfl rfl (L':=E.I k2 0 :: L) uS ⟨_,k2,[],hT,hm,hk,⟨⟨21,nm,0,s⟩,rfl,rfl,⟨rfl,rfl,rfl,hs⟩⟩,rfl⟩
 refine uA ?_
 refine qs rfl (cD hT hE hk rfl rfl rfl rfl rfl rfl (fun hT hk => ?_) (fun hT => ?_))
 ·refine uA ?_
  refine oA tab (fun b4 => ?_);refine bD (ag _ _ _) ?_
  refine uA ?_
  refine uT ?_
  refine uA ?_
  refine qs rfl (OT.peekP hT hE hk rfl rfl rfl rfl rfl rfl (fun hT => ?_) (fun hT => ?_))
  ·refine uA ?_
   refine uM ?_
   refine uA ?_
   refine qs rfl (bJ tab 2 rfl rfl rfl rfl rfl rfl rfl rfl ?_)
   refine uA ?_
   refine ci tab 2 rfl rfl rfl rfl (L':=E.I (k + 1) 0 :: L) uS ⟨_,k + 1,[],hT,hm,hk,⟨⟨27,[],0,⟨none,0,0⟩⟩,rfl,rfl,⟨rfl,rfl,rfl,bN _ _⟩⟩,rfl⟩
  ·refine uA ?_
   refine qs rfl (OT.parL (L0:=L) (list1_par (first:=[E.v]) (cap:=[]) rfl goes191 hY) hm hT hn hE hk (by repeat (first|exact cz|refine cA ?_|refine cB ?_)) hm uS rfl rfl rfl rfl rfl rfl goes146 (fun x m2 l k2 hT hm hE hlex hk hrx hox hlx => ?_))
   refine bD (L':=E.I k2 0 :: .cells b4 0 [.int .i64 27,strV [], .int .i64 0, .slice none 0 0] :: tok x 4 :: .cells b2 0 [.int .i64 0,strV [], .int .i64 0, .slice none 0 0] :: L) (ai _ (ag _ _ _)) ?_
   refine uA ?_
   refine qs rfl (bI (k:=3) tab 1 rfl rfl rfl rfl rfl rfl rfl rfl ?_)
   refine uA ?_
   refine uM ?_
   refine uA ?_
   refine qs rfl (bJ tab 3 rfl rfl rfl rfl rfl rfl rfl rfl ?_)
   refine uA ?_
   refine ci tab 3 rfl rfl rfl rfl (L':=E.I k2 0 :: L) uS ⟨_,k2,[],hT,hm,hk,⟨⟨27,[],0,x⟩,rfl,rfl,⟨rfl,rfl,rfl,hrx⟩⟩,rfl⟩
 refine uA ?_
 refine qs rfl (cD hT hE hk rfl rfl rfl rfl rfl rfl (fun hT hk => ?_) (fun hT => ?_))
 ·refine uA ?_
  refine uT ?_
  refine uA ?_
  refine ci tab 1 rfl rfl rfl rfl (L':=E.I (k + 1) 0 :: L) uS ⟨_,k + 1,[],hT,hm,hk,⟨⟨28,[],0,⟨none,0,0⟩⟩,rfl,rfl,⟨rfl,rfl,rfl,bN _ _⟩⟩,rfl⟩
 refine uA ?_
 refine qs rfl (cD hT hE hk rfl rfl rfl rfl rfl rfl (fun hT hk => ?_) (fun hT => ?_))
 ·refine uA ?_
  refine uT ?_
  refine uA ?_
  refine ci tab 1 rfl rfl rfl rfl (L':=E.I (k + 1) 0 :: L) uS ⟨_,k + 1,[],hT,hm,hk,⟨⟨29,[],0,⟨none,0,0⟩⟩,rfl,rfl,⟨rfl,rfl,rfl,bN _ _⟩⟩,rfl⟩
 refine uA ?_
 refine qs rfl (OT.parL (L0:=L) (list1_par (first:=[E.v]) (cap:=[]) rfl goes191 hY) hm hT hn hE hk (by repeat (first|exact cz|refine cA ?_)) hm uS rfl rfl rfl rfl rfl rfl goes146 (fun s m2 l k1 hT hm hE hles hk hrs hos hls => ?_))
 have hs:=hrs
 have ho:=hos
 have hl:=hls
 have hlen:=hs.len
 refine uA ?_
 refine oA tab (fun b5 => ?_)
 refine uA ?_
 refine uT ?_
 refine cc fun m3 hle3 hA => ?_
 replace hm:=bn hm hle3
 replace hE:=hE.mono hle3
 replace hs:=hs.mono hle3
 refine uA ?_
 refine bD (L':=E.I k1 0 :: tok s 4 :: .cells b2 0 [.int .i64 0,strV [], .int .i64 0, .slice none 0 0] :: L) (af _) ?_
 refine oA tab (fun b7 => ?_);refine bD (ag _ _ _) ?_
 refine uA ?_
 refine uT ?_
 unfold Ps.assignP at hT
 simp only [Ps.tokIf_eq] at hT
 refine TO.nil ?_
 refine thenQ_n ?_
 refine TC.cut (ι:=Int) [0,2,5,7] rfl (fun _=>[]) (fun i=>m3) (fun i=>E.I k1 0 :: .cells b7 0 [.int .i64 i,strV [], .int .i64 0, .slice none 0 0] :: tok s 4 :: .cells b2 0 [.int .i64 0,strV [], .int .i64 0, .slice none 0 0] :: L) (fun i=>k1 + 1 ≤ E.toks.length∧T=(Ps.bind (Ps.commas E.N Y) fun l2=>Ps.ret (Tree.mk i [] (l.length : Int) (l++l2))) E.f (k1 + 1)) ?_ ?_
 ·skip
  refine uA ?_
  refine oC goes142 ((peek_law [58,61] hE hk).x ?_);
  rintro _ _ _ ⟨rfl,rfl,rfl⟩
  refine uA ?_
  cases hb1 : Ps.isM [58,61] E.f k1 with
  | false =>
   rw [hb1,Bool.false_and] at hT
   simp only [bg] at hT
   refine uA ?_
   refine oC goes142 ((peek_law [61] hE hk).x ?_);
   rintro _ _ _ ⟨rfl,rfl,rfl⟩
   refine uA ?_
   cases hb2 : Ps.isM [61] E.f k1 with
   | false =>
    rw [hb2,Bool.false_and] at hT
    simp only [bg] at hT
    refine uA ?_
    refine oC goes142 ((peek_law [59] hE hk).x ?_);
    rintro _ _ _ ⟨rfl,rfl,rfl⟩
    refine uA ?_
    cases hb3 : Ps.isM [59] E.f k1 with
    | false =>
     refine uA ?_
     have hT : T = .bad k1:=by
      rw [hT]
      cases Ps.isC1 l
      ·rfl
      ·exact Ps.peek_f' hb3
     refine qs rfl (OT.stopP (L0:=L) hT hE hk (by repeat (first|exact cz|refine cA ?_|refine cB ?_)) hm uS rfl rfl rfl rfl rfl rfl)
    | true =>
     refine uA ?_
     (refine oL tab hA ?_)
     refine uA ?_
     refine bA (b:=decide (((s.len : Nat) : Int)=1)) rfl rfl (fun h1 => ?_) (fun h1 => ?_)
     ·have h1' : l.length=1:=by have:=of_decide_eq_true h1;omega
      obtain ⟨t0,rfl⟩:=List.length_eq_one_iff.1 h1'
      refine uA ?_
      (refine oL tab hA ?_)
      refine uA ?_
      refine qs rfl (bO tab rTree 0 hs rfl rfl rfl rfl rfl (by first | rfl | omega | (simp only;omega)) rfl (by rfl) ?_)
      rintro bx ix hx' hrx hAx
      have hrx':=rTree_iff.1 hrx
      refine uA ?_
      (refine qs rfl (OT.loadA tab hAx rfl rfl rfl rfl rfl ?_))
      refine uA ?_
      rw [hrx'.kind]
      refine bq rfl (fun h2 => ?_) (fun h2 => ?_)
      ·have hT : T = .ok (Tree.mk 24 [] 0 [t0]) k1:=by
        rw [hT,show Ps.isC1 [t0]=true from aH h2]
        exact Ps.peek_t' hb3
       refine uA ?_
       (refine oL tab hA ?_)
       refine uA ?_
       refine qs rfl (bI (k:=3) tab 1 rfl rfl rfl rfl rfl rfl rfl rfl ?_)
       refine uA ?_
       refine uM ?_
       refine uA ?_
       refine qs rfl (bJ tab 3 rfl rfl rfl rfl rfl rfl rfl rfl ?_)
       refine uA ?_
       refine ci tab 3 rfl rfl rfl rfl (L':=E.I k1 0 :: L) uS ⟨_,k1,[],hT,hm,hk,⟨⟨24,[],0,s⟩,rfl,rfl,⟨rfl,rfl,rfl,hs⟩⟩,rfl⟩
      ·have hT : T = .bad k1:=by
        rw [hT,show Ps.isC1 [t0]=false from aI h2]
        rfl
       refine uA ?_
       refine qs rfl (OT.stopP (L0:=L) hT hE hk (by repeat (first|exact cz|refine cA ?_|refine cB ?_)) hm uS rfl rfl rfl rfl rfl rfl)
     ·have hT : T = .bad k1:=by
       rw [hT]
       have h1' : ¬ l.length=1:=by have:=of_decide_eq_false h1;omega
       have : Ps.isC1 l=false:=by
        unfold Ps.isC1
        split
        ·exact absurd rfl h1'
        ·rfl
       rw [this]
       rfl
      refine uA ?_
      refine qs rfl (OT.stopP (L0:=L) hT hE hk (by repeat (first|exact cz|refine cA ?_|refine cB ?_)) hm uS rfl rfl rfl rfl rfl rfl)
   | true =>
    refine uA ?_
    refine oC goes192 ((all_law m3 _ s l hs b5 hA _ Ps.isPl isPl_tells).x ?_)
    rintro _ _ _ ⟨rfl,rfl,rfl⟩
    cases ha2 : l.all Ps.isPl with
    | true =>
     rw [hb2,ha2] at hT
     simp only [aE,bh] at hT
     refine uA ?_
     refine qs rfl (bJ tab 1 rfl rfl rfl rfl rfl rfl rfl rfl ?_)
     refine uA ?_
     exact ⟨23,uH,uH,rfl,rfl,uS,PE.isM_lt hb2,hT⟩
    | false =>
     rw [ha2,Bool.and_false] at hT
     simp only [bg] at hT
     refine uA ?_
     refine oC goes142 ((peek_law [59] hE hk).x ?_);
     rintro _ _ _ ⟨rfl,rfl,rfl⟩
     refine uA ?_
     cases hb3 : Ps.isM [59] E.f k1 with
     | false =>
      refine uA ?_
      have hT : T = .bad k1:=by
       rw [hT]
       cases Ps.isC1 l
       ·rfl
       ·exact Ps.peek_f' hb3
      refine qs rfl (OT.stopP (L0:=L) hT hE hk (by repeat (first|exact cz|refine cA ?_|refine cB ?_)) hm uS rfl rfl rfl rfl rfl rfl)
     | true =>
      refine uA ?_
      (refine oL tab hA ?_)
      refine uA ?_
      refine bA (b:=decide (((s.len : Nat) : Int)=1)) rfl rfl (fun h1 => ?_) (fun h1 => ?_)
      ·have h1' : l.length=1:=by have:=of_decide_eq_true h1;omega
       obtain ⟨t0,rfl⟩:=List.length_eq_one_iff.1 h1'
       refine uA ?_
       (refine oL tab hA ?_)
       refine uA ?_
       refine qs rfl (bO tab rTree 0 hs rfl rfl rfl rfl rfl (by first | rfl | omega | (simp only;omega)) rfl (by rfl) ?_)
       rintro bx ix hx' hrx hAx
       have hrx':=rTree_iff.1 hrx
       refine uA ?_
       (refine qs rfl (OT.loadA tab hAx rfl rfl rfl rfl rfl ?_))
       refine uA ?_
       rw [hrx'.kind]
       refine bq rfl (fun h2 => ?_) (fun h2 => ?_)
       ·have hT : T = .ok (Tree.mk 24 [] 0 [t0]) k1:=by
         rw [hT,show Ps.isC1 [t0]=true from aH h2]
         exact Ps.peek_t' hb3
        refine uA ?_
        (refine oL tab hA ?_)
        refine uA ?_
        refine qs rfl (bI (k:=3) tab 1 rfl rfl rfl rfl rfl rfl rfl rfl ?_)
        refine uA ?_
        refine uM ?_
        refine uA ?_
        refine qs rfl (bJ tab 3 rfl rfl rfl rfl rfl rfl rfl rfl ?_)
        refine uA ?_
        refine ci tab 3 rfl rfl rfl rfl (L':=E.I k1 0 :: L) uS ⟨_,k1,[],hT,hm,hk,⟨⟨24,[],0,s⟩,rfl,rfl,⟨rfl,rfl,rfl,hs⟩⟩,rfl⟩
       ·have hT : T = .bad k1:=by
         rw [hT,show Ps.isC1 [t0]=false from aI h2]
         rfl
        refine uA ?_
        refine qs rfl (OT.stopP (L0:=L) hT hE hk (by repeat (first|exact cz|refine cA ?_|refine cB ?_)) hm uS rfl rfl rfl rfl rfl rfl)
      ·have hT : T = .bad k1:=by
        rw [hT]
        have h1' : ¬ l.length=1:=by have:=of_decide_eq_false h1;omega
        have : Ps.isC1 l=false:=by
         unfold Ps.isC1
         split
         ·exact absurd rfl h1'
         ·rfl
        rw [this]
        rfl
       refine uA ?_
       refine qs rfl (OT.stopP (L0:=L) hT hE hk (by repeat (first|exact cz|refine cA ?_|refine cB ?_)) hm uS rfl rfl rfl rfl rfl rfl)
  | true =>
   refine uA ?_
   refine oC goes192 ((all_law m3 _ s l hs b5 hA _ Ps.isNm isNm_tells).x ?_)
   rintro _ _ _ ⟨rfl,rfl,rfl⟩
   cases ha1 : l.all Ps.isNm with
   | true =>
    rw [hb1,ha1] at hT
    simp only [aE,bh] at hT
    refine uA ?_
    refine qs rfl (bJ tab 1 rfl rfl rfl rfl rfl rfl rfl rfl ?_)
    refine uA ?_
    exact ⟨22,uH,uH,rfl,rfl,uS,PE.isM_lt hb1,hT⟩
   | false =>
    rw [ha1,Bool.and_false] at hT
    simp only [bg] at hT
    refine uA ?_
    refine oC goes142 ((peek_law [61] hE hk).x ?_);
    rintro _ _ _ ⟨rfl,rfl,rfl⟩
    refine uA ?_
    cases hb2 : Ps.isM [61] E.f k1 with
    | false =>
     rw [hb2,Bool.false_and] at hT
     simp only [bg] at hT
     refine uA ?_
     refine oC goes142 ((peek_law [59] hE hk).x ?_);
     rintro _ _ _ ⟨rfl,rfl,rfl⟩
     refine uA ?_
     cases hb3 : Ps.isM [59] E.f k1 with
     | false =>
      refine uA ?_
      have hT : T = .bad k1:=by
       rw [hT]
       cases Ps.isC1 l
       ·rfl
       ·exact Ps.peek_f' hb3
      refine qs rfl (OT.stopP (L0:=L) hT hE hk (by repeat (first|exact cz|refine cA ?_|refine cB ?_)) hm uS rfl rfl rfl rfl rfl rfl)
     | true =>
      refine uA ?_
      (refine oL tab hA ?_)
      refine uA ?_
      refine bA (b:=decide (((s.len : Nat) : Int)=1)) rfl rfl (fun h1 => ?_) (fun h1 => ?_)
      ·have h1' : l.length=1:=by have:=of_decide_eq_true h1;omega
       obtain ⟨t0,rfl⟩:=List.length_eq_one_iff.1 h1'
       refine uA ?_
       (refine oL tab hA ?_)
       refine uA ?_
       refine qs rfl (bO tab rTree 0 hs rfl rfl rfl rfl rfl (by first | rfl | omega | (simp only;omega)) rfl (by rfl) ?_)
       rintro bx ix hx' hrx hAx
       have hrx':=rTree_iff.1 hrx
       refine uA ?_
       (refine qs rfl (OT.loadA tab hAx rfl rfl rfl rfl rfl ?_))
       refine uA ?_
       rw [hrx'.kind]
       refine bq rfl (fun h2 => ?_) (fun h2 => ?_)
       ·have hT : T = .ok (Tree.mk 24 [] 0 [t0]) k1:=by
         rw [hT,show Ps.isC1 [t0]=true from aH h2]
         exact Ps.peek_t' hb3
        refine uA ?_
        (refine oL tab hA ?_)
        refine uA ?_
        refine qs rfl (bI (k:=3) tab 1 rfl rfl rfl rfl rfl rfl rfl rfl ?_)
        refine uA ?_
        refine uM ?_
        refine uA ?_
        refine qs rfl (bJ tab 3 rfl rfl rfl rfl rfl rfl rfl rfl ?_)
        refine uA ?_
        refine ci tab 3 rfl rfl rfl rfl (L':=E.I k1 0 :: L) uS ⟨_,k1,[],hT,hm,hk,⟨⟨24,[],0,s⟩,rfl,rfl,⟨rfl,rfl,rfl,hs⟩⟩,rfl⟩
       ·have hT : T = .bad k1:=by
         rw [hT,show Ps.isC1 [t0]=false from aI h2]
         rfl
        refine uA ?_
        refine qs rfl (OT.stopP (L0:=L) hT hE hk (by repeat (first|exact cz|refine cA ?_|refine cB ?_)) hm uS rfl rfl rfl rfl rfl rfl)
      ·have hT : T = .bad k1:=by
        rw [hT]
        have h1' : ¬ l.length=1:=by have:=of_decide_eq_false h1;omega
        have : Ps.isC1 l=false:=by
         unfold Ps.isC1
         split
         ·exact absurd rfl h1'
         ·rfl
        rw [this]
        rfl
       refine uA ?_
       refine qs rfl (OT.stopP (L0:=L) hT hE hk (by repeat (first|exact cz|refine cA ?_|refine cB ?_)) hm uS rfl rfl rfl rfl rfl rfl)
    | true =>
     refine uA ?_
     refine oC goes192 ((all_law m3 _ s l hs b5 hA _ Ps.isPl isPl_tells).x ?_)
     rintro _ _ _ ⟨rfl,rfl,rfl⟩
     cases ha2 : l.all Ps.isPl with
     | true =>
      rw [hb2,ha2] at hT
      simp only [aE,bh] at hT
      refine uA ?_
      refine qs rfl (bJ tab 1 rfl rfl rfl rfl rfl rfl rfl rfl ?_)
      refine uA ?_
      exact ⟨23,uH,uH,rfl,rfl,uS,PE.isM_lt hb2,hT⟩
     | false =>
      rw [ha2,Bool.and_false] at hT
      simp only [bg] at hT
      refine uA ?_
      refine oC goes142 ((peek_law [59] hE hk).x ?_);
      rintro _ _ _ ⟨rfl,rfl,rfl⟩
      refine uA ?_
      cases hb3 : Ps.isM [59] E.f k1 with
      | false =>
       refine uA ?_
       have hT : T = .bad k1:=by
        rw [hT]
        cases Ps.isC1 l
        ·rfl
        ·exact Ps.peek_f' hb3
       refine qs rfl (OT.stopP (L0:=L) hT hE hk (by repeat (first|exact cz|refine cA ?_|refine cB ?_)) hm uS rfl rfl rfl rfl rfl rfl)
      | true =>
       refine uA ?_
       (refine oL tab hA ?_)
       refine uA ?_
       refine bA (b:=decide (((s.len : Nat) : Int)=1)) rfl rfl (fun h1 => ?_) (fun h1 => ?_)
       ·have h1' : l.length=1:=by have:=of_decide_eq_true h1;omega
        obtain ⟨t0,rfl⟩:=List.length_eq_one_iff.1 h1'
        refine uA ?_
        (refine oL tab hA ?_)
        refine uA ?_
        refine qs rfl (bO tab rTree 0 hs rfl rfl rfl rfl rfl (by first | rfl | omega | (simp only;omega)) rfl (by rfl) ?_)
        rintro bx ix hx' hrx hAx
        have hrx':=rTree_iff.1 hrx
        refine uA ?_
        (refine qs rfl (OT.loadA tab hAx rfl rfl rfl rfl rfl ?_))
        refine uA ?_
        rw [hrx'.kind]
        refine bq rfl (fun h2 => ?_) (fun h2 => ?_)
        ·have hT : T = .ok (Tree.mk 24 [] 0 [t0]) k1:=by
          rw [hT,show Ps.isC1 [t0]=true from aH h2]
          exact Ps.peek_t' hb3
         refine uA ?_
         (refine oL tab hA ?_)
         refine uA ?_
         refine qs rfl (bI (k:=3) tab 1 rfl rfl rfl rfl rfl rfl rfl rfl ?_)
         refine uA ?_
         refine uM ?_
         refine uA ?_
         refine qs rfl (bJ tab 3 rfl rfl rfl rfl rfl rfl rfl rfl ?_)
         refine uA ?_
         refine ci tab 3 rfl rfl rfl rfl (L':=E.I k1 0 :: L) uS ⟨_,k1,[],hT,hm,hk,⟨⟨24,[],0,s⟩,rfl,rfl,⟨rfl,rfl,rfl,hs⟩⟩,rfl⟩
        ·have hT : T = .bad k1:=by
          rw [hT,show Ps.isC1 [t0]=false from aI h2]
          rfl
         refine uA ?_
         refine qs rfl (OT.stopP (L0:=L) hT hE hk (by repeat (first|exact cz|refine cA ?_|refine cB ?_)) hm uS rfl rfl rfl rfl rfl rfl)
       ·have hT : T = .bad k1:=by
         rw [hT]
         have h1' : ¬ l.length=1:=by have:=of_decide_eq_false h1;omega
         have : Ps.isC1 l=false:=by
          unfold Ps.isC1
          split
          ·exact absurd rfl h1'
          ·rfl
         rw [this]
         rfl
        refine uA ?_
        refine qs rfl (OT.stopP (L0:=L) hT hE hk (by repeat (first|exact cz|refine cA ?_|refine cB ?_)) hm uS rfl rfl rfl rfl rfl rfl)
 ·rintro kd ⟨hk,hT⟩
  have hfew:=hE.few
  refine uA ?_
  refine uM ?_
  refine qs rfl (bK (r':=((k1 + 1 : Nat) : Int)) rfl rfl rfl rfl rfl rfl rfl (by omega) ?_)
  refine uA ?_
  refine qs rfl (bI (k:=2) tab 0 rfl rfl rfl rfl rfl rfl rfl rfl ?_)
  refine uA ?_
  (refine oL tab hA ?_)
  refine uA ?_
  refine qs rfl (bI (k:=2) tab 1 rfl rfl rfl rfl rfl rfl rfl rfl ?_)
  refine uA ?_
  refine bQ [7] cr 8 rfl [.cells b7 0 [.int .i64 kd,strV [], .int .i64 (s.len : Int), .slice none 0 0]] (E.I (k1 + 1) 0 :: tok s 4 :: .cells b2 0 [.int .i64 0,strV [], .int .i64 0, .slice none 0 0] :: L) (ag _ _ _) ?_
  (refine bX (k:=0) tab 0 hA uC uK uK rfl rfl rfl rfl rfl rfl rfl ?_)
  refine bV tab uC uK [1,2,3] uK rfl ?_
  refine bZ 4 rfl rfl uK rfl ?_
  refine ce (ag _ _ _) (OT.parL (L0:=L) (list1_par (first:=[E.v]) (cap:=[]) rfl goes191 hY) hm hT hn hE hk (by repeat (first|exact cz|refine cA ?_)) hm uS rfl rfl rfl rfl rfl rfl goes146 (fun x mA l2 k2 hT hm hE hleA hk hrx hox hlx => ?_));refine ⟨hleA,E.I k2 0 :: tok s 4 :: .cells b2 0 [.int .i64 0,strV [], .int .i64 0, .slice none 0 0] :: tok x 4 :: L,perm_simple, ?_⟩
  refine bZ 5 rfl rfl uK rfl ?_
  refine bP tab rTree 2 (hs.mono hleA) ho hrx rfl rfl rfl rfl rfl rfl rfl (by simp only [rTree,mkR];omega) (fun s3 mC hleC hs3 ho3 => ?_);refine ⟨hleC,E.I k2 0 :: tok s3 4 :: .cells b2 0 [.int .i64 0,strV [], .int .i64 0, .slice none 0 0] :: tok x 4 :: L,af _, ?_⟩
  refine bV tab uC uK [6] uK rfl ?_
  refine DO.tail ?_
  refine DOt.run 7 rfl rfl uK rfl ?_
  refine bI (k:=3) tab 0 rfl rfl rfl rfl rfl rfl rfl rfl ?_;refine DOt.perm (ag _ _ _) ?_
  refine DOt.nil uK ?_
  rotate_left 1
  refine uA ?_
  refine uM ?_
  refine uA ?_
  refine qs rfl (bJ tab 3 rfl rfl rfl rfl rfl rfl rfl rfl ?_)
  refine uA ?_
  refine ci tab 3 rfl rfl rfl rfl (L':=E.I k2 0 :: L) uS ⟨_,k2,[],hT,bn hm hleC,hk,⟨⟨kd,[],(s.len : Int),s3⟩,rfl,rfl,⟨rfl,rfl,by show (s.len : Int)=_;rw [hlen];rfl,hs3⟩⟩,rfl⟩
end
end Go.Sep

