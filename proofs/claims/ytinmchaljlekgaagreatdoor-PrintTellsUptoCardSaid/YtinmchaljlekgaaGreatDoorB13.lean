/- PtRefG -/
import Derived.Test.YtinmchaljlekgaaGreatDoorB12
set_option linter.unusedVariables false
set_option linter.unusedSimpArgs false
set_option maxHeartbeats 6400000
namespace Go.Sep
open Go.Proofs Go.Pt
attribute [local irreducible] TC TO OT TCallX TCall DO DOt thenQ blockQ retQ At
theorem st_24 (n0 : Str) (u0 : Int) (ks : List Tree) (hok : OkK 24 u0 ks.length n0.length) (hk : ∀ t ∈ ks,TkCall t) (hl : (Pt.toks (.mk 24 n0 u0 ks)).length ≤ 1000000) (m : Mem) (L : List Item) (h : HTree) (hr : TreeRep m h (.mk 24 n0 u0 ks)) :
  TCall Tryz.prog 84 ⟨[treeV h]⟩ m L (TkO m L (rtk (.mk 24 n0 u0 ks))):=by
 obtain ⟨-,k1,k2,k3,k4,k5,k6,k7⟩:=hok
 obtain ⟨hkd,hn,hu,hks⟩:=h
 obtain ⟨h1,h2,h3,h4⟩:=hr
 simp only [Tree.kind,Tree.name,Tree.num,Tree.kids] at h1 h2 h3 h4
 replace h2:=h2.symm
 replace h3:=h3.symm
 subst h1 h2 h3
 have hlen:=h4.len
 have hsm:=h4.small rfl
 have hm:=bm m
 have n1 : 1 ≤ ks.length:=k1 (by decide)
 have x0 : ks[0]? = some ks[0]:=ak (by omega)
 have et : Pt.toks (.mk 24 n0 u0 ks)=nth (ks.map Pt.toks) 0++[Pt.mk [59]]:=by rw [toks_eq];rfl
 have y0 : nth (ks.map Pt.toks) 0=Pt.toks ks[0]:=nth_map ks 0 (by omega)
 rw [y0] at et
 have hl2:=hl
 rw [et] at hl2
 try simp only [aa,ab,ae] at hl2
 unfold TCall
 refine bw Tryz.func84 rfl 165 rfl ?_
 refine uA ?_
 refine oB (fun b => ?_)
 refine uL ?_
 refine qs rfl (bO tab rTree 0 h4 rfl rfl rfl rfl rfl (by first | rfl | omega | (simp only;omega)) rfl x0 ?_)
 rintro b0 i0 c0 r0 A0
 (refine oL tab A0 ?_)
 refine uA ?_
 refine oC goes44 ((hk _ (aB _) _ _ c0 (rTree_iff.1 r0)).x ?_);
 rintro _ m1 _ ⟨hm1,s1,rfl,hs1,ho1,rfl⟩
 refine uA ?_
 refine qs rfl (cq tab rStr (hs:=[[59]]) (l:=[[59]]) ⟨rfl,trivial⟩ rfl rfl rfl rfl rfl (by decide) (fun s3 m3 hm3 hs3 _ _ => ?_))
 refine uA ?_
 refine qs rfl (bP tab rStr 0 (hs1.mono hm3) ho1 hs3 rfl rfl rfl rfl rfl rfl rfl (by rw [cE];show (_ + 1) * 16 ≤ _;omega) (fun s2 m2 hm2 hs2 ho2 => ?_))
 refine uA ?_
 refine bu rfl (L':=tok s2 1 :: L) uS ⟨bn hm1 (bn hm3 hm2),s2,rfl, ?_,ho2,rfl⟩
 rw [rtk,et]
 simpa [rtk,txt] using hs2
theorem st_22 (n0 : Str) (u0 : Int) (ks : List Tree) (hok : OkK 22 u0 ks.length n0.length) (hk : ∀ t ∈ ks,TkCall t) (hl : (Pt.toks (.mk 22 n0 u0 ks)).length ≤ 1000000) (m : Mem) (L : List Item) (h : HTree) (hr : TreeRep m h (.mk 22 n0 u0 ks)) :
  TCall Tryz.prog 84 ⟨[treeV h]⟩ m L (TkO m L (rtk (.mk 22 n0 u0 ks))):=by
 obtain ⟨-,k1,k2,k3,k4,k5,k6,k7⟩:=hok
 obtain ⟨hkd,hn,hu,hks⟩:=h
 obtain ⟨h1,h2,h3,h4⟩:=hr
 simp only [Tree.kind,Tree.name,Tree.num,Tree.kids] at h1 h2 h3 h4
 replace h2:=h2.symm
 replace h3:=h3.symm
 subst h1 h2 h3
 have hlen:=h4.len
 have hsm:=h4.small rfl
 have hm:=bm m
 replace k4:=k4 (by decide)
 have et : Pt.toks (.mk 22 n0 u0 ks)=commaJ ((ks.take u0.toNat).map Pt.toks)++Pt.mk [58,61] :: (commaJ ((ks.drop u0.toNat).map Pt.toks)++[Pt.mk [59]]):=by rw [toks_eq];simp only [List.map_take,List.map_drop];rfl
 have hl2:=hl
 rw [et] at hl2
 try simp only [aa,ab,ae] at hl2
 unfold TCall
 refine bw Tryz.func84 rfl 165 rfl ?_
 refine uA ?_
 refine oB (fun b => ?_)
 refine uL ?_
 refine bQ [] cr 17 rfl [.cells b 0 (treeC ⟨22,n0,u0,hks⟩)] L uP ?_
 refine bV tab uC uK [0,1] uK rfl ?_
 (refine bW tab 2 0 uC uK uK rfl rfl rfl rfl rfl rfl rfl rfl ?_)
 refine bV tab uC uK [7,8] uK rfl ?_
 (refine bW tab 9 0 uC uK uK rfl rfl rfl rfl rfl rfl rfl rfl ?_)
 refine DO.bag [107,109,114,116] rfl 14 [⟨3,110,spNodes (ks.take u0.toNat),[]⟩,⟨4,111,spStrs ((commaJ ((ks.take u0.toNat).map Pt.toks)).map txt),[3]⟩,⟨5,112,spStrs [([58,61] : Str)],[]⟩,⟨6,113,spStrs ([([58,61] : Str)]),[5]⟩,⟨10,117,spNodes (ks.drop u0.toNat),[]⟩,⟨11,118,spStrs ((commaJ ((ks.drop u0.toNat).map Pt.toks)).map txt),[10]⟩,⟨12,119,spStrs [([59] : Str)],[]⟩,⟨13,120,spStrs ([([59] : Str)]),[12]⟩,⟨14,121,spStrss [(commaJ ((ks.take u0.toNat).map Pt.toks)).map txt,[([58,61] : Str)],(commaJ ((ks.drop u0.toNat).map Pt.toks)).map txt,[([59] : Str)]],[4,6,11,13]⟩] [14] 2 uK uK rfl rfl ?_ ?_
 ·refine ⟨(bCut (lo:=0) (hi:=u0.toNat) h4 0 u0.toNat rfl (.inl ⟨rfl,rfl⟩) (.inr (by rw [Int.toNat_of_nonneg k4.1])) (aU _) (by omega)),(bRow goes82 (fun m L s hs=>row_law (ks.take u0.toNat) (fun t ht=>hk t (ba ht)) m L s hs (by omega))),bLit,bOne,(bCut (lo:=u0.toNat) (hi:=ks.length) h4 u0.toNat ks.length (by rw [List.take_length]) (.inr (by rw [Int.toNat_of_nonneg k4.1])) (.inl ⟨rfl,hlen.symm⟩) (by omega) (av _)),(bRow goes82 (fun m L s hs=>row_law (ks.drop u0.toNat) (fun t ht=>hk t (List.mem_of_mem_drop ht)) m L s hs (by omega))),bLit,bOne,⟨_,rfl,fun mA hmA rest => ?_⟩,trivial⟩
  refine cG rfl fun v hv => ?_
  obtain ⟨s0,rfl,hs0⟩:=hv
  refine cG rfl fun v hv => ?_
  obtain ⟨s1,rfl,hs1⟩:=hv
  refine cG rfl fun v hv => ?_
  obtain ⟨s2,rfl,hs2⟩:=hv
  refine cG rfl fun v hv => ?_
  obtain ⟨s3,rfl,hs3⟩:=hv
  exact cF (bLL (hs:=[s0,s1,s2,s3]) (E:=[(commaJ ((ks.take u0.toNat).map Pt.toks)).map txt,[([58,61] : Str)],(commaJ ((ks.drop u0.toNat).map Pt.toks)).map txt,[([59] : Str)]]) ⟨hs0,hs1,hs2,hs3,trivial⟩)
 ·intro m1 hm1 rest
  refine cG rfl fun v hv => ?_
  obtain ⟨sz,rfl,hsz⟩:=hv
  refine cF ?_
  refine bZ 15 rfl rfl uK rfl (bM rfl rfl rfl rfl rfl rfl goes80 ((cI _ _ sz _ hsz (by rw [show List.flatten _=rtk (.mk 22 n0 u0 ks) from by (show List.flatten _=(Pt.toks (.mk 22 n0 u0 ks)).map txt);rw [et];simp [rtk,txt,cJ,cK]];rw [cE];exact hl)).x ?_))
  rintro _ m2 _ ⟨hm2,s2,rfl,hs2,ho2,rfl⟩
  refine ⟨hm2,_,permB, ?_⟩
  refine bV tab (by repeat (first|exact bU|refine bS ?_|refine bT ?_)) uK [16] uK rfl ?_
  refine cb uK ?_
  refine uA ?_
  refine bu rfl (L':=tok s2 1 :: L) uS ⟨bn hm1 hm2,s2,rfl, ?_,ho2,rfl⟩
  rw [rtk,et]
  simpa [rtk,txt,cJ,cK] using hs2
theorem st_23 (n0 : Str) (u0 : Int) (ks : List Tree) (hok : OkK 23 u0 ks.length n0.length) (hk : ∀ t ∈ ks,TkCall t) (hl : (Pt.toks (.mk 23 n0 u0 ks)).length ≤ 1000000) (m : Mem) (L : List Item) (h : HTree) (hr : TreeRep m h (.mk 23 n0 u0 ks)) :
  TCall Tryz.prog 84 ⟨[treeV h]⟩ m L (TkO m L (rtk (.mk 23 n0 u0 ks))):=by
 obtain ⟨-,k1,k2,k3,k4,k5,k6,k7⟩:=hok
 obtain ⟨hkd,hn,hu,hks⟩:=h
 obtain ⟨h1,h2,h3,h4⟩:=hr
 simp only [Tree.kind,Tree.name,Tree.num,Tree.kids] at h1 h2 h3 h4
 replace h2:=h2.symm
 replace h3:=h3.symm
 subst h1 h2 h3
 have hlen:=h4.len
 have hsm:=h4.small rfl
 have hm:=bm m
 replace k4:=k4 (by decide)
 have et : Pt.toks (.mk 23 n0 u0 ks)=commaJ ((ks.take u0.toNat).map Pt.toks)++Pt.mk [61] :: (commaJ ((ks.drop u0.toNat).map Pt.toks)++[Pt.mk [59]]):=by rw [toks_eq];simp only [List.map_take,List.map_drop];rfl
 have hl2:=hl
 rw [et] at hl2
 try simp only [aa,ab,ae] at hl2
 unfold TCall
 refine bw Tryz.func84 rfl 165 rfl ?_
 refine uA ?_
 refine oB (fun b => ?_)
 refine uL ?_
 refine bQ [] cr 17 rfl [.cells b 0 (treeC ⟨23,n0,u0,hks⟩)] L uP ?_
 refine bV tab uC uK [0,1] uK rfl ?_
 (refine bW tab 2 0 uC uK uK rfl rfl rfl rfl rfl rfl rfl rfl ?_)
 refine bV tab uC uK [7,8] uK rfl ?_
 (refine bW tab 9 0 uC uK uK rfl rfl rfl rfl rfl rfl rfl rfl ?_)
 refine DO.bag [125,127,132,134] rfl 14 [⟨3,128,spNodes (ks.take u0.toNat),[]⟩,⟨4,129,spStrs ((commaJ ((ks.take u0.toNat).map Pt.toks)).map txt),[3]⟩,⟨5,130,spStrs [([61] : Str)],[]⟩,⟨6,131,spStrs ([([61] : Str)]),[5]⟩,⟨10,135,spNodes (ks.drop u0.toNat),[]⟩,⟨11,136,spStrs ((commaJ ((ks.drop u0.toNat).map Pt.toks)).map txt),[10]⟩,⟨12,137,spStrs [([59] : Str)],[]⟩,⟨13,138,spStrs ([([59] : Str)]),[12]⟩,⟨14,139,spStrss [(commaJ ((ks.take u0.toNat).map Pt.toks)).map txt,[([61] : Str)],(commaJ ((ks.drop u0.toNat).map Pt.toks)).map txt,[([59] : Str)]],[4,6,11,13]⟩] [14] 2 uK uK rfl rfl ?_ ?_
 ·refine ⟨(bCut (lo:=0) (hi:=u0.toNat) h4 0 u0.toNat rfl (.inl ⟨rfl,rfl⟩) (.inr (by rw [Int.toNat_of_nonneg k4.1])) (aU _) (by omega)),(bRow goes82 (fun m L s hs=>row_law (ks.take u0.toNat) (fun t ht=>hk t (ba ht)) m L s hs (by omega))),bLit,bOne,(bCut (lo:=u0.toNat) (hi:=ks.length) h4 u0.toNat ks.length (by rw [List.take_length]) (.inr (by rw [Int.toNat_of_nonneg k4.1])) (.inl ⟨rfl,hlen.symm⟩) (by omega) (av _)),(bRow goes82 (fun m L s hs=>row_law (ks.drop u0.toNat) (fun t ht=>hk t (List.mem_of_mem_drop ht)) m L s hs (by omega))),bLit,bOne,⟨_,rfl,fun mA hmA rest => ?_⟩,trivial⟩
  refine cG rfl fun v hv => ?_
  obtain ⟨s0,rfl,hs0⟩:=hv
  refine cG rfl fun v hv => ?_
  obtain ⟨s1,rfl,hs1⟩:=hv
  refine cG rfl fun v hv => ?_
  obtain ⟨s2,rfl,hs2⟩:=hv
  refine cG rfl fun v hv => ?_
  obtain ⟨s3,rfl,hs3⟩:=hv
  exact cF (bLL (hs:=[s0,s1,s2,s3]) (E:=[(commaJ ((ks.take u0.toNat).map Pt.toks)).map txt,[([61] : Str)],(commaJ ((ks.drop u0.toNat).map Pt.toks)).map txt,[([59] : Str)]]) ⟨hs0,hs1,hs2,hs3,trivial⟩)
 ·intro m1 hm1 rest
  refine cG rfl fun v hv => ?_
  obtain ⟨sz,rfl,hsz⟩:=hv
  refine cF ?_
  refine bZ 15 rfl rfl uK rfl (bM rfl rfl rfl rfl rfl rfl goes80 ((cI _ _ sz _ hsz (by rw [show List.flatten _=rtk (.mk 23 n0 u0 ks) from by (show List.flatten _=(Pt.toks (.mk 23 n0 u0 ks)).map txt);rw [et];simp [rtk,txt,cJ,cK]];rw [cE];exact hl)).x ?_))
  rintro _ m2 _ ⟨hm2,s2,rfl,hs2,ho2,rfl⟩
  refine ⟨hm2,_,permB, ?_⟩
  refine bV tab (by repeat (first|exact bU|refine bS ?_|refine bT ?_)) uK [16] uK rfl ?_
  refine cb uK ?_
  refine uA ?_
  refine bu rfl (L':=tok s2 1 :: L) uS ⟨bn hm1 hm2,s2,rfl, ?_,ho2,rfl⟩
  rw [rtk,et]
  simpa [rtk,txt,cJ,cK] using hs2
theorem st_27 (n0 : Str) (u0 : Int) (ks : List Tree) (hok : OkK 27 u0 ks.length n0.length) (hk : ∀ t ∈ ks,TkCall t) (hl : (Pt.toks (.mk 27 n0 u0 ks)).length ≤ 1000000) (m : Mem) (L : List Item) (h : HTree) (hr : TreeRep m h (.mk 27 n0 u0 ks)) :
  TCall Tryz.prog 84 ⟨[treeV h]⟩ m L (TkO m L (rtk (.mk 27 n0 u0 ks))):=by
 obtain ⟨-,k1,k2,k3,k4,k5,k6,k7⟩:=hok
 obtain ⟨hkd,hn,hu,hks⟩:=h
 obtain ⟨h1,h2,h3,h4⟩:=hr
 simp only [Tree.kind,Tree.name,Tree.num,Tree.kids] at h1 h2 h3 h4
 replace h2:=h2.symm
 replace h3:=h3.symm
 subst h1 h2 h3
 have hlen:=h4.len
 have hsm:=h4.small rfl
 have hm:=bm m
 have et : Pt.toks (.mk 27 n0 u0 ks)=wd [114,101,116,117,114,110] :: (commaJ (ks.map Pt.toks)++[Pt.mk [59]]):=by rw [toks_eq];rfl
 have hl2:=hl
 rw [et] at hl2
 try simp only [aa,ab,ae] at hl2
 unfold TCall
 refine bw Tryz.func84 rfl 165 rfl ?_
 refine uA ?_
 refine oB (fun b => ?_)
 refine uL ?_
 refine qs rfl (cq tab rStr (hs:=[([114,101,116,117,114,110] : Str)]) (l:=[([114,101,116,117,114,110] : Str)]) ⟨rfl,trivial⟩ rfl rfl rfl rfl rfl (by decide) (fun s1 ma hma hs1 ho1 hc1 => ?_))
 replace hm:=bn hm hma
 replace h4:=h4.mono hma
 refine uL ?_
 refine oC goes81 ((cH _ _ s1).x ?_);
 rintro _ _ _ ⟨rfl,rfl,rfl⟩
 refine uL ?_
 refine oC goes82 ((TkO.drop (row_law ks hk _ _ hks h4 (by omega))).x ?_);
 rintro _ m2 _ ⟨hm2,rfl,s2,rfl,hs2⟩
 replace hm:=bn hm hm2
 replace h4:=h4.mono hm2
 replace hs1:=hs1.mono hm2
 refine uL ?_
 refine qs rfl (cq tab rStr (hs:=[([59] : Str)]) (l:=[([59] : Str)]) ⟨rfl,trivial⟩ rfl rfl rfl rfl rfl (by decide) (fun s3 ma hma hs3 ho3 hc3 => ?_))
 replace hm:=bn hm hma
 replace h4:=h4.mono hma
 replace hs1:=hs1.mono hma
 replace hs2:=hs2.mono hma
 refine uL ?_
 refine oC goes81 ((cH _ _ s3).x ?_);
 rintro _ _ _ ⟨rfl,rfl,rfl⟩
 refine uL ?_
 refine qs rfl (cq tab rSS (hs:=[s1,s2,s3]) (l:=[[([114,101,116,117,114,110] : Str)],(commaJ (ks.map Pt.toks)).map txt,[([59] : Str)]]) ⟨hs1,hs2,hs3,trivial⟩ rfl rfl rfl rfl rfl (by decide) (fun s4 ma hma hs4 ho4 hc4 => ?_))
 replace hm:=bn hm hma
 replace h4:=h4.mono hma
 replace hs1:=hs1.mono hma
 replace hs2:=hs2.mono hma
 replace hs3:=hs3.mono hma
 refine uL ?_
 refine oC goes80 ((cI _ _ s4 _ hs4 (by rw [show List.flatten _=rtk (.mk 27 n0 u0 ks) from by (show List.flatten _=(Pt.toks (.mk 27 n0 u0 ks)).map txt);rw [et];simp [rtk,txt,cJ,cK]];rw [cE];exact hl)).x ?_);
 rintro _ m2 _ ⟨hm2,s2,rfl,hs2,ho2,rfl⟩
 refine uL ?_
 refine bu rfl (L':=tok s2 1 :: L) uS ⟨bn hm hm2,s2,rfl, ?_,ho2,rfl⟩
 rw [rtk,et]
 simpa [rtk,txt,cJ,cK] using hs2
theorem st_28 (n0 : Str) (u0 : Int) (ks : List Tree) (hok : OkK 28 u0 ks.length n0.length) (hk : ∀ t ∈ ks,TkCall t) (hl : (Pt.toks (.mk 28 n0 u0 ks)).length ≤ 1000000) (m : Mem) (L : List Item) (h : HTree) (hr : TreeRep m h (.mk 28 n0 u0 ks)) :
  TCall Tryz.prog 84 ⟨[treeV h]⟩ m L (TkO m L (rtk (.mk 28 n0 u0 ks))):=by
 obtain ⟨-,k1,k2,k3,k4,k5,k6,k7⟩:=hok
 obtain ⟨hkd,hn,hu,hks⟩:=h
 obtain ⟨h1,h2,h3,h4⟩:=hr
 simp only [Tree.kind,Tree.name,Tree.num,Tree.kids] at h1 h2 h3 h4
 replace h2:=h2.symm
 replace h3:=h3.symm
 subst h1 h2 h3
 have hlen:=h4.len
 have hsm:=h4.small rfl
 have hm:=bm m
 have et : Pt.toks (.mk 28 n0 u0 ks)=[wd [98,114,101,97,107],Pt.mk [59]]:=by rw [toks_eq];rfl
 have hl2:=hl
 rw [et] at hl2
 try simp only [aa,ab,ae] at hl2
 unfold TCall
 refine bw Tryz.func84 rfl 165 rfl ?_
 refine uA ?_
 refine oB (fun b => ?_)
 refine uL ?_
 refine qs rfl (cq tab rStr (hs:=[([98,114,101,97,107] : Str),([59] : Str)]) (l:=[([98,114,101,97,107] : Str),([59] : Str)]) ⟨rfl,rfl,trivial⟩ rfl rfl rfl rfl rfl (by decide) (fun s1 ma hma hs1 ho1 hc1 => ?_))
 replace hm:=bn hm hma
 replace h4:=h4.mono hma
 refine uL ?_
 refine oC goes81 ((cH _ _ s1).x ?_);
 rintro _ _ _ ⟨rfl,rfl,rfl⟩
 refine TO.tokFo hc1 ho1 1 ?_
 refine uL ?_
 refine bu rfl (L':=tok s1 1 :: L) uS ⟨hm,s1,rfl, ?_,ho1,rfl⟩
 rw [rtk,et]
 simpa [rtk,txt] using hs1
theorem st_29 (n0 : Str) (u0 : Int) (ks : List Tree) (hok : OkK 29 u0 ks.length n0.length) (hk : ∀ t ∈ ks,TkCall t) (hl : (Pt.toks (.mk 29 n0 u0 ks)).length ≤ 1000000) (m : Mem) (L : List Item) (h : HTree) (hr : TreeRep m h (.mk 29 n0 u0 ks)) :
  TCall Tryz.prog 84 ⟨[treeV h]⟩ m L (TkO m L (rtk (.mk 29 n0 u0 ks))):=by
 obtain ⟨-,k1,k2,k3,k4,k5,k6,k7⟩:=hok
 obtain ⟨hkd,hn,hu,hks⟩:=h
 obtain ⟨h1,h2,h3,h4⟩:=hr
 simp only [Tree.kind,Tree.name,Tree.num,Tree.kids] at h1 h2 h3 h4
 replace h2:=h2.symm
 replace h3:=h3.symm
 subst h1 h2 h3
 have hlen:=h4.len
 have hsm:=h4.small rfl
 have hm:=bm m
 have et : Pt.toks (.mk 29 n0 u0 ks)=[wd [99,111,110,116,105,110,117,101],Pt.mk [59]]:=by rw [toks_eq];rfl
 have hl2:=hl
 rw [et] at hl2
 try simp only [aa,ab,ae] at hl2
 unfold TCall
 refine bw Tryz.func84 rfl 165 rfl ?_
 refine uA ?_
 refine oB (fun b => ?_)
 refine uL ?_
 refine qs rfl (cq tab rStr (hs:=[([99,111,110,116,105,110,117,101] : Str),([59] : Str)]) (l:=[([99,111,110,116,105,110,117,101] : Str),([59] : Str)]) ⟨rfl,rfl,trivial⟩ rfl rfl rfl rfl rfl (by decide) (fun s1 ma hma hs1 ho1 hc1 => ?_))
 replace hm:=bn hm hma
 replace h4:=h4.mono hma
 refine uL ?_
 refine oC goes81 ((cH _ _ s1).x ?_);
 rintro _ _ _ ⟨rfl,rfl,rfl⟩
 refine TO.tokFo hc1 ho1 1 ?_
 refine uL ?_
 refine bu rfl (L':=tok s1 1 :: L) uS ⟨hm,s1,rfl, ?_,ho1,rfl⟩
 rw [rtk,et]
 simpa [rtk,txt] using hs1
theorem st_26 (n0 : Str) (u0 : Int) (ks : List Tree) (hok : OkK 26 u0 ks.length n0.length) (hk : ∀ t ∈ ks,TkCall t) (hl : (Pt.toks (.mk 26 n0 u0 ks)).length ≤ 1000000) (m : Mem) (L : List Item) (h : HTree) (hr : TreeRep m h (.mk 26 n0 u0 ks)) :
  TCall Tryz.prog 84 ⟨[treeV h]⟩ m L (TkO m L (rtk (.mk 26 n0 u0 ks))):=by
 obtain ⟨-,k1,k2,k3,k4,k5,k6,k7⟩:=hok
 obtain ⟨hkd,hn,hu,hks⟩:=h
 obtain ⟨h1,h2,h3,h4⟩:=hr
 simp only [Tree.kind,Tree.name,Tree.num,Tree.kids] at h1 h2 h3 h4
 replace h2:=h2.symm
 replace h3:=h3.symm
 subst h1 h2 h3
 have hlen:=h4.len
 have hsm:=h4.small rfl
 have hm:=bm m
 have n1 : 1 ≤ ks.length:=k1 (by decide)
 have xl : ks[ks.length - 1]? = some ks[ks.length - 1]:=ak (by omega)
 have et : Pt.toks (.mk 26 n0 u0 ks)=wd [102,111,114] :: (commaJ ((ks.take (ks.length - 1)).map Pt.toks)++Pt.toks ks[ks.length - 1]):=by rw [toks_eq];show wd [102,111,114] :: (commaJ ((ks.map Pt.toks).take ((ks.map Pt.toks).length - 1))++nth (ks.map Pt.toks) ((ks.map Pt.toks).length - 1))=_;rw [aD,← List.map_take,nth_map ks _ (by omega)]
 have hl2:=hl
 rw [et] at hl2
 try simp only [aa,ab,ae] at hl2
 unfold TCall
 refine bw Tryz.func84 rfl 165 rfl ?_
 refine uA ?_
 refine oB (fun b => ?_)
 refine uL ?_
 refine bQ [] cr 18 rfl [.cells b 0 (treeC ⟨26,n0,u0,hks⟩)] L uP ?_
 refine bV tab uC uK [2,3,4] uK rfl ?_
 refine DO.arith 5 (r':=((ks.length - 1 : Nat) : Int)) uC uK uK rfl rfl rfl rfl rfl rfl rfl rfl (by first | rfl | omega | (simp only;omega)) (by omega) ?_
 refine bV tab uC uK [8,9,10] uK rfl ?_
 refine DO.arith 11 (r':=((ks.length - 1 : Nat) : Int)) uC uK uK rfl rfl rfl rfl rfl rfl rfl rfl (by first | rfl | omega | (simp only;omega)) (by omega) ?_
 refine bY tab rTree 12 (ks.length-1) h4 uC uK uK rfl rfl rfl rfl rfl rfl rfl (by first | rfl | omega) rfl xl ?_
 rintro bl il cl rl Al
 (refine bX (k:=0) tab 13 Al uC uK uK rfl rfl rfl rfl rfl rfl rfl ?_)
 refine DO.bag [63,66,74] rfl 15 [⟨0,61,spStrs [([102,111,114] : Str)],[]⟩,⟨1,62,spStrs ([([102,111,114] : Str)]),[0]⟩,⟨6,67,spNodes (ks.take (ks.length - 1)),[]⟩,⟨7,68,spStrs ((commaJ ((ks.take (ks.length - 1)).map Pt.toks)).map txt),[6]⟩,⟨14,75,spStrs (rtk (ks[ks.length - 1])),[]⟩,⟨15,76,spStrss [[([102,111,114] : Str)],(commaJ ((ks.take (ks.length - 1)).map Pt.toks)).map txt,rtk (ks[ks.length - 1])],[1,7,14]⟩] [15] 2 uK uK rfl rfl ?_ ?_
 ·refine ⟨bLit,bOne,(bCut (lo:=0) (hi:=ks.length - 1) h4 0 (ks.length - 1) rfl (.inl ⟨rfl,rfl⟩) (.inr rfl) (aU _) (by omega)),(bRow goes82 (fun m L s hs=>row_law (ks.take (ks.length - 1)) (fun t ht=>hk t (ba ht)) m L s hs (by omega))),(bKid (hk _ (aB _)) rl),⟨_,rfl,fun mA hmA rest => ?_⟩,trivial⟩
  refine cG rfl fun v hv => ?_
  obtain ⟨s0,rfl,hs0⟩:=hv
  refine cG rfl fun v hv => ?_
  obtain ⟨s1,rfl,hs1⟩:=hv
  refine cG rfl fun v hv => ?_
  obtain ⟨s2,rfl,hs2⟩:=hv
  exact cF (bLL (hs:=[s0,s1,s2]) (E:=[[([102,111,114] : Str)],(commaJ ((ks.take (ks.length - 1)).map Pt.toks)).map txt,rtk (ks[ks.length - 1])]) ⟨hs0,hs1,hs2,trivial⟩)
 ·intro m1 hm1 rest
  refine cG rfl fun v hv => ?_
  obtain ⟨sz,rfl,hsz⟩:=hv
  refine cF ?_
  refine bZ 16 rfl rfl uK rfl (bM rfl rfl rfl rfl rfl rfl goes80 ((cI _ _ sz _ hsz (by rw [show List.flatten _=rtk (.mk 26 n0 u0 ks) from by (show List.flatten _=(Pt.toks (.mk 26 n0 u0 ks)).map txt);rw [et];simp [rtk,txt,cJ,cK]];rw [cE];exact hl)).x ?_))
  rintro _ m2 _ ⟨hm2,s2,rfl,hs2,ho2,rfl⟩
  refine ⟨hm2,_,permB, ?_⟩
  refine bV tab (by repeat (first|exact bU|refine bS ?_|refine bT ?_)) uK [17] uK rfl ?_
  refine cb uK ?_
  refine uA ?_
  refine bu rfl (L':=tok s2 1 :: L) uS ⟨bn hm1 hm2,s2,rfl, ?_,ho2,rfl⟩
  rw [rtk,et]
  simpa [rtk,txt,cJ,cK] using hs2
theorem st_25n2 (n0 : Str) (u0 : Int) (ks : List Tree) (hok : OkK 25 u0 ks.length n0.length) (hv : ks.length ≠ 3) (hk : ∀ t ∈ ks,TkCall t) (hl : (Pt.toks (.mk 25 n0 u0 ks)).length ≤ 1000000) (m : Mem) (L : List Item) (h : HTree) (hr : TreeRep m h (.mk 25 n0 u0 ks)) :
  TCall Tryz.prog 84 ⟨[treeV h]⟩ m L (TkO m L (rtk (.mk 25 n0 u0 ks))):=by
 obtain ⟨-,k1,k2,k3,k4,k5,k6,k7⟩:=hok
 obtain ⟨hkd,hn,hu,hks⟩:=h
 obtain ⟨h1,h2,h3,h4⟩:=hr
 simp only [Tree.kind,Tree.name,Tree.num,Tree.kids] at h1 h2 h3 h4
 replace h2:=h2.symm
 replace h3:=h3.symm
 subst h1 h2 h3
 have hlen:=h4.len
 have hsm:=h4.small rfl
 have hm:=bm m
 have n1 : 2 ≤ ks.length:=by omega
 have x0 : ks[0]? = some ks[0]:=ak (by omega)
 have x1 : ks[1]? = some ks[1]:=ak (by omega)
 have et : Pt.toks (.mk 25 n0 u0 ks)=wd [105,102] :: (nth (ks.map Pt.toks) 0++nth (ks.map Pt.toks) 1):=by rw [toks_eq];show comb 25 n0 u0 (ks.map Pt.toks)=_;unfold comb;simp [hv]
 have y0 : nth (ks.map Pt.toks) 0=Pt.toks ks[0]:=nth_map ks 0 (by omega)
 have y1 : nth (ks.map Pt.toks) 1=Pt.toks ks[1]:=nth_map ks 1 (by omega)
 rw [y0,y1] at et
 have hl2:=hl
 rw [et] at hl2
 try simp only [aa,ab,ae] at hl2
 unfold TCall
 refine bw Tryz.func84 rfl 165 rfl ?_
 refine uA ?_
 refine oB (fun b => ?_)
 refine uL ?_
 refine bQ [] cr 13 rfl [.cells b 0 (treeC ⟨25,n0,u0,hks⟩)] L uP ?_
 refine bV tab uC uK [2] uK rfl ?_
 refine bY tab rTree 3 0 h4 uC uK uK rfl rfl rfl rfl rfl rfl rfl (by first | rfl | omega) rfl x0 ?_
 rintro b0 i0 c0 r0 A0
 (refine bX (k:=0) tab 4 A0 uC uK uK rfl rfl rfl rfl rfl rfl rfl ?_)
 refine bV tab uC uK [6] uK rfl ?_
 refine bY tab rTree 7 1 h4 uC uK uK rfl rfl rfl rfl rfl rfl rfl (by first | rfl | omega) rfl x1 ?_
 rintro b1 i1 c1 r1 A1
 (refine bX (k:=0) tab 8 A1 uC uK uK rfl rfl rfl rfl rfl rfl rfl ?_)
 refine DO.bag [1,3,38,42] rfl 10 [⟨0,34,spStrs [([105,102] : Str)],[]⟩,⟨1,35,spStrs ([([105,102] : Str)]),[0]⟩,⟨5,39,spStrs (rtk (ks[0])),[]⟩,⟨9,43,spStrs (rtk (ks[1])),[]⟩,⟨10,44,spStrss [[([105,102] : Str)],rtk (ks[0]),rtk (ks[1])],[1,5,9]⟩] [10] 2 uK uK rfl rfl ?_ ?_
 ·refine ⟨bLit,bOne,(bKid (hk _ (aB _)) r0),(bKid (hk _ (aB _)) r1),⟨_,rfl,fun mA hmA rest => ?_⟩,trivial⟩
  refine cG rfl fun v hv => ?_
  obtain ⟨s0,rfl,hs0⟩:=hv
  refine cG rfl fun v hv => ?_
  obtain ⟨s1,rfl,hs1⟩:=hv
  refine cG rfl fun v hv => ?_
  obtain ⟨s2,rfl,hs2⟩:=hv
  exact cF (bLL (hs:=[s0,s1,s2]) (E:=[[([105,102] : Str)],rtk (ks[0]),rtk (ks[1])]) ⟨hs0,hs1,hs2,trivial⟩)
 ·intro m1 hm1 rest
  refine cG rfl fun v hv => ?_
  obtain ⟨sz,rfl,hsz⟩:=hv
  refine cF ?_
  refine bZ 11 rfl rfl uK rfl (bM rfl rfl rfl rfl rfl rfl goes80 ((cI _ _ sz _ hsz (by simp [cE];omega)).x ?_))
  rintro _ m2 _ ⟨hm2,s2,rfl,hs2,ho2,rfl⟩
  refine ⟨hm2,_,permB, ?_⟩
  refine bV tab (by repeat (first|exact bU|refine bS ?_|refine bT ?_)) uK [12] uK rfl ?_
  refine cb uK ?_
  refine uA ?_
  refine bq rfl (fun c9 => ?_) (fun c9 => ?_)
  ·simp only at c9;exfalso;omega
  refine uA ?_
  refine bu rfl (L':=tok s2 1 :: L) uS ⟨bn hm1 hm2,s2,rfl, ?_,ho2,rfl⟩
  rw [rtk,et]
  simpa [rtk,txt,cJ,cK] using hs2
theorem st_25n3 (n0 : Str) (u0 : Int) (ks : List Tree) (hok : OkK 25 u0 ks.length n0.length) (hv : ks.length=3) (hk : ∀ t ∈ ks,TkCall t) (hl : (Pt.toks (.mk 25 n0 u0 ks)).length ≤ 1000000) (m : Mem) (L : List Item) (h : HTree) (hr : TreeRep m h (.mk 25 n0 u0 ks)) :
  TCall Tryz.prog 84 ⟨[treeV h]⟩ m L (TkO m L (rtk (.mk 25 n0 u0 ks))):=by
 obtain ⟨-,k1,k2,k3,k4,k5,k6,k7⟩:=hok
 obtain ⟨hkd,hn,hu,hks⟩:=h
 obtain ⟨h1,h2,h3,h4⟩:=hr
 simp only [Tree.kind,Tree.name,Tree.num,Tree.kids] at h1 h2 h3 h4
 replace h2:=h2.symm
 replace h3:=h3.symm
 subst h1 h2 h3
 have hlen:=h4.len
 have hsm:=h4.small rfl
 have hm:=bm m
 have n1 : 3 ≤ ks.length:=by omega
 obtain ⟨ha,hl0,hc⟩:=hks
 obtain rfl : hl0=3:=by have:=hlen;simp only at this;omega
 have x0 : ks[0]? = some ks[0]:=ak (by omega)
 have x1 : ks[1]? = some ks[1]:=ak (by omega)
 have x2 : ks[2]? = some ks[2]:=ak (by omega)
 have et : Pt.toks (.mk 25 n0 u0 ks)=wd [105,102] :: (nth (ks.map Pt.toks) 0++(nth (ks.map Pt.toks) 1++wd [101,108,115,101] :: nth (ks.map Pt.toks) 2)):=by rw [toks_eq];show comb 25 n0 u0 (ks.map Pt.toks)=_;unfold comb;simp [hv]
 have y0 : nth (ks.map Pt.toks) 0=Pt.toks ks[0]:=nth_map ks 0 (by omega)
 have y1 : nth (ks.map Pt.toks) 1=Pt.toks ks[1]:=nth_map ks 1 (by omega)
 have y2 : nth (ks.map Pt.toks) 2=Pt.toks ks[2]:=nth_map ks 2 (by omega)
 rw [y0,y1,y2] at et
 have hl2:=hl
 rw [et] at hl2
 try simp only [aa,ab,ae] at hl2
 unfold TCall
 refine bw Tryz.func84 rfl 165 rfl ?_
 refine uA ?_
 refine oB (fun b => ?_)
 refine uL ?_
 refine bQ [] cr 13 rfl [.cells b 0 (treeC ⟨25,n0,u0,⟨ha,3,hc⟩⟩)] L uP ?_
 refine bV tab uC uK [2] uK rfl ?_
 refine bY tab rTree 3 0 h4 uC uK uK rfl rfl rfl rfl rfl rfl rfl (by first | rfl | omega) rfl x0 ?_
 rintro b0 i0 c0 r0 A0
 (refine bX (k:=0) tab 4 A0 uC uK uK rfl rfl rfl rfl rfl rfl rfl ?_)
 refine bV tab uC uK [6] uK rfl ?_
 refine bY tab rTree 7 1 h4 uC uK uK rfl rfl rfl rfl rfl rfl rfl (by first | rfl | omega) rfl x1 ?_
 rintro b1 i1 c1 r1 A1
 (refine bX (k:=0) tab 8 A1 uC uK uK rfl rfl rfl rfl rfl rfl rfl ?_)
 refine DO.bag [1,3,38,42] rfl 10 [⟨0,34,spStrs [([105,102] : Str)],[]⟩,⟨1,35,spStrs ([([105,102] : Str)]),[0]⟩,⟨5,39,spStrs (rtk (ks[0])),[]⟩,⟨9,43,spStrs (rtk (ks[1])),[]⟩,⟨10,44,spStrss [[([105,102] : Str)],rtk (ks[0]),rtk (ks[1])],[1,5,9]⟩] [10] 2 uK uK rfl rfl ?_ ?_
 ·refine ⟨bLit,bOne,(bKid (hk _ (aB _)) r0),(bKid (hk _ (aB _)) r1),⟨_,rfl,fun mA hmA rest => ?_⟩,trivial⟩
  refine cG rfl fun v hv => ?_
  obtain ⟨s0,rfl,hs0⟩:=hv
  refine cG rfl fun v hv => ?_
  obtain ⟨s1,rfl,hs1⟩:=hv
  refine cG rfl fun v hv => ?_
  obtain ⟨s2,rfl,hs2⟩:=hv
  exact cF (bLL (hs:=[s0,s1,s2]) (E:=[[([105,102] : Str)],rtk (ks[0]),rtk (ks[1])]) ⟨hs0,hs1,hs2,trivial⟩)
 ·intro m1 hm1 rest
  refine cG rfl fun v hv => ?_
  obtain ⟨sz,rfl,hsz⟩:=hv
  refine cF ?_
  refine bZ 11 rfl rfl uK rfl (bM rfl rfl rfl rfl rfl rfl goes80 ((cI _ _ sz _ hsz (by simp [cE];omega)).x ?_))
  rintro _ m2 _ ⟨hm2,s6,rfl,hs6,ho6,rfl⟩
  refine ⟨hm2,_,permB, ?_⟩
  refine bV tab (by repeat (first|exact bU|refine bS ?_|refine bT ?_)) uK [12] uK rfl ?_
  refine cb uK ?_
  refine uL ?_
  have hm6:=bn hm1 hm2
  have e6 : ([[[105,102]],rtk ks[0],rtk ks[1]] : List (List Str)).flatten=(([105,102] : Str) :: (rtk ks[0]++rtk ks[1])):=by simp
  rw [e6] at hs6
  replace h4:=h4.mono hm6
  clear hm1 hm2 hsz e6
  refine bQ [] cr 10 rfl [.cells b 0 (treeC ⟨25,n0,u0,⟨ha,3,hc⟩⟩)] (tok s6 1 :: L) uP ?_
  refine bV tab uC uK [0,3] uK rfl ?_
  refine bY tab rTree 4 2 h4 uC uK uK rfl rfl rfl rfl rfl rfl rfl (by first | rfl | omega) rfl x2 ?_
  rintro b2 i2 c2 r2 A2
  (refine bX (k:=0) tab 5 A2 uC uK uK rfl rfl rfl rfl rfl rfl rfl ?_)
  refine DO.bag [1,3,49,54] rfl 7 [⟨1,50,spStrs [([101,108,115,101] : Str)],[]⟩,⟨2,51,spStrs ([([101,108,115,101] : Str)]),[1]⟩,⟨6,55,spStrs (rtk (ks[2])),[]⟩,⟨7,56,spStrss [(([105,102] : Str) :: (rtk ks[0]++rtk ks[1])),[([101,108,115,101] : Str)],rtk (ks[2])],[2,6]⟩] [7] 2 uK uK rfl rfl ?_ ?_
  ·refine ⟨bLit,bOne,(bKid (hk _ (aB _)) r2),⟨_,rfl,fun mA hmA rest => ?_⟩,trivial⟩
   refine cG rfl fun v hv => ?_
   obtain ⟨s1,rfl,hs1⟩:=hv
   refine cG rfl fun v hv => ?_
   obtain ⟨s2,rfl,hs2⟩:=hv
   exact cF (bLL (hs:=[s6,s1,s2]) (E:=[(([105,102] : Str) :: (rtk ks[0]++rtk ks[1])),[([101,108,115,101] : Str)],rtk (ks[2])]) ⟨hs6.mono hmA,hs1,hs2,trivial⟩)
  ·intro m1 hm1 rest
   refine cG rfl fun v hv => ?_
   obtain ⟨sz,rfl,hsz⟩:=hv
   refine cF ?_
   refine bZ 8 rfl rfl uK rfl (bM rfl rfl rfl rfl rfl rfl goes80 ((cI _ _ sz _ hsz (by simp [cE];omega)).x ?_))
   rintro _ m2 _ ⟨hm2,s2,rfl,hs2,ho2,rfl⟩
   refine ⟨hm2,_,permB, ?_⟩
   refine bV tab (by repeat (first|exact bU|refine bS ?_|refine bT ?_)) uK [9] uK rfl ?_
   refine cb uK ?_
   refine uA ?_
   refine bu rfl (L':=tok s2 1 :: L) uS ⟨bn hm6 (bn hm1 hm2),s2,rfl, ?_,ho2,rfl⟩
   rw [rtk,et]
   simpa [rtk,txt,cJ,cK] using hs2
theorem st_21n1 (n0 : Str) (u0 : Int) (ks : List Tree) (hok : OkK 21 u0 ks.length n0.length) (hv : ks.length ≠ 2) (n1 : 1 ≤ ks.length) (hk : ∀ t ∈ ks,TkCall t) (hl : (Pt.toks (.mk 21 n0 u0 ks)).length ≤ 1000000) (m : Mem) (L : List Item) (h : HTree) (hr : TreeRep m h (.mk 21 n0 u0 ks)) :
  TCall Tryz.prog 84 ⟨[treeV h]⟩ m L (TkO m L (rtk (.mk 21 n0 u0 ks))):=by
 obtain ⟨-,k1,k2,k3,k4,k5,k6,k7⟩:=hok
 obtain ⟨hkd,hn,hu,hks⟩:=h
 obtain ⟨h1,h2,h3,h4⟩:=hr
 simp only [Tree.kind,Tree.name,Tree.num,Tree.kids] at h1 h2 h3 h4
 replace h2:=h2.symm
 replace h3:=h3.symm
 subst h1 h2 h3
 have hlen:=h4.len
 have hsm:=h4.small rfl
 have hm:=bm m
 have n1 : 1 ≤ ks.length:=by omega
 have x0 : ks[0]? = some ks[0]:=ak (by omega)
 have et : Pt.toks (.mk 21 n0 u0 ks)=wd [118,97,114] :: nm n0 :: (nth (ks.map Pt.toks) 0++[Pt.mk [59]]):=by rw [toks_eq];show comb 21 n0 u0 (ks.map Pt.toks)=_;unfold comb;simp [hv]
 have y0 : nth (ks.map Pt.toks) 0=Pt.toks ks[0]:=nth_map ks 0 (by omega)
 rw [y0] at et
 have hl2:=hl
 rw [et] at hl2
 try simp only [aa,ab,ae] at hl2
 unfold TCall
 refine bw Tryz.func84 rfl 165 rfl ?_
 refine uA ?_
 refine oB (fun b => ?_)
 refine uL ?_
 refine bQ [] cr 11 rfl [.cells b 0 (treeC ⟨21,n0,u0,hks⟩)] L uP ?_
 refine bV tab uC uK [0] uK rfl ?_
 (refine bW tab 1 0 uC uK uK rfl rfl rfl rfl rfl rfl rfl rfl ?_)
 refine bV tab uC uK [4] uK rfl ?_
 refine bY tab rTree 5 0 h4 uC uK uK rfl rfl rfl rfl rfl rfl rfl (by first | rfl | omega) rfl x0 ?_
 rintro b0 i0 c0 r0 A0
 (refine bX (k:=0) tab 6 A0 uC uK uK rfl rfl rfl rfl rfl rfl rfl ?_)
 refine DO.bag [1,3,81,86] rfl 8 [⟨2,82,spStrs [([118,97,114] : Str),n0],[]⟩,⟨3,83,spStrs ([([118,97,114] : Str),n0]),[2]⟩,⟨7,87,spStrs (rtk (ks[0])),[]⟩,⟨8,88,spStrss [[([118,97,114] : Str),n0],rtk (ks[0])],[3,7]⟩] [8] 2 uK uK rfl rfl ?_ ?_
 ·refine ⟨bLit,bOne,(bKid (hk _ (aB _)) r0),⟨_,rfl,fun mA hmA rest => ?_⟩,trivial⟩
  refine cG rfl fun v hv => ?_
  obtain ⟨s0,rfl,hs0⟩:=hv
  refine cG rfl fun v hv => ?_
  obtain ⟨s1,rfl,hs1⟩:=hv
  exact cF (bLL (hs:=[s0,s1]) (E:=[[([118,97,114] : Str),n0],rtk (ks[0])]) ⟨hs0,hs1,trivial⟩)
 ·intro m1 hm1 rest
  refine cG rfl fun v hv => ?_
  obtain ⟨sz,rfl,hsz⟩:=hv
  refine cF ?_
  refine bZ 9 rfl rfl uK rfl (bM rfl rfl rfl rfl rfl rfl goes80 ((cI _ _ sz _ hsz (by simp [cE];omega)).x ?_))
  rintro _ m2 _ ⟨hm2,s2,rfl,hs2,ho2,rfl⟩
  refine ⟨hm2,_,permB, ?_⟩
  refine bV tab (by repeat (first|exact bU|refine bS ?_|refine bT ?_)) uK [10] uK rfl ?_
  refine cb uK ?_
  refine uA ?_
  refine bq rfl (fun c9 => ?_) (fun c9 => ?_)
  ·simp only at c9;exfalso;omega
  refine uA ?_
  have e7 : ([[[118,97,114],n0],rtk ks[0]] : List (List Str)).flatten=(([118,97,114] : Str) :: n0 :: rtk ks[0]):=by simp
  rw [e7] at hs2
  refine qs rfl (cq tab rStr (hs:=[[59]]) (l:=[[59]]) ⟨rfl,trivial⟩ rfl rfl rfl rfl rfl (by decide) (fun s9 m9 hm9 hs9 _ _ => ?_))
  refine uA ?_
  refine qs rfl (bP tab rStr 1 (hs2.mono hm9) ho2 hs9 rfl rfl rfl rfl rfl rfl rfl (by simp only [ab,cE,ae];show (_ + 1) * 16 ≤ _;omega) (fun s8 m8 hm8 hs8 ho8 => ?_))
  refine uA ?_
  refine bu rfl (L':=tok s8 1 :: L) uS ⟨bn (bn hm1 hm2) (bn hm9 hm8),s8,rfl, ?_,ho8,rfl⟩
  rw [rtk,et]
  simpa [rtk,txt] using hs8
theorem st_21n2 (n0 : Str) (u0 : Int) (ks : List Tree) (hok : OkK 21 u0 ks.length n0.length) (hv : ks.length=2) (hk : ∀ t ∈ ks,TkCall t) (hl : (Pt.toks (.mk 21 n0 u0 ks)).length ≤ 1000000) (m : Mem) (L : List Item) (h : HTree) (hr : TreeRep m h (.mk 21 n0 u0 ks)) :
  TCall Tryz.prog 84 ⟨[treeV h]⟩ m L (TkO m L (rtk (.mk 21 n0 u0 ks))):=by
 obtain ⟨-,k1,k2,k3,k4,k5,k6,k7⟩:=hok
 obtain ⟨hkd,hn,hu,hks⟩:=h
 obtain ⟨h1,h2,h3,h4⟩:=hr
 simp only [Tree.kind,Tree.name,Tree.num,Tree.kids] at h1 h2 h3 h4
 replace h2:=h2.symm
 replace h3:=h3.symm
 subst h1 h2 h3
 have hlen:=h4.len
 have hsm:=h4.small rfl
 have hm:=bm m
 have n1 : 2 ≤ ks.length:=by omega
 obtain ⟨ha,hl0,hc⟩:=hks
 obtain rfl : hl0=2:=by have:=hlen;simp only at this;omega
 have x0 : ks[0]? = some ks[0]:=ak (by omega)
 have x1 : ks[1]? = some ks[1]:=ak (by omega)
 have et : Pt.toks (.mk 21 n0 u0 ks)=wd [118,97,114] :: nm n0 :: (nth (ks.map Pt.toks) 0++Pt.mk [61] :: (nth (ks.map Pt.toks) 1++[Pt.mk [59]])):=by rw [toks_eq];show comb 21 n0 u0 (ks.map Pt.toks)=_;unfold comb;simp [hv]
 have y0 : nth (ks.map Pt.toks) 0=Pt.toks ks[0]:=nth_map ks 0 (by omega)
 have y1 : nth (ks.map Pt.toks) 1=Pt.toks ks[1]:=nth_map ks 1 (by omega)
 rw [y0,y1] at et
 have hl2:=hl
 rw [et] at hl2
 try simp only [aa,ab,ae] at hl2
 unfold TCall
 refine bw Tryz.func84 rfl 165 rfl ?_
 refine uA ?_
 refine oB (fun b => ?_)
 refine uL ?_
 refine bQ [] cr 11 rfl [.cells b 0 (treeC ⟨21,n0,u0,⟨ha,2,hc⟩⟩)] L uP ?_
 refine bV tab uC uK [0] uK rfl ?_
 (refine bW tab 1 0 uC uK uK rfl rfl rfl rfl rfl rfl rfl rfl ?_)
 refine bV tab uC uK [4] uK rfl ?_
 refine bY tab rTree 5 0 h4 uC uK uK rfl rfl rfl rfl rfl rfl rfl (by first | rfl | omega) rfl x0 ?_
 rintro b0 i0 c0 r0 A0
 (refine bX (k:=0) tab 6 A0 uC uK uK rfl rfl rfl rfl rfl rfl rfl ?_)
 refine DO.bag [1,3,81,86] rfl 8 [⟨2,82,spStrs [([118,97,114] : Str),n0],[]⟩,⟨3,83,spStrs ([([118,97,114] : Str),n0]),[2]⟩,⟨7,87,spStrs (rtk (ks[0])),[]⟩,⟨8,88,spStrss [[([118,97,114] : Str),n0],rtk (ks[0])],[3,7]⟩] [8] 2 uK uK rfl rfl ?_ ?_
 ·refine ⟨bLit,bOne,(bKid (hk _ (aB _)) r0),⟨_,rfl,fun mA hmA rest => ?_⟩,trivial⟩
  refine cG rfl fun v hv => ?_
  obtain ⟨s0,rfl,hs0⟩:=hv
  refine cG rfl fun v hv => ?_
  obtain ⟨s1,rfl,hs1⟩:=hv
  exact cF (bLL (hs:=[s0,s1]) (E:=[[([118,97,114] : Str),n0],rtk (ks[0])]) ⟨hs0,hs1,trivial⟩)
 ·intro m1 hm1 rest
  refine cG rfl fun v hv => ?_
  obtain ⟨sz,rfl,hsz⟩:=hv
  refine cF ?_
  refine bZ 9 rfl rfl uK rfl (bM rfl rfl rfl rfl rfl rfl goes80 ((cI _ _ sz _ hsz (by simp [cE];omega)).x ?_))
  rintro _ m2 _ ⟨hm2,s6,rfl,hs6,ho6,rfl⟩
  refine ⟨hm2,_,permB, ?_⟩
  refine bV tab (by repeat (first|exact bU|refine bS ?_|refine bT ?_)) uK [10] uK rfl ?_
  refine cb uK ?_
  refine uL ?_
  have hm6:=bn hm1 hm2
  have e6 : ([[[118,97,114],n0],rtk ks[0]] : List (List Str)).flatten=(([118,97,114] : Str) :: n0 :: rtk ks[0]):=by simp
  rw [e6] at hs6
  replace h4:=h4.mono hm6
  clear hm1 hm2 hsz e6
  refine bQ [] cr 10 rfl [.cells b 0 (treeC ⟨21,n0,u0,⟨ha,2,hc⟩⟩)] (tok s6 1 :: L) uP ?_
  refine bV tab uC uK [0,3] uK rfl ?_
  refine bY tab rTree 4 1 h4 uC uK uK rfl rfl rfl rfl rfl rfl rfl (by first | rfl | omega) rfl x1 ?_
  rintro b1 i1 c1 r1 A1
  (refine bX (k:=0) tab 5 A1 uC uK uK rfl rfl rfl rfl rfl rfl rfl ?_)
  refine DO.bag [1,3,93,98] rfl 7 [⟨1,94,spStrs [([61] : Str)],[]⟩,⟨2,95,spStrs ([([61] : Str)]),[1]⟩,⟨6,99,spStrs (rtk (ks[1])),[]⟩,⟨7,100,spStrss [(([118,97,114] : Str) :: n0 :: rtk ks[0]),[([61] : Str)],rtk (ks[1])],[2,6]⟩] [7] 2 uK uK rfl rfl ?_ ?_
  ·refine ⟨bLit,bOne,(bKid (hk _ (aB _)) r1),⟨_,rfl,fun mA hmA rest => ?_⟩,trivial⟩
   refine cG rfl fun v hv => ?_
   obtain ⟨s1,rfl,hs1⟩:=hv
   refine cG rfl fun v hv => ?_
   obtain ⟨s2,rfl,hs2⟩:=hv
   exact cF (bLL (hs:=[s6,s1,s2]) (E:=[(([118,97,114] : Str) :: n0 :: rtk ks[0]),[([61] : Str)],rtk (ks[1])]) ⟨hs6.mono hmA,hs1,hs2,trivial⟩)
  ·intro m1 hm1 rest
   refine cG rfl fun v hv => ?_
   obtain ⟨sz,rfl,hsz⟩:=hv
   refine cF ?_
   refine bZ 8 rfl rfl uK rfl (bM rfl rfl rfl rfl rfl rfl goes80 ((cI _ _ sz _ hsz (by simp [cE];omega)).x ?_))
   rintro _ m2 _ ⟨hm2,s2,rfl,hs2,ho2,rfl⟩
   refine ⟨hm2,_,permB, ?_⟩
   refine bV tab (by repeat (first|exact bU|refine bS ?_|refine bT ?_)) uK [9] uK rfl ?_
   refine cb uK ?_
   refine uA ?_
   have e7 : ([(([118,97,114] : Str) :: n0 :: rtk ks[0]),[[61]],rtk ks[1]] : List (List Str)).flatten=([118,97,114] : Str) :: n0 :: (rtk ks[0]++([61] : Str) :: rtk ks[1]):=by simp
   rw [e7] at hs2
   refine qs rfl (cq tab rStr (hs:=[[59]]) (l:=[[59]]) ⟨rfl,trivial⟩ rfl rfl rfl rfl rfl (by decide) (fun s9 m9 hm9 hs9 _ _ => ?_))
   refine uA ?_
   refine qs rfl (bP tab rStr 1 (hs2.mono hm9) ho2 hs9 rfl rfl rfl rfl rfl rfl rfl (by simp only [ab,aa,cE,ae];show (_ + 1) * 16 ≤ _;omega) (fun s8 m8 hm8 hs8 ho8 => ?_))
   refine uA ?_
   refine bu rfl (L':=tok s8 1 :: L) uS ⟨bn hm6 (bn (bn hm1 hm2) (bn hm9 hm8)),s8,rfl, ?_,ho8,rfl⟩
   rw [rtk,et]
   simpa [rtk,txt] using hs8
theorem st_20 (n0 : Str) (u0 : Int) (ks : List Tree) (hok : OkK 20 u0 ks.length n0.length) (hk : ∀ t ∈ ks,TkCall t) (hl : (Pt.toks (.mk 20 n0 u0 ks)).length ≤ 1000000) (m : Mem) (L : List Item) (h : HTree) (hr : TreeRep m h (.mk 20 n0 u0 ks)) :
  TCall Tryz.prog 84 ⟨[treeV h]⟩ m L (TkO m L (rtk (.mk 20 n0 u0 ks))):=by
 obtain ⟨-,k1,k2,k3,k4,k5,k6,k7⟩:=hok
 obtain ⟨hkd,hn,hu,hks⟩:=h
 obtain ⟨h1,h2,h3,h4⟩:=hr
 simp only [Tree.kind,Tree.name,Tree.num,Tree.kids] at h1 h2 h3 h4
 replace h2:=h2.symm
 replace h3:=h3.symm
 subst h1 h2 h3
 have hlen:=h4.len
 have hsm:=h4.small rfl
 have hm:=bm m
 have et : Pt.toks (.mk 20 n0 u0 ks)=Pt.mk [123] :: ((ks.map Pt.toks).flatten++[Pt.mk [125]]):=by rw [toks_eq];rfl
 have hl2:=hl
 rw [et] at hl2
 try simp only [aa,ab,ae] at hl2
 unfold TCall
 refine bw Tryz.func84 rfl 165 rfl ?_
 refine uA ?_
 refine oB (fun b => ?_)
 refine uL ?_
 refine qs rfl (cq tab rStr (hs:=[[123]]) (l:=[[123]]) ⟨rfl,trivial⟩ rfl rfl rfl rfl rfl (by decide) (fun s0 m0 hm0 hs0 ho0 hc0 => ?_))
 refine uA ?_
 refine oC goes81 ((cH _ _ s0).x ?_);
 rintro _ _ _ ⟨rfl,rfl,rfl⟩
 refine TO.tokFo hc0 ho0 1 ?_
 refine uA ?_
 have hcut : ∀ i,((ks.take i).map Pt.toks).flatten.length + ((ks.drop i).map Pt.toks).flatten.length=(ks.map Pt.toks).flatten.length:=fun i=>by rw [← aa,← List.flatten_append,← aZ,aV]
 refine br (ι:=RS) [1,3] rfl (fun g=>[(5, .int .i64 (g.i : Int)),(4,g.s.v)]) (fun g=>g.m) (fun g=>tok g.s 1 :: .cells b 0 (treeC ⟨20,n0,u0,hks⟩) :: L) (fun g=>m ≤ g.m∧g.i ≤ ks.length∧SlRep rStr g.m g.s ([123] :: ((ks.take g.i).map Pt.toks).flatten.map txt)∧Own g.s) (fun g=>ks.length - g.i) ⟨0,m0,s0⟩ uH rfl uS ⟨hm0,aU _,hs0,ho0⟩ ?_
 rintro ⟨i,m1,s⟩ ⟨hm1,hi,g1,g2⟩
 simp only at hm1 hi g1 g2
 refine uA ?_
 refine bq rfl (fun h3 => ?_) (fun h3 => ?_)
 ·simp only at h3
  have hlt : i < ks.length:=by omega
  have hxi : ks[i]? = some ks[i]:=ak hlt
  have hs1:=h4.mono hm1
  have hc:=hcut (i + 1)
  have htk : ((ks.take (i + 1)).map Pt.toks).flatten=((ks.take i).map Pt.toks).flatten++Pt.toks ks[i]:=by rw [aX hlt,aZ,List.flatten_append];simp
  rw [htk,aa] at hc
  refine uA ?_
  refine qs rfl (bO tab rTree i hs1 rfl rfl rfl rfl rfl (by first | rfl | omega | (simp only;omega)) rfl hxi ?_)
  rintro b4 i4 y hy hA4
  (refine oL tab hA4 ?_)
  refine uA ?_
  refine oC goes44 ((TkO.drop (hk _ (aB hlt) _ _ y (rTree_iff.1 hy))).x ?_);
  rintro _ m4 _ ⟨hm4,rfl,s4,rfl,hs4⟩
  refine uA ?_
  refine qs rfl (bP tab rStr 0 (g1.mono hm4) g2 hs4 rfl rfl rfl rfl rfl rfl rfl (by rw [ab,aD,cE];show (_ + 1 + _) * 16 ≤ _;omega) (fun s5 m5 hm5 hs5 ho5 => ?_))
  refine uA ?_
  refine qs rfl (bK (r':=((i + 1 : Nat) : Int)) rfl rfl rfl rfl rfl rfl rfl (by omega) ?_)
  refine uA ?_
  refine ⟨⟨i + 1,m5,s5⟩,uH,uH,rfl,rfl,uS,⟨bn hm1 (bn hm4 hm5),by simp only;omega, ?_,ho5⟩,by simp only;omega⟩
  rw [htk,aZ]
  exact hs5
 ·simp only at h3
  rw [aT (by omega)] at g1
  refine uA ?_
  refine qs rfl (cq tab rStr (hs:=[[125]]) (l:=[[125]]) ⟨rfl,trivial⟩ rfl rfl rfl rfl rfl (by decide) (fun s9 m9 hm9 hs9 _ _ => ?_))
  refine uA ?_
  refine qs rfl (bP tab rStr 0 (g1.mono hm9) g2 hs9 rfl rfl rfl rfl rfl rfl rfl (by rw [ab,aD];show (_ + 1 + 1) * 16 ≤ _;omega) (fun s8 m8 hm8 hs8 ho8 => ?_))
  refine uA ?_
  refine bu rfl (L':=tok s8 1 :: L) uS ⟨bn hm1 (bn hm9 hm8),s8,rfl, ?_,ho8,rfl⟩
  rw [rtk,et]
  simpa [txt] using hs8
end Go.Sep


/- PtRefT -/
namespace Go.Sep
open Go.Proofs Go.Pt
attribute [local irreducible] TC TO OT TCallX TCall DO DOt thenQ blockQ retQ At
theorem tk_1 (n0 : Str) (u0 : Int) (ks : List Tree) (hok : OkK 1 u0 ks.length n0.length) (hk : ∀ t ∈ ks,TkCall t) (hl : (Pt.toks (.mk 1 n0 u0 ks)).length ≤ 1000000) (m : Mem) (L : List Item) (h : HTree) (hr : TreeRep m h (.mk 1 n0 u0 ks)) :
  TCall Tryz.prog 44 ⟨[treeV h]⟩ m L (TkO m L (rtk (.mk 1 n0 u0 ks))):=by
 obtain ⟨-,k1,k2,k3,k4,k5,k6,k7⟩:=hok
 obtain ⟨hkd,hn,hu,hks⟩:=h
 obtain ⟨h1,h2,h3,h4⟩:=hr
 simp only [Tree.kind,Tree.name,Tree.num,Tree.kids] at h1 h2 h3 h4
 replace h2:=h2.symm
 replace h3:=h3.symm
 subst h1 h2 h3
 have hlen:=h4.len
 have hsm:=h4.small rfl
 have hm:=bm m
 have et : Pt.toks (.mk 1 n0 u0 ks)=(ks.map Pt.toks).flatten:=by rw [toks_eq];rfl
 have hl2:=hl
 rw [et] at hl2
 try simp only [aa,ab,ae] at hl2
 unfold TCall
 refine bw Tryz.func44 rfl 156 rfl ?_
 refine uA ?_
 refine oB (fun b => ?_)
 refine uL ?_
 refine oC goes79 ((all_ref ks hk false _ _ hks h4 (by rw [cK,aD];omega)).x ?_);
 rintro _ m2 _ ⟨hm2,s2,rfl,hs2,ho2,rfl⟩
 refine uL ?_
 refine bu rfl (L':=tok s2 1 :: L) uS ⟨bn hm hm2,s2,rfl, ?_,ho2,rfl⟩
 rw [rtk,et]
 simpa [rtk,txt,cJ,cK] using hs2
theorem tk_2 (n0 : Str) (u0 : Int) (ks : List Tree) (hok : OkK 2 u0 ks.length n0.length) (hk : ∀ t ∈ ks,TkCall t) (hl : (Pt.toks (.mk 2 n0 u0 ks)).length ≤ 1000000) (m : Mem) (L : List Item) (h : HTree) (hr : TreeRep m h (.mk 2 n0 u0 ks)) :
  TCall Tryz.prog 44 ⟨[treeV h]⟩ m L (TkO m L (rtk (.mk 2 n0 u0 ks))):=by
 obtain ⟨-,k1,k2,k3,k4,k5,k6,k7⟩:=hok
 obtain ⟨hkd,hn,hu,hks⟩:=h
 obtain ⟨h1,h2,h3,h4⟩:=hr
 simp only [Tree.kind,Tree.name,Tree.num,Tree.kids] at h1 h2 h3 h4
 replace h2:=h2.symm
 replace h3:=h3.symm
 subst h1 h2 h3
 have hlen:=h4.len
 have hsm:=h4.small rfl
 have hm:=bm m
 have et : Pt.toks (.mk 2 n0 u0 ks)=wd [116,121,112,101] :: nm n0 :: wd [115,116,114,117,99,116] :: Pt.mk [123] :: (semis (ks.map Pt.toks)++[Pt.mk [125]]):=by rw [toks_eq];rfl
 have hl2:=hl
 rw [et] at hl2
 try simp only [aa,ab,ae] at hl2
 unfold TCall
 refine bw Tryz.func44 rfl 156 rfl ?_
 refine uA ?_
 refine oB (fun b => ?_)
 refine uL ?_
 refine qs rfl (cq tab rStr (hs:=[([116,121,112,101] : Str),n0,([115,116,114,117,99,116] : Str),([123] : Str)]) (l:=[([116,121,112,101] : Str),n0,([115,116,114,117,99,116] : Str),([123] : Str)]) ⟨rfl,rfl,rfl,rfl,trivial⟩ rfl rfl rfl rfl rfl (by decide) (fun s1 ma hma hs1 ho1 hc1 => ?_))
 replace hm:=bn hm hma
 replace h4:=h4.mono hma
 refine uL ?_
 refine oC goes81 ((cH _ _ s1).x ?_);
 rintro _ _ _ ⟨rfl,rfl,rfl⟩
 refine uL ?_
 refine oC goes79 ((TkO.drop (all_ref ks hk true _ _ hks h4 (by rw [cJ,aD];omega))).x ?_);
 rintro _ m2 _ ⟨hm2,rfl,s2,rfl,hs2⟩
 replace hm:=bn hm hm2
 replace h4:=h4.mono hm2
 replace hs1:=hs1.mono hm2
 refine uL ?_
 refine qs rfl (cq tab rStr (hs:=[([125] : Str)]) (l:=[([125] : Str)]) ⟨rfl,trivial⟩ rfl rfl rfl rfl rfl (by decide) (fun s3 ma hma hs3 ho3 hc3 => ?_))
 replace hm:=bn hm hma
 replace h4:=h4.mono hma
 replace hs1:=hs1.mono hma
 replace hs2:=hs2.mono hma
 refine uL ?_
 refine oC goes81 ((cH _ _ s3).x ?_);
 rintro _ _ _ ⟨rfl,rfl,rfl⟩
 refine uL ?_
 refine qs rfl (cq tab rSS (hs:=[s1,s2,s3]) (l:=[[([116,121,112,101] : Str),n0,([115,116,114,117,99,116] : Str),([123] : Str)],allJ ks true,[([125] : Str)]]) ⟨hs1,hs2,hs3,trivial⟩ rfl rfl rfl rfl rfl (by decide) (fun s4 ma hma hs4 ho4 hc4 => ?_))
 replace hm:=bn hm hma
 replace h4:=h4.mono hma
 replace hs1:=hs1.mono hma
 replace hs2:=hs2.mono hma
 replace hs3:=hs3.mono hma
 refine uL ?_
 refine oC goes80 ((cI _ _ s4 _ hs4 (by rw [show List.flatten _=rtk (.mk 2 n0 u0 ks) from by (show List.flatten _=(Pt.toks (.mk 2 n0 u0 ks)).map txt);rw [et];simp [rtk,txt,cJ,cK]];rw [cE];exact hl)).x ?_);
 rintro _ m2 _ ⟨hm2,s2,rfl,hs2,ho2,rfl⟩
 refine uL ?_
 refine bu rfl (L':=tok s2 1 :: L) uS ⟨bn hm hm2,s2,rfl, ?_,ho2,rfl⟩
 rw [rtk,et]
 simpa [rtk,txt,cJ,cK] using hs2
theorem tk_3 (n0 : Str) (u0 : Int) (ks : List Tree) (hok : OkK 3 u0 ks.length n0.length) (hk : ∀ t ∈ ks,TkCall t) (hl : (Pt.toks (.mk 3 n0 u0 ks)).length ≤ 1000000) (m : Mem) (L : List Item) (h : HTree) (hr : TreeRep m h (.mk 3 n0 u0 ks)) :
  TCall Tryz.prog 44 ⟨[treeV h]⟩ m L (TkO m L (rtk (.mk 3 n0 u0 ks))):=by
 obtain ⟨-,k1,k2,k3,k4,k5,k6,k7⟩:=hok
 obtain ⟨hkd,hn,hu,hks⟩:=h
 obtain ⟨h1,h2,h3,h4⟩:=hr
 simp only [Tree.kind,Tree.name,Tree.num,Tree.kids] at h1 h2 h3 h4
 replace h2:=h2.symm
 replace h3:=h3.symm
 subst h1 h2 h3
 have hlen:=h4.len
 have hsm:=h4.small rfl
 have hm:=bm m
 have et : Pt.toks (.mk 3 n0 u0 ks)=wd [116,121,112,101] :: nm n0 :: wd [105,110,116,101,114,102,97,99,101] :: Pt.mk [123] :: (semis (ks.map Pt.toks)++[Pt.mk [125]]):=by rw [toks_eq];rfl
 have hl2:=hl
 rw [et] at hl2
 try simp only [aa,ab,ae] at hl2
 unfold TCall
 refine bw Tryz.func44 rfl 156 rfl ?_
 refine uA ?_
 refine oB (fun b => ?_)
 refine uL ?_
 refine qs rfl (cq tab rStr (hs:=[([116,121,112,101] : Str),n0,([105,110,116,101,114,102,97,99,101] : Str),([123] : Str)]) (l:=[([116,121,112,101] : Str),n0,([105,110,116,101,114,102,97,99,101] : Str),([123] : Str)]) ⟨rfl,rfl,rfl,rfl,trivial⟩ rfl rfl rfl rfl rfl (by decide) (fun s1 ma hma hs1 ho1 hc1 => ?_))
 replace hm:=bn hm hma
 replace h4:=h4.mono hma
 refine uL ?_
 refine oC goes81 ((cH _ _ s1).x ?_);
 rintro _ _ _ ⟨rfl,rfl,rfl⟩
 refine uL ?_
 refine oC goes79 ((TkO.drop (all_ref ks hk true _ _ hks h4 (by rw [cJ,aD];omega))).x ?_);
 rintro _ m2 _ ⟨hm2,rfl,s2,rfl,hs2⟩
 replace hm:=bn hm hm2
 replace h4:=h4.mono hm2
 replace hs1:=hs1.mono hm2
 refine uL ?_
 refine qs rfl (cq tab rStr (hs:=[([125] : Str)]) (l:=[([125] : Str)]) ⟨rfl,trivial⟩ rfl rfl rfl rfl rfl (by decide) (fun s3 ma hma hs3 ho3 hc3 => ?_))
 replace hm:=bn hm hma
 replace h4:=h4.mono hma
 replace hs1:=hs1.mono hma
 replace hs2:=hs2.mono hma
 refine uL ?_
 refine oC goes81 ((cH _ _ s3).x ?_);
 rintro _ _ _ ⟨rfl,rfl,rfl⟩
 refine uL ?_
 refine qs rfl (cq tab rSS (hs:=[s1,s2,s3]) (l:=[[([116,121,112,101] : Str),n0,([105,110,116,101,114,102,97,99,101] : Str),([123] : Str)],allJ ks true,[([125] : Str)]]) ⟨hs1,hs2,hs3,trivial⟩ rfl rfl rfl rfl rfl (by decide) (fun s4 ma hma hs4 ho4 hc4 => ?_))
 replace hm:=bn hm hma
 replace h4:=h4.mono hma
 replace hs1:=hs1.mono hma
 replace hs2:=hs2.mono hma
 replace hs3:=hs3.mono hma
 refine uL ?_
 refine oC goes80 ((cI _ _ s4 _ hs4 (by rw [show List.flatten _=rtk (.mk 3 n0 u0 ks) from by (show List.flatten _=(Pt.toks (.mk 3 n0 u0 ks)).map txt);rw [et];simp [rtk,txt,cJ,cK]];rw [cE];exact hl)).x ?_);
 rintro _ m2 _ ⟨hm2,s2,rfl,hs2,ho2,rfl⟩
 refine uL ?_
 refine bu rfl (L':=tok s2 1 :: L) uS ⟨bn hm hm2,s2,rfl, ?_,ho2,rfl⟩
 rw [rtk,et]
 simpa [rtk,txt,cJ,cK] using hs2
theorem tk_6 (n0 : Str) (u0 : Int) (ks : List Tree) (hok : OkK 6 u0 ks.length n0.length) (hk : ∀ t ∈ ks,TkCall t) (hl : (Pt.toks (.mk 6 n0 u0 ks)).length ≤ 1000000) (m : Mem) (L : List Item) (h : HTree) (hr : TreeRep m h (.mk 6 n0 u0 ks)) :
  TCall Tryz.prog 44 ⟨[treeV h]⟩ m L (TkO m L (rtk (.mk 6 n0 u0 ks))):=by
 obtain ⟨-,k1,k2,k3,k4,k5,k6,k7⟩:=hok
 obtain ⟨hkd,hn,hu,hks⟩:=h
 obtain ⟨h1,h2,h3,h4⟩:=hr
 simp only [Tree.kind,Tree.name,Tree.num,Tree.kids] at h1 h2 h3 h4
 replace h2:=h2.symm
 replace h3:=h3.symm
 subst h1 h2 h3
 have hlen:=h4.len
 have hsm:=h4.small rfl
 have hm:=bm m
 have n1 : 1 ≤ ks.length:=k1 (by decide)
 have x0 : ks[0]? = some ks[0]:=ak (by omega)
 have et : Pt.toks (.mk 6 n0 u0 ks)=nm n0 :: nth (ks.map Pt.toks) 0:=by rw [toks_eq];rfl
 have y0 : nth (ks.map Pt.toks) 0=Pt.toks ks[0]:=nth_map ks 0 (by omega)
 rw [y0] at et
 have hl2:=hl
 rw [et] at hl2
 try simp only [aa,ab,ae] at hl2
 unfold TCall
 refine bw Tryz.func44 rfl 156 rfl ?_
 refine uA ?_
 refine oB (fun b => ?_)
 refine uL ?_
 refine bQ [] cr 11 rfl [.cells b 0 (treeC ⟨6,n0,u0,hks⟩)] L uP ?_
 refine bV tab uC uK [0] uK rfl ?_
 (refine bW tab 1 0 uC uK uK rfl rfl rfl rfl rfl rfl rfl rfl ?_)
 refine bV tab uC uK [4] uK rfl ?_
 refine bY tab rTree 5 0 h4 uC uK uK rfl rfl rfl rfl rfl rfl rfl (by first | rfl | omega) rfl x0 ?_
 rintro b0 i0 c0 r0 A0
 (refine bX (k:=0) tab 6 A0 uC uK uK rfl rfl rfl rfl rfl rfl rfl ?_)
 refine DO.bag [40,45] rfl 8 [⟨2,41,spStrs [n0],[]⟩,⟨3,42,spStrs ([n0]),[2]⟩,⟨7,46,spStrs (rtk (ks[0])),[]⟩,⟨8,47,spStrss [[n0],rtk (ks[0])],[3,7]⟩] [8] 2 uK uK rfl rfl ?_ ?_
 ·refine ⟨bLit,bOne,(bKid (hk _ (aB _)) r0),⟨_,rfl,fun mA hmA rest => ?_⟩,trivial⟩
  refine cG rfl fun v hv => ?_
  obtain ⟨s0,rfl,hs0⟩:=hv
  refine cG rfl fun v hv => ?_
  obtain ⟨s1,rfl,hs1⟩:=hv
  exact cF (bLL (hs:=[s0,s1]) (E:=[[n0],rtk (ks[0])]) ⟨hs0,hs1,trivial⟩)
 ·intro m1 hm1 rest
  refine cG rfl fun v hv => ?_
  obtain ⟨sz,rfl,hsz⟩:=hv
  refine cF ?_
  refine bZ 9 rfl rfl uK rfl (bM rfl rfl rfl rfl rfl rfl goes80 ((cI _ _ sz _ hsz (by rw [show List.flatten _=rtk (.mk 6 n0 u0 ks) from by (show List.flatten _=(Pt.toks (.mk 6 n0 u0 ks)).map txt);rw [et];simp [rtk,txt,cJ,cK]];rw [cE];exact hl)).x ?_))
  rintro _ m2 _ ⟨hm2,s2,rfl,hs2,ho2,rfl⟩
  refine ⟨hm2,_,permB, ?_⟩
  refine bV tab (by repeat (first|exact bU|refine bS ?_|refine bT ?_)) uK [10] uK rfl ?_
  refine cb uK ?_
  refine uA ?_
  refine bu rfl (L':=tok s2 1 :: L) uS ⟨bn hm1 hm2,s2,rfl, ?_,ho2,rfl⟩
  rw [rtk,et]
  simpa [rtk,txt,cJ,cK] using hs2
theorem tk_8 (n0 : Str) (u0 : Int) (ks : List Tree) (hok : OkK 8 u0 ks.length n0.length) (hk : ∀ t ∈ ks,TkCall t) (hl : (Pt.toks (.mk 8 n0 u0 ks)).length ≤ 1000000) (m : Mem) (L : List Item) (h : HTree) (hr : TreeRep m h (.mk 8 n0 u0 ks)) :
  TCall Tryz.prog 44 ⟨[treeV h]⟩ m L (TkO m L (rtk (.mk 8 n0 u0 ks))):=by
 obtain ⟨-,k1,k2,k3,k4,k5,k6,k7⟩:=hok
 obtain ⟨hkd,hn,hu,hks⟩:=h
 obtain ⟨h1,h2,h3,h4⟩:=hr
 simp only [Tree.kind,Tree.name,Tree.num,Tree.kids] at h1 h2 h3 h4
 replace h2:=h2.symm
 replace h3:=h3.symm
 subst h1 h2 h3
 have hlen:=h4.len
 have hsm:=h4.small rfl
 have hm:=bm m
 have n1 : 1 ≤ ks.length:=k1 (by decide)
 have x0 : ks[0]? = some ks[0]:=ak (by omega)
 have et : Pt.toks (.mk 8 n0 u0 ks)=nm n0 :: nth (ks.map Pt.toks) 0:=by rw [toks_eq];rfl
 have y0 : nth (ks.map Pt.toks) 0=Pt.toks ks[0]:=nth_map ks 0 (by omega)
 rw [y0] at et
 have hl2:=hl
 rw [et] at hl2
 try simp only [aa,ab,ae] at hl2
 unfold TCall
 refine bw Tryz.func44 rfl 156 rfl ?_
 refine uA ?_
 refine oB (fun b => ?_)
 refine uL ?_
 refine bQ [] cr 11 rfl [.cells b 0 (treeC ⟨8,n0,u0,hks⟩)] L uP ?_
 refine bV tab uC uK [0] uK rfl ?_
 (refine bW tab 1 0 uC uK uK rfl rfl rfl rfl rfl rfl rfl rfl ?_)
 refine bV tab uC uK [4] uK rfl ?_
 refine bY tab rTree 5 0 h4 uC uK uK rfl rfl rfl rfl rfl rfl rfl (by first | rfl | omega) rfl x0 ?_
 rintro b0 i0 c0 r0 A0
 (refine bX (k:=0) tab 6 A0 uC uK uK rfl rfl rfl rfl rfl rfl rfl ?_)
 refine DO.bag [40,45] rfl 8 [⟨2,41,spStrs [n0],[]⟩,⟨3,42,spStrs ([n0]),[2]⟩,⟨7,46,spStrs (rtk (ks[0])),[]⟩,⟨8,47,spStrss [[n0],rtk (ks[0])],[3,7]⟩] [8] 2 uK uK rfl rfl ?_ ?_
 ·refine ⟨bLit,bOne,(bKid (hk _ (aB _)) r0),⟨_,rfl,fun mA hmA rest => ?_⟩,trivial⟩
  refine cG rfl fun v hv => ?_
  obtain ⟨s0,rfl,hs0⟩:=hv
  refine cG rfl fun v hv => ?_
  obtain ⟨s1,rfl,hs1⟩:=hv
  exact cF (bLL (hs:=[s0,s1]) (E:=[[n0],rtk (ks[0])]) ⟨hs0,hs1,trivial⟩)
 ·intro m1 hm1 rest
  refine cG rfl fun v hv => ?_
  obtain ⟨sz,rfl,hsz⟩:=hv
  refine cF ?_
  refine bZ 9 rfl rfl uK rfl (bM rfl rfl rfl rfl rfl rfl goes80 ((cI _ _ sz _ hsz (by rw [show List.flatten _=rtk (.mk 8 n0 u0 ks) from by (show List.flatten _=(Pt.toks (.mk 8 n0 u0 ks)).map txt);rw [et];simp [rtk,txt,cJ,cK]];rw [cE];exact hl)).x ?_))
  rintro _ m2 _ ⟨hm2,s2,rfl,hs2,ho2,rfl⟩
  refine ⟨hm2,_,permB, ?_⟩
  refine bV tab (by repeat (first|exact bU|refine bS ?_|refine bT ?_)) uK [10] uK rfl ?_
  refine cb uK ?_
  refine uA ?_
  refine bu rfl (L':=tok s2 1 :: L) uS ⟨bn hm1 hm2,s2,rfl, ?_,ho2,rfl⟩
  rw [rtk,et]
  simpa [rtk,txt,cJ,cK] using hs2
theorem tk_4 (n0 : Str) (u0 : Int) (ks : List Tree) (hok : OkK 4 u0 ks.length n0.length) (hk : ∀ t ∈ ks,TkCall t) (hl : (Pt.toks (.mk 4 n0 u0 ks)).length ≤ 1000000) (m : Mem) (L : List Item) (h : HTree) (hr : TreeRep m h (.mk 4 n0 u0 ks)) :
  TCall Tryz.prog 44 ⟨[treeV h]⟩ m L (TkO m L (rtk (.mk 4 n0 u0 ks))):=by
 obtain ⟨-,k1,k2,k3,k4,k5,k6,k7⟩:=hok
 obtain ⟨hkd,hn,hu,hks⟩:=h
 obtain ⟨h1,h2,h3,h4⟩:=hr
 simp only [Tree.kind,Tree.name,Tree.num,Tree.kids] at h1 h2 h3 h4
 replace h2:=h2.symm
 replace h3:=h3.symm
 subst h1 h2 h3
 have hlen:=h4.len
 have hsm:=h4.small rfl
 have hm:=bm m
 have n1 : 2 ≤ ks.length:=k2 (by decide)
 have x0 : ks[0]? = some ks[0]:=ak (by omega)
 have x1 : ks[1]? = some ks[1]:=ak (by omega)
 have et : Pt.toks (.mk 4 n0 u0 ks)=wd [102,117,110,99] :: nm n0 :: (nth (ks.map Pt.toks) 0++nth (ks.map Pt.toks) 1):=by rw [toks_eq];rfl
 have y0 : nth (ks.map Pt.toks) 0=Pt.toks ks[0]:=nth_map ks 0 (by omega)
 have y1 : nth (ks.map Pt.toks) 1=Pt.toks ks[1]:=nth_map ks 1 (by omega)
 rw [y0,y1] at et
 have hl2:=hl
 rw [et] at hl2
 try simp only [aa,ab,ae] at hl2
 unfold TCall
 refine bw Tryz.func44 rfl 156 rfl ?_
 refine uA ?_
 refine oB (fun b => ?_)
 refine uL ?_
 refine bQ [] cr 15 rfl [.cells b 0 (treeC ⟨4,n0,u0,hks⟩)] L uP ?_
 refine bV tab uC uK [0] uK rfl ?_
 (refine bW tab 1 0 uC uK uK rfl rfl rfl rfl rfl rfl rfl rfl ?_)
 refine bV tab uC uK [4] uK rfl ?_
 refine bY tab rTree 5 0 h4 uC uK uK rfl rfl rfl rfl rfl rfl rfl (by first | rfl | omega) rfl x0 ?_
 rintro b0 i0 c0 r0 A0
 (refine bX (k:=0) tab 6 A0 uC uK uK rfl rfl rfl rfl rfl rfl rfl ?_)
 refine bV tab uC uK [8] uK rfl ?_
 refine bY tab rTree 9 1 h4 uC uK uK rfl rfl rfl rfl rfl rfl rfl (by first | rfl | omega) rfl x1 ?_
 rintro b1 i1 c1 r1 A1
 (refine bX (k:=0) tab 10 A1 uC uK uK rfl rfl rfl rfl rfl rfl rfl ?_)
 refine DO.bag [52,57,61] rfl 12 [⟨2,53,spStrs [([102,117,110,99] : Str),n0],[]⟩,⟨3,54,spStrs ([([102,117,110,99] : Str),n0]),[2]⟩,⟨7,58,spStrs (rtk (ks[0])),[]⟩,⟨11,62,spStrs (rtk (ks[1])),[]⟩,⟨12,63,spStrss [[([102,117,110,99] : Str),n0],rtk (ks[0]),rtk (ks[1])],[3,7,11]⟩] [12] 2 uK uK rfl rfl ?_ ?_
 ·refine ⟨bLit,bOne,(bKid (hk _ (aB _)) r0),(bKid (hk _ (aB _)) r1),⟨_,rfl,fun mA hmA rest => ?_⟩,trivial⟩
  refine cG rfl fun v hv => ?_
  obtain ⟨s0,rfl,hs0⟩:=hv
  refine cG rfl fun v hv => ?_
  obtain ⟨s1,rfl,hs1⟩:=hv
  refine cG rfl fun v hv => ?_
  obtain ⟨s2,rfl,hs2⟩:=hv
  exact cF (bLL (hs:=[s0,s1,s2]) (E:=[[([102,117,110,99] : Str),n0],rtk (ks[0]),rtk (ks[1])]) ⟨hs0,hs1,hs2,trivial⟩)
 ·intro m1 hm1 rest
  refine cG rfl fun v hv => ?_
  obtain ⟨sz,rfl,hsz⟩:=hv
  refine cF ?_
  refine bZ 13 rfl rfl uK rfl (bM rfl rfl rfl rfl rfl rfl goes80 ((cI _ _ sz _ hsz (by rw [show List.flatten _=rtk (.mk 4 n0 u0 ks) from by (show List.flatten _=(Pt.toks (.mk 4 n0 u0 ks)).map txt);rw [et];simp [rtk,txt,cJ,cK]];rw [cE];exact hl)).x ?_))
  rintro _ m2 _ ⟨hm2,s2,rfl,hs2,ho2,rfl⟩
  refine ⟨hm2,_,permB, ?_⟩
  refine bV tab (by repeat (first|exact bU|refine bS ?_|refine bT ?_)) uK [14] uK rfl ?_
  refine cb uK ?_
  refine uA ?_
  refine bu rfl (L':=tok s2 1 :: L) uS ⟨bn hm1 hm2,s2,rfl, ?_,ho2,rfl⟩
  rw [rtk,et]
  simpa [rtk,txt,cJ,cK] using hs2
theorem tk_5 (n0 : Str) (u0 : Int) (ks : List Tree) (hok : OkK 5 u0 ks.length n0.length) (hk : ∀ t ∈ ks,TkCall t) (hl : (Pt.toks (.mk 5 n0 u0 ks)).length ≤ 1000000) (m : Mem) (L : List Item) (h : HTree) (hr : TreeRep m h (.mk 5 n0 u0 ks)) :
  TCall Tryz.prog 44 ⟨[treeV h]⟩ m L (TkO m L (rtk (.mk 5 n0 u0 ks))):=by
 obtain ⟨-,k1,k2,k3,k4,k5,k6,k7⟩:=hok
 obtain ⟨hkd,hn,hu,hks⟩:=h
 obtain ⟨h1,h2,h3,h4⟩:=hr
 simp only [Tree.kind,Tree.name,Tree.num,Tree.kids] at h1 h2 h3 h4
 replace h2:=h2.symm
 replace h3:=h3.symm
 subst h1 h2 h3
 have hlen:=h4.len
 have hsm:=h4.small rfl
 have hm:=bm m
 have n1 : 3 ≤ ks.length:=k3 rfl
 have x0 : ks[0]? = some ks[0]:=ak (by omega)
 have x1 : ks[1]? = some ks[1]:=ak (by omega)
 have x2 : ks[2]? = some ks[2]:=ak (by omega)
 have et : Pt.toks (.mk 5 n0 u0 ks)=wd [102,117,110,99] :: Pt.mk [40] :: (nth (ks.map Pt.toks) 0++Pt.mk [41] :: nm n0 :: (nth (ks.map Pt.toks) 1++nth (ks.map Pt.toks) 2)):=by rw [toks_eq];rfl
 have y0 : nth (ks.map Pt.toks) 0=Pt.toks ks[0]:=nth_map ks 0 (by omega)
 have y1 : nth (ks.map Pt.toks) 1=Pt.toks ks[1]:=nth_map ks 1 (by omega)
 have y2 : nth (ks.map Pt.toks) 2=Pt.toks ks[2]:=nth_map ks 2 (by omega)
 rw [y0,y1,y2] at et
 have hl2:=hl
 rw [et] at hl2
 try simp only [aa,ab,ae] at hl2
 unfold TCall
 refine bw Tryz.func44 rfl 156 rfl ?_
 refine uA ?_
 refine oB (fun b => ?_)
 refine uL ?_
 refine bQ [] cr 21 rfl [.cells b 0 (treeC ⟨5,n0,u0,hks⟩)] L uP ?_
 refine bV tab uC uK [2] uK rfl ?_
 refine bY tab rTree 3 0 h4 uC uK uK rfl rfl rfl rfl rfl rfl rfl (by first | rfl | omega) rfl x0 ?_
 rintro b0 i0 c0 r0 A0
 (refine bX (k:=0) tab 4 A0 uC uK uK rfl rfl rfl rfl rfl rfl rfl ?_)
 refine bV tab uC uK [6] uK rfl ?_
 (refine bW tab 7 0 uC uK uK rfl rfl rfl rfl rfl rfl rfl rfl ?_)
 refine bV tab uC uK [10] uK rfl ?_
 refine bY tab rTree 11 1 h4 uC uK uK rfl rfl rfl rfl rfl rfl rfl (by first | rfl | omega) rfl x1 ?_
 rintro b1 i1 c1 r1 A1
 (refine bX (k:=0) tab 12 A1 uC uK uK rfl rfl rfl rfl rfl rfl rfl ?_)
 refine bV tab uC uK [14] uK rfl ?_
 refine bY tab rTree 15 2 h4 uC uK uK rfl rfl rfl rfl rfl rfl rfl (by first | rfl | omega) rfl x2 ?_
 rintro b2 i2 c2 r2 A2
 (refine bX (k:=0) tab 16 A2 uC uK uK rfl rfl rfl rfl rfl rfl rfl ?_)
 refine DO.bag [71,74,79,83] rfl 18 [⟨0,67,spStrs [([102,117,110,99] : Str),([40] : Str)],[]⟩,⟨1,68,spStrs ([([102,117,110,99] : Str),([40] : Str)]),[0]⟩,⟨5,72,spStrs (rtk (ks[0])),[]⟩,⟨8,75,spStrs [([41] : Str),n0],[]⟩,⟨9,76,spStrs ([([41] : Str),n0]),[8]⟩,⟨13,80,spStrs (rtk (ks[1])),[]⟩,⟨17,84,spStrs (rtk (ks[2])),[]⟩,⟨18,85,spStrss [[([102,117,110,99] : Str),([40] : Str)],rtk (ks[0]),[([41] : Str),n0],rtk (ks[1]),rtk (ks[2])],[1,5,9,13,17]⟩] [18] 2 uK uK rfl rfl ?_ ?_
 ·refine ⟨bLit,bOne,(bKid (hk _ (aB _)) r0),bLit,bOne,(bKid (hk _ (aB _)) r1),(bKid (hk _ (aB _)) r2),⟨_,rfl,fun mA hmA rest => ?_⟩,trivial⟩
  refine cG rfl fun v hv => ?_
  obtain ⟨s0,rfl,hs0⟩:=hv
  refine cG rfl fun v hv => ?_
  obtain ⟨s1,rfl,hs1⟩:=hv
  refine cG rfl fun v hv => ?_
  obtain ⟨s2,rfl,hs2⟩:=hv
  refine cG rfl fun v hv => ?_
  obtain ⟨s3,rfl,hs3⟩:=hv
  refine cG rfl fun v hv => ?_
  obtain ⟨s4,rfl,hs4⟩:=hv
  exact cF (bLL (hs:=[s0,s1,s2,s3,s4]) (E:=[[([102,117,110,99] : Str),([40] : Str)],rtk (ks[0]),[([41] : Str),n0],rtk (ks[1]),rtk (ks[2])]) ⟨hs0,hs1,hs2,hs3,hs4,trivial⟩)
 ·intro m1 hm1 rest
  refine cG rfl fun v hv => ?_
  obtain ⟨sz,rfl,hsz⟩:=hv
  refine cF ?_
  refine bZ 19 rfl rfl uK rfl (bM rfl rfl rfl rfl rfl rfl goes80 ((cI _ _ sz _ hsz (by rw [show List.flatten _=rtk (.mk 5 n0 u0 ks) from by (show List.flatten _=(Pt.toks (.mk 5 n0 u0 ks)).map txt);rw [et];simp [rtk,txt,cJ,cK]];rw [cE];exact hl)).x ?_))
  rintro _ m2 _ ⟨hm2,s2,rfl,hs2,ho2,rfl⟩
  refine ⟨hm2,_,permB, ?_⟩
  refine bV tab (by repeat (first|exact bU|refine bS ?_|refine bT ?_)) uK [20] uK rfl ?_
  refine cb uK ?_
  refine uA ?_
  refine bu rfl (L':=tok s2 1 :: L) uS ⟨bn hm1 hm2,s2,rfl, ?_,ho2,rfl⟩
  rw [rtk,et]
  simpa [rtk,txt,cJ,cK] using hs2
theorem tk_7 (n0 : Str) (u0 : Int) (ks : List Tree) (hok : OkK 7 u0 ks.length n0.length) (hk : ∀ t ∈ ks,TkCall t) (hl : (Pt.toks (.mk 7 n0 u0 ks)).length ≤ 1000000) (m : Mem) (L : List Item) (h : HTree) (hr : TreeRep m h (.mk 7 n0 u0 ks)) :
  TCall Tryz.prog 44 ⟨[treeV h]⟩ m L (TkO m L (rtk (.mk 7 n0 u0 ks))):=by
 obtain ⟨-,k1,k2,k3,k4,k5,k6,k7⟩:=hok
 obtain ⟨hkd,hn,hu,hks⟩:=h
 obtain ⟨h1,h2,h3,h4⟩:=hr
 simp only [Tree.kind,Tree.name,Tree.num,Tree.kids] at h1 h2 h3 h4
 replace h2:=h2.symm
 replace h3:=h3.symm
 subst h1 h2 h3
 have hlen:=h4.len
 have hsm:=h4.small rfl
 have hm:=bm m
 replace k4:=k4 (by decide)
 have et : Pt.toks (.mk 7 n0 u0 ks)=Pt.mk [40] :: (commaJ ((ks.take u0.toNat).map Pt.toks)++Pt.mk [41] :: resJ ((ks.drop u0.toNat).map Pt.toks)):=by rw [toks_eq];simp only [List.map_take,List.map_drop];rfl
 have hl2:=hl
 rw [et] at hl2
 try simp only [aa,ab,ae] at hl2
 unfold TCall
 refine bw Tryz.func44 rfl 156 rfl ?_
 refine uA ?_
 refine oB (fun b => ?_)
 refine uL ?_
 refine bQ [] cr 17 rfl [.cells b 0 (treeC ⟨7,n0,u0,hks⟩)] L uP ?_
 refine bV tab uC uK [2,3] uK rfl ?_
 (refine bW tab 4 0 uC uK uK rfl rfl rfl rfl rfl rfl rfl rfl ?_)
 refine bV tab uC uK [9,10] uK rfl ?_
 (refine bW tab 11 0 uC uK uK rfl rfl rfl rfl rfl rfl rfl rfl ?_)
 refine DO.bag [91,93,98,100] rfl 14 [⟨0,89,spStrs [([40] : Str)],[]⟩,⟨1,90,spStrs ([([40] : Str)]),[0]⟩,⟨5,94,spNodes (ks.take u0.toNat),[]⟩,⟨6,95,spStrs ((commaJ ((ks.take u0.toNat).map Pt.toks)).map txt),[5]⟩,⟨7,96,spStrs [([41] : Str)],[]⟩,⟨8,97,spStrs ([([41] : Str)]),[7]⟩,⟨12,101,spNodes (ks.drop u0.toNat),[]⟩,⟨13,102,spStrs ((resJ ((ks.drop u0.toNat).map Pt.toks)).map txt),[12]⟩,⟨14,103,spStrss [[([40] : Str)],(commaJ ((ks.take u0.toNat).map Pt.toks)).map txt,[([41] : Str)],(resJ ((ks.drop u0.toNat).map Pt.toks)).map txt],[1,6,8,13]⟩] [14] 2 uK uK rfl rfl ?_ ?_
 ·refine ⟨bLit,bOne,(bCut (lo:=0) (hi:=u0.toNat) h4 0 u0.toNat rfl (.inl ⟨rfl,rfl⟩) (.inr (by rw [Int.toNat_of_nonneg k4.1])) (aU _) (by omega)),(bRow goes82 (fun m L s hs=>row_law (ks.take u0.toNat) (fun t ht=>hk t (ba ht)) m L s hs (by omega))),bLit,bOne,(bCut (lo:=u0.toNat) (hi:=ks.length) h4 u0.toNat ks.length (by rw [List.take_length]) (.inr (by rw [Int.toNat_of_nonneg k4.1])) (.inl ⟨rfl,hlen.symm⟩) (by omega) (av _)),(bRow goes83 (fun m L s hs=>results_law (ks.drop u0.toNat) (fun t ht=>hk t (List.mem_of_mem_drop ht)) m L s hs (by omega))),⟨_,rfl,fun mA hmA rest => ?_⟩,trivial⟩
  refine cG rfl fun v hv => ?_
  obtain ⟨s0,rfl,hs0⟩:=hv
  refine cG rfl fun v hv => ?_
  obtain ⟨s1,rfl,hs1⟩:=hv
  refine cG rfl fun v hv => ?_
  obtain ⟨s2,rfl,hs2⟩:=hv
  refine cG rfl fun v hv => ?_
  obtain ⟨s3,rfl,hs3⟩:=hv
  exact cF (bLL (hs:=[s0,s1,s2,s3]) (E:=[[([40] : Str)],(commaJ ((ks.take u0.toNat).map Pt.toks)).map txt,[([41] : Str)],(resJ ((ks.drop u0.toNat).map Pt.toks)).map txt]) ⟨hs0,hs1,hs2,hs3,trivial⟩)
 ·intro m1 hm1 rest
  refine cG rfl fun v hv => ?_
  obtain ⟨sz,rfl,hsz⟩:=hv
  refine cF ?_
  refine bZ 15 rfl rfl uK rfl (bM rfl rfl rfl rfl rfl rfl goes80 ((cI _ _ sz _ hsz (by rw [show List.flatten _=rtk (.mk 7 n0 u0 ks) from by (show List.flatten _=(Pt.toks (.mk 7 n0 u0 ks)).map txt);rw [et];simp [rtk,txt,cJ,cK]];rw [cE];exact hl)).x ?_))
  rintro _ m2 _ ⟨hm2,s2,rfl,hs2,ho2,rfl⟩
  refine ⟨hm2,_,permB, ?_⟩
  refine bV tab (by repeat (first|exact bU|refine bS ?_|refine bT ?_)) uK [16] uK rfl ?_
  refine cb uK ?_
  refine uA ?_
  refine bu rfl (L':=tok s2 1 :: L) uS ⟨bn hm1 hm2,s2,rfl, ?_,ho2,rfl⟩
  rw [rtk,et]
  simpa [rtk,txt,cJ,cK] using hs2
theorem tk_10 (n0 : Str) (u0 : Int) (ks : List Tree) (hok : OkK 10 u0 ks.length n0.length) (hk : ∀ t ∈ ks,TkCall t) (hl : (Pt.toks (.mk 10 n0 u0 ks)).length ≤ 1000000) (m : Mem) (L : List Item) (h : HTree) (hr : TreeRep m h (.mk 10 n0 u0 ks)) :
  TCall Tryz.prog 44 ⟨[treeV h]⟩ m L (TkO m L (rtk (.mk 10 n0 u0 ks))):=by
 obtain ⟨-,k1,k2,k3,k4,k5,k6,k7⟩:=hok
 obtain ⟨hkd,hn,hu,hks⟩:=h
 obtain ⟨h1,h2,h3,h4⟩:=hr
 simp only [Tree.kind,Tree.name,Tree.num,Tree.kids] at h1 h2 h3 h4
 replace h2:=h2.symm
 replace h3:=h3.symm
 subst h1 h2 h3
 have hlen:=h4.len
 have hsm:=h4.small rfl
 have hm:=bm m
 have et : Pt.toks (.mk 10 n0 u0 ks)=[nm n0]:=by rw [toks_eq];rfl
 have hl2:=hl
 rw [et] at hl2
 try simp only [aa,ab,ae] at hl2
 unfold TCall
 refine bw Tryz.func44 rfl 156 rfl ?_
 refine uA ?_
 refine oB (fun b => ?_)
 refine uL ?_
 refine qs rfl (cq tab rStr (hs:=[n0]) (l:=[n0]) ⟨rfl,trivial⟩ rfl rfl rfl rfl rfl (by decide) (fun s1 ma hma hs1 ho1 hc1 => ?_))
 replace hm:=bn hm hma
 replace h4:=h4.mono hma
 refine uL ?_
 refine oC goes81 ((cH _ _ s1).x ?_);
 rintro _ _ _ ⟨rfl,rfl,rfl⟩
 refine TO.tokFo hc1 ho1 1 ?_
 refine uL ?_
 refine bu rfl (L':=tok s1 1 :: L) uS ⟨hm,s1,rfl, ?_,ho1,rfl⟩
 rw [rtk,et]
 simpa [rtk,txt] using hs1
theorem tk_11 (n0 : Str) (u0 : Int) (ks : List Tree) (hok : OkK 11 u0 ks.length n0.length) (hk : ∀ t ∈ ks,TkCall t) (hl : (Pt.toks (.mk 11 n0 u0 ks)).length ≤ 1000000) (m : Mem) (L : List Item) (h : HTree) (hr : TreeRep m h (.mk 11 n0 u0 ks)) :
  TCall Tryz.prog 44 ⟨[treeV h]⟩ m L (TkO m L (rtk (.mk 11 n0 u0 ks))):=by
 obtain ⟨-,k1,k2,k3,k4,k5,k6,k7⟩:=hok
 obtain ⟨hkd,hn,hu,hks⟩:=h
 obtain ⟨h1,h2,h3,h4⟩:=hr
 simp only [Tree.kind,Tree.name,Tree.num,Tree.kids] at h1 h2 h3 h4
 replace h2:=h2.symm
 replace h3:=h3.symm
 subst h1 h2 h3
 have hlen:=h4.len
 have hsm:=h4.small rfl
 have hm:=bm m
 have n1 : 1 ≤ ks.length:=k1 (by decide)
 have x0 : ks[0]? = some ks[0]:=ak (by omega)
 have et : Pt.toks (.mk 11 n0 u0 ks)=Pt.mk [42] :: nth (ks.map Pt.toks) 0:=by rw [toks_eq];rfl
 have y0 : nth (ks.map Pt.toks) 0=Pt.toks ks[0]:=nth_map ks 0 (by omega)
 rw [y0] at et
 have hl2:=hl
 rw [et] at hl2
 try simp only [aa,ab,ae] at hl2
 unfold TCall
 refine bw Tryz.func44 rfl 156 rfl ?_
 refine uA ?_
 refine oB (fun b => ?_)
 refine uL ?_
 refine bQ [] cr 9 rfl [.cells b 0 (treeC ⟨11,n0,u0,hks⟩)] L uP ?_
 refine bV tab uC uK [2] uK rfl ?_
 refine bY tab rTree 3 0 h4 uC uK uK rfl rfl rfl rfl rfl rfl rfl (by first | rfl | omega) rfl x0 ?_
 rintro b0 i0 c0 r0 A0
 (refine bX (k:=0) tab 4 A0 uC uK uK rfl rfl rfl rfl rfl rfl rfl ?_)
 refine DO.bag [117] rfl 6 [⟨0,113,spStrs [([42] : Str)],[]⟩,⟨1,114,spStrs ([([42] : Str)]),[0]⟩,⟨5,118,spStrs (rtk (ks[0])),[]⟩,⟨6,119,spStrss [[([42] : Str)],rtk (ks[0])],[1,5]⟩] [6] 2 uK uK rfl rfl ?_ ?_
 ·refine ⟨bLit,bOne,(bKid (hk _ (aB _)) r0),⟨_,rfl,fun mA hmA rest => ?_⟩,trivial⟩
  refine cG rfl fun v hv => ?_
  obtain ⟨s0,rfl,hs0⟩:=hv
  refine cG rfl fun v hv => ?_
  obtain ⟨s1,rfl,hs1⟩:=hv
  exact cF (bLL (hs:=[s0,s1]) (E:=[[([42] : Str)],rtk (ks[0])]) ⟨hs0,hs1,trivial⟩)
 ·intro m1 hm1 rest
  refine cG rfl fun v hv => ?_
  obtain ⟨sz,rfl,hsz⟩:=hv
  refine cF ?_
  refine bZ 7 rfl rfl uK rfl (bM rfl rfl rfl rfl rfl rfl goes80 ((cI _ _ sz _ hsz (by rw [show List.flatten _=rtk (.mk 11 n0 u0 ks) from by (show List.flatten _=(Pt.toks (.mk 11 n0 u0 ks)).map txt);rw [et];simp [rtk,txt,cJ,cK]];rw [cE];exact hl)).x ?_))
  rintro _ m2 _ ⟨hm2,s2,rfl,hs2,ho2,rfl⟩
  refine ⟨hm2,_,permB, ?_⟩
  refine bV tab (by repeat (first|exact bU|refine bS ?_|refine bT ?_)) uK [8] uK rfl ?_
  refine cb uK ?_
  refine uA ?_
  refine bu rfl (L':=tok s2 1 :: L) uS ⟨bn hm1 hm2,s2,rfl, ?_,ho2,rfl⟩
  rw [rtk,et]
  simpa [rtk,txt,cJ,cK] using hs2
theorem tk_12 (n0 : Str) (u0 : Int) (ks : List Tree) (hok : OkK 12 u0 ks.length n0.length) (hk : ∀ t ∈ ks,TkCall t) (hl : (Pt.toks (.mk 12 n0 u0 ks)).length ≤ 1000000) (m : Mem) (L : List Item) (h : HTree) (hr : TreeRep m h (.mk 12 n0 u0 ks)) :
  TCall Tryz.prog 44 ⟨[treeV h]⟩ m L (TkO m L (rtk (.mk 12 n0 u0 ks))):=by
 obtain ⟨-,k1,k2,k3,k4,k5,k6,k7⟩:=hok
 obtain ⟨hkd,hn,hu,hks⟩:=h
 obtain ⟨h1,h2,h3,h4⟩:=hr
 simp only [Tree.kind,Tree.name,Tree.num,Tree.kids] at h1 h2 h3 h4
 replace h2:=h2.symm
 replace h3:=h3.symm
 subst h1 h2 h3
 have hlen:=h4.len
 have hsm:=h4.small rfl
 have hm:=bm m
 have n1 : 1 ≤ ks.length:=k1 (by decide)
 have x0 : ks[0]? = some ks[0]:=ak (by omega)
 have et : Pt.toks (.mk 12 n0 u0 ks)=Pt.mk [91] :: Pt.mk [93] :: nth (ks.map Pt.toks) 0:=by rw [toks_eq];rfl
 have y0 : nth (ks.map Pt.toks) 0=Pt.toks ks[0]:=nth_map ks 0 (by omega)
 rw [y0] at et
 have hl2:=hl
 rw [et] at hl2
 try simp only [aa,ab,ae] at hl2
 unfold TCall
 refine bw Tryz.func44 rfl 156 rfl ?_
 refine uA ?_
 refine oB (fun b => ?_)
 refine uL ?_
 refine bQ [] cr 9 rfl [.cells b 0 (treeC ⟨12,n0,u0,hks⟩)] L uP ?_
 refine bV tab uC uK [2] uK rfl ?_
 refine bY tab rTree 3 0 h4 uC uK uK rfl rfl rfl rfl rfl rfl rfl (by first | rfl | omega) rfl x0 ?_
 rintro b0 i0 c0 r0 A0
 (refine bX (k:=0) tab 4 A0 uC uK uK rfl rfl rfl rfl rfl rfl rfl ?_)
 refine DO.bag [127] rfl 6 [⟨0,123,spStrs [([91] : Str),([93] : Str)],[]⟩,⟨1,124,spStrs ([([91] : Str),([93] : Str)]),[0]⟩,⟨5,128,spStrs (rtk (ks[0])),[]⟩,⟨6,129,spStrss [[([91] : Str),([93] : Str)],rtk (ks[0])],[1,5]⟩] [6] 2 uK uK rfl rfl ?_ ?_
 ·refine ⟨bLit,bOne,(bKid (hk _ (aB _)) r0),⟨_,rfl,fun mA hmA rest => ?_⟩,trivial⟩
  refine cG rfl fun v hv => ?_
  obtain ⟨s0,rfl,hs0⟩:=hv
  refine cG rfl fun v hv => ?_
  obtain ⟨s1,rfl,hs1⟩:=hv
  exact cF (bLL (hs:=[s0,s1]) (E:=[[([91] : Str),([93] : Str)],rtk (ks[0])]) ⟨hs0,hs1,trivial⟩)
 ·intro m1 hm1 rest
  refine cG rfl fun v hv => ?_
  obtain ⟨sz,rfl,hsz⟩:=hv
  refine cF ?_
  refine bZ 7 rfl rfl uK rfl (bM rfl rfl rfl rfl rfl rfl goes80 ((cI _ _ sz _ hsz (by rw [show List.flatten _=rtk (.mk 12 n0 u0 ks) from by (show List.flatten _=(Pt.toks (.mk 12 n0 u0 ks)).map txt);rw [et];simp [rtk,txt,cJ,cK]];rw [cE];exact hl)).x ?_))
  rintro _ m2 _ ⟨hm2,s2,rfl,hs2,ho2,rfl⟩
  refine ⟨hm2,_,permB, ?_⟩
  refine bV tab (by repeat (first|exact bU|refine bS ?_|refine bT ?_)) uK [8] uK rfl ?_
  refine cb uK ?_
  refine uA ?_
  refine bu rfl (L':=tok s2 1 :: L) uS ⟨bn hm1 hm2,s2,rfl, ?_,ho2,rfl⟩
  rw [rtk,et]
  simpa [rtk,txt,cJ,cK] using hs2
theorem tk_13 (n0 : Str) (u0 : Int) (ks : List Tree) (hok : OkK 13 u0 ks.length n0.length) (hk : ∀ t ∈ ks,TkCall t) (hl : (Pt.toks (.mk 13 n0 u0 ks)).length ≤ 1000000) (m : Mem) (L : List Item) (h : HTree) (hr : TreeRep m h (.mk 13 n0 u0 ks)) :
  TCall Tryz.prog 44 ⟨[treeV h]⟩ m L (TkO m L (rtk (.mk 13 n0 u0 ks))):=by
 obtain ⟨-,k1,k2,k3,k4,k5,k6,k7⟩:=hok
 obtain ⟨hkd,hn,hu,hks⟩:=h
 obtain ⟨h1,h2,h3,h4⟩:=hr
 simp only [Tree.kind,Tree.name,Tree.num,Tree.kids] at h1 h2 h3 h4
 replace h2:=h2.symm
 replace h3:=h3.symm
 subst h1 h2 h3
 have hlen:=h4.len
 have hsm:=h4.small rfl
 have hm:=bm m
 replace k4:=k4 (by decide)
 have et : Pt.toks (.mk 13 n0 u0 ks)=wd [102,117,110,99] :: Pt.mk [40] :: (commaJ ((ks.take u0.toNat).map Pt.toks)++Pt.mk [41] :: resJ ((ks.drop u0.toNat).map Pt.toks)):=by rw [toks_eq];simp only [List.map_take,List.map_drop];rfl
 have hl2:=hl
 rw [et] at hl2
 try simp only [aa,ab,ae] at hl2
 unfold TCall
 refine bw Tryz.func44 rfl 156 rfl ?_
 refine uA ?_
 refine oB (fun b => ?_)
 refine uL ?_
 refine bQ [] cr 17 rfl [.cells b 0 (treeC ⟨13,n0,u0,hks⟩)] L uP ?_
 refine bV tab uC uK [2,3] uK rfl ?_
 (refine bW tab 4 0 uC uK uK rfl rfl rfl rfl rfl rfl rfl rfl ?_)
 refine bV tab uC uK [9,10] uK rfl ?_
 (refine bW tab 11 0 uC uK uK rfl rfl rfl rfl rfl rfl rfl rfl ?_)
 refine DO.bag [135,137,142,144] rfl 14 [⟨0,133,spStrs [([102,117,110,99] : Str),([40] : Str)],[]⟩,⟨1,134,spStrs ([([102,117,110,99] : Str),([40] : Str)]),[0]⟩,⟨5,138,spNodes (ks.take u0.toNat),[]⟩,⟨6,139,spStrs ((commaJ ((ks.take u0.toNat).map Pt.toks)).map txt),[5]⟩,⟨7,140,spStrs [([41] : Str)],[]⟩,⟨8,141,spStrs ([([41] : Str)]),[7]⟩,⟨12,145,spNodes (ks.drop u0.toNat),[]⟩,⟨13,146,spStrs ((resJ ((ks.drop u0.toNat).map Pt.toks)).map txt),[12]⟩,⟨14,147,spStrss [[([102,117,110,99] : Str),([40] : Str)],(commaJ ((ks.take u0.toNat).map Pt.toks)).map txt,[([41] : Str)],(resJ ((ks.drop u0.toNat).map Pt.toks)).map txt],[1,6,8,13]⟩] [14] 2 uK uK rfl rfl ?_ ?_
 ·refine ⟨bLit,bOne,(bCut (lo:=0) (hi:=u0.toNat) h4 0 u0.toNat rfl (.inl ⟨rfl,rfl⟩) (.inr (by rw [Int.toNat_of_nonneg k4.1])) (aU _) (by omega)),(bRow goes82 (fun m L s hs=>row_law (ks.take u0.toNat) (fun t ht=>hk t (ba ht)) m L s hs (by omega))),bLit,bOne,(bCut (lo:=u0.toNat) (hi:=ks.length) h4 u0.toNat ks.length (by rw [List.take_length]) (.inr (by rw [Int.toNat_of_nonneg k4.1])) (.inl ⟨rfl,hlen.symm⟩) (by omega) (av _)),(bRow goes83 (fun m L s hs=>results_law (ks.drop u0.toNat) (fun t ht=>hk t (List.mem_of_mem_drop ht)) m L s hs (by omega))),⟨_,rfl,fun mA hmA rest => ?_⟩,trivial⟩
  refine cG rfl fun v hv => ?_
  obtain ⟨s0,rfl,hs0⟩:=hv
  refine cG rfl fun v hv => ?_
  obtain ⟨s1,rfl,hs1⟩:=hv
  refine cG rfl fun v hv => ?_
  obtain ⟨s2,rfl,hs2⟩:=hv
  refine cG rfl fun v hv => ?_
  obtain ⟨s3,rfl,hs3⟩:=hv
  exact cF (bLL (hs:=[s0,s1,s2,s3]) (E:=[[([102,117,110,99] : Str),([40] : Str)],(commaJ ((ks.take u0.toNat).map Pt.toks)).map txt,[([41] : Str)],(resJ ((ks.drop u0.toNat).map Pt.toks)).map txt]) ⟨hs0,hs1,hs2,hs3,trivial⟩)
 ·intro m1 hm1 rest
  refine cG rfl fun v hv => ?_
  obtain ⟨sz,rfl,hsz⟩:=hv
  refine cF ?_
  refine bZ 15 rfl rfl uK rfl (bM rfl rfl rfl rfl rfl rfl goes80 ((cI _ _ sz _ hsz (by rw [show List.flatten _=rtk (.mk 13 n0 u0 ks) from by (show List.flatten _=(Pt.toks (.mk 13 n0 u0 ks)).map txt);rw [et];simp [rtk,txt,cJ,cK]];rw [cE];exact hl)).x ?_))
  rintro _ m2 _ ⟨hm2,s2,rfl,hs2,ho2,rfl⟩
  refine ⟨hm2,_,permB, ?_⟩
  refine bV tab (by repeat (first|exact bU|refine bS ?_|refine bT ?_)) uK [16] uK rfl ?_
  refine cb uK ?_
  refine uA ?_
  refine bu rfl (L':=tok s2 1 :: L) uS ⟨bn hm1 hm2,s2,rfl, ?_,ho2,rfl⟩
  rw [rtk,et]
  simpa [rtk,txt,cJ,cK] using hs2
theorem tk_st (a : Tree) (hlo : 20 ≤ a.kind) (hhi : a.kind ≤ 39) (he : ∀ (m : Mem) (L : List Item) (h : HTree),TreeRep m h a→TCall Tryz.prog 84 ⟨[treeV h]⟩ m L (TkO m L (rtk a))) : TkCall a:=by
 intro m L h hr
 have h1 : h.kind=a.kind:=hr.1
 unfold TCall
 refine bw Tryz.func44 rfl 156 rfl ?_
 refine uA ?_
 refine oB (fun b => ?_)
 refine uL ?_
 refine bq rfl (fun c0 => ?_) (fun c0 => ?_)
 ·exfalso;omega
 refine uL ?_
 refine bq rfl (fun c1 => ?_) (fun c1 => ?_)
 ·exfalso;omega
 refine uL ?_
 refine bq rfl (fun c2 => ?_) (fun c2 => ?_)
 ·exfalso;omega
 refine uL ?_
 refine bq rfl (fun c3 => ?_) (fun c3 => ?_)
 ·exfalso;omega
 refine uL ?_
 refine bq rfl (fun c4 => ?_) (fun c4 => ?_)
 ·exfalso;omega
 refine uL ?_
 refine bq rfl (fun c5 => ?_) (fun c5 => ?_)
 ·exfalso;omega
 refine uL ?_
 refine bq rfl (fun c6 => ?_) (fun c6 => ?_)
 ·exfalso;omega
 refine uL ?_
 refine bq rfl (fun c7 => ?_) (fun c7 => ?_)
 ·exfalso;omega
 refine uL ?_
 refine bq rfl (fun c8 => ?_) (fun c8 => ?_)
 ·exfalso;omega
 refine uL ?_
 refine bq rfl (fun c9 => ?_) (fun c9 => ?_)
 ·exfalso;omega
 refine uL ?_
 refine bq rfl (fun c10 => ?_) (fun c10 => ?_)
 ·exfalso;omega
 refine uL ?_
 refine bq rfl (fun c11 => ?_) (fun c11 => ?_)
 ·exfalso;omega
 refine uL ?_
 refine bq rfl (fun c12 => ?_) (fun c12 => ?_)
 ·refine uL ?_
  refine oC goes84 ((he _ _ h hr).x ?_);
  rintro _ m2 _ ⟨hm2,s2,rfl,hs2,ho2,rfl⟩
  refine uA ?_
  exact bu rfl (L':=tok s2 1 :: L) uS ⟨hm2,s2,rfl,hs2,ho2,rfl⟩
 ·exfalso;omega
theorem tk_ex (a : Tree) (hlo : 40 ≤ a.kind) (hhi : a.kind ≤ 100) (he : ∀ (m : Mem) (L : List Item) (h : HTree),TreeRep m h a→TCall Tryz.prog 85 ⟨[treeV h]⟩ m L (TkO m L (rtk a))) : TkCall a:=by
 intro m L h hr
 have h1 : h.kind=a.kind:=hr.1
 unfold TCall
 refine bw Tryz.func44 rfl 156 rfl ?_
 refine uA ?_
 refine oB (fun b => ?_)
 refine uL ?_
 refine bq rfl (fun c0 => ?_) (fun c0 => ?_)
 ·exfalso;omega
 refine uL ?_
 refine bq rfl (fun c1 => ?_) (fun c1 => ?_)
 ·exfalso;omega
 refine uL ?_
 refine bq rfl (fun c2 => ?_) (fun c2 => ?_)
 ·exfalso;omega
 refine uL ?_
 refine bq rfl (fun c3 => ?_) (fun c3 => ?_)
 ·exfalso;omega
 refine uL ?_
 refine bq rfl (fun c4 => ?_) (fun c4 => ?_)
 ·exfalso;omega
 refine uL ?_
 refine bq rfl (fun c5 => ?_) (fun c5 => ?_)
 ·exfalso;omega
 refine uL ?_
 refine bq rfl (fun c6 => ?_) (fun c6 => ?_)
 ·exfalso;omega
 refine uL ?_
 refine bq rfl (fun c7 => ?_) (fun c7 => ?_)
 ·exfalso;omega
 refine uL ?_
 refine bq rfl (fun c8 => ?_) (fun c8 => ?_)
 ·exfalso;omega
 refine uL ?_
 refine bq rfl (fun c9 => ?_) (fun c9 => ?_)
 ·exfalso;omega
 refine uL ?_
 refine bq rfl (fun c10 => ?_) (fun c10 => ?_)
 ·exfalso;omega
 refine uL ?_
 refine bq rfl (fun c11 => ?_) (fun c11 => ?_)
 ·exfalso;omega
 refine uL ?_
 refine bq rfl (fun c12 => ?_) (fun c12 => ?_)
 ·exfalso;omega
 refine uL ?_
 refine oC goes85 ((he _ _ h hr).x ?_);
 rintro _ m2 _ ⟨hm2,s2,rfl,hs2,ho2,rfl⟩
 refine uA ?_
 exact bu rfl (L':=tok s2 1 :: L) uS ⟨hm2,s2,rfl,hs2,ho2,rfl⟩
theorem tokens_all (a : Tree) : OkR a→Pt.numB2 a=true→a.size ≤ 100000→TkCall a:=by
 induction a using Tree.ind with
 | h a ih =>
 intro hR hn hsz
 have hlen : (Pt.toks a).length ≤ 1000000:=by have:=toks_len a hR;omega
 have hk : ∀ t ∈ a.kids,TkCall t:=fun t ht=>ih t ht (hR.kid ht) (Pt.num_kid hn ht) (by have:=kid_size ht;omega)
 have hok:=hR.ok
 have hnum:=hn
 obtain ⟨k,n0,u0,ks⟩:=a
 simp only [Tree.kind,Tree.name,Tree.num,Tree.kids] at hk hok
 have h0:=hok.1
 have hcases : k=1 ∨ k=2 ∨ k=3 ∨ k=4 ∨ k=5 ∨ k=6 ∨ k=7 ∨ k=8 ∨ k=10 ∨ k=11 ∨ k=12 ∨ k=13 ∨ k=20 ∨ k=21 ∨ k=22 ∨ k=23 ∨ k=24 ∨ k=25 ∨ k=26 ∨ k=27 ∨ k=28 ∨ k=29 ∨
  k=40 ∨ k=41 ∨ k=42 ∨ k=43 ∨ k=44 ∨ k=45 ∨ k=46 ∨ k=47 ∨ k=48 ∨ k=49 ∨ k=50 ∨ k=51 ∨ k=52 ∨ k=53:=by omega
 rcases hcases with rfl | rfl | rfl | rfl | rfl | rfl | rfl | rfl | rfl | rfl | rfl | rfl | rfl | rfl | rfl | rfl | rfl | rfl | rfl | rfl | rfl | rfl | rfl | rfl | rfl | rfl | rfl | rfl | rfl | rfl | rfl | rfl | rfl | rfl | rfl | rfl
 ·exact fun m L h hr=>tk_1 n0 u0 ks hok hk hlen m L h hr
 ·exact fun m L h hr=>tk_2 n0 u0 ks hok hk hlen m L h hr
 ·exact fun m L h hr=>tk_3 n0 u0 ks hok hk hlen m L h hr
 ·exact fun m L h hr=>tk_4 n0 u0 ks hok hk hlen m L h hr
 ·exact fun m L h hr=>tk_5 n0 u0 ks hok hk hlen m L h hr
 ·exact fun m L h hr=>tk_6 n0 u0 ks hok hk hlen m L h hr
 ·exact fun m L h hr=>tk_7 n0 u0 ks hok hk hlen m L h hr
 ·exact fun m L h hr=>tk_8 n0 u0 ks hok hk hlen m L h hr
 ·exact fun m L h hr=>tk_10 n0 u0 ks hok hk hlen m L h hr
 ·exact fun m L h hr=>tk_11 n0 u0 ks hok hk hlen m L h hr
 ·exact fun m L h hr=>tk_12 n0 u0 ks hok hk hlen m L h hr
 ·exact fun m L h hr=>tk_13 n0 u0 ks hok hk hlen m L h hr
 ·exact tk_st _ (by show (20 : Int) ≤ 20;decide) (by show (20 : Int) ≤ 39;decide) fun m L h hr=>st_20 n0 u0 ks hok hk hlen m L h hr
 ·refine tk_st _ (by show (20 : Int) ≤ 21;decide) (by show (21 : Int) ≤ 39;decide) fun m L h hr => ?_
  by_cases hv : ks.length=2
  ·exact st_21n2 n0 u0 ks hok hv hk hlen m L h hr
  ·exact st_21n1 n0 u0 ks hok hv (hok.2.1 (by decide)) hk hlen m L h hr
 ·exact tk_st _ (by show (20 : Int) ≤ 22;decide) (by show (22 : Int) ≤ 39;decide) fun m L h hr=>st_22 n0 u0 ks hok hk hlen m L h hr
 ·exact tk_st _ (by show (20 : Int) ≤ 23;decide) (by show (23 : Int) ≤ 39;decide) fun m L h hr=>st_23 n0 u0 ks hok hk hlen m L h hr
 ·exact tk_st _ (by show (20 : Int) ≤ 24;decide) (by show (24 : Int) ≤ 39;decide) fun m L h hr=>st_24 n0 u0 ks hok hk hlen m L h hr
 ·refine tk_st _ (by show (20 : Int) ≤ 25;decide) (by show (25 : Int) ≤ 39;decide) fun m L h hr => ?_
  by_cases hv : ks.length=3
  ·exact st_25n3 n0 u0 ks hok hv hk hlen m L h hr
  ·exact st_25n2 n0 u0 ks hok hv hk hlen m L h hr
 ·exact tk_st _ (by show (20 : Int) ≤ 26;decide) (by show (26 : Int) ≤ 39;decide) fun m L h hr=>st_26 n0 u0 ks hok hk hlen m L h hr
 ·exact tk_st _ (by show (20 : Int) ≤ 27;decide) (by show (27 : Int) ≤ 39;decide) fun m L h hr=>st_27 n0 u0 ks hok hk hlen m L h hr
 ·exact tk_st _ (by show (20 : Int) ≤ 28;decide) (by show (28 : Int) ≤ 39;decide) fun m L h hr=>st_28 n0 u0 ks hok hk hlen m L h hr
 ·exact tk_st _ (by show (20 : Int) ≤ 29;decide) (by show (29 : Int) ≤ 39;decide) fun m L h hr=>st_29 n0 u0 ks hok hk hlen m L h hr
 ·exact tk_ex _ (by show (40 : Int) ≤ 40;decide) (by show (40 : Int) ≤ 100;decide) fun m L h hr=>ex_40 n0 u0 ks hok hk hlen (Pt.num_int hnum) m L h hr
 ·exact tk_ex _ (by show (40 : Int) ≤ 41;decide) (by show (41 : Int) ≤ 100;decide) fun m L h hr=>ex_41 n0 u0 ks hok hk hlen m L h hr
 ·exact tk_ex _ (by show (40 : Int) ≤ 42;decide) (by show (42 : Int) ≤ 100;decide) fun m L h hr=>ex_42 n0 u0 ks hok hk hlen m L h hr
 ·exact tk_ex _ (by show (40 : Int) ≤ 43;decide) (by show (43 : Int) ≤ 100;decide) fun m L h hr=>ex_43 n0 u0 ks hok hk hlen m L h hr
 ·exact tk_ex _ (by show (40 : Int) ≤ 44;decide) (by show (44 : Int) ≤ 100;decide) fun m L h hr=>ex_44 n0 u0 ks hok hk hlen m L h hr
 ·exact tk_ex _ (by show (40 : Int) ≤ 45;decide) (by show (45 : Int) ≤ 100;decide) fun m L h hr=>ex_45 n0 u0 ks hok hk hlen m L h hr
 ·exact tk_ex _ (by show (40 : Int) ≤ 46;decide) (by show (46 : Int) ≤ 100;decide) fun m L h hr=>ex_46 n0 u0 ks hok hk hlen m L h hr
 ·exact tk_ex _ (by show (40 : Int) ≤ 47;decide) (by show (47 : Int) ≤ 100;decide) fun m L h hr=>ex_47 n0 u0 ks hok hk hlen m L h hr
 ·exact tk_ex _ (by show (40 : Int) ≤ 48;decide) (by show (48 : Int) ≤ 100;decide) fun m L h hr=>ex_48 n0 u0 ks hok hk hlen m L h hr
 ·exact tk_ex _ (by show (40 : Int) ≤ 49;decide) (by show (49 : Int) ≤ 100;decide) fun m L h hr=>ex_49 n0 u0 ks hok hk hlen m L h hr
 ·refine tk_ex _ (by show (40 : Int) ≤ 50;decide) (by show (50 : Int) ≤ 100;decide) fun m L h hr => ?_
  rcases hok.2.2.2.2.2.1 rfl with ⟨rfl,hv⟩ | ⟨rfl,hv⟩ | ⟨rfl,hv⟩ | ⟨rfl,hv⟩
  ·exact ex_50u0 n0 ks hok hv hk hlen m L h hr
  ·exact ex_50u1 n0 ks hok hv hk hlen m L h hr
  ·exact ex_50u2 n0 ks hok hv hk hlen m L h hr
  ·exact ex_50u3 n0 ks hok hv hk hlen m L h hr
 ·exact tk_ex _ (by show (40 : Int) ≤ 51;decide) (by show (51 : Int) ≤ 100;decide) fun m L h hr=>ex_51 n0 u0 ks hok hk hlen m L h hr
 ·exact tk_ex _ (by show (40 : Int) ≤ 52;decide) (by show (52 : Int) ≤ 100;decide) fun m L h hr=>ex_52 n0 u0 ks hok hk hlen m L h hr
 ·exact tk_ex _ (by show (40 : Int) ≤ 53;decide) (by show (53 : Int) ≤ 100;decide) fun m L h hr=>ex_53 n0 u0 ks hok hk hlen m L h hr
end Go.Sep


/- PrShS -/
namespace Go.Sep
open Go.Proofs
attribute [local irreducible] TC TO OT TCallX TCall DO DOt thenQ blockQ retQ At
theorem statement_ref (lv : Str→Nat) (a : Tree) (m : Mem) (L : List Item) (h : HTree) (hr : TreeRep m h a) :
  TCall Tryz.prog 158 ⟨[treeV h]⟩ m L (ShapeIs m L (shStmt lv a)):=by
 have hr':=hr
 obtain ⟨h1,h2,h3,h4⟩:=hr
 have hl:=h4.len
 have hsm:=h4.small rfl
 unfold shStmt TCall
 refine bw Tryz.func158 rfl 68 rfl ?_
 by_cases hk20 : a.kind=20
 ·rw [if_pos hk20]
  obtain ⟨k,n,u,s⟩:=h
  obtain rfl : k=20:=h1.trans hk20
  simp only at h2 h3 h4 hl
  subst h2
  subst h3
  refine uA ?_
  refine oB (fun b => ?_)
  refine uL ?_
  exact bu rfl uS ⟨bm _,rfl,⟨none,0,0⟩,rfl,bN _ _⟩
 rw [if_neg hk20]
 by_cases hk21 : a.kind=21
 ·rw [if_pos hk21]
  obtain ⟨k,n,u,s⟩:=h
  obtain rfl : k=21:=h1.trans hk21
  simp only at h2 h3 h4 hl
  subst h2
  subst h3
  refine uA ?_
  refine oB (fun b => ?_)
  refine uL ?_
  refine bq rfl (fun h5 => ?_) (fun h5 => ?_)
  ·simp only at h5
   rw [if_pos (show a.kids.length=1 by omega)]
   refine uL ?_
   refine qs rfl (cq tab rInt (hs:=[2]) (l:=[2]) ⟨rfl,trivial⟩ rfl rfl rfl rfl rfl (by decide) (fun s1 m1 hm1 hs1 _ _ => ?_))
   refine uA ?_
   exact bu rfl uS ⟨hm1,rfl,s1,rfl,hs1⟩
  ·simp only at h5
   rw [if_neg (show ¬ a.kids.length=1 by omega)]
   refine uL ?_
   refine qs rfl (cq tab rInt (hs:=[2,7]) (l:=[2,7]) ⟨rfl,rfl,trivial⟩ rfl rfl rfl rfl rfl (by decide) (fun s1 m1 hm1 hs1 _ _ => ?_))
   refine uA ?_
   exact bu rfl uS ⟨hm1,rfl,s1,rfl,hs1⟩
 rw [if_neg hk21]
 by_cases hk22 : a.kind=22
 ·rw [if_pos hk22]
  obtain ⟨k,n,u,s⟩:=h
  obtain rfl : k=22:=h1.trans hk22
  simp only at h2 h3 h4 hl
  subst h2
  subst h3
  refine uA ?_
  refine oB (fun b => ?_)
  refine uL ?_
  refine bR [] cr 16 rfl ?_
  refine bV tab uC uK [0] uK rfl ?_
  (refine bW tab 1 0 uC uK uK rfl rfl rfl rfl rfl rfl rfl rfl ?_)
  refine bV tab uC uK [3] uK rfl ?_
  (refine bW tab 4 0 uC uK uK rfl rfl rfl rfl rfl rfl rfl rfl ?_)
  refine bV tab uC uK [5] uK rfl ?_
  refine bZ 2 rfl rfl uK rfl (bM rfl rfl rfl rfl rfl rfl goes157 ((repeat_ref _ _ 11 a.num).x ?_))
  rintro _ m1 _ ⟨hm1,rfl,s1,rfl,hs1⟩;refine ⟨hm1,_,af _, ?_⟩
  refine bV tab uC uK [6] uK rfl ?_
  (refine DO.splitP (d:=28) rfl (fun hg6 => ?_) (fun hg6 => ?_))
  refine bV tab uC uK [7] uK rfl ?_
  (refine bW tab 8 0 uC uK uK rfl rfl rfl rfl rfl rfl rfl rfl ?_)
  refine bV tab uC uK [9,10,11,12,13,14,15] uK rfl ?_
  (refine ca uK ?_)
  rotate_left 1
  refine bV tab uC uK [7,8,9,10,11,12,13,14,15] uK rfl ?_
  (refine ca uK ?_)
  rotate_left 1
  ·refine uA ?_
   refine bu rfl uS ⟨hm1,rfl,s1, ?_,hs1⟩
   rw [← hl,aH hg6];rfl
  ·refine uA ?_
   refine bu rfl uS ⟨hm1,rfl,s1, ?_,hs1⟩
   rw [← hl,aI hg6];rfl
 rw [if_neg hk22]
 by_cases hk23 : a.kind=23
 ·rw [if_pos hk23]
  obtain ⟨k,n,u,s⟩:=h
  obtain rfl : k=23:=h1.trans hk23
  simp only at h2 h3 h4 hl
  subst h2
  subst h3
  refine uA ?_
  refine oB (fun b => ?_)
  refine uL ?_
  refine bR [] cr 16 rfl ?_
  refine bV tab uC uK [0] uK rfl ?_
  (refine bW tab 1 0 uC uK uK rfl rfl rfl rfl rfl rfl rfl rfl ?_)
  refine bV tab uC uK [3] uK rfl ?_
  (refine bW tab 4 0 uC uK uK rfl rfl rfl rfl rfl rfl rfl rfl ?_)
  refine bV tab uC uK [5] uK rfl ?_
  refine bZ 2 rfl rfl uK rfl (bM rfl rfl rfl rfl rfl rfl goes157 ((repeat_ref _ _ 10 a.num).x ?_))
  rintro _ m1 _ ⟨hm1,rfl,s1,rfl,hs1⟩;refine ⟨hm1,_,af _, ?_⟩
  refine bV tab uC uK [6] uK rfl ?_
  (refine DO.splitP (d:=42) rfl (fun hg6 => ?_) (fun hg6 => ?_))
  refine bV tab uC uK [7] uK rfl ?_
  (refine bW tab 8 0 uC uK uK rfl rfl rfl rfl rfl rfl rfl rfl ?_)
  refine bV tab uC uK [9,10,11,12,13,14,15] uK rfl ?_
  (refine ca uK ?_)
  rotate_left 1
  refine bV tab uC uK [7,8,9,10,11,12,13,14,15] uK rfl ?_
  (refine ca uK ?_)
  rotate_left 1
  ·refine uA ?_
   refine bu rfl uS ⟨hm1,rfl,s1, ?_,hs1⟩
   rw [← hl,aH hg6];rfl
  ·refine uA ?_
   refine bu rfl uS ⟨hm1,rfl,s1, ?_,hs1⟩
   rw [← hl,aI hg6];rfl
 rw [if_neg hk23]
 by_cases hk24 : a.kind=24
 ·rw [if_pos hk24]
  obtain ⟨k,n,u,s⟩:=h
  obtain rfl : k=24:=h1.trans hk24
  simp only at h2 h3 h4 hl
  subst h2
  subst h3
  refine uA ?_
  refine oB (fun b => ?_)
  refine uL ?_
  refine qs rfl (cq tab rInt (hs:=[12]) (l:=[12]) ⟨rfl,trivial⟩ rfl rfl rfl rfl rfl (by decide) (fun s1 m1 hm1 hs1 _ _ => ?_))
  refine uA ?_
  exact bu rfl uS ⟨hm1,rfl,s1,rfl,hs1⟩
 rw [if_neg hk24]
 by_cases hk25 : a.kind=25
 ·rw [if_pos hk25]
  obtain ⟨k,n,u,s⟩:=h
  obtain rfl : k=25:=h1.trans hk25
  simp only at h2 h3 h4 hl
  subst h2
  subst h3
  refine uA ?_
  refine oB (fun b => ?_)
  refine uL ?_
  refine bq rfl (fun h5 => ?_) (fun h5 => ?_)
  ·simp only at h5
   rw [if_pos (show a.kids.length=2 by omega)]
   refine uL ?_
   refine qs rfl (cq tab rInt (hs:=[7,5]) (l:=[7,5]) ⟨rfl,rfl,trivial⟩ rfl rfl rfl rfl rfl (by decide) (fun s1 m1 hm1 hs1 _ _ => ?_))
   refine uA ?_
   exact bu rfl uS ⟨hm1,rfl,s1,rfl,hs1⟩
  ·simp only at h5
   rw [if_neg (show ¬ a.kids.length=2 by omega)]
   refine uL ?_
   refine qs rfl (cq tab rInt (hs:=[7,5,13]) (l:=[7,5,13]) ⟨rfl,rfl,rfl,trivial⟩ rfl rfl rfl rfl rfl (by decide) (fun s1 m1 hm1 hs1 _ _ => ?_))
   refine uA ?_
   exact bu rfl uS ⟨hm1,rfl,s1,rfl,hs1⟩
 rw [if_neg hk25]
 by_cases hk26 : a.kind=26
 ·rw [if_pos hk26]
  obtain ⟨k,n,u,s⟩:=h
  obtain rfl : k=26:=h1.trans hk26
  simp only at h2 h3 h4 hl
  subst h2
  subst h3
  refine uA ?_
  refine oB (fun b => ?_)
  refine uL ?_
  refine bq rfl (fun h5 => ?_) (fun h5 => ?_)
  ·simp only at h5
   rw [if_pos (show a.kids.length=1 by omega)]
   refine uL ?_
   refine qs rfl (cq tab rInt (hs:=[5]) (l:=[5]) ⟨rfl,trivial⟩ rfl rfl rfl rfl rfl (by decide) (fun s1 m1 hm1 hs1 _ _ => ?_))
   refine uA ?_
   exact bu rfl uS ⟨hm1,rfl,s1,rfl,hs1⟩
  ·simp only at h5
   rw [if_neg (show ¬ a.kids.length=1 by omega)]
   refine uL ?_
   refine qs rfl (cq tab rInt (hs:=[7,5]) (l:=[7,5]) ⟨rfl,rfl,trivial⟩ rfl rfl rfl rfl rfl (by decide) (fun s1 m1 hm1 hs1 _ _ => ?_))
   refine uA ?_
   exact bu rfl uS ⟨hm1,rfl,s1,rfl,hs1⟩
 rw [if_neg hk26]
 by_cases hk27 : a.kind=27
 ·rw [if_pos hk27]
  obtain ⟨k,n,u,s⟩:=h
  obtain rfl : k=27:=h1.trans hk27
  simp only at h2 h3 h4 hl
  subst h2
  subst h3
  refine uA ?_
  refine oB (fun b => ?_)
  refine uL ?_
  exact bu rfl uS ⟨bm _,rfl,⟨none,0,0⟩,rfl,bN _ _⟩
 rw [if_neg hk27]
 by_cases hk28 : a.kind=28 ∨ a.kind=29
 ·rw [if_pos hk28]
  obtain ⟨k,n,u,s⟩:=h
  rcases hk28 with hk | hk
  all_goals
   obtain rfl:=h1.trans hk
   refine uA ?_
   refine oB (fun b => ?_)
   refine uL ?_
   exact bu rfl uS ⟨bm _,rfl,⟨none,0,0⟩,rfl,bN _ _⟩
 rw [if_neg hk28]
 refine uA ?_
 refine oB (fun b => ?_)
 refine uL ?_
 refine bq rfl (fun h5 => ?_) (fun h5 => ?_)
 ·omega
 refine uA ?_
 refine bq rfl (fun h5 => ?_) (fun h5 => ?_)
 ·omega
 refine uA ?_
 refine bq rfl (fun h5 => ?_) (fun h5 => ?_)
 ·omega
 refine uA ?_
 refine bq rfl (fun h5 => ?_) (fun h5 => ?_)
 ·omega
 refine uA ?_
 refine bq rfl (fun h5 => ?_) (fun h5 => ?_)
 ·omega
 refine uA ?_
 refine bq rfl (fun h5 => ?_) (fun h5 => ?_)
 ·omega
 refine uA ?_
 refine bq rfl (fun h5 => ?_) (fun h5 => ?_)
 ·omega
 refine uA ?_
 refine bq rfl (fun h5 => ?_) (fun h5 => ?_)
 ·omega
 refine uA ?_
 refine bq rfl (fun h5 => ?_) (fun h5 => ?_)
 ·omega
 refine uA ?_
 refine bq rfl (fun h5 => ?_) (fun h5 => ?_)
 ·omega
 refine uA ?_
 exact bu rfl uS ⟨bm _,rfl,⟨none,0,0⟩,rfl,bN _ _⟩
end Go.Sep


/- PrShE -/
namespace Go.Sep
open Go.Proofs
attribute [local irreducible] TC TO OT TCallX TCall DO DOt thenQ blockQ retQ At
theorem expression_ref (lv : Str→Nat) (hlv : ∀ (m : Mem) (L : List Item) (s : Str),TCall Tryz.prog 182 ⟨[strV s]⟩ m L (Ret (.int .i64 (lv s : Int)) m L)) (a : Tree) (m : Mem) (L : List Item) (h : HTree) (hr : TreeRep m h a) :
  TCall Tryz.prog 159 ⟨[treeV h]⟩ m L (ShapeIs m L (shExpr lv a)):=by
 have hr':=hr
 obtain ⟨h1,h2,h3,h4⟩:=hr
 have hl:=h4.len
 have hsm:=h4.small rfl
 unfold shExpr TCall
 refine bw Tryz.func159 rfl 92 rfl ?_
 by_cases hk40 : a.kind=40
 ·rw [if_pos hk40]
  obtain ⟨k,n,u,s⟩:=h
  obtain rfl : k=40:=h1.trans hk40
  simp only at h2 h3 h4 hl
  subst h2
  subst h3
  refine uA ?_
  refine oB (fun b => ?_)
  refine uL ?_
  refine bR [] cr 7 rfl ?_
  refine bV tab uC uK [0] uK rfl ?_
  (refine bW tab 1 0 uC uK uK rfl rfl rfl rfl rfl rfl rfl rfl ?_)
  refine bV tab uC uK [2,3,4,5,6] uK rfl ?_
  (refine ca uK ?_)
  rotate_left 1
  ·refine uA ?_
   exact bu rfl uS ⟨bm _,rfl,⟨none,0,0⟩,rfl,bN _ _⟩
 rw [if_neg hk40]
 by_cases hk41 : a.kind=41
 ·rw [if_pos hk41]
  obtain ⟨k,n,u,s⟩:=h
  obtain rfl : k=41:=h1.trans hk41
  simp only at h2 h3 h4 hl
  subst h2
  subst h3
  refine uA ?_
  refine oB (fun b => ?_)
  refine uL ?_
  refine bR [] cr 8 rfl ?_
  refine bV tab uC uK [0] uK rfl ?_
  (refine bW tab 1 0 uC uK uK rfl rfl rfl rfl rfl rfl rfl rfl ?_)
  refine bV tab uC uK [2,3,4,5,6,7] uK rfl ?_
  (refine ca uK ?_)
  rotate_left 1
  ·refine uA ?_
   exact bu rfl uS ⟨bm _,rfl,⟨none,0,0⟩,rfl,bN _ _⟩
 rw [if_neg hk41]
 by_cases hk42 : a.kind=42
 ·rw [if_pos hk42]
  obtain ⟨k,n,u,s⟩:=h
  obtain rfl : k=42:=h1.trans hk42
  simp only at h2 h3 h4 hl
  subst h2
  subst h3
  refine uA ?_
  refine oB (fun b => ?_)
  refine uL ?_
  refine bR [] cr 12 rfl ?_
  refine bV tab uC uK [0] uK rfl ?_
  (refine bW tab 1 0 uC uK uK rfl rfl rfl rfl rfl rfl rfl rfl ?_)
  refine bV tab uC uK [2,3] uK rfl ?_
  (refine DO.splitP (d:=24) rfl (fun hg3 => ?_) (fun hg3 => ?_))
  refine bV tab uC uK [4,5,6,7,8,9,10,11] uK rfl ?_
  (refine ca uK ?_)
  rotate_left 1
  refine bV tab uC uK [4] uK rfl ?_
  (refine bW tab 5 0 uC uK uK rfl rfl rfl rfl rfl rfl rfl rfl ?_)
  refine bV tab uC uK [6,7,8,9,10,11] uK rfl ?_
  (refine ca uK ?_)
  rotate_left 1
  ·refine uA ?_
   refine bu rfl uS ⟨bm _,rfl,⟨none,0,0⟩, ?_,bN _ _⟩
   rw [aH hg3];rfl
  ·refine uA ?_
   refine bu rfl uS ⟨bm _,rfl,⟨none,0,0⟩, ?_,bN _ _⟩
   rw [aI hg3];rfl
 rw [if_neg hk42]
 by_cases hk43 : a.kind=43
 ·rw [if_pos hk43]
  obtain ⟨k,n,u,s⟩:=h
  obtain rfl : k=43:=h1.trans hk43
  simp only at h2 h3 h4 hl
  subst h2
  subst h3
  refine uA ?_
  refine oB (fun b => ?_)
  refine uL ?_
  exact bu rfl uS ⟨bm _,rfl,⟨none,0,0⟩,rfl,bN _ _⟩
 rw [if_neg hk43]
 by_cases hk44 : a.kind=44
 ·rw [if_pos hk44]
  obtain ⟨k,n,u,s⟩:=h
  obtain rfl : k=44:=h1.trans hk44
  simp only at h2 h3 h4 hl
  subst h2
  subst h3
  refine uA ?_
  refine oB (fun b => ?_)
  refine uL ?_
  exact bu rfl uS ⟨bm _,rfl,⟨none,0,0⟩,rfl,bN _ _⟩
 rw [if_neg hk44]
 by_cases hk45 : a.kind=45
 ·rw [if_pos hk45]
  obtain ⟨k,n,u,s⟩:=h
  obtain rfl : k=45:=h1.trans hk45
  simp only at h2 h3 h4 hl
  subst h2
  subst h3
  refine uA ?_
  refine oB (fun b => ?_)
  refine uL ?_
  exact bu rfl uS ⟨bm _,rfl,⟨none,0,0⟩,rfl,bN _ _⟩
 rw [if_neg hk45]
 by_cases hk46 : a.kind=46
 ·rw [if_pos hk46]
  obtain ⟨k,n,u,s⟩:=h
  obtain rfl : k=46:=h1.trans hk46
  simp only at h2 h3 h4 hl
  subst h2
  subst h3
  refine uA ?_
  refine oB (fun b => ?_)
  refine uL ?_
  refine qs rfl (cq tab rInt (hs:=[2]) (l:=[2]) ⟨rfl,trivial⟩ rfl rfl rfl rfl rfl (by decide) (fun s1 m1 hm1 hs1 _ _ => ?_))
  refine uA ?_
  exact bu rfl uS ⟨hm1,rfl,s1,rfl,hs1⟩
 rw [if_neg hk46]
 by_cases hk47 : a.kind=47
 ·rw [if_pos hk47]
  obtain ⟨k,n,u,s⟩:=h
  obtain rfl : k=47:=h1.trans hk47
  simp only at h2 h3 h4 hl
  subst h2
  subst h3
  refine uA ?_
  refine oB (fun b => ?_)
  refine uL ?_
  refine qs rfl (cq tab rInt (hs:=[3,5]) (l:=[3,5]) ⟨rfl,rfl,trivial⟩ rfl rfl rfl rfl rfl (by decide) (fun s1 m1 hm1 hs1 _ _ => ?_))
  refine uA ?_
  exact bu rfl uS ⟨hm1,rfl,s1,rfl,hs1⟩
 rw [if_neg hk47]
 by_cases hk48 : a.kind=48
 ·rw [if_pos hk48]
  obtain ⟨k,n,u,s⟩:=h
  obtain rfl : k=48:=h1.trans hk48
  simp only at h2 h3 h4 hl
  subst h2
  subst h3
  refine uA ?_
  refine oB (fun b => ?_)
  refine uL ?_
  refine qs rfl (cq tab rInt (hs:=[7]) (l:=[7]) ⟨rfl,trivial⟩ rfl rfl rfl rfl rfl (by decide) (fun s1 m1 hm1 hs1 _ _ => ?_))
  refine uA ?_
  exact bu rfl uS ⟨hm1,rfl,s1,rfl,hs1⟩
 rw [if_neg hk48]
 by_cases hk49 : a.kind=49
 ·rw [if_pos hk49]
  obtain ⟨k,n,u,s⟩:=h
  obtain rfl : k=49:=h1.trans hk49
  simp only at h2 h3 h4 hl
  subst h2
  subst h3
  refine uA ?_
  refine oB (fun b => ?_)
  refine uL ?_
  refine qs rfl (cq tab rInt (hs:=[7,7]) (l:=[7,7]) ⟨rfl,rfl,trivial⟩ rfl rfl rfl rfl rfl (by decide) (fun s1 m1 hm1 hs1 _ _ => ?_))
  refine uA ?_
  exact bu rfl uS ⟨hm1,rfl,s1,rfl,hs1⟩
 rw [if_neg hk49]
 by_cases hk50 : a.kind=50
 ·rw [if_pos hk50]
  obtain ⟨k,n,u,s⟩:=h
  obtain rfl : k=50:=h1.trans hk50
  simp only at h2 h3 h4 hl
  by_cases n0 : a.num=0
  ·rw [if_pos n0]
   obtain rfl : u=0:=h3.trans n0
   refine uA ?_
   refine oB (fun b => ?_)
   refine uL ?_
   refine qs rfl (cq tab rInt (hs:=[7]) (l:=[7]) ⟨rfl,trivial⟩ rfl rfl rfl rfl rfl (by decide) (fun s1 m1 hm1 hs1 _ _ => ?_))
   refine uA ?_
   exact bu rfl uS ⟨hm1,rfl,s1,rfl,hs1⟩
  rw [if_neg n0]
  by_cases n1 : a.num=1 ∨ a.num=2
  ·rw [if_pos n1]
   rcases n1 with n1 | n1
   all_goals
    obtain rfl:=h3.trans n1
    refine uA ?_
    refine oB (fun b => ?_)
    refine uL ?_
    refine qs rfl (cq tab rInt (hs:=[7,7]) (l:=[7,7]) ⟨rfl,rfl,trivial⟩ rfl rfl rfl rfl rfl (by decide) (fun s1 m1 hm1 hs1 _ _ => ?_))
    refine uA ?_
    exact bu rfl uS ⟨hm1,rfl,s1,rfl,hs1⟩
  rw [if_neg n1]
  by_cases n3 : a.num=3
  ·rw [if_pos n3]
   obtain rfl : u=3:=h3.trans n3
   refine uA ?_
   refine oB (fun b => ?_)
   refine uL ?_
   refine qs rfl (cq tab rInt (hs:=[7,7,7]) (l:=[7,7,7]) ⟨rfl,rfl,rfl,trivial⟩ rfl rfl rfl rfl rfl (by decide) (fun s1 m1 hm1 hs1 _ _ => ?_))
   refine uA ?_
   exact bu rfl uS ⟨hm1,rfl,s1,rfl,hs1⟩
  rw [if_neg n3]
  refine uA ?_
  refine oB (fun b => ?_)
  refine uL ?_
  refine bq rfl (fun h5 => ?_) (fun h5 => ?_)
  ·simp only at h5;omega
  refine uA ?_
  refine bq rfl (fun h5 => ?_) (fun h5 => ?_)
  ·simp only at h5;omega
  refine uA ?_
  refine bq rfl (fun h5 => ?_) (fun h5 => ?_)
  ·simp only at h5;omega
  refine uA ?_
  refine bq rfl (fun h5 => ?_) (fun h5 => ?_)
  ·simp only at h5;omega
  refine uA ?_
  exact bu rfl uS ⟨bm _,rfl,⟨none,0,0⟩,rfl,bN _ _⟩
 rw [if_neg hk50]
 by_cases hk51 : a.kind=51
 ·rw [if_pos hk51]
  obtain ⟨k,n,u,s⟩:=h
  obtain rfl : k=51:=h1.trans hk51
  simp only at h2 h3 h4 hl
  subst h2
  subst h3
  refine uA ?_
  refine oB (fun b => ?_)
  refine uL ?_
  refine qs rfl (cq tab rInt (hs:=[7]) (l:=[7]) ⟨rfl,trivial⟩ rfl rfl rfl rfl rfl (by decide) (fun s1 m1 hm1 hs1 _ _ => ?_))
  refine uA ?_
  exact bu rfl uS ⟨hm1,rfl,s1,rfl,hs1⟩
 rw [if_neg hk51]
 by_cases hk52 : a.kind=52
 ·rw [if_pos hk52]
  obtain ⟨k,n,u,s⟩:=h
  obtain rfl : k=52:=h1.trans hk52
  simp only at h2 h3 h4 hl
  subst h2
  subst h3
  refine uA ?_
  refine oB (fun b => ?_)
  refine uL ?_
  refine bR [] cr 23 rfl ?_
  refine bV tab uC uK [1] uK rfl ?_
  (refine bW tab 2 0 uC uK uK rfl rfl rfl rfl rfl rfl rfl rfl ?_)
  refine bV tab uC uK [3,4] uK rfl ?_
  (refine DO.splitP (d:=70) rfl (fun hg4 => ?_) (fun hg4 => ?_))
  refine bV tab uC uK [5,6,7,8,9,10,11,12,13,14,15,16,17,18] uK rfl ?_
  refine bZ 0 rfl rfl uK rfl ?_
  refine cq tab rInt (hs:=[7]) (l:=[7]) ⟨rfl,trivial⟩ rfl rfl rfl rfl rfl (by decide) (fun s1 m1 hm1 hs1 _ _ => ?_);refine ⟨hm1,_,af _, ?_⟩
  refine bV tab uC uK [19,20,21,22] uK rfl ?_
  (refine ca uK ?_)
  rotate_left 1
  refine bV tab uC uK [5] uK rfl ?_
  (refine bW tab 6 0 uC uK uK rfl rfl rfl rfl rfl rfl rfl rfl ?_)
  refine bV tab uC uK [7,8,9] uK rfl ?_
  (refine DO.splitP (d:=75) rfl (fun hg9 => ?_) (fun hg9 => ?_))
  refine bV tab uC uK [10,11,12,13,14,15,16,17,18] uK rfl ?_
  refine bZ 0 rfl rfl uK rfl ?_
  refine cq tab rInt (hs:=[7]) (l:=[7]) ⟨rfl,trivial⟩ rfl rfl rfl rfl rfl (by decide) (fun s1 m1 hm1 hs1 _ _ => ?_);refine ⟨hm1,_,af _, ?_⟩
  refine bV tab uC uK [19,20,21,22] uK rfl ?_
  (refine ca uK ?_)
  rotate_left 1
  refine bV tab uC uK [10] uK rfl ?_
  (refine bW tab 11 0 uC uK uK rfl rfl rfl rfl rfl rfl rfl rfl ?_)
  refine bV tab uC uK [12,13,14] uK rfl ?_
  (refine DO.splitP (d:=80) rfl (fun hg14 => ?_) (fun hg14 => ?_))
  refine bV tab uC uK [15,16,17,18] uK rfl ?_
  refine bZ 0 rfl rfl uK rfl ?_
  refine cq tab rInt (hs:=[7]) (l:=[7]) ⟨rfl,trivial⟩ rfl rfl rfl rfl rfl (by decide) (fun s1 m1 hm1 hs1 _ _ => ?_);refine ⟨hm1,_,af _, ?_⟩
  refine bV tab uC uK [19,20,21,22] uK rfl ?_
  (refine ca uK ?_)
  rotate_left 1
  refine bV tab uC uK [15] uK rfl ?_
  (refine bW tab 16 0 uC uK uK rfl rfl rfl rfl rfl rfl rfl rfl ?_)
  refine bV tab uC uK [17,18] uK rfl ?_
  refine bZ 0 rfl rfl uK rfl ?_
  refine cq tab rInt (hs:=[7]) (l:=[7]) ⟨rfl,trivial⟩ rfl rfl rfl rfl rfl (by decide) (fun s1 m1 hm1 hs1 _ _ => ?_);refine ⟨hm1,_,af _, ?_⟩
  refine bV tab uC uK [19,20,21,22] uK rfl ?_
  (refine ca uK ?_)
  rotate_left 1
  all_goals
   refine uA ?_
   refine bu rfl uS ⟨hm1,rfl,s1, ?_,hs1⟩
   simp_all
 rw [if_neg hk52]
 by_cases hk53 : a.kind=53
 ·rw [if_pos hk53]
  obtain ⟨k,n,u,s⟩:=h
  obtain rfl : k=53:=h1.trans hk53
  simp only at h2 h3 h4 hl
  subst h2
  subst h3
  refine uA ?_
  refine oB (fun b => ?_)
  refine uL ?_
  refine qs rfl (cq tab rInt (hs:=[7,7]) (l:=[7,7]) ⟨rfl,rfl,trivial⟩ rfl rfl rfl rfl rfl (by decide) (fun s1 m1 hm1 hs1 _ _ => ?_))
  refine uL ?_
  refine oC goes182 ((hlv _ _ a.name).x ?_);
  rintro _ _ _ ⟨rfl,rfl,rfl⟩
  refine uA ?_
  exact bu rfl uS ⟨hm1,rfl,s1,rfl,hs1⟩
 rw [if_neg hk53]
 refine uA ?_
 refine oB (fun b => ?_)
 refine uL ?_
 refine bq rfl (fun h5 => ?_) (fun h5 => ?_)
 ·omega
 refine uA ?_
 refine bq rfl (fun h5 => ?_) (fun h5 => ?_)
 ·omega
 refine uA ?_
 refine bq rfl (fun h5 => ?_) (fun h5 => ?_)
 ·omega
 refine uA ?_
 refine bq rfl (fun h5 => ?_) (fun h5 => ?_)
 ·omega
 refine uA ?_
 refine bq rfl (fun h5 => ?_) (fun h5 => ?_)
 ·omega
 refine uA ?_
 refine bq rfl (fun h5 => ?_) (fun h5 => ?_)
 ·omega
 refine uA ?_
 refine bq rfl (fun h5 => ?_) (fun h5 => ?_)
 ·omega
 refine uA ?_
 refine bq rfl (fun h5 => ?_) (fun h5 => ?_)
 ·omega
 refine uA ?_
 refine bq rfl (fun h5 => ?_) (fun h5 => ?_)
 ·omega
 refine uA ?_
 refine bq rfl (fun h5 => ?_) (fun h5 => ?_)
 ·omega
 refine uA ?_
 refine bq rfl (fun h5 => ?_) (fun h5 => ?_)
 ·omega
 refine uA ?_
 refine bq rfl (fun h5 => ?_) (fun h5 => ?_)
 ·omega
 refine uA ?_
 refine bq rfl (fun h5 => ?_) (fun h5 => ?_)
 ·omega
 refine uA ?_
 refine bq rfl (fun h5 => ?_) (fun h5 => ?_)
 ·omega
 refine uA ?_
 exact bu rfl uS ⟨bm _,rfl,⟨none,0,0⟩,rfl,bN _ _⟩
end Go.Sep


/- PrShA -/
namespace Go.Sep
open Go.Proofs
attribute [local irreducible] TC TO OT TCallX TCall DO DOt thenQ blockQ retQ At
theorem shape_k4 (a : Tree) (m : Mem) (L : List Item) (h : HTree) (hr : TreeRep m h a) : TCall Tryz.prog 125 ⟨[treeV h, .int .i64 4]⟩ m L (ShapeIs m L ⟨[2],0,1,decide (a.kind=8)⟩):=by
 obtain ⟨h1,h2,h3,h4⟩:=hr
 rw [← h1]
 unfold TCall
 refine bw Tryz.func125 rfl 236 rfl ?_
 refine uA ?_
 refine oB (fun b => ?_)
 refine uA ?_
 refine bR [] cr 8 rfl ?_
 refine bV tab uC uK [1] uK rfl ?_
 (refine bW tab 2 0 uC uK uK rfl rfl rfl rfl rfl rfl rfl rfl ?_)
 refine bV tab uC uK [3] uK rfl ?_
 refine bZ 0 rfl rfl uK rfl ?_
 refine cq tab rInt (hs:=[2]) (l:=[2]) ⟨rfl,trivial⟩ rfl rfl rfl rfl rfl (by decide) (fun s1 m1 hm1 hs1 _ _ => ?_);refine ⟨hm1,_,af _, ?_⟩
 refine bV tab uC uK [4,5,6,7] uK rfl ?_
 (refine ca uK ?_)
 rotate_left 1
 ·refine uA ?_
  exact bu rfl uS ⟨hm1,rfl,s1,rfl,hs1⟩
theorem shape_k8 (a : Tree) (m : Mem) (L : List Item) (h : HTree) (hr : TreeRep m h a) : TCall Tryz.prog 125 ⟨[treeV h, .int .i64 8]⟩ m L (ShapeIs m L ⟨[2],0,1,decide (a.kind=6)⟩):=by
 obtain ⟨h1,h2,h3,h4⟩:=hr
 rw [← h1]
 unfold TCall
 refine bw Tryz.func125 rfl 236 rfl ?_
 refine uA ?_
 refine oB (fun b => ?_)
 refine uA ?_
 refine bR [] cr 8 rfl ?_
 refine bV tab uC uK [1] uK rfl ?_
 (refine bW tab 2 0 uC uK uK rfl rfl rfl rfl rfl rfl rfl rfl ?_)
 refine bV tab uC uK [3] uK rfl ?_
 refine bZ 0 rfl rfl uK rfl ?_
 refine cq tab rInt (hs:=[2]) (l:=[2]) ⟨rfl,trivial⟩ rfl rfl rfl rfl rfl (by decide) (fun s1 m1 hm1 hs1 _ _ => ?_);refine ⟨hm1,_,af _, ?_⟩
 refine bV tab uC uK [4,5,6,7] uK rfl ?_
 (refine ca uK ?_)
 rotate_left 1
 ·refine uA ?_
  exact bu rfl uS ⟨hm1,rfl,s1,rfl,hs1⟩
theorem shape_k9 (a : Tree) (m : Mem) (L : List Item) (h : HTree) (hr : TreeRep m h a) : TCall Tryz.prog 125 ⟨[treeV h, .int .i64 9]⟩ m L (ShapeIs m L ⟨[3],0,1,decide (a.kind=6)⟩):=by
 obtain ⟨h1,h2,h3,h4⟩:=hr
 rw [← h1]
 unfold TCall
 refine bw Tryz.func125 rfl 236 rfl ?_
 refine uA ?_
 refine oB (fun b => ?_)
 refine uA ?_
 refine bR [] cr 8 rfl ?_
 refine bV tab uC uK [1] uK rfl ?_
 (refine bW tab 2 0 uC uK uK rfl rfl rfl rfl rfl rfl rfl rfl ?_)
 refine bV tab uC uK [3] uK rfl ?_
 refine bZ 0 rfl rfl uK rfl ?_
 refine cq tab rInt (hs:=[3]) (l:=[3]) ⟨rfl,trivial⟩ rfl rfl rfl rfl rfl (by decide) (fun s1 m1 hm1 hs1 _ _ => ?_);refine ⟨hm1,_,af _, ?_⟩
 refine bV tab uC uK [4,5,6,7] uK rfl ?_
 (refine ca uK ?_)
 rotate_left 1
 ·refine uA ?_
  exact bu rfl uS ⟨hm1,rfl,s1,rfl,hs1⟩
theorem shape_k5 (a : Tree) (m : Mem) (L : List Item) (h : HTree) (hr : TreeRep m h a) : TCall Tryz.prog 125 ⟨[treeV h, .int .i64 5]⟩ m L (ShapeIs m L ⟨[],6,0,decide (a.kind=20)⟩):=by
 obtain ⟨h1,h2,h3,h4⟩:=hr
 rw [← h1]
 unfold TCall
 refine bw Tryz.func125 rfl 236 rfl ?_
 refine uA ?_
 refine oB (fun b => ?_)
 refine uA ?_
 refine bR [] cr 7 rfl ?_
 refine bV tab uC uK [0] uK rfl ?_
 (refine bW tab 1 0 uC uK uK rfl rfl rfl rfl rfl rfl rfl rfl ?_)
 refine bV tab uC uK [2,3,4,5,6] uK rfl ?_
 (refine ca uK ?_)
 rotate_left 1
 ·refine uA ?_
  exact bu rfl uS ⟨bm _,rfl,⟨none,0,0⟩,rfl,bN _ _⟩
theorem shape_k11 (a : Tree) (m : Mem) (L : List Item) (h : HTree) (hr : TreeRep m h a) : TCall Tryz.prog 125 ⟨[treeV h, .int .i64 11]⟩ m L (ShapeIs m L ⟨[],0,1,decide (a.kind=44)⟩):=by
 obtain ⟨h1,h2,h3,h4⟩:=hr
 rw [← h1]
 unfold TCall
 refine bw Tryz.func125 rfl 236 rfl ?_
 refine uA ?_
 refine oB (fun b => ?_)
 refine uA ?_
 refine bR [] cr 7 rfl ?_
 refine bV tab uC uK [0] uK rfl ?_
 (refine bW tab 1 0 uC uK uK rfl rfl rfl rfl rfl rfl rfl rfl ?_)
 refine bV tab uC uK [2,3,4,5,6] uK rfl ?_
 (refine ca uK ?_)
 rotate_left 1
 ·refine uA ?_
  exact bu rfl uS ⟨bm _,rfl,⟨none,0,0⟩,rfl,bN _ _⟩
section
variable (lv : Str→Nat) (hlv : ∀ (m : Mem) (L : List Item) (s : Str),TCall Tryz.prog 182 ⟨[strV s]⟩ m L (Ret (.int .i64 (lv s : Int)) m L))
theorem shape_stmt (a : Tree) (m : Mem) (L : List Item) (h : HTree) (hr : TreeRep m h a) : TCall Tryz.prog 125 ⟨[treeV h, .int .i64 6]⟩ m L (ShapeIs m L (shStmt lv a)):=by
 unfold TCall
 refine bw Tryz.func125 rfl 236 rfl ?_
 refine uA ?_
 refine oB (fun b => ?_)
 refine uL ?_
 refine oC goes158 ((statement_ref lv a _ _ h hr).x ?_);
 rintro _ m1 _ ⟨hm1,rfl,s,rfl,hs⟩
 refine uA ?_
 exact bu rfl uS ⟨hm1,rfl,s,rfl,hs⟩
theorem shape_k13 (a : Tree) (m : Mem) (L : List Item) (h : HTree) (hr : TreeRep m h a) : TCall Tryz.prog 125 ⟨[treeV h, .int .i64 13]⟩ m L (ShapeIs m L (if a.kind=25 then shStmt lv a else ⟨[],6,0,decide (a.kind=20)⟩)):=by
 have h1:=hr.1
 unfold TCall
 refine bw Tryz.func125 rfl 236 rfl ?_
 refine uA ?_
 refine oB (fun b => ?_)
 refine uL ?_
 refine bq rfl (fun h5 => ?_) (fun h5 => ?_)
 ·rw [if_pos (h1.symm.trans h5)]
  refine uL ?_
  refine oC goes125 ((shape_stmt lv a _ _ h hr).x ?_);
  rintro _ m1 _ ⟨hm1,rfl,s,rfl,hs⟩
  refine uA ?_
  exact bu rfl uS ⟨hm1,rfl,s,rfl,hs⟩
 ·rw [if_neg (fun e=>h5 (h1.trans e))]
  refine uL ?_
  refine oC goes125 ((shape_k5 a _ _ h hr).x ?_);
  rintro _ m1 _ ⟨hm1,rfl,s,rfl,hs⟩
  refine uA ?_
  exact bu rfl uS ⟨hm1,rfl,s,rfl,hs⟩
include hlv in
theorem shape_expr (a : Tree) (m : Mem) (L : List Item) (h : HTree) (hr : TreeRep m h a) : TCall Tryz.prog 125 ⟨[treeV h, .int .i64 7]⟩ m L (ShapeIs m L (shExpr lv a)):=by
 unfold TCall
 refine bw Tryz.func125 rfl 236 rfl ?_
 refine uA ?_
 refine oB (fun b => ?_)
 refine uL ?_
 refine oC goes159 ((expression_ref lv hlv a _ _ h hr).x ?_);
 rintro _ m1 _ ⟨hm1,rfl,s,rfl,hs⟩
 refine uA ?_
 exact bu rfl uS ⟨hm1,rfl,s,rfl,hs⟩
end
end Go.Sep


/- PrShB -/
namespace Go.Sep
open Go.Proofs
attribute [local irreducible] TC TO OT TCallX TCall DO DOt thenQ blockQ retQ At
section
variable (lv : Str→Nat) (hlv : ∀ (m : Mem) (L : List Item) (s : Str),TCall Tryz.prog 182 ⟨[strV s]⟩ m L (Ret (.int .i64 (lv s : Int)) m L))
include hlv in
theorem shape_k10 (a : Tree) (m : Mem) (L : List Item) (h : HTree) (hr : TreeRep m h a) : TCall Tryz.prog 125 ⟨[treeV h, .int .i64 10]⟩ m L (ShapeIs m L ((shExpr lv a).but (Ps.isPl a))):=by
 have hr':=hr
 obtain ⟨h1,h2,h3,h4⟩:=hr
 unfold TCall
 refine bw Tryz.func125 rfl 236 rfl ?_
 have hpl : Ps.isPl a=(decide (a.kind=44) || (decide (a.kind=48) || (decide (a.kind=49) || (decide (a.kind=52) && decide (a.name=[42]))))):=rfl
 have hk : a.kind=44 ∨ a.kind=48 ∨ a.kind=49 ∨ a.kind=52 ∨ (a.kind ≠ 44∧a.kind ≠ 48∧a.kind ≠ 49∧a.kind ≠ 52):=by omega
 obtain ⟨k,n,u,s⟩:=h
 rcases hk with hk | hk | hk | hk | hk
 ·obtain rfl : k=44:=h1.trans hk
  have hp : Ps.isPl a=true:=by rw [hpl,hk];rfl
  refine uA ?_
  refine oB (fun b => ?_)
  refine uL ?_
  refine oC goes125 ((shape_expr lv hlv a _ _ _ hr').x ?_);
  rintro _ m1 _ ⟨hm1,rfl,s,rfl,hs⟩
  refine uA ?_
  refine bu rfl uS ⟨hm1,rfl,s, ?_,hs⟩
  rw [hp];rfl
 ·obtain rfl : k=48:=h1.trans hk
  have hp : Ps.isPl a=true:=by rw [hpl,hk];rfl
  refine uA ?_
  refine oB (fun b => ?_)
  refine uL ?_
  refine oC goes125 ((shape_expr lv hlv a _ _ _ hr').x ?_);
  rintro _ m1 _ ⟨hm1,rfl,s,rfl,hs⟩
  refine uA ?_
  refine bu rfl uS ⟨hm1,rfl,s, ?_,hs⟩
  rw [hp];rfl
 ·obtain rfl : k=49:=h1.trans hk
  have hp : Ps.isPl a=true:=by rw [hpl,hk];rfl
  refine uA ?_
  refine oB (fun b => ?_)
  refine uL ?_
  refine oC goes125 ((shape_expr lv hlv a _ _ _ hr').x ?_);
  rintro _ m1 _ ⟨hm1,rfl,s,rfl,hs⟩
  refine uA ?_
  refine bu rfl uS ⟨hm1,rfl,s, ?_,hs⟩
  rw [hp];rfl
 ·obtain rfl : k=52:=h1.trans hk
  obtain rfl : n=a.name:=h2
  have hp : Ps.isPl a=decide (a.name=[42]):=by rw [hpl,hk];rfl
  refine uA ?_
  refine oB (fun b => ?_)
  refine uL ?_
  refine oC goes125 ((shape_expr lv hlv a _ _ _ hr').x ?_);
  rintro _ m1 _ ⟨hm1,rfl,s,rfl,hs⟩
  refine uA ?_
  (refine bB rfl rfl (fun c1 => ?_) (fun c1 => ?_))
  ·refine uA ?_
   refine bu rfl uS ⟨hm1,rfl,s, ?_,hs⟩
   rw [hp,aH c1];rfl
  ·refine uA ?_
   refine bu rfl uS ⟨hm1,rfl,s, ?_,hs⟩
   rw [hp,aI c1];rfl
 ·obtain ⟨k1,k2,k3,k4⟩:=hk
  have hp : Ps.isPl a=false:=by rw [hpl,aI k1,aI k2,aI k3,aI k4];rfl
  obtain rfl : k=a.kind:=h1
  refine uA ?_
  refine oB (fun b => ?_)
  refine uL ?_
  (refine bB rfl rfl (fun c1 => ?_) (fun c1 => ?_))
  ·exact absurd c1 k1
  refine uL ?_
  (refine bB rfl rfl (fun c2 => ?_) (fun c2 => ?_))
  ·exact absurd c2 k2
  refine uL ?_
  (refine bB rfl rfl (fun c3 => ?_) (fun c3 => ?_))
  ·exact absurd c3 k3
  refine uL ?_
  (refine bB rfl rfl (fun c4 => ?_) (fun c4 => ?_))
  ·exact absurd c4 k4
  refine uL ?_
  refine oC goes125 ((shape_expr lv hlv a _ _ _ hr').x ?_);
  rintro _ m1 _ ⟨hm1,rfl,s,rfl,hs⟩
  refine uA ?_
  refine bu rfl uS ⟨hm1,rfl,s, ?_,hs⟩
  rw [hp];rfl
include hlv in
theorem shape_k12 (a : Tree) (m : Mem) (L : List Item) (h : HTree) (hr : TreeRep m h a) : TCall Tryz.prog 125 ⟨[treeV h, .int .i64 12]⟩ m L (ShapeIs m L ((shExpr lv a).but (decide (a.kind=51)))):=by
 have h1:=hr.1
 unfold TCall
 refine bw Tryz.func125 rfl 236 rfl ?_
 refine uA ?_
 refine oB (fun b => ?_)
 refine uL ?_
 refine oC goes125 ((shape_expr lv hlv a _ _ h hr).x ?_);
 rintro _ m1 _ ⟨hm1,rfl,s,rfl,hs⟩
 refine uA ?_
 refine bR [] cr 13 rfl ?_
 refine bV tab uC uK [0,1,2,3,4] uK rfl ?_
 (refine DO.split (d:=76) rfl (fun hg4 => ?_) (fun hg4 => ?_))
 refine bV tab uC uK [5] uK rfl ?_
 (refine bW tab 6 0 uC uK uK rfl rfl rfl rfl rfl rfl rfl rfl ?_)
 refine bV tab uC uK [7,8,9,10,11,12] uK rfl ?_
 (refine ca uK ?_)
 rotate_left 1
 refine bV tab uC uK [5,6,7,8,9,10,11,12] uK rfl ?_
 (refine ca uK ?_)
 rotate_left 1
 ·refine uA ?_
  refine bu rfl uS ⟨hm1,rfl,s, ?_,hs⟩
  rw [← h1,show ((shExpr lv a).but (decide (h.kind=51))).ok=(decide (h.kind=51) && (shExpr lv a).ok) from rfl,hg4,aE];rfl
 ·refine uA ?_
  refine bu rfl uS ⟨hm1,rfl,s, ?_,hs⟩
  rw [← h1,show ((shExpr lv a).but (decide (h.kind=51))).ok=(decide (h.kind=51) && (shExpr lv a).ok) from rfl,show (shExpr lv a).ok=false by simpa using hg4,Bool.and_false];rfl
end
def recvB (a : Tree) : Bool:=(decide (a.kids.length=1) && decide ((kd0 a).kind=11)) && (decide ((kd0 a).kids.length=1) && decide ((kd0 (kd0 a)).kind=10))
theorem recvB_eq (a : Tree) : recvB a=((decide (a.kids.length=1) && decide ((kd0 a).kind=11)) && (decide ((kd0 a).kids.length=1) && decide ((kd0 (kd0 a)).kind=10))):=rfl
theorem kd0_get {a : Tree} (h : a.kids.length=1) : a.kids[0]? = some (kd0 a):=by
 unfold kd0
 cases hk : a.kids with
 | nil=>rw [hk] at h;simp at h
 | cons x xs=>rfl
theorem shape_k14 (a : Tree) (m : Mem) (L : List Item) (h : HTree) (hr : TreeRep m h a) : TCall Tryz.prog 125 ⟨[treeV h, .int .i64 14]⟩ m L (ShapeIs m L ⟨[2],0,1,recvB a && decide (a.kind=8)⟩):=by
 obtain ⟨h1,h2,h3,h4⟩:=hr
 have hl:=h4.len
 rw [← h1]
 unfold TCall
 refine bw Tryz.func125 rfl 236 rfl ?_
 refine uA ?_
 refine oB (fun b => ?_)
 refine uL ?_
 (refine bB rfl rfl (fun c1 => ?_) (fun c1 => ?_))
 ·have c1' : a.kids.length=1:=by omega
  have hx:=kd0_get c1'
  refine uL ?_
  refine qs rfl (bO tab rTree 0 h4 rfl rfl rfl rfl rfl (by first | rfl | omega | (simp only;omega)) rfl hx ?_)
  rintro b4 i4 h' hr4 hA4
  have hr5:=rTree_iff.1 hr4
  obtain ⟨g1,g2,g3,g4⟩:=hr5
  have gl:=g4.len
  refine uA ?_
  (refine qs rfl (OT.loadA tab hA4 rfl rfl rfl rfl rfl ?_))
  refine uA ?_
  (refine bB rfl rfl (fun c2 => ?_) (fun c2 => ?_))
  ·have c2' : (kd0 a).kind=11:=by omega
   refine uL ?_
   refine qs rfl (bO tab rTree 0 h4 rfl rfl rfl rfl rfl (by first | rfl | omega | (simp only;omega)) rfl hx ?_)
   rintro b5 i5 h5 hr5 hA5
   have hr6:=rTree_iff.1 hr5
   obtain ⟨e1,e2,e3,e4⟩:=hr6
   have el:=e4.len
   refine uA ?_
   (refine qs rfl (OT.loadA tab hA5 rfl rfl rfl rfl rfl ?_))
   refine uA ?_
   (refine bB rfl rfl (fun c3 => ?_) (fun c3 => ?_))
   ·have c3' : (kd0 a).kids.length=1:=by omega
    have hy:=kd0_get c3'
    refine uL ?_
    refine qs rfl (bO tab rTree 0 h4 rfl rfl rfl rfl rfl (by first | rfl | omega | (simp only;omega)) rfl hx ?_)
    rintro b6 i6 h6 hr6 hA6
    have hr7:=rTree_iff.1 hr6
    obtain ⟨d1,d2,d3,d4⟩:=hr7
    refine uA ?_
    (refine qs rfl (OT.loadA tab hA6 rfl rfl rfl rfl rfl ?_))
    refine uA ?_
    refine qs rfl (bO tab rTree 0 d4 rfl rfl rfl rfl rfl (by first | rfl | omega | (simp only;omega)) rfl hy ?_)
    rintro b7 i7 h7 hr7 hA7
    have hr8:=rTree_iff.1 hr7
    obtain ⟨f1,f2,f3,f4⟩:=hr8
    refine uA ?_
    (refine qs rfl (OT.loadA tab hA7 rfl rfl rfl rfl rfl ?_))
    refine uA ?_
    by_cases c4 : (kd0 (kd0 a)).kind=10
    ·obtain ⟨k7,n7,u7,s7⟩:=h7
     obtain rfl : k7=10:=f1.trans c4
     refine uL ?_
     refine bR [] cr 11 rfl ?_
     refine bV tab uC uK [1,2,3] uK rfl ?_
     (refine bW tab 4 0 uC uK uK rfl rfl rfl rfl rfl rfl rfl rfl ?_)
     refine bV tab uC uK [5,6] uK rfl ?_
     refine bZ 0 rfl rfl uK rfl ?_
     refine cq tab rInt (hs:=[2]) (l:=[2]) ⟨rfl,trivial⟩ rfl rfl rfl rfl rfl (by decide) (fun s1 m1 hm1 hs1 _ _ => ?_);refine ⟨hm1,_,af _, ?_⟩
     refine bV tab uC uK [7,8,9,10] uK rfl ?_
     (refine ca uK ?_)
     rotate_left 1
     refine uA ?_
     refine bu rfl uS ⟨hm1,rfl,s1, ?_,hs1⟩
     rw [show recvB a=true by rw [recvB_eq];simp [*]];rfl
    ·rw [show decide (h7.kind=10)=false from aI (by omega)]
     refine uL ?_
     refine bR [] cr 11 rfl ?_
     refine bV tab uC uK [1,2,3,4,5,6] uK rfl ?_
     refine bZ 0 rfl rfl uK rfl ?_
     refine cq tab rInt (hs:=[2]) (l:=[2]) ⟨rfl,trivial⟩ rfl rfl rfl rfl rfl (by decide) (fun s1 m1 hm1 hs1 _ _ => ?_);refine ⟨hm1,_,af _, ?_⟩
     refine bV tab uC uK [7,8,9,10] uK rfl ?_
     (refine ca uK ?_)
     rotate_left 1
     refine uA ?_
     refine bu rfl uS ⟨hm1,rfl,s1, ?_,hs1⟩
     rw [show recvB a=false by rw [recvB_eq];simp [*]];rfl
   ·have c3' : ¬ (kd0 a).kids.length=1:=by omega
    refine uL ?_
    refine bR [] cr 11 rfl ?_
    refine bV tab uC uK [1,2,3,4,5,6] uK rfl ?_
    refine bZ 0 rfl rfl uK rfl ?_
    refine cq tab rInt (hs:=[2]) (l:=[2]) ⟨rfl,trivial⟩ rfl rfl rfl rfl rfl (by decide) (fun s1 m1 hm1 hs1 _ _ => ?_);refine ⟨hm1,_,af _, ?_⟩
    refine bV tab uC uK [7,8,9,10] uK rfl ?_
    (refine ca uK ?_)
    rotate_left 1
    refine uA ?_
    refine bu rfl uS ⟨hm1,rfl,s1, ?_,hs1⟩
    rw [show recvB a=false by rw [recvB_eq];simp [*]];rfl
  ·have c2' : ¬ (kd0 a).kind=11:=by omega
   refine uL ?_
   refine bR [] cr 11 rfl ?_
   refine bV tab uC uK [1,2,3,4,5,6] uK rfl ?_
   refine bZ 0 rfl rfl uK rfl ?_
   refine cq tab rInt (hs:=[2]) (l:=[2]) ⟨rfl,trivial⟩ rfl rfl rfl rfl rfl (by decide) (fun s1 m1 hm1 hs1 _ _ => ?_);refine ⟨hm1,_,af _, ?_⟩
   refine bV tab uC uK [7,8,9,10] uK rfl ?_
   (refine ca uK ?_)
   rotate_left 1
   refine uA ?_
   refine bu rfl uS ⟨hm1,rfl,s1, ?_,hs1⟩
   rw [show recvB a=false by rw [recvB_eq];simp [*]];rfl
 ·have c1' : ¬ a.kids.length=1:=by omega
  refine uL ?_
  refine bR [] cr 11 rfl ?_
  refine bV tab uC uK [1,2,3,4,5,6] uK rfl ?_
  refine bZ 0 rfl rfl uK rfl ?_
  refine cq tab rInt (hs:=[2]) (l:=[2]) ⟨rfl,trivial⟩ rfl rfl rfl rfl rfl (by decide) (fun s1 m1 hm1 hs1 _ _ => ?_);refine ⟨hm1,_,af _, ?_⟩
  refine bV tab uC uK [7,8,9,10] uK rfl ?_
  (refine ca uK ?_)
  rotate_left 1
  refine uA ?_
  refine bu rfl uS ⟨hm1,rfl,s1, ?_,hs1⟩
  rw [show recvB a=false by rw [recvB_eq];simp [*]];rfl
theorem shape_k3 (a : Tree) (m : Mem) (L : List Item) (h : HTree) (hr : TreeRep m h a) : TCall Tryz.prog 125 ⟨[treeV h, .int .i64 3]⟩ m L (ShapeIs m L (shSig a)):=by
 have hr':=hr
 obtain ⟨h1,h2,h3,h4⟩:=hr
 have hl:=h4.len
 have hsm:=h4.small rfl
 unfold TCall
 unfold shSig
 rw [← h1]
 refine bw Tryz.func125 rfl 236 rfl ?_
 refine uA ?_
 refine oB (fun b => ?_)
 refine uA ?_
 refine bR [] cr 23 rfl ?_
 refine bV tab uC uK [0] uK rfl ?_
 (refine bW tab 1 0 uC uK uK rfl rfl rfl rfl rfl rfl rfl rfl ?_)
 refine bV tab uC uK [3] uK rfl ?_
 (refine bW tab 4 0 uC uK uK rfl rfl rfl rfl rfl rfl rfl rfl ?_)
 refine bV tab uC uK [5] uK rfl ?_
 refine bZ 2 rfl rfl uK rfl (bM rfl rfl rfl rfl rfl rfl goes157 ((repeat_ref _ _ 4 h.num).x ?_))
 rintro _ m1 _ ⟨hm1,rfl,s1,rfl,hs1⟩;refine ⟨hm1,_,af _, ?_⟩
 refine bV tab uC uK [6] uK rfl ?_
 (refine DO.splitP (d:=170) rfl (fun hg6 => ?_) (fun hg6 => ?_))
 refine bV tab uC uK [7] uK rfl ?_
 (refine bW tab 8 0 uC uK uK rfl rfl rfl rfl rfl rfl rfl rfl ?_)
 refine bV tab uC uK [9,10,11] uK rfl ?_
 (refine DO.splitP (d:=175) rfl (fun hg11 => ?_) (fun hg11 => ?_))
 refine bV tab uC uK [12] uK rfl ?_
 (refine bW tab 13 0 uC uK uK rfl rfl rfl rfl rfl rfl rfl rfl ?_)
 refine bV tab uC uK [14] uK rfl ?_
 (refine bW tab 15 0 uC uK uK rfl rfl rfl rfl rfl rfl rfl rfl ?_)
 refine bV tab uC uK [16,17,18,19,20,21,22] uK rfl ?_
 (refine ca uK ?_)
 rotate_left 1
 refine bV tab uC uK [12,13,14,15,16,17,18,19,20,21,22] uK rfl ?_
 (refine ca uK ?_)
 rotate_left 1
 refine bV tab uC uK [7,8,9,10,11,12,13,14,15,16,17,18,19,20,21,22] uK rfl ?_
 (refine ca uK ?_)
 rotate_left 1
 all_goals
  refine uA ?_
  refine bu rfl uS ⟨hm1,rfl,s1, ?_,by unfold rep;rw [← h3];exact hs1⟩
  rw [← hl,← h3]
  first | (simp_all;done) | (simp_all;omega)
theorem shape_k1 (a : Tree) (m : Mem) (L : List Item) (h : HTree) (hr : TreeRep m h a) : TCall Tryz.prog 125 ⟨[treeV h, .int .i64 1]⟩ m L (ShapeIs m L (shDecl a)):=by
 have hr':=hr
 obtain ⟨h1,h2,h3,h4⟩:=hr
 have hl:=h4.len
 have hsm:=h4.small rfl
 unfold TCall
 unfold shDecl
 refine bw Tryz.func125 rfl 236 rfl ?_
 by_cases hk2 : a.kind=2
 ·rw [if_pos hk2]
  obtain ⟨k,n,u,s⟩:=h
  obtain rfl : k=2:=h1.trans hk2
  refine uA ?_
  refine oB (fun b => ?_)
  refine uL ?_
  exact bu rfl uS ⟨bm _,rfl,⟨none,0,0⟩,rfl,bN _ _⟩
 rw [if_neg hk2]
 by_cases hk3 : a.kind=3
 ·rw [if_pos hk3]
  obtain ⟨k,n,u,s⟩:=h
  obtain rfl : k=3:=h1.trans hk3
  refine uA ?_
  refine oB (fun b => ?_)
  refine uL ?_
  exact bu rfl uS ⟨bm _,rfl,⟨none,0,0⟩,rfl,bN _ _⟩
 rw [if_neg hk3]
 by_cases hk4 : a.kind=4
 ·rw [if_pos hk4]
  obtain ⟨k,n,u,s⟩:=h
  obtain rfl : k=4:=h1.trans hk4
  refine uA ?_
  refine oB (fun b => ?_)
  refine uL ?_
  refine qs rfl (cq tab rInt (hs:=[3,5]) (l:=[3,5]) ⟨rfl,rfl,trivial⟩ rfl rfl rfl rfl rfl (by decide) (fun s1 m1 hm1 hs1 _ _ => ?_))
  refine uA ?_
  exact bu rfl uS ⟨hm1,rfl,s1,rfl,hs1⟩
 rw [if_neg hk4]
 by_cases hk5 : a.kind=5
 ·rw [if_pos hk5]
  obtain ⟨k,n,u,s⟩:=h
  obtain rfl : k=5:=h1.trans hk5
  refine uA ?_
  refine oB (fun b => ?_)
  refine uL ?_
  refine qs rfl (cq tab rInt (hs:=[14,3,5]) (l:=[14,3,5]) ⟨rfl,rfl,rfl,trivial⟩ rfl rfl rfl rfl rfl (by decide) (fun s1 m1 hm1 hs1 _ _ => ?_))
  refine uA ?_
  exact bu rfl uS ⟨hm1,rfl,s1,rfl,hs1⟩
 rw [if_neg hk5]
 refine uA ?_
 refine oB (fun b => ?_)
 refine uL ?_
 refine bq rfl (fun h5 => ?_) (fun h5 => ?_)
 ·omega
 refine uA ?_
 refine bq rfl (fun h5 => ?_) (fun h5 => ?_)
 ·omega
 refine uA ?_
 refine bq rfl (fun h5 => ?_) (fun h5 => ?_)
 ·omega
 refine uA ?_
 refine bq rfl (fun h5 => ?_) (fun h5 => ?_)
 ·omega
 refine uA ?_
 exact bu rfl uS ⟨bm _,rfl,⟨none,0,0⟩,rfl,bN _ _⟩
theorem shape_k2 (a : Tree) (m : Mem) (L : List Item) (h : HTree) (hr : TreeRep m h a) : TCall Tryz.prog 125 ⟨[treeV h, .int .i64 2]⟩ m L (ShapeIs m L (shTyp a)):=by
 have hr':=hr
 obtain ⟨h1,h2,h3,h4⟩:=hr
 have hl:=h4.len
 have hsm:=h4.small rfl
 unfold TCall
 unfold shTyp
 refine bw Tryz.func125 rfl 236 rfl ?_
 by_cases hk10 : a.kind=10
 ·rw [if_pos hk10]
  obtain ⟨k,n,u,s⟩:=h
  obtain rfl : k=10:=h1.trans hk10
  refine uA ?_
  refine oB (fun b => ?_)
  refine uL ?_
  exact bu rfl uS ⟨bm _,rfl,⟨none,0,0⟩,rfl,bN _ _⟩
 rw [if_neg hk10]
 by_cases hk : a.kind=11 ∨ a.kind=12
 ·rw [if_pos hk]
  obtain ⟨k,n,u,s⟩:=h
  rcases hk with hk | hk
  ·obtain rfl : k=11:=h1.trans hk
   refine uA ?_
   refine oB (fun b => ?_)
   refine uL ?_
   refine qs rfl (cq tab rInt (hs:=[2]) (l:=[2]) ⟨rfl,trivial⟩ rfl rfl rfl rfl rfl (by decide) (fun s1 m1 hm1 hs1 _ _ => ?_))
   refine uA ?_
   exact bu rfl uS ⟨hm1,rfl,s1,rfl,hs1⟩
  ·obtain rfl : k=12:=h1.trans hk
   refine uA ?_
   refine oB (fun b => ?_)
   refine uL ?_
   refine qs rfl (cq tab rInt (hs:=[2]) (l:=[2]) ⟨rfl,trivial⟩ rfl rfl rfl rfl rfl (by decide) (fun s1 m1 hm1 hs1 _ _ => ?_))
   refine uA ?_
   exact bu rfl uS ⟨hm1,rfl,s1,rfl,hs1⟩
 rw [if_neg hk]
 by_cases hk13 : a.kind=13
 ·rw [if_pos hk13]
  obtain ⟨k,n,u,s⟩:=h
  obtain rfl : k=13:=h1.trans hk13
  simp only at h2 h3 h4 hl
  subst h3
  refine uA ?_
  refine oB (fun b => ?_)
  refine uL ?_
  refine bR [] cr 15 rfl ?_
  refine bV tab uC uK [0] uK rfl ?_
  (refine bW tab 1 0 uC uK uK rfl rfl rfl rfl rfl rfl rfl rfl ?_)
  refine bV tab uC uK [2,3] uK rfl ?_
  (refine DO.splitP (d:=212) rfl (fun hg3 => ?_) (fun hg3 => ?_))
  refine bV tab uC uK [4] uK rfl ?_
  (refine bW tab 5 0 uC uK uK rfl rfl rfl rfl rfl rfl rfl rfl ?_)
  refine bV tab uC uK [6] uK rfl ?_
  (refine bW tab 7 0 uC uK uK rfl rfl rfl rfl rfl rfl rfl rfl ?_)
  refine bV tab uC uK [8,9,10,11,12,13,14] uK rfl ?_
  (refine ca uK ?_)
  rotate_left 1
  refine bV tab uC uK [4,5,6,7,8,9,10,11,12,13,14] uK rfl ?_
  (refine ca uK ?_)
  rotate_left 1
  ·refine uA ?_
   refine bu rfl uS ⟨bm _,rfl,⟨none,0,0⟩, ?_,bN _ _⟩
   rw [← hl,aH hg3];rfl
  ·refine uA ?_
   refine bu rfl uS ⟨bm _,rfl,⟨none,0,0⟩, ?_,bN _ _⟩
   rw [← hl,aI hg3];rfl
 rw [if_neg hk13]
 refine uA ?_
 refine oB (fun b => ?_)
 refine uL ?_
 refine bq rfl (fun h5 => ?_) (fun h5 => ?_)
 ·omega
 refine uA ?_
 refine bq rfl (fun h5 => ?_) (fun h5 => ?_)
 ·omega
 refine uA ?_
 refine bq rfl (fun h5 => ?_) (fun h5 => ?_)
 ·omega
 refine uA ?_
 refine bq rfl (fun h5 => ?_) (fun h5 => ?_)
 ·omega
 refine uA ?_
 exact bu rfl uS ⟨bm _,rfl,⟨none,0,0⟩,rfl,bN _ _⟩
end Go.Sep


/- PrSnd -/
namespace Go.Sep
open Go.Proofs
attribute [local irreducible] TC TO OT TCallX TCall DO DOt thenQ blockQ retQ At
theorem shape_law (k : Int) (hk : Srt k) (a : Tree) (m : Mem) (L : List Item) (h : HTree) (hr : TreeRep m h a) : TCall Tryz.prog 125 ⟨[treeV h, .int .i64 k]⟩ m L (ShapeIs m L (shapeR levelD k a)):=by
 have hk : k=1 ∨ k=2 ∨ k=3 ∨ k=4 ∨ k=5 ∨ k=6 ∨ k=7 ∨ k=8 ∨ k=9 ∨ k=10 ∨ k=11 ∨ k=12 ∨ k=13 ∨ k=14:=by
  obtain ⟨h1,h2⟩:=hk;omega
 rcases hk with rfl | rfl | rfl | rfl | rfl | rfl | rfl | rfl | rfl | rfl | rfl | rfl | rfl | rfl
 ·exact shape_k1 a m L h hr
 ·exact shape_k2 a m L h hr
 ·exact shape_k3 a m L h hr
 ·exact shape_k4 a m L h hr
 ·exact shape_k5 a m L h hr
 ·exact shape_stmt levelD a m L h hr
 ·exact shape_expr levelD level_law a m L h hr
 ·exact shape_k8 a m L h hr
 ·exact shape_k9 a m L h hr
 ·exact shape_k10 levelD level_law a m L h hr
 ·exact shape_k11 a m L h hr
 ·exact shape_k12 levelD level_law a m L h hr
 ·exact shape_k13 levelD a m L h hr
 ·exact shape_k14 a m L h hr
theorem text_ok (lv : Str→Nat) (k : Int) (a : Tree) : (shapeR lv k a).text=0 ∨ (shapeR lv k a).text=1 ∨ (shapeR lv k a).text=2:=by
 have t_if : ∀ {c : Prop} [Decidable c] {x y : Shape},(x.text=0 ∨ x.text=1 ∨ x.text=2)→(y.text=0 ∨ y.text=1 ∨ y.text=2)→((if c then x else y).text=0 ∨ (if c then x else y).text=1 ∨ (if c then x else y).text=2):=fun {c} _ {x y} h1 h2=>by
  by_cases h : c
  ·rw [if_pos h];exact h1
  ·rw [if_neg h];exact h2
 have he : (shExpr lv a).text=0 ∨ (shExpr lv a).text=1 ∨ (shExpr lv a).text=2:=by
  unfold shExpr
  repeat' first | refine t_if ?_ ?_ | exact .inl rfl | exact .inr (.inl rfl) | exact .inr (.inr rfl)
 have hs : (shStmt lv a).text=0 ∨ (shStmt lv a).text=1 ∨ (shStmt lv a).text=2:=by
  unfold shStmt
  repeat' first | refine t_if ?_ ?_ | exact .inl rfl | exact .inr (.inl rfl) | exact .inr (.inr rfl)
 have hd : (shDecl a).text=0 ∨ (shDecl a).text=1 ∨ (shDecl a).text=2:=by
  unfold shDecl
  repeat' first | refine t_if ?_ ?_ | exact .inl rfl | exact .inr (.inl rfl) | exact .inr (.inr rfl)
 have ht : (shTyp a).text=0 ∨ (shTyp a).text=1 ∨ (shTyp a).text=2:=by
  unfold shTyp
  repeat' first | refine t_if ?_ ?_ | exact .inl rfl | exact .inr (.inl rfl) | exact .inr (.inr rfl)
 unfold shapeR
 repeat' first | exact he | exact hs | exact hd | exact ht | refine t_if ?_ ?_ | exact .inl rfl | exact .inr (.inl rfl) | exact .inr (.inr rfl)
theorem isn_law : ∀ (n : Nat) (k : Int) (a : Tree),Srt k→a.deep ≤ n→a.bulk ≤ 1048576 → ∀ (m : Mem) (L : List Item) (h : HTree),TreeRep m h a→TCall Tryz.prog 78 ⟨[treeV h, .int .i64 k]⟩ m L (Ret (.bool (isD levelD n k a)) m L)
 | 0,k,a,_,hd,_,m,L,h,hr=>by have:=deep_pos a;omega
 | n + 1,k,a,hk,hd,hB,m,L,h,hr=>is_walk k a m L h hr hB (shapeR levelD k a) (fun m L hr=>shape_law k hk a m L h hr) (text_ok levelD k a) (isD levelD n) fun hf i hi m L h' hr' =>
   isn_law n _ a.kids[i] (want_ok (shapeR_ok levelD k a) hf hi) (by have:=deep_of_kid (aB hi);omega) (aw (Nat.le_of_lt (bulk_kid (aB hi))) hB) m L h' hr'
theorem rsound_law (a : Tree) (m : Mem) (L : List Item) (h : HTree) (hr : TreeRep m h a) (hB : a.bulk ≤ 1048576) : TCall Tryz.prog 42 ⟨[treeV h]⟩ m L (Ret (.bool (soundB a)) m L):=by
 rw [← rsound_eq]
 have hr':=hr
 obtain ⟨h1,h2,h3,h4⟩:=hr
 have hl:=h4.len
 have hsm:=h4.small rfl
 refine cg ?_
 unfold TCall rsoundB
 rw [← h1,← h2,← h3]
 refine bw Tryz.func42 rfl 36 rfl ?_
 refine uA ?_
 refine oB (fun b => ?_)
 refine uL ?_
 (refine bC rfl rfl (fun c1 => ?_) (fun c1 => ?_))
 ·skip
  refine uA ?_
  refine bu rfl uS ⟨bm _,rfl, ?_⟩
  simp_all
 refine uL ?_
 (refine bC rfl rfl (fun c2 => ?_) (fun c2 => ?_))
 ·skip
  refine uA ?_
  refine bu rfl uS ⟨bm _,rfl, ?_⟩
  simp_all
 refine uL ?_
 (refine bC rfl rfl (fun c3 => ?_) (fun c3 => ?_))
 ·skip
  refine uA ?_
  refine bu rfl uS ⟨bm _,rfl, ?_⟩
  simp_all
 refine uL ?_
 refine oC goes77 ((within_ref a _ _ h hr' hB 0 0 (by decide) (by decide)).x ?_);
 rintro _ _ _ ⟨rfl,rfl,rfl⟩
 refine uA ?_
 refine bo (t := !withinB a 0 0) rfl (fun c4 => ?_) (fun c4 => ?_)
 ·skip
  refine uA ?_
  refine bu rfl uS ⟨bm _,rfl, ?_⟩
  simp_all
 ·have c4' : withinB a 0 0=true:=by simpa using c4
  have hd : a.deep ≤ 100:=by rw [withinB_eq] at c4';simp only [aj,ao] at c4';omega
  rw [aH c1,aH c2,aH c3,c4']
  refine uA ?_
  refine br (ι:=Nat) [1] rfl (fun i=>[(3, .int .i64 (i : Int))]) (fun _=>m) (fun _ => .cells b 0 (treeC h) :: L) (fun i=>i ≤ a.kids.length∧a.kids.all (isD levelD 100 1)=(a.kids.drop i).all (isD levelD 100 1)) (fun i=>a.kids.length - i) 0 uH rfl uS ⟨aU _,rfl⟩ ?_
  rintro i ⟨hi,hI⟩
  refine uL ?_
  refine bq rfl (fun hik => ?_) (fun hik => ?_)
  ·have hilt : i < a.kids.length:=by omega
   have hxi : a.kids[i]? = some a.kids[i]:=by simp [hilt]
   rw [aJ hilt,aY] at hI
   refine uL ?_
   refine qs rfl (bO tab rTree i h4 rfl rfl rfl rfl rfl (by first | rfl | omega | (simp only;omega)) rfl hxi ?_)
   rintro b4 i4 h' hr4 hA4
   (refine oL tab hA4 ?_)
   refine uA ?_
   refine oC goes78 ((isn_law 100 1 a.kids[i] ⟨by decide,by decide⟩ (by have:=deep_of_kid (aB hilt);omega) (aw (Nat.le_of_lt (bulk_kid (aB hilt))) hB) _ _ h' (rTree_iff.1 hr4)).x ?_);
   rintro _ _ _ ⟨rfl,rfl,rfl⟩
   refine uA ?_
   refine bo (t := !isD levelD 100 1 a.kids[i]) rfl (fun hpb => ?_) (fun hpb => ?_)
   ·refine uA ?_
    refine bu rfl uS ⟨bm _,rfl, ?_⟩
    rw [hI,show isD levelD 100 1 a.kids[i]=false by simpa using hpb];rfl
   ·refine uA ?_
    refine qs rfl (bK (r':=((i + 1 : Nat) : Int)) rfl rfl rfl rfl rfl rfl rfl (by omega) ?_)
    refine uA ?_
    exact ⟨i + 1,uH,uH,rfl,rfl,uS,⟨by omega,by rw [hI,show isD levelD 100 1 a.kids[i]=true by simpa using hpb,aF]⟩,by omega⟩
  ·refine uA ?_
   refine bu rfl uS ⟨bm _,rfl, ?_⟩
   rw [hI,aS (by omega)];rfl
end Go.Sep


/- PtNum -/
namespace Go.Pt
open Go.Sep Go.Ps
variable {α β : Type}
def FN (f : F) : Prop := ∀ i t,f i=some t→t.kind=2→t.num < 9223372036854775808
def Sn (w : α → Prop) (p : Pp α) : Prop := ∀ f,FN f → ∀ k a k',p f k = .ok a k' → w a
theorem Sn.ret {w : α → Prop} {a : α} (h : w a) : Sn w (ret a):=fun f _ k b k' e=>by injection e with e1 e2;subst e1;exact h
theorem Sn.fail {w : α → Prop} : Sn w (fail : Pp α):=fun f _ k a k' e=>by cases e
theorem Sn.dry {w : α → Prop} : Sn w (dry : Pp α):=fun f _ k a k' e=>by cases e
theorem Sn.mono {w w' : α → Prop} {p : Pp α} (h : Sn w p) (hw : ∀ a,w a→w' a) : Sn w' p:=fun f hf k a k' e=>hw a (h f hf k a k' e)
theorem Sn.bind {w1 : α → Prop} {w : β → Prop} {p : Pp α} {g : α → Pp β} (hp : Sn w1 p) (hg : ∀ a,w1 a→Sn w (g a)) : Sn w (Ps.bind p g):=fun f hf k b k' e=>by
 unfold Ps.bind at e
 cases hx : p f k with
 | ok a k1=>simp only [hx] at e;exact hg a (hp f hf k a k1 hx) f hf k1 b k' e
 | bad k1=>simp only [hx] at e;cases e
 | out=>simp only [hx] at e;cases e
theorem Sn.tok {w : α → Prop} {s : Str} {A B : Pp α} (hA : Sn w A) (hB : Sn w B) : Sn w (Ps.tok s A B):=fun f hf k a k' e=>by
 unfold Ps.tok at e
 cases hb : isM s f k with
 | true=>simp only [hb,bh] at e;exact hA f hf _ a k' e
 | false=>simp only [hb,bg] at e;exact hB f hf k a k' e
theorem Sn.need {w : α → Prop} {s : Str} {A : Pp α} (hA : Sn w A) : Sn w (need s A):=Sn.tok hA Sn.fail
theorem Sn.tkn {w : α → Prop} {n : Int} {A : Tk→Pp α} {B : Pp α} (hA : ∀ t : Tk,(t.kind=2→t.num < 9223372036854775808)→t.kind=n→Sn w (A t)) (hB : Sn w B) : Sn w (tkn n A B):=fun f hf k a k' e=>by
 unfold Ps.tkn at e
 cases hx : f k with
 | none=>simp only [hx] at e;exact hB f hf k a k' e
 | some t =>
  cases hb : decide (t.kind=n) with
  | true=>simp only [hx,hb,bh] at e;exact hA t (hf k t hx) (of_decide_eq_true hb) f hf _ a k' e
  | false=>simp only [hx,hb,bg] at e;exact hB f hf k a k' e
theorem Sn.name {w : α → Prop} {A : Str→Pp α} (hA : ∀ t,Sn w (A t)) : Sn w (name A):=Sn.tkn (fun t ht hk=>hA t.text) Sn.fail
theorem Sn.oneOf {w : α → Prop} {ops : List Str} {A : Str→Pp α} {B : Pp α} (hA : ∀ t,Sn w (A t)) (hB : Sn w B) : Sn w (oneOf ops A B):=fun f hf k a k' e=>by
 unfold Ps.oneOf at e
 cases hx : ops.find? (fun s=>isM s f k) with
 | none=>simp only [hx] at e;exact hB f hf k a k' e
 | some t=>simp only [hx] at e;exact hA t f hf _ a k' e
theorem Sn.peek {w : α → Prop} {q : F→Nat→Bool} {A B : Pp α} (hA : Sn w A) (hB : Sn w B) : Sn w (peek q A B):=fun f hf k a k' e=>by
 unfold Ps.peek at e
 cases hb : q f k with
 | true=>simp only [hb,bh] at e;exact hA f hf k a k' e
 | false=>simp only [hb,bg] at e;exact hB f hf k a k' e
theorem Sn.tokIf {w : α → Prop} {x : Bool} {s : Str} {A B : Pp α} (hA : Sn w A) (hB : Sn w B) : Sn w (tokIf x s A B):=by
 cases x with
 | true=>exact Sn.tok hA hB
 | false=>exact hB
@[reducible] def Nu (a : Tree) : Prop:=numB2 a=true
def Nl (l : List Tree) : Prop := ∀ a ∈ l,Nu a
theorem Nl.nil : Nl []:=fun _ h=>by cases h
theorem Nl.cons {a : Tree} {l : List Tree} (h : Nu a) (hl : Nl l) : Nl (a :: l):=fun b hb=>by
 rcases List.mem_cons.1 hb with rfl | hb
 ·exact h
 ·exact hl b hb
theorem Nl.app {l r : List Tree} (hl : Nl l) (hr : Nl r) : Nl (l++r):=fun b hb=>by
 rcases List.mem_append.1 hb with hb | hb
 ·exact hl b hb
 ·exact hr b hb
theorem nl_of : ∀ {l : List Tree},Nl l→numL l=true
 | [],_=>rfl
 | a :: l,h=>by rw [numL,show numB2 a=true from h a (by simp),nl_of fun x hx=>h x (by simp [hx])];rfl
theorem nu {k : Int} {n : Str} {u : Int} {ks : List Tree} (h : k ≠ 40 ∨ u < 9223372036854775808) (hk : Nl ks) : Nu (.mk k n u ks):=by
 show numB2 _=true
 rw [numB2,nl_of hk,aE]
 rcases h with h | h
 ·rw [aI h];rfl
 ·rw [aH h,Bool.or_true]
section
variable {N : Nat}
theorem one {k : Int} {n : Str} {u : Int} {t : Tree} (h : k ≠ 40) (ht : Nu t) : Nu (.mk k n u [t]):=nu (.inl h) (Nl.nil.cons ht)
structure GN (g : Gr) : Prop where
 typ : Sn Nu g.typ
 block : Sn Nu g.block
 stmt : Sn Nu g.stmt
 branch : Sn Nu g.branch
 expr : ∀ b,Sn Nu (g.expr b)
 unary : ∀ b,Sn Nu (g.unary b)
end
end Go.Pt


/- PtTextW -/
namespace Go.Sep
open Go.Proofs
attribute [local irreducible] TC TO OT TCallX TCall DO DOt thenQ blockQ retQ At
def outD (x : Str) : Str × Int:=if 65536 < (trimD x [32]).length then ([],4) else (trimD x [32],0)
theorem text_w (m : Mem) (L : List Item) (bd : Nat) (q : Option Addr) (s : Sl) (x : Str) (hB : BOk m bd q s x) (hl : x.length ≤ 140737488355328) :
  TCall Tryz.prog 38 ⟨[bdV bd]⟩ m (bdL bd q s L) (Ret (.tuple ⟨[strV (outD x).1, .int .i64 (outD x).2]⟩) m L):=by
 unfold TCall
 refine bw Tryz.func38 rfl 14 rfl ?_
 refine uA ?_
 refine oC goes70 ((string_law _ _ bd q s x hB).x ?_);
 rintro _ _ _ ⟨rfl,rfl,rfl⟩
 refine uA ?_
 refine oC goes69 ((trim_law _ _ x [32] hl).x ?_);
 rintro _ _ _ ⟨rfl,rfl,rfl⟩
 refine uA ?_
 refine bq rfl (fun h1 => ?_) (fun h1 => ?_)
 ·refine uA ?_
  refine bu rfl uS ⟨rfl,rfl, ?_⟩
  unfold outD
  rw [if_pos (by omega)]
 ·refine uA ?_
  refine bu rfl uS ⟨rfl,rfl, ?_⟩
  unfold outD
  rw [if_neg (by omega)]
def textD (a : Tree) : Str × Int:=if soundB a=true then outD (putT (Pt.toks a)) else ([],2)
theorem putT_len {n : Nat} {l : List Ps.Tk} (h : Pt.AllV n l) : (putT l).length ≤ 4200 * n:=by
 have h1 : ∀ t,Pt.TkV t→(putS (Pt.txt t)).length ≤ 4200:=fun t ht=>by
  have h2 : (Pt.txt t).length ≤ 4100:=by
   rcases ht with ⟨a,b,_⟩ | ⟨a,b,c,d⟩ | ⟨a,b,_⟩ | ⟨a,b,_⟩ | ⟨a,b,_⟩
   ·obtain ⟨_,_,_,_,_,h64,_⟩:=Pt.name_head b
    unfold Pt.txt;rw [if_neg (by omega),if_neg (by omega)];omega
   ·unfold Pt.txt;rw [if_pos a]
    have : ∀ (f n : Nat),(Pt.digF f n).length ≤ f:=by
     intro f
     induction f with
     | zero=>intro n;simp [Pt.digF]
     | succ f ih =>
      intro n
      unfold Pt.digF
      split
      ·simp
      ·have:=ih (n / 10)
       simp
       omega
    have:=this 20 t.num.toNat
    unfold Pt.digN;omega
   ·unfold Pt.txt;rw [if_neg (by omega),if_pos a,quoteD_len]
    have:=quoteB_len t.text
    omega
   ·have : ∀ m ∈ markL,m.length ≤ 2:=by decide
    have:=this _ b
    unfold Pt.txt;rw [if_neg (by omega),if_neg (by omega)];omega
   ·have : ∀ m ∈ wordL,m.length ≤ 20:=by decide
    have:=this _ b
    unfold Pt.txt;rw [if_neg (by omega),if_neg (by omega)];omega
  unfold putS;simp;omega
 have h3 : ∀ l : List Ps.Tk,(∀ t ∈ l,Pt.TkV t)→(putT l).length ≤ 4200 * l.length:=by
  intro l
  induction l with
  | nil=>intro _;simp [putT_nil]
  | cons t l ih =>
   intro hl
   rw [putT_cons,aa]
   have:=ih fun x hx=>hl x (by simp [hx])
   have:=h1 t (hl t (by simp))
   simp only [ab];omega
 have:=h3 l h.v
 have:=h.len
 omega
theorem flat_le (ks : List Tree) (i : Nat) : (putT ((ks.take i).map Pt.toks).flatten).length ≤ (putT (ks.map Pt.toks).flatten).length:=by
 conv=>rhs;rw [← aV i ks]
 rw [aZ,List.flatten_append,cv,aa];omega
theorem Text_law (m : Mem) (L : List Item) (a : Tree) (h : HTree) (hT : Tb m) (hr : TreeRep m h a) (hB0 : a.wide ≤ 140737488355328) (hnum : Pt.numB2 a=true) :
  TCall Tryz.prog 16 ⟨[treeV h]⟩ m L (Made m L fun r _=>r = .tuple ⟨[strV (textD a).1, .int .i64 (textD a).2]⟩):=by
 have hr':=hr
 unfold TCall
 refine bw Tryz.func16 rfl 27 rfl ?_
 refine uA ?_
 refine oB (fun b => ?_)
 refine uL ?_
 refine oC goes18 ((sound_law a _ _ h hr' hB0).x ?_);
 rintro _ _ _ ⟨rfl,rfl,rfl⟩
 refine uA ?_
 refine bo (t := !soundB a) rfl (fun hs => ?_) (fun hs => ?_)
 ·refine uA ?_
  refine bu rfl uS ⟨bm _,rfl, ?_⟩
  rw [textD,if_neg (by simpa using hs)]
 ·have hs' : soundB a=true:=by simpa using hs
  obtain ⟨ds,rfl,g1,g2,g3⟩:=Pt.soundB_f hs'
  have hv:=Pt.v_prog hnum hs'
  have hlen0 : (putT (ds.map Pt.toks).flatten).length ≤ 140737488355328:=by
   have:=putT_len hv
   have:=size_kids (.mk 1 [] 0 ds)
   simp only [Tree.kids] at this
   omega
  have et : Pt.toks (.mk 1 [] 0 ds)=(ds.map Pt.toks).flatten:=by rw [Pt.toks_eq];rfl
  obtain ⟨h1,h2,h3,h4⟩:=hr
  have hlen:=h4.len
  have hsm:=h4.small rfl
  have hm:=bm m
  have hTm : TbM Tb m:=⟨fun h=>tbOk.mono hT h⟩
  refine uA ?_
  refine qs rfl (OT.boxT rfl rfl rfl rfl rfl (fun bd ma hma hty => ?_))
  refine TO.grow0 (size:=1) ?_
  refine bD (ag _ _ _) ?_
  have hB : BOk ma bd none ⟨none,0,0⟩ []:=⟨⟨_,hty,by kernel_rfl⟩, .inl rfl,bN _ _,Own.nil,fun b o e=>(by cases e),fun _=>rfl⟩
  replace hm:=bn hm hma
  refine uA ?_
  refine qs rfl (OT.loadL tab 2 rfl rfl rfl rfl rfl rfl ?_)
  refine uA ?_
  refine br (ι:=PS) [1,4,13,14] rfl (fun g=>[(15, .int .i64 (g.i : Int))]) (fun g=>g.m) (fun g=>bdL bd g.q g.s (.cells b 0 (treeC h) :: L)) (fun g=>m ≤ g.m∧g.i ≤ ds.length∧BOk g.m bd g.q g.s (putT ((ds.take g.i).map Pt.toks).flatten)) (fun g=>ds.length - g.i) ⟨ma,none,⟨none,0,0⟩,0⟩ uH rfl uS ⟨hm,aU _,hB.cast (by simp [putT_nil])⟩ ?_
  rintro ⟨m1,q,s,i⟩ ⟨hm,hi,hB⟩
  simp only at hm hi hB
  simp only [Tree.kids] at hlen hsm
  refine uA ?_
  refine bq rfl (fun h5 => ?_) (fun h5 => ?_)
  ·simp only at h5
   have hlt : i < ds.length:=by omega
   have hxi : ds[i]? = some ds[i]:=ak hlt
   have hc:=flat_next ds i hlt
   have hle:=flat_le ds (i + 1)
   rw [hc,cv,aa] at hle
   have h4c:=h4.mono hm
   refine uA ?_
   refine qs rfl (bO tab rTree i h4c rfl rfl rfl rfl rfl (by first | rfl | omega | (simp only;omega)) rfl hxi ?_)
   rintro b7 i7 h7 hr7 hA7
   (first | refine qs rfl (OT.loadA tab hA7 rfl rfl rfl rfl rfl ?_) | refine oL tab hA7 ?_)
   refine oA tab (fun b5 => ?_)
   refine uA ?_
   refine uT ?_
   refine bD pq3 ?_
   refine uA ?_
   refine uM ?_
   refine uA ?_
   refine oC goes37 ((decl_w tbOk itoa_law ds[i] (Pt.num_kid hnum (aB hlt)) (g3 _ (aB hlt)) _ _ bd q s _ h7 (hTm.mono hm) hB (rTree_iff.1 hr7) (by omega)).x ?_);
   rintro _ m2 _ ⟨hm2,s,q,rfl,hB⟩
   refine uA ?_
   refine qs rfl (bK (r':=((i + 1 : Nat) : Int)) rfl rfl rfl rfl rfl rfl rfl (by omega) ?_)
   refine uA ?_
   refine ⟨⟨m2,q,s,i + 1⟩,uH,uH,rfl,rfl,uS,⟨bn hm hm2,by simp only;omega,hB.cast ?_⟩,by simp only;omega⟩
   rw [hc,cv]
  ·simp only at h5
   rw [aT (by omega)] at hB
   refine uA ?_
   refine oC goes38 ((text_w _ _ bd q s _ hB hlen0).x ?_);
   rintro _ _ _ ⟨rfl,rfl,rfl⟩
   refine uA ?_
   refine bu rfl uS ⟨hm,rfl, ?_⟩
   rw [textD,if_pos hs',et]
end Go.Sep


/- PsRec -/
namespace Go.Sep
open Go.Proofs
attribute [local irreducible] TC TO OT TCallX TCall DO DOt thenQ blockQ retQ At
theorem start_ok {P : Program} {vs : List Value} {m : Mem} {L : List Item} {w : World} {n N : Nat} (hN : N ≤ n) (hs : St m w L) : Ok N (argEnv vs 0) [] m L { tmps:=⟨vs⟩ ++ Array.replicate (n - (⟨vs⟩ : Array Value).size) undef,defers:=[] } w:=by
 refine ⟨?_, ?_,rfl,hs⟩
 ·simp
  omega
 ·intro i v hv
  have:=(look_argEnv vs 0 i v hv).2
  have hi : i < vs.length:=by have:=(List.getElem?_eq_some_iff.1 this).1;simpa using this
  have h2 : vs[i]? = some v:=by simpa using this
  rw [Array.getElem?_append_left (by simpa using hi)]
  simpa using h2
theorem rec_idle (a b c : Nat) (m : Mem) (L : List Item) (w : World) (hs : St m w L) :
  CallsD Tryz.prog 30 ⟨[.pointer (some ⟨a,0,none⟩), .pointer (some ⟨b,0,none⟩), .pointer (some ⟨c,0,none⟩)]⟩ .returning w fun e u' w' => ∃ v,e = .returned v∧u' = .returning∧St m w' L:=by
 refine callsD_of_wpS Tryz.func30 rfl fun c₀ cs hu => ?_
 have h0:=start_ok (P:=Tryz.prog) (vs:=[.pointer (some ⟨a,0,none⟩), .pointer (some ⟨b,0,none⟩), .pointer (some ⟨c,0,none⟩)]) (n:=20) (N:=20) (av _) hs
 have hrp : recPair (c₀ :: cs)=(.nilIface,c₀ :: cs):=by simp [recPair,recoverD,hu]
 have hc : ({ c₀ with mode := .returning } : Frame)=c₀:=by rw [← hu]
 apply wpS_seq
 refine wpS_rec (d0:=6) (d1:=3) rfl rfl rfl rfl rfl rfl (aR (by decide : 6 < 20) h0.size) ?_
 rw [hrp]
 show Code.wpS _ _ _ _ _ _
 rw [← hc]
 refine wpS_TC (R:=Ret (.tuple ⟨[]⟩) m L) ?_ ((h0.put (d:=6) rfl .nilIface).put (d:=3) rfl .nilIface) ?_
 ·refine uA ?_
  refine qs rfl (OT.errNe tab rfl rfl rfl rfl (.inl rfl) rfl rfl ?_)
  refine uA ?_
  refine bv rfl uS ⟨rfl,rfl,rfl⟩
 ·rintro v m' L' w' ⟨rfl,rfl,rfl⟩ hst
  exact ⟨_,rfl,rfl,hst⟩
theorem rec_fault (a b c : Nat) (m : Mem) (L : List Item) (w : World) (x : Int) (va vb vc : List Value) (ha : va.length=4) (hb : vb.length=1) (hcl : vc.length=1) (hs : St m w (.cells a 0 va :: .cells b 0 vb :: .cells c 0 vc :: L)) :
  CallsD Tryz.prog 30 ⟨[.pointer (some ⟨a,0,none⟩), .pointer (some ⟨b,0,none⟩), .pointer (some ⟨c,0,none⟩)]⟩ (.panicking [{ v := .iface 53 (.agg ⟨[.int .i64 x]⟩),recovered:=false }]) w fun e u' w' =>
   ∃ v,e = .returned v∧u' = .panicking [{ v := .iface 53 (.agg ⟨[.int .i64 x]⟩),recovered:=true }]∧St m w' (.cells a 0 [.int .i64 0,strV [], .int .i64 0, .slice none 0 0] :: .cells b 0 [.int .i64 x] :: .cells c 0 [.int .i64 3] :: L):=by
 refine callsD_of_wpS Tryz.func30 rfl fun c₀ cs hu => ?_
 have h0:=start_ok (P:=Tryz.prog) (vs:=[.pointer (some ⟨a,0,none⟩), .pointer (some ⟨b,0,none⟩), .pointer (some ⟨c,0,none⟩)]) (n:=20) (N:=20) (av _) hs
 have hrp : recPair (c₀ :: cs)=(.iface 53 (.agg ⟨[.int .i64 x]⟩),{ c₀ with mode := .panicking [{ v := .iface 53 (.agg ⟨[.int .i64 x]⟩),recovered:=true }] } :: cs):=by simp [recPair,recoverD,hu]
 apply wpS_seq
 refine wpS_rec (d0:=6) (d1:=3) rfl rfl rfl rfl rfl rfl (aR (by decide : 6 < 20) h0.size) ?_
 rw [hrp]
 show Code.wpS _ _ _ _ _ _
 obtain ⟨v0,v1,v2,v3,rfl⟩ : ∃ v0 v1 v2 v3,va=[v0,v1,v2,v3]:=by
  match va,ha with
  | [v0,v1,v2,v3],_=>exact ⟨_,_,_,_,rfl⟩
 obtain ⟨vb,rfl⟩:=List.length_eq_one_iff.1 hb
 obtain ⟨vc,rfl⟩:=List.length_eq_one_iff.1 hcl
 refine wpS_TC (R:=fun r m' L'=>r = .tuple ⟨[]⟩ ∧ m' = m∧L' = .cells a 0 [.int .i64 0,strV [], .int .i64 0, .slice none 0 0] :: .cells b 0 [.int .i64 x] :: .cells c 0 [.int .i64 3] :: L) ?_ ((h0.put (d:=6) rfl _).put (d:=3) rfl _) ?_
 ·refine uA ?_
  refine qs rfl (OT.errNe tab rfl rfl rfl rfl (.inr ⟨_,_,rfl⟩) rfl rfl ?_)
  refine uA ?_
  refine qs rfl (OT.assertOk tab rfl rfl rfl rfl rfl ?_)
  refine uA ?_
  refine oA tab (fun b4 => ?_)
  refine uA ?_
  refine uT ?_
  refine uA ?_
  refine bQ [] cr 6 rfl [] (.cells b4 0 [.int .i64 x] :: .cells a 0 [v0,v1,v2,v3] :: .cells b 0 [vb] :: .cells c 0 [vc] :: L) (af _) ?_
  refine bV tab uC uK [0,1] uK rfl ?_
  refine DO.fork 2 [3] uK ⟨⟨_,rfl,rfl,rfl, ?_⟩,⟨_,rfl,rfl,rfl, ?_⟩,trivial⟩
  ·refine OT.loadL0 tab 0 rfl rfl rfl rfl rfl rfl ?_
   refine ⟨bm _,_,af _, ?_⟩
   refine bZ 3 rfl rfl uK rfl ?_
   refine bJ tab 1 rfl rfl rfl rfl rfl rfl rfl rfl ?_
   refine ⟨bm _,_,af _, ?_⟩
   refine bZ 4 rfl rfl uK rfl ?_
   refine bJ tab 2 rfl rfl rfl rfl rfl rfl rfl rfl ?_
   refine ⟨bm _,_,af _, ?_⟩
   refine bZ 5 rfl rfl uK rfl ?_
   refine bJ tab 3 rfl rfl rfl rfl rfl rfl rfl rfl ?_
   refine ⟨bm _,_,af _, ?_⟩
   refine cb uK ?_
   refine bv rfl (L' := .cells a 0 [.int .i64 0,strV [], .int .i64 0, .slice none 0 0] :: .cells b 0 [.int .i64 x] :: .cells c 0 [.int .i64 3] :: L) uS ⟨rfl,rfl,rfl⟩
  ·refine bJ tab 1 rfl rfl rfl rfl rfl rfl rfl rfl ?_
   refine ⟨bm _,_,af _, ?_⟩
   refine bZ 2 rfl rfl uK rfl ?_
   refine OT.loadL0 tab 0 rfl rfl rfl rfl rfl rfl ?_
   refine ⟨bm _,_,af _, ?_⟩
   refine bZ 4 rfl rfl uK rfl ?_
   refine bJ tab 2 rfl rfl rfl rfl rfl rfl rfl rfl ?_
   refine ⟨bm _,_,af _, ?_⟩
   refine bZ 5 rfl rfl uK rfl ?_
   refine bJ tab 3 rfl rfl rfl rfl rfl rfl rfl rfl ?_
   refine ⟨bm _,_,af _, ?_⟩
   refine cb uK ?_
   refine bv rfl (L' := .cells a 0 [.int .i64 0,strV [], .int .i64 0, .slice none 0 0] :: .cells b 0 [.int .i64 x] :: .cells c 0 [.int .i64 3] :: L) uS ⟨rfl,rfl,rfl⟩
 ·rintro v m' L' w' ⟨rfl,rfl,rfl⟩ hst
  exact ⟨_,rfl,rfl,hst⟩
end Go.Sep


/- PsParse -/
namespace Go.Sep
open Go.Proofs
attribute [local irreducible] TC TO OT TCallX TCall DO DOt thenQ blockQ retQ At
def ParseE (a : PA) (m : Mem) (L : List Item) : Ending→World→Prop
 | .returned v,w' => ∃ m' L',St m' w' L' ∧ Made m L (ParseR a) v m' L'
 | .panicked _,_=>False
 | .outgrown,_=>False
theorem parseE_end {P : Program} {fn : Func} {a : PA} {m m' : Mem} {L : List Item} {ρ : Env} {tmps : Array Value} {w : World} {b2 b3 b4 : Nat} {x : HTree} {L' : List Item} (T : Tab P) {t2 t3 t4 : TypeId}
  (hres : fn.results = ⟨[.cell 2 t2, .cell 3 t3, .cell 4 t4]⟩) (hA : ∀ i v,look ρ i=some v→tmps[i]? = some v) (h2 : look ρ 2=some (.pointer (some ⟨b2,0,none⟩))) (h3 : look ρ 3=some (.pointer (some ⟨b3,0,none⟩))) (h4 : look ρ 4=some (.pointer (some ⟨b4,0,none⟩)))
  (l2 : T.load t2 (treeC x) 0=some (treeV x)) (l3 : T.load t3 [.int .i64 a.at_] 0=some (.int .i64 a.at_)) (l4 : T.load t4 [.int .i64 a.e] 0=some (.int .i64 a.e))
  (hst : St m' w (.cells b2 0 (treeC x) :: .cells b3 0 [.int .i64 a.at_] :: .cells b4 0 [.int .i64 a.e] :: L')) (hsub : L.Sublist L') (hm : m ≤ m') (hr : TreeRep m' x a.tree) : Leaves P fn tmps (ParseE a m L) [] .returning w:=by
 refine ⟨.tuple ⟨[treeV x, .int .i64 a.at_, .int .i64 a.e]⟩, ?_,m',L,hst.sub ?_,hm,rfl,x,rfl,hr⟩
 ·have g2:=run_loadVar (P:=P) T (k:=0) (hst.cells (i:=0) rfl) l2
  have g3:=run_loadVar (P:=P) T (k:=0) (hst.cells (i:=1) rfl) l3
  have g4:=run_loadVar (P:=P) T (k:=0) (hst.cells (i:=2) rfl) l4
  have e2:=hA 2 _ h2
  have e3:=hA 3 _ h3
  have e4:=hA 4 _ h4
  unfold results
  rw [hres,Array.mapM_eq_mapM_toList]
  simp [Sem.run_bind,Sem.run_map,e2,e3,e4,asAddr,g2,g3,g4]
 ·exact aO _ (aO _ (aO _ hsub))
theorem parse_law (hout : ∀ l : List Tok,Ps.program l.length (tkF l) 0 ≠ .out) (m : Mem) (L : List Item) (s : Str) (hE : Errs m) : TCall Tryz.prog 11 ⟨[strV s]⟩ m L (Made m L (ParseR (parseD s))):=by
 have key : ∀ w,St m w L→Calls Tryz.prog 11 ⟨[strV s]⟩ w (ParseE (parseD s) m L):=by
  intro w hst
  have hll:=scanD_len s
  refine calls_enterD Tryz.func11 rfl 31 rfl hst ?_
  refine uA ?_
  refine oA tab (fun b2 => ?_)
  refine oA tab (fun b3 => ?_)
  refine oA tab (fun b4 => ?_)
  refine uA ?_
  refine oC goes29 ((scan_law _ _ s hE).x ?_);
  rintro _ m1 _ ⟨hm1,rfl,sl,rfl,hsl⟩
  refine uA ?_
  refine qs rfl (bJ tab 1 rfl rfl rfl rfl rfl rfl rfl rfl ?_)
  refine uA ?_
  refine qs rfl (bJ tab 0 rfl rfl rfl rfl rfl rfl rfl rfl ?_)
  refine uA ?_
  refine uM ?_
  refine uA ?_
  refine TC.condN rfl (fun he => ?_) (fun he => ?_)
  ·have hD : parseD s = ⟨emptyT,((scanD s).at_ : Int),(scanD s).e⟩:=by rw [parseD,if_neg he]
   refine TC.quiet ?_
   refine bQ [5] cr 6 rfl [.cells b4 0 [.int .i64 (scanD s).e]] (.cells b3 0 [.int .i64 ((scanD s).at_ : Int)] :: .cells b2 0 [.int .i64 0,strV [], .int .i64 0, .slice none 0 0] :: L) (af _) ?_
   refine bV tab uC uK [0] uK rfl ?_
   refine bW (k:=0) tab 2 0 uC uK uK rfl rfl rfl rfl rfl rfl rfl rfl ?_
   refine DO.fork 1 [3] uK ⟨⟨_,rfl,rfl,rfl, ?_⟩,⟨_,rfl,rfl,rfl, ?_⟩,trivial⟩
   ·refine OT.loadL0 tab 1 rfl rfl rfl rfl rfl rfl ?_
    refine ⟨bm _,_,af _, ?_⟩
    refine bZ 3 rfl rfl uK rfl ?_
    refine bJ tab 2 rfl rfl rfl rfl rfl rfl rfl rfl ?_
    refine ⟨bm _,_,af _, ?_⟩
    refine bZ 4 rfl rfl uK rfl ?_
    refine bJ tab 1 rfl rfl rfl rfl rfl rfl rfl rfl ?_
    refine ⟨bm _,_,af _, ?_⟩
    refine DO.tail ?_
    refine DOt.run 5 rfl rfl uK rfl ?_
    refine bJ tab 0 rfl rfl rfl rfl rfl rfl rfl rfl ?_
    refine DOt.nil uK ?_
    refine TC.ret ?_
    refine thenQ_r ?_
    intro tmps w' hA hst'
    rw [hD]
    exact parseE_end (x:=⟨0,[],0,⟨none,0,0⟩⟩) (L':=L) tab rfl hA rfl rfl rfl rfl rfl rfl (hst'.perm (ah pfr2 (ai _ pfr1))) (aP _) hm1 (emptyT_rep _)
   ·refine bJ tab 2 rfl rfl rfl rfl rfl rfl rfl rfl ?_
    refine ⟨bm _,_,af _, ?_⟩
    refine bZ 1 rfl rfl uK rfl ?_
    refine OT.loadL0 tab 1 rfl rfl rfl rfl rfl rfl ?_
    refine ⟨bm _,_,af _, ?_⟩
    refine bZ 4 rfl rfl uK rfl ?_
    refine bJ tab 1 rfl rfl rfl rfl rfl rfl rfl rfl ?_
    refine ⟨bm _,_,af _, ?_⟩
    refine DO.tail ?_
    refine DOt.run 5 rfl rfl uK rfl ?_
    refine bJ tab 0 rfl rfl rfl rfl rfl rfl rfl rfl ?_
    refine DOt.nil uK ?_
    refine TC.ret ?_
    refine thenQ_r ?_
    intro tmps w' hA hst'
    rw [hD]
    exact parseE_end (x:=⟨0,[],0,⟨none,0,0⟩⟩) (L':=L) tab rfl hA rfl rfl rfl rfl rfl rfl (hst'.perm (ah pfr2 (ai _ pfr1))) (aP _) hm1 (emptyT_rep _)
  ·have hD : parseD s=parseL s (scanD s).list:=by rw [parseD,if_pos he]
   rw [hD]
   generalize (scanD s).list=l at hsl hll
   refine uA ?_
   refine oB (fun bp => ?_)
   refine uA ?_
   refine TO.defer rfl rfl rfl rfl rfl ?_
   refine uA ?_
   have hEk : (⟨s,sl,l,bp,l.length + 1⟩ : PE).Ok m1:=⟨hsl,hll,by show l.length + 1 ≤ _;omega,by show 1 ≤ l.length + 1;omega⟩
   have hG:=gw (mb:=m1) (E:=⟨s,sl,l,bp,l.length + 1⟩) (3 * l.length + 4)
   have hP:=program_par (decl_par (hG.typ 0) (hG.block 0)) m1 (.cells b4 0 [.int .i64 (scanD s).e] :: .cells b3 0 [.int .i64 ((scanD s).at_ : Int)] :: .cells b2 0 [.int .i64 0,strV [], .int .i64 0, .slice none 0 0] :: L) 0 (bm _) hEk (aU _)
   have hpe : Ps.program l.length (tkF l) 0=Ps.progL (Ps.declP (l.length + 1) (Ps.gr (l.length + 1) (3 * l.length + 4)).typ (Ps.gr (l.length + 1) (3 * l.length + 4)).block) (l.length + 1) (PE.f ⟨s,sl,l,bp,l.length + 1⟩) 0:=rfl
   have hn:=hout l
   rw [hpe] at hn
   refine oC goes31 (TCallX.mono (hP ?_) ?_ ?_)
   ·intro hb
    unfold Ps.bind at hb
    split at hb
    ·cases hb
    ·cases hb
    ·rename_i he'
     exact hn he'
   ·rintro v m2 L2 ⟨a,k',xs,h1,hm2,hk',⟨x,rfl,rfl,hrx⟩,rfl⟩
    obtain ⟨ds,hds,rfl⟩ : ∃ ds,Ps.program l.length (tkF l) 0 = .ok ds k' ∧ a = .mk 1 [] 0 ds:=by
     rw [hpe]
     unfold Ps.bind at h1
     split at h1
     ·rename_i ds k'' he'
      injection h1 with h1 h2
      subst h2
      exact ⟨ds,he',h1.symm⟩
     ·cases h1
     ·cases h1
    replace hm1:=bn hm1 hm2
    refine uA ?_
    refine qs rfl (bJ tab 3 rfl rfl rfl rfl rfl rfl rfl rfl ?_)
    refine uA ?_
    refine oA tab (fun bl => ?_)
    refine uA ?_
    refine uT ?_
    refine uA ?_
    refine qs rfl (OT.loadL0 tab 4 rfl rfl rfl rfl rfl rfl ?_)
    refine uA ?_
    refine oC goes32 ((fits_law (.mk 1 [] 0 ds) m2 _ x bl 1 20000 hrx (by decide) (by decide) (by decide) (by decide)).x ?_);
    rintro _ _ _ ⟨rfl,⟨rfl,k1,k2,rfl⟩ | ⟨rfl,k1,n,rfl⟩⟩
    ·have hA2 : parseL s l = ⟨.mk 1 [] 0 ds,0,0⟩:=by
      rw [parseL,hds]
      exact if_pos ⟨by omega,by omega⟩
     refine uA ?_
     refine qs rfl (OT.loadL0 tab 4 rfl rfl rfl rfl rfl rfl ?_)
     refine uA ?_
     refine qs rfl (bJ tab 4 rfl rfl rfl rfl rfl rfl rfl rfl ?_)
     refine qs rfl (bJ tab 3 rfl rfl rfl rfl rfl rfl rfl rfl ?_)
     refine qs rfl (bJ tab 2 rfl rfl rfl rfl rfl rfl rfl rfl ?_)
     refine TO.nil ?_
     refine thenQ_n ?_
     refine TC.ret ?_
     intro tmps w' hA hst'
     rw [hA2]
     refine leaves_cons (by simp) (invoke_goes goes30) ?_
     refine (rec_idle b2 b3 b4 _ _ w' hst').mono ?_
     rintro e u' w2 ⟨v,rfl,rfl,hst2⟩
     exact parseE_end (x:=x) tab rfl hA rfl rfl rfl rfl rfl rfl (hst2.perm (ah pfr4 (ai _ (ah pfr3 (ai _ pfr2))))) (aO _ (aO _ (aP _))) hm1 hrx
    ·have hA2 : parseL s l = ⟨emptyT,0,4⟩:=by
      rw [parseL,hds]
      exact if_neg fun h=>k1 ⟨by omega,by omega⟩
     refine uA ?_
     refine qs rfl (bJ tab 4 rfl rfl rfl rfl rfl rfl rfl rfl ?_)
     refine qs rfl (bJ tab 3 rfl rfl rfl rfl rfl rfl rfl rfl ?_)
     refine qs rfl (bJ tab 2 rfl rfl rfl rfl rfl rfl rfl rfl ?_)
     refine TO.nil ?_
     refine thenQ_n ?_
     refine TC.ret ?_
     refine thenQ_r ?_
     intro tmps w' hA hst'
     rw [hA2]
     refine leaves_cons (by simp) (invoke_goes goes30) ?_
     refine (rec_idle b2 b3 b4 _ _ w' hst').mono ?_
     rintro e u' w2 ⟨v,rfl,rfl,hst2⟩
     exact parseE_end (x:=⟨0,[],0,⟨none,0,0⟩⟩) tab rfl hA rfl rfl rfl rfl rfl rfl (hst2.perm (ah pfr4 (ai _ (ah pfr3 (ai _ pfr2))))) (aO _ (aO _ (aP _))) hm1 (emptyT_rep _)
   ·rintro ch m2 L2 ⟨k',h',h1,hm2,hk',rfl,rfl⟩
    have hA2 : parseL s l = ⟨emptyT,placeD s l k',3⟩:=by
     have : Ps.program l.length (tkF l) 0 = .bad k':=by
      rw [hpe]
      unfold Ps.bind at h1
      split at h1
      ·cases h1
      ·rename_i he'
       injection h1 with h1
       rw [← h1];exact he'
      ·cases h1
     rw [parseL,this]
    replace hm1:=bn hm1 hm2
    repeat (first | refine thenQ_p ?_ | refine blockQ_p ?_)
    intro tmps w' hA hst'
    rw [hA2]
    refine leaves_cons (by simp) (invoke_goes goes30) ?_
    refine (rec_fault b2 b3 b4 m2 _ w' (placeD s l k') _ _ _ rfl rfl rfl (hst'.perm (ah pfr3 (ai _ (ah pfr2 (ai _ pfr1)))))).mono ?_
    rintro e u' w2 ⟨v,rfl,rfl,hst2⟩
    exact parseE_end (x:=⟨0,[],0,⟨none,0,0⟩⟩) tab rfl hA rfl rfl rfl rfl rfl rfl hst2 (aO _ (aP _)) hm1 (emptyT_rep _)
 unfold TCall TCallX
 intro w hst
 refine (key w hst).mono fun e w' he => ?_
 cases e with
 | returned v=>exact he
 | panicked ch=>exact he.elim
 | outgrown=>exact he
end Go.Sep


/- PsGood2 -/
namespace Go.Ps
open Go.Sep (Tree Str)
variable {α β : Type}
theorem Good.bret {p : Pp α} {g : α → β} (hp : Good p) : Good (Ps.bind p fun a=>Ps.ret (g a)):=hp.bind fun _=>Good.ret _
theorem Takes.bind {q : F→Nat→Bool} {p : Pp α} {g : α → Pp β} (hp : Takes q p) (hg : ∀ a,Good (g a)) : Takes q (Ps.bind p g):=fun f k hk=>by
 refine ⟨fun b k' h => ?_,fun k' h => ?_⟩
 ·obtain ⟨a,k1,h1,h2⟩:=bind_ok_iff h
  have:=(hp f k hk).1 a k1 h1
  have:=(hg a).le h2
  omega
 ·rcases bind_bad_iff h with h | ⟨a,k1,h1,h2⟩
  ·exact (hp f k hk).2 k' h
  ·have:=(hp f k hk).1 a k1 h1
   have:=(hg a).leb h2
   omega
section
variable {N : Nat}
theorem Good.results {typ : Pp Tree} (h : Good typ) (ht : Takes begins typ) : Good (resultsP N typ) :=
 Good.tok ((Good.commas h N).bind fun l=>Good.need (Good.ret _)) (Good.peek Loc.begins (Good.bret h) (Good.ret _) (.inr (ht.bind fun _=>Good.ret _)))
theorem Good.param {typ : Pp Tree} (h : Good typ) : Good (paramP typ):=Good.name fun s=>Good.bret h
theorem Good.sigLike {kind : Int} {X typ : Pp Tree} (hX : Good X) (h : Good typ) (ht : Takes begins typ) : Good (sigLike N kind X typ):=Good.need ((Good.inP hX).bind fun ps=>Good.bret (Good.results h ht))
theorem Good.sig {typ : Pp Tree} (h : Good typ) (ht : Takes begins typ) : Good (sigP N typ):=Good.sigLike (Good.param h) h ht
theorem Good.typP {typ : Pp Tree} (h : Good typ) (ht : Takes begins typ) : Good (typP N typ) :=
 Good.tok (Good.bret h) (Good.tok (Good.need (Good.bret h)) (Good.tok (Good.sigLike h h ht) (Good.name fun s=>Good.ret _)))
theorem Takes.typP {typ : Pp Tree} (h : Good typ) (ht : Takes begins typ) : Takes begins (typP N typ):=fun f k hk=>by
 unfold Ps.typP
 cases h1 : isM [42] f k with
 | true=>exact Takes.tok (Good.bret h) f k h1
 | false =>
  rw [show Ps.tok [42] (Ps.bind typ fun t=>Ps.ret (.mk 11 [] 0 [t])) (Ps.tok [91] (Ps.need [93] (Ps.bind typ fun t=>Ps.ret (.mk 12 [] 0 [t]))) (Ps.tok [102,117,110,99] (Ps.sigLike N 13 typ typ) (Ps.name fun s=>Ps.ret (leaf 10 s)))) f k=Ps.tok [91] (Ps.need [93] (Ps.bind typ fun t=>Ps.ret (.mk 12 [] 0 [t]))) (Ps.tok [102,117,110,99] (Ps.sigLike N 13 typ typ) (Ps.name fun s=>Ps.ret (leaf 10 s))) f k by unfold Ps.tok;rw [h1];rfl]
  cases h2 : isM [91] f k with
  | true=>exact Takes.tok (Good.need (Good.bret h)) f k h2
  | false =>
   rw [show Ps.tok [91] (Ps.need [93] (Ps.bind typ fun t=>Ps.ret (.mk 12 [] 0 [t]))) (Ps.tok [102,117,110,99] (Ps.sigLike N 13 typ typ) (Ps.name fun s=>Ps.ret (leaf 10 s))) f k=Ps.tok [102,117,110,99] (Ps.sigLike N 13 typ typ) (Ps.name fun s=>Ps.ret (leaf 10 s)) f k by unfold Ps.tok;rw [h2];rfl]
   cases h3 : isM [102,117,110,99] f k with
   | true=>exact Takes.tok (Good.sigLike h h ht) f k h3
   | false =>
    rw [show Ps.tok [102,117,110,99] (Ps.sigLike N 13 typ typ) (Ps.name fun s=>Ps.ret (leaf 10 s)) f k=Ps.name (fun s=>Ps.ret (leaf 10 s)) f k by unfold Ps.tok;rw [h3];rfl]
    have h4 : isK 1 f k=true:=by
     unfold Ps.begins at hk
     rw [h1,h2,h3,bc,bc,bc] at hk
     exact hk
    unfold isK at h4
    unfold Ps.name Ps.tkn
    cases hx : f k with
    | none=>rw [hx] at h4;cases h4
    | some t =>
     rw [hx] at h4
     simp only at h4
     simp only [h4,bh]
     exact ⟨fun a k' e=>by injection e with _ e;omega,fun k' e=>by cases e⟩
theorem Good.field {mb : Pp Tree} (h : Good mb) : Good (fieldP mb):=Good.name fun s=>h.bind fun t=>Good.need (Good.ret _)
theorem Good.body {kind : Int} {nm : Str} {mb : Pp Tree} (h : Good mb) : Good (bodyP N kind nm mb):=Good.need (Good.bret (Good.upto (Good.field h) N))
theorem Good.typeDecl {typ : Pp Tree} (h : Good typ) (ht : Takes begins typ) : Good (typeDeclP N typ):=Good.name fun nm=>Good.tok (Good.body (Good.sig h ht)) (Good.need (Good.body h))
theorem Good.declP {typ block : Pp Tree} (h : Good typ) (ht : Takes begins typ) (hb : Good block) : Good (declP N typ block) :=
 Good.tok (Good.typeDecl h ht) (Good.need (Good.tok
  (Good.name fun recv=>Good.need (Good.name fun of=>Good.need (Good.name fun nm=>(Good.sig h ht).bind fun s=>Good.bret hb)))
  (Good.name fun nm=>(Good.sig h ht).bind fun s=>Good.bret hb)))
theorem Good.blockP {stmt : Pp Tree} (h : Good stmt) : Good (blockP N stmt):=Good.need (Good.bret (Good.upto h N))
theorem Good.branchP {expr block branch : Pp Tree} (he : Good expr) (hb : Good block) (hr : Good branch) (sb : Stops block) : Good (branchP expr block branch) :=
 Good.need (he.bind fun c=>hb.bind fun b=>Good.tok (Good.peek (Loc.isM _) (Good.bret hr) (Good.bret hb) (.inl (Stops.bind sb))) (Good.ret _))
theorem Good.forP {expr block : Pp Tree} (he : Good expr) (hb : Good block) (se : Stops expr) : Good (forP expr block) :=
 Good.peek (Loc.isM _) (Good.bret hb) (he.bind fun c=>Good.bret hb) (.inl (Stops.bind se))
theorem Good.assignP {expr : Pp Tree} {left : List Tree} (he : Good expr) : Good (assignP N expr left):=by
 refine Good.tokIf (Good.bret (Good.commas he N)) (Good.tokIf (Good.bret (Good.commas he N)) ?_)
 cases isC1 left with
 | true=>exact Good.peek (Loc.isM _) (Good.ret _) Good.fail (.inl Stops.fail)
 | false=>exact Good.fail
theorem Good.simpleP {typ expr : Pp Tree} (h : Good typ) (he : Good expr) (se : Stops expr) : Good (simpleP N typ expr) :=
 Good.tok (Good.name fun s=>h.bind fun t=>Good.tok (Good.bret he) (Good.ret _)) (Good.tok (Good.peek (Loc.isM _) (Good.ret _) (Good.bret (Good.commas he N)) (.inl (Stops.bind (Stops.commas se N))))
  (Good.tok (Good.ret _) (Good.tok (Good.ret _) ((Good.commas he N).bind fun l=>Good.assignP he))))
theorem Stops.simpleP {typ expr : Pp Tree} (se : Stops expr) : Stops (simpleP N typ expr):=Stops.tok (Stops.tok (Stops.tok (Stops.tok (Stops.bind (Stops.commas se N)))))
theorem Good.exprsP {s : Str} {expr : Pp Tree} (he : Good expr) : Good (exprsP N s expr):=Good.inP he
theorem Good.cutP {expr : Pp Tree} {num : Int} {ks : List Tree} (he : Good expr) : Good (cutP expr num ks):=Good.need (Good.tok (Good.ret _) (he.bind fun e=>Good.need (Good.ret _)))
theorem Good.indexP {expr : Pp Tree} {n : Tree} (he : Good expr) (se : Stops expr) : Good (indexP expr n) :=
 Good.peek (Loc.isM _) (Good.cutP he) (he.bind fun e=>Good.tok (Good.ret _) (Good.cutP he)) (.inl (Stops.bind se))
theorem Good.postP {expr : Pp Tree} (he : Good expr) (se : Stops expr) : ∀ (j : Nat) (n : Tree),Good (postP N expr j n)
 | 0,_=>Good.dry
 | j + 1,n=>Good.tok (Good.name fun s=>Good.postP he se j _) (Good.tok ((Good.indexP he se).bind fun t=>Good.postP he se j _) (Good.tok ((Good.exprsP he).bind fun l=>Good.postP he se j _) (Good.ret _)))
theorem Good.primP {typ block expr : Pp Tree} {h : Bool} (gt : Good typ) (ht : Takes begins typ) (hb : Good block) (he : Good expr) : Good (primP N typ block expr h):=by
 refine Good.tkn (fun t=>Good.ret _) (Good.tkn (fun t=>Good.ret _) (Good.tok (Good.ret _) (Good.tok (Good.ret _) (Good.tok (Good.ret _) ?_))))
 refine Good.tok (he.bind fun t=>Good.need (Good.ret _)) (Good.tok (Good.need (gt.bind fun t=>Good.need (Good.bret (Good.exprsP he)))) (Good.tok ((Good.sig gt ht).bind fun s=>Good.bret hb) (Good.name fun s => ?_)))
 cases h with
 | true=>exact Good.ret _
 | false=>exact Good.tok (Good.bret (Good.exprsP he)) (Good.ret _)
theorem Stops.primP {typ block expr : Pp Tree} {h : Bool} : Stops (primP N typ block expr h):=Stops.tkn (Stops.tkn (Stops.tok (Stops.tok (Stops.tok (Stops.tok (Stops.tok (Stops.tok Stops.name)))))))
theorem Good.loopB {X : Pp Tree} {ops : List Str} (h : Good X) : ∀ (j : Nat) (n : Tree),Good (loopB j ops X n)
 | 0,_=>Good.dry
 | j + 1,n=>Good.oneOf (fun op=>h.bind fun m=>Good.loopB h j _) (Good.ret _)
theorem Good.binL {U : Pp Tree} (hU : Good U) : ∀ l,Good (binL N U l)
 | []=>hU
 | ops :: rest=>(Good.binL hU rest).bind fun n=>Good.loopB (Good.binL hU rest) N n
end
structure GGood (g : Gr) : Prop where
 typ : Good g.typ
 typ2 : Takes begins g.typ
 block : Good g.block
 block2 : Stops g.block
 stmt : Good g.stmt
 branch : Good g.branch
 expr : ∀ b,Good (g.expr b)
 expr2 : ∀ b,Stops (g.expr b)
 unary : ∀ b,Good (g.unary b)
 unary2 : ∀ b,Stops (g.unary b)
theorem ggood (N : Nat) : ∀ n,GGood (gr N n)
 | 0=>⟨Good.dry,fun f k h=>⟨fun a k' e=>(by cases e),fun k' e=>(by cases e)⟩,Good.dry,Stops.dry,Good.dry,Good.dry,fun _=>Good.dry,fun _=>Stops.dry,fun _=>Good.dry,fun _=>Stops.dry⟩
 | n + 1=>by
  have IH:=ggood N n
  have hu : ∀ b,Good (unaryP N (gr N n) b):=fun b=>Good.oneOf (fun op=>Good.bret (IH.unary b)) ((Good.primP IH.typ IH.typ2 IH.block (IH.expr _)).bind fun t=>Good.postP (IH.expr _) (IH.expr2 _) N t)
  have su : ∀ b,Stops (unaryP N (gr N n) b):=fun b=>Stops.oneOf (Stops.bind Stops.primP)
  refine ⟨Good.typP IH.typ IH.typ2,Takes.typP IH.typ IH.typ2,Good.blockP IH.stmt,Stops.need, ?_,Good.branchP (IH.expr _) IH.block IH.branch IH.block2,fun b=>Good.binL (IH.unary b) _,fun b=>Stops.binL (IH.unary2 b) _,hu,su⟩
  have hs : Good (Ps.tok [102,111,114] (forP ((gr N n).expr true) (gr N n).block) (Ps.bind (Ps.simpleP N (gr N n).typ ((gr N n).expr false)) fun s=>Ps.need [59] (Ps.ret s))) :=
   Good.tok (Good.forP (IH.expr _) IH.block (IH.expr2 _)) ((Good.simpleP IH.typ (IH.expr _) (IH.expr2 _)).bind fun s=>Good.need (Good.ret _))
  have ss : Stops (Ps.tok [102,111,114] (forP ((gr N n).expr true) (gr N n).block) (Ps.bind (Ps.simpleP N (gr N n).typ ((gr N n).expr false)) fun s=>Ps.need [59] (Ps.ret s))):=Stops.tok (Stops.bind (Stops.simpleP (IH.expr2 _)))
  exact Good.peek (Loc.isM _) IH.block (Good.peek (Loc.isM _) IH.branch hs (.inl ss)) (.inl (Stops.peek (Loc.isM _) ss))
theorem Good.declG (N n : Nat) : Good (declG N n):=Good.declP (ggood N n).typ (ggood N n).typ2 (ggood N n).block
end Go.Ps


/- PsPlcP -/
namespace Go.Sep
end Go.Sep


/- PtOnce -/
namespace Go.Sep
open Go.Proofs
attribute [local irreducible] TC TO OT TCallX TCall DO DOt thenQ blockQ retQ At
theorem last_two (t : Str) : lastB t=10 ∨ lastB t=32:=by unfold lastB;split;exact .inl rfl;exact .inr rfl
def awakeS : Str:=[102,117,110,99,32,109,97,105,110,40,41,123,112,114,105,110,116,40,49,41,59,125]
def awakeT : Tree := .mk 1 [] 0 [.mk 4 [109,97,105,110] 0 [.mk 7 [] 0 [], .mk 20 [] 0 [.mk 24 [] 0 [.mk 51 [] 0 [.mk 44 [112,114,105,110,116] 0 [], .mk 40 [] 1 []]]]]]
theorem parse_a : parseD awakeS = ⟨awakeT,0,0⟩:=by kernel_rfl
theorem text_a : textD awakeT=([102,117,110,99,32,109,97,105,110,32,40,32,41,32,123,10,112,114,105,110,116,32,40,32,49,32,41,32,59,10,125,10],0):=by kernel_rfl
theorem awake3_law (m : Mem) (L : List Item) (hE : Errs m) (hT : Tb m) : TCall Tryz.prog 17 ⟨[]⟩ m L (Made m L fun r _=>r = .bool true):=by
 unfold TCall
 refine bw Tryz.func17 rfl 26 rfl ?_
 refine uA ?_
 refine oC goes11 ((parse_law program_ne _ _ awakeS hE).x ?_);
 rw [parse_a]
 rintro _ m1 _ ⟨hm1,rfl,x,rfl,hx⟩
 refine uA ?_
 refine oA tab (fun b => ?_)
 refine uA ?_
 refine uT ?_
 refine uA ?_
 refine uM ?_
 refine uA ?_
 refine oC goes16 ((Text_law _ _ awakeT x (tbOk.mono hT hm1) hx (by decide) rfl).x ?_);
 rw [text_a]
 rintro _ m2 _ ⟨hm2,rfl,rfl⟩
 refine uA ?_
 exact bu rfl uS ⟨bn hm1 hm2,rfl,rfl⟩
attribute [local irreducible] parseD scanD textD
end Go.Sep


/- PtExprP -/
namespace Go.Sep
open Go.Proofs
def withinT (a : Tree) : Tree := .mk 1 [] 0 [.mk 4 [102] 0 [.mk 7 [] 0 [], .mk 20 [] 0 [.mk 27 [] 0 [a]]]]
def exprD (a : Tree) : Str × Int:=if soundB (withinT a)=true then outD (putT (Pt.toks a)) else ([],2)
theorem within_size (a : Tree) : (withinT a).size=a.size + 5:=by
 simp only [withinT,Tree.size,sizeL];omega
theorem within_deep (a : Tree) : (withinT a).deep=a.deep + 4:=by
 have:=deep_pos a
 simp only [withinT,Tree.deep,deepL];omega
theorem within_sound (a : Tree) : soundB (withinT a)=(decide (a.size + 5 ≤ 20000) && (decide (a.deep + 4 ≤ 100) && lim.expr a)):=by
 rw [Bool.eq_iff_iff]
 simp only [aj,ao]
 constructor
 ·intro h
  obtain ⟨ds,e,h1,h2,h3⟩:=Pt.soundB_f h
  rw [within_size] at h1
  rw [within_deep] at h2
  injection e with _ _ _ e
  subst e
  have hf : (ofB (.mk 4 [102] 0 [.mk 7 [] 0 [], .mk 20 [] 0 [.mk 27 [] 0 [a]]]) 4 && kidsR [Tree.isSig,lim.block] none [.mk 7 [] 0 [], .mk 20 [] 0 [.mk 27 [] 0 [a]]])=true:=h3 _ (List.mem_cons_self ..)
  rw [aj] at hf
  obtain ⟨s,b,e,_,hb⟩:=Pt.kids2 hf.2
  injection e with e1 e2
  injection e2 with e2 _
  subst e2
  have h4:=(Pt.block_f hb).2.2.2
  have h5 : lim.stmt (.mk 27 [] 0 [a])=true:=List.all_eq_true.1 h4 _ (List.mem_cons_self ..)
  have h6 : stmtS lim (.mk 27 [] 0 [a])=true:=(lim_fix _).2.1.symm.trans h5
  rw [Pt.stmtS_head] at h6
  have h7 : ((decide (([] : Str)=[]) && decide ((0 : Int)=0)) && [a].all lim.expr)=true:=by
   have:=h6
   rw [Pt.headS_n (k:=27) rfl (by decide)] at this
   exact this
  simp only [aY,List.all_nil,aE,aj] at h7
  exact ⟨h1,h2,h7.2⟩
 ·rintro ⟨h1,h2,h3⟩
  have hst : lim.stmt (.mk 27 [] 0 [a])=true:=by
   rw [(lim_fix _).2.1,Pt.stmtS_head,Pt.headS_n (k:=27) rfl (by decide)]
   show ((decide (([] : Str)=[]) && decide ((0 : Int)=0)) && [a].all lim.expr)=true
   simp [h3]
  have hbl : lim.block (.mk 20 [] 0 [.mk 27 [] 0 [a]])=true:=by
   rw [(lim_fix _).2.2]
   unfold blockS
   rw [aj]
   exact ⟨rfl,by simp [Tree.kids,hst]⟩
  have hd : declS lim (.mk 4 [102] 0 [.mk 7 [] 0 [], .mk 20 [] 0 [.mk 27 [] 0 [a]]])=true:=by
   show (ofB (.mk 4 [102] 0 [.mk 7 [] 0 [], .mk 20 [] 0 [.mk 27 [] 0 [a]]]) 4 && kidsR [Tree.isSig,lim.block] none [.mk 7 [] 0 [], .mk 20 [] 0 [.mk 27 [] 0 [a]]])=true
   rw [aj]
   refine ⟨rfl, ?_⟩
   show (Tree.isSig _ && (lim.block _ && true))=true
   rw [hbl];rfl
  unfold soundB
  rw [within_size,within_deep]
  simp only [aj,ao]
  refine ⟨⟨h1,h2⟩,rfl, ?_⟩
  show [_].all (declS (sg 100))=true
  simp only [aY,List.all_nil,aE]
  have:=within_deep a
  rw [declS_lim (by simp only [withinT,Tree.deep,deepL] at this ⊢;omega)]
  exact hd
theorem trim_app (p q : Str) (hq : q ≠ []) : trimD (p++q) [32]=p++trimD q [32]:=by
 have hl : 1 ≤ q.length:=List.length_pos_iff.2 hq
 have e : suffixB [32] (p++q)=suffixB [32] q:=by
  unfold suffixB
  rw [aa,show p.length + q.length - ([32] : Str).length=p.length + (q.length - 1) by simp;omega,List.drop_append]
  have : p.drop (p.length + (q.length - 1))=[]:=aS (by omega)
  rw [this,aA,show p.length + (q.length - 1) - p.length=q.length - ([32] : Str).length by simp]
  congr 1
  exact decide_eq_decide.2 (by simp;omega)
 unfold trimD
 rw [e]
 split
 ·rw [aa,show p.length + q.length - ([32] : Str).length=p.length + (q.length - 1) by simp;omega,List.take_append,aT (by omega),show p.length + (q.length - 1) - p.length=q.length - ([32] : Str).length by simp]
 ·rfl
theorem trim_one (t : Str) : trimD (putS t) [32]=t++(if lastB t=32 then [] else [10]):=by
 unfold putS
 have h1 : trimD (t++[lastB t]) [32]=t++trimD [lastB t] [32]:=trim_app _ _ (by simp)
 rw [h1]
 congr 1
 rcases last_two t with e | e <;> (rw [e];rfl)
def Stops (s : Str) : Prop := ∃ c r,s=c :: r∧Pt.stopB c=true
end Go.Sep


/- TyEqP -/
namespace Go.Sep
end Go.Sep


/- PrSame -/
namespace Go.Sep
open Go.Proofs
attribute [local irreducible] TC TO OT TCallX TCall DO DOt thenQ blockQ retQ At
end Go.Sep


/- PtBack -/
namespace Go.Sep
open Go.Proofs
attribute [local irreducible] TC TO OT TCallX TCall DO DOt thenQ blockQ retQ At
mutual
theorem inR_num2 : ∀ a : Tree,a.inR=true→Pt.numB2 a=true
 | .mk k n u ks,h=>by
  rw [Tree.inR,aj,aj] at h
  have h2:=of_decide_eq_true h.2.1
  rw [Pt.numB2,inRL_num2 ks h.2.2,aE,aH (show u < 9223372036854775808 by omega),Bool.or_true]
theorem inRL_num2 : ∀ l : List Tree,inRL l=true→Pt.numL l=true
 | [],_=>rfl
 | t :: ts,h=>by
  rw [inRL,aj] at h
  rw [Pt.numL,inR_num2 t h.1,inRL_num2 ts h.2];rfl
end
attribute [local irreducible] parseD scanD textD soundB
end Go.Sep


/- PtExprW -/
namespace Go.Sep
open Go.Proofs
attribute [local irreducible] TC TO OT TCallX TCall DO DOt thenQ blockQ retQ At
theorem within_law (m : Mem) (L : List Item) (a : Tree) (h : HTree) (hr : TreeRep m h a) : TCall Tryz.prog 45 ⟨[treeV h]⟩ m L (Made m L fun r m' => ∃ y,r=treeV y∧TreeRep m' y (withinT a)):=by
 unfold TCall
 refine bw Tryz.func45 rfl 17 rfl ?_
 refine uA ?_
 refine oB (fun b => ?_)
 refine uA ?_
 refine oA tab (fun b2 => ?_)
 refine uL ?_
 refine qs rfl (cq tab rTree (hs:=[h]) (l:=[a]) ⟨rTree_iff.2 hr,trivial⟩ rfl rfl rfl rfl rfl (by decide) (fun s1 m1 hm1 hs1 _ _ => ?_))
 have r1 : TreeRep m1 ⟨27,[],0,s1⟩ (.mk 27 [] 0 [a]):=⟨rfl,rfl,rfl,hs1⟩
 refine uA ?_
 refine oA tab (fun b3 => ?_)
 refine uA ?_
 refine uT ?_
 refine uL ?_
 refine qs rfl (cq tab rTree (hs:=[⟨27,[],0,s1⟩]) (l:=[.mk 27 [] 0 [a]]) ⟨rTree_iff.2 r1,trivial⟩ rfl rfl rfl rfl rfl (by decide) (fun s2 m2 hm2 hs2 _ _ => ?_))
 have r2 : TreeRep m2 ⟨20,[],0,s2⟩ (.mk 20 [] 0 [.mk 27 [] 0 [a]]):=⟨rfl,rfl,rfl,hs2⟩
 have r7 : TreeRep m2 ⟨7,[],0,⟨none,0,0⟩⟩ (.mk 7 [] 0 []):=⟨rfl,rfl,rfl,bN _ _⟩
 refine uA ?_
 refine qs rfl (cq tab rTree (hs:=[⟨7,[],0,⟨none,0,0⟩⟩,⟨20,[],0,s2⟩]) (l:=[.mk 7 [] 0 [], .mk 20 [] 0 [.mk 27 [] 0 [a]]]) ⟨rTree_iff.2 r7,rTree_iff.2 r2,trivial⟩ rfl rfl rfl rfl rfl (by decide) (fun s3 m3 hm3 hs3 _ _ => ?_))
 have r3 : TreeRep m3 ⟨4,[102],0,s3⟩ (.mk 4 [102] 0 [.mk 7 [] 0 [], .mk 20 [] 0 [.mk 27 [] 0 [a]]]):=⟨rfl,rfl,rfl,hs3⟩
 refine uA ?_
 refine oA tab (fun b4 => ?_)
 refine uA ?_
 refine uT ?_
 refine uL ?_
 refine qs rfl (cq tab rTree (hs:=[⟨4,[102],0,s3⟩]) (l:=[.mk 4 [102] 0 [.mk 7 [] 0 [], .mk 20 [] 0 [.mk 27 [] 0 [a]]]]) ⟨rTree_iff.2 r3,trivial⟩ rfl rfl rfl rfl rfl (by decide) (fun s4 m4 hm4 hs4 _ _ => ?_))
 have hm:=bn hm1 (bn hm2 (bn hm3 hm4))
 refine uA ?_
 refine uT ?_
 refine uA ?_
 refine ci tab 2 rfl rfl rfl rfl (L':=L) uS ⟨hm,rfl,⟨1,[],0,s4⟩,rfl,⟨rfl,rfl,rfl,hs4⟩⟩
theorem within_wide {a : Tree} {n : Nat} (h : a.wide ≤ n) (hn : 1 ≤ n) : (withinT a).wide ≤ n:=by
 simp only [withinT,Tree.wide,wideL]
 have : ([102] : Str).length=1:=rfl
 simp only [ae]
 omega
theorem Expr_law (m : Mem) (L : List Item) (a : Tree) (h : HTree) (hT : Tb m) (hr : TreeRep m h a) (hB0 : a.wide ≤ 140737488355328) (hnum : Pt.numB2 a=true) :
  TCall Tryz.prog 20 ⟨[treeV h]⟩ m L (Made m L fun r _=>r = .tuple ⟨[strV (exprD a).1, .int .i64 (exprD a).2]⟩):=by
 unfold TCall
 refine bw Tryz.func20 rfl 18 rfl ?_
 refine uA ?_
 refine oB (fun b => ?_)
 refine uL ?_
 refine oC goes45 ((within_law _ _ a h hr).x ?_);
 rintro _ m1 _ ⟨hm,rfl,y,rfl,hy⟩
 refine uA ?_
 refine oC goes18 ((sound_law (withinT a) _ _ y hy (within_wide hB0 (by decide))).x ?_);
 rintro _ _ _ ⟨rfl,rfl,rfl⟩
 refine uA ?_
 refine bo (t := !soundB (withinT a)) rfl (fun hs => ?_) (fun hs => ?_)
 ·refine uA ?_
  refine bu rfl uS ⟨hm,rfl, ?_⟩
  rw [exprD,if_neg (by simpa using hs)]
 ·have hs' : soundB (withinT a)=true:=by simpa using hs
  have hw:=(within_sound a).symm
  rw [hs'] at hw
  simp only [aj,ao] at hw
  have hv:=(Pt.v_all a hnum).expr hw.2.2
  have hlen0 : (putT (Pt.toks a)).length ≤ 140737488355328:=by
   have:=putT_len hv
   omega
  have hTm : Tb m1:=tbOk.mono hT hm
  have hr1:=hr.mono hm
  refine uA ?_
  refine qs rfl (OT.boxT rfl rfl rfl rfl rfl (fun bd ma hma hty => ?_))
  refine TO.grow0 (size:=1) ?_
  refine bD (ag _ _ _) ?_
  have hB : BOk ma bd none ⟨none,0,0⟩ []:=⟨⟨_,hty,by kernel_rfl⟩, .inl rfl,bN _ _,Own.nil,fun b o e=>(by cases e),fun _=>rfl⟩
  refine uA ?_
  refine uM ?_
  refine uA ?_
  refine oC goes46 (((pt_all tbOk itoa_law a).expr hnum hw.2.2 _ _ bd _ _ _ h (tbOk.mono hTm hma) hB (hr1.mono hma) (by simp;omega)).x ?_);
  rintro _ m2 _ ⟨hm2,s,q,rfl,hB⟩
  refine uA ?_
  refine oC goes38 ((text_w _ _ bd q s _ hB (by simpa using hlen0)).x ?_);
  rintro _ _ _ ⟨rfl,rfl,rfl⟩
  refine uA ?_
  refine bu rfl uS ⟨bn hm (bn hma hm2),rfl, ?_⟩
  rw [exprD,if_pos hs',aA]
structure AtS where
 i : Nat
 c : Tree
 y : HTree
end Go.Sep


/- PtRefX -/
namespace Go.Sep
open Go.Proofs Go.Pt
attribute [local irreducible] TC TO OT TCallX TCall DO DOt thenQ blockQ retQ At
def rtextD (l : List Str) : Str × Int:=if 65536 < (trimD (putL l) [32]).length then ([],4) else (trimD (putL l) [32],0)
def midL (l : List Str) (i : Nat) : Str:=if i < l.length then putL (l.take i) else trimD (putL l) [32]
theorem putL_snoc (l : List Str) (i : Nat) (h : i < l.length) : putL (l.take (i + 1))=putL (l.take i)++putS l[i]:=by
 rw [aX h,putL_app,putL_one]
theorem midL_next (l : List Str) (i : Nat) (h : i < l.length) : midL l (i + 1)=putL (l.take i)++(l[i]++(if lastB l[i]=10 then [10] else if i + 1 < l.length then [32] else [])):=by
 unfold midL
 have e2:=last_two l[i]
 by_cases h1 : i + 1 < l.length
 ·rw [if_pos h1,putL_snoc l i h,putS,if_pos h1]
  rcases e2 with e | e <;> (rw [e];rfl)
 ·rw [if_neg h1,if_neg h1]
  have e : putL l=putL (l.take i)++putS l[i]:=by rw [← putL_snoc l i h,aT (by omega)]
  rw [e,trim_app _ _ (by unfold putS;simp),trim_one]
  rcases e2 with e | e <;> (rw [e];rfl)
theorem midL_len (l : List Str) (i : Nat) (h : i < l.length) : (midL l (i + 1)).length ≤ (putL l).length:=by
 have e : (putL (l.take (i + 1))).length ≤ (putL l).length:=by
  conv=>rhs;rw [← aV (i + 1) l]
  rw [putL_app,aa];omega
 rw [midL_next l i h,aa]
 rw [putL_snoc l i h,aa] at e
 unfold putS at e
 rw [aa,List.length_singleton] at e
 rw [aa]
 split
 ·simp;omega
 ·split <;> simp <;> omega
structure TxS where
 m : Mem
 s : Sl
 i : Nat
theorem rtext_law (m : Mem) (L : List Item) (sl : Sl) (l : List Str) (hs : SlRep rStr m sl l) (hl : (putL l).length ≤ 140737488355328) :
  TCall Tryz.prog 43 ⟨[sl.v]⟩ m L (Made m L fun r _=>r = .tuple ⟨[strV (rtextD l).1, .int .i64 (rtextD l).2]⟩):=by
 have hlen:=hs.len
 have hsm:=hs.small rfl
 unfold TCall
 refine bw Tryz.func43 rfl 49 rfl ?_
 refine uA ?_
 refine qs rfl (cq tab rByte (hs:=[]) (l:=[]) trivial rfl rfl rfl rfl rfl (by decide) (fun s0 m0 hm0 hs0 ho0 hc0 => ?_))
 refine TO.tokFo hc0 ho0 1 ?_
 refine uA ?_
 refine br (ι:=TxS) [0,2,3] rfl (fun g=>[(5, .int .i64 (g.i : Int)),(4,g.s.v)]) (fun g=>g.m) (fun g=>tok g.s 1 :: L) (fun g=>m ≤ g.m∧g.i ≤ l.length∧SlRep rByte g.m g.s (midL l g.i)∧Own g.s) (fun g=>l.length - g.i) ⟨m0,s0,0⟩ uH rfl uS ⟨hm0,aU _,by
  have : midL l 0=[]:=by
   unfold midL
   split
   ·rfl
   ·have : l=[]:=List.eq_nil_of_length_eq_zero (by omega)
    subst this;rfl
  rw [this];exact hs0,ho0⟩ ?_
 rintro ⟨m1,s,i⟩ ⟨hm1,hi,h1,h2⟩
 simp only at hm1 hi h1 h2
 refine uA ?_
 refine bq rfl (fun h3 => ?_) (fun h3 => ?_)
 ·simp only at h3
  have hlt : i < l.length:=by omega
  have hxi : l[i]? = some l[i]:=ak hlt
  have hs1:=hs.mono hm1
  have hnx:=midL_next l i hlt
  have hnl:=midL_len l i hlt
  have hmid : midL l i=putL (l.take i):=by unfold midL;rw [if_pos hlt]
  rw [hmid] at h1
  have hnl2:=hnl
  rw [hnx,aa,aa] at hnl2
  generalize ht : l[i]=t at *
  refine uA ?_
  refine qs rfl (bO tab rStr i hs1 rfl rfl rfl rfl rfl (by first | rfl | omega | (simp only;omega)) rfl hxi ?_)
  rintro b4 i4 y hy hA4
  obtain rfl : y=t:=hy
  (first | refine qs rfl (OT.loadA tab hA4 rfl rfl rfl rfl rfl ?_) | refine oL tab hA4 ?_)
  refine uA ?_
  refine qs rfl (OT.appendS tab 0 h1 h2 rfl rfl rfl rfl rfl rfl rfl rfl rfl rfl rfl (by omega) (fun s5 m5 hm5 hs5 ho5 => ?_))
  have hm15:=bn hm1 hm5
  refine uA ?_
  (first | refine bB rfl rfl (fun c1 => ?_) (fun c1 => ?_) | refine bC rfl rfl (fun c1 => ?_) (fun c1 => ?_) | refine bA rfl rfl (fun c1 => ?_) (fun c1 => ?_))
  ·have hlb : lastB y=10:=by unfold lastB;rw [if_pos (.inl c1)]
   refine uA ?_
   refine qs rfl (cq tab rByte (hs:=[10]) (l:=[10]) ⟨rfl,trivial⟩ rfl rfl rfl rfl rfl (by decide) (fun s6 m6 hm6 hs6 _ _ => ?_))
   refine uA ?_
   refine qs rfl (bP tab rByte 0 (hs5.mono hm6) ho5 hs6 rfl rfl rfl rfl rfl rfl rfl (by rw [aa];simp only [hlb,if_true,ab,ae] at hnl2;show (_ + 1) * 1 ≤ _;omega) (fun s7 m7 hm7 hs7 ho7 => ?_))
   refine uA ?_
   refine qs rfl (bK (r':=((i + 1 : Nat) : Int)) rfl rfl rfl rfl rfl rfl rfl (by omega) ?_)
   refine uA ?_
   refine ⟨⟨m7,s7,i + 1⟩,uH,uH,rfl,rfl,uS,⟨bn hm15 (bn hm6 hm7),by simp only;omega, ?_,ho7⟩,by simp only;omega⟩
   rw [hnx,if_pos hlb,← am]
   exact hs7
  refine uA ?_
  (first | refine bB rfl rfl (fun c2 => ?_) (fun c2 => ?_) | refine bC rfl rfl (fun c2 => ?_) (fun c2 => ?_) | refine bA rfl rfl (fun c2 => ?_) (fun c2 => ?_))
  ·have hlb : lastB y=10:=by unfold lastB;rw [if_pos (.inr (.inl c2))]
   refine uA ?_
   refine qs rfl (cq tab rByte (hs:=[10]) (l:=[10]) ⟨rfl,trivial⟩ rfl rfl rfl rfl rfl (by decide) (fun s6 m6 hm6 hs6 _ _ => ?_))
   refine uA ?_
   refine qs rfl (bP tab rByte 0 (hs5.mono hm6) ho5 hs6 rfl rfl rfl rfl rfl rfl rfl (by rw [aa];simp only [hlb,if_true,ab,ae] at hnl2;show (_ + 1) * 1 ≤ _;omega) (fun s7 m7 hm7 hs7 ho7 => ?_))
   refine uA ?_
   refine qs rfl (bK (r':=((i + 1 : Nat) : Int)) rfl rfl rfl rfl rfl rfl rfl (by omega) ?_)
   refine uA ?_
   refine ⟨⟨m7,s7,i + 1⟩,uH,uH,rfl,rfl,uS,⟨bn hm15 (bn hm6 hm7),by simp only;omega, ?_,ho7⟩,by simp only;omega⟩
   rw [hnx,if_pos hlb,← am]
   exact hs7
  refine uA ?_
  refine bo (t:=decide (y=[59])) rfl (fun c3 => ?_) (fun c3 => ?_)
  ·have c3':=of_decide_eq_true c3
   have hlb : lastB y=10:=by unfold lastB;rw [if_pos (.inr (.inr c3'))]
   refine uA ?_
   refine qs rfl (cq tab rByte (hs:=[10]) (l:=[10]) ⟨rfl,trivial⟩ rfl rfl rfl rfl rfl (by decide) (fun s6 m6 hm6 hs6 _ _ => ?_))
   refine uA ?_
   refine qs rfl (bP tab rByte 0 (hs5.mono hm6) ho5 hs6 rfl rfl rfl rfl rfl rfl rfl (by rw [aa];simp only [hlb,if_true,ab,ae] at hnl2;show (_ + 1) * 1 ≤ _;omega) (fun s7 m7 hm7 hs7 ho7 => ?_))
   refine uA ?_
   refine qs rfl (bK (r':=((i + 1 : Nat) : Int)) rfl rfl rfl rfl rfl rfl rfl (by omega) ?_)
   refine uA ?_
   refine ⟨⟨m7,s7,i + 1⟩,uH,uH,rfl,rfl,uS,⟨bn hm15 (bn hm6 hm7),by simp only;omega, ?_,ho7⟩,by simp only;omega⟩
   rw [hnx,if_pos hlb,← am]
   exact hs7
  have c3':=of_decide_eq_false c3
  have hlb : ¬ lastB y=10:=by
   unfold lastB
   rw [if_neg (by
    rintro (h | h | h)
    ·exact c1 h
    ·exact c2 h
    ·exact c3' h)]
   decide
  rw [if_neg hlb] at hnx hnl2
  refine uA ?_
  refine qs rfl (bK (r':=((i + 1 : Nat) : Int)) rfl rfl rfl rfl rfl rfl rfl (by omega) ?_)
  refine uA ?_
  refine bq rfl (fun h6 => ?_) (fun h6 => ?_)
  ·skip
   rw [if_pos (by omega)] at hnx hnl2
   refine uA ?_
   refine qs rfl (cq tab rByte (hs:=[32]) (l:=[32]) ⟨rfl,trivial⟩ rfl rfl rfl rfl rfl (by decide) (fun s6 m6 hm6 hs6 _ _ => ?_))
   refine uA ?_
   refine qs rfl (bP tab rByte 0 (hs5.mono hm6) ho5 hs6 rfl rfl rfl rfl rfl rfl rfl (by rw [aa];simp only [ab,ae] at hnl2;show (_ + 1) * 1 ≤ _;omega) (fun s7 m7 hm7 hs7 ho7 => ?_))
   refine uA ?_
   refine qs rfl (bK (r':=((i + 1 : Nat) : Int)) rfl rfl rfl rfl rfl rfl rfl (by omega) ?_)
   refine uA ?_
   refine ⟨⟨m7,s7,i + 1⟩,uH,uH,rfl,rfl,uS,⟨bn hm15 (bn hm6 hm7),by simp only;omega, ?_,ho7⟩,by simp only;omega⟩
   rw [hnx,← am]
   exact hs7
  ·skip
   rw [if_neg (by omega),aQ] at hnx
   refine uA ?_
   refine qs rfl (bK (r':=((i + 1 : Nat) : Int)) rfl rfl rfl rfl rfl rfl rfl (by omega) ?_)
   refine uA ?_
   refine ⟨⟨m5,s5,i + 1⟩,uH,uH,rfl,rfl,uS,⟨hm15,by simp only;omega, ?_,ho5⟩,by simp only;omega⟩
   rw [hnx]
   exact hs5
 ·simp only at h3
  have hmid : midL l i=trimD (putL l) [32]:=by unfold midL;rw [if_neg (by omega)]
  rw [hmid] at h1
  have hl1:=h1.len
  refine uA ?_
  refine bq rfl (fun h4 => ?_) (fun h4 => ?_)
  ·simp only at h4
   refine uA ?_
   refine bu rfl uS ⟨hm1,rfl, ?_⟩
   rw [rtextD,if_pos (by omega)]
  ·simp only at h4
   refine uA ?_
   refine qs rfl (OT.bytesStrA tab rfl rfl rfl rfl rfl rfl rfl h1 ?_)
   refine uA ?_
   refine bu rfl uS ⟨hm1,rfl, ?_⟩
   rw [rtextD,if_neg (by omega)]
theorem rtext_toks (a : Tree) : rtextD (rtk a)=outD (putT (Pt.toks a)):=rfl
theorem isExpr_law (a : Tree) (m : Mem) (L : List Item) (h : HTree) (hr : TreeRep m h a) (hB : a.bulk ≤ 1048576) : TCall Tryz.prog 47 ⟨[treeV h]⟩ m L (Ret (.bool (soundB (withinT a))) m L):=by
 refine cg ?_
 unfold TCall
 refine bw Tryz.func47 rfl 9 rfl ?_
 refine uA ?_
 refine oB (fun b => ?_)
 refine uL ?_
 refine oC goes77 ((within_ref a _ _ h hr hB 5 4 (by decide) (by decide)).x ?_);
 rintro _ _ _ ⟨rfl,rfl,rfl⟩
 have hw:=within_sound a
 have hwb:=withinB_eq a 5 4
 cases hb : withinB a 5 4 with
 | false =>
  refine uA ?_
  refine bu rfl uS ⟨bm _,rfl, ?_⟩
  rw [hw]
  rw [hb,eq_comm,Bool.and_eq_false_iff] at hwb
  simp only [decide_eq_false_iff_not] at hwb
  rcases hwb with h1 | h1
  ·rw [aI (show ¬ a.size + 5 ≤ 20000 by omega)];rfl
  ·rw [aI (show ¬ a.deep + 4 ≤ 100 by omega)];simp
 | true =>
  rw [hb,eq_comm,aj,ao,ao] at hwb
  refine uL ?_
  refine oC goes78 ((isn_law 100 7 a ⟨by decide,by decide⟩ (by omega) hB _ _ h hr).x ?_);
  rintro _ _ _ ⟨rfl,rfl,rfl⟩
  refine uA ?_
  refine bu rfl uS ⟨bm _,rfl, ?_⟩
  rw [hw,isD_eq 100 7 a ⟨by decide,by decide⟩ (by omega) (by omega),aH (show a.size + 5 ≤ 20000 by omega),aH (show a.deep + 4 ≤ 100 by omega)]
  rfl
theorem okR_expr {a : Tree} (h : soundB (withinT a)=true) : OkR a:=by
 have hw:=(within_sound a).symm
 rw [h] at hw
 simp only [aj,ao] at hw
 refine okR_of 100 7 a ⟨by decide,by decide⟩ ?_
 rw [isD_eq 100 7 a ⟨by decide,by decide⟩ (by omega) (by omega)]
 exact hw.2.2
theorem okR_prog {a : Tree} (h : soundB a=true) : OkR a:=by
 rw [← rsound_eq] at h
 unfold rsoundB at h
 simp only [aj,ao] at h
 obtain ⟨h1,h2,h3,h4,h5⟩:=h
 obtain ⟨k,n,u,ks⟩:=a
 simp only [Tree.kind,Tree.name,Tree.num,Tree.kids] at h1 h2 h3 h5
 subst h1 h2 h3
 refine .mk (by unfold OkK;simp) fun t ht=>okR_of 100 1 t ⟨by decide,by decide⟩ (List.all_eq_true.1 h5 t ht)
attribute [local irreducible] soundB
theorem rText_law (m : Mem) (L : List Item) (a : Tree) (h : HTree) (hr : TreeRep m h a) (hB : a.bulk ≤ 1048576) (hnum : Pt.numB2 a=true) :
  TCall Tryz.prog 19 ⟨[treeV h]⟩ m L (Made m L fun r _=>r = .tuple ⟨[strV (textD a).1, .int .i64 (textD a).2]⟩):=by
 unfold TCall
 refine bw Tryz.func19 rfl 12 rfl ?_
 refine uA ?_
 refine oB (fun b => ?_)
 refine uL ?_
 refine oC goes42 ((rsound_law a _ _ h hr hB).x ?_);
 rintro _ _ _ ⟨rfl,rfl,rfl⟩
 refine uA ?_
 refine bo (t := !soundB a) rfl (fun hs => ?_) (fun hs => ?_)
 ·refine uA ?_
  refine bu rfl uS ⟨bm _,rfl, ?_⟩
  rw [textD,if_neg (by simpa using hs)]
 ·have hs' : soundB a=true:=by simpa using hs
  obtain ⟨ds,rfl,g1,g2,g3⟩:=Pt.soundB_f hs'
  have et : Pt.toks (.mk 1 [] 0 ds)=(ds.map Pt.toks).flatten:=by rw [Pt.toks_eq];rfl
  have hlen0 : (putT (ds.map Pt.toks).flatten).length ≤ 140737488355328:=by
   have:=putT_len (Pt.v_prog hnum hs')
   have:=size_kids (.mk 1 [] 0 ds)
   simp only [Tree.kids] at this
   omega
  rw [← et] at hlen0
  refine uL ?_
  refine oC goes44 ((TkO.drop (tokens_all _ (okR_prog hs') hnum (by omega) _ _ h hr)).x ?_);
  rintro _ m1 _ ⟨hm1,rfl,s,rfl,hs1⟩
  refine uA ?_
  refine oC goes43 ((rtext_law _ _ s _ hs1 hlen0).x ?_);
  rintro _ m2 _ ⟨hm2,rfl,rfl⟩
  refine uA ?_
  refine bu rfl uS ⟨bn hm1 hm2,rfl, ?_⟩
  rw [textD,if_pos hs',rtext_toks]
theorem rExpr_law (m : Mem) (L : List Item) (a : Tree) (h : HTree) (hr : TreeRep m h a) (hB : a.bulk ≤ 1048576) (hnum : Pt.numB2 a=true) :
  TCall Tryz.prog 21 ⟨[treeV h]⟩ m L (Made m L fun r _=>r = .tuple ⟨[strV (exprD a).1, .int .i64 (exprD a).2]⟩):=by
 unfold TCall
 refine bw Tryz.func21 rfl 12 rfl ?_
 refine uA ?_
 refine oB (fun b => ?_)
 refine uL ?_
 refine oC goes47 ((isExpr_law a _ _ h hr hB).x ?_);
 rintro _ _ _ ⟨rfl,rfl,rfl⟩
 refine uA ?_
 refine bo (t := !soundB (withinT a)) rfl (fun hs => ?_) (fun hs => ?_)
 ·refine uA ?_
  refine bu rfl uS ⟨bm _,rfl, ?_⟩
  rw [exprD,if_neg (by simpa using hs)]
 ·have hs' : soundB (withinT a)=true:=by simpa using hs
  have hw:=(within_sound a).symm
  rw [hs'] at hw
  simp only [aj,ao] at hw
  have hlen0 : (putT (Pt.toks a)).length ≤ 140737488355328:=by
   have:=putT_len ((Pt.v_all a hnum).expr hw.2.2)
   omega
  refine uL ?_
  refine oC goes44 ((TkO.drop (tokens_all _ (okR_expr hs') hnum (by omega) _ _ h hr)).x ?_);
  rintro _ m1 _ ⟨hm1,rfl,s,rfl,hs1⟩
  refine uA ?_
  refine oC goes43 ((rtext_law _ _ s _ hs1 hlen0).x ?_);
  rintro _ m2 _ ⟨hm2,rfl,rfl⟩
  refine uA ?_
  refine bu rfl uS ⟨bn hm1 hm2,rfl, ?_⟩
  rw [exprD,if_pos hs',rtext_toks]
end Go.Sep


/- PtTells -/
namespace Go.Sep
open Go.Proofs
attribute [local irreducible] TC TO OT TCallX TCall DO DOt thenQ blockQ retQ At
attribute [local irreducible] textD exprD
theorem printTells_walk (m : Mem) (L : List Item) (a : Tree) (h : HTree) (hE : Errs m) (hT : Tb m) (hr : TreeRep m h a) (hB : a.bulk ≤ 1048576) (hR : a.inR=true) : TCall Tryz.prog 7 ⟨[treeV h]⟩ m L (Made m L fun r _=>r = .bool true):=by
 have hnum:=inR_num2 a hR
 unfold TCall
 refine bw Tryz.func7 rfl 52 rfl ?_
 refine uA ?_
 refine oB (fun b => ?_)
 refine uL ?_
 refine oC goes16 ((Text_law _ _ a h hT hr (inR_wide a hR) hnum).x ?_);
 rintro _ m1 _ ⟨hm1,rfl,rfl⟩
 refine uL ?_
 refine oC goes19 ((rText_law _ _ a h (hr.mono hm1) hB hnum).x ?_);
 rintro _ m2 _ ⟨hm2,rfl,rfl⟩
 have hm12:=bn hm1 hm2
 refine uL ?_
 refine oC goes20 ((Expr_law _ _ a h (tbOk.mono hT hm12) (hr.mono hm12) (inR_wide a hR) hnum).x ?_);
 rintro _ m3 _ ⟨hm3,rfl,rfl⟩
 have hm13:=bn hm12 hm3
 refine uL ?_
 refine oC goes21 ((rExpr_law _ _ a h (hr.mono hm13) hB hnum).x ?_);
 rintro _ m4 _ ⟨hm4,rfl,rfl⟩
 have hm14:=bn hm13 hm4
 refine uA ?_
 refine oC goes17 ((awake3_law _ _ (hE.mono hm14) (tbOk.mono hT hm14)).x ?_);
 rintro _ m5 _ ⟨hm5,rfl,rfl⟩
 have hm15:=bn hm14 hm5
 refine uA ?_
 (first | refine bB rfl rfl (fun c1 => ?_) (fun c1 => ?_) | refine bC rfl rfl (fun c1 => ?_) (fun c1 => ?_) | refine bA rfl rfl (fun c1 => ?_) (fun c1 => ?_))
 ·refine uA ?_
  (first | refine bB rfl rfl (fun c2 => ?_) (fun c2 => ?_) | refine bC rfl rfl (fun c2 => ?_) (fun c2 => ?_) | refine bA rfl rfl (fun c2 => ?_) (fun c2 => ?_))
  ·refine uA ?_
   (first | refine bB rfl rfl (fun c3 => ?_) (fun c3 => ?_) | refine bC rfl rfl (fun c3 => ?_) (fun c3 => ?_) | refine bA rfl rfl (fun c3 => ?_) (fun c3 => ?_))
   ·refine uA ?_
    refine bu rfl uS ⟨hm15,rfl, ?_⟩
    simp
   ·exact absurd rfl c3
  ·exact absurd rfl c2
 ·exact absurd rfl c1
end Go.Sep

