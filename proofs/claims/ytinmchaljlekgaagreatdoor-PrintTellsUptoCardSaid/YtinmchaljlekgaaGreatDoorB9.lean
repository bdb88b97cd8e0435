/- ScNext -/
import Derived.Test.YtinmchaljlekgaaGreatDoorB8
set_option linter.unusedVariables false
set_option linter.unusedSimpArgs false
set_option maxHeartbeats 6400000
namespace Go.Sep
open Go.Proofs
attribute [local irreducible] TC TO OT TCallX TCall DO DOt thenQ blockQ retQ At
def tokC (t : Tok) : List Value:=[.int .i64 t.kind,strV t.text, .int .i64 t.num, .int .i64 t.at_]
@[reducible] def tokV (t : Tok) : Value := .agg ⟨tokC t⟩
def NextR (o : Option (Tok × Nat)) (r : Value) : Prop := ∃ t n,r = .tuple ⟨[tokV t, .int .i64 ((n : Nat) : Int)]⟩ ∧ (o=some (t,n) ∨ (o=none∧n=0))
theorem next_law (m : Mem) (L : List Item) (s : Str) (h0 : 0 < s.length) (hl : s.length ≤ 70000) (hE : Errs m) : TCall Tryz.prog 60 ⟨[strV s]⟩ m L (Made m L fun r _=>NextR (tokD s) r):=by
 obtain ⟨c,r,rfl⟩ : ∃ c r,s=c :: r:=by
  cases s with
  | nil=>simp at h0
  | cons c r=>exact ⟨c,r,rfl⟩
 have hx : (c :: r)[0]? = some c:=rfl
 have hsl:=span_le lod (c :: r)
 unfold TCall
 refine bw Tryz.func60 rfl 99 rfl ?_
 refine uA ?_
 refine oA tab (fun b2 => ?_)
 refine uA ?_
 refine qs rfl (OT.sidx tab 0 rfl rfl rfl rfl rfl rfl rfl hx ?_)
 refine oC goes95 ((letter_law _ _ c).x ?_);
 rintro _ _ _ ⟨rfl,rfl,rfl⟩
 refine uA ?_
 refine bo rfl (fun c1 => ?_) (fun c1 => ?_)
 ·refine uA ?_
  refine oC goes97 ((either_law _ _).x ?_);
  rintro _ m1 _ ⟨hm1,rfl,e1,e2,rfl,hA1,hA2⟩
  refine uA ?_
  refine oC goes96 ((span_law m1 _ (c :: r) (by omega) lod 134 _ ⟨goes134,fun b=>either_cl m1 _ b e1 e2 hA1 hA2⟩).x ?_);
  rintro _ _ _ ⟨rfl,rfl,rfl⟩
  refine uA ?_
  refine bR [] cr 5 rfl ?_
  refine bV tab uC uK [1,2] uK rfl ?_
  refine DO.fork 0 [3] uK ⟨⟨_,rfl,rfl,rfl, ?_⟩,⟨_,rfl,rfl,rfl, ?_⟩,trivial⟩
  ·refine bM rfl rfl rfl rfl rfl rfl goes100 ((words_law _ _).x ?_)
   rintro _ m2 _ ⟨hm2,rfl,w,rfl,hw⟩
   refine ⟨hm2,_,af _, ?_⟩
   refine bZ 3 rfl rfl uK rfl ?_
   refine OT.sub tab 0 (spanOf lod (c :: r)) rfl rfl rfl rfl rfl rfl rfl (.inl ⟨rfl,rfl⟩) (.inr rfl) (aU _) hsl ?_
   refine ⟨bm _,_,af _, ?_⟩
   refine bZ 4 rfl rfl uK rfl ?_
   refine bM rfl rfl rfl rfl rfl rfl goes99 ((contains_str m2 _ w wordL _ hw).x ?_)
   rintro _ _ _ ⟨rfl,rfl,rfl⟩
   refine ⟨bm _,_,af _, ?_⟩
   refine ca uK ?_
   refine thenQ_n ?_
   refine (fun (hm12 : m ≤ m2) => ?_) (bn hm1 hm2)
   refine uA ?_
   refine bq rfl (fun k1 => ?_) (fun k1 => ?_)
   ·refine uA ?_
    refine bq rfl (fun k2 => ?_) (fun k2 => ?_)
    ·skip
     refine uA ?_
     refine uT ?_
     refine uA ?_
     refine cf tab 0 rfl rfl rfl rfl rfl (L':=L) uS ⟨hm12,rfl, ?_⟩
     refine ⟨⟨0,[],0,0⟩,0,rfl, .inr ⟨?_,rfl⟩⟩
     rw [tokD,if_pos c1,if_pos (by omega)]
    ·refine uA ?_
     refine qs rfl (OT.sub tab 0 (spanOf lod (c :: r)) rfl rfl rfl rfl rfl rfl rfl (.inl ⟨rfl,rfl⟩) (.inr rfl) (aU _) hsl ?_)
     refine uA ?_
     refine uT ?_
     refine uA ?_
     refine cf tab 0 rfl rfl rfl rfl rfl (L':=L) uS ⟨hm12,rfl, ?_⟩
     refine ⟨⟨5,(c :: r).take (spanOf lod (c :: r)),0,0⟩,spanOf lod (c :: r),rfl, .inl ?_⟩
     rw [bk] at k1
     rw [tokD,if_pos c1,if_neg (by omega),if_pos k1]
   ·refine uA ?_
    refine bq rfl (fun k2 => ?_) (fun k2 => ?_)
    ·skip
     refine uA ?_
     refine uT ?_
     refine uA ?_
     refine cf tab 0 rfl rfl rfl rfl rfl (L':=L) uS ⟨hm12,rfl, ?_⟩
     refine ⟨⟨0,[],0,0⟩,0,rfl, .inr ⟨?_,rfl⟩⟩
     rw [tokD,if_pos c1,if_pos (by omega)]
    ·refine uA ?_
     refine qs rfl (OT.sub tab 0 (spanOf lod (c :: r)) rfl rfl rfl rfl rfl rfl rfl (.inl ⟨rfl,rfl⟩) (.inr rfl) (aU _) hsl ?_)
     refine uA ?_
     refine uT ?_
     refine uA ?_
     refine cf tab 0 rfl rfl rfl rfl rfl (L':=L) uS ⟨hm12,rfl, ?_⟩
     refine ⟨⟨1,(c :: r).take (spanOf lod (c :: r)),0,0⟩,spanOf lod (c :: r),rfl, .inl ?_⟩
     rw [bk] at k1
     rw [tokD,if_pos c1,if_neg (by omega),if_neg k1]
  ·refine OT.sub tab 0 (spanOf lod (c :: r)) rfl rfl rfl rfl rfl rfl rfl (.inl ⟨rfl,rfl⟩) (.inr rfl) (aU _) hsl ?_
   refine ⟨bm _,_,af _, ?_⟩
   refine bZ 0 rfl rfl uK rfl ?_
   refine bM rfl rfl rfl rfl rfl rfl goes100 ((words_law _ _).x ?_)
   rintro _ m2 _ ⟨hm2,rfl,w,rfl,hw⟩
   refine ⟨hm2,_,af _, ?_⟩
   refine bZ 4 rfl rfl uK rfl ?_
   refine bM rfl rfl rfl rfl rfl rfl goes99 ((contains_str m2 _ w wordL _ hw).x ?_)
   rintro _ _ _ ⟨rfl,rfl,rfl⟩
   refine ⟨bm _,_,af _, ?_⟩
   refine ca uK ?_
   refine thenQ_n ?_
   refine (fun (hm12 : m ≤ m2) => ?_) (bn hm1 hm2)
   refine uA ?_
   refine bq rfl (fun k1 => ?_) (fun k1 => ?_)
   ·refine uA ?_
    refine bq rfl (fun k2 => ?_) (fun k2 => ?_)
    ·skip
     refine uA ?_
     refine uT ?_
     refine uA ?_
     refine cf tab 0 rfl rfl rfl rfl rfl (L':=L) uS ⟨hm12,rfl, ?_⟩
     refine ⟨⟨0,[],0,0⟩,0,rfl, .inr ⟨?_,rfl⟩⟩
     rw [tokD,if_pos c1,if_pos (by omega)]
    ·refine uA ?_
     refine qs rfl (OT.sub tab 0 (spanOf lod (c :: r)) rfl rfl rfl rfl rfl rfl rfl (.inl ⟨rfl,rfl⟩) (.inr rfl) (aU _) hsl ?_)
     refine uA ?_
     refine uT ?_
     refine uA ?_
     refine cf tab 0 rfl rfl rfl rfl rfl (L':=L) uS ⟨hm12,rfl, ?_⟩
     refine ⟨⟨5,(c :: r).take (spanOf lod (c :: r)),0,0⟩,spanOf lod (c :: r),rfl, .inl ?_⟩
     rw [bk] at k1
     rw [tokD,if_pos c1,if_neg (by omega),if_pos k1]
   ·refine uA ?_
    refine bq rfl (fun k2 => ?_) (fun k2 => ?_)
    ·skip
     refine uA ?_
     refine uT ?_
     refine uA ?_
     refine cf tab 0 rfl rfl rfl rfl rfl (L':=L) uS ⟨hm12,rfl, ?_⟩
     refine ⟨⟨0,[],0,0⟩,0,rfl, .inr ⟨?_,rfl⟩⟩
     rw [tokD,if_pos c1,if_pos (by omega)]
    ·refine uA ?_
     refine qs rfl (OT.sub tab 0 (spanOf lod (c :: r)) rfl rfl rfl rfl rfl rfl rfl (.inl ⟨rfl,rfl⟩) (.inr rfl) (aU _) hsl ?_)
     refine uA ?_
     refine uT ?_
     refine uA ?_
     refine cf tab 0 rfl rfl rfl rfl rfl (L':=L) uS ⟨hm12,rfl, ?_⟩
     refine ⟨⟨1,(c :: r).take (spanOf lod (c :: r)),0,0⟩,spanOf lod (c :: r),rfl, .inl ?_⟩
     rw [bk] at k1
     rw [tokD,if_pos c1,if_neg (by omega),if_neg k1]
 ·refine uA ?_
  refine qs rfl (OT.sidx tab 0 rfl rfl rfl rfl rfl rfl rfl hx ?_)
  refine oC goes98 ((digit_law _ _ c).x ?_);
  rintro _ _ _ ⟨rfl,rfl,rfl⟩
  refine uA ?_
  refine bo rfl (fun c2 => ?_) (fun c2 => ?_)
  ·refine uA ?_
   refine oC goes97 ((either_law _ _).x ?_);
   rintro _ m1 _ ⟨hm1,rfl,e1,e2,rfl,hA1,hA2⟩
   refine uA ?_
   refine oC goes96 ((span_law m1 _ (c :: r) (by omega) lod 134 _ ⟨goes134,fun b=>either_cl m1 _ b e1 e2 hA1 hA2⟩).x ?_);
   rintro _ _ _ ⟨rfl,rfl,rfl⟩
   refine uA ?_
   refine qs rfl (OT.sub tab 0 (spanOf lod (c :: r)) rfl rfl rfl rfl rfl rfl rfl (.inl ⟨rfl,rfl⟩) (.inr rfl) (aU _) hsl ?_)
   have hp : 0 < spanOf lod (c :: r):=span_pos (by unfold lod;rw [c2];simp)
   have htk : (c :: r).take (spanOf lod (c :: r))=c :: r.take (spanOf lod (c :: r) - 1):=by
    obtain ⟨k,hk⟩ : ∃ k,spanOf lod (c :: r)=k + 1:=⟨spanOf lod (c :: r) - 1,by omega⟩
    rw [hk];rfl
   rw [bk]
   have c1' : ¬ ltr c=true:=by rw [c1];decide
   refine oC goes107 ((parseInt_law _ _ ((c :: r).take (spanOf lod (c :: r))) (by rw [htk];simp) (fun x hx=>by rw [htk] at hx;cases hx;exact c2) (by rw [aL];omega) (hE.mono hm1)).x ?_);
   rintro _ m2 _ ⟨hm2,rfl,⟨v,e1,rfl⟩ | ⟨e1,v,a,b,rfl⟩⟩
   ·refine uA ?_
    refine qs rfl (OT.errNe tab rfl rfl rfl rfl (.inl rfl) rfl rfl ?_)
    refine uA ?_
    refine qs rfl (OT.sidx tab 0 rfl rfl rfl rfl rfl rfl rfl hx ?_)
    refine uA ?_
    (first | refine bB rfl rfl (fun c3 => ?_) (fun c3 => ?_) | refine bC rfl rfl (fun c3 => ?_) (fun c3 => ?_) | refine bA rfl rfl (fun c3 => ?_) (fun c3 => ?_))
    ·refine uA ?_
     (first | refine bB rfl rfl (fun c5 => ?_) (fun c5 => ?_) | refine bC rfl rfl (fun c5 => ?_) (fun c5 => ?_) | refine bA rfl rfl (fun c5 => ?_) (fun c5 => ?_))
     ·skip
      refine uA ?_
      refine uT ?_
      refine uA ?_
      refine cf tab 0 rfl rfl rfl rfl rfl (L':=L) uS ⟨(bn hm1 hm2),rfl, ?_⟩
      refine ⟨⟨0,[],0,0⟩,0,rfl, .inr ⟨?_,rfl⟩⟩
      rw [tokD,if_neg c1',if_pos c2,e1]
      simp only
      rw [if_pos (.inl (by omega))]
     ·skip
      refine uA ?_
      refine oC goes96 ((span_law _ _ (c :: r) (by omega) dgt 98 [] ⟨goes98,fun b=>digit_law _ _ b⟩).x ?_);
      rintro _ _ _ ⟨rfl,rfl,rfl⟩
      refine uA ?_
      refine TC.condN rfl (fun c4 => ?_) (fun c4 => ?_)
      ·skip
       refine uA ?_
       refine uT ?_
       refine uA ?_
       refine cf tab 0 rfl rfl rfl rfl rfl (L':=L) uS ⟨(bn hm1 hm2),rfl, ?_⟩
       refine ⟨⟨0,[],0,0⟩,0,rfl, .inr ⟨?_,rfl⟩⟩
       rw [tokD,if_neg c1',if_pos c2,e1]
       simp only
       rw [if_pos (.inr (by omega))]
      ·refine uA ?_
       refine uT ?_
       refine uA ?_
       refine cf tab 0 rfl rfl rfl rfl rfl (L':=L) uS ⟨bn hm1 hm2,rfl, ?_⟩
       refine ⟨⟨2,[],v,0⟩,spanOf lod (c :: r),rfl, .inl ?_⟩
       rw [tokD,if_neg c1',if_pos c2,e1]
       simp only
       rw [if_neg (by omega)]
    ·skip
     refine uA ?_
     refine oC goes96 ((span_law _ _ (c :: r) (by omega) dgt 98 [] ⟨goes98,fun b=>digit_law _ _ b⟩).x ?_);
     rintro _ _ _ ⟨rfl,rfl,rfl⟩
     refine uA ?_
     refine TC.condN rfl (fun c4 => ?_) (fun c4 => ?_)
     ·skip
      refine uA ?_
      refine uT ?_
      refine uA ?_
      refine cf tab 0 rfl rfl rfl rfl rfl (L':=L) uS ⟨(bn hm1 hm2),rfl, ?_⟩
      refine ⟨⟨0,[],0,0⟩,0,rfl, .inr ⟨?_,rfl⟩⟩
      rw [tokD,if_neg c1',if_pos c2,e1]
      simp only
      rw [if_pos (.inr (by omega))]
     ·refine uA ?_
      refine uT ?_
      refine uA ?_
      refine cf tab 0 rfl rfl rfl rfl rfl (L':=L) uS ⟨bn hm1 hm2,rfl, ?_⟩
      refine ⟨⟨2,[],v,0⟩,spanOf lod (c :: r),rfl, .inl ?_⟩
      rw [tokD,if_neg c1',if_pos c2,e1]
      simp only
      rw [if_neg (by omega)]
   ·refine uA ?_
    refine qs rfl (OT.errNe tab rfl rfl rfl rfl (.inr ⟨_,_,rfl⟩) rfl rfl ?_)
    refine uA ?_
    refine uT ?_
    refine uA ?_
    refine cf tab 0 rfl rfl rfl rfl rfl (L':=L) uS ⟨(bn hm1 hm2),rfl, ?_⟩
    refine ⟨⟨0,[],0,0⟩,0,rfl, .inr ⟨?_,rfl⟩⟩
    rw [tokD,if_neg c1',if_pos c2,e1]
  ·refine uA ?_
   refine qs rfl (OT.sidx tab 0 rfl rfl rfl rfl rfl rfl rfl hx ?_)
   refine uA ?_
   have c1' : ¬ ltr c=true:=by rw [c1];decide
   have c2' : ¬ dgt c=true:=by rw [c2];decide
   refine bq rfl (fun c3 => ?_) (fun c3 => ?_)
   ·refine uA ?_
    refine oC goes108 ((literal_law _ _ (c :: r) h0 hl hE).x ?_);
    rintro _ m1 _ ⟨hm1,rfl,rfl⟩
    show TO _ _ _ _ ((_,litR (lit r)) :: _) _ _ _ _
    have hD : tokD (c :: r)=(match lit r with
     | none=>none
     | some (t,n)=>if 1024 < t.length then none else some (⟨3,t,0,0⟩,n + 1)):=by
     rw [tokD,if_neg c1',if_neg c2',if_pos (by omega)]
     try rfl
    rcases hlit : lit r with _ | ⟨t,n⟩
    ·rw [hlit] at hD
     show TO _ _ _ _ ((_, .tuple ⟨[strV [], .int .i64 0]⟩) :: _) _ _ _ _
     refine uA ?_
     refine uT ?_
     refine uA ?_
     refine cf tab 0 rfl rfl rfl rfl rfl (L':=L) uS ⟨hm1,rfl, ?_⟩
     refine ⟨⟨3,[],0,0⟩,0,rfl, .inr ⟨?_,rfl⟩⟩
     rw [hD]
    ·rw [hlit] at hD
     show TO _ _ _ _ ((_, .tuple ⟨[strV t, .int .i64 ((n + 1 : Nat) : Int)]⟩) :: _) _ _ _ _
     refine uA ?_
     refine bq rfl (fun c4 => ?_) (fun c4 => ?_)
     ·refine uA ?_
      refine uT ?_
      refine uA ?_
      refine cf tab 0 rfl rfl rfl rfl rfl (L':=L) uS ⟨hm1,rfl, ?_⟩
      refine ⟨⟨3,t,0,0⟩,0,rfl, .inr ⟨?_,rfl⟩⟩
      rw [hD]
      simp only
      rw [if_pos (by omega)]
     ·refine uA ?_
      refine uT ?_
      refine uA ?_
      refine cf tab 0 rfl rfl rfl rfl rfl (L':=L) uS ⟨hm1,rfl, ?_⟩
      refine ⟨⟨3,t,0,0⟩,n + 1,rfl, .inl ?_⟩
      rw [hD]
      simp only
      rw [if_neg (by omega)]
   ·refine uA ?_
    refine oC goes109 ((marks_law _ _).x ?_);
    rintro _ m1 _ ⟨hm1,rfl,w,rfl,hw⟩
    refine uA ?_
    have hwl : w.len=27:=hw.len
    rw [hwl]
    have hD : tokD (c :: r)=(match markL.find? (fun p=>prefixB p (c :: r)) with
     | none=>none
     | some p=>some (⟨4,p,0,0⟩,p.length)):=by
     rw [tokD,if_neg c1',if_neg c2',if_neg (by omega)]
     try rfl
    refine br (ι:=Nat) [0,2,84,85] rfl (fun k=>[(86, .int .i64 (k : Int))]) (fun _=>m1) (fun _ => .cells b2 0 (tokC ⟨0,[],0,0⟩) :: L) (fun k=>k ≤ 27∧markL.find? (fun p=>prefixB p (c :: r))=(markL.drop k).find? (fun p=>prefixB p (c :: r))) (fun k=>27 - k) 0 uH rfl uS ⟨aU _,rfl⟩ ?_
    rintro k ⟨hk,hI⟩
    have hml : markL.length=27:=rfl
    refine uA ?_
    refine bq rfl (fun g1 => ?_) (fun g1 => ?_)
    ·have hlt : k < markL.length:=by omega
     have hx : markL[k]? = some markL[k]:=by simp [hlt]
     refine uA ?_
     refine qs rfl (bO tab rStr k hw rfl rfl rfl rfl rfl (by first | rfl | omega | (simp only;omega)) rfl hx ?_)
     rintro b i hd rfl hA
     (first | refine qs rfl (OT.loadA tab hA rfl rfl rfl rfl rfl ?_) | refine oL tab hA ?_)
     refine uA ?_
     refine oC goes106 ((prefix_law _ _ (c :: r) markL[k]).x ?_);
     rintro _ _ _ ⟨rfl,rfl,rfl⟩
     refine uA ?_
     refine bo rfl (fun g2 => ?_) (fun g2 => ?_)
     ·refine uA ?_
      refine uT ?_
      refine uA ?_
      refine cf tab 0 rfl rfl rfl rfl rfl (L':=L) uS ⟨hm1,rfl, ?_⟩
      refine ⟨⟨4,markL[k],0,0⟩,markL[k].length,rfl, .inl ?_⟩
      rw [hD,hI,aJ hlt,List.find?_cons_of_pos (p:=fun p=>prefixB p (c :: r)) g2]
     ·refine uA ?_
      refine qs rfl (bK (r':=((k + 1 : Nat) : Int)) rfl rfl rfl rfl rfl rfl rfl (by omega) ?_)
      refine uA ?_
      exact ⟨k + 1,uH,uH,rfl,rfl,uS,⟨by omega,by rw [hI,aJ hlt,List.find?_cons_of_neg (p:=fun p=>prefixB p (c :: r)) (by show ¬ prefixB markL[k] (c :: r)=true;rw [g2];decide)]⟩,by omega⟩
    ·skip
     refine uA ?_
     refine uT ?_
     refine uA ?_
     refine cf tab 0 rfl rfl rfl rfl rfl (L':=L) uS ⟨hm1,rfl, ?_⟩
     refine ⟨⟨0,[],0,0⟩,0,rfl, .inr ⟨?_,rfl⟩⟩
     rw [hD,hI,aS (by omega)]
     rfl
end Go.Sep


/- ScScanW -/
namespace Go.Sep
open Go.Proofs
attribute [local irreducible] TC TO OT TCallX TCall DO DOt thenQ blockQ retQ At
def rTok : R Tok Tok where
 size:=4
 bytes:=40
 enc t:=tokC t
 rep _ h a:=h=a
 enc_len _:=rfl
 one _:=rfl
 mono _ h:=h
def joinE (l : List Tok) : Except (Nat × Int) (List Tok)→Except (Nat × Int) (List Tok)
 | .error e => .error e
 | .ok l' => .ok (l++l')
def CutAt (s : Str) (at_ : Nat) (l : List Tok) (res : Except (Nat × Int) (List Tok)) : Prop := ∃ f,s.length < at_ + f∧res=joinE l (cutF f (s.drop at_) at_ l.length)
theorem CutAt.start (s : Str) : CutAt s 0 [] (cutF (s.length + 1) s 0 0):=by
 refine ⟨s.length + 1,by omega, ?_⟩
 rw [bk]
 show _=joinE [] (cutF (s.length + 1) s 0 0)
 cases cutF (s.length + 1) s 0 0 <;> rfl
section
variable {s : Str} {a : Nat} {l : List Tok} {res : Except (Nat × Int) (List Tok)}
theorem CutAt.pos (h : CutAt s a l res) (ha : a ≤ s.length) : ∃ f,s.length < a + (f + 1)∧res=joinE l (cutF (f + 1) (s.drop a) a l.length):=by
 obtain ⟨f,h1,h2⟩:=h
 cases f with
 | zero=>omega
 | succ f=>exact ⟨f,h1,h2⟩
theorem CutAt.end_ (h : CutAt s a l res) (ha : a ≤ s.length) (hb : a + blk false (s.drop a)=s.length) : res = .ok l:=by
 obtain ⟨f,h1,h2⟩:=h.pos ha
 rw [h2,cutF,List.drop_drop,aS (by omega),if_pos rfl]
 simp [joinE]
theorem drop_ne {s : Str} {k : Nat} (h : k < s.length) : s.drop k ≠ []:=fun e=>by
 have:=congrArg List.length e
 simp at this
 omega
theorem CutAt.large (h : CutAt s a l res) (ha : a ≤ s.length) (hb : a + blk false (s.drop a) < s.length) (hl : l.length=20000) : res = .error (a + blk false (s.drop a),4):=by
 obtain ⟨f,h1,h2⟩:=h.pos ha
 rw [h2,cutF,List.drop_drop,if_neg (drop_ne hb),if_pos hl];rfl
theorem CutAt.text (h : CutAt s a l res) (ha : a ≤ s.length) (hb : a + blk false (s.drop a) < s.length) (hl : l.length ≠ 20000) (ht : tokD (s.drop (a + blk false (s.drop a)))=none) : res = .error (a + blk false (s.drop a),3):=by
 obtain ⟨f,h1,h2⟩:=h.pos ha
 rw [h2,cutF,List.drop_drop,if_neg (drop_ne hb),if_neg hl,ht];rfl
theorem CutAt.go (h : CutAt s a l res) (ha : a ≤ s.length) (hb : a + blk false (s.drop a) < s.length) (hl : l.length ≠ 20000) {t : Tok} {n : Nat} (ht : tokD (s.drop (a + blk false (s.drop a)))=some (t,n)) :
  CutAt s (a + blk false (s.drop a) + n) (l++[⟨t.kind,t.text,t.num,((a + blk false (s.drop a) : Nat) : Int)⟩]) res:=by
 obtain ⟨f,h1,h2⟩:=h.pos ha
 have hn:=(tokD_le ht).1
 refine ⟨f,by omega, ?_⟩
 rw [h2,cutF,List.drop_drop,if_neg (drop_ne hb),if_neg hl,ht]
 simp only [List.drop_drop,aa,ab,ae]
 cases cutF f (s.drop (a + blk false (s.drop a) + n)) (a + blk false (s.drop a) + n) (l.length + 1) with
 | error e=>rfl
 | ok l'=>simp [joinE]
end
structure ScanS where
 m : Mem
 sl : Sl
 l : List Tok
 a : Nat
def ScanR (c : Cut) (r : Value) (m' : Mem) : Prop := ∃ sl : Sl,r = .tuple ⟨[sl.v, .int .i64 ((c.at_ : Nat) : Int), .int .i64 c.e]⟩ ∧ SlRep rTok m' sl c.list
theorem scan_law (m : Mem) (L : List Item) (s : Str) (hE : Errs m) : TCall Tryz.prog 29 ⟨[strV s]⟩ m L (Made m L fun r m'=>ScanR (scanD s) r m'):=by
 unfold TCall
 refine bw Tryz.func29 rfl 44 rfl ?_
 refine uA ?_
 refine bq rfl (fun c0 => ?_) (fun c0 => ?_)
 ·refine uA ?_
  refine bu rfl uS ⟨bm _,rfl, ?_⟩
  rw [scanD,if_pos (by omega)]
  exact ⟨⟨none,0,0⟩,rfl,bN _ _⟩
 have hl : s.length ≤ 65536:=by omega
 have hD : scanD s = .of (cutF (s.length + 1) s 0 0):=by rw [scanD,if_neg (by omega)]
 refine uA ?_
 refine TC.grow0 (size:=4) ?_
 refine br (ι:=ScanS) [0] rfl (fun x=>[(2,x.sl.v),(3, .int .i64 (x.a : Int))]) (fun x=>x.m) (fun x=>tok x.sl 4 :: L) (fun x=>m ≤ x.m∧x.a ≤ s.length∧SlRep rTok x.m x.sl x.l∧Own x.sl∧x.l.length ≤ 20000∧CutAt s x.a x.l (cutF (s.length + 1) s 0 0)) (fun x=>s.length - x.a) ⟨m,⟨none,0,0⟩,[],0⟩ uH rfl uS ⟨bm _,aU _,bN _ _,Own.nil,aU _,CutAt.start s⟩ ?_
 rintro ⟨m1,sl,l,a⟩ ⟨hm,ha,hsl,hown,hll,hI⟩
 replace hm : m ≤ m1:=hm
 replace ha : a ≤ s.length:=ha
 replace hsl : SlRep rTok m1 sl l:=hsl
 replace hown : Own sl:=hown
 replace hll : l.length ≤ 20000:=hll
 replace hI : CutAt s a l (cutF (s.length + 1) s 0 0):=hI
 show TC _ _ _ ((2,sl.v) :: (3, .int .i64 (a : Int)) :: _) _ m1 (tok sl 4 :: L) _
 have hlen:=hsl.len
 have hb:=blk_le false (s.drop a)
 rw [aM] at hb
 refine uA ?_
 refine qs rfl (OT.sub tab a s.length rfl rfl rfl rfl rfl rfl rfl (.inr rfl) (.inl ⟨rfl,rfl⟩) (by omega) (by omega) ?_)
 rw [List.take_length]
 refine oC goes59 ((blank_law _ _ (s.drop a) (by rw [aM];omega)).x ?_);
 rintro _ _ _ ⟨rfl,rfl,rfl⟩
 refine uA ?_
 refine qs rfl (bK (r':=((a + blk false (s.drop a) : Nat) : Int)) rfl rfl rfl rfl rfl rfl rfl (by omega) ?_)
 refine uA ?_
 refine bq rfl (fun c1 => ?_) (fun c1 => ?_)
 ·refine uA ?_
  refine bu rfl uS ⟨hm,rfl, ?_⟩
  rw [hD,hI.end_ ha (by omega)]
  exact ⟨sl,rfl,hsl⟩
 refine uA ?_
 refine bq rfl (fun c2 => ?_) (fun c2 => ?_)
 ·refine uA ?_
  refine bu rfl uS ⟨hm,rfl, ?_⟩
  rw [hD,hI.large ha (by omega) (by omega)]
  exact ⟨⟨none,0,0⟩,rfl,bN _ _⟩
 refine uA ?_
 refine qs rfl (OT.sub tab (a + blk false (s.drop a)) s.length rfl rfl rfl rfl rfl rfl rfl (.inr rfl) (.inl ⟨rfl,rfl⟩) (by omega) (by omega) ?_)
 rw [List.take_length]
 refine oC goes60 ((next_law _ _ (s.drop (a + blk false (s.drop a))) (by rw [aM];omega) (by rw [aM];omega) (hE.mono hm)).x ?_);
 rintro _ m2 _ ⟨hm2,rfl,t,n,rfl,hn⟩
 refine uA ?_
 refine oA tab (fun b5 => ?_)
 refine uA ?_
 refine uT ?_
 refine uA ?_
 rcases hn with hn | ⟨hn,rfl⟩
 ·have hnl:=tokD_le hn
  rw [aM] at hnl
  refine bq rfl (fun c3 => ?_) (fun c3 => ?_)
  ·omega
  refine uA ?_
  refine uT ?_
  refine uA ?_
  refine uM ?_
  refine uA ?_
  refine qs rfl (cd tab rfl rfl rfl rfl (fun b => ?_))
  refine qs rfl (OT.append1 tab rTok 1 (hd':=⟨t.kind,t.text,t.num,((a + blk false (s.drop a) : Nat) : Int)⟩) (a:=⟨t.kind,t.text,t.num,((a + blk false (s.drop a) : Nat) : Int)⟩) (hsl.mono hm2) hown rfl rfl rfl rfl rfl rfl rfl rfl (by show (l.length + 1) * 40 ≤ _;omega) (fun s' m3 hm3 hs3 ho3 => ?_))
  refine uA ?_
  refine qs rfl (bK (r':=((a + blk false (s.drop a) + n : Nat) : Int)) rfl rfl rfl rfl rfl rfl rfl (by omega) ?_)
  refine uA ?_
  exact ⟨⟨m3,s',l++[⟨t.kind,t.text,t.num,((a + blk false (s.drop a) : Nat) : Int)⟩],a + blk false (s.drop a) + n⟩,uH,uH,rfl,rfl,uS,⟨bn hm (bn hm2 hm3),by show _ + n ≤ _;omega,hs3,ho3,by show (l++[_]).length ≤ _;rw [aa];simp only [ab,ae];omega,hI.go ha (by omega) (by omega) hn⟩,by show s.length - (_ + n) < s.length - a;omega⟩
 ·refine uA ?_
  refine bu rfl uS ⟨bn hm hm2,rfl, ?_⟩
  rw [hD,hI.text ha (by omega) (by omega) hn]
  exact ⟨⟨none,0,0⟩,rfl,bN _ _⟩
end Go.Sep


/- ScAhead -/
namespace Go.Sep
theorem blk_take : ∀ (b : Bool) (r : Str) (j : Nat),blk b r ≤ j→blk b (r.take j)=blk b r
 | _,[],j,_=>by simp [blk]
 | true,c :: r,0,h=>by
  rw [blk] at h
  split at h <;> omega
 | true,c :: r,j + 1,h=>by
  rw [List.take_succ_cons,blk,blk]
  rw [blk] at h
  split at h
  ·rename_i hc
   rw [if_pos hc,if_pos hc,blk_take false r j (by omega)]
  ·rename_i hc
   rw [if_neg hc,if_neg hc,blk_take true r j (by omega)]
 | false,c :: r,0,h=>by
  have : blk false (c :: r)=0:=by omega
  rw [this];rfl
 | false,c :: r,j + 1,h=>by
  rw [List.take_succ_cons,blk,blk]
  rw [blk] at h
  split at h
  ·rename_i hc
   rw [if_pos hc,if_pos hc,blk_take false r j (by omega)]
  ·rename_i hc
   rw [if_neg hc,if_neg hc]
   split at h
   ·rename_i h2
    have hj : 1 ≤ j:=by
     cases r with
     | nil=>cases h2.2
     | cons x r =>
      have hx : x=47:=by have:=h2.2;simpa using this
      subst hx
      rw [blk,if_neg (by decide)] at h
      omega
    have hh : (r.take j).head? = r.head?:=by
     cases r with
     | nil=>simp
     | cons x r =>
      obtain ⟨i,rfl⟩ : ∃ i,j=i + 1:=⟨j - 1,by omega⟩
      simp
    rw [hh,if_pos h2,if_pos h2,blk_take true r j (by omega)]
   ·rename_i h2
    rw [if_neg h2,if_neg]
    rintro ⟨h3,h4⟩
    refine h2 ⟨h3, ?_⟩
    cases j with
    | zero=>simp at h4
    | succ i =>
     cases r with
     | nil=>simp at h4
     | cons x r=>simpa using h4
theorem takeWhile_take (p : UInt8→Bool) : ∀ (s : Str) (j : Nat),(s.takeWhile p).length ≤ j→((s.take j).takeWhile p).length=(s.takeWhile p).length
 | [],j,_=>by simp
 | c :: r,0,h=>by
  rw [List.takeWhile_cons] at h ⊢
  split at h
  ·simp at h
  ·rename_i hc
   rw [if_neg hc];rfl
 | c :: r,j + 1,h=>by
  rw [List.take_succ_cons,List.takeWhile_cons,List.takeWhile_cons]
  rw [List.takeWhile_cons] at h
  split
  ·rename_i hc
   rw [if_pos hc] at h
   simp only [ab] at h ⊢
   rw [takeWhile_take p r j (by omega)]
  ·rfl
theorem span_take {p : UInt8→Bool} {s : Str} {j : Nat} (h : spanOf p s ≤ j) : spanOf p (s.take j)=spanOf p s:=takeWhile_take p s j h
theorem escX_take {r : Str} {b : UInt8} {n j : Nat} (h : escX r=some (b,n)) (hj : n ≤ j + 1) : escX (r.take j)=some (b,n):=by
 match r,h with
 | x :: y :: r',h =>
  have h' : (hexB x y).map (fun z=>(z,3))=some (b,n):=h
  have hn : n=3:=by
   cases hx : hexB x y with
   | none=>rw [hx] at h';cases h'
   | some z=>rw [hx] at h';cases h';rfl
  obtain ⟨i,rfl⟩ : ∃ i,j=i + 2:=⟨j - 2,by omega⟩
  exact h
theorem escB_take {r : Str} {b : UInt8} {n j : Nat} (h : escB r=some (b,n)) (hj : n ≤ j) : escB (r.take j)=some (b,n):=by
 have hp:=escB_pos h
 cases r with
 | nil=>cases h
 | cons c r =>
  obtain ⟨i,rfl⟩ : ∃ i,j=i + 1:=⟨j - 1,by omega⟩
  rw [List.take_succ_cons]
  rw [escB] at h ⊢
  by_cases h1 : c.toNat=110
  ·rw [if_pos h1] at h ⊢;exact h
  ·rw [if_neg h1] at h ⊢
   by_cases h2 : c.toNat=116
   ·rw [if_pos h2] at h ⊢;exact h
   ·rw [if_neg h2] at h ⊢
    by_cases h3 : c.toNat=34 ∨ c.toNat=92
    ·rw [if_pos h3] at h ⊢;exact h
    ·rw [if_neg h3] at h ⊢
     by_cases h4 : c.toNat=120
     ·rw [if_pos h4] at h ⊢;exact escX_take h hj
     ·rw [if_neg h4] at h;cases h
theorem lit_take : ∀ (N : Nat) (r t : Str) (n j : Nat),r.length < N→lit r=some (t,n)→n ≤ j→lit (r.take j)=some (t,n)
 | 0,_,_,_,_,h,_,_=>by omega
 | N + 1,[],_,_,_,_,h,_=>by cases h
 | N + 1,c :: r,t,n,j,hN,h,hj=>by
  have hp:=lit_le h
  simp only [ab] at hN
  obtain ⟨i,rfl⟩ : ∃ i,j=i + 1:=⟨j - 1,by omega⟩
  rw [List.take_succ_cons]
  by_cases h1 : c.toNat=34
  ·rw [lit_quote h1] at h ⊢;exact h
  by_cases h2 : c.toNat=10
  ·rw [lit_nl h2] at h;cases h
  by_cases h3 : c.toNat=92
  ·cases he : escB r with
   | none=>rw [lit_esc_none h3 he] at h;cases h
   | some p =>
    obtain ⟨b,k⟩:=p
    rw [lit_esc_some h3 he] at h
    cases hl : lit (r.drop k) with
    | none=>rw [hl] at h;cases h
    | some q =>
     obtain ⟨t',n'⟩:=q
     rw [hl] at h
     simp only [bb,an,Prod.mk.injEq] at h
     have hk:=escB_pos he
     have he':=escB_take (j:=i) he (by omega)
     rw [lit_esc_some h3 he',List.drop_take,lit_take N (r.drop k) t' n' (i - k) (by rw [aM];omega) hl (by omega)]
     simp only [bb,an,Prod.mk.injEq]
     exact h
  ·cases hl : lit r with
   | none=>rw [lit_one h1 h2 h3,hl] at h;cases h
   | some q =>
    obtain ⟨t',n'⟩:=q
    rw [lit_one h1 h2 h3,hl] at h
    simp only [bb,an,Prod.mk.injEq] at h
    rw [lit_one h1 h2 h3,lit_take N r t' n' i (by omega) hl (by omega)]
    simp only [bb,an,Prod.mk.injEq]
    exact h
theorem prefixB_iff {p s : Str} : prefixB p s=true ↔ p.length ≤ s.length∧s.take p.length=p:=by
 unfold prefixB
 rw [aj,decide_eq_true_iff,decide_eq_true_iff]
theorem find_take {s p : Str} {j : Nat} (hj : p.length ≤ j) : ∀ l : List Str,l.find? (fun q=>prefixB q s)=some p→l.find? (fun q=>prefixB q (s.take j))=some p
 | [],h=>by cases h
 | q :: l,h=>by
  by_cases hq : prefixB q s=true
  ·rw [List.find?_cons_of_pos (p:=fun q=>prefixB q s) hq] at h
   cases h
   refine List.find?_cons_of_pos (p:=fun q=>prefixB q (s.take j)) (prefixB_iff.2 ?_)
   obtain ⟨h1,h2⟩:=prefixB_iff.1 hq
   refine ⟨by rw [aL];omega, ?_⟩
   rw [List.take_take,Nat.min_eq_left hj];exact h2
  ·rw [List.find?_cons_of_neg (p:=fun q=>prefixB q s) hq] at h
   rw [List.find?_cons_of_neg (p:=fun q=>prefixB q (s.take j))]
   ·exact find_take hj l h
   ·intro h3
    obtain ⟨h1,h2⟩:=prefixB_iff.1 h3
    rw [aL] at h1
    rw [List.take_take,Nat.min_eq_left (by omega)] at h2
    exact hq (prefixB_iff.2 ⟨by omega,h2⟩)
theorem tokD_take {s : Str} {t : Tok} {n j : Nat} (h : tokD s=some (t,n)) (hj : n ≤ j) : tokD (s.take j)=some (t,n):=by
 have hp:=tokD_le h
 cases s with
 | nil=>cases h
 | cons c r =>
  obtain ⟨i,rfl⟩ : ∃ i,j=i + 1:=⟨j - 1,by omega⟩
  have hts : (c :: r).take (i + 1)=c :: r.take i:=rfl
  by_cases h1 : ltr c=true
  ·have hn : n=spanOf lod (c :: r):=by
    rw [tokD,if_pos h1] at h
    split at h
    ·cases h
    ·cases h;rfl
   have hsp : spanOf lod ((c :: r).take (i + 1))=spanOf lod (c :: r):=span_take (by omega)
   have htt : ((c :: r).take (i + 1)).take (spanOf lod (c :: r))=(c :: r).take (spanOf lod (c :: r)):=by rw [List.take_take,Nat.min_eq_left (by omega)]
   rw [hts] at hsp htt ⊢
   rw [tokD,if_pos h1] at h ⊢
   rw [hsp,htt];exact h
  ·by_cases h2 : dgt c=true
   ·have hn : n=spanOf lod (c :: r)∧spanOf dgt (c :: r)=spanOf lod (c :: r):=by
     rw [tokD,if_neg h1,if_pos h2] at h
     split at h
     ·cases h
     ·split at h
      ·cases h
      ·rename_i h3
       cases h;exact ⟨rfl,by omega⟩
    have hsp : spanOf lod ((c :: r).take (i + 1))=spanOf lod (c :: r):=span_take (by omega)
    have hsd : spanOf dgt ((c :: r).take (i + 1))=spanOf dgt (c :: r):=span_take (by omega)
    have htt : ((c :: r).take (i + 1)).take (spanOf lod (c :: r))=(c :: r).take (spanOf lod (c :: r)):=by rw [List.take_take,Nat.min_eq_left (by omega)]
    rw [hts] at hsp hsd htt ⊢
    rw [tokD,if_neg h1,if_pos h2] at h ⊢
    rw [hsp,hsd,htt];exact h
   ·by_cases h3 : c.toNat=34
    ·rw [hts]
     rw [tokD,if_neg h1,if_neg h2,if_pos h3] at h ⊢
     cases hl : lit r with
     | none=>rw [hl] at h;cases h
     | some q =>
      obtain ⟨t',n'⟩:=q
      rw [hl] at h
      simp only at h
      have hn : n=n' + 1:=by
       split at h
       ·cases h
       ·cases h;rfl
      rw [lit_take (r.length + 1) r t' n' i (by omega) hl (by omega)]
      exact h
    ·rw [tokD,if_neg h1,if_neg h2,if_neg h3] at h
     cases hf : markL.find? (fun p=>prefixB p (c :: r)) with
     | none=>rw [hf] at h;cases h
     | some p =>
      rw [hf] at h
      have hn : n=p.length:=by cases h;rfl
      have:=find_take (s:=c :: r) (p:=p) (j:=i + 1) (by omega) markL hf
      rw [hts] at this ⊢
      rw [tokD,if_neg h1,if_neg h2,if_neg h3,this]
      exact h
theorem cutF_take : ∀ (f : Nat) (r : Str) (at_ k a : Nat),cutF f r at_ k = .error (a,3)→r.length < f→at_ ≤ a∧a - at_ < r.length ∧ ∀ g,a - at_ < g → ∃ l,cutF g (r.take (a - at_)) at_ k = .ok l
 | 0,r,at_,k,a,h,hf=>by omega
 | f + 1,r,at_,k,a,h,hf=>by
  have hb:=blk_le false r
  rw [cutF] at h
  by_cases h1 : r.drop (blk false r)=[]
  ·rw [if_pos h1] at h;cases h
  ·rw [if_neg h1] at h
   have hlt : blk false r < r.length:=by
    refine Nat.lt_of_not_le fun hge=>h1 (aS hge)
   by_cases h2 : k=20000
   ·rw [if_pos h2] at h
    cases h
   ·rw [if_neg h2] at h
    cases ht : tokD (r.drop (blk false r)) with
    | none =>
     rw [ht] at h
     simp only [Except.error.injEq,Prod.mk.injEq,and_true] at h
     subst h
     refine ⟨by omega,by omega,fun g hg => ?_⟩
     rw [show at_ + blk false r - at_=blk false r by omega]
     cases g with
     | zero=>omega
     | succ g =>
      refine ⟨[], ?_⟩
      rw [cutF,blk_take false r _ (av _),aS (by rw [aL];omega),if_pos rfl]
    | some p =>
     obtain ⟨t,n⟩:=p
     rw [ht] at h
     simp only at h
     have hn:=tokD_le ht
     rw [aM] at hn
     cases hc : cutF f ((r.drop (blk false r)).drop n) (at_ + blk false r + n) (k + 1) with
     | ok l=>rw [hc] at h;cases h
     | error e =>
      rw [hc] at h
      simp only [Except.error.injEq] at h
      subst h
      obtain ⟨g1,g2,g3⟩:=cutF_take f _ _ _ _ hc (by rw [aM,aM];omega)
      rw [aM,aM] at g2
      refine ⟨by omega,by omega,fun g hg => ?_⟩
      cases g with
      | zero=>omega
      | succ g =>
       have hd : (r.take (a - at_)).drop (blk false r)=(r.drop (blk false r)).take (a - at_ - blk false r):=List.drop_take ..
       obtain ⟨l,hl⟩:=g3 g (by omega)
       have ht':=tokD_take (j:=a - at_ - blk false r) ht (by omega)
       refine ⟨⟨t.kind,t.text,t.num,((at_ + blk false r : Nat) : Int)⟩ :: l, ?_⟩
       rw [cutF,blk_take false r _ (by omega),hd,if_neg,if_neg h2,ht']
       ·simp only
        rw [List.drop_take,show a - at_ - blk false r - n=a - (at_ + blk false r + n) by omega,hl]
       ·intro e
        rw [e] at ht'
        cases ht'
end Go.Sep


/- ScQuote -/
namespace Go.Sep
open Go.Proofs
attribute [local irreducible] TC TO OT TCallX TCall DO DOt thenQ blockQ retQ At
def hexD (n : Nat) : UInt8:=UInt8.ofNat (if n < 10 then 48 + n else 87 + n)
def quoteC (c : UInt8) : Str :=
 if c.toNat=10 then [92,110] else if c.toNat=9 then [92,116] else if c.toNat=34 ∨ c.toNat=92 then [92,c]
 else if 32 ≤ c.toNat∧c.toNat ≤ 126 then [c] else [92,120,hexD (c.toNat / 16),hexD (c.toNat % 16)]
def quoteB (s : Str) : Str:=s.flatMap quoteC
def quoteD (s : Str) : Str:=34 :: (quoteB s++[34])
theorem quoteC_len (c : UInt8) : (quoteC c).length ≤ 4:=by
 unfold quoteC
 repeat' split
 all_goals simp
theorem quoteB_len (s : Str) : (quoteB s).length ≤ 4 * s.length:=by
 induction s with
 | nil=>simp [quoteB]
 | cons c r ih =>
  have:=quoteC_len c
  unfold quoteB at ih ⊢
  rw [List.flatMap_cons,aa,ab]
  omega
theorem quoteB_take {s : Str} {i : Nat} (h : i < s.length) : quoteB (s.take (i + 1))=quoteB (s.take i)++quoteC s[i]:=by
 unfold quoteB
 rw [aX h,List.flatMap_append]
 simp
theorem hexS_get {n : Nat} (h : n < 16) : ([48,49,50,51,52,53,54,55,56,57,97,98,99,100,101,102] : Str)[n]? = some (hexD n):=by
 have:=(by decide +kernel : ∀ n : Fin 16,([48,49,50,51,52,53,54,55,56,57,97,98,99,100,101,102] : Str)[n.val]? = some (hexD n.val)) ⟨n,h⟩
 exact this
theorem u8_shr4 (n : Nat) : (if BinOp.shr = .shl then IntKind.u8.wrap ((n : Int) * 2 ^ (min (Int.toNat 4) IntKind.u8.bits)) else Int.fdiv (n : Int) (2 ^ (min (Int.toNat 4) IntKind.u8.bits)))=((n / 16 : Nat) : Int):=by
 have : (min (Int.toNat 4) IntKind.u8.bits)=4:=rfl
 rw [this,if_neg (by decide)]
 rw [Int.fdiv_eq_ediv_of_nonneg _ (by decide)]
 rfl
theorem u8_quo16 (n : Nat) (h : n < 256) : IntKind.u8.wrap ((n : Int).tdiv 16)=((n / 16 : Nat) : Int):=by
 have h1 : (n : Int).tdiv 16=((n / 16 : Nat) : Int):=rfl
 rw [h1,u8_in (by omega) (by omega)]
theorem u8_rem16 (n : Nat) : (n : Int).tmod 16=((n % 16 : Nat) : Int):=rfl
theorem qc_nl {c : UInt8} (h : c.toNat=10) : quoteC c=[92,110]:=by rw [quoteC,if_pos h]
theorem qc_tab {c : UInt8} (h : c.toNat=9) : quoteC c=[92,116]:=by rw [quoteC,if_neg (by omega),if_pos h]
theorem qc_self {c : UInt8} (h : c.toNat=34 ∨ c.toNat=92) : quoteC c=[92,c]:=by rw [quoteC,if_neg (by omega),if_neg (by omega),if_pos h]
theorem qc_one {c : UInt8} (h1 : c.toNat ≠ 34) (h2 : c.toNat ≠ 92) (h3 : 32 ≤ c.toNat) (h4 : c.toNat ≤ 126) : quoteC c=[c]:=by rw [quoteC,if_neg (by omega),if_neg (by omega),if_neg (by omega),if_pos ⟨h3,h4⟩]
theorem qc_hex {c : UInt8} (h1 : c.toNat ≠ 10) (h2 : c.toNat ≠ 9) (h : c.toNat < 32 ∨ 126 < c.toNat) : quoteC c=[92,120,hexD (c.toNat / 16),hexD (c.toNat % 16)]:=by rw [quoteC,if_neg h1,if_neg h2,if_neg (by omega),if_neg (by omega)]
structure QuoS where
 m : Mem
 sl : Sl
 i : Nat
 acc : Str
theorem quote_law (m : Mem) (L : List Item) (s : Str) (hl : s.length ≤ 1099511627776) : TCall Tryz.prog 87 ⟨[strV s]⟩ m L (Ret (strV (quoteD s)) m L):=by
 refine cg ?_
 unfold TCall
 refine bw Tryz.func87 rfl 61 rfl ?_
 refine uA ?_
 refine qs rfl (cd tab rfl rfl rfl rfl (fun b => ?_))
 refine cc fun m1 hm1 hA1 => ?_
 refine TO.tokFull b 1 ?_
 refine uA ?_
 refine br (ι:=QuoS) [0,8] rfl (fun x=>[(3,x.sl.v),(9, .int .i64 (x.i : Int))]) (fun x=>x.m) (fun x=>tok x.sl 1 :: L) (fun x=>m ≤ x.m∧x.i ≤ s.length∧SlRep rByte x.m x.sl x.acc∧Own x.sl∧x.acc=34 :: quoteB (s.take x.i)) (fun x=>s.length - x.i) ⟨m1,⟨some ⟨b,0,none⟩,1,1⟩,0,[34]⟩ uH rfl uS ⟨hm1,aU _,cp (bs:=[34]) hA1 rfl (by decide),Own.lit _ _ _,rfl⟩ ?_
 rintro ⟨m1,sl,i,acc⟩ ⟨hm,hi,hsl,hown,hacc⟩
 replace hm : m ≤ m1:=hm
 replace hi : i ≤ s.length:=hi
 replace hsl : SlRep rByte m1 sl acc:=hsl
 replace hown : Own sl:=hown
 replace hacc : acc=34 :: quoteB (s.take i):=hacc
 have hal : acc.length ≤ 4 * i + 1:=by
  rw [hacc,ab]
  have:=quoteB_len (s.take i)
  rw [aL] at this
  omega
 show TC _ _ _ ((3,sl.v) :: (9, .int .i64 (i : Int)) :: _) _ m1 (tok sl 1 :: L) _
 refine uA ?_
 refine bq rfl (fun g1 => ?_) (fun g1 => ?_)
 ·have hlt : i < s.length:=by omega
  have hx : s[i]? = some s[i]:=by simp [hlt]
  have hc : s[i].toNat < 256:=s[i].toNat_lt
  refine uA ?_
  refine qs rfl (OT.sidx tab i rfl rfl rfl rfl rfl rfl rfl hx ?_)
  refine uA ?_
  refine bq rfl (fun c1 => ?_) (fun c1 => ?_)
  ·refine uA ?_
   refine qs rfl (OT.appendS tab 0 (bs:=[92,110]) hsl hown rfl rfl rfl rfl rfl rfl rfl rfl rfl rfl rfl (by show acc.length + 2 ≤ _;omega) (fun s' m3 hm3 hs' ho' => ?_))
   refine uA ?_
   refine qs rfl (bK (r':=((i + 1 : Nat) : Int)) rfl rfl rfl rfl rfl rfl rfl (by omega) ?_)
   refine uA ?_
   exact ⟨⟨m3,s',i + 1,acc++[92,110]⟩,uH,uH,rfl,rfl,uS,⟨bn hm hm3,by show i + 1 ≤ _;omega,hs',ho',by show acc++_=_;rw [hacc,az,quoteB_take hlt,(qc_nl (by omega))]⟩,by show s.length - (i + 1) < s.length - i;omega⟩
  refine uA ?_
  refine bq rfl (fun c2 => ?_) (fun c2 => ?_)
  ·refine uA ?_
   refine qs rfl (OT.appendS tab 0 (bs:=[92,116]) hsl hown rfl rfl rfl rfl rfl rfl rfl rfl rfl rfl rfl (by show acc.length + 2 ≤ _;omega) (fun s' m3 hm3 hs' ho' => ?_))
   refine uA ?_
   refine qs rfl (bK (r':=((i + 1 : Nat) : Int)) rfl rfl rfl rfl rfl rfl rfl (by omega) ?_)
   refine uA ?_
   exact ⟨⟨m3,s',i + 1,acc++[92,116]⟩,uH,uH,rfl,rfl,uS,⟨bn hm hm3,by show i + 1 ≤ _;omega,hs',ho',by show acc++_=_;rw [hacc,az,quoteB_take hlt,(qc_tab (by omega))]⟩,by show s.length - (i + 1) < s.length - i;omega⟩
  refine uA ?_
  (refine bB rfl rfl (fun c3 => ?_) (fun c3 => ?_))
  ·refine uA ?_
   refine qs rfl (cd tab rfl rfl rfl rfl (fun b => ?_))
   refine cc fun m2 hm2 hA => ?_
   refine qs rfl (bP tab rByte 0 (hsl.mono hm2) hown (cp (bs:=[92,s[i]]) (n:=2) hA rfl (by decide)) rfl rfl rfl rfl rfl rfl rfl (by show (acc.length + 2) * 1 ≤ _;omega) (fun s' m3 hm3 hs' ho' => ?_))
   refine uA ?_
   refine qs rfl (bK (r':=((i + 1 : Nat) : Int)) rfl rfl rfl rfl rfl rfl rfl (by omega) ?_)
   refine uA ?_
   exact ⟨⟨m3,s',i + 1,acc++[92,s[i]]⟩,uH,uH,rfl,rfl,uS,⟨bn hm (bn hm2 hm3),by show i + 1 ≤ _;omega,hs',ho',by show acc++_=_;rw [hacc,az,quoteB_take hlt,(qc_self (by omega))]⟩,by show s.length - (i + 1) < s.length - i;omega⟩
  refine uA ?_
  refine bq rfl (fun c4 => ?_) (fun c4 => ?_)
  ·refine uA ?_
   refine qs rfl (cd tab rfl rfl rfl rfl (fun b => ?_))
   refine cc fun m2 hm2 hA => ?_
   refine qs rfl (bP tab rByte 0 (hsl.mono hm2) hown (cp (bs:=[92,s[i]]) (n:=2) hA rfl (by decide)) rfl rfl rfl rfl rfl rfl rfl (by show (acc.length + 2) * 1 ≤ _;omega) (fun s' m3 hm3 hs' ho' => ?_))
   refine uA ?_
   refine qs rfl (bK (r':=((i + 1 : Nat) : Int)) rfl rfl rfl rfl rfl rfl rfl (by omega) ?_)
   refine uA ?_
   exact ⟨⟨m3,s',i + 1,acc++[92,s[i]]⟩,uH,uH,rfl,rfl,uS,⟨bn hm (bn hm2 hm3),by show i + 1 ≤ _;omega,hs',ho',by show acc++_=_;rw [hacc,az,quoteB_take hlt,(qc_self (by omega))]⟩,by show s.length - (i + 1) < s.length - i;omega⟩
  refine uA ?_
  (refine bB rfl rfl (fun c5 => ?_) (fun c5 => ?_))
  ·refine uA ?_
   refine bq rfl (fun c6 => ?_) (fun c6 => ?_)
   ·refine uA ?_
    refine qs rfl (cd tab rfl rfl rfl rfl (fun b => ?_))
    refine cc fun m2 hm2 hA => ?_
    refine qs rfl (bP tab rByte 0 (hsl.mono hm2) hown (cp (bs:=[s[i]]) (n:=1) hA rfl (by decide)) rfl rfl rfl rfl rfl rfl rfl (by show (acc.length + 1) * 1 ≤ _;omega) (fun s' m3 hm3 hs' ho' => ?_))
    refine uA ?_
    refine qs rfl (bK (r':=((i + 1 : Nat) : Int)) rfl rfl rfl rfl rfl rfl rfl (by omega) ?_)
    refine uA ?_
    exact ⟨⟨m3,s',i + 1,acc++[s[i]]⟩,uH,uH,rfl,rfl,uS,⟨bn hm (bn hm2 hm3),by show i + 1 ≤ _;omega,hs',ho',by show acc++_=_;rw [hacc,az,quoteB_take hlt,(qc_one (by omega) (by omega) (by omega) (by omega))]⟩,by show s.length - (i + 1) < s.length - i;omega⟩
   ·refine uA ?_
    refine bQ [] cr 10 rfl [] (tok sl 1 :: L) (af _) ?_
    refine bV tab uC uK [0,1,4] uK rfl ?_
    refine DO.fork 2 [5] uK ⟨⟨_,rfl,rfl,rfl, ?_⟩,⟨_,rfl,rfl,rfl, ?_⟩,trivial⟩
    ·refine OT.shK rfl (.inr rfl) rfl rfl rfl rfl (by decide) (r:=((s[i].toNat / 16 : Nat) : Int)) (u8_shr4 _) ?_
     refine ⟨bm _,_,af _, ?_⟩
     refine DO.fork 3 [5] uK ⟨⟨_,rfl,rfl,rfl, ?_⟩,⟨_,rfl,rfl,rfl, ?_⟩,trivial⟩
     ·refine co tab (s[i].toNat / 16) rfl rfl rfl rfl rfl rfl rfl (hexS_get (by omega)) ?_
      refine ⟨bm _,_,af _, ?_⟩
      refine bZ 5 rfl rfl uK rfl ?_
      refine OT.and15 rfl rfl rfl rfl rfl hc ?_
      refine ⟨bm _,_,af _, ?_⟩
      refine bZ 6 rfl rfl uK rfl ?_
      refine co tab (s[i].toNat % 16) rfl rfl rfl rfl rfl rfl rfl (hexS_get (by omega)) ?_
      refine ⟨bm _,_,af _, ?_⟩
      refine bZ 7 rfl rfl uK rfl ?_
      refine cd tab rfl rfl rfl rfl (fun b => ?_)
      refine ⟨bm _,_,af _, ?_⟩
      refine bZ 8 rfl rfl uK rfl ?_
      refine cn fun m2 hm2 hA=>bP tab rByte 0 (hsl.mono hm2) hown (cp (bs:=[92,120,hexD (s[i].toNat / 16),hexD (s[i].toNat % 16)]) (n:=4) hA rfl (by decide)) rfl rfl rfl rfl rfl rfl rfl (by show (acc.length + 4) * 1 ≤ _;omega) (fun s' m3 hm3 hs' ho' => ?_)
      refine ⟨bn hm2 hm3,_,af _, ?_⟩
      refine bV tab uC uK [9] uK rfl ?_
      refine cb uK ?_
      refine uA ?_
      refine qs rfl (bK (r':=((i + 1 : Nat) : Int)) rfl rfl rfl rfl rfl rfl rfl (by omega) ?_)
      refine uA ?_
      exact ⟨⟨m3,s',i + 1,acc++[92,120,hexD (s[i].toNat / 16),hexD (s[i].toNat % 16)]⟩,uH,uH,rfl,rfl,uS,⟨bn hm (bn hm2 hm3),by show i + 1 ≤ _;omega,hs',ho',by show acc++_=_;rw [hacc,az,quoteB_take hlt,(qc_hex (by omega) (by omega) (by omega))]⟩,by show s.length - (i + 1) < s.length - i;omega⟩
     ·refine OT.and15 rfl rfl rfl rfl rfl hc ?_
      refine ⟨bm _,_,af _, ?_⟩
      refine DO.fork 3 [6] uK ⟨⟨_,rfl,rfl,rfl, ?_⟩,⟨_,rfl,rfl,rfl, ?_⟩,trivial⟩
      ·refine co tab (s[i].toNat / 16) rfl rfl rfl rfl rfl rfl rfl (hexS_get (by omega)) ?_
       refine ⟨bm _,_,af _, ?_⟩
       refine bZ 6 rfl rfl uK rfl ?_
       refine co tab (s[i].toNat % 16) rfl rfl rfl rfl rfl rfl rfl (hexS_get (by omega)) ?_
       refine ⟨bm _,_,af _, ?_⟩
       refine bZ 7 rfl rfl uK rfl ?_
       refine cd tab rfl rfl rfl rfl (fun b => ?_)
       refine ⟨bm _,_,af _, ?_⟩
       refine bZ 8 rfl rfl uK rfl ?_
       refine cn fun m2 hm2 hA=>bP tab rByte 0 (hsl.mono hm2) hown (cp (bs:=[92,120,hexD (s[i].toNat / 16),hexD (s[i].toNat % 16)]) (n:=4) hA rfl (by decide)) rfl rfl rfl rfl rfl rfl rfl (by show (acc.length + 4) * 1 ≤ _;omega) (fun s' m3 hm3 hs' ho' => ?_)
       refine ⟨bn hm2 hm3,_,af _, ?_⟩
       refine bV tab uC uK [9] uK rfl ?_
       refine cb uK ?_
       refine uA ?_
       refine qs rfl (bK (r':=((i + 1 : Nat) : Int)) rfl rfl rfl rfl rfl rfl rfl (by omega) ?_)
       refine uA ?_
       exact ⟨⟨m3,s',i + 1,acc++[92,120,hexD (s[i].toNat / 16),hexD (s[i].toNat % 16)]⟩,uH,uH,rfl,rfl,uS,⟨bn hm (bn hm2 hm3),by show i + 1 ≤ _;omega,hs',ho',by show acc++_=_;rw [hacc,az,quoteB_take hlt,(qc_hex (by omega) (by omega) (by omega))]⟩,by show s.length - (i + 1) < s.length - i;omega⟩
      ·refine co tab (s[i].toNat % 16) rfl rfl rfl rfl rfl rfl rfl (hexS_get (by omega)) ?_
       refine ⟨bm _,_,af _, ?_⟩
       refine bZ 3 rfl rfl uK rfl ?_
       refine co tab (s[i].toNat / 16) rfl rfl rfl rfl rfl rfl rfl (hexS_get (by omega)) ?_
       refine ⟨bm _,_,af _, ?_⟩
       refine bZ 7 rfl rfl uK rfl ?_
       refine cd tab rfl rfl rfl rfl (fun b => ?_)
       refine ⟨bm _,_,af _, ?_⟩
       refine bZ 8 rfl rfl uK rfl ?_
       refine cn fun m2 hm2 hA=>bP tab rByte 0 (hsl.mono hm2) hown (cp (bs:=[92,120,hexD (s[i].toNat / 16),hexD (s[i].toNat % 16)]) (n:=4) hA rfl (by decide)) rfl rfl rfl rfl rfl rfl rfl (by show (acc.length + 4) * 1 ≤ _;omega) (fun s' m3 hm3 hs' ho' => ?_)
       refine ⟨bn hm2 hm3,_,af _, ?_⟩
       refine bV tab uC uK [9] uK rfl ?_
       refine cb uK ?_
       refine uA ?_
       refine qs rfl (bK (r':=((i + 1 : Nat) : Int)) rfl rfl rfl rfl rfl rfl rfl (by omega) ?_)
       refine uA ?_
       exact ⟨⟨m3,s',i + 1,acc++[92,120,hexD (s[i].toNat / 16),hexD (s[i].toNat % 16)]⟩,uH,uH,rfl,rfl,uS,⟨bn hm (bn hm2 hm3),by show i + 1 ≤ _;omega,hs',ho',by show acc++_=_;rw [hacc,az,quoteB_take hlt,(qc_hex (by omega) (by omega) (by omega))]⟩,by show s.length - (i + 1) < s.length - i;omega⟩
    ·refine OT.and15 rfl rfl rfl rfl rfl hc ?_
     refine ⟨bm _,_,af _, ?_⟩
     refine DO.fork 2 [6] uK ⟨⟨_,rfl,rfl,rfl, ?_⟩,⟨_,rfl,rfl,rfl, ?_⟩,trivial⟩
     ·refine OT.shK rfl (.inr rfl) rfl rfl rfl rfl (by decide) (r:=((s[i].toNat / 16 : Nat) : Int)) (u8_shr4 _) ?_
      refine ⟨bm _,_,af _, ?_⟩
      refine DO.fork 3 [6] uK ⟨⟨_,rfl,rfl,rfl, ?_⟩,⟨_,rfl,rfl,rfl, ?_⟩,trivial⟩
      ·refine co tab (s[i].toNat / 16) rfl rfl rfl rfl rfl rfl rfl (hexS_get (by omega)) ?_
       refine ⟨bm _,_,af _, ?_⟩
       refine bZ 6 rfl rfl uK rfl ?_
       refine co tab (s[i].toNat % 16) rfl rfl rfl rfl rfl rfl rfl (hexS_get (by omega)) ?_
       refine ⟨bm _,_,af _, ?_⟩
       refine bZ 7 rfl rfl uK rfl ?_
       refine cd tab rfl rfl rfl rfl (fun b => ?_)
       refine ⟨bm _,_,af _, ?_⟩
       refine bZ 8 rfl rfl uK rfl ?_
       refine cn fun m2 hm2 hA=>bP tab rByte 0 (hsl.mono hm2) hown (cp (bs:=[92,120,hexD (s[i].toNat / 16),hexD (s[i].toNat % 16)]) (n:=4) hA rfl (by decide)) rfl rfl rfl rfl rfl rfl rfl (by show (acc.length + 4) * 1 ≤ _;omega) (fun s' m3 hm3 hs' ho' => ?_)
       refine ⟨bn hm2 hm3,_,af _, ?_⟩
       refine bV tab uC uK [9] uK rfl ?_
       refine cb uK ?_
       refine uA ?_
       refine qs rfl (bK (r':=((i + 1 : Nat) : Int)) rfl rfl rfl rfl rfl rfl rfl (by omega) ?_)
       refine uA ?_
       exact ⟨⟨m3,s',i + 1,acc++[92,120,hexD (s[i].toNat / 16),hexD (s[i].toNat % 16)]⟩,uH,uH,rfl,rfl,uS,⟨bn hm (bn hm2 hm3),by show i + 1 ≤ _;omega,hs',ho',by show acc++_=_;rw [hacc,az,quoteB_take hlt,(qc_hex (by omega) (by omega) (by omega))]⟩,by show s.length - (i + 1) < s.length - i;omega⟩
      ·refine co tab (s[i].toNat % 16) rfl rfl rfl rfl rfl rfl rfl (hexS_get (by omega)) ?_
       refine ⟨bm _,_,af _, ?_⟩
       refine bZ 3 rfl rfl uK rfl ?_
       refine co tab (s[i].toNat / 16) rfl rfl rfl rfl rfl rfl rfl (hexS_get (by omega)) ?_
       refine ⟨bm _,_,af _, ?_⟩
       refine bZ 7 rfl rfl uK rfl ?_
       refine cd tab rfl rfl rfl rfl (fun b => ?_)
       refine ⟨bm _,_,af _, ?_⟩
       refine bZ 8 rfl rfl uK rfl ?_
       refine cn fun m2 hm2 hA=>bP tab rByte 0 (hsl.mono hm2) hown (cp (bs:=[92,120,hexD (s[i].toNat / 16),hexD (s[i].toNat % 16)]) (n:=4) hA rfl (by decide)) rfl rfl rfl rfl rfl rfl rfl (by show (acc.length + 4) * 1 ≤ _;omega) (fun s' m3 hm3 hs' ho' => ?_)
       refine ⟨bn hm2 hm3,_,af _, ?_⟩
       refine bV tab uC uK [9] uK rfl ?_
       refine cb uK ?_
       refine uA ?_
       refine qs rfl (bK (r':=((i + 1 : Nat) : Int)) rfl rfl rfl rfl rfl rfl rfl (by omega) ?_)
       refine uA ?_
       exact ⟨⟨m3,s',i + 1,acc++[92,120,hexD (s[i].toNat / 16),hexD (s[i].toNat % 16)]⟩,uH,uH,rfl,rfl,uS,⟨bn hm (bn hm2 hm3),by show i + 1 ≤ _;omega,hs',ho',by show acc++_=_;rw [hacc,az,quoteB_take hlt,(qc_hex (by omega) (by omega) (by omega))]⟩,by show s.length - (i + 1) < s.length - i;omega⟩
     ·refine co tab (s[i].toNat % 16) rfl rfl rfl rfl rfl rfl rfl (hexS_get (by omega)) ?_
      refine ⟨bm _,_,af _, ?_⟩
      refine bZ 2 rfl rfl uK rfl ?_
      refine OT.shK rfl (.inr rfl) rfl rfl rfl rfl (by decide) (r:=((s[i].toNat / 16 : Nat) : Int)) (u8_shr4 _) ?_
      refine ⟨bm _,_,af _, ?_⟩
      refine bZ 3 rfl rfl uK rfl ?_
      refine co tab (s[i].toNat / 16) rfl rfl rfl rfl rfl rfl rfl (hexS_get (by omega)) ?_
      refine ⟨bm _,_,af _, ?_⟩
      refine bZ 7 rfl rfl uK rfl ?_
      refine cd tab rfl rfl rfl rfl (fun b => ?_)
      refine ⟨bm _,_,af _, ?_⟩
      refine bZ 8 rfl rfl uK rfl ?_
      refine cn fun m2 hm2 hA=>bP tab rByte 0 (hsl.mono hm2) hown (cp (bs:=[92,120,hexD (s[i].toNat / 16),hexD (s[i].toNat % 16)]) (n:=4) hA rfl (by decide)) rfl rfl rfl rfl rfl rfl rfl (by show (acc.length + 4) * 1 ≤ _;omega) (fun s' m3 hm3 hs' ho' => ?_)
      refine ⟨bn hm2 hm3,_,af _, ?_⟩
      refine bV tab uC uK [9] uK rfl ?_
      refine cb uK ?_
      refine uA ?_
      refine qs rfl (bK (r':=((i + 1 : Nat) : Int)) rfl rfl rfl rfl rfl rfl rfl (by omega) ?_)
      refine uA ?_
      exact ⟨⟨m3,s',i + 1,acc++[92,120,hexD (s[i].toNat / 16),hexD (s[i].toNat % 16)]⟩,uH,uH,rfl,rfl,uS,⟨bn hm (bn hm2 hm3),by show i + 1 ≤ _;omega,hs',ho',by show acc++_=_;rw [hacc,az,quoteB_take hlt,(qc_hex (by omega) (by omega) (by omega))]⟩,by show s.length - (i + 1) < s.length - i;omega⟩
  ·refine uA ?_
   refine bQ [] cr 10 rfl [] (tok sl 1 :: L) (af _) ?_
   refine bV tab uC uK [0,1,4] uK rfl ?_
   refine DO.fork 2 [5] uK ⟨⟨_,rfl,rfl,rfl, ?_⟩,⟨_,rfl,rfl,rfl, ?_⟩,trivial⟩
   ·refine OT.shK rfl (.inr rfl) rfl rfl rfl rfl (by decide) (r:=((s[i].toNat / 16 : Nat) : Int)) (u8_shr4 _) ?_
    refine ⟨bm _,_,af _, ?_⟩
    refine DO.fork 3 [5] uK ⟨⟨_,rfl,rfl,rfl, ?_⟩,⟨_,rfl,rfl,rfl, ?_⟩,trivial⟩
    ·refine co tab (s[i].toNat / 16) rfl rfl rfl rfl rfl rfl rfl (hexS_get (by omega)) ?_
     refine ⟨bm _,_,af _, ?_⟩
     refine bZ 5 rfl rfl uK rfl ?_
     refine OT.and15 rfl rfl rfl rfl rfl hc ?_
     refine ⟨bm _,_,af _, ?_⟩
     refine bZ 6 rfl rfl uK rfl ?_
     refine co tab (s[i].toNat % 16) rfl rfl rfl rfl rfl rfl rfl (hexS_get (by omega)) ?_
     refine ⟨bm _,_,af _, ?_⟩
     refine bZ 7 rfl rfl uK rfl ?_
     refine cd tab rfl rfl rfl rfl (fun b => ?_)
     refine ⟨bm _,_,af _, ?_⟩
     refine bZ 8 rfl rfl uK rfl ?_
     refine cn fun m2 hm2 hA=>bP tab rByte 0 (hsl.mono hm2) hown (cp (bs:=[92,120,hexD (s[i].toNat / 16),hexD (s[i].toNat % 16)]) (n:=4) hA rfl (by decide)) rfl rfl rfl rfl rfl rfl rfl (by show (acc.length + 4) * 1 ≤ _;omega) (fun s' m3 hm3 hs' ho' => ?_)
     refine ⟨bn hm2 hm3,_,af _, ?_⟩
     refine bV tab uC uK [9] uK rfl ?_
     refine cb uK ?_
     refine uA ?_
     refine qs rfl (bK (r':=((i + 1 : Nat) : Int)) rfl rfl rfl rfl rfl rfl rfl (by omega) ?_)
     refine uA ?_
     exact ⟨⟨m3,s',i + 1,acc++[92,120,hexD (s[i].toNat / 16),hexD (s[i].toNat % 16)]⟩,uH,uH,rfl,rfl,uS,⟨bn hm (bn hm2 hm3),by show i + 1 ≤ _;omega,hs',ho',by show acc++_=_;rw [hacc,az,quoteB_take hlt,(qc_hex (by omega) (by omega) (by omega))]⟩,by show s.length - (i + 1) < s.length - i;omega⟩
    ·refine OT.and15 rfl rfl rfl rfl rfl hc ?_
     refine ⟨bm _,_,af _, ?_⟩
     refine DO.fork 3 [6] uK ⟨⟨_,rfl,rfl,rfl, ?_⟩,⟨_,rfl,rfl,rfl, ?_⟩,trivial⟩
     ·refine co tab (s[i].toNat / 16) rfl rfl rfl rfl rfl rfl rfl (hexS_get (by omega)) ?_
      refine ⟨bm _,_,af _, ?_⟩
      refine bZ 6 rfl rfl uK rfl ?_
      refine co tab (s[i].toNat % 16) rfl rfl rfl rfl rfl rfl rfl (hexS_get (by omega)) ?_
      refine ⟨bm _,_,af _, ?_⟩
      refine bZ 7 rfl rfl uK rfl ?_
      refine cd tab rfl rfl rfl rfl (fun b => ?_)
      refine ⟨bm _,_,af _, ?_⟩
      refine bZ 8 rfl rfl uK rfl ?_
      refine cn fun m2 hm2 hA=>bP tab rByte 0 (hsl.mono hm2) hown (cp (bs:=[92,120,hexD (s[i].toNat / 16),hexD (s[i].toNat % 16)]) (n:=4) hA rfl (by decide)) rfl rfl rfl rfl rfl rfl rfl (by show (acc.length + 4) * 1 ≤ _;omega) (fun s' m3 hm3 hs' ho' => ?_)
      refine ⟨bn hm2 hm3,_,af _, ?_⟩
      refine bV tab uC uK [9] uK rfl ?_
      refine cb uK ?_
      refine uA ?_
      refine qs rfl (bK (r':=((i + 1 : Nat) : Int)) rfl rfl rfl rfl rfl rfl rfl (by omega) ?_)
      refine uA ?_
      exact ⟨⟨m3,s',i + 1,acc++[92,120,hexD (s[i].toNat / 16),hexD (s[i].toNat % 16)]⟩,uH,uH,rfl,rfl,uS,⟨bn hm (bn hm2 hm3),by show i + 1 ≤ _;omega,hs',ho',by show acc++_=_;rw [hacc,az,quoteB_take hlt,(qc_hex (by omega) (by omega) (by omega))]⟩,by show s.length - (i + 1) < s.length - i;omega⟩
     ·refine co tab (s[i].toNat % 16) rfl rfl rfl rfl rfl rfl rfl (hexS_get (by omega)) ?_
      refine ⟨bm _,_,af _, ?_⟩
      refine bZ 3 rfl rfl uK rfl ?_
      refine co tab (s[i].toNat / 16) rfl rfl rfl rfl rfl rfl rfl (hexS_get (by omega)) ?_
      refine ⟨bm _,_,af _, ?_⟩
      refine bZ 7 rfl rfl uK rfl ?_
      refine cd tab rfl rfl rfl rfl (fun b => ?_)
      refine ⟨bm _,_,af _, ?_⟩
      refine bZ 8 rfl rfl uK rfl ?_
      refine cn fun m2 hm2 hA=>bP tab rByte 0 (hsl.mono hm2) hown (cp (bs:=[92,120,hexD (s[i].toNat / 16),hexD (s[i].toNat % 16)]) (n:=4) hA rfl (by decide)) rfl rfl rfl rfl rfl rfl rfl (by show (acc.length + 4) * 1 ≤ _;omega) (fun s' m3 hm3 hs' ho' => ?_)
      refine ⟨bn hm2 hm3,_,af _, ?_⟩
      refine bV tab uC uK [9] uK rfl ?_
      refine cb uK ?_
      refine uA ?_
      refine qs rfl (bK (r':=((i + 1 : Nat) : Int)) rfl rfl rfl rfl rfl rfl rfl (by omega) ?_)
      refine uA ?_
      exact ⟨⟨m3,s',i + 1,acc++[92,120,hexD (s[i].toNat / 16),hexD (s[i].toNat % 16)]⟩,uH,uH,rfl,rfl,uS,⟨bn hm (bn hm2 hm3),by show i + 1 ≤ _;omega,hs',ho',by show acc++_=_;rw [hacc,az,quoteB_take hlt,(qc_hex (by omega) (by omega) (by omega))]⟩,by show s.length - (i + 1) < s.length - i;omega⟩
   ·refine OT.and15 rfl rfl rfl rfl rfl hc ?_
    refine ⟨bm _,_,af _, ?_⟩
    refine DO.fork 2 [6] uK ⟨⟨_,rfl,rfl,rfl, ?_⟩,⟨_,rfl,rfl,rfl, ?_⟩,trivial⟩
    ·refine OT.shK rfl (.inr rfl) rfl rfl rfl rfl (by decide) (r:=((s[i].toNat / 16 : Nat) : Int)) (u8_shr4 _) ?_
     refine ⟨bm _,_,af _, ?_⟩
     refine DO.fork 3 [6] uK ⟨⟨_,rfl,rfl,rfl, ?_⟩,⟨_,rfl,rfl,rfl, ?_⟩,trivial⟩
     ·refine co tab (s[i].toNat / 16) rfl rfl rfl rfl rfl rfl rfl (hexS_get (by omega)) ?_
      refine ⟨bm _,_,af _, ?_⟩
      refine bZ 6 rfl rfl uK rfl ?_
      refine co tab (s[i].toNat % 16) rfl rfl rfl rfl rfl rfl rfl (hexS_get (by omega)) ?_
      refine ⟨bm _,_,af _, ?_⟩
      refine bZ 7 rfl rfl uK rfl ?_
      refine cd tab rfl rfl rfl rfl (fun b => ?_)
      refine ⟨bm _,_,af _, ?_⟩
      refine bZ 8 rfl rfl uK rfl ?_
      refine cn fun m2 hm2 hA=>bP tab rByte 0 (hsl.mono hm2) hown (cp (bs:=[92,120,hexD (s[i].toNat / 16),hexD (s[i].toNat % 16)]) (n:=4) hA rfl (by decide)) rfl rfl rfl rfl rfl rfl rfl (by show (acc.length + 4) * 1 ≤ _;omega) (fun s' m3 hm3 hs' ho' => ?_)
      refine ⟨bn hm2 hm3,_,af _, ?_⟩
      refine bV tab uC uK [9] uK rfl ?_
      refine cb uK ?_
      refine uA ?_
      refine qs rfl (bK (r':=((i + 1 : Nat) : Int)) rfl rfl rfl rfl rfl rfl rfl (by omega) ?_)
      refine uA ?_
      exact ⟨⟨m3,s',i + 1,acc++[92,120,hexD (s[i].toNat / 16),hexD (s[i].toNat % 16)]⟩,uH,uH,rfl,rfl,uS,⟨bn hm (bn hm2 hm3),by show i + 1 ≤ _;omega,hs',ho',by show acc++_=_;rw [hacc,az,quoteB_take hlt,(qc_hex (by omega) (by omega) (by omega))]⟩,by show s.length - (i + 1) < s.length - i;omega⟩
     ·refine co tab (s[i].toNat % 16) rfl rfl rfl rfl rfl rfl rfl (hexS_get (by omega)) ?_
      refine ⟨bm _,_,af _, ?_⟩
      refine bZ 3 rfl rfl uK rfl ?_
      refine co tab (s[i].toNat / 16) rfl rfl rfl rfl rfl rfl rfl (hexS_get (by omega)) ?_
      refine ⟨bm _,_,af _, ?_⟩
      refine bZ 7 rfl rfl uK rfl ?_
      refine cd tab rfl rfl rfl rfl (fun b => ?_)
      refine ⟨bm _,_,af _, ?_⟩
      refine bZ 8 rfl rfl uK rfl ?_
      refine cn fun m2 hm2 hA=>bP tab rByte 0 (hsl.mono hm2) hown (cp (bs:=[92,120,hexD (s[i].toNat / 16),hexD (s[i].toNat % 16)]) (n:=4) hA rfl (by decide)) rfl rfl rfl rfl rfl rfl rfl (by show (acc.length + 4) * 1 ≤ _;omega) (fun s' m3 hm3 hs' ho' => ?_)
      refine ⟨bn hm2 hm3,_,af _, ?_⟩
      refine bV tab uC uK [9] uK rfl ?_
      refine cb uK ?_
      refine uA ?_
      refine qs rfl (bK (r':=((i + 1 : Nat) : Int)) rfl rfl rfl rfl rfl rfl rfl (by omega) ?_)
      refine uA ?_
      exact ⟨⟨m3,s',i + 1,acc++[92,120,hexD (s[i].toNat / 16),hexD (s[i].toNat % 16)]⟩,uH,uH,rfl,rfl,uS,⟨bn hm (bn hm2 hm3),by show i + 1 ≤ _;omega,hs',ho',by show acc++_=_;rw [hacc,az,quoteB_take hlt,(qc_hex (by omega) (by omega) (by omega))]⟩,by show s.length - (i + 1) < s.length - i;omega⟩
    ·refine co tab (s[i].toNat % 16) rfl rfl rfl rfl rfl rfl rfl (hexS_get (by omega)) ?_
     refine ⟨bm _,_,af _, ?_⟩
     refine bZ 2 rfl rfl uK rfl ?_
     refine OT.shK rfl (.inr rfl) rfl rfl rfl rfl (by decide) (r:=((s[i].toNat / 16 : Nat) : Int)) (u8_shr4 _) ?_
     refine ⟨bm _,_,af _, ?_⟩
     refine bZ 3 rfl rfl uK rfl ?_
     refine co tab (s[i].toNat / 16) rfl rfl rfl rfl rfl rfl rfl (hexS_get (by omega)) ?_
     refine ⟨bm _,_,af _, ?_⟩
     refine bZ 7 rfl rfl uK rfl ?_
     refine cd tab rfl rfl rfl rfl (fun b => ?_)
     refine ⟨bm _,_,af _, ?_⟩
     refine bZ 8 rfl rfl uK rfl ?_
     refine cn fun m2 hm2 hA=>bP tab rByte 0 (hsl.mono hm2) hown (cp (bs:=[92,120,hexD (s[i].toNat / 16),hexD (s[i].toNat % 16)]) (n:=4) hA rfl (by decide)) rfl rfl rfl rfl rfl rfl rfl (by show (acc.length + 4) * 1 ≤ _;omega) (fun s' m3 hm3 hs' ho' => ?_)
     refine ⟨bn hm2 hm3,_,af _, ?_⟩
     refine bV tab uC uK [9] uK rfl ?_
     refine cb uK ?_
     refine uA ?_
     refine qs rfl (bK (r':=((i + 1 : Nat) : Int)) rfl rfl rfl rfl rfl rfl rfl (by omega) ?_)
     refine uA ?_
     exact ⟨⟨m3,s',i + 1,acc++[92,120,hexD (s[i].toNat / 16),hexD (s[i].toNat % 16)]⟩,uH,uH,rfl,rfl,uS,⟨bn hm (bn hm2 hm3),by show i + 1 ≤ _;omega,hs',ho',by show acc++_=_;rw [hacc,az,quoteB_take hlt,(qc_hex (by omega) (by omega) (by omega))]⟩,by show s.length - (i + 1) < s.length - i;omega⟩
 ·skip
  refine uA ?_
  refine qs rfl (cd tab rfl rfl rfl rfl (fun b => ?_))
  refine cc fun m2 hm2 hA => ?_
  refine qs rfl (bP tab rByte 0 (hsl.mono hm2) hown (cp (bs:=[34]) (n:=1) hA rfl (by decide)) rfl rfl rfl rfl rfl rfl rfl (by show (acc.length + 1) * 1 ≤ _;omega) (fun s' m3 hm3 hs' ho' => ?_))
  refine qs rfl (OT.bytesStr tab rfl rfl rfl rfl rfl rfl rfl hs' (by simp) ?_)
  refine uA ?_
  refine bu rfl uS ⟨bn hm (bn hm2 hm3),rfl, ?_⟩
  rw [hacc,show s.take i=s from aT (by omega)]
  rfl
theorem quote_ref (m : Mem) (L : List Item) (s : Str) (hl : s.length ≤ 1099511627776) : TCall Tryz.prog 129 ⟨[strV s]⟩ m L (Ret (strV (quoteD s)) m L):=by
 refine cg ?_
 unfold TCall
 refine bw Tryz.func129 rfl 63 rfl ?_
 refine uA ?_
 refine qs rfl (cd tab rfl rfl rfl rfl (fun b => ?_))
 refine cc fun m1 hm1 hA1 => ?_
 refine TO.tokFull b 1 ?_
 refine uA ?_
 refine br (ι:=QuoS) [0] rfl (fun x=>[(3,x.sl.v),(4, .int .i64 (x.i : Int))]) (fun x=>x.m) (fun x=>tok x.sl 1 :: L) (fun x=>m ≤ x.m∧x.i ≤ s.length∧SlRep rByte x.m x.sl x.acc∧Own x.sl∧x.acc=34 :: quoteB (s.take x.i)) (fun x=>s.length - x.i) ⟨m1,⟨some ⟨b,0,none⟩,1,1⟩,0,[34]⟩ uH rfl uS ⟨hm1,aU _,cp (bs:=[34]) hA1 rfl (by decide),Own.lit _ _ _,rfl⟩ ?_
 rintro ⟨m1,sl,i,acc⟩ ⟨hm,hi,hsl,hown,hacc⟩
 replace hm : m ≤ m1:=hm
 replace hi : i ≤ s.length:=hi
 replace hsl : SlRep rByte m1 sl acc:=hsl
 replace hown : Own sl:=hown
 replace hacc : acc=34 :: quoteB (s.take i):=hacc
 have hal : acc.length ≤ 4 * i + 1:=by
  rw [hacc,ab]
  have:=quoteB_len (s.take i)
  rw [aL] at this
  omega
 show TC _ _ _ ((3,sl.v) :: (4, .int .i64 (i : Int)) :: _) _ m1 (tok sl 1 :: L) _
 refine uA ?_
 refine bq rfl (fun g1 => ?_) (fun g1 => ?_)
 ·have hlt : i < s.length:=by omega
  have hx : s[i]? = some s[i]:=by simp [hlt]
  have hc : s[i].toNat < 256:=s[i].toNat_lt
  refine uA ?_
  refine qs rfl (OT.sidx tab i rfl rfl rfl rfl rfl rfl rfl hx ?_)
  refine uA ?_
  refine bq rfl (fun c1 => ?_) (fun c1 => ?_)
  ·refine uA ?_
   refine qs rfl (cd tab rfl rfl rfl rfl (fun b => ?_))
   refine cc fun m2 hm2 hA => ?_
   refine qs rfl (bP tab rByte 0 (hsl.mono hm2) hown (cp (bs:=[92,110]) (n:=2) hA rfl (by decide)) rfl rfl rfl rfl rfl rfl rfl (by show (acc.length + 2) * 1 ≤ _;omega) (fun s' m3 hm3 hs' ho' => ?_))
   refine uA ?_
   refine qs rfl (bK (r':=((i + 1 : Nat) : Int)) rfl rfl rfl rfl rfl rfl rfl (by omega) ?_)
   refine uA ?_
   exact ⟨⟨m3,s',i + 1,acc++[92,110]⟩,uH,uH,rfl,rfl,uS,⟨bn hm (bn hm2 hm3),by show i + 1 ≤ _;omega,hs',ho',by show acc++_=_;rw [hacc,az,quoteB_take hlt,(qc_nl (by omega))]⟩,by show s.length - (i + 1) < s.length - i;omega⟩
  refine uA ?_
  refine bq rfl (fun c2 => ?_) (fun c2 => ?_)
  ·refine uA ?_
   refine qs rfl (cd tab rfl rfl rfl rfl (fun b => ?_))
   refine cc fun m2 hm2 hA => ?_
   refine qs rfl (bP tab rByte 0 (hsl.mono hm2) hown (cp (bs:=[92,116]) (n:=2) hA rfl (by decide)) rfl rfl rfl rfl rfl rfl rfl (by show (acc.length + 2) * 1 ≤ _;omega) (fun s' m3 hm3 hs' ho' => ?_))
   refine uA ?_
   refine qs rfl (bK (r':=((i + 1 : Nat) : Int)) rfl rfl rfl rfl rfl rfl rfl (by omega) ?_)
   refine uA ?_
   exact ⟨⟨m3,s',i + 1,acc++[92,116]⟩,uH,uH,rfl,rfl,uS,⟨bn hm (bn hm2 hm3),by show i + 1 ≤ _;omega,hs',ho',by show acc++_=_;rw [hacc,az,quoteB_take hlt,(qc_tab (by omega))]⟩,by show s.length - (i + 1) < s.length - i;omega⟩
  refine uA ?_
  (refine bB rfl rfl (fun c3 => ?_) (fun c3 => ?_))
  ·refine uA ?_
   refine qs rfl (cd tab rfl rfl rfl rfl (fun b => ?_))
   refine cc fun m2 hm2 hA => ?_
   refine qs rfl (bP tab rByte 0 (hsl.mono hm2) hown (cp (bs:=[92,s[i]]) (n:=2) hA rfl (by decide)) rfl rfl rfl rfl rfl rfl rfl (by show (acc.length + 2) * 1 ≤ _;omega) (fun s' m3 hm3 hs' ho' => ?_))
   refine uA ?_
   refine qs rfl (bK (r':=((i + 1 : Nat) : Int)) rfl rfl rfl rfl rfl rfl rfl (by omega) ?_)
   refine uA ?_
   exact ⟨⟨m3,s',i + 1,acc++[92,s[i]]⟩,uH,uH,rfl,rfl,uS,⟨bn hm (bn hm2 hm3),by show i + 1 ≤ _;omega,hs',ho',by show acc++_=_;rw [hacc,az,quoteB_take hlt,(qc_self (by omega))]⟩,by show s.length - (i + 1) < s.length - i;omega⟩
  refine uA ?_
  refine bq rfl (fun c4 => ?_) (fun c4 => ?_)
  ·refine uA ?_
   refine qs rfl (cd tab rfl rfl rfl rfl (fun b => ?_))
   refine cc fun m2 hm2 hA => ?_
   refine qs rfl (bP tab rByte 0 (hsl.mono hm2) hown (cp (bs:=[92,s[i]]) (n:=2) hA rfl (by decide)) rfl rfl rfl rfl rfl rfl rfl (by show (acc.length + 2) * 1 ≤ _;omega) (fun s' m3 hm3 hs' ho' => ?_))
   refine uA ?_
   refine qs rfl (bK (r':=((i + 1 : Nat) : Int)) rfl rfl rfl rfl rfl rfl rfl (by omega) ?_)
   refine uA ?_
   exact ⟨⟨m3,s',i + 1,acc++[92,s[i]]⟩,uH,uH,rfl,rfl,uS,⟨bn hm (bn hm2 hm3),by show i + 1 ≤ _;omega,hs',ho',by show acc++_=_;rw [hacc,az,quoteB_take hlt,(qc_self (by omega))]⟩,by show s.length - (i + 1) < s.length - i;omega⟩
  refine uA ?_
  (refine bB rfl rfl (fun c5 => ?_) (fun c5 => ?_))
  ·refine uA ?_
   refine bQ [] cr 10 rfl [] (tok sl 1 :: L) (af _) ?_
   refine bV tab uC uK [0,1,4] uK rfl ?_
   refine DO.fork 2 [5] uK ⟨⟨_,rfl,rfl,rfl, ?_⟩,⟨_,rfl,rfl,rfl, ?_⟩,trivial⟩
   ·refine OT.quoK rfl rfl rfl rfl rfl (by decide) (r:=((s[i].toNat / 16 : Nat) : Int)) (u8_quo16 _ hc) ?_
    refine ⟨bm _,_,af _, ?_⟩
    refine DO.fork 3 [5] uK ⟨⟨_,rfl,rfl,rfl, ?_⟩,⟨_,rfl,rfl,rfl, ?_⟩,trivial⟩
    ·refine co tab (s[i].toNat / 16) rfl rfl rfl rfl rfl rfl rfl (hexS_get (by omega)) ?_
     refine ⟨bm _,_,af _, ?_⟩
     refine bZ 5 rfl rfl uK rfl ?_
     refine OT.remK rfl rfl rfl rfl rfl (by decide) (r:=((s[i].toNat % 16 : Nat) : Int)) (u8_rem16 _) ?_
     refine ⟨bm _,_,af _, ?_⟩
     refine bZ 6 rfl rfl uK rfl ?_
     refine co tab (s[i].toNat % 16) rfl rfl rfl rfl rfl rfl rfl (hexS_get (by omega)) ?_
     refine ⟨bm _,_,af _, ?_⟩
     refine bZ 7 rfl rfl uK rfl ?_
     refine cd tab rfl rfl rfl rfl (fun b => ?_)
     refine ⟨bm _,_,af _, ?_⟩
     refine bZ 8 rfl rfl uK rfl ?_
     refine cn fun m2 hm2 hA=>bP tab rByte 0 (hsl.mono hm2) hown (cp (bs:=[92,120,hexD (s[i].toNat / 16),hexD (s[i].toNat % 16)]) (n:=4) hA rfl (by decide)) rfl rfl rfl rfl rfl rfl rfl (by show (acc.length + 4) * 1 ≤ _;omega) (fun s' m3 hm3 hs' ho' => ?_)
     refine ⟨bn hm2 hm3,_,af _, ?_⟩
     refine bV tab uC uK [9] uK rfl ?_
     refine cb uK ?_
     refine uA ?_
     refine qs rfl (bK (r':=((i + 1 : Nat) : Int)) rfl rfl rfl rfl rfl rfl rfl (by omega) ?_)
     refine uA ?_
     exact ⟨⟨m3,s',i + 1,acc++[92,120,hexD (s[i].toNat / 16),hexD (s[i].toNat % 16)]⟩,uH,uH,rfl,rfl,uS,⟨bn hm (bn hm2 hm3),by show i + 1 ≤ _;omega,hs',ho',by show acc++_=_;rw [hacc,az,quoteB_take hlt,(qc_hex (by omega) (by omega) (by omega))]⟩,by show s.length - (i + 1) < s.length - i;omega⟩
    ·refine OT.remK rfl rfl rfl rfl rfl (by decide) (r:=((s[i].toNat % 16 : Nat) : Int)) (u8_rem16 _) ?_
     refine ⟨bm _,_,af _, ?_⟩
     refine DO.fork 3 [6] uK ⟨⟨_,rfl,rfl,rfl, ?_⟩,⟨_,rfl,rfl,rfl, ?_⟩,trivial⟩
     ·refine co tab (s[i].toNat / 16) rfl rfl rfl rfl rfl rfl rfl (hexS_get (by omega)) ?_
      refine ⟨bm _,_,af _, ?_⟩
      refine bZ 6 rfl rfl uK rfl ?_
      refine co tab (s[i].toNat % 16) rfl rfl rfl rfl rfl rfl rfl (hexS_get (by omega)) ?_
      refine ⟨bm _,_,af _, ?_⟩
      refine bZ 7 rfl rfl uK rfl ?_
      refine cd tab rfl rfl rfl rfl (fun b => ?_)
      refine ⟨bm _,_,af _, ?_⟩
      refine bZ 8 rfl rfl uK rfl ?_
      refine cn fun m2 hm2 hA=>bP tab rByte 0 (hsl.mono hm2) hown (cp (bs:=[92,120,hexD (s[i].toNat / 16),hexD (s[i].toNat % 16)]) (n:=4) hA rfl (by decide)) rfl rfl rfl rfl rfl rfl rfl (by show (acc.length + 4) * 1 ≤ _;omega) (fun s' m3 hm3 hs' ho' => ?_)
      refine ⟨bn hm2 hm3,_,af _, ?_⟩
      refine bV tab uC uK [9] uK rfl ?_
      refine cb uK ?_
      refine uA ?_
      refine qs rfl (bK (r':=((i + 1 : Nat) : Int)) rfl rfl rfl rfl rfl rfl rfl (by omega) ?_)
      refine uA ?_
      exact ⟨⟨m3,s',i + 1,acc++[92,120,hexD (s[i].toNat / 16),hexD (s[i].toNat % 16)]⟩,uH,uH,rfl,rfl,uS,⟨bn hm (bn hm2 hm3),by show i + 1 ≤ _;omega,hs',ho',by show acc++_=_;rw [hacc,az,quoteB_take hlt,(qc_hex (by omega) (by omega) (by omega))]⟩,by show s.length - (i + 1) < s.length - i;omega⟩
     ·refine co tab (s[i].toNat % 16) rfl rfl rfl rfl rfl rfl rfl (hexS_get (by omega)) ?_
      refine ⟨bm _,_,af _, ?_⟩
      refine bZ 3 rfl rfl uK rfl ?_
      refine co tab (s[i].toNat / 16) rfl rfl rfl rfl rfl rfl rfl (hexS_get (by omega)) ?_
      refine ⟨bm _,_,af _, ?_⟩
      refine bZ 7 rfl rfl uK rfl ?_
      refine cd tab rfl rfl rfl rfl (fun b => ?_)
      refine ⟨bm _,_,af _, ?_⟩
      refine bZ 8 rfl rfl uK rfl ?_
      refine cn fun m2 hm2 hA=>bP tab rByte 0 (hsl.mono hm2) hown (cp (bs:=[92,120,hexD (s[i].toNat / 16),hexD (s[i].toNat % 16)]) (n:=4) hA rfl (by decide)) rfl rfl rfl rfl rfl rfl rfl (by show (acc.length + 4) * 1 ≤ _;omega) (fun s' m3 hm3 hs' ho' => ?_)
      refine ⟨bn hm2 hm3,_,af _, ?_⟩
      refine bV tab uC uK [9] uK rfl ?_
      refine cb uK ?_
      refine uA ?_
      refine qs rfl (bK (r':=((i + 1 : Nat) : Int)) rfl rfl rfl rfl rfl rfl rfl (by omega) ?_)
      refine uA ?_
      exact ⟨⟨m3,s',i + 1,acc++[92,120,hexD (s[i].toNat / 16),hexD (s[i].toNat % 16)]⟩,uH,uH,rfl,rfl,uS,⟨bn hm (bn hm2 hm3),by show i + 1 ≤ _;omega,hs',ho',by show acc++_=_;rw [hacc,az,quoteB_take hlt,(qc_hex (by omega) (by omega) (by omega))]⟩,by show s.length - (i + 1) < s.length - i;omega⟩
   ·refine OT.remK rfl rfl rfl rfl rfl (by decide) (r:=((s[i].toNat % 16 : Nat) : Int)) (u8_rem16 _) ?_
    refine ⟨bm _,_,af _, ?_⟩
    refine DO.fork 2 [6] uK ⟨⟨_,rfl,rfl,rfl, ?_⟩,⟨_,rfl,rfl,rfl, ?_⟩,trivial⟩
    ·refine OT.quoK rfl rfl rfl rfl rfl (by decide) (r:=((s[i].toNat / 16 : Nat) : Int)) (u8_quo16 _ hc) ?_
     refine ⟨bm _,_,af _, ?_⟩
     refine DO.fork 3 [6] uK ⟨⟨_,rfl,rfl,rfl, ?_⟩,⟨_,rfl,rfl,rfl, ?_⟩,trivial⟩
     ·refine co tab (s[i].toNat / 16) rfl rfl rfl rfl rfl rfl rfl (hexS_get (by omega)) ?_
      refine ⟨bm _,_,af _, ?_⟩
      refine bZ 6 rfl rfl uK rfl ?_
      refine co tab (s[i].toNat % 16) rfl rfl rfl rfl rfl rfl rfl (hexS_get (by omega)) ?_
      refine ⟨bm _,_,af _, ?_⟩
      refine bZ 7 rfl rfl uK rfl ?_
      refine cd tab rfl rfl rfl rfl (fun b => ?_)
      refine ⟨bm _,_,af _, ?_⟩
      refine bZ 8 rfl rfl uK rfl ?_
      refine cn fun m2 hm2 hA=>bP tab rByte 0 (hsl.mono hm2) hown (cp (bs:=[92,120,hexD (s[i].toNat / 16),hexD (s[i].toNat % 16)]) (n:=4) hA rfl (by decide)) rfl rfl rfl rfl rfl rfl rfl (by show (acc.length + 4) * 1 ≤ _;omega) (fun s' m3 hm3 hs' ho' => ?_)
      refine ⟨bn hm2 hm3,_,af _, ?_⟩
      refine bV tab uC uK [9] uK rfl ?_
      refine cb uK ?_
      refine uA ?_
      refine qs rfl (bK (r':=((i + 1 : Nat) : Int)) rfl rfl rfl rfl rfl rfl rfl (by omega) ?_)
      refine uA ?_
      exact ⟨⟨m3,s',i + 1,acc++[92,120,hexD (s[i].toNat / 16),hexD (s[i].toNat % 16)]⟩,uH,uH,rfl,rfl,uS,⟨bn hm (bn hm2 hm3),by show i + 1 ≤ _;omega,hs',ho',by show acc++_=_;rw [hacc,az,quoteB_take hlt,(qc_hex (by omega) (by omega) (by omega))]⟩,by show s.length - (i + 1) < s.length - i;omega⟩
     ·refine co tab (s[i].toNat % 16) rfl rfl rfl rfl rfl rfl rfl (hexS_get (by omega)) ?_
      refine ⟨bm _,_,af _, ?_⟩
      refine bZ 3 rfl rfl uK rfl ?_
      refine co tab (s[i].toNat / 16) rfl rfl rfl rfl rfl rfl rfl (hexS_get (by omega)) ?_
      refine ⟨bm _,_,af _, ?_⟩
      refine bZ 7 rfl rfl uK rfl ?_
      refine cd tab rfl rfl rfl rfl (fun b => ?_)
      refine ⟨bm _,_,af _, ?_⟩
      refine bZ 8 rfl rfl uK rfl ?_
      refine cn fun m2 hm2 hA=>bP tab rByte 0 (hsl.mono hm2) hown (cp (bs:=[92,120,hexD (s[i].toNat / 16),hexD (s[i].toNat % 16)]) (n:=4) hA rfl (by decide)) rfl rfl rfl rfl rfl rfl rfl (by show (acc.length + 4) * 1 ≤ _;omega) (fun s' m3 hm3 hs' ho' => ?_)
      refine ⟨bn hm2 hm3,_,af _, ?_⟩
      refine bV tab uC uK [9] uK rfl ?_
      refine cb uK ?_
      refine uA ?_
      refine qs rfl (bK (r':=((i + 1 : Nat) : Int)) rfl rfl rfl rfl rfl rfl rfl (by omega) ?_)
      refine uA ?_
      exact ⟨⟨m3,s',i + 1,acc++[92,120,hexD (s[i].toNat / 16),hexD (s[i].toNat % 16)]⟩,uH,uH,rfl,rfl,uS,⟨bn hm (bn hm2 hm3),by show i + 1 ≤ _;omega,hs',ho',by show acc++_=_;rw [hacc,az,quoteB_take hlt,(qc_hex (by omega) (by omega) (by omega))]⟩,by show s.length - (i + 1) < s.length - i;omega⟩
    ·refine co tab (s[i].toNat % 16) rfl rfl rfl rfl rfl rfl rfl (hexS_get (by omega)) ?_
     refine ⟨bm _,_,af _, ?_⟩
     refine bZ 2 rfl rfl uK rfl ?_
     refine OT.quoK rfl rfl rfl rfl rfl (by decide) (r:=((s[i].toNat / 16 : Nat) : Int)) (u8_quo16 _ hc) ?_
     refine ⟨bm _,_,af _, ?_⟩
     refine bZ 3 rfl rfl uK rfl ?_
     refine co tab (s[i].toNat / 16) rfl rfl rfl rfl rfl rfl rfl (hexS_get (by omega)) ?_
     refine ⟨bm _,_,af _, ?_⟩
     refine bZ 7 rfl rfl uK rfl ?_
     refine cd tab rfl rfl rfl rfl (fun b => ?_)
     refine ⟨bm _,_,af _, ?_⟩
     refine bZ 8 rfl rfl uK rfl ?_
     refine cn fun m2 hm2 hA=>bP tab rByte 0 (hsl.mono hm2) hown (cp (bs:=[92,120,hexD (s[i].toNat / 16),hexD (s[i].toNat % 16)]) (n:=4) hA rfl (by decide)) rfl rfl rfl rfl rfl rfl rfl (by show (acc.length + 4) * 1 ≤ _;omega) (fun s' m3 hm3 hs' ho' => ?_)
     refine ⟨bn hm2 hm3,_,af _, ?_⟩
     refine bV tab uC uK [9] uK rfl ?_
     refine cb uK ?_
     refine uA ?_
     refine qs rfl (bK (r':=((i + 1 : Nat) : Int)) rfl rfl rfl rfl rfl rfl rfl (by omega) ?_)
     refine uA ?_
     exact ⟨⟨m3,s',i + 1,acc++[92,120,hexD (s[i].toNat / 16),hexD (s[i].toNat % 16)]⟩,uH,uH,rfl,rfl,uS,⟨bn hm (bn hm2 hm3),by show i + 1 ≤ _;omega,hs',ho',by show acc++_=_;rw [hacc,az,quoteB_take hlt,(qc_hex (by omega) (by omega) (by omega))]⟩,by show s.length - (i + 1) < s.length - i;omega⟩
  refine uA ?_
  refine bq rfl (fun c6 => ?_) (fun c6 => ?_)
  ·refine uA ?_
   refine bQ [] cr 10 rfl [] (tok sl 1 :: L) (af _) ?_
   refine bV tab uC uK [0,1,4] uK rfl ?_
   refine DO.fork 2 [5] uK ⟨⟨_,rfl,rfl,rfl, ?_⟩,⟨_,rfl,rfl,rfl, ?_⟩,trivial⟩
   ·refine OT.quoK rfl rfl rfl rfl rfl (by decide) (r:=((s[i].toNat / 16 : Nat) : Int)) (u8_quo16 _ hc) ?_
    refine ⟨bm _,_,af _, ?_⟩
    refine DO.fork 3 [5] uK ⟨⟨_,rfl,rfl,rfl, ?_⟩,⟨_,rfl,rfl,rfl, ?_⟩,trivial⟩
    ·refine co tab (s[i].toNat / 16) rfl rfl rfl rfl rfl rfl rfl (hexS_get (by omega)) ?_
     refine ⟨bm _,_,af _, ?_⟩
     refine bZ 5 rfl rfl uK rfl ?_
     refine OT.remK rfl rfl rfl rfl rfl (by decide) (r:=((s[i].toNat % 16 : Nat) : Int)) (u8_rem16 _) ?_
     refine ⟨bm _,_,af _, ?_⟩
     refine bZ 6 rfl rfl uK rfl ?_
     refine co tab (s[i].toNat % 16) rfl rfl rfl rfl rfl rfl rfl (hexS_get (by omega)) ?_
     refine ⟨bm _,_,af _, ?_⟩
     refine bZ 7 rfl rfl uK rfl ?_
     refine cd tab rfl rfl rfl rfl (fun b => ?_)
     refine ⟨bm _,_,af _, ?_⟩
     refine bZ 8 rfl rfl uK rfl ?_
     refine cn fun m2 hm2 hA=>bP tab rByte 0 (hsl.mono hm2) hown (cp (bs:=[92,120,hexD (s[i].toNat / 16),hexD (s[i].toNat % 16)]) (n:=4) hA rfl (by decide)) rfl rfl rfl rfl rfl rfl rfl (by show (acc.length + 4) * 1 ≤ _;omega) (fun s' m3 hm3 hs' ho' => ?_)
     refine ⟨bn hm2 hm3,_,af _, ?_⟩
     refine bV tab uC uK [9] uK rfl ?_
     refine cb uK ?_
     refine uA ?_
     refine qs rfl (bK (r':=((i + 1 : Nat) : Int)) rfl rfl rfl rfl rfl rfl rfl (by omega) ?_)
     refine uA ?_
     exact ⟨⟨m3,s',i + 1,acc++[92,120,hexD (s[i].toNat / 16),hexD (s[i].toNat % 16)]⟩,uH,uH,rfl,rfl,uS,⟨bn hm (bn hm2 hm3),by show i + 1 ≤ _;omega,hs',ho',by show acc++_=_;rw [hacc,az,quoteB_take hlt,(qc_hex (by omega) (by omega) (by omega))]⟩,by show s.length - (i + 1) < s.length - i;omega⟩
    ·refine OT.remK rfl rfl rfl rfl rfl (by decide) (r:=((s[i].toNat % 16 : Nat) : Int)) (u8_rem16 _) ?_
     refine ⟨bm _,_,af _, ?_⟩
     refine DO.fork 3 [6] uK ⟨⟨_,rfl,rfl,rfl, ?_⟩,⟨_,rfl,rfl,rfl, ?_⟩,trivial⟩
     ·refine co tab (s[i].toNat / 16) rfl rfl rfl rfl rfl rfl rfl (hexS_get (by omega)) ?_
      refine ⟨bm _,_,af _, ?_⟩
      refine bZ 6 rfl rfl uK rfl ?_
      refine co tab (s[i].toNat % 16) rfl rfl rfl rfl rfl rfl rfl (hexS_get (by omega)) ?_
      refine ⟨bm _,_,af _, ?_⟩
      refine bZ 7 rfl rfl uK rfl ?_
      refine cd tab rfl rfl rfl rfl (fun b => ?_)
      refine ⟨bm _,_,af _, ?_⟩
      refine bZ 8 rfl rfl uK rfl ?_
      refine cn fun m2 hm2 hA=>bP tab rByte 0 (hsl.mono hm2) hown (cp (bs:=[92,120,hexD (s[i].toNat / 16),hexD (s[i].toNat % 16)]) (n:=4) hA rfl (by decide)) rfl rfl rfl rfl rfl rfl rfl (by show (acc.length + 4) * 1 ≤ _;omega) (fun s' m3 hm3 hs' ho' => ?_)
      refine ⟨bn hm2 hm3,_,af _, ?_⟩
      refine bV tab uC uK [9] uK rfl ?_
      refine cb uK ?_
      refine uA ?_
      refine qs rfl (bK (r':=((i + 1 : Nat) : Int)) rfl rfl rfl rfl rfl rfl rfl (by omega) ?_)
      refine uA ?_
      exact ⟨⟨m3,s',i + 1,acc++[92,120,hexD (s[i].toNat / 16),hexD (s[i].toNat % 16)]⟩,uH,uH,rfl,rfl,uS,⟨bn hm (bn hm2 hm3),by show i + 1 ≤ _;omega,hs',ho',by show acc++_=_;rw [hacc,az,quoteB_take hlt,(qc_hex (by omega) (by omega) (by omega))]⟩,by show s.length - (i + 1) < s.length - i;omega⟩
     ·refine co tab (s[i].toNat % 16) rfl rfl rfl rfl rfl rfl rfl (hexS_get (by omega)) ?_
      refine ⟨bm _,_,af _, ?_⟩
      refine bZ 3 rfl rfl uK rfl ?_
      refine co tab (s[i].toNat / 16) rfl rfl rfl rfl rfl rfl rfl (hexS_get (by omega)) ?_
      refine ⟨bm _,_,af _, ?_⟩
      refine bZ 7 rfl rfl uK rfl ?_
      refine cd tab rfl rfl rfl rfl (fun b => ?_)
      refine ⟨bm _,_,af _, ?_⟩
      refine bZ 8 rfl rfl uK rfl ?_
      refine cn fun m2 hm2 hA=>bP tab rByte 0 (hsl.mono hm2) hown (cp (bs:=[92,120,hexD (s[i].toNat / 16),hexD (s[i].toNat % 16)]) (n:=4) hA rfl (by decide)) rfl rfl rfl rfl rfl rfl rfl (by show (acc.length + 4) * 1 ≤ _;omega) (fun s' m3 hm3 hs' ho' => ?_)
      refine ⟨bn hm2 hm3,_,af _, ?_⟩
      refine bV tab uC uK [9] uK rfl ?_
      refine cb uK ?_
      refine uA ?_
      refine qs rfl (bK (r':=((i + 1 : Nat) : Int)) rfl rfl rfl rfl rfl rfl rfl (by omega) ?_)
      refine uA ?_
      exact ⟨⟨m3,s',i + 1,acc++[92,120,hexD (s[i].toNat / 16),hexD (s[i].toNat % 16)]⟩,uH,uH,rfl,rfl,uS,⟨bn hm (bn hm2 hm3),by show i + 1 ≤ _;omega,hs',ho',by show acc++_=_;rw [hacc,az,quoteB_take hlt,(qc_hex (by omega) (by omega) (by omega))]⟩,by show s.length - (i + 1) < s.length - i;omega⟩
   ·refine OT.remK rfl rfl rfl rfl rfl (by decide) (r:=((s[i].toNat % 16 : Nat) : Int)) (u8_rem16 _) ?_
    refine ⟨bm _,_,af _, ?_⟩
    refine DO.fork 2 [6] uK ⟨⟨_,rfl,rfl,rfl, ?_⟩,⟨_,rfl,rfl,rfl, ?_⟩,trivial⟩
    ·refine OT.quoK rfl rfl rfl rfl rfl (by decide) (r:=((s[i].toNat / 16 : Nat) : Int)) (u8_quo16 _ hc) ?_
     refine ⟨bm _,_,af _, ?_⟩
     refine DO.fork 3 [6] uK ⟨⟨_,rfl,rfl,rfl, ?_⟩,⟨_,rfl,rfl,rfl, ?_⟩,trivial⟩
     ·refine co tab (s[i].toNat / 16) rfl rfl rfl rfl rfl rfl rfl (hexS_get (by omega)) ?_
      refine ⟨bm _,_,af _, ?_⟩
      refine bZ 6 rfl rfl uK rfl ?_
      refine co tab (s[i].toNat % 16) rfl rfl rfl rfl rfl rfl rfl (hexS_get (by omega)) ?_
      refine ⟨bm _,_,af _, ?_⟩
      refine bZ 7 rfl rfl uK rfl ?_
      refine cd tab rfl rfl rfl rfl (fun b => ?_)
      refine ⟨bm _,_,af _, ?_⟩
      refine bZ 8 rfl rfl uK rfl ?_
      refine cn fun m2 hm2 hA=>bP tab rByte 0 (hsl.mono hm2) hown (cp (bs:=[92,120,hexD (s[i].toNat / 16),hexD (s[i].toNat % 16)]) (n:=4) hA rfl (by decide)) rfl rfl rfl rfl rfl rfl rfl (by show (acc.length + 4) * 1 ≤ _;omega) (fun s' m3 hm3 hs' ho' => ?_)
      refine ⟨bn hm2 hm3,_,af _, ?_⟩
      refine bV tab uC uK [9] uK rfl ?_
      refine cb uK ?_
      refine uA ?_
      refine qs rfl (bK (r':=((i + 1 : Nat) : Int)) rfl rfl rfl rfl rfl rfl rfl (by omega) ?_)
      refine uA ?_
      exact ⟨⟨m3,s',i + 1,acc++[92,120,hexD (s[i].toNat / 16),hexD (s[i].toNat % 16)]⟩,uH,uH,rfl,rfl,uS,⟨bn hm (bn hm2 hm3),by show i + 1 ≤ _;omega,hs',ho',by show acc++_=_;rw [hacc,az,quoteB_take hlt,(qc_hex (by omega) (by omega) (by omega))]⟩,by show s.length - (i + 1) < s.length - i;omega⟩
     ·refine co tab (s[i].toNat % 16) rfl rfl rfl rfl rfl rfl rfl (hexS_get (by omega)) ?_
      refine ⟨bm _,_,af _, ?_⟩
      refine bZ 3 rfl rfl uK rfl ?_
      refine co tab (s[i].toNat / 16) rfl rfl rfl rfl rfl rfl rfl (hexS_get (by omega)) ?_
      refine ⟨bm _,_,af _, ?_⟩
      refine bZ 7 rfl rfl uK rfl ?_
      refine cd tab rfl rfl rfl rfl (fun b => ?_)
      refine ⟨bm _,_,af _, ?_⟩
      refine bZ 8 rfl rfl uK rfl ?_
      refine cn fun m2 hm2 hA=>bP tab rByte 0 (hsl.mono hm2) hown (cp (bs:=[92,120,hexD (s[i].toNat / 16),hexD (s[i].toNat % 16)]) (n:=4) hA rfl (by decide)) rfl rfl rfl rfl rfl rfl rfl (by show (acc.length + 4) * 1 ≤ _;omega) (fun s' m3 hm3 hs' ho' => ?_)
      refine ⟨bn hm2 hm3,_,af _, ?_⟩
      refine bV tab uC uK [9] uK rfl ?_
      refine cb uK ?_
      refine uA ?_
      refine qs rfl (bK (r':=((i + 1 : Nat) : Int)) rfl rfl rfl rfl rfl rfl rfl (by omega) ?_)
      refine uA ?_
      exact ⟨⟨m3,s',i + 1,acc++[92,120,hexD (s[i].toNat / 16),hexD (s[i].toNat % 16)]⟩,uH,uH,rfl,rfl,uS,⟨bn hm (bn hm2 hm3),by show i + 1 ≤ _;omega,hs',ho',by show acc++_=_;rw [hacc,az,quoteB_take hlt,(qc_hex (by omega) (by omega) (by omega))]⟩,by show s.length - (i + 1) < s.length - i;omega⟩
    ·refine co tab (s[i].toNat % 16) rfl rfl rfl rfl rfl rfl rfl (hexS_get (by omega)) ?_
     refine ⟨bm _,_,af _, ?_⟩
     refine bZ 2 rfl rfl uK rfl ?_
     refine OT.quoK rfl rfl rfl rfl rfl (by decide) (r:=((s[i].toNat / 16 : Nat) : Int)) (u8_quo16 _ hc) ?_
     refine ⟨bm _,_,af _, ?_⟩
     refine bZ 3 rfl rfl uK rfl ?_
     refine co tab (s[i].toNat / 16) rfl rfl rfl rfl rfl rfl rfl (hexS_get (by omega)) ?_
     refine ⟨bm _,_,af _, ?_⟩
     refine bZ 7 rfl rfl uK rfl ?_
     refine cd tab rfl rfl rfl rfl (fun b => ?_)
     refine ⟨bm _,_,af _, ?_⟩
     refine bZ 8 rfl rfl uK rfl ?_
     refine cn fun m2 hm2 hA=>bP tab rByte 0 (hsl.mono hm2) hown (cp (bs:=[92,120,hexD (s[i].toNat / 16),hexD (s[i].toNat % 16)]) (n:=4) hA rfl (by decide)) rfl rfl rfl rfl rfl rfl rfl (by show (acc.length + 4) * 1 ≤ _;omega) (fun s' m3 hm3 hs' ho' => ?_)
     refine ⟨bn hm2 hm3,_,af _, ?_⟩
     refine bV tab uC uK [9] uK rfl ?_
     refine cb uK ?_
     refine uA ?_
     refine qs rfl (bK (r':=((i + 1 : Nat) : Int)) rfl rfl rfl rfl rfl rfl rfl (by omega) ?_)
     refine uA ?_
     exact ⟨⟨m3,s',i + 1,acc++[92,120,hexD (s[i].toNat / 16),hexD (s[i].toNat % 16)]⟩,uH,uH,rfl,rfl,uS,⟨bn hm (bn hm2 hm3),by show i + 1 ≤ _;omega,hs',ho',by show acc++_=_;rw [hacc,az,quoteB_take hlt,(qc_hex (by omega) (by omega) (by omega))]⟩,by show s.length - (i + 1) < s.length - i;omega⟩
  ·refine uA ?_
   refine qs rfl (cd tab rfl rfl rfl rfl (fun b => ?_))
   refine cc fun m2 hm2 hA => ?_
   refine qs rfl (bP tab rByte 0 (hsl.mono hm2) hown (cp (bs:=[s[i]]) (n:=1) hA rfl (by decide)) rfl rfl rfl rfl rfl rfl rfl (by show (acc.length + 1) * 1 ≤ _;omega) (fun s' m3 hm3 hs' ho' => ?_))
   refine uA ?_
   refine qs rfl (bK (r':=((i + 1 : Nat) : Int)) rfl rfl rfl rfl rfl rfl rfl (by omega) ?_)
   refine uA ?_
   exact ⟨⟨m3,s',i + 1,acc++[s[i]]⟩,uH,uH,rfl,rfl,uS,⟨bn hm (bn hm2 hm3),by show i + 1 ≤ _;omega,hs',ho',by show acc++_=_;rw [hacc,az,quoteB_take hlt,(qc_one (by omega) (by omega) (by omega) (by omega))]⟩,by show s.length - (i + 1) < s.length - i;omega⟩
 ·skip
  refine uA ?_
  refine qs rfl (cd tab rfl rfl rfl rfl (fun b => ?_))
  refine cc fun m2 hm2 hA => ?_
  refine qs rfl (bP tab rByte 0 (hsl.mono hm2) hown (cp (bs:=[34]) (n:=1) hA rfl (by decide)) rfl rfl rfl rfl rfl rfl rfl (by show (acc.length + 1) * 1 ≤ _;omega) (fun s' m3 hm3 hs' ho' => ?_))
  refine qs rfl (OT.bytesStr tab rfl rfl rfl rfl rfl rfl rfl hs' (by simp) ?_)
  refine uA ?_
  refine bu rfl uS ⟨bn hm (bn hm2 hm3),rfl, ?_⟩
  rw [hacc,show s.take i=s from aT (by omega)]
  rfl
end Go.Sep


/- ScPlain -/
namespace Go.Sep
theorem hexB_all : ∀ n : Fin 256,hexB (hexD (n.val / 16)) (hexD (n.val % 16))=some (UInt8.ofNat n.val):=by decide +kernel
theorem hexB_hexD (c : UInt8) : hexB (hexD (c.toNat / 16)) (hexD (c.toNat % 16))=some c:=by
 have:=hexB_all ⟨c.toNat,c.toNat_lt⟩
 simpa using this
theorem lit_quoteC (c : UInt8) (r : Str) : lit (quoteC c++r)=(lit r).map fun p=>(c :: p.1,p.2 + (quoteC c).length):=by
 by_cases h1 : c.toNat=10
 ·have hc : c=10:=UInt8.toNat_inj.1 h1
  rw [qc_nl h1,hc]
  exact (lit_esc_some (c:=92) rfl (esc_n (r:=r) rfl))
 by_cases h2 : c.toNat=9
 ·have hc : c=9:=UInt8.toNat_inj.1 h2
  rw [qc_tab h2,hc]
  exact (lit_esc_some (c:=92) rfl (esc_t (r:=r) rfl))
 by_cases h3 : c.toNat=34 ∨ c.toNat=92
 ·rw [qc_self h3]
  exact (lit_esc_some (c:=92) rfl (esc_self (r:=r) h3))
 by_cases h4 : 32 ≤ c.toNat∧c.toNat ≤ 126
 ·rw [qc_one (by omega) (by omega) h4.1 h4.2]
  exact lit_one (by omega) h1 (by omega)
 ·rw [qc_hex h1 h2 (by omega)]
  have he : escB (120 :: hexD (c.toNat / 16) :: hexD (c.toNat % 16) :: r)=some (c,3):=by rw [esc_x rfl,hexB_hexD];rfl
  exact lit_esc_some (c:=92) rfl he
theorem lit_quoteB : ∀ (s r : Str),lit (quoteB s++34 :: r)=some (s,(quoteB s).length + 1)
 | [],r=>by rw [quoteB,List.flatMap_nil,aA,lit_quote rfl];rfl
 | c :: s,r=>by
  have hq : quoteB (c :: s)=quoteC c++quoteB s:=by unfold quoteB;rw [List.flatMap_cons]
  rw [hq,am,lit_quoteC,lit_quoteB s r]
  simp
  omega
theorem tokD_str {r t : Str} {n : Nat} (h : lit r=some (t,n)) : tokD (34 :: r)=if 1024 < t.length then none else some (⟨3,t,0,0⟩,n + 1):=by
 have h1 : ¬ ltr 34=true:=by decide
 have h2 : ¬ dgt 34=true:=by decide
 rw [tokD,if_neg h1,if_neg h2,if_pos (by decide),h]
theorem quoteD_len (s : Str) : (quoteD s).length=(quoteB s).length + 2:=by simp [quoteD]
theorem blk_34 (r : Str) : blk false (34 :: r)=0:=by
 rw [blk,if_neg (by decide),if_neg (by intro h;exact absurd h.1 (by decide))]
end Go.Sep


/- ScPlain2 -/
namespace Go.Sep
theorem cutF_ok : ∀ (f : Nat) (r : Str) (at_ k : Nat) (l : List Tok),cutF f r at_ k = .ok l→r.length < f→k ≤ 20000→l.length + k ≤ 20000∧(∀ t ∈ l,(at_ : Int) ≤ t.at_∧t.at_ < at_ + r.length)∧l.Pairwise (fun a b=>a.at_ < b.at_)
 | 0,r,at_,k,l,h,hf,hk=>by omega
 | f + 1,r,at_,k,l,h,hf,hk=>by
  have hb:=blk_le false r
  rw [cutF] at h
  by_cases h1 : r.drop (blk false r)=[]
  ·rw [if_pos h1] at h
   cases h
   exact ⟨by simpa using hk,by simp,List.Pairwise.nil⟩
  ·rw [if_neg h1] at h
   have hlt : blk false r < r.length:=Nat.lt_of_not_le fun hge=>h1 (aS hge)
   by_cases h2 : k=20000
   ·rw [if_pos h2] at h;cases h
   ·rw [if_neg h2] at h
    cases ht : tokD (r.drop (blk false r)) with
    | none=>rw [ht] at h;cases h
    | some p =>
     obtain ⟨t,n⟩:=p
     rw [ht] at h
     simp only at h
     have hn:=tokD_le ht
     rw [aM] at hn
     cases hc : cutF f ((r.drop (blk false r)).drop n) (at_ + blk false r + n) (k + 1) with
     | error e=>rw [hc] at h;cases h
     | ok l' =>
      rw [hc] at h
      cases h
      obtain ⟨g1,g2,g3⟩:=cutF_ok f _ _ _ _ hc (by rw [aM,aM];omega) (by omega)
      have g2' : ∀ t ∈ l',((at_ + blk false r + n : Nat) : Int) ≤ t.at_∧t.at_ < at_ + r.length:=fun t ht=>by
       have:=g2 t ht
       rw [aM,aM] at this
       omega
      refine ⟨by simp only [ab];omega,fun t' ht' => ?_,List.pairwise_cons.2 ⟨fun t' ht' => ?_,g3⟩⟩
      ·rcases List.mem_cons.1 ht' with rfl | ht'
       ·simp only;omega
       ·have:=g2' t' ht';omega
      ·have:=g2' t' ht'
       simp only;omega
theorem cutF_err : ∀ (f : Nat) (r : Str) (at_ k a : Nat) (e : Int),cutF f r at_ k = .error (a,e)→r.length < f→at_ ≤ a∧a < at_ + r.length∧(e=3 ∨ e=4)
 | 0,r,at_,k,a,e,h,hf=>by omega
 | f + 1,r,at_,k,a,e,h,hf=>by
  have hb:=blk_le false r
  rw [cutF] at h
  by_cases h1 : r.drop (blk false r)=[]
  ·rw [if_pos h1] at h;cases h
  ·rw [if_neg h1] at h
   have hlt : blk false r < r.length:=Nat.lt_of_not_le fun hge=>h1 (aS hge)
   by_cases h2 : k=20000
   ·rw [if_pos h2] at h
    simp only [Except.error.injEq,Prod.mk.injEq] at h
    omega
   ·rw [if_neg h2] at h
    cases ht : tokD (r.drop (blk false r)) with
    | none =>
     rw [ht] at h
     simp only [Except.error.injEq,Prod.mk.injEq] at h
     omega
    | some p =>
     obtain ⟨t,n⟩:=p
     rw [ht] at h
     simp only at h
     have hn:=tokD_le ht
     rw [aM] at hn
     cases hc : cutF f ((r.drop (blk false r)).drop n) (at_ + blk false r + n) (k + 1) with
     | ok l=>rw [hc] at h;cases h
     | error e' =>
      rw [hc] at h
      simp only [Except.error.injEq] at h
      subst h
      have:=cutF_err f _ _ _ _ _ hc (by rw [aM,aM];omega)
      rw [aM,aM] at this
      omega
theorem scanD_cases (s : Str) : (65536 < s.length∧scanD s = ⟨[],0,13⟩) ∨
  (s.length ≤ 65536 ∧ ∃ l : List Tok,scanD s = ⟨l,0,0⟩ ∧ cutF (s.length + 1) s 0 0 = .ok l∧l.length ≤ 20000∧(∀ t ∈ l,0 ≤ t.at_∧t.at_ < s.length)∧l.Pairwise (fun a b=>a.at_ < b.at_)) ∨
  (s.length ≤ 65536 ∧ ∃ a e,scanD s = ⟨[],a,e⟩ ∧ a < s.length∧(e=4 ∨ (e=3∧(scanD (s.take a)).e=0))):=by
 by_cases hl : 65536 < s.length
 ·exact .inl ⟨hl,by rw [scanD,if_pos hl]⟩
 ·refine .inr ?_
  have hs : scanD s = .of (cutF (s.length + 1) s 0 0):=by rw [scanD,if_neg hl]
  cases hc : cutF (s.length + 1) s 0 0 with
  | ok l =>
   obtain ⟨h1,h2,h3⟩:=cutF_ok _ _ _ _ _ hc (by omega) (by omega)
   refine .inl ⟨by omega,l,by rw [hs,hc];rfl,rfl,by omega,fun t ht => ?_,h3⟩
   have:=h2 t ht
   omega
  | error x =>
   obtain ⟨a,e⟩:=x
   obtain ⟨h1,h2,h3⟩:=cutF_err _ _ _ _ _ _ hc (by omega)
   refine .inr ⟨by omega,a,e,by rw [hs,hc];rfl,by omega, ?_⟩
   rcases h3 with rfl | rfl
   ·refine .inr ⟨rfl, ?_⟩
    obtain ⟨_,_,h4⟩:=cutF_take _ _ _ _ _ hc (by omega)
    obtain ⟨l,hl2⟩:=h4 (a + 1) (by omega)
    rw [Nat.sub_zero] at hl2
    rw [scanD,if_neg (by rw [aL];omega),show (s.take a).length=a by rw [aL];omega,hl2]
    rfl
   ·exact .inl rfl
theorem scanD_len (s : Str) : (scanD s).list.length ≤ 20000:=by
 rcases scanD_cases s with ⟨_,h⟩ | ⟨_,l,h,_,h2,_⟩ | ⟨_,a,e,h,_⟩
 ·rw [h];exact aU _
 ·rw [h];exact h2
 ·rw [h];exact aU _
end Go.Sep


/- ScPlain3 -/
namespace Go.Sep
def valN : Str→Nat→Nat
 | [],a=>a
 | c :: r,a=>valN r (a * 10 + (c.toNat - 48))
theorem valN_ge : ∀ (s : Str) (a : Nat),a ≤ valN s a
 | [],a=>av _
 | c :: r,a=>by
  have:=valN_ge r (a * 10 + (c.toNat - 48))
  rw [valN];omega
theorem dgt_le {c : UInt8} (h : dgt c=true) : 48 ≤ c.toNat∧c.toNat ≤ 57:=of_decide_eq_true h
theorem dv_dgt {c : UInt8} (h : dgt c=true) : dv c=some (c.toNat - 48):=dv_dig (dgt_le h).1 (dgt_le h).2
theorem pU_val : ∀ (s : Str) (a : Nat),s.all dgt=true→valN s a ≤ 18446744073709551615→pU 10 18446744073709551615 s a=some (valN s a)
 | [],a,_,_=>rfl
 | c :: r,a,h,hv=>by
  rw [aY,aj] at h
  have hc:=dgt_le h.1
  rw [valN] at hv
  have:=valN_ge r (a * 10 + (c.toNat - 48))
  rw [pU,dv_dgt h.1]
  simp only
  rw [if_pos ⟨by omega,by omega⟩,pU_val r _ h.2 hv,valN]
theorem numOf_val {s : Str} (h : s.all dgt=true) (hv : valN s 0 < 9223372036854775808) : numOf s=some (valN s 0):=by
 rw [numOf,pU_val s 0 h (by omega)]
 simp only
 rw [if_pos hv]
theorem dgt_lod {c : UInt8} (h : dgt c=true) : lod c=true:=by unfold lod;rw [h];simp
theorem dgt_nltr {c : UInt8} (h : dgt c=true) : ¬ ltr c=true:=by rw [dgt_ltr,h];simp
theorem all_dgt_lod {s : Str} (h : s.all dgt=true) : s.all lod=true:=List.all_eq_true.2 fun x hx=>dgt_lod (List.all_eq_true.1 h x hx)
theorem takeWhile_app {p : UInt8→Bool} : ∀ (s r : Str),s.all p=true→(s++r).takeWhile p=s++r.takeWhile p
 | [],r,_=>rfl
 | c :: s,r,h=>by
  rw [aY,aj] at h
  rw [az,List.takeWhile_cons,if_pos h.1,takeWhile_app s r h.2];rfl
theorem span_app {p : UInt8→Bool} {s r : Str} (h : s.all p=true) : spanOf p (s++r)=s.length + spanOf p r:=by
 unfold spanOf
 rw [takeWhile_app s r h,aa]
theorem span_stop {p : UInt8→Bool} {c : UInt8} {r : Str} (h : p c=false) : spanOf p (c :: r)=0:=by
 unfold spanOf
 rw [List.takeWhile_cons,if_neg (by rw [h];decide)];rfl
structure Dec (s : Str) (n : Nat) : Prop where
 pos : s ≠ []
 dig : s.all dgt=true
 val : valN s 0=n
 lead : s.head? ≠ some 48 ∨ s.length=1
theorem tok_num {s : Str} {n : Nat} {c : UInt8} {r : Str} (h : Dec s n) (hn : n < 9223372036854775808) (hc : lod c=false) : tokD (s++c :: r)=some (⟨2,[],n,0⟩,s.length):=by
 have hd : dgt c=false:=by
  cases hd : dgt c with
  | false=>rfl
  | true=>rw [dgt_lod hd] at hc;cases hc
 have hs1 : spanOf lod (s++c :: r)=s.length:=by rw [span_app (all_dgt_lod h.dig),span_stop hc];omega
 have hs2 : spanOf dgt (s++c :: r)=s.length:=by rw [span_app h.dig,span_stop hd];omega
 have ht : (s++c :: r).take s.length=s:=by simp
 have hnum : numOf s=some n:=by rw [numOf_val h.dig (by rw [h.val];exact hn),h.val]
 have hlead:=h.lead
 obtain ⟨x,s',rfl⟩ : ∃ x s',s=x :: s':=by
  cases s with
  | nil=>exact absurd rfl h.pos
  | cons x s'=>exact ⟨x,s',rfl⟩
 have hdx : dgt x=true:=List.all_eq_true.1 h.dig x (by simp)
 rw [az] at hs1 hs2 ht ⊢
 rw [tokD,if_neg (dgt_nltr hdx),if_pos hdx,hs1,ht,hnum]
 simp only
 rw [if_neg]
 rintro (⟨h1,h2⟩ | h3)
 ·rcases hlead with h4 | h4
  ·exact h4 (by rw [List.head?_cons];congr 1;exact UInt8.toNat_inj.1 h1)
  ·omega
 ·exact h3 hs2
theorem blk_dgt {c : UInt8} {r : Str} (h : dgt c=true) : blk false (c :: r)=0:=by
 have:=dgt_le h
 rw [blk,if_neg,if_neg]
 ·rintro ⟨h1,_⟩;omega
 ·unfold isSp
  simp only [ar,ao]
  omega
theorem dec_head {s : Str} {n : Nat} (h : Dec s n) : ∃ x s',s=x :: s' ∧ dgt x=true:=by
 cases hs : s with
 | nil=>exact absurd hs h.pos
 | cons x s'=>exact ⟨x,s',rfl,List.all_eq_true.1 h.dig x (by simp [hs])⟩
structure DecAt (s : Str) (k n : Nat) : Prop where
 dig : s.all dgt=true
 val : k * 10 ^ s.length + valN s 0=n
 lead : k=0→s ≠ []→s.head? ≠ some 48 ∨ s.length=1
theorem valN_app : ∀ (s : Str) (a : Nat),valN s a=a * 10 ^ s.length + valN s 0
 | [],a=>by simp [valN]
 | c :: r,a=>by
  rw [valN,valN,valN_app r (a * 10 + (c.toNat - 48)),valN_app r (0 * 10 + (c.toNat - 48)),ab,Nat.pow_succ]
  rw [Nat.zero_mul,aW,Nat.add_mul]
  have : a * 10 * 10 ^ r.length=a * (10 ^ r.length * 10):=by rw [Nat.mul_assoc,Nat.mul_comm 10]
  omega
theorem DecAt.start (n : Nat) : DecAt [] n n:=⟨rfl,by simp [valN],fun _ h=>absurd rfl h⟩
theorem dig_lt (k : Nat) : (UInt8.ofNat (48 + k % 10)).toNat=48 + k % 10:=by
 rw [UInt8.toNat_ofNat',Nat.mod_eq_of_lt (by omega)]
theorem DecAt.step {s : Str} {k n : Nat} (h : DecAt s k n) (hk : 0 < k ∨ s=[]) : DecAt (UInt8.ofNat (48 + k % 10) :: s) (k / 10) n:=by
 have hd:=dig_lt k
 refine ⟨?_, ?_, ?_⟩
 ·rw [aY,h.dig,aE]
  unfold dgt
  rw [hd]
  exact aH (by omega)
 ·rw [valN,valN_app,hd,ab,Nat.pow_succ,← h.val,Nat.zero_mul,aW]
  have h1 : 48 + k % 10 - 48=k % 10:=by omega
  have h2 : k=k / 10 * 10 + k % 10:=by omega
  rw [h1]
  have h3 : k * 10 ^ s.length=k / 10 * (10 ^ s.length * 10) + k % 10 * 10 ^ s.length:=by
   conv=>lhs;rw [h2,Nat.add_mul]
   rw [Nat.mul_assoc,Nat.mul_comm 10]
  omega
 ·intro h0 _
  rcases hk with hk | rfl
  ·refine .inl fun e => ?_
   rw [List.head?_cons] at e
   have:=congrArg UInt8.toNat (Option.some.inj e)
   rw [hd] at this
   have h48 : (48 : UInt8).toNat=48:=rfl
   omega
  ·exact .inr rfl
theorem DecAt.done {s : Str} {n : Nat} (h : DecAt s 0 n) (hs : s ≠ []) : Dec s n:=⟨hs,h.dig,by have:=h.val;omega,h.lead rfl hs⟩
end Go.Sep


/- PsBlk -/
namespace Go.Pb
open Go.Ps
open Go.Sep (Tree Str bulkL)
variable {α β : Type}
def FS (f : F) : Prop := ∀ i t,f i=some t→t.text.length ≤ 1024
def Wt (c : Nat) (w : α → Nat) (p : Pp α) : Prop := ∀ f,FS f → ∀ k a k',p f k = .ok a k' → w a + 1025 * k ≤ 1025 * k' + c
theorem Wt.up {c c' : Nat} {w : α → Nat} {p : Pp α} (h : Wt c w p) (hc : c ≤ c') : Wt c' w p:=fun f hf k a k' e=>by have:=h f hf k a k' e;omega
theorem Wt.ret {c : Nat} {w : α → Nat} {a : α} (h : w a ≤ c) : Wt c w (ret a):=fun f hf k b k' e=>by injection e with e1 e2;subst e1;subst e2;omega
theorem Wt.fail {c : Nat} {w : α → Nat} : Wt c w (fail : Pp α):=fun f hf k a k' e=>by cases e
theorem Wt.dry {c : Nat} {w : α → Nat} : Wt c w (dry : Pp α):=fun f hf k a k' e=>by cases e
theorem Wt.bind {c c1 : Nat} {w1 : α → Nat} {w : β → Nat} {p : Pp α} {g : α → Pp β} (hp : Wt c1 w1 p) (hg : ∀ a, ∃ d,d ≤ c + w1 a - c1∧c1 ≤ c + w1 a∧Wt d w (g a)) : Wt c w (bind p g):=fun f hf k b k' e=>by
 unfold Ps.bind at e
 cases hx : p f k with
 | ok a k1 =>
  simp only [hx] at e
  obtain ⟨d,h1,h2,h3⟩:=hg a
  have h4:=hp f hf k a k1 hx
  have h5:=h3 f hf k1 b k' e
  omega
 | bad k1=>simp only [hx] at e;cases e
 | out=>simp only [hx] at e;cases e
theorem Wt.tok {c : Nat} {w : α → Nat} {s : Str} {A B : Pp α} (hA : Wt (c + 1025) w A) (hB : Wt c w B) : Wt c w (tok s A B):=fun f hf k a k' e=>by
 unfold Ps.tok at e
 cases hb : isM s f k with
 | true=>simp only [hb,bh] at e;have:=hA f hf _ a k' e;omega
 | false=>simp only [hb,bg] at e;exact hB f hf k a k' e
theorem Wt.need {c : Nat} {w : α → Nat} {s : Str} {A : Pp α} (hA : Wt (c + 1025) w A) : Wt c w (need s A):=Wt.tok hA Wt.fail
theorem Wt.tkn {c : Nat} {w : α → Nat} {n : Int} {A : Tk→Pp α} {B : Pp α} (hA : ∀ t,t.text.length ≤ 1024→Wt (c + 1025) w (A t)) (hB : Wt c w B) : Wt c w (tkn n A B):=fun f hf k a k' e=>by
 unfold Ps.tkn at e
 cases hx : f k with
 | none=>simp only [hx] at e;exact hB f hf k a k' e
 | some t =>
  cases hb : decide (t.kind=n) with
  | true=>simp only [hx,hb,bh] at e;have:=hA t (hf k t hx) f hf _ a k' e;omega
  | false=>simp only [hx,hb,bg] at e;exact hB f hf k a k' e
theorem Wt.name {c : Nat} {w : α → Nat} {A : Str→Pp α} (hA : ∀ t,t.length ≤ 1024→Wt (c + 1025) w (A t)) : Wt c w (name A):=Wt.tkn (fun t ht=>hA t.text ht) Wt.fail
theorem Wt.oneOf {c : Nat} {w : α → Nat} {ops : List Str} {A : Str→Pp α} {B : Pp α} (hA : ∀ t ∈ ops,Wt (c + 1025) w (A t)) (hB : Wt c w B) : Wt c w (oneOf ops A B):=fun f hf k a k' e=>by
 unfold Ps.oneOf at e
 cases hx : ops.find? (fun s=>isM s f k) with
 | none=>simp only [hx] at e;exact hB f hf k a k' e
 | some t=>simp only [hx] at e;have:=hA t (List.mem_of_find?_eq_some hx) f hf _ a k' e;omega
theorem Wt.peek {c : Nat} {w : α → Nat} {q : F→Nat→Bool} {A B : Pp α} (hA : Wt c w A) (hB : Wt c w B) : Wt c w (peek q A B):=fun f hf k a k' e=>by
 unfold Ps.peek at e
 cases hb : q f k with
 | true=>simp only [hb,bh] at e;exact hA f hf k a k' e
 | false=>simp only [hb,bg] at e;exact hB f hf k a k' e
theorem Wt.tokIf {c : Nat} {w : α → Nat} {x : Bool} {s : Str} {A B : Pp α} (hA : Wt (c + 1025) w A) (hB : Wt c w B) : Wt c w (tokIf x s A B):=by
 cases x with
 | true=>exact Wt.tok hA hB
 | false=>exact hB
@[reducible] def T0 (p : Pp Tree) : Prop:=Wt 0 Tree.bulk p
@[reducible] def L0 (p : Pp (List Tree)) : Prop:=Wt 0 bulkL p
theorem szL_app (a b : List Tree) : bulkL (a++b)=bulkL a + bulkL b:=by
 induction a with
 | nil=>simp [bulkL]
 | cons x l ih=>simp only [az,bulkL,ih];omega
variable {N : Nat}
structure GWt (g : Gr) : Prop where
 typ : T0 g.typ
 block : T0 g.block
 stmt : T0 g.stmt
 branch : T0 g.branch
 expr : ∀ b,T0 (g.expr b)
 unary : ∀ b,T0 (g.unary b)
end Go.Pb


/- PsScut -/
namespace Go.Sep
end Go.Sep


/- PsAns -/
namespace Go.Sep
def tkF (l : List Tok) : Ps.F:=fun i=>match l[i]? with
 | some t=>some ⟨t.kind,t.text,t.num⟩
 | none=>none
def placeD (s : Str) (l : List Tok) (k : Nat) : Int:=match l[k]? with
 | some t=>t.at_
 | none=>(s.length : Int)
structure PA where
 tree : Tree
 at_ : Int
 e : Int
def emptyT : Tree := .mk 0 [] 0 []
def parseL (s : Str) (l : List Tok) : PA :=
 match Ps.program l.length (tkF l) 0 with
 | .ok ds _=>if (Tree.mk 1 [] 0 ds).size ≤ 20000∧(Tree.mk 1 [] 0 ds).deep ≤ 100 then ⟨.mk 1 [] 0 ds,0,0⟩ else ⟨emptyT,0,4⟩
 | .bad k=>⟨emptyT,placeD s l k,3⟩
 | .out=>⟨emptyT,0,0⟩
def parseD (s : Str) : PA:=if (scanD s).e=0 then parseL s (scanD s).list else ⟨emptyT,((scanD s).at_ : Int),(scanD s).e⟩
def ParseR (a : PA) (r : Value) (m' : Mem) : Prop := ∃ x,r = .tuple ⟨[treeV x, .int .i64 a.at_, .int .i64 a.e]⟩ ∧ TreeRep m' x a.tree
theorem emptyT_rep (m : Mem) : TreeRep m ⟨0,[],0,⟨none,0,0⟩⟩ emptyT:=⟨rfl,rfl,rfl,bN _ _⟩
end Go.Sep


/- PsFin -/
namespace Go.Sep
theorem tkF_none (l : List Tok) : ∀ i,l.length ≤ i→tkF l i=none:=fun i h=>by unfold tkF;rw [au h]
theorem program_ne (l : List Tok) : Ps.program l.length (tkF l) 0 ≠ .out:=(Ps.Run.program (tkF_none l)).out 0 (av _) (aU _)
end Go.Sep


/- PsTokP -/
namespace Go.Sep
structure TOk (t : Tok) : Prop where
 name : t.kind=1→isName t.text=true
 num : t.kind=2→0 ≤ t.num
 short : t.text.length ≤ 1024
end Go.Sep


/- PtScan -/
namespace Go.Pt
open Go.Sep Go.Ps
def TkV (t : Tk) : Prop :=
 (t.kind=1∧isName t.text=true∧t.num=0) ∨ (t.kind=2∧t.text=[]∧0 ≤ t.num∧t.num < 9223372036854775808) ∨ (t.kind=3∧t.text.length ≤ 1024∧t.num=0) ∨ (t.kind=4∧t.text ∈ markL∧t.num=0) ∨ (t.kind=5∧t.text ∈ wordL∧t.num=0)
def txt (t : Tk) : Str:=if t.kind=2 then digN t.num.toNat else if t.kind=3 then quoteD t.text else t.text
def stopB (c : UInt8) : Bool := !lod c && (!decide (c=61) && (!decide (c=38) && (!decide (c=124) && !decide (c=47))))
structure Nx (t : Tk) (R : Str) : Prop where
 tk : tokD (txt t++R)=some (⟨t.kind,t.text,t.num,0⟩,(txt t).length)
 bl : blk false (txt t++R)=0
 pos : txt t ≠ []
theorem valN_append : ∀ (s r : Str) (a : Nat),valN (s++r) a=valN r (valN s a)
 | [],r,a=>rfl
 | c :: s,r,a=>by rw [az,valN,valN,valN_append s r]
theorem digF_dec : ∀ (f n : Nat),1 ≤ f→n < 10 ^ f→Dec (digF f n) n
 | 0,n,h,_=>by omega
 | f + 1,n,_,hn=>by
  have hd : ∀ k,k < 10→dgt (UInt8.ofNat (48 + k))=true∧(UInt8.ofNat (48 + k)).toNat - 48=k:=by
   intro k hk
   have : ∀ k : Fin 10,dgt (UInt8.ofNat (48 + k.val))=true∧(UInt8.ofNat (48 + k.val)).toNat - 48=k.val:=by decide
   exact this ⟨k,hk⟩
  unfold digF
  by_cases h : n < 10
  ·rw [if_pos h]
   exact ⟨by simp,by rw [aY,(hd n h).1];rfl,by show 0 * 10 + ((UInt8.ofNat (48 + n)).toNat - 48)=n;rw [(hd n h).2];omega, .inr rfl⟩
  ·rw [if_neg h]
   have hf : 1 ≤ f:=by
    rcases Nat.eq_zero_or_pos f with rfl | h1
    ·simp at hn;omega
    ·exact h1
   have ih:=digF_dec f (n / 10) hf (by rw [Nat.pow_succ] at hn;omega)
   have hm:=hd (n % 10) (by omega)
   refine ⟨by simp, ?_, ?_, .inl ?_⟩
   ·rw [List.all_append,ih.dig,aY,hm.1];rfl
   ·rw [valN_append,ih.val]
    show n / 10 * 10 + ((UInt8.ofNat (48 + n % 10)).toNat - 48)=n
    rw [hm.2];omega
   ·have hp:=ih.pos
    obtain ⟨x,s,hs⟩ : ∃ x s,digF f (n / 10)=x :: s:=by
     cases hs : digF f (n / 10) with
     | nil=>exact absurd hs hp
     | cons x s=>exact ⟨x,s,rfl⟩
    have hl:=ih.lead
    have hv:=ih.val
    rw [hs] at hl hv ⊢
    intro h0
    have h0' : x=48:=by simpa using h0
    subst h0'
    rcases hl with h1 | h1
    ·exact h1 rfl
    ·have : s=[]:=by simpa using h1
     subst this
     simp [valN] at hv
     omega
theorem digN_dec {n : Nat} (h : n < 9223372036854775808) : Dec (digN n) n:=digF_dec 20 n (by decide) (by omega)
theorem tok_word {x : UInt8} {w : Str} {c : UInt8} {r : Str} (hx : ltr x=true) (hw : (x :: w).all lod=true) (hl : (x :: w).length ≤ 64) (hc : lod c=false) :
  tokD ((x :: w)++c :: r)=some (⟨if (x :: w) ∈ wordL then 5 else 1,x :: w,0,0⟩,(x :: w).length):=by
 have hs : spanOf lod ((x :: w)++c :: r)=(x :: w).length:=by rw [span_app hw,span_stop hc];rfl
 have ht : ((x :: w)++c :: r).take (x :: w).length=x :: w:=by simp
 rw [az] at hs ht ⊢
 rw [tokD,if_pos hx,hs,if_neg (by omega),ht]
theorem blk_one {x : UInt8} {r : Str} (h1 : isSp x=false) (h2 : x.toNat ≠ 47) : blk false (x :: r)=0:=by
 rw [blk,if_neg (by rw [h1];decide),if_neg fun h=>h2 h.1]
theorem ltr_blk {x : UInt8} {r : Str} (h : ltr x=true) : blk false (x :: r)=0:=by
 unfold ltr at h
 simp only [ar,ao] at h
 refine blk_one ?_ (by omega)
 unfold isSp
 simp only [Bool.or_eq_false_iff,decide_eq_false_iff_not]
 omega
theorem name_head {w : Str} (h : isName w=true) : ∃ x w',w=x :: w' ∧ ltr x=true∧w.all lod=true∧w.length ≤ 64∧w ∉ wordL:=by
 unfold isName at h
 simp only [aj,ao,Bool.not_eq_true'] at h
 obtain ⟨h1,h2,h3,h4,h5⟩:=h
 cases w with
 | nil=>simp at h1
 | cons x w' =>
  refine ⟨x,w',rfl, ?_,h4,h2,by simpa using h5⟩
  have : lod x=true:=List.all_eq_true.1 h4 x (by simp)
  rw [dgt_ltr,this]
  simpa using h3
theorem word_head : ∀ w ∈ wordL, ∃ x w',w=x :: w' ∧ ltr x=true∧w.all lod=true∧w.length ≤ 64:=by
 have : ∀ w ∈ wordL,w.head?.any ltr=true∧w.all lod=true∧w.length ≤ 64:=by decide
 intro w hw
 obtain ⟨h1,h2,h3⟩:=this w hw
 cases w with
 | nil=>simp at h1
 | cons x w'=>exact ⟨x,w',rfl,by simpa using h1,h2,h3⟩
theorem prefixB_take (p s : Str) (k : Nat) (h : p.length ≤ k) : prefixB p s=prefixB p (s.take k):=by
 unfold prefixB
 rw [List.take_take,show min p.length k=p.length by omega,aL]
 congr 1
 exact decide_eq_decide.2 (by omega)
theorem mark_fin : ∀ m ∈ markL, ∀ c : Fin 256,stopB (UInt8.ofNat c.val)=true→markL.find? (fun p=>prefixB p ((m++[UInt8.ofNat c.val]).take 2))=some m:=by decide +kernel
theorem mark_len : ∀ m ∈ markL,m.length=1 ∨ m.length=2:=by decide
theorem mark_head : ∀ m ∈ markL,m.head?.any (fun x => !ltr x && (!dgt x && (!decide (x.toNat=34) && !isSp x)))=true:=by decide
theorem mark_slash : ∀ m ∈ markL,m.head? = some 47→m=[47]:=by decide
theorem tok_mark {m : Str} (hm : m ∈ markL) {c : UInt8} {r : Str} (hc : stopB c=true) : tokD (m++c :: r)=some (⟨4,m,0,0⟩,m.length)∧blk false (m++c :: r)=0:=by
 have h1:=mark_fin m hm ⟨c.toNat,c.toNat_lt⟩ (by simpa using hc)
 simp only [UInt8.ofNat_toNat] at h1
 have h2 : (m++c :: r).take 2=(m++[c]).take 2:=by
  rcases mark_len m hm with h | h
  ·obtain ⟨x,rfl⟩:=List.length_eq_one_iff.1 h;rfl
  ·match m,h with
   | [x,y],_=>rfl
 have h3 : markL.find? (fun p=>prefixB p (m++c :: r))=some m:=by
  rw [← h1]
  have e : ∀ l : List Str,(∀ p ∈ l,p.length ≤ 2)→l.find? (fun p=>prefixB p (m++c :: r))=l.find? (fun p=>prefixB p ((m++[c]).take 2)):=by
   intro l
   induction l with
   | nil=>intro _;rfl
   | cons p l ih =>
    intro hl
    rw [List.find?_cons,List.find?_cons,ih fun q hq=>hl q (by simp [hq]),prefixB_take p (m++c :: r) 2 (hl p (by simp)),h2]
  exact e markL (by decide)
 have h4:=mark_head m hm
 have h5:=mark_slash m hm
 cases m with
 | nil=>simp at h4
 | cons x m' =>
  simp only [List.head?_cons,Option.any_some,aj,Bool.not_eq_true',decide_eq_false_iff_not] at h4
  rw [az] at h3 ⊢
  refine ⟨by rw [tokD,if_neg (by rw [h4.1];decide),if_neg (by rw [h4.2.1];decide),if_neg h4.2.2.1,h3], ?_⟩
  by_cases h47 : x.toNat=47
  ·have hx : x=47:=UInt8.toNat_inj.1 h47
   have:=h5 (by rw [hx];rfl)
   injection this with _ hm'
   subst hm'
   rw [blk,if_neg (by rw [h4.2.2.2];decide),if_neg]
   rintro ⟨_,h6⟩
   have : c=47:=by simpa using h6
   subst this
   revert hc;decide
  ·exact blk_one h4.2.2.2 h47
theorem Nx.of {t : Tk} (h : TkV t) {c : UInt8} (hc : stopB c=true) (r : Str) : Nx t (c :: r):=by
 have hl : lod c=false:=by
  unfold stopB at hc
  simp only [aj,Bool.not_eq_true'] at hc
  exact hc.1
 obtain ⟨k,w,u⟩:=t
 rcases h with ⟨h1,h2,h3⟩ | ⟨h1,h2,h3,h4⟩ | ⟨h1,h2,h3⟩ | ⟨h1,h2,h3⟩ | ⟨h1,h2,h3⟩
 ·obtain rfl : k=1:=h1
  obtain rfl : u=0:=h3
  have h2' : isName w=true:=h2
  obtain ⟨x,w',rfl,g1,g2,g3,g4⟩:=name_head h2'
  have ht:=tok_word (r:=r) g1 g2 g3 hl
  rw [if_neg g4] at ht
  exact ⟨ht,ltr_blk g1,by simp [txt]⟩
 ·obtain rfl : k=2:=h1
  obtain rfl : w=[]:=h2
  have h3' : 0 ≤ u:=h3
  have h4' : u < 9223372036854775808:=h4
  have hd:=digN_dec (n:=u.toNat) (by omega)
  have ht:=tok_num (r:=r) hd (by omega) hl
  obtain ⟨x,s',hs,hx⟩:=dec_head hd
  have e : txt ⟨2,[],u⟩ = digN u.toNat:=rfl
  refine ⟨?_, ?_,by rw [e];exact hd.pos⟩
  ·rw [e,ht]
   show some (Tok.mk 2 [] ((u.toNat : Nat) : Int) 0,_)=some (Tok.mk 2 [] u 0,_)
   rw [show ((u.toNat : Nat) : Int)=u by omega]
  ·rw [e,hs,az,blk_dgt hx]
 ·obtain rfl : k=3:=h1
  obtain rfl : u=0:=h3
  have h2' : w.length ≤ 1024:=h2
  have e : txt ⟨3,w,0⟩ = quoteD w:=rfl
  refine ⟨?_, ?_,by rw [e,quoteD];simp⟩
  ·rw [e]
   have e2 : quoteD w++c :: r=34 :: (quoteB w++34 :: (c :: r)):=by rw [quoteD];simp
   rw [e2,tokD_str (lit_quoteB w (c :: r)),if_neg (by omega),quoteD_len]
  ·rw [e,quoteD,az,blk_34]
 ·obtain rfl : k=4:=h1
  obtain rfl : u=0:=h3
  have h2' : w ∈ markL:=h2
  have:=tok_mark (r:=r) h2' hc
  exact ⟨this.1,this.2,fun e=>by
   have h4:=mark_head w h2'
   have e' : w=[]:=e
   rw [e'] at h4;simp at h4⟩
 ·obtain rfl : k=5:=h1
  obtain rfl : u=0:=h3
  have h2' : w ∈ wordL:=h2
  obtain ⟨x,w',rfl,g1,g2,g3⟩:=word_head w h2'
  have ht:=tok_word (r:=r) g1 g2 g3 hl
  rw [if_pos h2'] at ht
  exact ⟨ht,ltr_blk g1,by simp [txt]⟩
end Go.Pt


/- PtBuild -/
namespace Go.Sep
open Go.Proofs
attribute [local irreducible] TC TO OT TCallX TCall DO DOt thenQ blockQ retQ At
@[reducible] def bdL (bd : Nat) (q : Option Addr) (s : Sl) (L : List Item) : List Item := .cells bd 0 [.pointer q,s.v] :: tok s 1 :: L
@[reducible] def bdV (bd : Nat) : Value := .pointer (some ⟨bd,0,none⟩)
def Wr (bd : Nat) (m : Mem) (L : List Item) (y : Str) : Value→Mem→List Item→Prop:=fun _ m' L'=>m ≤ m' ∧ ∃ s' q',L' = bdL bd q' s' L∧BOk m' bd q' s' y
theorem writeString_law (m : Mem) (L : List Item) (bd : Nat) (q : Option Addr) (s : Sl) (l bs : Str) (hB : BOk m bd q s l) (hl : l.length + bs.length ≤ 140737488355328) :
  TCall Tryz.prog 91 ⟨[bdV bd,strV bs]⟩ m (bdL bd q s L) (Wr bd m L (l++bs)):=by
 unfold TCall
 refine bw Tryz.func91 rfl 19 rfl ?_
 refine uA ?_
 refine oC goes131 ((copyCheck_law _ _ bd q s.v ⟨_,_,_,rfl⟩ hB.ty hB.q).x ?_);
 rintro _ _ _ ⟨rfl,rfl⟩
 refine uA ?_
 refine uM ?_
 refine uA ?_
 refine qs rfl (OT.appendST tab 1 hB.sl hB.own rfl rfl rfl rfl rfl rfl rfl rfl rfl rfl rfl (by omega) hB.row (fun s' m2 hm2 hs2 ho2 hr2 he2 => ?_))
 refine uA ?_
 refine uT ?_
 refine uA ?_
 refine bu rfl (aP _) ⟨hm2,s',_,rfl,hB.ty.mono hm2, .inr rfl,hs2,ho2,hr2,fun e => ?_⟩
 obtain ⟨e1,e2⟩:=List.append_eq_nil_iff.1 e
 rw [he2 e2,hB.none e1]
def suffixB (p s : Str) : Bool:=decide (p.length ≤ s.length) && decide (s.drop (s.length - p.length)=p)
def trimD (s p : Str) : Str:=if suffixB p s=true then s.take (s.length - p.length) else s
theorem suffix_lite (m : Mem) (L : List Item) (s p : Str) (hs : s.length ≤ 140737488355328) : TCall Tryz.prog 151 ⟨[strV s,strV p]⟩ m L (Ret (.bool (suffixB p s)) m L):=by
 unfold TCall
 refine bw Tryz.func151 rfl 21 rfl ?_
 refine uA ?_
 (refine bB rfl rfl (fun e1 => ?_) (fun e1 => ?_))
 ·refine uA ?_
  refine qs rfl (bK (r':=(s.length : Int) - (p.length : Int)) rfl rfl rfl rfl rfl rfl rfl (by omega) ?_)
  refine uA ?_
  refine qs rfl (OT.sub tab (s.length - p.length) s.length rfl rfl rfl rfl rfl rfl rfl (.inr (by rw [show (s.length : Int) - (p.length : Int)=((s.length - p.length : Nat) : Int) by omega])) (.inl ⟨rfl,rfl⟩) (by omega) (av _) ?_)
  refine uA ?_
  refine bu rfl uS ⟨rfl,rfl, ?_⟩
  rw [suffixB,aH (show p.length ≤ s.length by omega),List.take_length];rfl
 ·refine uA ?_
  refine bu rfl uS ⟨rfl,rfl, ?_⟩
  rw [suffixB,aI (show ¬ p.length ≤ s.length by omega)];rfl
theorem trim_lite (m : Mem) (L : List Item) (s p : Str) (hs : s.length ≤ 140737488355328) : TCall Tryz.prog 121 ⟨[strV s,strV p]⟩ m L (Ret (strV (trimD s p)) m L):=by
 unfold TCall
 refine bw Tryz.func121 rfl 16 rfl ?_
 refine uA ?_
 refine oC goes151 ((suffix_lite _ _ s p hs).x ?_);
 rintro _ _ _ ⟨rfl,rfl,rfl⟩
 refine uA ?_
 refine bo (t:=suffixB p s) rfl (fun h => ?_) (fun h => ?_)
 ·have hp : p.length ≤ s.length:=by
   unfold suffixB at h
   simp only [aj,ao] at h
   exact h.1
  refine uA ?_
  refine qs rfl (bK (r':=(s.length : Int) - (p.length : Int)) rfl rfl rfl rfl rfl rfl rfl (by omega) ?_)
  refine uA ?_
  refine qs rfl (OT.sub tab 0 (s.length - p.length) rfl rfl rfl rfl rfl rfl rfl (.inl ⟨rfl,rfl⟩) (.inr (by rw [show (s.length : Int) - (p.length : Int)=((s.length - p.length : Nat) : Int) by omega])) (aU _) (by omega) ?_)
  refine uA ?_
  refine bu rfl uS ⟨rfl,rfl, ?_⟩
  rw [trimD,if_pos h];rfl
 ·refine uA ?_
  refine bu rfl uS ⟨rfl,rfl, ?_⟩
  rw [trimD,if_neg (by rw [h];decide)]
theorem trim_law (m : Mem) (L : List Item) (s p : Str) (hs : s.length ≤ 140737488355328) : TCall Tryz.prog 69 ⟨[strV s,strV p]⟩ m L (Ret (strV (trimD s p)) m L):=by
 unfold TCall
 refine bw Tryz.func69 rfl 8 rfl ?_
 refine uA ?_
 refine oC goes121 ((trim_lite _ _ s p hs).x ?_);
 rintro _ _ _ ⟨rfl,rfl,rfl⟩
 refine uA ?_
 refine bu rfl uS ⟨rfl,rfl, ?_⟩
 rfl
def lastB (t : Str) : UInt8:=if t=[123] ∨ t=[125] ∨ t=[59] then 10 else 32
def putS (t : Str) : Str:=t++[lastB t]
def putL (l : List Str) : Str:=(l.map putS).flatten
theorem putL_app (l r : List Str) : putL (l++r)=putL l++putL r:=by unfold putL;rw [aZ,List.flatten_append]
theorem putL_one (t : Str) : putL [t]=putS t:=by simp [putL]
def putT (l : List Ps.Tk) : Str:=putL (l.map Pt.txt)
theorem putT_app (l r : List Ps.Tk) : putT (l++r)=putT l++putT r:=by unfold putT;rw [aZ,putL_app]
theorem putT_nil : putT []=[]:=rfl
structure PS where
 m : Mem
 q : Option Addr
 s : Sl
 i : Nat
theorem BOk.cast {m : Mem} {bd : Nat} {q : Option Addr} {s : Sl} {x y : Str} (h : BOk m bd q s x) (e : x=y) : BOk m bd q s y:=e ▸ h
theorem put_law (m : Mem) (L : List Item) (bd : Nat) (q : Option Addr) (s : Sl) (x : Str) (hB : BOk m bd q s x) (sl : Sl) (l : List Ps.Tk) (hs : SlRep rStr m sl (l.map Pt.txt)) (hl : x.length + (putT l).length ≤ 140737488355328) :
  TCall Tryz.prog 67 ⟨[bdV bd,sl.v]⟩ m (bdL bd q s L) (Wr bd m L (x++putT l)):=by
 have hlen:=hs.len
 have hsm:=hs.small rfl
 unfold TCall
 refine bw Tryz.func67 rfl 36 rfl ?_
 refine uA ?_
 refine br (ι:=PS) [0,6,7] rfl (fun g=>[(8, .int .i64 (g.i : Int))]) (fun g=>g.m) (fun g=>bdL bd g.q g.s L) (fun g=>m ≤ g.m∧g.i ≤ l.length∧BOk g.m bd g.q g.s (x++putT (l.take g.i))) (fun g=>l.length - g.i) ⟨m,q,s,0⟩ uH rfl uS ⟨bm _,aU _,hB.cast (by simp [putT,putL])⟩ ?_
 rintro ⟨m1,p1,s1,i⟩ ⟨hm1,hi,hB1⟩
 simp only at hm1 hi hB1
 refine uA ?_
 refine bq rfl (fun h1 => ?_) (fun h1 => ?_)
 ·simp only at h1
  have hlt : i < l.length:=by rw [aD] at hlen;omega
  have hxi : (l.map Pt.txt)[i]? = some (Pt.txt l[i]):=by rw [List.getElem?_map,ak hlt];rfl
  have hcut : putT l=putT (l.take i)++(putS (Pt.txt l[i])++putT (l.drop (i + 1))):=by
   have e : l=l.take i++([l[i]]++l.drop (i + 1)):=by rw [List.singleton_append,← aJ hlt,aV]
   conv=>lhs;rw [e]
   rw [putT_app,putT_app];unfold putT;rw [ax,ay,putL_one]
  have htk : putT (l.take (i + 1))=putT (l.take i)++putS (Pt.txt l[i]):=by
   rw [aX hlt,putT_app]
   show _++putL [Pt.txt l[i]]=_
   rw [putL_one]
  have hlc:=congrArg List.length hcut
  rw [aa,aa] at hlc
  generalize ht : Pt.txt l[i]=t at *
  have hpl : (putS t).length=t.length + 1:=by simp [putS]
  have hs1:=hs.mono hm1
  refine uA ?_
  refine qs rfl (bO tab rStr i hs1 rfl rfl rfl rfl rfl (by first | rfl | omega | (simp only;omega)) rfl hxi ?_)
  rintro b4 i4 v4 hv4 hA4
  obtain rfl : v4=t:=hv4
  (refine oL tab hA4 ?_)
  refine uA ?_
  refine oC goes91 ((writeString_law _ _ bd p1 s1 _ v4 hB1 (by rw [aa];omega)).x ?_);
  rintro _ m2 _ ⟨hm2,s2,p2,rfl,hB2⟩
  refine uA ?_
  (refine bB rfl rfl (fun c1 => ?_) (fun c1 => ?_))
  ·subst c1
   refine uA ?_
   refine oC goes119 ((writeByte_law _ _ bd p2 s2 _ 10 hB2 (by rw [aa,aa];omega)).x ?_);
   rintro _ m3 _ ⟨hm3,s3,p3,rfl,hB3⟩
   refine uA ?_
   refine qs rfl (bK (r':=((i + 1 : Nat) : Int)) rfl rfl rfl rfl rfl rfl rfl (by omega) ?_)
   refine uA ?_
   refine ⟨⟨m3,p3,s3,i + 1⟩,uH,uH,rfl,rfl,uS,⟨bn hm1 (bn hm2 hm3),by simp only;omega,hB3.cast ?_⟩,by simp only;omega⟩
   rw [htk,putS]
   simp only [am]
   rw [show lastB [123]=10 by decide]
  refine uA ?_
  (refine bB rfl rfl (fun c2 => ?_) (fun c2 => ?_))
  ·subst c2
   refine uA ?_
   refine oC goes119 ((writeByte_law _ _ bd p2 s2 _ 10 hB2 (by rw [aa,aa];omega)).x ?_);
   rintro _ m3 _ ⟨hm3,s3,p3,rfl,hB3⟩
   refine uA ?_
   refine qs rfl (bK (r':=((i + 1 : Nat) : Int)) rfl rfl rfl rfl rfl rfl rfl (by omega) ?_)
   refine uA ?_
   refine ⟨⟨m3,p3,s3,i + 1⟩,uH,uH,rfl,rfl,uS,⟨bn hm1 (bn hm2 hm3),by simp only;omega,hB3.cast ?_⟩,by simp only;omega⟩
   rw [htk,putS]
   simp only [am]
   rw [show lastB [125]=10 by decide]
  refine uA ?_
  refine bo (t:=decide (v4=[59])) rfl (fun c3 => ?_) (fun c3 => ?_)
  ·have c3':=of_decide_eq_true c3
   subst c3'
   refine uA ?_
   refine oC goes119 ((writeByte_law _ _ bd p2 s2 _ 10 hB2 (by rw [aa,aa];omega)).x ?_);
   rintro _ m3 _ ⟨hm3,s3,p3,rfl,hB3⟩
   refine uA ?_
   refine qs rfl (bK (r':=((i + 1 : Nat) : Int)) rfl rfl rfl rfl rfl rfl rfl (by omega) ?_)
   refine uA ?_
   refine ⟨⟨m3,p3,s3,i + 1⟩,uH,uH,rfl,rfl,uS,⟨bn hm1 (bn hm2 hm3),by simp only;omega,hB3.cast ?_⟩,by simp only;omega⟩
   rw [htk,putS]
   simp only [am]
   rw [show lastB [59]=10 by decide]
  ·have c3':=of_decide_eq_false c3
   refine uA ?_
   refine oC goes119 ((writeByte_law _ _ bd p2 s2 _ 32 hB2 (by rw [aa,aa];omega)).x ?_);
   rintro _ m3 _ ⟨hm3,s3,p3,rfl,hB3⟩
   refine uA ?_
   refine qs rfl (bK (r':=((i + 1 : Nat) : Int)) rfl rfl rfl rfl rfl rfl rfl (by omega) ?_)
   refine uA ?_
   refine ⟨⟨m3,p3,s3,i + 1⟩,uH,uH,rfl,rfl,uS,⟨bn hm1 (bn hm2 hm3),by simp only;omega,hB3.cast ?_⟩,by simp only;omega⟩
   rw [htk,putS]
   simp only [am]
   rw [show lastB v4=32 by (unfold lastB;simp [c1,c2,c3'])]
 ·simp only at h1
  refine uA ?_
  refine bv rfl uS ⟨hm1,s1,p1,rfl,hB1.cast ?_⟩
  rw [aT (by rw [aD] at hlen;omega)]
end Go.Sep
namespace Go
abbrev cv := @Sep.putT_app
abbrev cw := @Sep.put_law
end Go

/- PtVal -/
namespace Go.Pt
open Go.Sep Go.Ps
mutual
def numB2 : Tree→Bool
 | .mk k n u ks=>(!decide (k=40) || decide (u < 9223372036854775808)) && numL ks
def numL : List Tree→Bool
 | []=>true
 | t :: ts=>numB2 t && numL ts
end
theorem numL_mem : ∀ {l : List Tree} {t : Tree},numL l=true→t ∈ l→numB2 t=true
 | x :: xs,t,h,hm=>by
  rw [numL,aj] at h
  rcases List.mem_cons.1 hm with rfl | hm
  ·exact h.1
  ·exact numL_mem h.2 hm
theorem num_kid {a t : Tree} (h : numB2 a=true) (hm : t ∈ a.kids) : numB2 t=true:=by
 obtain ⟨k,n,u,ks⟩:=a
 rw [numB2,aj] at h
 exact numL_mem h.2 hm
theorem num_int {n : Str} {u : Int} {ks : List Tree} (h : numB2 (.mk 40 n u ks)=true) : u < 9223372036854775808:=by
 rw [numB2,aj] at h
 simpa using h.1
structure AllV (n : Nat) (l : List Tk) : Prop where
 v : ∀ t ∈ l,TkV t
 len : l.length ≤ n
theorem AllV.le {n m : Nat} {l : List Tk} (h : AllV n l) (hn : n ≤ m) : AllV m l:=⟨h.v,aw h.len hn⟩
theorem AllV.nil : AllV 0 []:=⟨fun t h=>(by cases h),av _⟩
theorem AllV.cons {n : Nat} {t : Tk} {l : List Tk} (h : TkV t) (hl : AllV n l) : AllV (n + 1) (t :: l):=⟨fun x hx=>by
 rcases List.mem_cons.1 hx with rfl | hx
 ·exact h
 ·exact hl.v x hx,Nat.succ_le_succ hl.len⟩
theorem AllV.app {n m : Nat} {l r : List Tk} (hl : AllV n l) (hr : AllV m r) : AllV (n + m) (l++r):=⟨fun x hx=>by
 rcases List.mem_append.1 hx with hx | hx
 ·exact hl.v x hx
 ·exact hr.v x hx,by have:=hl.len;have:=hr.len;rw [aa];omega⟩
theorem v_mk {s : Str} (h : s ∈ markL) : TkV (mk s) := .inr (.inr (.inr (.inl ⟨rfl,h,rfl⟩)))
theorem v_wd {s : Str} (h : s ∈ wordL) : TkV (wd s) := .inr (.inr (.inr (.inr ⟨rfl,h,rfl⟩)))
theorem v_nm {s : Str} (h : isName s=true) : TkV (nm s) := .inl ⟨rfl,h,rfl⟩
theorem AllV.m {n : Nat} {s : Str} {l : List Tk} (h : s ∈ markL) (hl : AllV n l) : AllV (n + 1) (Pt.mk s :: l):=AllV.cons (v_mk h) hl
theorem AllV.w {n : Nat} {s : Str} {l : List Tk} (h : s ∈ wordL) (hl : AllV n l) : AllV (n + 1) (wd s :: l):=AllV.cons (v_wd h) hl
theorem AllV.n {n : Nat} {s : Str} {l : List Tk} (h : isName s=true) (hl : AllV n l) : AllV (n + 1) (nm s :: l):=AllV.cons (v_nm h) hl
def Kv (k : Tree) : Prop:=AllV (8 * k.size - 1) (toks k)
theorem v_flat : ∀ {ks : List Tree},(∀ k ∈ ks,Kv k)→AllV (8 * sizeL ks) (ks.map toks).flatten
 | [],_=>AllV.nil.le (aU _)
 | k :: ks,h=>((h k (by simp)).app (v_flat fun x hx=>h x (by simp [hx]))).le (by have:=size_pos k;simp only [sizeL];omega)
theorem v_comma : ∀ {ks : List Tree},(∀ k ∈ ks,Kv k)→AllV (8 * sizeL ks) (commaJ (ks.map toks))
 | [],_=>AllV.nil.le (aU _)
 | [k],h=>(h k (by simp)).le (by simp only [sizeL];omega)
 | k :: u :: ts,h=>((h k (by simp)).app (AllV.m (s:=[44]) (by decide) (v_comma (ks:=u :: ts) fun x hx=>h x (by simp at hx ⊢;exact .inr hx)))).le (by have:=size_pos k;simp only [sizeL];omega)
theorem v_res {ks : List Tree} (h : ∀ k ∈ ks,Kv k) : AllV (8 * sizeL ks + 2) (resJ (ks.map toks)):=by
 unfold resJ
 split
 ·exact (v_comma h).le (by omega)
 ·exact (AllV.m (by decide) ((v_comma h).app (AllV.m (by decide) AllV.nil))).le (by omega)
theorem v_semis : ∀ {ks : List Tree},(∀ k ∈ ks,Kv k)→AllV (8 * sizeL ks) (semis (ks.map toks))
 | [],_=>AllV.nil.le (aU _)
 | k :: ks,h=>(((h k (by simp)).app (AllV.m (s:=[59]) (by decide) AllV.nil)).app (v_semis fun x hx=>h x (by simp [hx]))).le (by have:=size_pos k;simp only [sizeL];omega)
theorem v_sig {u : Int} {ks : List Tree} (h : ∀ k ∈ ks,Kv k) : AllV (8 * sizeL ks + 4) (sigJ u (ks.map toks)):=by
 unfold sigJ
 rw [← List.map_take,← List.map_drop]
 exact (AllV.m (by decide) ((v_comma fun t ht=>h t (ba ht)).app (AllV.m (by decide) (v_res fun t ht=>h t (List.mem_of_mem_drop ht))))).le (by have:=sizeL_drop ks u.toNat;omega)
theorem sz (k : Int) (n : Str) (u : Int) (ks : List Tree) : (Tree.mk k n u ks).size=1 + sizeL ks:=rfl
theorem fin {n : Nat} {a : Tree} (h : AllV n (toks a)) (hn : n ≤ 8 * a.size - 1) : Kv a:=h.le hn
theorem fin2 {n : Nat} {a : Tree} {l : List Tk} (e : toks a=l) (h : AllV n l) (hn : n ≤ 8 * a.size - 1) : Kv a:=(show AllV n (toks a) from e ▸ h).le hn
theorem v_typ (a : Tree) : a.isType=true→Kv a:=by
 induction a using Tree.ind with
 | h a ih =>
 intro ht
 rw [isType_eq] at ht
 by_cases h : a.kind=10
 ·rw [if_pos h] at ht
  simp only [aj,ao] at ht
  obtain ⟨k,n,u,ks⟩:=a
  obtain rfl : k=10:=h
  exact fin (AllV.n ht.2.1 AllV.nil) (by simp only [sz,sizeL,Tree.kids];omega)
 rw [if_neg h] at ht
 by_cases h2 : a.kind=11 ∨ a.kind=12
 ·rw [if_pos h2] at ht
  simp only [aj,ao] at ht
  obtain ⟨k,n,u,ks⟩:=a
  obtain ⟨x,rfl⟩:=List.length_eq_one_iff.1 ht.2.2.1
  have hx:=ih x (by simp [Tree.kids]) (List.all_eq_true.1 ht.2.2.2 x (by simp [Tree.kids]))
  rcases h2 with h2 | h2
  ·obtain rfl : k=11:=h2
   exact fin (AllV.m (by decide) hx) (by simp only [sz,sizeL,Tree.kids];omega)
  ·obtain rfl : k=12:=h2
   exact fin (AllV.m (by decide) (AllV.m (by decide) hx)) (by simp only [sz,sizeL,Tree.kids];omega)
 rw [if_neg h2] at ht
 by_cases h3 : a.kind=13
 ·rw [if_pos h3] at ht
  simp only [aj,ao] at ht
  obtain ⟨k,n,u,ks⟩:=a
  obtain rfl : k=13:=h3
  exact fin2 (toks_eq _) (AllV.w (by decide) (v_sig (fun k hk=>ih k hk (List.all_eq_true.1 ht.2.2.2 k hk)))) (by simp only [sz,sizeL,Tree.kids];omega)
 rw [if_neg h3] at ht
 cases ht
theorem v_param {a : Tree} (ht : a.isParam=true) : Kv a:=by
 unfold Tree.isParam at ht
 simp only [aj,ao] at ht
 obtain ⟨k,n,u,ks⟩:=a
 obtain rfl : k=8:=ht.1
 obtain ⟨x,rfl⟩:=List.length_eq_one_iff.1 ht.2.2.2.1
 exact fin (AllV.n ht.2.2.1 (v_typ x (List.all_eq_true.1 ht.2.2.2.2 x (by simp [Tree.kids])))) (by simp only [sz,sizeL,Tree.kids];omega)
theorem v_sigT {a : Tree} (ht : a.isSig=true) : Kv a:=by
 unfold Tree.isSig at ht
 simp only [aj,ao] at ht
 obtain ⟨k,n,u,ks⟩:=a
 obtain rfl : k=7:=ht.1
 refine fin2 (toks_eq _) (v_sig (u:=u) (ks:=ks) fun k hk => ?_) (by simp only [sz,Tree.kids];omega)
 have hk2 : k ∈ ks.take u.toNat++ks.drop u.toNat:=by rw [aV];exact hk
 rcases List.mem_append.1 hk2 with h | h
 ·exact v_param (List.all_eq_true.1 ht.2.2.2.2.1 k h)
 ·exact v_typ k (List.all_eq_true.1 ht.2.2.2.2.2 k h)
theorem lev_mark : ∀ s ∈ levels.flatten,s ∈ markL:=by decide
theorem ops_mark : ∀ s ∈ ops4,s ∈ markL:=by decide
structure VT (a : Tree) : Prop where
 expr : lim.expr a=true→Kv a
 stmt : lim.stmt a=true→Kv a
 block : lim.block a=true→Kv a
theorem v_expr {a : Tree} (ih : ∀ k ∈ a.kids,VT k) (hn : numB2 a=true) (h : lim.expr a=true) : Kv a:=by
 have he : exprS lim a=true:=(lim_fix a).1.symm.trans h
 obtain ⟨k,n0,u0,ks⟩:=a
 by_cases e : k=40
 ·subst e
  have hf : (bareB (.mk 40 n0 u0 ks) (decide (0 ≤ u0)) false true && kidsR [] none ks)=true:=he
  rw [aj] at hf
  exact fin (AllV.cons (.inr (.inl ⟨rfl,rfl,of_decide_eq_true (bare_f hf.1).1,num_int hn⟩)) AllV.nil) (by simp only [sz,sizeL,Tree.kids];omega)
 by_cases e : k=41
 ·subst e
  have hf : (bareB (.mk 41 n0 u0 ks) (decide ((n0.length : Int) ≤ 1024)) true false && kidsR [] none ks)=true:=he
  rw [aj] at hf
  exact fin (AllV.cons (.inr (.inr (.inl ⟨rfl,by have:=of_decide_eq_true (bare_f hf.1).1;show n0.length ≤ 1024;omega,rfl⟩))) AllV.nil) (by simp only [sz,sizeL,Tree.kids];omega)
 by_cases e : k=42
 ·subst e
  have et : toks (.mk 42 n0 u0 ks)=if u0=1 then [wd [116,114,117,101]] else [wd [102,97,108,115,101]]:=by rw [toks_eq];rfl
  by_cases hu : u0=1
  ·exact fin2 (l:=[wd [116,114,117,101]]) (by rw [et,if_pos hu]) (AllV.w (by decide) AllV.nil) (by simp only [sz,Tree.kids];omega)
  ·exact fin2 (l:=[wd [102,97,108,115,101]]) (by rw [et,if_neg hu]) (AllV.w (by decide) AllV.nil) (by simp only [sz,Tree.kids];omega)
 by_cases e : k=43
 ·subst e
  exact fin (AllV.w (by decide) AllV.nil) (by simp only [sz,sizeL,Tree.kids];omega)
 by_cases e : k=44
 ·subst e
  have hf : (ofB (.mk 44 n0 u0 ks) 44 && kidsR [] none ks)=true:=he
  rw [aj] at hf
  exact fin (AllV.n (of_f hf.1).2.2 AllV.nil) (by simp only [sz,sizeL,Tree.kids];omega)
 by_cases e : k=45
 ·subst e
  have hf : (ofB (.mk 45 n0 u0 ks) 45 && ks.all lim.expr)=true:=he
  rw [aj] at hf
  exact fin2 (toks_eq _) (AllV.m (by decide) (AllV.n (of_f hf.1).2.2 (AllV.m (by decide) ((v_comma (fun k hk=>(ih k hk).expr (List.all_eq_true.1 hf.2 k hk))).app (AllV.m (by decide) (AllV.m (by decide) AllV.nil)))))) (by simp only [sz,sizeL,Tree.kids];omega)
 by_cases e : k=46
 ·subst e
  have hf : (bareB (.mk 46 n0 u0 ks) true false false && kidsR [Tree.isType] (some lim.expr) ks)=true:=he
  rw [aj] at hf
  obtain ⟨x,r,rfl,hx,hr⟩:=kidsS hf.2
  have et : toks (.mk 46 n0 u0 (x :: r))=mk [91] :: mk [93] :: (toks x++mk [123] :: (commaJ (r.map toks)++[mk [125]])):=by rw [toks_eq];rfl
  exact fin2 et (AllV.m (by decide) (AllV.m (by decide) ((v_typ x hx).app (AllV.m (by decide) ((v_comma (fun k hk=>(ih k (by simp [Tree.kids,hk])).expr (hr k hk))).app (AllV.m (by decide) AllV.nil)))))) (by simp only [sz,sizeL,Tree.kids];omega)
 by_cases e : k=47
 ·subst e
  have hf : (bareB (.mk 47 n0 u0 ks) true false false && kidsR [Tree.isSig,lim.block] none ks)=true:=he
  rw [aj] at hf
  obtain ⟨x,y,rfl,hx,hy⟩:=kids2 hf.2
  exact fin (AllV.w (by decide) ((v_sigT hx).app ((ih y (by simp [Tree.kids])).block hy))) (by simp only [sz,sizeL,Tree.kids];omega)
 by_cases e : k=48
 ·subst e
  have hf : (ofB (.mk 48 n0 u0 ks) 48 && kidsR [lim.expr] none ks)=true:=he
  rw [aj] at hf
  obtain ⟨x,rfl,hx⟩:=kids1 hf.2
  exact fin (((ih x (by simp [Tree.kids])).expr hx).app (AllV.m (by decide) (AllV.n (of_f hf.1).2.2 AllV.nil))) (by simp only [sz,sizeL,Tree.kids];omega)
 by_cases e : k=49
 ·subst e
  have hf : (bareB (.mk 49 n0 u0 ks) true false false && kidsR [lim.expr,lim.expr] none ks)=true:=he
  rw [aj] at hf
  obtain ⟨x,y,rfl,hx,hy⟩:=kids2 hf.2
  exact fin (((ih x (by simp [Tree.kids])).expr hx).app (AllV.m (by decide) (((ih y (by simp [Tree.kids])).expr hy).app (AllV.m (by decide) AllV.nil)))) (by simp only [sz,sizeL,Tree.kids];omega)
 by_cases e : k=50
 ·subst e
  have hf : (bareB (.mk 50 n0 u0 ks) (lvl (.mk 50 n0 u0 ks)) false true && ks.all lim.expr)=true:=he
  rw [aj] at hf
  have hk : ∀ k ∈ ks,Kv k:=fun k hk=>(ih k hk).expr (List.all_eq_true.1 hf.2 k hk)
  have hl : (decide (0 ≤ u0) && (decide (u0 ≤ 3) && decide ((ks.length : Int)=1 + u0 % 2 + u0 / 2)))=true:=(bare_f hf.1).1
  simp only [aj,ao] at hl
  have hu : u0=0 ∨ u0=1 ∨ u0=2 ∨ u0=3:=by omega
  rcases hu with rfl | rfl | rfl | rfl
  ·obtain ⟨x,rfl⟩:=List.length_eq_one_iff.1 (show ks.length=1 by omega)
   exact fin (n:=8 * x.size - 1 + 3) (((hk x (by simp)).app (AllV.m (s:=[91]) (by decide) (AllV.m (s:=[58]) (by decide) (AllV.m (s:=[93]) (by decide) AllV.nil))))) (by simp only [sz,sizeL,Tree.kids];omega)
  ·obtain ⟨x,y,rfl⟩:=len2 (show ks.length=2 by omega)
   exact fin (((hk x (by simp)).app (AllV.m (s:=[91]) (by decide) ((hk y (by simp)).app (AllV.m (s:=[58]) (by decide) (AllV.m (s:=[93]) (by decide) AllV.nil)))))) (by simp only [sz,sizeL,Tree.kids];omega)
  ·obtain ⟨x,y,rfl⟩:=len2 (show ks.length=2 by omega)
   exact fin (((hk x (by simp)).app (AllV.m (s:=[91]) (by decide) (AllV.m (s:=[58]) (by decide) ((hk y (by simp)).app (AllV.m (s:=[93]) (by decide) AllV.nil)))))) (by simp only [sz,sizeL,Tree.kids];omega)
  ·obtain ⟨x,y,z,rfl⟩:=len3 (show ks.length=3 by omega)
   exact fin (((hk x (by simp)).app (AllV.m (s:=[91]) (by decide) ((hk y (by simp)).app (AllV.m (s:=[58]) (by decide) ((hk z (by simp)).app (AllV.m (s:=[93]) (by decide) AllV.nil))))))) (by simp only [sz,sizeL,Tree.kids];omega)
 by_cases e : k=51
 ·subst e
  have hf : (bareB (.mk 51 n0 u0 ks) true false false && kidsR [lim.expr] (some lim.expr) ks)=true:=he
  rw [aj] at hf
  obtain ⟨x,r,rfl,hx,hr⟩:=kidsS hf.2
  have et : toks (.mk 51 n0 u0 (x :: r))=toks x++mk [40] :: (commaJ (r.map toks)++[mk [41]]):=by rw [toks_eq];rfl
  exact fin2 et (((ih x (by simp [Tree.kids])).expr hx).app (AllV.m (by decide) ((v_comma (fun k hk=>(ih k (by simp [Tree.kids,hk])).expr (hr k hk))).app (AllV.m (by decide) AllV.nil)))) (by simp only [sz,sizeL,Tree.kids];omega)
 by_cases e : k=52
 ·subst e
  have hf : (bareB (.mk 52 n0 u0 ks) (decide (n0 ∈ ops4)) true false && kidsR [lim.expr] none ks)=true:=he
  rw [aj] at hf
  obtain ⟨x,rfl,hx⟩:=kids1 hf.2
  exact fin (AllV.m (by decide) (AllV.m (ops_mark _ (of_decide_eq_true (bare_f hf.1).1)) (((ih x (by simp [Tree.kids])).expr hx).app (AllV.m (by decide) AllV.nil)))) (by simp only [sz,sizeL,Tree.kids];omega)
 by_cases e : k=53
 ·subst e
  have hf : (bareB (.mk 53 n0 u0 ks) (decide (n0 ∈ Ps.levels.flatten)) true false && kidsR [lim.expr,lim.expr] none ks)=true:=he
  rw [aj] at hf
  obtain ⟨x,y,rfl,hx,hy⟩:=kids2 hf.2
  exact fin (AllV.m (by decide) (((ih x (by simp [Tree.kids])).expr hx).app (AllV.m (lev_mark _ (of_decide_eq_true (bare_f hf.1).1)) (((ih y (by simp [Tree.kids])).expr hy).app (AllV.m (by decide) AllV.nil))))) (by simp only [sz,sizeL,Tree.kids];omega)
 exfalso
 unfold exprS at he
 simp only [Tree.kind] at he
 simp [*] at he
theorem v_stmt {a : Tree} (ih : ∀ k ∈ a.kids,VT k) (hn : numB2 a=true) (h : lim.stmt a=true) : Kv a:=by
 have h1 : stmtS lim a=true:=(lim_fix _).2.1.symm.trans h
 rw [stmtS_head] at h1
 obtain ⟨k,n0,u0,ks⟩:=a
 rw [aj] at h1
 obtain ⟨-,h1⟩:=h1
 by_cases e : k=20
 ·subst e
  have h2 : blockS lim (.mk 20 n0 u0 ks)=true:=h1
  unfold blockS at h2
  rw [aj] at h2
  exact fin2 (toks_eq _) (AllV.m (by decide) ((v_flat (fun k hk=>(ih k hk).stmt (List.all_eq_true.1 h2.2 k hk))).app (AllV.m (by decide) AllV.nil))) (by simp only [sz,sizeL,Tree.kids];omega)
 by_cases e : k=21
 ·subst e
  have h2 : (isName n0 && (kidsR [Tree.isType] none ks || kidsR [Tree.isType,lim.expr] none ks))=true:=h1
  simp only [aj,ar] at h2
  obtain ⟨hn0,h3⟩:=h2
  rcases h3 with h3 | h3
  ·obtain ⟨t,rfl,ht⟩:=kids1 h3
   exact fin (AllV.w (by decide) (AllV.n hn0 ((v_typ t ht).app (AllV.app AllV.nil (AllV.m (by decide) AllV.nil))))) (by simp only [sz,sizeL,Tree.kids];omega)
  ·obtain ⟨t,x,rfl,ht,hx⟩:=kids2 h3
   exact fin (AllV.w (by decide) (AllV.n hn0 ((v_typ t ht).app (AllV.app (AllV.m (by decide) ((ih x (by simp [Tree.kids])).expr hx)) (AllV.m (by decide) AllV.nil))))) (by simp only [sz,sizeL,Tree.kids];omega)
 by_cases e : k=22 ∨ k=23
 ·have h3 : ∀ k ∈ ks,Kv k:=by
   intro x hx
   have hx2 : x ∈ ks.take u0.toNat++ks.drop u0.toNat:=by rw [aV];exact hx
   rcases e with rfl | rfl
   ·have h2 : asgS lim (nmS lim) (.mk 22 n0 u0 ks)=true:=h1
    unfold asgS at h2
    simp only [aj] at h2
    rcases List.mem_append.1 hx2 with hq | hq
    ·have:=List.all_eq_true.1 h2.2.2.1 x hq
     unfold nmS at this
     rw [aj] at this
     exact (ih x hx).expr this.2
    ·exact (ih x hx).expr (List.all_eq_true.1 h2.2.2.2 x hq)
   ·have h2 : asgS lim (plS lim) (.mk 23 n0 u0 ks)=true:=h1
    unfold asgS at h2
    simp only [aj] at h2
    rcases List.mem_append.1 hx2 with hq | hq
    ·have:=List.all_eq_true.1 h2.2.2.1 x hq
     unfold plS at this
     rw [aj] at this
     exact (ih x hx).expr this.2
    ·exact (ih x hx).expr (List.all_eq_true.1 h2.2.2.2 x hq)
  have hs:=sizeL_drop ks u0.toNat
  have q1:=v_comma (ks:=ks.take u0.toNat) fun x hx=>h3 x (ba hx)
  have q2:=v_comma (ks:=ks.drop u0.toNat) fun x hx=>h3 x (List.mem_of_mem_drop hx)
  rw [List.map_take] at q1
  rw [List.map_drop] at q2
  rcases e with rfl | rfl
  ·refine fin (n:=8 * sizeL (ks.take u0.toNat) + (8 * sizeL (ks.drop u0.toNat) + (0 + 1) + 1)) ?_ (by simp only [sz,Tree.kids];omega)
   rw [toks_eq]
   exact q1.app (AllV.m (s:=[58,61]) (by decide) (q2.app (AllV.m (s:=[59]) (by decide) AllV.nil)))
  ·refine fin (n:=8 * sizeL (ks.take u0.toNat) + (8 * sizeL (ks.drop u0.toNat) + (0 + 1) + 1)) ?_ (by simp only [sz,Tree.kids];omega)
   rw [toks_eq]
   exact q1.app (AllV.m (s:=[61]) (by decide) (q2.app (AllV.m (s:=[59]) (by decide) AllV.nil)))
 have e22 : ¬ k=22:=fun h=>e (.inl h)
 have e23 : ¬ k=23:=fun h=>e (.inr h)
 by_cases e : k=24
 ·subst e
  have h2 : kidsR [callS lim] none ks=true:=h1
  obtain ⟨x,rfl,hx⟩:=kids1 h2
  unfold callS at hx
  rw [aj] at hx
  exact fin (((ih x (by simp [Tree.kids])).expr hx.2).app (AllV.m (by decide) AllV.nil)) (by simp only [sz,sizeL,Tree.kids];omega)
 by_cases e : k=25
 ·subst e
  have h2 : (kidsR [lim.expr,lim.block] none ks || kidsR [lim.expr,lim.block,otherS lim] none ks)=true:=h1
  rw [ar] at h2
  rcases h2 with h3 | h3
  ·obtain ⟨c,b,rfl,hc,hb⟩:=kids2 h3
   exact fin (AllV.w (by decide) (((ih c (by simp [Tree.kids])).expr hc).app (((ih b (by simp [Tree.kids])).block hb).app AllV.nil))) (by simp only [sz,sizeL,Tree.kids];omega)
  ·obtain ⟨c,b,e,rfl,hc,hb,he⟩:=kids3 h3
   have he2 : Kv e:=by
    unfold otherS at he
    rw [ar,aj] at he
    rcases he with he | he
    ·exact (ih e (by simp [Tree.kids])).block he
    ·exact (ih e (by simp [Tree.kids])).stmt he.2
   exact fin (AllV.w (by decide) (((ih c (by simp [Tree.kids])).expr hc).app (((ih b (by simp [Tree.kids])).block hb).app (AllV.w (by decide) he2)))) (by simp only [sz,sizeL,Tree.kids];omega)
 by_cases e : k=26
 ·subst e
  have h2 : (kidsR [lim.block] none ks || kidsR [lim.expr,lim.block] none ks)=true:=h1
  rw [ar] at h2
  rcases h2 with h3 | h3
  ·obtain ⟨b,rfl,hb⟩:=kids1 h3
   exact fin (AllV.w (by decide) (AllV.app AllV.nil ((ih b (by simp [Tree.kids])).block hb))) (by simp only [sz,sizeL,Tree.kids];omega)
  ·obtain ⟨c,b,rfl,hc,hb⟩:=kids2 h3
   exact fin (AllV.w (by decide) (((ih c (by simp [Tree.kids])).expr hc).app ((ih b (by simp [Tree.kids])).block hb))) (by simp only [sz,sizeL,Tree.kids];omega)
 by_cases e : k=27
 ·subst e
  have h2 : ks.all lim.expr=true:=h1
  exact fin2 (toks_eq _) (AllV.w (by decide) ((v_comma (fun k hk=>(ih k hk).expr (List.all_eq_true.1 h2 k hk))).app (AllV.m (by decide) AllV.nil))) (by simp only [sz,sizeL,Tree.kids];omega)
 by_cases e28 : k=28
 ·subst e28
  exact fin (AllV.w (by decide) (AllV.m (by decide) AllV.nil)) (by simp only [sz,sizeL,Tree.kids];omega)
 by_cases e29 : k=29
 ·subst e29
  exact fin (AllV.w (by decide) (AllV.m (by decide) AllV.nil)) (by simp only [sz,sizeL,Tree.kids];omega)
 exfalso
 simp only [Tree.kind] at h1
 simp [*] at h1
theorem v_all (a : Tree) : numB2 a=true→VT a:=by
 induction a using Tree.ind with
 | h a ih =>
 intro hn
 have ih' : ∀ k ∈ a.kids,VT k:=fun k hk=>ih k hk (num_kid hn hk)
 refine ⟨v_expr ih' hn,v_stmt ih' hn,fun h => ?_⟩
 obtain ⟨h1,h2,h3,h4⟩:=block_f h
 obtain ⟨k,n,u,ks⟩:=a
 obtain rfl : k=20:=h1
 exact fin2 (toks_eq _) (AllV.m (by decide) ((v_flat (fun k hk=>(ih' k hk).stmt (List.all_eq_true.1 h4 k hk))).app (AllV.m (by decide) AllV.nil))) (by simp only [sz,sizeL,Tree.kids];omega)
theorem v_decl {a : Tree} (hn : numB2 a=true) (h : declS lim a=true) : Kv a:=by
 have ih : ∀ k ∈ a.kids,VT k:=fun k hk=>v_all k (num_kid hn hk)
 obtain ⟨k,n0,u0,ks⟩:=a
 by_cases e : k=2
 ·subst e
  have hf : (ofB (.mk 2 n0 u0 ks) 2 && ks.all (fieldS Tree.isType))=true:=h
  rw [aj] at hf
  refine fin2 (toks_eq _) (AllV.w (by decide) (AllV.n (of_f hf.1).2.2 (AllV.w (by decide) (AllV.m (by decide) ((v_semis (fun x hx => ?_)).app (AllV.m (by decide) AllV.nil)))))) (by simp only [sz,Tree.kids];omega)
  have hx':=List.all_eq_true.1 hf.2 x hx
  obtain ⟨s,t,rfl,ht⟩:=field_f hx'
  unfold fieldS at hx'
  rw [aj] at hx'
  exact fin (AllV.n (of_f hx'.1).2.2 (v_typ t ht)) (by simp only [sz,sizeL,Tree.kids];omega)
 by_cases e : k=3
 ·subst e
  have hf : (ofB (.mk 3 n0 u0 ks) 3 && ks.all (fieldS Tree.isSig))=true:=h
  rw [aj] at hf
  refine fin2 (toks_eq _) (AllV.w (by decide) (AllV.n (of_f hf.1).2.2 (AllV.w (by decide) (AllV.m (by decide) ((v_semis (fun x hx => ?_)).app (AllV.m (by decide) AllV.nil)))))) (by simp only [sz,Tree.kids];omega)
  have hx':=List.all_eq_true.1 hf.2 x hx
  obtain ⟨s,t,rfl,ht⟩:=field_f hx'
  unfold fieldS at hx'
  rw [aj] at hx'
  exact fin (AllV.n (of_f hx'.1).2.2 (v_sigT ht)) (by simp only [sz,sizeL,Tree.kids];omega)
 by_cases e : k=4
 ·subst e
  have hf : (ofB (.mk 4 n0 u0 ks) 4 && kidsR [Tree.isSig,lim.block] none ks)=true:=h
  rw [aj] at hf
  obtain ⟨s,b,rfl,hs,hb⟩:=kids2 hf.2
  exact fin (AllV.w (by decide) (AllV.n (of_f hf.1).2.2 ((v_sigT hs).app ((ih b (by simp [Tree.kids])).block hb)))) (by simp only [sz,sizeL,Tree.kids];omega)
 by_cases e : k=5
 ·subst e
  have hf : (ofB (.mk 5 n0 u0 ks) 5 && kidsR [recvS,Tree.isSig,lim.block] none ks)=true:=h
  rw [aj] at hf
  obtain ⟨r,s,b,rfl,hr,hs,hb⟩:=kids3 hf.2
  have hp : r.isParam=true:=by
   unfold recvS at hr
   rw [aj] at hr
   exact hr.1
  exact fin (AllV.w (by decide) (AllV.m (by decide) ((v_param hp).app (AllV.m (by decide) (AllV.n (of_f hf.1).2.2 ((v_sigT hs).app ((ih b (by simp [Tree.kids])).block hb))))))) (by simp only [sz,sizeL,Tree.kids];omega)
 exfalso
 unfold declS at h
 simp only [Tree.kind] at h
 simp [*] at h
theorem v_prog {ds : List Tree} (hn : numB2 (.mk 1 [] 0 ds)=true) (h : soundB (.mk 1 [] 0 ds)=true) : AllV (8 * sizeL ds) (ds.map toks).flatten:=by
 obtain ⟨ds',e,q1,q2,q3⟩:=soundB_f h
 injection e with _ _ _ e
 subst e
 exact v_flat fun d hd=>v_decl (num_kid hn hd) (q3 d hd)
end Go.Pt


/- PtEach -/
namespace Go.Sep
open Go.Proofs Go.Pt
attribute [local irreducible] TC TO OT TCallX TCall DO DOt thenQ blockQ retQ At
theorem pq3 {α : Type} {a0 a1 a2 : α} {l : List α} : (a0 :: a1 :: a2 :: l).Perm (a1 :: a2 :: a0 :: l):=ah (ag _ _ _) (ai _ (ag _ _ _))
theorem comma_snoc : ∀ (l : List (List Ps.Tk)) (t : List Ps.Tk),l ≠ []→commaJ (l++[t])=commaJ l++Pt.mk [44] :: t
 | [a],t,_=>rfl
 | a :: b :: l,t,_=>by
  have ih:=comma_snoc (b :: l) t (by simp)
  show a++Pt.mk _ :: commaJ ((b :: l)++[t])=(a++Pt.mk _ :: commaJ (b :: l))++_
  rw [ih,am];rfl
theorem comma_app : ∀ (l r : List (List Ps.Tk)),l ≠ []→r ≠ []→commaJ (l++r)=commaJ l++Pt.mk [44] :: commaJ r
 | [a],b :: r,_,_=>rfl
 | a :: b :: l,r,_,hr=>by
  have ih:=comma_app (b :: l) r (by simp) hr
  show a++Pt.mk _ :: commaJ ((b :: l)++r)=(a++Pt.mk _ :: commaJ (b :: l))++_
  rw [ih,am];rfl
structure Cbk (mb : Mem) (bd : Nat) (fn : FuncId) (first cap : List Value) (ks : List Tree) : Prop where
 goes : Goes Tryz.prog fn
 run : ∀ k ∈ ks, ∀ (m : Mem) (L : List Item) (q : Option Addr) (s : Sl) (x : Str) (h : HTree),mb ≤ m→BOk m bd q s x→TreeRep m h k→x.length + (putT (Pt.toks k)).length ≤ 140737488355328 →
  TCall Tryz.prog fn ⟨first++treeV h :: cap⟩ m (bdL bd q s L) (Wr bd m L (x++putT (Pt.toks k)))
theorem putT_cons (t : Ps.Tk) (l : List Ps.Tk) : putT (t :: l)=putS (Pt.txt t)++putT l:=rfl
theorem part_le (l : List Ps.Tk) (r : List Ps.Tk) (t : List Ps.Tk) (h : l++r=t) : (putT l).length ≤ (putT t).length:=by rw [← h,cv,aa];omega
theorem each_law {mb : Mem} {bd : Nat} {fn : FuncId} {first cap : List Value} {ks : List Tree} (hC : Cbk mb bd fn first cap ks) (m : Mem) (L : List Item) (hmb : mb ≤ m) (q : Option Addr) (s : Sl) (x : Str) (hB : BOk m bd q s x) (sl : Sl) (hs : SlRep rTree m sl ks)
  (hl : x.length + (putT (commaJ (ks.map Pt.toks))).length ≤ 140737488355328) :
  TCall Tryz.prog 88 ⟨[bdV bd,sl.v, .func (.func fn) ⟨first⟩ ⟨cap⟩]⟩ m (bdL bd q s L) (Wr bd m L (x++putT (commaJ (ks.map Pt.toks)))):=by
 have hlen:=hs.len
 have hsm:=hs.small rfl
 unfold TCall
 refine bw Tryz.func88 rfl 24 rfl ?_
 refine uA ?_
 refine br (ι:=PS) [0,2,8,9] rfl (fun g=>[(10, .int .i64 (g.i : Int))]) (fun g=>g.m) (fun g=>bdL bd g.q g.s L) (fun g=>m ≤ g.m∧g.i ≤ ks.length∧BOk g.m bd g.q g.s (x++putT (commaJ ((ks.take g.i).map Pt.toks)))) (fun g=>ks.length - g.i) ⟨m,q,s,0⟩ uH rfl uS ⟨bm _,aU _,hB.cast (by simp [putT,putL,commaJ])⟩ ?_
 rintro ⟨m1,p1,s1,i⟩ ⟨hm1,hi,hB1⟩
 simp only at hm1 hi hB1
 refine uA ?_
 refine bq rfl (fun h1 => ?_) (fun h1 => ?_)
 ·simp only at h1
  have hlt : i < ks.length:=by omega
  have hxi : ks[i]? = some ks[i]:=ak hlt
  have hs1:=hs.mono hm1
  refine uA ?_
  refine qs rfl (bO tab rTree i hs1 rfl rfl rfl rfl rfl (by first | rfl | omega | (simp only;omega)) rfl hxi ?_)
  rintro b4 i4 h4 hr4 hA4
  (first | refine qs rfl (OT.loadA tab hA4 rfl rfl rfl rfl rfl ?_) | refine oL tab hA4 ?_)
  refine uA ?_
  refine oA tab (fun b5 => ?_)
  refine uA ?_
  refine uT ?_
  refine bD pq3 ?_
  have hr5:=rTree_iff.1 hr4
  have hpart : i + 1 < ks.length→commaJ ((ks.take (i + 1)).map Pt.toks)++Pt.mk [44] :: commaJ ((ks.drop (i + 1)).map Pt.toks)=commaJ (ks.map Pt.toks):=fun h=>by
   rw [← comma_app _ _ (by simp;exact List.ne_nil_of_length_pos (by omega)) (by simp;omega),← aZ,aV]
  have hbnd : x.length + (putT (commaJ ((ks.take (i + 1)).map Pt.toks))).length ≤ 140737488355328:=by
   by_cases h : i + 1 < ks.length
   ·have:=part_le _ _ _ (hpart h);omega
   ·rw [aT (by omega)];exact hl
  refine uA ?_
  refine bq rfl (fun h2 => ?_) (fun h2 => ?_)
  ·simp only at h2
   have htk : commaJ ((ks.take (i + 1)).map Pt.toks)=commaJ ((ks.take i).map Pt.toks)++([Pt.mk [44]]++Pt.toks ks[i]):=by
    rw [aX hlt,aZ]
    exact comma_snoc _ _ (by simp;exact ⟨by omega,fun e=>by rw [e] at hlt;simp at hlt⟩)
   rw [htk,cv,cv,aa,aa] at hbnd
   refine uA ?_
   refine qs rfl (cq tab rStr (hs:=[[44]]) (l:=[[44]]) ⟨rfl,trivial⟩ rfl rfl rfl rfl rfl (by decide) (fun sl2 ma hma hsl2 _ _ => ?_))
   have hB2:=hB1.mono hma
   refine uA ?_
   refine oC ct ((cw _ _ bd p1 s1 _ hB2 sl2 [Pt.mk [44]] hsl2 (by rw [aa];omega)).x ?_);
   rintro _ m2 _ ⟨hm2,s2,p2,rfl,hB3⟩
   have hm3 : m1 ≤ m2:=bn hma hm2
   refine uA ?_
   refine uM ?_
   refine uA ?_
   refine qs rfl (bM (all:=first++treeV h4 :: cap) rfl rfl rfl rfl rfl (by rw [fl_eq];rfl) hC.goes ((hC.run ks[i] (aB hlt) _ _ p2 s2 _ h4 (bn hmb (bn hm1 hm3)) hB3 (hr5.mono hm3) (by rw [aa,aa];omega)).x ?_))
   rintro _ m4 _ ⟨hm4,s4,p4,rfl,hB4⟩
   refine uA ?_
   refine qs rfl (bK (r':=((i + 1 : Nat) : Int)) rfl rfl rfl rfl rfl rfl rfl (by omega) ?_)
   refine uA ?_
   refine ⟨⟨m4,p4,s4,i + 1⟩,uH,uH,rfl,rfl,uS,⟨bn hm1 (bn hm3 hm4),by simp only;omega,hB4.cast ?_⟩,by simp only;omega⟩
   rw [htk,cv,cv]
   simp only [am]
  ·simp only at h2
   have hi0 : i=0:=by omega
   subst hi0
   have htk : commaJ ((ks.take (0 + 1)).map Pt.toks)=Pt.toks ks[0]:=by
    rw [aX hlt];rfl
   rw [htk] at hbnd
   refine uA ?_
   refine uM ?_
   refine uA ?_
   refine qs rfl (bM (all:=first++treeV h4 :: cap) rfl rfl rfl rfl rfl (by rw [fl_eq];rfl) hC.goes ((hC.run ks[0] (aB hlt) _ _ p1 s1 _ h4 (bn hmb hm1) hB1 hr5 (by simp [commaJ,putT_nil];omega)).x ?_))
   rintro _ m4 _ ⟨hm4,s4,p4,rfl,hB4⟩
   refine uA ?_
   refine qs rfl (bK (r':=((0 + 1 : Nat) : Int)) rfl rfl rfl rfl rfl rfl rfl (by omega) ?_)
   refine uA ?_
   refine ⟨⟨m4,p4,s4,0 + 1⟩,uH,uH,rfl,rfl,uS,⟨bn hm1 hm4,by simp only;omega,hB4.cast ?_⟩,by simp only;omega⟩
   rw [htk]
   simp [commaJ,putT_nil]
 ·simp only at h1
  refine uA ?_
  refine bv rfl uS ⟨hm1,s1,p1,rfl,hB1.cast ?_⟩
  rw [aT (by omega)]
end Go.Sep


/- PtTypW -/
namespace Go.Sep
open Go.Proofs
attribute [local irreducible] TC TO OT TCallX TCall DO DOt thenQ blockQ retQ At
structure TbOk (Tb : Mem→Prop) : Prop where
 mono : ∀ {m m' : Mem},Tb m→m ≤ m' → Tb m'
section
variable {Tb : Mem→Prop}
def Pw (Tb : Mem→Prop) (fn : FuncId) (a : Tree) : Prop := ∀ (m : Mem) (L : List Item) (bd : Nat) (q : Option Addr) (s : Sl) (x0 : Str) (h : HTree),Tb m→BOk m bd q s x0→TreeRep m h a→x0.length + (putT (Pt.toks a)).length ≤ 140737488355328 →
 TCall Tryz.prog fn ⟨[bdV bd,treeV h]⟩ m (bdL bd q s L) (Wr bd m L (x0++putT (Pt.toks a)))
theorem Cbk.of (hTb : TbOk Tb) {mb : Mem} {bd : Nat} {fn : FuncId} {ks : List Tree} (h : ∀ k ∈ ks,Pw Tb fn k) (hg : Goes Tryz.prog fn) (hT : Tb mb) : Cbk mb bd fn [bdV bd] [] ks:=⟨hg,fun k hk m L q s x h' hmb hB hr hl=>h k hk m L bd q s x h' (hTb.mono hT hmb) hB hr hl⟩
structure TbM (Tb : Mem→Prop) (m : Mem) : Prop where
 mono : ∀ {m' : Mem},m ≤ m' → Tb m'
theorem results_w (hTb : TbOk Tb) (m : Mem) (L : List Item) (bd : Nat) (q : Option Addr) (s : Sl) (x0 : Str) (rs : List Tree) (sl0 : Sl) (hT : Tb m) (hB : BOk m bd q s x0) (h4 : SlRep rTree m sl0 rs) (hp : ∀ r ∈ rs,Pw Tb 65 r)
  (hl : x0.length + (putT (Pt.resJ (rs.map Pt.toks))).length ≤ 140737488355328) :
  TCall Tryz.prog 117 ⟨[bdV bd,sl0.v]⟩ m (bdL bd q s L) (Wr bd m L (x0++putT (Pt.resJ (rs.map Pt.toks)))):=by
 have hlen:=h4.len
 have hsm:=h4.small rfl
 have hm:=bm m
 have hT : ∀ {m' : Mem},m ≤ m' → Tb m':=fun h=>hTb.mono hT h
 unfold TCall
 refine bw Tryz.func117 rfl 26 rfl ?_
 match rs,hp,hl,h4,hlen,hsm with
 | [],_,hl,h4,hlen,_ =>
  obtain ⟨sa,sn,sc⟩:=sl0
  obtain rfl : sn=0:=hlen
  refine uA ?_
  exact bv rfl uS ⟨hm,s,q,rfl,hB.cast (by simp [Pt.resJ,Pt.commaJ,putT,putL])⟩
 | [r],hp,hl,h4,hlen,_ =>
  obtain ⟨sa,sn,sc⟩:=sl0
  obtain rfl : sn=1:=hlen
  refine uA ?_
  have h4c:=h4.mono hm
  have hx0 : [r][0]? = some r:=rfl
  refine qs rfl (bO tab rTree 0 h4c rfl rfl rfl rfl rfl (by first | rfl | omega | (simp only;omega)) rfl hx0 ?_)
  rintro b7 i7 h7 hr7 hA7
  (refine oL tab hA7 ?_)
  refine uA ?_
  refine oC goes65 ((hp r (by simp) _ _ bd q s _ h7 (hT hm) hB (rTree_iff.1 hr7) hl).x ?_);
  rintro _ m1 _ ⟨hm1,s,q,rfl,hB⟩
  refine uA ?_
  exact bv rfl uS ⟨bn hm hm1,s,q,rfl,hB⟩
 | r :: r2 :: rs,hp,hl,h4,hlen,hsm =>
  have et : Pt.resJ ((r :: r2 :: rs).map Pt.toks)=[Pt.mk [40]]++(Pt.commaJ ((r :: r2 :: rs).map Pt.toks)++[Pt.mk [41]]):=by
   show (if _ then _ else _)=_
   rw [if_neg (by simp)];rfl
  rw [et] at hl
  simp only [cv,aa] at hl
  refine uA ?_
  refine bq rfl (fun h1 => ?_) (fun h1 => ?_)
  ·simp only [ab] at h1 hlen;omega
  refine uA ?_
  refine bq rfl (fun h2 => ?_) (fun h2 => ?_)
  ·refine uA ?_
   refine qs rfl (cq tab rStr (hs:=[[40]]) (l:=[[40]]) ⟨rfl,trivial⟩ rfl rfl rfl rfl rfl (by decide) (fun sl ma hma hsl _ _ => ?_))
   replace hm:=bn hm hma
   replace hB:=hB.mono hma
   refine uA ?_
   refine oC ct ((cw _ _ bd q s _ hB sl [Pt.mk [40]] hsl (by first | omega | (simp only [aa];omega))).x ?_);
   rintro _ m1 _ ⟨hm1,s,q,rfl,hB⟩
   replace hm:=bn hm hm1
   clear hm1 hma hsl
   refine uA ?_
   have h4c:=h4.mono hm
   refine oC goes88 ((each_law (Cbk.of hTb hp goes65 (hT hm)) _ _ (bm _) q s _ hB sl0 h4c (by first | omega | (simp only [aa];omega))).x ?_);
   rintro _ m1 _ ⟨hm1,s,q,rfl,hB⟩
   replace hm:=bn hm hm1
   refine uA ?_
   refine qs rfl (cq tab rStr (hs:=[[41]]) (l:=[[41]]) ⟨rfl,trivial⟩ rfl rfl rfl rfl rfl (by decide) (fun sl ma hma hsl _ _ => ?_))
   replace hm:=bn hm hma
   replace hB:=hB.mono hma
   refine uA ?_
   refine oC ct ((cw _ _ bd q s _ hB sl [Pt.mk [41]] hsl (by first | omega | (simp only [aa];omega))).x ?_);
   rintro _ m1 _ ⟨hm1,s,q,rfl,hB⟩
   replace hm:=bn hm hm1
   clear hm1 hma hsl
   refine uA ?_
   refine bv rfl uS ⟨hm,s,q,rfl,hB.cast ?_⟩
   rw [et];try simp only [cv,am]
  ·simp only [ab] at h2 hlen;omega
theorem typ_w (hTb : TbOk Tb) (a : Tree) : a.isType=true→Pw Tb 65 a:=by
 induction a using Tree.ind with
 | h a ih =>
 intro ht m L bd q s x0 h hT hB hr hl
 have hT0:=hT
 rw [isType_eq] at ht
 obtain ⟨h1,h2,h3,h4⟩:=hr
 have hlen:=h4.len
 have hsm:=h4.small rfl
 have hm:=bm m
 obtain ⟨k,n0,u0,ks⟩:=a
 obtain ⟨hk,hn,hu,hks⟩:=h
 simp only [Tree.kind,Tree.name,Tree.num,Tree.kids] at h1 h2 h3 h4 hlen hsm ih
 subst h1 h2 h3
 have hT : TbM Tb m:=⟨fun h=>hTb.mono hT0 h⟩
 by_cases e : hk=10
 ·subst e
  have et : Pt.toks (.mk 10 hn hu ks)=[Pt.nm hn]:=by rw [Pt.toks_eq];rfl
  rw [et] at hl
  try simp only [cv,aa] at hl
  unfold TCall
  refine bw Tryz.func65 rfl 57 rfl ?_
  refine uA ?_
  refine oB (fun b => ?_)
  refine bD pq3 ?_
  refine uL ?_
  refine qs rfl (cq tab rStr (hs:=[hn]) (l:=[hn]) ⟨rfl,trivial⟩ rfl rfl rfl rfl rfl (by decide) (fun sl ma hma hsl _ _ => ?_))
  replace hm:=bn hm hma
  replace hB:=hB.mono hma
  refine uA ?_
  refine oC ct ((cw _ _ bd q s _ hB sl [Pt.nm hn] hsl (by first | omega | (simp only [aa];omega))).x ?_);
  rintro _ m1 _ ⟨hm1,s,q,rfl,hB⟩
  replace hm:=bn hm hm1
  clear hm1 hma hsl
  refine uA ?_
  refine bv rfl uS ⟨hm,s,q,rfl,hB.cast ?_⟩
  rw [et];try simp only [cv,am]
 rw [if_neg (show ¬ (Tree.mk hk hn hu ks).kind=10 from e)] at ht
 by_cases e2 : hk=11 ∨ hk=12
 ·rw [if_pos (show (Tree.mk hk hn hu ks).kind=11 ∨ (Tree.mk hk hn hu ks).kind=12 from e2)] at ht
  simp only [aj,ao] at ht
  obtain ⟨x,rfl⟩:=List.length_eq_one_iff.1 ht.2.2.1
  have hx:=ih x (by simp) (List.all_eq_true.1 ht.2.2.2 x (by simp [Tree.kids]))
  have hxi : [x][0]? = some x:=rfl
  rcases e2 with rfl | rfl
  ·skip
   have et : Pt.toks (.mk 11 hn hu [x])=[Pt.mk [42]]++Pt.toks x:=by rw [Pt.toks_eq];rfl
   rw [et] at hl
   try simp only [cv,aa] at hl
   unfold TCall
   refine bw Tryz.func65 rfl 57 rfl ?_
   refine uA ?_
   refine oB (fun b => ?_)
   refine bD pq3 ?_
   refine uL ?_
   refine qs rfl (cq tab rStr (hs:=[[42]]) (l:=[[42]]) ⟨rfl,trivial⟩ rfl rfl rfl rfl rfl (by decide) (fun sl ma hma hsl _ _ => ?_))
   replace hm:=bn hm hma
   replace hB:=hB.mono hma
   refine uA ?_
   refine oC ct ((cw _ _ bd q s _ hB sl [Pt.mk [42]] hsl (by first | omega | (simp only [aa];omega))).x ?_);
   rintro _ m1 _ ⟨hm1,s,q,rfl,hB⟩
   replace hm:=bn hm hm1
   clear hm1 hma hsl
   refine uL ?_
   have h4c:=h4.mono hm
   refine qs rfl (bO tab rTree 0 h4c rfl rfl rfl rfl rfl (by first | rfl | omega | (simp only;omega)) rfl hxi ?_)
   rintro b7 i7 h7 hr7 hA7
   (refine oL tab hA7 ?_)
   refine uA ?_
   refine oC goes65 ((hx _ _ bd q s _ h7 (hT.mono hm) hB (rTree_iff.1 hr7) (by first | omega | (simp only [aa];omega))).x ?_);
   rintro _ m1 _ ⟨hm1,s,q,rfl,hB⟩
   replace hm:=bn hm hm1
   clear hm1 h4c hr7 hA7
   refine uA ?_
   refine bv rfl uS ⟨hm,s,q,rfl,hB.cast ?_⟩
   rw [et];try simp only [cv,am]
  ·skip
   have et : Pt.toks (.mk 12 hn hu [x])=[Pt.mk [91],Pt.mk [93]]++Pt.toks x:=by rw [Pt.toks_eq];rfl
   rw [et] at hl
   try simp only [cv,aa] at hl
   unfold TCall
   refine bw Tryz.func65 rfl 57 rfl ?_
   refine uA ?_
   refine oB (fun b => ?_)
   refine bD pq3 ?_
   refine uL ?_
   refine qs rfl (cq tab rStr (hs:=[[91],[93]]) (l:=[[91],[93]]) ⟨rfl,rfl,trivial⟩ rfl rfl rfl rfl rfl (by decide) (fun sl ma hma hsl _ _ => ?_))
   replace hm:=bn hm hma
   replace hB:=hB.mono hma
   refine uA ?_
   refine oC ct ((cw _ _ bd q s _ hB sl [Pt.mk [91],Pt.mk [93]] hsl (by first | omega | (simp only [aa];omega))).x ?_);
   rintro _ m1 _ ⟨hm1,s,q,rfl,hB⟩
   replace hm:=bn hm hm1
   clear hm1 hma hsl
   refine uL ?_
   have h4c:=h4.mono hm
   refine qs rfl (bO tab rTree 0 h4c rfl rfl rfl rfl rfl (by first | rfl | omega | (simp only;omega)) rfl hxi ?_)
   rintro b7 i7 h7 hr7 hA7
   (refine oL tab hA7 ?_)
   refine uA ?_
   refine oC goes65 ((hx _ _ bd q s _ h7 (hT.mono hm) hB (rTree_iff.1 hr7) (by first | omega | (simp only [aa];omega))).x ?_);
   rintro _ m1 _ ⟨hm1,s,q,rfl,hB⟩
   replace hm:=bn hm hm1
   clear hm1 h4c hr7 hA7
   refine uA ?_
   refine bv rfl uS ⟨hm,s,q,rfl,hB.cast ?_⟩
   rw [et];try simp only [cv,am]
 rw [if_neg (show ¬ ((Tree.mk hk hn hu ks).kind=11 ∨ (Tree.mk hk hn hu ks).kind=12) from e2)] at ht
 by_cases e3 : hk=13
 ·rw [if_pos (show (Tree.mk hk hn hu ks).kind=13 from e3)] at ht
  simp only [aj,ao] at ht
  have hu0 : 0 ≤ hu:=ht.2.1
  have hu1 : hu ≤ (ks.length : Int):=ht.2.2.1
  subst e3
  have hp : ∀ r ∈ ks,Pw Tb 65 r:=fun r hr=>ih r hr (List.all_eq_true.1 ht.2.2.2 r hr)
  have et : Pt.toks (.mk 13 hn hu ks)=[Pt.wd [102,117,110,99],Pt.mk [40]]++(Pt.commaJ ((ks.take hu.toNat).map Pt.toks)++([Pt.mk [41]]++Pt.resJ ((ks.drop hu.toNat).map Pt.toks))):=by rw [Pt.toks_eq,List.map_take,List.map_drop];rfl
  rw [et] at hl
  try simp only [cv,aa] at hl
  unfold TCall
  refine bw Tryz.func65 rfl 57 rfl ?_
  refine uA ?_
  refine oB (fun b => ?_)
  refine bD pq3 ?_
  refine uL ?_
  refine qs rfl (cq tab rStr (hs:=[[102,117,110,99],[40]]) (l:=[[102,117,110,99],[40]]) ⟨rfl,rfl,trivial⟩ rfl rfl rfl rfl rfl (by decide) (fun sl ma hma hsl _ _ => ?_))
  replace hm:=bn hm hma
  replace hB:=hB.mono hma
  refine uA ?_
  refine oC ct ((cw _ _ bd q s _ hB sl [Pt.wd [102,117,110,99],Pt.mk [40]] hsl (by first | omega | (simp only [aa];omega))).x ?_);
  rintro _ m1 _ ⟨hm1,s,q,rfl,hB⟩
  replace hm:=bn hm hm1
  clear hm1 hma hsl
  refine uL ?_
  have h4c:=h4.mono hm
  refine qs rfl (OT.cut tab rTree 0 hu.toNat h4c rfl rfl rfl rfl rfl rfl rfl (.inl ⟨rfl,rfl⟩) (.inr (by rw [show ((hu.toNat : Nat) : Int)=hu by omega])) (aU _) (by omega) (fun slp hslp => ?_))
  rw [bk] at hslp
  refine uA ?_
  refine oC goes88 ((each_law (Cbk.of hTb (fun r hr=>hp r (ba hr)) goes65 (hT.mono hm)) _ _ (bm _) q s _ hB slp hslp (by first | omega | (simp only [aa];omega))).x ?_);
  rintro _ m1 _ ⟨hm1,s,q,rfl,hB⟩
  replace hm:=bn hm hm1
  refine uA ?_
  refine qs rfl (cq tab rStr (hs:=[[41]]) (l:=[[41]]) ⟨rfl,trivial⟩ rfl rfl rfl rfl rfl (by decide) (fun sl ma hma hsl _ _ => ?_))
  replace hm:=bn hm hma
  replace hB:=hB.mono hma
  refine uA ?_
  refine oC ct ((cw _ _ bd q s _ hB sl [Pt.mk [41]] hsl (by first | omega | (simp only [aa];omega))).x ?_);
  rintro _ m1 _ ⟨hm1,s,q,rfl,hB⟩
  replace hm:=bn hm hm1
  clear hm1 hma hsl
  refine uL ?_
  have h4d:=h4.mono hm
  refine qs rfl (OT.cut tab rTree hu.toNat hks.len h4d rfl rfl rfl rfl rfl rfl rfl (.inr (by rw [show ((hu.toNat : Nat) : Int)=hu by omega])) (.inl ⟨rfl,rfl⟩) (by omega) (by omega) (fun slr hslr => ?_))
  rw [aT (by omega)] at hslr
  refine uA ?_
  refine oC goes117 ((results_w hTb _ _ bd q s _ _ slr (hT.mono hm) hB hslr (fun r hr=>hp r (List.mem_of_mem_drop hr)) (by first | omega | (simp only [aa];omega))).x ?_);
  rintro _ m1 _ ⟨hm1,s,q,rfl,hB⟩
  replace hm:=bn hm hm1
  refine uA ?_
  refine bv rfl uS ⟨hm,s,q,rfl,hB.cast ?_⟩
  rw [et];try simp only [cv,am]
 rw [if_neg (show ¬ (Tree.mk hk hn hu ks).kind=13 from e3)] at ht
 cases ht
theorem param_w (hTb : TbOk Tb) (a : Tree) (ht : a.isParam=true) (m : Mem) (L : List Item) (bd bp : Nat) (q : Option Addr) (s : Sl) (x0 : Str) (h : HTree) (hA : At m bp 0 [bdV bd]) (hT0 : Tb m) (hB : BOk m bd q s x0) (hr : TreeRep m h a) (hl : x0.length + (putT (Pt.toks a)).length ≤ 140737488355328) :
  TCall Tryz.prog 118 ⟨[treeV h, .pointer (some ⟨bp,0,none⟩)]⟩ m (bdL bd q s L) (Wr bd m L (x0++putT (Pt.toks a))):=by
 unfold Tree.isParam at ht
 simp only [aj,ao] at ht
 obtain ⟨h1,h2,h3,h4⟩:=hr
 have hlen:=h4.len
 have hsm:=h4.small rfl
 have hm:=bm m
 obtain ⟨k,n0,u0,ks⟩:=a
 obtain ⟨hk,hn,hu,hks⟩:=h
 simp only [Tree.kind,Tree.name,Tree.num,Tree.kids] at h1 h2 h3 h4 ht hlen hsm
 subst h1 h2 h3
 have hT : TbM Tb m:=⟨fun h=>hTb.mono hT0 h⟩
 obtain ⟨rfl, -, -,hone,hall⟩:=ht
 obtain ⟨x,rfl⟩:=List.length_eq_one_iff.1 hone
 have hx:=typ_w hTb x (List.all_eq_true.1 hall x (by simp))
 have hxi : [x][0]? = some x:=rfl
 have et : Pt.toks (.mk 8 hn hu [x])=[Pt.nm hn]++Pt.toks x:=by rw [Pt.toks_eq];rfl
 rw [et] at hl
 simp only [cv,aa] at hl
 unfold TCall
 refine bw Tryz.func118 rfl 14 rfl ?_
 refine uA ?_
 refine oB (fun b => ?_)
 refine bD pq3 ?_
 refine uA ?_
 (refine oL tab hA ?_)
 refine uL ?_
 refine qs rfl (cq tab rStr (hs:=[hn]) (l:=[hn]) ⟨rfl,trivial⟩ rfl rfl rfl rfl rfl (by decide) (fun sl ma hma hsl _ _ => ?_))
 replace hm:=bn hm hma
 replace hB:=hB.mono hma
 refine uA ?_
 refine oC ct ((cw _ _ bd q s _ hB sl [Pt.nm hn] hsl (by first | omega | (simp only [aa];omega))).x ?_);
 rintro _ m1 _ ⟨hm1,s,q,rfl,hB⟩
 replace hm:=bn hm hm1
 clear hm1 hma hsl
 refine uA ?_
 have hA2:=hA.mono hm
 have h4c:=h4.mono hm
 refine bQ [] cr 6 rfl [.cells b 0 (treeC ⟨8,hn,hu,hks⟩)] (bdL bd q s L) (List.Perm.symm pq3) ?_
 (refine bX (k:=0) tab 0 hA2 uC uK uK rfl rfl rfl rfl rfl rfl rfl ?_)
 refine bV tab uC uK [1] uK rfl ?_
 (refine bW tab 2 0 uC uK uK rfl rfl rfl rfl rfl rfl rfl rfl ?_)
 refine bY tab rTree 3 0 h4c uC uK uK rfl rfl rfl rfl rfl rfl rfl (by first | rfl | omega) rfl hxi ?_
 rintro b7 i7 h7 hr7 hA7
 (refine bX (k:=0) tab 4 hA7 uC uK uK rfl rfl rfl rfl rfl rfl rfl ?_)
 refine bZ 5 rfl rfl uK rfl ?_
 refine ce pq3 (bM rfl rfl rfl rfl rfl rfl goes65 ((hx _ _ bd q s _ h7 (hT.mono hm) hB (rTree_iff.1 hr7) (by first | omega | (simp only [aa];omega))).x ?_));rintro _ m1 _ ⟨hm1,s,q,rfl,hB⟩;refine ⟨hm1,bdL bd q s L,List.Perm.symm pq3, ?_⟩
 (refine cb uK ?_)
 rotate_left 1
 refine uA ?_
 refine bv rfl uS ⟨bn hm hm1,s,q,rfl,hB.cast ?_⟩
 rw [et];simp only [cv,am]
theorem sig_w (hTb : TbOk Tb) (a : Tree) (ht : a.isSig=true) : Pw Tb 66 a:=by
 intro m L bd q s x0 h hT0 hB hr hl
 unfold Tree.isSig at ht
 simp only [aj,ao] at ht
 obtain ⟨h1,h2,h3,h4⟩:=hr
 have hlen:=h4.len
 have hsm:=h4.small rfl
 have hm:=bm m
 obtain ⟨k,n0,u0,ks⟩:=a
 obtain ⟨hk,hn,hu,hks⟩:=h
 simp only [Tree.kind,Tree.name,Tree.num,Tree.kids] at h1 h2 h3 h4 ht hlen hsm
 subst h1 h2 h3
 have hT : TbM Tb m:=⟨fun h=>hTb.mono hT0 h⟩
 obtain ⟨rfl, -,hu0,hu1,hpa,hre⟩:=ht
 have hp : ∀ r ∈ ks.drop hu.toNat,Pw Tb 65 r:=fun r hr=>typ_w hTb r (List.all_eq_true.1 hre r hr)
 have et : Pt.toks (.mk 7 hn hu ks)=[Pt.mk [40]]++(Pt.commaJ ((ks.take hu.toNat).map Pt.toks)++([Pt.mk [41]]++Pt.resJ ((ks.drop hu.toNat).map Pt.toks))):=by rw [Pt.toks_eq,List.map_take,List.map_drop];rfl
 rw [et] at hl
 simp only [cv,aa] at hl
 unfold TCall
 refine bw Tryz.func66 rfl 25 rfl ?_
 refine uA ?_
 refine oB (fun bp => ?_)
 refine cc fun ma hma hA => ?_
 replace hm:=bn hm hma
 replace hB:=hB.mono hma
 refine uA ?_
 refine oB (fun b => ?_)
 refine bD pq3 ?_
 refine uA ?_
 (refine oL tab hA ?_)
 refine uA ?_
 refine qs rfl (cq tab rStr (hs:=[[40]]) (l:=[[40]]) ⟨rfl,trivial⟩ rfl rfl rfl rfl rfl (by decide) (fun sl ma hma hsl _ _ => ?_))
 replace hm:=bn hm hma
 replace hB:=hB.mono hma
 replace hA:=hA.mono hma
 refine uA ?_
 refine oC ct ((cw _ _ bd q s _ hB sl [Pt.mk [40]] hsl (by first | omega | (simp only [aa];omega))).x ?_);
 rintro _ m1 _ ⟨hm1,s,q,rfl,hB⟩
 replace hm:=bn hm hm1
 replace hA:=hA.mono hm1
 clear hm1 hma hsl
 skip
 refine uA ?_
 have h4c:=h4.mono hm
 refine bQ [] cr 8 rfl [.cells b 0 (treeC ⟨7,hn,hu,hks⟩)] (bdL bd q s L) (List.Perm.symm pq3) ?_
 (refine bX (k:=0) tab 0 hA uC uK uK rfl rfl rfl rfl rfl rfl rfl ?_)
 refine bV tab uC uK [1] uK rfl ?_
 (refine bW tab 2 0 uC uK uK rfl rfl rfl rfl rfl rfl rfl rfl ?_)
 refine bV tab uC uK [3] uK rfl ?_
 (refine bW tab 4 0 uC uK uK rfl rfl rfl rfl rfl rfl rfl rfl ?_)
 refine bV tab uC uK [6] uK rfl ?_
 refine bZ 5 rfl rfl uK rfl ?_
 refine OT.cut tab rTree 0 hu.toNat h4c rfl rfl rfl rfl rfl rfl rfl (.inl ⟨rfl,rfl⟩) (.inr (by rw [show ((hu.toNat : Nat) : Int)=hu by omega])) (aU _) (by omega) (fun slp hslp => ?_);rw [bk] at hslp;refine ⟨bm _,_,af _, ?_⟩
 refine bZ 7 rfl rfl uK rfl ?_
 refine ce pq3 (bM rfl rfl rfl rfl rfl rfl goes88 ((each_law (fn:=118) (first:=[]) (cap:=[.pointer (some ⟨bp,0,none⟩)]) (ks:=ks.take hu.toNat) ⟨goes118,fun k hk m2 L q s x h2 hmb hB hr hl=>param_w hTb k (List.all_eq_true.1 hpa k hk) m2 L bd bp q s x h2 (hA.mono hmb) (hT.mono (bn hm hmb)) hB hr hl⟩ _ _ (bm _) q s _ hB slp hslp (by first | omega | (simp only [aa];omega))).x ?_));rintro _ m1 _ ⟨hm1,s,q,rfl,hB⟩;refine ⟨hm1,bdL bd q s L,List.Perm.symm pq3, ?_⟩
 (refine cb uK ?_)
 rotate_left 1
 replace hm:=bn hm hm1
 replace hA:=hA.mono hm1
 refine thenQ_n (TC.perm pq3 ?_)
 refine uA ?_
 (refine oL tab hA ?_)
 refine uA ?_
 refine qs rfl (cq tab rStr (hs:=[[41]]) (l:=[[41]]) ⟨rfl,trivial⟩ rfl rfl rfl rfl rfl (by decide) (fun sl ma hma hsl _ _ => ?_))
 replace hm:=bn hm hma
 replace hB:=hB.mono hma
 replace hA:=hA.mono hma
 refine uA ?_
 refine oC ct ((cw _ _ bd q s _ hB sl [Pt.mk [41]] hsl (by first | omega | (simp only [aa];omega))).x ?_);
 rintro _ m1 _ ⟨hm1,s,q,rfl,hB⟩
 replace hm:=bn hm hm1
 replace hA:=hA.mono hm1
 clear hm1 hma hsl
 skip
 refine uA ?_
 have h4d:=h4.mono hm
 refine bQ [] cr 7 rfl [.cells b 0 (treeC ⟨7,hn,hu,hks⟩)] (bdL bd q s L) (List.Perm.symm pq3) ?_
 (refine bX (k:=0) tab 0 hA uC uK uK rfl rfl rfl rfl rfl rfl rfl ?_)
 refine bV tab uC uK [1] uK rfl ?_
 (refine bW tab 2 0 uC uK uK rfl rfl rfl rfl rfl rfl rfl rfl ?_)
 refine bV tab uC uK [3] uK rfl ?_
 (refine bW tab 4 0 uC uK uK rfl rfl rfl rfl rfl rfl rfl rfl ?_)
 refine bZ 5 rfl rfl uK rfl ?_
 refine OT.cut tab rTree hu.toNat hks.len h4d rfl rfl rfl rfl rfl rfl rfl (.inr (by rw [show ((hu.toNat : Nat) : Int)=hu by omega])) (.inl ⟨rfl,rfl⟩) (by omega) (by omega) (fun slr hslr => ?_);rw [aT (by omega)] at hslr;refine ⟨bm _,_,af _, ?_⟩
 refine bZ 6 rfl rfl uK rfl ?_
 refine ce pq3 (bM rfl rfl rfl rfl rfl rfl goes117 ((results_w hTb _ _ bd q s _ _ slr (hT.mono hm) hB hslr hp (by first | omega | (simp only [aa];omega))).x ?_));rintro _ m1 _ ⟨hm1,s,q,rfl,hB⟩;refine ⟨hm1,bdL bd q s L,List.Perm.symm pq3, ?_⟩
 (refine cb uK ?_)
 rotate_left 1
 refine uA ?_
 refine bv rfl uS ⟨bn hm hm1,s,q,rfl,hB.cast ?_⟩
 rw [et];simp only [cv,am]
end
end Go.Sep


/- PtMoW -/
namespace Go.Sep
open Go.Proofs
attribute [local irreducible] TC TO OT TCallX TCall DO DOt thenQ blockQ retQ At
theorem and_0_1 (w : World) : (Op.intBits .and .i64 0 1).run Tryz.prog w = .ok (.int .i64 0) w:=by
 simp only [Op.intBits,Sem.run_pure]
 rfl
theorem and_0_2 (w : World) : (Op.intBits .and .i64 0 2).run Tryz.prog w = .ok (.int .i64 0) w:=by
 simp only [Op.intBits,Sem.run_pure]
 rfl
theorem and_1_1 (w : World) : (Op.intBits .and .i64 1 1).run Tryz.prog w = .ok (.int .i64 1) w:=by
 simp only [Op.intBits,Sem.run_pure]
 rfl
theorem and_1_2 (w : World) : (Op.intBits .and .i64 1 2).run Tryz.prog w = .ok (.int .i64 0) w:=by
 simp only [Op.intBits,Sem.run_pure]
 rfl
theorem and_2_1 (w : World) : (Op.intBits .and .i64 2 1).run Tryz.prog w = .ok (.int .i64 0) w:=by
 simp only [Op.intBits,Sem.run_pure]
 rfl
theorem and_2_2 (w : World) : (Op.intBits .and .i64 2 2).run Tryz.prog w = .ok (.int .i64 2) w:=by
 simp only [Op.intBits,Sem.run_pure]
 rfl
theorem and_3_1 (w : World) : (Op.intBits .and .i64 3 1).run Tryz.prog w = .ok (.int .i64 1) w:=by
 simp only [Op.intBits,Sem.run_pure]
 rfl
theorem and_3_2 (w : World) : (Op.intBits .and .i64 3 2).run Tryz.prog w = .ok (.int .i64 2) w:=by
 simp only [Op.intBits,Sem.run_pure]
 rfl
section
variable {Tb : Mem→Prop}
structure PT (Tb : Mem→Prop) (a : Tree) : Prop where
 expr : Pt.numB2 a=true→lim.expr a=true→Pw Tb 46 a
 stmt : Pt.numB2 a=true→lim.stmt a=true→Pw Tb 120 a
 block : Pt.numB2 a=true→lim.block a=true→Pw Tb 68 a
theorem more_w (hTb : TbOk Tb) (a : Tree) (ih : ∀ k ∈ a.kids,PT Tb k) (hnum : Pt.numB2 a=true) (he : exprS lim a=true) (h48 : 48 ≤ a.kind) : Pw Tb 89 a:=by
 intro m L bd q s x0 h hT0 hB hr hl
 obtain ⟨h1,h2,h3,h4⟩:=hr
 have hlen:=h4.len
 have hsm:=h4.small rfl
 have hm:=bm m
 have hT : TbM Tb m:=⟨fun h=>hTb.mono hT0 h⟩
 obtain ⟨k,n0,u0,ks⟩:=a
 obtain ⟨hk,hn,hu,hks⟩:=h
 simp only [Tree.kind,Tree.name,Tree.num,Tree.kids] at h1 h2 h3 h4 hlen hsm ih
 subst h1 h2 h3
 have hE : ∀ x ∈ ks,lim.expr x=true→Pw Tb 46 x:=fun x hx h=>(ih x hx).expr (Pt.num_kid hnum (by simpa [Tree.kids] using hx)) h
 by_cases e : hk=48
 ·subst e
  have hf : (ofB (.mk 48 hn hu ks) 48 && kidsR [lim.expr] none ks)=true:=he
  rw [aj] at hf
  obtain ⟨x,rfl,hx⟩:=Pt.kids1 hf.2
  have px:=hE x (by simp) hx
  have hxi : [x][0]? = some x:=rfl
  have et : Pt.toks (.mk 48 hn hu [x])=Pt.toks x++[Pt.mk [46],Pt.nm hn]:=by rw [Pt.toks_eq];rfl
  rw [et] at hl
  try simp only [cv,aa] at hl
  unfold TCall
  refine bw Tryz.func89 rfl 140 rfl ?_
  refine uA ?_
  refine oB (fun b => ?_)
  refine bD pq3 ?_
  refine uL ?_
  have h4c:=h4.mono hm
  refine qs rfl (bO tab rTree 0 h4c rfl rfl rfl rfl rfl (by first | rfl | omega | (simp only;omega)) rfl hxi ?_)
  rintro b7 i7 h7 hr7 hA7
  (refine oL tab hA7 ?_)
  refine uA ?_
  refine oC goes46 ((px _ _ bd q s _ h7 (hT.mono hm) hB (rTree_iff.1 hr7) (by first | omega | (simp only [aa];omega))).x ?_);
  rintro _ m1 _ ⟨hm1,s,q,rfl,hB⟩
  replace hm:=bn hm hm1
  clear hm1 h4c hr7 hA7
  refine uL ?_
  refine qs rfl (cq tab rStr (hs:=[[46],hn]) (l:=[[46],hn]) ⟨rfl,rfl,trivial⟩ rfl rfl rfl rfl rfl (by decide) (fun sl ma hma hsl _ _ => ?_))
  replace hm:=bn hm hma
  replace hB:=hB.mono hma
  refine uA ?_
  refine oC ct ((cw _ _ bd q s _ hB sl [Pt.mk [46],Pt.nm hn] hsl (by first | omega | (simp only [aa];omega))).x ?_);
  rintro _ m1 _ ⟨hm1,s,q,rfl,hB⟩
  replace hm:=bn hm hm1
  clear hm1 hma hsl
  refine uA ?_
  refine bv rfl uS ⟨hm,s,q,rfl,hB.cast ?_⟩
  rw [et];try simp only [cv,am]
 by_cases e : hk=49
 ·subst e
  have hf : (bareB (.mk 49 hn hu ks) true false false && kidsR [lim.expr,lim.expr] none ks)=true:=he
  rw [aj] at hf
  obtain ⟨x,y,rfl,hx,hy⟩:=Pt.kids2 hf.2
  have px:=hE x (by simp) hx
  have py:=hE y (by simp) hy
  have hxi : [x,y][0]? = some x:=rfl
  have hyi : [x,y][1]? = some y:=rfl
  have et : Pt.toks (.mk 49 hn hu [x,y])=Pt.toks x++([Pt.mk [91]]++(Pt.toks y++[Pt.mk [93]])):=by rw [Pt.toks_eq];rfl
  rw [et] at hl
  try simp only [cv,aa] at hl
  unfold TCall
  refine bw Tryz.func89 rfl 140 rfl ?_
  refine uA ?_
  refine oB (fun b => ?_)
  refine bD pq3 ?_
  refine uL ?_
  have h4c:=h4.mono hm
  refine qs rfl (bO tab rTree 0 h4c rfl rfl rfl rfl rfl (by first | rfl | omega | (simp only;omega)) rfl hxi ?_)
  rintro b7 i7 h7 hr7 hA7
  (refine oL tab hA7 ?_)
  refine uA ?_
  refine oC goes46 ((px _ _ bd q s _ h7 (hT.mono hm) hB (rTree_iff.1 hr7) (by first | omega | (simp only [aa];omega))).x ?_);
  rintro _ m1 _ ⟨hm1,s,q,rfl,hB⟩
  replace hm:=bn hm hm1
  clear hm1 h4c hr7 hA7
  refine uL ?_
  refine qs rfl (cq tab rStr (hs:=[[91]]) (l:=[[91]]) ⟨rfl,trivial⟩ rfl rfl rfl rfl rfl (by decide) (fun sl ma hma hsl _ _ => ?_))
  replace hm:=bn hm hma
  replace hB:=hB.mono hma
  refine uA ?_
  refine oC ct ((cw _ _ bd q s _ hB sl [Pt.mk [91]] hsl (by first | omega | (simp only [aa];omega))).x ?_);
  rintro _ m1 _ ⟨hm1,s,q,rfl,hB⟩
  replace hm:=bn hm hm1
  clear hm1 hma hsl
  refine uL ?_
  have h4c:=h4.mono hm
  refine qs rfl (bO tab rTree 1 h4c rfl rfl rfl rfl rfl (by first | rfl | omega | (simp only;omega)) rfl hyi ?_)
  rintro b7 i7 h7 hr7 hA7
  (refine oL tab hA7 ?_)
  refine uA ?_
  refine oC goes46 ((py _ _ bd q s _ h7 (hT.mono hm) hB (rTree_iff.1 hr7) (by first | omega | (simp only [aa];omega))).x ?_);
  rintro _ m1 _ ⟨hm1,s,q,rfl,hB⟩
  replace hm:=bn hm hm1
  clear hm1 h4c hr7 hA7
  refine uL ?_
  refine qs rfl (cq tab rStr (hs:=[[93]]) (l:=[[93]]) ⟨rfl,trivial⟩ rfl rfl rfl rfl rfl (by decide) (fun sl ma hma hsl _ _ => ?_))
  replace hm:=bn hm hma
  replace hB:=hB.mono hma
  refine uA ?_
  refine oC ct ((cw _ _ bd q s _ hB sl [Pt.mk [93]] hsl (by first | omega | (simp only [aa];omega))).x ?_);
  rintro _ m1 _ ⟨hm1,s,q,rfl,hB⟩
  replace hm:=bn hm hm1
  clear hm1 hma hsl
  refine uA ?_
  refine bv rfl uS ⟨hm,s,q,rfl,hB.cast ?_⟩
  rw [et];try simp only [cv,am]
 by_cases e : hk=50
 ·subst e
  have hf : (bareB (.mk 50 hn hu ks) (lvl (.mk 50 hn hu ks)) false true && ks.all lim.expr)=true:=he
  rw [aj] at hf
  have hlv : (decide (0 ≤ hu) && (decide (hu ≤ 3) && decide ((ks.length : Int)=1 + hu % 2 + hu / 2)))=true:=(Pt.bare_f hf.1).1
  simp only [aj,ao] at hlv
  have hE2 : ∀ x ∈ ks,Pw Tb 46 x:=fun x hx=>hE x hx (List.all_eq_true.1 hf.2 x hx)
  have hu4 : hu=0 ∨ hu=1 ∨ hu=2 ∨ hu=3:=by omega
  rcases hu4 with rfl | rfl | rfl | rfl
  ·skip
   obtain ⟨x,rfl⟩:=List.length_eq_one_iff.1 (show ks.length=1 by omega)
   have px:=hE2 x (by simp)
   have hxi : [x][0]? = some x:=rfl
   have et : Pt.toks (.mk 50 hn 0 [x])=Pt.toks x++([Pt.mk [91]]++([Pt.mk [58]]++[Pt.mk [93]])):=by rw [Pt.toks_eq];rfl
   rw [et] at hl
   try simp only [cv,aa] at hl
   unfold TCall
   refine bw Tryz.func89 rfl 140 rfl ?_
   refine uA ?_
   refine oB (fun b => ?_)
   refine bD pq3 ?_
   refine uL ?_
   have h4c:=h4.mono hm
   refine qs rfl (bO tab rTree 0 h4c rfl rfl rfl rfl rfl (by first | rfl | omega | (simp only;omega)) rfl hxi ?_)
   rintro b7 i7 h7 hr7 hA7
   (refine oL tab hA7 ?_)
   refine uA ?_
   refine oC goes46 ((px _ _ bd q s _ h7 (hT.mono hm) hB (rTree_iff.1 hr7) (by first | omega | (simp only [aa];omega))).x ?_);
   rintro _ m1 _ ⟨hm1,s,q,rfl,hB⟩
   replace hm:=bn hm hm1
   clear hm1 h4c hr7 hA7
   refine uL ?_
   refine qs rfl (cq tab rStr (hs:=[[91]]) (l:=[[91]]) ⟨rfl,trivial⟩ rfl rfl rfl rfl rfl (by decide) (fun sl ma hma hsl _ _ => ?_))
   replace hm:=bn hm hma
   replace hB:=hB.mono hma
   refine uA ?_
   refine oC ct ((cw _ _ bd q s _ hB sl [Pt.mk [91]] hsl (by first | omega | (simp only [aa];omega))).x ?_);
   rintro _ m1 _ ⟨hm1,s,q,rfl,hB⟩
   replace hm:=bn hm hm1
   clear hm1 hma hsl
   refine uL ?_
   refine qs rfl (OT.andK (r:=0) rfl rfl rfl rfl rfl (fun w=>and_0_1 w) ?_)
   refine uL ?_
   refine qs rfl (cq tab rStr (hs:=[[58]]) (l:=[[58]]) ⟨rfl,trivial⟩ rfl rfl rfl rfl rfl (by decide) (fun sl ma hma hsl _ _ => ?_))
   replace hm:=bn hm hma
   replace hB:=hB.mono hma
   refine uA ?_
   refine oC ct ((cw _ _ bd q s _ hB sl [Pt.mk [58]] hsl (by first | omega | (simp only [aa];omega))).x ?_);
   rintro _ m1 _ ⟨hm1,s,q,rfl,hB⟩
   replace hm:=bn hm hm1
   clear hm1 hma hsl
   refine uL ?_
   refine qs rfl (OT.andK (r:=0) rfl rfl rfl rfl rfl (fun w=>and_0_2 w) ?_)
   refine uL ?_
   refine qs rfl (cq tab rStr (hs:=[[93]]) (l:=[[93]]) ⟨rfl,trivial⟩ rfl rfl rfl rfl rfl (by decide) (fun sl ma hma hsl _ _ => ?_))
   replace hm:=bn hm hma
   replace hB:=hB.mono hma
   refine uA ?_
   refine oC ct ((cw _ _ bd q s _ hB sl [Pt.mk [93]] hsl (by first | omega | (simp only [aa];omega))).x ?_);
   rintro _ m1 _ ⟨hm1,s,q,rfl,hB⟩
   replace hm:=bn hm hm1
   clear hm1 hma hsl
   refine uA ?_
   refine bv rfl uS ⟨hm,s,q,rfl,hB.cast ?_⟩
   rw [et];try simp only [cv,am]
  ·skip
   obtain ⟨x,y,rfl⟩:=Pt.len2 (show ks.length=2 by omega)
   obtain ⟨sa,sn,sc⟩:=hks
   obtain rfl : sn=2:=hlen
   have px:=hE2 x (by simp)
   have hxi : [x,y][0]? = some x:=rfl
   have py:=hE2 y (by simp)
   have hyi : [x,y][1]? = some y:=rfl
   have et : Pt.toks (.mk 50 hn 1 [x,y])=Pt.toks x++([Pt.mk [91]]++(Pt.toks y++([Pt.mk [58]]++[Pt.mk [93]]))):=by rw [Pt.toks_eq];rfl
   rw [et] at hl
   try simp only [cv,aa] at hl
   unfold TCall
   refine bw Tryz.func89 rfl 140 rfl ?_
   refine uA ?_
   refine oB (fun b => ?_)
   refine bD pq3 ?_
   refine uL ?_
   have h4c:=h4.mono hm
   refine qs rfl (bO tab rTree 0 h4c rfl rfl rfl rfl rfl (by first | rfl | omega | (simp only;omega)) rfl hxi ?_)
   rintro b7 i7 h7 hr7 hA7
   (refine oL tab hA7 ?_)
   refine uA ?_
   refine oC goes46 ((px _ _ bd q s _ h7 (hT.mono hm) hB (rTree_iff.1 hr7) (by first | omega | (simp only [aa];omega))).x ?_);
   rintro _ m1 _ ⟨hm1,s,q,rfl,hB⟩
   replace hm:=bn hm hm1
   clear hm1 h4c hr7 hA7
   refine uL ?_
   refine qs rfl (cq tab rStr (hs:=[[91]]) (l:=[[91]]) ⟨rfl,trivial⟩ rfl rfl rfl rfl rfl (by decide) (fun sl ma hma hsl _ _ => ?_))
   replace hm:=bn hm hma
   replace hB:=hB.mono hma
   refine uA ?_
   refine oC ct ((cw _ _ bd q s _ hB sl [Pt.mk [91]] hsl (by first | omega | (simp only [aa];omega))).x ?_);
   rintro _ m1 _ ⟨hm1,s,q,rfl,hB⟩
   replace hm:=bn hm hm1
   clear hm1 hma hsl
   refine uL ?_
   refine qs rfl (OT.andK (r:=1) rfl rfl rfl rfl rfl (fun w=>and_1_1 w) ?_)
   refine uL ?_
   have h4c:=h4.mono hm
   refine qs rfl (bO tab rTree 1 h4c rfl rfl rfl rfl rfl (by first | rfl | omega | (simp only;omega)) rfl hyi ?_)
   rintro b7 i7 h7 hr7 hA7
   (refine oL tab hA7 ?_)
   refine uA ?_
   refine oC goes46 ((py _ _ bd q s _ h7 (hT.mono hm) hB (rTree_iff.1 hr7) (by first | omega | (simp only [aa];omega))).x ?_);
   rintro _ m1 _ ⟨hm1,s,q,rfl,hB⟩
   replace hm:=bn hm hm1
   clear hm1 h4c hr7 hA7
   refine uL ?_
   refine qs rfl (cq tab rStr (hs:=[[58]]) (l:=[[58]]) ⟨rfl,trivial⟩ rfl rfl rfl rfl rfl (by decide) (fun sl ma hma hsl _ _ => ?_))
   replace hm:=bn hm hma
   replace hB:=hB.mono hma
   refine uA ?_
   refine oC ct ((cw _ _ bd q s _ hB sl [Pt.mk [58]] hsl (by first | omega | (simp only [aa];omega))).x ?_);
   rintro _ m1 _ ⟨hm1,s,q,rfl,hB⟩
   replace hm:=bn hm hm1
   clear hm1 hma hsl
   refine uL ?_
   refine qs rfl (OT.andK (r:=0) rfl rfl rfl rfl rfl (fun w=>and_1_2 w) ?_)
   refine uL ?_
   refine qs rfl (cq tab rStr (hs:=[[93]]) (l:=[[93]]) ⟨rfl,trivial⟩ rfl rfl rfl rfl rfl (by decide) (fun sl ma hma hsl _ _ => ?_))
   replace hm:=bn hm hma
   replace hB:=hB.mono hma
   refine uA ?_
   refine oC ct ((cw _ _ bd q s _ hB sl [Pt.mk [93]] hsl (by first | omega | (simp only [aa];omega))).x ?_);
   rintro _ m1 _ ⟨hm1,s,q,rfl,hB⟩
   replace hm:=bn hm hm1
   clear hm1 hma hsl
   refine uA ?_
   refine bv rfl uS ⟨hm,s,q,rfl,hB.cast ?_⟩
   rw [et];try simp only [cv,am]
  ·skip
   obtain ⟨x,y,rfl⟩:=Pt.len2 (show ks.length=2 by omega)
   obtain ⟨sa,sn,sc⟩:=hks
   obtain rfl : sn=2:=hlen
   have px:=hE2 x (by simp)
   have hxi : [x,y][0]? = some x:=rfl
   have py:=hE2 y (by simp)
   have hyi : [x,y][1]? = some y:=rfl
   have et : Pt.toks (.mk 50 hn 2 [x,y])=Pt.toks x++([Pt.mk [91]]++([Pt.mk [58]]++(Pt.toks y++[Pt.mk [93]]))):=by rw [Pt.toks_eq];rfl
   rw [et] at hl
   try simp only [cv,aa] at hl
   unfold TCall
   refine bw Tryz.func89 rfl 140 rfl ?_
   refine uA ?_
   refine oB (fun b => ?_)
   refine bD pq3 ?_
   refine uL ?_
   have h4c:=h4.mono hm
   refine qs rfl (bO tab rTree 0 h4c rfl rfl rfl rfl rfl (by first | rfl | omega | (simp only;omega)) rfl hxi ?_)
   rintro b7 i7 h7 hr7 hA7
   (refine oL tab hA7 ?_)
   refine uA ?_
   refine oC goes46 ((px _ _ bd q s _ h7 (hT.mono hm) hB (rTree_iff.1 hr7) (by first | omega | (simp only [aa];omega))).x ?_);
   rintro _ m1 _ ⟨hm1,s,q,rfl,hB⟩
   replace hm:=bn hm hm1
   clear hm1 h4c hr7 hA7
   refine uL ?_
   refine qs rfl (cq tab rStr (hs:=[[91]]) (l:=[[91]]) ⟨rfl,trivial⟩ rfl rfl rfl rfl rfl (by decide) (fun sl ma hma hsl _ _ => ?_))
   replace hm:=bn hm hma
   replace hB:=hB.mono hma
   refine uA ?_
   refine oC ct ((cw _ _ bd q s _ hB sl [Pt.mk [91]] hsl (by first | omega | (simp only [aa];omega))).x ?_);
   rintro _ m1 _ ⟨hm1,s,q,rfl,hB⟩
   replace hm:=bn hm hm1
   clear hm1 hma hsl
   refine uL ?_
   refine qs rfl (OT.andK (r:=0) rfl rfl rfl rfl rfl (fun w=>and_2_1 w) ?_)
   refine uL ?_
   refine qs rfl (cq tab rStr (hs:=[[58]]) (l:=[[58]]) ⟨rfl,trivial⟩ rfl rfl rfl rfl rfl (by decide) (fun sl ma hma hsl _ _ => ?_))
   replace hm:=bn hm hma
   replace hB:=hB.mono hma
   refine uA ?_
   refine oC ct ((cw _ _ bd q s _ hB sl [Pt.mk [58]] hsl (by first | omega | (simp only [aa];omega))).x ?_);
   rintro _ m1 _ ⟨hm1,s,q,rfl,hB⟩
   replace hm:=bn hm hm1
   clear hm1 hma hsl
   refine uL ?_
   refine qs rfl (OT.andK (r:=2) rfl rfl rfl rfl rfl (fun w=>and_2_2 w) ?_)
   refine uL ?_
   refine qs rfl (bK (r':=1) rfl rfl rfl rfl rfl rfl rfl (by decide) ?_)
   refine uA ?_
   have h4c:=h4.mono hm
   refine qs rfl (bO tab rTree 1 h4c rfl rfl rfl rfl rfl (by first | rfl | omega | (simp only;omega)) rfl hyi ?_)
   rintro b7 i7 h7 hr7 hA7
   (refine oL tab hA7 ?_)
   refine uA ?_
   refine oC goes46 ((py _ _ bd q s _ h7 (hT.mono hm) hB (rTree_iff.1 hr7) (by first | omega | (simp only [aa];omega))).x ?_);
   rintro _ m1 _ ⟨hm1,s,q,rfl,hB⟩
   replace hm:=bn hm hm1
   clear hm1 h4c hr7 hA7
   refine uL ?_
   refine qs rfl (cq tab rStr (hs:=[[93]]) (l:=[[93]]) ⟨rfl,trivial⟩ rfl rfl rfl rfl rfl (by decide) (fun sl ma hma hsl _ _ => ?_))
   replace hm:=bn hm hma
   replace hB:=hB.mono hma
   refine uA ?_
   refine oC ct ((cw _ _ bd q s _ hB sl [Pt.mk [93]] hsl (by first | omega | (simp only [aa];omega))).x ?_);
   rintro _ m1 _ ⟨hm1,s,q,rfl,hB⟩
   replace hm:=bn hm hm1
   clear hm1 hma hsl
   refine uA ?_
   refine bv rfl uS ⟨hm,s,q,rfl,hB.cast ?_⟩
   rw [et];try simp only [cv,am]
  ·skip
   obtain ⟨x,y,z,rfl⟩:=Pt.len3 (show ks.length=3 by omega)
   obtain ⟨sa,sn,sc⟩:=hks
   obtain rfl : sn=3:=hlen
   have px:=hE2 x (by simp)
   have hxi : [x,y,z][0]? = some x:=rfl
   have py:=hE2 y (by simp)
   have hyi : [x,y,z][1]? = some y:=rfl
   have pz:=hE2 z (by simp)
   have hzi : [x,y,z][2]? = some z:=rfl
   have et : Pt.toks (.mk 50 hn 3 [x,y,z])=Pt.toks x++([Pt.mk [91]]++(Pt.toks y++([Pt.mk [58]]++(Pt.toks z++[Pt.mk [93]])))):=by rw [Pt.toks_eq];rfl
   rw [et] at hl
   try simp only [cv,aa] at hl
   unfold TCall
   refine bw Tryz.func89 rfl 140 rfl ?_
   refine uA ?_
   refine oB (fun b => ?_)
   refine bD pq3 ?_
   refine uL ?_
   have h4c:=h4.mono hm
   refine qs rfl (bO tab rTree 0 h4c rfl rfl rfl rfl rfl (by first | rfl | omega | (simp only;omega)) rfl hxi ?_)
   rintro b7 i7 h7 hr7 hA7
   (refine oL tab hA7 ?_)
   refine uA ?_
   refine oC goes46 ((px _ _ bd q s _ h7 (hT.mono hm) hB (rTree_iff.1 hr7) (by first | omega | (simp only [aa];omega))).x ?_);
   rintro _ m1 _ ⟨hm1,s,q,rfl,hB⟩
   replace hm:=bn hm hm1
   clear hm1 h4c hr7 hA7
   refine uL ?_
   refine qs rfl (cq tab rStr (hs:=[[91]]) (l:=[[91]]) ⟨rfl,trivial⟩ rfl rfl rfl rfl rfl (by decide) (fun sl ma hma hsl _ _ => ?_))
   replace hm:=bn hm hma
   replace hB:=hB.mono hma
   refine uA ?_
   refine oC ct ((cw _ _ bd q s _ hB sl [Pt.mk [91]] hsl (by first | omega | (simp only [aa];omega))).x ?_);
   rintro _ m1 _ ⟨hm1,s,q,rfl,hB⟩
   replace hm:=bn hm hm1
   clear hm1 hma hsl
   refine uL ?_
   refine qs rfl (OT.andK (r:=1) rfl rfl rfl rfl rfl (fun w=>and_3_1 w) ?_)
   refine uL ?_
   have h4c:=h4.mono hm
   refine qs rfl (bO tab rTree 1 h4c rfl rfl rfl rfl rfl (by first | rfl | omega | (simp only;omega)) rfl hyi ?_)
   rintro b7 i7 h7 hr7 hA7
   (refine oL tab hA7 ?_)
   refine uA ?_
   refine oC goes46 ((py _ _ bd q s _ h7 (hT.mono hm) hB (rTree_iff.1 hr7) (by first | omega | (simp only [aa];omega))).x ?_);
   rintro _ m1 _ ⟨hm1,s,q,rfl,hB⟩
   replace hm:=bn hm hm1
   clear hm1 h4c hr7 hA7
   refine uL ?_
   refine qs rfl (cq tab rStr (hs:=[[58]]) (l:=[[58]]) ⟨rfl,trivial⟩ rfl rfl rfl rfl rfl (by decide) (fun sl ma hma hsl _ _ => ?_))
   replace hm:=bn hm hma
   replace hB:=hB.mono hma
   refine uA ?_
   refine oC ct ((cw _ _ bd q s _ hB sl [Pt.mk [58]] hsl (by first | omega | (simp only [aa];omega))).x ?_);
   rintro _ m1 _ ⟨hm1,s,q,rfl,hB⟩
   replace hm:=bn hm hm1
   clear hm1 hma hsl
   refine uL ?_
   refine qs rfl (OT.andK (r:=2) rfl rfl rfl rfl rfl (fun w=>and_3_2 w) ?_)
   refine uL ?_
   refine qs rfl (bK (r':=2) rfl rfl rfl rfl rfl rfl rfl (by decide) ?_)
   refine uA ?_
   have h4c:=h4.mono hm
   refine qs rfl (bO tab rTree 2 h4c rfl rfl rfl rfl rfl (by first | rfl | omega | (simp only;omega)) rfl hzi ?_)
   rintro b7 i7 h7 hr7 hA7
   (refine oL tab hA7 ?_)
   refine uA ?_
   refine oC goes46 ((pz _ _ bd q s _ h7 (hT.mono hm) hB (rTree_iff.1 hr7) (by first | omega | (simp only [aa];omega))).x ?_);
   rintro _ m1 _ ⟨hm1,s,q,rfl,hB⟩
   replace hm:=bn hm hm1
   clear hm1 h4c hr7 hA7
   refine uL ?_
   refine qs rfl (cq tab rStr (hs:=[[93]]) (l:=[[93]]) ⟨rfl,trivial⟩ rfl rfl rfl rfl rfl (by decide) (fun sl ma hma hsl _ _ => ?_))
   replace hm:=bn hm hma
   replace hB:=hB.mono hma
   refine uA ?_
   refine oC ct ((cw _ _ bd q s _ hB sl [Pt.mk [93]] hsl (by first | omega | (simp only [aa];omega))).x ?_);
   rintro _ m1 _ ⟨hm1,s,q,rfl,hB⟩
   replace hm:=bn hm hm1
   clear hm1 hma hsl
   refine uA ?_
   refine bv rfl uS ⟨hm,s,q,rfl,hB.cast ?_⟩
   rw [et];try simp only [cv,am]
 by_cases e : hk=51
 ·subst e
  have hf : (bareB (.mk 51 hn hu ks) true false false && kidsR [lim.expr] (some lim.expr) ks)=true:=he
  rw [aj] at hf
  obtain ⟨x,r,rfl,hx,hr⟩:=Pt.kidsS hf.2
  have px:=hE x (by simp) hx
  have hxi : (x :: r)[0]? = some x:=rfl
  have hpr : ∀ k ∈ r,Pw Tb 46 k:=fun k hk=>hE k (by simp [hk]) (hr k hk)
  have et : Pt.toks (.mk 51 hn hu (x :: r))=Pt.toks x++([Pt.mk [40]]++(Pt.commaJ (r.map Pt.toks)++[Pt.mk [41]])):=by rw [Pt.toks_eq];rfl
  rw [et] at hl
  try simp only [cv,aa] at hl
  unfold TCall
  refine bw Tryz.func89 rfl 140 rfl ?_
  refine uA ?_
  refine oB (fun b => ?_)
  refine bD pq3 ?_
  refine uL ?_
  have h4c:=h4.mono hm
  refine qs rfl (bO tab rTree 0 h4c rfl rfl rfl rfl rfl (by first | rfl | omega | (simp only;omega)) rfl hxi ?_)
  rintro b7 i7 h7 hr7 hA7
  (refine oL tab hA7 ?_)
  refine uA ?_
  refine oC goes46 ((px _ _ bd q s _ h7 (hT.mono hm) hB (rTree_iff.1 hr7) (by first | omega | (simp only [aa];omega))).x ?_);
  rintro _ m1 _ ⟨hm1,s,q,rfl,hB⟩
  replace hm:=bn hm hm1
  clear hm1 h4c hr7 hA7
  refine uL ?_
  refine qs rfl (cq tab rStr (hs:=[[40]]) (l:=[[40]]) ⟨rfl,trivial⟩ rfl rfl rfl rfl rfl (by decide) (fun sl ma hma hsl _ _ => ?_))
  replace hm:=bn hm hma
  replace hB:=hB.mono hma
  refine uA ?_
  refine oC ct ((cw _ _ bd q s _ hB sl [Pt.mk [40]] hsl (by first | omega | (simp only [aa];omega))).x ?_);
  rintro _ m1 _ ⟨hm1,s,q,rfl,hB⟩
  replace hm:=bn hm hm1
  clear hm1 hma hsl
  refine uL ?_
  have h4d:=h4.mono hm
  refine qs rfl (OT.cut tab rTree 1 hks.len h4d rfl rfl rfl rfl rfl rfl rfl (.inr rfl) (.inl ⟨rfl,rfl⟩) (by simp only [ab] at hlen;omega) (by omega) (fun slr hslr => ?_))
  rw [aT (by omega),List.drop_succ_cons,bk] at hslr
  refine uA ?_
  refine oC goes88 ((each_law (Cbk.of hTb hpr goes46 (hT.mono hm)) _ _ (bm _) q s _ hB slr hslr (by first | omega | (simp only [aa];omega))).x ?_);
  rintro _ m1 _ ⟨hm1,s,q,rfl,hB⟩
  replace hm:=bn hm hm1
  refine uA ?_
  refine qs rfl (cq tab rStr (hs:=[[41]]) (l:=[[41]]) ⟨rfl,trivial⟩ rfl rfl rfl rfl rfl (by decide) (fun sl ma hma hsl _ _ => ?_))
  replace hm:=bn hm hma
  replace hB:=hB.mono hma
  refine uA ?_
  refine oC ct ((cw _ _ bd q s _ hB sl [Pt.mk [41]] hsl (by first | omega | (simp only [aa];omega))).x ?_);
  rintro _ m1 _ ⟨hm1,s,q,rfl,hB⟩
  replace hm:=bn hm hm1
  clear hm1 hma hsl
  refine uA ?_
  refine bv rfl uS ⟨hm,s,q,rfl,hB.cast ?_⟩
  rw [et];try simp only [cv,am]
 by_cases e : hk=52
 ·subst e
  have hf : (bareB (.mk 52 hn hu ks) (decide (hn ∈ ops4)) true false && kidsR [lim.expr] none ks)=true:=he
  rw [aj] at hf
  obtain ⟨x,rfl,hx⟩:=Pt.kids1 hf.2
  have px:=hE x (by simp) hx
  have hxi : [x][0]? = some x:=rfl
  have et : Pt.toks (.mk 52 hn hu [x])=[Pt.mk [40],Pt.mk hn]++(Pt.toks x++[Pt.mk [41]]):=by rw [Pt.toks_eq];rfl
  rw [et] at hl
  try simp only [cv,aa] at hl
  unfold TCall
  refine bw Tryz.func89 rfl 140 rfl ?_
  refine uA ?_
  refine oB (fun b => ?_)
  refine bD pq3 ?_
  refine uL ?_
  refine qs rfl (cq tab rStr (hs:=[[40],hn]) (l:=[[40],hn]) ⟨rfl,rfl,trivial⟩ rfl rfl rfl rfl rfl (by decide) (fun sl ma hma hsl _ _ => ?_))
  replace hm:=bn hm hma
  replace hB:=hB.mono hma
  refine uA ?_
  refine oC ct ((cw _ _ bd q s _ hB sl [Pt.mk [40],Pt.mk hn] hsl (by first | omega | (simp only [aa];omega))).x ?_);
  rintro _ m1 _ ⟨hm1,s,q,rfl,hB⟩
  replace hm:=bn hm hm1
  clear hm1 hma hsl
  refine uL ?_
  have h4c:=h4.mono hm
  refine qs rfl (bO tab rTree 0 h4c rfl rfl rfl rfl rfl (by first | rfl | omega | (simp only;omega)) rfl hxi ?_)
  rintro b7 i7 h7 hr7 hA7
  (refine oL tab hA7 ?_)
  refine uA ?_
  refine oC goes46 ((px _ _ bd q s _ h7 (hT.mono hm) hB (rTree_iff.1 hr7) (by first | omega | (simp only [aa];omega))).x ?_);
  rintro _ m1 _ ⟨hm1,s,q,rfl,hB⟩
  replace hm:=bn hm hm1
  clear hm1 h4c hr7 hA7
  refine uL ?_
  refine qs rfl (cq tab rStr (hs:=[[41]]) (l:=[[41]]) ⟨rfl,trivial⟩ rfl rfl rfl rfl rfl (by decide) (fun sl ma hma hsl _ _ => ?_))
  replace hm:=bn hm hma
  replace hB:=hB.mono hma
  refine uA ?_
  refine oC ct ((cw _ _ bd q s _ hB sl [Pt.mk [41]] hsl (by first | omega | (simp only [aa];omega))).x ?_);
  rintro _ m1 _ ⟨hm1,s,q,rfl,hB⟩
  replace hm:=bn hm hm1
  clear hm1 hma hsl
  refine uA ?_
  refine bv rfl uS ⟨hm,s,q,rfl,hB.cast ?_⟩
  rw [et];try simp only [cv,am]
 by_cases e : hk=53
 ·subst e
  have hf : (bareB (.mk 53 hn hu ks) (decide (hn ∈ Ps.levels.flatten)) true false && kidsR [lim.expr,lim.expr] none ks)=true:=he
  rw [aj] at hf
  obtain ⟨x,y,rfl,hx,hy⟩:=Pt.kids2 hf.2
  have px:=hE x (by simp) hx
  have py:=hE y (by simp) hy
  have hxi : [x,y][0]? = some x:=rfl
  have hyi : [x,y][1]? = some y:=rfl
  have et : Pt.toks (.mk 53 hn hu [x,y])=[Pt.mk [40]]++(Pt.toks x++([Pt.mk hn]++(Pt.toks y++[Pt.mk [41]]))):=by rw [Pt.toks_eq];rfl
  rw [et] at hl
  try simp only [cv,aa] at hl
  unfold TCall
  refine bw Tryz.func89 rfl 140 rfl ?_
  refine uA ?_
  refine oB (fun b => ?_)
  refine bD pq3 ?_
  refine uL ?_
  refine qs rfl (cq tab rStr (hs:=[[40]]) (l:=[[40]]) ⟨rfl,trivial⟩ rfl rfl rfl rfl rfl (by decide) (fun sl ma hma hsl _ _ => ?_))
  replace hm:=bn hm hma
  replace hB:=hB.mono hma
  refine uA ?_
  refine oC ct ((cw _ _ bd q s _ hB sl [Pt.mk [40]] hsl (by first | omega | (simp only [aa];omega))).x ?_);
  rintro _ m1 _ ⟨hm1,s,q,rfl,hB⟩
  replace hm:=bn hm hm1
  clear hm1 hma hsl
  refine uL ?_
  have h4c:=h4.mono hm
  refine qs rfl (bO tab rTree 0 h4c rfl rfl rfl rfl rfl (by first | rfl | omega | (simp only;omega)) rfl hxi ?_)
  rintro b7 i7 h7 hr7 hA7
  (refine oL tab hA7 ?_)
  refine uA ?_
  refine oC goes46 ((px _ _ bd q s _ h7 (hT.mono hm) hB (rTree_iff.1 hr7) (by first | omega | (simp only [aa];omega))).x ?_);
  rintro _ m1 _ ⟨hm1,s,q,rfl,hB⟩
  replace hm:=bn hm hm1
  clear hm1 h4c hr7 hA7
  refine uL ?_
  refine qs rfl (cq tab rStr (hs:=[hn]) (l:=[hn]) ⟨rfl,trivial⟩ rfl rfl rfl rfl rfl (by decide) (fun sl ma hma hsl _ _ => ?_))
  replace hm:=bn hm hma
  replace hB:=hB.mono hma
  refine uA ?_
  refine oC ct ((cw _ _ bd q s _ hB sl [Pt.mk hn] hsl (by first | omega | (simp only [aa];omega))).x ?_);
  rintro _ m1 _ ⟨hm1,s,q,rfl,hB⟩
  replace hm:=bn hm hm1
  clear hm1 hma hsl
  refine uL ?_
  have h4c:=h4.mono hm
  refine qs rfl (bO tab rTree 1 h4c rfl rfl rfl rfl rfl (by first | rfl | omega | (simp only;omega)) rfl hyi ?_)
  rintro b7 i7 h7 hr7 hA7
  (refine oL tab hA7 ?_)
  refine uA ?_
  refine oC goes46 ((py _ _ bd q s _ h7 (hT.mono hm) hB (rTree_iff.1 hr7) (by first | omega | (simp only [aa];omega))).x ?_);
  rintro _ m1 _ ⟨hm1,s,q,rfl,hB⟩
  replace hm:=bn hm hm1
  clear hm1 h4c hr7 hA7
  refine uL ?_
  refine qs rfl (cq tab rStr (hs:=[[41]]) (l:=[[41]]) ⟨rfl,trivial⟩ rfl rfl rfl rfl rfl (by decide) (fun sl ma hma hsl _ _ => ?_))
  replace hm:=bn hm hma
  replace hB:=hB.mono hma
  refine uA ?_
  refine oC ct ((cw _ _ bd q s _ hB sl [Pt.mk [41]] hsl (by first | omega | (simp only [aa];omega))).x ?_);
  rintro _ m1 _ ⟨hm1,s,q,rfl,hB⟩
  replace hm:=bn hm hm1
  clear hm1 hma hsl
  refine uA ?_
  refine bv rfl uS ⟨hm,s,q,rfl,hB.cast ?_⟩
  rw [et];try simp only [cv,am]
 exfalso
 have h48' : 48 ≤ hk:=h48
 unfold exprS at he
 simp only [Tree.kind] at he
 have n1 : ¬ hk=40:=by omega
 have n2 : ¬ hk=41:=by omega
 have n3 : ¬ hk=42:=by omega
 have n4 : ¬ hk=43:=by omega
 have n5 : ¬ hk=44:=by omega
 have n6 : ¬ hk=45:=by omega
 have n7 : ¬ hk=46:=by omega
 have n8 : ¬ hk=47:=by omega
 simp [*] at he
end
end Go.Sep

